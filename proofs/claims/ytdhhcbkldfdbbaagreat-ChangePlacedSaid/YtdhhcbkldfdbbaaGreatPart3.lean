/-
  Part3: this text joins 14 texts; each says ahead of itself what it proves.
-/
import Derived.Shelf.SlMaps.Clone
import Derived.Maps.AppendAt
import Derived.RangeFuncBox
import Derived.Shelf.SlSortCmp.NoneTotal
import Derived.Shelf.SlGeneric
import Derived.Ground.SlsfProg
import Derived.Test.YtdhhcbkldfdbbaaGreatProg
import Derived.StillTail
import Derived.StillTailTactics
import Derived.Sort.CutIn
import Derived.Stop.RegionWithIn
import Derived.Test.YtdhhcbkldfdbbaaGreatPart2

/-
  maps.Clone, maps.DeleteFunc (all), maps.Copy (into an empty map) at map[int]int.
-/
namespace Go.Proofs.YtdhhcbkldfdbbaaGreat
open Go.RowKit Go.Shelf Go.Sort
open Hall
attribute [local go_sem] Oper.semAt_some
theorem ekI_inj {a b : Int} (h : ekI a = ekI b) : a = b := by
  unfold ekI at h
  injection h
def mapLen (w : World) (b : Nat) : Nat := match w.heap[b]? with | some (.map es _) => es.size | _ => 0
theorem mapLen_of {w : World} {b : Nat} {es : List MapEntry} {cl : Nat} (h : w.heap[b]? = some (.map es.toArray cl)) : mapLen w b = es.length := by
  unfold mapLen; rw [h]; simp
def cameLen (w : World) (r : Nat) : Nat := match w.heap[r]? with | some (.mapIter _ _ seen _) => seen.size | _ => 0
theorem cameLen_of {w : World} {b r : Nat} {es : List MapEntry} {cl : Nat} {seen : Array Nat} (h : RngG w b r es cl seen) : cameLen w r = seen.size := by
  unfold cameLen; rw [h.it]
theorem clone_any (b : Nat) (o : Nat → Option Nat) (w : World) (hO : OwnIs w b o) :
    Calls Tryz.prog 156 #[.map (some b)] w fun e w' => e = .returned (.map (some w.heap.size)) ∧ OwnIs w' w.heap.size o ∧ Below w.heap.size w w' := by
  obtain ⟨xs, ⟨es, cl, hb, hE⟩, hF⟩ := hO
  have hc := AnyW.maps_Clone cloneM b es.toArray cl w hb
  change Calls Tryz.prog 156 _ _ _ at hc
  refine hc.mono ?_
  rintro e w' ⟨rfl, rfl⟩
  exact ⟨rfl, ⟨xs, ⟨es, cl, World.alloc_heap_new w _, hE⟩, hF⟩, alloc_b _ _⟩
theorem yes_any (a b : Int) (w : World) : Calls Tryz.prog 158 #[.int .i64 a, .int .i64 b] w fun e w' => e = .returned (.bool true) ∧ w' = w := by
  go_enter Tryz.func158, Tryz.ntmps158
  go_wp2_with fail
  go_ret
  exact ⟨rfl, rfl⟩
set_option maxRecDepth 100000 in
set_option maxHeartbeats 4000000 in
theorem deleteAll_any (b : Nat) (o : Nat → Option Nat) (w : World) (hO : OwnIs w b o) :
    Calls Tryz.prog 157 #[.map (some b), .func (.func 158) #[] #[]] w fun e w' => e = .returned (.tuple #[]) ∧ OwnIs w' b (fun _ => none) ∧ Chg w.heap.size [b] w w' := by
  have hbl := hO.lt
  obtain ⟨xs, ⟨es, cl, hb, hE⟩, hF⟩ := hO
  have HE := Lib.hid hE
  have HN := Lib.hid hF.nodup
  have hr := run_range_map (P := Tryz.prog) w 65 _ _ b _ _ owner_type hb
  have hb1 : (w.alloc (.mapIter (some b) cl #[] cl)).heap[b]? = some (.map es.toArray cl) := (Below.heap_alloc w _ b hbl).trans hb
  have HB1 := Lib.hid hb1
  clear hF hE hb hb1
  go_enter Tryz.func157, Tryz.ntmps157
  go_wp2_with fail
  clear hr
  go_loopw [4] (fun _ wr => ∃ (es' : List MapEntry) (xs' : List (Int × Int)) (seen : Array Nat), RngG wr b w.heap.size es' cl seen ∧ EntG ekI ekI es' cl xs' ∧ (xs'.map (·.1)).Nodup ∧ (∀ e ∈ es', e.born ∉ seen.toList) ∧ Chg w.heap.size [b] w wr) (fun _ wr => mapLen wr b)
  case atStart => exact ⟨es, xs, #[], ⟨World.alloc_heap_new w _, HB1.out⟩, HE.out, HN.out, fun e _ h => (by simp at h), (Chg.refl _ _ _).alloc (Nat.le_refl _) _⟩
  case round =>
    obtain ⟨es', xs', seen, hR, hE', hnd, hun, hC⟩ := hrel
    have HE' := Lib.hid hE'
    have HU := Lib.hid hun
    have HC := Lib.hid hC
    have HNd := Lib.hid hnd
    have hml := mapLen_of hR.map
    clear hE' hun hC hnd
    rcases hR.next (P := Tryz.prog) HE'.out 0 with ⟨hall, hrun⟩ | ⟨i, hi, hi', w1, hns, hrun, hR1, hg1, hsz1, hent⟩
    · have he : es' = [] := by
        cases es' with
        | nil => rfl
        | cons e t => exact absurd (hall 0 (by simp)) (HU.out _ (by simp))
      subst he
      have hx : xs' = [] := List.length_eq_zero_iff.1 (by rw [← HE'.out.length]; rfl)
      subst hx
      have HO := Lib.hid (show OwnIs wr b (fun _ => none) from ⟨[], ⟨[], cl, hR.map, HE'.out⟩, FunIs.nil.congr (fun x => by unfold upN; split <;> rfl)⟩)
      clear hall hR hml
      go_wp2_with fail
      first | go_end0 | (refine bodyPost_ret (results_none rfl _ _ _) rfl ?_)
      exact ⟨rfl, HO.out, HC.out⟩
    · have hk := (HE'.out.at_ hi hi').1
      obtain ⟨w2, es2, hdel, hb2, hE2, hsub, hg2, hs2⟩ := delete_entG intOk owner_type hR1.map HE'.out xs'[i].1 3 0
      have hne := hR1.ne
      have HR2 := Lib.hid (show RngG w2 b w.heap.size es2 cl (seen.push es'[i].born) from ⟨(hg2.block w.heap.size (Array.getElem?_eq_some_iff.1 hR1.it).1 (fun e => hne (by cases e; rfl))).trans hR1.it, hb2⟩)
      have HE2 := Lib.hid hE2
      have HN2 := Lib.hid (mdel_nodup HNd.out xs'[i].1)
      have HC1 := Lib.hid (HC.out.grown hg1 HC.out.size (fun r e => by cases e; exact .inr (Nat.le_refl _)))
      have HC2 := Lib.hid (HC1.out.grown hg2 HC1.out.size (fun r e => by cases e; exact .inl (by simp)))
      have HU2 := Lib.hid (show ∀ e ∈ es2, e.born ∉ (seen.push es'[i].born).toList from fun e he hin => by
        have he' := hsub.subset he
        rw [Array.toList_push, List.mem_append] at hin
        rcases hin with hin | hin
        · exact HU.out e he' hin
        · simp at hin
          obtain ⟨j, hj, rfl⟩ := List.mem_iff_getElem.1 he
          have hjx : j < (mdel xs' xs'[i].1).length := by rw [← hE2.length]; exact hj
          have h1 := (hE2.at_ hjx hj).1
          have h2 := ((mem_mdel HNd.out xs'[i].1 _).1 (List.getElem_mem hjx)).2
          apply h2
          obtain ⟨a, ha, hae⟩ := List.mem_iff_getElem.1 he'
          have h3 : a = i := by
            have hb := List.pairwise_iff_getElem.1 HE'.out.born
            rcases Nat.lt_trichotomy a i with g | g | g
            · exact absurd (by rw [List.getElem_map, List.getElem_map, hae, hin]) (hb a i (by simpa using ha) (by simpa using hi') g)
            · exact g
            · exact absurd (by rw [List.getElem_map, List.getElem_map, hae, hin]) (hb i a (by simpa using hi') (by simpa using ha) g)
          subst h3
          rw [hae, h1] at hk
          exact ekI_inj hk)
      have HM := Lib.hid (show es2.length < es'.length from by
        have h1 := hE2.length
        have h2 := HE'.out.length
        have h3 : (mdel xs' xs'[i].1).length < xs'.length := by
          rcases Nat.lt_or_ge (mdel xs' xs'[i].1).length xs'.length with g | g
          · exact g
          · have h4 := (mdel_sub xs' xs'[i].1).eq_of_length_le g
            have h5 := ((mem_mdel HNd.out xs'[i].1 xs'[i]).1 (by rw [h4]; exact List.getElem_mem _)).2
            exact absurd rfl h5
        omega)
      have hml2 := mapLen_of hb2
      dsimp only [ekI] at hrun hent hdel
      generalize xs'[i].1 = ka at *
      generalize xs'[i].2 = va at *
      clear hk hR hR1 hg1 hsz1 hb2 hE2 hsub hg2 hs2 hns hne
      go_wp2_with (go_at_call 158; refine (yes_any _ _ _).mono ?_; rintro e w' ⟨rfl, rfl⟩)
      go_roundw
      case rel => exact ⟨es2, _, _, HR2.out, HE2.out, HN2.out, HU2.out, HC2.out⟩
      case measure => rw [hml, hml2]; exact HM.out
def Came (es : List MapEntry) (xs : List (Int × Int)) (seen : Array Nat) (k : Int) : Prop := ∃ (i : Nat) (e : MapEntry) (x : Int × Int), es[i]? = some e ∧ xs[i]? = some x ∧ e.born ∈ seen.toList ∧ x.1 = k
theorem came_none (es : List MapEntry) (xs : List (Int × Int)) (k : Int) : ¬ Came es xs #[] k := by
  rintro ⟨_, _, _, _, _, h, _⟩
  simp at h
theorem came_push {es : List MapEntry} {cl : Nat} {xs : List (Int × Int)} {seen : Array Nat} (hE : EntG ekI ekI es cl xs) {i : Nat} (hi : i < xs.length) (hi' : i < es.length) (k : Int) : Came es xs (seen.push es[i].born) k ↔ Came es xs seen k ∨ k = xs[i].1 := by
  constructor
  · rintro ⟨j, e, x, h1, h2, h3, h4⟩
    rw [Array.toList_push, List.mem_append] at h3
    rcases h3 with h3 | h3
    · exact .inl ⟨j, e, x, h1, h2, h3, h4⟩
    · simp at h3
      obtain ⟨hj, rfl⟩ := List.getElem?_eq_some_iff.1 h1
      obtain ⟨hj', rfl⟩ := List.getElem?_eq_some_iff.1 h2
      have hb := List.pairwise_iff_getElem.1 hE.born
      have e : j = i := by
        rcases Nat.lt_trichotomy j i with g | g | g
        · exact absurd (by rw [List.getElem_map, List.getElem_map, h3]) (hb j i (by simpa using hj) (by simpa using hi') g)
        · exact g
        · exact absurd (by rw [List.getElem_map, List.getElem_map, h3]) (hb i j (by simpa using hi') (by simpa using hj) g)
      subst e
      exact .inr h4.symm
  · rintro (⟨j, e, x, h1, h2, h3, h4⟩ | rfl)
    · exact ⟨j, e, x, h1, h2, by rw [Array.toList_push]; exact List.mem_append.2 (.inl h3), h4⟩
    · exact ⟨i, es[i], xs[i], List.getElem?_eq_getElem hi', List.getElem?_eq_getElem hi, by rw [Array.toList_push]; simp, rfl⟩
theorem came_all {es : List MapEntry} {cl : Nat} {xs : List (Int × Int)} {seen : Array Nat} (hE : EntG ekI ekI es cl xs) (h : ∀ (i : Nat) (hi : i < es.length), es[i].born ∈ seen.toList) {k v : Int} (hk : mget xs k = some v) : Came es xs seen k := by
  obtain ⟨i, hi, e⟩ := List.mem_iff_getElem.1 (mget_in hk)
  have hi' : i < es.length := by rw [hE.length]; exact hi
  exact ⟨i, es[i], xs[i], List.getElem?_eq_getElem hi', List.getElem?_eq_getElem hi, h i hi', by rw [e]⟩
theorem FunIs.del {κ ν ν' : Type} [DecidableEq κ] {xs : List (κ × ν)} {F F' : κ → Option ν'} {f : ν → ν'} (h : FunIs xs F f) (x : κ) (hp : ∀ k, F' k = if k = x then none else F k) : FunIs (mdel xs x) F' f := by
  refine ⟨mdel_nodup h.nodup _, fun k => ?_⟩
  rw [mget_mdel h.nodup, hp]
  split
  · rfl
  · exact h.get k
open Classical in
noncomputable def cameF (es : List MapEntry) (xs : List (Int × Int)) (seen : Array Nat) (k : Int) : Option Int := if Came es xs seen k then mget xs k else none
open Classical in
noncomputable def goneF (es : List MapEntry) (xs : List (Int × Int)) (v : Int) (seen : Array Nat) (k : Int) : Option Int := if Came es xs seen k ∧ mget xs k = some v then none else mget xs k
section
variable {es : List MapEntry} {cl : Nat} {xs : List (Int × Int)} {seen : Array Nat}
theorem cameF_none (k : Int) : cameF es xs #[] k = none := if_neg (came_none es xs k)
theorem cameF_push (hE : EntG ekI ekI es cl xs) (hd : (xs.map (·.1)).Nodup) {i : Nat} (hi : i < xs.length) (hi' : i < es.length) (k : Int) : cameF es xs (seen.push es[i].born) k = if k = xs[i].1 then some xs[i].2 else cameF es xs seen k := by
  unfold cameF
  by_cases e : k = xs[i].1
  · rw [if_pos e, if_pos ((came_push hE hi hi' k).2 (.inr e)), e]
    exact mget_of_in hd (List.getElem_mem hi)
  · rw [if_neg e]
    have h : Came es xs (seen.push es[i].born) k ↔ Came es xs seen k := (came_push hE hi hi' k).trans ⟨fun h => h.resolve_right e, .inl⟩
    by_cases g : Came es xs seen k
    · rw [if_pos g, if_pos (h.2 g)]
    · rw [if_neg g, if_neg (fun q => g (h.1 q))]
theorem cameF_all (hE : EntG ekI ekI es cl xs) (h : ∀ (i : Nat) (hi : i < es.length), es[i].born ∈ seen.toList) (k : Int) : cameF es xs seen k = mget xs k := by
  unfold cameF
  cases hk : mget xs k with
  | none => split <;> rfl
  | some v => rw [if_pos (came_all hE h hk)]
theorem goneF_none (v k : Int) : goneF es xs v #[] k = mget xs k := if_neg fun h => came_none es xs k h.1
theorem goneF_is (hE : EntG ekI ekI es cl xs) (hd : (xs.map (·.1)).Nodup) {i : Nat} (hi : i < xs.length) (hi' : i < es.length) (k : Int) : goneF es xs xs[i].2 (seen.push es[i].born) k = if k = xs[i].1 then none else goneF es xs xs[i].2 seen k := by
  unfold goneF
  by_cases e : k = xs[i].1
  · rw [if_pos e, if_pos ⟨(came_push hE hi hi' k).2 (.inr e), by rw [e]; exact mget_of_in hd (List.getElem_mem hi)⟩]
  · rw [if_neg e]
    have h : Came es xs (seen.push es[i].born) k ↔ Came es xs seen k := (came_push hE hi hi' k).trans ⟨fun h => h.resolve_right e, .inl⟩
    by_cases g : Came es xs seen k ∧ mget xs k = some xs[i].2
    · rw [if_pos g, if_pos ⟨h.2 g.1, g.2⟩]
    · rw [if_neg g, if_neg (fun q => g ⟨h.1 q.1, q.2⟩)]
theorem goneF_not (hE : EntG ekI ekI es cl xs) (hd : (xs.map (·.1)).Nodup) {i : Nat} (hi : i < xs.length) (hi' : i < es.length) {v : Int} (hv : xs[i].2 ≠ v) (k : Int) : goneF es xs v (seen.push es[i].born) k = goneF es xs v seen k := by
  unfold goneF
  by_cases e : k = xs[i].1
  · have h1 : mget xs k ≠ some v := by
      have hg : mget xs xs[i].1 = some xs[i].2 := mget_of_in hd (List.getElem_mem hi)
      rw [e, hg]
      intro q; exact hv (Option.some.inj q)
    rw [if_neg (fun q => h1 q.2), if_neg (fun q => h1 q.2)]
  · have h : Came es xs (seen.push es[i].born) k ↔ Came es xs seen k := (came_push hE hi hi' k).trans ⟨fun h => h.resolve_right e, .inl⟩
    by_cases g : Came es xs seen k ∧ mget xs k = some v
    · rw [if_pos g, if_pos ⟨h.2 g.1, g.2⟩]
    · rw [if_neg g, if_neg (fun q => g ⟨h.1 q.1, q.2⟩)]
theorem goneF_all (hE : EntG ekI ekI es cl xs) (h : ∀ (i : Nat) (hi : i < es.length), es[i].born ∈ seen.toList) (v k : Int) : goneF es xs v seen k = if mget xs k = some v then none else mget xs k := by
  unfold goneF
  by_cases g : mget xs k = some v
  · rw [if_pos ⟨came_all hE h g, g⟩, if_pos g]
  · rw [if_neg (fun q => g q.2), if_neg g]
end
set_option maxRecDepth 100000 in
set_option maxHeartbeats 4000000 in
theorem copy_any (bd bs : Nat) (o : Nat → Option Nat) (w : World) (hne : bd ≠ bs) (hD : OwnIs w bd (fun _ => none)) (hO : OwnIs w bs o) :
    Calls Tryz.prog 159 #[.map (some bd), .map (some bs)] w fun e w' => e = .returned (.tuple #[]) ∧ OwnIs w' bd o ∧ Chg w.heap.size [bd] w w' := by
  have hbl := hO.lt
  have hdl := hD.lt
  obtain ⟨xs, ⟨es, cl, hb, hE⟩, hF⟩ := hO
  obtain ⟨ys, hm, hG⟩ := hD
  have HE := Lib.hid hE
  have HN := Lib.hid hF.nodup
  have HF := Lib.hid hF
  have HM0 := Lib.hid (hm.alloc (.mapIter (some bs) cl #[] cl))
  have HG0 := Lib.hid (show FunIs ys (cameF es xs #[]) (fun x => x) from hG.congr (fun x => by rw [cameF_none]; unfold upN; split <;> rfl))
  have hr := run_range_map (P := Tryz.prog) w 65 _ _ bs _ _ owner_type hb
  have HB1 := Lib.hid (show (w.alloc (.mapIter (some bs) cl #[] cl)).heap[bs]? = some (.map es.toArray cl) from (Below.heap_alloc w _ bs hbl).trans hb)
  clear hF hE hb hm hG
  go_enter Tryz.func159, Tryz.ntmps159
  go_wp2_with fail
  clear hr
  go_loopw [4] (fun _ wr => ∃ (zs : List (Int × Int)) (seen : Array Nat), RngG wr bs w.heap.size es cl seen ∧ MapG ekI ekI wr bd zs ∧ FunIs zs (cameF es xs seen) (fun x => x) ∧ seen.toList.Nodup ∧ (∀ n ∈ seen.toList, n < cl) ∧ Chg w.heap.size [bd] w wr) (fun _ wr => cl - cameLen wr w.heap.size)
  case atStart => exact ⟨ys, #[], ⟨World.alloc_heap_new w _, HB1.out⟩, HM0.out, HG0.out, by simp, by simp, (Chg.refl _ _ _).alloc (Nat.le_refl _) _⟩
  case round =>
    obtain ⟨zs, seen, hR, hm, hG, hsn, hsl, hC⟩ := hrel
    have HM := Lib.hid hm
    have HG := Lib.hid hG
    have HC := Lib.hid hC
    have HSn := Lib.hid hsn
    have HSl := Lib.hid hsl
    have hml := cameLen_of hR
    clear hm hG hC hsn hsl
    rcases hR.next (P := Tryz.prog) HE.out 0 with ⟨hall, hrun⟩ | ⟨i, hi, hi', w1, hns, hrun, hR1, hg1, hsz1, hent⟩
    · have HO := Lib.hid (show OwnIs wr bd o from ⟨zs, HM.out, HG.out.congr (fun k => by rw [cameF_all HE.out hall]; exact (HF.out.get k).symm.trans (by simp))⟩)
      clear hall hR hml
      go_wp2_with fail
      first | go_end0 | (refine bodyPost_ret (results_none rfl _ _ _) rfl ?_)
      exact ⟨rfl, HO.out, HC.out⟩
    · have hne1 := hR1.ne
      have hnd : bd ≠ w.heap.size := by omega
      obtain ⟨w2, hup, hm2, hg2, hs2⟩ := update_mapG intOk owner_type (HM.out.grown hg1 (fun e => hnd (by cases e; rfl))) xs[i].1 xs[i].2
      have HM2 := Lib.hid hm2
      have HR2 := Lib.hid (show RngG w2 bs w.heap.size es cl (seen.push es[i].born) from ⟨(hg2.block w.heap.size (Array.getElem?_eq_some_iff.1 hR1.it).1 (fun e => hnd (by cases e; rfl))).trans hR1.it, (hg2.block bs (Array.getElem?_eq_some_iff.1 hR1.map).1 (fun e => hne (by cases e; rfl))).trans hR1.map⟩)
      have HG2 := Lib.hid (HG.out.put xs[i].1 xs[i].2 (F' := cameF es xs (seen.push es[i].born)) (fun k => cameF_push HE.out HN.out hi hi' k))
      have HC1 := Lib.hid (HC.out.grown hg1 HC.out.size (fun r e => by cases e; exact .inr (Nat.le_refl _)))
      have HC2 := Lib.hid (HC1.out.grown hg2 HC1.out.size (fun r e => by cases e; exact .inl (by simp)))
      have hbc := HE.out.lt es[i] (List.getElem_mem hi')
      have HSn2 := Lib.hid (show (seen.push es[i].born).toList.Nodup from by
        rw [Array.toList_push]
        exact List.nodup_append.2 ⟨HSn.out, by simp, fun a ha c hc => by simp at hc; subst hc; intro e; subst e; exact hns ha⟩)
      have HSl2 := Lib.hid (show ∀ n ∈ (seen.push es[i].born).toList, n < cl from fun n hn => by
        rw [Array.toList_push, List.mem_append] at hn
        rcases hn with hn | hn
        · exact HSl.out n hn
        · simp at hn; subst hn; exact hbc)
      have hml2 := cameLen_of HR2.out
      have HMe := Lib.hid (show cl - (seen.push es[i].born).size < cl - seen.size from by
        have := nodup_length_le _ HSn2.out HSl2.out
        simp at this ⊢
        omega)
      dsimp only [ekI] at hrun hent hup
      generalize es[i].born = bi at *
      generalize hka : xs[i].1 = ka at *
      generalize hva : xs[i].2 = va at *
      clear hR hR1 hg1 hsz1 hm2 hg2 hs2 hns hne1 hbc hka hva
      go_wp2_with fail
      go_roundw
      case rel => exact ⟨_, _, HR2.out, HM2.out, HG2.out, HSn2.out, HSl2.out, HC2.out⟩
      case measure => rw [hml, hml2]; exact HMe.out
end Go.Proofs.YtdhhcbkldfdbbaaGreat

/-
  hall: move (moveP).
-/
namespace Go.Proofs.YtdhhcbkldfdbbaaGreat
open Go.RowKit Go.Shelf Go.Sort
open Hall
attribute [local go_sem] Oper.semAt_some
def backP (o : Nat → Option Nat) (i : Nat) : Nat → Option Nat := fun x => if o x = some i then none else o x
theorem moveP_eq (fit : Nat → Nat → Bool) (nr : Nat) (o : Nat → Option Nat) (i k : Nat) : moveP fit nr o i k = match backP o i k with
  | none => (true, oput (backP o i) k i)
  | some j => match placeP fit nr (i + 1) (oput (backP o i) k i) j with
    | (true, o') => (true, o')
    | (false, _) => (false, o) := rfl
theorem upN_back (o : Nat → Option Nat) (i : Nat) (x : Int) : upN (backP o i) x = if upN o x = some (i : Int) then none else upN o x := by
  unfold upN backP
  by_cases h : 0 ≤ x
  · rw [if_pos h, if_pos h]
    cases ho : o x.toNat with
    | none => simp
    | some j =>
      by_cases e : j = i
      · subst e; simp
      · simp [e]
        omega
  · rw [if_neg h, if_neg h]
    rfl
theorem OwnIs.chg {w w' : World} {b n : Nat} {bs : List Nat} {o : Nat → Option Nat} (h : OwnIs w b o) (hg : Chg n bs w w') (hn : b < n) (hr : b ∉ bs) : OwnIs w' b o := h.elim fun xs h => ⟨xs, h.1.chg hg hn hr, h.2⟩
set_option maxRecDepth 100000 in
set_option maxHeartbeats 8000000 in
theorem move_any {B p cs cr fb ob : Nat} {As Ar : Option Addr} {S : List St} {R : List RG} {fit : Nat → Nat → Bool} (hR : R.length ≤ 1000000) (_hob : B ≤ ob) (i k : Nat) (hi : i ≤ 1000000) (o : Nat → Option Nat) (w : World) (hN : NightAt w B p As cs Ar cr fb S R fit) (hO : OwnIs w ob o) (hBw : B ≤ w.heap.size) :
    Calls Tryz.prog 113 #[.pointer (some ⟨p, 0, none⟩), .map (some ob), .int .i64 i, .int .i64 k] w fun e w' => e = .returned (.bool (moveP fit R.length o i k).1) ∧ OwnIs w' ob (moveP fit R.length o i k).2 ∧ Chg w.heap.size [ob] w w' := by
  have hol := hO.lt
  have HN := Lib.hid hN
  have HO := Lib.hid hO
  have HCl := Lib.hid (clone_any ob o w hO)
  have HQ := Lib.hid (show ∀ b (z : Nat → Option Nat) w', moveP fit R.length o i k = (b, z) → OwnIs w' ob z → Chg w.heap.size [ob] w w' → (.returned (.bool b) : Ending) = .returned (.bool (moveP fit R.length o i k).1) ∧ OwnIs w' ob (moveP fit R.length o i k).2 ∧ Chg w.heap.size [ob] w w' from fun b z w' e h1 h2 => by rw [e]; exact ⟨rfl, h1, h2⟩)
  have HE := Lib.hid (moveP_eq fit R.length o i k)
  clear hN hO
  go_enter Tryz.func113, Tryz.ntmps113
  go_wp2_with fail
  refine HCl.out.mono ?_
  rintro e w1 ⟨rfl, hO1, hB1⟩
  have HB1 := Lib.hid hB1
  have hl1 := hO1.lt
  have hOo := HO.out.keep hB1
  obtain ⟨xs, ⟨es, cl, hb, hEn⟩, hF⟩ := hOo
  obtain ⟨ys, hm, hG⟩ := hO1
  have HEn := Lib.hid hEn
  have HNd := Lib.hid hF.nodup
  have HF := Lib.hid hF
  have HM0 := Lib.hid (hm.alloc (.mapIter (some ob) cl #[] cl))
  have HG0 := Lib.hid (show FunIs ys (goneF es xs i #[]) (fun x => x) from hG.congr (fun x => by rw [goneF_none]; exact fun_get hF x))
  have hr := run_range_map (P := Tryz.prog) w1 65 _ _ ob _ _ owner_type hb
  have HB2 := Lib.hid (show (w1.alloc (.mapIter (some ob) cl #[] cl)).heap[ob]? = some (.map es.toArray cl) from (Below.heap_alloc w1 _ ob (by omega)).trans hb)
  clear hF hEn hb hm hG hB1 HCl
  go_wp2_with fail
  clear hr
  go_loopw [10] (fun _ wr => ∃ (zs : List (Int × Int)) (seen : Array Nat), RngG wr ob w1.heap.size es cl seen ∧ MapG ekI ekI wr w.heap.size zs ∧ FunIs zs (goneF es xs i seen) (fun x => x) ∧ seen.toList.Nodup ∧ (∀ n ∈ seen.toList, n < cl) ∧ Below w.heap.size w wr ∧ w1.heap.size < wr.heap.size) (fun _ wr => cl - cameLen wr w1.heap.size)
  case atStart => exact ⟨ys, #[], ⟨World.alloc_heap_new w1 _, HB2.out⟩, HM0.out, HG0.out, by simp, by simp, HB1.out.al _, by simp⟩
  case round =>
    obtain ⟨zs, seen, hR, hm, hG, hsn, hsl, hC, hsz⟩ := hrel
    have HM := Lib.hid hm
    have HG := Lib.hid hG
    have HC := Lib.hid hC
    have HSn := Lib.hid hsn
    have HSl := Lib.hid hsl
    have hml := cameLen_of hR
    clear hm hG hC hsn hsl
    rcases hR.next (P := Tryz.prog) HEn.out 0 with ⟨hall, hrun⟩ | ⟨q, hq, hq', w2, hns, hrun, hR1, hg1, hsz1, hent⟩
    · have HO2 := Lib.hid (show OwnIs wr w.heap.size (backP o i) from ⟨zs, HM.out, HG.out.congr (fun x => by rw [goneF_all HEn.out hall, upN_back, fun_get HF.out x])⟩)
      have HOo := Lib.hid (show OwnIs wr ob o from ⟨xs, ⟨es, cl, hR.map, HEn.out⟩, HF.out⟩)
      clear hall hR hml
      obtain ⟨w2, hup, hO2, hg2, hs2⟩ := own_put HO2.out k i
      have HP2 := Lib.hid hO2
      have hne : ob ≠ w.heap.size := by omega
      have HC2 := Lib.hid (HC.out.grown hg2 HC.out.size (fun r e => by cases e; exact Nat.le_refl _))
      have HOo2 := Lib.hid (HOo.out.grown hg2 (fun e => hne (Option.some.inj e)))
      have HN2 := Lib.hid (HN.out.to (HC2.out.mono hBw))
      clear hO2 hg2 hs2
      cases hbk : backP o i k with
      | none =>
        have hlk := own_none_get HO2.out hbk
        have HV := Lib.hid (show moveP fit R.length o i k = (true, oput (backP o i) k i) from by rw [HE.out, hbk])
        have HD := Lib.hid (deleteAll_any ob o w2 HOo2.out)
        have HC3 := Lib.hid (show Chg w.heap.size [ob] w w2 from Chg.of_below HC2.out)
        have hP3 := HP2.out
        clear hbk HE
        go_wp2_with fail
        refine HD.out.mono ?_
        rintro e w4 ⟨rfl, hO4, hC4⟩
        have hP4 := hP3.chg hC4 hP3.lt (by simp; omega)
        have hsz4 := hC4.size
        have HCp := Lib.hid (copy_any ob w.heap.size (oput (backP o i) k i) w4 (by omega) hO4 hP4)
        have HC4 := Lib.hid (HC3.out.trans (hC4.mono HC3.out.size))
        clear hO4 hC4 hP4 hP3
        go_wp2_with fail
        refine HCp.out.mono ?_
        rintro e w5 ⟨rfl, hO5, hC5⟩
        have HC5 := Lib.hid (HC4.out.trans (hC5.mono HC4.out.size))
        clear hC5
        go_wp2_with fail
        go_ret
        exact HQ.out _ _ _ HV.out hO5 HC5.out
      | some j =>
        have hlk := own_some_get HO2.out hbk
        have hB2 : B ≤ w2.heap.size := Nat.le_trans hBw HC2.out.size
        have HP := Lib.hid (by have := place_any (S := S) hR hBw (i + 1) j (oput (backP o i) k i) w2 HN2.out HP2.out hB2; rewrite [show (((i + 1 : Nat)) : Int) = (i : Int) + 1 from by omega] at this; exact this)
        have HV0 := Lib.hid (show moveP fit R.length o i k = match placeP fit R.length (i + 1) (oput (backP o i) k i) j with | (true, o') => (true, o') | (false, _) => (false, o) from by rw [HE.out, hbk])
        have hi2 : (i : Int) ≤ 1000000 := by omega
        clear hbk HE
        generalize placeP fit R.length (i + 1) (oput (backP o i) k i) j = z at *
        obtain ⟨b, z⟩ := z
        cases b
        · have HV := Lib.hid (show moveP fit R.length o i k = (false, o) from HV0.out)
          go_wp2_with (go_at_call 109; refine HP.out.mono ?_; rintro e w3 ⟨rfl, hO3, hC3⟩)
          go_ret
          exact HQ.out _ _ _ HV.out (HOo2.out.chg hC3 HOo2.out.lt (by simp; omega)) (Chg.of_below (HC2.out.trans (hC3.toBelow (fun q hq => by simp at hq; omega) HC2.out.size)))
        · have HV := Lib.hid (show moveP fit R.length o i k = (true, z) from HV0.out)
          go_wp2_with (go_at_call 109; refine HP.out.mono ?_; rintro e w3 ⟨rfl, hP3, hC30⟩)
          have HC3 := Lib.hid (show Chg w.heap.size [ob] w w3 from Chg.of_below (HC2.out.trans (hC30.toBelow (fun q hq => by simp at hq; omega) HC2.out.size)))
          have HD := Lib.hid (deleteAll_any ob o w3 (HOo2.out.chg hC30 HOo2.out.lt (by simp; omega)))
          clear hC30
          refine HD.out.mono ?_
          rintro e w4 ⟨rfl, hO4, hC4⟩
          have hP4 := hP3.chg hC4 hP3.lt (by simp; omega)
          have hsz4 := hC4.size
          have HCp := Lib.hid (copy_any ob w.heap.size z w4 (by omega) hO4 hP4)
          have HC4 := Lib.hid (HC3.out.trans (hC4.mono HC3.out.size))
          clear hO4 hC4 hP4 hP3
          go_wp2_with fail
          refine HCp.out.mono ?_
          rintro e w5 ⟨rfl, hO5, hC5⟩
          have HC5 := Lib.hid (HC4.out.trans (hC5.mono HC4.out.size))
          clear hC5
          go_wp2_with fail
          go_ret
          exact HQ.out _ _ _ HV.out hO5 HC5.out
    · have hne1 := hR1.ne
      have hnd : w.heap.size ≠ w1.heap.size := by omega
      have hgo1 := HM.out.grown hg1 (fun e => hnd (Option.some.inj e))
      have HC1 := Lib.hid (HC.out.grown hg1 HC.out.size (fun r e => by cases e; omega))
      have hbc := HEn.out.lt es[q] (List.getElem_mem hq')
      have HSn2 := Lib.hid (show (seen.push es[q].born).toList.Nodup from by
        rw [Array.toList_push]
        exact List.nodup_append.2 ⟨HSn.out, by simp, fun a ha c hc => by simp at hc; subst hc; intro e; subst e; exact hns ha⟩)
      have HSl2 := Lib.hid (show ∀ n ∈ (seen.push es[q].born).toList, n < cl from fun n hn => by
        rw [Array.toList_push, List.mem_append] at hn
        rcases hn with hn | hn
        · exact HSl.out n hn
        · simp at hn; subst hn; exact hbc)
      have HMe := Lib.hid (show cl - (seen.push es[q].born).size < cl - seen.size from by
        have := nodup_length_le _ HSn2.out HSl2.out
        simp at this ⊢
        omega)
      by_cases hv : xs[q].2 = (i : Int)
      · obtain ⟨w3, hdel, hm3, hg3, hs3⟩ := delete_mapG intOk owner_type hgo1 xs[q].1 3 0
        have HM3 := Lib.hid hm3
        have HR3 := Lib.hid (show RngG w3 ob w1.heap.size es cl (seen.push es[q].born) from ⟨(hg3.block w1.heap.size (Array.getElem?_eq_some_iff.1 hR1.it).1 (fun e => hnd (Option.some.inj e).symm)).trans hR1.it, (hg3.block ob (Array.getElem?_eq_some_iff.1 hR1.map).1 (fun e => by have := Option.some.inj e; omega)).trans hR1.map⟩)
        have h2 : goneF es xs xs[q].2 (seen.push es[q].born) = goneF es xs (i : Int) (seen.push es[q].born) := by rw [hv]
        have h3 : goneF es xs xs[q].2 seen = goneF es xs (i : Int) seen := by rw [hv]
        have HG3 := Lib.hid (HG.out.del xs[q].1 (F' := goneF es xs i (seen.push es[q].born)) (fun x => by
          have h1 := goneF_is (seen := seen) HEn.out HNd.out hq hq' x
          rw [h2, h3] at h1
          exact h1))
        clear h2 h3
        have HC3 := Lib.hid (HC1.out.grown hg3 HC1.out.size (fun r e => by cases e; exact Nat.le_refl _))
        have hml3 := cameLen_of HR3.out
        have hsz3 : w1.heap.size < w3.heap.size := by omega
        dsimp only [ekI] at hrun hent hdel
        generalize es[q].born = bi at *
        generalize hka : xs[q].1 = ka at *
        rw [hv] at hrun hent
        clear hR hR1 hg1 hsz1 hm3 hg3 hs3 hns hne1 hbc hka hv hgo1
        go_wp2_with fail
        go_roundw
        case rel => exact ⟨_, _, HR3.out, HM3.out, HG3.out, HSn2.out, HSl2.out, HC3.out, hsz3⟩
        case measure => rw [hml, hml3]; exact HMe.out
      · have HM1 := Lib.hid hgo1
        have HR1 := Lib.hid hR1
        have HG1 := Lib.hid (show FunIs zs (goneF es xs i (seen.push es[q].born)) (fun x => x) from HG.out.congr (fun x => goneF_not HEn.out HNd.out hq hq' hv x))
        have hml1 := cameLen_of hR1
        have hsz2 : w1.heap.size < w2.heap.size := by omega
        dsimp only [ekI] at hrun hent
        generalize es[q].born = bi at *
        generalize hka : xs[q].1 = ka at *
        generalize hva : xs[q].2 = va at *
        clear hR hR1 hg1 hsz1 hns hne1 hbc hka hva hgo1
        go_wp2_with fail
        go_roundw
        case rel => exact ⟨_, _, HR1.out, HM1.out, HG1.out, HSn2.out, HSl2.out, HC1.out, hsz2⟩
        case measure => rw [hml, hml1]; exact HMe.out
end Go.Proofs.YtdhhcbkldfdbbaaGreat

/-
  hall: improve (improveGo).
-/
namespace Go.Proofs.YtdhhcbkldfdbbaaGreat
open Go.RowKit Go.Shelf Go.Sort
open Hall
attribute [local go_sem] Oper.semAt_some
theorem info_intH : (Tryz.prog.info? 3).map (fun i => (i.zero, i.size, i.bytes)) = some (some (.int .i64 0), 1, 8) := by kernel_rfl
def atRow (n : Nat) (pre : List Nat) : List Value := pre.map (fun k : Nat => Value.int .i64 (k : Int)) ++ List.replicate (n - pre.length) (.int .i64 0)
theorem atRow_set {n : Nat} {pre : List Nat} (h : pre.length < n) (k : Nat) : (atRow n pre).set pre.length (.int .i64 k) = atRow n (pre ++ [k]) := by
  unfold atRow
  rw [List.length_append, List.length_singleton, List.map_append]
  obtain ⟨m, hm⟩ : ∃ m, n - pre.length = m + 1 := ⟨n - pre.length - 1, by omega⟩
  rw [hm, show n - (pre.length + 1) = m by omega, List.replicate_succ, List.set_append_right _ _ (by simp)]
  simp
theorem atRow_same {n : Nat} {pre : List Nat} (h : pre.length < n) : atRow n pre = atRow n (pre ++ [0]) := by
  rw [← atRow_set h 0]
  unfold atRow
  obtain ⟨m, hm⟩ : ∃ m, n - pre.length = m + 1 := ⟨n - pre.length - 1, by omega⟩
  rw [hm, List.replicate_succ, List.set_append_right _ _ (by simp)]
  simp
theorem atRow_at {n i : Nat} {pre : List Nat} (h : i < n) (hp : pre.length = i) : (atRow n pre)[i]? = some (.int .i64 0) := by
  subst hp
  unfold atRow
  obtain ⟨m, hm⟩ : ∃ m, n - pre.length = m + 1 := ⟨n - pre.length - 1, by omega⟩
  rw [hm, List.replicate_succ, List.getElem?_append_right (by simp)]
  simp
theorem made_at (n : Nat) : (madeCells (Value.int .i64 0).cells (n * 1)).toList = atRow n [] := by
  rw [show (Value.int .i64 0).cells = #[.int .i64 0] from rfl, toList_madeCells_one]
  unfold atRow
  simp
def idRow (R : List RG) (pre : List Nat) (j : Nat) : List Value := (pre.take j).map (fun k => Value.int .i64 ((R.map RG.rm).getD k default).id) ++ (pre.drop j).map fun k : Nat => Value.int .i64 (k : Int)
theorem idRow_none {R : List RG} {n : Nat} {pre : List Nat} (h : pre.length = n) : idRow R pre 0 = atRow n pre := by
  unfold idRow atRow
  simp [h]
theorem idRow_all {R : List RG} {n : Nat} {pre : List Nat} (h : pre.length = n) : idRow R pre n = pre.map fun k => Value.int .i64 ((R.map RG.rm).getD k default).id := by
  unfold idRow
  rw [List.take_of_length_le (by omega), List.drop_eq_nil_of_le (by omega)]
  simp
theorem idRow_at {R : List RG} {pre : List Nat} {j : Nat} (h : j < pre.length) : (idRow R pre j)[j]? = some (.int .i64 (pre[j] : Nat)) := by
  unfold idRow
  have hl : ((pre.take j).map fun k => Value.int .i64 ((R.map RG.rm).getD k default).id).length = j := by rw [List.length_map, List.length_take]; omega
  rw [List.getElem?_append_right (by rw [hl]; exact Nat.le_refl _), hl, List.drop_eq_getElem_cons h, List.map_cons, Nat.sub_self]
  rfl
theorem idRow_set {R : List RG} {pre : List Nat} {j : Nat} (h : j < pre.length) (hk : pre[j] < R.length) : (idRow R pre j).set j (.int .i64 R[pre[j]].id) = idRow R pre (j + 1) := by
  unfold idRow
  have hl : ((pre.take j).map fun k => Value.int .i64 ((R.map RG.rm).getD k default).id).length = j := by rw [List.length_map, List.length_take]; omega
  have hg : ((R.map RG.rm).getD pre[j] default).id = R[pre[j]].id := by simp [hk]; rfl
  rw [List.set_append_right _ _ (by rw [hl]; exact Nat.le_refl _), hl, List.drop_eq_getElem_cons h, List.map_cons, Nat.sub_self, List.set_cons_zero, List.take_succ_eq_append_getElem h, List.map_append, List.map_cons, List.map_nil, hg, List.append_assoc]
  rfl
theorem scanP_cons (fit : Nat → Nat → Bool) (nr i k : Nat) (t : List Nat) (o : Nat → Option Nat) : scanP fit nr i (k :: t) o = if fit i k = false then scanP fit nr i t o else
    match o k with
    | none => match moveP fit nr o i k with
      | (true, o') => (some k, o')
      | (false, o') => scanP fit nr i t o'
    | some j => if j < i then scanP fit nr i t o else if j = i then (some k, o) else
      match moveP fit nr o i k with
      | (true, o') => (some k, o')
      | (false, o') => scanP fit nr i t o' := rfl
set_option maxRecDepth 100000 in
set_option maxHeartbeats 8000000 in
theorem improve_any {B p cs cr fb ob : Nat} {As Ar : Option Addr} {S : List St} {R : List RG} {fit : Nat → Nat → Bool} (hR : R.length ≤ 1000000) (hS : S.length ≤ 1000000) (hob : B ≤ ob) (o0 : Nat → Option Nat) (w : World) (hN : NightAt w B p As cs Ar cr fb S R fit) (hO : OwnIs w ob o0) (hBw : B ≤ w.heap.size) (hks : ∀ x ∈ improveGo fit R.length S.length 0 o0, x < R.length) :
    Calls Tryz.prog 56 #[.pointer (some ⟨p, 0, none⟩), .map (some ob)] w fun e w' => ∃ A c, e = .returned (.slice A S.length c) ∧ Rd w' w'.heap.size A ((improveGo fit R.length S.length 0 o0).map fun k => Value.int .i64 ((R.map RG.rm).getD k default).id) ∧ Chg w.heap.size [ob] w w' ∧ (∀ ad, A = some ad → w.heap.size ≤ ad.block) := by
  have hol := hO.lt
  have hwo : w.heap.size ≠ ob := by omega
  have HN := Lib.hid hN
  have HO := Lib.hid hO
  have HK := Lib.hid hks
  have n0 := hN.c0
  have hb2 : 8 * S.length ≤ 281474976710656 := by omega
  have hb3 : S.length ≤ maxLen := by unfold maxLen; omega
  have hb4 : w.heap.size ≤ w.heap.size := Nat.le_refl _
  obtain ⟨i0, hi, hz0, hz1, hz2⟩ := info_parts info_intH
  clear hN hO hks
  go_enter Tryz.func56, Tryz.ntmps56
  go_wp2_with (refine wpList_make_full _ rfl _ _ 26 rfl w.heap.size 3 i0 (.int .i64 0) 1 Tryz.underlying26 hi hz0 hz1 _ _ _ _ S.length rfl rfl rfl rfl (by rw [hz2]; exact hb2) hb3 hb4 ?_; intro w1 hown hgrow; have HW1 := Lib.hid hown; have HC1 := Lib.hid (show Chg w.heap.size [ob] w w1 from (Chg.refl _ _ _).grown hgrow (Nat.le_refl _) (fun r e => by cases e)); have HO1 := Lib.hid (HO.out.grown hgrow (fun e => by cases e)); have n0 := (HN.out.to (HC1.out.toBelow (fun q hq => by simp at hq; omega) hBw)).c0; clear hown hgrow)
  clear n0 hb2 hb4 hi hz0 hz1 hz2
  rw [made_at] at HW1
  go_loopw [23] (fun q wr => ∃ (i : Nat) (o : Nat → Option Nat) (pre : List Nat), i ≤ S.length ∧ pre.length = i ∧ q = .int .i64 i ∧ OwnIs wr ob o ∧ improveGo fit R.length S.length 0 o0 = pre ++ improveGo fit R.length (S.length - i) i o ∧ wr.ownsRow w.heap.size 3 1 (.slice (some ⟨w.heap.size, 0, none⟩) S.length S.length) S.length (atRow S.length pre) ∧ Chg w.heap.size [ob] w wr) (fun q _ => S.length - (intOf q).toNat)
  case atStart => exact ⟨0, o0, [], Nat.zero_le _, rfl, rfl, HO1.out, rfl, HW1.out, HC1.out⟩
  case round =>
    obtain ⟨i, o, pre, hi, hpl, rfl, hO, hgo, hrow, hC⟩ := hrel
    have HOi := Lib.hid hO
    have HG := Lib.hid hgo
    have HRow := Lib.hid hrow
    have HC := Lib.hid hC
    have HNr := Lib.hid (HN.out.to (hC.toBelow (fun q hq => by simp at hq; omega) hBw))
    clear hO hgo hrow hC
    by_cases hlt : i < S.length
    rotate_left
    · have hg := HG.out
      rw [show S.length - i = 0 by omega, improveGo, List.append_nil] at hg
      have hpn : pre.length = S.length := by omega
      have HRw := Lib.hid (show wr.ownsRow w.heap.size 3 1 (.slice (some ⟨w.heap.size, 0, none⟩) S.length S.length) S.length (idRow R pre 0) from by rw [idRow_none hpn]; exact HRow.out)
      have HKs := Lib.hid (show ∀ x ∈ pre, x < R.length from fun x hx => HK.out x (by rw [hg]; exact hx))
      have HE := Lib.hid hg
      clear hg HRow HG hlt hi
      go_wp2_with fail
      generalize wr = W0 at *
      go_loopw [76] (fun q wr => ∃ j : Nat, j ≤ S.length ∧ q = .int .i64 j ∧ wr.ownsRow w.heap.size 3 1 (.slice (some ⟨w.heap.size, 0, none⟩) S.length S.length) S.length (idRow R pre j) ∧ Chg w.heap.size [ob] w wr) (fun q _ => S.length - (intOf q).toNat)
      case atStart => exact ⟨0, Nat.zero_le _, rfl, HRw.out, HC.out⟩
      case round =>
        obtain ⟨j, hj, rfl, hrow, hC⟩ := hrel
        have HR := Lib.hid hrow
        have HCj := Lib.hid hC
        have HNj := Lib.hid (HN.out.to (hC.toBelow (fun q hq => by simp at hq; omega) hBw))
        clear hrow hC
        by_cases hlj : j < S.length
        rotate_left
        · have hje : j = S.length := by omega
          subst hje
          have hend := idRow_all (R := R) hpn
          have HRe := Lib.hid (show wr.ownsRow w.heap.size 3 1 (.slice (some ⟨w.heap.size, 0, none⟩) S.length S.length) S.length (pre.map fun k => Value.int .i64 ((R.map RG.rm).getD k default).id) from by rw [← hend]; exact HR.out)
          clear hend
          go_wp2_with fail
          go_ret
          refine ⟨some ⟨w.heap.size, 0, none⟩, S.length, rfl, ?_, HCj.out, (fun ad e => by cases e; exact Nat.le_refl _)⟩
          rw [HE.out]
          obtain ⟨A, c, e, _, _, h⟩ := rd_of_own HRe.out (by decide)
          cases e
          exact h
        have hjp : j < pre.length := by omega
        have hjk := HKs.out pre[j] (List.getElem_mem hjp)
        have hcell := HR.out.cellAt j (by omega)
        rw [idRow_at hjp] at hcell
        have hfr := HR.out.frozenAt j
        obtain ⟨bb, off, rfl, hbb, hcs⟩ := HNj.out.rm.at_ (by omega)
        obtain ⟨c0, _⟩ := hcs pre[j] hjk
        have n1 := HNj.out.c1
        obtain ⟨hr2, hg2⟩ := HR.out.stored j (.int .i64 (R[pre[j]].id))
        rw [idRow_set hjp hjk] at hr2
        have HR2 := Lib.hid hr2
        have HC2 := Lib.hid (HCj.out.grown hg2 HCj.out.size (fun r e => .inr (Nat.le_of_eq (Option.some.inj e))))
        clear hr2 hg2 hcs
        generalize pre[j] = kj at *
        generalize R[kj].id = rid at *
        go_wp2_with fail
        go_roundw
        case rel => exact ⟨j + 1, by omega, by go_num, HR2.out, HC2.out⟩
        case measure => simp [intOf]; omega
    have hst : S.length - i = (S.length - (i + 1)) + 1 := by omega
    have HG2 := Lib.hid (show ∀ x o', scanP fit R.length i (List.range R.length) o = (x, o') → improveGo fit R.length S.length 0 o0 = (pre ++ [x.getD 0]) ++ improveGo fit R.length (S.length - (i + 1)) (i + 1) o' from fun x o' e => by rw [HG.out, hst, improveGo, e]; simp)
    have n1 := HNr.out.c1
    clear hst
    go_wp2_with fail
    clear n1
    generalize wr = W0 at *
    go_loopw [31] (fun q wr => ∃ (k : Nat) (o' : Nat → Option Nat), k ≤ R.length ∧ q = .int .i64 k ∧ OwnIs wr ob o' ∧ scanP fit R.length i (List.range R.length) o = scanP fit R.length i ((List.range R.length).drop k) o' ∧ wr.ownsRow w.heap.size 3 1 (.slice (some ⟨w.heap.size, 0, none⟩) S.length S.length) S.length (atRow S.length pre) ∧ Chg w.heap.size [ob] w wr) (fun q _ => R.length - (intOf q).toNat)
    case atStart => exact ⟨0, o, Nat.zero_le _, rfl, HOi.out, rfl, HRow.out, HC.out⟩
    case round =>
      obtain ⟨k, o', hk, rfl, hO, hgo, hrow, hC⟩ := hrel
      have HO2 := Lib.hid hO
      have HS := Lib.hid hgo
      have HRw := Lib.hid hrow
      have HC2 := Lib.hid hC
      have HNk := Lib.hid (HN.out.to (hC.toBelow (fun q hq => by simp at hq; omega) hBw))
      have HB2 := Lib.hid (show B ≤ wr.heap.size from Nat.le_trans hBw hC.size)
      clear hO hgo hrow hC
      by_cases hlk : k < R.length
      rotate_left
      · have hd : (List.range R.length).drop k = [] := List.drop_eq_nil_of_le (by rw [List.length_range]; omega)
        have HG3 := Lib.hid (HG2.out none o' (by rw [HS.out, hd]; rfl))
        have HRw3 := Lib.hid (show wr.ownsRow w.heap.size 3 1 (.slice (some ⟨w.heap.size, 0, none⟩) S.length S.length) S.length (atRow S.length (pre ++ [0])) from by rw [← atRow_same (by omega)]; exact HRw.out)
        clear hd
        go_wp2_with fail
        go_roundw
        case rel => exact ⟨i + 1, o', pre ++ [0], by omega, by simp; omega, by go_num, HO2.out, HG3.out, HRw3.out, HC2.out⟩
        case measure => simp [intOf]; omega
      have hd : (List.range R.length).drop k = k :: (List.range R.length).drop (k + 1) := by
        rw [List.drop_eq_getElem_cons (by rw [List.length_range]; exact hlk), List.getElem_range]
      have HSd := Lib.hid (show scanP fit R.length i (List.range R.length) o = scanP fit R.length i (k :: (List.range R.length).drop (k + 1)) o' from by rw [HS.out, hd])
      have n2 := HNk.out.c2
      have hfi := fit_get HNk.out.ft i k
      clear hd
      cases hfk : fit i k
      · have HG3 := Lib.hid (show scanP fit R.length i (List.range R.length) o = scanP fit R.length i ((List.range R.length).drop (k + 1)) o' from by rw [HSd.out, scanP_cons, if_pos hfk])
        rw [hfk] at hfi
        clear hfk
        go_wp2_with fail
        go_roundw
        case rel => exact ⟨k + 1, o', by omega, by go_num, HO2.out, HG3.out, HRw.out, HC2.out⟩
        case measure => simp [intOf]; omega
      rw [hfk] at hfi
      have hnf : ¬ fit i k = false := by rw [hfk]; simp
      clear hfk
      have HSe := Lib.hid (show scanP fit R.length i (List.range R.length) o = match o' k with
        | none => match moveP fit R.length o' i k with
          | (true, o1) => (some k, o1)
          | (false, o1) => scanP fit R.length i ((List.range R.length).drop (k + 1)) o1
        | some j => if j < i then scanP fit R.length i ((List.range R.length).drop (k + 1)) o' else if j = i then (some k, o') else
          match moveP fit R.length o' i k with
          | (true, o1) => (some k, o1)
          | (false, o1) => scanP fit R.length i ((List.range R.length).drop (k + 1)) o1 from by rw [HSd.out, scanP_cons, if_neg hnf])
      clear hnf HSd
      cases hok : o' k with
      | none =>
        have hlk := own_none_get HO2.out hok
        have HX := Lib.hid (show scanP fit R.length i (List.range R.length) o = match moveP fit R.length o' i k with
          | (true, o1) => (some k, o1)
          | (false, o1) => scanP fit R.length i ((List.range R.length).drop (k + 1)) o1 from by rw [HSe.out, hok])
        clear hok HSe
        have HM := Lib.hid (move_any hR hob i k (by omega) o' wr HNk.out HO2.out HB2.out)
        generalize moveP fit R.length o' i k = z at *
        obtain ⟨b, z⟩ := z
        cases b
        · have HG3 := Lib.hid (show scanP fit R.length i (List.range R.length) o = scanP fit R.length i ((List.range R.length).drop (k + 1)) z from HX.out)
          go_wp2_with (go_at_call 113; refine HM.out.mono ?_; rintro e w3 ⟨rfl, hO3, hC3⟩)
          go_roundw
          case rel => exact ⟨k + 1, z, by omega, by go_num, hO3, HG3.out, HRw.out.kept (hC3.grownBy (Nat.le_refl _) (fun q hq _ => by simpa using hq)) (.inr (fun e => hwo (Option.some.inj e))), HC2.out.trans (hC3.mono HC2.out.size)⟩
          case measure => simp [intOf]; omega
        · have HG3 := Lib.hid (HG2.out (some k) z HX.out)
          go_wp2_with (go_at_call 113; refine HM.out.mono ?_; rintro e w3 ⟨rfl, hO3, hC3⟩; have HO3 := Lib.hid hO3; have HRw3 := Lib.hid (HRw.out.kept (hC3.grownBy (Nat.le_refl _) (fun q hq _ => by simpa using hq)) (.inr (fun e => hwo (Option.some.inj e)))); have HC3 := Lib.hid (HC2.out.trans (hC3.mono HC2.out.size)); clear hO3 hC3; have hcell := HRw3.out.cellAt i (by omega); rw [atRow_at hlt hpl] at hcell; have hfr := HRw3.out.frozenAt i)
          obtain ⟨hr2, hg2⟩ := HRw3.out.stored i (.int .i64 k)
          have hset := atRow_set (show pre.length < S.length by omega) k
          rw [hpl] at hset
          rw [hset] at hr2
          have HO4 := Lib.hid (HO3.out.grown hg2 (fun e => hwo (Option.some.inj e).symm))
          have HC4 := Lib.hid (HC3.out.grown hg2 HC3.out.size (fun r e => .inr (Nat.le_of_eq (Option.some.inj e))))
          go_roundw
          case rel => exact ⟨i + 1, z, pre ++ [k], by omega, by simp; omega, by go_num, HO4.out, HG3.out, hr2, HC4.out⟩
          case measure => simp [intOf]; omega
      | some j =>
        have hlk := own_some_get HO2.out hok
        by_cases hji : j < i
        · have HG3 := Lib.hid (show scanP fit R.length i (List.range R.length) o = scanP fit R.length i ((List.range R.length).drop (k + 1)) o' from by rw [HSe.out, hok]; exact if_pos hji)
          have hji2 : (j : Int) < (i : Int) := by omega
          clear hok HSe
          go_wp2_with fail
          go_roundw
          case rel => exact ⟨k + 1, o', by omega, by go_num, HO2.out, HG3.out, HRw.out, HC2.out⟩
          case measure => simp [intOf]; omega
        have hji2 : ¬ (j : Int) < (i : Int) := by omega
        by_cases hje : j = i
        · have HG3 := Lib.hid (HG2.out (some k) o' (by rw [HSe.out, hok]; exact (if_neg hji).trans (if_pos hje)))
          rw [hje] at hlk
          clear hok HSe hji hje hji2
          have hcell := HRw.out.cellAt i (by omega)
          rw [atRow_at hlt hpl] at hcell
          have hfr := HRw.out.frozenAt i
          obtain ⟨hr2, hg2⟩ := HRw.out.stored i (.int .i64 k)
          have hset := atRow_set (show pre.length < S.length by omega) k
          rw [hpl] at hset
          rw [hset] at hr2
          have HR2 := Lib.hid hr2
          have HO4 := Lib.hid (HO2.out.grown hg2 (fun e => hwo (Option.some.inj e).symm))
          have HC4 := Lib.hid (HC2.out.grown hg2 HC2.out.size (fun r e => .inr (Nat.le_of_eq (Option.some.inj e))))
          clear hr2 hg2 hset
          go_wp2_with fail
          go_roundw
          case rel => exact ⟨i + 1, o', pre ++ [k], by omega, by simp; omega, by go_num, HO4.out, HG3.out, HR2.out, HC4.out⟩
          case measure => simp [intOf]; omega
        · have HX := Lib.hid (show scanP fit R.length i (List.range R.length) o = match moveP fit R.length o' i k with
            | (true, o1) => (some k, o1)
            | (false, o1) => scanP fit R.length i ((List.range R.length).drop (k + 1)) o1 from by rw [HSe.out, hok]; exact (if_neg hji).trans (if_neg hje))
          have hje2 : ((j : Int) == (i : Int)) = false := by simp; omega
          clear hok HSe hji hje
          have HM := Lib.hid (move_any hR hob i k (by omega) o' wr HNk.out HO2.out HB2.out)
          generalize moveP fit R.length o' i k = z at *
          obtain ⟨b, z⟩ := z
          cases b
          · have HG3 := Lib.hid (show scanP fit R.length i (List.range R.length) o = scanP fit R.length i ((List.range R.length).drop (k + 1)) z from HX.out)
            go_wp2_with (go_at_call 113; refine HM.out.mono ?_; rintro e w3 ⟨rfl, hO3, hC3⟩)
            go_roundw
            case rel => exact ⟨k + 1, z, by omega, by go_num, hO3, HG3.out, HRw.out.kept (hC3.grownBy (Nat.le_refl _) (fun q hq _ => by simpa using hq)) (.inr (fun e => hwo (Option.some.inj e))), HC2.out.trans (hC3.mono HC2.out.size)⟩
            case measure => simp [intOf]; omega
          · have HG3 := Lib.hid (HG2.out (some k) z HX.out)
            go_wp2_with (go_at_call 113; refine HM.out.mono ?_; rintro e w3 ⟨rfl, hO3, hC3⟩; have HO3 := Lib.hid hO3; have HRw3 := Lib.hid (HRw.out.kept (hC3.grownBy (Nat.le_refl _) (fun q hq _ => by simpa using hq)) (.inr (fun e => hwo (Option.some.inj e)))); have HC3 := Lib.hid (HC2.out.trans (hC3.mono HC2.out.size)); clear hO3 hC3; have hcell := HRw3.out.cellAt i (by omega); rw [atRow_at hlt hpl] at hcell; have hfr := HRw3.out.frozenAt i)
            obtain ⟨hr2, hg2⟩ := HRw3.out.stored i (.int .i64 k)
            have hset := atRow_set (show pre.length < S.length by omega) k
            rw [hpl] at hset
            rw [hset] at hr2
            have HO4 := Lib.hid (HO3.out.grown hg2 (fun e => hwo (Option.some.inj e).symm))
            have HC4 := Lib.hid (HC3.out.grown hg2 HC3.out.size (fun r e => .inr (Nat.le_of_eq (Option.some.inj e))))
            go_roundw
            case rel => exact ⟨i + 1, z, pre ++ [k], by omega, by simp; omega, by go_num, HO4.out, HG3.out, hr2, HC4.out⟩
            case measure => simp [intOf]; omega
end Go.Proofs.YtdhhcbkldfdbbaaGreat

/-
  Words for slices.AppendSeq: what a box that holds a row abides. (As in Collect, which is for package merge.)
-/
namespace Go.Proofs.YtdhhcbkldfdbbaaGreat
open Go.RowKit Go.Shelf
theorem holdsRow_abide {β : Type} {Cl : Obj → Bool} (B0 n₀ B : Nat) (t e : TypeId) (size : Nat) (k : β → Nat) (f : β → List Value) (G : β → Value → Prop) (h1 : ∀ cs fr, Cl (.cells cs t fr) = false) (h2 : ∀ cs fr, Cl (.cells cs e fr) = false) :
    Abide (fun o => !o.isCells || Cl o) B0 (fun s W => ∃ v, Boxed W B t v ∧ W.ownsRow n₀ e size v (k s) (f s) ∧ G s v) := by
  rintro s X Y row ⟨v, hv, hr, hG⟩ hg hrow
  refine ⟨v, hv.kept hg (fun e' => ?_), hr.kept hg ?_, hG⟩
  · obtain ⟨_, o, ho, hc⟩ := hrow B e'.symm
    rw [show X.heap[B]? = _ from hv] at ho; cases ho; simp [Obj.isCells, h1] at hc
  · rcases hr.2 with ⟨rfl, _⟩ | ⟨g, cap, cur, rfl, _, hgb, _⟩
    · exact .inl rfl
    · refine .inr fun e' => ?_
      obtain ⟨_, o, ho, hc⟩ := hrow g (by simpa [Value.ownBlock] using e'.symm)
      rw [hgb] at ho; cases ho; simp [Obj.isCells, h2] at hc
theorem abide_below {β : Type} {Cl : Obj → Bool} {B0 B : Nat} {w : World} (hB : B ≤ w.heap.size) (hB0 : B ≤ B0) : Abide Cl B0 (fun (_ : β) W => Below B w W) :=
  fun _ _ _ _ hs hg hr => hs.grown hg (Nat.le_trans hB hs.size) (fun k e => Nat.le_trans hB0 (hr k e).1)
theorem Abide.and {β : Type} {Cl : Obj → Bool} {B0 : Nat} {I J : β → World → Prop} (h : Abide Cl B0 I) (k : Abide Cl B0 J) : Abide Cl B0 (fun s W => I s W ∧ J s W) :=
  fun s X Y row hs hg hr => ⟨h s X Y row hs.1 hg hr, k s X Y row hs.2 hg hr⟩
theorem appended_types {W w1 : World} {n₀ B : Nat} {t e : TypeId} {size : Nat} {v v' : Value} {k : Nat} {xs : List Value} {tmp : Obj}
    (hv : Boxed W B t v) (hrow : W.ownsRow n₀ e size v k xs) (hgrow : (W.alloc tmp).grownBy w1 v.ownBlock) (b : Nat) (cs : Array Value) (t' : TypeId) (fr : Nat × Nat) (h1 : t' ≠ t) (h2 : t' ≠ e) (hb : W.heap[b]? = some (.cells cs t' fr)) :
    (w1.setCell ⟨B, 0, none⟩ v').heap[b]? = some (.cells cs t' fr) := by
  have hlt := (Array.getElem?_eq_some_iff.1 hb).1
  have hbB : b ≠ B := fun e' => by subst e'; rw [show W.heap[b]? = _ from hv] at hb; cases hb; exact h1 rfl
  rw [Below.heap_setCell _ _ _ _ hbB]
  refine (hgrow.block b (by simp; omega) (fun e' => ?_)).trans ((Below.heap_alloc W tmp b hlt).trans hb)
  rcases hrow.2 with ⟨rfl, _⟩ | ⟨g, cap, cur, rfl, _, hgb, _⟩
  · simp [Value.ownBlock] at e'
  · obtain rfl : b = g := by simpa [Value.ownBlock] using e'
    rw [hgb] at hb; cases hb; exact h2 rfl
end Go.Proofs.YtdhhcbkldfdbbaaGreat

/-
  A row of the call's own whose elements take k cells, as the sort's contracts want it (HoldsK), and back. Nothing of the program stands here.
-/
namespace Go.Proofs.YtdhhcbkldfdbbaaGreat
open Go.RowKit Go.Shelf Go.Sort
section
variable {α : Type} [Inhabited α] {enc : α → List Value} {k : Nat}
theorem flatK_at (hk : ∀ x, (enc x).length = k) (h0 : 0 < k) (xs : List α) (t : Nat) (ht : t < xs.toArray.size * k) : (xs.flatMap enc)[t]? = some ((flatK enc k xs.toArray)[t]!) := by
  rw [get_flatK enc k xs.toArray t ht]
  have hl : t / k < xs.length := by
    have := Nat.div_lt_of_lt_mul (m := t) (n := k) (k := xs.length) (by simp at ht; rw [Nat.mul_comm]; exact ht)
    exact this
  have h := flat_at hk xs (t / k) hl (t % k) (Nat.mod_lt _ h0)
  rw [show t / k * k + t % k = t from by rw [Nat.mul_comm]; exact Nat.div_add_mod t k] at h
  rw [h]
  have hx : xs.toArray[t / k]! = xs[t / k] := by simp [hl]
  rw [hx]
  have hlen : t % k < (enc xs[t / k]).length := by rw [hk]; exact Nat.mod_lt _ h0
  rw [List.getElem?_eq_getElem hlen]
  simp [hlen]
theorem holdsK_of_own (hk : ∀ x, (enc x).length = k) (h0 : 0 < k) {w : World} {base g cap : Nat} {e : TypeId} {xs : List α} (h : w.ownsRow base e k (.slice (some ⟨g, 0, none⟩) xs.length cap) xs.length (xs.flatMap enc)) : HoldsK enc k w g 0 xs.toArray := by
  intro j hj
  rw [size_flatK] at hj
  refine ⟨?_, by rw [Nat.zero_add]; exact h.frozenAt j⟩
  rw [Nat.zero_add, h.cellAt j (by simpa using hj), flatK_at hk h0 xs j hj]
  rfl
theorem rd_of_holdsK (hk : ∀ x, (enc x).length = k) (h0 : 0 < k) {w : World} {g : Nat} {xs : List α} (hg : g < w.heap.size) (h : HoldsK enc k w g 0 xs.toArray) : Rd w w.heap.size (some ⟨g, 0, none⟩) (xs.flatMap enc) := fun _ => by
  refine ⟨g, 0, rfl, hg, fun j v hv => ?_⟩
  have hj : j < xs.toArray.size * k := by
    have := (List.getElem?_eq_some_iff.1 hv).1
    rw [flat_length hk] at this
    simpa using this
  have h1 := (h j (by rw [size_flatK]; exact hj)).1
  rw [h1, ← hv, flatK_at hk h0 xs j hj]
  rfl
theorem below_sortWorldK (w : World) (g n : Nat) (d : Array α) (os : Array Obj) {B : Nat} (hB : B ≤ g) (hg : g < w.heap.size) : Below B w (sortWorldK enc k w g 0 n d os) := by
  refine ⟨rfl, rfl, rfl, by simp [sortWorldK, putRowK, Sort.ahead], fun i hi => ?_⟩
  unfold sortWorldK
  rw [heap_grow_old _ _ (by simp [putRowK, Sort.ahead]; omega)]
  simp only [putRowK, putRow, mapBlock, Sort.ahead]
  rw [Array.getElem?_modify, if_neg (by omega)]
theorem rd_sorted (hk : ∀ x, (enc x).length = k) (h0 : 0 < k) {w : World} {g n : Nat} {xs ys : List α} {os : Array Obj} (hg : g < w.heap.size) (hH : HoldsK enc k w g 0 xs.toArray) (hl : ys.length = xs.length) :
    Rd (sortWorldK enc k w g 0 n ys.toArray os) (sortWorldK enc k w g 0 n ys.toArray os).heap.size (some ⟨g, 0, none⟩) (ys.flatMap enc) := by
  have hs : ys.toArray.size = xs.toArray.size := by simpa using hl
  refine rd_of_holdsK hk h0 ?_ ?_
  · simp [sortWorldK, putRowK, Sort.ahead]; omega
  · show HoldsK enc k (grow (putRowK enc k (Sort.ahead w n) g 0 ys.toArray) os) g 0 ys.toArray
    exact holdsK_grow enc k _ os g 0 _ (by simp [putRowK, Sort.ahead]; omega) (holdsK_putRowK enc k _ g 0 xs.toArray _ (holdsK_ahead enc k w n g 0 _ hH) hs)
end
end Go.Proofs.YtdhhcbkldfdbbaaGreat

/-
  The plain law of span.Meet: the pieces into which the ends of two sets divide all numbers; a piece is in both sets exactly if two of their spans overlap. Nothing of the program stands here.
-/
namespace Go.Proofs.YtdhhcbkldfdbbaaGreat
structure E3 where
  n : Int
  mark : Int
  dir : Int
deriving DecidableEq, Inhabited
def endsP (l : List Sp) (mark : Int) : List E3 := l.flatMap fun s => [⟨s.fr, mark, 1⟩, ⟨s.un, mark, -1⟩]
structure PSt where
  at_ : Int
  a : Bool
  b : Bool
def stepP (s : PSt) (x : E3) : PSt := ⟨x.n, if x.mark = 0 then decide (0 < x.dir) else s.a, if x.mark = 0 then s.b else decide (0 < x.dir)⟩
def piecesGo : PSt → List E3 → List (Sp × Bool × Bool)
  | _, [] => []
  | s, x :: t => (if s.at_ < x.n then [(⟨s.at_, x.n⟩, s.a, s.b)] else []) ++ piecesGo (stepP s x) t
def piecesP (l : List E3) : List (Sp × Bool × Bool) := piecesGo ⟨0, false, false⟩ l
def inSet (l : List Sp) (p : Int) : Prop := ∃ s ∈ l, s.fr ≤ p ∧ p < s.un
theorem setGo_apart {last : Int} {l : List Sp} (h : setGo last l = true) : l.Pairwise fun s t => s.un < t.fr := by
  induction l generalizing last with
  | nil => exact List.Pairwise.nil
  | cons x t ih =>
    rw [setGo, Bool.and_eq_true, Bool.and_eq_true] at h
    exact List.pairwise_cons.2 ⟨fun y hy => ((setGo_span h.2) y hy).2, ih h.2⟩
theorem set_apart {l : List Sp} (h : setB l = true) {s t : Sp} (hs : s ∈ l) (ht : t ∈ l) : s = t ∨ s.un < t.fr ∨ t.un < s.fr := by
  unfold setB at h
  rw [Bool.and_eq_true] at h
  have hp := setGo_apart h.1
  obtain ⟨i, hi, rfl⟩ := List.mem_iff_getElem.1 hs
  obtain ⟨j, hj, rfl⟩ := List.mem_iff_getElem.1 ht
  rcases Nat.lt_trichotomy i j with h | h | h
  · exact .inr (.inl (List.pairwise_iff_getElem.1 hp i j hi hj h))
  · subst h; exact .inl rfl
  · exact .inr (.inr (List.pairwise_iff_getElem.1 hp j i hj hi h))
theorem set_span {l : List Sp} (h : setB l = true) {s : Sp} (hs : s ∈ l) : 0 ≤ s.fr ∧ s.fr < s.un ∧ s.un ≤ 1000000000 := by
  unfold setB at h
  rw [Bool.and_eq_true] at h
  have := ((setGo_span h.1) s hs).1
  unfold spanB at this
  exact of_decide_eq_true this
theorem mem_endsP {l : List Sp} {m : Int} {e : E3} : e ∈ endsP l m ↔ ∃ s ∈ l, e = ⟨s.fr, m, 1⟩ ∨ e = ⟨s.un, m, -1⟩ := by
  unfold endsP
  rw [List.mem_flatMap]
  exact exists_congr fun s => and_congr_right fun _ => by simp
theorem last_end {l : List Sp} (h : setB l = true) {m p : Int} {e : E3} (he : e ∈ endsP l m) (hp : e.n ≤ p) (hl : ∀ e' ∈ endsP l m, e'.n ≤ p → e'.n ≤ e.n) : 0 < e.dir ↔ inSet l p := by
  obtain ⟨s, hs, rfl | rfl⟩ := mem_endsP.1 he
  · have h1 := hl ⟨s.un, m, -1⟩ (mem_endsP.2 ⟨s, hs, .inr rfl⟩)
    have h2 := (set_span h hs).2.1
    simp only at hp h1
    exact ⟨fun _ => ⟨s, hs, hp, by rcases Int.lt_or_le p s.un with h3 | h3; exact h3; have := h1 h3; omega⟩, fun _ => Int.zero_lt_one⟩
  · refine ⟨fun k => by simp at k, fun ⟨t, ht, h1, h2⟩ => ?_⟩
    have h3 := hl ⟨t.fr, m, 1⟩ (mem_endsP.2 ⟨t, ht, .inl rfl⟩) h1
    simp only at hp h3
    have h4 := (set_span h hs).2.1
    rcases set_apart h hs ht with e | e | e
    · subst e; omega
    · omega
    · omega
theorem fold_state (pre : List E3) (s : PSt) : (pre.foldl stepP s).at_ = (match pre.getLast? with | some x => x.n | none => s.at_) ∧
    (pre.foldl stepP s).a = (match (pre.filter fun x => decide (x.mark = 0)).getLast? with | some x => decide (0 < x.dir) | none => s.a) ∧
    (pre.foldl stepP s).b = (match (pre.filter fun x => !decide (x.mark = 0)).getLast? with | some x => decide (0 < x.dir) | none => s.b) := by
  induction pre generalizing s with
  | nil => exact ⟨rfl, rfl, rfl⟩
  | cons x t ih =>
    obtain ⟨h1, h2, h3⟩ := ih (stepP s x)
    rw [List.foldl_cons]
    refine ⟨?_, ?_, ?_⟩
    · rw [h1]
      cases t with
      | nil => rfl
      | cons y t' =>
        rw [List.getLast?_cons_cons]
        cases hl : (y :: t').getLast? with
        | none => simp at hl
        | some z => rfl
    · rw [h2]
      by_cases hm : x.mark = 0
      · rw [List.filter_cons_of_pos (by simpa using hm)]
        cases hf : (t.filter fun x => decide (x.mark = 0)) with
        | nil => simp [stepP, hm]
        | cons y t' =>
          rw [List.getLast?_cons_cons]
          cases hl : (y :: t').getLast? with
          | none => simp at hl
          | some z => rfl
      · rw [List.filter_cons_of_neg (by simpa using hm)]
        simp [stepP, hm]
    · rw [h3]
      by_cases hm : x.mark = 0
      · rw [List.filter_cons_of_neg (by simpa using hm)]
        simp [stepP, hm]
      · rw [List.filter_cons_of_pos (by simpa using hm)]
        cases hf : (t.filter fun x => !decide (x.mark = 0)) with
        | nil => simp [stepP, hm]
        | cons y t' =>
          rw [List.getLast?_cons_cons]
          cases hl : (y :: t').getLast? with
          | none => simp at hl
          | some z => rfl
theorem piecesGo_mem {s : PSt} {l : List E3} {q : Sp × Bool × Bool} : q ∈ piecesGo s l ↔ ∃ pre x t, l = pre ++ x :: t ∧ (pre.foldl stepP s).at_ < x.n ∧ q = (⟨(pre.foldl stepP s).at_, x.n⟩, (pre.foldl stepP s).a, (pre.foldl stepP s).b) := by
  induction l generalizing s with
  | nil =>
    constructor
    · intro h
      cases h
    · rintro ⟨pre, x, t, h, _⟩
      simp at h
  | cons y t ih =>
    rw [piecesGo, List.mem_append, ih]
    constructor
    · rintro (h | ⟨pre, x, u, h1, h2, h3⟩)
      · split at h
        · rename_i hlt
          exact ⟨[], y, t, rfl, hlt, List.mem_singleton.1 h⟩
        · cases h
      · exact ⟨y :: pre, x, u, by rw [h1]; rfl, h2, h3⟩
    · rintro ⟨pre, x, u, h1, h2, h3⟩
      cases pre with
      | nil =>
        simp only [List.nil_append, List.cons.injEq] at h1
        obtain ⟨rfl, rfl⟩ := h1
        left
        rw [List.foldl_nil] at h2 h3
        rw [if_pos h2]
        exact List.mem_singleton.2 h3
      | cons z pre =>
        simp only [List.cons_append, List.cons.injEq] at h1
        obtain ⟨rfl, rfl⟩ := h1
        exact .inr ⟨pre, x, u, rfl, h2, h3⟩
structure EndsIn (a b : List Sp) (l : List E3) : Prop where
  perm : l.Perm (endsP a 0 ++ endsP b 1)
  sorted : l.Pairwise fun x y => x.n ≤ y.n
theorem EndsIn.zero {a b : List Sp} {l : List E3} (h : EndsIn a b l) {e : E3} : (e ∈ l ∧ e.mark = 0) ↔ e ∈ endsP a 0 := by
  rw [h.perm.mem_iff, List.mem_append]
  constructor
  · rintro ⟨h1 | h1, h2⟩
    · exact h1
    · obtain ⟨s, _, rfl | rfl⟩ := mem_endsP.1 h1 <;> simp at h2
  · intro h1
    refine ⟨.inl h1, ?_⟩
    obtain ⟨s, _, rfl | rfl⟩ := mem_endsP.1 h1 <;> rfl
theorem EndsIn.one {a b : List Sp} {l : List E3} (h : EndsIn a b l) {e : E3} : (e ∈ l ∧ e.mark ≠ 0) ↔ e ∈ endsP b 1 := by
  rw [h.perm.mem_iff, List.mem_append]
  constructor
  · rintro ⟨h1 | h1, h2⟩
    · obtain ⟨s, _, rfl | rfl⟩ := mem_endsP.1 h1 <;> simp at h2
    · exact h1
  · intro h1
    refine ⟨.inr h1, ?_⟩
    obtain ⟨s, _, rfl | rfl⟩ := mem_endsP.1 h1 <;> simp
theorem last_le {l : List E3} (hs : l.Pairwise fun x y => x.n ≤ y.n) {e : E3} (he : l.getLast? = some e) : e ∈ l ∧ ∀ x ∈ l, x.n ≤ e.n := by
  obtain ⟨u, rfl⟩ := List.getLast?_eq_some_iff.1 he
  refine ⟨by simp, fun x hx => ?_⟩
  rcases List.mem_append.1 hx with hx | hx
  · exact (List.pairwise_append.1 hs).2.2 x hx e (by simp)
  · rw [List.mem_singleton.1 hx]; exact Int.le_refl _
theorem state_at {a b : List Sp} {pre suf : List E3} {p : Int} (ha : setB a = true) (hb : setB b = true) (h : EndsIn a b (pre ++ suf)) (h1 : ∀ x ∈ pre, x.n ≤ p) (h2 : ∀ x ∈ suf, p < x.n) :
    ((pre.foldl stepP ⟨0, false, false⟩).a = true ↔ inSet a p) ∧ ((pre.foldl stepP ⟨0, false, false⟩).b = true ↔ inSet b p) := by
  have hsp : pre.Pairwise fun x y => x.n ≤ y.n := (List.pairwise_append.1 h.sorted).1
  obtain ⟨_, h4, h5⟩ := fold_state pre ⟨0, false, false⟩
  have none_in : ∀ (l : List Sp) (m : Int), (∀ e ∈ endsP l m, ¬ e.n ≤ p) → ¬ inSet l p := fun l m hn ⟨s, hs, k1, _⟩ => hn ⟨s.fr, m, 1⟩ (mem_endsP.2 ⟨s, hs, .inl rfl⟩) k1
  constructor
  · rw [h4]
    cases hl : (pre.filter fun x => decide (x.mark = 0)).getLast? with
    | none =>
      have hf : (pre.filter fun x => decide (x.mark = 0)) = [] := by simpa using hl
      refine ⟨fun k => by simp at k, fun k => absurd k (none_in a 0 fun e he hn => ?_)⟩
      obtain ⟨k1, k2⟩ := h.zero.2 he
      rcases List.mem_append.1 k1 with k1 | k1
      · have : e ∈ pre.filter fun x => decide (x.mark = 0) := List.mem_filter.2 ⟨k1, by simpa using k2⟩
        rw [hf] at this; cases this
      · have := h2 e k1; omega
    | some e =>
      obtain ⟨k1, k2⟩ := last_le (hsp.sublist List.filter_sublist) hl
      obtain ⟨k3, k4⟩ := List.mem_filter.1 k1
      have he := h.zero.1 ⟨List.mem_append.2 (.inl k3), by simpa using k4⟩
      simp only [decide_eq_true_eq]
      refine last_end ha he (h1 e k3) fun e' he' hp' => ?_
      obtain ⟨j1, j2⟩ := h.zero.2 he'
      rcases List.mem_append.1 j1 with j1 | j1
      · exact k2 e' (List.mem_filter.2 ⟨j1, by simpa using j2⟩)
      · have := h2 e' j1; omega
  · rw [h5]
    cases hl : (pre.filter fun x => !decide (x.mark = 0)).getLast? with
    | none =>
      have hf : (pre.filter fun x => !decide (x.mark = 0)) = [] := by simpa using hl
      refine ⟨fun k => by simp at k, fun k => absurd k (none_in b 1 fun e he hn => ?_)⟩
      obtain ⟨k1, k2⟩ := h.one.2 he
      rcases List.mem_append.1 k1 with k1 | k1
      · have : e ∈ pre.filter fun x => !decide (x.mark = 0) := List.mem_filter.2 ⟨k1, by simpa using k2⟩
        rw [hf] at this; cases this
      · have := h2 e k1; omega
    | some e =>
      obtain ⟨k1, k2⟩ := last_le (hsp.sublist List.filter_sublist) hl
      obtain ⟨k3, k4⟩ := List.mem_filter.1 k1
      have he := h.one.1 ⟨List.mem_append.2 (.inl k3), by simpa using k4⟩
      simp only [decide_eq_true_eq]
      refine last_end hb he (h1 e k3) fun e' he' hp' => ?_
      obtain ⟨j1, j2⟩ := h.one.2 he'
      rcases List.mem_append.1 j1 with j1 | j1
      · exact k2 e' (List.mem_filter.2 ⟨j1, by simpa using j2⟩)
      · have := h2 e' j1; omega
theorem take_holds {α : Type} {P : α → Bool} {l : List α} {e : α} (h : e ∈ l.takeWhile P) : P e = true := by
  induction l with
  | nil => cases h
  | cons x t ih =>
    rw [List.takeWhile_cons] at h
    split at h
    · rename_i hx
      rcases List.mem_cons.1 h with rfl | h
      · exact hx
      · exact ih h
    · cases h
theorem meet_iff {a b : List Sp} {l : List E3} (ha : setB a = true) (hb : setB b = true) (h : EndsIn a b l) : (∃ s, (s, true, true) ∈ piecesP l) ↔ ∃ x ∈ a, ∃ y ∈ b, overlapB x y = true := by
  constructor
  · rintro ⟨s, hs⟩
    obtain ⟨pre, x, t, rfl, h1, h2⟩ := piecesGo_mem.1 hs
    simp only [Prod.mk.injEq] at h2
    obtain ⟨_, e1, e2⟩ := h2
    have hsp := List.pairwise_append.1 h.sorted
    have hle : ∀ y ∈ pre, y.n ≤ (pre.foldl stepP ⟨0, false, false⟩).at_ := fun y hy => by
      rw [(fold_state pre _).1]
      cases hl : pre.getLast? with
      | none => simp at hl; subst hl; cases hy
      | some e => exact (last_le hsp.1 hl).2 y hy
    have hlt : ∀ y ∈ x :: t, (pre.foldl stepP ⟨0, false, false⟩).at_ < y.n := fun y hy => by
      rcases List.mem_cons.1 hy with rfl | hy
      · exact h1
      · have := (List.pairwise_cons.1 hsp.2.1).1 y hy; omega
    obtain ⟨k1, k2⟩ := state_at ha hb h hle hlt
    obtain ⟨u, hu, u1, u2⟩ := k1.1 e1.symm
    obtain ⟨v, hv, v1, v2⟩ := k2.1 e2.symm
    exact ⟨u, hu, v, hv, decide_eq_true ⟨by omega, by omega⟩⟩
  · rintro ⟨x, hx, y, hy, ho⟩
    obtain ⟨o1, o2⟩ := of_decide_eq_true ho
    have hx2 := set_span ha hx
    have hy2 := set_span hb hy
    obtain ⟨p, hp⟩ : ∃ p, p = max x.fr y.fr := ⟨_, rfl⟩
    have hpx : x.fr ≤ p ∧ p < x.un := by omega
    have hpy : y.fr ≤ p ∧ p < y.un := by omega
    have hsplit := List.takeWhile_append_dropWhile (p := fun e : E3 => decide (e.n ≤ p)) (l := l)
    have h1 : ∀ e ∈ l.takeWhile (fun e : E3 => decide (e.n ≤ p)), e.n ≤ p := fun e he => by simpa using take_holds he
    have h2 : ∀ e ∈ l.dropWhile (fun e : E3 => decide (e.n ≤ p)), p < e.n := by
      have hs2 := h.sorted.sublist (List.dropWhile_sublist (fun e : E3 => decide (e.n ≤ p)))
      cases hd : l.dropWhile (fun e : E3 => decide (e.n ≤ p)) with
      | nil => intro e he; cases he
      | cons z t =>
        rw [hd] at hs2
        have hz : ¬ z.n ≤ p := by
          have := List.head?_dropWhile_not (fun e : E3 => decide (e.n ≤ p)) l
          rw [hd] at this
          simpa using this
        intro e he
        rcases List.mem_cons.1 he with rfl | he
        · omega
        · have := (List.pairwise_cons.1 hs2).1 e he; omega
    rw [← hsplit] at h
    obtain ⟨k1, k2⟩ := state_at ha hb h h1 h2
    have hxe : (⟨x.un, 0, -1⟩ : E3) ∈ l.dropWhile (fun e : E3 => decide (e.n ≤ p)) := by
      have := (h.zero.2 (mem_endsP.2 ⟨x, hx, .inr rfl⟩)).1
      rcases List.mem_append.1 this with k | k
      · have := h1 _ k; simp only at this; omega
      · exact k
    have hin : ∃ e ∈ l.takeWhile (fun e : E3 => decide (e.n ≤ p)), e.n = p := by
      rcases Int.le_total x.fr y.fr with hle | hle
      · have := (h.one.2 (mem_endsP.2 ⟨y, hy, .inl rfl⟩)).1
        rcases List.mem_append.1 this with k | k
        · exact ⟨_, k, by simp only; omega⟩
        · have := h2 _ k; simp only at this; omega
      · have := (h.zero.2 (mem_endsP.2 ⟨x, hx, .inl rfl⟩)).1
        rcases List.mem_append.1 this with k | k
        · exact ⟨_, k, by simp only; omega⟩
        · have := h2 _ k; simp only at this; omega
    have hat : ((l.takeWhile (fun e : E3 => decide (e.n ≤ p))).foldl stepP ⟨0, false, false⟩).at_ = p := by
      rw [(fold_state _ _).1]
      obtain ⟨e, he, hen⟩ := hin
      cases hl : (l.takeWhile (fun e : E3 => decide (e.n ≤ p))).getLast? with
      | none => simp at hl; rw [hl] at he; cases he
      | some z =>
        obtain ⟨z1, z2⟩ := last_le (List.pairwise_append.1 h.sorted).1 hl
        have := z2 e he
        have := h1 z z1
        simp only
        omega
    cases hd : l.dropWhile (fun e : E3 => decide (e.n ≤ p)) with
    | nil => rw [hd] at hxe; cases hxe
    | cons z t =>
      refine ⟨⟨p, z.n⟩, ?_⟩
      unfold piecesP
      rw [← hsplit, hd]
      refine piecesGo_mem.2 ⟨_, z, t, rfl, ?_, ?_⟩
      · rw [hat]; exact h2 z (by rw [hd]; simp)
      · rw [hat, k1.2 ⟨x, hx, hpx.1, hpx.2⟩, k2.2 ⟨y, hy, hpy.1, hpy.2⟩]
theorem setGo_room {last : Int} {l : List Sp} (h : setGo last l = true) : last + 2 * (l.length : Int) ≤ lastUn last l := by
  induction l generalizing last with
  | nil => simp [lastUn]
  | cons x t ih =>
    rw [setGo, Bool.and_eq_true, Bool.and_eq_true, decide_eq_true_eq] at h
    have h1 := ih h.2
    have h2 : x.fr < x.un := by have := h.1.1; unfold spanB at this; exact (of_decide_eq_true this).2.1
    have h3 := h.1.2
    rw [lastUn, List.length_cons]
    omega
theorem lastUn_mem {last : Int} {l : List Sp} (h : l ≠ []) : ∃ s ∈ l, lastUn last l = s.un := by
  induction l generalizing last with
  | nil => exact absurd rfl h
  | cons x t ih =>
    cases t with
    | nil => exact ⟨x, by simp, rfl⟩
    | cons y t' =>
      obtain ⟨s, hs, e⟩ := ih (last := x.un) (by simp)
      exact ⟨s, by simp [hs], e⟩
theorem set_few {l : List Sp} (h : setB l = true) (hN : ∀ s ∈ l, s.un ≤ 366) : l.length ≤ 183 := by
  unfold setB at h
  rw [Bool.and_eq_true] at h
  have h1 := setGo_room h.1
  cases l with
  | nil => simp
  | cons x t =>
    obtain ⟨s, hs, e⟩ := lastUn_mem (last := -1) (l := x :: t) (by simp)
    have := hN s hs
    rw [e] at h1
    omega
theorem endsP_length (l : List Sp) (m : Int) : (endsP l m).length = 2 * l.length := by
  unfold endsP
  induction l with
  | nil => rfl
  | cons x t ih => rw [List.flatMap_cons, List.length_append, ih]; simp; omega
theorem piecesGo_length (s : PSt) (l : List E3) : (piecesGo s l).length ≤ l.length := by
  induction l generalizing s with
  | nil => simp [piecesGo]
  | cons x t ih =>
    rw [piecesGo, List.length_append]
    have := ih (stepP s x)
    split <;> simp <;> omega
def wanted (qs : List (Sp × Bool × Bool)) : List (Sp × Bool × Bool) := qs.filter fun q => q.2.1 && q.2.2
theorem wanted_nil {qs : List (Sp × Bool × Bool)} : wanted qs = [] ↔ ¬ ∃ s, (s, true, true) ∈ qs := by
  unfold wanted
  rw [List.filter_eq_nil_iff]
  constructor
  · rintro h ⟨s, hs⟩
    exact absurd rfl (h _ hs)
  · rintro h ⟨s, x, y⟩ hq he
    simp only [Bool.and_eq_true] at he
    obtain ⟨rfl, rfl⟩ := he
    exact h ⟨s, hq⟩
end Go.Proofs.YtdhhcbkldfdbbaaGreat

/-
  A contract of the shelf laid at this program: SlLaysF0.n6, at function 227. Written by the kit's lay-plain.mjs.
-/
namespace Go.Proofs.YtdhhcbkldfdbbaaGreat
open Go.Shelf
def sortE3_ren : Go.Shelf.Ren := ⟨fun | 6 => 227 | 15 => 182 | 14 => 229 | 28 => 202 | 29 => 203 | 20 => 230 | 21 => 231 | 22 => 232 | 23 => 233 | 24 => 234 | 25 => 235 | 26 => 236 | 27 => 237 | 46 => 238 | 47 => 215 | 48 => 216 | 49 => 239 | 50 => 240 | 57 => 241 | n => n, fun | 22 => 231 | 24 => 153 | 25 => 234 | 3 => 3 | 39 => 187 | 0 => 0 | 53 => 205 | 55 => 207 | 4 => 4 | 46 => 199 | 45 => 198 | 50 => 70 | 5 => 5 | 9 => 9 | 66 => 216 | 70 => 109 | 76 => 226 | 77 => 227 | n => n, fun | n => n⟩
theorem sortE3 : Go.Proofs.SlLaysF0.n6 Tryz.prog sortE3_ren := {
  mixed := by kernel_rfl
  f6 := ⟨Tryz.f227.name, by decide, Tryz.func227.trans (congrArg some (by kernel_rfl))⟩
  f14 := ⟨Tryz.f229.name, by decide, Tryz.func229.trans (congrArg some (by kernel_rfl))⟩
  f15 := Tryz.func182.trans (congrArg some (by kernel_rfl))
  f20 := ⟨Tryz.f230.name, by decide, Tryz.func230.trans (congrArg some (by kernel_rfl))⟩
  f21 := ⟨Tryz.f231.name, by decide, Tryz.func231.trans (congrArg some (by kernel_rfl))⟩
  f22 := ⟨Tryz.f232.name, by decide, Tryz.func232.trans (congrArg some (by kernel_rfl))⟩
  f23 := ⟨Tryz.f233.name, by decide, Tryz.func233.trans (congrArg some (by kernel_rfl))⟩
  f24 := ⟨Tryz.f234.name, by decide, Tryz.func234.trans (congrArg some (by kernel_rfl))⟩
  f25 := ⟨Tryz.f235.name, by decide, Tryz.func235.trans (congrArg some (by kernel_rfl))⟩
  f26 := ⟨Tryz.f236.name, by decide, Tryz.func236.trans (congrArg some (by kernel_rfl))⟩
  f27 := ⟨Tryz.f237.name, by decide, Tryz.func237.trans (congrArg some (by kernel_rfl))⟩
  f28 := Tryz.func202.trans (congrArg some (by kernel_rfl))
  f29 := Tryz.func203.trans (congrArg some (by kernel_rfl))
  f46 := ⟨Tryz.f238.name, by decide, Tryz.func238.trans (congrArg some (by kernel_rfl))⟩
  f47 := Tryz.func215.trans (congrArg some (by kernel_rfl))
  f48 := Tryz.func216.trans (congrArg some (by kernel_rfl))
  f49 := ⟨Tryz.f239.name, by decide, Tryz.func239.trans (congrArg some (by kernel_rfl))⟩
  f50 := ⟨Tryz.f240.name, by decide, Tryz.func240.trans (congrArg some (by kernel_rfl))⟩
  f57 := ⟨Tryz.f241.name, by decide, Tryz.func241.trans (congrArg some (by kernel_rfl))⟩
  t0 := Tryz.underlying0
  a0 := Tryz.isAgg0
  z0 := Tryz.sizeOf0
  v0 := Tryz.zeroValue0
  t3 := Tryz.underlying3
  a3 := Tryz.isAgg3
  z3 := Tryz.sizeOf3
  v3 := Tryz.zeroValue3
  t4 := Tryz.underlying4
  a4 := Tryz.isAgg4
  z4 := Tryz.sizeOf4
  v4 := Tryz.zeroValue4
  t5 := Tryz.underlying5
  a5 := Tryz.isAgg5
  z5 := Tryz.sizeOf5
  v5 := Tryz.zeroValue5
  t9 := Tryz.underlying9
  a9 := Tryz.isAgg9
  z9 := Tryz.sizeOf9
  v9 := Tryz.zeroValue9
  t22 := Tryz.underlying231
  a22 := Tryz.isAgg231
  z22 := Tryz.sizeOf231
  v22 := Tryz.zeroValue231
  t25 := Tryz.underlying234
  a25 := Tryz.isAgg234
  z25 := Tryz.sizeOf234
  v25 := Tryz.zeroValue234
  t39 := Tryz.underlying187
  a39 := Tryz.isAgg187
  z39 := Tryz.sizeOf187
  v39 := Tryz.zeroValue187
  t45 := Tryz.underlying198
  a45 := Tryz.isAgg198
  z45 := Tryz.sizeOf198
  v45 := Tryz.zeroValue198
  t46 := Tryz.underlying199
  a46 := Tryz.isAgg199
  z46 := Tryz.sizeOf199
  v46 := Tryz.zeroValue199
  t50 := Tryz.underlying70
  a50 := Tryz.isAgg70
  z50 := Tryz.sizeOf70
  v50 := Tryz.zeroValue70
  t53 := Tryz.underlying205
  a53 := Tryz.isAgg205
  z53 := Tryz.sizeOf205
  v53 := Tryz.zeroValue205
  t55 := Tryz.underlying207
  a55 := Tryz.isAgg207
  z55 := Tryz.sizeOf207
  v55 := Tryz.zeroValue207
  t66 := Tryz.underlying216
  a66 := Tryz.isAgg216
  z66 := Tryz.sizeOf216
  v66 := Tryz.zeroValue216
  t70 := Tryz.underlying109
  a70 := Tryz.isAgg109
  z70 := Tryz.sizeOf109
  v70 := Tryz.zeroValue109
  t76 := Tryz.underlying226
  a76 := Tryz.isAgg226
  z76 := Tryz.sizeOf226
  v76 := Tryz.zeroValue226
  t77 := Tryz.underlying227
  a77 := Tryz.isAgg227
  z77 := Tryz.sizeOf227
  v77 := Tryz.zeroValue227 }
end Go.Proofs.YtdhhcbkldfdbbaaGreat

/-
  span.ends: the ends of spans, as a row of the call's own; slices.SortFunc at such a row, by the first number.
-/
namespace Go.Proofs.YtdhhcbkldfdbbaaGreat
open Go.RowKit Go.Shelf Go.Sort
def e3C (x : E3) : List Value := [.int .i64 x.n, .int .i64 x.mark, .int .i64 x.dir]
theorem e3C_len (x : E3) : (e3C x).length = 3 := rfl
theorem info_three : (Tryz.prog.info? 153).map (fun i => (i.zero, i.size, i.bytes)) = some (some (.agg #[.int .i64 0, .int .i64 0, .int .i64 0]), 3, 24) := by kernel_rfl
theorem endsP_append (l l' : List Sp) (m : Int) : endsP (l ++ l') m = endsP l m ++ endsP l' m := by unfold endsP; rw [List.flatMap_append]
set_option maxHeartbeats 1000000 in
theorem ends_any (A : Option Addr) (n c : Nat) (mark : Int) (l : List Sp) (w : World) (hn : n ≤ 1000000) (hM : Sps w w.heap.size A n l) :
    Calls Tryz.prog 226 #[.slice A n c, .int .i64 mark] w fun e w' => ∃ v, e = .returned v ∧ w'.ownsRow w.heap.size 153 3 v (2 * n) ((endsP l mark).flatMap e3C) ∧ Below w.heap.size w w' := by
  have HL := Lib.hid hM.len
  have HM := Lib.hid hM
  clear hM
  obtain ⟨i0, hi, hz0, hz1, hz2⟩ := info_parts info_three
  go_enter Tryz.func226, Tryz.ntmps226
  go_wp2
  go_loopw [5, 10] (fun out i wr => ∃ j : Nat, j ≤ n ∧ i = .int .i64 j ∧ wr.ownsRow w.heap.size 153 3 out (2 * j) ((endsP (l.take j) mark).flatMap e3C) ∧ Below w.heap.size w wr) (fun _ i _ => n - (intOf i).toNat)
  case atStart => exact ⟨0, Nat.zero_le _, rfl, World.ownsRow_nil _ _ _ _, Below.refl _ _⟩
  case round =>
    obtain ⟨j, hj, rfl, hO, hB⟩ := hrel
    have HO := Lib.hid hO
    have HB := Lib.hid hB
    clear hO
    by_cases hlt : j < n
    · have hjl : j < l.length := by rw [HL.out]; exact hlt
      obtain ⟨b, off, rfl, hb, hc⟩ := (HM.out.to HB.out HB.out.size).at_ (by omega)
      obtain ⟨c0, c1⟩ := hc j hjl
      have HT := Lib.hid (show (endsP (l.take (j + 1)) mark).flatMap e3C = (endsP (l.take j) mark).flatMap e3C ++ [.int .i64 l[j].fr, .int .i64 mark, .int .i64 1, .int .i64 l[j].un, .int .i64 mark, .int .i64 (-1)] from by
        rw [List.take_succ_eq_append_getElem hjl, endsP_append, List.flatMap_append]; rfl)
      clear hc hB
      generalize l[j] = x at *
      have hN := cell_lit_new (wr.alloc (.cells #[.int .i64 x.fr, .int .i64 x.un] 93)) #[.int .i64 x.fr, .int .i64 mark, .int .i64 1, .int .i64 x.un, .int .i64 mark, .int .i64 (-1)] 153
      rw [World.size_alloc] at hN
      have HN := Lib.hid hN
      clear hN
      have HC1 := Lib.hid (show 2 * j + 2 ≤ maxLen from by unfold maxLen; omega)
      have HC2 := Lib.hid (show (2 * j + 2) * 24 ≤ 140737488355328 from by omega)
      have HC3 := Lib.hid (show w.heap.size ≤ ((wr.alloc (.cells #[.int .i64 x.fr, .int .i64 x.un] 93)).alloc (.cells #[.int .i64 x.fr, .int .i64 mark, .int .i64 1, .int .i64 x.un, .int .i64 mark, .int .i64 (-1)] 153)).heap.size from by have := HB.out.size; simp; omega)
      go_wp2_with (at_builtin; refine wpList_append_own _ rfl _ _ 231 rfl w.heap.size 153 i0 (.agg #[.int .i64 0, .int .i64 0, .int .i64 0]) 3 24 Tryz.underlying231 hi hz0 hz1 hz2 rfl (by decide) _ _ _ rfl ((HO.out.alloc _).alloc _) ⟨wr.heap.size + 1, 0, none⟩ 2 2 [.int .i64 x.fr, .int .i64 mark, .int .i64 1, .int .i64 x.un, .int .i64 mark, .int .i64 (-1)] rfl rfl HN.out (by simp [Value.oneCell']) HC1.out HC2.out HC3.out ?_; intro v' w4 hown' hgrow _; have HO4 := Lib.hid hown'; have HB4 := Lib.hid (below_row HB.out HO.out (Nat.le_refl _) hgrow); clear hown' hgrow)
      go_roundw
      case rel => exact ⟨j + 1, by omega, by go_num, (by rw [HT.out]; exact HO4.out), HB4.out⟩
      case measure => simp [intOf]; omega
    · have hje : j = n := by omega
      subst hje
      have HO4 := Lib.hid (show wr.ownsRow w.heap.size 153 3 _ (2 * j) ((endsP l mark).flatMap e3C) from by have := HO.out; rw [List.take_of_length_le (by rw [HL.out]; omega)] at this; exact this)
      clear HO
      go_wp2
      go_ret
      exact ⟨_, rfl, HO4.out, HB.out⟩
def cfE (a b : E3) : Int := cmpI a.n b.n
theorem ltOf_cfE (x y : E3) : ltOf cfE x y = decide (x.n < y.n) := by
  unfold ltOf cfE cmpI
  rw [Bool.eq_iff_iff]
  simp only [decide_eq_true_eq]
  repeat' split
  all_goals omega
theorem swoE : SWO (ltOf cfE) where
  irrefl x := by rw [ltOf_cfE]; simp
  trans x y z h1 h2 := by rw [ltOf_cfE] at *; simp at *; omega
  ntrans x y z h1 h2 := by rw [ltOf_cfE] at *; simp at *; omega
theorem endCmp_any (a b : E3) (w : World) :
    Calls Tryz.prog 228 #[.agg #[.int .i64 a.n, .int .i64 a.mark, .int .i64 a.dir], .agg #[.int .i64 b.n, .int .i64 b.mark, .int .i64 b.dir]] w fun e w' => e = .returned (.int .i64 (cfE a b)) ∧ Gr w w' := by
  go_enter Tryz.func228, Tryz.ntmps228
  go_wp2_with (go_at_call 108; refine (compare_any _ _ _).mono ?_; rintro e w' ⟨rfl, rfl⟩)
  go_ret
  exact ⟨rfl, ((Gr.refl w).alloc _).alloc _⟩
set_option maxHeartbeats 1000000 in
theorem sortEnds_own (base g cap : Nat) (xs : List E3) (w : World) (hown : w.ownsRow base 153 3 (.slice (some ⟨g, 0, none⟩) xs.length cap) xs.length (xs.flatMap e3C)) (hx : xs.length < 1000000000) :
    Calls Tryz.prog 227 #[.slice (some ⟨g, 0, none⟩) xs.length cap, .func (.func 228) #[] #[]] w fun e w' => e = .returned (.tuple #[]) ∧ ∃ ys : List E3, ys.Perm xs ∧ (ys.Pairwise fun x y => x.n ≤ y.n) ∧ Rd w' w'.heap.size (some ⟨g, 0, none⟩) (ys.flatMap e3C) ∧ (∃ cs fr, w'.heap[g]? = some (.cells cs 153 fr)) ∧ Below base w w' := by
  have hb := hown.lt g rfl
  have eg : ∀ args w, (callFunc 228 args).run Tryz.prog w = .ok (.enter 228 args) w := enters_of Tryz.func228 (by kernel_rfl) rfl
  have hH := holdsK_of_own e3C_len (by omega) hown
  have hcon := AnyQ.slices_SortFunc sortE3 3 Tryz.isAgg153 Tryz.sizeOf153 e3C e3C_len (fun x v hv => by simp [e3C] at hv; rcases hv with rfl | rfl | rfl <;> rfl) cfE swoE 228 #[] g 0 cap xs.toArray w eg
    (fun m os dk _ x y => endCmp_any x y _) hH hb.2 (by simp; omega)
  change Calls Tryz.prog 227 _ _ _ at hcon
  rw [show xs.toArray.size = xs.length from by simp] at hcon
  refine hcon.mono ?_
  rintro e w' ⟨rfl, d', n, os, hP, hS, rfl⟩
  have hsz : d'.size = xs.length := by rw [hP.1]; simp
  have hd : d' = d'.toList.toArray := rfl
  have hl : d'.toList.length = xs.length := by simpa using hsz
  refine ⟨rfl, d'.toList, ?_, ?_, ?_, ?_, below_sortWorldK w g n _ os hb.1 hb.2⟩
  · have h1 := hP.2.2
    have h2 : d'.extract 0 xs.length = d' := by rw [← hsz]; simp
    have h3 : xs.toArray.extract 0 xs.length = xs.toArray := by simp
    rw [h2, h3] at h1
    simpa using h1
  · rw [List.pairwise_iff_getElem]
    intro i j hi hj hij
    have h1 := hS i j (Nat.zero_le _) hij (by rw [← hl]; exact hj)
    rw [ltOf_cfE] at h1
    have hi' : i < d'.size := by simpa using hi
    have hj' : j < d'.size := by simpa using hj
    have e1 : d'[i]! = d'.toList[i] := by simp [hi']
    have e2 : d'[j]! = d'.toList[j] := by simp [hj']
    rw [e1, e2] at h1
    have := of_decide_eq_false h1
    omega
  · exact rd_sorted e3C_len (by omega) hb.2 hH hl
  · obtain ⟨_, h2⟩ := hown
    rcases h2 with ⟨h3, _⟩ | ⟨g', cap', cur, h3, _, hg, _⟩
    · cases h3
    · cases h3
      unfold sortWorldK
      rw [heap_grow_old _ _ (by simp [putRowK, Sort.ahead]; omega)]
      simp only [putRowK, putRow, mapBlock, Sort.ahead]
      rw [Array.getElem?_modify, if_pos rfl, hg]
      exact ⟨_, _, rfl⟩
end Go.Proofs.YtdhhcbkldfdbbaaGreat

/-
  A region that draws its order, inside the body of a range over a function: the plain laws of regions serve there too, where no operation defers. Nothing of the program stands here.
-/
namespace Go.Proofs.YtdhhcbkldfdbbaaGreat
open Go.RowKit
def noDefer (ops : Array Oper) : Bool := ops.all fun o => match o.op with | .defer _ => false | _ => true
theorem noDefer_at {ops : Array Oper} (h : noDefer ops = true) {i : Nat} {o : Oper} (ho : ops[i]? = some o) (c : _) : o.op ≠ .defer c := by
  intro e
  unfold noDefer at h
  obtain ⟨hi, rfl⟩ := Array.getElem?_eq_some_iff.1 ho
  have := Array.all_eq_true.1 h i hi
  rw [e] at this
  cases this
theorem rows_round {n l : Nat} {P : Program} {row : String} {args : Array Value} {w : World} {R : Value → World → Prop} (h : Rows P row args w R) : RowsIn (Fence.wide.inRound l) n P row args w R := fun c cs _ => by
  obtain ⟨v, w', hr, hs⟩ := h c cs
  refine ⟨v, w', hr, ?_⟩
  rw [fenced_inRound]
  exact stepsIn_wide.2 hs
theorem upon_round {n l : Nat} {P : Program} {o : Oper} {a : Act} {K K' : Act → World → Prop} {Q : Exit → Act → World → Prop} {r : Result Next} (hK : ∀ a w, K a w → K' a w) (h : o.upon P a K Q r) : o.uponIn (Fence.wide.inRound l) n P a K' Q r := by
  cases r with
  | ok x w' =>
    cases x with
    | value v => exact hK _ _ h
    | skip => exact hK _ _ h
    | defer d => exact hK _ _ h
    | enter f args =>
      refine ⟨fun hd => absurd hd (by simp [Fence.wide]), CallsIn.inRound l (callsIn_wide.2 (Calls.mono h fun e w'' he => ?_))⟩
      cases e <;> first | exact hK _ _ he | exact he
    | row rw args => exact ⟨fun hd => absurd hd (by simp [Fence.wide]), rows_round (Rows.mono h fun _ _ he => hK _ _ he)⟩
    | _ => exact h.elim
  | halt x w' =>
    cases x <;> first | exact h | exact h.elim
theorem wpOp_round {n l : Nat} {P : Program} {ops : Array Oper} {Q : Exit → Act → World → Prop} {i : Nat} {K K' : Act → World → Prop} {a : Act} {w : World} (hd : noDefer ops = true) (hL : ¬ LetsOut Q) (hK : ∀ a w, K a w → K' a w)
    (h : wpOp P ops Q i K a w) : wpOpIn (Fence.wide.inRound l) n P ops Q i K' a w := by
  unfold wpOp at h
  unfold wpOpIn
  cases ho : ops[i]? with
  | none => rw [ho] at h; exact hK _ _ h
  | some o =>
    rw [ho] at h
    simp only at h ⊢
    split
    · rename_i hw
      rw [if_pos hw] at h
      rcases h with h | h
      · refine ⟨fun _ _ => trivial, ?_⟩
        rw [Fence.inRound_round, Oper.semAt_eq _ _ _ (fun c => noDefer_at hd ho c)]
        exact upon_round hK h
      · exact absurd h.2 hL
    · rename_i hw
      rw [if_neg hw] at h
      exact ⟨fun _ _ => trivial, hK _ _ h⟩
theorem wpAny_round {n l : Nat} {P : Program} {md : Region.Mode} {ops : Array Oper} {Q : Exit → Act → World → Prop} (hd : noDefer ops = true) (hL : ¬ LetsOut Q) : ∀ (fuel : Nat) (listed : Array Bool) (a : Act) (w : World),
    wpAny P md ops Q fuel listed a w → wpAnyIn (Fence.wide.inRound l) n P md ops Q fuel listed a w
  | 0, _, _, _, h => h
  | fuel + 1, _, _, _, h => ⟨h.1, fun i hi => wpOp_round hd hL (fun a w => wpAny_round hd hL fuel _ a w) (h.2 i hi)⟩
theorem region_round {n l id : Nat} {P : Program} {ops : Array Oper} {Q : Exit → Act → World → Prop} {a : Act} {w : World} (hm : P.follows .mixedOrders = true) (hd : noDefer ops = true) (hL : ¬ LetsOut Q)
    (h : wpAny P .any ops Q ops.size (Array.replicate ops.size false) a w.drew) : (Code.region id ops true).wpIn (Fence.wide.inRound l) n P Q a w :=
  wpIn_region_any hm (wpAny_round hd hL _ _ _ _ h)
theorem region_round_quiet {n l id : Nat} {P : Program} {C : World → Prop} {Q : Exit → Act → World → Prop} {a : Act} {w : World} {ol : List Oper} (hm : P.follows .mixedOrders = true) (hB : Region.lexB .any ol.toArray = true) (hd : noDefer ol.toArray = true) (hL : ¬ LetsOut Q) (hC : C w.drew)
    (h : wpQuiet P ol.toArray C (fun a' => ∀ w', C w' → Q .normal a' w') ol a) : (Code.region id ol.toArray true).wpIn (Fence.wide.inRound l) n P Q a w := by
  unfold Region.lexB at hB
  rw [Bool.and_eq_true] at hB
  refine region_round hm hd hL (wpAny_of_quiet (C := C) (Q := fun a' => ∀ w', C w' → Q .normal a' w') (fun _ w' hw' h => h w' hw') _ _ _ _ hC ?_)
  have := wpAnyQ_lex (C := C) (md := .any) hB.1 ol 0 (Array.replicate ol.toArray.size false) a (by simp) (by simpa using hB.2) h
  simpa using this
theorem region_round_below {n l id : Nat} {P : Program} {Q : Exit → Act → World → Prop} {a : Act} {w : World} {ol : List Oper} (hm : P.follows .mixedOrders = true) (hB : Region.lexB .any ol.toArray = true) (hd : noDefer ol.toArray = true) (hL : ¬ LetsOut Q)
    (h : wpQuiet P ol.toArray (fun w' => ∃ p : Kp w, w' = p.x) (fun a' => ∀ w', (∃ p : Kp w, w' = p.x) → Q .normal a' w') ol a) : (Code.region id ol.toArray true).wpIn (Fence.wide.inRound l) n P Q a w :=
  region_round_quiet (C := fun w' => ∃ p : Kp w, w' = p.x) hm hB hd hL ⟨⟨w.drew, (Below.refl _ _).drew⟩, rfl⟩ h
theorem calls_round {n l : Nat} {P : Program} {f : FuncId} {args : Array Value} {w : World} {R : Ending → World → Prop} (h : Calls P f args w R) : CallsIn (Fence.wide.inRound l) n P f args w R := CallsIn.inRound l (callsIn_wide.2 h)
end Go.Proofs.YtdhhcbkldfdbbaaGreat

/-
  A region that draws its order, in an activation of a function under the wide fence: its first operations only read, its last ones follow each other and may call (a yield, too). Nothing of the program stands here.
-/
namespace Go.Proofs.YtdhhcbkldfdbbaaGreat
open Go.RowKit
section
variable {n : Nat} {P : Program} {ops : Array Oper} {md : Region.Mode} {w : World} {Q' : Exit → Act → World → Prop}
theorem wpOpIn_still {i : Nat} {a : Act} {K : Act → Prop} {K' : Act → World → Prop} (hK : ∀ a, K a → K' a w) (h : stOp P ops w i K a) : wpOpIn Fence.wide n P ops Q' i K' a w := by
  unfold stOp at h
  unfold wpOpIn
  cases ho : ops[i]? with
  | none => rw [ho] at h; exact hK _ h
  | some o =>
    rw [ho] at h
    simp only at h ⊢
    split
    · rename_i hw
      rw [if_pos hw] at h
      unfold Oper.still at h
      refine ⟨fun _ _ => trivial, ?_⟩
      show Oper.uponIn _ _ _ _ _ _ _ ((execOp a.eval o).run P w)
      generalize (execOp a.eval o).run P w = r at h ⊢
      cases r with
      | ok x w' =>
        cases x with
        | value v => obtain ⟨rfl, h⟩ := h; exact hK _ h
        | skip => obtain ⟨rfl, h⟩ := h; exact hK _ h
        | enter f args =>
          obtain ⟨rfl, v, hc, h⟩ := h
          exact ⟨fun hd => absurd hd (by simp [Fence.wide]), callsIn_wide.2 (Calls.mono hc fun e w'' he => by obtain ⟨rfl, rfl⟩ := he; exact hK _ h)⟩
        | _ => exact h.elim
      | halt x w' => exact h.elim
    · rename_i hw
      rw [if_neg hw] at h
      exact ⟨fun _ _ => trivial, hK _ h⟩
theorem wpAnyIn_head {m g : Nat} {L : Array Bool → Act → Prop} (hL : ∀ listed a, L listed a → wpAnyIn Fence.wide n P md ops Q' g listed a w) :
    ∀ (f : Nat) (listed : Array Bool) (a : Act), wpAnyL P md ops w m L f listed a → wpAnyIn Fence.wide n P md ops Q' (f + g) listed a w
  | 0, listed, a, h => by rw [Nat.zero_add]; exact hL _ _ h
  | f + 1, listed, a, h => by
    rw [show f + 1 + g = (f + g) + 1 by omega]
    exact ⟨fun h0 => absurd h0 h.1, fun i hi => wpOpIn_still (fun a' h' => wpAnyIn_head hL f _ a' h') (h.2 i hi).2⟩
theorem wpAnyIn_seq : ∀ (l : List Oper) (k : Nat) (listed : Array Bool) (a : Act) (w : World), (∀ j, l[j]? = ops[k + j]?) →
    Region.seqB md ops l.length k listed = true → wpListIn Fence.wide n P ops Q' l a w → wpAnyIn Fence.wide n P md ops Q' l.length listed a w
  | [], _, _, _, _, _, hB, h => ⟨by simpa [Region.seqB] using hB, h⟩
  | o :: l, k, listed, a, w, hl, hB, h => by
    have h0 : ops[k]? = some o := by simpa using (hl 0).symm
    simp only [List.length_cons, Region.seqB, Bool.and_eq_true, decide_eq_true_eq] at hB
    refine ⟨fun h1 => (by rw [hB.1] at h1; cases h1), fun i hi => ?_⟩
    rw [hB.1] at hi
    have hik : i = k := by simpa using hi
    subst hik
    have hw : wpOpIn Fence.wide n P ops Q' i (wpListIn Fence.wide n P ops Q' l) a w := by unfold wpOpIn; simp only [h0]; exact h
    exact wpOpIn_mono (fun a' w' h' => wpAnyIn_seq l (i + 1) _ a' w' (fun j => by have := hl (j + 1); simpa [Nat.add_assoc, Nat.add_comm 1 j] using this) hB.2 h') hw
end
theorem region_wide_tail {n id : Nat} {P : Program} {Q : Exit → Act → World → Prop} {a : Act} {w : World} {ol : List Oper} (k : Nat) (hm : P.follows .mixedOrders = true) (hB : Region.lexTailB .any ol.toArray k = true)
    (h : wpStill P ol.toArray w.drew (fun a' => wpListIn Fence.wide n P ol.toArray Q (ol.drop k) a' w.drew) (ol.take k) a) : (Code.region id ol.toArray true).wpIn Fence.wide n P Q a w := by
  unfold Region.lexTailB at hB
  simp only [Bool.and_eq_true, decide_eq_true_eq] at hB
  obtain ⟨⟨⟨⟨h1, h2⟩, h3⟩, h4⟩, h5⟩ := hB
  have hk : k < ol.length := by simpa using h2
  have ht : (ol.take k).length = k := by rw [List.length_take]; omega
  have hdr : (ol.drop k).length = ol.toArray.size - k := by simp
  have hinv : HeadInv .any ol.toArray k (Array.replicate ol.toArray.size false) :=
    ⟨by simp, fun j o _ hl => absurd hl (by rw [getD_replicate_false]; simp), fun t _ htt => getD_in (by simpa using htt) (getD_replicate_false _ _)⟩
  have hhead := wpAnyL_lex (md := .any) (g := ol.toArray.size - k) h1 h3 h4 h2 (ol.take k) 0 _ a
    (fun j hj => by rw [ht] at hj; simp [hj]) (by rw [ht]; simp) hinv (by rw [ht]; exact h5) h
  have hall := wpAnyIn_head (n := n) (Q' := Q) (g := ol.toArray.size - k) (fun listed a' hL => by
    have := wpAnyIn_seq (n := n) (md := .any) (Q' := Q) (ol.drop k) k listed a' w.drew (fun j => by simp [List.getElem?_drop]) (by rw [hdr]; exact hL.1) hL.2
    rw [hdr] at this
    exact this) _ _ _ hhead
  rw [ht, show k + (ol.toArray.size - k) = ol.toArray.size from by simp; omega] at hall
  exact wpIn_region_any hm hall
end Go.Proofs.YtdhhcbkldfdbbaaGreat

/-
  span.pieces: the iterator over the pieces into which the ends of two sets divide all numbers.
-/
namespace Go.Proofs.YtdhhcbkldfdbbaaGreat
open Go.RowKit Go.Shelf Go.Sort
attribute [local go_sem] Oper.semAt_some
def ClP : Obj → Bool
  | .cells _ t _ => t == 214
  | _ => false
structure KpP (W W' : World) : Prop where
  size : W.heap.size ≤ W'.heap.size
  ends : ∀ (b : Nat) (cs : Array Value) (fr : Nat × Nat), W.heap[b]? = some (Obj.cells cs 153 fr) → W'.heap[b]? = some (Obj.cells cs 153 fr)
  two : ∀ (b : Nat) (cs : Array Value) (fr : Nat × Nat), W.heap[b]? = some (Obj.cells cs 214 fr) → W'.heap[b]? = some (Obj.cells cs 214 fr)
theorem KpP.trans {A B C : World} (h : KpP A B) (k : KpP B C) : KpP A C := ⟨Nat.le_trans h.size k.size, fun b cs fr e => k.ends b cs fr (h.ends b cs fr e), fun b cs fr e => k.two b cs fr (h.two b cs fr e)⟩
theorem KpP.of_below {A B : World} (h : Below A.heap.size A B) : KpP A B := ⟨h.size, fun b _ _ e => (h.block b (Array.getElem?_eq_some_iff.1 e).1).trans e, fun b _ _ e => (h.block b (Array.getElem?_eq_some_iff.1 e).1).trans e⟩
theorem KpP.put (W : World) (l : Nat) (o o' : Obj) (h : W.heap[l]? = some o) (hc : o.isCells = false) : KpP W (W.putObj l o') :=
  ⟨by simp [World.putObj], fun b cs fr e => (World.putObj_heap_other (fun e' => by subst e'; rw [h] at e; cases e; cases hc)).trans e, fun b cs fr e => (World.putObj_heap_other (fun e' => by subst e'; rw [h] at e; cases e; cases hc)).trans e⟩
abbrev Piece := Sp × Bool × Bool
def pieceArgs (x : Piece) : Array Value := #[.agg #[.int .i64 x.1.fr, .int .i64 x.1.un], .agg #[.bool x.2.1, .bool x.2.2]]
theorem pieces_any (A1 A2 : Option Addr) (n1 n2 k1 k2 : Nat) (w : World) :
    Calls Tryz.prog 222 #[.slice A1 n1 k1, .slice A2 n2 k2] w fun e w' => e = .returned (.func (.func 225) #[] #[.pointer (some ⟨w.heap.size, 0, none⟩), .pointer (some ⟨w.heap.size + 1, 0, none⟩)]) ∧
      w' = (w.alloc (.cells #[.slice A1 n1 k1] 43)).alloc (.cells #[.slice A2 n2 k2] 43) := by
  go_enter Tryz.func222, Tryz.ntmps222
  go_wp2
  go_ret
  exact ⟨rfl, rfl⟩
theorem opIn_append_own {F : Fence} {n : Nat} {P : Program} (w : World) {o : Oper} {a : Act} {Q : Exit → Act → World → Prop} {K : Act → World → Prop} {y : Nat → Option Bool} {X : Prop}
    (hg : o.guard = none) (s x : Operand) (t : TypeId) (hop : o.op = Op.call { callee := Callee.builtin Builtin.append, args := #[s, x], argTypes := #[t, t] })
    (base : Nat) (e : TypeId) (i : TypeInfo) (z : Value) (size bytes : Nat) (h1 : P.underlying t = some (.slice e)) (h2 : P.info? e = some i) (h3 : i.zero = some z) (h4 : i.size = size) (h5 : i.bytes = bytes) (h6 : z.cells.size = size) (h7 : 0 < size)
    (v : Value) (k : Nat) (xs : List Value) (hs : a.eval s = v) (hown : w.ownsRow base e size v k xs) (ad : Addr) (m c : Nat) (news : List Value) (hx : a.eval x = .slice (some ad) m c) (hn : news.length = m * size)
    (hc : ∀ j u, news[j]? = some u → w.cell? (ad.add j) = some u) (h1c : ∀ u ∈ news, u.oneCell' = true) (b1 : k + m ≤ maxLen) (b2 : (k + m) * bytes ≤ 140737488355328) (b3 : base ≤ w.heap.size)
    (hK : ∀ v' w', w'.ownsRow base e size v' (k + m) (xs ++ news) → w.grownBy w' v.ownBlock → K (a.put o.dst v') w') :
    if Region.wanted o y = true then Oper.wpIn F n P o a w K Q else X := by
  rw [if_pos (by simp [Region.wanted, hg])]
  obtain ⟨v', w', hrun, r1, r2, r3⟩ := run_append_own (P := P) w base t o.type e i z size bytes h1 h2 h3 h4 h5 h6 h7 v k xs hown ad m c news hn hc h1c b1 b2 b3
  unfold Oper.wpIn
  refine ⟨?_, ?_⟩
  · simp [Oper.about, hop, resolve, Target.leads, Sem.run_pure]
  · rw [Oper.semAt_plain F _ _ (by rw [hop]; intro c hc'; cases hc')]
    simp [execOp, hop, resolve, invoke, builtin, hs, hx, hrun, Result.andThen]
    exact hK v' w' r1 r2
theorem grown_of_below {a w : World} (h : Below a.heap.size a w) (row : Option Nat) : a.grownBy w row := ⟨h.os, h.tape, h.output, h.size, fun i hi _ => h.block i hi⟩
theorem grownBy_drew (w : World) : w.grownBy w.drew none := ⟨rfl, rfl, rfl, Nat.le_refl _, fun _ _ _ => rfl⟩
def EndsRow (a b : List Sp) (W : World) (v : Value) (w2 : World) : Prop := ∃ g cap, v = .slice (some ⟨g, 0, none⟩) (2 * (a.length + b.length)) cap ∧ w2.ownsRow W.heap.size 153 3 v (2 * (a.length + b.length)) ((endsP a 0 ++ endsP b 1).flatMap e3C) ∧ Below W.heap.size W w2
theorem own_keeps {w w' : World} {base size n : Nat} {e : TypeId} {v : Value} {xs : List Value} (h : w.ownsRow base e size v n xs) (hb : Below w.heap.size w w') : w'.ownsRow base e size v n xs :=
  h.kept (row := none) ⟨hb.os, hb.tape, hb.output, hb.size, fun k hk _ => hb.block k hk⟩ (by cases v.ownBlock <;> simp)
theorem e3_one (l : List E3) : ∀ u ∈ l.flatMap e3C, u.oneCell' = true := fun u hu => by
  obtain ⟨x, _, hx⟩ := List.mem_flatMap.1 hu
  simp [e3C] at hx
  rcases hx with rfl | rfl | rfl <;> rfl
theorem ends_tail {W w3 w4 w5 : World} {a b : List Sp} {v1 v' : Value} (hN : 0 < b.length) (h3 : Below W.heap.size W w3) (h4 : Below w3.heap.size w3 w4) (hO : w3.ownsRow W.heap.size 153 3 v1 (2 * a.length) ((endsP a 0).flatMap e3C))
    (h5 : w5.ownsRow W.heap.size 153 3 v' (2 * a.length + 2 * b.length) ((endsP a 0).flatMap e3C ++ (endsP b 1).flatMap e3C)) (hg : w4.grownBy w5 v1.ownBlock) : EndsRow a b W v' w5 := by
  rw [← List.flatMap_append, ← Nat.mul_add] at h5
  obtain ⟨k, hk⟩ : ∃ k, 2 * (a.length + b.length) = k + 1 := ⟨2 * (a.length + b.length) - 1, by omega⟩
  obtain ⟨g, cap, e⟩ := ownsRow_succ (by rw [hk] at h5; exact h5)
  refine ⟨g, cap, by rw [hk]; exact e, h5, ?_⟩
  exact ((h3.trans (h4.mono h3.size))).grown hg (Nat.le_trans h3.size h4.size) (fun k e => (hO.lt k e).1)
theorem two_set0 {w : World} {I : Nat} {a b d : Bool} {t : TypeId} (h : w.heap[I]? = some (.cells #[.bool a, .bool b] t (0, 0))) : (w.setCell ⟨I, 0, none⟩ (.bool d)).heap[I]? = some (.cells #[.bool d, .bool b] t (0, 0)) := by
  simp [World.setCell, Array.getElem?_modify, h]
theorem two_set1 {w : World} {I : Nat} {a b d : Bool} {t : TypeId} (h : w.heap[I]? = some (.cells #[.bool a, .bool b] t (0, 0))) : (w.setCell ⟨I, 1, none⟩ (.bool d)).heap[I]? = some (.cells #[.bool a, .bool d] t (0, 0)) := by
  simp [World.setCell, Array.getElem?_modify, h]
theorem ends_mark {a b : List Sp} {L : List E3} (h : EndsIn a b L) {x : E3} (hx : x ∈ L) : x.mark = 0 ∨ x.mark = 1 := by
  rw [h.perm.mem_iff, List.mem_append] at hx
  rcases hx with hx | hx
  · obtain ⟨s, _, rfl | rfl⟩ := mem_endsP.1 hx <;> simp
  · obtain ⟨s, _, rfl | rfl⟩ := mem_endsP.1 hx <;> simp
theorem runs_ends (a b : List Sp) : (endsP a 0 ++ endsP b 1).length = 2 * (a.length + b.length) := by rw [List.length_append, endsP_length, endsP_length]; omega
set_option maxRecDepth 100000 in
set_option maxHeartbeats 2000000 in
theorem pieces1_seq (n B1 B2 N1 N2 k1 k2 : Nat) (A1 A2 : Option Addr) (a b : List Sp) (w : World) (hn : 1 ≤ n) (hN1 : N1 ≤ 1000) (hN2 : N2 ≤ 1000) (h2 : 0 < N2) (hB1 : B1 < w.heap.size) (hB2 : B2 < w.heap.size)
    (hc1 : w.cell? ⟨B1, 0, none⟩ = some (.slice A1 N1 k1)) (hc2 : w.cell? ⟨B2, 0, none⟩ = some (.slice A2 N2 k2)) (hM1 : Sps w w.heap.size A1 N1 a) (hM2 : Sps w w.heap.size A2 N2 b) :
    SeqC ClP n Tryz.prog 225 #[.pointer (some ⟨B1, 0, none⟩), .pointer (some ⟨B2, 0, none⟩)] pieceArgs KpP (fun pre x => ∃ L, EndsIn a b L ∧ pre ++ [x] <+: piecesP L) (fun xs => ∃ L, EndsIn a b L ∧ xs = piecesP L) w := by
  intro l J W hW hJ hY h0
  have d1 := (hW.cell (p := ⟨B1, 0, none⟩) hB1).trans hc1
  have d2 := (hW.cell (p := ⟨B2, 0, none⟩) hB2).trans hc2
  have hB1W := Nat.lt_of_lt_of_le hB1 hW.size
  have hB2W := Nat.lt_of_lt_of_le hB2 hW.size
  have HM1 := Lib.hid (hM1.below hW)
  have HM2 := Lib.hid (hM2.below hW)
  have HL1 := Lib.hid hM1.len
  have HL2 := Lib.hid hM2.len
  have HJ := Lib.hid hJ
  have HY := Lib.hid hY
  clear hM1 hM2 hc1 hc2 hJ hY hW
  refine callsIn_of_wp Tryz.func225 rfl trivial ?_ rfl
  simp only [Tryz.ntmps225, List.size_toArray, List.length_cons, List.length_nil, Nat.reduceAdd, Nat.reduceSub, Array.replicate_succ, Array.replicate_zero, List.push_toArray, List.append_toArray, List.nil_append, List.cons_append]
  gi_wp2_with fail
  gi_cut [4] from 9 (fun v w2 => EndsRow a b W v w2)
  case first =>
    obtain ⟨i0, hi, hz0, hz1, hz2⟩ := info_parts info_three
    have HE1 := Lib.hid (ends_any A1 N1 k1 0 a W.drew (by omega) (HM1.out.to (Below.refl _ _).drew (Nat.le_refl _)))
    have HE2 := Lib.hid (fun (w3 : World) (h : Below W.heap.size W w3) => ends_any A2 N2 k2 1 b w3 (by omega) (HM2.out.to h h.size))
    have HA := Lib.hid (fun (v1 : Value) (w3 : World) (hO : w3.ownsRow W.heap.size 153 3 v1 (2 * N1) ((endsP a 0).flatMap e3C)) (h3 : Below W.heap.size W w3) (v2 : Value) (w4 : World) (hO2 : w4.ownsRow w3.heap.size 153 3 v2 (2 * N2) ((endsP b 1).flatMap e3C)) (h4 : Below w3.heap.size w3 w4) =>
      show ∃ b' off c', v2 = .slice (some ⟨b', off, none⟩) (2 * N2) c' ∧ (∀ j u, ((endsP b 1).flatMap e3C)[j]? = some u → w4.cell? ((⟨b', off, none⟩ : Addr).add j) = some u) ∧ w4.ownsRow W.heap.size 153 3 v1 (2 * N1) ((endsP a 0).flatMap e3C) ∧ W.heap.size ≤ w4.heap.size ∧
        ∀ v' w5, w5.ownsRow W.heap.size 153 3 v' (2 * N1 + 2 * N2) ((endsP a 0).flatMap e3C ++ (endsP b 1).flatMap e3C) → w4.grownBy w5 v1.ownBlock → EndsRow a b W v' w5 from by
      obtain ⟨A3, c3, e3, _, _, hr⟩ := rd_of_own hO2 (by omega)
      obtain ⟨b', off, e, _, hc⟩ := hr (by rw [flat_length e3C_len, endsP_length, HL2.out]; omega)
      subst e
      refine ⟨b', off, c3, e3, fun j u hu => (by rw [show ((⟨b', off, none⟩ : Addr).add j) = ⟨b', off + j, none⟩ from by unfold Addr.add; split <;> simp_all]; exact hc j u hu), own_keeps hO h4, Nat.le_trans h3.size h4.size, fun v' w5 h5 hg => ?_⟩
      rw [← HL1.out] at hO h5
      rw [← HL2.out] at h5
      exact ends_tail (by rw [HL2.out]; exact h2) h3 h4 hO h5 hg)
    have HLn := Lib.hid (show ((endsP b 1).flatMap e3C).length = (2 * N2) * 3 from by rw [flat_length e3C_len, endsP_length, HL2.out])
    have HN1 := Lib.hid (show 2 * N1 + 2 * N2 ≤ maxLen from by unfold maxLen; omega)
    have HN2 := Lib.hid (show (2 * N1 + 2 * N2) * 24 ≤ 140737488355328 from by omega)
    clear hN1 hN2
    refine wpIn_region_any (by kernel_rfl) ?_
    change wpAnyIn _ _ _ _ _ _ _ _ _ (World.drew _)
    refine wpAnyIn_ready (rs := [0, 2]) (by kernel_rfl) (by simp) ?_
    refine AllReadyIn.cons rfl (fun K hK => ?_) (AllReadyIn.cons rfl (fun K hK => ?_) AllReadyIn.nil)
    · go_simp
      refine hK _ _ ?_
      clear hK K
      refine wpAnyIn_ready (rs := [1, 2]) (by kernel_rfl) (by simp) ?_
      refine AllReadyIn.cons rfl (fun K hK => ?_) (AllReadyIn.cons rfl (fun K hK => ?_) AllReadyIn.nil)
      · go_simp
        gi_wp2_with fail
        refine ⟨trivial, (callsIn_wide.2 HE1.out).mono ?_⟩
        rintro e w3 ⟨v1, rfl, hO1, hb3⟩
        have HB3 := Lib.hid (show Below W.heap.size W w3 from (Below.refl _ _).drew.trans hb3)
        have HO1 := Lib.hid hO1
        have e2 := (HB3.out.cell (p := ⟨B2, 0, none⟩) hB2W).trans d2
        refine hK _ _ ?_
        clear hK K hO1 hb3
        refine wpAnyIn_ready (rs := [2]) (by kernel_rfl) (by simp) ?_
        refine AllReadyIn.cons rfl (fun K hK => ?_) AllReadyIn.nil
        go_simp
        refine hK _ _ ?_
        clear hK K
        refine wpAnyIn_ready (rs := [3]) (by kernel_rfl) (by simp) ?_
        refine AllReadyIn.cons rfl (fun K hK => ?_) AllReadyIn.nil
        go_simp
        gi_wp2_with fail
        refine ⟨trivial, (callsIn_wide.2 (HE2.out w3 HB3.out)).mono ?_⟩
        rintro e w4 ⟨v2, rfl, hO2, hb4⟩
        obtain ⟨b', off, c', rfl, hc', hO1', hsz', hfin⟩ := HA.out v1 w3 HO1.out HB3.out v2 w4 hO2 hb4
        have HC' := Lib.hid hc'
        have HO1' := Lib.hid hO1'
        have HFin := Lib.hid hfin
        refine hK _ _ ?_
        clear hK K hO2 hb4 hc' hO1' hfin
        refine wpAnyIn_ready (rs := [4]) (by kernel_rfl) (by simp) ?_
        refine AllReadyIn.cons rfl (fun K hK => ?_) AllReadyIn.nil
        refine opIn_append_own w4 rfl _ _ 231 rfl W.heap.size 153 i0 (.agg #[.int .i64 0, .int .i64 0, .int .i64 0]) 3 24 Tryz.underlying231 hi hz0 hz1 hz2 rfl (by decide) _ _ _ rfl HO1'.out ⟨b', off, none⟩ (2 * N2) c' _ rfl HLn.out HC'.out (e3_one _) HN1.out HN2.out hsz' (fun v' w5 h5 hg => ?_)
        refine hK _ _ ?_
        clear hK K
        have HF5 := Lib.hid (HFin.out v' w5 h5 hg)
        clear h5 hg
        refine wpAnyIn_ready (rs := [5]) (by kernel_rfl) (by simp) ?_
        refine AllReadyIn.cons rfl (fun K hK => ?_) AllReadyIn.nil
        go_simp
        refine hK _ _ ?_
        clear hK K
        refine wpAnyIn_done (by kernel_rfl) ?_ _
        gi_wp2_with fail
        gi_meet
        exact HF5.out
      · go_simp
        refine hK _ _ ?_
        clear hK K
        refine wpAnyIn_ready (rs := [1]) (by kernel_rfl) (by simp) ?_
        refine AllReadyIn.cons rfl (fun K hK => ?_) AllReadyIn.nil
        go_simp
        gi_wp2_with fail
        refine ⟨trivial, (callsIn_wide.2 HE1.out).mono ?_⟩
        rintro e w3 ⟨v1, rfl, hO1, hb3⟩
        have HB3 := Lib.hid (show Below W.heap.size W w3 from (Below.refl _ _).drew.trans hb3)
        have HO1 := Lib.hid hO1
        have e2 := (HB3.out.cell (p := ⟨B2, 0, none⟩) hB2W).trans d2
        refine hK _ _ ?_
        clear hK K hO1 hb3
        refine wpAnyIn_ready (rs := [3]) (by kernel_rfl) (by simp) ?_
        refine AllReadyIn.cons rfl (fun K hK => ?_) AllReadyIn.nil
        go_simp
        gi_wp2_with fail
        refine ⟨trivial, (callsIn_wide.2 (HE2.out w3 HB3.out)).mono ?_⟩
        rintro e w4 ⟨v2, rfl, hO2, hb4⟩
        obtain ⟨b', off, c', rfl, hc', hO1', hsz', hfin⟩ := HA.out v1 w3 HO1.out HB3.out v2 w4 hO2 hb4
        have HC' := Lib.hid hc'
        have HO1' := Lib.hid hO1'
        have HFin := Lib.hid hfin
        refine hK _ _ ?_
        clear hK K hO2 hb4 hc' hO1' hfin
        refine wpAnyIn_ready (rs := [4]) (by kernel_rfl) (by simp) ?_
        refine AllReadyIn.cons rfl (fun K hK => ?_) AllReadyIn.nil
        refine opIn_append_own w4 rfl _ _ 231 rfl W.heap.size 153 i0 (.agg #[.int .i64 0, .int .i64 0, .int .i64 0]) 3 24 Tryz.underlying231 hi hz0 hz1 hz2 rfl (by decide) _ _ _ rfl HO1'.out ⟨b', off, none⟩ (2 * N2) c' _ rfl HLn.out HC'.out (e3_one _) HN1.out HN2.out hsz' (fun v' w5 h5 hg => ?_)
        refine hK _ _ ?_
        clear hK K
        have HF5 := Lib.hid (HFin.out v' w5 h5 hg)
        clear h5 hg
        refine wpAnyIn_ready (rs := [5]) (by kernel_rfl) (by simp) ?_
        refine AllReadyIn.cons rfl (fun K hK => ?_) AllReadyIn.nil
        go_simp
        refine hK _ _ ?_
        clear hK K
        refine wpAnyIn_done (by kernel_rfl) ?_ _
        gi_wp2_with fail
        gi_meet
        exact HF5.out
    · go_simp
      refine hK _ _ ?_
      clear hK K
      refine wpAnyIn_ready (rs := [0]) (by kernel_rfl) (by simp) ?_
      refine AllReadyIn.cons rfl (fun K hK => ?_) AllReadyIn.nil
      go_simp
      refine hK _ _ ?_
      clear hK K
      refine wpAnyIn_ready (rs := [1]) (by kernel_rfl) (by simp) ?_
      refine AllReadyIn.cons rfl (fun K hK => ?_) AllReadyIn.nil
      go_simp
      gi_wp2_with fail
      refine ⟨trivial, (callsIn_wide.2 HE1.out).mono ?_⟩
      rintro e w3 ⟨v1, rfl, hO1, hb3⟩
      have HB3 := Lib.hid (show Below W.heap.size W w3 from (Below.refl _ _).drew.trans hb3)
      have HO1 := Lib.hid hO1
      have e2 := (HB3.out.cell (p := ⟨B2, 0, none⟩) hB2W).trans d2
      refine hK _ _ ?_
      clear hK K hO1 hb3
      refine wpAnyIn_ready (rs := [3]) (by kernel_rfl) (by simp) ?_
      refine AllReadyIn.cons rfl (fun K hK => ?_) AllReadyIn.nil
      go_simp
      gi_wp2_with fail
      refine ⟨trivial, (callsIn_wide.2 (HE2.out w3 HB3.out)).mono ?_⟩
      rintro e w4 ⟨v2, rfl, hO2, hb4⟩
      obtain ⟨b', off, c', rfl, hc', hO1', hsz', hfin⟩ := HA.out v1 w3 HO1.out HB3.out v2 w4 hO2 hb4
      have HC' := Lib.hid hc'
      have HO1' := Lib.hid hO1'
      have HFin := Lib.hid hfin
      refine hK _ _ ?_
      clear hK K hO2 hb4 hc' hO1' hfin
      refine wpAnyIn_ready (rs := [4]) (by kernel_rfl) (by simp) ?_
      refine AllReadyIn.cons rfl (fun K hK => ?_) AllReadyIn.nil
      refine opIn_append_own w4 rfl _ _ 231 rfl W.heap.size 153 i0 (.agg #[.int .i64 0, .int .i64 0, .int .i64 0]) 3 24 Tryz.underlying231 hi hz0 hz1 hz2 rfl (by decide) _ _ _ rfl HO1'.out ⟨b', off, none⟩ (2 * N2) c' _ rfl HLn.out HC'.out (e3_one _) HN1.out HN2.out hsz' (fun v' w5 h5 hg => ?_)
      refine hK _ _ ?_
      clear hK K
      have HF5 := Lib.hid (HFin.out v' w5 h5 hg)
      clear h5 hg
      refine wpAnyIn_ready (rs := [5]) (by kernel_rfl) (by simp) ?_
      refine AllReadyIn.cons rfl (fun K hK => ?_) AllReadyIn.nil
      go_simp
      refine hK _ _ ?_
      clear hK K
      refine wpAnyIn_done (by kernel_rfl) ?_ _
      gi_wp2_with fail
      gi_meet
      exact HF5.out
  obtain ⟨g, cap, rfl, hrow, hb2⟩ := hcut
  have HS := Lib.hid (by have := sortEnds_own W.heap.size g cap (endsP a 0 ++ endsP b 1) wc (by rw [runs_ends]; exact hrow) (by rw [runs_ends, HL1.out, HL2.out]; omega); rewrite [runs_ends] at this; exact this)
  have HB2 := Lib.hid hb2
  have HNN := Lib.hid (show 2 * (a.length + b.length) ≤ 4000 from by rw [HL1.out, HL2.out]; omega)
  have hgW : W.heap.size ≤ g := (hrow.lt g rfl).1
  have hNN := HNN.out
  clear hrow hb2
  generalize hNe : 2 * (a.length + b.length) = N at *
  have HNe := Lib.hid hNe
  clear hNe d1 d2
  gi_wp2_with fail
  refine ⟨trivial, (callsIn_wide.2 HS.out).mono ?_⟩
  rintro e w3 ⟨rfl, L, hp, hs, hrd, ⟨cs, fr, hg3⟩, hb3⟩
  have HEnd := Lib.hid (show EndsIn a b L from ⟨hp, hs⟩)
  have HLen := Lib.hid (show L.length = N from by rw [← HNe.out, ← runs_ends]; exact hp.length_eq)
  have HB3 := Lib.hid (HB2.out.trans hb3)
  have HRd := Lib.hid hrd
  have HG3 := Lib.hid hg3
  have hg3l : g < w3.heap.size := (Array.getElem?_eq_some_iff.1 hg3).1
  clear hp hs hrd hg3 hb3
  gi_wp2_with fail
  gi_loopw [6, 18] (fun at_ i wr => ∃ (k : Nat) (pre : List Piece) (s : PSt), k ≤ N ∧ i = .int .i64 k ∧ at_ = .int .i64 s.at_ ∧ J pre wr ∧ piecesP L = pre ++ piecesGo s (L.drop k) ∧ wr.heap[w3.heap.size]? = some (.cells #[.bool s.a, .bool s.b] 214 (0, 0)) ∧ wr.heap[g]? = w3.heap[g]?)
    (fun _ i _ => N - (intOf i).toNat)
  case atStart =>
    refine ⟨0, [], ⟨0, false, false⟩, Nat.zero_le _, rfl, rfl, ?_, rfl, World.alloc_heap_new _ _, Below.heap_alloc _ _ _ hg3l⟩
    exact HJ.out _ _ _ none (HJ.out _ _ _ none h0 (grown_of_below HB3.out none) (fun r e => by cases e)) (World.grownBy_alloc _ _ none) (fun r e => by cases e)
  case round =>
    obtain ⟨k, pre, ⟨sat, sa, sb⟩, hk, rfl, rfl, hJp, hgo, hin, hgr⟩ := hrel
    dsimp only at *
    have HG := Lib.hid hgo
    have HP := Lib.hid hJp
    have HIn := Lib.hid hin
    have HGr := Lib.hid hgr
    have hIlt : w3.heap.size < wr.heap.size := (Array.getElem?_eq_some_iff.1 hin).1
    clear hgo hJp hin hgr
    by_cases hlt : k < N
    · have hkl : k < L.length := by rw [HLen.out]; exact hlt
      have HD := Lib.hid (List.drop_eq_getElem_cons hkl)
      have hmk := ends_mark HEnd.out (List.getElem_mem hkl)
      obtain ⟨b0, o0, e0, _, hc⟩ := rd_at e3C_len HRd.out (by omega) (by omega)
      cases e0
      have hcell : ∀ i, wr.cell? ⟨g, i, none⟩ = w3.cell? ⟨g, i, none⟩ := fun i => World.cell?_of_block (w := w3) HGr.out
      have c0 : wr.cell? ⟨g, k * 3, none⟩ = some (.int .i64 L[k].n) := (hcell _).trans (by have := hc k hkl 0 _ rfl; rwa [Nat.zero_add] at this)
      have c1 : wr.cell? ⟨g, k * 3 + 1, none⟩ = some (.int .i64 L[k].mark) := (hcell _).trans (by have := hc k hkl 1 _ rfl; rwa [Nat.zero_add] at this)
      have c2 : wr.cell? ⟨g, k * 3 + 2, none⟩ = some (.int .i64 L[k].dir) := (hcell _).trans (by have := hc k hkl 2 _ rfl; rwa [Nat.zero_add] at this)
      clear hc hcell
      generalize L[k] = x at *
      obtain ⟨xn, xm, xd⟩ := x
      dsimp only at *
      have hInv : ∀ (X : World) (pre' : List Piece), J pre' X → X.heap[w3.heap.size]? = some (.cells #[.bool sa, .bool sb] 214 (0, 0)) → X.heap[g]? = w3.heap[g]? → piecesP L = pre' ++ piecesGo (stepP ⟨sat, sa, sb⟩ ⟨xn, xm, xd⟩) (L.drop (k + 1)) →
          ∃ (k' : Nat) (pre : List Piece) (s : PSt), k' ≤ N ∧ Value.int .i64 ((k : Int) + 1) = .int .i64 k' ∧ Value.int .i64 xn = .int .i64 s.at_ ∧ J pre (X.setCell ⟨w3.heap.size, xm.toNat, none⟩ (.bool (decide (0 < xd)))) ∧ piecesP L = pre ++ piecesGo s (L.drop k') ∧ (X.setCell ⟨w3.heap.size, xm.toNat, none⟩ (.bool (decide (0 < xd)))).heap[w3.heap.size]? = some (.cells #[.bool s.a, .bool s.b] 214 (0, 0)) ∧ (X.setCell ⟨w3.heap.size, xm.toNat, none⟩ (.bool (decide (0 < xd)))).heap[g]? = w3.heap[g]? := fun X pre' h1 h2 h3 h4 => by
        refine ⟨k + 1, pre', _, by omega, by go_num, rfl, ?_, h4, ?_, (Below.heap_setCell _ _ _ _ (by show g ≠ w3.heap.size; omega)).trans h3⟩
        · exact HJ.out _ _ _ (some w3.heap.size) h1 ⟨rfl, rfl, rfl, by simp [World.setCell], fun i _ hne => Below.heap_setCell _ _ _ _ (fun e => hne (congrArg some e))⟩ (fun r e => by cases e; exact ⟨HB3.out.size, _, h2, by simp [ClP]⟩)
        · rcases hmk with rfl | rfl
          · exact two_set0 h2
          · exact two_set1 h2
      have HInv := Lib.hid hInv
      clear hInv
      by_cases hgt : sat < xn
      rotate_left
      · have hgb : decide (sat < xn) = false := decide_eq_false hgt
        have HGn := Lib.hid (show piecesP L = pre ++ piecesGo (stepP ⟨sat, sa, sb⟩ ⟨xn, xm, xd⟩) (L.drop (k + 1)) from by rw [HG.out, HD.out, piecesGo, if_neg hgt]; rfl)
        have HF := Lib.hid (HInv.out (wr.alloc (.cells #[.int .i64 xn, .int .i64 xm, .int .i64 xd] 153)).drew pre (HJ.out _ _ _ none (HJ.out _ _ _ none HP.out (World.grownBy_alloc _ _ none) (fun r e => by cases e)) (grownBy_drew _) (fun r e => by cases e)) ((Below.heap_alloc _ _ _ hIlt).trans HIn.out) ((Below.heap_alloc _ _ _ (by omega)).trans HGr.out) HGn.out)
        have frI : ∀ o i, (wr.alloc o).frozen? ⟨w3.heap.size, i, none⟩ = false := fun o i => by unfold World.frozen?; rw [(Below.heap_alloc wr o _ hIlt).trans HIn.out]; simp
        have fr0 := fun o => frI o 0
        have fr1 := fun o => frI o 1
        have q0 := fun o => (World.cell?_alloc_lt wr o ⟨w3.heap.size, 0, none⟩ hIlt).trans (cell_of HIn.out 0)
        have q1 := fun o => (World.cell?_alloc_lt wr o ⟨w3.heap.size, 1, none⟩ hIlt).trans (cell_of HIn.out 1)
        simp only [List.getElem?_toArray, List.getElem?_cons_zero, List.getElem?_cons_succ] at q0 q1
        clear frI hgt HInv
        rcases hmk with rfl | rfl
        · gi_wp2_with fail
          refine ⟨fun _ h => (by cases h), ?_⟩
          gi_wp2_with fail
          refine region_wide_tail 9 (by kernel_rfl) (by kernel_rfl) ?_
          simp only [List.take_succ_cons, List.take_zero, List.drop_succ_cons, List.drop_zero]
          iterate 9 still_step
          refine wpStill_nil ?_
          gi_wp2_with fail
          go_roundw
          case rel => rw [← World.setCell_alloc_past _ _ _ _ hIlt]; exact HF.out
          case measure => simp [intOf]; omega
        · gi_wp2_with fail
          refine ⟨fun _ h => (by cases h), ?_⟩
          gi_wp2_with fail
          refine region_wide_tail 9 (by kernel_rfl) (by kernel_rfl) ?_
          simp only [List.take_succ_cons, List.take_zero, List.drop_succ_cons, List.drop_zero]
          iterate 9 still_step
          refine wpStill_nil ?_
          gi_wp2_with fail
          go_roundw
          case rel => rw [← World.setCell_alloc_past _ _ _ _ hIlt]; exact HF.out
          case measure => simp [intOf]; omega
      have hgb : decide (sat < xn) = true := decide_eq_true hgt
      have HGn := Lib.hid (show piecesP L = (pre ++ [(⟨sat, xn⟩, sa, sb)]) ++ piecesGo (stepP ⟨sat, sa, sb⟩ ⟨xn, xm, xd⟩) (L.drop (k + 1)) from by rw [HG.out, HD.out, piecesGo, if_pos hgt]; simp)
      have hJ1 : J pre (wr.alloc (.cells #[.int .i64 xn, .int .i64 xm, .int .i64 xd] 153)) := HJ.out _ _ _ none HP.out (World.grownBy_alloc _ _ none) (fun r e => by cases e)
      obtain ⟨fn, tmps, assign, body, hy, hR⟩ := HY.out pre (⟨sat, xn⟩, sa, sb) _ hJ1 ⟨L, HEnd.out, _, HGn.out.symm⟩
      have HR := Lib.hid hR
      dsimp only [pieceArgs] at hy
      have q0 := cell_of HIn.out 0
      have q1 := cell_of HIn.out 1
      have hXI := (Below.heap_alloc wr (.cells #[.int .i64 xn, .int .i64 xm, .int .i64 xd] 153) _ hIlt).trans HIn.out
      have hXg := (Below.heap_alloc wr (.cells #[.int .i64 xn, .int .i64 xm, .int .i64 xd] 153) g (by omega)).trans (HGr.out.trans HG3.out)
      have HXI := Lib.hid hXI
      have HXg := Lib.hid hXg
      clear hJ1 hR hgt hXI hXg
      gi_wp2_with fail
      refine HR.out.mono ?_
      rintro e W3 ⟨rfl, hJ3, hk3⟩
      have j1 := hk3.two _ _ _ HXI.out
      have j2 := hk3.ends _ _ _ HXg.out
      have j3 := hk3.ends _ _ _ (World.alloc_heap_new wr (.cells #[.int .i64 xn, .int .i64 xm, .int .i64 xd] 153))
      have HF := Lib.hid (HInv.out W3.drew (pre ++ [(⟨sat, xn⟩, sa, sb)]) (HJ.out _ _ _ none hJ3 (grownBy_drew _) (fun r e => by cases e)) j1 (j2.trans HG3.out.symm) HGn.out)
      have x0 := cell_of j3 0
      have x1 := cell_of j3 1
      have x2 := cell_of j3 2
      have frI : ∀ i, W3.frozen? ⟨w3.heap.size, i, none⟩ = false := fun i => by unfold World.frozen?; rw [j1]; simp
      have i0 := cell_of j1 0
      have i1 := cell_of j1 1
      have fr0 := frI 0
      have fr1 := frI 1
      clear frI j1 j2 j3 hy hJ3 hk3 HInv q0 q1 c0 c1 c2
      rcases hmk with rfl | rfl
      · gi_wp2_with fail
        refine region_wide_tail 9 (by kernel_rfl) (by kernel_rfl) ?_
        simp only [List.take_succ_cons, List.take_zero, List.drop_succ_cons, List.drop_zero]
        iterate 9 still_step
        refine wpStill_nil ?_
        gi_wp2_with fail
        go_roundw
        case rel => exact HF.out
        case measure => simp [intOf]; omega
      · gi_wp2_with fail
        refine region_wide_tail 9 (by kernel_rfl) (by kernel_rfl) ?_
        simp only [List.take_succ_cons, List.take_zero, List.drop_succ_cons, List.drop_zero]
        iterate 9 still_step
        refine wpStill_nil ?_
        gi_wp2_with fail
        go_roundw
        case rel => exact HF.out
        case measure => simp [intOf]; omega
    · have hd : L.drop k = [] := List.drop_eq_nil_of_le (by rw [HLen.out]; omega)
      have HF := Lib.hid (show pre = piecesP L from by rw [HG.out, hd]; simp [piecesGo])
      clear hd
      gi_wp2
      go_end0
      exact ⟨⟨_, rfl⟩, pre, ⟨L, HEnd.out, HF.out⟩, HP.out⟩
end Go.Proofs.YtdhhcbkldfdbbaaGreat

/-
  slices.AppendSeq onto nil and slices.Collect, at rooms: a slice of the call's own that holds what the iterator gave.
-/
namespace Go.Proofs.YtdhhcbkldfdbbaaGreat
open Go.RowKit Go.Shelf
attribute [local go_sem] Oper.semAt_some
def rcells (xs : List RG) : List Value := xs.flatMap rgC
def rgArgs (x : RG) : Array Value := #[.agg #[.int .i64 x.id, .int .i64 x.house, .int .i64 x.kind, .int .i64 x.joins, .bool x.access, .slice x.A x.n x.c]]
theorem info_rg : (Tryz.prog.info? 45).map (fun i => (i.zero, i.size, i.bytes)) = some (some (.agg #[.int .i64 0, .int .i64 0, .int .i64 0, .int .i64 0, .bool false, .slice none 0 0]), 6, 64) := by kernel_rfl
set_option maxRecDepth 100000 in
set_option maxHeartbeats 2000000 in
theorem appendSeq_rg {Cl : Obj → Bool} {Kp : World → World → Prop} {R : List RG → RG → Prop} {S : List RG → Prop} (g : Nat) (lb : Array Value) (w : World)
    (eg : ∀ args w, (callFunc g args).run Tryz.prog w = .ok (.enter g args) w)
    (h1 : ∀ cs fr, Cl (.cells cs 22 fr) = false) (h2 : ∀ cs fr, Cl (.cells cs 45 fr) = false)
    (hKt : ∀ {A B C : World}, Kp A B → Kp B C → Kp A C) (hKb : ∀ (W : World) (l : Nat) (o o' : Obj), w.heap.size ≤ l → W.heap[l]? = some o → o.isCells = false → o.isWalk = false → Kp W (W.putObj l o'))
    (hK : ∀ W W', Below w.heap.size W W' → KeepsOthers W W' → (∀ (b : Nat) (cs : Array Value) (t' : TypeId) (fr : Nat × Nat), t' ≠ 22 → t' ≠ 45 → W.heap[b]? = some (Obj.cells cs t' fr) → W'.heap[b]? = some (Obj.cells cs t' fr)) → Kp W W')
    (hR : ∀ pre x, R pre x → pre.length < 1000000000)
    (hseq : SeqC Cl 3 Tryz.prog g lb rgArgs Kp R S w) :
    Calls Tryz.prog 183 #[.slice none 0 0, .func (.func g) #[] lb] w fun e w' => ∃ v xs, e = .returned v ∧ S xs ∧ w'.ownsRow w.heap.size 45 6 v xs.length (rcells xs) ∧ (v = .slice none 0 0 ↔ xs = []) ∧ Below w.heap.size w w' := by
  obtain ⟨i0, hi, hz0, hz1, hz2⟩ := info_parts info_rg
  refine (callsIn_wide (n := 4)).1 ?_
  refine callsIn_of_wp_marks Tryz.func183 rfl trivial ?_ rfl
  simp only [Tryz.ntmps183, List.size_toArray, List.length_cons, List.length_nil, Nat.reduceAdd, Nat.reduceSub, Array.replicate_succ, Array.replicate_zero, List.push_toArray, List.append_toArray, List.nil_append, List.cons_append]
  gi_wp2
  have bS := Boxed.new w 22 (.slice none 0 0)
  have hB0 : Below w.heap.size w (w.alloc (.cells #[.slice none 0 0] 22)) := (Below.refl _ w).alloc (Nat.le_refl _) _
  refine range_law (Cl := Cl) (by omega) (gf := g) (lb := lb) rfl eg hseq hKt (fun W l o o' hl h hc hw => hKb W l o o' (by simp at hl; omega) h hc hw) hB0 (fun _ => rfl)
    (fun pre W => (∃ v, Boxed W w.heap.size 22 v ∧ W.ownsRow w.heap.size 45 6 v pre.length (rcells pre) ∧ (v = .slice none 0 0 ↔ pre = [])) ∧ Below w.heap.size w W)
    (Abide.and (holdsRow_abide _ _ _ _ _ _ (fun pre => pre.length) (fun pre => rcells pre) (fun pre v => v = .slice none 0 0 ↔ pre = []) h1 h2) (abide_below (Nat.le_refl _) (by simp)))
    ⟨⟨_, bS, World.ownsRow_nil _ _ _ _, by simp⟩, hB0⟩
    (fun x a' W => ∃ Bx, W.heap[Bx]? = some (.cells #[.int .i64 x.id, .int .i64 x.house, .int .i64 x.kind, .int .i64 x.joins, .bool x.access, .slice x.A x.n x.c] 45 (0, 0)) ∧ a' = { tmps := #[.slice none 0 0, .func (.func g) #[] lb, .pointer (some ⟨w.heap.size, 0, none⟩), undef, .slice none 0 0, .pointer (some ⟨Bx, 0, none⟩), .func (.func g) #[] lb, .agg #[.int .i64 x.id, .int .i64 x.house, .int .i64 x.kind, .int .i64 x.joins, .bool x.access, .slice x.A x.n x.c], undef, undef, undef, undef, undef], defers := [] })
    ?assign ?body ?done
  case assign =>
    intro l pre x W K hi hR' hK'
    simp only [rgArgs]
    gi_wp2
    obtain ⟨⟨v, hv, hrow, hnil⟩, hB⟩ := hi
    refine hK' _ _ ((KeepsOthers.alloc _ _).from _) (hK _ _ ((Below.refl _ _).alloc hB.size _) (KeepsOthers.alloc _ _) (fun b cs t' fr _ _ hb => (Below.heap_alloc _ _ _ (Array.getElem?_eq_some_iff.1 hb).1).trans hb))
      ⟨⟨v, hv.alloc _, hrow.alloc _, hnil⟩, hB.alloc hB.size _⟩ (fun l' o' _ ⟨r, hr⟩ => ⟨W.heap.size, ?_, rfl⟩)
    refine (World.putObj_heap_other (fun e => ?_)).trans (World.alloc_heap_new W _)
    subst e
    rw [World.alloc_heap_new] at hr
    cases hr
  case body =>
    rintro l pre x a' W ⟨⟨v, hv, hrow, hnil⟩, hB⟩ ⟨Bx, hx, rfl⟩ hR'
    have hc := hv.cell
    have hlen := hR pre x hR'
    have x0 : W.cell? ⟨Bx, 0, none⟩ = some (.int .i64 x.id) := by unfold World.cell?; rw [hx]; rfl
    have x1 : W.cell? ⟨Bx, 1, none⟩ = some (.int .i64 x.house) := by unfold World.cell?; rw [hx]; rfl
    have x2 : W.cell? ⟨Bx, 2, none⟩ = some (.int .i64 x.kind) := by unfold World.cell?; rw [hx]; rfl
    have x3 : W.cell? ⟨Bx, 3, none⟩ = some (.int .i64 x.joins) := by unfold World.cell?; rw [hx]; rfl
    have x4 : W.cell? ⟨Bx, 4, none⟩ = some (.bool x.access) := by unfold World.cell?; rw [hx]; rfl
    have x5 : W.cell? ⟨Bx, 5, none⟩ = some (.slice x.A x.n x.c) := by unfold World.cell?; rw [hx]; rfl
    have HV := Lib.hid hv
    have HR := Lib.hid hrow
    have HB := Lib.hid hB
    have HN := Lib.hid (cell_lit_new W #[.int .i64 x.id, .int .i64 x.house, .int .i64 x.kind, .int .i64 x.joins, .bool x.access, .slice x.A x.n x.c] 45)
    clear hx hv hrow hB hnil
    gi_wp2_with (gi_at_builtin; refine wpListIn_append_own _ rfl _ _ 22 rfl w.heap.size 45 i0 (.agg #[.int .i64 0, .int .i64 0, .int .i64 0, .int .i64 0, .bool false, .slice none 0 0]) 6 64 Tryz.underlying22 hi hz0 hz1 hz2 rfl (by decide) _ _ _ rfl (HR.out.alloc _) ⟨W.heap.size, 0, none⟩ 1 1 [.int .i64 x.id, .int .i64 x.house, .int .i64 x.kind, .int .i64 x.joins, .bool x.access, .slice x.A x.n x.c] rfl rfl HN.out (by simp [Value.oneCell']) (by unfold maxLen; omega) (by omega) (by have := HB.out.size; simp; omega) ?_; intro v' w1 hown' hgrow _; obtain ⟨g', cap', rfl⟩ := ownsRow_succ hown'; obtain ⟨hv1, hv2, hr2, hk2, hb2⟩ := HV.out.appended (by decide) HR.out HB.out.size (Nat.le_refl _) hown' hgrow; have HT := Lib.hid (appended_types (v' := .slice (some ⟨g', 0, none⟩) (pre.length + 1) cap') HV.out HR.out hgrow); have hc1 := hv1.cell; have hf1 := hv1.frozen)
    refine ⟨hk2.from _, hK _ _ hb2 hk2 (fun b cs t' fr h1 h2 hb => HT.out b cs t' fr h1 h2 hb), ⟨_, hv2, ?_, by simp⟩, HB.out.trans hb2⟩
    have e : rcells (pre ++ [x]) = rcells pre ++ [.int .i64 x.id, .int .i64 x.house, .int .i64 x.kind, .int .i64 x.joins, .bool x.access, .slice x.A x.n x.c] := by simp [rcells, rgC]
    rw [e, List.length_append]
    exact hr2
  case done =>
    rintro D xs W hD hS ⟨⟨v, hv, hrow, hnil⟩, hB⟩ hKd
    have hc := hv.cell
    gi_wp2
    refine ⟨by simp, .inl ⟨_, _, rfl, run_takeDeferred hKd, ?_⟩⟩
    exact ⟨_, results_tmp rfl _ _ _, v, xs, rfl, hS, ownsRow_putObj hrow _ hKd rfl, hnil, hB.trans (belowK_b (w := w) (Nat.le_refl _) W D _ _ (by simp at hD; omega) hKd rfl rfl)⟩
theorem collect_rg {Cl : Obj → Bool} {Kp : World → World → Prop} {R : List RG → RG → Prop} {S : List RG → Prop} (g : Nat) (lb : Array Value) (w : World)
    (eg : ∀ args w, (callFunc g args).run Tryz.prog w = .ok (.enter g args) w)
    (h1 : ∀ cs fr, Cl (.cells cs 22 fr) = false) (h2 : ∀ cs fr, Cl (.cells cs 45 fr) = false)
    (hKt : ∀ {A B C : World}, Kp A B → Kp B C → Kp A C) (hKb : ∀ (W : World) (l : Nat) (o o' : Obj), w.heap.size ≤ l → W.heap[l]? = some o → o.isCells = false → o.isWalk = false → Kp W (W.putObj l o'))
    (hK : ∀ W W', Below w.heap.size W W' → KeepsOthers W W' → (∀ (b : Nat) (cs : Array Value) (t' : TypeId) (fr : Nat × Nat), t' ≠ 22 → t' ≠ 45 → W.heap[b]? = some (Obj.cells cs t' fr) → W'.heap[b]? = some (Obj.cells cs t' fr)) → Kp W W')
    (hR : ∀ pre x, R pre x → pre.length < 1000000000)
    (hseq : SeqC Cl 3 Tryz.prog g lb rgArgs Kp R S w) :
    Calls Tryz.prog 149 #[.func (.func g) #[] lb] w fun e w' => ∃ v xs, e = .returned v ∧ S xs ∧ w'.ownsRow w.heap.size 45 6 v xs.length (rcells xs) ∧ (v = .slice none 0 0 ↔ xs = []) ∧ Below w.heap.size w w' := by
  have HC := Lib.hid (appendSeq_rg (Cl := Cl) (Kp := Kp) g lb w eg h1 h2 hKt hKb hK hR hseq)
  clear hseq hK hKb hKt eg h1 h2 hR
  go_enter Tryz.func149, Tryz.ntmps149
  go_wp2_with (go_at_call 183; refine HC.out.mono ?_; rintro e w' ⟨v, xs, rfl, hS, hrow, hnil, hb⟩; have HH := Lib.hid (And.intro hS (And.intro hrow (And.intro hnil hb))); clear hS hrow hnil hb)
  go_ret
  exact ⟨v, xs, rfl, HH.out⟩
end Go.Proofs.YtdhhcbkldfdbbaaGreat

/-
  A contract of the shelf laid at this program: SlLaysF0.n6, at function 150. Written by the kit's lay-plain.mjs.
-/
namespace Go.Proofs.YtdhhcbkldfdbbaaGreat
open Go.Shelf
def sortRm_ren : Go.Shelf.Ren := ⟨fun | 6 => 150 | 15 => 182 | 14 => 184 | 28 => 202 | 29 => 203 | 20 => 204 | 21 => 205 | 22 => 206 | 23 => 207 | 24 => 208 | 25 => 209 | 26 => 210 | 27 => 211 | 46 => 219 | 47 => 215 | 48 => 216 | 49 => 220 | 50 => 221 | 57 => 224 | n => n, fun | 22 => 22 | 24 => 45 | 25 => 137 | 3 => 3 | 39 => 187 | 0 => 0 | 53 => 205 | 55 => 207 | 4 => 4 | 46 => 199 | 45 => 198 | 50 => 70 | 5 => 5 | 9 => 9 | 66 => 216 | 70 => 109 | 76 => 226 | 77 => 227 | n => n, fun | n => n⟩
theorem sortRm : Go.Proofs.SlLaysF0.n6 Tryz.prog sortRm_ren := {
  mixed := by kernel_rfl
  f6 := ⟨Tryz.f150.name, by decide, Tryz.func150.trans (congrArg some (by kernel_rfl))⟩
  f14 := ⟨Tryz.f184.name, by decide, Tryz.func184.trans (congrArg some (by kernel_rfl))⟩
  f15 := Tryz.func182.trans (congrArg some (by kernel_rfl))
  f20 := ⟨Tryz.f204.name, by decide, Tryz.func204.trans (congrArg some (by kernel_rfl))⟩
  f21 := ⟨Tryz.f205.name, by decide, Tryz.func205.trans (congrArg some (by kernel_rfl))⟩
  f22 := ⟨Tryz.f206.name, by decide, Tryz.func206.trans (congrArg some (by kernel_rfl))⟩
  f23 := ⟨Tryz.f207.name, by decide, Tryz.func207.trans (congrArg some (by kernel_rfl))⟩
  f24 := ⟨Tryz.f208.name, by decide, Tryz.func208.trans (congrArg some (by kernel_rfl))⟩
  f25 := ⟨Tryz.f209.name, by decide, Tryz.func209.trans (congrArg some (by kernel_rfl))⟩
  f26 := ⟨Tryz.f210.name, by decide, Tryz.func210.trans (congrArg some (by kernel_rfl))⟩
  f27 := ⟨Tryz.f211.name, by decide, Tryz.func211.trans (congrArg some (by kernel_rfl))⟩
  f28 := Tryz.func202.trans (congrArg some (by kernel_rfl))
  f29 := Tryz.func203.trans (congrArg some (by kernel_rfl))
  f46 := ⟨Tryz.f219.name, by decide, Tryz.func219.trans (congrArg some (by kernel_rfl))⟩
  f47 := Tryz.func215.trans (congrArg some (by kernel_rfl))
  f48 := Tryz.func216.trans (congrArg some (by kernel_rfl))
  f49 := ⟨Tryz.f220.name, by decide, Tryz.func220.trans (congrArg some (by kernel_rfl))⟩
  f50 := ⟨Tryz.f221.name, by decide, Tryz.func221.trans (congrArg some (by kernel_rfl))⟩
  f57 := ⟨Tryz.f224.name, by decide, Tryz.func224.trans (congrArg some (by kernel_rfl))⟩
  t0 := Tryz.underlying0
  a0 := Tryz.isAgg0
  z0 := Tryz.sizeOf0
  v0 := Tryz.zeroValue0
  t3 := Tryz.underlying3
  a3 := Tryz.isAgg3
  z3 := Tryz.sizeOf3
  v3 := Tryz.zeroValue3
  t4 := Tryz.underlying4
  a4 := Tryz.isAgg4
  z4 := Tryz.sizeOf4
  v4 := Tryz.zeroValue4
  t5 := Tryz.underlying5
  a5 := Tryz.isAgg5
  z5 := Tryz.sizeOf5
  v5 := Tryz.zeroValue5
  t9 := Tryz.underlying9
  a9 := Tryz.isAgg9
  z9 := Tryz.sizeOf9
  v9 := Tryz.zeroValue9
  t22 := Tryz.underlying22
  a22 := Tryz.isAgg22
  z22 := Tryz.sizeOf22
  v22 := Tryz.zeroValue22
  t25 := Tryz.underlying137
  a25 := Tryz.isAgg137
  z25 := Tryz.sizeOf137
  v25 := Tryz.zeroValue137
  t39 := Tryz.underlying187
  a39 := Tryz.isAgg187
  z39 := Tryz.sizeOf187
  v39 := Tryz.zeroValue187
  t45 := Tryz.underlying198
  a45 := Tryz.isAgg198
  z45 := Tryz.sizeOf198
  v45 := Tryz.zeroValue198
  t46 := Tryz.underlying199
  a46 := Tryz.isAgg199
  z46 := Tryz.sizeOf199
  v46 := Tryz.zeroValue199
  t50 := Tryz.underlying70
  a50 := Tryz.isAgg70
  z50 := Tryz.sizeOf70
  v50 := Tryz.zeroValue70
  t53 := Tryz.underlying205
  a53 := Tryz.isAgg205
  z53 := Tryz.sizeOf205
  v53 := Tryz.zeroValue205
  t55 := Tryz.underlying207
  a55 := Tryz.isAgg207
  z55 := Tryz.sizeOf207
  v55 := Tryz.zeroValue207
  t66 := Tryz.underlying216
  a66 := Tryz.isAgg216
  z66 := Tryz.sizeOf216
  v66 := Tryz.zeroValue216
  t70 := Tryz.underlying109
  a70 := Tryz.isAgg109
  z70 := Tryz.sizeOf109
  v70 := Tryz.zeroValue109
  t76 := Tryz.underlying226
  a76 := Tryz.isAgg226
  z76 := Tryz.sizeOf226
  v76 := Tryz.zeroValue226
  t77 := Tryz.underlying227
  a77 := Tryz.isAgg227
  z77 := Tryz.sizeOf227
  v77 := Tryz.zeroValue227 }
end Go.Proofs.YtdhhcbkldfdbbaaGreat

/-
  slices.Values at rooms, and slices.SortedFunc over it by IDs: the rooms by rising IDs, in a slice of the call's own.
-/
namespace Go.Proofs.YtdhhcbkldfdbbaaGreat
open Go.RowKit Go.Shelf Go.Sort
open Hall
attribute [local go_sem] Oper.semAt_some
theorem values_any (A : Option Addr) (n c : Nat) (w : World) :
    Calls Tryz.prog 106 #[.slice A n c] w fun e w' => e = .returned (.func (.func 151) #[] #[.pointer (some ⟨w.heap.size, 0, none⟩)]) ∧ w.alloc (.cells #[.slice A n c] 22) = w' := by
  go_enter Tryz.func106, Tryz.ntmps106
  go_wp2
  go_ret
  exact ⟨rfl, rfl⟩
set_option maxRecDepth 100000 in
set_option maxHeartbeats 4000000 in
theorem values1_seq (n Bt N c : Nat) (A : Option Addr) (gs : List RG) (w : World) (hn : 1 ≤ n) (hN : N ≤ 1000000) (hBt : Bt < w.heap.size) (hc : w.cell? ⟨Bt, 0, none⟩ = some (.slice A N c)) (hM : Rms w w.heap.size A N gs) :
    SeqC (fun _ => false) n Tryz.prog 151 #[.pointer (some ⟨Bt, 0, none⟩)] rgArgs (Below w.heap.size) (fun pre x => pre ++ [x] <+: gs) (fun xs => xs = gs) w := by
  intro l J W hW hJ hY h0
  have hcW := (hW.cell (p := ⟨Bt, 0, none⟩) hBt).trans hc
  have HM := Lib.hid hM
  have HL := Lib.hid hM.len
  have HJ := Lib.hid hJ
  have HY := Lib.hid hY
  have HW := Lib.hid hW
  clear hM hc hJ hY hW
  refine callsIn_of_wp Tryz.func151 rfl trivial ?_ rfl
  simp only [Tryz.ntmps151, List.size_toArray, List.length_cons, List.length_nil, Nat.reduceAdd, Nat.reduceSub, Array.replicate_succ, Array.replicate_zero, List.push_toArray, List.append_toArray, List.nil_append, List.cons_append]
  gi_wp2
  gi_loopw [7] (fun i wr => ∃ k : Nat, k ≤ N ∧ i = .int .i64 k ∧ J (gs.take k) wr ∧ Below w.heap.size w wr) (fun i _ => N - (intOf i).toNat)
  case atStart => exact ⟨0, Nat.zero_le _, rfl, h0, HW.out⟩
  case round =>
    obtain ⟨k, hk, rfl, hJp, hB⟩ := hrel
    have HP := Lib.hid hJp
    have HB := Lib.hid hB
    clear hJp hB
    by_cases hlt : k < N
    · have hkl : k < gs.length := by rw [HL.out]; exact hlt
      obtain ⟨b, off, rfl, hb, hcs⟩ := (HM.out.to HB.out (Nat.le_refl _)).at_ (by omega)
      obtain ⟨c0, c1, c2, c3, c4, c5⟩ := hcs k hkl
      have HT := Lib.hid (List.take_succ_eq_append_getElem hkl)
      have hpf : gs.take k ++ [gs[k]] <+: gs := by rw [← HT.out]; exact List.take_prefix _ _
      clear hcs
      generalize gs[k] = x at *
      have hJ1 : J (gs.take k) (wr.alloc (.cells #[.int .i64 x.id, .int .i64 x.house, .int .i64 x.kind, .int .i64 x.joins, .bool x.access, .slice x.A x.n x.c] 45)) := HJ.out _ _ _ none HP.out (World.grownBy_alloc _ _ none) (fun r e => by cases e)
      have HB1 := Lib.hid (HB.out.al (.cells #[.int .i64 x.id, .int .i64 x.house, .int .i64 x.kind, .int .i64 x.joins, .bool x.access, .slice x.A x.n x.c] 45))
      obtain ⟨fn, tmps, assign, body, hy, hR⟩ := HY.out (gs.take k) x _ hJ1 hpf
      have HR := Lib.hid hR
      dsimp only [rgArgs] at hy
      clear hJ1 hR hpf
      gi_wp2
      refine HR.out.mono ?_
      rintro e W3 ⟨rfl, hJ3, hk3⟩
      have HJ3 := Lib.hid (show J (gs.take (k + 1)) W3 from by rw [HT.out]; exact hJ3)
      have HB3 := Lib.hid (HB1.out.trans hk3)
      clear hJ3 hk3 hy
      gi_wp2
      go_roundw
      case rel => exact ⟨k + 1, by omega, by go_num, HJ3.out, HB3.out⟩
      case measure => simp [intOf]; omega
    · have HF := Lib.hid (show gs.take k = gs from List.take_of_length_le (by rw [HL.out]; omega))
      gi_wp2
      go_end0
      exact ⟨⟨_, rfl⟩, _, HF.out, HP.out⟩
instance : Inhabited RG := ⟨⟨0, 0, 0, 0, false, none, 0, 0, []⟩⟩
def cfR (x y : RG) : Int := cmpI x.id y.id
theorem ltOf_cfR (x y : RG) : ltOf cfR x y = decide (x.id < y.id) := by
  unfold ltOf cfR cmpI
  by_cases h1 : x.id < y.id
  · simp [h1]
  · by_cases h2 : y.id < x.id <;> simp [h1, h2]
theorem swoR : SWO (ltOf cfR) where
  irrefl x := by rw [ltOf_cfR]; simp
  trans x y z h1 h2 := by rw [ltOf_cfR] at *; simp at *; omega
  ntrans x y z h1 h2 := by rw [ltOf_cfR] at *; simp at *; omega
theorem roomCmp_any (a b : RG) (w : World) :
    Calls Tryz.prog 107 #[.agg #[.int .i64 a.id, .int .i64 a.house, .int .i64 a.kind, .int .i64 a.joins, .bool a.access, .slice a.A a.n a.c], .agg #[.int .i64 b.id, .int .i64 b.house, .int .i64 b.kind, .int .i64 b.joins, .bool b.access, .slice b.A b.n b.c]] w fun e w' => e = .returned (.int .i64 (cfR a b)) ∧ Gr w w' := by
  go_enter Tryz.func107, Tryz.ntmps107
  go_wp2_with (go_at_call 108; refine (compare_any _ _ _).mono ?_; rintro e w' ⟨rfl, rfl⟩)
  go_ret
  exact ⟨rfl, ((Gr.refl w).alloc _).alloc _⟩
set_option maxHeartbeats 1000000 in
theorem sortRooms_own (base g cap : Nat) (xs : List RG) (w : World) (hd : (xs.map RG.id).Nodup) (hown : w.ownsRow base 45 6 (.slice (some ⟨g, 0, none⟩) xs.length cap) xs.length (xs.flatMap rgC)) (hx : xs.length < 1000000000) :
    Calls Tryz.prog 150 #[.slice (some ⟨g, 0, none⟩) xs.length cap, .func (.func 107) #[] #[]] w fun e w' => e = .returned (.tuple #[]) ∧ Rd w' w'.heap.size (some ⟨g, 0, none⟩) ((sortBy RG.id xs).flatMap rgC) ∧ Below base w w' := by
  have hb := hown.lt g rfl
  have eg : ∀ args w, (callFunc 107 args).run Tryz.prog w = .ok (.enter 107 args) w := enters_of Tryz.func107 (by kernel_rfl) rfl
  have hH := holdsK_of_own rgC_len (by omega) hown
  have hcon := AnyQ.slices_SortFunc sortRm 6 Tryz.isAgg45 Tryz.sizeOf45 rgC rgC_len (fun x v hv => by simp [rgC] at hv; rcases hv with rfl | rfl | rfl | rfl | rfl | rfl <;> rfl) cfR swoR 107 #[] g 0 cap xs.toArray w eg
    (fun m os dk _ x y => roomCmp_any x y _) hH hb.2 (by simp; omega)
  change Calls Tryz.prog 150 _ _ _ at hcon
  rw [show xs.toArray.size = xs.length from by simp] at hcon
  refine hcon.mono ?_
  rintro e w' ⟨rfl, d', n, os, hP, hS, rfl⟩
  have hsz : d'.size = xs.length := by rw [hP.1]; simp
  have hl : d'.toList.length = xs.length := by simpa using hsz
  have hperm : d'.toList.Perm xs := by
    have h1 := hP.2.2
    have h2 : d'.extract 0 xs.length = d' := by rw [← hsz]; simp
    have h3 : xs.toArray.extract 0 xs.length = xs.toArray := by simp
    rw [h2, h3] at h1
    simpa using h1
  have hle : d'.toList.Pairwise fun x y => x.id ≤ y.id := by
    rw [List.pairwise_iff_getElem]
    intro i j hi hj hij
    have h1 := hS i j (Nat.zero_le _) hij (by rw [← hl]; exact hj)
    rw [ltOf_cfR] at h1
    have hi' : i < d'.size := by simpa using hi
    have hj' : j < d'.size := by simpa using hj
    have e1 : d'[i]! = d'.toList[i] := by simp [hi']
    have e2 : d'[j]! = d'.toList[j] := by simp [hj']
    rw [e1, e2] at h1
    have := of_decide_eq_false h1
    omega
  have hnd : (d'.toList.map RG.id).Nodup := (hperm.map RG.id).nodup_iff.2 hd
  have hlt : d'.toList.Pairwise fun x y => x.id < y.id := (hle.and (List.pairwise_map.1 hnd)).imp fun h => by omega
  have he : d'.toList = sortBy RG.id xs := lt_same hlt (sortBy_lt hd) fun x => hperm.mem_iff.trans (sortBy_perm xs).mem_iff.symm
  refine ⟨rfl, ?_, below_sortWorldK w g n _ os hb.1 hb.2⟩
  rw [← he]
  exact rd_sorted rgC_len (by omega) hb.2 hH hl
set_option maxRecDepth 100000 in
set_option maxHeartbeats 2000000 in
theorem sortedRooms_any (Bt N c : Nat) (A : Option Addr) (gs : List RG) (w : World) (hN : N ≤ 1000000) (hd : (gs.map RG.id).Nodup) (hBt : Bt < w.heap.size) (hc : w.cell? ⟨Bt, 0, none⟩ = some (.slice A N c)) (hM : Rms w w.heap.size A N gs) :
    Calls Tryz.prog 105 #[.func (.func 151) #[] #[.pointer (some ⟨Bt, 0, none⟩)], .func (.func 107) #[] #[]] w fun e w' =>
      ∃ A' c', e = .returned (.slice A' (sortBy RG.id gs).length c') ∧ Rms w' w'.heap.size A' (sortBy RG.id gs).length (sortBy RG.id gs) ∧ Below w.heap.size w w' := by
  have HLn := Lib.hid hM.len
  have HC := Lib.hid (collect_rg (Cl := fun _ => false) (Kp := Below w.heap.size) 151 _ w (enters_of Tryz.func151 (by kernel_rfl) rfl) (fun _ _ => rfl) (fun _ _ => rfl) (fun h k => h.trans k)
    (fun W l o o' hl _ _ _ => ⟨rfl, rfl, rfl, by simp [World.putObj], fun k hk => World.putObj_heap_other (by omega)⟩) (fun W W' hB _ _ => hB)
    (fun pre x hp => by
      have := hp.length_le
      have h2 := HLn.out
      simp at this
      omega)
    (values1_seq 3 Bt N c A gs w (by omega) hN hBt hc hM))
  have HM := Lib.hid hM
  have HD := Lib.hid hd
  clear hM hc hd
  go_enter Tryz.func105, Tryz.ntmps105
  go_wp2_with fail
  refine HC.out.mono ?_
  rintro e w1 ⟨v, xs, rfl, rfl, hrow, hnil, hb⟩
  have HB := Lib.hid hb
  have HRow := Lib.hid hrow
  have hsl : (sortBy RG.id xs).length = xs.length := (sortBy_perm xs).length_eq
  by_cases hks : xs = []
  · subst hks
    obtain rfl := hnil.2 rfl
    clear hrow hnil hb
    go_wp2_with fail
    refine (show Calls Tryz.prog 150 _ w1 _ from AnyF.slices_SortFunc_none sortRm none 0 _ w1).mono ?_
    rintro e w2 ⟨rfl, rfl⟩
    go_wp2
    go_ret
    exact ⟨none, 0, rfl, ⟨rfl, Rd.nil, fun r hr => by cases hr⟩, HB.out⟩
  · rcases hrow.2 with ⟨rfl, h0⟩ | ⟨g, cap, cur, rfl, _⟩
    · exact absurd (by simpa using h0) hks
    have HS := Lib.hid (sortRooms_own w.heap.size g cap xs w1 HD.out hrow (by have := HLn.out; omega))
    clear hrow hnil hb hks
    go_wp2_with fail
    refine HS.out.mono ?_
    rintro e w2 ⟨rfl, hrd, hb2⟩
    have HR := Lib.hid hrd
    have HB2 := Lib.hid (HB.out.trans hb2)
    clear hrd hb2
    go_wp2
    go_ret
    refine ⟨some ⟨g, 0, none⟩, cap, by rw [hsl]; rfl, ⟨rfl, HR.out, fun r hr => ?_⟩, HB2.out⟩
    exact ((HM.out.to HB2.out (Nat.le_refl _)).ok r ((sortBy_perm xs).mem_iff.1 hr)).to (Below.refl _ _) HB2.out.size
end Go.Proofs.YtdhhcbkldfdbbaaGreat
