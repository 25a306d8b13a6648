/-
  Part8: this text joins 5 texts; each says ahead of itself what it proves.
-/
import Derived.Test.YtdhhcbkldfdbbaaGreatPart7

/-
  The reference of layer 19: refuse. Printed by gen_hallrefg.py.
-/
namespace Go.Proofs.YtdhhcbkldfdbbaaGreat
open Go.RowKit Go.Shelf Go.Sort
open Hall

attribute [local go_sem] Oper.semAt_some

theorem Sts.takeK {w : World} {B n : Nat} {A : Option Addr} {l : List St} (h : Sts w B A n l) (k : Nat) (hk : k ≤ n) : Sts w B A k (l.take k) :=
  ⟨by rw [List.length_take, h.len]; omega, h.rd.takeF stC_len k, fun s hs => h.ok s (List.mem_of_mem_take hs)⟩
/-- A refusal that a call returns. -/
def RfRow (r : Rf) (w : World) (e : Ending) (w' : World) : Prop :=
  ∃ As ns cs Ar nr cr, e = .returned (.agg #[.int .i64 r.kind, .int .i64 r.night, .slice As ns cs, .slice Ar nr cr, .slice none 0 0]) ∧ ns = r.stays.length ∧ nr = r.rooms.length ∧ Rd w' w'.heap.size As (r.stays.map (Value.int .i64)) ∧ Rd w' w'.heap.size Ar (r.rooms.map (Value.int .i64)) ∧ Below w.heap.size w w' ∧ (∀ ad, As = some ad → w.heap.size ≤ ad.block) ∧ ∀ ad, Ar = some ad → w.heap.size ≤ ad.block
/-- Has a room been found that some of the stays fit, but not all? -/
def kindB (M : List St) (house : List RG) (q : Nat) : Bool := (house.take q).any fun x => M.any (fun s => suitsB s x.rm) && !M.all fun s => suitsB s x.rm
def cntS (M : List St) (x : Rm) (i : Nat) : Nat := ((M.take i).filter fun s => suitsB s x).length
theorem cntS_le (M : List St) (x : Rm) (i : Nat) : cntS M x i ≤ i := Nat.le_trans (List.length_filter_le _ _) (by rw [List.length_take]; omega)
theorem cntS_step {M : List St} {x : Rm} {i : Nat} (h : i < M.length) : cntS M x (i + 1) = cntS M x i + if suitsB M[i] x = true then 1 else 0 := by
  unfold cntS
  rw [List.take_succ_eq_append_getElem h, List.filter_append, List.length_append]
  congr 1
  by_cases g : suitsB M[i] x = true <;> simp [g]
theorem cntS_any (M : List St) (x : Rm) : M.any (fun s => suitsB s x) = decide (0 < cntS M x M.length) := by
  unfold cntS
  rw [List.take_length, pos_any]
theorem cntS_all (M : List St) (x : Rm) : (M.all fun s => suitsB s x) = decide (cntS M x M.length = M.length) := by
  unfold cntS
  rw [List.take_length, Bool.eq_iff_iff, List.all_eq_true, decide_eq_true_eq, List.length_filter_eq_length_iff]
theorem kindB_step {M : List St} {house : List RG} {q : Nat} (h : q < house.length) : kindB M house (q + 1) = (kindB M house q || (decide (0 < cntS M house[q].rm M.length) && !decide (cntS M house[q].rm M.length = M.length))) := by
  unfold kindB
  rw [List.take_succ_eq_append_getElem h, List.any_append, List.any_cons, List.any_nil, Bool.or_false, cntS_any, cntS_all]
theorem rms_yes {M : List St} {house : List RG} {q : Nat} (h : q < house.length) (hc : 0 < cntS M house[q].rm M.length) : (((house.take (q + 1)).filter fun x => M.any fun s => suitsB s x.rm).map fun x => Value.int .i64 x.id) = (((house.take q).filter fun x => M.any fun s => suitsB s x.rm).map fun x => Value.int .i64 x.id) ++ [.int .i64 house[q].id] := by
  rw [List.take_succ_eq_append_getElem h, List.filter_append, List.map_append]
  congr 1
  have : (M.any fun s => suitsB s house[q].rm) = true := by rw [cntS_any]; exact decide_eq_true hc
  simp [this]
theorem rms_no {M : List St} {house : List RG} {q : Nat} (h : q < house.length) (hc : cntS M house[q].rm M.length = 0) : (((house.take (q + 1)).filter fun x => M.any fun s => suitsB s x.rm).map fun x => Value.int .i64 x.id) = (((house.take q).filter fun x => M.any fun s => suitsB s x.rm).map fun x => Value.int .i64 x.id) := by
  rw [List.take_succ_eq_append_getElem h, List.filter_append, List.map_append]
  have : (M.any fun s => suitsB s house[q].rm) = false := by rw [cntS_any]; exact decide_eq_false (by omega)
  simp [this]
theorem rms_len (M : List St) (house : List RG) (q : Nat) : ((house.take q).filter fun x => M.any fun s => suitsB s x.rm).length ≤ q := Nat.le_trans (List.length_filter_le _ _) (by rw [List.length_take]; omega)
theorem ref_end {M : List St} {house : List RG} {when : Int} : refOf (house.map RG.rm) M when = ⟨kindOf (kindB M house house.length), when, M.map St.id, ((house.take house.length).filter fun x => M.any fun s => suitsB s x.rm).map RG.id⟩ := by
  unfold refOf kindB kindOf
  rw [List.take_length, List.any_map, List.filter_map, List.map_map]
  rfl
theorem own_blk {w : World} {b s n g : Nat} {e t : TypeId} {v : Value} {xs : List Value} {cs : Array Value} (h : w.ownsRow b e s v n xs) (hg : w.heap[g]? = some (.cells cs t (0, 0))) (hne : e ≠ t) : v.ownBlock ≠ some g := by
  rcases h.2 with ⟨rfl, _⟩ | ⟨g', cap, cur, rfl, _, hh, _⟩
  · simp [Value.ownBlock]
  · intro he
    have e1 : g' = g := Option.some.inj he
    subst e1
    rw [hh] at hg
    injection hg with h1
    injection h1 with _ h2
    exact hne h2
theorem Rd.chgB {w w' : World} {B n bo : Nat} {A : Option Addr} {xs : List Value} (h : Rd w B A xs) (hc : Chg n [bo] w w') (hn : B ≤ n) (hA : ∀ ad, A = some ad → ad.block ≠ bo) : Rd w' B A xs := fun hp => by
  obtain ⟨b, off, e, hb, hcl⟩ := h hp
  have hne := hA _ e
  exact ⟨b, off, e, hb, fun j v hv => (hc.cell (p := ⟨b, off + j, none⟩) (by show b < n; omega) (by simpa using hne)).trans (hcl j v hv)⟩
theorem Tbs.chg {w w' : World} {B n m bo : Nat} {A : Option Addr} {l : List TG} (h : Tbs w B A m l) (hc : Chg n [bo] w w') (hn : B ≤ n) (hA : ∀ ad, A = some ad → ad.block ≠ bo) (ht : ∀ t ∈ l, ∀ ad, t.A = some ad → ad.block ≠ bo) : Tbs w' B A m l :=
  ⟨h.len, h.rd.chgB hc hn hA, fun t h1 => ⟨(h.ok t h1).len, (h.ok t h1).rd.chgB hc hn (ht t h1)⟩⟩
theorem rln_yes {M : List St} {house : List RG} {q : Nat} (h : q < house.length) (hc : 0 < cntS M house[q].rm M.length) : ((house.take (q + 1)).filter fun x => M.any fun s => suitsB s x.rm).length = ((house.take q).filter fun x => M.any fun s => suitsB s x.rm).length + 1 := by
  have := congrArg List.length (rms_yes h hc)
  simpa using this
theorem rln_no {M : List St} {house : List RG} {q : Nat} (h : q < house.length) (hc : cntS M house[q].rm M.length = 0) : ((house.take (q + 1)).filter fun x => M.any fun s => suitsB s x.rm).length = ((house.take q).filter fun x => M.any fun s => suitsB s x.rm).length := by
  have := congrArg List.length (rms_no h hc)
  simpa using this
def lenOf (v : Value) : Nat := match v with | .slice _ n _ => n | _ => 0

set_option maxRecDepth 100000 in
set_option maxHeartbeats 16000000 in
theorem refuse19_any {f : Nat} {Z T : List Nat} (A1 A2 : Option Addr) (n1 n2 k1 k2 : Nat) (when : Int) (house : List RG) (S : List St) (w : World) (hn1 : n1 ≤ 400) (hn2 : n2 ≤ 3000) (hk2 : n2 ≤ k2) (hkm : k2 ≤ 9223372036854775807) (hM1 : Rms w w.heap.size A1 n1 house) (hM2 : Sts w w.heap.size A2 n2 S) (hF : ∀ r ∈ house, formedB r.rm = true) (hP : ∀ s ∈ S, periodB ⟨s.fr, s.un⟩ = true)
    (hS : S.Pairwise (fun a b => a.id < b.id)) (hR : (house.map RG.rm).Pairwise (fun a b => a.id < b.id)) (h : Stuck (fitOf (house.map RG.rm) S) (house.map RG.rm).length S.length f Z T) :
    Calls Tryz.prog 176 #[.slice A1 n1 k1, .slice A2 n2 k2, .int .i64 when] w (RfRow (rfOf (house.map RG.rm) S when Z T) w) := by
  have HM1 := Lib.hid hM1
  have HM2 := Lib.hid hM2
  have HL1 := Lib.hid hM1.len
  have HL2 := Lib.hid hM2.len
  have HF := Lib.hid hF
  have HP := Lib.hid hP
  have hf : f + 1 ≤ n2 := by have := h.lt; have := hM2.len; omega
  have HLv := Lib.hid (leave_all hS hR h)
  have HRo := Lib.hid (rfOf_refOf hR h when)
  generalize (Z.map fun z => S.getD z default) = Zm at *
  have HMt := Lib.hid (fun (k : Nat) (hk : k ≤ n2) (W : World) (hB : Below w.heap.size w W) => show Calls Tryz.prog 171 #[.slice A1 n1 k1, .slice A2 k k2] W fun e w' => e = .returned (.bool (decide (k ≤ f))) ∧ Below W.heap.size W w' from by
    have h1 := matchedC19_any A1 A2 n1 k k1 k2 house (S.take k) W hn1 (by omega) (HM1.out.to hB hB.size) ((HM2.out.takeK k hk).to hB hB.size) hF (fun s hs => hP s (List.mem_of_mem_take hs))
    have h2 : matchedB (fitOf (house.map RG.rm) (S.take k)) (house.map RG.rm).length (S.take k).length = decide (k ≤ f) := by
      rw [Bool.eq_iff_iff, decide_eq_true_eq]
      exact stuck_take h (by rw [HL2.out]; exact hk)
    rw [h2] at h1
    exact h1)
  have HB0 := Lib.hid (alloc_b w (.cells #[.int .i64 0, .int .i64 0, .slice none 0 0, .slice none 0 0, .slice none 0 0] 29))
  have HR0 := Lib.hid (World.alloc_heap_new w (.cells #[.int .i64 0, .int .i64 0, .slice none 0 0, .slice none 0 0, .slice none 0 0] 29))
  obtain ⟨i0, hi, hz0, hz1, hz2⟩ := info_parts info_intE
  obtain ⟨i1, hj, hy0, hy1, hy2⟩ := info_parts info_stH
  clear hM1 hM2 hF hP hS hR h
  go_enter Tryz.func176, Tryz.ntmps176
  go_wp2_with fail
  generalize hW1 : World.alloc w _ = W1 at *
  have hs1 : W1.heap.size = w.heap.size + 1 := by rw [← hW1]; simp
  have HS1 := Lib.hid hs1
  clear hW1 hs1
  go_loopw [7] (fun q wr => ∃ k : Nat, 1 ≤ k ∧ k ≤ f + 1 ∧ q = .int .i64 k ∧ Below W1.heap.size W1 wr) (fun q _ => f + 2 - (intOf q).toNat)
  case atStart => exact ⟨1, Nat.le_refl _, by omega, rfl, Below.refl _ _⟩
  case round =>
    obtain ⟨k, hk1, hk2', rfl, hB⟩ := hrel
    have HB := Lib.hid hB
    have HBw := Lib.hid (HB0.out.tr hB)
    clear hB
    have hi0 : (0 : Int) ≤ (k : Int) := by omega
    have hi1 : (k : Int) ≤ (k2 : Int) := by omega
    have HMk := Lib.hid (HMt.out k (by omega) wr HBw.out)
    by_cases hkf : k ≤ f
    · have HMk' := Lib.hid (by have := HMk.out; rewrite [decide_eq_true hkf] at this; exact this)
      clear HMk
      go_wp2_with fail
      refine HMk'.out.mono ?_
      rintro e w2 ⟨rfl, hb⟩
      have HB2 := Lib.hid (HB.out.tr hb)
      clear hb
      go_wp2_with fail
      go_roundw
      case rel => exact ⟨k + 1, by omega, by omega, by go_num, HB2.out⟩
      case measure => simp [intOf]; omega
    have HMk' := Lib.hid (by have := HMk.out; rewrite [decide_eq_false hkf] at this; exact this)
    obtain rfl : k = f + 1 := by omega
    clear HMk hkf
    go_wp2_with fail
    refine HMk'.out.mono ?_
    rintro e W2 ⟨rfl, hb⟩
    have HB2 := Lib.hid (HB.out.tr hb)
    have HB2w := Lib.hid (HBw.out.tr hb)
    clear hb HB HBw HMk'
    have HLk := Lib.hid (show ((S.take (f + 1)).flatMap stC).length = (f + 1) * 9 from by rw [flat_length stC_len, List.length_take, HL2.out, Nat.min_eq_left hf])
    have HRk := Lib.hid ((HM2.out.takeK (f + 1) hf).rd.to HB2w.out HB2w.out.size)
    have HC1 := Lib.hid (show 0 + (f + 1) ≤ maxLen from by unfold maxLen; omega)
    have HC2 := Lib.hid (show (0 + (f + 1)) * 64 ≤ 140737488355328 from by omega)
    have HC3 := Lib.hid (show W1.heap.size ≤ W2.heap.size from HB2.out.size)
    go_wp2_with (at_builtin; refine wpList_append_rd _ rfl (.tmp 24) (.tmp 27) 23 rfl W1.heap.size 36 i1 (.agg #[.int .i64 0, .int .i64 0, .int .i64 0, .int .i64 0, .int .i64 0, .int .i64 0, .int .i64 0, .bool false, .bool false]) 9 64 Tryz.underlying23 hj hy0 hy1 hy2 rfl (by decide) (.slice none 0 0) 0 [] rfl (World.ownsRow_nil _ _ _ _) W2.heap.size A2 (f + 1) k2 ((S.take (f + 1)).flatMap stC) rfl HLk.out HRk.out (one_st _) HC1.out HC2.out HC3.out ?_; intro v3 w3 hown3 hgr3 _; have HO3 := Lib.hid (show w3.ownsRow W1.heap.size 36 9 v3 (S.take (f + 1)).length ((S.take (f + 1)).flatMap stC) from by rw [List.length_take, HL2.out, Nat.min_eq_left hf]; have := hown3; rwa [List.nil_append, Nat.zero_add] at this); have hb3 : Below W2.heap.size W2 w3 := (Below.refl _ _).grown hgr3 (Nat.le_refl _) (fun q e => by cases e); have HB3 := Lib.hid (HB2.out.tr hb3); clear hown3 hgr3 hb3)
    clear HC1 HC2 HC3 HLk HRk
    go_loopw [8, 9] (fun v q wr => ∃ (M : List St) (i n : Nat), i ≤ M.length ∧ M.length - i < n ∧ leaveGo (house.map RG.rm) n M i = Zm ∧ (∀ s ∈ M, s ∈ S) ∧ M.length ≤ 3000 ∧ q = .int .i64 i ∧ wr.ownsRow W1.heap.size 36 9 v M.length (M.flatMap stC) ∧ Below W1.heap.size W1 wr) (fun v q _ => lenOf v - (intOf q).toNat)
    case atStart =>
      obtain ⟨A3, c3, rfl, _, _, _⟩ := rd_of_own HO3.out (by decide)
      exact ⟨S.take (f + 1), 0, f + 2, Nat.zero_le _, by rw [List.length_take, HL2.out]; omega, HLv.out, fun s hs => List.mem_of_mem_take hs, by rw [List.length_take, HL2.out]; omega, rfl, HO3.out, HB3.out⟩
    case round =>
      obtain ⟨M, i, n, hi', hin, hlv, hsub, hm3, rfl, hO, hB⟩ := hrel
      have HO := Lib.hid hO
      have HB := Lib.hid hB
      have HBw := Lib.hid (HB0.out.tr hB)
      have HLg := Lib.hid hlv
      have HSub := Lib.hid hsub
      obtain ⟨Ao, co, rfl, hc1, hc2, hro⟩ := rd_of_own hO (by decide)
      have HRd := Lib.hid hro
      have hcm : co ≤ 9223372036854775807 := by unfold maxLen at hc2; omega
      clear hO hB hlv hsub hro hc2
      by_cases hlt : i < M.length
      · obtain ⟨n, rfl⟩ : ∃ m, n = m + 1 := ⟨n - 1, by omega⟩
        have HIf := Lib.hid (show ∀ b, matchedB (fitOf (house.map RG.rm) (outN M i)) (house.map RG.rm).length (outN M i).length = b → (if b = true then leaveGo (house.map RG.rm) n M (i + 1) else leaveGo (house.map RG.rm) n (outN M i) i) = Zm from fun b e => by rw [← HLg.out, leaveGo, if_pos hlt, e])
        have hol := outN_length hlt
        have HOl := Lib.hid hol
        have HSo := Lib.hid (show ∀ s ∈ outN M i, s ∈ M from fun s hs => by
          unfold outN at hs
          rcases List.mem_append.1 hs with h | h
          · exact List.mem_of_mem_take h
          · exact List.mem_of_mem_drop h)
        have HL1' := Lib.hid (show ((M.take i).flatMap stC).length = i * 9 from by rw [flat_length stC_len, List.length_take, Nat.min_eq_left hi'])
        have HL3' := Lib.hid (show ((M.drop (i + 1)).flatMap stC).length = (M.length - (i + 1)) * 9 from by rw [flat_length stC_len, List.length_drop])
        have HC1 := Lib.hid (show 0 + i ≤ maxLen from by unfold maxLen; omega)
        have HC2 := Lib.hid (show (0 + i) * 64 ≤ 140737488355328 from by omega)
        have HC3 := Lib.hid (show W1.heap.size ≤ wr.heap.size from HB.out.size)
        have HC6 := Lib.hid (show 0 + i + (M.length - (i + 1)) ≤ maxLen from by unfold maxLen; omega)
        have HC7 := Lib.hid (show (0 + i + (M.length - (i + 1))) * 64 ≤ 140737488355328 from by omega)
        have HCo := Lib.hid hc1
        have hi0 : (0 : Int) ≤ ((i : Nat) : Int) := by omega
        have hi1 : ((i : Nat) : Int) ≤ (co : Int) := by omega
        have hi2 : ((i : Nat) : Int) + 1 ≤ (co : Int) := by omega
        have hrd := run_cutAt (P := Tryz.prog) (t := 23) (s := 9) (by kernel_rfl) (fun w => by kernel_rfl) Ao M.length co (i + 1) (by omega)
        rw [show (((i + 1 : Nat)) : Int) = (i : Int) + 1 from rfl] at hrd
        generalize wr = W6 at *
        clear hol
        go_wp2_with (first
          | (at_builtin; refine wpList_append_rd _ rfl (.tmp 33) (.tmp 36) 23 rfl W6.heap.size 36 i1 (.agg #[.int .i64 0, .int .i64 0, .int .i64 0, .int .i64 0, .int .i64 0, .int .i64 0, .int .i64 0, .bool false, .bool false]) 9 64 Tryz.underlying23 hj hy0 hy1 hy2 rfl (by decide) (.slice none 0 0) 0 [] rfl (World.ownsRow_nil _ _ _ _) W6.heap.size Ao i co ((M.take i).flatMap stC) rfl HL1'.out (HRd.out.takeF stC_len i) (one_st _) HC1.out HC2.out (Nat.le_refl _) ?_; intro v7 w7 hown7 hgr7 _; have HO7 := Lib.hid hown7; have hb7 : Below W6.heap.size W6 w7 := (Below.refl _ _).grown hgr7 (Nat.le_refl _) (fun q e => by cases e); have HB7 := Lib.hid hb7; have HMd := Lib.hid ((HRd.out.to hb7 hb7.size).cutF stC_len (i + 1) hlt HCo.out); have HC9 := Lib.hid (show W6.heap.size ≤ w7.heap.size from hb7.size); clear hown7 hgr7 hb7)
          | (at_builtin; refine wpList_append_rd _ rfl (.tmp 38) (.tmp 42) 23 rfl W6.heap.size 36 i1 (.agg #[.int .i64 0, .int .i64 0, .int .i64 0, .int .i64 0, .int .i64 0, .int .i64 0, .int .i64 0, .bool false, .bool false]) 9 64 Tryz.underlying23 hj hy0 hy1 hy2 rfl (by decide) v7 _ _ rfl HO7.out w7.heap.size (cutAd 9 Ao co (i + 1)) (M.length - (i + 1)) (co - (i + 1)) ((M.drop (i + 1)).flatMap stC) rfl HL3'.out HMd.out (one_st _) HC6.out HC7.out HC9.out ?_; intro v9 w9 hown9 hgr9 _; have HO9 := Lib.hid hown9; have HB9 := Lib.hid (HB7.out.grown hgr9 HC9.out (fun q e => (HO7.out.lt q e).1)); clear hown9 hgr9))
        have HO10 := Lib.hid (show w9.ownsRow W1.heap.size 36 9 v9 (outN M i).length ((outN M i).flatMap stC) from by
          have h := owns_mono HO9.out HC3.out
          have e1 : (outN M i).length = 0 + i + (M.length - (i + 1)) := by rw [HOl.out]; omega
          have e2 : (outN M i).flatMap stC = [] ++ (M.take i).flatMap stC ++ (M.drop (i + 1)).flatMap stC := by unfold outN; rw [List.flatMap_append]; simp
          rw [e1, e2]
          exact h)
        obtain ⟨Ar, cr, rfl, hd1, hd2, hr10⟩ := rd_of_own HO10.out (by decide)
        have HMt2 := Lib.hid (matchedC19_any A1 Ar n1 (outN M i).length k1 cr house (outN M i) w9 hn1 (by rw [HOl.out]; omega) (HM1.out.to (HBw.out.tr HB9.out) (HBw.out.tr HB9.out).size) ⟨rfl, hr10, fun s hs => HM2.out.ok s (HSub.out s (HSo.out s hs))⟩ HF.out (fun s hs => HP.out s (HSub.out s (HSo.out s hs))))
        clear hd1 hd2 hr10 HO7 HO9 HMd
        have HLn := Lib.hid (HIf.out _ rfl)
        clear HIf
        generalize matchedB (fitOf (house.map RG.rm) (outN M i)) (house.map RG.rm).length (outN M i).length = bv at *
        refine HMt2.out.mono ?_
        rintro e w11 ⟨rfl, hb11⟩
        have HB11 := Lib.hid (HB.out.tr (HB9.out.tr hb11))
        cases bv
        · have HLn2 := Lib.hid (show leaveGo (house.map RG.rm) n (outN M i) i = Zm from HLn.out)
          have HO11 := Lib.hid (owns_keepH HO10.out hb11)
          have HIx := Lib.hid (show (outN M i).length - i < n from by have := HOl.out; omega)
          have HIy := Lib.hid (show i ≤ (outN M i).length from by have := HOl.out; omega)
          have HIz := Lib.hid (show (outN M i).length ≤ 3000 from by have := HOl.out; omega)
          have HIw := Lib.hid (show (outN M i).length - i < M.length - i from by have := HOl.out; omega)
          clear hb11 HLn
          go_wp2_with fail
          go_roundw
          case rel => exact ⟨outN M i, i, n, HIy.out, HIx.out, HLn2.out, fun s hs => HSub.out s (HSo.out s hs), HIz.out, by go_num, HO11.out, HB11.out⟩
          case measure =>
            simp only [intOf, lenOf, Int.toNat_natCast]
            exact HIw.out
        · have HLn2 := Lib.hid (show leaveGo (house.map RG.rm) n M (i + 1) = Zm from HLn.out)
          have HO11 := Lib.hid (owns_keepH (owns_keepH HO.out HB9.out) hb11)
          clear hb11 HLn
          go_wp2_with fail
          go_roundw
          case rel => exact ⟨M, i + 1, n, by omega, by omega, HLn2.out, HSub.out, hm3, by go_num, HO11.out, HB11.out⟩
          case measure => simp [intOf, lenOf]; omega
      have HMz := Lib.hid (show Zm = M from by
        rw [← HLg.out]
        obtain ⟨m, rfl⟩ : ∃ m, n = m + 1 := ⟨n - 1, by omega⟩
        rw [leaveGo, if_neg hlt])
      obtain rfl := HMz.out
      have HPs := Lib.hid (fun s (hs : s ∈ Zm) => HP.out s (HSub.out s hs))
      have HRr := Lib.hid ((HB.out.block w.heap.size (by rw [HS1.out]; omega)).trans HR0.out)
      clear HLg hin HMz HMt HB2 HB2w HO3 HB3 HLv hc1
      generalize Zm = M at *
      generalize wr = W0 at *
      go_upto_region 15 with fail
      have HBo := Lib.hid (alloc_b W0 (.cells #[.int .i64 1, .int .i64 when, .slice none 0 0, .slice none 0 0, .slice none 0 0] 29))
      have HPo := Lib.hid (World.alloc_heap_new W0 (.cells #[.int .i64 1, .int .i64 when, .slice none 0 0, .slice none 0 0, .slice none 0 0] 29))
      obtain ⟨X2, hX2⟩ : ∃ X, X = W0.alloc (.cells #[.int .i64 1, .int .i64 when, .slice none 0 0, .slice none 0 0, .slice none 0 0] 29) := ⟨_, rfl⟩
      rw [← hX2] at HBo HPo
      rw [← hX2]
      have hX2s : X2.heap.size = W0.heap.size + 1 := by rw [hX2]; simp
      have HXs := Lib.hid hX2s
      clear hX2 hX2s
      have HTb := Lib.hid (table19_any A1 Ao n1 M.length k1 co house M X2 hn1 hm3 (HM1.out.to (HBw.out.tr HBo.out) (HBw.out.tr HBo.out).size) ⟨rfl, HRd.out.to HBo.out HBo.out.size, fun s hs => HM2.out.ok s (HSub.out s hs)⟩ HF.out HPs.out)
      go_wp2_with fail
      refine HTb.out.mono ?_
      rintro e w5 ⟨At, ct, gs, hgs, rfl, _, _, hT, hb5, hnA, hnT, _⟩
      have HGs := Lib.hid hgs
      have hgl : gs.length = M.length := by
        have := congrArg List.length hgs
        rwa [List.length_map, tabOf, List.length_map] at this
      have HGl := Lib.hid hgl
      have HT5 := Lib.hid hT
      have HB5 := Lib.hid (HBo.out.tr hb5)
      have HP5 := Lib.hid ((hb5.block W0.heap.size (by rw [HXs.out]; omega)).trans HPo.out)
      have HNA := Lib.hid (fun ad (e : At = some ad) => show ad.block ≠ W0.heap.size from by have := hnA ad e; rw [HXs.out] at this; omega)
      have HNT := Lib.hid (fun t (ht : t ∈ gs) ad (e : t.A = some ad) => show ad.block ≠ W0.heap.size from by have := hnT t ht ad e; rw [HXs.out] at this; omega)
      have hb05 : W0.heap.size < w5.heap.size := by have := hb5.size; rw [HXs.out] at this; omega
      clear hgs hT hb5 hnA hnT HTb HPo HBo HXs hgl
      go_wp2_with fail
      generalize hbo : W0.heap.size = bo at *
      have HBoe := Lib.hid hbo
      have hwb : w.heap.size < bo := by have := HB.out.size; rw [HS1.out] at this; omega
      clear hbo
      go_loopw [13] (fun q wr => ∃ (j : Nat) (v : Value), j ≤ M.length ∧ q = .int .i64 j ∧ wr.heap[bo]? = some (.cells #[.int .i64 1, .int .i64 when, v, .slice none 0 0, .slice none 0 0] 29 (0, 0)) ∧ wr.ownsRow w5.heap.size 3 1 v j ((M.take j).map fun s => Value.int .i64 s.id) ∧ Chg w5.heap.size [bo] w5 wr) (fun q _ => M.length - (intOf q).toNat)
      case atStart => exact ⟨0, _, Nat.zero_le _, rfl, HP5.out, World.ownsRow_nil _ _ _ _, Chg.refl _ _ _⟩
      case round =>
        obtain ⟨j, v, hj2, rfl, hpb, hrow, hC⟩ := hrel
        have HPb := Lib.hid hpb
        have HRow := Lib.hid hrow
        have HC := Lib.hid hC
        have HB0r := Lib.hid (show Below bo W0 wr from HB5.out.trans (hC.toBelow (fun q hq => by simp at hq; omega) (by omega)))
        clear hpb hrow hC
        by_cases hlj : j < M.length
        · have HRdj := Lib.hid (HRd.out.below HB0r.out)
          obtain ⟨bx, ox, e, hbx, hcx⟩ := rd_at stC_len HRdj.out (by decide) (show 0 < M.length by omega)
          have d0 : wr.drew.cell? ⟨bx, ox + j * 9, none⟩ = some (.int .i64 M[j].id) := hcx j hlj 0 _ rfl
          subst e
          have HT := Lib.hid (show ((M.take (j + 1)).map fun s => Value.int .i64 s.id) = ((M.take j).map fun s => Value.int .i64 s.id) ++ [.int .i64 M[j].id] from by rw [List.take_succ_eq_append_getElem hlj, List.map_append]; rfl)
          clear hcx
          generalize M[j].id = xid at *
          go_upto_region 19 with fail
          have y0 : wr.drew.cell? ⟨bo, 2, none⟩ = some v := cell_of HPb.out 2
          have hpl : bo < wr.heap.size := (Array.getElem?_eq_some_iff.1 HPb.out).1
          have y1 : (wr.alloc (.cells #[.int .i64 xid] 3)).drew.cell? ⟨bo, 2, none⟩ = some v := (World.cell?_alloc_lt wr _ ⟨bo, 2, none⟩ hpl).trans (cell_of HPb.out 2)
          have HPb7 := Lib.hid (show (wr.alloc (.cells #[.int .i64 xid] 3)).drew.heap[bo]? = some (.cells #[.int .i64 1, .int .i64 when, v, .slice none 0 0, .slice none 0 0] 29 (0, 0)) from heap_old HPb.out)
          have HRow7 := Lib.hid (show (wr.alloc (.cells #[.int .i64 xid] 3)).drew.ownsRow w5.heap.size 3 1 v j ((M.take j).map fun s => Value.int .i64 s.id) from HRow.out.alloc _)
          have HC7 := Lib.hid (show Chg w5.heap.size [bo] w5 (wr.alloc (.cells #[.int .i64 xid] 3)).drew from (HC.out.alloc HC.out.size _).drew)
          have HNl := Lib.hid (show ∀ q u, ([.int .i64 xid] : List Value)[q]? = some u → (wr.alloc (.cells #[.int .i64 xid] 3)).drew.cell? ((⟨wr.heap.size, 0, none⟩ : Addr).add q) = some u from cell_lit_new wr #[.int .i64 xid] 3)
          have HC0 := Lib.hid (show ∀ u ∈ ([.int .i64 xid] : List Value), u.oneCell' = true from by simp [Value.oneCell'])
          have HC1 := Lib.hid (show j + 1 ≤ maxLen from by unfold maxLen; omega)
          have HC2 := Lib.hid (show (j + 1) * 8 ≤ 140737488355328 from by omega)
          have HZz := Lib.hid (show w5.heap.size ≤ (wr.alloc (.cells #[.int .i64 xid] 3)).drew.heap.size from HC7.out.size)
          have HNb := Lib.hid (show some bo ≠ v.ownBlock from fun e => by have := (HRow.out.lt bo e.symm).1; omega)
          go_region_law (first | (refine step_append_lies _ rfl (.tmp 62) (.tmp 68) 26 rfl w5.heap.size 3 i0 (.int .i64 0) 1 8 Tryz.underlying26 hi hz0 hz1 hz2 rfl (by decide) v j ((M.take j).map fun s => Value.int .i64 s.id) (by simp [Act.eval]) HRow7.out ⟨wr.heap.size, 0, none⟩ 1 1 [.int .i64 xid] (by simp [Act.eval]) rfl HNl.out HC0.out (by decide) HC1.out HC2.out HZz.out _ rfl ?_; intro g' cap w8 hown hgrow hat hltg; have HO8 := Lib.hid hown; have HC8 := Lib.hid (HC7.out.grown hgrow HC7.out.size (fun r e => .inr (HRow7.out.lt r e).1)); have HP8 := Lib.hid ((hgrow.block bo (Array.getElem?_eq_some_iff.1 HPb7.out).1 HNb.out).trans HPb7.out); have z1' := cell_of HP8.out 2; have zf' := frozen_of_row w8 bo 2 _ _ HP8.out; clear hown hgrow hat hltg))
          all_goals go_wp2_with fail
          all_goals go_roundw
          all_goals first
            | (case rel =>
                have hne : bo ≠ g' := fun e => by have := (HO8.out.lt g' rfl).1; omega
                have hgs : w8.grownBy (w8.setCell ⟨bo, 2, none⟩ (.slice (some ⟨g', 0, none⟩) (j + 1) cap)) (some bo) := ⟨rfl, rfl, rfl, by simp, fun k _ hne => Below.heap_setCell w8 ⟨bo, 2, none⟩ _ k (fun e => hne (by rw [e]))⟩
                exact ⟨j + 1, _, by omega, by go_num, heap_setCell_same w8 bo 2 _ _ _ HP8.out, by rw [HT.out]; exact HO8.out.kept hgs (.inr (fun e => hne (Option.some.inj e).symm)), HC8.out.grown hgs HC8.out.size (fun r e => .inl (by cases e; simp))⟩)
            | (case measure => simp [intOf]; omega)
            | skip
        obtain rfl : j = M.length := by omega
        have HRow5 := Lib.hid (show wr.ownsRow w5.heap.size 3 1 v M.length (M.map fun s => Value.int .i64 s.id) from by have := HRow.out; rwa [List.take_of_length_le (Nat.le_refl _)] at this)
        have HVb := Lib.hid (show v.ownBlock ≠ some bo from fun e => by have := (HRow5.out.lt bo e).1; omega)
        have hb6 : bo < wr.heap.size := by have := HC.out.size; omega
        have HKN := Lib.hid (show kindB M house 0 = false from by simp [kindB])
        clear HRow hlj hj2
        obtain ⟨vz, rfl⟩ : ∃ x : Value, x = v := ⟨_, rfl⟩
        generalize wr = W6 at *
        go_wp2_with fail
        go_loopw [14] (fun q wr => ∃ (q' : Nat) (v : Value), q' ≤ n1 ∧ q = .int .i64 q' ∧ wr.heap[bo]? = some (.cells #[.int .i64 (kindOf (kindB M house q')), .int .i64 when, vz, v, .slice none 0 0] 29 (0, 0)) ∧ wr.ownsRow W6.heap.size 3 1 v ((house.take q').filter fun x => M.any fun s => suitsB s x.rm).length (((house.take q').filter fun x => M.any fun s => suitsB s x.rm).map fun x => Value.int .i64 x.id) ∧ Chg W6.heap.size [bo] W6 wr) (fun q _ => n1 - (intOf q).toNat)
        case atStart => exact ⟨0, _, Nat.zero_le _, rfl, by rw [HKN.out]; exact HPb.out, World.ownsRow_nil _ _ _ _, Chg.refl _ _ _⟩
        case round =>
          clear HPb
          obtain ⟨q, v, hq, rfl, hpb, hrow, hC6⟩ := hrel
          have HPb := Lib.hid hpb
          have HRow := Lib.hid hrow
          have HC6 := Lib.hid hC6
          have HC56 := Lib.hid (HC.out.trans (hC6.mono HC.out.size))
          have HB0r := Lib.hid (show Below bo W0 wr from HB5.out.trans ((HC.out.trans (hC6.mono HC.out.size)).toBelow (fun q hq => by simp at hq; omega) (by omega)))
          clear hpb hrow hC6
          by_cases hlq : q < n1
          rotate_left
          · obtain rfl : q = n1 := by omega
            have HRp := Lib.hid ((HB0r.out.block w.heap.size hwb).trans HRr.out)
            have HBe := Lib.hid (HBw.out.trans (HB0r.out.mono (Nat.le_of_lt hwb)))
            obtain ⟨At2, ct2, rfl, _, _, _⟩ := rd_of_own HRow.out (by decide)
            have HRz2 := Lib.hid (HRow5.out.kept (HC6.out.grownBy (Nat.le_refl _) (fun q hq _ => by simpa using hq)) (.inr HVb.out))
            obtain ⟨Az, cz, rfl, _, _, _⟩ := rd_of_own HRz2.out (by decide)
            have hw5 : w.heap.size < w5.heap.size := by omega
            have hw6 : w.heap.size < W6.heap.size := by omega
            have HFin := Lib.hid (show rfOf (house.map RG.rm) S when Z T = ⟨kindOf (kindB M house q), when, M.map St.id, ((house.take q).filter fun x => M.any fun s => suitsB s x.rm).map RG.id⟩ from by rw [HRo.out, ref_end, HL1.out])
            generalize kindB M house q = kb at *
            have q0 := cell_of HPb.out 0
            have q1 := cell_of HPb.out 1
            have q2 := cell_of HPb.out 2
            have q3 := cell_of HPb.out 3
            have q4 := cell_of HPb.out 4
            have f0 := frozen_of_row wr w.heap.size 0 _ _ HRp.out
            have f1 := frozen_of_row wr w.heap.size 1 _ _ HRp.out
            have f2 := frozen_of_row wr w.heap.size 2 _ _ HRp.out
            have f3 := frozen_of_row wr w.heap.size 3 _ _ HRp.out
            have f4 := frozen_of_row wr w.heap.size 4 _ _ HRp.out
            have r0 := cell_of HRp.out 0
            have r1 := cell_of HRp.out 1
            have r2 := cell_of HRp.out 2
            have r3 := cell_of HRp.out 3
            have r4 := cell_of HRp.out 4
            go_wp2_with fail
            (try simp only [Exit.inBlock, Exit.then])
            refine bodyPost_ret (results_cell_row rfl _ _ _ _ _ _ _ (by rfl) (refusal_put wr w.heap.size _ _ _ _ _ _ _ _ _ _ HRp.out) Tryz.underlying29 rfl (by kernel_rfl)) rfl ?_
            rw [HFin.out]
            refine ⟨Az, M.length, cz, At2, _, ct2, rfl, by simp, by simp, ?_, ?_, ((((HBe.out.setCell (Nat.le_refl _) _).setCell (Nat.le_refl _) _).setCell (Nat.le_refl _) _).setCell (Nat.le_refl _) _).setCell (Nat.le_refl _) _, (fun ad e => by subst e; have := (HRz2.out.lt ad.block rfl).1; omega), (fun ad e => by subst e; have := (HRow.out.lt ad.block rfl).1; omega)⟩
            · obtain ⟨A, c, e, _, _, h⟩ := rd_of_own (ownsRow_setCell_below (a := ⟨w.heap.size, 4, none⟩) (ownsRow_setCell_below (a := ⟨w.heap.size, 3, none⟩) (ownsRow_setCell_below (a := ⟨w.heap.size, 2, none⟩) (ownsRow_setCell_below (a := ⟨w.heap.size, 1, none⟩) (ownsRow_setCell_below (a := ⟨w.heap.size, 0, none⟩) HRz2.out hw5 _) hw5 _) hw5 _) hw5 _) hw5 _) (by decide)
              cases e
              rw [show (M.map St.id).map (Value.int .i64) = M.map fun s => Value.int .i64 s.id from by rw [List.map_map]; rfl]
              exact h
            · obtain ⟨A, c, e, _, _, h⟩ := rd_of_own (ownsRow_setCell_below (a := ⟨w.heap.size, 4, none⟩) (ownsRow_setCell_below (a := ⟨w.heap.size, 3, none⟩) (ownsRow_setCell_below (a := ⟨w.heap.size, 2, none⟩) (ownsRow_setCell_below (a := ⟨w.heap.size, 1, none⟩) (ownsRow_setCell_below (a := ⟨w.heap.size, 0, none⟩) HRow.out hw6 _) hw6 _) hw6 _) hw6 _) hw6 _) (by decide)
              cases e
              rw [show (((house.take q).filter fun x => M.any fun s => suitsB s x.rm).map RG.id).map (Value.int .i64) = ((house.take q).filter fun x => M.any fun s => suitsB s x.rm).map fun x => Value.int .i64 x.id from by rw [List.map_map]; rfl]
              exact h
          have hql : q < house.length := by rw [HL1.out]; exact hlq
          have HK1 := Lib.hid (kindB_step (M := M) hql)
          have HYes := Lib.hid (fun h => rms_yes (M := M) hql h)
          have HNo := Lib.hid (fun h => rms_no (M := M) hql h)
          have HYl := Lib.hid (fun h => rln_yes (M := M) hql h)
          have HNl0 := Lib.hid (fun h => rln_no (M := M) hql h)
          have hrl := rms_len M house q
          have HCl := Lib.hid (cntS_le M house[q].rm)
          have HCs := Lib.hid (fun j (h : j < M.length) => cntS_step (M := M) (x := house[q].rm) h)
          have HTr := Lib.hid (HT5.out.chg HC56.out (Nat.le_refl _) HNA.out HNT.out)
          have HTf := Lib.hid (fun j (h : j < gs.length) (hk : q < gs[j].bs.length) (hm : j < M.length) => show gs[j].bs[q] = suitsB M[j] house[q].rm from by
            rw [← tfit_at h hk, tfit_tab HGs.out hm (by rw [List.length_map]; exact hql)]
            unfold fitOf
            rw [getD_list hm, getD_list (by rw [List.length_map]; exact hql), List.getElem_map])
          have HTl := Lib.hid (fun j (h : j < gs.length) => show gs[j].bs.length = n1 from by
            have h1 : gs[j].bs ∈ tabOf (house.map RG.rm) M := by rw [← HGs.out]; exact List.mem_map.2 ⟨_, List.getElem_mem h, rfl⟩
            obtain ⟨s, _, e⟩ := List.mem_map.1 h1
            rw [← e, List.length_map, List.length_map, HL1.out])
          have HCz := Lib.hid (show cntS M house[q].rm 0 = 0 from by simp [cntS])
          obtain ⟨b2, of2, rfl, hb2, hc2⟩ := HM1.out.at_ (show 0 < n1 by omega)
          have HId := Lib.hid (fun (W : World) (h : Below w.heap.size w W) => (h.cell (p := ⟨b2, of2 + q * 6, none⟩) hb2).trans (hc2 q hql).1)
          clear hc2
          generalize house[q] = x at *
          generalize (((house.take q).filter fun x => M.any fun s => suitsB s x.rm).map fun x => Value.int .i64 x.id) = rq at *
          generalize ((house.take q).filter fun x => M.any fun s => suitsB s x.rm).length = ln at *
          generalize kindB M house q = kb at *
          obtain ⟨Wq, rfl⟩ : ∃ x : World, x = wr := ⟨_, rfl⟩
          go_wp2_with fail
          go_loopw [15, 16] (fun m i wx => ∃ j : Nat, j ≤ M.length ∧ i = .int .i64 j ∧ m = .int .i64 (cntS M x.rm j : Nat) ∧ wx = Wq) (fun _ i _ => M.length - (intOf i).toNat)
          case atStart => exact ⟨0, Nat.zero_le _, rfl, by rw [HCz.out]; rfl, rfl⟩
          case round =>
            obtain ⟨j, hj3, rfl, rfl, rfl⟩ := hrel
            by_cases hlj : j < M.length
            · have hjg : j < gs.length := by rw [HGl.out]; exact hlj
              obtain ⟨bt, ot, rfl, hbt, hct⟩ := HTr.out.at_ (show 0 < gs.length by omega)
              have hc0 := hct j hjg
              have hok := HTr.out.ok _ (List.getElem_mem hjg)
              have hbl := HTl.out j hjg
              have hkb : q < gs[j].bs.length := by rw [hbl]; exact hlq
              have hln : gs[j].n = n1 := by rw [← hok.len, hbl]
              obtain ⟨b3, o3, eA, hb3, hc3⟩ := rd_bool hok.rd q hkb
              rw [eA, hln] at hc0
              have HFb := Lib.hid (HTf.out j hjg hkb hlj)
              have HCj := Lib.hid (HCs.out j hlj)
              have hcl := HCl.out j
              have hgl := HGl.out
              have hjg2 : j < gs.length := hjg
              clear hct hok hbl hln eA hgl
              generalize gs[j].c = cc at *
              generalize gs[j].bs[q] = fb at *
              generalize suitsB M[j] x.rm = sb at *
              have hfb := HFb.out
              subst hfb
              cases fb
              · have HC1 := Lib.hid (show cntS M x.rm (j + 1) = cntS M x.rm j from by rw [HCj.out]; simp)
                generalize cntS M x.rm j = cj at *
                go_wp2_with fail
                go_roundw
                case rel => exact ⟨j + 1, by omega, by go_num, by rw [HC1.out], trivial⟩
                case measure => simp [intOf]; omega
              · have HC1 := Lib.hid (show cntS M x.rm (j + 1) = cntS M x.rm j + 1 from by rw [HCj.out]; simp)
                generalize cntS M x.rm j = cj at *
                go_wp2_with fail
                go_roundw
                case rel => exact ⟨j + 1, by omega, by go_num, by rw [HC1.out]; go_num, trivial⟩
                case measure => simp [intOf]; omega
            obtain rfl : j = M.length := by omega
            have hcl := HCl.out M.length
            clear HCs HTf HTl HCz HCl hlj hj3
            generalize cntS M x.rm M.length = cn at *
            by_cases hcn : cn = 0
            · have t0 : decide ((0 : Int) < (cn : Int)) = false := decide_eq_false (by omega)
              have t1 : decide (0 < cn) = false := decide_eq_false (by omega)
              have HK2 := Lib.hid (show kindB M house (q + 1) = kb from by rw [HK1.out, t1]; simp)
              have HR2 := Lib.hid (HNo.out hcn)
              have HL2' := Lib.hid (HNl0.out hcn)
              clear hcn HK1 HYes HNo HYl HNl0
              go_wp2_with fail
              go_roundw
              case rel => exact ⟨q + 1, v, by omega, by go_num, by rw [HK2.out]; exact HPb.out, by rw [HL2'.out, HR2.out]; exact HRow.out, HC6.out⟩
              case measure => simp [intOf]; omega
            have hcp : 0 < cn := by omega
            have t0 : decide ((0 : Int) < (cn : Int)) = true := decide_eq_true (by omega)
            have t1 : decide (0 < cn) = true := decide_eq_true (by omega)
            have HR2 := Lib.hid (HYes.out hcp)
            have HL2' := Lib.hid (HYl.out hcp)
            have c0 : wr.drew.cell? ⟨b2, of2 + q * 6, none⟩ = some (.int .i64 x.id) := by
              have := HId.out wr (HBw.out.tr (by rw [HBoe.out]; exact HB0r.out))
              exact this
            clear hcn hcp HYes HNo HYl HNl0
            generalize x.id = xid at *
            go_upto_region 30 with fail
            go_cut [] from 94 to 103 (fun wx => ∃ g' cap : Nat, wx.heap[bo]? = some (.cells #[.int .i64 (kindOf kb), .int .i64 when, vz, (.slice (some ⟨g', 0, none⟩) (ln + 1) cap), .slice none 0 0] 29 (0, 0)) ∧ wx.ownsRow W6.heap.size 3 1 (.slice (some ⟨g', 0, none⟩) (ln + 1) cap) (ln + 1) (rq ++ [.int .i64 xid]) ∧ Chg W6.heap.size [bo] W6 wx)
            case first =>
              have y0 : wr.drew.cell? ⟨bo, 3, none⟩ = some v := cell_of HPb.out 3
              have hpl : bo < wr.heap.size := (Array.getElem?_eq_some_iff.1 HPb.out).1
              have y1 : (wr.alloc (.cells #[.int .i64 xid] 3)).drew.cell? ⟨bo, 3, none⟩ = some v := (World.cell?_alloc_lt wr _ ⟨bo, 3, none⟩ hpl).trans (cell_of HPb.out 3)
              have HPb7 := Lib.hid (show (wr.alloc (.cells #[.int .i64 xid] 3)).drew.heap[bo]? = some (.cells #[.int .i64 (kindOf kb), .int .i64 when, vz, v, .slice none 0 0] 29 (0, 0)) from heap_old HPb.out)
              have HRow7 := Lib.hid (show (wr.alloc (.cells #[.int .i64 xid] 3)).drew.ownsRow W6.heap.size 3 1 v ln rq from HRow.out.alloc _)
              have HC7 := Lib.hid (show Chg W6.heap.size [bo] W6 (wr.alloc (.cells #[.int .i64 xid] 3)).drew from (HC6.out.alloc HC6.out.size _).drew)
              have HNl := Lib.hid (show ∀ q u, ([.int .i64 xid] : List Value)[q]? = some u → (wr.alloc (.cells #[.int .i64 xid] 3)).drew.cell? ((⟨wr.heap.size, 0, none⟩ : Addr).add q) = some u from cell_lit_new wr #[.int .i64 xid] 3)
              have HC0 := Lib.hid (show ∀ u ∈ ([.int .i64 xid] : List Value), u.oneCell' = true from by simp [Value.oneCell'])
              have HC1 := Lib.hid (show ln + 1 ≤ maxLen from by unfold maxLen; omega)
              have HC2 := Lib.hid (show (ln + 1) * 8 ≤ 140737488355328 from by omega)
              have HZz := Lib.hid (show W6.heap.size ≤ (wr.alloc (.cells #[.int .i64 xid] 3)).drew.heap.size from HC7.out.size)
              have HNb := Lib.hid (show some bo ≠ v.ownBlock from fun e => by have := (HRow.out.lt bo e.symm).1; omega)
              go_region_law (first | (refine step_append_lies _ rfl (.tmp 95) (.tmp 101) 26 rfl W6.heap.size 3 i0 (.int .i64 0) 1 8 Tryz.underlying26 hi hz0 hz1 hz2 rfl (by decide) v ln rq (by simp [Act.eval]) HRow7.out ⟨wr.heap.size, 0, none⟩ 1 1 [.int .i64 xid] (by simp [Act.eval]) rfl HNl.out HC0.out (by decide) HC1.out HC2.out HZz.out _ rfl ?_; intro g' cap w8 hown hgrow hat hltg; have HO8 := Lib.hid hown; have HC8 := Lib.hid (HC7.out.grown hgrow HC7.out.size (fun r e => .inr (HRow7.out.lt r e).1)); have HP8 := Lib.hid ((hgrow.block bo (Array.getElem?_eq_some_iff.1 HPb7.out).1 HNb.out).trans HPb7.out); have z1' := cell_of HP8.out 3; have zf' := frozen_of_row w8 bo 3 _ _ HP8.out; clear hown hgrow hat hltg))
              all_goals go_wp2_with fail
              all_goals go_meet
              all_goals have hne : bo ≠ g' := fun e => by all_goals have := (HO8.out.lt g' rfl).1; omega
              all_goals have hgs : w8.grownBy (w8.setCell ⟨bo, 3, none⟩ (.slice (some ⟨g', 0, none⟩) (ln + 1) cap)) (some bo) := ⟨rfl, rfl, rfl, by simp, fun k _ hne => Below.heap_setCell w8 ⟨bo, 3, none⟩ _ k (fun e => hne (by rw [e]))⟩
              all_goals have hp9 := heap_setCell_same w8 bo 3 _ _ (.slice (some ⟨g', 0, none⟩) (ln + 1) cap) HP8.out
              all_goals have ho9 := HO8.out.kept hgs (.inr (fun e => hne (Option.some.inj e).symm))
              all_goals have hc9 := HC8.out.grown hgs HC8.out.size (fun r e => .inl (by cases e; simp))
              all_goals exact ⟨g', cap, hp9, ho9, hc9⟩
            case rest =>
              obtain ⟨g', cap, hp9, ho9, hc9⟩ := hcut
              have HP9 := Lib.hid hp9
              have HO9 := Lib.hid ho9
              have HC9 := Lib.hid hc9
              clear hp9 ho9 hc9
              generalize wc = X9 at *
              by_cases hfull : cn < M.length
              · have t2 : decide ((cn : Int) < (M.length : Int)) = true := decide_eq_true (by omega)
                have t3 : decide (cn < M.length) = true := decide_eq_true hfull
                have HK2 := Lib.hid (show kindB M house (q + 1) = true from by rw [HK1.out, t1, decide_eq_false (by omega)]; simp)
                have f9 := frozen_of_row X9 bo 0 _ _ HP9.out
                have y9 := cell_of HP9.out 0
                clear hfull HK1
                go_wp2_with fail
                go_roundw
                case rel =>
                  have hne : bo ≠ g' := fun e => by have := (HO9.out.lt g' rfl).1; omega
                  have hgs : X9.grownBy (X9.setCell ⟨bo, 0, none⟩ (.int .i64 2)) (some bo) := ⟨rfl, rfl, rfl, by simp, fun k _ hne => Below.heap_setCell X9 ⟨bo, 0, none⟩ _ k (fun e => hne (by rw [e]))⟩
                  exact ⟨q + 1, _, by omega, by go_num, by rw [HK2.out]; exact heap_setCell_same X9 bo 0 _ _ _ HP9.out, by rw [HL2'.out, HR2.out]; exact HO9.out.kept hgs (.inr (fun e => hne (Option.some.inj e).symm)), HC9.out.grown hgs HC9.out.size (fun r e => .inl (by cases e; simp))⟩
                case measure => simp [intOf]; omega
              · have t2 : decide ((cn : Int) < (M.length : Int)) = false := decide_eq_false (by omega)
                have t3 : decide (cn < M.length) = false := decide_eq_false hfull
                have HK2 := Lib.hid (show kindB M house (q + 1) = kb from by rw [HK1.out, decide_eq_true (show cn = M.length by omega)]; simp)
                clear hfull HK1
                go_wp2_with fail
                go_roundw
                case rel => exact ⟨q + 1, _, by omega, by go_num, by rw [HK2.out]; exact HP9.out, by rw [HL2'.out, HR2.out]; exact HO9.out, HC9.out⟩
                case measure => simp [intOf]; omega


end Go.Proofs.YtdhhcbkldfdbbaaGreat

/-
  The references of layers 16 and 17: whether rooms, a stay, stays are well-formed. Printed by gen_refc.py.
-/
namespace Go.Proofs.YtdhhcbkldfdbbaaGreat
open Go.RowKit Go.Shelf Go.Sort

set_option maxRecDepth 100000 in
set_option maxHeartbeats 8000000 in
theorem valid16_any (A : Option Addr) (n c : Nat) (l : List RG) (w : World) (hn : n ≤ 9223372036854775807) (hM : Rms w w.heap.size A n l) :
    Calls Tryz.prog 22 #[.slice A n c] w fun e w' => e = .returned (.bool (roomsB (l.map RG.rm))) ∧ Below w.heap.size w w' := by
  have HL := Lib.hid hM.len
  have HM := Lib.hid hM
  have HAll := Lib.hid (roomsB_at (l := l))
  clear hM
  by_cases h4 : 400 < n
  · have d4 : decide ((400 : Int) < (n : Int)) = true := decide_eq_true (by omega)
    have HF := Lib.hid (show roomsB (l.map RG.rm) = false from by
      cases h : roomsB (l.map RG.rm)
      · rfl
      · have := (HAll.out.1 h).1; rw [HL.out] at this; omega)
    clear h4
    go_enter Tryz.func22, Tryz.ntmps22
    go_wp2_with fail
    go_ret
    exact ⟨by rw [HF.out]; rfl, Below.refl _ _⟩
  have d4 : decide ((400 : Int) < (n : Int)) = false := decide_eq_false (by omega)
  have HBad := Lib.hid (show ∀ (k : Nat) (hk : k < l.length), ¬ RoomAt l k l[k] → roomsB (l.map RG.rm) = false from fun k hk h => by
    cases hh : roomsB (l.map RG.rm)
    · rfl
    · exact absurd ((HAll.out.1 hh).2 k hk) h)
  have HIx := Lib.hid (fun (x : Int) W (h : Below w.heap.size w W) => index16_any A n c x l W hn (HM.out.to h h.size))
  have HG := Lib.hid (fun (h : 0 < n) => HM.out.at_ h)
  go_enter Tryz.func22, Tryz.ntmps22
  go_wp2_with fail
  go_loopw [3] (fun i wr => ∃ k : Nat, k ≤ n ∧ i = .int .i64 k ∧ (∀ (j : Nat) (hj : j < l.length), j < k → RoomAt l j l[j]) ∧ Below w.heap.size w wr) (fun i _ => n - (intOf i).toNat)
  case atStart => exact ⟨0, Nat.zero_le _, rfl, fun j hj h => absurd h (by omega), Below.refl _ _⟩
  case round =>
    obtain ⟨k, hk, rfl, hall, hB⟩ := hrel
    have HA := Lib.hid hall
    have HB := Lib.hid hB
    clear hall hB
    by_cases hlt : k < n
    · have hkl : k < l.length := by rw [HL.out]; exact hlt
      obtain ⟨bb, off, rfl, hbb, hcc⟩ := HG.out (by omega)
      have HC := Lib.hid (fun (W : World) (h : Below w.heap.size w W) (i : Nat) (hi : i < l.length) => show W.cell? ⟨bb, off + i * 6, none⟩ = some (.int .i64 l[i].id) ∧ W.cell? ⟨bb, off + i * 6 + 1, none⟩ = some (.int .i64 l[i].house) ∧ W.cell? ⟨bb, off + i * 6 + 2, none⟩ = some (.int .i64 l[i].kind) ∧ W.cell? ⟨bb, off + i * 6 + 3, none⟩ = some (.int .i64 l[i].joins) ∧ W.cell? ⟨bb, off + i * 6 + 4, none⟩ = some (.bool l[i].access) ∧ W.cell? ⟨bb, off + i * 6 + 5, none⟩ = some (.slice l[i].A l[i].n l[i].c) from by
        obtain ⟨c0, c1, c2, c3, c4, c5⟩ := hcc i hi
        exact ⟨(h.cell (p := ⟨bb, off + i * 6, none⟩) hbb).trans c0, (h.cell (p := ⟨bb, off + i * 6 + 1, none⟩) hbb).trans c1, (h.cell (p := ⟨bb, off + i * 6 + 2, none⟩) hbb).trans c2, (h.cell (p := ⟨bb, off + i * 6 + 3, none⟩) hbb).trans c3, (h.cell (p := ⟨bb, off + i * 6 + 4, none⟩) hbb).trans c4, (h.cell (p := ⟨bb, off + i * 6 + 5, none⟩) hbb).trans c5⟩)
      have HGo := Lib.hid (show RoomAt l k l[k] → ∀ (j : Nat) (hj : j < l.length), j < k + 1 → RoomAt l j l[j] from fun h j hj hjk => by
        rcases Nat.lt_or_ge j k with h1 | h1
        · exact HA.out j hj h1
        · have : j = k := by omega
          subst this
          exact h)
      have HNo := Lib.hid (HBad.out k hkl)
      have HRA := Lib.hid (roomAt_iff (l := l) (k := k) (r := l[k]))
      have HRo := Lib.hid (fun W (h : Below w.heap.size w W) => room16_any l[k] W ((HM.out.ok _ (List.getElem_mem hkl)).to h h.size))
      have HCk := Lib.hid (fun (W : World) (h : Below w.heap.size w W) => HC.out W h k hkl)
      clear hcc
      generalize l[k] = r at *
      obtain ⟨c0, c1, c2, c3, c4, c5⟩ := HCk.out _ HB.out
      cases hf : formedB r.rm
      · have HF := Lib.hid (HNo.out fun h => by have := (HRA.out.1 h).1; rw [hf] at this; cases this)
        have HRo' := Lib.hid (fun W h => by have := HRo.out W h; rewrite [hf] at this; exact this)
        clear HRo hf
        go_wp2_with fail
        refine (HRo'.out _ HB.out).mono ?_
        rintro e w4 ⟨rfl, hb⟩
        have HB4 := Lib.hid (HB.out.tr hb)
        clear hb
        go_wp2_with fail
        go_ret
        exact ⟨by rw [HF.out]; rfl, HB4.out⟩
      have HRo' := Lib.hid (fun W h => by have := HRo.out W h; rewrite [hf] at this; exact this)
      have HF1 := Lib.hid hf
      clear HRo hf
      go_wp2_with fail
      refine (HRo'.out _ HB.out).mono ?_
      rintro e w4 ⟨rfl, hb⟩
      have HB4w := Lib.hid (HB.out.tr hb)
      clear hb c0 c1 c2 c3 c4 c5
      obtain ⟨c0, c1, c2, c3, c4, c5⟩ := HCk.out _ HB4w.out
      obtain ⟨ix, hix⟩ : ∃ ix, idxOf (l.map RG.id) r.id = ix := ⟨_, rfl⟩
      have HI1 := Lib.hid (fun W h => by have := HIx.out r.id W h; rewrite [hix] at this; exact this)
      by_cases hik : ix = k
      rotate_left
      · have hne : (ix != (k : Int)) = true := by simpa using hik
        have HF := Lib.hid (HNo.out fun h => hik (hix ▸ (HRA.out.1 h).2.1))
        clear hik hix
        go_wp2_with (go_at_call 62; refine (HI1.out _ HB4w.out).mono ?_; rintro e w5 ⟨rfl, hb⟩; have HB5w := Lib.hid (HB4w.out.tr hb); clear hb)
        go_ret
        exact ⟨by rw [HF.out]; rfl, HB5w.out⟩
      subst hik
      have HIk := Lib.hid hix
      clear hix
      by_cases hj0 : r.joins = 0
      · have hj1 : (r.joins == 0) = true := by simpa using hj0
        have HX := Lib.hid (HGo.out (HRA.out.2 ⟨HF1.out, HIk.out, .inl hj0⟩))
        clear hj0
        go_wp2_with (go_at_call 62; refine (HI1.out _ HB4w.out).mono ?_; rintro e w5 ⟨rfl, hb⟩; have HB5w := Lib.hid (HB4w.out.tr hb); clear hb c0 c1 c2 c3 c4 c5; obtain ⟨c0, c1, c2, c3, c4, c5⟩ := HCk.out _ HB5w.out)
        go_roundw
        case rel => exact ⟨k + 1, by omega, by go_num, HX.out, HB5w.out⟩
        case measure => simp [intOf]; omega
      have hj1 : (r.joins == 0) = false := by simpa using hj0
      go_upto_region 9 with (go_at_call 62; refine (HI1.out _ HB4w.out).mono ?_; rintro e w5 ⟨rfl, hb⟩; have HB5w := Lib.hid (HB4w.out.tr hb); clear hb c0 c1 c2 c3 c4 c5)
      obtain ⟨c0, c1, c2, c3, c4, c5⟩ := HCk.out _ HB5w.out
      clear HI1
      go_wp2_with fail
      rcases idx_cases (l.map RG.id) r.joins with hq | ⟨q, hql, hq⟩
      · have HF := Lib.hid (HNo.out fun h => by
          rcases (HRA.out.1 h).2.2 with h1 | ⟨k', o', _, e, _⟩
          · exact hj0 h1
          · rw [hq] at e; omega)
        have HI2 := Lib.hid (fun W h => by have := HIx.out r.joins W h; rewrite [hq] at this; exact this)
        clear hq hj0
        refine (HI2.out _ HB5w.out).mono ?_
        rintro e w6 ⟨rfl, hb⟩
        have HB6w := Lib.hid (HB5w.out.tr hb)
        clear hb
        have m1 : decide ((-1 : Int) < 0) = true := rfl
        go_wp2_with fail
        refine region_below (by kernel_rfl) (by kernel_rfl) ?_
        repeat (first | go_big_quiet_step (fail) | quiet_step (fail))
        refine wpQuiet_nil ?_
        rintro w7 ⟨⟨X3, hb⟩, e2⟩
        have e3 : w7 = X3 := e2
        subst e3
        clear e2
        have HB7w := Lib.hid (HB6w.out.tr hb)
        clear hb
        go_wp2_with fail
        go_ret
        exact ⟨by rw [HF.out]; rfl, HB7w.out⟩
      rw [List.length_map] at hql
      have hqn : q < n := by rw [← HL.out]; exact hql
      have hkn : k < n := by rw [← HL.out]; exact hkl
      have hn400 : n ≤ 400 := by omega
      have HAtq := Lib.hid (show ∀ (k' : Nat) (o' : RG), l[k']? = some o' → idxOf (l.map RG.id) r.joins = k' → o' = l[q] from fun k' o' h1 h2 => by
        have : k' = q := by omega
        subst this
        obtain ⟨_, e⟩ := List.getElem?_eq_some_iff.1 h1
        exact e.symm)
      have HGq := Lib.hid (show l[q]? = some l[q] from List.getElem?_eq_getElem hql)
      have HCq := Lib.hid (fun (W : World) (h : Below w.heap.size w W) => HC.out W h q hql)
      generalize l[q] = o at *
      have HI2 := Lib.hid (fun W h => by have := HIx.out r.joins W h; rewrite [hq] at this; exact this)
      have HQ := Lib.hid hq
      have m0 : decide ((q : Int) < 0) = false := decide_eq_false (by omega)
      clear hq
      refine (HI2.out _ HB5w.out).mono ?_
      rintro e w6 ⟨rfl, hb⟩
      have HB6w := Lib.hid (HB5w.out.tr hb)
      clear hb c0 c1 c2 c3 c4 c5
      obtain ⟨c0, c1, c2, c3, c4, c5⟩ := HCk.out _ HB6w.out
      obtain ⟨g0, g1, g2, g3, g4, g5⟩ := HCq.out _ HB6w.out
      have hb6 : bb < w6.heap.size := Nat.lt_of_lt_of_le hbb HB6w.out.size
      have f0 : ∀ p : Kp w6, p.x.cell? ⟨bb, off + k * 6, none⟩ = some (.int .i64 r.id) := kp_cell hb6 c0
      have f1 : ∀ p : Kp w6, p.x.cell? ⟨bb, off + k * 6 + 1, none⟩ = some (.int .i64 r.house) := kp_cell hb6 c1
      have i1 : ∀ p : Kp w6, p.x.cell? ⟨bb, off + q * 6 + 1, none⟩ = some (.int .i64 o.house) := kp_cell hb6 g1
      have i3 : ∀ p : Kp w6, p.x.cell? ⟨bb, off + q * 6 + 3, none⟩ = some (.int .i64 o.joins) := kp_cell hb6 g3
      clear c0 c1 c2 c3 c4 c5 g0 g1 g2 g3 g4 g5
      by_cases hh : o.house = r.house
      rotate_left
      · have hhb : (o.house != r.house) = true := by simpa using hh
        have HF := Lib.hid (HNo.out fun h => by
          rcases (HRA.out.1 h).2.2 with h1 | ⟨k', o', h1, h2, h3, _⟩
          · exact hj0 h1
          · exact hh (HAtq.out k' o' h1 h2 ▸ h3))
        clear hh hj0
        go_wp2_with fail
        refine region_below (by kernel_rfl) (by kernel_rfl) ?_
        repeat (first | go_big_quiet_step (fail) | quiet_step (fail))
        refine wpQuiet_nil ?_
        rintro w7 ⟨⟨X3, hb⟩, e2⟩
        have e3 : w7 = X3 := e2
        subst e3
        clear e2
        have HB7w := Lib.hid (HB6w.out.tr hb)
        clear hb f0 f1 i1 i3
        go_wp2_with fail
        go_ret
        exact ⟨by rw [HF.out]; rfl, HB7w.out⟩
      have hhb : (o.house != r.house) = false := by simpa using hh
      by_cases hg : o.joins = r.id
      rotate_left
      · have hgb : (o.joins != r.id) = true := by simpa using hg
        have HF := Lib.hid (HNo.out fun h => by
          rcases (HRA.out.1 h).2.2 with h1 | ⟨k', o', h1, h2, _, h3⟩
          · exact hj0 h1
          · exact hg (HAtq.out k' o' h1 h2 ▸ h3))
        clear hh hg hj0
        go_wp2_with fail
        refine region_below (by kernel_rfl) (by kernel_rfl) ?_
        repeat (first | go_big_quiet_step (fail) | quiet_step (fail))
        refine wpQuiet_nil ?_
        rintro w7 ⟨⟨X3, hb⟩, e2⟩
        have e3 : w7 = X3 := e2
        subst e3
        clear e2
        have HB7w := Lib.hid (HB6w.out.tr hb)
        clear hb f0 f1 i1 i3
        go_wp2_with fail
        go_ret
        exact ⟨by rw [HF.out]; rfl, HB7w.out⟩
      have hgb : (o.joins != r.id) = false := by simpa using hg
      have HX := Lib.hid (HGo.out (HRA.out.2 ⟨HF1.out, HIk.out, .inr ⟨q, o, HGq.out, HQ.out, hh, hg⟩⟩))
      clear hh hg hj0
      go_wp2_with fail
      refine region_below (by kernel_rfl) (by kernel_rfl) ?_
      repeat (first | go_big_quiet_step (fail) | quiet_step (fail))
      refine wpQuiet_nil ?_
      rintro w7 ⟨⟨X3, hb⟩, e2⟩
      have e3 : w7 = X3 := e2
      subst e3
      clear e2
      have HB7w := Lib.hid (HB6w.out.tr hb)
      clear hb f0 f1 i1 i3
      go_wp2_with fail
      go_roundw
      case rel => exact ⟨k + 1, by omega, by go_num, HX.out, HB7w.out⟩
      case measure => simp [intOf]; omega
    · have HX := Lib.hid (show roomsB (l.map RG.rm) = true from HAll.out.2 ⟨by rw [HL.out]; omega, fun i hi => HA.out i hi (by rw [HL.out] at hi; omega)⟩)
      go_wp2_with fail
      go_ret
      exact ⟨by rw [HX.out]; rfl, HB.out⟩

end Go.Proofs.YtdhhcbkldfdbbaaGreat

/-
  The reference of layer 19: right, Match: what it returns is what hall.Match returns.
-/
namespace Go.Proofs.YtdhhcbkldfdbbaaGreat
open Go.RowKit Go.Shelf Go.Sort
open Hall

attribute [local go_sem] Oper.semAt_some

theorem right19_any (A1 A2 : Option Addr) (n1 n2 k1 k2 : Nat) (house : List RG) (l : List St) (w : World) (hn1 : n1 ≤ 9223372036854775807) (hn2 : n2 ≤ 9223372036854775807) (hM1 : Rms w w.heap.size A1 n1 house) (hM2 : Sts w w.heap.size A2 n2 l) :
    Calls Tryz.prog 173 #[.slice A1 n1 k1, .slice A2 n2 k2] w fun e w' => e = .returned (.bool (roomsB (house.map RG.rm) && staysB l)) ∧ Below w.heap.size w w' := by
  have HV1 := Lib.hid (valid16_any A1 n1 k1 house w hn1 hM1)
  have HV2 := Lib.hid (fun (W : World) (h : Below w.heap.size w W) => valid17_any A2 n2 k2 l W hn2 (hM2.below h))
  clear hM1 hM2
  generalize roomsB (house.map RG.rm) = b1 at *
  generalize staysB l = b2 at *
  cases b1 <;> cases b2
  all_goals
    go_enter Tryz.func173, Tryz.ntmps173
    go_wp2_with fail
    refine HV1.out.mono ?_
    rintro e w1 ⟨rfl, hb⟩
    have HB := Lib.hid hb
    clear hb
    go_wp2_with fail
    refine (HV2.out _ HB.out).mono ?_
    rintro e w2 ⟨rfl, hb2⟩
    have HB2 := Lib.hid (HB.out.tr hb2)
    clear hb2
    go_wp2_with fail
    go_ret
    exact ⟨rfl, HB2.out⟩

theorem onlyT_at {rows : List (List Bool)} {i k j x nr : Nat} (hi : i < rows.length) (hj : j < rows.length) (hr : ∀ r ∈ rows, r.length = nr) (hx : x < nr) : ((onlyT rows i k).getD j []).getD x false = if j = i then decide (x = k) else (rows.getD j []).getD x false := by
  have hl : (rows.getD i []).length = nr := by
    have : rows.getD i [] = rows[i] := by simp [hi]
    rw [this]; exact hr _ (List.getElem_mem hi)
  unfold onlyT
  rw [hl]
  rcases Nat.lt_trichotomy j i with h | h | h
  · rw [if_neg (by omega)]
    have : (rows.take i ++ ((List.range nr).map fun x => decide (x = k)) :: rows.drop (i + 1)).getD j [] = rows.getD j [] := by
      simp only [List.getD_eq_getElem?_getD]
      rw [List.getElem?_append_left (by rw [List.length_take]; omega), List.getElem?_take, if_pos h]
    rw [this]
  · subst h
    rw [if_pos rfl]
    have : (rows.take j ++ ((List.range nr).map fun x => decide (x = k)) :: rows.drop (j + 1)).getD j [] = (List.range nr).map fun x => decide (x = k) := by
      simp only [List.getD_eq_getElem?_getD]
      rw [List.getElem?_append_right (by rw [List.length_take]; omega), List.length_take, Nat.min_eq_left (by omega), Nat.sub_self]
      rfl
    rw [this]
    simp [hx]
  · rw [if_neg (by omega)]
    have : (rows.take i ++ ((List.range nr).map fun x => decide (x = k)) :: rows.drop (i + 1)).getD j [] = rows.getD j [] := by
      simp only [List.getD_eq_getElem?_getD]
      rw [List.getElem?_append_right (by rw [List.length_take]; omega), List.length_take, Nat.min_eq_left (by omega)]
      obtain ⟨m, hm⟩ : ∃ m, j - i = m + 1 := ⟨j - i - 1, by omega⟩
      rw [hm, List.getElem?_cons_succ, List.getElem?_drop, show i + 1 + m = j by omega]
    rw [this]
theorem onlyT_len {rows : List (List Bool)} {i k nr : Nat} (hi : i < rows.length) (hr : ∀ r ∈ rows, r.length = nr) : (onlyT rows i k).length = rows.length ∧ ∀ r ∈ onlyT rows i k, r.length = nr := by
  have hl : (rows.getD i []).length = nr := by
    have : rows.getD i [] = rows[i] := by simp [hi]
    rw [this]; exact hr _ (List.getElem_mem hi)
  refine ⟨by unfold onlyT; rw [List.length_append, List.length_cons, List.length_take, List.length_drop]; omega, fun r h => ?_⟩
  unfold onlyT at h
  rcases List.mem_append.1 h with h | h
  · exact hr r (List.mem_of_mem_take h)
  · rcases List.mem_cons.1 h with rfl | h
    · rw [List.length_map, List.length_range, hl]
    · exact hr r (List.mem_of_mem_drop h)
/-- A table of which row i fits room k alone. -/
theorem tfit_only {gs gs' : List TG} {i k nr : Nat} (h : gs'.map TG.bs = onlyT (gs.map TG.bs) i k) (hi : i < gs.length) (hr : ∀ t ∈ gs, t.bs.length = nr) : gs'.length = gs.length ∧ (∀ t ∈ gs', t.bs.length = nr) ∧ ∀ j x, j < gs.length → x < nr → tfit gs' j x = onlyF (tfit gs) i k j x := by
  have hr' : ∀ r ∈ gs.map TG.bs, r.length = nr := fun r hr2 => by
    obtain ⟨t, ht, rfl⟩ := List.mem_map.1 hr2
    exact hr t ht
  have hl := onlyT_len (k := k) (show i < (gs.map TG.bs).length by rw [List.length_map]; exact hi) hr'
  rw [← h] at hl
  refine ⟨by simpa using hl.1, fun t ht => hl.2 _ (List.mem_map.2 ⟨t, ht, rfl⟩), fun j x hj hx => ?_⟩
  unfold tfit onlyF
  rw [h]
  exact onlyT_at (by rw [List.length_map]; exact hi) (by rw [List.length_map]; exact hj) hr' hx
theorem onlyF_congr {fit fit' : Nat → Nat → Bool} {i k n nr : Nat} (h : ∀ j x, j < n → x < nr → fit j x = fit' j x) : ∀ j x, j < n → x < nr → onlyF fit i k j x = onlyF fit' i k j x := fun j x hj hx => by
  unfold onlyF
  rw [h j x hj hx]
/-- The table of the rows that have their rooms. -/
structure TabAt (R : List Rm) (S : List St) (ks : List Nat) (gs : List TG) : Prop where
  len : gs.length = S.length
  row : ∀ t ∈ gs, t.bs.length = R.length
  fit : ∀ j x, j < S.length → x < R.length → tfit gs j x = onlyAll (fitOf R S) ks j x
theorem TabAt.first {R : List Rm} {S : List St} {gs : List TG} (h : gs.map TG.bs = tabOf R S) : TabAt R S [] gs := by
  have hl : gs.length = S.length := by
    have := congrArg List.length h
    rwa [List.length_map, tabOf, List.length_map] at this
  refine ⟨hl, fun t ht => ?_, fun j x hj hx => ?_⟩
  · have h1 : t.bs ∈ tabOf R S := by rw [← h]; exact List.mem_map.2 ⟨t, ht, rfl⟩
    obtain ⟨s, _, e⟩ := List.mem_map.1 h1
    rw [← e, List.length_map]
  · rw [tfit_tab h hj hx]
    unfold onlyAll
    simp
theorem TabAt.next {R : List Rm} {S : List St} {ks : List Nat} {gs gs' : List TG} {k : Nat} (h : TabAt R S ks gs) (hk : ks.length < S.length) (h' : gs'.map TG.bs = onlyT (gs.map TG.bs) ks.length k) : TabAt R S (ks ++ [k]) gs' := by
  obtain ⟨h1, h2, h3⟩ := tfit_only h' (by rw [h.len]; exact hk) h.row
  refine ⟨h1.trans h.len, h2, fun j x hj hx => ?_⟩
  rw [h3 j x (by rw [h.len]; exact hj) hx, ← onlyAll_snoc]
  exact onlyF_congr h.fit j x hj hx
theorem TabAt.try_ {R : List Rm} {S : List St} {ks : List Nat} {gs gs' : List TG} {k : Nat} (h : TabAt R S ks gs) (hk : ks.length < S.length) (h' : gs'.map TG.bs = onlyT (gs.map TG.bs) ks.length k) : matchedB (tfit gs') R.length gs'.length = matchedB (onlyF (onlyAll (fitOf R S) ks) ks.length k) R.length S.length := by
  have h1 := h.next hk h'
  rw [h1.len]
  refine matchedB_congr fun j x hj hx => ?_
  rw [onlyAll_snoc]
  exact h1.fit j x hj hx

end Go.Proofs.YtdhhcbkldfdbbaaGreat

/-
  The reference of layer 19: Match. Printed by gen_hallrefi.py.
-/
namespace Go.Proofs.YtdhhcbkldfdbbaaGreat
open Go.RowKit Go.Shelf Go.Sort
open Hall

attribute [local go_sem] Oper.semAt_some

theorem MatchRes_bad {house : List RG} {all : List St} {when : Int} {w w' : World} (h : (roomsB (house.map RG.rm) && (staysB all && inB when 0 365)) = false) (hb : Below w.heap.size w w') : MatchRes house all when w (.returned (.tuple #[.slice none 0 0, noRf, .bool false, .int .i64 1])) w' :=
  ⟨hb, by rw [if_neg (by rw [h]; simp)]⟩
theorem below_box {w W : World} (h : Below w.heap.size w W) (x y z u v : Value) : Below w.heap.size w (((((W.setCell ⟨w.heap.size, 0, none⟩ x).setCell ⟨w.heap.size, 1, none⟩ y).setCell ⟨w.heap.size, 2, none⟩ z).setCell ⟨w.heap.size, 3, none⟩ u).setCell ⟨w.heap.size, 4, none⟩ v) := below_put5 h x y z u v

set_option maxRecDepth 100000 in
set_option maxHeartbeats 16000000 in
theorem match19_any (A1 A2 : Option Addr) (n1 n2 k1 k2 : Nat) (when : Int) (house : List RG) (all : List St) (w : World) (hn1 : n1 ≤ 9223372036854775807) (hn2 : n2 ≤ 9223372036854775807) (hM1 : Rms w w.heap.size A1 n1 house) (hM2 : Sts w w.heap.size A2 n2 all) :
    Calls Tryz.prog 131 #[.slice A1 n1 k1, .slice A2 n2 k2, .int .i64 when] w (MatchRes house all when w) := by
  have HM1 := Lib.hid hM1
  have HM2 := Lib.hid hM2
  have HB0 := Lib.hid (alloc_b w (.cells #[.int .i64 0, .int .i64 0, .slice none 0 0, .slice none 0 0, .slice none 0 0] 29))
  have HR0 := Lib.hid (World.alloc_heap_new w (.cells #[.int .i64 0, .int .i64 0, .slice none 0 0, .slice none 0 0, .slice none 0 0] 29))
  have HRi := Lib.hid (right19_any A1 A2 n1 n2 k1 k2 house all _ hn1 hn2 (HM1.out.below HB0.out) (HM2.out.below HB0.out))
  clear hM1 hM2
  go_enter Tryz.func131, Tryz.ntmps131
  go_wp2_with fail
  refine HRi.out.mono ?_
  rintro e w1 ⟨rfl, hb⟩
  have HB1 := Lib.hid (HB0.out.tr hb)
  have HR1 := Lib.hid ((hb.block w.heap.size (by simp)).trans HR0.out)
  clear hb HRi HB0 HR0
  cases hv : (roomsB (house.map RG.rm) && staysB all)
  · have HC := Lib.hid (show (roomsB (house.map RG.rm) && (staysB all && inB when 0 365)) = false from by rw [← Bool.and_assoc, hv]; rfl)
    clear hv
    have f0 := frozen_of_row w1 w.heap.size 0 _ _ HR1.out
    have r0 := cell_of HR1.out 0
    have f1 := frozen_of_row w1 w.heap.size 1 _ _ HR1.out
    have r1 := cell_of HR1.out 1
    have f2 := frozen_of_row w1 w.heap.size 2 _ _ HR1.out
    have r2 := cell_of HR1.out 2
    have f3 := frozen_of_row w1 w.heap.size 3 _ _ HR1.out
    have r3 := cell_of HR1.out 3
    have f4 := frozen_of_row w1 w.heap.size 4 _ _ HR1.out
    have r4 := cell_of HR1.out 4
    go_wp2_with fail
    refine bodyPost_ret (results_four rfl _ _ _ _ _ _ _ (by rfl) (refusal_put w1 w.heap.size _ _ _ _ _ _ _ _ _ _ HR1.out) Tryz.underlying29 rfl (by kernel_rfl)) rfl ?_
    exact MatchRes_bad HC.out (below_box HB1.out _ _ _ _ _)
  rw [Bool.and_eq_true] at hv
  obtain ⟨hv1, hv2⟩ := hv
  by_cases hlo : when < 0
  · have HC := Lib.hid (show (roomsB (house.map RG.rm) && (staysB all && inB when 0 365)) = false from by rw [show inB when 0 365 = false from by unfold inB; simp; omega]; simp)
    have t0 : decide (when < 0) = true := decide_eq_true hlo
    clear hv1 hv2
    have f0 := frozen_of_row w1 w.heap.size 0 _ _ HR1.out
    have r0 := cell_of HR1.out 0
    have f1 := frozen_of_row w1 w.heap.size 1 _ _ HR1.out
    have r1 := cell_of HR1.out 1
    have f2 := frozen_of_row w1 w.heap.size 2 _ _ HR1.out
    have r2 := cell_of HR1.out 2
    have f3 := frozen_of_row w1 w.heap.size 3 _ _ HR1.out
    have r3 := cell_of HR1.out 3
    have f4 := frozen_of_row w1 w.heap.size 4 _ _ HR1.out
    have r4 := cell_of HR1.out 4
    go_wp2_with fail
    refine bodyPost_ret (results_four rfl _ _ _ _ _ _ _ (by rfl) (refusal_put w1 w.heap.size _ _ _ _ _ _ _ _ _ _ HR1.out) Tryz.underlying29 rfl (by kernel_rfl)) rfl ?_
    exact MatchRes_bad HC.out (below_box HB1.out _ _ _ _ _)
  by_cases hhi : 365 < when
  · have HC := Lib.hid (show (roomsB (house.map RG.rm) && (staysB all && inB when 0 365)) = false from by rw [show inB when 0 365 = false from by unfold inB; simp; omega]; simp)
    have t0 : decide (when < 0) = false := decide_eq_false hlo
    have t1 : decide (365 < when) = true := decide_eq_true hhi
    clear hv1 hv2
    have f0 := frozen_of_row w1 w.heap.size 0 _ _ HR1.out
    have r0 := cell_of HR1.out 0
    have f1 := frozen_of_row w1 w.heap.size 1 _ _ HR1.out
    have r1 := cell_of HR1.out 1
    have f2 := frozen_of_row w1 w.heap.size 2 _ _ HR1.out
    have r2 := cell_of HR1.out 2
    have f3 := frozen_of_row w1 w.heap.size 3 _ _ HR1.out
    have r3 := cell_of HR1.out 3
    have f4 := frozen_of_row w1 w.heap.size 4 _ _ HR1.out
    have r4 := cell_of HR1.out 4
    go_wp2_with fail
    refine bodyPost_ret (results_four rfl _ _ _ _ _ _ _ (by rfl) (refusal_put w1 w.heap.size _ _ _ _ _ _ _ _ _ _ HR1.out) Tryz.underlying29 rfl (by kernel_rfl)) rfl ?_
    exact MatchRes_bad HC.out (below_box HB1.out _ _ _ _ _)
  have HC := Lib.hid (show (roomsB (house.map RG.rm) && (staysB all && inB when 0 365)) = true from by rw [hv1, hv2, show inB when 0 365 = true from by unfold inB; simp; omega]; rfl)
  obtain ⟨r1, r2, r3, r4⟩ := roomsB_iff.1 hv1
  obtain ⟨s1, s2, s3, s4⟩ := staysB_iff.1 hv2
  have h400 : n1 ≤ 400 := by rw [← HM1.out.len]; rw [List.length_map] at r1; exact r1
  have h3000 : n2 ≤ 3000 := by rw [← HM2.out.len]; exact s1
  have HFm := Lib.hid (show ∀ r ∈ house, formedB r.rm = true from fun r hr => r2 _ (List.mem_map.2 ⟨r, hr, rfl⟩))
  have HPd := Lib.hid (show ∀ s ∈ all, periodB ⟨s.fr, s.un⟩ = true from fun s hs => stay_period (s2 s hs))
  have HRs := Lib.hid (roomsS_lt r3)
  have HSs := Lib.hid (nightS_lt (when := when) s3)
  have HRm := Lib.hid (sortBy_map RG.rm RG.id Rm.id (fun _ => rfl) house)
  have HRo := Lib.hid (show ∀ W, Below w.heap.size w W → Calls Tryz.prog 75 #[.slice A1 n1 k1] W (RgRow (sortBy RG.id house) W) from fun W h => by
    have := rooms19_any A1 n1 k1 house W (by omega) (HM1.out.below h)
    rwa [List.filter_eq_self.2 (fun _ _ => rfl)] at this)
  have HOf := Lib.hid (show ∀ W, Below w.heap.size w W → Calls Tryz.prog 172 #[.slice A2 n2 k2, .int .i64 when] W (StRow (nightS all when) W) from fun W h => of19_any A2 n2 k2 when all W h3000 (HM2.out.below h))
  have HFm2 := Lib.hid (show ∀ r ∈ sortBy RG.id house, formedB r.rm = true from fun r hr => HFm.out r ((sortBy_perm _).mem_iff.1 hr))
  have HPd2 := Lib.hid (show ∀ s ∈ nightS all when, periodB ⟨s.fr, s.un⟩ = true from fun s hs => HPd.out s (mem_nightS.1 hs).1)
  have hRl : (sortBy RG.id house).length ≤ 400 := by rw [(sortBy_perm _).length_eq, HM1.out.len]; exact h400
  have hSl : (nightS all when).length ≤ 3000 := by
    unfold nightS
    rw [(sortBy_perm _).length_eq]
    exact Nat.le_trans (List.length_filter_le _ _) s1
  have HRe := Lib.hid (show roomsS (house.map RG.rm) = (sortBy RG.id house).map RG.rm from HRm.out.symm)
  have HMR := Lib.hid (fun e w' => show MatchRes house all when w e w' ↔ _ from Iff.rfl)
  rw [show (roomsS (house.map RG.rm)).Pairwise (fun a b => a.id < b.id) ↔ _ from by rw [HRe.out]] at HRs
  have t0 : decide (when < 0) = false := decide_eq_false hlo
  have t1 : decide (365 < when) = false := decide_eq_false hhi
  clear hv1 hv2 r1 r2 r3 r4 s1 s2 s3 s4 hlo hhi HRm HFm HPd
  go_wp2_with fail
  refine (HRo.out _ HB1.out).mono ?_
  rintro e w2 ⟨A3, c3, rfl, hc31, hc32, hM3, hb⟩
  have HB2 := Lib.hid (HB1.out.tr hb)
  have HR2 := Lib.hid ((hb.block w.heap.size (Array.getElem?_eq_some_iff.1 HR1.out).1).trans HR1.out)
  have HM3 := Lib.hid hM3
  clear hb hM3 HB1 HR1
  go_wp2_with fail
  refine (HOf.out _ HB2.out).mono ?_
  rintro e w3 ⟨A4, c4, rfl, hc41, hc42, hM4, hb⟩
  have HB3 := Lib.hid (HB2.out.tr hb)
  have HR3 := Lib.hid ((hb.block w.heap.size (Array.getElem?_eq_some_iff.1 HR2.out).1).trans HR2.out)
  have HM3' := Lib.hid (HM3.out.below hb)
  have HM4 := Lib.hid hM4
  clear hb hM4 HB2 HR2 HM3 t0 t1
  generalize hS : nightS all when = S at *
  have HSe := Lib.hid hS
  clear hS
  generalize hRq : sortBy RG.id house = R at *
  clear hRq
  have HTb := Lib.hid (table19_any A3 A4 R.length S.length c3 c4 R S w3 hRl hSl HM3'.out HM4.out HFm2.out HPd2.out)
  go_wp2_with fail
  refine HTb.out.mono ?_
  rintro e w4 ⟨At, ct, gs, hgs, rfl, hct1, hct2, hT, hb4, hn1', hn2', hty⟩
  clear hn1' hn2'
  have HTy4 := Lib.hid hty
  have HTA := Lib.hid (TabAt.first hgs)
  have HT4 := Lib.hid hT
  have HB4 := Lib.hid (HB3.out.tr hb4)
  have HR4 := Lib.hid ((hb4.block w.heap.size (Array.getElem?_eq_some_iff.1 HR3.out).1).trans HR3.out)
  have HM3 := Lib.hid (HM3'.out.below hb4)
  have HM4' := Lib.hid (HM4.out.below hb4)
  have hRR : (R.map RG.rm).length = R.length := List.length_map _
  have HMa := Lib.hid (show Calls Tryz.prog 175 #[.slice At gs.length ct, .int .i64 R.length] w4 fun e w' => e = .returned (.bool (matchedB (fitOf (R.map RG.rm) S) (R.map RG.rm).length S.length)) ∧ Below w4.heap.size w4 w' from by
    have h := matched19_any (nr := R.length) (l := gs) At gs.length ct w4 (by omega) (by rw [HTA.out.len]; omega) (fun t ht => by rw [HTA.out.row t ht, hRR]) hT
    rw [HTA.out.len, show matchedB (tfit gs) R.length S.length = matchedB (fitOf (R.map RG.rm) S) (R.map RG.rm).length S.length from by
      rw [hRR]
      exact matchedB_congr fun j x hj hx => by
        rw [HTA.out.fit j x hj (by rw [hRR]; exact hx)]
        unfold onlyAll
        simp] at h
    rw [← HTA.out.len] at h
    rwa [HTA.out.len] at h ⊢)
  have HRR := Lib.hid hRR
  have hgl := HTA.out.len
  have HGl := Lib.hid hgl
  clear hgs hT hb4 hty HTb HB3 HR3 HM3' HM4 hRR hgl
  go_wp2_with fail
  refine HMa.out.mono ?_
  rintro e w5 ⟨rfl, hb5⟩
  have HB5 := Lib.hid (HB4.out.tr hb5)
  have HR5 := Lib.hid ((hb5.block w.heap.size (Array.getElem?_eq_some_iff.1 HR4.out).1).trans HR4.out)
  have HM5 := Lib.hid (HM3.out.below hb5)
  have HM6 := Lib.hid (HM4'.out.below hb5)
  have HT5 := Lib.hid (HT4.out.to hb5 hb5.size)
  have HTy5 := Lib.hid (HTy4.out.to hb5 hb5.size)
  clear hb5 HMa HB4 HR4 HM3 HM4' HT4 HTy4
  cases hm : matchedB (fitOf (R.map RG.rm) S) (R.map RG.rm).length S.length
  · obtain ⟨f, Z, T, hst⟩ := stuck_exists (fit := fitOf (R.map RG.rm) S) (nr := (R.map RG.rm).length) (n := S.length) (fun h => by rw [matchedB_iff.2 h] at hm; cases hm)
    have HSt := Lib.hid hst
    have HRf := Lib.hid (refuse19_any A3 A4 R.length S.length c3 c4 when R S w5 hRl hSl hc41 hc42 HM5.out HM6.out HFm2.out HPd2.out HSs.out HRs.out hst)
    clear hst hm
    go_wp2_with fail
    refine HRf.out.mono ?_
    rintro e w6 ⟨As, ns, cs, Ar, nr, cr, rfl, hns, hnr, hd1, hd2, hb6, hg1, hg2⟩
    have HB6 := Lib.hid (HB5.out.tr hb6)
    have HR6 := Lib.hid ((hb6.block w.heap.size (Array.getElem?_eq_some_iff.1 HR5.out).1).trans HR5.out)
    have HD1 := Lib.hid hd1
    have HD2 := Lib.hid hd2
    have HN1 := Lib.hid hns
    have HN2 := Lib.hid hnr
    have HG1 := Lib.hid (fun ad (e : As = some ad) => show ad.block ≠ w.heap.size from by have := hg1 ad e; have := (Array.getElem?_eq_some_iff.1 HR5.out).1; omega)
    have HG2 := Lib.hid (fun ad (e : Ar = some ad) => show ad.block ≠ w.heap.size from by have := hg2 ad e; have := (Array.getElem?_eq_some_iff.1 HR5.out).1; omega)
    clear hns hnr hd1 hd2 hb6 HRf hg1 hg2
    generalize hrf : rfOf (R.map RG.rm) S when Z T = rf at *
    have HRfe := Lib.hid hrf
    clear hrf
    have f0 := frozen_of_row w6 w.heap.size 0 _ _ HR6.out
    have r0 := cell_of HR6.out 0
    have f1 := frozen_of_row w6 w.heap.size 1 _ _ HR6.out
    have r1 := cell_of HR6.out 1
    have f2 := frozen_of_row w6 w.heap.size 2 _ _ HR6.out
    have r2 := cell_of HR6.out 2
    have f3 := frozen_of_row w6 w.heap.size 3 _ _ HR6.out
    have r3 := cell_of HR6.out 3
    have f4 := frozen_of_row w6 w.heap.size 4 _ _ HR6.out
    have r4 := cell_of HR6.out 4
    go_wp2_with fail
    refine bodyPost_ret (results_four rfl _ _ _ _ _ _ _ (by rfl) (refusal_put w6 w.heap.size _ _ _ _ _ _ _ _ _ _ HR6.out) Tryz.underlying29 rfl (by kernel_rfl)) rfl ?_
    refine ⟨below_box HB6.out _ _ _ _ _, ?_⟩
    rw [if_pos HC.out, HSe.out, HRe.out]
    exact .inr ⟨As, ns, cs, Ar, nr, cr, rf, rfl, ⟨f, Z, T, HSt.out, HRfe.out.symm⟩, HN1.out, HN2.out, HD1.out.put5 HG1.out (Nat.le_refl _) _ _ _ _ _, HD2.out.put5 HG2.out (Nat.le_refl _) _ _ _ _ _⟩
  have HLow := Lib.hid (low_nil (matchedB_iff.1 hm))
  have hw5 := (Array.getElem?_eq_some_iff.1 HR5.out).1
  have HId := Lib.hid (show ∀ k (h : k < R.length), ((R.map RG.rm).getD k default).id = R[k].id from fun k h => by simp [h]; rfl)
  obtain ⟨i0, hi, hz0, hz1, hz2⟩ := info_parts info_intE
  clear hm
  go_wp2_with fail
  go_loopw [13, 14, 15] (fun fv av q wr => ∃ (ks : List Nat) (gs : List TG) (A : Option Addr) (c : Nat), ks.length ≤ S.length ∧ q = .int .i64 (ks.length : Nat) ∧ fv = .slice A gs.length c ∧ gs.length ≤ c ∧ c ≤ 9223372036854775807 ∧ TabAt (R.map RG.rm) S ks gs ∧ Tbs wr wr.heap.size A gs.length gs ∧ TyTab wr wr.heap.size A gs ∧ Low (fitOf (R.map RG.rm) S) (R.map RG.rm).length S.length ks ∧ wr.ownsRow w5.heap.size 3 1 av ks.length (ks.map fun k => Value.int .i64 ((R.map RG.rm).getD k default).id) ∧ Below w5.heap.size w5 wr) (fun _ _ q _ => S.length - (intOf q).toNat)
  case atStart => exact ⟨[], gs, At, ct, Nat.zero_le _, rfl, rfl, hct1, hct2, HTA.out, HT5.out, HTy5.out, HLow.out, World.ownsRow_nil _ _ _ _, Below.refl _ _⟩
  case round =>
    clear HTA HT5 HTy5 HLow HGl hct1 hct2
    obtain ⟨ks, gs, A, c, hks, rfl, rfl, hc1, hc2, hta, hT, hty, hlow, hrow, hB⟩ := hrel
    have HTy := Lib.hid hty
    have HTA := Lib.hid hta
    have HT := Lib.hid hT
    have HLow := Lib.hid hlow
    have HRow := Lib.hid hrow
    have HB := Lib.hid hB
    clear hT hty hrow hB
    by_cases hlt : ks.length < S.length
    rotate_left
    · have hks2 : ks.length = S.length := by omega
      have HLeast := Lib.hid (low_least hlow hks2)
      obtain ⟨Aa, ca, rfl, _, _, hra⟩ := rd_of_own HRow.out (by decide)
      have HRa := Lib.hid hra
      have HGa := Lib.hid (fun ad (e : Aa = some ad) => show ad.block ≠ w.heap.size from by have := (HRow.out.lt ad.block (by rw [e]; rfl)).1; omega)
      have HRw := Lib.hid ((HB.out.block w.heap.size hw5).trans HR5.out)
      have HBw := Lib.hid (HB5.out.tr HB.out)
      clear hlow hta hra hks2
      have f0 := frozen_of_row wr w.heap.size 0 _ _ HRw.out
      have r0 := cell_of HRw.out 0
      have f1 := frozen_of_row wr w.heap.size 1 _ _ HRw.out
      have r1 := cell_of HRw.out 1
      have f2 := frozen_of_row wr w.heap.size 2 _ _ HRw.out
      have r2 := cell_of HRw.out 2
      have f3 := frozen_of_row wr w.heap.size 3 _ _ HRw.out
      have r3 := cell_of HRw.out 3
      have f4 := frozen_of_row wr w.heap.size 4 _ _ HRw.out
      have r4 := cell_of HRw.out 4
      go_wp2_with fail
      refine bodyPost_ret (results_four rfl _ _ _ _ _ _ _ (by rfl) (refusal_put wr w.heap.size _ _ _ _ _ _ _ _ _ _ HRw.out) Tryz.underlying29 rfl (by kernel_rfl)) rfl ?_
      refine ⟨below_box HBw.out _ _ _ _ _, ?_⟩
      rw [if_pos HC.out, HSe.out, HRe.out]
      refine .inl ⟨Aa, ks.length, ca, ks.map fun k => ((R.map RG.rm).getD k default).id, rfl, ⟨ks, HLeast.out, rfl⟩, by simp, ?_⟩
      rw [show (ks.map fun k => ((R.map RG.rm).getD k default).id).map (Value.int .i64) = ks.map fun k => Value.int .i64 ((R.map RG.rm).getD k default).id from by rw [List.map_map]; rfl]
      exact HRa.out.put5 HGa.out (Nat.le_refl _) _ _ _ _ _
    obtain ⟨k0, hk0, hf0, hm0⟩ := low_some hlow hlt
    have HF0 := Lib.hid hf0
    have HM0 := Lib.hid hm0
    have hk0R : k0 < R.length := by rw [HRR.out] at hk0; exact hk0
    have hil : ks.length < gs.length := by rw [hta.len]; exact hlt
    have hgm : gs.length ≤ 1000000 := by rw [hta.len]; omega
    have hgr : ∀ t ∈ gs, t.bs.length ≤ 1000000 := fun t ht => by rw [hta.row t ht, HRR.out]; omega
    have HGr := Lib.hid hgr
    clear hf0 hm0 hlow hta hgr hk0
    generalize wr = W at *
    go_wp2_with fail
    go_loopw [16] (fun q wr => ∃ k : Nat, k ≤ k0 ∧ q = .int .i64 k ∧ (∀ k' < k, onlyAll (fitOf (R.map RG.rm) S) ks ks.length k' = true → matchedB (onlyF (onlyAll (fitOf (R.map RG.rm) S) ks) ks.length k') (R.map RG.rm).length S.length = false) ∧ Below W.heap.size W wr) (fun q _ => k0 + 1 - (intOf q).toNat)
    case atStart => exact ⟨0, Nat.zero_le _, rfl, fun k' h => absurd h (Nat.not_lt_zero _), Below.refl _ _⟩
    case round =>
      obtain ⟨k, hk, rfl, hno, hBk⟩ := hrel
      have HNo := Lib.hid hno
      have HBk := Lib.hid hBk
      have HTk := Lib.hid (HT.out.to hBk hBk.size)
      clear hno hBk
      have hkR : k < R.length := by omega
      obtain ⟨bt, ot, eA, hbt, hct⟩ := HTk.out.at_ (show 0 < gs.length by omega)
      have hc0 := hct ks.length hil
      have hok := HTk.out.ok _ (List.getElem_mem hil)
      have hbl := HTA.out.row _ (List.getElem_mem hil)
      have hkb : k < gs[ks.length].bs.length := by rw [hbl, HRR.out]; exact hkR
      have hln : gs[ks.length].n = R.length := by rw [← hok.len, hbl, HRR.out]
      obtain ⟨b3, o3, eB, hb3, hc3⟩ := rd_bool hok.rd k hkb
      rw [eB, hln] at hc0
      have HFb := Lib.hid (show gs[ks.length].bs[k] = onlyAll (fitOf (R.map RG.rm) S) ks ks.length k from by
        rw [← tfit_at hil hkb, HTA.out.fit _ _ hlt (by rw [HRR.out]; exact hkR)])
      have HOn := Lib.hid (fun (W2 : World) (h : Below W.heap.size W W2) => only19_any A gs.length c gs ks.length k W2 hgm hc1 hc2 hil (by omega) HGr.out (fun t ht => (HTy.out.row t ht).to h h.size) (HT.out.to h h.size))
      subst eA
      clear hct hok hbl hln eB
      generalize gs[ks.length].c = cc at *
      generalize gs[ks.length].bs[k] = fb at *
      cases fb
      · have hne : k ≠ k0 := fun e => by have h1 := HFb.out; rw [e, HF0.out] at h1; cases h1
        have HNo2 := Lib.hid (show ∀ k' < k + 1, onlyAll (fitOf (R.map RG.rm) S) ks ks.length k' = true → matchedB (onlyF (onlyAll (fitOf (R.map RG.rm) S) ks) ks.length k') (R.map RG.rm).length S.length = false from fun k' hk' hf => by
          by_cases e : k' = k
          · subst e; rw [← HFb.out] at hf; cases hf
          · exact HNo.out k' (by omega) hf)
        clear HNo HFb
        go_wp2_with fail
        go_roundw
        case rel => exact ⟨k + 1, by omega, by go_num, HNo2.out, HBk.out⟩
        case measure => simp [intOf]; omega
      go_wp2_with fail
      refine (HOn.out _ HBk.out).mono ?_
      rintro e w7 ⟨A7, c7, gs7, hgs7, rfl, _, _, hT7, hb7, _⟩
      have HB7 := Lib.hid (HBk.out.tr hb7)
      have HTr := Lib.hid (HTA.out.try_ hlt hgs7)
      have HT1 := Lib.hid (HTA.out.next hlt hgs7)
      have HMa := Lib.hid (matched19_any (nr := R.length) (l := gs7) A7 gs7.length c7 w7 (by omega) (by rw [HT1.out.len]; omega) (fun t ht => by rw [HT1.out.row t ht, HRR.out]) hT7)
      rw [HRR.out] at HTr
      rw [HTr.out] at HMa
      clear hgs7 hT7 hb7 HTr
      cases hmb : matchedB (onlyF (onlyAll (fitOf (R.map RG.rm) S) ks) ks.length k) R.length S.length
      · rw [hmb] at HMa
        have hne : k ≠ k0 := fun e => by have h1 := HM0.out; rw [HRR.out, ← e, hmb] at h1; cases h1
        have HNo2 := Lib.hid (show ∀ k' < k + 1, onlyAll (fitOf (R.map RG.rm) S) ks ks.length k' = true → matchedB (onlyF (onlyAll (fitOf (R.map RG.rm) S) ks) ks.length k') (R.map RG.rm).length S.length = false from fun k' hk' hf => by
          by_cases e : k' = k
          · subst e; rw [HRR.out]; exact hmb
          · exact HNo.out k' (by omega) hf)
        clear hmb HNo HFb
        go_wp2_with fail
        refine HMa.out.mono ?_
        rintro e w8 ⟨rfl, hb8⟩
        have HB8 := Lib.hid (HB7.out.tr hb8)
        clear hb8
        go_wp2_with fail
        go_roundw
        case rel => exact ⟨k + 1, by omega, by go_num, HNo2.out, HB8.out⟩
        case measure => simp [intOf]; omega
      rw [hmb] at HMa
      have HLow2 := Lib.hid (low_step HLow.out hlt HFb.out.symm (by rw [HRR.out]; exact hmb) HNo.out)
      clear hmb HNo HFb HT1
      go_wp2_with fail
      refine HMa.out.mono ?_
      rintro e w8 ⟨rfl, hb8⟩
      have HB8 := Lib.hid (HB7.out.tr hb8)
      clear hb8 HMa HB7
      go_wp2_with fail
      refine (HOn.out _ HB8.out).mono ?_
      rintro e w9 ⟨A9, c9, gs9, hgs9, rfl, hd1, hd2, hT9, hb9, hty9⟩
      have HTy9 := Lib.hid hty9
      have HB9 := Lib.hid (HB8.out.tr hb9)
      have HTA9 := Lib.hid (HTA.out.next hlt hgs9)
      have HT9 := Lib.hid hT9
      have HRow9 := Lib.hid (owns_keepH HRow.out HB9.out)
      have HBw9 := Lib.hid (HB.out.tr HB9.out)
      have HM9 := Lib.hid (HM5.out.below HBw9.out)
      obtain ⟨b2, of2, rfl, hb2, hc2'⟩ := HM9.out.at_ (show 0 < R.length by omega)
      obtain ⟨d0, _⟩ := hc2' k hkR
      rw [← HId.out k hkR] at d0
      have HC1 := Lib.hid (show ks.length + 1 ≤ maxLen from by unfold maxLen; omega)
      have HC2 := Lib.hid (show (ks.length + 1) * 8 ≤ 140737488355328 from by omega)
      have HC3 := Lib.hid (show w5.heap.size ≤ w9.heap.size + 1 from by have := HBw9.out.size; omega)
      have HN := Lib.hid (cell_lit_new w9 #[.int .i64 ((R.map RG.rm).getD k default).id] 3)
      have HMp := Lib.hid (show (ks ++ [k]).map (fun k => Value.int .i64 ((R.map RG.rm).getD k default).id) = ks.map (fun k => Value.int .i64 ((R.map RG.rm).getD k default).id) ++ [.int .i64 ((R.map RG.rm).getD k default).id] from by rw [List.map_append]; rfl)
      have HTs := Lib.hid (fun (v : Value) (W2 : World) (ho : w9.ownsRow w5.heap.size 3 1 v ks.length (ks.map fun k => Value.int .i64 ((R.map RG.rm).getD k default).id)) (hg : (w9.alloc (.cells #[.int .i64 ((R.map RG.rm).getD k default).id] 3)).grownBy W2 v.ownBlock) => show Tbs W2 W2.heap.size A9 gs9.length gs9 ∧ TyTab W2 W2.heap.size A9 gs9 from by
        have ho' := ho.alloc (.cells #[.int .i64 ((R.map RG.rm).getD k default).id] 3)
        have hT' := HT9.out.to (alloc_b w9 (.cells #[.int .i64 ((R.map RG.rm).getD k default).id] 3)) (Nat.le_refl _)
        have hY' := HTy9.out.to (alloc_b w9 (.cells #[.int .i64 ((R.map RG.rm).getD k default).id] 3)) (Nat.le_refl _)
        have hs : w9.heap.size ≤ (w9.alloc (.cells #[.int .i64 ((R.map RG.rm).getD k default).id] 3)).heap.size := by simp
        have h1 := hY'.top.ne ho' (by decide)
        have h2 := fun t ht => (hY'.row t ht).ne ho' (by decide)
        have hl : w9.heap.size ≤ W2.heap.size := Nat.le_trans hs hg.size
        refine ⟨⟨hT'.len, (hT'.rd.grownB hg hs h1).mono hl, fun t ht => ⟨(hT'.ok t ht).len, ((hT'.ok t ht).rd.grownB hg hs (h2 t ht)).mono hl⟩⟩, ⟨fun ad e => ?_, fun t ht ad e => ?_⟩⟩
        · obtain ⟨q1, q2⟩ := hY'.top.grown hg hs h1 ad e
          exact ⟨by omega, q2⟩
        · obtain ⟨q1, q2⟩ := (hY'.row t ht).grown hg hs (h2 t ht) ad e
          exact ⟨by omega, q2⟩)
      clear hgs9 hT9 hty9 hb9 HM9 hc2' HOn
      generalize ((R.map RG.rm).getD k default).id = xid at *
      go_wp2_with (at_builtin; refine wpList_append_own _ rfl _ _ 26 rfl w5.heap.size 3 i0 (.int .i64 0) 1 8 Tryz.underlying26 hi hz0 hz1 hz2 rfl (by decide) _ _ _ rfl (HRow9.out.alloc _) ⟨w9.heap.size, 0, none⟩ 1 1 [.int .i64 xid] rfl rfl HN.out (by simp [Value.oneCell']) HC1.out HC2.out (by rw [World.size_alloc]; exact HC3.out) ?_; intro v' wz hown' hgrow _; have HRz := Lib.hid hown'; have HTz := Lib.hid (HTs.out _ _ HRow9.out hgrow); have HBz := Lib.hid ((HBw9.out.alloc HBw9.out.size _).grown hgrow (by rw [World.size_alloc]; exact HC3.out) (fun q e => (HRow9.out.lt q e).1)); clear hown' hgrow)
      go_roundw
      case rel => exact ⟨ks ++ [k], gs9, A9, c9, by rw [List.length_append, List.length_singleton]; omega, by rw [List.length_append, List.length_singleton]; go_num, rfl, hd1, hd2, HTA9.out, HTz.out.1, HTz.out.2, HLow2.out, by rw [HMp.out, List.length_append]; exact HRz.out, HBz.out⟩
      case measure => simp [intOf]; omega

end Go.Proofs.YtdhhcbkldfdbbaaGreat

/-
  The reference of layer 19: Shows. Printed by gen_hallrefj.py.
-/
namespace Go.Proofs.YtdhhcbkldfdbbaaGreat
open Go.RowKit Go.Shelf Go.Sort
open Hall

attribute [local go_sem] Oper.semAt_some

/-- What Shows comes to. -/
def ShowRes (house : List RG) (all : List St) (r : Rf) (nb : Nat) (w : World) (e : Ending) (w' : World) : Prop := Below w.heap.size w w' ∧
  if (roomsB (house.map RG.rm) && staysB all) = true then ∃ b, e = .returned (.tuple #[.bool b, .int .i64 0]) ∧ (b = true ↔ (ShowsP (roomsS (house.map RG.rm)) (nightS all r.night) r ∧ inB r.night 0 365 = true ∧ nb = 0))
  else e = .returned (.tuple #[.bool false, .int .i64 1])
theorem ShowRes_no {house : List RG} {all : List St} {r : Rf} {nb : Nat} {w w' : World} (hc : (roomsB (house.map RG.rm) && staysB all) = true) (h : ¬ ShowsP (roomsS (house.map RG.rm)) (nightS all r.night) r ∨ inB r.night 0 365 = false ∨ nb ≠ 0) (hb : Below w.heap.size w w') : ShowRes house all r nb w (.returned (.tuple #[.bool false, .int .i64 0])) w' :=
  ⟨hb, by
    rw [if_pos hc]
    refine ⟨false, rfl, ⟨fun e => (by cases e), fun ⟨h1, h2, h3⟩ => ?_⟩⟩
    rcases h with h | h | h
    · exact absurd h1 h
    · rw [h] at h2; cases h2
    · exact absurd h3 h⟩
theorem ShowRes_yes {house : List RG} {all : List St} {r : Rf} {nb : Nat} {w w' : World} {b : Bool} (hc : (roomsB (house.map RG.rm) && staysB all) = true) (h : b = true ↔ (ShowsP (roomsS (house.map RG.rm)) (nightS all r.night) r ∧ inB r.night 0 365 = true ∧ nb = 0)) (hb : Below w.heap.size w w') : ShowRes house all r nb w (.returned (.tuple #[.bool b, .int .i64 0])) w' :=
  ⟨hb, by rw [if_pos hc]; exact ⟨b, rfl, h⟩⟩

section
variable {R : List Rm} {S M : List St} {r : Rf}
/-- Shows, where its stays are known. -/
theorem shows_of (hS : S.Pairwise (fun a b => a.id < b.id)) (hk : r.kind = 1 ∨ r.kind = 2) (hl : r.rooms.length < r.stays.length) (hm : M.map St.id = r.stays) (hp : r.stays.Pairwise (· < ·)) (hin : ∀ s ∈ M, s ∈ S) :
    ShowsP R S r ↔ (r.rooms = (R.filter fun x => M.any fun s => suitsB s x).map Rm.id ∧ (r.kind = 1 → ∀ x ∈ R, (∃ s ∈ M, suitsB s x = true) → ∀ s ∈ M, suitsB s x = true)) := by
  have e : M = mineS S r := by
    refine lt_same (id := St.id) (List.pairwise_map.1 (by rw [hm]; exact hp)) (hS.sublist List.filter_sublist) fun s => ?_
    unfold mineS
    rw [List.mem_filter, ← hm]
    simp only [List.contains_iff_mem, List.mem_map]
    constructor
    · intro h; exact ⟨hin s h, s, h, rfl⟩
    · rintro ⟨h1, t, h2, h3⟩
      obtain ⟨i, hi, rfl⟩ := List.mem_iff_getElem.1 h1
      obtain ⟨j, hj, e⟩ := List.mem_iff_getElem.1 (hin t h2)
      rw [← e] at h3 h2
      have := lt_inj hS hj hi h3
      subst this
      exact h2
  constructor
  · rintro ⟨_, _, M', h1, h2, h3, h4⟩
    have e' := mine_of hS h1 h2
    rw [← e] at e'
    subst e'
    exact ⟨h3, h4⟩
  · rintro ⟨h3, h4⟩
    exact ⟨hk, hl, M, by rw [e]; exact List.filter_sublist, hm.symm, h3, h4⟩
theorem shows_stays (h : ShowsP R S r) (hS : S.Pairwise (fun a b => a.id < b.id)) : r.stays.Pairwise (· < ·) ∧ ∀ x ∈ r.stays, ∃ s ∈ S, s.id = x := by
  obtain ⟨_, _, M, h1, h2, _, _⟩ := h
  rw [h2]
  exact ⟨List.pairwise_map.2 (hS.sublist h1), fun x hx => by
    obtain ⟨s, hs, e⟩ := List.mem_map.1 hx
    exact ⟨s, h1.subset hs, e⟩⟩
end
theorem rmi_step {M : List St} {R : List RG} {q : Nat} (h : q < R.length) : ((R.take (q + 1)).filter fun x => M.any fun s => suitsB s x.rm).map RG.id = ((R.take q).filter fun x => M.any fun s => suitsB s x.rm).map RG.id ++ (if 0 < cntS M R[q].rm M.length then [R[q].id] else []) := by
  rw [List.take_succ_eq_append_getElem h, List.filter_append, List.map_append]
  congr 1
  have := cntS_any M R[q].rm
  by_cases g : 0 < cntS M R[q].rm M.length
  · rw [if_pos g]
    rw [decide_eq_true g] at this
    simp [this]
  · rw [if_neg g]
    rw [decide_eq_false g] at this
    simp [this]
theorem rmi_tail {M : List St} {R : List RG} {q : Nat} (h : q < R.length) (hc : 0 < cntS M R[q].rm M.length) : ∃ tl, (R.filter fun x => M.any fun s => suitsB s x.rm).map RG.id = ((R.take q).filter fun x => M.any fun s => suitsB s x.rm).map RG.id ++ R[q].id :: tl := by
  refine ⟨((R.drop (q + 1)).filter fun x => M.any fun s => suitsB s x.rm).map RG.id, ?_⟩
  have h1 := rmi_step (M := M) h
  rw [if_pos hc] at h1
  conv => lhs; rw [← List.take_append_drop (q + 1) R, List.filter_append, List.map_append, h1]
  simp
theorem rms_rm (M : List St) (R : List RG) : ((R.map RG.rm).filter fun x => M.any fun s => suitsB s x).map Rm.id = (R.filter fun x => M.any fun s => suitsB s x.rm).map RG.id := by
  rw [List.filter_map, List.map_map]
  rfl
def okK (kind : Int) (M : List St) (R : List RG) (q : Nat) : Prop := kind = 1 → ∀ x ∈ R.take q, (M.any fun s => suitsB s x.rm) = true → (M.all fun s => suitsB s x.rm) = true
theorem okK_step {kind : Int} {M : List St} {R : List RG} {q : Nat} (h : q < R.length) (hq : okK kind M R q) (hs : kind = 1 → 0 < cntS M R[q].rm M.length → cntS M R[q].rm M.length = M.length) : okK kind M R (q + 1) := fun hk x hx ha => by
  rw [List.take_succ_eq_append_getElem h] at hx
  rcases List.mem_append.1 hx with hx | hx
  · exact hq hk x hx ha
  · rw [List.mem_singleton.1 hx] at ha ⊢
    rw [cntS_any, decide_eq_true_eq] at ha
    rw [cntS_all]
    exact decide_eq_true (hs hk ha)
theorem okK_end {kind : Int} {M : List St} {R : List RG} : okK kind M R R.length ↔ (kind = 1 → ∀ x ∈ R.map RG.rm, (∃ s ∈ M, suitsB s x = true) → ∀ s ∈ M, suitsB s x = true) := by
  unfold okK
  rw [List.take_length]
  constructor
  · intro h hk x hx he
    obtain ⟨y, hy, rfl⟩ := List.mem_map.1 hx
    exact List.all_eq_true.1 (h hk y hy (List.any_eq_true.2 he))
  · intro h hk x hx ha
    exact List.all_eq_true.2 (h hk _ (List.mem_map.2 ⟨x, hx, rfl⟩) (List.any_eq_true.1 ha))
theorem okK_at {kind : Int} {M : List St} {R : List RG} {q : Nat} (h : q < R.length) (hq : okK kind M R R.length) (hk : kind = 1) (hc : 0 < cntS M R[q].rm M.length) : cntS M R[q].rm M.length = M.length := by
  have h1 := hq hk R[q] (by rw [List.take_length]; exact List.getElem_mem _) (by rw [cntS_any]; exact decide_eq_true hc)
  rw [cntS_all, decide_eq_true_eq] at h1
  exact h1

theorem bit_of (all : List St) (ss : List Int) (j : Nat) (hj : j < ss.length) (night : Int) : ∃ bt : Bool, (idxOf (all.map St.id) ss[j] = -1 ∧ (∀ s ∈ all, s.id ≠ ss[j]) ∧ bt = true) ∨ ∃ (k : Nat) (hk : k < all.length), idxOf (all.map St.id) ss[j] = k ∧ all[k].id = ss[j] ∧
    ((∃ (q : Nat) (hq : q < ss.length), j = q + 1 ∧ ss[j] ≤ ss[q] ∧ bt = true) ∨ ((∀ (q : Nat) (hq : q < ss.length), j = q + 1 → ss[q] < ss[j]) ∧ bt = !hasB all[k] night)) := by
  by_cases hm : ss[j] ∈ all.map St.id
  · obtain ⟨k, hk, h1, h2⟩ := idxOf_some hm
    rw [List.length_map] at hk
    rw [List.getElem_map] at h2
    cases j with
    | zero => exact ⟨_, .inr ⟨k, hk, h1, h2, .inr ⟨fun q _ e => by omega, rfl⟩⟩⟩
    | succ q =>
      by_cases hle : ss[q + 1] ≤ ss[q]
      · exact ⟨true, .inr ⟨k, hk, h1, h2, .inl ⟨q, by omega, rfl, hle, rfl⟩⟩⟩
      · refine ⟨_, .inr ⟨k, hk, h1, h2, .inr ⟨fun q' hq' e => ?_, rfl⟩⟩⟩
        have e2 : q = q' := by omega
        subst e2
        omega
  · exact ⟨true, .inl ⟨idxOf_none hm, fun s hs e => hm (List.mem_map.2 ⟨s, hs, e⟩), rfl⟩⟩
theorem bit2_of (rs : List Int) (n : Nat) (id kind : Int) (cn ml : Nat) : ∃ bt : Bool, (rs.length ≤ n ∧ bt = true) ∨ ∃ hn : n < rs.length, (rs[n] ≠ id ∧ bt = true) ∨ (rs[n] = id ∧ bt = (decide (kind = 1) && decide (cn < ml))) := by
  by_cases hn : rs.length ≤ n
  · exact ⟨true, .inl ⟨hn, rfl⟩⟩
  · by_cases he : rs[n]'(by omega) = id
    · exact ⟨_, .inr ⟨by omega, .inr ⟨he, rfl⟩⟩⟩
    · exact ⟨true, .inr ⟨by omega, .inl ⟨he, rfl⟩⟩⟩

set_option maxRecDepth 100000 in
set_option maxHeartbeats 16000000 in
theorem shows19_any (A1 A2 : Option Addr) (n1 n2 k1 k2 : Nat) (house : List RG) (all : List St) (r : Rf) (As Ar Ab : Option Addr) (cs cr nb cb : Nat) (w : World) (hn1 : n1 ≤ 9223372036854775807) (hn2 : n2 ≤ 9223372036854775807) (hM1 : Rms w w.heap.size A1 n1 house) (hM2 : Sts w w.heap.size A2 n2 all)
    (hs : Rd w w.heap.size As (r.stays.map (Value.int .i64))) (hr : Rd w w.heap.size Ar (r.rooms.map (Value.int .i64))) (hls : r.stays.length ≤ 100000) (hlr : r.rooms.length ≤ 100000) (hnb : nb ≤ 9223372036854775807) :
    Calls Tryz.prog 138 #[.slice A1 n1 k1, .slice A2 n2 k2, (.agg #[.int .i64 r.kind, .int .i64 r.night, .slice As r.stays.length cs, .slice Ar r.rooms.length cr, .slice Ab nb cb])] w (ShowRes house all r nb w) := by
  have HM1 := Lib.hid hM1
  have HM2 := Lib.hid hM2
  have HSt := Lib.hid hs
  have HRo := Lib.hid hr
  obtain ⟨kind, night, ss, rs⟩ := r
  have HB0 := Lib.hid (alloc_b w (.cells #[.int .i64 kind, .int .i64 night, .slice As ss.length cs, .slice Ar rs.length cr, .slice Ab nb cb] 29))
  have HP0 := Lib.hid (World.alloc_heap_new w (.cells #[.int .i64 kind, .int .i64 night, .slice As ss.length cs, .slice Ar rs.length cr, .slice Ab nb cb] 29))
  have HRi := Lib.hid (right19_any A1 A2 n1 n2 k1 k2 house all _ hn1 hn2 (HM1.out.below HB0.out) (HM2.out.below HB0.out))
  have hlsn : ss.length ≤ 100000 := hls
  have hlrn : rs.length ≤ 100000 := hlr
  clear hM1 hM2 hs hr hls hlr
  go_enter Tryz.func138, Tryz.ntmps138
  go_wp2_with fail
  refine HRi.out.mono ?_
  rintro e w1 ⟨rfl, hb⟩
  have HBw := Lib.hid (HB0.out.tr hb)
  have HP1 := Lib.hid ((hb.block w.heap.size (by simp)).trans HP0.out)
  clear hb HRi HB0 HP0
  cases hv : (roomsB (house.map RG.rm) && staysB all)
  · have HR := Lib.hid (show ShowRes house all ⟨kind, night, ss, rs⟩ nb w (.returned (.tuple #[.bool false, .int .i64 1])) w1 from ⟨HBw.out, by rw [if_neg (by rw [hv]; simp)]⟩)
    clear hv
    go_wp2_with fail
    go_ret2
    exact HR.out
  have HC := Lib.hid hv
  rw [Bool.and_eq_true] at hv
  obtain ⟨hv1, hv2⟩ := hv
  obtain ⟨r1, r2, r3, r4⟩ := roomsB_iff.1 hv1
  obtain ⟨s1, s2, s3, s4⟩ := staysB_iff.1 hv2
  have h400 : n1 ≤ 400 := by rw [← HM1.out.len]; rw [List.length_map] at r1; exact r1
  have h3000 : n2 ≤ 3000 := by rw [← HM2.out.len]; exact s1
  have HFm2 := Lib.hid (show ∀ r ∈ sortBy RG.id house, formedB r.rm = true from fun r hr => r2 _ (List.mem_map.2 ⟨r, (sortBy_perm _).mem_iff.1 hr, rfl⟩))
  have HPd := Lib.hid (show ∀ s ∈ all, periodB ⟨s.fr, s.un⟩ = true from fun s hs => stay_period (s2 s hs))
  have HSs := Lib.hid (nightS_lt (when := night) s3)
  have HNd := Lib.hid s3
  have HRe := Lib.hid (show roomsS (house.map RG.rm) = (sortBy RG.id house).map RG.rm from (sortBy_map RG.rm RG.id Rm.id (fun _ => rfl) house).symm)
  have HRm := Lib.hid (show ∀ W, Below w.heap.size w W → Calls Tryz.prog 75 #[.slice A1 n1 k1] W (RgRow (sortBy RG.id house) W) from fun W h => by
    have := rooms19_any A1 n1 k1 house W (by omega) (HM1.out.below h)
    rwa [List.filter_eq_self.2 (fun _ _ => rfl)] at this)
  have hRl : (sortBy RG.id house).length ≤ 400 := by rw [(sortBy_perm _).length_eq, HM1.out.len]; exact h400
  have x0 := cell_of HP1.out 0
  have x1 := cell_of HP1.out 1
  have x2 := cell_of HP1.out 2
  have x3 := cell_of HP1.out 3
  have x4 := cell_of HP1.out 4
  clear hv1 hv2 r1 r2 r3 r4 s1 s2 s3 s4
  by_cases hk : kind = 1 ∨ kind = 2
  rotate_left
  · have t1 : (kind != 1) = true := by simp; omega
    have t2 : (kind != 2) = true := by simp; omega
    have HN := Lib.hid (show ¬ ShowsP (roomsS (house.map RG.rm)) (nightS all night) ⟨kind, night, ss, rs⟩ ∨ inB night 0 365 = false ∨ nb ≠ 0 from .inl fun h => hk h.1)
    clear hk
    go_wp2_with fail
    go_ret2
    exact ShowRes_no HC.out HN.out HBw.out
  have HK := Lib.hid hk
  by_cases hlo : night < 0
  · have t3 : decide (night < 0) = true := decide_eq_true hlo
    have HN := Lib.hid (show ¬ ShowsP (roomsS (house.map RG.rm)) (nightS all night) ⟨kind, night, ss, rs⟩ ∨ inB night 0 365 = false ∨ nb ≠ 0 from .inr (.inl (by unfold inB; simp; omega)))
    rcases hk with rfl | rfl
    all_goals
      go_wp2_with fail
      go_ret2
      exact ShowRes_no HC.out HN.out HBw.out
  by_cases hhi : 365 < night
  · have t3 : decide (night < 0) = false := decide_eq_false hlo
    have t4 : decide (365 < night) = true := decide_eq_true hhi
    have HN := Lib.hid (show ¬ ShowsP (roomsS (house.map RG.rm)) (nightS all night) ⟨kind, night, ss, rs⟩ ∨ inB night 0 365 = false ∨ nb ≠ 0 from .inr (.inl (by unfold inB; simp; omega)))
    rcases hk with rfl | rfl
    all_goals
      go_wp2_with fail
      go_ret2
      exact ShowRes_no HC.out HN.out HBw.out
  by_cases hn0 : nb = 0
  rotate_left
  · have t3 : decide (night < 0) = false := decide_eq_false hlo
    have t4 : decide (365 < night) = false := decide_eq_false hhi
    have t5 : decide ((0 : Int) < (nb : Int)) = true := by simp; omega
    have HN := Lib.hid (show ¬ ShowsP (roomsS (house.map RG.rm)) (nightS all night) ⟨kind, night, ss, rs⟩ ∨ inB night 0 365 = false ∨ nb ≠ 0 from .inr (.inr hn0))
    rcases hk with rfl | rfl
    all_goals
      go_wp2_with fail
      go_ret2
      exact ShowRes_no HC.out HN.out HBw.out
  by_cases hlt : rs.length < ss.length
  rotate_left
  · have t3 : decide (night < 0) = false := decide_eq_false hlo
    have t4 : decide (365 < night) = false := decide_eq_false hhi
    have t5 : decide ((0 : Int) < (nb : Int)) = false := by simp; omega
    have t6 : decide ((ss.length : Int) ≤ (rs.length : Int)) = true := by simp; omega
    have HN := Lib.hid (show ¬ ShowsP (roomsS (house.map RG.rm)) (nightS all night) ⟨kind, night, ss, rs⟩ ∨ inB night 0 365 = false ∨ nb ≠ 0 from .inl fun h => hlt h.2.1)
    rcases hk with rfl | rfl
    all_goals
      go_wp2_with fail
      go_ret2
      exact ShowRes_no HC.out HN.out HBw.out
  have HNi := Lib.hid (show inB night 0 365 = true from by unfold inB; simp; omega)
  subst hn0
  have t3 : decide (night < 0) = false := decide_eq_false hlo
  have t4 : decide (365 < night) = false := decide_eq_false hhi
  have t5 : decide ((0 : Int) < ((0 : Nat) : Int)) = false := rfl
  have t6 : decide ((ss.length : Int) ≤ (rs.length : Int)) = false := by simp; omega
  have HLt := Lib.hid hlt
  obtain ⟨i1, hj, hy0, hy1, hy2⟩ := info_parts info_stH
  go_upto_region 4 with fail
  go_cut [55] from 23 to 55 (fun u wx => u = .bool false ∧ wx = w1)
  case first =>
    rcases hk with rfl | rfl
    · go_wp2_with fail
      go_meet
      exact ⟨by rw [decide_eq_false (by omega)], rfl⟩
    · go_wp2_with fail
      go_meet
      exact ⟨by rw [decide_eq_false (by omega)], rfl⟩
  case rest =>
    obtain ⟨rfl, rfl⟩ := hcut
    generalize wc = W1 at *
    clear x0 x1 x2 x3 x4 t3 t4 t5 t6 hlo hhi hk
    have hwb : w.heap.size < W1.heap.size := (Array.getElem?_eq_some_iff.1 HP1.out).1
    have x2 := cell_of HP1.out 2
    go_wp2_with fail
    clear x2
    go_loopw [9, 10] (fun v q wr => ∃ (j : Nat) (M : List St), j ≤ ss.length ∧ q = .int .i64 j ∧ M.map St.id = ss.take j ∧ (∀ s ∈ M, s ∈ all ∧ hasB s night = true) ∧ (ss.take j).Pairwise (· < ·) ∧ wr.ownsRow W1.heap.size 36 9 v M.length (M.flatMap stC) ∧ Below W1.heap.size W1 wr) (fun _ q _ => ss.length - (intOf q).toNat)
    case atStart => exact ⟨0, [], Nat.zero_le _, rfl, rfl, (fun s hs => (by cases hs)), List.Pairwise.nil, World.ownsRow_nil _ _ _ _, Below.refl _ _⟩
    case round =>
      obtain ⟨j, M, hj', rfl, hM, hin, hpw, hO, hB⟩ := hrel
      have HMi := Lib.hid hM
      have HIn := Lib.hid hin
      have HPw := Lib.hid hpw
      have HO := Lib.hid hO
      have HB := Lib.hid hB
      have HBw2 := Lib.hid (HBw.out.tr hB)
      have HPr := Lib.hid ((hB.block w.heap.size hwb).trans HP1.out)
      have hml : M.length = j := by
        have := congrArg List.length hM
        rw [List.length_map, List.length_take] at this
        omega
      have HMl := Lib.hid hml
      have x2 := cell_of HPr.out 2
      clear hM hin hpw hO hB hml
      by_cases hlj : j < ss.length
      rotate_left
      · obtain rfl : j = ss.length := by omega
        have HMs := Lib.hid (show M.map St.id = ss from by have := HMi.out; rwa [List.take_of_length_le (Nat.le_refl _)] at this)
        have HPs := Lib.hid (show ss.Pairwise (· < ·) from by have := HPw.out; rwa [List.take_of_length_le (Nat.le_refl _)] at this)
        have hm3 : M.length ≤ 3000 := by
          have h1 : (M.map St.id).Nodup := by rw [HMs.out]; exact HPs.out.imp fun h => by omega
          have h2 := hnodup_sub h1 (b := all.map St.id) fun x hx => by
            obtain ⟨s, hs, rfl⟩ := List.mem_map.1 hx
            exact List.mem_map.2 ⟨s, (HIn.out s hs).1, rfl⟩
          rw [List.length_map, List.length_map, HM2.out.len] at h2
          omega
        have HPi := Lib.hid (show ∀ kq : Int, kq = kind → (ShowsP (roomsS (house.map RG.rm)) (nightS all night) ⟨kind, night, ss, rs⟩ ↔ (rs = ((sortBy RG.id house).filter fun x => M.any fun s => suitsB s x.rm).map RG.id ∧ okK kind M (sortBy RG.id house) (sortBy RG.id house).length)) from fun kq _ => by
          rw [shows_of (r := ⟨kind, night, ss, rs⟩) HSs.out HK.out HLt.out HMs.out HPs.out fun s hs => mem_nightS.2 ⟨(HIn.out s hs).1, (HIn.out s hs).2⟩]
          rw [HRe.out, rms_rm, okK_end])
        have HMok := Lib.hid (show ∀ s ∈ M, s.ok ∧ periodB ⟨s.fr, s.un⟩ = true from fun s hs => ⟨HM2.out.ok s (HIn.out s hs).1, HPd.out s (HIn.out s hs).1⟩)
        obtain ⟨Am, cm, rfl, _, _, hrm⟩ := rd_of_own HO.out (by decide)
        have HRm2 := Lib.hid hrm
        clear hrm HO hlj hj' HPw HMi HIn HMl
        generalize sortBy RG.id house = R at *
        go_wp2_with fail
        refine (HRm.out _ HBw2.out).mono ?_
        rintro e w5 ⟨A5, c5, rfl, _, _, hM5, hb5⟩
        have HM5 := Lib.hid hM5
        have HBw5 := Lib.hid (HBw2.out.tr hb5)
        have HP5 := Lib.hid ((hb5.block w.heap.size (Array.getElem?_eq_some_iff.1 HPr.out).1).trans HPr.out)
        have HRm5 := Lib.hid (HRm2.out.to hb5 hb5.size)
        have HTb := Lib.hid (table19_any A5 Am R.length M.length c5 cm R M w5 hRl hm3 hM5 ⟨rfl, HRm5.out, fun s hs => (HMok.out s hs).1⟩ HFm2.out (fun s hs => (HMok.out s hs).2))
        clear hM5 hb5 x2
        go_wp2_with fail
        refine HTb.out.mono ?_
        rintro e w6 ⟨At, ct, gs, hgs, rfl, _, _, hT, hb6, _, _, _⟩
        have HGs := Lib.hid hgs
        have hgl : gs.length = M.length := by
          have := congrArg List.length hgs
          rwa [List.length_map, tabOf, List.length_map] at this
        have HGl := Lib.hid hgl
        have HT6 := Lib.hid hT
        have HBw6 := Lib.hid (HBw5.out.tr hb6)
        have HP6 := Lib.hid ((hb6.block w.heap.size (Array.getElem?_eq_some_iff.1 HP5.out).1).trans HP5.out)
        have HM6 := Lib.hid (HM5.out.below hb6)
        have HTl := Lib.hid (fun j (h : j < gs.length) => show gs[j].bs.length = R.length from by
          have h1 : gs[j].bs ∈ tabOf (R.map RG.rm) M := by rw [← HGs.out]; exact List.mem_map.2 ⟨_, List.getElem_mem h, rfl⟩
          obtain ⟨s, _, e⟩ := List.mem_map.1 h1
          rw [← e, List.length_map, List.length_map])
        clear hgs hT hb6 hgl HTb HP5 HBw5 HM5 HRm5 HPr HBw2 HB
        go_wp2_with fail
        go_loopw [14, 15] (fun nv q wr => ∃ (k n : Nat), k ≤ R.length ∧ q = .int .i64 k ∧ nv = .int .i64 n ∧ rs.take n = ((R.take k).filter fun x => M.any fun s => suitsB s x.rm).map RG.id ∧ n ≤ rs.length ∧ okK kind M R k ∧ Below w6.heap.size w6 wr) (fun _ q _ => R.length - (intOf q).toNat)
        case atStart => exact ⟨0, 0, Nat.zero_le _, rfl, rfl, by simp, Nat.zero_le _, (fun _ x hx => (by simp at hx)), Below.refl _ _⟩
        case round =>
          obtain ⟨k, n, hk', rfl, rfl, hrt, hnl, hok, hB⟩ := hrel
          have HRt := Lib.hid hrt
          have HOk := Lib.hid hok
          have HB := Lib.hid hB
          have HBw := Lib.hid (HBw6.out.tr hB)
          have HPr := Lib.hid ((hB.block w.heap.size (Array.getElem?_eq_some_iff.1 HP6.out).1).trans HP6.out)
          clear hrt hok hB
          by_cases hlk : k < R.length
          rotate_left
          · obtain rfl : k = R.length := by omega
            have x3 := cell_of HPr.out 3
            obtain ⟨bq, hbq⟩ : ∃ b, decide (n = rs.length) = b := ⟨_, rfl⟩
            have t1 : ((n : Int) == (rs.length : Int)) = bq := by rw [← hbq, Bool.eq_iff_iff]; simp; omega
            have t2 : decide ((n : Int) = (rs.length : Int)) = bq := by rw [← hbq, Bool.eq_iff_iff]; simp; omega
            have HN := Lib.hid (show bq = true ↔ ShowsP (roomsS (house.map RG.rm)) (nightS all night) ⟨kind, night, ss, rs⟩ from by
              rw [← hbq, decide_eq_true_eq, HPi.out kind rfl]
              have h1 := HRt.out
              rw [List.take_length] at h1
              constructor
              · intro e
                rw [e, List.take_length] at h1
                exact ⟨h1, HOk.out⟩
              · rintro ⟨h2, _⟩
                have h3 := congrArg List.length h1
                rw [← h2, List.length_take] at h3
                omega)
            clear hbq HRt
            go_wp2_with fail
            go_ret2
            exact ShowRes_yes HC.out ⟨fun e => ⟨HN.out.1 e, HNi.out, rfl⟩, fun e => HN.out.2 e.1⟩ HBw.out
          have HCl := Lib.hid (cntS_le M R[k].rm)
          have HCs := Lib.hid (fun j (h : j < M.length) => cntS_step (M := M) (x := R[k].rm) h)
          have HCz := Lib.hid (show cntS M R[k].rm 0 = 0 from by simp [cntS])
          have HRs := Lib.hid (rmi_step (M := M) hlk)
          have HTail := Lib.hid (fun h => rmi_tail (M := M) hlk h)
          have HOs := Lib.hid (fun h => okK_step hlk HOk.out h)
          have HOa := Lib.hid (fun h1 h2 h3 => okK_at (kind := kind) (M := M) hlk h1 h2 h3)
          have HTr := Lib.hid (HT6.out.to HB.out HB.out.size)
          have HTf := Lib.hid (fun j (h : j < gs.length) (hk : k < gs[j].bs.length) (hm : j < M.length) => show gs[j].bs[k] = suitsB M[j] R[k].rm from by
            rw [← tfit_at h hk, tfit_tab HGs.out hm (by rw [List.length_map]; exact hlk)]
            unfold fitOf
            rw [getD_list hm, getD_list (by rw [List.length_map]; exact hlk), List.getElem_map])
          obtain ⟨b2, of2, eR, hb2, hc2⟩ := (HM6.out.to HB.out HB.out.size).at_ (show 0 < R.length by omega)
          have hid0 := (hc2 k hlk).1
          subst eR
          clear hc2
          generalize R[k] = x at *
          obtain ⟨Wq, rfl⟩ : ∃ x : World, x = wr := ⟨_, rfl⟩
          go_wp2_with fail
          go_loopw [16, 17] (fun m i wx => ∃ j : Nat, j ≤ M.length ∧ i = .int .i64 j ∧ m = .int .i64 (cntS M x.rm j : Nat) ∧ wx = Wq) (fun _ i _ => M.length - (intOf i).toNat)
          case atStart => exact ⟨0, Nat.zero_le _, rfl, by rw [HCz.out]; rfl, rfl⟩
          case round =>
            obtain ⟨j, hj3, rfl, rfl, rfl⟩ := hrel
            by_cases hlj : j < M.length
            · have hjg : j < gs.length := by rw [HGl.out]; exact hlj
              obtain ⟨bt, ot, eT, hbt, hct⟩ := HTr.out.at_ (show 0 < gs.length by omega)
              have hc0 := hct j hjg
              have hok := HTr.out.ok _ (List.getElem_mem hjg)
              have hbl := HTl.out j hjg
              have hkb : k < gs[j].bs.length := by rw [hbl]; exact hlk
              have hln : gs[j].n = R.length := by rw [← hok.len, hbl]
              obtain ⟨b3, o3, eA, hb3, hc3⟩ := rd_bool hok.rd k hkb
              rw [eA, hln] at hc0
              have HFb := Lib.hid (HTf.out j hjg hkb hlj)
              have HCj := Lib.hid (HCs.out j hlj)
              have hcl := HCl.out j
              have hjg2 : j < gs.length := hjg
              subst eT
              clear hct hok hbl hln eA hid0
              generalize gs[j].c = cc at *
              generalize gs[j].bs[k] = fb at *
              generalize suitsB M[j] x.rm = sb at *
              have hfb := HFb.out
              subst hfb
              cases fb
              · have HC1 := Lib.hid (show cntS M x.rm (j + 1) = cntS M x.rm j from by rw [HCj.out]; simp)
                generalize cntS M x.rm j = cj at *
                go_wp2_with fail
                go_roundw
                case rel => exact ⟨j + 1, by omega, by go_num, by rw [HC1.out], trivial⟩
                case measure => simp [intOf]; omega
              · have HC1 := Lib.hid (show cntS M x.rm (j + 1) = cntS M x.rm j + 1 from by rw [HCj.out]; simp)
                generalize cntS M x.rm j = cj at *
                go_wp2_with fail
                go_roundw
                case rel => exact ⟨j + 1, by omega, by go_num, by rw [HC1.out]; go_num, trivial⟩
                case measure => simp [intOf]; omega
            obtain rfl : j = M.length := by omega
            have hcl := HCl.out M.length
            clear HCs HTf HCz HCl hlj hj3
            generalize cntS M x.rm M.length = cn at *
            by_cases hcn : cn = 0
            · have t0 : ((cn : Int) == 0) = true := by simp; omega
              have t1 : decide ((cn : Int) = 0) = true := decide_eq_true (by omega)
              have HR2 := Lib.hid (show ((R.take (k + 1)).filter fun x => M.any fun s => suitsB s x.rm).map RG.id = ((R.take k).filter fun x => M.any fun s => suitsB s x.rm).map RG.id from by rw [HRs.out, if_neg (by omega)]; simp)
              have HO2 := Lib.hid (HOs.out fun _ h => by omega)
              clear hcn HRs HTail HOs HOa hid0
              go_wp2_with fail
              go_roundw
              case rel => exact ⟨k + 1, n, by omega, by go_num, rfl, by rw [HR2.out]; exact HRt.out, hnl, HO2.out, HB.out⟩
              case measure => simp [intOf]; omega
            have t0 : ((cn : Int) == 0) = false := by simp; omega
            have t1 : decide ((cn : Int) = 0) = false := decide_eq_false (by omega)
            obtain ⟨bt, hbt⟩ := bit2_of rs n x.id kind cn M.length
            have HBt := Lib.hid hbt
            have x0 := cell_of HPr.out 0
            have x3 := cell_of HPr.out 3
            have hwr := (Array.getElem?_eq_some_iff.1 HPr.out).1
            have y0 : ∀ p' : Kp wr, p'.x.cell? ⟨w.heap.size, 0, none⟩ = some (.int .i64 kind) := kp_cell hwr x0
            have y3 : ∀ p' : Kp wr, p'.x.cell? ⟨w.heap.size, 3, none⟩ = some (.slice Ar rs.length cr) := kp_cell hwr x3
            have y5 : ∀ p' : Kp wr, p'.x.cell? ⟨b2, of2 + k * 6, none⟩ = some (.int .i64 x.id) := kp_cell hb2 hid0
            have HRr := Lib.hid (fun q (hq : q < rs.length) => show ∃ b o, Ar = some ⟨b, o, none⟩ ∧ b < wr.heap.size ∧ wr.cell? ⟨b, o + q, none⟩ = some (.int .i64 rs[q]) from rd_int (HRo.out.to HBw.out HBw.out.size) q hq)
            clear hbt x0 x3 hid0
            go_upto_region 27 with fail
            go_cut [163] from 135 to 163 (fun u wx => u = .bool bt ∧ Below wr.heap.size wr wx)
            case first =>
              rcases HBt.out with ⟨h1, rfl⟩ | ⟨hq, h2⟩
              · have d1 : decide ((rs.length : Int) ≤ (n : Int)) = true := decide_eq_true (by omega)
                have d2 : decide (rs.length ≤ n) = true := decide_eq_true h1
                clear h1
                refine region_below (by kernel_rfl) (by kernel_rfl) ?_
                repeat (first | go_big_quiet_step (fail) | quiet_step (fail))
                refine wpQuiet_nil ?_
                rintro w7 ⟨⟨X3, hb⟩, e2⟩
                have e3 : w7 = X3 := e2
                subst e3
                clear e2
                go_wp2_with fail
                go_meet
                exact ⟨rfl, hb⟩
              · have d1 : decide ((rs.length : Int) ≤ (n : Int)) = false := decide_eq_false (by omega)
                have d2 : decide (rs.length ≤ n) = false := decide_eq_false (by omega)
                obtain ⟨b4, o4, eA4, hb4, hc4⟩ := HRr.out n hq
                subst eA4
                have y6 : ∀ p' : Kp wr, p'.x.cell? ⟨b4, o4 + n, none⟩ = some (.int .i64 rs[n]) := kp_cell hb4 hc4
                clear hc4
                rcases h2 with ⟨hne, rfl⟩ | ⟨he, hbe⟩
                · generalize rs[n] = rn at *
                  have d3 : (rn != x.id) = true := by simpa using hne
                  clear hne
                  refine region_below (by kernel_rfl) (by kernel_rfl) ?_
                  repeat (first | go_big_quiet_step (fail) | quiet_step (fail))
                  refine wpQuiet_nil ?_
                  rintro w7 ⟨⟨X3, hb⟩, e2⟩
                  have e3 : w7 = X3 := e2
                  subst e3
                  clear e2
                  go_wp2_with fail
                  go_meet
                  exact ⟨rfl, hb⟩
                · generalize rs[n] = rn at *
                  subst he
                  have d3 : (x.id != x.id) = false := by simp
                  have HBe := Lib.hid hbe
                  clear hbe
                  by_cases hk1 : kind = 1
                  · have d4 : (kind == 1) = true := by simpa using hk1
                    by_cases hf : cn < M.length
                    · have d5 : decide ((cn : Int) < (M.length : Int)) = true := decide_eq_true (by omega)
                      have d6 : decide (cn < M.length) = true := decide_eq_true hf
                      have HBe2 := Lib.hid (show bt = true from by rw [HBe.out, decide_eq_true hk1, d6]; rfl)
                      clear hk1 hf HBe
                      refine region_below (by kernel_rfl) (by kernel_rfl) ?_
                      repeat (first | go_big_quiet_step (fail) | quiet_step (fail))
                      refine wpQuiet_nil ?_
                      rintro w7 ⟨⟨X3, hb⟩, e2⟩
                      have e3 : w7 = X3 := e2
                      subst e3
                      clear e2
                      go_wp2_with fail
                      go_meet
                      exact ⟨by rw [HBe2.out], hb⟩
                    · have d5 : decide ((cn : Int) < (M.length : Int)) = false := decide_eq_false (by omega)
                      have d6 : decide (cn < M.length) = false := decide_eq_false hf
                      have HBe2 := Lib.hid (show bt = false from by rw [HBe.out, d6]; simp)
                      clear hk1 hf HBe
                      refine region_below (by kernel_rfl) (by kernel_rfl) ?_
                      repeat (first | go_big_quiet_step (fail) | quiet_step (fail))
                      refine wpQuiet_nil ?_
                      rintro w7 ⟨⟨X3, hb⟩, e2⟩
                      have e3 : w7 = X3 := e2
                      subst e3
                      clear e2
                      go_wp2_with fail
                      go_meet
                      exact ⟨by rw [HBe2.out], hb⟩
                  · have d4 : (kind == 1) = false := by simpa using hk1
                    have HBe2 := Lib.hid (show bt = false from by rw [HBe.out, decide_eq_false hk1]; rfl)
                    clear hk1 HBe
                    refine region_below (by kernel_rfl) (by kernel_rfl) ?_
                    repeat (first | go_big_quiet_step (fail) | quiet_step (fail))
                    refine wpQuiet_nil ?_
                    rintro w7 ⟨⟨X3, hb⟩, e2⟩
                    have e3 : w7 = X3 := e2
                    subst e3
                    clear e2
                    go_wp2_with fail
                    go_meet
                    exact ⟨by rw [HBe2.out], hb⟩
            case rest =>
              obtain ⟨rfl, hb⟩ := hcut
              generalize wc = W7 at *
              have HB7 := Lib.hid (HB.out.tr hb)
              have HBw7 := Lib.hid (HBw.out.tr hb)
              have hcp : 0 < cn := by omega
              clear hb y0 y3 y5 hcn
              cases bt
              · obtain ⟨hq, he, hbe⟩ : ∃ hq : n < rs.length, rs[n] = x.id ∧ (kind = 1 → ¬ cn < M.length) := by
                  rcases HBt.out with ⟨_, h⟩ | ⟨hq, ⟨_, h⟩ | ⟨he, h⟩⟩
                  · cases h
                  · cases h
                  · refine ⟨hq, he, fun hk1 hf => ?_⟩
                    rw [decide_eq_true hk1, decide_eq_true hf] at h
                    cases h
                have HR2 := Lib.hid (show rs.take (n + 1) = ((R.take (k + 1)).filter fun x => M.any fun s => suitsB s x.rm).map RG.id from by rw [HRs.out, if_pos hcp, List.take_succ_eq_append_getElem hq, HRt.out, he])
                have HO2 := Lib.hid (HOs.out fun hk1 _ => by have := hbe hk1; omega)
                have hq1 : n + 1 ≤ rs.length := hq
                clear HRs HTail HOs HOa he hbe HBt hcp
                go_wp2_with fail
                go_roundw
                case rel => exact ⟨k + 1, n + 1, by omega, by go_num, by go_num, HR2.out, hq1, HO2.out, HB7.out⟩
                case measure => simp [intOf]; omega
              · have HN := Lib.hid (show ¬ ShowsP (roomsS (house.map RG.rm)) (nightS all night) ⟨kind, night, ss, rs⟩ ∨ inB night 0 365 = false ∨ 0 ≠ 0 from .inl fun h => by
                  obtain ⟨h1, h2⟩ := (HPi.out kind rfl).1 h
                  obtain ⟨tl, h3⟩ := HTail.out hcp
                  rw [← h1, ← HRt.out] at h3
                  have hln : (rs.take n).length = n := by rw [List.length_take]; omega
                  have h4 : rs[n]? = some x.id := by
                    rw [h3, List.getElem?_append_right (by omega), hln, Nat.sub_self]
                    rfl
                  obtain ⟨hq, he⟩ := List.getElem?_eq_some_iff.1 h4
                  rcases HBt.out with ⟨h5, _⟩ | ⟨hq', ⟨h6, _⟩ | ⟨_, h7⟩⟩
                  · omega
                  · exact h6 he
                  · have h7 := h7.symm
                    rw [Bool.and_eq_true, decide_eq_true_eq, decide_eq_true_eq] at h7
                    have := HOa.out h2 h7.1 hcp
                    omega)
                clear HRs HTail HOs HOa HBt hcp HPi
                go_wp2_with fail
                go_ret2
                exact ShowRes_no HC.out HN.out HBw7.out
      obtain ⟨bs, os, eA, hbs, hcs⟩ := rd_int (HSt.out.to HBw2.out HBw2.out.size) j hlj
      have HX := Lib.hid (fun (W : World) (h : Below w.heap.size w W) => index17_any A2 n2 k2 ss[j] all W hn2 (HM2.out.below h))
      have HNo := Lib.hid (fun (h : ShowsP (roomsS (house.map RG.rm)) (nightS all night) ⟨kind, night, ss, rs⟩) => show ∃ s ∈ all, hasB s night = true ∧ s.id = ss[j] from by
        obtain ⟨s, h1, h2⟩ := (shows_stays h HSs.out).2 ss[j] (List.getElem_mem hlj)
        obtain ⟨h3, h4⟩ := mem_nightS.1 h1
        exact ⟨s, h3, h4, h2⟩)
      have HUp := Lib.hid (fun (h : ShowsP (roomsS (house.map RG.rm)) (nightS all night) ⟨kind, night, ss, rs⟩) q (hq : q < ss.length) (e : j = q + 1) => show ss[q] < ss[j] from by
        have h1 := (shows_stays h HSs.out).1
        rw [List.pairwise_iff_getElem] at h1
        exact h1 q j hq hlj (by omega))
      have HTk := Lib.hid (show ss.take (j + 1) = ss.take j ++ [ss[j]] from List.take_succ_eq_append_getElem hlj)
      have HPv := Lib.hid (fun (W : World) (h : Below w.heap.size w W) q (hq : q < ss.length) (e : j = q + 1) => show ∃ b o, As = some ⟨b, o, none⟩ ∧ W.cell? ⟨b, o + q, none⟩ = some (.int .i64 ss[q]) from by
        obtain ⟨b, o, e1, _, e2⟩ := rd_int (HSt.out.to h h.size) q hq
        exact ⟨b, o, e1, e2⟩)
      go_wp2_with fail
      refine (HX.out _ HBw2.out).mono ?_
      rintro e W4 ⟨rfl, hb4⟩
      have HB4 := Lib.hid (HB.out.tr hb4)
      have HBw4 := Lib.hid (HBw2.out.tr hb4)
      have HP4 := Lib.hid ((hb4.block w.heap.size (by have := HB.out.size; omega)).trans HPr.out)
      have HO4 := Lib.hid (owns_keepH HO.out hb4)
      have hcs4 := (hb4.cell (p := ⟨bs, os + j, none⟩) hbs).trans hcs
      have hbs4 : bs < W4.heap.size := Nat.lt_of_lt_of_le hbs hb4.size
      clear hb4 x2 hcs HX HB HBw2 HPr HO hbs
      obtain ⟨bt, hbt⟩ := bit_of all ss j hlj night
      have x1 := cell_of HP4.out 1
      have x2 := cell_of HP4.out 2
      have y1 : ∀ p' : Kp W4, p'.x.cell? ⟨w.heap.size, 1, none⟩ = some (.int .i64 night) := kp_cell (Array.getElem?_eq_some_iff.1 HP4.out).1 x1
      have y2 : ∀ p' : Kp W4, p'.x.cell? ⟨w.heap.size, 2, none⟩ = some (.slice As ss.length cs) := kp_cell (Array.getElem?_eq_some_iff.1 HP4.out).1 x2
      subst eA
      have y3 : ∀ p' : Kp W4, p'.x.cell? ⟨bs, os + j, none⟩ = some (.int .i64 ss[j]) := kp_cell hbs4 hcs4
      clear x1 x2 hcs4
      go_upto_region 11 with fail
      rcases hbt with ⟨h1, h2, _⟩ | ⟨k, hk, h1, h2, h3⟩
      · have HN := Lib.hid (show ¬ ShowsP (roomsS (house.map RG.rm)) (nightS all night) ⟨kind, night, ss, rs⟩ ∨ inB night 0 365 = false ∨ 0 ≠ 0 from .inl fun h => by
          obtain ⟨s, q1, _, q3⟩ := HNo.out h
          exact h2 s q1 q3)
        rw [h1]
        clear h1 h2 HNo HUp HPv
        refine region_below (by kernel_rfl) (by kernel_rfl) ?_
        repeat (first | go_big_quiet_step (fail) | quiet_step (fail))
        refine wpQuiet_nil ?_
        rintro w6 ⟨⟨X3, hb⟩, e2⟩
        have e3 : w6 = X3 := e2
        subst e3
        clear e2
        have HBw := Lib.hid (HBw4.out.tr hb)
        go_wp2_with fail
        go_ret2
        exact ShowRes_no HC.out HN.out HBw.out
      rw [h1]
      have H3 := Lib.hid h3
      have d1 : decide ((k : Int) < 0) = false := decide_eq_false (by omega)
      have hkn : k < n2 := by rw [← HM2.out.len]; exact hk
      clear h1 h3
      go_cut [99] from 70 to 99 (fun u wx => u = .bool bt ∧ Below W4.heap.size W4 wx)
      case first =>
        · rcases H3.out with ⟨q, hq, hjq, hle, rfl⟩ | ⟨hup, hbe⟩
          · obtain ⟨b', o', e', hpq⟩ := HPv.out W4 HBw4.out q hq hjq
            cases e'
            have y4 : ∀ p' : Kp W4, p'.x.cell? ⟨bs, os + q, none⟩ = some (.int .i64 ss[q]) := kp_cell hbs4 hpq
            generalize ss[q] = xq at *
            generalize ss[j] = xj at *
            have d2 : decide ((0 : Int) < (j : Int)) = true := decide_eq_true (by omega)
            have d22 : decide (0 < j) = true := decide_eq_true (by omega)
            have d3 : decide (xj ≤ xq) = true := decide_eq_true hle
            have hsub : (j : Int) - 1 = q := by omega
            clear h2 hpq hle hjq H3
            refine region_below (by kernel_rfl) (by kernel_rfl) ?_
            repeat (first | go_big_quiet_step (fail) | quiet_step (fail))
            refine wpQuiet_nil ?_
            rintro w6 ⟨⟨X3, hb⟩, e2⟩
            have e3 : w6 = X3 := e2
            subst e3
            clear e2
            go_wp2_with fail
            go_meet
            exact ⟨rfl, hb⟩
          · obtain ⟨bb, off, eB, hb0, hc0⟩ := HM2.out.at_ (show 0 < n2 by omega)
            have HCS := Lib.hid (fun (W : World) (h : Below w.heap.size w W) => show W.cell? ⟨bb, off + k * 9, none⟩ = some (.int .i64 all[k].id) ∧ W.cell? ⟨bb, off + k * 9 + 1, none⟩ = some (.int .i64 all[k].kind) ∧ W.cell? ⟨bb, off + k * 9 + 2, none⟩ = some (.int .i64 all[k].fr) ∧ W.cell? ⟨bb, off + k * 9 + 3, none⟩ = some (.int .i64 all[k].un) ∧ W.cell? ⟨bb, off + k * 9 + 4, none⟩ = some (.int .i64 all[k].persons) ∧ W.cell? ⟨bb, off + k * 9 + 5, none⟩ = some (.int .i64 all[k].room) ∧ W.cell? ⟨bb, off + k * 9 + 6, none⟩ = some (.int .i64 all[k].wth) ∧ W.cell? ⟨bb, off + k * 9 + 7, none⟩ = some (.bool all[k].access) ∧ W.cell? ⟨bb, off + k * 9 + 8, none⟩ = some (.bool all[k].inn) from by
              obtain ⟨c0, c1, c2, c3, c4, c5, c6, c7, c8⟩ := hc0 k hk
              exact ⟨(h.cell (p := ⟨bb, off + k * 9, none⟩) hb0).trans c0, (h.cell (p := ⟨bb, off + k * 9 + 1, none⟩) hb0).trans c1, (h.cell (p := ⟨bb, off + k * 9 + 2, none⟩) hb0).trans c2, (h.cell (p := ⟨bb, off + k * 9 + 3, none⟩) hb0).trans c3, (h.cell (p := ⟨bb, off + k * 9 + 4, none⟩) hb0).trans c4, (h.cell (p := ⟨bb, off + k * 9 + 5, none⟩) hb0).trans c5, (h.cell (p := ⟨bb, off + k * 9 + 6, none⟩) hb0).trans c6, (h.cell (p := ⟨bb, off + k * 9 + 7, none⟩) hb0).trans c7, (h.cell (p := ⟨bb, off + k * 9 + 8, none⟩) hb0).trans c8⟩)
            subst eB
            clear hc0 h2 H3
            generalize all[k] = s at *
            obtain ⟨c0, c1, c2, c3, c4, c5, c6, c7, c8⟩ := HCS.out _ HBw4.out
            have hbb : bb < W4.heap.size := Nat.lt_of_lt_of_le hb0 HBw4.out.size
            have f0 : ∀ p' : Kp W4, p'.x.cell? ⟨bb, off + k * 9, none⟩ = some (.int .i64 s.id) := kp_cell hbb c0
            have f1 : ∀ p' : Kp W4, p'.x.cell? ⟨bb, off + k * 9 + 1, none⟩ = some (.int .i64 s.kind) := kp_cell hbb c1
            have f2 : ∀ p' : Kp W4, p'.x.cell? ⟨bb, off + k * 9 + 2, none⟩ = some (.int .i64 s.fr) := kp_cell hbb c2
            have f3 : ∀ p' : Kp W4, p'.x.cell? ⟨bb, off + k * 9 + 3, none⟩ = some (.int .i64 s.un) := kp_cell hbb c3
            have f4 : ∀ p' : Kp W4, p'.x.cell? ⟨bb, off + k * 9 + 4, none⟩ = some (.int .i64 s.persons) := kp_cell hbb c4
            have f5 : ∀ p' : Kp W4, p'.x.cell? ⟨bb, off + k * 9 + 5, none⟩ = some (.int .i64 s.room) := kp_cell hbb c5
            have f6 : ∀ p' : Kp W4, p'.x.cell? ⟨bb, off + k * 9 + 6, none⟩ = some (.int .i64 s.wth) := kp_cell hbb c6
            have f7 : ∀ p' : Kp W4, p'.x.cell? ⟨bb, off + k * 9 + 7, none⟩ = some (.bool s.access) := kp_cell hbb c7
            have f8 : ∀ p' : Kp W4, p'.x.cell? ⟨bb, off + k * 9 + 8, none⟩ = some (.bool s.inn) := kp_cell hbb c8
            have HHas := Lib.hid (fun W => has17_any s night W)
            have HBe := Lib.hid hbe
            clear c0 c1 c2 c3 c4 c5 c6 c7 c8 hbe
            generalize hasB s night = hh at *
            by_cases hj0 : j = 0
            · subst hj0
              have d2 : decide ((0 : Int) < ((0 : Nat) : Int)) = false := rfl
              clear hup
              generalize ss[0] = xj at *
              refine region_below (by kernel_rfl) (by kernel_rfl) ?_
              repeat (first | go_big_quiet_step ((go_at_call 178; exact kp_call _ (HHas.out _))) | quiet_step ((go_at_call 178; exact kp_call _ (HHas.out _))))
              refine wpQuiet_nil ?_
              rintro w6 ⟨⟨X3, hb⟩, e2⟩
              have e3 : w6 = X3 := e2
              subst e3
              clear e2
              go_wp2_with fail
              go_meet
              exact ⟨by rw [HBe.out], hb⟩
            · obtain ⟨q, hjq⟩ : ∃ q, j = q + 1 := ⟨j - 1, by omega⟩
              have hq : q < ss.length := by omega
              obtain ⟨b', o', e', hpq⟩ := HPv.out W4 HBw4.out q hq hjq
              cases e'
              have y4 : ∀ p' : Kp W4, p'.x.cell? ⟨bs, os + q, none⟩ = some (.int .i64 ss[q]) := kp_cell hbs4 hpq
              have hlq := hup q hq hjq
              have d2 : decide ((0 : Int) < (j : Int)) = true := decide_eq_true (by omega)
              have d22 : decide (0 < j) = true := decide_eq_true (by omega)
              have hsub : (j : Int) - 1 = q := by omega
              clear hup hpq hjq hj0
              generalize ss[q] = xq at *
              generalize ss[j] = xj at *
              have d3 : decide (xj ≤ xq) = false := decide_eq_false (by omega)
              clear hlq
              refine region_below (by kernel_rfl) (by kernel_rfl) ?_
              repeat (first | go_big_quiet_step ((go_at_call 178; exact kp_call _ (HHas.out _))) | quiet_step ((go_at_call 178; exact kp_call _ (HHas.out _))))
              refine wpQuiet_nil ?_
              rintro w6 ⟨⟨X3, hb⟩, e2⟩
              have e3 : w6 = X3 := e2
              subst e3
              clear e2
              go_wp2_with fail
              go_meet
              exact ⟨by rw [HBe.out], hb⟩
      case rest =>
        obtain ⟨rfl, hb⟩ := hcut
        generalize wc = W6 at *
        have HB6 := Lib.hid (HB4.out.tr hb)
        have HBw := Lib.hid (HBw4.out.tr hb)
        have HO6 := Lib.hid (owns_keepH HO4.out hb)
        clear hb y1 y2 y3 HB4 HO4
        cases bt
        rotate_left
        · have HN := Lib.hid (show ¬ ShowsP (roomsS (house.map RG.rm)) (nightS all night) ⟨kind, night, ss, rs⟩ ∨ inB night 0 365 = false ∨ 0 ≠ 0 from .inl fun h => by
            rcases H3.out with ⟨q, hq, hjq, hle, _⟩ | ⟨_, hbe⟩
            · have := HUp.out h q hq hjq
              omega
            · obtain ⟨s, q1, q2, q3⟩ := HNo.out h
              obtain ⟨i, hi, rfl⟩ := List.mem_iff_getElem.1 q1
              have e1 := idxOf_id HNd.out hi
              have e2 := idxOf_id HNd.out hk
              rw [q3, ← h2, e2] at e1
              have e3 : k = i := by omega
              subst e3
              rw [q2] at hbe
              cases hbe)
          clear H3 HNo HUp h2
          go_wp2_with fail
          go_ret2
          exact ShowRes_no HC.out HN.out HBw.out
        obtain ⟨hup, hhas⟩ : (∀ (q : Nat) (hq : q < ss.length), j = q + 1 → ss[q] < ss[j]) ∧ hasB all[k] night = true := by
          rcases H3.out with ⟨q, hq, hjq, hle, h⟩ | ⟨h4, hbe⟩
          · cases h
          · exact ⟨h4, by
              cases hc : hasB all[k] night
              · rw [hc] at hbe; cases hbe
              · rfl⟩
        obtain ⟨bb, off, eB, hb0, hc0⟩ := HM2.out.at_ (show 0 < n2 by omega)
        obtain ⟨c00, c01, c02, c03, c04, c05, c06, c07, c08⟩ := hc0 k hk
        have HPw2 := Lib.hid (show (ss.take (j + 1)).Pairwise (· < ·) from by
          rw [HTk.out]
          refine List.pairwise_append.2 ⟨HPw.out, by simp, fun a ha b hb => ?_⟩
          rw [List.mem_singleton.1 hb]
          obtain ⟨i, hi, rfl⟩ := List.mem_iff_getElem.1 ha
          rw [List.length_take] at hi
          rw [List.getElem_take]
          have h5 := hup (j - 1) (by omega) (by omega)
          by_cases e : i = j - 1
          · subst e; exact h5
          · have h6 := HPw.out
            rw [List.pairwise_iff_getElem] at h6
            have h7 := h6 i (j - 1) (by rw [List.length_take]; omega) (by rw [List.length_take]; omega) (by omega)
            rw [List.getElem_take, List.getElem_take] at h7
            omega)
        have HMi2 := Lib.hid (show (M ++ [all[k]]).map St.id = ss.take (j + 1) from by rw [List.map_append, HMi.out, HTk.out, ← h2]; rfl)
        have HIn2 := Lib.hid (show ∀ s ∈ M ++ [all[k]], s ∈ all ∧ hasB s night = true from fun s hs => by
          rcases List.mem_append.1 hs with hs | hs
          · exact HIn.out s hs
          · rw [List.mem_singleton.1 hs]; exact ⟨List.getElem_mem hk, hhas⟩)
        have hml := HMl.out
        have HC1 := Lib.hid (show M.length + 1 ≤ maxLen from by unfold maxLen; omega)
        have HC2 := Lib.hid (show (M.length + 1) * 64 ≤ 140737488355328 from by omega)
        subst eB
        clear H3 HNo HUp hup hhas h2 hc0 HPv hml
        generalize all[k] = s at *
        have c0 := (HBw.out.cell (p := ⟨bb, off + k * 9, none⟩) hb0).trans c00
        have c1 := (HBw.out.cell (p := ⟨bb, off + k * 9 + 1, none⟩) hb0).trans c01
        have c2 := (HBw.out.cell (p := ⟨bb, off + k * 9 + 2, none⟩) hb0).trans c02
        have c3 := (HBw.out.cell (p := ⟨bb, off + k * 9 + 3, none⟩) hb0).trans c03
        have c4 := (HBw.out.cell (p := ⟨bb, off + k * 9 + 4, none⟩) hb0).trans c04
        have c5 := (HBw.out.cell (p := ⟨bb, off + k * 9 + 5, none⟩) hb0).trans c05
        have c6 := (HBw.out.cell (p := ⟨bb, off + k * 9 + 6, none⟩) hb0).trans c06
        have c7 := (HBw.out.cell (p := ⟨bb, off + k * 9 + 7, none⟩) hb0).trans c07
        have c8 := (HBw.out.cell (p := ⟨bb, off + k * 9 + 8, none⟩) hb0).trans c08
        clear c00 c01 c02 c03 c04 c05 c06 c07 c08
        have HN := Lib.hid (cell_lit_new W6 #[.int .i64 s.id, .int .i64 s.kind, .int .i64 s.fr, .int .i64 s.un, .int .i64 s.persons, .int .i64 s.room, .int .i64 s.wth, .bool s.access, .bool s.inn] 36)
        have HC3 := Lib.hid (show W1.heap.size ≤ W6.heap.size + 1 from by have := HB6.out.size; omega)
        go_wp2_with (at_builtin; refine wpList_append_own _ rfl _ _ 23 rfl W1.heap.size 36 i1 (.agg #[.int .i64 0, .int .i64 0, .int .i64 0, .int .i64 0, .int .i64 0, .int .i64 0, .int .i64 0, .bool false, .bool false]) 9 64 Tryz.underlying23 hj hy0 hy1 hy2 rfl (by decide) _ _ _ rfl (HO6.out.alloc _) ⟨W6.heap.size, 0, none⟩ 1 1 [.int .i64 s.id, .int .i64 s.kind, .int .i64 s.fr, .int .i64 s.un, .int .i64 s.persons, .int .i64 s.room, .int .i64 s.wth, .bool s.access, .bool s.inn] rfl rfl HN.out (by simp [Value.oneCell']) HC1.out HC2.out (by rw [World.size_alloc]; exact HC3.out) ?_; intro v' w7 hown' hgrow _; have HO7 := Lib.hid hown'; have HB7 := Lib.hid ((HB6.out.alloc HB6.out.size _).grown hgrow (by rw [World.size_alloc]; exact HC3.out) (fun q e => (HO6.out.lt q e).1)); clear hown' hgrow)
        go_roundw
        case rel => exact ⟨j + 1, M ++ [s], by omega, by go_num, HMi2.out, HIn2.out, HPw2.out, by rw [List.length_append, List.flatMap_append]; exact HO7.out, HB7.out⟩
        case measure => simp [intOf]; omega

end Go.Proofs.YtdhhcbkldfdbbaaGreat
