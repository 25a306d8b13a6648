/-
  Part7: this text joins 9 texts; each says ahead of itself what it proves.
-/
import Derived.Test.YtdhhcbkldfdbbaaGreatPart6

/-
  The reference of layer 19: place (findP), matched (matchedB).
-/
namespace Go.Proofs.YtdhhcbkldfdbbaaGreat
open Go.RowKit Go.Shelf Go.Sort
open Hall

attribute [local go_sem] Oper.semAt_some

theorem info_intE : (Tryz.prog.info? 3).map (fun i => (i.zero, i.size, i.bytes)) = some (some (.int .i64 0), 1, 8) := by kernel_rfl
theorem info_boolE : (Tryz.prog.info? 4).map (fun i => (i.zero, i.size, i.bytes)) = some (some (.bool false), 1, 1) := by kernel_rfl

set_option maxRecDepth 100000 in
set_option maxHeartbeats 8000000 in
theorem place19_any {B nr nf kf ko ks ob sb : Nat} {Af Ao As : Option Addr} {l : List TG} (hnr : nr ≤ 1000000) (hnf : nf ≤ 1000000) (hl : ∀ t ∈ l, t.bs.length = nr) (hob : B ≤ ob) (hsb : B ≤ sb) (hne : 0 < nr → ob ≠ sb) (hAo : 0 < nr → Ao = some ⟨ob, 0, none⟩) (hAs : 0 < nr → As = some ⟨sb, 0, none⟩) :
    ∀ (n i : Nat) (x : OS) (w : World), unseen nr x.2 < n → i < nf → (∀ k q, x.1 k = some q → q < nf) → Tbs w B Af nf l → w.ownsRow B 3 1 (.slice Ao nr ko) nr (ownL nr x.1) → w.ownsRow B 4 1 (.slice As nr ks) nr (seenL nr x.2) → B ≤ w.heap.size →
    Calls Tryz.prog 192 #[.slice Af nf kf, .int .i64 i, .slice Ao nr ko, .slice As nr ks] w fun e w' =>
      e = .returned (.bool (findP (tfit l) nr 0 n i x).1) ∧ w'.ownsRow B 3 1 (.slice Ao nr ko) nr (ownL nr (findP (tfit l) nr 0 n i x).2.1) ∧ w'.ownsRow B 4 1 (.slice As nr ks) nr (seenL nr (findP (tfit l) nr 0 n i x).2.2) ∧ Chg w.heap.size [sb, ob] w w'
  | 0, _, _, _, h, _, _, _, _, _, _ => absurd h (Nat.not_lt_zero _)
  | n + 1, i, x, w, hu, hin, hq, hM, hO, hS, hBw => by
    have IH := Lib.hid (fun (j : Nat) (y : OS) (W : World) (h1 : unseen nr y.2 < n) (h2 : j < nf) (h3 : ∀ k q, y.1 k = some q → q < nf) (h4 : Tbs W B Af nf l) (h5 : W.ownsRow B 3 1 (.slice Ao nr ko) nr (ownL nr y.1)) (h6 : W.ownsRow B 4 1 (.slice As nr ks) nr (seenL nr y.2)) (h7 : B ≤ W.heap.size) => place19_any (kf := kf) hnr hnf hl hob hsb hne hAo hAs n j y W h1 h2 h3 h4 h5 h6 h7)
    have HM := Lib.hid hM
    have HL := Lib.hid hM.len
    have HLb := Lib.hid hl
    have HR := Lib.hid (show ∀ (r : Bool × OS) w', (findP (tfit l) nr 0 (n + 1) i x) = r → w'.ownsRow B 3 1 (.slice Ao nr ko) nr (ownL nr r.2.1) → w'.ownsRow B 4 1 (.slice As nr ks) nr (seenL nr r.2.2) → Chg w.heap.size [sb, ob] w w' → (.returned (.bool r.1) : Ending) = .returned (.bool (findP (tfit l) nr 0 (n + 1) i x).1) ∧ w'.ownsRow B 3 1 (.slice Ao nr ko) nr (ownL nr (findP (tfit l) nr 0 (n + 1) i x).2.1) ∧ w'.ownsRow B 4 1 (.slice As nr ks) nr (seenL nr (findP (tfit l) nr 0 (n + 1) i x).2.2) ∧ Chg w.heap.size [sb, ob] w w' from fun r w' e h1 h2 h3 => by subst e; exact ⟨rfl, h1, h2, h3⟩)
    have HT := Lib.hid (show findP (tfit l) nr 0 (n + 1) i x = tryP (tfit l) 0 (findP (tfit l) nr 0 n) i (List.range nr) x from rfl)
    have HO := Lib.hid hO
    have HS := Lib.hid hS
    have HQ := Lib.hid hq
    have HNe := Lib.hid hne
    have HAo := Lib.hid hAo
    have HAs := Lib.hid hAs
    clear hM hO hS hl hq hne hAo hAs
    go_enter Tryz.func192, Tryz.ntmps192
    go_wp2_with fail
    go_loopw [9] (fun k wr => ∃ (k' : Nat) (y : OS), k' ≤ nr ∧ k = .int .i64 k' ∧ wr.ownsRow B 3 1 (.slice Ao nr ko) nr (ownL nr y.1) ∧ wr.ownsRow B 4 1 (.slice As nr ks) nr (seenL nr y.2) ∧ unseen nr y.2 < n + 1 ∧ (∀ k q, y.1 k = some q → q < nf) ∧ tryP (tfit l) 0 (findP (tfit l) nr 0 n) i (List.range nr) x = tryP (tfit l) 0 (findP (tfit l) nr 0 n) i ((List.range nr).drop k') y ∧ Chg w.heap.size [sb, ob] w wr) (fun k _ => nr - (intOf k).toNat)
    case atStart => exact ⟨0, x, Nat.zero_le _, rfl, HO.out, HS.out, hu, HQ.out, rfl, Chg.refl _ _ _⟩
    case round =>
      obtain ⟨k, y, hk, rfl, hO, hS, hu2, hqy, hgo, hC⟩ := hrel
      have HO := Lib.hid hO
      have HS := Lib.hid hS
      have HG := Lib.hid hgo
      have HC := Lib.hid hC
      have HQy := Lib.hid hqy
      have HMr := Lib.hid (HM.out.to (hC.toBelow (fun q hq => by simp at hq; omega) hBw) (Nat.le_refl _))
      clear hO hS hgo hC hqy
      by_cases hlt : k < nr
      rotate_left
      · have hd : (List.range nr).drop k = [] := List.drop_eq_nil_of_le (by rw [List.length_range]; omega)
        have HD := Lib.hid (show findP (tfit l) nr 0 (n + 1) i x = (false, y) from by rw [HT.out, HG.out, hd]; rfl)
        clear hd
        go_wp2_with fail
        go_ret
        exact HR.out _ _ HD.out HO.out HS.out HC.out
      have hsn := HNe.out (by omega)
      obtain rfl := HAo.out (by omega)
      obtain rfl := HAs.out (by omega)
      have hd : (List.range nr).drop k = k :: (List.range nr).drop (k + 1) := by
        rw [List.drop_eq_getElem_cons (by rw [List.length_range]; exact hlt), List.getElem_range]
      have HGd := Lib.hid (show tryP (tfit l) 0 (findP (tfit l) nr 0 n) i (List.range nr) x = tryP (tfit l) 0 (findP (tfit l) nr 0 n) i (k :: (List.range nr).drop (k + 1)) y from by rw [HG.out, hd])
      have hil : i < l.length := by rw [HL.out]; exact hin
      obtain ⟨bf, of_, rfl, hbf, hcf⟩ := HMr.out.at_ (show 0 < nf by omega)
      have hc0 := hcf i hil
      have hok := HMr.out.ok _ (List.getElem_mem hil)
      have hbl := HLb.out _ (List.getElem_mem hil)
      have hkb : k < l[i].bs.length := by rw [hbl]; exact hlt
      have hln : l[i].n = nr := by rw [← hok.len, hbl]
      obtain ⟨b2, o2, eA, hb2, hc2⟩ := rd_bool hok.rd k hkb
      rw [eA, hln] at hc0
      have HF := Lib.hid (tfit_at hil hkb)
      have hcs := HS.out.cellAt k (by omega)
      rw [seenL_at hlt] at hcs
      have hln := HL.out
      clear hd hcf hok hbl hln eA
      generalize l[i].c = cc at *
      generalize l[i].bs[k] = fb at *
      cases fb
      · have HG2 := Lib.hid (show tryP (tfit l) 0 (findP (tfit l) nr 0 n) i (List.range nr) x = tryP (tfit l) 0 (findP (tfit l) nr 0 n) i ((List.range nr).drop (k + 1)) y from by rw [HGd.out, tryP, if_pos (by rw [HF.out]; simp)])
        go_wp2_with fail
        go_roundw
        case rel => exact ⟨k + 1, y, by omega, by go_num, HO.out, HS.out, hu2, HQy.out, HG2.out, HC.out⟩
        case measure => simp [intOf]; omega
      cases hsk : y.2 k
      rotate_left
      · have HG2 := Lib.hid (show tryP (tfit l) 0 (findP (tfit l) nr 0 n) i (List.range nr) x = tryP (tfit l) 0 (findP (tfit l) nr 0 n) i ((List.range nr).drop (k + 1)) y from by rw [HGd.out, tryP, if_pos (by rw [hsk]; rfl)])
        rw [hsk] at hcs
        clear hsk
        go_wp2_with fail
        go_roundw
        case rel => exact ⟨k + 1, y, by omega, by go_num, HO.out, HS.out, hu2, HQy.out, HG2.out, HC.out⟩
        case measure => simp [intOf]; omega
      have HU := Lib.hid (unseen_mark nr hlt hsk)
      have HX2 := Lib.hid (show ∀ r, (match y.1 k with
      | none => (true, (oput y.1 k i, smark y.2 k))
      | some j => if j < 0 then tryP (tfit l) 0 (findP (tfit l) nr 0 n) i ((List.range nr).drop (k + 1)) (y.1, smark y.2 k)
        else match findP (tfit l) nr 0 n j (y.1, smark y.2 k) with
          | (true, y) => (true, (oput y.1 k i, y.2))
          | (false, y) => tryP (tfit l) 0 (findP (tfit l) nr 0 n) i ((List.range nr).drop (k + 1)) y) = r → tryP (tfit l) 0 (findP (tfit l) nr 0 n) i (List.range nr) x = r from fun r e => by rw [← e, HGd.out, tryP, if_neg (by rw [hsk, HF.out]; simp)]; rfl)
      rw [hsk] at hcs
      have hfr := HS.out.frozenAt k
      obtain ⟨hS2, hg2⟩ := HS.out.stored k (.bool true)
      rw [seenL_set hlt] at hS2
      have hO2 := HO.out.kept hg2 (.inr fun e => hsn (Option.some.inj e))
      have HC2 := Lib.hid (HC.out.grown hg2 HC.out.size (fun r e => .inl (by cases e; simp)))
      have HM2 := Lib.hid (HM.out.to (HC2.out.toBelow (fun q hq => by simp at hq; omega) hBw) (Nat.le_refl _))
      have hco := hO2.cellAt k (by omega)
      rw [ownL_at hlt] at hco
      have hfo := hO2.frozenAt k
      have HS2 := Lib.hid hS2
      have HO2 := Lib.hid hO2
      have hB2 : B ≤ (wr.setCell ⟨sb, k, none⟩ (.bool true)).heap.size := by have := HC2.out.size; omega
      clear hsk HGd hS2 hO2 hg2
      cases hok : y.1 k with
      | none =>
        unfold ownV at hco
        rw [hok] at hco
        dsimp only at hco
        obtain ⟨hO3, hg3⟩ := HO2.out.stored k (.int .i64 i)
        rw [ownL_set hlt] at hO3
        have HO3 := Lib.hid hO3
        have HS3 := Lib.hid (HS2.out.kept hg3 (.inr fun e => hsn (Option.some.inj e).symm))
        have HC3 := Lib.hid (HC2.out.grown hg3 HC2.out.size (fun r e => .inl (by cases e; simp)))
        have HD := Lib.hid (show findP (tfit l) nr 0 (n + 1) i x = (true, (oput y.1 k i, smark y.2 k)) from by rw [HT.out]; exact HX2.out _ (by simp only [hok]))
        clear hok hO3 hg3
        go_wp2_with fail
        go_ret
        exact HR.out _ _ HD.out HO3.out HS3.out HC3.out
      | some j =>
        unfold ownV at hco
        rw [hok] at hco
        dsimp only at hco
        have hjn : ¬ ((j : Int) < 0) := by omega
        have HJ := Lib.hid (IH.out j (y.1, smark y.2 k) (wr.setCell ⟨sb, k, none⟩ (.bool true)) (by have := HU.out; show unseen nr (smark y.2 k) < n; omega) (HQy.out k j hok) HQy.out HM2.out HO2.out HS2.out hB2)
        have HX3 := Lib.hid (show ∀ r, (match findP (tfit l) nr 0 n j (y.1, smark y.2 k) with
            | (true, y) => (true, (oput y.1 k i, y.2))
            | (false, y) => tryP (tfit l) 0 (findP (tfit l) nr 0 n) i ((List.range nr).drop (k + 1)) y) = r → tryP (tfit l) 0 (findP (tfit l) nr 0 n) i (List.range nr) x = r from fun r e => HX2.out _ (by rw [hok]; exact (if_neg (Nat.not_lt_zero _)).trans e))
        have HMo := Lib.hid (fun q => findP_mono (fit := tfit l) (nr := nr) (fixed := 0) n j (y.1, smark y.2 k) q)
        have HQz := Lib.hid (findP_in (fit := tfit l) (nr := nr) (fixed := 0) n j (y.1, smark y.2 k) (HQy.out k j hok) HQy.out)
        clear HX2 hok
        generalize hz : findP (tfit l) nr 0 n j (y.1, smark y.2 k) = z at *
        obtain ⟨b, z⟩ := z
        clear hz
        cases b
        · have HG2 := Lib.hid (show tryP (tfit l) 0 (findP (tfit l) nr 0 n) i (List.range nr) x = tryP (tfit l) 0 (findP (tfit l) nr 0 n) i ((List.range nr).drop (k + 1)) z from HX3.out _ rfl)
          have HU3 := Lib.hid (show unseen nr z.2 < n + 1 from Nat.lt_of_le_of_lt (unseen_mono nr (s := smark y.2 k) (fun q hq => HMo.out q hq)) (Nat.lt_trans HU.out hu2))
          go_wp2_with fail
          refine HJ.out.mono ?_
          rintro e w3 ⟨rfl, hO3, hS3, hC3⟩
          have HO3 := Lib.hid hO3
          have HS3 := Lib.hid hS3
          have HC3 := Lib.hid (HC2.out.trans (hC3.mono HC2.out.size))
          clear hO3 hS3 hC3 hco hfo hcs hfr hc0 hc2
          go_wp2_with fail
          go_roundw
          case rel => exact ⟨k + 1, z, by omega, by go_num, HO3.out, HS3.out, HU3.out, HQz.out, HG2.out, HC3.out⟩
          case measure => simp [intOf]; omega
        · have HD := Lib.hid (show findP (tfit l) nr 0 (n + 1) i x = (true, (oput z.1 k i, z.2)) from by rw [HT.out]; exact HX3.out _ rfl)
          go_wp2_with fail
          refine HJ.out.mono ?_
          rintro e w3 ⟨rfl, hO3, hS3, hC3⟩
          have hfo3 := hO3.frozenAt k
          have hco3 := hO3.cellAt k (by omega)
          rw [ownL_at hlt] at hco3
          obtain ⟨hO4, hg4⟩ := hO3.stored k (.int .i64 i)
          rw [ownL_set hlt] at hO4
          have HO4 := Lib.hid hO4
          have HS4 := Lib.hid (hS3.kept hg4 (.inr fun e => hsn (Option.some.inj e).symm))
          have HC4 := Lib.hid ((HC2.out.trans (hC3.mono HC2.out.size)).grown hg4 (by have := HC2.out.size; have := hC3.size; omega) (fun r e => .inl (by cases e; simp)))
          clear hO3 hS3 hC3 hO4 hg4 hco hfo hcs hfr hc0 hc2
          go_wp2_with fail
          go_ret
          exact HR.out _ _ HD.out HO4.out HS4.out HC4.out

theorem ownL_snoc (k : Nat) : ownL (k + 1) (fun _ => none) = ownL k (fun _ => none) ++ [.int .i64 (-1)] := by
  unfold ownL
  rw [List.range_succ, List.map_append]
  rfl
theorem made_seen (n : Nat) : (madeCells (Value.bool false).cells (n * 1)).toList = seenL n (fun _ => false) := by
  rw [show (Value.bool false).cells = #[.bool false] from rfl, toList_madeCells_one]
  unfold seenL
  simp [List.map_const']

set_option maxRecDepth 100000 in
set_option maxHeartbeats 8000000 in
theorem matched19_any {nr : Nat} {l : List TG} (A : Option Addr) (n c : Nat) (w : World) (hnr : nr ≤ 1000000) (hnf : n ≤ 1000000) (hl : ∀ t ∈ l, t.bs.length = nr) (hM : Tbs w w.heap.size A n l) :
    Calls Tryz.prog 175 #[.slice A n c, .int .i64 nr] w fun e w' => e = .returned (.bool (matchedB (tfit l) nr n)) ∧ Below w.heap.size w w' := by
  have HM := Lib.hid hM
  have HLb := Lib.hid hl
  have HQ := Lib.hid (show ∀ (b : Bool) (o : Nat → Option Nat) (q : Option Nat), matchP (tfit l) nr n = (o, q) → b = q.isNone → matchedB (tfit l) nr n = b from fun b o q h e => by unfold matchedB; rw [h, e])
  obtain ⟨i0, hi, hz0, hz1, hz2⟩ := info_parts info_intE
  clear hM hl
  go_enter Tryz.func175, Tryz.ntmps175
  go_wp2_with fail
  go_loopw [5, 6] (fun v i wr => ∃ k : Nat, k ≤ nr ∧ i = .int .i64 k ∧ wr.ownsRow w.heap.size 3 1 v k (ownL k (fun _ => none)) ∧ Below w.heap.size w wr) (fun _ i _ => nr - (intOf i).toNat)
  case atStart => exact ⟨0, Nat.zero_le _, rfl, World.ownsRow_nil _ _ _ _, Below.refl _ _⟩
  case round =>
    obtain ⟨k, hk, rfl, hO, hB⟩ := hrel
    have HO := Lib.hid hO
    have HB := Lib.hid hB
    clear hO hB
    by_cases hlt : k < nr
    · have HN := Lib.hid (cell_lit_new wr #[.int .i64 (-1)] 3)
      have HC1 := Lib.hid (show k + 1 ≤ maxLen from by unfold maxLen; omega)
      have HC2 := Lib.hid (show (k + 1) * 8 ≤ 140737488355328 from by omega)
      have HC3 := Lib.hid (show w.heap.size ≤ (wr.alloc (.cells #[.int .i64 (-1)] 3)).heap.size from by have := HB.out.size; simp; omega)
      go_wp2_with (at_builtin; refine wpList_append_own _ rfl _ _ 26 rfl w.heap.size 3 i0 (.int .i64 0) 1 8 Tryz.underlying26 hi hz0 hz1 hz2 rfl (by decide) _ _ _ rfl (HO.out.alloc _) ⟨wr.heap.size, 0, none⟩ 1 1 [.int .i64 (-1)] rfl rfl HN.out (by simp [Value.oneCell']) HC1.out HC2.out HC3.out ?_; intro v' w1 hown' hgrow _; have HO1 := Lib.hid (show w1.ownsRow w.heap.size 3 1 v' (k + 1) (ownL (k + 1) (fun _ => none)) from by rw [ownL_snoc]; exact hown'); have HB1 := Lib.hid ((HB.out.alloc HB.out.size _).grown hgrow HC3.out (fun q e => (HO.out.lt q e).1)); clear hown' hgrow)
      go_roundw
      case rel => exact ⟨k + 1, by omega, by go_num, HO1.out, HB1.out⟩
      case measure => simp [intOf]; omega
    have hke : k = nr := by omega
    subst hke
    obtain ⟨Ao, ko, rfl, _, _, _⟩ := rd_of_own HO.out (by decide)
    obtain ⟨i1, hj, hy0, hy1, hy2⟩ := info_parts info_boolE
    have hb2 : 1 * k ≤ 281474976710656 := by omega
    have hb3 : k ≤ maxLen := by unfold maxLen; omega
    generalize wr = W0 at *
    go_wp2_with fail
    go_loopw [7] (fun q wr => ∃ (r : Nat) (o : Nat → Option Nat), r ≤ n ∧ q = .int .i64 r ∧ wr.ownsRow w.heap.size 3 1 (.slice Ao k ko) k (ownL k o) ∧ (∀ x q, o x = some q → q < n) ∧ matchP (tfit l) k n = matchGo (tfit l) k (n - r) r o ∧ Below w.heap.size w wr) (fun q _ => n - (intOf q).toNat)
    case atStart => exact ⟨0, fun _ => none, Nat.zero_le _, rfl, HO.out, (fun _ _ e => (by cases e)), rfl, HB.out⟩
    case round =>
      obtain ⟨r, o, hr, rfl, hO, hqo, hgo, hB⟩ := hrel
      have HOr := Lib.hid hO
      have HG := Lib.hid hgo
      have HBr := Lib.hid hB
      have HQo := Lib.hid hqo
      clear hO hgo hB hqo
      by_cases hlr : r < n
      rotate_left
      · have HD := Lib.hid (HQ.out true o none (by rw [HG.out, show n - r = 0 by omega]; rfl) rfl)
        go_wp2_with fail
        go_ret
        exact ⟨by rw [HD.out]; rfl, HBr.out⟩
      have hst : n - r = (n - (r + 1)) + 1 := by omega
      have HG2 := Lib.hid (show matchP (tfit l) k n = (match placeP (tfit l) k 0 o r with | (true, o') => matchGo (tfit l) k (n - (r + 1)) (r + 1) o' | (false, o') => (o', some r)) from by rw [HG.out, hst]; rfl)
      have hb4 : w.heap.size ≤ wr.heap.size := HBr.out.size
      have HPl := Lib.hid (fun (W : World) (hW : W.ownsRow w.heap.size 4 1 (.slice (some ⟨wr.heap.size, 0, none⟩) k k) k (seenL k (fun _ => false))) (hg : Below wr.heap.size wr W) => show ∃ ob, w.heap.size ≤ ob ∧ Calls Tryz.prog 192 #[.slice A n c, .int .i64 r, .slice Ao k ko, .slice (some ⟨wr.heap.size, 0, none⟩) k k] W (fun e w' => e = .returned (.bool (placeP (tfit l) k 0 o r).1) ∧ w'.ownsRow w.heap.size 3 1 (.slice Ao k ko) k (ownL k (placeP (tfit l) k 0 o r).2) ∧ Chg W.heap.size [wr.heap.size, ob] W w') from by
        obtain ⟨ob, h1, h2, h3⟩ : ∃ ob, w.heap.size ≤ ob ∧ (0 < k → ob ≠ wr.heap.size) ∧ (0 < k → Ao = some ⟨ob, 0, none⟩) := by
          rcases Nat.eq_zero_or_pos k with h0 | h0
          · exact ⟨wr.heap.size, hb4, fun e => by omega, fun e => by omega⟩
          · obtain ⟨g, cap, e, e1, e2⟩ := HOr.out.form h0
            injection e with e
            exact ⟨g, e1, fun _ => by omega, fun _ => e⟩
        refine ⟨ob, h1, ?_⟩
        refine (place19_any (B := w.heap.size) (nr := k) (kf := c) (ob := ob) (sb := wr.heap.size) hnr hnf HLb.out h1 hb4 h2 h3 (fun _ => rfl) (k + 1) r (o, fun _ => false) W (Nat.lt_succ_of_le (unseen_le k _)) hlr HQo.out (HM.out.to (HBr.out.trans (hg.mono hb4)) (Nat.le_refl _)) (owns_keepH HOr.out hg) hW (Nat.le_trans hb4 hg.size)).mono ?_
        rintro e w' ⟨q1, q2, _, q4⟩
        exact ⟨q1, q2, q4⟩)
      have HQp := Lib.hid (show ∀ x q, (placeP (tfit l) k 0 o r).2 x = some q → q < n from findP_in (fit := tfit l) (nr := k) (fixed := 0) (k + 1) r (o, fun _ => false) hlr HQo.out)
      clear hst HG
      generalize placeP (tfit l) k 0 o r = z at *
      obtain ⟨b, z⟩ := z
      have HQz := Lib.hid (show ∀ x q, z x = some q → q < n from HQp.out)
      clear HQp
      go_wp2_with (refine wpList_make_full _ rfl _ _ 182 rfl w.heap.size 4 i1 (.bool false) 1 Tryz.underlying182 hj hy0 hy1 _ _ _ _ k rfl rfl rfl rfl (by rw [hy2]; exact hb2) hb3 hb4 ?_; intro w1 hown hgrow; have hb1 : Below wr.heap.size wr w1 := (Below.refl _ _).grown hgrow (Nat.le_refl _) (fun q e => by cases e); rw [made_seen] at hown; obtain ⟨ob, hob, hPl⟩ := HPl.out w1 hown hb1; have HPl1 := Lib.hid hPl; have HB1 := Lib.hid hb1; clear hown hgrow hPl hb1)
      refine HPl1.out.mono ?_
      rintro e w2 ⟨rfl, hO2, hC2⟩
      have HO2 := Lib.hid hO2
      have HB2 := Lib.hid ((HBr.out.trans (HB1.out.mono hb4)).trans (hC2.toBelow (fun q hq => by simp at hq; omega) (Nat.le_trans hb4 HB1.out.size)))
      clear hO2 hC2
      cases b
      · have HD := Lib.hid (HQ.out false z (some r) HG2.out rfl)
        go_wp2_with fail
        go_ret
        exact ⟨by rw [HD.out]; rfl, HB2.out⟩
      · have HG3 := Lib.hid (show matchP (tfit l) k n = matchGo (tfit l) k (n - (r + 1)) (r + 1) z from HG2.out)
        go_wp2_with fail
        go_roundw
        case rel => exact ⟨r + 1, z, by omega, by go_num, HO2.out, HQz.out, HG3.out, HB2.out⟩
        case measure => simp [intOf]; omega

end Go.Proofs.YtdhhcbkldfdbbaaGreat

/-
  The references of layers 2, 16, 17, plainly: what each place of a list must have, so that the list is well-formed; the first pair that meets; a list that grows by insertion.
-/
namespace Go.Proofs.YtdhhcbkldfdbbaaGreat
open Go.RowKit Go.Shelf Go.Sort

theorem setGo_head {p q : List Sp} {m : Int} (h : setGo m (p ++ q) = true) : setGo m p = true := by
  induction p generalizing m with
  | nil => rfl
  | cons y t ih => rw [List.cons_append, setGo, Bool.and_eq_true] at h; rw [setGo, Bool.and_eq_true]; exact ⟨h.1, ih h.2⟩
/-- What the place k of a list of spans must have behind well-formed ones. -/
def spAt (l : List Sp) (k : Nat) (x : Sp) : Bool := spanB x && (decide (k = 0) || decide (lastUn (-1) (l.take k) < x.fr))
theorem spAt_step {l : List Sp} {k : Nat} (hk : k < l.length) (h : setGo (-1) (l.take k) = true) : setGo (-1) (l.take (k + 1)) = spAt l k l[k] := by
  rw [List.take_succ_eq_append_getElem hk, setGo_snoc, h, Bool.true_and]
  unfold spAt
  cases hs : spanB l[k]
  · rfl
  · rw [Bool.true_and, Bool.true_and]
    by_cases h0 : k = 0
    · subst h0
      have h1 : 0 ≤ l[0].fr := (of_decide_eq_true hs).1
      simp [lastUn]
      omega
    · simp [h0]
theorem lastUn_take {l : List Sp} {k : Nat} (hk : k < l.length) : lastUn (-1) (l.take (k + 1)) = l[k].un := by rw [List.take_succ_eq_append_getElem hk, lastUn_snoc]
theorem spAt_bad {l : List Sp} {k : Nat} (hk : k < l.length) (h : setGo (-1) (l.take k) = true) (hb : spAt l k l[k] = false) : setB l = false := by
  unfold setB
  cases h3 : setGo (-1) l
  · rfl
  · have h4 : setGo (-1) (l.take (k + 1)) = true := setGo_head (q := l.drop (k + 1)) (by rw [List.take_append_drop]; exact h3)
    rw [spAt_step hk h, hb] at h4
    cases h4
def lastOk (l : List Sp) : Bool := match l.getLast? with | none => true | some p => decide (p.un ≤ 366)
theorem lastOk_all {l : List Sp} (h : setB l = true) : (l.all fun s => decide (s.un ≤ 366)) = lastOk l := by
  unfold setB at h
  rw [Bool.and_eq_true] at h
  unfold lastOk
  cases hl : l.getLast? with
  | none => rw [List.getLast?_eq_none_iff] at hl; subst hl; rfl
  | some p =>
    have h1 := setGo_last h.1 hl
    have hm : p ∈ l := List.mem_of_getLast? hl
    by_cases hp : p.un ≤ 366
    · show _ = decide (p.un ≤ 366)
      rw [decide_eq_true hp, List.all_eq_true]
      exact fun s hs => decide_eq_true (by have := h1 s hs; omega)
    · show _ = decide (p.un ≤ 366)
      rw [decide_eq_false hp]
      cases ha : (l.all fun s => decide (s.un ≤ 366))
      · rfl
      · rw [List.all_eq_true] at ha
        exact absurd (of_decide_eq_true (ha p hm)) hp
theorem lastOk_nil : lastOk [] = true := rfl
theorem lastOk_last {l : List Sp} {m : Nat} (h : l.length = m + 1) : lastOk l = decide ((l[m]'(by omega)).un ≤ 366) := by
  unfold lastOk
  rw [List.getLast?_eq_getElem?, show l.length - 1 = m from by omega, List.getElem?_eq_getElem (by omega)]
theorem formed_ref (r : Rm) : formedB r = (setB r.blocked && (inB r.id 1 1000000 && (inB r.house 1 20 && (inB r.kind 1 20 && (inB r.joins 0 1000000 && (!(r.joins == r.id) && lastOk r.blocked)))))) := by
  have h2 : decide (r.joins ≠ r.id) = !(r.joins == r.id) := by by_cases h : r.joins = r.id <;> simp [h]
  unfold formedB
  rw [h2]
  cases hs : setB r.blocked
  · simp
  · rw [lastOk_all hs]
    simp [Bool.and_assoc]
/-! ### Rooms, place by place -/
def RoomAt (l : List RG) (i : Nat) (r : RG) : Prop := formedB r.rm = true ∧ idxOf (l.map RG.id) r.id = i ∧ (r.joins = 0 ∨ ∃ (k : Nat) (o : RG), l[k]? = some o ∧ idxOf (l.map RG.id) r.joins = k ∧ o.house = r.house ∧ o.joins = r.id)
theorem nodup_idx {α : Type} {f : α → Int} {l : List α} (h : ∀ (i : Nat) (hi : i < l.length), idxOf (l.map f) (f l[i]) = i) : (l.map f).Nodup := by
  refine List.pairwise_iff_getElem.2 fun i j hi hj hij e => ?_
  rw [List.length_map] at hi hj
  have h1 := h i hi
  have h2 := h j hj
  simp only [List.getElem_map] at e
  rw [← e, h1] at h2
  omega
theorem roomsB_at {l : List RG} : roomsB (l.map RG.rm) = true ↔ l.length ≤ 400 ∧ ∀ (i : Nat) (hi : i < l.length), RoomAt l i l[i] := by
  rw [roomsB_iff, List.length_map, rm_ids]
  constructor
  · rintro ⟨h1, h2, h3, h4⟩
    refine ⟨h1, fun i hi => ⟨h2 _ (List.mem_map.2 ⟨_, List.getElem_mem hi, rfl⟩), idxOf_key RG.id h3 hi, ?_⟩⟩
    rcases h4 _ (List.mem_map.2 ⟨_, List.getElem_mem hi, rfl⟩) with h5 | ⟨o, h5, h6, h7, h8⟩
    · exact .inl h5
    · obtain ⟨g, hg, rfl⟩ := List.mem_map.1 h5
      obtain ⟨k, hk, rfl⟩ := List.mem_iff_getElem.1 hg
      exact .inr ⟨k, _, List.getElem?_eq_getElem hk, (congrArg (idxOf (l.map RG.id)) h6.symm).trans (idxOf_key RG.id h3 hk), h8, h7⟩
  · rintro ⟨h1, h2⟩
    have h3 : (l.map RG.id).Nodup := nodup_idx fun i hi => (h2 i hi).2.1
    refine ⟨h1, fun r hr => ?_, h3, fun r hr => ?_⟩
    · obtain ⟨g, hg, rfl⟩ := List.mem_map.1 hr
      obtain ⟨k, hk, rfl⟩ := List.mem_iff_getElem.1 hg
      exact (h2 k hk).1
    · obtain ⟨g, hg, rfl⟩ := List.mem_map.1 hr
      obtain ⟨i, hi, rfl⟩ := List.mem_iff_getElem.1 hg
      rcases (h2 i hi).2.2 with h5 | ⟨k, o, h5, h6, h7, h8⟩
      · exact .inl h5
      · obtain ⟨hk, rfl⟩ := List.getElem?_eq_some_iff.1 h5
        refine .inr ⟨_, List.mem_map.2 ⟨_, List.getElem_mem hk, rfl⟩, ?_, h8, h7⟩
        by_cases hm : l[i].joins ∈ l.map RG.id
        · obtain ⟨j, hj, e1, e2⟩ := idxOf_some hm
          have : j = k := by omega
          subst this
          show l[j].id = l[i].joins
          simpa using e2
        · rw [idxOf_none hm] at h6; omega
/-! ### Stays, place by place -/
def StayAt (l : List St) (i : Nat) (s : St) : Prop := stayB s = true ∧ idxOf (l.map St.id) s.id = i
def PairAt (l : List St) (s : St) : Prop := s.wth = 0 ∨ ∃ (k : Nat) (o : St), l[k]? = some o ∧ idxOf (l.map St.id) s.wth = k ∧ o.wth = s.id ∧ o.fr = s.fr ∧ o.un = s.un
theorem staysB_at {l : List St} : staysB l = true ↔ l.length ≤ 3000 ∧ (∀ (i : Nat) (hi : i < l.length), StayAt l i l[i]) ∧ ∀ (i : Nat) (hi : i < l.length), PairAt l l[i] := by
  rw [staysB_iff]
  constructor
  · rintro ⟨h1, h2, h3, h4⟩
    refine ⟨h1, fun i hi => ⟨h2 _ (List.getElem_mem hi), idxOf_id h3 hi⟩, fun i hi => ?_⟩
    rcases h4 _ (List.getElem_mem hi) with h5 | ⟨o, h5, h6, h7, h8, h9⟩
    · exact .inl h5
    · obtain ⟨k, hk, rfl⟩ := List.mem_iff_getElem.1 h5
      exact .inr ⟨k, _, List.getElem?_eq_getElem hk, by rw [← h6]; exact idxOf_id h3 hk, h7, h8, h9⟩
  · rintro ⟨h1, h2, h4⟩
    have h3 : (l.map St.id).Nodup := nodup_idx fun i hi => (h2 i hi).2
    refine ⟨h1, fun s hs => ?_, h3, fun s hs => ?_⟩
    · obtain ⟨k, hk, rfl⟩ := List.mem_iff_getElem.1 hs
      exact (h2 k hk).1
    · obtain ⟨i, hi, rfl⟩ := List.mem_iff_getElem.1 hs
      rcases h4 i hi with h5 | ⟨k, o, h5, h6, h7, h8, h9⟩
      · exact .inl h5
      · obtain ⟨hk, rfl⟩ := List.getElem?_eq_some_iff.1 h5
        refine .inr ⟨_, List.getElem_mem hk, ?_, h7, h8, h9⟩
        by_cases hm : l[i].wth ∈ l.map St.id
        · obtain ⟨j, hj, e1, e2⟩ := idxOf_some hm
          have : j = k := by omega
          subst this
          simpa using e2
        · rw [idxOf_none hm] at h6; omega
theorem idx_cases (l : List Int) (x : Int) : idxOf l x = -1 ∨ ∃ (k : Nat), k < l.length ∧ idxOf l x = k := by
  by_cases h : x ∈ l
  · obtain ⟨k, hk, e, _⟩ := idxOf_some h
    exact .inr ⟨k, hk, e⟩
  · exact .inl (idxOf_none h)
/-! ### The first pair -/
theorem clashGo_shift {l : List St} (i : Nat) : ∀ k, clashGo (i + k) l = (clashGo i l).map fun p => (p.1 + k, p.2 + k) := by
  induction l generalizing i with
  | nil => intro k; rfl
  | cons s t ih =>
    intro k
    rw [clashGo, clashGo]
    cases t.findIdx? (meetB s) with
    | some j => simp; omega
    | none =>
      have := ih (i + 1) k
      rw [show i + 1 + k = i + k + 1 from by omega] at this
      exact this
theorem clash_next {l : List St} {i : Nat} (hi : i < l.length) : clashGo i (l.drop i) = match (l.drop (i + 1)).findIdx? (meetB l[i]) with | some k => some (i, i + 1 + k) | none => clashGo (i + 1) (l.drop (i + 1)) := by
  rw [List.drop_eq_getElem_cons hi]
  rfl
theorem clash_hit {l : List St} {i k : Nat} (hi : i < l.length) (hk : k < l.length) (hik : i < k) (hno : ∀ (j : Nat) (hj : j < l.length), i < j → j < k → meetB l[i] l[j] = false) (hm : meetB l[i] l[k] = true) : clashGo i (l.drop i) = some (i, k) := by
  rw [clash_next hi]
  have h : (l.drop (i + 1)).findIdx? (meetB l[i]) = some (k - (i + 1)) := by
    refine List.findIdx?_eq_some_iff_getElem.2 ⟨by rw [List.length_drop]; omega, ?_, fun j hj => ?_⟩
    · rw [List.getElem_drop]
      have : i + 1 + (k - (i + 1)) = k := by omega
      simp only [this]
      exact hm
    · rw [List.getElem_drop, hno (i + 1 + j) (by omega) (by omega) (by omega)]
      decide
  rw [h]
  show some (i, i + 1 + (k - (i + 1))) = _
  rw [show i + 1 + (k - (i + 1)) = k from by omega]
theorem clash_miss {l : List St} {i : Nat} (hi : i < l.length) (hno : ∀ (j : Nat) (hj : j < l.length), i < j → meetB l[i] l[j] = false) : clashGo i (l.drop i) = clashGo (i + 1) (l.drop (i + 1)) := by
  rw [clash_next hi]
  have h : (l.drop (i + 1)).findIdx? (meetB l[i]) = none := List.findIdx?_eq_none_iff.2 fun x hx => by
    obtain ⟨j, hj, rfl⟩ := List.mem_iff_getElem.1 hx
    rw [List.getElem_drop]
    exact hno _ _ (by omega)
  rw [h]
theorem clash_all {l : List St} : clashGo l.length (l.drop l.length) = none := by rw [List.drop_length]; rfl
theorem roomAt_iff {l : List RG} {k : Nat} {r : RG} : RoomAt l k r ↔ formedB r.rm = true ∧ idxOf (l.map RG.id) r.id = k ∧ (r.joins = 0 ∨ ∃ (k' : Nat) (o : RG), l[k']? = some o ∧ idxOf (l.map RG.id) r.joins = k' ∧ o.house = r.house ∧ o.joins = r.id) := Iff.rfl
theorem stayAt_iff {l : List St} {k : Nat} {r : St} : StayAt l k r ↔ stayB r = true ∧ idxOf (l.map St.id) r.id = k := Iff.rfl
theorem pairAt_iff {l : List St} {r : St} : PairAt l r ↔ (r.wth = 0 ∨ ∃ (k : Nat) (o : St), l[k]? = some o ∧ idxOf (l.map St.id) r.wth = k ∧ o.wth = r.id ∧ o.fr = r.fr ∧ o.un = r.un) := Iff.rfl

end Go.Proofs.YtdhhcbkldfdbbaaGreat

/-
  The references of layers 2 and 16: spans, rooms. Printed by gen_refb.py.
-/
namespace Go.Proofs.YtdhhcbkldfdbbaaGreat
open Go.RowKit Go.Shelf Go.Sort

set_option maxHeartbeats 1000000 in
theorem span02_any (a b : Int) (w : World) :
    Calls Tryz.prog 161 #[.agg #[.int .i64 a, .int .i64 b]] w fun e w' => e = .returned (.bool (spanB ⟨a, b⟩)) ∧ Below w.heap.size w w' := by
  have HW := Lib.hid (alloc_b w (.cells #[.int .i64 a, .int .i64 b] 93))
  have HQ := Lib.hid (show spanB ⟨a, b⟩ = (decide (0 ≤ a) && (decide (a < b) && decide (b ≤ 1000000000))) from by unfold spanB; rw [Bool.decide_and, Bool.decide_and])
  cases h1 : decide (0 ≤ a)
  · go_enter Tryz.func161, Tryz.ntmps161
    go_wp2_with fail
    go_ret
    exact ⟨by rw [HQ.out, h1]; rfl, HW.out⟩
  cases h2 : decide (a < b)
  · go_enter Tryz.func161, Tryz.ntmps161
    go_wp2_with fail
    go_ret
    exact ⟨by rw [HQ.out, h1, h2]; rfl, HW.out⟩
  · go_enter Tryz.func161, Tryz.ntmps161
    go_wp2_with fail
    go_ret
    exact ⟨by rw [HQ.out, h1, h2]; rfl, HW.out⟩
set_option maxHeartbeats 1000000 in
theorem period16_any (a b : Int) (w : World) :
    Calls Tryz.prog 120 #[.agg #[.int .i64 a, .int .i64 b]] w fun e w' => e = .returned (.bool (periodB ⟨a, b⟩)) ∧ Below w.heap.size w w' := by
  have HW := Lib.hid (alloc_b w (.cells #[.int .i64 a, .int .i64 b] 93))
  have HQ := Lib.hid (show periodB ⟨a, b⟩ = (decide (0 ≤ a) && (decide (a < b) && decide (b ≤ 366))) from by unfold periodB; rw [Bool.decide_and, Bool.decide_and])
  cases h1 : decide (0 ≤ a)
  · go_enter Tryz.func120, Tryz.ntmps120
    go_wp2_with fail
    go_ret
    exact ⟨by rw [HQ.out, h1]; rfl, HW.out⟩
  cases h2 : decide (a < b)
  · go_enter Tryz.func120, Tryz.ntmps120
    go_wp2_with fail
    go_ret
    exact ⟨by rw [HQ.out, h1, h2]; rfl, HW.out⟩
  · go_enter Tryz.func120, Tryz.ntmps120
    go_wp2_with fail
    go_ret
    exact ⟨by rw [HQ.out, h1, h2]; rfl, HW.out⟩
set_option maxHeartbeats 1000000 in
theorem overlap02_any (a b c d : Int) (w : World) :
    Calls Tryz.prog 162 #[.agg #[.int .i64 a, .int .i64 b], .agg #[.int .i64 c, .int .i64 d]] w fun e w' => e = .returned (.bool (overlapB ⟨a, b⟩ ⟨c, d⟩)) ∧ Below w.heap.size w w' := by
  have HW := Lib.hid ((alloc_b w (.cells #[.int .i64 a, .int .i64 b] 93)).al (.cells #[.int .i64 c, .int .i64 d] 93))
  have HQ := Lib.hid (show overlapB ⟨a, b⟩ ⟨c, d⟩ = (decide (a < d) && decide (c < b)) from by unfold overlapB; rw [Bool.decide_and])
  cases h1 : decide (a < d)
  · go_enter Tryz.func162, Tryz.ntmps162
    go_wp2_with fail
    go_ret
    exact ⟨by rw [HQ.out, h1]; rfl, HW.out⟩
  · go_enter Tryz.func162, Tryz.ntmps162
    go_wp2_with fail
    go_ret
    exact ⟨by rw [HQ.out, h1]; rfl, HW.out⟩

set_option maxRecDepth 100000 in
set_option maxHeartbeats 4000000 in
theorem valid02_any (A : Option Addr) (n c : Nat) (l : List Sp) (w : World) (hn : n ≤ 9223372036854775807) (hM : Sps w w.heap.size A n l) :
    Calls Tryz.prog 118 #[.slice A n c] w fun e w' => e = .returned (.bool (setB l)) ∧ Below w.heap.size w w' := by
  have HL := Lib.hid hM.len
  have HM := Lib.hid hM
  clear hM
  go_enter Tryz.func118, Tryz.ntmps118
  go_wp2_with fail
  go_loopw [3] (fun i wr => ∃ k : Nat, k ≤ n ∧ i = .int .i64 k ∧ setGo (-1) (l.take k) = true ∧ Below w.heap.size w wr) (fun i _ => n - (intOf i).toNat)
  case atStart => exact ⟨0, Nat.zero_le _, rfl, by simp [setGo], Below.refl _ _⟩
  case round =>
    obtain ⟨k, hk, rfl, hno, hB⟩ := hrel
    have HN := Lib.hid hno
    have HB := Lib.hid hB
    clear hno hB
    by_cases hlt : k < n
    · have hkl : k < l.length := by rw [HL.out]; exact hlt
      obtain ⟨b, off, rfl, hb, hc⟩ := (HM.out.to HB.out HB.out.size).at_ (by omega)
      obtain ⟨c0, c1⟩ := hc k hkl
      have HSt := Lib.hid (spAt_step hkl HN.out)
      have HBad := Lib.hid (fun h => spAt_bad hkl HN.out h)
      have HPr := Lib.hid (show ∀ j, k = j + 1 → (∃ (hj : j < l.length), lastUn (-1) (l.take k) = l[j].un ∧ wr.cell? ⟨b, off + j * 2 + 1, none⟩ = some (.int .i64 l[j].un)) from fun j hj => by
        subst hj
        have hjl : j < l.length := by omega
        exact ⟨hjl, lastUn_take hjl, (hc j hjl).2⟩)
      clear hc
      generalize l[k] = x at *
      have HW := Lib.hid (fun W => span02_any x.fr x.un W)
      have HQ := Lib.hid (show spAt l k x = (spanB ⟨x.fr, x.un⟩ && (decide (k = 0) || decide (lastUn (-1) (l.take k) < x.fr))) from rfl)
      cases hs : spanB ⟨x.fr, x.un⟩
      · have HW' := Lib.hid (fun W => by have := HW.out W; rewrite [hs] at this; exact this)
        have HF := Lib.hid (HBad.out (by rw [HQ.out, hs]; rfl))
        clear HW hs
        go_wp2_with fail
        refine (HW'.out _).mono ?_
        rintro e w4 ⟨rfl, hb4⟩
        have HB4 := Lib.hid (HB.out.tr hb4)
        clear hb4
        go_wp2_with fail
        refine region_below (by kernel_rfl) (by kernel_rfl) ?_
        repeat (first | go_big_quiet_step (fail) | quiet_step (fail))
        refine wpQuiet_nil ?_
        rintro w5 ⟨⟨X3, hb⟩, e2⟩
        have e3 : w5 = X3 := e2
        subst e3
        clear e2
        have HB5 := Lib.hid (HB4.out.tr hb)
        clear hb
        go_wp2_with fail
        go_ret
        exact ⟨by rw [HF.out]; rfl, HB5.out⟩
      have HW' := Lib.hid (fun W => by have := HW.out W; rewrite [hs] at this; exact this)
      have HQ2 := Lib.hid (show spAt l k x = (decide (k = 0) || decide (lastUn (-1) (l.take k) < x.fr)) from by rw [HQ.out, hs]; rfl)
      clear HW hs HQ
      by_cases h0 : k = 0
      · have HX := Lib.hid (show setGo (-1) (l.take (k + 1)) = true from by rw [HSt.out, HQ2.out, decide_eq_true h0]; rfl)
        have n2 : decide ((0 : Int) < (k : Int)) = false := decide_eq_false (by omega)
        have n3 : decide (0 < k) = false := decide_eq_false (by omega)
        clear h0 HPr
        go_wp2_with fail
        refine (HW'.out _).mono ?_
        rintro e w4 ⟨rfl, hb4⟩
        have HB4 := Lib.hid (HB.out.tr hb4)
        clear hb4
        go_wp2_with fail
        refine region_below (by kernel_rfl) (by kernel_rfl) ?_
        repeat (first | go_big_quiet_step (fail) | quiet_step (fail))
        refine wpQuiet_nil ?_
        rintro w5 ⟨⟨X3, hb⟩, e2⟩
        have e3 : w5 = X3 := e2
        subst e3
        clear e2
        have HB5 := Lib.hid (HB4.out.tr hb)
        clear hb
        go_wp2_with fail
        go_roundw
        case rel => exact ⟨k + 1, by omega, by go_num, HX.out, HB5.out⟩
        case measure => simp [intOf]; omega
      obtain ⟨j, hj⟩ : ∃ j, k = j + 1 := ⟨k - 1, by omega⟩
      obtain ⟨hjl, e1, cj⟩ := HPr.out j hj
      have HQ3 := Lib.hid (show spAt l k x = decide (l[j].un < x.fr) from by rw [HQ2.out, e1, decide_eq_false (by omega)]; rfl)
      have g0 : ∀ p : Kp wr, p.x.cell? ⟨b, off + k * 2, none⟩ = some (.int .i64 x.fr) := kp_cell hb c0
      have g1 : ∀ p : Kp wr, p.x.cell? ⟨b, off + j * 2 + 1, none⟩ = some (.int .i64 l[j].un) := kp_cell hb cj
      have n2 : decide ((0 : Int) < (k : Int)) = true := decide_eq_true (by omega)
      have n3 : decide (0 < k) = true := decide_eq_true (by omega)
      have hsub : (k : Int) - 1 = j := by omega
      have hjn : j < n := by omega
      clear e1 cj HPr hj
      generalize l[j] = y at *
      by_cases h2 : x.fr ≤ y.un
      · have d2 : decide (x.fr ≤ y.un) = true := decide_eq_true h2
        have HF := Lib.hid (HBad.out (by rw [HQ3.out]; exact decide_eq_false (by omega)))
        clear h2 h0
        go_wp2_with fail
        refine (HW'.out _).mono ?_
        rintro e w4 ⟨rfl, hb4⟩
        have HB4 := Lib.hid (HB.out.tr hb4)
        have g0' : ∀ p : Kp w4, p.x.cell? ⟨b, off + k * 2, none⟩ = some (.int .i64 x.fr) := fun p => g0 ⟨p.x, hb4.tr p.h⟩
        have g1' : ∀ p : Kp w4, p.x.cell? ⟨b, off + j * 2 + 1, none⟩ = some (.int .i64 y.un) := fun p => g1 ⟨p.x, hb4.tr p.h⟩
        clear hb4 g0 g1
        go_wp2_with fail
        refine region_below (by kernel_rfl) (by kernel_rfl) ?_
        repeat (first | go_big_quiet_step (fail) | quiet_step (fail))
        refine wpQuiet_nil ?_
        rintro w5 ⟨⟨X3, hb⟩, e2⟩
        have e3 : w5 = X3 := e2
        subst e3
        clear e2
        have HB5 := Lib.hid (HB4.out.tr hb)
        clear hb g0' g1'
        go_wp2_with fail
        go_ret
        exact ⟨by rw [HF.out]; rfl, HB5.out⟩
      · have d2 : decide (x.fr ≤ y.un) = false := decide_eq_false h2
        have HX := Lib.hid (show setGo (-1) (l.take (k + 1)) = true from by rw [HSt.out, HQ3.out]; exact decide_eq_true (by omega))
        clear h2 h0
        go_wp2_with fail
        refine (HW'.out _).mono ?_
        rintro e w4 ⟨rfl, hb4⟩
        have HB4 := Lib.hid (HB.out.tr hb4)
        have g0' : ∀ p : Kp w4, p.x.cell? ⟨b, off + k * 2, none⟩ = some (.int .i64 x.fr) := fun p => g0 ⟨p.x, hb4.tr p.h⟩
        have g1' : ∀ p : Kp w4, p.x.cell? ⟨b, off + j * 2 + 1, none⟩ = some (.int .i64 y.un) := fun p => g1 ⟨p.x, hb4.tr p.h⟩
        clear hb4 g0 g1
        go_wp2_with fail
        refine region_below (by kernel_rfl) (by kernel_rfl) ?_
        repeat (first | go_big_quiet_step (fail) | quiet_step (fail))
        refine wpQuiet_nil ?_
        rintro w5 ⟨⟨X3, hb⟩, e2⟩
        have e3 : w5 = X3 := e2
        subst e3
        clear e2
        have HB5 := Lib.hid (HB4.out.tr hb)
        clear hb g0' g1'
        go_wp2_with fail
        go_roundw
        case rel => exact ⟨k + 1, by omega, by go_num, HX.out, HB5.out⟩
        case measure => simp [intOf]; omega
    · have HX := Lib.hid (show setB l = decide (n ≤ 1000) from by
        have h := HN.out
        rw [List.take_of_length_le (by rw [HL.out]; omega)] at h
        unfold setB
        rw [h, HL.out]; rfl)
      by_cases h3 : n ≤ 1000
      · have d3 : decide ((n : Int) ≤ 1000) = true := decide_eq_true (by omega)
        go_wp2
        go_ret
        exact ⟨by rw [HX.out, decide_eq_true h3]; rfl, HB.out⟩
      · have d3 : decide ((n : Int) ≤ 1000) = false := decide_eq_false (by omega)
        go_wp2
        go_ret
        exact ⟨by rw [HX.out, decide_eq_false h3]; rfl, HB.out⟩

set_option maxRecDepth 100000 in
set_option maxHeartbeats 4000000 in
theorem room16_any (r : RG) (w : World) (hr : r.ok w w.heap.size) :
    Calls Tryz.prog 61 #[.agg #[.int .i64 r.id, .int .i64 r.house, .int .i64 r.kind, .int .i64 r.joins, .bool r.access, .slice r.A r.n r.c]] w fun e w' => e = .returned (.bool (formedB r.rm)) ∧ Below w.heap.size w w' := by
  have HW := Lib.hid (alloc_b w (.cells #[.int .i64 r.id, .int .i64 r.house, .int .i64 r.kind, .int .i64 r.joins, .bool r.access, .slice r.A r.n r.c] 45))
  have HN := Lib.hid (Nat.le_trans hr.cap hr.most)
  have HV := Lib.hid (valid02_any r.A r.n r.c r.blocked (w.alloc (.cells #[.int .i64 r.id, .int .i64 r.house, .int .i64 r.kind, .int .i64 r.joins, .bool r.access, .slice r.A r.n r.c] 45)) HN.out (hr.sp.below HW.out))
  have HSp := Lib.hid (hr.sp.below HW.out)
  have HF := Lib.hid (show formedB r.rm = (setB r.blocked && (inB r.id 1 1000000 && (inB r.house 1 20 && (inB r.kind 1 20 && (inB r.joins 0 1000000 && (!(r.joins == r.id) && lastOk r.blocked)))))) from formed_ref r.rm)
  have hX := World.alloc_heap_new w (.cells #[.int .i64 r.id, .int .i64 r.house, .int .i64 r.kind, .int .i64 r.joins, .bool r.access, .slice r.A r.n r.c] 45)
  clear hr
  obtain ⟨id, house, kind, joins, access, A, n, c, blocked⟩ := r
  simp only [RG.rm] at *
  cases a0 : setB blocked
  · have HF' := Lib.hid (show _ = false from HF.out.trans (by simp [a0]))
    have HV' := Lib.hid (by have := HV.out; rewrite [a0] at this; exact this)
    clear HF HV a0 hX
    go_enter Tryz.func61, Tryz.ntmps61
    go_wp2_with fail
    refine HV'.out.mono ?_
    rintro e w1 ⟨rfl, hb1⟩
    go_wp2_with (go_at_call 119; refine (in_r16 _ _ _ _).mono ?_; rintro e w' ⟨rfl, rfl⟩)
    go_ret
    exact ⟨by rw [HF'.out]; rfl, HW.out.tr hb1⟩
  have HV' := Lib.hid (by have := HV.out; rewrite [a0] at this; exact this)
  clear HV
  go_enter Tryz.func61, Tryz.ntmps61
  go_wp2_with fail
  refine HV'.out.mono ?_
  rintro e w1 ⟨rfl, hb1⟩
  have HB1 := Lib.hid hb1
  have hX1 := (hb1.block w.heap.size (by simp)).trans hX
  have e0 := cell_of hX1 0
  have e1 := cell_of hX1 1
  have e2 := cell_of hX1 2
  have e3 := cell_of hX1 3
  have e5 := cell_of hX1 5
  simp only [List.getElem?_toArray, List.getElem?_cons_zero, List.getElem?_cons_succ] at e0 e1 e2 e3 e5
  have HSp1 := Lib.hid (HSp.out.below hb1)
  clear hb1 hX hX1 HV' HSp
  cases a1 : inB id 1 1000000
  · have HF' := Lib.hid (show _ = false from HF.out.trans (by simp [a0, a1]))
    clear HF
    go_wp2_with (go_at_call 119; refine (in_r16 _ _ _ _).mono ?_; rintro e w' ⟨rfl, rfl⟩)
    go_ret
    exact ⟨by rw [HF'.out]; rfl, HW.out.tr HB1.out⟩
  cases a2 : inB house 1 20
  · have HF' := Lib.hid (show _ = false from HF.out.trans (by simp [a0, a1, a2]))
    clear HF
    go_wp2_with (go_at_call 119; refine (in_r16 _ _ _ _).mono ?_; rintro e w' ⟨rfl, rfl⟩)
    go_ret
    exact ⟨by rw [HF'.out]; rfl, HW.out.tr HB1.out⟩
  cases a3 : inB kind 1 20
  · have HF' := Lib.hid (show _ = false from HF.out.trans (by simp [a0, a1, a2, a3]))
    clear HF
    go_wp2_with (go_at_call 119; refine (in_r16 _ _ _ _).mono ?_; rintro e w' ⟨rfl, rfl⟩)
    go_ret
    exact ⟨by rw [HF'.out]; rfl, HW.out.tr HB1.out⟩
  cases a4 : inB joins 0 1000000
  · have HF' := Lib.hid (show _ = false from HF.out.trans (by simp [a0, a1, a2, a3, a4]))
    clear HF
    go_wp2_with (go_at_call 119; refine (in_r16 _ _ _ _).mono ?_; rintro e w' ⟨rfl, rfl⟩)
    go_ret
    exact ⟨by rw [HF'.out]; rfl, HW.out.tr HB1.out⟩
  cases a5 : (joins == id)
  rotate_left
  · have HF' := Lib.hid (show _ = false from HF.out.trans (by simp [a0, a1, a2, a3, a4, a5]))
    clear HF
    go_wp2_with (go_at_call 119; refine (in_r16 _ _ _ _).mono ?_; rintro e w' ⟨rfl, rfl⟩)
    go_ret
    exact ⟨by rw [HF'.out]; rfl, HW.out.tr HB1.out⟩
  have HF' := Lib.hid (show _ = lastOk blocked from HF.out.trans (by simp [a0, a1, a2, a3, a4, a5]))
  clear HF
  rcases Nat.eq_zero_or_pos n with h0 | h0
  · subst h0
    have hbl : blocked = [] := List.length_eq_zero_iff.1 HSp1.out.len
    have HZ := Lib.hid (show lastOk blocked = true from by rw [hbl]; rfl)
    clear hbl
    go_wp2_with (go_at_call 119; refine (in_r16 _ _ _ _).mono ?_; rintro e w' ⟨rfl, rfl⟩)
    go_ret
    exact ⟨by rw [HF'.out, HZ.out]; rfl, HW.out.tr HB1.out⟩
  · obtain ⟨m, rfl⟩ : ∃ m, n = m + 1 := ⟨n - 1, by omega⟩
    obtain ⟨bb, off, rfl, hbb, hcc⟩ := HSp1.out.at_ h0
    have hml : m < blocked.length := by rw [HSp1.out.len]; omega
    have HZ := Lib.hid (show lastOk blocked = decide (blocked[m].un ≤ 366) from lastOk_last HSp1.out.len)
    have cm := (hcc m hml).2
    have hnn := HN.out
    have n1 : (((m + 1 : Nat) : Int) == 0) = false := by simp; omega
    have n2 : ((m : Int) + 1 == 0) = false := by simp; omega
    have hsub : ((m + 1 : Nat) : Int) - 1 = m := by omega
    have hsub2 : (m : Int) + 1 - 1 = m := by omega
    clear hcc h0 HSp1
    generalize blocked[m] = y at *
    go_wp2_with (go_at_call 119; refine (in_r16 _ _ _ _).mono ?_; rintro e w' ⟨rfl, rfl⟩)
    go_ret
    exact ⟨by rw [HF'.out, HZ.out]; rfl, HW.out.tr HB1.out⟩

set_option maxRecDepth 100000 in
set_option maxHeartbeats 4000000 in
theorem free16_any (r : RG) (a b : Int) (w : World) (hr : r.ok w w.heap.size) :
    Calls Tryz.prog 121 #[.agg #[.int .i64 r.id, .int .i64 r.house, .int .i64 r.kind, .int .i64 r.joins, .bool r.access, .slice r.A r.n r.c], .agg #[.int .i64 a, .int .i64 b]] w fun e w' => e = .returned (.bool (freeB r.rm ⟨a, b⟩)) ∧ Below w.heap.size w w' := by
  have HW := Lib.hid ((alloc_b w (.cells #[.int .i64 r.id, .int .i64 r.house, .int .i64 r.kind, .int .i64 r.joins, .bool r.access, .slice r.A r.n r.c] 45)).al (.cells #[.int .i64 a, .int .i64 b] 93))
  have hR0 := (Below.heap_alloc (w.alloc (.cells #[.int .i64 r.id, .int .i64 r.house, .int .i64 r.kind, .int .i64 r.joins, .bool r.access, .slice r.A r.n r.c] 45)) (.cells #[.int .i64 a, .int .i64 b] 93) w.heap.size (by simp)).trans (World.alloc_heap_new w (.cells #[.int .i64 r.id, .int .i64 r.house, .int .i64 r.kind, .int .i64 r.joins, .bool r.access, .slice r.A r.n r.c] 45))
  have hS0 := World.alloc_heap_new (w.alloc (.cells #[.int .i64 r.id, .int .i64 r.house, .int .i64 r.kind, .int .i64 r.joins, .bool r.access, .slice r.A r.n r.c] 45)) (.cells #[.int .i64 a, .int .i64 b] 93)
  rw [World.size_alloc] at hS0
  have HSp := Lib.hid (hr.sp.below HW.out)
  have HN := Lib.hid (Nat.le_trans hr.cap hr.most)
  have HF := Lib.hid (show freeB r.rm ⟨a, b⟩ = !r.blocked.any fun s => overlapB s ⟨a, b⟩ from rfl)
  have HL := Lib.hid hr.sp.len
  have hzX : w.heap.size + 2 ≤ ((w.alloc (.cells #[.int .i64 r.id, .int .i64 r.house, .int .i64 r.kind, .int .i64 r.joins, .bool r.access, .slice r.A r.n r.c] 45)).alloc (.cells #[.int .i64 a, .int .i64 b] 93)).heap.size := by simp
  clear hr
  go_enter Tryz.func121, Tryz.ntmps121
  go_upto_region 1 with fail
  generalize hX : (w.alloc (.cells #[.int .i64 r.id, .int .i64 r.house, .int .i64 r.kind, .int .i64 r.joins, .bool r.access, .slice r.A r.n r.c] 45)).alloc (.cells #[.int .i64 a, .int .i64 b] 93) = X at *
  have y5 := cell_of hR0 5
  have z0 := cell_of hS0 0
  have z1 := cell_of hS0 1
  simp only [List.getElem?_toArray, List.getElem?_cons_zero, List.getElem?_cons_succ] at y5 z0 z1
  have Y5 := Lib.hid (fun (W : World) (h : Below X.heap.size X W) => (h.cell (p := ⟨w.heap.size, 5, none⟩) (by show w.heap.size < _; omega)).trans y5)
  have Z0 := Lib.hid (fun (W : World) (h : Below X.heap.size X W) => (h.cell (p := ⟨w.heap.size + 1, 0, none⟩) (by show w.heap.size + 1 < _; omega)).trans z0)
  have Z1 := Lib.hid (fun (W : World) (h : Below X.heap.size X W) => (h.cell (p := ⟨w.heap.size + 1, 1, none⟩) (by show w.heap.size + 1 < _; omega)).trans z1)
  clear hX hR0 hS0 y5 z0 z1
  go_wp2_with fail
  go_loopw [5] (fun i wr => ∃ k : Nat, k ≤ r.n ∧ i = .int .i64 k ∧ ((r.blocked.take k).any fun s => overlapB s ⟨a, b⟩) = false ∧ Below X.heap.size X wr) (fun i _ => r.n - (intOf i).toNat)
  case atStart => exact ⟨0, Nat.zero_le _, rfl, by simp, Below.refl _ _⟩
  case round =>
    obtain ⟨k, hk, rfl, hno, hB⟩ := hrel
    have HNo := Lib.hid hno
    have HB := Lib.hid hB
    have y5 := Y5.out _ hB
    have hnn := HN.out
    clear hno hB
    by_cases hlt : k < r.n
    · have hkl : k < r.blocked.length := by rw [HL.out]; exact hlt
      obtain ⟨bb, off, eA, hbb, hcc⟩ := (HSp.out.to HB.out HB.out.size).at_ (by omega)
      obtain ⟨c0, c1⟩ := hcc k hkl
      rw [eA] at y5
      have HT := Lib.hid (show r.blocked.take (k + 1) = r.blocked.take k ++ [r.blocked[k]] from List.take_succ_eq_append_getElem hkl)
      have HMem := Lib.hid (show r.blocked[k] ∈ r.blocked from List.getElem_mem hkl)
      clear hcc eA
      generalize r.blocked[k] = x at *
      have HO := Lib.hid (fun W => overlap02_any x.fr x.un a b W)
      have f0 : ∀ p : Kp wr, p.x.cell? ⟨bb, off + k * 2, none⟩ = some (.int .i64 x.fr) := kp_cell hbb c0
      have f1 : ∀ p : Kp wr, p.x.cell? ⟨bb, off + k * 2 + 1, none⟩ = some (.int .i64 x.un) := kp_cell hbb c1
      have f2 : ∀ p : Kp wr, p.x.cell? ⟨w.heap.size, 5, none⟩ = some (.slice (some ⟨bb, off, none⟩) r.n r.c) := fun p => (p.h.cell (p := ⟨w.heap.size, 5, none⟩) (by show w.heap.size < _; have := HB.out.size; omega)).trans y5
      have f3 : ∀ p : Kp wr, p.x.cell? ⟨w.heap.size + 1, 0, none⟩ = some (.int .i64 a) := fun p => Z0.out _ (HB.out.tr p.h)
      have f4 : ∀ p : Kp wr, p.x.cell? ⟨w.heap.size + 1, 1, none⟩ = some (.int .i64 b) := fun p => Z1.out _ (HB.out.tr p.h)
      clear c0 c1
      cases ho : overlapB x ⟨a, b⟩
      · have HO' := Lib.hid (fun W => by have := HO.out W; rewrite [show overlapB ⟨x.fr, x.un⟩ ⟨a, b⟩ = false from ho] at this; exact this)
        have HX := Lib.hid (show ((r.blocked.take (k + 1)).any fun s => overlapB s ⟨a, b⟩) = false from by rw [HT.out, List.any_append, HNo.out]; simp [ho])
        clear HO ho
        go_wp2_with fail
        refine region_below (by kernel_rfl) (by kernel_rfl) ?_
        repeat (first | go_big_quiet_step ((go_at_call 162; exact kp_call _ (HO'.out _))) | quiet_step ((go_at_call 162; exact kp_call _ (HO'.out _))))
        refine wpQuiet_nil ?_
        rintro w5 ⟨⟨X3, hb⟩, e2⟩
        have e3 : w5 = X3 := e2
        subst e3
        clear e2
        have HB5 := Lib.hid (HB.out.tr hb)
        clear hb f0 f1 f2 f3 f4 y5
        go_wp2_with fail
        go_roundw
        case rel => exact ⟨k + 1, by omega, by go_num, HX.out, HB5.out⟩
        case measure => simp [intOf]; omega
      · have HO' := Lib.hid (fun W => by have := HO.out W; rewrite [show overlapB ⟨x.fr, x.un⟩ ⟨a, b⟩ = true from ho] at this; exact this)
        have HX := Lib.hid (show freeB r.rm ⟨a, b⟩ = false from by
          rw [HF.out, List.any_eq_true.2 ⟨x, HMem.out, ho⟩]; rfl)
        clear HO ho
        go_wp2_with fail
        refine region_below (by kernel_rfl) (by kernel_rfl) ?_
        repeat (first | go_big_quiet_step ((go_at_call 162; exact kp_call _ (HO'.out _))) | quiet_step ((go_at_call 162; exact kp_call _ (HO'.out _))))
        refine wpQuiet_nil ?_
        rintro w5 ⟨⟨X3, hb⟩, e2⟩
        have e3 : w5 = X3 := e2
        subst e3
        clear e2
        have HB5 := Lib.hid (HB.out.tr hb)
        clear hb f0 f1 f2 f3 f4 y5
        go_wp2_with fail
        go_ret
        exact ⟨by rw [HX.out]; rfl, HW.out.tr HB5.out⟩
    · have HX := Lib.hid (show freeB r.rm ⟨a, b⟩ = true from by
        have h := HNo.out
        rw [List.take_of_length_le (by rw [HL.out]; omega)] at h
        rw [HF.out, h]; rfl)
      go_wp2_with fail
      go_ret
      exact ⟨by rw [HX.out]; rfl, HW.out.tr HB.out⟩

set_option maxRecDepth 100000 in
set_option maxHeartbeats 4000000 in
theorem freeC16_any (r : RG) (a b : Int) (w : World) (hr : r.ok w w.heap.size) :
    Calls Tryz.prog 63 #[.agg #[.int .i64 r.id, .int .i64 r.house, .int .i64 r.kind, .int .i64 r.joins, .bool r.access, .slice r.A r.n r.c], .agg #[.int .i64 a, .int .i64 b]] w fun e w' => e = .returned (.tuple #[.bool (formedB r.rm && periodB ⟨a, b⟩ && freeB r.rm ⟨a, b⟩), .int .i64 (if (formedB r.rm && periodB ⟨a, b⟩) = true then 0 else 1)]) ∧ Below w.heap.size w w' := by
  have HW := Lib.hid ((alloc_b w (.cells #[.int .i64 r.id, .int .i64 r.house, .int .i64 r.kind, .int .i64 r.joins, .bool r.access, .slice r.A r.n r.c] 45)).al (.cells #[.int .i64 a, .int .i64 b] 93))
  have HRk := Lib.hid (hr.below HW.out)
  have hR0 := (Below.heap_alloc (w.alloc (.cells #[.int .i64 r.id, .int .i64 r.house, .int .i64 r.kind, .int .i64 r.joins, .bool r.access, .slice r.A r.n r.c] 45)) (.cells #[.int .i64 a, .int .i64 b] 93) w.heap.size (by simp)).trans (World.alloc_heap_new w (.cells #[.int .i64 r.id, .int .i64 r.house, .int .i64 r.kind, .int .i64 r.joins, .bool r.access, .slice r.A r.n r.c] 45))
  have hS0 := World.alloc_heap_new (w.alloc (.cells #[.int .i64 r.id, .int .i64 r.house, .int .i64 r.kind, .int .i64 r.joins, .bool r.access, .slice r.A r.n r.c] 45)) (.cells #[.int .i64 a, .int .i64 b] 93)
  rw [World.size_alloc] at hS0
  have hzX : w.heap.size + 2 ≤ ((w.alloc (.cells #[.int .i64 r.id, .int .i64 r.house, .int .i64 r.kind, .int .i64 r.joins, .bool r.access, .slice r.A r.n r.c] 45)).alloc (.cells #[.int .i64 a, .int .i64 b] 93)).heap.size := by simp
  obtain ⟨fm, hfm⟩ : ∃ fm, formedB r.rm = fm := ⟨_, rfl⟩
  obtain ⟨pm, hpm⟩ : ∃ pm, periodB ⟨a, b⟩ = pm := ⟨_, rfl⟩
  obtain ⟨fb, hfb⟩ : ∃ fb, freeB r.rm ⟨a, b⟩ = fb := ⟨_, rfl⟩
  rw [hfm, hpm, hfb]
  have HFm := Lib.hid hfm
  have HPm := Lib.hid hpm
  have HFb := Lib.hid hfb
  clear hr hfm hpm hfb
  go_enter Tryz.func63, Tryz.ntmps63
  go_upto_region 1 with fail
  generalize hX : (w.alloc (.cells #[.int .i64 r.id, .int .i64 r.house, .int .i64 r.kind, .int .i64 r.joins, .bool r.access, .slice r.A r.n r.c] 45)).alloc (.cells #[.int .i64 a, .int .i64 b] 93) = X at *
  have HR0 := Lib.hid (fun (W : World) (h : Below X.heap.size X W) => (h.block w.heap.size (by omega)).trans hR0)
  have HS0 := Lib.hid (fun (W : World) (h : Below X.heap.size X W) => (h.block (w.heap.size + 1) (by omega)).trans hS0)
  have y0 := cell_of hR0 0
  have y1 := cell_of hR0 1
  have y2 := cell_of hR0 2
  have y3 := cell_of hR0 3
  have y4 := cell_of hR0 4
  have y5 := cell_of hR0 5
  simp only [List.getElem?_toArray, List.getElem?_cons_zero, List.getElem?_cons_succ] at y0 y1 y2 y3 y4 y5
  clear hX hR0 hS0
  have HRo := Lib.hid (by have := room16_any r X HRk.out; rewrite [HFm.out] at this; exact this)
  have HPe := Lib.hid (fun W => by have := period16_any a b W; rewrite [HPm.out] at this; exact this)
  have HFr := Lib.hid (fun W (h : Below X.heap.size X W) => by have := free16_any r a b W (HRk.out.below h); rewrite [HFb.out] at this; exact this)
  cases fm
  · have HRo' := Lib.hid HRo.out
    clear HRo
    go_wp2_with fail
    refine HRo'.out.mono ?_
    rintro e w1 ⟨rfl, hb1⟩
    have HB1 := Lib.hid hb1
    clear hb1 y0 y1 y2 y3 y4 y5
    have hr1 := HR0.out w1 HB1.out
    have hs1 := HS0.out w1 HB1.out
    have y0 := cell_of hr1 0
    have y1 := cell_of hr1 1
    have y2 := cell_of hr1 2
    have y3 := cell_of hr1 3
    have y4 := cell_of hr1 4
    have y5 := cell_of hr1 5
    have z0 := cell_of hs1 0
    have z1 := cell_of hs1 1
    simp only [List.getElem?_toArray, List.getElem?_cons_zero, List.getElem?_cons_succ] at y0 y1 y2 y3 y4 y5 z0 z1
    clear hr1 hs1
    go_wp2_with fail
    go_ret2
    exact ⟨rfl, HW.out.tr HB1.out⟩
  have HRo' := Lib.hid HRo.out
  clear HRo
  go_wp2_with fail
  refine HRo'.out.mono ?_
  rintro e w1 ⟨rfl, hb1⟩
  have HB1 := Lib.hid hb1
  clear hb1 y0 y1 y2 y3 y4 y5
  have hr1 := HR0.out w1 HB1.out
  have hs1 := HS0.out w1 HB1.out
  have y0 := cell_of hr1 0
  have y1 := cell_of hr1 1
  have y2 := cell_of hr1 2
  have y3 := cell_of hr1 3
  have y4 := cell_of hr1 4
  have y5 := cell_of hr1 5
  have z0 := cell_of hs1 0
  have z1 := cell_of hs1 1
  simp only [List.getElem?_toArray, List.getElem?_cons_zero, List.getElem?_cons_succ] at y0 y1 y2 y3 y4 y5 z0 z1
  clear hr1 hs1
  cases pm
  · have HPe' := Lib.hid HPe.out
    clear HPe
    go_wp2_with (go_at_call 120; refine (HPe'.out _).mono ?_; rintro e w2 ⟨rfl, hb2⟩; have HB2 := Lib.hid (HB1.out.tr hb2); clear hb2)
    go_ret2
    exact ⟨rfl, HW.out.tr HB2.out⟩
  · have HPe' := Lib.hid HPe.out
    clear HPe
    go_wp2_with (go_at_call 120; refine (HPe'.out _).mono ?_; rintro e w2 ⟨rfl, hb2⟩; have HB2 := Lib.hid (HB1.out.tr hb2); clear hb2 y0 y1 y2 y3 y4 y5 z0 z1; have hr1 := HR0.out w2 HB2.out; have hs1 := HS0.out w2 HB2.out; have y0 := cell_of hr1 0; have y1 := cell_of hr1 1; have y2 := cell_of hr1 2; have y3 := cell_of hr1 3; have y4 := cell_of hr1 4; have y5 := cell_of hr1 5; have z0 := cell_of hs1 0; have z1 := cell_of hs1 1; simp only [List.getElem?_toArray, List.getElem?_cons_zero, List.getElem?_cons_succ] at y0 y1 y2 y3 y4 y5 z0 z1; clear hr1 hs1)
    refine (HFr.out _ HB2.out).mono ?_
    rintro e w3 ⟨rfl, hb3⟩
    go_wp2_with fail
    go_ret2
    exact ⟨rfl, HW.out.tr (HB2.out.tr hb3)⟩

end Go.Proofs.YtdhhcbkldfdbbaaGreat

/-
  R17.Stay: whether a stay is well-formed. Printed by gen_refc.py.
-/
namespace Go.Proofs.YtdhhcbkldfdbbaaGreat
open Go.RowKit Go.Shelf Go.Sort

/-! R17.Stay -/
theorem stayB_ref (s : St) : stayB s = (inB s.id 1 1000000 && (inB s.kind 1 20 && (nightsB s && (inB s.persons 1 8 && (inB s.room 0 1000000 && (inB s.wth 0 1000000 && ((s.wth != s.id) && (!s.inn || (s.room != 0))))))))) := by
  rw [stayB_parts]
  unfold whoB whereB
  have h : (!(s.inn && (s.room == 0))) = (!s.inn || (s.room != 0)) := by cases s.inn <;> simp [bne]
  rw [h]
  generalize inB s.id 1 1000000 = b1
  generalize inB s.kind 1 20 = b2
  generalize nightsB s = b3
  generalize inB s.persons 1 8 = b4
  generalize inB s.room 0 1000000 = b5
  generalize inB s.wth 0 1000000 = b6
  generalize (s.wth != s.id) = b7
  generalize (!s.inn || (s.room != 0)) = b8
  revert b1 b2 b3 b4 b5 b6 b7 b8
  decide

set_option maxRecDepth 100000 in
set_option maxHeartbeats 4000000 in
theorem stay17_any (s : St) (w : World) (hok : s.ok) :
    Calls Tryz.prog 88 #[.agg #[.int .i64 s.id, .int .i64 s.kind, .int .i64 s.fr, .int .i64 s.un, .int .i64 s.persons, .int .i64 s.room, .int .i64 s.wth, .bool s.access, .bool s.inn]] w fun e w' => e = .returned (.bool (stayB s)) ∧ Below w.heap.size w w' := by
  have hB := alloc_b w (.cells #[.int .i64 s.id, .int .i64 s.kind, .int .i64 s.fr, .int .i64 s.un, .int .i64 s.persons, .int .i64 s.room, .int .i64 s.wth, .bool s.access, .bool s.inn] 36)
  have hX := World.alloc_heap_new w (.cells #[.int .i64 s.id, .int .i64 s.kind, .int .i64 s.fr, .int .i64 s.un, .int .i64 s.persons, .int .i64 s.room, .int .i64 s.wth, .bool s.access, .bool s.inn] 36)
  have HP := Lib.hid (stayB_ref s)
  obtain ⟨h1, h2⟩ := hok.fr
  obtain ⟨h3, h4⟩ := hok.un
  go_enter Tryz.func88, Tryz.ntmps88
  go_upto_region 1 with fail
  generalize hW : World.alloc w _ = W at *
  have HB := Lib.hid hB
  have c0 := cell_of hX 0
  have c1 := cell_of hX 1
  have c2 := cell_of hX 2
  have c3 := cell_of hX 3
  have c4 := cell_of hX 4
  have c5 := cell_of hX 5
  have c6 := cell_of hX 6
  have c8 := cell_of hX 8
  simp only [List.getElem?_toArray, List.getElem?_cons_zero, List.getElem?_cons_succ] at c0 c1 c2 c3 c4 c5 c6 c8
  clear hW hX hB hok
  go_upto_region 3 with (go_at_call 142; refine (in_r17 _ _ _ _).mono ?_; rintro e W ⟨rfl, rfl⟩)
  go_cut [5] from 9 (fun u wx => u = .bool (nightsB s) ∧ wx = W)
  case first =>
    by_cases k1 : 0 ≤ s.fr
    rotate_left
    · have d1 : decide (0 ≤ s.fr) = false := decide_eq_false k1
      have HN := Lib.hid (show nightsB s = false from decide_eq_false fun h => k1 h.1)
      go_wp2_with fail
      go_meet
      exact ⟨by rw [HN.out], rfl⟩
    have d1 : decide (0 ≤ s.fr) = true := decide_eq_true k1
    by_cases k2 : s.fr < s.un
    rotate_left
    · have d2 : decide (s.fr < s.un) = false := decide_eq_false k2
      have HN := Lib.hid (show nightsB s = false from decide_eq_false fun h => k2 h.2.1)
      go_wp2_with fail
      go_meet
      exact ⟨by rw [HN.out], rfl⟩
    have d2 : decide (s.fr < s.un) = true := decide_eq_true k2
    by_cases k3 : s.un ≤ 366
    rotate_left
    · have d3 : decide (s.un ≤ 366) = false := decide_eq_false k3
      have HN := Lib.hid (show nightsB s = false from decide_eq_false fun h => k3 h.2.2.1)
      go_wp2_with fail
      go_meet
      exact ⟨by rw [HN.out], rfl⟩
    have d3 : decide (s.un ≤ 366) = true := decide_eq_true k3
    have HN := Lib.hid (show nightsB s = decide (s.un - s.fr ≤ 60) from decide_eq_decide.2 ⟨fun h => h.2.2.2, fun h => ⟨k1, k2, k3, h⟩⟩)
    go_wp2_with fail
    go_meet
    exact ⟨by rw [HN.out], rfl⟩
  obtain ⟨rfl, rfl⟩ := hcut
  generalize nightsB s = bn at *
  clear h1 h2 h3 h4
  go_upto_region 7 with (go_at_call 142; refine (in_r17 _ _ _ _).mono ?_; rintro e wc ⟨rfl, rfl⟩)
  generalize inB s.id 1 1000000 = b1 at *
  generalize inB s.kind 1 20 = b2 at *
  generalize inB s.persons 1 8 = b4 at *
  generalize inB s.room 0 1000000 = b5 at *
  generalize inB s.wth 0 1000000 = b6 at *
  cases b1
  · go_wp2_with fail
    go_ret
    exact ⟨by rw [HP.out]; simp, HB.out⟩
  cases b2
  · go_wp2_with fail
    go_ret
    exact ⟨by rw [HP.out]; simp, HB.out⟩
  cases bn
  · go_wp2_with fail
    go_ret
    exact ⟨by rw [HP.out]; simp, HB.out⟩
  cases b4
  · go_wp2_with fail
    go_ret
    exact ⟨by rw [HP.out]; simp, HB.out⟩
  cases b5
  · go_wp2_with fail
    go_ret
    exact ⟨by rw [HP.out]; simp, HB.out⟩
  cases b6
  · go_wp2_with fail
    go_ret
    exact ⟨by rw [HP.out]; simp, HB.out⟩
  cases h7 : (s.wth != s.id)
  · have HP2 := Lib.hid (show stayB s = false from by rw [HP.out, h7]; rfl)
    go_wp2_with fail
    go_ret
    exact ⟨by rw [HP2.out]; rfl, HB.out⟩
  have HP2 := Lib.hid (show stayB s = (!s.inn || (s.room != 0)) from by rw [HP.out, h7]; rfl)
  cases hi : s.inn <;> rw [hi] at HP2 c8
  · go_wp2_with fail
    go_ret
    exact ⟨by rw [HP2.out]; rfl, HB.out⟩
  · go_wp2_with fail
    go_ret
    exact ⟨by rw [HP2.out]; simp, HB.out⟩

end Go.Proofs.YtdhhcbkldfdbbaaGreat

/-
  R17.Valid: whether stays are well-formed. Printed by gen_refc.py.
-/
namespace Go.Proofs.YtdhhcbkldfdbbaaGreat
open Go.RowKit Go.Shelf Go.Sort

set_option maxRecDepth 100000 in
set_option maxHeartbeats 8000000 in
theorem valid17_any (A : Option Addr) (n c : Nat) (l : List St) (w : World) (hn : n ≤ 9223372036854775807) (hM : Sts w w.heap.size A n l) :
    Calls Tryz.prog 48 #[.slice A n c] w fun e w' => e = .returned (.bool (staysB l)) ∧ Below w.heap.size w w' := by
  have HL := Lib.hid hM.len
  have HM := Lib.hid hM
  have HAll := Lib.hid (staysB_at (l := l))
  clear hM
  by_cases h4 : 3000 < n
  · have d4 : decide ((3000 : Int) < (n : Int)) = true := decide_eq_true (by omega)
    have HF := Lib.hid (show staysB l = false from by
      cases h : staysB l
      · rfl
      · have := (HAll.out.1 h).1; rw [HL.out] at this; omega)
    clear h4
    go_enter Tryz.func48, Tryz.ntmps48
    go_wp2_with fail
    go_ret
    exact ⟨by rw [HF.out]; rfl, Below.refl _ _⟩
  have d4 : decide ((3000 : Int) < (n : Int)) = false := decide_eq_false (by omega)
  have HBad := Lib.hid (show ∀ (k : Nat) (hk : k < l.length), ¬ StayAt l k l[k] → staysB l = false from fun k hk h => by
    cases hh : staysB l
    · rfl
    · exact absurd ((HAll.out.1 hh).2.1 k hk) h)
  have HBad2 := Lib.hid (show ∀ (k : Nat) (hk : k < l.length), ¬ PairAt l l[k] → staysB l = false from fun k hk h => by
    cases hh : staysB l
    · rfl
    · exact absurd ((HAll.out.1 hh).2.2 k hk) h)
  have HIx := Lib.hid (fun (x : Int) W (h : Below w.heap.size w W) => index17_any A n c x l W hn (HM.out.to h h.size))
  have HG := Lib.hid (fun (h : 0 < n) => HM.out.at_ h)
  have hn3 : n ≤ 3000 := by omega
  clear h4
  go_enter Tryz.func48, Tryz.ntmps48
  go_wp2_with fail
  go_loopw [3] (fun i wr => ∃ k : Nat, k ≤ n ∧ i = .int .i64 k ∧ (∀ (j : Nat) (hj : j < l.length), j < k → StayAt l j l[j]) ∧ Below w.heap.size w wr) (fun i _ => n - (intOf i).toNat)
  case atStart => exact ⟨0, Nat.zero_le _, rfl, fun j hj h => absurd h (by omega), Below.refl _ _⟩
  case round =>
    obtain ⟨k, hk, rfl, hall, hB⟩ := hrel
    have HA := Lib.hid hall
    have HB := Lib.hid hB
    clear hall hB
    by_cases hlt : k < n
    · have hkl : k < l.length := by rw [HL.out]; exact hlt
      obtain ⟨bb, off, rfl, hbb, hcc⟩ := HG.out (by omega)
      have HC := Lib.hid (fun (W : World) (h : Below w.heap.size w W) (i : Nat) (hi : i < l.length) => show W.cell? ⟨bb, off + i * 9, none⟩ = some (.int .i64 l[i].id) ∧ W.cell? ⟨bb, off + i * 9 + 1, none⟩ = some (.int .i64 l[i].kind) ∧ W.cell? ⟨bb, off + i * 9 + 2, none⟩ = some (.int .i64 l[i].fr) ∧ W.cell? ⟨bb, off + i * 9 + 3, none⟩ = some (.int .i64 l[i].un) ∧ W.cell? ⟨bb, off + i * 9 + 4, none⟩ = some (.int .i64 l[i].persons) ∧ W.cell? ⟨bb, off + i * 9 + 5, none⟩ = some (.int .i64 l[i].room) ∧ W.cell? ⟨bb, off + i * 9 + 6, none⟩ = some (.int .i64 l[i].wth) ∧ W.cell? ⟨bb, off + i * 9 + 7, none⟩ = some (.bool l[i].access) ∧ W.cell? ⟨bb, off + i * 9 + 8, none⟩ = some (.bool l[i].inn) from by
        obtain ⟨c0, c1, c2, c3, c4, c5, c6, c7, c8⟩ := hcc i hi
        exact ⟨(h.cell (p := ⟨bb, off + i * 9, none⟩) hbb).trans c0, (h.cell (p := ⟨bb, off + i * 9 + 1, none⟩) hbb).trans c1, (h.cell (p := ⟨bb, off + i * 9 + 2, none⟩) hbb).trans c2, (h.cell (p := ⟨bb, off + i * 9 + 3, none⟩) hbb).trans c3, (h.cell (p := ⟨bb, off + i * 9 + 4, none⟩) hbb).trans c4, (h.cell (p := ⟨bb, off + i * 9 + 5, none⟩) hbb).trans c5, (h.cell (p := ⟨bb, off + i * 9 + 6, none⟩) hbb).trans c6, (h.cell (p := ⟨bb, off + i * 9 + 7, none⟩) hbb).trans c7, (h.cell (p := ⟨bb, off + i * 9 + 8, none⟩) hbb).trans c8⟩)
      have HCk := Lib.hid (fun (W : World) (h : Below w.heap.size w W) => HC.out W h k hkl)
      clear hcc
      have HGo := Lib.hid (show StayAt l k l[k] → ∀ (j : Nat) (hj : j < l.length), j < k + 1 → StayAt l j l[j] from fun h j hj hjk => by
        rcases Nat.lt_or_ge j k with h1 | h1
        · exact HA.out j hj h1
        · have : j = k := by omega
          subst this
          exact h)
      have HNo := Lib.hid (HBad.out k hkl)
      have HRA := Lib.hid (stayAt_iff (l := l) (k := k) (r := l[k]))
      have HRo := Lib.hid (fun W => stay17_any l[k] W (HM.out.ok _ (List.getElem_mem hkl)))
      generalize l[k] = r at *
      obtain ⟨c0, c1, c2, c3, c4, c5, c6, c7, c8⟩ := HCk.out _ HB.out
      cases hf : stayB r
      · have HF := Lib.hid (HNo.out fun h => by have := (HRA.out.1 h).1; rw [hf] at this; cases this)
        have HRo' := Lib.hid (fun W => by have := HRo.out W; rewrite [hf] at this; exact this)
        clear HRo hf
        go_wp2_with fail
        refine (HRo'.out _).mono ?_
        rintro e w4 ⟨rfl, hb⟩
        have HB4 := Lib.hid (HB.out.tr hb)
        clear hb
        go_wp2_with fail
        go_ret
        exact ⟨by rw [HF.out]; rfl, HB4.out⟩
      have HRo' := Lib.hid (fun W => by have := HRo.out W; rewrite [hf] at this; exact this)
      have HF1 := Lib.hid hf
      clear HRo hf
      go_wp2_with fail
      refine (HRo'.out _).mono ?_
      rintro e w4 ⟨rfl, hb⟩
      have HB4w := Lib.hid (HB.out.tr hb)
      clear hb c0 c1 c2 c3 c4 c5 c6 c7 c8
      obtain ⟨c0, c1, c2, c3, c4, c5, c6, c7, c8⟩ := HCk.out _ HB4w.out
      obtain ⟨ix, hix⟩ : ∃ ix, idxOf (l.map St.id) r.id = ix := ⟨_, rfl⟩
      have HI1 := Lib.hid (fun W h => by have := HIx.out r.id W h; rewrite [hix] at this; exact this)
      by_cases hik : ix = k
      rotate_left
      · have hne : (ix != (k : Int)) = true := by simpa using hik
        have HF := Lib.hid (HNo.out fun h => hik (hix ▸ (HRA.out.1 h).2))
        clear hik hix
        go_wp2_with (go_at_call 49; refine (HI1.out _ HB4w.out).mono ?_; rintro e w5 ⟨rfl, hb⟩; have HB5w := Lib.hid (HB4w.out.tr hb); clear hb)
        go_ret
        exact ⟨by rw [HF.out]; rfl, HB5w.out⟩
      subst hik
      have HX := Lib.hid (HGo.out (HRA.out.2 ⟨HF1.out, hix⟩))
      clear hix
      go_wp2_with (go_at_call 49; refine (HI1.out _ HB4w.out).mono ?_; rintro e w5 ⟨rfl, hb⟩; have HB5w := Lib.hid (HB4w.out.tr hb); clear hb)
      go_roundw
      case rel => exact ⟨k + 1, by omega, by go_num, HX.out, HB5w.out⟩
      case measure => simp [intOf]; omega
    · have HA1 := Lib.hid (show ∀ (i : Nat) (hi : i < l.length), StayAt l i l[i] from fun i hi => HA.out i hi (by rw [HL.out] at hi; omega))
      have HBv := Lib.hid HB.out
      clear HA HB
      generalize wr = W3 at *
      go_wp2_with fail
      go_loopw [5] (fun i wr => ∃ k : Nat, k ≤ n ∧ i = .int .i64 k ∧ (∀ (j : Nat) (hj : j < l.length), j < k → PairAt l l[j]) ∧ Below w.heap.size w wr) (fun i _ => n - (intOf i).toNat)
      case atStart => exact ⟨0, Nat.zero_le _, rfl, fun j hj h => absurd h (by omega), HBv.out⟩
      case round =>
        obtain ⟨k, hk, rfl, hall, hB⟩ := hrel
        have HA := Lib.hid hall
        have HB := Lib.hid hB
        clear hall hB
        by_cases hlt : k < n
        · have hkl : k < l.length := by rw [HL.out]; exact hlt
          obtain ⟨bb, off, rfl, hbb, hcc⟩ := HG.out (by omega)
          have HC := Lib.hid (fun (W : World) (h : Below w.heap.size w W) (i : Nat) (hi : i < l.length) => show W.cell? ⟨bb, off + i * 9, none⟩ = some (.int .i64 l[i].id) ∧ W.cell? ⟨bb, off + i * 9 + 1, none⟩ = some (.int .i64 l[i].kind) ∧ W.cell? ⟨bb, off + i * 9 + 2, none⟩ = some (.int .i64 l[i].fr) ∧ W.cell? ⟨bb, off + i * 9 + 3, none⟩ = some (.int .i64 l[i].un) ∧ W.cell? ⟨bb, off + i * 9 + 4, none⟩ = some (.int .i64 l[i].persons) ∧ W.cell? ⟨bb, off + i * 9 + 5, none⟩ = some (.int .i64 l[i].room) ∧ W.cell? ⟨bb, off + i * 9 + 6, none⟩ = some (.int .i64 l[i].wth) ∧ W.cell? ⟨bb, off + i * 9 + 7, none⟩ = some (.bool l[i].access) ∧ W.cell? ⟨bb, off + i * 9 + 8, none⟩ = some (.bool l[i].inn) from by
            obtain ⟨c0, c1, c2, c3, c4, c5, c6, c7, c8⟩ := hcc i hi
            exact ⟨(h.cell (p := ⟨bb, off + i * 9, none⟩) hbb).trans c0, (h.cell (p := ⟨bb, off + i * 9 + 1, none⟩) hbb).trans c1, (h.cell (p := ⟨bb, off + i * 9 + 2, none⟩) hbb).trans c2, (h.cell (p := ⟨bb, off + i * 9 + 3, none⟩) hbb).trans c3, (h.cell (p := ⟨bb, off + i * 9 + 4, none⟩) hbb).trans c4, (h.cell (p := ⟨bb, off + i * 9 + 5, none⟩) hbb).trans c5, (h.cell (p := ⟨bb, off + i * 9 + 6, none⟩) hbb).trans c6, (h.cell (p := ⟨bb, off + i * 9 + 7, none⟩) hbb).trans c7, (h.cell (p := ⟨bb, off + i * 9 + 8, none⟩) hbb).trans c8⟩)
          have HCk := Lib.hid (fun (W : World) (h : Below w.heap.size w W) => HC.out W h k hkl)
          clear hcc
          have HGo := Lib.hid (show PairAt l l[k] → ∀ (j : Nat) (hj : j < l.length), j < k + 1 → PairAt l l[j] from fun h j hj hjk => by
            rcases Nat.lt_or_ge j k with h1 | h1
            · exact HA.out j hj h1
            · have : j = k := by omega
              subst this
              exact h)
          have HNo := Lib.hid (HBad2.out k hkl)
          have HRA := Lib.hid (pairAt_iff (l := l) (r := l[k]))
          generalize l[k] = r at *
          obtain ⟨c0, c1, c2, c3, c4, c5, c6, c7, c8⟩ := HCk.out _ HB.out
          by_cases hj0 : r.wth = 0
          · have hj1 : (r.wth == 0) = true := by simpa using hj0
            have HX := Lib.hid (HGo.out (HRA.out.2 (.inl hj0)))
            clear hj0
            go_wp2_with fail
            go_roundw
            case rel => exact ⟨k + 1, by omega, by go_num, HX.out, HB.out⟩
            case measure => simp [intOf]; omega
          have hj1 : (r.wth == 0) = false := by simpa using hj0
          go_wp2_with fail
          rcases idx_cases (l.map St.id) r.wth with hq | ⟨q, hql, hq⟩
          · have HF := Lib.hid (HNo.out fun h => by
              rcases HRA.out.1 h with h1 | ⟨k', o', _, e, _⟩
              · exact hj0 h1
              · rw [hq] at e; omega)
            have HI2 := Lib.hid (fun W h => by have := HIx.out r.wth W h; rewrite [hq] at this; exact this)
            clear hq hj0
            refine (HI2.out _ HB.out).mono ?_
            rintro e w6 ⟨rfl, hb⟩
            have HB6w := Lib.hid (HB.out.tr hb)
            clear hb c0 c1 c2 c3 c4 c5 c6 c7 c8
            have m1 : decide ((-1 : Int) < 0) = true := rfl
            go_wp2_with fail
            refine region_below (by kernel_rfl) (by kernel_rfl) ?_
            repeat (first | go_big_quiet_step (fail) | quiet_step (fail))
            refine wpQuiet_nil ?_
            rintro w7 ⟨⟨X3, hb⟩, e2⟩
            have e3 : w7 = X3 := e2
            subst e3
            clear e2
            have HB7w := Lib.hid (HB6w.out.tr hb)
            clear hb
            go_wp2_with fail
            go_ret
            exact ⟨by rw [HF.out]; rfl, HB7w.out⟩
          rw [List.length_map] at hql
          have hqn : q < n := by rw [← HL.out]; exact hql
          have HAtq := Lib.hid (show ∀ (k' : Nat) (o' : St), l[k']? = some o' → idxOf (l.map St.id) r.wth = k' → o' = l[q] from fun k' o' h1 h2 => by
            have : k' = q := by omega
            subst this
            obtain ⟨_, e⟩ := List.getElem?_eq_some_iff.1 h1
            exact e.symm)
          have HGq := Lib.hid (show l[q]? = some l[q] from List.getElem?_eq_getElem hql)
          have HCq := Lib.hid (fun (W : World) (h : Below w.heap.size w W) => HC.out W h q hql)
          generalize l[q] = o at *
          have HI2 := Lib.hid (fun W h => by have := HIx.out r.wth W h; rewrite [hq] at this; exact this)
          have HQ := Lib.hid hq
          have m0 : decide ((q : Int) < 0) = false := decide_eq_false (by omega)
          clear hq
          refine (HI2.out _ HB.out).mono ?_
          rintro e w6 ⟨rfl, hb⟩
          have HB6w := Lib.hid (HB.out.tr hb)
          clear hb c0 c1 c2 c3 c4 c5 c6 c7 c8
          obtain ⟨c0, c1, c2, c3, c4, c5, c6, c7, c8⟩ := HCk.out _ HB6w.out
          obtain ⟨g0, g1, g2, g3, g4, g5, g6, g7, g8⟩ := HCq.out _ HB6w.out
          have hb6 : bb < w6.heap.size := Nat.lt_of_lt_of_le hbb HB6w.out.size
          have f0 : ∀ p : Kp w6, p.x.cell? ⟨bb, off + k * 9, none⟩ = some (.int .i64 r.id) := kp_cell hb6 c0
          have f2 : ∀ p : Kp w6, p.x.cell? ⟨bb, off + k * 9 + 2, none⟩ = some (.int .i64 r.fr) := kp_cell hb6 c2
          have f3 : ∀ p : Kp w6, p.x.cell? ⟨bb, off + k * 9 + 3, none⟩ = some (.int .i64 r.un) := kp_cell hb6 c3
          have i2 : ∀ p : Kp w6, p.x.cell? ⟨bb, off + q * 9 + 2, none⟩ = some (.int .i64 o.fr) := kp_cell hb6 g2
          have i3 : ∀ p : Kp w6, p.x.cell? ⟨bb, off + q * 9 + 3, none⟩ = some (.int .i64 o.un) := kp_cell hb6 g3
          have i6 : ∀ p : Kp w6, p.x.cell? ⟨bb, off + q * 9 + 6, none⟩ = some (.int .i64 o.wth) := kp_cell hb6 g6
          clear c0 c1 c2 c3 c4 c5 c6 c7 c8 g0 g1 g2 g3 g4 g5 g6 g7 g8
          by_cases ha : o.wth = r.id
          rotate_left
          · have hhba : (o.wth != r.id) = true := by simpa using ha
            have HF := Lib.hid (HNo.out fun h => by
              rcases HRA.out.1 h with h1 | ⟨k', o', h1, h2, h3, _, _⟩
              · exact hj0 h1
              · exact ha (HAtq.out k' o' h1 h2 ▸ h3))
            clear ha hj0
            go_wp2_with fail
            refine region_below (by kernel_rfl) (by kernel_rfl) ?_
            repeat (first | go_big_quiet_step (fail) | quiet_step (fail))
            refine wpQuiet_nil ?_
            rintro w7 ⟨⟨X3, hb⟩, e2⟩
            have e3 : w7 = X3 := e2
            subst e3
            clear e2
            have HB7w := Lib.hid (HB6w.out.tr hb)
            clear hb f0 f2 f3 i2 i3 i6
            go_wp2_with fail
            go_ret
            exact ⟨by rw [HF.out]; rfl, HB7w.out⟩
          have hhba : (o.wth != r.id) = false := by simpa using ha
          by_cases hb : o.fr = r.fr
          rotate_left
          · have hhbb : (o.fr != r.fr) = true := by simpa using hb
            have HF := Lib.hid (HNo.out fun h => by
              rcases HRA.out.1 h with h1 | ⟨k', o', h1, h2, _, h3, _⟩
              · exact hj0 h1
              · exact hb (HAtq.out k' o' h1 h2 ▸ h3))
            clear ha hb hj0
            go_wp2_with fail
            refine region_below (by kernel_rfl) (by kernel_rfl) ?_
            repeat (first | go_big_quiet_step (fail) | quiet_step (fail))
            refine wpQuiet_nil ?_
            rintro w7 ⟨⟨X3, hb⟩, e2⟩
            have e3 : w7 = X3 := e2
            subst e3
            clear e2
            have HB7w := Lib.hid (HB6w.out.tr hb)
            clear hb f0 f2 f3 i2 i3 i6
            go_wp2_with fail
            go_ret
            exact ⟨by rw [HF.out]; rfl, HB7w.out⟩
          have hhbb : (o.fr != r.fr) = false := by simpa using hb
          by_cases hd : o.un = r.un
          rotate_left
          · have hhbd : (o.un != r.un) = true := by simpa using hd
            have HF := Lib.hid (HNo.out fun h => by
              rcases HRA.out.1 h with h1 | ⟨k', o', h1, h2, _, _, h3⟩
              · exact hj0 h1
              · exact hd (HAtq.out k' o' h1 h2 ▸ h3))
            clear ha hb hd hj0
            go_wp2_with fail
            refine region_below (by kernel_rfl) (by kernel_rfl) ?_
            repeat (first | go_big_quiet_step (fail) | quiet_step (fail))
            refine wpQuiet_nil ?_
            rintro w7 ⟨⟨X3, hb⟩, e2⟩
            have e3 : w7 = X3 := e2
            subst e3
            clear e2
            have HB7w := Lib.hid (HB6w.out.tr hb)
            clear hb f0 f2 f3 i2 i3 i6
            go_wp2_with fail
            go_ret
            exact ⟨by rw [HF.out]; rfl, HB7w.out⟩
          have hhbd : (o.un != r.un) = false := by simpa using hd
          have HX := Lib.hid (HGo.out (HRA.out.2 (.inr ⟨q, o, HGq.out, HQ.out, ha, hb, hd⟩)))
          clear ha hb hd hj0
          go_wp2_with fail
          refine region_below (by kernel_rfl) (by kernel_rfl) ?_
          repeat (first | go_big_quiet_step (fail) | quiet_step (fail))
          refine wpQuiet_nil ?_
          rintro w7 ⟨⟨X3, hb⟩, e2⟩
          have e3 : w7 = X3 := e2
          subst e3
          clear e2
          have HB7w := Lib.hid (HB6w.out.tr hb)
          clear hb f0 f2 f3 i2 i3 i6
          go_wp2_with fail
          go_roundw
          case rel => exact ⟨k + 1, by omega, by go_num, HX.out, HB7w.out⟩
          case measure => simp [intOf]; omega
        · have HX := Lib.hid (show staysB l = true from HAll.out.2 ⟨by rw [HL.out]; omega, HA1.out, fun i hi => HA.out i hi (by rw [HL.out] at hi; omega)⟩)
          go_wp2_with fail
          go_ret
          exact ⟨by rw [HX.out]; rfl, HB.out⟩

end Go.Proofs.YtdhhcbkldfdbbaaGreat

/-
  The reference of layer 17: whether a stay fits a room, the first stays that clash. Printed by gen_refd.py.
-/
namespace Go.Proofs.YtdhhcbkldfdbbaaGreat
open Go.RowKit Go.Shelf Go.Sort

theorem nights17_any (s : St) (w : World) :
    Calls Tryz.prog 64 #[.agg #[.int .i64 s.id, .int .i64 s.kind, .int .i64 s.fr, .int .i64 s.un, .int .i64 s.persons, .int .i64 s.room, .int .i64 s.wth, .bool s.access, .bool s.inn]] w fun e w' => e = .returned (.agg #[.int .i64 s.fr, .int .i64 s.un]) ∧ Below w.heap.size w w' := by
  go_enter Tryz.func64, Tryz.ntmps64
  go_wp2
  exact bodyPost_ret (v := .agg #[.int .i64 s.fr, .int .i64 s.un]) (by simp [results, Tryz.results64, go_sem]) rfl ⟨rfl, (alloc_b _ _).al _⟩

theorem suits_ref (s : St) (r : Rm) : suitsB s r = ((s.kind == r.kind) && (freeB r ⟨s.fr, s.un⟩ && ((r.access || !s.access) && (((r.joins != 0) || (s.wth == 0)) && (!s.inn || (s.room == r.id)))))) := by
  rw [suitsC_eq]
  unfold suitsC
  have h : (!(s.kind != r.kind)) = (s.kind == r.kind) := by simp [bne]
  rw [h]
  generalize (s.kind == r.kind) = b1
  generalize freeB r ⟨s.fr, s.un⟩ = b2
  generalize (r.access || !s.access) = b3
  generalize ((r.joins != 0) || (s.wth == 0)) = b4
  generalize (!s.inn || (s.room == r.id)) = b5
  revert b1 b2 b3 b4 b5
  decide

set_option maxRecDepth 100000 in
set_option maxHeartbeats 4000000 in
theorem suits17_any (s : St) (r : RG) (w : World) (hr : r.ok w w.heap.size) (hf : formedB r.rm = true) (hp : periodB ⟨s.fr, s.un⟩ = true) :
    Calls Tryz.prog 23 #[.agg #[.int .i64 s.id, .int .i64 s.kind, .int .i64 s.fr, .int .i64 s.un, .int .i64 s.persons, .int .i64 s.room, .int .i64 s.wth, .bool s.access, .bool s.inn], .agg #[.int .i64 r.id, .int .i64 r.house, .int .i64 r.kind, .int .i64 r.joins, .bool r.access, .slice r.A r.n r.c]] w fun e w' => e = .returned (.bool (suitsB s r.rm)) ∧ Below w.heap.size w w' := by
  have HW := Lib.hid ((alloc_b w (.cells #[.int .i64 s.id, .int .i64 s.kind, .int .i64 s.fr, .int .i64 s.un, .int .i64 s.persons, .int .i64 s.room, .int .i64 s.wth, .bool s.access, .bool s.inn] 36)).al (.cells #[.int .i64 r.id, .int .i64 r.house, .int .i64 r.kind, .int .i64 r.joins, .bool r.access, .slice r.A r.n r.c] 45))
  have hS0 := (Below.heap_alloc (w.alloc (.cells #[.int .i64 s.id, .int .i64 s.kind, .int .i64 s.fr, .int .i64 s.un, .int .i64 s.persons, .int .i64 s.room, .int .i64 s.wth, .bool s.access, .bool s.inn] 36)) (.cells #[.int .i64 r.id, .int .i64 r.house, .int .i64 r.kind, .int .i64 r.joins, .bool r.access, .slice r.A r.n r.c] 45) w.heap.size (by simp)).trans (World.alloc_heap_new w (.cells #[.int .i64 s.id, .int .i64 s.kind, .int .i64 s.fr, .int .i64 s.un, .int .i64 s.persons, .int .i64 s.room, .int .i64 s.wth, .bool s.access, .bool s.inn] 36))
  have hR0 := World.alloc_heap_new (w.alloc (.cells #[.int .i64 s.id, .int .i64 s.kind, .int .i64 s.fr, .int .i64 s.un, .int .i64 s.persons, .int .i64 s.room, .int .i64 s.wth, .bool s.access, .bool s.inn] 36)) (.cells #[.int .i64 r.id, .int .i64 r.house, .int .i64 r.kind, .int .i64 r.joins, .bool r.access, .slice r.A r.n r.c] 45)
  rw [World.size_alloc] at hR0
  have hzX : w.heap.size + 2 ≤ ((w.alloc (.cells #[.int .i64 s.id, .int .i64 s.kind, .int .i64 s.fr, .int .i64 s.un, .int .i64 s.persons, .int .i64 s.room, .int .i64 s.wth, .bool s.access, .bool s.inn] 36)).alloc (.cells #[.int .i64 r.id, .int .i64 r.house, .int .i64 r.kind, .int .i64 r.joins, .bool r.access, .slice r.A r.n r.c] 45)).heap.size := by simp
  have HRk := Lib.hid (hr.below HW.out)
  have HQ := Lib.hid (show suitsB s r.rm = ((s.kind == r.kind) && (freeB r.rm ⟨s.fr, s.un⟩ && ((r.access || !s.access) && (((r.joins != 0) || (s.wth == 0)) && (!s.inn || (s.room == r.id)))))) from suits_ref s r.rm)
  have HNi := Lib.hid (fun W => nights17_any s W)
  have HFr := Lib.hid (fun (W : World) (h : Below ((w.alloc (.cells #[.int .i64 s.id, .int .i64 s.kind, .int .i64 s.fr, .int .i64 s.un, .int .i64 s.persons, .int .i64 s.room, .int .i64 s.wth, .bool s.access, .bool s.inn] 36)).alloc (.cells #[.int .i64 r.id, .int .i64 r.house, .int .i64 r.kind, .int .i64 r.joins, .bool r.access, .slice r.A r.n r.c] 45)).heap.size ((w.alloc (.cells #[.int .i64 s.id, .int .i64 s.kind, .int .i64 s.fr, .int .i64 s.un, .int .i64 s.persons, .int .i64 s.room, .int .i64 s.wth, .bool s.access, .bool s.inn] 36)).alloc (.cells #[.int .i64 r.id, .int .i64 r.house, .int .i64 r.kind, .int .i64 r.joins, .bool r.access, .slice r.A r.n r.c] 45)) W) => by have := freeC16_any r s.fr s.un W (HRk.out.below h); rewrite [hf, hp] at this; exact this)
  clear hr hf hp
  generalize r.access = ra at *
  go_enter Tryz.func23, Tryz.ntmps23
  go_upto_region 1 with fail
  generalize hX : (w.alloc (.cells #[.int .i64 s.id, .int .i64 s.kind, .int .i64 s.fr, .int .i64 s.un, .int .i64 s.persons, .int .i64 s.room, .int .i64 s.wth, .bool s.access, .bool s.inn] 36)).alloc (.cells #[.int .i64 r.id, .int .i64 r.house, .int .i64 r.kind, .int .i64 r.joins, .bool ra, .slice r.A r.n r.c] 45) = X at *
  have HS0 := Lib.hid (fun (W : World) (h : Below X.heap.size X W) => (h.block w.heap.size (by omega)).trans hS0)
  have HR0 := Lib.hid (fun (W : World) (h : Below X.heap.size X W) => (h.block (w.heap.size + 1) (by omega)).trans hR0)
  have x0 := cell_of hS0 0
  have x1 := cell_of hS0 1
  have x2 := cell_of hS0 2
  have x3 := cell_of hS0 3
  have x4 := cell_of hS0 4
  have x5 := cell_of hS0 5
  have x6 := cell_of hS0 6
  have x7 := cell_of hS0 7
  have x8 := cell_of hS0 8
  have y0 := cell_of hR0 0
  have y1 := cell_of hR0 1
  have y2 := cell_of hR0 2
  have y3 := cell_of hR0 3
  have y4 := cell_of hR0 4
  have y5 := cell_of hR0 5
  simp only [List.getElem?_toArray, List.getElem?_cons_zero, List.getElem?_cons_succ] at x0 x1 x2 x3 x4 x5 x6 x7 x8 y0 y1 y2 y3 y4 y5
  have f0 : ∀ p : Kp X, p.x.cell? ⟨w.heap.size, 0, none⟩ = some (.int .i64 s.id) := kp_cell (show w.heap.size < X.heap.size by omega) x0
  have f1 : ∀ p : Kp X, p.x.cell? ⟨w.heap.size, 1, none⟩ = some (.int .i64 s.kind) := kp_cell (show w.heap.size < X.heap.size by omega) x1
  have f2 : ∀ p : Kp X, p.x.cell? ⟨w.heap.size, 2, none⟩ = some (.int .i64 s.fr) := kp_cell (show w.heap.size < X.heap.size by omega) x2
  have f3 : ∀ p : Kp X, p.x.cell? ⟨w.heap.size, 3, none⟩ = some (.int .i64 s.un) := kp_cell (show w.heap.size < X.heap.size by omega) x3
  have f4 : ∀ p : Kp X, p.x.cell? ⟨w.heap.size, 4, none⟩ = some (.int .i64 s.persons) := kp_cell (show w.heap.size < X.heap.size by omega) x4
  have f5 : ∀ p : Kp X, p.x.cell? ⟨w.heap.size, 5, none⟩ = some (.int .i64 s.room) := kp_cell (show w.heap.size < X.heap.size by omega) x5
  have f6 : ∀ p : Kp X, p.x.cell? ⟨w.heap.size, 6, none⟩ = some (.int .i64 s.wth) := kp_cell (show w.heap.size < X.heap.size by omega) x6
  have f7 : ∀ p : Kp X, p.x.cell? ⟨w.heap.size, 7, none⟩ = some (.bool s.access) := kp_cell (show w.heap.size < X.heap.size by omega) x7
  have f8 : ∀ p : Kp X, p.x.cell? ⟨w.heap.size, 8, none⟩ = some (.bool s.inn) := kp_cell (show w.heap.size < X.heap.size by omega) x8
  have g0 : ∀ p : Kp X, p.x.cell? ⟨w.heap.size + 1, 0, none⟩ = some (.int .i64 r.id) := kp_cell (show w.heap.size + 1 < X.heap.size by omega) y0
  have g1 : ∀ p : Kp X, p.x.cell? ⟨w.heap.size + 1, 1, none⟩ = some (.int .i64 r.house) := kp_cell (show w.heap.size + 1 < X.heap.size by omega) y1
  have g2 : ∀ p : Kp X, p.x.cell? ⟨w.heap.size + 1, 2, none⟩ = some (.int .i64 r.kind) := kp_cell (show w.heap.size + 1 < X.heap.size by omega) y2
  have g3 : ∀ p : Kp X, p.x.cell? ⟨w.heap.size + 1, 3, none⟩ = some (.int .i64 r.joins) := kp_cell (show w.heap.size + 1 < X.heap.size by omega) y3
  have g4 : ∀ p : Kp X, p.x.cell? ⟨w.heap.size + 1, 4, none⟩ = some (.bool ra) := kp_cell (show w.heap.size + 1 < X.heap.size by omega) y4
  have g5 : ∀ p : Kp X, p.x.cell? ⟨w.heap.size + 1, 5, none⟩ = some (.slice r.A r.n r.c) := kp_cell (show w.heap.size + 1 < X.heap.size by omega) y5
  clear hX hS0 hR0 x0 x1 x2 x3 x4 x5 x6 x7 x8 y0 y1 y2 y3 y4 y5
  generalize freeB r.rm ⟨s.fr, s.un⟩ = fb at *
  go_wp2_with fail
  refine region_below (by kernel_rfl) (by kernel_rfl) ?_
  repeat (first | go_big_quiet_step ((first | (go_at_call 64; exact kp_call _ (HNi.out _)) | (go_at_call 63; exact kp_call _ (HFr.out _ (Kp.h _))))) | quiet_step ((first | (go_at_call 64; exact kp_call _ (HNi.out _)) | (go_at_call 63; exact kp_call _ (HFr.out _ (Kp.h _))))))
  refine wpQuiet_nil ?_
  rintro w1 ⟨⟨X3, hb⟩, e2⟩
  have e3 : w1 = X3 := e2
  subst e3
  clear e2
  have HB1 := Lib.hid hb
  have hs1 := HS0.out _ hb
  have hr1 := HR0.out _ hb
  have x0 := cell_of hs1 0
  have x1 := cell_of hs1 1
  have x2 := cell_of hs1 2
  have x3 := cell_of hs1 3
  have x4 := cell_of hs1 4
  have x5 := cell_of hs1 5
  have x6 := cell_of hs1 6
  have x7 := cell_of hs1 7
  have x8 := cell_of hs1 8
  have y0 := cell_of hr1 0
  have y1 := cell_of hr1 1
  have y2 := cell_of hr1 2
  have y3 := cell_of hr1 3
  have y4 := cell_of hr1 4
  have y5 := cell_of hr1 5
  simp only [List.getElem?_toArray, List.getElem?_cons_zero, List.getElem?_cons_succ] at x0 x1 x2 x3 x4 x5 x6 x7 x8 y0 y1 y2 y3 y4 y5
  clear hb hs1 hr1 f0 f1 f2 f3 f4 f5 f6 f7 f8 g0 g1 g2 g3 g4 g5
  have HQ2 := Lib.hid (show suitsB s r.rm = ((s.kind == r.kind) && (fb && ((ra || !s.access) && (((r.joins != 0) || (s.wth == 0)) && (!s.inn || (s.room == r.id)))))) from HQ.out)
  clear HQ
  go_upto_region 2 with fail
  go_cut [7] from 16 (fun u wx => u = .bool (ra || !s.access) ∧ wx = w1)
  case first =>
    cases ra
    · go_wp2_with fail
      go_meet
      exact ⟨by simp, rfl⟩
    · go_wp2_with fail
      go_meet
      exact ⟨by simp, rfl⟩
  obtain ⟨rfl, rfl⟩ := hcut
  generalize (ra || !s.access) = ac at *
  go_upto_region 3 with fail
  go_cut [8] from 16 (fun u wx => u = .bool ((r.joins != 0) || (s.wth == 0)) ∧ wx = wc)
  case first =>
    cases hj : (r.joins != 0)
    · go_wp2_with fail
      go_meet
      exact ⟨by rw [hj]; rfl, rfl⟩
    · go_wp2_with fail
      go_meet
      exact ⟨by rw [hj]; rfl, rfl⟩
  obtain ⟨rfl, rfl⟩ := hcut
  generalize ((r.joins != 0) || (s.wth == 0)) = jn at *
  cases hk : (s.kind == r.kind)
  · have HQ3 := Lib.hid (show suitsB s r.rm = false from by rw [HQ2.out, hk]; rfl)
    go_wp2_with fail
    go_ret
    exact ⟨by rw [HQ3.out]; rfl, HW.out.tr HB1.out⟩
  cases fb
  · have HQ3 := Lib.hid (show suitsB s r.rm = false from by rw [HQ2.out, hk]; simp)
    go_wp2_with fail
    go_ret
    exact ⟨by rw [HQ3.out]; rfl, HW.out.tr HB1.out⟩
  cases ac
  · have HQ3 := Lib.hid (show suitsB s r.rm = false from by rw [HQ2.out, hk]; simp)
    go_wp2_with fail
    go_ret
    exact ⟨by rw [HQ3.out]; rfl, HW.out.tr HB1.out⟩
  cases jn
  · have HQ3 := Lib.hid (show suitsB s r.rm = false from by rw [HQ2.out, hk]; simp)
    go_wp2_with fail
    go_ret
    exact ⟨by rw [HQ3.out]; rfl, HW.out.tr HB1.out⟩
  cases hi : s.inn <;> rw [hi] at HQ2 x8
  · have HQ3 := Lib.hid (show suitsB s r.rm = true from by rw [HQ2.out, hk]; rfl)
    go_wp2_with fail
    go_ret
    exact ⟨by rw [HQ3.out]; rfl, HW.out.tr HB1.out⟩
  · have HQ3 := Lib.hid (show suitsB s r.rm = (s.room == r.id) from by rw [HQ2.out, hk]; simp)
    go_wp2_with fail
    go_ret
    exact ⟨by rw [HQ3.out]; rfl, HW.out.tr HB1.out⟩

end Go.Proofs.YtdhhcbkldfdbbaaGreat

/-
  The reference of layer 19: table, Matched, only. Printed by gen_hallreff.py.
-/
namespace Go.Proofs.YtdhhcbkldfdbbaaGreat
open Go.RowKit Go.Shelf Go.Sort
open Hall

attribute [local go_sem] Oper.semAt_some

theorem info_rowsE : (Tryz.prog.info? 182).map (fun i => (i.zero, i.size, i.bytes)) = some (some (.slice none 0 0), 1, 24) := by kernel_rfl
/-- Rows of elements of different types do not share a block. -/
theorem own_apart {w : World} {b b' s s' n n' : Nat} {e e' : TypeId} {v v' : Value} {xs xs' : List Value} (h : w.ownsRow b e s v n xs) (h' : w.ownsRow b' e' s' v' n' xs') (hne : e ≠ e') : v.ownBlock = none ∨ v.ownBlock ≠ v'.ownBlock := by
  rcases h.2 with ⟨rfl, _⟩ | ⟨g, cap, cur, rfl, _, hg, _⟩
  · exact .inl rfl
  · rcases h'.2 with ⟨rfl, _⟩ | ⟨g', cap', cur', rfl, _, hg', _⟩
    · exact .inr (by simp [Value.ownBlock])
    · refine .inr fun he => ?_
      have e1 : g = g' := Option.some.inj he
      subst e1
      rw [hg] at hg'
      injection hg' with h1
      injection h1 with _ h2
      exact hne h2
/-- A row of truth values of the call's own. -/
def TOwn (w : World) (B : Nat) (t : TG) : Prop := w.ownsRow B 4 1 (.slice t.A t.n t.c) t.n (t.bs.map Value.bool)
theorem TOwn.ok {w : World} {B : Nat} {t : TG} (h : TOwn w B t) : t.ok w w.heap.size := by
  obtain ⟨A, c, e, _, _, hr⟩ := rd_of_own h (by decide)
  have hl := h.1
  rw [List.length_map, Nat.mul_one] at hl
  injection e with e1 e2 e3
  subst e1
  exact ⟨hl, hr⟩
/-- Where A points there is a block of elements of type t. -/
def Typd (w : World) (B : Nat) (t : TypeId) (A : Option Addr) : Prop := ∀ ad, A = some ad → ad.block < B ∧ ∃ cur fr, w.heap[ad.block]? = some (.cells cur t fr)
theorem Typd.to {w w' : World} {B B' : Nat} {t : TypeId} {A : Option Addr} (h : Typd w B t A) (hb : Below B w w') (hB : B ≤ B') : Typd w' B' t A := fun ad e => by
  obtain ⟨h1, cur, fr, h2⟩ := h ad e
  exact ⟨by omega, cur, fr, (hb.block _ h1).trans h2⟩
theorem Typd.of_own {w : World} {b s n c : Nat} {e : TypeId} {A : Option Addr} {m : Nat} {xs : List Value} (h : w.ownsRow b e s (.slice A n c) m xs) : Typd w w.heap.size e A := fun ad he => by
  subst he
  rcases h.2 with ⟨h1, _⟩ | ⟨g, cap, cur, h1, _, hg, _⟩
  · cases h1
  · cases h1
    exact ⟨(Array.getElem?_eq_some_iff.1 hg).1, cur, _, hg⟩
theorem Typd.ne {w : World} {B b s n : Nat} {e t : TypeId} {v : Value} {A : Option Addr} {xs : List Value} (h : Typd w B t A) (ho : w.ownsRow b e s v n xs) (hne : e ≠ t) : ∀ ad, A = some ad → some ad.block ≠ v.ownBlock := fun ad ha he => by
  obtain ⟨_, cur, fr, h2⟩ := h ad ha
  rcases ho.2 with ⟨rfl, _⟩ | ⟨g, cap, cur', rfl, _, hg, _⟩
  · cases he
  · have e1 : ad.block = g := Option.some.inj he
    subst e1
    rw [hg] at h2
    injection h2 with h3
    injection h3 with _ h4
    exact hne h4
theorem Typd.grown {w w' : World} {B : Nat} {t : TypeId} {A : Option Addr} {row : Option Nat} (h : Typd w B t A) (hg : w.grownBy w' row) (hB : B ≤ w.heap.size) (hne : ∀ ad, A = some ad → some ad.block ≠ row) : Typd w' B t A := fun ad e => by
  obtain ⟨h1, cur, fr, h2⟩ := h ad e
  exact ⟨h1, cur, fr, (hg.block _ (by omega) (hne ad e)).trans h2⟩
theorem Rd.grownB {w w' : World} {B : Nat} {A : Option Addr} {xs : List Value} {row : Option Nat} (h : Rd w B A xs) (hg : w.grownBy w' row) (hB : B ≤ w.heap.size) (hne : ∀ ad, A = some ad → some ad.block ≠ row) : Rd w' B A xs := fun hp => by
  obtain ⟨b, off, e, hb, hc⟩ := h hp
  have h1 := hne _ e
  exact ⟨b, off, e, hb, fun j v hv => (World.cell?_of_block (hg.block b (by omega) h1)).trans (hc j v hv)⟩
/-- A table whose blocks are of their types. -/
structure TyTab (w : World) (B : Nat) (A : Option Addr) (l : List TG) : Prop where
  top : Typd w B 182 A
  row : ∀ t ∈ l, Typd w B 4 t.A
theorem TyTab.to {w w' : World} {B B' : Nat} {A : Option Addr} {l : List TG} (h : TyTab w B A l) (hb : Below B w w') (hB : B ≤ B') : TyTab w' B' A l := ⟨h.top.to hb hB, fun t ht => (h.row t ht).to hb hB⟩
/-- A table that a call returns. -/
def TabRes (rows : List (List Bool)) (w : World) (e : Ending) (w' : World) : Prop := ∃ A c gs, gs.map TG.bs = rows ∧ e = .returned (.slice A gs.length c) ∧ gs.length ≤ c ∧ c ≤ 9223372036854775807 ∧ Tbs w' w'.heap.size A gs.length gs ∧ Below w.heap.size w w' ∧ TyTab w' w'.heap.size A gs
/-- .. whose memory is new. -/
def TabNew (rows : List (List Bool)) (w : World) (e : Ending) (w' : World) : Prop := ∃ A c gs, gs.map TG.bs = rows ∧ e = .returned (.slice A gs.length c) ∧ gs.length ≤ c ∧ c ≤ 9223372036854775807 ∧ Tbs w' w'.heap.size A gs.length gs ∧ Below w.heap.size w w' ∧ (∀ ad, A = some ad → w.heap.size ≤ ad.block) ∧ (∀ t ∈ gs, ∀ ad, t.A = some ad → w.heap.size ≤ ad.block) ∧ TyTab w' w'.heap.size A gs
theorem TOwn.new {w : World} {B : Nat} {t : TG} (h : TOwn w B t) : ∀ ad, t.A = some ad → B ≤ ad.block := fun ad e => (World.ownsRow.lt h ad.block (by rw [e]; rfl)).1
theorem tabOf_snoc {R : List Rm} {S : List St} {k : Nat} (h : k < S.length) : tabOf R (S.take (k + 1)) = tabOf R (S.take k) ++ [R.map fun r => suitsB S[k] r] := by
  unfold tabOf
  rw [List.take_succ_eq_append_getElem h, List.map_append]
  rfl
def sRow (s : St) (house : List RG) (q : Nat) : List Value := ((house.take q).map fun r => suitsB s r.rm).map Value.bool
theorem sRow_snoc {s : St} {house : List RG} {q : Nat} (h : q < house.length) : sRow s house (q + 1) = sRow s house q ++ [.bool (suitsB s house[q].rm)] := by
  unfold sRow
  rw [List.take_succ_eq_append_getElem h, List.map_append, List.map_append]
  rfl

set_option maxRecDepth 100000 in
set_option maxHeartbeats 8000000 in
theorem table19_any (A1 A2 : Option Addr) (n1 n2 k1 k2 : Nat) (house : List RG) (S : List St) (w : World) (hn1 : n1 ≤ 400) (hn2 : n2 ≤ 3000) (hM1 : Rms w w.heap.size A1 n1 house) (hM2 : Sts w w.heap.size A2 n2 S) (hF : ∀ r ∈ house, formedB r.rm = true) (hP : ∀ s ∈ S, periodB ⟨s.fr, s.un⟩ = true) :
    Calls Tryz.prog 174 #[.slice A1 n1 k1, .slice A2 n2 k2] w (TabNew (tabOf (house.map RG.rm) S) w) := by
  have HM1 := Lib.hid hM1
  have HM2 := Lib.hid hM2
  have HL1 := Lib.hid hM1.len
  have HL2 := Lib.hid hM2.len
  have HF := Lib.hid hF
  have HP := Lib.hid hP
  clear hM1 hM2 hF hP
  obtain ⟨i0, hi, hz0, hz1, hz2⟩ := info_parts info_boolE
  obtain ⟨i1, hj, hy0, hy1, hy2⟩ := info_parts info_rowsE
  go_enter Tryz.func174, Tryz.ntmps174
  go_wp2_with fail
  go_loopw [5, 6] (fun out i wr => ∃ (k : Nat) (gs : List TG), k ≤ n2 ∧ gs.length = k ∧ i = .int .i64 k ∧ wr.ownsRow w.heap.size 182 1 out gs.length (gs.flatMap tgC) ∧ gs.map TG.bs = tabOf (house.map RG.rm) (S.take k) ∧ (∀ t ∈ gs, TOwn wr w.heap.size t) ∧ Below w.heap.size w wr) (fun _ i _ => n2 - (intOf i).toNat)
  case atStart => exact ⟨0, [], Nat.zero_le _, rfl, rfl, World.ownsRow_nil _ _ _ _, by simp [tabOf], (fun t ht => (by cases ht)), Below.refl _ _⟩
  case round =>
    obtain ⟨k, gs, hk, hgl, rfl, hO, hgs, hown, hB⟩ := hrel
    have HO := Lib.hid hO
    have HGs := Lib.hid hgs
    have HOw := Lib.hid hown
    have HB := Lib.hid hB
    have HGl := Lib.hid hgl
    clear hO hgs hown hB hgl
    by_cases hlt : k < n2
    rotate_left
    · obtain ⟨Ao, co, rfl, hc1, hc2, hro⟩ := rd_of_own HO.out (by decide)
      have HFin := Lib.hid (show TabNew (tabOf (house.map RG.rm) S) w (.returned (.slice Ao gs.length co)) wr from
        ⟨Ao, co, gs, by rw [HGs.out, List.take_of_length_le (by rw [HL2.out]; omega)], rfl, hc1, by unfold maxLen at hc2; omega, ⟨rfl, hro, fun t ht => (HOw.out t ht).ok⟩, HB.out, (fun ad e => (HO.out.lt ad.block (by rw [e]; rfl)).1), (fun t ht => (HOw.out t ht).new), ⟨Typd.of_own HO.out, fun t ht => Typd.of_own (HOw.out t ht)⟩⟩)
      clear hc1 hc2 hro
      go_wp2_with fail
      go_ret
      exact HFin.out
    have hkl : k < S.length := by rw [HL2.out]; exact hlt
    obtain ⟨bb, off, rfl, hb0, hc0⟩ := HM2.out.at_ (show 0 < n2 by omega)
    have HCS := Lib.hid (fun (W : World) (h : Below w.heap.size w W) => show W.cell? ⟨bb, off + k * 9, none⟩ = some (.int .i64 S[k].id) ∧ W.cell? ⟨bb, off + k * 9 + 1, none⟩ = some (.int .i64 S[k].kind) ∧ W.cell? ⟨bb, off + k * 9 + 2, none⟩ = some (.int .i64 S[k].fr) ∧ W.cell? ⟨bb, off + k * 9 + 3, none⟩ = some (.int .i64 S[k].un) ∧ W.cell? ⟨bb, off + k * 9 + 4, none⟩ = some (.int .i64 S[k].persons) ∧ W.cell? ⟨bb, off + k * 9 + 5, none⟩ = some (.int .i64 S[k].room) ∧ W.cell? ⟨bb, off + k * 9 + 6, none⟩ = some (.int .i64 S[k].wth) ∧ W.cell? ⟨bb, off + k * 9 + 7, none⟩ = some (.bool S[k].access) ∧ W.cell? ⟨bb, off + k * 9 + 8, none⟩ = some (.bool S[k].inn) from by
      obtain ⟨c0, c1, c2, c3, c4, c5, c6, c7, c8⟩ := hc0 k hkl
      exact ⟨(h.cell (p := ⟨bb, off + k * 9, none⟩) hb0).trans c0, (h.cell (p := ⟨bb, off + k * 9 + 1, none⟩) hb0).trans c1, (h.cell (p := ⟨bb, off + k * 9 + 2, none⟩) hb0).trans c2, (h.cell (p := ⟨bb, off + k * 9 + 3, none⟩) hb0).trans c3, (h.cell (p := ⟨bb, off + k * 9 + 4, none⟩) hb0).trans c4, (h.cell (p := ⟨bb, off + k * 9 + 5, none⟩) hb0).trans c5, (h.cell (p := ⟨bb, off + k * 9 + 6, none⟩) hb0).trans c6, (h.cell (p := ⟨bb, off + k * 9 + 7, none⟩) hb0).trans c7, (h.cell (p := ⟨bb, off + k * 9 + 8, none⟩) hb0).trans c8⟩)
    have HT := Lib.hid (tabOf_snoc (R := house.map RG.rm) hkl)
    have HPs := Lib.hid (HP.out _ (List.getElem_mem hkl))
    clear hc0
    generalize S[k] = s at *
    generalize wr = W4 at *
    go_wp2_with fail
    go_loopw [7, 8] (fun v q wr => ∃ m : Nat, m ≤ n1 ∧ q = .int .i64 m ∧ wr.ownsRow W4.heap.size 4 1 v m (sRow s house m) ∧ Below W4.heap.size W4 wr) (fun _ q _ => n1 - (intOf q).toNat)
    case atStart => exact ⟨0, Nat.zero_le _, rfl, World.ownsRow_nil _ _ _ _, Below.refl _ _⟩
    case round =>
      obtain ⟨m, hm, rfl, hR, hB4⟩ := hrel
      have HR := Lib.hid hR
      have HB4 := Lib.hid hB4
      have HBw := Lib.hid (HB.out.tr hB4)
      clear hR hB4
      by_cases hlm : m < n1
      rotate_left
      · have hmn : m = n1 := by omega
        subst hmn
        obtain ⟨Ar, cr, rfl, hc1, hc2, _⟩ := rd_of_own HR.out (by decide)
        have HTg := Lib.hid (show TOwn wr w.heap.size ⟨Ar, m, cr, house.map fun r => suitsB s r.rm⟩ from by
          have h := owns_mono HR.out HB.out.size
          have e : sRow s house m = (house.map fun r => suitsB s r.rm).map Value.bool := by unfold sRow; rw [List.take_of_length_le (by rw [HL1.out]; omega)]
          rw [e] at h
          exact h)
        have HO4 := Lib.hid (owns_keepH HO.out HB4.out)
        have HN := Lib.hid (cell_lit_new wr #[.slice Ar m cr] 182)
        have HX := HGl.out
        have HC1 := Lib.hid (show gs.length + 1 ≤ maxLen from by unfold maxLen; omega)
        have HC2 := Lib.hid (show (gs.length + 1) * 24 ≤ 140737488355328 from by omega)
        have HC3 := Lib.hid (show w.heap.size ≤ (wr.alloc (.cells #[.slice Ar m cr] 182)).heap.size from by have := HBw.out.size; simp; omega)
        have HGl' := Lib.hid HX
        clear HX hc1 hc2
        go_wp2_with (at_builtin; refine wpList_append_own _ rfl _ _ 178 rfl w.heap.size 182 i1 (.slice none 0 0) 1 24 Tryz.underlying178 hj hy0 hy1 hy2 rfl (by decide) _ _ _ rfl (HO4.out.alloc _) ⟨wr.heap.size, 0, none⟩ 1 1 [.slice Ar m cr] rfl rfl HN.out (by simp [Value.oneCell']) HC1.out HC2.out HC3.out ?_; intro v' w1 hown' hgrow _; have HO1 := Lib.hid hown'; have HT1 := Lib.hid (show ∀ t ∈ gs ++ [⟨Ar, m, cr, house.map fun r => suitsB s r.rm⟩], TOwn w1 w.heap.size t from fun t ht => by
          have h0 : TOwn wr w.heap.size t := by
            rcases List.mem_append.1 ht with ht | ht
            · exact owns_keepH (HOw.out t ht) HB4.out
            · rw [List.mem_singleton.1 ht]; exact HTg.out
          exact World.ownsRow.kept (World.ownsRow.alloc h0 _) hgrow (own_apart h0 HO4.out (by decide))); have HB1 := Lib.hid ((HBw.out.alloc HBw.out.size _).grown hgrow HC3.out (fun q e => (HO4.out.lt q e).1)); clear hown' hgrow)
        go_roundw
        case rel =>
          refine ⟨k + 1, gs ++ [⟨Ar, m, cr, house.map fun r => suitsB s r.rm⟩], by omega, by rw [List.length_append, HGl.out]; rfl, by go_num, ?_, ?_, HT1.out, HB1.out⟩
          · rw [List.length_append, List.flatMap_append]; exact HO1.out
          · rw [HT.out, List.map_append, HGs.out, List.map_map]; rfl
        case measure => simp [intOf]; omega
      have hml : m < house.length := by rw [HL1.out]; exact hlm
      obtain ⟨b2, of2, rfl, hb2, hc2⟩ := HM1.out.at_ (show 0 < n1 by omega)
      have HCR := Lib.hid (fun (W : World) (h : Below w.heap.size w W) => show W.cell? ⟨b2, of2 + m * 6, none⟩ = some (.int .i64 house[m].id) ∧ W.cell? ⟨b2, of2 + m * 6 + 1, none⟩ = some (.int .i64 house[m].house) ∧ W.cell? ⟨b2, of2 + m * 6 + 2, none⟩ = some (.int .i64 house[m].kind) ∧ W.cell? ⟨b2, of2 + m * 6 + 3, none⟩ = some (.int .i64 house[m].joins) ∧ W.cell? ⟨b2, of2 + m * 6 + 4, none⟩ = some (.bool house[m].access) ∧ W.cell? ⟨b2, of2 + m * 6 + 5, none⟩ = some (.slice house[m].A house[m].n house[m].c) from by
        obtain ⟨c0, c1, c2, c3, c4, c5⟩ := hc2 m hml
        exact ⟨(h.cell (p := ⟨b2, of2 + m * 6, none⟩) hb2).trans c0, (h.cell (p := ⟨b2, of2 + m * 6 + 1, none⟩) hb2).trans c1, (h.cell (p := ⟨b2, of2 + m * 6 + 2, none⟩) hb2).trans c2, (h.cell (p := ⟨b2, of2 + m * 6 + 3, none⟩) hb2).trans c3, (h.cell (p := ⟨b2, of2 + m * 6 + 4, none⟩) hb2).trans c4, (h.cell (p := ⟨b2, of2 + m * 6 + 5, none⟩) hb2).trans c5⟩)
      have HSu := Lib.hid (fun (W : World) (h : Below w.heap.size w W) => suits17_any s house[m] W ((HM1.out.ok _ (List.getElem_mem hml)).to h h.size) (HF.out _ (List.getElem_mem hml)) HPs.out)
      have HSn := Lib.hid (sRow_snoc (s := s) hml)
      clear hc2
      generalize house[m] = r at *
      generalize suitsB s r.rm = bv at *
      obtain ⟨c0, c1, c2, c3, c4, c5, c6, c7, c8⟩ := HCS.out _ HBw.out
      obtain ⟨d0, d1, d2, d3, d4, d5⟩ := HCR.out _ HBw.out
      have hbb : bb < wr.heap.size := Nat.lt_of_lt_of_le hb0 HBw.out.size
      have hbr : b2 < wr.heap.size := Nat.lt_of_lt_of_le hb2 HBw.out.size
      have f0 : ∀ p' : Kp wr, p'.x.cell? ⟨bb, off + k * 9, none⟩ = some (.int .i64 s.id) := kp_cell hbb c0
      have f1 : ∀ p' : Kp wr, p'.x.cell? ⟨bb, off + k * 9 + 1, none⟩ = some (.int .i64 s.kind) := kp_cell hbb c1
      have f2 : ∀ p' : Kp wr, p'.x.cell? ⟨bb, off + k * 9 + 2, none⟩ = some (.int .i64 s.fr) := kp_cell hbb c2
      have f3 : ∀ p' : Kp wr, p'.x.cell? ⟨bb, off + k * 9 + 3, none⟩ = some (.int .i64 s.un) := kp_cell hbb c3
      have f4 : ∀ p' : Kp wr, p'.x.cell? ⟨bb, off + k * 9 + 4, none⟩ = some (.int .i64 s.persons) := kp_cell hbb c4
      have f5 : ∀ p' : Kp wr, p'.x.cell? ⟨bb, off + k * 9 + 5, none⟩ = some (.int .i64 s.room) := kp_cell hbb c5
      have f6 : ∀ p' : Kp wr, p'.x.cell? ⟨bb, off + k * 9 + 6, none⟩ = some (.int .i64 s.wth) := kp_cell hbb c6
      have f7 : ∀ p' : Kp wr, p'.x.cell? ⟨bb, off + k * 9 + 7, none⟩ = some (.bool s.access) := kp_cell hbb c7
      have f8 : ∀ p' : Kp wr, p'.x.cell? ⟨bb, off + k * 9 + 8, none⟩ = some (.bool s.inn) := kp_cell hbb c8
      have g0 : ∀ p' : Kp wr, p'.x.cell? ⟨b2, of2 + m * 6, none⟩ = some (.int .i64 r.id) := kp_cell hbr d0
      have g1 : ∀ p' : Kp wr, p'.x.cell? ⟨b2, of2 + m * 6 + 1, none⟩ = some (.int .i64 r.house) := kp_cell hbr d1
      have g2 : ∀ p' : Kp wr, p'.x.cell? ⟨b2, of2 + m * 6 + 2, none⟩ = some (.int .i64 r.kind) := kp_cell hbr d2
      have g3 : ∀ p' : Kp wr, p'.x.cell? ⟨b2, of2 + m * 6 + 3, none⟩ = some (.int .i64 r.joins) := kp_cell hbr d3
      have g4 : ∀ p' : Kp wr, p'.x.cell? ⟨b2, of2 + m * 6 + 4, none⟩ = some (.bool r.access) := kp_cell hbr d4
      have g5 : ∀ p' : Kp wr, p'.x.cell? ⟨b2, of2 + m * 6 + 5, none⟩ = some (.slice r.A r.n r.c) := kp_cell hbr d5
      clear c0 c1 c2 c3 c4 c5 c6 c7 c8 d0 d1 d2 d3 d4 d5
      go_wp2_with fail
      refine region_below (by kernel_rfl) (by kernel_rfl) ?_
      repeat (first | go_big_quiet_step ((go_at_call 23; exact kp_call _ (HSu.out _ (HBw.out.tr (Kp.h _))))) | quiet_step ((go_at_call 23; exact kp_call _ (HSu.out _ (HBw.out.tr (Kp.h _))))))
      refine wpQuiet_nil ?_
      rintro w6 ⟨⟨X3, hb⟩, e2⟩
      have e3 : w6 = X3 := e2
      subst e3
      clear e2
      have HR6 := Lib.hid (owns_keepH HR.out hb)
      have HB6 := Lib.hid (HB4.out.tr hb)
      clear hb f0 f1 f2 f3 f4 f5 f6 f7 f8 g0 g1 g2 g3 g4 g5 HSu
      have HN := Lib.hid (cell_lit_new w6 #[.bool bv] 4)
      have HC1 := Lib.hid (show m + 1 ≤ maxLen from by unfold maxLen; omega)
      have HC2 := Lib.hid (show (m + 1) * 1 ≤ 140737488355328 from by omega)
      have HC3 := Lib.hid (show W4.heap.size ≤ (w6.alloc (.cells #[.bool bv] 4)).heap.size from by have := HB6.out.size; simp; omega)
      go_wp2_with (at_builtin; refine wpList_append_own _ rfl _ _ 182 rfl W4.heap.size 4 i0 (.bool false) 1 1 Tryz.underlying182 hi hz0 hz1 hz2 rfl (by decide) _ _ _ rfl (HR6.out.alloc _) ⟨w6.heap.size, 0, none⟩ 1 1 [.bool bv] rfl rfl HN.out (by simp [Value.oneCell']) HC1.out HC2.out HC3.out ?_; intro v' w1 hown' hgrow _; have HR1 := Lib.hid (show w1.ownsRow W4.heap.size 4 1 v' (m + 1) (sRow s house (m + 1)) from by rw [HSn.out]; exact hown'); have HB1 := Lib.hid ((HB6.out.alloc HB6.out.size _).grown hgrow HC3.out (fun q e => (HR6.out.lt q e).1)); clear hown' hgrow)
      go_roundw
      case rel => exact ⟨m + 1, by omega, by go_num, HR1.out, HB1.out⟩
      case measure => simp [intOf]; omega

set_option maxHeartbeats 4000000 in
theorem matchedC19_any (A1 A2 : Option Addr) (n1 n2 k1 k2 : Nat) (house : List RG) (S : List St) (w : World) (hn1 : n1 ≤ 400) (hn2 : n2 ≤ 3000) (hM1 : Rms w w.heap.size A1 n1 house) (hM2 : Sts w w.heap.size A2 n2 S) (hF : ∀ r ∈ house, formedB r.rm = true) (hP : ∀ s ∈ S, periodB ⟨s.fr, s.un⟩ = true) :
    Calls Tryz.prog 171 #[.slice A1 n1 k1, .slice A2 n2 k2] w fun e w' => e = .returned (.bool (matchedB (fitOf (house.map RG.rm) S) (house.map RG.rm).length S.length)) ∧ Below w.heap.size w w' := by
  have HT := Lib.hid (table19_any A1 A2 n1 n2 k1 k2 house S w hn1 hn2 hM1 hM2 hF hP)
  have HL1 := Lib.hid hM1.len
  have HL2 := Lib.hid hM2.len
  clear hM1 hM2 hF hP
  go_enter Tryz.func171, Tryz.ntmps171
  go_wp2_with fail
  refine HT.out.mono ?_
  rintro e w1 ⟨A, c, gs, hgs, rfl, _, _, hT, hb, _, _, _⟩
  have hgl : gs.length = S.length := by
    have := congrArg List.length hgs
    rwa [List.length_map, tabOf, List.length_map] at this
  have HB := Lib.hid hb
  have HMa := Lib.hid (matched19_any (nr := n1) (l := gs) A gs.length c w1 (by omega) (by rw [hgl, HL2.out]; omega) (fun t ht => by
    have h1 : t.bs ∈ tabOf (house.map RG.rm) S := by rw [← hgs]; exact List.mem_map.2 ⟨t, ht, rfl⟩
    obtain ⟨s, _, e⟩ := List.mem_map.1 h1
    rw [← e, List.length_map, List.length_map, HL1.out]) hT)
  have HE := Lib.hid (show matchedB (tfit gs) n1 gs.length = matchedB (fitOf (house.map RG.rm) S) (house.map RG.rm).length S.length from by
    rw [hgl, List.length_map, HL1.out]
    exact matchedB_congr fun i k a b => tfit_tab hgs a (by rw [List.length_map, HL1.out]; exact b))
  clear hT hb hgs hgl
  go_wp2_with fail
  refine HMa.out.mono ?_
  rintro e w2 ⟨rfl, hb2⟩
  go_wp2_with fail
  go_ret
  exact ⟨by rw [HE.out]; rfl, HB.out.tr hb2⟩

/-- A table in which a row fits one room alone. -/
def onlyT (rows : List (List Bool)) (i k : Nat) : List (List Bool) := rows.take i ++ ((List.range (rows.getD i []).length).map fun x => decide (x = k)) :: rows.drop (i + 1)
def oRow (k q : Nat) : List Value := ((List.range q).map fun x => decide (x = k)).map Value.bool
theorem oRow_snoc (k q : Nat) : oRow k (q + 1) = oRow k q ++ [.bool (decide (q = k))] := by
  unfold oRow
  rw [List.range_succ]
  simp

set_option maxRecDepth 100000 in
set_option maxHeartbeats 8000000 in
theorem only19_any (A : Option Addr) (n c : Nat) (l : List TG) (i k : Nat) (w : World) (hn : n ≤ 1000000) (hnc : n ≤ c) (hcm : c ≤ 9223372036854775807) (hi' : i < n) (_hk : k ≤ 1000000) (hl : ∀ t ∈ l, t.bs.length ≤ 1000000) (hty : ∀ t ∈ l, Typd w w.heap.size 4 t.A) (hM : Tbs w w.heap.size A n l) :
    Calls Tryz.prog 177 #[.slice A n c, .int .i64 i, .int .i64 k] w (TabRes (onlyT (l.map TG.bs) i k) w) := by
  have HM := Lib.hid hM
  have HL := Lib.hid hM.len
  have HCm := Lib.hid hcm
  have HTy := Lib.hid hty
  have hil : i < l.length := by rw [HL.out]; exact hi'
  obtain ⟨bf, of_, rfl, hbf, hcf⟩ := hM.at_ (show 0 < n by omega)
  have hc0 := hcf i hil
  have hok := hM.ok _ (List.getElem_mem hil)
  have HBl := Lib.hid hok.len
  have hbm := hl _ (List.getElem_mem hil)
  have HOn := Lib.hid (show onlyT (l.map TG.bs) i k = (l.take i).map TG.bs ++ ((List.range l[i].bs.length).map fun x => decide (x = k)) :: (l.drop (i + 1)).map TG.bs from by
    unfold onlyT
    rw [List.map_take, List.map_drop]
    simp [hil])
  have hn9 : l[i].n ≤ 1000000 := by rw [← hok.len]; exact hbm
  have HCf := Lib.hid (fun (W : World) (h : Below w.heap.size w W) => (h.cell (p := ⟨bf, of_ + i, none⟩) hbf).trans hc0)
  have hLn := HL.out
  have HLn := Lib.hid hLn
  have HL1 := Lib.hid (show ((l.take i).flatMap tgC).length = i * 1 from by rw [flat_length tgC_len, List.length_take, Nat.min_eq_left (by omega)])
  have HL3 := Lib.hid (show ((l.drop (i + 1)).flatMap tgC).length = (n - (i + 1)) * 1 from by rw [flat_length tgC_len, List.length_drop, HL.out])
  have HMT := Lib.hid (hM.rd.takeF tgC_len i)
  have HMC := Lib.hid (hM.rd.cutF (c := c) tgC_len (i + 1) (by omega) (by omega))
  clear hM hl hty hcf hok hbm hc0 hcm hLn
  generalize hbs : l[i].bs.length = ln at *
  have hbn : ln = l[i].n := HBl.out
  clear hbs
  generalize l[i].A = Ai at *
  generalize l[i].c = ci at *
  generalize l[i].n = ni at *
  subst hbn
  clear HBl
  obtain ⟨i0, hi, hz0, hz1, hz2⟩ := info_parts info_boolE
  obtain ⟨i1, hj, hy0, hy1, hy2⟩ := info_parts info_rowsE
  go_enter Tryz.func177, Tryz.ntmps177
  go_wp2_with fail
  go_loopw [7, 8] (fun v q wr => ∃ m : Nat, m ≤ ln ∧ q = .int .i64 m ∧ wr.ownsRow w.heap.size 4 1 v m (oRow k m) ∧ Below w.heap.size w wr) (fun _ q _ => ln - (intOf q).toNat)
  case atStart => exact ⟨0, Nat.zero_le _, rfl, World.ownsRow_nil _ _ _ _, Below.refl _ _⟩
  case round =>
    obtain ⟨m, hm, rfl, hR, hB⟩ := hrel
    have HR := Lib.hid hR
    have HB := Lib.hid hB
    clear hR hB
    have q0 := HCf.out _ HB.out
    by_cases hlm : m < ln
    · have HSn := Lib.hid (oRow_snoc k m)
      have HC1 := Lib.hid (show m + 1 ≤ maxLen from by unfold maxLen; omega)
      have HC2 := Lib.hid (show (m + 1) * 1 ≤ 140737488355328 from by omega)
      have HC3 := Lib.hid (show w.heap.size ≤ wr.heap.size + 1 from by have := HB.out.size; omega)
      obtain ⟨bv, hbv⟩ : ∃ b, decide (m = k) = b := ⟨_, rfl⟩
      have hbe : ((m : Int) == (k : Int)) = bv := by rw [← hbv, Bool.eq_iff_iff]; simp; omega
      have hbd : decide ((m : Int) = (k : Int)) = bv := by rw [← hbv, Bool.eq_iff_iff]; simp; omega
      rw [hbv] at HSn
      clear hbv
      have HN := Lib.hid (cell_lit_new wr #[.bool bv] 4)
      go_wp2_with (at_builtin; refine wpList_append_own _ rfl _ _ 182 rfl w.heap.size 4 i0 (.bool false) 1 1 Tryz.underlying182 hi hz0 hz1 hz2 rfl (by decide) _ _ _ rfl (HR.out.alloc _) ⟨wr.heap.size, 0, none⟩ 1 1 [.bool bv] rfl rfl HN.out (by simp [Value.oneCell']) HC1.out HC2.out (by rw [World.size_alloc]; exact HC3.out) ?_; intro v' w1 hown' hgrow _; have HR1 := Lib.hid (show w1.ownsRow w.heap.size 4 1 v' (m + 1) (oRow k (m + 1)) from by rw [HSn.out]; exact hown'); have HB1 := Lib.hid ((HB.out.alloc HB.out.size _).grown hgrow (by rw [World.size_alloc]; exact HC3.out) (fun q e => (HR.out.lt q e).1)); clear hown' hgrow)
      clear hbe hbd
      go_roundw
      case rel => exact ⟨m + 1, by omega, by go_num, HR1.out, HB1.out⟩
      case measure => simp [intOf]; omega
    have hmn : m = ln := by omega
    subst hmn
    obtain ⟨Ar, cr, rfl, hc1, hc2, _⟩ := rd_of_own HR.out (by decide)
    have HTg := Lib.hid (show TOwn wr w.heap.size ⟨Ar, m, cr, (List.range m).map fun x => decide (x = k)⟩ from HR.out)
    have hHc := HCm.out
    have HC1 := Lib.hid (show 0 + i ≤ maxLen from by unfold maxLen; omega)
    have HC2 := Lib.hid (show (0 + i) * 24 ≤ 140737488355328 from by omega)
    have HC4 := Lib.hid (show 0 + i + 1 ≤ maxLen from by unfold maxLen; omega)
    have HC5 := Lib.hid (show (0 + i + 1) * 24 ≤ 140737488355328 from by omega)
    have HC6 := Lib.hid (show 0 + i + 1 + (n - (i + 1)) ≤ maxLen from by unfold maxLen; omega)
    have HC7 := Lib.hid (show (0 + i + 1 + (n - (i + 1))) * 24 ≤ 140737488355328 from by omega)
    have hi0 : (0 : Int) ≤ ((i : Nat) : Int) := by omega
    have hi1 : ((i : Nat) : Int) ≤ (c : Int) := by omega
    have hi2 : ((i : Nat) : Int) + 1 ≤ (c : Int) := by omega
    have hrd := run_cutAt (P := Tryz.prog) (t := 178) (s := 1) (by kernel_rfl) (fun w => by kernel_rfl) (some ⟨bf, of_, none⟩) n c (i + 1) (by omega)
    rw [show (((i + 1 : Nat)) : Int) = (i : Int) + 1 from rfl] at hrd
    generalize wr = W6 at *
    have HC3 := Lib.hid (show W6.heap.size ≤ W6.heap.size from Nat.le_refl _)
    clear hc1 hc2 hHc
    go_wp2_with (first
      | (at_builtin; refine wpList_append_rd _ rfl (.tmp 25) (.tmp 28) 178 rfl W6.heap.size 182 i1 (.slice none 0 0) 1 24 Tryz.underlying178 hj hy0 hy1 hy2 rfl (by decide) (.slice none 0 0) 0 [] rfl (World.ownsRow_nil _ _ _ _) W6.heap.size (some ⟨bf, of_, none⟩) i c ((l.take i).flatMap tgC) rfl HL1.out (HMT.out.to HB.out HB.out.size) (one_tg _) HC1.out HC2.out HC3.out ?_; intro v7 w7 hown7 hgr7 _; have HO7 := Lib.hid hown7; have hb7 : Below W6.heap.size W6 w7 := (Below.refl _ _).grown hgr7 (Nat.le_refl _) (fun q e => by cases e); have HB7 := Lib.hid hb7; have HN := Lib.hid (cell_lit_new w7 #[.slice Ar m cr] 182); have HC8 := Lib.hid (show W6.heap.size ≤ (w7.alloc (.cells #[.slice Ar m cr] 182)).heap.size from by have := hb7.size; simp; omega); clear hown7 hgr7 hb7)
      | (at_builtin; refine wpList_append_own _ rfl (.tmp 30) (.tmp 32) 178 rfl W6.heap.size 182 i1 (.slice none 0 0) 1 24 Tryz.underlying178 hj hy0 hy1 hy2 rfl (by decide) v7 _ _ rfl (HO7.out.alloc _) ⟨w7.heap.size, 0, none⟩ 1 1 [.slice Ar m cr] rfl rfl HN.out (by simp [Value.oneCell']) HC4.out HC5.out HC8.out ?_; intro v8 w8 hown8 hgr8 _; have HO8 := Lib.hid hown8; have HB8 := Lib.hid ((HB7.out.alloc HB7.out.size _).grown hgr8 HC8.out (fun q e => (HO7.out.lt q e).1)); have HMd := Lib.hid (HMC.out.to (HB.out.tr HB8.out) (HB.out.tr HB8.out).size); have HC9 := Lib.hid (show W6.heap.size ≤ w8.heap.size from HB8.out.size); clear hown8 hgr8)
      | (at_builtin; refine wpList_append_rd _ rfl (.tmp 34) (.tmp 38) 178 rfl W6.heap.size 182 i1 (.slice none 0 0) 1 24 Tryz.underlying178 hj hy0 hy1 hy2 rfl (by decide) v8 _ _ rfl HO8.out w8.heap.size (cutAd 1 (some ⟨bf, of_, none⟩) c (i + 1)) (n - (i + 1)) (c - (i + 1)) ((l.drop (i + 1)).flatMap tgC) rfl HL3.out HMd.out (one_tg _) HC6.out HC7.out HC9.out ?_; intro v9 w9 hown9 hgr9 _; have HO9 := Lib.hid hown9; have HB9 := Lib.hid (HB8.out.grown hgr9 HC9.out (fun q e => (HO8.out.lt q e).1)); clear hown9 hgr9))
    obtain ⟨A9, c9, rfl, hd1, hd2, hr9⟩ := rd_of_own HO9.out (by decide)
    go_ret
    refine ⟨A9, c9, l.take i ++ ⟨Ar, m, cr, (List.range m).map fun x => decide (x = k)⟩ :: l.drop (i + 1), ?_, ?_, ?_, by unfold maxLen at hd2; omega, ⟨rfl, ?_, fun t ht => ?_⟩, HB.out.tr HB9.out, ⟨Typd.of_own HO9.out, fun t ht => ?_⟩⟩
    · rw [HOn.out, List.map_append, List.map_cons]
    · have e : (l.take i ++ (⟨Ar, m, cr, (List.range m).map fun x => decide (x = k)⟩ : TG) :: l.drop (i + 1)).length = 0 + i + 1 + (n - (i + 1)) := by rw [List.length_append, List.length_cons, List.length_take, List.length_drop, HLn.out, Nat.min_eq_left (by omega)]; omega
      rw [e]; rfl
    · have e : (l.take i ++ (⟨Ar, m, cr, (List.range m).map fun x => decide (x = k)⟩ : TG) :: l.drop (i + 1)).length = 0 + i + 1 + (n - (i + 1)) := by rw [List.length_append, List.length_cons, List.length_take, List.length_drop, HLn.out, Nat.min_eq_left (by omega)]; omega
      rw [e]; exact hd1
    · have e : (l.take i ++ (⟨Ar, m, cr, (List.range m).map fun x => decide (x = k)⟩ : TG) :: l.drop (i + 1)).flatMap tgC = [] ++ (l.take i).flatMap tgC ++ [.slice Ar m cr] ++ (l.drop (i + 1)).flatMap tgC := by rw [List.flatMap_append, List.flatMap_cons]; simp [tgC]
      rw [e]; exact hr9
    · rcases List.mem_append.1 ht with ht | ht
      · exact (HM.out.ok t (List.mem_of_mem_take ht)).to (HB.out.tr HB9.out) (HB.out.tr HB9.out).size
      · rcases List.mem_cons.1 ht with rfl | ht
        · exact HTg.out.ok.to HB9.out HB9.out.size
        · exact (HM.out.ok t (List.mem_of_mem_drop ht)).to (HB.out.tr HB9.out) (HB.out.tr HB9.out).size
    · rcases List.mem_append.1 ht with ht | ht
      · exact (HTy.out t (List.mem_of_mem_take ht)).to (HB.out.tr HB9.out) (HB.out.tr HB9.out).size
      · rcases List.mem_cons.1 ht with rfl | ht
        · exact (Typd.of_own HTg.out).to HB9.out HB9.out.size
        · exact (HTy.out t (List.mem_of_mem_drop ht)).to (HB.out.tr HB9.out) (HB.out.tr HB9.out).size


end Go.Proofs.YtdhhcbkldfdbbaaGreat

/-
  Shows in plain words: what hall.Shows comes to is ShowsP.
-/
namespace Go.Proofs.YtdhhcbkldfdbbaaGreat
open Hall

theorem range_getD {α : Type} [Inhabited α] (l : List α) : (List.range l.length).map (fun i => l.getD i default) = l := by
  refine List.ext_getElem (by simp) fun i h1 h2 => ?_
  simp [h2]
theorem range_filter {α : Type} [Inhabited α] (l : List α) (p : α → Bool) : ((List.range l.length).filter fun i => p (l.getD i default)).map (fun i => l.getD i default) = l.filter p := by
  conv => rhs; rw [← range_getD l]
  rw [List.filter_map]
  rfl
def mineS (S : List St) (r : Rf) : List St := S.filter fun s => r.stays.contains s.id
theorem mine_map (S : List St) (r : Rf) : (mineOf S r).map (fun i => S.getD i default) = mineS S r := range_filter S fun s => r.stays.contains s.id
theorem mine_len (S : List St) (r : Rf) : (mineOf S r).length = (mineS S r).length := by rw [← mine_map, List.length_map]
theorem pos_any {α : Type} (l : List α) (p : α → Bool) : decide (0 < (l.filter p).length) = l.any p := by
  rw [Bool.eq_iff_iff, decide_eq_true_eq, List.any_eq_true, List.length_pos_iff_exists_mem]
  simp [List.mem_filter]
theorem many_eq {R : List Rm} {S : List St} {r : Rf} {k : Nat} (hk : k < R.length) : manyOf (fitN R S) (mineOf S r) k = ((mineS S r).filter fun s => suitsB s (R.getD k default)).length := by
  unfold manyOf
  rw [← mine_map, List.filter_map, List.length_map]
  congr 1
  refine List.filter_congr fun i hi => ?_
  have hi : i < S.length := List.mem_range.1 (List.mem_filter.1 hi).1
  rw [fitN_in hi hk]
  rfl
theorem through_eq {R : List Rm} {S : List St} {r : Rf} : throughOf (fitN R S) R (mineOf S r) R.length = (R.filter fun x => (mineS S r).any fun s => suitsB s x).map Rm.id := by
  unfold throughOf
  rw [← range_filter R, List.map_map]
  congr 1
  refine List.filter_congr fun k hk => ?_
  rw [many_eq (List.mem_range.1 hk), pos_any]
theorem bad_eq {R : List Rm} {S : List St} {r : Rf} : badOf (fitN R S) (mineOf S r) r R.length = true ↔ r.kind = 1 ∧ ∃ x ∈ R, (∃ s ∈ mineS S r, suitsB s x = true) ∧ ∃ s ∈ mineS S r, suitsB s x = false := by
  unfold badOf
  rw [List.any_eq_true]
  have hm : ∀ k, k < R.length → ((decide (0 < manyOf (fitN R S) (mineOf S r) k) && decide (manyOf (fitN R S) (mineOf S r) k < (mineOf S r).length) && decide (r.kind = 1)) = true ↔ r.kind = 1 ∧ (∃ s ∈ mineS S r, suitsB s (R.getD k default) = true) ∧ ∃ s ∈ mineS S r, suitsB s (R.getD k default) = false) := fun k hk => by
    rw [many_eq hk, pos_any, mine_len, Bool.and_eq_true, Bool.and_eq_true, List.any_eq_true, decide_eq_true_eq, decide_eq_true_eq]
    have h2 : ((mineS S r).filter fun s => suitsB s (R.getD k default)).length < (mineS S r).length ↔ ∃ s ∈ mineS S r, suitsB s (R.getD k default) = false := by
      rw [← Decidable.not_iff_not, Nat.not_lt]
      constructor
      · intro h ⟨s, hs, hf⟩
        have h3 := List.length_filter_eq_length_iff.1 (Nat.le_antisymm (List.length_filter_le _ _) h) s hs
        rw [hf] at h3; cases h3
      · intro h
        refine Nat.le_of_eq (List.length_filter_eq_length_iff.2 fun s hs => ?_).symm
        cases hc : suitsB s (R.getD k default)
        · exact absurd ⟨s, hs, hc⟩ h
        · rfl
    rw [h2]
    exact ⟨fun ⟨⟨a, b⟩, c⟩ => ⟨c, a, b⟩, fun ⟨c, a, b⟩ => ⟨⟨a, b⟩, c⟩⟩
  constructor
  · rintro ⟨k, hk, h⟩
    obtain ⟨h1, h2, h3⟩ := (hm k (List.mem_range.1 hk)).1 h
    refine ⟨h1, R.getD k default, ?_, h2, h3⟩
    rw [getD_list (List.mem_range.1 hk)]
    exact List.getElem_mem _
  · rintro ⟨h1, x, hx, h2, h3⟩
    obtain ⟨k, hk, rfl⟩ := List.mem_iff_getElem.1 hx
    refine ⟨k, List.mem_range.2 hk, (hm k hk).2 ?_⟩
    rw [getD_list hk]
    exact ⟨h1, h2, h3⟩
theorem rise_same : ∀ {l l' : List Int}, l.Pairwise (· < ·) → l'.Pairwise (· < ·) → (∀ x, x ∈ l ↔ x ∈ l') → l = l' := fun h h' e => lt_same (id := fun x : Int => x) h h' e
/-- Stays of the night by their IDs. -/
theorem mine_iff {S : List St} {r : Rf} (hS : S.Pairwise (fun a b => a.id < b.id)) : (r.stays.Pairwise (· < ·) ∧ (mineS S r).length = r.stays.length) ↔ r.stays = (mineS S r).map St.id ∧ (mineS S r).Sublist S := by
  have hP : ((mineS S r).map St.id).Pairwise (· < ·) := List.pairwise_map.2 (hS.sublist List.filter_sublist)
  constructor
  · rintro ⟨h1, h2⟩
    refine ⟨rise_same h1 hP fun x => ⟨fun hx => ?_, fun hx => ?_⟩, List.filter_sublist⟩
    · have hsub : ∀ y ∈ (mineS S r).map St.id, y ∈ r.stays := fun y hy => by
        obtain ⟨s, hs, rfl⟩ := List.mem_map.1 hy
        simpa using (List.mem_filter.1 hs).2
      rcases Classical.em (x ∈ (mineS S r).map St.id) with h | h
      · exact h
      · have hd : (x :: (mineS S r).map St.id).Nodup := List.nodup_cons.2 ⟨h, hP.imp fun e => by omega⟩
        have := hnodup_sub hd (b := r.stays) fun y hy => by
          rcases List.mem_cons.1 hy with rfl | hy
          · exact hx
          · exact hsub y hy
        rw [List.length_cons, List.length_map] at this
        omega
    · obtain ⟨s, hs, rfl⟩ := List.mem_map.1 hx
      simpa using (List.mem_filter.1 hs).2
  · rintro ⟨h1, _⟩
    refine ⟨by rw [h1]; exact hP, ?_⟩
    conv => rhs; rw [h1]
    rw [List.length_map]
theorem mine_of {S M : List St} {r : Rf} (hS : S.Pairwise (fun a b => a.id < b.id)) (hM : M.Sublist S) (he : r.stays = M.map St.id) : M = mineS S r := by
  refine lt_same (id := St.id) (hS.sublist hM) (hS.sublist List.filter_sublist) fun s => ?_
  unfold mineS
  rw [List.mem_filter, he]
  simp only [List.contains_iff_mem, List.mem_map]
  constructor
  · intro h; exact ⟨hM.subset h, s, h, rfl⟩
  · rintro ⟨h1, t, h2, h3⟩
    obtain ⟨i, hi, rfl⟩ := List.mem_iff_getElem.1 h1
    obtain ⟨j, hj, rfl⟩ := List.mem_iff_getElem.1 (hM.subset h2)
    have := lt_inj hS hj hi h3
    subst this
    exact h2
theorem rises_iff (l : List Int) : risesB l = true ↔ l.Pairwise (· < ·) := decide_eq_true_iff
/-- What Shows comes to, over rooms and stays that are right. -/
theorem shows_iff {house : List Rm} {all : List St} {r : Rf} (hS : (nightS all r.night).Pairwise (fun a b => a.id < b.id)) {nb : Nat} :
    (showsK r nb && showsC (fitN (roomsS house) (nightS all r.night)) (roomsS house) (nightS all r.night) r) = true ↔ nb = 0 ∧ ShowsP (roomsS house) (nightS all r.night) r := by
  generalize roomsS house = R
  generalize nightS all r.night = S at *
  unfold showsK showsC ShowsP
  simp only [Bool.and_eq_true, Bool.or_eq_true, decide_eq_true_eq, Bool.not_eq_true', rises_iff]
  rw [mine_len, through_eq]
  have hb := bad_eq (R := R) (S := S) (r := r)
  rw [show badOf (fitN R S) (mineOf S r) r R.length = false ↔ ¬ badOf (fitN R S) (mineOf S r) r R.length = true from by simp, hb]
  constructor
  · rintro ⟨⟨h1, h2, h3, h4⟩, h5, h6, h7⟩
    obtain ⟨g1, g2⟩ := (mine_iff hS).1 ⟨h3, h6⟩
    refine ⟨h2, h1, h4, mineS S r, g2, g1, h7.symm, fun hk x hx hs s hs' => ?_⟩
    cases hc : suitsB s x
    · exact absurd ⟨hk, x, hx, hs, s, hs', hc⟩ h5
    · rfl
  · rintro ⟨h2, h1, h4, M, hM, e1, e2, h5⟩
    have e := mine_of hS hM e1
    subst e
    obtain ⟨g1, g2⟩ := (mine_iff hS).2 ⟨e1, hM⟩
    refine ⟨⟨h1, h2, g1, h4⟩, fun ⟨hk, x, hx, hs, s, hs', hc⟩ => ?_, g2, e2.symm⟩
    have := h5 hk x hx hs s hs'
    rw [hc] at this; cases this

end Go.Proofs.YtdhhcbkldfdbbaaGreat

/-
  The plain law of the reference's refusal, and how a night's outcome is reckoned. Nothing of the program stands here.
-/
namespace Go.Proofs.YtdhhcbkldfdbbaaGreat
namespace Hall

/-- A list without its i-th. -/
def outN {α : Type} (I : List α) (i : Nat) : List α := I.take i ++ I.drop (i + 1)
theorem outN_map {α β : Type} (f : α → β) (I : List α) (i : Nat) : (outN I i).map f = outN (I.map f) i := by
  unfold outN
  rw [List.map_append, List.map_take, List.map_drop]
theorem outN_length {α : Type} {I : List α} {i : Nat} (h : i < I.length) : (outN I i).length = I.length - 1 := by
  unfold outN
  rw [List.length_append, List.length_take, List.length_drop]; omega
theorem outN_lt {α : Type} {I : List α} {i j : Nat} (h : i < I.length) (hj : j < i) (hl : j < (outN I i).length) : (outN I i)[j] = I[j]'(by omega) := by
  have h1 : (outN I i)[j]? = I[j]? := by
    unfold outN
    rw [List.getElem?_append_left (by rw [List.length_take]; omega), List.getElem?_take, if_pos hj]
  rw [List.getElem?_eq_getElem hl, List.getElem?_eq_getElem (by omega)] at h1
  exact Option.some.inj h1
/-- The stays that are left when those without which the rest cannot be matched are left out. -/
def leaveGo (R : List Rm) : Nat → List St → Nat → List St
  | 0, M, _ => M
  | n + 1, M, i => if i < M.length then (if matchedB (fitOf R (outN M i)) R.length (outN M i).length = true then leaveGo R n M (i + 1) else leaveGo R n (outN M i) i) else M

section
variable {R : List Rm} {S : List St} {f : Nat} {Z T : List Nat}
theorem leave_go (hS : S.Pairwise (fun a b => a.id < b.id)) (hR : R.Pairwise (fun a b => a.id < b.id)) (h : Stuck (fitOf R S) R.length S.length f Z T) : ∀ (n : Nat) (I : List Nat) (i : Nat), I.length - i < n → I.Pairwise (· < ·) → (∀ x ∈ I, x ≤ f) → (∀ z ∈ Z, z ∈ I) → (∀ j (hj : j < I.length), j < i → I[j] ∈ Z) →
    leaveGo R n (I.map fun z => S.getD z default) i = Z.map fun z => S.getD z default
  | 0, _, _, h0, _, _, _, _ => absurd h0 (Nat.not_lt_zero _)
  | n + 1, I, i, h0, h1, h2, h3, h4 => by
    rw [leaveGo]
    by_cases hi : i < I.length
    · obtain ⟨g1, g2, g3, g4⟩ := leave_step hS hR h h1 h2 h3 hi
      rw [if_pos (by rw [List.length_map]; exact hi), ← outN_map]
      show (if matchedB (fitOf R ((I.take i ++ I.drop (i + 1)).map fun z => S.getD z default)) R.length ((I.take i ++ I.drop (i + 1)).map fun z => S.getD z default).length = true then _ else _) = _
      cases hm : matchedB (fitOf R ((I.take i ++ I.drop (i + 1)).map fun z => S.getD z default)) R.length ((I.take i ++ I.drop (i + 1)).map fun z => S.getD z default).length
      · rw [if_neg (by simp)]
        have hl : (outN I i).length = I.length - 1 := outN_length hi
        refine leave_go hS hR h n (outN I i) i (by omega) g1 g2 (g4 hm) fun j hj hji => ?_
        have : (outN I i)[j] = I[j]'(by omega) := outN_lt hi hji hj
        rw [this]
        exact h4 j (by omega) hji
      · rw [if_pos rfl]
        refine leave_go hS hR h n I (i + 1) (by omega) h1 h2 h3 fun j hj hji => ?_
        by_cases e : j = i
        · subst e; exact g3 hm
        · exact h4 j hj (by omega)
    · rw [if_neg (by rw [List.length_map]; exact hi)]
      rw [leave_end h h1 h3 fun z hz => by
        obtain ⟨j, hj, rfl⟩ := List.mem_iff_getElem.1 hz
        exact h4 j hj (by omega)]
theorem take_range {S : List St} {n : Nat} (hn : n ≤ S.length) : (List.range n).map (fun z => S.getD z default) = S.take n := by
  refine List.ext_getElem (by simp; omega) fun i h1 h2 => ?_
  have : i < n := by simpa using h1
  simp [show i < S.length by omega]
theorem leave_all (hS : S.Pairwise (fun a b => a.id < b.id)) (hR : R.Pairwise (fun a b => a.id < b.id)) (h : Stuck (fitOf R S) R.length S.length f Z T) : leaveGo R (f + 2) (S.take (f + 1)) 0 = Z.map fun z => S.getD z default := by
  have hl := h.lt
  rw [← take_range (by omega)]
  exact leave_go hS hR h (f + 2) (List.range (f + 1)) 0 (by rw [List.length_range]; omega) List.pairwise_lt_range (fun x hx => by rw [List.mem_range] at hx; omega) (fun z hz => by rw [List.mem_range]; have := h.le z hz; omega) fun j _ hj => absurd hj (Nat.not_lt_zero _)
/-- The refusal of stays. -/
def refOf (R : List Rm) (M : List St) (when : Int) : Rf := ⟨if (R.any fun x => M.any (fun s => suitsB s x) && !M.all fun s => suitsB s x) = true then 2 else 1, when, M.map St.id, (R.filter fun x => M.any fun s => suitsB s x).map Rm.id⟩
theorem rfOf_refOf (hR : R.Pairwise (fun a b => a.id < b.id)) (h : Stuck (fitOf R S) R.length S.length f Z T) (when : Int) : rfOf R S when Z T = refOf R (Z.map fun z => S.getD z default) when := by
  have hr := stuck_rooms hR h
  unfold rfOf refOf
  rw [List.map_map, ← hr]
  have hk : (Z.any fun z => T.any fun k => !fitOf R S z k) = R.any fun x => (Z.map fun z => S.getD z default).any (fun s => suitsB s x) && !(Z.map fun z => S.getD z default).all fun s => suitsB s x := by
    rw [Bool.eq_iff_iff]
    simp only [List.any_eq_true, Bool.and_eq_true, Bool.not_eq_true', List.all_eq_false, List.mem_map]
    constructor
    · rintro ⟨z, hz, k, hk, hf⟩
      obtain ⟨h1, y, hy, hy2⟩ := (h.thr k).1 hk
      refine ⟨R.getD k default, by rw [getD_list h1]; exact List.getElem_mem _, ⟨_, ⟨y, hy, rfl⟩, hy2⟩, _, ⟨z, hz, rfl⟩, ?_⟩
      intro e
      have : fitOf R S z k = true := e
      rw [this] at hf; cases hf
    · rintro ⟨x, hx, ⟨s, ⟨y, hy, rfl⟩, hy2⟩, t, ⟨z, hz, rfl⟩, hf⟩
      obtain ⟨k, hk, rfl⟩ := List.mem_iff_getElem.1 hx
      refine ⟨z, hz, k, (h.thr k).2 ⟨hk, y, hy, ?_⟩, ?_⟩
      · unfold fitOf; rw [getD_list hk]; exact hy2
      · unfold fitOf; rw [getD_list hk]
        cases hc : suitsB (S.getD z default) R[k]
        · rfl
        · exact absurd hc hf
  rw [hk, List.map_map]
  rfl
end

/-! ### Reckoning a night -/
theorem at_calc {R : List Rm} {S : List St} (h : (matchP (fitOf R S) R.length S.length).2 = none) : AtIs R S ((improveGo (fitOf R S) R.length S.length 0 (matchP (fitOf R S) R.length S.length).1).map fun k => (R.getD k default).id) := by
  have e : matchP (fitOf R S) R.length S.length = ((matchP (fitOf R S) R.length S.length).1, none) := by rw [← h]
  exact ⟨_, improve_least (match_none e), rfl⟩
theorem stuck_of {fit : Nat → Nat → Bool} {nr n f : Nat} (hm : (matchP fit nr n).2 = some f) : ∃ Z T, Stuck fit nr n f Z T := by
  have hm : matchP fit nr n = ((matchP fit nr n).1, some f) := by rw [← hm]
  generalize (matchP fit nr n).1 = o at hm
  obtain ⟨h1, h2, h3⟩ := match_some hm
  refine ⟨(List.range (f + 1)).filter fun j => @decide (Alt fit nr o f j) (Classical.propDecidable _), (List.range nr).filter fun k => @decide (Thr fit nr o f k) (Classical.propDecidable _), ?_⟩
  refine stuck_alt hm (List.pairwise_lt_range.sublist List.filter_sublist) (List.pairwise_lt_range.sublist List.filter_sublist) (fun j => ?_) fun k => ?_
  · rw [List.mem_filter, List.mem_range]
    exact ⟨fun e => @of_decide_eq_true _ (Classical.propDecidable _) e.2, fun e => ⟨by have := e.le h2; omega, @decide_eq_true _ (Classical.propDecidable _) e⟩⟩
  · rw [List.mem_filter, List.mem_range]
    exact ⟨fun e => @of_decide_eq_true _ (Classical.propDecidable _) e.2, fun e => ⟨e.1, @decide_eq_true _ (Classical.propDecidable _) e⟩⟩
theorem rf_calc {R : List Rm} {S : List St} {f : Nat} {when : Int} {r : Rf} (hS : S.Pairwise (fun a b => a.id < b.id)) (hR : R.Pairwise (fun a b => a.id < b.id)) (hm : (matchP (fitOf R S) R.length S.length).2 = some f) (h : RfIs R S when r) : r = refOf R (leaveGo R (f + 2) (S.take (f + 1)) 0) when := by
  obtain ⟨Z, T, hs⟩ := stuck_of hm
  rw [leave_all hS hR hs, ← rfOf_refOf hR hs]
  exact h.same ⟨f, Z, T, hs, rfl⟩
end Hall
end Go.Proofs.YtdhhcbkldfdbbaaGreat
