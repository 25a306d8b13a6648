/-
  Part9: this text joins 4 texts; each says ahead of itself what it proves.
-/
import Derived.Deep.RegionHeld3
import Derived.Deep.RegionWith
import Derived.Outline
import Derived.Test.YtdhhcbkldfdbbaaGreatPart8

/-
  innkeeperlaw19: room, stay, usable, without, and the examples of head. Printed by gen_hallhead.py.
-/
namespace Go.Proofs.YtdhhcbkldfdbbaaGreat
open Go.RowKit Go.Shelf Go.Sort
open Hall

attribute [local go_sem] Oper.semAt_some

theorem room19_any (id : Int) (access : Bool) (w : World) :
    Calls Tryz.prog 50 #[.int .i64 id, .bool access] w fun e w' => e = .returned (.agg #[.int .i64 id, .int .i64 1, .int .i64 1, .int .i64 0, .bool access, .slice none 0 0]) ∧ Below w.heap.size w w' := by
  go_enter Tryz.func50, Tryz.ntmps50
  go_wp2
  exact bodyPost_ret (v := .agg #[.int .i64 id, .int .i64 1, .int .i64 1, .int .i64 0, .bool access, .slice none 0 0]) (by simp [results, Tryz.results50, go_sem]) rfl ⟨rfl, alloc_b w _⟩
theorem stay19_any (id room : Int) (access : Bool) (w : World) :
    Calls Tryz.prog 51 #[.int .i64 id, .bool access, .int .i64 room] w fun e w' => e = .returned (.agg #[.int .i64 id, .int .i64 1, .int .i64 4, .int .i64 6, .int .i64 1, .int .i64 room, .int .i64 0, .bool access, .bool (decide (0 < room))]) ∧ Below w.heap.size w w' := by
  go_enter Tryz.func51, Tryz.ntmps51
  go_wp2
  exact bodyPost_ret (v := .agg #[.int .i64 id, .int .i64 1, .int .i64 4, .int .i64 6, .int .i64 1, .int .i64 room, .int .i64 0, .bool access, .bool (decide (0 < room))]) (by simp [results, Tryz.results51, go_sem]) rfl ⟨rfl, alloc_b w _⟩

/-! ### What is usable -/
def useB (house : List RG) (l : List St) (night : Int) : Bool := (fewB house && (decide (house.length ≤ 12) && decide (l.length ≤ 12))) && (roomsB (house.map RG.rm) && (staysB l && (decide (0 ≤ night) && decide (night < 366))))
theorem useB_iff {house : List RG} {l : List St} {night : Int} : useB house l night = true ↔ (fewB house = true ∧ house.length ≤ 12 ∧ l.length ≤ 12) ∧ (roomsB (house.map RG.rm) && (staysB l && inB night 0 365)) = true := by
  unfold useB inB
  simp only [Bool.and_eq_true, decide_eq_true_eq]
  constructor
  · rintro ⟨⟨a, b, c⟩, d, e, f, g⟩
    exact ⟨⟨a, b, c⟩, d, e, by omega⟩
  · rintro ⟨⟨a, b, c⟩, d, e, f⟩
    exact ⟨⟨a, b, c⟩, d, e, by omega, by omega⟩
theorem usable19_any (A1 A2 : Option Addr) (n1 n2 k1 k2 : Nat) (house : List RG) (l : List St) (night : Int) (w : World) (hn1 : n1 ≤ 9223372036854775807) (hn2 : n2 ≤ 9223372036854775807) (hM1 : Rms w w.heap.size A1 n1 house) (hM2 : Sts w w.heap.size A2 n2 l) :
    Calls Tryz.prog 16 #[.slice A1 n1 k1, .slice A2 n2 k2, .int .i64 night] w fun e w' => e = .returned (.bool (useB house l night)) ∧ Below w.heap.size w w' := by
  have HF := Lib.hid (few19_any A1 A2 n1 n2 k1 k2 house w hn1 hM1)
  have HV1 := Lib.hid (fun (W : World) (h : Below w.heap.size w W) => valid16_any A1 n1 k1 house W hn1 (hM1.below h))
  have HV2 := Lib.hid (fun (W : World) (h : Below w.heap.size w W) => valid17_any A2 n2 k2 l W hn2 (hM2.below h))
  have HQ := Lib.hid (show ∀ x b1 b2 b3 b4, (fewB house && (decide (n1 ≤ 12) && decide (n2 ≤ 12))) = x → roomsB (house.map RG.rm) = b1 → staysB l = b2 → decide (0 ≤ night) = b3 → decide (night < 366) = b4 → useB house l night = (x && (b1 && (b2 && (b3 && b4)))) from fun x b1 b2 b3 b4 h1 h2 h3 h4 h5 => by
    unfold useB
    rw [hM1.len, hM2.len, h1, h2, h3, h4, h5])
  clear hM1 hM2
  have HQ2 := Lib.hid (HQ.out _ _ _ _ _ rfl rfl rfl rfl rfl)
  clear HQ
  generalize (fewB house && (decide (n1 ≤ 12) && decide (n2 ≤ 12))) = x at *
  generalize roomsB (house.map RG.rm) = b1 at *
  generalize staysB l = b2 at *
  obtain ⟨b3, h3⟩ : ∃ b, decide (0 ≤ night) = b := ⟨_, rfl⟩
  obtain ⟨b4, h4⟩ : ∃ b, decide (night < 366) = b := ⟨_, rfl⟩
  rw [h3, h4] at HQ2
  generalize useB house l night = u at *
  go_enter Tryz.func16, Tryz.ntmps16
  go_wp2_with fail
  refine HF.out.mono ?_
  rintro e w1 ⟨rfl, hb⟩
  have HB1 := Lib.hid hb
  clear hb
  cases x
  · go_wp2_with fail
    go_ret
    exact ⟨by rw [HQ2.out]; rfl, HB1.out⟩
  go_wp2_with fail
  refine (HV1.out _ HB1.out).mono ?_
  rintro e w2 ⟨rfl, hb⟩
  have HB2 := Lib.hid (HB1.out.tr hb)
  clear hb
  cases b1
  · go_wp2_with fail
    go_ret
    exact ⟨by rw [HQ2.out]; rfl, HB2.out⟩
  go_wp2_with fail
  refine (HV2.out _ HB2.out).mono ?_
  rintro e w3 ⟨rfl, hb⟩
  have HB3 := Lib.hid (HB2.out.tr hb)
  clear hb
  cases b2
  · go_wp2_with fail
    go_ret
    exact ⟨by rw [HQ2.out]; rfl, HB3.out⟩
  cases b3
  · go_wp2_with fail
    go_ret
    exact ⟨by rw [HQ2.out]; rfl, HB3.out⟩
  cases b4
  · go_wp2_with fail
    go_ret
    exact ⟨by rw [HQ2.out]; rfl, HB3.out⟩
  · go_wp2_with fail
    go_ret
    exact ⟨by rw [HQ2.out]; rfl, HB3.out⟩

/-! ### What Match comes to, if it is known -/
theorem Hall.AtIs.not_rf {R : List Rm} {S : List St} {a : List Int} {when : Int} {r : Rf} (hS : S.Pairwise (fun a b => a.id < b.id)) (hR : R.Pairwise (fun a b => a.id < b.id)) (h : AtIs R S a) : ¬ RfIs R S when r := fun h' => h'.not hS hR (h.can hS hR)
theorem lt_of {house : List RG} {all : List St} {when : Int} (hc : (roomsB (house.map RG.rm) && (staysB all && inB when 0 365)) = true) : (nightS all when).Pairwise (fun a b => a.id < b.id) ∧ (roomsS (house.map RG.rm)).Pairwise (fun a b => a.id < b.id) := by
  rw [Bool.and_eq_true, Bool.and_eq_true] at hc
  obtain ⟨_, _, r3, _⟩ := roomsB_iff.1 hc.1
  obtain ⟨_, _, s3, _⟩ := staysB_iff.1 hc.2.1
  exact ⟨nightS_lt s3, roomsS_lt r3⟩
theorem MatchRes.yes {house : List RG} {all : List St} {when : Int} {ats : List Int} {w w' : World} {e : Ending} (h : MatchRes house all when w e w') (hc : (roomsB (house.map RG.rm) && (staysB all && inB when 0 365)) = true) (ha : AtIs (roomsS (house.map RG.rm)) (nightS all when) ats) :
    (∃ A c, e = .returned (.tuple #[.slice A ats.length c, .agg #[.int .i64 0, .int .i64 0, .slice none 0 0, .slice none 0 0, .slice none 0 0], .bool true, .int .i64 0]) ∧ Rd w' w'.heap.size A (ats.map (Value.int .i64))) ∧ Below w.heap.size w w' := by
  obtain ⟨hb, h⟩ := h
  rw [if_pos hc] at h
  obtain ⟨l1, l2⟩ := lt_of hc
  rcases h with ⟨A, n, c, at_, rfl, h1, rfl, h3⟩ | ⟨As, ns, cs, Ar, nr, cr, r, rfl, h1, _⟩
  · have e := h1.same ha
    subst e
    exact ⟨⟨A, c, rfl, h3⟩, hb⟩
  · exact absurd h1 (ha.not_rf l1 l2)
theorem MatchRes.no {house : List RG} {all : List St} {when : Int} {r : Rf} {w w' : World} {e : Ending} (h : MatchRes house all when w e w') (hc : (roomsB (house.map RG.rm) && (staysB all && inB when 0 365)) = true) (hr : RfIs (roomsS (house.map RG.rm)) (nightS all when) when r) :
    (∃ As cs Ar cr, e = .returned (.tuple #[.slice none 0 0, .agg #[.int .i64 r.kind, .int .i64 r.night, .slice As r.stays.length cs, .slice Ar r.rooms.length cr, .slice none 0 0], .bool false, .int .i64 0]) ∧ Rd w' w'.heap.size As (r.stays.map (Value.int .i64)) ∧ Rd w' w'.heap.size Ar (r.rooms.map (Value.int .i64))) ∧ Below w.heap.size w w' := by
  obtain ⟨hb, h⟩ := h
  rw [if_pos hc] at h
  obtain ⟨l1, l2⟩ := lt_of hc
  rcases h with ⟨A, n, c, at_, rfl, h1, rfl, h3⟩ | ⟨As, ns, cs, Ar, nr, cr, r', rfl, h1, rfl, rfl, h2, h3⟩
  · exact absurd hr (h1.not_rf l1 l2)
  · have e := h1.same hr
    subst e
    exact ⟨⟨As, cs, Ar, cr, rfl, h2, h3⟩, hb⟩
theorem MatchRes.bad {house : List RG} {all : List St} {when : Int} {w w' : World} {e : Ending} (h : MatchRes house all when w e w') (hc : (roomsB (house.map RG.rm) && (staysB all && inB when 0 365)) = false) :
    e = .returned (.tuple #[.slice none 0 0, .agg #[.int .i64 0, .int .i64 0, .slice none 0 0, .slice none 0 0, .slice none 0 0], .bool false, .int .i64 1]) ∧ Below w.heap.size w w' := by
  obtain ⟨hb, h⟩ := h
  rw [if_neg (by rw [hc]; simp)] at h
  exact ⟨h, hb⟩
theorem rf_of_calc {R : List Rm} {S : List St} {f : Nat} {when : Int} (hS : S.Pairwise (fun a b => a.id < b.id)) (hR : R.Pairwise (fun a b => a.id < b.id)) (hm : (matchP (fitOf R S) R.length S.length).2 = some f) : RfIs R S when (refOf R (leaveGo R (f + 2) (S.take (f + 1)) 0) when) := by
  obtain ⟨Z, T, hs⟩ := stuck_of hm
  rw [leave_all hS hR hs, ← rfOf_refOf hR hs]
  exact ⟨f, Z, T, hs, rfl⟩

/-! ### The examples -/
def exR : List RG := [⟨3, 1, 1, 0, true, none, 0, 0, []⟩, ⟨1, 1, 1, 0, false, none, 0, 0, []⟩, ⟨2, 1, 1, 0, false, none, 0, 0, []⟩]
def exA : List St := [⟨6, 1, 4, 6, 1, 0, 0, false, false⟩, ⟨5, 1, 4, 6, 1, 0, 0, false, false⟩]
def exB : List St := [⟨6, 1, 4, 6, 1, 0, 0, false, false⟩, ⟨5, 1, 4, 6, 1, 0, 0, true, false⟩]
def exC : List St := [⟨6, 1, 4, 6, 1, 0, 0, true, false⟩, ⟨5, 1, 4, 6, 1, 0, 0, true, false⟩, ⟨7, 1, 4, 6, 1, 0, 0, true, false⟩]
def exD : List St := [⟨5, 1, 4, 6, 1, 1, 0, false, true⟩, ⟨6, 1, 4, 6, 1, 1, 0, false, true⟩, ⟨7, 1, 4, 6, 1, 0, 0, false, false⟩]
theorem rd_heapH {W : World} {b : Nat} {cs : Array Value} {t : TypeId} {fr : Nat × Nat} (h : W.heap[b]? = some (.cells cs t fr)) : Rd W W.heap.size (some ⟨b, 0, none⟩) cs.toList := fun _ =>
  ⟨b, 0, rfl, (Array.getElem?_eq_some_iff.1 h).1, fun j v hv => by rw [Nat.zero_add, cell_of h j]; simpa using hv⟩
theorem exR_ok (W : World) : ∀ r ∈ exR, r.ok W W.heap.size := by
  intro r hr
  simp only [exR, List.mem_cons, List.not_mem_nil, or_false] at hr
  rcases hr with rfl | rfl | rfl <;> exact ⟨Sps.nil, Nat.le_refl _, by dsimp only; omega, by unfold I64; dsimp only; omega, by unfold I64; dsimp only; omega, by unfold I64; dsimp only; omega, by unfold I64; dsimp only; omega⟩
theorem exA_ok : ∀ s ∈ exA, s.ok := by
  intro s hs
  simp only [exA, List.mem_cons, List.not_mem_nil, or_false] at hs
  rcases hs with rfl | rfl <;> (constructor <;> (unfold I64; dsimp only; omega))
theorem exB_ok : ∀ s ∈ exB, s.ok := by
  intro s hs
  simp only [exB, List.mem_cons, List.not_mem_nil, or_false] at hs
  rcases hs with rfl | rfl <;> (constructor <;> (unfold I64; dsimp only; omega))
theorem exC_ok : ∀ s ∈ exC, s.ok := by
  intro s hs
  simp only [exC, List.mem_cons, List.not_mem_nil, or_false] at hs
  rcases hs with rfl | rfl | rfl <;> (constructor <;> (unfold I64; dsimp only; omega))
theorem exD_ok : ∀ s ∈ exD, s.ok := by
  intro s hs
  simp only [exD, List.mem_cons, List.not_mem_nil, or_false] at hs
  rcases hs with rfl | rfl | rfl <;> (constructor <;> (unfold I64; dsimp only; omega))
def RH (W : World) (b : Nat) : Prop := W.heap[b]? = some (.cells #[.int .i64 3, .int .i64 1, .int .i64 1, .int .i64 0, .bool true, .slice none 0 0, .int .i64 1, .int .i64 1, .int .i64 1, .int .i64 0, .bool false, .slice none 0 0, .int .i64 2, .int .i64 1, .int .i64 1, .int .i64 0, .bool false, .slice none 0 0] 45 (0, 0))
theorem RH.rms {W : World} {b : Nat} (h : RH W b) : Rms W W.heap.size (some ⟨b, 0, none⟩) 3 exR := ⟨rfl, rd_heapH h, exR_ok W⟩
theorem RH.below {W W' : World} {b : Nat} (h : RH W b) (hb : Below W.heap.size W W') : RH W' b := (hb.block _ (Array.getElem?_eq_some_iff.1 h).1).trans h
theorem RH.tail {W : World} {b : Nat} (h : RH W b) : Rms W W.heap.size (some ⟨b, 6, none⟩) 2 (exR.drop 1) := by
  refine ⟨rfl, ?_, fun r hr => exR_ok W r (List.mem_of_mem_drop hr)⟩
  have := (h.rms.rd).cutF (c := 3) rgC_len 1 (by decide) (by decide)
  exact this
def SHA (W : World) (b : Nat) : Prop := W.heap[b]? = some (.cells #[.int .i64 6, .int .i64 1, .int .i64 4, .int .i64 6, .int .i64 1, .int .i64 0, .int .i64 0, .bool false, .bool false, .int .i64 5, .int .i64 1, .int .i64 4, .int .i64 6, .int .i64 1, .int .i64 0, .int .i64 0, .bool false, .bool false] 36 (0, 0))
theorem SHA.sts {W : World} {b : Nat} (h : SHA W b) : Sts W W.heap.size (some ⟨b, 0, none⟩) 2 exA := ⟨rfl, rd_heapH h, exA_ok⟩
theorem SHA.below {W W' : World} {b : Nat} (h : SHA W b) (hb : Below W.heap.size W W') : SHA W' b := (hb.block _ (Array.getElem?_eq_some_iff.1 h).1).trans h
def SHB (W : World) (b : Nat) : Prop := W.heap[b]? = some (.cells #[.int .i64 6, .int .i64 1, .int .i64 4, .int .i64 6, .int .i64 1, .int .i64 0, .int .i64 0, .bool false, .bool false, .int .i64 5, .int .i64 1, .int .i64 4, .int .i64 6, .int .i64 1, .int .i64 0, .int .i64 0, .bool true, .bool false] 36 (0, 0))
theorem SHB.sts {W : World} {b : Nat} (h : SHB W b) : Sts W W.heap.size (some ⟨b, 0, none⟩) 2 exB := ⟨rfl, rd_heapH h, exB_ok⟩
theorem SHB.below {W W' : World} {b : Nat} (h : SHB W b) (hb : Below W.heap.size W W') : SHB W' b := (hb.block _ (Array.getElem?_eq_some_iff.1 h).1).trans h
def SHC (W : World) (b : Nat) : Prop := W.heap[b]? = some (.cells #[.int .i64 6, .int .i64 1, .int .i64 4, .int .i64 6, .int .i64 1, .int .i64 0, .int .i64 0, .bool true, .bool false, .int .i64 5, .int .i64 1, .int .i64 4, .int .i64 6, .int .i64 1, .int .i64 0, .int .i64 0, .bool true, .bool false, .int .i64 7, .int .i64 1, .int .i64 4, .int .i64 6, .int .i64 1, .int .i64 0, .int .i64 0, .bool true, .bool false] 36 (0, 0))
theorem SHC.sts {W : World} {b : Nat} (h : SHC W b) : Sts W W.heap.size (some ⟨b, 0, none⟩) 3 exC := ⟨rfl, rd_heapH h, exC_ok⟩
theorem SHC.below {W W' : World} {b : Nat} (h : SHC W b) (hb : Below W.heap.size W W') : SHC W' b := (hb.block _ (Array.getElem?_eq_some_iff.1 h).1).trans h
def SHD (W : World) (b : Nat) : Prop := W.heap[b]? = some (.cells #[.int .i64 5, .int .i64 1, .int .i64 4, .int .i64 6, .int .i64 1, .int .i64 1, .int .i64 0, .bool false, .bool true, .int .i64 6, .int .i64 1, .int .i64 4, .int .i64 6, .int .i64 1, .int .i64 1, .int .i64 0, .bool false, .bool true, .int .i64 7, .int .i64 1, .int .i64 4, .int .i64 6, .int .i64 1, .int .i64 0, .int .i64 0, .bool false, .bool false] 36 (0, 0))
theorem SHD.sts {W : World} {b : Nat} (h : SHD W b) : Sts W W.heap.size (some ⟨b, 0, none⟩) 3 exD := ⟨rfl, rd_heapH h, exD_ok⟩
theorem SHD.below {W W' : World} {b : Nat} (h : SHD W b) (hb : Below W.heap.size W W') : SHD W' b := (hb.block _ (Array.getElem?_eq_some_iff.1 h).1).trans h
theorem exA_match {W : World} {b bs : Nat} (hR : RH W b) (hS : SHA W bs) : Calls Tryz.prog 17 #[.slice (some ⟨b, 0, none⟩) 3 3, .slice (some ⟨bs, 0, none⟩) 2 2, .int .i64 4] W fun e w' =>
    (∃ A c, e = .returned (.tuple #[.slice A 2 c, .agg #[.int .i64 0, .int .i64 0, .slice none 0 0, .slice none 0 0, .slice none 0 0], .bool true, .int .i64 0]) ∧ Rd w' w'.heap.size A [.int .i64 1, .int .i64 2]) ∧ Below W.heap.size W w' :=
  (hmatch_any _ _ 3 2 3 2 4 exR exA W (by omega) (by omega) hR.rms hS.sts).mono fun _ _ h => h.yes (ats := [1, 2]) (by kernel_rfl) (by
    have h1 := at_calc (R := roomsS (exR.map RG.rm)) (S := nightS exA 4) (by kernel_rfl)
    have e : ((improveGo (fitOf (roomsS (exR.map RG.rm)) (nightS exA 4)) (roomsS (exR.map RG.rm)).length (nightS exA 4).length 0 (matchP (fitOf (roomsS (exR.map RG.rm)) (nightS exA 4)) (roomsS (exR.map RG.rm)).length (nightS exA 4).length).1).map fun k => ((roomsS (exR.map RG.rm)).getD k default).id) = [1, 2] := by kernel_rfl
    rwa [e] at h1)
theorem exB_match {W : World} {b bs : Nat} (hR : RH W b) (hS : SHB W bs) : Calls Tryz.prog 17 #[.slice (some ⟨b, 0, none⟩) 3 3, .slice (some ⟨bs, 0, none⟩) 2 2, .int .i64 4] W fun e w' =>
    (∃ A c, e = .returned (.tuple #[.slice A 2 c, .agg #[.int .i64 0, .int .i64 0, .slice none 0 0, .slice none 0 0, .slice none 0 0], .bool true, .int .i64 0]) ∧ Rd w' w'.heap.size A [.int .i64 3, .int .i64 1]) ∧ Below W.heap.size W w' :=
  (hmatch_any _ _ 3 2 3 2 4 exR exB W (by omega) (by omega) hR.rms hS.sts).mono fun _ _ h => h.yes (ats := [3, 1]) (by kernel_rfl) (by
    have h1 := at_calc (R := roomsS (exR.map RG.rm)) (S := nightS exB 4) (by kernel_rfl)
    have e : ((improveGo (fitOf (roomsS (exR.map RG.rm)) (nightS exB 4)) (roomsS (exR.map RG.rm)).length (nightS exB 4).length 0 (matchP (fitOf (roomsS (exR.map RG.rm)) (nightS exB 4)) (roomsS (exR.map RG.rm)).length (nightS exB 4).length).1).map fun k => ((roomsS (exR.map RG.rm)).getD k default).id) = [3, 1] := by kernel_rfl
    rwa [e] at h1)
theorem exC_match {W : World} {b bs : Nat} (hR : RH W b) (hS : SHC W bs) : Calls Tryz.prog 17 #[.slice (some ⟨b, 0, none⟩) 3 3, .slice (some ⟨bs, 0, none⟩) 3 3, .int .i64 4] W fun e w' =>
    (∃ As cs Ar cr, e = .returned (.tuple #[.slice none 0 0, .agg #[.int .i64 1, .int .i64 4, .slice As 2 cs, .slice Ar 1 cr, .slice none 0 0], .bool false, .int .i64 0]) ∧ Rd w' w'.heap.size As [.int .i64 5, .int .i64 6] ∧ Rd w' w'.heap.size Ar [.int .i64 3]) ∧ Below W.heap.size W w' :=
  (hmatch_any _ _ _ 3 _ 3 4 exR exC W (by omega) (by omega) hR.rms hS.sts).mono fun _ _ h => h.no (r := ⟨1, 4, [5, 6], [3]⟩) (by kernel_rfl) (by
    obtain ⟨l1, l2⟩ := lt_of (house := exR) (all := exC) (when := 4) (by kernel_rfl)
    have h1 := rf_of_calc (f := 1) (when := 4) l1 l2 (by kernel_rfl)
    have e : refOf (roomsS ((exR).map RG.rm)) (leaveGo (roomsS ((exR).map RG.rm)) (1 + 2) ((nightS exC 4).take (1 + 1)) 0) 4 = ⟨1, 4, [5, 6], [3]⟩ := by kernel_rfl
    rwa [e] at h1)
theorem exD_match {W : World} {b bs : Nat} (hR : RH W b) (hS : SHD W bs) : Calls Tryz.prog 17 #[.slice (some ⟨b, 6, none⟩) 2 2, .slice (some ⟨bs, 0, none⟩) 3 3, .int .i64 5] W fun e w' =>
    (∃ As cs Ar cr, e = .returned (.tuple #[.slice none 0 0, .agg #[.int .i64 1, .int .i64 5, .slice As 2 cs, .slice Ar 1 cr, .slice none 0 0], .bool false, .int .i64 0]) ∧ Rd w' w'.heap.size As [.int .i64 5, .int .i64 6] ∧ Rd w' w'.heap.size Ar [.int .i64 1]) ∧ Below W.heap.size W w' :=
  (hmatch_any _ _ _ 3 _ 3 5 (exR.drop 1) exD W (by omega) (by omega) hR.tail hS.sts).mono fun _ _ h => h.no (r := ⟨1, 5, [5, 6], [1]⟩) (by kernel_rfl) (by
    obtain ⟨l1, l2⟩ := lt_of (house := (exR.drop 1)) (all := exD) (when := 5) (by kernel_rfl)
    have h1 := rf_of_calc (f := 1) (when := 5) l1 l2 (by kernel_rfl)
    have e : refOf (roomsS (((exR.drop 1)).map RG.rm)) (leaveGo (roomsS (((exR.drop 1)).map RG.rm)) (1 + 2) ((nightS exD 5).take (1 + 1)) 0) 5 = ⟨1, 5, [5, 6], [1]⟩ := by kernel_rfl
    rwa [e] at h1)
theorem exC_bad {W : World} {b bs : Nat} (hR : RH W b) (hS : SHC W bs) : Calls Tryz.prog 17 #[.slice (some ⟨b, 0, none⟩) 3 3, .slice (some ⟨bs, 0, none⟩) 3 3, .int .i64 366] W fun e w' => e = .returned (.tuple #[.slice none 0 0, .agg #[.int .i64 0, .int .i64 0, .slice none 0 0, .slice none 0 0, .slice none 0 0], .bool false, .int .i64 1]) ∧ Below W.heap.size W w' :=
  (hmatch_any _ _ 3 3 3 3 366 exR exC W (by omega) (by omega) hR.rms hS.sts).mono fun _ _ h => h.bad (by kernel_rfl)
theorem exC_shows {W : World} {b bs : Nat} {As Ar : Option Addr} {cs cr : Nat} (hR : RH W b) (hS : SHC W bs) (h1 : Rd W W.heap.size As [.int .i64 5, .int .i64 6]) (h2 : Rd W W.heap.size Ar [.int .i64 3]) (m : Nat) (hm : m ≤ 3) (k : Nat) (bb : Bool) (hq : showsQ exR (exC.take m) ⟨1, 4, [5, 6], [3]⟩ 0 = (bb, 0)) :
    Calls Tryz.prog 18 #[.slice (some ⟨b, 0, none⟩) 3 3, .slice (some ⟨bs, 0, none⟩) m k, .agg #[.int .i64 1, .int .i64 4, .slice As 2 cs, .slice Ar 1 cr, .slice none 0 0]] W fun e w' => e = .returned (.tuple #[.bool bb, .int .i64 0]) ∧ Below W.heap.size W w' := by
  have h := shows_any (some ⟨b, 0, none⟩) (some ⟨bs, 0, none⟩) 3 m 3 k exR (exC.take m) ⟨1, 4, [5, 6], [3]⟩ As Ar none cs cr 0 0 W (by omega) (by omega) hR.rms (hS.sts.takeK m hm) h1 h2 (by simp) (by simp) (by omega)
  rw [hq] at h
  exact h
theorem exC_q3 : showsQ exR (exC.take 3) ⟨1, 4, [5, 6], [3]⟩ 0 = (true, 0) := by kernel_rfl
theorem exC_q2 : showsQ exR (exC.take 2) ⟨1, 4, [5, 6], [3]⟩ 0 = (true, 0) := by kernel_rfl
theorem exC_q1 : showsQ exR (exC.take 1) ⟨1, 4, [5, 6], [3]⟩ 0 = (false, 0) := by kernel_rfl

end Go.Proofs.YtdhhcbkldfdbbaaGreat

/-
  Words for head of innkeeperlaw19: a box that is laid early and filled later. Printed by gen_hallheadx.py.
-/
namespace Go.Proofs.YtdhhcbkldfdbbaaGreat
open Go.RowKit Go.Shelf Go.Sort
open Hall

theorem rd_set {W : World} {B b off : Nat} {v : Value} {A : Option Addr} {xs : List Value} (h : Rd W B A xs) (hne : ∀ b' o', A = some ⟨b', o', none⟩ → b' ≠ b) : Rd (W.setCell ⟨b, off, none⟩ v) B A xs := fun hp => by
  obtain ⟨b', o', e, hb, hc⟩ := h hp
  refine ⟨b', o', e, hb, fun j u hu => ?_⟩
  have h1 := hc j u hu
  simp only [World.cell?, Below.heap_setCell W ⟨b, off, none⟩ v b' (hne b' o' e)] at h1 ⊢
  exact h1
theorem rd_not {W : World} {B b : Nat} {A : Option Addr} {t : TypeId} {fr : Nat × Nat} {x : Int} {xs : List Value} (hq : W.heap[b]? = some (.cells #[.int .i64 0, .int .i64 0, .slice none 0 0, .slice none 0 0, .slice none 0 0] t fr)) (h : Rd W B A (.int .i64 x :: xs)) (hx : x ≠ 0) : ∀ b' o', A = some ⟨b', o', none⟩ → b' ≠ b := fun b' o' e hb => by
  obtain ⟨b2, o2, e2, _, hc⟩ := h (by simp)
  rw [e] at e2
  cases e2
  have h0 := hc 0 _ rfl
  rw [hb, Nat.add_zero, cell_of hq o'] at h0
  rcases o' with _ | _ | _ | _ | _ | o'
  · simp at h0; exact hx h0.symm
  · simp at h0; exact hx h0.symm
  · simp at h0
  · simp at h0
  · simp at h0
  · simp at h0
theorem rd_put5 {W : World} {b : Nat} {A : Option Addr} {t : TypeId} {fr : Nat × Nat} {x : Int} {xs : List Value} {v0 v1 v2 v3 v4 : Value} (hq : W.heap[b]? = some (.cells #[.int .i64 0, .int .i64 0, .slice none 0 0, .slice none 0 0, .slice none 0 0] t fr)) (h : Rd W W.heap.size A (.int .i64 x :: xs)) (hx : x ≠ 0) : Rd (((((W.setCell ⟨b, 0, none⟩ v0).setCell ⟨b, 1, none⟩ v1).setCell ⟨b, 2, none⟩ v2).setCell ⟨b, 3, none⟩ v3).setCell ⟨b, 4, none⟩ v4) (((((W.setCell ⟨b, 0, none⟩ v0).setCell ⟨b, 1, none⟩ v1).setCell ⟨b, 2, none⟩ v2).setCell ⟨b, 3, none⟩ v3).setCell ⟨b, 4, none⟩ v4).heap.size A (.int .i64 x :: xs) := by
  have hne := rd_not hq h hx
  have := rd_set (off := 4) (v := v4) (rd_set (off := 3) (v := v3) (rd_set (off := 2) (v := v2) (rd_set (off := 1) (v := v1) (rd_set (off := 0) (v := v0) h hne) hne) hne) hne) hne
  simpa using this
theorem below_refp5 {w W : World} {b : Nat} {v0 v1 v2 v3 v4 : Value} (h : Below w.heap.size w W) (hb : w.heap.size ≤ b) : Below w.heap.size w (((((W.setCell ⟨b, 0, none⟩ v0).setCell ⟨b, 1, none⟩ v1).setCell ⟨b, 2, none⟩ v2).setCell ⟨b, 3, none⟩ v3).setCell ⟨b, 4, none⟩ v4) :=
  ((((h.setCell hb _).setCell hb _).setCell hb _).setCell hb _).setCell hb _
theorem fin_early {wm YC : World} {b : Nat} {AsD ArD : Option Addr} {csD crD : Nat} (hq : wm.heap[b]? = some (.cells #[.int .i64 0, .int .i64 0, .slice none 0 0, .slice none 0 0, .slice none 0 0] 29 (0, 0))) (h1 : Rd wm wm.heap.size AsD [.int .i64 5, .int .i64 6]) (h2 : Rd wm wm.heap.size ArD [.int .i64 1]) (hz : Below YC.heap.size YC wm) (hb : YC.heap.size ≤ b) : ∃ (bd : Nat) (As : Option Addr) (cs : Nat) (Ar : Option Addr) (cr : Nat), (Value.pointer (some ⟨b, 0, none⟩)) = .pointer (some ⟨bd, 0, none⟩) ∧ Value.bool false = .bool false ∧ Value.int .i64 0 = .int .i64 0 ∧ (((((wm.setCell ⟨b, 0, none⟩ (.int .i64 1)).setCell ⟨b, 1, none⟩ (.int .i64 5)).setCell ⟨b, 2, none⟩ (.slice AsD 2 csD)).setCell ⟨b, 3, none⟩ (.slice ArD 1 crD)).setCell ⟨b, 4, none⟩ (.slice none 0 0)).heap[bd]? = some (.cells #[.int .i64 1, .int .i64 5, .slice As 2 cs, .slice Ar 1 cr, .slice none 0 0] 29 (0, 0)) ∧ Rd (((((wm.setCell ⟨b, 0, none⟩ (.int .i64 1)).setCell ⟨b, 1, none⟩ (.int .i64 5)).setCell ⟨b, 2, none⟩ (.slice AsD 2 csD)).setCell ⟨b, 3, none⟩ (.slice ArD 1 crD)).setCell ⟨b, 4, none⟩ (.slice none 0 0)) (((((wm.setCell ⟨b, 0, none⟩ (.int .i64 1)).setCell ⟨b, 1, none⟩ (.int .i64 5)).setCell ⟨b, 2, none⟩ (.slice AsD 2 csD)).setCell ⟨b, 3, none⟩ (.slice ArD 1 crD)).setCell ⟨b, 4, none⟩ (.slice none 0 0)).heap.size As [.int .i64 5, .int .i64 6] ∧ Rd (((((wm.setCell ⟨b, 0, none⟩ (.int .i64 1)).setCell ⟨b, 1, none⟩ (.int .i64 5)).setCell ⟨b, 2, none⟩ (.slice AsD 2 csD)).setCell ⟨b, 3, none⟩ (.slice ArD 1 crD)).setCell ⟨b, 4, none⟩ (.slice none 0 0)) (((((wm.setCell ⟨b, 0, none⟩ (.int .i64 1)).setCell ⟨b, 1, none⟩ (.int .i64 5)).setCell ⟨b, 2, none⟩ (.slice AsD 2 csD)).setCell ⟨b, 3, none⟩ (.slice ArD 1 crD)).setCell ⟨b, 4, none⟩ (.slice none 0 0)).heap.size Ar [.int .i64 1] ∧ Below YC.heap.size YC (((((wm.setCell ⟨b, 0, none⟩ (.int .i64 1)).setCell ⟨b, 1, none⟩ (.int .i64 5)).setCell ⟨b, 2, none⟩ (.slice AsD 2 csD)).setCell ⟨b, 3, none⟩ (.slice ArD 1 crD)).setCell ⟨b, 4, none⟩ (.slice none 0 0)) :=
  ⟨b, AsD, csD, ArD, crD, rfl, rfl, rfl, refusal_put wm b _ _ _ _ _ _ _ _ _ _ hq, rd_put5 hq h1 (by decide), rd_put5 hq h2 (by decide), below_refp5 hz hb⟩
theorem fin_late {wm YC : World} {AsD ArD : Option Addr} {csD crD : Nat} (h1 : Rd wm wm.heap.size AsD [.int .i64 5, .int .i64 6]) (h2 : Rd wm wm.heap.size ArD [.int .i64 1]) (hz : Below YC.heap.size YC wm) : ∃ (bd : Nat) (As : Option Addr) (cs : Nat) (Ar : Option Addr) (cr : Nat), (Value.pointer (some ⟨wm.heap.size, 0, none⟩)) = .pointer (some ⟨bd, 0, none⟩) ∧ Value.bool false = .bool false ∧ Value.int .i64 0 = .int .i64 0 ∧ (wm.alloc (.cells #[.int .i64 1, .int .i64 5, .slice AsD 2 csD, .slice ArD 1 crD, .slice none 0 0] 29)).heap[bd]? = some (.cells #[.int .i64 1, .int .i64 5, .slice As 2 cs, .slice Ar 1 cr, .slice none 0 0] 29 (0, 0)) ∧ Rd (wm.alloc (.cells #[.int .i64 1, .int .i64 5, .slice AsD 2 csD, .slice ArD 1 crD, .slice none 0 0] 29)) (wm.alloc (.cells #[.int .i64 1, .int .i64 5, .slice AsD 2 csD, .slice ArD 1 crD, .slice none 0 0] 29)).heap.size As [.int .i64 5, .int .i64 6] ∧ Rd (wm.alloc (.cells #[.int .i64 1, .int .i64 5, .slice AsD 2 csD, .slice ArD 1 crD, .slice none 0 0] 29)) (wm.alloc (.cells #[.int .i64 1, .int .i64 5, .slice AsD 2 csD, .slice ArD 1 crD, .slice none 0 0] 29)).heap.size Ar [.int .i64 1] ∧ Below YC.heap.size YC (wm.alloc (.cells #[.int .i64 1, .int .i64 5, .slice AsD 2 csD, .slice ArD 1 crD, .slice none 0 0] 29)) :=
  ⟨wm.heap.size, AsD, csD, ArD, crD, rfl, rfl, rfl, World.alloc_heap_new wm _, h1.to (alloc_b wm _) (alloc_b wm _).size, h2.to (alloc_b wm _) (alloc_b wm _).size, hz.alloc hz.size _⟩

end Go.Proofs.YtdhhcbkldfdbbaaGreat

/-
  innkeeperlaw19.head: the walk. Printed by gen_hallheadw.py.
-/
namespace Go.Proofs.YtdhhcbkldfdbbaaGreat
open Go.RowKit Go.Shelf Go.Sort
open Hall

attribute [local go_sem] Oper.semAt_some

theorem stay0_any (id : Int) (access : Bool) (w : World) :
    Calls Tryz.prog 51 #[.int .i64 id, .bool access, .int .i64 0] w fun e w' => e = .returned (.agg #[.int .i64 id, .int .i64 1, .int .i64 4, .int .i64 6, .int .i64 1, .int .i64 0, .int .i64 0, .bool access, .bool false]) ∧ Below w.heap.size w w' := stay19_any id 0 access w
theorem stay1_any (id : Int) (access : Bool) (w : World) :
    Calls Tryz.prog 51 #[.int .i64 id, .bool access, .int .i64 1] w fun e w' => e = .returned (.agg #[.int .i64 id, .int .i64 1, .int .i64 4, .int .i64 6, .int .i64 1, .int .i64 1, .int .i64 0, .bool access, .bool true]) ∧ Below w.heap.size w w' := stay19_any id 1 access w
theorem zbox1 {X wq : World} (hb : Below (X.alloc (.cells #[.int .i64 0, .int .i64 0, .slice none 0 0, .slice none 0 0, .slice none 0 0] 29)).heap.size (X.alloc (.cells #[.int .i64 0, .int .i64 0, .slice none 0 0, .slice none 0 0, .slice none 0 0] 29)) wq) : wq.heap[X.heap.size]? = some (.cells #[.int .i64 0, .int .i64 0, .slice none 0 0, .slice none 0 0, .slice none 0 0] 29 (0, 0)) :=
  (hb.block _ (by simp)).trans (World.alloc_heap_new _ _)
theorem zbox3 {X wq : World} {o : Obj} (hb : Below ((X.alloc (.cells #[.int .i64 0, .int .i64 0, .slice none 0 0, .slice none 0 0, .slice none 0 0] 29)).alloc o).heap.size ((X.alloc (.cells #[.int .i64 0, .int .i64 0, .slice none 0 0, .slice none 0 0, .slice none 0 0] 29)).alloc o) wq) : wq.heap[X.heap.size]? = some (.cells #[.int .i64 0, .int .i64 0, .slice none 0 0, .slice none 0 0, .slice none 0 0] 29 (0, 0)) :=
  (hb.block _ (by simp; omega)).trans (heap_old (World.alloc_heap_new _ _))
theorem zbox1d {X wq : World} (hb : Below (X.alloc (.cells #[.int .i64 0, .int .i64 0, .slice none 0 0, .slice none 0 0, .slice none 0 0] 29)).drew.heap.size (X.alloc (.cells #[.int .i64 0, .int .i64 0, .slice none 0 0, .slice none 0 0, .slice none 0 0] 29)).drew wq) : wq.heap[X.heap.size]? = some (.cells #[.int .i64 0, .int .i64 0, .slice none 0 0, .slice none 0 0, .slice none 0 0] 29 (0, 0)) :=
  (hb.block _ (show X.heap.size < (X.alloc _).heap.size by simp)).trans (World.alloc_heap_new X _)
theorem zname {W : World} {b : Nat} {o : Obj} (h : W.heap[b]? = some o) : ∃ b', b' = b ∧ W.heap[b']? = some o := ⟨b, rfl, h⟩
theorem zkeep {W wq : World} {b : Nat} {o : Obj} (hb : Below W.heap.size W wq) (h : W.heap[b]? = some o) : wq.heap[b]? = some o := (hb.block _ (Array.getElem?_eq_some_iff.1 h).1).trans h
theorem rd_lit2 (W : World) (o : Obj) (cs : Array Value) (t : TypeId) : Rd ((W.alloc o).alloc (.cells cs t)) ((W.alloc o).alloc (.cells cs t)).heap.size (some ⟨W.heap.size + 1, 0, none⟩) cs.toList := by
  have e : (W.alloc o).heap.size = W.heap.size + 1 := by simp
  generalize W.alloc o = X at *
  rw [← e]
  exact rd_lit X cs t
theorem below_al {W W' : World} {o : Obj} (h : Below W.heap.size W W') : Below W.heap.size W (W'.alloc o) := h.alloc h.size o

set_option maxRecDepth 100000 in
set_option maxHeartbeats 6000000 in
theorem head19_any (w : World) : Calls Tryz.prog 15 #[] w fun e w' => e = .returned (.bool true) ∧ Below w.heap.size w w' := by
  go_enter Tryz.func15, Tryz.ntmps15
  go_wp2_with fail
  refine (room19_any 3 true _).mono ?_
  rintro e w1 ⟨rfl, hb⟩
  have HB0 := Lib.hid hb
  clear hb
  go_wp2_with fail
  refine (room19_any 1 false _).mono ?_
  rintro e w2 ⟨rfl, hb⟩
  have HB1 := Lib.hid (HB0.out.tr hb)
  clear HB0
  clear hb
  go_wp2_with fail
  refine (room19_any 2 false _).mono ?_
  rintro e w3 ⟨rfl, hb⟩
  have HB2 := Lib.hid (HB1.out.tr hb)
  clear HB1
  clear hb
  go_wp2_with fail
  have hR := World.alloc_heap_new w3 (.cells #[.int .i64 3, .int .i64 1, .int .i64 1, .int .i64 0, .bool true, .slice none 0 0, .int .i64 1, .int .i64 1, .int .i64 1, .int .i64 0, .bool false, .slice none 0 0, .int .i64 2, .int .i64 1, .int .i64 1, .int .i64 0, .bool false, .slice none 0 0] 45)
  have hb := alloc_b w3 (.cells #[.int .i64 3, .int .i64 1, .int .i64 1, .int .i64 0, .bool true, .slice none 0 0, .int .i64 1, .int .i64 1, .int .i64 1, .int .i64 0, .bool false, .slice none 0 0, .int .i64 2, .int .i64 1, .int .i64 1, .int .i64 0, .bool false, .slice none 0 0] 45)
  generalize hW : World.alloc w3 _ = W3 at *
  have HB3 := Lib.hid (HB2.out.tr hb)
  clear HB2
  generalize hbr : w3.heap.size = br at *
  have HR := Lib.hid (show RH W3 br from hR)
  clear hR hb hW hbr
  refine (stay0_any 6 false _).mono ?_
  rintro e w11 ⟨rfl, hb⟩
  have HB4 := Lib.hid (HB3.out.tr hb)
  have HR4 := Lib.hid (HR.out.below hb)
  clear HB3 HR
  clear hb
  go_wp2_with fail
  refine (stay0_any 5 false _).mono ?_
  rintro e w12 ⟨rfl, hb⟩
  have HB5 := Lib.hid (HB4.out.tr hb)
  have HR5 := Lib.hid (HR4.out.below hb)
  clear HB4 HR4
  clear hb
  go_wp2_with fail
  have hS := World.alloc_heap_new w12 (.cells #[.int .i64 6, .int .i64 1, .int .i64 4, .int .i64 6, .int .i64 1, .int .i64 0, .int .i64 0, .bool false, .bool false, .int .i64 5, .int .i64 1, .int .i64 4, .int .i64 6, .int .i64 1, .int .i64 0, .int .i64 0, .bool false, .bool false] 36)
  have hb := alloc_b w12 (.cells #[.int .i64 6, .int .i64 1, .int .i64 4, .int .i64 6, .int .i64 1, .int .i64 0, .int .i64 0, .bool false, .bool false, .int .i64 5, .int .i64 1, .int .i64 4, .int .i64 6, .int .i64 1, .int .i64 0, .int .i64 0, .bool false, .bool false] 36)
  generalize hW : World.alloc w12 _ = V12 at *
  have HB6 := Lib.hid (HB5.out.tr hb)
  have HR6 := Lib.hid (HR5.out.below hb)
  clear HB5 HR5
  generalize hbs : w12.heap.size = bs at *
  refine (exA_match HR6.out (show SHA V12 bs from hS)).mono ?_
  rintro e XA ⟨⟨AA, cA, rfl, hrd⟩, hb2⟩
  clear hS hb hW hbs
  have HB7 := Lib.hid (HB6.out.tr hb2)
  have HR7 := Lib.hid (HR6.out.below hb2)
  clear HB6 HR6
  have HDA := Lib.hid hrd
  clear hrd hb2
  try clear bs
  go_wp2_with fail
  have hb := alloc_b XA (.cells #[.int .i64 0, .int .i64 0, .slice none 0 0, .slice none 0 0, .slice none 0 0] 29)
  generalize hW : World.alloc XA _ = YA at *
  have HB8 := Lib.hid (HB7.out.tr hb)
  have HR8 := Lib.hid (HR7.out.below hb)
  have HDA8 := Lib.hid (HDA.out.to hb (hb).size)
  clear HB7 HR7 HDA
  clear hb hW
  refine (stay0_any 6 false _).mono ?_
  rintro e w13 ⟨rfl, hb⟩
  have HB9 := Lib.hid (HB8.out.tr hb)
  have HR9 := Lib.hid (HR8.out.below hb)
  have HDA9 := Lib.hid (HDA8.out.to hb (hb).size)
  clear HB8 HR8 HDA8
  clear hb
  go_wp2_with fail
  refine (stay0_any 5 true _).mono ?_
  rintro e w14 ⟨rfl, hb⟩
  have HB10 := Lib.hid (HB9.out.tr hb)
  have HR10 := Lib.hid (HR9.out.below hb)
  have HDA10 := Lib.hid (HDA9.out.to hb (hb).size)
  clear HB9 HR9 HDA9
  clear hb
  go_wp2_with fail
  have hS := World.alloc_heap_new w14 (.cells #[.int .i64 6, .int .i64 1, .int .i64 4, .int .i64 6, .int .i64 1, .int .i64 0, .int .i64 0, .bool false, .bool false, .int .i64 5, .int .i64 1, .int .i64 4, .int .i64 6, .int .i64 1, .int .i64 0, .int .i64 0, .bool true, .bool false] 36)
  have hb := alloc_b w14 (.cells #[.int .i64 6, .int .i64 1, .int .i64 4, .int .i64 6, .int .i64 1, .int .i64 0, .int .i64 0, .bool false, .bool false, .int .i64 5, .int .i64 1, .int .i64 4, .int .i64 6, .int .i64 1, .int .i64 0, .int .i64 0, .bool true, .bool false] 36)
  generalize hW : World.alloc w14 _ = V14 at *
  have HB11 := Lib.hid (HB10.out.tr hb)
  have HR11 := Lib.hid (HR10.out.below hb)
  have HDA11 := Lib.hid (HDA10.out.to hb (hb).size)
  clear HB10 HR10 HDA10
  generalize hbs : w14.heap.size = bs at *
  refine (exB_match HR11.out (show SHB V14 bs from hS)).mono ?_
  rintro e XB ⟨⟨AB, cB, rfl, hrd⟩, hb2⟩
  clear hS hb hW hbs
  have HB12 := Lib.hid (HB11.out.tr hb2)
  have HR12 := Lib.hid (HR11.out.below hb2)
  have HDA12 := Lib.hid (HDA11.out.to hb2 (hb2).size)
  clear HB11 HR11 HDA11
  have HDB := Lib.hid hrd
  clear hrd hb2
  try clear bs
  go_wp2_with fail
  have hb := alloc_b XB (.cells #[.int .i64 0, .int .i64 0, .slice none 0 0, .slice none 0 0, .slice none 0 0] 29)
  generalize hW : World.alloc XB _ = YB at *
  have HB13 := Lib.hid (HB12.out.tr hb)
  have HR13 := Lib.hid (HR12.out.below hb)
  have HDA13 := Lib.hid (HDA12.out.to hb (hb).size)
  have HDB13 := Lib.hid (HDB.out.to hb (hb).size)
  clear HB12 HR12 HDA12 HDB
  clear hb hW
  refine (stay0_any 6 true _).mono ?_
  rintro e w15 ⟨rfl, hb⟩
  have HB14 := Lib.hid (HB13.out.tr hb)
  have HR14 := Lib.hid (HR13.out.below hb)
  have HDA14 := Lib.hid (HDA13.out.to hb (hb).size)
  have HDB14 := Lib.hid (HDB13.out.to hb (hb).size)
  clear HB13 HR13 HDA13 HDB13
  clear hb
  go_wp2_with fail
  refine (stay0_any 5 true _).mono ?_
  rintro e w16 ⟨rfl, hb⟩
  have HB15 := Lib.hid (HB14.out.tr hb)
  have HR15 := Lib.hid (HR14.out.below hb)
  have HDA15 := Lib.hid (HDA14.out.to hb (hb).size)
  have HDB15 := Lib.hid (HDB14.out.to hb (hb).size)
  clear HB14 HR14 HDA14 HDB14
  clear hb
  go_wp2_with fail
  refine (stay0_any 7 true _).mono ?_
  rintro e w17 ⟨rfl, hb⟩
  have HB16 := Lib.hid (HB15.out.tr hb)
  have HR16 := Lib.hid (HR15.out.below hb)
  have HDA16 := Lib.hid (HDA15.out.to hb (hb).size)
  have HDB16 := Lib.hid (HDB15.out.to hb (hb).size)
  clear HB15 HR15 HDA15 HDB15
  clear hb
  go_wp2_with fail
  have hS := World.alloc_heap_new w17 (.cells #[.int .i64 6, .int .i64 1, .int .i64 4, .int .i64 6, .int .i64 1, .int .i64 0, .int .i64 0, .bool true, .bool false, .int .i64 5, .int .i64 1, .int .i64 4, .int .i64 6, .int .i64 1, .int .i64 0, .int .i64 0, .bool true, .bool false, .int .i64 7, .int .i64 1, .int .i64 4, .int .i64 6, .int .i64 1, .int .i64 0, .int .i64 0, .bool true, .bool false] 36)
  have hb := alloc_b w17 (.cells #[.int .i64 6, .int .i64 1, .int .i64 4, .int .i64 6, .int .i64 1, .int .i64 0, .int .i64 0, .bool true, .bool false, .int .i64 5, .int .i64 1, .int .i64 4, .int .i64 6, .int .i64 1, .int .i64 0, .int .i64 0, .bool true, .bool false, .int .i64 7, .int .i64 1, .int .i64 4, .int .i64 6, .int .i64 1, .int .i64 0, .int .i64 0, .bool true, .bool false] 36)
  generalize hW : World.alloc w17 _ = V17 at *
  have HB17 := Lib.hid (HB16.out.tr hb)
  have HR17 := Lib.hid (HR16.out.below hb)
  have HDA17 := Lib.hid (HDA16.out.to hb (hb).size)
  have HDB17 := Lib.hid (HDB16.out.to hb (hb).size)
  clear HB16 HR16 HDA16 HDB16
  generalize hbl : w17.heap.size = bl at *
  have HC := Lib.hid (show SHC V17 bl from hS)
  clear hS hb hW hbl
  refine (exC_match HR17.out HC.out).mono ?_
  rintro e XC ⟨⟨AsC, csC, ArC, crC, rfl, hrd, hrd2⟩, hb2⟩
  have HB18 := Lib.hid (HB17.out.tr hb2)
  have HR18 := Lib.hid (HR17.out.below hb2)
  have HDA18 := Lib.hid (HDA17.out.to hb2 (hb2).size)
  have HDB18 := Lib.hid (HDB17.out.to hb2 (hb2).size)
  have HC18 := Lib.hid (HC.out.below hb2)
  clear HB17 HR17 HDA17 HDB17 HC
  have HDs := Lib.hid hrd
  have HDr := Lib.hid hrd2
  clear hrd hrd2 hb2
  go_upto_region 6 with fail
  have hX := World.alloc_heap_new XC (.cells #[.int .i64 1, .int .i64 4, .slice AsC 2 csC, .slice ArC 1 crC, .slice none 0 0] 29)
  have hb := alloc_b XC (.cells #[.int .i64 1, .int .i64 4, .slice AsC 2 csC, .slice ArC 1 crC, .slice none 0 0] 29)
  generalize hW : World.alloc XC _ = YC at *
  have HB19 := Lib.hid (HB18.out.tr hb)
  have HR19 := Lib.hid (HR18.out.below hb)
  have HDA19 := Lib.hid (HDA18.out.to hb (hb).size)
  have HDB19 := Lib.hid (HDB18.out.to hb (hb).size)
  have HC19 := Lib.hid (HC18.out.below hb)
  have HDs19 := Lib.hid (HDs.out.to hb (hb).size)
  have HDr19 := Lib.hid (HDr.out.to hb (hb).size)
  clear HB18 HR18 HDA18 HDB18 HC18 HDs HDr
  generalize hbc : XC.heap.size = bc at *
  have HX := Lib.hid hX
  clear hb hW hX hbc
  have HZ := Lib.hid (Below.refl YC.heap.size YC)
  have hsl : ∀ w, (Instr.sliceAt 22 (.slice (some ⟨br, 0, none⟩) 3 3) (some (.int .i64 1)) none none).run Tryz.prog w = .ok (.slice (some ⟨br, 6, none⟩) 2 2) w := fun w => run_cutAt (P := Tryz.prog) (t := 22) (s := 6) (by kernel_rfl) (fun w => by kernel_rfl) (some ⟨br, 0, none⟩) 3 3 1 (by omega) w
  go_cut [16, 17, 18] (fun a b c wx => ∃ (bd : Nat) (As : Option Addr) (cs : Nat) (Ar : Option Addr) (cr : Nat), a = .pointer (some ⟨bd, 0, none⟩) ∧ b = .bool false ∧ c = .int .i64 0 ∧ wx.heap[bd]? = some (.cells #[.int .i64 1, .int .i64 5, .slice As 2 cs, .slice Ar 1 cr, .slice none 0 0] 29 (0, 0)) ∧ Rd wx wx.heap.size As [.int .i64 5, .int .i64 6] ∧ Rd wx wx.heap.size Ar [.int .i64 1] ∧ Below YC.heap.size YC wx)
  case first =>
    clear HB19 HDA19 HDB19 HC19 HDs19 HDr19 HX
    go_region_held3 (fun w' => True) (first | trivial | go_keep) (first
        | (go_at_call 51; (first | (with_reducible refine (stay1_any _ _ _).mono ?_) | (with_reducible refine (stay0_any _ _ _).mono ?_)); rintro e wq ⟨rfl, hb⟩; (first | ((with_reducible have hq := zkeep hb HQ.out); clear HQ; have HQ := Lib.hid hq; clear hq) | ((with_reducible have hq := zkeep hb (heap_old HQ.out)); clear HQ; have HQ := Lib.hid hq; clear hq) | ((with_reducible have hq := zbox1 hb); (try simp only [World.size_alloc] at hq); obtain ⟨bb, hbb, hq⟩ := zname hq; (try rw [← hbb]); (have hbl : YC.heap.size ≤ bb := by (have hs := HZ.out.size; (try simp only [World.size_alloc] at hs hbb); (try simp only [World.size_drew] at hs hbb); omega)); clear hbb; have HQ := Lib.hid hq; clear hq) | ((with_reducible have hq := zbox1d hb); (try simp only [World.size_alloc] at hq); obtain ⟨bb, hbb, hq⟩ := zname hq; (try rw [← hbb]); (have hbl : YC.heap.size ≤ bb := by (have hs := HZ.out.size; (try simp only [World.size_alloc] at hs hbb); (try simp only [World.size_drew] at hs hbb); omega)); clear hbb; have HQ := Lib.hid hq; clear hq) | ((with_reducible have hq := zbox3 hb); (try simp only [World.size_alloc] at hq); obtain ⟨bb, hbb, hq⟩ := zname hq; (try rw [← hbb]); (have hbl : YC.heap.size ≤ bb := by (have hs := HZ.out.size; (try simp only [World.size_alloc] at hs hbb); (try simp only [World.size_drew] at hs hbb); omega)); clear hbb; have HQ := Lib.hid hq; clear hq) | skip); have hB : Below YC.heap.size YC wq := (by refine Below.tr ?_ hb; (repeat (first | exact HZ.out | refine Below.drew ?_ | refine below_al ?_))); clear HZ hb; have HZ := Lib.hid hB; clear hB)
        | (go_at_call 17; refine (exD_match (b := br) ?hR ?hS).mono ?_; (case hR => exact HR19.out.below (by (repeat (first | exact HZ.out | refine Below.drew ?_ | refine below_al ?_)))); (case hS => first | exact World.alloc_heap_new _ _ | exact heap_old (World.alloc_heap_new _ _) | exact heap_new (by simp)); rintro e wm ⟨⟨AsD, csD, ArD, crD, rfl, hrd, hrd2⟩, hb⟩; (first | ((with_reducible have hq := zkeep hb HQ.out); clear HQ; have HQ := Lib.hid hq; clear hq) | ((with_reducible have hq := zkeep hb (heap_old HQ.out)); clear HQ; have HQ := Lib.hid hq; clear hq) | ((with_reducible have hq := zbox1 hb); (try simp only [World.size_alloc] at hq); obtain ⟨bb, hbb, hq⟩ := zname hq; (try rw [← hbb]); (have hbl : YC.heap.size ≤ bb := by (have hs := HZ.out.size; (try simp only [World.size_alloc] at hs hbb); (try simp only [World.size_drew] at hs hbb); omega)); clear hbb; have HQ := Lib.hid hq; clear hq) | ((with_reducible have hq := zbox1d hb); (try simp only [World.size_alloc] at hq); obtain ⟨bb, hbb, hq⟩ := zname hq; (try rw [← hbb]); (have hbl : YC.heap.size ≤ bb := by (have hs := HZ.out.size; (try simp only [World.size_alloc] at hs hbb); (try simp only [World.size_drew] at hs hbb); omega)); clear hbb; have HQ := Lib.hid hq; clear hq) | ((with_reducible have hq := zbox3 hb); (try simp only [World.size_alloc] at hq); obtain ⟨bb, hbb, hq⟩ := zname hq; (try rw [← hbb]); (have hbl : YC.heap.size ≤ bb := by (have hs := HZ.out.size; (try simp only [World.size_alloc] at hs hbb); (try simp only [World.size_drew] at hs hbb); omega)); clear hbb; have HQ := Lib.hid hq; clear hq) | skip); (first | (have hq := HQ.out; have z0 : wm.cell? ⟨bb, 0, none⟩ = some (.int .i64 0) := cell_of hq 0; have z1 : wm.cell? ⟨bb, 1, none⟩ = some (.int .i64 0) := cell_of hq 1; have z2 : wm.cell? ⟨bb, 2, none⟩ = some (.slice none 0 0) := cell_of hq 2; have z3 : wm.cell? ⟨bb, 3, none⟩ = some (.slice none 0 0) := cell_of hq 3; have z4 : wm.cell? ⟨bb, 4, none⟩ = some (.slice none 0 0) := cell_of hq 4; have f0 := frozen_of_row wm bb 0 _ _ hq; have f1 := frozen_of_row wm bb 1 _ _ hq; have f2 := frozen_of_row wm bb 2 _ _ hq; have f3 := frozen_of_row wm bb 3 _ _ hq; have f4 := frozen_of_row wm bb 4 _ _ hq; clear hq) | skip); have hB : Below YC.heap.size YC wm := (by refine Below.tr ?_ hb; (repeat (first | exact HZ.out | refine Below.drew ?_ | refine below_al ?_))); clear HZ hb; have HZ := Lib.hid hB; have HDs' := Lib.hid hrd; have HDr' := Lib.hid hrd2; clear hB hrd hrd2))
    all_goals (go_wp2_with fail; go_meet; first | (with_reducible exact fin_early HQ.out HDs'.out HDr'.out HZ.out hbl) | (with_reducible exact fin_late HDs'.out HDr'.out HZ.out))
  obtain ⟨bd, AsD, csD, ArD, crD, rfl, rfl, rfl, hx, hrd, hrd2, hbt⟩ := hcut
  generalize wc = YD at *
  clear HZ hsl
  have HB20 := Lib.hid (HB19.out.tr hbt)
  have HR20 := Lib.hid (HR19.out.below hbt)
  have HDA20 := Lib.hid (HDA19.out.to hbt (hbt).size)
  have HDB20 := Lib.hid (HDB19.out.to hbt (hbt).size)
  have HC20 := Lib.hid (HC19.out.below hbt)
  have HDs20 := Lib.hid (HDs19.out.to hbt (hbt).size)
  have HDr20 := Lib.hid (HDr19.out.to hbt (hbt).size)
  have HX20 := Lib.hid (((hbt).block _ (Array.getElem?_eq_some_iff.1 HX.out).1).trans HX.out)
  clear HB19 HR19 HDA19 HDB19 HC19 HDs19 HDr19 HX
  have HXd := Lib.hid hx
  have HEs := Lib.hid hrd
  have HEr := Lib.hid hrd2
  clear hx hrd hrd2 hbt
  have x0 := cell_of HX20.out 0
  have x1 := cell_of HX20.out 1
  have x2 := cell_of HX20.out 2
  have x3 := cell_of HX20.out 3
  have x4 := cell_of HX20.out 4
  go_wp2_with fail
  refine (exC_shows HR20.out HC20.out HDs20.out HDr20.out 3 (by omega) 3 true exC_q3).mono ?_
  rintro e Z7 ⟨rfl, hb⟩
  clear x0 x1 x2 x3 x4
  have HB21 := Lib.hid (HB20.out.tr hb)
  have HR21 := Lib.hid (HR20.out.below hb)
  have HDA21 := Lib.hid (HDA20.out.to hb (hb).size)
  have HDB21 := Lib.hid (HDB20.out.to hb (hb).size)
  have HC21 := Lib.hid (HC20.out.below hb)
  have HDs21 := Lib.hid (HDs20.out.to hb (hb).size)
  have HDr21 := Lib.hid (HDr20.out.to hb (hb).size)
  have HX21 := Lib.hid (((hb).block _ (Array.getElem?_eq_some_iff.1 HX20.out).1).trans HX20.out)
  have HXd21 := Lib.hid (((hb).block _ (Array.getElem?_eq_some_iff.1 HXd.out).1).trans HXd.out)
  have HEs21 := Lib.hid (HEs.out.to hb (hb).size)
  have HEr21 := Lib.hid (HEr.out.to hb (hb).size)
  clear HB20 HR20 HDA20 HDB20 HC20 HDs20 HDr20 HX20 HXd HEs HEr
  clear hb
  have x0 : ∀ p : Kp Z7, p.x.cell? ⟨bc, 0, none⟩ = some (.int .i64 1) := kp_cell (Array.getElem?_eq_some_iff.1 HX21.out).1 (cell_of HX21.out 0)
  have x1 : ∀ p : Kp Z7, p.x.cell? ⟨bc, 1, none⟩ = some (.int .i64 4) := kp_cell (Array.getElem?_eq_some_iff.1 HX21.out).1 (cell_of HX21.out 1)
  have x2 : ∀ p : Kp Z7, p.x.cell? ⟨bc, 2, none⟩ = some (.slice AsC 2 csC) := kp_cell (Array.getElem?_eq_some_iff.1 HX21.out).1 (cell_of HX21.out 2)
  have x3 : ∀ p : Kp Z7, p.x.cell? ⟨bc, 3, none⟩ = some (.slice ArC 1 crC) := kp_cell (Array.getElem?_eq_some_iff.1 HX21.out).1 (cell_of HX21.out 3)
  have x4 : ∀ p : Kp Z7, p.x.cell? ⟨bc, 4, none⟩ = some (.slice none 0 0) := kp_cell (Array.getElem?_eq_some_iff.1 HX21.out).1 (cell_of HX21.out 4)
  have HSh := Lib.hid (fun (p : Kp Z7) => exC_shows (cs := csC) (cr := crC) (HR21.out.below p.h) (HC21.out.below p.h) (HDs21.out.to p.h p.h.size) (HDr21.out.to p.h p.h.size) 2 (by omega) 3 true exC_q2)
  go_wp2_with fail
  refine region_below (by kernel_rfl) (by kernel_rfl) ?_
  repeat (first | go_big_quiet_step ((go_at_call 18; exact kp_call _ (HSh.out _))) | quiet_step ((go_at_call 18; exact kp_call _ (HSh.out _))))
  refine wpQuiet_nil ?_
  rintro Z8 ⟨⟨X3, hb⟩, e2⟩
  have e3 : Z8 = X3 := e2
  subst e3
  clear e2 x0 x1 x2 x3 x4 HSh
  have HB22 := Lib.hid (HB21.out.tr hb)
  have HR22 := Lib.hid (HR21.out.below hb)
  have HDA22 := Lib.hid (HDA21.out.to hb (hb).size)
  have HDB22 := Lib.hid (HDB21.out.to hb (hb).size)
  have HC22 := Lib.hid (HC21.out.below hb)
  have HDs22 := Lib.hid (HDs21.out.to hb (hb).size)
  have HDr22 := Lib.hid (HDr21.out.to hb (hb).size)
  have HX22 := Lib.hid (((hb).block _ (Array.getElem?_eq_some_iff.1 HX21.out).1).trans HX21.out)
  have HXd22 := Lib.hid (((hb).block _ (Array.getElem?_eq_some_iff.1 HXd21.out).1).trans HXd21.out)
  have HEs22 := Lib.hid (HEs21.out.to hb (hb).size)
  have HEr22 := Lib.hid (HEr21.out.to hb (hb).size)
  clear HB21 HR21 HDA21 HDB21 HC21 HDs21 HDr21 HX21 HXd21 HEs21 HEr21
  clear hb
  have x0 : ∀ p : Kp Z8, p.x.cell? ⟨bc, 0, none⟩ = some (.int .i64 1) := kp_cell (Array.getElem?_eq_some_iff.1 HX22.out).1 (cell_of HX22.out 0)
  have x1 : ∀ p : Kp Z8, p.x.cell? ⟨bc, 1, none⟩ = some (.int .i64 4) := kp_cell (Array.getElem?_eq_some_iff.1 HX22.out).1 (cell_of HX22.out 1)
  have x2 : ∀ p : Kp Z8, p.x.cell? ⟨bc, 2, none⟩ = some (.slice AsC 2 csC) := kp_cell (Array.getElem?_eq_some_iff.1 HX22.out).1 (cell_of HX22.out 2)
  have x3 : ∀ p : Kp Z8, p.x.cell? ⟨bc, 3, none⟩ = some (.slice ArC 1 crC) := kp_cell (Array.getElem?_eq_some_iff.1 HX22.out).1 (cell_of HX22.out 3)
  have x4 : ∀ p : Kp Z8, p.x.cell? ⟨bc, 4, none⟩ = some (.slice none 0 0) := kp_cell (Array.getElem?_eq_some_iff.1 HX22.out).1 (cell_of HX22.out 4)
  have HSh := Lib.hid (fun (p : Kp Z8) => exC_shows (cs := csC) (cr := crC) (HR22.out.below p.h) (HC22.out.below p.h) (HDs22.out.to p.h p.h.size) (HDr22.out.to p.h p.h.size) 1 (by omega) 3 false exC_q1)
  go_wp2_with fail
  refine region_below (by kernel_rfl) (by kernel_rfl) ?_
  repeat (first | go_big_quiet_step ((go_at_call 18; exact kp_call _ (HSh.out _))) | quiet_step ((go_at_call 18; exact kp_call _ (HSh.out _))))
  refine wpQuiet_nil ?_
  rintro Z9 ⟨⟨X3, hb⟩, e2⟩
  have e3 : Z9 = X3 := e2
  subst e3
  clear e2 x0 x1 x2 x3 x4 HSh
  have HB23 := Lib.hid (HB22.out.tr hb)
  have HR23 := Lib.hid (HR22.out.below hb)
  have HDA23 := Lib.hid (HDA22.out.to hb (hb).size)
  have HDB23 := Lib.hid (HDB22.out.to hb (hb).size)
  have HC23 := Lib.hid (HC22.out.below hb)
  have HDs23 := Lib.hid (HDs22.out.to hb (hb).size)
  have HDr23 := Lib.hid (HDr22.out.to hb (hb).size)
  have HX23 := Lib.hid (((hb).block _ (Array.getElem?_eq_some_iff.1 HX22.out).1).trans HX22.out)
  have HXd23 := Lib.hid (((hb).block _ (Array.getElem?_eq_some_iff.1 HXd22.out).1).trans HXd22.out)
  have HEs23 := Lib.hid (HEs22.out.to hb (hb).size)
  have HEr23 := Lib.hid (HEr22.out.to hb (hb).size)
  clear HB22 HR22 HDA22 HDB22 HC22 HDs22 HDr22 HX22 HXd22 HEs22 HEr22
  clear hb
  go_wp2_with fail
  refine (exC_bad HR23.out HC23.out).mono ?_
  rintro e ZA ⟨rfl, hb⟩
  have HB24 := Lib.hid (HB23.out.tr hb)
  have HR24 := Lib.hid (HR23.out.below hb)
  have HDA24 := Lib.hid (HDA23.out.to hb (hb).size)
  have HDB24 := Lib.hid (HDB23.out.to hb (hb).size)
  have HC24 := Lib.hid (HC23.out.below hb)
  have HDs24 := Lib.hid (HDs23.out.to hb (hb).size)
  have HDr24 := Lib.hid (HDr23.out.to hb (hb).size)
  have HX24 := Lib.hid (((hb).block _ (Array.getElem?_eq_some_iff.1 HX23.out).1).trans HX23.out)
  have HXd24 := Lib.hid (((hb).block _ (Array.getElem?_eq_some_iff.1 HXd23.out).1).trans HXd23.out)
  have HEs24 := Lib.hid (HEs23.out.to hb (hb).size)
  have HEr24 := Lib.hid (HEr23.out.to hb (hb).size)
  clear HB23 HR23 HDA23 HDB23 HC23 HDs23 HDr23 HX23 HXd23 HEs23 HEr23
  clear hb
  go_upto_region 11 with fail
  have hb := alloc_b ZA (.cells #[.int .i64 0, .int .i64 0, .slice none 0 0, .slice none 0 0, .slice none 0 0] 29)
  generalize hW : World.alloc ZA _ = ZB at *
  have HB25 := Lib.hid (HB24.out.tr hb)
  have HR25 := Lib.hid (HR24.out.below hb)
  have HDA25 := Lib.hid (HDA24.out.to hb (hb).size)
  have HDB25 := Lib.hid (HDB24.out.to hb (hb).size)
  have HC25 := Lib.hid (HC24.out.below hb)
  have HDs25 := Lib.hid (HDs24.out.to hb (hb).size)
  have HDr25 := Lib.hid (HDr24.out.to hb (hb).size)
  have HX25 := Lib.hid (((hb).block _ (Array.getElem?_eq_some_iff.1 HX24.out).1).trans HX24.out)
  have HXd25 := Lib.hid (((hb).block _ (Array.getElem?_eq_some_iff.1 HXd24.out).1).trans HXd24.out)
  have HEs25 := Lib.hid (HEs24.out.to hb (hb).size)
  have HEr25 := Lib.hid (HEr24.out.to hb (hb).size)
  clear HB24 HR24 HDA24 HDB24 HC24 HDs24 HDr24 HX24 HXd24 HEs24 HEr24
  clear hb hW
  have HS1 := Lib.hid (fun (W : World) (h : Below ZB.heap.size ZB W) => show Calls Tryz.prog 19 #[.slice AA 2 cA, .slice (some ⟨W.heap.size, 0, none⟩) 2 2] (W.alloc (.cells #[.int .i64 1, .int .i64 2] 3)) (fun e w' => e = .returned (.bool true) ∧ Below (W.alloc (.cells #[.int .i64 1, .int .i64 2] 3)).heap.size (W.alloc (.cells #[.int .i64 1, .int .i64 2] 3)) w') from sameInts_any AA (some ⟨W.heap.size, 0, none⟩) 2 2 cA 2 [1, 2] [1, 2] _ (by omega) rfl rfl (HDA25.out.to (h.al _) (h.al _).size) (rd_lit W #[.int .i64 1, .int .i64 2] 3))
  have HS2 := Lib.hid (fun (W : World) (h : Below ZB.heap.size ZB W) => show Calls Tryz.prog 19 #[.slice AB 2 cB, .slice (some ⟨W.heap.size, 0, none⟩) 2 2] (W.alloc (.cells #[.int .i64 3, .int .i64 1] 3)) (fun e w' => e = .returned (.bool true) ∧ Below (W.alloc (.cells #[.int .i64 3, .int .i64 1] 3)).heap.size (W.alloc (.cells #[.int .i64 3, .int .i64 1] 3)) w') from sameInts_any AB (some ⟨W.heap.size, 0, none⟩) 2 2 cB 2 [3, 1] [3, 1] _ (by omega) rfl rfl (HDB25.out.to (h.al _) (h.al _).size) (rd_lit W #[.int .i64 3, .int .i64 1] 3))
  have HS3 := Lib.hid (fun (W : World) (h : Below ZB.heap.size ZB W) => show Calls Tryz.prog 52 #[(.agg #[.int .i64 1, .int .i64 4, .slice AsC 2 csC, .slice ArC 1 crC, .slice none 0 0]), (.agg #[.int .i64 1, .int .i64 4, .slice (some ⟨W.heap.size, 0, none⟩) 2 2, .slice (some ⟨W.heap.size + 1, 0, none⟩) 1 1, .slice none 0 0])] ((W.alloc (.cells #[.int .i64 5, .int .i64 6] 3)).alloc (.cells #[.int .i64 3] 3)) (fun e w' => e = .returned (.bool true) ∧ Below ((W.alloc (.cells #[.int .i64 5, .int .i64 6] 3)).alloc (.cells #[.int .i64 3] 3)).heap.size ((W.alloc (.cells #[.int .i64 5, .int .i64 6] 3)).alloc (.cells #[.int .i64 3] 3)) w') from same19_any ⟨1, 4, [5, 6], [3]⟩ ⟨1, 4, [5, 6], [3]⟩ AsC ArC none (some ⟨W.heap.size, 0, none⟩) (some ⟨W.heap.size + 1, 0, none⟩) none csC crC 0 0 2 1 0 0 _ (HDs25.out.to ((h.al _).al _) ((h.al _).al _).size) (HDr25.out.to ((h.al _).al _) ((h.al _).al _).size) ((rd_lit W #[.int .i64 5, .int .i64 6] 3).to (alloc_b _ _) (alloc_b _ _).size) (rd_lit2 W (.cells #[.int .i64 5, .int .i64 6] 3) #[.int .i64 3] 3) (by simp) (by simp))
  have HS4 := Lib.hid (fun (W : World) (h : Below ZB.heap.size ZB W) => show Calls Tryz.prog 52 #[(.agg #[.int .i64 1, .int .i64 5, .slice AsD 2 csD, .slice ArD 1 crD, .slice none 0 0]), (.agg #[.int .i64 1, .int .i64 5, .slice (some ⟨W.heap.size, 0, none⟩) 2 2, .slice (some ⟨W.heap.size + 1, 0, none⟩) 1 1, .slice none 0 0])] ((W.alloc (.cells #[.int .i64 5, .int .i64 6] 3)).alloc (.cells #[.int .i64 1] 3)) (fun e w' => e = .returned (.bool true) ∧ Below ((W.alloc (.cells #[.int .i64 5, .int .i64 6] 3)).alloc (.cells #[.int .i64 1] 3)).heap.size ((W.alloc (.cells #[.int .i64 5, .int .i64 6] 3)).alloc (.cells #[.int .i64 1] 3)) w') from same19_any ⟨1, 5, [5, 6], [1]⟩ ⟨1, 5, [5, 6], [1]⟩ AsD ArD none (some ⟨W.heap.size, 0, none⟩) (some ⟨W.heap.size + 1, 0, none⟩) none csD crD 0 0 2 1 0 0 _ (HEs25.out.to ((h.al _).al _) ((h.al _).al _).size) (HEr25.out.to ((h.al _).al _) ((h.al _).al _).size) ((rd_lit W #[.int .i64 5, .int .i64 6] 3).to (alloc_b _ _) (alloc_b _ _).size) (rd_lit2 W (.cells #[.int .i64 5, .int .i64 6] 3) #[.int .i64 1] 3) (by simp) (by simp))
  have HK := Lib.hid (Below.refl ZB.heap.size ZB)
  go_wp2_with fail
  refine (HS1.out _ HK.out).mono ?_
  rintro e Q1 ⟨rfl, hb⟩
  have HK1 := Lib.hid ((HK.out.al _).tr hb)
  clear hb HK
  go_wp2_with fail
  refine (HS2.out _ HK1.out).mono ?_
  rintro e Q2 ⟨rfl, hb⟩
  have HK2 := Lib.hid ((HK1.out.al _).tr hb)
  have hx := ((HK2.out).block _ (Array.getElem?_eq_some_iff.1 HX25.out).1).trans HX25.out
  have HX2 := Lib.hid hx
  have x0 := cell_of hx 0
  have x1 := cell_of hx 1
  have x2 := cell_of hx 2
  have x3 := cell_of hx 3
  have x4 := cell_of hx 4
  clear hb HK1 hx
  go_wp2_with fail
  refine (HS3.out _ HK2.out).mono ?_
  rintro e Q3 ⟨rfl, hb⟩
  have HK3 := Lib.hid (((HK2.out.al _).al _).tr hb)
  have hx := ((HK3.out).block _ (Array.getElem?_eq_some_iff.1 HXd25.out).1).trans HXd25.out
  clear x0 x1 x2 x3 x4
  have x0 := cell_of hx 0
  have x1 := cell_of hx 1
  have x2 := cell_of hx 2
  have x3 := cell_of hx 3
  have x4 := cell_of hx 4
  clear hb HK2 hx HX2
  go_wp2_with fail
  refine (HS4.out _ HK3.out).mono ?_
  rintro e Q4 ⟨rfl, hb⟩
  have HK4 := Lib.hid (((HK3.out.al _).al _).tr hb)
  clear hb HK3 x0 x1 x2 x3 x4
  go_wp2_with fail
  go_ret
  exact ⟨rfl, HB25.out.tr HK4.out⟩

end Go.Proofs.YtdhhcbkldfdbbaaGreat

/-
  Words of the laws of layer 19: what Match and Shows come to, once more. Printed by gen_halllaw.py.
-/
namespace Go.Proofs.YtdhhcbkldfdbbaaGreat
open Go.RowKit Go.Shelf Go.Sort
open Hall

attribute [local go_sem] Oper.semAt_some

/-- The examples are as they should be. -/
def HeadOk : Prop := ∀ w, Calls Tryz.prog 15 #[] w fun e w' => e = .returned (.bool true) ∧ Below w.heap.size w w'
def Okay (w : World) (e : Ending) (w' : World) : Prop := e = .returned (.bool true) ∧ Below w.heap.size w w'

theorem showsP_any (A1 A2 : Option Addr) (n1 n2 k1 k2 : Nat) (house : List RG) (all : List St) (r : Rf) (As Ar Ab : Option Addr) (cs cr nb cb : Nat) (w : World) (hn1 : n1 ≤ 9223372036854775807) (hn2 : n2 ≤ 9223372036854775807) (hM1 : Rms w w.heap.size A1 n1 house) (hM2 : Sts w w.heap.size A2 n2 all)
    (hs : Rd w w.heap.size As (r.stays.map (Value.int .i64))) (hr : Rd w w.heap.size Ar (r.rooms.map (Value.int .i64))) (hls : r.stays.length ≤ 100000) (hlr : r.rooms.length ≤ 100000) (hnb : nb ≤ 9223372036854775807) :
    Calls Tryz.prog 18 #[.slice A1 n1 k1, .slice A2 n2 k2, (.agg #[.int .i64 r.kind, .int .i64 r.night, .slice As r.stays.length cs, .slice Ar r.rooms.length cr, .slice Ab nb cb])] w (ShowRes house all r nb w) := by
  refine (shows_any A1 A2 n1 n2 k1 k2 house all r As Ar Ab cs cr nb cb w hn1 hn2 hM1 hM2 hs hr hls hlr hnb).mono ?_
  rintro e w' ⟨rfl, hb⟩
  refine ⟨hb, ?_⟩
  have hz : inB 0 0 365 = true := by decide
  unfold showsQ
  rw [hz, Bool.and_true]
  by_cases hc : (roomsB (house.map RG.rm) && staysB all) = true
  · rw [if_pos hc, if_pos hc]
    refine ⟨_, rfl, ?_⟩
    have hc' := hc
    rw [Bool.and_eq_true] at hc'
    obtain ⟨_, _, s3, _⟩ := staysB_iff.1 hc'.2
    by_cases hn : inB r.night 0 365 = true
    · rw [if_pos (by rw [hn, Bool.and_true]; exact hc)]
      rw [shows_iff (house := house.map RG.rm) (all := all) (r := r) (nightS_lt s3) (nb := nb)]
      exact ⟨fun ⟨h1, h2⟩ => ⟨h2, hn, h1⟩, fun ⟨h1, _, h3⟩ => ⟨h3, h1⟩⟩
    · rw [if_neg (by simp at hn; simp [hn])]
      exact ⟨fun h => (by cases h), fun ⟨_, h, _⟩ => absurd h hn⟩
  · rw [if_neg hc, if_neg hc]
theorem ShowRes.good {house : List RG} {all : List St} {r : Rf} {nb : Nat} {w w' : World} {e : Ending} (h : ShowRes house all r nb w e w') (hc : (roomsB (house.map RG.rm) && staysB all) = true) : ∃ b, e = .returned (.tuple #[.bool b, .int .i64 0]) ∧ (b = true ↔ (ShowsP (roomsS (house.map RG.rm)) (nightS all r.night) r ∧ inB r.night 0 365 = true ∧ nb = 0)) ∧ Below w.heap.size w w' := by
  obtain ⟨hb, h⟩ := h
  rw [if_pos hc] at h
  obtain ⟨b, h1, h2⟩ := h
  exact ⟨b, h1, h2, hb⟩
/-- What Match comes to, over what is usable. -/
theorem MatchRes.good {house : List RG} {all : List St} {when : Int} {w w' : World} {e : Ending} (h : MatchRes house all when w e w') (hc : (roomsB (house.map RG.rm) && (staysB all && inB when 0 365)) = true) :
    ((∃ A c at_, e = .returned (.tuple #[.slice A (List.length at_) c, .agg #[.int .i64 0, .int .i64 0, .slice none 0 0, .slice none 0 0, .slice none 0 0], .bool true, .int .i64 0]) ∧ AtIs (roomsS (house.map RG.rm)) (nightS all when) at_ ∧ Rd w' w'.heap.size A (at_.map (Value.int .i64))) ∨
     (∃ As cs Ar cr r, e = .returned (.tuple #[.slice none 0 0, .agg #[.int .i64 (Rf.kind r), .int .i64 r.night, .slice As r.stays.length cs, .slice Ar r.rooms.length cr, .slice none 0 0], .bool false, .int .i64 0]) ∧ RfIs (roomsS (house.map RG.rm)) (nightS all when) when r ∧ Rd w' w'.heap.size As (r.stays.map (Value.int .i64)) ∧ Rd w' w'.heap.size Ar (r.rooms.map (Value.int .i64)))) ∧ Below w.heap.size w w' := by
  obtain ⟨hb, h⟩ := h
  rw [if_pos hc] at h
  rcases h with ⟨A, n, c, at_, rfl, h1, rfl, h3⟩ | ⟨As, ns, cs, Ar, nr, cr, r', rfl, h1, rfl, rfl, h2, h3⟩
  · exact ⟨.inl ⟨A, c, at_, rfl, h1, h3⟩, hb⟩
  · exact ⟨.inr ⟨As, cs, Ar, cr, r', rfl, h1, h2, h3⟩, hb⟩
theorem Hall.RfIs.pos {R : List Rm} {S : List St} {when : Int} {r : Rf} (h : RfIs R S when r) : 0 < r.stays.length := by
  obtain ⟨f, Z, T, hs, rfl⟩ := h
  have := hs.size
  show 0 < (Z.map _).length
  rw [List.length_map]
  omega
/-- The number of stays and rooms that a refusal has. -/
theorem Hall.RfIs.le {R : List Rm} {S : List St} {when : Int} {r : Rf} (h : RfIs R S when r) : r.stays.length ≤ S.length ∧ r.rooms.length ≤ S.length := by
  obtain ⟨f, Z, T, hs, rfl⟩ := h
  have h1 : Z.length ≤ S.length := by
    have := hnodup_sub (a := Z) (b := List.range S.length) (hs.zs.imp fun e => by omega) fun z hz => List.mem_range.2 (hs.zlt z hz)
    rwa [List.length_range] at this
  have := hs.size
  exact ⟨by show (Z.map _).length ≤ _; rw [List.length_map]; exact h1, by show (T.map _).length ≤ _; rw [List.length_map]; omega⟩
theorem Hall.AtIs.le {R : List Rm} {S : List St} {a : List Int} (h : AtIs R S a) : a.length = S.length := by
  obtain ⟨ks, hs, rfl⟩ := h
  rw [List.length_map, hs.len]
theorem night_le (all : List St) (when : Int) : (nightS all when).length ≤ all.length := by
  unfold nightS
  rw [(sortBy_perm _).length_eq]
  exact List.length_filter_le _ _

end Go.Proofs.YtdhhcbkldfdbbaaGreat
