/-
  Part8: this text joins 13 texts; each says ahead of itself what it proves.
-/
import Derived.Deep.AppendLies
import Derived.Deep.RegionHeld3
import Derived.Deep.DeepCutAuto
import Derived.Outline
import Derived.Test.YtonnaiknlgmejaaGreatDoorPart7

/-
  (*life).do, about a stay. Printed by gen_lifed.py.
-/
namespace Go.Proofs.YtonnaiknlgmejaaGreatDoor
open Go.RowKit Go.Shelf

set_option maxRecDepth 100000 in
set_option maxHeartbeats 4000000 in
theorem do3_any {F : Nat → Prop} {P : Nat} {w : World} {L : Life} {vm vs vc : Value} {gs : List GM} (h : LifeAt F P w L vm vs vc gs) (d : Dd) (hd : d.ok) {n : Nat} (hS : L.Small n) (hn : n ≤ 100) (hk : d.k % 9 = 3) :
    Calls Tryz.prog 27 #[.pointer (some ⟨P, 0, none⟩), .agg #[.int .u8 d.k, .int .u8 d.a, .int .u8 d.b, .int .u8 d.c]] w fun e w' => e = .returned (.tuple #[]) ∧ Fr F w w' ∧ ∃ vm' vs' vc' gs', LifeAt F P w' (L.tick.act d) vm' vs' vc' gs' := by
  have hwa := w64_small d.a hd.2.1
  have hwb := w64_small d.b hd.2.2.1
  have hwc := w64_small d.c hd.2.2.2
  obtain ⟨ch, hche⟩ : ∃ x, x = d.a % 4 := ⟨_, rfl⟩
  obtain ⟨nt, hnte⟩ : ∃ x, x = d.b % 8 := ⟨_, rfl⟩
  obtain ⟨dr, hdre⟩ : ∃ x, x = d.a % 3 := ⟨_, rfl⟩
  obtain ⟨door, hdoe⟩ : ∃ x, x = doorOf d := ⟨_, rfl⟩
  obtain ⟨kk, hkke⟩ : ∃ x, x = d.k % 9 := ⟨_, rfl⟩
  have hta4 : (d.a : Int).tmod 4 = (ch : Int) := by rw [hche]; exact tmod_nat _ 4
  have hta3 : (d.a : Int).tmod 3 = (dr : Int) := by rw [hdre]; exact tmod_nat _ 3
  have htb8 : (d.b : Int).tmod 8 = (nt : Int) := by rw [hnte]; exact tmod_nat _ 8
  have htk : (d.k : Int).tmod 9 = (kk : Int) := by rw [hkke]; exact tmod_nat _ 9
  have hch : ch < 4 := by rw [hche]; exact Nat.mod_lt _ (by omega)
  have hdr : dr < 3 := by rw [hdre]; exact Nat.mod_lt _ (by omega)
  have hnt : nt < 8 := by rw [hnte]; exact Nat.mod_lt _ (by omega)
  have hdo : 1 + (dr : Int) = (door : Int) := by rw [hdoe, hdre]; unfold doorOf; omega
  have hdl : 1 ≤ door ∧ door ≤ 3 := by omega
  have hci : (ch : Int) < 4 := by omega
  have hni : (nt : Int) < 8 := by omega
  have hdi : (door : Int) < 4 := by omega
  have HAct := Lib.hid (show L.tick.act d = (if L.stays = [] then L.tick else L.tick.about d) from by
    unfold Life.act; rw [if_neg (show ¬ d.k % 9 = 0 by omega), if_neg (by omega), if_neg (by omega), if_neg (by omega), if_neg (by omega), if_neg (by omega)]; rfl)
  clear hche hnte hdre hdoe
  rw [hk] at hkke
  subst hkke
  have HS := Lib.hid hS
  have htm := hS.t0
  have htm1 := hS.t1
  have HFw := Lib.hid (fun q (hq : F q) => (h.hF q hq).1)
  have HW := Lib.hid (alloc_b w (.cells #[.int .u8 d.k, .int .u8 d.a, .int .u8 d.b, .int .u8 d.c] 49))
  have hX := World.alloc_heap_new w (.cells #[.int .u8 d.k, .int .u8 d.a, .int .u8 d.b, .int .u8 d.c] 49)
  have hzX : w.heap.size + 1 ≤ (w.alloc (.cells #[.int .u8 d.k, .int .u8 d.a, .int .u8 d.b, .int .u8 d.c] 49)).heap.size := by simp
  have HX := Lib.hid (h.more (G := fun q => F q ∨ q = w.heap.size) HW.out (fun q hq => hq.elim .inl (fun e => .inr ⟨by omega, by omega⟩)))
  clear h hS
  go_enter Tryz.func27, Tryz.ntmps27
  go_upto_region 1 with fail
  generalize hXe : w.alloc (.cells #[.int .u8 d.k, .int .u8 d.a, .int .u8 d.b, .int .u8 d.c] 49) = X at *
  have hPw : P ≠ w.heap.size := fun e => (HX.out.hF w.heap.size (.inr rfl)).2.p e.symm
  have z0 := HX.out.cell cells_time
  have f0 := HX.out.fr 0
  obtain ⟨hl1, hf1⟩ := HX.out.store (L' := L.tick) (set_time _) rfl rfl rfl HX.out.l1 HX.out.l2 HX.out.l3
  have hX1 := (hf1.f w.heap.size (.inr rfl)).trans hX
  have HL1 := Lib.hid hl1
  have HF1 := Lib.hid ((Fr.of_below HW.out HFw.out).tr (hf1.sub fun q hq => .inl hq))
  clear hl1 hf1 hX
  go_upto_region 2 with fail
  generalize hYe : X.setCell ⟨P, 0, none⟩ (.int .i64 (L.time + 1)) = Y at *
  clear hYe z0 f0 hzX HW hXe HX
  have x0 : Y.cell? ⟨w.heap.size, 0, none⟩ = some (.int .u8 d.k) := cell_of hX1 0
  have x1 : Y.cell? ⟨w.heap.size, 1, none⟩ = some (.int .u8 d.a) := cell_of hX1 1
  have x2 : Y.cell? ⟨w.heap.size, 2, none⟩ = some (.int .u8 d.b) := cell_of hX1 2
  go_region
  have hY1 : Y.drew.heap[w.heap.size]? = some (.cells #[.int .u8 d.k, .int .u8 d.a, .int .u8 d.b, .int .u8 d.c] 49 (0, 0)) := hX1
  have HL2 := Lib.hid HL1.out.drew
  have HF2 := Lib.hid (show Fr F w Y.drew from ⟨⟨HF1.out.b.os, HF1.out.b.tape, HF1.out.b.output, HF1.out.b.size, HF1.out.b.block⟩, HF1.out.f⟩)
  have hxz : w.heap.size < Y.drew.heap.size := (HL2.out.hF _ (.inr rfl)).1
  clear x0 x1 x2 HL1 HF1 hX1
  generalize Y.drew = Z at *
  have x0 : Z.cell? ⟨w.heap.size, 0, none⟩ = some (.int .u8 d.k) := cell_of hY1 0
  have x1 : Z.cell? ⟨w.heap.size, 1, none⟩ = some (.int .u8 d.a) := cell_of hY1 1
  have x2 : Z.cell? ⟨w.heap.size, 2, none⟩ = some (.int .u8 d.b) := cell_of hY1 2
  have x3 : Z.cell? ⟨w.heap.size, 3, none⟩ = some (.int .u8 d.c) := cell_of hY1 3
  have hml : L.msgs.length ≤ 100000 := by have := HS.out.m; omega
  have hsl : L.stays.length ≤ 1000 := by have := HS.out.st; omega
  obtain ⟨As, cs, hvs⟩ : ∃ A c, vs = .slice A L.stays.length c := HL2.out.stays_val
  subst hvs
  have z34 : Z.cell? ⟨P, 34, none⟩ = some (.slice As L.stays.length cs) := HL2.out.cell (cells_stays HL2.out.l1)
  by_cases hpos : 0 < L.stays.length
  · have HNe := Lib.hid (show L.stays ≠ [] from fun e => by rw [e] at hpos; simp at hpos)
    go_wp2_with (go_at_call 64; refine (about_any HL2.out d hd (by show 0 < L.stays.length; omega) hsl (by show L.msgs.length ≤ 900000; omega) (by show 0 ≤ L.time + 1 ∧ L.time + 1 ≤ 1000000; omega) (fun s hs => by have := HS.out.sa s hs; omega)).mono ?_; rintro e w7 ⟨rfl, hf7, vm7, gs7, hl7⟩; have HLf := Lib.hid hl7; have HFf := Lib.hid hf7; clear hl7 hf7)
    go_wp2_with fail
    go_end0
    exact ⟨rfl, HF2.out.tr (HFf.out.sub fun q hq => .inl hq), _, _, _, _, by rw [HAct.out, if_neg HNe.out]; exact HLf.out.sub fun q hq => .inl hq⟩
  · have HNe := Lib.hid (show L.stays = [] from List.length_eq_zero_iff.1 (by omega))
    go_wp2_with fail
    go_end0
    exact ⟨rfl, HF2.out, _, _, _, _, by rw [HAct.out, if_pos HNe.out]; exact HL2.out.sub fun q hq => .inl hq⟩

set_option maxRecDepth 100000 in
set_option maxHeartbeats 4000000 in
theorem do4_any {F : Nat → Prop} {P : Nat} {w : World} {L : Life} {vm vs vc : Value} {gs : List GM} (h : LifeAt F P w L vm vs vc gs) (d : Dd) (hd : d.ok) {n : Nat} (hS : L.Small n) (hn : n ≤ 100) (hk : d.k % 9 = 4) :
    Calls Tryz.prog 27 #[.pointer (some ⟨P, 0, none⟩), .agg #[.int .u8 d.k, .int .u8 d.a, .int .u8 d.b, .int .u8 d.c]] w fun e w' => e = .returned (.tuple #[]) ∧ Fr F w w' ∧ ∃ vm' vs' vc' gs', LifeAt F P w' (L.tick.act d) vm' vs' vc' gs' := by
  have hwa := w64_small d.a hd.2.1
  have hwb := w64_small d.b hd.2.2.1
  have hwc := w64_small d.c hd.2.2.2
  obtain ⟨ch, hche⟩ : ∃ x, x = d.a % 4 := ⟨_, rfl⟩
  obtain ⟨nt, hnte⟩ : ∃ x, x = d.b % 8 := ⟨_, rfl⟩
  obtain ⟨dr, hdre⟩ : ∃ x, x = d.a % 3 := ⟨_, rfl⟩
  obtain ⟨door, hdoe⟩ : ∃ x, x = doorOf d := ⟨_, rfl⟩
  obtain ⟨kk, hkke⟩ : ∃ x, x = d.k % 9 := ⟨_, rfl⟩
  have hta4 : (d.a : Int).tmod 4 = (ch : Int) := by rw [hche]; exact tmod_nat _ 4
  have hta3 : (d.a : Int).tmod 3 = (dr : Int) := by rw [hdre]; exact tmod_nat _ 3
  have htb8 : (d.b : Int).tmod 8 = (nt : Int) := by rw [hnte]; exact tmod_nat _ 8
  have htk : (d.k : Int).tmod 9 = (kk : Int) := by rw [hkke]; exact tmod_nat _ 9
  have hch : ch < 4 := by rw [hche]; exact Nat.mod_lt _ (by omega)
  have hdr : dr < 3 := by rw [hdre]; exact Nat.mod_lt _ (by omega)
  have hnt : nt < 8 := by rw [hnte]; exact Nat.mod_lt _ (by omega)
  have hdo : 1 + (dr : Int) = (door : Int) := by rw [hdoe, hdre]; unfold doorOf; omega
  have hdl : 1 ≤ door ∧ door ≤ 3 := by omega
  have hci : (ch : Int) < 4 := by omega
  have hni : (nt : Int) < 8 := by omega
  have hdi : (door : Int) < 4 := by omega
  have HAct := Lib.hid (show L.tick.act d = (if L.stays = [] then L.tick else L.tick.about d) from by
    unfold Life.act; rw [if_neg (show ¬ d.k % 9 = 0 by omega), if_neg (by omega), if_neg (by omega), if_neg (by omega), if_neg (by omega), if_neg (by omega)]; rfl)
  clear hche hnte hdre hdoe
  rw [hk] at hkke
  subst hkke
  have HS := Lib.hid hS
  have htm := hS.t0
  have htm1 := hS.t1
  have HFw := Lib.hid (fun q (hq : F q) => (h.hF q hq).1)
  have HW := Lib.hid (alloc_b w (.cells #[.int .u8 d.k, .int .u8 d.a, .int .u8 d.b, .int .u8 d.c] 49))
  have hX := World.alloc_heap_new w (.cells #[.int .u8 d.k, .int .u8 d.a, .int .u8 d.b, .int .u8 d.c] 49)
  have hzX : w.heap.size + 1 ≤ (w.alloc (.cells #[.int .u8 d.k, .int .u8 d.a, .int .u8 d.b, .int .u8 d.c] 49)).heap.size := by simp
  have HX := Lib.hid (h.more (G := fun q => F q ∨ q = w.heap.size) HW.out (fun q hq => hq.elim .inl (fun e => .inr ⟨by omega, by omega⟩)))
  clear h hS
  go_enter Tryz.func27, Tryz.ntmps27
  go_upto_region 1 with fail
  generalize hXe : w.alloc (.cells #[.int .u8 d.k, .int .u8 d.a, .int .u8 d.b, .int .u8 d.c] 49) = X at *
  have hPw : P ≠ w.heap.size := fun e => (HX.out.hF w.heap.size (.inr rfl)).2.p e.symm
  have z0 := HX.out.cell cells_time
  have f0 := HX.out.fr 0
  obtain ⟨hl1, hf1⟩ := HX.out.store (L' := L.tick) (set_time _) rfl rfl rfl HX.out.l1 HX.out.l2 HX.out.l3
  have hX1 := (hf1.f w.heap.size (.inr rfl)).trans hX
  have HL1 := Lib.hid hl1
  have HF1 := Lib.hid ((Fr.of_below HW.out HFw.out).tr (hf1.sub fun q hq => .inl hq))
  clear hl1 hf1 hX
  go_upto_region 2 with fail
  generalize hYe : X.setCell ⟨P, 0, none⟩ (.int .i64 (L.time + 1)) = Y at *
  clear hYe z0 f0 hzX HW hXe HX
  have x0 : Y.cell? ⟨w.heap.size, 0, none⟩ = some (.int .u8 d.k) := cell_of hX1 0
  have x1 : Y.cell? ⟨w.heap.size, 1, none⟩ = some (.int .u8 d.a) := cell_of hX1 1
  have x2 : Y.cell? ⟨w.heap.size, 2, none⟩ = some (.int .u8 d.b) := cell_of hX1 2
  go_region
  have hY1 : Y.drew.heap[w.heap.size]? = some (.cells #[.int .u8 d.k, .int .u8 d.a, .int .u8 d.b, .int .u8 d.c] 49 (0, 0)) := hX1
  have HL2 := Lib.hid HL1.out.drew
  have HF2 := Lib.hid (show Fr F w Y.drew from ⟨⟨HF1.out.b.os, HF1.out.b.tape, HF1.out.b.output, HF1.out.b.size, HF1.out.b.block⟩, HF1.out.f⟩)
  have hxz : w.heap.size < Y.drew.heap.size := (HL2.out.hF _ (.inr rfl)).1
  clear x0 x1 x2 HL1 HF1 hX1
  generalize Y.drew = Z at *
  have x0 : Z.cell? ⟨w.heap.size, 0, none⟩ = some (.int .u8 d.k) := cell_of hY1 0
  have x1 : Z.cell? ⟨w.heap.size, 1, none⟩ = some (.int .u8 d.a) := cell_of hY1 1
  have x2 : Z.cell? ⟨w.heap.size, 2, none⟩ = some (.int .u8 d.b) := cell_of hY1 2
  have x3 : Z.cell? ⟨w.heap.size, 3, none⟩ = some (.int .u8 d.c) := cell_of hY1 3
  have hml : L.msgs.length ≤ 100000 := by have := HS.out.m; omega
  have hsl : L.stays.length ≤ 1000 := by have := HS.out.st; omega
  obtain ⟨As, cs, hvs⟩ : ∃ A c, vs = .slice A L.stays.length c := HL2.out.stays_val
  subst hvs
  have z34 : Z.cell? ⟨P, 34, none⟩ = some (.slice As L.stays.length cs) := HL2.out.cell (cells_stays HL2.out.l1)
  by_cases hpos : 0 < L.stays.length
  · have HNe := Lib.hid (show L.stays ≠ [] from fun e => by rw [e] at hpos; simp at hpos)
    go_wp2_with (go_at_call 64; refine (about_any HL2.out d hd (by show 0 < L.stays.length; omega) hsl (by show L.msgs.length ≤ 900000; omega) (by show 0 ≤ L.time + 1 ∧ L.time + 1 ≤ 1000000; omega) (fun s hs => by have := HS.out.sa s hs; omega)).mono ?_; rintro e w7 ⟨rfl, hf7, vm7, gs7, hl7⟩; have HLf := Lib.hid hl7; have HFf := Lib.hid hf7; clear hl7 hf7)
    go_wp2_with fail
    go_end0
    exact ⟨rfl, HF2.out.tr (HFf.out.sub fun q hq => .inl hq), _, _, _, _, by rw [HAct.out, if_neg HNe.out]; exact HLf.out.sub fun q hq => .inl hq⟩
  · have HNe := Lib.hid (show L.stays = [] from List.length_eq_zero_iff.1 (by omega))
    go_wp2_with fail
    go_end0
    exact ⟨rfl, HF2.out, _, _, _, _, by rw [HAct.out, if_pos HNe.out]; exact HL2.out.sub fun q hq => .inl hq⟩

set_option maxRecDepth 100000 in
set_option maxHeartbeats 4000000 in
theorem do5_any {F : Nat → Prop} {P : Nat} {w : World} {L : Life} {vm vs vc : Value} {gs : List GM} (h : LifeAt F P w L vm vs vc gs) (d : Dd) (hd : d.ok) {n : Nat} (hS : L.Small n) (hn : n ≤ 100) (hk : d.k % 9 = 5) :
    Calls Tryz.prog 27 #[.pointer (some ⟨P, 0, none⟩), .agg #[.int .u8 d.k, .int .u8 d.a, .int .u8 d.b, .int .u8 d.c]] w fun e w' => e = .returned (.tuple #[]) ∧ Fr F w w' ∧ ∃ vm' vs' vc' gs', LifeAt F P w' (L.tick.act d) vm' vs' vc' gs' := by
  have hwa := w64_small d.a hd.2.1
  have hwb := w64_small d.b hd.2.2.1
  have hwc := w64_small d.c hd.2.2.2
  obtain ⟨ch, hche⟩ : ∃ x, x = d.a % 4 := ⟨_, rfl⟩
  obtain ⟨nt, hnte⟩ : ∃ x, x = d.b % 8 := ⟨_, rfl⟩
  obtain ⟨dr, hdre⟩ : ∃ x, x = d.a % 3 := ⟨_, rfl⟩
  obtain ⟨door, hdoe⟩ : ∃ x, x = doorOf d := ⟨_, rfl⟩
  obtain ⟨kk, hkke⟩ : ∃ x, x = d.k % 9 := ⟨_, rfl⟩
  have hta4 : (d.a : Int).tmod 4 = (ch : Int) := by rw [hche]; exact tmod_nat _ 4
  have hta3 : (d.a : Int).tmod 3 = (dr : Int) := by rw [hdre]; exact tmod_nat _ 3
  have htb8 : (d.b : Int).tmod 8 = (nt : Int) := by rw [hnte]; exact tmod_nat _ 8
  have htk : (d.k : Int).tmod 9 = (kk : Int) := by rw [hkke]; exact tmod_nat _ 9
  have hch : ch < 4 := by rw [hche]; exact Nat.mod_lt _ (by omega)
  have hdr : dr < 3 := by rw [hdre]; exact Nat.mod_lt _ (by omega)
  have hnt : nt < 8 := by rw [hnte]; exact Nat.mod_lt _ (by omega)
  have hdo : 1 + (dr : Int) = (door : Int) := by rw [hdoe, hdre]; unfold doorOf; omega
  have hdl : 1 ≤ door ∧ door ≤ 3 := by omega
  have hci : (ch : Int) < 4 := by omega
  have hni : (nt : Int) < 8 := by omega
  have hdi : (door : Int) < 4 := by omega
  have HAct := Lib.hid (show L.tick.act d = (if L.stays = [] then L.tick else L.tick.about d) from by
    unfold Life.act; rw [if_neg (show ¬ d.k % 9 = 0 by omega), if_neg (by omega), if_neg (by omega), if_neg (by omega), if_neg (by omega), if_neg (by omega)]; rfl)
  clear hche hnte hdre hdoe
  rw [hk] at hkke
  subst hkke
  have HS := Lib.hid hS
  have htm := hS.t0
  have htm1 := hS.t1
  have HFw := Lib.hid (fun q (hq : F q) => (h.hF q hq).1)
  have HW := Lib.hid (alloc_b w (.cells #[.int .u8 d.k, .int .u8 d.a, .int .u8 d.b, .int .u8 d.c] 49))
  have hX := World.alloc_heap_new w (.cells #[.int .u8 d.k, .int .u8 d.a, .int .u8 d.b, .int .u8 d.c] 49)
  have hzX : w.heap.size + 1 ≤ (w.alloc (.cells #[.int .u8 d.k, .int .u8 d.a, .int .u8 d.b, .int .u8 d.c] 49)).heap.size := by simp
  have HX := Lib.hid (h.more (G := fun q => F q ∨ q = w.heap.size) HW.out (fun q hq => hq.elim .inl (fun e => .inr ⟨by omega, by omega⟩)))
  clear h hS
  go_enter Tryz.func27, Tryz.ntmps27
  go_upto_region 1 with fail
  generalize hXe : w.alloc (.cells #[.int .u8 d.k, .int .u8 d.a, .int .u8 d.b, .int .u8 d.c] 49) = X at *
  have hPw : P ≠ w.heap.size := fun e => (HX.out.hF w.heap.size (.inr rfl)).2.p e.symm
  have z0 := HX.out.cell cells_time
  have f0 := HX.out.fr 0
  obtain ⟨hl1, hf1⟩ := HX.out.store (L' := L.tick) (set_time _) rfl rfl rfl HX.out.l1 HX.out.l2 HX.out.l3
  have hX1 := (hf1.f w.heap.size (.inr rfl)).trans hX
  have HL1 := Lib.hid hl1
  have HF1 := Lib.hid ((Fr.of_below HW.out HFw.out).tr (hf1.sub fun q hq => .inl hq))
  clear hl1 hf1 hX
  go_upto_region 2 with fail
  generalize hYe : X.setCell ⟨P, 0, none⟩ (.int .i64 (L.time + 1)) = Y at *
  clear hYe z0 f0 hzX HW hXe HX
  have x0 : Y.cell? ⟨w.heap.size, 0, none⟩ = some (.int .u8 d.k) := cell_of hX1 0
  have x1 : Y.cell? ⟨w.heap.size, 1, none⟩ = some (.int .u8 d.a) := cell_of hX1 1
  have x2 : Y.cell? ⟨w.heap.size, 2, none⟩ = some (.int .u8 d.b) := cell_of hX1 2
  go_region
  have hY1 : Y.drew.heap[w.heap.size]? = some (.cells #[.int .u8 d.k, .int .u8 d.a, .int .u8 d.b, .int .u8 d.c] 49 (0, 0)) := hX1
  have HL2 := Lib.hid HL1.out.drew
  have HF2 := Lib.hid (show Fr F w Y.drew from ⟨⟨HF1.out.b.os, HF1.out.b.tape, HF1.out.b.output, HF1.out.b.size, HF1.out.b.block⟩, HF1.out.f⟩)
  have hxz : w.heap.size < Y.drew.heap.size := (HL2.out.hF _ (.inr rfl)).1
  clear x0 x1 x2 HL1 HF1 hX1
  generalize Y.drew = Z at *
  have x0 : Z.cell? ⟨w.heap.size, 0, none⟩ = some (.int .u8 d.k) := cell_of hY1 0
  have x1 : Z.cell? ⟨w.heap.size, 1, none⟩ = some (.int .u8 d.a) := cell_of hY1 1
  have x2 : Z.cell? ⟨w.heap.size, 2, none⟩ = some (.int .u8 d.b) := cell_of hY1 2
  have x3 : Z.cell? ⟨w.heap.size, 3, none⟩ = some (.int .u8 d.c) := cell_of hY1 3
  have hml : L.msgs.length ≤ 100000 := by have := HS.out.m; omega
  have hsl : L.stays.length ≤ 1000 := by have := HS.out.st; omega
  obtain ⟨As, cs, hvs⟩ : ∃ A c, vs = .slice A L.stays.length c := HL2.out.stays_val
  subst hvs
  have z34 : Z.cell? ⟨P, 34, none⟩ = some (.slice As L.stays.length cs) := HL2.out.cell (cells_stays HL2.out.l1)
  by_cases hpos : 0 < L.stays.length
  · have HNe := Lib.hid (show L.stays ≠ [] from fun e => by rw [e] at hpos; simp at hpos)
    go_wp2_with (go_at_call 64; refine (about_any HL2.out d hd (by show 0 < L.stays.length; omega) hsl (by show L.msgs.length ≤ 900000; omega) (by show 0 ≤ L.time + 1 ∧ L.time + 1 ≤ 1000000; omega) (fun s hs => by have := HS.out.sa s hs; omega)).mono ?_; rintro e w7 ⟨rfl, hf7, vm7, gs7, hl7⟩; have HLf := Lib.hid hl7; have HFf := Lib.hid hf7; clear hl7 hf7)
    go_wp2_with fail
    go_end0
    exact ⟨rfl, HF2.out.tr (HFf.out.sub fun q hq => .inl hq), _, _, _, _, by rw [HAct.out, if_neg HNe.out]; exact HLf.out.sub fun q hq => .inl hq⟩
  · have HNe := Lib.hid (show L.stays = [] from List.length_eq_zero_iff.1 (by omega))
    go_wp2_with fail
    go_end0
    exact ⟨rfl, HF2.out, _, _, _, _, by rw [HAct.out, if_pos HNe.out]; exact HL2.out.sub fun q hq => .inl hq⟩


end Go.Proofs.YtonnaiknlgmejaaGreatDoor

/-
  (*life).do. Printed by gen_lifel.py.
-/
namespace Go.Proofs.YtonnaiknlgmejaaGreatDoor
open Go.RowKit Go.Shelf

theorem do_any {F : Nat → Prop} {P : Nat} {w : World} {L : Life} {vm vs vc : Value} {gs : List GM} (h : LifeAt F P w L vm vs vc gs) (d : Dd) (hd : d.ok) {n : Nat} (hS : L.Small n) (hn : n ≤ 100) :
    Calls Tryz.prog 27 #[.pointer (some ⟨P, 0, none⟩), .agg #[.int .u8 d.k, .int .u8 d.a, .int .u8 d.b, .int .u8 d.c]] w fun e w' => e = .returned (.tuple #[]) ∧ Fr F w w' ∧ ∃ vm' vs' vc' gs', LifeAt F P w' (L.do d) vm' vs' vc' gs' := by
  have hk : d.k % 9 < 9 := Nat.mod_lt _ (by omega)
  show Calls _ _ _ _ fun e w' => e = .returned (.tuple #[]) ∧ Fr F w w' ∧ ∃ vm' vs' vc' gs', LifeAt F P w' (L.tick.act d) vm' vs' vc' gs'
  rcases (show d.k % 9 = 0 ∨ d.k % 9 = 1 ∨ d.k % 9 = 2 ∨ d.k % 9 = 3 ∨ d.k % 9 = 4 ∨ d.k % 9 = 5 ∨ d.k % 9 = 6 ∨ d.k % 9 = 7 ∨ d.k % 9 = 8 by omega) with e | e | e | e | e | e | e | e | e
  · exact do0_any h d hd hS hn e
  · exact do1_any h d hd hS hn e
  · exact do2_any h d hd hS hn e
  · exact do3_any h d hd hS hn e
  · exact do4_any h d hd hS hn e
  · exact do5_any h d hd hS hn e
  · exact do6_any h d hd hS hn e
  · exact do7_any h d hd hS hn e
  · exact do8_any h d hd hS hn e

end Go.Proofs.YtonnaiknlgmejaaGreatDoor

/-
  A life that is led through deeds (lived). Printed by gen_lifel.py.
-/
namespace Go.Proofs.YtonnaiknlgmejaaGreatDoor
open Go.RowKit Go.Shelf

def Dd.cells (d : Dd) : List Value := [.int .u8 d.k, .int .u8 d.a, .int .u8 d.b, .int .u8 d.c]
/-- The slice (A, n) holds these deeds. -/
structure Deeds (w : World) (B : Nat) (A : Option Addr) (n : Nat) (ds : List Dd) : Prop where
  len : ds.length = n
  ok : ∀ d ∈ ds, d.ok
  rd : Rd w B A (ds.flatMap Dd.cells)
theorem Deeds.to {w w' : World} {B B' : Nat} {A : Option Addr} {n : Nat} {ds : List Dd} (h : Deeds w B A n ds) (hb : Below B w w') (hB : B ≤ B') : Deeds w' B' A n ds := ⟨h.len, h.ok, h.rd.to hb hB⟩
theorem flat4_at : ∀ (l : List Dd) (k : Nat) (hk : k < l.length) (j : Nat), j < 4 → (l.flatMap Dd.cells)[k * 4 + j]? = (l[k].cells)[j]?
  | x :: l, 0, _, j, hj => by
    rw [List.flatMap_cons, List.getElem?_append_left (by show 0 * 4 + j < 4; omega)]
    simp
  | x :: l, k + 1, hk, j, hj => by
    rw [List.flatMap_cons, List.getElem?_append_right (by show 4 ≤ (k + 1) * 4 + j; omega), show (x.cells).length = 4 from rfl, show (k + 1) * 4 + j - 4 = k * 4 + j by omega, flat4_at l k (by simpa using hk) j hj]
    rfl
theorem Deeds.at_ {w : World} {B : Nat} {A : Option Addr} {n : Nat} {ds : List Dd} (h : Deeds w B A n ds) (hn : 0 < n) : ∃ b o, A = some ⟨b, o, none⟩ ∧ b < B ∧ ∀ (k : Nat) (hk : k < ds.length) (j : Nat) (v : Value), (ds[k].cells)[j]? = some v → w.cell? ⟨b, o + (k * 4 + j), none⟩ = some v := by
  have hne : 0 < (ds.flatMap Dd.cells).length := by
    cases ds with
    | nil => have := h.len; simp at this; omega
    | cons d l => simp [Dd.cells]
  obtain ⟨b, o, hA, hb, hc⟩ := h.rd hne
  refine ⟨b, o, hA, hb, fun k hk j v hv => hc _ v ?_⟩
  have hj : j < 4 := (List.getElem?_eq_some_iff.1 hv).1
  rw [flat4_at ds k hk j hj]
  exact hv
theorem zero_cells : (#[.int .i64 0, .slice .none 0 0, .int .i64 0, .int .i64 0, .int .i64 0, .int .i64 0, .int .i64 0, .int .i64 0, .int .i64 0, .int .i64 0, .int .i64 0, .int .i64 0, .int .i64 0, .int .i64 0, .int .i64 0, .int .i64 0, .int .i64 0, .int .i64 0, .int .i64 0, .int .i64 0, .int .i64 0, .int .i64 0, .int .i64 0, .int .i64 0, .int .i64 0, .int .i64 0, .int .i64 0, .int .i64 0, .int .i64 0, .int .i64 0, .int .i64 0, .int .i64 0, .int .i64 0, .int .i64 0, .slice .none 0 0, .slice .none 0 0, .int .i64 0, .int .i64 0, .int .i64 0, .int .i64 0, .int .i64 0, .int .i64 0, .int .i64 0, .int .i64 0] : Array Value) = (lifeCells Life.none (.slice .none 0 0) (.slice .none 0 0) (.slice .none 0 0)).toArray := rfl
theorem life_new (w : World) : LifeAt (fun b => b < w.heap.size) w.heap.size (w.alloc (.cells #[.int .i64 0, .slice .none 0 0, .int .i64 0, .int .i64 0, .int .i64 0, .int .i64 0, .int .i64 0, .int .i64 0, .int .i64 0, .int .i64 0, .int .i64 0, .int .i64 0, .int .i64 0, .int .i64 0, .int .i64 0, .int .i64 0, .int .i64 0, .int .i64 0, .int .i64 0, .int .i64 0, .int .i64 0, .int .i64 0, .int .i64 0, .int .i64 0, .int .i64 0, .int .i64 0, .int .i64 0, .int .i64 0, .int .i64 0, .int .i64 0, .int .i64 0, .int .i64 0, .int .i64 0, .int .i64 0, .slice .none 0 0, .slice .none 0 0, .int .i64 0, .int .i64 0, .int .i64 0, .int .i64 0, .int .i64 0, .int .i64 0, .int .i64 0, .int .i64 0] 34)) Life.none (.slice .none 0 0) (.slice .none 0 0) (.slice .none 0 0) [] := by
  have hno : ∀ b : Nat, (Value.slice Option.none 0 0).ownBlock ≠ some b := fun b e => by cases e
  refine ⟨?_, World.ownsRow_nil _ _ _ _, World.ownsRow_nil _ _ _ _, World.ownsRow_nil _ _ _ _, hno _, hno _, hno _, fun q e => absurd e (hno q), fun q e => absurd e (hno q), fun q e => absurd e (hno q), rfl, (fun g hg => by cases hg), fun q hq => ⟨by rw [World.size_alloc]; exact Nat.lt_succ_of_lt hq, (fun e => Nat.lt_irrefl _ (e ▸ hq)), hno _, hno _, hno _⟩, rfl, rfl, rfl⟩
  rw [← zero_cells]
  exact World.alloc_heap_new w _

set_option maxRecDepth 100000 in
set_option maxHeartbeats 4000000 in
theorem lived_any (A : Option Addr) (n c : Nat) (ds : List Dd) (w : World) (hD : Deeds w w.heap.size A n ds) (hn : n ≤ 20) :
    Calls Tryz.prog 7 #[.slice A n c] w fun e w' => ∃ P vm vs vc gs, e = .returned (.pointer (some ⟨P, 0, .none⟩)) ∧ LifeAt (fun b => b < w.heap.size) P w' (livedL ds) vm vs vc gs ∧ Below w.heap.size w w' := by
  have HD := Lib.hid hD
  have HLn := Lib.hid hD.len
  clear hD
  go_enter Tryz.func7, Tryz.ntmps7
  go_wp2_with fail
  go_loopw [4] (fun i wr => ∃ j : Nat, j ≤ n ∧ i = .int .i64 j ∧ ∃ vm vs vc gs, LifeAt (fun b => b < w.heap.size) w.heap.size wr (livedL (ds.take j)) vm vs vc gs ∧ Fr (fun b => b < w.heap.size) w wr) (fun i _ => n - (intOf i).toNat)
  case atStart => exact ⟨0, Nat.zero_le _, rfl, _, _, _, _, life_new w, Fr.of_below (alloc_b w _) (fun q hq => hq)⟩
  case round =>
    obtain ⟨j, hj, rfl, vm, vs, vc, gs, hl, hf⟩ := hrel
    have HL := Lib.hid hl
    have HF := Lib.hid hf
    clear hl hf
    by_cases hlt : j < n
    · have hjl : j < ds.length := by rw [HLn.out]; exact hlt
      obtain ⟨b, o, rfl, hb, hcs⟩ := HD.out.at_ (by omega)
      have hS := (livedL_good (ds := ds.take j) (by rw [List.length_take]; omega) (fun d hd => HD.out.ok d (List.mem_of_mem_take hd))).2
      have HStep := Lib.hid (show livedL (ds.take (j + 1)) = (livedL (ds.take j)).do ds[j] from by unfold livedL; rw [List.take_succ_eq_append_getElem hjl, List.foldl_append]; rfl)
      have hdk := HD.out.ok _ (List.getElem_mem hjl)
      have h0 := hcs j hjl 0 _ rfl
      have h1 := hcs j hjl 1 _ rfl
      have h2 := hcs j hjl 2 _ rfl
      have h3 := hcs j hjl 3 _ rfl
      generalize ds[j] = d at *
      have c0 : wr.cell? ⟨b, o + j * 4, none⟩ = some (.int .u8 d.k) := (HF.out.cell (p := ⟨b, o + j * 4, none⟩) hb).trans h0
      have c1 : wr.cell? ⟨b, o + j * 4 + 1, none⟩ = some (.int .u8 d.a) := (HF.out.cell (p := ⟨b, o + j * 4 + 1, none⟩) hb).trans h1
      have c2 : wr.cell? ⟨b, o + j * 4 + 2, none⟩ = some (.int .u8 d.b) := (HF.out.cell (p := ⟨b, o + j * 4 + 2, none⟩) hb).trans h2
      have c3 : wr.cell? ⟨b, o + j * 4 + 3, none⟩ = some (.int .u8 d.c) := (HF.out.cell (p := ⟨b, o + j * 4 + 3, none⟩) hb).trans h3
      have HS := Lib.hid hS
      clear hcs h0 h1 h2 h3 hS
      go_wp2_with (go_at_call 27; refine (do_any HL.out d hdk HS.out (by omega)).mono ?_; rintro e w7 ⟨rfl, hf7, vm7, vs7, vc7, gs7, hl7⟩; have HLf := Lib.hid hl7; have HFf := Lib.hid hf7; clear hl7 hf7)
      go_wp2_with fail
      go_roundw
      case rel => exact ⟨j + 1, by omega, by go_num, vm7, vs7, vc7, gs7, by rw [HStep.out]; exact HLf.out, HF.out.tr HFf.out⟩
      case measure => simp [intOf]; omega
    · have HR := Lib.hid (show livedL (ds.take j) = livedL ds from by rw [List.take_of_length_le (by have := HLn.out; omega)])
      go_wp2_with fail
      go_ret
      exact ⟨_, _, _, _, _, rfl, by rw [← HR.out]; exact HL.out, HF.out.below (fun q hq => hq)⟩

end Go.Proofs.YtonnaiknlgmejaaGreatDoor

/-
  Deeds as an argument, opened to memory words. Printed by gen_opend.py.
-/
namespace Go.Proofs.YtonnaiknlgmejaaGreatDoor
open Go.ChangeShapes Go.WideShapes Go.ChangeAt Go.RowKit Go.Deep

section
variable {H : Type} {enc : TypeId × Value → H}
theorem cellsDeed : Tryz.prog.cellsOf 49 = 4 := by kernel_rfl
theorem ddO_one : oneCellFields Tryz.prog (Tryz.prog.fieldsOf 49) = true := by kernel_rfl
theorem ddO_struct : Tryz.prog.underlying 49 = some (.struct (Tryz.prog.fieldsOf 49)) := by kernel_rfl
theorem ddO_size : (Tryz.prog.fieldsOf 49).size = 4 := by kernel_rfl
theorem ddO_f0 : ((Tryz.prog.fieldsOf 49)[0]?).map (·.type) = some 5 := by kernel_rfl
theorem ddO_f1 : ((Tryz.prog.fieldsOf 49)[1]?).map (·.type) = some 5 := by kernel_rfl
theorem ddO_f2 : ((Tryz.prog.fieldsOf 49)[2]?).map (·.type) = some 5 := by kernel_rfl
theorem ddO_f3 : ((Tryz.prog.fieldsOf 49)[3]?).map (·.type) = some 5 := by kernel_rfl

theorem cells_u8 {w : World} {n : Nat} {v : Value} {y : DataW H × List MemPlace} (h : DataW.trod enc Tryz.prog w 0 (fun _ => true) true n 5 [v] = some y) : ∃ z : Nat, v = .int .u8 (z : Int) ∧ z < 256 := by
  obtain ⟨z, h1, _, h3⟩ := DataW.trod_int Tryz.underlying5 h
  have h4 := wf_u8 h3
  injection h1 with h1
  refine ⟨z.toNat, ?_, by omega⟩
  rw [h1, show ((z.toNat : Nat) : Int) = z from by omega]

/-- Deeds that are read as an argument. -/
theorem open_deeds {w : World} {fuel : Nat} {cs : List Value} {x : DataW H × List MemPlace} (h : DataW.trod enc Tryz.prog w 0 (fun _ => true) true fuel 22 cs = some x) :
    ∃ (A : Option Addr) (n c : Nat) (ds : List Dd), cs = [.slice A n c] ∧ n ≤ c ∧ c ≤ maxLen ∧ Deeds w w.heap.size A n ds := by
  rcases open_slice_fields Tryz.underlying22 ddO_struct ddO_one (by rw [ddO_size]; exact cellsDeed) h with h0 | ⟨a, len, cap, hcs, hl, hm, hi⟩
  · exact ⟨none, 0, 0, [], h0, by omega, by unfold maxLen; omega, ⟨rfl, (fun d hd => by cases hd), Rd.nil⟩⟩
  rw [ddO_size] at hi
  have hg : ∀ i, i < len → ∃ g : Dd, g.ok ∧ w.cell? (a.add (i * 4 + 0)) = some (.int .u8 (g.k : Nat)) ∧ w.cell? (a.add (i * 4 + 1)) = some (.int .u8 (g.a : Nat)) ∧ w.cell? (a.add (i * 4 + 2)) = some (.int .u8 (g.b : Nat)) ∧ w.cell? (a.add (i * 4 + 3)) = some (.int .u8 (g.c : Nat)) := fun i hil => by
    obtain ⟨n, hf⟩ := hi i hil
    obtain ⟨f0, e0, t0⟩ := field_of ddO_f0
    obtain ⟨f1, e1, t1⟩ := field_of ddO_f1
    obtain ⟨f2, e2, t2⟩ := field_of ddO_f2
    obtain ⟨f3, e3, t3⟩ := field_of ddO_f3
    obtain ⟨v0, y0, c0, r0⟩ := hf 0 f0 e0
    obtain ⟨v1, y1, c1, r1⟩ := hf 1 f1 e1
    obtain ⟨v2, y2, c2, r2⟩ := hf 2 f2 e2
    obtain ⟨v3, y3, c3, r3⟩ := hf 3 f3 e3
    rw [t0] at r0
    rw [t1] at r1
    rw [t2] at r2
    rw [t3] at r3
    obtain ⟨z0, rfl, b0⟩ := cells_u8 r0
    obtain ⟨z1, rfl, b1⟩ := cells_u8 r1
    obtain ⟨z2, rfl, b2⟩ := cells_u8 r2
    obtain ⟨z3, rfl, b3⟩ := cells_u8 r3
    exact ⟨⟨z0, z1, z2, z3⟩, ⟨b0, b1, b2, b3⟩, c0, c1, c2, c3⟩
  let G : Nat → Dd := fun i => if hil : i < len then (hg i hil).choose else ⟨0, 0, 0, 0⟩
  have hF : ∀ i (_ : i < len), (G i).ok ∧ w.cell? (a.add (i * 4 + 0)) = some (.int .u8 ((G i).k : Nat)) ∧ w.cell? (a.add (i * 4 + 1)) = some (.int .u8 ((G i).a : Nat)) ∧ w.cell? (a.add (i * 4 + 2)) = some (.int .u8 ((G i).b : Nat)) ∧ w.cell? (a.add (i * 4 + 3)) = some (.int .u8 ((G i).c : Nat)) := fun i hil => by
    have := (hg i hil).choose_spec
    simp only [G, hil, dif_pos]
    exact this
  have hlen : ∀ l : List Dd, (l.flatMap Dd.cells).length = l.length * 4 := fun l => by
    induction l with
    | nil => rfl
    | cons x l ih => rw [List.flatMap_cons, List.length_append, ih, List.length_cons]; show 4 + l.length * 4 = _; omega
  refine ⟨some a, len, cap, (List.range len).map G, hcs, hl, hm, ⟨by simp, fun d hd => ?_, fun hn => ?_⟩⟩
  · obtain ⟨i, hi', rfl⟩ := List.mem_map.1 hd
    exact (hF i (List.mem_range.1 hi')).1
  have hn' : 0 < len := by rw [hlen] at hn; simpa using hn
  have hs : a.spot = none := by have := World.cell?_spot (hF 0 hn').2.1; simpa [Addr.add] using this
  refine ⟨a.block, a.off, by cases a; simp at hs; simp [hs], ?_, fun j v hv => ?_⟩
  · have := World.block_lt_of_cell? w _ (hF 0 hn').2.1
    simpa [Addr.add] using this
  · have hj : j < len * 4 := by
      rcases Nat.lt_or_ge j (len * 4) with h1 | h1
      · exact h1
      · rw [List.getElem?_eq_none (by rw [hlen]; simpa using h1)] at hv; cases hv
    have e : j = j / 4 * 4 + j % 4 := by omega
    have hi' : j / 4 < ((List.range len).map G).length := by simp; omega
    rw [e, flat4_at _ (j / 4) hi' (j % 4) (by omega)] at hv
    have hil : j / 4 < len := by omega
    obtain ⟨_, k0, k1, k2, k3⟩ := hF (j / 4) hil
    have eg : ((List.range len).map G)[j / 4] = G (j / 4) := by simp
    rw [eg] at hv
    have e2 : a.off + j = a.off + (j / 4 * 4 + j % 4) := by omega
    rw [e2]
    have hr : j % 4 = 0 ∨ j % 4 = 1 ∨ j % 4 = 2 ∨ j % 4 = 3 := by omega
    rcases hr with h5 | h5 | h5 | h5 <;> rw [h5] at hv ⊢ <;> simp [Dd.cells] at hv <;> subst hv
    · exact addr_of_cell k0 (fun _ => trivial) hs
    · exact addr_of_cell k1 (fun _ => trivial) hs
    · exact addr_of_cell k2 (fun _ => trivial) hs
    · exact addr_of_cell k3 (fun _ => trivial) hs
set_option maxRecDepth 100000 in
/-- The argument itself. -/
theorem open_deeds_arg {w : World} {base : Nat} {v : Value} {d : DataW H} {ps : List MemPlace} (hval : Value.okWide Tryz.prog w .any base 22 v) (hd : DataW.Trod enc Tryz.prog w 0 (fun _ => true) true 22 v d ps) :
    ∃ (A : Option Addr) (n c : Nat) (ds : List Dd), v = .slice A n c ∧ n ≤ c ∧ c ≤ 9223372036854775807 ∧ Deeds w w.heap.size A n ds := by
  obtain ⟨a0, len, cap, rfl⟩ := okWide_slice Tryz.underlying22 hval
  obtain ⟨fuel, hf⟩ := hd
  obtain ⟨A, n, c, ds, h1, h2, h3, h4⟩ := open_deeds hf
  simp [Value.cells] at h1
  obtain ⟨rfl, rfl, rfl⟩ := h1
  exact ⟨_, _, _, ds, rfl, h2, by unfold maxLen at h3; omega, h4⟩
end
end Go.Proofs.YtonnaiknlgmejaaGreatDoor

/-
  A deed as an argument by value, opened to memory words. (The first two are OpenV's.)
-/
namespace Go.Proofs.YtonnaiknlgmejaaGreatDoor
open Go.ChangeShapes Go.WideShapes Go.ChangeAt Go.RowKit Go.Deep

section
variable {H : Type} {enc : TypeId × Value → H} {P : Program}

theorem open_agg_fields {w : World} {r : Reach} {b0 base : Nat} {spare : Nat → Bool} {held : Bool} {t : TypeId} {fs : Array Field} {v : Value} {d : DataW H} {p : List MemPlace} (hs : P.underlying t = some (.struct fs))
    (hone : oneCellFields P fs = true) (hC : P.cellsOf t = fs.size) (hv : Value.okWide P w r b0 t v) (h : DataW.Trod enc P w base spare held t v d p) :
    ∃ cs : Array Value, v = .agg cs ∧ cs.size = fs.size ∧ ∃ n, ∀ (j : Nat) (f : Field), fs[j]? = some f → ∃ (u : Value) (y : DataW H × List MemPlace), cs[j]? = some u ∧ DataW.trod enc P w base spare held n f.type [u] = some y := by
  obtain ⟨cs, rfl, hsz⟩ := okWide_struct hs hv
  obtain ⟨fuel, hf⟩ := h
  have hf2 : DataW.trod enc P w base spare held fuel t cs.toList = some (d, p) := by simpa [Value.cells] using hf
  obtain ⟨ys, n', hn', hy, hlen, hyl, hat⟩ := DataW.trod_struct hs hf2
  refine ⟨cs, rfl, hsz.trans hC, n', fun j f hj => ?_⟩
  obtain ⟨ho, hk⟩ := hone_of hone j f hj
  have hjl : j < fs.size := (Array.getElem?_eq_some_iff.1 hj).1
  have hjc : j < cs.toList.length := by simp; omega
  have h1 := hat j f hj
  rw [ho, hk] at h1
  have hone' : (cs.toList.drop j).take 1 = [cs.toList[j]] := by
    rw [List.drop_eq_getElem_cons hjc]
    rfl
  rw [hone'] at h1
  have hys : ys[j]? = some (ys[j]'(by omega)) := List.getElem?_eq_getElem (by omega)
  exact ⟨cs.toList[j], _, by rw [← Array.getElem?_toList, List.getElem?_eq_getElem hjc], h1.trans hys⟩
theorem arr_of {cs : Array Value} {l : List Value} (hn : cs.size = l.length) (h : ∀ j, j < l.length → cs[j]? = l[j]?) : cs = l.toArray := by
  apply Array.ext_getElem?
  intro i
  by_cases hi : i < l.length
  · rw [h i hi]; simp
  · rw [Array.getElem?_eq_none (by omega), List.getElem?_toArray, List.getElem?_eq_none (by omega)]
end
section
variable {H : Type} {enc : TypeId × Value → H}
set_option maxRecDepth 100000 in
theorem open_deed_arg {w : World} {base : Nat} {v : Value} {d : DataW H} {ps : List MemPlace} (hval : Value.okWide Tryz.prog w .any base 49 v) (hd : DataW.Trod enc Tryz.prog w 0 (fun _ => true) true 49 v d ps) :
    ∃ g : Dd, v = .agg #[.int .u8 g.k, .int .u8 g.a, .int .u8 g.b, .int .u8 g.c] ∧ g.ok := by
  obtain ⟨cs, rfl, hsz, n, hf⟩ := open_agg_fields ddO_struct ddO_one (by rw [ddO_size]; exact cellsDeed) hval hd
  rw [ddO_size] at hsz
  obtain ⟨f0, e0, t0⟩ := field_of ddO_f0
  obtain ⟨f1, e1, t1⟩ := field_of ddO_f1
  obtain ⟨f2, e2, t2⟩ := field_of ddO_f2
  obtain ⟨f3, e3, t3⟩ := field_of ddO_f3
  obtain ⟨v0, y0, c0, r0⟩ := hf 0 f0 e0
  obtain ⟨v1, y1, c1, r1⟩ := hf 1 f1 e1
  obtain ⟨v2, y2, c2, r2⟩ := hf 2 f2 e2
  obtain ⟨v3, y3, c3, r3⟩ := hf 3 f3 e3
  rw [t0] at r0
  rw [t1] at r1
  rw [t2] at r2
  rw [t3] at r3
  obtain ⟨z0, rfl, b0⟩ := cells_u8 r0
  obtain ⟨z1, rfl, b1⟩ := cells_u8 r1
  obtain ⟨z2, rfl, b2⟩ := cells_u8 r2
  obtain ⟨z3, rfl, b3⟩ := cells_u8 r3
  have hcs : cs = [.int .u8 (z0 : Int), .int .u8 (z1 : Int), .int .u8 (z2 : Int), .int .u8 (z3 : Int)].toArray := arr_of (by rw [hsz]; rfl) (fun j hj => by
    have hr : j = 0 ∨ j = 1 ∨ j = 2 ∨ j = 3 := by simp at hj; omega
    rcases hr with rfl | rfl | rfl | rfl
    · exact c0
    · exact c1
    · exact c2
    · exact c3)
  subst hcs
  exact ⟨⟨z0, z1, z2, z3⟩, rfl, b0, b1, b2, b3⟩
end
end Go.Proofs.YtonnaiknlgmejaaGreatDoor

/-
  Words that the laws' heads share: rows of messages and of verdicts that the head itself makes.
-/
namespace Go.Proofs.YtonnaiknlgmejaaGreatDoor
open Go.RowKit Go.Shelf Go.Sort

attribute [local go_sem] Oper.semAt_some

theorem msgs_row {w W : World} {gs : List GM} {cs : Array Value} (hb : Below w.heap.size w W) (ho : ∀ g ∈ gs, g.ok w w.heap.size) (hc : cs.toList = mcells gs) :
    Msgs (W.alloc (.cells cs 37)) (W.alloc (.cells cs 37)).heap.size (some ⟨W.heap.size, 0, none⟩) gs.length gs := by
  have hb' : Below w.heap.size w (W.alloc (.cells cs 37)) := hb.alloc hb.size _
  refine ⟨rfl, fun hn => ⟨W.heap.size, 0, rfl, by simp, fun j v hv => ?_⟩, fun g hg => (ho g hg).to hb' hb'.size⟩
  have h : (W.alloc (.cells cs 37)).heap[W.heap.size]? = some (.cells cs 37) := World.alloc_heap_new W _
  unfold World.cell?
  rw [h]
  rw [← hc] at hv
  simpa using hv

theorem ok_nil {w : World} {B : Nat} : ∀ g ∈ ([] : List GM), g.ok w B := fun g hg => by cases hg
theorem ok_cons {w : World} {B : Nat} {x : GM} {l : List GM} (h : x.ok w B) (t : ∀ g ∈ l, g.ok w B) : ∀ g ∈ x :: l, g.ok w B := fun g hg => (List.mem_cons.1 hg).elim (fun e => by rw [e]; exact h) (t g)
theorem add_zero (B j : Nat) : (⟨B, 0, none⟩ : Addr).add j = ⟨B, j, none⟩ := by unfold Addr.add; split <;> simp_all
/-- The cells of a row of messages. -/
theorem Msgs.olds {w : World} {B b n : Nat} {gs : List GM} (h : Msgs w B (some ⟨b, 0, none⟩) n gs) : ∀ ad, (some (⟨b, 0, none⟩ : Addr)) = some ad → ∀ j u, (mcells gs)[j]? = some u → w.cell? (ad.add j) = some u := fun ad e j u hu => by
  cases e
  rw [add_zero]
  have hpos : 0 < (mcells gs).length := by have := (List.getElem?_eq_some_iff.1 hu).1; omega
  obtain ⟨b', off, e, _, hc⟩ := h.rd hpos
  cases e
  have := hc j u hu
  rwa [Nat.zero_add] at this

/-- A row of the call's own, as messages. -/
theorem row_msgs {w : World} {base n : Nat} {v : Value} {cs : List Value} {gs : List GM} (h : w.ownsRow base 37 5 v n cs) (hc : cs = mcells gs) (hl : gs.length = n) (ho : ∀ g ∈ gs, g.ok w w.heap.size) : ∃ A c, v = .slice A n c ∧ Msgs w w.heap.size A n gs := by
  obtain ⟨A, c, e, _, _, hr⟩ := rd_of_own h (by decide)
  subst hc
  exact ⟨A, c, e, hl, hr, ho⟩
theorem add_row {w W : World} {A : Option Addr} {n : Nat} (c : Nat) {gs : List GM} {P : Int × List Msg × List GG} (hT : Tab w) (hb : Below w.heap.size w W) (hM : Msgs W W.heap.size A n gs) (hn : n ≤ 10000) (hP : addP [] [] (gs.map GM.msg) = P) :
    Calls Tryz.prog 8 #[.agg #[.slice none 0 0, .slice none 0 0], .slice A n c] W (StRes P W) := by
  subst hP
  exact add_any none none A 0 0 n 0 0 c [] gs [] W (hT.below hb) (by omega) (by omega) hn ⟨rfl, Rd.nil, fun g hg => by cases hg⟩ ⟨rfl, Rd.nil⟩ hM

theorem zero_ok (w : World) (B : Nat) : (⟨0, 0, 0, 0, none, 0, 0, []⟩ : GM).ok w B := ⟨Rd.nil, rfl, Nat.le_refl _, Nat.zero_le _, i64_of (by decide), i64_of (by decide), i64_of (by decide), i64_of (by decide), fun x hx => by cases hx⟩
theorem vds_row {W : World} {cs : Array Value} {l : List Vd} (hc : cs.toList = vcells l) :
    Vds (W.alloc (.cells cs 51)) (W.alloc (.cells cs 51)).heap.size (some ⟨W.heap.size, 0, none⟩) l.length l := by
  refine ⟨by simp, fun hn => ⟨W.heap.size, 0, rfl, by simp, fun j v hv => ?_⟩⟩
  have h : (W.alloc (.cells cs 51)).heap[W.heap.size]? = some (.cells cs 51) := World.alloc_heap_new W _
  unfold World.cell?
  rw [h]
  rw [← vcells_eq, ← hc] at hv
  simpa using hv

end Go.Proofs.YtonnaiknlgmejaaGreatDoor

/-
  law41's head: it returns true. NOT DONE: see NOTES.md.
-/
namespace Go.Proofs.YtonnaiknlgmejaaGreatDoor
open Go.RowKit Go.Shelf Go.Sort

attribute [local go_sem] Oper.semAt_some

set_option maxRecDepth 100000 in
set_option maxHeartbeats 4000000 in
theorem head_any (w : World) (hT : Tab w) : Calls Tryz.prog 6 #[] w fun e w' => e = .returned (.bool true) ∧ Below w.heap.size w w' := by
  have HT := Lib.hid hT
  clear hT
  go_enter Tryz.func6, Tryz.ntmps6
  go_wp2_with fail
  refine (message_any _ _ _ _ _ _ _ _).mono ?_
  rintro e w1 ⟨rfl, hb1⟩
  have H1 := Lib.hid (litG_new (args := [1, 5, 2]) rfl hb1 2001 1 1 3 (i64_of (by omega)) (i64_of (by omega)) (i64_of (by omega)) (i64_of (by omega)) (by simp) (fun x hx => i64_of (by simp at hx; omega)))
  have HB1 := Lib.hid ((alloc_b w _).tr hb1)
  clear hb1
  go_wp2_with fail
  refine (message_any _ _ _ _ _ _ _ _).mono ?_
  rintro e w2 ⟨rfl, hb2⟩
  have H2 := Lib.hid (litG_new (args := [1, 5, 0]) rfl hb2 2001 2 9 3 (i64_of (by omega)) (i64_of (by omega)) (i64_of (by omega)) (i64_of (by omega)) (by simp) (fun x hx => i64_of (by simp at hx; omega)))
  have HB2' := Lib.hid ((alloc_b w1 _).tr hb2)
  have HB2 := Lib.hid (HB1.out.tr HB2'.out)
  have H1 := Lib.hid (ok_on H1.out HB2'.out)
  clear hb2
  go_wp2_with fail
  have HH := Lib.hid (msgs_row (gs := [litG 2001 1 1 3 w.heap.size [1, 5, 2], litG 2001 2 9 3 w1.heap.size [1, 5, 0]]) (Below.refl w2.heap.size w2) (ok_cons H1.out (ok_cons H2.out ok_nil)) (cs := #[.int .i64 2001, .int .i64 1, .int .i64 1, .int .i64 3, .slice (some ⟨w.heap.size, 0, none⟩) 3 3, .int .i64 2001, .int .i64 2, .int .i64 9, .int .i64 3, .slice (some ⟨w1.heap.size, 0, none⟩) 3 3]) rfl)
  refine (saleMsg_any 1 2 _ (by omega) (by omega)).mono ?_
  rintro e w3 ⟨b3, rfl, hk3, hb3⟩
  have HB3 := Lib.hid (HB2.out.tr ((alloc_b w2 _).tr hb3))
  have HH3 := Lib.hid (HH.out.to hb3 hb3.size)
  have HS1 := Lib.hid hk3
  clear hb3 hk3
  go_wp2_with fail
  refine (saleMsg_any 2 3 _ (by omega) (by omega)).mono ?_
  rintro e w4 ⟨b4, rfl, hk4, hb4⟩
  have HB4 := Lib.hid (HB3.out.tr hb4)
  have HH4 := Lib.hid (HH3.out.to hb4 hb4.size)
  have HS1 := Lib.hid (ok_on HS1.out hb4)
  have HS2 := Lib.hid hk4
  clear hb4 hk4
  go_wp2_with fail
  refine (saleMsg_any 3 4 _ (by omega) (by omega)).mono ?_
  rintro e w5 ⟨b5, rfl, hk5, hb5⟩
  have HB5 := Lib.hid (HB4.out.tr hb5)
  have HH5 := Lib.hid (HH4.out.to hb5 hb5.size)
  have HS1 := Lib.hid (ok_on HS1.out hb5)
  have HS2 := Lib.hid (ok_on HS2.out hb5)
  have HS3 := Lib.hid hk5
  clear hb5 hk5
  have HN := Lib.hid (show ∀ j u, (mcells [litG 1001 1 2 1 b3 [1, 1, 5, 6, 1, 1, 100], litG 1001 2 3 1 b4 [2, 1, 5, 6, 1, 1, 100], litG 1001 3 4 1 b5 [3, 1, 5, 6, 1, 1, 100]])[j]? = some u → _ from World.news_of_block (w := w5.alloc (.cells #[.int .i64 1001, .int .i64 1, .int .i64 2, .int .i64 1, .slice (some ⟨b3, 0, none⟩) 7 7, .int .i64 1001, .int .i64 2, .int .i64 3, .int .i64 1, .slice (some ⟨b4, 0, none⟩) 7 7, .int .i64 1001, .int .i64 3, .int .i64 4, .int .i64 1, .slice (some ⟨b5, 0, none⟩) 7 7] 37)) (heap_alloc_new w5 _))
  have HO := Lib.hid (Msgs.olds (HH5.out.below (alloc_b w5 (.cells #[.int .i64 1001, .int .i64 1, .int .i64 2, .int .i64 1, .slice (some ⟨b3, 0, none⟩) 7 7, .int .i64 1001, .int .i64 2, .int .i64 3, .int .i64 1, .slice (some ⟨b4, 0, none⟩) 7 7, .int .i64 1001, .int .i64 3, .int .i64 4, .int .i64 1, .slice (some ⟨b5, 0, none⟩) 7 7] 37))))
  obtain ⟨i0, hi, hz0, hz1, hz2⟩ := info_parts info_msg
  go_wp2_with (at_builtin; refine wpList_append_grows _ rfl (.tmp 31) (.tmp 38) 27 rfl 37 i0 (.agg #[.int .i64 0, .int .i64 0, .int .i64 0, .int .i64 0, .slice none 0 0]) 5 56 Tryz.underlying27 hi hz0 hz1 hz2 rfl (by decide) (some ⟨w2.heap.size, 0, none⟩) 2 2 _ rfl (fun h => by cases h) rfl HO.out ⟨w5.heap.size, 0, none⟩ 3 3 _ rfl rfl HN.out (mcells_one _) (by omega) (by unfold maxLen; omega) (by omega) ?_; intro v6 w6 hown6 hgr6; have HO6 := Lib.hid hown6; have HG6 := Lib.hid hgr6; clear hown6 hgr6)
  have HB6' := Lib.hid (Below.grown (alloc_b w5 _) HG6.out (alloc_b w5 _).size (fun q e => by cases e))
  obtain ⟨A6, c6, rfl, hM6⟩ := row_msgs HO6.out (gs := [litG 2001 1 1 3 w.heap.size [1, 5, 2], litG 2001 2 9 3 w1.heap.size [1, 5, 0], litG 1001 1 2 1 b3 [1, 1, 5, 6, 1, 1, 100], litG 1001 2 3 1 b4 [2, 1, 5, 6, 1, 1, 100], litG 1001 3 4 1 b5 [3, 1, 5, 6, 1, 1, 100]]) rfl rfl
    (ok_cons (ok_on (HH5.out.ok _ (by simp)) HB6'.out) (ok_cons (ok_on (HH5.out.ok _ (by simp)) HB6'.out) (ok_cons (ok_on HS1.out HB6'.out) (ok_cons (ok_on HS2.out HB6'.out) (ok_cons (ok_on HS3.out HB6'.out) ok_nil)))))
  have HB6 := Lib.hid (HB5.out.tr HB6'.out)
  refine (add_row c6 HT.out HB6.out hM6 (by omega) addA).mono ?_
  rintro e w7 h7
  obtain ⟨Aa, ca, A2a, c2a, ga, hga, rfl, la1, la2, _, _, hMa, hGa, hb7⟩ := h7
  have HB7 := Lib.hid (HB6.out.tr hb7)
  have HH7 := Lib.hid (HH5.out.below (HB6'.out.tr hb7))
  have HGa := Lib.hid hga
  have HMa := Lib.hid hMa
  have HPa := Lib.hid hGa
  clear hb7 hga hMa hGa hM6 HO6 HG6 HN HO HS1 HS2 HS3
  go_wp2_with fail
  refine (saleMsg_any 1 2 _ (by omega) (by omega)).mono ?_
  rintro e w8 ⟨b8, rfl, hk8, hb8⟩
  have HX8 := Lib.hid ((hb8.block _ (by simp)).trans (World.alloc_heap_new w7 _))
  have HB78 := Lib.hid ((alloc_b w7 _).tr hb8)
  have HB8 := Lib.hid (HB7.out.tr HB78.out)
  have HH8 := Lib.hid (HH7.out.below HB78.out)
  have HMa := Lib.hid (HMa.out.below HB78.out)
  have HPa := Lib.hid (HPa.out.below HB78.out)
  have HS1 := Lib.hid hk8
  clear hb8 hk8
  go_wp2_with fail
  refine (saleMsg_any 2 3 _ (by omega) (by omega)).mono ?_
  rintro e w9 ⟨b9, rfl, hk9, hb9⟩
  have HX9 := Lib.hid ((hb9.block _ (Array.getElem?_eq_some_iff.1 HX8.out).1).trans HX8.out)
  have HB9 := Lib.hid (HB8.out.tr hb9)
  have HH9 := Lib.hid (HH8.out.below hb9)
  have HMa := Lib.hid (HMa.out.below hb9)
  have HPa := Lib.hid (HPa.out.below hb9)
  have HS1 := Lib.hid (ok_on HS1.out hb9)
  have HS2 := Lib.hid hk9
  clear hb9 hk9
  go_wp2_with fail
  refine (saleMsg_any 3 9 _ (by omega) (by omega)).mono ?_
  rintro e w10 ⟨b10, rfl, hk10, hb10⟩
  have HX10 := Lib.hid ((hb10.block _ (Array.getElem?_eq_some_iff.1 HX9.out).1).trans HX9.out)
  have HB10 := Lib.hid (HB9.out.tr hb10)
  have HH10 := Lib.hid (HH9.out.below hb10)
  have HMa := Lib.hid (HMa.out.below hb10)
  have HPa := Lib.hid (HPa.out.below hb10)
  have HS1 := Lib.hid (ok_on HS1.out hb10)
  have HS2 := Lib.hid (ok_on HS2.out hb10)
  have HS3 := Lib.hid hk10
  clear hb10 hk10
  have HN := Lib.hid (show ∀ j u, (mcells [litG 1001 1 2 1 b8 [1, 1, 5, 6, 1, 1, 100], litG 1001 2 3 1 b9 [2, 1, 5, 6, 1, 1, 100], litG 1001 3 9 1 b10 [3, 1, 5, 6, 1, 1, 100]])[j]? = some u → _ from World.news_of_block (w := w10.alloc (.cells #[.int .i64 1001, .int .i64 1, .int .i64 2, .int .i64 1, .slice (some ⟨b8, 0, none⟩) 7 7, .int .i64 1001, .int .i64 2, .int .i64 3, .int .i64 1, .slice (some ⟨b9, 0, none⟩) 7 7, .int .i64 1001, .int .i64 3, .int .i64 9, .int .i64 1, .slice (some ⟨b10, 0, none⟩) 7 7] 37)) (heap_alloc_new w10 _))
  have HO := Lib.hid (Msgs.olds (HH10.out.below (alloc_b w10 (.cells #[.int .i64 1001, .int .i64 1, .int .i64 2, .int .i64 1, .slice (some ⟨b8, 0, none⟩) 7 7, .int .i64 1001, .int .i64 2, .int .i64 3, .int .i64 1, .slice (some ⟨b9, 0, none⟩) 7 7, .int .i64 1001, .int .i64 3, .int .i64 9, .int .i64 1, .slice (some ⟨b10, 0, none⟩) 7 7] 37))))
  go_wp2_with (at_builtin; refine wpList_append_grows _ rfl (.tmp 45) (.tmp 52) 27 rfl 37 i0 (.agg #[.int .i64 0, .int .i64 0, .int .i64 0, .int .i64 0, .slice none 0 0]) 5 56 Tryz.underlying27 hi hz0 hz1 hz2 rfl (by decide) (some ⟨w2.heap.size, 0, none⟩) 2 2 _ rfl (fun h => by cases h) rfl HO.out ⟨w10.heap.size, 0, none⟩ 3 3 _ rfl rfl HN.out (mcells_one _) (by omega) (by unfold maxLen; omega) (by omega) ?_; intro v11 w11 hown11 hgr11; have HO11 := Lib.hid hown11; have HG11 := Lib.hid hgr11; clear hown11 hgr11)
  have HB11' := Lib.hid (Below.grown (alloc_b w10 _) HG11.out (alloc_b w10 _).size (fun q e => by cases e))
  obtain ⟨A11, c11, rfl, hM11⟩ := row_msgs HO11.out (gs := [litG 2001 1 1 3 w.heap.size [1, 5, 2], litG 2001 2 9 3 w1.heap.size [1, 5, 0], litG 1001 1 2 1 b8 [1, 1, 5, 6, 1, 1, 100], litG 1001 2 3 1 b9 [2, 1, 5, 6, 1, 1, 100], litG 1001 3 9 1 b10 [3, 1, 5, 6, 1, 1, 100]]) rfl rfl
    (ok_cons (ok_on (HH10.out.ok _ (by simp)) HB11'.out) (ok_cons (ok_on (HH10.out.ok _ (by simp)) HB11'.out) (ok_cons (ok_on HS1.out HB11'.out) (ok_cons (ok_on HS2.out HB11'.out) (ok_cons (ok_on HS3.out HB11'.out) ok_nil)))))
  have HB11 := Lib.hid (HB10.out.tr HB11'.out)
  refine (add_row c11 HT.out HB11.out hM11 (by omega) addB').mono ?_
  rintro e w12 h12
  obtain ⟨Ab, cb, A2b, c2b, gb, hgb, rfl, lb1, lb2, _, _, hMb, hGb, hb12⟩ := h12
  have HB12' := Lib.hid (HB11'.out.tr hb12)
  have HX12 := Lib.hid ((HB12'.out.block _ (Array.getElem?_eq_some_iff.1 HX10.out).1).trans HX10.out)
  have HB12 := Lib.hid (HB10.out.tr HB12'.out)
  have HMa := Lib.hid (HMa.out.below HB12'.out)
  have HPa := Lib.hid (HPa.out.below HB12'.out)
  have HGb := Lib.hid hgb
  have HMb := Lib.hid hMb
  have HPb := Lib.hid hGb
  clear hb12 hgb hMb hGb hM11 HO11 HG11 HN HO HS1 HS2 HS3
  have HXc := Lib.hid (((alloc_b w12 (.cells #[.slice Ab gb.length cb, .slice A2b 0 c2b] 40)).block _ (Array.getElem?_eq_some_iff.1 HX12.out).1).trans HX12.out)
  have x0 := cell_of HXc.out 0
  have x1 := cell_of HXc.out 1
  -- REST
  have HVA := Lib.hid (show validB ga [] = true from by rw [validB_eq, HGa.out]; decide +kernel)
  have HVB := Lib.hid (show validB gb [] = true from by rw [validB_eq, HGb.out]; decide +kernel)
  have HSa := Lib.hid (fun (W : World) (h : Below w.heap.size w W) (h2 : Below w12.heap.size w12 W) => by have := sales_any Aa A2a ga.length 0 ca c2a ga [] W (by omega) (by omega) (HT.out.below h) (HMa.out.below h2) (HPa.out.below h2); rewrite [HVA.out, HGa.out] at this; exact this)
  have HSb := Lib.hid (fun (W : World) (h : Below w.heap.size w W) (h2 : Below w12.heap.size w12 W) => by have := sales_any Ab A2b gb.length 0 cb c2b gb [] W (by omega) (by omega) (HT.out.below h) (HMb.out.below h2) (HPb.out.below h2); rewrite [HVB.out, HGb.out] at this; exact this)
  go_wp2_with fail
  refine (HSa.out _ (HB12.out.tr (alloc_b w12 _)) (alloc_b w12 _)).mono ?_
  rintro e w13 ⟨hb13, Ax, cx, kx, rfl, vx, dx⟩
  obtain rfl : kx = [⟨1001, 1, 5⟩] := vx.same salesA (fun _ => Iff.rfl)
  have HX13 := Lib.hid ((hb13.block w12.heap.size (by simp)).trans (World.alloc_heap_new w12 _))
  have HD13 := Lib.hid ((alloc_b w12 _).tr hb13)
  have HB13 := Lib.hid (HB12.out.tr HD13.out)
  have HDx := Lib.hid dx
  have y0 := cell_of HX13.out 0
  have y1 := cell_of HX13.out 1
  clear hb13 vx dx x0 x1
  go_wp2_with fail
  refine (HSb.out _ HB13.out HD13.out).mono ?_
  rintro e w14 ⟨hb14, Ay, cy, ky, rfl, vy, dy⟩
  obtain rfl : ky = [] := vy.same salesB' (fun _ => Iff.rfl)
  have HB14 := Lib.hid (HB13.out.tr hb14)
  have HDx := Lib.hid (HDx.out.below hb14)
  clear hb14 vy dy y0 y1 HSa HSb HVA HVB HMa HMb HPa HPb HD13
  go_wp2_with fail
  refine (message_any _ _ _ _ _ _ _ _).mono ?_
  rintro e w15 ⟨rfl, hb15⟩
  have HG15 := Lib.hid (litG_new (args := [7, 3, 1, 4]) rfl hb15 2001 1 1 5 (i64_of (by omega)) (i64_of (by omega)) (i64_of (by omega)) (i64_of (by omega)) (by simp) (fun x hx => i64_of (by simp at hx; omega)))
  have HR15 := Lib.hid ((alloc_b w14 _).tr hb15)
  have HB15 := Lib.hid (HB14.out.tr HR15.out)
  have HDx := Lib.hid (HDx.out.below HR15.out)
  clear hb15
  go_wp2_with fail
  refine (message_any _ _ _ _ _ _ _ _).mono ?_
  rintro e w16 ⟨rfl, hb16⟩
  have HG16 := Lib.hid (litG_new (args := [8, 3, 3, 5]) rfl hb16 2001 2 1 5 (i64_of (by omega)) (i64_of (by omega)) (i64_of (by omega)) (i64_of (by omega)) (by simp) (fun x hx => i64_of (by simp at hx; omega)))
  have HR16 := Lib.hid ((alloc_b w15 _).tr hb16)
  have HB16 := Lib.hid (HB15.out.tr HR16.out)
  have HDx := Lib.hid (HDx.out.below HR16.out)
  have HG15 := Lib.hid (ok_on HG15.out HR16.out)
  clear hb16
  go_wp2_with fail
  refine (message_any _ _ _ _ _ _ _ _).mono ?_
  rintro e w17 ⟨rfl, hb17⟩
  have HG17 := Lib.hid (litG_new (args := [7, 2, 100]) rfl hb17 2001 3 1 6 (i64_of (by omega)) (i64_of (by omega)) (i64_of (by omega)) (i64_of (by omega)) (by simp) (fun x hx => i64_of (by simp at hx; omega)))
  have HR17 := Lib.hid ((alloc_b w16 _).tr hb17)
  have HB17 := Lib.hid (HB16.out.tr HR17.out)
  have HDx := Lib.hid (HDx.out.below HR17.out)
  have HG15 := Lib.hid (ok_on HG15.out HR17.out)
  have HG16 := Lib.hid (ok_on HG16.out HR17.out)
  clear hb17
  go_wp2_with fail
  refine (message_any _ _ _ _ _ _ _ _).mono ?_
  rintro e w18 ⟨rfl, hb18⟩
  have HG18 := Lib.hid (litG_new (args := [7, 500, 50]) rfl hb18 2001 4 1 4 (i64_of (by omega)) (i64_of (by omega)) (i64_of (by omega)) (i64_of (by omega)) (by simp) (fun x hx => i64_of (by simp at hx; omega)))
  have HR18 := Lib.hid ((alloc_b w17 _).tr hb18)
  have HB18 := Lib.hid (HB17.out.tr HR18.out)
  have HDx := Lib.hid (HDx.out.below HR18.out)
  have HG15 := Lib.hid (ok_on HG15.out HR18.out)
  have HG16 := Lib.hid (ok_on HG16.out HR18.out)
  have HG17 := Lib.hid (ok_on HG17.out HR18.out)
  clear hb18
  go_wp2_with fail
  refine (message_any _ _ _ _ _ _ _ _).mono ?_
  rintro e w19 ⟨rfl, hb19⟩
  have HG19 := Lib.hid (litG_new (args := [7, 51]) rfl hb19 2001 5 1 7 (i64_of (by omega)) (i64_of (by omega)) (i64_of (by omega)) (i64_of (by omega)) (by simp) (fun x hx => i64_of (by simp at hx; omega)))
  have HR19 := Lib.hid ((alloc_b w18 _).tr hb19)
  have HB19 := Lib.hid (HB18.out.tr HR19.out)
  have HDx := Lib.hid (HDx.out.below HR19.out)
  have HG15 := Lib.hid (ok_on HG15.out HR19.out)
  have HG16 := Lib.hid (ok_on HG16.out HR19.out)
  have HG17 := Lib.hid (ok_on HG17.out HR19.out)
  have HG18 := Lib.hid (ok_on HG18.out HR19.out)
  clear hb19
  go_wp2_with fail
  refine (message_any _ _ _ _ _ _ _ _).mono ?_
  rintro e w20 ⟨rfl, hb20⟩
  have HG20 := Lib.hid (litG_new (args := [9, 4, 2, 10, 20, 7]) rfl hb20 2001 6 1 8 (i64_of (by omega)) (i64_of (by omega)) (i64_of (by omega)) (i64_of (by omega)) (by simp) (fun x hx => i64_of (by simp at hx; omega)))
  have HR20 := Lib.hid ((alloc_b w19 _).tr hb20)
  have HB20 := Lib.hid (HB19.out.tr HR20.out)
  have HDx := Lib.hid (HDx.out.below HR20.out)
  have HG15 := Lib.hid (ok_on HG15.out HR20.out)
  have HG16 := Lib.hid (ok_on HG16.out HR20.out)
  have HG17 := Lib.hid (ok_on HG17.out HR20.out)
  have HG18 := Lib.hid (ok_on HG18.out HR20.out)
  have HG19 := Lib.hid (ok_on HG19.out HR20.out)
  clear hb20
  have HBm := Lib.hid (alloc_b w20 (.cells #[.int .i64 2001, .int .i64 1, .int .i64 1, .int .i64 5, .slice (some ⟨w14.heap.size, 0, none⟩) 4 4, .int .i64 2001, .int .i64 2, .int .i64 1, .int .i64 5, .slice (some ⟨w15.heap.size, 0, none⟩) 4 4, .int .i64 2001, .int .i64 3, .int .i64 1, .int .i64 6, .slice (some ⟨w16.heap.size, 0, none⟩) 3 3, .int .i64 2001, .int .i64 4, .int .i64 1, .int .i64 4, .slice (some ⟨w17.heap.size, 0, none⟩) 3 3, .int .i64 2001, .int .i64 5, .int .i64 1, .int .i64 7, .slice (some ⟨w18.heap.size, 0, none⟩) 2 2, .int .i64 2001, .int .i64 6, .int .i64 1, .int .i64 8, .slice (some ⟨w19.heap.size, 0, none⟩) 6 6] 37))
  have HMm := Lib.hid (msgs_row (gs := [litG 2001 1 1 5 w14.heap.size [7, 3, 1, 4], litG 2001 2 1 5 w15.heap.size [8, 3, 3, 5], litG 2001 3 1 6 w16.heap.size [7, 2, 100], litG 2001 4 1 4 w17.heap.size [7, 500, 50], litG 2001 5 1 7 w18.heap.size [7, 51], litG 2001 6 1 8 w19.heap.size [9, 4, 2, 10, 20, 7]]) (Below.refl w20.heap.size w20) (ok_cons HG15.out (ok_cons HG16.out (ok_cons HG17.out (ok_cons HG18.out (ok_cons HG19.out (ok_cons HG20.out (ok_nil))))))) (cs := #[.int .i64 2001, .int .i64 1, .int .i64 1, .int .i64 5, .slice (some ⟨w14.heap.size, 0, none⟩) 4 4, .int .i64 2001, .int .i64 2, .int .i64 1, .int .i64 5, .slice (some ⟨w15.heap.size, 0, none⟩) 4 4, .int .i64 2001, .int .i64 3, .int .i64 1, .int .i64 6, .slice (some ⟨w16.heap.size, 0, none⟩) 3 3, .int .i64 2001, .int .i64 4, .int .i64 1, .int .i64 4, .slice (some ⟨w17.heap.size, 0, none⟩) 3 3, .int .i64 2001, .int .i64 5, .int .i64 1, .int .i64 7, .slice (some ⟨w18.heap.size, 0, none⟩) 2 2, .int .i64 2001, .int .i64 6, .int .i64 1, .int .i64 8, .slice (some ⟨w19.heap.size, 0, none⟩) 6 6]) rfl)
  go_wp2_with fail
  refine (message_any _ _ _ _ _ _ _ _).mono ?_
  rintro e w21 ⟨rfl, hb21⟩
  have HG21 := Lib.hid (by have := litG_new (args := [9, 2, 12, 1]) rfl hb21 3004 1 12 9 (i64_of (by omega)) (i64_of (by omega)) (i64_of (by omega)) (i64_of (by omega)) (by simp) (fun x hx => i64_of (by simp at hx; omega)); rewrite [World.size_alloc] at this; exact this)
  have HR210 := Lib.hid ((alloc_b _ _).tr hb21)
  have HR21 := Lib.hid (HBm.out.tr HR210.out)
  have HB21 := Lib.hid (HB20.out.tr HR21.out)
  have HDx := Lib.hid (HDx.out.below HR21.out)
  have HG15 := Lib.hid (ok_on HG15.out HR21.out)
  have HG16 := Lib.hid (ok_on HG16.out HR21.out)
  have HG17 := Lib.hid (ok_on HG17.out HR21.out)
  have HG18 := Lib.hid (ok_on HG18.out HR21.out)
  have HG19 := Lib.hid (ok_on HG19.out HR21.out)
  have HG20 := Lib.hid (ok_on HG20.out HR21.out)
  have HMm := Lib.hid (HMm.out.below HR210.out)
  clear hb21
  go_wp2_with fail
  refine (message_any _ _ _ _ _ _ _ _).mono ?_
  rintro e w22 ⟨rfl, hb22⟩
  have HG22 := Lib.hid (litG_new (args := [9, 2, 25, 3]) rfl hb22 3004 2 25 9 (i64_of (by omega)) (i64_of (by omega)) (i64_of (by omega)) (i64_of (by omega)) (by simp) (fun x hx => i64_of (by simp at hx; omega)))
  have HR22 := Lib.hid ((alloc_b w21 _).tr hb22)
  have HB22 := Lib.hid (HB21.out.tr HR22.out)
  have HDx := Lib.hid (HDx.out.below HR22.out)
  have HG15 := Lib.hid (ok_on HG15.out HR22.out)
  have HG16 := Lib.hid (ok_on HG16.out HR22.out)
  have HG17 := Lib.hid (ok_on HG17.out HR22.out)
  have HG18 := Lib.hid (ok_on HG18.out HR22.out)
  have HG19 := Lib.hid (ok_on HG19.out HR22.out)
  have HG20 := Lib.hid (ok_on HG20.out HR22.out)
  have HG21 := Lib.hid (ok_on HG21.out HR22.out)
  have HMm := Lib.hid (HMm.out.below ((alloc_b w21 _).tr hb22))
  clear hb22
  go_wp2_with fail
  refine (message_any _ _ _ _ _ _ _ _).mono ?_
  rintro e w23 ⟨rfl, hb23⟩
  have HG23 := Lib.hid (litG_new (args := [5, 1, 30, 3]) rfl hb23 3004 3 30 9 (i64_of (by omega)) (i64_of (by omega)) (i64_of (by omega)) (i64_of (by omega)) (by simp) (fun x hx => i64_of (by simp at hx; omega)))
  have HR23 := Lib.hid ((alloc_b w22 _).tr hb23)
  have HB23 := Lib.hid (HB22.out.tr HR23.out)
  have HDx := Lib.hid (HDx.out.below HR23.out)
  have HG15 := Lib.hid (ok_on HG15.out HR23.out)
  have HG16 := Lib.hid (ok_on HG16.out HR23.out)
  have HG17 := Lib.hid (ok_on HG17.out HR23.out)
  have HG18 := Lib.hid (ok_on HG18.out HR23.out)
  have HG19 := Lib.hid (ok_on HG19.out HR23.out)
  have HG20 := Lib.hid (ok_on HG20.out HR23.out)
  have HG21 := Lib.hid (ok_on HG21.out HR23.out)
  have HG22 := Lib.hid (ok_on HG22.out HR23.out)
  have HMm := Lib.hid (HMm.out.below ((alloc_b w22 _).tr hb23))
  clear hb23
  have HN := Lib.hid (show ∀ j u, (mcells [litG 3004 1 12 9 (w20.heap.size + 1) [9, 2, 12, 1], litG 3004 2 25 9 w21.heap.size [9, 2, 25, 3], litG 3004 3 30 9 w22.heap.size [5, 1, 30, 3]])[j]? = some u → _ from World.news_of_block (w := w23.alloc (.cells #[.int .i64 3004, .int .i64 1, .int .i64 12, .int .i64 9, .slice (some ⟨w20.heap.size + 1, 0, none⟩) 4 4, .int .i64 3004, .int .i64 2, .int .i64 25, .int .i64 9, .slice (some ⟨w21.heap.size, 0, none⟩) 4 4, .int .i64 3004, .int .i64 3, .int .i64 30, .int .i64 9, .slice (some ⟨w22.heap.size, 0, none⟩) 4 4] 37)) (heap_alloc_new w23 _))
  have HO := Lib.hid (Msgs.olds (HMm.out.below (alloc_b w23 (.cells #[.int .i64 3004, .int .i64 1, .int .i64 12, .int .i64 9, .slice (some ⟨w20.heap.size + 1, 0, none⟩) 4 4, .int .i64 3004, .int .i64 2, .int .i64 25, .int .i64 9, .slice (some ⟨w21.heap.size, 0, none⟩) 4 4, .int .i64 3004, .int .i64 3, .int .i64 30, .int .i64 9, .slice (some ⟨w22.heap.size, 0, none⟩) 4 4] 37))))
  go_wp2_with (at_builtin; refine wpList_append_grows _ rfl (.tmp 89) (.tmp 90) 27 rfl 37 i0 (.agg #[.int .i64 0, .int .i64 0, .int .i64 0, .int .i64 0, .slice none 0 0]) 5 56 Tryz.underlying27 hi hz0 hz1 hz2 rfl (by decide) (some ⟨w20.heap.size, 0, none⟩) 6 6 _ rfl (fun h => by cases h) rfl HO.out ⟨w23.heap.size, 0, none⟩ 3 3 _ rfl rfl HN.out (mcells_one _) (by omega) (by unfold maxLen; omega) (by omega) ?_; intro v24 w24 hown24 hgr24; have HO24 := Lib.hid hown24; have HG24x := Lib.hid hgr24; clear hown24 hgr24)
  have HR24 := Lib.hid (Below.grown (alloc_b w23 _) HG24x.out (alloc_b w23 _).size (fun q e => by cases e))
  have HDx := Lib.hid (HDx.out.below HR24.out)
  obtain ⟨A24, c24, rfl, hM24⟩ := row_msgs HO24.out (gs := [litG 2001 1 1 5 w14.heap.size [7, 3, 1, 4], litG 2001 2 1 5 w15.heap.size [8, 3, 3, 5], litG 2001 3 1 6 w16.heap.size [7, 2, 100], litG 2001 4 1 4 w17.heap.size [7, 500, 50], litG 2001 5 1 7 w18.heap.size [7, 51], litG 2001 6 1 8 w19.heap.size [9, 4, 2, 10, 20, 7], litG 3004 1 12 9 (w20.heap.size + 1) [9, 2, 12, 1], litG 3004 2 25 9 w21.heap.size [9, 2, 25, 3], litG 3004 3 30 9 w22.heap.size [5, 1, 30, 3]]) rfl rfl
    (ok_cons (ok_on HG15.out HR24.out) (ok_cons (ok_on HG16.out HR24.out) (ok_cons (ok_on HG17.out HR24.out) (ok_cons (ok_on HG18.out HR24.out) (ok_cons (ok_on HG19.out HR24.out) (ok_cons (ok_on HG20.out HR24.out) (ok_cons (ok_on HG21.out HR24.out) (ok_cons (ok_on HG22.out HR24.out) (ok_cons (ok_on HG23.out HR24.out) (ok_nil))))))))))
  have HB24 := Lib.hid (HB23.out.tr HR24.out)
  refine (add_row c24 HT.out HB24.out hM24 (by omega) addC).mono ?_
  rintro e w25 h25
  obtain ⟨Ac, cc, A2c, c2c, gc, hgc, rfl, lc1, lc2, _, _, hMc, hGc, hb25⟩ := h25
  have HB25 := Lib.hid (HB24.out.tr hb25)
  have HDx := Lib.hid (HDx.out.below hb25)
  have HGc := Lib.hid hgc
  have HMc := Lib.hid hMc
  have HPc := Lib.hid hGc
  clear hb25 hgc hMc hGc hM24 HO24 HG24x HN HO HMm HBm HG15 HG16 HG17 HG18 HG19 HG20 HG21 HG22 HG23
  have HVC := Lib.hid (show validB gc [] = true from by rw [validB_eq, HGc.out]; decide +kernel)
  have HRo := Lib.hid (fun (W : World) (h : Below w.heap.size w W) (h2 : Below w25.heap.size w25 W) => by have := rooms_any Ac A2c gc.length 0 cc c2c gc [] W (by omega) (by omega) (HT.out.below h) (HMc.out.below h2) (HPc.out.below h2); rewrite [HVC.out, HGc.out] at this; exact this)
  have HPr := Lib.hid (fun (W : World) (h : Below w.heap.size w W) (h2 : Below w25.heap.size w25 W) => by have := prices_any Ac A2c gc.length 0 cc c2c gc [] W (by omega) (by omega) (HT.out.below h) (HMc.out.below h2) (HPc.out.below h2); rewrite [HVC.out, HGc.out] at this; exact this)
  have HDo := Lib.hid (fun (W : World) (h : Below w.heap.size w W) (h2 : Below w25.heap.size w25 W) => by have := doors_any Ac A2c gc.length 0 cc c2c gc [] W (by omega) (by omega) (HT.out.below h) (HMc.out.below h2) (HPc.out.below h2); rewrite [HVC.out, HGc.out] at this; exact this)
  go_wp2_with fail
  refine (HRo.out _ (HB25.out.tr (alloc_b w25 _)) (alloc_b w25 _)).mono ?_
  rintro e w26 ⟨hb26, Ap, cp, kp, rfl, vp, dp⟩
  obtain rfl : kp = [⟨2001, 2, 8⟩, ⟨2001, 3, 7⟩] := vp.same roomsC (fun _ => Iff.rfl)
  have HX26 := Lib.hid ((hb26.block w25.heap.size (by simp)).trans (World.alloc_heap_new w25 _))
  have HD26 := Lib.hid ((alloc_b w25 _).tr hb26)
  have HB26 := Lib.hid (HB25.out.tr HD26.out)
  have HDx := Lib.hid (HDx.out.below HD26.out)
  have HDp := Lib.hid dp
  have y0 := cell_of HX26.out 0
  have y1 := cell_of HX26.out 1
  clear hb26 vp dp
  go_wp2_with fail
  refine (HPr.out _ HB26.out HD26.out).mono ?_
  rintro e w27 ⟨hb27, Aq, cq, kq, rfl, vq, dq⟩
  obtain rfl : kq = [⟨2001, 4, 7⟩] := vq.same pricesC (fun _ => Iff.rfl)
  have HX27 := Lib.hid ((hb27.block w25.heap.size (Array.getElem?_eq_some_iff.1 HX26.out).1).trans HX26.out)
  have HD27 := Lib.hid (HD26.out.tr hb27)
  have HB27 := Lib.hid (HB26.out.tr hb27)
  have HDx := Lib.hid (HDx.out.below hb27)
  have HDp := Lib.hid (HDp.out.below hb27)
  have HDq := Lib.hid dq
  have x0 := cell_of HX27.out 0
  have x1 := cell_of HX27.out 1
  clear hb27 vq dq y0 y1
  go_wp2_with fail
  refine (HDo.out _ HB27.out HD27.out).mono ?_
  rintro e w28 ⟨hb28, Ar, cr, kr, rfl, vr, dr⟩
  obtain rfl : kr = [⟨3004, 5, 5⟩, ⟨3004, 6, 9⟩] := vr.same doorsC (fun _ => Iff.rfl)
  have HB28 := Lib.hid (HB27.out.tr hb28)
  have HDx := Lib.hid (HDx.out.below hb28)
  have HDp := Lib.hid (HDp.out.below hb28)
  have HDq := Lib.hid (HDq.out.below hb28)
  have HDr := Lib.hid dr
  clear hb28 vr dr x0 x1 HRo HPr HDo HX26 HX27 HD26 HD27 HMc HPc HGc HVC
  have HR28 := Lib.hid (alloc_b w28 (.cells #[.int .i64 0, .int .i64 0, .int .i64 0, .int .i64 0, .slice none 0 0] 37))
  have HM28 := Lib.hid (msgs_row (gs := [⟨0, 0, 0, 0, none, 0, 0, []⟩]) (Below.refl w28.heap.size w28) (ok_cons (zero_ok _ _) ok_nil) (cs := #[.int .i64 0, .int .i64 0, .int .i64 0, .int .i64 0, .slice none 0 0]) rfl)
  have HZ := Lib.hid (by have := doors_any (some ⟨w28.heap.size, 0, none⟩) none 1 0 1 0 [⟨0, 0, 0, 0, none, 0, 0, []⟩] [] _ (by omega) (by omega) (HT.out.below (HB28.out.tr HR28.out)) HM28.out ⟨rfl, Rd.nil⟩; rewrite [validB_eq, show validM (List.map GM.msg [⟨0, 0, 0, 0, none, 0, 0, []⟩]) [] = false from by decide +kernel] at this; exact this)
  go_wp2_with fail
  refine HZ.out.mono ?_
  rintro e w29 ⟨hb29, rfl⟩
  have HR29 := Lib.hid (HR28.out.tr hb29)
  have HB29 := Lib.hid (HB28.out.tr HR29.out)
  have HDx := Lib.hid (HDx.out.below HR29.out)
  have HDp := Lib.hid (HDp.out.below HR29.out)
  have HDq := Lib.hid (HDq.out.below HR29.out)
  have HDr := Lib.hid (HDr.out.below HR29.out)
  clear hb29 HR28 HM28 HZ
  have HQ := Lib.hid (alloc_b w29 (.cells #[.int .i64 1001, .int .i64 1, .int .i64 5] 51))
  have HV := Lib.hid (vds_row (W := w29) (cs := #[.int .i64 1001, .int .i64 1, .int .i64 5]) (l := [⟨1001, 1, 5⟩]) rfl)
  go_wp2_with fail
  refine (sameV_any Ax _ 1 1 cx 1 [⟨1001, 1, 5⟩] [⟨1001, 1, 5⟩] _ (by omega) (HDx.out.below HQ.out) HV.out).mono ?_
  rintro e w30 ⟨rfl, hb30⟩
  have HR30 := Lib.hid (HQ.out.tr hb30)
  have HB30 := Lib.hid (HB29.out.tr HR30.out)
  have HDp := Lib.hid (HDp.out.below HR30.out)
  have HDq := Lib.hid (HDq.out.below HR30.out)
  have HDr := Lib.hid (HDr.out.below HR30.out)
  clear hb30 HQ HV HDx
  have HQ := Lib.hid (alloc_b w30 (.cells #[.int .i64 2001, .int .i64 2, .int .i64 8, .int .i64 2001, .int .i64 3, .int .i64 7] 51))
  have HV := Lib.hid (vds_row (W := w30) (cs := #[.int .i64 2001, .int .i64 2, .int .i64 8, .int .i64 2001, .int .i64 3, .int .i64 7]) (l := [⟨2001, 2, 8⟩, ⟨2001, 3, 7⟩]) rfl)
  go_wp2_with fail
  refine (sameV_any Ap _ 2 2 cp 2 [⟨2001, 2, 8⟩, ⟨2001, 3, 7⟩] [⟨2001, 2, 8⟩, ⟨2001, 3, 7⟩] _ (by omega) (HDp.out.below HQ.out) HV.out).mono ?_
  rintro e w31 ⟨rfl, hb31⟩
  have HR31 := Lib.hid (HQ.out.tr hb31)
  have HB31 := Lib.hid (HB30.out.tr HR31.out)
  have HDq := Lib.hid (HDq.out.below HR31.out)
  have HDr := Lib.hid (HDr.out.below HR31.out)
  clear hb31 HQ HV HDp
  have HQ := Lib.hid (alloc_b w31 (.cells #[.int .i64 2001, .int .i64 4, .int .i64 7] 51))
  have HV := Lib.hid (vds_row (W := w31) (cs := #[.int .i64 2001, .int .i64 4, .int .i64 7]) (l := [⟨2001, 4, 7⟩]) rfl)
  go_wp2_with fail
  refine (sameV_any Aq _ 1 1 cq 1 [⟨2001, 4, 7⟩] [⟨2001, 4, 7⟩] _ (by omega) (HDq.out.below HQ.out) HV.out).mono ?_
  rintro e w32 ⟨rfl, hb32⟩
  have HR32 := Lib.hid (HQ.out.tr hb32)
  have HB32 := Lib.hid (HB31.out.tr HR32.out)
  have HDr := Lib.hid (HDr.out.below HR32.out)
  clear hb32 HQ HV HDq
  have HQ := Lib.hid (alloc_b w32 (.cells #[.int .i64 3004, .int .i64 5, .int .i64 5, .int .i64 3004, .int .i64 6, .int .i64 9] 51))
  have HV := Lib.hid (vds_row (W := w32) (cs := #[.int .i64 3004, .int .i64 5, .int .i64 5, .int .i64 3004, .int .i64 6, .int .i64 9]) (l := [⟨3004, 5, 5⟩, ⟨3004, 6, 9⟩]) rfl)
  go_wp2_with fail
  refine (sameV_any Ar _ 2 2 cr 2 [⟨3004, 5, 5⟩, ⟨3004, 6, 9⟩] [⟨3004, 5, 5⟩, ⟨3004, 6, 9⟩] _ (by omega) (HDr.out.below HQ.out) HV.out).mono ?_
  rintro e w33 ⟨rfl, hb33⟩
  have HR33 := Lib.hid (HQ.out.tr hb33)
  have HB33 := Lib.hid (HB32.out.tr HR33.out)
  clear hb33 HQ HV HDr
  go_wp2_with fail
  go_ret
  exact ⟨rfl, HB33.out⟩

end Go.Proofs.YtonnaiknlgmejaaGreatDoor

/-
  law41's all: the verdicts by all rules, one list after the other.
-/
namespace Go.Proofs.YtonnaiknlgmejaaGreatDoor
open Go.RowKit Go.Shelf Go.Sort

attribute [local go_sem] Oper.semAt_some

theorem VdIs.nodup {l : List Vd} {P : Vd → Prop} (h : VdIs l P) : l.Nodup := h.s.imp fun {x y} hxy e => by subst e; exact ltV_irr hxy
theorem cands_length (ms : List Msg) : (cands ms).length = 10 * ms.length := by
  induction ms with
  | nil => rfl
  | cons m ms ih =>
    have : cands (m :: ms) = ([2, 3, 4, 5, 6].flatMap fun r => [(⟨house, r, arg m 0⟩ : Vd), ⟨m.party, r, arg m 0⟩]) ++ cands ms := rfl
    rw [this, List.length_append, ih, List.length_cons]
    simp
    omega
theorem VdIs.few {l : List Vd} {P : Vd → Prop} {ms : List Msg} (h : VdIs l P) (hc : ∀ v, P v → v ∈ cands ms) : l.length ≤ 10 * ms.length := by
  rw [← cands_length]
  exact nodup_le h.nodup fun v hv => hc v ((h.m v).1 hv)
theorem VdIs.sales {l : List Vd} {ms : List Msg} (h : VdIs l (salesV ms)) : l.length < 1000000000 := by
  have : (l.map fun v => (v, true)).length < 1000000000 := sales_few (ms := ms) ⟨by rw [List.map_map]; show (l.map fun v => v).Nodup; rw [List.map_id']; exact h.nodup, fun v => by simp [h.m]⟩
  simpa using this
theorem vcells_len (l : List Vd) : (vcells l).length = l.length * 3 := by
  induction l with
  | nil => rfl
  | cons v l ih => simp only [vcells, List.flatMap_cons, List.length_append, List.length_cons] at *; rw [ih]; simp; omega
theorem vcells_one (l : List Vd) : ∀ u ∈ vcells l, u.oneCell' = true := by
  intro u hu
  obtain ⟨g, _, hg⟩ := List.mem_flatMap.1 hu
  simp at hg
  rcases hg with rfl | rfl | rfl <;> rfl
theorem vcells_append (a b : List Vd) : vcells (a ++ b) = vcells a ++ vcells b := by simp [vcells]
theorem Vds.rd {w : World} {B n : Nat} {A : Option Addr} {l : List Vd} (h : Vds w B A n l) : Rd w B A (vcells l) := by
  rw [vcells_eq]; exact Gaps.rd h

/-- What all comes to. -/
def AllRes (ms : List Msg) (w : World) (e : Ending) (w' : World) : Prop :=
  ∃ A c la lb lc ld, e = .returned (.tuple #[.slice A (la ++ lb ++ lc ++ ld).length c, .bool true]) ∧ VdIs la (salesV ms) ∧ VdIs lb (roomsV ms) ∧ VdIs lc (pricesV ms) ∧ VdIs ld (doorsV ms) ∧
    (la ++ lb ++ lc ++ ld).length ≤ 2000000000 ∧ Vds w' w'.heap.size A (la ++ lb ++ lc ++ ld).length (la ++ lb ++ lc ++ ld) ∧ Below w.heap.size w w'

set_option maxRecDepth 100000 in
set_option maxHeartbeats 4000000 in
theorem all_any (A A2 : Option Addr) (n m c c2 : Nat) (gs : List GM) (gaps : List GG) (w : World) (hn : n ≤ 9223372036854775807) (hm : m ≤ 9223372036854775807) (hT : Tab w) (hM : Msgs w w.heap.size A n gs) (hG : Gaps w w.heap.size A2 m gaps) (hv : validB gs gaps = true) :
    Calls Tryz.prog 9 #[.agg #[.slice A n c, .slice A2 m c2]] w (AllRes (gs.map GM.msg) w) := by
  have hn2 := (valid_good hv hM).1
  have hgl : (gs.map GM.msg).length ≤ 2000 := by rw [List.length_map, hM.len]; exact hn2
  have HT := Lib.hid hT
  have HM := Lib.hid hM
  have HG := Lib.hid hG
  have HW0 := Lib.hid (alloc_b w (.cells #[.slice A n c, .slice A2 m c2] 40))
  have hbx := World.alloc_heap_new w (.cells #[.slice A n c, .slice A2 m c2] 40)
  have HBx := Lib.hid hbx
  have HSa := Lib.hid (fun (W : World) (h : Below w.heap.size w W) => by have := sales_any A A2 n m c c2 gs gaps W hn hm (HT.out.below h) (HM.out.to h h.size) (HG.out.to h h.size); rewrite [hv] at this; exact this)
  have HRo := Lib.hid (fun (W : World) (h : Below w.heap.size w W) => by have := rooms_any A A2 n m c c2 gs gaps W hn hm (HT.out.below h) (HM.out.to h h.size) (HG.out.to h h.size); rewrite [hv] at this; exact this)
  have HPr := Lib.hid (fun (W : World) (h : Below w.heap.size w W) => by have := prices_any A A2 n m c c2 gs gaps W hn hm (HT.out.below h) (HM.out.to h h.size) (HG.out.to h h.size); rewrite [hv] at this; exact this)
  have HDo := Lib.hid (fun (W : World) (h : Below w.heap.size w W) => by have := doors_any A A2 n m c c2 gs gaps W hn hm (HT.out.below h) (HM.out.to h h.size) (HG.out.to h h.size); rewrite [hv] at this; exact this)
  clear hT hM hG hbx hv
  obtain ⟨i0, hi, hz0, hz1, hz2⟩ := info_parts info_vd
  go_enter Tryz.func9, Tryz.ntmps9
  go_wp2_with fail
  refine (HSa.out _ HW0.out).mono ?_
  rintro e w1 ⟨hb1, Aa, ca, la, rfl, va, da⟩
  have hbx1 := (hb1.block w.heap.size (by simp)).trans HBx.out
  have HB1 := Lib.hid (HW0.out.tr hb1)
  have HX1 := Lib.hid hbx1
  have hl1 : w.heap.size < w1.heap.size := (Array.getElem?_eq_some_iff.1 hbx1).1
  have s0 := cell_of hbx1 0
  have s1 := cell_of hbx1 1
  have HVa := Lib.hid va
  have HDa := Lib.hid da
  have hla := va.sales
  clear hb1 hbx1 va da
  go_wp2_with fail
  refine (HRo.out _ HB1.out).mono ?_
  rintro e w2 ⟨hb2, Ab, cb, lb, rfl, vb, db⟩
  have hbx2 := (hb2.block w.heap.size hl1).trans HX1.out
  have HB2 := Lib.hid (HB1.out.tr hb2)
  have HX2 := Lib.hid hbx2
  have hl2 : w.heap.size < w2.heap.size := (Array.getElem?_eq_some_iff.1 hbx2).1
  have HDa2 := Lib.hid (HDa.out.below hb2)
  have t0 := cell_of hbx2 0
  have t1 := cell_of hbx2 1
  have HVb := Lib.hid vb
  have HDb := Lib.hid db
  have hlb := vb.few (fun _ => rooms_cand)
  clear hb2 hbx2 vb db s0 s1 HDa
  go_wp2_with fail
  refine (HPr.out _ HB2.out).mono ?_
  rintro e w3 ⟨hb3, Ac, cc, lc, rfl, vc, dc⟩
  have hbx3 := (hb3.block w.heap.size hl2).trans HX2.out
  have HB3 := Lib.hid (HB2.out.tr hb3)
  have HX3 := Lib.hid hbx3
  have hl3 : w.heap.size < w3.heap.size := (Array.getElem?_eq_some_iff.1 hbx3).1
  have HDa3 := Lib.hid (HDa2.out.below hb3)
  have HDb3 := Lib.hid (HDb.out.below hb3)
  have s0 := cell_of hbx3 0
  have s1 := cell_of hbx3 1
  have HVc := Lib.hid vc
  have HDc := Lib.hid dc
  have hlc := vc.few (fun _ => prices_cand)
  clear hb3 hbx3 vc dc t0 t1 HDa2 HDb
  go_wp2_with fail
  refine (HDo.out _ HB3.out).mono ?_
  rintro e w4 ⟨hb4, Ad, cd, ld, rfl, vd, dd⟩
  have HB4 := Lib.hid (HB3.out.tr hb4)
  have HDa4 := Lib.hid (HDa3.out.below hb4)
  have HDb4 := Lib.hid (HDb3.out.below hb4)
  have HDc4 := Lib.hid (HDc.out.below hb4)
  have HVd := Lib.hid vd
  have HDd4 := Lib.hid dd
  have hld := vd.few (fun _ => doors_cand)
  clear hb4 vd dd s0 s1 HDa3 HDb3 HDc
  have HL0 := Lib.hid (show Below w4.heap.size w4 (w4.alloc (.cells #[] 51)) ∧ (w4.alloc (.cells #[] 51)).ownsRow w4.heap.size 51 3 (.slice (some ⟨w4.heap.size, 0, none⟩) 0 0) 0 [] from ⟨alloc_b w4 _, World.ownsRow_lit w4 #[] 0 (Nat.le_refl _) (by unfold maxLen; omega) rfl⟩)
  go_wp2_with (first | (at_builtin; refine wpList_append_rd _ rfl (.tmp 32) (.tmp 33) 44 rfl w4.heap.size 51 i0 (.agg #[.int .i64 0, .int .i64 0, .int .i64 0]) 3 24 Tryz.underlying44 hi hz0 hz1 hz2 rfl (by decide) _ _ _ rfl HL0.out.2 (w4.alloc (.cells #[] 51)).heap.size Aa la.length ca (vcells la) rfl (vcells_len la) (HDa4.out.below (alloc_b w4 _)).rd (vcells_one la) (by unfold maxLen; omega) (by omega) HL0.out.1.size ?_; intro v5 w5 h1' h2' _; have HO5 := Lib.hid h1'; have HR5 := Lib.hid (Below.grown HL0.out.1 h2' HL0.out.1.size (fun q e => (World.ownsRow.lt HL0.out.2 q e).1)); clear h1' h2') | (at_builtin; refine wpList_append_rd _ rfl (.tmp 34) (.tmp 35) 44 rfl w4.heap.size 51 i0 (.agg #[.int .i64 0, .int .i64 0, .int .i64 0]) 3 24 Tryz.underlying44 hi hz0 hz1 hz2 rfl (by decide) _ _ _ rfl HO5.out w5.heap.size Ab lb.length cb (vcells lb) rfl (vcells_len lb) (HDb4.out.to HR5.out HR5.out.size).rd (vcells_one lb) (by unfold maxLen; omega) (by omega) HR5.out.size ?_; intro v6 w6 h1' h2' _; have HO6 := Lib.hid h1'; have HR6 := Lib.hid (Below.grown HR5.out h2' HR5.out.size (fun q e => (World.ownsRow.lt HO5.out q e).1)); clear h1' h2') | (at_builtin; refine wpList_append_rd _ rfl (.tmp 36) (.tmp 37) 44 rfl w4.heap.size 51 i0 (.agg #[.int .i64 0, .int .i64 0, .int .i64 0]) 3 24 Tryz.underlying44 hi hz0 hz1 hz2 rfl (by decide) _ _ _ rfl HO6.out w6.heap.size Ac lc.length cc (vcells lc) rfl (vcells_len lc) (HDc4.out.to HR6.out HR6.out.size).rd (vcells_one lc) (by unfold maxLen; omega) (by omega) HR6.out.size ?_; intro v7 w7 h1' h2' _; have HO7 := Lib.hid h1'; have HR7 := Lib.hid (Below.grown HR6.out h2' HR6.out.size (fun q e => (World.ownsRow.lt HO6.out q e).1)); clear h1' h2') | (at_builtin; refine wpList_append_rd _ rfl (.tmp 38) (.tmp 39) 44 rfl w4.heap.size 51 i0 (.agg #[.int .i64 0, .int .i64 0, .int .i64 0]) 3 24 Tryz.underlying44 hi hz0 hz1 hz2 rfl (by decide) _ _ _ rfl HO7.out w7.heap.size Ad ld.length cd (vcells ld) rfl (vcells_len ld) (HDd4.out.to HR7.out HR7.out.size).rd (vcells_one ld) (by unfold maxLen; omega) (by omega) HR7.out.size ?_; intro v8 w8 h1' h2' _; have HO8 := Lib.hid h1'; have HR8 := Lib.hid (Below.grown HR7.out h2' HR7.out.size (fun q e => (World.ownsRow.lt HO7.out q e).1)); clear h1' h2'))
  go_ret2
  obtain ⟨A9, c9, rfl, _, _, hr9⟩ := rd_of_own HO8.out (by decide)
  have hlen : 0 + la.length + lb.length + lc.length + ld.length = (la ++ lb ++ lc ++ ld).length := by simp; omega
  refine ⟨A9, c9, la, lb, lc, ld, ?_, HVa.out, HVb.out, HVc.out, HVd.out, by simp; omega, ⟨by simp, ?_⟩, HB4.out.tr HR8.out⟩
  · rw [← hlen]
    rfl
  · rw [← vcells_eq, vcells_append, vcells_append, vcells_append]
    exact hr9

end Go.Proofs.YtonnaiknlgmejaaGreatDoor

/-
  Contracts of the reference's functions on messages: innkeeperref40.before, forks, right, Gaps, Valid.
-/
namespace Go.Proofs.YtonnaiknlgmejaaGreatDoor
open Go.RowKit Go.Shelf Go.Sort

theorem alloc_below' (w : World) (o : Obj) : Below w.heap.size w (w.alloc o) := (Below.refl _ _).alloc (Nat.le_refl _) _
theorem Below.t2 {w W W' : World} (h : Below w.heap.size w W) (k : Below W.heap.size W W') : Below w.heap.size w W' := h.trans (k.mono h.size)

theorem ltMM_eq (a b : Msg) : ltMM a b = (decide (a.party < b.party) || ((a.party == b.party) && decide (a.seq < b.seq))) := by
  unfold ltMM
  rw [Bool.eq_iff_iff]
  simp

set_option maxHeartbeats 1000000 in
theorem before40_any (a b : GM) (w : World) :
    Calls Tryz.prog 77 #[.agg #[.int .i64 a.party, .int .i64 a.seq, .int .i64 a.time, .int .i64 a.kind, .slice a.A a.n a.c], .agg #[.int .i64 b.party, .int .i64 b.seq, .int .i64 b.time, .int .i64 b.kind, .slice b.A b.n b.c]] w fun e w' => e = .returned (.bool (ltMM a.msg b.msg)) ∧ Below w.heap.size w w' := by
  have HF := Lib.hid (show ltMM a.msg b.msg = (decide (a.party < b.party) || ((a.party == b.party) && decide (a.seq < b.seq))) from ltMM_eq _ _)
  have HB := Lib.hid (show Below w.heap.size w ((w.alloc (.cells #[.int .i64 a.party, .int .i64 a.seq, .int .i64 a.time, .int .i64 a.kind, .slice a.A a.n a.c] 37)).alloc (.cells #[.int .i64 b.party, .int .i64 b.seq, .int .i64 b.time, .int .i64 b.kind, .slice b.A b.n b.c] 37)) from ((Below.refl _ _).alloc (Nat.le_refl _) _).alloc (by simp) _)
  cases h1 : decide (a.party < b.party) <;> cases h2 : (a.party == b.party) <;> cases h3 : decide (a.seq < b.seq)
  all_goals
    go_enter Tryz.func77, Tryz.ntmps77
    go_wp2
    go_ret
    exact ⟨by rw [HF.out, h1, h2, h3]; rfl, HB.out⟩

/-- Whether two messages contradict each other. -/
def forksB (a b : Msg) : Bool := (a.party == b.party) && (a.seq == b.seq) && !decide (a = b)
theorem forksB_iff {a b : Msg} : forksB a b = true ↔ keyOf a = keyOf b ∧ a ≠ b := by
  unfold forksB keyOf
  simp [and_assoc]


set_option maxHeartbeats 1000000 in
theorem rightR_any (A : Option Addr) (n c : Nat) (gs : List GM) (w : World) (hn : n ≤ 9223372036854775807) (hM : Msgs w w.heap.size A n gs) :
    Calls Tryz.prog 76 #[.slice A n c] w fun e w' => e = .returned (.bool (!gs.any notRight)) ∧ Below w.heap.size w w' := by
  have HM := Lib.hid hM
  have HL := Lib.hid hM.len
  clear hM
  go_enter Tryz.func76, Tryz.ntmps76
  go_wp2_with fail
  go_loopw [3] (fun i wr => ∃ k : Nat, k ≤ n ∧ i = .int .i64 k ∧ (gs.take k).any notRight = false ∧ Below w.heap.size w wr) (fun i _ => n - (intOf i).toNat)
  case atStart => exact ⟨0, Nat.zero_le _, rfl, by simp, Below.refl _ _⟩
  case round =>
    obtain ⟨k, hk, rfl, hno, hB⟩ := hrel
    have HN := Lib.hid hno
    have HB := Lib.hid hB
    clear hno hB
    by_cases hlt : k < n
    · have hkl : k < gs.length := by rw [HL.out]; exact hlt
      have hM' := HM.out.to HB.out HB.out.size
      obtain ⟨b, off, e, hb, hc⟩ := hM'.at_ (by omega)
      obtain ⟨c0, c1, c2, c3, c4⟩ := hc k hkl
      have HV := Lib.hid (by
        have hv := validR_any gs[k].party gs[k].seq gs[k].time gs[k].kind gs[k].A gs[k].n gs[k].c gs[k].args wr (hM'.ok _ (List.getElem_mem hkl))
        rewrite [show rightB ⟨gs[k].party, gs[k].seq, gs[k].time, gs[k].kind, gs[k].args⟩ = !notRight gs[k] from by show _ = !(!rightB gs[k].msg); rw [Bool.not_not]; rfl] at hv
        exact hv)
      have HS := Lib.hid (show gs.take (k + 1) = gs.take k ++ [gs[k]] by rw [List.take_succ_eq_append_getElem hkl])
      have HMem := Lib.hid (show gs[k] ∈ gs from List.getElem_mem hkl)
      clear hc hM'
      subst e
      generalize gs[k] = g at *
      cases hw : notRight g
      · have HV' := Lib.hid (by have := HV.out; rewrite [hw] at this; exact this)
        go_wp2_with fail
        refine HV'.out.mono ?_
        rintro e w1 ⟨rfl, hb1⟩
        have HB1 := Lib.hid (Below.t2 HB.out hb1)
        clear hb1
        go_wp2_with fail
        go_roundw
        case rel => exact ⟨k + 1, by omega, by go_num, by rw [HS.out, List.any_append, HN.out]; simp [hw], HB1.out⟩
        case measure => simp [intOf]; omega
      · have HV' := Lib.hid (by have := HV.out; rewrite [hw] at this; exact this)
        have HU := Lib.hid (show gs.any notRight = true from List.any_eq_true.2 ⟨g, HMem.out, hw⟩)
        go_wp2_with fail
        refine HV'.out.mono ?_
        rintro e w1 ⟨rfl, hb1⟩
        have HB1 := Lib.hid (Below.t2 HB.out hb1)
        clear hb1
        go_wp2_with fail
        go_ret
        exact ⟨by rw [HU.out]; rfl, HB1.out⟩
    · have HU := Lib.hid (show gs.any notRight = false from by
        have h := HN.out
        rwa [List.take_of_length_le (by rw [HL.out]; omega)] at h)
      go_wp2_with fail
      go_ret
      exact ⟨by rw [HU.out]; rfl, HB.out⟩

/-! ### Gaps -/

def lastQ (p s : Int) : List Msg → Int × Int
  | [] => (p, s)
  | m :: ms => lastQ m.party m.seq ms
theorem lastQ_snoc (p s : Int) : ∀ (ms : List Msg) (m : Msg), lastQ p s (ms ++ [m]) = (m.party, m.seq)
  | [], _ => rfl
  | a :: ms, m => lastQ_snoc a.party a.seq ms m
theorem gapsM_snoc (m : Msg) : ∀ (p s : Int) (ms : List Msg), gapsM p s (ms ++ [m]) = gapsM p s ms ++ (if gb (lastQ p s ms).1 (lastQ p s ms).2 m + 1 < m.seq then [⟨m.party, gb (lastQ p s ms).1 (lastQ p s ms).2 m + 1, m.seq⟩] else [])
  | p, s, [] => by simp [gapsM, lastQ]; rfl
  | p, s, a :: ms => by
    have ih := gapsM_snoc m a.party a.seq ms
    rw [List.cons_append, gapsM, ih, gapsM, List.append_assoc]
    rfl

set_option maxRecDepth 100000 in
set_option maxHeartbeats 2000000 in
theorem gapsR_any (A : Option Addr) (n c : Nat) (gs : List GM) (w : World) (hn : n ≤ 2000) (hs : ∀ g ∈ gs, 0 ≤ g.seq ∧ g.seq ≤ 5000) (hM : Msgs w w.heap.size A n gs) :
    Calls Tryz.prog 79 #[.slice A n c] w fun e w' => ∃ v, e = .returned v ∧ w'.ownsRow w.heap.size 123 3 v (gapsM 0 0 (gs.map GM.msg)).length (gcells (gapsM 0 0 (gs.map GM.msg))) ∧ Below w.heap.size w w' := by
  have HM := Lib.hid hM
  have HL := Lib.hid hM.len
  have HS := Lib.hid hs
  clear hM hs
  obtain ⟨i0, hi, hz0, hz1, hz2⟩ := info_parts info_gap
  go_enter Tryz.func79, Tryz.ntmps79
  go_wp2_with fail
  go_loopw [3, 4, 5] (fun v x i wr => ∃ k : Nat, k ≤ n ∧ i = .int .i64 k ∧ x = .int .i64 ((lastQ 0 0 ((gs.take k).map GM.msg)).2 + 1) ∧ wr.ownsRow w.heap.size 123 3 v (gapsM 0 0 ((gs.take k).map GM.msg)).length (gcells (gapsM 0 0 ((gs.take k).map GM.msg))) ∧ Below w.heap.size w wr) (fun _ _ i _ => n - (intOf i).toNat)
  case atStart => exact ⟨0, Nat.zero_le _, rfl, rfl, World.ownsRow_nil _ _ _ _, Below.refl _ _⟩
  case round =>
    obtain ⟨k, hk, rfl, rfl, hR, hB⟩ := hrel
    have HR := Lib.hid hR
    have HB := Lib.hid hB
    clear hR hB
    by_cases hlt : k < n
    · have hkl : k < gs.length := by rw [HL.out]; exact hlt
      obtain ⟨b, off, e, hb0, hc0⟩ := HM.out.at_ (by omega)
      have hb : b < wr.heap.size := Nat.lt_of_lt_of_le hb0 HB.out.size
      have hc : ∀ (i : Nat) (hi : i < gs.length), wr.cell? ⟨b, off + i * 5, none⟩ = some (.int .i64 gs[i].party) ∧ wr.cell? ⟨b, off + i * 5 + 1, none⟩ = some (.int .i64 gs[i].seq) := fun i hi =>
        ⟨(HB.out.cell (p := ⟨b, off + i * 5, none⟩) hb0).trans (hc0 i hi).1, (HB.out.cell (p := ⟨b, off + i * 5 + 1, none⟩) hb0).trans (hc0 i hi).2.1⟩
      obtain ⟨c0, c1⟩ := hc k hkl
      have HW1 := Lib.hid (hc0 k hkl).2.1
      have HSq := Lib.hid (show (gs.take (k + 1)).map GM.msg = (gs.take k).map GM.msg ++ [gs[k].msg] from by rw [List.take_succ_eq_append_getElem hkl, List.map_append]; rfl)
      have HG := Lib.hid (by have := gapsM_snoc gs[k].msg 0 0 ((gs.take k).map GM.msg); rewrite [← HSq.out] at this; exact this)
      have HLn := Lib.hid (show (gapsM 0 0 ((gs.take k).map GM.msg)).length ≤ 2000 from by have := gapsM_length 0 0 ((gs.take k).map GM.msg); rw [List.length_map, List.length_take] at this; omega)
      have HLs := Lib.hid (show lastQ 0 0 ((gs.take (k + 1)).map GM.msg) = (gs[k].party, gs[k].seq) from by rw [HSq.out]; exact lastQ_snoc 0 0 _ _)
      have HPv := Lib.hid (show ∀ j, k = j + 1 → ∃ g' : GM, lastQ 0 0 ((gs.take k).map GM.msg) = (g'.party, g'.seq) ∧ wr.cell? ⟨b, off + j * 5, none⟩ = some (.int .i64 g'.party) ∧ 0 ≤ g'.seq ∧ g'.seq ≤ 5000 from fun j hj => by
        subst hj
        have hjl : j < gs.length := by omega
        refine ⟨gs[j], ?_, (hc j hjl).1, HS.out _ (List.getElem_mem hjl)⟩
        rw [List.take_succ_eq_append_getElem hjl, List.map_append]
        exact lastQ_snoc 0 0 _ _)
      have hsq := HS.out _ (List.getElem_mem hkl)
      obtain ⟨hs0, hs1⟩ := hsq
      clear hc hc0
      subst e
      generalize gs[k] = g at *
      generalize hxs : gapsM 0 0 ((gs.take k).map GM.msg) = xs at *
      generalize hys : gapsM 0 0 ((gs.take (k + 1)).map GM.msg) = ys at *
      -- what 'next' is behind the test of the party
      have HN := Lib.hid (show ∃ (b27 : Bool) (q : Int), (lastQ 0 0 ((gs.take k).map GM.msg)).2 = q ∧ 0 ≤ q ∧ q ≤ 5000 ∧ gb (lastQ 0 0 ((gs.take k).map GM.msg)).1 (lastQ 0 0 ((gs.take k).map GM.msg)).2 g.msg = (if b27 then 0 else q) ∧ (k = 0 → b27 = false) ∧ (∀ j, k = j + 1 → ∃ pp : Int, wr.cell? ⟨b, off + j * 5, none⟩ = some (.int .i64 pp) ∧ b27 = (g.party != pp)) from by
        cases k with
        | zero => exact ⟨false, 0, rfl, by omega, by omega, by simp [lastQ, gb], fun _ => rfl, fun j hj => by omega⟩
        | succ j =>
          obtain ⟨g', h1, h2, h3, h4⟩ := HPv.out j rfl
          rw [h1]
          refine ⟨g.party != g'.party, g'.seq, rfl, h3, h4, ?_, fun h => by omega, fun j' hj' => ?_⟩
          · by_cases hp : g.party = g'.party
            · simp [gb, GM.msg, hp]
            · simp [gb, GM.msg, hp]
          · obtain rfl : j = j' := by omega
            exact ⟨g'.party, h2, rfl⟩)
      obtain ⟨b27, q, hq, hq0, hq1, hgb, hz, hp⟩ := HN.out
      rw [hq]
      rw [hgb] at HG
      have HZ := Lib.hid hz
      have HP := Lib.hid hp
      have HYs := Lib.hid hys
      clear hxs hys hq hgb hz hp HN HPv HSq
      have f0 := kp_cell (w := wr) hb c0
      go_upto_region 6 with fail
      go_cut [27] (fun s wx => s = .bool b27 ∧ Below wr.heap.size wr wx)
      case first =>
        by_cases hk0 : k = 0
        · obtain rfl : b27 = false := HZ.out hk0
          subst hk0
          refine region_below (by kernel_rfl) (by kernel_rfl) ?_
          repeat (first | go_big_quiet_step (fail) | quiet_step (fail))
          refine wpQuiet_nil ?_
          rintro w6 ⟨⟨_, hb6⟩, rfl⟩
          go_wp2_with fail
          go_meet
          exact ⟨rfl, hb6⟩
        · obtain ⟨j, rfl⟩ : ∃ j, k = j + 1 := ⟨k - 1, by omega⟩
          obtain ⟨pp, h1, h2⟩ := HP.out j rfl
          subst h2
          have h1' := kp_cell (w := wr) (a := ⟨b, off + j * 5, none⟩) hb h1
          have t3 : decide ((0 : Int) < (j : Int) + 1) = true := decide_eq_true (by omega)
          clear h1
          generalize hd : (g.party != pp) = d
          refine region_below (by kernel_rfl) (by kernel_rfl) ?_
          repeat (first | go_big_quiet_step (fail) | quiet_step (fail))
          refine wpQuiet_nil ?_
          rintro w6 ⟨⟨_, hb6⟩, rfl⟩
          go_wp2_with fail
          go_meet
          exact ⟨by rw [hd], hb6⟩
      case rest =>
        obtain ⟨rfl, hb6⟩ := hcut
        generalize hW6 : wc = W6 at *
        have d0 : W6.cell? ⟨b, off + k * 5, none⟩ = some (.int .i64 g.party) := f0 ⟨W6, hb6⟩
        have d1 : W6.cell? ⟨b, off + k * 5 + 1, none⟩ = some (.int .i64 g.seq) := (hb6.cell (p := ⟨b, off + k * 5 + 1, none⟩) hb).trans c1
        have HB6 := Lib.hid (Below.t2 HB.out hb6)
        have HR6 := Lib.hid (show W6.ownsRow w.heap.size 123 3 u3 xs.length (gcells xs) from HR.out.kept (grown_of_below hb6 none) (by
          rcases HR.out.2 with ⟨h, _⟩ | ⟨_, _, _, h, _⟩
          · exact .inl (by rw [h]; rfl)
          · exact .inr (by rw [h]; simp [Value.ownBlock])))
        have hb6' : b < W6.heap.size := Nat.lt_of_lt_of_le hb hb6.size
        clear f0 hb6 c0 c1 hW6
        go_upto_if 27 with fail
        go_cut [4] (fun s wx => s = .int .i64 ((if b27 then 0 else q) + 1) ∧ W6 = wx)
        case first =>
          cases b27
          · go_wp2_with fail
            go_meet
            exact ⟨rfl, rfl⟩
          · go_wp2_with fail
            go_meet
            exact ⟨rfl, rfl⟩
        case rest =>
          obtain ⟨rfl, rfl⟩ := hcut
          have hX0 : 0 ≤ (if b27 then 0 else q) + 1 := by split <;> omega
          have hX1 : (if b27 then 0 else q) + 1 ≤ 5001 := by split <;> omega
          generalize (if b27 then 0 else q) + 1 = X at *
          cases hgt : decide (X < g.seq)
          · have HG2 := Lib.hid (show ys = xs from by rw [HG.out, if_neg (by simpa [GM.msg] using hgt), List.append_nil])
            go_wp2_with fail
            go_roundw
            case rel => exact ⟨k + 1, by omega, by go_num, by rw [HLs.out], by rw [HYs.out, HG2.out]; exact HR6.out, HB6.out⟩
            case measure => simp [intOf]; omega
          · have HG2 := Lib.hid (show ys = xs ++ [⟨g.party, X, g.seq⟩] from by rw [HG.out, if_pos (by simpa [GM.msg] using hgt)]; rfl)
            have hi0 : (0 : Int) ≤ (k : Int) := by omega
            have hi1 : (k : Int) < (n : Int) := by omega
            have HC1 := Lib.hid (show xs.length + 1 ≤ maxLen from by have := HLn.out; unfold maxLen; omega)
            have HC2 := Lib.hid (show (xs.length + 1) * 24 ≤ 140737488355328 from by have := HLn.out; omega)
            have HC3 := Lib.hid (show w.heap.size ≤ ((W6.alloc (.cells #[.int .i64 g.party, .int .i64 X, .int .i64 g.seq] 123)).drew).heap.size from by have := HB6.out.size; simp; omega)
            have HFar := Lib.hid (show u3.ownBlock ≠ some b from fun e => by have := (HR6.out.lt b e).1; omega)
            go_upto_region 9 with fail
            go_cut [3] (fun s wx => wx.ownsRow w.heap.size 123 3 s (xs.length + 1) (gcells xs ++ [.int .i64 g.party, .int .i64 X, .int .i64 g.seq]) ∧ Below w.heap.size w wx)
            case first =>
              go_region_held3 (fun w' => w'.cell? ⟨b, off + k * 5, none⟩ = some (.int .i64 g.party) ∧ w'.cell? ⟨b, off + k * 5 + 1, none⟩ = some (.int .i64 g.seq))
                (first | go_keep | (go_split_ands; refine ⟨?_, ?_⟩ <;> (rw [hgrow.cell_far _ (by simp; omega) (Ne.symm HFar.out)]; assumption)))
                ((refine step_append_lies _ (by rfl) _ _ _ (by rfl) w.heap.size 123 i0 _ 3 24 Tryz.underlying38 hi hz0 hz1 hz2 rfl (by omega) u3 xs.length (gcells xs) (by rfl) ((HR6.out.alloc _).drew)
                    ⟨W6.heap.size, 0, none⟩ 1 1 [.int .i64 g.party, .int .i64 X, .int .i64 g.seq] (by rfl) (by rfl) (World.news_of_block (cs := #[.int .i64 g.party, .int .i64 X, .int .i64 g.seq]) (t := 123) (fr := (0, 0)) (heap_alloc_new W6 _)) (by simp [Value.oneCell'])
                    (by omega) HC1.out HC2.out HC3.out (W6.heap.size + 1) (by simp) ?_; intro gg cap w1 hown1 hgrow hat hlt))
              go_wp2_with fail
              go_meet
              exact ⟨hown1, ((HB6.out.alloc HB6.out.size _).drew).grown hgrow HC3.out (fun q e => (HR6.out.lt q e).1)⟩
            case rest =>
              obtain ⟨hown, hbc⟩ := hcut
              have e1 : wc.cell? ⟨b, off + k * 5 + 1, none⟩ = some (.int .i64 g.seq) := (hbc.cell (p := ⟨b, off + k * 5 + 1, none⟩) hb0).trans HW1.out
              have HOw := Lib.hid hown
              have HBc := Lib.hid hbc
              clear d0 d1 hown hbc
              go_wp2_with fail
              go_roundw
              case rel => exact ⟨k + 1, by omega, by go_num, by rw [HLs.out], by rw [HYs.out, HG2.out, List.length_append]; exact (by simpa [gcells, GG.cells] using HOw.out), HBc.out⟩
              case measure => simp [intOf]; omega
    · have htk : gs.take k = gs := List.take_of_length_le (by rw [HL.out]; omega)
      have HRe := Lib.hid (by have := HR.out; rewrite [htk] at this; exact this)
      clear htk
      go_wp2_with fail
      go_ret
      exact ⟨_, rfl, HRe.out, HB.out⟩

end Go.Proofs.YtonnaiknlgmejaaGreatDoor

/-
  Contracts of the reference's functions on states: innkeeperref40.Valid.
-/
namespace Go.Proofs.YtonnaiknlgmejaaGreatDoor
open Go.RowKit Go.Shelf Go.Sort

/-- What a slice that owns gaps reads. -/
theorem gaps_of_own {w : World} {base : Nat} {v : Value} {xs : List GG} (h : w.ownsRow base 123 3 v xs.length (gcells xs)) : ∃ A c, v = .slice A xs.length c ∧ Gaps w w.heap.size A xs.length xs := by
  obtain ⟨A, c, rfl, _, _, hr⟩ := rd_of_own h (by decide)
  exact ⟨A, c, rfl, rfl, hr⟩

set_option maxRecDepth 100000 in
set_option maxHeartbeats 2000000 in
theorem validR40_any (A A2 : Option Addr) (n m c c2 : Nat) (gs : List GM) (gaps : List GG) (w : World) (hn : n ≤ 9223372036854775807) (hm : m ≤ 9223372036854775807) (hM : Msgs w w.heap.size A n gs) (hG : Gaps w w.heap.size A2 m gaps) :
    Calls Tryz.prog 38 #[.agg #[.slice A n c, .slice A2 m c2]] w fun e w' => e = .returned (.bool (validM (gs.map GM.msg) gaps)) ∧ Below w.heap.size w w' := by
  have HM := Lib.hid hM
  have HG := Lib.hid hG
  have HL := Lib.hid hM.len
  have HF := Lib.hid (show validM (gs.map GM.msg) gaps = (decide (gs.length ≤ 2000) && !gs.any notRight && chainB gs && decide (gaps = gapsM 0 0 (gs.map GM.msg))) from by rw [← validB_eq]; unfold validB; rw [gapsGo_eq])
  have HW0 := Lib.hid (alloc_below' w (.cells #[.slice A n c, .slice A2 m c2] 40))
  have HO0 := Lib.hid (show OutBlk (w.alloc (.cells #[.slice A n c, .slice A2 m c2] 40)) w.heap.size (.slice A n c) (.slice A2 m c2) from World.alloc_heap_new w _)
  have HR := Lib.hid (rightR_any A n c gs _ hn (hM.below HW0.out))
  clear hM hG
  cases hr : gs.any notRight
  rotate_left
  · have HR' := Lib.hid (by have := HR.out; rewrite [hr] at this; exact this)
    go_enter Tryz.func38, Tryz.ntmps38
    go_wp2_with fail
    refine HR'.out.mono ?_
    rintro e w1 ⟨rfl, hb1⟩
    have HB1 := Lib.hid (Below.t2 HW0.out hb1)
    clear hb1
    go_wp2_with fail
    go_ret
    exact ⟨by rw [HF.out, hr]; simp, HB1.out⟩
  have HR' := Lib.hid (by have := HR.out; rewrite [hr] at this; exact this)
  clear HR
  by_cases h2 : n ≤ 2000
  rotate_left
  · have h2' : 2000 < n := by omega
    have t2 : decide ((2000 : Int) < (n : Int)) = true := decide_eq_true (by omega)
    go_enter Tryz.func38, Tryz.ntmps38
    go_wp2_with fail
    refine HR'.out.mono ?_
    rintro e w1 ⟨rfl, hb1⟩
    have HB1 := Lib.hid (Below.t2 HW0.out hb1)
    clear hb1
    go_wp2_with fail
    go_ret
    exact ⟨by rw [HF.out, decide_eq_false (show ¬ gs.length ≤ 2000 from by rw [HL.out]; omega)]; simp, HB1.out⟩
  have HSeq := Lib.hid (right_seq hr)
  have HNr := Lib.hid hr
  clear hr
  go_enter Tryz.func38, Tryz.ntmps38
  go_wp2_with fail
  refine HR'.out.mono ?_
  rintro e w1 ⟨rfl, hb1⟩
  have HB1 := Lib.hid (Below.t2 HW0.out hb1)
  have HO1 := Lib.hid (HO0.out.below hb1)
  clear hb1 HR'
  go_wp2_with fail
  go_loopw [5] (fun i wr => ∃ k : Nat, (k < n ∨ k = 0) ∧ i = .int .i64 ((k : Int) + 1) ∧ (∀ (j : Nat) (h : j + 1 < gs.length), j + 1 ≤ k → ltM gs[j] gs[j + 1] = true) ∧ Below w1.heap.size w1 wr) (fun i _ => n + 1 - (intOf i).toNat)
  case atStart => exact ⟨0, .inr rfl, rfl, fun j h h0 => by omega, Below.refl _ _⟩
  case round =>
    obtain ⟨k, hk, rfl, hch, hB⟩ := hrel
    have HC := Lib.hid hch
    have HB := Lib.hid hB
    clear hch hB
    by_cases hlt : k + 1 < n
    · have hkl : k + 1 < gs.length := by rw [HL.out]; exact hlt
      have HX := Lib.hid (Below.t2 HB1.out HB.out)
      obtain ⟨b, off, e, hb, hc⟩ := (HM.out.below HX.out).at_ (by omega)
      obtain ⟨p0, p1, p2, p3, p4⟩ := hc k (by omega)
      obtain ⟨q0, q1, q2, q3, q4⟩ := hc (k + 1) hkl
      have f0 := kp_cell (w := wr) (a := ⟨b, off + k * 5, none⟩) hb p0
      have f1 := kp_cell (w := wr) (a := ⟨b, off + k * 5 + 1, none⟩) hb p1
      have f2 := kp_cell (w := wr) (a := ⟨b, off + k * 5 + 2, none⟩) hb p2
      have f3 := kp_cell (w := wr) (a := ⟨b, off + k * 5 + 3, none⟩) hb p3
      have f4 := kp_cell (w := wr) (a := ⟨b, off + k * 5 + 4, none⟩) hb p4
      have g0 := kp_cell (w := wr) (a := ⟨b, off + (k + 1) * 5, none⟩) hb q0
      have g1 := kp_cell (w := wr) (a := ⟨b, off + (k + 1) * 5 + 1, none⟩) hb q1
      have g2 := kp_cell (w := wr) (a := ⟨b, off + (k + 1) * 5 + 2, none⟩) hb q2
      have g3 := kp_cell (w := wr) (a := ⟨b, off + (k + 1) * 5 + 3, none⟩) hb q3
      have g4 := kp_cell (w := wr) (a := ⟨b, off + (k + 1) * 5 + 4, none⟩) hb q4
      have HLt := Lib.hid (show ltM gs[k] gs[k + 1] = ltMM gs[k].msg gs[k + 1].msg from rfl)
      have HNo := Lib.hid (show ltM gs[k] gs[k + 1] = false → chainB gs = false from fun h => by
        cases hx : chainB gs
        · rfl
        · rw [(chainB_iff gs).1 hx k hkl] at h; cases h)
      have HYes := Lib.hid (show ltM gs[k] gs[k + 1] = true → ∀ (j : Nat) (h : j + 1 < gs.length), j + 1 ≤ k + 1 → ltM gs[j] gs[j + 1] = true from fun hx j h h0 => by
        by_cases hj : j + 1 ≤ k
        · exact HC.out j h hj
        · obtain rfl : j = k := by omega
          exact hx)
      rw [HLt.out] at HNo HYes
      have HBf := Lib.hid (fun q : Kp wr => before40_any gs[k] gs[k + 1] q.x)
      subst e
      clear hc p0 p1 p2 p3 p4 q0 q1 q2 q3 q4 HLt
      generalize gs[k] = x at *
      generalize gs[k + 1] = y at *
      go_upto_region 8 with fail
      cases hx : ltMM x.msg y.msg
      · have HBf' := Lib.hid (by have := HBf.out; rewrite [hx] at this; exact this)
        refine region_below (by kernel_rfl) (by kernel_rfl) ?_
        repeat (first | go_big_quiet_step ((go_at_call 77; exact kp_call _ (HBf'.out _))) | quiet_step ((go_at_call 77; exact kp_call _ (HBf'.out _))))
        refine wpQuiet_nil ?_
        rintro _ ⟨⟨w6, hb6⟩, rfl⟩
        have HB6 := Lib.hid (Below.t2 HX.out hb6)
        clear hb6
        go_wp2_with fail
        go_ret
        exact ⟨by rw [HF.out, HNo.out hx]; simp, HB6.out⟩
      · have HBf' := Lib.hid (by have := HBf.out; rewrite [hx] at this; exact this)
        refine region_below (by kernel_rfl) (by kernel_rfl) ?_
        repeat (first | go_big_quiet_step ((go_at_call 77; exact kp_call _ (HBf'.out _))) | quiet_step ((go_at_call 77; exact kp_call _ (HBf'.out _))))
        refine wpQuiet_nil ?_
        rintro _ ⟨⟨w6, hb6⟩, rfl⟩
        have HB6 := Lib.hid (Below.t2 HB.out hb6)
        clear hb6
        go_wp2_with fail
        go_roundw
        case rel => exact ⟨k + 1, by omega, by go_num, HYes.out hx, HB6.out⟩
        case measure => simp [intOf]; omega
    · have hch : chainB gs = true := (chainB_iff gs).2 fun j h => HC.out j h (by have := HL.out; omega)
      have HF2 := Lib.hid (show validM (gs.map GM.msg) gaps = decide (gaps = gapsM 0 0 (gs.map GM.msg)) from by rw [HF.out, decide_eq_true (by rw [HL.out]; exact h2), HNr.out, hch]; rfl)
      have HX := Lib.hid (Below.t2 HB1.out HB.out)
      have HOx := Lib.hid (HO1.out.below HB.out)
      have s1 := HOx.out.c1
      have hlx := HOx.out.lt
      have HK := Lib.hid (fun (W : World) (h : Below wr.heap.size wr W) => (HOx.out.below h).c1)
      clear hch HC
      generalize hD : decide (gaps = gapsM 0 0 (gs.map GM.msg)) = D at *
      go_upto_region 10 with fail
      go_region_held3 (fun w' => w'.cell? ⟨w.heap.size, 1, none⟩ = some (.slice A2 m c2))
        (first | go_keep | exact HK.out _ HB7.out | exact HK.out _ HB8.out)
        (first
          | (go_at_call 79; refine (gapsR_any A n c gs _ h2 HSeq.out ((HM.out.below HX.out).below ?b1)).mono ?_; (case b1 => repeat (first | exact Below.refl wr.heap.size wr | refine Below.drew ?_)); rintro e w7 ⟨v, rfl, hrow, hb7⟩; have HB7 := Lib.hid (show Below wr.heap.size wr w7 from Below.t2 (by repeat (first | exact Below.refl wr.heap.size wr | refine Below.drew ?_)) hb7); obtain ⟨Ag, cg, hv, hgp⟩ := gaps_of_own hrow; subst hv; have HGp := Lib.hid hgp; clear hrow hb7 hgp)
          | (go_at_call 78; refine (sameGaps_any A2 Ag m _ c2 cg gaps _ _ hm (HG.out.below (Below.t2 HX.out HB7.out)) HGp.out).mono ?_; rw [hD]; rintro e w8 ⟨rfl, hb8⟩; have HB8 := Lib.hid (Below.t2 HB7.out hb8); clear hb8))
      go_wp2_with fail
      go_ret
      exact ⟨by rw [HF2.out]; rfl, Below.t2 HX.out HB8.out⟩

end Go.Proofs.YtonnaiknlgmejaaGreatDoor

/-
  Words that the laws of rules and court share: messages added to a valid state.
-/
namespace Go.Proofs.YtonnaiknlgmejaaGreatDoor
open Go.RowKit Go.Shelf Go.Sort

theorem validM_good {ms : List Msg} {gaps : List GG} (h : validM ms gaps = true) : ms.length ≤ 2000 ∧ ms.all rightB = true ∧ ms.Pairwise (fun x y => ltMM x y = true) := by
  unfold validM at h
  simp only [Bool.and_eq_true, decide_eq_true_eq] at h
  exact ⟨h.1.1.1, h.1.1.2, chainM_iff.1 h.1.2⟩
/-- Messages added to a valid state, if they do not contradict it: a valid state that has the messages of both. -/
theorem add_grows {ms l pm : List Msg} {gaps pg : List GG} (hv : validM ms gaps = true) (h : addP ms gaps l = (0, pm, pg)) : validM pm pg = true ∧ Grows ms pm ∧ ∀ x, x ∈ pm ↔ x ∈ ms ∨ x ∈ l := by
  have hp := validM_good hv
  unfold addP at h
  rw [hv] at h
  cases hr : l.all rightB
  · rw [hr] at h; simp at h
  · rw [hr] at h
    have h' : joinP (ms ++ l) = (0, pm, pg) := h
    have hall : (ms ++ l).all rightB = true := by rw [List.all_append, hp.2.1, hr]; rfl
    obtain ⟨h1, h2, h3, _⟩ := joinP_valid hall h'
    have hm : ∀ x, x ∈ pm ↔ x ∈ ms ∨ x ∈ l := fun x => by rw [h2, mem_uniq h3, List.mem_append]
    have hp' := validM_good h1
    exact ⟨h1, ⟨hp.2.2, hp'.2.2, hp.2.1, hp'.2.1, fun m h => (hm m).2 (.inl h)⟩, hm⟩
theorem StRes.part {k : Int} {ms : List Msg} {gp : List GG} {w w' : World} {e : Ending} (h : StRes (k, ms, gp) w e w') :
  ∃ A c A2 c2 gs, gs.map GM.msg = ms ∧ e = .returned (.tuple #[.agg #[.slice A gs.length c, .slice A2 gp.length c2], .int .i64 k]) ∧ gs.length ≤ 2000 ∧ gp.length ≤ 2000 ∧
    Msgs w' w'.heap.size A gs.length gs ∧ Gaps w' w'.heap.size A2 gp.length gp ∧ Below w.heap.size w w' := by
  obtain ⟨A, c, A2, c2, gs, h1, h2, h3, h4, _, _, h5, h6, h7⟩ := h
  exact ⟨A, c, A2, c2, gs, h1, h2, h3, h4, h5, h6, h7⟩
theorem few80 {gs : List GM} (h : fewB gs = true) : gs.length ≤ 80 := by
  unfold fewB at h
  simp only [Bool.and_eq_true, decide_eq_true_eq] at h
  exact h.2

end Go.Proofs.YtonnaiknlgmejaaGreatDoor

/-
  Words that law41's walks share.
-/
namespace Go.Proofs.YtonnaiknlgmejaaGreatDoor
open Go.RowKit Go.Shelf Go.Sort

/-- What law41's head comes to. -/
def HeadOk41 : Prop := ∀ w : World, Tab w → Calls Tryz.prog 6 #[] w fun e w' => e = .returned (.bool true) ∧ Below w.heap.size w w'

/-- What the list of all verdicts is, of messages. -/
def AllIs (ms : List Msg) (xs : List Vd) : Prop := ∃ la lb lc ld, xs = la ++ lb ++ lc ++ ld ∧ VdIs la (salesV ms) ∧ VdIs lb (roomsV ms) ∧ VdIs lc (pricesV ms) ∧ VdIs ld (doorsV ms)
theorem AllIs.mem {ms : List Msg} {xs : List Vd} (h : AllIs ms xs) (v : Vd) : v ∈ xs ↔ salesV ms v ∨ roomsV ms v ∨ pricesV ms v ∨ doorsV ms v := by
  obtain ⟨la, lb, lc, ld, rfl, ha, hb, hc, hd⟩ := h
  simp [ha.m, hb.m, hc.m, hd.m]
theorem AllIs.grows {ms ms' : List Msg} {xs ys : List Vd} (h : AllIs ms xs) (h' : AllIs ms' ys) (g : Grows ms ms') {v : Vd} (hv : v ∈ xs) : v ∈ ys := by
  rw [h'.mem]
  rcases (h.mem v).1 hv with k | k | k | k
  · exact .inl (g.sales k)
  · exact .inr (.inl (g.rooms k))
  · exact .inr (.inr (.inl (g.prices k)))
  · exact .inr (.inr (.inr (g.doors k)))
theorem AllIs.others {ms ms' : List Msg} {xs ys : List Vd} (h : AllIs ms xs) (h' : AllIs ms' ys) (g : Others ms ms') : xs = ys := by
  obtain ⟨la, lb, lc, ld, rfl, ha, hb, hc, hd⟩ := h
  obtain ⟨la', lb', lc', ld', rfl, ha', hb', hc', hd'⟩ := h'
  rw [ha.same ha' (fun v => (g.sales v).symm), hb.same hb' (fun v => (g.rooms v).symm), hc.same hc' (fun v => (g.prices v).symm), hd.same hd' (fun v => (g.doors v).symm)]

/-- What all comes to, its list by one name. -/
def AllRes1 (ms : List Msg) (w : World) (e : Ending) (w' : World) : Prop :=
  ∃ A c xs, e = .returned (.tuple #[.slice A xs.length c, .bool true]) ∧ AllIs ms xs ∧ xs.length ≤ 2000000000 ∧ Vds w' w'.heap.size A xs.length xs ∧ Below w.heap.size w w'
theorem all1_any (A A2 : Option Addr) (n m c c2 : Nat) (gs : List GM) (gaps : List GG) (w : World) (hn : n ≤ 9223372036854775807) (hm : m ≤ 9223372036854775807) (hT : Tab w) (hM : Msgs w w.heap.size A n gs) (hG : Gaps w w.heap.size A2 m gaps) (hv : validM (gs.map GM.msg) gaps = true) :
    Calls Tryz.prog 9 #[.agg #[.slice A n c, .slice A2 m c2]] w (AllRes1 (gs.map GM.msg) w) :=
  (all_any A A2 n m c c2 gs gaps w hn hm hT hM hG (by rw [validB_eq]; exact hv)).mono fun e w' h => by
    obtain ⟨A, c, la, lb, lc, ld, rfl, ha, hb, hc, hd, hl, hV, hB⟩ := h
    exact ⟨A, c, _, rfl, ⟨la, lb, lc, ld, rfl, ha, hb, hc, hd⟩, hl, hV, hB⟩

end Go.Proofs.YtonnaiknlgmejaaGreatDoor

/-
  (*life).tell, sell, assign, once more: where the Args of the new message lie. Printed by gen_life2.py.
-/
namespace Go.Proofs.YtonnaiknlgmejaaGreatDoor
open Go.RowKit Go.Shelf

/-- The Args of what is new lie in blocks from n on. -/
def ArgsNew (n : Nat) (gs gs' : List GM) : Prop := ∀ g ∈ gs', g ∈ gs ∨ ∃ b, g.A = some ⟨b, 0, none⟩ ∧ n ≤ b
theorem ArgsNew.mono {n m : Nat} {gs gs' : List GM} (h : ArgsNew n gs gs') (hm : m ≤ n) : ArgsNew m gs gs' := fun g hg => (h g hg).imp id fun ⟨b, h1, h2⟩ => ⟨b, h1, Nat.le_trans hm h2⟩
theorem ArgsNew.tr {n m : Nat} {a b c : List GM} (h : ArgsNew n a b) (k : ArgsNew m b c) (hm : n ≤ m) : ArgsNew n a c := fun g hg => (k g hg).elim (h g) fun ⟨b, h1, h2⟩ => .inr ⟨b, h1, Nat.le_trans hm h2⟩
theorem ArgsNew.refl (n : Nat) (gs : List GM) : ArgsNew n gs gs := fun _ hg => .inl hg

set_option maxRecDepth 100000 in
set_option maxHeartbeats 4000000 in
theorem tell_any2 {F : Nat → Prop} {P : Nat} {w : World} {L : Life} {vm vs vc : Value} {gs : List GM} (h : LifeAt F P w L vm vs vc gs) (hn : L.msgs.length ≤ 1000000) (p k : Int) (A : Option Addr) (n c b : Nat) (args : List Int) (hA : A = some ⟨b, 0, none⟩) (hb : F b) (hok : (GM.mk p (seqOf L.msgs p) L.time k A n c args).ok w w.heap.size) :
    Calls Tryz.prog 33 #[.pointer (some ⟨P, 0, none⟩), .int .i64 p, .int .i64 k, .slice A n c] w fun e w' => e = .returned (.tuple #[]) ∧ Fr F w w' ∧ ∃ vm' gs', LifeAt F P w' (L.tell p k args) vm' vs vc gs' ∧ ∀ g ∈ gs', g ∈ gs ∨ g.A = A := by
  have hgl : gs.length ≤ 1000000 := by rw [h.glen]; exact hn
  have HGm := Lib.hid h.gm
  obtain ⟨A0, c0, rfl, hc0, hMs⟩ := h.msgs_at
  have HL := Lib.hid h
  have HM := Lib.hid hMs
  have HOk := Lib.hid hok
  have HA := Lib.hid hA
  clear h hMs hok hA
  obtain ⟨i0, hi, hz0, hz1, hz2⟩ := info_parts info_msg
  go_enter Tryz.func33, Tryz.ntmps33
  go_wp2_with fail
  go_loopw [8, 9] (fun sq i wr => ∃ j : Nat, j ≤ gs.length ∧ i = .int .i64 j ∧ sq = .int .i64 (seqOf ((gs.take j).map GM.msg) p) ∧ Below w.heap.size w wr) (fun _ i _ => gs.length - (intOf i).toNat)
  case atStart => exact ⟨0, Nat.zero_le _, rfl, rfl, Below.refl _ _⟩
  case round =>
    obtain ⟨j, hj, rfl, rfl, hB⟩ := hrel
    have HB := Lib.hid hB
    have HLr := Lib.hid (HL.out.keep hB)
    have z1 := HLr.out.cell cells_msgs
    have hsb := seqOf_bounds ((gs.take j).map GM.msg) p
    have hsl : ((gs.take j).map GM.msg).length ≤ j := by rw [List.length_map, List.length_take]; omega
    clear hB
    by_cases hlt : j < gs.length
    · have hS := seqOf_snoc ((gs.take j).map GM.msg) gs[j].msg p
      have HT := Lib.hid (show (gs.take (j + 1)).map GM.msg = (gs.take j).map GM.msg ++ [gs[j].msg] from by rw [List.take_succ_eq_append_getElem hlt, List.map_append]; rfl)
      have HS := Lib.hid (by rewrite [← HT.out] at hS; exact hS)
      clear hS
      obtain ⟨b1, o1, rfl, hb1, hcs⟩ := (HM.out.to HB.out HB.out.size).at_ (by omega)
      obtain ⟨q0, q1, q2, q3, q4⟩ := hcs j hlt
      clear hcs q1 q2 q3 q4
      generalize hse : seqOf ((gs.take j).map GM.msg) p = s at *
      generalize gs[j] = x at *
      cases hp : (x.party == p)
      · have HS2 := Lib.hid (show seqOf ((gs.take (j + 1)).map GM.msg) p = s from HS.out.trans (by rw [show (x.msg.party == p) = false from hp]; rfl))
        go_wp2_with fail
        go_roundw
        case rel => exact ⟨j + 1, by omega, by go_num, by rw [HS2.out], HB.out⟩
        case measure => simp [intOf]; omega
      · have HS2 := Lib.hid (show seqOf ((gs.take (j + 1)).map GM.msg) p = s + 1 from HS.out.trans (by rw [show (x.msg.party == p) = true from hp]; rfl))
        go_wp2_with fail
        go_roundw
        case rel => exact ⟨j + 1, by omega, by go_num, by rw [HS2.out], HB.out⟩
        case measure => simp [intOf]; omega
    · have HSq := Lib.hid (show seqOf ((gs.take j).map GM.msg) p = seqOf L.msgs p from by rw [List.take_of_length_le (by omega), HGm.out])
      rw [HSq.out]
      have z0 := HLr.out.cell cells_time
      have hlP := HLr.out.lt
      clear hsb hsl
      generalize hse : seqOf L.msgs p = s at *
      have HTl := Lib.hid (show L.tell p k args = { L with msgs := L.msgs ++ [(GM.mk p s L.time k A n c args).msg] } from by unfold Life.tell; rw [hse]; rfl)
      go_upto_region 6 with fail
      have HC0 := Lib.hid (show ∀ u ∈ ([.int .i64 p, .int .i64 s, .int .i64 L.time, .int .i64 k, .slice A n c] : List Value), u.oneCell' = true from by simp [Value.oneCell'])
      have HC1 := Lib.hid (show gs.length + 1 ≤ maxLen from by unfold maxLen; omega)
      have HC2 := Lib.hid (show (gs.length + 1) * 56 ≤ 140737488355328 from by omega)
      go_region_law (first | (refine step_append_lies _ rfl (.tmp 35) (.tmp 45) 27 rfl 0 37 i0 (.agg #[.int .i64 0, .int .i64 0, .int .i64 0, .int .i64 0, .slice none 0 0]) 5 56 Tryz.underlying27 hi hz0 hz1 hz2 rfl (by decide) (.slice A0 gs.length c0) gs.length (mcells gs) (by simp [Act.eval]) HL2.out.om ⟨w1.heap.size, 0, none⟩ 1 1 [.int .i64 p, .int .i64 s, .int .i64 L.time, .int .i64 k, .slice A n c] (by simp [Act.eval]) rfl HN.out HC0.out (by decide) HC1.out HC2.out (Nat.zero_le _) _ rfl ?_; intro g' cap w4 hown hgrow hat hltg; have HT := Lib.hid (HL2.out.tell_step (x := GM.mk p s L.time k A n c args) hgrow hown hat ((HOk.out).to HB2.out HB2.out.size) HA.out hb); have z1' := (hgrow.cell_far ⟨P, 1, none⟩ HL2.out.lt (fun e => HL2.out.pm e.symm)).trans x1; have zf' := (hgrow.frozen_far ⟨P, 1, none⟩ HL2.out.lt (fun e => HL2.out.pm e.symm)).trans (HL2.out.fr 1); clear hown hgrow hat hltg) | (go_simp; go_at_call 22; refine (message_any _ _ _ _ _ _ _ _).mono ?_; rintro e w1 ⟨rfl, hb1⟩; have hb1' : Below wr.heap.size wr w1 := ⟨hb1.os, hb1.tape, hb1.output, hb1.size, hb1.block⟩; have HL1 := Lib.hid (HLr.out.keep hb1'); have y0 := HL1.out.cell cells_time; have y1 := HL1.out.cell cells_msgs; have HL2 := Lib.hid (HL1.out.keep (alloc_b w1 (.cells #[.int .i64 p, .int .i64 s, .int .i64 L.time, .int .i64 k, .slice A n c] 37))); have x0 := HL2.out.cell cells_time; have x1 := HL2.out.cell cells_msgs; have HN := Lib.hid (cell_lit_new w1 #[.int .i64 p, .int .i64 s, .int .i64 L.time, .int .i64 k, .slice A n c] 37); have HB2 := Lib.hid ((HB.out.tr hb1').al (.cells #[.int .i64 p, .int .i64 s, .int .i64 L.time, .int .i64 k, .slice A n c] 37)); clear hb1 hb1'))
      all_goals (go_wp2_with fail; go_end0; exact ⟨rfl, (Fr.of_below HB2.out (fun q hq => (HL.out.hF q hq).1)).tr HT.out.2, _, _, by rw [HTl.out]; exact HT.out.1, fun g hg => (List.mem_append.1 hg).elim .inl (fun e => .inr (by rw [List.mem_singleton.1 e]))⟩)

theorem tell_new2 {F : Nat → Prop} {P : Nat} {w : World} {L : Life} {vm vs vc : Value} {gs : List GM} (h : LifeAt F P w L vm vs vc gs) (hn : L.msgs.length ≤ 1000000) (ht : 0 ≤ L.time ∧ L.time ≤ 1000000) (p k : Int) (cs : Array Value) (args : List Int) (n : Nat) (hc : cs.toList = args.map (Value.int .i64)) (hln : args.length = n) (B : Nat) (hB : w.heap.size = B)
    (hp : 0 ≤ p ∧ p ≤ 10000) (hk : 0 ≤ k ∧ k ≤ 10000) (hl : n ≤ 100) (ha : ∀ x ∈ args, -1000000 ≤ x ∧ x ≤ 1000000) :
    Calls Tryz.prog 33 #[.pointer (some ⟨P, 0, none⟩), .int .i64 p, .int .i64 k, .slice (some ⟨B, 0, none⟩) n n] (w.alloc (.cells cs 3)) fun e w' => e = .returned (.tuple #[]) ∧ Fr F w w' ∧ ∃ vm' gs', LifeAt F P w' (L.tell p k args) vm' vs vc gs' ∧ ArgsNew w.heap.size gs gs' := by
  subst hln
  subst hB
  have hm := h.more (G := fun q => F q ∨ q = w.heap.size) (alloc_b w (.cells cs 3)) (fun q hq => hq.elim .inl (fun e => .inr ⟨by omega, by rw [World.size_alloc]; omega⟩))
  have hsb := seqOf_bounds L.msgs p
  have hok := litG_at (World.alloc_heap_new w (.cells cs 3)) hc p (seqOf L.msgs p) L.time k (i64_of (by omega)) (i64_of (by omega)) (i64_of (by omega)) (i64_of (by omega)) hl (fun x hx => i64_of (by have := ha x hx; omega))
  refine (tell_any2 hm hn p k (some ⟨w.heap.size, 0, none⟩) args.length args.length w.heap.size args rfl (.inr rfl) hok).mono ?_
  rintro e w' ⟨h1, h2, vm', gs', h3, h4⟩
  exact ⟨h1, (Fr.of_below (alloc_b w _) (fun q hq => (h.hF q hq).1)).tr (h2.sub fun q hq => .inl hq), vm', gs', h3.sub fun q hq => .inl hq, fun g hg => (h4 g hg).elim .inl (fun e => .inr ⟨_, e, Nat.le_refl _⟩)⟩

set_option maxRecDepth 100000 in
set_option maxHeartbeats 4000000 in
theorem sell_any2 {F : Nat → Prop} {P : Nat} {w : World} {L : Life} {vm vs vc : Value} {gs : List GM} (h : LifeAt F P w L vm vs vc gs) (hn : L.msgs.length ≤ 1000000) (hs : L.stays.length ≤ 1000) (ht : 0 ≤ L.time ∧ L.time ≤ 1000000) (ch fr un cut : Int) (h1 : 0 ≤ ch ∧ ch ≤ 1000) (h2 : 0 ≤ fr ∧ fr ≤ 1000) (h3 : 0 ≤ un ∧ un ≤ 1000) (h4 : 0 ≤ cut ∧ cut ≤ 1) :
    Calls Tryz.prog 32 #[.pointer (some ⟨P, 0, none⟩), .int .i64 ch, .int .i64 fr, .int .i64 un, .int .i64 cut] w fun e w' => e = .returned (.tuple #[]) ∧ Fr F w w' ∧ ∃ vm' vs' gs', LifeAt F P w' (L.sell ch fr un cut) vm' vs' vc gs' ∧ ArgsNew w.heap.size gs gs' := by
  obtain ⟨As, cs, rfl⟩ := h.stays_val
  obtain ⟨nid, hnid⟩ : ∃ x, x = L.nid := ⟨_, rfl⟩
  have hnid2 : 1 + (L.stays.length : Int) = nid := by rw [hnid]; rfl
  have HNid := Lib.hid hnid
  have hnb : 0 ≤ nid ∧ nid ≤ 1001 := by omega
  clear hnid
  have HL := Lib.hid h
  have z34 := h.cell (cells_stays h.l1)
  have HL2 := Lib.hid (h.keep (alloc_b w (.cells #[.int .i64 nid, .int .i64 fr, .int .i64 un, .int .i64 0, .bool false] 138)))
  have x34 := HL2.out.cell (cells_stays h.l1)
  have HN := Lib.hid (cell_lit_new w #[.int .i64 nid, .int .i64 fr, .int .i64 un, .int .i64 0, .bool false] 138)
  have HC0 := Lib.hid (show ∀ u ∈ ([.int .i64 nid, .int .i64 fr, .int .i64 un, .int .i64 0, .bool false] : List Value), u.oneCell' = true from by simp [Value.oneCell'])
  have HC1 := Lib.hid (show L.stays.length + 1 ≤ maxLen from by unfold maxLen; omega)
  have HC2 := Lib.hid (show (L.stays.length + 1) * 40 ≤ 140737488355328 from by omega)
  have HFr := Lib.hid (Fr.of_below (alloc_b w (.cells #[.int .i64 nid, .int .i64 fr, .int .i64 un, .int .i64 0, .bool false] 138)) (fun q hq => (h.hF q hq).1))
  clear h
  obtain ⟨i0, hi, hz0, hz1, hz2⟩ := info_parts info_st1
  go_enter Tryz.func32, Tryz.ntmps32
  go_wp2_with (at_builtin; refine wpList_append_lies _ rfl _ _ 30 rfl 0 138 i0 (.agg #[.int .i64 0, .int .i64 0, .int .i64 0, .int .i64 0, .bool false]) 5 40 Tryz.underlying30 hi hz0 hz1 hz2 rfl (by decide) (.slice As L.stays.length cs) L.stays.length (stCells L.stays) rfl HL2.out.os ⟨w.heap.size, 0, none⟩ 1 1 [.int .i64 nid, .int .i64 fr, .int .i64 un, .int .i64 0, .bool false] rfl rfl HN.out HC0.out (by decide) HC1.out HC2.out (Nat.zero_le _) _ rfl ?_; intro g' cap w4 hown hgrow hat hltg; have HS := Lib.hid (HL2.out.stay_step (x := ⟨nid, fr, un, 0, false⟩) hgrow hown hat); have z1' := (hgrow.cell_far ⟨P, 34, none⟩ HL2.out.lt (fun e => HL2.out.ps e.symm)).trans x34; have zf' := (hgrow.frozen_far ⟨P, 34, none⟩ HL2.out.lt (fun e => HL2.out.ps e.symm)).trans (HL2.out.fr 34); have HGr := Lib.hid (show w.heap.size ≤ (w4.setCell ⟨P, 34, none⟩ (.slice (some ⟨g', 0, none⟩) (L.stays.length + 1) cap)).heap.size from by have h1 := hgrow.size; simp at h1 ⊢; omega); clear hown hgrow hat hltg)
  have HS1 := Lib.hid (show LifeAt F P _ (L.addStay fr un) _ _ _ _ from by unfold Life.addStay; rw [← HNid.out]; exact HS.out.1)
  refine (tell_new2 HS1.out hn ht (1000 + ch) 1 #[.int .i64 nid, .int .i64 1, .int .i64 fr, .int .i64 un, .int .i64 2, .int .i64 cut, .int .i64 (100 * nid)] [nid, 1, fr, un, 2, cut, 100 * nid] 7 rfl rfl w4.heap.size (by simp) (by omega) (by omega) (by omega) ?_).mono ?_
  · intro x hx
    simp only [List.mem_cons, List.not_mem_nil, or_false] at hx
    rcases hx with rfl | rfl | rfl | rfl | rfl | rfl | rfl <;> omega
  rintro e w5 ⟨rfl, hf, vm', gs', hl, hgn⟩
  have HGN := Lib.hid (hgn.mono HGr.out)
  clear hgn
  have HFin := Lib.hid hf
  have HLf := Lib.hid (show LifeAt F P w5 (L.sell ch fr un cut) vm' _ vc gs' from by unfold Life.sell; rw [← HNid.out]; exact hl)
  clear hf hl
  go_wp2_with fail
  go_end0
  exact ⟨rfl, (HFr.out.tr HS.out.2).tr HFin.out, _, _, _, HLf.out, HGN.out⟩

set_option maxRecDepth 100000 in
set_option maxHeartbeats 4000000 in
theorem assign_any2 {F : Nat → Prop} {P : Nat} {w : World} {L : Life} {vm vs vc : Value} {gs : List GM} (h : LifeAt F P w L vm vs vc gs) (hn : L.msgs.length ≤ 1000000) (_hs : L.stays.length ≤ 1000) (ht : 0 ≤ L.time ∧ L.time ≤ 1000000) (k : Nat) (hk : k < L.stays.length) (s : St1) (hsk : L.stays[k] = s) (room : Int) (hr : 0 ≤ room ∧ room ≤ 1000)
    (hb : 0 ≤ s.id ∧ s.id ≤ 10000 ∧ 0 ≤ s.fr ∧ s.fr ≤ 1000 ∧ 0 ≤ s.un ∧ s.un ≤ 1000) :
    Calls Tryz.prog 34 #[.pointer (some ⟨P, 0, none⟩), .int .i64 k, .int .i64 room] w fun e w' => e = .returned (.tuple #[]) ∧ Fr F w w' ∧ ∃ vm' gs', LifeAt F P w' (L.assign k s room) vm' vs vc gs' ∧ ArgsNew w.heap.size gs gs' := by
  obtain ⟨g, cap, rfl, hcap, hgl, hcs, hfr⟩ := h.stay_at hk
  rw [hsk] at hcs
  have z34 := h.cell (cells_stays h.l1)
  obtain ⟨hst, hfr0⟩ := h.stay_store (k := k) (j := 3) (u := .int .i64 room) (y := { s with room := room }) rfl hk (by decide) (by rw [hsk]; rfl)
  have c3 := hcs 3 _ rfl
  have f3 := hfr (k * 5 + 3)
  have HL := Lib.hid h
  have HS := Lib.hid hst
  have HF0 := Lib.hid hfr0
  have hks : k < (L.setStay k { s with room := room }).stays.length := by simpa [Life.setStay] using hk
  obtain ⟨g2, cap2, hv2, hx1, hgl2, hcs2, hx2⟩ := hst.stay_at hks
  clear hx1 hx2
  have hsg : (L.setStay k { s with room := room }).stays[k] = { s with room := room } := by simp [Life.setStay]
  rw [hsg] at hcs2
  obtain rfl : g = g2 := by have := congrArg Value.ownBlock hv2; exact Option.some.inj this
  have d0 : (w.setCell ⟨g, k * 5 + 3, none⟩ (.int .i64 room)).cell? ⟨g, k * 5, none⟩ = some (.int .i64 s.id) := hcs2 0 _ rfl
  have d1 : (w.setCell ⟨g, k * 5 + 3, none⟩ (.int .i64 room)).cell? ⟨g, k * 5 + 1, none⟩ = some (.int .i64 s.fr) := hcs2 1 _ rfl
  have d2 : (w.setCell ⟨g, k * 5 + 3, none⟩ (.int .i64 room)).cell? ⟨g, k * 5 + 2, none⟩ = some (.int .i64 s.un) := hcs2 2 _ rfl
  clear hv2 hgl2
  have hki : (k : Int) < (L.stays.length : Int) := by omega
  have hki0 : (0 : Int) ≤ (k : Int) := by omega
  have HAs := Lib.hid (show L.assign k s room = (L.setStay k { s with room := room }).tell 2001 5 [s.id, room, s.fr, s.un] from rfl)
  clear h hst hfr0 hcs hcs2 hfr hsk hsg hks
  go_enter Tryz.func34, Tryz.ntmps34
  go_upto_region 2 with fail
  generalize hwe : w.setCell ⟨g, k * 5 + 3, none⟩ (.int .i64 room) = w1 at *
  have HGr := Lib.hid (show w.heap.size ≤ w1.drew.heap.size from by show w.heap.size ≤ w1.heap.size; rw [← hwe]; simp)
  clear hwe c3 f3 z34
  go_region_law (first | (go_simp; go_at_call 33; refine (tell_new2 HS.out.drew hn ht 2001 5 #[.int .i64 s.id, .int .i64 room, .int .i64 s.fr, .int .i64 s.un] [s.id, room, s.fr, s.un] 4 rfl rfl _ (by simp) (by omega) (by omega) (by omega) (by intro x hx; simp only [List.mem_cons, List.not_mem_nil, or_false] at hx; rcases hx with rfl | rfl | rfl | rfl <;> omega)).mono ?_; rintro e w5 ⟨rfl, hf, vm', gs', hl, hgn⟩; have HFin := Lib.hid (HF0.out.tr hf.undrew); have HLf := Lib.hid hl; have HGN := Lib.hid (hgn.mono HGr.out); clear hf hl hgn))
  all_goals (go_wp2_with fail; go_end0; exact ⟨rfl, HFin.out, _, _, by rw [HAs.out]; exact HLf.out, HGN.out⟩)

end Go.Proofs.YtonnaiknlgmejaaGreatDoor
