/-
  The law MergeWhole, walked: it returns true.
-/
import Derived.Test.YtghnbffmkcjlhaaDoorHead
import Derived.Test.YtghnbffmkcjlhaaDoorLaw
import Derived.Test.YtghnbffmkcjlhaaDoorAppend
import Derived.Test.YtghnbffmkcjlhaaDoorPlainWhole
import Derived.Outline
import Derived.Deep.DeepCutAuto
namespace Go.Proofs.YtghnbffmkcjlhaaDoor
open Go.RowKit Go.Shelf Go.Sort

/-- A block of one number. -/
def IntBlk (w : World) (b : Nat) (x : Int) : Prop := w.heap[b]? = some (.cells #[.int .i64 x] 3 (0, 0))
section
variable {w w' : World} {b : Nat} {x : Int}
theorem IntBlk.lt (h : IntBlk w b x) : b < w.heap.size := (Array.getElem?_eq_some_iff.1 h).1
theorem IntBlk.c0 (h : IntBlk w b x) : w.cell? ⟨b, 0, none⟩ = some (.int .i64 x) := by unfold World.cell?; rw [h]; rfl
theorem IntBlk.below (h : IntBlk w b x) (hb : Below w.heap.size w w') : IntBlk w' b x := (hb.block b h.lt).trans h
theorem IntBlk.alloc (h : IntBlk w b x) (o : Obj) : IntBlk (w.alloc o) b x := (Below.heap_alloc w o b h.lt).trans h
theorem IntBlk.grown {base n : Nat} {v : Value} {xs : List Value} (h : IntBlk w b x) (hR : w.ownsRow base 28 5 v n xs) (hg : w.grownBy w' v.ownBlock) : IntBlk w' b x := by
  refine (hg.block b h.lt (fun e => ?_)).trans h
  rcases hR.2 with ⟨rfl, _⟩ | ⟨g, cap, cur, rfl, _, hgb, _⟩
  · simp [Value.ownBlock] at e
  · obtain rfl : b = g := by simpa [Value.ownBlock] using e
    rw [show w.heap[b]? = _ from h] at hgb
    cases hgb
end

/-- Five cells of a block, stored one after the other. -/
theorem set5 {w : World} {B : Nat} {c0 c1 c2 c3 c4 d0 d1 d2 d3 d4 : Value} {t : TypeId} (h : w.heap[B]? = some (.cells #[c0, c1, c2, c3, c4] t (0, 0))) :
    (((((w.setCell ⟨B, 0, none⟩ d0).setCell ⟨B, 1, none⟩ d1).setCell ⟨B, 2, none⟩ d2).setCell ⟨B, 3, none⟩ d3).setCell ⟨B, 4, none⟩ d4).heap[B]? = some (.cells #[d0, d1, d2, d3, d4] t (0, 0)) := by
  simp [World.setCell, Array.getElem?_modify, h]
theorem IntBlk.set {w : World} {b B o : Nat} {x : Int} {d : Value} (h : IntBlk w b x) (hne : b ≠ B) : IntBlk (w.setCell ⟨B, o, none⟩ d) b x := (Below.heap_setCell _ _ _ _ hne).trans h
theorem IntBlk.set5 {w : World} {b B : Nat} {x : Int} {d0 d1 d2 d3 d4 : Value} (h : IntBlk w b x) (hne : b ≠ B) :
    IntBlk (((((w.setCell ⟨B, 0, none⟩ d0).setCell ⟨B, 1, none⟩ d1).setCell ⟨B, 2, none⟩ d2).setCell ⟨B, 3, none⟩ d3).setCell ⟨B, 4, none⟩ d4) b x := ((((h.set hne).set hne).set hne).set hne).set hne

set_option maxHeartbeats 400000 in
theorem cancelB_any (p s t x : Int) (w : World) (hs1 : 0 ≤ s) (hs2 : s ≤ 100000) (ht : t = 10 * s) :
    Calls Tryd.prog 16 #[.int .i64 p, .int .i64 s, .int .i64 x] w fun e w' => e = .returned (.agg #[.int .i64 p, .int .i64 s, .int .i64 t, .int .i64 2, .slice (some ⟨w.heap.size + 1, 0, none⟩) 1 1]) ∧ IntBlk w' (w.heap.size + 1) x ∧ Below w.heap.size w w' := by
  subst ht
  go_enter Tryd.func16, Tryd.ntmps16
  go_wp2
  refine bodyPost_ret (v := .agg #[.int .i64 p, .int .i64 s, .int .i64 (10 * s), .int .i64 2, .slice (some ⟨w.heap.size + 1, 0, none⟩) 1 1]) (by simp [results, Tryd.results16, go_sem]) rfl ⟨rfl, ?_, ((Below.refl _ _).alloc (Nat.le_refl _) _).alloc (by simp) _⟩
  have := World.alloc_heap_new (w.alloc (.cells #[.int .i64 p, .int .i64 s, .int .i64 (10 * s), .int .i64 2, .slice (some ⟨w.heap.size + 1, 0, none⟩) 1 1] 28)) (.cells #[.int .i64 x] 3)
  rw [World.size_alloc] at this
  exact this

/-- A message of the law, as it lies in memory. -/
def whG (p : Int) (val : Nat → Int) (s b : Nat) : GM := canG p s (10 * s) (val s) b
def WhOk (p : Int) (val : Nat → Int) (w : World) (g : GM) : Prop := ∃ s b, g = whG p val s b ∧ s ≤ 60 ∧ IntBlk w b (val s)
theorem whG_msg (p : Int) (val : Nat → Int) (s b : Nat) : (whG p val s b).msg = whM p val s := rfl
theorem WhOk.keep {p : Int} {val : Nat → Int} {w w' : World} {g : GM} (h : WhOk p val w g) (hk : ∀ b x, IntBlk w b x → IntBlk w' b x) : WhOk p val w' g := by
  obtain ⟨s, b, h1, h2, h3⟩ := h
  exact ⟨s, b, h1, h2, hk _ _ h3⟩
theorem WhOk.ok {p : Int} {val : Nat → Int} {w : World} {g : GM} (h : WhOk p val w g) (hp : I64 p) (hv : ∀ s, I64 (val s)) : g.ok w w.heap.size := by
  obtain ⟨s, b, rfl, h2, h3⟩ := h
  exact canG_ok h3.lt h3.c0 hp (by unfold I64; omega) (by unfold I64; omega) (hv s)

/-- A row of such messages. -/
structure WhRow (p : Int) (val : Nat → Int) (w : World) (base : Nat) (v : Value) (ms : List Msg) (gs : List GM) : Prop where
  row : w.ownsRow base 28 5 v gs.length (mcells gs)
  msg : gs.map GM.msg = ms
  ok : ∀ g ∈ gs, WhOk p val w g

theorem WhRow.rd {p : Int} {val : Nat → Int} {w : World} {base : Nat} {v : Value} {ms : List Msg} {gs : List GM} (h : WhRow p val w base v ms gs) : ∃ A c, v = .slice A gs.length c ∧ Rd w w.heap.size A (mcells gs) := by
  obtain ⟨A, c, h1, _, _, h4⟩ := rd_of_own h.row (by decide)
  exact ⟨A, c, h1, h4⟩
theorem WhRow.msgs {p : Int} {val : Nat → Int} {w : World} {base : Nat} {A : Option Addr} {c n : Nat} {ms : List Msg} {gs : List GM} (h : WhRow p val w base (.slice A n c) ms gs) (hp : I64 p) (hv : ∀ s, I64 (val s)) : n = gs.length ∧ Msgs w w.heap.size A gs.length gs := by
  obtain ⟨A', c', h1, h2⟩ := h.rd
  injection h1 with e1 e2 e3
  subst e1
  exact ⟨e2, rfl, h2, fun g hg => (h.ok g hg).ok hp hv⟩
/-- The row keeps where what changes is another row, or new. -/
theorem WhRow.keep {p : Int} {val : Nat → Int} {w w' : World} {base : Nat} {v : Value} {row : Option Nat} {ms : List Msg} {gs : List GM} (h : WhRow p val w base v ms gs) (hg : w.grownBy w' row) (hr : v.ownBlock = none ∨ v.ownBlock ≠ row) (hi : ∀ b x, IntBlk w b x → IntBlk w' b x) : WhRow p val w' base v ms gs := by
  refine ⟨h.row.kept hg ?_, h.msg, fun g hg' => (h.ok g hg').keep hi⟩
  rcases h.row.2 with ⟨rfl, _⟩ | ⟨g, cap, cur, rfl, _⟩
  · exact .inl rfl
  · rcases hr with hr | hr
    · simp [Value.ownBlock] at hr
    · exact .inr hr
theorem WhRow.below {p : Int} {val : Nat → Int} {w w' : World} {base : Nat} {v : Value} {ms : List Msg} {gs : List GM} (h : WhRow p val w base v ms gs) (hb : Below w.heap.size w w') : WhRow p val w' base v ms gs := by
  refine ⟨h.row.kept (grown_of_below hb none) ?_, h.msg, fun g hg' => (h.ok g hg').keep fun b x hx => hx.below hb⟩
  rcases h.row.2 with ⟨rfl, _⟩ | ⟨g, cap, cur, rfl, _⟩
  · exact .inl rfl
  · exact .inr (by simp [Value.ownBlock])

theorem mcells_snoc (gl : List GM) (g : GM) : mcells (gl ++ [g]) = mcells gl ++ g.cells := by simp [mcells]
/-- One message more, behind. -/
theorem WhRow.app {p : Int} {val : Nat → Int} {X w3 : World} {base : Nat} {v v' : Value} {ms : List Msg} {gl : List GM} {s b : Nat} (h : WhRow p val X base v ms gl) (hs : s ≤ 60) (hb : IntBlk X b (val s))
    (hown : w3.ownsRow base 28 5 v' (gl.length + 1) (mcells gl ++ (whG p val s b).cells)) (hg : X.grownBy w3 v.ownBlock) : WhRow p val w3 base v' (ms ++ [whM p val s]) (gl ++ [whG p val s b]) := by
  refine ⟨by rw [mcells_snoc, List.length_append]; exact hown, by rw [List.map_append, h.msg]; rfl, fun g hg' => ?_⟩
  rcases List.mem_append.1 hg' with hg' | hg'
  · exact (h.ok g hg').keep fun b x hx => hx.grown h.row hg
  · rw [List.mem_singleton] at hg'
    subst hg'
    exact ⟨s, b, rfl, hs, hb.grown h.row hg⟩
/-- One message more, ahead: the new row was a literal's. -/
theorem WhRow.pre {p : Int} {val : Nat → Int} {X w3 : World} {base n : Nat} {v lit v' : Value} {xs : List Value} {ms : List Msg} {gl : List GM} {s b : Nat} (h : WhRow p val X base v ms gl) (hs : s ≤ 60) (hb : IntBlk X b (val s)) (hlit : X.ownsRow base 28 5 lit n xs)
    (hown : w3.ownsRow base 28 5 v' (1 + gl.length) ((whG p val s b).cells ++ mcells gl)) (hg : X.grownBy w3 lit.ownBlock) : WhRow p val w3 base v' (whM p val s :: ms) (whG p val s b :: gl) := by
  refine ⟨by rw [List.length_cons, Nat.add_comm]; exact hown, by rw [List.map_cons, h.msg]; rfl, fun g hg' => ?_⟩
  rcases List.mem_cons.1 hg' with rfl | hg'
  · exact ⟨s, b, rfl, hs, hb.grown hlit hg⟩
  · exact (h.ok g hg').keep fun b x hx => hx.grown hlit hg
theorem WhRow.lt {p : Int} {val : Nat → Int} {w : World} {base : Nat} {v : Value} {ms : List Msg} {gs : List GM} (h : WhRow p val w base v ms gs) : ∀ k, v.ownBlock = some k → k < w.heap.size := fun k hk => (h.row.lt k hk).2
/-- Two rows stay apart where the one has grown. -/
theorem apart_grown {v v' u : Value} {N : Nat} (h : v.ownBlock = none ∨ u.ownBlock = none ∨ v.ownBlock ≠ u.ownBlock) (hu : ∀ k, u.ownBlock = some k → k < N) (hv : v'.ownBlock = v.ownBlock ∨ v'.ownBlock = some N) : v'.ownBlock = none ∨ u.ownBlock = none ∨ v'.ownBlock ≠ u.ownBlock := by
  rcases hv with e | e
  · rw [e]; exact h
  · cases hb : u.ownBlock with
    | none => exact .inr (.inl rfl)
    | some k => exact .inr (.inr (by rw [e]; intro e'; injection e' with e'; have := hu k hb; omega))

/-- What a message sells. -/
def whV (zs : List Int) (s : Nat) : Int := if zs.length = 0 then 1 else 1 + zs.getD (s % zs.length) 0
/-- In which order the messages came. -/
def whO (back : Bool) (l : List Msg) : List Msg := if back then l.reverse else l

theorem whO_f (p : Int) (val : Nat → Int) (k : Nat) : whO false (whR p val 0 (k + 1)) = whO false (whR p val 0 k) ++ [whM p val (k + 1)] := by
  unfold whO; simp only [Bool.false_eq_true, if_false]; rw [whR_snoc, Nat.zero_add]
theorem whO_t (p : Int) (val : Nat → Int) (k : Nat) : whO true (whR p val 0 (k + 1)) = whM p val (k + 1) :: whO true (whR p val 0 k) := by
  unfold whO; simp only [if_true]; rw [whR_snoc, Nat.zero_add, List.reverse_append]; rfl
theorem whG_cells (p : Int) (val : Nat → Int) (k b : Nat) : (whG p val (k + 1) b).cells = [.int .i64 p, .int .i64 ((k : Int) + 1), .int .i64 (10 * ((k : Int) + 1)), .int .i64 2, .slice (some ⟨b, 0, none⟩) 1 1] := by
  simp [whG, canG, GM.cells]
theorem apart_row {v u : Value} (h : v.ownBlock = none ∨ u.ownBlock = none ∨ v.ownBlock ≠ u.ownBlock) : u.ownBlock = none ∨ u.ownBlock ≠ v.ownBlock := by
  rcases h with h | h | h
  · cases hu : u.ownBlock with
    | none => exact .inl rfl
    | some k => exact .inr (by rw [h]; simp)
  · exact .inl h
  · exact .inr (Ne.symm h)

theorem apart_swap {v u : Value} (h : v.ownBlock = none ∨ u.ownBlock = none ∨ v.ownBlock ≠ u.ownBlock) : u.ownBlock = none ∨ v.ownBlock = none ∨ u.ownBlock ≠ v.ownBlock := by
  rcases h with h | h | h
  · exact .inr (.inl h)
  · exact .inl h
  · exact .inr (.inr (Ne.symm h))

/-- Where the loop stands. -/
structure WhRel (p : Int) (zs : List Int) (back : Bool) (g n : Nat) (W : World) (v u : Value) (i : Value) (wr : World) (k : Nat) (gl gk : List GM) : Prop where
  le : k ≤ n
  i : i = .int .i64 ((k : Int) + 1)
  l : WhRow p (whV zs) wr W.heap.size v (whO back (whR p (whV zs) 0 k)) gl
  s : WhRow p (whV zs) wr W.heap.size u (whL p (whV zs) g k) gk
  sep : v.ownBlock = none ∨ u.ownBlock = none ∨ v.ownBlock ≠ u.ownBlock
  b : Below W.heap.size W wr

/-- In the midst of a round: the message lies in the box Bx, l has it, less does not yet. -/
structure WhMid (p : Int) (zs : List Int) (back : Bool) (g : Nat) (W : World) (u : Value) (k Bx : Nat) (gk : List GM) (v : Value) (wx : World) (gl : List GM) (b : Nat) : Prop where
  l : WhRow p (whV zs) wx W.heap.size v (whO back (whR p (whV zs) 0 (k + 1))) gl
  s : WhRow p (whV zs) wx W.heap.size u (whL p (whV zs) g k) gk
  sep : v.ownBlock = none ∨ u.ownBlock = none ∨ v.ownBlock ≠ u.ownBlock
  box : wx.heap[Bx]? = some (.cells #[.int .i64 p, .int .i64 ((k : Int) + 1), .int .i64 (10 * ((k : Int) + 1)), .int .i64 2, .slice (some ⟨b, 0, none⟩) 1 1] 28 (0, 0))
  ib : IntBlk wx b (whV zs (k + 1))
  bel : Below W.heap.size W wx

set_option maxRecDepth 100000 in
set_option maxHeartbeats 8000000 in
theorem mergeWhole_any (z0 z1 z3 : Int) (A : Option Addr) (ns c : Nat) (zs : List Int) (back : Bool) (w : World) (hT : Tab w) (h00 : 0 ≤ z0) (h01 : z0 ≤ 65535) (h10 : 0 ≤ z1) (h11 : z1 ≤ 255) (h30 : 0 ≤ z3) (h31 : z3 ≤ 255)
    (hns : ns ≤ 9223372036854775807) (hzl : zs.length = ns) (hzr : Rd w w.heap.size A (zs.map (Value.int .u16))) (hzb : ∀ z ∈ zs, 0 ≤ z ∧ z ≤ 65535) :
    Calls Tryd.prog 6 #[.int .u16 z0, .int .u8 z1, .slice A ns c, .int .u8 z3, .bool back] w fun e w' => e = .returned (.bool true) ∧ Below w.heap.size w w' := by
  have HH := Lib.hid (head_any w hT)
  have HT := Lib.hid hT
  have HZL := Lib.hid hzl
  have HZR := Lib.hid hzr
  have HZB := Lib.hid hzb
  have hp0 : 0 ≤ z0 % 4000 := by omega
  have hp1 : z0 % 4000 < 4000 := by omega
  have hn0 : 0 ≤ z1 % 60 := by omega
  have hn1 : z1 % 60 < 60 := by omega
  have hg0 : 0 ≤ z3 % (1 + z1 % 60) := Int.emod_nonneg _ (by omega)
  have hg1 : z3 % (1 + z1 % 60) < 1 + z1 % 60 := Int.emod_lt_of_pos _ (by omega)
  clear hT hzl hzr hzb
  go_enter Tryd.func6, Tryd.ntmps6
  go_wp2_with fail
  refine HH.out.mono ?_
  rintro e w1 ⟨rfl, hb1⟩
  have HB1 := Lib.hid hb1
  clear hb1 HH
  go_wp2_with fail
  generalize hpp : 1000 + z0 % 4000 = p at *
  generalize hnn : 1 + z1 % 60 = N at *
  obtain ⟨n, rfl⟩ : ∃ n : Nat, N = (n : Int) := ⟨N.toNat, by omega⟩
  generalize hgg : 1 + z3 % (n : Int) = G at *
  obtain ⟨g, rfl⟩ : ∃ g : Nat, G = (g : Int) := ⟨G.toNat, by omega⟩
  have hpl : 1000 ≤ p := by omega
  have hph : p < 5000 := by omega
  have hnl : 1 ≤ n := by omega
  have hnh : n ≤ 60 := by omega
  have hgl : 1 ≤ g := by omega
  have hgh : g ≤ n := by omega
  clear hpp hnn hgg hp0 hp1 hn0 hn1 hg0 hg1
  obtain ⟨i0, hi, hz0, hz1, hz2⟩ := info_parts info_msg
  go_loopw [14, 15, 17] (fun v u i wr => ∃ (k : Nat) (gl gk : List GM), WhRel p zs back g n w1 v u i wr k gl gk) (fun _ _ i _ => n + 1 - (intOf i).toNat)
  case atStart => exact ⟨0, [], [], Nat.zero_le _, rfl, ⟨World.ownsRow_nil _ _ _ _, by cases back <;> rfl, fun g hg => by cases hg⟩, ⟨World.ownsRow_nil _ _ _ _, by unfold whL; rw [if_pos (by omega)]; rfl, fun g hg => by cases hg⟩, .inl rfl, Below.refl _ _⟩
  case round =>
    obtain ⟨k, gl, gk, hr⟩ := hrel
    have hkn := hr.le
    have hi17 := hr.i
    subst hi17
    have HR := Lib.hid hr
    clear hr
    by_cases hlt : k + 1 ≤ n
    · have hlt' : (k : Int) + 1 ≤ (n : Int) := by omega
      go_wp2_with fail
      refine (cancelB_any _ _ (10 * ((k : Int) + 1)) 1 _ (by omega) (by omega) rfl).mono ?_
      rintro e w2 ⟨rfl, hi2, hb2⟩
      have HI2 := Lib.hid hi2
      have HB2 := Lib.hid hb2
      clear hi2 hb2
      go_upto_if 47 with fail
      go_cut [18] (fun s18 wx => s18 = .pointer (some ⟨w2.heap.size, 0, none⟩) ∧ ∃ b, wx.heap[w2.heap.size]? = some (.cells #[.int .i64 p, .int .i64 ((k : Int) + 1), .int .i64 (10 * ((k : Int) + 1)), .int .i64 2, .slice (some ⟨b, 0, none⟩) 1 1] 28 (0, 0)) ∧ IntBlk wx b (whV zs (k + 1)) ∧ Below wr.heap.size wr wx)
      case first =>
        by_cases hn0 : ns = 0
        · subst hn0
          have HV := Lib.hid (show whV zs (k + 1) = 1 from by unfold whV; rw [if_pos HZL.out])
          go_wp2_with fail
          go_meet
          exact ⟨rfl, wr.heap.size + 1, World.alloc_heap_new w2 _, by rw [HV.out]; exact HI2.out.alloc _, Below.al HB2.out _⟩
        · have hns0 : 0 < ns := by omega
          have hns1 : (0 : Int) < (ns : Int) := by omega
          have hjl : (k + 1) % ns < zs.length := by rw [HZL.out]; exact Nat.mod_lt _ hns0
          obtain ⟨bz, oz, ez, hbz, hcz⟩ := HZR.out (by rw [List.length_map]; omega)
          subst ez
          have hzb := HZB.out _ (List.getElem_mem hjl)
          have HV := Lib.hid (show whV zs (k + 1) = 1 + zs[(k + 1) % ns] from by
            have h0 := HZL.out
            unfold whV
            subst h0
            rw [if_neg hn0, List.getD_eq_getElem?_getD, List.getElem?_eq_getElem hjl]
            rfl)
          have HX1 := Lib.hid (Below.tr HB1.out (Below.tr HR.out.b HB2.out))
          have hzc := hcz ((k + 1) % ns) (.int .u16 zs[(k + 1) % ns]) (by simp [List.getElem?_eq_getElem hjl])
          generalize zs[(k + 1) % ns] = z at *
          have hj1 : (((k + 1) % ns : Nat) : Int) < (ns : Int) := by have := Nat.mod_lt (k + 1) hns0; omega
          have hJ : ((k : Int) + 1) % (ns : Int) = (((k + 1) % ns : Nat) : Int) := by push_cast; rfl
          generalize (k + 1) % ns = j at *
          have hj2 : j < ns := by omega
          have hzc2 : w2.cell? ⟨bz, oz + j, none⟩ = some (.int .u16 z) := (HX1.out.cell hbz).trans hzc
          have hbz2 : bz < w2.heap.size := Nat.lt_of_lt_of_le hbz HX1.out.size
          clear hzc hbz
          clear hcz
          go_wp2_with fail
          generalize hY0 : World.alloc w2 _ = Y0
          have HBox0 := Lib.hid (show Y0.heap[w2.heap.size]? = some (.cells #[.int .i64 p, .int .i64 ((k : Int) + 1), .int .i64 (10 * ((k : Int) + 1)), .int .i64 2, .slice (some ⟨wr.heap.size + 1, 0, none⟩) 1 1] 28 (0, 0)) from by rw [← hY0]; exact World.alloc_heap_new w2 _)
          have HBY := Lib.hid (show Below wr.heap.size wr Y0 from by rw [← hY0]; exact Below.al HB2.out _)
          have hY1 : w2.heap.size < Y0.heap.size := by rw [← hY0]; simp
          clear hY0
          refine (cancelB_any _ _ (10 * ((k : Int) + 1)) _ _ (by omega) (by omega) rfl).mono ?_
          rintro e w3 ⟨rfl, hi3, hb3⟩
          have HI3 := Lib.hid hi3
          have HB3 := Lib.hid hb3
          have HBox3 := Lib.hid ((hb3.block _ hY1).trans HBox0.out)
          clear hi3 hb3
          have f0 : w3.cell? ⟨w2.heap.size, 0, none⟩ = some (.int .i64 p) := by unfold World.cell?; rw [HBox3.out]; rfl
          have f1 : w3.cell? ⟨w2.heap.size, 1, none⟩ = some (.int .i64 ((k : Int) + 1)) := by unfold World.cell?; rw [HBox3.out]; rfl
          have f2 : w3.cell? ⟨w2.heap.size, 2, none⟩ = some (.int .i64 (10 * ((k : Int) + 1))) := by unfold World.cell?; rw [HBox3.out]; rfl
          have f3 : w3.cell? ⟨w2.heap.size, 3, none⟩ = some (.int .i64 2) := by unfold World.cell?; rw [HBox3.out]; rfl
          have f4 : w3.cell? ⟨w2.heap.size, 4, none⟩ = some (.slice (some ⟨wr.heap.size + 1, 0, none⟩) 1 1) := by unfold World.cell?; rw [HBox3.out]; rfl
          have g0 : ∀ o, w3.frozen? ⟨w2.heap.size, o, none⟩ = false := fun o => by unfold World.frozen?; rw [HBox3.out]; simp
          go_wp2_with fail
          go_meet
          refine ⟨rfl, Y0.heap.size + 1, set5 HBox3.out, ?_, ?_⟩
          · rw [HV.out]
            exact HI3.out.set5 (by omega)
          · have hs : wr.heap.size ≤ w2.heap.size := HB2.out.size
            exact (((((Below.tr HBY.out HB3.out).setCell hs _).setCell hs _).setCell hs _).setCell hs _).setCell hs _
      case rest =>
        obtain ⟨rfl, b, hbox, hib, hbx⟩ := hcut
        have HBox := Lib.hid hbox
        have HIb := Lib.hid hib
        have HBx := Lib.hid hbx
        clear hbox hib hbx
        obtain ⟨Y, rfl⟩ : ∃ Y : World, Y = wc := ⟨_, rfl⟩
        have f0 : Y.cell? ⟨w2.heap.size, 0, none⟩ = some (.int .i64 p) := by unfold World.cell?; rw [HBox.out]; rfl
        have f1 : Y.cell? ⟨w2.heap.size, 1, none⟩ = some (.int .i64 ((k : Int) + 1)) := by unfold World.cell?; rw [HBox.out]; rfl
        have f2 : Y.cell? ⟨w2.heap.size, 2, none⟩ = some (.int .i64 (10 * ((k : Int) + 1))) := by unfold World.cell?; rw [HBox.out]; rfl
        have f3 : Y.cell? ⟨w2.heap.size, 3, none⟩ = some (.int .i64 2) := by unfold World.cell?; rw [HBox.out]; rfl
        have f4 : Y.cell? ⟨w2.heap.size, 4, none⟩ = some (.slice (some ⟨b, 0, none⟩) 1 1) := by unfold World.cell?; rw [HBox.out]; rfl
        go_upto_if 60 with fail
        go_cut [14] (fun s14 wx => ∃ gl' b', WhMid p zs back g w1 u15 k w2.heap.size gk s14 wx gl' b')
        case first =>
          have HX := Lib.hid (show Below wr.heap.size wr (Y.alloc (.cells #[.int .i64 p, .int .i64 ((k : Int) + 1), .int .i64 (10 * ((k : Int) + 1)), .int .i64 2, .slice (some ⟨b, 0, none⟩) 1 1] 28)) from Below.al HBx.out _)
          have HIx := Lib.hid (HIb.out.alloc (.cells #[.int .i64 p, .int .i64 ((k : Int) + 1), .int .i64 (10 * ((k : Int) + 1)), .int .i64 2, .slice (some ⟨b, 0, none⟩) 1 1] 28))
          have HRl := Lib.hid (HR.out.l.below HX.out)
          have HRs := Lib.hid (HR.out.s.below HX.out)
          have hll : gl.length ≤ 60 := by have := congrArg List.length HR.out.l.msg; rw [List.length_map] at this; rw [this]; unfold whO; split <;> simp [whR_length] <;> omega
          have HLit := Lib.hid (show Rd (Y.alloc (.cells #[.int .i64 p, .int .i64 ((k : Int) + 1), .int .i64 (10 * ((k : Int) + 1)), .int .i64 2, .slice (some ⟨b, 0, none⟩) 1 1] 28)) (Y.heap.size + 1) (some ⟨Y.heap.size, 0, none⟩) [.int .i64 p, .int .i64 ((k : Int) + 1), .int .i64 (10 * ((k : Int) + 1)), .int .i64 2, .slice (some ⟨b, 0, none⟩) 1 1] from fun _ => ⟨Y.heap.size, 0, rfl, by omega, fun j v hv => by
            have h := World.alloc_heap_new Y (.cells #[.int .i64 p, .int .i64 ((k : Int) + 1), .int .i64 (10 * ((k : Int) + 1)), .int .i64 2, .slice (some ⟨b, 0, none⟩) 1 1] 28)
            unfold World.cell?
            rw [h]
            simpa using hv⟩)
          have HC1 := Lib.hid (show gl.length + 1 ≤ maxLen from by unfold maxLen; omega)
          have HC2 := Lib.hid (show (gl.length + 1) * 56 ≤ 140737488355328 from by omega)
          have HC3 := Lib.hid (show w1.heap.size ≤ (Y.alloc (.cells #[.int .i64 p, .int .i64 ((k : Int) + 1), .int .i64 (10 * ((k : Int) + 1)), .int .i64 2, .slice (some ⟨b, 0, none⟩) 1 1] 28)).heap.size from Nat.le_trans HR.out.b.size HX.out.size)
          have hbs : wr.heap.size ≤ w2.heap.size := HB2.out.size
          have hbl : w2.heap.size < Y.heap.size := (Array.getElem?_eq_some_iff.1 HBox.out).1
          cases back
          · go_wp2_with (at_builtin; refine wpList_append_rd _ rfl (.tmp 65) (.tmp 67) 22 rfl w1.heap.size 28 i0 (.agg #[.int .i64 0, .int .i64 0, .int .i64 0, .int .i64 0, .slice none 0 0]) 5 56 Tryd.underlying22 hi hz0 hz1 hz2 rfl (by decide) u14 gl.length (mcells gl) rfl HRl.out.row (Y.heap.size + 1) (some ⟨Y.heap.size, 0, none⟩) 1 1 [.int .i64 p, .int .i64 ((k : Int) + 1), .int .i64 (10 * ((k : Int) + 1)), .int .i64 2, .slice (some ⟨b, 0, none⟩) 1 1] rfl rfl HLit.out (by simp [Value.oneCell']) HC1.out HC2.out HC3.out ?_; intro v' w3 hown hgrow hat; have HO := Lib.hid hown; have HGr := Lib.hid hgrow; have HAt := Lib.hid hat; clear hown hgrow hat)
            go_meet
            refine ⟨gl ++ [whG p (whV zs) (k + 1) b], b, ?_, HRs.out.keep HGr.out (apart_row HR.out.sep) (fun b x h => h.grown HRl.out.row HGr.out), apart_grown HR.out.sep HRs.out.lt HAt.out, ?_, HIx.out.grown HRl.out.row HGr.out, ?_⟩
            · rw [whO_f]
              exact HRl.out.app (by omega) HIx.out (by rw [whG_cells]; exact HO.out) HGr.out
            · refine (HGr.out.block _ (by simp; omega) (fun e => ?_)).trans ((Below.heap_alloc _ _ _ hbl).trans HBox.out)
              have := HR.out.l.lt _ e.symm
              omega
            · exact (Below.al (Below.tr HR.out.b HBx.out) _).grown HGr.out HC3.out (fun q e => (HRl.out.row.lt q e).1)
          · obtain ⟨A14, c14, e14, hrd14⟩ := HRl.out.rd
            subst e14
            have HRd := Lib.hid hrd14
            have HLr := Lib.hid (World.ownsRow_lit (base := w1.heap.size) (e := 28) (size := 5) Y #[.int .i64 p, .int .i64 ((k : Int) + 1), .int .i64 (10 * ((k : Int) + 1)), .int .i64 2, .slice (some ⟨b, 0, none⟩) 1 1] 1 (Nat.le_trans HR.out.b.size HBx.out.size) (by unfold maxLen; omega) rfl)
            have HD1 := Lib.hid (show 1 + gl.length ≤ maxLen from by unfold maxLen; omega)
            have HD2 := Lib.hid (show (1 + gl.length) * 56 ≤ 140737488355328 from by omega)
            have HD3 := Lib.hid (show (mcells gl).length = gl.length * 5 from by rw [mcells_length]; omega)
            have hul : ∀ q, u15.ownBlock = some q → q < Y.heap.size := fun q hq => by have := HR.out.s.lt q hq; have := HBx.out.size; omega
            have HUl := Lib.hid hul
            clear hrd14 hul
            go_wp2_with (at_builtin; refine wpList_append_rd _ rfl (.tmp 62) (.tmp 63) 22 rfl w1.heap.size 28 i0 (.agg #[.int .i64 0, .int .i64 0, .int .i64 0, .int .i64 0, .slice none 0 0]) 5 56 Tryd.underlying22 hi hz0 hz1 hz2 rfl (by decide) (.slice (some ⟨Y.heap.size, 0, none⟩) 1 1) 1 [.int .i64 p, .int .i64 ((k : Int) + 1), .int .i64 (10 * ((k : Int) + 1)), .int .i64 2, .slice (some ⟨b, 0, none⟩) 1 1] rfl HLr.out (Y.alloc (.cells #[.int .i64 p, .int .i64 ((k : Int) + 1), .int .i64 (10 * ((k : Int) + 1)), .int .i64 2, .slice (some ⟨b, 0, none⟩) 1 1] 28)).heap.size A14 gl.length c14 (mcells gl) rfl HD3.out HRd.out (mcells_one gl) HD1.out HD2.out HC3.out ?_; intro v' w3 hown hgrow hat; have HO := Lib.hid hown; have HGr := Lib.hid hgrow; have HAt := Lib.hid hat; clear hown hgrow hat)
            go_meet
            have hne : u15.ownBlock = none ∨ u15.ownBlock ≠ (Value.slice (some ⟨Y.heap.size, 0, none⟩) 1 1).ownBlock := by
              cases hu : u15.ownBlock with
              | none => exact .inl rfl
              | some q => exact .inr (by have := HUl.out q hu; simp [Value.ownBlock]; omega)
            refine ⟨whG p (whV zs) (k + 1) b :: gl, b, ?_, HRs.out.keep HGr.out hne (fun b x h => h.grown HLr.out HGr.out), apart_grown (v := .slice (some ⟨Y.heap.size, 0, none⟩) 1 1) (.inr (hne.imp id Ne.symm)) HRs.out.lt HAt.out, ?_, HIx.out.grown HLr.out HGr.out, ?_⟩
            · rw [whO_t]
              exact HRl.out.pre (by omega) HIx.out HLr.out (by rw [whG_cells]; exact HO.out) HGr.out
            · refine (HGr.out.block _ (by simp; omega) (fun e => ?_)).trans ((Below.heap_alloc _ _ _ hbl).trans HBox.out)
              simp [Value.ownBlock] at e
              omega
            · exact (Below.al (Below.tr HR.out.b HBx.out) _).grown HGr.out HC3.out (fun q e => (HLr.out.lt q e).1)
        case rest =>
          obtain ⟨gl', b', hmid⟩ := hcut
          obtain ⟨Z, rfl⟩ : ∃ Z : World, Z = wc := ⟨_, rfl⟩
          have HMid := Lib.hid hmid
          clear hmid f0 f1 f2 f3 f4
          have f0 : Z.cell? ⟨w2.heap.size, 0, none⟩ = some (.int .i64 p) := by unfold World.cell?; rw [HMid.out.box]; rfl
          have f1 : Z.cell? ⟨w2.heap.size, 1, none⟩ = some (.int .i64 ((k : Int) + 1)) := by unfold World.cell?; rw [HMid.out.box]; rfl
          have f2 : Z.cell? ⟨w2.heap.size, 2, none⟩ = some (.int .i64 (10 * ((k : Int) + 1))) := by unfold World.cell?; rw [HMid.out.box]; rfl
          have f3 : Z.cell? ⟨w2.heap.size, 3, none⟩ = some (.int .i64 2) := by unfold World.cell?; rw [HMid.out.box]; rfl
          have f4 : Z.cell? ⟨w2.heap.size, 4, none⟩ = some (.slice (some ⟨b', 0, none⟩) 1 1) := by unfold World.cell?; rw [HMid.out.box]; rfl
          have hkl : gk.length ≤ 60 := by
            have := congrArg List.length HMid.out.s.msg
            rw [List.length_map] at this
            rw [this]
            unfold whL
            split
            · rw [whR_length]; omega
            · rw [List.length_append, whR_length, whR_length]; omega
          cases hgk : (((k : Int) + 1) != (g : Int))
          · have HStep := Lib.hid (show whL p (whV zs) g (k + 1) = whL p (whV zs) g k from by rw [whL_step hgl, if_pos (by simp at hgk; omega)])
            go_wp2_with fail
            go_roundw
            case rel => exact ⟨k + 1, gl', gk, hlt, by go_num, HMid.out.l, by rw [HStep.out]; exact HMid.out.s, HMid.out.sep, HMid.out.bel⟩
            case measure => simp [intOf]; omega
          · have HStep := Lib.hid (show whL p (whV zs) g (k + 1) = whL p (whV zs) g k ++ [whM p (whV zs) (k + 1)] from by rw [whL_step hgl, if_neg (by simp at hgk; omega)])
            have hX : Below Z.heap.size Z (Z.alloc (.cells #[.int .i64 p, .int .i64 ((k : Int) + 1), .int .i64 (10 * ((k : Int) + 1)), .int .i64 2, .slice (some ⟨b', 0, none⟩) 1 1] 28)) := alloc_below _ _
            have HIx := Lib.hid (HMid.out.ib.alloc (.cells #[.int .i64 p, .int .i64 ((k : Int) + 1), .int .i64 (10 * ((k : Int) + 1)), .int .i64 2, .slice (some ⟨b', 0, none⟩) 1 1] 28))
            have HRl := Lib.hid (HMid.out.l.below hX)
            have HRs := Lib.hid (HMid.out.s.below hX)
            have HLit := Lib.hid (show Rd (Z.alloc (.cells #[.int .i64 p, .int .i64 ((k : Int) + 1), .int .i64 (10 * ((k : Int) + 1)), .int .i64 2, .slice (some ⟨b', 0, none⟩) 1 1] 28)) (Z.heap.size + 1) (some ⟨Z.heap.size, 0, none⟩) [.int .i64 p, .int .i64 ((k : Int) + 1), .int .i64 (10 * ((k : Int) + 1)), .int .i64 2, .slice (some ⟨b', 0, none⟩) 1 1] from fun _ => ⟨Z.heap.size, 0, rfl, by omega, fun j v hv => by
              have h := World.alloc_heap_new Z (.cells #[.int .i64 p, .int .i64 ((k : Int) + 1), .int .i64 (10 * ((k : Int) + 1)), .int .i64 2, .slice (some ⟨b', 0, none⟩) 1 1] 28)
              unfold World.cell?
              rw [h]
              simpa using hv⟩)
            have HC1 := Lib.hid (show gk.length + 1 ≤ maxLen from by unfold maxLen; omega)
            have HC2 := Lib.hid (show (gk.length + 1) * 56 ≤ 140737488355328 from by omega)
            have HC3 := Lib.hid (show w1.heap.size ≤ (Z.alloc (.cells #[.int .i64 p, .int .i64 ((k : Int) + 1), .int .i64 (10 * ((k : Int) + 1)), .int .i64 2, .slice (some ⟨b', 0, none⟩) 1 1] 28)).heap.size from Nat.le_trans HMid.out.bel.size hX.size)
            clear hX
            go_wp2_with (at_builtin; refine wpList_append_rd _ rfl (.tmp 72) (.tmp 74) 22 rfl w1.heap.size 28 i0 (.agg #[.int .i64 0, .int .i64 0, .int .i64 0, .int .i64 0, .slice none 0 0]) 5 56 Tryd.underlying22 hi hz0 hz1 hz2 rfl (by decide) u15 gk.length (mcells gk) rfl HRs.out.row (Z.heap.size + 1) (some ⟨Z.heap.size, 0, none⟩) 1 1 [.int .i64 p, .int .i64 ((k : Int) + 1), .int .i64 (10 * ((k : Int) + 1)), .int .i64 2, .slice (some ⟨b', 0, none⟩) 1 1] rfl rfl HLit.out (by simp [Value.oneCell']) HC1.out HC2.out HC3.out ?_; intro v' w3 hown hgrow hat; have HO := Lib.hid hown; have HGr := Lib.hid hgrow; have HAt := Lib.hid hat; clear hown hgrow hat)
            go_roundw
            case rel =>
              refine ⟨k + 1, gl', gk ++ [whG p (whV zs) (k + 1) b'], hlt, by go_num, HRl.out.keep HGr.out (apart_row (apart_swap HMid.out.sep)) (fun b x h => h.grown HRs.out.row HGr.out), ?_, apart_swap (apart_grown (apart_swap HMid.out.sep) HRl.out.lt HAt.out), ?_⟩
              · rw [HStep.out]
                exact HRs.out.app (by omega) HIx.out (by rw [whG_cells]; exact HO.out) HGr.out
              · exact (Below.al HMid.out.bel _).grown HGr.out HC3.out (fun q e => (HRs.out.row.lt q e).1)
            case measure => simp [intOf]; omega
    · obtain rfl : k = n := by omega
      have hval : ∀ t, 0 ≤ whV zs t ∧ whV zs t ≤ 1000000 := fun t => by
        unfold whV
        split
        · omega
        · rename_i hne
          have hlt2 : t % zs.length < zs.length := Nat.mod_lt _ (by omega)
          rw [List.getD_eq_getElem?_getD, List.getElem?_eq_getElem hlt2]
          have := HZB.out _ (List.getElem_mem hlt2)
          simp
          omega
      have hvI : ∀ t, I64 (whV zs t) := fun t => by have := hval t; unfold I64; omega
      have hpI : I64 p := by unfold I64; omega
      obtain ⟨Al, cl, el, _⟩ := HR.out.l.rd
      obtain ⟨As, cs, es, _⟩ := HR.out.s.rd
      subst el
      subst es
      have hml := (HR.out.l.msgs hpI hvI).2
      have hms := (HR.out.s.msgs hpI hvI).2
      have hmem : ∀ x, x ∈ gl.map GM.msg ↔ x ∈ whR p (whV zs) 0 k := fun x => by rw [HR.out.l.msg]; unfold whO; split <;> simp
      have HJl := Lib.hid (whole_join hpl hph hnh hmem)
      have HJs := Lib.hid (show joinP (gk.map GM.msg) = (0, whL p (whV zs) g k, if g = k then [] else [⟨p, g, g + 1⟩]) from by rw [HR.out.s.msg]; exact less_join hpl hph hgl hgh hnh)
      have HAl := Lib.hid (show (gl.map GM.msg).all rightB = true from List.all_eq_true.2 fun x hx => by
        obtain ⟨t, h1, h2, rfl⟩ := whR_mem ((hmem x).1 hx)
        exact whM_right hpl hph (by omega) (by omega) (hval t))
      have HAs := Lib.hid (show (gk.map GM.msg).all rightB = true from List.all_eq_true.2 fun x hx => by
        rw [HR.out.s.msg] at hx
        obtain ⟨t, h1, h2, rfl⟩ := whL_mem hx
        exact whM_right hpl hph (by omega) (by omega) (hval t))
      have hll : gl.length = k := by have := congrArg List.length HR.out.l.msg; rw [List.length_map] at this; rw [this]; unfold whO; split <;> simp [whR_length]
      have hkl : gk.length = k - 1 := by have := congrArg List.length HR.out.s.msg; rw [List.length_map] at this; rw [this]; exact whL_length hgl hgh
      have hll2 : gl.length ≤ 60 := by omega
      have hkl2 : gk.length ≤ 60 := by omega
      have HBw := Lib.hid (Below.tr HB1.out HR.out.b)
      have HMl := Lib.hid hml
      have HMs := Lib.hid hms
      have hge : ¬ ((k : Int) + 1 ≤ (k : Int)) := by omega
      clear hml hms hmem hval hvI hpI hll hkl
      have HC := Lib.hid (by have := add_nil_any Al gl.length cl gl wr (HT.out.below HBw.out) (by omega) HAl.out HMl.out; rewrite [HJl.out] at this; exact this)
      go_wp2_with fail
      refine HC.out.mono ?_
      rintro e w2 hres
      obtain ⟨Aa, ca, Da, da, ga, hga, rfl, hla, hka, hM, hG, hb⟩ := hres.clean
      have HSa := Lib.hid (SAt.new (c := ca) (c2 := da) hM hG)
      have HLa := Lib.hid (show ga.length = k from by have := congrArg List.length hga; simpa [whR_length] using this)
      have HBa := Lib.hid (Below.tr HBw.out hb)
      have HMs2 := Lib.hid (HMs.out.below hb)
      clear hres hga hM hG hb HC
      go_wp2_with fail
      generalize hX2 : World.alloc w2 _ = X2
      have HSa2 := Lib.hid (show SAt X2 w2.heap.size Aa ca Da da ga [] from by rw [← hX2]; exact HSa.out)
      have HBa2 := Lib.hid (show Below w.heap.size w X2 from by rw [← hX2]; exact Below.al HBa.out _)
      have HMs3 := Lib.hid (show Msgs X2 X2.heap.size As gk.length gk from by rw [← hX2]; exact HMs2.out.below (alloc_below _ _))
      clear hX2 HSa HBa HMs2
      by_cases hgk : g = k
      · subst hgk
        have HC := Lib.hid (by have := add_nil_any As gk.length cs gk X2 (HT.out.below HBa2.out) (by omega) HAs.out HMs3.out; rewrite [HJs.out, if_pos rfl] at this; exact this)
        refine HC.out.mono ?_
        rintro e w3 hres
        obtain ⟨Ab, cb, Db, db, gb', hgb, rfl, hlb, hkb, hM, hG, hb⟩ := hres.clean
        have f0 := (HSa2.out.below hb).blk.c0
        have f1 := (HSa2.out.below hb).blk.c1
        have f2 := (HSa2.out.below hb).blk.lt
        have hLb : gb'.length = g - 1 := by have := congrArg List.length hgb; rw [List.length_map, whL_length hgl (Nat.le_refl _)] at this; exact this
        have t1 : ((ga.length : Int) != (g : Int)) = false := by rw [HLa.out]; simp
        have t2 : ((gb'.length : Int) == (g : Int) - 1) = true := by rw [hLb]; simp; omega
        have HBb := Lib.hid (Below.tr HBa2.out hb)
        clear hres hgb hM hG hb HC hLb
        go_wp2_with fail
        go_ret
        exact ⟨rfl, Below.al HBb.out _⟩
      · have HC := Lib.hid (by have := add_nil_any As gk.length cs gk X2 (HT.out.below HBa2.out) (by omega) HAs.out HMs3.out; rewrite [HJs.out, if_neg hgk] at this; exact this)
        refine HC.out.mono ?_
        rintro e w3 hres
        obtain ⟨Ab, cb, Db, db, gb', hgb, rfl, hlb, hkb, hM, hG, hb⟩ := hres.clean
        have f0 := (HSa2.out.below hb).blk.c0
        have f1 := (HSa2.out.below hb).blk.c1
        have f2 := (HSa2.out.below hb).blk.lt
        have t1 : ((ga.length : Int) != (k : Int)) = false := by rw [HLa.out]; simp
        have t2 : ((g : Int) == (k : Int)) = false := by simp; omega
        have HBb := Lib.hid (Below.tr HBa2.out hb)
        have HSb := Lib.hid (SAt.new (c := cb) (c2 := db) hM hG)
        clear hres hgb hM hG hb HC
        go_wp2_with fail
        have hW := gaps_lit (W := w3.alloc (.cells #[.slice Ab gb'.length cb, .slice Db 1 db] 31)) (gs := [⟨p, g, g + 1⟩]) (cs := #[.int .i64 p, .int .i64 g, .int .i64 (g + 1)]) rfl
        have hs3 : (w3.alloc (.cells #[.slice Ab gb'.length cb, .slice Db 1 db] 31)).heap.size = w3.heap.size + 1 := World.size_alloc _ _
        rw [hs3] at hW
        have HC := Lib.hid (by have := sameGaps_any Db (some ⟨w3.heap.size + 1, 0, none⟩) 1 1 db 1 [⟨p, g, g + 1⟩] [⟨p, g, g + 1⟩] _ (by omega) (HSb.out.gp.below (alloc_below _ _)) hW; rewrite [decide_eq_true rfl] at this; exact this)
        clear hW
        refine HC.out.mono ?_
        rintro e w4 ⟨rfl, hb⟩
        have HB4 := Lib.hid (Below.tr (Below.al (Below.al HBb.out _) _) hb)
        clear hb HC
        go_wp2_with fail
        go_ret
        exact ⟨rfl, HB4.out⟩

end Go.Proofs.YtghnbffmkcjlhaaDoor
