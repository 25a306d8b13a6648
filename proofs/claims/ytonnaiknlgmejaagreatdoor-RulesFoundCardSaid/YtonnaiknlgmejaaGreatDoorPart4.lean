/-
  Part4: this text joins 11 texts; each says ahead of itself what it proves.
-/
import Derived.StillTail
import Derived.StillTailTactics
import Derived.Maps.AppendAt
import Derived.Deep.AppendLies
import Derived.RegionTactic
import Derived.OwnWalk
import Derived.Deep.RegionHeld3
import Derived.Test.YtonnaiknlgmejaaGreatDoorPart3

/-
  A region that draws its order, inside the body of a range over a function: the plain laws of regions serve there too, where no operation defers. Nothing of the program stands here.
-/
namespace Go.Proofs.YtonnaiknlgmejaaGreatDoor
open Go.RowKit

/-- No operation defers. -/
def noDefer (ops : Array Oper) : Bool := ops.all fun o => match o.op with | .defer _ => false | _ => true
theorem noDefer_at {ops : Array Oper} (h : noDefer ops = true) {i : Nat} {o : Oper} (ho : ops[i]? = some o) (c : _) : o.op ≠ .defer c := by
  intro e
  unfold noDefer at h
  obtain ⟨hi, rfl⟩ := Array.getElem?_eq_some_iff.1 ho
  have := Array.all_eq_true.1 h i hi
  rw [e] at this
  cases this

theorem rows_round {n l : Nat} {P : Program} {row : String} {args : Array Value} {w : World} {R : Value → World → Prop} (h : Rows P row args w R) : RowsIn (Fence.wide.inRound l) n P row args w R := fun c cs _ => by
  obtain ⟨v, w', hr, hs⟩ := h c cs
  refine ⟨v, w', hr, ?_⟩
  rw [fenced_inRound]
  exact stepsIn_wide.2 hs

theorem upon_round {n l : Nat} {P : Program} {o : Oper} {a : Act} {K K' : Act → World → Prop} {Q : Exit → Act → World → Prop} {r : Result Next} (hK : ∀ a w, K a w → K' a w) (h : o.upon P a K Q r) : o.uponIn (Fence.wide.inRound l) n P a K' Q r := by
  cases r with
  | ok x w' =>
    cases x with
    | value v => exact hK _ _ h
    | skip => exact hK _ _ h
    | defer d => exact hK _ _ h
    | enter f args =>
      refine ⟨fun hd => absurd hd (by simp [Fence.wide]), CallsIn.inRound l (callsIn_wide.2 (Calls.mono h fun e w'' he => ?_))⟩
      cases e <;> first | exact hK _ _ he | exact he
    | row rw args => exact ⟨fun hd => absurd hd (by simp [Fence.wide]), rows_round (Rows.mono h fun _ _ he => hK _ _ he)⟩
    | _ => exact h.elim
  | halt x w' =>
    cases x <;> first | exact h | exact h.elim

theorem wpOp_round {n l : Nat} {P : Program} {ops : Array Oper} {Q : Exit → Act → World → Prop} {i : Nat} {K K' : Act → World → Prop} {a : Act} {w : World} (hd : noDefer ops = true) (hL : ¬ LetsOut Q) (hK : ∀ a w, K a w → K' a w)
    (h : wpOp P ops Q i K a w) : wpOpIn (Fence.wide.inRound l) n P ops Q i K' a w := by
  unfold wpOp at h
  unfold wpOpIn
  cases ho : ops[i]? with
  | none => rw [ho] at h; exact hK _ _ h
  | some o =>
    rw [ho] at h
    simp only at h ⊢
    split
    · rename_i hw
      rw [if_pos hw] at h
      rcases h with h | h
      · refine ⟨fun _ _ => trivial, ?_⟩
        rw [Fence.inRound_round, Oper.semAt_eq _ _ _ (fun c => noDefer_at hd ho c)]
        exact upon_round hK h
      · exact absurd h.2 hL
    · rename_i hw
      rw [if_neg hw] at h
      exact ⟨fun _ _ => trivial, hK _ _ h⟩

theorem wpAny_round {n l : Nat} {P : Program} {md : Region.Mode} {ops : Array Oper} {Q : Exit → Act → World → Prop} (hd : noDefer ops = true) (hL : ¬ LetsOut Q) : ∀ (fuel : Nat) (listed : Array Bool) (a : Act) (w : World),
    wpAny P md ops Q fuel listed a w → wpAnyIn (Fence.wide.inRound l) n P md ops Q fuel listed a w
  | 0, _, _, _, h => h
  | fuel + 1, _, _, _, h => ⟨h.1, fun i hi => wpOp_round hd hL (fun a w => wpAny_round hd hL fuel _ a w) (h.2 i hi)⟩

theorem region_round {n l id : Nat} {P : Program} {ops : Array Oper} {Q : Exit → Act → World → Prop} {a : Act} {w : World} (hm : P.follows .mixedOrders = true) (hd : noDefer ops = true) (hL : ¬ LetsOut Q)
    (h : wpAny P .any ops Q ops.size (Array.replicate ops.size false) a w.drew) : (Code.region id ops true).wpIn (Fence.wide.inRound l) n P Q a w :=
  wpIn_region_any hm (wpAny_round hd hL _ _ _ _ h)

/-- A region that only reads, over the worlds of a class. -/
theorem region_round_quiet {n l id : Nat} {P : Program} {C : World → Prop} {Q : Exit → Act → World → Prop} {a : Act} {w : World} {ol : List Oper} (hm : P.follows .mixedOrders = true) (hB : Region.lexB .any ol.toArray = true) (hd : noDefer ol.toArray = true) (hL : ¬ LetsOut Q) (hC : C w.drew)
    (h : wpQuiet P ol.toArray C (fun a' => ∀ w', C w' → Q .normal a' w') ol a) : (Code.region id ol.toArray true).wpIn (Fence.wide.inRound l) n P Q a w := by
  unfold Region.lexB at hB
  rw [Bool.and_eq_true] at hB
  refine region_round hm hd hL (wpAny_of_quiet (C := C) (Q := fun a' => ∀ w', C w' → Q .normal a' w') (fun _ w' hw' h => h w' hw') _ _ _ _ hC ?_)
  have := wpAnyQ_lex (C := C) (md := .any) hB.1 ol 0 (Array.replicate ol.toArray.size false) a (by simp) (by simpa using hB.2) h
  simpa using this

theorem region_round_below {n l id : Nat} {P : Program} {Q : Exit → Act → World → Prop} {a : Act} {w : World} {ol : List Oper} (hm : P.follows .mixedOrders = true) (hB : Region.lexB .any ol.toArray = true) (hd : noDefer ol.toArray = true) (hL : ¬ LetsOut Q)
    (h : wpQuiet P ol.toArray (fun w' => ∃ p : Kp w, w' = p.x) (fun a' => ∀ w', (∃ p : Kp w, w' = p.x) → Q .normal a' w') ol a) : (Code.region id ol.toArray true).wpIn (Fence.wide.inRound l) n P Q a w :=
  region_round_quiet (C := fun w' => ∃ p : Kp w, w' = p.x) hm hB hd hL ⟨⟨w.drew, (Below.refl _ _).drew⟩, rfl⟩ h

/-- A region whose first k operations only read, and whose last ones follow each other. -/
theorem region_round_tail {n l id : Nat} {P : Program} {Q : Exit → Act → World → Prop} {a : Act} {w : World} {ol : List Oper} (k : Nat) (hm : P.follows .mixedOrders = true) (hB : Region.lexTailB .any ol.toArray k = true) (hd : noDefer ol.toArray = true) (hL : ¬ LetsOut Q)
    (h : wpStill P ol.toArray w.drew (fun a' => wpList P ol.toArray Q (ol.drop k) a' w.drew) (ol.take k) a) : (Code.region id ol.toArray true).wpIn (Fence.wide.inRound l) n P Q a w := by
  unfold Region.lexTailB at hB
  simp only [Bool.and_eq_true, decide_eq_true_eq] at hB
  obtain ⟨⟨⟨⟨h1, h2⟩, h3⟩, h4⟩, h5⟩ := hB
  have hk : k < ol.length := by simpa using h2
  have ht : (ol.take k).length = k := by rw [List.length_take]; omega
  have hdr : (ol.drop k).length = ol.toArray.size - k := by simp
  have hinv : HeadInv .any ol.toArray k (Array.replicate ol.toArray.size false) :=
    ⟨by simp, fun j o _ hl => absurd hl (by rw [getD_replicate_false]; simp), fun t _ htt => getD_in (by simpa using htt) (getD_replicate_false _ _)⟩
  have hhead := wpAnyL_lex (md := .any) (g := ol.toArray.size - k) h1 h3 h4 h2 (ol.take k) 0 _ a
    (fun j hj => by rw [ht] at hj; simp [hj]) (by rw [ht]; simp) hinv (by rw [ht]; exact h5) h
  have hall := wpAny_of_head (Q' := Q) (g := ol.toArray.size - k) (fun listed a' hL => by
    have := wpAny_of_seq (md := .any) (Q' := Q) (ol.drop k) k listed a' w.drew (fun j => by simp [List.getElem?_drop]) (by rw [hdr]; exact hL.1) hL.2
    rw [hdr] at this
    exact this) _ _ _ hhead
  rw [ht, show k + (ol.toArray.size - k) = ol.toArray.size from by simp; omega] at hall
  exact region_round hm hd hL hall

/-- A call's contract, in a round. -/
theorem calls_round {n l : Nat} {P : Program} {f : FuncId} {args : Array Value} {w : World} {R : Ending → World → Prop} (h : Calls P f args w R) : CallsIn (Fence.wide.inRound l) n P f args w R := CallsIn.inRound l (callsIn_wide.2 h)

end Go.Proofs.YtonnaiknlgmejaaGreatDoor

/-
  Words that the walks of the four rules share: what a prefix of the house's messages comes to; slices.Contains at numbers.
-/
namespace Go.Proofs.YtonnaiknlgmejaaGreatDoor
open Go.RowKit Go.Shelf Go.Sort

attribute [local go_sem] Oper.semAt_some

/-- Something holds of a message and of those before it. -/
def exAt (F : List Msg → Msg → Vd → Prop) (l : List Msg) (v : Vd) : Prop := ∃ (i : Nat) (m : Msg), l[i]? = some m ∧ F (l.take i) m v
theorem exAt_nil {F : List Msg → Msg → Vd → Prop} {v : Vd} : ¬ exAt F [] v := by rintro ⟨i, m, h, _⟩; simp at h
theorem exAt_snoc {F : List Msg → Msg → Vd → Prop} {l : List Msg} {m : Msg} {v : Vd} : exAt F (l ++ [m]) v ↔ (exAt F l v ∨ F l m v) := by
  constructor
  · rintro ⟨i, x, hx, hF⟩
    rcases Nat.lt_or_ge i l.length with hi | hi
    · rw [List.getElem?_append_left hi] at hx
      rw [List.take_append_of_le_length (by omega)] at hF
      exact .inl ⟨i, x, hx, hF⟩
    · rw [List.getElem?_append_right hi] at hx
      have hi0 : i - l.length = 0 := by
        rcases Nat.lt_or_ge (i - l.length) 1 with h | h
        · omega
        · rw [List.getElem?_eq_none (by simpa using h)] at hx; cases hx
      rw [hi0] at hx
      have hxm : m = x := by simpa using hx
      subst hxm
      have hil : i = l.length := by omega
      subst hil
      rw [List.take_left' rfl] at hF
      exact .inr hF
  · rintro (⟨i, x, hx, hF⟩ | hF)
    · have hi : i < l.length := (List.getElem?_eq_some_iff.1 hx).1
      exact ⟨i, x, by rw [List.getElem?_append_left hi]; exact hx, by rw [List.take_append_of_le_length (by omega)]; exact hF⟩
    · exact ⟨l.length, m, by simp, by rw [List.take_left' rfl]; exact hF⟩

theorem lastOf_snoc (l : List Msg) (m : Msg) (kind id : Int) : lastOf (l ++ [m]) kind id = if m.kind = kind ∧ arg m 0 = id then some m else lastOf l kind id := by
  unfold lastOf
  rw [List.filter_append]
  by_cases h : m.kind = kind ∧ arg m 0 = id
  · rw [if_pos h]
    simp [h.1, h.2]
  · rw [if_neg h]
    have : ([m].filter fun m => m.kind == kind && arg m 0 == id) = [] := by
      simp only [List.filter_eq_nil_iff, List.mem_singleton, forall_eq, Bool.and_eq_true, beq_iff_eq]
      exact h
    rw [this, List.append_nil]

/-- The same over messages in memory. -/
def lastG (l : List GM) (kind id : Int) : Option GM := (l.filter fun g => g.kind == kind && arg g.msg 0 == id).getLast?
theorem lastG_snoc (l : List GM) (m : GM) (kind id : Int) : lastG (l ++ [m]) kind id = if m.kind = kind ∧ arg m.msg 0 = id then some m else lastG l kind id := by
  unfold lastG
  rw [List.filter_append]
  by_cases h : m.kind = kind ∧ arg m.msg 0 = id
  · rw [if_pos h]
    simp [h.1, h.2]
  · rw [if_neg h]
    have : ([m].filter fun g => g.kind == kind && arg g.msg 0 == id) = [] := by
      simp only [List.filter_eq_nil_iff, List.mem_singleton, forall_eq, Bool.and_eq_true, beq_iff_eq]
      exact h
    rw [this, List.append_nil]
theorem lastG_msg (l : List GM) (kind id : Int) : (lastG l kind id).map GM.msg = lastOf (l.map GM.msg) kind id := by
  unfold lastG lastOf
  rw [List.filter_map, List.getLast?_map]
  rfl
theorem lastG_mem {l : List GM} {kind id : Int} {g : GM} (h : lastG l kind id = some g) : g ∈ l ∧ g.kind = kind ∧ arg g.msg 0 = id := by
  unfold lastG at h
  have := List.mem_of_getLast? h
  obtain ⟨h1, h2⟩ := List.mem_filter.1 this
  simp only [Bool.and_eq_true, beq_iff_eq] at h2
  exact ⟨h1, h2.1, h2.2⟩

set_option maxHeartbeats 1000000 in
/-- slices.Index and slices.Contains at numbers. -/
theorem index_int (A : Option Addr) (n c : Nat) (x : Int) (zs : List Int) (w : World) (hl : zs.length = n) (hn : n ≤ 9223372036854775807) (hr : Rd w w.heap.size A (zs.map (Value.int .i64))) :
    Calls Tryz.prog 98 #[.slice A n c, .int .i64 x] w fun e w' => (∃ i : Int, e = .returned (.int .i64 i) ∧ (zs.contains x = decide (0 ≤ i))) ∧ w = w' := by
  have HL := Lib.hid hl
  clear hl
  go_enter Tryz.func98, Tryz.ntmps98
  go_wp2
  go_loop [8] (fun i => ∃ k : Nat, k ≤ n ∧ i = .int .i64 k ∧ x ∉ zs.take k) (fun i => n - (intOf i).toNat)
  case atStart => exact ⟨0, Nat.zero_le _, rfl, by simp⟩
  case round =>
    obtain ⟨k, hk, rfl, hno⟩ := hrel
    have HN := Lib.hid hno
    clear hno
    by_cases hlt : k < n
    · have hkl : k < zs.length := by rw [HL.out]; exact hlt
      obtain ⟨b, off, rfl, hb, hc⟩ := rd_int hr k hkl
      have HS := Lib.hid (show zs.take (k + 1) = zs.take k ++ [zs[k]] by rw [List.take_succ_eq_append_getElem hkl])
      have HM := Lib.hid (List.getElem_mem hkl)
      generalize zs[k] = y at *
      by_cases hxy : x = y
      · have hd : (x == y) = true := by simpa using hxy
        go_wp2
        go_ret
        exact ⟨⟨k, rfl, by subst hxy; exact ⟨fun _ => by omega, fun _ => HM.out⟩⟩, rfl⟩
      · have HF := Lib.hid (show x ∉ zs.take (k + 1) from by rw [HS.out, List.mem_append]; exact fun h => h.elim HN.out (fun h => hxy (by simpa using h)))
        have hd : (x == y) = false := by simpa using hxy
        clear hxy
        go_wp2
        go_round
        case rel => exact ⟨k + 1, by omega, by go_num, HF.out⟩
        case measure => simp [intOf]; omega
    · have HF := Lib.hid (show x ∉ zs from by
        have h := HN.out
        rw [List.take_of_length_le (by rw [HL.out]; omega)] at h
        exact h)
      go_wp2
      go_ret
      exact ⟨⟨-1, rfl, ⟨fun h => absurd h HF.out, fun h => by omega⟩⟩, rfl⟩

theorem contains_int (A : Option Addr) (n c : Nat) (x : Int) (zs : List Int) (w : World) (hl : zs.length = n) (hn : n ≤ 9223372036854775807) (hr : Rd w w.heap.size A (zs.map (Value.int .i64))) :
    Calls Tryz.prog 59 #[.slice A n c, .int .i64 x] w fun e w' => e = .returned (.bool (zs.contains x)) ∧ w = w' := by
  have HI := Lib.hid (index_int A n c x zs w hl hn hr)
  clear hl hr
  go_enter Tryz.func59, Tryz.ntmps59
  go_wp2_with (go_at_call 98; refine HI.out.mono ?_; rintro e w' ⟨⟨i, rfl, hi⟩, rfl⟩; have HJ := Lib.hid hi; clear hi)
  go_ret
  exact ⟨by rw [HJ.out]; rfl, rfl⟩

/-- The cells of a message that lies in a box. -/
theorem box_cells {W : World} {B : Nat} {x : GM} (hx : W.heap[B]? = some (.cells #[.int .i64 x.party, .int .i64 x.seq, .int .i64 x.time, .int .i64 x.kind, .slice x.A x.n x.c] 37 (0, 0))) :
    W.cell? ⟨B, 0, none⟩ = some (.int .i64 x.party) ∧ W.cell? ⟨B, 1, none⟩ = some (.int .i64 x.seq) ∧ W.cell? ⟨B, 2, none⟩ = some (.int .i64 x.time) ∧ W.cell? ⟨B, 3, none⟩ = some (.int .i64 x.kind) ∧ W.cell? ⟨B, 4, none⟩ = some (.slice x.A x.n x.c) := by
  refine ⟨?_, ?_, ?_, ?_, ?_⟩ <;> (simp only [World.cell?]; rw [hx]; rfl)

/-- A state lies in a box. -/
structure StAt (w : World) (Bs : Nat) (A : Option Addr) (n c : Nat) (A2 : Option Addr) (m c2 : Nat) (gs : List GM) : Prop where
  s0 : w.cell? ⟨Bs, 0, none⟩ = some (.slice A n c)
  s1 : w.cell? ⟨Bs, 1, none⟩ = some (.slice A2 m c2)
  lt : Bs < w.heap.size
  ms : Msgs w w.heap.size A n gs
  n2 : n ≤ 2000
  good : ∀ g ∈ gs, GoodG g
theorem StAt.below {w w' : World} {Bs n c m c2 : Nat} {A A2 : Option Addr} {gs : List GM} (h : StAt w Bs A n c A2 m c2 gs) (hb : Below w.heap.size w w') : StAt w' Bs A n c A2 m c2 gs :=
  ⟨(hb.cell (p := ⟨Bs, 0, none⟩) h.lt).trans h.s0, (hb.cell (p := ⟨Bs, 1, none⟩) h.lt).trans h.s1, Nat.lt_of_lt_of_le h.lt hb.size, h.ms.to hb hb.size, h.n2, h.good⟩

theorem StAt.al2 {w : World} {Bs n c m c2 : Nat} {A A2 : Option Addr} {gs : List GM} (h : StAt w Bs A n c A2 m c2 gs) (o1 o2 : Obj) :
    ((w.alloc o1).alloc o2).cell? ⟨Bs, 0, none⟩ = some (.slice A n c) ∧ ((w.alloc o1).alloc o2).cell? ⟨Bs, 1, none⟩ = some (.slice A2 m c2) :=
  have hb : Below w.heap.size w ((w.alloc o1).alloc o2) := ((Below.refl _ _).alloc (Nat.le_refl _) _).alloc (by simp) _
  ⟨(h.below hb).s0, (h.below hb).s1⟩
theorem StAt.al3 {w : World} {Bs n c m c2 : Nat} {A A2 : Option Addr} {gs : List GM} (h : StAt w Bs A n c A2 m c2 gs) (o1 o2 o3 : Obj) :
    (((w.alloc o1).alloc o2).alloc o3).cell? ⟨Bs, 0, none⟩ = some (.slice A n c) ∧ (((w.alloc o1).alloc o2).alloc o3).cell? ⟨Bs, 1, none⟩ = some (.slice A2 m c2) :=
  have hb : Below w.heap.size w (((w.alloc o1).alloc o2).alloc o3) := (((Below.refl _ _).alloc (Nat.le_refl _) _).alloc (by simp) _).alloc (by simp; omega) _
  ⟨(h.below hb).s0, (h.below hb).s1⟩

end Go.Proofs.YtonnaiknlgmejaaGreatDoor

/-
  append onto a row of the call's own, whatever the source (nil, empty or not): what the new row is, and where it lies. Nothing of the program stands here.
-/
namespace Go.Proofs.YtonnaiknlgmejaaGreatDoor
open Go.RowKit

theorem mcells_one (gs : List GM) : ∀ u ∈ mcells gs, u.oneCell' = true := by
  intro u hu
  obtain ⟨g, _, hg⟩ := List.mem_flatMap.1 hu
  simp [GM.cells] at hg
  rcases hg with rfl | rfl | rfl | rfl | rfl <;> rfl

section
variable {P : Program} (w : World)

theorem run_append_none (base : Nat) (t ty e : TypeId) (i : TypeInfo) (size : Nat) (ht : P.underlying t = some (.slice e)) (hi : P.info? e = some i)
    (v : Value) (n : Nat) (xs : List Value) (hown : w.ownsRow base e size v n xs) (c : Nat) : (Builtin.append_ #[t, t] ty #[v, .slice none 0 c]).run P w = .ok v w := by
  rcases hown.2 with ⟨rfl, rfl⟩ | ⟨g, cap, cur, rfl, _, _, hnc, _⟩
  · simp [Builtin.append_, run_underlying ht, sizeOf, typeInfo, hi, Builtin.lenOf, Builtin.firstCells]
  · simp [Builtin.append_, run_underlying ht, sizeOf, typeInfo, hi, Builtin.lenOf, Builtin.firstCells, hnc, storeCells]

theorem run_append_rd (base : Nat) (t ty e : TypeId) (i : TypeInfo) (z : Value) (size bytes : Nat) (ht : P.underlying t = some (.slice e)) (hi : P.info? e = some i) (hz : i.zero = some z)
    (hsize : i.size = size) (hby : i.bytes = bytes) (hzs : z.cells.size = size) (hsz : 0 < size)
    (v : Value) (n : Nat) (xs : List Value) (hown : w.ownsRow base e size v n xs)
    (B : Nat) (A : Option Addr) (m c : Nat) (news : List Value) (hl : news.length = m * size) (hr : Rd w B A news) (h1 : ∀ u ∈ news, u.oneCell' = true)
    (h63 : n + m ≤ maxLen) (hbytes : (n + m) * bytes ≤ 140737488355328) (hbase : base ≤ w.heap.size) :
    ∃ v' w', (Builtin.append_ #[t, t] ty #[v, .slice A m c]).run P w = .ok v' w' ∧ w'.ownsRow base e size v' (n + m) (xs ++ news) ∧ w.grownBy w' v.ownBlock ∧
      (v'.ownBlock = v.ownBlock ∨ v'.ownBlock = some w.heap.size) := by
  rcases A with _ | ad
  · have hn : news = [] := by
      rcases news with _ | ⟨x, news⟩
      · rfl
      · obtain ⟨b, off, h, _⟩ := hr (by simp)
        cases h
    subst hn
    have hm : m = 0 := by
      have h0 : m * size = 0 := by rw [← hl]; rfl
      rcases Nat.mul_eq_zero.1 h0 with h | h
      · exact h
      · omega
    subst hm
    exact ⟨v, w, run_append_none w base t ty e i size ht hi v n xs hown c, by simpa using hown, World.grownBy.refl w _, .inl rfl⟩
  · have hcells : ∀ j u, news[j]? = some u → w.cell? (ad.add j) = some u := by
      intro j u hu
      obtain ⟨b, off, h, _, hc⟩ := hr (by have := (List.getElem?_eq_some_iff.1 hu).1; omega)
      injection h with h
      subst h
      have := hc j u hu
      unfold Addr.add
      split
      · rename_i hj; subst hj; simpa using this
      · exact this
    obtain ⟨v', w', hrun, h2, h3, _, h5⟩ := run_append_own_at (P := P) w base t ty e i z size bytes ht hi hz hsize hby hzs hsz v n xs hown ad m c news hl hcells h1 h63 hbytes hbase
    exact ⟨v', w', hrun, h2, h3, h5⟩

theorem wpList_append_rd {ops : Array Oper} {rest : List Oper} {o : Oper} {a : Act} {Q : Exit → Act → World → Prop} (hgd : o.guard = none) (s x : Operand) (t : TypeId)
    (ho : o.op = .call { callee := .builtin .append, args := #[s, x], argTypes := #[t, t] })
    (base : Nat) (e : TypeId) (i : TypeInfo) (z : Value) (size bytes : Nat) (ht : P.underlying t = some (.slice e)) (hi : P.info? e = some i) (hz : i.zero = some z)
    (hsize : i.size = size) (hby : i.bytes = bytes) (hzs : z.cells.size = size) (hsz : 0 < size)
    (v : Value) (n : Nat) (xs : List Value) (hs : a.eval s = v) (hown : w.ownsRow base e size v n xs)
    (B : Nat) (A : Option Addr) (m c : Nat) (news : List Value) (hx : a.eval x = .slice A m c) (hl : news.length = m * size) (hr : Rd w B A news) (h1 : ∀ u ∈ news, u.oneCell' = true)
    (h63 : n + m ≤ maxLen) (hbytes : (n + m) * bytes ≤ 140737488355328) (hbase : base ≤ w.heap.size)
    (h : ∀ v' w', w'.ownsRow base e size v' (n + m) (xs ++ news) → w.grownBy w' v.ownBlock → (v'.ownBlock = v.ownBlock ∨ v'.ownBlock = some w.heap.size) → wpList P ops Q rest (a.put o.dst v') w') : wpList P ops Q (o :: rest) a w := by
  refine wpList_plain hgd fun _ hK => ?_
  obtain ⟨v', w', hrun, h2, h3, h4⟩ := run_append_rd (P := P) w base t o.type e i z size bytes ht hi hz hsize hby hzs hsz v n xs hown B A m c news hl hr h1 h63 hbytes hbase
  unfold Oper.wp execOp
  simp only [ho, resolve, invoke, builtin, Sem.run_bind, Sem.run_pure, Result.andThen_ok, List.map_toArray, List.map_cons, List.map_nil, hs, hx, hrun]
  exact hK _ _ (h v' w' h2 h3 h4)
end

end Go.Proofs.YtonnaiknlgmejaaGreatDoor

/-
  The life that law41 leads, in memory.
-/
namespace Go.Proofs.YtonnaiknlgmejaaGreatDoor
open Go.RowKit Go.Shelf

def St1.cells (s : St1) : List Value := [.int .i64 s.id, .int .i64 s.fr, .int .i64 s.un, .int .i64 s.room, .bool s.quoted]
def Cd1.cells (c : Cd1) : List Value := [.int .i64 c.id, .int .i64 c.door, .int .i64 c.counter, .int .i64 c.fr, .int .i64 c.un]
def stCells (l : List St1) : List Value := l.flatMap St1.cells
def cdCells (l : List Cd1) : List Value := l.flatMap Cd1.cells
theorem stCells_length : ∀ l : List St1, (stCells l).length = l.length * 5
  | [] => rfl
  | x :: l => by
    have := stCells_length l
    unfold stCells at this ⊢
    rw [List.flatMap_cons, List.length_append, this, List.length_cons]
    simp [St1.cells]
    omega
theorem cdCells_length : ∀ l : List Cd1, (cdCells l).length = l.length * 5
  | [] => rfl
  | x :: l => by
    have := cdCells_length l
    unfold cdCells at this ⊢
    rw [List.flatMap_cons, List.length_append, this, List.length_cons]
    simp [Cd1.cells]
    omega
theorem stCells_snoc (l : List St1) (x : St1) : stCells (l ++ [x]) = stCells l ++ x.cells := by simp [stCells]
theorem cdCells_snoc (l : List Cd1) (x : Cd1) : cdCells (l ++ [x]) = cdCells l ++ x.cells := by simp [cdCells]
theorem flat5_at {α : Type} (f : α → List Value) (hf : ∀ x, (f x).length = 5) : ∀ (l : List α) (k : Nat) (hk : k < l.length) (j : Nat), j < 5 → (l.flatMap f)[k * 5 + j]? = (f l[k])[j]?
  | x :: l, 0, _, j, hj => by
    rw [List.flatMap_cons, List.getElem?_append_left (by rw [hf]; omega)]
    simp
  | x :: l, k + 1, hk, j, hj => by
    rw [List.flatMap_cons, List.getElem?_append_right (by rw [hf]; omega), hf, show (k + 1) * 5 + j - 5 = k * 5 + j by omega, flat5_at f hf l k (by simpa using hk) j hj]
    rfl
theorem flat5_set {α : Type} (f : α → List Value) (hf : ∀ x, (f x).length = 5) : ∀ (l : List α) (k : Nat) (hk : k < l.length) (j : Nat) (y : α) (u : Value), j < 5 → f y = (f l[k]).set j u → (l.flatMap f).set (k * 5 + j) u = (l.set k y).flatMap f
  | x :: l, 0, _, j, y, u, hj, hy => by
    rw [List.flatMap_cons, List.set_append_left _ _ (by rw [hf]; omega)]
    simp only [List.set_cons_zero, List.flatMap_cons, Nat.zero_mul, Nat.zero_add]
    rw [hy]
    rfl
  | x :: l, k + 1, hk, j, y, u, hj, hy => by
    rw [List.flatMap_cons, List.set_append_right _ _ (by rw [hf]; omega), hf, show (k + 1) * 5 + j - 5 = k * 5 + j by omega, flat5_set f hf l k (by simpa using hk) j y u hj hy]
    rfl

theorem info_st1 : (Tryz.prog.info? 138).map (fun i => (i.zero, i.size, i.bytes)) = some (some (.agg #[.int .i64 0, .int .i64 0, .int .i64 0, .int .i64 0, .bool false]), 5, 40) := by kernel_rfl
theorem info_cd1 : (Tryz.prog.info? 117).map (fun i => (i.zero, i.size, i.bytes)) = some (some (.agg #[.int .i64 0, .int .i64 0, .int .i64 0, .int .i64 0, .int .i64 0]), 5, 40) := by kernel_rfl

def lifeCells (L : Life) (vm vs vc : Value) : List Value := .int .i64 L.time :: vm :: (L.share.map (Value.int .i64) ++ vs :: vc :: (L.counter.map (Value.int .i64) ++ L.opened.map (Value.int .i64)))
/-- A block that is none of a life's own. -/
structure Away (P : Nat) (vm vs vc : Value) (b : Nat) : Prop where
  p : b ≠ P
  m : vm.ownBlock ≠ some b
  s : vs.ownBlock ≠ some b
  c : vc.ownBlock ≠ some b
/-- A life in memory; the blocks of F are none of its own. -/
structure LifeAt (F : Nat → Prop) (P : Nat) (w : World) (L : Life) (vm vs vc : Value) (gs : List GM) : Prop where
  blk : w.heap[P]? = some (.cells (lifeCells L vm vs vc).toArray 34 (0, 0))
  om : w.ownsRow 0 37 5 vm gs.length (mcells gs)
  os : w.ownsRow 0 138 5 vs L.stays.length (stCells L.stays)
  oc : w.ownsRow 0 117 5 vc L.cards.length (cdCells L.cards)
  pm : vm.ownBlock ≠ some P
  ps : vs.ownBlock ≠ some P
  pc : vc.ownBlock ≠ some P
  ms : ∀ q, vm.ownBlock = some q → vs.ownBlock ≠ some q
  mc : ∀ q, vm.ownBlock = some q → vc.ownBlock ≠ some q
  sc : ∀ q, vs.ownBlock = some q → vc.ownBlock ≠ some q
  gm : gs.map GM.msg = L.msgs
  ga : ∀ g ∈ gs, g.ok w w.heap.size ∧ ∃ b, g.A = some ⟨b, 0, none⟩ ∧ b < w.heap.size ∧ Away P vm vs vc b
  hF : ∀ q, F q → q < w.heap.size ∧ Away P vm vs vc q
  l1 : L.share.length = 32
  l2 : L.counter.length = 4
  l3 : L.opened.length = 4

/-- What is left as it was. -/
structure Fr (F : Nat → Prop) (w w' : World) : Prop where
  b : Below 0 w w'
  f : ∀ q, F q → w'.heap[q]? = w.heap[q]?
theorem Fr.refl (F : Nat → Prop) (w : World) : Fr F w w := ⟨Below.refl _ _, fun _ _ => rfl⟩
theorem Fr.tr {F : Nat → Prop} {a b c : World} (h : Fr F a b) (k : Fr F b c) : Fr F a c := ⟨h.b.trans k.b, fun q hq => (k.f q hq).trans (h.f q hq)⟩
theorem Fr.sub {F G : Nat → Prop} {a b : World} (h : Fr F a b) (hs : ∀ q, G q → F q) : Fr G a b := ⟨h.b, fun q hq => h.f q (hs q hq)⟩
theorem Fr.cell {F : Nat → Prop} {a b : World} (h : Fr F a b) {p : Addr} (hp : F p.block) : b.cell? p = a.cell? p := World.cell?_of_block (w := a) (h.f p.block hp)
theorem Fr.of_below {F : Nat → Prop} {a b : World} {n : Nat} (h : Below n a b) (hF : ∀ q, F q → q < n) : Fr F a b := ⟨h.mono (Nat.zero_le _), fun q hq => h.block q (hF q hq)⟩
theorem Fr.below {F : Nat → Prop} {a b : World} {n : Nat} (h : Fr F a b) (hF : ∀ q, q < n → F q) : Below n a b := ⟨h.b.os, h.b.tape, h.b.output, h.b.size, fun k hk => h.f k (hF k hk)⟩

theorem ok_move {w w' : World} {g : GM} {b : Nat} (h : g.ok w w.heap.size) (hA : g.A = some ⟨b, 0, none⟩) (hb : w'.heap[b]? = w.heap[b]?) (hs : w.heap.size ≤ w'.heap.size) : g.ok w' w'.heap.size := by
  refine ⟨fun hn => ?_, h.len, h.cap, h.most, h.p, h.s, h.t, h.k, h.a⟩
  obtain ⟨b', off, e, hlt, hc⟩ := h.rd hn
  rw [hA] at e
  cases e
  exact ⟨b, 0, hA, Nat.lt_of_lt_of_le hlt hs, fun j v hv => (World.cell?_of_block (w := w) (a := ⟨b, 0 + j, none⟩) hb).trans (hc j v hv)⟩

section
variable {F : Nat → Prop} {P : Nat} {w w' : World} {L : Life} {vm vs vc : Value} {gs : List GM}
theorem LifeAt.lt (h : LifeAt F P w L vm vs vc gs) : P < w.heap.size := (Array.getElem?_eq_some_iff.1 h.blk).1
theorem LifeAt.grown (h : LifeAt F P w L vm vs vc gs) (hg : w.grownBy w' none) : LifeAt F P w' L vm vs vc gs := by
  have hne : ∀ v : Value, v.ownBlock = none ∨ v.ownBlock ≠ none := fun v => by cases v.ownBlock <;> simp
  have hbk : ∀ q, q < w.heap.size → w'.heap[q]? = w.heap[q]? := fun q hq => hg.block q hq (by simp)
  exact ⟨(hbk P h.lt).trans h.blk, h.om.kept hg (hne _), h.os.kept hg (hne _), h.oc.kept hg (hne _), h.pm, h.ps, h.pc, h.ms, h.mc, h.sc, h.gm,
    fun g hg' => by
      obtain ⟨h1, b, h2, h3, h4⟩ := h.ga g hg'
      exact ⟨ok_move h1 h2 (hbk b h3) hg.size, b, h2, Nat.lt_of_lt_of_le h3 hg.size, h4⟩,
    fun q hq => ⟨Nat.lt_of_lt_of_le (h.hF q hq).1 hg.size, (h.hF q hq).2⟩, h.l1, h.l2, h.l3⟩
theorem LifeAt.keep (h : LifeAt F P w L vm vs vc gs) (hb : Below w.heap.size w w') : LifeAt F P w' L vm vs vc gs :=
  h.grown ⟨hb.os, hb.tape, hb.output, hb.size, fun k hk _ => hb.block k hk⟩
theorem LifeAt.sub {G : Nat → Prop} (h : LifeAt F P w L vm vs vc gs) (hs : ∀ q, G q → F q) : LifeAt G P w L vm vs vc gs :=
  ⟨h.blk, h.om, h.os, h.oc, h.pm, h.ps, h.pc, h.ms, h.mc, h.sc, h.gm, h.ga, fun q hq => h.hF q (hs q hq), h.l1, h.l2, h.l3⟩
/-- A block made since is none of its own. -/
theorem LifeAt.away_new (h : LifeAt F P w L vm vs vc gs) {q : Nat} (hq : w.heap.size ≤ q) : Away P vm vs vc q :=
  ⟨fun e => by have := h.lt; omega, fun e => by have := (h.om.lt q e).2; omega, fun e => by have := (h.os.lt q e).2; omega, fun e => by have := (h.oc.lt q e).2; omega⟩
theorem LifeAt.more (h : LifeAt F P w L vm vs vc gs) (hb : Below w.heap.size w w') {G : Nat → Prop} (hG : ∀ q, G q → F q ∨ (w.heap.size ≤ q ∧ q < w'.heap.size)) : LifeAt G P w' L vm vs vc gs := by
  have h' := h.keep hb
  refine ⟨h'.blk, h'.om, h'.os, h'.oc, h'.pm, h'.ps, h'.pc, h'.ms, h'.mc, h'.sc, h'.gm, h'.ga, fun q hq => ?_, h'.l1, h'.l2, h'.l3⟩
  rcases hG q hq with h1 | h1
  · exact h'.hF q h1
  · exact ⟨h1.2, h.away_new h1.1⟩
theorem LifeAt.cell (h : LifeAt F P w L vm vs vc gs) {i : Nat} {v : Value} (hi : (lifeCells L vm vs vc)[i]? = some v) : w.cell? ⟨P, i, none⟩ = some v := by
  unfold World.cell?
  rw [h.blk]
  simpa using hi
theorem LifeAt.fr (h : LifeAt F P w L vm vs vc gs) (i : Nat) : w.frozen? ⟨P, i, none⟩ = false := by
  unfold World.frozen?
  rw [h.blk]
  simp

theorem cells_time : (lifeCells L vm vs vc)[0]? = some (.int .i64 L.time) := rfl
theorem cells_msgs : (lifeCells L vm vs vc)[1]? = some vm := rfl
theorem cells_share (h : L.share.length = 32) {i : Nat} (hi : i < 32) : (lifeCells L vm vs vc)[2 + i]? = some (.int .i64 (L.share.getD i 0)) := by
  unfold lifeCells
  rw [show 2 + i = (i + 1) + 1 by omega, List.getElem?_cons_succ, List.getElem?_cons_succ, List.getElem?_append_left (by rw [List.length_map]; omega), List.getElem?_map, List.getElem?_eq_getElem (by omega)]
  simp [List.getD, List.getElem?_eq_getElem (show i < L.share.length by omega)]
theorem cells_stays (h : L.share.length = 32) : (lifeCells L vm vs vc)[34]? = some vs := by
  unfold lifeCells
  rw [show (34 : Nat) = (32 + 1) + 1 by omega, List.getElem?_cons_succ, List.getElem?_cons_succ, List.getElem?_append_right (by rw [List.length_map]; omega), List.length_map, h]
  rfl
theorem cells_cards (h : L.share.length = 32) : (lifeCells L vm vs vc)[35]? = some vc := by
  unfold lifeCells
  rw [show (35 : Nat) = (33 + 1) + 1 by omega, List.getElem?_cons_succ, List.getElem?_cons_succ, List.getElem?_append_right (by rw [List.length_map]; omega), List.length_map, h]
  rfl
theorem cells_counter (h : L.share.length = 32) (h2 : L.counter.length = 4) {i : Nat} (hi : i < 4) : (lifeCells L vm vs vc)[36 + i]? = some (.int .i64 (L.counter.getD i 0)) := by
  unfold lifeCells
  rw [show 36 + i = (34 + i + 1) + 1 by omega, List.getElem?_cons_succ, List.getElem?_cons_succ, List.getElem?_append_right (by rw [List.length_map]; omega), List.length_map, h, show 34 + i - 32 = (i + 1) + 1 by omega, List.getElem?_cons_succ, List.getElem?_cons_succ, List.getElem?_append_left (by rw [List.length_map]; omega), List.getElem?_map, List.getElem?_eq_getElem (by omega)]
  simp [List.getD, List.getElem?_eq_getElem (show i < L.counter.length by omega)]
theorem cells_opened (h : L.share.length = 32) (h2 : L.counter.length = 4) (h3 : L.opened.length = 4) {i : Nat} (hi : i < 4) : (lifeCells L vm vs vc)[40 + i]? = some (.int .i64 (L.opened.getD i 0)) := by
  unfold lifeCells
  rw [show 40 + i = (38 + i + 1) + 1 by omega, List.getElem?_cons_succ, List.getElem?_cons_succ, List.getElem?_append_right (by rw [List.length_map]; omega), List.length_map, h, show 38 + i - 32 = (i + 4 + 1) + 1 by omega, List.getElem?_cons_succ, List.getElem?_cons_succ, List.getElem?_append_right (by rw [List.length_map]; omega), List.length_map, h2, show i + 4 - 4 = i by omega, List.getElem?_map, List.getElem?_eq_getElem (by omega)]
  simp [List.getD, List.getElem?_eq_getElem (show i < L.opened.length by omega)]

theorem set_time (t : Int) : (lifeCells L vm vs vc).set 0 (.int .i64 t) = lifeCells { L with time := t } vm vs vc := rfl
theorem set_msgs (v : Value) (l : List Msg) : (lifeCells L vm vs vc).set 1 v = lifeCells { L with msgs := l } v vs vc := rfl
theorem set_share (h : L.share.length = 32) {i : Nat} (hi : i < 32) (x : Int) : (lifeCells L vm vs vc).set (2 + i) (.int .i64 x) = lifeCells { L with share := L.share.set i x } vm vs vc := by
  unfold lifeCells
  rw [show 2 + i = (i + 1) + 1 by omega, List.set_cons_succ, List.set_cons_succ, List.set_append_left _ _ (by rw [List.length_map]; omega), List.map_set]
theorem set_stays (h : L.share.length = 32) (v : Value) (l : List St1) : (lifeCells L vm vs vc).set 34 v = lifeCells { L with stays := l } vm v vc := by
  unfold lifeCells
  rw [show (34 : Nat) = (32 + 1) + 1 by omega, List.set_cons_succ, List.set_cons_succ, List.set_append_right _ _ (by rw [List.length_map]; omega), List.length_map, h]
  rfl
theorem set_cards (h : L.share.length = 32) (v : Value) (l : List Cd1) : (lifeCells L vm vs vc).set 35 v = lifeCells { L with cards := l } vm vs v := by
  unfold lifeCells
  rw [show (35 : Nat) = (33 + 1) + 1 by omega, List.set_cons_succ, List.set_cons_succ, List.set_append_right _ _ (by rw [List.length_map]; omega), List.length_map, h]
  rfl
theorem set_counter (h : L.share.length = 32) (h2 : L.counter.length = 4) {i : Nat} (hi : i < 4) (x : Int) : (lifeCells L vm vs vc).set (36 + i) (.int .i64 x) = lifeCells { L with counter := L.counter.set i x } vm vs vc := by
  unfold lifeCells
  rw [show 36 + i = (34 + i + 1) + 1 by omega, List.set_cons_succ, List.set_cons_succ, List.set_append_right _ _ (by rw [List.length_map]; omega), List.length_map, h, show 34 + i - 32 = (i + 1) + 1 by omega, List.set_cons_succ, List.set_cons_succ, List.set_append_left _ _ (by rw [List.length_map]; omega), List.map_set]
theorem set_opened (h : L.share.length = 32) (h2 : L.counter.length = 4) {i : Nat} (x : Int) : (lifeCells L vm vs vc).set (40 + i) (.int .i64 x) = lifeCells { L with opened := L.opened.set i x } vm vs vc := by
  unfold lifeCells
  rw [show 40 + i = (38 + i + 1) + 1 by omega, List.set_cons_succ, List.set_cons_succ, List.set_append_right _ _ (by rw [List.length_map]; omega), List.length_map, h, show 38 + i - 32 = (i + 4 + 1) + 1 by omega, List.set_cons_succ, List.set_cons_succ, List.set_append_right _ _ (by rw [List.length_map]; omega), List.length_map, h2, show i + 4 - 4 = i by omega, List.map_set]

/-- A store into the life's own block. -/
theorem grown_set (w : World) (P i : Nat) (v : Value) : w.grownBy (w.setCell ⟨P, i, none⟩ v) (some P) :=
  ⟨rfl, rfl, rfl, by simp, fun k _ hne => Below.heap_setCell w ⟨P, i, none⟩ v k (fun e => hne (by rw [e]))⟩
theorem LifeAt.store (h : LifeAt F P w L vm vs vc gs) {L' : Life} {i : Nat} {v : Value} (hc : (lifeCells L vm vs vc).set i v = lifeCells L' vm vs vc) (e1 : L'.msgs = L.msgs) (e2 : L'.stays = L.stays) (e3 : L'.cards = L.cards) (l1 : L'.share.length = 32) (l2 : L'.counter.length = 4) (l3 : L'.opened.length = 4) :
    LifeAt F P (w.setCell ⟨P, i, none⟩ v) L' vm vs vc gs ∧ Fr F w (w.setCell ⟨P, i, none⟩ v) := by
  have hg := grown_set w P i v
  have hbk : ∀ q, q < w.heap.size → q ≠ P → (w.setCell ⟨P, i, none⟩ v).heap[q]? = w.heap[q]? := fun q hq hne => hg.block q hq (fun e => hne (Option.some.inj e))
  refine ⟨⟨?_, h.om.kept hg (.inr h.pm), ?_, ?_, h.pm, h.ps, h.pc, h.ms, h.mc, h.sc, h.gm.trans e1.symm, fun g hg' => ?_, fun q hq => ⟨by have := (h.hF q hq).1; simpa using this, (h.hF q hq).2⟩, l1, l2, l3⟩, Below.setCell (Below.refl _ _) (Nat.zero_le _) _, fun q hq => hbk q (h.hF q hq).1 (h.hF q hq).2.p⟩
  · have := heap_setCell_same w P i (lifeCells L vm vs vc).toArray 34 v h.blk
    rw [this, ← hc]
    simp
  · rw [e2]; exact h.os.kept hg (.inr h.ps)
  · rw [e3]; exact h.oc.kept hg (.inr h.pc)
  · obtain ⟨h1, b, h2, h3, h4⟩ := h.ga g hg'
    exact ⟨ok_move h1 h2 (hbk b h3 h4.p) hg.size, b, h2, by simpa using h3, h4⟩
end
end Go.Proofs.YtonnaiknlgmejaaGreatDoor

/-
  The rows of a life: what an append and a store do to it. Printed by gen_lifex.py.
-/
namespace Go.Proofs.YtonnaiknlgmejaaGreatDoor
open Go.RowKit Go.Shelf

section
variable {F : Nat → Prop} {P : Nat} {w w4 : World} {L : Life} {vm vs vc : Value} {gs : List GM}
theorem LifeAt.tell_step (h : LifeAt F P w L vm vs vc gs) {x : GM} {g cap : Nat} (hgr : w.grownBy w4 vm.ownBlock) (hown : w4.ownsRow 0 37 5 (.slice (some ⟨g, 0, none⟩) (gs.length + 1) cap) (gs.length + 1) (mcells gs ++ x.cells)) (hat : vm.ownBlock = some g ∨ g = w.heap.size) (hok : x.ok w w.heap.size) {b : Nat} (hA : x.A = some ⟨b, 0, none⟩) (hb : F b) :
    LifeAt F P (w4.setCell ⟨P, 1, none⟩ (.slice (some ⟨g, 0, none⟩) (gs.length + 1) cap)) { L with msgs := L.msgs ++ [x.msg] } (.slice (some ⟨g, 0, none⟩) (gs.length + 1) cap) vs vc (gs ++ [x]) ∧ Fr F w (w4.setCell ⟨P, 1, none⟩ (.slice (some ⟨g, 0, none⟩) (gs.length + 1) cap)) := by
  have hnp : some P ≠ vm.ownBlock := fun e => h.pm e.symm
  have hgs := grown_set w4 P 1 (.slice (some ⟨g, 0, none⟩) (gs.length + 1) cap)
  have hsz : w.heap.size ≤ (w4.setCell ⟨P, 1, none⟩ (.slice (some ⟨g, 0, none⟩) (gs.length + 1) cap)).heap.size := by simpa using hgr.size
  have hbk : ∀ q, q < w.heap.size → vm.ownBlock ≠ some q → q ≠ P → (w4.setCell ⟨P, 1, none⟩ (.slice (some ⟨g, 0, none⟩) (gs.length + 1) cap)).heap[q]? = w.heap[q]? := fun q hq h1 h2 =>
    (hgs.block q (Nat.lt_of_lt_of_le hq hgr.size) (fun e => h2 (Option.some.inj e))).trans (hgr.block q hq (fun e => h1 e.symm))
  have hng : ∀ q, q < w.heap.size → vm.ownBlock ≠ some q → g ≠ q := fun q hq h1 e => by
    rcases hat with h2 | h2
    · exact h1 (by rw [h2, e])
    · omega
  have hgw : g < w4.heap.size := (hown.lt g rfl).2
  have hPg : g ≠ P := hng P h.lt (fun e => h.pm e)
  have haw : ∀ q, q < w.heap.size → Away P vm vs vc q → Away P (.slice (some ⟨g, 0, none⟩) (gs.length + 1) cap) vs vc q := fun q hq ha => ⟨ha.p, fun e => hng q hq ha.m (Option.some.inj e), ha.s, ha.c⟩
  have hrow : ∀ (u : Value), vm.ownBlock = u.ownBlock → True := fun _ _ => trivial
  clear hrow
  have kvs : vs.ownBlock = none ∨ vs.ownBlock ≠ vm.ownBlock := by
    cases e : vs.ownBlock with
    | none => exact .inl rfl
    | some q => exact .inr (fun e2 => (fun q e e2 => h.ms q e2 e) q e e2.symm)
  have gvs : vs.ownBlock ≠ some g := fun e => by
    rcases hat with h2 | h2
    · exact (fun q e e2 => h.ms q e2 e) g e h2
    · have := (h.os.lt g e).2; omega
  have kvc : vc.ownBlock = none ∨ vc.ownBlock ≠ vm.ownBlock := by
    cases e : vc.ownBlock with
    | none => exact .inl rfl
    | some q => exact .inr (fun e2 => (fun q e e2 => h.mc q e2 e) q e e2.symm)
  have gvc : vc.ownBlock ≠ some g := fun e => by
    rcases hat with h2 | h2
    · exact (fun q e e2 => h.mc q e2 e) g e h2
    · have := (h.oc.lt g e).2; omega
  refine ⟨⟨?_, by rw [show mcells (gs ++ [x]) = mcells gs ++ x.cells from by simp [mcells], List.length_append, List.length_singleton]; exact hown.kept hgs (.inr (fun e => hPg (Option.some.inj e))), (h.os.kept hgr kvs).kept hgs (.inr h.ps), (h.oc.kept hgr kvc).kept hgs (.inr h.pc), fun e => hPg (Option.some.inj e), h.ps, h.pc, fun q e e2 => gvs (by have e3 : g = q := Option.some.inj e; rw [e3]; exact e2), fun q e e2 => gvc (by have e3 : g = q := Option.some.inj e; rw [e3]; exact e2), h.sc, by simp [h.gm], fun y hy => by
      rcases List.mem_append.1 hy with hy | hy
      · obtain ⟨h1, b', h2, h3, h4⟩ := h.ga y hy
        exact ⟨ok_move h1 h2 (hbk b' h3 h4.m h4.p) hsz, b', h2, Nat.lt_of_lt_of_le h3 hsz, haw b' h3 h4⟩
      · rw [List.mem_singleton] at hy
        subst hy
        obtain ⟨h3, h4⟩ := h.hF b hb
        exact ⟨ok_move hok hA (hbk b h3 h4.m h4.p) hsz, b, hA, Nat.lt_of_lt_of_le h3 hsz, haw b h3 h4⟩, fun q hq => ?_, h.l1, h.l2, h.l3⟩, ?_, fun q hq => ?_⟩
  · have h1 : w4.heap[P]? = some (.cells (lifeCells L vm vs vc).toArray 34 (0, 0)) := (hgr.block P h.lt hnp).trans h.blk
    have := heap_setCell_same w4 P 1 (lifeCells L vm vs vc).toArray 34 (.slice (some ⟨g, 0, none⟩) (gs.length + 1) cap) h1
    rw [this, ← set_msgs (L := L) (vm := vm) (vs := vs) (vc := vc) (.slice (some ⟨g, 0, none⟩) (gs.length + 1) cap) (L.msgs ++ [x.msg])]
    simp
  · obtain ⟨h3, h4⟩ := h.hF q hq
    exact ⟨Nat.lt_of_lt_of_le h3 hsz, haw q h3 h4⟩
  · exact ⟨hgr.os, hgr.tape, hgr.output, hsz, fun k hk => absurd hk (Nat.not_lt_zero _)⟩
  · obtain ⟨h3, h4⟩ := h.hF q hq
    exact hbk q h3 h4.m h4.p

theorem LifeAt.stay_step (h : LifeAt F P w L vm vs vc gs) {x : St1} {g cap : Nat} (hgr : w.grownBy w4 vs.ownBlock) (hown : w4.ownsRow 0 138 5 (.slice (some ⟨g, 0, none⟩) (L.stays.length + 1) cap) (L.stays.length + 1) (stCells L.stays ++ x.cells)) (hat : vs.ownBlock = some g ∨ g = w.heap.size) :
    LifeAt F P (w4.setCell ⟨P, 34, none⟩ (.slice (some ⟨g, 0, none⟩) (L.stays.length + 1) cap)) { L with stays := L.stays ++ [x] } vm (.slice (some ⟨g, 0, none⟩) (L.stays.length + 1) cap) vc gs ∧ Fr F w (w4.setCell ⟨P, 34, none⟩ (.slice (some ⟨g, 0, none⟩) (L.stays.length + 1) cap)) := by
  have hnp : some P ≠ vs.ownBlock := fun e => h.ps e.symm
  have hgs := grown_set w4 P 34 (.slice (some ⟨g, 0, none⟩) (L.stays.length + 1) cap)
  have hsz : w.heap.size ≤ (w4.setCell ⟨P, 34, none⟩ (.slice (some ⟨g, 0, none⟩) (L.stays.length + 1) cap)).heap.size := by simpa using hgr.size
  have hbk : ∀ q, q < w.heap.size → vs.ownBlock ≠ some q → q ≠ P → (w4.setCell ⟨P, 34, none⟩ (.slice (some ⟨g, 0, none⟩) (L.stays.length + 1) cap)).heap[q]? = w.heap[q]? := fun q hq h1 h2 =>
    (hgs.block q (Nat.lt_of_lt_of_le hq hgr.size) (fun e => h2 (Option.some.inj e))).trans (hgr.block q hq (fun e => h1 e.symm))
  have hng : ∀ q, q < w.heap.size → vs.ownBlock ≠ some q → g ≠ q := fun q hq h1 e => by
    rcases hat with h2 | h2
    · exact h1 (by rw [h2, e])
    · omega
  have hgw : g < w4.heap.size := (hown.lt g rfl).2
  have hPg : g ≠ P := hng P h.lt (fun e => h.ps e)
  have haw : ∀ q, q < w.heap.size → Away P vm vs vc q → Away P vm (.slice (some ⟨g, 0, none⟩) (L.stays.length + 1) cap) vc q := fun q hq ha => ⟨ha.p, ha.m, fun e => hng q hq ha.s (Option.some.inj e), ha.c⟩
  have hrow : ∀ (u : Value), vs.ownBlock = u.ownBlock → True := fun _ _ => trivial
  clear hrow
  have kvm : vm.ownBlock = none ∨ vm.ownBlock ≠ vs.ownBlock := by
    cases e : vm.ownBlock with
    | none => exact .inl rfl
    | some q => exact .inr (fun e2 => (fun q e => h.ms q e) q e e2.symm)
  have gvm : vm.ownBlock ≠ some g := fun e => by
    rcases hat with h2 | h2
    · exact (fun q e => h.ms q e) g e h2
    · have := (h.om.lt g e).2; omega
  have kvc : vc.ownBlock = none ∨ vc.ownBlock ≠ vs.ownBlock := by
    cases e : vc.ownBlock with
    | none => exact .inl rfl
    | some q => exact .inr (fun e2 => (fun q e e2 => h.sc q e2 e) q e e2.symm)
  have gvc : vc.ownBlock ≠ some g := fun e => by
    rcases hat with h2 | h2
    · exact (fun q e e2 => h.sc q e2 e) g e h2
    · have := (h.oc.lt g e).2; omega
  refine ⟨⟨?_, (h.om.kept hgr kvm).kept hgs (.inr h.pm), by rw [stCells_snoc, List.length_append, List.length_singleton]; exact hown.kept hgs (.inr (fun e => hPg (Option.some.inj e))), (h.oc.kept hgr kvc).kept hgs (.inr h.pc), h.pm, fun e => hPg (Option.some.inj e), h.pc, fun q e e2 => gvm (by have e3 : g = q := Option.some.inj e2; rw [e3]; exact e), h.mc, fun q e e2 => gvc (by have e3 : g = q := Option.some.inj e; rw [e3]; exact e2), h.gm, fun y hy => by
      obtain ⟨h1, b', h2, h3, h4⟩ := h.ga y hy
      exact ⟨ok_move h1 h2 (hbk b' h3 h4.s h4.p) hsz, b', h2, Nat.lt_of_lt_of_le h3 hsz, haw b' h3 h4⟩, fun q hq => ?_, h.l1, h.l2, h.l3⟩, ?_, fun q hq => ?_⟩
  · have h1 : w4.heap[P]? = some (.cells (lifeCells L vm vs vc).toArray 34 (0, 0)) := (hgr.block P h.lt hnp).trans h.blk
    have := heap_setCell_same w4 P 34 (lifeCells L vm vs vc).toArray 34 (.slice (some ⟨g, 0, none⟩) (L.stays.length + 1) cap) h1
    rw [this, ← set_stays (vm := vm) (vs := vs) (vc := vc) h.l1 (.slice (some ⟨g, 0, none⟩) (L.stays.length + 1) cap) (L.stays ++ [x])]
    simp
  · obtain ⟨h3, h4⟩ := h.hF q hq
    exact ⟨Nat.lt_of_lt_of_le h3 hsz, haw q h3 h4⟩
  · exact ⟨hgr.os, hgr.tape, hgr.output, hsz, fun k hk => absurd hk (Nat.not_lt_zero _)⟩
  · obtain ⟨h3, h4⟩ := h.hF q hq
    exact hbk q h3 h4.s h4.p

theorem LifeAt.card_step (h : LifeAt F P w L vm vs vc gs) {x : Cd1} {g cap : Nat} (hgr : w.grownBy w4 vc.ownBlock) (hown : w4.ownsRow 0 117 5 (.slice (some ⟨g, 0, none⟩) (L.cards.length + 1) cap) (L.cards.length + 1) (cdCells L.cards ++ x.cells)) (hat : vc.ownBlock = some g ∨ g = w.heap.size) :
    LifeAt F P (w4.setCell ⟨P, 35, none⟩ (.slice (some ⟨g, 0, none⟩) (L.cards.length + 1) cap)) { L with cards := L.cards ++ [x] } vm vs (.slice (some ⟨g, 0, none⟩) (L.cards.length + 1) cap) gs ∧ Fr F w (w4.setCell ⟨P, 35, none⟩ (.slice (some ⟨g, 0, none⟩) (L.cards.length + 1) cap)) := by
  have hnp : some P ≠ vc.ownBlock := fun e => h.pc e.symm
  have hgs := grown_set w4 P 35 (.slice (some ⟨g, 0, none⟩) (L.cards.length + 1) cap)
  have hsz : w.heap.size ≤ (w4.setCell ⟨P, 35, none⟩ (.slice (some ⟨g, 0, none⟩) (L.cards.length + 1) cap)).heap.size := by simpa using hgr.size
  have hbk : ∀ q, q < w.heap.size → vc.ownBlock ≠ some q → q ≠ P → (w4.setCell ⟨P, 35, none⟩ (.slice (some ⟨g, 0, none⟩) (L.cards.length + 1) cap)).heap[q]? = w.heap[q]? := fun q hq h1 h2 =>
    (hgs.block q (Nat.lt_of_lt_of_le hq hgr.size) (fun e => h2 (Option.some.inj e))).trans (hgr.block q hq (fun e => h1 e.symm))
  have hng : ∀ q, q < w.heap.size → vc.ownBlock ≠ some q → g ≠ q := fun q hq h1 e => by
    rcases hat with h2 | h2
    · exact h1 (by rw [h2, e])
    · omega
  have hgw : g < w4.heap.size := (hown.lt g rfl).2
  have hPg : g ≠ P := hng P h.lt (fun e => h.pc e)
  have haw : ∀ q, q < w.heap.size → Away P vm vs vc q → Away P vm vs (.slice (some ⟨g, 0, none⟩) (L.cards.length + 1) cap) q := fun q hq ha => ⟨ha.p, ha.m, ha.s, fun e => hng q hq ha.c (Option.some.inj e)⟩
  have hrow : ∀ (u : Value), vc.ownBlock = u.ownBlock → True := fun _ _ => trivial
  clear hrow
  have kvm : vm.ownBlock = none ∨ vm.ownBlock ≠ vc.ownBlock := by
    cases e : vm.ownBlock with
    | none => exact .inl rfl
    | some q => exact .inr (fun e2 => (fun q e => h.mc q e) q e e2.symm)
  have gvm : vm.ownBlock ≠ some g := fun e => by
    rcases hat with h2 | h2
    · exact (fun q e => h.mc q e) g e h2
    · have := (h.om.lt g e).2; omega
  have kvs : vs.ownBlock = none ∨ vs.ownBlock ≠ vc.ownBlock := by
    cases e : vs.ownBlock with
    | none => exact .inl rfl
    | some q => exact .inr (fun e2 => (fun q e => h.sc q e) q e e2.symm)
  have gvs : vs.ownBlock ≠ some g := fun e => by
    rcases hat with h2 | h2
    · exact (fun q e => h.sc q e) g e h2
    · have := (h.os.lt g e).2; omega
  refine ⟨⟨?_, (h.om.kept hgr kvm).kept hgs (.inr h.pm), (h.os.kept hgr kvs).kept hgs (.inr h.ps), by rw [cdCells_snoc, List.length_append, List.length_singleton]; exact hown.kept hgs (.inr (fun e => hPg (Option.some.inj e))), h.pm, h.ps, fun e => hPg (Option.some.inj e), h.ms, fun q e e2 => gvm (by have e3 : g = q := Option.some.inj e2; rw [e3]; exact e), fun q e e2 => gvs (by have e3 : g = q := Option.some.inj e2; rw [e3]; exact e), h.gm, fun y hy => by
      obtain ⟨h1, b', h2, h3, h4⟩ := h.ga y hy
      exact ⟨ok_move h1 h2 (hbk b' h3 h4.c h4.p) hsz, b', h2, Nat.lt_of_lt_of_le h3 hsz, haw b' h3 h4⟩, fun q hq => ?_, h.l1, h.l2, h.l3⟩, ?_, fun q hq => ?_⟩
  · have h1 : w4.heap[P]? = some (.cells (lifeCells L vm vs vc).toArray 34 (0, 0)) := (hgr.block P h.lt hnp).trans h.blk
    have := heap_setCell_same w4 P 35 (lifeCells L vm vs vc).toArray 34 (.slice (some ⟨g, 0, none⟩) (L.cards.length + 1) cap) h1
    rw [this, ← set_cards (vm := vm) (vs := vs) (vc := vc) h.l1 (.slice (some ⟨g, 0, none⟩) (L.cards.length + 1) cap) (L.cards ++ [x])]
    simp
  · obtain ⟨h3, h4⟩ := h.hF q hq
    exact ⟨Nat.lt_of_lt_of_le h3 hsz, haw q h3 h4⟩
  · exact ⟨hgr.os, hgr.tape, hgr.output, hsz, fun k hk => absurd hk (Nat.not_lt_zero _)⟩
  · obtain ⟨h3, h4⟩ := h.hF q hq
    exact hbk q h3 h4.c h4.p

/-- A store into a stay. -/
theorem LifeAt.stay_store (h : LifeAt F P w L vm vs vc gs) {g n cap k j : Nat} {u : Value} {y : St1} (hv : vs = .slice (some ⟨g, 0, none⟩) n cap) (hk : k < L.stays.length) (hj : j < 5) (hy : y.cells = (L.stays[k].cells).set j u) :
    LifeAt F P (w.setCell ⟨g, k * 5 + j, none⟩ u) (L.setStay k y) vm vs vc gs ∧ Fr F w (w.setCell ⟨g, k * 5 + j, none⟩ u) := by
  have hn : n = L.stays.length := by
    rcases h.os.2 with ⟨e, _⟩ | ⟨g', cap', cur, e, _⟩
    · rw [hv] at e; cases e
    · rw [hv] at e; cases e; rfl
  subst hn
  have hos := h.os
  rw [hv] at hos
  obtain ⟨hst, hg⟩ := hos.stored (k * 5 + j) u
  have hvg : vs.ownBlock = some g := by rw [hv]; rfl
  have hbk : ∀ q, q < w.heap.size → vs.ownBlock ≠ some q → (w.setCell ⟨g, k * 5 + j, none⟩ u).heap[q]? = w.heap[q]? := fun q hq hne => hg.block q hq (fun e => hne (by rw [hvg, ← e]))
  have hset : (stCells L.stays).set (k * 5 + j) u = stCells (L.setStay k y).stays := flat5_set St1.cells (fun _ => rfl) L.stays k hk j y u hj hy
  refine ⟨⟨?_, h.om.kept hg ?_, ?_, h.oc.kept hg ?_, h.pm, h.ps, h.pc, h.ms, h.mc, h.sc, h.gm, fun x hx => ?_, fun q hq => ⟨by have := (h.hF q hq).1; simpa using this, (h.hF q hq).2⟩, h.l1, h.l2, h.l3⟩, Below.setCell (Below.refl _ _) (Nat.zero_le _) _, fun q hq => hbk q (h.hF q hq).1 (h.hF q hq).2.s⟩
  · exact (hbk P h.lt h.ps).trans h.blk
  · cases e : vm.ownBlock with
    | none => exact .inl rfl
    | some q => exact .inr (fun e2 => h.ms q e (by rw [hvg, e2]))
  · rw [hv, ← hset]
    have : (L.setStay k y).stays.length = L.stays.length := by simp [Life.setStay]
    rw [this]
    exact hst
  · cases e : vc.ownBlock with
    | none => exact .inl rfl
    | some q => exact .inr (fun e2 => h.sc q (by rw [hvg, e2]) e)
  · obtain ⟨h1, b, h2, h3, h4⟩ := h.ga x hx
    exact ⟨ok_move h1 h2 (hbk b h3 h4.s) hg.size, b, h2, by simpa using h3, h4⟩

/-- Where a stay lies. -/
theorem LifeAt.stay_at (h : LifeAt F P w L vm vs vc gs) {k : Nat} (hk : k < L.stays.length) : ∃ g cap, vs = .slice (some ⟨g, 0, none⟩) L.stays.length cap ∧ L.stays.length ≤ cap ∧ g < w.heap.size ∧ (∀ j v, (L.stays[k].cells)[j]? = some v → w.cell? ⟨g, k * 5 + j, none⟩ = some v) ∧ (∀ j, w.frozen? ⟨g, j, none⟩ = false) := by
  have hos := h.os
  rcases hos.2 with ⟨e, h0⟩ | ⟨g, cap, cur, e, _, _, hc, _⟩
  · omega
  · refine ⟨g, cap, e, hc, ?_, fun j v hv => ?_, fun j => ?_⟩
    · exact (hos.lt g (by rw [e]; rfl)).2
    · have hj : j < 5 := by have := (List.getElem?_eq_some_iff.1 hv).1; simpa [St1.cells] using this
      rw [e] at hos
      rw [hos.cellAt (k * 5 + j) (by omega)]
      exact (flat5_at St1.cells (fun _ => rfl) L.stays k hk j hj).trans hv
    · rw [e] at hos
      exact hos.frozenAt j
/-- Where a card lies. -/
theorem LifeAt.card_at (h : LifeAt F P w L vm vs vc gs) {k : Nat} (hk : k < L.cards.length) : ∃ g cap, vc = .slice (some ⟨g, 0, none⟩) L.cards.length cap ∧ L.cards.length ≤ cap ∧ g < w.heap.size ∧ (∀ j v, (L.cards[k].cells)[j]? = some v → w.cell? ⟨g, k * 5 + j, none⟩ = some v) := by
  have hos := h.oc
  rcases hos.2 with ⟨e, h0⟩ | ⟨g, cap, cur, e, _, _, hc, _⟩
  · omega
  · refine ⟨g, cap, e, hc, ?_, fun j v hv => ?_⟩
    · exact (hos.lt g (by rw [e]; rfl)).2
    · have hj : j < 5 := by have := (List.getElem?_eq_some_iff.1 hv).1; simpa [Cd1.cells] using this
      rw [e] at hos
      rw [hos.cellAt (k * 5 + j) (by omega)]
      exact (flat5_at Cd1.cells (fun _ => rfl) L.cards k hk j hj).trans hv
/-- Its messages. -/
theorem LifeAt.msgs_at (h : LifeAt F P w L vm vs vc gs) : ∃ A c, vm = .slice A gs.length c ∧ gs.length ≤ c ∧ Msgs w w.heap.size A gs.length gs := by
  obtain ⟨A, c, e, h1, h2, h3⟩ := rd_of_own h.om (by decide)
  exact ⟨A, c, e, h1, rfl, h3, fun g hg => (h.ga g hg).1⟩
theorem LifeAt.stays_val (h : LifeAt F P w L vm vs vc gs) : ∃ A c, vs = .slice A L.stays.length c := by
  obtain ⟨A, c, e, _⟩ := rd_of_own h.os (by decide)
  exact ⟨A, c, e⟩
theorem LifeAt.cards_val (h : LifeAt F P w L vm vs vc gs) : ∃ A c, vc = .slice A L.cards.length c := by
  obtain ⟨A, c, e, _⟩ := rd_of_own h.oc (by decide)
  exact ⟨A, c, e⟩
theorem LifeAt.glen (h : LifeAt F P w L vm vs vc gs) : gs.length = L.msgs.length := by rw [← h.gm, List.length_map]
end
end Go.Proofs.YtonnaiknlgmejaaGreatDoor

/-
  rules.before: how many different sales there are for a night before a time.
-/
namespace Go.Proofs.YtonnaiknlgmejaaGreatDoor
open Go.RowKit Go.Shelf Go.Sort

attribute [local go_sem] Oper.semAt_some

/-- A sale as it is kept. -/
structure Sl where
  id : Int
  time : Int
  fr : Int
  un : Int
def Sl.cells (x : Sl) : List Value := [.int .i64 x.id, .int .i64 x.time, .int .i64 x.fr, .int .i64 x.un]
def scells (l : List Sl) : List Value := l.flatMap Sl.cells
theorem scells_length (l : List Sl) : (scells l).length = 4 * l.length := by
  induction l with
  | nil => rfl
  | cons g gs ih => simp only [scells, List.flatMap_cons, List.length_append, List.length_cons] at *; rw [ih]; simp [Sl.cells]; omega
theorem scells_at (l : List Sl) (i : Nat) (hi : i < l.length) (j : Nat) (hj : j < 4) : (scells l)[4 * i + j]? = (l[i].cells)[j]? := by
  induction l generalizing i with
  | nil => simp at hi
  | cons g gs ih =>
    cases i with
    | zero =>
      show (g.cells ++ scells gs)[4 * 0 + j]? = _
      rw [List.getElem?_append_left (by simp [Sl.cells]; omega)]
      simp
    | succ i =>
      show (g.cells ++ scells gs)[4 * (i + 1) + j]? = _
      rw [List.getElem?_append_right (by simp [Sl.cells]; omega)]
      have := ih i (by simpa using hi)
      simp only [Sl.cells, List.length_cons, List.length_nil] at *
      rw [show 4 * (i + 1) + j - (0 + 1 + 1 + 1 + 1) = 4 * i + j from by omega]
      simpa using this
theorem sl_at {w : World} {B : Nat} {A : Option Addr} {l : List Sl} (h : Rd w B A (scells l)) (i : Nat) (hi : i < l.length) :
    ∃ b off, A = some ⟨b, off, none⟩ ∧ b < B ∧ w.cell? ⟨b, off + i * 4, none⟩ = some (.int .i64 l[i].id) ∧ w.cell? ⟨b, off + i * 4 + 1, none⟩ = some (.int .i64 l[i].time) ∧
      w.cell? ⟨b, off + i * 4 + 2, none⟩ = some (.int .i64 l[i].fr) ∧ w.cell? ⟨b, off + i * 4 + 3, none⟩ = some (.int .i64 l[i].un) := by
  obtain ⟨b, off, e, hb, hc⟩ := h (by rw [scells_length]; omega)
  have H : ∀ j v, j < 4 → (l[i].cells)[j]? = some v → w.cell? ⟨b, off + i * 4 + j, none⟩ = some v := fun j v hj hv => by
    have := hc (4 * i + j) v (by rw [scells_at l i hi j hj]; exact hv)
    rwa [show off + (4 * i + j) = off + i * 4 + j from by omega] at this
  exact ⟨b, off, e, hb, H 0 _ (by omega) rfl, H 1 _ (by omega) rfl, H 2 _ (by omega) rfl, H 3 _ (by omega) rfl⟩

def inB (night time : Int) (x : Sl) : Bool := decide (x.time < time) && decide (x.fr ≤ night) && decide (night < x.un)
def cntB (l : List Sl) (night time : Int) : Nat := (uniqI ((l.filter (inB night time)).map Sl.id)).length
theorem ids_type : Tryz.prog.underlying 112 = some (.map 3 4) := by kernel_rfl
theorem len_ids {w : World} {b : Nat} {ys : List (Int × Bool)} (h : MapIs ekI evB w b ys) (ty : TypeId) : (Builtin.len_ #[112] ty #[.map (some b)]).run Tryz.prog w = .ok (.int .i64 ys.length) w := by
  rw [run_len_map w 112 ty b _ _ (by kernel_rfl) h]
  simp [ents_length, goInt]
theorem set_len {ys : List (Int × Bool)} {l : List Int} (h : SetIs ys (fun k => k ∈ l)) : ys.length = (uniqI l).length := by
  have h1 : (ys.map (·.1)).length ≤ (uniqI l).length := nodup_len_le h.nodup (fun x hx => mem_uniqI.2 ((h.mem x).1 hx))
  have h2 : (uniqI l).length ≤ (ys.map (·.1)).length := nodup_len_le (uniqI_nodup l) (fun x hx => (h.mem x).2 (mem_uniqI.1 hx))
  simp at h1 h2
  omega

set_option maxRecDepth 100000 in
set_option maxHeartbeats 2000000 in
theorem before_any (A : Option Addr) (n c : Nat) (night time : Int) (l : List Sl) (w : World) (hl : l.length = n) (hn : n ≤ 9223372036854775807) (hr : Rd w w.heap.size A (scells l)) :
    Calls Tryz.prog 55 #[.slice A n c, .int .i64 night, .int .i64 time] w fun e w' => e = .returned (.int .i64 (cntB l night time : Nat)) ∧ Below w.heap.size w w' := by
  have HL := Lib.hid hl
  have HR := Lib.hid hr
  clear hl hr
  have hmk := @run_makeMap Tryz.prog 112
  go_enter Tryz.func55, Tryz.ntmps55
  go_wp2
  clear hmk
  go_loopw [13] (fun i wr => ∃ (k : Nat) (ys : List (Int × Bool)), k ≤ n ∧ i = .int .i64 k ∧ MapIs ekI evB wr w.heap.size ys ∧ SetIs ys (fun x => x ∈ ((l.take k).filter (inB night time)).map Sl.id) ∧ Below w.heap.size w wr) (fun i _ => n - (intOf i).toNat)
  case atStart => exact ⟨0, [], Nat.zero_le _, rfl, MapIs.made w, SetIs.nil.congr (fun x => by simp), alloc_b _ _⟩
  case round =>
    obtain ⟨k, ys, hk, rfl, hM, hS, hB⟩ := hrel
    have HM := Lib.hid hM
    have HS := Lib.hid hS
    have HB := Lib.hid hB
    clear hM hS hB
    by_cases hlt : k < n
    · have hkl : k < l.length := by rw [HL.out]; exact hlt
      obtain ⟨b, off, rfl, hb, c0, c1, c2, c3⟩ := sl_at (HR.out.to HB.out HB.out.size) k hkl
      have HT := Lib.hid (show l.take (k + 1) = l.take k ++ [l[k]] from List.take_succ_eq_append_getElem hkl)
      generalize l[k] = x at *
      have hba := alloc_b wr (.cells #[.int .i64 x.id, .int .i64 x.time, .int .i64 x.fr, .int .i64 x.un] 157)
      obtain ⟨w2, hup, hm2, hg2, hs2⟩ := update_map intOk ids_type (HM.out.keep hba) x.id true
      have HU := Lib.hid (And.intro hm2 (And.intro hg2 hs2))
      have HBa := Lib.hid hba
      dsimp only [ekI, evB] at hup
      clear hm2 hg2 hs2 hba
      have no : inB night time x = false → ∀ y, y ∈ ((l.take (k + 1)).filter (inB night time)).map Sl.id ↔ y ∈ ((l.take k).filter (inB night time)).map Sl.id := fun hx y => by
        rw [HT.out, List.filter_append]; simp [hx]
      have yes : inB night time x = true → ∀ y, y ∈ ((l.take (k + 1)).filter (inB night time)).map Sl.id ↔ (y ∈ ((l.take k).filter (inB night time)).map Sl.id ∨ y = x.id) := fun hx y => by
        rw [HT.out, List.filter_append]; simp [hx]
      have HNo := Lib.hid no
      have HYes := Lib.hid yes
      clear no yes
      by_cases h1 : x.time < time
      rotate_left
      · have hd1 : decide (x.time < time) = false := by simpa using h1
        have HX := Lib.hid (HNo.out (by unfold inB; rw [hd1]; rfl))
        clear hup h1
        go_wp2
        go_roundw
        case rel => exact ⟨k + 1, ys, by omega, by go_num, HM.out.keep HBa.out, HS.out.congr HX.out, HB.out.tr HBa.out⟩
        case measure => simp [intOf]; omega
      have hd1 : decide (x.time < time) = true := by simpa using h1
      by_cases h2 : x.fr ≤ night
      rotate_left
      · have hd2 : decide (x.fr ≤ night) = false := by simpa using h2
        have HX := Lib.hid (HNo.out (by unfold inB; rw [hd1, hd2]; rfl))
        clear hup h1 h2
        go_wp2
        go_roundw
        case rel => exact ⟨k + 1, ys, by omega, by go_num, HM.out.keep HBa.out, HS.out.congr HX.out, HB.out.tr HBa.out⟩
        case measure => simp [intOf]; omega
      have hd2 : decide (x.fr ≤ night) = true := by simpa using h2
      by_cases h3 : night < x.un
      rotate_left
      · have hd3 : decide (night < x.un) = false := by simpa using h3
        have HX := Lib.hid (HNo.out (by unfold inB; rw [hd1, hd2, hd3]; rfl))
        clear hup h1 h2 h3
        go_wp2
        go_roundw
        case rel => exact ⟨k + 1, ys, by omega, by go_num, HM.out.keep HBa.out, HS.out.congr HX.out, HB.out.tr HBa.out⟩
        case measure => simp [intOf]; omega
      have hd3 : decide (night < x.un) = true := by simpa using h3
      have HX := Lib.hid (HYes.out (by unfold inB; rw [hd1, hd2, hd3]; rfl))
      clear h1 h2 h3
      go_wp2
      go_roundw
      case rel =>
        obtain ⟨hm2, hg2, hs2⟩ := HU.out
        exact ⟨k + 1, _, by omega, by go_num, hm2, HS.out.put _ HX.out, (HB.out.tr HBa.out).grown hg2 (HB.out.tr HBa.out).size (fun q e => by cases e; exact Nat.le_refl _)⟩
      case measure => simp [intOf]; omega
    · have HF := Lib.hid (show ys.length = cntB l night time from by
        have := HS.out
        rw [List.take_of_length_le (by rw [HL.out]; omega)] at this
        exact set_len this)
      have hlen := len_ids HM.out
      go_wp2
      go_ret
      exact ⟨by rw [HF.out]; rfl, HB.out⟩

end Go.Proofs.YtonnaiknlgmejaaGreatDoor

/-
  rules.cutSales: the sales of channels that were cut off, by channel.
-/
namespace Go.Proofs.YtonnaiknlgmejaaGreatDoor
open Go.RowKit Go.Shelf Go.Sort

attribute [local go_sem] Oper.semAt_some

def toSl (g : GM) : Sl := ⟨arg g.msg 0, g.time, arg g.msg 2, arg g.msg 3⟩
def cutB (p : Int) (m : GM) : Bool := m.party == p && isKindB m.party 1000 && m.kind == 1 && arg m.msg 5 == 1
def cutL (gs : List GM) (p : Int) : List Sl := (gs.filter (cutB p)).map toSl
theorem cutL_snoc (gs : List GM) (m : GM) (p : Int) : cutL (gs ++ [m]) p = if cutB p m = true then cutL gs p ++ [toSl m] else cutL gs p := by
  unfold cutL
  rw [List.filter_append]
  cases h : cutB p m <;> simp [h]
def optL (l : List Sl) : Option (List Sl) := if l = [] then none else some l

/-- A row of sales in memory. -/
structure SR where
  g : Nat
  cap : Nat
  l : List Sl
def evS (s : SR) : Value := .slice (some ⟨s.g, 0, none⟩) s.l.length s.cap
theorem sales_type : Tryz.prog.underlying 93 = some (.map 3 100) := by kernel_rfl
theorem lookup_sales {w : World} {b : Nat} {ys : List (Int × SR)} (h : MapIs ekI evS w b ys) (id : Int) :
    (Instr.lookup 93 (.map (some b)) (.int .i64 id) false).run Tryz.prog w = .ok (((mget ys id).map evS).getD (.slice none 0 0)) w :=
  lookup_map intOk sales_type (show (zeroValue 100).run Tryz.prog w = .ok (.slice none 0 0) w by kernel_rfl) h id false
theorem info_sale : (Tryz.prog.info? 157).map (fun i => (i.zero, i.size, i.bytes)) = some (some (.agg #[.int .i64 0, .int .i64 0, .int .i64 0, .int .i64 0]), 4, 32) := by kernel_rfl

/-- The map of sales, its rows. -/
structure SlSt (base bq : Nat) (gs : List GM) (ys : List (Int × SR)) (wr : World) : Prop where
  map : MapIs ekI evS wr bq ys
  fn : FunIs ys (fun p => optL (cutL gs p)) SR.l
  own : ∀ e ∈ ys, wr.ownsRow base 157 4 (evS e.2) e.2.l.length (scells e.2.l)
  dis : ∀ e ∈ ys, ∀ e' ∈ ys, e.1 ≠ e'.1 → e.2.g ≠ e'.2.g
theorem cutL_length (gs : List GM) (p : Int) : (cutL gs p).length ≤ gs.length := by unfold cutL; rw [List.length_map]; exact List.length_filter_le _ _
theorem SlSt.keep {base bq : Nat} {gs : List GM} {ys : List (Int × SR)} {w w' : World} (h : SlSt base bq gs ys w) (hb : Below w.heap.size w w') : SlSt base bq gs ys w' :=
  ⟨h.map.keep hb, h.fn, fun e he => (h.own e he).kept (row := none) ⟨hb.os, hb.tape, hb.output, hb.size, fun k hk _ => hb.block k hk⟩ (.inr (by simp [evS, Value.ownBlock])), h.dis⟩
/-- What is at a key. -/
theorem SlSt.at_ {base bq : Nat} {gs : List GM} {ys : List (Int × SR)} {w : World} (h : SlSt base bq gs ys w) (p : Int) :
    ∃ v, ((mget ys p).map evS).getD (.slice none 0 0) = v ∧ w.ownsRow base 157 4 v (cutL gs p).length (scells (cutL gs p)) ∧ (∀ e ∈ ys, e.1 ≠ p → some e.2.g ≠ v.ownBlock) := by
  have hf := h.fn.get p
  cases hg : mget ys p with
  | none =>
    rw [hg] at hf
    have hl : cutL gs p = [] := by
      have hf' : none = optL (cutL gs p) := hf
      unfold optL at hf'
      split at hf'
      · assumption
      · cases hf'
    rw [hl]
    exact ⟨_, rfl, World.ownsRow_nil _ _ _ _, fun e _ _ => by simp [Value.ownBlock]⟩
  | some s =>
    rw [hg] at hf
    have hin := mget_in hg
    have hl : cutL gs p = s.l := by
      have hf' : some s.l = optL (cutL gs p) := hf
      unfold optL at hf'
      split at hf'
      · cases hf'
      · exact (Option.some.inj hf').symm
    rw [hl]
    exact ⟨_, rfl, h.own _ hin, fun e he hne => by simp [evS, Value.ownBlock]; exact h.dis e he _ hin hne⟩

theorem SlSt.none_ {base bq : Nat} {gs : List GM} {m : GM} {ys : List (Int × SR)} {w : World} (h : SlSt base bq gs ys w) (hc : (isKindB m.party 1000 && m.kind == 1 && arg m.msg 5 == 1) = false) : SlSt base bq (gs ++ [m]) ys w := by
  refine ⟨h.map, h.fn.congr fun p => ?_, h.own, h.dis⟩
  rw [cutL_snoc, if_neg]
  unfold cutB
  intro h2
  simp only [Bool.and_eq_true] at h2
  simp [h2.1.1.2, h2.1.2, h2.2] at hc
theorem scells_snoc (l : List Sl) (x : Sl) : scells (l ++ [x]) = scells l ++ x.cells := by simp [scells]
/-- A sale is appended to the row at a key, and the row is stored. -/
theorem SlSt.step {base bq : Nat} {gs : List GM} {m : GM} {ys : List (Int × SR)} {X X' w4 : World} {v : Value} {g cap : Nat} (h : SlSt base bq gs ys X) (hb : Below X.heap.size X X') (hv : ∀ e ∈ ys, e.1 ≠ m.party → some e.2.g ≠ v.ownBlock)
    (hvl : ∀ k, v.ownBlock = some k → base ≤ k) (hlt : bq < base) (hc : cutB m.party m = true)
    (hown : w4.ownsRow base 157 4 (.slice (some ⟨g, 0, none⟩) ((cutL gs m.party).length + 1) cap) ((cutL gs m.party).length + 1) (scells (cutL gs m.party) ++ (toSl m).cells)) (hg : X'.grownBy w4 v.ownBlock) (hat : v.ownBlock = some g ∨ g = X'.heap.size) :
    ∃ w5, (Instr.mapUpdate 93 (.map (some bq)) (.int .i64 m.party) (.slice (some ⟨g, 0, none⟩) ((cutL gs m.party).length + 1) cap)).run Tryz.prog w4 = .ok () w5 ∧
      SlSt base bq (gs ++ [m]) (mput ys m.party ⟨g, cap, cutL gs m.party ++ [toSl m]⟩) w5 ∧ w4.grownBy w5 (some bq) := by
  have h2 := h.keep hb
  have hbase := (hown.lt g rfl).1
  obtain ⟨w5, hup, hm5, hg5, hs5⟩ := update_map intOk sales_type (h2.map.grown hg (fun e => by have := hvl bq e.symm; omega)) m.party (⟨g, cap, cutL gs m.party ++ [toSl m]⟩ : SR)
  have hev : evS ⟨g, cap, cutL gs m.party ++ [toSl m]⟩ = .slice (some ⟨g, 0, none⟩) ((cutL gs m.party).length + 1) cap := by simp [evS]
  rw [hev] at hup
  have hns : ∀ p, p ≠ m.party → cutL (gs ++ [m]) p = cutL gs p := fun p hp => by
    rw [cutL_snoc, if_neg]
    unfold cutB
    intro h3
    simp only [Bool.and_eq_true, beq_iff_eq] at h3
    exact hp h3.1.1.1.symm
  have hself : cutL (gs ++ [m]) m.party = cutL gs m.party ++ [toSl m] := by rw [cutL_snoc, if_pos hc]
  refine ⟨w5, hup, ⟨hm5, h.fn.put _ _ fun p => ?_, fun e he => ?_, fun e he e' he' hne => ?_⟩, hg5⟩
  · by_cases hp : p = m.party
    · subst hp
      rw [if_pos rfl, hself]
      simp [optL]
    · rw [if_neg hp, hns p hp]
  · have he2 := mput_in he h.fn.nodup
    rcases he2 with ⟨he1, hne⟩ | rfl
    · exact ((h2.own e he1).kept hg (.inr (hv e he1 hne))).kept hg5 (.inr (by
        have := ((h2.own e he1).lt e.2.g rfl).1
        simp [evS, Value.ownBlock]
        omega))
    · rw [hev, scells_snoc]
      simp only [List.length_append, List.length_cons, List.length_nil, Nat.zero_add]
      exact hown.kept hg5 (.inr (by simp [Value.ownBlock]; omega))
  · have key : ∀ e ∈ ys, e.1 ≠ m.party → e.2.g ≠ g := fun e he hne e1 => by
      rcases hat with h1 | h1
      · exact hv e he hne (by rw [h1, e1])
      · have := ((h.own e he).lt e.2.g rfl).2
        have := hb.size
        omega
    rcases mput_in he h.fn.nodup with ⟨he1, hne1⟩ | rfl
    · rcases mput_in he' h.fn.nodup with ⟨he2, hne2⟩ | rfl
      · exact h.dis e he1 e' he2 hne
      · exact key e he1 hne1
    · rcases mput_in he' h.fn.nodup with ⟨he2, hne2⟩ | rfl
      · exact fun e1 => key e' he2 hne2 e1.symm
      · exact absurd rfl hne

set_option maxRecDepth 100000 in
set_option maxHeartbeats 4000000 in
theorem cutSales_any (W : World) (A : Option Addr) (n c : Nat) (A2 : Option Addr) (m c2 : Nat) (gs : List GM) (hMs : Msgs W W.heap.size A n gs) (hn2 : n ≤ 2000) (hgood : ∀ g ∈ gs, GoodG g) :
    Calls Tryz.prog 53 #[.agg #[.slice A n c, .slice A2 m c2]] W fun e W' => e = .returned (.map (some (W.heap.size + 1))) ∧ Below W.heap.size W W' ∧ ∃ ys, SlSt (W.heap.size + 2) (W.heap.size + 1) gs ys W' := by
  have hmk := @run_makeMap Tryz.prog 93
  have HMs0 := Lib.hid hMs
  have HG := Lib.hid hgood
  have HL := Lib.hid hMs.len
  clear hMs hgood
  go_enter Tryz.func53, Tryz.ntmps53
  go_wp2
  clear hmk
  go_loopw [10] (fun i wr => ∃ k : Nat, k ≤ n ∧ i = .int .i64 k ∧ (∃ ys, SlSt (W.heap.size + 2) (W.heap.size + 1) (gs.take k) ys wr) ∧ Below W.heap.size W wr ∧ W.heap.size + 2 ≤ wr.heap.size) (fun i _ => n - (intOf i).toNat)
  case atStart =>
    refine ⟨0, Nat.zero_le _, rfl, ⟨[], MapIs.made' W _, FunIs.nil, ?_, ?_⟩, (alloc_b _ _).al _, by simp⟩
    · intro e he; cases he
    · intro e he; cases he
  case round =>
    obtain ⟨k, hk, rfl, ⟨ys, hSl⟩, hB, hwz⟩ := hrel
    have HSl := Lib.hid hSl
    have HB := Lib.hid hB
    clear hSl
    by_cases hlt : k < n
    · have hkl : k < gs.length := by rw [HL.out]; exact hlt
      obtain ⟨bm, om, eA, hbm2, hcs⟩ := (HMs0.out.to hB hB.size).at_ (by omega)
      obtain ⟨c0, c1, c2', c3, c4⟩ := hcs k hkl
      have HT := Lib.hid (show gs.take (k + 1) = gs.take k ++ [gs[k]] from List.take_succ_eq_append_getElem hkl)
      have hgood := HG.out gs[k] (List.getElem_mem hkl)
      have hok := HMs0.out.ok gs[k] (List.getElem_mem hkl)
      clear hcs hB
      subst eA
      generalize gs[k] = x at *
      have hpar := hgood.party
      cases hkd : isKindB x.party 1000
      · have HNo := Lib.hid (show (isKindB x.party 1000 && x.kind == 1 && arg x.msg 5 == 1) = false from by rw [hkd]; rfl)
        clear hgood hok
        go_wp2_with (go_at_call 62; refine (isKind_any _ _ _ (by omega) (by omega)).mono ?_; rw [hkd]; rintro e w' ⟨rfl, rfl⟩)
        go_roundw
        case rel => exact ⟨k + 1, by omega, by go_num, ⟨ys, by rw [HT.out]; exact (HSl.out.none_ HNo.out).keep (alloc_b _ _)⟩, HB.out.al _, by simp; omega⟩
        case measure => simp [intOf]; omega
      by_cases hk1 : x.kind = 1
      rotate_left
      · have HNo := Lib.hid (show (isKindB x.party 1000 && x.kind == 1 && arg x.msg 5 == 1) = false from by rw [show (x.kind == 1) = false from by simpa using hk1]; simp)
        have hkb : (x.kind == 1) = false := by simpa using hk1
        clear hgood hok
        go_wp2_with (go_at_call 62; refine (isKind_any _ _ _ (by omega) (by omega)).mono ?_; rw [hkd]; rintro e w' ⟨rfl, rfl⟩)
        go_roundw
        case rel => exact ⟨k + 1, by omega, by go_num, ⟨ys, by rw [HT.out]; exact (HSl.out.none_ HNo.out).keep (alloc_b _ _)⟩, HB.out.al _, by simp; omega⟩
        case measure => simp [intOf]; omega
      have hn7 : x.n = 7 := by rcases hgood.cnt with h | h | h | h | h | h | h | h | h <;> omega
      obtain ⟨ba, oa, ea, hba, ha⟩ := arg_cell hok (by omega)
      have a5 := (HB.out.cell (p := ⟨ba, oa + 5, none⟩) hba).trans (ha 5 (by omega))
      rw [ea] at c4
      have hkb : (x.kind == 1) = true := by simpa using hk1
      by_cases ha5 : arg x.msg 5 = 1
      rotate_left
      · have HNo := Lib.hid (show (isKindB x.party 1000 && x.kind == 1 && arg x.msg 5 == 1) = false from by rw [show (arg x.msg 5 == 1) = false from by simpa using ha5]; simp)
        have hab : (arg x.msg 5 == 1) = false := by simpa using ha5
        have r5 := fun o => (World.cell?_alloc_lt wr o ⟨ba, oa + 5, none⟩ (by show ba < _; omega)).trans a5
        rw [hn7] at c4
        clear hgood hok ha a5
        go_wp2_with (go_at_call 62; refine (isKind_any _ _ _ (by omega) (by omega)).mono ?_; rw [hkd]; rintro e w' ⟨rfl, rfl⟩)
        go_roundw
        case rel => exact ⟨k + 1, by omega, by go_num, ⟨ys, by rw [HT.out]; exact (HSl.out.none_ HNo.out).keep (alloc_b _ _)⟩, HB.out.al _, by simp; omega⟩
        case measure => simp [intOf]; omega
      have hab : (arg x.msg 5 == 1) = true := by simpa using ha5
      have HYes := Lib.hid (show cutB x.party x = true from by unfold cutB; rw [hkd, hkb, hab]; simp)
      rw [hn7] at c4
      go_wp2_with fail
      refine (isKind_any _ _ _ (by omega) (by omega)).mono ?_
      rw [hkd]
      rintro e w' ⟨rfl, rfl⟩
      generalize hWa : World.alloc wr _ = Wa
      have hba' : Below wr.heap.size wr Wa := by rw [← hWa]; exact alloc_b _ _
      have hxb : Wa.heap[wr.heap.size]? = some (.cells #[.int .i64 x.party, .int .i64 x.seq, .int .i64 x.time, .int .i64 x.kind, .slice (some ⟨ba, oa, none⟩) 7 x.c] 37 (0, 0)) := by
        rw [← hWa, hk1]; exact World.alloc_heap_new wr _
      have hWz : wr.heap.size < Wa.heap.size := by rw [← hWa]; simp
      clear hWa
      have hbaz : ba < Wa.heap.size := by have := HB.out.size; omega
      have b0 := cell_of hxb 0
      have b2 := cell_of hxb 2
      have b3 := cell_of hxb 3
      have b4 := cell_of hxb 4
      have g0 := (hba'.cell (p := ⟨ba, oa, none⟩) (by show ba < _; omega)).trans ((HB.out.cell (p := ⟨ba, oa, none⟩) hba).trans (ha 0 (by omega)))
      have g2 := (hba'.cell (p := ⟨ba, oa + 2, none⟩) (by show ba < _; omega)).trans ((HB.out.cell (p := ⟨ba, oa + 2, none⟩) hba).trans (ha 2 (by omega)))
      have g3 := (hba'.cell (p := ⟨ba, oa + 3, none⟩) (by show ba < _; omega)).trans ((HB.out.cell (p := ⟨ba, oa + 3, none⟩) hba).trans (ha 3 (by omega)))
      have g5 := (hba'.cell (p := ⟨ba, oa + 5, none⟩) (by show ba < _; omega)).trans a5
      obtain ⟨v, hv1, hv2, hv3⟩ := HSl.out.at_ x.party
      have hlen := cutL_length (gs.take k) x.party
      have htk : (gs.take k).length ≤ 2000 := by rw [List.length_take]; omega
      have hvl := fun j (e : v.ownBlock = some j) => hv2.lt j e
      have hlk : (Instr.lookup 93 (.map (some (W.heap.size + 1))) (.int .i64 x.party) false).run Tryz.prog Wa.drew = .ok v Wa.drew := by
        rw [← hv1]; exact lookup_sales (w := Wa.drew) (HSl.out.keep hba').map _
      have hlkd : ∀ o, (Instr.lookup 93 (.map (some (W.heap.size + 1))) (.int .i64 x.party) false).run Tryz.prog (Wa.alloc o).drew = .ok v (Wa.alloc o).drew := fun o => by
        rw [← hv1]; exact lookup_sales (w := (Wa.alloc o).drew) (HSl.out.keep (hba'.tr (alloc_b _ _))).map _
      clear hgood hok ha a5 c0 c1 c2' c3 c4 hk1 hn7 ea ha5
      go_wp2_with fail
      have hnews : ∀ o : Obj, True := fun _ => trivial
      obtain ⟨i0, hi, hz0, hz1, hz2⟩ := info_parts info_sale
      have HOw := Lib.hid (show (Wa.alloc (.cells #[.int .i64 (arg x.msg 0), .int .i64 x.time, .int .i64 (arg x.msg 2), .int .i64 (arg x.msg 3)] 157)).drew.ownsRow (W.heap.size + 2) 157 4 v (cutL (gs.take k) x.party).length (scells (cutL (gs.take k) x.party)) from ((hv2.kept (row := some W.heap.size) ⟨hba'.os, hba'.tape, hba'.output, hba'.size, fun k hk _ => hba'.block k hk⟩ (.inr (fun e => by have := hvl _ e; omega))).alloc _).drew)
      have HN := Lib.hid (World.news_of_block (w := (Wa.alloc (.cells #[.int .i64 (arg x.msg 0), .int .i64 x.time, .int .i64 (arg x.msg 2), .int .i64 (arg x.msg 3)] 157)).drew) (heap_alloc_new Wa _))
      have HC0 := Lib.hid (show ∀ u ∈ ([.int .i64 (arg x.msg 0), .int .i64 x.time, .int .i64 (arg x.msg 2), .int .i64 (arg x.msg 3)] : List Value), u.oneCell' = true from by simp [Value.oneCell'])
      have HC1 := Lib.hid (show (cutL (gs.take k) x.party).length + 1 ≤ maxLen from by unfold maxLen; omega)
      have HC2 := Lib.hid (show ((cutL (gs.take k) x.party).length + 1) * 32 ≤ 140737488355328 from by omega)
      have HC3 := Lib.hid (show W.heap.size + 2 ≤ (Wa.alloc (.cells #[.int .i64 (arg x.msg 0), .int .i64 x.time, .int .i64 (arg x.msg 2), .int .i64 (arg x.msg 3)] 157)).drew.heap.size from by show W.heap.size + 2 ≤ (Wa.alloc (.cells #[.int .i64 (arg x.msg 0), .int .i64 x.time, .int .i64 (arg x.msg 2), .int .i64 (arg x.msg 3)] 157)).heap.size; rw [World.size_alloc]; omega)
      have HSt := Lib.hid (fun (w4 : World) (g cap : Nat) (h1 : w4.ownsRow (W.heap.size + 2) 157 4 (.slice (some ⟨g, 0, none⟩) ((cutL (gs.take k) x.party).length + 1) cap) ((cutL (gs.take k) x.party).length + 1) (scells (cutL (gs.take k) x.party) ++ [.int .i64 (arg x.msg 0), .int .i64 x.time, .int .i64 (arg x.msg 2), .int .i64 (arg x.msg 3)])) (h2 : (Wa.alloc (.cells #[.int .i64 (arg x.msg 0), .int .i64 x.time, .int .i64 (arg x.msg 2), .int .i64 (arg x.msg 3)] 157)).drew.grownBy w4 v.ownBlock) (h3 : v.ownBlock = some g ∨ g = (Wa.alloc (.cells #[.int .i64 (arg x.msg 0), .int .i64 x.time, .int .i64 (arg x.msg 2), .int .i64 (arg x.msg 3)] 157)).drew.heap.size) =>
        HSl.out.step (m := x) (hba'.tr (alloc_b _ _)).drew hv3 (fun k h => (hvl k h).1) (by omega) HYes.out h1 h2 h3)
      have HBa := Lib.hid (HB.out.tr hba')
      have ag : some wr.heap.size ≠ v.ownBlock := fun e => by have := hvl _ e.symm; omega
      have ak : some ba ≠ v.ownBlock := fun e => by have := hvl _ e.symm; omega
      have ag5 : some wr.heap.size ≠ some (W.heap.size + 1) := fun e => by have := Option.some.inj e; omega
      have ak5 : some ba ≠ some (W.heap.size + 1) := fun e => by have := Option.some.inj e; omega
      have HCell := Lib.hid (fun (a : Addr) (u : Value) (w4 : World) (ha : a.block < Wa.heap.size) (h2 : (Wa.alloc (.cells #[.int .i64 (arg x.msg 0), .int .i64 x.time, .int .i64 (arg x.msg 2), .int .i64 (arg x.msg 3)] 157)).drew.grownBy w4 v.ownBlock) (hne : some a.block ≠ v.ownBlock) (hc : Wa.cell? a = some u) => show w4.cell? a = some u from (h2.cell_far a (by show a.block < (Wa.alloc (.cells #[.int .i64 (arg x.msg 0), .int .i64 x.time, .int .i64 (arg x.msg 2), .int .i64 (arg x.msg 3)] 157)).heap.size; rw [World.size_alloc]; omega) hne).trans ((World.cell?_alloc_lt Wa _ a ha).trans hc))
      go_region_held3 (fun w' => w'.cell? ⟨wr.heap.size, 0, none⟩ = some (.int .i64 x.party) ∧ w'.cell? ⟨wr.heap.size, 2, none⟩ = some (.int .i64 x.time) ∧ w'.cell? ⟨wr.heap.size, 4, none⟩ = some (.slice (some ⟨ba, oa, none⟩) 7 x.c) ∧ w'.cell? ⟨ba, oa, none⟩ = some (.int .i64 (arg x.msg 0)) ∧ w'.cell? ⟨ba, oa + 2, none⟩ = some (.int .i64 (arg x.msg 2)) ∧ w'.cell? ⟨ba, oa + 3, none⟩ = some (.int .i64 (arg x.msg 3)))
        (first | go_keep | (go_split_ands; exact ⟨HCell.out ⟨_, _, none⟩ _ w4 hWz hgrow ag b0, HCell.out ⟨_, _, none⟩ _ w4 hWz hgrow ag b2, HCell.out ⟨_, _, none⟩ _ w4 hWz hgrow ag b4, HCell.out ⟨_, _, none⟩ _ w4 hbaz hgrow ak g0, HCell.out ⟨_, _, none⟩ _ w4 hbaz hgrow ak g2, HCell.out ⟨_, _, none⟩ _ w4 hbaz hgrow ak g3⟩) | (go_split_ands; exact ⟨(HG5.out.cell_far _ (Nat.lt_of_lt_of_le hWz HZ4.out) ag5).trans (HCell.out ⟨_, _, none⟩ _ w4 hWz hgrow ag b0), (HG5.out.cell_far _ (Nat.lt_of_lt_of_le hWz HZ4.out) ag5).trans (HCell.out ⟨_, _, none⟩ _ w4 hWz hgrow ag b2), (HG5.out.cell_far _ (Nat.lt_of_lt_of_le hWz HZ4.out) ag5).trans (HCell.out ⟨_, _, none⟩ _ w4 hWz hgrow ag b4), (HG5.out.cell_far _ (Nat.lt_of_lt_of_le hbaz HZ4.out) ak5).trans (HCell.out ⟨_, _, none⟩ _ w4 hbaz hgrow ak g0), (HG5.out.cell_far _ (Nat.lt_of_lt_of_le hbaz HZ4.out) ak5).trans (HCell.out ⟨_, _, none⟩ _ w4 hbaz hgrow ak g2), (HG5.out.cell_far _ (Nat.lt_of_lt_of_le hbaz HZ4.out) ak5).trans (HCell.out ⟨_, _, none⟩ _ w4 hbaz hgrow ak g3)⟩))
        ((refine step_append_lies _ (by rfl) _ _ _ (by rfl) (W.heap.size + 2) 157 i0 _ 4 32 Tryz.underlying100 hi hz0 hz1 hz2 rfl (by omega) v (cutL (gs.take k) x.party).length (scells (cutL (gs.take k) x.party)) (by rfl) HOw.out ⟨Wa.heap.size, 0, none⟩ 1 1 [.int .i64 (arg x.msg 0), .int .i64 x.time, .int .i64 (arg x.msg 2), .int .i64 (arg x.msg 3)] (by rfl) (by rfl) HN.out HC0.out (by omega) HC1.out HC2.out HC3.out _ rfl ?_; intro gg cap w4 hown hgrow hat hltg; obtain ⟨w5, hup, hSl5, hg5⟩ := HSt.out w4 gg cap hown hgrow hat; have HSl5 := Lib.hid hSl5; have HG5 := Lib.hid hg5; have HZ4 := Lib.hid (show Wa.heap.size ≤ w4.heap.size from Nat.le_trans (by show _ ≤ (Wa.alloc _).heap.size; rw [World.size_alloc]; omega) hgrow.size); have HB5 := Lib.hid (((HBa.out.tr (alloc_b _ _)).drew.grown hgrow (HBa.out.tr (alloc_b _ _)).drew.size (fun q e => by have := hvl q e; omega)).grown HG5.out (Nat.le_trans HBa.out.size HZ4.out) (fun q e => by have := Option.some.inj e; omega)); have HZ5 := Lib.hid (show W.heap.size + 2 ≤ w5.heap.size from Nat.le_trans (by omega) (Nat.le_trans HZ4.out HG5.out.size)); clear hSl5 hg5))
      all_goals go_wp2
      all_goals go_roundw
      all_goals first
        | exact ⟨k + 1, by omega, by go_num, ⟨_, by rw [HT.out]; exact HSl5.out⟩, HB5.out, HZ5.out⟩
        | (simp [intOf]; omega)
    · have htk : gs.take k = gs := List.take_of_length_le (by rw [HL.out]; omega)
      have HF := Lib.hid (show ∃ ys, SlSt (W.heap.size + 2) (W.heap.size + 1) gs ys wr from ⟨ys, by have := HSl.out; rwa [htk] at this⟩)
      clear htk
      go_wp2
      go_ret
      exact ⟨rfl, HB.out, HF.out⟩

end Go.Proofs.YtonnaiknlgmejaaGreatDoor

/-
  rules.Sales, in plain words: what is sold and what was given; 'm[k] += v' on a map that the call made.
-/
namespace Go.Proofs.YtonnaiknlgmejaaGreatDoor
open Go.RowKit Go.Shelf Go.Sort
open Go.ChangeMaps (setBlock)

section
variable {κ ν : Type} [DecidableEq κ] {ek : κ → Value} {ev : ν → Value}

omit [DecidableEq κ] in
theorem ents_get (xs : List (κ × ν)) (j : Nat) (hj : j < (ents ek ev 0 xs).length) : (ents ek ev 0 xs)[j].born = j := by
  have h1 := ents_at (ek := ek) (ev := ev) 0 xs j
  have h2 : j < xs.length := by rwa [ents_length] at hj
  rw [List.getElem?_eq_getElem hj, List.getElem?_eq_getElem h2] at h1
  have h3 := Option.some.inj h1
  rw [h3]
  simp
omit [DecidableEq κ] in
theorem born_at (xs : List (κ × ν)) {i : Nat} (hi : i < xs.length) : (ents ek ev 0 xs).toArray.findIdx? (fun e => ((e.born : Nat) : Int) == (i : Int)) = some i := by
  simp only [List.findIdx?_toArray]
  refine List.findIdx?_eq_some_iff_getElem.2 ⟨by rw [ents_length]; exact hi, ?_, fun j hj => ?_⟩
  · rw [ents_get]; simp
  · rw [ents_get]; simp; omega
omit [DecidableEq κ] in
theorem push_ents (xs : List (κ × ν)) (x : κ) (v : ν) : (ents ek ev 0 xs).toArray.push { key := ek x, val := ev v, born := xs.length } = (ents ek ev 0 (xs ++ [(x, v)])).toArray := by
  apply Array.ext_getElem?
  intro j
  rw [Array.getElem?_push]
  simp only [List.size_toArray, ents_length, List.getElem?_toArray, ents_at]
  by_cases hj : j = xs.length
  · subst hj; simp
  · by_cases hj2 : j < xs.length
    · simp [hj, List.getElem?_append_left hj2]
    · simp [hj, List.getElem?_eq_none (by omega : xs.length ≤ j), List.getElem?_eq_none (by simp; omega : (xs ++ [(x, v)]).length ≤ j)]
omit [DecidableEq κ] in
theorem val_ents (xs : List (κ × ν)) (i : Nat) (hi : i < xs.length) (v : ν) : ((ents ek ev 0 xs).toArray.modify i fun e => { e with val := ev v }) = (ents ek ev 0 (xs.set i (xs[i].1, v))).toArray := by
  apply Array.ext_getElem?
  intro j
  rw [Array.getElem?_modify]
  simp only [List.getElem?_toArray, ents_at, List.getElem?_set]
  by_cases hj : i = j
  · subst hj; simp [hi]
  · simp [hj]
omit [DecidableEq κ] in
theorem key_ents (xs : List (κ × ν)) (i : Nat) (hi : i < xs.length) (x : κ) (hx : xs[i].1 = x) : ((ents ek ev 0 xs).toArray.modify i fun e => { e with key := ek x }) = (ents ek ev 0 xs).toArray := by
  apply Array.ext_getElem?
  intro j
  rw [Array.getElem?_modify]
  simp only [List.getElem?_toArray, ents_at]
  by_cases hj : i = j
  · subst hj; simp [hi, hx]
  · simp [hj]
omit [DecidableEq κ] in
theorem set_ok {w : World} {b : Nat} {xs : List (κ × ν)} (h : MapIs ek ev w b xs) {P : Program} (o : Obj) : (setObj b o).run P w = .ok () (setBlock w b o) ∧ w.grownBy (setBlock w b o) (some b) ∧ (setBlock w b o).heap.size = w.heap.size ∧ (setBlock w b o).heap[b]? = some o := by
  have hb : w.heap[b]? = some (.map (ents ek ev 0 xs).toArray xs.length) := h
  have hlt := h.lt
  refine ⟨by simp [setObj, Sem.run, hb, setBlock], ⟨rfl, rfl, rfl, by simp [setBlock], fun i _ hi => ?_⟩, by simp [setBlock], by simp [setBlock, hlt]⟩
  simp only [setBlock]
  rw [Array.getElem?_setIfInBounds]
  rw [if_neg (fun e => hi (by rw [e]))]
omit [DecidableEq κ] in
theorem store_at {P : Program} {t : TypeId} {w : World} {b : Nat} {xs : List (κ × ν)} (h : MapIs ek ev w b xs) (i : Nat) (hi : i < xs.length) (v : ν) :
    ∃ w', (Instr.entryStore t (.map (some b)) (.int .i64 i) (ev v)).run P w = .ok () w' ∧ MapIs ek ev w' b (xs.set i (xs[i].1, v)) ∧ w.grownBy w' (some b) ∧ w'.heap.size = w.heap.size := by
  have hb : w.heap[b]? = some (.map (ents ek ev 0 xs).toArray xs.length) := h
  obtain ⟨h1, h2, h3, h4⟩ := set_ok h (P := P) (.map ((ents ek ev 0 xs).toArray.modify i fun e => { e with val := ev v }) xs.length)
  refine ⟨_, ?_, ?_, h2, h3⟩
  · simp only [Instr.entryStore, Sem.run_bind, getObj, Sem.run, hb, Result.andThen_ok, asInt, asIntOf, Sem.run_pure, born_at xs hi]
    exact h1
  · show (setBlock w b _).heap[b]? = _
    rw [h4, val_ents xs i hi v, List.length_set]
/-- 'm[k] op= v': the entry, then the store. -/
theorem entry_map {P : Program} {t kt et : TypeId} (K : KeyOk P kt ek) (ht : P.underlying t = some (.map kt et)) {z : ν} (hz : ∀ w, (zeroValue et).run P w = .ok (ev z) w) {w : World} {b : Nat} {xs : List (κ × ν)} (h : MapIs ek ev w b xs) (x : κ) :
    ∃ (st : Nat) (u : Value) (w1 : World), (Instr.mapEntry t (.map (some b)) (ek x)).run P w = .ok (.tuple #[u, .int .i64 st]) w1 ∧ w.grownBy w1 (some b) ∧ w1.heap.size = w.heap.size ∧
      (Instr.lookup t (.map (some b)) (ek x) false).run P w1 = .ok (ev ((mget xs x).getD z)) w1 ∧
      ∀ v, ∃ w2, (Instr.entryStore t (.map (some b)) (.int .i64 st) (ev v)).run P w1 = .ok () w2 ∧ MapIs ek ev w2 b (mput xs x v) ∧ w.grownBy w2 (some b) ∧ w2.heap.size = w.heap.size := by
  have hf := K.find x (ents ek ev 0 xs) (xs.map (·.1)) (ents_keys 0 xs) w
  have hb : w.heap[b]? = some (.map (ents ek ev 0 xs).toArray xs.length) := h
  have grown2 : ∀ {w1 w2 : World}, w.grownBy w1 (some b) → w1.grownBy w2 (some b) → w.grownBy w2 (some b) := fun h1 h2 => ⟨h2.os.trans h1.os, h2.tape.trans h1.tape, h2.output.trans h1.output, Nat.le_trans h1.size h2.size, fun k hk hn => (h2.block k (Nat.lt_of_lt_of_le hk h1.size) hn).trans (h1.block k hk hn)⟩
  unfold mput
  cases hi : (xs.map (·.1)).findIdx? (fun y => decide (y = x)) with
  | none =>
    obtain ⟨h1, h2, h3, h4⟩ := set_ok h (P := P) (.map ((ents ek ev 0 xs).toArray.push { key := ek x, val := ev z, born := xs.length }) (xs.length + 1))
    have hm : MapIs ek ev (setBlock w b (.map ((ents ek ev 0 xs).toArray.push { key := ek x, val := ev z, born := xs.length }) (xs.length + 1))) b (xs ++ [(x, z)]) := by
      show (setBlock w b _).heap[b]? = _
      rw [h4, push_ents]
      simp
    refine ⟨xs.length, ev z, _, ?_, h2, h3, ?_, fun v => ?_⟩
    · simp only [Instr.mapEntry, Sem.run_bind, run_underlying ht, Result.andThen_ok, getObj, Sem.run, hb]
      simp only [Sem.run_bind, K.check, Result.andThen_ok, hf, hi, Option.bind_none, hz]
      rw [h1]
      simp [goInt]
    · have := lookup_map K ht (hz _) hm x false
      refine this.trans ?_
      have e1 : mget xs x = none := by unfold mget; rw [hi]; rfl
      have e2 : mget (xs ++ [(x, z)]) x = some z := by
        have hno := findIdx_none.1 hi
        unfold mget
        rw [List.map_append, List.findIdx?_append, hi]
        simp
      rw [e1, e2]
      rfl
    · obtain ⟨w2, s1, s2, s3, s4⟩ := store_at (P := P) (t := t) hm xs.length (by simp) v
      refine ⟨w2, s1, ?_, grown2 h2 s3, s4.trans h3⟩
      have e : (xs ++ [(x, z)]).set xs.length ((xs ++ [(x, z)])[xs.length].1, v) = xs ++ [(x, v)] := by simp
      rw [← e]
      exact s2
  | some i =>
    obtain ⟨hil, hix, _⟩ := List.findIdx?_eq_some_iff_getElem.1 hi
    have hlt' : i < xs.length := by simpa using hil
    have hkx : xs[i].1 = x := by simpa using hix
    have h1 := ents_at (ek := ek) (ev := ev) 0 xs i
    rw [List.getElem?_eq_getElem hlt'] at h1
    obtain ⟨k1, k2, k3, k4⟩ := set_ok h (P := P) (.map ((ents ek ev 0 xs).toArray.modify i fun e => { e with key := ek x }) xs.length)
    have hm : MapIs ek ev (setBlock w b (.map ((ents ek ev 0 xs).toArray.modify i fun e => { e with key := ek x }) xs.length)) b xs := by
      show (setBlock w b _).heap[b]? = _
      rw [k4, key_ents xs i hlt' x hkx]
    refine ⟨i, ev xs[i].2, _, ?_, k2, k3, ?_, fun v => ?_⟩
    · simp only [Instr.mapEntry, Sem.run_bind, run_underlying ht, Result.andThen_ok, getObj, Sem.run, hb]
      simp only [Sem.run_bind, K.check, Result.andThen_ok, hf, hi, Option.bind_some, h1, Option.map_some, List.getElem?_toArray, Option.getD_some, hkx, K.stays]
      rw [k1]
      simp [goInt]
    · have := lookup_map K ht (hz _) hm x false
      refine this.trans ?_
      cases mget xs x <;> rfl
    · obtain ⟨w2, s1, s2, s3, s4⟩ := store_at (P := P) (t := t) hm i hlt' v
      rw [hkx] at s2
      exact ⟨w2, s1, s2, grown2 k2 s3, s4.trans k3⟩
end

/-! ### What is sold -/
theorem soldL (p night time : Int) (h : isKindB p 1000 = true) (gs : List GM) : ((gs.map GM.msg).filter (soldB p night time)).map (arg · 0) = ((cutL gs p).filter (inB night time)).map Sl.id := by
  have key : ∀ g : GM, soldB p night time g.msg = (cutB p g && inB night time (toSl g)) := fun g => by
    have e : g.msg.party = g.party := rfl
    have e2 : g.msg.kind = g.kind := rfl
    have e3 : g.msg.time = g.time := rfl
    unfold soldB cutB inB toSl
    rw [e, e2, e3]
    by_cases hp : g.party = p
    · rw [hp, h]
      simp [Bool.and_assoc]
    · rw [show (g.party == p) = false from by simpa using hp]
      simp
  induction gs with
  | nil => rfl
  | cons g gs ih =>
    have hc : cutL (g :: gs) p = if cutB p g = true then toSl g :: cutL gs p else cutL gs p := by
      unfold cutL
      rw [List.filter_cons]
      split <;> simp
    rw [hc, List.map_cons, List.filter_cons, key]
    cases h1 : cutB p g
    · simp [ih]
    · cases h2 : inB night time (toSl g)
      · simp [ih, h2]
      · simp [ih, h2]
        rfl
theorem soldN_cnt (gs : List GM) (p night time : Int) (h : isKindB p 1000 = true) : soldN (gs.map GM.msg) p night time = cntB (cutL gs p) night time := by
  unfold soldN cntB
  rw [soldL p night time h]

/-! ### What was given -/
theorem givenN_snoc (l : List Msg) (m : Msg) (ch night : Int) : givenN (l ++ [m]) ch night = givenN l ch night + if givenB ch night m = true then arg m 2 else 0 := by
  unfold givenN
  rw [List.filter_append, List.map_append, List.sum_append]
  cases h : givenB ch night m <;> simp [h]
theorem givenN_bound (l : List Msg) (ch night : Int) (h : ∀ m ∈ l, 0 ≤ arg m 2 ∧ arg m 2 ≤ 1000000000) : 0 ≤ givenN l ch night ∧ givenN l ch night ≤ 1000000000 * l.length := by
  induction l with
  | nil => simp [givenN]
  | cons m l ih =>
    have h1 := ih fun m hm => h m (by simp [hm])
    have h2 := h m (by simp)
    have e : givenN (m :: l) ch night = (if givenB ch night m = true then arg m 2 else 0) + givenN l ch night := by
      unfold givenN
      rw [List.filter_cons]
      split <;> simp
    rw [e]
    simp only [List.length_cons]
    split <;> omega

def GvIs (ys : List ((Int × Int) × Int)) (l : List Msg) : Prop := (ys.map (·.1)).Nodup ∧ ∀ a b, (mget ys (a, b)).getD 0 = givenN l a b
theorem GvIs.nil : GvIs [] [] := ⟨List.nodup_nil, fun a b => by simp [mget, givenN]⟩
theorem GvIs.put {ys : List ((Int × Int) × Int)} {l : List Msg} (h : GvIs ys l) {m : Msg} (hk : m.kind = 3) : GvIs (mput ys (arg m 0, arg m 1) (givenN l (arg m 0) (arg m 1) + arg m 2)) (l ++ [m]) := by
  refine ⟨mput_nodup h.1 _ _, fun a b => ?_⟩
  rw [mget_mput h.1, givenN_snoc]
  by_cases e : (a, b) = (arg m 0, arg m 1)
  · rw [if_pos e]
    cases e
    simp [givenB, hk]
  · rw [if_neg e, h.2, if_neg, Int.add_zero]
    unfold givenB
    simp only [Bool.and_eq_true, beq_iff_eq]
    exact fun ⟨⟨_, h1⟩, h2⟩ => e (by rw [h1, h2])
theorem GvIs.skip {ys : List ((Int × Int) × Int)} {l : List Msg} (h : GvIs ys l) {m : Msg} (hk : m.kind ≠ 3) : GvIs ys (l ++ [m]) := by
  refine ⟨h.1, fun a b => ?_⟩
  rw [givenN_snoc, h.2, if_neg, Int.add_zero]
  unfold givenB
  simp [hk]
theorem given_type : Tryz.prog.underlying 95 = some (.map 99 3) := by kernel_rfl
theorem zero_given (w : World) : (zeroValue 3).run Tryz.prog w = .ok (ekI 0) w := by kernel_rfl
theorem lookup_given {w : World} {b : Nat} {ys : List ((Int × Int) × Int)} {l : List Msg} (h : MapIs ekK ekI w b ys) (hg : GvIs ys l) (a c : Int) :
    (Instr.lookup 95 (.map (some b)) (.agg #[.int .i64 a, .int .i64 c]) false).run Tryz.prog w = .ok (.int .i64 (givenN l a c)) w := by
  have := lookup_map twoOk given_type (zero_given w) h (a, c) false
  rw [← hg.2 a c]
  refine this.trans ?_
  cases mget ys (a, c) <;> rfl

/-! ### What verdicts are due -/
def salesF (ms : List Msg) (l : List Msg) (m : Msg) (v : Vd) : Prop := v.rule = 1 ∧ 1000 ≤ v.party ∧ v.party < 2000 ∧ 0 ≤ v.ref ∧ v.ref < 366 ∧ givenN (l ++ [m]) (v.party - 1000) v.ref < soldN ms v.party v.ref m.time
theorem salesV_iff (ms : List Msg) (v : Vd) : exAt (salesF ms) (begM house ms) v ↔ salesV ms v := by
  have key : ∀ (i : Nat) (m : Msg), (begM house ms)[i]? = some m → (begM house ms).take i ++ [m] = (begM house ms).take (i + 1) := fun i m h => by
    rw [List.take_add_one, h]; rfl
  constructor
  · rintro ⟨i, m, h, h1, h2, h3, h4, h5, h6⟩
    rw [key i m h] at h6
    exact ⟨h1, h2, h3, h4, h5, i, m, h, h6⟩
  · rintro ⟨h1, h2, h3, h4, h5, i, m, h, h6⟩
    refine ⟨i, m, h, h1, h2, h3, h4, h5, ?_⟩
    rw [key i m h]
    exact h6

/-- What is due at a party for the nights before r. -/
def metN (l : List Msg) (time : Int) (p : Int) (s : List Sl) (r : Nat) (v : Vd) : Prop := v.rule = 1 ∧ v.party = p ∧ 0 ≤ v.ref ∧ v.ref < r ∧ givenN l (p - 1000) v.ref < cntB s v.ref time
theorem metN_zero {l : List Msg} {time p : Int} {s : List Sl} {v : Vd} : ¬ metN l time p s 0 v := by rintro ⟨_, _, h1, h2, _⟩; omega
theorem metN_succ {l : List Msg} {time p : Int} {s : List Sl} {r : Nat} {v : Vd} : metN l time p s (r + 1) v ↔ (metN l time p s r v ∨ (givenN l (p - 1000) r < cntB s r time ∧ v = ⟨p, 1, r⟩)) := by
  constructor
  · rintro ⟨h1, h2, h3, h4, h5⟩
    by_cases h : v.ref = r
    · refine .inr ⟨by rw [← h]; exact h5, ?_⟩
      cases v
      simp at h1 h2 h
      simp [h1, h2, h]
    · exact .inl ⟨h1, h2, h3, by omega, h5⟩
  · rintro (⟨h1, h2, h3, h4, h5⟩ | ⟨h, rfl⟩)
    · exact ⟨h1, h2, h3, by omega, h5⟩
    · exact ⟨rfl, rfl, by show 0 ≤ (r : Int); omega, by show (r : Int) < ((r + 1 : Nat) : Int); omega, h⟩
def metS (l : List Msg) (time : Int) (ys : List (Int × SR)) (seen : List Nat) (v : Vd) : Prop := ∃ (i : Nat) (h : i < ys.length), i ∈ seen ∧ metN l time ys[i].1 ys[i].2.l 366 v
theorem metS_nil {l : List Msg} {time : Int} {ys : List (Int × SR)} {v : Vd} : ¬ metS l time ys [] v := by rintro ⟨i, _, h, _⟩; simp at h
theorem metS_push {l : List Msg} {time : Int} {ys : List (Int × SR)} {seen : Array Nat} {i : Nat} (hi : i < ys.length) {v : Vd} : metS l time ys (seen.push i).toList v ↔ (metS l time ys seen.toList v ∨ metN l time ys[i].1 ys[i].2.l 366 v) := by
  constructor
  · rintro ⟨j, hj, h1, h2⟩
    simp only [Array.toList_push, List.mem_append, List.mem_singleton] at h1
    rcases h1 with h1 | rfl
    · exact .inl ⟨j, hj, h1, h2⟩
    · exact .inr h2
  · rintro (⟨j, hj, h1, h2⟩ | h)
    · exact ⟨j, hj, by simp [h1], h2⟩
    · exact ⟨i, hi, by simp, h⟩
theorem cut_kind {gs : List GM} {p : Int} (h : cutL gs p ≠ []) : isKindB p 1000 = true := by
  cases hf : gs.filter (cutB p) with
  | nil => exact absurd (by unfold cutL; rw [hf]; rfl) h
  | cons g t =>
    have hg : g ∈ gs.filter (cutB p) := by rw [hf]; simp
    have := (List.mem_filter.1 hg).2
    unfold cutB at this
    simp only [Bool.and_eq_true, beq_iff_eq] at this
    rw [← this.1.1.1]
    exact this.1.1.2
theorem metS_all {gs : List GM} {pre : List Msg} {m : Msg} {ys : List (Int × SR)} (hF : FunIs ys (fun p => optL (cutL gs p)) SR.l) (hb : ∀ m' ∈ pre ++ [m], 0 ≤ arg m' 2 ∧ arg m' 2 ≤ 1000000000) {seen : List Nat} (hall : ∀ i, i < ys.length → i ∈ seen) (v : Vd) :
    metS (pre ++ [m]) m.time ys seen v ↔ salesF (gs.map GM.msg) pre m v := by
  constructor
  · rintro ⟨i, hi, _, h1, h2, h3, h4, h5⟩
    have hat := hF.at_ hi
    have hat' : optL (cutL gs ys[i].1) = some ys[i].2.l := hat
    unfold optL at hat'
    split at hat'
    · cases hat'
    rename_i hne
    have hk := cut_kind hne
    have hl := Option.some.inj hat'
    rw [← h2] at h5 hl hk
    rw [← hl] at h5
    refine ⟨h1, ?_, ?_, h3, by omega, ?_⟩
    · unfold isKindB at hk; simp at hk; omega
    · unfold isKindB at hk; simp at hk; omega
    · rw [soldN_cnt gs _ _ _ hk]; exact h5
  · rintro ⟨h1, h2, h3, h4, h5, h6⟩
    have hk : isKindB v.party 1000 = true := by unfold isKindB; simp; omega
    rw [soldN_cnt gs _ _ _ hk] at h6
    have hg := (givenN_bound (pre ++ [m]) (v.party - 1000) v.ref hb).1
    have hne : cutL gs v.party ≠ [] := fun e => by
      rw [e] at h6
      have : cntB [] v.ref m.time = 0 := rfl
      omega
    obtain ⟨i, hi, e1, e2⟩ := hF.ex (k := v.party) (v := cutL gs v.party) (by show optL _ = _; unfold optL; rw [if_neg hne])
    refine ⟨i, hi, hall i hi, h1, e1.symm, h4, by omega, ?_⟩
    rw [e1, e2]
    exact h6

theorem nodup_le {α : Type} [DecidableEq α] : ∀ {l l' : List α}, l.Nodup → (∀ x ∈ l, x ∈ l') → l.length ≤ l'.length
  | [], l', _, _ => by simp
  | x :: l, l', hd, hs => by
    obtain ⟨h1, h2⟩ := List.nodup_cons.1 hd
    have hx := hs x (by simp)
    have := nodup_le (l := l) (l' := l'.erase x) h2 (fun y hy => (List.mem_erase_of_ne (fun e => by subst e; exact h1 hy)).2 (hs y (by simp [hy])))
    rw [List.length_erase_of_mem hx] at this
    have := List.length_pos_of_mem hx
    simp
    omega
/-- The verdicts of sales are few. -/
theorem sales_few {xs : List (Vd × Bool)} {ms : List Msg} (h : SetIs xs (salesV ms)) : xs.length < 1000000000 := by
  have h1 : (xs.map (·.1)).length ≤ ((List.range 366000).map fun (k : Nat) => (⟨1000 + ((k / 366 : Nat) : Int), 1, ((k % 366 : Nat) : Int)⟩ : Vd)).length := by
    refine nodup_le h.nodup fun v hv => ?_
    obtain ⟨h1, h2, h3, h4, h5, _⟩ := (h.mem v).1 hv
    refine List.mem_map.2 ⟨(v.party - 1000).toNat * 366 + v.ref.toNat, by rw [List.mem_range]; omega, ?_⟩
    cases v
    simp only [Vd.mk.injEq] at h1 h2 h3 h4 h5 ⊢
    omega
  simp only [List.length_map, List.length_range] at h1
  omega

end Go.Proofs.YtonnaiknlgmejaaGreatDoor

/-
  law41's head, in plain words: what the rules find in its three states.
-/
namespace Go.Proofs.YtonnaiknlgmejaaGreatDoor
open Go.RowKit Go.Shelf Go.Sort

/-- Something holds of a message and of those before it, as a test. -/
def atB (l : List Msg) (F : List Msg → Msg → Bool) : Bool := (List.range l.length).any fun i => match l[i]? with | some m => F (l.take i) m | none => false
theorem atB_iff {l : List Msg} {F : List Msg → Msg → Bool} : atB l F = true ↔ ∃ (i : Nat) (m : Msg), l[i]? = some m ∧ F (l.take i) m = true := by
  unfold atB
  rw [List.any_eq_true]
  constructor
  · rintro ⟨i, _, h⟩
    cases hm : l[i]? with
    | none => rw [hm] at h; cases h
    | some m => rw [hm] at h; exact ⟨i, m, hm, h⟩
  · rintro ⟨i, m, hm, h⟩
    exact ⟨i, List.mem_range.2 (List.getElem?_eq_some_iff.1 hm).1, by rw [hm]; exact h⟩
theorem begGo_mem {p : Int} : ∀ {ms : List Msg} {k : Int} {m : Msg}, m ∈ begGo p k ms → m ∈ ms ∧ m.party = p
  | [], _, _, h => by simp [begGo] at h
  | x :: ms, k, m, h => by
    unfold begGo at h
    split at h
    · rename_i hp
      split at h
      · rcases List.mem_cons.1 h with rfl | h
        · exact ⟨by simp, hp⟩
        · exact ⟨List.mem_cons_of_mem _ (begGo_mem h).1, (begGo_mem h).2⟩
      · cases h
    · exact ⟨List.mem_cons_of_mem _ (begGo_mem h).1, (begGo_mem h).2⟩
theorem begM_at {p : Int} {ms : List Msg} {i : Nat} {m : Msg} (h : (begM p ms)[i]? = some m) : m ∈ ms ∧ m.party = p := begGo_mem (List.mem_of_getElem? h)
theorem lastOf_mem {l : List Msg} {kind id : Int} {q : Msg} (h : lastOf l kind id = some q) : q ∈ l ∧ arg q 0 = id := by
  unfold lastOf at h
  obtain ⟨h1, h2⟩ := List.mem_filter.1 (List.mem_of_getLast? h)
  simp only [Bool.and_eq_true, beq_iff_eq] at h2
  exact ⟨h1, h2.2⟩

def salesB (ms : List Msg) (v : Vd) : Bool := decide (v.rule = 1 ∧ 1000 ≤ v.party ∧ v.party < 2000 ∧ 0 ≤ v.ref ∧ v.ref < 366) && atB (begM house ms) fun l m => decide (givenN (l ++ [m]) (v.party - 1000) v.ref < soldN ms v.party v.ref m.time)
theorem salesB_iff {ms : List Msg} {v : Vd} : salesB ms v = true ↔ salesV ms v := by
  rw [← salesV_iff]
  unfold salesB
  rw [Bool.and_eq_true, atB_iff, decide_eq_true_eq]
  constructor
  · rintro ⟨⟨h1, h2, h3, h4, h5⟩, i, m, h6, h7⟩
    exact ⟨i, m, h6, h1, h2, h3, h4, h5, by simpa using h7⟩
  · rintro ⟨i, m, h6, h1, h2, h3, h4, h5, h7⟩
    exact ⟨⟨h1, h2, h3, h4, h5⟩, i, m, h6, by simpa using h7⟩
def roomsB (ms : List Msg) (v : Vd) : Bool := decide (v.party = house) && atB (begM house ms) fun l m => decide (arg m 0 = v.ref) &&
  ((decide (v.rule = 2 ∧ m.kind = 5) && l.any fun q => decide (arg q 0 ≠ v.ref ∧ lastOf l 5 (arg q 0) = some q ∧ arg m 1 = arg q 1 ∧ max (arg m 2) (arg q 2) < min (arg m 3) (arg q 3))) ||
   (decide (v.rule = 3 ∧ m.kind = 6) && match lastOf l 5 v.ref with | some q => decide (arg q 2 ≤ arg m 1 ∧ arg m 1 < arg q 3) | none => false))
theorem roomsB_iff {ms : List Msg} {v : Vd} : roomsB ms v = true ↔ roomsV ms v := by
  unfold roomsB roomsV roomsAt
  rw [Bool.and_eq_true, atB_iff, decide_eq_true_eq]
  refine and_congr_right fun _ => exists_congr fun i => exists_congr fun m => and_congr_right fun _ => ?_
  rw [Bool.and_eq_true, decide_eq_true_eq, Bool.or_eq_true, Bool.and_eq_true, Bool.and_eq_true, decide_eq_true_eq, decide_eq_true_eq, List.any_eq_true]
  refine and_congr_right fun _ => or_congr ?_ ?_
  · constructor
    · rintro ⟨⟨h1, h2⟩, q, hq, h3⟩
      obtain ⟨h4, h5, h6, h7⟩ := of_decide_eq_true h3
      exact ⟨h1, h2, arg q 0, q, h4, h5, h6, h7⟩
    · rintro ⟨h1, h2, id, q, h4, h5, h6, h7⟩
      obtain ⟨hq, he⟩ := lastOf_mem h5
      exact ⟨⟨h1, h2⟩, q, hq, decide_eq_true ⟨by rw [he]; exact h4, by rw [he]; exact h5, h6, h7⟩⟩
  · cases hl : lastOf ((begM house ms).take i) 5 v.ref with
    | none => simp
    | some q => simp [and_assoc]
def pricesB (ms : List Msg) (v : Vd) : Bool := decide (v.party = house ∧ v.rule = 4) && atB (begM house ms) fun l m => decide (m.kind = 7 ∧ arg m 0 = v.ref) && match lastOf l 4 v.ref with | some q => decide (arg m 1 ≠ arg q 1 ∧ arg m 1 ≠ arg q 2) | none => true
theorem pricesB_iff {ms : List Msg} {v : Vd} : pricesB ms v = true ↔ pricesV ms v := by
  unfold pricesB pricesV pricesAt
  rw [Bool.and_eq_true, atB_iff, decide_eq_true_eq, and_assoc]
  refine and_congr_right fun _ => and_congr_right fun _ => exists_congr fun i => exists_congr fun m => and_congr_right fun _ => ?_
  rw [Bool.and_eq_true, decide_eq_true_eq, and_assoc]
  refine and_congr_right fun _ => and_congr_right fun _ => ?_
  cases hl : lastOf ((begM house ms).take i) 4 v.ref with
  | none => simp
  | some q => simp
def doorsB (ms : List Msg) (v : Vd) : Bool :=
  (decide (v.rule = 6) && ms.any fun m => decide (3000 ≤ m.party ∧ m.party < 4000 ∧ m.kind = 9 ∧ arg m 1 ≠ 0 ∧ m.party = v.party ∧ arg m 0 = v.ref) && match firstCard (begM house ms) (arg m 0) with | some c => !fitsB m c | none => false) ||
  (decide (v.rule = 5 ∧ 3000 ≤ v.party ∧ v.party < 4000) && atB (begM v.party ms) fun l m => decide (m.kind = 9 ∧ arg m 1 ≠ 0 ∧ arg m 0 = v.ref) && l.any fun q => decide (q.kind = 9 ∧ arg m 1 < arg q 1))
theorem doorsB_iff {ms : List Msg} {v : Vd} : doorsB ms v = true ↔ doorsV ms v := by
  unfold doorsB doorsV doors6 doors5 doors5At opens
  rw [Bool.or_eq_true, Bool.and_eq_true, Bool.and_eq_true, atB_iff, decide_eq_true_eq, decide_eq_true_eq, List.any_eq_true]
  refine or_congr (and_congr_right fun _ => exists_congr fun m => and_congr_right fun _ => ?_) ?_
  · rw [Bool.and_eq_true, decide_eq_true_eq]
    constructor
    · rintro ⟨⟨h1, h2, h3, h4, h5, h6⟩, h7⟩
      cases hf : firstCard (begM house ms) (arg m 0) with
      | none => rw [hf] at h7; cases h7
      | some c => rw [hf] at h7; exact ⟨⟨h1, h2, h3, h4⟩, h5, h6, c, rfl, by simpa using h7⟩
    · rintro ⟨⟨h1, h2, h3, h4⟩, h5, h6, c, h7, h8⟩
      exact ⟨⟨h1, h2, h3, h4, h5, h6⟩, by rw [h7]; simpa using h8⟩
  · constructor
    · rintro ⟨⟨h1, h2, h3⟩, i, m, h4, h5⟩
      rw [Bool.and_eq_true, decide_eq_true_eq, List.any_eq_true] at h5
      obtain ⟨⟨h6, h7, h8⟩, q, hq, h9⟩ := h5
      obtain ⟨k1, k2⟩ := of_decide_eq_true h9
      exact ⟨h1, h2, h3, i, m, h4, h6, h7, h8, q, hq, k1, k2⟩
    · rintro ⟨h1, h2, h3, i, m, h4, h6, h7, h8, q, hq, k1, k2⟩
      refine ⟨⟨h1, h2, h3⟩, i, m, h4, ?_⟩
      rw [Bool.and_eq_true, decide_eq_true_eq, List.any_eq_true]
      exact ⟨⟨h6, h7, h8⟩, q, hq, decide_eq_true ⟨k1, k2⟩⟩

/-- Whom a verdict can be about. -/
def cands (ms : List Msg) : List Vd := ms.flatMap fun m => [2, 3, 4, 5, 6].flatMap fun r => [⟨house, r, arg m 0⟩, ⟨m.party, r, arg m 0⟩]
def candS (ms : List Msg) : List Vd := ms.flatMap fun m => (List.range (arg m 3 - arg m 2).toNat).map fun (k : Nat) => (⟨m.party, 1, arg m 2 + (k : Int)⟩ : Vd)
theorem cands_mem {ms : List Msg} {v : Vd} {m : Msg} (hm : m ∈ ms) (hr : arg m 0 = v.ref) (hp : v.party = house ∨ v.party = m.party) (h2 : 2 ≤ v.rule) (h6 : v.rule ≤ 6) : v ∈ cands ms := by
  refine List.mem_flatMap.2 ⟨m, hm, List.mem_flatMap.2 ⟨v.rule, ?_, ?_⟩⟩
  · have : v.rule = 2 ∨ v.rule = 3 ∨ v.rule = 4 ∨ v.rule = 5 ∨ v.rule = 6 := by omega
    rcases this with h | h | h | h | h <;> simp [h]
  · obtain ⟨a, b, c⟩ := v
    simp only at hr hp
    rcases hp with rfl | rfl <;> simp [hr]
theorem rooms_cand {ms : List Msg} {v : Vd} (h : roomsV ms v) : v ∈ cands ms := by
  have hw := rooms_who h
  obtain ⟨h1, i, m, h2, h3, _⟩ := h
  exact cands_mem (begM_at h2).1 h3 (.inl h1) (by omega) (by omega)
theorem prices_cand {ms : List Msg} {v : Vd} (h : pricesV ms v) : v ∈ cands ms := by
  have hw := prices_who h
  obtain ⟨h1, _, i, m, h2, _, h3, _⟩ := h
  exact cands_mem (begM_at h2).1 h3 (.inl h1) (by omega) (by omega)
theorem doors_cand {ms : List Msg} {v : Vd} (h : doorsV ms v) : v ∈ cands ms := by
  have hw := doors_who h
  rcases h with ⟨_, m, h2, _, h4, h5, _⟩ | ⟨_, _, _, i, m, h2, _, _, h5, _⟩
  · exact cands_mem h2 h5 (.inr h4.symm) (by omega) (by omega)
  · exact cands_mem (begM_at h2).1 h5 (.inr (begM_at h2).2.symm) (by omega) (by omega)
theorem uniqI_pos {l : List Int} (h : 0 < (uniqI l).length) : ∃ x, x ∈ l := by
  cases hl : uniqI l with
  | nil => rw [hl] at h; simp at h
  | cons x t => exact ⟨x, mem_uniqI.1 (by rw [hl]; simp)⟩
theorem sales_cand {ms : List Msg} {v : Vd} (hb : ∀ m ∈ ms, 0 ≤ arg m 2 ∧ arg m 2 ≤ 1000000000) (h : salesV ms v) : v ∈ candS ms := by
  obtain ⟨h1, h2, h3, h4, h5, i, m, h6, h7⟩ := h
  have hg := (givenN_bound ((begM house ms).take (i + 1)) (v.party - 1000) v.ref (fun m' hm' => hb m' (begGo_mem (List.mem_of_mem_take hm')).1)).1
  have hp : 0 < (uniqI ((ms.filter (soldB v.party v.ref m.time)).map (arg · 0))).length := by
    have : ((uniqI ((ms.filter (soldB v.party v.ref m.time)).map (arg · 0))).length : Int) = soldN ms v.party v.ref m.time := rfl
    omega
  obtain ⟨x, hx⟩ := uniqI_pos hp
  obtain ⟨m', hm', rfl⟩ := List.mem_map.1 hx
  obtain ⟨k1, k2⟩ := List.mem_filter.1 hm'
  unfold soldB at k2
  simp only [Bool.and_eq_true, beq_iff_eq, decide_eq_true_eq] at k2
  refine List.mem_flatMap.2 ⟨m', k1, List.mem_map.2 ⟨(v.ref - arg m' 2).toNat, List.mem_range.2 (by omega), ?_⟩⟩
  obtain ⟨a, b, c⟩ := v
  simp only [Vd.mk.injEq] at *
  omega
theorem vdIs_of {P : Vd → Prop} {B : Vd → Bool} {cand ks : List Vd} (hiff : ∀ v, B v = true ↔ P v) (hc : ∀ v, P v → v ∈ cand) (hs : ks.Pairwise (fun x y => ltV x y = true)) (h1 : (ks.all fun v => B v) = true) (h2 : (cand.all fun v => !B v || decide (v ∈ ks)) = true) : VdIs ks P := by
  refine ⟨hs, fun v => ⟨fun hv => (hiff v).1 (List.all_eq_true.1 h1 v hv), fun hP => ?_⟩⟩
  have := List.all_eq_true.1 h2 v (hc v hP)
  rw [(hiff v).2 hP] at this
  simpa using this

/-! ### The examples -/
def saleM (s t : Int) : Msg := ⟨1001, s, t, 1, [s, 1, 5, 6, 1, 1, 100]⟩
def hM1 : Msg := ⟨2001, 1, 1, 3, [1, 5, 2]⟩
def hM2 : Msg := ⟨2001, 2, 9, 3, [1, 5, 0]⟩
def exA : List Msg := [saleM 1 2, saleM 2 3, saleM 3 4, hM1, hM2]
def exB : List Msg := [saleM 1 2, saleM 2 3, saleM 3 9, hM1, hM2]
def many6 : List Msg := [⟨2001, 1, 1, 5, [7, 3, 1, 4]⟩, ⟨2001, 2, 1, 5, [8, 3, 3, 5]⟩, ⟨2001, 3, 1, 6, [7, 2, 100]⟩, ⟨2001, 4, 1, 4, [7, 500, 50]⟩, ⟨2001, 5, 1, 7, [7, 51]⟩, ⟨2001, 6, 1, 8, [9, 4, 2, 10, 20, 7]⟩]
def lock3 : List Msg := [⟨3004, 1, 12, 9, [9, 2, 12, 1]⟩, ⟨3004, 2, 25, 9, [9, 2, 25, 3]⟩, ⟨3004, 3, 30, 9, [5, 1, 30, 3]⟩]
theorem addA : addP [] [] [hM1, hM2, saleM 1 2, saleM 2 3, saleM 3 4] = (0, exA, []) := by decide +kernel
theorem addB' : addP [] [] [hM1, hM2, saleM 1 2, saleM 2 3, saleM 3 9] = (0, exB, []) := by decide +kernel
theorem addC : addP [] [] (many6 ++ lock3) = (0, many6 ++ lock3, []) := by decide +kernel
theorem salesA : VdIs [⟨1001, 1, 5⟩] (salesV exA) := vdIs_of (fun _ => salesB_iff) (fun _ => sales_cand (by decide +kernel)) (by simp) (by decide +kernel) (by decide +kernel)
theorem salesB' : VdIs [] (salesV exB) := vdIs_of (fun _ => salesB_iff) (fun _ => sales_cand (by decide +kernel)) (by simp) (by decide +kernel) (by decide +kernel)
theorem roomsC : VdIs [⟨2001, 2, 8⟩, ⟨2001, 3, 7⟩] (roomsV (many6 ++ lock3)) := vdIs_of (fun _ => roomsB_iff) (fun _ => rooms_cand) (by decide +kernel) (by decide +kernel) (by decide +kernel)
theorem pricesC : VdIs [⟨2001, 4, 7⟩] (pricesV (many6 ++ lock3)) := vdIs_of (fun _ => pricesB_iff) (fun _ => prices_cand) (by decide +kernel) (by decide +kernel) (by decide +kernel)
theorem doorsC : VdIs [⟨3004, 5, 5⟩, ⟨3004, 6, 9⟩] (doorsV (many6 ++ lock3)) := vdIs_of (fun _ => doorsB_iff) (fun _ => doors_cand) (by decide +kernel) (by decide +kernel) (by decide +kernel)

end Go.Proofs.YtonnaiknlgmejaaGreatDoor

/-
  A region that draws its order, whose operations only read, but for an allocation and, last of all, a store into what was allocated: every order comes to one end. Nothing of the program stands here.
-/
namespace Go.Proofs.YtonnaiknlgmejaaGreatDoor
open Go.RowKit

/-- Whom an operation waits for. -/
def waitsB (o : Oper) (j : Nat) : Bool := o.after.any fun e => Region.binds .any e && e.on == j
theorem waitsB_spec {o : Oper} {j : Nat} (h : waitsB o j = true) : ∃ e ∈ o.after, Region.binds .any e = true ∧ e.on = j := by
  unfold waitsB at h
  obtain ⟨e, he, hb⟩ := Array.any_eq_true'.1 h
  simp only [Bool.and_eq_true, beq_iff_eq] at hb
  exact ⟨e, he, hb.1, hb.2⟩

/-- An operand is no slot that one of these operations writes. -/
def apartB (l : List Oper) : Operand → Bool
  | .tmp t => l.all fun o => o.dst != some t
  | _ => true
/-- Operations in a row: each writes a slot of its own, and reads none that it or a later one writes. -/
def rowB : List Oper → Bool
  | [] => true
  | o :: l => o.guard.isNone && o.dst.isSome && (l.all fun o' => o'.dst != o.dst) && (o.op.operands.all (apartB (o :: l))) && rowB l
/-- An operation waits for whoever writes what it reads. -/
def heedsB (ops : List Oper) (o : Oper) : Bool := o.op.operands.all fun
  | .tmp t => (List.range ops.length).all fun j => match ops[j]? with | some o' => o'.dst != some t || waitsB o j | none => true
  | _ => true
/-- The form of such a region: hd reads; then the allocation; then the store. -/
def formB (hd : List Oper) (oa os : Oper) (m : Nat) : Bool :=
  rowB (hd ++ [oa]) && Region.noSelect (hd ++ [oa, os]).toArray && ((hd ++ [oa]).all fun o => match o.dst with | some d => decide (d < m) | none => true) && (hd.all fun o => heedsB (hd ++ [oa]) o && (o.op.operands.all (apartB [oa]))) &&
  oa.op.operands.isEmpty && os.dst.isNone && os.guard.isNone && ((List.range (hd.length + 1)).all fun i => waitsB os i) &&
  ((List.range (hd.length + 2)).all fun i => match (hd ++ [oa, os])[i]? with | some o => o.after.all (fun e => !Region.binds .any e || decide (e.on < i)) | none => true)

section
variable {P : Program} {ops : Array Oper} {w : World}

theorem yields_congr {o : Oper} {v : Value} {a a' : Act} (hg : o.guard = none) (hs : ∀ cs b, o.op ≠ .select cs b) (h : ∀ x ∈ o.op.operands, a.eval x = a'.eval x) (hy : YieldsAt P ops w o v a) : YieldsAt P ops w o v a' := by
  have e : execOp a.eval o = execOp a'.eval o := execOp_congr o hs h
  unfold YieldsAt at hy ⊢
  have hw : ∀ y, Region.wanted o y = true := fun y => by unfold Region.wanted; rw [hg]
  rw [hw] at hy ⊢
  rw [← e]
  exact hy

theorem eval_put_ne {a : Act} {d t : Nat} {v : Value} (h : d ≠ t) : (a.put (some d) v).eval (.tmp t) = a.eval (.tmp t) := by
  simp [Act.put, Act.eval, Array.getElem?_setIfInBounds_ne h]
theorem eval_put_self {a : Act} {d : Nat} {v : Value} (h : d < a.tmps.size) : (a.put (some d) v).eval (.tmp d) = v := by
  simp [Act.put, Act.eval, h]
theorem eval_put_of {a : Act} {x : Operand} {d : Nat} {v : Value} (h : x ≠ .tmp d) : (a.put (some d) v).eval x = a.eval x := by
  cases x with
  | tmp t => exact eval_put_ne fun e => h (by rw [e])
  | _ => rfl
theorem size_put {a : Act} {d : Option Nat} {v : Value} : (a.put d v).tmps.size = a.tmps.size := by
  cases d <;> simp [Act.put]
theorem defers_put {a : Act} {d : Option Nat} {v : Value} : (a.put d v).defers = a.defers := by
  cases d <;> simp [Act.put]

theorem apart_eval {a : Act} {l : List Oper} {x : Operand} {o : Oper} {d : Nat} {v : Value} (h : apartB l x = true) (ho : o ∈ l) (hd : o.dst = some d) : (a.put (some d) v).eval x = a.eval x := by
  refine eval_put_of fun e => ?_
  subst e
  have := List.all_eq_true.1 h o ho
  rw [hd] at this
  simp at this

/-- What a row of operations that only read comes to. -/
structure Fin' (P : Program) (ops : Array Oper) (w : World) (l : List Oper) (a aF : Act) : Prop where
  defers : aF.defers = a.defers
  size : aF.tmps.size = a.tmps.size
  old : ∀ t, (∀ o ∈ l, o.dst ≠ some t) → aF.eval (.tmp t) = a.eval (.tmp t)
  new : ∀ o ∈ l, ∀ d, o.dst = some d → YieldsAt P ops w o (aF.eval (.tmp d)) aF

theorem still_fin {K : Act → Prop} (hsel : ∀ o : Oper, o ∈ ops.toList → ∀ cs b, o.op ≠ .select cs b) : ∀ (l : List Oper) (a : Act), rowB l = true → (∀ o ∈ l, o ∈ ops.toList) → (∀ o ∈ l, ∀ d, o.dst = some d → d < a.tmps.size) → wpStill P ops w K l a → ∃ aF, K aF ∧ Fin' P ops w l a aF
  | [], a, _, _, _, h => ⟨a, h, rfl, rfl, fun _ _ => rfl, fun o ho => by cases ho⟩
  | o :: l, a, hr, hm, hz, h => by
    simp only [rowB, Bool.and_eq_true] at hr
    obtain ⟨⟨⟨⟨hg, hd⟩, hl⟩, hx⟩, hr⟩ := hr
    obtain ⟨d, hd⟩ := Option.isSome_iff_exists.1 hd
    have hg' : o.guard = none := by simpa using hg
    obtain ⟨i, hi, hio⟩ := List.mem_iff_getElem.1 (hm o (by simp))
    have hio' : ops[i]? = some o := by
      rw [Array.getElem?_eq_some_iff]
      exact ⟨by simpa using hi, by simpa using hio⟩
    have hst : stOp P ops w i (wpStill P ops w K l) a := by unfold stOp; simp only [hio']; exact h
    obtain ⟨v, hy, hK⟩ := yieldsAt_of_stOp hio' hst
    obtain ⟨aF, hKF, hF⟩ := still_fin hsel l (a.put o.dst v) hr (fun o' ho' => hm o' (by simp [ho'])) (fun o' ho' d' hd' => by rw [size_put]; exact hz o' (by simp [ho']) d' hd') hK
    have hself : aF.eval (.tmp d) = v := by
      rw [hF.old d (fun o' ho' e => by have := List.all_eq_true.1 hl o' ho'; rw [hd, e] at this; simp at this), hd]
      exact eval_put_self (hz o (by simp) d hd)
    refine ⟨aF, hKF, hF.defers.trans defers_put, hF.size.trans size_put, fun t ht => ?_, fun o' ho' d' hd' => ?_⟩
    · rw [hF.old t (fun o' ho' => ht o' (by simp [ho'])), hd]
      exact eval_put_ne fun e => ht o (by simp) (by rw [hd, e])
    · rcases List.mem_cons.1 ho' with rfl | ho'
      · have e : d' = d := by rw [hd] at hd'; exact (Option.some.inj hd').symm
        subst e
        rw [hself]
        refine yields_congr hg' (hsel _ (hm _ (by simp))) (fun x hxm => ?_) hy
        have hap := Array.all_eq_true'.1 hx x hxm
        cases x with
        | tmp t =>
          have hap' : ∀ o'' ∈ o' :: l, o''.dst ≠ some t := fun o'' ho'' e => by
            have := List.all_eq_true.1 hap o'' ho''
            rw [e] at this; simp at this
          rw [hF.old t (fun o'' ho'' => hap' o'' (by simp [ho'']))]
          rw [hd]
          exact (eval_put_ne fun e => hap' o' (by simp) (by rw [hd, e])).symm
        | _ => rfl
      · exact hF.new o' ho' d' hd'
end

section
variable {P : Program} {hd : List Oper} {oa os : Oper} {w0 w1 w2 : World} {Q : Exit → Act → World → Prop}

/-- Some operations are listed; what they have written is there. -/
structure Inv' (hd : List Oper) (oa : Oper) (L : Array Bool) (a aX : Act) : Prop where
  defers : a.defers = aX.defers
  size : a.tmps.size = aX.tmps.size
  eq : ∀ t, (∀ (j : Nat) (o : Oper), (hd ++ [oa])[j]? = some o → o.dst = some t → L.getD j false = true) → a.eval (.tmp t) = aX.eval (.tmp t)

theorem Inv'.step {L : Array Bool} {a aX : Act} {i : Nat} {o : Oper} {d : Nat} {v : Value} (h : Inv' hd oa L a aX) (hi : (hd ++ [oa])[i]? = some o) (hdo : o.dst = some d) (hz : d < a.tmps.size) (hv : v = aX.eval (.tmp d)) : Inv' hd oa (L.setIfInBounds i true) (a.put o.dst v) aX := by
  subst hv
  refine ⟨defers_put.trans h.defers, size_put.trans h.size, fun t ht => ?_⟩
  rw [hdo]
  by_cases e : d = t
  · subst e
    exact eval_put_self hz
  · rw [eval_put_ne e]
    refine h.eq t fun j o' hj ho' => ?_
    have h1 := ht j o' hj ho'
    by_cases hij : i = j
    · subst hij
      rw [hi] at hj
      cases hj
      rw [hdo] at ho'
      exact absurd (Option.some.inj ho') e
    · rwa [getD_set_ne false hij] at h1

theorem least {p : Nat → Bool} : ∀ {q : Nat}, p q = false → ∃ i, i ≤ q ∧ p i = false ∧ ∀ j, j < i → p j = true := by
  intro q
  induction q using Nat.strongRecOn with
  | _ q ih =>
    intro h
    by_cases hx : ∃ j, j < q ∧ p j = false
    · obtain ⟨j, hj, hp⟩ := hx
      obtain ⟨i, h1, h2, h3⟩ := ih j hj hp
      exact ⟨i, by omega, h2, h3⟩
    · refine ⟨q, Nat.le_refl _, h, fun j hj => ?_⟩
      cases hp : p j
      · exact absurd ⟨j, hj, hp⟩ hx
      · rfl

theorem count_step {L : Array Bool} {i : Nat} (h : L.getD i true = false) : (L.setIfInBounds i true).toList.count false + 1 = L.toList.count false := by
  have hi : i < L.size := by
    rcases Nat.lt_or_ge i L.size with h' | h'
    · exact h'
    · simp [Array.getElem?_eq_none h'] at h
  have hv : L.toList[i]'(by simpa using hi) = false := by simpa [hi] using h
  have hm : false ∈ L.toList := by rw [← hv]; exact List.getElem_mem _
  have hp : 0 < L.toList.count false := List.count_pos_iff.2 hm
  rw [Array.toList_setIfInBounds, List.count_set (by simpa using hi), hv]
  show (List.count false L.toList - 1) + 0 + 1 = _
  omega

theorem any_alloc {aX : Act} {m : Nat} (hf : formB hd oa os m = true) (hmz : aX.tmps.size = m)
    (hr0 : ∀ o ∈ hd, ∀ d, o.dst = some d → YieldsAt P (hd ++ [oa, os]).toArray w0 o (aX.eval (.tmp d)) aX) (hr1 : ∀ o ∈ hd, ∀ d, o.dst = some d → YieldsAt P (hd ++ [oa, os]).toArray w1 o (aX.eval (.tmp d)) aX)
    (hal : ∃ dp, oa.dst = some dp ∧ (execOp aX.eval oa).run P w0 = .ok (.value (aX.eval (.tmp dp))) w1) (hst : wpList P (hd ++ [oa, os]).toArray Q [os] aX w1) :
    ∀ (fuel : Nat) (L : Array Bool) (a : Act), Inv' hd oa L a aX → L.size = hd.length + 2 → L.getD (hd.length + 1) true = false → L.toList.count false ≤ fuel →
      wpAny P .any (hd ++ [oa, os]).toArray Q fuel L a (if L.getD hd.length false = true then w1 else w0) := by
  simp only [formB, Bool.and_eq_true] at hf
  obtain ⟨⟨⟨⟨⟨⟨⟨⟨hrow, hsel⟩, hdz⟩, hrd⟩, hao⟩, hsd⟩, hsg⟩, hsw⟩, haf⟩ := hf
  have hselI : ∀ (i : Nat) (o : Oper), (hd ++ [oa, os])[i]? = some o → ∀ cs b, o.op ≠ .select cs b := fun i o ho cs b => Region.noSelect_spec hsel i o cs b (by simpa using ho)
  have hguard : ∀ o ∈ hd ++ [oa], o.guard = none ∧ ∃ d, o.dst = some d := by
    have : ∀ l : List Oper, rowB l = true → ∀ o ∈ l, o.guard = none ∧ ∃ d, o.dst = some d := by
      intro l
      induction l with
      | nil => intro _ o ho; cases ho
      | cons x l ih =>
        intro h o ho
        simp only [rowB, Bool.and_eq_true] at h
        rcases List.mem_cons.1 ho with rfl | ho
        · exact ⟨by simpa using h.1.1.1.1, Option.isSome_iff_exists.1 h.1.1.1.2⟩
        · exact ih h.2 o ho
    exact this _ hrow
  have hlt : ∀ o ∈ hd ++ [oa], ∀ d, o.dst = some d → d < m := fun o ho d hdd => by
    have := List.all_eq_true.1 hdz o ho
    rw [hdd] at this
    simpa using this
  intro fuel
  induction fuel with
  | zero =>
    intro L a _ hsz hq hc
    have hqs : hd.length + 1 < L.size := by omega
    have : false ∈ L.toList := by
      have e : L.toList[hd.length + 1]'(by simpa using hqs) = false := by simpa [hqs] using hq
      rw [← e]; exact List.getElem_mem _
    have := List.count_pos_iff.2 this
    omega
  | succ fuel ih =>
    intro L a hI hsz hq hc
    refine ⟨fun h0 => ?_, fun i hi => ?_⟩
    · obtain ⟨i, hi, hp, hj⟩ := least (p := fun j => L.getD j true) hq
      have hin : i < hd.length + 2 := by omega
      have hmem : i ∈ Region.ready .any (hd ++ [oa, os]).toArray L := by
        have hio : i < (hd ++ [oa, os]).length := by simp; omega
        refine mem_ready.2 ⟨hp, (hd ++ [oa, os])[i], by simp, fun e he hb => ?_⟩
        have h1 := List.all_eq_true.1 haf i (List.mem_range.2 hin)
        rw [List.getElem?_eq_getElem hio] at h1
        have h2 := Array.all_eq_true'.1 h1 e he
        rw [hb] at h2
        have h3 : e.on < i := by simpa using h2
        have h4 := hj e.on h3
        have h5 : e.on < L.size := by omega
        simp [h5] at h4 ⊢
        exact h4
      rw [h0] at hmem
      cases hmem
    · obtain ⟨hun, o, hio, haft⟩ := mem_ready.1 hi
      have hio' : (hd ++ [oa, os])[i]? = some o := by simpa using hio
      have hilt : i < hd.length + 2 := by
        have := (List.getElem?_eq_some_iff.1 hio').1
        simpa using this
      have hwait : ∀ j, waitsB o j = true → L.getD j false = true := fun j hj => by
        obtain ⟨e, he, hb, hon⟩ := waitsB_spec hj
        rw [← hon]
        exact haft e he hb
      have hcs := count_step hun
      rcases Nat.lt_or_ge i hd.length with hin | hge
      · -- a read
        have hoh : hd[i]? = some o := by rw [List.getElem?_append_left hin] at hio'; exact hio'
        have hom : o ∈ hd := List.mem_of_getElem? hoh
        obtain ⟨hg, d, hdd⟩ := hguard o (by simp [hom])
        have hev : ∀ x ∈ o.op.operands, a.eval x = aX.eval x := fun x hx => by
          have h1 := List.all_eq_true.1 hrd o hom
          simp only [Bool.and_eq_true] at h1
          have h2 := Array.all_eq_true'.1 h1.1 x hx
          cases x with
          | tmp t =>
            refine hI.eq t fun j o' hj ho' => hwait j ?_
            have hjl : j < (hd ++ [oa]).length := (List.getElem?_eq_some_iff.1 hj).1
            have h3 := List.all_eq_true.1 h2 j (List.mem_range.2 hjl)
            rw [hj] at h3
            simp only [ho', bne_self_eq_false, Bool.false_or] at h3
            exact h3
          | _ => rfl
        have hw : ∀ w, (w = w0 ∨ w = w1) → YieldsAt P (hd ++ [oa, os]).toArray w o (aX.eval (.tmp d)) a := fun w hw => by
          refine yields_congr hg (hselI i o hio') (fun x hx => (hev x hx).symm) ?_
          rcases hw with rfl | rfl
          · exact hr0 o hom d hdd
          · exact hr1 o hom d hdd
        have hne : hd.length ≠ i := by omega
        have hI' := hI.step (i := i) (v := aX.eval (.tmp d)) (by rw [List.getElem?_append_left hin]; exact hoh) hdd (by rw [hI.size, hmz]; exact hlt o (by simp [hom]) d hdd) rfl
        have hrec := ih (L.setIfInBounds i true) (a.put o.dst (aX.eval (.tmp d))) hI' (by simpa using hsz) (by rw [getD_set_ne true (by omega)]; exact hq) (by omega)
        rw [getD_set_ne false (Ne.symm hne)] at hrec
        refine wpOp_of_stOp (K := fun a' => wpAny P .any (hd ++ [oa, os]).toArray Q fuel (L.setIfInBounds i true) a' (if L.getD hd.length false = true then w1 else w0)) (fun _ h => h) ((hw _ ?_).stOp hio hrec)
        split
        · exact .inr rfl
        · exact .inl rfl
      · rcases Nat.lt_or_ge i (hd.length + 1) with hin | hge2
        · -- the allocation
          have hi0 : i = hd.length := by omega
          subst hi0
          have ho : o = oa := by
            have : (hd ++ [oa, os])[hd.length]? = some oa := by simp
            rw [this] at hio'; exact (Option.some.inj hio').symm
          subst ho
          obtain ⟨dp, hdp, hrun⟩ := hal
          have hunf : L.getD hd.length false = false := by
            have hs : hd.length < L.size := by omega
            simp [hs] at hun ⊢
            exact hun
          have hev : execOp a.eval o = execOp aX.eval o := execOp_congr o (hselI _ o hio') (fun x hx => by
            have : o.op.operands = #[] := by simpa using hao
            rw [this] at hx
            simp at hx)
          have hI' := hI.step (i := hd.length) (v := aX.eval (.tmp dp)) (by simp) hdp (by rw [hI.size, hmz]; exact hlt o (by simp) dp hdp) rfl
          have hrec := ih (L.setIfInBounds hd.length true) (a.put o.dst (aX.eval (.tmp dp))) hI' (by simpa using hsz) (by rw [getD_set_ne true (by omega)]; exact hq) (by omega)
          have hset : (L.setIfInBounds hd.length true).getD hd.length false = true := by
            have hs : hd.length < L.size := by omega
            simp [hs]
          rw [if_pos hset] at hrec
          have hg := (hguard o (by simp)).1
          unfold wpOp
          rw [hunf]
          simp only [hio]
          rw [if_pos (by unfold Region.wanted; rw [hg])]
          refine .inl ?_
          unfold Oper.wp
          rw [hev, if_neg (by simp), hrun]
          exact hrec
        · -- the store
          have hi0 : i = hd.length + 1 := by omega
          subst hi0
          have ho : o = os := by
            have : (hd ++ [oa, os])[hd.length + 1]? = some os := by simp
            rw [this] at hio'; exact (Option.some.inj hio').symm
          subst ho
          have hall : ∀ j, j < hd.length + 1 → L.getD j false = true := fun j hj => hwait j (List.all_eq_true.1 hsw j (List.mem_range.2 hj))
          have hax : a = aX := by
            have e : a.tmps = aX.tmps := by
              apply Array.ext hI.size
              intro t h1 h2
              have := hI.eq t (fun j o' hj _ => hall j (by have := (List.getElem?_eq_some_iff.1 hj).1; simpa using this))
              simpa [Act.eval, h1, h2] using this
            have h := hI.defers
            cases a; cases aX
            simp only at e h
            subst e; subst h
            rfl
          subst hax
          rw [if_pos (hall _ (by omega))]
          have hready : Region.ready .any (hd ++ [oa, o]).toArray (L.setIfInBounds (hd.length + 1) true) = [] := by
            rw [List.eq_nil_iff_forall_not_mem]
            intro j hj
            obtain ⟨h1, o', h2, _⟩ := mem_ready.1 hj
            have hjl : j < hd.length + 2 := by have := (Array.getElem?_eq_some_iff.1 h2).1; simpa using this
            have hjs : j < L.size := by omega
            by_cases e : hd.length + 1 = j
            · subst e; simp [hjs] at h1
            · rw [getD_set_ne true e] at h1
              have := hall j (by omega)
              simp [hjs] at h1 this
              rw [h1] at this; cases this
          have hop : wpOp P (hd ++ [oa, o]).toArray Q (hd.length + 1) (wpList P (hd ++ [oa, o]).toArray Q []) a w1 := by
            unfold wpOp
            simp only [hio]
            exact hst
          refine wpOp_mono (fun a' w' h' => ?_) hop
          have h'' : Q .normal a' w' := h'
          cases fuel with
          | zero => exact ⟨hready, h''⟩
          | succ f => exact ⟨fun _ => h'', fun j hj => by rw [hready] at hj; cases hj⟩

theorem rowB_left : ∀ {l : List Oper} {x : Oper}, rowB (l ++ [x]) = true → rowB l = true ∧ (∀ o ∈ l, o.dst ≠ x.dst) ∧ x.dst.isSome = true
  | [], x, h => by
    simp only [List.nil_append, rowB, Bool.and_eq_true] at h
    exact ⟨rfl, (fun o ho => by cases ho), h.1.1.1.2⟩
  | o :: l, x, h => by
    rw [List.cons_append] at h
    simp only [rowB, Bool.and_eq_true] at h
    obtain ⟨⟨⟨⟨h1, h2⟩, h3⟩, h4⟩, h5⟩ := h
    obtain ⟨i1, i2, i3⟩ := rowB_left h5
    refine ⟨?_, fun o' ho' => ?_, i3⟩
    · simp only [rowB, Bool.and_eq_true]
      refine ⟨⟨⟨⟨h1, h2⟩, List.all_eq_true.2 fun o' ho' => List.all_eq_true.1 h3 o' (by simp [ho'])⟩, Array.all_eq_true'.2 fun y hy => ?_⟩, i1⟩
      have := Array.all_eq_true'.1 h4 y hy
      cases y with
      | tmp t => exact List.all_eq_true.2 fun o' ho' => List.all_eq_true.1 this o' (by rcases List.mem_cons.1 ho' with rfl | ho' <;> simp [*])
      | _ => rfl
    · rcases List.mem_cons.1 ho' with rfl | ho'
      · have := List.all_eq_true.1 h3 x (by simp)
        intro e
        rw [e] at this
        simp at this
      · exact i2 o' ho'

/-- The region's law: the reads walked once in the world ahead of the allocation, once in the world behind it; then the store. -/
theorem any_alloc_of {a : Act} {m : Nat} (hm : a.tmps.size = m) (hf : formB hd oa os m = true)
    (h : wpStill P (hd ++ [oa, os]).toArray w0 (fun aF => ∃ dp ptr w1, oa.dst = some dp ∧ (execOp aF.eval oa).run P w0 = .ok (.value ptr) w1 ∧ wpStill P (hd ++ [oa, os]).toArray w1 (fun a1 => a1 = aF) hd a ∧ wpList P (hd ++ [oa, os]).toArray Q [os] (aF.put (some dp) ptr) w1) hd a) :
    wpAny P .any (hd ++ [oa, os]).toArray Q (hd ++ [oa, os]).toArray.size (Array.replicate (hd ++ [oa, os]).toArray.size false) a w0 := by
  have hf0 := hf
  simp only [formB, Bool.and_eq_true] at hf
  obtain ⟨⟨⟨⟨⟨⟨⟨⟨hrow, hsel⟩, hdz⟩, hrd⟩, hao⟩, hsd⟩, hsg⟩, hsw⟩, haf⟩ := hf
  obtain ⟨hrowl, hne, _⟩ := rowB_left hrow
  have hsel' : ∀ o : Oper, o ∈ (hd ++ [oa, os]).toArray.toList → ∀ cs b, o.op ≠ .select cs b := fun o ho cs b => by
    obtain ⟨i, hi, rfl⟩ := List.mem_iff_getElem.1 ho
    exact Region.noSelect_spec hsel i _ cs b (by simp at hi ⊢)
  have hin : ∀ o ∈ hd, o ∈ (hd ++ [oa, os]).toArray.toList := fun o ho => by simp [ho]
  have hz : ∀ o ∈ hd ++ [oa], ∀ d, o.dst = some d → d < a.tmps.size := fun o ho d hdd => by
    have := List.all_eq_true.1 hdz o ho
    rw [hdd] at this
    rw [hm]
    simpa using this
  obtain ⟨aF, ⟨dp, ptr, w1, hdp, hrun, h1, hlist⟩, hF0⟩ := still_fin hsel' hd a hrowl hin (fun o ho => hz o (by simp [ho])) h
  obtain ⟨a1, ha1, hF1⟩ := still_fin hsel' hd a hrowl hin (fun o ho => hz o (by simp [ho])) h1
  subst ha1
  have hself : (a1.put (some dp) ptr).eval (.tmp dp) = ptr := eval_put_self (by rw [hF0.size]; exact hz oa (by simp) dp hdp)
  have hold : ∀ o ∈ hd, ∀ d, o.dst = some d → (a1.put (some dp) ptr).eval (.tmp d) = a1.eval (.tmp d) := fun o ho d hdd => eval_put_ne fun e => hne o ho (by rw [hdd, hdp, e])
  have hops : ∀ o ∈ hd, ∀ x ∈ o.op.operands, a1.eval x = (a1.put (some dp) ptr).eval x := fun o ho x hx => by
    have := List.all_eq_true.1 hrd o ho
    simp only [Bool.and_eq_true] at this
    exact (apart_eval (Array.all_eq_true'.1 this.2 x hx) (by simp) hdp).symm
  have hg : ∀ o ∈ hd, o.guard = none := by
    have : ∀ l : List Oper, rowB l = true → ∀ o ∈ l, o.guard = none := by
      intro l
      induction l with
      | nil => intro _ o ho; cases ho
      | cons x l ih =>
        intro h o ho
        simp only [rowB, Bool.and_eq_true] at h
        rcases List.mem_cons.1 ho with rfl | ho
        · simpa using h.1.1.1.1
        · exact ih h.2 o ho
    exact this _ hrowl
  have hr : ∀ w, Fin' P (hd ++ [oa, os]).toArray w hd a a1 → ∀ o ∈ hd, ∀ d, o.dst = some d → YieldsAt P (hd ++ [oa, os]).toArray w o ((a1.put (some dp) ptr).eval (.tmp d)) (a1.put (some dp) ptr) := fun w hF o ho d hdd => by
    rw [hold o ho d hdd]
    exact yields_congr (hg o ho) (hsel' o (hin o ho)) (hops o ho) (hF.new o ho d hdd)
  have hoa : execOp (a1.put (some dp) ptr).eval oa = execOp a1.eval oa := execOp_congr oa (hsel' oa (by simp)) (fun x hx => by
    have : oa.op.operands = #[] := by simpa using hao
    rw [this] at hx
    simp at hx)
  have := any_alloc (P := P) (Q := Q) (w0 := w0) (w1 := w1) (aX := a1.put (some dp) ptr) hf0 (by rw [size_put, hF0.size, hm]) (hr w0 hF0) (hr w1 hF1) ⟨dp, hdp, by rw [hoa, hself]; exact hrun⟩ hlist
    (hd.length + 2) (Array.replicate (hd.length + 2) false) a ⟨by rw [defers_put]; exact hF0.defers.symm, by rw [size_put]; exact hF0.size.symm, fun t ht => ?_⟩ (by simp) (by simp) (by simp)
  · rw [if_neg (by simp)] at this
    simpa using this
  · have h1 : ∀ (j : Nat) (o : Oper), (hd ++ [oa])[j]? = some o → o.dst ≠ some t := fun j o hj e => by
      have := ht j o hj e
      rw [getD_replicate_false] at this
      cases this
    rw [eval_put_ne (fun e => h1 hd.length oa (by simp) (by rw [hdp, e]))]
    refine (hF0.old t fun o ho => ?_).symm
    obtain ⟨j, hj⟩ := List.mem_iff_getElem?.1 ho
    exact h1 j o (by rw [List.getElem?_append_left (List.getElem?_eq_some_iff.1 hj).1]; exact hj)

end

theorem region_round_alloc {n l id : Nat} {P : Program} {Q : Exit → Act → World → Prop} {a : Act} {w : World} {ol : List Oper} (k m : Nat) {oa os : Oper} (hsplit : ol = ol.take k ++ [oa, os]) (hm : P.follows .mixedOrders = true) (hz : a.tmps.size = m) (hf : formB (ol.take k) oa os m = true) (hd : noDefer ol.toArray = true) (hL : ¬ LetsOut Q)
    (h : wpStill P ol.toArray w.drew (fun aF => ∃ dp ptr w1, oa.dst = some dp ∧ (execOp aF.eval oa).run P w.drew = .ok (.value ptr) w1 ∧ wpStill P ol.toArray w1 (fun a1 => a1 = aF) (ol.take k) a ∧ wpList P ol.toArray Q [os] (aF.put (some dp) ptr) w1) (ol.take k) a) :
    (Code.region id ol.toArray true).wpIn (Fence.wide.inRound l) n P Q a w := by
  refine region_round hm hd hL ?_
  have := any_alloc_of (hd := ol.take k) (oa := oa) (os := os) (Q := Q) (w0 := w.drew) (P := P) (a := a) hz hf (by rw [← hsplit]; exact h)
  rw [← hsplit] at this
  exact this

end Go.Proofs.YtonnaiknlgmejaaGreatDoor

/-
  A region that draws its order, whose operations only read, but for one that turns the world (m[k] op= v: the entry), and, last of all, a store: every order comes to one end. Nothing of the program stands here.
-/
namespace Go.Proofs.YtonnaiknlgmejaaGreatDoor
open Go.RowKit

/-- The form of such a region: all of l reads but the p-th; then the store. -/
def formE (l : List Oper) (p m : Nat) (oa os : Oper) : Bool :=
  rowB (l.eraseIdx p) && Region.noSelect (l ++ [os]).toArray && (l.all fun o => o.guard.isNone && match o.dst with | some d => decide (d < m) | none => false) && (l.all (heedsB l)) &&
  ((l.eraseIdx p).all fun o => o.dst != oa.dst) && os.dst.isNone && os.guard.isNone && ((List.range l.length).all fun i => waitsB os i) &&
  ((List.range (l.length + 1)).all fun i => match (l ++ [os])[i]? with | some o => o.after.all (fun e => !Region.binds .any e || decide (e.on < i)) | none => true)

section
variable {P : Program} {l : List Oper} {oa os : Oper} {p : Nat} {w0 w1 : World} {Q : Exit → Act → World → Prop}

/-- Some operations are listed; what they have written is there. -/
structure InvE (l : List Oper) (L : Array Bool) (a aX : Act) : Prop where
  defers : a.defers = aX.defers
  size : a.tmps.size = aX.tmps.size
  eq : ∀ t, (∀ (j : Nat) (o : Oper), l[j]? = some o → o.dst = some t → L.getD j false = true) → a.eval (.tmp t) = aX.eval (.tmp t)

theorem InvE.step {L : Array Bool} {a aX : Act} {i : Nat} {o : Oper} {d : Nat} {v : Value} (h : InvE l L a aX) (hi : l[i]? = some o) (hdo : o.dst = some d) (hz : d < a.tmps.size) (hv : v = aX.eval (.tmp d)) : InvE l (L.setIfInBounds i true) (a.put o.dst v) aX := by
  subst hv
  refine ⟨defers_put.trans h.defers, size_put.trans h.size, fun t ht => ?_⟩
  rw [hdo]
  by_cases e : d = t
  · subst e
    exact eval_put_self hz
  · rw [eval_put_ne e]
    refine h.eq t fun j o' hj ho' => ?_
    have h1 := ht j o' hj ho'
    by_cases hij : i = j
    · subst hij
      rw [hi] at hj
      cases hj
      rw [hdo] at ho'
      exact absurd (Option.some.inj ho') e
    · rwa [getD_set_ne false hij] at h1

theorem any_entry {aX : Act} {m : Nat} (hf : formE l p m oa os = true) (hp : l[p]? = some oa) (hmz : aX.tmps.size = m)
    (hr : ∀ w, (w = w0 ∨ w = w1) → ∀ (j : Nat) (o : Oper), l[j]? = some o → j ≠ p → ∀ d, o.dst = some d → YieldsAt P (l ++ [os]).toArray w o (aX.eval (.tmp d)) aX)
    (hal : ∃ dp, oa.dst = some dp ∧ (execOp aX.eval oa).run P w0 = .ok (.value (aX.eval (.tmp dp))) w1) (hst : wpList P (l ++ [os]).toArray Q [os] aX w1) :
    ∀ (fuel : Nat) (L : Array Bool) (a : Act), InvE l L a aX → L.size = l.length + 1 → L.getD l.length true = false → L.toList.count false ≤ fuel →
      wpAny P .any (l ++ [os]).toArray Q fuel L a (if L.getD p false = true then w1 else w0) := by
  simp only [formE, Bool.and_eq_true] at hf
  obtain ⟨⟨⟨⟨⟨⟨⟨⟨hrow, hsel⟩, hgd⟩, hrd⟩, hao⟩, hsd⟩, hsg⟩, hsw⟩, haf⟩ := hf
  have hplt : p < l.length := (List.getElem?_eq_some_iff.1 hp).1
  have hselI : ∀ (i : Nat) (o : Oper), (l ++ [os])[i]? = some o → ∀ cs b, o.op ≠ .select cs b := fun i o ho cs b => Region.noSelect_spec hsel i o cs b (by simpa using ho)
  have hguard : ∀ o ∈ l, o.guard = none ∧ ∃ d, o.dst = some d ∧ d < m := fun o ho => by
    have := List.all_eq_true.1 hgd o ho
    simp only [Bool.and_eq_true] at this
    refine ⟨by simpa using this.1, ?_⟩
    cases hd : o.dst with
    | none => rw [hd] at this; simp at this
    | some d => rw [hd] at this; exact ⟨d, rfl, by simpa using this.2⟩
  intro fuel
  induction fuel with
  | zero =>
    intro L a _ hsz hq hc
    have hqs : l.length < L.size := by omega
    have : false ∈ L.toList := by
      have e : L.toList[l.length]'(by simpa using hqs) = false := by simpa [hqs] using hq
      rw [← e]; exact List.getElem_mem _
    have := List.count_pos_iff.2 this
    omega
  | succ fuel ih =>
    intro L a hI hsz hq hc
    refine ⟨fun h0 => ?_, fun i hi => ?_⟩
    · obtain ⟨i, hi, hpi, hj⟩ := least (p := fun j => L.getD j true) hq
      have hin : i < l.length + 1 := by omega
      have hmem : i ∈ Region.ready .any (l ++ [os]).toArray L := by
        have hio : i < (l ++ [os]).length := by simp; omega
        refine mem_ready.2 ⟨hpi, (l ++ [os])[i], by simp, fun e he hb => ?_⟩
        have h1 := List.all_eq_true.1 haf i (List.mem_range.2 hin)
        rw [List.getElem?_eq_getElem hio] at h1
        have h2 := Array.all_eq_true'.1 h1 e he
        rw [hb] at h2
        have h3 : e.on < i := by simpa using h2
        have h4 := hj e.on h3
        have h5 : e.on < L.size := by omega
        simp [h5] at h4 ⊢
        exact h4
      rw [h0] at hmem
      cases hmem
    · obtain ⟨hun, o, hio, haft⟩ := mem_ready.1 hi
      have hio' : (l ++ [os])[i]? = some o := by simpa using hio
      have hilt : i < l.length + 1 := by
        have := (List.getElem?_eq_some_iff.1 hio').1
        simpa using this
      have hwait : ∀ j, waitsB o j = true → L.getD j false = true := fun j hj => by
        obtain ⟨e, he, hb, hon⟩ := waitsB_spec hj
        rw [← hon]
        exact haft e he hb
      have hcs := count_step hun
      rcases Nat.lt_or_ge i l.length with hin | hge
      · have hoh : l[i]? = some o := by rw [List.getElem?_append_left hin] at hio'; exact hio'
        have hom : o ∈ l := List.mem_of_getElem? hoh
        obtain ⟨hg, d, hdd, hdm⟩ := hguard o hom
        have hev : ∀ x ∈ o.op.operands, a.eval x = aX.eval x := fun x hx => by
          have h1 := List.all_eq_true.1 hrd o hom
          have h2 := Array.all_eq_true'.1 h1 x hx
          cases x with
          | tmp t =>
            refine hI.eq t fun j o' hj ho' => hwait j ?_
            have hjl : j < l.length := (List.getElem?_eq_some_iff.1 hj).1
            have h3 := List.all_eq_true.1 h2 j (List.mem_range.2 hjl)
            rw [hj] at h3
            simp only [ho', bne_self_eq_false, Bool.false_or] at h3
            exact h3
          | _ => rfl
        by_cases hip : i = p
        · -- the entry
          subst hip
          have ho : o = oa := by rw [hp] at hoh; exact (Option.some.inj hoh).symm
          subst ho
          obtain ⟨dp, hdp, hrun⟩ := hal
          have hunf : L.getD i false = false := by
            have hs : i < L.size := by omega
            simp [hs] at hun ⊢
            exact hun
          have hevo : execOp a.eval o = execOp aX.eval o := execOp_congr o (hselI _ o hio') hev
          have hI' := hI.step (i := i) (v := aX.eval (.tmp dp)) hoh hdp (by rw [hI.size, hmz]; rw [hdp] at hdd; cases hdd; exact hdm) rfl
          have hrec := ih (L.setIfInBounds i true) (a.put o.dst (aX.eval (.tmp dp))) hI' (by simpa using hsz) (by rw [getD_set_ne true (by omega)]; exact hq) (by omega)
          have hset : (L.setIfInBounds i true).getD i false = true := by
            have hs : i < L.size := by omega
            simp [hs]
          rw [if_pos hset] at hrec
          unfold wpOp
          rw [hunf]
          simp only [hio]
          rw [if_pos (by unfold Region.wanted; rw [hg])]
          refine .inl ?_
          unfold Oper.wp
          rw [hevo, if_neg (by simp), hrun]
          exact hrec
        · -- a read
          have hw : ∀ w, (w = w0 ∨ w = w1) → YieldsAt P (l ++ [os]).toArray w o (aX.eval (.tmp d)) a := fun w hw =>
            yields_congr hg (hselI i o hio') (fun x hx => (hev x hx).symm) (hr w hw i o hoh hip d hdd)
          have hI' := hI.step (i := i) (v := aX.eval (.tmp d)) hoh hdd (by rw [hI.size, hmz]; exact hdm) rfl
          have hrec := ih (L.setIfInBounds i true) (a.put o.dst (aX.eval (.tmp d))) hI' (by simpa using hsz) (by rw [getD_set_ne true (by omega)]; exact hq) (by omega)
          rw [getD_set_ne false hip] at hrec
          refine wpOp_of_stOp (K := fun a' => wpAny P .any (l ++ [os]).toArray Q fuel (L.setIfInBounds i true) a' (if L.getD p false = true then w1 else w0)) (fun _ h => h) ((hw _ ?_).stOp hio hrec)
          split
          · exact .inr rfl
          · exact .inl rfl
      · -- the store
        have hi0 : i = l.length := by omega
        subst hi0
        have ho : o = os := by
          have : (l ++ [os])[l.length]? = some os := by simp
          rw [this] at hio'; exact (Option.some.inj hio').symm
        subst ho
        have hall : ∀ j, j < l.length → L.getD j false = true := fun j hj => hwait j (List.all_eq_true.1 hsw j (List.mem_range.2 hj))
        have hax : a = aX := by
          have e : a.tmps = aX.tmps := by
            apply Array.ext hI.size
            intro t h1 h2
            have := hI.eq t (fun j o' hj _ => hall j (List.getElem?_eq_some_iff.1 hj).1)
            simpa [Act.eval, h1, h2] using this
          have h := hI.defers
          cases a; cases aX
          simp only at e h
          subst e; subst h
          rfl
        subst hax
        rw [if_pos (hall _ hplt)]
        have hready : Region.ready .any (l ++ [o]).toArray (L.setIfInBounds l.length true) = [] := by
          rw [List.eq_nil_iff_forall_not_mem]
          intro j hj
          obtain ⟨h1, o', h2, _⟩ := mem_ready.1 hj
          have hjl : j < l.length + 1 := by have := (Array.getElem?_eq_some_iff.1 h2).1; simpa using this
          have hjs : j < L.size := by omega
          by_cases e : l.length = j
          · subst e; simp [hjs] at h1
          · rw [getD_set_ne true e] at h1
            have := hall j (by omega)
            simp [hjs] at h1 this
            rw [h1] at this; cases this
        have hop : wpOp P (l ++ [o]).toArray Q l.length (wpList P (l ++ [o]).toArray Q []) a w1 := by
          unfold wpOp
          simp only [hio]
          exact hst
        refine wpOp_mono (fun a' w' h' => ?_) hop
        have h'' : Q .normal a' w' := h'
        cases fuel with
        | zero => exact ⟨hready, h''⟩
        | succ f => exact ⟨fun _ => h'', fun j hj => by rw [hready] at hj; cases hj⟩

theorem any_entry_of {a : Act} {m dp : Nat} {v : Value} (hm : a.tmps.size = m) (hf : formE l p m oa os = true) (hp : l[p]? = some oa) (hdp : oa.dst = some dp)
    (h : wpStill P (l ++ [os]).toArray w0 (fun aX => (execOp aX.eval oa).run P w0 = .ok (.value v) w1 ∧ wpStill P (l ++ [os]).toArray w1 (fun a1 => a1 = aX) (l.eraseIdx p) (a.put (some dp) v) ∧ wpList P (l ++ [os]).toArray Q [os] aX w1) (l.eraseIdx p) (a.put (some dp) v)) :
    wpAny P .any (l ++ [os]).toArray Q (l ++ [os]).toArray.size (Array.replicate (l ++ [os]).toArray.size false) a w0 := by
  have hf0 := hf
  simp only [formE, Bool.and_eq_true] at hf
  obtain ⟨⟨⟨⟨⟨⟨⟨⟨hrow, hsel⟩, hgd⟩, hrd⟩, hao⟩, hsd⟩, hsg⟩, hsw⟩, haf⟩ := hf
  have hplt : p < l.length := (List.getElem?_eq_some_iff.1 hp).1
  have hsel' : ∀ o : Oper, o ∈ (l ++ [os]).toArray.toList → ∀ cs b, o.op ≠ .select cs b := fun o ho cs b => by
    obtain ⟨i, hi, rfl⟩ := List.mem_iff_getElem.1 ho
    exact Region.noSelect_spec hsel i _ cs b (by simp at hi ⊢)
  have hsub : ∀ o ∈ l.eraseIdx p, o ∈ l := fun o ho => List.mem_of_mem_eraseIdx ho
  have hin : ∀ o ∈ l.eraseIdx p, o ∈ (l ++ [os]).toArray.toList := fun o ho => by simp [hsub o ho]
  have hz : ∀ o ∈ l, ∀ d, o.dst = some d → d < a.tmps.size := fun o ho d hdd => by
    have := List.all_eq_true.1 hgd o ho
    simp only [Bool.and_eq_true] at this
    rw [hdd] at this
    rw [hm]
    simpa using this.2
  have hoal : oa ∈ l := List.mem_of_getElem? hp
  have hz0 : ∀ o ∈ l.eraseIdx p, ∀ d, o.dst = some d → d < (a.put (some dp) v).tmps.size := fun o ho d hdd => by rw [size_put]; exact hz o (hsub o ho) d hdd
  obtain ⟨aX, ⟨hrun, h1, hlist⟩, hF0⟩ := still_fin hsel' (l.eraseIdx p) _ hrow hin hz0 h
  obtain ⟨a1, ha1, hF1⟩ := still_fin hsel' (l.eraseIdx p) _ hrow hin hz0 h1
  subst ha1
  have hself : a1.eval (.tmp dp) = v := by
    rw [hF0.old dp fun o ho e => ?_]
    · exact eval_put_self (hz oa hoal dp hdp)
    · have := List.all_eq_true.1 hao o ho
      rw [e, hdp] at this
      simp at this
  have hmemE : ∀ (j : Nat) (o : Oper), l[j]? = some o → j ≠ p → o ∈ l.eraseIdx p := fun j o hj hne => List.mem_eraseIdx_iff_getElem?.2 ⟨j, hne, hj⟩
  have := any_entry (P := P) (Q := Q) (w0 := w0) (w1 := w1) (aX := a1) hf0 hp (by rw [hF0.size, size_put, hm])
    (fun w hw j o hj hne d hdd => by
      rcases hw with rfl | rfl
      · exact hF0.new o (hmemE j o hj hne) d hdd
      · exact hF1.new o (hmemE j o hj hne) d hdd)
    ⟨dp, hdp, by rw [hself]; exact hrun⟩ hlist
    (l.length + 1) (Array.replicate (l.length + 1) false) a ⟨(hF0.defers.trans defers_put).symm, (hF0.size.trans size_put).symm, fun t ht => ?_⟩ (by simp) (by simp) (by simp)
  · rw [if_neg (by rw [getD_replicate_false]; exact Bool.false_ne_true)] at this
    simpa using this
  · have h1 : ∀ (j : Nat) (o : Oper), l[j]? = some o → o.dst ≠ some t := fun j o hj e => by
      have := ht j o hj e
      rw [getD_replicate_false] at this
      cases this
    have hne : dp ≠ t := fun e => h1 p oa hp (by rw [hdp, e])
    rw [hF0.old t fun o ho => ?_, eval_put_ne hne]
    obtain ⟨j, _, hj⟩ := List.mem_eraseIdx_iff_getElem?.1 ho
    exact h1 j o hj

end

theorem region_round_entry {n l id : Nat} {P : Program} {Q : Exit → Act → World → Prop} {a : Act} {w : World} {ol : List Oper} (k p m : Nat) {oa os : Oper} {dp : Nat} (v : Value) (w1 : World) (hsplit : ol = ol.take k ++ [os]) (hm : P.follows .mixedOrders = true) (hz : a.tmps.size = m) (hf : formE (ol.take k) p m oa os = true) (hp : (ol.take k)[p]? = some oa) (hdp : oa.dst = some dp) (hd : noDefer ol.toArray = true) (hL : ¬ LetsOut Q)
    (h : wpStill P ol.toArray w.drew (fun aX => (execOp aX.eval oa).run P w.drew = .ok (.value v) w1 ∧ wpStill P ol.toArray w1 (fun a1 => a1 = aX) ((ol.take k).eraseIdx p) (a.put (some dp) v) ∧ wpList P ol.toArray Q [os] aX w1) ((ol.take k).eraseIdx p) (a.put (some dp) v)) :
    (Code.region id ol.toArray true).wpIn (Fence.wide.inRound l) n P Q a w := by
  refine region_round hm hd hL ?_
  have := any_entry_of (l := ol.take k) (p := p) (oa := oa) (os := os) (Q := Q) (w0 := w.drew) (w1 := w1) (P := P) (a := a) (v := v) hz hf hp hdp (by rw [← hsplit]; exact h)
  rw [← hsplit] at this
  exact this

end Go.Proofs.YtonnaiknlgmejaaGreatDoor
