/-
  NARROWER THAN 'FOR EVERY INPUT', by the rows' own cells (each row's printed sentence says how): HallMatchesReference: loops · HallNotBoth: loops.
  DERIVED. THE GIVEN ROWS OF THIS SEAT. 7 by the template 'for every input the law returns true; each argument reads behind the call as it read before'; 0 by the template 'total and deterministic' (their statements: YtoijfnfgpnanjaaGreatTotals.lean).
  GIVEN WITH THE SEED: the statements are not yours to turn. If you find one false, say at which input.
  Laid BY PROGRAM, IN A SANDBOX (cutbox-rows.mjs): the forced cells as the released guide's own fill.sh prints them over the translation ecdf7c965ad3fc92… (all of the seat's roots in one cut). By AI agents, Wed Nov 11 2026. No macro, syntax, notation, axiom, sorry.
-/
import Derived.Test.YtoijfnfgpnanjaaGreatChecked
import GoSem.Claim
import GoSem.ClaimJoined
import GoSem.ClaimMapViews
import Derived.JoinedTies
import Derived.KernelRfl
namespace Go.Proofs.YtoijfnfgpnanjaaGreat
/- THE CELL 'sum', in the pinned program and in every row, IS THE sha256 OF THE DUMP (.gsa) THAT YtoijfnfgpnanjaaGreatProg.lean LOADS. Nothing in Lean hashes anything: it is a label: what it is worth is what the hold of that sum in a sandbox is worth. -/
noncomputable def Tryz.pinned : Pinned := { name := "ytoijfnfgpnanjaagreat", sum := "ecdf7c965ad3fc928e190eda3f2158e76257052b82f028c1e1825d85ec3686dd", checked := Tryz.checked }
namespace Rows
def none {H : Type} : Left H := { results := [], args := [] }

/-- 'innkeeperlaw19.HallMatchesReference': WHATEVER THE INPUT: true; the input reads as it did. -/
def hallMatchesReferenceSpec : ChangeSpec := { name := "hallMatchesReference", fn := fun _ => fun
  | [d1, d2, d3, d4] => { results := [.lit (.bool true)], args := [d1, d2, d3, d4] }
  | _ => none }
def hallMatchesReferenceRow : OpenClaim := { program := "ytoijfnfgpnanjaagreat", sum := "ecdf7c965ad3fc928e190eda3f2158e76257052b82f028c1e1825d85ec3686dd", func := "innkeeper/innkeeperlaw19.HallMatchesReference", spec := "hallMatchesReference", inPlace := ["maps.clone"], unfollowed := true, recurses := true, loops := true, plainKeys := false, apart := false }
def HallMatchesReferenceSaid : Prop := hallMatchesReferenceRow.holds Tryz.pinned (OpenSpec.ofChange hallMatchesReferenceSpec)

/-- ITS FALSE NEIGHBOUR: 'it returns false'. Refute it at one input. -/
def hallMatchesReferenceWrong : ChangeSpec := { name := "hallMatchesReference", fn := fun _ => fun
  | [d1, d2, d3, d4] => { results := [.lit (.bool false)], args := [d1, d2, d3, d4] }
  | _ => none }
def HallMatchesReferenceWrongFalsely : Prop := hallMatchesReferenceRow.holds Tryz.pinned (OpenSpec.ofChange hallMatchesReferenceWrong)

/-- 'innkeeperlaw19.HallMatches': WHATEVER THE INPUT: true; the input reads as it did. -/
def hallMatchesSpec : ChangeSpec := { name := "hallMatches", fn := fun _ => fun
  | [d1, d2, d3] => { results := [.lit (.bool true)], args := [d1, d2, d3] }
  | _ => none }
def hallMatchesRow : OpenClaim := { program := "ytoijfnfgpnanjaagreat", sum := "ecdf7c965ad3fc928e190eda3f2158e76257052b82f028c1e1825d85ec3686dd", func := "innkeeper/innkeeperlaw19.HallMatches", spec := "hallMatches", inPlace := ["maps.clone"], unfollowed := true, recurses := true, plainKeys := false, apart := false }
def HallMatchesSaid : Prop := hallMatchesRow.holds Tryz.pinned (OpenSpec.ofChange hallMatchesSpec)

/-- ITS FALSE NEIGHBOUR: 'it returns false'. Refute it at one input. -/
def hallMatchesWrong : ChangeSpec := { name := "hallMatches", fn := fun _ => fun
  | [d1, d2, d3] => { results := [.lit (.bool false)], args := [d1, d2, d3] }
  | _ => none }
def HallMatchesWrongFalsely : Prop := hallMatchesRow.holds Tryz.pinned (OpenSpec.ofChange hallMatchesWrong)

/-- 'innkeeperlaw19.HallRefuses': WHATEVER THE INPUT: true; the input reads as it did. -/
def hallRefusesSpec : ChangeSpec := { name := "hallRefuses", fn := fun _ => fun
  | [d1, d2, d3, d4] => { results := [.lit (.bool true)], args := [d1, d2, d3, d4] }
  | _ => none }
def hallRefusesRow : OpenClaim := { program := "ytoijfnfgpnanjaagreat", sum := "ecdf7c965ad3fc928e190eda3f2158e76257052b82f028c1e1825d85ec3686dd", func := "innkeeper/innkeeperlaw19.HallRefuses", spec := "hallRefuses", inPlace := ["maps.clone"], unfollowed := true, recurses := true, plainKeys := false, apart := false }
def HallRefusesSaid : Prop := hallRefusesRow.holds Tryz.pinned (OpenSpec.ofChange hallRefusesSpec)

/-- ITS FALSE NEIGHBOUR: 'it returns false'. Refute it at one input. -/
def hallRefusesWrong : ChangeSpec := { name := "hallRefuses", fn := fun _ => fun
  | [d1, d2, d3, d4] => { results := [.lit (.bool false)], args := [d1, d2, d3, d4] }
  | _ => none }
def HallRefusesWrongFalsely : Prop := hallRefusesRow.holds Tryz.pinned (OpenSpec.ofChange hallRefusesWrong)

/-- 'innkeeperlaw19.HallNotBoth': WHATEVER THE INPUT: true; the input reads as it did. -/
def hallNotBothSpec : ChangeSpec := { name := "hallNotBoth", fn := fun _ => fun
  | [d1, d2, d3] => { results := [.lit (.bool true)], args := [d1, d2, d3] }
  | _ => none }
def hallNotBothRow : OpenClaim := { program := "ytoijfnfgpnanjaagreat", sum := "ecdf7c965ad3fc928e190eda3f2158e76257052b82f028c1e1825d85ec3686dd", func := "innkeeper/innkeeperlaw19.HallNotBoth", spec := "hallNotBoth", inPlace := ["maps.clone"], unfollowed := true, recurses := true, loops := true, plainKeys := false, apart := false }
def HallNotBothSaid : Prop := hallNotBothRow.holds Tryz.pinned (OpenSpec.ofChange hallNotBothSpec)

/-- ITS FALSE NEIGHBOUR: 'it returns false'. Refute it at one input. -/
def hallNotBothWrong : ChangeSpec := { name := "hallNotBoth", fn := fun _ => fun
  | [d1, d2, d3] => { results := [.lit (.bool false)], args := [d1, d2, d3] }
  | _ => none }
def HallNotBothWrongFalsely : Prop := hallNotBothRow.holds Tryz.pinned (OpenSpec.ofChange hallNotBothWrong)

/-- 'innkeeperlaw19.HallFirst': WHATEVER THE INPUT: true; the input reads as it did. -/
def hallFirstSpec : ChangeSpec := { name := "hallFirst", fn := fun _ => fun
  | [d1, d2, d3, d4] => { results := [.lit (.bool true)], args := [d1, d2, d3, d4] }
  | _ => none }
def hallFirstRow : OpenClaim := { program := "ytoijfnfgpnanjaagreat", sum := "ecdf7c965ad3fc928e190eda3f2158e76257052b82f028c1e1825d85ec3686dd", func := "innkeeper/innkeeperlaw19.HallFirst", spec := "hallFirst", inPlace := ["maps.clone"], unfollowed := true, recurses := true, plainKeys := false, apart := false }
def HallFirstSaid : Prop := hallFirstRow.holds Tryz.pinned (OpenSpec.ofChange hallFirstSpec)

/-- ITS FALSE NEIGHBOUR: 'it returns false'. Refute it at one input. -/
def hallFirstWrong : ChangeSpec := { name := "hallFirst", fn := fun _ => fun
  | [d1, d2, d3, d4] => { results := [.lit (.bool false)], args := [d1, d2, d3, d4] }
  | _ => none }
def HallFirstWrongFalsely : Prop := hallFirstRow.holds Tryz.pinned (OpenSpec.ofChange hallFirstWrong)

/-- 'innkeeperlaw19.HallFewer': WHATEVER THE INPUT: true; the input reads as it did. -/
def hallFewerSpec : ChangeSpec := { name := "hallFewer", fn := fun _ => fun
  | [d1, d2, d3, d4, d5] => { results := [.lit (.bool true)], args := [d1, d2, d3, d4, d5] }
  | _ => none }
def hallFewerRow : OpenClaim := { program := "ytoijfnfgpnanjaagreat", sum := "ecdf7c965ad3fc928e190eda3f2158e76257052b82f028c1e1825d85ec3686dd", func := "innkeeper/innkeeperlaw19.HallFewer", spec := "hallFewer", inPlace := ["maps.clone"], unfollowed := true, recurses := true, plainKeys := false, apart := false }
def HallFewerSaid : Prop := hallFewerRow.holds Tryz.pinned (OpenSpec.ofChange hallFewerSpec)

/-- ITS FALSE NEIGHBOUR: 'it returns false'. Refute it at one input. -/
def hallFewerWrong : ChangeSpec := { name := "hallFewer", fn := fun _ => fun
  | [d1, d2, d3, d4, d5] => { results := [.lit (.bool false)], args := [d1, d2, d3, d4, d5] }
  | _ => none }
def HallFewerWrongFalsely : Prop := hallFewerRow.holds Tryz.pinned (OpenSpec.ofChange hallFewerWrong)

/-- 'innkeeperlaw19.HallEqual': WHATEVER THE INPUT: true; the input reads as it did. -/
def hallEqualSpec : ChangeSpec := { name := "hallEqual", fn := fun _ => fun
  | [d1, d2, d3, d4, d5] => { results := [.lit (.bool true)], args := [d1, d2, d3, d4, d5] }
  | _ => none }
def hallEqualRow : OpenClaim := { program := "ytoijfnfgpnanjaagreat", sum := "ecdf7c965ad3fc928e190eda3f2158e76257052b82f028c1e1825d85ec3686dd", func := "innkeeper/innkeeperlaw19.HallEqual", spec := "hallEqual", inPlace := ["maps.clone"], unfollowed := true, recurses := true, plainKeys := false, apart := false }
def HallEqualSaid : Prop := hallEqualRow.holds Tryz.pinned (OpenSpec.ofChange hallEqualSpec)

/-- ITS FALSE NEIGHBOUR: 'it returns false'. Refute it at one input. -/
def hallEqualWrong : ChangeSpec := { name := "hallEqual", fn := fun _ => fun
  | [d1, d2, d3, d4, d5] => { results := [.lit (.bool false)], args := [d1, d2, d3, d4, d5] }
  | _ => none }
def HallEqualWrongFalsely : Prop := hallEqualRow.holds Tryz.pinned (OpenSpec.ofChange hallEqualWrong)

/- THE SECOND FORM. 'bulk': how many values and letters a reading holds, each counted each time it is reached (what is shared counts as often as it is met; a slice's spare places count too). A statement '..UptoSaid' is the law's where the arguments, and the package variables that the reading takes, are together of bulk at most 1048576: NARROWER than '..Said'. Prove '..Said' where nothing that the law and all that it calls make is longer than what came in: it says more and counts as full. Else prove '..UptoSaid'. A law counts once. -/
mutual
def uptoBulk {H : Type} : DataW H → Nat
  | .lit (.string bytes) => bytes.length + 1
  | .lit _ => 1
  | .nil => 1
  | .ptr d => uptoBulk d + 1
  | .slice elems spare => uptoBulkAll elems + uptoBulkAll spare + 1
  | .agg parts => uptoBulkAll parts + 1
  | .iface _ d => uptoBulk d + 1
  | .map entries => uptoBulkEntries entries + 1
  | .held _ => 1
def uptoBulkAll {H : Type} : List (DataW H) → Nat
  | [] => 0
  | d :: r => uptoBulk d + uptoBulkAll r
def uptoBulkEntries {H : Type} : List (Lit × DataW H) → Nat
  | [] => 0
  | x :: r => uptoBulkEntry x + uptoBulkEntries r
def uptoBulkEntry {H : Type} : Lit × DataW H → Nat
  | (.string bytes, d) => bytes.length + uptoBulk d + 1
  | (_, d) => uptoBulk d + 1
 end
def uptoSmall : (H : Type) → List (DataW H) → Bool := fun _ ds => decide (uptoBulkAll ds ≤ 1048576)
def OpenSpec.upto (s : _root_.Go.ChangeSpec) : _root_.Go.OpenSpec := { _root_.Go.OpenSpec.ofChange s with cond := some uptoSmall }

/-- 'innkeeperlaw19.HallMatchesReference', WHERE WHAT IT READS IS OF BULK AT MOST 1048576: true; the input reads as it did. -/
def hallMatchesReferenceUptoRow : OpenClaim := { program := "ytoijfnfgpnanjaagreat", sum := "ecdf7c965ad3fc928e190eda3f2158e76257052b82f028c1e1825d85ec3686dd", func := "innkeeper/innkeeperlaw19.HallMatchesReference", spec := "hallMatchesReference", inPlace := ["maps.clone"], unfollowed := true, recurses := true, loops := true, plainKeys := false, apart := false, narrowed := true }
def HallMatchesReferenceUptoSaid : Prop := hallMatchesReferenceUptoRow.holds Tryz.pinned (OpenSpec.upto hallMatchesReferenceSpec)

/-- 'innkeeperlaw19.HallMatches', WHERE WHAT IT READS IS OF BULK AT MOST 1048576: true; the input reads as it did. -/
def hallMatchesUptoRow : OpenClaim := { program := "ytoijfnfgpnanjaagreat", sum := "ecdf7c965ad3fc928e190eda3f2158e76257052b82f028c1e1825d85ec3686dd", func := "innkeeper/innkeeperlaw19.HallMatches", spec := "hallMatches", inPlace := ["maps.clone"], unfollowed := true, recurses := true, plainKeys := false, apart := false, narrowed := true }
def HallMatchesUptoSaid : Prop := hallMatchesUptoRow.holds Tryz.pinned (OpenSpec.upto hallMatchesSpec)

/-- 'innkeeperlaw19.HallRefuses', WHERE WHAT IT READS IS OF BULK AT MOST 1048576: true; the input reads as it did. -/
def hallRefusesUptoRow : OpenClaim := { program := "ytoijfnfgpnanjaagreat", sum := "ecdf7c965ad3fc928e190eda3f2158e76257052b82f028c1e1825d85ec3686dd", func := "innkeeper/innkeeperlaw19.HallRefuses", spec := "hallRefuses", inPlace := ["maps.clone"], unfollowed := true, recurses := true, plainKeys := false, apart := false, narrowed := true }
def HallRefusesUptoSaid : Prop := hallRefusesUptoRow.holds Tryz.pinned (OpenSpec.upto hallRefusesSpec)

/-- 'innkeeperlaw19.HallNotBoth', WHERE WHAT IT READS IS OF BULK AT MOST 1048576: true; the input reads as it did. -/
def hallNotBothUptoRow : OpenClaim := { program := "ytoijfnfgpnanjaagreat", sum := "ecdf7c965ad3fc928e190eda3f2158e76257052b82f028c1e1825d85ec3686dd", func := "innkeeper/innkeeperlaw19.HallNotBoth", spec := "hallNotBoth", inPlace := ["maps.clone"], unfollowed := true, recurses := true, loops := true, plainKeys := false, apart := false, narrowed := true }
def HallNotBothUptoSaid : Prop := hallNotBothUptoRow.holds Tryz.pinned (OpenSpec.upto hallNotBothSpec)

/-- 'innkeeperlaw19.HallFirst', WHERE WHAT IT READS IS OF BULK AT MOST 1048576: true; the input reads as it did. -/
def hallFirstUptoRow : OpenClaim := { program := "ytoijfnfgpnanjaagreat", sum := "ecdf7c965ad3fc928e190eda3f2158e76257052b82f028c1e1825d85ec3686dd", func := "innkeeper/innkeeperlaw19.HallFirst", spec := "hallFirst", inPlace := ["maps.clone"], unfollowed := true, recurses := true, plainKeys := false, apart := false, narrowed := true }
def HallFirstUptoSaid : Prop := hallFirstUptoRow.holds Tryz.pinned (OpenSpec.upto hallFirstSpec)

/-- 'innkeeperlaw19.HallFewer', WHERE WHAT IT READS IS OF BULK AT MOST 1048576: true; the input reads as it did. -/
def hallFewerUptoRow : OpenClaim := { program := "ytoijfnfgpnanjaagreat", sum := "ecdf7c965ad3fc928e190eda3f2158e76257052b82f028c1e1825d85ec3686dd", func := "innkeeper/innkeeperlaw19.HallFewer", spec := "hallFewer", inPlace := ["maps.clone"], unfollowed := true, recurses := true, plainKeys := false, apart := false, narrowed := true }
def HallFewerUptoSaid : Prop := hallFewerUptoRow.holds Tryz.pinned (OpenSpec.upto hallFewerSpec)

/-- 'innkeeperlaw19.HallEqual', WHERE WHAT IT READS IS OF BULK AT MOST 1048576: true; the input reads as it did. -/
def hallEqualUptoRow : OpenClaim := { program := "ytoijfnfgpnanjaagreat", sum := "ecdf7c965ad3fc928e190eda3f2158e76257052b82f028c1e1825d85ec3686dd", func := "innkeeper/innkeeperlaw19.HallEqual", spec := "hallEqual", inPlace := ["maps.clone"], unfollowed := true, recurses := true, plainKeys := false, apart := false, narrowed := true }
def HallEqualUptoSaid : Prop := hallEqualUptoRow.holds Tryz.pinned (OpenSpec.upto hallEqualSpec)

end Rows
end Go.Proofs.YtoijfnfgpnanjaaGreat
