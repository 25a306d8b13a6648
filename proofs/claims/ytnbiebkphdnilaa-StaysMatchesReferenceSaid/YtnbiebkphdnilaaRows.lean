/-
  No cell of these rows narrows 'for every input' (looked for: loops, veiled, ifaces, maps, wideKeys, modest, calm, conditions, laid).
  DERIVED. THE GIVEN ROWS OF THIS SEAT. 5 by the template 'for every input the law returns true; each argument reads behind the call as it read before'; 0 by the template 'total and deterministic' (their statements: YtnbiebkphdnilaaTotals.lean).
  GIVEN WITH THE SEED: the statements are not yours to turn. If you find one false, say at which input.
  Laid BY PROGRAM, IN A SANDBOX (cutbox-rows.mjs): the forced cells as the released guide's own fill.sh prints them over the translation 5cde047430712ab3… (all of the seat's roots in one cut). By AI agents, Wed Nov 11 2026. No macro, syntax, notation, axiom, sorry.
-/
import Derived.Test.YtnbiebkphdnilaaChecked
import GoSem.Claim
import GoSem.ClaimJoined
import GoSem.ClaimMapViews
import Derived.JoinedTies
import Derived.KernelRfl
namespace Go.Proofs.Ytnbiebkphdnilaa
/- THE CELL 'sum', in the pinned program and in every row, IS THE sha256 OF THE DUMP (.gsa) THAT YtnbiebkphdnilaaProg.lean LOADS. Nothing in Lean hashes anything: it is a label: what it is worth is what the hold of that sum in a sandbox is worth. -/
noncomputable def Try.pinned : Pinned := { name := "ytnbiebkphdnilaa", sum := "5cde047430712ab3d79d3042cf8613fbd4c24922d47be84b9b2d57d1c3ac5f42", checked := Try.checked }
namespace Rows
def none {H : Type} : Left H := { results := [], args := [] }

/-- 'innkeeperlaw17.StaysMatchesReference': WHATEVER THE INPUT: true; the input reads as it did. -/
def staysMatchesReferenceSpec : ChangeSpec := { name := "staysMatchesReference", fn := fun _ => fun
  | [d1, d2, d3, d4, d5] => { results := [.lit (.bool true)], args := [d1, d2, d3, d4, d5] }
  | _ => none }
def staysMatchesReferenceRow : OpenClaim := { program := "ytnbiebkphdnilaa", sum := "5cde047430712ab3d79d3042cf8613fbd4c24922d47be84b9b2d57d1c3ac5f42", func := "innkeeper/innkeeperlaw17.StaysMatchesReference", spec := "staysMatchesReference", unfollowed := true, recurses := true, plainKeys := false, apart := false }
def StaysMatchesReferenceSaid : Prop := staysMatchesReferenceRow.holds Try.pinned (OpenSpec.ofChange staysMatchesReferenceSpec)

/-- ITS FALSE NEIGHBOUR: 'it returns false'. Refute it at one input. -/
def staysMatchesReferenceWrong : ChangeSpec := { name := "staysMatchesReference", fn := fun _ => fun
  | [d1, d2, d3, d4, d5] => { results := [.lit (.bool false)], args := [d1, d2, d3, d4, d5] }
  | _ => none }
def StaysMatchesReferenceWrongFalsely : Prop := staysMatchesReferenceRow.holds Try.pinned (OpenSpec.ofChange staysMatchesReferenceWrong)

/-- 'innkeeperlaw17.StaysClash': WHATEVER THE INPUT: true; the input reads as it did. -/
def staysClashSpec : ChangeSpec := { name := "staysClash", fn := fun _ => fun
  | [d] => { results := [.lit (.bool true)], args := [d] }
  | _ => none }
def staysClashRow : OpenClaim := { program := "ytnbiebkphdnilaa", sum := "5cde047430712ab3d79d3042cf8613fbd4c24922d47be84b9b2d57d1c3ac5f42", func := "innkeeper/innkeeperlaw17.StaysClash", spec := "staysClash", unfollowed := true, recurses := true, plainKeys := false, apart := false }
def StaysClashSaid : Prop := staysClashRow.holds Try.pinned (OpenSpec.ofChange staysClashSpec)

/-- ITS FALSE NEIGHBOUR: 'it returns false'. Refute it at one input. -/
def staysClashWrong : ChangeSpec := { name := "staysClash", fn := fun _ => fun
  | [d] => { results := [.lit (.bool false)], args := [d] }
  | _ => none }
def StaysClashWrongFalsely : Prop := staysClashRow.holds Try.pinned (OpenSpec.ofChange staysClashWrong)

/-- 'innkeeperlaw17.StaysOn': WHATEVER THE INPUT: true; the input reads as it did. -/
def staysOnSpec : ChangeSpec := { name := "staysOn", fn := fun _ => fun
  | [d1, d2] => { results := [.lit (.bool true)], args := [d1, d2] }
  | _ => none }
def staysOnRow : OpenClaim := { program := "ytnbiebkphdnilaa", sum := "5cde047430712ab3d79d3042cf8613fbd4c24922d47be84b9b2d57d1c3ac5f42", func := "innkeeper/innkeeperlaw17.StaysOn", spec := "staysOn", unfollowed := true, recurses := true, plainKeys := false, apart := false }
def StaysOnSaid : Prop := staysOnRow.holds Try.pinned (OpenSpec.ofChange staysOnSpec)

/-- ITS FALSE NEIGHBOUR: 'it returns false'. Refute it at one input. -/
def staysOnWrong : ChangeSpec := { name := "staysOn", fn := fun _ => fun
  | [d1, d2] => { results := [.lit (.bool false)], args := [d1, d2] }
  | _ => none }
def StaysOnWrongFalsely : Prop := staysOnRow.holds Try.pinned (OpenSpec.ofChange staysOnWrong)

/-- 'innkeeperlaw17.StaysPlaced': WHATEVER THE INPUT: true; the input reads as it did. -/
def staysPlacedSpec : ChangeSpec := { name := "staysPlaced", fn := fun _ => fun
  | [d1, d2, d3] => { results := [.lit (.bool true)], args := [d1, d2, d3] }
  | _ => none }
def staysPlacedRow : OpenClaim := { program := "ytnbiebkphdnilaa", sum := "5cde047430712ab3d79d3042cf8613fbd4c24922d47be84b9b2d57d1c3ac5f42", func := "innkeeper/innkeeperlaw17.StaysPlaced", spec := "staysPlaced", unfollowed := true, recurses := true, plainKeys := false, apart := false }
def StaysPlacedSaid : Prop := staysPlacedRow.holds Try.pinned (OpenSpec.ofChange staysPlacedSpec)

/-- ITS FALSE NEIGHBOUR: 'it returns false'. Refute it at one input. -/
def staysPlacedWrong : ChangeSpec := { name := "staysPlaced", fn := fun _ => fun
  | [d1, d2, d3] => { results := [.lit (.bool false)], args := [d1, d2, d3] }
  | _ => none }
def StaysPlacedWrongFalsely : Prop := staysPlacedRow.holds Try.pinned (OpenSpec.ofChange staysPlacedWrong)

/-- 'innkeeperlaw17.StaysFewer': WHATEVER THE INPUT: true; the input reads as it did. -/
def staysFewerSpec : ChangeSpec := { name := "staysFewer", fn := fun _ => fun
  | [d1, d2, d3] => { results := [.lit (.bool true)], args := [d1, d2, d3] }
  | _ => none }
def staysFewerRow : OpenClaim := { program := "ytnbiebkphdnilaa", sum := "5cde047430712ab3d79d3042cf8613fbd4c24922d47be84b9b2d57d1c3ac5f42", func := "innkeeper/innkeeperlaw17.StaysFewer", spec := "staysFewer", unfollowed := true, recurses := true, plainKeys := false, apart := false }
def StaysFewerSaid : Prop := staysFewerRow.holds Try.pinned (OpenSpec.ofChange staysFewerSpec)

/-- ITS FALSE NEIGHBOUR: 'it returns false'. Refute it at one input. -/
def staysFewerWrong : ChangeSpec := { name := "staysFewer", fn := fun _ => fun
  | [d1, d2, d3] => { results := [.lit (.bool false)], args := [d1, d2, d3] }
  | _ => none }
def StaysFewerWrongFalsely : Prop := staysFewerRow.holds Try.pinned (OpenSpec.ofChange staysFewerWrong)

/- THE SECOND FORM. 'bulk': how many values and letters a reading holds, each counted each time it is reached (what is shared counts as often as it is met; a slice's spare places count too). A statement '..UptoSaid' is the law's where the arguments, and the package variables that the reading takes, are together of bulk at most 1048576: NARROWER than '..Said'. Prove '..Said' where nothing that the law and all that it calls make is longer than what came in: it says more and counts as full. Else prove '..UptoSaid'. A law counts once. -/
mutual
def uptoBulk {H : Type} : DataW H → Nat
  | .lit (.string bytes) => bytes.length + 1
  | .lit _ => 1
  | .nil => 1
  | .ptr d => uptoBulk d + 1
  | .slice elems spare => uptoBulkAll elems + uptoBulkAll spare + 1
  | .agg parts => uptoBulkAll parts + 1
  | .iface _ d => uptoBulk d + 1
  | .map entries => uptoBulkEntries entries + 1
  | .held _ => 1
def uptoBulkAll {H : Type} : List (DataW H) → Nat
  | [] => 0
  | d :: r => uptoBulk d + uptoBulkAll r
def uptoBulkEntries {H : Type} : List (Lit × DataW H) → Nat
  | [] => 0
  | x :: r => uptoBulkEntry x + uptoBulkEntries r
def uptoBulkEntry {H : Type} : Lit × DataW H → Nat
  | (.string bytes, d) => bytes.length + uptoBulk d + 1
  | (_, d) => uptoBulk d + 1
 end
def uptoSmall : (H : Type) → List (DataW H) → Bool := fun _ ds => decide (uptoBulkAll ds ≤ 1048576)
def OpenSpec.upto (s : _root_.Go.ChangeSpec) : _root_.Go.OpenSpec := { _root_.Go.OpenSpec.ofChange s with cond := some uptoSmall }

/-- 'innkeeperlaw17.StaysMatchesReference', WHERE WHAT IT READS IS OF BULK AT MOST 1048576: true; the input reads as it did. -/
def staysMatchesReferenceUptoRow : OpenClaim := { program := "ytnbiebkphdnilaa", sum := "5cde047430712ab3d79d3042cf8613fbd4c24922d47be84b9b2d57d1c3ac5f42", func := "innkeeper/innkeeperlaw17.StaysMatchesReference", spec := "staysMatchesReference", unfollowed := true, recurses := true, plainKeys := false, apart := false, narrowed := true }
def StaysMatchesReferenceUptoSaid : Prop := staysMatchesReferenceUptoRow.holds Try.pinned (OpenSpec.upto staysMatchesReferenceSpec)

/-- 'innkeeperlaw17.StaysClash', WHERE WHAT IT READS IS OF BULK AT MOST 1048576: true; the input reads as it did. -/
def staysClashUptoRow : OpenClaim := { program := "ytnbiebkphdnilaa", sum := "5cde047430712ab3d79d3042cf8613fbd4c24922d47be84b9b2d57d1c3ac5f42", func := "innkeeper/innkeeperlaw17.StaysClash", spec := "staysClash", unfollowed := true, recurses := true, plainKeys := false, apart := false, narrowed := true }
def StaysClashUptoSaid : Prop := staysClashUptoRow.holds Try.pinned (OpenSpec.upto staysClashSpec)

/-- 'innkeeperlaw17.StaysOn', WHERE WHAT IT READS IS OF BULK AT MOST 1048576: true; the input reads as it did. -/
def staysOnUptoRow : OpenClaim := { program := "ytnbiebkphdnilaa", sum := "5cde047430712ab3d79d3042cf8613fbd4c24922d47be84b9b2d57d1c3ac5f42", func := "innkeeper/innkeeperlaw17.StaysOn", spec := "staysOn", unfollowed := true, recurses := true, plainKeys := false, apart := false, narrowed := true }
def StaysOnUptoSaid : Prop := staysOnUptoRow.holds Try.pinned (OpenSpec.upto staysOnSpec)

/-- 'innkeeperlaw17.StaysPlaced', WHERE WHAT IT READS IS OF BULK AT MOST 1048576: true; the input reads as it did. -/
def staysPlacedUptoRow : OpenClaim := { program := "ytnbiebkphdnilaa", sum := "5cde047430712ab3d79d3042cf8613fbd4c24922d47be84b9b2d57d1c3ac5f42", func := "innkeeper/innkeeperlaw17.StaysPlaced", spec := "staysPlaced", unfollowed := true, recurses := true, plainKeys := false, apart := false, narrowed := true }
def StaysPlacedUptoSaid : Prop := staysPlacedUptoRow.holds Try.pinned (OpenSpec.upto staysPlacedSpec)

/-- 'innkeeperlaw17.StaysFewer', WHERE WHAT IT READS IS OF BULK AT MOST 1048576: true; the input reads as it did. -/
def staysFewerUptoRow : OpenClaim := { program := "ytnbiebkphdnilaa", sum := "5cde047430712ab3d79d3042cf8613fbd4c24922d47be84b9b2d57d1c3ac5f42", func := "innkeeper/innkeeperlaw17.StaysFewer", spec := "staysFewer", unfollowed := true, recurses := true, plainKeys := false, apart := false, narrowed := true }
def StaysFewerUptoSaid : Prop := staysFewerUptoRow.holds Try.pinned (OpenSpec.upto staysFewerSpec)

end Rows
end Go.Proofs.Ytnbiebkphdnilaa
