/-
  NARROWER THAN 'FOR EVERY INPUT', by the rows' own cells (each row's printed sentence says how): MergeOrder: laid · MergeParts: laid · MergeGaps: laid · MergeWhole: laid · MergeMatchesReference: laid · MergeJoins: laid.
  DERIVED. THE GIVEN ROWS OF THIS SEAT. 6 by the template 'for every input the law returns true; each argument reads behind the call as it read before'; 0 by the template 'total and deterministic' (their statements: YtghnbffmkcjlhaaDoorTotals.lean).
  GIVEN WITH THE SEED: the statements are not yours to turn. If you find one false, say at which input.
  Laid BY PROGRAM, IN A SANDBOX (cutbox-rows.mjs): the forced cells as the released guide's own fill.sh prints them over the translation 7513bacb7bfc6091… (all of the seat's roots in one cut). By AI agents, Wed Nov 11 2026. No macro, syntax, notation, axiom, sorry.
-/
import Derived.Test.YtghnbffmkcjlhaaDoorChecked
import GoSem.Claim
import GoSem.ClaimJoined
import GoSem.ClaimMapViews
import Derived.JoinedTies
import Derived.KernelRfl
namespace Go.Proofs.YtghnbffmkcjlhaaDoor
/- THE CELL 'sum', in the pinned program and in every row, IS THE sha256 OF THE DUMP (.gsa) THAT YtghnbffmkcjlhaaDoorProg.lean LOADS. Nothing in Lean hashes anything: it is a label: what it is worth is what the hold of that sum in a sandbox is worth. -/
noncomputable def Tryd.pinned : Pinned := { name := "ytghnbffmkcjlhaadoor", sum := "7513bacb7bfc6091fd136a38bf3f5e031a3eedd28a25b1db73933679a954c380", checked := Tryd.checked }
namespace Rows
def none {H : Type} : Left H := { results := [], args := [] }

/- WHAT THE LISTED PACKAGE-LEVEL VARIABLES READ AS WHEN THE CALL BEGINS. Each datum BY PROGRAM (the guide's laid-datum.mjs) off the statement by which the dump's own 'gosem.cut.vars' lays the variable. In a bare row this is a premise. The card (YtghnbffmkcjlhaaDoorCards.lean) ties it to the program's text. -/
def laid_innkeeper_journal_counts {H : Type} : DataW H := .agg [.lit (.int .i64 0), .lit (.int .i64 7), .lit (.int .i64 1), .lit (.int .i64 3), .lit (.int .i64 3), .lit (.int .i64 4), .lit (.int .i64 3), .lit (.int .i64 2), .lit (.int .i64 6), .lit (.int .i64 4)]

/-- 'innkeeperlaw40.MergeOrder': WHATEVER THE INPUT: true; the input reads as it did. -/
def mergeOrderSpec : ChangeSpec := { name := "mergeOrder", fn := fun _ => fun
  | [d1, d2, d3] => { results := [.lit (.bool true)], args := [d1, d2, d3] }
  | _ => none }
def mergeOrderRow : OpenClaim := { program := "ytghnbffmkcjlhaadoor", sum := "7513bacb7bfc6091fd136a38bf3f5e031a3eedd28a25b1db73933679a954c380", func := "innkeeper/innkeeperlaw40.MergeOrder", spec := "mergeOrder", unfollowed := true, recurses := true, named := ["innkeeper/journal.counts"], plainKeys := false, apart := false, laid := [("innkeeper/journal.counts", laid_innkeeper_journal_counts)] }
def MergeOrderSaid : Prop := mergeOrderRow.holds Tryd.pinned (OpenSpec.ofChange mergeOrderSpec)

/-- ITS FALSE NEIGHBOUR: 'it returns false'. Refute it at one input. -/
def mergeOrderWrong : ChangeSpec := { name := "mergeOrder", fn := fun _ => fun
  | [d1, d2, d3] => { results := [.lit (.bool false)], args := [d1, d2, d3] }
  | _ => none }
def MergeOrderWrongFalsely : Prop := mergeOrderRow.holds Tryd.pinned (OpenSpec.ofChange mergeOrderWrong)

/-- 'innkeeperlaw40.MergeParts': WHATEVER THE INPUT: true; the input reads as it did. -/
def mergePartsSpec : ChangeSpec := { name := "mergeParts", fn := fun _ => fun
  | [d] => { results := [.lit (.bool true)], args := [d] }
  | _ => none }
def mergePartsRow : OpenClaim := { program := "ytghnbffmkcjlhaadoor", sum := "7513bacb7bfc6091fd136a38bf3f5e031a3eedd28a25b1db73933679a954c380", func := "innkeeper/innkeeperlaw40.MergeParts", spec := "mergeParts", unfollowed := true, recurses := true, named := ["innkeeper/journal.counts"], plainKeys := false, apart := false, laid := [("innkeeper/journal.counts", laid_innkeeper_journal_counts)] }
def MergePartsSaid : Prop := mergePartsRow.holds Tryd.pinned (OpenSpec.ofChange mergePartsSpec)

/-- ITS FALSE NEIGHBOUR: 'it returns false'. Refute it at one input. -/
def mergePartsWrong : ChangeSpec := { name := "mergeParts", fn := fun _ => fun
  | [d] => { results := [.lit (.bool false)], args := [d] }
  | _ => none }
def MergePartsWrongFalsely : Prop := mergePartsRow.holds Tryd.pinned (OpenSpec.ofChange mergePartsWrong)

/-- 'innkeeperlaw40.MergeGaps': WHATEVER THE INPUT: true; the input reads as it did. -/
def mergeGapsSpec : ChangeSpec := { name := "mergeGaps", fn := fun _ => fun
  | [d1, d2, d3] => { results := [.lit (.bool true)], args := [d1, d2, d3] }
  | _ => none }
def mergeGapsRow : OpenClaim := { program := "ytghnbffmkcjlhaadoor", sum := "7513bacb7bfc6091fd136a38bf3f5e031a3eedd28a25b1db73933679a954c380", func := "innkeeper/innkeeperlaw40.MergeGaps", spec := "mergeGaps", unfollowed := true, recurses := true, named := ["innkeeper/journal.counts"], plainKeys := false, apart := false, laid := [("innkeeper/journal.counts", laid_innkeeper_journal_counts)] }
def MergeGapsSaid : Prop := mergeGapsRow.holds Tryd.pinned (OpenSpec.ofChange mergeGapsSpec)

/-- ITS FALSE NEIGHBOUR: 'it returns false'. Refute it at one input. -/
def mergeGapsWrong : ChangeSpec := { name := "mergeGaps", fn := fun _ => fun
  | [d1, d2, d3] => { results := [.lit (.bool false)], args := [d1, d2, d3] }
  | _ => none }
def MergeGapsWrongFalsely : Prop := mergeGapsRow.holds Tryd.pinned (OpenSpec.ofChange mergeGapsWrong)

/-- 'innkeeperlaw40.MergeWhole': WHATEVER THE INPUT: true; the input reads as it did. -/
def mergeWholeSpec : ChangeSpec := { name := "mergeWhole", fn := fun _ => fun
  | [d1, d2, d3, d4, d5] => { results := [.lit (.bool true)], args := [d1, d2, d3, d4, d5] }
  | _ => none }
def mergeWholeRow : OpenClaim := { program := "ytghnbffmkcjlhaadoor", sum := "7513bacb7bfc6091fd136a38bf3f5e031a3eedd28a25b1db73933679a954c380", func := "innkeeper/innkeeperlaw40.MergeWhole", spec := "mergeWhole", unfollowed := true, recurses := true, named := ["innkeeper/journal.counts"], plainKeys := false, apart := false, laid := [("innkeeper/journal.counts", laid_innkeeper_journal_counts)] }
def MergeWholeSaid : Prop := mergeWholeRow.holds Tryd.pinned (OpenSpec.ofChange mergeWholeSpec)

/-- ITS FALSE NEIGHBOUR: 'it returns false'. Refute it at one input. -/
def mergeWholeWrong : ChangeSpec := { name := "mergeWhole", fn := fun _ => fun
  | [d1, d2, d3, d4, d5] => { results := [.lit (.bool false)], args := [d1, d2, d3, d4, d5] }
  | _ => none }
def MergeWholeWrongFalsely : Prop := mergeWholeRow.holds Tryd.pinned (OpenSpec.ofChange mergeWholeWrong)

/-- 'innkeeperlaw40.MergeMatchesReference': WHATEVER THE INPUT: true; the input reads as it did. -/
def mergeMatchesReferenceSpec : ChangeSpec := { name := "mergeMatchesReference", fn := fun _ => fun
  | [d1, d2, d3, d4] => { results := [.lit (.bool true)], args := [d1, d2, d3, d4] }
  | _ => none }
def mergeMatchesReferenceRow : OpenClaim := { program := "ytghnbffmkcjlhaadoor", sum := "7513bacb7bfc6091fd136a38bf3f5e031a3eedd28a25b1db73933679a954c380", func := "innkeeper/innkeeperlaw40.MergeMatchesReference", spec := "mergeMatchesReference", unfollowed := true, recurses := true, named := ["innkeeper/journal.counts"], plainKeys := false, apart := false, laid := [("innkeeper/journal.counts", laid_innkeeper_journal_counts)] }
def MergeMatchesReferenceSaid : Prop := mergeMatchesReferenceRow.holds Tryd.pinned (OpenSpec.ofChange mergeMatchesReferenceSpec)

/-- ITS FALSE NEIGHBOUR: 'it returns false'. Refute it at one input. -/
def mergeMatchesReferenceWrong : ChangeSpec := { name := "mergeMatchesReference", fn := fun _ => fun
  | [d1, d2, d3, d4] => { results := [.lit (.bool false)], args := [d1, d2, d3, d4] }
  | _ => none }
def MergeMatchesReferenceWrongFalsely : Prop := mergeMatchesReferenceRow.holds Tryd.pinned (OpenSpec.ofChange mergeMatchesReferenceWrong)

/-- 'innkeeperlaw40.MergeJoins': WHATEVER THE INPUT: true; the input reads as it did. -/
def mergeJoinsSpec : ChangeSpec := { name := "mergeJoins", fn := fun _ => fun
  | [d1, d2, d3, d4] => { results := [.lit (.bool true)], args := [d1, d2, d3, d4] }
  | _ => none }
def mergeJoinsRow : OpenClaim := { program := "ytghnbffmkcjlhaadoor", sum := "7513bacb7bfc6091fd136a38bf3f5e031a3eedd28a25b1db73933679a954c380", func := "innkeeper/innkeeperlaw40.MergeJoins", spec := "mergeJoins", unfollowed := true, recurses := true, named := ["innkeeper/journal.counts"], plainKeys := false, apart := false, laid := [("innkeeper/journal.counts", laid_innkeeper_journal_counts)] }
def MergeJoinsSaid : Prop := mergeJoinsRow.holds Tryd.pinned (OpenSpec.ofChange mergeJoinsSpec)

/-- ITS FALSE NEIGHBOUR: 'it returns false'. Refute it at one input. -/
def mergeJoinsWrong : ChangeSpec := { name := "mergeJoins", fn := fun _ => fun
  | [d1, d2, d3, d4] => { results := [.lit (.bool false)], args := [d1, d2, d3, d4] }
  | _ => none }
def MergeJoinsWrongFalsely : Prop := mergeJoinsRow.holds Tryd.pinned (OpenSpec.ofChange mergeJoinsWrong)

/- THE SECOND FORM. 'bulk': how many values and letters a reading holds, each counted each time it is reached (what is shared counts as often as it is met; a slice's spare places count too). A statement '..UptoSaid' is the law's where the arguments, and the package variables that the reading takes, are together of bulk at most 1048576: NARROWER than '..Said'. Prove '..Said' where nothing that the law and all that it calls make is longer than what came in: it says more and counts as full. Else prove '..UptoSaid'. A law counts once. -/
mutual
def uptoBulk {H : Type} : DataW H → Nat
  | .lit (.string bytes) => bytes.length + 1
  | .lit _ => 1
  | .nil => 1
  | .ptr d => uptoBulk d + 1
  | .slice elems spare => uptoBulkAll elems + uptoBulkAll spare + 1
  | .agg parts => uptoBulkAll parts + 1
  | .iface _ d => uptoBulk d + 1
  | .map entries => uptoBulkEntries entries + 1
  | .held _ => 1
def uptoBulkAll {H : Type} : List (DataW H) → Nat
  | [] => 0
  | d :: r => uptoBulk d + uptoBulkAll r
def uptoBulkEntries {H : Type} : List (Lit × DataW H) → Nat
  | [] => 0
  | x :: r => uptoBulkEntry x + uptoBulkEntries r
def uptoBulkEntry {H : Type} : Lit × DataW H → Nat
  | (.string bytes, d) => bytes.length + uptoBulk d + 1
  | (_, d) => uptoBulk d + 1
 end
def uptoSmall : (H : Type) → List (DataW H) → Bool := fun _ ds => decide (uptoBulkAll ds ≤ 1048576)
def OpenSpec.upto (s : _root_.Go.ChangeSpec) : _root_.Go.OpenSpec := { _root_.Go.OpenSpec.ofChange s with cond := some uptoSmall }

/-- 'innkeeperlaw40.MergeOrder', WHERE WHAT IT READS IS OF BULK AT MOST 1048576: true; the input reads as it did. -/
def mergeOrderUptoRow : OpenClaim := { program := "ytghnbffmkcjlhaadoor", sum := "7513bacb7bfc6091fd136a38bf3f5e031a3eedd28a25b1db73933679a954c380", func := "innkeeper/innkeeperlaw40.MergeOrder", spec := "mergeOrder", unfollowed := true, recurses := true, named := ["innkeeper/journal.counts"], plainKeys := false, apart := false, laid := [("innkeeper/journal.counts", laid_innkeeper_journal_counts)], narrowed := true }
def MergeOrderUptoSaid : Prop := mergeOrderUptoRow.holds Tryd.pinned (OpenSpec.upto mergeOrderSpec)

/-- 'innkeeperlaw40.MergeParts', WHERE WHAT IT READS IS OF BULK AT MOST 1048576: true; the input reads as it did. -/
def mergePartsUptoRow : OpenClaim := { program := "ytghnbffmkcjlhaadoor", sum := "7513bacb7bfc6091fd136a38bf3f5e031a3eedd28a25b1db73933679a954c380", func := "innkeeper/innkeeperlaw40.MergeParts", spec := "mergeParts", unfollowed := true, recurses := true, named := ["innkeeper/journal.counts"], plainKeys := false, apart := false, laid := [("innkeeper/journal.counts", laid_innkeeper_journal_counts)], narrowed := true }
def MergePartsUptoSaid : Prop := mergePartsUptoRow.holds Tryd.pinned (OpenSpec.upto mergePartsSpec)

/-- 'innkeeperlaw40.MergeGaps', WHERE WHAT IT READS IS OF BULK AT MOST 1048576: true; the input reads as it did. -/
def mergeGapsUptoRow : OpenClaim := { program := "ytghnbffmkcjlhaadoor", sum := "7513bacb7bfc6091fd136a38bf3f5e031a3eedd28a25b1db73933679a954c380", func := "innkeeper/innkeeperlaw40.MergeGaps", spec := "mergeGaps", unfollowed := true, recurses := true, named := ["innkeeper/journal.counts"], plainKeys := false, apart := false, laid := [("innkeeper/journal.counts", laid_innkeeper_journal_counts)], narrowed := true }
def MergeGapsUptoSaid : Prop := mergeGapsUptoRow.holds Tryd.pinned (OpenSpec.upto mergeGapsSpec)

/-- 'innkeeperlaw40.MergeWhole', WHERE WHAT IT READS IS OF BULK AT MOST 1048576: true; the input reads as it did. -/
def mergeWholeUptoRow : OpenClaim := { program := "ytghnbffmkcjlhaadoor", sum := "7513bacb7bfc6091fd136a38bf3f5e031a3eedd28a25b1db73933679a954c380", func := "innkeeper/innkeeperlaw40.MergeWhole", spec := "mergeWhole", unfollowed := true, recurses := true, named := ["innkeeper/journal.counts"], plainKeys := false, apart := false, laid := [("innkeeper/journal.counts", laid_innkeeper_journal_counts)], narrowed := true }
def MergeWholeUptoSaid : Prop := mergeWholeUptoRow.holds Tryd.pinned (OpenSpec.upto mergeWholeSpec)

/-- 'innkeeperlaw40.MergeMatchesReference', WHERE WHAT IT READS IS OF BULK AT MOST 1048576: true; the input reads as it did. -/
def mergeMatchesReferenceUptoRow : OpenClaim := { program := "ytghnbffmkcjlhaadoor", sum := "7513bacb7bfc6091fd136a38bf3f5e031a3eedd28a25b1db73933679a954c380", func := "innkeeper/innkeeperlaw40.MergeMatchesReference", spec := "mergeMatchesReference", unfollowed := true, recurses := true, named := ["innkeeper/journal.counts"], plainKeys := false, apart := false, laid := [("innkeeper/journal.counts", laid_innkeeper_journal_counts)], narrowed := true }
def MergeMatchesReferenceUptoSaid : Prop := mergeMatchesReferenceUptoRow.holds Tryd.pinned (OpenSpec.upto mergeMatchesReferenceSpec)

/-- 'innkeeperlaw40.MergeJoins', WHERE WHAT IT READS IS OF BULK AT MOST 1048576: true; the input reads as it did. -/
def mergeJoinsUptoRow : OpenClaim := { program := "ytghnbffmkcjlhaadoor", sum := "7513bacb7bfc6091fd136a38bf3f5e031a3eedd28a25b1db73933679a954c380", func := "innkeeper/innkeeperlaw40.MergeJoins", spec := "mergeJoins", unfollowed := true, recurses := true, named := ["innkeeper/journal.counts"], plainKeys := false, apart := false, laid := [("innkeeper/journal.counts", laid_innkeeper_journal_counts)], narrowed := true }
def MergeJoinsUptoSaid : Prop := mergeJoinsUptoRow.holds Tryd.pinned (OpenSpec.upto mergeJoinsSpec)

end Rows
end Go.Proofs.YtghnbffmkcjlhaaDoor
