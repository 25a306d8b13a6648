/-
  NARROWER THAN 'FOR EVERY INPUT', by the rows' own cells (each row's printed sentence says how): RulesHonest: laid · RulesFound: laid · CourtMatchesReference: laid.
  DERIVED. THE GIVEN ROWS OF THIS SEAT. 3 by the template 'for every input the law returns true; each argument reads behind the call as it read before'; 0 by the template 'total and deterministic' (their statements: YtonnaiknlgmejaaGreatDoorTotals.lean).
  GIVEN WITH THE SEED: the statements are not yours to turn. If you find one false, say at which input.
  Laid BY PROGRAM, IN A SANDBOX (cutbox-rows.mjs): the forced cells as the released guide's own fill.sh prints them over the translation d37d4ad3c72ffb94… (all of the seat's roots in one cut). By AI agents, Wed Nov 11 2026. No macro, syntax, notation, axiom, sorry.
-/
import Derived.Test.YtonnaiknlgmejaaGreatDoorChecked
import GoSem.Claim
import GoSem.ClaimJoined
import GoSem.ClaimMapViews
import Derived.JoinedTies
import Derived.KernelRfl
namespace Go.Proofs.YtonnaiknlgmejaaGreatDoor
/- THE CELL 'sum', in the pinned program and in every row, IS THE sha256 OF THE DUMP (.gsa) THAT YtonnaiknlgmejaaGreatDoorProg.lean LOADS. Nothing in Lean hashes anything: it is a label: what it is worth is what the hold of that sum in a sandbox is worth. -/
noncomputable def Tryz.pinned : Pinned := { name := "ytonnaiknlgmejaagreatdoor", sum := "d37d4ad3c72ffb94bcf6a0a0e774bcb7ecd188f831c8b12ede80f43dd15329b8", checked := Tryz.checked }
namespace Rows
def none {H : Type} : Left H := { results := [], args := [] }

/- WHAT THE LISTED PACKAGE-LEVEL VARIABLES READ AS WHEN THE CALL BEGINS. Each datum BY PROGRAM (the guide's laid-datum.mjs) off the statement by which the dump's own 'gosem.cut.vars' lays the variable. In a bare row this is a premise. The card (YtonnaiknlgmejaaGreatDoorCards.lean) ties it to the program's text. -/
def laid_innkeeper_journal_counts {H : Type} : DataW H := .agg [.lit (.int .i64 0), .lit (.int .i64 7), .lit (.int .i64 1), .lit (.int .i64 3), .lit (.int .i64 3), .lit (.int .i64 4), .lit (.int .i64 3), .lit (.int .i64 2), .lit (.int .i64 6), .lit (.int .i64 4)]

/-- 'innkeeperlaw41.RulesHonest': WHATEVER THE INPUT: true; the input reads as it did. -/
def rulesHonestSpec : ChangeSpec := { name := "rulesHonest", fn := fun _ => fun
  | [d1, d2, d3] => { results := [.lit (.bool true)], args := [d1, d2, d3] }
  | _ => none }
def rulesHonestRow : OpenClaim := { program := "ytonnaiknlgmejaagreatdoor", sum := "d37d4ad3c72ffb94bcf6a0a0e774bcb7ecd188f831c8b12ede80f43dd15329b8", func := "innkeeper/innkeeperlaw41.RulesHonest", spec := "rulesHonest", unfollowed := true, recurses := true, named := ["innkeeper/journal.counts"], plainKeys := false, apart := false, laid := [("innkeeper/journal.counts", laid_innkeeper_journal_counts)] }
def RulesHonestSaid : Prop := rulesHonestRow.holds Tryz.pinned (OpenSpec.ofChange rulesHonestSpec)

/-- ITS FALSE NEIGHBOUR: 'it returns false'. Refute it at one input. -/
def rulesHonestWrong : ChangeSpec := { name := "rulesHonest", fn := fun _ => fun
  | [d1, d2, d3] => { results := [.lit (.bool false)], args := [d1, d2, d3] }
  | _ => none }
def RulesHonestWrongFalsely : Prop := rulesHonestRow.holds Tryz.pinned (OpenSpec.ofChange rulesHonestWrong)

/-- 'innkeeperlaw41.RulesFound': WHATEVER THE INPUT: true; the input reads as it did. -/
def rulesFoundSpec : ChangeSpec := { name := "rulesFound", fn := fun _ => fun
  | [d1, d2, d3] => { results := [.lit (.bool true)], args := [d1, d2, d3] }
  | _ => none }
def rulesFoundRow : OpenClaim := { program := "ytonnaiknlgmejaagreatdoor", sum := "d37d4ad3c72ffb94bcf6a0a0e774bcb7ecd188f831c8b12ede80f43dd15329b8", func := "innkeeper/innkeeperlaw41.RulesFound", spec := "rulesFound", unfollowed := true, recurses := true, named := ["innkeeper/journal.counts"], plainKeys := false, apart := false, laid := [("innkeeper/journal.counts", laid_innkeeper_journal_counts)] }
def RulesFoundSaid : Prop := rulesFoundRow.holds Tryz.pinned (OpenSpec.ofChange rulesFoundSpec)

/-- ITS FALSE NEIGHBOUR: 'it returns false'. Refute it at one input. -/
def rulesFoundWrong : ChangeSpec := { name := "rulesFound", fn := fun _ => fun
  | [d1, d2, d3] => { results := [.lit (.bool false)], args := [d1, d2, d3] }
  | _ => none }
def RulesFoundWrongFalsely : Prop := rulesFoundRow.holds Tryz.pinned (OpenSpec.ofChange rulesFoundWrong)

/-- 'innkeeperlaw42.CourtMatchesReference': WHATEVER THE INPUT: true; the input reads as it did. -/
def courtMatchesReferenceSpec : ChangeSpec := { name := "courtMatchesReference", fn := fun _ => fun
  | [d1, d2, d3] => { results := [.lit (.bool true)], args := [d1, d2, d3] }
  | _ => none }
def courtMatchesReferenceRow : OpenClaim := { program := "ytonnaiknlgmejaagreatdoor", sum := "d37d4ad3c72ffb94bcf6a0a0e774bcb7ecd188f831c8b12ede80f43dd15329b8", func := "innkeeper/innkeeperlaw42.CourtMatchesReference", spec := "courtMatchesReference", unfollowed := true, recurses := true, named := ["innkeeper/journal.counts"], plainKeys := false, apart := false, laid := [("innkeeper/journal.counts", laid_innkeeper_journal_counts)] }
def CourtMatchesReferenceSaid : Prop := courtMatchesReferenceRow.holds Tryz.pinned (OpenSpec.ofChange courtMatchesReferenceSpec)

/-- ITS FALSE NEIGHBOUR: 'it returns false'. Refute it at one input. -/
def courtMatchesReferenceWrong : ChangeSpec := { name := "courtMatchesReference", fn := fun _ => fun
  | [d1, d2, d3] => { results := [.lit (.bool false)], args := [d1, d2, d3] }
  | _ => none }
def CourtMatchesReferenceWrongFalsely : Prop := courtMatchesReferenceRow.holds Tryz.pinned (OpenSpec.ofChange courtMatchesReferenceWrong)

/- THE SECOND FORM. 'bulk': how many values and letters a reading holds, each counted each time it is reached (what is shared counts as often as it is met; a slice's spare places count too). A statement '..UptoSaid' is the law's where the arguments, and the package variables that the reading takes, are together of bulk at most 1048576: NARROWER than '..Said'. Prove '..Said' where nothing that the law and all that it calls make is longer than what came in: it says more and counts as full. Else prove '..UptoSaid'. A law counts once. -/
mutual
def uptoBulk {H : Type} : DataW H → Nat
  | .lit (.string bytes) => bytes.length + 1
  | .lit _ => 1
  | .nil => 1
  | .ptr d => uptoBulk d + 1
  | .slice elems spare => uptoBulkAll elems + uptoBulkAll spare + 1
  | .agg parts => uptoBulkAll parts + 1
  | .iface _ d => uptoBulk d + 1
  | .map entries => uptoBulkEntries entries + 1
  | .held _ => 1
def uptoBulkAll {H : Type} : List (DataW H) → Nat
  | [] => 0
  | d :: r => uptoBulk d + uptoBulkAll r
def uptoBulkEntries {H : Type} : List (Lit × DataW H) → Nat
  | [] => 0
  | x :: r => uptoBulkEntry x + uptoBulkEntries r
def uptoBulkEntry {H : Type} : Lit × DataW H → Nat
  | (.string bytes, d) => bytes.length + uptoBulk d + 1
  | (_, d) => uptoBulk d + 1
 end
def uptoSmall : (H : Type) → List (DataW H) → Bool := fun _ ds => decide (uptoBulkAll ds ≤ 1048576)
def OpenSpec.upto (s : _root_.Go.ChangeSpec) : _root_.Go.OpenSpec := { _root_.Go.OpenSpec.ofChange s with cond := some uptoSmall }

/-- 'innkeeperlaw41.RulesHonest', WHERE WHAT IT READS IS OF BULK AT MOST 1048576: true; the input reads as it did. -/
def rulesHonestUptoRow : OpenClaim := { program := "ytonnaiknlgmejaagreatdoor", sum := "d37d4ad3c72ffb94bcf6a0a0e774bcb7ecd188f831c8b12ede80f43dd15329b8", func := "innkeeper/innkeeperlaw41.RulesHonest", spec := "rulesHonest", unfollowed := true, recurses := true, named := ["innkeeper/journal.counts"], plainKeys := false, apart := false, laid := [("innkeeper/journal.counts", laid_innkeeper_journal_counts)], narrowed := true }
def RulesHonestUptoSaid : Prop := rulesHonestUptoRow.holds Tryz.pinned (OpenSpec.upto rulesHonestSpec)

/-- 'innkeeperlaw41.RulesFound', WHERE WHAT IT READS IS OF BULK AT MOST 1048576: true; the input reads as it did. -/
def rulesFoundUptoRow : OpenClaim := { program := "ytonnaiknlgmejaagreatdoor", sum := "d37d4ad3c72ffb94bcf6a0a0e774bcb7ecd188f831c8b12ede80f43dd15329b8", func := "innkeeper/innkeeperlaw41.RulesFound", spec := "rulesFound", unfollowed := true, recurses := true, named := ["innkeeper/journal.counts"], plainKeys := false, apart := false, laid := [("innkeeper/journal.counts", laid_innkeeper_journal_counts)], narrowed := true }
def RulesFoundUptoSaid : Prop := rulesFoundUptoRow.holds Tryz.pinned (OpenSpec.upto rulesFoundSpec)

/-- 'innkeeperlaw42.CourtMatchesReference', WHERE WHAT IT READS IS OF BULK AT MOST 1048576: true; the input reads as it did. -/
def courtMatchesReferenceUptoRow : OpenClaim := { program := "ytonnaiknlgmejaagreatdoor", sum := "d37d4ad3c72ffb94bcf6a0a0e774bcb7ecd188f831c8b12ede80f43dd15329b8", func := "innkeeper/innkeeperlaw42.CourtMatchesReference", spec := "courtMatchesReference", unfollowed := true, recurses := true, named := ["innkeeper/journal.counts"], plainKeys := false, apart := false, laid := [("innkeeper/journal.counts", laid_innkeeper_journal_counts)], narrowed := true }
def CourtMatchesReferenceUptoSaid : Prop := courtMatchesReferenceUptoRow.holds Tryz.pinned (OpenSpec.upto courtMatchesReferenceSpec)

end Rows
end Go.Proofs.YtonnaiknlgmejaaGreatDoor
