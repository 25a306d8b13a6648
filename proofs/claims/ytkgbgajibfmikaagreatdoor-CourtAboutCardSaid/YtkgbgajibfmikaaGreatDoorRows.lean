/-
  NARROWER THAN 'FOR EVERY INPUT', by the rows' own cells (each row's printed sentence says how): CourtVerdicts: laid · CourtStays: laid · CourtNobody: laid · CourtOwn: laid · CourtAbout: laid.
  DERIVED. THE GIVEN ROWS OF THIS SEAT. 5 by the template 'for every input the law returns true; each argument reads behind the call as it read before'; 0 by the template 'total and deterministic' (their statements: YtkgbgajibfmikaaGreatDoorTotals.lean).
  GIVEN WITH THE SEED: the statements are not yours to turn. If you find one false, say at which input.
  Laid BY PROGRAM, IN A SANDBOX (cutbox-rows.mjs): the forced cells as the released guide's own fill.sh prints them over the translation cf97a38007d67eb7… (all of the seat's roots in one cut). By AI agents, Wed Nov 11 2026. No macro, syntax, notation, axiom, sorry.
-/
import Derived.Test.YtkgbgajibfmikaaGreatDoorChecked
import GoSem.Claim
import GoSem.ClaimJoined
import GoSem.ClaimMapViews
import Derived.JoinedTies
import Derived.KernelRfl
namespace Go.Proofs.YtkgbgajibfmikaaGreatDoor
/- THE CELL 'sum', in the pinned program and in every row, IS THE sha256 OF THE DUMP (.gsa) THAT YtkgbgajibfmikaaGreatDoorProg.lean LOADS. Nothing in Lean hashes anything: it is a label: what it is worth is what the hold of that sum in a sandbox is worth. -/
noncomputable def Tryz.pinned : Pinned := { name := "ytkgbgajibfmikaagreatdoor", sum := "cf97a38007d67eb7c0d437c003472cb49be07323cd2e71e3edfe34648845d229", checked := Tryz.checked }
namespace Rows
def none {H : Type} : Left H := { results := [], args := [] }

/- WHAT THE LISTED PACKAGE-LEVEL VARIABLES READ AS WHEN THE CALL BEGINS. Each datum BY PROGRAM (the guide's laid-datum.mjs) off the statement by which the dump's own 'gosem.cut.vars' lays the variable. In a bare row this is a premise. The card (YtkgbgajibfmikaaGreatDoorCards.lean) ties it to the program's text. -/
def laid_innkeeper_journal_counts {H : Type} : DataW H := .agg [.lit (.int .i64 0), .lit (.int .i64 7), .lit (.int .i64 1), .lit (.int .i64 3), .lit (.int .i64 3), .lit (.int .i64 4), .lit (.int .i64 3), .lit (.int .i64 2), .lit (.int .i64 6), .lit (.int .i64 4)]

/-- 'innkeeperlaw42.CourtVerdicts': WHATEVER THE INPUT: true; the input reads as it did. -/
def courtVerdictsSpec : ChangeSpec := { name := "courtVerdicts", fn := fun _ => fun
  | [d] => { results := [.lit (.bool true)], args := [d] }
  | _ => none }
def courtVerdictsRow : OpenClaim := { program := "ytkgbgajibfmikaagreatdoor", sum := "cf97a38007d67eb7c0d437c003472cb49be07323cd2e71e3edfe34648845d229", func := "innkeeper/innkeeperlaw42.CourtVerdicts", spec := "courtVerdicts", unfollowed := true, recurses := true, named := ["innkeeper/journal.counts"], plainKeys := false, apart := false, laid := [("innkeeper/journal.counts", laid_innkeeper_journal_counts)] }
def CourtVerdictsSaid : Prop := courtVerdictsRow.holds Tryz.pinned (OpenSpec.ofChange courtVerdictsSpec)

/-- ITS FALSE NEIGHBOUR: 'it returns false'. Refute it at one input. -/
def courtVerdictsWrong : ChangeSpec := { name := "courtVerdicts", fn := fun _ => fun
  | [d] => { results := [.lit (.bool false)], args := [d] }
  | _ => none }
def CourtVerdictsWrongFalsely : Prop := courtVerdictsRow.holds Tryz.pinned (OpenSpec.ofChange courtVerdictsWrong)

/-- 'innkeeperlaw42.CourtStays': WHATEVER THE INPUT: true; the input reads as it did. -/
def courtStaysSpec : ChangeSpec := { name := "courtStays", fn := fun _ => fun
  | [d1, d2] => { results := [.lit (.bool true)], args := [d1, d2] }
  | _ => none }
def courtStaysRow : OpenClaim := { program := "ytkgbgajibfmikaagreatdoor", sum := "cf97a38007d67eb7c0d437c003472cb49be07323cd2e71e3edfe34648845d229", func := "innkeeper/innkeeperlaw42.CourtStays", spec := "courtStays", unfollowed := true, recurses := true, named := ["innkeeper/journal.counts"], plainKeys := false, apart := false, laid := [("innkeeper/journal.counts", laid_innkeeper_journal_counts)] }
def CourtStaysSaid : Prop := courtStaysRow.holds Tryz.pinned (OpenSpec.ofChange courtStaysSpec)

/-- ITS FALSE NEIGHBOUR: 'it returns false'. Refute it at one input. -/
def courtStaysWrong : ChangeSpec := { name := "courtStays", fn := fun _ => fun
  | [d1, d2] => { results := [.lit (.bool false)], args := [d1, d2] }
  | _ => none }
def CourtStaysWrongFalsely : Prop := courtStaysRow.holds Tryz.pinned (OpenSpec.ofChange courtStaysWrong)

/-- 'innkeeperlaw42.CourtNobody': WHATEVER THE INPUT: true; the input reads as it did. -/
def courtNobodySpec : ChangeSpec := { name := "courtNobody", fn := fun _ => fun
  | [d1, d2, d3] => { results := [.lit (.bool true)], args := [d1, d2, d3] }
  | _ => none }
def courtNobodyRow : OpenClaim := { program := "ytkgbgajibfmikaagreatdoor", sum := "cf97a38007d67eb7c0d437c003472cb49be07323cd2e71e3edfe34648845d229", func := "innkeeper/innkeeperlaw42.CourtNobody", spec := "courtNobody", unfollowed := true, recurses := true, named := ["innkeeper/journal.counts"], plainKeys := false, apart := false, laid := [("innkeeper/journal.counts", laid_innkeeper_journal_counts)] }
def CourtNobodySaid : Prop := courtNobodyRow.holds Tryz.pinned (OpenSpec.ofChange courtNobodySpec)

/-- ITS FALSE NEIGHBOUR: 'it returns false'. Refute it at one input. -/
def courtNobodyWrong : ChangeSpec := { name := "courtNobody", fn := fun _ => fun
  | [d1, d2, d3] => { results := [.lit (.bool false)], args := [d1, d2, d3] }
  | _ => none }
def CourtNobodyWrongFalsely : Prop := courtNobodyRow.holds Tryz.pinned (OpenSpec.ofChange courtNobodyWrong)

/-- 'innkeeperlaw42.CourtOwn': WHATEVER THE INPUT: true; the input reads as it did. -/
def courtOwnSpec : ChangeSpec := { name := "courtOwn", fn := fun _ => fun
  | [d1, d2] => { results := [.lit (.bool true)], args := [d1, d2] }
  | _ => none }
def courtOwnRow : OpenClaim := { program := "ytkgbgajibfmikaagreatdoor", sum := "cf97a38007d67eb7c0d437c003472cb49be07323cd2e71e3edfe34648845d229", func := "innkeeper/innkeeperlaw42.CourtOwn", spec := "courtOwn", unfollowed := true, recurses := true, named := ["innkeeper/journal.counts"], plainKeys := false, apart := false, laid := [("innkeeper/journal.counts", laid_innkeeper_journal_counts)] }
def CourtOwnSaid : Prop := courtOwnRow.holds Tryz.pinned (OpenSpec.ofChange courtOwnSpec)

/-- ITS FALSE NEIGHBOUR: 'it returns false'. Refute it at one input. -/
def courtOwnWrong : ChangeSpec := { name := "courtOwn", fn := fun _ => fun
  | [d1, d2] => { results := [.lit (.bool false)], args := [d1, d2] }
  | _ => none }
def CourtOwnWrongFalsely : Prop := courtOwnRow.holds Tryz.pinned (OpenSpec.ofChange courtOwnWrong)

/-- 'innkeeperlaw42.CourtAbout': WHATEVER THE INPUT: true; the input reads as it did. -/
def courtAboutSpec : ChangeSpec := { name := "courtAbout", fn := fun _ => fun
  | [d1, d2, d3] => { results := [.lit (.bool true)], args := [d1, d2, d3] }
  | _ => none }
def courtAboutRow : OpenClaim := { program := "ytkgbgajibfmikaagreatdoor", sum := "cf97a38007d67eb7c0d437c003472cb49be07323cd2e71e3edfe34648845d229", func := "innkeeper/innkeeperlaw42.CourtAbout", spec := "courtAbout", unfollowed := true, recurses := true, named := ["innkeeper/journal.counts"], plainKeys := false, apart := false, laid := [("innkeeper/journal.counts", laid_innkeeper_journal_counts)] }
def CourtAboutSaid : Prop := courtAboutRow.holds Tryz.pinned (OpenSpec.ofChange courtAboutSpec)

/-- ITS FALSE NEIGHBOUR: 'it returns false'. Refute it at one input. -/
def courtAboutWrong : ChangeSpec := { name := "courtAbout", fn := fun _ => fun
  | [d1, d2, d3] => { results := [.lit (.bool false)], args := [d1, d2, d3] }
  | _ => none }
def CourtAboutWrongFalsely : Prop := courtAboutRow.holds Tryz.pinned (OpenSpec.ofChange courtAboutWrong)

/- THE SECOND FORM. 'bulk': how many values and letters a reading holds, each counted each time it is reached (what is shared counts as often as it is met; a slice's spare places count too). A statement '..UptoSaid' is the law's where the arguments, and the package variables that the reading takes, are together of bulk at most 1048576: NARROWER than '..Said'. Prove '..Said' where nothing that the law and all that it calls make is longer than what came in: it says more and counts as full. Else prove '..UptoSaid'. A law counts once. -/
mutual
def uptoBulk {H : Type} : DataW H → Nat
  | .lit (.string bytes) => bytes.length + 1
  | .lit _ => 1
  | .nil => 1
  | .ptr d => uptoBulk d + 1
  | .slice elems spare => uptoBulkAll elems + uptoBulkAll spare + 1
  | .agg parts => uptoBulkAll parts + 1
  | .iface _ d => uptoBulk d + 1
  | .map entries => uptoBulkEntries entries + 1
  | .held _ => 1
def uptoBulkAll {H : Type} : List (DataW H) → Nat
  | [] => 0
  | d :: r => uptoBulk d + uptoBulkAll r
def uptoBulkEntries {H : Type} : List (Lit × DataW H) → Nat
  | [] => 0
  | x :: r => uptoBulkEntry x + uptoBulkEntries r
def uptoBulkEntry {H : Type} : Lit × DataW H → Nat
  | (.string bytes, d) => bytes.length + uptoBulk d + 1
  | (_, d) => uptoBulk d + 1
 end
def uptoSmall : (H : Type) → List (DataW H) → Bool := fun _ ds => decide (uptoBulkAll ds ≤ 1048576)
def OpenSpec.upto (s : _root_.Go.ChangeSpec) : _root_.Go.OpenSpec := { _root_.Go.OpenSpec.ofChange s with cond := some uptoSmall }

/-- 'innkeeperlaw42.CourtVerdicts', WHERE WHAT IT READS IS OF BULK AT MOST 1048576: true; the input reads as it did. -/
def courtVerdictsUptoRow : OpenClaim := { program := "ytkgbgajibfmikaagreatdoor", sum := "cf97a38007d67eb7c0d437c003472cb49be07323cd2e71e3edfe34648845d229", func := "innkeeper/innkeeperlaw42.CourtVerdicts", spec := "courtVerdicts", unfollowed := true, recurses := true, named := ["innkeeper/journal.counts"], plainKeys := false, apart := false, laid := [("innkeeper/journal.counts", laid_innkeeper_journal_counts)], narrowed := true }
def CourtVerdictsUptoSaid : Prop := courtVerdictsUptoRow.holds Tryz.pinned (OpenSpec.upto courtVerdictsSpec)

/-- 'innkeeperlaw42.CourtStays', WHERE WHAT IT READS IS OF BULK AT MOST 1048576: true; the input reads as it did. -/
def courtStaysUptoRow : OpenClaim := { program := "ytkgbgajibfmikaagreatdoor", sum := "cf97a38007d67eb7c0d437c003472cb49be07323cd2e71e3edfe34648845d229", func := "innkeeper/innkeeperlaw42.CourtStays", spec := "courtStays", unfollowed := true, recurses := true, named := ["innkeeper/journal.counts"], plainKeys := false, apart := false, laid := [("innkeeper/journal.counts", laid_innkeeper_journal_counts)], narrowed := true }
def CourtStaysUptoSaid : Prop := courtStaysUptoRow.holds Tryz.pinned (OpenSpec.upto courtStaysSpec)

/-- 'innkeeperlaw42.CourtNobody', WHERE WHAT IT READS IS OF BULK AT MOST 1048576: true; the input reads as it did. -/
def courtNobodyUptoRow : OpenClaim := { program := "ytkgbgajibfmikaagreatdoor", sum := "cf97a38007d67eb7c0d437c003472cb49be07323cd2e71e3edfe34648845d229", func := "innkeeper/innkeeperlaw42.CourtNobody", spec := "courtNobody", unfollowed := true, recurses := true, named := ["innkeeper/journal.counts"], plainKeys := false, apart := false, laid := [("innkeeper/journal.counts", laid_innkeeper_journal_counts)], narrowed := true }
def CourtNobodyUptoSaid : Prop := courtNobodyUptoRow.holds Tryz.pinned (OpenSpec.upto courtNobodySpec)

/-- 'innkeeperlaw42.CourtOwn', WHERE WHAT IT READS IS OF BULK AT MOST 1048576: true; the input reads as it did. -/
def courtOwnUptoRow : OpenClaim := { program := "ytkgbgajibfmikaagreatdoor", sum := "cf97a38007d67eb7c0d437c003472cb49be07323cd2e71e3edfe34648845d229", func := "innkeeper/innkeeperlaw42.CourtOwn", spec := "courtOwn", unfollowed := true, recurses := true, named := ["innkeeper/journal.counts"], plainKeys := false, apart := false, laid := [("innkeeper/journal.counts", laid_innkeeper_journal_counts)], narrowed := true }
def CourtOwnUptoSaid : Prop := courtOwnUptoRow.holds Tryz.pinned (OpenSpec.upto courtOwnSpec)

/-- 'innkeeperlaw42.CourtAbout', WHERE WHAT IT READS IS OF BULK AT MOST 1048576: true; the input reads as it did. -/
def courtAboutUptoRow : OpenClaim := { program := "ytkgbgajibfmikaagreatdoor", sum := "cf97a38007d67eb7c0d437c003472cb49be07323cd2e71e3edfe34648845d229", func := "innkeeper/innkeeperlaw42.CourtAbout", spec := "courtAbout", unfollowed := true, recurses := true, named := ["innkeeper/journal.counts"], plainKeys := false, apart := false, laid := [("innkeeper/journal.counts", laid_innkeeper_journal_counts)], narrowed := true }
def CourtAboutUptoSaid : Prop := courtAboutUptoRow.holds Tryz.pinned (OpenSpec.upto courtAboutSpec)

end Rows
end Go.Proofs.YtkgbgajibfmikaaGreatDoor
