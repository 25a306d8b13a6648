/-
  NARROWER THAN 'FOR EVERY INPUT', by the rows' own cells (each row's printed sentence says how): RulesGrow: laid · RulesWho: laid · RulesOthers: laid.
  DERIVED. THE GIVEN ROWS OF THIS SEAT. 3 by the template 'for every input the law returns true; each argument reads behind the call as it read before'; 0 by the template 'total and deterministic' (their statements: YthfiadfekoaniaaGreatDoorTotals.lean).
  GIVEN WITH THE SEED: the statements are not yours to turn. If you find one false, say at which input.
  Laid BY PROGRAM, IN A SANDBOX (cutbox-rows.mjs): the forced cells as the released guide's own fill.sh prints them over the translation 606f639f7a92e6d7… (all of the seat's roots in one cut). By AI agents, Wed Nov 11 2026. No macro, syntax, notation, axiom, sorry.
-/
import Derived.Test.YthfiadfekoaniaaGreatDoorChecked
import GoSem.Claim
import GoSem.ClaimJoined
import GoSem.ClaimMapViews
import Derived.JoinedTies
import Derived.KernelRfl
namespace Go.Proofs.YthfiadfekoaniaaGreatDoor
/- THE CELL 'sum', in the pinned program and in every row, IS THE sha256 OF THE DUMP (.gsa) THAT YthfiadfekoaniaaGreatDoorProg.lean LOADS. Nothing in Lean hashes anything: it is a label: what it is worth is what the hold of that sum in a sandbox is worth. -/
noncomputable def Tryz.pinned : Pinned := { name := "ythfiadfekoaniaagreatdoor", sum := "606f639f7a92e6d72a0ef941e56c6a2ead2e23625b28c570bd9e2e97d77d22d0", checked := Tryz.checked }
namespace Rows
def none {H : Type} : Left H := { results := [], args := [] }

/- WHAT THE LISTED PACKAGE-LEVEL VARIABLES READ AS WHEN THE CALL BEGINS. Each datum BY PROGRAM (the guide's laid-datum.mjs) off the statement by which the dump's own 'gosem.cut.vars' lays the variable. In a bare row this is a premise. The card (YthfiadfekoaniaaGreatDoorCards.lean) ties it to the program's text. -/
def laid_innkeeper_journal_counts {H : Type} : DataW H := .agg [.lit (.int .i64 0), .lit (.int .i64 7), .lit (.int .i64 1), .lit (.int .i64 3), .lit (.int .i64 3), .lit (.int .i64 4), .lit (.int .i64 3), .lit (.int .i64 2), .lit (.int .i64 6), .lit (.int .i64 4)]

/-- 'innkeeperlaw41.RulesGrow': WHATEVER THE INPUT: true; the input reads as it did. -/
def rulesGrowSpec : ChangeSpec := { name := "rulesGrow", fn := fun _ => fun
  | [d1, d2] => { results := [.lit (.bool true)], args := [d1, d2] }
  | _ => none }
def rulesGrowRow : OpenClaim := { program := "ythfiadfekoaniaagreatdoor", sum := "606f639f7a92e6d72a0ef941e56c6a2ead2e23625b28c570bd9e2e97d77d22d0", func := "innkeeper/innkeeperlaw41.RulesGrow", spec := "rulesGrow", unfollowed := true, recurses := true, named := ["innkeeper/journal.counts"], plainKeys := false, apart := false, laid := [("innkeeper/journal.counts", laid_innkeeper_journal_counts)] }
def RulesGrowSaid : Prop := rulesGrowRow.holds Tryz.pinned (OpenSpec.ofChange rulesGrowSpec)

/-- ITS FALSE NEIGHBOUR: 'it returns false'. Refute it at one input. -/
def rulesGrowWrong : ChangeSpec := { name := "rulesGrow", fn := fun _ => fun
  | [d1, d2] => { results := [.lit (.bool false)], args := [d1, d2] }
  | _ => none }
def RulesGrowWrongFalsely : Prop := rulesGrowRow.holds Tryz.pinned (OpenSpec.ofChange rulesGrowWrong)

/-- 'innkeeperlaw41.RulesWho': WHATEVER THE INPUT: true; the input reads as it did. -/
def rulesWhoSpec : ChangeSpec := { name := "rulesWho", fn := fun _ => fun
  | [d] => { results := [.lit (.bool true)], args := [d] }
  | _ => none }
def rulesWhoRow : OpenClaim := { program := "ythfiadfekoaniaagreatdoor", sum := "606f639f7a92e6d72a0ef941e56c6a2ead2e23625b28c570bd9e2e97d77d22d0", func := "innkeeper/innkeeperlaw41.RulesWho", spec := "rulesWho", unfollowed := true, recurses := true, named := ["innkeeper/journal.counts"], plainKeys := false, apart := false, laid := [("innkeeper/journal.counts", laid_innkeeper_journal_counts)] }
def RulesWhoSaid : Prop := rulesWhoRow.holds Tryz.pinned (OpenSpec.ofChange rulesWhoSpec)

/-- ITS FALSE NEIGHBOUR: 'it returns false'. Refute it at one input. -/
def rulesWhoWrong : ChangeSpec := { name := "rulesWho", fn := fun _ => fun
  | [d] => { results := [.lit (.bool false)], args := [d] }
  | _ => none }
def RulesWhoWrongFalsely : Prop := rulesWhoRow.holds Tryz.pinned (OpenSpec.ofChange rulesWhoWrong)

/-- 'innkeeperlaw41.RulesOthers': WHATEVER THE INPUT: true; the input reads as it did. -/
def rulesOthersSpec : ChangeSpec := { name := "rulesOthers", fn := fun _ => fun
  | [d1, d2] => { results := [.lit (.bool true)], args := [d1, d2] }
  | _ => none }
def rulesOthersRow : OpenClaim := { program := "ythfiadfekoaniaagreatdoor", sum := "606f639f7a92e6d72a0ef941e56c6a2ead2e23625b28c570bd9e2e97d77d22d0", func := "innkeeper/innkeeperlaw41.RulesOthers", spec := "rulesOthers", unfollowed := true, recurses := true, named := ["innkeeper/journal.counts"], plainKeys := false, apart := false, laid := [("innkeeper/journal.counts", laid_innkeeper_journal_counts)] }
def RulesOthersSaid : Prop := rulesOthersRow.holds Tryz.pinned (OpenSpec.ofChange rulesOthersSpec)

/-- ITS FALSE NEIGHBOUR: 'it returns false'. Refute it at one input. -/
def rulesOthersWrong : ChangeSpec := { name := "rulesOthers", fn := fun _ => fun
  | [d1, d2] => { results := [.lit (.bool false)], args := [d1, d2] }
  | _ => none }
def RulesOthersWrongFalsely : Prop := rulesOthersRow.holds Tryz.pinned (OpenSpec.ofChange rulesOthersWrong)

/- THE SECOND FORM. 'bulk': how many values and letters a reading holds, each counted each time it is reached (what is shared counts as often as it is met; a slice's spare places count too). A statement '..UptoSaid' is the law's where the arguments, and the package variables that the reading takes, are together of bulk at most 1048576: NARROWER than '..Said'. Prove '..Said' where nothing that the law and all that it calls make is longer than what came in: it says more and counts as full. Else prove '..UptoSaid'. A law counts once. -/
mutual
def uptoBulk {H : Type} : DataW H → Nat
  | .lit (.string bytes) => bytes.length + 1
  | .lit _ => 1
  | .nil => 1
  | .ptr d => uptoBulk d + 1
  | .slice elems spare => uptoBulkAll elems + uptoBulkAll spare + 1
  | .agg parts => uptoBulkAll parts + 1
  | .iface _ d => uptoBulk d + 1
  | .map entries => uptoBulkEntries entries + 1
  | .held _ => 1
def uptoBulkAll {H : Type} : List (DataW H) → Nat
  | [] => 0
  | d :: r => uptoBulk d + uptoBulkAll r
def uptoBulkEntries {H : Type} : List (Lit × DataW H) → Nat
  | [] => 0
  | x :: r => uptoBulkEntry x + uptoBulkEntries r
def uptoBulkEntry {H : Type} : Lit × DataW H → Nat
  | (.string bytes, d) => bytes.length + uptoBulk d + 1
  | (_, d) => uptoBulk d + 1
 end
def uptoSmall : (H : Type) → List (DataW H) → Bool := fun _ ds => decide (uptoBulkAll ds ≤ 1048576)
def OpenSpec.upto (s : _root_.Go.ChangeSpec) : _root_.Go.OpenSpec := { _root_.Go.OpenSpec.ofChange s with cond := some uptoSmall }

/-- 'innkeeperlaw41.RulesGrow', WHERE WHAT IT READS IS OF BULK AT MOST 1048576: true; the input reads as it did. -/
def rulesGrowUptoRow : OpenClaim := { program := "ythfiadfekoaniaagreatdoor", sum := "606f639f7a92e6d72a0ef941e56c6a2ead2e23625b28c570bd9e2e97d77d22d0", func := "innkeeper/innkeeperlaw41.RulesGrow", spec := "rulesGrow", unfollowed := true, recurses := true, named := ["innkeeper/journal.counts"], plainKeys := false, apart := false, laid := [("innkeeper/journal.counts", laid_innkeeper_journal_counts)], narrowed := true }
def RulesGrowUptoSaid : Prop := rulesGrowUptoRow.holds Tryz.pinned (OpenSpec.upto rulesGrowSpec)

/-- 'innkeeperlaw41.RulesWho', WHERE WHAT IT READS IS OF BULK AT MOST 1048576: true; the input reads as it did. -/
def rulesWhoUptoRow : OpenClaim := { program := "ythfiadfekoaniaagreatdoor", sum := "606f639f7a92e6d72a0ef941e56c6a2ead2e23625b28c570bd9e2e97d77d22d0", func := "innkeeper/innkeeperlaw41.RulesWho", spec := "rulesWho", unfollowed := true, recurses := true, named := ["innkeeper/journal.counts"], plainKeys := false, apart := false, laid := [("innkeeper/journal.counts", laid_innkeeper_journal_counts)], narrowed := true }
def RulesWhoUptoSaid : Prop := rulesWhoUptoRow.holds Tryz.pinned (OpenSpec.upto rulesWhoSpec)

/-- 'innkeeperlaw41.RulesOthers', WHERE WHAT IT READS IS OF BULK AT MOST 1048576: true; the input reads as it did. -/
def rulesOthersUptoRow : OpenClaim := { program := "ythfiadfekoaniaagreatdoor", sum := "606f639f7a92e6d72a0ef941e56c6a2ead2e23625b28c570bd9e2e97d77d22d0", func := "innkeeper/innkeeperlaw41.RulesOthers", spec := "rulesOthers", unfollowed := true, recurses := true, named := ["innkeeper/journal.counts"], plainKeys := false, apart := false, laid := [("innkeeper/journal.counts", laid_innkeeper_journal_counts)], narrowed := true }
def RulesOthersUptoSaid : Prop := rulesOthersUptoRow.holds Tryz.pinned (OpenSpec.upto rulesOthersSpec)

end Rows
end Go.Proofs.YthfiadfekoaniaaGreatDoor
