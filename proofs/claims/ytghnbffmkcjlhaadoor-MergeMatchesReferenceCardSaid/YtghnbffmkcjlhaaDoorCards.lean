/-
  DERIVED. GIVEN WITH THE SEED: THE CARDS: each row of YtghnbffmkcjlhaaDoorRows.lean that lists a variable, with what it lists TIED to the program's text (the seventh form; the later family's looks); each row that meets fmt, with fmt's text TOLD by the authors' own Lean function (tested against real Go, not proved from fmt's source: count such statements apart). THE CARD IS WHAT COUNTS. Prove the row's statement (the work); the ties are given (YtghnbffmkcjlhaaDoorTie.lean); close each card by the builder's one call (the guide's Derived/Test/ToyasCard.lean, 'card_holds'). Laid BY PROGRAM, IN A SANDBOX (cutbox-door.mjs). By AI agents, Wed Nov 11 2026. No macro, syntax, notation, axiom, sorry.
-/
import Derived.Test.YtghnbffmkcjlhaaDoorRows
import GoSem.ClaimSeven
namespace Go.Proofs.YtghnbffmkcjlhaaDoor
namespace Rows

/-- THE TIED CARD OF 'innkeeperlaw40.MergeOrder'. -/
def mergeOrderCard : Claim7 := { stood := { row := mergeOrderRow, standIns := [], harness := (true, "11aa38837489d1809f99f98908fa68a594e02ba7789d2ec978dbcce3b4c4e32e"), looks := false }, kinds := [], alts := [], laidByText := true, laidKinds := [.data], laidTests := true, laidLooks := .later }
def MergeOrderCardSaid : Prop := Claim7.holds Tryd.pinned (.plain (OpenSpec.ofChange mergeOrderSpec)) mergeOrderCard

/-- THE TIED CARD OF 'innkeeperlaw40.MergeParts'. -/
def mergePartsCard : Claim7 := { stood := { row := mergePartsRow, standIns := [], harness := (true, "11aa38837489d1809f99f98908fa68a594e02ba7789d2ec978dbcce3b4c4e32e"), looks := false }, kinds := [], alts := [], laidByText := true, laidKinds := [.data], laidTests := true, laidLooks := .later }
def MergePartsCardSaid : Prop := Claim7.holds Tryd.pinned (.plain (OpenSpec.ofChange mergePartsSpec)) mergePartsCard

/-- THE TIED CARD OF 'innkeeperlaw40.MergeGaps'. -/
def mergeGapsCard : Claim7 := { stood := { row := mergeGapsRow, standIns := [], harness := (true, "11aa38837489d1809f99f98908fa68a594e02ba7789d2ec978dbcce3b4c4e32e"), looks := false }, kinds := [], alts := [], laidByText := true, laidKinds := [.data], laidTests := true, laidLooks := .later }
def MergeGapsCardSaid : Prop := Claim7.holds Tryd.pinned (.plain (OpenSpec.ofChange mergeGapsSpec)) mergeGapsCard

/-- THE TIED CARD OF 'innkeeperlaw40.MergeWhole'. -/
def mergeWholeCard : Claim7 := { stood := { row := mergeWholeRow, standIns := [], harness := (true, "11aa38837489d1809f99f98908fa68a594e02ba7789d2ec978dbcce3b4c4e32e"), looks := false }, kinds := [], alts := [], laidByText := true, laidKinds := [.data], laidTests := true, laidLooks := .later }
def MergeWholeCardSaid : Prop := Claim7.holds Tryd.pinned (.plain (OpenSpec.ofChange mergeWholeSpec)) mergeWholeCard

/-- THE TIED CARD OF 'innkeeperlaw40.MergeMatchesReference'. -/
def mergeMatchesReferenceCard : Claim7 := { stood := { row := mergeMatchesReferenceRow, standIns := [], harness := (true, "11aa38837489d1809f99f98908fa68a594e02ba7789d2ec978dbcce3b4c4e32e"), looks := false }, kinds := [], alts := [], laidByText := true, laidKinds := [.data], laidTests := true, laidLooks := .later }
def MergeMatchesReferenceCardSaid : Prop := Claim7.holds Tryd.pinned (.plain (OpenSpec.ofChange mergeMatchesReferenceSpec)) mergeMatchesReferenceCard

/-- THE TIED CARD OF 'innkeeperlaw40.MergeJoins'. -/
def mergeJoinsCard : Claim7 := { stood := { row := mergeJoinsRow, standIns := [], harness := (true, "11aa38837489d1809f99f98908fa68a594e02ba7789d2ec978dbcce3b4c4e32e"), looks := false }, kinds := [], alts := [], laidByText := true, laidKinds := [.data], laidTests := true, laidLooks := .later }
def MergeJoinsCardSaid : Prop := Claim7.holds Tryd.pinned (.plain (OpenSpec.ofChange mergeJoinsSpec)) mergeJoinsCard

/-- THE SECOND FORM's CARD OF 'innkeeperlaw40.MergeOrder'. -/
def mergeOrderUptoCard : Claim7 := { stood := { row := mergeOrderUptoRow, standIns := [], harness := (true, "11aa38837489d1809f99f98908fa68a594e02ba7789d2ec978dbcce3b4c4e32e"), looks := false }, kinds := [], alts := [], laidByText := true, laidKinds := [.data], laidTests := true, laidLooks := .later }
def MergeOrderUptoCardSaid : Prop := Claim7.holds Tryd.pinned (.plain (OpenSpec.upto mergeOrderSpec)) mergeOrderUptoCard

/-- THE SECOND FORM's CARD OF 'innkeeperlaw40.MergeParts'. -/
def mergePartsUptoCard : Claim7 := { stood := { row := mergePartsUptoRow, standIns := [], harness := (true, "11aa38837489d1809f99f98908fa68a594e02ba7789d2ec978dbcce3b4c4e32e"), looks := false }, kinds := [], alts := [], laidByText := true, laidKinds := [.data], laidTests := true, laidLooks := .later }
def MergePartsUptoCardSaid : Prop := Claim7.holds Tryd.pinned (.plain (OpenSpec.upto mergePartsSpec)) mergePartsUptoCard

/-- THE SECOND FORM's CARD OF 'innkeeperlaw40.MergeGaps'. -/
def mergeGapsUptoCard : Claim7 := { stood := { row := mergeGapsUptoRow, standIns := [], harness := (true, "11aa38837489d1809f99f98908fa68a594e02ba7789d2ec978dbcce3b4c4e32e"), looks := false }, kinds := [], alts := [], laidByText := true, laidKinds := [.data], laidTests := true, laidLooks := .later }
def MergeGapsUptoCardSaid : Prop := Claim7.holds Tryd.pinned (.plain (OpenSpec.upto mergeGapsSpec)) mergeGapsUptoCard

/-- THE SECOND FORM's CARD OF 'innkeeperlaw40.MergeWhole'. -/
def mergeWholeUptoCard : Claim7 := { stood := { row := mergeWholeUptoRow, standIns := [], harness := (true, "11aa38837489d1809f99f98908fa68a594e02ba7789d2ec978dbcce3b4c4e32e"), looks := false }, kinds := [], alts := [], laidByText := true, laidKinds := [.data], laidTests := true, laidLooks := .later }
def MergeWholeUptoCardSaid : Prop := Claim7.holds Tryd.pinned (.plain (OpenSpec.upto mergeWholeSpec)) mergeWholeUptoCard

/-- THE SECOND FORM's CARD OF 'innkeeperlaw40.MergeMatchesReference'. -/
def mergeMatchesReferenceUptoCard : Claim7 := { stood := { row := mergeMatchesReferenceUptoRow, standIns := [], harness := (true, "11aa38837489d1809f99f98908fa68a594e02ba7789d2ec978dbcce3b4c4e32e"), looks := false }, kinds := [], alts := [], laidByText := true, laidKinds := [.data], laidTests := true, laidLooks := .later }
def MergeMatchesReferenceUptoCardSaid : Prop := Claim7.holds Tryd.pinned (.plain (OpenSpec.upto mergeMatchesReferenceSpec)) mergeMatchesReferenceUptoCard

/-- THE SECOND FORM's CARD OF 'innkeeperlaw40.MergeJoins'. -/
def mergeJoinsUptoCard : Claim7 := { stood := { row := mergeJoinsUptoRow, standIns := [], harness := (true, "11aa38837489d1809f99f98908fa68a594e02ba7789d2ec978dbcce3b4c4e32e"), looks := false }, kinds := [], alts := [], laidByText := true, laidKinds := [.data], laidTests := true, laidLooks := .later }
def MergeJoinsUptoCardSaid : Prop := Claim7.holds Tryd.pinned (.plain (OpenSpec.upto mergeJoinsSpec)) mergeJoinsUptoCard
end Rows
end Go.Proofs.YtghnbffmkcjlhaaDoor
