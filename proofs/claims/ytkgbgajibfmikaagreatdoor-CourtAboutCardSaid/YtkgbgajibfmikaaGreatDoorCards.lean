/-
  DERIVED. GIVEN WITH THE SEED: THE CARDS: each row of YtkgbgajibfmikaaGreatDoorRows.lean that lists a variable, with what it lists TIED to the program's text (the seventh form; the later family's looks); each row that meets fmt, with fmt's text TOLD by the authors' own Lean function (tested against real Go, not proved from fmt's source: count such statements apart). THE CARD IS WHAT COUNTS. Prove the row's statement (the work); the ties are given (YtkgbgajibfmikaaGreatDoorTie.lean); close each card by the builder's one call (the guide's Derived/Test/ToyasCard.lean, 'card_holds'). Laid BY PROGRAM, IN A SANDBOX (cutbox-door.mjs). By AI agents, Wed Nov 11 2026. No macro, syntax, notation, axiom, sorry.
-/
import Derived.Test.YtkgbgajibfmikaaGreatDoorRows
import GoSem.ClaimSeven
namespace Go.Proofs.YtkgbgajibfmikaaGreatDoor
namespace Rows

/-- THE TIED CARD OF 'innkeeperlaw42.CourtVerdicts'. -/
def courtVerdictsCard : Claim7 := { stood := { row := courtVerdictsRow, standIns := [], harness := (true, "c80ebd3873221c8d4b6ec193c47fc5df502f1669d19aef0453049b7b003b525f"), looks := false }, kinds := [], alts := [], laidByText := true, laidKinds := [.data], laidTests := true, laidLooks := .later }
def CourtVerdictsCardSaid : Prop := Claim7.holds Tryz.pinned (.plain (OpenSpec.ofChange courtVerdictsSpec)) courtVerdictsCard

/-- THE TIED CARD OF 'innkeeperlaw42.CourtStays'. -/
def courtStaysCard : Claim7 := { stood := { row := courtStaysRow, standIns := [], harness := (true, "c80ebd3873221c8d4b6ec193c47fc5df502f1669d19aef0453049b7b003b525f"), looks := false }, kinds := [], alts := [], laidByText := true, laidKinds := [.data], laidTests := true, laidLooks := .later }
def CourtStaysCardSaid : Prop := Claim7.holds Tryz.pinned (.plain (OpenSpec.ofChange courtStaysSpec)) courtStaysCard

/-- THE TIED CARD OF 'innkeeperlaw42.CourtNobody'. -/
def courtNobodyCard : Claim7 := { stood := { row := courtNobodyRow, standIns := [], harness := (true, "c80ebd3873221c8d4b6ec193c47fc5df502f1669d19aef0453049b7b003b525f"), looks := false }, kinds := [], alts := [], laidByText := true, laidKinds := [.data], laidTests := true, laidLooks := .later }
def CourtNobodyCardSaid : Prop := Claim7.holds Tryz.pinned (.plain (OpenSpec.ofChange courtNobodySpec)) courtNobodyCard

/-- THE TIED CARD OF 'innkeeperlaw42.CourtOwn'. -/
def courtOwnCard : Claim7 := { stood := { row := courtOwnRow, standIns := [], harness := (true, "c80ebd3873221c8d4b6ec193c47fc5df502f1669d19aef0453049b7b003b525f"), looks := false }, kinds := [], alts := [], laidByText := true, laidKinds := [.data], laidTests := true, laidLooks := .later }
def CourtOwnCardSaid : Prop := Claim7.holds Tryz.pinned (.plain (OpenSpec.ofChange courtOwnSpec)) courtOwnCard

/-- THE TIED CARD OF 'innkeeperlaw42.CourtAbout'. -/
def courtAboutCard : Claim7 := { stood := { row := courtAboutRow, standIns := [], harness := (true, "c80ebd3873221c8d4b6ec193c47fc5df502f1669d19aef0453049b7b003b525f"), looks := false }, kinds := [], alts := [], laidByText := true, laidKinds := [.data], laidTests := true, laidLooks := .later }
def CourtAboutCardSaid : Prop := Claim7.holds Tryz.pinned (.plain (OpenSpec.ofChange courtAboutSpec)) courtAboutCard

/-- THE SECOND FORM's CARD OF 'innkeeperlaw42.CourtVerdicts'. -/
def courtVerdictsUptoCard : Claim7 := { stood := { row := courtVerdictsUptoRow, standIns := [], harness := (true, "c80ebd3873221c8d4b6ec193c47fc5df502f1669d19aef0453049b7b003b525f"), looks := false }, kinds := [], alts := [], laidByText := true, laidKinds := [.data], laidTests := true, laidLooks := .later }
def CourtVerdictsUptoCardSaid : Prop := Claim7.holds Tryz.pinned (.plain (OpenSpec.upto courtVerdictsSpec)) courtVerdictsUptoCard

/-- THE SECOND FORM's CARD OF 'innkeeperlaw42.CourtStays'. -/
def courtStaysUptoCard : Claim7 := { stood := { row := courtStaysUptoRow, standIns := [], harness := (true, "c80ebd3873221c8d4b6ec193c47fc5df502f1669d19aef0453049b7b003b525f"), looks := false }, kinds := [], alts := [], laidByText := true, laidKinds := [.data], laidTests := true, laidLooks := .later }
def CourtStaysUptoCardSaid : Prop := Claim7.holds Tryz.pinned (.plain (OpenSpec.upto courtStaysSpec)) courtStaysUptoCard

/-- THE SECOND FORM's CARD OF 'innkeeperlaw42.CourtNobody'. -/
def courtNobodyUptoCard : Claim7 := { stood := { row := courtNobodyUptoRow, standIns := [], harness := (true, "c80ebd3873221c8d4b6ec193c47fc5df502f1669d19aef0453049b7b003b525f"), looks := false }, kinds := [], alts := [], laidByText := true, laidKinds := [.data], laidTests := true, laidLooks := .later }
def CourtNobodyUptoCardSaid : Prop := Claim7.holds Tryz.pinned (.plain (OpenSpec.upto courtNobodySpec)) courtNobodyUptoCard

/-- THE SECOND FORM's CARD OF 'innkeeperlaw42.CourtOwn'. -/
def courtOwnUptoCard : Claim7 := { stood := { row := courtOwnUptoRow, standIns := [], harness := (true, "c80ebd3873221c8d4b6ec193c47fc5df502f1669d19aef0453049b7b003b525f"), looks := false }, kinds := [], alts := [], laidByText := true, laidKinds := [.data], laidTests := true, laidLooks := .later }
def CourtOwnUptoCardSaid : Prop := Claim7.holds Tryz.pinned (.plain (OpenSpec.upto courtOwnSpec)) courtOwnUptoCard

/-- THE SECOND FORM's CARD OF 'innkeeperlaw42.CourtAbout'. -/
def courtAboutUptoCard : Claim7 := { stood := { row := courtAboutUptoRow, standIns := [], harness := (true, "c80ebd3873221c8d4b6ec193c47fc5df502f1669d19aef0453049b7b003b525f"), looks := false }, kinds := [], alts := [], laidByText := true, laidKinds := [.data], laidTests := true, laidLooks := .later }
def CourtAboutUptoCardSaid : Prop := Claim7.holds Tryz.pinned (.plain (OpenSpec.upto courtAboutSpec)) courtAboutUptoCard
end Rows
end Go.Proofs.YtkgbgajibfmikaaGreatDoor
