/-
  DERIVED. GIVEN WITH THE SEED: THE CARDS: each row of YtonnaiknlgmejaaGreatDoorRows.lean that lists a variable, with what it lists TIED to the program's text (the seventh form; the later family's looks); each row that meets fmt, with fmt's text TOLD by the authors' own Lean function (tested against real Go, not proved from fmt's source: count such statements apart). THE CARD IS WHAT COUNTS. Prove the row's statement (the work); the ties are given (YtonnaiknlgmejaaGreatDoorTie.lean); close each card by the builder's one call (the guide's Derived/Test/ToyasCard.lean, 'card_holds'). Laid BY PROGRAM, IN A SANDBOX (cutbox-door.mjs). By AI agents, Wed Nov 11 2026. No macro, syntax, notation, axiom, sorry.
-/
import Derived.Test.YtonnaiknlgmejaaGreatDoorRows
import GoSem.ClaimSeven
namespace Go.Proofs.YtonnaiknlgmejaaGreatDoor
namespace Rows

/-- THE TIED CARD OF 'innkeeperlaw41.RulesHonest'. -/
def rulesHonestCard : Claim7 := { stood := { row := rulesHonestRow, standIns := [], harness := (true, "db44d4d057bda26d1e43ec4c94d6f9ace2d88be611edff8a02ca5a48ce108cae"), looks := false }, kinds := [], alts := [], laidByText := true, laidKinds := [.data], laidTests := true, laidLooks := .later }
def RulesHonestCardSaid : Prop := Claim7.holds Tryz.pinned (.plain (OpenSpec.ofChange rulesHonestSpec)) rulesHonestCard

/-- THE TIED CARD OF 'innkeeperlaw41.RulesFound'. -/
def rulesFoundCard : Claim7 := { stood := { row := rulesFoundRow, standIns := [], harness := (true, "db44d4d057bda26d1e43ec4c94d6f9ace2d88be611edff8a02ca5a48ce108cae"), looks := false }, kinds := [], alts := [], laidByText := true, laidKinds := [.data], laidTests := true, laidLooks := .later }
def RulesFoundCardSaid : Prop := Claim7.holds Tryz.pinned (.plain (OpenSpec.ofChange rulesFoundSpec)) rulesFoundCard

/-- THE TIED CARD OF 'innkeeperlaw42.CourtMatchesReference'. -/
def courtMatchesReferenceCard : Claim7 := { stood := { row := courtMatchesReferenceRow, standIns := [], harness := (true, "db44d4d057bda26d1e43ec4c94d6f9ace2d88be611edff8a02ca5a48ce108cae"), looks := false }, kinds := [], alts := [], laidByText := true, laidKinds := [.data], laidTests := true, laidLooks := .later }
def CourtMatchesReferenceCardSaid : Prop := Claim7.holds Tryz.pinned (.plain (OpenSpec.ofChange courtMatchesReferenceSpec)) courtMatchesReferenceCard

/-- THE SECOND FORM's CARD OF 'innkeeperlaw41.RulesHonest'. -/
def rulesHonestUptoCard : Claim7 := { stood := { row := rulesHonestUptoRow, standIns := [], harness := (true, "db44d4d057bda26d1e43ec4c94d6f9ace2d88be611edff8a02ca5a48ce108cae"), looks := false }, kinds := [], alts := [], laidByText := true, laidKinds := [.data], laidTests := true, laidLooks := .later }
def RulesHonestUptoCardSaid : Prop := Claim7.holds Tryz.pinned (.plain (OpenSpec.upto rulesHonestSpec)) rulesHonestUptoCard

/-- THE SECOND FORM's CARD OF 'innkeeperlaw41.RulesFound'. -/
def rulesFoundUptoCard : Claim7 := { stood := { row := rulesFoundUptoRow, standIns := [], harness := (true, "db44d4d057bda26d1e43ec4c94d6f9ace2d88be611edff8a02ca5a48ce108cae"), looks := false }, kinds := [], alts := [], laidByText := true, laidKinds := [.data], laidTests := true, laidLooks := .later }
def RulesFoundUptoCardSaid : Prop := Claim7.holds Tryz.pinned (.plain (OpenSpec.upto rulesFoundSpec)) rulesFoundUptoCard

/-- THE SECOND FORM's CARD OF 'innkeeperlaw42.CourtMatchesReference'. -/
def courtMatchesReferenceUptoCard : Claim7 := { stood := { row := courtMatchesReferenceUptoRow, standIns := [], harness := (true, "db44d4d057bda26d1e43ec4c94d6f9ace2d88be611edff8a02ca5a48ce108cae"), looks := false }, kinds := [], alts := [], laidByText := true, laidKinds := [.data], laidTests := true, laidLooks := .later }
def CourtMatchesReferenceUptoCardSaid : Prop := Claim7.holds Tryz.pinned (.plain (OpenSpec.upto courtMatchesReferenceSpec)) courtMatchesReferenceUptoCard
end Rows
end Go.Proofs.YtonnaiknlgmejaaGreatDoor
