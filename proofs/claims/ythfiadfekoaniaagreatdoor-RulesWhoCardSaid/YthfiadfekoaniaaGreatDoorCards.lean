/-
  DERIVED. GIVEN WITH THE SEED: THE CARDS: each row of YthfiadfekoaniaaGreatDoorRows.lean that lists a variable, with what it lists TIED to the program's text (the seventh form; the later family's looks); each row that meets fmt, with fmt's text TOLD by the authors' own Lean function (tested against real Go, not proved from fmt's source: count such statements apart). THE CARD IS WHAT COUNTS. Prove the row's statement (the work); the ties are given (YthfiadfekoaniaaGreatDoorTie.lean); close each card by the builder's one call (the guide's Derived/Test/ToyasCard.lean, 'card_holds'). Laid BY PROGRAM, IN A SANDBOX (cutbox-door.mjs). By AI agents, Wed Nov 11 2026. No macro, syntax, notation, axiom, sorry.
-/
import Derived.Test.YthfiadfekoaniaaGreatDoorRows
import GoSem.ClaimSeven
namespace Go.Proofs.YthfiadfekoaniaaGreatDoor
namespace Rows

/-- THE TIED CARD OF 'innkeeperlaw41.RulesGrow'. -/
def rulesGrowCard : Claim7 := { stood := { row := rulesGrowRow, standIns := [], harness := (true, "5678778e27d1e8afcb753d681b1be9cd1a2924ddd780e30652991e979e994b81"), looks := false }, kinds := [], alts := [], laidByText := true, laidKinds := [.data], laidTests := true, laidLooks := .later }
def RulesGrowCardSaid : Prop := Claim7.holds Tryz.pinned (.plain (OpenSpec.ofChange rulesGrowSpec)) rulesGrowCard

/-- THE TIED CARD OF 'innkeeperlaw41.RulesWho'. -/
def rulesWhoCard : Claim7 := { stood := { row := rulesWhoRow, standIns := [], harness := (true, "5678778e27d1e8afcb753d681b1be9cd1a2924ddd780e30652991e979e994b81"), looks := false }, kinds := [], alts := [], laidByText := true, laidKinds := [.data], laidTests := true, laidLooks := .later }
def RulesWhoCardSaid : Prop := Claim7.holds Tryz.pinned (.plain (OpenSpec.ofChange rulesWhoSpec)) rulesWhoCard

/-- THE TIED CARD OF 'innkeeperlaw41.RulesOthers'. -/
def rulesOthersCard : Claim7 := { stood := { row := rulesOthersRow, standIns := [], harness := (true, "5678778e27d1e8afcb753d681b1be9cd1a2924ddd780e30652991e979e994b81"), looks := false }, kinds := [], alts := [], laidByText := true, laidKinds := [.data], laidTests := true, laidLooks := .later }
def RulesOthersCardSaid : Prop := Claim7.holds Tryz.pinned (.plain (OpenSpec.ofChange rulesOthersSpec)) rulesOthersCard

/-- THE SECOND FORM's CARD OF 'innkeeperlaw41.RulesGrow'. -/
def rulesGrowUptoCard : Claim7 := { stood := { row := rulesGrowUptoRow, standIns := [], harness := (true, "5678778e27d1e8afcb753d681b1be9cd1a2924ddd780e30652991e979e994b81"), looks := false }, kinds := [], alts := [], laidByText := true, laidKinds := [.data], laidTests := true, laidLooks := .later }
def RulesGrowUptoCardSaid : Prop := Claim7.holds Tryz.pinned (.plain (OpenSpec.upto rulesGrowSpec)) rulesGrowUptoCard

/-- THE SECOND FORM's CARD OF 'innkeeperlaw41.RulesWho'. -/
def rulesWhoUptoCard : Claim7 := { stood := { row := rulesWhoUptoRow, standIns := [], harness := (true, "5678778e27d1e8afcb753d681b1be9cd1a2924ddd780e30652991e979e994b81"), looks := false }, kinds := [], alts := [], laidByText := true, laidKinds := [.data], laidTests := true, laidLooks := .later }
def RulesWhoUptoCardSaid : Prop := Claim7.holds Tryz.pinned (.plain (OpenSpec.upto rulesWhoSpec)) rulesWhoUptoCard

/-- THE SECOND FORM's CARD OF 'innkeeperlaw41.RulesOthers'. -/
def rulesOthersUptoCard : Claim7 := { stood := { row := rulesOthersUptoRow, standIns := [], harness := (true, "5678778e27d1e8afcb753d681b1be9cd1a2924ddd780e30652991e979e994b81"), looks := false }, kinds := [], alts := [], laidByText := true, laidKinds := [.data], laidTests := true, laidLooks := .later }
def RulesOthersUptoCardSaid : Prop := Claim7.holds Tryz.pinned (.plain (OpenSpec.upto rulesOthersSpec)) rulesOthersUptoCard
end Rows
end Go.Proofs.YthfiadfekoaniaaGreatDoor
