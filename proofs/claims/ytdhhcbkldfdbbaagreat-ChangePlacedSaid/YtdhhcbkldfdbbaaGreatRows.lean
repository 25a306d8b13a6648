/-
  NARROWER THAN 'FOR EVERY INPUT', by the rows' own cells (each row's printed sentence says how): AssignMatchesReference: loops.
  DERIVED. THE GIVEN ROWS OF THIS SEAT. 12 by the template 'for every input the law returns true; each argument reads behind the call as it read before'; 0 by the template 'total and deterministic' (their statements: YtdhhcbkldfdbbaaGreatTotals.lean).
  GIVEN WITH THE SEED: the statements are not yours to turn. If you find one false, say at which input.
  Laid BY PROGRAM, IN A SANDBOX (cutbox-rows.mjs): the forced cells as the released guide's own fill.sh prints them over the translation 2d4cba4b693c153e… (all of the seat's roots in one cut). By AI agents, Wed Nov 11 2026. No macro, syntax, notation, axiom, sorry.
-/
import Derived.Test.YtdhhcbkldfdbbaaGreatChecked
import GoSem.Claim
import GoSem.ClaimJoined
import GoSem.ClaimMapViews
import Derived.JoinedTies
import Derived.KernelRfl
namespace Go.Proofs.YtdhhcbkldfdbbaaGreat
/- THE CELL 'sum', in the pinned program and in every row, IS THE sha256 OF THE DUMP (.gsa) THAT YtdhhcbkldfdbbaaGreatProg.lean LOADS. Nothing in Lean hashes anything: it is a label: what it is worth is what the hold of that sum in a sandbox is worth. -/
noncomputable def Tryz.pinned : Pinned := { name := "ytdhhcbkldfdbbaagreat", sum := "2d4cba4b693c153e65dba2c9f16b5c81fec03f3d4f97d3f04a7ef805e5d3dc89", checked := Tryz.checked }
namespace Rows
def none {H : Type} : Left H := { results := [], args := [] }

/-- 'innkeeperlaw19.HallRefuses': WHATEVER THE INPUT: true; the input reads as it did. -/
def hallRefusesSpec : ChangeSpec := { name := "hallRefuses", fn := fun _ => fun
  | [d1, d2, d3, d4] => { results := [.lit (.bool true)], args := [d1, d2, d3, d4] }
  | _ => none }
def hallRefusesRow : OpenClaim := { program := "ytdhhcbkldfdbbaagreat", sum := "2d4cba4b693c153e65dba2c9f16b5c81fec03f3d4f97d3f04a7ef805e5d3dc89", func := "innkeeper/innkeeperlaw19.HallRefuses", spec := "hallRefuses", inPlace := ["maps.clone"], unfollowed := true, recurses := true, plainKeys := false, apart := false }
def HallRefusesSaid : Prop := hallRefusesRow.holds Tryz.pinned (OpenSpec.ofChange hallRefusesSpec)

/-- ITS FALSE NEIGHBOUR: 'it returns false'. Refute it at one input. -/
def hallRefusesWrong : ChangeSpec := { name := "hallRefuses", fn := fun _ => fun
  | [d1, d2, d3, d4] => { results := [.lit (.bool false)], args := [d1, d2, d3, d4] }
  | _ => none }
def HallRefusesWrongFalsely : Prop := hallRefusesRow.holds Tryz.pinned (OpenSpec.ofChange hallRefusesWrong)

/-- 'innkeeperlaw19.HallEqual': WHATEVER THE INPUT: true; the input reads as it did. -/
def hallEqualSpec : ChangeSpec := { name := "hallEqual", fn := fun _ => fun
  | [d1, d2, d3, d4, d5] => { results := [.lit (.bool true)], args := [d1, d2, d3, d4, d5] }
  | _ => none }
def hallEqualRow : OpenClaim := { program := "ytdhhcbkldfdbbaagreat", sum := "2d4cba4b693c153e65dba2c9f16b5c81fec03f3d4f97d3f04a7ef805e5d3dc89", func := "innkeeper/innkeeperlaw19.HallEqual", spec := "hallEqual", inPlace := ["maps.clone"], unfollowed := true, recurses := true, plainKeys := false, apart := false }
def HallEqualSaid : Prop := hallEqualRow.holds Tryz.pinned (OpenSpec.ofChange hallEqualSpec)

/-- ITS FALSE NEIGHBOUR: 'it returns false'. Refute it at one input. -/
def hallEqualWrong : ChangeSpec := { name := "hallEqual", fn := fun _ => fun
  | [d1, d2, d3, d4, d5] => { results := [.lit (.bool false)], args := [d1, d2, d3, d4, d5] }
  | _ => none }
def HallEqualWrongFalsely : Prop := hallEqualRow.holds Tryz.pinned (OpenSpec.ofChange hallEqualWrong)

/-- 'innkeeperlaw20.AssignMatchesReference': WHATEVER THE INPUT: true; the input reads as it did. -/
def assignMatchesReferenceSpec : ChangeSpec := { name := "assignMatchesReference", fn := fun _ => fun
  | [d1, d2, d3] => { results := [.lit (.bool true)], args := [d1, d2, d3] }
  | _ => none }
def assignMatchesReferenceRow : OpenClaim := { program := "ytdhhcbkldfdbbaagreat", sum := "2d4cba4b693c153e65dba2c9f16b5c81fec03f3d4f97d3f04a7ef805e5d3dc89", func := "innkeeper/innkeeperlaw20.AssignMatchesReference", spec := "assignMatchesReference", inPlace := ["maps.clone"], unfollowed := true, recurses := true, loops := true, plainKeys := false, apart := false }
def AssignMatchesReferenceSaid : Prop := assignMatchesReferenceRow.holds Tryz.pinned (OpenSpec.ofChange assignMatchesReferenceSpec)

/-- ITS FALSE NEIGHBOUR: 'it returns false'. Refute it at one input. -/
def assignMatchesReferenceWrong : ChangeSpec := { name := "assignMatchesReference", fn := fun _ => fun
  | [d1, d2, d3] => { results := [.lit (.bool false)], args := [d1, d2, d3] }
  | _ => none }
def AssignMatchesReferenceWrongFalsely : Prop := assignMatchesReferenceRow.holds Tryz.pinned (OpenSpec.ofChange assignMatchesReferenceWrong)

/-- 'innkeeperlaw20.AssignRefuses': WHATEVER THE INPUT: true; the input reads as it did. -/
def assignRefusesSpec : ChangeSpec := { name := "assignRefuses", fn := fun _ => fun
  | [d1, d2] => { results := [.lit (.bool true)], args := [d1, d2] }
  | _ => none }
def assignRefusesRow : OpenClaim := { program := "ytdhhcbkldfdbbaagreat", sum := "2d4cba4b693c153e65dba2c9f16b5c81fec03f3d4f97d3f04a7ef805e5d3dc89", func := "innkeeper/innkeeperlaw20.AssignRefuses", spec := "assignRefuses", inPlace := ["maps.clone"], unfollowed := true, recurses := true, plainKeys := false, apart := false }
def AssignRefusesSaid : Prop := assignRefusesRow.holds Tryz.pinned (OpenSpec.ofChange assignRefusesSpec)

/-- ITS FALSE NEIGHBOUR: 'it returns false'. Refute it at one input. -/
def assignRefusesWrong : ChangeSpec := { name := "assignRefuses", fn := fun _ => fun
  | [d1, d2] => { results := [.lit (.bool false)], args := [d1, d2] }
  | _ => none }
def AssignRefusesWrongFalsely : Prop := assignRefusesRow.holds Tryz.pinned (OpenSpec.ofChange assignRefusesWrong)

/-- 'innkeeperlaw20.AssignFewer': WHATEVER THE INPUT: true; the input reads as it did. -/
def assignFewerSpec : ChangeSpec := { name := "assignFewer", fn := fun _ => fun
  | [d1, d2, d3, d4] => { results := [.lit (.bool true)], args := [d1, d2, d3, d4] }
  | _ => none }
def assignFewerRow : OpenClaim := { program := "ytdhhcbkldfdbbaagreat", sum := "2d4cba4b693c153e65dba2c9f16b5c81fec03f3d4f97d3f04a7ef805e5d3dc89", func := "innkeeper/innkeeperlaw20.AssignFewer", spec := "assignFewer", inPlace := ["maps.clone"], unfollowed := true, recurses := true, plainKeys := false, apart := false }
def AssignFewerSaid : Prop := assignFewerRow.holds Tryz.pinned (OpenSpec.ofChange assignFewerSpec)

/-- ITS FALSE NEIGHBOUR: 'it returns false'. Refute it at one input. -/
def assignFewerWrong : ChangeSpec := { name := "assignFewer", fn := fun _ => fun
  | [d1, d2, d3, d4] => { results := [.lit (.bool false)], args := [d1, d2, d3, d4] }
  | _ => none }
def AssignFewerWrongFalsely : Prop := assignFewerRow.holds Tryz.pinned (OpenSpec.ofChange assignFewerWrong)

/-- 'innkeeperlaw21.ChangeMatchesReference': WHATEVER THE INPUT: true; the input reads as it did. -/
def changeMatchesReferenceSpec : ChangeSpec := { name := "changeMatchesReference", fn := fun _ => fun
  | [d1, d2, d3, d4, d5, d6] => { results := [.lit (.bool true)], args := [d1, d2, d3, d4, d5, d6] }
  | _ => none }
def changeMatchesReferenceRow : OpenClaim := { program := "ytdhhcbkldfdbbaagreat", sum := "2d4cba4b693c153e65dba2c9f16b5c81fec03f3d4f97d3f04a7ef805e5d3dc89", func := "innkeeper/innkeeperlaw21.ChangeMatchesReference", spec := "changeMatchesReference", inPlace := ["maps.clone"], unfollowed := true, recurses := true, plainKeys := false, apart := false }
def ChangeMatchesReferenceSaid : Prop := changeMatchesReferenceRow.holds Tryz.pinned (OpenSpec.ofChange changeMatchesReferenceSpec)

/-- ITS FALSE NEIGHBOUR: 'it returns false'. Refute it at one input. -/
def changeMatchesReferenceWrong : ChangeSpec := { name := "changeMatchesReference", fn := fun _ => fun
  | [d1, d2, d3, d4, d5, d6] => { results := [.lit (.bool false)], args := [d1, d2, d3, d4, d5, d6] }
  | _ => none }
def ChangeMatchesReferenceWrongFalsely : Prop := changeMatchesReferenceRow.holds Tryz.pinned (OpenSpec.ofChange changeMatchesReferenceWrong)

/-- 'innkeeperlaw21.ChangeBack': WHATEVER THE INPUT: true; the input reads as it did. -/
def changeBackSpec : ChangeSpec := { name := "changeBack", fn := fun _ => fun
  | [d1, d2, d3, d4, d5, d6] => { results := [.lit (.bool true)], args := [d1, d2, d3, d4, d5, d6] }
  | _ => none }
def changeBackRow : OpenClaim := { program := "ytdhhcbkldfdbbaagreat", sum := "2d4cba4b693c153e65dba2c9f16b5c81fec03f3d4f97d3f04a7ef805e5d3dc89", func := "innkeeper/innkeeperlaw21.ChangeBack", spec := "changeBack", inPlace := ["maps.clone"], unfollowed := true, recurses := true, plainKeys := false, apart := false }
def ChangeBackSaid : Prop := changeBackRow.holds Tryz.pinned (OpenSpec.ofChange changeBackSpec)

/-- ITS FALSE NEIGHBOUR: 'it returns false'. Refute it at one input. -/
def changeBackWrong : ChangeSpec := { name := "changeBack", fn := fun _ => fun
  | [d1, d2, d3, d4, d5, d6] => { results := [.lit (.bool false)], args := [d1, d2, d3, d4, d5, d6] }
  | _ => none }
def ChangeBackWrongFalsely : Prop := changeBackRow.holds Tryz.pinned (OpenSpec.ofChange changeBackWrong)

/-- 'innkeeperlaw20.AssignPlaces': WHATEVER THE INPUT: true; the input reads as it did. -/
def assignPlacesSpec : ChangeSpec := { name := "assignPlaces", fn := fun _ => fun
  | [d1, d2] => { results := [.lit (.bool true)], args := [d1, d2] }
  | _ => none }
def assignPlacesRow : OpenClaim := { program := "ytdhhcbkldfdbbaagreat", sum := "2d4cba4b693c153e65dba2c9f16b5c81fec03f3d4f97d3f04a7ef805e5d3dc89", func := "innkeeper/innkeeperlaw20.AssignPlaces", spec := "assignPlaces", inPlace := ["maps.clone"], unfollowed := true, recurses := true, plainKeys := false, apart := false }
def AssignPlacesSaid : Prop := assignPlacesRow.holds Tryz.pinned (OpenSpec.ofChange assignPlacesSpec)

/-- ITS FALSE NEIGHBOUR: 'it returns false'. Refute it at one input. -/
def assignPlacesWrong : ChangeSpec := { name := "assignPlaces", fn := fun _ => fun
  | [d1, d2] => { results := [.lit (.bool false)], args := [d1, d2] }
  | _ => none }
def AssignPlacesWrongFalsely : Prop := assignPlacesRow.holds Tryz.pinned (OpenSpec.ofChange assignPlacesWrong)

/-- 'innkeeperlaw21.ChangePlaced': WHATEVER THE INPUT: true; the input reads as it did. -/
def changePlacedSpec : ChangeSpec := { name := "changePlaced", fn := fun _ => fun
  | [d1, d2, d3, d4, d5, d6] => { results := [.lit (.bool true)], args := [d1, d2, d3, d4, d5, d6] }
  | _ => none }
def changePlacedRow : OpenClaim := { program := "ytdhhcbkldfdbbaagreat", sum := "2d4cba4b693c153e65dba2c9f16b5c81fec03f3d4f97d3f04a7ef805e5d3dc89", func := "innkeeper/innkeeperlaw21.ChangePlaced", spec := "changePlaced", inPlace := ["maps.clone"], unfollowed := true, recurses := true, plainKeys := false, apart := false }
def ChangePlacedSaid : Prop := changePlacedRow.holds Tryz.pinned (OpenSpec.ofChange changePlacedSpec)

/-- ITS FALSE NEIGHBOUR: 'it returns false'. Refute it at one input. -/
def changePlacedWrong : ChangeSpec := { name := "changePlaced", fn := fun _ => fun
  | [d1, d2, d3, d4, d5, d6] => { results := [.lit (.bool false)], args := [d1, d2, d3, d4, d5, d6] }
  | _ => none }
def ChangePlacedWrongFalsely : Prop := changePlacedRow.holds Tryz.pinned (OpenSpec.ofChange changePlacedWrong)

/-- 'innkeeperlaw21.ChangeRoom': WHATEVER THE INPUT: true; the input reads as it did. -/
def changeRoomSpec : ChangeSpec := { name := "changeRoom", fn := fun _ => fun
  | [d1, d2, d3] => { results := [.lit (.bool true)], args := [d1, d2, d3] }
  | _ => none }
def changeRoomRow : OpenClaim := { program := "ytdhhcbkldfdbbaagreat", sum := "2d4cba4b693c153e65dba2c9f16b5c81fec03f3d4f97d3f04a7ef805e5d3dc89", func := "innkeeper/innkeeperlaw21.ChangeRoom", spec := "changeRoom", inPlace := ["maps.clone"], unfollowed := true, recurses := true, plainKeys := false, apart := false }
def ChangeRoomSaid : Prop := changeRoomRow.holds Tryz.pinned (OpenSpec.ofChange changeRoomSpec)

/-- ITS FALSE NEIGHBOUR: 'it returns false'. Refute it at one input. -/
def changeRoomWrong : ChangeSpec := { name := "changeRoom", fn := fun _ => fun
  | [d1, d2, d3] => { results := [.lit (.bool false)], args := [d1, d2, d3] }
  | _ => none }
def ChangeRoomWrongFalsely : Prop := changeRoomRow.holds Tryz.pinned (OpenSpec.ofChange changeRoomWrong)

/-- 'innkeeperlaw21.ChangeGoes': WHATEVER THE INPUT: true; the input reads as it did. -/
def changeGoesSpec : ChangeSpec := { name := "changeGoes", fn := fun _ => fun
  | [d1, d2, d3] => { results := [.lit (.bool true)], args := [d1, d2, d3] }
  | _ => none }
def changeGoesRow : OpenClaim := { program := "ytdhhcbkldfdbbaagreat", sum := "2d4cba4b693c153e65dba2c9f16b5c81fec03f3d4f97d3f04a7ef805e5d3dc89", func := "innkeeper/innkeeperlaw21.ChangeGoes", spec := "changeGoes", inPlace := ["maps.clone"], unfollowed := true, recurses := true, plainKeys := false, apart := false }
def ChangeGoesSaid : Prop := changeGoesRow.holds Tryz.pinned (OpenSpec.ofChange changeGoesSpec)

/-- ITS FALSE NEIGHBOUR: 'it returns false'. Refute it at one input. -/
def changeGoesWrong : ChangeSpec := { name := "changeGoes", fn := fun _ => fun
  | [d1, d2, d3] => { results := [.lit (.bool false)], args := [d1, d2, d3] }
  | _ => none }
def ChangeGoesWrongFalsely : Prop := changeGoesRow.holds Tryz.pinned (OpenSpec.ofChange changeGoesWrong)

/-- 'innkeeperlaw21.ChangeRefuses': WHATEVER THE INPUT: true; the input reads as it did. -/
def changeRefusesSpec : ChangeSpec := { name := "changeRefuses", fn := fun _ => fun
  | [d1, d2, d3, d4, d5, d6] => { results := [.lit (.bool true)], args := [d1, d2, d3, d4, d5, d6] }
  | _ => none }
def changeRefusesRow : OpenClaim := { program := "ytdhhcbkldfdbbaagreat", sum := "2d4cba4b693c153e65dba2c9f16b5c81fec03f3d4f97d3f04a7ef805e5d3dc89", func := "innkeeper/innkeeperlaw21.ChangeRefuses", spec := "changeRefuses", inPlace := ["maps.clone"], unfollowed := true, recurses := true, plainKeys := false, apart := false }
def ChangeRefusesSaid : Prop := changeRefusesRow.holds Tryz.pinned (OpenSpec.ofChange changeRefusesSpec)

/-- ITS FALSE NEIGHBOUR: 'it returns false'. Refute it at one input. -/
def changeRefusesWrong : ChangeSpec := { name := "changeRefuses", fn := fun _ => fun
  | [d1, d2, d3, d4, d5, d6] => { results := [.lit (.bool false)], args := [d1, d2, d3, d4, d5, d6] }
  | _ => none }
def ChangeRefusesWrongFalsely : Prop := changeRefusesRow.holds Tryz.pinned (OpenSpec.ofChange changeRefusesWrong)

/- THE SECOND FORM. 'bulk': how many values and letters a reading holds, each counted each time it is reached (what is shared counts as often as it is met; a slice's spare places count too). A statement '..UptoSaid' is the law's where the arguments, and the package variables that the reading takes, are together of bulk at most 1048576: NARROWER than '..Said'. Prove '..Said' where nothing that the law and all that it calls make is longer than what came in: it says more and counts as full. Else prove '..UptoSaid'. A law counts once. -/
mutual
def uptoBulk {H : Type} : DataW H → Nat
  | .lit (.string bytes) => bytes.length + 1
  | .lit _ => 1
  | .nil => 1
  | .ptr d => uptoBulk d + 1
  | .slice elems spare => uptoBulkAll elems + uptoBulkAll spare + 1
  | .agg parts => uptoBulkAll parts + 1
  | .iface _ d => uptoBulk d + 1
  | .map entries => uptoBulkEntries entries + 1
  | .held _ => 1
def uptoBulkAll {H : Type} : List (DataW H) → Nat
  | [] => 0
  | d :: r => uptoBulk d + uptoBulkAll r
def uptoBulkEntries {H : Type} : List (Lit × DataW H) → Nat
  | [] => 0
  | x :: r => uptoBulkEntry x + uptoBulkEntries r
def uptoBulkEntry {H : Type} : Lit × DataW H → Nat
  | (.string bytes, d) => bytes.length + uptoBulk d + 1
  | (_, d) => uptoBulk d + 1
 end
def uptoSmall : (H : Type) → List (DataW H) → Bool := fun _ ds => decide (uptoBulkAll ds ≤ 1048576)
def OpenSpec.upto (s : _root_.Go.ChangeSpec) : _root_.Go.OpenSpec := { _root_.Go.OpenSpec.ofChange s with cond := some uptoSmall }

/-- 'innkeeperlaw19.HallRefuses', WHERE WHAT IT READS IS OF BULK AT MOST 1048576: true; the input reads as it did. -/
def hallRefusesUptoRow : OpenClaim := { program := "ytdhhcbkldfdbbaagreat", sum := "2d4cba4b693c153e65dba2c9f16b5c81fec03f3d4f97d3f04a7ef805e5d3dc89", func := "innkeeper/innkeeperlaw19.HallRefuses", spec := "hallRefuses", inPlace := ["maps.clone"], unfollowed := true, recurses := true, plainKeys := false, apart := false, narrowed := true }
def HallRefusesUptoSaid : Prop := hallRefusesUptoRow.holds Tryz.pinned (OpenSpec.upto hallRefusesSpec)

/-- 'innkeeperlaw19.HallEqual', WHERE WHAT IT READS IS OF BULK AT MOST 1048576: true; the input reads as it did. -/
def hallEqualUptoRow : OpenClaim := { program := "ytdhhcbkldfdbbaagreat", sum := "2d4cba4b693c153e65dba2c9f16b5c81fec03f3d4f97d3f04a7ef805e5d3dc89", func := "innkeeper/innkeeperlaw19.HallEqual", spec := "hallEqual", inPlace := ["maps.clone"], unfollowed := true, recurses := true, plainKeys := false, apart := false, narrowed := true }
def HallEqualUptoSaid : Prop := hallEqualUptoRow.holds Tryz.pinned (OpenSpec.upto hallEqualSpec)

/-- 'innkeeperlaw20.AssignMatchesReference', WHERE WHAT IT READS IS OF BULK AT MOST 1048576: true; the input reads as it did. -/
def assignMatchesReferenceUptoRow : OpenClaim := { program := "ytdhhcbkldfdbbaagreat", sum := "2d4cba4b693c153e65dba2c9f16b5c81fec03f3d4f97d3f04a7ef805e5d3dc89", func := "innkeeper/innkeeperlaw20.AssignMatchesReference", spec := "assignMatchesReference", inPlace := ["maps.clone"], unfollowed := true, recurses := true, loops := true, plainKeys := false, apart := false, narrowed := true }
def AssignMatchesReferenceUptoSaid : Prop := assignMatchesReferenceUptoRow.holds Tryz.pinned (OpenSpec.upto assignMatchesReferenceSpec)

/-- 'innkeeperlaw20.AssignRefuses', WHERE WHAT IT READS IS OF BULK AT MOST 1048576: true; the input reads as it did. -/
def assignRefusesUptoRow : OpenClaim := { program := "ytdhhcbkldfdbbaagreat", sum := "2d4cba4b693c153e65dba2c9f16b5c81fec03f3d4f97d3f04a7ef805e5d3dc89", func := "innkeeper/innkeeperlaw20.AssignRefuses", spec := "assignRefuses", inPlace := ["maps.clone"], unfollowed := true, recurses := true, plainKeys := false, apart := false, narrowed := true }
def AssignRefusesUptoSaid : Prop := assignRefusesUptoRow.holds Tryz.pinned (OpenSpec.upto assignRefusesSpec)

/-- 'innkeeperlaw20.AssignFewer', WHERE WHAT IT READS IS OF BULK AT MOST 1048576: true; the input reads as it did. -/
def assignFewerUptoRow : OpenClaim := { program := "ytdhhcbkldfdbbaagreat", sum := "2d4cba4b693c153e65dba2c9f16b5c81fec03f3d4f97d3f04a7ef805e5d3dc89", func := "innkeeper/innkeeperlaw20.AssignFewer", spec := "assignFewer", inPlace := ["maps.clone"], unfollowed := true, recurses := true, plainKeys := false, apart := false, narrowed := true }
def AssignFewerUptoSaid : Prop := assignFewerUptoRow.holds Tryz.pinned (OpenSpec.upto assignFewerSpec)

/-- 'innkeeperlaw21.ChangeMatchesReference', WHERE WHAT IT READS IS OF BULK AT MOST 1048576: true; the input reads as it did. -/
def changeMatchesReferenceUptoRow : OpenClaim := { program := "ytdhhcbkldfdbbaagreat", sum := "2d4cba4b693c153e65dba2c9f16b5c81fec03f3d4f97d3f04a7ef805e5d3dc89", func := "innkeeper/innkeeperlaw21.ChangeMatchesReference", spec := "changeMatchesReference", inPlace := ["maps.clone"], unfollowed := true, recurses := true, plainKeys := false, apart := false, narrowed := true }
def ChangeMatchesReferenceUptoSaid : Prop := changeMatchesReferenceUptoRow.holds Tryz.pinned (OpenSpec.upto changeMatchesReferenceSpec)

/-- 'innkeeperlaw21.ChangeBack', WHERE WHAT IT READS IS OF BULK AT MOST 1048576: true; the input reads as it did. -/
def changeBackUptoRow : OpenClaim := { program := "ytdhhcbkldfdbbaagreat", sum := "2d4cba4b693c153e65dba2c9f16b5c81fec03f3d4f97d3f04a7ef805e5d3dc89", func := "innkeeper/innkeeperlaw21.ChangeBack", spec := "changeBack", inPlace := ["maps.clone"], unfollowed := true, recurses := true, plainKeys := false, apart := false, narrowed := true }
def ChangeBackUptoSaid : Prop := changeBackUptoRow.holds Tryz.pinned (OpenSpec.upto changeBackSpec)

/-- 'innkeeperlaw20.AssignPlaces', WHERE WHAT IT READS IS OF BULK AT MOST 1048576: true; the input reads as it did. -/
def assignPlacesUptoRow : OpenClaim := { program := "ytdhhcbkldfdbbaagreat", sum := "2d4cba4b693c153e65dba2c9f16b5c81fec03f3d4f97d3f04a7ef805e5d3dc89", func := "innkeeper/innkeeperlaw20.AssignPlaces", spec := "assignPlaces", inPlace := ["maps.clone"], unfollowed := true, recurses := true, plainKeys := false, apart := false, narrowed := true }
def AssignPlacesUptoSaid : Prop := assignPlacesUptoRow.holds Tryz.pinned (OpenSpec.upto assignPlacesSpec)

/-- 'innkeeperlaw21.ChangePlaced', WHERE WHAT IT READS IS OF BULK AT MOST 1048576: true; the input reads as it did. -/
def changePlacedUptoRow : OpenClaim := { program := "ytdhhcbkldfdbbaagreat", sum := "2d4cba4b693c153e65dba2c9f16b5c81fec03f3d4f97d3f04a7ef805e5d3dc89", func := "innkeeper/innkeeperlaw21.ChangePlaced", spec := "changePlaced", inPlace := ["maps.clone"], unfollowed := true, recurses := true, plainKeys := false, apart := false, narrowed := true }
def ChangePlacedUptoSaid : Prop := changePlacedUptoRow.holds Tryz.pinned (OpenSpec.upto changePlacedSpec)

/-- 'innkeeperlaw21.ChangeRoom', WHERE WHAT IT READS IS OF BULK AT MOST 1048576: true; the input reads as it did. -/
def changeRoomUptoRow : OpenClaim := { program := "ytdhhcbkldfdbbaagreat", sum := "2d4cba4b693c153e65dba2c9f16b5c81fec03f3d4f97d3f04a7ef805e5d3dc89", func := "innkeeper/innkeeperlaw21.ChangeRoom", spec := "changeRoom", inPlace := ["maps.clone"], unfollowed := true, recurses := true, plainKeys := false, apart := false, narrowed := true }
def ChangeRoomUptoSaid : Prop := changeRoomUptoRow.holds Tryz.pinned (OpenSpec.upto changeRoomSpec)

/-- 'innkeeperlaw21.ChangeGoes', WHERE WHAT IT READS IS OF BULK AT MOST 1048576: true; the input reads as it did. -/
def changeGoesUptoRow : OpenClaim := { program := "ytdhhcbkldfdbbaagreat", sum := "2d4cba4b693c153e65dba2c9f16b5c81fec03f3d4f97d3f04a7ef805e5d3dc89", func := "innkeeper/innkeeperlaw21.ChangeGoes", spec := "changeGoes", inPlace := ["maps.clone"], unfollowed := true, recurses := true, plainKeys := false, apart := false, narrowed := true }
def ChangeGoesUptoSaid : Prop := changeGoesUptoRow.holds Tryz.pinned (OpenSpec.upto changeGoesSpec)

/-- 'innkeeperlaw21.ChangeRefuses', WHERE WHAT IT READS IS OF BULK AT MOST 1048576: true; the input reads as it did. -/
def changeRefusesUptoRow : OpenClaim := { program := "ytdhhcbkldfdbbaagreat", sum := "2d4cba4b693c153e65dba2c9f16b5c81fec03f3d4f97d3f04a7ef805e5d3dc89", func := "innkeeper/innkeeperlaw21.ChangeRefuses", spec := "changeRefuses", inPlace := ["maps.clone"], unfollowed := true, recurses := true, plainKeys := false, apart := false, narrowed := true }
def ChangeRefusesUptoSaid : Prop := changeRefusesUptoRow.holds Tryz.pinned (OpenSpec.upto changeRefusesSpec)

end Rows
end Go.Proofs.YtdhhcbkldfdbbaaGreat
