/-
  DERIVED. GIVEN WITH THE SEED: THE CARDS: each row of YtakfgbedmglffaaGreatDoorRows.lean that lists a variable, with what it lists TIED to the program's text (the seventh form; the later family's looks); each row that meets fmt, with fmt's text TOLD by the authors' own Lean function (tested against real Go, not proved from fmt's source: count such statements apart). THE CARD IS WHAT COUNTS. Prove the row's statement (the work); the ties are given (YtakfgbedmglffaaGreatDoorTie.lean); close each card by the builder's one call (the guide's Derived/Test/ToyasCard.lean, 'card_holds'). Laid BY PROGRAM, IN A SANDBOX (cutbox-door.mjs). By AI agents, Wed Nov 11 2026. No macro, syntax, notation, axiom, sorry.
-/
import Derived.Test.YtakfgbedmglffaaGreatDoorRows
import GoSem.ClaimSeven
namespace Go.Proofs.YtakfgbedmglffaaGreatDoor
namespace Rows

/-- THE TIED CARD OF 'mullionlaw09.CheckHides'. -/
def checkHidesCard : Claim7 := { stood := { row := checkHidesRow, standIns := [], harness := (true, "59c9d7889a93d7f32aa8950dc3220e440283e1b1ddc185d52a9270fdab0f082f"), looks := true }, kinds := [], alts := [], laidByText := true, laidKinds := [.data, .data, .data, .data, .sentinel, .sentinel, .data, .widerDeep, .pinned], laidTests := true, laidLooks := .later }
def CheckHidesCardSaid : Prop := Claim7.holds Tryz.pinned (.plain (OpenSpec.ofChange checkHidesSpec)) checkHidesCard

/-- THE SECOND FORM's CARD OF 'mullionlaw09.CheckHides'. -/
def checkHidesUptoCard : Claim7 := { stood := { row := checkHidesUptoRow, standIns := [], harness := (true, "59c9d7889a93d7f32aa8950dc3220e440283e1b1ddc185d52a9270fdab0f082f"), looks := true }, kinds := [], alts := [], laidByText := true, laidKinds := [.data, .data, .data, .data, .sentinel, .sentinel, .data, .widerDeep, .pinned], laidTests := true, laidLooks := .later }
def CheckHidesUptoCardSaid : Prop := Claim7.holds Tryz.pinned (.plain (OpenSpec.upto checkHidesSpec)) checkHidesUptoCard
end Rows
end Go.Proofs.YtakfgbedmglffaaGreatDoor
