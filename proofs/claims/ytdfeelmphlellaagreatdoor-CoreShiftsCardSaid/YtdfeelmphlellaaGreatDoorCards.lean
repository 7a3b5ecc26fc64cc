/-
  DERIVED. GIVEN WITH THE SEED: THE CARDS: each row of YtdfeelmphlellaaGreatDoorRows.lean that lists a variable, with what it lists TIED to the program's text (the seventh form; the later family's looks); each row that meets fmt, with fmt's text TOLD by the authors' own Lean function (tested against real Go, not proved from fmt's source: count such statements apart). THE CARD IS WHAT COUNTS. Prove the row's statement (the work); the ties are given (YtdfeelmphlellaaGreatDoorTie.lean); close each card by the builder's one call (the guide's Derived/Test/ToyasCard.lean, 'card_holds'). Laid BY PROGRAM, IN A SANDBOX (cutbox-door.mjs). By AI agents, Wed Nov 11 2026. No macro, syntax, notation, axiom, sorry.
-/
import Derived.Test.YtdfeelmphlellaaGreatDoorRows
import GoSem.ClaimSeven
namespace Go.Proofs.YtdfeelmphlellaaGreatDoor
namespace Rows

/-- THE TIED CARD OF 'mullionlaw15.CoreArith'. -/
def coreArithCard : Claim7 := { stood := { row := coreArithRow, standIns := [], harness := (true, "18f37733ece21b20f405db4979908db56b8a8e9a08fb75c49612a5805df55410"), looks := true }, kinds := [], alts := [], laidByText := true, laidKinds := [.data, .data, .data, .data], laidTests := true, laidLooks := .later }
def CoreArithCardSaid : Prop := Claim7.holds Tryz.pinned (.plain (OpenSpec.ofChange coreArithSpec)) coreArithCard

/-- THE TIED CARD OF 'mullionlaw15.CoreShifts'. -/
def coreShiftsCard : Claim7 := { stood := { row := coreShiftsRow, standIns := [], harness := (true, "18f37733ece21b20f405db4979908db56b8a8e9a08fb75c49612a5805df55410"), looks := true }, kinds := [], alts := [], laidByText := true, laidKinds := [.data, .data, .data, .data], laidTests := true, laidLooks := .later }
def CoreShiftsCardSaid : Prop := Claim7.holds Tryz.pinned (.plain (OpenSpec.ofChange coreShiftsSpec)) coreShiftsCard

/-- THE SECOND FORM's CARD OF 'mullionlaw15.CoreArith'. -/
def coreArithUptoCard : Claim7 := { stood := { row := coreArithUptoRow, standIns := [], harness := (true, "18f37733ece21b20f405db4979908db56b8a8e9a08fb75c49612a5805df55410"), looks := true }, kinds := [], alts := [], laidByText := true, laidKinds := [.data, .data, .data, .data], laidTests := true, laidLooks := .later }
def CoreArithUptoCardSaid : Prop := Claim7.holds Tryz.pinned (.plain (OpenSpec.upto coreArithSpec)) coreArithUptoCard

/-- THE SECOND FORM's CARD OF 'mullionlaw15.CoreShifts'. -/
def coreShiftsUptoCard : Claim7 := { stood := { row := coreShiftsUptoRow, standIns := [], harness := (true, "18f37733ece21b20f405db4979908db56b8a8e9a08fb75c49612a5805df55410"), looks := true }, kinds := [], alts := [], laidByText := true, laidKinds := [.data, .data, .data, .data], laidTests := true, laidLooks := .later }
def CoreShiftsUptoCardSaid : Prop := Claim7.holds Tryz.pinned (.plain (OpenSpec.upto coreShiftsSpec)) coreShiftsUptoCard
end Rows
end Go.Proofs.YtdfeelmphlellaaGreatDoor
