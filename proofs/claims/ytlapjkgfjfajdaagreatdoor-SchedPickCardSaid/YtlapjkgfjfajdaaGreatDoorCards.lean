/-
  DERIVED. GIVEN WITH THE SEED: THE CARDS: each row of YtlapjkgfjfajdaaGreatDoorRows.lean that lists a variable, with what it lists TIED to the program's text (the seventh form; the later family's looks); each row that meets fmt, with fmt's text TOLD by the authors' own Lean function (tested against real Go, not proved from fmt's source: count such statements apart). THE CARD IS WHAT COUNTS. Prove the row's statement (the work); the ties are given (YtlapjkgfjfajdaaGreatDoorTie.lean); close each card by the builder's one call (the guide's Derived/Test/ToyasCard.lean, 'card_holds'). Laid BY PROGRAM, IN A SANDBOX (cutbox-door.mjs). By AI agents, Wed Nov 11 2026. No macro, syntax, notation, axiom, sorry.
-/
import Derived.Test.YtlapjkgfjfajdaaGreatDoorRows
import GoSem.ClaimSeven
namespace Go.Proofs.YtlapjkgfjfajdaaGreatDoor
namespace Rows

/-- THE TIED CARD OF 'mullionlaw16.SchedPick'. -/
def schedPickCard : Claim7 := { stood := { row := schedPickRow, standIns := [], harness := (true, "504d49880a7f33033e85057c8a327428bddc23e3224f7cbe877dfeba1e4a23c9"), looks := true }, kinds := [], alts := [], laidByText := true, laidKinds := [.data, .data, .data, .data], laidTests := true, laidLooks := .later }
def SchedPickCardSaid : Prop := Claim7.holds Tryz.pinned (.plain (OpenSpec.ofChange schedPickSpec)) schedPickCard

/-- THE SECOND FORM's CARD OF 'mullionlaw16.SchedPick'. -/
def schedPickUptoCard : Claim7 := { stood := { row := schedPickUptoRow, standIns := [], harness := (true, "504d49880a7f33033e85057c8a327428bddc23e3224f7cbe877dfeba1e4a23c9"), looks := true }, kinds := [], alts := [], laidByText := true, laidKinds := [.data, .data, .data, .data], laidTests := true, laidLooks := .later }
def SchedPickUptoCardSaid : Prop := Claim7.holds Tryz.pinned (.plain (OpenSpec.upto schedPickSpec)) schedPickUptoCard
end Rows
end Go.Proofs.YtlapjkgfjfajdaaGreatDoor
