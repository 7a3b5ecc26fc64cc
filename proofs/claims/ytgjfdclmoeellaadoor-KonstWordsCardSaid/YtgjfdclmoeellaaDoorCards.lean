/-
  DERIVED. GIVEN WITH THE SEED: THE CARDS: each row of YtgjfdclmoeellaaDoorRows.lean that lists a variable, with what it lists TIED to the program's text (the seventh form; the later family's looks); each row that meets fmt, with fmt's text TOLD by the authors' own Lean function (tested against real Go, not proved from fmt's source: count such statements apart). THE CARD IS WHAT COUNTS. Prove the row's statement (the work); the ties are given (YtgjfdclmoeellaaDoorTie.lean); close each card by the builder's one call (the guide's Derived/Test/ToyasCard.lean, 'card_holds'). Laid BY PROGRAM, IN A SANDBOX (cutbox-door.mjs). By AI agents, Wed Nov 11 2026. No macro, syntax, notation, axiom, sorry.
-/
import Derived.Test.YtgjfdclmoeellaaDoorRows
import GoSem.ClaimSeven
namespace Go.Proofs.YtgjfdclmoeellaaDoor
namespace Rows

/-- THE TIED CARD OF 'mullionlaw01.WordTells'. -/
def wordTellsCard : Claim7 := { stood := { row := wordTellsRow, standIns := [], harness := (true, "89054061393b01e1d16d0eb9c309b50eb6a6754075157c81588a12f71bc95531"), looks := false }, kinds := [], alts := [], laidByText := true, laidKinds := [.data, .data, .data], laidTests := true, laidLooks := .later }
def WordTellsCardSaid : Prop := Claim7.holds Tryd.pinned (.plain (OpenSpec.ofChange wordTellsSpec)) wordTellsCard

/-- THE TIED CARD OF 'mullionlaw07.KonstWords'. -/
def konstWordsCard : Claim7 := { stood := { row := konstWordsRow, standIns := [], harness := (true, "89054061393b01e1d16d0eb9c309b50eb6a6754075157c81588a12f71bc95531"), looks := false }, kinds := [], alts := [], laidByText := true, laidKinds := [.data, .data, .data], laidTests := true, laidLooks := .later }
def KonstWordsCardSaid : Prop := Claim7.holds Tryd.pinned (.plain (OpenSpec.ofChange konstWordsSpec)) konstWordsCard

/-- THE SECOND FORM's CARD OF 'mullionlaw01.WordTells'. -/
def wordTellsUptoCard : Claim7 := { stood := { row := wordTellsUptoRow, standIns := [], harness := (true, "89054061393b01e1d16d0eb9c309b50eb6a6754075157c81588a12f71bc95531"), looks := false }, kinds := [], alts := [], laidByText := true, laidKinds := [.data, .data, .data], laidTests := true, laidLooks := .later }
def WordTellsUptoCardSaid : Prop := Claim7.holds Tryd.pinned (.plain (OpenSpec.upto wordTellsSpec)) wordTellsUptoCard

/-- THE SECOND FORM's CARD OF 'mullionlaw07.KonstWords'. -/
def konstWordsUptoCard : Claim7 := { stood := { row := konstWordsUptoRow, standIns := [], harness := (true, "89054061393b01e1d16d0eb9c309b50eb6a6754075157c81588a12f71bc95531"), looks := false }, kinds := [], alts := [], laidByText := true, laidKinds := [.data, .data, .data], laidTests := true, laidLooks := .later }
def KonstWordsUptoCardSaid : Prop := Claim7.holds Tryd.pinned (.plain (OpenSpec.upto konstWordsSpec)) konstWordsUptoCard
end Rows
end Go.Proofs.YtgjfdclmoeellaaDoor
