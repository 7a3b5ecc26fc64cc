/-
  DERIVED. GIVEN WITH THE SEED: THE CARDS: each row of YthfnjphmodcnoaaDoorRows.lean that lists a variable, with what it lists TIED to the program's text (the seventh form; the later family's looks); each row that meets fmt, with fmt's text TOLD by the authors' own Lean function (tested against real Go, not proved from fmt's source: count such statements apart). THE CARD IS WHAT COUNTS. Prove the row's statement (the work); the ties are given (YthfnjphmodcnoaaDoorTie.lean); close each card by the builder's one call (the guide's Derived/Test/ToyasCard.lean, 'card_holds'). Laid BY PROGRAM, IN A SANDBOX (cutbox-door.mjs). By AI agents, Wed Nov 11 2026. No macro, syntax, notation, axiom, sorry.
-/
import Derived.Test.YthfnjphmodcnoaaDoorRows
import GoSem.ClaimSeven
namespace Go.Proofs.YthfnjphmodcnoaaDoor
namespace Rows

/-- THE TIED CARD OF 'mullionlaw19.ScriptTurns'. -/
def scriptTurnsCard : Claim7 := { stood := { row := scriptTurnsRow, standIns := [], harness := (true, "fe866f54f7469c301edd55fd0d1c0da090c2658d415ea49db013dbd11b6dd98e"), looks := true }, kinds := [], alts := [], laidByText := true, laidKinds := [.data, .data, .data, .data, .sentinel, .sentinel, .widerDeep, .pinned], laidTests := true, laidLooks := .later }
def ScriptTurnsCardSaid : Prop := Claim7.holds Tryd.pinned (.plain (OpenSpec.ofChange scriptTurnsSpec)) scriptTurnsCard

/-- THE TIED CARD OF 'mullionlaw19.ScriptWrites'. -/
def scriptWritesCard : Claim7 := { stood := { row := scriptWritesRow, standIns := [], harness := (true, "fe866f54f7469c301edd55fd0d1c0da090c2658d415ea49db013dbd11b6dd98e"), looks := true }, kinds := [], alts := [], laidByText := true, laidKinds := [.data, .data, .data, .data, .sentinel, .sentinel, .widerDeep, .pinned], laidTests := true, laidLooks := .later }
def ScriptWritesCardSaid : Prop := Claim7.holds Tryd.pinned (.plain (OpenSpec.ofChange scriptWritesSpec)) scriptWritesCard

/-- THE TIED CARD OF 'mullionlaw19.ScriptReports'. -/
def scriptReportsCard : Claim7 := { stood := { row := scriptReportsRow, standIns := [], harness := (true, "fe866f54f7469c301edd55fd0d1c0da090c2658d415ea49db013dbd11b6dd98e"), looks := true }, kinds := [], alts := [], laidByText := true, laidKinds := [.data, .data, .data, .data, .sentinel, .sentinel, .widerDeep, .pinned], laidTests := true, laidLooks := .later }
def ScriptReportsCardSaid : Prop := Claim7.holds Tryd.pinned (.plain (OpenSpec.ofChange scriptReportsSpec)) scriptReportsCard

/-- THE TIED CARD OF 'mullionlaw19.ScriptTold'. -/
def scriptToldCard : Claim7 := { stood := { row := scriptToldRow, standIns := [], harness := (true, "fe866f54f7469c301edd55fd0d1c0da090c2658d415ea49db013dbd11b6dd98e"), looks := true }, kinds := [], alts := [], laidByText := true, laidKinds := [.data, .data, .data, .data, .sentinel, .sentinel, .widerDeep, .pinned], laidTests := true, laidLooks := .later }
def ScriptToldCardSaid : Prop := Claim7.holds Tryd.pinned (.plain (OpenSpec.ofChange scriptToldSpec)) scriptToldCard

/-- THE SECOND FORM's CARD OF 'mullionlaw19.ScriptTurns'. -/
def scriptTurnsUptoCard : Claim7 := { stood := { row := scriptTurnsUptoRow, standIns := [], harness := (true, "fe866f54f7469c301edd55fd0d1c0da090c2658d415ea49db013dbd11b6dd98e"), looks := true }, kinds := [], alts := [], laidByText := true, laidKinds := [.data, .data, .data, .data, .sentinel, .sentinel, .widerDeep, .pinned], laidTests := true, laidLooks := .later }
def ScriptTurnsUptoCardSaid : Prop := Claim7.holds Tryd.pinned (.plain (OpenSpec.upto scriptTurnsSpec)) scriptTurnsUptoCard

/-- THE SECOND FORM's CARD OF 'mullionlaw19.ScriptWrites'. -/
def scriptWritesUptoCard : Claim7 := { stood := { row := scriptWritesUptoRow, standIns := [], harness := (true, "fe866f54f7469c301edd55fd0d1c0da090c2658d415ea49db013dbd11b6dd98e"), looks := true }, kinds := [], alts := [], laidByText := true, laidKinds := [.data, .data, .data, .data, .sentinel, .sentinel, .widerDeep, .pinned], laidTests := true, laidLooks := .later }
def ScriptWritesUptoCardSaid : Prop := Claim7.holds Tryd.pinned (.plain (OpenSpec.upto scriptWritesSpec)) scriptWritesUptoCard

/-- THE SECOND FORM's CARD OF 'mullionlaw19.ScriptReports'. -/
def scriptReportsUptoCard : Claim7 := { stood := { row := scriptReportsUptoRow, standIns := [], harness := (true, "fe866f54f7469c301edd55fd0d1c0da090c2658d415ea49db013dbd11b6dd98e"), looks := true }, kinds := [], alts := [], laidByText := true, laidKinds := [.data, .data, .data, .data, .sentinel, .sentinel, .widerDeep, .pinned], laidTests := true, laidLooks := .later }
def ScriptReportsUptoCardSaid : Prop := Claim7.holds Tryd.pinned (.plain (OpenSpec.upto scriptReportsSpec)) scriptReportsUptoCard

/-- THE SECOND FORM's CARD OF 'mullionlaw19.ScriptTold'. -/
def scriptToldUptoCard : Claim7 := { stood := { row := scriptToldUptoRow, standIns := [], harness := (true, "fe866f54f7469c301edd55fd0d1c0da090c2658d415ea49db013dbd11b6dd98e"), looks := true }, kinds := [], alts := [], laidByText := true, laidKinds := [.data, .data, .data, .data, .sentinel, .sentinel, .widerDeep, .pinned], laidTests := true, laidLooks := .later }
def ScriptToldUptoCardSaid : Prop := Claim7.holds Tryd.pinned (.plain (OpenSpec.upto scriptToldSpec)) scriptToldUptoCard
end Rows
end Go.Proofs.YthfnjphmodcnoaaDoor
