/-
  DERIVED. GIVEN WITH THE SEED: THE CARDS: each row of YtcbkeecabcbogaaGreatDoorRows.lean that lists a variable, with what it lists TIED to the program's text (the seventh form; the later family's looks); each row that meets fmt, with fmt's text TOLD by the authors' own Lean function (tested against real Go, not proved from fmt's source: count such statements apart). THE CARD IS WHAT COUNTS. Prove the row's statement (the work); the ties are given (YtcbkeecabcbogaaGreatDoorTie.lean); close each card by the builder's one call (the guide's Derived/Test/ToyasCard.lean, 'card_holds'). Laid BY PROGRAM, IN A SANDBOX (cutbox-door.mjs). By AI agents, Wed Nov 11 2026. No macro, syntax, notation, axiom, sorry.
-/
import Derived.Test.YtcbkeecabcbogaaGreatDoorRows
import GoSem.ClaimSeven
namespace Go.Proofs.YtcbkeecabcbogaaGreatDoor
namespace Rows

/-- THE TIED CARD OF 'mullionlaw05.ParseBinds'. -/
def parseBindsCard : Claim7 := { stood := { row := parseBindsRow, standIns := [], harness := (true, "aaacb9827cc144c89f84bdc1286e35ba21e5d20a7f9c79c433625c662d503ec3"), looks := true }, kinds := [], alts := [], laidByText := true, laidKinds := [.data, .data, .data, .data, .sentinel, .sentinel, .data, .widerDeep, .pinned], laidTests := true, laidLooks := .later }
def ParseBindsCardSaid : Prop := Claim7.holds Tryz.pinned (.plain (OpenSpec.ofChange parseBindsSpec)) parseBindsCard

/-- THE TIED CARD OF 'mullionlaw05.ParseLists'. -/
def parseListsCard : Claim7 := { stood := { row := parseListsRow, standIns := [], harness := (true, "aaacb9827cc144c89f84bdc1286e35ba21e5d20a7f9c79c433625c662d503ec3"), looks := true }, kinds := [], alts := [], laidByText := true, laidKinds := [.data, .data, .data, .data, .sentinel, .sentinel, .data, .widerDeep, .pinned], laidTests := true, laidLooks := .later }
def ParseListsCardSaid : Prop := Claim7.holds Tryz.pinned (.plain (OpenSpec.ofChange parseListsSpec)) parseListsCard

/-- THE TIED CARD OF 'mullionlaw05.ParseBrackets'. -/
def parseBracketsCard : Claim7 := { stood := { row := parseBracketsRow, standIns := [], harness := (true, "aaacb9827cc144c89f84bdc1286e35ba21e5d20a7f9c79c433625c662d503ec3"), looks := true }, kinds := [], alts := [], laidByText := true, laidKinds := [.data, .data, .data, .data, .sentinel, .sentinel, .data, .widerDeep, .pinned], laidTests := true, laidLooks := .later }
def ParseBracketsCardSaid : Prop := Claim7.holds Tryz.pinned (.plain (OpenSpec.ofChange parseBracketsSpec)) parseBracketsCard

/-- THE TIED CARD OF 'mullionlaw05.ParseSound'. -/
def parseSoundCard : Claim7 := { stood := { row := parseSoundRow, standIns := [], harness := (true, "aaacb9827cc144c89f84bdc1286e35ba21e5d20a7f9c79c433625c662d503ec3"), looks := true }, kinds := [], alts := [], laidByText := true, laidKinds := [.data, .data, .data, .data, .sentinel, .sentinel, .data, .widerDeep, .pinned], laidTests := true, laidLooks := .later }
def ParseSoundCardSaid : Prop := Claim7.holds Tryz.pinned (.plain (OpenSpec.ofChange parseSoundSpec)) parseSoundCard

/-- THE TIED CARD OF 'mullionlaw05.ParseJoins'. -/
def parseJoinsCard : Claim7 := { stood := { row := parseJoinsRow, standIns := [], harness := (true, "aaacb9827cc144c89f84bdc1286e35ba21e5d20a7f9c79c433625c662d503ec3"), looks := true }, kinds := [], alts := [], laidByText := true, laidKinds := [.data, .data, .data, .data, .sentinel, .sentinel, .data, .widerDeep, .pinned], laidTests := true, laidLooks := .later }
def ParseJoinsCardSaid : Prop := Claim7.holds Tryz.pinned (.plain (OpenSpec.ofChange parseJoinsSpec)) parseJoinsCard

/-- THE SECOND FORM's CARD OF 'mullionlaw05.ParseBinds'. -/
def parseBindsUptoCard : Claim7 := { stood := { row := parseBindsUptoRow, standIns := [], harness := (true, "aaacb9827cc144c89f84bdc1286e35ba21e5d20a7f9c79c433625c662d503ec3"), looks := true }, kinds := [], alts := [], laidByText := true, laidKinds := [.data, .data, .data, .data, .sentinel, .sentinel, .data, .widerDeep, .pinned], laidTests := true, laidLooks := .later }
def ParseBindsUptoCardSaid : Prop := Claim7.holds Tryz.pinned (.plain (OpenSpec.upto parseBindsSpec)) parseBindsUptoCard

/-- THE SECOND FORM's CARD OF 'mullionlaw05.ParseLists'. -/
def parseListsUptoCard : Claim7 := { stood := { row := parseListsUptoRow, standIns := [], harness := (true, "aaacb9827cc144c89f84bdc1286e35ba21e5d20a7f9c79c433625c662d503ec3"), looks := true }, kinds := [], alts := [], laidByText := true, laidKinds := [.data, .data, .data, .data, .sentinel, .sentinel, .data, .widerDeep, .pinned], laidTests := true, laidLooks := .later }
def ParseListsUptoCardSaid : Prop := Claim7.holds Tryz.pinned (.plain (OpenSpec.upto parseListsSpec)) parseListsUptoCard

/-- THE SECOND FORM's CARD OF 'mullionlaw05.ParseBrackets'. -/
def parseBracketsUptoCard : Claim7 := { stood := { row := parseBracketsUptoRow, standIns := [], harness := (true, "aaacb9827cc144c89f84bdc1286e35ba21e5d20a7f9c79c433625c662d503ec3"), looks := true }, kinds := [], alts := [], laidByText := true, laidKinds := [.data, .data, .data, .data, .sentinel, .sentinel, .data, .widerDeep, .pinned], laidTests := true, laidLooks := .later }
def ParseBracketsUptoCardSaid : Prop := Claim7.holds Tryz.pinned (.plain (OpenSpec.upto parseBracketsSpec)) parseBracketsUptoCard

/-- THE SECOND FORM's CARD OF 'mullionlaw05.ParseSound'. -/
def parseSoundUptoCard : Claim7 := { stood := { row := parseSoundUptoRow, standIns := [], harness := (true, "aaacb9827cc144c89f84bdc1286e35ba21e5d20a7f9c79c433625c662d503ec3"), looks := true }, kinds := [], alts := [], laidByText := true, laidKinds := [.data, .data, .data, .data, .sentinel, .sentinel, .data, .widerDeep, .pinned], laidTests := true, laidLooks := .later }
def ParseSoundUptoCardSaid : Prop := Claim7.holds Tryz.pinned (.plain (OpenSpec.upto parseSoundSpec)) parseSoundUptoCard

/-- THE SECOND FORM's CARD OF 'mullionlaw05.ParseJoins'. -/
def parseJoinsUptoCard : Claim7 := { stood := { row := parseJoinsUptoRow, standIns := [], harness := (true, "aaacb9827cc144c89f84bdc1286e35ba21e5d20a7f9c79c433625c662d503ec3"), looks := true }, kinds := [], alts := [], laidByText := true, laidKinds := [.data, .data, .data, .data, .sentinel, .sentinel, .data, .widerDeep, .pinned], laidTests := true, laidLooks := .later }
def ParseJoinsUptoCardSaid : Prop := Claim7.holds Tryz.pinned (.plain (OpenSpec.upto parseJoinsSpec)) parseJoinsUptoCard
end Rows
end Go.Proofs.YtcbkeecabcbogaaGreatDoor
