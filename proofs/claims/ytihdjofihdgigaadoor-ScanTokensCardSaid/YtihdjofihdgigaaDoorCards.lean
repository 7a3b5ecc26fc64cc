/-
  DERIVED. GIVEN WITH THE SEED: THE CARDS: each row of YtihdjofihdgigaaDoorRows.lean that lists a variable, with what it lists TIED to the program's text (the seventh form; the later family's looks); each row that meets fmt, with fmt's text TOLD by the authors' own Lean function (tested against real Go, not proved from fmt's source: count such statements apart). THE CARD IS WHAT COUNTS. Prove the row's statement (the work); the ties are given (YtihdjofihdgigaaDoorTie.lean); close each card by the builder's one call (the guide's Derived/Test/ToyasCard.lean, 'card_holds'). Laid BY PROGRAM, IN A SANDBOX (cutbox-door.mjs). By AI agents, Wed Nov 11 2026. No macro, syntax, notation, axiom, sorry.
-/
import Derived.Test.YtihdjofihdgigaaDoorRows
import GoSem.ClaimSeven
namespace Go.Proofs.YtihdjofihdgigaaDoor
namespace Rows

/-- THE TIED CARD OF 'mullionlaw03.ScanTokens'. -/
def scanTokensCard : Claim7 := { stood := { row := scanTokensRow, standIns := [], harness := (true, "e541aa5bc5868a7fee028b030cab59cab68ae99935c0d9593b1bd50bb1cba454"), looks := true }, kinds := [], alts := [], laidByText := true, laidKinds := [.data, .data, .data, .data, .sentinel, .sentinel, .data, .pinned], laidTests := true, laidLooks := .later }
def ScanTokensCardSaid : Prop := Claim7.holds Tryd.pinned (.plain (OpenSpec.ofChange scanTokensSpec)) scanTokensCard

/-- THE TIED CARD OF 'mullionlaw03.ScanStands'. -/
def scanStandsCard : Claim7 := { stood := { row := scanStandsRow, standIns := [], harness := (true, "e541aa5bc5868a7fee028b030cab59cab68ae99935c0d9593b1bd50bb1cba454"), looks := true }, kinds := [], alts := [], laidByText := true, laidKinds := [.data, .data, .data, .data, .sentinel, .sentinel, .data, .pinned], laidTests := true, laidLooks := .later }
def ScanStandsCardSaid : Prop := Claim7.holds Tryd.pinned (.plain (OpenSpec.ofChange scanStandsSpec)) scanStandsCard

/-- THE TIED CARD OF 'mullionlaw03.ScanCuts'. -/
def scanCutsCard : Claim7 := { stood := { row := scanCutsRow, standIns := [], harness := (true, "e541aa5bc5868a7fee028b030cab59cab68ae99935c0d9593b1bd50bb1cba454"), looks := true }, kinds := [], alts := [], laidByText := true, laidKinds := [.data, .data, .data, .data, .sentinel, .sentinel, .data, .pinned], laidTests := true, laidLooks := .later }
def ScanCutsCardSaid : Prop := Claim7.holds Tryd.pinned (.plain (OpenSpec.ofChange scanCutsSpec)) scanCutsCard

/-- THE TIED CARD OF 'mullionlaw03.ScanNumbers'. -/
def scanNumbersCard : Claim7 := { stood := { row := scanNumbersRow, standIns := [], harness := (true, "e541aa5bc5868a7fee028b030cab59cab68ae99935c0d9593b1bd50bb1cba454"), looks := true }, kinds := [], alts := [], laidByText := true, laidKinds := [.data, .data, .data, .data, .sentinel, .sentinel, .data, .pinned], laidTests := true, laidLooks := .later }
def ScanNumbersCardSaid : Prop := Claim7.holds Tryd.pinned (.plain (OpenSpec.ofChange scanNumbersSpec)) scanNumbersCard

/-- THE TIED CARD OF 'mullionlaw03.ScanSemis'. -/
def scanSemisCard : Claim7 := { stood := { row := scanSemisRow, standIns := [], harness := (true, "e541aa5bc5868a7fee028b030cab59cab68ae99935c0d9593b1bd50bb1cba454"), looks := true }, kinds := [], alts := [], laidByText := true, laidKinds := [.data, .data, .data, .data, .sentinel, .sentinel, .data, .pinned], laidTests := true, laidLooks := .later }
def ScanSemisCardSaid : Prop := Claim7.holds Tryd.pinned (.plain (OpenSpec.ofChange scanSemisSpec)) scanSemisCard

/-- THE TIED CARD OF 'mullionlaw03.ScanBlanks'. -/
def scanBlanksCard : Claim7 := { stood := { row := scanBlanksRow, standIns := [], harness := (true, "e541aa5bc5868a7fee028b030cab59cab68ae99935c0d9593b1bd50bb1cba454"), looks := true }, kinds := [], alts := [], laidByText := true, laidKinds := [.data, .data, .data, .data, .sentinel, .sentinel, .data, .pinned], laidTests := true, laidLooks := .later }
def ScanBlanksCardSaid : Prop := Claim7.holds Tryd.pinned (.plain (OpenSpec.ofChange scanBlanksSpec)) scanBlanksCard

/-- THE TIED CARD OF 'mullionlaw03.ScanWords'. -/
def scanWordsCard : Claim7 := { stood := { row := scanWordsRow, standIns := [], harness := (true, "e541aa5bc5868a7fee028b030cab59cab68ae99935c0d9593b1bd50bb1cba454"), looks := true }, kinds := [], alts := [], laidByText := true, laidKinds := [.data, .data, .data, .data, .sentinel, .sentinel, .data, .pinned], laidTests := true, laidLooks := .later }
def ScanWordsCardSaid : Prop := Claim7.holds Tryd.pinned (.plain (OpenSpec.ofChange scanWordsSpec)) scanWordsCard

/-- THE SECOND FORM's CARD OF 'mullionlaw03.ScanTokens'. -/
def scanTokensUptoCard : Claim7 := { stood := { row := scanTokensUptoRow, standIns := [], harness := (true, "e541aa5bc5868a7fee028b030cab59cab68ae99935c0d9593b1bd50bb1cba454"), looks := true }, kinds := [], alts := [], laidByText := true, laidKinds := [.data, .data, .data, .data, .sentinel, .sentinel, .data, .pinned], laidTests := true, laidLooks := .later }
def ScanTokensUptoCardSaid : Prop := Claim7.holds Tryd.pinned (.plain (OpenSpec.upto scanTokensSpec)) scanTokensUptoCard

/-- THE SECOND FORM's CARD OF 'mullionlaw03.ScanStands'. -/
def scanStandsUptoCard : Claim7 := { stood := { row := scanStandsUptoRow, standIns := [], harness := (true, "e541aa5bc5868a7fee028b030cab59cab68ae99935c0d9593b1bd50bb1cba454"), looks := true }, kinds := [], alts := [], laidByText := true, laidKinds := [.data, .data, .data, .data, .sentinel, .sentinel, .data, .pinned], laidTests := true, laidLooks := .later }
def ScanStandsUptoCardSaid : Prop := Claim7.holds Tryd.pinned (.plain (OpenSpec.upto scanStandsSpec)) scanStandsUptoCard

/-- THE SECOND FORM's CARD OF 'mullionlaw03.ScanCuts'. -/
def scanCutsUptoCard : Claim7 := { stood := { row := scanCutsUptoRow, standIns := [], harness := (true, "e541aa5bc5868a7fee028b030cab59cab68ae99935c0d9593b1bd50bb1cba454"), looks := true }, kinds := [], alts := [], laidByText := true, laidKinds := [.data, .data, .data, .data, .sentinel, .sentinel, .data, .pinned], laidTests := true, laidLooks := .later }
def ScanCutsUptoCardSaid : Prop := Claim7.holds Tryd.pinned (.plain (OpenSpec.upto scanCutsSpec)) scanCutsUptoCard

/-- THE SECOND FORM's CARD OF 'mullionlaw03.ScanNumbers'. -/
def scanNumbersUptoCard : Claim7 := { stood := { row := scanNumbersUptoRow, standIns := [], harness := (true, "e541aa5bc5868a7fee028b030cab59cab68ae99935c0d9593b1bd50bb1cba454"), looks := true }, kinds := [], alts := [], laidByText := true, laidKinds := [.data, .data, .data, .data, .sentinel, .sentinel, .data, .pinned], laidTests := true, laidLooks := .later }
def ScanNumbersUptoCardSaid : Prop := Claim7.holds Tryd.pinned (.plain (OpenSpec.upto scanNumbersSpec)) scanNumbersUptoCard

/-- THE SECOND FORM's CARD OF 'mullionlaw03.ScanSemis'. -/
def scanSemisUptoCard : Claim7 := { stood := { row := scanSemisUptoRow, standIns := [], harness := (true, "e541aa5bc5868a7fee028b030cab59cab68ae99935c0d9593b1bd50bb1cba454"), looks := true }, kinds := [], alts := [], laidByText := true, laidKinds := [.data, .data, .data, .data, .sentinel, .sentinel, .data, .pinned], laidTests := true, laidLooks := .later }
def ScanSemisUptoCardSaid : Prop := Claim7.holds Tryd.pinned (.plain (OpenSpec.upto scanSemisSpec)) scanSemisUptoCard

/-- THE SECOND FORM's CARD OF 'mullionlaw03.ScanBlanks'. -/
def scanBlanksUptoCard : Claim7 := { stood := { row := scanBlanksUptoRow, standIns := [], harness := (true, "e541aa5bc5868a7fee028b030cab59cab68ae99935c0d9593b1bd50bb1cba454"), looks := true }, kinds := [], alts := [], laidByText := true, laidKinds := [.data, .data, .data, .data, .sentinel, .sentinel, .data, .pinned], laidTests := true, laidLooks := .later }
def ScanBlanksUptoCardSaid : Prop := Claim7.holds Tryd.pinned (.plain (OpenSpec.upto scanBlanksSpec)) scanBlanksUptoCard

/-- THE SECOND FORM's CARD OF 'mullionlaw03.ScanWords'. -/
def scanWordsUptoCard : Claim7 := { stood := { row := scanWordsUptoRow, standIns := [], harness := (true, "e541aa5bc5868a7fee028b030cab59cab68ae99935c0d9593b1bd50bb1cba454"), looks := true }, kinds := [], alts := [], laidByText := true, laidKinds := [.data, .data, .data, .data, .sentinel, .sentinel, .data, .pinned], laidTests := true, laidLooks := .later }
def ScanWordsUptoCardSaid : Prop := Claim7.holds Tryd.pinned (.plain (OpenSpec.upto scanWordsSpec)) scanWordsUptoCard
end Rows
end Go.Proofs.YtihdjofihdgigaaDoor
