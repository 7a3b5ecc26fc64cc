/-
  No cell of these rows narrows 'for every input' (looked for: loops, veiled, ifaces, maps, wideKeys, modest, calm, conditions, laid).
  DERIVED. THE GIVEN ROWS OF THIS SEAT. 14 by the template 'for every input the law returns true; each argument reads behind the call as it read before'; 0 by the template 'total and deterministic' (their statements: YtgjfdclmoeellaaTotals.lean).
  GIVEN WITH THE SEED: the statements are not yours to turn. If you find one false, say at which input.
  Laid BY PROGRAM, IN A SANDBOX (cutbox-rows.mjs): the forced cells as the released guide's own fill.sh prints them over the translation dffd3470bd181e7f… (all of the seat's roots in one cut). By AI agents, Wed Nov 11 2026. No macro, syntax, notation, axiom, sorry.
-/
import Derived.Test.YtgjfdclmoeellaaChecked
import GoSem.Claim
import GoSem.ClaimJoined
import GoSem.ClaimMapViews
import Derived.JoinedTies
import Derived.KernelRfl
namespace Go.Proofs.Ytgjfdclmoeellaa
/- THE CELL 'sum', in the pinned program and in every row, IS THE sha256 OF THE DUMP (.gsa) THAT YtgjfdclmoeellaaProg.lean LOADS. Nothing in Lean hashes anything: it is a label: what it is worth is what the hold of that sum in a sandbox is worth. -/
noncomputable def Try.pinned : Pinned := { name := "ytgjfdclmoeellaa", sum := "dffd3470bd181e7fd034991dc0c0029c4bc9d24e71f70fbaf0ef989f8db05a61", checked := Try.checked }
namespace Rows
def none {H : Type} : Left H := { results := [], args := [] }

/-- 'mullionlaw01.WordConverts': WHATEVER THE INPUT: true; the input reads as it did. -/
def wordConvertsSpec : ChangeSpec := { name := "wordConverts", fn := fun _ => fun
  | [d1, d2, d3, d4] => { results := [.lit (.bool true)], args := [d1, d2, d3, d4] }
  | _ => none }
def wordConvertsRow : OpenClaim := { program := "ytgjfdclmoeellaa", sum := "dffd3470bd181e7fd034991dc0c0029c4bc9d24e71f70fbaf0ef989f8db05a61", func := "mullion/mullionlaw01.WordConverts", spec := "wordConverts", apart := false }
def WordConvertsSaid : Prop := wordConvertsRow.holds Try.pinned (OpenSpec.ofChange wordConvertsSpec)

/-- ITS FALSE NEIGHBOUR: 'it returns false'. Refute it at one input. -/
def wordConvertsWrong : ChangeSpec := { name := "wordConverts", fn := fun _ => fun
  | [d1, d2, d3, d4] => { results := [.lit (.bool false)], args := [d1, d2, d3, d4] }
  | _ => none }
def WordConvertsWrongFalsely : Prop := wordConvertsRow.holds Try.pinned (OpenSpec.ofChange wordConvertsWrong)

/-- 'mullionlaw01.WordKinds': WHATEVER THE INPUT: true; the input reads as it did. -/
def wordKindsSpec : ChangeSpec := { name := "wordKinds", fn := fun _ => fun
  | [d1, d2] => { results := [.lit (.bool true)], args := [d1, d2] }
  | _ => none }
def wordKindsRow : OpenClaim := { program := "ytgjfdclmoeellaa", sum := "dffd3470bd181e7fd034991dc0c0029c4bc9d24e71f70fbaf0ef989f8db05a61", func := "mullion/mullionlaw01.WordKinds", spec := "wordKinds", apart := false }
def WordKindsSaid : Prop := wordKindsRow.holds Try.pinned (OpenSpec.ofChange wordKindsSpec)

/-- ITS FALSE NEIGHBOUR: 'it returns false'. Refute it at one input. -/
def wordKindsWrong : ChangeSpec := { name := "wordKinds", fn := fun _ => fun
  | [d1, d2] => { results := [.lit (.bool false)], args := [d1, d2] }
  | _ => none }
def WordKindsWrongFalsely : Prop := wordKindsRow.holds Try.pinned (OpenSpec.ofChange wordKindsWrong)

/-- 'mullionlaw01.WordShifts': WHATEVER THE INPUT: true; the input reads as it did. -/
def wordShiftsSpec : ChangeSpec := { name := "wordShifts", fn := fun _ => fun
  | [d1, d2, d3, d4, d5] => { results := [.lit (.bool true)], args := [d1, d2, d3, d4, d5] }
  | _ => none }
def wordShiftsRow : OpenClaim := { program := "ytgjfdclmoeellaa", sum := "dffd3470bd181e7fd034991dc0c0029c4bc9d24e71f70fbaf0ef989f8db05a61", func := "mullion/mullionlaw01.WordShifts", spec := "wordShifts", apart := false }
def WordShiftsSaid : Prop := wordShiftsRow.holds Try.pinned (OpenSpec.ofChange wordShiftsSpec)

/-- ITS FALSE NEIGHBOUR: 'it returns false'. Refute it at one input. -/
def wordShiftsWrong : ChangeSpec := { name := "wordShifts", fn := fun _ => fun
  | [d1, d2, d3, d4, d5] => { results := [.lit (.bool false)], args := [d1, d2, d3, d4, d5] }
  | _ => none }
def WordShiftsWrongFalsely : Prop := wordShiftsRow.holds Try.pinned (OpenSpec.ofChange wordShiftsWrong)

/-- 'mullionlaw01.WordArith': WHATEVER THE INPUT: true; the input reads as it did. -/
def wordArithSpec : ChangeSpec := { name := "wordArith", fn := fun _ => fun
  | [d1, d2, d3, d4] => { results := [.lit (.bool true)], args := [d1, d2, d3, d4] }
  | _ => none }
def wordArithRow : OpenClaim := { program := "ytgjfdclmoeellaa", sum := "dffd3470bd181e7fd034991dc0c0029c4bc9d24e71f70fbaf0ef989f8db05a61", func := "mullion/mullionlaw01.WordArith", spec := "wordArith", apart := false }
def WordArithSaid : Prop := wordArithRow.holds Try.pinned (OpenSpec.ofChange wordArithSpec)

/-- ITS FALSE NEIGHBOUR: 'it returns false'. Refute it at one input. -/
def wordArithWrong : ChangeSpec := { name := "wordArith", fn := fun _ => fun
  | [d1, d2, d3, d4] => { results := [.lit (.bool false)], args := [d1, d2, d3, d4] }
  | _ => none }
def WordArithWrongFalsely : Prop := wordArithRow.holds Try.pinned (OpenSpec.ofChange wordArithWrong)

/-- 'mullionlaw01.WordRing': WHATEVER THE INPUT: true; the input reads as it did. -/
def wordRingSpec : ChangeSpec := { name := "wordRing", fn := fun _ => fun
  | [d1, d2, d3, d4] => { results := [.lit (.bool true)], args := [d1, d2, d3, d4] }
  | _ => none }
def wordRingRow : OpenClaim := { program := "ytgjfdclmoeellaa", sum := "dffd3470bd181e7fd034991dc0c0029c4bc9d24e71f70fbaf0ef989f8db05a61", func := "mullion/mullionlaw01.WordRing", spec := "wordRing", apart := false }
def WordRingSaid : Prop := wordRingRow.holds Try.pinned (OpenSpec.ofChange wordRingSpec)

/-- ITS FALSE NEIGHBOUR: 'it returns false'. Refute it at one input. -/
def wordRingWrong : ChangeSpec := { name := "wordRing", fn := fun _ => fun
  | [d1, d2, d3, d4] => { results := [.lit (.bool false)], args := [d1, d2, d3, d4] }
  | _ => none }
def WordRingWrongFalsely : Prop := wordRingRow.holds Try.pinned (OpenSpec.ofChange wordRingWrong)

/-- 'mullionlaw01.WordDivides': WHATEVER THE INPUT: true; the input reads as it did. -/
def wordDividesSpec : ChangeSpec := { name := "wordDivides", fn := fun _ => fun
  | [d1, d2, d3] => { results := [.lit (.bool true)], args := [d1, d2, d3] }
  | _ => none }
def wordDividesRow : OpenClaim := { program := "ytgjfdclmoeellaa", sum := "dffd3470bd181e7fd034991dc0c0029c4bc9d24e71f70fbaf0ef989f8db05a61", func := "mullion/mullionlaw01.WordDivides", spec := "wordDivides", apart := false }
def WordDividesSaid : Prop := wordDividesRow.holds Try.pinned (OpenSpec.ofChange wordDividesSpec)

/-- ITS FALSE NEIGHBOUR: 'it returns false'. Refute it at one input. -/
def wordDividesWrong : ChangeSpec := { name := "wordDivides", fn := fun _ => fun
  | [d1, d2, d3] => { results := [.lit (.bool false)], args := [d1, d2, d3] }
  | _ => none }
def WordDividesWrongFalsely : Prop := wordDividesRow.holds Try.pinned (OpenSpec.ofChange wordDividesWrong)

/-- 'mullionlaw07.KonstFolds': WHATEVER THE INPUT: true; the input reads as it did. -/
def konstFoldsSpec : ChangeSpec := { name := "konstFolds", fn := fun _ => fun
  | [d1, d2, d3] => { results := [.lit (.bool true)], args := [d1, d2, d3] }
  | _ => none }
def konstFoldsRow : OpenClaim := { program := "ytgjfdclmoeellaa", sum := "dffd3470bd181e7fd034991dc0c0029c4bc9d24e71f70fbaf0ef989f8db05a61", func := "mullion/mullionlaw07.KonstFolds", spec := "konstFolds", inPlace := ["math/bits.Add64"], apart := false }
def KonstFoldsSaid : Prop := konstFoldsRow.holds Try.pinned (OpenSpec.ofChange konstFoldsSpec)

/-- ITS FALSE NEIGHBOUR: 'it returns false'. Refute it at one input. -/
def konstFoldsWrong : ChangeSpec := { name := "konstFolds", fn := fun _ => fun
  | [d1, d2, d3] => { results := [.lit (.bool false)], args := [d1, d2, d3] }
  | _ => none }
def KonstFoldsWrongFalsely : Prop := konstFoldsRow.holds Try.pinned (OpenSpec.ofChange konstFoldsWrong)

/-- 'mullionlaw07.KonstDivides': WHATEVER THE INPUT: true; the input reads as it did. -/
def konstDividesSpec : ChangeSpec := { name := "konstDivides", fn := fun _ => fun
  | [d1, d2, d3] => { results := [.lit (.bool true)], args := [d1, d2, d3] }
  | _ => none }
def konstDividesRow : OpenClaim := { program := "ytgjfdclmoeellaa", sum := "dffd3470bd181e7fd034991dc0c0029c4bc9d24e71f70fbaf0ef989f8db05a61", func := "mullion/mullionlaw07.KonstDivides", spec := "konstDivides", inPlace := ["math/bits.Add64"], apart := false }
def KonstDividesSaid : Prop := konstDividesRow.holds Try.pinned (OpenSpec.ofChange konstDividesSpec)

/-- ITS FALSE NEIGHBOUR: 'it returns false'. Refute it at one input. -/
def konstDividesWrong : ChangeSpec := { name := "konstDivides", fn := fun _ => fun
  | [d1, d2, d3] => { results := [.lit (.bool false)], args := [d1, d2, d3] }
  | _ => none }
def KonstDividesWrongFalsely : Prop := konstDividesRow.holds Try.pinned (OpenSpec.ofChange konstDividesWrong)

/-- 'mullionlaw01.WordEnds': WHATEVER THE INPUT: true; the input reads as it did. -/
def wordEndsSpec : ChangeSpec := { name := "wordEnds", fn := fun _ => fun
  | [d1, d2] => { results := [.lit (.bool true)], args := [d1, d2] }
  | _ => none }
def wordEndsRow : OpenClaim := { program := "ytgjfdclmoeellaa", sum := "dffd3470bd181e7fd034991dc0c0029c4bc9d24e71f70fbaf0ef989f8db05a61", func := "mullion/mullionlaw01.WordEnds", spec := "wordEnds", apart := false }
def WordEndsSaid : Prop := wordEndsRow.holds Try.pinned (OpenSpec.ofChange wordEndsSpec)

/-- ITS FALSE NEIGHBOUR: 'it returns false'. Refute it at one input. -/
def wordEndsWrong : ChangeSpec := { name := "wordEnds", fn := fun _ => fun
  | [d1, d2] => { results := [.lit (.bool false)], args := [d1, d2] }
  | _ => none }
def WordEndsWrongFalsely : Prop := wordEndsRow.holds Try.pinned (OpenSpec.ofChange wordEndsWrong)

/-- 'mullionlaw01.WordSteps': WHATEVER THE INPUT: true; the input reads as it did. -/
def wordStepsSpec : ChangeSpec := { name := "wordSteps", fn := fun _ => fun
  | [d1, d2, d3, d4, d5] => { results := [.lit (.bool true)], args := [d1, d2, d3, d4, d5] }
  | _ => none }
def wordStepsRow : OpenClaim := { program := "ytgjfdclmoeellaa", sum := "dffd3470bd181e7fd034991dc0c0029c4bc9d24e71f70fbaf0ef989f8db05a61", func := "mullion/mullionlaw01.WordSteps", spec := "wordSteps", apart := false }
def WordStepsSaid : Prop := wordStepsRow.holds Try.pinned (OpenSpec.ofChange wordStepsSpec)

/-- ITS FALSE NEIGHBOUR: 'it returns false'. Refute it at one input. -/
def wordStepsWrong : ChangeSpec := { name := "wordSteps", fn := fun _ => fun
  | [d1, d2, d3, d4, d5] => { results := [.lit (.bool false)], args := [d1, d2, d3, d4, d5] }
  | _ => none }
def WordStepsWrongFalsely : Prop := wordStepsRow.holds Try.pinned (OpenSpec.ofChange wordStepsWrong)

/-- 'mullionlaw07.KonstRing': WHATEVER THE INPUT: true; the input reads as it did. -/
def konstRingSpec : ChangeSpec := { name := "konstRing", fn := fun _ => fun
  | [d1, d2] => { results := [.lit (.bool true)], args := [d1, d2] }
  | _ => none }
def konstRingRow : OpenClaim := { program := "ytgjfdclmoeellaa", sum := "dffd3470bd181e7fd034991dc0c0029c4bc9d24e71f70fbaf0ef989f8db05a61", func := "mullion/mullionlaw07.KonstRing", spec := "konstRing", inPlace := ["math/bits.Add64"], apart := false }
def KonstRingSaid : Prop := konstRingRow.holds Try.pinned (OpenSpec.ofChange konstRingSpec)

/-- ITS FALSE NEIGHBOUR: 'it returns false'. Refute it at one input. -/
def konstRingWrong : ChangeSpec := { name := "konstRing", fn := fun _ => fun
  | [d1, d2] => { results := [.lit (.bool false)], args := [d1, d2] }
  | _ => none }
def KonstRingWrongFalsely : Prop := konstRingRow.holds Try.pinned (OpenSpec.ofChange konstRingWrong)

/-- 'mullionlaw07.KonstOrders': WHATEVER THE INPUT: true; the input reads as it did. -/
def konstOrdersSpec : ChangeSpec := { name := "konstOrders", fn := fun _ => fun
  | [d1, d2] => { results := [.lit (.bool true)], args := [d1, d2] }
  | _ => none }
def konstOrdersRow : OpenClaim := { program := "ytgjfdclmoeellaa", sum := "dffd3470bd181e7fd034991dc0c0029c4bc9d24e71f70fbaf0ef989f8db05a61", func := "mullion/mullionlaw07.KonstOrders", spec := "konstOrders", inPlace := ["math/bits.Add64"], apart := false }
def KonstOrdersSaid : Prop := konstOrdersRow.holds Try.pinned (OpenSpec.ofChange konstOrdersSpec)

/-- ITS FALSE NEIGHBOUR: 'it returns false'. Refute it at one input. -/
def konstOrdersWrong : ChangeSpec := { name := "konstOrders", fn := fun _ => fun
  | [d1, d2] => { results := [.lit (.bool false)], args := [d1, d2] }
  | _ => none }
def KonstOrdersWrongFalsely : Prop := konstOrdersRow.holds Try.pinned (OpenSpec.ofChange konstOrdersWrong)

/-- 'mullionlaw07.KonstOnes': WHATEVER THE INPUT: true; the input reads as it did. -/
def konstOnesSpec : ChangeSpec := { name := "konstOnes", fn := fun _ => fun
  | [d1, d2, d3] => { results := [.lit (.bool true)], args := [d1, d2, d3] }
  | _ => none }
def konstOnesRow : OpenClaim := { program := "ytgjfdclmoeellaa", sum := "dffd3470bd181e7fd034991dc0c0029c4bc9d24e71f70fbaf0ef989f8db05a61", func := "mullion/mullionlaw07.KonstOnes", spec := "konstOnes", inPlace := ["math/bits.Add64"], apart := false }
def KonstOnesSaid : Prop := konstOnesRow.holds Try.pinned (OpenSpec.ofChange konstOnesSpec)

/-- ITS FALSE NEIGHBOUR: 'it returns false'. Refute it at one input. -/
def konstOnesWrong : ChangeSpec := { name := "konstOnes", fn := fun _ => fun
  | [d1, d2, d3] => { results := [.lit (.bool false)], args := [d1, d2, d3] }
  | _ => none }
def KonstOnesWrongFalsely : Prop := konstOnesRow.holds Try.pinned (OpenSpec.ofChange konstOnesWrong)

/-- 'mullionlaw07.KonstBack': WHATEVER THE INPUT: true; the input reads as it did. -/
def konstBackSpec : ChangeSpec := { name := "konstBack", fn := fun _ => fun
  | [d1, d2, d3] => { results := [.lit (.bool true)], args := [d1, d2, d3] }
  | _ => none }
def konstBackRow : OpenClaim := { program := "ytgjfdclmoeellaa", sum := "dffd3470bd181e7fd034991dc0c0029c4bc9d24e71f70fbaf0ef989f8db05a61", func := "mullion/mullionlaw07.KonstBack", spec := "konstBack", inPlace := ["math/bits.Add64"], apart := false }
def KonstBackSaid : Prop := konstBackRow.holds Try.pinned (OpenSpec.ofChange konstBackSpec)

/-- ITS FALSE NEIGHBOUR: 'it returns false'. Refute it at one input. -/
def konstBackWrong : ChangeSpec := { name := "konstBack", fn := fun _ => fun
  | [d1, d2, d3] => { results := [.lit (.bool false)], args := [d1, d2, d3] }
  | _ => none }
def KonstBackWrongFalsely : Prop := konstBackRow.holds Try.pinned (OpenSpec.ofChange konstBackWrong)

/- THE SECOND FORM. 'bulk': how many values and letters a reading holds, each counted each time it is reached (what is shared counts as often as it is met; a slice's spare places count too). A statement '..UptoSaid' is the law's where the arguments, and the package variables that the reading takes, are together of bulk at most 1048576: NARROWER than '..Said'. Prove '..Said' where nothing that the law and all that it calls make is longer than what came in: it says more and counts as full. Else prove '..UptoSaid'. A law counts once. -/
mutual
def uptoBulk {H : Type} : DataW H → Nat
  | .lit (.string bytes) => bytes.length + 1
  | .lit _ => 1
  | .nil => 1
  | .ptr d => uptoBulk d + 1
  | .slice elems spare => uptoBulkAll elems + uptoBulkAll spare + 1
  | .agg parts => uptoBulkAll parts + 1
  | .iface _ d => uptoBulk d + 1
  | .map entries => uptoBulkEntries entries + 1
  | .held _ => 1
def uptoBulkAll {H : Type} : List (DataW H) → Nat
  | [] => 0
  | d :: r => uptoBulk d + uptoBulkAll r
def uptoBulkEntries {H : Type} : List (Lit × DataW H) → Nat
  | [] => 0
  | x :: r => uptoBulkEntry x + uptoBulkEntries r
def uptoBulkEntry {H : Type} : Lit × DataW H → Nat
  | (.string bytes, d) => bytes.length + uptoBulk d + 1
  | (_, d) => uptoBulk d + 1
 end
def uptoSmall : (H : Type) → List (DataW H) → Bool := fun _ ds => decide (uptoBulkAll ds ≤ 1048576)
def OpenSpec.upto (s : _root_.Go.ChangeSpec) : _root_.Go.OpenSpec := { _root_.Go.OpenSpec.ofChange s with cond := some uptoSmall }

/-- 'mullionlaw01.WordConverts', WHERE WHAT IT READS IS OF BULK AT MOST 1048576: true; the input reads as it did. -/
def wordConvertsUptoRow : OpenClaim := { program := "ytgjfdclmoeellaa", sum := "dffd3470bd181e7fd034991dc0c0029c4bc9d24e71f70fbaf0ef989f8db05a61", func := "mullion/mullionlaw01.WordConverts", spec := "wordConverts", apart := false, narrowed := true }
def WordConvertsUptoSaid : Prop := wordConvertsUptoRow.holds Try.pinned (OpenSpec.upto wordConvertsSpec)

/-- 'mullionlaw01.WordKinds', WHERE WHAT IT READS IS OF BULK AT MOST 1048576: true; the input reads as it did. -/
def wordKindsUptoRow : OpenClaim := { program := "ytgjfdclmoeellaa", sum := "dffd3470bd181e7fd034991dc0c0029c4bc9d24e71f70fbaf0ef989f8db05a61", func := "mullion/mullionlaw01.WordKinds", spec := "wordKinds", apart := false, narrowed := true }
def WordKindsUptoSaid : Prop := wordKindsUptoRow.holds Try.pinned (OpenSpec.upto wordKindsSpec)

/-- 'mullionlaw01.WordShifts', WHERE WHAT IT READS IS OF BULK AT MOST 1048576: true; the input reads as it did. -/
def wordShiftsUptoRow : OpenClaim := { program := "ytgjfdclmoeellaa", sum := "dffd3470bd181e7fd034991dc0c0029c4bc9d24e71f70fbaf0ef989f8db05a61", func := "mullion/mullionlaw01.WordShifts", spec := "wordShifts", apart := false, narrowed := true }
def WordShiftsUptoSaid : Prop := wordShiftsUptoRow.holds Try.pinned (OpenSpec.upto wordShiftsSpec)

/-- 'mullionlaw01.WordArith', WHERE WHAT IT READS IS OF BULK AT MOST 1048576: true; the input reads as it did. -/
def wordArithUptoRow : OpenClaim := { program := "ytgjfdclmoeellaa", sum := "dffd3470bd181e7fd034991dc0c0029c4bc9d24e71f70fbaf0ef989f8db05a61", func := "mullion/mullionlaw01.WordArith", spec := "wordArith", apart := false, narrowed := true }
def WordArithUptoSaid : Prop := wordArithUptoRow.holds Try.pinned (OpenSpec.upto wordArithSpec)

/-- 'mullionlaw01.WordRing', WHERE WHAT IT READS IS OF BULK AT MOST 1048576: true; the input reads as it did. -/
def wordRingUptoRow : OpenClaim := { program := "ytgjfdclmoeellaa", sum := "dffd3470bd181e7fd034991dc0c0029c4bc9d24e71f70fbaf0ef989f8db05a61", func := "mullion/mullionlaw01.WordRing", spec := "wordRing", apart := false, narrowed := true }
def WordRingUptoSaid : Prop := wordRingUptoRow.holds Try.pinned (OpenSpec.upto wordRingSpec)

/-- 'mullionlaw01.WordDivides', WHERE WHAT IT READS IS OF BULK AT MOST 1048576: true; the input reads as it did. -/
def wordDividesUptoRow : OpenClaim := { program := "ytgjfdclmoeellaa", sum := "dffd3470bd181e7fd034991dc0c0029c4bc9d24e71f70fbaf0ef989f8db05a61", func := "mullion/mullionlaw01.WordDivides", spec := "wordDivides", apart := false, narrowed := true }
def WordDividesUptoSaid : Prop := wordDividesUptoRow.holds Try.pinned (OpenSpec.upto wordDividesSpec)

/-- 'mullionlaw07.KonstFolds', WHERE WHAT IT READS IS OF BULK AT MOST 1048576: true; the input reads as it did. -/
def konstFoldsUptoRow : OpenClaim := { program := "ytgjfdclmoeellaa", sum := "dffd3470bd181e7fd034991dc0c0029c4bc9d24e71f70fbaf0ef989f8db05a61", func := "mullion/mullionlaw07.KonstFolds", spec := "konstFolds", inPlace := ["math/bits.Add64"], apart := false, narrowed := true }
def KonstFoldsUptoSaid : Prop := konstFoldsUptoRow.holds Try.pinned (OpenSpec.upto konstFoldsSpec)

/-- 'mullionlaw07.KonstDivides', WHERE WHAT IT READS IS OF BULK AT MOST 1048576: true; the input reads as it did. -/
def konstDividesUptoRow : OpenClaim := { program := "ytgjfdclmoeellaa", sum := "dffd3470bd181e7fd034991dc0c0029c4bc9d24e71f70fbaf0ef989f8db05a61", func := "mullion/mullionlaw07.KonstDivides", spec := "konstDivides", inPlace := ["math/bits.Add64"], apart := false, narrowed := true }
def KonstDividesUptoSaid : Prop := konstDividesUptoRow.holds Try.pinned (OpenSpec.upto konstDividesSpec)

/-- 'mullionlaw01.WordEnds', WHERE WHAT IT READS IS OF BULK AT MOST 1048576: true; the input reads as it did. -/
def wordEndsUptoRow : OpenClaim := { program := "ytgjfdclmoeellaa", sum := "dffd3470bd181e7fd034991dc0c0029c4bc9d24e71f70fbaf0ef989f8db05a61", func := "mullion/mullionlaw01.WordEnds", spec := "wordEnds", apart := false, narrowed := true }
def WordEndsUptoSaid : Prop := wordEndsUptoRow.holds Try.pinned (OpenSpec.upto wordEndsSpec)

/-- 'mullionlaw01.WordSteps', WHERE WHAT IT READS IS OF BULK AT MOST 1048576: true; the input reads as it did. -/
def wordStepsUptoRow : OpenClaim := { program := "ytgjfdclmoeellaa", sum := "dffd3470bd181e7fd034991dc0c0029c4bc9d24e71f70fbaf0ef989f8db05a61", func := "mullion/mullionlaw01.WordSteps", spec := "wordSteps", apart := false, narrowed := true }
def WordStepsUptoSaid : Prop := wordStepsUptoRow.holds Try.pinned (OpenSpec.upto wordStepsSpec)

/-- 'mullionlaw07.KonstRing', WHERE WHAT IT READS IS OF BULK AT MOST 1048576: true; the input reads as it did. -/
def konstRingUptoRow : OpenClaim := { program := "ytgjfdclmoeellaa", sum := "dffd3470bd181e7fd034991dc0c0029c4bc9d24e71f70fbaf0ef989f8db05a61", func := "mullion/mullionlaw07.KonstRing", spec := "konstRing", inPlace := ["math/bits.Add64"], apart := false, narrowed := true }
def KonstRingUptoSaid : Prop := konstRingUptoRow.holds Try.pinned (OpenSpec.upto konstRingSpec)

/-- 'mullionlaw07.KonstOrders', WHERE WHAT IT READS IS OF BULK AT MOST 1048576: true; the input reads as it did. -/
def konstOrdersUptoRow : OpenClaim := { program := "ytgjfdclmoeellaa", sum := "dffd3470bd181e7fd034991dc0c0029c4bc9d24e71f70fbaf0ef989f8db05a61", func := "mullion/mullionlaw07.KonstOrders", spec := "konstOrders", inPlace := ["math/bits.Add64"], apart := false, narrowed := true }
def KonstOrdersUptoSaid : Prop := konstOrdersUptoRow.holds Try.pinned (OpenSpec.upto konstOrdersSpec)

/-- 'mullionlaw07.KonstOnes', WHERE WHAT IT READS IS OF BULK AT MOST 1048576: true; the input reads as it did. -/
def konstOnesUptoRow : OpenClaim := { program := "ytgjfdclmoeellaa", sum := "dffd3470bd181e7fd034991dc0c0029c4bc9d24e71f70fbaf0ef989f8db05a61", func := "mullion/mullionlaw07.KonstOnes", spec := "konstOnes", inPlace := ["math/bits.Add64"], apart := false, narrowed := true }
def KonstOnesUptoSaid : Prop := konstOnesUptoRow.holds Try.pinned (OpenSpec.upto konstOnesSpec)

/-- 'mullionlaw07.KonstBack', WHERE WHAT IT READS IS OF BULK AT MOST 1048576: true; the input reads as it did. -/
def konstBackUptoRow : OpenClaim := { program := "ytgjfdclmoeellaa", sum := "dffd3470bd181e7fd034991dc0c0029c4bc9d24e71f70fbaf0ef989f8db05a61", func := "mullion/mullionlaw07.KonstBack", spec := "konstBack", inPlace := ["math/bits.Add64"], apart := false, narrowed := true }
def KonstBackUptoSaid : Prop := konstBackUptoRow.holds Try.pinned (OpenSpec.upto konstBackSpec)

end Rows
end Go.Proofs.Ytgjfdclmoeellaa
