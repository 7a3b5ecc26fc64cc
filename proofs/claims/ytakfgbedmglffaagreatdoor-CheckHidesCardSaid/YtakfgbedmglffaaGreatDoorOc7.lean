/- The law CheckHides: the two sources of case 7: what scanning, parsing and checking come to, piece by piece, by the evaluator. -/
import Derived.Test.YtakfgbedmglffaaGreatDoorOh
namespace Go.Proofs.YtakfgbedmglffaaGreatDoor
open Go.RowKit
open Ev
set_option linter.unusedSimpArgs false
set_option linter.unusedVariables false

def srcC7 : List UInt8 := [102, 117, 110, 99, 32, 102, 40, 110, 32, 105, 110, 116, 54, 52, 41, 32, 123, 32, 125, 10, 102, 117, 110, 99, 32, 109, 97, 105, 110, 40, 41, 32, 123, 32, 118, 97, 114, 32, 120, 32, 91, 93, 105, 110, 116, 54, 52, 59, 32, 123, 32, 102, 32, 58, 61, 32, 49, 59, 32, 102, 32, 61, 32, 102, 32, 43, 32, 49, 32, 125, 59, 32, 102, 40, 49, 41, 32, 125]
def oC7_265 : AObj := .row [vI 10, vS [105, 110, 116, 54, 52], vU 0, vI 9, vN] 26 5
def oC7_267 : AObj := .row [vI 5, vS [110], vU 0, vI 7, vL 265 0 1 1] 26 5
def oC7_292 : AObj := .row [vI 4, vS [], vU 0, vI 6, vN, vI 6, vS [], vU 0, vI 6, vL 267 0 1 unk, vI 7, vS [], vU 0, vI 16, vN, vI 20, vS [], vU 0, vI 16, vN] 26 5
def oC7_356 : AObj := .row [vI 10, vS [105, 110, 116, 54, 52], vU 0, vI 42, vN] 26 5
def oC7_357 : AObj := .row [vI 11, vS [], vU 0, vI 40, vL 356 0 1 1] 26 5
def oC7_427 : AObj := .row [vI 31, vS [], vU 1, vI 56, vN] 26 5
def oC7_564 : AObj := .row [vI 30, vS [102], vU 0, vI 63, vN, vI 31, vS [], vU 1, vI 67, vN] 26 5
def oC7_568 : AObj := .row [vI 30, vS [102], vU 0, vI 59, vN, vI 33, vS [43], vU 0, vI 65, vL 564 0 2 2] 26 5
def oC7_570 : AObj := .row [vI 21, vS [102], vU 0, vI 51, vL 427 0 1 1, vI 23, vS [], vU 0, vI 59, vL 568 0 2 2] 26 5
def oC7_680 : AObj := .row [vI 30, vS [102], vU 0, vI 72, vN, vI 31, vS [], vU 1, vI 74, vN] 26 5
def oC7_695 : AObj := .row [vI 34, vS [], vU 0, vI 73, vL 680 0 2 unk] 26 5
def oC7_697 : AObj := .row [vI 22, vS [120], vU 0, vI 34, vL 357 0 1 1, vI 20, vS [], vU 0, vI 49, vL 570 0 2 unk, vI 24, vS [], vU 0, vI 72, vL 695 0 1 1] 26 5
def oC7_704 : AObj := .row [vI 4, vS [], vU 0, vI 29, vN, vI 6, vS [], vU 0, vI 29, vN, vI 7, vS [], vU 0, vI 32, vN, vI 20, vS [], vU 0, vI 32, vL 697 0 3 unk] 26 5
def oC7_706 : AObj := .row [vI 3, vS [102], vU 0, vI 0, vL 292 0 4 unk, vI 3, vS [109, 97, 105, 110], vU 0, vI 20, vL 704 0 4 unk] 26 5
def nodeC7 : Value := .agg #[vI 1, vS [], vU 0, vI 0, vL 706 0 2 unk]
def oneC7_0 : List Run := [⟨[strV (srcC7.drop 0), vI 0], 21, 24, [], [], [], .tuple #[.agg #[vI 3, vS [102, 117, 110, 99], vU 0, vI 0], vI 4, vI 0]⟩,
  ⟨[strV (srcC7.drop 5), vI 5], 27, 30, [], [], [], .tuple #[.agg #[vI 1, vS [102], vU 0, vI 5], vI 1, vI 0]⟩,
  ⟨[strV (srcC7.drop 6), vI 6], 33, 35, [(0, rowSigns)], [], [], .tuple #[.agg #[vI 4, vS [40], vU 0, vI 6], vI 1, vI 0]⟩,
  ⟨[strV (srcC7.drop 7), vI 7], 38, 41, [], [], [], .tuple #[.agg #[vI 1, vS [110], vU 0, vI 7], vI 1, vI 0]⟩,
  ⟨[strV (srcC7.drop 9), vI 9], 44, 47, [], [], [], .tuple #[.agg #[vI 1, vS [105, 110, 116, 54, 52], vU 0, vI 9], vI 5, vI 0]⟩,
  ⟨[strV (srcC7.drop 14), vI 14], 50, 52, [(0, rowSigns)], [], [], .tuple #[.agg #[vI 4, vS [41], vU 0, vI 14], vI 1, vI 0]⟩,
  ⟨[strV (srcC7.drop 16), vI 16], 55, 57, [(0, rowSigns)], [], [], .tuple #[.agg #[vI 4, vS [123], vU 0, vI 16], vI 1, vI 0]⟩,
  ⟨[strV (srcC7.drop 18), vI 18], 60, 62, [(0, rowSigns)], [], [], .tuple #[.agg #[vI 4, vS [125], vU 0, vI 18], vI 1, vI 0]⟩,
  ⟨[strV (srcC7.drop 20), vI 20], 69, 72, [], [], [], .tuple #[.agg #[vI 3, vS [102, 117, 110, 99], vU 0, vI 20], vI 4, vI 0]⟩,
  ⟨[strV (srcC7.drop 25), vI 25], 75, 78, [], [], [], .tuple #[.agg #[vI 1, vS [109, 97, 105, 110], vU 0, vI 25], vI 4, vI 0]⟩,
  ⟨[strV (srcC7.drop 29), vI 29], 81, 83, [(0, rowSigns)], [], [], .tuple #[.agg #[vI 4, vS [40], vU 0, vI 29], vI 1, vI 0]⟩,
  ⟨[strV (srcC7.drop 30), vI 30], 86, 88, [(0, rowSigns)], [], [], .tuple #[.agg #[vI 4, vS [41], vU 0, vI 30], vI 1, vI 0]⟩,
  ⟨[strV (srcC7.drop 32), vI 32], 91, 93, [(0, rowSigns)], [], [], .tuple #[.agg #[vI 4, vS [123], vU 0, vI 32], vI 1, vI 0]⟩]
def oneC7_1 : List Run := [⟨[strV (srcC7.drop 34), vI 34], 96, 99, [], [], [], .tuple #[.agg #[vI 3, vS [118, 97, 114], vU 0, vI 34], vI 3, vI 0]⟩,
  ⟨[strV (srcC7.drop 38), vI 38], 102, 105, [], [], [], .tuple #[.agg #[vI 1, vS [120], vU 0, vI 38], vI 1, vI 0]⟩,
  ⟨[strV (srcC7.drop 40), vI 40], 108, 110, [(0, rowSigns)], [], [], .tuple #[.agg #[vI 4, vS [91], vU 0, vI 40], vI 1, vI 0]⟩,
  ⟨[strV (srcC7.drop 41), vI 41], 113, 115, [(0, rowSigns)], [], [], .tuple #[.agg #[vI 4, vS [93], vU 0, vI 41], vI 1, vI 0]⟩,
  ⟨[strV (srcC7.drop 42), vI 42], 118, 121, [], [], [], .tuple #[.agg #[vI 1, vS [105, 110, 116, 54, 52], vU 0, vI 42], vI 5, vI 0]⟩,
  ⟨[strV (srcC7.drop 47), vI 47], 124, 126, [(0, rowSigns)], [], [], .tuple #[.agg #[vI 5, vS [59], vU 0, vI 47], vI 1, vI 0]⟩,
  ⟨[strV (srcC7.drop 49), vI 49], 129, 131, [(0, rowSigns)], [], [], .tuple #[.agg #[vI 4, vS [123], vU 0, vI 49], vI 1, vI 0]⟩,
  ⟨[strV (srcC7.drop 51), vI 51], 134, 137, [], [], [], .tuple #[.agg #[vI 1, vS [102], vU 0, vI 51], vI 1, vI 0]⟩,
  ⟨[strV (srcC7.drop 53), vI 53], 140, 142, [(0, rowSigns)], [], [], .tuple #[.agg #[vI 4, vS [58, 61], vU 0, vI 53], vI 2, vI 0]⟩,
  ⟨[strV (srcC7.drop 56), vI 56], 145, 149, [], [], [], .tuple #[.agg #[vI 2, vS [49], vU 1, vI 56], vI 1, vI 0]⟩,
  ⟨[strV (srcC7.drop 57), vI 57], 152, 154, [(0, rowSigns)], [], [], .tuple #[.agg #[vI 5, vS [59], vU 0, vI 57], vI 1, vI 0]⟩,
  ⟨[strV (srcC7.drop 59), vI 59], 157, 160, [], [], [], .tuple #[.agg #[vI 1, vS [102], vU 0, vI 59], vI 1, vI 0]⟩,
  ⟨[strV (srcC7.drop 61), vI 61], 163, 165, [(0, rowSigns)], [], [], .tuple #[.agg #[vI 4, vS [61], vU 0, vI 61], vI 1, vI 0]⟩]
def oneC7_2 : List Run := [⟨[strV (srcC7.drop 63), vI 63], 168, 171, [], [], [], .tuple #[.agg #[vI 1, vS [102], vU 0, vI 63], vI 1, vI 0]⟩,
  ⟨[strV (srcC7.drop 65), vI 65], 174, 176, [(0, rowSigns)], [], [], .tuple #[.agg #[vI 4, vS [43], vU 0, vI 65], vI 1, vI 0]⟩,
  ⟨[strV (srcC7.drop 67), vI 67], 179, 183, [], [], [], .tuple #[.agg #[vI 2, vS [49], vU 1, vI 67], vI 1, vI 0]⟩,
  ⟨[strV (srcC7.drop 69), vI 69], 186, 188, [(0, rowSigns)], [], [], .tuple #[.agg #[vI 4, vS [125], vU 0, vI 69], vI 1, vI 0]⟩,
  ⟨[strV (srcC7.drop 70), vI 70], 191, 193, [(0, rowSigns)], [], [], .tuple #[.agg #[vI 5, vS [59], vU 0, vI 70], vI 1, vI 0]⟩,
  ⟨[strV (srcC7.drop 72), vI 72], 196, 199, [], [], [], .tuple #[.agg #[vI 1, vS [102], vU 0, vI 72], vI 1, vI 0]⟩,
  ⟨[strV (srcC7.drop 73), vI 73], 202, 204, [(0, rowSigns)], [], [], .tuple #[.agg #[vI 4, vS [40], vU 0, vI 73], vI 1, vI 0]⟩,
  ⟨[strV (srcC7.drop 74), vI 74], 207, 211, [], [], [], .tuple #[.agg #[vI 2, vS [49], vU 1, vI 74], vI 1, vI 0]⟩,
  ⟨[strV (srcC7.drop 75), vI 75], 214, 216, [(0, rowSigns)], [], [], .tuple #[.agg #[vI 4, vS [41], vU 0, vI 75], vI 1, vI 0]⟩,
  ⟨[strV (srcC7.drop 77), vI 77], 219, 221, [(0, rowSigns)], [], [], .tuple #[.agg #[vI 4, vS [125], vU 0, vI 77], vI 1, vI 0]⟩]
def oneC7 : List Run := oneC7_0 ++ oneC7_1 ++ oneC7_2
def tokC7 : Run := ⟨[strV srcC7], 21, 228, [(0, rowSigns)], [(227, .row [vI 3, vS [102, 117, 110, 99], vU 0, vI 0, vI 1, vS [102], vU 0, vI 5, vI 4, vS [40], vU 0, vI 6, vI 1, vS [110], vU 0, vI 7, vI 1, vS [105, 110, 116, 54, 52], vU 0, vI 9, vI 4, vS [41], vU 0, vI 14, vI 4, vS [123], vU 0, vI 16, vI 4, vS [125], vU 0, vI 18, vI 5, vS [], vU 0, vI 19, vI 3, vS [102, 117, 110, 99], vU 0, vI 20, vI 1, vS [109, 97, 105, 110], vU 0, vI 25, vI 4, vS [40], vU 0, vI 29, vI 4, vS [41], vU 0, vI 30, vI 4, vS [123], vU 0, vI 32, vI 3, vS [118, 97, 114], vU 0, vI 34, vI 1, vS [120], vU 0, vI 38, vI 4, vS [91], vU 0, vI 40, vI 4, vS [93], vU 0, vI 41, vI 1, vS [105, 110, 116, 54, 52], vU 0, vI 42, vI 5, vS [59], vU 0, vI 47, vI 4, vS [123], vU 0, vI 49, vI 1, vS [102], vU 0, vI 51, vI 4, vS [58, 61], vU 0, vI 53, vI 2, vS [49], vU 1, vI 56, vI 5, vS [59], vU 0, vI 57, vI 1, vS [102], vU 0, vI 59, vI 4, vS [61], vU 0, vI 61, vI 1, vS [102], vU 0, vI 63, vI 4, vS [43], vU 0, vI 65, vI 2, vS [49], vU 1, vI 67, vI 4, vS [125], vU 0, vI 69, vI 5, vS [59], vU 0, vI 70, vI 1, vS [102], vU 0, vI 72, vI 4, vS [40], vU 0, vI 73, vI 2, vS [49], vU 1, vI 74, vI 4, vS [41], vU 0, vI 75, vI 4, vS [125], vU 0, vI 77, vI 5, vS [], vU 0, vI 78] 74 4)], [], .tuple #[vL 227 0 38 unk, vI 0, vI 0]⟩
def parC7 : Run := ⟨[strV srcC7], 17, 873, [(0, rowSigns), (4, rowOps)], [(265, oC7_265), (267, oC7_267), (292, oC7_292), (356, oC7_356), (357, oC7_357), (427, oC7_427), (564, oC7_564), (568, oC7_568), (570, oC7_570), (680, oC7_680), (695, oC7_695), (697, oC7_697), (704, oC7_704), (706, oC7_706)], [], .tuple #[nodeC7, vI 0, vI 0]⟩
def chkC7 : Run := ⟨[nodeC7], 874, 1173, [(4, rowOps), (265, oC7_265), (267, oC7_267), (292, oC7_292), (356, oC7_356), (357, oC7_357), (427, oC7_427), (564, oC7_564), (568, oC7_568), (570, oC7_570), (680, oC7_680), (695, oC7_695), (697, oC7_697), (704, oC7_704), (706, oC7_706)], [], [], vI 0⟩
def prgC7 : Run := ⟨[nodeC7], 873, 1453, [(4, rowOps), (265, oC7_265), (267, oC7_267), (292, oC7_292), (356, oC7_356), (357, oC7_357), (427, oC7_427), (564, oC7_564), (568, oC7_568), (570, oC7_570), (680, oC7_680), (695, oC7_695), (697, oC7_697), (704, oC7_704), (706, oC7_706)], [], [], .tuple #[vL 1452 0 2 unk, vI 0, vI 0]⟩
def souC7 : Run := ⟨[strV srcC7], 16, 1453, [(0, rowSigns), (4, rowOps)], [], [], .tuple #[.agg #[vI 1, vS [], vU 0, vI 0, vL 706 0 2 unk], vI 0, vI 0]⟩
theorem one_EC7_0 : ∀ ax axm, (oneC7_0.all fun r => okRun r (evCall Tryz.prog ((cfgH ax axm).tell []) 100000 39 r.args (rowsR r.rd) r.c0)) = true := fun _ _ => by kernel_rfl
theorem one_EC7_1 : ∀ ax axm, (oneC7_1.all fun r => okRun r (evCall Tryz.prog ((cfgH ax axm).tell []) 100000 39 r.args (rowsR r.rd) r.c0)) = true := fun _ _ => by kernel_rfl
theorem one_EC7_2 : ∀ ax axm, (oneC7_2.all fun r => okRun r (evCall Tryz.prog ((cfgH ax axm).tell []) 100000 39 r.args (rowsR r.rd) r.c0)) = true := fun _ _ => by kernel_rfl
theorem one_EC7 : ∀ ax axm, (oneC7.all fun r => okRun r (evCall Tryz.prog ((cfgH ax axm).tell []) 100000 39 r.args (rowsR r.rd) r.c0)) = true := fun ax axm => all_app (all_app (one_EC7_0 ax axm) (one_EC7_1 ax axm)) (one_EC7_2 ax axm)
theorem tok_EC7 : ∀ ax axm, okRun tokC7 (evCall Tryz.prog ((cfgH ax axm).tell [(39, oneC7)]) 100000 14 tokC7.args (rowsR tokC7.rd) tokC7.c0) = true := fun _ _ => by kernel_rfl
theorem par_EC7 : ∀ ax axm, okRun parC7 (evCall Tryz.prog ((cfgH ax axm).tell [(14, [tokC7])]) 100000 6 parC7.args (rowsR parC7.rd) parC7.c0) = true := fun _ _ => by kernel_rfl
theorem chk_EC7 : ∀ ax axm, okRun chkC7 (evCall Tryz.prog ((cfgH ax axm).tell []) 100000 10 chkC7.args (rowsR chkC7.rd) chkC7.c0) = true := fun _ _ => by kernel_rfl
theorem prg_EC7 : ∀ ax axm, okRun prgC7 (evCall Tryz.prog ((cfgH ax axm).tell [(10, [chkC7])]) 100000 7 prgC7.args (rowsR prgC7.rd) prgC7.c0) = true := fun _ _ => by kernel_rfl
theorem sou_EC7 : ∀ ax axm, okRun souC7 (evCall Tryz.prog ((cfgH ax axm).tell [(6, [parC7]), (7, [prgC7])]) 100000 4 souC7.args (rowsR souC7.rd) souC7.c0) = true := fun _ _ => by kernel_rfl
def srcD7 : List UInt8 := [102, 117, 110, 99, 32, 102, 40, 110, 32, 105, 110, 116, 54, 52, 41, 32, 123, 32, 125, 10, 102, 117, 110, 99, 32, 109, 97, 105, 110, 40, 41, 32, 123, 32, 118, 97, 114, 32, 120, 32, 91, 93, 105, 110, 116, 54, 52, 59, 32, 123, 32, 102, 32, 58, 61, 32, 49, 59, 32, 102, 40, 49, 41, 32, 125, 32, 125]
def oD7_1669 : AObj := .row [vI 10, vS [105, 110, 116, 54, 52], vU 0, vI 9, vN] 26 5
def oD7_1671 : AObj := .row [vI 5, vS [110], vU 0, vI 7, vL 1669 0 1 1] 26 5
def oD7_1696 : AObj := .row [vI 4, vS [], vU 0, vI 6, vN, vI 6, vS [], vU 0, vI 6, vL 1671 0 1 unk, vI 7, vS [], vU 0, vI 16, vN, vI 20, vS [], vU 0, vI 16, vN] 26 5
def oD7_1760 : AObj := .row [vI 10, vS [105, 110, 116, 54, 52], vU 0, vI 42, vN] 26 5
def oD7_1761 : AObj := .row [vI 11, vS [], vU 0, vI 40, vL 1760 0 1 1] 26 5
def oD7_1831 : AObj := .row [vI 31, vS [], vU 1, vI 56, vN] 26 5
def oD7_1936 : AObj := .row [vI 30, vS [102], vU 0, vI 59, vN, vI 31, vS [], vU 1, vI 61, vN] 26 5
def oD7_1951 : AObj := .row [vI 34, vS [], vU 0, vI 60, vL 1936 0 2 unk] 26 5
def oD7_1953 : AObj := .row [vI 21, vS [102], vU 0, vI 51, vL 1831 0 1 1, vI 24, vS [], vU 0, vI 59, vL 1951 0 1 1] 26 5
def oD7_1960 : AObj := .row [vI 22, vS [120], vU 0, vI 34, vL 1761 0 1 1, vI 20, vS [], vU 0, vI 49, vL 1953 0 2 unk] 26 5
def oD7_1967 : AObj := .row [vI 4, vS [], vU 0, vI 29, vN, vI 6, vS [], vU 0, vI 29, vN, vI 7, vS [], vU 0, vI 32, vN, vI 20, vS [], vU 0, vI 32, vL 1960 0 2 unk] 26 5
def oD7_1969 : AObj := .row [vI 3, vS [102], vU 0, vI 0, vL 1696 0 4 unk, vI 3, vS [109, 97, 105, 110], vU 0, vI 20, vL 1967 0 4 unk] 26 5
def nodeD7 : Value := .agg #[vI 1, vS [], vU 0, vI 0, vL 1969 0 2 unk]
def oneD7_0 : List Run := [⟨[strV (srcD7.drop 0), vI 0], 1459, 1462, [], [], [], .tuple #[.agg #[vI 3, vS [102, 117, 110, 99], vU 0, vI 0], vI 4, vI 0]⟩,
  ⟨[strV (srcD7.drop 5), vI 5], 1465, 1468, [], [], [], .tuple #[.agg #[vI 1, vS [102], vU 0, vI 5], vI 1, vI 0]⟩,
  ⟨[strV (srcD7.drop 6), vI 6], 1471, 1473, [(0, rowSigns)], [], [], .tuple #[.agg #[vI 4, vS [40], vU 0, vI 6], vI 1, vI 0]⟩,
  ⟨[strV (srcD7.drop 7), vI 7], 1476, 1479, [], [], [], .tuple #[.agg #[vI 1, vS [110], vU 0, vI 7], vI 1, vI 0]⟩,
  ⟨[strV (srcD7.drop 9), vI 9], 1482, 1485, [], [], [], .tuple #[.agg #[vI 1, vS [105, 110, 116, 54, 52], vU 0, vI 9], vI 5, vI 0]⟩,
  ⟨[strV (srcD7.drop 14), vI 14], 1488, 1490, [(0, rowSigns)], [], [], .tuple #[.agg #[vI 4, vS [41], vU 0, vI 14], vI 1, vI 0]⟩,
  ⟨[strV (srcD7.drop 16), vI 16], 1493, 1495, [(0, rowSigns)], [], [], .tuple #[.agg #[vI 4, vS [123], vU 0, vI 16], vI 1, vI 0]⟩,
  ⟨[strV (srcD7.drop 18), vI 18], 1498, 1500, [(0, rowSigns)], [], [], .tuple #[.agg #[vI 4, vS [125], vU 0, vI 18], vI 1, vI 0]⟩,
  ⟨[strV (srcD7.drop 20), vI 20], 1507, 1510, [], [], [], .tuple #[.agg #[vI 3, vS [102, 117, 110, 99], vU 0, vI 20], vI 4, vI 0]⟩,
  ⟨[strV (srcD7.drop 25), vI 25], 1513, 1516, [], [], [], .tuple #[.agg #[vI 1, vS [109, 97, 105, 110], vU 0, vI 25], vI 4, vI 0]⟩,
  ⟨[strV (srcD7.drop 29), vI 29], 1519, 1521, [(0, rowSigns)], [], [], .tuple #[.agg #[vI 4, vS [40], vU 0, vI 29], vI 1, vI 0]⟩,
  ⟨[strV (srcD7.drop 30), vI 30], 1524, 1526, [(0, rowSigns)], [], [], .tuple #[.agg #[vI 4, vS [41], vU 0, vI 30], vI 1, vI 0]⟩,
  ⟨[strV (srcD7.drop 32), vI 32], 1529, 1531, [(0, rowSigns)], [], [], .tuple #[.agg #[vI 4, vS [123], vU 0, vI 32], vI 1, vI 0]⟩]
def oneD7_1 : List Run := [⟨[strV (srcD7.drop 34), vI 34], 1534, 1537, [], [], [], .tuple #[.agg #[vI 3, vS [118, 97, 114], vU 0, vI 34], vI 3, vI 0]⟩,
  ⟨[strV (srcD7.drop 38), vI 38], 1540, 1543, [], [], [], .tuple #[.agg #[vI 1, vS [120], vU 0, vI 38], vI 1, vI 0]⟩,
  ⟨[strV (srcD7.drop 40), vI 40], 1546, 1548, [(0, rowSigns)], [], [], .tuple #[.agg #[vI 4, vS [91], vU 0, vI 40], vI 1, vI 0]⟩,
  ⟨[strV (srcD7.drop 41), vI 41], 1551, 1553, [(0, rowSigns)], [], [], .tuple #[.agg #[vI 4, vS [93], vU 0, vI 41], vI 1, vI 0]⟩,
  ⟨[strV (srcD7.drop 42), vI 42], 1556, 1559, [], [], [], .tuple #[.agg #[vI 1, vS [105, 110, 116, 54, 52], vU 0, vI 42], vI 5, vI 0]⟩,
  ⟨[strV (srcD7.drop 47), vI 47], 1562, 1564, [(0, rowSigns)], [], [], .tuple #[.agg #[vI 5, vS [59], vU 0, vI 47], vI 1, vI 0]⟩,
  ⟨[strV (srcD7.drop 49), vI 49], 1567, 1569, [(0, rowSigns)], [], [], .tuple #[.agg #[vI 4, vS [123], vU 0, vI 49], vI 1, vI 0]⟩,
  ⟨[strV (srcD7.drop 51), vI 51], 1572, 1575, [], [], [], .tuple #[.agg #[vI 1, vS [102], vU 0, vI 51], vI 1, vI 0]⟩,
  ⟨[strV (srcD7.drop 53), vI 53], 1578, 1580, [(0, rowSigns)], [], [], .tuple #[.agg #[vI 4, vS [58, 61], vU 0, vI 53], vI 2, vI 0]⟩,
  ⟨[strV (srcD7.drop 56), vI 56], 1583, 1587, [], [], [], .tuple #[.agg #[vI 2, vS [49], vU 1, vI 56], vI 1, vI 0]⟩,
  ⟨[strV (srcD7.drop 57), vI 57], 1590, 1592, [(0, rowSigns)], [], [], .tuple #[.agg #[vI 5, vS [59], vU 0, vI 57], vI 1, vI 0]⟩,
  ⟨[strV (srcD7.drop 59), vI 59], 1595, 1598, [], [], [], .tuple #[.agg #[vI 1, vS [102], vU 0, vI 59], vI 1, vI 0]⟩,
  ⟨[strV (srcD7.drop 60), vI 60], 1601, 1603, [(0, rowSigns)], [], [], .tuple #[.agg #[vI 4, vS [40], vU 0, vI 60], vI 1, vI 0]⟩]
def oneD7_2 : List Run := [⟨[strV (srcD7.drop 61), vI 61], 1606, 1610, [], [], [], .tuple #[.agg #[vI 2, vS [49], vU 1, vI 61], vI 1, vI 0]⟩,
  ⟨[strV (srcD7.drop 62), vI 62], 1613, 1615, [(0, rowSigns)], [], [], .tuple #[.agg #[vI 4, vS [41], vU 0, vI 62], vI 1, vI 0]⟩,
  ⟨[strV (srcD7.drop 64), vI 64], 1618, 1620, [(0, rowSigns)], [], [], .tuple #[.agg #[vI 4, vS [125], vU 0, vI 64], vI 1, vI 0]⟩,
  ⟨[strV (srcD7.drop 66), vI 66], 1623, 1625, [(0, rowSigns)], [], [], .tuple #[.agg #[vI 4, vS [125], vU 0, vI 66], vI 1, vI 0]⟩]
def oneD7 : List Run := oneD7_0 ++ oneD7_1 ++ oneD7_2
def tokD7 : Run := ⟨[strV srcD7], 1459, 1632, [(0, rowSigns)], [(1631, .row [vI 3, vS [102, 117, 110, 99], vU 0, vI 0, vI 1, vS [102], vU 0, vI 5, vI 4, vS [40], vU 0, vI 6, vI 1, vS [110], vU 0, vI 7, vI 1, vS [105, 110, 116, 54, 52], vU 0, vI 9, vI 4, vS [41], vU 0, vI 14, vI 4, vS [123], vU 0, vI 16, vI 4, vS [125], vU 0, vI 18, vI 5, vS [], vU 0, vI 19, vI 3, vS [102, 117, 110, 99], vU 0, vI 20, vI 1, vS [109, 97, 105, 110], vU 0, vI 25, vI 4, vS [40], vU 0, vI 29, vI 4, vS [41], vU 0, vI 30, vI 4, vS [123], vU 0, vI 32, vI 3, vS [118, 97, 114], vU 0, vI 34, vI 1, vS [120], vU 0, vI 38, vI 4, vS [91], vU 0, vI 40, vI 4, vS [93], vU 0, vI 41, vI 1, vS [105, 110, 116, 54, 52], vU 0, vI 42, vI 5, vS [59], vU 0, vI 47, vI 4, vS [123], vU 0, vI 49, vI 1, vS [102], vU 0, vI 51, vI 4, vS [58, 61], vU 0, vI 53, vI 2, vS [49], vU 1, vI 56, vI 5, vS [59], vU 0, vI 57, vI 1, vS [102], vU 0, vI 59, vI 4, vS [40], vU 0, vI 60, vI 2, vS [49], vU 1, vI 61, vI 4, vS [41], vU 0, vI 62, vI 4, vS [125], vU 0, vI 64, vI 4, vS [125], vU 0, vI 66, vI 5, vS [], vU 0, vI 67] 74 4)], [], .tuple #[vL 1631 0 32 unk, vI 0, vI 0]⟩
def parD7 : Run := ⟨[strV srcD7], 1455, 2106, [(0, rowSigns), (4, rowOps)], [(1669, oD7_1669), (1671, oD7_1671), (1696, oD7_1696), (1760, oD7_1760), (1761, oD7_1761), (1831, oD7_1831), (1936, oD7_1936), (1951, oD7_1951), (1953, oD7_1953), (1960, oD7_1960), (1967, oD7_1967), (1969, oD7_1969)], [], .tuple #[nodeD7, vI 0, vI 0]⟩
def chkD7 : Run := ⟨[nodeD7], 2107, 2354, [(1669, oD7_1669), (1671, oD7_1671), (1696, oD7_1696), (1760, oD7_1760), (1761, oD7_1761), (1831, oD7_1831), (1936, oD7_1936), (1951, oD7_1951), (1953, oD7_1953), (1960, oD7_1960), (1967, oD7_1967), (1969, oD7_1969)], [], [], vI 0⟩
def prgD7 : Run := ⟨[nodeD7], 2106, 2539, [(1669, oD7_1669), (1671, oD7_1671), (1696, oD7_1696), (1760, oD7_1760), (1761, oD7_1761), (1831, oD7_1831), (1936, oD7_1936), (1951, oD7_1951), (1953, oD7_1953), (1960, oD7_1960), (1967, oD7_1967), (1969, oD7_1969)], [], [], .tuple #[vN, vI 60, vI 9]⟩
def souD7 : Run := ⟨[strV srcD7], 1454, 2539, [(0, rowSigns), (4, rowOps)], [], [], .tuple #[.agg #[vI 0, vS [], vU 0, vI 0, vN], vI 60, vI 9]⟩
theorem one_ED7_0 : ∀ ax axm, (oneD7_0.all fun r => okRun r (evCall Tryz.prog ((cfgH ax axm).tell []) 100000 39 r.args (rowsR r.rd) r.c0)) = true := fun _ _ => by kernel_rfl
theorem one_ED7_1 : ∀ ax axm, (oneD7_1.all fun r => okRun r (evCall Tryz.prog ((cfgH ax axm).tell []) 100000 39 r.args (rowsR r.rd) r.c0)) = true := fun _ _ => by kernel_rfl
theorem one_ED7_2 : ∀ ax axm, (oneD7_2.all fun r => okRun r (evCall Tryz.prog ((cfgH ax axm).tell []) 100000 39 r.args (rowsR r.rd) r.c0)) = true := fun _ _ => by kernel_rfl
theorem one_ED7 : ∀ ax axm, (oneD7.all fun r => okRun r (evCall Tryz.prog ((cfgH ax axm).tell []) 100000 39 r.args (rowsR r.rd) r.c0)) = true := fun ax axm => all_app (all_app (one_ED7_0 ax axm) (one_ED7_1 ax axm)) (one_ED7_2 ax axm)
theorem tok_ED7 : ∀ ax axm, okRun tokD7 (evCall Tryz.prog ((cfgH ax axm).tell [(39, oneD7)]) 100000 14 tokD7.args (rowsR tokD7.rd) tokD7.c0) = true := fun _ _ => by kernel_rfl
theorem par_ED7 : ∀ ax axm, okRun parD7 (evCall Tryz.prog ((cfgH ax axm).tell [(14, [tokD7])]) 100000 6 parD7.args (rowsR parD7.rd) parD7.c0) = true := fun _ _ => by kernel_rfl
theorem chk_ED7 : ∀ ax axm, okRun chkD7 (evCall Tryz.prog ((cfgH ax axm).tell []) 100000 10 chkD7.args (rowsR chkD7.rd) chkD7.c0) = true := fun _ _ => by kernel_rfl
theorem prg_ED7 : ∀ ax axm, okRun prgD7 (evCall Tryz.prog ((cfgH ax axm).tell [(10, [chkD7])]) 100000 7 prgD7.args (rowsR prgD7.rd) prgD7.c0) = true := fun _ _ => by kernel_rfl
theorem sou_ED7 : ∀ ax axm, okRun souD7 (evCall Tryz.prog ((cfgH ax axm).tell [(6, [parD7]), (7, [prgD7])]) 100000 4 souD7.args (rowsR souD7.rd) souD7.c0) = true := fun _ _ => by kernel_rfl
end Go.Proofs.YtakfgbedmglffaaGreatDoor
