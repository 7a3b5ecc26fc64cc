/- The law CheckHides: the two sources of case 5: what scanning, parsing and checking come to, piece by piece, by the evaluator. -/
import Derived.Test.YtakfgbedmglffaaGreatDoorOh
namespace Go.Proofs.YtakfgbedmglffaaGreatDoor
open Go.RowKit
open Ev
set_option linter.unusedSimpArgs false
set_option linter.unusedVariables false

def srcC5 : List UInt8 := [102, 117, 110, 99, 32, 102, 40, 110, 32, 105, 110, 116, 54, 52, 41, 32, 123, 32, 125, 10, 102, 117, 110, 99, 32, 109, 97, 105, 110, 40, 41, 32, 123, 32, 118, 97, 114, 32, 120, 32, 91, 93, 105, 110, 116, 54, 52, 59, 32, 123, 32, 105, 110, 116, 56, 32, 58, 61, 32, 49, 59, 32, 105, 110, 116, 56, 32, 61, 32, 105, 110, 116, 56, 32, 43, 32, 49, 32, 125, 59, 32, 105, 110, 116, 56, 40, 49, 41, 32, 125]
def oC5_265 : AObj := .row [vI 10, vS [105, 110, 116, 54, 52], vU 0, vI 9, vN] 26 5
def oC5_267 : AObj := .row [vI 5, vS [110], vU 0, vI 7, vL 265 0 1 1] 26 5
def oC5_292 : AObj := .row [vI 4, vS [], vU 0, vI 6, vN, vI 6, vS [], vU 0, vI 6, vL 267 0 1 unk, vI 7, vS [], vU 0, vI 16, vN, vI 20, vS [], vU 0, vI 16, vN] 26 5
def oC5_356 : AObj := .row [vI 10, vS [105, 110, 116, 54, 52], vU 0, vI 42, vN] 26 5
def oC5_357 : AObj := .row [vI 11, vS [], vU 0, vI 40, vL 356 0 1 1] 26 5
def oC5_427 : AObj := .row [vI 31, vS [], vU 1, vI 59, vN] 26 5
def oC5_564 : AObj := .row [vI 30, vS [105, 110, 116, 56], vU 0, vI 69, vN, vI 31, vS [], vU 1, vI 76, vN] 26 5
def oC5_568 : AObj := .row [vI 30, vS [105, 110, 116, 56], vU 0, vI 62, vN, vI 33, vS [43], vU 0, vI 74, vL 564 0 2 2] 26 5
def oC5_570 : AObj := .row [vI 21, vS [105, 110, 116, 56], vU 0, vI 51, vL 427 0 1 1, vI 23, vS [], vU 0, vI 62, vL 568 0 2 2] 26 5
def oC5_680 : AObj := .row [vI 30, vS [105, 110, 116, 56], vU 0, vI 81, vN, vI 31, vS [], vU 1, vI 86, vN] 26 5
def oC5_695 : AObj := .row [vI 34, vS [], vU 0, vI 85, vL 680 0 2 unk] 26 5
def oC5_697 : AObj := .row [vI 22, vS [120], vU 0, vI 34, vL 357 0 1 1, vI 20, vS [], vU 0, vI 49, vL 570 0 2 unk, vI 24, vS [], vU 0, vI 81, vL 695 0 1 1] 26 5
def oC5_704 : AObj := .row [vI 4, vS [], vU 0, vI 29, vN, vI 6, vS [], vU 0, vI 29, vN, vI 7, vS [], vU 0, vI 32, vN, vI 20, vS [], vU 0, vI 32, vL 697 0 3 unk] 26 5
def oC5_706 : AObj := .row [vI 3, vS [102], vU 0, vI 0, vL 292 0 4 unk, vI 3, vS [109, 97, 105, 110], vU 0, vI 20, vL 704 0 4 unk] 26 5
def nodeC5 : Value := .agg #[vI 1, vS [], vU 0, vI 0, vL 706 0 2 unk]
def oneC5_0 : List Run := [⟨[strV (srcC5.drop 0), vI 0], 21, 24, [], [], [], .tuple #[.agg #[vI 3, vS [102, 117, 110, 99], vU 0, vI 0], vI 4, vI 0]⟩,
  ⟨[strV (srcC5.drop 5), vI 5], 27, 30, [], [], [], .tuple #[.agg #[vI 1, vS [102], vU 0, vI 5], vI 1, vI 0]⟩,
  ⟨[strV (srcC5.drop 6), vI 6], 33, 35, [(0, rowSigns)], [], [], .tuple #[.agg #[vI 4, vS [40], vU 0, vI 6], vI 1, vI 0]⟩,
  ⟨[strV (srcC5.drop 7), vI 7], 38, 41, [], [], [], .tuple #[.agg #[vI 1, vS [110], vU 0, vI 7], vI 1, vI 0]⟩,
  ⟨[strV (srcC5.drop 9), vI 9], 44, 47, [], [], [], .tuple #[.agg #[vI 1, vS [105, 110, 116, 54, 52], vU 0, vI 9], vI 5, vI 0]⟩,
  ⟨[strV (srcC5.drop 14), vI 14], 50, 52, [(0, rowSigns)], [], [], .tuple #[.agg #[vI 4, vS [41], vU 0, vI 14], vI 1, vI 0]⟩,
  ⟨[strV (srcC5.drop 16), vI 16], 55, 57, [(0, rowSigns)], [], [], .tuple #[.agg #[vI 4, vS [123], vU 0, vI 16], vI 1, vI 0]⟩,
  ⟨[strV (srcC5.drop 18), vI 18], 60, 62, [(0, rowSigns)], [], [], .tuple #[.agg #[vI 4, vS [125], vU 0, vI 18], vI 1, vI 0]⟩,
  ⟨[strV (srcC5.drop 20), vI 20], 69, 72, [], [], [], .tuple #[.agg #[vI 3, vS [102, 117, 110, 99], vU 0, vI 20], vI 4, vI 0]⟩,
  ⟨[strV (srcC5.drop 25), vI 25], 75, 78, [], [], [], .tuple #[.agg #[vI 1, vS [109, 97, 105, 110], vU 0, vI 25], vI 4, vI 0]⟩,
  ⟨[strV (srcC5.drop 29), vI 29], 81, 83, [(0, rowSigns)], [], [], .tuple #[.agg #[vI 4, vS [40], vU 0, vI 29], vI 1, vI 0]⟩,
  ⟨[strV (srcC5.drop 30), vI 30], 86, 88, [(0, rowSigns)], [], [], .tuple #[.agg #[vI 4, vS [41], vU 0, vI 30], vI 1, vI 0]⟩,
  ⟨[strV (srcC5.drop 32), vI 32], 91, 93, [(0, rowSigns)], [], [], .tuple #[.agg #[vI 4, vS [123], vU 0, vI 32], vI 1, vI 0]⟩]
def oneC5_1 : List Run := [⟨[strV (srcC5.drop 34), vI 34], 96, 99, [], [], [], .tuple #[.agg #[vI 3, vS [118, 97, 114], vU 0, vI 34], vI 3, vI 0]⟩,
  ⟨[strV (srcC5.drop 38), vI 38], 102, 105, [], [], [], .tuple #[.agg #[vI 1, vS [120], vU 0, vI 38], vI 1, vI 0]⟩,
  ⟨[strV (srcC5.drop 40), vI 40], 108, 110, [(0, rowSigns)], [], [], .tuple #[.agg #[vI 4, vS [91], vU 0, vI 40], vI 1, vI 0]⟩,
  ⟨[strV (srcC5.drop 41), vI 41], 113, 115, [(0, rowSigns)], [], [], .tuple #[.agg #[vI 4, vS [93], vU 0, vI 41], vI 1, vI 0]⟩,
  ⟨[strV (srcC5.drop 42), vI 42], 118, 121, [], [], [], .tuple #[.agg #[vI 1, vS [105, 110, 116, 54, 52], vU 0, vI 42], vI 5, vI 0]⟩,
  ⟨[strV (srcC5.drop 47), vI 47], 124, 126, [(0, rowSigns)], [], [], .tuple #[.agg #[vI 5, vS [59], vU 0, vI 47], vI 1, vI 0]⟩,
  ⟨[strV (srcC5.drop 49), vI 49], 129, 131, [(0, rowSigns)], [], [], .tuple #[.agg #[vI 4, vS [123], vU 0, vI 49], vI 1, vI 0]⟩,
  ⟨[strV (srcC5.drop 51), vI 51], 134, 137, [], [], [], .tuple #[.agg #[vI 1, vS [105, 110, 116, 56], vU 0, vI 51], vI 4, vI 0]⟩,
  ⟨[strV (srcC5.drop 56), vI 56], 140, 142, [(0, rowSigns)], [], [], .tuple #[.agg #[vI 4, vS [58, 61], vU 0, vI 56], vI 2, vI 0]⟩,
  ⟨[strV (srcC5.drop 59), vI 59], 145, 149, [], [], [], .tuple #[.agg #[vI 2, vS [49], vU 1, vI 59], vI 1, vI 0]⟩,
  ⟨[strV (srcC5.drop 60), vI 60], 152, 154, [(0, rowSigns)], [], [], .tuple #[.agg #[vI 5, vS [59], vU 0, vI 60], vI 1, vI 0]⟩,
  ⟨[strV (srcC5.drop 62), vI 62], 157, 160, [], [], [], .tuple #[.agg #[vI 1, vS [105, 110, 116, 56], vU 0, vI 62], vI 4, vI 0]⟩,
  ⟨[strV (srcC5.drop 67), vI 67], 163, 165, [(0, rowSigns)], [], [], .tuple #[.agg #[vI 4, vS [61], vU 0, vI 67], vI 1, vI 0]⟩]
def oneC5_2 : List Run := [⟨[strV (srcC5.drop 69), vI 69], 168, 171, [], [], [], .tuple #[.agg #[vI 1, vS [105, 110, 116, 56], vU 0, vI 69], vI 4, vI 0]⟩,
  ⟨[strV (srcC5.drop 74), vI 74], 174, 176, [(0, rowSigns)], [], [], .tuple #[.agg #[vI 4, vS [43], vU 0, vI 74], vI 1, vI 0]⟩,
  ⟨[strV (srcC5.drop 76), vI 76], 179, 183, [], [], [], .tuple #[.agg #[vI 2, vS [49], vU 1, vI 76], vI 1, vI 0]⟩,
  ⟨[strV (srcC5.drop 78), vI 78], 186, 188, [(0, rowSigns)], [], [], .tuple #[.agg #[vI 4, vS [125], vU 0, vI 78], vI 1, vI 0]⟩,
  ⟨[strV (srcC5.drop 79), vI 79], 191, 193, [(0, rowSigns)], [], [], .tuple #[.agg #[vI 5, vS [59], vU 0, vI 79], vI 1, vI 0]⟩,
  ⟨[strV (srcC5.drop 81), vI 81], 196, 199, [], [], [], .tuple #[.agg #[vI 1, vS [105, 110, 116, 56], vU 0, vI 81], vI 4, vI 0]⟩,
  ⟨[strV (srcC5.drop 85), vI 85], 202, 204, [(0, rowSigns)], [], [], .tuple #[.agg #[vI 4, vS [40], vU 0, vI 85], vI 1, vI 0]⟩,
  ⟨[strV (srcC5.drop 86), vI 86], 207, 211, [], [], [], .tuple #[.agg #[vI 2, vS [49], vU 1, vI 86], vI 1, vI 0]⟩,
  ⟨[strV (srcC5.drop 87), vI 87], 214, 216, [(0, rowSigns)], [], [], .tuple #[.agg #[vI 4, vS [41], vU 0, vI 87], vI 1, vI 0]⟩,
  ⟨[strV (srcC5.drop 89), vI 89], 219, 221, [(0, rowSigns)], [], [], .tuple #[.agg #[vI 4, vS [125], vU 0, vI 89], vI 1, vI 0]⟩]
def oneC5 : List Run := oneC5_0 ++ oneC5_1 ++ oneC5_2
def tokC5 : Run := ⟨[strV srcC5], 21, 228, [(0, rowSigns)], [(227, .row [vI 3, vS [102, 117, 110, 99], vU 0, vI 0, vI 1, vS [102], vU 0, vI 5, vI 4, vS [40], vU 0, vI 6, vI 1, vS [110], vU 0, vI 7, vI 1, vS [105, 110, 116, 54, 52], vU 0, vI 9, vI 4, vS [41], vU 0, vI 14, vI 4, vS [123], vU 0, vI 16, vI 4, vS [125], vU 0, vI 18, vI 5, vS [], vU 0, vI 19, vI 3, vS [102, 117, 110, 99], vU 0, vI 20, vI 1, vS [109, 97, 105, 110], vU 0, vI 25, vI 4, vS [40], vU 0, vI 29, vI 4, vS [41], vU 0, vI 30, vI 4, vS [123], vU 0, vI 32, vI 3, vS [118, 97, 114], vU 0, vI 34, vI 1, vS [120], vU 0, vI 38, vI 4, vS [91], vU 0, vI 40, vI 4, vS [93], vU 0, vI 41, vI 1, vS [105, 110, 116, 54, 52], vU 0, vI 42, vI 5, vS [59], vU 0, vI 47, vI 4, vS [123], vU 0, vI 49, vI 1, vS [105, 110, 116, 56], vU 0, vI 51, vI 4, vS [58, 61], vU 0, vI 56, vI 2, vS [49], vU 1, vI 59, vI 5, vS [59], vU 0, vI 60, vI 1, vS [105, 110, 116, 56], vU 0, vI 62, vI 4, vS [61], vU 0, vI 67, vI 1, vS [105, 110, 116, 56], vU 0, vI 69, vI 4, vS [43], vU 0, vI 74, vI 2, vS [49], vU 1, vI 76, vI 4, vS [125], vU 0, vI 78, vI 5, vS [59], vU 0, vI 79, vI 1, vS [105, 110, 116, 56], vU 0, vI 81, vI 4, vS [40], vU 0, vI 85, vI 2, vS [49], vU 1, vI 86, vI 4, vS [41], vU 0, vI 87, vI 4, vS [125], vU 0, vI 89, vI 5, vS [], vU 0, vI 90] 74 4)], [], .tuple #[vL 227 0 38 unk, vI 0, vI 0]⟩
def parC5 : Run := ⟨[strV srcC5], 17, 873, [(0, rowSigns), (4, rowOps)], [(265, oC5_265), (267, oC5_267), (292, oC5_292), (356, oC5_356), (357, oC5_357), (427, oC5_427), (564, oC5_564), (568, oC5_568), (570, oC5_570), (680, oC5_680), (695, oC5_695), (697, oC5_697), (704, oC5_704), (706, oC5_706)], [], .tuple #[nodeC5, vI 0, vI 0]⟩
def chkC5 : Run := ⟨[nodeC5], 874, 1173, [(4, rowOps), (265, oC5_265), (267, oC5_267), (292, oC5_292), (356, oC5_356), (357, oC5_357), (427, oC5_427), (564, oC5_564), (568, oC5_568), (570, oC5_570), (680, oC5_680), (695, oC5_695), (697, oC5_697), (704, oC5_704), (706, oC5_706)], [], [], vI 0⟩
def prgC5 : Run := ⟨[nodeC5], 873, 1427, [(4, rowOps), (265, oC5_265), (267, oC5_267), (292, oC5_292), (356, oC5_356), (357, oC5_357), (427, oC5_427), (564, oC5_564), (568, oC5_568), (570, oC5_570), (680, oC5_680), (695, oC5_695), (697, oC5_697), (704, oC5_704), (706, oC5_706)], [], [], .tuple #[vL 1426 0 2 unk, vI 0, vI 0]⟩
def souC5 : Run := ⟨[strV srcC5], 16, 1427, [(0, rowSigns), (4, rowOps)], [], [], .tuple #[.agg #[vI 1, vS [], vU 0, vI 0, vL 706 0 2 unk], vI 0, vI 0]⟩
theorem one_EC5_0 : ∀ ax axm, (oneC5_0.all fun r => okRun r (evCall Tryz.prog ((cfgH ax axm).tell []) 100000 39 r.args (rowsR r.rd) r.c0)) = true := fun _ _ => by kernel_rfl
theorem one_EC5_1 : ∀ ax axm, (oneC5_1.all fun r => okRun r (evCall Tryz.prog ((cfgH ax axm).tell []) 100000 39 r.args (rowsR r.rd) r.c0)) = true := fun _ _ => by kernel_rfl
theorem one_EC5_2 : ∀ ax axm, (oneC5_2.all fun r => okRun r (evCall Tryz.prog ((cfgH ax axm).tell []) 100000 39 r.args (rowsR r.rd) r.c0)) = true := fun _ _ => by kernel_rfl
theorem one_EC5 : ∀ ax axm, (oneC5.all fun r => okRun r (evCall Tryz.prog ((cfgH ax axm).tell []) 100000 39 r.args (rowsR r.rd) r.c0)) = true := fun ax axm => all_app (all_app (one_EC5_0 ax axm) (one_EC5_1 ax axm)) (one_EC5_2 ax axm)
theorem tok_EC5 : ∀ ax axm, okRun tokC5 (evCall Tryz.prog ((cfgH ax axm).tell [(39, oneC5)]) 100000 14 tokC5.args (rowsR tokC5.rd) tokC5.c0) = true := fun _ _ => by kernel_rfl
theorem par_EC5 : ∀ ax axm, okRun parC5 (evCall Tryz.prog ((cfgH ax axm).tell [(14, [tokC5])]) 100000 6 parC5.args (rowsR parC5.rd) parC5.c0) = true := fun _ _ => by kernel_rfl
theorem chk_EC5 : ∀ ax axm, okRun chkC5 (evCall Tryz.prog ((cfgH ax axm).tell []) 100000 10 chkC5.args (rowsR chkC5.rd) chkC5.c0) = true := fun _ _ => by kernel_rfl
theorem prg_EC5 : ∀ ax axm, okRun prgC5 (evCall Tryz.prog ((cfgH ax axm).tell [(10, [chkC5])]) 100000 7 prgC5.args (rowsR prgC5.rd) prgC5.c0) = true := fun _ _ => by kernel_rfl
theorem sou_EC5 : ∀ ax axm, okRun souC5 (evCall Tryz.prog ((cfgH ax axm).tell [(6, [parC5]), (7, [prgC5])]) 100000 4 souC5.args (rowsR souC5.rd) souC5.c0) = true := fun _ _ => by kernel_rfl
def srcD5 : List UInt8 := [102, 117, 110, 99, 32, 102, 40, 110, 32, 105, 110, 116, 54, 52, 41, 32, 123, 32, 125, 10, 102, 117, 110, 99, 32, 109, 97, 105, 110, 40, 41, 32, 123, 32, 118, 97, 114, 32, 120, 32, 91, 93, 105, 110, 116, 54, 52, 59, 32, 123, 32, 105, 110, 116, 56, 32, 58, 61, 32, 49, 59, 32, 105, 110, 116, 56, 40, 49, 41, 32, 125, 32, 125]
def oD5_1643 : AObj := .row [vI 10, vS [105, 110, 116, 54, 52], vU 0, vI 9, vN] 26 5
def oD5_1645 : AObj := .row [vI 5, vS [110], vU 0, vI 7, vL 1643 0 1 1] 26 5
def oD5_1670 : AObj := .row [vI 4, vS [], vU 0, vI 6, vN, vI 6, vS [], vU 0, vI 6, vL 1645 0 1 unk, vI 7, vS [], vU 0, vI 16, vN, vI 20, vS [], vU 0, vI 16, vN] 26 5
def oD5_1734 : AObj := .row [vI 10, vS [105, 110, 116, 54, 52], vU 0, vI 42, vN] 26 5
def oD5_1735 : AObj := .row [vI 11, vS [], vU 0, vI 40, vL 1734 0 1 1] 26 5
def oD5_1805 : AObj := .row [vI 31, vS [], vU 1, vI 59, vN] 26 5
def oD5_1910 : AObj := .row [vI 30, vS [105, 110, 116, 56], vU 0, vI 62, vN, vI 31, vS [], vU 1, vI 67, vN] 26 5
def oD5_1925 : AObj := .row [vI 34, vS [], vU 0, vI 66, vL 1910 0 2 unk] 26 5
def oD5_1927 : AObj := .row [vI 21, vS [105, 110, 116, 56], vU 0, vI 51, vL 1805 0 1 1, vI 24, vS [], vU 0, vI 62, vL 1925 0 1 1] 26 5
def oD5_1934 : AObj := .row [vI 22, vS [120], vU 0, vI 34, vL 1735 0 1 1, vI 20, vS [], vU 0, vI 49, vL 1927 0 2 unk] 26 5
def oD5_1941 : AObj := .row [vI 4, vS [], vU 0, vI 29, vN, vI 6, vS [], vU 0, vI 29, vN, vI 7, vS [], vU 0, vI 32, vN, vI 20, vS [], vU 0, vI 32, vL 1934 0 2 unk] 26 5
def oD5_1943 : AObj := .row [vI 3, vS [102], vU 0, vI 0, vL 1670 0 4 unk, vI 3, vS [109, 97, 105, 110], vU 0, vI 20, vL 1941 0 4 unk] 26 5
def nodeD5 : Value := .agg #[vI 1, vS [], vU 0, vI 0, vL 1943 0 2 unk]
def oneD5_0 : List Run := [⟨[strV (srcD5.drop 0), vI 0], 1433, 1436, [], [], [], .tuple #[.agg #[vI 3, vS [102, 117, 110, 99], vU 0, vI 0], vI 4, vI 0]⟩,
  ⟨[strV (srcD5.drop 5), vI 5], 1439, 1442, [], [], [], .tuple #[.agg #[vI 1, vS [102], vU 0, vI 5], vI 1, vI 0]⟩,
  ⟨[strV (srcD5.drop 6), vI 6], 1445, 1447, [(0, rowSigns)], [], [], .tuple #[.agg #[vI 4, vS [40], vU 0, vI 6], vI 1, vI 0]⟩,
  ⟨[strV (srcD5.drop 7), vI 7], 1450, 1453, [], [], [], .tuple #[.agg #[vI 1, vS [110], vU 0, vI 7], vI 1, vI 0]⟩,
  ⟨[strV (srcD5.drop 9), vI 9], 1456, 1459, [], [], [], .tuple #[.agg #[vI 1, vS [105, 110, 116, 54, 52], vU 0, vI 9], vI 5, vI 0]⟩,
  ⟨[strV (srcD5.drop 14), vI 14], 1462, 1464, [(0, rowSigns)], [], [], .tuple #[.agg #[vI 4, vS [41], vU 0, vI 14], vI 1, vI 0]⟩,
  ⟨[strV (srcD5.drop 16), vI 16], 1467, 1469, [(0, rowSigns)], [], [], .tuple #[.agg #[vI 4, vS [123], vU 0, vI 16], vI 1, vI 0]⟩,
  ⟨[strV (srcD5.drop 18), vI 18], 1472, 1474, [(0, rowSigns)], [], [], .tuple #[.agg #[vI 4, vS [125], vU 0, vI 18], vI 1, vI 0]⟩,
  ⟨[strV (srcD5.drop 20), vI 20], 1481, 1484, [], [], [], .tuple #[.agg #[vI 3, vS [102, 117, 110, 99], vU 0, vI 20], vI 4, vI 0]⟩,
  ⟨[strV (srcD5.drop 25), vI 25], 1487, 1490, [], [], [], .tuple #[.agg #[vI 1, vS [109, 97, 105, 110], vU 0, vI 25], vI 4, vI 0]⟩,
  ⟨[strV (srcD5.drop 29), vI 29], 1493, 1495, [(0, rowSigns)], [], [], .tuple #[.agg #[vI 4, vS [40], vU 0, vI 29], vI 1, vI 0]⟩,
  ⟨[strV (srcD5.drop 30), vI 30], 1498, 1500, [(0, rowSigns)], [], [], .tuple #[.agg #[vI 4, vS [41], vU 0, vI 30], vI 1, vI 0]⟩,
  ⟨[strV (srcD5.drop 32), vI 32], 1503, 1505, [(0, rowSigns)], [], [], .tuple #[.agg #[vI 4, vS [123], vU 0, vI 32], vI 1, vI 0]⟩]
def oneD5_1 : List Run := [⟨[strV (srcD5.drop 34), vI 34], 1508, 1511, [], [], [], .tuple #[.agg #[vI 3, vS [118, 97, 114], vU 0, vI 34], vI 3, vI 0]⟩,
  ⟨[strV (srcD5.drop 38), vI 38], 1514, 1517, [], [], [], .tuple #[.agg #[vI 1, vS [120], vU 0, vI 38], vI 1, vI 0]⟩,
  ⟨[strV (srcD5.drop 40), vI 40], 1520, 1522, [(0, rowSigns)], [], [], .tuple #[.agg #[vI 4, vS [91], vU 0, vI 40], vI 1, vI 0]⟩,
  ⟨[strV (srcD5.drop 41), vI 41], 1525, 1527, [(0, rowSigns)], [], [], .tuple #[.agg #[vI 4, vS [93], vU 0, vI 41], vI 1, vI 0]⟩,
  ⟨[strV (srcD5.drop 42), vI 42], 1530, 1533, [], [], [], .tuple #[.agg #[vI 1, vS [105, 110, 116, 54, 52], vU 0, vI 42], vI 5, vI 0]⟩,
  ⟨[strV (srcD5.drop 47), vI 47], 1536, 1538, [(0, rowSigns)], [], [], .tuple #[.agg #[vI 5, vS [59], vU 0, vI 47], vI 1, vI 0]⟩,
  ⟨[strV (srcD5.drop 49), vI 49], 1541, 1543, [(0, rowSigns)], [], [], .tuple #[.agg #[vI 4, vS [123], vU 0, vI 49], vI 1, vI 0]⟩,
  ⟨[strV (srcD5.drop 51), vI 51], 1546, 1549, [], [], [], .tuple #[.agg #[vI 1, vS [105, 110, 116, 56], vU 0, vI 51], vI 4, vI 0]⟩,
  ⟨[strV (srcD5.drop 56), vI 56], 1552, 1554, [(0, rowSigns)], [], [], .tuple #[.agg #[vI 4, vS [58, 61], vU 0, vI 56], vI 2, vI 0]⟩,
  ⟨[strV (srcD5.drop 59), vI 59], 1557, 1561, [], [], [], .tuple #[.agg #[vI 2, vS [49], vU 1, vI 59], vI 1, vI 0]⟩,
  ⟨[strV (srcD5.drop 60), vI 60], 1564, 1566, [(0, rowSigns)], [], [], .tuple #[.agg #[vI 5, vS [59], vU 0, vI 60], vI 1, vI 0]⟩,
  ⟨[strV (srcD5.drop 62), vI 62], 1569, 1572, [], [], [], .tuple #[.agg #[vI 1, vS [105, 110, 116, 56], vU 0, vI 62], vI 4, vI 0]⟩,
  ⟨[strV (srcD5.drop 66), vI 66], 1575, 1577, [(0, rowSigns)], [], [], .tuple #[.agg #[vI 4, vS [40], vU 0, vI 66], vI 1, vI 0]⟩]
def oneD5_2 : List Run := [⟨[strV (srcD5.drop 67), vI 67], 1580, 1584, [], [], [], .tuple #[.agg #[vI 2, vS [49], vU 1, vI 67], vI 1, vI 0]⟩,
  ⟨[strV (srcD5.drop 68), vI 68], 1587, 1589, [(0, rowSigns)], [], [], .tuple #[.agg #[vI 4, vS [41], vU 0, vI 68], vI 1, vI 0]⟩,
  ⟨[strV (srcD5.drop 70), vI 70], 1592, 1594, [(0, rowSigns)], [], [], .tuple #[.agg #[vI 4, vS [125], vU 0, vI 70], vI 1, vI 0]⟩,
  ⟨[strV (srcD5.drop 72), vI 72], 1597, 1599, [(0, rowSigns)], [], [], .tuple #[.agg #[vI 4, vS [125], vU 0, vI 72], vI 1, vI 0]⟩]
def oneD5 : List Run := oneD5_0 ++ oneD5_1 ++ oneD5_2
def tokD5 : Run := ⟨[strV srcD5], 1433, 1606, [(0, rowSigns)], [(1605, .row [vI 3, vS [102, 117, 110, 99], vU 0, vI 0, vI 1, vS [102], vU 0, vI 5, vI 4, vS [40], vU 0, vI 6, vI 1, vS [110], vU 0, vI 7, vI 1, vS [105, 110, 116, 54, 52], vU 0, vI 9, vI 4, vS [41], vU 0, vI 14, vI 4, vS [123], vU 0, vI 16, vI 4, vS [125], vU 0, vI 18, vI 5, vS [], vU 0, vI 19, vI 3, vS [102, 117, 110, 99], vU 0, vI 20, vI 1, vS [109, 97, 105, 110], vU 0, vI 25, vI 4, vS [40], vU 0, vI 29, vI 4, vS [41], vU 0, vI 30, vI 4, vS [123], vU 0, vI 32, vI 3, vS [118, 97, 114], vU 0, vI 34, vI 1, vS [120], vU 0, vI 38, vI 4, vS [91], vU 0, vI 40, vI 4, vS [93], vU 0, vI 41, vI 1, vS [105, 110, 116, 54, 52], vU 0, vI 42, vI 5, vS [59], vU 0, vI 47, vI 4, vS [123], vU 0, vI 49, vI 1, vS [105, 110, 116, 56], vU 0, vI 51, vI 4, vS [58, 61], vU 0, vI 56, vI 2, vS [49], vU 1, vI 59, vI 5, vS [59], vU 0, vI 60, vI 1, vS [105, 110, 116, 56], vU 0, vI 62, vI 4, vS [40], vU 0, vI 66, vI 2, vS [49], vU 1, vI 67, vI 4, vS [41], vU 0, vI 68, vI 4, vS [125], vU 0, vI 70, vI 4, vS [125], vU 0, vI 72, vI 5, vS [], vU 0, vI 73] 74 4)], [], .tuple #[vL 1605 0 32 unk, vI 0, vI 0]⟩
def parD5 : Run := ⟨[strV srcD5], 1429, 2080, [(0, rowSigns), (4, rowOps)], [(1643, oD5_1643), (1645, oD5_1645), (1670, oD5_1670), (1734, oD5_1734), (1735, oD5_1735), (1805, oD5_1805), (1910, oD5_1910), (1925, oD5_1925), (1927, oD5_1927), (1934, oD5_1934), (1941, oD5_1941), (1943, oD5_1943)], [], .tuple #[nodeD5, vI 0, vI 0]⟩
def chkD5 : Run := ⟨[nodeD5], 2081, 2328, [(1643, oD5_1643), (1645, oD5_1645), (1670, oD5_1670), (1734, oD5_1734), (1735, oD5_1735), (1805, oD5_1805), (1910, oD5_1910), (1925, oD5_1925), (1927, oD5_1927), (1934, oD5_1934), (1941, oD5_1941), (1943, oD5_1943)], [], [], vI 0⟩
def prgD5 : Run := ⟨[nodeD5], 2080, 2513, [(1643, oD5_1643), (1645, oD5_1645), (1670, oD5_1670), (1734, oD5_1734), (1735, oD5_1735), (1805, oD5_1805), (1910, oD5_1910), (1925, oD5_1925), (1927, oD5_1927), (1934, oD5_1934), (1941, oD5_1941), (1943, oD5_1943)], [], [], .tuple #[vN, vI 66, vI 9]⟩
def souD5 : Run := ⟨[strV srcD5], 1428, 2513, [(0, rowSigns), (4, rowOps)], [], [], .tuple #[.agg #[vI 0, vS [], vU 0, vI 0, vN], vI 66, vI 9]⟩
theorem one_ED5_0 : ∀ ax axm, (oneD5_0.all fun r => okRun r (evCall Tryz.prog ((cfgH ax axm).tell []) 100000 39 r.args (rowsR r.rd) r.c0)) = true := fun _ _ => by kernel_rfl
theorem one_ED5_1 : ∀ ax axm, (oneD5_1.all fun r => okRun r (evCall Tryz.prog ((cfgH ax axm).tell []) 100000 39 r.args (rowsR r.rd) r.c0)) = true := fun _ _ => by kernel_rfl
theorem one_ED5_2 : ∀ ax axm, (oneD5_2.all fun r => okRun r (evCall Tryz.prog ((cfgH ax axm).tell []) 100000 39 r.args (rowsR r.rd) r.c0)) = true := fun _ _ => by kernel_rfl
theorem one_ED5 : ∀ ax axm, (oneD5.all fun r => okRun r (evCall Tryz.prog ((cfgH ax axm).tell []) 100000 39 r.args (rowsR r.rd) r.c0)) = true := fun ax axm => all_app (all_app (one_ED5_0 ax axm) (one_ED5_1 ax axm)) (one_ED5_2 ax axm)
theorem tok_ED5 : ∀ ax axm, okRun tokD5 (evCall Tryz.prog ((cfgH ax axm).tell [(39, oneD5)]) 100000 14 tokD5.args (rowsR tokD5.rd) tokD5.c0) = true := fun _ _ => by kernel_rfl
theorem par_ED5 : ∀ ax axm, okRun parD5 (evCall Tryz.prog ((cfgH ax axm).tell [(14, [tokD5])]) 100000 6 parD5.args (rowsR parD5.rd) parD5.c0) = true := fun _ _ => by kernel_rfl
theorem chk_ED5 : ∀ ax axm, okRun chkD5 (evCall Tryz.prog ((cfgH ax axm).tell []) 100000 10 chkD5.args (rowsR chkD5.rd) chkD5.c0) = true := fun _ _ => by kernel_rfl
theorem prg_ED5 : ∀ ax axm, okRun prgD5 (evCall Tryz.prog ((cfgH ax axm).tell [(10, [chkD5])]) 100000 7 prgD5.args (rowsR prgD5.rd) prgD5.c0) = true := fun _ _ => by kernel_rfl
theorem sou_ED5 : ∀ ax axm, okRun souD5 (evCall Tryz.prog ((cfgH ax axm).tell [(6, [parD5]), (7, [prgD5])]) 100000 4 souD5.args (rowsR souD5.rd) souD5.c0) = true := fun _ _ => by kernel_rfl
end Go.Proofs.YtakfgbedmglffaaGreatDoor
