/- The law CheckHides: the two sources of case 2: what scanning, parsing and checking come to, piece by piece, by the evaluator. -/
import Derived.Test.YtakfgbedmglffaaGreatDoorOh
namespace Go.Proofs.YtakfgbedmglffaaGreatDoor
open Go.RowKit
open Ev
set_option linter.unusedSimpArgs false
set_option linter.unusedVariables false

def srcC2 : List UInt8 := [102, 117, 110, 99, 32, 102, 40, 110, 32, 105, 110, 116, 54, 52, 41, 32, 123, 32, 125, 10, 102, 117, 110, 99, 32, 109, 97, 105, 110, 40, 41, 32, 123, 32, 118, 97, 114, 32, 120, 32, 91, 93, 105, 110, 116, 54, 52, 59, 32, 123, 32, 112, 97, 110, 105, 99, 32, 58, 61, 32, 49, 59, 32, 112, 97, 110, 105, 99, 32, 61, 32, 112, 97, 110, 105, 99, 32, 43, 32, 49, 32, 125, 59, 32, 112, 97, 110, 105, 99, 40, 49, 41, 32, 125]
def oC2_265 : AObj := .row [vI 10, vS [105, 110, 116, 54, 52], vU 0, vI 9, vN] 26 5
def oC2_267 : AObj := .row [vI 5, vS [110], vU 0, vI 7, vL 265 0 1 1] 26 5
def oC2_292 : AObj := .row [vI 4, vS [], vU 0, vI 6, vN, vI 6, vS [], vU 0, vI 6, vL 267 0 1 unk, vI 7, vS [], vU 0, vI 16, vN, vI 20, vS [], vU 0, vI 16, vN] 26 5
def oC2_356 : AObj := .row [vI 10, vS [105, 110, 116, 54, 52], vU 0, vI 42, vN] 26 5
def oC2_357 : AObj := .row [vI 11, vS [], vU 0, vI 40, vL 356 0 1 1] 26 5
def oC2_427 : AObj := .row [vI 31, vS [], vU 1, vI 60, vN] 26 5
def oC2_564 : AObj := .row [vI 30, vS [112, 97, 110, 105, 99], vU 0, vI 71, vN, vI 31, vS [], vU 1, vI 79, vN] 26 5
def oC2_568 : AObj := .row [vI 30, vS [112, 97, 110, 105, 99], vU 0, vI 63, vN, vI 33, vS [43], vU 0, vI 77, vL 564 0 2 2] 26 5
def oC2_570 : AObj := .row [vI 21, vS [112, 97, 110, 105, 99], vU 0, vI 51, vL 427 0 1 1, vI 23, vS [], vU 0, vI 63, vL 568 0 2 2] 26 5
def oC2_680 : AObj := .row [vI 30, vS [112, 97, 110, 105, 99], vU 0, vI 84, vN, vI 31, vS [], vU 1, vI 90, vN] 26 5
def oC2_695 : AObj := .row [vI 34, vS [], vU 0, vI 89, vL 680 0 2 unk] 26 5
def oC2_697 : AObj := .row [vI 22, vS [120], vU 0, vI 34, vL 357 0 1 1, vI 20, vS [], vU 0, vI 49, vL 570 0 2 unk, vI 24, vS [], vU 0, vI 84, vL 695 0 1 1] 26 5
def oC2_704 : AObj := .row [vI 4, vS [], vU 0, vI 29, vN, vI 6, vS [], vU 0, vI 29, vN, vI 7, vS [], vU 0, vI 32, vN, vI 20, vS [], vU 0, vI 32, vL 697 0 3 unk] 26 5
def oC2_706 : AObj := .row [vI 3, vS [102], vU 0, vI 0, vL 292 0 4 unk, vI 3, vS [109, 97, 105, 110], vU 0, vI 20, vL 704 0 4 unk] 26 5
def nodeC2 : Value := .agg #[vI 1, vS [], vU 0, vI 0, vL 706 0 2 unk]
def oneC2_0 : List Run := [⟨[strV (srcC2.drop 0), vI 0], 21, 24, [], [], [], .tuple #[.agg #[vI 3, vS [102, 117, 110, 99], vU 0, vI 0], vI 4, vI 0]⟩,
  ⟨[strV (srcC2.drop 5), vI 5], 27, 30, [], [], [], .tuple #[.agg #[vI 1, vS [102], vU 0, vI 5], vI 1, vI 0]⟩,
  ⟨[strV (srcC2.drop 6), vI 6], 33, 35, [(0, rowSigns)], [], [], .tuple #[.agg #[vI 4, vS [40], vU 0, vI 6], vI 1, vI 0]⟩,
  ⟨[strV (srcC2.drop 7), vI 7], 38, 41, [], [], [], .tuple #[.agg #[vI 1, vS [110], vU 0, vI 7], vI 1, vI 0]⟩,
  ⟨[strV (srcC2.drop 9), vI 9], 44, 47, [], [], [], .tuple #[.agg #[vI 1, vS [105, 110, 116, 54, 52], vU 0, vI 9], vI 5, vI 0]⟩,
  ⟨[strV (srcC2.drop 14), vI 14], 50, 52, [(0, rowSigns)], [], [], .tuple #[.agg #[vI 4, vS [41], vU 0, vI 14], vI 1, vI 0]⟩,
  ⟨[strV (srcC2.drop 16), vI 16], 55, 57, [(0, rowSigns)], [], [], .tuple #[.agg #[vI 4, vS [123], vU 0, vI 16], vI 1, vI 0]⟩,
  ⟨[strV (srcC2.drop 18), vI 18], 60, 62, [(0, rowSigns)], [], [], .tuple #[.agg #[vI 4, vS [125], vU 0, vI 18], vI 1, vI 0]⟩,
  ⟨[strV (srcC2.drop 20), vI 20], 69, 72, [], [], [], .tuple #[.agg #[vI 3, vS [102, 117, 110, 99], vU 0, vI 20], vI 4, vI 0]⟩,
  ⟨[strV (srcC2.drop 25), vI 25], 75, 78, [], [], [], .tuple #[.agg #[vI 1, vS [109, 97, 105, 110], vU 0, vI 25], vI 4, vI 0]⟩,
  ⟨[strV (srcC2.drop 29), vI 29], 81, 83, [(0, rowSigns)], [], [], .tuple #[.agg #[vI 4, vS [40], vU 0, vI 29], vI 1, vI 0]⟩,
  ⟨[strV (srcC2.drop 30), vI 30], 86, 88, [(0, rowSigns)], [], [], .tuple #[.agg #[vI 4, vS [41], vU 0, vI 30], vI 1, vI 0]⟩,
  ⟨[strV (srcC2.drop 32), vI 32], 91, 93, [(0, rowSigns)], [], [], .tuple #[.agg #[vI 4, vS [123], vU 0, vI 32], vI 1, vI 0]⟩]
def oneC2_1 : List Run := [⟨[strV (srcC2.drop 34), vI 34], 96, 99, [], [], [], .tuple #[.agg #[vI 3, vS [118, 97, 114], vU 0, vI 34], vI 3, vI 0]⟩,
  ⟨[strV (srcC2.drop 38), vI 38], 102, 105, [], [], [], .tuple #[.agg #[vI 1, vS [120], vU 0, vI 38], vI 1, vI 0]⟩,
  ⟨[strV (srcC2.drop 40), vI 40], 108, 110, [(0, rowSigns)], [], [], .tuple #[.agg #[vI 4, vS [91], vU 0, vI 40], vI 1, vI 0]⟩,
  ⟨[strV (srcC2.drop 41), vI 41], 113, 115, [(0, rowSigns)], [], [], .tuple #[.agg #[vI 4, vS [93], vU 0, vI 41], vI 1, vI 0]⟩,
  ⟨[strV (srcC2.drop 42), vI 42], 118, 121, [], [], [], .tuple #[.agg #[vI 1, vS [105, 110, 116, 54, 52], vU 0, vI 42], vI 5, vI 0]⟩,
  ⟨[strV (srcC2.drop 47), vI 47], 124, 126, [(0, rowSigns)], [], [], .tuple #[.agg #[vI 5, vS [59], vU 0, vI 47], vI 1, vI 0]⟩,
  ⟨[strV (srcC2.drop 49), vI 49], 129, 131, [(0, rowSigns)], [], [], .tuple #[.agg #[vI 4, vS [123], vU 0, vI 49], vI 1, vI 0]⟩,
  ⟨[strV (srcC2.drop 51), vI 51], 134, 137, [], [], [], .tuple #[.agg #[vI 1, vS [112, 97, 110, 105, 99], vU 0, vI 51], vI 5, vI 0]⟩,
  ⟨[strV (srcC2.drop 57), vI 57], 140, 142, [(0, rowSigns)], [], [], .tuple #[.agg #[vI 4, vS [58, 61], vU 0, vI 57], vI 2, vI 0]⟩,
  ⟨[strV (srcC2.drop 60), vI 60], 145, 149, [], [], [], .tuple #[.agg #[vI 2, vS [49], vU 1, vI 60], vI 1, vI 0]⟩,
  ⟨[strV (srcC2.drop 61), vI 61], 152, 154, [(0, rowSigns)], [], [], .tuple #[.agg #[vI 5, vS [59], vU 0, vI 61], vI 1, vI 0]⟩,
  ⟨[strV (srcC2.drop 63), vI 63], 157, 160, [], [], [], .tuple #[.agg #[vI 1, vS [112, 97, 110, 105, 99], vU 0, vI 63], vI 5, vI 0]⟩,
  ⟨[strV (srcC2.drop 69), vI 69], 163, 165, [(0, rowSigns)], [], [], .tuple #[.agg #[vI 4, vS [61], vU 0, vI 69], vI 1, vI 0]⟩]
def oneC2_2 : List Run := [⟨[strV (srcC2.drop 71), vI 71], 168, 171, [], [], [], .tuple #[.agg #[vI 1, vS [112, 97, 110, 105, 99], vU 0, vI 71], vI 5, vI 0]⟩,
  ⟨[strV (srcC2.drop 77), vI 77], 174, 176, [(0, rowSigns)], [], [], .tuple #[.agg #[vI 4, vS [43], vU 0, vI 77], vI 1, vI 0]⟩,
  ⟨[strV (srcC2.drop 79), vI 79], 179, 183, [], [], [], .tuple #[.agg #[vI 2, vS [49], vU 1, vI 79], vI 1, vI 0]⟩,
  ⟨[strV (srcC2.drop 81), vI 81], 186, 188, [(0, rowSigns)], [], [], .tuple #[.agg #[vI 4, vS [125], vU 0, vI 81], vI 1, vI 0]⟩,
  ⟨[strV (srcC2.drop 82), vI 82], 191, 193, [(0, rowSigns)], [], [], .tuple #[.agg #[vI 5, vS [59], vU 0, vI 82], vI 1, vI 0]⟩,
  ⟨[strV (srcC2.drop 84), vI 84], 196, 199, [], [], [], .tuple #[.agg #[vI 1, vS [112, 97, 110, 105, 99], vU 0, vI 84], vI 5, vI 0]⟩,
  ⟨[strV (srcC2.drop 89), vI 89], 202, 204, [(0, rowSigns)], [], [], .tuple #[.agg #[vI 4, vS [40], vU 0, vI 89], vI 1, vI 0]⟩,
  ⟨[strV (srcC2.drop 90), vI 90], 207, 211, [], [], [], .tuple #[.agg #[vI 2, vS [49], vU 1, vI 90], vI 1, vI 0]⟩,
  ⟨[strV (srcC2.drop 91), vI 91], 214, 216, [(0, rowSigns)], [], [], .tuple #[.agg #[vI 4, vS [41], vU 0, vI 91], vI 1, vI 0]⟩,
  ⟨[strV (srcC2.drop 93), vI 93], 219, 221, [(0, rowSigns)], [], [], .tuple #[.agg #[vI 4, vS [125], vU 0, vI 93], vI 1, vI 0]⟩]
def oneC2 : List Run := oneC2_0 ++ oneC2_1 ++ oneC2_2
def tokC2 : Run := ⟨[strV srcC2], 21, 228, [(0, rowSigns)], [(227, .row [vI 3, vS [102, 117, 110, 99], vU 0, vI 0, vI 1, vS [102], vU 0, vI 5, vI 4, vS [40], vU 0, vI 6, vI 1, vS [110], vU 0, vI 7, vI 1, vS [105, 110, 116, 54, 52], vU 0, vI 9, vI 4, vS [41], vU 0, vI 14, vI 4, vS [123], vU 0, vI 16, vI 4, vS [125], vU 0, vI 18, vI 5, vS [], vU 0, vI 19, vI 3, vS [102, 117, 110, 99], vU 0, vI 20, vI 1, vS [109, 97, 105, 110], vU 0, vI 25, vI 4, vS [40], vU 0, vI 29, vI 4, vS [41], vU 0, vI 30, vI 4, vS [123], vU 0, vI 32, vI 3, vS [118, 97, 114], vU 0, vI 34, vI 1, vS [120], vU 0, vI 38, vI 4, vS [91], vU 0, vI 40, vI 4, vS [93], vU 0, vI 41, vI 1, vS [105, 110, 116, 54, 52], vU 0, vI 42, vI 5, vS [59], vU 0, vI 47, vI 4, vS [123], vU 0, vI 49, vI 1, vS [112, 97, 110, 105, 99], vU 0, vI 51, vI 4, vS [58, 61], vU 0, vI 57, vI 2, vS [49], vU 1, vI 60, vI 5, vS [59], vU 0, vI 61, vI 1, vS [112, 97, 110, 105, 99], vU 0, vI 63, vI 4, vS [61], vU 0, vI 69, vI 1, vS [112, 97, 110, 105, 99], vU 0, vI 71, vI 4, vS [43], vU 0, vI 77, vI 2, vS [49], vU 1, vI 79, vI 4, vS [125], vU 0, vI 81, vI 5, vS [59], vU 0, vI 82, vI 1, vS [112, 97, 110, 105, 99], vU 0, vI 84, vI 4, vS [40], vU 0, vI 89, vI 2, vS [49], vU 1, vI 90, vI 4, vS [41], vU 0, vI 91, vI 4, vS [125], vU 0, vI 93, vI 5, vS [], vU 0, vI 94] 74 4)], [], .tuple #[vL 227 0 38 unk, vI 0, vI 0]⟩
def parC2 : Run := ⟨[strV srcC2], 17, 873, [(0, rowSigns), (4, rowOps)], [(265, oC2_265), (267, oC2_267), (292, oC2_292), (356, oC2_356), (357, oC2_357), (427, oC2_427), (564, oC2_564), (568, oC2_568), (570, oC2_570), (680, oC2_680), (695, oC2_695), (697, oC2_697), (704, oC2_704), (706, oC2_706)], [], .tuple #[nodeC2, vI 0, vI 0]⟩
def chkC2 : Run := ⟨[nodeC2], 874, 1173, [(4, rowOps), (265, oC2_265), (267, oC2_267), (292, oC2_292), (356, oC2_356), (357, oC2_357), (427, oC2_427), (564, oC2_564), (568, oC2_568), (570, oC2_570), (680, oC2_680), (695, oC2_695), (697, oC2_697), (704, oC2_704), (706, oC2_706)], [], [], vI 0⟩
def prgC2 : Run := ⟨[nodeC2], 873, 1431, [(4, rowOps), (265, oC2_265), (267, oC2_267), (292, oC2_292), (356, oC2_356), (357, oC2_357), (427, oC2_427), (564, oC2_564), (568, oC2_568), (570, oC2_570), (680, oC2_680), (695, oC2_695), (697, oC2_697), (704, oC2_704), (706, oC2_706)], [], [], .tuple #[vL 1430 0 2 unk, vI 0, vI 0]⟩
def souC2 : Run := ⟨[strV srcC2], 16, 1431, [(0, rowSigns), (4, rowOps)], [], [], .tuple #[.agg #[vI 1, vS [], vU 0, vI 0, vL 706 0 2 unk], vI 0, vI 0]⟩
theorem one_EC2_0 : ∀ ax axm, (oneC2_0.all fun r => okRun r (evCall Tryz.prog ((cfgH ax axm).tell []) 100000 39 r.args (rowsR r.rd) r.c0)) = true := fun _ _ => by kernel_rfl
theorem one_EC2_1 : ∀ ax axm, (oneC2_1.all fun r => okRun r (evCall Tryz.prog ((cfgH ax axm).tell []) 100000 39 r.args (rowsR r.rd) r.c0)) = true := fun _ _ => by kernel_rfl
theorem one_EC2_2 : ∀ ax axm, (oneC2_2.all fun r => okRun r (evCall Tryz.prog ((cfgH ax axm).tell []) 100000 39 r.args (rowsR r.rd) r.c0)) = true := fun _ _ => by kernel_rfl
theorem one_EC2 : ∀ ax axm, (oneC2.all fun r => okRun r (evCall Tryz.prog ((cfgH ax axm).tell []) 100000 39 r.args (rowsR r.rd) r.c0)) = true := fun ax axm => all_app (all_app (one_EC2_0 ax axm) (one_EC2_1 ax axm)) (one_EC2_2 ax axm)
theorem tok_EC2 : ∀ ax axm, okRun tokC2 (evCall Tryz.prog ((cfgH ax axm).tell [(39, oneC2)]) 100000 14 tokC2.args (rowsR tokC2.rd) tokC2.c0) = true := fun _ _ => by kernel_rfl
theorem par_EC2 : ∀ ax axm, okRun parC2 (evCall Tryz.prog ((cfgH ax axm).tell [(14, [tokC2])]) 100000 6 parC2.args (rowsR parC2.rd) parC2.c0) = true := fun _ _ => by kernel_rfl
theorem chk_EC2 : ∀ ax axm, okRun chkC2 (evCall Tryz.prog ((cfgH ax axm).tell []) 100000 10 chkC2.args (rowsR chkC2.rd) chkC2.c0) = true := fun _ _ => by kernel_rfl
theorem prg_EC2 : ∀ ax axm, okRun prgC2 (evCall Tryz.prog ((cfgH ax axm).tell [(10, [chkC2])]) 100000 7 prgC2.args (rowsR prgC2.rd) prgC2.c0) = true := fun _ _ => by kernel_rfl
theorem sou_EC2 : ∀ ax axm, okRun souC2 (evCall Tryz.prog ((cfgH ax axm).tell [(6, [parC2]), (7, [prgC2])]) 100000 4 souC2.args (rowsR souC2.rd) souC2.c0) = true := fun _ _ => by kernel_rfl
def srcD2 : List UInt8 := [102, 117, 110, 99, 32, 102, 40, 110, 32, 105, 110, 116, 54, 52, 41, 32, 123, 32, 125, 10, 102, 117, 110, 99, 32, 109, 97, 105, 110, 40, 41, 32, 123, 32, 118, 97, 114, 32, 120, 32, 91, 93, 105, 110, 116, 54, 52, 59, 32, 123, 32, 112, 97, 110, 105, 99, 32, 58, 61, 32, 49, 59, 32, 112, 97, 110, 105, 99, 40, 49, 41, 32, 125, 32, 125]
def oD2_1647 : AObj := .row [vI 10, vS [105, 110, 116, 54, 52], vU 0, vI 9, vN] 26 5
def oD2_1649 : AObj := .row [vI 5, vS [110], vU 0, vI 7, vL 1647 0 1 1] 26 5
def oD2_1674 : AObj := .row [vI 4, vS [], vU 0, vI 6, vN, vI 6, vS [], vU 0, vI 6, vL 1649 0 1 unk, vI 7, vS [], vU 0, vI 16, vN, vI 20, vS [], vU 0, vI 16, vN] 26 5
def oD2_1738 : AObj := .row [vI 10, vS [105, 110, 116, 54, 52], vU 0, vI 42, vN] 26 5
def oD2_1739 : AObj := .row [vI 11, vS [], vU 0, vI 40, vL 1738 0 1 1] 26 5
def oD2_1809 : AObj := .row [vI 31, vS [], vU 1, vI 60, vN] 26 5
def oD2_1914 : AObj := .row [vI 30, vS [112, 97, 110, 105, 99], vU 0, vI 63, vN, vI 31, vS [], vU 1, vI 69, vN] 26 5
def oD2_1929 : AObj := .row [vI 34, vS [], vU 0, vI 68, vL 1914 0 2 unk] 26 5
def oD2_1931 : AObj := .row [vI 21, vS [112, 97, 110, 105, 99], vU 0, vI 51, vL 1809 0 1 1, vI 24, vS [], vU 0, vI 63, vL 1929 0 1 1] 26 5
def oD2_1938 : AObj := .row [vI 22, vS [120], vU 0, vI 34, vL 1739 0 1 1, vI 20, vS [], vU 0, vI 49, vL 1931 0 2 unk] 26 5
def oD2_1945 : AObj := .row [vI 4, vS [], vU 0, vI 29, vN, vI 6, vS [], vU 0, vI 29, vN, vI 7, vS [], vU 0, vI 32, vN, vI 20, vS [], vU 0, vI 32, vL 1938 0 2 unk] 26 5
def oD2_1947 : AObj := .row [vI 3, vS [102], vU 0, vI 0, vL 1674 0 4 unk, vI 3, vS [109, 97, 105, 110], vU 0, vI 20, vL 1945 0 4 unk] 26 5
def nodeD2 : Value := .agg #[vI 1, vS [], vU 0, vI 0, vL 1947 0 2 unk]
def oneD2_0 : List Run := [⟨[strV (srcD2.drop 0), vI 0], 1437, 1440, [], [], [], .tuple #[.agg #[vI 3, vS [102, 117, 110, 99], vU 0, vI 0], vI 4, vI 0]⟩,
  ⟨[strV (srcD2.drop 5), vI 5], 1443, 1446, [], [], [], .tuple #[.agg #[vI 1, vS [102], vU 0, vI 5], vI 1, vI 0]⟩,
  ⟨[strV (srcD2.drop 6), vI 6], 1449, 1451, [(0, rowSigns)], [], [], .tuple #[.agg #[vI 4, vS [40], vU 0, vI 6], vI 1, vI 0]⟩,
  ⟨[strV (srcD2.drop 7), vI 7], 1454, 1457, [], [], [], .tuple #[.agg #[vI 1, vS [110], vU 0, vI 7], vI 1, vI 0]⟩,
  ⟨[strV (srcD2.drop 9), vI 9], 1460, 1463, [], [], [], .tuple #[.agg #[vI 1, vS [105, 110, 116, 54, 52], vU 0, vI 9], vI 5, vI 0]⟩,
  ⟨[strV (srcD2.drop 14), vI 14], 1466, 1468, [(0, rowSigns)], [], [], .tuple #[.agg #[vI 4, vS [41], vU 0, vI 14], vI 1, vI 0]⟩,
  ⟨[strV (srcD2.drop 16), vI 16], 1471, 1473, [(0, rowSigns)], [], [], .tuple #[.agg #[vI 4, vS [123], vU 0, vI 16], vI 1, vI 0]⟩,
  ⟨[strV (srcD2.drop 18), vI 18], 1476, 1478, [(0, rowSigns)], [], [], .tuple #[.agg #[vI 4, vS [125], vU 0, vI 18], vI 1, vI 0]⟩,
  ⟨[strV (srcD2.drop 20), vI 20], 1485, 1488, [], [], [], .tuple #[.agg #[vI 3, vS [102, 117, 110, 99], vU 0, vI 20], vI 4, vI 0]⟩,
  ⟨[strV (srcD2.drop 25), vI 25], 1491, 1494, [], [], [], .tuple #[.agg #[vI 1, vS [109, 97, 105, 110], vU 0, vI 25], vI 4, vI 0]⟩,
  ⟨[strV (srcD2.drop 29), vI 29], 1497, 1499, [(0, rowSigns)], [], [], .tuple #[.agg #[vI 4, vS [40], vU 0, vI 29], vI 1, vI 0]⟩,
  ⟨[strV (srcD2.drop 30), vI 30], 1502, 1504, [(0, rowSigns)], [], [], .tuple #[.agg #[vI 4, vS [41], vU 0, vI 30], vI 1, vI 0]⟩,
  ⟨[strV (srcD2.drop 32), vI 32], 1507, 1509, [(0, rowSigns)], [], [], .tuple #[.agg #[vI 4, vS [123], vU 0, vI 32], vI 1, vI 0]⟩]
def oneD2_1 : List Run := [⟨[strV (srcD2.drop 34), vI 34], 1512, 1515, [], [], [], .tuple #[.agg #[vI 3, vS [118, 97, 114], vU 0, vI 34], vI 3, vI 0]⟩,
  ⟨[strV (srcD2.drop 38), vI 38], 1518, 1521, [], [], [], .tuple #[.agg #[vI 1, vS [120], vU 0, vI 38], vI 1, vI 0]⟩,
  ⟨[strV (srcD2.drop 40), vI 40], 1524, 1526, [(0, rowSigns)], [], [], .tuple #[.agg #[vI 4, vS [91], vU 0, vI 40], vI 1, vI 0]⟩,
  ⟨[strV (srcD2.drop 41), vI 41], 1529, 1531, [(0, rowSigns)], [], [], .tuple #[.agg #[vI 4, vS [93], vU 0, vI 41], vI 1, vI 0]⟩,
  ⟨[strV (srcD2.drop 42), vI 42], 1534, 1537, [], [], [], .tuple #[.agg #[vI 1, vS [105, 110, 116, 54, 52], vU 0, vI 42], vI 5, vI 0]⟩,
  ⟨[strV (srcD2.drop 47), vI 47], 1540, 1542, [(0, rowSigns)], [], [], .tuple #[.agg #[vI 5, vS [59], vU 0, vI 47], vI 1, vI 0]⟩,
  ⟨[strV (srcD2.drop 49), vI 49], 1545, 1547, [(0, rowSigns)], [], [], .tuple #[.agg #[vI 4, vS [123], vU 0, vI 49], vI 1, vI 0]⟩,
  ⟨[strV (srcD2.drop 51), vI 51], 1550, 1553, [], [], [], .tuple #[.agg #[vI 1, vS [112, 97, 110, 105, 99], vU 0, vI 51], vI 5, vI 0]⟩,
  ⟨[strV (srcD2.drop 57), vI 57], 1556, 1558, [(0, rowSigns)], [], [], .tuple #[.agg #[vI 4, vS [58, 61], vU 0, vI 57], vI 2, vI 0]⟩,
  ⟨[strV (srcD2.drop 60), vI 60], 1561, 1565, [], [], [], .tuple #[.agg #[vI 2, vS [49], vU 1, vI 60], vI 1, vI 0]⟩,
  ⟨[strV (srcD2.drop 61), vI 61], 1568, 1570, [(0, rowSigns)], [], [], .tuple #[.agg #[vI 5, vS [59], vU 0, vI 61], vI 1, vI 0]⟩,
  ⟨[strV (srcD2.drop 63), vI 63], 1573, 1576, [], [], [], .tuple #[.agg #[vI 1, vS [112, 97, 110, 105, 99], vU 0, vI 63], vI 5, vI 0]⟩,
  ⟨[strV (srcD2.drop 68), vI 68], 1579, 1581, [(0, rowSigns)], [], [], .tuple #[.agg #[vI 4, vS [40], vU 0, vI 68], vI 1, vI 0]⟩]
def oneD2_2 : List Run := [⟨[strV (srcD2.drop 69), vI 69], 1584, 1588, [], [], [], .tuple #[.agg #[vI 2, vS [49], vU 1, vI 69], vI 1, vI 0]⟩,
  ⟨[strV (srcD2.drop 70), vI 70], 1591, 1593, [(0, rowSigns)], [], [], .tuple #[.agg #[vI 4, vS [41], vU 0, vI 70], vI 1, vI 0]⟩,
  ⟨[strV (srcD2.drop 72), vI 72], 1596, 1598, [(0, rowSigns)], [], [], .tuple #[.agg #[vI 4, vS [125], vU 0, vI 72], vI 1, vI 0]⟩,
  ⟨[strV (srcD2.drop 74), vI 74], 1601, 1603, [(0, rowSigns)], [], [], .tuple #[.agg #[vI 4, vS [125], vU 0, vI 74], vI 1, vI 0]⟩]
def oneD2 : List Run := oneD2_0 ++ oneD2_1 ++ oneD2_2
def tokD2 : Run := ⟨[strV srcD2], 1437, 1610, [(0, rowSigns)], [(1609, .row [vI 3, vS [102, 117, 110, 99], vU 0, vI 0, vI 1, vS [102], vU 0, vI 5, vI 4, vS [40], vU 0, vI 6, vI 1, vS [110], vU 0, vI 7, vI 1, vS [105, 110, 116, 54, 52], vU 0, vI 9, vI 4, vS [41], vU 0, vI 14, vI 4, vS [123], vU 0, vI 16, vI 4, vS [125], vU 0, vI 18, vI 5, vS [], vU 0, vI 19, vI 3, vS [102, 117, 110, 99], vU 0, vI 20, vI 1, vS [109, 97, 105, 110], vU 0, vI 25, vI 4, vS [40], vU 0, vI 29, vI 4, vS [41], vU 0, vI 30, vI 4, vS [123], vU 0, vI 32, vI 3, vS [118, 97, 114], vU 0, vI 34, vI 1, vS [120], vU 0, vI 38, vI 4, vS [91], vU 0, vI 40, vI 4, vS [93], vU 0, vI 41, vI 1, vS [105, 110, 116, 54, 52], vU 0, vI 42, vI 5, vS [59], vU 0, vI 47, vI 4, vS [123], vU 0, vI 49, vI 1, vS [112, 97, 110, 105, 99], vU 0, vI 51, vI 4, vS [58, 61], vU 0, vI 57, vI 2, vS [49], vU 1, vI 60, vI 5, vS [59], vU 0, vI 61, vI 1, vS [112, 97, 110, 105, 99], vU 0, vI 63, vI 4, vS [40], vU 0, vI 68, vI 2, vS [49], vU 1, vI 69, vI 4, vS [41], vU 0, vI 70, vI 4, vS [125], vU 0, vI 72, vI 4, vS [125], vU 0, vI 74, vI 5, vS [], vU 0, vI 75] 74 4)], [], .tuple #[vL 1609 0 32 unk, vI 0, vI 0]⟩
def parD2 : Run := ⟨[strV srcD2], 1433, 2084, [(0, rowSigns), (4, rowOps)], [(1647, oD2_1647), (1649, oD2_1649), (1674, oD2_1674), (1738, oD2_1738), (1739, oD2_1739), (1809, oD2_1809), (1914, oD2_1914), (1929, oD2_1929), (1931, oD2_1931), (1938, oD2_1938), (1945, oD2_1945), (1947, oD2_1947)], [], .tuple #[nodeD2, vI 0, vI 0]⟩
def chkD2 : Run := ⟨[nodeD2], 2085, 2332, [(1647, oD2_1647), (1649, oD2_1649), (1674, oD2_1674), (1738, oD2_1738), (1739, oD2_1739), (1809, oD2_1809), (1914, oD2_1914), (1929, oD2_1929), (1931, oD2_1931), (1938, oD2_1938), (1945, oD2_1945), (1947, oD2_1947)], [], [], vI 0⟩
def prgD2 : Run := ⟨[nodeD2], 2084, 2517, [(1647, oD2_1647), (1649, oD2_1649), (1674, oD2_1674), (1738, oD2_1738), (1739, oD2_1739), (1809, oD2_1809), (1914, oD2_1914), (1929, oD2_1929), (1931, oD2_1931), (1938, oD2_1938), (1945, oD2_1945), (1947, oD2_1947)], [], [], .tuple #[vN, vI 68, vI 9]⟩
def souD2 : Run := ⟨[strV srcD2], 1432, 2517, [(0, rowSigns), (4, rowOps)], [], [], .tuple #[.agg #[vI 0, vS [], vU 0, vI 0, vN], vI 68, vI 9]⟩
theorem one_ED2_0 : ∀ ax axm, (oneD2_0.all fun r => okRun r (evCall Tryz.prog ((cfgH ax axm).tell []) 100000 39 r.args (rowsR r.rd) r.c0)) = true := fun _ _ => by kernel_rfl
theorem one_ED2_1 : ∀ ax axm, (oneD2_1.all fun r => okRun r (evCall Tryz.prog ((cfgH ax axm).tell []) 100000 39 r.args (rowsR r.rd) r.c0)) = true := fun _ _ => by kernel_rfl
theorem one_ED2_2 : ∀ ax axm, (oneD2_2.all fun r => okRun r (evCall Tryz.prog ((cfgH ax axm).tell []) 100000 39 r.args (rowsR r.rd) r.c0)) = true := fun _ _ => by kernel_rfl
theorem one_ED2 : ∀ ax axm, (oneD2.all fun r => okRun r (evCall Tryz.prog ((cfgH ax axm).tell []) 100000 39 r.args (rowsR r.rd) r.c0)) = true := fun ax axm => all_app (all_app (one_ED2_0 ax axm) (one_ED2_1 ax axm)) (one_ED2_2 ax axm)
theorem tok_ED2 : ∀ ax axm, okRun tokD2 (evCall Tryz.prog ((cfgH ax axm).tell [(39, oneD2)]) 100000 14 tokD2.args (rowsR tokD2.rd) tokD2.c0) = true := fun _ _ => by kernel_rfl
theorem par_ED2 : ∀ ax axm, okRun parD2 (evCall Tryz.prog ((cfgH ax axm).tell [(14, [tokD2])]) 100000 6 parD2.args (rowsR parD2.rd) parD2.c0) = true := fun _ _ => by kernel_rfl
theorem chk_ED2 : ∀ ax axm, okRun chkD2 (evCall Tryz.prog ((cfgH ax axm).tell []) 100000 10 chkD2.args (rowsR chkD2.rd) chkD2.c0) = true := fun _ _ => by kernel_rfl
theorem prg_ED2 : ∀ ax axm, okRun prgD2 (evCall Tryz.prog ((cfgH ax axm).tell [(10, [chkD2])]) 100000 7 prgD2.args (rowsR prgD2.rd) prgD2.c0) = true := fun _ _ => by kernel_rfl
theorem sou_ED2 : ∀ ax axm, okRun souD2 (evCall Tryz.prog ((cfgH ax axm).tell [(6, [parD2]), (7, [prgD2])]) 100000 4 souD2.args (rowsR souD2.rd) souD2.c0) = true := fun _ _ => by kernel_rfl
end Go.Proofs.YtakfgbedmglffaaGreatDoor
