/- The law CheckHides: the two sources of case 1: what scanning, parsing and checking come to, piece by piece, by the evaluator. -/
import Derived.Test.YtakfgbedmglffaaGreatDoorOh
namespace Go.Proofs.YtakfgbedmglffaaGreatDoor
open Go.RowKit
open Ev
set_option linter.unusedSimpArgs false
set_option linter.unusedVariables false

def srcC1 : List UInt8 := [102, 117, 110, 99, 32, 102, 40, 110, 32, 105, 110, 116, 54, 52, 41, 32, 123, 32, 125, 10, 102, 117, 110, 99, 32, 109, 97, 105, 110, 40, 41, 32, 123, 32, 118, 97, 114, 32, 120, 32, 91, 93, 105, 110, 116, 54, 52, 59, 32, 123, 32, 112, 114, 105, 110, 116, 32, 58, 61, 32, 49, 59, 32, 112, 114, 105, 110, 116, 32, 61, 32, 112, 114, 105, 110, 116, 32, 43, 32, 49, 32, 125, 59, 32, 112, 114, 105, 110, 116, 40, 49, 41, 32, 125]
def oC1_265 : AObj := .row [vI 10, vS [105, 110, 116, 54, 52], vU 0, vI 9, vN] 26 5
def oC1_267 : AObj := .row [vI 5, vS [110], vU 0, vI 7, vL 265 0 1 1] 26 5
def oC1_292 : AObj := .row [vI 4, vS [], vU 0, vI 6, vN, vI 6, vS [], vU 0, vI 6, vL 267 0 1 unk, vI 7, vS [], vU 0, vI 16, vN, vI 20, vS [], vU 0, vI 16, vN] 26 5
def oC1_356 : AObj := .row [vI 10, vS [105, 110, 116, 54, 52], vU 0, vI 42, vN] 26 5
def oC1_357 : AObj := .row [vI 11, vS [], vU 0, vI 40, vL 356 0 1 1] 26 5
def oC1_427 : AObj := .row [vI 31, vS [], vU 1, vI 60, vN] 26 5
def oC1_564 : AObj := .row [vI 30, vS [112, 114, 105, 110, 116], vU 0, vI 71, vN, vI 31, vS [], vU 1, vI 79, vN] 26 5
def oC1_568 : AObj := .row [vI 30, vS [112, 114, 105, 110, 116], vU 0, vI 63, vN, vI 33, vS [43], vU 0, vI 77, vL 564 0 2 2] 26 5
def oC1_570 : AObj := .row [vI 21, vS [112, 114, 105, 110, 116], vU 0, vI 51, vL 427 0 1 1, vI 23, vS [], vU 0, vI 63, vL 568 0 2 2] 26 5
def oC1_680 : AObj := .row [vI 30, vS [112, 114, 105, 110, 116], vU 0, vI 84, vN, vI 31, vS [], vU 1, vI 90, vN] 26 5
def oC1_695 : AObj := .row [vI 34, vS [], vU 0, vI 89, vL 680 0 2 unk] 26 5
def oC1_697 : AObj := .row [vI 22, vS [120], vU 0, vI 34, vL 357 0 1 1, vI 20, vS [], vU 0, vI 49, vL 570 0 2 unk, vI 24, vS [], vU 0, vI 84, vL 695 0 1 1] 26 5
def oC1_704 : AObj := .row [vI 4, vS [], vU 0, vI 29, vN, vI 6, vS [], vU 0, vI 29, vN, vI 7, vS [], vU 0, vI 32, vN, vI 20, vS [], vU 0, vI 32, vL 697 0 3 unk] 26 5
def oC1_706 : AObj := .row [vI 3, vS [102], vU 0, vI 0, vL 292 0 4 unk, vI 3, vS [109, 97, 105, 110], vU 0, vI 20, vL 704 0 4 unk] 26 5
def nodeC1 : Value := .agg #[vI 1, vS [], vU 0, vI 0, vL 706 0 2 unk]
def oneC1_0 : List Run := [⟨[strV (srcC1.drop 0), vI 0], 21, 24, [], [], [], .tuple #[.agg #[vI 3, vS [102, 117, 110, 99], vU 0, vI 0], vI 4, vI 0]⟩,
  ⟨[strV (srcC1.drop 5), vI 5], 27, 30, [], [], [], .tuple #[.agg #[vI 1, vS [102], vU 0, vI 5], vI 1, vI 0]⟩,
  ⟨[strV (srcC1.drop 6), vI 6], 33, 35, [(0, rowSigns)], [], [], .tuple #[.agg #[vI 4, vS [40], vU 0, vI 6], vI 1, vI 0]⟩,
  ⟨[strV (srcC1.drop 7), vI 7], 38, 41, [], [], [], .tuple #[.agg #[vI 1, vS [110], vU 0, vI 7], vI 1, vI 0]⟩,
  ⟨[strV (srcC1.drop 9), vI 9], 44, 47, [], [], [], .tuple #[.agg #[vI 1, vS [105, 110, 116, 54, 52], vU 0, vI 9], vI 5, vI 0]⟩,
  ⟨[strV (srcC1.drop 14), vI 14], 50, 52, [(0, rowSigns)], [], [], .tuple #[.agg #[vI 4, vS [41], vU 0, vI 14], vI 1, vI 0]⟩,
  ⟨[strV (srcC1.drop 16), vI 16], 55, 57, [(0, rowSigns)], [], [], .tuple #[.agg #[vI 4, vS [123], vU 0, vI 16], vI 1, vI 0]⟩,
  ⟨[strV (srcC1.drop 18), vI 18], 60, 62, [(0, rowSigns)], [], [], .tuple #[.agg #[vI 4, vS [125], vU 0, vI 18], vI 1, vI 0]⟩,
  ⟨[strV (srcC1.drop 20), vI 20], 69, 72, [], [], [], .tuple #[.agg #[vI 3, vS [102, 117, 110, 99], vU 0, vI 20], vI 4, vI 0]⟩,
  ⟨[strV (srcC1.drop 25), vI 25], 75, 78, [], [], [], .tuple #[.agg #[vI 1, vS [109, 97, 105, 110], vU 0, vI 25], vI 4, vI 0]⟩,
  ⟨[strV (srcC1.drop 29), vI 29], 81, 83, [(0, rowSigns)], [], [], .tuple #[.agg #[vI 4, vS [40], vU 0, vI 29], vI 1, vI 0]⟩,
  ⟨[strV (srcC1.drop 30), vI 30], 86, 88, [(0, rowSigns)], [], [], .tuple #[.agg #[vI 4, vS [41], vU 0, vI 30], vI 1, vI 0]⟩,
  ⟨[strV (srcC1.drop 32), vI 32], 91, 93, [(0, rowSigns)], [], [], .tuple #[.agg #[vI 4, vS [123], vU 0, vI 32], vI 1, vI 0]⟩]
def oneC1_1 : List Run := [⟨[strV (srcC1.drop 34), vI 34], 96, 99, [], [], [], .tuple #[.agg #[vI 3, vS [118, 97, 114], vU 0, vI 34], vI 3, vI 0]⟩,
  ⟨[strV (srcC1.drop 38), vI 38], 102, 105, [], [], [], .tuple #[.agg #[vI 1, vS [120], vU 0, vI 38], vI 1, vI 0]⟩,
  ⟨[strV (srcC1.drop 40), vI 40], 108, 110, [(0, rowSigns)], [], [], .tuple #[.agg #[vI 4, vS [91], vU 0, vI 40], vI 1, vI 0]⟩,
  ⟨[strV (srcC1.drop 41), vI 41], 113, 115, [(0, rowSigns)], [], [], .tuple #[.agg #[vI 4, vS [93], vU 0, vI 41], vI 1, vI 0]⟩,
  ⟨[strV (srcC1.drop 42), vI 42], 118, 121, [], [], [], .tuple #[.agg #[vI 1, vS [105, 110, 116, 54, 52], vU 0, vI 42], vI 5, vI 0]⟩,
  ⟨[strV (srcC1.drop 47), vI 47], 124, 126, [(0, rowSigns)], [], [], .tuple #[.agg #[vI 5, vS [59], vU 0, vI 47], vI 1, vI 0]⟩,
  ⟨[strV (srcC1.drop 49), vI 49], 129, 131, [(0, rowSigns)], [], [], .tuple #[.agg #[vI 4, vS [123], vU 0, vI 49], vI 1, vI 0]⟩,
  ⟨[strV (srcC1.drop 51), vI 51], 134, 137, [], [], [], .tuple #[.agg #[vI 1, vS [112, 114, 105, 110, 116], vU 0, vI 51], vI 5, vI 0]⟩,
  ⟨[strV (srcC1.drop 57), vI 57], 140, 142, [(0, rowSigns)], [], [], .tuple #[.agg #[vI 4, vS [58, 61], vU 0, vI 57], vI 2, vI 0]⟩,
  ⟨[strV (srcC1.drop 60), vI 60], 145, 149, [], [], [], .tuple #[.agg #[vI 2, vS [49], vU 1, vI 60], vI 1, vI 0]⟩,
  ⟨[strV (srcC1.drop 61), vI 61], 152, 154, [(0, rowSigns)], [], [], .tuple #[.agg #[vI 5, vS [59], vU 0, vI 61], vI 1, vI 0]⟩,
  ⟨[strV (srcC1.drop 63), vI 63], 157, 160, [], [], [], .tuple #[.agg #[vI 1, vS [112, 114, 105, 110, 116], vU 0, vI 63], vI 5, vI 0]⟩,
  ⟨[strV (srcC1.drop 69), vI 69], 163, 165, [(0, rowSigns)], [], [], .tuple #[.agg #[vI 4, vS [61], vU 0, vI 69], vI 1, vI 0]⟩]
def oneC1_2 : List Run := [⟨[strV (srcC1.drop 71), vI 71], 168, 171, [], [], [], .tuple #[.agg #[vI 1, vS [112, 114, 105, 110, 116], vU 0, vI 71], vI 5, vI 0]⟩,
  ⟨[strV (srcC1.drop 77), vI 77], 174, 176, [(0, rowSigns)], [], [], .tuple #[.agg #[vI 4, vS [43], vU 0, vI 77], vI 1, vI 0]⟩,
  ⟨[strV (srcC1.drop 79), vI 79], 179, 183, [], [], [], .tuple #[.agg #[vI 2, vS [49], vU 1, vI 79], vI 1, vI 0]⟩,
  ⟨[strV (srcC1.drop 81), vI 81], 186, 188, [(0, rowSigns)], [], [], .tuple #[.agg #[vI 4, vS [125], vU 0, vI 81], vI 1, vI 0]⟩,
  ⟨[strV (srcC1.drop 82), vI 82], 191, 193, [(0, rowSigns)], [], [], .tuple #[.agg #[vI 5, vS [59], vU 0, vI 82], vI 1, vI 0]⟩,
  ⟨[strV (srcC1.drop 84), vI 84], 196, 199, [], [], [], .tuple #[.agg #[vI 1, vS [112, 114, 105, 110, 116], vU 0, vI 84], vI 5, vI 0]⟩,
  ⟨[strV (srcC1.drop 89), vI 89], 202, 204, [(0, rowSigns)], [], [], .tuple #[.agg #[vI 4, vS [40], vU 0, vI 89], vI 1, vI 0]⟩,
  ⟨[strV (srcC1.drop 90), vI 90], 207, 211, [], [], [], .tuple #[.agg #[vI 2, vS [49], vU 1, vI 90], vI 1, vI 0]⟩,
  ⟨[strV (srcC1.drop 91), vI 91], 214, 216, [(0, rowSigns)], [], [], .tuple #[.agg #[vI 4, vS [41], vU 0, vI 91], vI 1, vI 0]⟩,
  ⟨[strV (srcC1.drop 93), vI 93], 219, 221, [(0, rowSigns)], [], [], .tuple #[.agg #[vI 4, vS [125], vU 0, vI 93], vI 1, vI 0]⟩]
def oneC1 : List Run := oneC1_0 ++ oneC1_1 ++ oneC1_2
def tokC1 : Run := ⟨[strV srcC1], 21, 228, [(0, rowSigns)], [(227, .row [vI 3, vS [102, 117, 110, 99], vU 0, vI 0, vI 1, vS [102], vU 0, vI 5, vI 4, vS [40], vU 0, vI 6, vI 1, vS [110], vU 0, vI 7, vI 1, vS [105, 110, 116, 54, 52], vU 0, vI 9, vI 4, vS [41], vU 0, vI 14, vI 4, vS [123], vU 0, vI 16, vI 4, vS [125], vU 0, vI 18, vI 5, vS [], vU 0, vI 19, vI 3, vS [102, 117, 110, 99], vU 0, vI 20, vI 1, vS [109, 97, 105, 110], vU 0, vI 25, vI 4, vS [40], vU 0, vI 29, vI 4, vS [41], vU 0, vI 30, vI 4, vS [123], vU 0, vI 32, vI 3, vS [118, 97, 114], vU 0, vI 34, vI 1, vS [120], vU 0, vI 38, vI 4, vS [91], vU 0, vI 40, vI 4, vS [93], vU 0, vI 41, vI 1, vS [105, 110, 116, 54, 52], vU 0, vI 42, vI 5, vS [59], vU 0, vI 47, vI 4, vS [123], vU 0, vI 49, vI 1, vS [112, 114, 105, 110, 116], vU 0, vI 51, vI 4, vS [58, 61], vU 0, vI 57, vI 2, vS [49], vU 1, vI 60, vI 5, vS [59], vU 0, vI 61, vI 1, vS [112, 114, 105, 110, 116], vU 0, vI 63, vI 4, vS [61], vU 0, vI 69, vI 1, vS [112, 114, 105, 110, 116], vU 0, vI 71, vI 4, vS [43], vU 0, vI 77, vI 2, vS [49], vU 1, vI 79, vI 4, vS [125], vU 0, vI 81, vI 5, vS [59], vU 0, vI 82, vI 1, vS [112, 114, 105, 110, 116], vU 0, vI 84, vI 4, vS [40], vU 0, vI 89, vI 2, vS [49], vU 1, vI 90, vI 4, vS [41], vU 0, vI 91, vI 4, vS [125], vU 0, vI 93, vI 5, vS [], vU 0, vI 94] 74 4)], [], .tuple #[vL 227 0 38 unk, vI 0, vI 0]⟩
def parC1 : Run := ⟨[strV srcC1], 17, 873, [(0, rowSigns), (4, rowOps)], [(265, oC1_265), (267, oC1_267), (292, oC1_292), (356, oC1_356), (357, oC1_357), (427, oC1_427), (564, oC1_564), (568, oC1_568), (570, oC1_570), (680, oC1_680), (695, oC1_695), (697, oC1_697), (704, oC1_704), (706, oC1_706)], [], .tuple #[nodeC1, vI 0, vI 0]⟩
def chkC1 : Run := ⟨[nodeC1], 874, 1173, [(4, rowOps), (265, oC1_265), (267, oC1_267), (292, oC1_292), (356, oC1_356), (357, oC1_357), (427, oC1_427), (564, oC1_564), (568, oC1_568), (570, oC1_570), (680, oC1_680), (695, oC1_695), (697, oC1_697), (704, oC1_704), (706, oC1_706)], [], [], vI 0⟩
def prgC1 : Run := ⟨[nodeC1], 873, 1430, [(4, rowOps), (265, oC1_265), (267, oC1_267), (292, oC1_292), (356, oC1_356), (357, oC1_357), (427, oC1_427), (564, oC1_564), (568, oC1_568), (570, oC1_570), (680, oC1_680), (695, oC1_695), (697, oC1_697), (704, oC1_704), (706, oC1_706)], [], [], .tuple #[vL 1429 0 2 unk, vI 0, vI 0]⟩
def souC1 : Run := ⟨[strV srcC1], 16, 1430, [(0, rowSigns), (4, rowOps)], [], [], .tuple #[.agg #[vI 1, vS [], vU 0, vI 0, vL 706 0 2 unk], vI 0, vI 0]⟩
theorem one_EC1_0 : ∀ ax axm, (oneC1_0.all fun r => okRun r (evCall Tryz.prog ((cfgH ax axm).tell []) 100000 39 r.args (rowsR r.rd) r.c0)) = true := fun _ _ => by kernel_rfl
theorem one_EC1_1 : ∀ ax axm, (oneC1_1.all fun r => okRun r (evCall Tryz.prog ((cfgH ax axm).tell []) 100000 39 r.args (rowsR r.rd) r.c0)) = true := fun _ _ => by kernel_rfl
theorem one_EC1_2 : ∀ ax axm, (oneC1_2.all fun r => okRun r (evCall Tryz.prog ((cfgH ax axm).tell []) 100000 39 r.args (rowsR r.rd) r.c0)) = true := fun _ _ => by kernel_rfl
theorem one_EC1 : ∀ ax axm, (oneC1.all fun r => okRun r (evCall Tryz.prog ((cfgH ax axm).tell []) 100000 39 r.args (rowsR r.rd) r.c0)) = true := fun ax axm => all_app (all_app (one_EC1_0 ax axm) (one_EC1_1 ax axm)) (one_EC1_2 ax axm)
theorem tok_EC1 : ∀ ax axm, okRun tokC1 (evCall Tryz.prog ((cfgH ax axm).tell [(39, oneC1)]) 100000 14 tokC1.args (rowsR tokC1.rd) tokC1.c0) = true := fun _ _ => by kernel_rfl
theorem par_EC1 : ∀ ax axm, okRun parC1 (evCall Tryz.prog ((cfgH ax axm).tell [(14, [tokC1])]) 100000 6 parC1.args (rowsR parC1.rd) parC1.c0) = true := fun _ _ => by kernel_rfl
theorem chk_EC1 : ∀ ax axm, okRun chkC1 (evCall Tryz.prog ((cfgH ax axm).tell []) 100000 10 chkC1.args (rowsR chkC1.rd) chkC1.c0) = true := fun _ _ => by kernel_rfl
theorem prg_EC1 : ∀ ax axm, okRun prgC1 (evCall Tryz.prog ((cfgH ax axm).tell [(10, [chkC1])]) 100000 7 prgC1.args (rowsR prgC1.rd) prgC1.c0) = true := fun _ _ => by kernel_rfl
theorem sou_EC1 : ∀ ax axm, okRun souC1 (evCall Tryz.prog ((cfgH ax axm).tell [(6, [parC1]), (7, [prgC1])]) 100000 4 souC1.args (rowsR souC1.rd) souC1.c0) = true := fun _ _ => by kernel_rfl
def srcD1 : List UInt8 := [102, 117, 110, 99, 32, 102, 40, 110, 32, 105, 110, 116, 54, 52, 41, 32, 123, 32, 125, 10, 102, 117, 110, 99, 32, 109, 97, 105, 110, 40, 41, 32, 123, 32, 118, 97, 114, 32, 120, 32, 91, 93, 105, 110, 116, 54, 52, 59, 32, 123, 32, 112, 114, 105, 110, 116, 32, 58, 61, 32, 49, 59, 32, 112, 114, 105, 110, 116, 40, 49, 41, 32, 125, 32, 125]
def oD1_1646 : AObj := .row [vI 10, vS [105, 110, 116, 54, 52], vU 0, vI 9, vN] 26 5
def oD1_1648 : AObj := .row [vI 5, vS [110], vU 0, vI 7, vL 1646 0 1 1] 26 5
def oD1_1673 : AObj := .row [vI 4, vS [], vU 0, vI 6, vN, vI 6, vS [], vU 0, vI 6, vL 1648 0 1 unk, vI 7, vS [], vU 0, vI 16, vN, vI 20, vS [], vU 0, vI 16, vN] 26 5
def oD1_1737 : AObj := .row [vI 10, vS [105, 110, 116, 54, 52], vU 0, vI 42, vN] 26 5
def oD1_1738 : AObj := .row [vI 11, vS [], vU 0, vI 40, vL 1737 0 1 1] 26 5
def oD1_1808 : AObj := .row [vI 31, vS [], vU 1, vI 60, vN] 26 5
def oD1_1913 : AObj := .row [vI 30, vS [112, 114, 105, 110, 116], vU 0, vI 63, vN, vI 31, vS [], vU 1, vI 69, vN] 26 5
def oD1_1928 : AObj := .row [vI 34, vS [], vU 0, vI 68, vL 1913 0 2 unk] 26 5
def oD1_1930 : AObj := .row [vI 21, vS [112, 114, 105, 110, 116], vU 0, vI 51, vL 1808 0 1 1, vI 24, vS [], vU 0, vI 63, vL 1928 0 1 1] 26 5
def oD1_1937 : AObj := .row [vI 22, vS [120], vU 0, vI 34, vL 1738 0 1 1, vI 20, vS [], vU 0, vI 49, vL 1930 0 2 unk] 26 5
def oD1_1944 : AObj := .row [vI 4, vS [], vU 0, vI 29, vN, vI 6, vS [], vU 0, vI 29, vN, vI 7, vS [], vU 0, vI 32, vN, vI 20, vS [], vU 0, vI 32, vL 1937 0 2 unk] 26 5
def oD1_1946 : AObj := .row [vI 3, vS [102], vU 0, vI 0, vL 1673 0 4 unk, vI 3, vS [109, 97, 105, 110], vU 0, vI 20, vL 1944 0 4 unk] 26 5
def nodeD1 : Value := .agg #[vI 1, vS [], vU 0, vI 0, vL 1946 0 2 unk]
def oneD1_0 : List Run := [⟨[strV (srcD1.drop 0), vI 0], 1436, 1439, [], [], [], .tuple #[.agg #[vI 3, vS [102, 117, 110, 99], vU 0, vI 0], vI 4, vI 0]⟩,
  ⟨[strV (srcD1.drop 5), vI 5], 1442, 1445, [], [], [], .tuple #[.agg #[vI 1, vS [102], vU 0, vI 5], vI 1, vI 0]⟩,
  ⟨[strV (srcD1.drop 6), vI 6], 1448, 1450, [(0, rowSigns)], [], [], .tuple #[.agg #[vI 4, vS [40], vU 0, vI 6], vI 1, vI 0]⟩,
  ⟨[strV (srcD1.drop 7), vI 7], 1453, 1456, [], [], [], .tuple #[.agg #[vI 1, vS [110], vU 0, vI 7], vI 1, vI 0]⟩,
  ⟨[strV (srcD1.drop 9), vI 9], 1459, 1462, [], [], [], .tuple #[.agg #[vI 1, vS [105, 110, 116, 54, 52], vU 0, vI 9], vI 5, vI 0]⟩,
  ⟨[strV (srcD1.drop 14), vI 14], 1465, 1467, [(0, rowSigns)], [], [], .tuple #[.agg #[vI 4, vS [41], vU 0, vI 14], vI 1, vI 0]⟩,
  ⟨[strV (srcD1.drop 16), vI 16], 1470, 1472, [(0, rowSigns)], [], [], .tuple #[.agg #[vI 4, vS [123], vU 0, vI 16], vI 1, vI 0]⟩,
  ⟨[strV (srcD1.drop 18), vI 18], 1475, 1477, [(0, rowSigns)], [], [], .tuple #[.agg #[vI 4, vS [125], vU 0, vI 18], vI 1, vI 0]⟩,
  ⟨[strV (srcD1.drop 20), vI 20], 1484, 1487, [], [], [], .tuple #[.agg #[vI 3, vS [102, 117, 110, 99], vU 0, vI 20], vI 4, vI 0]⟩,
  ⟨[strV (srcD1.drop 25), vI 25], 1490, 1493, [], [], [], .tuple #[.agg #[vI 1, vS [109, 97, 105, 110], vU 0, vI 25], vI 4, vI 0]⟩,
  ⟨[strV (srcD1.drop 29), vI 29], 1496, 1498, [(0, rowSigns)], [], [], .tuple #[.agg #[vI 4, vS [40], vU 0, vI 29], vI 1, vI 0]⟩,
  ⟨[strV (srcD1.drop 30), vI 30], 1501, 1503, [(0, rowSigns)], [], [], .tuple #[.agg #[vI 4, vS [41], vU 0, vI 30], vI 1, vI 0]⟩,
  ⟨[strV (srcD1.drop 32), vI 32], 1506, 1508, [(0, rowSigns)], [], [], .tuple #[.agg #[vI 4, vS [123], vU 0, vI 32], vI 1, vI 0]⟩]
def oneD1_1 : List Run := [⟨[strV (srcD1.drop 34), vI 34], 1511, 1514, [], [], [], .tuple #[.agg #[vI 3, vS [118, 97, 114], vU 0, vI 34], vI 3, vI 0]⟩,
  ⟨[strV (srcD1.drop 38), vI 38], 1517, 1520, [], [], [], .tuple #[.agg #[vI 1, vS [120], vU 0, vI 38], vI 1, vI 0]⟩,
  ⟨[strV (srcD1.drop 40), vI 40], 1523, 1525, [(0, rowSigns)], [], [], .tuple #[.agg #[vI 4, vS [91], vU 0, vI 40], vI 1, vI 0]⟩,
  ⟨[strV (srcD1.drop 41), vI 41], 1528, 1530, [(0, rowSigns)], [], [], .tuple #[.agg #[vI 4, vS [93], vU 0, vI 41], vI 1, vI 0]⟩,
  ⟨[strV (srcD1.drop 42), vI 42], 1533, 1536, [], [], [], .tuple #[.agg #[vI 1, vS [105, 110, 116, 54, 52], vU 0, vI 42], vI 5, vI 0]⟩,
  ⟨[strV (srcD1.drop 47), vI 47], 1539, 1541, [(0, rowSigns)], [], [], .tuple #[.agg #[vI 5, vS [59], vU 0, vI 47], vI 1, vI 0]⟩,
  ⟨[strV (srcD1.drop 49), vI 49], 1544, 1546, [(0, rowSigns)], [], [], .tuple #[.agg #[vI 4, vS [123], vU 0, vI 49], vI 1, vI 0]⟩,
  ⟨[strV (srcD1.drop 51), vI 51], 1549, 1552, [], [], [], .tuple #[.agg #[vI 1, vS [112, 114, 105, 110, 116], vU 0, vI 51], vI 5, vI 0]⟩,
  ⟨[strV (srcD1.drop 57), vI 57], 1555, 1557, [(0, rowSigns)], [], [], .tuple #[.agg #[vI 4, vS [58, 61], vU 0, vI 57], vI 2, vI 0]⟩,
  ⟨[strV (srcD1.drop 60), vI 60], 1560, 1564, [], [], [], .tuple #[.agg #[vI 2, vS [49], vU 1, vI 60], vI 1, vI 0]⟩,
  ⟨[strV (srcD1.drop 61), vI 61], 1567, 1569, [(0, rowSigns)], [], [], .tuple #[.agg #[vI 5, vS [59], vU 0, vI 61], vI 1, vI 0]⟩,
  ⟨[strV (srcD1.drop 63), vI 63], 1572, 1575, [], [], [], .tuple #[.agg #[vI 1, vS [112, 114, 105, 110, 116], vU 0, vI 63], vI 5, vI 0]⟩,
  ⟨[strV (srcD1.drop 68), vI 68], 1578, 1580, [(0, rowSigns)], [], [], .tuple #[.agg #[vI 4, vS [40], vU 0, vI 68], vI 1, vI 0]⟩]
def oneD1_2 : List Run := [⟨[strV (srcD1.drop 69), vI 69], 1583, 1587, [], [], [], .tuple #[.agg #[vI 2, vS [49], vU 1, vI 69], vI 1, vI 0]⟩,
  ⟨[strV (srcD1.drop 70), vI 70], 1590, 1592, [(0, rowSigns)], [], [], .tuple #[.agg #[vI 4, vS [41], vU 0, vI 70], vI 1, vI 0]⟩,
  ⟨[strV (srcD1.drop 72), vI 72], 1595, 1597, [(0, rowSigns)], [], [], .tuple #[.agg #[vI 4, vS [125], vU 0, vI 72], vI 1, vI 0]⟩,
  ⟨[strV (srcD1.drop 74), vI 74], 1600, 1602, [(0, rowSigns)], [], [], .tuple #[.agg #[vI 4, vS [125], vU 0, vI 74], vI 1, vI 0]⟩]
def oneD1 : List Run := oneD1_0 ++ oneD1_1 ++ oneD1_2
def tokD1 : Run := ⟨[strV srcD1], 1436, 1609, [(0, rowSigns)], [(1608, .row [vI 3, vS [102, 117, 110, 99], vU 0, vI 0, vI 1, vS [102], vU 0, vI 5, vI 4, vS [40], vU 0, vI 6, vI 1, vS [110], vU 0, vI 7, vI 1, vS [105, 110, 116, 54, 52], vU 0, vI 9, vI 4, vS [41], vU 0, vI 14, vI 4, vS [123], vU 0, vI 16, vI 4, vS [125], vU 0, vI 18, vI 5, vS [], vU 0, vI 19, vI 3, vS [102, 117, 110, 99], vU 0, vI 20, vI 1, vS [109, 97, 105, 110], vU 0, vI 25, vI 4, vS [40], vU 0, vI 29, vI 4, vS [41], vU 0, vI 30, vI 4, vS [123], vU 0, vI 32, vI 3, vS [118, 97, 114], vU 0, vI 34, vI 1, vS [120], vU 0, vI 38, vI 4, vS [91], vU 0, vI 40, vI 4, vS [93], vU 0, vI 41, vI 1, vS [105, 110, 116, 54, 52], vU 0, vI 42, vI 5, vS [59], vU 0, vI 47, vI 4, vS [123], vU 0, vI 49, vI 1, vS [112, 114, 105, 110, 116], vU 0, vI 51, vI 4, vS [58, 61], vU 0, vI 57, vI 2, vS [49], vU 1, vI 60, vI 5, vS [59], vU 0, vI 61, vI 1, vS [112, 114, 105, 110, 116], vU 0, vI 63, vI 4, vS [40], vU 0, vI 68, vI 2, vS [49], vU 1, vI 69, vI 4, vS [41], vU 0, vI 70, vI 4, vS [125], vU 0, vI 72, vI 4, vS [125], vU 0, vI 74, vI 5, vS [], vU 0, vI 75] 74 4)], [], .tuple #[vL 1608 0 32 unk, vI 0, vI 0]⟩
def parD1 : Run := ⟨[strV srcD1], 1432, 2083, [(0, rowSigns), (4, rowOps)], [(1646, oD1_1646), (1648, oD1_1648), (1673, oD1_1673), (1737, oD1_1737), (1738, oD1_1738), (1808, oD1_1808), (1913, oD1_1913), (1928, oD1_1928), (1930, oD1_1930), (1937, oD1_1937), (1944, oD1_1944), (1946, oD1_1946)], [], .tuple #[nodeD1, vI 0, vI 0]⟩
def chkD1 : Run := ⟨[nodeD1], 2084, 2331, [(1646, oD1_1646), (1648, oD1_1648), (1673, oD1_1673), (1737, oD1_1737), (1738, oD1_1738), (1808, oD1_1808), (1913, oD1_1913), (1928, oD1_1928), (1930, oD1_1930), (1937, oD1_1937), (1944, oD1_1944), (1946, oD1_1946)], [], [], vI 0⟩
def prgD1 : Run := ⟨[nodeD1], 2083, 2516, [(1646, oD1_1646), (1648, oD1_1648), (1673, oD1_1673), (1737, oD1_1737), (1738, oD1_1738), (1808, oD1_1808), (1913, oD1_1913), (1928, oD1_1928), (1930, oD1_1930), (1937, oD1_1937), (1944, oD1_1944), (1946, oD1_1946)], [], [], .tuple #[vN, vI 68, vI 9]⟩
def souD1 : Run := ⟨[strV srcD1], 1431, 2516, [(0, rowSigns), (4, rowOps)], [], [], .tuple #[.agg #[vI 0, vS [], vU 0, vI 0, vN], vI 68, vI 9]⟩
theorem one_ED1_0 : ∀ ax axm, (oneD1_0.all fun r => okRun r (evCall Tryz.prog ((cfgH ax axm).tell []) 100000 39 r.args (rowsR r.rd) r.c0)) = true := fun _ _ => by kernel_rfl
theorem one_ED1_1 : ∀ ax axm, (oneD1_1.all fun r => okRun r (evCall Tryz.prog ((cfgH ax axm).tell []) 100000 39 r.args (rowsR r.rd) r.c0)) = true := fun _ _ => by kernel_rfl
theorem one_ED1_2 : ∀ ax axm, (oneD1_2.all fun r => okRun r (evCall Tryz.prog ((cfgH ax axm).tell []) 100000 39 r.args (rowsR r.rd) r.c0)) = true := fun _ _ => by kernel_rfl
theorem one_ED1 : ∀ ax axm, (oneD1.all fun r => okRun r (evCall Tryz.prog ((cfgH ax axm).tell []) 100000 39 r.args (rowsR r.rd) r.c0)) = true := fun ax axm => all_app (all_app (one_ED1_0 ax axm) (one_ED1_1 ax axm)) (one_ED1_2 ax axm)
theorem tok_ED1 : ∀ ax axm, okRun tokD1 (evCall Tryz.prog ((cfgH ax axm).tell [(39, oneD1)]) 100000 14 tokD1.args (rowsR tokD1.rd) tokD1.c0) = true := fun _ _ => by kernel_rfl
theorem par_ED1 : ∀ ax axm, okRun parD1 (evCall Tryz.prog ((cfgH ax axm).tell [(14, [tokD1])]) 100000 6 parD1.args (rowsR parD1.rd) parD1.c0) = true := fun _ _ => by kernel_rfl
theorem chk_ED1 : ∀ ax axm, okRun chkD1 (evCall Tryz.prog ((cfgH ax axm).tell []) 100000 10 chkD1.args (rowsR chkD1.rd) chkD1.c0) = true := fun _ _ => by kernel_rfl
theorem prg_ED1 : ∀ ax axm, okRun prgD1 (evCall Tryz.prog ((cfgH ax axm).tell [(10, [chkD1])]) 100000 7 prgD1.args (rowsR prgD1.rd) prgD1.c0) = true := fun _ _ => by kernel_rfl
theorem sou_ED1 : ∀ ax axm, okRun souD1 (evCall Tryz.prog ((cfgH ax axm).tell [(6, [parD1]), (7, [prgD1])]) 100000 4 souD1.args (rowsR souD1.rd) souD1.c0) = true := fun _ _ => by kernel_rfl
end Go.Proofs.YtakfgbedmglffaaGreatDoor
