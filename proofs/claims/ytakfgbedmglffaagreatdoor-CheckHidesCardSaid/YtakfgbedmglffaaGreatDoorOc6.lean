/- The law CheckHides: the two sources of case 6: what scanning, parsing and checking come to, piece by piece, by the evaluator. -/
import Derived.Test.YtakfgbedmglffaaGreatDoorOh
namespace Go.Proofs.YtakfgbedmglffaaGreatDoor
open Go.RowKit
open Ev
set_option linter.unusedSimpArgs false
set_option linter.unusedVariables false

def srcC6 : List UInt8 := [102, 117, 110, 99, 32, 102, 40, 110, 32, 105, 110, 116, 54, 52, 41, 32, 123, 32, 125, 10, 102, 117, 110, 99, 32, 109, 97, 105, 110, 40, 41, 32, 123, 32, 118, 97, 114, 32, 120, 32, 91, 93, 105, 110, 116, 54, 52, 59, 32, 123, 32, 117, 105, 110, 116, 54, 52, 32, 58, 61, 32, 49, 59, 32, 117, 105, 110, 116, 54, 52, 32, 61, 32, 117, 105, 110, 116, 54, 52, 32, 43, 32, 49, 32, 125, 59, 32, 117, 105, 110, 116, 54, 52, 40, 49, 41, 32, 125]
def oC6_265 : AObj := .row [vI 10, vS [105, 110, 116, 54, 52], vU 0, vI 9, vN] 26 5
def oC6_267 : AObj := .row [vI 5, vS [110], vU 0, vI 7, vL 265 0 1 1] 26 5
def oC6_292 : AObj := .row [vI 4, vS [], vU 0, vI 6, vN, vI 6, vS [], vU 0, vI 6, vL 267 0 1 unk, vI 7, vS [], vU 0, vI 16, vN, vI 20, vS [], vU 0, vI 16, vN] 26 5
def oC6_356 : AObj := .row [vI 10, vS [105, 110, 116, 54, 52], vU 0, vI 42, vN] 26 5
def oC6_357 : AObj := .row [vI 11, vS [], vU 0, vI 40, vL 356 0 1 1] 26 5
def oC6_427 : AObj := .row [vI 31, vS [], vU 1, vI 61, vN] 26 5
def oC6_564 : AObj := .row [vI 30, vS [117, 105, 110, 116, 54, 52], vU 0, vI 73, vN, vI 31, vS [], vU 1, vI 82, vN] 26 5
def oC6_568 : AObj := .row [vI 30, vS [117, 105, 110, 116, 54, 52], vU 0, vI 64, vN, vI 33, vS [43], vU 0, vI 80, vL 564 0 2 2] 26 5
def oC6_570 : AObj := .row [vI 21, vS [117, 105, 110, 116, 54, 52], vU 0, vI 51, vL 427 0 1 1, vI 23, vS [], vU 0, vI 64, vL 568 0 2 2] 26 5
def oC6_680 : AObj := .row [vI 30, vS [117, 105, 110, 116, 54, 52], vU 0, vI 87, vN, vI 31, vS [], vU 1, vI 94, vN] 26 5
def oC6_695 : AObj := .row [vI 34, vS [], vU 0, vI 93, vL 680 0 2 unk] 26 5
def oC6_697 : AObj := .row [vI 22, vS [120], vU 0, vI 34, vL 357 0 1 1, vI 20, vS [], vU 0, vI 49, vL 570 0 2 unk, vI 24, vS [], vU 0, vI 87, vL 695 0 1 1] 26 5
def oC6_704 : AObj := .row [vI 4, vS [], vU 0, vI 29, vN, vI 6, vS [], vU 0, vI 29, vN, vI 7, vS [], vU 0, vI 32, vN, vI 20, vS [], vU 0, vI 32, vL 697 0 3 unk] 26 5
def oC6_706 : AObj := .row [vI 3, vS [102], vU 0, vI 0, vL 292 0 4 unk, vI 3, vS [109, 97, 105, 110], vU 0, vI 20, vL 704 0 4 unk] 26 5
def nodeC6 : Value := .agg #[vI 1, vS [], vU 0, vI 0, vL 706 0 2 unk]
def oneC6_0 : List Run := [⟨[strV (srcC6.drop 0), vI 0], 21, 24, [], [], [], .tuple #[.agg #[vI 3, vS [102, 117, 110, 99], vU 0, vI 0], vI 4, vI 0]⟩,
  ⟨[strV (srcC6.drop 5), vI 5], 27, 30, [], [], [], .tuple #[.agg #[vI 1, vS [102], vU 0, vI 5], vI 1, vI 0]⟩,
  ⟨[strV (srcC6.drop 6), vI 6], 33, 35, [(0, rowSigns)], [], [], .tuple #[.agg #[vI 4, vS [40], vU 0, vI 6], vI 1, vI 0]⟩,
  ⟨[strV (srcC6.drop 7), vI 7], 38, 41, [], [], [], .tuple #[.agg #[vI 1, vS [110], vU 0, vI 7], vI 1, vI 0]⟩,
  ⟨[strV (srcC6.drop 9), vI 9], 44, 47, [], [], [], .tuple #[.agg #[vI 1, vS [105, 110, 116, 54, 52], vU 0, vI 9], vI 5, vI 0]⟩,
  ⟨[strV (srcC6.drop 14), vI 14], 50, 52, [(0, rowSigns)], [], [], .tuple #[.agg #[vI 4, vS [41], vU 0, vI 14], vI 1, vI 0]⟩,
  ⟨[strV (srcC6.drop 16), vI 16], 55, 57, [(0, rowSigns)], [], [], .tuple #[.agg #[vI 4, vS [123], vU 0, vI 16], vI 1, vI 0]⟩,
  ⟨[strV (srcC6.drop 18), vI 18], 60, 62, [(0, rowSigns)], [], [], .tuple #[.agg #[vI 4, vS [125], vU 0, vI 18], vI 1, vI 0]⟩,
  ⟨[strV (srcC6.drop 20), vI 20], 69, 72, [], [], [], .tuple #[.agg #[vI 3, vS [102, 117, 110, 99], vU 0, vI 20], vI 4, vI 0]⟩,
  ⟨[strV (srcC6.drop 25), vI 25], 75, 78, [], [], [], .tuple #[.agg #[vI 1, vS [109, 97, 105, 110], vU 0, vI 25], vI 4, vI 0]⟩,
  ⟨[strV (srcC6.drop 29), vI 29], 81, 83, [(0, rowSigns)], [], [], .tuple #[.agg #[vI 4, vS [40], vU 0, vI 29], vI 1, vI 0]⟩,
  ⟨[strV (srcC6.drop 30), vI 30], 86, 88, [(0, rowSigns)], [], [], .tuple #[.agg #[vI 4, vS [41], vU 0, vI 30], vI 1, vI 0]⟩,
  ⟨[strV (srcC6.drop 32), vI 32], 91, 93, [(0, rowSigns)], [], [], .tuple #[.agg #[vI 4, vS [123], vU 0, vI 32], vI 1, vI 0]⟩]
def oneC6_1 : List Run := [⟨[strV (srcC6.drop 34), vI 34], 96, 99, [], [], [], .tuple #[.agg #[vI 3, vS [118, 97, 114], vU 0, vI 34], vI 3, vI 0]⟩,
  ⟨[strV (srcC6.drop 38), vI 38], 102, 105, [], [], [], .tuple #[.agg #[vI 1, vS [120], vU 0, vI 38], vI 1, vI 0]⟩,
  ⟨[strV (srcC6.drop 40), vI 40], 108, 110, [(0, rowSigns)], [], [], .tuple #[.agg #[vI 4, vS [91], vU 0, vI 40], vI 1, vI 0]⟩,
  ⟨[strV (srcC6.drop 41), vI 41], 113, 115, [(0, rowSigns)], [], [], .tuple #[.agg #[vI 4, vS [93], vU 0, vI 41], vI 1, vI 0]⟩,
  ⟨[strV (srcC6.drop 42), vI 42], 118, 121, [], [], [], .tuple #[.agg #[vI 1, vS [105, 110, 116, 54, 52], vU 0, vI 42], vI 5, vI 0]⟩,
  ⟨[strV (srcC6.drop 47), vI 47], 124, 126, [(0, rowSigns)], [], [], .tuple #[.agg #[vI 5, vS [59], vU 0, vI 47], vI 1, vI 0]⟩,
  ⟨[strV (srcC6.drop 49), vI 49], 129, 131, [(0, rowSigns)], [], [], .tuple #[.agg #[vI 4, vS [123], vU 0, vI 49], vI 1, vI 0]⟩,
  ⟨[strV (srcC6.drop 51), vI 51], 134, 137, [], [], [], .tuple #[.agg #[vI 1, vS [117, 105, 110, 116, 54, 52], vU 0, vI 51], vI 6, vI 0]⟩,
  ⟨[strV (srcC6.drop 58), vI 58], 140, 142, [(0, rowSigns)], [], [], .tuple #[.agg #[vI 4, vS [58, 61], vU 0, vI 58], vI 2, vI 0]⟩,
  ⟨[strV (srcC6.drop 61), vI 61], 145, 149, [], [], [], .tuple #[.agg #[vI 2, vS [49], vU 1, vI 61], vI 1, vI 0]⟩,
  ⟨[strV (srcC6.drop 62), vI 62], 152, 154, [(0, rowSigns)], [], [], .tuple #[.agg #[vI 5, vS [59], vU 0, vI 62], vI 1, vI 0]⟩,
  ⟨[strV (srcC6.drop 64), vI 64], 157, 160, [], [], [], .tuple #[.agg #[vI 1, vS [117, 105, 110, 116, 54, 52], vU 0, vI 64], vI 6, vI 0]⟩,
  ⟨[strV (srcC6.drop 71), vI 71], 163, 165, [(0, rowSigns)], [], [], .tuple #[.agg #[vI 4, vS [61], vU 0, vI 71], vI 1, vI 0]⟩]
def oneC6_2 : List Run := [⟨[strV (srcC6.drop 73), vI 73], 168, 171, [], [], [], .tuple #[.agg #[vI 1, vS [117, 105, 110, 116, 54, 52], vU 0, vI 73], vI 6, vI 0]⟩,
  ⟨[strV (srcC6.drop 80), vI 80], 174, 176, [(0, rowSigns)], [], [], .tuple #[.agg #[vI 4, vS [43], vU 0, vI 80], vI 1, vI 0]⟩,
  ⟨[strV (srcC6.drop 82), vI 82], 179, 183, [], [], [], .tuple #[.agg #[vI 2, vS [49], vU 1, vI 82], vI 1, vI 0]⟩,
  ⟨[strV (srcC6.drop 84), vI 84], 186, 188, [(0, rowSigns)], [], [], .tuple #[.agg #[vI 4, vS [125], vU 0, vI 84], vI 1, vI 0]⟩,
  ⟨[strV (srcC6.drop 85), vI 85], 191, 193, [(0, rowSigns)], [], [], .tuple #[.agg #[vI 5, vS [59], vU 0, vI 85], vI 1, vI 0]⟩,
  ⟨[strV (srcC6.drop 87), vI 87], 196, 199, [], [], [], .tuple #[.agg #[vI 1, vS [117, 105, 110, 116, 54, 52], vU 0, vI 87], vI 6, vI 0]⟩,
  ⟨[strV (srcC6.drop 93), vI 93], 202, 204, [(0, rowSigns)], [], [], .tuple #[.agg #[vI 4, vS [40], vU 0, vI 93], vI 1, vI 0]⟩,
  ⟨[strV (srcC6.drop 94), vI 94], 207, 211, [], [], [], .tuple #[.agg #[vI 2, vS [49], vU 1, vI 94], vI 1, vI 0]⟩,
  ⟨[strV (srcC6.drop 95), vI 95], 214, 216, [(0, rowSigns)], [], [], .tuple #[.agg #[vI 4, vS [41], vU 0, vI 95], vI 1, vI 0]⟩,
  ⟨[strV (srcC6.drop 97), vI 97], 219, 221, [(0, rowSigns)], [], [], .tuple #[.agg #[vI 4, vS [125], vU 0, vI 97], vI 1, vI 0]⟩]
def oneC6 : List Run := oneC6_0 ++ oneC6_1 ++ oneC6_2
def tokC6 : Run := ⟨[strV srcC6], 21, 228, [(0, rowSigns)], [(227, .row [vI 3, vS [102, 117, 110, 99], vU 0, vI 0, vI 1, vS [102], vU 0, vI 5, vI 4, vS [40], vU 0, vI 6, vI 1, vS [110], vU 0, vI 7, vI 1, vS [105, 110, 116, 54, 52], vU 0, vI 9, vI 4, vS [41], vU 0, vI 14, vI 4, vS [123], vU 0, vI 16, vI 4, vS [125], vU 0, vI 18, vI 5, vS [], vU 0, vI 19, vI 3, vS [102, 117, 110, 99], vU 0, vI 20, vI 1, vS [109, 97, 105, 110], vU 0, vI 25, vI 4, vS [40], vU 0, vI 29, vI 4, vS [41], vU 0, vI 30, vI 4, vS [123], vU 0, vI 32, vI 3, vS [118, 97, 114], vU 0, vI 34, vI 1, vS [120], vU 0, vI 38, vI 4, vS [91], vU 0, vI 40, vI 4, vS [93], vU 0, vI 41, vI 1, vS [105, 110, 116, 54, 52], vU 0, vI 42, vI 5, vS [59], vU 0, vI 47, vI 4, vS [123], vU 0, vI 49, vI 1, vS [117, 105, 110, 116, 54, 52], vU 0, vI 51, vI 4, vS [58, 61], vU 0, vI 58, vI 2, vS [49], vU 1, vI 61, vI 5, vS [59], vU 0, vI 62, vI 1, vS [117, 105, 110, 116, 54, 52], vU 0, vI 64, vI 4, vS [61], vU 0, vI 71, vI 1, vS [117, 105, 110, 116, 54, 52], vU 0, vI 73, vI 4, vS [43], vU 0, vI 80, vI 2, vS [49], vU 1, vI 82, vI 4, vS [125], vU 0, vI 84, vI 5, vS [59], vU 0, vI 85, vI 1, vS [117, 105, 110, 116, 54, 52], vU 0, vI 87, vI 4, vS [40], vU 0, vI 93, vI 2, vS [49], vU 1, vI 94, vI 4, vS [41], vU 0, vI 95, vI 4, vS [125], vU 0, vI 97, vI 5, vS [], vU 0, vI 98] 74 4)], [], .tuple #[vL 227 0 38 unk, vI 0, vI 0]⟩
def parC6 : Run := ⟨[strV srcC6], 17, 873, [(0, rowSigns), (4, rowOps)], [(265, oC6_265), (267, oC6_267), (292, oC6_292), (356, oC6_356), (357, oC6_357), (427, oC6_427), (564, oC6_564), (568, oC6_568), (570, oC6_570), (680, oC6_680), (695, oC6_695), (697, oC6_697), (704, oC6_704), (706, oC6_706)], [], .tuple #[nodeC6, vI 0, vI 0]⟩
def chkC6 : Run := ⟨[nodeC6], 874, 1173, [(4, rowOps), (265, oC6_265), (267, oC6_267), (292, oC6_292), (356, oC6_356), (357, oC6_357), (427, oC6_427), (564, oC6_564), (568, oC6_568), (570, oC6_570), (680, oC6_680), (695, oC6_695), (697, oC6_697), (704, oC6_704), (706, oC6_706)], [], [], vI 0⟩
def prgC6 : Run := ⟨[nodeC6], 873, 1427, [(4, rowOps), (265, oC6_265), (267, oC6_267), (292, oC6_292), (356, oC6_356), (357, oC6_357), (427, oC6_427), (564, oC6_564), (568, oC6_568), (570, oC6_570), (680, oC6_680), (695, oC6_695), (697, oC6_697), (704, oC6_704), (706, oC6_706)], [], [], .tuple #[vL 1426 0 2 unk, vI 0, vI 0]⟩
def souC6 : Run := ⟨[strV srcC6], 16, 1427, [(0, rowSigns), (4, rowOps)], [], [], .tuple #[.agg #[vI 1, vS [], vU 0, vI 0, vL 706 0 2 unk], vI 0, vI 0]⟩
theorem one_EC6_0 : ∀ ax axm, (oneC6_0.all fun r => okRun r (evCall Tryz.prog ((cfgH ax axm).tell []) 100000 39 r.args (rowsR r.rd) r.c0)) = true := fun _ _ => by kernel_rfl
theorem one_EC6_1 : ∀ ax axm, (oneC6_1.all fun r => okRun r (evCall Tryz.prog ((cfgH ax axm).tell []) 100000 39 r.args (rowsR r.rd) r.c0)) = true := fun _ _ => by kernel_rfl
theorem one_EC6_2 : ∀ ax axm, (oneC6_2.all fun r => okRun r (evCall Tryz.prog ((cfgH ax axm).tell []) 100000 39 r.args (rowsR r.rd) r.c0)) = true := fun _ _ => by kernel_rfl
theorem one_EC6 : ∀ ax axm, (oneC6.all fun r => okRun r (evCall Tryz.prog ((cfgH ax axm).tell []) 100000 39 r.args (rowsR r.rd) r.c0)) = true := fun ax axm => all_app (all_app (one_EC6_0 ax axm) (one_EC6_1 ax axm)) (one_EC6_2 ax axm)
theorem tok_EC6 : ∀ ax axm, okRun tokC6 (evCall Tryz.prog ((cfgH ax axm).tell [(39, oneC6)]) 100000 14 tokC6.args (rowsR tokC6.rd) tokC6.c0) = true := fun _ _ => by kernel_rfl
theorem par_EC6 : ∀ ax axm, okRun parC6 (evCall Tryz.prog ((cfgH ax axm).tell [(14, [tokC6])]) 100000 6 parC6.args (rowsR parC6.rd) parC6.c0) = true := fun _ _ => by kernel_rfl
theorem chk_EC6 : ∀ ax axm, okRun chkC6 (evCall Tryz.prog ((cfgH ax axm).tell []) 100000 10 chkC6.args (rowsR chkC6.rd) chkC6.c0) = true := fun _ _ => by kernel_rfl
theorem prg_EC6 : ∀ ax axm, okRun prgC6 (evCall Tryz.prog ((cfgH ax axm).tell [(10, [chkC6])]) 100000 7 prgC6.args (rowsR prgC6.rd) prgC6.c0) = true := fun _ _ => by kernel_rfl
theorem sou_EC6 : ∀ ax axm, okRun souC6 (evCall Tryz.prog ((cfgH ax axm).tell [(6, [parC6]), (7, [prgC6])]) 100000 4 souC6.args (rowsR souC6.rd) souC6.c0) = true := fun _ _ => by kernel_rfl
def srcD6 : List UInt8 := [102, 117, 110, 99, 32, 102, 40, 110, 32, 105, 110, 116, 54, 52, 41, 32, 123, 32, 125, 10, 102, 117, 110, 99, 32, 109, 97, 105, 110, 40, 41, 32, 123, 32, 118, 97, 114, 32, 120, 32, 91, 93, 105, 110, 116, 54, 52, 59, 32, 123, 32, 117, 105, 110, 116, 54, 52, 32, 58, 61, 32, 49, 59, 32, 117, 105, 110, 116, 54, 52, 40, 49, 41, 32, 125, 32, 125]
def oD6_1643 : AObj := .row [vI 10, vS [105, 110, 116, 54, 52], vU 0, vI 9, vN] 26 5
def oD6_1645 : AObj := .row [vI 5, vS [110], vU 0, vI 7, vL 1643 0 1 1] 26 5
def oD6_1670 : AObj := .row [vI 4, vS [], vU 0, vI 6, vN, vI 6, vS [], vU 0, vI 6, vL 1645 0 1 unk, vI 7, vS [], vU 0, vI 16, vN, vI 20, vS [], vU 0, vI 16, vN] 26 5
def oD6_1734 : AObj := .row [vI 10, vS [105, 110, 116, 54, 52], vU 0, vI 42, vN] 26 5
def oD6_1735 : AObj := .row [vI 11, vS [], vU 0, vI 40, vL 1734 0 1 1] 26 5
def oD6_1805 : AObj := .row [vI 31, vS [], vU 1, vI 61, vN] 26 5
def oD6_1910 : AObj := .row [vI 30, vS [117, 105, 110, 116, 54, 52], vU 0, vI 64, vN, vI 31, vS [], vU 1, vI 71, vN] 26 5
def oD6_1925 : AObj := .row [vI 34, vS [], vU 0, vI 70, vL 1910 0 2 unk] 26 5
def oD6_1927 : AObj := .row [vI 21, vS [117, 105, 110, 116, 54, 52], vU 0, vI 51, vL 1805 0 1 1, vI 24, vS [], vU 0, vI 64, vL 1925 0 1 1] 26 5
def oD6_1934 : AObj := .row [vI 22, vS [120], vU 0, vI 34, vL 1735 0 1 1, vI 20, vS [], vU 0, vI 49, vL 1927 0 2 unk] 26 5
def oD6_1941 : AObj := .row [vI 4, vS [], vU 0, vI 29, vN, vI 6, vS [], vU 0, vI 29, vN, vI 7, vS [], vU 0, vI 32, vN, vI 20, vS [], vU 0, vI 32, vL 1934 0 2 unk] 26 5
def oD6_1943 : AObj := .row [vI 3, vS [102], vU 0, vI 0, vL 1670 0 4 unk, vI 3, vS [109, 97, 105, 110], vU 0, vI 20, vL 1941 0 4 unk] 26 5
def nodeD6 : Value := .agg #[vI 1, vS [], vU 0, vI 0, vL 1943 0 2 unk]
def oneD6_0 : List Run := [⟨[strV (srcD6.drop 0), vI 0], 1433, 1436, [], [], [], .tuple #[.agg #[vI 3, vS [102, 117, 110, 99], vU 0, vI 0], vI 4, vI 0]⟩,
  ⟨[strV (srcD6.drop 5), vI 5], 1439, 1442, [], [], [], .tuple #[.agg #[vI 1, vS [102], vU 0, vI 5], vI 1, vI 0]⟩,
  ⟨[strV (srcD6.drop 6), vI 6], 1445, 1447, [(0, rowSigns)], [], [], .tuple #[.agg #[vI 4, vS [40], vU 0, vI 6], vI 1, vI 0]⟩,
  ⟨[strV (srcD6.drop 7), vI 7], 1450, 1453, [], [], [], .tuple #[.agg #[vI 1, vS [110], vU 0, vI 7], vI 1, vI 0]⟩,
  ⟨[strV (srcD6.drop 9), vI 9], 1456, 1459, [], [], [], .tuple #[.agg #[vI 1, vS [105, 110, 116, 54, 52], vU 0, vI 9], vI 5, vI 0]⟩,
  ⟨[strV (srcD6.drop 14), vI 14], 1462, 1464, [(0, rowSigns)], [], [], .tuple #[.agg #[vI 4, vS [41], vU 0, vI 14], vI 1, vI 0]⟩,
  ⟨[strV (srcD6.drop 16), vI 16], 1467, 1469, [(0, rowSigns)], [], [], .tuple #[.agg #[vI 4, vS [123], vU 0, vI 16], vI 1, vI 0]⟩,
  ⟨[strV (srcD6.drop 18), vI 18], 1472, 1474, [(0, rowSigns)], [], [], .tuple #[.agg #[vI 4, vS [125], vU 0, vI 18], vI 1, vI 0]⟩,
  ⟨[strV (srcD6.drop 20), vI 20], 1481, 1484, [], [], [], .tuple #[.agg #[vI 3, vS [102, 117, 110, 99], vU 0, vI 20], vI 4, vI 0]⟩,
  ⟨[strV (srcD6.drop 25), vI 25], 1487, 1490, [], [], [], .tuple #[.agg #[vI 1, vS [109, 97, 105, 110], vU 0, vI 25], vI 4, vI 0]⟩,
  ⟨[strV (srcD6.drop 29), vI 29], 1493, 1495, [(0, rowSigns)], [], [], .tuple #[.agg #[vI 4, vS [40], vU 0, vI 29], vI 1, vI 0]⟩,
  ⟨[strV (srcD6.drop 30), vI 30], 1498, 1500, [(0, rowSigns)], [], [], .tuple #[.agg #[vI 4, vS [41], vU 0, vI 30], vI 1, vI 0]⟩,
  ⟨[strV (srcD6.drop 32), vI 32], 1503, 1505, [(0, rowSigns)], [], [], .tuple #[.agg #[vI 4, vS [123], vU 0, vI 32], vI 1, vI 0]⟩]
def oneD6_1 : List Run := [⟨[strV (srcD6.drop 34), vI 34], 1508, 1511, [], [], [], .tuple #[.agg #[vI 3, vS [118, 97, 114], vU 0, vI 34], vI 3, vI 0]⟩,
  ⟨[strV (srcD6.drop 38), vI 38], 1514, 1517, [], [], [], .tuple #[.agg #[vI 1, vS [120], vU 0, vI 38], vI 1, vI 0]⟩,
  ⟨[strV (srcD6.drop 40), vI 40], 1520, 1522, [(0, rowSigns)], [], [], .tuple #[.agg #[vI 4, vS [91], vU 0, vI 40], vI 1, vI 0]⟩,
  ⟨[strV (srcD6.drop 41), vI 41], 1525, 1527, [(0, rowSigns)], [], [], .tuple #[.agg #[vI 4, vS [93], vU 0, vI 41], vI 1, vI 0]⟩,
  ⟨[strV (srcD6.drop 42), vI 42], 1530, 1533, [], [], [], .tuple #[.agg #[vI 1, vS [105, 110, 116, 54, 52], vU 0, vI 42], vI 5, vI 0]⟩,
  ⟨[strV (srcD6.drop 47), vI 47], 1536, 1538, [(0, rowSigns)], [], [], .tuple #[.agg #[vI 5, vS [59], vU 0, vI 47], vI 1, vI 0]⟩,
  ⟨[strV (srcD6.drop 49), vI 49], 1541, 1543, [(0, rowSigns)], [], [], .tuple #[.agg #[vI 4, vS [123], vU 0, vI 49], vI 1, vI 0]⟩,
  ⟨[strV (srcD6.drop 51), vI 51], 1546, 1549, [], [], [], .tuple #[.agg #[vI 1, vS [117, 105, 110, 116, 54, 52], vU 0, vI 51], vI 6, vI 0]⟩,
  ⟨[strV (srcD6.drop 58), vI 58], 1552, 1554, [(0, rowSigns)], [], [], .tuple #[.agg #[vI 4, vS [58, 61], vU 0, vI 58], vI 2, vI 0]⟩,
  ⟨[strV (srcD6.drop 61), vI 61], 1557, 1561, [], [], [], .tuple #[.agg #[vI 2, vS [49], vU 1, vI 61], vI 1, vI 0]⟩,
  ⟨[strV (srcD6.drop 62), vI 62], 1564, 1566, [(0, rowSigns)], [], [], .tuple #[.agg #[vI 5, vS [59], vU 0, vI 62], vI 1, vI 0]⟩,
  ⟨[strV (srcD6.drop 64), vI 64], 1569, 1572, [], [], [], .tuple #[.agg #[vI 1, vS [117, 105, 110, 116, 54, 52], vU 0, vI 64], vI 6, vI 0]⟩,
  ⟨[strV (srcD6.drop 70), vI 70], 1575, 1577, [(0, rowSigns)], [], [], .tuple #[.agg #[vI 4, vS [40], vU 0, vI 70], vI 1, vI 0]⟩]
def oneD6_2 : List Run := [⟨[strV (srcD6.drop 71), vI 71], 1580, 1584, [], [], [], .tuple #[.agg #[vI 2, vS [49], vU 1, vI 71], vI 1, vI 0]⟩,
  ⟨[strV (srcD6.drop 72), vI 72], 1587, 1589, [(0, rowSigns)], [], [], .tuple #[.agg #[vI 4, vS [41], vU 0, vI 72], vI 1, vI 0]⟩,
  ⟨[strV (srcD6.drop 74), vI 74], 1592, 1594, [(0, rowSigns)], [], [], .tuple #[.agg #[vI 4, vS [125], vU 0, vI 74], vI 1, vI 0]⟩,
  ⟨[strV (srcD6.drop 76), vI 76], 1597, 1599, [(0, rowSigns)], [], [], .tuple #[.agg #[vI 4, vS [125], vU 0, vI 76], vI 1, vI 0]⟩]
def oneD6 : List Run := oneD6_0 ++ oneD6_1 ++ oneD6_2
def tokD6 : Run := ⟨[strV srcD6], 1433, 1606, [(0, rowSigns)], [(1605, .row [vI 3, vS [102, 117, 110, 99], vU 0, vI 0, vI 1, vS [102], vU 0, vI 5, vI 4, vS [40], vU 0, vI 6, vI 1, vS [110], vU 0, vI 7, vI 1, vS [105, 110, 116, 54, 52], vU 0, vI 9, vI 4, vS [41], vU 0, vI 14, vI 4, vS [123], vU 0, vI 16, vI 4, vS [125], vU 0, vI 18, vI 5, vS [], vU 0, vI 19, vI 3, vS [102, 117, 110, 99], vU 0, vI 20, vI 1, vS [109, 97, 105, 110], vU 0, vI 25, vI 4, vS [40], vU 0, vI 29, vI 4, vS [41], vU 0, vI 30, vI 4, vS [123], vU 0, vI 32, vI 3, vS [118, 97, 114], vU 0, vI 34, vI 1, vS [120], vU 0, vI 38, vI 4, vS [91], vU 0, vI 40, vI 4, vS [93], vU 0, vI 41, vI 1, vS [105, 110, 116, 54, 52], vU 0, vI 42, vI 5, vS [59], vU 0, vI 47, vI 4, vS [123], vU 0, vI 49, vI 1, vS [117, 105, 110, 116, 54, 52], vU 0, vI 51, vI 4, vS [58, 61], vU 0, vI 58, vI 2, vS [49], vU 1, vI 61, vI 5, vS [59], vU 0, vI 62, vI 1, vS [117, 105, 110, 116, 54, 52], vU 0, vI 64, vI 4, vS [40], vU 0, vI 70, vI 2, vS [49], vU 1, vI 71, vI 4, vS [41], vU 0, vI 72, vI 4, vS [125], vU 0, vI 74, vI 4, vS [125], vU 0, vI 76, vI 5, vS [], vU 0, vI 77] 74 4)], [], .tuple #[vL 1605 0 32 unk, vI 0, vI 0]⟩
def parD6 : Run := ⟨[strV srcD6], 1429, 2080, [(0, rowSigns), (4, rowOps)], [(1643, oD6_1643), (1645, oD6_1645), (1670, oD6_1670), (1734, oD6_1734), (1735, oD6_1735), (1805, oD6_1805), (1910, oD6_1910), (1925, oD6_1925), (1927, oD6_1927), (1934, oD6_1934), (1941, oD6_1941), (1943, oD6_1943)], [], .tuple #[nodeD6, vI 0, vI 0]⟩
def chkD6 : Run := ⟨[nodeD6], 2081, 2328, [(1643, oD6_1643), (1645, oD6_1645), (1670, oD6_1670), (1734, oD6_1734), (1735, oD6_1735), (1805, oD6_1805), (1910, oD6_1910), (1925, oD6_1925), (1927, oD6_1927), (1934, oD6_1934), (1941, oD6_1941), (1943, oD6_1943)], [], [], vI 0⟩
def prgD6 : Run := ⟨[nodeD6], 2080, 2513, [(1643, oD6_1643), (1645, oD6_1645), (1670, oD6_1670), (1734, oD6_1734), (1735, oD6_1735), (1805, oD6_1805), (1910, oD6_1910), (1925, oD6_1925), (1927, oD6_1927), (1934, oD6_1934), (1941, oD6_1941), (1943, oD6_1943)], [], [], .tuple #[vN, vI 70, vI 9]⟩
def souD6 : Run := ⟨[strV srcD6], 1428, 2513, [(0, rowSigns), (4, rowOps)], [], [], .tuple #[.agg #[vI 0, vS [], vU 0, vI 0, vN], vI 70, vI 9]⟩
theorem one_ED6_0 : ∀ ax axm, (oneD6_0.all fun r => okRun r (evCall Tryz.prog ((cfgH ax axm).tell []) 100000 39 r.args (rowsR r.rd) r.c0)) = true := fun _ _ => by kernel_rfl
theorem one_ED6_1 : ∀ ax axm, (oneD6_1.all fun r => okRun r (evCall Tryz.prog ((cfgH ax axm).tell []) 100000 39 r.args (rowsR r.rd) r.c0)) = true := fun _ _ => by kernel_rfl
theorem one_ED6_2 : ∀ ax axm, (oneD6_2.all fun r => okRun r (evCall Tryz.prog ((cfgH ax axm).tell []) 100000 39 r.args (rowsR r.rd) r.c0)) = true := fun _ _ => by kernel_rfl
theorem one_ED6 : ∀ ax axm, (oneD6.all fun r => okRun r (evCall Tryz.prog ((cfgH ax axm).tell []) 100000 39 r.args (rowsR r.rd) r.c0)) = true := fun ax axm => all_app (all_app (one_ED6_0 ax axm) (one_ED6_1 ax axm)) (one_ED6_2 ax axm)
theorem tok_ED6 : ∀ ax axm, okRun tokD6 (evCall Tryz.prog ((cfgH ax axm).tell [(39, oneD6)]) 100000 14 tokD6.args (rowsR tokD6.rd) tokD6.c0) = true := fun _ _ => by kernel_rfl
theorem par_ED6 : ∀ ax axm, okRun parD6 (evCall Tryz.prog ((cfgH ax axm).tell [(14, [tokD6])]) 100000 6 parD6.args (rowsR parD6.rd) parD6.c0) = true := fun _ _ => by kernel_rfl
theorem chk_ED6 : ∀ ax axm, okRun chkD6 (evCall Tryz.prog ((cfgH ax axm).tell []) 100000 10 chkD6.args (rowsR chkD6.rd) chkD6.c0) = true := fun _ _ => by kernel_rfl
theorem prg_ED6 : ∀ ax axm, okRun prgD6 (evCall Tryz.prog ((cfgH ax axm).tell [(10, [chkD6])]) 100000 7 prgD6.args (rowsR prgD6.rd) prgD6.c0) = true := fun _ _ => by kernel_rfl
theorem sou_ED6 : ∀ ax axm, okRun souD6 (evCall Tryz.prog ((cfgH ax axm).tell [(6, [parD6]), (7, [prgD6])]) 100000 4 souD6.args (rowsR souD6.rd) souD6.c0) = true := fun _ _ => by kernel_rfl
end Go.Proofs.YtakfgbedmglffaaGreatDoor
