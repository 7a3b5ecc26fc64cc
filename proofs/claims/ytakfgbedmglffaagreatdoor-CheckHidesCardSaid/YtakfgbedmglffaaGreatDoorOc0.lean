/- The law CheckHides: the two sources of case 0: what scanning, parsing and checking come to, piece by piece, by the evaluator. -/
import Derived.Test.YtakfgbedmglffaaGreatDoorOh
namespace Go.Proofs.YtakfgbedmglffaaGreatDoor
open Go.RowKit
open Ev
set_option linter.unusedSimpArgs false
set_option linter.unusedVariables false

def srcC0 : List UInt8 := [102, 117, 110, 99, 32, 102, 40, 110, 32, 105, 110, 116, 54, 52, 41, 32, 123, 32, 125, 10, 102, 117, 110, 99, 32, 109, 97, 105, 110, 40, 41, 32, 123, 32, 118, 97, 114, 32, 120, 32, 91, 93, 105, 110, 116, 54, 52, 59, 32, 123, 32, 108, 101, 110, 32, 58, 61, 32, 49, 59, 32, 108, 101, 110, 32, 61, 32, 108, 101, 110, 32, 43, 32, 49, 32, 125, 59, 32, 108, 101, 110, 40, 120, 41, 32, 125]
def oC0_264 : AObj := .row [vI 10, vS [105, 110, 116, 54, 52], vU 0, vI 9, vN] 26 5
def oC0_266 : AObj := .row [vI 5, vS [110], vU 0, vI 7, vL 264 0 1 1] 26 5
def oC0_291 : AObj := .row [vI 4, vS [], vU 0, vI 6, vN, vI 6, vS [], vU 0, vI 6, vL 266 0 1 unk, vI 7, vS [], vU 0, vI 16, vN, vI 20, vS [], vU 0, vI 16, vN] 26 5
def oC0_355 : AObj := .row [vI 10, vS [105, 110, 116, 54, 52], vU 0, vI 42, vN] 26 5
def oC0_356 : AObj := .row [vI 11, vS [], vU 0, vI 40, vL 355 0 1 1] 26 5
def oC0_426 : AObj := .row [vI 31, vS [], vU 1, vI 58, vN] 26 5
def oC0_563 : AObj := .row [vI 30, vS [108, 101, 110], vU 0, vI 67, vN, vI 31, vS [], vU 1, vI 73, vN] 26 5
def oC0_567 : AObj := .row [vI 30, vS [108, 101, 110], vU 0, vI 61, vN, vI 33, vS [43], vU 0, vI 71, vL 563 0 2 2] 26 5
def oC0_569 : AObj := .row [vI 21, vS [108, 101, 110], vU 0, vI 51, vL 426 0 1 1, vI 23, vS [], vU 0, vI 61, vL 567 0 2 2] 26 5
def oC0_691 : AObj := .row [vI 30, vS [108, 101, 110], vU 0, vI 78, vN, vI 30, vS [120], vU 0, vI 82, vN] 26 5
def oC0_706 : AObj := .row [vI 34, vS [], vU 0, vI 81, vL 691 0 2 unk] 26 5
def oC0_708 : AObj := .row [vI 22, vS [120], vU 0, vI 34, vL 356 0 1 1, vI 20, vS [], vU 0, vI 49, vL 569 0 2 unk, vI 24, vS [], vU 0, vI 78, vL 706 0 1 1] 26 5
def oC0_715 : AObj := .row [vI 4, vS [], vU 0, vI 29, vN, vI 6, vS [], vU 0, vI 29, vN, vI 7, vS [], vU 0, vI 32, vN, vI 20, vS [], vU 0, vI 32, vL 708 0 3 unk] 26 5
def oC0_717 : AObj := .row [vI 3, vS [102], vU 0, vI 0, vL 291 0 4 unk, vI 3, vS [109, 97, 105, 110], vU 0, vI 20, vL 715 0 4 unk] 26 5
def nodeC0 : Value := .agg #[vI 1, vS [], vU 0, vI 0, vL 717 0 2 unk]
def oneC0_0 : List Run := [⟨[strV (srcC0.drop 0), vI 0], 21, 24, [], [], [], .tuple #[.agg #[vI 3, vS [102, 117, 110, 99], vU 0, vI 0], vI 4, vI 0]⟩,
  ⟨[strV (srcC0.drop 5), vI 5], 27, 30, [], [], [], .tuple #[.agg #[vI 1, vS [102], vU 0, vI 5], vI 1, vI 0]⟩,
  ⟨[strV (srcC0.drop 6), vI 6], 33, 35, [(0, rowSigns)], [], [], .tuple #[.agg #[vI 4, vS [40], vU 0, vI 6], vI 1, vI 0]⟩,
  ⟨[strV (srcC0.drop 7), vI 7], 38, 41, [], [], [], .tuple #[.agg #[vI 1, vS [110], vU 0, vI 7], vI 1, vI 0]⟩,
  ⟨[strV (srcC0.drop 9), vI 9], 44, 47, [], [], [], .tuple #[.agg #[vI 1, vS [105, 110, 116, 54, 52], vU 0, vI 9], vI 5, vI 0]⟩,
  ⟨[strV (srcC0.drop 14), vI 14], 50, 52, [(0, rowSigns)], [], [], .tuple #[.agg #[vI 4, vS [41], vU 0, vI 14], vI 1, vI 0]⟩,
  ⟨[strV (srcC0.drop 16), vI 16], 55, 57, [(0, rowSigns)], [], [], .tuple #[.agg #[vI 4, vS [123], vU 0, vI 16], vI 1, vI 0]⟩,
  ⟨[strV (srcC0.drop 18), vI 18], 60, 62, [(0, rowSigns)], [], [], .tuple #[.agg #[vI 4, vS [125], vU 0, vI 18], vI 1, vI 0]⟩,
  ⟨[strV (srcC0.drop 20), vI 20], 69, 72, [], [], [], .tuple #[.agg #[vI 3, vS [102, 117, 110, 99], vU 0, vI 20], vI 4, vI 0]⟩,
  ⟨[strV (srcC0.drop 25), vI 25], 75, 78, [], [], [], .tuple #[.agg #[vI 1, vS [109, 97, 105, 110], vU 0, vI 25], vI 4, vI 0]⟩,
  ⟨[strV (srcC0.drop 29), vI 29], 81, 83, [(0, rowSigns)], [], [], .tuple #[.agg #[vI 4, vS [40], vU 0, vI 29], vI 1, vI 0]⟩,
  ⟨[strV (srcC0.drop 30), vI 30], 86, 88, [(0, rowSigns)], [], [], .tuple #[.agg #[vI 4, vS [41], vU 0, vI 30], vI 1, vI 0]⟩,
  ⟨[strV (srcC0.drop 32), vI 32], 91, 93, [(0, rowSigns)], [], [], .tuple #[.agg #[vI 4, vS [123], vU 0, vI 32], vI 1, vI 0]⟩]
def oneC0_1 : List Run := [⟨[strV (srcC0.drop 34), vI 34], 96, 99, [], [], [], .tuple #[.agg #[vI 3, vS [118, 97, 114], vU 0, vI 34], vI 3, vI 0]⟩,
  ⟨[strV (srcC0.drop 38), vI 38], 102, 105, [], [], [], .tuple #[.agg #[vI 1, vS [120], vU 0, vI 38], vI 1, vI 0]⟩,
  ⟨[strV (srcC0.drop 40), vI 40], 108, 110, [(0, rowSigns)], [], [], .tuple #[.agg #[vI 4, vS [91], vU 0, vI 40], vI 1, vI 0]⟩,
  ⟨[strV (srcC0.drop 41), vI 41], 113, 115, [(0, rowSigns)], [], [], .tuple #[.agg #[vI 4, vS [93], vU 0, vI 41], vI 1, vI 0]⟩,
  ⟨[strV (srcC0.drop 42), vI 42], 118, 121, [], [], [], .tuple #[.agg #[vI 1, vS [105, 110, 116, 54, 52], vU 0, vI 42], vI 5, vI 0]⟩,
  ⟨[strV (srcC0.drop 47), vI 47], 124, 126, [(0, rowSigns)], [], [], .tuple #[.agg #[vI 5, vS [59], vU 0, vI 47], vI 1, vI 0]⟩,
  ⟨[strV (srcC0.drop 49), vI 49], 129, 131, [(0, rowSigns)], [], [], .tuple #[.agg #[vI 4, vS [123], vU 0, vI 49], vI 1, vI 0]⟩,
  ⟨[strV (srcC0.drop 51), vI 51], 134, 137, [], [], [], .tuple #[.agg #[vI 1, vS [108, 101, 110], vU 0, vI 51], vI 3, vI 0]⟩,
  ⟨[strV (srcC0.drop 55), vI 55], 140, 142, [(0, rowSigns)], [], [], .tuple #[.agg #[vI 4, vS [58, 61], vU 0, vI 55], vI 2, vI 0]⟩,
  ⟨[strV (srcC0.drop 58), vI 58], 145, 149, [], [], [], .tuple #[.agg #[vI 2, vS [49], vU 1, vI 58], vI 1, vI 0]⟩,
  ⟨[strV (srcC0.drop 59), vI 59], 152, 154, [(0, rowSigns)], [], [], .tuple #[.agg #[vI 5, vS [59], vU 0, vI 59], vI 1, vI 0]⟩,
  ⟨[strV (srcC0.drop 61), vI 61], 157, 160, [], [], [], .tuple #[.agg #[vI 1, vS [108, 101, 110], vU 0, vI 61], vI 3, vI 0]⟩,
  ⟨[strV (srcC0.drop 65), vI 65], 163, 165, [(0, rowSigns)], [], [], .tuple #[.agg #[vI 4, vS [61], vU 0, vI 65], vI 1, vI 0]⟩]
def oneC0_2 : List Run := [⟨[strV (srcC0.drop 67), vI 67], 168, 171, [], [], [], .tuple #[.agg #[vI 1, vS [108, 101, 110], vU 0, vI 67], vI 3, vI 0]⟩,
  ⟨[strV (srcC0.drop 71), vI 71], 174, 176, [(0, rowSigns)], [], [], .tuple #[.agg #[vI 4, vS [43], vU 0, vI 71], vI 1, vI 0]⟩,
  ⟨[strV (srcC0.drop 73), vI 73], 179, 183, [], [], [], .tuple #[.agg #[vI 2, vS [49], vU 1, vI 73], vI 1, vI 0]⟩,
  ⟨[strV (srcC0.drop 75), vI 75], 186, 188, [(0, rowSigns)], [], [], .tuple #[.agg #[vI 4, vS [125], vU 0, vI 75], vI 1, vI 0]⟩,
  ⟨[strV (srcC0.drop 76), vI 76], 191, 193, [(0, rowSigns)], [], [], .tuple #[.agg #[vI 5, vS [59], vU 0, vI 76], vI 1, vI 0]⟩,
  ⟨[strV (srcC0.drop 78), vI 78], 196, 199, [], [], [], .tuple #[.agg #[vI 1, vS [108, 101, 110], vU 0, vI 78], vI 3, vI 0]⟩,
  ⟨[strV (srcC0.drop 81), vI 81], 202, 204, [(0, rowSigns)], [], [], .tuple #[.agg #[vI 4, vS [40], vU 0, vI 81], vI 1, vI 0]⟩,
  ⟨[strV (srcC0.drop 82), vI 82], 207, 210, [], [], [], .tuple #[.agg #[vI 1, vS [120], vU 0, vI 82], vI 1, vI 0]⟩,
  ⟨[strV (srcC0.drop 83), vI 83], 213, 215, [(0, rowSigns)], [], [], .tuple #[.agg #[vI 4, vS [41], vU 0, vI 83], vI 1, vI 0]⟩,
  ⟨[strV (srcC0.drop 85), vI 85], 218, 220, [(0, rowSigns)], [], [], .tuple #[.agg #[vI 4, vS [125], vU 0, vI 85], vI 1, vI 0]⟩]
def oneC0 : List Run := oneC0_0 ++ oneC0_1 ++ oneC0_2
def tokC0 : Run := ⟨[strV srcC0], 21, 227, [(0, rowSigns)], [(226, .row [vI 3, vS [102, 117, 110, 99], vU 0, vI 0, vI 1, vS [102], vU 0, vI 5, vI 4, vS [40], vU 0, vI 6, vI 1, vS [110], vU 0, vI 7, vI 1, vS [105, 110, 116, 54, 52], vU 0, vI 9, vI 4, vS [41], vU 0, vI 14, vI 4, vS [123], vU 0, vI 16, vI 4, vS [125], vU 0, vI 18, vI 5, vS [], vU 0, vI 19, vI 3, vS [102, 117, 110, 99], vU 0, vI 20, vI 1, vS [109, 97, 105, 110], vU 0, vI 25, vI 4, vS [40], vU 0, vI 29, vI 4, vS [41], vU 0, vI 30, vI 4, vS [123], vU 0, vI 32, vI 3, vS [118, 97, 114], vU 0, vI 34, vI 1, vS [120], vU 0, vI 38, vI 4, vS [91], vU 0, vI 40, vI 4, vS [93], vU 0, vI 41, vI 1, vS [105, 110, 116, 54, 52], vU 0, vI 42, vI 5, vS [59], vU 0, vI 47, vI 4, vS [123], vU 0, vI 49, vI 1, vS [108, 101, 110], vU 0, vI 51, vI 4, vS [58, 61], vU 0, vI 55, vI 2, vS [49], vU 1, vI 58, vI 5, vS [59], vU 0, vI 59, vI 1, vS [108, 101, 110], vU 0, vI 61, vI 4, vS [61], vU 0, vI 65, vI 1, vS [108, 101, 110], vU 0, vI 67, vI 4, vS [43], vU 0, vI 71, vI 2, vS [49], vU 1, vI 73, vI 4, vS [125], vU 0, vI 75, vI 5, vS [59], vU 0, vI 76, vI 1, vS [108, 101, 110], vU 0, vI 78, vI 4, vS [40], vU 0, vI 81, vI 1, vS [120], vU 0, vI 82, vI 4, vS [41], vU 0, vI 83, vI 4, vS [125], vU 0, vI 85, vI 5, vS [], vU 0, vI 86] 74 4)], [], .tuple #[vL 226 0 38 unk, vI 0, vI 0]⟩
def parC0 : Run := ⟨[strV srcC0], 17, 884, [(0, rowSigns), (4, rowOps)], [(264, oC0_264), (266, oC0_266), (291, oC0_291), (355, oC0_355), (356, oC0_356), (426, oC0_426), (563, oC0_563), (567, oC0_567), (569, oC0_569), (691, oC0_691), (706, oC0_706), (708, oC0_708), (715, oC0_715), (717, oC0_717)], [], .tuple #[nodeC0, vI 0, vI 0]⟩
def chkC0 : Run := ⟨[nodeC0], 885, 1185, [(4, rowOps), (264, oC0_264), (266, oC0_266), (291, oC0_291), (355, oC0_355), (356, oC0_356), (426, oC0_426), (563, oC0_563), (567, oC0_567), (569, oC0_569), (691, oC0_691), (706, oC0_706), (708, oC0_708), (715, oC0_715), (717, oC0_717)], [], [], vI 0⟩
def prgC0 : Run := ⟨[nodeC0], 884, 1435, [(4, rowOps), (264, oC0_264), (266, oC0_266), (291, oC0_291), (355, oC0_355), (356, oC0_356), (426, oC0_426), (563, oC0_563), (567, oC0_567), (569, oC0_569), (691, oC0_691), (706, oC0_706), (708, oC0_708), (715, oC0_715), (717, oC0_717)], [], [], .tuple #[vL 1434 0 2 unk, vI 0, vI 0]⟩
def souC0 : Run := ⟨[strV srcC0], 16, 1435, [(0, rowSigns), (4, rowOps)], [], [], .tuple #[.agg #[vI 1, vS [], vU 0, vI 0, vL 717 0 2 unk], vI 0, vI 0]⟩
theorem one_EC0_0 : ∀ ax axm, (oneC0_0.all fun r => okRun r (evCall Tryz.prog ((cfgH ax axm).tell []) 100000 39 r.args (rowsR r.rd) r.c0)) = true := fun _ _ => by kernel_rfl
theorem one_EC0_1 : ∀ ax axm, (oneC0_1.all fun r => okRun r (evCall Tryz.prog ((cfgH ax axm).tell []) 100000 39 r.args (rowsR r.rd) r.c0)) = true := fun _ _ => by kernel_rfl
theorem one_EC0_2 : ∀ ax axm, (oneC0_2.all fun r => okRun r (evCall Tryz.prog ((cfgH ax axm).tell []) 100000 39 r.args (rowsR r.rd) r.c0)) = true := fun _ _ => by kernel_rfl
theorem one_EC0 : ∀ ax axm, (oneC0.all fun r => okRun r (evCall Tryz.prog ((cfgH ax axm).tell []) 100000 39 r.args (rowsR r.rd) r.c0)) = true := fun ax axm => all_app (all_app (one_EC0_0 ax axm) (one_EC0_1 ax axm)) (one_EC0_2 ax axm)
theorem tok_EC0 : ∀ ax axm, okRun tokC0 (evCall Tryz.prog ((cfgH ax axm).tell [(39, oneC0)]) 100000 14 tokC0.args (rowsR tokC0.rd) tokC0.c0) = true := fun _ _ => by kernel_rfl
theorem par_EC0 : ∀ ax axm, okRun parC0 (evCall Tryz.prog ((cfgH ax axm).tell [(14, [tokC0])]) 100000 6 parC0.args (rowsR parC0.rd) parC0.c0) = true := fun _ _ => by kernel_rfl
theorem chk_EC0 : ∀ ax axm, okRun chkC0 (evCall Tryz.prog ((cfgH ax axm).tell []) 100000 10 chkC0.args (rowsR chkC0.rd) chkC0.c0) = true := fun _ _ => by kernel_rfl
theorem prg_EC0 : ∀ ax axm, okRun prgC0 (evCall Tryz.prog ((cfgH ax axm).tell [(10, [chkC0])]) 100000 7 prgC0.args (rowsR prgC0.rd) prgC0.c0) = true := fun _ _ => by kernel_rfl
theorem sou_EC0 : ∀ ax axm, okRun souC0 (evCall Tryz.prog ((cfgH ax axm).tell [(6, [parC0]), (7, [prgC0])]) 100000 4 souC0.args (rowsR souC0.rd) souC0.c0) = true := fun _ _ => by kernel_rfl
def srcD0 : List UInt8 := [102, 117, 110, 99, 32, 102, 40, 110, 32, 105, 110, 116, 54, 52, 41, 32, 123, 32, 125, 10, 102, 117, 110, 99, 32, 109, 97, 105, 110, 40, 41, 32, 123, 32, 118, 97, 114, 32, 120, 32, 91, 93, 105, 110, 116, 54, 52, 59, 32, 123, 32, 108, 101, 110, 32, 58, 61, 32, 49, 59, 32, 108, 101, 110, 40, 120, 41, 32, 125, 32, 125]
def oD0_1650 : AObj := .row [vI 10, vS [105, 110, 116, 54, 52], vU 0, vI 9, vN] 26 5
def oD0_1652 : AObj := .row [vI 5, vS [110], vU 0, vI 7, vL 1650 0 1 1] 26 5
def oD0_1677 : AObj := .row [vI 4, vS [], vU 0, vI 6, vN, vI 6, vS [], vU 0, vI 6, vL 1652 0 1 unk, vI 7, vS [], vU 0, vI 16, vN, vI 20, vS [], vU 0, vI 16, vN] 26 5
def oD0_1741 : AObj := .row [vI 10, vS [105, 110, 116, 54, 52], vU 0, vI 42, vN] 26 5
def oD0_1742 : AObj := .row [vI 11, vS [], vU 0, vI 40, vL 1741 0 1 1] 26 5
def oD0_1812 : AObj := .row [vI 31, vS [], vU 1, vI 58, vN] 26 5
def oD0_1929 : AObj := .row [vI 30, vS [108, 101, 110], vU 0, vI 61, vN, vI 30, vS [120], vU 0, vI 65, vN] 26 5
def oD0_1944 : AObj := .row [vI 34, vS [], vU 0, vI 64, vL 1929 0 2 unk] 26 5
def oD0_1946 : AObj := .row [vI 21, vS [108, 101, 110], vU 0, vI 51, vL 1812 0 1 1, vI 24, vS [], vU 0, vI 61, vL 1944 0 1 1] 26 5
def oD0_1953 : AObj := .row [vI 22, vS [120], vU 0, vI 34, vL 1742 0 1 1, vI 20, vS [], vU 0, vI 49, vL 1946 0 2 unk] 26 5
def oD0_1960 : AObj := .row [vI 4, vS [], vU 0, vI 29, vN, vI 6, vS [], vU 0, vI 29, vN, vI 7, vS [], vU 0, vI 32, vN, vI 20, vS [], vU 0, vI 32, vL 1953 0 2 unk] 26 5
def oD0_1962 : AObj := .row [vI 3, vS [102], vU 0, vI 0, vL 1677 0 4 unk, vI 3, vS [109, 97, 105, 110], vU 0, vI 20, vL 1960 0 4 unk] 26 5
def nodeD0 : Value := .agg #[vI 1, vS [], vU 0, vI 0, vL 1962 0 2 unk]
def oneD0_0 : List Run := [⟨[strV (srcD0.drop 0), vI 0], 1441, 1444, [], [], [], .tuple #[.agg #[vI 3, vS [102, 117, 110, 99], vU 0, vI 0], vI 4, vI 0]⟩,
  ⟨[strV (srcD0.drop 5), vI 5], 1447, 1450, [], [], [], .tuple #[.agg #[vI 1, vS [102], vU 0, vI 5], vI 1, vI 0]⟩,
  ⟨[strV (srcD0.drop 6), vI 6], 1453, 1455, [(0, rowSigns)], [], [], .tuple #[.agg #[vI 4, vS [40], vU 0, vI 6], vI 1, vI 0]⟩,
  ⟨[strV (srcD0.drop 7), vI 7], 1458, 1461, [], [], [], .tuple #[.agg #[vI 1, vS [110], vU 0, vI 7], vI 1, vI 0]⟩,
  ⟨[strV (srcD0.drop 9), vI 9], 1464, 1467, [], [], [], .tuple #[.agg #[vI 1, vS [105, 110, 116, 54, 52], vU 0, vI 9], vI 5, vI 0]⟩,
  ⟨[strV (srcD0.drop 14), vI 14], 1470, 1472, [(0, rowSigns)], [], [], .tuple #[.agg #[vI 4, vS [41], vU 0, vI 14], vI 1, vI 0]⟩,
  ⟨[strV (srcD0.drop 16), vI 16], 1475, 1477, [(0, rowSigns)], [], [], .tuple #[.agg #[vI 4, vS [123], vU 0, vI 16], vI 1, vI 0]⟩,
  ⟨[strV (srcD0.drop 18), vI 18], 1480, 1482, [(0, rowSigns)], [], [], .tuple #[.agg #[vI 4, vS [125], vU 0, vI 18], vI 1, vI 0]⟩,
  ⟨[strV (srcD0.drop 20), vI 20], 1489, 1492, [], [], [], .tuple #[.agg #[vI 3, vS [102, 117, 110, 99], vU 0, vI 20], vI 4, vI 0]⟩,
  ⟨[strV (srcD0.drop 25), vI 25], 1495, 1498, [], [], [], .tuple #[.agg #[vI 1, vS [109, 97, 105, 110], vU 0, vI 25], vI 4, vI 0]⟩,
  ⟨[strV (srcD0.drop 29), vI 29], 1501, 1503, [(0, rowSigns)], [], [], .tuple #[.agg #[vI 4, vS [40], vU 0, vI 29], vI 1, vI 0]⟩,
  ⟨[strV (srcD0.drop 30), vI 30], 1506, 1508, [(0, rowSigns)], [], [], .tuple #[.agg #[vI 4, vS [41], vU 0, vI 30], vI 1, vI 0]⟩,
  ⟨[strV (srcD0.drop 32), vI 32], 1511, 1513, [(0, rowSigns)], [], [], .tuple #[.agg #[vI 4, vS [123], vU 0, vI 32], vI 1, vI 0]⟩]
def oneD0_1 : List Run := [⟨[strV (srcD0.drop 34), vI 34], 1516, 1519, [], [], [], .tuple #[.agg #[vI 3, vS [118, 97, 114], vU 0, vI 34], vI 3, vI 0]⟩,
  ⟨[strV (srcD0.drop 38), vI 38], 1522, 1525, [], [], [], .tuple #[.agg #[vI 1, vS [120], vU 0, vI 38], vI 1, vI 0]⟩,
  ⟨[strV (srcD0.drop 40), vI 40], 1528, 1530, [(0, rowSigns)], [], [], .tuple #[.agg #[vI 4, vS [91], vU 0, vI 40], vI 1, vI 0]⟩,
  ⟨[strV (srcD0.drop 41), vI 41], 1533, 1535, [(0, rowSigns)], [], [], .tuple #[.agg #[vI 4, vS [93], vU 0, vI 41], vI 1, vI 0]⟩,
  ⟨[strV (srcD0.drop 42), vI 42], 1538, 1541, [], [], [], .tuple #[.agg #[vI 1, vS [105, 110, 116, 54, 52], vU 0, vI 42], vI 5, vI 0]⟩,
  ⟨[strV (srcD0.drop 47), vI 47], 1544, 1546, [(0, rowSigns)], [], [], .tuple #[.agg #[vI 5, vS [59], vU 0, vI 47], vI 1, vI 0]⟩,
  ⟨[strV (srcD0.drop 49), vI 49], 1549, 1551, [(0, rowSigns)], [], [], .tuple #[.agg #[vI 4, vS [123], vU 0, vI 49], vI 1, vI 0]⟩,
  ⟨[strV (srcD0.drop 51), vI 51], 1554, 1557, [], [], [], .tuple #[.agg #[vI 1, vS [108, 101, 110], vU 0, vI 51], vI 3, vI 0]⟩,
  ⟨[strV (srcD0.drop 55), vI 55], 1560, 1562, [(0, rowSigns)], [], [], .tuple #[.agg #[vI 4, vS [58, 61], vU 0, vI 55], vI 2, vI 0]⟩,
  ⟨[strV (srcD0.drop 58), vI 58], 1565, 1569, [], [], [], .tuple #[.agg #[vI 2, vS [49], vU 1, vI 58], vI 1, vI 0]⟩,
  ⟨[strV (srcD0.drop 59), vI 59], 1572, 1574, [(0, rowSigns)], [], [], .tuple #[.agg #[vI 5, vS [59], vU 0, vI 59], vI 1, vI 0]⟩,
  ⟨[strV (srcD0.drop 61), vI 61], 1577, 1580, [], [], [], .tuple #[.agg #[vI 1, vS [108, 101, 110], vU 0, vI 61], vI 3, vI 0]⟩,
  ⟨[strV (srcD0.drop 64), vI 64], 1583, 1585, [(0, rowSigns)], [], [], .tuple #[.agg #[vI 4, vS [40], vU 0, vI 64], vI 1, vI 0]⟩]
def oneD0_2 : List Run := [⟨[strV (srcD0.drop 65), vI 65], 1588, 1591, [], [], [], .tuple #[.agg #[vI 1, vS [120], vU 0, vI 65], vI 1, vI 0]⟩,
  ⟨[strV (srcD0.drop 66), vI 66], 1594, 1596, [(0, rowSigns)], [], [], .tuple #[.agg #[vI 4, vS [41], vU 0, vI 66], vI 1, vI 0]⟩,
  ⟨[strV (srcD0.drop 68), vI 68], 1599, 1601, [(0, rowSigns)], [], [], .tuple #[.agg #[vI 4, vS [125], vU 0, vI 68], vI 1, vI 0]⟩,
  ⟨[strV (srcD0.drop 70), vI 70], 1604, 1606, [(0, rowSigns)], [], [], .tuple #[.agg #[vI 4, vS [125], vU 0, vI 70], vI 1, vI 0]⟩]
def oneD0 : List Run := oneD0_0 ++ oneD0_1 ++ oneD0_2
def tokD0 : Run := ⟨[strV srcD0], 1441, 1613, [(0, rowSigns)], [(1612, .row [vI 3, vS [102, 117, 110, 99], vU 0, vI 0, vI 1, vS [102], vU 0, vI 5, vI 4, vS [40], vU 0, vI 6, vI 1, vS [110], vU 0, vI 7, vI 1, vS [105, 110, 116, 54, 52], vU 0, vI 9, vI 4, vS [41], vU 0, vI 14, vI 4, vS [123], vU 0, vI 16, vI 4, vS [125], vU 0, vI 18, vI 5, vS [], vU 0, vI 19, vI 3, vS [102, 117, 110, 99], vU 0, vI 20, vI 1, vS [109, 97, 105, 110], vU 0, vI 25, vI 4, vS [40], vU 0, vI 29, vI 4, vS [41], vU 0, vI 30, vI 4, vS [123], vU 0, vI 32, vI 3, vS [118, 97, 114], vU 0, vI 34, vI 1, vS [120], vU 0, vI 38, vI 4, vS [91], vU 0, vI 40, vI 4, vS [93], vU 0, vI 41, vI 1, vS [105, 110, 116, 54, 52], vU 0, vI 42, vI 5, vS [59], vU 0, vI 47, vI 4, vS [123], vU 0, vI 49, vI 1, vS [108, 101, 110], vU 0, vI 51, vI 4, vS [58, 61], vU 0, vI 55, vI 2, vS [49], vU 1, vI 58, vI 5, vS [59], vU 0, vI 59, vI 1, vS [108, 101, 110], vU 0, vI 61, vI 4, vS [40], vU 0, vI 64, vI 1, vS [120], vU 0, vI 65, vI 4, vS [41], vU 0, vI 66, vI 4, vS [125], vU 0, vI 68, vI 4, vS [125], vU 0, vI 70, vI 5, vS [], vU 0, vI 71] 74 4)], [], .tuple #[vL 1612 0 32 unk, vI 0, vI 0]⟩
def parD0 : Run := ⟨[strV srcD0], 1437, 2099, [(0, rowSigns), (4, rowOps)], [(1650, oD0_1650), (1652, oD0_1652), (1677, oD0_1677), (1741, oD0_1741), (1742, oD0_1742), (1812, oD0_1812), (1929, oD0_1929), (1944, oD0_1944), (1946, oD0_1946), (1953, oD0_1953), (1960, oD0_1960), (1962, oD0_1962)], [], .tuple #[nodeD0, vI 0, vI 0]⟩
def chkD0 : Run := ⟨[nodeD0], 2100, 2348, [(1650, oD0_1650), (1652, oD0_1652), (1677, oD0_1677), (1741, oD0_1741), (1742, oD0_1742), (1812, oD0_1812), (1929, oD0_1929), (1944, oD0_1944), (1946, oD0_1946), (1953, oD0_1953), (1960, oD0_1960), (1962, oD0_1962)], [], [], vI 0⟩
def prgD0 : Run := ⟨[nodeD0], 2099, 2533, [(1650, oD0_1650), (1652, oD0_1652), (1677, oD0_1677), (1741, oD0_1741), (1742, oD0_1742), (1812, oD0_1812), (1929, oD0_1929), (1944, oD0_1944), (1946, oD0_1946), (1953, oD0_1953), (1960, oD0_1960), (1962, oD0_1962)], [], [], .tuple #[vN, vI 64, vI 9]⟩
def souD0 : Run := ⟨[strV srcD0], 1436, 2533, [(0, rowSigns), (4, rowOps)], [], [], .tuple #[.agg #[vI 0, vS [], vU 0, vI 0, vN], vI 64, vI 9]⟩
theorem one_ED0_0 : ∀ ax axm, (oneD0_0.all fun r => okRun r (evCall Tryz.prog ((cfgH ax axm).tell []) 100000 39 r.args (rowsR r.rd) r.c0)) = true := fun _ _ => by kernel_rfl
theorem one_ED0_1 : ∀ ax axm, (oneD0_1.all fun r => okRun r (evCall Tryz.prog ((cfgH ax axm).tell []) 100000 39 r.args (rowsR r.rd) r.c0)) = true := fun _ _ => by kernel_rfl
theorem one_ED0_2 : ∀ ax axm, (oneD0_2.all fun r => okRun r (evCall Tryz.prog ((cfgH ax axm).tell []) 100000 39 r.args (rowsR r.rd) r.c0)) = true := fun _ _ => by kernel_rfl
theorem one_ED0 : ∀ ax axm, (oneD0.all fun r => okRun r (evCall Tryz.prog ((cfgH ax axm).tell []) 100000 39 r.args (rowsR r.rd) r.c0)) = true := fun ax axm => all_app (all_app (one_ED0_0 ax axm) (one_ED0_1 ax axm)) (one_ED0_2 ax axm)
theorem tok_ED0 : ∀ ax axm, okRun tokD0 (evCall Tryz.prog ((cfgH ax axm).tell [(39, oneD0)]) 100000 14 tokD0.args (rowsR tokD0.rd) tokD0.c0) = true := fun _ _ => by kernel_rfl
theorem par_ED0 : ∀ ax axm, okRun parD0 (evCall Tryz.prog ((cfgH ax axm).tell [(14, [tokD0])]) 100000 6 parD0.args (rowsR parD0.rd) parD0.c0) = true := fun _ _ => by kernel_rfl
theorem chk_ED0 : ∀ ax axm, okRun chkD0 (evCall Tryz.prog ((cfgH ax axm).tell []) 100000 10 chkD0.args (rowsR chkD0.rd) chkD0.c0) = true := fun _ _ => by kernel_rfl
theorem prg_ED0 : ∀ ax axm, okRun prgD0 (evCall Tryz.prog ((cfgH ax axm).tell [(10, [chkD0])]) 100000 7 prgD0.args (rowsR prgD0.rd) prgD0.c0) = true := fun _ _ => by kernel_rfl
theorem sou_ED0 : ∀ ax axm, okRun souD0 (evCall Tryz.prog ((cfgH ax axm).tell [(6, [parD0]), (7, [prgD0])]) 100000 4 souD0.args (rowsR souD0.rd) souD0.c0) = true := fun _ _ => by kernel_rfl
end Go.Proofs.YtakfgbedmglffaaGreatDoor
