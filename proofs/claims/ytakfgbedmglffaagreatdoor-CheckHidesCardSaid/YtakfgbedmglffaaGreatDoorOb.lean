/- The law CheckHides: the two sources of answers: what scanning, parsing and checking come to, piece by piece, by the evaluator. -/
import Derived.Test.YtakfgbedmglffaaGreatDoorOh
namespace Go.Proofs.YtakfgbedmglffaaGreatDoor
open Go.RowKit
open Ev
set_option linter.unusedSimpArgs false
set_option linter.unusedVariables false

def srcA : List UInt8 := [102, 117, 110, 99, 32, 109, 97, 105, 110, 40, 41, 32, 123, 32, 112, 114, 105, 110, 116, 40, 49, 32, 43, 32, 50, 41, 32, 125]
def oA_251 : AObj := .row [vI 31, vS [], vU 1, vI 20, vN, vI 31, vS [], vU 2, vI 24, vN] 26 5
def oA_262 : AObj := .row [vI 30, vS [112, 114, 105, 110, 116], vU 0, vI 14, vN, vI 33, vS [43], vU 0, vI 22, vL 251 0 2 2] 26 5
def oA_277 : AObj := .row [vI 34, vS [], vU 0, vI 19, vL 262 0 2 unk] 26 5
def oA_279 : AObj := .row [vI 24, vS [], vU 0, vI 14, vL 277 0 1 1] 26 5
def oA_286 : AObj := .row [vI 4, vS [], vU 0, vI 9, vN, vI 6, vS [], vU 0, vI 9, vN, vI 7, vS [], vU 0, vI 12, vN, vI 20, vS [], vU 0, vI 12, vL 279 0 1 unk] 26 5
def oA_288 : AObj := .row [vI 3, vS [109, 97, 105, 110], vU 0, vI 0, vL 286 0 4 unk] 26 5
def nodeA : Value := .agg #[vI 1, vS [], vU 0, vI 0, vL 288 0 1 unk]
def oneA_0 : List Run := [⟨[strV (srcA.drop 0), vI 0], 20, 23, [], [], [], .tuple #[.agg #[vI 3, vS [102, 117, 110, 99], vU 0, vI 0], vI 4, vI 0]⟩,
  ⟨[strV (srcA.drop 5), vI 5], 26, 29, [], [], [], .tuple #[.agg #[vI 1, vS [109, 97, 105, 110], vU 0, vI 5], vI 4, vI 0]⟩,
  ⟨[strV (srcA.drop 9), vI 9], 32, 34, [(0, rowSigns)], [], [], .tuple #[.agg #[vI 4, vS [40], vU 0, vI 9], vI 1, vI 0]⟩,
  ⟨[strV (srcA.drop 10), vI 10], 37, 39, [(0, rowSigns)], [], [], .tuple #[.agg #[vI 4, vS [41], vU 0, vI 10], vI 1, vI 0]⟩,
  ⟨[strV (srcA.drop 12), vI 12], 42, 44, [(0, rowSigns)], [], [], .tuple #[.agg #[vI 4, vS [123], vU 0, vI 12], vI 1, vI 0]⟩,
  ⟨[strV (srcA.drop 14), vI 14], 47, 50, [], [], [], .tuple #[.agg #[vI 1, vS [112, 114, 105, 110, 116], vU 0, vI 14], vI 5, vI 0]⟩,
  ⟨[strV (srcA.drop 19), vI 19], 53, 55, [(0, rowSigns)], [], [], .tuple #[.agg #[vI 4, vS [40], vU 0, vI 19], vI 1, vI 0]⟩,
  ⟨[strV (srcA.drop 20), vI 20], 58, 62, [], [], [], .tuple #[.agg #[vI 2, vS [49], vU 1, vI 20], vI 1, vI 0]⟩,
  ⟨[strV (srcA.drop 22), vI 22], 65, 67, [(0, rowSigns)], [], [], .tuple #[.agg #[vI 4, vS [43], vU 0, vI 22], vI 1, vI 0]⟩,
  ⟨[strV (srcA.drop 24), vI 24], 70, 74, [], [], [], .tuple #[.agg #[vI 2, vS [50], vU 2, vI 24], vI 1, vI 0]⟩,
  ⟨[strV (srcA.drop 25), vI 25], 77, 79, [(0, rowSigns)], [], [], .tuple #[.agg #[vI 4, vS [41], vU 0, vI 25], vI 1, vI 0]⟩,
  ⟨[strV (srcA.drop 27), vI 27], 82, 84, [(0, rowSigns)], [], [], .tuple #[.agg #[vI 4, vS [125], vU 0, vI 27], vI 1, vI 0]⟩]
def oneA : List Run := oneA_0
def tokA : Run := ⟨[strV srcA], 20, 91, [(0, rowSigns)], [(90, .row [vI 3, vS [102, 117, 110, 99], vU 0, vI 0, vI 1, vS [109, 97, 105, 110], vU 0, vI 5, vI 4, vS [40], vU 0, vI 9, vI 4, vS [41], vU 0, vI 10, vI 4, vS [123], vU 0, vI 12, vI 1, vS [112, 114, 105, 110, 116], vU 0, vI 14, vI 4, vS [40], vU 0, vI 19, vI 2, vS [49], vU 1, vI 20, vI 4, vS [43], vU 0, vI 22, vI 2, vS [50], vU 2, vI 24, vI 4, vS [41], vU 0, vI 25, vI 4, vS [125], vU 0, vI 27, vI 5, vS [], vU 0, vI 28] 74 4)], [], .tuple #[vL 90 0 13 unk, vI 0, vI 0]⟩
def parA : Run := ⟨[strV srcA], 16, 359, [(0, rowSigns), (4, rowOps)], [(251, oA_251), (262, oA_262), (277, oA_277), (279, oA_279), (286, oA_286), (288, oA_288)], [], .tuple #[nodeA, vI 0, vI 0]⟩
def chkA : Run := ⟨[nodeA], 360, 484, [(4, rowOps), (251, oA_251), (262, oA_262), (277, oA_277), (279, oA_279), (286, oA_286), (288, oA_288)], [], [], vI 0⟩
def prgA : Run := ⟨[nodeA], 359, 558, [(4, rowOps), (251, oA_251), (262, oA_262), (277, oA_277), (279, oA_279), (286, oA_286), (288, oA_288)], [], [], .tuple #[vL 557 0 1 unk, vI 0, vI 0]⟩
def souA : Run := ⟨[strV srcA], 15, 558, [(0, rowSigns), (4, rowOps)], [], [], .tuple #[.agg #[vI 1, vS [], vU 0, vI 0, vL 288 0 1 unk], vI 0, vI 0]⟩
theorem one_EA_0 : ∀ ax axm, (oneA_0.all fun r => okRun r (evCall Tryz.prog ((cfgO ax axm).tell []) 100000 39 r.args (rowsR r.rd) r.c0)) = true := fun _ _ => by kernel_rfl
theorem one_EA : ∀ ax axm, (oneA.all fun r => okRun r (evCall Tryz.prog ((cfgO ax axm).tell []) 100000 39 r.args (rowsR r.rd) r.c0)) = true := fun ax axm => one_EA_0 ax axm
theorem tok_EA : ∀ ax axm, okRun tokA (evCall Tryz.prog ((cfgO ax axm).tell [(39, oneA)]) 100000 14 tokA.args (rowsR tokA.rd) tokA.c0) = true := fun _ _ => by kernel_rfl
theorem par_EA : ∀ ax axm, okRun parA (evCall Tryz.prog ((cfgO ax axm).tell [(14, [tokA])]) 100000 6 parA.args (rowsR parA.rd) parA.c0) = true := fun _ _ => by kernel_rfl
theorem chk_EA : ∀ ax axm, okRun chkA (evCall Tryz.prog ((cfgO ax axm).tell []) 100000 10 chkA.args (rowsR chkA.rd) chkA.c0) = true := fun _ _ => by kernel_rfl
theorem prg_EA : ∀ ax axm, okRun prgA (evCall Tryz.prog ((cfgO ax axm).tell [(10, [chkA])]) 100000 7 prgA.args (rowsR prgA.rd) prgA.c0) = true := fun _ _ => by kernel_rfl
theorem sou_EA : ∀ ax axm, okRun souA (evCall Tryz.prog ((cfgO ax axm).tell [(6, [parA]), (7, [prgA])]) 100000 4 souA.args (rowsR souA.rd) souA.c0) = true := fun _ _ => by kernel_rfl
def srcB : List UInt8 := [102, 117, 110, 99, 32, 109, 97, 105, 110, 40, 41, 32, 123, 32, 112, 114, 105, 110, 116, 40, 120, 41, 32, 125]
def oB_775 : AObj := .row [vI 30, vS [112, 114, 105, 110, 116], vU 0, vI 14, vN, vI 30, vS [120], vU 0, vI 20, vN] 26 5
def oB_790 : AObj := .row [vI 34, vS [], vU 0, vI 19, vL 775 0 2 unk] 26 5
def oB_792 : AObj := .row [vI 24, vS [], vU 0, vI 14, vL 790 0 1 1] 26 5
def oB_799 : AObj := .row [vI 4, vS [], vU 0, vI 9, vN, vI 6, vS [], vU 0, vI 9, vN, vI 7, vS [], vU 0, vI 12, vN, vI 20, vS [], vU 0, vI 12, vL 792 0 1 unk] 26 5
def oB_801 : AObj := .row [vI 3, vS [109, 97, 105, 110], vU 0, vI 0, vL 799 0 4 unk] 26 5
def nodeB : Value := .agg #[vI 1, vS [], vU 0, vI 0, vL 801 0 1 unk]
def oneB_0 : List Run := [⟨[strV (srcB.drop 0), vI 0], 564, 567, [], [], [], .tuple #[.agg #[vI 3, vS [102, 117, 110, 99], vU 0, vI 0], vI 4, vI 0]⟩,
  ⟨[strV (srcB.drop 5), vI 5], 570, 573, [], [], [], .tuple #[.agg #[vI 1, vS [109, 97, 105, 110], vU 0, vI 5], vI 4, vI 0]⟩,
  ⟨[strV (srcB.drop 9), vI 9], 576, 578, [(0, rowSigns)], [], [], .tuple #[.agg #[vI 4, vS [40], vU 0, vI 9], vI 1, vI 0]⟩,
  ⟨[strV (srcB.drop 10), vI 10], 581, 583, [(0, rowSigns)], [], [], .tuple #[.agg #[vI 4, vS [41], vU 0, vI 10], vI 1, vI 0]⟩,
  ⟨[strV (srcB.drop 12), vI 12], 586, 588, [(0, rowSigns)], [], [], .tuple #[.agg #[vI 4, vS [123], vU 0, vI 12], vI 1, vI 0]⟩,
  ⟨[strV (srcB.drop 14), vI 14], 591, 594, [], [], [], .tuple #[.agg #[vI 1, vS [112, 114, 105, 110, 116], vU 0, vI 14], vI 5, vI 0]⟩,
  ⟨[strV (srcB.drop 19), vI 19], 597, 599, [(0, rowSigns)], [], [], .tuple #[.agg #[vI 4, vS [40], vU 0, vI 19], vI 1, vI 0]⟩,
  ⟨[strV (srcB.drop 20), vI 20], 602, 605, [], [], [], .tuple #[.agg #[vI 1, vS [120], vU 0, vI 20], vI 1, vI 0]⟩,
  ⟨[strV (srcB.drop 21), vI 21], 608, 610, [(0, rowSigns)], [], [], .tuple #[.agg #[vI 4, vS [41], vU 0, vI 21], vI 1, vI 0]⟩,
  ⟨[strV (srcB.drop 23), vI 23], 613, 615, [(0, rowSigns)], [], [], .tuple #[.agg #[vI 4, vS [125], vU 0, vI 23], vI 1, vI 0]⟩]
def oneB : List Run := oneB_0
def tokB : Run := ⟨[strV srcB], 564, 622, [(0, rowSigns)], [(621, .row [vI 3, vS [102, 117, 110, 99], vU 0, vI 0, vI 1, vS [109, 97, 105, 110], vU 0, vI 5, vI 4, vS [40], vU 0, vI 9, vI 4, vS [41], vU 0, vI 10, vI 4, vS [123], vU 0, vI 12, vI 1, vS [112, 114, 105, 110, 116], vU 0, vI 14, vI 4, vS [40], vU 0, vI 19, vI 1, vS [120], vU 0, vI 20, vI 4, vS [41], vU 0, vI 21, vI 4, vS [125], vU 0, vI 23, vI 5, vS [], vU 0, vI 24] 74 4)], [], .tuple #[vL 621 0 11 unk, vI 0, vI 0]⟩
def parB : Run := ⟨[strV srcB], 560, 860, [(0, rowSigns), (4, rowOps)], [(775, oB_775), (790, oB_790), (792, oB_792), (799, oB_799), (801, oB_801)], [], .tuple #[nodeB, vI 0, vI 0]⟩
def chkB : Run := ⟨[nodeB], 861, 967, [(775, oB_775), (790, oB_790), (792, oB_792), (799, oB_799), (801, oB_801)], [], [], vI 0⟩
def prgB : Run := ⟨[nodeB], 860, 1020, [(775, oB_775), (790, oB_790), (792, oB_792), (799, oB_799), (801, oB_801)], [], [], .tuple #[vN, vI 20, vI 7]⟩
def souB : Run := ⟨[strV srcB], 559, 1020, [(0, rowSigns), (4, rowOps)], [], [], .tuple #[.agg #[vI 0, vS [], vU 0, vI 0, vN], vI 20, vI 7]⟩
theorem one_EB_0 : ∀ ax axm, (oneB_0.all fun r => okRun r (evCall Tryz.prog ((cfgO ax axm).tell []) 100000 39 r.args (rowsR r.rd) r.c0)) = true := fun _ _ => by kernel_rfl
theorem one_EB : ∀ ax axm, (oneB.all fun r => okRun r (evCall Tryz.prog ((cfgO ax axm).tell []) 100000 39 r.args (rowsR r.rd) r.c0)) = true := fun ax axm => one_EB_0 ax axm
theorem tok_EB : ∀ ax axm, okRun tokB (evCall Tryz.prog ((cfgO ax axm).tell [(39, oneB)]) 100000 14 tokB.args (rowsR tokB.rd) tokB.c0) = true := fun _ _ => by kernel_rfl
theorem par_EB : ∀ ax axm, okRun parB (evCall Tryz.prog ((cfgO ax axm).tell [(14, [tokB])]) 100000 6 parB.args (rowsR parB.rd) parB.c0) = true := fun _ _ => by kernel_rfl
theorem chk_EB : ∀ ax axm, okRun chkB (evCall Tryz.prog ((cfgO ax axm).tell []) 100000 10 chkB.args (rowsR chkB.rd) chkB.c0) = true := fun _ _ => by kernel_rfl
theorem prg_EB : ∀ ax axm, okRun prgB (evCall Tryz.prog ((cfgO ax axm).tell [(10, [chkB])]) 100000 7 prgB.args (rowsR prgB.rd) prgB.c0) = true := fun _ _ => by kernel_rfl
theorem sou_EB : ∀ ax axm, okRun souB (evCall Tryz.prog ((cfgO ax axm).tell [(6, [parB]), (7, [prgB])]) 100000 4 souB.args (rowsR souB.rd) souB.c0) = true := fun _ _ => by kernel_rfl
end Go.Proofs.YtakfgbedmglffaaGreatDoor
