/- The law CheckHides: the two sources of case 3: what scanning, parsing and checking come to, piece by piece, by the evaluator. -/
import Derived.Test.YtakfgbedmglffaaGreatDoorOh
namespace Go.Proofs.YtakfgbedmglffaaGreatDoor
open Go.RowKit
open Ev
set_option linter.unusedSimpArgs false
set_option linter.unusedVariables false

def srcC3 : List UInt8 := [102, 117, 110, 99, 32, 102, 40, 110, 32, 105, 110, 116, 54, 52, 41, 32, 123, 32, 125, 10, 102, 117, 110, 99, 32, 109, 97, 105, 110, 40, 41, 32, 123, 32, 118, 97, 114, 32, 120, 32, 91, 93, 105, 110, 116, 54, 52, 59, 32, 123, 32, 114, 101, 99, 111, 118, 101, 114, 32, 58, 61, 32, 49, 59, 32, 114, 101, 99, 111, 118, 101, 114, 32, 61, 32, 114, 101, 99, 111, 118, 101, 114, 32, 43, 32, 49, 32, 125, 59, 32, 114, 101, 99, 111, 118, 101, 114, 40, 41, 32, 125]
def oC3_258 : AObj := .row [vI 10, vS [105, 110, 116, 54, 52], vU 0, vI 9, vN] 26 5
def oC3_260 : AObj := .row [vI 5, vS [110], vU 0, vI 7, vL 258 0 1 1] 26 5
def oC3_285 : AObj := .row [vI 4, vS [], vU 0, vI 6, vN, vI 6, vS [], vU 0, vI 6, vL 260 0 1 unk, vI 7, vS [], vU 0, vI 16, vN, vI 20, vS [], vU 0, vI 16, vN] 26 5
def oC3_349 : AObj := .row [vI 10, vS [105, 110, 116, 54, 52], vU 0, vI 42, vN] 26 5
def oC3_350 : AObj := .row [vI 11, vS [], vU 0, vI 40, vL 349 0 1 1] 26 5
def oC3_420 : AObj := .row [vI 31, vS [], vU 1, vI 62, vN] 26 5
def oC3_557 : AObj := .row [vI 30, vS [114, 101, 99, 111, 118, 101, 114], vU 0, vI 75, vN, vI 31, vS [], vU 1, vI 85, vN] 26 5
def oC3_561 : AObj := .row [vI 30, vS [114, 101, 99, 111, 118, 101, 114], vU 0, vI 65, vN, vI 33, vS [43], vU 0, vI 83, vL 557 0 2 2] 26 5
def oC3_563 : AObj := .row [vI 21, vS [114, 101, 99, 111, 118, 101, 114], vU 0, vI 51, vL 420 0 1 1, vI 23, vS [], vU 0, vI 65, vL 561 0 2 2] 26 5
def oC3_629 : AObj := .row [vI 30, vS [114, 101, 99, 111, 118, 101, 114], vU 0, vI 90, vN] 26 5
def oC3_651 : AObj := .row [vI 34, vS [], vU 0, vI 97, vL 629 0 1 1] 26 5
def oC3_653 : AObj := .row [vI 22, vS [120], vU 0, vI 34, vL 350 0 1 1, vI 20, vS [], vU 0, vI 49, vL 563 0 2 unk, vI 24, vS [], vU 0, vI 90, vL 651 0 1 1] 26 5
def oC3_660 : AObj := .row [vI 4, vS [], vU 0, vI 29, vN, vI 6, vS [], vU 0, vI 29, vN, vI 7, vS [], vU 0, vI 32, vN, vI 20, vS [], vU 0, vI 32, vL 653 0 3 unk] 26 5
def oC3_662 : AObj := .row [vI 3, vS [102], vU 0, vI 0, vL 285 0 4 unk, vI 3, vS [109, 97, 105, 110], vU 0, vI 20, vL 660 0 4 unk] 26 5
def nodeC3 : Value := .agg #[vI 1, vS [], vU 0, vI 0, vL 662 0 2 unk]
def oneC3_0 : List Run := [⟨[strV (srcC3.drop 0), vI 0], 21, 24, [], [], [], .tuple #[.agg #[vI 3, vS [102, 117, 110, 99], vU 0, vI 0], vI 4, vI 0]⟩,
  ⟨[strV (srcC3.drop 5), vI 5], 27, 30, [], [], [], .tuple #[.agg #[vI 1, vS [102], vU 0, vI 5], vI 1, vI 0]⟩,
  ⟨[strV (srcC3.drop 6), vI 6], 33, 35, [(0, rowSigns)], [], [], .tuple #[.agg #[vI 4, vS [40], vU 0, vI 6], vI 1, vI 0]⟩,
  ⟨[strV (srcC3.drop 7), vI 7], 38, 41, [], [], [], .tuple #[.agg #[vI 1, vS [110], vU 0, vI 7], vI 1, vI 0]⟩,
  ⟨[strV (srcC3.drop 9), vI 9], 44, 47, [], [], [], .tuple #[.agg #[vI 1, vS [105, 110, 116, 54, 52], vU 0, vI 9], vI 5, vI 0]⟩,
  ⟨[strV (srcC3.drop 14), vI 14], 50, 52, [(0, rowSigns)], [], [], .tuple #[.agg #[vI 4, vS [41], vU 0, vI 14], vI 1, vI 0]⟩,
  ⟨[strV (srcC3.drop 16), vI 16], 55, 57, [(0, rowSigns)], [], [], .tuple #[.agg #[vI 4, vS [123], vU 0, vI 16], vI 1, vI 0]⟩,
  ⟨[strV (srcC3.drop 18), vI 18], 60, 62, [(0, rowSigns)], [], [], .tuple #[.agg #[vI 4, vS [125], vU 0, vI 18], vI 1, vI 0]⟩,
  ⟨[strV (srcC3.drop 20), vI 20], 69, 72, [], [], [], .tuple #[.agg #[vI 3, vS [102, 117, 110, 99], vU 0, vI 20], vI 4, vI 0]⟩,
  ⟨[strV (srcC3.drop 25), vI 25], 75, 78, [], [], [], .tuple #[.agg #[vI 1, vS [109, 97, 105, 110], vU 0, vI 25], vI 4, vI 0]⟩,
  ⟨[strV (srcC3.drop 29), vI 29], 81, 83, [(0, rowSigns)], [], [], .tuple #[.agg #[vI 4, vS [40], vU 0, vI 29], vI 1, vI 0]⟩,
  ⟨[strV (srcC3.drop 30), vI 30], 86, 88, [(0, rowSigns)], [], [], .tuple #[.agg #[vI 4, vS [41], vU 0, vI 30], vI 1, vI 0]⟩,
  ⟨[strV (srcC3.drop 32), vI 32], 91, 93, [(0, rowSigns)], [], [], .tuple #[.agg #[vI 4, vS [123], vU 0, vI 32], vI 1, vI 0]⟩]
def oneC3_1 : List Run := [⟨[strV (srcC3.drop 34), vI 34], 96, 99, [], [], [], .tuple #[.agg #[vI 3, vS [118, 97, 114], vU 0, vI 34], vI 3, vI 0]⟩,
  ⟨[strV (srcC3.drop 38), vI 38], 102, 105, [], [], [], .tuple #[.agg #[vI 1, vS [120], vU 0, vI 38], vI 1, vI 0]⟩,
  ⟨[strV (srcC3.drop 40), vI 40], 108, 110, [(0, rowSigns)], [], [], .tuple #[.agg #[vI 4, vS [91], vU 0, vI 40], vI 1, vI 0]⟩,
  ⟨[strV (srcC3.drop 41), vI 41], 113, 115, [(0, rowSigns)], [], [], .tuple #[.agg #[vI 4, vS [93], vU 0, vI 41], vI 1, vI 0]⟩,
  ⟨[strV (srcC3.drop 42), vI 42], 118, 121, [], [], [], .tuple #[.agg #[vI 1, vS [105, 110, 116, 54, 52], vU 0, vI 42], vI 5, vI 0]⟩,
  ⟨[strV (srcC3.drop 47), vI 47], 124, 126, [(0, rowSigns)], [], [], .tuple #[.agg #[vI 5, vS [59], vU 0, vI 47], vI 1, vI 0]⟩,
  ⟨[strV (srcC3.drop 49), vI 49], 129, 131, [(0, rowSigns)], [], [], .tuple #[.agg #[vI 4, vS [123], vU 0, vI 49], vI 1, vI 0]⟩,
  ⟨[strV (srcC3.drop 51), vI 51], 134, 137, [], [], [], .tuple #[.agg #[vI 1, vS [114, 101, 99, 111, 118, 101, 114], vU 0, vI 51], vI 7, vI 0]⟩,
  ⟨[strV (srcC3.drop 59), vI 59], 140, 142, [(0, rowSigns)], [], [], .tuple #[.agg #[vI 4, vS [58, 61], vU 0, vI 59], vI 2, vI 0]⟩,
  ⟨[strV (srcC3.drop 62), vI 62], 145, 149, [], [], [], .tuple #[.agg #[vI 2, vS [49], vU 1, vI 62], vI 1, vI 0]⟩,
  ⟨[strV (srcC3.drop 63), vI 63], 152, 154, [(0, rowSigns)], [], [], .tuple #[.agg #[vI 5, vS [59], vU 0, vI 63], vI 1, vI 0]⟩,
  ⟨[strV (srcC3.drop 65), vI 65], 157, 160, [], [], [], .tuple #[.agg #[vI 1, vS [114, 101, 99, 111, 118, 101, 114], vU 0, vI 65], vI 7, vI 0]⟩,
  ⟨[strV (srcC3.drop 73), vI 73], 163, 165, [(0, rowSigns)], [], [], .tuple #[.agg #[vI 4, vS [61], vU 0, vI 73], vI 1, vI 0]⟩]
def oneC3_2 : List Run := [⟨[strV (srcC3.drop 75), vI 75], 168, 171, [], [], [], .tuple #[.agg #[vI 1, vS [114, 101, 99, 111, 118, 101, 114], vU 0, vI 75], vI 7, vI 0]⟩,
  ⟨[strV (srcC3.drop 83), vI 83], 174, 176, [(0, rowSigns)], [], [], .tuple #[.agg #[vI 4, vS [43], vU 0, vI 83], vI 1, vI 0]⟩,
  ⟨[strV (srcC3.drop 85), vI 85], 179, 183, [], [], [], .tuple #[.agg #[vI 2, vS [49], vU 1, vI 85], vI 1, vI 0]⟩,
  ⟨[strV (srcC3.drop 87), vI 87], 186, 188, [(0, rowSigns)], [], [], .tuple #[.agg #[vI 4, vS [125], vU 0, vI 87], vI 1, vI 0]⟩,
  ⟨[strV (srcC3.drop 88), vI 88], 191, 193, [(0, rowSigns)], [], [], .tuple #[.agg #[vI 5, vS [59], vU 0, vI 88], vI 1, vI 0]⟩,
  ⟨[strV (srcC3.drop 90), vI 90], 196, 199, [], [], [], .tuple #[.agg #[vI 1, vS [114, 101, 99, 111, 118, 101, 114], vU 0, vI 90], vI 7, vI 0]⟩,
  ⟨[strV (srcC3.drop 97), vI 97], 202, 204, [(0, rowSigns)], [], [], .tuple #[.agg #[vI 4, vS [40], vU 0, vI 97], vI 1, vI 0]⟩,
  ⟨[strV (srcC3.drop 98), vI 98], 207, 209, [(0, rowSigns)], [], [], .tuple #[.agg #[vI 4, vS [41], vU 0, vI 98], vI 1, vI 0]⟩,
  ⟨[strV (srcC3.drop 100), vI 100], 212, 214, [(0, rowSigns)], [], [], .tuple #[.agg #[vI 4, vS [125], vU 0, vI 100], vI 1, vI 0]⟩]
def oneC3 : List Run := oneC3_0 ++ oneC3_1 ++ oneC3_2
def tokC3 : Run := ⟨[strV srcC3], 21, 221, [(0, rowSigns)], [(220, .row [vI 3, vS [102, 117, 110, 99], vU 0, vI 0, vI 1, vS [102], vU 0, vI 5, vI 4, vS [40], vU 0, vI 6, vI 1, vS [110], vU 0, vI 7, vI 1, vS [105, 110, 116, 54, 52], vU 0, vI 9, vI 4, vS [41], vU 0, vI 14, vI 4, vS [123], vU 0, vI 16, vI 4, vS [125], vU 0, vI 18, vI 5, vS [], vU 0, vI 19, vI 3, vS [102, 117, 110, 99], vU 0, vI 20, vI 1, vS [109, 97, 105, 110], vU 0, vI 25, vI 4, vS [40], vU 0, vI 29, vI 4, vS [41], vU 0, vI 30, vI 4, vS [123], vU 0, vI 32, vI 3, vS [118, 97, 114], vU 0, vI 34, vI 1, vS [120], vU 0, vI 38, vI 4, vS [91], vU 0, vI 40, vI 4, vS [93], vU 0, vI 41, vI 1, vS [105, 110, 116, 54, 52], vU 0, vI 42, vI 5, vS [59], vU 0, vI 47, vI 4, vS [123], vU 0, vI 49, vI 1, vS [114, 101, 99, 111, 118, 101, 114], vU 0, vI 51, vI 4, vS [58, 61], vU 0, vI 59, vI 2, vS [49], vU 1, vI 62, vI 5, vS [59], vU 0, vI 63, vI 1, vS [114, 101, 99, 111, 118, 101, 114], vU 0, vI 65, vI 4, vS [61], vU 0, vI 73, vI 1, vS [114, 101, 99, 111, 118, 101, 114], vU 0, vI 75, vI 4, vS [43], vU 0, vI 83, vI 2, vS [49], vU 1, vI 85, vI 4, vS [125], vU 0, vI 87, vI 5, vS [59], vU 0, vI 88, vI 1, vS [114, 101, 99, 111, 118, 101, 114], vU 0, vI 90, vI 4, vS [40], vU 0, vI 97, vI 4, vS [41], vU 0, vI 98, vI 4, vS [125], vU 0, vI 100, vI 5, vS [], vU 0, vI 101] 74 4)], [], .tuple #[vL 220 0 37 unk, vI 0, vI 0]⟩
def parC3 : Run := ⟨[strV srcC3], 17, 823, [(0, rowSigns), (4, rowOps)], [(258, oC3_258), (260, oC3_260), (285, oC3_285), (349, oC3_349), (350, oC3_350), (420, oC3_420), (557, oC3_557), (561, oC3_561), (563, oC3_563), (629, oC3_629), (651, oC3_651), (653, oC3_653), (660, oC3_660), (662, oC3_662)], [], .tuple #[nodeC3, vI 0, vI 0]⟩
def chkC3 : Run := ⟨[nodeC3], 824, 1114, [(4, rowOps), (258, oC3_258), (260, oC3_260), (285, oC3_285), (349, oC3_349), (350, oC3_350), (420, oC3_420), (557, oC3_557), (561, oC3_561), (563, oC3_563), (629, oC3_629), (651, oC3_651), (653, oC3_653), (660, oC3_660), (662, oC3_662)], [], [], vI 0⟩
def prgC3 : Run := ⟨[nodeC3], 823, 1358, [(4, rowOps), (258, oC3_258), (260, oC3_260), (285, oC3_285), (349, oC3_349), (350, oC3_350), (420, oC3_420), (557, oC3_557), (561, oC3_561), (563, oC3_563), (629, oC3_629), (651, oC3_651), (653, oC3_653), (660, oC3_660), (662, oC3_662)], [], [], .tuple #[vL 1357 0 2 unk, vI 0, vI 0]⟩
def souC3 : Run := ⟨[strV srcC3], 16, 1358, [(0, rowSigns), (4, rowOps)], [], [], .tuple #[.agg #[vI 1, vS [], vU 0, vI 0, vL 662 0 2 unk], vI 0, vI 0]⟩
theorem one_EC3_0 : ∀ ax axm, (oneC3_0.all fun r => okRun r (evCall Tryz.prog ((cfgH ax axm).tell []) 100000 39 r.args (rowsR r.rd) r.c0)) = true := fun _ _ => by kernel_rfl
theorem one_EC3_1 : ∀ ax axm, (oneC3_1.all fun r => okRun r (evCall Tryz.prog ((cfgH ax axm).tell []) 100000 39 r.args (rowsR r.rd) r.c0)) = true := fun _ _ => by kernel_rfl
theorem one_EC3_2 : ∀ ax axm, (oneC3_2.all fun r => okRun r (evCall Tryz.prog ((cfgH ax axm).tell []) 100000 39 r.args (rowsR r.rd) r.c0)) = true := fun _ _ => by kernel_rfl
theorem one_EC3 : ∀ ax axm, (oneC3.all fun r => okRun r (evCall Tryz.prog ((cfgH ax axm).tell []) 100000 39 r.args (rowsR r.rd) r.c0)) = true := fun ax axm => all_app (all_app (one_EC3_0 ax axm) (one_EC3_1 ax axm)) (one_EC3_2 ax axm)
theorem tok_EC3 : ∀ ax axm, okRun tokC3 (evCall Tryz.prog ((cfgH ax axm).tell [(39, oneC3)]) 100000 14 tokC3.args (rowsR tokC3.rd) tokC3.c0) = true := fun _ _ => by kernel_rfl
theorem par_EC3 : ∀ ax axm, okRun parC3 (evCall Tryz.prog ((cfgH ax axm).tell [(14, [tokC3])]) 100000 6 parC3.args (rowsR parC3.rd) parC3.c0) = true := fun _ _ => by kernel_rfl
theorem chk_EC3 : ∀ ax axm, okRun chkC3 (evCall Tryz.prog ((cfgH ax axm).tell []) 100000 10 chkC3.args (rowsR chkC3.rd) chkC3.c0) = true := fun _ _ => by kernel_rfl
theorem prg_EC3 : ∀ ax axm, okRun prgC3 (evCall Tryz.prog ((cfgH ax axm).tell [(10, [chkC3])]) 100000 7 prgC3.args (rowsR prgC3.rd) prgC3.c0) = true := fun _ _ => by kernel_rfl
theorem sou_EC3 : ∀ ax axm, okRun souC3 (evCall Tryz.prog ((cfgH ax axm).tell [(6, [parC3]), (7, [prgC3])]) 100000 4 souC3.args (rowsR souC3.rd) souC3.c0) = true := fun _ _ => by kernel_rfl
def srcD3 : List UInt8 := [102, 117, 110, 99, 32, 102, 40, 110, 32, 105, 110, 116, 54, 52, 41, 32, 123, 32, 125, 10, 102, 117, 110, 99, 32, 109, 97, 105, 110, 40, 41, 32, 123, 32, 118, 97, 114, 32, 120, 32, 91, 93, 105, 110, 116, 54, 52, 59, 32, 123, 32, 114, 101, 99, 111, 118, 101, 114, 32, 58, 61, 32, 49, 59, 32, 114, 101, 99, 111, 118, 101, 114, 40, 41, 32, 125, 32, 125]
def oD3_1567 : AObj := .row [vI 10, vS [105, 110, 116, 54, 52], vU 0, vI 9, vN] 26 5
def oD3_1569 : AObj := .row [vI 5, vS [110], vU 0, vI 7, vL 1567 0 1 1] 26 5
def oD3_1594 : AObj := .row [vI 4, vS [], vU 0, vI 6, vN, vI 6, vS [], vU 0, vI 6, vL 1569 0 1 unk, vI 7, vS [], vU 0, vI 16, vN, vI 20, vS [], vU 0, vI 16, vN] 26 5
def oD3_1658 : AObj := .row [vI 10, vS [105, 110, 116, 54, 52], vU 0, vI 42, vN] 26 5
def oD3_1659 : AObj := .row [vI 11, vS [], vU 0, vI 40, vL 1658 0 1 1] 26 5
def oD3_1729 : AObj := .row [vI 31, vS [], vU 1, vI 62, vN] 26 5
def oD3_1790 : AObj := .row [vI 30, vS [114, 101, 99, 111, 118, 101, 114], vU 0, vI 65, vN] 26 5
def oD3_1812 : AObj := .row [vI 34, vS [], vU 0, vI 72, vL 1790 0 1 1] 26 5
def oD3_1814 : AObj := .row [vI 21, vS [114, 101, 99, 111, 118, 101, 114], vU 0, vI 51, vL 1729 0 1 1, vI 24, vS [], vU 0, vI 65, vL 1812 0 1 1] 26 5
def oD3_1821 : AObj := .row [vI 22, vS [120], vU 0, vI 34, vL 1659 0 1 1, vI 20, vS [], vU 0, vI 49, vL 1814 0 2 unk] 26 5
def oD3_1828 : AObj := .row [vI 4, vS [], vU 0, vI 29, vN, vI 6, vS [], vU 0, vI 29, vN, vI 7, vS [], vU 0, vI 32, vN, vI 20, vS [], vU 0, vI 32, vL 1821 0 2 unk] 26 5
def oD3_1830 : AObj := .row [vI 3, vS [102], vU 0, vI 0, vL 1594 0 4 unk, vI 3, vS [109, 97, 105, 110], vU 0, vI 20, vL 1828 0 4 unk] 26 5
def nodeD3 : Value := .agg #[vI 1, vS [], vU 0, vI 0, vL 1830 0 2 unk]
def oneD3_0 : List Run := [⟨[strV (srcD3.drop 0), vI 0], 1364, 1367, [], [], [], .tuple #[.agg #[vI 3, vS [102, 117, 110, 99], vU 0, vI 0], vI 4, vI 0]⟩,
  ⟨[strV (srcD3.drop 5), vI 5], 1370, 1373, [], [], [], .tuple #[.agg #[vI 1, vS [102], vU 0, vI 5], vI 1, vI 0]⟩,
  ⟨[strV (srcD3.drop 6), vI 6], 1376, 1378, [(0, rowSigns)], [], [], .tuple #[.agg #[vI 4, vS [40], vU 0, vI 6], vI 1, vI 0]⟩,
  ⟨[strV (srcD3.drop 7), vI 7], 1381, 1384, [], [], [], .tuple #[.agg #[vI 1, vS [110], vU 0, vI 7], vI 1, vI 0]⟩,
  ⟨[strV (srcD3.drop 9), vI 9], 1387, 1390, [], [], [], .tuple #[.agg #[vI 1, vS [105, 110, 116, 54, 52], vU 0, vI 9], vI 5, vI 0]⟩,
  ⟨[strV (srcD3.drop 14), vI 14], 1393, 1395, [(0, rowSigns)], [], [], .tuple #[.agg #[vI 4, vS [41], vU 0, vI 14], vI 1, vI 0]⟩,
  ⟨[strV (srcD3.drop 16), vI 16], 1398, 1400, [(0, rowSigns)], [], [], .tuple #[.agg #[vI 4, vS [123], vU 0, vI 16], vI 1, vI 0]⟩,
  ⟨[strV (srcD3.drop 18), vI 18], 1403, 1405, [(0, rowSigns)], [], [], .tuple #[.agg #[vI 4, vS [125], vU 0, vI 18], vI 1, vI 0]⟩,
  ⟨[strV (srcD3.drop 20), vI 20], 1412, 1415, [], [], [], .tuple #[.agg #[vI 3, vS [102, 117, 110, 99], vU 0, vI 20], vI 4, vI 0]⟩,
  ⟨[strV (srcD3.drop 25), vI 25], 1418, 1421, [], [], [], .tuple #[.agg #[vI 1, vS [109, 97, 105, 110], vU 0, vI 25], vI 4, vI 0]⟩,
  ⟨[strV (srcD3.drop 29), vI 29], 1424, 1426, [(0, rowSigns)], [], [], .tuple #[.agg #[vI 4, vS [40], vU 0, vI 29], vI 1, vI 0]⟩,
  ⟨[strV (srcD3.drop 30), vI 30], 1429, 1431, [(0, rowSigns)], [], [], .tuple #[.agg #[vI 4, vS [41], vU 0, vI 30], vI 1, vI 0]⟩,
  ⟨[strV (srcD3.drop 32), vI 32], 1434, 1436, [(0, rowSigns)], [], [], .tuple #[.agg #[vI 4, vS [123], vU 0, vI 32], vI 1, vI 0]⟩]
def oneD3_1 : List Run := [⟨[strV (srcD3.drop 34), vI 34], 1439, 1442, [], [], [], .tuple #[.agg #[vI 3, vS [118, 97, 114], vU 0, vI 34], vI 3, vI 0]⟩,
  ⟨[strV (srcD3.drop 38), vI 38], 1445, 1448, [], [], [], .tuple #[.agg #[vI 1, vS [120], vU 0, vI 38], vI 1, vI 0]⟩,
  ⟨[strV (srcD3.drop 40), vI 40], 1451, 1453, [(0, rowSigns)], [], [], .tuple #[.agg #[vI 4, vS [91], vU 0, vI 40], vI 1, vI 0]⟩,
  ⟨[strV (srcD3.drop 41), vI 41], 1456, 1458, [(0, rowSigns)], [], [], .tuple #[.agg #[vI 4, vS [93], vU 0, vI 41], vI 1, vI 0]⟩,
  ⟨[strV (srcD3.drop 42), vI 42], 1461, 1464, [], [], [], .tuple #[.agg #[vI 1, vS [105, 110, 116, 54, 52], vU 0, vI 42], vI 5, vI 0]⟩,
  ⟨[strV (srcD3.drop 47), vI 47], 1467, 1469, [(0, rowSigns)], [], [], .tuple #[.agg #[vI 5, vS [59], vU 0, vI 47], vI 1, vI 0]⟩,
  ⟨[strV (srcD3.drop 49), vI 49], 1472, 1474, [(0, rowSigns)], [], [], .tuple #[.agg #[vI 4, vS [123], vU 0, vI 49], vI 1, vI 0]⟩,
  ⟨[strV (srcD3.drop 51), vI 51], 1477, 1480, [], [], [], .tuple #[.agg #[vI 1, vS [114, 101, 99, 111, 118, 101, 114], vU 0, vI 51], vI 7, vI 0]⟩,
  ⟨[strV (srcD3.drop 59), vI 59], 1483, 1485, [(0, rowSigns)], [], [], .tuple #[.agg #[vI 4, vS [58, 61], vU 0, vI 59], vI 2, vI 0]⟩,
  ⟨[strV (srcD3.drop 62), vI 62], 1488, 1492, [], [], [], .tuple #[.agg #[vI 2, vS [49], vU 1, vI 62], vI 1, vI 0]⟩,
  ⟨[strV (srcD3.drop 63), vI 63], 1495, 1497, [(0, rowSigns)], [], [], .tuple #[.agg #[vI 5, vS [59], vU 0, vI 63], vI 1, vI 0]⟩,
  ⟨[strV (srcD3.drop 65), vI 65], 1500, 1503, [], [], [], .tuple #[.agg #[vI 1, vS [114, 101, 99, 111, 118, 101, 114], vU 0, vI 65], vI 7, vI 0]⟩,
  ⟨[strV (srcD3.drop 72), vI 72], 1506, 1508, [(0, rowSigns)], [], [], .tuple #[.agg #[vI 4, vS [40], vU 0, vI 72], vI 1, vI 0]⟩]
def oneD3_2 : List Run := [⟨[strV (srcD3.drop 73), vI 73], 1511, 1513, [(0, rowSigns)], [], [], .tuple #[.agg #[vI 4, vS [41], vU 0, vI 73], vI 1, vI 0]⟩,
  ⟨[strV (srcD3.drop 75), vI 75], 1516, 1518, [(0, rowSigns)], [], [], .tuple #[.agg #[vI 4, vS [125], vU 0, vI 75], vI 1, vI 0]⟩,
  ⟨[strV (srcD3.drop 77), vI 77], 1521, 1523, [(0, rowSigns)], [], [], .tuple #[.agg #[vI 4, vS [125], vU 0, vI 77], vI 1, vI 0]⟩]
def oneD3 : List Run := oneD3_0 ++ oneD3_1 ++ oneD3_2
def tokD3 : Run := ⟨[strV srcD3], 1364, 1530, [(0, rowSigns)], [(1529, .row [vI 3, vS [102, 117, 110, 99], vU 0, vI 0, vI 1, vS [102], vU 0, vI 5, vI 4, vS [40], vU 0, vI 6, vI 1, vS [110], vU 0, vI 7, vI 1, vS [105, 110, 116, 54, 52], vU 0, vI 9, vI 4, vS [41], vU 0, vI 14, vI 4, vS [123], vU 0, vI 16, vI 4, vS [125], vU 0, vI 18, vI 5, vS [], vU 0, vI 19, vI 3, vS [102, 117, 110, 99], vU 0, vI 20, vI 1, vS [109, 97, 105, 110], vU 0, vI 25, vI 4, vS [40], vU 0, vI 29, vI 4, vS [41], vU 0, vI 30, vI 4, vS [123], vU 0, vI 32, vI 3, vS [118, 97, 114], vU 0, vI 34, vI 1, vS [120], vU 0, vI 38, vI 4, vS [91], vU 0, vI 40, vI 4, vS [93], vU 0, vI 41, vI 1, vS [105, 110, 116, 54, 52], vU 0, vI 42, vI 5, vS [59], vU 0, vI 47, vI 4, vS [123], vU 0, vI 49, vI 1, vS [114, 101, 99, 111, 118, 101, 114], vU 0, vI 51, vI 4, vS [58, 61], vU 0, vI 59, vI 2, vS [49], vU 1, vI 62, vI 5, vS [59], vU 0, vI 63, vI 1, vS [114, 101, 99, 111, 118, 101, 114], vU 0, vI 65, vI 4, vS [40], vU 0, vI 72, vI 4, vS [41], vU 0, vI 73, vI 4, vS [125], vU 0, vI 75, vI 4, vS [125], vU 0, vI 77, vI 5, vS [], vU 0, vI 78] 74 4)], [], .tuple #[vL 1529 0 31 unk, vI 0, vI 0]⟩
def parD3 : Run := ⟨[strV srcD3], 1360, 1961, [(0, rowSigns), (4, rowOps)], [(1567, oD3_1567), (1569, oD3_1569), (1594, oD3_1594), (1658, oD3_1658), (1659, oD3_1659), (1729, oD3_1729), (1790, oD3_1790), (1812, oD3_1812), (1814, oD3_1814), (1821, oD3_1821), (1828, oD3_1828), (1830, oD3_1830)], [], .tuple #[nodeD3, vI 0, vI 0]⟩
def chkD3 : Run := ⟨[nodeD3], 1962, 2200, [(1567, oD3_1567), (1569, oD3_1569), (1594, oD3_1594), (1658, oD3_1658), (1659, oD3_1659), (1729, oD3_1729), (1790, oD3_1790), (1812, oD3_1812), (1814, oD3_1814), (1821, oD3_1821), (1828, oD3_1828), (1830, oD3_1830)], [], [], vI 0⟩
def prgD3 : Run := ⟨[nodeD3], 1961, 2385, [(1567, oD3_1567), (1569, oD3_1569), (1594, oD3_1594), (1658, oD3_1658), (1659, oD3_1659), (1729, oD3_1729), (1790, oD3_1790), (1812, oD3_1812), (1814, oD3_1814), (1821, oD3_1821), (1828, oD3_1828), (1830, oD3_1830)], [], [], .tuple #[vN, vI 72, vI 9]⟩
def souD3 : Run := ⟨[strV srcD3], 1359, 2385, [(0, rowSigns), (4, rowOps)], [], [], .tuple #[.agg #[vI 0, vS [], vU 0, vI 0, vN], vI 72, vI 9]⟩
theorem one_ED3_0 : ∀ ax axm, (oneD3_0.all fun r => okRun r (evCall Tryz.prog ((cfgH ax axm).tell []) 100000 39 r.args (rowsR r.rd) r.c0)) = true := fun _ _ => by kernel_rfl
theorem one_ED3_1 : ∀ ax axm, (oneD3_1.all fun r => okRun r (evCall Tryz.prog ((cfgH ax axm).tell []) 100000 39 r.args (rowsR r.rd) r.c0)) = true := fun _ _ => by kernel_rfl
theorem one_ED3_2 : ∀ ax axm, (oneD3_2.all fun r => okRun r (evCall Tryz.prog ((cfgH ax axm).tell []) 100000 39 r.args (rowsR r.rd) r.c0)) = true := fun _ _ => by kernel_rfl
theorem one_ED3 : ∀ ax axm, (oneD3.all fun r => okRun r (evCall Tryz.prog ((cfgH ax axm).tell []) 100000 39 r.args (rowsR r.rd) r.c0)) = true := fun ax axm => all_app (all_app (one_ED3_0 ax axm) (one_ED3_1 ax axm)) (one_ED3_2 ax axm)
theorem tok_ED3 : ∀ ax axm, okRun tokD3 (evCall Tryz.prog ((cfgH ax axm).tell [(39, oneD3)]) 100000 14 tokD3.args (rowsR tokD3.rd) tokD3.c0) = true := fun _ _ => by kernel_rfl
theorem par_ED3 : ∀ ax axm, okRun parD3 (evCall Tryz.prog ((cfgH ax axm).tell [(14, [tokD3])]) 100000 6 parD3.args (rowsR parD3.rd) parD3.c0) = true := fun _ _ => by kernel_rfl
theorem chk_ED3 : ∀ ax axm, okRun chkD3 (evCall Tryz.prog ((cfgH ax axm).tell []) 100000 10 chkD3.args (rowsR chkD3.rd) chkD3.c0) = true := fun _ _ => by kernel_rfl
theorem prg_ED3 : ∀ ax axm, okRun prgD3 (evCall Tryz.prog ((cfgH ax axm).tell [(10, [chkD3])]) 100000 7 prgD3.args (rowsR prgD3.rd) prgD3.c0) = true := fun _ _ => by kernel_rfl
theorem sou_ED3 : ∀ ax axm, okRun souD3 (evCall Tryz.prog ((cfgH ax axm).tell [(6, [parD3]), (7, [prgD3])]) 100000 4 souD3.args (rowsR souD3.rd) souD3.c0) = true := fun _ _ => by kernel_rfl
end Go.Proofs.YtakfgbedmglffaaGreatDoor
