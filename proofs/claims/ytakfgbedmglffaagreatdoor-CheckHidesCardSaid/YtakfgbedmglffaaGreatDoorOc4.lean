/- The law CheckHides: the two sources of case 4: what scanning, parsing and checking come to, piece by piece, by the evaluator. -/
import Derived.Test.YtakfgbedmglffaaGreatDoorOh
namespace Go.Proofs.YtakfgbedmglffaaGreatDoor
open Go.RowKit
open Ev
set_option linter.unusedSimpArgs false
set_option linter.unusedVariables false

def srcC4 : List UInt8 := [102, 117, 110, 99, 32, 102, 40, 110, 32, 105, 110, 116, 54, 52, 41, 32, 123, 32, 125, 10, 102, 117, 110, 99, 32, 109, 97, 105, 110, 40, 41, 32, 123, 32, 118, 97, 114, 32, 120, 32, 99, 104, 97, 110, 32, 105, 110, 116, 54, 52, 59, 32, 123, 32, 99, 108, 111, 115, 101, 32, 58, 61, 32, 49, 59, 32, 99, 108, 111, 115, 101, 32, 61, 32, 99, 108, 111, 115, 101, 32, 43, 32, 49, 32, 125, 59, 32, 99, 108, 111, 115, 101, 40, 120, 41, 32, 125]
def oC4_260 : AObj := .row [vI 10, vS [105, 110, 116, 54, 52], vU 0, vI 9, vN] 26 5
def oC4_262 : AObj := .row [vI 5, vS [110], vU 0, vI 7, vL 260 0 1 1] 26 5
def oC4_287 : AObj := .row [vI 4, vS [], vU 0, vI 6, vN, vI 6, vS [], vU 0, vI 6, vL 262 0 1 unk, vI 7, vS [], vU 0, vI 16, vN, vI 20, vS [], vU 0, vI 16, vN] 26 5
def oC4_351 : AObj := .row [vI 10, vS [105, 110, 116, 54, 52], vU 0, vI 45, vN] 26 5
def oC4_352 : AObj := .row [vI 12, vS [], vU 0, vI 40, vL 351 0 1 1] 26 5
def oC4_422 : AObj := .row [vI 31, vS [], vU 1, vI 63, vN] 26 5
def oC4_559 : AObj := .row [vI 30, vS [99, 108, 111, 115, 101], vU 0, vI 74, vN, vI 31, vS [], vU 1, vI 82, vN] 26 5
def oC4_563 : AObj := .row [vI 30, vS [99, 108, 111, 115, 101], vU 0, vI 66, vN, vI 33, vS [43], vU 0, vI 80, vL 559 0 2 2] 26 5
def oC4_565 : AObj := .row [vI 21, vS [99, 108, 111, 115, 101], vU 0, vI 54, vL 422 0 1 1, vI 23, vS [], vU 0, vI 66, vL 563 0 2 2] 26 5
def oC4_687 : AObj := .row [vI 30, vS [99, 108, 111, 115, 101], vU 0, vI 87, vN, vI 30, vS [120], vU 0, vI 93, vN] 26 5
def oC4_702 : AObj := .row [vI 34, vS [], vU 0, vI 92, vL 687 0 2 unk] 26 5
def oC4_704 : AObj := .row [vI 22, vS [120], vU 0, vI 34, vL 352 0 1 1, vI 20, vS [], vU 0, vI 52, vL 565 0 2 unk, vI 24, vS [], vU 0, vI 87, vL 702 0 1 1] 26 5
def oC4_711 : AObj := .row [vI 4, vS [], vU 0, vI 29, vN, vI 6, vS [], vU 0, vI 29, vN, vI 7, vS [], vU 0, vI 32, vN, vI 20, vS [], vU 0, vI 32, vL 704 0 3 unk] 26 5
def oC4_713 : AObj := .row [vI 3, vS [102], vU 0, vI 0, vL 287 0 4 unk, vI 3, vS [109, 97, 105, 110], vU 0, vI 20, vL 711 0 4 unk] 26 5
def nodeC4 : Value := .agg #[vI 1, vS [], vU 0, vI 0, vL 713 0 2 unk]
def oneC4_0 : List Run := [⟨[strV (srcC4.drop 0), vI 0], 21, 24, [], [], [], .tuple #[.agg #[vI 3, vS [102, 117, 110, 99], vU 0, vI 0], vI 4, vI 0]⟩,
  ⟨[strV (srcC4.drop 5), vI 5], 27, 30, [], [], [], .tuple #[.agg #[vI 1, vS [102], vU 0, vI 5], vI 1, vI 0]⟩,
  ⟨[strV (srcC4.drop 6), vI 6], 33, 35, [(0, rowSigns)], [], [], .tuple #[.agg #[vI 4, vS [40], vU 0, vI 6], vI 1, vI 0]⟩,
  ⟨[strV (srcC4.drop 7), vI 7], 38, 41, [], [], [], .tuple #[.agg #[vI 1, vS [110], vU 0, vI 7], vI 1, vI 0]⟩,
  ⟨[strV (srcC4.drop 9), vI 9], 44, 47, [], [], [], .tuple #[.agg #[vI 1, vS [105, 110, 116, 54, 52], vU 0, vI 9], vI 5, vI 0]⟩,
  ⟨[strV (srcC4.drop 14), vI 14], 50, 52, [(0, rowSigns)], [], [], .tuple #[.agg #[vI 4, vS [41], vU 0, vI 14], vI 1, vI 0]⟩,
  ⟨[strV (srcC4.drop 16), vI 16], 55, 57, [(0, rowSigns)], [], [], .tuple #[.agg #[vI 4, vS [123], vU 0, vI 16], vI 1, vI 0]⟩,
  ⟨[strV (srcC4.drop 18), vI 18], 60, 62, [(0, rowSigns)], [], [], .tuple #[.agg #[vI 4, vS [125], vU 0, vI 18], vI 1, vI 0]⟩,
  ⟨[strV (srcC4.drop 20), vI 20], 69, 72, [], [], [], .tuple #[.agg #[vI 3, vS [102, 117, 110, 99], vU 0, vI 20], vI 4, vI 0]⟩,
  ⟨[strV (srcC4.drop 25), vI 25], 75, 78, [], [], [], .tuple #[.agg #[vI 1, vS [109, 97, 105, 110], vU 0, vI 25], vI 4, vI 0]⟩,
  ⟨[strV (srcC4.drop 29), vI 29], 81, 83, [(0, rowSigns)], [], [], .tuple #[.agg #[vI 4, vS [40], vU 0, vI 29], vI 1, vI 0]⟩,
  ⟨[strV (srcC4.drop 30), vI 30], 86, 88, [(0, rowSigns)], [], [], .tuple #[.agg #[vI 4, vS [41], vU 0, vI 30], vI 1, vI 0]⟩,
  ⟨[strV (srcC4.drop 32), vI 32], 91, 93, [(0, rowSigns)], [], [], .tuple #[.agg #[vI 4, vS [123], vU 0, vI 32], vI 1, vI 0]⟩]
def oneC4_1 : List Run := [⟨[strV (srcC4.drop 34), vI 34], 96, 99, [], [], [], .tuple #[.agg #[vI 3, vS [118, 97, 114], vU 0, vI 34], vI 3, vI 0]⟩,
  ⟨[strV (srcC4.drop 38), vI 38], 102, 105, [], [], [], .tuple #[.agg #[vI 1, vS [120], vU 0, vI 38], vI 1, vI 0]⟩,
  ⟨[strV (srcC4.drop 40), vI 40], 108, 111, [], [], [], .tuple #[.agg #[vI 3, vS [99, 104, 97, 110], vU 0, vI 40], vI 4, vI 0]⟩,
  ⟨[strV (srcC4.drop 45), vI 45], 114, 117, [], [], [], .tuple #[.agg #[vI 1, vS [105, 110, 116, 54, 52], vU 0, vI 45], vI 5, vI 0]⟩,
  ⟨[strV (srcC4.drop 50), vI 50], 120, 122, [(0, rowSigns)], [], [], .tuple #[.agg #[vI 5, vS [59], vU 0, vI 50], vI 1, vI 0]⟩,
  ⟨[strV (srcC4.drop 52), vI 52], 125, 127, [(0, rowSigns)], [], [], .tuple #[.agg #[vI 4, vS [123], vU 0, vI 52], vI 1, vI 0]⟩,
  ⟨[strV (srcC4.drop 54), vI 54], 130, 133, [], [], [], .tuple #[.agg #[vI 1, vS [99, 108, 111, 115, 101], vU 0, vI 54], vI 5, vI 0]⟩,
  ⟨[strV (srcC4.drop 60), vI 60], 136, 138, [(0, rowSigns)], [], [], .tuple #[.agg #[vI 4, vS [58, 61], vU 0, vI 60], vI 2, vI 0]⟩,
  ⟨[strV (srcC4.drop 63), vI 63], 141, 145, [], [], [], .tuple #[.agg #[vI 2, vS [49], vU 1, vI 63], vI 1, vI 0]⟩,
  ⟨[strV (srcC4.drop 64), vI 64], 148, 150, [(0, rowSigns)], [], [], .tuple #[.agg #[vI 5, vS [59], vU 0, vI 64], vI 1, vI 0]⟩,
  ⟨[strV (srcC4.drop 66), vI 66], 153, 156, [], [], [], .tuple #[.agg #[vI 1, vS [99, 108, 111, 115, 101], vU 0, vI 66], vI 5, vI 0]⟩,
  ⟨[strV (srcC4.drop 72), vI 72], 159, 161, [(0, rowSigns)], [], [], .tuple #[.agg #[vI 4, vS [61], vU 0, vI 72], vI 1, vI 0]⟩,
  ⟨[strV (srcC4.drop 74), vI 74], 164, 167, [], [], [], .tuple #[.agg #[vI 1, vS [99, 108, 111, 115, 101], vU 0, vI 74], vI 5, vI 0]⟩]
def oneC4_2 : List Run := [⟨[strV (srcC4.drop 80), vI 80], 170, 172, [(0, rowSigns)], [], [], .tuple #[.agg #[vI 4, vS [43], vU 0, vI 80], vI 1, vI 0]⟩,
  ⟨[strV (srcC4.drop 82), vI 82], 175, 179, [], [], [], .tuple #[.agg #[vI 2, vS [49], vU 1, vI 82], vI 1, vI 0]⟩,
  ⟨[strV (srcC4.drop 84), vI 84], 182, 184, [(0, rowSigns)], [], [], .tuple #[.agg #[vI 4, vS [125], vU 0, vI 84], vI 1, vI 0]⟩,
  ⟨[strV (srcC4.drop 85), vI 85], 187, 189, [(0, rowSigns)], [], [], .tuple #[.agg #[vI 5, vS [59], vU 0, vI 85], vI 1, vI 0]⟩,
  ⟨[strV (srcC4.drop 87), vI 87], 192, 195, [], [], [], .tuple #[.agg #[vI 1, vS [99, 108, 111, 115, 101], vU 0, vI 87], vI 5, vI 0]⟩,
  ⟨[strV (srcC4.drop 92), vI 92], 198, 200, [(0, rowSigns)], [], [], .tuple #[.agg #[vI 4, vS [40], vU 0, vI 92], vI 1, vI 0]⟩,
  ⟨[strV (srcC4.drop 93), vI 93], 203, 206, [], [], [], .tuple #[.agg #[vI 1, vS [120], vU 0, vI 93], vI 1, vI 0]⟩,
  ⟨[strV (srcC4.drop 94), vI 94], 209, 211, [(0, rowSigns)], [], [], .tuple #[.agg #[vI 4, vS [41], vU 0, vI 94], vI 1, vI 0]⟩,
  ⟨[strV (srcC4.drop 96), vI 96], 214, 216, [(0, rowSigns)], [], [], .tuple #[.agg #[vI 4, vS [125], vU 0, vI 96], vI 1, vI 0]⟩]
def oneC4 : List Run := oneC4_0 ++ oneC4_1 ++ oneC4_2
def tokC4 : Run := ⟨[strV srcC4], 21, 223, [(0, rowSigns)], [(222, .row [vI 3, vS [102, 117, 110, 99], vU 0, vI 0, vI 1, vS [102], vU 0, vI 5, vI 4, vS [40], vU 0, vI 6, vI 1, vS [110], vU 0, vI 7, vI 1, vS [105, 110, 116, 54, 52], vU 0, vI 9, vI 4, vS [41], vU 0, vI 14, vI 4, vS [123], vU 0, vI 16, vI 4, vS [125], vU 0, vI 18, vI 5, vS [], vU 0, vI 19, vI 3, vS [102, 117, 110, 99], vU 0, vI 20, vI 1, vS [109, 97, 105, 110], vU 0, vI 25, vI 4, vS [40], vU 0, vI 29, vI 4, vS [41], vU 0, vI 30, vI 4, vS [123], vU 0, vI 32, vI 3, vS [118, 97, 114], vU 0, vI 34, vI 1, vS [120], vU 0, vI 38, vI 3, vS [99, 104, 97, 110], vU 0, vI 40, vI 1, vS [105, 110, 116, 54, 52], vU 0, vI 45, vI 5, vS [59], vU 0, vI 50, vI 4, vS [123], vU 0, vI 52, vI 1, vS [99, 108, 111, 115, 101], vU 0, vI 54, vI 4, vS [58, 61], vU 0, vI 60, vI 2, vS [49], vU 1, vI 63, vI 5, vS [59], vU 0, vI 64, vI 1, vS [99, 108, 111, 115, 101], vU 0, vI 66, vI 4, vS [61], vU 0, vI 72, vI 1, vS [99, 108, 111, 115, 101], vU 0, vI 74, vI 4, vS [43], vU 0, vI 80, vI 2, vS [49], vU 1, vI 82, vI 4, vS [125], vU 0, vI 84, vI 5, vS [59], vU 0, vI 85, vI 1, vS [99, 108, 111, 115, 101], vU 0, vI 87, vI 4, vS [40], vU 0, vI 92, vI 1, vS [120], vU 0, vI 93, vI 4, vS [41], vU 0, vI 94, vI 4, vS [125], vU 0, vI 96, vI 5, vS [], vU 0, vI 97] 74 4)], [], .tuple #[vL 222 0 37 unk, vI 0, vI 0]⟩
def parC4 : Run := ⟨[strV srcC4], 17, 880, [(0, rowSigns), (4, rowOps)], [(260, oC4_260), (262, oC4_262), (287, oC4_287), (351, oC4_351), (352, oC4_352), (422, oC4_422), (559, oC4_559), (563, oC4_563), (565, oC4_565), (687, oC4_687), (702, oC4_702), (704, oC4_704), (711, oC4_711), (713, oC4_713)], [], .tuple #[nodeC4, vI 0, vI 0]⟩
def chkC4 : Run := ⟨[nodeC4], 881, 1181, [(4, rowOps), (260, oC4_260), (262, oC4_262), (287, oC4_287), (351, oC4_351), (352, oC4_352), (422, oC4_422), (559, oC4_559), (563, oC4_563), (565, oC4_565), (687, oC4_687), (702, oC4_702), (704, oC4_704), (711, oC4_711), (713, oC4_713)], [], [], vI 0⟩
def prgC4 : Run := ⟨[nodeC4], 880, 1430, [(4, rowOps), (260, oC4_260), (262, oC4_262), (287, oC4_287), (351, oC4_351), (352, oC4_352), (422, oC4_422), (559, oC4_559), (563, oC4_563), (565, oC4_565), (687, oC4_687), (702, oC4_702), (704, oC4_704), (711, oC4_711), (713, oC4_713)], [], [], .tuple #[vL 1429 0 2 unk, vI 0, vI 0]⟩
def souC4 : Run := ⟨[strV srcC4], 16, 1430, [(0, rowSigns), (4, rowOps)], [], [], .tuple #[.agg #[vI 1, vS [], vU 0, vI 0, vL 713 0 2 unk], vI 0, vI 0]⟩
theorem one_EC4_0 : ∀ ax axm, (oneC4_0.all fun r => okRun r (evCall Tryz.prog ((cfgH ax axm).tell []) 100000 39 r.args (rowsR r.rd) r.c0)) = true := fun _ _ => by kernel_rfl
theorem one_EC4_1 : ∀ ax axm, (oneC4_1.all fun r => okRun r (evCall Tryz.prog ((cfgH ax axm).tell []) 100000 39 r.args (rowsR r.rd) r.c0)) = true := fun _ _ => by kernel_rfl
theorem one_EC4_2 : ∀ ax axm, (oneC4_2.all fun r => okRun r (evCall Tryz.prog ((cfgH ax axm).tell []) 100000 39 r.args (rowsR r.rd) r.c0)) = true := fun _ _ => by kernel_rfl
theorem one_EC4 : ∀ ax axm, (oneC4.all fun r => okRun r (evCall Tryz.prog ((cfgH ax axm).tell []) 100000 39 r.args (rowsR r.rd) r.c0)) = true := fun ax axm => all_app (all_app (one_EC4_0 ax axm) (one_EC4_1 ax axm)) (one_EC4_2 ax axm)
theorem tok_EC4 : ∀ ax axm, okRun tokC4 (evCall Tryz.prog ((cfgH ax axm).tell [(39, oneC4)]) 100000 14 tokC4.args (rowsR tokC4.rd) tokC4.c0) = true := fun _ _ => by kernel_rfl
theorem par_EC4 : ∀ ax axm, okRun parC4 (evCall Tryz.prog ((cfgH ax axm).tell [(14, [tokC4])]) 100000 6 parC4.args (rowsR parC4.rd) parC4.c0) = true := fun _ _ => by kernel_rfl
theorem chk_EC4 : ∀ ax axm, okRun chkC4 (evCall Tryz.prog ((cfgH ax axm).tell []) 100000 10 chkC4.args (rowsR chkC4.rd) chkC4.c0) = true := fun _ _ => by kernel_rfl
theorem prg_EC4 : ∀ ax axm, okRun prgC4 (evCall Tryz.prog ((cfgH ax axm).tell [(10, [chkC4])]) 100000 7 prgC4.args (rowsR prgC4.rd) prgC4.c0) = true := fun _ _ => by kernel_rfl
theorem sou_EC4 : ∀ ax axm, okRun souC4 (evCall Tryz.prog ((cfgH ax axm).tell [(6, [parC4]), (7, [prgC4])]) 100000 4 souC4.args (rowsR souC4.rd) souC4.c0) = true := fun _ _ => by kernel_rfl
def srcD4 : List UInt8 := [102, 117, 110, 99, 32, 102, 40, 110, 32, 105, 110, 116, 54, 52, 41, 32, 123, 32, 125, 10, 102, 117, 110, 99, 32, 109, 97, 105, 110, 40, 41, 32, 123, 32, 118, 97, 114, 32, 120, 32, 99, 104, 97, 110, 32, 105, 110, 116, 54, 52, 59, 32, 123, 32, 99, 108, 111, 115, 101, 32, 58, 61, 32, 49, 59, 32, 99, 108, 111, 115, 101, 40, 120, 41, 32, 125, 32, 125]
def oD4_1641 : AObj := .row [vI 10, vS [105, 110, 116, 54, 52], vU 0, vI 9, vN] 26 5
def oD4_1643 : AObj := .row [vI 5, vS [110], vU 0, vI 7, vL 1641 0 1 1] 26 5
def oD4_1668 : AObj := .row [vI 4, vS [], vU 0, vI 6, vN, vI 6, vS [], vU 0, vI 6, vL 1643 0 1 unk, vI 7, vS [], vU 0, vI 16, vN, vI 20, vS [], vU 0, vI 16, vN] 26 5
def oD4_1732 : AObj := .row [vI 10, vS [105, 110, 116, 54, 52], vU 0, vI 45, vN] 26 5
def oD4_1733 : AObj := .row [vI 12, vS [], vU 0, vI 40, vL 1732 0 1 1] 26 5
def oD4_1803 : AObj := .row [vI 31, vS [], vU 1, vI 63, vN] 26 5
def oD4_1920 : AObj := .row [vI 30, vS [99, 108, 111, 115, 101], vU 0, vI 66, vN, vI 30, vS [120], vU 0, vI 72, vN] 26 5
def oD4_1935 : AObj := .row [vI 34, vS [], vU 0, vI 71, vL 1920 0 2 unk] 26 5
def oD4_1937 : AObj := .row [vI 21, vS [99, 108, 111, 115, 101], vU 0, vI 54, vL 1803 0 1 1, vI 24, vS [], vU 0, vI 66, vL 1935 0 1 1] 26 5
def oD4_1944 : AObj := .row [vI 22, vS [120], vU 0, vI 34, vL 1733 0 1 1, vI 20, vS [], vU 0, vI 52, vL 1937 0 2 unk] 26 5
def oD4_1951 : AObj := .row [vI 4, vS [], vU 0, vI 29, vN, vI 6, vS [], vU 0, vI 29, vN, vI 7, vS [], vU 0, vI 32, vN, vI 20, vS [], vU 0, vI 32, vL 1944 0 2 unk] 26 5
def oD4_1953 : AObj := .row [vI 3, vS [102], vU 0, vI 0, vL 1668 0 4 unk, vI 3, vS [109, 97, 105, 110], vU 0, vI 20, vL 1951 0 4 unk] 26 5
def nodeD4 : Value := .agg #[vI 1, vS [], vU 0, vI 0, vL 1953 0 2 unk]
def oneD4_0 : List Run := [⟨[strV (srcD4.drop 0), vI 0], 1436, 1439, [], [], [], .tuple #[.agg #[vI 3, vS [102, 117, 110, 99], vU 0, vI 0], vI 4, vI 0]⟩,
  ⟨[strV (srcD4.drop 5), vI 5], 1442, 1445, [], [], [], .tuple #[.agg #[vI 1, vS [102], vU 0, vI 5], vI 1, vI 0]⟩,
  ⟨[strV (srcD4.drop 6), vI 6], 1448, 1450, [(0, rowSigns)], [], [], .tuple #[.agg #[vI 4, vS [40], vU 0, vI 6], vI 1, vI 0]⟩,
  ⟨[strV (srcD4.drop 7), vI 7], 1453, 1456, [], [], [], .tuple #[.agg #[vI 1, vS [110], vU 0, vI 7], vI 1, vI 0]⟩,
  ⟨[strV (srcD4.drop 9), vI 9], 1459, 1462, [], [], [], .tuple #[.agg #[vI 1, vS [105, 110, 116, 54, 52], vU 0, vI 9], vI 5, vI 0]⟩,
  ⟨[strV (srcD4.drop 14), vI 14], 1465, 1467, [(0, rowSigns)], [], [], .tuple #[.agg #[vI 4, vS [41], vU 0, vI 14], vI 1, vI 0]⟩,
  ⟨[strV (srcD4.drop 16), vI 16], 1470, 1472, [(0, rowSigns)], [], [], .tuple #[.agg #[vI 4, vS [123], vU 0, vI 16], vI 1, vI 0]⟩,
  ⟨[strV (srcD4.drop 18), vI 18], 1475, 1477, [(0, rowSigns)], [], [], .tuple #[.agg #[vI 4, vS [125], vU 0, vI 18], vI 1, vI 0]⟩,
  ⟨[strV (srcD4.drop 20), vI 20], 1484, 1487, [], [], [], .tuple #[.agg #[vI 3, vS [102, 117, 110, 99], vU 0, vI 20], vI 4, vI 0]⟩,
  ⟨[strV (srcD4.drop 25), vI 25], 1490, 1493, [], [], [], .tuple #[.agg #[vI 1, vS [109, 97, 105, 110], vU 0, vI 25], vI 4, vI 0]⟩,
  ⟨[strV (srcD4.drop 29), vI 29], 1496, 1498, [(0, rowSigns)], [], [], .tuple #[.agg #[vI 4, vS [40], vU 0, vI 29], vI 1, vI 0]⟩,
  ⟨[strV (srcD4.drop 30), vI 30], 1501, 1503, [(0, rowSigns)], [], [], .tuple #[.agg #[vI 4, vS [41], vU 0, vI 30], vI 1, vI 0]⟩,
  ⟨[strV (srcD4.drop 32), vI 32], 1506, 1508, [(0, rowSigns)], [], [], .tuple #[.agg #[vI 4, vS [123], vU 0, vI 32], vI 1, vI 0]⟩]
def oneD4_1 : List Run := [⟨[strV (srcD4.drop 34), vI 34], 1511, 1514, [], [], [], .tuple #[.agg #[vI 3, vS [118, 97, 114], vU 0, vI 34], vI 3, vI 0]⟩,
  ⟨[strV (srcD4.drop 38), vI 38], 1517, 1520, [], [], [], .tuple #[.agg #[vI 1, vS [120], vU 0, vI 38], vI 1, vI 0]⟩,
  ⟨[strV (srcD4.drop 40), vI 40], 1523, 1526, [], [], [], .tuple #[.agg #[vI 3, vS [99, 104, 97, 110], vU 0, vI 40], vI 4, vI 0]⟩,
  ⟨[strV (srcD4.drop 45), vI 45], 1529, 1532, [], [], [], .tuple #[.agg #[vI 1, vS [105, 110, 116, 54, 52], vU 0, vI 45], vI 5, vI 0]⟩,
  ⟨[strV (srcD4.drop 50), vI 50], 1535, 1537, [(0, rowSigns)], [], [], .tuple #[.agg #[vI 5, vS [59], vU 0, vI 50], vI 1, vI 0]⟩,
  ⟨[strV (srcD4.drop 52), vI 52], 1540, 1542, [(0, rowSigns)], [], [], .tuple #[.agg #[vI 4, vS [123], vU 0, vI 52], vI 1, vI 0]⟩,
  ⟨[strV (srcD4.drop 54), vI 54], 1545, 1548, [], [], [], .tuple #[.agg #[vI 1, vS [99, 108, 111, 115, 101], vU 0, vI 54], vI 5, vI 0]⟩,
  ⟨[strV (srcD4.drop 60), vI 60], 1551, 1553, [(0, rowSigns)], [], [], .tuple #[.agg #[vI 4, vS [58, 61], vU 0, vI 60], vI 2, vI 0]⟩,
  ⟨[strV (srcD4.drop 63), vI 63], 1556, 1560, [], [], [], .tuple #[.agg #[vI 2, vS [49], vU 1, vI 63], vI 1, vI 0]⟩,
  ⟨[strV (srcD4.drop 64), vI 64], 1563, 1565, [(0, rowSigns)], [], [], .tuple #[.agg #[vI 5, vS [59], vU 0, vI 64], vI 1, vI 0]⟩,
  ⟨[strV (srcD4.drop 66), vI 66], 1568, 1571, [], [], [], .tuple #[.agg #[vI 1, vS [99, 108, 111, 115, 101], vU 0, vI 66], vI 5, vI 0]⟩,
  ⟨[strV (srcD4.drop 71), vI 71], 1574, 1576, [(0, rowSigns)], [], [], .tuple #[.agg #[vI 4, vS [40], vU 0, vI 71], vI 1, vI 0]⟩,
  ⟨[strV (srcD4.drop 72), vI 72], 1579, 1582, [], [], [], .tuple #[.agg #[vI 1, vS [120], vU 0, vI 72], vI 1, vI 0]⟩]
def oneD4_2 : List Run := [⟨[strV (srcD4.drop 73), vI 73], 1585, 1587, [(0, rowSigns)], [], [], .tuple #[.agg #[vI 4, vS [41], vU 0, vI 73], vI 1, vI 0]⟩,
  ⟨[strV (srcD4.drop 75), vI 75], 1590, 1592, [(0, rowSigns)], [], [], .tuple #[.agg #[vI 4, vS [125], vU 0, vI 75], vI 1, vI 0]⟩,
  ⟨[strV (srcD4.drop 77), vI 77], 1595, 1597, [(0, rowSigns)], [], [], .tuple #[.agg #[vI 4, vS [125], vU 0, vI 77], vI 1, vI 0]⟩]
def oneD4 : List Run := oneD4_0 ++ oneD4_1 ++ oneD4_2
def tokD4 : Run := ⟨[strV srcD4], 1436, 1604, [(0, rowSigns)], [(1603, .row [vI 3, vS [102, 117, 110, 99], vU 0, vI 0, vI 1, vS [102], vU 0, vI 5, vI 4, vS [40], vU 0, vI 6, vI 1, vS [110], vU 0, vI 7, vI 1, vS [105, 110, 116, 54, 52], vU 0, vI 9, vI 4, vS [41], vU 0, vI 14, vI 4, vS [123], vU 0, vI 16, vI 4, vS [125], vU 0, vI 18, vI 5, vS [], vU 0, vI 19, vI 3, vS [102, 117, 110, 99], vU 0, vI 20, vI 1, vS [109, 97, 105, 110], vU 0, vI 25, vI 4, vS [40], vU 0, vI 29, vI 4, vS [41], vU 0, vI 30, vI 4, vS [123], vU 0, vI 32, vI 3, vS [118, 97, 114], vU 0, vI 34, vI 1, vS [120], vU 0, vI 38, vI 3, vS [99, 104, 97, 110], vU 0, vI 40, vI 1, vS [105, 110, 116, 54, 52], vU 0, vI 45, vI 5, vS [59], vU 0, vI 50, vI 4, vS [123], vU 0, vI 52, vI 1, vS [99, 108, 111, 115, 101], vU 0, vI 54, vI 4, vS [58, 61], vU 0, vI 60, vI 2, vS [49], vU 1, vI 63, vI 5, vS [59], vU 0, vI 64, vI 1, vS [99, 108, 111, 115, 101], vU 0, vI 66, vI 4, vS [40], vU 0, vI 71, vI 1, vS [120], vU 0, vI 72, vI 4, vS [41], vU 0, vI 73, vI 4, vS [125], vU 0, vI 75, vI 4, vS [125], vU 0, vI 77, vI 5, vS [], vU 0, vI 78] 74 4)], [], .tuple #[vL 1603 0 31 unk, vI 0, vI 0]⟩
def parD4 : Run := ⟨[strV srcD4], 1432, 2090, [(0, rowSigns), (4, rowOps)], [(1641, oD4_1641), (1643, oD4_1643), (1668, oD4_1668), (1732, oD4_1732), (1733, oD4_1733), (1803, oD4_1803), (1920, oD4_1920), (1935, oD4_1935), (1937, oD4_1937), (1944, oD4_1944), (1951, oD4_1951), (1953, oD4_1953)], [], .tuple #[nodeD4, vI 0, vI 0]⟩
def chkD4 : Run := ⟨[nodeD4], 2091, 2339, [(1641, oD4_1641), (1643, oD4_1643), (1668, oD4_1668), (1732, oD4_1732), (1733, oD4_1733), (1803, oD4_1803), (1920, oD4_1920), (1935, oD4_1935), (1937, oD4_1937), (1944, oD4_1944), (1951, oD4_1951), (1953, oD4_1953)], [], [], vI 0⟩
def prgD4 : Run := ⟨[nodeD4], 2090, 2524, [(1641, oD4_1641), (1643, oD4_1643), (1668, oD4_1668), (1732, oD4_1732), (1733, oD4_1733), (1803, oD4_1803), (1920, oD4_1920), (1935, oD4_1935), (1937, oD4_1937), (1944, oD4_1944), (1951, oD4_1951), (1953, oD4_1953)], [], [], .tuple #[vN, vI 71, vI 9]⟩
def souD4 : Run := ⟨[strV srcD4], 1431, 2524, [(0, rowSigns), (4, rowOps)], [], [], .tuple #[.agg #[vI 0, vS [], vU 0, vI 0, vN], vI 71, vI 9]⟩
theorem one_ED4_0 : ∀ ax axm, (oneD4_0.all fun r => okRun r (evCall Tryz.prog ((cfgH ax axm).tell []) 100000 39 r.args (rowsR r.rd) r.c0)) = true := fun _ _ => by kernel_rfl
theorem one_ED4_1 : ∀ ax axm, (oneD4_1.all fun r => okRun r (evCall Tryz.prog ((cfgH ax axm).tell []) 100000 39 r.args (rowsR r.rd) r.c0)) = true := fun _ _ => by kernel_rfl
theorem one_ED4_2 : ∀ ax axm, (oneD4_2.all fun r => okRun r (evCall Tryz.prog ((cfgH ax axm).tell []) 100000 39 r.args (rowsR r.rd) r.c0)) = true := fun _ _ => by kernel_rfl
theorem one_ED4 : ∀ ax axm, (oneD4.all fun r => okRun r (evCall Tryz.prog ((cfgH ax axm).tell []) 100000 39 r.args (rowsR r.rd) r.c0)) = true := fun ax axm => all_app (all_app (one_ED4_0 ax axm) (one_ED4_1 ax axm)) (one_ED4_2 ax axm)
theorem tok_ED4 : ∀ ax axm, okRun tokD4 (evCall Tryz.prog ((cfgH ax axm).tell [(39, oneD4)]) 100000 14 tokD4.args (rowsR tokD4.rd) tokD4.c0) = true := fun _ _ => by kernel_rfl
theorem par_ED4 : ∀ ax axm, okRun parD4 (evCall Tryz.prog ((cfgH ax axm).tell [(14, [tokD4])]) 100000 6 parD4.args (rowsR parD4.rd) parD4.c0) = true := fun _ _ => by kernel_rfl
theorem chk_ED4 : ∀ ax axm, okRun chkD4 (evCall Tryz.prog ((cfgH ax axm).tell []) 100000 10 chkD4.args (rowsR chkD4.rd) chkD4.c0) = true := fun _ _ => by kernel_rfl
theorem prg_ED4 : ∀ ax axm, okRun prgD4 (evCall Tryz.prog ((cfgH ax axm).tell [(10, [chkD4])]) 100000 7 prgD4.args (rowsR prgD4.rd) prgD4.c0) = true := fun _ _ => by kernel_rfl
theorem sou_ED4 : ∀ ax axm, okRun souD4 (evCall Tryz.prog ((cfgH ax axm).tell [(6, [parD4]), (7, [prgD4])]) 100000 4 souD4.args (rowsR souD4.rd) souD4.c0) = true := fun _ _ => by kernel_rfl
end Go.Proofs.YtakfgbedmglffaaGreatDoor
