/- The law CheckHides: it returns true for every number: each of the 256 by the evaluator, told of the sixteen calls of check.Source and of answers. -/
import Derived.Test.YtakfgbedmglffaaGreatDoorOd
import Derived.Test.YtakfgbedmglffaaGreatDoorOc0
import Derived.Test.YtakfgbedmglffaaGreatDoorOc1
import Derived.Test.YtakfgbedmglffaaGreatDoorOc2
import Derived.Test.YtakfgbedmglffaaGreatDoorOc3
import Derived.Test.YtakfgbedmglffaaGreatDoorOc4
import Derived.Test.YtakfgbedmglffaaGreatDoorOc5
import Derived.Test.YtakfgbedmglffaaGreatDoorOc6
import Derived.Test.YtakfgbedmglffaaGreatDoorOc7
namespace Go.Proofs.YtakfgbedmglffaaGreatDoor
open Go.RowKit
open Ev
set_option linter.unusedSimpArgs false
set_option linter.unusedVariables false

def sources : List (FuncId × List Run) := [(4, [souC0, souD0, souC1, souD1, souC2, souD2, souC3, souD3, souC4, souD4, souC5, souD5, souC6, souD6, souC7, souD7])]
theorem hides_E0 : ∀ ax axm, ((List.range 32).all fun k => saysTrue (evCall Tryz.prog ((cfgH ax axm).tell sources) 100000 3 [.int .u8 (Int.ofNat (k + 0))] heapO 15)) = true := fun _ _ => by kernel_rfl
theorem hides_E1 : ∀ ax axm, ((List.range 32).all fun k => saysTrue (evCall Tryz.prog ((cfgH ax axm).tell sources) 100000 3 [.int .u8 (Int.ofNat (k + 32))] heapO 15)) = true := fun _ _ => by kernel_rfl
theorem hides_E2 : ∀ ax axm, ((List.range 32).all fun k => saysTrue (evCall Tryz.prog ((cfgH ax axm).tell sources) 100000 3 [.int .u8 (Int.ofNat (k + 64))] heapO 15)) = true := fun _ _ => by kernel_rfl
theorem hides_E3 : ∀ ax axm, ((List.range 32).all fun k => saysTrue (evCall Tryz.prog ((cfgH ax axm).tell sources) 100000 3 [.int .u8 (Int.ofNat (k + 96))] heapO 15)) = true := fun _ _ => by kernel_rfl
theorem hides_E4 : ∀ ax axm, ((List.range 32).all fun k => saysTrue (evCall Tryz.prog ((cfgH ax axm).tell sources) 100000 3 [.int .u8 (Int.ofNat (k + 128))] heapO 15)) = true := fun _ _ => by kernel_rfl
theorem hides_E5 : ∀ ax axm, ((List.range 32).all fun k => saysTrue (evCall Tryz.prog ((cfgH ax axm).tell sources) 100000 3 [.int .u8 (Int.ofNat (k + 160))] heapO 15)) = true := fun _ _ => by kernel_rfl
theorem hides_E6 : ∀ ax axm, ((List.range 32).all fun k => saysTrue (evCall Tryz.prog ((cfgH ax axm).tell sources) 100000 3 [.int .u8 (Int.ofNat (k + 192))] heapO 15)) = true := fun _ _ => by kernel_rfl
theorem hides_E7 : ∀ ax axm, ((List.range 32).all fun k => saysTrue (evCall Tryz.prog ((cfgH ax axm).tell sources) 100000 3 [.int .u8 (Int.ofNat (k + 224))] heapO 15)) = true := fun _ _ => by kernel_rfl
theorem sources_ok {f : Where} {w : World} (hL : Laid w f) : ∀ x ∈ sources, ∀ r ∈ x.2, RunOK Tryz.prog (cfgH (Ax f) Ax.mono) w.heap.size w x.1 r := by
  have horc := orcH_ok hL (fun w => answers_c f w)
  intro x hx r hr
  unfold sources at hx
  obtain rfl := List.mem_singleton.1 hx
  dsimp only at hr ⊢
  simp only [List.mem_cons, List.not_mem_nil, or_false] at hr
  rcases hr with rfl | rfl | rfl | rfl | rfl | rfl | rfl | rfl | rfl | rfl | rfl | rfl | rfl | rfl | rfl | rfl
  · exact source_ok horc (one_EC0 _ _) (tok_EC0 _ _) (par_EC0 _ _) (chk_EC0 _ _) (prg_EC0 _ _) (sou_EC0 _ _)
  · exact source_ok horc (one_ED0 _ _) (tok_ED0 _ _) (par_ED0 _ _) (chk_ED0 _ _) (prg_ED0 _ _) (sou_ED0 _ _)
  · exact source_ok horc (one_EC1 _ _) (tok_EC1 _ _) (par_EC1 _ _) (chk_EC1 _ _) (prg_EC1 _ _) (sou_EC1 _ _)
  · exact source_ok horc (one_ED1 _ _) (tok_ED1 _ _) (par_ED1 _ _) (chk_ED1 _ _) (prg_ED1 _ _) (sou_ED1 _ _)
  · exact source_ok horc (one_EC2 _ _) (tok_EC2 _ _) (par_EC2 _ _) (chk_EC2 _ _) (prg_EC2 _ _) (sou_EC2 _ _)
  · exact source_ok horc (one_ED2 _ _) (tok_ED2 _ _) (par_ED2 _ _) (chk_ED2 _ _) (prg_ED2 _ _) (sou_ED2 _ _)
  · exact source_ok horc (one_EC3 _ _) (tok_EC3 _ _) (par_EC3 _ _) (chk_EC3 _ _) (prg_EC3 _ _) (sou_EC3 _ _)
  · exact source_ok horc (one_ED3 _ _) (tok_ED3 _ _) (par_ED3 _ _) (chk_ED3 _ _) (prg_ED3 _ _) (sou_ED3 _ _)
  · exact source_ok horc (one_EC4 _ _) (tok_EC4 _ _) (par_EC4 _ _) (chk_EC4 _ _) (prg_EC4 _ _) (sou_EC4 _ _)
  · exact source_ok horc (one_ED4 _ _) (tok_ED4 _ _) (par_ED4 _ _) (chk_ED4 _ _) (prg_ED4 _ _) (sou_ED4 _ _)
  · exact source_ok horc (one_EC5 _ _) (tok_EC5 _ _) (par_EC5 _ _) (chk_EC5 _ _) (prg_EC5 _ _) (sou_EC5 _ _)
  · exact source_ok horc (one_ED5 _ _) (tok_ED5 _ _) (par_ED5 _ _) (chk_ED5 _ _) (prg_ED5 _ _) (sou_ED5 _ _)
  · exact source_ok horc (one_EC6 _ _) (tok_EC6 _ _) (par_EC6 _ _) (chk_EC6 _ _) (prg_EC6 _ _) (sou_EC6 _ _)
  · exact source_ok horc (one_ED6 _ _) (tok_ED6 _ _) (par_ED6 _ _) (chk_ED6 _ _) (prg_ED6 _ _) (sou_ED6 _ _)
  · exact source_ok horc (one_EC7 _ _) (tok_EC7 _ _) (par_EC7 _ _) (chk_EC7 _ _) (prg_EC7 _ _) (sou_EC7 _ _)
  · exact source_ok horc (one_ED7 _ _) (tok_ED7 _ _) (par_ED7 _ _) (chk_ED7 _ _) (prg_ED7 _ _) (sou_ED7 _ _)
theorem hides_at {f : Where} {w : World} (hL : Laid w f) {k : Nat} (E : ∀ ax axm, saysTrue (evCall Tryz.prog ((cfgH ax axm).tell sources) 100000 3 [.int .u8 (Int.ofNat k)] heapO 15) = true) :
    Calls Tryz.prog 3 #[.int .u8 (Int.ofNat k)] w fun e w' => e = .returned (.bool true) ∧ Below w.heap.size w w' := by
  have horc := orcH_ok hL (fun w => answers_c f w)
  have horc2 := orc_tell follows horc (sources_ok hL)
  refine saysTrue_ok (base := w.heap.size) (w0 := w) (p := planO f) follows horc2 (E (Ax f) Ax.mono) (fun b hb => by rw [heapO_get, if_neg (by omega), if_neg (by omega)]) (relO rfl rfl hL ⟨fun x hx => (by cases hx), planO_ax f⟩) (.cons (.int _ _) .nil) (fun b hb => ?_)
  unfold planO
  rw [if_neg (by omega), if_neg (by omega), if_neg (by omega), if_neg (by omega)]
theorem all_at {P : Nat → Bool} {n d : Nat} (h : ((List.range n).all fun k => P (k + d)) = true) {k : Nat} (h1 : d ≤ k) (h2 : k < d + n) : P k = true := by
  have := List.all_eq_true.1 h (k - d) (List.mem_range.2 (by omega))
  rwa [show k - d + d = k by omega] at this
theorem walkCheckHides (a : Int) (h0 : 0 ≤ a) (h1 : a ≤ 255) (w : World) (hL : ∃ f, Laid w f) : Calls Tryz.prog 3 #[.int .u8 a] w fun e w' => e = .returned (.bool true) ∧ Below w.heap.size w w' := by
  obtain ⟨f, hL⟩ := hL
  obtain ⟨k, rfl⟩ := Int.eq_ofNat_of_zero_le h0
  refine hides_at hL fun ax axm => ?_
  rcases (by omega : k < 32 ∨ (32 ≤ k ∧ k < 64) ∨ (64 ≤ k ∧ k < 96) ∨ (96 ≤ k ∧ k < 128) ∨ (128 ≤ k ∧ k < 160) ∨ (160 ≤ k ∧ k < 192) ∨ (192 ≤ k ∧ k < 224) ∨ (224 ≤ k ∧ k < 256)) with h | h | h | h | h | h | h | h
  · exact all_at (P := fun k => saysTrue (evCall Tryz.prog ((cfgH ax axm).tell sources) 100000 3 [.int .u8 (Int.ofNat k)] heapO 15)) (hides_E0 ax axm) (by omega) (by omega)
  · exact all_at (P := fun k => saysTrue (evCall Tryz.prog ((cfgH ax axm).tell sources) 100000 3 [.int .u8 (Int.ofNat k)] heapO 15)) (hides_E1 ax axm) (by omega) (by omega)
  · exact all_at (P := fun k => saysTrue (evCall Tryz.prog ((cfgH ax axm).tell sources) 100000 3 [.int .u8 (Int.ofNat k)] heapO 15)) (hides_E2 ax axm) (by omega) (by omega)
  · exact all_at (P := fun k => saysTrue (evCall Tryz.prog ((cfgH ax axm).tell sources) 100000 3 [.int .u8 (Int.ofNat k)] heapO 15)) (hides_E3 ax axm) (by omega) (by omega)
  · exact all_at (P := fun k => saysTrue (evCall Tryz.prog ((cfgH ax axm).tell sources) 100000 3 [.int .u8 (Int.ofNat k)] heapO 15)) (hides_E4 ax axm) (by omega) (by omega)
  · exact all_at (P := fun k => saysTrue (evCall Tryz.prog ((cfgH ax axm).tell sources) 100000 3 [.int .u8 (Int.ofNat k)] heapO 15)) (hides_E5 ax axm) (by omega) (by omega)
  · exact all_at (P := fun k => saysTrue (evCall Tryz.prog ((cfgH ax axm).tell sources) 100000 3 [.int .u8 (Int.ofNat k)] heapO 15)) (hides_E6 ax axm) (by omega) (by omega)
  · exact all_at (P := fun k => saysTrue (evCall Tryz.prog ((cfgH ax axm).tell sources) 100000 3 [.int .u8 (Int.ofNat k)] heapO 15)) (hides_E7 ax axm) (by omega) (by omega)
end Go.Proofs.YtakfgbedmglffaaGreatDoor
