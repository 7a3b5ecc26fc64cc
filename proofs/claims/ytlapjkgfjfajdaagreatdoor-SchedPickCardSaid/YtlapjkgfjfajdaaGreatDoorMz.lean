/- What a closed call comes to, by the evaluator: from an empty heap of its own. No program in sight. -/
import Derived.Test.YtlapjkgfjfajdaaGreatDoorMs
import Derived.Below
namespace Go.Proofs.YtlapjkgfjfajdaaGreatDoor
set_option linter.unusedSimpArgs false
set_option linter.unusedVariables false
namespace Ev
open Go.RowKit

/-- the program's variables alone, each where it is -/
def plan0 (K : Nat) : Plan := fun b => if b < K then some ⟨b, 0, 0, 0⟩ else none
theorem rel0 (K : Nat) (w : World) : Rel K w.heap.size w (plan0 K) .leaf w := by
  refine ⟨Below.refl _ _, Nat.le_refl _, fun b hb => ⟨⟨b, 0, 0, 0⟩, by unfold plan0; rw [if_pos hb], rfl, rfl⟩, fun b o h => ?_, fun b b' o o' s s' h => ?_⟩
  · cases h
  · cases h
/-- does a call return true? -/
def saysTrue (o : Option (CR × Tree AObj × Nat × Log)) : Bool := match o with
  | some (.ret (.bool true), _, _, _) => true
  | _ => false
theorem closed {P : Program} {K f : Nat} {g : FuncId} (hm : P.follows .mixedOrders = true) (h : saysTrue (evCall P K f g [] .leaf K) = true) (w : World) :
    Calls P g #[] w fun e w' => e = .returned (.bool true) ∧ Below w.heap.size w w' := by
  unfold saysTrue at h
  split at h
  · rename_i h' c1 l e
    refine (ev_call (base := w.heap.size) (w0 := w) hm e (fun b _ _ => rfl) (rel0 K w) (args' := #[]) .nil (fun b h1 _ => ?_)).mono ?_
    · unfold plan0; rw [if_neg (by omega)]
    · rintro e w' ⟨p', -, -, hr, hc⟩
      refine ⟨?_, hr.below⟩
      cases e with
      | returned v =>
        have : VR p' (.bool true) v := hc
        cases this
        rfl
      | panicked => exact hc.elim
      | outgrown => exact hc.elim
  · cases h
end Ev
end Go.Proofs.YtlapjkgfjfajdaaGreatDoor
