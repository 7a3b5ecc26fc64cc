/- What a closed call comes to, by the evaluator: from an empty heap of its own. No program in sight. -/
import Derived.Test.YtakfgbedmglffaaGreatDoorMs
import Derived.Below
namespace Go.Proofs.YtakfgbedmglffaaGreatDoor
set_option linter.unusedSimpArgs false
set_option linter.unusedVariables false
namespace Ev
open Go.RowKit

/-- no function is told of -/
def noOrc : FuncId → List Value → Option (M AObj Value) := fun _ _ => none
/-- nothing is told -/
def cfg0 (G : Nat) : Cfg := ⟨G, G, [], noOrc, fun _ _ _ h => (by cases h), fun _ => True, fun _ _ _ _ => trivial⟩
/-- the program's variables, and tokens from n on -/
def plan0 (G n : Nat) (l : List Nat) : Plan := fun b => if b < G then some ⟨b, 0, 0, 0⟩ else if n ≤ b then (l[b - n]?).map fun x => ⟨0, x, 0, 0⟩ else none
theorem rel0 {K : Cfg} {p : Plan} (w : World) (hg : ∀ b, b < K.g → ∃ s, p b = some s ∧ s.blk = b ∧ s.off = 0) (hd : Dis K p) : Rel K w.heap.size w p .leaf w := by
  refine ⟨Below.refl _ _, Nat.le_refl _, hg, hd, fun b o h => ?_, fun b b' o o' s s' h => ?_⟩
  · cases h
  · cases h
/-- does a call return true? -/
def saysTrue (o : Res AObj CR) : Bool := match o with
  | .ok (.ret (.bool true)) _ _ _ => true
  | _ => false
theorem saysTrue_ok {P : Program} {K : Cfg} {base : Nat} {w0 : World} (hm : P.follows .mixedOrders = true) (horc : OrcOK P K base w0) {f : Nat} {g : FuncId} {args : List Value} {h : Tree AObj} {c : Nat} (he : saysTrue (evCall P K f g args h c) = true) (hn : ∀ b, c ≤ b → h.get b = none)
    {p : Plan} {w : World} {args' : Array Value} (hr : Rel K base w0 p h w) (hv : VRs p args args'.toList) (hf : ∀ b, c ≤ b → p b = none) : Calls P g args' w fun e w' => e = .returned (.bool true) ∧ Below base w0 w' := by
  unfold saysTrue at he
  split at he
  · rename_i h' c1 l e
    refine (ev_call hm horc e (fun b h1 _ => hn b h1) hr hv (fun b h1 _ => hf b h1)).mono ?_
    rintro e w' ⟨p', -, -, hr', hc⟩
    refine ⟨?_, hr'.below⟩
    cases e with
    | returned v =>
      have : VR p' (.bool true) v := hc
      cases this
      rfl
    | panicked => exact hc.elim
    | outgrown => exact hc.elim
  · cases he
theorem closed {P : Program} {G f : Nat} {g : FuncId} (hm : P.follows .mixedOrders = true) (h : saysTrue (evCall P (cfg0 G) f g [] .leaf G) = true) (w : World) :
    Calls P g #[] w fun e w' => e = .returned (.bool true) ∧ Below w.heap.size w w' :=
  saysTrue_ok (base := w.heap.size) (w0 := w) (p := plan0 G G []) hm (fun _ _ _ h => (by cases h)) h (fun _ _ => rfl)
    (rel0 w (fun b hb => ⟨⟨b, 0, 0, 0⟩, by unfold plan0; rw [if_pos (show b < G from hb)], rfl, rfl⟩) ⟨fun x hx => (by cases hx), trivial⟩) (args' := #[]) .nil (fun b hb => by unfold plan0; rw [if_neg (show ¬ b < G by omega), if_pos hb]; simp)
end Ev
end Go.Proofs.YtakfgbedmglffaaGreatDoor
