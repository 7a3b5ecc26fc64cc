/- The evaluator's further operations, held against the model's: comparisons with nil. No program in sight. -/
import Derived.Test.YtakfgbedmglffaaGreatDoorMi
namespace Go.Proofs.YtakfgbedmglffaaGreatDoor
set_option linter.unusedSimpArgs false
set_option linter.unusedVariables false
namespace Ev
open Go.RowKit

section
variable {P : Program} {K : Cfg} {base : Nat} {w0 w : World} {p : Plan} {h h' : Tree AObj} {c c' : Nat} {l : Log}
/-! ### nil -/
def nilsNow : TypeDesc → Value → Value → Option Bool
  | .pointer _, .pointer none, .pointer b => some b.isNone
  | .pointer _, .pointer (some _), .pointer none => some false
  | .slice _, .slice none _ _, .slice b _ _ => some b.isNone
  | .slice _, .slice (some _) _ _, .slice none _ _ => some false
  | .map _ _, .map none, .map b => some b.isNone
  | .map _ _, .map (some _), .map none => some false
  | .func _ _ _, .nilFunc, .nilFunc => some true
  | .func _ _ _, .nilFunc, .func _ _ _ => some false
  | .func _ _ _, .func _ _ _, .nilFunc => some false
  | .interface _, .nilIface, .iface _ _ => some false
  | .interface _, .iface _ _, .nilIface => some false
  | _, _, _ => none
theorem nilsNow_vr {d : TypeDesc} {x x' y y' : Value} {b : Bool} (e : nilsNow d x y = some b) (hx : VR p x x') (hy : VR p y y') : nilsNow d x' y' = some b := by
  unfold nilsNow at e
  split at e <;> first
    | (cases e; cases hx <;> cases hy <;> rfl)
    | cases e
theorem run_nils {t : TypeId} {d : TypeDesc} {x y : Value} {b : Bool} (hu : P.underlying t = some d) (e : nilsNow d x y = some b) (w : World) : (Op.equal t x y).run P w = .ok b w := by
  unfold Op.equal Op.maxDepth Op.equalIn
  rw [Sem.run_bind, run_underlying hu w, Result.andThen_ok]
  unfold nilsNow at e
  split at e <;> first
    | (cases e; rfl)
    | cases e
def xNils (P : Program) (op : BinOp) (t : TypeId) (x y : Value) : Option Value := match P.underlying t with
  | some d => match nilsNow d x y, op with
    | some b, .eql => some (.bool b)
    | some b, .neq => some (.bool !b)
    | _, _ => none
  | none => none
theorem xNils_ok {op : BinOp} {t : TypeId} {a b : Operand} {x x' y y' r : Value} (e : xNils P op t x y = some r) (hx : VR p x x') (hy : VR p y y') : Pures P p (do eqGuard op t a b x' y'; binOp op t x' y') VR r := by
  intro w
  unfold xNils at e
  cases hu : P.underlying t with
  | none => rw [hu] at e; cases e
  | some d =>
    rw [hu] at e
    dsimp only at e
    cases hn : nilsNow d x y with
    | none => rw [hn] at e; cases op <;> cases e
    | some bb =>
      rw [hn] at e
      have hn' := nilsNow_vr hn hx hy
      have hr := run_nils (P := P) hu hn' w
      have hg : eqGuard op t a b x' y' = pure () := by
        unfold nilsNow at hn'
        split at hn' <;> first
          | (cases op <;> rfl)
          | cases hn'
      have hb : ∀ o : BinOp, o = .eql ∨ o = .neq → binOp o t x' y' = (do let q ← Op.equal t x' y'; pure (.bool (if o = .eql then q else !q))) := by
        intro o ho
        unfold nilsNow at hn'
        split at hn' <;> first
          | (rcases ho with rfl | rfl <;> rfl)
          | cases hn'
      rw [hg]
      cases op <;> cases e
      · refine ⟨.bool bb, ?_, .bool _⟩
        rw [Sem.run_bind]
        simp only [Sem.run_pure, Result.andThen_ok, hb .eql (.inl rfl), Sem.run_bind, hr]
        simp
      · refine ⟨.bool !bb, ?_, .bool _⟩
        rw [Sem.run_bind]
        simp only [Sem.run_pure, Result.andThen_ok, hb .neq (.inr rfl), Sem.run_bind, hr]
        simp
end
end Ev
end Go.Proofs.YtakfgbedmglffaaGreatDoor
