/- The evaluator's operations all together, held against the model's. No program in sight. -/
import Derived.Test.YtakfgbedmglffaaGreatDoorMl
namespace Go.Proofs.YtakfgbedmglffaaGreatDoor
set_option linter.unusedSimpArgs false
set_option linter.unusedVariables false
namespace Ev
open Go.RowKit

/-- what the operands read as -/
abbrev Env := Operand → Option Value
def EnvR (p : Plan) (ρ : Env) (ρ' : Operand → Value) : Prop := ∀ x v, ρ x = some v → VR p v (ρ' x)
def evals (ρ : Env) : List Operand → Option (List Value)
  | [] => some []
  | x :: l => match ρ x with
    | some v => match evals ρ l with
      | some vs => some (v :: vs)
      | none => none
    | none => none
theorem evals_vrs {p : Plan} {ρ : Env} {ρ' : Operand → Value} (hρ : EnvR p ρ ρ') : ∀ {xs : List Operand} {vs : List Value}, evals ρ xs = some vs → VRs p vs (xs.map ρ')
  | [], _, e => by cases e; exact .nil
  | x :: l, vs, e => by
    unfold evals at e
    cases hx : ρ x with
    | none => rw [hx] at e; cases e
    | some v =>
      rw [hx] at e
      cases hl : evals ρ l with
      | none => rw [hl] at e; cases e
      | some us =>
        rw [hl] at e
        cases e
        exact .cons (hρ x v hx) (evals_vrs hρ hl)
def evalsP (ρ : Env) : List (Nat × Operand) → Option (List (Nat × Value))
  | [] => some []
  | (i, x) :: l => match ρ x with
    | some v => match evalsP ρ l with
      | some vs => some ((i, v) :: vs)
      | none => none
    | none => none
theorem evalsP_pr {p : Plan} {ρ : Env} {ρ' : Operand → Value} (hρ : EnvR p ρ ρ') : ∀ {xs : List (Nat × Operand)} {vs : List (Nat × Value)}, evalsP ρ xs = some vs → PR p vs (xs.map fun (i, x) => (i, ρ' x))
  | [], _, e => by cases e; exact .nil
  | (i, x) :: l, vs, e => by
    unfold evalsP at e
    cases hx : ρ x with
    | none => rw [hx] at e; cases e
    | some v =>
      rw [hx] at e
      cases hl : evalsP ρ l with
      | none => rw [hl] at e; cases e
      | some us =>
        rw [hl] at e
        cases e
        exact .cons (hρ x v hx) (evalsP_pr hρ hl)
def evalO (ρ : Env) : Option Operand → Option (Option Value)
  | none => some none
  | some x => match ρ x with
    | some v => some (some v)
    | none => none
/-- what an operation comes to -/
inductive OR where
  | val (v : Value)
  | skip
  | enter (f : FuncId) (args : List Value)
  | defer (f : FuncId) (args : List Value)
  | recover
  | panic (v : Value)
section
variable {P : Program} {K : Cfg} {base : Nat} {w0 w : World} {p : Plan} {h h' : Tree AObj} {c c' : Nat} {l : Log}
def NV (p : Plan) (v : Value) (n : Next) : Prop := ∃ v', n = .value v' ∧ VR p v v'
def GivesO (P : Program) (K : Cfg) (base : Nat) (w0 : World) (p : Plan) (w : World) (c c' : Nat) (h' : Tree AObj) (t : Sem Next) (x : OR) : Prop := match x with
  | .val v => Gives P K base w0 p w c c' h' NV t v
  | .skip => Gives P K base w0 p w c c' h' (fun _ (_ : Unit) n => n = .skip) t ()
  | .enter f args => Gives P K base w0 p w c c' h' (fun p xs n => ∃ ys, n = .enter f ys ∧ VRs p xs ys.toList) t args
  | .defer f args => Gives P K base w0 p w c c' h' (fun p xs n => ∃ ys cap, n = .defer ⟨.fn (.func f) cap, ys⟩ ∧ VRs p xs (ys ++ cap).toList) t args
  | .recover => Gives P K base w0 p w c c' h' (fun _ (_ : Unit) n => n = .recover) t ()
  | .panic v => ∃ v', t.run P w = .halt (.panic v') w ∧ VR p v v' ∧ Rel K base w0 p h' w ∧ c' = c
noncomputable def ofV (m : M AObj Value) : M AObj OR := M.bind m fun v => M.pure (.val v)
noncomputable def ofU (m : M AObj Unit) : M AObj OR := M.bind m fun _ => M.pure .skip
theorem ofV_ok {m : M AObj Value} {s : Sem Value} {r : OR} (e : ofV m h c = .ok r h' c' l) (hs : ∀ v l', m h c = .ok v h' c' l' → Gives P K base w0 p w c c' h' VR s v) :
    GivesO P K base w0 p w c c' h' (do pure (.value (← s))) r := by
  obtain ⟨v, h1, c1, l1, l2, e1, e2⟩ := bind_inv e
  obtain ⟨rfl, rfl, rfl⟩ := pure_inv e2
  obtain ⟨p', w', y, k1, k2, k3⟩ := hs v _ e1
  refine ⟨p', w', .value y, ?_, ⟨y, rfl, k2⟩, k3⟩
  rw [Sem.run_bind, k1]
  rfl
theorem ofU_ok {m : M AObj Unit} {s : Sem Unit} {r : OR} (e : ofU m h c = .ok r h' c' l) (hs : ∀ v l', m h c = .ok v h' c' l' → Gives P K base w0 p w c c' h' (fun _ _ _ => True) s v) :
    GivesO P K base w0 p w c c' h' (do s; pure .skip) r := by
  obtain ⟨v, h1, c1, l1, l2, e1, e2⟩ := bind_inv e
  obtain ⟨rfl, rfl, rfl⟩ := pure_inv e2
  obtain ⟨p', w', y, k1, k2, k3⟩ := hs v _ e1
  refine ⟨p', w', .skip, ?_, rfl, k3⟩
  rw [Sem.run_bind, k1]
  rfl
def withV {β : Type} (o : Option Value) (f : Value → M AObj β) : M AObj β := fun h c => match o with
  | some v => f v h c
  | none => .no
theorem withV_inv {β : Type} {o : Option Value} {f : Value → M AObj β} {y : β} (e : withV o f h c = .ok y h' c' l) : ∃ v, o = some v ∧ f v h c = .ok y h' c' l := by
  unfold withV at e
  cases o with
  | none => cases e
  | some v => exact ⟨v, rfl, e⟩
/-- a value that asks nothing of the heap -/
def optV (o : Option Value) : M AObj Value := liftO o
theorem optV_ok {o : Option Value} {s : Sem Value} (hr : Rel K base w0 p h w) (hs : ∀ v, o = some v → Pures P p s VR v) : ∀ v l', optV o h c = .ok v h' c' l' → Gives P K base w0 p w c c' h' VR s v := by
  intro v l' e
  obtain ⟨e1, rfl, rfl⟩ := liftO_inv e
  exact (hs v e1).gives hr
/-- the model's own code, on values that have no address: a value or a panic -/
def plainO (P : Program) (s : Sem Value) : M AObj OR := match xPure P s with
  | some (.ok v) => M.pure (.val v)
  | some (.error v) => M.pure (.panic v)
  | none => M.fail
theorem plainO_ok {s : Sem Value} {r : OR} (e : plainO P s h c = .ok r h' c' l) (hr : Rel K base w0 p h w) : GivesO P K base w0 p w c c' h' (do pure (.value (← s))) r := by
  unfold plainO at e
  cases hx : xPure P s with
  | none => rw [hx] at e; cases e
  | some x =>
    rw [hx] at e
    cases x with
    | ok v =>
      obtain ⟨rfl, rfl, rfl⟩ := pure_inv e
      obtain ⟨p', w', y, k1, k2, k3⟩ := xPure_ok (P := P) (c := c') hx hr
      exact ⟨p', w', .value y, by rw [Sem.run_bind, k1]; rfl, ⟨y, rfl, k2⟩, k3⟩
    | error v =>
      obtain ⟨rfl, rfl, rfl⟩ := pure_inv e
      obtain ⟨k1, k2⟩ := xPure_panic (P := P) (w := w) (p := p) hx
      exact ⟨v, by rw [Sem.run_bind, k1]; rfl, k2, hr, rfl⟩
theorem val_ok {s : Sem Value} {u : Value} {r : OR} (hs : s.run P w = .ok u w) (hu : plainF 9 u = true) (e : (M.pure (.val u) : M AObj OR) h c = .ok r h' c' l) (hr : Rel K base w0 p h w) : GivesO P K base w0 p w c c' h' (do pure (.value (← s))) r := by
  obtain ⟨rfl, rfl, rfl⟩ := pure_inv e
  exact ⟨p, w, .value u, by rw [Sem.run_bind, hs]; rfl, ⟨u, rfl, plain_vr 9 u hu⟩, hr, Plan.le_refl _, fun _ _ => rfl⟩
end
end Ev
end Go.Proofs.YtakfgbedmglffaaGreatDoor
