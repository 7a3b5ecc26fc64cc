/- The evaluator: nothing beside what a run touched matters to it. No program in sight. -/
import Derived.Test.YtakfgbedmglffaaGreatDoorMn
namespace Go.Proofs.YtakfgbedmglffaaGreatDoor
set_option linter.unusedSimpArgs false
set_option linter.unusedVariables false
namespace Ev
open Go.RowKit

section
variable {P : Program} {K : Cfg}
theorem local_resX {s : Loc} : ∀ rs : List ResultVar, M.Local (resX P s rs)
  | [] => M.local_pure _
  | .tmp _ :: rs => M.local_bind (local_resX rs) fun _ => M.local_pure _
  | .cell _ _ :: rs => M.local_bind (local_xLoad _ _) fun _ => M.local_bind (local_resX rs) fun _ => M.local_pure _
/-- one program behind another, which is asked what the first one touched -/
theorem local_bindL {β γ : Type} {m : M AObj β} {g : β → Log → M AObj γ} (hm : M.Local m) (hg : ∀ x l, M.Local (g x l)) :
    M.Local (fun h c => match m h c with
      | .ok x h' c' l => match g x l h' c' with
        | .ok r h'' c'' l' => .ok r h'' c'' (l.and l')
        | .no => .no
      | .no => .no) := by
  intro h c y h2 c2 l e
  dsimp only at e
  cases e1 : m h c with
  | no => rw [e1] at e; cases e
  | ok x h1 c1 l1 =>
    rw [e1] at e
    dsimp only at e
    cases e2 : g x l1 h1 c1 with
    | no => rw [e2] at e; cases e
    | ok y' h2' c2' l2 =>
      rw [e2] at e
      cases e
      obtain ⟨hc, A'⟩ := (M.local_bind (f := fun x => g x l1) hm (fun x => hg x l1)) h c y h2 c2 _ (by rw [M.bind_eq, e1]; dsimp only; rw [e2])
      refine ⟨hc, fun hr => ?_⟩
      have A := A' hr
      have hc2 := (hg x l1 _ _ _ _ _ _ e2).1
      have hr1 := hr.first hc2
      refine { A with move := fun g0 hg0 hga => ?_ }
      obtain ⟨g', k1, k2, k3⟩ := A.move g0 hg0 hga
      refine ⟨g', ?_, k2, k3⟩
      obtain ⟨hc1, B'⟩ := hm h c x h1 c1 l1 e1
      have B := (B' hr1).move g0 (hg0.first hc2) (fun b hb hl => by
        by_cases hin : c1 ≤ b ∧ b < c2
        · rw [hg0 b (by omega) hin.2, hr b (by omega) hin.2]
        · exact hga b (by omega) (by rw [M.and_t, hl]; rfl))
      obtain ⟨g1, q1, -, -⟩ := B
      rw [M.bind_eq, q1] at k1
      show (match m g0 c with | .ok x h' c' l => _ | .no => _) = _
      rw [q1]
      dsimp only at k1 ⊢
      cases e3 : g x l1 g1 c1 with
      | no => rw [e3] at k1; cases k1
      | ok => rw [e3] at k1; exact k1
variable (P K)
structure AllLocal (f : Nat) : Prop where
  code : ∀ c s, M.Local (evCode P K f c s)
  ops : ∀ ops os s, M.Local (evOps P K f ops os s)
  draw : ∀ ops os ms i done s, M.Local (evDraw P K f ops os ms i done s)
  op : ∀ o ρ, M.Local (evOp P K f o ρ)
  call : ∀ g args, M.Local (evCall P K f g args)
  leave : ∀ fn s ls ds u, M.Local (evLeave P K f fn s ls ds u)
  defer : ∀ g args u, M.Local (evDefer P K f g args u)
  codeS : ∀ c s u, M.Local (evCodeS P K f c s u)
  opsS : ∀ ops os s u, M.Local (evOpsS P K f ops os s u)
theorem all_local : ∀ f, AllLocal P K f
  | 0 => by
    refine ⟨?_, ?_, ?_, ?_, ?_, ?_, ?_, ?_, ?_⟩ <;> intros
    · unfold evCode; exact M.local_fail
    · unfold evOps; exact M.local_fail
    · unfold evDraw; exact M.local_fail
    · unfold evOp; exact M.local_fail
    · unfold evCall; exact M.local_fail
    · unfold evLeave; exact M.local_fail
    · unfold evDefer; exact M.local_fail
    · unfold evCodeS; exact M.local_fail
    · unfold evOpsS; exact M.local_fail
  | f + 1 => by
    have A := all_local f
    refine ⟨fun c s => ?_, fun ops os s => ?_, fun ops os ms i done s => ?_, fun o ρ => ?_, fun g args => ?_, fun fn s ls ds u => ?_, fun g args u => ?_, fun c s u => ?_, fun ops os s u => ?_⟩
    · unfold evCode
      split
      · exact M.local_pure _
      · exact M.local_pure _
      · refine M.local_bind (A.code _ _) fun r => ?_
        split
        · exact A.code _ _
        · exact M.local_pure _
      · split
        · exact A.code _ _
        · exact A.code _ _
        · exact M.local_fail
      · refine M.local_bind (A.code _ _) fun r => ?_
        repeat' split
        all_goals exact M.local_pure _
      · refine M.local_bind (A.code _ _) fun r => ?_
        split
        · exact A.code _ _
        · exact M.local_pure _
      · exact M.local_pure _
      · exact A.code _ _
      · exact M.local_pure _
      · exact A.ops _ _ _
      · split
        · exact A.draw _ _ _ _ _ _
        · exact M.local_fail
      · exact M.local_fail
    · unfold evOps
      split
      · exact M.local_pure _
      · split
        · refine M.local_bind (A.op _ _) fun r => ?_
          split
          · exact A.ops _ _ _
          · exact M.local_pure _
          · exact A.ops _ _ _
          · exact M.local_fail
        · exact A.ops _ _ _
    · unfold evDraw
      split
      · exact M.local_pure _
      · split
        · exact M.local_fail
        · split
          · rename_i o os _ m ms _ hw
            have B := local_bindL (A.op o (envOf K s)) (g := fun r l => match r with
              | .val v => if clash m l done then M.fail else evDraw P K f ops os ms (i + 1) ((i, l) :: done) (s.put o.dst v)
              | .pan v => if clash m l done then M.fail else if quietAll m done && ms.all (fun k => k.testBit i) then M.pure (.panic v (dstsOf ops), s) else M.fail
              | _ => M.fail) (fun r l => by
                split
                · split
                  · exact M.local_fail
                  · exact A.draw _ _ _ _ _ _
                · split
                  · exact M.local_fail
                  · split
                    · exact M.local_pure _
                    · exact M.local_fail
                · exact M.local_fail)
            refine cast (congrArg M.Local ?_) B
            funext h c
            cases evOp P K f o (envOf K s) h c with
            | no => rfl
            | ok r h' c' l =>
              cases r with
              | val v =>
                dsimp only
                by_cases hc : clash m l done = true
                · simp only [if_pos hc]; rfl
                · simp only [if_neg hc]
                  cases evDraw P K f ops os ms (i + 1) ((i, l) :: done) (s.put o.dst _) h' c' <;> rfl
              | pan v =>
                dsimp only
                by_cases hc : clash m l done = true
                · simp only [if_pos hc]; rfl
                · simp only [if_neg hc]
                  by_cases hq : (quietAll m done && ms.all fun k => k.testBit i) = true
                  · simp only [if_pos hq]; rfl
                  · simp only [if_neg hq]; rfl
              | _ => rfl
          · exact A.draw _ _ _ _ _ _
    · unfold evOp
      refine M.local_bind (local_xOp _ _) fun r => ?_
      split
      · exact M.local_pure _
      · exact M.local_pure _
      · split
        · rename_i m hm
          exact M.local_bind (K.loc _ _ _ hm) fun _ => M.local_pure _
        · refine M.local_bind (A.call _ _) fun r => ?_
          split <;> exact M.local_pure _
      · exact M.local_pure _
      · exact M.local_pure _
      · exact M.local_pure _
    · unfold evCall
      split
      · exact M.local_fail
      · split
        · exact M.local_fail
        · split
          · refine M.local_bind (A.code _ _) fun r => ?_
            split
            · exact A.leave _ _ _ _ _
            · exact A.leave _ _ _ _ _
            · exact A.leave _ _ _ _ _
            · exact M.local_fail
          · exact M.local_fail
    · unfold evLeave
      split
      · split
        · split
          · exact M.local_fail
          · exact M.local_bind (local_resX _) fun _ => M.local_pure _
        · exact M.local_pure _
        · exact M.local_fail
      · exact M.local_bind (A.defer _ _ _) fun _ => A.leave _ _ _ _ _
    · unfold evDefer
      split
      · split
        · exact M.local_fail
        · split
          · exact M.local_fail
          · split
            · refine M.local_bind (A.codeS _ _ _) fun r => ?_
              split
              · split
                · exact M.local_bind (local_resX _) fun _ => M.local_pure _
                · exact M.local_bind (local_resX _) fun _ => M.local_pure _
                · exact M.local_fail
              · exact M.local_fail
            · exact M.local_fail
      · exact M.local_fail
    · unfold evCodeS
      split
      · refine M.local_bind (A.codeS _ _ _) fun r => ?_
        split
        · exact A.codeS _ _ _
        · exact M.local_pure _
      · split
        · exact A.codeS _ _ _
        · exact A.codeS _ _ _
        · exact M.local_fail
      · refine M.local_bind (A.codeS _ _ _) fun r => ?_
        repeat' split
        all_goals exact M.local_pure _
      · exact A.opsS _ _ _ _
      · exact M.local_bind (A.code _ _) fun _ => M.local_pure _
    · unfold evOpsS
      split
      · exact M.local_pure _
      · split
        · refine M.local_bind (A.op _ _) fun r => ?_
          split
          · exact A.opsS _ _ _ _
          · exact M.local_pure _
          · exact M.local_fail
          · split
            · exact A.opsS _ _ _ _
            · exact A.opsS _ _ _ _
        · exact A.opsS _ _ _ _
/-- an operation asks just what its operands read as -/
theorem evOp_congr {f : Nat} {ρ ρ' : Env} (o : Oper) (h : ∀ x ∈ o.op.operands, ρ x = ρ' x) : evOp P K f o ρ = evOp P K f o ρ' := by
  cases f with
  | zero => unfold evOp; rfl
  | succ f => unfold evOp; rw [xOp_congr o h]
end
end Ev
end Go.Proofs.YtakfgbedmglffaaGreatDoor
