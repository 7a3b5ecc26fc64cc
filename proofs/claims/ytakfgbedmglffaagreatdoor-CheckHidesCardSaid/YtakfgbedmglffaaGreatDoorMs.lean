/- The evaluator's code and calls, held against the model's: a call that the evaluator answers is answered so by the model. No program in sight. -/
import Derived.Test.YtakfgbedmglffaaGreatDoorMy
import Derived.Scope
namespace Go.Proofs.YtakfgbedmglffaaGreatDoor
set_option linter.unusedSimpArgs false
set_option linter.unusedVariables false
namespace Ev
open Go.RowKit

section
variable {P : Program} {K : Cfg} {base : Nat} {w0 : World}
theorem call_ok {f : Nat} (hc : CodeOK P K base w0 f) (hlv : LeaveOK P K base w0 f) : CallOK P K base w0 (f + 1) := by
  intro g args h c0 r h' c1 l hd e p w args' hr hv hf
  unfold evCall at e
  have L := all_local P K f
  cases hfn : P.funcs[g]? with
  | none => rw [hfn] at e; cases e
  | some fn =>
  rw [hfn] at e
  dsimp only at e
  cases hb : fn.body with
  | none => rw [hb] at e; cases e
  | some c =>
  rw [hb] at e
  dsimp only at e
  split at e
  · rename_i hn
    obtain ⟨⟨x1, s1⟩, h1, cm, l1, l2, e1, e2, hda, hdb, hcm, hc2⟩ := bind_loc e hd (L.code _ _) (fun r => by
      try dsimp only
      split
      · exact L.leave _ _ _ _ _
      · exact L.leave _ _ _ _ _
      · exact L.leave _ _ _ _ _
      · exact M.local_fail)
    dsimp only at e2
    refine calls_of_wp_defers hfn hb (wp_of_wp2 (hc _ _ _ _ _ _ _ _ _ hda e1 p w _ _ hr (begin_ok hv hn) (hf.first hc2) fun p' w' a' q1 q2 q3 q4 => ?_))
    have fin : ∀ (ls : List Nat) (u : UM) (m : FrameMode), LocL ls p' s1 a' → UR p' u m → evLeave P K f fn s1 ls s1.ds u h1 cm = .ok r h' c1 l2 → Leaves P fn a'.tmps (fun e w' => ∃ p', p.le p' ∧ Out p p' c0 c1 ∧ Rel K base w0 p' h' w' ∧ CRR p' r e) a'.defers m w' := fun ls u m q4 hu el =>
      hlv _ _ _ _ _ _ _ _ _ _ _ hdb el p' w' a' _ m _ q3 q4 q4.ds hu (hf.later hcm q2) fun p'' w'' e'' k1 k2 k3 k4 => ⟨p'', Plan.le_trans q1 k1, q2.trans hcm hc2 k2, k3, k4⟩
    cases x1 with
    | normal => exact fin [] .ret .returning (LocR.toL q4) trivial e2
    | ret => exact fin [] .ret .returning (LocR.toL q4) trivial e2
    | panic v ls => exact fun v' hv' => fin ls (.pan v) (.panicking [{ v := v', recovered := false }]) q4 ⟨v', rfl, hv'⟩ e2
    | exit => cases e2
  · cases e
theorem code_ok {f : Nat} (hm : P.follows .mixedOrders = true) (hop : ∀ g, g < f → OpOK P K base w0 g) (hc : CodeOK P K base w0 f) (ho : OpsOK P K base w0 f) : CodeOK P K base w0 (f + 1) := by
  intro c s h c0 x s' h' c1 l hd e p w a Q hr hs hf hp
  unfold evCode at e
  have L := all_local P K f
  cases c with
  | skip =>
    obtain ⟨e3, rfl, rfl⟩ := pure_inv e
    cases e3
    exact wp_skip (post_now hp hr hs)
  | label =>
    obtain ⟨e3, rfl, rfl⟩ := pure_inv e
    cases e3
    exact wp_label (post_now hp hr hs)
  | exit id =>
    obtain ⟨e3, rfl, rfl⟩ := pure_inv e
    cases e3
    exact wp_exit (post_now hp hr hs)
  | ret =>
    obtain ⟨e3, rfl, rfl⟩ := pure_inv e
    cases e3
    exact wp_ret (post_now hp hr hs)
  | scope b =>
    refine wp_scope_straight (wp_of_wp2 (hc _ _ _ _ _ _ _ _ _ hd e p w a _ hr hs hf fun p' w' a' q1 q2 q3 q4 => ?_))
    have := hp p' w' a' q1 q2 q3 q4
    cases x <;> exact this
  | cond q x y =>
    dsimp only at e
    cases hb : envOf K s q with
    | none => rw [hb] at e; cases e
    | some v =>
      rw [hb] at e
      cases v with
      | bool b =>
        cases b with
        | true => exact wp_cond_true (eval_cond hb hr hs) (wp_of_wp2 (hc _ _ _ _ _ _ _ _ _ hd e p w a Q hr hs hf hp))
        | false => exact wp_cond_false (eval_cond hb hr hs) (wp_of_wp2 (hc _ _ _ _ _ _ _ _ _ hd e p w a Q hr hs hf hp))
      | _ => cases e
  | seq x1 y1 =>
    obtain ⟨⟨x2, s2⟩, h1, cm, l1, l2, e1, e2, hda, hdb, hcm, hc2⟩ := bind_loc e hd (L.code _ _) (fun r => by
      try dsimp only
      split
      · exact L.code _ _
      · exact M.local_pure _)
    refine wp_seq (wp_of_wp2 (hc _ _ _ _ _ _ _ _ _ hda e1 p w a _ hr hs (hf.first hc2) fun p' w' a' q1 q2 q3 q4 => ?_))
    cases x2 with
    | normal => exact wp_of_wp2 (hc _ _ _ _ _ _ _ _ _ hdb e2 p' w' a' Q q3 q4 (hf.later hcm q2) (hp.later hcm hc2 q1 q2))
    | _ =>
      obtain ⟨e3, rfl, rfl⟩ := pure_inv e2
      cases e3
      exact hp p' w' a' q1 q2 q3 q4
  | block id b =>
    obtain ⟨⟨x2, s2⟩, h1, cm, l1, l2, e1, e2⟩ := bind_inv e
    dsimp only at e2
    have hsame : h' = h1 ∧ c1 = cm ∧ s' = s2 ∧ ((∃ i, x2 = .exit i ∧ i = id ∧ x = .normal) ∨ ((∀ i, x2 = .exit i → i ≠ id) ∧ x = x2)) := by
      cases x2 with
      | exit i =>
        dsimp only at e2
        split at e2
        · rename_i hid
          obtain ⟨e3, rfl, rfl⟩ := pure_inv e2
          cases e3
          exact ⟨rfl, rfl, rfl, .inl ⟨i, rfl, hid, rfl⟩⟩
        · rename_i hid
          obtain ⟨e3, rfl, rfl⟩ := pure_inv e2
          cases e3
          exact ⟨rfl, rfl, rfl, .inr ⟨fun j hj => (by cases hj; exact hid), rfl⟩⟩
      | _ =>
        obtain ⟨e3, rfl, rfl⟩ := pure_inv e2
        cases e3
        exact ⟨rfl, rfl, rfl, .inr ⟨fun j hj => (by cases hj), rfl⟩⟩
    obtain ⟨rfl, rfl, rfl, hx⟩ := hsame
    refine wp_block (wp_of_wp2 (hc _ _ _ _ _ _ _ _ _ hd e1 p w a _ hr hs hf fun p' w' a' q1 q2 q3 q4 => ?_))
    have := hp p' w' a' q1 q2 q3 (by rcases hx with ⟨i, rfl, rfl, rfl⟩ | ⟨_, rfl⟩ <;> exact q4)
    rcases hx with ⟨i, rfl, rfl, rfl⟩ | ⟨hx, rfl⟩
    · show Exit.inBlock i Q (.exit i) _ _
      unfold Exit.inBlock
      dsimp only
      rw [if_pos rfl]
      exact this
    · cases x with
      | exit j =>
        show Exit.inBlock id Q (.exit j) _ _
        unfold Exit.inBlock
        dsimp only
        rw [if_neg (hx j rfl)]
        exact this
      | _ => exact this
  | loop b =>
    obtain ⟨⟨x2, s2⟩, h1, cm, l1, l2, e1, e2, hda, hdb, hcm, hc2⟩ := bind_loc e hd (L.code _ _) (fun r => by
      try dsimp only
      split
      · exact L.code _ _
      · exact M.local_pure _)
    refine loop_next (wp_of_wp2 (hc _ _ _ _ _ _ _ _ _ hda e1 p w a _ hr hs (hf.first hc2) fun p' w' a' q1 q2 q3 q4 => ?_))
    cases x2 with
    | normal => exact hc _ _ _ _ _ _ _ _ _ hdb e2 p' w' a' Q q3 q4 (hf.later hcm q2) (hp.later hcm hc2 q1 q2)
    | _ =>
      obtain ⟨e3, rfl, rfl⟩ := pure_inv e2
      cases e3
      exact hp p' w' a' q1 q2 q3 q4
  | region id ops draw =>
    cases draw with
    | true =>
      dsimp only at e
      split at e
      · rename_i hok
        exact draw_region hm hop hok hd e hr hs hf hp
      · cases e
    | false =>
      refine wp_region ?_
      rw [List.range_eq_range']
      exact ho _ _ _ _ _ _ _ _ _ _ hd e 0 p w a Q rfl hr hs hf hp
  | _ => cases e
structure AllOK (P : Program) (K : Cfg) (base : Nat) (w0 : World) (f : Nat) : Prop where
  code : CodeOK P K base w0 f
  ops : OpsOK P K base w0 f
  op : OpOK P K base w0 f
  call : CallOK P K base w0 f
  leave : LeaveOK P K base w0 f
  defer : DeferOK P K base w0 f
  codeS : CodeSOK P K base w0 f
  opsS : OpsSOK P K base w0 f
theorem all_ok (hm : P.follows .mixedOrders = true) (horc : OrcOK P K base w0) : ∀ f, AllOK P K base w0 f := by
  intro f
  induction f using Nat.strongRecOn with
  | _ f ih =>
    cases f with
    | zero =>
      refine ⟨?_, ?_, ?_, ?_, ?_, ?_, ?_, ?_⟩
      · intro _ _ _ _ _ _ _ _ _ _ e; unfold evCode at e; cases e
      · intro _ _ _ _ _ _ _ _ _ _ _ e; unfold evOps at e; cases e
      · intro _ _ _ _ _ _ _ _ _ e; unfold evOp at e; cases e
      · intro _ _ _ _ _ _ _ _ _ e; unfold evCall at e; cases e
      · intro _ _ _ _ _ _ _ _ _ _ _ _ e; unfold evLeave at e; cases e
      · intro _ _ _ _ _ _ _ _ _ _ e; unfold evDefer at e; cases e
      · intro _ _ _ _ _ _ _ _ _ _ _ _ e; unfold evCodeS at e; cases e
      · intro _ _ _ _ _ _ _ _ _ _ _ _ _ e; unfold evOpsS at e; cases e
    | succ f =>
      have A := ih f (by omega)
      exact ⟨code_ok hm (fun g hg => (ih g (by omega)).op) A.code A.ops, ops_ok A.op A.ops, op_ok horc A.call, call_ok A.code A.leave, leave_ok A.defer A.leave, defer_ok A.codeS, codeS_ok A.code A.codeS A.opsS, opsS_ok A.op A.opsS⟩
/-- a call that the evaluator answers is answered so by the model -/
theorem ev_call (hm : P.follows .mixedOrders = true) (horc : OrcOK P K base w0) {f : Nat} {g : FuncId} {args : List Value} {h : Tree AObj} {c0 : Nat} {r : CR} {h' : Tree AObj} {c1 : Nat} {l : Log} (e : evCall P K f g args h c0 = .ok r h' c1 l) (hd : M.Rng h c0 c1)
    {p : Plan} {w : World} {args' : Array Value} (hr : Rel K base w0 p h w) (hv : VRs p args args'.toList) (hf : Free p c0 c1) : Calls P g args' w fun e w' => ∃ p', p.le p' ∧ Out p p' c0 c1 ∧ Rel K base w0 p' h' w' ∧ CRR p' r e :=
  (all_ok hm horc f).call _ _ _ _ _ _ _ _ hd e p w args' hr hv hf
end
end Ev
end Go.Proofs.YtakfgbedmglffaaGreatDoor
