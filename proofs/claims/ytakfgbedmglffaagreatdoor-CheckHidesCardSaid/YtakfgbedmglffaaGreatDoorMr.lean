/- The evaluator's code, held against the model's: operations, regions in the order of the text. No program in sight. -/
import Derived.Test.YtakfgbedmglffaaGreatDoorMq
namespace Go.Proofs.YtakfgbedmglffaaGreatDoor
set_option linter.unusedSimpArgs false
set_option linter.unusedVariables false
namespace Ev
open Go.RowKit

/-- how the model comes out of an operation -/
def OVPost (K : Cfg) (base : Nat) (w0 : World) (p : Plan) (c0 c1 : Nat) (h' : Tree AObj) (r : OV) (o : Oper) (a : Act) (next : Act → World → Prop) (Q : Exit → Act → World → Prop) : Prop :=
  ∀ p' w', p.le p' → Out p p' c0 c1 → Rel K base w0 p' h' w' → match r with
    | .val v => ∀ v', VR p' v v' → next (a.put o.dst v') w'
    | .pan v => ∀ v', VR p' v v' → Q (.panic [{ v := v', recovered := false }]) a w'
    | .later g args => ∀ d, DR p' (g, args) d → next ({ a with defers := d :: a.defers }.put o.dst undef) w'
    | .recover => False
section
variable (P : Program) (K : Cfg) (base : Nat) (w0 : World)
def CRR (p : Plan) (r : CR) (e : Ending) : Prop := match r, e with
  | .ret v, .returned v' => VR p v v'
  | .pan v, .panicked ch => ∃ v', ch = [{ v := v', recovered := false }] ∧ VR p v v'
  | _, _ => False
def CodeOK (f : Nat) : Prop := ∀ (c : Code) (s : Loc) (h : Tree AObj) (c0 : Nat) (x : XE) (s' : Loc) (h' : Tree AObj) (c1 : Nat) (l : Log), M.Rng h c0 c1 → evCode P K f c s h c0 = .ok (x, s') h' c1 l →
  ∀ (p : Plan) (w : World) (a : Act) (Q : Exit → Act → World → Prop), Rel K base w0 p h w → LocR p s a → Free p c0 c1 → Post K base w0 p c0 c1 h' x s' Q → wp2 P c Q a w
def OpsOK (f : Nat) : Prop := ∀ (ops : Array Oper) (os : List Oper) (s : Loc) (h : Tree AObj) (c0 : Nat) (x : XE) (s' : Loc) (h' : Tree AObj) (c1 : Nat) (l : Log), M.Rng h c0 c1 → evOps P K f ops os s h c0 = .ok (x, s') h' c1 l →
  ∀ (i : Nat) (p : Plan) (w : World) (a : Act) (Q : Exit → Act → World → Prop), os = ops.toList.drop i → Rel K base w0 p h w → LocR p s a → Free p c0 c1 → Post K base w0 p c0 c1 h' x s' Q → wpOps P ops Q (List.range' i (ops.size - i)) a w
def OpOK (f : Nat) : Prop := ∀ (o : Oper) (ρ : Env) (h : Tree AObj) (c0 : Nat) (r : OV) (h' : Tree AObj) (c1 : Nat) (l : Log), M.Rng h c0 c1 → evOp P K f o ρ h c0 = .ok r h' c1 l →
  ∀ (p : Plan) (w : World) (a : Act), Rel K base w0 p h w → EnvR p ρ a.eval → Free p c0 c1 →
    (r = .recover → ∃ p' w', p.le p' ∧ Out p p' c0 c1 ∧ Rel K base w0 p' h' w' ∧ (execOp a.eval o).run P w = .ok .recover w') ∧
    (r ≠ .recover → ∀ (next : Act → World → Prop) (Q : Exit → Act → World → Prop), OVPost K base w0 p c0 c1 h' r o a next Q → o.wp P a w next Q)
def CallOK (f : Nat) : Prop := ∀ (g : FuncId) (args : List Value) (h : Tree AObj) (c0 : Nat) (r : CR) (h' : Tree AObj) (c1 : Nat) (l : Log), M.Rng h c0 c1 → evCall P K f g args h c0 = .ok r h' c1 l →
  ∀ (p : Plan) (w : World) (args' : Array Value), Rel K base w0 p h w → VRs p args args'.toList → Free p c0 c1 → Calls P g args' w fun e w' => ∃ p', p.le p' ∧ Out p p' c0 c1 ∧ Rel K base w0 p' h' w' ∧ CRR p' r e
end
section
variable {P : Program} {K : Cfg} {base : Nat} {w0 : World}
theorem post_now {p : Plan} {w : World} {h : Tree AObj} {c0 c1 : Nat} {x : XE} {s : Loc} {a : Act} {Q : Exit → Act → World → Prop} (hp : Post K base w0 p c0 c1 h x s Q) (hr : Rel K base w0 p h w) (hs : LocX x p s a) : XQ x p Q a w :=
  hp p w a (Plan.le_refl _) Out.rfl hr hs
/-- the parts of one program behind another: each from where no number is in use -/
theorem bind_loc {β γ : Type} {m : M AObj β} {f : β → M AObj γ} {h : Tree AObj} {c : Nat} {y : γ} {h2 : Tree AObj} {c2 : Nat} {l : Log} (e : M.bind m f h c = .ok y h2 c2 l) (hd : M.Rng h c c2) (hm : M.Local m) (hf : ∀ x, M.Local (f x)) :
    ∃ x h1 c1 l1 l2, m h c = .ok x h1 c1 l1 ∧ f x h1 c1 = .ok y h2 c2 l2 ∧ M.Rng h c c1 ∧ M.Rng h1 c1 c2 ∧ c ≤ c1 ∧ c1 ≤ c2 := by
  obtain ⟨x, h1, c1, l1, l2, e1, e2⟩ := bind_inv e
  obtain ⟨hc1, A⟩ := hm _ _ _ _ _ _ e1
  have hc2 := (hf x _ _ _ _ _ _ e2).1
  exact ⟨x, h1, c1, l1, l2, e1, e2, hd.first hc2, (A (hd.first hc2)).rest hc1 hd, hc1, hc2⟩
/-- what the evaluator is told of some functions is so -/
def OrcOK (P : Program) (K : Cfg) (base : Nat) (w0 : World) : Prop := ∀ (g : FuncId) (args : List Value) (m : M AObj Value), K.orc g args = some m → ∀ (h : Tree AObj) (c : Nat) (v : Value) (h' : Tree AObj) (c' : Nat) (l : Log), m h c = .ok v h' c' l →
  ∀ (p : Plan) (w : World) (args' : Array Value), Rel K base w0 p h w → VRs p args args'.toList → Free p c c' →
  Calls P g args' w fun e w' => ∃ p' v', e = .returned v' ∧ p.le p' ∧ Out p p' c c' ∧ Rel K base w0 p' h' w' ∧ VR p' v v'
theorem op_ok {f : Nat} (horc : OrcOK P K base w0) (hc : CallOK P K base w0 f) : OpOK P K base w0 (f + 1) := by
  intro o ρ h c0 r h' c1 l hd e p w a hr hρ hf
  unfold evOp at e
  have L := all_local P K f
  obtain ⟨x, h1, cm, l1, l2, e1, e2, -, hd1, hcm, hc2⟩ := bind_loc e hd (local_xOp _ _) (fun r => by
    try dsimp only
    split
    · exact M.local_pure _
    · exact M.local_pure _
    · split
      · rename_i m hm
        exact M.local_bind (K.loc _ _ _ hm) fun _ => M.local_pure _
      · refine M.local_bind (L.call _ _) fun r => ?_
        split <;> exact M.local_pure _
    · exact M.local_pure _
    · exact M.local_pure _
    · exact M.local_pure _)
  cases x with
  | val v =>
    obtain ⟨rfl, rfl, rfl⟩ := pure_inv e2
    refine ⟨fun h => (by cases h), fun _ next Q hp => ?_⟩
    obtain ⟨p', w', y, k1, ⟨v', rfl, k2⟩, k3, k4, k5⟩ := xOp_ok (P := P) e1 hρ hr hf
    unfold Oper.wp
    rw [k1, Oper.upon_value]
    exact hp p' w' k4 k5 k3 _ k2
  | skip =>
    obtain ⟨rfl, rfl, rfl⟩ := pure_inv e2
    refine ⟨fun h => (by cases h), fun _ next Q hp => ?_⟩
    obtain ⟨p', w', y, k1, k2, k3, k4, k5⟩ := xOp_ok (P := P) e1 hρ hr hf
    unfold Oper.wp
    rw [k1, k2, Oper.upon_skip]
    exact hp p' w' k4 k5 k3 _ undef_vr
  | defer g args =>
    obtain ⟨rfl, rfl, rfl⟩ := pure_inv e2
    refine ⟨fun h => (by cases h), fun _ next Q hp => ?_⟩
    obtain ⟨p', w', y, k1, ⟨ys, cap, rfl, k2⟩, k3, k4, k5⟩ := xOp_ok (P := P) e1 hρ hr hf
    unfold Oper.wp
    rw [k1, Oper.upon_defer]
    exact hp p' w' k4 k5 k3 _ ⟨ys, cap, rfl, k2⟩
  | panic v =>
    obtain ⟨rfl, rfl, rfl⟩ := pure_inv e2
    refine ⟨fun h => (by cases h), fun _ next Q hp => ?_⟩
    obtain ⟨v', k1, k2, k3, rfl⟩ := xOp_ok (P := P) e1 hρ hr hf
    unfold Oper.wp
    rw [k1, Oper.upon_panic]
    exact hp p w (Plan.le_refl _) Out.rfl k3 v' k2
  | recover =>
    obtain ⟨rfl, rfl, rfl⟩ := pure_inv e2
    refine ⟨fun _ => ?_, fun h => absurd rfl h⟩
    obtain ⟨p', w', y, k1, k2, k3, k4, k5⟩ := xOp_ok (P := P) e1 hρ hr hf
    exact ⟨p', w', k4, k5, k3, by rw [k1, k2]⟩
  | enter g args =>
    dsimp only at e2
    cases hk : K.orc g args with
    | some m =>
      rw [hk] at e2
      obtain ⟨v, h2, c2, l3, l4, e3, e4⟩ := bind_inv e2
      obtain ⟨rfl, rfl, rfl⟩ := pure_inv e4
      refine ⟨fun h => (by cases h), fun _ next Q hp => ?_⟩
      obtain ⟨p', w', y, k1, ⟨ys, rfl, k2⟩, k3, k4, k5⟩ := xOp_ok (P := P) e1 hρ hr (hf.first hc2)
      unfold Oper.wp
      rw [k1, Oper.upon_enter]
      refine (horc g args _ hk _ _ _ _ _ _ e3 p' w' ys k3 k2 (hf.later hcm k5)).mono ?_
      rintro e w'' ⟨p'', v', rfl, q1, q2, q3, q4⟩
      exact hp p'' w'' (Plan.le_trans k4 q1) (Out.trans hcm hc2 k5 q2) q3 v' q4
    | none =>
    rw [hk] at e2
    obtain ⟨rr, h2, c2, l3, l4, e3, e4⟩ := bind_inv e2
    obtain ⟨hc1, hh1⟩ : c1 = c2 ∧ h' = h2 := by
      cases rr with
      | ret v => obtain ⟨-, k1, k2⟩ := pure_inv e4; exact ⟨k2, k1⟩
      | pan v => obtain ⟨-, k1, k2⟩ := pure_inv e4; exact ⟨k2, k1⟩
    subst hc1
    subst hh1
    have hcall := hc _ _ _ _ _ _ _ _ hd1 e3
    have key : ∀ (next : Act → World → Prop) (Q : Exit → Act → World → Prop),
        (∀ p' w' e, p.le p' → Out p p' c0 c1 → Rel K base w0 p' h' w' → CRR p' rr e → match e with
          | .returned v => next (a.put o.dst v) w'
          | .panicked ch => Q (.panic ch) a w'
          | .outgrown => LetsOut Q) → o.wp P a w next Q := by
      intro next Q hq
      obtain ⟨p', w', y, k1, ⟨ys, rfl, k2⟩, k3, k4, k5⟩ := xOp_ok (P := P) e1 hρ hr (hf.first hc2)
      unfold Oper.wp
      rw [k1, Oper.upon_enter]
      refine (hcall p' w' ys k3 k2 (hf.later hcm k5)).mono ?_
      rintro e w'' ⟨p'', q1, q2, q3, q4⟩
      have := hq p'' w'' e (Plan.le_trans k4 q1) (Out.trans hcm hc2 k5 q2) q3 q4
      cases e <;> exact this
    cases rr with
    | ret v =>
      obtain ⟨rfl, -, -⟩ := pure_inv e4
      refine ⟨fun h => (by cases h), fun _ next Q hp => key next Q fun p' w' e q1 q2 q3 q4 => ?_⟩
      cases e with
      | returned v' => exact hp p' w' q1 q2 q3 v' q4
      | panicked => exact q4.elim
      | outgrown => exact q4.elim
    | pan v =>
      obtain ⟨rfl, -, -⟩ := pure_inv e4
      refine ⟨fun h => (by cases h), fun _ next Q hp => key next Q fun p' w' e q1 q2 q3 q4 => ?_⟩
      cases e with
      | returned v' => exact q4.elim
      | panicked ch =>
        obtain ⟨v', rfl, q5⟩ := q4
        exact hp p' w' q1 q2 q3 v' q5
      | outgrown => exact q4.elim
theorem LocR.later {p : Plan} {s : Loc} {a : Act} {g : FuncId} {args : List Value} {d : Deferred} (hs : LocR p s a) (hd : DR p (g, args) d) : LocR p (s.later (g, args)) { a with defers := d :: a.defers } := by
  obtain ⟨tm, n, ds⟩ := s
  exact ⟨hs.tm, hs.n, .cons hd hs.ds⟩
theorem list_split {ops : Array Oper} {o : Oper} {os : List Oper} {i : Nat} (hi : o :: os = ops.toList.drop i) : ops[i]? = some o ∧ os = ops.toList.drop (i + 1) ∧ ops.size - i = (ops.size - (i + 1)) + 1 := by
  have h1 : ops.toList[i]? = some o := by
    have := congrArg (·[0]?) hi
    simpa using this.symm
  have h2 : i < ops.size := by simpa using (List.getElem?_eq_some_iff.1 h1).1
  refine ⟨by simpa using h1, ?_, by omega⟩
  have := congrArg List.tail hi
  simpa using this
theorem list_end {ops : Array Oper} {i : Nat} (hi : [] = ops.toList.drop i) : ops.size - i = 0 := by
  have := congrArg List.length hi
  simp at this
  omega
theorem ops_ok {f : Nat} (ho : OpOK P K base w0 f) (hos : OpsOK P K base w0 f) : OpsOK P K base w0 (f + 1) := by
  intro ops os s h c0 x s' h' c1 l hd e i p w a Q hi hr hs hf hp
  unfold evOps at e
  have L := all_local P K f
  cases os with
  | nil =>
    obtain ⟨e3, rfl, rfl⟩ := pure_inv e
    cases e3
    rw [list_end hi]
    exact post_now hp hr hs
  | cons o os =>
    obtain ⟨g1, g2, g3⟩ := list_split hi
    rw [g3, List.range'_succ]
    dsimp only at e
    by_cases hw : Region.wanted o (yieldedX ops s) = true
    · rw [hw] at e
      try dsimp only at e
      simp only [wpOps, g1, ← yieldedX_eq hs ops, hw, if_true]
      refine .inl ?_
      obtain ⟨r, h1, cm, l1, l2, e1, e2, hd0, hd1, hcm, hc2⟩ := bind_loc e hd (L.op _ _) (fun r => by
        try dsimp only
        split
        · exact L.ops _ _ _
        · exact M.local_pure _
        · exact L.ops _ _ _
        · exact M.local_fail)
      obtain ⟨-, k2⟩ := ho _ _ _ _ _ _ _ _ hd0 e1 p w a hr (envR hr hs) (hf.first hc2)
      cases r with
      | val v =>
        refine k2 (by simp) _ _ fun p' w' q1 q2 q3 v' q4 => ?_
        exact hos _ _ _ _ _ _ _ _ _ _ hd1 e2 (i + 1) p' w' _ Q g2 q3 ((hs.mono q1).put q4 _) (hf.later hcm q2) (hp.later hcm hc2 q1 q2)
      | later g args =>
        refine k2 (by simp) _ _ fun p' w' q1 q2 q3 d q4 => ?_
        exact hos _ _ _ _ _ _ _ _ _ _ hd1 e2 (i + 1) p' w' _ Q g2 q3 (((hs.mono q1).later q4).put undef_vr _) (hf.later hcm q2) (hp.later hcm hc2 q1 q2)
      | pan v =>
        obtain ⟨e3, rfl, rfl⟩ := pure_inv e2
        cases e3
        refine k2 (by simp) _ _ fun p' w' q1 q2 q3 v' q4 => ?_
        exact hp p' w' a q1 q2 q3 (hs.mono q1).toL v' q4
      | recover => cases e2
    · rw [show Region.wanted o (yieldedX ops s) = false by simpa using hw] at e
      try dsimp only at e
      simp only [wpOps, g1, ← yieldedX_eq hs ops, hw]
      exact hos _ _ _ _ _ _ _ _ _ _ hd e (i + 1) p w _ Q g2 hr (hs.put undef_vr _) hf hp
end
end Ev
end Go.Proofs.YtakfgbedmglffaaGreatDoor
