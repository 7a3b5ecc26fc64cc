/- The evaluator's deferred calls, held against the model's: a function's end, and the catching of its panic. No program in sight. -/
import Derived.Test.YtakfgbedmglffaaGreatDoorMx
import Derived.Recover
namespace Go.Proofs.YtakfgbedmglffaaGreatDoor
set_option linter.unusedSimpArgs false
set_option linter.unusedVariables false
namespace Ev
open Go.RowKit

def UR (p : Plan) (u : UM) (m : FrameMode) : Prop := match u, m with
  | .ret, .returning => True
  | .pan v, .panicking ch => ∃ v', ch = [{ v := v', recovered := false }] ∧ VR p v v'
  | .caught v, .panicking ch => ∃ v', ch = [{ v := v', recovered := true }] ∧ VR p v v'
  | _, _ => False
theorem UR.mono {p q : Plan} {u : UM} {m : FrameMode} (hpq : p.le q) (h : UR p u m) : UR q u m := by
  unfold UR at h ⊢
  cases u <;> cases m <;> first
    | exact h
    | (obtain ⟨v', h1, h2⟩ := h; exact ⟨v', h1, h2.mono hpq⟩)
theorem UR.settle {p : Plan} {u : UM} {m : FrameMode} (h : UR p u m) : UR p (settleX u) (settle m) := by
  unfold UR at h
  cases u <;> cases m <;> first
    | exact h.elim
    | trivial
    | (obtain ⟨v', rfl, h2⟩ := h; exact ⟨v', rfl, h2⟩)
    | (obtain ⟨v', rfl, h2⟩ := h; trivial)
theorem UR.notRun {p : Plan} {u : UM} {m : FrameMode} (h : UR p u m) : m ≠ .run := by
  rintro rfl
  cases u <;> exact h
def Exit.inBlockS (id : Nat) (Q : Exit → Act → List Frame → World → Prop) : Exit → Act → List Frame → World → Prop
  | .exit i, a, cs, w => if i = id then Q .normal a cs w else Q (.exit i) a cs w
  | e, a, cs, w => Q e a cs w
theorem wpS_block {P : Program} {Q : Exit → Act → List Frame → World → Prop} {a : Act} {cs : List Frame} {w : World} {id : Nat} {c : Code} (h : c.wpS P (Exit.inBlockS id Q) a cs w) : (Code.block id c).wpS P Q a cs w := by
  intro b k hb hr
  obtain ⟨e, a₁, cs₁, w₁, hq, harr⟩ := h b (.inBlock id :: k) hb hr
  cases e with
  | normal => exact ⟨.normal, a₁, cs₁, w₁, hq, .head step_block (Steps.trans harr (.one step_inBlock))⟩
  | exit id' =>
    by_cases hid : id' = id
    · simp only [Exit.inBlockS, hid, if_true] at hq
      exact ⟨.normal, a₁, cs₁, w₁, hq, .head step_block (harr k (by simp [exitTo, hid]))⟩
    · simp only [Exit.inBlockS, hid, if_false] at hq
      refine ⟨.exit id', a₁, cs₁, w₁, hq, fun k' hk => .head step_block (harr k' ?_)⟩
      have : (id == id') = false := by simp; exact fun h => hid h.symm
      simp [exitTo, this, hk]
  | goto l => exact ⟨_, a₁, cs₁, w₁, hq, fun k' hk => .head step_block (harr k' (by simp [gotoIn, hk]))⟩
  | ret => exact ⟨_, a₁, cs₁, w₁, hq, .of_steps (.one step_block) harr⟩
  | panic ch => exact ⟨_, a₁, cs₁, w₁, hq, .of_steps (.one step_block) harr⟩
  | outgrown => exact ⟨_, a₁, cs₁, w₁, hq, .of_steps (.one step_block) harr⟩
def XQS (x : XE) (p : Plan) (Q : Exit → Act → List Frame → World → Prop) (a : Act) (cs : List Frame) (w : World) : Prop := match x with
  | .normal => Q .normal a cs w
  | .exit id => Q (.exit id) a cs w
  | .ret => Q .ret a cs w
  | .panic v _ => ∀ v', VR p v v' → Q (.panic [{ v := v', recovered := false }]) a cs w
def PostS (K : Cfg) (base : Nat) (w0 : World) (p : Plan) (c0 c1 : Nat) (h' : Tree AObj) (x : XE) (s' : Loc) (u' : UM) (cf : Frame) (cs : List Frame) (Q : Exit → Act → List Frame → World → Prop) : Prop :=
  ∀ p' w' a' m', p.le p' → Out p p' c0 c1 → Rel K base w0 p' h' w' → LocX x p' s' a' → UR p' u' m' → XQS x p' Q a' ({ cf with mode := m' } :: cs) w'
section
variable (P : Program) (K : Cfg) (base : Nat) (w0 : World)
def CodeSOK (f : Nat) : Prop := ∀ (c : Code) (s : Loc) (u : UM) (h : Tree AObj) (c0 : Nat) (x : XE) (s' : Loc) (u' : UM) (h' : Tree AObj) (c1 : Nat) (l : Log), M.Rng h c0 c1 → evCodeS P K f c s u h c0 = .ok (x, s', u') h' c1 l →
  ∀ (p : Plan) (w : World) (a : Act) (m : FrameMode) (cf : Frame) (cs : List Frame) (Q : Exit → Act → List Frame → World → Prop), Rel K base w0 p h w → LocR p s a → UR p u m → Free p c0 c1 → PostS K base w0 p c0 c1 h' x s' u' cf cs Q → c.wpS P Q a ({ cf with mode := m } :: cs) w
def OpsSOK (f : Nat) : Prop := ∀ (ops : Array Oper) (os : List Oper) (s : Loc) (u : UM) (h : Tree AObj) (c0 : Nat) (x : XE) (s' : Loc) (u' : UM) (h' : Tree AObj) (c1 : Nat) (l : Log), M.Rng h c0 c1 → evOpsS P K f ops os s u h c0 = .ok (x, s', u') h' c1 l →
  ∀ (i : Nat) (p : Plan) (w : World) (a : Act) (m : FrameMode) (cf : Frame) (cs : List Frame) (Q : Exit → Act → List Frame → World → Prop), os = ops.toList.drop i → Rel K base w0 p h w → LocR p s a → UR p u m → Free p c0 c1 → PostS K base w0 p c0 c1 h' x s' u' cf cs Q → wpOpsS P ops Q (List.range' i (ops.size - i)) a ({ cf with mode := m } :: cs) w
def DeferOK (f : Nat) : Prop := ∀ (g : FuncId) (args : List Value) (u : UM) (h : Tree AObj) (c0 : Nat) (u' : UM) (h' : Tree AObj) (c1 : Nat) (l : Log), M.Rng h c0 c1 → evDefer P K f g args u h c0 = .ok u' h' c1 l →
  goBody P g = true ∧ ∀ (p : Plan) (w : World) (args' : Array Value) (m : FrameMode), Rel K base w0 p h w → VRs p args args'.toList → UR p u m → Free p c0 c1 → CallsD P g args' m w fun e m' w' => ∃ p', p.le p' ∧ Out p p' c0 c1 ∧ Rel K base w0 p' h' w' ∧ UR p' u' m' ∧ ∃ v, e = .returned v
def LeaveOK (f : Nat) : Prop := ∀ (fn : Func) (s : Loc) (ls : List Nat) (ds : List (FuncId × List Value)) (u : UM) (h : Tree AObj) (c0 : Nat) (r : CR) (h' : Tree AObj) (c1 : Nat) (l : Log), M.Rng h c0 c1 → evLeave P K f fn s ls ds u h c0 = .ok r h' c1 l →
  ∀ (p : Plan) (w : World) (a : Act) (ds' : List Deferred) (m : FrameMode) (R : Ending → World → Prop), Rel K base w0 p h w → LocL ls p s a → DRs p ds ds' → UR p u m → Free p c0 c1 → (∀ p' w' e, p.le p' → Out p p' c0 c1 → Rel K base w0 p' h' w' → CRR p' r e → R e w') → Leaves P fn a.tmps R ds' m w
end
section
variable {P : Program} {K : Cfg} {base : Nat} {w0 : World}
theorem PostS.later {p p' : Plan} {c0 c1 c2 : Nat} {h' : Tree AObj} {x : XE} {s' : Loc} {u' : UM} {cf : Frame} {cs : List Frame} {Q : Exit → Act → List Frame → World → Prop} (hp : PostS K base w0 p c0 c2 h' x s' u' cf cs Q) (h1 : c0 ≤ c1) (h2 : c1 ≤ c2) (hle : p.le p') (ho : Out p p' c0 c1) :
    PostS K base w0 p' c1 c2 h' x s' u' cf cs Q := fun p'' w' a' m' k1 k2 k3 k4 k5 => hp p'' w' a' m' (Plan.le_trans hle k1) (ho.trans h1 h2 k2) k3 k4 k5
theorem opsS_ok {f : Nat} (ho : OpOK P K base w0 f) (hos : OpsSOK P K base w0 f) : OpsSOK P K base w0 (f + 1) := by
  intro ops os s u h c0 x s' u' h' c1 l hd e i p w a m cf cs Q hi hr hs hu hf hp
  unfold evOpsS at e
  have L := all_local P K f
  cases os with
  | nil =>
    obtain ⟨e3, rfl, rfl⟩ := pure_inv e
    cases e3
    rw [list_end hi]
    exact hp p w a m (Plan.le_refl _) Out.rfl hr hs hu
  | cons o os =>
    obtain ⟨g1, g2, g3⟩ := list_split hi
    rw [g3, List.range'_succ]
    dsimp only at e
    by_cases hw : Region.wanted o (yieldedX ops s) = true
    · rw [hw] at e
      try dsimp only at e
      simp only [wpOpsS, g1, ← yieldedX_eq hs ops, hw, if_true]
      obtain ⟨r, h1, cm, l1, l2, e1, e2, hd0, hd1, hcm, hc2⟩ := bind_loc e hd (L.op _ _) (fun r => by
        try dsimp only
        split
        · exact L.opsS _ _ _ _
        · exact M.local_pure _
        · exact M.local_fail
        · split
          · exact L.opsS _ _ _ _
          · exact L.opsS _ _ _ _)
      obtain ⟨k1, k2⟩ := ho _ _ _ _ _ _ _ _ hd0 e1 p w a hr (envR hr hs) (hf.first hc2)
      cases r with
      | val v =>
        have hk := k2 (by simp) (fun a' w' => wpOpsS P ops Q (List.range' (i + 1) (ops.size - (i + 1))) a' ({ cf with mode := m } :: cs) w') (fun e a' w' => Q e a' ({ cf with mode := m } :: cs) w') fun p' w' q1 q2 q3 v' q4 => ?_
        · unfold Oper.wp at hk
          generalize (execOp a.eval o).run P w = R at hk ⊢
          cases R with
          | ok n w' => cases n <;> first | exact hk | exact hk.elim
          | halt x w' => exact hk
        exact hos _ _ _ _ _ _ _ _ _ _ _ _ hd1 e2 (i + 1) p' w' _ m cf cs Q g2 q3 ((hs.mono q1).put q4 _) (hu.mono q1) (hf.later hcm q2) (hp.later hcm hc2 q1 q2)
      | later g args => cases e2
      | pan v =>
        obtain ⟨e3, rfl, rfl⟩ := pure_inv e2
        cases e3
        have hk := k2 (by simp) (fun a' w' => wpOpsS P ops Q (List.range' (i + 1) (ops.size - (i + 1))) a' ({ cf with mode := m } :: cs) w') (fun e a' w' => Q e a' ({ cf with mode := m } :: cs) w') fun p' w' q1 q2 q3 v' q4 => ?_
        · unfold Oper.wp at hk
          generalize (execOp a.eval o).run P w = R at hk ⊢
          cases R with
          | ok n w' => cases n <;> first | exact hk | exact hk.elim
          | halt x w' => exact hk
        exact hp p' w' a m q1 q2 q3 (hs.mono q1).toL (hu.mono q1) v' q4
      | recover =>
        obtain ⟨p', w', q1, q2, q3, q4⟩ := k1 rfl
        rw [q4]
        dsimp only
        have hu' := hu.mono q1
        cases u with
        | ret =>
          obtain rfl : m = .returning := by cases m <;> first | rfl | exact hu.elim
          exact hos _ _ _ _ _ _ _ _ _ _ _ _ hd1 e2 (i + 1) p' w' _ _ cf cs Q g2 q3 ((hs.mono q1).put .nilIface _) hu' (hf.later hcm q2) (hp.later hcm hc2 q1 q2)
        | pan v =>
          cases m with
          | panicking ch =>
            obtain ⟨v', rfl, hv⟩ := hu'
            exact hos _ _ _ _ _ _ _ _ _ _ _ _ hd1 e2 (i + 1) p' w' _ (.panicking [{ v := v', recovered := true }]) cf cs Q g2 q3 ((hs.mono q1).put hv _) ⟨v', rfl, hv⟩ (hf.later hcm q2) (hp.later hcm hc2 q1 q2)
          | _ => exact hu.elim
        | caught v =>
          cases m with
          | panicking ch =>
            obtain ⟨v', rfl, hv⟩ := hu'
            exact hos _ _ _ _ _ _ _ _ _ _ _ _ hd1 e2 (i + 1) p' w' _ (.panicking [{ v := v', recovered := true }]) cf cs Q g2 q3 ((hs.mono q1).put .nilIface _) ⟨v', rfl, hv⟩ (hf.later hcm q2) (hp.later hcm hc2 q1 q2)
          | _ => exact hu.elim
    · rw [show Region.wanted o (yieldedX ops s) = false by simpa using hw] at e
      try dsimp only at e
      simp only [wpOpsS, g1, ← yieldedX_eq hs ops, hw]
      exact hos _ _ _ _ _ _ _ _ _ _ _ _ hd e (i + 1) p w _ m cf cs Q g2 hr (hs.put undef_vr _) hu hf hp
theorem eval_cond {p : Plan} {h : Tree AObj} {w : World} {s : Loc} {a : Act} {q : Operand} {b : Bool} (e1 : envOf K s q = some (.bool b)) (hr : Rel K base w0 p h w) (hs : LocR p s a) : a.eval q = .bool b := by
  have := envR hr hs q _ e1
  generalize Act.eval _ q = u at this
  cases this
  rfl
theorem codeS_ok {f : Nat} (hc : CodeOK P K base w0 f) (hcs : CodeSOK P K base w0 f) (hos : OpsSOK P K base w0 f) : CodeSOK P K base w0 (f + 1) := by
  intro c s u h c0 x s' u' h' c1 l hd e p w a m cf cs Q hr hs hu hf hp
  unfold evCodeS at e
  have L := all_local P K f
  have plain : ∀ c : Code, M.bind (evCode P K f c s) (fun r => M.pure (r.1, r.2, u)) h c0 = .ok (x, s', u') h' c1 l → c.wpS P Q a ({ cf with mode := m } :: cs) w := by
    intro c e
    obtain ⟨⟨x1, s1⟩, h1, cm, l1, l2, e1, e2⟩ := bind_inv e
    obtain ⟨e3, rfl, rfl⟩ := pure_inv e2
    cases e3
    refine wpS_of_wp (wp_of_wp2 (hc _ _ _ _ _ _ _ _ _ hd e1 p w a _ hr hs hf fun p' w' a' q1 q2 q3 q4 => ?_))
    have := hp p' w' a' m q1 q2 q3 q4 (hu.mono q1)
    dsimp only at this
    cases x1 <;> exact this
  cases c with
  | seq x1 y1 =>
    obtain ⟨⟨x2, s2, u2⟩, h1, cm, l1, l2, e1, e2, hd0, hd1, hcm, hc2⟩ := bind_loc e hd (L.codeS _ _ _) (fun r => by
      try dsimp only
      split
      · exact L.codeS _ _ _
      · exact M.local_pure _)
    refine wpS_seq (hcs _ _ _ _ _ _ _ _ _ _ _ hd0 e1 p w a m cf cs _ hr hs hu (hf.first hc2) fun p' w' a' m' q1 q2 q3 q4 q5 => ?_)
    cases x2 with
    | normal => exact hcs _ _ _ _ _ _ _ _ _ _ _ hd1 e2 p' w' a' m' cf cs Q q3 q4 q5 (hf.later hcm q2) (hp.later hcm hc2 q1 q2)
    | _ =>
      obtain ⟨e3, rfl, rfl⟩ := pure_inv e2
      cases e3
      exact hp p' w' a' m' q1 q2 q3 q4 q5
  | cond q x1 y1 =>
    dsimp only at e
    cases hb : envOf K s q with
    | none => rw [hb] at e; cases e
    | some v =>
      rw [hb] at e
      cases v with
      | bool b =>
        cases b with
        | true => exact wpS_cond (eval_cond hb hr hs) (hcs _ _ _ _ _ _ _ _ _ _ _ hd e p w a m cf cs Q hr hs hu hf hp)
        | false => exact wpS_cond (eval_cond hb hr hs) (hcs _ _ _ _ _ _ _ _ _ _ _ hd e p w a m cf cs Q hr hs hu hf hp)
      | _ => cases e
  | block id b =>
    obtain ⟨⟨x2, s2, u2⟩, h1, cm, l1, l2, e1, e2⟩ := bind_inv e
    dsimp only at e2
    have hsame : h' = h1 ∧ c1 = cm ∧ s' = s2 ∧ u' = u2 ∧ ((∃ i, x2 = .exit i ∧ i = id ∧ x = .normal) ∨ ((∀ i, x2 = .exit i → i ≠ id) ∧ x = x2)) := by
      cases x2 with
      | exit i =>
        dsimp only at e2
        split at e2
        · rename_i hid
          obtain ⟨e3, rfl, rfl⟩ := pure_inv e2
          cases e3
          exact ⟨rfl, rfl, rfl, rfl, .inl ⟨i, rfl, hid, rfl⟩⟩
        · rename_i hid
          obtain ⟨e3, rfl, rfl⟩ := pure_inv e2
          cases e3
          exact ⟨rfl, rfl, rfl, rfl, .inr ⟨fun j hj => (by cases hj; exact hid), rfl⟩⟩
      | _ =>
        obtain ⟨e3, rfl, rfl⟩ := pure_inv e2
        cases e3
        exact ⟨rfl, rfl, rfl, rfl, .inr ⟨fun j hj => (by cases hj), rfl⟩⟩
    obtain ⟨rfl, rfl, rfl, rfl, hx⟩ := hsame
    refine wpS_block (hcs _ _ _ _ _ _ _ _ _ _ _ hd e1 p w a m cf cs _ hr hs hu hf fun p' w' a' m' q1 q2 q3 q4 q5 => ?_)
    have := hp p' w' a' m' q1 q2 q3 (by rcases hx with ⟨i, rfl, rfl, rfl⟩ | ⟨_, rfl⟩ <;> exact q4) q5
    rcases hx with ⟨i, rfl, rfl, rfl⟩ | ⟨hx, rfl⟩
    · show Exit.inBlockS i Q (.exit i) _ _ _
      unfold Exit.inBlockS
      dsimp only
      rw [if_pos rfl]
      exact this
    · cases x with
      | exit j =>
        show Exit.inBlockS id Q (.exit j) _ _ _
        unfold Exit.inBlockS
        dsimp only
        rw [if_neg (hx j rfl)]
        exact this
      | _ => exact this
  | region id ops draw =>
    cases draw with
    | true => exact plain _ e
    | false =>
      refine wpS_region ?_
      rw [List.range_eq_range']
      exact hos _ _ _ _ _ _ _ _ _ _ _ _ hd e 0 p w a m cf cs Q rfl hr hs hu hf hp
  | _ => exact plain _ e
theorem nods {p : Plan} {s : Loc} {a : Act} (hds : s.ds = []) (hs : LocR p s a) : a.defers = [] := by
  have := hs.ds
  rw [hds] at this
  cases hd : a.defers with
  | nil => rfl
  | cons => rw [hd] at this; cases this
theorem defer_ok {f : Nat} (hcs : CodeSOK P K base w0 f) : DeferOK P K base w0 (f + 1) := by
  intro g args u h c0 u' h' c1 l hd e
  unfold evDefer at e
  have L := all_local P K f
  by_cases hg : goBody P g = true
  · rw [if_pos hg] at e
    refine ⟨hg, fun p w args' m hr hv hu hf => ?_⟩
    cases hfn : P.funcs[g]? with
    | none => rw [hfn] at e; cases e
    | some fn =>
    rw [hfn] at e
    dsimp only at e
    cases hb : fn.body with
    | none => rw [hb] at e; cases e
    | some c =>
    rw [hb] at e
    dsimp only at e
    split at e
    · rename_i hn
      obtain ⟨⟨x1, s1, u1⟩, h1, cm, l1, l2, e1, e2⟩ := bind_inv e
      dsimp only at e2
      cases hds : s1.ds with
      | cons => rw [hds] at e2; cases e2
      | nil =>
      rw [hds] at e2
      dsimp only at e2
      have back : ∀ {uu : UM} {hh : Tree AObj} {cc : Nat} {ll : Log}, (x1 = .normal ∨ x1 = .ret) → M.bind (resX P s1 fn.results.toList) (fun _ => M.pure u1) h1 cm = .ok uu hh cc ll → u' = uu → h' = hh → c1 = cc → CallsD P g args' m w fun e m' w' => ∃ p', p.le p' ∧ Out p p' c0 c1 ∧ Rel K base w0 p' h' w' ∧ UR p' u' m' ∧ ∃ v, e = .returned v := by
        rintro uu hh cc ll hx er rfl rfl rfl
        obtain ⟨vs, h2, c2, l3, l4, e3, e4⟩ := bind_inv er
        obtain ⟨rfl, rfl, rfl⟩ := pure_inv e4
        refine callsD_of_wpS hfn hb fun c₀ cs hmode => ?_
        have hc0 : ({ c₀ with mode := m } : Frame) = c₀ := by subst hmode; rfl
        have hsame : ∀ (p' : Plan) (w' : World) (a' : Act), LocR p' s1 a' → Rel K base w0 p' h1 w' → h' = h1 ∧ c1 = cm ∧ ∃ v, (results fn a'.tmps).run P w' = .ok v w' ∧ VR p' (one vs) v := fun p' w' a' q4 q3 => results_ok (ls := []) (P := P) (fun _ _ => by simp) q4.toL q3 e3
        have hl := (local_resX (P := P) (s := s1) fn.results.toList _ _ _ _ _ _ e3).1
        have hd0 : M.Rng h c0 cm := hd.first hl
        have := hcs _ _ _ _ _ _ _ _ _ _ _ hd0 e1 p w _ m c₀ cs (bodyPostS P fn c₀ cs fun e m' w' => ∃ p', p.le p' ∧ Out p p' c0 c1 ∧ Rel K base w0 p' h' w' ∧ UR p' u' m' ∧ ∃ v, e = .returned v) hr (begin_ok hv hn) hu (hf.first hl) (fun p' w' a' m' q1 q2 q3 q4 q5 => by
          have q4 : LocR p' s1 a' := by rcases hx with rfl | rfl <;> exact q4
          obtain ⟨rfl, rfl, v, g1, g2⟩ := hsame p' w' a' q4 q3
          rcases hx with rfl | rfl
          · exact ⟨nods hds q4, m', rfl, v, g1, p', q1, q2, q3, q5, v, rfl⟩
          · exact ⟨nods hds q4, m', rfl, v, g1, p', q1, q2, q3, q5, v, rfl⟩)
        rw [hc0] at this
        exact this
      cases x1 with
      | normal => exact back (.inl rfl) e2 rfl rfl rfl
      | ret => exact back (.inr rfl) e2 rfl rfl rfl
      | _ => cases e2
    · cases e
  · rw [if_neg hg] at e; cases e
theorem leave_ok {f : Nat} (hdf : DeferOK P K base w0 f) (hlv : LeaveOK P K base w0 f) : LeaveOK P K base w0 (f + 1) := by
  intro fn s ls ds u h c0 r h' c1 l hd e p w a ds' m R hr hs hds hu hf hp
  unfold evLeave at e
  have L := all_local P K f
  cases ds with
  | nil =>
    cases hds
    dsimp only at e
    cases u with
    | ret =>
      obtain rfl : m = .returning := by cases m <;> first | rfl | exact hu.elim
      by_cases hm : meets ls (resSlots fn.results.toList) = true
      · rw [if_pos hm] at e; cases e
      rw [if_neg hm] at e
      obtain ⟨vs, h2, c2, l3, l4, e3, e4⟩ := bind_inv e
      obtain ⟨rfl, rfl, rfl⟩ := pure_inv e4
      obtain ⟨rfl, rfl, v, g1, g2⟩ := results_ok (P := P) (fun t ht hl => meets_false (by simpa using hm) t hl ht) hs hr e3
      exact ⟨v, g1, hp p w _ (Plan.le_refl _) Out.rfl hr g2⟩
    | pan v =>
      obtain ⟨rfl, rfl, rfl⟩ := pure_inv e
      cases m with
      | panicking ch =>
        obtain ⟨v', rfl, hv⟩ := hu
        exact hp p w _ (Plan.le_refl _) Out.rfl hr ⟨v', rfl, hv⟩
      | _ => exact hu.elim
    | caught v => cases e
  | cons gd ds =>
    obtain ⟨g, args⟩ := gd
    cases hds with
    | cons hd1 hds2 =>
    obtain ⟨ys, cap, rfl, hv⟩ := hd1
    obtain ⟨u1, h1, cm, l1, l2, e1, e2, hda, hdb, hcm, hc2⟩ := bind_loc e hd (L.defer _ _ _) (fun u => L.leave _ _ _ _ _)
    obtain ⟨hg, hcall⟩ := hdf _ _ _ _ _ _ _ _ _ hda e1
    refine leaves_cons (f := g) (args := ys ++ cap) hu.notRun ?_ ?_
    · exact run_callFunc hg _ _
    · refine (hcall p w (ys ++ cap) m hr hv hu (hf.first hc2)).mono ?_
      rintro e' m' w' ⟨p', q1, q2, q3, q4, v, rfl⟩
      exact hlv _ _ _ _ _ _ _ _ _ _ _ hdb e2 p' w' a _ _ R q3 (hs.mono q1) (hds2.mono q1) q4.settle (hf.later hcm q2) fun p'' w'' e'' k1 k2 k3 k4 => hp p'' w'' e'' (Plan.le_trans q1 k1) (q2.trans hcm hc2 k2) k3 k4
end
end Ev
end Go.Proofs.YtakfgbedmglffaaGreatDoor
