/- The evaluator's code: frames, and how its parts are joined. No program in sight. -/
import Derived.Test.YtakfgbedmglffaaGreatDoorMu
namespace Go.Proofs.YtakfgbedmglffaaGreatDoor
set_option linter.unusedSimpArgs false
set_option linter.unusedVariables false
namespace Ev
open Go.RowKit

def DR (p : Plan) (x : FuncId × List Value) (d : Deferred) : Prop := ∃ ys cap, d = ⟨.fn (.func x.1) cap, ys⟩ ∧ VRs p x.2 (ys ++ cap).toList
inductive DRs (p : Plan) : List (FuncId × List Value) → List Deferred → Prop where
  | nil : DRs p [] []
  | cons {x : FuncId × List Value} {d : Deferred} {xs : List (FuncId × List Value)} {ds : List Deferred} : DR p x d → DRs p xs ds → DRs p (x :: xs) (d :: ds)
theorem DRs.mono {p q : Plan} (hpq : p.le q) : ∀ {xs : List (FuncId × List Value)} {ds : List Deferred}, DRs p xs ds → DRs q xs ds
  | _, _, .nil => .nil
  | _, _, .cons ⟨ys, cap, h1, h2⟩ k => .cons ⟨ys, cap, h1, h2.mono hpq⟩ (DRs.mono hpq k)
structure LocR (p : Plan) (s : Loc) (a : Act) : Prop where
  tm : ∀ t : Nat, VR p (s.rd t) (a.tmps.getD t undef)
  n : a.tmps.size = s.n
  ds : DRs p s.ds a.defers
theorem LocR.mono {p q : Plan} {s : Loc} {a : Act} (hpq : p.le q) (h : LocR p s a) : LocR q s a := ⟨fun t => (h.tm t).mono hpq, h.n, h.ds.mono hpq⟩
/-- but for some slots -/
structure LocL (ls : List Nat) (p : Plan) (s : Loc) (a : Act) : Prop where
  tm : ∀ t : Nat, t ∉ ls → VR p (s.rd t) (a.tmps.getD t undef)
  n : a.tmps.size = s.n
  ds : DRs p s.ds a.defers
theorem LocR.toL {ls : List Nat} {p : Plan} {s : Loc} {a : Act} (h : LocR p s a) : LocL ls p s a := ⟨fun t _ => h.tm t, h.n, h.ds⟩
theorem LocL.mono {ls : List Nat} {p q : Plan} {s : Loc} {a : Act} (hpq : p.le q) (h : LocL ls p s a) : LocL ls q s a := ⟨fun t ht => (h.tm t ht).mono hpq, h.n, h.ds.mono hpq⟩
def LocX (x : XE) (p : Plan) (s : Loc) (a : Act) : Prop := match x with
  | .panic _ ls => LocL ls p s a
  | _ => LocR p s a
theorem undef_vr {p : Plan} : VR p undef undef := .tuple .nil
theorem getD_some (a : Array Value) (t : Nat) : a.getD t undef = (a[t]?).getD undef := by
  rw [Array.getD_eq_getD_getElem?]
theorem LocR.put {p : Plan} {s : Loc} {a : Act} {v v' : Value} (h : LocR p s a) (hv : VR p v v') (d : Option Nat) : LocR p (s.put d v) (a.put d v') := by
  obtain ⟨tm, n, ds⟩ := s
  cases d with
  | none => exact h
  | some i =>
    have hn : a.tmps.size = n := h.n
    unfold Loc.put Act.put
    dsimp only
    by_cases hi : i < n
    · rw [show Nat.ble (Nat.succ i) n = true from Nat.ble_eq_true_of_le hi]
      dsimp only
      refine ⟨fun t => ?_, by simpa using hn, h.ds⟩
      rw [getD_some]
      show VR p ((((tm.set i (some v)).get t)).getD undef) _
      rw [Tree.get_set, Array.getElem?_setIfInBounds]
      by_cases e : i = t
      · subst e
        rw [if_pos rfl, if_pos rfl, if_pos (by omega)]
        exact hv
      · rw [if_neg (Ne.symm e), if_neg e, ← getD_some]
        exact h.tm t
    · rw [show Nat.ble (Nat.succ i) n = false by cases hb : Nat.ble (Nat.succ i) n with | false => rfl | true => exact absurd (Nat.le_of_ble_eq_true hb) hi]
      dsimp only
      refine ⟨fun t => ?_, by simpa using hn, h.ds⟩
      rw [getD_some, Array.getElem?_setIfInBounds]
      by_cases e : i = t
      · subst e
        rw [if_pos rfl, if_neg (by omega)]
        have := h.tm i
        rw [getD_some, Array.getElem?_eq_none (by omega)] at this
        exact this
      · rw [if_neg e, ← getD_some]
        exact h.tm t
theorem yieldedX_eq {p : Plan} {s : Loc} {a : Act} (h : LocR p s a) (ops : Array Oper) : yieldedX ops s = yielded ops a.tmps := by
  funext j
  unfold yieldedX yielded
  cases (ops[j]?).bind (·.dst) with
  | none => rfl
  | some d =>
    have := h.tm d
    rw [getD_some] at this
    dsimp only [Option.bind_some]
    generalize s.rd d = x at this
    cases hq : a.tmps[d]? with
    | none =>
      rw [hq] at this
      cases this
      rfl
    | some u =>
      rw [hq] at this
      simp only [Option.getD_some] at this
      cases this <;> rfl
section
variable {P : Program} {K : Cfg} {base : Nat} {w0 : World}
theorem envR {p : Plan} {h : Tree AObj} {w : World} {s : Loc} {a : Act} (hr : Rel K base w0 p h w) (hs : LocR p s a) : EnvR p (envOf K s) a.eval := by
  intro x v e
  cases x with
  | tmp t =>
    cases e
    exact hs.tm t
  | const u =>
    unfold envOf at e
    dsimp only at e
    split at e
    · rename_i hp
      cases e
      exact plain_vr 9 _ hp
    · cases e
  | global g =>
    unfold envOf at e
    dsimp only at e
    split at e
    · rename_i hg
      cases e
      obtain ⟨s', h1, h2, h3⟩ := hr.glob g hg
      have := VR.ptr (p := p) (b := g) (o := 0) h1
      rw [h2, h3] at this
      exact this
    · cases e
  | func f =>
    cases e
    exact .func f .nil .nil
/-- how the model comes out of it -/
def XQ (x : XE) (p : Plan) (Q : Exit → Act → World → Prop) (a : Act) (w : World) : Prop := match x with
  | .normal => Q .normal a w
  | .exit id => Q (.exit id) a w
  | .ret => Q .ret a w
  | .panic v _ => ∀ v', VR p v v' → Q (.panic [{ v := v', recovered := false }]) a w
def Out (p p' : Plan) (c0 c1 : Nat) : Prop := ∀ b, (b < c0 ∨ c1 ≤ b) → p' b = p b
def Post (K : Cfg) (base : Nat) (w0 : World) (p : Plan) (c0 c1 : Nat) (h' : Tree AObj) (x : XE) (s' : Loc) (Q : Exit → Act → World → Prop) : Prop :=
  ∀ p' w' a', p.le p' → Out p p' c0 c1 → Rel K base w0 p' h' w' → LocX x p' s' a' → XQ x p' Q a' w'
theorem Free.later {p p' : Plan} {c0 c1 c2 : Nat} (hf : Free p c0 c2) (h : c0 ≤ c1) (ho : Out p p' c0 c1) : Free p' c1 c2 := fun b h1 h2 => by
  rw [ho b (.inr h1)]
  exact hf b (by omega) h2
theorem Free.first {p : Plan} {c0 c1 c2 : Nat} (hf : Free p c0 c2) (h : c1 ≤ c2) : Free p c0 c1 := fun b h1 h2 => hf b h1 (by omega)
theorem Out.trans {p p' p'' : Plan} {c0 c1 c2 : Nat} (h1 : c0 ≤ c1) (h2 : c1 ≤ c2) (a : Out p p' c0 c1) (b : Out p' p'' c1 c2) : Out p p'' c0 c2 := fun n hn => by
  rw [b n (by omega), a n (by omega)]
theorem Post.later {p p' : Plan} {c0 c1 c2 : Nat} {h' : Tree AObj} {x : XE} {s' : Loc} {Q : Exit → Act → World → Prop} (hp : Post K base w0 p c0 c2 h' x s' Q) (h1 : c0 ≤ c1) (h2 : c1 ≤ c2) (hle : p.le p') (ho : Out p p' c0 c1) :
    Post K base w0 p' c1 c2 h' x s' Q := fun p'' w' a' k1 k2 k3 k4 => hp p'' w' a' (Plan.le_trans hle k1) (ho.trans h1 h2 k2) k3 k4
theorem Out.rfl {p : Plan} {c0 c1 : Nat} : Out p p c0 c1 := fun _ _ => Eq.refl _
/-- a loop's round and what comes after -/
def LoopWp (P : Program) (c : Code) (Q : Exit → Act → World → Prop) (a : Act) (w : World) : Prop :=
  ∀ (b : Frame) (k : List Item) (cs : List Frame), ∃ e a' w', Q e a' w' ∧ Arrives P (lone (b.at a (.code c :: .inLoop c :: k)) cs w) b k cs e a' w'
def wp2 (P : Program) (c : Code) (Q : Exit → Act → World → Prop) (a : Act) (w : World) : Prop := match c with
  | .loop x => LoopWp P x Q a w
  | c => c.wp P Q a w
theorem wp_of_wp2 {c : Code} {Q : Exit → Act → World → Prop} {a : Act} {w : World} (h : wp2 P c Q a w) : c.wp P Q a w := by
  cases c with
  | loop x => exact fun b k cs => let ⟨e, a', w', q, r⟩ := h b k cs; ⟨e, a', w', q, .of_steps (.one step_loop) r⟩
  | _ => exact h
theorem loop_next {c : Code} {Q : Exit → Act → World → Prop} {a : Act} {w : World} (h : c.wp P (Exit.then (fun a w => LoopWp P c Q a w) Q) a w) : LoopWp P c Q a w := by
  intro b k cs
  obtain ⟨e, a₁, w₁, hq, harr⟩ := h b (.inLoop c :: k) cs
  cases e with
  | normal =>
    obtain ⟨e₂, a₂, w₂, hq₂, harr₂⟩ := hq b k cs
    exact ⟨e₂, a₂, w₂, hq₂, .of_steps (Steps.trans harr (.one step_inLoop)) harr₂⟩
  | exit id => exact ⟨_, a₁, w₁, hq, .pass (x := .inLoop c) rfl (fun _ _ => .inl (by simp)) harr⟩
  | goto l => exact ⟨_, a₁, w₁, hq, .pass (x := .inLoop c) rfl (fun _ _ => .inl (by simp)) harr⟩
  | ret => exact ⟨_, a₁, w₁, hq, .pass (x := .inLoop c) rfl (fun _ _ => .inl (by simp)) harr⟩
  | panic ch => exact ⟨_, a₁, w₁, hq, .pass (x := .inLoop c) rfl (fun _ _ => .inl (by simp)) harr⟩
  | outgrown => exact ⟨_, a₁, w₁, hq, .pass (x := .inLoop c) rfl (fun _ _ => .inl (by simp)) harr⟩
/-! ### what a call begins with, and what it ends with -/
theorem argsTree_get : ∀ (args : List Value) (i : Nat) (t : Tree Value) (k : Nat), (argsTree args i t).get k = if i ≤ k ∧ k < i + args.length then args[k - i]? else t.get k
  | [], i, t, k => by rw [argsTree, if_neg (by simp only [List.length_nil]; omega)]
  | v :: l, i, t, k => by
    rw [argsTree, argsTree_get l (i + 1), Tree.get_set]
    simp only [List.length_cons]
    by_cases h : i + 1 ≤ k ∧ k < i + 1 + l.length
    · rw [if_pos h, if_pos (by omega)]
      obtain ⟨m, rfl⟩ : ∃ m, k = i + 1 + m := ⟨k - (i + 1), by omega⟩
      rw [show i + 1 + m - (i + 1) = m by omega, show i + 1 + m - i = m + 1 by omega]
      rfl
    · rw [if_neg h]
      by_cases e : k = i
      · subst e
        rw [if_pos rfl, if_pos (by omega), Nat.sub_self]
        rfl
      · rw [if_neg e, if_neg (by omega)]
theorem begin_ok {p : Plan} {args : List Value} {args' : Array Value} {n : Nat} (hv : VRs p args args'.toList) (hn : args.length ≤ n) :
    LocR p ⟨argsTree args 0 .leaf, n, []⟩ { tmps := args' ++ Array.replicate (n - args'.size) undef, defers := [] } := by
  have hl := hv.len
  simp only [Array.length_toList] at hl
  refine ⟨fun t => ?_, by simp; omega, .nil⟩
  rw [getD_some]
  show VR p (((argsTree args 0 .leaf).get t).getD undef) _
  rw [argsTree_get]
  by_cases h : t < args.length
  · rw [if_pos ⟨by omega, by omega⟩, Nat.sub_zero]
    obtain ⟨u, h1, h2⟩ := hv.get t args[t] (List.getElem?_eq_getElem h)
    rw [List.getElem?_eq_getElem h, Array.getElem?_append_left (by omega)]
    have h3 : args'[t]? = some u := by simpa using h1
    rw [h3]
    exact h2
  · rw [if_neg (by omega)]
    have h1 : (Tree.leaf : Tree Value).get t = none := rfl
    rw [h1, Array.getElem?_append_right (by omega), Array.getElem?_replicate]
    split <;> exact undef_vr
theorem run_cell {t : TypeId} {v v' r : Value} {p : Plan} {h h' : Tree AObj} {c c' : Nat} {l : Log} {w : World} (e : xLoad P t v h c = .ok r h' c' l) (hv : VR p v v') (hr : Rel K base w0 p h w) :
    h' = h ∧ c' = c ∧ ∃ y, (do loadVar t (← asAddr v') : Sem Value).run P w = .ok y w ∧ VR p r y := by
  obtain ⟨e1, e2, y, h1, h2⟩ := xLoad_quiet (P := P) e hv hr
  refine ⟨e1, e2, y, ?_, h2⟩
  rw [← h1]
  unfold xLoad at e
  split at e
  · cases hv
    rfl
  · cases e
theorem resX_ok {ls : List Nat} {p : Plan} {s : Loc} {a : Act} {h : Tree AObj} {w : World} (hs : LocL ls p s a) (hr : Rel K base w0 p h w) {g : ResultVar → Sem Value} (hg : ∀ t, g (.tmp t) = pure (a.tmps.getD t undef)) (hg2 : ∀ b t, g (.cell b t) = do loadVar t (← asAddr (a.tmps.getD b undef))) :
    ∀ {rs : List ResultVar} (_ : ∀ t ∈ resSlots rs, t ∉ ls) {vs : List Value} {h' : Tree AObj} {c c' : Nat} {l : Log}, resX P s rs h c = .ok vs h' c' l → h' = h ∧ c' = c ∧ ∃ vs', (rs.mapM g).run P w = .ok vs' w ∧ VRs p vs vs'
  | [], _, _, _, _, _, _, e => by
    obtain ⟨rfl, rfl, rfl⟩ := pure_inv e
    exact ⟨rfl, rfl, [], rfl, .nil⟩
  | .tmp t :: rs, hm, vs, h', c, c', l, e => by
    obtain ⟨us, h1, c1, l1, l2, e1, e2⟩ := bind_inv e
    obtain ⟨rfl, rfl, vs', k1, k2⟩ := resX_ok hs hr hg hg2 (fun t ht => hm t (List.mem_cons_of_mem _ ht)) e1
    obtain ⟨rfl, rfl, rfl⟩ := pure_inv e2
    refine ⟨rfl, rfl, a.tmps.getD t undef :: vs', ?_, .cons (hs.tm t (hm t (List.mem_cons_self ..))) k2⟩
    rw [List.mapM_cons, hg, Sem.run_bind, Sem.run_pure, Result.andThen_ok, Sem.run_bind, k1]
    rfl
  | .cell b t :: rs, hm, vs, h', c, c', l, e => by
    obtain ⟨v, h1, c1, l1, l2, e1, e2⟩ := bind_inv e
    obtain ⟨rfl, rfl, y, q1, q2⟩ := run_cell (P := P) e1 (hs.tm b (hm b (List.mem_cons_self ..))) hr
    obtain ⟨us, h1, c1, l1, l2, e3, e4⟩ := bind_inv e2
    obtain ⟨rfl, rfl, vs', k1, k2⟩ := resX_ok hs hr hg hg2 (fun t ht => hm t (List.mem_cons_of_mem _ ht)) e3
    obtain ⟨rfl, rfl, rfl⟩ := pure_inv e4
    refine ⟨rfl, rfl, y :: vs', ?_, .cons q2 k2⟩
    rw [List.mapM_cons, hg2, Sem.run_bind, q1, Result.andThen_ok, Sem.run_bind, k1]
    rfl
theorem one_ok {p : Plan} {vs vs' : List Value} (h : VRs p vs vs') : VR p (one vs) (if h : vs'.toArray.size = 1 then vs'.toArray[0] else .tuple vs'.toArray) := by
  cases h with
  | nil => exact .tuple .nil
  | cons h1 h2 =>
    cases h2 with
    | nil => exact h1
    | cons h3 h4 =>
      rw [dif_neg (by simp)]
      exact .tuple (.cons h1 (.cons h3 h4))
theorem results_ok {ls : List Nat} {p : Plan} {s : Loc} {a : Act} {fn : Func} (hm : ∀ t ∈ resSlots fn.results.toList, t ∉ ls) {h h' : Tree AObj} {c c' : Nat} {l : Log} {w : World} (hs : LocL ls p s a) (hr : Rel K base w0 p h w) {vs : List Value} (e : resX P s fn.results.toList h c = .ok vs h' c' l) : h' = h ∧ c' = c ∧ ∃ v, (results fn a.tmps).run P w = .ok v w ∧ VR p (one vs) v := by
  obtain ⟨e1, e2, vs', h1, h2⟩ := resX_ok (P := P) hs hr (g := fun
    | .tmp t => pure (a.tmps.getD t undef)
    | .cell b t => do loadVar t (← asAddr (a.tmps.getD b undef))) (fun t => rfl) (fun b t => rfl) hm e
  refine ⟨e1, e2, _, ?_, one_ok h2⟩
  unfold results
  rw [Sem.run_bind, Array.mapM_eq_mapM_toList, map_eq_pure_bind, Sem.run_bind]
  erw [h1]
  rfl
end
end Ev
end Go.Proofs.YtakfgbedmglffaaGreatDoor
