/- The evaluator's operations: all of them. No program in sight. -/
import Derived.Test.YtakfgbedmglffaaGreatDoorMo
namespace Go.Proofs.YtakfgbedmglffaaGreatDoor
set_option linter.unusedSimpArgs false
set_option linter.unusedVariables false
namespace Ev
open Go.RowKit

section
variable {P : Program} {K : Cfg} {base : Nat} {w0 w : World} {p : Plan} {h h' : Tree AObj} {c c' : Nat} {l : Log}
noncomputable def xConv (P : Program) (s d : TypeId) (v : Value) : M AObj OR := match v with
  | .string str => match P.underlying d with
    | some (.slice _) => ofV (xStrBytes P s d str)
    | _ => plain1 P (convert s d) v
  | v => plain1 P (convert s d) v
theorem xConv_ok {s d : TypeId} {a a' : Value} {r : OR} (e : xConv P s d a h c = .ok r h' c' l) (ha : VR p a a') (hr : Rel K base w0 p h w) (hf : Free p c c') : GivesO P K base w0 p w c c' h' (do pure (.value (← convert s d a'))) r := by
  cases a with
  | string str =>
    unfold xConv at e
    dsimp only at e
    cases hd : P.underlying d with
    | none => rw [hd] at e; exact plain1_ok e ha hr
    | some u =>
      rw [hd] at e
      cases u with
      | slice el => exact ofV_ok e fun v l' ev => xStrBytes_ok ev ha hr hf
      | _ => exact plain1_ok e ha hr
  | _ => exact plain1_ok e ha hr
/-- a function without a body, on values without addresses -/
def xExtern (P : Program) (fv : Value) (vs : List Value) : Option Value := match fv with
  | .func (.func g) first captured => if (first.toList ++ vs ++ captured.toList).all (plainF 9) then match pureOf P (callFunc g (first.toList ++ vs ++ captured.toList).toArray) with
      | some (.ok (.value v)) => if plainF 9 v then some v else none
      | _ => none
    else none
  | _ => none
theorem xExtern_ok {fv fv' : Value} {vs : List Value} {vs' : Array Value} {v : Value} (e : xExtern P fv vs = some v) (hf : VR p fv fv') (hv : VRs p vs vs'.toList) :
    plainF 9 v = true ∧ ∃ g first captured, fv' = .func (.func g) first captured ∧ ∀ w, (callFunc g ((first ++ vs') ++ captured)).run P w = .ok (.value v) w := by
  unfold xExtern at e
  split at e
  · rename_i g first captured
    split at e
    · rename_i hall
      split at e
      · rename_i u hu
        split at e
        · rename_i hp
          cases e
          refine ⟨hp, ?_⟩
          cases hf with
          | func _ h1 h2 =>
            rename_i first' captured'
            refine ⟨g, first', captured', rfl, fun w => ?_⟩
            have hl := plains_eq (p := p) (fun v v' => plain_eq 9 v v') hall ((h1.append hv).append h2)
            have : (first' ++ vs') ++ captured' = (first.toList ++ vs ++ captured.toList).toArray := by
              apply Array.toList_inj.1
              rw [← hl]
              simp
            rw [this]
            exact pureOf_ok _ hu w
        · cases e
      · cases e
    · cases e
  · cases e
def xCall (P : Program) (fv : Value) (vs : List Value) : M AObj OR := match xCallee P fv vs with
  | some g => M.pure (.enter g.1 g.2)
  | none => match xExtern P fv vs with
    | some v => M.pure (.val v)
    | none => M.fail
noncomputable def xOp (P : Program) (K : Cfg) (ρ : Env) (o : Oper) : M AObj OR := match o.op with
  | .move x => withV (ρ x) fun v => M.pure (.val v)
  | .assign x => withV (ρ x) fun v => M.pure (.val v)
  | .pick q x y => withV (ρ q) fun b => match b with
    | .bool true => withV (ρ x) fun v => M.pure (.val v)
    | .bool false => withV (ρ y) fun v => M.pure (.val v)
    | _ => M.fail
  | .alloc t => ofV (xAlloc P t)
  | .box t x => withV (ρ x) fun v => ofV (xBox t v)
  | .build t ps => M.bind (liftO (evalsP ρ ps.toList)) fun vs => ofV (optV (xBuild P t vs))
  | .buildSlice t n ps => M.bind (liftO (evalsP ρ ps.toList)) fun vs => ofV (xBuildSlice P t n vs)
  | .load t x => withV (ρ x) fun v => ofV (xLoad P t v)
  | .range t x => withV (ρ x) fun v => ofV (xRange P t v)
  | .next x is => withV (ρ x) fun v => ofV (xNext K v is)
  | .store t a x => withV (ρ a) fun v => withV (ρ x) fun u => ofU (xStore P K t v u)
  | .nilCheck x => withV (ρ x) fun v => xNilO v
  | .binOp op t x y _ => withV (ρ x) fun a => withV (ρ y) fun b => xBin P K op t x y a b
  | .unOp op _ x => withV (ρ x) fun v => plain1 P (Op.unary op) v
  | .convert s d x => withV (ρ x) fun v => xConv P s d v
  | .makeInterface t x => withV (ρ x) fun v => ofV (optV (xMkIface P t v))
  | .makeFunc (.func f) first captured => M.bind (liftO (evals ρ first.toList)) fun a => M.bind (liftO (evals ρ captured.toList)) fun b => M.pure (.val (.func (.func f) a.toArray b.toArray))
  | .makeMap _ none => ofV xMakeMap
  | .makeSlice t a b => withV (ρ a) fun u => withV (ρ b) fun v => ofV (xMakeSlice P t u v)
  | .slice t x lo hi mx => withV (ρ x) fun v => M.bind (liftO (evalI ρ lo)) fun a => M.bind (liftO (evalI ρ hi)) fun b => M.bind (liftO (evalI ρ mx)) fun d =>
    if plainF 9 v then (match xStr P t v a b d with
      | some r => M.pure (.val r)
      | none => plainO P (Instr.sliceAt t v a b d)) else ofV (xSlice P t v a b d)
  | .fieldAddr t x i => withV (ρ x) fun v => ofV (optV (xFieldAddr P t v i))
  | .field t x i => withV (ρ x) fun v => ofV (optV (xField P t v i))
  | .indexAddr t x y => withV (ρ x) fun a => withV (ρ y) fun b => ofV (optV (xIndexAddr P t a b))
  | .index t x y => withV (ρ x) fun a => withV (ρ y) fun b => if plainF 9 a && plainF 9 b then plainO P (Instr.index t a b) else ofV (optV (xIndex P t a b))
  | .lookup t x y ok => withV (ρ x) fun a => withV (ρ y) fun b => ofV (xLookup P t a b ok)
  | .mapUpdate t x y z => withV (ρ x) fun a => withV (ρ y) fun b => withV (ρ z) fun d => ofU (xMapUpdate P K t a b d)
  | .insert t x y z => withV (ρ x) fun a => withV (ρ y) fun b => withV (ρ z) fun d => ofU (xMapUpdate P K t a b d)
  | .extract x i => withV (ρ x) fun v => ofV (optV (xExtract v i))
  | .panic x => withV (ρ x) fun v => plain1 P Instr.panic v
  | .typeAssert x xT t ok => withV (ρ x) fun v => if plainF 9 v then plainO P (Instr.typeAssert v xT t ok) else ofV (optV (xAssert P v t ok))
  | .call q => M.bind (liftO (evals ρ q.args.toList)) fun vs => match q.callee with
    | .value f => withV (ρ f) fun fv => xCall P fv vs
    | .builtin b => xBuiltin P K b q.argTypes o.type vs
    | _ => M.fail
  | .defer q => M.bind (liftO (evals ρ q.args.toList)) fun vs => match q.callee with
    | .value f => withV (ρ f) fun fv => M.bind (liftO (xCallee P fv vs)) fun g => M.pure (.defer g.1 g.2)
    | _ => M.fail
  | _ => M.fail
theorem liftB_inv {α β γ : Type} {h h2 : Tree α} {c c2 : Nat} {l : Log} {o : Option β} {f : β → M α γ} {y : γ} (e : M.bind (liftO o) f h c = .ok y h2 c2 l) : ∃ v l', o = some v ∧ f v h c = .ok y h2 c2 l' := by
  obtain ⟨v, h1, c1, l1, l2, e1, e2⟩ := bind_inv e
  obtain ⟨e3, rfl, rfl⟩ := liftO_inv e1
  exact ⟨v, l2, e3, e2⟩
theorem xOp_ok {ρ : Env} {ρ' : Operand → Value} {o : Oper} {r : OR} (e : xOp P K ρ o h c = .ok r h' c' l) (hρ : EnvR p ρ ρ') (hr : Rel K base w0 p h w) (hf : Free p c c') : GivesO P K base w0 p w c c' h' (execOp ρ' o) r := by
  unfold xOp at e
  have hnil : ∀ x v, o.op = .nilCheck x → ρ x = some v → xNilO v h c = .ok r h' c' l → GivesO P K base w0 p w c c' h' (execOp ρ' o) r := fun x v ho hx e => xNilO_ok e (hρ x v hx) hr ho rfl
  cases hop : o.op <;> rw [hop] at e <;> try dsimp only at e
  case nilCheck x =>
    obtain ⟨v, hx, e⟩ := withV_inv e
    exact hnil x v hop hx e
  all_goals (unfold execOp; rw [hop]; try dsimp only)
  case move x =>
    obtain ⟨v, hx, e⟩ := withV_inv e
    obtain ⟨rfl, rfl, rfl⟩ := pure_inv e
    exact Gives.quiet hr rfl ⟨_, rfl, hρ _ _ hx⟩
  case assign x =>
    obtain ⟨v, hx, e⟩ := withV_inv e
    obtain ⟨rfl, rfl, rfl⟩ := pure_inv e
    exact Gives.quiet hr rfl ⟨_, rfl, hρ _ _ hx⟩
  case pick q x y =>
    obtain ⟨b, hq, e⟩ := withV_inv e
    have hb := hρ _ _ hq
    split at e
    · obtain ⟨v, hx, e⟩ := withV_inv e
      obtain ⟨rfl, rfl, rfl⟩ := pure_inv e
      cases hq' : ρ' q <;> rw [hq'] at hb <;> cases hb
      exact Gives.quiet hr rfl ⟨_, rfl, hρ _ _ hx⟩
    · obtain ⟨v, hx, e⟩ := withV_inv e
      obtain ⟨rfl, rfl, rfl⟩ := pure_inv e
      cases hq' : ρ' q <;> rw [hq'] at hb <;> cases hb
      exact Gives.quiet hr rfl ⟨_, rfl, hρ _ _ hx⟩
    · cases e
  case alloc t => exact ofV_ok e fun v l' ev => xAlloc_ok ev hr hf
  case box t x =>
    obtain ⟨v, hx, e⟩ := withV_inv e
    exact ofV_ok e fun v l' ev => xBox_ok ev (hρ _ _ hx) hr hf
  case build t ps =>
    obtain ⟨vs, l1, e3, e2⟩ := liftB_inv e
    exact ofV_ok e2 (optV_ok hr fun v hv => xBuild_ok hv (by simpa using evalsP_pr hρ e3))
  case buildSlice t n ps =>
    obtain ⟨vs, l1, e3, e2⟩ := liftB_inv e
    exact ofV_ok e2 fun v l' ev => xBuildSlice_ok ev (by simpa using evalsP_pr hρ e3) hr hf
  case range t x =>
    obtain ⟨v, hx, e⟩ := withV_inv e
    exact ofV_ok e fun u l' eu => xRange_ok eu (hρ _ _ hx) hr hf
  case next x is =>
    obtain ⟨v, hx, e⟩ := withV_inv e
    exact ofV_ok e fun u l' eu => xNext_ok eu (hρ _ _ hx) hr
  case load t x =>
    obtain ⟨v, hx, e⟩ := withV_inv e
    exact ofV_ok e fun v l' ev => xLoad_ok ev (hρ _ _ hx) hr
  case store t a x =>
    obtain ⟨v, hx, e⟩ := withV_inv e
    obtain ⟨u, hy, e⟩ := withV_inv e
    exact ofU_ok e fun v l' ev => xStore_ok ev (hρ _ _ hx) (hρ _ _ hy) hr
  case binOp op t x y q =>
    obtain ⟨v, hx, e⟩ := withV_inv e
    obtain ⟨u, hy, e⟩ := withV_inv e
    exact xBin_ok e (hρ _ _ hx) (hρ _ _ hy) hr
  case unOp op t x =>
    obtain ⟨v, hx, e⟩ := withV_inv e
    exact plain1_ok e (hρ _ _ hx) hr
  case convert s d x =>
    obtain ⟨v, hx, e⟩ := withV_inv e
    exact xConv_ok e (hρ _ _ hx) hr hf
  case makeInterface t x =>
    obtain ⟨v, hx, e⟩ := withV_inv e
    exact ofV_ok e (optV_ok hr fun v hv => xMkIface_ok hv (hρ _ _ hx))
  case makeFunc f first captured =>
    cases f with
    | func f =>
      obtain ⟨xs, l1, e3, e⟩ := liftB_inv e
      obtain ⟨bs, l1, e4, e⟩ := liftB_inv e
      obtain ⟨rfl, rfl, rfl⟩ := pure_inv e
      exact Gives.quiet hr rfl ⟨_, rfl, .func f (by simpa using evals_vrs hρ e3) (by simpa using evals_vrs hρ e4)⟩
    | _ => cases e
  case makeMap t q =>
    cases q with
    | none => exact ofV_ok e fun v l' ev => xMakeMap_ok ev hr hf
    | some => cases e
  case makeSlice t a b =>
    obtain ⟨v, hx, e⟩ := withV_inv e
    obtain ⟨u, hy, e⟩ := withV_inv e
    exact ofV_ok e fun v l' ev => xMakeSlice_ok ev (hρ _ _ hx) (hρ _ _ hy) hr hf
  case slice t x lo hi mx =>
    obtain ⟨v, hx, e⟩ := withV_inv e
    obtain ⟨a, l1, e3, e⟩ := liftB_inv e
    obtain ⟨b, l1, e4, e⟩ := liftB_inv e
    obtain ⟨d, l1, e5, e⟩ := liftB_inv e
    rw [evalI_ok hρ e3, evalI_ok hρ e4, evalI_ok hρ e5]
    split at e
    · rename_i hp
      rw [plain_eq 9 _ _ hp (hρ _ _ hx)]
      cases hs : xStr P t v a b d with
      | some r =>
        rw [hs] at e
        exact val_ok (xStr_ok hs w).1 (xStr_ok (P := P) hs w).2 e hr
      | none =>
        rw [hs] at e
        exact plainO_ok e hr
    · exact ofV_ok e fun v l' ev => xSlice_ok ev (hρ _ _ hx) hr
  case fieldAddr t x i =>
    obtain ⟨v, hx, e⟩ := withV_inv e
    exact ofV_ok e (optV_ok hr fun v hv => xFieldAddr_ok hv (hρ _ _ hx))
  case field t x i =>
    obtain ⟨v, hx, e⟩ := withV_inv e
    exact ofV_ok e (optV_ok hr fun v hv => xField_ok hv (hρ _ _ hx))
  case indexAddr t x y =>
    obtain ⟨v, hx, e⟩ := withV_inv e
    obtain ⟨u, hy, e⟩ := withV_inv e
    exact ofV_ok e (optV_ok hr fun v hv => xIndexAddr_ok hv (hρ _ _ hx) (hρ _ _ hy))
  case index t x y =>
    obtain ⟨v, hx, e⟩ := withV_inv e
    obtain ⟨u, hy, e⟩ := withV_inv e
    split at e
    · rename_i hp
      simp only [Bool.and_eq_true] at hp
      rw [plain_eq 9 _ _ hp.1 (hρ _ _ hx), plain_eq 9 _ _ hp.2 (hρ _ _ hy)]
      exact plainO_ok e hr
    · exact ofV_ok e (optV_ok hr fun v hv => xIndex_ok hv (hρ _ _ hx) (hρ _ _ hy))
  case lookup t x y ok =>
    obtain ⟨v, hx, e⟩ := withV_inv e
    obtain ⟨u, hy, e⟩ := withV_inv e
    exact ofV_ok e fun v l' ev => xLookup_ok ev (hρ _ _ hx) (hρ _ _ hy) hr
  case mapUpdate t x y z =>
    obtain ⟨v, hx, e⟩ := withV_inv e
    obtain ⟨u, hy, e⟩ := withV_inv e
    obtain ⟨q, hz, e⟩ := withV_inv e
    exact ofU_ok e fun v l' ev => xMapUpdate_ok ev (hρ _ _ hx) (hρ _ _ hy) (hρ _ _ hz) hr
  case insert t x y z =>
    obtain ⟨v, hx, e⟩ := withV_inv e
    obtain ⟨u, hy, e⟩ := withV_inv e
    obtain ⟨q, hz, e⟩ := withV_inv e
    exact ofU_ok e fun v l' ev => xMapUpdate_ok ev (hρ _ _ hx) (hρ _ _ hy) (hρ _ _ hz) hr
  case extract x i =>
    obtain ⟨v, hx, e⟩ := withV_inv e
    exact ofV_ok e (optV_ok hr fun v hv => xExtract_ok hv (hρ _ _ hx))
  case panic x =>
    obtain ⟨v, hx, e⟩ := withV_inv e
    exact plain1_ok e (hρ _ _ hx) hr
  case typeAssert x xT t ok =>
    obtain ⟨v, hx, e⟩ := withV_inv e
    split at e
    · rename_i hp
      rw [plain_eq 9 _ _ hp (hρ _ _ hx)]
      exact plainO_ok e hr
    · exact ofV_ok e (optV_ok hr fun v hv => xAssert_ok hv (hρ _ _ hx))
  case call q =>
    obtain ⟨vs, l1, e3, e⟩ := liftB_inv e
    have hvs : VRs p vs (q.args.map ρ').toList := by simpa using evals_vrs hρ e3
    unfold resolve
    cases hq : q.callee with
    | value f =>
      rw [hq] at e
      dsimp only at e ⊢
      obtain ⟨fv, hx, e⟩ := withV_inv e
      unfold xCall at e
      cases hxc : xCallee P fv vs with
      | none =>
        rw [hxc] at e
        dsimp only at e
        cases hxe : xExtern P fv vs with
        | none => rw [hxe] at e; cases e
        | some u =>
          rw [hxe] at e
          obtain ⟨rfl, rfl, rfl⟩ := pure_inv e
          obtain ⟨k1, g, first, captured, k2, k3⟩ := xExtern_ok (vs' := q.args.map ρ') hxe (hρ _ _ hx) hvs
          rw [k2]
          exact Gives.quiet (R := NV) (x := u) hr (y := Next.value u) (k3 w) ⟨u, rfl, plain_vr 9 _ k1⟩
      | some g =>
      rw [hxc] at e
      obtain ⟨rfl, rfl, rfl⟩ := pure_inv e
      obtain ⟨k1, first, captured, k2, k3⟩ := xCallee_ok (vs' := q.args.map ρ') (g := g.1) (args := g.2) hxc (hρ _ _ hx) hvs
      rw [k2]
      exact Gives.quiet (R := fun p (xs : List Value) n => ∃ ys, n = Next.enter g.1 ys ∧ VRs p xs ys.toList) (x := g.2) hr (y := Next.enter g.1 _) (run_callFunc k1 _ w) ⟨_, rfl, k3⟩
    | builtin b =>
      rw [hq] at e
      dsimp only at e ⊢
      exact xBuiltin_ok e hvs hr hf
    | invoke => rw [hq] at e; cases e
  case defer q =>
    obtain ⟨vs, l1, e3, e⟩ := liftB_inv e
    have hvs : VRs p vs (q.args.map ρ').toList := by simpa using evals_vrs hρ e3
    unfold resolve
    cases hq : q.callee with
    | value f =>
      rw [hq] at e
      dsimp only at e ⊢
      obtain ⟨fv, hx, e⟩ := withV_inv e
      obtain ⟨g, l1, e4, e⟩ := liftB_inv e
      obtain ⟨rfl, rfl, rfl⟩ := pure_inv e
      obtain ⟨k1, first, captured, k2, k3⟩ := xCallee_ok (vs' := q.args.map ρ') (g := g.1) (args := g.2) e4 (hρ _ _ hx) hvs
      rw [k2]
      exact Gives.quiet (R := fun p (xs : List Value) n => ∃ ys cap, n = Next.defer ⟨.fn (.func g.1) cap, ys⟩ ∧ VRs p xs (ys ++ cap).toList) (x := g.2) hr (y := Next.defer ⟨.fn (.func g.1) captured, first ++ q.args.map ρ'⟩) rfl ⟨_, _, rfl, k3⟩
    | builtin b => rw [hq] at e; cases e
    | invoke => rw [hq] at e; cases e
  all_goals cases e
end
end Ev
end Go.Proofs.YtakfgbedmglffaaGreatDoor
