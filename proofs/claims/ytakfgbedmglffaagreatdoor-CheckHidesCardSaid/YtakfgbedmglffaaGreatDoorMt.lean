/- The evaluator's operations: nothing beside what they touched matters to them, and nothing beside what their operands read as. No program in sight. -/
import Derived.Test.YtakfgbedmglffaaGreatDoorMp
namespace Go.Proofs.YtakfgbedmglffaaGreatDoor
set_option linter.unusedSimpArgs false
set_option linter.unusedVariables false
namespace Ev
open Go.RowKit

section
variable {P : Program} {K : Cfg}
theorem local_bind' {β γ : Type} {m : M AObj β} {f : β → M AObj γ} (hm : M.Local m) (hf : ∀ x, M.Local (f x)) : M.Local (M.bind m f) := M.local_bind hm hf
theorem local_withV {β : Type} {o : Option Value} {f : Value → M AObj β} (hf : ∀ x, M.Local (f x)) : M.Local (withV o f) := by
  cases o with
  | none =>
    show M.Local (M.fail : M AObj β)
    exact M.local_fail
  | some v => exact hf v
theorem local_ofV {m : M AObj Value} (hm : M.Local m) : M.Local (ofV m) := M.local_bind hm fun _ => M.local_pure _
theorem local_ofU {m : M AObj Unit} (hm : M.Local m) : M.Local (ofU m) := M.local_bind hm fun _ => M.local_pure _
theorem local_optV (o : Option Value) : M.Local (optV o) := local_liftO o
theorem local_plainO (s : Sem Value) : M.Local (plainO P s) := by
  unfold plainO
  repeat' split
  all_goals first | exact M.local_pure _ | exact M.local_fail
theorem local_newRow (cs : List Value) (t : TypeId) (sz : Nat) : M.Local (newRowX cs t sz) := M.local_new _
theorem local_rdMap (b : Nat) : M.Local (rdMap b) := M.local_bind (M.local_read b) fun o => by
  split
  · exact M.local_pure _
  · exact M.local_fail
theorem local_mapOf (v : Value) : M.Local (mapOf v) := by
  unfold mapOf
  split
  · exact M.local_pure _
  · exact M.local_bind (local_rdMap _) fun _ => M.local_pure _
  · exact M.local_fail
theorem local_xBox (t : TypeId) (v : Value) : M.Local (xBox t v) := M.local_bind (local_newRow _ _ _) fun _ => M.local_pure _
theorem local_xAlloc (t : TypeId) : M.Local (xAlloc P t) := M.local_bind (local_liftO _) fun _ => local_xBox _ _
theorem local_xLoad (t : TypeId) (v : Value) : M.Local (xLoad P t v) := by
  unfold xLoad
  split
  · refine M.local_bind (local_liftO _) fun i => M.local_bind (local_rdRow _) fun r => ?_
    repeat' split
    all_goals first | exact M.local_pure _ | exact M.local_fail | exact local_liftO _
  · exact M.local_fail
theorem local_xStore (t : TypeId) (v x : Value) : M.Local (xStore P K t v x) := by
  unfold xStore
  split
  · refine M.local_bind (local_liftO _) fun i => M.local_bind (local_rdRow _) fun r => ?_
    split
    · exact M.local_write _ _
    · exact M.local_fail
  · exact M.local_fail
theorem local_srcX (tx : TypeId) (sz : Nat) (x : Value) : M.Local (srcX P tx sz x) := by
  unfold srcX
  cases hu : P.underlying tx with
  | none => exact M.local_fail
  | some d =>
    try dsimp only
    repeat' split
    all_goals first
      | exact M.local_pure _
      | exact M.local_fail
      | exact local_liftO _
      | (refine M.local_bind (local_rdRow _) fun r => ?_
         repeat' split
         all_goals first | exact M.local_pure _ | exact M.local_fail | exact local_liftO _)
theorem local_xAppend (t tx : TypeId) (s x : Value) : M.Local (xAppend P K t tx s x) := by
  unfold xAppend
  cases hu : P.underlying t with
  | none => exact M.local_fail
  | some d =>
    cases d with
    | slice e =>
      refine M.local_bind (local_liftO _) fun i => M.local_bind (local_srcX _ _ _) fun y => ?_
      try dsimp only
      repeat' split
      all_goals first
        | exact M.local_pure _
        | exact M.local_fail
        | exact M.local_bind (local_newRow _ _ _) fun _ => M.local_pure _
        | (refine M.local_bind (local_rdRow _) fun r => ?_
           repeat' split
           all_goals first
             | exact M.local_pure _
             | exact M.local_fail
             | exact M.local_bind (local_newRow _ _ _) fun _ => M.local_pure _
             | exact M.local_bind (M.local_write _ _) fun _ => M.local_bind (local_newRow _ _ _) fun _ => M.local_pure _
             | exact M.local_bind (M.local_write _ _) fun _ => M.local_pure _)
    | _ => exact M.local_fail
theorem local_xSlice (t : TypeId) (v : Value) (lo hi mx : Option Value) : M.Local (xSlice P t v lo hi mx) := by
  unfold xSlice
  cases hu : P.underlying t with
  | none => exact M.local_fail
  | some d =>
    cases d with
    | slice e =>
      refine M.local_bind (local_liftO _) fun i => ?_
      try dsimp only
      repeat' split
      all_goals first
        | exact M.local_pure _
        | exact M.local_fail
        | (refine M.local_bind (local_rdRow _) fun r => ?_
           repeat' split
           all_goals first | exact M.local_pure _ | exact M.local_fail)
    | array n e => 
      try dsimp only
      repeat' split
      all_goals first
        | exact M.local_pure _
        | exact M.local_fail
        | (refine M.local_bind (local_liftO _) fun i => ?_
           repeat' split
           all_goals first | exact M.local_pure _ | exact M.local_fail)
    | _ => exact M.local_fail
theorem local_xMakeSlice (t : TypeId) (lv cv : Value) : M.Local (xMakeSlice P t lv cv) := by
  unfold xMakeSlice
  cases hu : P.underlying t with
  | none => exact M.local_fail
  | some d =>
    cases d with
    | slice e =>
      dsimp only
      split
      · refine M.local_bind (local_liftO _) fun i => ?_
        split
        · exact M.local_bind (local_newRow _ _ _) fun _ => M.local_pure _
        · exact M.local_fail
      · exact M.local_fail
    | _ => exact M.local_fail
theorem local_xBuildSlice (t : TypeId) (n : Nat) (ps : List (Nat × Value)) : M.Local (xBuildSlice P t n ps) := by
  unfold xBuildSlice
  cases hu : P.underlying t with
  | none => exact M.local_fail
  | some d =>
    cases d with
    | slice e =>
      refine M.local_bind (local_liftO _) fun i => ?_
      split
      · exact M.local_bind (local_liftO _) fun _ => M.local_bind (local_newRow _ _ _) fun _ => M.local_pure _
      · exact M.local_fail
    | _ => exact M.local_fail
theorem local_xMakeMap : M.Local xMakeMap := M.local_bind (M.local_new _) fun _ => M.local_pure _
theorem local_xLookup (t : TypeId) (m k : Value) (ok : Bool) : M.Local (xLookup P t m k ok) := by
  unfold xLookup
  cases hu : P.underlying t with
  | none => exact M.local_fail
  | some d =>
    cases d with
    | map kt et =>
      dsimp only
      cases hk : P.underlying kt with
      | none => exact M.local_fail
      | some d =>
        dsimp only
        refine M.local_bind (local_mapOf _) fun es => ?_
        split
        · refine M.local_bind (local_liftO _) fun r => ?_
          split
          · exact M.local_pure _
          · exact M.local_bind (local_liftO _) fun _ => M.local_pure _
        · exact M.local_fail
    | _ => exact M.local_fail
theorem local_xMapUpdate (t : TypeId) (m k v : Value) : M.Local (xMapUpdate P K t m k v) := by
  unfold xMapUpdate
  cases hu : P.underlying t with
  | none => exact M.local_fail
  | some d =>
    cases d with
    | map kt et =>
      dsimp only
      cases hk : P.underlying kt with
      | none => exact M.local_fail
      | some d =>
        dsimp only
        split
        · refine M.local_bind (local_rdMap _) fun r => ?_
          repeat' split
          all_goals first | exact M.local_write _ _ | exact M.local_fail
        · exact M.local_fail
    | _ => exact M.local_fail
theorem local_xLen (t : TypeId) (v : Value) : M.Local (xLen P t v) := by
  unfold xLen
  cases hu : P.underlying t with
  | none => exact M.local_fail
  | some d =>
    try dsimp only
    repeat' split
    all_goals first
      | exact M.local_pure _
      | exact M.local_fail
      | exact M.local_bind (local_mapOf _) fun _ => M.local_pure _
theorem local_xRange (t : TypeId) (v : Value) : M.Local (xRange P t v) := by
  unfold xRange
  cases hu : P.underlying t with
  | none => exact M.local_fail
  | some d =>
    cases d with
    | string =>
      dsimp only
      split
      · exact M.local_bind (M.local_new _) fun _ => M.local_pure _
      · exact M.local_fail
    | _ => exact M.local_fail
theorem local_rdIter (b : Nat) : M.Local (rdIter b) := M.local_bind (M.local_read b) fun o => by
  split
  · exact M.local_pure _
  · exact M.local_fail
theorem local_xNext (v : Value) (is : Bool) : M.Local (xNext K v is) := by
  unfold xNext
  split
  · refine M.local_bind (local_rdIter _) fun r => ?_
    repeat' split
    all_goals first
      | exact M.local_bind (M.local_write _ _) fun _ => M.local_pure _
      | exact M.local_pure _
      | exact M.local_fail
  · exact M.local_fail
theorem local_xBin (op : BinOp) (t : TypeId) (x y : Operand) (a b : Value) : M.Local (xBin P K op t x y a b) := by
  have slow : M.Local (xBinSlow P op t x y a b) := by
    unfold xBinSlow
    split
    · exact local_plainO _
    · exact local_ofV (local_optV _)
  unfold xBin
  split
  · split
    · unfold xBinInt
      repeat' split
      all_goals first | exact M.local_pure _ | exact slow
    · exact slow
  · split
    · unfold xBinTok
      repeat' split
      all_goals first | exact M.local_pure _ | exact M.local_fail
    · exact slow
  · split
    · unfold xBinPtr ptrEq
      split
      · split
        · split
          · exact M.local_fail
          · refine M.local_bind ?_ fun r => ?_
            · split
              · exact M.local_pure _
              · refine M.local_bind (local_rdRow _) fun r => M.local_bind (local_rdRow _) fun r' => ?_
                split
                · exact M.local_pure _
                · exact M.local_fail
            · split
              · exact M.local_pure _
              · exact M.local_pure _
              · exact M.local_fail
        · exact M.local_fail
      · exact M.local_fail
    · exact slow
  · split
    · unfold xBinStr
      split
      · exact M.local_pure _
      · exact slow
    · exact slow
  · exact slow
theorem local_plain1 (f : Value → Sem Value) (a : Value) : M.Local (plain1 P f a) := by
  unfold plain1
  split
  · exact local_plainO _
  · exact M.local_fail
theorem local_xStrBytes (src d : TypeId) (s : ByteArray) : M.Local (xStrBytes P src d s) := by
  unfold xStrBytes
  repeat' split
  all_goals first | exact M.local_fail | exact M.local_bind (M.local_new _) fun _ => M.local_pure _
theorem local_xConv (s d : TypeId) (v : Value) : M.Local (xConv P s d v) := by
  unfold xConv
  split
  · split
    · exact local_ofV (local_xStrBytes _ _ _)
    · exact local_plain1 _ _
  · exact local_plain1 _ _
theorem local_xNilO (v : Value) : M.Local (xNilO v) := by
  unfold xNilO
  split
  · exact M.local_pure _
  · exact M.local_fail
theorem local_xCap (t : TypeId) (v : Value) : M.Local (xCap P t v) := by
  unfold xCap
  repeat' split
  all_goals first | exact M.local_pure _ | exact M.local_fail
theorem local_xAppendZ (t tx : TypeId) (s x : Value) : M.Local (xAppendZ P t tx s x) := by
  unfold xAppendZ
  repeat' split
  all_goals first
    | exact M.local_fail
    | (refine M.local_bind (local_liftO _) fun i => ?_
       split
       · exact M.local_bind (local_newRow _ _ _) fun _ => M.local_pure _
       · exact M.local_fail)
theorem local_xCopy (t : TypeId) (d x : Value) : M.Local (xCopy P K t d x) := by
  unfold xCopy
  split
  · refine M.local_bind (local_liftO _) fun i => ?_
    split
    · exact M.local_pure _
    · split
      · exact M.local_fail
      · refine M.local_bind (local_rdRow _) fun r' => ?_
        split
        · refine M.local_bind (local_rdRow _) fun r => ?_
          split
          · exact M.local_bind (M.local_write _ _) fun _ => M.local_pure _
          · exact M.local_fail
        · exact M.local_fail
    · exact M.local_fail
  · exact M.local_fail
theorem local_xBuiltin (b : Builtin) (ats : Array TypeId) (ty : TypeId) (args : List Value) : M.Local (xBuiltin P K b ats ty args) := by
  unfold xBuiltin
  repeat' split
  all_goals first
    | exact local_ofV (local_xAppend _ _ _ _)
    | exact local_ofV (local_xLen _ _)
    | exact local_ofV (local_xCap _ _)
    | exact local_ofV (local_xCopy _ _ _)
    | exact local_ofV (local_xAppendZ _ _ _ _)
    | exact local_plainO _
    | exact M.local_pure _
    | exact M.local_fail
theorem local_xCall (fv : Value) (vs : List Value) : M.Local (xCall P fv vs) := by
  unfold xCall
  repeat' split
  all_goals first | exact M.local_pure _ | exact M.local_fail
theorem local_xOp (ρ : Env) (o : Oper) : M.Local (xOp P K ρ o) := by
  unfold xOp
  split
  all_goals
    repeat (first | (refine local_withV fun _ => ?_) | (refine local_bind' (local_liftO _) fun _ => ?_))
    repeat' split
    all_goals first
      | exact M.local_pure _
      | exact M.local_fail
      | exact local_withV fun _ => M.local_pure _
      | exact local_withV fun _ => local_bind' (local_liftO _) fun _ => M.local_pure _
      | exact local_plainO _
      | exact local_plain1 _ _
      | exact local_xConv _ _ _
      | exact local_xBin _ _ _ _ _ _
      | exact local_xNilO _
      | exact local_xBuiltin _ _ _ _
      | exact local_xCall _ _
      | exact local_withV fun _ => local_xCall _ _
      | exact local_ofV (local_optV _)
      | exact local_ofV (local_xAlloc _)
      | exact local_ofV (local_xBox _ _)
      | exact local_ofV (local_xLoad _ _)
      | exact local_ofV (local_xRange _ _)
      | exact local_ofV (local_xNext _ _)
      | exact local_ofV (local_xSlice _ _ _ _ _)
      | exact local_ofV (local_xMakeSlice _ _ _)
      | exact local_ofV (local_xBuildSlice _ _ _)
      | exact local_ofV local_xMakeMap
      | exact local_ofV (local_xLookup _ _ _ _)
      | exact local_ofU (local_xStore _ _ _)
      | exact local_ofU (local_xMapUpdate _ _ _ _)
/-! ### an operation asks just what its operands read as -/
theorem evals_congr {ρ ρ' : Env} : ∀ {l : List Operand}, (∀ x ∈ l, ρ x = ρ' x) → evals ρ l = evals ρ' l
  | [], _ => rfl
  | x :: l, h => by
    unfold evals
    rw [h x (by simp), evals_congr (l := l) fun y hy => h y (by simp [hy])]
theorem evalsP_congr {ρ ρ' : Env} : ∀ {l : List (Nat × Operand)}, (∀ x ∈ l, ρ x.2 = ρ' x.2) → evalsP ρ l = evalsP ρ' l
  | [], _ => rfl
  | (i, x) :: l, h => by
    unfold evalsP
    rw [h (i, x) (by simp), evalsP_congr (l := l) fun y hy => h y (by simp [hy])]
theorem evalI_congr {ρ ρ' : Env} {o : Option Operand} (h : ∀ x ∈ o.toList, ρ x = ρ' x) : evalI ρ o = evalI ρ' o := by
  cases o with
  | none => rfl
  | some x => simp only [evalI, h x (by simp)]
theorem xOp_congr {ρ ρ' : Env} (o : Oper) (h : ∀ x ∈ o.op.operands, ρ x = ρ' x) : xOp P K ρ o = xOp P K ρ' o := by
  obtain ⟨dst, op, type, pos, after, guard⟩ := o
  have hc : ∀ q : Call, (∀ x ∈ q.operands, ρ x = ρ' x) → evals ρ q.args.toList = evals ρ' q.args.toList ∧ ∀ f, q.callee = .value f → ρ f = ρ' f := fun q hq =>
    ⟨evals_congr fun x hx => hq x (by simp [Call.operands, Array.mem_toList_iff.1 hx]), fun f hf => hq f (by simp [Call.operands, hf])⟩
  unfold xOp
  dsimp only at h ⊢
  cases op <;> simp only [Op.operands] at h ⊢
  case build t ps => rw [evalsP_congr (ρ := ρ) (ρ' := ρ') fun x hx => h x.2 (by simpa using ⟨x.1, by simpa using hx⟩)]
  case buildSlice t n ps => rw [evalsP_congr (ρ := ρ) (ρ' := ρ') fun x hx => h x.2 (by simpa using ⟨x.1, by simpa using hx⟩)]
  case makeFunc fn first captured =>
    cases fn <;> first | rfl | skip
    dsimp only
    rw [evals_congr (ρ := ρ) (ρ' := ρ') (l := first.toList) fun x hx => h x (by simp [Array.mem_toList_iff.1 hx]), evals_congr (ρ := ρ) (ρ' := ρ') (l := captured.toList) fun x hx => h x (by simp [Array.mem_toList_iff.1 hx])]
  case call q =>
    obtain ⟨h1, h2⟩ := hc q h
    rw [h1]
    cases hq : q.callee with
    | value f => simp only [h2 f hq]
    | _ => rfl
  case defer q =>
    obtain ⟨h1, h2⟩ := hc q h
    rw [h1]
    cases hq : q.callee with
    | value f => simp only [h2 f hq]
    | _ => rfl
  case makeMap t r => cases r <;> rfl
  case slice t x lo hi mx =>
    rw [evalI_congr (ρ := ρ) (ρ' := ρ') (o := lo) fun y hy => h y (by simp at hy; simp [hy]), evalI_congr (ρ := ρ) (ρ' := ρ') (o := hi) fun y hy => h y (by simp at hy; simp [hy]), evalI_congr (ρ := ρ) (ρ' := ρ') (o := mx) fun y hy => h y (by simp at hy; simp [hy]), h x (by simp)]
  all_goals (first | rfl | (simp_all; done))
end
end Ev
end Go.Proofs.YtakfgbedmglffaaGreatDoor
