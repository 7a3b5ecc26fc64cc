/- The evaluator: code, regions, calls, deferred calls. No program in sight. -/
import Derived.Test.YtakfgbedmglffaaGreatDoorMt
namespace Go.Proofs.YtakfgbedmglffaaGreatDoor
set_option linter.unusedSimpArgs false
set_option linter.unusedVariables false
namespace Ev
open Go.RowKit

/-- how a piece of code ends -/
inductive XE where
  | normal
  | exit (id : Nat)
  | ret
  | panic (v : Value) (ls : List Nat)
/-- what an operation has come to -/
inductive OV where
  | val (v : Value)
  | pan (v : Value)
  | later (g : FuncId) (args : List Value)
  | recover
/-- how a function goes that has deferred calls: it returns, it panics, its panic was caught -/
inductive UM where
  | ret
  | pan (v : Value)
  | caught (v : Value)
structure Loc where
  tm : Tree Value
  n : Nat
  ds : List (FuncId × List Value)
noncomputable def Loc.rd (s : Loc) (t : Nat) : Value := (s.tm.get t).getD undef
noncomputable def Loc.put (s : Loc) (d : Option Nat) (v : Value) : Loc := match s with
  | ⟨tm, n, ds⟩ => match d with
    | some i => match Nat.ble (Nat.succ i) n with
      | true => ⟨tm.set i (some v), n, ds⟩
      | false => ⟨tm, n, ds⟩
    | none => ⟨tm, n, ds⟩
noncomputable def Loc.later (s : Loc) (x : FuncId × List Value) : Loc := match s with
  | ⟨tm, n, ds⟩ => ⟨tm, n, x :: ds⟩
noncomputable def envOf (K : Cfg) (s : Loc) : Env
  | .tmp t => some (s.rd t)
  | .const v => if plainF 9 v then some v else none
  | .global g => if g < K.g then some (.pointer (some ⟨g, 0, none⟩)) else none
  | .func f => some (.func (.func f) #[] #[])
noncomputable def boolOf : Value → Option Bool
  | .bool b => some b
  | _ => none
noncomputable def yieldedX (ops : Array Oper) (s : Loc) (j : Nat) : Option Bool := match (ops[j]?).bind (·.dst) with
  | some d => boolOf (s.rd d)
  | none => none
inductive CR where
  | ret (v : Value)
  | pan (v : Value)
noncomputable def argsTree : List Value → Nat → Tree Value → Tree Value
  | [], _, t => t
  | v :: l, i, t => argsTree l (i + 1) (t.set i (some v))
noncomputable def resX (P : Program) (s : Loc) : List ResultVar → M AObj (List Value)
  | [] => M.pure []
  | .tmp t :: l => M.bind (resX P s l) fun vs => M.pure (s.rd t :: vs)
  | .cell b t :: l => M.bind (xLoad P t (s.rd b)) fun v => M.bind (resX P s l) fun vs => M.pure (v :: vs)
noncomputable def one (vs : List Value) : Value := match vs with
  | [v] => v
  | vs => .tuple vs.toArray
/-! ### regions that draw their order -/
/-- 'k n', with n worked out first -/
noncomputable def force {α : Type} (n : Nat) (k : Nat → α) : α := match n with
  | 0 => k 0
  | m + 1 => k (m + 1)
theorem force_eq {α : Type} (n : Nat) (k : Nat → α) : force n k = k n := by cases n <;> rfl
/-- what must stand ahead of an operation -/
noncomputable def mask1 (T : Tree Nat) : List Edge → Nat → Nat
  | [], m => m
  | e :: es, m => if Region.binds .any e then mask1 T es (m ||| 2 ^ e.on ||| (T.get e.on).getD 0) else mask1 T es m
noncomputable def masks : List Oper → Nat → Tree Nat → List Nat
  | [], _, _ => []
  | o :: os, j, T => force (mask1 T o.after.toList 0) fun m => m :: masks os (j + 1) (T.set j (some m))
/-- the slots that an operation looks at or writes -/
noncomputable def slotsOf (ops : Array Oper) (o : Oper) : List Nat := o.dst.toList ++ o.looksAt ops
noncomputable def meets : List Nat → List Nat → Bool
  | [], _ => false
  | t :: ts, us => us.any (fun u => Nat.beq t u) || meets ts us
/-- operation j against those ahead of it: each is ordered, or shares no written slot -/
noncomputable def apartAll (ops : Array Oper) (j : Oper) (m : Nat) : List Oper → Nat → Bool
  | [], _ => true
  | o :: os, i => (m.testBit i || (!meets o.dst.toList (slotsOf ops j) && !meets j.dst.toList (slotsOf ops o))) && apartAll ops j m os (i + 1)
noncomputable def edgesOK (j : Nat) (o : Oper) : Bool := o.after.toList.all fun e => !Region.binds .any e || Nat.blt e.on j
noncomputable def drawOKL (ops : Array Oper) : List Oper → List Nat → Nat → Bool
  | [], _, _ => true
  | _ :: _, [], _ => false
  | o :: os, m :: ms, j => edgesOK j o && (apartAll ops o m (ops.toList.take j) 0 && drawOKL ops os ms (j + 1))
noncomputable def drawOK (ops : Array Oper) : Bool := drawOKL ops ops.toList (masks ops.toList 0 .leaf) 0
/-- does what an operation touched meet what an unordered one ahead of it wrote, or the other way round? -/
noncomputable def clash (m : Nat) (l : Log) : List (Nat × Log) → Bool
  | [] => false
  | (i, k) :: d => (if m.testBit i then false else !(Nat.beq (Nat.land k.w l.t) 0 && Nat.beq (Nat.land k.t l.w) 0)) || clash m l d
/-- an operation panics: each wanted one ahead of it stands ahead of it in any order, or has written nothing -/
noncomputable def quietAll (m : Nat) : List (Nat × Log) → Bool
  | [] => true
  | (i, k) :: d => (m.testBit i || Nat.beq k.w 0) && quietAll m d
noncomputable def dstsOf (ops : Array Oper) : List Nat := ops.toList.filterMap (·.dst)
noncomputable def resSlots : List ResultVar → List Nat
  | [] => []
  | .tmp t :: l => t :: resSlots l
  | .cell b _ :: l => b :: resSlots l
noncomputable def settleX : UM → UM
  | .ret => .ret
  | .pan v => .pan v
  | .caught _ => .ret
section
variable (P : Program) (K : Cfg)
mutual
noncomputable def evCode : Nat → Code → Loc → M AObj (XE × Loc)
  | 0, _, _ => M.fail
  | f + 1, c, s => match c with
    | .skip => M.pure (.normal, s)
    | .label _ => M.pure (.normal, s)
    | .seq a b => M.bind (evCode f a s) fun r => match r.1 with
      | .normal => evCode f b r.2
      | _ => M.pure r
    | .cond q a b => match envOf K s q with
      | some (.bool true) => evCode f a s
      | some (.bool false) => evCode f b s
      | _ => M.fail
    | .block id a => M.bind (evCode f a s) fun r => match r.1 with
      | .exit i => if i = id then M.pure (.normal, r.2) else M.pure r
      | _ => M.pure r
    | .loop a => M.bind (evCode f a s) fun r => match r.1 with
      | .normal => evCode f (.loop a) r.2
      | _ => M.pure r
    | .exit id => M.pure (.exit id, s)
    | .scope c => evCode f c s
    | .ret => M.pure (.ret, s)
    | .region _ ops false => evOps f ops ops.toList s
    | .region _ ops true => if drawOK ops then evDraw f ops ops.toList (masks ops.toList 0 .leaf) 0 [] s else M.fail
    | _ => M.fail
noncomputable def evOps : Nat → Array Oper → List Oper → Loc → M AObj (XE × Loc)
  | 0, _, _, _ => M.fail
  | f + 1, ops, os, s => match os with
    | [] => M.pure (.normal, s)
    | o :: os => match Region.wanted o (yieldedX ops s) with
      | true => M.bind (evOp f o (envOf K s)) fun r => match r with
        | .val v => evOps f ops os (s.put o.dst v)
        | .pan v => M.pure (.panic v [], s)
        | .later g args => evOps f ops os ((s.later (g, args)).put o.dst undef)
        | .recover => M.fail
      | false => evOps f ops os (s.put o.dst undef)
/-- a region that draws its order, in the order of the text: whatever the order, it would come to the same -/
noncomputable def evDraw : Nat → Array Oper → List Oper → List Nat → Nat → List (Nat × Log) → Loc → M AObj (XE × Loc)
  | 0, _, _, _, _, _, _ => M.fail
  | f + 1, ops, os, ms, i, done, s => match os with
    | [] => M.pure (.normal, s)
    | o :: os => match ms with
      | [] => M.fail
      | m :: ms => match Region.wanted o (yieldedX ops s) with
        | true => fun h c => match evOp f o (envOf K s) h c with
          | .ok (.val v) h' c' l => if clash m l done then .no else match evDraw f ops os ms (i + 1) ((i, l) :: done) (s.put o.dst v) h' c' with
            | .ok r h'' c'' l' => .ok r h'' c'' (l.and l')
            | .no => .no
          | .ok (.pan v) h' c' l => if clash m l done then .no else if quietAll m done && ms.all (fun k => k.testBit i) then .ok (.panic v (dstsOf ops), s) h' c' (l.and .no) else .no
          | _ => .no
        | false => evDraw f ops os ms (i + 1) done (s.put o.dst undef)
/-- one operation -/
noncomputable def evOp : Nat → Oper → Env → M AObj OV
  | 0, _, _ => M.fail
  | f + 1, o, ρ => M.bind (xOp P K ρ o) fun r => match r with
    | .val v => M.pure (.val v)
    | .skip => M.pure (.val undef)
    | .enter g args => match K.orc g args with
      | some m => M.bind m fun v => M.pure (.val v)
      | none => M.bind (evCall f g args) fun r => match r with
        | .ret v => M.pure (.val v)
        | .pan v => M.pure (.pan v)
    | .defer g args => M.pure (.later g args)
    | .panic v => M.pure (.pan v)
    | .recover => M.pure .recover
noncomputable def evCall : Nat → FuncId → List Value → M AObj CR
  | 0, _, _ => M.fail
  | f + 1, g, args => match P.funcs[g]? with
    | none => M.fail
    | some fn => match fn.body with
      | none => M.fail
      | some c => if args.length ≤ fn.ntmps then M.bind (evCode f c ⟨argsTree args 0 .leaf, fn.ntmps, []⟩) fun r => match r.1 with
          | .normal => evLeave f fn r.2 [] r.2.ds .ret
          | .ret => evLeave f fn r.2 [] r.2.ds .ret
          | .panic v ls => evLeave f fn r.2 ls r.2.ds (.pan v)
          | _ => M.fail
        else M.fail
/-- a function's end: what it has deferred, the last first -/
noncomputable def evLeave : Nat → Func → Loc → List Nat → List (FuncId × List Value) → UM → M AObj CR
  | 0, _, _, _, _, _ => M.fail
  | f + 1, fn, s, ls, ds, u => match ds with
    | [] => match u with
      | .ret => if meets ls (resSlots fn.results.toList) then M.fail else M.bind (resX P s fn.results.toList) fun vs => M.pure (.ret (one vs))
      | .pan v => M.pure (.pan v)
      | .caught _ => M.fail
    | (g, args) :: ds => M.bind (evDefer f g args u) fun u => evLeave f fn s ls ds (settleX u)
/-- a deferred call -/
noncomputable def evDefer : Nat → FuncId → List Value → UM → M AObj UM
  | 0, _, _, _ => M.fail
  | f + 1, g, args, u => if goBody P g then match P.funcs[g]? with
    | none => M.fail
    | some fn => match fn.body with
      | none => M.fail
      | some c => if args.length ≤ fn.ntmps then M.bind (evCodeS f c ⟨argsTree args 0 .leaf, fn.ntmps, []⟩ u) fun r => match r.2.1.ds with
          | [] => match r.1 with
            | .normal => M.bind (resX P r.2.1 fn.results.toList) fun _ => M.pure r.2.2
            | .ret => M.bind (resX P r.2.1 fn.results.toList) fun _ => M.pure r.2.2
            | _ => M.fail
          | _ => M.fail
        else M.fail
    else M.fail
/-- code that may catch the panic of the function that has deferred it -/
noncomputable def evCodeS : Nat → Code → Loc → UM → M AObj (XE × Loc × UM)
  | 0, _, _, _ => M.fail
  | f + 1, c, s, u => match c with
    | .seq a b => M.bind (evCodeS f a s u) fun r => match r.1 with
      | .normal => evCodeS f b r.2.1 r.2.2
      | _ => M.pure r
    | .cond q a b => match envOf K s q with
      | some (.bool true) => evCodeS f a s u
      | some (.bool false) => evCodeS f b s u
      | _ => M.fail
    | .block id a => M.bind (evCodeS f a s u) fun r => match r.1 with
      | .exit i => if i = id then M.pure (.normal, r.2) else M.pure r
      | _ => M.pure r
    | .region _ ops false => evOpsS f ops ops.toList s u
    | c => M.bind (evCode f c s) fun r => M.pure (r.1, r.2, u)
noncomputable def evOpsS : Nat → Array Oper → List Oper → Loc → UM → M AObj (XE × Loc × UM)
  | 0, _, _, _, _ => M.fail
  | f + 1, ops, os, s, u => match os with
    | [] => M.pure (.normal, s, u)
    | o :: os => match Region.wanted o (yieldedX ops s) with
      | true => M.bind (evOp f o (envOf K s)) fun r => match r with
        | .val v => evOpsS f ops os (s.put o.dst v) u
        | .pan v => M.pure (.panic v [], s, u)
        | .later _ _ => M.fail
        | .recover => match u with
          | .pan v => evOpsS f ops os (s.put o.dst v) (.caught v)
          | u => evOpsS f ops os (s.put o.dst .nilIface) u
      | false => evOpsS f ops os (s.put o.dst undef) u
end
end
end Ev
end Go.Proofs.YtakfgbedmglffaaGreatDoor
