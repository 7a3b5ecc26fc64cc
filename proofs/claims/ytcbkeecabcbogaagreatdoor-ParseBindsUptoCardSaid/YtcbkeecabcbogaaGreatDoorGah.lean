/- The evaluator's operations: nothing beside what they touched matters to them, and nothing beside what their operands read as. No program in sight. The evaluator: code, regions, calls, deferred call -/
import Derived.Test.YtcbkeecabcbogaaGreatDoorGag
set_option linter.unusedSimpArgs false
set_option linter.unusedVariables false
namespace Go.Proofs.YtcbkeecabcbogaaGreatDoor
namespace Ev
open Go.RowKit
section
variable {P:Program} {K:Cfg}
theorem local_bind' {β γ:Type}{m:M AObj β}{f:β→M AObj γ}(hm:M.Local m)(hf:∀ x,M.Local (f x)):M.Local (M.bind m f):=M.local_bind hm hf
theorem local_withV {β:Type}{o:Option Value}{f:Value→M AObj β}(hf:∀ x,M.Local (f x)):M.Local (withV o f):=by
 cases o with
 |none=>
  show M.Local (M.fail:M AObj β)
  exact M.local_fail
 |some v=>exact hf v
theorem local_ofV {m:M AObj Value}(hm:M.Local m):M.Local (ofV m):=M.local_bind hm fun _=>M.local_pure _
theorem local_ofU {m:M AObj Unit}(hm:M.Local m):M.Local (ofU m):=M.local_bind hm fun _=>M.local_pure _
theorem local_optV (o:Option Value):M.Local (optV o):=local_liftO o
theorem local_plainO (s:Sem Value):M.Local (plainO P s):=by
 unfold plainO
 repeat' split
 all_goals first|exact M.local_pure _|exact M.local_fail
theorem local_newRow (cs:List Value)(t:TypeId)(sz:Nat):M.Local (newRowX cs t sz):=M.local_new _
theorem local_rdMap (b:Nat):M.Local (rdMap b):=M.local_bind (M.local_read b) fun o=>by
 split
 ·exact M.local_pure _
 ·exact M.local_fail
theorem local_mapOf (v:Value):M.Local (mapOf v):=by
 unfold mapOf
 split
 ·exact M.local_pure _
 ·exact M.local_bind (local_rdMap _) fun _=>M.local_pure _
 ·exact M.local_fail
theorem local_xBox (t:TypeId)(v:Value):M.Local (xBox t v):=M.local_bind (local_newRow _ _ _) fun _=>M.local_pure _
theorem local_xAlloc (t:TypeId):M.Local (xAlloc P t):=M.local_bind (local_liftO _) fun _=>local_xBox _ _
theorem local_xLoad (t:TypeId)(v:Value):M.Local (xLoad P t v):=by
 unfold xLoad
 split
 ·refine M.local_bind (local_liftO _) fun i=>M.local_bind (local_rdRow _) fun r => ?_
  repeat' split
  all_goals first|exact M.local_pure _|exact M.local_fail|exact local_liftO _
 ·exact M.local_fail
theorem local_xStore (t:TypeId)(v x:Value):M.Local (xStore P K t v x):=by
 unfold xStore
 split
 ·refine M.local_bind (local_liftO _) fun i=>M.local_bind (local_rdRow _) fun r => ?_
  split
  ·exact M.local_write _ _
  ·exact M.local_fail
 ·exact M.local_fail
theorem local_srcX (tx:TypeId)(sz:Nat)(x:Value):M.Local (srcX P tx sz x):=by
 unfold srcX
 cases hu:P.underlying tx with
 |none=>exact M.local_fail
 |some d=>
  try dsimp only
  repeat' split
  all_goals first
   |exact M.local_pure _
   |exact M.local_fail
   |exact local_liftO _
   |(refine M.local_bind (local_rdRow _) fun r => ?_
     repeat' split
     all_goals first|exact M.local_pure _|exact M.local_fail|exact local_liftO _)
theorem local_xAppend (t tx:TypeId)(s x:Value):M.Local (xAppend P K t tx s x):=by
 unfold xAppend
 cases hu:P.underlying t with
 |none=>exact M.local_fail
 |some d=>
  cases d with
  |slice e=>
   refine M.local_bind (local_liftO _) fun i=>M.local_bind (local_srcX _ _ _) fun y => ?_
   try dsimp only
   repeat' split
   all_goals first
    |exact M.local_pure _
    |exact M.local_fail
    |exact M.local_bind (local_newRow _ _ _) fun _=>M.local_pure _
    |(refine M.local_bind (local_rdRow _) fun r => ?_
      repeat' split
      all_goals first
        |exact M.local_pure _
        |exact M.local_fail
        |exact M.local_bind (local_newRow _ _ _) fun _=>M.local_pure _
        |exact M.local_bind (M.local_write _ _) fun _=>M.local_bind (local_newRow _ _ _) fun _=>M.local_pure _
        |exact M.local_bind (M.local_write _ _) fun _=>M.local_pure _)
  |_=>exact M.local_fail
theorem local_xSlice (t:TypeId)(v:Value)(lo hi mx:Option Value):M.Local (xSlice P t v lo hi mx):=by
 unfold xSlice
 cases hu:P.underlying t with
 |none=>exact M.local_fail
 |some d=>
  cases d with
  |slice e=>
   refine M.local_bind (local_liftO _) fun i => ?_
   try dsimp only
   repeat' split
   all_goals first
    |exact M.local_pure _
    |exact M.local_fail
    |(refine M.local_bind (local_rdRow _) fun r => ?_
      repeat' split
      all_goals first|exact M.local_pure _|exact M.local_fail)
  |array n e =>
   try dsimp only
   repeat' split
   all_goals first
    |exact M.local_pure _
    |exact M.local_fail
    |(refine M.local_bind (local_liftO _) fun i => ?_
      repeat' split
      all_goals first|exact M.local_pure _|exact M.local_fail)
  |_=>exact M.local_fail
theorem local_xMakeSlice (t:TypeId)(lv cv:Value):M.Local (xMakeSlice P t lv cv):=by
 unfold xMakeSlice
 cases hu:P.underlying t with
 |none=>exact M.local_fail
 |some d=>
  cases d with
  |slice e=>
   dsimp only
   split
   ·refine M.local_bind (local_liftO _) fun i => ?_
    split
    ·exact M.local_bind (local_newRow _ _ _) fun _=>M.local_pure _
    ·exact M.local_fail
   ·exact M.local_fail
  |_=>exact M.local_fail
theorem local_xBuildSlice (t:TypeId)(n:Nat)(ps:List (Nat×Value)):M.Local (xBuildSlice P t n ps):=by
 unfold xBuildSlice
 cases hu:P.underlying t with
 |none=>exact M.local_fail
 |some d=>
  cases d with
  |slice e=>
   refine M.local_bind (local_liftO _) fun i => ?_
   split
   ·exact M.local_bind (local_liftO _) fun _=>M.local_bind (local_newRow _ _ _) fun _=>M.local_pure _
   ·exact M.local_fail
  |_=>exact M.local_fail
theorem local_xMakeMap:M.Local xMakeMap:=M.local_bind (M.local_new _) fun _=>M.local_pure _
theorem local_xLookup (t:TypeId)(m k:Value)(ok:Bool):M.Local (xLookup P t m k ok):=by
 unfold xLookup
 cases hu:P.underlying t with
 |none=>exact M.local_fail
 |some d=>
  cases d with
  |map kt et=>
   dsimp only
   cases hk:P.underlying kt with
   |none=>exact M.local_fail
   |some d=>
    dsimp only
    refine M.local_bind (local_mapOf _) fun es => ?_
    split
    ·refine M.local_bind (local_liftO _) fun r => ?_
     split
     ·exact M.local_pure _
     ·exact M.local_bind (local_liftO _) fun _=>M.local_pure _
    ·exact M.local_fail
  |_=>exact M.local_fail
theorem local_xMapUpdate (t:TypeId)(m k v:Value):M.Local (xMapUpdate P K t m k v):=by
 unfold xMapUpdate
 cases hu:P.underlying t with
 |none=>exact M.local_fail
 |some d=>
  cases d with
  |map kt et=>
   dsimp only
   cases hk:P.underlying kt with
   |none=>exact M.local_fail
   |some d=>
    dsimp only
    split
    ·refine M.local_bind (local_rdMap _) fun r => ?_
     repeat' split
     all_goals first|exact M.local_write _ _|exact M.local_fail
    ·exact M.local_fail
  |_=>exact M.local_fail
theorem local_xLen (t:TypeId)(v:Value):M.Local (xLen P t v):=by
 unfold xLen
 cases hu:P.underlying t with
 |none=>exact M.local_fail
 |some d=>
  try dsimp only
  repeat' split
  all_goals first
   |exact M.local_pure _
   |exact M.local_fail
   |exact M.local_bind (local_mapOf _) fun _=>M.local_pure _
theorem local_xRange (t:TypeId)(v:Value):M.Local (xRange P t v):=by
 unfold xRange
 cases hu:P.underlying t with
 |none=>exact M.local_fail
 |some d=>
  cases d with
  |string=>
   dsimp only
   split
   ·exact M.local_bind (M.local_new _) fun _=>M.local_pure _
   ·exact M.local_fail
  |_=>exact M.local_fail
theorem local_rdIter (b:Nat):M.Local (rdIter b):=M.local_bind (M.local_read b) fun o=>by
 split
 ·exact M.local_pure _
 ·exact M.local_fail
theorem local_xNext (v:Value)(is:Bool):M.Local (xNext K v is):=by
 unfold xNext
 split
 ·refine M.local_bind (local_rdIter _) fun r => ?_
  repeat' split
  all_goals first
   |exact M.local_bind (M.local_write _ _) fun _=>M.local_pure _
   |exact M.local_pure _
   |exact M.local_fail
 ·exact M.local_fail
theorem local_xBin (op:BinOp)(t:TypeId)(x y:Operand)(a b:Value):M.Local (xBin P K op t x y a b):=by
 have slow:M.Local (xBinSlow P op t x y a b):=by
  unfold xBinSlow
  split
  ·exact local_plainO _
  ·exact local_ofV (local_optV _)
 unfold xBin
 split
 ·split
  ·unfold xBinInt
   repeat' split
   all_goals first|exact M.local_pure _|exact slow
  ·exact slow
 ·have hq:∀ q,M.Local (eqO op q):=fun q=>by
   unfold eqO
   repeat' split
   all_goals first|exact M.local_pure _|exact M.local_fail
  split
  ·exact hq _
  ·exact hq _
 ·split
  ·unfold xBinPtr ptrEq
   split
   ·split
    ·split
     ·exact M.local_fail
     ·refine M.local_bind ?_ fun r => ?_
      ·split
       ·exact M.local_pure _
       ·refine M.local_bind (local_rdRow _) fun r=>M.local_bind (local_rdRow _) fun r' => ?_
        split
        ·exact M.local_pure _
        ·exact M.local_fail
      ·split
       ·exact M.local_pure _
       ·exact M.local_pure _
       ·exact M.local_fail
    ·exact M.local_fail
   ·exact M.local_fail
  ·exact slow
 ·split
  ·unfold xBinStr
   split
   ·exact M.local_pure _
   ·exact slow
  ·exact slow
 ·exact slow
theorem local_plain1 (f:Value→Sem Value)(a:Value):M.Local (plain1 P f a):=by
 unfold plain1
 split
 ·exact local_plainO _
 ·exact M.local_fail
theorem local_xStrBytes (src d:TypeId)(s:ByteArray):M.Local (xStrBytes P src d s):=by
 unfold xStrBytes
 repeat' split
 all_goals first|exact M.local_fail|exact M.local_bind (M.local_new _) fun _=>M.local_pure _
theorem local_xConv (s d:TypeId)(v:Value):M.Local (xConv P s d v):=by
 unfold xConv
 split
 ·split
  ·exact local_ofV (local_xStrBytes _ _ _)
  ·exact local_plain1 _ _
 ·exact local_plain1 _ _
theorem local_xNilO (v:Value):M.Local (xNilO v):=by
 unfold xNilO
 split
 ·exact M.local_pure _
 ·exact M.local_fail
theorem local_xCap (t:TypeId)(v:Value):M.Local (xCap P t v):=by
 unfold xCap
 repeat' split
 all_goals first|exact M.local_pure _|exact M.local_fail
theorem local_xAppendZ (t tx:TypeId)(s x:Value):M.Local (xAppendZ P t tx s x):=by
 unfold xAppendZ
 repeat' split
 all_goals first
  |exact M.local_fail
  |(refine M.local_bind (local_liftO _) fun i => ?_
    split
    ·exact M.local_bind (local_newRow _ _ _) fun _=>M.local_pure _
    ·exact M.local_fail)
theorem local_xCopy (t:TypeId)(d x:Value):M.Local (xCopy P K t d x):=by
 unfold xCopy
 split
 ·refine M.local_bind (local_liftO _) fun i => ?_
  split
  ·exact M.local_pure _
  ·split
   ·exact M.local_fail
   ·refine M.local_bind (local_rdRow _) fun r' => ?_
    split
    ·refine M.local_bind (local_rdRow _) fun r => ?_
     split
     ·exact M.local_bind (M.local_write _ _) fun _=>M.local_pure _
     ·exact M.local_fail
    ·exact M.local_fail
  ·exact M.local_fail
 ·exact M.local_fail
theorem local_xBuiltin (b:Builtin)(ats:Array TypeId)(ty:TypeId)(args:List Value):M.Local (xBuiltin P K b ats ty args):=by
 unfold xBuiltin
 repeat' split
 all_goals first
  |exact local_ofV (local_xAppend _ _ _ _)
  |exact local_ofV (local_xLen _ _)
  |exact local_ofV (local_xCap _ _)
  |exact local_ofV (local_xCopy _ _ _)
  |exact local_ofV (local_xAppendZ _ _ _ _)
  |exact local_plainO _
  |exact M.local_pure _
  |exact M.local_fail
theorem local_xCall (fv:Value)(vs:List Value):M.Local (xCall P fv vs):=by
 unfold xCall
 repeat' split
 all_goals first|exact M.local_pure _|exact M.local_fail
theorem local_xPanic (v:Value):M.Local (xPanic P v):=by
 unfold xPanic
 split
 ·exact M.local_pure _
 ·exact local_plain1 _ _
theorem local_xOp (ρ:Env)(o:Oper):M.Local (xOp P K ρ o):=by
 unfold xOp
 split
 all_goals
  repeat (first|(refine local_withV fun _ => ?_)|(refine local_bind' (local_liftO _) fun _ => ?_))
  repeat' split
  all_goals first
   |exact M.local_pure _
   |exact M.local_fail
   |exact local_withV fun _=>M.local_pure _
   |exact local_withV fun _=>local_bind' (local_liftO _) fun _=>M.local_pure _
   |exact local_plainO _
   |exact local_plain1 _ _
   |exact local_xPanic _
   |exact local_xConv _ _ _
   |exact local_xBin _ _ _ _ _ _
   |exact local_xNilO _
   |exact local_xBuiltin _ _ _ _
   |exact local_xCall _ _
   |exact local_withV fun _=>local_xCall _ _
   |exact local_ofV (local_optV _)
   |exact local_ofV (local_xAlloc _)
   |exact local_ofV (local_xBox _ _)
   |exact local_ofV (local_xLoad _ _)
   |exact local_ofV (local_xRange _ _)
   |exact local_ofV (local_xNext _ _)
   |exact local_ofV (local_xSlice _ _ _ _ _)
   |exact local_ofV (local_xMakeSlice _ _ _)
   |exact local_ofV (local_xBuildSlice _ _ _)
   |exact local_ofV local_xMakeMap
   |exact local_ofV (local_xLookup _ _ _ _)
   |exact local_ofU (local_xStore _ _ _)
   |exact local_ofU (local_xMapUpdate _ _ _ _)
theorem evals_congr {ρ ρ':Env}:∀ {l:List Operand},(∀ x∈l,ρ x=ρ' x)→evals ρ l=evals ρ' l
 | [],_=>rfl
 |x :: l,h=>by
  unfold evals
  rw[h x (by simp),evals_congr (l:=l) fun y hy=>h y (by simp[hy])]
theorem evalsP_congr {ρ ρ':Env}:∀ {l:List (Nat×Operand)},(∀ x∈l,ρ x.2=ρ' x.2)→evalsP ρ l=evalsP ρ' l
 | [],_=>rfl
 |(i,x) :: l,h=>by
  unfold evalsP
  rw[h (i,x) (by simp),evalsP_congr (l:=l) fun y hy=>h y (by simp[hy])]
theorem evalI_congr {ρ ρ':Env}{o:Option Operand}(h:∀ x∈o.toList,ρ x=ρ' x):evalI ρ o=evalI ρ' o:=by
 cases o with
 |none=>rfl
 |some x=>simp only[evalI,h x (by simp)]
theorem xOp_congr {ρ ρ':Env}(o:Oper)(h:∀ x∈o.op.operands,ρ x=ρ' x):xOp P K ρ o=xOp P K ρ' o:=by
 obtain⟨dst,op,type,pos,after,guard⟩:=o
 have hc:∀ q:Call,(∀ x∈q.operands,ρ x=ρ' x)→evals ρ q.args.toList=evals ρ' q.args.toList∧∀ f,q.callee = .value f→ρ f=ρ' f:=fun q hq=>
  ⟨evals_congr fun x hx=>hq x (by simp[Call.operands,Array.mem_toList_iff.1 hx]),fun f hf=>hq f (by simp[Call.operands,hf])⟩
 unfold xOp
 dsimp only at h ⊢
 cases op <;> simp only[Op.operands] at h ⊢
 case build t ps=>rw[evalsP_congr (ρ:=ρ) (ρ':=ρ') fun x hx=>h x.2 (by simpa using ⟨x.1,by simpa using hx⟩)]
 case buildSlice t n ps=>rw[evalsP_congr (ρ:=ρ) (ρ':=ρ') fun x hx=>h x.2 (by simpa using ⟨x.1,by simpa using hx⟩)]
 case makeFunc fn first captured=>
  cases fn <;> first|rfl|skip
  dsimp only
  rw[evals_congr (ρ:=ρ) (ρ':=ρ') (l:=first.toList) fun x hx=>h x (by simp[Array.mem_toList_iff.1 hx]),evals_congr (ρ:=ρ) (ρ':=ρ') (l:=captured.toList) fun x hx=>h x (by simp[Array.mem_toList_iff.1 hx])]
 case call q=>
  obtain⟨h1,h2⟩:=hc q h
  rw[h1]
  cases hq:q.callee with
  |value f=>simp only[h2 f hq]
  |_=>rfl
 case defer q=>
  obtain⟨h1,h2⟩:=hc q h
  rw[h1]
  cases hq:q.callee with
  |value f=>simp only[h2 f hq]
  |_=>rfl
 case makeMap t r=>cases r <;> rfl
 case slice t x lo hi mx=>
  rw[evalI_congr (ρ:=ρ) (ρ':=ρ') (o:=lo) fun y hy=>h y (by simp at hy;simp[hy]),evalI_congr (ρ:=ρ) (ρ':=ρ') (o:=hi) fun y hy=>h y (by simp at hy;simp[hy]),evalI_congr (ρ:=ρ) (ρ':=ρ') (o:=mx) fun y hy=>h y (by simp at hy;simp[hy]),h x (by simp)]
 all_goals (first|rfl|(simp_all;done))
end
end Ev
end Go.Proofs.YtcbkeecabcbogaaGreatDoor
namespace Go.Proofs.YtcbkeecabcbogaaGreatDoor
namespace Ev
open Go.RowKit
inductive OV where
 |val (v:Value)
 |pan (v:Value)
 |later (g:FuncId) (args:List Value)
 |recover
inductive UM where
 |ret
 |pan (v:Value)
 |caught (v:Value)
noncomputable def Loc.rd (s:Loc)(t:Nat):Value:=(s.tm.get t).getD undef
noncomputable def Loc.put (s:Loc)(d:Option Nat)(v:Value):Loc:=match s with
 |⟨tm,n,ds⟩=>match d with
  |some i=>match Nat.ble (Nat.succ i) n with
   |true=>⟨tm.set i (some v),n,ds⟩
   |false=>⟨tm,n,ds⟩
  |none=>⟨tm,n,ds⟩
noncomputable def Loc.later (s:Loc)(x:FuncId×List Value):Loc:=match s with
 |⟨tm,n,ds⟩=>⟨tm,n,x :: ds⟩
def knownV (v:Value):Option Value:=match v with
 | .chan none=>none
 |v=>some v
noncomputable def envOf (K:Cfg)(s:Loc):Env
 | .tmp t=>knownV (s.rd t)
 | .const v=>if plainF 9 v then some v else none
 | .global g=>if g<K.g then some (.pointer (some ⟨g,0,none⟩)) else none
 | .func f=>some (.func (.func f) #[] #[])
noncomputable def boolOf:Value→Option Bool
 | .bool b=>some b
 |_=>none
noncomputable def wantX (ops:Array Oper)(s:Loc)(o:Oper):Option Bool:=match o.guard with
 |none=>some true
 |some (j,want)=>match (ops[j]?).bind (·.dst) with
  |some d=>match s.rd d with
   | .bool b=>some (match b with
    |true=>want
    |false=>(match want with
     |true=>false
     |false=>true))
   | .chan _=>none
   |_=>some false
  |none=>some false
noncomputable def argsTree:List Value→Nat→Tree Value→Tree Value
 | [],_,t=>t
 |v :: l,i,t=>argsTree l (i+1) (t.set i (some v))
noncomputable def resX (P:Program)(s:Loc):List ResultVar→M AObj (List Value)
 | []=>M.pure []
 | .tmp t :: l=>M.bind (liftO (knownV (s.rd t))) fun v=>M.bind (resX P s l) fun vs=>M.pure (v :: vs)
 | .cell b t :: l=>M.bind (xLoad P t (s.rd b)) fun v=>M.bind (resX P s l) fun vs=>M.pure (v :: vs)
noncomputable def one (vs:List Value):Value:=match vs with
 | [v]=>v
 |vs => .tuple vs.toArray
noncomputable def force {α:Type}(n:Nat)(k:Nat→α):α:=match n with
 |0=>k 0
 |m+1=>k (m+1)
theorem force_eq {α:Type}(n:Nat)(k:Nat→α):force n k=k n:=by cases n <;> rfl
noncomputable def mask1 (T:Tree Nat):List Edge→Nat→Nat
 | [],m=>m
 |e :: es,m=>if Region.binds .any e then mask1 T es (m ||| 2 ^ e.on ||| (T.get e.on).getD 0) else mask1 T es m
noncomputable def masks:List Oper→Nat→Tree Nat→List Nat
 | [],_,_=>[]
 |o :: os,j,T=>force (mask1 T o.after.toList 0) fun m=>m :: masks os (j+1) (T.set j (some m))
noncomputable def slotsOf (ops:Array Oper)(o:Oper):List Nat:=o.dst.toList++o.looksAt ops
noncomputable def meets:List Nat→List Nat→Bool
 | [],_=>false
 |t :: ts,us=>us.any (fun u=>Nat.beq t u)||meets ts us
noncomputable def apartAll (ops:Array Oper)(j:Oper)(m:Nat):List Oper→Nat→Bool
 | [],_=>true
 |o :: os,i=>(m.testBit i||(!meets o.dst.toList (slotsOf ops j) && !meets j.dst.toList (slotsOf ops o)))&&apartAll ops j m os (i+1)
noncomputable def edgesOK (j:Nat)(o:Oper):Bool:=o.after.toList.all fun e => !Region.binds .any e||Nat.blt e.on j
noncomputable def drawOKL (ops:Array Oper):List Oper→List Nat→Nat→Bool
 | [],_,_=>true
 |_ :: _,[],_=>false
 |o :: os,m :: ms,j=>edgesOK j o&&(apartAll ops o m (ops.toList.take j) 0&&drawOKL ops os ms (j+1))
noncomputable def drawOK (ops:Array Oper):Bool:=drawOKL ops ops.toList (masks ops.toList 0 .leaf) 0
noncomputable def clash (m:Nat)(l:Log):List (Nat×Log)→Bool
 | []=>false
 |(i,k) :: d=>(if m.testBit i then false else !(Nat.beq (Nat.land k.w l.t) 0&&Nat.beq (Nat.land k.t l.w) 0))||clash m l d
noncomputable def isNew (a b w:Nat):Bool:=Nat.beq (w % 2 ^ a) 0&&Nat.blt w (2 ^ b)
noncomputable def quietAll (a b n m:Nat):List (Nat×Log)→Bool
 | []=>true
 |(i,k) :: d=>(Nat.beq i n||(m.testBit i||isNew a b k.w))&&quietAll a b n m d
noncomputable def dropN (a:Nat):Nat→Tree AObj→Tree AObj
 |0,h=>h
 |n+1,h=>(dropN a n h).set (a+n) none
noncomputable def behind (m:Nat):Option (Nat×Nat×Value)→Bool
 |none=>false
 |some x=>m.testBit x.1
noncomputable def dstsOf (ops:Array Oper):List Nat:=ops.toList.filterMap (·.dst)
noncomputable def resSlots:List ResultVar→List Nat
 | []=>[]
 | .tmp t :: l=>t :: resSlots l
 | .cell b _ :: l=>b :: resSlots l
noncomputable def settleX:UM→UM
 | .ret => .ret
 | .pan v => .pan v
 | .caught _ => .ret
section
variable (P:Program) (K:Cfg)
mutual
noncomputable def evCode:Nat→Code→Loc→M AObj (XE×Loc)
 |0,_,_=>M.fail
 |f+1,c,s=>match c with
  | .skip=>M.pure (.normal,s)
  | .label _=>M.pure (.normal,s)
  | .seq a b=>M.bind (evCode f a s) fun r=>match r.1 with
   | .normal=>evCode f b r.2
   |_=>M.pure r
  | .cond q a b=>match envOf K s q with
   |some (.bool true)=>evCode f a s
   |some (.bool false)=>evCode f b s
   |_=>M.fail
  | .block id a=>M.bind (evCode f a s) fun r=>match r.1 with
   | .exit i=>if i=id then M.pure (.normal,r.2) else M.pure r
   |_=>M.pure r
  | .loop a=>match K.lop a s with
   |some m=>m
   |none=>M.bind (evCode f a s) fun r=>match r.1 with
    | .normal=>evCode f (.loop a) r.2
    |_=>M.pure r
  | .exit id=>M.pure (.exit id,s)
  | .scope c=>evCode f c s
  | .ret=>M.pure (.ret,s)
  | .region _ ops false=>evOps f ops ops.toList s
  | .region _ ops true=>if drawOK ops then fun h c=>match evDraw f ops ops.toList (masks ops.toList 0 .leaf) 0 [] none c s h c with
    | .ok (.panic v ds,s') h' c' l => .ok (.panic v ds,s') (dropN c (c' - c) h') c' l
    |r=>r
   else M.fail
  |_=>M.fail
noncomputable def evOps:Nat→Array Oper→List Oper→Loc→M AObj (XE×Loc)
 |0,_,_,_=>M.fail
 |f+1,ops,os,s=>match os with
  | []=>M.pure (.normal,s)
  |o :: os=>match wantX ops s o with
   |some true=>M.bind (evOp f o (envOf K s)) fun r=>match r with
    | .val v=>evOps f ops os (s.put o.dst v)
    | .pan v=>M.pure (.panic v [],s)
    | .later g args=>evOps f ops os ((s.later (g,args)).put o.dst undef)
    | .recover=>M.fail
   |some false=>evOps f ops os (s.put o.dst undef)
   |none=>M.fail
noncomputable def evDraw:Nat→Array Oper→List Oper→List Nat→Nat→List (Nat×Log)→Option (Nat×Nat×Value)→Nat→Loc→M AObj (XE×Loc)
 |0,_,_,_,_,_,_,_,_=>M.fail
 |f+1,ops,os,ms,i,done,pn,c0,s=>match os with
  | []=>match pn with
   |none=>M.pure (.normal,s)
   |some (n,m,v)=>fun h c=>if quietAll c0 c n m done then .ok (.panic v (dstsOf ops),s) h c .no else .no
  |o :: os=>match ms with
   | []=>M.fail
   |m :: ms=>if behind m pn then evDraw f ops os ms (i+1) done pn c0 (s.put o.dst undef) else match wantX ops s o with
    |some true=>fun h c=>match evOp f o (envOf K s) h c with
     | .ok (.val v) h' c' l=>if clash m l done then .no else match evDraw f ops os ms (i+1) ((i,l) :: done) pn c0 (s.put o.dst v) h' c' with
      | .ok r h'' c'' l' => .ok r h'' c'' (l.and l')
      | .no => .no
     | .ok (.pan v) h' c' l=>if clash m l done then .no else match pn with
      |none=>(match evDraw f ops os ms (i+1) ((i,l) :: done) (some (i,m,v)) c0 (s.put o.dst undef) h' c' with
       | .ok r h'' c'' l' => .ok r h'' c'' (l.and l')
       | .no => .no)
      |some _ => .no
     |_ => .no
    |some false=>evDraw f ops os ms (i+1) done pn c0 (s.put o.dst undef)
    |none=>M.fail
noncomputable def evOp:Nat→Oper→Env→M AObj OV
 |0,_,_=>M.fail
 |f+1,o,ρ=>match K.opx o ρ with
  |some m=>M.bind m fun v=>M.pure (.val v)
  |none=>M.bind (xOp P K ρ o) fun r=>match r with
   | .val v=>M.pure (.val v)
   | .skip=>M.pure (.val undef)
   | .enter g args=>M.bind (match K.orc g args with
    |some m=>m
    |none=>evCall f g args) fun r=>match r with
     | .ret v=>M.pure (.val v)
     | .pan v=>M.pure (.pan v)
   | .defer g args=>M.pure (.later g args)
   | .panic v=>M.pure (.pan v)
   | .recover=>M.pure .recover
noncomputable def evCall:Nat→FuncId→List Value→M AObj CR
 |0,_,_=>M.fail
 |f+1,g,args=>match P.funcs[g]? with
  |none=>M.fail
  |some fn=>match fn.body with
   |none=>M.fail
   |some c=>if args.length≤fn.ntmps then M.bind (evCode f c ⟨argsTree args 0 .leaf,fn.ntmps,[]⟩) fun r=>match r.1 with
     | .normal=>evLeave f fn r.2 [] r.2.ds .ret
     | .ret=>evLeave f fn r.2 [] r.2.ds .ret
     | .panic v ls=>evLeave f fn r.2 ls r.2.ds (.pan v)
     |_=>M.fail
    else M.fail
noncomputable def evLeave:Nat→Func→Loc→List Nat→List (FuncId×List Value)→UM→M AObj CR
 |0,_,_,_,_,_=>M.fail
 |f+1,fn,s,ls,ds,u=>match ds with
  | []=>match u with
   | .ret=>if meets ls (resSlots fn.results.toList) then M.fail else M.bind (resX P s fn.results.toList) fun vs=>M.pure (.ret (one vs))
   | .pan v=>M.pure (.pan v)
   | .caught _=>M.fail
  |(g,args) :: ds=>M.bind (evDefer f g args u) fun u=>evLeave f fn s ls ds (settleX u)
noncomputable def evDefer:Nat→FuncId→List Value→UM→M AObj UM
 |0,_,_,_=>M.fail
 |f+1,g,args,u=>if goBody P g then match P.funcs[g]? with
  |none=>M.fail
  |some fn=>match fn.body with
   |none=>M.fail
   |some c=>if args.length≤fn.ntmps then M.bind (evCodeS f c ⟨argsTree args 0 .leaf,fn.ntmps,[]⟩ u) fun r=>match r.2.1.ds with
     | []=>match r.1 with
      | .normal=>M.bind (resX P r.2.1 fn.results.toList) fun _=>M.pure r.2.2
      | .ret=>M.bind (resX P r.2.1 fn.results.toList) fun _=>M.pure r.2.2
      |_=>M.fail
     |_=>M.fail
    else M.fail
  else M.fail
noncomputable def evCodeS:Nat→Code→Loc→UM→M AObj (XE×Loc×UM)
 |0,_,_,_=>M.fail
 |f+1,c,s,u=>match c with
  | .seq a b=>M.bind (evCodeS f a s u) fun r=>match r.1 with
   | .normal=>evCodeS f b r.2.1 r.2.2
   |_=>M.pure r
  | .cond q a b=>match envOf K s q with
   |some (.bool true)=>evCodeS f a s u
   |some (.bool false)=>evCodeS f b s u
   |_=>M.fail
  | .block id a=>M.bind (evCodeS f a s u) fun r=>match r.1 with
   | .exit i=>if i=id then M.pure (.normal,r.2) else M.pure r
   |_=>M.pure r
  | .region _ ops false=>evOpsS f ops ops.toList s u
  |c=>M.bind (evCode f c s) fun r=>M.pure (r.1,r.2,u)
noncomputable def evOpsS:Nat→Array Oper→List Oper→Loc→UM→M AObj (XE×Loc×UM)
 |0,_,_,_,_=>M.fail
 |f+1,ops,os,s,u=>match os with
  | []=>M.pure (.normal,s,u)
  |o :: os=>match wantX ops s o with
   |some true=>M.bind (evOp f o (envOf K s)) fun r=>match r with
    | .val v=>evOpsS f ops os (s.put o.dst v) u
    | .pan v=>M.pure (.panic v [],s,u)
    | .later _ _=>M.fail
    | .recover=>match u with
     | .pan v=>evOpsS f ops os (s.put o.dst v) (.caught v)
     |u=>evOpsS f ops os (s.put o.dst .nilIface) u
   |some false=>evOpsS f ops os (s.put o.dst undef) u
   |none=>M.fail
end
end
end Ev
end Go.Proofs.YtcbkeecabcbogaaGreatDoor
namespace Go.Proofs.YtcbkeecabcbogaaGreatDoor
namespace Ev
open Go.RowKit
section
variable {P:Program} {K:Cfg}
theorem local_resX {s:Loc}:∀ rs:List ResultVar,M.Local (resX P s rs)
 | []=>M.local_pure _
 | .tmp _ :: rs=>M.local_bind (local_liftO _) fun _=>M.local_bind (local_resX rs) fun _=>M.local_pure _
 | .cell _ _ :: rs=>M.local_bind (local_xLoad _ _) fun _=>M.local_bind (local_resX rs) fun _=>M.local_pure _
theorem local_bindL {β γ:Type}{m:M AObj β}{g:β→Log→M AObj γ}(hm:M.Local m)(hg:∀ x l,M.Local (g x l)):
  M.Local (fun h c=>match m h c with
   | .ok x h' c' l=>match g x l h' c' with
    | .ok r h'' c'' l' => .ok r h'' c'' (l.and l')
    | .no => .no
   | .no => .no):=by
 intro h c y h2 c2 l e
 dsimp only at e
 cases e1:m h c with
 |no=>rw[e1] at e;cases e
 |ok x h1 c1 l1=>
  rw[e1] at e
  dsimp only at e
  cases e2:g x l1 h1 c1 with
  |no=>rw[e2] at e;cases e
  |ok y' h2' c2' l2=>
   rw[e2] at e
   cases e
   obtain⟨hc,A'⟩:=(M.local_bind (f:=fun x=>g x l1) hm (fun x=>hg x l1)) h c y h2 c2 _ (by rw[M.bind_eq,e1];dsimp only;rw[e2])
   refine⟨hc,fun hr => ?_⟩
   have A:=A' hr
   have hc2:=(hg x l1 _ _ _ _ _ _ e2).1
   have hr1:=hr.first hc2
   refine { A with move:=fun g0 hg0 hga => ?_ }
   obtain⟨g',k1,k2,k3⟩:=A.move g0 hg0 hga
   refine⟨g',?_,k2,k3⟩
   obtain⟨hc1,B'⟩:=hm h c x h1 c1 l1 e1
   have B:=(B' hr1).move g0 (hg0.first hc2) (fun b hb hl=>by
    by_cases hin:c1≤b∧b<c2
    ·rw[hg0 b (by omega) hin.2,hr b (by omega) hin.2]
    ·exact hga b (by omega) (by rw[M.and_t,hl];rfl))
   obtain⟨g1,q1,-,-⟩:=B
   rw[M.bind_eq,q1] at k1
   show (match m g0 c with | .ok x h' c' l=>_ | .no=>_)=_
   rw[q1]
   dsimp only at k1 ⊢
   cases e3:g x l1 g1 c1 with
   |no=>rw[e3] at k1;cases k1
   |ok=>rw[e3] at k1;exact k1
theorem dropN_get (a:Nat)(h:Tree AObj)(k:Nat):∀ n:Nat,(dropN a n h).get k=if a≤k∧k<a+n then none else h.get k
 |0=>by unfold dropN;rw[if_neg (by omega)]
 |n+1=>by
  unfold dropN
  rw[Tree.get_set,dropN_get a h k n]
  by_cases e:k=a+n
  ·rw[if_pos e,if_pos (by omega)]
  ·rw[if_neg e]
   by_cases h2:a≤k∧k<a+n
   ·rw[if_pos h2,if_pos (by omega)]
   ·rw[if_neg h2,if_neg (by omega)]
theorem local_quiet {β:Type}(q:Nat→Bool)(x:β):M.Local (fun h c=>if q c then .ok x h c .no else .no:M AObj β):=by
 intro h c y h' c' l e
 dsimp only at e
 split at e
 ·rename_i hq
  cases e
  exact⟨Nat.le_refl _,fun _=>⟨by simp[Log.no],fun _ _=>rfl,fun b h1 h2=>by omega,fun _ _ h=>h,by simp[Log.no],fun g _ _=>⟨g,by rw[if_pos hq],by simp[Log.no],fun _ _=>rfl⟩⟩⟩
 ·cases e
theorem local_drop {m:Nat→M AObj (XE×Loc)}(hm:∀ c,M.Local (m c)):M.Local (fun h c=>match m c h c with
  | .ok (.panic v ds,s') h' c' l => .ok (.panic v ds,s') (dropN c (c' - c) h') c' l
  |r=>r:M AObj (XE×Loc)):=by
 intro h c y h' c' l e
 dsimp only at e
 split at e
 ·rename_i v ds s1 h1 c1 l1 e1
  cases e
  obtain⟨hc,A'⟩:=hm c h c _ _ _ _ e1
  refine⟨hc,fun hr => ?_⟩
  have A:=A' hr
  refine⟨A.sub,fun b hb => ?_,A.fresh,fun b hb hn => ?_,A.old,fun g hg hga => ?_⟩
  ·rw[dropN_get,if_neg,A.out b hb]
   rintro⟨h2,h3⟩
   rw[A.fresh b h2 (by omega)] at hb
   cases hb
  ·rw[dropN_get,if_neg (by omega)]
   exact A.free b hb hn
  ·obtain⟨g',q1,q2,q3⟩:=A.move g hg hga
   refine⟨dropN c (c' - c) g',by rw[q1],fun b hb => ?_,fun b hb => ?_⟩
   ·rw[dropN_get,dropN_get]
    split
    ·rfl
    ·exact q2 b hb
   ·rw[dropN_get,if_neg,q3 b hb]
    rintro⟨h2,h3⟩
    rw[A.fresh b h2 (by omega)] at hb
    cases hb
 ·rename_i hno
  obtain⟨hc,A'⟩:=hm c h c _ _ _ _ e
  refine⟨hc,fun hr => ?_⟩
  have A:=A' hr
  refine⟨A.sub,A.out,A.fresh,A.free,A.old,fun g hg hga => ?_⟩
  obtain⟨g',q1,q2,q3⟩:=A.move g hg hga
  refine⟨g',?_,q2,q3⟩
  rw[q1]
  obtain⟨y1,y2⟩:=y
  cases y1 with
  |panic v ds=>exact absurd e (hno v ds y2 h' c' l)
  |_=>rfl
variable (P K)
structure AllLocal (f:Nat):Prop where
 code:∀ c s,M.Local (evCode P K f c s)
 ops:∀ ops os s,M.Local (evOps P K f ops os s)
 draw:∀ ops os ms i done pn c0 s,M.Local (evDraw P K f ops os ms i done pn c0 s)
 op:∀ o ρ,M.Local (evOp P K f o ρ)
 call:∀ g args,M.Local (evCall P K f g args)
 leave:∀ fn s ls ds u,M.Local (evLeave P K f fn s ls ds u)
 defer:∀ g args u,M.Local (evDefer P K f g args u)
 codeS:∀ c s u,M.Local (evCodeS P K f c s u)
 opsS:∀ ops os s u,M.Local (evOpsS P K f ops os s u)
theorem all_local:∀ f,AllLocal P K f
 |0=>by
  refine⟨?_,?_,?_,?_,?_,?_,?_,?_,?_⟩ <;> intros
  ·unfold evCode;exact M.local_fail
  ·unfold evOps;exact M.local_fail
  ·unfold evDraw;exact M.local_fail
  ·unfold evOp;exact M.local_fail
  ·unfold evCall;exact M.local_fail
  ·unfold evLeave;exact M.local_fail
  ·unfold evDefer;exact M.local_fail
  ·unfold evCodeS;exact M.local_fail
  ·unfold evOpsS;exact M.local_fail
 |f+1=>by
  have A:=all_local f
  refine⟨fun c s => ?_,fun ops os s => ?_,fun ops os ms i done pn c0 s => ?_,fun o ρ => ?_,fun g args => ?_,fun fn s ls ds u => ?_,fun g args u => ?_,fun c s u => ?_,fun ops os s u => ?_⟩
  ·unfold evCode
   split
   ·exact M.local_pure _
   ·exact M.local_pure _
   ·refine M.local_bind (A.code _ _) fun r => ?_
    split
    ·exact A.code _ _
    ·exact M.local_pure _
   ·split
    ·exact A.code _ _
    ·exact A.code _ _
    ·exact M.local_fail
   ·refine M.local_bind (A.code _ _) fun r => ?_
    repeat' split
    all_goals exact M.local_pure _
   ·split
    ·rename_i m hm
     exact K.lol _ _ _ hm
    ·refine M.local_bind (A.code _ _) fun r => ?_
     split
     ·exact A.code _ _
     ·exact M.local_pure _
   ·exact M.local_pure _
   ·exact A.code _ _
   ·exact M.local_pure _
   ·exact A.ops _ _ _
   ·split
    ·exact local_drop fun c=>A.draw _ _ _ _ _ _ c _
    ·exact M.local_fail
   ·exact M.local_fail
  ·unfold evOps
   split
   ·exact M.local_pure _
   ·split
    ·refine M.local_bind (A.op _ _) fun r => ?_
     split
     ·exact A.ops _ _ _
     ·exact M.local_pure _
     ·exact A.ops _ _ _
     ·exact M.local_fail
    ·exact A.ops _ _ _
    ·exact M.local_fail
  ·unfold evDraw
   split
   ·split
    ·exact M.local_pure _
    ·exact local_quiet _ _
   ·split
    ·exact M.local_fail
    ·split
     ·exact A.draw _ _ _ _ _ _ _ _
     ·split
      ·rename_i o os _ m ms _ _ hw
       have B:=local_bindL (A.op o (envOf K s)) (g:=fun r l=>match r with
        | .val v=>if clash m l done then M.fail else evDraw P K f ops os ms (i+1) ((i,l) :: done) pn c0 (s.put o.dst v)
        | .pan v=>if clash m l done then M.fail else match pn with
         |none=>evDraw P K f ops os ms (i+1) ((i,l) :: done) (some (i,m,v)) c0 (s.put o.dst undef)
         |some _=>M.fail
        |_=>M.fail) (fun r l=>by
         split
         ·split
          ·exact M.local_fail
          ·exact A.draw _ _ _ _ _ _ _ _
         ·split
          ·exact M.local_fail
          ·split
           ·exact A.draw _ _ _ _ _ _ _ _
           ·exact M.local_fail
         ·exact M.local_fail)
       refine cast (congrArg M.Local ?_) B
       funext h c
       cases evOp P K f o (envOf K s) h c with
       |no=>rfl
       |ok r h' c' l=>
        cases r with
        |val v=>
         dsimp only
         by_cases hc:clash m l done=true
         ·simp only[if_pos hc];rfl
         ·simp only[if_neg hc]
          cases evDraw P K f ops os ms (i+1) ((i,l) :: done) pn c0 (s.put o.dst _) h' c' <;> rfl
        |pan v=>
         dsimp only
         by_cases hc:clash m l done=true
         ·simp only[if_pos hc];rfl
         ·simp only[if_neg hc]
          cases pn with
          |none=>
           dsimp only
           cases evDraw P K f ops os ms (i+1) ((i,l) :: done) (some (i,m,v)) c0 (s.put o.dst undef) h' c' <;> rfl
          |some _=>rfl
        |_=>rfl
      ·exact A.draw _ _ _ _ _ _ _ _
      ·exact M.local_fail
  ·unfold evOp
   split
   ·rename_i m hm
    exact M.local_bind (K.opl _ _ _ hm) fun _=>M.local_pure _
   ·refine M.local_bind (local_xOp _ _) fun r => ?_
    split
    ·exact M.local_pure _
    ·exact M.local_pure _
    ·refine M.local_bind ?_ fun r => ?_
     ·split
      ·rename_i m hm
       exact K.loc _ _ _ hm
      ·exact A.call _ _
     ·split <;> exact M.local_pure _
    ·exact M.local_pure _
    ·exact M.local_pure _
    ·exact M.local_pure _
  ·unfold evCall
   split
   ·exact M.local_fail
   ·split
    ·exact M.local_fail
    ·split
     ·refine M.local_bind (A.code _ _) fun r => ?_
      split
      ·exact A.leave _ _ _ _ _
      ·exact A.leave _ _ _ _ _
      ·exact A.leave _ _ _ _ _
      ·exact M.local_fail
     ·exact M.local_fail
  ·unfold evLeave
   split
   ·split
    ·split
     ·exact M.local_fail
     ·exact M.local_bind (local_resX _) fun _=>M.local_pure _
    ·exact M.local_pure _
    ·exact M.local_fail
   ·exact M.local_bind (A.defer _ _ _) fun _=>A.leave _ _ _ _ _
  ·unfold evDefer
   split
   ·split
    ·exact M.local_fail
    ·split
     ·exact M.local_fail
     ·split
      ·refine M.local_bind (A.codeS _ _ _) fun r => ?_
       split
       ·split
        ·exact M.local_bind (local_resX _) fun _=>M.local_pure _
        ·exact M.local_bind (local_resX _) fun _=>M.local_pure _
        ·exact M.local_fail
       ·exact M.local_fail
      ·exact M.local_fail
   ·exact M.local_fail
  ·unfold evCodeS
   split
   ·refine M.local_bind (A.codeS _ _ _) fun r => ?_
    split
    ·exact A.codeS _ _ _
    ·exact M.local_pure _
   ·split
    ·exact A.codeS _ _ _
    ·exact A.codeS _ _ _
    ·exact M.local_fail
   ·refine M.local_bind (A.codeS _ _ _) fun r => ?_
    repeat' split
    all_goals exact M.local_pure _
   ·exact A.opsS _ _ _ _
   ·exact M.local_bind (A.code _ _) fun _=>M.local_pure _
  ·unfold evOpsS
   split
   ·exact M.local_pure _
   ·split
    ·refine M.local_bind (A.op _ _) fun r => ?_
     split
     ·exact A.opsS _ _ _ _
     ·exact M.local_pure _
     ·exact M.local_fail
     ·split
      ·exact A.opsS _ _ _ _
      ·exact A.opsS _ _ _ _
    ·exact A.opsS _ _ _ _
    ·exact M.local_fail
theorem evOp_congr {f:Nat}{ρ ρ':Env}(o:Oper)(h:∀ x∈o.op.operands,ρ x=ρ' x):evOp P K f o ρ=evOp P K f o ρ':=by
 cases f with
 |zero=>unfold evOp;rfl
 |succ f=>unfold evOp;rw[xOp_congr o h,K.opc o ρ ρ' fun x hx=>h x (by simpa using hx)]
end
end Ev
end Go.Proofs.YtcbkeecabcbogaaGreatDoor
