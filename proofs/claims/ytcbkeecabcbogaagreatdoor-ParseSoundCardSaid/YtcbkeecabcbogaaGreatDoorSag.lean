/- The evaluator's operations: nothing beside what they touched -/
import Derived.Test.YtcbkeecabcbogaaGreatDoorSaa
import Derived.Test.YtcbkeecabcbogaaGreatDoorSaf
set_option linter.unusedSimpArgs false
set_option linter.unusedVariables false
namespace Go.Proofs.YtcbkeecabcbogaaGreatDoor
section
namespace Ev
open Go.RowKit
section
variable {P:Program} {K:Cfg}
theorem Qd6 {β γ:Type}{m:M Q4 β}{f:β→M Q4 γ}(hm:M.Local m)(hf:∀ x,M.Local (f x)):M.Local (M.bind m f):=M.Qh hm hf
theorem F6 {β:Type}{o:Option Value}{f:Value→M Q4 β}(hf:∀ x,M.Local (f x)):M.Local (Uu o f):=by
 cases o with
 |none=>
  show M.Local (M.fail:M Q4 β)
  exact M.Qe
 |some v=>exact hf v
theorem Z8 {m:M Q4 Value}(hm:M.Local m):M.Local (ofV m):=M.Qh hm fun _=>M.Qi _
theorem Qi3 {m:M Q4 Unit}(hm:M.Local m):M.Local (ofU m):=M.Qh hm fun _=>M.Qi _
theorem Qfv (o:Option Value):M.Local (Qr2 o):=Ve o
theorem Dl (s:Sem Value):M.Local (plainO P s):=by
 unfold plainO;repeat' split
 all_goals first|exact M.Qi _|exact M.Qe
theorem Ht (cs:List Value)(t:TypeId)(sz:Nat):M.Local (Qbd cs t sz):=M.Vj _
theorem Qk1 (b:Nat):M.Local (rdMap b):=M.Qh (M.Vd b) fun o=>by
 split
 ·exact M.Qi _
 ·exact M.Qe
theorem Qk3 (v:Value):M.Local (mapOf v):=by
 unfold mapOf;split
 ·exact M.Qi _
 ·exact M.Qh (Qk1 _) fun _=>M.Qi _
 ·exact M.Qe
theorem Qfu (t:TypeId)(v:Value):M.Local (xBox t v):=M.Qh (Ht _ _ _) fun _=>M.Qi _
theorem Qi1 (t:TypeId):M.Local (Qqm P t):=M.Qh (Ve _) fun _=>Qfu _ _
theorem Qd3 (t:TypeId)(v:Value):M.Local (Qgb P t v):=by
 unfold Qgb;split
 ·refine M.Qh (Ve _) fun i=>M.Qh (Us _) fun r=>?_
  repeat' split
  all_goals first|exact M.Qi _|exact M.Qe|exact Ve _
 ·exact M.Qe
theorem Qiy (t:TypeId)(v x:Value):M.Local (Qhw P K t v x):=by
 unfold Qhw;split
 ·refine M.Qh (Ve _) fun i=>M.Qh (Us _) fun r=>?_
  split
  ·exact M.Vb _ _
  ·exact M.Qe
 ·exact M.Qe
theorem Qor (tx:TypeId)(sz:Nat)(x:Value):M.Local (srcX P tx sz x):=by
 unfold srcX;cases hu:P.underlying tx with
 |none=>exact M.Qe
 |some d=>
  try dsimp only
  repeat' split
  all_goals first
   |exact M.Qi _
   |exact M.Qe
   |exact Ve _
   |(refine M.Qh (Us _) fun r=>?_
     repeat' split
     all_goals first|exact M.Qi _|exact M.Qe|exact Ve _)
theorem Qg8 (t tx:TypeId)(s x:Value):M.Local (Qc6 P K t tx s x):=by
 unfold Qc6;cases hu:P.underlying t with
 |none=>exact M.Qe
 |some d=>
  cases d with
  |slice e=>
   refine M.Qh (Ve _) fun i=>M.Qh (Qor _ _ _) fun y=>?_
   try dsimp only
   repeat' split
   all_goals first
    |exact M.Qi _
    |exact M.Qe
    |exact M.Qh (Ht _ _ _) fun _=>M.Qi _
    |(refine M.Qh (Us _) fun r=>?_
      repeat' split
      all_goals first
        |exact M.Qi _
        |exact M.Qe
        |exact M.Qh (Ht _ _ _) fun _=>M.Qi _
        |exact M.Qh (M.Vb _ _) fun _=>M.Qh (Ht _ _ _) fun _=>M.Qi _
        |exact M.Qh (M.Vb _ _) fun _=>M.Qi _)
  |_=>exact M.Qe
theorem Qbg (t:TypeId)(n:Nat)(ps:List (Nat×Value)):M.Local (Gx P t n ps):=by
 unfold Gx;cases hu:P.underlying t with
 |none=>exact M.Qe
 |some d=>
  cases d with
  |slice e=>
   refine M.Qh (Ve _) fun i=>?_
   split
   ·exact M.Qh (Ve _) fun _=>M.Qh (Ht _ _ _) fun _=>M.Qi _
   ·exact M.Qe
  |_=>exact M.Qe
theorem Qol (t:TypeId)(v:Value):M.Local (xLen P t v):=by
 unfold xLen;cases hu:P.underlying t with
 |none=>exact M.Qe
 |some d=>
  try dsimp only
  repeat' split
  all_goals first
   |exact M.Qi _
   |exact M.Qe
   |exact M.Qh (Qk3 _) fun _=>M.Qi _
theorem Qon (op:BinOp)(t:TypeId)(x y:Operand)(a b:Value):M.Local (xBin P K op t x y a b):=by
 have slow:M.Local (Jk P op t x y a b):=by
  unfold Jk;split
  ·exact Dl _
  ·exact Z8 (Qfv _)
 unfold xBin;split
 ·split
  ·unfold Qgi;repeat' split
   all_goals first|exact M.Qi _|exact slow
  ·exact slow
 ·have hq:∀ q,M.Local (eqO op q):=fun q=>by
   unfold eqO;repeat' split
   all_goals first|exact M.Qi _|exact M.Qe
  split
  ·exact hq _
  ·exact hq _
 ·split
  ·unfold Qgh ptrEq;split
   ·split
    ·split
     ·exact M.Qe
     ·refine M.Qh ?_ fun r=>?_
      ·split
       ·exact M.Qi _
       ·refine M.Qh (Us _) fun r=>M.Qh (Us _) fun r'=>?_
        split
        ·exact M.Qi _
        ·exact M.Qe
      ·split
       ·exact M.Qi _
       ·exact M.Qi _
       ·exact M.Qe
    ·exact M.Qe
   ·exact M.Qe
  ·exact slow
 ·split
  ·unfold Qgg;split
   ·exact M.Qi _
   ·exact slow
  ·exact slow
 ·exact slow
theorem Dn (f:Value→Sem Value)(a:Value):M.Local (Qbv P f a):=by
 unfold Qbv;split
 ·exact Dl _
 ·exact M.Qe
theorem Qd2 (src d:TypeId)(s:ByteArray):M.Local (Ae P src d s):=M.Qe
theorem Qk0 (s d:TypeId)(v:Value):M.Local (Qqh P s d v):=by
 unfold Qqh;split
 ·split
  ·exact Z8 (Qd2 _ _ _)
  ·exact Dn _ _
 ·exact Dn _ _
theorem Qky (v:Value):M.Local (Qnm v):=by
 unfold Qnm;split
 ·exact M.Qi _
 ·exact M.Qe
theorem Qom (t:TypeId)(v:Value):M.Local (xCap P t v):=M.Qe
theorem Qe9 (t tx:TypeId)(s x:Value):M.Local (Qcl P t tx s x):=M.Qe
theorem Qkz (t:TypeId)(d x:Value):M.Local (xCopy P K t d x):=M.Qe
theorem Qe8 (b:Builtin)(ats:Array TypeId)(ty:TypeId)(args:List Value):M.Local (Ah P K b ats ty args):=by
 unfold Ah;repeat' split
 all_goals first
  |exact Z8 (Qg8 _ _ _ _)
  |exact Z8 (Qol _ _)
  |exact Z8 (Qom _ _)
  |exact Z8 (Qkz _ _ _)
  |exact Z8 (Qe9 _ _ _ _)
  |exact Dl _
  |exact M.Qi _
  |exact M.Qe
theorem Qd4 (fv:Value)(vs:List Value):M.Local (xCall P fv vs):=by
 unfold xCall;repeat' split
 all_goals first|exact M.Qi _|exact M.Qe
theorem Qiz (v:Value):M.Local (Qhx P v):=by
 unfold Qhx;split
 ·exact M.Qi _
 ·exact Dn _ _
theorem Qi0 (ρ:Env)(o:Oper):M.Local (xOp P K ρ o):=by
 unfold xOp;split;all_goals
  repeat (first|(refine F6 fun _=>?_)|(refine Qd6 (Ve _) fun _=>?_))
  repeat' split
  all_goals first
   |exact M.Qi _
   |exact M.Qe
   |exact F6 fun _=>M.Qi _
   |exact F6 fun _=>Qd6 (Ve _) fun _=>M.Qi _
   |exact Dl _
   |exact Dn _ _
   |exact Qiz _
   |exact Qk0 _ _ _
   |exact Qon _ _ _ _ _ _
   |exact Qky _
   |exact Qe8 _ _ _ _
   |exact Qd4 _ _
   |exact F6 fun _=>Qd4 _ _
   |exact Z8 (Qfv _)
   |exact Z8 (Qi1 _)
   |exact Z8 (Qfu _ _)
   |exact Z8 (Qd3 _ _)
   |exact Z8 (local_xRange _ _)
   |exact Z8 (local_xNext _ _)
   |exact Z8 (local_xSlice _ _ _ _ _)
   |exact Z8 (local_xMakeSlice _ _ _)
   |exact Z8 (Qbg _ _ _)
   |exact Z8 local_xMakeMap
   |exact Z8 (local_xLookup _ _ _ _)
   |exact Qi3 (Qiy _ _ _)
   |exact Qi3 (local_xMapUpdate _ _ _ _)
theorem Pm {ρ ρ':Env}:∀ {l:List Operand},(∀ x∈l,ρ x=ρ' x)→Qbl ρ l=Qbl ρ' l
 | [],_=>rfl
 |x::l,h=>by
  unfold Qbl;rw[h x Ds,Pm (l:=l) fun y hy=>h y (by simp[hy])]
theorem Lh {ρ ρ':Env}:∀ {l:List (Nat×Operand)},(∀ x∈l,ρ x.2=ρ' x.2)→Qai ρ l=Qai ρ' l
 | [],_=>rfl
 |(i,x)::l,h=>by
  unfold Qai;rw[h (i,x) Ds,Lh (l:=l) fun y hy=>h y (by simp[hy])]
theorem Ez {ρ ρ':Env}{o:Option Operand}(h:∀ x∈o.toList,ρ x=ρ' x):Qjc ρ o=Qjc ρ' o:=by
 cases o with
 |none=>rfl
 |some x=>simp only[Qjc,h x Ds]
theorem Qqc {ρ ρ':Env}(o:Oper)(h:∀ x∈o.op.operands,ρ x=ρ' x):xOp P K ρ o=xOp P K ρ' o:=by
 obtain⟨dst,op,type,pos,after,guard⟩:=o;have hc:∀ q:Call,(∀ x∈q.operands,ρ x=ρ' x)→Qbl ρ q.args.toList=Qbl ρ' q.args.toList∧∀ f,q.callee=.value f→ρ f=ρ' f:=fun q hq=>
  ⟨Pm fun x hx=>hq x (by simp[Call.operands,Array.mem_toList_iff.1 hx]),fun f hf=>hq f (by simp[Call.operands,hf])⟩
 unfold xOp;dsimp only at h ⊢;cases op <;> simp only[Op.operands] at h ⊢
 case build t ps=>rw[Lh (ρ:=ρ) (ρ':=ρ') fun x hx=>h x.2 (by simpa using ⟨x.1,by simpa using hx⟩)]
 case buildSlice t n ps=>rw[Lh (ρ:=ρ) (ρ':=ρ') fun x hx=>h x.2 (by simpa using ⟨x.1,by simpa using hx⟩)]
 case makeFunc fn first captured=>
  cases fn <;> first|rfl|skip
  dsimp only;rw[Pm (ρ:=ρ) (ρ':=ρ') (l:=first.toList) fun x hx=>h x (by simp[Array.mem_toList_iff.1 hx]),Pm (ρ:=ρ) (ρ':=ρ') (l:=captured.toList) fun x hx=>h x (by simp[Array.mem_toList_iff.1 hx])]
 case call q=>
  obtain⟨h1,h2⟩:=hc q h;rw[h1];cases hq:q.callee with
  |value f=>simp only[h2 f hq]
  |_=>rfl
 case defer q=>
  obtain⟨h1,h2⟩:=hc q h;rw[h1];cases hq:q.callee with
  |value f=>simp only[h2 f hq]
  |_=>rfl
 case makeMap t r=>cases r <;> rfl
 case slice t x lo hi mx=>
  rw[Ez (ρ:=ρ) (ρ':=ρ') (o:=lo) fun y hy=>h y (by simp at hy;simp[hy]),Ez (ρ:=ρ) (ρ':=ρ') (o:=hi) fun y hy=>h y (by simp at hy;simp[hy]),Ez (ρ:=ρ) (ρ':=ρ') (o:=mx) fun y hy=>h y (by simp at hy;simp[hy]),h x Ds]
 all_goals (first|rfl|(simp_all;done))
end
end Ev
end
section
namespace Ev
open Go.RowKit
inductive OV where
 |val (v:Value)
 |pan (v:Value)
 |later (g:FuncId) (args:List Value)
 |recover
inductive UM where
 |ret
 |pan (v:Value)
 |caught (v:Value)
noncomputable def Loc.rd (s:Loc)(t:Nat):Value:=(s.tm.get t).getD undef
noncomputable def Loc.put (s:Loc)(d:Option Nat)(v:Value):Loc:=match s with
 |⟨tm,n,ds⟩=>match d with
  |some i=>match Nat.ble (Nat.succ i) n with
   |true=>⟨tm.set i (some v),n,ds⟩
   |false=>⟨tm,n,ds⟩
  |none=>⟨tm,n,ds⟩
noncomputable def Loc.later (s:Loc)(x:FuncId×List Value):Loc:=match s with
 |⟨tm,n,ds⟩=>⟨tm,n,x::ds⟩
def Qfy (v:Value):Option Value:=match v with
 | .chan none=>none
 |v=>some v
noncomputable def Po (K:Cfg)(s:Loc):Env
 | .tmp t=>Qfy (s.rd t)
 | .const v=>if Tt 9 v then some v else none
 | .global g=>if g<K.g then some (.pointer (some ⟨g,0,none⟩)) else none
 | .func f=>some (.func (.func f) #[] #[])
noncomputable def Qcb (ops:Array Oper)(s:Loc)(o:Oper):Option Bool:=match o.guard with
 |none=>some true
 |some (j,want)=>match (ops[j]?).bind (·.dst) with
  |some d=>match s.rd d with
   | .bool b=>some (match b with
    |true=>want
    |false=>(match want with
     |true=>false
     |false=>true))
   | .chan _=>none
   |_=>some false
  |none=>some false
noncomputable def P5:List Value→Nat→Tree Value→Tree Value
 | [],_,t=>t
 |v::l,i,t=>P5 l (i+1) (t.set i (some v))
noncomputable def resX (P:Program)(s:Loc):List ResultVar→M Q4 (List Value)
 | []=>M.pure []
 | .tmp t::l=>M.bind (Gn (Qfy (s.rd t))) fun v=>M.bind (resX P s l) fun vs=>M.pure (v::vs)
 | .cell b t::l=>M.bind (Qgb P t (s.rd b)) fun v=>M.bind (resX P s l) fun vs=>M.pure (v::vs)
noncomputable def one (vs:List Value):Value:=match vs with
 | [v]=>v
 |vs => .tuple vs.toArray
noncomputable def force {α:Type}(n:Nat)(k:Nat→α):α:=match n with
 |0=>k 0
 |m+1=>k (m+1)
theorem force_eq {α:Type}(n:Nat)(k:Nat→α):force n k=k n:=by cases n <;> rfl
noncomputable def Qiu (T:Tree Nat):List Edge→Nat→Nat
 | [],m=>m
 |e::es,m=>if Region.binds .any e then Qiu T es (m ||| 2 ^ e.on ||| (T.get e.on).getD 0) else Qiu T es m
noncomputable def masks:List Oper→Nat→Tree Nat→List Nat
 | [],_,_=>[]
 |o::os,j,T=>force (Qiu T o.after.toList 0) fun m=>m::masks os (j+1) (T.set j (some m))
noncomputable def slotsOf (ops:Array Oper)(o:Oper):List Nat:=o.dst.toList++o.looksAt ops
noncomputable def meets:List Nat→List Nat→Bool
 | [],_=>false
 |t::ts,us=>us.any (fun u=>Nat.beq t u)||meets ts us
noncomputable def Qc2 (ops:Array Oper)(j:Oper)(m:Nat):List Oper→Nat→Bool
 | [],_=>true
 |o::os,i=>(m.testBit i||(!meets o.dst.toList (slotsOf ops j) && !meets j.dst.toList (slotsOf ops o)))&&Qc2 ops j m os (i+1)
noncomputable def Qs0 (j:Nat)(o:Oper):Bool:=o.after.toList.all fun e => !Region.binds .any e||Nat.blt e.on j
noncomputable def Qeo (ops:Array Oper):List Oper→List Nat→Nat→Bool
 | [],_,_=>true
 |_::_,[],_=>false
 |o::os,m::ms,j=>Qs0 j o&&(Qc2 ops o m (ops.toList.take j) 0&&Qeo ops os ms (j+1))
noncomputable def Qm5 (ops:Array Oper):Bool:=Qeo ops ops.toList (masks ops.toList 0 .leaf) 0
noncomputable def clash (m:Nat)(l:Log):List (Nat×Log)→Bool
 | []=>false
 |(i,k)::d=>(if m.testBit i then false else !(Nat.beq (Nat.land k.w l.t) 0&&Nat.beq (Nat.land k.t l.w) 0))||clash m l d
noncomputable def isNew (a b w:Nat):Bool:=Nat.beq (w % 2 ^ a) 0&&Nat.blt w (2 ^ b)
noncomputable def Qcq (a b n m:Nat):List (Nat×Log)→Bool
 | []=>true
 |(i,k)::d=>(Nat.beq i n||(m.testBit i||isNew a b k.w))&&Qcq a b n m d
noncomputable def Qhk (a:Nat):Nat→Tree Q4→Tree Q4
 |0,h=>h
 |n+1,h=>(Qhk a n h).set (a+n) none
noncomputable def behind (m:Nat):Option (Nat×Nat×Value)→Bool
 |none=>false
 |some x=>m.testBit x.1
noncomputable def dstsOf (ops:Array Oper):List Nat:=ops.toList.filterMap (·.dst)
noncomputable def Bh:List ResultVar→List Nat
 | []=>[]
 | .tmp t::l=>t::Bh l
 | .cell b _::l=>b::Bh l
section
variable (P:Program) (K:Cfg)
mutual
noncomputable def Ji:Nat→Code→Loc→M Q4 (XE×Loc)
 |0,_,_=>M.fail
 |f+1,c,s=>match c with
  | .skip=>M.pure (.normal,s)
  | .label _=>M.pure (.normal,s)
  | .seq a b=>M.bind (Ji f a s) fun r=>match r.1 with
   | .normal=>Ji f b r.2
   |_=>M.pure r
  | .cond q a b=>match Po K s q with
   |some (.bool true)=>Ji f a s
   |some (.bool false)=>Ji f b s
   |_=>M.fail
  | .block id a=>M.bind (Ji f a s) fun r=>match r.1 with
   | .exit i=>if i=id then M.pure (.normal,r.2) else M.pure r
   |_=>M.pure r
  | .loop a=>match K.lop a s with
   |some m=>m
   |none=>M.bind (Ji f a s) fun r=>match r.1 with
    | .normal=>Ji f (.loop a) r.2
    |_=>M.pure r
  | .exit id=>M.pure (.exit id,s)
  | .scope c=>Ji f c s
  | .ret=>M.pure (.ret,s)
  | .region _ ops false=>Qfb f ops ops.toList s
  | .region _ ops true=>if Qm5 ops then fun h c=>match Jp f ops ops.toList (masks ops.toList 0 .leaf) 0 [] none c s h c with
    | .ok (.panic v ds,s') h' c' l => .ok (.panic v ds,s') (Qhk c (c'-c) h') c' l
    |r=>r
   else M.fail
  |_=>M.fail
noncomputable def Qfb:Nat→Array Oper→List Oper→Loc→M Q4 (XE×Loc)
 |0,_,_,_=>M.fail
 |f+1,ops,os,s=>match os with
  | []=>M.pure (.normal,s)
  |o::os=>match Qcb ops s o with
   |some true=>M.bind (Qjs f o (Po K s)) fun r=>match r with
    | .val v=>Qfb f ops os (s.put o.dst v)
    | .pan v=>M.pure (.panic v [],s)
    | .later g args=>Qfb f ops os ((s.later (g,args)).put o.dst undef)
    | .recover=>M.fail
   |some false=>Qfb f ops os (s.put o.dst undef)
   |none=>M.fail
noncomputable def Jp:Nat→Array Oper→List Oper→List Nat→Nat→List (Nat×Log)→Option (Nat×Nat×Value)→Nat→Loc→M Q4 (XE×Loc)
 |0,_,_,_,_,_,_,_,_=>M.fail
 |f+1,ops,os,ms,i,done,pn,c0,s=>match os with
  | []=>match pn with
   |none=>M.pure (.normal,s)
   |some (n,m,v)=>fun h c=>if Qcq c0 c n m done then .ok (.panic v (dstsOf ops),s) h c .no else .no
  |o::os=>match ms with
   | []=>M.fail
   |m::ms=>if behind m pn then Jp f ops os ms (i+1) done pn c0 (s.put o.dst undef) else match Qcb ops s o with
    |some true=>fun h c=>match Qjs f o (Po K s) h c with
     | .ok (.val v) h' c' l=>if clash m l done then .no else match Jp f ops os ms (i+1) ((i,l)::done) pn c0 (s.put o.dst v) h' c' with
      | .ok r h'' c'' l' => .ok r h'' c'' (l.and l')
      | .no => .no
     | .ok (.pan v) h' c' l=>if clash m l done then .no else match pn with
      |none=>(match Jp f ops os ms (i+1) ((i,l)::done) (some (i,m,v)) c0 (s.put o.dst undef) h' c' with
       | .ok r h'' c'' l' => .ok r h'' c'' (l.and l')
       | .no => .no)
      |some _ => .no
     |_ => .no
    |some false=>Jp f ops os ms (i+1) done pn c0 (s.put o.dst undef)
    |none=>M.fail
noncomputable def Qjs:Nat→Oper→Env→M Q4 OV
 |0,_,_=>M.fail
 |f+1,o,ρ=>match K.opx o ρ with
  |some m=>M.bind m fun v=>M.pure (.val v)
  |none=>M.bind (xOp P K ρ o) fun r=>match r with
   | .val v=>M.pure (.val v)
   | .skip=>M.pure (.val undef)
   | .enter g args=>M.bind (match K.orc g args with
    |some m=>m
    |none=>Gf f g args) fun r=>match r with
     | .ret v=>M.pure (.val v)
     | .pan v=>M.pure (.pan v)
   | .defer g args=>M.pure (.later g args)
   | .panic v=>M.pure (.pan v)
   | .recover=>M.pure .recover
noncomputable def Gf:Nat→FuncId→List Value→M Q4 CR
 |0,_,_=>M.fail
 |f+1,g,args=>match P.funcs[g]? with
  |none=>M.fail
  |some fn=>match fn.body with
   |none=>M.fail
   |some c=>if args.length≤fn.ntmps then M.bind (Ji f c ⟨P5 args 0 .leaf,fn.ntmps,[]⟩) fun r=>match r.1 with
     | .normal=>D6 f fn r.2 [] r.2.ds .ret
     | .ret=>D6 f fn r.2 [] r.2.ds .ret
     | .panic v ls=>D6 f fn r.2 ls r.2.ds (.pan v)
     |_=>M.fail
    else M.fail
noncomputable def D6:Nat→Func→Loc→List Nat→List (FuncId×List Value)→UM→M Q4 CR
 |0,_,_,_,_,_=>M.fail
 |f+1,fn,s,ls,ds,u=>match ds with
  | []=>match u with
   | .ret=>if meets ls (Bh fn.results.toList) then M.fail else M.bind (resX P s fn.results.toList) fun vs=>M.pure (.ret (one vs))
   | .pan v=>M.pure (.pan v)
   | .caught _=>M.fail
  |_::_=>M.fail
end
end
end Ev
end
section
namespace Ev
open Go.RowKit
section
variable {P:Program} {K:Cfg}
theorem Qbh {s:Loc}:∀ rs:List ResultVar,M.Local (resX P s rs)
 | []=>M.Qi _
 | .tmp _::rs=>M.Qh (Ve _) fun _=>M.Qh (Qbh rs) fun _=>M.Qi _
 | .cell _ _::rs=>M.Qh (Qd3 _ _) fun _=>M.Qh (Qbh rs) fun _=>M.Qi _
theorem Qk5 {β γ:Type}{m:M Q4 β}{g:β→Log→M Q4 γ}(hm:M.Local m)(hg:∀ x l,M.Local (g x l)):
  M.Local (fun h c=>match m h c with
   | .ok x h' c' l=>match g x l h' c' with
    | .ok r h'' c'' l' => .ok r h'' c'' (l.and l')
    | .no => .no
   | .no => .no):=by
 intro h c y h2 c2 l e;dsimp only at e;cases e1:m h c with
 |no=>rw[e1] at e;cases e
 |ok x h1 c1 l1=>
  rw[e1] at e;dsimp only at e;cases e2:g x l1 h1 c1 with
  |no=>rw[e2] at e;cases e
  |ok y' h2' c2' l2=>
   rw[e2] at e;cases e;obtain⟨hc,A'⟩:=(M.Qh (f:=fun x=>g x l1) hm (fun x=>hg x l1)) h c y h2 c2 _ (by rw[M.Qey,e1];dsimp only;rw[e2]);refine⟨hc,fun hr=>?_⟩;have A:=A' hr;have hc2:=(hg x l1 _ _ _ _ _ _ e2).1;have hr1:=hr.first hc2;refine { A with move:=fun g0 hg0 hga=>?_ };obtain⟨g',k1,k2,k3⟩:=A.move g0 hg0 hga;refine⟨g',?_,k2,k3⟩;obtain⟨hc1,B'⟩:=hm h c x h1 c1 l1 e1
   have B:=(B' hr1).move g0 (hg0.first hc2) (fun b hb hl=>by
    by_cases hin:c1≤b∧b<c2
    ·rw[hg0 b Dw hin.2,hr b Dw hin.2]
    ·exact hga b Dw (by rw[M.Qtg,hl];rfl))
   obtain⟨g1,q1,-,-⟩:=B;rw[M.Qey,q1] at k1;show (match m g0 c with | .ok x h' c' l=>_ | .no=>_)=_
   rw[q1];dsimp only at k1 ⊢;cases e3:g x l1 g1 c1 with
   |no=>rw[e3] at k1;cases k1
   |ok=>rw[e3] at k1;exact k1
theorem Rh (a:Nat)(h:Tree Q4)(k:Nat):∀ n:Nat,(Qhk a n h).get k=if a≤k∧k<a+n then none else h.get k
 |0=>by unfold Qhk;rw[if_neg Dw]
 |n+1=>by
  unfold Qhk;rw[Tree.Qu,Rh a h k n];by_cases e:k=a+n
  ·rw[if_pos e,if_pos Dw]
  ·rw[if_neg e];by_cases h2:a≤k∧k<a+n
   ·rw[if_pos h2,if_pos Dw]
   ·rw[if_neg h2,if_neg Dw]
theorem Qk2 {β:Type}(q:Nat→Bool)(x:β):M.Local (fun h c=>if q c then .ok x h c .no else .no:M Q4 β):=by
 intro h c y h' c' l e;dsimp only at e;split at e
 ·rename_i hq;cases e;exact⟨Nat.le_refl _,fun _=>⟨by simp[Log.no],fun _ _=>rfl,fun b h1 h2=>by omega,fun _ _ h=>h,by simp[Log.no],fun g _ _=>⟨g,by rw[if_pos hq],by simp[Log.no],fun _ _=>rfl⟩⟩⟩
 ·cases e
theorem Qoy {m:Nat→M Q4 (XE×Loc)}(hm:∀ c,M.Local (m c)):M.Local (fun h c=>match m c h c with
  | .ok (.panic v ds,s') h' c' l => .ok (.panic v ds,s') (Qhk c (c'-c) h') c' l
  |r=>r:M Q4 (XE×Loc)):=by
 intro h c y h' c' l e;dsimp only at e;split at e
 ·rename_i v ds s1 h1 c1 l1 e1;cases e;obtain⟨hc,A'⟩:=hm c h c _ _ _ _ e1;refine⟨hc,fun hr=>?_⟩;have A:=A' hr;refine⟨A.sub,fun b hb=>?_,A.fresh,fun b hb hn=>?_,A.old,fun g hg hga=>?_⟩
  ·rw[Rh,if_neg,A.out b hb];rintro⟨h2,h3⟩;rw[A.fresh b h2 Dw] at hb;cases hb
  ·rw[Rh,if_neg Dw];exact A.free b hb hn
  ·obtain⟨g',q1,q2,q3⟩:=A.move g hg hga;refine⟨Qhk c (c'-c) g',by rw[q1],fun b hb=>?_,fun b hb=>?_⟩
   ·rw[Rh,Rh];split
    ·rfl
    ·exact q2 b hb
   ·rw[Rh,if_neg,q3 b hb];rintro⟨h2,h3⟩;rw[A.fresh b h2 Dw] at hb;cases hb
 ·rename_i hno;obtain⟨hc,A'⟩:=hm c h c _ _ _ _ e;refine⟨hc,fun hr=>?_⟩;have A:=A' hr;refine⟨A.sub,A.out,A.fresh,A.free,A.old,fun g hg hga=>?_⟩;obtain⟨g',q1,q2,q3⟩:=A.move g hg hga;refine⟨g',?_,q2,q3⟩;rw[q1];obtain⟨y1,y2⟩:=y;cases y1 with
  |panic v ds=>exact absurd e (hno v ds y2 h' c' l)
  |_=>rfl
variable (P K)
structure AllLocal (f:Nat):Prop where
 code:∀ c s,M.Local (Ji P K f c s)
 ops:∀ ops os s,M.Local (Qfb P K f ops os s)
 draw:∀ ops os ms i done pn c0 s,M.Local (Jp P K f ops os ms i done pn c0 s)
 op:∀ o ρ,M.Local (Qjs P K f o ρ)
 call:∀ g args,M.Local (Gf P K f g args)
 leave:∀ fn s ls ds u,M.Local (D6 P K f fn s ls ds u)
theorem Yx:∀ f,AllLocal P K f
 |0=>by
  refine⟨?_,?_,?_,?_,?_,?_⟩ <;> intros
  ·unfold Ji;exact M.Qe
  ·unfold Qfb;exact M.Qe
  ·unfold Jp;exact M.Qe
  ·unfold Qjs;exact M.Qe
  ·unfold Gf;exact M.Qe
  ·unfold D6;exact M.Qe
 |f+1=>by
  have A:=Yx f;refine⟨fun c s=>?_,fun ops os s=>?_,fun ops os ms i done pn c0 s=>?_,fun o ρ=>?_,fun g args=>?_,fun fn s ls ds u=>?_⟩
  ·unfold Ji;split
   ·exact M.Qi _
   ·exact M.Qi _
   ·refine M.Qh (A.code _ _) fun r=>?_
    split
    ·exact A.code _ _
    ·exact M.Qi _
   ·split
    ·exact A.code _ _
    ·exact A.code _ _
    ·exact M.Qe
   ·refine M.Qh (A.code _ _) fun r=>?_
    repeat' split
    all_goals exact M.Qi _
   ·split
    ·rename_i m hm;exact K.lol _ _ _ hm
    ·refine M.Qh (A.code _ _) fun r=>?_
     split
     ·exact A.code _ _
     ·exact M.Qi _
   ·exact M.Qi _
   ·exact A.code _ _
   ·exact M.Qi _
   ·exact A.ops _ _ _
   ·split
    ·exact Qoy fun c=>A.draw _ _ _ _ _ _ c _
    ·exact M.Qe
   ·exact M.Qe
  ·unfold Qfb;split
   ·exact M.Qi _
   ·split
    ·refine M.Qh (A.op _ _) fun r=>?_
     split
     ·exact A.ops _ _ _
     ·exact M.Qi _
     ·exact A.ops _ _ _
     ·exact M.Qe
    ·exact A.ops _ _ _
    ·exact M.Qe
  ·unfold Jp;split
   ·split
    ·exact M.Qi _
    ·exact Qk2 _ _
   ·split
    ·exact M.Qe
    ·split
     ·exact A.draw _ _ _ _ _ _ _ _
     ·split
      ·rename_i o os _ m ms _ _ hw
       have B:=Qk5 (A.op o (Po K s)) (g:=fun r l=>match r with
        | .val v=>if clash m l done then M.fail else Jp P K f ops os ms (i+1) ((i,l)::done) pn c0 (s.put o.dst v)
        | .pan v=>if clash m l done then M.fail else match pn with
         |none=>Jp P K f ops os ms (i+1) ((i,l)::done) (some (i,m,v)) c0 (s.put o.dst undef)
         |some _=>M.fail
        |_=>M.fail) (fun r l=>by
         split
         ·split
          ·exact M.Qe
          ·exact A.draw _ _ _ _ _ _ _ _
         ·split
          ·exact M.Qe
          ·split
           ·exact A.draw _ _ _ _ _ _ _ _
           ·exact M.Qe
         ·exact M.Qe)
       refine cast (congrArg M.Local ?_) B;funext h c
       cases Qjs P K f o (Po K s) h c with
       |no=>rfl
       |ok r h' c' l=>
        cases r with
        |val v=>
         dsimp only;by_cases hc:clash m l done=true
         ·simp only[if_pos hc];rfl
         ·simp only[if_neg hc];cases Jp P K f ops os ms (i+1) ((i,l)::done) pn c0 (s.put o.dst _) h' c' <;> rfl
        |pan v=>
         dsimp only;by_cases hc:clash m l done=true
         ·simp only[if_pos hc];rfl
         ·simp only[if_neg hc];cases pn with
          |none=>
           dsimp only;cases Jp P K f ops os ms (i+1) ((i,l)::done) (some (i,m,v)) c0 (s.put o.dst undef) h' c' <;> rfl
          |some _=>rfl
        |_=>rfl
      ·exact A.draw _ _ _ _ _ _ _ _
      ·exact M.Qe
  ·unfold Qjs;split
   ·rename_i m hm;exact M.Qh (K.opl _ _ _ hm) fun _=>M.Qi _
   ·refine M.Qh (Qi0 _ _) fun r=>?_
    split
    ·exact M.Qi _
    ·exact M.Qi _
    ·refine M.Qh ?_ fun r=>?_
     ·split
      ·rename_i m hm;exact K.loc _ _ _ hm
      ·exact A.call _ _
     ·split <;> exact M.Qi _
    ·exact M.Qi _
    ·exact M.Qi _
    ·exact M.Qi _
  ·unfold Gf;split
   ·exact M.Qe
   ·split
    ·exact M.Qe
    ·split
     ·refine M.Qh (A.code _ _) fun r=>?_
      split
      ·exact A.leave _ _ _ _ _
      ·exact A.leave _ _ _ _ _
      ·exact A.leave _ _ _ _ _
      ·exact M.Qe
     ·exact M.Qe
  ·unfold D6;dsimp only;split
   ·split
    ·split
     ·exact M.Qe
     ·exact M.Qh (Qbh _) fun _=>M.Qi _
    ·exact M.Qi _
    ·exact M.Qe
   ·exact M.Qe
theorem Qf3 {f:Nat}{ρ ρ':Env}(o:Oper)(h:∀ x∈o.op.operands,ρ x=ρ' x):Qjs P K f o ρ=Qjs P K f o ρ':=by
 cases f with
 |zero=>unfold Qjs;rfl
 |succ f=>unfold Qjs;rw[Qqc o h,K.opc o ρ ρ' fun x hx=>h x (by simpa using hx)]
end
end Ev
end
section
namespace Ev
open Go.RowKit
def DR (p:Xb)(x:FuncId×List Value)(d:Deferred):Prop:=∃ ys cap,d=⟨.fn (.func x.1) cap,ys⟩∧VRs p x.2 (ys++cap).toList
inductive DRs (p:Xb):List (FuncId×List Value)→List Deferred→Prop where
 |nil:DRs p [] []
 |cons {x:FuncId×List Value} {d:Deferred} {xs:List (FuncId×List Value)} {ds:List Deferred}:DR p x d→DRs p xs ds→DRs p (x::xs) (d::ds)
theorem DRs.mono {p q:Xb}(hpq:p.le q):∀ {xs:List (FuncId×List Value)} {ds:List Deferred},DRs p xs ds→DRs q xs ds
 |_,_,.nil => .nil
 |_,_,.cons ⟨ys,cap,h1,h2⟩ k => .cons ⟨ys,cap,h1,h2.mono hpq⟩ (DRs.mono hpq k)
def SR (p:Xb)(v v':Value):Prop:=v=.chan none∨VR p v v'
theorem SR.mono {p q:Xb}(hpq:p.le q){v v':Value}(h:SR p v v'):SR q v v':=h.imp id (VR.mono hpq)
theorem SR.known {p:Xb}{v v' u:Value}(h:SR p v v')(e:Qfy v=some u):VR p u v':=by
 rcases h with rfl|h
 ·cases e
 ·unfold Qfy at e;split at e
  ·cases e
  ·cases e;exact h
structure Ac (p:Xb)(s:Loc)(a:Act):Prop where
 tm:∀ t:Nat,SR p (s.rd t) (a.tmps.getD t undef)
 n:a.tmps.size=s.n
 ds:DRs p s.ds a.defers
theorem Ac.mono {p q:Xb}{s:Loc}{a:Act}(hpq:p.le q)(h:Ac p s a):Ac q s a:=⟨fun t=>(h.tm t).mono hpq,h.n,h.ds.mono hpq⟩
structure LocL (ls:List Nat)(p:Xb)(s:Loc)(a:Act):Prop where
 tm:∀ t:Nat,t ∉ ls→SR p (s.rd t) (a.tmps.getD t undef)
 n:a.tmps.size=s.n
 ds:DRs p s.ds a.defers
theorem Ac.toL {ls:List Nat}{p:Xb}{s:Loc}{a:Act}(h:Ac p s a):LocL ls p s a:=⟨fun t _=>h.tm t,h.n,h.ds⟩
def LocX (x:XE)(p:Xb)(s:Loc)(a:Act):Prop:=match x with
 | .panic _ ls=>LocL ls p s a
 |_=>Ac p s a
theorem Fg {p:Xb}:VR p undef undef:=.tuple .nil
theorem getD_some (a:Array Value)(t:Nat):a.getD t undef=(a[t]?).getD undef:=by
 rw[Array.getD_eq_getD_getElem?]
theorem Ac.put {p:Xb}{s:Loc}{a:Act}{v v':Value}(h:Ac p s a)(hv:VR p v v')(d:Option Nat):Ac p (s.put d v) (a.put d v'):=by
 obtain⟨tm,n,ds⟩:=s;cases d with
 |none=>exact h
 |some i=>
  have hn:a.tmps.size=n:=h.n;unfold Loc.put Act.put;dsimp only;by_cases hi:i<n
  ·rw[show Nat.ble (Nat.succ i) n=true from Nat.ble_eq_true_of_le hi];dsimp only;refine⟨fun t=>?_,by simpa using hn,h.ds⟩;rw[getD_some];show SR p ((((tm.set i (some v)).get t)).getD undef) _
   rw[Tree.Qu,Array.getElem?_setIfInBounds];by_cases e:i=t
   ·subst e;rw[if_pos rfl,if_pos rfl,if_pos Dw];exact .inr hv
   ·rw[if_neg (Ne.symm e),if_neg e,←getD_some];exact h.tm t
  ·rw[show Nat.ble (Nat.succ i) n=false by cases hb:Nat.ble (Nat.succ i) n with|false=>rfl|true=>exact absurd (Nat.le_of_ble_eq_true hb) hi];dsimp only;refine⟨fun t=>?_,by simpa using hn,h.ds⟩;rw[getD_some,Array.getElem?_setIfInBounds];by_cases e:i=t
   ·subst e;rw[if_pos rfl,if_neg Dw]
    have:=h.tm i;rw[getD_some,Array.getElem?_eq_none Dw] at this;exact this
   ·rw[if_neg e,←getD_some];exact h.tm t
theorem Aj {p:Xb}{s:Loc}{a:Act}(h:Ac p s a){ops:Array Oper}{o:Oper}{b:Bool}(e:Qcb ops s o=some b):Region.wanted o (yielded ops a.tmps)=b:=by
 unfold Qcb at e;unfold Region.wanted;split at e
 ·rename_i hg;cases e;rw[hg]
 ·rename_i j want hg;rw[hg];dsimp only;unfold yielded;cases hd:(ops[j]?).bind (·.dst) with
  |none=>rw[hd] at e;cases e;rfl
  |some d=>
   rw[hd] at e
   have:=h.tm d;rw[getD_some] at this;rw[Option.bind_some];dsimp only at e;generalize s.rd d=x at this e;cases hq:a.tmps[d]? with
   |none=>
    rw[hq] at this;rcases this with rfl|this
    ·cases e
    ·cases x with
     |chan=>cases e
     |_=>cases this <;> cases e <;> rfl
   |some u=>
    rw[hq] at this;simp only[Option.getD_some] at this;rcases this with rfl|this
    ·cases e
    ·cases x with
     |chan=>cases e
     |bool b=>cases this;cases e;cases b <;> cases want <;> rfl
     |_=>cases this <;> cases e <;> rfl
section
variable {P:Program} {K:Cfg} {base:Nat→Prop} {w0:World}
theorem envR {p:Xb}{h:Tree Q4}{w:World}{s:Loc}{a:Act}(hr:Rel K base w0 p h w)(hs:Ac p s a):EnvR p (Po K s) a.eval:=by
 intro x v e;cases x with
 |tmp t=>
  exact(hs.tm t).known e
 |const u=>
  unfold Po at e;dsimp only at e;split at e
  ·rename_i hp;cases e;exact Gl 9 _ hp
  ·cases e
 |global g=>
  unfold Po at e;dsimp only at e;split at e
  ·rename_i hg;cases e;obtain⟨s',h1,h2,h3⟩:=hr.glob g hg
   have:=VR.ptr (p:=p) (b:=g) (o:=0) h1;rw[h2,h3] at this;exact this
  ·cases e
 |func f=>
  cases e;exact .func f .nil .nil
def XQ (x:XE)(p:Xb)(Q:Exit→Act→World→Prop)(a:Act)(w:World):Prop:=match x with
 | .normal=>Q .normal a w
 | .exit id=>Q (.exit id) a w
 | .ret=>Q .ret a w
 | .panic v _=>∀ v',VR p v v'→Q (.panic [{ v:=v',recovered:=false }]) a w
def Out (p p':Xb)(c0 c1:Nat):Prop:=∀ b,(b<c0∨c1≤b)→p' b=p b
def Post (K:Cfg)(base:Nat→Prop)(w0:World)(p:Xb)(c0 c1:Nat)(h':Tree Q4)(x:XE)(s':Loc)(Q:Exit→Act→World→Prop):Prop:=
 ∀ p' w' a',p.le p'→Out p p' c0 c1→Rel K base w0 p' h' w'→LocX x p' s' a'→XQ x p' Q a' w'
theorem Free.later {p p':Xb}{c0 c1 c2:Nat}(hf:Free p c0 c2)(h:c0≤c1)(ho:Out p p' c0 c1):Free p' c1 c2:=fun b h1 h2=>by
 rw[ho b (.inr h1)];exact hf b Dw h2
theorem Free.first {p:Xb}{c0 c1 c2:Nat}(hf:Free p c0 c2)(h:c1≤c2):Free p c0 c1:=fun b h1 h2=>hf b h1 Dw
theorem Out.trans {p p' p'':Xb}{c0 c1 c2:Nat}(h1:c0≤c1)(h2:c1≤c2)(a:Out p p' c0 c1)(b:Out p' p'' c1 c2):Out p p'' c0 c2:=fun n hn=>by
 rw[b n Dw,a n Dw]
theorem Post.later {p p':Xb}{c0 c1 c2:Nat}{h':Tree Q4}{x:XE}{s':Loc}{Q:Exit→Act→World→Prop}(hp:Post K base w0 p c0 c2 h' x s' Q)(h1:c0≤c1)(h2:c1≤c2)(hle:p.le p')(ho:Out p p' c0 c1):
  Post K base w0 p' c1 c2 h' x s' Q:=fun p'' w' a' k1 k2 k3 k4=>hp p'' w' a' (Xb.le_trans hle k1) (ho.trans h1 h2 k2) k3 k4
theorem Out.rfl {p:Xb}{c0 c1:Nat}:Out p p c0 c1:=fun _ _=>Eq.refl _
def Vl (P:Program)(c:Code)(Q:Exit→Act→World→Prop)(a:Act)(w:World):Prop:=
 ∀ (b:Frame) (k:List Item) (cs:List Frame),∃ e a' w',Q e a' w'∧Arrives P (lone (b.at a (.code c::.inLoop c::k)) cs w) b k cs e a' w'
def wp2 (P:Program)(c:Code)(Q:Exit→Act→World→Prop)(a:Act)(w:World):Prop:=match c with
 | .loop x=>Vl P x Q a w
 |c=>c.wp P Q a w
theorem Zr {c:Code}{Q:Exit→Act→World→Prop}{a:Act}{w:World}(h:wp2 P c Q a w):c.wp P Q a w:=by
 cases c with
 |loop x=>exact fun b k cs=>let ⟨e,a',w',q,r⟩:=h b k cs;⟨e,a',w',q,.of_steps (.one step_loop) r⟩
 |_=>exact h
theorem Zu {c:Code}{Q:Exit→Act→World→Prop}{a:Act}{w:World}(h:c.wp P (Exit.then (fun a w=>Vl P c Q a w) Q) a w):Vl P c Q a w:=by
 intro b k cs;obtain⟨e,a₁,w₁,hq,harr⟩:=h b (.inLoop c::k) cs;cases e with
 |normal=>
  obtain⟨e₂,a₂,w₂,hq₂,harr₂⟩:=hq b k cs;exact⟨e₂,a₂,w₂,hq₂,.of_steps (Steps.trans harr (.one step_inLoop)) harr₂⟩
 |exit id=>exact⟨_,a₁,w₁,hq,.pass (x:=.inLoop c) rfl (fun _ _ => .inl Ds) harr⟩
 |goto l=>exact⟨_,a₁,w₁,hq,.pass (x:=.inLoop c) rfl (fun _ _ => .inl Ds) harr⟩
 |ret=>exact⟨_,a₁,w₁,hq,.pass (x:=.inLoop c) rfl (fun _ _ => .inl Ds) harr⟩
 |panic ch=>exact⟨_,a₁,w₁,hq,.pass (x:=.inLoop c) rfl (fun _ _ => .inl Ds) harr⟩
 |outgrown=>exact⟨_,a₁,w₁,hq,.pass (x:=.inLoop c) rfl (fun _ _ => .inl Ds) harr⟩
theorem Qb9:∀ (args:List Value) (i:Nat) (t:Tree Value) (k:Nat),(P5 args i t).get k=if i≤k∧k<i+args.length then args[k-i]? else t.get k
 | [],i,t,k=>by rw[P5,if_neg (by simp only[List.length_nil];omega)]
 |v::l,i,t,k=>by
  rw[P5,Qb9 l (i+1),Tree.Qu];simp only[List.length_cons];by_cases h:i+1≤k∧k<i+1+l.length
  ·rw[if_pos h,if_pos Dw];obtain⟨m,rfl⟩:∃ m,k=i+1+m:=⟨k-(i+1),by omega⟩;rw[show i+1+m-(i+1)=m by omega,show i+1+m-i=m+1 by omega];rfl
  ·rw[if_neg h];by_cases e:k=i
   ·subst e;rw[if_pos rfl,if_pos Dw,Nat.sub_self];rfl
   ·rw[if_neg e,if_neg Dw]
theorem begin_ok {p:Xb}{args:List Value}{args':Array Value}{n:Nat}(hv:VRs p args args'.toList)(hn:args.length≤n):
  Ac p ⟨P5 args 0 .leaf,n,[]⟩ { tmps:=args'++Array.replicate (n-args'.size) undef,defers:=[] }:=by
 have hl:=hv.len;simp only[Array.length_toList] at hl;refine⟨fun t=>?_,by simp;omega,.nil⟩;rw[getD_some];show SR p (((P5 args 0 .leaf).get t).getD undef) _
 rw[Qb9];by_cases h:t<args.length
 ·rw[if_pos ⟨by omega,by omega⟩,Nat.sub_zero];obtain⟨u,h1,h2⟩:=hv.get t args[t] (List.getElem?_eq_getElem h);rw[List.getElem?_eq_getElem h,Array.getElem?_append_left Dw];have h3:args'[t]? = some u:=by simpa using h1
  rw[h3];exact .inr h2
 ·rw[if_neg Dw];have h1:(Tree.leaf:Tree Value).get t=none:=rfl;rw[h1,Array.getElem?_append_right Dw,Array.getElem?_replicate];split <;> exact .inr Fg
theorem run_cell {t:TypeId}{v v' r:Value}{p:Xb}{h h':Tree Q4}{c c':Nat}{l:Log}{w:World}(e:Qgb P t v h c=.ok r h' c' l)(hv:SR p v v')(hr:Rel K base w0 p h w):
  h'=h∧c'=c∧∃ y,(do loadVar t (← asAddr v'):Sem Value).run P w=.ok y w∧VR p r y:=by
 rcases hv with rfl|hv
 ·cases e
 obtain⟨e1,e2,y,h1,h2⟩:=Qc4 (P:=P) e hv hr;refine⟨e1,e2,y,?_,h2⟩;rw[←h1];unfold Qgb at e;split at e
 ·cases hv;rfl
 ·cases e
theorem Qkm {ls:List Nat}{p:Xb}{s:Loc}{a:Act}{h:Tree Q4}{w:World}(hs:LocL ls p s a)(hr:Rel K base w0 p h w){g:ResultVar→Sem Value}(hg:∀ t,g (.tmp t)=pure (a.tmps.getD t undef))(hg2:∀ b t,g (.cell b t)=do loadVar t (← asAddr (a.tmps.getD b undef))):
  ∀ {rs:List ResultVar} (_:∀ t∈Bh rs,t ∉ ls) {vs:List Value} {h':Tree Q4} {c c':Nat} {l:Log},resX P s rs h c=.ok vs h' c' l→h'=h∧c'=c∧∃ vs',(rs.mapM g).run P w=.ok vs' w∧VRs p vs vs'
 | [],_,_,_,_,_,_,e=>by
  obtain⟨rfl,rfl,rfl⟩:=Qn e;exact⟨rfl,rfl,[],rfl,.nil⟩
 | .tmp t::rs,hm,vs,h',c,c',l,e=>by
  obtain⟨v0,h3,c3,l3,l4,e0,ee⟩:=Qr e;obtain⟨e9,rfl,rfl⟩:=Ku e0;obtain⟨us,h1,c1,l1,l2,e1,e2⟩:=Qr ee;obtain⟨rfl,rfl,vs',k1,k2⟩:=Qkm hs hr hg hg2 (fun t ht=>hm t (List.mem_cons_of_mem _ ht)) e1;obtain⟨rfl,rfl,rfl⟩:=Qn e2;refine⟨rfl,rfl,a.tmps.getD t undef::vs',?_,.cons ((hs.tm t (hm t (List.mem_cons_self ..))).known e9) k2⟩;rw[List.mapM_cons,hg,Sem.run_bind,Sem.run_pure,Result.andThen_ok,Sem.run_bind,k1];rfl
 | .cell b t::rs,hm,vs,h',c,c',l,e=>by
  obtain⟨v,h1,c1,l1,l2,e1,e2⟩:=Qr e;obtain⟨rfl,rfl,y,q1,q2⟩:=run_cell (P:=P) e1 (hs.tm b (hm b (List.mem_cons_self ..))) hr;obtain⟨us,h1,c1,l1,l2,e3,e4⟩:=Qr e2;obtain⟨rfl,rfl,vs',k1,k2⟩:=Qkm hs hr hg hg2 (fun t ht=>hm t (List.mem_cons_of_mem _ ht)) e3;obtain⟨rfl,rfl,rfl⟩:=Qn e4;refine⟨rfl,rfl,y::vs',?_,.cons q2 k2⟩;rw[List.mapM_cons,hg2,Sem.run_bind,q1,Result.andThen_ok,Sem.run_bind,k1];rfl
theorem Qmo {p:Xb}{vs vs':List Value}(h:VRs p vs vs'):VR p (one vs) (if h:vs'.toArray.size=1 then vs'.toArray[0] else .tuple vs'.toArray):=by
 cases h with
 |nil=>exact .tuple .nil
 |cons h1 h2=>
  cases h2 with
  |nil=>exact h1
  |cons h3 h4=>
   rw[dif_neg Ds];exact .tuple (.cons h1 (.cons h3 h4))
theorem Qn7 {ls:List Nat}{p:Xb}{s:Loc}{a:Act}{fn:Func}(hm:∀ t∈Bh fn.results.toList,t ∉ ls){h h':Tree Q4}{c c':Nat}{l:Log}{w:World}(hs:LocL ls p s a)(hr:Rel K base w0 p h w){vs:List Value}(e:resX P s fn.results.toList h c=.ok vs h' c' l):h'=h∧c'=c∧∃ v,(results fn a.tmps).run P w=.ok v w∧VR p (one vs) v:=by
 obtain⟨e1,e2,vs',h1,h2⟩:=Qkm (P:=P) hs hr (g:=fun
  | .tmp t=>pure (a.tmps.getD t undef)
  | .cell b t=>do loadVar t (← asAddr (a.tmps.getD b undef))) (fun t=>rfl) (fun b t=>rfl) hm e
 refine⟨e1,e2,_,?_,Qmo h2⟩;unfold results;rw[Sem.run_bind,Array.mapM_eq_mapM_toList,map_eq_pure_bind,Sem.run_bind];erw [h1]
 rfl
end
end Ev
end
end Go.Proofs.YtcbkeecabcbogaaGreatDoor
