/- The evaluator's code, held against the model's: operations, -/
import Derived.Test.YtcbkeecabcbogaaGreatDoorSaa
import Derived.Test.YtcbkeecabcbogaaGreatDoorSag
import Derived.Orders
set_option linter.unusedSimpArgs false
set_option linter.unusedVariables false
namespace Go.Proofs.YtcbkeecabcbogaaGreatDoor
section
namespace Ev
open Go.RowKit
def OVPost (K:Cfg)(base:Nat→Prop)(w0:World)(p:Xb)(c0 c1:Nat)(h':Tree Q4)(r:OV)(o:Oper)(a:Act)(next:Act→World→Prop)(Q:Exit→Act→World→Prop):Prop:=
 ∀ p' w',p.le p'→Out p p' c0 c1→Rel K base w0 p' h' w'→match r with
  | .val v=>∀ v',VR p' v v'→next (a.put o.dst v') w'
  | .pan v=>∀ v',VR p' v v'→Q (.panic [{ v:=v',recovered:=false }]) a w'
  | .later g args=>∀ d,DR p' (g,args) d→next ({ a with defers:=d::a.defers }.put o.dst undef) w'
  | .recover=>False
section
variable (P:Program) (K:Cfg) (base:Nat→Prop) (w0:World)
def CRR (p:Xb)(r:CR)(e:Ending):Prop:=match r,e with
 | .ret v,.returned v'=>VR p v v'
 | .pan v,.panicked ch=>∃ v',ch=[{ v:=v',recovered:=false }]∧VR p v v'
 |_,_=>False
def Qnj (f:Nat):Prop:=∀ (c:Code) (s:Loc) (h:Tree Q4) (c0:Nat) (x:XE) (s':Loc) (h':Tree Q4) (c1:Nat) (l:Log),M.Rng h c0 c1→Ji P K f c s h c0=.ok (x,s') h' c1 l→
 ∀ (p:Xb) (w:World) (a:Act) (Q:Exit→Act→World→Prop),Rel K base w0 p h w→Ac p s a→Free p c0 c1→Post K base w0 p c0 c1 h' x s' Q→wp2 P c Q a w
def OpsOK (f:Nat):Prop:=∀ (ops:Array Oper) (os:List Oper) (s:Loc) (h:Tree Q4) (c0:Nat) (x:XE) (s':Loc) (h':Tree Q4) (c1:Nat) (l:Log),M.Rng h c0 c1→Qfb P K f ops os s h c0=.ok (x,s') h' c1 l→
 ∀ (i:Nat) (p:Xb) (w:World) (a:Act) (Q:Exit→Act→World→Prop),os=ops.toList.drop i→Rel K base w0 p h w→Ac p s a→Free p c0 c1→Post K base w0 p c0 c1 h' x s' Q→wpOps P ops Q (List.range' i (ops.size-i)) a w
def OpOK (f:Nat):Prop:=∀ (o:Oper) (ρ:Env) (h:Tree Q4) (c0:Nat) (r:OV) (h':Tree Q4) (c1:Nat) (l:Log),M.Rng h c0 c1→Qjs P K f o ρ h c0=.ok r h' c1 l→
 ∀ (p:Xb) (w:World) (a:Act),Rel K base w0 p h w→EnvR p ρ a.eval→Free p c0 c1→
  (r=.recover→∃ p' w',p.le p'∧Out p p' c0 c1∧Rel K base w0 p' h' w'∧(execOp a.eval o).run P w=.ok .recover w')∧
  (r ≠ .recover→∀ (next:Act→World→Prop) (Q:Exit→Act→World→Prop),OVPost K base w0 p c0 c1 h' r o a next Q→o.wp P a w next Q)
def Qti (f:Nat):Prop:=∀ (g:FuncId) (args:List Value) (h:Tree Q4) (c0:Nat) (r:CR) (h':Tree Q4) (c1:Nat) (l:Log),M.Rng h c0 c1→Gf P K f g args h c0=.ok r h' c1 l→
 ∀ (p:Xb) (w:World) (args':Array Value),Rel K base w0 p h w→VRs p args args'.toList→Free p c0 c1→Calls P g args' w fun e w'=>∃ p',p.le p'∧Out p p' c0 c1∧Rel K base w0 p' h' w'∧CRR p' r e
end
section
variable {P:Program} {K:Cfg} {base:Nat→Prop} {w0:World}
theorem Au {p:Xb}{w:World}{h:Tree Q4}{c0 c1:Nat}{x:XE}{s:Loc}{a:Act}{Q:Exit→Act→World→Prop}(hp:Post K base w0 p c0 c1 h x s Q)(hr:Rel K base w0 p h w)(hs:LocX x p s a):XQ x p Q a w:=
 hp p w a (Xb.le_refl _) Out.rfl hr hs
theorem Eb {β γ:Type}{m:M Q4 β}{f:β→M Q4 γ}{h:Tree Q4}{c:Nat}{y:γ}{h2:Tree Q4}{c2:Nat}{l:Log}(e:M.bind m f h c=.ok y h2 c2 l)(hd:M.Rng h c c2)(hm:M.Local m)(hf:∀ x,M.Local (f x)):
  ∃ x h1 c1 l1 l2,m h c=.ok x h1 c1 l1∧f x h1 c1=.ok y h2 c2 l2∧M.Rng h c c1∧M.Rng h1 c1 c2∧c≤c1∧c1≤c2:=by
 obtain⟨x,h1,c1,l1,l2,e1,e2⟩:=Qr e;obtain⟨hc1,A⟩:=hm _ _ _ _ _ _ e1;have hc2:=(hf x _ _ _ _ _ _ e2).1;exact⟨x,h1,c1,l1,l2,e1,e2,hd.first hc2,(A (hd.first hc2)).rest hc1 hd,hc1,hc2⟩
structure Qjq (P:Program)(K:Cfg)(base:Nat→Prop)(w0:World):Prop where
 call:∀ (g:FuncId) (args:List Value) (m:M Q4 CR),K.orc g args=some m→∀ (h:Tree Q4) (c:Nat) (r:CR) (h':Tree Q4) (c':Nat) (l:Log),M.Rng h c c'→m h c=.ok r h' c' l→
  ∀ (p:Xb) (w:World) (args':Array Value),Rel K base w0 p h w→VRs p args args'.toList→Free p c c'→Calls P g args' w fun e w'=>∃ p',p.le p'∧Out p p' c c'∧Rel K base w0 p' h' w'∧CRR p' r e
 op:∀ (o:Oper) (ρ:Env) (m:M Q4 Value),K.opx o ρ=some m→∀ (h:Tree Q4) (c:Nat) (v:Value) (h':Tree Q4) (c':Nat) (l:Log),M.Rng h c c'→m h c=.ok v h' c' l→
  ∀ (p:Xb) (w:World) (ρ':Operand→Value),Rel K base w0 p h w→EnvR p ρ ρ'→Free p c c'→U7 P K base w0 p w c c' h' (execOp ρ' o) (.val v)∨(v=undef∧U7 P K base w0 p w c c' h' (execOp ρ' o) .skip)
 loop:∀ (b:Code) (s:Loc) (m:M Q4 (XE×Loc)),K.lop b s=some m→∀ (h:Tree Q4) (c:Nat) (x:XE) (s':Loc) (h':Tree Q4) (c':Nat) (l:Log),M.Rng h c c'→m h c=.ok (x,s') h' c' l→
  ∀ (p:Xb) (w:World) (a:Act) (Q:Exit→Act→World→Prop),Rel K base w0 p h w→Ac p s a→Free p c c'→Post K base w0 p c c' h' x s' Q→wp2 P (.loop b) Q a w
theorem op_ok {f:Nat}(horc:Qjq P K base w0)(hc:Qti P K base w0 f):OpOK P K base w0 (f+1):=by
 intro o ρ h c0 r h' c1 l hd e p w a hr hρ hf;unfold Qjs at e;have L:=Yx P K f;cases hox:K.opx o ρ with
 |some m=>
  rw[hox] at e;obtain⟨v,h1,cm,l1,l2,e1,e2,hd0,-,-,-⟩:=Eb e hd (K.opl _ _ _ hox) (fun _=>M.Qi _);obtain⟨rfl,rfl,rfl⟩:=Qn e2;refine⟨fun h=>(by cases h),fun _ next Q hp=>?_⟩;rcases horc.op _ _ _ hox _ _ _ _ _ _ hd0 e1 p w a.eval hr hρ hf with ⟨p',w',y,k1,⟨v',rfl,k2⟩,k3,k4,k5⟩|⟨rfl,p',w',y,k1,k2,k3,k4,k5⟩
  ·unfold Oper.wp;rw[k1,Oper.upon_value];exact hp p' w' k4 k5 k3 _ k2
  ·unfold Oper.wp;rw[k1,k2,Oper.upon_skip];exact hp p' w' k4 k5 k3 _ Fg
 |none=>
 rw[hox] at e;have LC:∀ g args,M.Local (match K.orc g args with|some m=>m|none=>Gf P K f g args):=fun g args=>by
  split
  ·rename_i m hm;exact K.loc _ _ _ hm
  ·exact L.call _ _
 obtain⟨x,h1,cm,l1,l2,e1,e2,-,hd1,hcm,hc2⟩:=Eb e hd (Qi0 _ _) (fun r=>by
  try dsimp only
  split
  ·exact M.Qi _
  ·exact M.Qi _
  ·refine M.Qh (LC _ _) fun r=>?_
   split <;> exact M.Qi _
  ·exact M.Qi _
  ·exact M.Qi _
  ·exact M.Qi _)
 cases x with
 |val v=>
  obtain⟨rfl,rfl,rfl⟩:=Qn e2;refine⟨fun h=>(by cases h),fun _ next Q hp=>?_⟩;obtain⟨p',w',y,k1,⟨v',rfl,k2⟩,k3,k4,k5⟩:=Qfd (P:=P) e1 hρ hr hf;unfold Oper.wp;rw[k1,Oper.upon_value];exact hp p' w' k4 k5 k3 _ k2
 |skip=>
  obtain⟨rfl,rfl,rfl⟩:=Qn e2;refine⟨fun h=>(by cases h),fun _ next Q hp=>?_⟩;obtain⟨p',w',y,k1,k2,k3,k4,k5⟩:=Qfd (P:=P) e1 hρ hr hf;unfold Oper.wp;rw[k1,k2,Oper.upon_skip];exact hp p' w' k4 k5 k3 _ Fg
 |defer g args=>
  obtain⟨rfl,rfl,rfl⟩:=Qn e2;refine⟨fun h=>(by cases h),fun _ next Q hp=>?_⟩;obtain⟨p',w',y,k1,⟨ys,cap,rfl,k2⟩,k3,k4,k5⟩:=Qfd (P:=P) e1 hρ hr hf;unfold Oper.wp;rw[k1,Oper.upon_defer];exact hp p' w' k4 k5 k3 _ ⟨ys,cap,rfl,k2⟩
 |panic v=>
  obtain⟨rfl,rfl,rfl⟩:=Qn e2;refine⟨fun h=>(by cases h),fun _ next Q hp=>?_⟩;obtain⟨v',k1,k2,k3,rfl⟩:=Qfd (P:=P) e1 hρ hr hf;unfold Oper.wp;rw[k1,Oper.upon_panic];exact hp p w (Xb.le_refl _) Out.rfl k3 v' k2
 |recover=>
  obtain⟨rfl,rfl,rfl⟩:=Qn e2;refine⟨fun _=>?_,fun h=>absurd rfl h⟩;obtain⟨p',w',y,k1,k2,k3,k4,k5⟩:=Qfd (P:=P) e1 hρ hr hf;exact⟨p',w',k4,k5,k3,by rw[k1,k2]⟩
 |enter g args=>
  dsimp only at e2;obtain⟨rr,h2,c2,l3,l4,e3,e4⟩:=Qr e2;obtain⟨hc1,hh1⟩:c1=c2∧h'=h2:=by
   cases rr with
   |ret v=>obtain⟨-,k1,k2⟩:=Qn e4;exact⟨k2,k1⟩
   |pan v=>obtain⟨-,k1,k2⟩:=Qn e4;exact⟨k2,k1⟩
  subst hc1;subst hh1;have hcall:∀ (p:Xb) (w:World) (args':Array Value),Rel K base w0 p h1 w→VRs p args args'.toList→Free p cm c1→Calls P g args' w fun e w'=>∃ p',p.le p'∧Out p p' cm c1∧Rel K base w0 p' h' w'∧CRR p' rr e:=by
   cases hk:K.orc g args with
   |some m=>rw[hk] at e3;exact horc.call _ _ _ hk _ _ _ _ _ _ hd1 e3
   |none=>rw[hk] at e3;exact hc _ _ _ _ _ _ _ _ hd1 e3
  have key:∀ (next:Act→World→Prop) (Q:Exit→Act→World→Prop),
    (∀ p' w' e,p.le p'→Out p p' c0 c1→Rel K base w0 p' h' w'→CRR p' rr e→match e with
     | .returned v=>next (a.put o.dst v) w'
     | .panicked ch=>Q (.panic ch) a w'
     | .outgrown=>LetsOut Q)→o.wp P a w next Q:=by
   intro next Q hq;obtain⟨p',w',y,k1,⟨ys,rfl,k2⟩,k3,k4,k5⟩:=Qfd (P:=P) e1 hρ hr (hf.first hc2);unfold Oper.wp;rw[k1,Oper.upon_enter];refine(hcall p' w' ys k3 k2 (hf.later hcm k5)).mono ?_;rintro e w'' ⟨p'',q1,q2,q3,q4⟩
   have:=hq p'' w'' e (Xb.le_trans k4 q1) (Out.trans hcm hc2 k5 q2) q3 q4;cases e <;> exact this
  cases rr with
  |ret v=>
   obtain⟨rfl,-,-⟩:=Qn e4;refine⟨fun h=>(by cases h),fun _ next Q hp=>key next Q fun p' w' e q1 q2 q3 q4=>?_⟩;cases e with
   |returned v'=>exact hp p' w' q1 q2 q3 v' q4
   |panicked=>exact q4.elim
   |outgrown=>exact q4.elim
  |pan v=>
   obtain⟨rfl,-,-⟩:=Qn e4;refine⟨fun h=>(by cases h),fun _ next Q hp=>key next Q fun p' w' e q1 q2 q3 q4=>?_⟩;cases e with
   |returned v'=>exact q4.elim
   |panicked ch=>
    obtain⟨v',rfl,q5⟩:=q4;exact hp p' w' q1 q2 q3 v' q5
   |outgrown=>exact q4.elim
theorem Ac.later {p:Xb}{s:Loc}{a:Act}{g:FuncId}{args:List Value}{d:Deferred}(hs:Ac p s a)(hd:DR p (g,args) d):Ac p (s.later (g,args)) { a with defers:=d::a.defers }:=by
 obtain⟨tm,n,ds⟩:=s;exact⟨hs.tm,hs.n,.cons hd hs.ds⟩
theorem Qfw {ops:Array Oper}{o:Oper}{os:List Oper}{i:Nat}(hi:o::os=ops.toList.drop i):ops[i]? = some o∧os=ops.toList.drop (i+1)∧ops.size-i=(ops.size-(i+1))+1:=by
 have h1:ops.toList[i]? = some o:=by
  have:=congrArg (·[0]?) hi;simpa using this.symm
 have h2:i<ops.size:=by simpa using (List.getElem?_eq_some_iff.1 h1).1
 refine⟨by simpa using h1,?_,by omega⟩
 have:=congrArg List.tail hi;simpa using this
theorem Qms {ops:Array Oper}{i:Nat}(hi:[]=ops.toList.drop i):ops.size-i=0:=by
 have:=congrArg List.length hi;simp at this;omega
theorem ops_ok {f:Nat}(ho:OpOK P K base w0 f)(hos:OpsOK P K base w0 f):OpsOK P K base w0 (f+1):=by
 intro ops os s h c0 x s' h' c1 l hd e i p w a Q hi hr hs hf hp;unfold Qfb at e;have L:=Yx P K f;cases os with
 |nil=>
  obtain⟨e3,rfl,rfl⟩:=Qn e;cases e3;rw[Qms hi];exact Au hp hr hs
 |cons o os=>
  obtain⟨g1,g2,g3⟩:=Qfw hi;rw[g3,List.range'_succ];dsimp only at e;cases hw:Qcb ops s o with
  |none=>rw[hw] at e;cases e
  |some q=>
  cases q with
  |true=>
   rw[hw] at e;try dsimp only at e
   simp only[wpOps,g1,Aj hs hw,if_true];refine .inl ?_
   obtain⟨r,h1,cm,l1,l2,e1,e2,hd0,hd1,hcm,hc2⟩:=Eb e hd (L.op _ _) (fun r=>by
    try dsimp only
    split
    ·exact L.ops _ _ _
    ·exact M.Qi _
    ·exact L.ops _ _ _
    ·exact M.Qe)
   obtain⟨-,k2⟩:=ho _ _ _ _ _ _ _ _ hd0 e1 p w a hr (envR hr hs) (hf.first hc2);cases r with
   |val v=>
    refine k2 Ds _ _ fun p' w' q1 q2 q3 v' q4=>?_
    exact hos _ _ _ _ _ _ _ _ _ _ hd1 e2 (i+1) p' w' _ Q g2 q3 ((hs.mono q1).put q4 _) (hf.later hcm q2) (hp.later hcm hc2 q1 q2)
   |later g args=>
    refine k2 Ds _ _ fun p' w' q1 q2 q3 d q4=>?_
    exact hos _ _ _ _ _ _ _ _ _ _ hd1 e2 (i+1) p' w' _ Q g2 q3 (((hs.mono q1).later q4).put Fg _) (hf.later hcm q2) (hp.later hcm hc2 q1 q2)
   |pan v=>
    obtain⟨e3,rfl,rfl⟩:=Qn e2;cases e3;refine k2 Ds _ _ fun p' w' q1 q2 q3 v' q4=>?_
    exact hp p' w' a q1 q2 q3 (hs.mono q1).toL v' q4
   |recover=>cases e2
  |false=>
   rw[hw] at e;try dsimp only at e
   simp only[wpOps,g1,Aj hs hw];exact hos _ _ _ _ _ _ _ _ _ _ hd e (i+1) p w _ Q g2 hr (hs.put Fg _) hf hp
end
end Ev
end
section
namespace Ev
open Go.RowKit
def Ju {β:Type}(W:Nat→Option β)(D:Nat→Bool)(x:β):Nat→β
 |0=>x
 |n+1=>if D n then (W n).getD (Ju W D x n) else Ju W D x n
theorem Wu {β:Type}{W:Nat→Option β}{D:Nat→Bool}{x:β}:∀ m:Nat,(∀ i,i<m→W i≠none→D i=true)→Ju W D x m=Ju W (fun _=>true) x m
 |0,_=>rfl
 |m+1,h=>by
  have ih:=Wu (x:=x) m fun i hi=>h i Dw
  unfold Ju;rw[ih,if_pos rfl];split
  ·rfl
  ·rename_i hd;cases hw:W m with
   |none=>rfl
   |some y=>exact absurd (h m Dw (by rw[hw];simp)) hd
theorem Qbj {β:Type}{W:Nat→Option β}{D:Nat→Bool}{x:β}{j:Nat}:∀ n:Nat,j≤n→(∀ i,i<n→W i≠none→(D i=true↔i<j))→Ju W D x n=Ju W (fun _=>true) x j
 |n,hj,h=>by
  by_cases e:j=n
  ·subst e;exact Wu j fun i hi hw=>(h i hi hw).2 hi
  ·cases n with
   |zero=>omega
   |succ n=>
    have ih:=Qbj (x:=x) n (by omega:j≤n) fun i hi=>h i Dw
    rw[←ih];conv=>lhs;unfold Ju
    split
    ·rename_i hd;cases hw:W n with
     |none=>rfl
     |some y=>
      have:=(h n Dw (by rw[hw];simp)).1 hd;omega
    ·rfl
theorem Qi5 {β:Type}{W:Nat→Option β}{D D':Nat→Bool}{x:β}:∀ n:Nat,(∀ i,i<n→D' i=D i)→Ju W D' x n=Ju W D x n
 |0,_=>rfl
 |n+1,h=>by
  unfold Ju;rw[Qi5 n fun i hi=>h i Dw,h n Dw]
theorem Mc {β:Type}{W:Nat→Option β}{D D':Nat→Bool}{x:β}{j:Nat}(hD:∀ i,i≠j→D' i=D i)(hj':D' j=true)(hj:D j=false):∀ n:Nat,j<n→(∀ i,i<n→D i=true→W i≠none→W j≠none→i<j)→
  Ju W D' x n=(W j).getD (Ju W D x n)
 |0,h,_=>by omega
 |n+1,h,hi=>by
  by_cases e:j=n
  ·subst e;unfold Ju;rw[hj',hj,if_pos rfl,Qi5 j fun i hi=>hD i Dw];rfl
  ·have ih:=Mc (x:=x) hD hj' hj n Dw fun i h1=>hi i Dw
   unfold Ju;rw[ih,hD n Dw];split
   ·rename_i hd;cases hw:W n with
    |none=>rfl
    |some y=>
     cases hv:W j with
     |none=>rfl
     |some z=>
      have:=hi n Dw hd (by rw[hw];simp) (by rw[hv];simp);omega
   ·rfl
theorem Qdx {T:Tree Nat}{i:Nat}:∀ (es:List Edge) (m:Nat),(Qiu T es m).testBit i=true→m.testBit i=true∨∃ e∈es,Region.binds .any e=true∧(e.on=i∨∃ m',T.get e.on=some m'∧m'.testBit i=true)
 | [],m,h => .inl h
 |e::es,m,h=>by
  unfold Qiu at h;split at h
  ·rename_i hb;rcases Qdx es _ h with h|⟨e',h1,h2,h3⟩
   ·rw[Nat.testBit_or,Nat.testBit_or,Bool.or_eq_true,Bool.or_eq_true] at h;rcases h with (h|h)|h
    ·exact .inl h
    ·exact .inr ⟨e,by simp,hb,.inl (M.Qf5 h)⟩
    ·cases hT:T.get e.on with
     |none=>rw[hT] at h;simp at h
     |some m'=>rw[hT] at h;exact .inr ⟨e,by simp,hb,.inr ⟨m',hT,h⟩⟩
   ·exact .inr ⟨e',by simp[h1],h2,h3⟩
  ·rcases Qdx es _ h with h|⟨e',h1,h2,h3⟩
   ·exact .inl h
   ·exact .inr ⟨e',by simp[h1],h2,h3⟩
theorem Qit:∀ (os:List Oper) (j:Nat) (T:Tree Nat) (pre:List Nat),pre.length=j→(∀ i,T.get i=if i<j then pre[i]? else none)→
  ∀ (k:Nat) (o:Oper) (m:Nat),os[k]? = some o→(masks os j T)[k]? = some m→∀ i,m.testBit i=true→∃ e∈o.after.toList,Region.binds .any e=true∧(e.on=i∨∃ m',(pre++masks os j T)[e.on]? = some m'∧m'.testBit i=true)
 | [],_,_,_,_,_,k,o,m,h,_,_,_=>by simp at h
 |o0::os,j,T,pre,hl,hT,0,o,m,h,hm,i,hi=>by
  simp at h;subst h;rw[masks,force_eq] at hm;simp at hm;subst hm;rcases Qdx _ _ hi with h|⟨e,h1,h2,h3⟩
  ·simp at h
  ·refine⟨e,h1,h2,h3.imp id ?_⟩;rintro⟨m',h4,h5⟩;refine⟨m',?_,h5⟩;rw[hT] at h4;split at h4
   ·rw[List.getElem?_append_left Dw];exact h4
   ·cases h4
 |o0::os,j,T,pre,hl,hT,k+1,o,m,h,hm,i,hi=>by
  simp only[List.getElem?_cons_succ] at h;have e0:masks (o0::os) j T=Qiu T o0.after.toList 0::masks os (j+1) (T.set j (some (Qiu T o0.after.toList 0))):=by rw[masks,force_eq]
  rw[e0] at hm;simp only[List.getElem?_cons_succ] at hm
  obtain⟨e,h1,h2,h3⟩:=Qit os (j+1) _ (pre++[Qiu T o0.after.toList 0]) (by simp[hl]) (fun x=>by
   rw[Tree.Qu];by_cases hx:x=j
   ·subst hx;rw[if_pos rfl,if_pos Dw,List.getElem?_append_right Dw,hl];simp
   ·rw[if_neg hx,hT];by_cases hx2:x<j
    ·rw[if_pos hx2,if_pos Dw,List.getElem?_append_left Dw]
    ·rw[if_neg hx2,if_neg Dw]) k o m h hm i hi
  refine⟨e,h1,h2,h3.imp id ?_⟩;rw[e0];simp[List.append_assoc]
theorem Et {ts us:List Nat}(h:meets ts us=false):∀ t,t∈ts→t ∉ us:=by
 induction ts with
 |nil=>intro t ht;simp at ht
 |cons a ts ih=>
  unfold meets at h;rw[Bool.or_eq_false_iff] at h;intro t ht hu;rcases List.mem_cons.1 ht with rfl|ht
  ·have:=h.1;rw[List.any_eq_false] at this;exact this t hu Ds
  ·exact ih h.2 t ht hu
def Qay (ops:Array Oper)(oi oj:Oper):Prop:=(∀ t,oi.dst=some t→t ∉ slotsOf ops oj)∧∀ t,oj.dst=some t→t ∉ slotsOf ops oi
theorem Qe1 {ops:Array Oper}{j:Oper}{m:Nat}:∀ (l:List Oper) (i:Nat),Qc2 ops j m l i=true→∀ (k:Nat) (o:Oper),l[k]? = some o→m.testBit (i+k)=true∨Qay ops o j
 | [],_,_,k,o,h=>by simp at h
 |o0::os,i,h,k,o,hk=>by
  unfold Qc2 at h;rw[Bool.and_eq_true] at h;cases k with
  |zero=>
   simp at hk;subst hk;have h1:=h.1;simp only[Bool.or_eq_true,Bool.and_eq_true,Bool.not_eq_true'] at h1;rcases h1 with h1|⟨h1,h2⟩
   ·exact .inl h1
   ·exact .inr ⟨fun t ht=>Et h1 t (by simp[ht]),fun t ht=>Et h2 t (by simp[ht])⟩
  |succ k=>
   rw[show i+(k+1)=i+1+k by omega];exact Qe1 os (i+1) h.2 k o (by simpa using hk)
theorem Qf4 {ops:Array Oper}:∀ (os:List Oper) (ms:List Nat) (j:Nat),Qeo ops os ms j=true→∀ (k:Nat) (o:Oper),os[k]? = some o→
  (∀ e∈o.after.toList,Region.binds .any e=true→e.on<j+k)∧∃ m,ms[k]? = some m∧∀ (i:Nat) (oi:Oper),i<j+k→ops[i]? = some oi→m.testBit i=true∨Qay ops oi o
 | [],_,_,_,k,o,h=>by simp at h
 |_::_,[],_,h,_,_,_=>by unfold Qeo at h;cases h
 |o0::os,m::ms,j,h,k,o,hk=>by
  unfold Qeo at h;simp only[Bool.and_eq_true] at h;obtain⟨h1,h2,h3⟩:=h;cases k with
  |zero=>
   simp at hk;subst hk;refine⟨fun e he hb=>?_,m,by simp,fun i oi hi ho=>?_⟩
   ·unfold Qs0 at h1
    have:=List.all_eq_true.1 h1 e he;simp only[hb,Bool.not_true,Bool.false_or] at this;have h5:e.on+1≤j:=by simpa [Nat.blt] using this
    show e.on<j
    omega
   ·have:=Qe1 _ 0 h2 i oi (by rw[List.getElem?_take,if_pos Dw];simpa using ho);simpa using this
  |succ k=>
   obtain⟨g1,m',g2,g3⟩:=Qf4 os ms (j+1) h3 k o (by simpa using hk);refine⟨fun e he hb=>?_,m',by simpa using g2,fun i oi hi ho=>g3 i oi Dw ho⟩
   have:=g1 e he hb;omega
noncomputable def msOf (ops:Array Oper):List Nat:=masks ops.toList 0 .leaf
noncomputable def mk (ops:Array Oper)(k:Nat):Nat:=(msOf ops).getD k 0
theorem leaf_get {α:Type}(i:Nat):(Tree.leaf:Tree α).get i=none:=rfl
theorem mk_bit {ops:Array Oper}{k i:Nat}{o:Oper}(ho:ops[k]? = some o)(h:(mk ops k).testBit i=true):∃ e∈o.after.toList,Region.binds .any e=true∧(e.on=i∨(mk ops e.on).testBit i=true):=by
 unfold mk at h;rw[List.getD_eq_getElem?_getD] at h;cases hm:(msOf ops)[k]? with
 |none=>rw[hm] at h;simp at h
 |some m=>
  rw[hm] at h;obtain⟨e,h1,h2,h3⟩:=Qit ops.toList 0 .leaf [] rfl (fun i=>by rw[leaf_get];simp) k o m (by simpa using ho) hm i h;refine⟨e,h1,h2,h3.imp id ?_⟩;rintro⟨m',h4,h5⟩;unfold mk;rw[List.getD_eq_getElem?_getD];have:(msOf ops)[e.on]? = some m':=by simpa [msOf] using h4
  rw[this];exact h5
theorem Qen {ops:Array Oper}(h:Qm5 ops=true){k:Nat}{o:Oper}(ho:ops[k]? = some o):
  (∀ e∈o.after.toList,Region.binds .any e=true→e.on<k)∧(msOf ops)[k]? = some (mk ops k)∧∀ (i:Nat) (oi:Oper),i<k→ops[i]? = some oi→(mk ops k).testBit i=true∨Qay ops oi o:=by
 obtain⟨h1,m,h2,h3⟩:=Qf4 _ _ 0 h k o (by simpa using ho);have e:mk ops k=m:=by
  unfold mk;rw[List.getD_eq_getElem?_getD];show ((masks ops.toList 0 .leaf)[k]?).getD 0=m
  rw[h2];rfl
 refine⟨fun e he hb=>by have:=h1 e he hb;omega,?_,fun i oi hi hoi=>?_⟩
 ·rw[e];exact h2
 ·rw[e];exact h3 i oi Dw hoi
def H7 (a b:Log):Prop:=(∀ i,a.w.testBit i=true→b.t.testBit i=true→False)∧∀ i,a.t.testBit i=true→b.w.testBit i=true→False
theorem Qi6 {a b:Nat}(h:Nat.beq (Nat.land a b) 0=true):∀ i,a.testBit i=true→b.testBit i=true→False:=fun i h1 h2=>by
 have h0:a &&& b=0:=Nat.eq_of_beq_eq_true h;have:(a &&& b).testBit i=true:=by rw[Nat.testBit_and,h1,h2];rfl
 rw[h0] at this;simp at this
theorem E8 {m:Nat}{l:Log}:∀ {d:List (Nat×Log)},clash m l d=false→∀ x∈d,m.testBit x.1=false→H7 x.2 l
 | [],_,x,hx,_=>by simp at hx
 |(i,k)::d,h,x,hx,hm=>by
  unfold clash at h;rw[Bool.or_eq_false_iff] at h;rcases List.mem_cons.1 hx with rfl|hx
  ·have h1:=h.1;rw[hm] at h1;simp only[Bool.false_eq_true,if_false,Bool.not_eq_false',Bool.and_eq_true] at h1;exact⟨Qi6 h1.1,Qi6 h1.2⟩
  ·exact E8 h.2 x hx hm
theorem Qbc (a:Log):H7 a .no∧H7 .no a:=by
 refine⟨⟨fun i _ h=>?_,fun i _ h=>?_⟩,⟨fun i h _=>?_,fun i h _=>?_⟩⟩ <;> simp[Log.no] at h
end Ev
end
section
namespace Ev
open Go.RowKit
section
variable (P:Program) (K:Cfg)
def Step1 (F:Nat)(ops:Array Oper)(o:Oper)(s s':Loc)(h h':Tree Q4)(c c':Nat)(l:Log)(v:Value):Prop:=
 s'=s.put o.dst v∧((Qcb ops s o=some true∧∃ g,g<F∧Qjs P K g o (Po K s) h c=.ok (.val v) h' c' l)∨
  (Qcb ops s o=some false∧v=undef∧h'=h∧c'=c∧l=.no))
def StepP (pn:Option (Nat×Nat×Value))(F:Nat)(ops:Array Oper)(k:Nat)(o:Oper)(s s':Loc)(h h':Tree Q4)(c c':Nat)(l:Log)(v:Value):Prop:=
 s'=s.put o.dst v∧Qcb ops s o=some true∧∃ m u,pn=some (k,m,u)∧∃ g,g<F∧Qjs P K g o (Po K s) h c=.ok (.pan u) h' c' l
def StepS (pn:Option (Nat×Nat×Value))(ops:Array Oper)(k:Nat)(o:Oper)(s s':Loc)(h h':Tree Q4)(c c':Nat)(l:Log)(v:Value):Prop:=
 s'=s.put o.dst v∧(∃ n m u,pn=some (n,m,u)∧(mk ops k).testBit n=true)∧h'=h∧c'=c∧l=.no
def StepX (pn:Option (Nat×Nat×Value))(F:Nat)(ops:Array Oper)(k:Nat)(o:Oper)(s s':Loc)(h h':Tree Q4)(c c':Nat)(l:Log)(v:Value):Prop:=
 ((∀ y,pn=some y→y.1≠k)∧Step1 P K F ops o s s' h h' c c' l v)∨StepP P K pn F ops k o s s' h h' c c' l v∨StepS pn ops k o s s' h h' c c' l v
structure Tr (pn:Option (Nat×Nat×Value))(F:Nat)(ops:Array Oper)(i:Nat)(done:List (Nat×Log))(s:Loc)(h:Tree Q4)(c:Nat)(S:Nat→Loc)(H:Nat→Tree Q4)(C:Nat→Nat)(L:Nat→Log)(V:Nat→Value):Prop where
 s0:S i=s
 h0:H i=h
 c0:C i=c
 step:∀ k,i≤k→k<ops.size→∃ o,ops[k]? = some o∧StepX P K pn F ops k o (S k) (S (k+1)) (H k) (H (k+1)) (C k) (C (k+1)) (L k) (V k)
 old:∀ k,i≤k→k<ops.size→∀ x∈done,(mk ops k).testBit x.1=false→H7 x.2 (L k)
 new:∀ j k,i≤j→j<k→k<ops.size→(mk ops k).testBit j=false→H7 (L j) (L k)
def NewW (a b w:Nat):Prop:=∀ k,w.testBit k=true→a≤k∧k<b
theorem isNew_ok {a b w:Nat}(h:isNew a b w=true):NewW a b w:=fun k hk=>by
 unfold isNew at h;rw[Bool.and_eq_true] at h;have h1:=Nat.eq_of_beq_eq_true h.1;have h2:w<2 ^ b:=Nat.le_of_ble_eq_true h.2;constructor
 ·rcases Nat.lt_or_ge k a with hlt|hge
  ·have h3:=Nat.testBit_mod_two_pow w a k;rw[h1,hk,decide_eq_true hlt] at h3;simp at h3
  ·exact hge
 ·rcases Nat.lt_or_ge k b with hlt|hge
  ·exact hlt
  ·have:=Nat.testBit_lt_two_pow (Nat.lt_of_lt_of_le h2 (Nat.pow_le_pow_right Dd hge));rw[hk] at this;cases this
theorem newW_no {a b:Nat}:NewW a b Log.no.w:=fun k hk=>by simp[Log.no] at hk
def QuietTo (ops:Array Oper)(a b n i:Nat)(done:List (Nat×Log))(L:Nat→Log):Prop:=
 (∀ x∈done,x.1≠n→(mk ops n).testBit x.1=false→NewW a b x.2.w)∧∀ j,i≤j→j<ops.size→j≠n→(mk ops n).testBit j=false→NewW a b (L j).w
def Fin1 (pn:Option (Nat×Nat×Value))(c0:Nat)(ops:Array Oper)(i:Nat)(done:List (Nat×Log))(x:XE)(s':Loc)(h':Tree Q4)(c':Nat)(S:Nat→Loc)(H:Nat→Tree Q4)(C:Nat→Nat)(L:Nat→Log):Prop:=
 S ops.size=s'∧H ops.size=h'∧C ops.size=c'∧((pn=none∧x=.normal)∨∃ n m u,pn=some (n,m,u)∧n<ops.size∧x=.panic u (dstsOf ops)∧QuietTo ops c0 c' n i done L)
theorem Qdn {a b n m:Nat}:∀ {d:List (Nat×Log)},Qcq a b n m d=true→∀ x∈d,x.1≠n→m.testBit x.1=false→NewW a b x.2.w
 | [],_,x,hx,_,_=>by simp at hx
 |(i,k)::d,h,x,hx,hn,hm=>by
  unfold Qcq at h;rw[Bool.and_eq_true] at h;rcases List.mem_cons.1 hx with rfl|hx
  ·have h1:=h.1;rw[hm,Bool.false_or,Bool.or_eq_true] at h1;rcases h1 with h1|h1
   ·exact absurd (Nat.eq_of_beq_eq_true h1) hn
   ·exact isNew_ok h1
  ·exact Qdn h.2 x hx hn hm
theorem Wx {ops:Array Oper}:∀ (f:Nat) (os:List Oper) (ms:List Nat) (i:Nat) (done:List (Nat×Log)) (pn0:Option (Nat×Nat×Value)) (c0:Nat) (s:Loc) (h:Tree Q4) (c:Nat) (x:XE) (s':Loc) (h':Tree Q4) (c':Nat) (l:Log),
  Jp P K f ops os ms i done pn0 c0 s h c=.ok (x,s') h' c' l→os=ops.toList.drop i→ms=(msOf ops).drop i→i≤ops.size→(∀ n m u,pn0=some (n,m,u)→m=mk ops n∧n<i)→
  ∃ pn S H C L V,((∀ y,pn0=some y→pn=some y)∧(pn0=none→∀ y,pn=some y→i≤y.1))∧Tr P K pn f ops i done s h c S H C L V∧Fin1 pn c0 ops i done x s' h' c' S H C L
 |0,_,_,_,_,_,_,_,_,_,_,_,_,_,_,e,_,_,_,_=>by unfold Jp at e;cases e
 |f+1,os,ms,i,done,pn0,c0,s,h,c,x,s',h',c',l,e,hos,hms,hi,hpn=>by
  unfold Jp at e;cases os with
  |nil=>
   have hz:=Qms hos;obtain rfl:i=ops.size:=by omega
   cases pn0 with
   |none=>
    obtain⟨e3,rfl,rfl⟩:=Qn e;cases e3;exact⟨none,fun _=>s,fun _=>h',fun _=>c',fun _ => .no,fun _=>undef,⟨fun _ hy=>hy,fun _ _ hy=>by cases hy⟩,⟨rfl,rfl,rfl,fun k h1 h2=>by omega,fun k h1 h2=>by omega,fun j k h1 h2 h3=>by omega⟩,⟨rfl,rfl,rfl,.inl ⟨rfl,rfl⟩⟩⟩
   |some y=>
    obtain⟨n,m,u⟩:=y;dsimp only at e;split at e
    ·rename_i hq;cases e;obtain⟨rfl,hn⟩:=hpn n m u rfl;exact⟨some (n,mk ops n,u),fun _=>s,fun _=>h,fun _=>c,fun _ => .no,fun _=>undef,⟨fun _ hy=>hy,fun hy=>by cases hy⟩,⟨rfl,rfl,rfl,fun k h1 h2=>by omega,fun k h1 h2=>by omega,fun j k h1 h2 h3=>by omega⟩,⟨rfl,rfl,rfl,.inr ⟨n,mk ops n,u,rfl,hn,rfl,Qdn hq,fun j h1 h2=>by omega⟩⟩⟩
    ·cases e
  |cons o os=>
   obtain⟨g1,g2,g3⟩:=Qfw hos;have hisz:i<ops.size:=(Array.getElem?_eq_some_iff.1 g1).1;cases ms with
   |nil=>cases e
   |cons m ms=>
    have hm:(msOf ops)[i]? = some m:=by
     have:=congrArg (·[0]?) hms;simpa using this.symm
    have hmk:mk ops i=m:=by
     unfold mk;rw[List.getD_eq_getElem?_getD,hm];rfl
    have hms':ms=(msOf ops).drop (i+1):=by
     have:=congrArg List.tail hms;simpa using this
    have build:∀ (pn1:Option (Nat×Nat×Value)) (hp1:∀ y,pn0=some y→pn1=some y) (hp2:pn0=none→∀ z,pn1=some z→i≤z.1) (v:Value) (h1:Tree Q4) (c1:Nat) (l0:Log) (done':List (Nat×Log)) (hst:∀ pn,(∀ y,pn1=some y→pn=some y)→(pn1=none→∀ y,pn=some y→i+1≤y.1)→StepX P K pn (f+1) ops i o s (s.put o.dst v) h h1 c c1 l0 v) (hsub:∀ y∈done,y∈done') (hin:l0=.no∨(i,l0)∈done') (hcl:∀ y∈done,(mk ops i).testBit y.1=false→H7 y.2 l0)
      (hr:∃ pn S H C L V,((∀ y,pn1=some y→pn=some y)∧(pn1=none→∀ y,pn=some y→i+1≤y.1))∧Tr P K pn f ops (i+1) done' (s.put o.dst v) h1 c1 S H C L V∧Fin1 pn c0 ops (i+1) done' x s' h' c' S H C L),∃ pn S H C L V,((∀ y,pn0=some y→pn=some y)∧(pn0=none→∀ y,pn=some y→i≤y.1))∧Tr P K pn (f+1) ops i done s h c S H C L V∧Fin1 pn c0 ops i done x s' h' c' S H C L:=by
     rintro pn1 hp1 hp2 v h1 c1 l0 done' hst hsub hin hcl ⟨pn,S,H,C,L,V,⟨hpp,hpp2⟩,T,E⟩;refine⟨pn,fun k=>if k≤i then s else S k,fun k=>if k≤i then h else H k,fun k=>if k≤i then c else C k,fun k=>if k≤i then l0 else L k,fun k=>if k≤i then v else V k,⟨fun y hy=>hpp y (hp1 y hy),fun h0 y hy=>?_⟩,?_,?_⟩
     ·cases pn1 with
      |none=>have:=hpp2 rfl y hy;omega
      |some z=>
       have:=hpp z rfl;rw[hy] at this;cases this;exact hp2 h0 _ rfl
     ·refine⟨by simp,by simp,by simp,fun k h1' h2'=>?_,fun k h1' h2' y hy hb=>?_,fun j k h1' h2' h3' hb=>?_⟩
      ·by_cases e:k=i
       ·subst e;refine⟨o,g1,?_⟩;simp only[Nat.le_refl,if_true,if_neg (show ¬ k+1≤k by omega),T.s0,T.h0,T.c0];exact hst pn hpp hpp2
       ·obtain⟨o',q1,q2⟩:=T.step k Dw h2';refine⟨o',q1,?_⟩;simp only[if_neg (show ¬ k≤i by omega),if_neg (show ¬ k+1≤i by omega)];rcases q2 with ⟨q0,q2,q3⟩|⟨q2,q3,m',u',q4,g,q5,q6⟩|q2
        ·exact .inl ⟨q0,q2,q3.imp (fun ⟨a,g,b,c⟩=>⟨a,g,by omega,c⟩) id⟩
        ·exact .inr (.inl ⟨q2,q3,m',u',q4,g,by omega,q6⟩)
        ·exact .inr (.inr q2)
      ·by_cases e:k=i
       ·subst e;simp only[Nat.le_refl,if_true];exact hcl y hy hb
       ·simp only[if_neg (show ¬ k≤i by omega)];exact T.old k Dw h2' y (hsub y hy) hb
      ·simp only[if_neg (show ¬ k≤i by omega)];by_cases e:j=i
       ·subst e;simp only[Nat.le_refl,if_true];rcases hin with rfl|hin
        ·exact(Qbc _).2
        ·exact T.old k Dw h3' _ hin hb
       ·simp only[if_neg (show ¬ j≤i by omega)];exact T.new j k Dw h2' h3' hb
     ·have hn:¬ ops.size≤i:=by omega
      obtain⟨q1,q2,q3,q4⟩:=E;refine⟨by simp only[if_neg hn];exact q1,by simp only[if_neg hn];exact q2,by simp only[if_neg hn];exact q3,?_⟩;rcases q4 with q4|⟨n,m',u',k1,k2,k3,k4,k5⟩
      ·exact .inl q4
      ·refine .inr ⟨n,m',u',k1,k2,k3,fun y hy hb=>k4 y (hsub y hy) hb,fun j h1' h2' h3' hb=>?_⟩;by_cases e:j=i
       ·subst e;simp only[Nat.le_refl,if_true];rcases hin with rfl|hin
        ·exact newW_no
        ·exact k4 _ hin h3' hb
       ·simp only[if_neg (show ¬ j≤i by omega)];exact k5 j Dw h2' h3' hb
    have none_some:pn0=none→∀ z,pn0=some z→i≤z.1:=fun h1 z h2=>by rw[h1] at h2;cases h2
    have hpn':∀ n m u,pn0=some (n,m,u)→m=mk ops n∧n<i+1:=fun n m u hy=>⟨(hpn n m u hy).1,Nat.lt_succ_of_lt (hpn n m u hy).2⟩
    have away:∀ {pn:Option (Nat×Nat×Value)},(∀ y,pn0=some y→pn=some y)→(pn0=none→∀ y,pn=some y→i+1≤y.1)→∀ y,pn=some y→y.1≠i:=fun {pn} hp hp' y hy=>by
     cases h0:pn0 with
     |none=>have:=hp' h0 y hy;omega
     |some z=>
      have h1:=hp z h0;rw[hy] at h1;cases h1
      have:=(hpn y.1 y.2.1 y.2.2 h0).2;omega
    dsimp only at e;by_cases hbh:behind m pn0=true
    ·rw[if_pos hbh] at e;refine build pn0 (fun _ hy=>hy) none_some undef h c .no done (fun pn hp hp' => .inr (.inr ⟨rfl,?_,rfl,rfl,rfl⟩)) (fun y hy=>hy) (.inl rfl) (fun y hy hb=>(Qbc _).1)
      (Wx f os ms (i+1) _ _ _ _ _ _ _ _ _ _ _ e g2 hms' Dw hpn')
     cases pn0 with
     |none=>cases hbh
     |some y=>exact⟨y.1,y.2.1,y.2.2,hp y rfl,by rw[hmk];exact hbh⟩
    rw[if_neg hbh] at e;cases hw:Qcb ops s o with
    |none=>rw[hw] at e;cases e
    |some q=>
    cases q with
    |true=>
     rw[hw] at e;try dsimp only at e
     cases ev:Qjs P K f o (Po K s) h c with
     |no=>rw[ev] at e;cases e
     |ok r h1 c1 l1=>
      rw[ev] at e;cases r with
      |val v=>
       dsimp only at e;by_cases hc:clash m l1 done=true
       ·rw[if_pos hc] at e;cases e
       ·rw[if_neg hc] at e;cases ed:Jp P K f ops os ms (i+1) ((i,l1)::done) pn0 c0 (s.put o.dst v) h1 c1 with
        |no=>rw[ed] at e;cases e
        |ok q2 h2 c2 l2=>
         obtain⟨x2,s2⟩:=q2;rw[ed] at e;cases e;exact build pn0 (fun _ hy=>hy) none_some v h1 c1 l1 ((i,l1)::done) (fun pn hp hp' => .inl ⟨away hp hp',rfl,.inl ⟨hw,f,by omega,ev⟩⟩) (fun y hy=>by simp[hy]) (.inr Ds) (fun y hy hb=>E8 (by simpa using hc) y hy (by rw[←hmk];exact hb))
          (Wx f os ms (i+1) _ _ _ _ _ _ _ _ _ _ _ ed g2 hms' Dw hpn')
      |pan v=>
       dsimp only at e;by_cases hc:clash m l1 done=true
       ·rw[if_pos hc] at e;cases e
       ·rw[if_neg hc] at e;cases pn0 with
        |some _=>cases e
        |none=>
         dsimp only at e;cases ed:Jp P K f ops os ms (i+1) ((i,l1)::done) (some (i,m,v)) c0 (s.put o.dst undef) h1 c1 with
         |no=>rw[ed] at e;cases e
         |ok q2 h2 c2 l2=>
          obtain⟨x2,s2⟩:=q2;rw[ed] at e;cases e;exact build (some (i,m,v)) (fun _ hy=>by cases hy) (fun _ z hz=>by cases hz;exact Nat.le_refl _) undef h1 c1 l1 ((i,l1)::done) (fun pn hp hp' => .inr (.inl ⟨rfl,hw,m,v,hp _ rfl,f,by omega,ev⟩)) (fun y hy=>by simp[hy]) (.inr Ds) (fun y hy hb=>E8 (by simpa using hc) y hy (by rw[←hmk];exact hb))
           (Wx f os ms (i+1) _ _ _ _ _ _ _ _ _ _ _ ed g2 hms' Dw (fun n m' u hy=>by cases hy;exact⟨hmk.symm,Nat.lt_succ_self _⟩))
      |_=>cases e
    |false=>
     rw[hw] at e;try dsimp only at e
     exact build pn0 (fun _ hy=>hy) none_some undef h c .no done (fun pn hp hp' => .inl ⟨away hp hp',rfl,.inr ⟨hw,rfl,rfl,rfl,rfl⟩⟩) (fun y hy=>hy) (.inl rfl) (fun y hy hb=>(Qbc _).1)
      (Wx f os ms (i+1) _ _ _ _ _ _ _ _ _ _ _ e g2 hms' Dw hpn')
end
end Ev
end
end Go.Proofs.YtcbkeecabcbogaaGreatDoor
