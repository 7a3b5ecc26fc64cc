/- The evaluator's deferred calls, held against the model's: a function's end, and the catching of its panic. No program in sight. The evaluator's code and calls, held against the model's: a call that -/
import Derived.Test.YtcbkeecabcbogaaGreatDoorGaj
import Derived.Recover
import Derived.Scope
import Derived.Below
import Derived.WalkLawsBesides
import Derived.WalkSpells
import Derived.Handy
import Derived.Lib.Hide
import Derived.Deep.QuietTactic
import Derived.BigQuiet
import Derived.Test.YtcbkeecabcbogaaGreatDoorGaa
import Derived.RowKit3
import Derived.Calls
import Derived.Test.YtcbkeecabcbogaaGreatDoorChecked
import Derived.Lib.Walk
import Derived.WalkKit
import Derived.BigCall
import Derived.BigGuard
import Derived.KernelRfl
set_option linter.unusedSimpArgs false
set_option linter.unusedVariables false
namespace Go.Proofs.YtcbkeecabcbogaaGreatDoor
namespace Ev
open Go.RowKit
def UR (p:Plan)(u:UM)(m:FrameMode):Prop:=match u,m with
 | .ret,.returning=>True
 | .pan v,.panicking ch=>∃ v',ch=[{ v:=v',recovered:=false }]∧VR p v v'
 | .caught v,.panicking ch=>∃ v',ch=[{ v:=v',recovered:=true }]∧VR p v v'
 |_,_=>False
theorem UR.mono {p q:Plan}{u:UM}{m:FrameMode}(hpq:p.le q)(h:UR p u m):UR q u m:=by
 unfold UR at h ⊢
 cases u <;> cases m <;> first
  |exact h
  |(obtain⟨v',h1,h2⟩:=h;exact⟨v',h1,h2.mono hpq⟩)
theorem UR.settle {p:Plan}{u:UM}{m:FrameMode}(h:UR p u m):UR p (settleX u) (settle m):=by
 unfold UR at h
 cases u <;> cases m <;> first
  |exact h.elim
  |trivial
  |(obtain⟨v',rfl,h2⟩:=h;exact⟨v',rfl,h2⟩)
  |(obtain⟨v',rfl,h2⟩:=h;trivial)
theorem UR.notRun {p:Plan}{u:UM}{m:FrameMode}(h:UR p u m):m ≠ .run:=by
 rintro rfl
 cases u <;> exact h
def Exit.inBlockS (id:Nat)(Q:Exit→Act→List Frame→World→Prop):Exit→Act→List Frame→World→Prop
 | .exit i,a,cs,w=>if i=id then Q .normal a cs w else Q (.exit i) a cs w
 |e,a,cs,w=>Q e a cs w
theorem wpS_block {P:Program}{Q:Exit→Act→List Frame→World→Prop}{a:Act}{cs:List Frame}{w:World}{id:Nat}{c:Code}(h:c.wpS P (Exit.inBlockS id Q) a cs w):(Code.block id c).wpS P Q a cs w:=by
 intro b k hb hr
 obtain⟨e,a₁,cs₁,w₁,hq,harr⟩:=h b (.inBlock id :: k) hb hr
 cases e with
 |normal=>exact⟨.normal,a₁,cs₁,w₁,hq,.head step_block (Steps.trans harr (.one step_inBlock))⟩
 |exit id'=>
  by_cases hid:id'=id
  ·simp only[Exit.inBlockS,hid,if_true] at hq
   exact⟨.normal,a₁,cs₁,w₁,hq,.head step_block (harr k (by simp[exitTo,hid]))⟩
  ·simp only[Exit.inBlockS,hid,if_false] at hq
   refine⟨.exit id',a₁,cs₁,w₁,hq,fun k' hk => .head step_block (harr k' ?_)⟩
   have:(id==id')=false:=by simp;exact fun h=>hid h.symm
   simp[exitTo,this,hk]
 |goto l=>exact⟨_,a₁,cs₁,w₁,hq,fun k' hk => .head step_block (harr k' (by simp[gotoIn,hk]))⟩
 |ret=>exact⟨_,a₁,cs₁,w₁,hq,.of_steps (.one step_block) harr⟩
 |panic ch=>exact⟨_,a₁,cs₁,w₁,hq,.of_steps (.one step_block) harr⟩
 |outgrown=>exact⟨_,a₁,cs₁,w₁,hq,.of_steps (.one step_block) harr⟩
def XQS (x:XE)(p:Plan)(Q:Exit→Act→List Frame→World→Prop)(a:Act)(cs:List Frame)(w:World):Prop:=match x with
 | .normal=>Q .normal a cs w
 | .exit id=>Q (.exit id) a cs w
 | .ret=>Q .ret a cs w
 | .panic v _=>∀ v',VR p v v'→Q (.panic [{ v:=v',recovered:=false }]) a cs w
def PostS (K:Cfg)(base:Nat→Prop)(w0:World)(p:Plan)(c0 c1:Nat)(h':Tree AObj)(x:XE)(s':Loc)(u':UM)(cf:Frame)(cs:List Frame)(Q:Exit→Act→List Frame→World→Prop):Prop:=
 ∀ p' w' a' m',p.le p'→Out p p' c0 c1→Rel K base w0 p' h' w'→LocX x p' s' a'→UR p' u' m'→XQS x p' Q a' ({ cf with mode:=m' } :: cs) w'
section
variable (P:Program) (K:Cfg) (base:Nat→Prop) (w0:World)
def CodeSOK (f:Nat):Prop:=∀ (c:Code) (s:Loc) (u:UM) (h:Tree AObj) (c0:Nat) (x:XE) (s':Loc) (u':UM) (h':Tree AObj) (c1:Nat) (l:Log),M.Rng h c0 c1→evCodeS P K f c s u h c0 = .ok (x,s',u') h' c1 l→
 ∀ (p:Plan) (w:World) (a:Act) (m:FrameMode) (cf:Frame) (cs:List Frame) (Q:Exit→Act→List Frame→World→Prop),Rel K base w0 p h w→LocR p s a→UR p u m→Free p c0 c1→PostS K base w0 p c0 c1 h' x s' u' cf cs Q→c.wpS P Q a ({ cf with mode:=m } :: cs) w
def OpsSOK (f:Nat):Prop:=∀ (ops:Array Oper) (os:List Oper) (s:Loc) (u:UM) (h:Tree AObj) (c0:Nat) (x:XE) (s':Loc) (u':UM) (h':Tree AObj) (c1:Nat) (l:Log),M.Rng h c0 c1→evOpsS P K f ops os s u h c0 = .ok (x,s',u') h' c1 l→
 ∀ (i:Nat) (p:Plan) (w:World) (a:Act) (m:FrameMode) (cf:Frame) (cs:List Frame) (Q:Exit→Act→List Frame→World→Prop),os=ops.toList.drop i→Rel K base w0 p h w→LocR p s a→UR p u m→Free p c0 c1→PostS K base w0 p c0 c1 h' x s' u' cf cs Q→wpOpsS P ops Q (List.range' i (ops.size - i)) a ({ cf with mode:=m } :: cs) w
def DeferOK (f:Nat):Prop:=∀ (g:FuncId) (args:List Value) (u:UM) (h:Tree AObj) (c0:Nat) (u':UM) (h':Tree AObj) (c1:Nat) (l:Log),M.Rng h c0 c1→evDefer P K f g args u h c0 = .ok u' h' c1 l→
 goBody P g=true∧∀ (p:Plan) (w:World) (args':Array Value) (m:FrameMode),Rel K base w0 p h w→VRs p args args'.toList→UR p u m→Free p c0 c1→CallsD P g args' m w fun e m' w'=>∃ p',p.le p'∧Out p p' c0 c1∧Rel K base w0 p' h' w'∧UR p' u' m'∧∃ v,e = .returned v
def LeaveOK (f:Nat):Prop:=∀ (fn:Func) (s:Loc) (ls:List Nat) (ds:List (FuncId×List Value)) (u:UM) (h:Tree AObj) (c0:Nat) (r:CR) (h':Tree AObj) (c1:Nat) (l:Log),M.Rng h c0 c1→evLeave P K f fn s ls ds u h c0 = .ok r h' c1 l→
 ∀ (p:Plan) (w:World) (a:Act) (ds':List Deferred) (m:FrameMode) (R:Ending→World→Prop),Rel K base w0 p h w→LocL ls p s a→DRs p ds ds'→UR p u m→Free p c0 c1→(∀ p' w' e,p.le p'→Out p p' c0 c1→Rel K base w0 p' h' w'→CRR p' r e→R e w')→Leaves P fn a.tmps R ds' m w
end
section
variable {P:Program} {K:Cfg} {base:Nat→Prop} {w0:World}
theorem PostS.later {p p':Plan}{c0 c1 c2:Nat}{h':Tree AObj}{x:XE}{s':Loc}{u':UM}{cf:Frame}{cs:List Frame}{Q:Exit→Act→List Frame→World→Prop}(hp:PostS K base w0 p c0 c2 h' x s' u' cf cs Q)(h1:c0≤c1)(h2:c1≤c2)(hle:p.le p')(ho:Out p p' c0 c1):
  PostS K base w0 p' c1 c2 h' x s' u' cf cs Q:=fun p'' w' a' m' k1 k2 k3 k4 k5=>hp p'' w' a' m' (Plan.le_trans hle k1) (ho.trans h1 h2 k2) k3 k4 k5
theorem opsS_ok {f:Nat}(ho:OpOK P K base w0 f)(hos:OpsSOK P K base w0 f):OpsSOK P K base w0 (f+1):=by
 intro ops os s u h c0 x s' u' h' c1 l hd e i p w a m cf cs Q hi hr hs hu hf hp
 unfold evOpsS at e
 have L:=all_local P K f
 cases os with
 |nil=>
  obtain⟨e3,rfl,rfl⟩:=pure_inv e
  cases e3
  rw[list_end hi]
  exact hp p w a m (Plan.le_refl _) Out.rfl hr hs hu
 |cons o os=>
  obtain⟨g1,g2,g3⟩:=list_split hi
  rw[g3,List.range'_succ]
  dsimp only at e
  cases hw:wantX ops s o with
  |none=>rw[hw] at e;cases e
  |some q=>
  cases q with
  |true=>
   rw[hw] at e
   try dsimp only at e
   simp only[wpOpsS,g1,wantX_ok hs hw,if_true]
   obtain⟨r,h1,cm,l1,l2,e1,e2,hd0,hd1,hcm,hc2⟩:=bind_loc e hd (L.op _ _) (fun r=>by
    try dsimp only
    split
    ·exact L.opsS _ _ _ _
    ·exact M.local_pure _
    ·exact M.local_fail
    ·split
     ·exact L.opsS _ _ _ _
     ·exact L.opsS _ _ _ _)
   obtain⟨k1,k2⟩:=ho _ _ _ _ _ _ _ _ hd0 e1 p w a hr (envR hr hs) (hf.first hc2)
   cases r with
   |val v=>
    have hk:=k2 (by simp) (fun a' w'=>wpOpsS P ops Q (List.range' (i+1) (ops.size - (i+1))) a' ({ cf with mode:=m } :: cs) w') (fun e a' w'=>Q e a' ({ cf with mode:=m } :: cs) w') fun p' w' q1 q2 q3 v' q4 => ?_
    ·unfold Oper.wp at hk
     generalize (execOp a.eval o).run P w=R at hk ⊢
     cases R with
     |ok n w'=>cases n <;> first|exact hk|exact hk.elim
     |halt x w'=>exact hk
    exact hos _ _ _ _ _ _ _ _ _ _ _ _ hd1 e2 (i+1) p' w' _ m cf cs Q g2 q3 ((hs.mono q1).put q4 _) (hu.mono q1) (hf.later hcm q2) (hp.later hcm hc2 q1 q2)
   |later g args=>cases e2
   |pan v=>
    obtain⟨e3,rfl,rfl⟩:=pure_inv e2
    cases e3
    have hk:=k2 (by simp) (fun a' w'=>wpOpsS P ops Q (List.range' (i+1) (ops.size - (i+1))) a' ({ cf with mode:=m } :: cs) w') (fun e a' w'=>Q e a' ({ cf with mode:=m } :: cs) w') fun p' w' q1 q2 q3 v' q4 => ?_
    ·unfold Oper.wp at hk
     generalize (execOp a.eval o).run P w=R at hk ⊢
     cases R with
     |ok n w'=>cases n <;> first|exact hk|exact hk.elim
     |halt x w'=>exact hk
    exact hp p' w' a m q1 q2 q3 (hs.mono q1).toL (hu.mono q1) v' q4
   |recover=>
    obtain⟨p',w',q1,q2,q3,q4⟩:=k1 rfl
    rw[q4]
    dsimp only
    have hu':=hu.mono q1
    cases u with
    |ret=>
     obtain rfl:m = .returning:=by cases m <;> first|rfl|exact hu.elim
     exact hos _ _ _ _ _ _ _ _ _ _ _ _ hd1 e2 (i+1) p' w' _ _ cf cs Q g2 q3 ((hs.mono q1).put .nilIface _) hu' (hf.later hcm q2) (hp.later hcm hc2 q1 q2)
    |pan v=>
     cases m with
     |panicking ch=>
      obtain⟨v',rfl,hv⟩:=hu'
      exact hos _ _ _ _ _ _ _ _ _ _ _ _ hd1 e2 (i+1) p' w' _ (.panicking [{ v:=v',recovered:=true }]) cf cs Q g2 q3 ((hs.mono q1).put hv _) ⟨v',rfl,hv⟩ (hf.later hcm q2) (hp.later hcm hc2 q1 q2)
     |_=>exact hu.elim
    |caught v=>
     cases m with
     |panicking ch=>
      obtain⟨v',rfl,hv⟩:=hu'
      exact hos _ _ _ _ _ _ _ _ _ _ _ _ hd1 e2 (i+1) p' w' _ (.panicking [{ v:=v',recovered:=true }]) cf cs Q g2 q3 ((hs.mono q1).put .nilIface _) ⟨v',rfl,hv⟩ (hf.later hcm q2) (hp.later hcm hc2 q1 q2)
     |_=>exact hu.elim
  |false=>
   rw[hw] at e
   try dsimp only at e
   simp only[wpOpsS,g1,wantX_ok hs hw]
   exact hos _ _ _ _ _ _ _ _ _ _ _ _ hd e (i+1) p w _ m cf cs Q g2 hr (hs.put undef_vr _) hu hf hp
theorem eval_cond {p:Plan}{h:Tree AObj}{w:World}{s:Loc}{a:Act}{q:Operand}{b:Bool}(e1:envOf K s q=some (.bool b))(hr:Rel K base w0 p h w)(hs:LocR p s a):a.eval q = .bool b:=by
 have:=envR hr hs q _ e1
 generalize Act.eval _ q=u at this
 cases this
 rfl
theorem codeS_ok {f:Nat}(hc:CodeOK P K base w0 f)(hcs:CodeSOK P K base w0 f)(hos:OpsSOK P K base w0 f):CodeSOK P K base w0 (f+1):=by
 intro c s u h c0 x s' u' h' c1 l hd e p w a m cf cs Q hr hs hu hf hp
 unfold evCodeS at e
 have L:=all_local P K f
 have plain:∀ c:Code,M.bind (evCode P K f c s) (fun r=>M.pure (r.1,r.2,u)) h c0 = .ok (x,s',u') h' c1 l→c.wpS P Q a ({ cf with mode:=m } :: cs) w:=by
  intro c e
  obtain⟨⟨x1,s1⟩,h1,cm,l1,l2,e1,e2⟩:=bind_inv e
  obtain⟨e3,rfl,rfl⟩:=pure_inv e2
  cases e3
  refine wpS_of_wp (wp_of_wp2 (hc _ _ _ _ _ _ _ _ _ hd e1 p w a _ hr hs hf fun p' w' a' q1 q2 q3 q4 => ?_))
  have:=hp p' w' a' m q1 q2 q3 q4 (hu.mono q1)
  dsimp only at this
  cases x1 <;> exact this
 cases c with
 |seq x1 y1=>
  obtain⟨⟨x2,s2,u2⟩,h1,cm,l1,l2,e1,e2,hd0,hd1,hcm,hc2⟩:=bind_loc e hd (L.codeS _ _ _) (fun r=>by
   try dsimp only
   split
   ·exact L.codeS _ _ _
   ·exact M.local_pure _)
  refine wpS_seq (hcs _ _ _ _ _ _ _ _ _ _ _ hd0 e1 p w a m cf cs _ hr hs hu (hf.first hc2) fun p' w' a' m' q1 q2 q3 q4 q5 => ?_)
  cases x2 with
  |normal=>exact hcs _ _ _ _ _ _ _ _ _ _ _ hd1 e2 p' w' a' m' cf cs Q q3 q4 q5 (hf.later hcm q2) (hp.later hcm hc2 q1 q2)
  |_=>
   obtain⟨e3,rfl,rfl⟩:=pure_inv e2
   cases e3
   exact hp p' w' a' m' q1 q2 q3 q4 q5
 |cond q x1 y1=>
  dsimp only at e
  cases hb:envOf K s q with
  |none=>rw[hb] at e;cases e
  |some v=>
   rw[hb] at e
   cases v with
   |bool b=>
    cases b with
    |true=>exact wpS_cond (eval_cond hb hr hs) (hcs _ _ _ _ _ _ _ _ _ _ _ hd e p w a m cf cs Q hr hs hu hf hp)
    |false=>exact wpS_cond (eval_cond hb hr hs) (hcs _ _ _ _ _ _ _ _ _ _ _ hd e p w a m cf cs Q hr hs hu hf hp)
   |_=>cases e
 |block id b=>
  obtain⟨⟨x2,s2,u2⟩,h1,cm,l1,l2,e1,e2⟩:=bind_inv e
  dsimp only at e2
  have hsame:h'=h1∧c1=cm∧s'=s2∧u'=u2∧((∃ i,x2 = .exit i∧i=id∧x = .normal)∨((∀ i,x2 = .exit i→i≠id)∧x=x2)):=by
   cases x2 with
   |exit i=>
    dsimp only at e2
    split at e2
    ·rename_i hid
     obtain⟨e3,rfl,rfl⟩:=pure_inv e2
     cases e3
     exact⟨rfl,rfl,rfl,rfl,.inl ⟨i,rfl,hid,rfl⟩⟩
    ·rename_i hid
     obtain⟨e3,rfl,rfl⟩:=pure_inv e2
     cases e3
     exact⟨rfl,rfl,rfl,rfl,.inr ⟨fun j hj=>(by cases hj;exact hid),rfl⟩⟩
   |_=>
    obtain⟨e3,rfl,rfl⟩:=pure_inv e2
    cases e3
    exact⟨rfl,rfl,rfl,rfl,.inr ⟨fun j hj=>(by cases hj),rfl⟩⟩
  obtain⟨rfl,rfl,rfl,rfl,hx⟩:=hsame
  refine wpS_block (hcs _ _ _ _ _ _ _ _ _ _ _ hd e1 p w a m cf cs _ hr hs hu hf fun p' w' a' m' q1 q2 q3 q4 q5 => ?_)
  have:=hp p' w' a' m' q1 q2 q3 (by rcases hx with ⟨i,rfl,rfl,rfl⟩|⟨_,rfl⟩ <;> exact q4) q5
  rcases hx with ⟨i,rfl,rfl,rfl⟩|⟨hx,rfl⟩
  ·show Exit.inBlockS i Q (.exit i) _ _ _
   unfold Exit.inBlockS
   dsimp only
   rw[if_pos rfl]
   exact this
  ·cases x with
   |exit j=>
    show Exit.inBlockS id Q (.exit j) _ _ _
    unfold Exit.inBlockS
    dsimp only
    rw[if_neg (hx j rfl)]
    exact this
   |_=>exact this
 |region id ops draw=>
  cases draw with
  |true=>exact plain _ e
  |false=>
   refine wpS_region ?_
   rw[List.range_eq_range']
   exact hos _ _ _ _ _ _ _ _ _ _ _ _ hd e 0 p w a m cf cs Q rfl hr hs hu hf hp
 |_=>exact plain _ e
theorem nods {p:Plan}{s:Loc}{a:Act}(hds:s.ds=[])(hs:LocR p s a):a.defers=[]:=by
 have:=hs.ds
 rw[hds] at this
 cases hd:a.defers with
 |nil=>rfl
 |cons=>rw[hd] at this;cases this
theorem defer_ok {f:Nat}(hcs:CodeSOK P K base w0 f):DeferOK P K base w0 (f+1):=by
 intro g args u h c0 u' h' c1 l hd e
 unfold evDefer at e
 have L:=all_local P K f
 by_cases hg:goBody P g=true
 ·rw[if_pos hg] at e
  refine⟨hg,fun p w args' m hr hv hu hf => ?_⟩
  cases hfn:P.funcs[g]? with
  |none=>rw[hfn] at e;cases e
  |some fn=>
  rw[hfn] at e
  dsimp only at e
  cases hb:fn.body with
  |none=>rw[hb] at e;cases e
  |some c=>
  rw[hb] at e
  dsimp only at e
  split at e
  ·rename_i hn
   obtain⟨⟨x1,s1,u1⟩,h1,cm,l1,l2,e1,e2⟩:=bind_inv e
   dsimp only at e2
   cases hds:s1.ds with
   |cons=>rw[hds] at e2;cases e2
   |nil=>
   rw[hds] at e2
   dsimp only at e2
   have back:∀ {uu:UM} {hh:Tree AObj} {cc:Nat} {ll:Log},(x1 = .normal∨x1 = .ret)→M.bind (resX P s1 fn.results.toList) (fun _=>M.pure u1) h1 cm = .ok uu hh cc ll→u'=uu→h'=hh→c1=cc→CallsD P g args' m w fun e m' w'=>∃ p',p.le p'∧Out p p' c0 c1∧Rel K base w0 p' h' w'∧UR p' u' m'∧∃ v,e = .returned v:=by
    rintro uu hh cc ll hx er rfl rfl rfl
    obtain⟨vs,h2,c2,l3,l4,e3,e4⟩:=bind_inv er
    obtain⟨rfl,rfl,rfl⟩:=pure_inv e4
    refine callsD_of_wpS hfn hb fun c₀ cs hmode => ?_
    have hc0:({ c₀ with mode:=m }:Frame)=c₀:=by subst hmode;rfl
    have hsame:∀ (p':Plan) (w':World) (a':Act),LocR p' s1 a'→Rel K base w0 p' h1 w'→h'=h1∧c1=cm∧∃ v,(results fn a'.tmps).run P w' = .ok v w'∧VR p' (one vs) v:=fun p' w' a' q4 q3=>results_ok (ls:=[]) (P:=P) (fun _ _=>by simp) q4.toL q3 e3
    have hl:=(local_resX (P:=P) (s:=s1) fn.results.toList _ _ _ _ _ _ e3).1
    have hd0:M.Rng h c0 cm:=hd.first hl
    have:=hcs _ _ _ _ _ _ _ _ _ _ _ hd0 e1 p w _ m c₀ cs (bodyPostS P fn c₀ cs fun e m' w'=>∃ p',p.le p'∧Out p p' c0 c1∧Rel K base w0 p' h' w'∧UR p' u' m'∧∃ v,e = .returned v) hr (begin_ok hv hn) hu (hf.first hl) (fun p' w' a' m' q1 q2 q3 q4 q5=>by
     have q4:LocR p' s1 a':=by rcases hx with rfl|rfl <;> exact q4
     obtain⟨rfl,rfl,v,g1,g2⟩:=hsame p' w' a' q4 q3
     rcases hx with rfl|rfl
     ·exact⟨nods hds q4,m',rfl,v,g1,p',q1,q2,q3,q5,v,rfl⟩
     ·exact⟨nods hds q4,m',rfl,v,g1,p',q1,q2,q3,q5,v,rfl⟩)
    rw[hc0] at this
    exact this
   cases x1 with
   |normal=>exact back (.inl rfl) e2 rfl rfl rfl
   |ret=>exact back (.inr rfl) e2 rfl rfl rfl
   |_=>cases e2
  ·cases e
 ·rw[if_neg hg] at e;cases e
theorem leave_ok {f:Nat}(hdf:DeferOK P K base w0 f)(hlv:LeaveOK P K base w0 f):LeaveOK P K base w0 (f+1):=by
 intro fn s ls ds u h c0 r h' c1 l hd e p w a ds' m R hr hs hds hu hf hp
 unfold evLeave at e
 have L:=all_local P K f
 cases ds with
 |nil=>
  cases hds
  dsimp only at e
  cases u with
  |ret=>
   obtain rfl:m = .returning:=by cases m <;> first|rfl|exact hu.elim
   by_cases hm:meets ls (resSlots fn.results.toList)=true
   ·rw[if_pos hm] at e;cases e
   rw[if_neg hm] at e
   obtain⟨vs,h2,c2,l3,l4,e3,e4⟩:=bind_inv e
   obtain⟨rfl,rfl,rfl⟩:=pure_inv e4
   obtain⟨rfl,rfl,v,g1,g2⟩:=results_ok (P:=P) (fun t ht hl=>meets_false (by simpa using hm) t hl ht) hs hr e3
   exact⟨v,g1,hp p w _ (Plan.le_refl _) Out.rfl hr g2⟩
  |pan v=>
   obtain⟨rfl,rfl,rfl⟩:=pure_inv e
   cases m with
   |panicking ch=>
    obtain⟨v',rfl,hv⟩:=hu
    exact hp p w _ (Plan.le_refl _) Out.rfl hr ⟨v',rfl,hv⟩
   |_=>exact hu.elim
  |caught v=>cases e
 |cons gd ds=>
  obtain⟨g,args⟩:=gd
  cases hds with
  |cons hd1 hds2=>
  obtain⟨ys,cap,rfl,hv⟩:=hd1
  obtain⟨u1,h1,cm,l1,l2,e1,e2,hda,hdb,hcm,hc2⟩:=bind_loc e hd (L.defer _ _ _) (fun u=>L.leave _ _ _ _ _)
  obtain⟨hg,hcall⟩:=hdf _ _ _ _ _ _ _ _ _ hda e1
  refine leaves_cons (f:=g) (args:=ys++cap) hu.notRun ?_ ?_
  ·exact run_callFunc hg _ _
  ·refine(hcall p w (ys++cap) m hr hv hu (hf.first hc2)).mono ?_
   rintro e' m' w' ⟨p',q1,q2,q3,q4,v,rfl⟩
   exact hlv _ _ _ _ _ _ _ _ _ _ _ hdb e2 p' w' a _ _ R q3 (hs.mono q1) (hds2.mono q1) q4.settle (hf.later hcm q2) fun p'' w'' e'' k1 k2 k3 k4=>hp p'' w'' e'' (Plan.le_trans q1 k1) (q2.trans hcm hc2 k2) k3 k4
end
end Ev
end Go.Proofs.YtcbkeecabcbogaaGreatDoor
namespace Go.Proofs.YtcbkeecabcbogaaGreatDoor
namespace Ev
open Go.RowKit
section
variable {P:Program} {K:Cfg} {base:Nat→Prop} {w0:World}
theorem call_ok {f:Nat}(hc:CodeOK P K base w0 f)(hlv:LeaveOK P K base w0 f):CallOK P K base w0 (f+1):=by
 intro g args h c0 r h' c1 l hd e p w args' hr hv hf
 unfold evCall at e
 have L:=all_local P K f
 cases hfn:P.funcs[g]? with
 |none=>rw[hfn] at e;cases e
 |some fn=>
 rw[hfn] at e
 dsimp only at e
 cases hb:fn.body with
 |none=>rw[hb] at e;cases e
 |some c=>
 rw[hb] at e
 dsimp only at e
 split at e
 ·rename_i hn
  obtain⟨⟨x1,s1⟩,h1,cm,l1,l2,e1,e2,hda,hdb,hcm,hc2⟩:=bind_loc e hd (L.code _ _) (fun r=>by
   try dsimp only
   split
   ·exact L.leave _ _ _ _ _
   ·exact L.leave _ _ _ _ _
   ·exact L.leave _ _ _ _ _
   ·exact M.local_fail)
  dsimp only at e2
  refine calls_of_wp_defers hfn hb (wp_of_wp2 (hc _ _ _ _ _ _ _ _ _ hda e1 p w _ _ hr (begin_ok hv hn) (hf.first hc2) fun p' w' a' q1 q2 q3 q4 => ?_))
  have fin:∀ (ls:List Nat) (u:UM) (m:FrameMode),LocL ls p' s1 a'→UR p' u m→evLeave P K f fn s1 ls s1.ds u h1 cm = .ok r h' c1 l2→Leaves P fn a'.tmps (fun e w'=>∃ p',p.le p'∧Out p p' c0 c1∧Rel K base w0 p' h' w'∧CRR p' r e) a'.defers m w':=fun ls u m q4 hu el=>
   hlv _ _ _ _ _ _ _ _ _ _ _ hdb el p' w' a' _ m _ q3 q4 q4.ds hu (hf.later hcm q2) fun p'' w'' e'' k1 k2 k3 k4=>⟨p'',Plan.le_trans q1 k1,q2.trans hcm hc2 k2,k3,k4⟩
  cases x1 with
  |normal=>exact fin [] .ret .returning (LocR.toL q4) trivial e2
  |ret=>exact fin [] .ret .returning (LocR.toL q4) trivial e2
  |panic v ls=>exact fun v' hv'=>fin ls (.pan v) (.panicking [{ v:=v',recovered:=false }]) q4 ⟨v',rfl,hv'⟩ e2
  |exit=>cases e2
 ·cases e
theorem code_ok {f:Nat}(horc:OrcOK P K base w0)(hm:P.follows .mixedOrders=true)(hop:∀ g,g<f→OpOK P K base w0 g)(hc:CodeOK P K base w0 f)(ho:OpsOK P K base w0 f):CodeOK P K base w0 (f+1):=by
 intro c s h c0 x s' h' c1 l hd e p w a Q hr hs hf hp
 unfold evCode at e
 have L:=all_local P K f
 cases c with
 |skip=>
  obtain⟨e3,rfl,rfl⟩:=pure_inv e
  cases e3
  exact wp_skip (post_now hp hr hs)
 |label=>
  obtain⟨e3,rfl,rfl⟩:=pure_inv e
  cases e3
  exact wp_label (post_now hp hr hs)
 |exit id=>
  obtain⟨e3,rfl,rfl⟩:=pure_inv e
  cases e3
  exact wp_exit (post_now hp hr hs)
 |ret=>
  obtain⟨e3,rfl,rfl⟩:=pure_inv e
  cases e3
  exact wp_ret (post_now hp hr hs)
 |scope b=>
  refine wp_scope_straight (wp_of_wp2 (hc _ _ _ _ _ _ _ _ _ hd e p w a _ hr hs hf fun p' w' a' q1 q2 q3 q4 => ?_))
  have:=hp p' w' a' q1 q2 q3 q4
  cases x <;> exact this
 |cond q x y=>
  dsimp only at e
  cases hb:envOf K s q with
  |none=>rw[hb] at e;cases e
  |some v=>
   rw[hb] at e
   cases v with
   |bool b=>
    cases b with
    |true=>exact wp_cond_true (eval_cond hb hr hs) (wp_of_wp2 (hc _ _ _ _ _ _ _ _ _ hd e p w a Q hr hs hf hp))
    |false=>exact wp_cond_false (eval_cond hb hr hs) (wp_of_wp2 (hc _ _ _ _ _ _ _ _ _ hd e p w a Q hr hs hf hp))
   |_=>cases e
 |seq x1 y1=>
  obtain⟨⟨x2,s2⟩,h1,cm,l1,l2,e1,e2,hda,hdb,hcm,hc2⟩:=bind_loc e hd (L.code _ _) (fun r=>by
   try dsimp only
   split
   ·exact L.code _ _
   ·exact M.local_pure _)
  refine wp_seq (wp_of_wp2 (hc _ _ _ _ _ _ _ _ _ hda e1 p w a _ hr hs (hf.first hc2) fun p' w' a' q1 q2 q3 q4 => ?_))
  cases x2 with
  |normal=>exact wp_of_wp2 (hc _ _ _ _ _ _ _ _ _ hdb e2 p' w' a' Q q3 q4 (hf.later hcm q2) (hp.later hcm hc2 q1 q2))
  |_=>
   obtain⟨e3,rfl,rfl⟩:=pure_inv e2
   cases e3
   exact hp p' w' a' q1 q2 q3 q4
 |block id b=>
  obtain⟨⟨x2,s2⟩,h1,cm,l1,l2,e1,e2⟩:=bind_inv e
  dsimp only at e2
  have hsame:h'=h1∧c1=cm∧s'=s2∧((∃ i,x2 = .exit i∧i=id∧x = .normal)∨((∀ i,x2 = .exit i→i≠id)∧x=x2)):=by
   cases x2 with
   |exit i=>
    dsimp only at e2
    split at e2
    ·rename_i hid
     obtain⟨e3,rfl,rfl⟩:=pure_inv e2
     cases e3
     exact⟨rfl,rfl,rfl,.inl ⟨i,rfl,hid,rfl⟩⟩
    ·rename_i hid
     obtain⟨e3,rfl,rfl⟩:=pure_inv e2
     cases e3
     exact⟨rfl,rfl,rfl,.inr ⟨fun j hj=>(by cases hj;exact hid),rfl⟩⟩
   |_=>
    obtain⟨e3,rfl,rfl⟩:=pure_inv e2
    cases e3
    exact⟨rfl,rfl,rfl,.inr ⟨fun j hj=>(by cases hj),rfl⟩⟩
  obtain⟨rfl,rfl,rfl,hx⟩:=hsame
  refine wp_block (wp_of_wp2 (hc _ _ _ _ _ _ _ _ _ hd e1 p w a _ hr hs hf fun p' w' a' q1 q2 q3 q4 => ?_))
  have:=hp p' w' a' q1 q2 q3 (by rcases hx with ⟨i,rfl,rfl,rfl⟩|⟨_,rfl⟩ <;> exact q4)
  rcases hx with ⟨i,rfl,rfl,rfl⟩|⟨hx,rfl⟩
  ·show Exit.inBlock i Q (.exit i) _ _
   unfold Exit.inBlock
   dsimp only
   rw[if_pos rfl]
   exact this
  ·cases x with
   |exit j=>
    show Exit.inBlock id Q (.exit j) _ _
    unfold Exit.inBlock
    dsimp only
    rw[if_neg (hx j rfl)]
    exact this
   |_=>exact this
 |loop b=>
  dsimp only at e
  cases hlp:K.lop b s with
  |some m=>
   rw[hlp] at e
   exact horc.loop _ _ _ hlp _ _ _ _ _ _ _ hd e p w a Q hr hs hf hp
  |none=>
  rw[hlp] at e
  obtain⟨⟨x2,s2⟩,h1,cm,l1,l2,e1,e2,hda,hdb,hcm,hc2⟩:=bind_loc e hd (L.code _ _) (fun r=>by
   try dsimp only
   split
   ·exact L.code _ _
   ·exact M.local_pure _)
  refine loop_next (wp_of_wp2 (hc _ _ _ _ _ _ _ _ _ hda e1 p w a _ hr hs (hf.first hc2) fun p' w' a' q1 q2 q3 q4 => ?_))
  cases x2 with
  |normal=>exact hc _ _ _ _ _ _ _ _ _ hdb e2 p' w' a' Q q3 q4 (hf.later hcm q2) (hp.later hcm hc2 q1 q2)
  |_=>
   obtain⟨e3,rfl,rfl⟩:=pure_inv e2
   cases e3
   exact hp p' w' a' q1 q2 q3 q4
 |region id ops draw=>
  cases draw with
  |true=>
   dsimp only at e
   split at e
   ·rename_i hok
    exact draw_region hm hop hok hd e hr hs hf hp
   ·cases e
  |false=>
   refine wp_region ?_
   rw[List.range_eq_range']
   exact ho _ _ _ _ _ _ _ _ _ _ hd e 0 p w a Q rfl hr hs hf hp
 |_=>cases e
structure AllOK (P:Program)(K:Cfg)(base:Nat→Prop)(w0:World)(f:Nat):Prop where
 code:CodeOK P K base w0 f
 ops:OpsOK P K base w0 f
 op:OpOK P K base w0 f
 call:CallOK P K base w0 f
 leave:LeaveOK P K base w0 f
 defer:DeferOK P K base w0 f
 codeS:CodeSOK P K base w0 f
 opsS:OpsSOK P K base w0 f
theorem all_ok (hm:P.follows .mixedOrders=true)(horc:OrcOK P K base w0):∀ f,AllOK P K base w0 f:=by
 intro f
 induction f using Nat.strongRecOn with
 |_ f ih=>
  cases f with
  |zero=>
   refine⟨?_,?_,?_,?_,?_,?_,?_,?_⟩
   ·intro _ _ _ _ _ _ _ _ _ _ e;unfold evCode at e;cases e
   ·intro _ _ _ _ _ _ _ _ _ _ _ e;unfold evOps at e;cases e
   ·intro _ _ _ _ _ _ _ _ _ e;unfold evOp at e;cases e
   ·intro _ _ _ _ _ _ _ _ _ e;unfold evCall at e;cases e
   ·intro _ _ _ _ _ _ _ _ _ _ _ _ e;unfold evLeave at e;cases e
   ·intro _ _ _ _ _ _ _ _ _ _ e;unfold evDefer at e;cases e
   ·intro _ _ _ _ _ _ _ _ _ _ _ _ e;unfold evCodeS at e;cases e
   ·intro _ _ _ _ _ _ _ _ _ _ _ _ _ e;unfold evOpsS at e;cases e
  |succ f=>
   have A:=ih f (by omega)
   exact⟨code_ok horc hm (fun g hg=>(ih g (by omega)).op) A.code A.ops,ops_ok A.op A.ops,op_ok horc A.call,call_ok A.code A.leave,leave_ok A.defer A.leave,defer_ok A.codeS,codeS_ok A.code A.codeS A.opsS,opsS_ok A.op A.opsS⟩
theorem ev_call (hm:P.follows .mixedOrders=true)(horc:OrcOK P K base w0){f:Nat}{g:FuncId}{args:List Value}{h:Tree AObj}{c0:Nat}{r:CR}{h':Tree AObj}{c1:Nat}{l:Log}(e:evCall P K f g args h c0 = .ok r h' c1 l)(hd:M.Rng h c0 c1)
  {p:Plan} {w:World} {args':Array Value} (hr:Rel K base w0 p h w) (hv:VRs p args args'.toList) (hf:Free p c0 c1):Calls P g args' w fun e w'=>∃ p',p.le p'∧Out p p' c0 c1∧Rel K base w0 p' h' w'∧CRR p' r e:=
 (all_ok hm horc f).call _ _ _ _ _ _ _ _ hd e p w args' hr hv hf
end
end Ev
end Go.Proofs.YtcbkeecabcbogaaGreatDoor
namespace Go.Proofs.YtcbkeecabcbogaaGreatDoor
namespace Ev
open Go.RowKit
theorem rel0 {K:Cfg}{O:Nat→Prop}{p:Plan}(w:World)(hg:∀ b,b<K.g→∃ s,p b=some s∧s.blk=b∧s.off=0)(hd:Dis K p):Rel K O w p .leaf w:=by
 refine⟨Keep.refl _ _,hg,hd,fun b o h => ?_,fun b b' o o' s s' k h => ?_,fun b m s h => ?_⟩
 ·cases h
 ·cases h
 ·cases h
def kindN:IntKind→Nat
 | .i8=>0
 | .i16=>1
 | .i32=>2
 | .i64=>3
 | .u8=>4
 | .u16=>5
 | .u32=>6
 | .u64=>7
theorem kindN_inj {a b:IntKind}(h:Nat.beq (kindN a) (kindN b)=true):a=b:=by
 cases a <;> cases b <;> first|rfl|(cases h)
def eqI (a b:Int):Bool:=match a with
 | .ofNat n=>match b with
  | .ofNat m=>Nat.beq n m
  | .negSucc _=>false
 | .negSucc n=>match b with
  | .ofNat _=>false
  | .negSucc m=>Nat.beq n m
theorem eqI_ok {a b:Int}(h:eqI a b=true):a=b:=by
 unfold eqI at h
 cases a <;> cases b <;> dsimp only at h
 ·rw[Nat.eq_of_beq_eq_true h]
 ·cases h
 ·cases h
 ·rw[Nat.eq_of_beq_eq_true h]
def eqBool (a b:Bool):Bool:=match a with
 |true=>b
 |false=>(match b with
  |true=>false
  |false=>true)
theorem eqBool_ok {a b:Bool}(h:eqBool a b=true):a=b:=by
 cases a <;> cases b <;> first|rfl|(exact absurd h (by decide))
def eqS (a b:ByteArray):Bool:=eqB a.data.toList b.data.toList
theorem eqS_ok {a b:ByteArray}(h:eqS a b=true):a=b:=by
 have:=Array.toList_inj.1 (eqB_ok h)
 cases a;cases b;exact congrArg _ this
def eqA (a b:Option Addr):Bool:=match a with
 |none=>match b with
  |none=>true
  |some _=>false
 |some ⟨n,o,none⟩=>match b with
  |some ⟨n',o',none⟩=>Nat.beq n n'&&Nat.beq o o'
  |_=>false
 |_=>false
theorem eqA_ok {a b:Option Addr}(h:eqA a b=true):a=b:=by
 unfold eqA at h
 split at h
 ·split at h
  ·rfl
  ·cases h
 ·split at h
  ·rw[Bool.and_eq_true] at h
   rw[Nat.eq_of_beq_eq_true h.1,Nat.eq_of_beq_eq_true h.2]
  ·cases h
 ·cases h
def eqN (a b:Option Nat):Bool:=match a with
 |none=>match b with
  |none=>true
  |some _=>false
 |some n=>match b with
  |some m=>Nat.beq n m
  |none=>false
theorem eqN_ok {a b:Option Nat}(h:eqN a b=true):a=b:=by
 unfold eqN at h
 cases a with
 |none=>cases b with
  |none=>rfl
  |some _=>cases h
 |some n=>cases b with
  |none=>cases h
  |some m=>rw[Nat.eq_of_beq_eq_true h]
def eqL (f:Value→Value→Bool):List Value→List Value→Bool
 | [],[]=>true
 |a :: l,b :: m=>f a b&&eqL f l m
 |_,_=>false
theorem eqL_ok {f:Value→Value→Bool}(hf:∀ {a b},f a b=true→a=b):∀ {l m:List Value},eqL f l m=true→l=m
 | [],[],_=>rfl
 |a :: l,b :: m,h=>by
  unfold eqL at h
  rw[Bool.and_eq_true] at h
  rw[hf h.1,eqL_ok hf h.2]
 | [],_ :: _,h=>by cases h
 |_ :: _,[],h=>by cases h
def eqV:Nat→Value→Value→Bool
 |0,_,_=>false
 |f+1,a,b=>match a with
  | .bool x=>match b with
   | .bool y=>eqBool x y
   |_=>false
  | .int k n=>match b with
   | .int k' n'=>Nat.beq (kindN k) (kindN k')&&eqI n n'
   |_=>false
  | .string s=>match b with
   | .string t=>eqS s t
   |_=>false
  | .pointer x=>match b with
   | .pointer y=>eqA x y
   |_=>false
  | .slice x n c=>match b with
   | .slice y n' c'=>eqA x y&&(Nat.beq n n'&&Nat.beq c c')
   |_=>false
  | .map x=>match b with
   | .map y=>eqN x y
   |_=>false
  | .chan x=>match b with
   | .chan y=>eqN x y
   |_=>false
  | .func (.func g) x y=>match b with
   | .func (.func g') x' y'=>Nat.beq g g'&&(eqL (eqV f) x.toList x'.toList&&eqL (eqV f) y.toList y'.toList)
   |_=>false
  | .nilFunc=>match b with
   | .nilFunc=>true
   |_=>false
  | .iface t v=>match b with
   | .iface t' v'=>Nat.beq t t'&&eqV f v v'
   |_=>false
  | .nilIface=>match b with
   | .nilIface=>true
   |_=>false
  | .agg x=>match b with
   | .agg y=>eqL (eqV f) x.toList y.toList
   |_=>false
  | .tuple x=>match b with
   | .tuple y=>eqL (eqV f) x.toList y.toList
   |_=>false
  |_=>false
theorem eqV_ok:∀ {f:Nat} {a b:Value},eqV f a b=true→a=b
 |0,_,_,h=>by cases h
 |f+1,a,b,h=>by
  have ih:∀ {a b:Value},eqV f a b=true→a=b:=fun h=>eqV_ok h
  unfold eqV at h
  split at h <;> (try (cases h;done)) <;> split at h <;> (try (cases h;done))
  ·rw[eqBool_ok h]
  ·rw[Bool.and_eq_true] at h
   rw[kindN_inj h.1,eqI_ok h.2]
  ·rw[eqS_ok h]
  ·rw[eqA_ok h]
  ·rw[Bool.and_eq_true,Bool.and_eq_true] at h
   rw[eqA_ok h.1,Nat.eq_of_beq_eq_true h.2.1,Nat.eq_of_beq_eq_true h.2.2]
  ·rw[eqN_ok h]
  ·rw[eqN_ok h]
  ·rw[Bool.and_eq_true,Bool.and_eq_true] at h
   rw[Nat.eq_of_beq_eq_true h.1,Array.toList_inj.1 (eqL_ok ih h.2.1),Array.toList_inj.1 (eqL_ok ih h.2.2)]
  ·rfl
  ·rw[Bool.and_eq_true] at h
   rw[Nat.eq_of_beq_eq_true h.1,ih h.2]
  ·rfl
  ·rw[Array.toList_inj.1 (eqL_ok ih h)]
  ·rw[Array.toList_inj.1 (eqL_ok ih h)]
end Ev
end Go.Proofs.YtcbkeecabcbogaaGreatDoor
namespace Go.Proofs.YtcbkeecabcbogaaGreatDoor
open Go.RowKit
theorem quiet_eq {P:Program}{f:FuncId}{args:Array Value}{w:World}{n:Nat}{v:Value}
  (h:Calls P f args (w.drewN n) fun e w'=>e = .returned v∧w.drewN n=w'):Calls P f args (w.drewN n) fun e w''=>e = .returned v∧∃ m,w''=w.drewN m:=
 h.mono fun _ _ ⟨he,hm⟩=>⟨he,n,hm.symm⟩
theorem below_dn {B:Nat}{a w:World}(h:Below B a w)(n:Nat):Below B a (w.drewN n):=below_drewN h n
theorem below_two {a b c:World}(h:Below a.heap.size a b)(k:Below b.heap.size b c):Below a.heap.size a c:=h.trans (k.mono h.size)
theorem bcell {W w1:World}(hb:Below W.heap.size W w1):(∀ b o,b<W.heap.size→w1.cell? ⟨b,o,none⟩=W.cell? ⟨b,o,none⟩)∧(∀ b o,b<W.heap.size→w1.frozen? ⟨b,o,none⟩=W.frozen? ⟨b,o,none⟩):=
 ⟨fun b o h=>hb.cell (p:=⟨b,o,none⟩) h,fun b o h=>hb.frozen (p:=⟨b,o,none⟩) h⟩
end Go.Proofs.YtcbkeecabcbogaaGreatDoor
namespace Go.Proofs.YtcbkeecabcbogaaGreatDoor
open Go.RowKit
namespace Prs
structure KeepR (b:Nat)(w w':World):Prop where
 os:w'.os=w.os
 tape:w'.tape=w.tape
 output:w'.output=w.output
 size:w.heap.size≤w'.heap.size
 block:∀ k,k<w.heap.size→k≠b→w'.heap[k]? = w.heap[k]?
theorem KeepR.refl (b:Nat)(w:World):KeepR b w w:=⟨rfl,rfl,rfl,Nat.le_refl _,fun _ _ _=>rfl⟩
theorem KeepR.trans {b:Nat}{u v w:World}(h:KeepR b u v)(k:KeepR b v w):KeepR b u w:=
 ⟨k.os.trans h.os,k.tape.trans h.tape,k.output.trans h.output,Nat.le_trans h.size k.size,fun i hi hb=>(k.block i (Nat.lt_of_lt_of_le hi h.size) hb).trans (h.block i hi hb)⟩
theorem KeepR.of_below {b B:Nat}{w w':World}(h:Below B w w')(hB:w.heap.size≤B):KeepR b w w':=⟨h.os,h.tape,h.output,h.size,fun k hk _=>h.block k (Nat.lt_of_lt_of_le hk hB)⟩
theorem KeepR.cell {b:Nat}{w w':World}(h:KeepR b w w'){g o:Nat}{v:Value}(hg:g≠b)(hc:w.cell? ⟨g,o,none⟩=some v):w'.cell? ⟨g,o,none⟩=some v:=by
 unfold World.cell? at hc ⊢
 dsimp only at hc ⊢
 rcases Nat.lt_or_ge g w.heap.size with h1|h1
 ·rw[h.block g h1 hg];exact hc
 ·rw[Array.getElem?_eq_none h1] at hc
  cases hc
theorem KeepR.set {b:Nat}(w:World)(i:Nat)(v:Value):KeepR b w (w.setCell ⟨b,i,none⟩ v):=
 ⟨rfl,rfl,rfl,by simp,fun k _ hk=>Below.heap_setCell w _ _ k hk⟩
def tokL (t:Tok):List Value:=[.int .i64 t.kind,.string ⟨t.text.toArray⟩,.int .u64 t.num,.int .i64 (t.place:Int)]
def TokR (w:World)(g:Nat):List Tok→Nat→Prop
 | [],_=>True
 |t :: l,o=>(∀ i v,(tokL t)[i]? = some v→w.cell? ⟨g,o+i,none⟩=some v)∧TokR w g l (o+4)
def TokA (b:Nat)(w:World)(v:Value)(l:List Tok):Prop:=∃ a c,v = .slice a l.length c∧l.length≤c∧c≤maxLen∧(l=[]∨∃ g o,a=some ⟨g,o,none⟩∧g<b∧TokR w g l o)
theorem TokR.keep {b:Nat}{w w':World}(h:KeepR b w w'){g:Nat}(hg:g≠b):∀ {l:List Tok} {o:Nat},TokR w g l o→TokR w' g l o
 | [],_,_=>trivial
 |_ :: _,_,⟨h1,h2⟩=>⟨fun i v hv=>h.cell hg (h1 i v hv),TokR.keep h hg h2⟩
theorem TokA.keep {b:Nat}{w w':World}(h:KeepR b w w'){v:Value}{l:List Tok}(k:TokA b w v l):TokA b w' v l:=by
 obtain⟨a,c,h1,h2,h3,h4⟩:=k
 refine⟨a,c,h1,h2,h3,h4.imp id ?_⟩
 rintro⟨g,o,h5,h6,h7⟩
 exact⟨g,o,h5,h6,h7.keep h (Nat.ne_of_lt h6)⟩
theorem cell_frame {w w':World}{g o:Nat}{v:Value}(h:w'.heap[g]? = w.heap[g]?)(hc:w.cell? ⟨g,o,none⟩=some v):w'.cell? ⟨g,o,none⟩=some v:=by
 unfold World.cell? at hc ⊢
 dsimp only at hc ⊢
 rw[h]
 exact hc
theorem cell_lt' {w:World}{g o:Nat}{v:Value}(h:w.cell? ⟨g,o,none⟩=some v):g<w.heap.size:=by
 unfold World.cell? at h
 dsimp only at h
 rcases Nat.lt_or_ge g w.heap.size with h1|h1
 ·exact h1
 ·rw[Array.getElem?_eq_none h1] at h
  cases h
theorem TokR.frame {w w':World}{g:Nat}(h:w'.heap[g]? = w.heap[g]?):∀ {l:List Tok} {o:Nat},TokR w g l o→TokR w' g l o
 | [],_,_=>trivial
 |_ :: _,_,⟨h1,h2⟩=>⟨fun i v hv=>cell_frame h (h1 i v hv),TokR.frame h h2⟩
theorem TokA.frame {b:Nat}{w w':World}(h:∀ k,k<b→w'.heap[k]? = w.heap[k]?){v:Value}{l:List Tok}(k:TokA b w v l):TokA b w' v l:=by
 obtain⟨a,c,h1,h2,h3,h4⟩:=k
 refine⟨a,c,h1,h2,h3,h4.imp id ?_⟩
 rintro⟨g,o,h5,h6,h7⟩
 exact⟨g,o,h5,h6,h7.frame (h g h6)⟩
mutual
def NodeC (S:Nat→Prop)(w:World):Tr→List Value→Prop
 | .mk k x n p kids,cs=>∃ a c,cs=[.int .i64 (k:Int),.string ⟨x.toArray⟩,.int .u64 (n:Int),.int .i64 (p:Int),.slice a kids.length c]∧(kids=[]∨∃ g o,a=some ⟨g,o,none⟩∧S g∧NodeR S w g kids o)
def NodeR (S:Nat→Prop)(w:World)(g:Nat):List Tr→Nat→Prop
 | [],_=>True
 |t :: l,o=>(∃ v0 v1 v2 v3 v4,w.cell? ⟨g,o,none⟩=some v0∧w.cell? ⟨g,o+1,none⟩=some v1∧w.cell? ⟨g,o+2,none⟩=some v2∧w.cell? ⟨g,o+3,none⟩=some v3∧w.cell? ⟨g,o+4,none⟩=some v4∧NodeC S w t [v0,v1,v2,v3,v4])∧NodeR S w g l (o+5)
end
def NodeV (S:Nat→Prop)(w:World)(t:Tr)(v:Value):Prop:=∃ cs,v = .agg cs.toArray∧NodeC S w t cs
mutual
theorem NodeC.frame {S S':Nat→Prop}{w w':World}(hlo:∀ k,S k→k<w.heap.size→S' k)(h:∀ k,S k→k<w.heap.size→w'.heap[k]? = w.heap[k]?):∀ {t:Tr} {cs:List Value},NodeC S w t cs→NodeC S' w' t cs
 | .mk k x n p kids,cs,hc=>by
  unfold NodeC at hc ⊢
  obtain⟨a,c,h1,h2⟩:=hc
  refine⟨a,c,h1,?_⟩
  rcases h2 with h2|⟨g,o,h3,h4,h5⟩
  ·exact .inl h2
  ·by_cases hk:kids=[]
   ·exact .inl hk
   ·refine .inr ⟨g,o,h3,hlo g h4 ?_,NodeR.frame hlo h h4 h5⟩
    obtain⟨t,l,rfl⟩:=List.exists_cons_of_ne_nil hk
    unfold NodeR at h5
    obtain⟨⟨v0,v1,v2,v3,v4,k0,-⟩,-⟩:=h5
    exact cell_lt' k0
theorem NodeR.frame {S S':Nat→Prop}{w w':World}(hlo:∀ k,S k→k<w.heap.size→S' k)(h:∀ k,S k→k<w.heap.size→w'.heap[k]? = w.heap[k]?){g:Nat}(hg:S g):∀ {l:List Tr} {o:Nat},NodeR S w g l o→NodeR S' w' g l o
 | [],_,_=>by unfold NodeR;trivial
 |t :: l,o,hr=>by
  unfold NodeR at hr ⊢
  obtain⟨⟨v0,v1,v2,v3,v4,h0,h1,h2,h3,h4,h5⟩,h6⟩:=hr
  have hgg:=h g hg (cell_lt' h0)
  exact⟨⟨v0,v1,v2,v3,v4,cell_frame hgg h0,cell_frame hgg h1,cell_frame hgg h2,cell_frame hgg h3,cell_frame hgg h4,NodeC.frame hlo h h5⟩,NodeR.frame hlo h hg h6⟩
end
theorem NodeV.frame {S S':Nat→Prop}{w w':World}(hlo:∀ k,S k→k<w.heap.size→S' k)(h:∀ k,S k→k<w.heap.size→w'.heap[k]? = w.heap[k]?){t:Tr}{v:Value}(k:NodeV S w t v):NodeV S' w' t v:=by
 obtain⟨cs,h1,h2⟩:=k
 exact⟨cs,h1,h2.frame hlo h⟩
abbrev rp (b:Nat):Value := .pointer (some ⟨b,0,none⟩)
structure Env where
 len:Nat
 w0:World
def RdB (b:Nat)(E:Env)(w:World)(l:List Tok)(hd:Bool):Prop:=(∀ k,k<b→w.heap[k]? = E.w0.heap[k]?)∧∃ v,w.heap[b]? = some (.cells #[v,.int .i64 (E.len:Int),.bool hd] 61 (0,0))∧TokA b w v l
theorem RdB.open_ {b:Nat}{E:Env}{w:World}{l:List Tok}{hd:Bool}(h:RdB b E w l hd):∃ a c,w.cell? ⟨b,0,none⟩=some (.slice a l.length c)∧w.cell? ⟨b,1,none⟩=some (.int .i64 (E.len:Int))∧w.cell? ⟨b,2,none⟩=some (.bool hd)∧w.frozen? ⟨b,0,none⟩=false∧w.frozen? ⟨b,2,none⟩=false∧l.length≤c∧c≤maxLen∧(l=[]∨∃ g o,a=some ⟨g,o,none⟩∧g<b∧TokR w g l o):=by
 obtain⟨-,v,hb,a,c,rfl,h1,h2,h3⟩:=h
 refine⟨a,c,?_,?_,?_,?_,?_,h1,h2,h3⟩
 ·unfold World.cell?;rw[hb];rfl
 ·unfold World.cell?;rw[hb];rfl
 ·unfold World.cell?;rw[hb];rfl
 ·unfold World.frozen?;rw[hb];rfl
 ·unfold World.frozen?;rw[hb];rfl
theorem at_c (b:Nat)(E:Env)(l:List Tok)(hd:Bool)(w:World)(h:RdB b E w l hd):Calls Tryz.prog 43 #[rp b] w fun e w'=>e = .returned (.int .i64 (atP E.len l:Int))∧w'=w:=by
 obtain⟨a,c,h0,h1,-,-,-,hlc,-,ht⟩:=h.open_
 cases l with
 |nil=>
  go_enter Tryz.func43, Tryz.ntmps43
  go_wp2
  go_ret
  exact⟨rfl,rfl⟩
 |cons t l=>
  obtain⟨g,o,rfl,hg,htok⟩:=ht.resolve_left (by simp)
  have h3:=htok.1 3 _ rfl
  obtain⟨n,hn⟩:∃ n,(t :: l).length=n+1:=⟨l.length,rfl⟩
  rw[hn] at h0 hlc
  have hne:¬ ((n+1:Nat):Int)=0:=by omega
  clear htok ht hn
  go_enter Tryz.func43, Tryz.ntmps43
  go_wp2
  go_ret
  exact⟨rfl,rfl⟩
def headT:List Tok→Tok
 | []=>⟨0,[],0,0⟩
 |t :: _=>t
abbrev tokA (t:Tok):Value := .agg #[.int .i64 t.kind,.string ⟨t.text.toArray⟩,.int .u64 t.num,.int .i64 (t.place:Int)]
theorem lt_cell {w:World}{g o:Nat}{v:Value}(h:w.cell? ⟨g,o,none⟩=some v):g<w.heap.size:=by
 unfold World.cell? at h
 dsimp only at h
 rcases Nat.lt_or_ge g w.heap.size with h1|h1
 ·exact h1
 ·rw[Array.getElem?_eq_none h1] at h
  cases h
theorem ret_row {fn:Func}{p:Tmp}{ty t:TypeId}{R:Ending→World→Prop}{tmps:Array Value}{W:World}{g:Nat}{cs:Array Value}{fr:Nat×Nat}{fs:Array Field}(h:fn.results = #[.cell p ty])
  (hu:(Tryz.prog).underlying ty=some (.struct fs)) (hi:((Tryz.prog).info? ty).map (·.size)=some cs.size)
  (hp:tmps.getD p undef = .pointer (some ⟨g,0,none⟩)) (hg:W.heap[g]? = some (.cells cs t fr)) (hR:R (.returned (.agg cs)) W):bodyPost Tryz.prog fn R .ret ⟨tmps,[]⟩ W:=
 bodyPost_ret_by (results_cell_row h tmps W g t cs fr _ hp hg hu rfl hi) rfl hR
theorem new_block (w:World)(o:Obj):(w.alloc o).heap[w.heap.size]? = some o:=by
 show (w.heap.push o)[w.heap.size]? = some o
 simp
theorem set_row {W:World}{g:Nat}{cs:Array Value}{t:TypeId}{fr:Nat×Nat}(h:W.heap[g]? = some (.cells cs t fr))(i:Nat)(v:Value):(W.setCell ⟨g,i,none⟩ v).heap[g]? = some (.cells (cs.setIfInBounds i v) t fr):=by
 simp only[World.setCell,Array.getElem?_modify,if_true,h,Option.map_some]
 rfl
theorem peek_c (b:Nat)(E:Env)(l:List Tok)(hd:Bool)(w:World)(h:RdB b E w l hd):Calls Tryz.prog 32 #[rp b] w fun e w'=>e = .returned (tokA (headT l))∧Below w.heap.size w w':=by
 have hb:b<w.heap.size:=by
  obtain⟨-,v,h1,-⟩:=h
  exact(Array.getElem?_eq_some_iff.1 h1).1
 obtain⟨a,c,h0,h1,-,-,-,hlc,-,ht⟩:=h.open_
 cases l with
 |nil=>
  go_enter Tryz.func32, Tryz.ntmps32
  go_wp2
  refine ret_row (g:=w.heap.size) (cs := #[.int .i64 0,.string ⟨#[]⟩,.int .u64 0,.int .i64 0]) (show Tryz.f32.results = #[.cell 2 46] from rfl) Tryz.underlying46 ?_ ?_ (new_block _ _) ?_
  ·kernel_rfl
  ·rfl
  ·exact⟨rfl,(Below.refl _ _).alloc (Nat.le_refl _) _⟩
 |cons t l=>
  obtain⟨g,o,rfl,hg,htok⟩:=ht.resolve_left (by simp)
  have h3:=htok.1 3 _ rfl
  have h4:=htok.1 2 _ rfl
  have h5:=htok.1 1 _ rfl
  have h6:w.cell? ⟨g,o,none⟩=some (.int .i64 t.kind):=htok.1 0 _ rfl
  have hgl:=lt_cell h6
  obtain⟨n,hn⟩:∃ n,(t :: l).length=n+1:=⟨l.length,rfl⟩
  rw[hn] at h0 hlc
  have hne:¬ ((n+1:Nat):Int)=0:=by omega
  clear htok ht hn
  go_enter Tryz.func32, Tryz.ntmps32
  go_wp2
  refine ret_row (g:=w.heap.size) (cs := #[.int .i64 t.kind,.string ⟨t.text.toArray⟩,.int .u64 t.num,.int .i64 (t.place:Int)]) (show Tryz.f32.results = #[.cell 2 46] from rfl) Tryz.underlying46 ?_ ?_ (new_block _ _) ?_
  ·kernel_rfl
  ·rfl
  ·exact⟨rfl,(Below.refl _ _).alloc (Nat.le_refl _) _⟩
end Prs
end Go.Proofs.YtcbkeecabcbogaaGreatDoor
