/- The evaluator's operations: which is which, and that each stands for the model's. No program in sight. The evaluator's operations: all of them. No program in sight. -/
import Derived.Test.YtcbkeecabcbogaaGreatDoorGaf
set_option linter.unusedSimpArgs false
set_option linter.unusedVariables false
namespace Go.Proofs.YtcbkeecabcbogaaGreatDoor
namespace Ev
open Go.RowKit
def evalI (ρ:Env):Option Operand→Option (Option Value)
 |none=>some none
 |some x=>match ρ x with
  |some (.int k i)=>some (some (.int k i))
  |_=>none
theorem evalI_ok {p:Plan}{ρ:Env}{ρ':Operand→Value}(hρ:EnvR p ρ ρ'){o:Option Operand}{r:Option Value}(e:evalI ρ o=some r):o.map ρ'=r:=by
 cases o with
 |none=>cases e;rfl
 |some x=>
  unfold evalI at e
  dsimp only at e
  cases hx:ρ x with
  |none=>rw[hx] at e;cases e
  |some v=>
   rw[hx] at e
   have:=hρ x v hx
   cases v <;> cases e
   cases hv:ρ' x <;> rw[hv] at this <;> cases this
   simp[hv]
section
variable {P:Program} {K:Cfg} {base:Nat→Prop} {w0 w:World} {p:Plan} {h h':Tree AObj} {c c':Nat} {l:Log}
def intFast (op:BinOp)(k:IntKind)(a b:Int):Option Value:=match op with
 | .add=>some (.int k (k.wrap (a+b)))
 | .sub=>some (.int k (k.wrap (a - b)))
 | .mul=>some (.int k (k.wrap (a * b)))
 | .eql=>some (.bool (a==b))
 | .neq=>some (.bool (a != b))
 | .lss=>some (.bool (a<b))
 | .leq=>some (.bool (a≤b))
 | .gtr=>some (.bool (a > b))
 | .geq=>some (.bool (a ≥ b))
 |_=>none
theorem intFast_ok {op:BinOp}{k:IntKind}{a b:Int}{v:Value}(e:intFast op k a b=some v)(t:TypeId)(x y:Operand):(do eqGuard op t x y (.int k a) (.int k b);binOp op t (.int k a) (.int k b):Sem Value)=pure v∧(∃ q,v = .bool q)∨(do eqGuard op t x y (.int k a) (.int k b);binOp op t (.int k a) (.int k b):Sem Value)=pure v∧(∃ n,v = .int k n):=by
 cases op <;> cases e <;> first
  |(refine .inl ⟨?_,_,rfl⟩;simp[eqGuard_at_int,binOp,Op.intCmp];rfl)
  |(refine .inr ⟨?_,_,rfl⟩;simp[eqGuard_at_int,binOp,Op.intArith];rfl)
  |(refine .inl ⟨?_,_,rfl⟩;simp[eqGuard_at_int,binOp,Op.intCmp];done)
  |(refine .inr ⟨?_,_,rfl⟩;simp[eqGuard_at_int,binOp,Op.intArith];done)
def strFast (op:BinOp)(a b:ByteArray):Option Value:=match op with
 | .add=>match Nat.ble (a.data.toList.length+b.data.toList.length) 9223372036854775807 with
  |true=>some (.string ⟨(a.data.toList++b.data.toList).toArray⟩)
  |false=>none
 | .eql=>some (.bool (eqB a.data.toList b.data.toList))
 | .neq=>some (.bool (!(eqB a.data.toList b.data.toList)))
 |_=>none
theorem strFast_ok {op:BinOp}{a b:ByteArray}{v:Value}(e:strFast op a b=some v)(t:TypeId)(x y:Operand)(w:World):(do eqGuard op t x y (.string a) (.string b);binOp op t (.string a) (.string b):Sem Value).run P w = .ok v w∧plainF 9 v=true:=by
 unfold strFast at e
 split at e
 ·split at e
  ·rename_i hl
   cases e
   have hl:=Nat.le_of_ble_eq_true hl
   refine⟨?_,rfl⟩
   have h1:(⟨(a.data.toList++b.data.toList).toArray⟩:ByteArray)=a++b:=by
    have:(a++b).data.toList=a.data.toList++b.data.toList:=by simp
    rw[←this]
   have h2:¬ (((a.size+b.size:Nat):Int) > IntKind.i64.max):=by
    have h3:a.size=a.data.toList.length:=rfl
    have h4:b.size=b.data.toList.length:=rfl
    have h5:IntKind.i64.max=9223372036854775807:=by decide
    rw[h3,h4,h5]
    omega
   rw[h1,eqGuard_at_string]
   simp only[binOp,Op.stringOp]
   rw[if_neg h2]
   rfl
  ·cases e
 ·cases e
  refine⟨?_,rfl⟩
  rw[eqGuard_at_string,eqB_beq]
  simp only[binOp,Op.stringOp,ByteArray.toList_eq]
  rfl
 ·cases e
  refine⟨?_,rfl⟩
  rw[eqGuard_at_string,eqB_beq]
  simp only[binOp,Op.stringOp,ByteArray.toList_eq]
  rfl
 ·cases e
noncomputable def xBinSlow (P:Program)(op:BinOp)(t:TypeId)(x y:Operand)(a b:Value):M AObj OR:=
 if plainF 9 a&&plainF 9 b then plainO P (do eqGuard op t x y a b;binOp op t a b) else ofV (optV (xNils P op t a b))
noncomputable def xBinInt (P:Program)(op:BinOp)(t:TypeId)(x y:Operand)(k k':IntKind)(a b:Int):M AObj OR:=if k=k' then match intFast op k a b with
  |some v=>M.pure (.val v)
  |none=>xBinSlow P op t x y (.int k a) (.int k' b)
 else xBinSlow P op t x y (.int k a) (.int k' b)
noncomputable def xBinStr (P:Program)(op:BinOp)(t:TypeId)(x y:Operand)(a b:ByteArray):M AObj OR:=match strFast op a b with
 |some v=>M.pure (.val v)
 |none=>xBinSlow P op t x y (.string a) (.string b)
def tokEq:List (Nat×Nat×Bool)→Nat→Nat→Option Bool
 | [],_,_=>none
 |x :: l,i,j=>match Nat.beq x.1 i&&Nat.beq x.2.1 j with
  |true=>some x.2.2
  |false=>tokEq l i j
def eqConst (a b:Value):Bool:=match a with
 | .int k n=>(match b with
  | .int k' m=>decide (k=k')&&decide (n=m)
  |_=>false)
 | .string s=>(match b with
  | .string t=>eqB s.data.toList t.data.toList
  |_=>false)
 |_=>false
def tokEqC:List (Nat×Value×Bool)→Nat→Value→Option Bool
 | [],_,_=>none
 |x :: l,i,v=>match Nat.beq x.1 i&&eqConst x.2.1 v with
  |true=>some x.2.2
  |false=>tokEqC l i v
def eqO (op:BinOp)(r:Option Bool):M AObj OR:=match r with
 |some r=>match op with
  | .eql=>M.pure (.val (.bool r))
  | .neq=>M.pure (.val (.bool (!r)))
  |_=>M.fail
 |none=>M.fail
noncomputable def ptrEq (b o b' o':Nat):M AObj Bool:=if b=b' then M.pure (o==o') else M.bind (rdRow b) fun r=>M.bind (rdRow b') fun r'=>
 if o<r.1.length∧o'<r'.1.length∧¬ r.2.2=1 then M.pure false else M.fail
noncomputable def xBinPtr (P:Program)(op:BinOp)(t:TypeId)(b o b' o':Nat):M AObj OR:=match P.underlying t with
 |some (.pointer te)=>match P.info? te with
  |some f=>if f.size=0 then M.fail else M.bind (ptrEq b o b' o') fun r=>match op with
   | .eql=>M.pure (.val (.bool r))
   | .neq=>M.pure (.val (.bool (!r)))
   |_=>M.fail
  |none=>M.fail
 |_=>M.fail
theorem ptrEq_ok {b o b' o':Nat}{r:Bool}(e:ptrEq b o b' o' h c = .ok r h' c' l){s s':Spot}(hs:p b=some s)(hs':p b'=some s')(hr:Rel K base w0 p h w):
  h'=h∧c'=c∧(sameAddr ⟨s.blk,s.off+o,none⟩ ⟨s'.blk,s'.off+o',none⟩).run P w = .ok r w:=by
 unfold ptrEq at e
 split at e
 ·rename_i hb
  subst hb
  obtain rfl:s=s':=Option.some.inj (hs.symm.trans hs')
  obtain⟨rfl,rfl,rfl⟩:=pure_inv e
  refine⟨rfl,rfl,?_⟩
  by_cases ho:o=o'
  ·subst ho
   simp[sameAddr]
  ·have h1:(o==o')=false:=by simpa using ho
   have h2:((⟨s.blk,s.off+o,none⟩:Addr)==⟨s.blk,s.off+o',none⟩)=false:=by
    rw[beq_eq_false_iff_ne]
    intro hq
    injection hq with _ q2
    omega
   simp only[sameAddr,beq_self_eq_true,if_true,h1,h2,Sem.run_pure]
 ·rename_i hb
  obtain⟨r1,h1,c1,l1,l2,e1,e2⟩:=bind_inv e
  obtain⟨e3,rfl,rfl⟩:=rdRow_inv e1
  obtain⟨r2,h2,c2,l3,l4,e4,e5⟩:=bind_inv e2
  obtain⟨e6,rfl,rfl⟩:=rdRow_inv e4
  split at e5
  ·rename_i hc
   obtain⟨k1,k2,k3⟩:=hc
   obtain⟨rfl,rfl,rfl⟩:=pure_inv e5
   refine⟨rfl,rfl,?_⟩
   obtain⟨t1,a1,-,-,A⟩:=hr.at_ _ _ e3
   obtain⟨t2,b1,-,-,B⟩:=hr.at_ _ _ e6
   obtain rfl:t1=s:=Option.some.inj (a1.symm.trans hs)
   obtain rfl:t2=s':=Option.some.inj (b1.symm.trans hs')
   have hne:t1.blk≠t2.blk:=fun q=>hb (hr.one _ _ _ _ _ _ _ e3 e6 hs hs' rfl q)
   obtain⟨bs,fr,A1,A2,A3,A4,A5⟩:=A.at_
   obtain⟨bs',fr',B1,B2,B3,B4,B5⟩:=B.at_
   have hx:ext r1.2.2=1:=by unfold ext;rw[if_neg k3]
   have A5:=A5.1;rw[hx] at A5
   have f1:w.frozen? ⟨t1.blk,t1.off+o,none⟩=false:=by
    unfold World.frozen?;rw[A1];exact A5 (t1.off+o) (by omega)
   have f2:w.frozen? ⟨t2.blk,t2.off+o',none⟩=false:=by
    unfold World.frozen?;rw[B1];exact B5.1 (t2.off+o') (by omega)
   have f3:w.frozen? ⟨t1.blk,bs.size,none⟩=false:=by
    unfold World.frozen?;rw[A1];exact A5 bs.size (by omega)
   have hz:bs'.size≠0:=by omega
   have hbe:(t1.blk==t2.blk)=false:=by rw[beq_eq_false_iff_ne];exact hne
   simp[sameAddr,hne,f1,f2,f3,A1,B1,noView,viewAt,World.shape?,mayBeOne,stringish,hz]
  ·cases e5
theorem xBinPtr_ok {op:BinOp}{t:TypeId}{x y:Operand}{b o b' o':Nat}{a1 a2:Value}{r:OR}(e:xBinPtr P op t b o b' o' h c = .ok r h' c' l)(ha:VR p (.pointer (some ⟨b,o,none⟩)) a1)(hb:VR p (.pointer (some ⟨b',o',none⟩)) a2)(hr:Rel K base w0 p h w):
  GivesO P K base w0 p w c c' h' (do pure (.value (← (do eqGuard op t x y a1 a2;binOp op t a1 a2)))) r:=by
 cases ha with
 |ptr hs=>
 cases hb with
 |ptr hs'=>
 unfold xBinPtr at e
 cases hu:P.underlying t with
 |none=>rw[hu] at e;cases e
 |some d=>
 rw[hu] at e
 cases d with
 |pointer te=>
  dsimp only at e
  cases hf:P.info? te with
  |none=>rw[hf] at e;cases e
  |some f=>
   rw[hf] at e
   dsimp only at e
   by_cases hsz:f.size=0
   ·rw[if_pos hsz] at e;cases e
   ·rw[if_neg hsz] at e
    obtain⟨q,h1,c1,l1,l2,e1,e2⟩:=bind_inv e
    obtain⟨rfl,rfl,hrun⟩:=ptrEq_ok (P:=P) e1 hs hs' hr
    have heq:∀ X Y:Addr,(sameAddr X Y).run P w = .ok q w→(Op.equal t (.pointer (some X)) (.pointer (some Y))).run P w = .ok q w:=by
     intro X Y hrun
     unfold Op.equal Op.maxDepth Op.equalIn
     rw[Sem.run_bind,run_underlying hu w,Result.andThen_ok]
     dsimp only
     rw[Sem.run_bind]
     have:(sizeOf te).run P w = .ok f.size w:=by simp[sizeOf,typeInfo,hf]
     rw[this,Result.andThen_ok,if_pos hsz]
     exact hrun
    have heq:=heq _ _ hrun
    have hg:∀ X Y,eqGuard op t x y (.pointer X) (.pointer Y)=pure ():=fun _ _=>by cases op <;> rfl
    cases op with
    |eql=>
     obtain⟨rfl,rfl,rfl⟩:=pure_inv e2
     refine Gives.quiet hr (y := .value (.bool q)) ?_ ⟨_,rfl,.bool _⟩
     rw[hg _ _]
     simp only[binOp,Sem.run_bind,Sem.run_pure,Result.andThen_ok,heq]
    |neq=>
     obtain⟨rfl,rfl,rfl⟩:=pure_inv e2
     refine Gives.quiet hr (y := .value (.bool (!q))) ?_ ⟨_,rfl,.bool _⟩
     rw[hg _ _]
     simp only[binOp,Sem.run_bind,Sem.run_pure,Result.andThen_ok,heq]
    |_=>cases e2
 |_=>cases e
noncomputable def xBin (P:Program)(K:Cfg)(op:BinOp)(t:TypeId)(x y:Operand)(a b:Value):M AObj OR:=match a with
 | .int k n=>match b with
  | .int k' n'=>xBinInt P op t x y k k' n n'
  |_=>xBinSlow P op t x y a b
 | .chan (some i)=>match b with
  | .chan (some j)=>eqO op (tokEq K.eqs i j)
  |_=>eqO op (tokEqC K.eqc i b)
 | .pointer (some ⟨i,o,none⟩)=>match b with
  | .pointer (some ⟨j,o',none⟩)=>xBinPtr P op t i o j o'
  |_=>xBinSlow P op t x y a b
 | .string s=>match b with
  | .string s'=>xBinStr P op t x y s s'
  |_=>xBinSlow P op t x y a b
 |_=>xBinSlow P op t x y a b
theorem xBinSlow_ok {op:BinOp}{t:TypeId}{x y:Operand}{a b a' b':Value}{r:OR}(e:xBinSlow P op t x y a b h c = .ok r h' c' l)(ha:VR p a a')(hb:VR p b b')(hr:Rel K base w0 p h w):
  GivesO P K base w0 p w c c' h' (do pure (.value (← (do eqGuard op t x y a' b';binOp op t a' b')))) r:=by
 unfold xBinSlow at e
 split at e
 ·rename_i hp
  simp only[Bool.and_eq_true] at hp
  rw[plain_eq 9 _ _ hp.1 ha,plain_eq 9 _ _ hp.2 hb]
  exact plainO_ok e hr
 ·exact ofV_ok e (optV_ok hr fun v hv=>xNils_ok hv ha hb)
theorem tokEq_mem:∀ {l:List (Nat×Nat×Bool)} {i j:Nat} {r:Bool},tokEq l i j=some r→(i,j,r)∈l
 | [],_,_,_,h=>by cases h
 |x :: l,i,j,r,h=>by
  unfold tokEq at h
  cases hb:Nat.beq x.1 i&&Nat.beq x.2.1 j with
  |true=>
   rw[hb] at h
   rw[Bool.and_eq_true] at hb
   obtain⟨a,b,c⟩:=x
   cases h
   rw[←Nat.eq_of_beq_eq_true hb.1,←Nat.eq_of_beq_eq_true hb.2]
   exact List.mem_cons_self ..
  |false=>rw[hb] at h;exact List.mem_cons_of_mem _ (tokEq_mem h)
theorem eqConst_ok {a b:Value}(h:eqConst a b=true):a=b:=by
 unfold eqConst at h
 split at h
 ·split at h
  ·simp at h;rw[h.1,h.2]
  ·cases h
 ·split at h
  ·rename_i s _ t
   have:=Array.toList_inj.1 (eqB_ok h)
   cases s;cases t;exact congrArg _ (congrArg _ this)
  ·cases h
 ·cases h
theorem tokEqC_mem:∀ {l:List (Nat×Value×Bool)} {i:Nat} {v:Value} {r:Bool},tokEqC l i v=some r→(i,v,r)∈l
 | [],_,_,_,h=>by cases h
 |x :: l,i,v,r,h=>by
  unfold tokEqC at h
  cases hb:Nat.beq x.1 i&&eqConst x.2.1 v with
  |true=>
   rw[hb] at h
   rw[Bool.and_eq_true] at hb
   obtain⟨a,b,c⟩:=x
   cases h
   rw[←Nat.eq_of_beq_eq_true hb.1,←eqConst_ok hb.2]
   exact List.mem_cons_self ..
  |false=>rw[hb] at h;exact List.mem_cons_of_mem _ (tokEqC_mem h)
theorem sameV_eql {a b:Value}{r:Bool}(h:SameV a b r)(t:TypeId)(x y:Operand)(w:World):(do eqGuard .eql t x y a b;binOp .eql t a b:Sem Value).run P w = .ok (.bool r) w:=by
 cases h with
 |int k a b=>
  rcases intFast_ok (op := .eql) (k:=k) (a:=a) (b:=b) rfl t x y with ⟨h1,-⟩|⟨h1,n,hn⟩
  ·rw[h1];rfl
  ·cases hn
 |str a b=>exact(strFast_ok (op := .eql) rfl t x y w).1
theorem sameV_neq {a b:Value}{r:Bool}(h:SameV a b r)(t:TypeId)(x y:Operand)(w:World):(do eqGuard .neq t x y a b;binOp .neq t a b:Sem Value).run P w = .ok (.bool (!r)) w:=by
 cases h with
 |int k a b=>
  rcases intFast_ok (op := .neq) (k:=k) (a:=a) (b:=b) rfl t x y with ⟨h1,-⟩|⟨h1,n,hn⟩
  ·rw[h1];rfl
  ·cases hn
 |str a b=>exact(strFast_ok (op := .neq) rfl t x y w).1
theorem eqO_ok {op:BinOp}{t:TypeId}{x y:Operand}{a' b':Value}{q:Option Bool}{r:OR}(e:eqO op q h c = .ok r h' c' l)(hq:∀ r,q=some r→SameV a' b' r)(hr:Rel K base w0 p h w):
  GivesO P K base w0 p w c c' h' (do pure (.value (← (do eqGuard op t x y a' b';binOp op t a' b')))) r:=by
 unfold eqO at e
 cases q with
 |none=>cases e
 |some q=>
  have hs:=hq q rfl
  cases op with
  |eql=>
   obtain⟨rfl,rfl,rfl⟩:=pure_inv e
   have h1:=sameV_eql (P:=P) hs t x y w
   refine Gives.quiet hr (y := .value (.bool q)) ?_ ⟨_,rfl,.bool _⟩
   rw[Sem.run_bind,h1];rfl
  |neq=>
   obtain⟨rfl,rfl,rfl⟩:=pure_inv e
   have h1:=sameV_neq (P:=P) hs t x y w
   refine Gives.quiet hr (y := .value (.bool (!q))) ?_ ⟨_,rfl,.bool _⟩
   rw[Sem.run_bind,h1];rfl
  |_=>cases e
theorem sameV_right {a b b':Value}{r:Bool}(h:SameV a b r)(hb:VR p b b'):b'=b:=by
 cases h <;> cases hb <;> rfl
theorem xBin_ok {op:BinOp}{t:TypeId}{x y:Operand}{a b a' b':Value}{r:OR}(e:xBin P K op t x y a b h c = .ok r h' c' l)(ha:VR p a a')(hb:VR p b b')(hr:Rel K base w0 p h w):
  GivesO P K base w0 p w c c' h' (do pure (.value (← (do eqGuard op t x y a' b';binOp op t a' b')))) r:=by
 cases a with
 |int k n=>
  cases b with
  |int k' n'=>
   replace e:xBinInt P op t x y k k' n n' h c = .ok r h' c' l:=e
   unfold xBinInt at e
   split at e
   ·rename_i hk
    subst hk
    cases hi:intFast op k n n' with
    |none=>rw[hi] at e;exact xBinSlow_ok e ha hb hr
    |some v=>
     rw[hi] at e
     obtain⟨rfl,rfl,rfl⟩:=pure_inv e
     cases ha
     cases hb
     rcases intFast_ok hi t x y with ⟨h1,q,rfl⟩|⟨h1,q,rfl⟩
     ·rw[h1];exact Gives.quiet hr rfl ⟨_,rfl,.bool _⟩
     ·rw[h1];exact Gives.quiet hr rfl ⟨_,rfl,.int _ _⟩
   ·exact xBinSlow_ok e ha hb hr
  |_=>exact xBinSlow_ok e ha hb hr
 |chan ci=>
  cases ci with
  |none=>exact xBinSlow_ok e ha hb hr
  |some i=>
   have key:∀ q,eqO op (tokEqC K.eqc i b) h c=q→eqO op (tokEqC K.eqc i b) h c = .ok r h' c' l→GivesO P K base w0 p w c c' h' (do pure (.value (← (do eqGuard op t x y a' b';binOp op t a' b')))) r:=fun _ _ e=>by
    refine eqO_ok e (fun q hq => ?_) hr
    obtain⟨s,h1,h2⟩:=hr.dis.eqc _ (tokEqC_mem hq)
    cases ha with
    |tok hs _=>
     rw[hs] at h1;cases h1
     rw[sameV_right h2 hb];exact h2
   have key2:∀ j,b = .chan (some j)→eqO op (tokEq K.eqs i j) h c = .ok r h' c' l→GivesO P K base w0 p w c c' h' (do pure (.value (← (do eqGuard op t x y a' b';binOp op t a' b')))) r:=fun j hj e=>by
    subst hj
    refine eqO_ok e (fun q hq => ?_) hr
    obtain⟨s,s2,h1,h3,h2⟩:=hr.dis.eqs _ (tokEq_mem hq)
    cases ha with
    |tok hs _=>
    cases hb with
    |tok hs2 _=>
     rw[hs] at h1;cases h1
     rw[hs2] at h3;cases h3
     exact h2
   cases b with
   |chan cj=>
    cases cj with
    |none=>exact key _ rfl e
    |some j=>exact key2 j rfl e
   |_=>exact key _ rfl e
 |pointer pi=>
  cases pi with
  |none=>exact xBinSlow_ok e ha hb hr
  |some ai=>
   obtain⟨i,o,sp⟩:=ai
   cases sp with
   |some=>exact xBinSlow_ok e ha hb hr
   |none=>
    cases b with
    |pointer pj=>
     cases pj with
     |none=>exact xBinSlow_ok e ha hb hr
     |some aj=>
      obtain⟨j,o',sp'⟩:=aj
      cases sp' with
      |some=>exact xBinSlow_ok e ha hb hr
      |none=>exact xBinPtr_ok e ha hb hr
    |_=>exact xBinSlow_ok e ha hb hr
 |string s=>
  cases b with
  |string s'=>
   replace e:xBinStr P op t x y s s' h c = .ok r h' c' l:=e
   unfold xBinStr at e
   cases hi:strFast op s s' with
   |none=>rw[hi] at e;exact xBinSlow_ok e ha hb hr
   |some v=>
    rw[hi] at e
    cases ha
    cases hb
    exact val_ok (strFast_ok hi t x y w).1 (strFast_ok (P:=P) hi t x y w).2 e hr
  |_=>exact xBinSlow_ok e ha hb hr
 |_=>exact xBinSlow_ok e ha hb hr
def plain1 (P:Program)(f:Value→Sem Value)(a:Value):M AObj OR:=if plainF 9 a then plainO P (f a) else M.fail
theorem plain1_ok {f:Value→Sem Value}{a a':Value}{r:OR}(e:plain1 P f a h c = .ok r h' c' l)(ha:VR p a a')(hr:Rel K base w0 p h w):
  GivesO P K base w0 p w c c' h' (do pure (.value (← f a'))) r:=by
 unfold plain1 at e
 split at e
 ·rename_i hp
  rw[plain_eq 9 _ _ hp ha]
  exact plainO_ok e hr
 ·cases e
def xPanic (P:Program)(v:Value):M AObj OR:=match v with
 | .iface t u=>M.pure (.panic (.iface t u))
 |v=>plain1 P Instr.panic v
theorem xPanic_ok {v v':Value}{r:OR}(e:xPanic P v h c = .ok r h' c' l)(hv:VR p v v')(hr:Rel K base w0 p h w):
  GivesO P K base w0 p w c c' h' (do pure (.value (← Instr.panic v'))) r:=by
 unfold xPanic at e
 split at e
 ·obtain⟨rfl,rfl,rfl⟩:=pure_inv e
  cases hv with
  |iface _ h=>exact⟨_,rfl,.iface _ h,hr,rfl⟩
 ·exact plain1_ok e hv hr
def xNilO (v:Value):M AObj OR:=match xNilCheck v with
 |some v=>M.pure (.val v)
 |none=>M.fail
theorem xNilO_ok {v v':Value}{r:OR}(e:xNilO v h c = .ok r h' c' l)(hv:VR p v v')(hr:Rel K base w0 p h w){o:Oper}{x:Operand}{ρ':Operand→Value}(ho:o.op = .nilCheck x)(hx:ρ' x=v'):
  GivesO P K base w0 p w c c' h' (execOp ρ' o) r:=by
 have key:∀ u,xNilCheck v=some u→u=v∧execOp ρ' o=pure (.value v'):=by
  intro u hu
  unfold execOp
  rw[ho]
  dsimp only
  rw[hx]
  unfold xNilCheck at hu
  split at hu <;> first
   |(cases hu;cases hv <;> exact⟨rfl,rfl⟩)
   |cases hu
 unfold xNilO at e
 cases hn:xNilCheck v with
 |none=>rw[hn] at e;cases e
 |some u=>
  rw[hn] at e
  obtain⟨rfl,k⟩:=key u hn
  obtain⟨rfl,rfl,rfl⟩:=pure_inv e
  rw[k]
  exact Gives.quiet hr rfl ⟨v',rfl,hv⟩
def okV (ok:Bool)(v:Value):Value:=if ok then .tuple #[v,.bool true] else v
def noV (P:Program)(ok:Bool)(t:TypeId):Option Value:=if ok then match tiOf P t with
 |some i=>some (.tuple #[i.zero,.bool false])
 |none=>none
 else none
def xAssert (P:Program)(v:Value)(t:TypeId)(ok:Bool):Option Value:=match v with
 | .iface d u=>match P.underlying t with
  |some (.interface want)=>match P.info? d with
   |some i=>match Instr.missingMethod want i.methods with
    |none=>some (okV ok (.iface d u))
    |some _=>noV P ok t
   |none=>none
  |some _=>if d=t then some (okV ok u) else noV P ok t
  |none=>none
 |_=>none
theorem okV_vr {ok:Bool}{v v':Value}(h:VR p v v'):VR p (okV ok v) (okV ok v'):=by
 unfold okV
 split
 ·exact .tuple (.cons h (.cons (.bool _) .nil))
 ·exact h
theorem noV_ok {ok:Bool}{t:TypeId}{r:Value}(e:noV P ok t=some r):ok=true∧∃ z,r = .tuple #[z,.bool false]∧VR p z z∧∀ w,(zeroValue t).run P w = .ok z w:=by
 unfold noV at e
 split at e
 ·rename_i ho
  cases hi:tiOf P t with
  |none=>rw[hi] at e;cases e
  |some i=>
   rw[hi] at e
   cases e
   have ht:=tiOf_ok hi
   exact⟨ho,i.zero,rfl,plain_vr 9 _ ht.plain,fun w=>run_zero ht w⟩
 ·cases e
theorem xAssert_ok {v v' r:Value}{xT t:TypeId}{ok:Bool}(e:xAssert P v t ok=some r)(hv:VR p v v'):Pures P p (Instr.typeAssert v' xT t ok) VR r:=by
 intro w
 unfold xAssert at e
 cases v with
 |iface d u=>
  cases hv with
  |iface _ hu=>
  rename_i u'
  dsimp only at e
  cases hd:P.underlying t with
  |none=>rw[hd] at e;cases e
  |some td=>
   rw[hd] at e
   have conc:(if d=t then some (okV ok u) else noV P ok t)=some r→(∀ ms,td ≠ .interface ms)→∃ y,(Instr.typeAssert (.iface d u') xT t ok).run P w = .ok y w∧VR p r y:=by
    intro e hni
    have run:(Instr.typeAssert (.iface d u') xT t ok).run P w=(if d=t then pure (okV ok u') else if ok then do pure (.tuple #[←zeroValue t,.bool false]) else runtimePanic (.typeAssertion (some xT) (some d) t ""):Sem Value).run P w:=by
     unfold Instr.typeAssert
     rw[Sem.run_bind,run_underlying hd w,Result.andThen_ok]
     cases td <;> first
      |rfl
      |exact absurd rfl (hni _)
    rw[run]
    split at e
    ·rename_i hdt
     cases e
     rw[if_pos hdt]
     exact⟨_,rfl,okV_vr hu⟩
    ·rename_i hdt
     obtain⟨rfl,z,rfl,hz,hrun⟩:=noV_ok (p:=p) e
     rw[if_neg hdt,if_pos rfl,Sem.run_bind,hrun,Result.andThen_ok]
     exact⟨_,rfl,.tuple (.cons hz (.cons (.bool _) .nil))⟩
   cases td with
   |interface want=>
    dsimp only at e
    cases hi:P.info? d with
    |none=>rw[hi] at e;cases e
    |some i=>
     rw[hi] at e
     dsimp only at e
     have hti:(typeInfo d).run P w = .ok i w:=by simp[typeInfo,hi]
     cases hm:Instr.missingMethod want i.methods with
     |none=>
      rw[hm] at e
      cases e
      refine⟨okV ok (.iface d u'),?_,okV_vr (.iface d hu)⟩
      unfold Instr.typeAssert
      simp only[Sem.run_bind,run_underlying hd w,Result.andThen_ok,hti,hm]
      rfl
     |some m=>
      rw[hm] at e
      obtain⟨rfl,z,rfl,hz,hrun⟩:=noV_ok (p:=p) e
      refine⟨.tuple #[z,.bool false],?_,.tuple (.cons hz (.cons (.bool _) .nil))⟩
      unfold Instr.typeAssert
      simp only[Sem.run_bind,run_underlying hd w,Result.andThen_ok,hti,hm,if_true,hrun]
      rfl
   |_=>exact conc e (fun ms hms=>by cases hms)
 |_=>cases e
def goBody (P:Program)(g:FuncId):Bool:=match P.funcs[g]? with
 |some fn => !(fn.name == "runtime.NumGoroutine")&&fn.body.isSome
 |none=>false
theorem run_callFunc {g:FuncId}(hg:goBody P g=true)(args:Array Value)(w:World):(callFunc g args).run P w = .ok (.enter g args) w:=by
 unfold goBody at hg
 cases hf:P.funcs[g]? with
 |none=>rw[hf] at hg;cases hg
 |some fn=>
  rw[hf] at hg
  simp only[Bool.and_eq_true,Bool.not_eq_true'] at hg
  unfold callFunc
  rw[Sem.run_bind]
  show Result.andThen (.ok P w) _=_
  rw[Result.andThen_ok,hf]
  dsimp only
  rw[if_neg (by rw[hg.1];simp),if_neg (by cases hb:fn.body <;> simp_all)]
  rfl
def xCallee (P:Program)(fv:Value)(vs:List Value):Option (FuncId×List Value):=match fv with
 | .func (.func g) first captured=>if goBody P g then some (g,first.toList++vs++captured.toList) else none
 |_=>none
theorem xCallee_ok {fv fv':Value}{vs:List Value}{vs':Array Value}{g:FuncId}{args:List Value}(e:xCallee P fv vs=some (g,args))(hf:VR p fv fv')(hv:VRs p vs vs'.toList):
  goBody P g=true∧∃ first captured,fv' = .func (.func g) first captured∧VRs p args ((first++vs')++captured).toList:=by
 unfold xCallee at e
 split at e
 ·split at e
  ·rename_i hg
   cases e
   cases hf with
   |func _ h1 h2=>
    refine⟨hg,_,_,rfl,?_⟩
    simp only[Array.toList_append]
    exact(h1.append hv).append h2
  ·cases e
 ·cases e
noncomputable def xBuiltin (P:Program)(K:Cfg)(b:Builtin)(ats:Array TypeId)(ty:TypeId)(args:List Value):M AObj OR:=match b with
 | .append=>match ats.toList with
  | [t,tx]=>match args with
   | [s,x]=>match x with
    | .int _ _=>ofV (xAppendZ P t tx s x)
    |_=>ofV (xAppend P K t tx s x)
   |_=>M.fail
  |_=>M.fail
 | .len=>match ats[0]? with
  |some t=>match args with
   |v :: _=>ofV (xLen P t v)
   | []=>M.fail
  |none=>M.fail
 | .cap=>match ats[0]? with
  |some t=>match args with
   |v :: _=>ofV (xCap P t v)
   | []=>M.fail
  |none=>M.fail
 | .copy=>match ats.toList with
  | [t,tx]=>match args with
   | [d,x]=>ofV (xCopy P K t d x)
   |_=>M.fail
  |_=>M.fail
 | .max=>if args.all (plainF 9) then plainO P (Builtin.max_ ats ty args.toArray) else M.fail
 | .min=>if args.all (plainF 9) then plainO P (Builtin.min_ ats ty args.toArray) else M.fail
 | .recover=>M.pure .recover
 |_=>M.fail
theorem xBuiltin_ok {b:Builtin}{ats:Array TypeId}{ty:TypeId}{consts:Array Bool}{args:List Value}{args':Array Value}{r:OR}(e:xBuiltin P K b ats ty args h c = .ok r h' c' l)(ha:VRs p args args'.toList)(hr:Rel K base w0 p h w)(hf:Free p c c'):
  GivesO P K base w0 p w c c' h' (builtin b ats ty consts args') r:=by
 unfold xBuiltin at e
 have hall:∀ s:Array Value→Sem Value,(if args.all (plainF 9) then plainO P (s args.toArray) else M.fail) h c = .ok r h' c' l→GivesO P K base w0 p w c c' h' (do pure (.value (← s args'))) r:=by
  intro s es
  split at es
  ·rename_i hp
   have:args'=args.toArray:=by
    have:=plains_eq (p:=p) (fun v v'=>plain_eq 9 v v') hp ha
    apply Array.toList_inj.1
    rw[this]
   rw[this]
   exact plainO_ok es hr
  ·cases es
 cases b with
 |append=>
  dsimp only at e
  cases hl:ats.toList with
  |nil=>rw[hl] at e;cases e
  |cons t l1=>
   cases l1 with
   |nil=>rw[hl] at e;cases e
   |cons tx l2=>
    cases l2 with
    |cons=>rw[hl] at e;cases e
    |nil=>
     rw[hl] at e
     dsimp only at e
     obtain rfl:ats = #[t,tx]:=Array.toList_inj.1 hl
     cases ha':args'.toList with
     |nil=>rw[ha'] at ha;cases ha;cases e
     |cons s' m1=>
      rw[ha'] at ha
      cases ha with
      |cons hs hm=>
       cases hm with
       |nil=>cases e
       |cons hx hn=>
        cases hn with
        |cons=>cases e
        |nil=>
         obtain rfl:args' = #[_,_]:=Array.toList_inj.1 ha'
         dsimp only at e
         split at e
         ·exact ofV_ok e fun v l' ev=>xAppendZ_ok ev hs hx hr hf
         ·exact ofV_ok e fun v l' ev=>xAppend_ok ev hs hx hr hf
 |len=>
  dsimp only at e
  cases ht:ats[0]? with
  |none=>rw[ht] at e;cases e
  |some t=>
   rw[ht] at e
   cases ha':args'.toList with
   |nil=>rw[ha'] at ha;cases ha;cases e
   |cons s' m1=>
    rw[ha'] at ha
    cases ha with
    |cons hs hm=>
     have h0:args'[0]? = some s':=by
      have:args'.toList[0]? = some s':=by rw[ha'];rfl
      simpa using this
     exact ofV_ok e fun v l' ev=>xLen_ok ev ht h0 hs hr
 |cap=>
  dsimp only at e
  cases ht:ats[0]? with
  |none=>rw[ht] at e;cases e
  |some t=>
   rw[ht] at e
   cases ha':args'.toList with
   |nil=>rw[ha'] at ha;cases ha;cases e
   |cons s' m1=>
    rw[ha'] at ha
    cases ha with
    |cons hs hm=>
     have h0:args'[0]? = some s':=by
      have:args'.toList[0]? = some s':=by rw[ha'];rfl
      simpa using this
     exact ofV_ok e fun v l' ev=>xCap_ok ev ht h0 hs hr
 |copy=>
  dsimp only at e
  cases hl:ats.toList with
  |nil=>rw[hl] at e;cases e
  |cons t l1=>
   cases l1 with
   |nil=>rw[hl] at e;cases e
   |cons tx l2=>
    cases l2 with
    |cons=>rw[hl] at e;cases e
    |nil=>
     rw[hl] at e
     dsimp only at e
     obtain rfl:ats = #[t,tx]:=Array.toList_inj.1 hl
     cases ha':args'.toList with
     |nil=>rw[ha'] at ha;cases ha;cases e
     |cons s' m1=>
      rw[ha'] at ha
      cases ha with
      |cons hs hm=>
       cases hm with
       |nil=>cases e
       |cons hx hn=>
        cases hn with
        |cons=>cases e
        |nil=>
         obtain rfl:args' = #[_,_]:=Array.toList_inj.1 ha'
         exact ofV_ok e fun v l' ev=>xCopy_ok ev hs hx hr
 |max=>exact hall _ e
 |min=>exact hall _ e
 |recover=>
  obtain⟨rfl,rfl,rfl⟩:=pure_inv e
  exact Gives.quiet (R:=fun _ (_:Unit) n=>n=Next.recover) (x:=()) hr (y:=Next.recover) rfl rfl
 |_=>cases e
end
end Ev
end Go.Proofs.YtcbkeecabcbogaaGreatDoor
namespace Go.Proofs.YtcbkeecabcbogaaGreatDoor
namespace Ev
open Go.RowKit
section
variable {P:Program} {K:Cfg} {base:Nat→Prop} {w0 w:World} {p:Plan} {h h':Tree AObj} {c c':Nat} {l:Log}
noncomputable def xConv (P:Program)(s d:TypeId)(v:Value):M AObj OR:=match v with
 | .string str=>match P.underlying d with
  |some (.slice _)=>ofV (xStrBytes P s d str)
  |_=>plain1 P (convert s d) v
 |v=>plain1 P (convert s d) v
theorem xConv_ok {s d:TypeId}{a a':Value}{r:OR}(e:xConv P s d a h c = .ok r h' c' l)(ha:VR p a a')(hr:Rel K base w0 p h w)(hf:Free p c c'):GivesO P K base w0 p w c c' h' (do pure (.value (← convert s d a'))) r:=by
 cases a with
 |string str=>
  unfold xConv at e
  dsimp only at e
  cases hd:P.underlying d with
  |none=>rw[hd] at e;exact plain1_ok e ha hr
  |some u=>
   rw[hd] at e
   cases u with
   |slice el=>exact ofV_ok e fun v l' ev=>xStrBytes_ok ev ha hr hf
   |_=>exact plain1_ok e ha hr
 |_=>exact plain1_ok e ha hr
def xExtern (P:Program)(fv:Value)(vs:List Value):Option Value:=match fv with
 | .func (.func g) first captured=>if (first.toList++vs++captured.toList).all (plainF 9) then match pureOf P (callFunc g (first.toList++vs++captured.toList).toArray) with
   |some (.ok (.value v))=>if plainF 9 v then some v else none
   |_=>none
  else none
 |_=>none
theorem xExtern_ok {fv fv':Value}{vs:List Value}{vs':Array Value}{v:Value}(e:xExtern P fv vs=some v)(hf:VR p fv fv')(hv:VRs p vs vs'.toList):
  plainF 9 v=true∧∃ g first captured,fv' = .func (.func g) first captured∧∀ w,(callFunc g ((first++vs')++captured)).run P w = .ok (.value v) w:=by
 unfold xExtern at e
 split at e
 ·rename_i g first captured
  split at e
  ·rename_i hall
   split at e
   ·rename_i u hu
    split at e
    ·rename_i hp
     cases e
     refine⟨hp,?_⟩
     cases hf with
     |func _ h1 h2=>
      rename_i first' captured'
      refine⟨g,first',captured',rfl,fun w => ?_⟩
      have hl:=plains_eq (p:=p) (fun v v'=>plain_eq 9 v v') hall ((h1.append hv).append h2)
      have:(first'++vs')++captured'=(first.toList++vs++captured.toList).toArray:=by
       apply Array.toList_inj.1
       rw[←hl]
       simp
      rw[this]
      exact pureOf_ok _ hu w
    ·cases e
   ·cases e
  ·cases e
 ·cases e
def xCall (P:Program)(fv:Value)(vs:List Value):M AObj OR:=match xCallee P fv vs with
 |some g=>M.pure (.enter g.1 g.2)
 |none=>match xExtern P fv vs with
  |some v=>M.pure (.val v)
  |none=>M.fail
noncomputable def xOp (P:Program)(K:Cfg)(ρ:Env)(o:Oper):M AObj OR:=match o.op with
 | .move x=>withV (ρ x) fun v=>M.pure (.val v)
 | .assign x=>withV (ρ x) fun v=>M.pure (.val v)
 | .pick q x y=>withV (ρ q) fun b=>match b with
  | .bool true=>withV (ρ x) fun v=>M.pure (.val v)
  | .bool false=>withV (ρ y) fun v=>M.pure (.val v)
  |_=>M.fail
 | .alloc t=>ofV (xAlloc P t)
 | .box t x=>withV (ρ x) fun v=>ofV (xBox t v)
 | .build t ps=>M.bind (liftO (evalsP ρ ps.toList)) fun vs=>ofV (optV (xBuild P t vs))
 | .buildSlice t n ps=>M.bind (liftO (evalsP ρ ps.toList)) fun vs=>ofV (xBuildSlice P t n vs)
 | .load t x=>withV (ρ x) fun v=>ofV (xLoad P t v)
 | .range t x=>withV (ρ x) fun v=>ofV (xRange P t v)
 | .next x is=>withV (ρ x) fun v=>ofV (xNext K v is)
 | .store t a x=>withV (ρ a) fun v=>withV (ρ x) fun u=>ofU (xStore P K t v u)
 | .nilCheck x=>withV (ρ x) fun v=>xNilO v
 | .binOp op t x y _=>withV (ρ x) fun a=>withV (ρ y) fun b=>xBin P K op t x y a b
 | .unOp op _ x=>withV (ρ x) fun v=>plain1 P (Op.unary op) v
 | .convert s d x=>withV (ρ x) fun v=>xConv P s d v
 | .makeInterface t x=>withV (ρ x) fun v=>ofV (optV (xMkIface P t v))
 | .makeFunc (.func f) first captured=>M.bind (liftO (evals ρ first.toList)) fun a=>M.bind (liftO (evals ρ captured.toList)) fun b=>M.pure (.val (.func (.func f) a.toArray b.toArray))
 | .makeMap _ none=>ofV xMakeMap
 | .makeSlice t a b=>withV (ρ a) fun u=>withV (ρ b) fun v=>ofV (xMakeSlice P t u v)
 | .slice t x lo hi mx=>withV (ρ x) fun v=>M.bind (liftO (evalI ρ lo)) fun a=>M.bind (liftO (evalI ρ hi)) fun b=>M.bind (liftO (evalI ρ mx)) fun d=>
  if plainF 9 v then (match xStr P t v a b d with
   |some r=>M.pure (.val r)
   |none=>plainO P (Instr.sliceAt t v a b d)) else ofV (xSlice P t v a b d)
 | .fieldAddr t x i=>withV (ρ x) fun v=>ofV (optV (xFieldAddr P t v i))
 | .field t x i=>withV (ρ x) fun v=>ofV (optV (xField P t v i))
 | .indexAddr t x y=>withV (ρ x) fun a=>withV (ρ y) fun b=>ofV (optV (xIndexAddr P t a b))
 | .index t x y=>withV (ρ x) fun a=>withV (ρ y) fun b=>if plainF 9 a&&plainF 9 b then plainO P (Instr.index t a b) else ofV (optV (xIndex P t a b))
 | .lookup t x y ok=>withV (ρ x) fun a=>withV (ρ y) fun b=>ofV (xLookup P t a b ok)
 | .mapUpdate t x y z=>withV (ρ x) fun a=>withV (ρ y) fun b=>withV (ρ z) fun d=>ofU (xMapUpdate P K t a b d)
 | .insert t x y z=>withV (ρ x) fun a=>withV (ρ y) fun b=>withV (ρ z) fun d=>ofU (xMapUpdate P K t a b d)
 | .extract x i=>withV (ρ x) fun v=>ofV (optV (xExtract v i))
 | .panic x=>withV (ρ x) fun v=>xPanic P v
 | .typeAssert x xT t ok=>withV (ρ x) fun v=>if plainF 9 v then plainO P (Instr.typeAssert v xT t ok) else ofV (optV (xAssert P v t ok))
 | .call q=>M.bind (liftO (evals ρ q.args.toList)) fun vs=>match q.callee with
  | .value f=>withV (ρ f) fun fv=>xCall P fv vs
  | .builtin b=>xBuiltin P K b q.argTypes o.type vs
  |_=>M.fail
 | .defer q=>M.bind (liftO (evals ρ q.args.toList)) fun vs=>match q.callee with
  | .value f=>withV (ρ f) fun fv=>M.bind (liftO (xCallee P fv vs)) fun g=>M.pure (.defer g.1 g.2)
  |_=>M.fail
 |_=>M.fail
theorem liftB_inv {α β γ:Type}{h h2:Tree α}{c c2:Nat}{l:Log}{o:Option β}{f:β→M α γ}{y:γ}(e:M.bind (liftO o) f h c = .ok y h2 c2 l):∃ v l',o=some v∧f v h c = .ok y h2 c2 l':=by
 obtain⟨v,h1,c1,l1,l2,e1,e2⟩:=bind_inv e
 obtain⟨e3,rfl,rfl⟩:=liftO_inv e1
 exact⟨v,l2,e3,e2⟩
theorem xOp_ok {ρ:Env}{ρ':Operand→Value}{o:Oper}{r:OR}(e:xOp P K ρ o h c = .ok r h' c' l)(hρ:EnvR p ρ ρ')(hr:Rel K base w0 p h w)(hf:Free p c c'):GivesO P K base w0 p w c c' h' (execOp ρ' o) r:=by
 unfold xOp at e
 have hnil:∀ x v,o.op = .nilCheck x→ρ x=some v→xNilO v h c = .ok r h' c' l→GivesO P K base w0 p w c c' h' (execOp ρ' o) r:=fun x v ho hx e=>xNilO_ok e (hρ x v hx) hr ho rfl
 cases hop:o.op <;> rw[hop] at e <;> try dsimp only at e
 case nilCheck x=>
  obtain⟨v,hx,e⟩:=withV_inv e
  exact hnil x v hop hx e
 all_goals (unfold execOp;rw[hop];try dsimp only)
 case move x=>
  obtain⟨v,hx,e⟩:=withV_inv e
  obtain⟨rfl,rfl,rfl⟩:=pure_inv e
  exact Gives.quiet hr rfl ⟨_,rfl,hρ _ _ hx⟩
 case assign x=>
  obtain⟨v,hx,e⟩:=withV_inv e
  obtain⟨rfl,rfl,rfl⟩:=pure_inv e
  exact Gives.quiet hr rfl ⟨_,rfl,hρ _ _ hx⟩
 case pick q x y=>
  obtain⟨b,hq,e⟩:=withV_inv e
  have hb:=hρ _ _ hq
  split at e
  ·obtain⟨v,hx,e⟩:=withV_inv e
   obtain⟨rfl,rfl,rfl⟩:=pure_inv e
   cases hq':ρ' q <;> rw[hq'] at hb <;> cases hb
   exact Gives.quiet hr rfl ⟨_,rfl,hρ _ _ hx⟩
  ·obtain⟨v,hx,e⟩:=withV_inv e
   obtain⟨rfl,rfl,rfl⟩:=pure_inv e
   cases hq':ρ' q <;> rw[hq'] at hb <;> cases hb
   exact Gives.quiet hr rfl ⟨_,rfl,hρ _ _ hx⟩
  ·cases e
 case alloc t=>exact ofV_ok e fun v l' ev=>xAlloc_ok ev hr hf
 case box t x=>
  obtain⟨v,hx,e⟩:=withV_inv e
  exact ofV_ok e fun v l' ev=>xBox_ok ev (hρ _ _ hx) hr hf
 case build t ps=>
  obtain⟨vs,l1,e3,e2⟩:=liftB_inv e
  exact ofV_ok e2 (optV_ok hr fun v hv=>xBuild_ok hv (by simpa using evalsP_pr hρ e3))
 case buildSlice t n ps=>
  obtain⟨vs,l1,e3,e2⟩:=liftB_inv e
  exact ofV_ok e2 fun v l' ev=>xBuildSlice_ok ev (by simpa using evalsP_pr hρ e3) hr hf
 case range t x=>
  obtain⟨v,hx,e⟩:=withV_inv e
  exact ofV_ok e fun u l' eu=>xRange_ok eu (hρ _ _ hx) hr hf
 case next x is=>
  obtain⟨v,hx,e⟩:=withV_inv e
  exact ofV_ok e fun u l' eu=>xNext_ok eu (hρ _ _ hx) hr
 case load t x=>
  obtain⟨v,hx,e⟩:=withV_inv e
  exact ofV_ok e fun v l' ev=>xLoad_ok ev (hρ _ _ hx) hr
 case store t a x=>
  obtain⟨v,hx,e⟩:=withV_inv e
  obtain⟨u,hy,e⟩:=withV_inv e
  exact ofU_ok e fun v l' ev=>xStore_ok ev (hρ _ _ hx) (hρ _ _ hy) hr
 case binOp op t x y q=>
  obtain⟨v,hx,e⟩:=withV_inv e
  obtain⟨u,hy,e⟩:=withV_inv e
  exact xBin_ok e (hρ _ _ hx) (hρ _ _ hy) hr
 case unOp op t x=>
  obtain⟨v,hx,e⟩:=withV_inv e
  exact plain1_ok e (hρ _ _ hx) hr
 case convert s d x=>
  obtain⟨v,hx,e⟩:=withV_inv e
  exact xConv_ok e (hρ _ _ hx) hr hf
 case makeInterface t x=>
  obtain⟨v,hx,e⟩:=withV_inv e
  exact ofV_ok e (optV_ok hr fun v hv=>xMkIface_ok hv (hρ _ _ hx))
 case makeFunc f first captured=>
  cases f with
  |func f=>
   obtain⟨xs,l1,e3,e⟩:=liftB_inv e
   obtain⟨bs,l1,e4,e⟩:=liftB_inv e
   obtain⟨rfl,rfl,rfl⟩:=pure_inv e
   exact Gives.quiet hr rfl ⟨_,rfl,.func f (by simpa using evals_vrs hρ e3) (by simpa using evals_vrs hρ e4)⟩
  |_=>cases e
 case makeMap t q=>
  cases q with
  |none=>exact ofV_ok e fun v l' ev=>xMakeMap_ok ev hr hf
  |some=>cases e
 case makeSlice t a b=>
  obtain⟨v,hx,e⟩:=withV_inv e
  obtain⟨u,hy,e⟩:=withV_inv e
  exact ofV_ok e fun v l' ev=>xMakeSlice_ok ev (hρ _ _ hx) (hρ _ _ hy) hr hf
 case slice t x lo hi mx=>
  obtain⟨v,hx,e⟩:=withV_inv e
  obtain⟨a,l1,e3,e⟩:=liftB_inv e
  obtain⟨b,l1,e4,e⟩:=liftB_inv e
  obtain⟨d,l1,e5,e⟩:=liftB_inv e
  rw[evalI_ok hρ e3,evalI_ok hρ e4,evalI_ok hρ e5]
  split at e
  ·rename_i hp
   rw[plain_eq 9 _ _ hp (hρ _ _ hx)]
   cases hs:xStr P t v a b d with
   |some r=>
    rw[hs] at e
    exact val_ok (xStr_ok hs w).1 (xStr_ok (P:=P) hs w).2 e hr
   |none=>
    rw[hs] at e
    exact plainO_ok e hr
  ·exact ofV_ok e fun v l' ev=>xSlice_ok ev (hρ _ _ hx) hr
 case fieldAddr t x i=>
  obtain⟨v,hx,e⟩:=withV_inv e
  exact ofV_ok e (optV_ok hr fun v hv=>xFieldAddr_ok hv (hρ _ _ hx))
 case field t x i=>
  obtain⟨v,hx,e⟩:=withV_inv e
  exact ofV_ok e (optV_ok hr fun v hv=>xField_ok hv (hρ _ _ hx))
 case indexAddr t x y=>
  obtain⟨v,hx,e⟩:=withV_inv e
  obtain⟨u,hy,e⟩:=withV_inv e
  exact ofV_ok e (optV_ok hr fun v hv=>xIndexAddr_ok hv (hρ _ _ hx) (hρ _ _ hy))
 case index t x y=>
  obtain⟨v,hx,e⟩:=withV_inv e
  obtain⟨u,hy,e⟩:=withV_inv e
  split at e
  ·rename_i hp
   simp only[Bool.and_eq_true] at hp
   rw[plain_eq 9 _ _ hp.1 (hρ _ _ hx),plain_eq 9 _ _ hp.2 (hρ _ _ hy)]
   exact plainO_ok e hr
  ·exact ofV_ok e (optV_ok hr fun v hv=>xIndex_ok hv (hρ _ _ hx) (hρ _ _ hy))
 case lookup t x y ok=>
  obtain⟨v,hx,e⟩:=withV_inv e
  obtain⟨u,hy,e⟩:=withV_inv e
  exact ofV_ok e fun v l' ev=>xLookup_ok ev (hρ _ _ hx) (hρ _ _ hy) hr
 case mapUpdate t x y z=>
  obtain⟨v,hx,e⟩:=withV_inv e
  obtain⟨u,hy,e⟩:=withV_inv e
  obtain⟨q,hz,e⟩:=withV_inv e
  exact ofU_ok e fun v l' ev=>xMapUpdate_ok ev (hρ _ _ hx) (hρ _ _ hy) (hρ _ _ hz) hr
 case insert t x y z=>
  obtain⟨v,hx,e⟩:=withV_inv e
  obtain⟨u,hy,e⟩:=withV_inv e
  obtain⟨q,hz,e⟩:=withV_inv e
  exact ofU_ok e fun v l' ev=>xMapUpdate_ok ev (hρ _ _ hx) (hρ _ _ hy) (hρ _ _ hz) hr
 case extract x i=>
  obtain⟨v,hx,e⟩:=withV_inv e
  exact ofV_ok e (optV_ok hr fun v hv=>xExtract_ok hv (hρ _ _ hx))
 case panic x=>
  obtain⟨v,hx,e⟩:=withV_inv e
  exact xPanic_ok e (hρ _ _ hx) hr
 case typeAssert x xT t ok=>
  obtain⟨v,hx,e⟩:=withV_inv e
  split at e
  ·rename_i hp
   rw[plain_eq 9 _ _ hp (hρ _ _ hx)]
   exact plainO_ok e hr
  ·exact ofV_ok e (optV_ok hr fun v hv=>xAssert_ok hv (hρ _ _ hx))
 case call q=>
  obtain⟨vs,l1,e3,e⟩:=liftB_inv e
  have hvs:VRs p vs (q.args.map ρ').toList:=by simpa using evals_vrs hρ e3
  unfold resolve
  cases hq:q.callee with
  |value f=>
   rw[hq] at e
   dsimp only at e ⊢
   obtain⟨fv,hx,e⟩:=withV_inv e
   unfold xCall at e
   cases hxc:xCallee P fv vs with
   |none=>
    rw[hxc] at e
    dsimp only at e
    cases hxe:xExtern P fv vs with
    |none=>rw[hxe] at e;cases e
    |some u=>
     rw[hxe] at e
     obtain⟨rfl,rfl,rfl⟩:=pure_inv e
     obtain⟨k1,g,first,captured,k2,k3⟩:=xExtern_ok (vs':=q.args.map ρ') hxe (hρ _ _ hx) hvs
     rw[k2]
     exact Gives.quiet (R:=NV) (x:=u) hr (y:=Next.value u) (k3 w) ⟨u,rfl,plain_vr 9 _ k1⟩
   |some g=>
   rw[hxc] at e
   obtain⟨rfl,rfl,rfl⟩:=pure_inv e
   obtain⟨k1,first,captured,k2,k3⟩:=xCallee_ok (vs':=q.args.map ρ') (g:=g.1) (args:=g.2) hxc (hρ _ _ hx) hvs
   rw[k2]
   exact Gives.quiet (R:=fun p (xs:List Value) n=>∃ ys,n=Next.enter g.1 ys∧VRs p xs ys.toList) (x:=g.2) hr (y:=Next.enter g.1 _) (run_callFunc k1 _ w) ⟨_,rfl,k3⟩
  |builtin b=>
   rw[hq] at e
   dsimp only at e ⊢
   exact xBuiltin_ok e hvs hr hf
  |invoke=>rw[hq] at e;cases e
 case defer q=>
  obtain⟨vs,l1,e3,e⟩:=liftB_inv e
  have hvs:VRs p vs (q.args.map ρ').toList:=by simpa using evals_vrs hρ e3
  unfold resolve
  cases hq:q.callee with
  |value f=>
   rw[hq] at e
   dsimp only at e ⊢
   obtain⟨fv,hx,e⟩:=withV_inv e
   obtain⟨g,l1,e4,e⟩:=liftB_inv e
   obtain⟨rfl,rfl,rfl⟩:=pure_inv e
   obtain⟨k1,first,captured,k2,k3⟩:=xCallee_ok (vs':=q.args.map ρ') (g:=g.1) (args:=g.2) e4 (hρ _ _ hx) hvs
   rw[k2]
   exact Gives.quiet (R:=fun p (xs:List Value) n=>∃ ys cap,n=Next.defer ⟨.fn (.func g.1) cap,ys⟩∧VRs p xs (ys++cap).toList) (x:=g.2) hr (y:=Next.defer ⟨.fn (.func g.1) captured,first++q.args.map ρ'⟩) rfl ⟨_,_,rfl,k3⟩
  |builtin b=>rw[hq] at e;cases e
  |invoke=>rw[hq] at e;cases e
 all_goals cases e
end
end Ev
end Go.Proofs.YtcbkeecabcbogaaGreatDoor
