/- The evaluator's operations: which is which, and that each st -/
import Derived.Test.YtcbkeecabcbogaaGreatDoorSaa
import Derived.Test.YtcbkeecabcbogaaGreatDoorSae
set_option linter.unusedSimpArgs false
set_option linter.unusedVariables false
namespace Go.Proofs.YtcbkeecabcbogaaGreatDoor
section
namespace Ev
open Go.RowKit
def Qjc (ρ:Env):Option Operand→Option (Option Value)
 |none=>some none
 |some x=>match ρ x with
  |some (.int k i)=>some (some (.int k i))
  |_=>none
theorem Qhh {p:Xb}{ρ:Env}{ρ':Operand→Value}(hρ:EnvR p ρ ρ'){o:Option Operand}{r:Option Value}(e:Qjc ρ o=some r):o.map ρ'=r:=by
 cases o with
 |none=>cases e;rfl
 |some x=>
  unfold Qjc at e;dsimp only at e;cases hx:ρ x with
  |none=>rw[hx] at e;cases e
  |some v=>
   rw[hx] at e
   have:=hρ x v hx;cases v <;> cases e
   cases hv:ρ' x <;> rw[hv] at this <;> cases this
   simp[hv]
section
variable {P:Program} {K:Cfg} {base:Nat→Prop} {w0 w:World} {p:Xb} {h h':Tree Q4} {c c':Nat} {l:Log}
def Qlf (op:BinOp)(k:IntKind)(a b:Int):Option Value:=match op with
 | .add=>some (.int k (k.wrap (a+b)))
 | .sub=>some (.int k (k.wrap (a-b)))
 | .mul=>some (.int k (k.wrap (a*b)))
 | .eql=>some (.bool (a==b))
 | .neq=>some (.bool (a != b))
 | .lss=>some (.bool (a<b))
 | .leq=>some (.bool (a≤b))
 | .gtr=>some (.bool (a > b))
 | .geq=>some (.bool (a ≥ b))
 |_=>none
theorem Cc {op:BinOp}{k:IntKind}{a b:Int}{v:Value}(e:Qlf op k a b=some v)(t:TypeId)(x y:Operand):(do eqGuard op t x y (.int k a) (.int k b);binOp op t (.int k a) (.int k b):Sem Value)=pure v∧(∃ q,v=.bool q)∨(do eqGuard op t x y (.int k a) (.int k b);binOp op t (.int k a) (.int k b):Sem Value)=pure v∧(∃ n,v=.int k n):=by
 cases op <;> cases e <;> first
  |(refine .inl ⟨?_,_,rfl⟩;simp[eqGuard_at_int,binOp,Op.intCmp];rfl)
  |(refine .inr ⟨?_,_,rfl⟩;simp[eqGuard_at_int,binOp,Op.intArith];rfl)
  |(refine .inl ⟨?_,_,rfl⟩;simp[eqGuard_at_int,binOp,Op.intCmp];done)
  |(refine .inr ⟨?_,_,rfl⟩;simp[eqGuard_at_int,binOp,Op.intArith];done)
def Qgm (op:BinOp)(a b:ByteArray):Option Value:=match op with
 | .add=>match Nat.ble (a.data.toList.length+b.data.toList.length) 9223372036854775807 with
  |true=>some (.string ⟨(a.data.toList++b.data.toList).toArray⟩)
  |false=>none
 | .eql=>some (.bool (eqB a.data.toList b.data.toList))
 | .neq=>some (.bool (!(eqB a.data.toList b.data.toList)))
 |_=>none
theorem Be {op:BinOp}{a b:ByteArray}{v:Value}(e:Qgm op a b=some v)(t:TypeId)(x y:Operand)(w:World):(do eqGuard op t x y (.string a) (.string b);binOp op t (.string a) (.string b):Sem Value).run P w=.ok v w∧Tt 9 v=true:=by
 unfold Qgm at e;split at e
 ·split at e
  ·rename_i hl;cases e;have hl:=Nat.le_of_ble_eq_true hl;refine⟨?_,rfl⟩;have h1:(⟨(a.data.toList++b.data.toList).toArray⟩:ByteArray)=a++b:=by
    have:(a++b).data.toList=a.data.toList++b.data.toList:=by simp
    rw[←this]
   have h2:¬ (((a.size+b.size:Nat):Int) > IntKind.i64.max):=by
    have h3:a.size=a.data.toList.length:=rfl;have h4:b.size=b.data.toList.length:=rfl;have h5:IntKind.i64.max=9223372036854775807:=by decide
    rw[h3,h4,h5];omega
   rw[h1,eqGuard_at_string];simp only[binOp,Op.stringOp];rw[if_neg h2];rfl
  ·cases e
 ·cases e;refine⟨?_,rfl⟩;rw[eqGuard_at_string,Qsx];simp only[binOp,Op.stringOp,ByteArray.toList_eq];rfl
 ·cases e;refine⟨?_,rfl⟩;rw[eqGuard_at_string,Qsx];simp only[binOp,Op.stringOp,ByteArray.toList_eq];rfl
 ·cases e
noncomputable def Jk (P:Program)(op:BinOp)(t:TypeId)(x y:Operand)(a b:Value):M Q4 OR:=
 if Tt 9 a&&Tt 9 b then plainO P (do eqGuard op t x y a b;binOp op t a b) else ofV (Qr2 (xNils P op t a b))
noncomputable def Qgi (P:Program)(op:BinOp)(t:TypeId)(x y:Operand)(k k':IntKind)(a b:Int):M Q4 OR:=if k=k' then match Qlf op k a b with
  |some v=>M.pure (.val v)
  |none=>Jk P op t x y (.int k a) (.int k' b)
 else Jk P op t x y (.int k a) (.int k' b)
noncomputable def Qgg (P:Program)(op:BinOp)(t:TypeId)(x y:Operand)(a b:ByteArray):M Q4 OR:=match Qgm op a b with
 |some v=>M.pure (.val v)
 |none=>Jk P op t x y (.string a) (.string b)
def Qqz:List (Nat×Nat×Bool)→Nat→Nat→Option Bool
 | [],_,_=>none
 |x::l,i,j=>match Nat.beq x.1 i&&Nat.beq x.2.1 j with
  |true=>some x.2.2
  |false=>Qqz l i j
def Qhi (a b:Value):Bool:=match a with
 | .int k n=>(match b with
  | .int k' m=>decide (k=k')&&decide (n=m)
  |_=>false)
 | .string s=>(match b with
  | .string t=>eqB s.data.toList t.data.toList
  |_=>false)
 |_=>false
def Qfh:List (Nat×Value×Bool)→Nat→Value→Option Bool
 | [],_,_=>none
 |x::l,i,v=>match Nat.beq x.1 i&&Qhi x.2.1 v with
  |true=>some x.2.2
  |false=>Qfh l i v
def eqO (op:BinOp)(r:Option Bool):M Q4 OR:=match r with
 |some r=>match op with
  | .eql=>M.pure (.val (.bool r))
  | .neq=>M.pure (.val (.bool (!r)))
  |_=>M.fail
 |none=>M.fail
noncomputable def ptrEq (b o b' o':Nat):M Q4 Bool:=if b=b' then M.pure (o==o') else M.bind (Ap b) fun r=>M.bind (Ap b') fun r'=>
 if o<r.1.length∧o'<r'.1.length∧¬ r.2.2=1 then M.pure false else M.fail
noncomputable def Qgh (P:Program)(op:BinOp)(t:TypeId)(b o b' o':Nat):M Q4 OR:=match P.underlying t with
 |some (.pointer te)=>match P.info? te with
  |some f=>if f.size=0 then M.fail else M.bind (ptrEq b o b' o') fun r=>match op with
   | .eql=>M.pure (.val (.bool r))
   | .neq=>M.pure (.val (.bool (!r)))
   |_=>M.fail
  |none=>M.fail
 |_=>M.fail
theorem ptrEq_ok {b o b' o':Nat}{r:Bool}(e:ptrEq b o b' o' h c=.ok r h' c' l){s s':V9}(hs:p b=some s)(hs':p b'=some s')(hr:Rel K base w0 p h w):
  h'=h∧c'=c∧(sameAddr ⟨s.blk,s.off+o,none⟩ ⟨s'.blk,s'.off+o',none⟩).run P w=.ok r w:=by
 unfold ptrEq at e;split at e
 ·rename_i hb;subst hb;obtain rfl:s=s':=Option.some.inj (hs.symm.trans hs');obtain⟨rfl,rfl,rfl⟩:=Qn e;refine⟨rfl,rfl,?_⟩;by_cases ho:o=o'
  ·subst ho;simp[sameAddr]
  ·have h1:(o==o')=false:=by simpa using ho
   have h2:((⟨s.blk,s.off+o,none⟩:Addr)==⟨s.blk,s.off+o',none⟩)=false:=by
    rw[beq_eq_false_iff_ne];intro hq;injection hq with _ q2
    omega
   simp only[sameAddr,beq_self_eq_true,if_true,h1,h2,Sem.run_pure]
 ·rename_i hb;obtain⟨r1,h1,c1,l1,l2,e1,e2⟩:=Qr e;obtain⟨e3,rfl,rfl⟩:=Tq e1;obtain⟨r2,h2,c2,l3,l4,e4,e5⟩:=Qr e2;obtain⟨e6,rfl,rfl⟩:=Tq e4;split at e5
  ·rename_i hc;obtain⟨k1,k2,k3⟩:=hc;obtain⟨rfl,rfl,rfl⟩:=Qn e5;refine⟨rfl,rfl,?_⟩;obtain⟨t1,a1,-,-,A⟩:=hr.at_ _ _ e3;obtain⟨t2,b1,-,-,B⟩:=hr.at_ _ _ e6;obtain rfl:t1=s:=Option.some.inj (a1.symm.trans hs);obtain rfl:t2=s':=Option.some.inj (b1.symm.trans hs');have hne:t1.blk≠t2.blk:=fun q=>hb (hr.one _ _ _ _ _ _ _ e3 e6 hs hs' rfl q)
   obtain⟨bs,fr,A1,A2,A3,A4,A5⟩:=A.at_;obtain⟨bs',fr',B1,B2,B3,B4,B5⟩:=B.at_;have hx:ext r1.2.2=1:=by unfold ext;rw[if_neg k3]
   have A5:=A5.1;rw[hx] at A5;have f1:w.frozen? ⟨t1.blk,t1.off+o,none⟩=false:=by
    unfold World.frozen?;rw[A1];exact A5 (t1.off+o) Dw
   have f2:w.frozen? ⟨t2.blk,t2.off+o',none⟩=false:=by
    unfold World.frozen?;rw[B1];exact B5.1 (t2.off+o') Dw
   have f3:w.frozen? ⟨t1.blk,bs.size,none⟩=false:=by
    unfold World.frozen?;rw[A1];exact A5 bs.size Dw
   have hz:bs'.size≠0:=by omega
   have hbe:(t1.blk==t2.blk)=false:=by rw[beq_eq_false_iff_ne];exact hne
   simp[sameAddr,hne,f1,f2,f3,A1,B1,noView,viewAt,World.shape?,mayBeOne,stringish,hz]
  ·cases e5
theorem Qnq {op:BinOp}{t:TypeId}{x y:Operand}{b o b' o':Nat}{a1 a2:Value}{r:OR}(e:Qgh P op t b o b' o' h c=.ok r h' c' l)(ha:VR p (.pointer (some ⟨b,o,none⟩)) a1)(hb:VR p (.pointer (some ⟨b',o',none⟩)) a2)(hr:Rel K base w0 p h w):
  U7 P K base w0 p w c c' h' (do pure (.value (← (do eqGuard op t x y a1 a2;binOp op t a1 a2)))) r:=by
 cases ha with
 |ptr hs=>
 cases hb with
 |ptr hs'=>
 unfold Qgh at e;cases hu:P.underlying t with
 |none=>rw[hu] at e;cases e
 |some d=>
 rw[hu] at e;cases d with
 |pointer te=>
  dsimp only at e;cases hf:P.info? te with
  |none=>rw[hf] at e;cases e
  |some f=>
   rw[hf] at e;dsimp only at e;by_cases hsz:f.size=0
   ·rw[if_pos hsz] at e;cases e
   ·rw[if_neg hsz] at e;obtain⟨q,h1,c1,l1,l2,e1,e2⟩:=Qr e;obtain⟨rfl,rfl,hrun⟩:=ptrEq_ok (P:=P) e1 hs hs' hr;have heq:∀ X Y:Addr,(sameAddr X Y).run P w=.ok q w→(Op.equal t (.pointer (some X)) (.pointer (some Y))).run P w=.ok q w:=by
     intro X Y hrun;unfold Op.equal Op.maxDepth Op.equalIn;rw[Sem.run_bind,run_underlying hu w,Result.andThen_ok];dsimp only;rw[Sem.run_bind];have:(sizeOf te).run P w=.ok f.size w:=by simp[sizeOf,typeInfo,hf]
     rw[this,Result.andThen_ok,if_pos hsz];exact hrun
    have heq:=heq _ _ hrun;have hg:∀ X Y,eqGuard op t x y (.pointer X) (.pointer Y)=pure ():=fun _ _=>by cases op <;> rfl
    cases op with
    |eql=>
     obtain⟨rfl,rfl,rfl⟩:=Qn e2;refine Gives.quiet hr (y:=.value (.bool q)) ?_ ⟨_,rfl,.bool _⟩;rw[hg _ _];simp only[binOp,Sem.run_bind,Sem.run_pure,Result.andThen_ok,heq]
    |neq=>
     obtain⟨rfl,rfl,rfl⟩:=Qn e2;refine Gives.quiet hr (y:=.value (.bool (!q))) ?_ ⟨_,rfl,.bool _⟩;rw[hg _ _];simp only[binOp,Sem.run_bind,Sem.run_pure,Result.andThen_ok,heq]
    |_=>cases e2
 |_=>cases e
noncomputable def xBin (P:Program)(K:Cfg)(op:BinOp)(t:TypeId)(x y:Operand)(a b:Value):M Q4 OR:=match a with
 | .int k n=>match b with
  | .int k' n'=>Qgi P op t x y k k' n n'
  |_=>Jk P op t x y a b
 | .chan (some i)=>match b with
  | .chan (some j)=>eqO op (Qqz K.eqs i j)
  |_=>eqO op (Qfh K.eqc i b)
 | .pointer (some ⟨i,o,none⟩)=>match b with
  | .pointer (some ⟨j,o',none⟩)=>Qgh P op t i o j o'
  |_=>Jk P op t x y a b
 | .string s=>match b with
  | .string s'=>Qgg P op t x y s s'
  |_=>Jk P op t x y a b
 |_=>Jk P op t x y a b
theorem Vs {op:BinOp}{t:TypeId}{x y:Operand}{a b a' b':Value}{r:OR}(e:Jk P op t x y a b h c=.ok r h' c' l)(ha:VR p a a')(hb:VR p b b')(hr:Rel K base w0 p h w):
  U7 P K base w0 p w c c' h' (do pure (.value (← (do eqGuard op t x y a' b';binOp op t a' b')))) r:=by
 unfold Jk at e;split at e
 ·rename_i hp;simp only[Bool.and_eq_true] at hp;rw[Gm 9 _ _ hp.1 ha,Gm 9 _ _ hp.2 hb];exact Wl e hr
 ·exact Tu e (Fp hr fun v hv=>xNils_ok hv ha hb)
theorem Qh1:∀ {l:List (Nat×Nat×Bool)} {i j:Nat} {r:Bool},Qqz l i j=some r→(i,j,r)∈l
 | [],_,_,_,h=>by cases h
 |x::l,i,j,r,h=>by
  unfold Qqz at h;cases hb:Nat.beq x.1 i&&Nat.beq x.2.1 j with
  |true=>
   rw[hb] at h;rw[Bool.and_eq_true] at hb;obtain⟨a,b,c⟩:=x;cases h;rw[←Nat.eq_of_beq_eq_true hb.1,←Nat.eq_of_beq_eq_true hb.2];exact List.mem_cons_self ..
  |false=>rw[hb] at h;exact List.mem_cons_of_mem _ (Qh1 h)
theorem Qpi {a b:Value}(h:Qhi a b=true):a=b:=by
 unfold Qhi at h;split at h
 ·split at h
  ·simp at h;rw[h.1,h.2]
  ·cases h
 ·split at h
  ·rename_i s _ t
   have:=Array.toList_inj.1 (Qjf h);cases s;cases t;exact congrArg _ (congrArg _ this)
  ·cases h
 ·cases h
theorem Qfg:∀ {l:List (Nat×Value×Bool)} {i:Nat} {v:Value} {r:Bool},Qfh l i v=some r→(i,v,r)∈l
 | [],_,_,_,h=>by cases h
 |x::l,i,v,r,h=>by
  unfold Qfh at h;cases hb:Nat.beq x.1 i&&Qhi x.2.1 v with
  |true=>
   rw[hb] at h;rw[Bool.and_eq_true] at hb;obtain⟨a,b,c⟩:=x;cases h;rw[←Nat.eq_of_beq_eq_true hb.1,←Qpi hb.2];exact List.mem_cons_self ..
  |false=>rw[hb] at h;exact List.mem_cons_of_mem _ (Qfg h)
theorem Qrj {a b:Value}{r:Bool}(h:Nc a b r)(t:TypeId)(x y:Operand)(w:World):(do eqGuard .eql t x y a b;binOp .eql t a b:Sem Value).run P w=.ok (.bool r) w:=by
 cases h with
 |int k a b=>
  rcases Cc (op:=.eql) (k:=k) (a:=a) (b:=b) rfl t x y with ⟨h1,-⟩|⟨h1,n,hn⟩
  ·rw[h1];rfl
  ·cases hn
 |str a b=>exact(Be (op:=.eql) rfl t x y w).1
theorem Qri {a b:Value}{r:Bool}(h:Nc a b r)(t:TypeId)(x y:Operand)(w:World):(do eqGuard .neq t x y a b;binOp .neq t a b:Sem Value).run P w=.ok (.bool (!r)) w:=by
 cases h with
 |int k a b=>
  rcases Cc (op:=.neq) (k:=k) (a:=a) (b:=b) rfl t x y with ⟨h1,-⟩|⟨h1,n,hn⟩
  ·rw[h1];rfl
  ·cases hn
 |str a b=>exact(Be (op:=.neq) rfl t x y w).1
theorem eqO_ok {op:BinOp}{t:TypeId}{x y:Operand}{a' b':Value}{q:Option Bool}{r:OR}(e:eqO op q h c=.ok r h' c' l)(hq:∀ r,q=some r→Nc a' b' r)(hr:Rel K base w0 p h w):
  U7 P K base w0 p w c c' h' (do pure (.value (← (do eqGuard op t x y a' b';binOp op t a' b')))) r:=by
 unfold eqO at e;cases q with
 |none=>cases e
 |some q=>
  have hs:=hq q rfl;cases op with
  |eql=>
   obtain⟨rfl,rfl,rfl⟩:=Qn e;have h1:=Qrj (P:=P) hs t x y w;refine Gives.quiet hr (y:=.value (.bool q)) ?_ ⟨_,rfl,.bool _⟩;rw[Sem.run_bind,h1];rfl
  |neq=>
   obtain⟨rfl,rfl,rfl⟩:=Qn e;have h1:=Qri (P:=P) hs t x y w;refine Gives.quiet hr (y:=.value (.bool (!q))) ?_ ⟨_,rfl,.bool _⟩;rw[Sem.run_bind,h1];rfl
  |_=>cases e
theorem Qkg {a b b':Value}{r:Bool}(h:Nc a b r)(hb:VR p b b'):b'=b:=by
 cases h <;> cases hb <;> rfl
theorem xBin_ok {op:BinOp}{t:TypeId}{x y:Operand}{a b a' b':Value}{r:OR}(e:xBin P K op t x y a b h c=.ok r h' c' l)(ha:VR p a a')(hb:VR p b b')(hr:Rel K base w0 p h w):
  U7 P K base w0 p w c c' h' (do pure (.value (← (do eqGuard op t x y a' b';binOp op t a' b')))) r:=by
 cases a with
 |int k n=>
  cases b with
  |int k' n'=>
   replace e:Qgi P op t x y k k' n n' h c=.ok r h' c' l:=e;unfold Qgi at e;split at e
   ·rename_i hk;subst hk;cases hi:Qlf op k n n' with
    |none=>rw[hi] at e;exact Vs e ha hb hr
    |some v=>
     rw[hi] at e;obtain⟨rfl,rfl,rfl⟩:=Qn e;cases ha;cases hb;rcases Cc hi t x y with ⟨h1,q,rfl⟩|⟨h1,q,rfl⟩
     ·rw[h1];exact Gives.quiet hr rfl ⟨_,rfl,.bool _⟩
     ·rw[h1];exact Gives.quiet hr rfl ⟨_,rfl,.int _ _⟩
   ·exact Vs e ha hb hr
  |_=>exact Vs e ha hb hr
 |chan ci=>
  cases ci with
  |none=>exact Vs e ha hb hr
  |some i=>
   have key:∀ q,eqO op (Qfh K.eqc i b) h c=q→eqO op (Qfh K.eqc i b) h c=.ok r h' c' l→U7 P K base w0 p w c c' h' (do pure (.value (← (do eqGuard op t x y a' b';binOp op t a' b')))) r:=fun _ _ e=>by
    refine eqO_ok e (fun q hq=>?_) hr;obtain⟨s,h1,h2⟩:=hr.dis.eqc _ (Qfg hq);cases ha with
    |tok hs _=>
     rw[hs] at h1;cases h1;rw[Qkg h2 hb];exact h2
   have key2:∀ j,b=.chan (some j)→eqO op (Qqz K.eqs i j) h c=.ok r h' c' l→U7 P K base w0 p w c c' h' (do pure (.value (← (do eqGuard op t x y a' b';binOp op t a' b')))) r:=fun j hj e=>by
    subst hj;refine eqO_ok e (fun q hq=>?_) hr;obtain⟨s,s2,h1,h3,h2⟩:=hr.dis.eqs _ (Qh1 hq);cases ha with
    |tok hs _=>
    cases hb with
    |tok hs2 _=>
     rw[hs] at h1;cases h1;rw[hs2] at h3;cases h3;exact h2
   cases b with
   |chan cj=>
    cases cj with
    |none=>exact key _ rfl e
    |some j=>exact key2 j rfl e
   |_=>exact key _ rfl e
 |pointer pi=>
  cases pi with
  |none=>exact Vs e ha hb hr
  |some ai=>
   obtain⟨i,o,sp⟩:=ai;cases sp with
   |some=>exact Vs e ha hb hr
   |none=>
    cases b with
    |pointer pj=>
     cases pj with
     |none=>exact Vs e ha hb hr
     |some aj=>
      obtain⟨j,o',sp'⟩:=aj;cases sp' with
      |some=>exact Vs e ha hb hr
      |none=>exact Qnq e ha hb hr
    |_=>exact Vs e ha hb hr
 |string s=>
  cases b with
  |string s'=>
   replace e:Qgg P op t x y s s' h c=.ok r h' c' l:=e;unfold Qgg at e;cases hi:Qgm op s s' with
   |none=>rw[hi] at e;exact Vs e ha hb hr
   |some v=>
    rw[hi] at e;cases ha;cases hb;exact val_ok (Be hi t x y w).1 (Be (P:=P) hi t x y w).2 e hr
  |_=>exact Vs e ha hb hr
 |_=>exact Vs e ha hb hr
def Qbv (P:Program)(f:Value→Sem Value)(a:Value):M Q4 OR:=if Tt 9 a then plainO P (f a) else M.fail
theorem Nw {f:Value→Sem Value}{a a':Value}{r:OR}(e:Qbv P f a h c=.ok r h' c' l)(ha:VR p a a')(hr:Rel K base w0 p h w):
  U7 P K base w0 p w c c' h' (do pure (.value (← f a'))) r:=by
 unfold Qbv at e;split at e
 ·rename_i hp;rw[Gm 9 _ _ hp ha];exact Wl e hr
 ·cases e
def Qhx (P:Program)(v:Value):M Q4 OR:=match v with
 | .iface t u=>M.pure (.panic (.iface t u))
 |v=>Qbv P Instr.panic v
theorem Qqb {v v':Value}{r:OR}(e:Qhx P v h c=.ok r h' c' l)(hv:VR p v v')(hr:Rel K base w0 p h w):
  U7 P K base w0 p w c c' h' (do pure (.value (← Instr.panic v'))) r:=by
 unfold Qhx at e;split at e
 ·obtain⟨rfl,rfl,rfl⟩:=Qn e;cases hv with
  |iface _ h=>exact⟨_,rfl,.iface _ h,hr,rfl⟩
 ·exact Nw e hv hr
def Qnm (v:Value):M Q4 OR:=match Af v with
 |some v=>M.pure (.val v)
 |none=>M.fail
theorem xNilO_ok {v v':Value}{r:OR}(e:Qnm v h c=.ok r h' c' l)(hv:VR p v v')(hr:Rel K base w0 p h w){o:Oper}{x:Operand}{ρ':Operand→Value}(ho:o.op=.nilCheck x)(hx:ρ' x=v'):
  U7 P K base w0 p w c c' h' (execOp ρ' o) r:=by
 have key:∀ u,Af v=some u→u=v∧execOp ρ' o=pure (.value v'):=by
  intro u hu;unfold execOp;rw[ho];dsimp only;rw[hx];unfold Af at hu;split at hu <;> first
   |(cases hu;cases hv <;> exact⟨rfl,rfl⟩)
   |cases hu
 unfold Qnm at e;cases hn:Af v with
 |none=>rw[hn] at e;cases e
 |some u=>
  rw[hn] at e;obtain⟨rfl,k⟩:=key u hn;obtain⟨rfl,rfl,rfl⟩:=Qn e;rw[k];exact Gives.quiet hr rfl ⟨v',rfl,hv⟩
def Qjz (P:Program)(v:Value)(t:TypeId)(ok:Bool):Option Value:=none
theorem Qnr {v v' r:Value}{xT t:TypeId}{ok:Bool}(e:Qjz P v t ok=some r)(hv:VR p v v'):Qbn P p (Instr.typeAssert v' xT t ok) VR r:=by
 unfold Qjz at e;cases e
def Qmx (P:Program)(g:FuncId):Bool:=match P.funcs[g]? with
 |some fn => !(fn.name == "runtime.NumGoroutine")&&fn.body.isSome
 |none=>false
theorem Qic {g:FuncId}(hg:Qmx P g=true)(args:Array Value)(w:World):(callFunc g args).run P w=.ok (.enter g args) w:=by
 unfold Qmx at hg;cases hf:P.funcs[g]? with
 |none=>rw[hf] at hg;cases hg
 |some fn=>
  rw[hf] at hg;simp only[Bool.and_eq_true,Bool.not_eq_true'] at hg;unfold callFunc;rw[Sem.run_bind];show Result.andThen (.ok P w) _=_
  rw[Result.andThen_ok,hf];dsimp only;rw[if_neg (by rw[hg.1];simp),if_neg (by cases hb:fn.body <;> simp_all)];rfl
def Qc5 (P:Program)(fv:Value)(vs:List Value):Option (FuncId×List Value):=match fv with
 | .func (.func g) first captured=>if Qmx P g then some (g,first.toList++vs++captured.toList) else none
 |_=>none
theorem Qfe {fv fv':Value}{vs:List Value}{vs':Array Value}{g:FuncId}{args:List Value}(e:Qc5 P fv vs=some (g,args))(hf:VR p fv fv')(hv:VRs p vs vs'.toList):
  Qmx P g=true∧∃ first captured,fv'=.func (.func g) first captured∧VRs p args ((first++vs')++captured).toList:=by
 unfold Qc5 at e;split at e
 ·split at e
  ·rename_i hg;cases e;cases hf with
   |func _ h1 h2=>
    refine⟨hg,_,_,rfl,?_⟩;simp only[Array.toList_append];exact(h1.append hv).append h2
  ·cases e
 ·cases e
noncomputable def Ah (P:Program)(K:Cfg)(b:Builtin)(ats:Array TypeId)(ty:TypeId)(args:List Value):M Q4 OR:=match b with
 | .append=>match ats.toList with
  | [t,tx]=>match args with
   | [s,x]=>match x with
    | .int _ _=>ofV (Qcl P t tx s x)
    |_=>ofV (Qc6 P K t tx s x)
   |_=>M.fail
  |_=>M.fail
 | .len=>match ats[0]? with
  |some t=>match args with
   |v::_=>ofV (xLen P t v)
   | []=>M.fail
  |none=>M.fail
 | .cap=>match ats[0]? with
  |some t=>match args with
   |v::_=>ofV (xCap P t v)
   | []=>M.fail
  |none=>M.fail
 | .copy=>match ats.toList with
  | [t,tx]=>match args with
   | [d,x]=>ofV (xCopy P K t d x)
   |_=>M.fail
  |_=>M.fail
 | .max=>if args.all (Tt 9) then plainO P (Builtin.max_ ats ty args.toArray) else M.fail
 | .min=>if args.all (Tt 9) then plainO P (Builtin.min_ ats ty args.toArray) else M.fail
 | .recover=>M.pure .recover
 |_=>M.fail
theorem Qjy {b:Builtin}{ats:Array TypeId}{ty:TypeId}{consts:Array Bool}{args:List Value}{args':Array Value}{r:OR}(e:Ah P K b ats ty args h c=.ok r h' c' l)(ha:VRs p args args'.toList)(hr:Rel K base w0 p h w)(hf:Free p c c'):
  U7 P K base w0 p w c c' h' (builtin b ats ty consts args') r:=by
 unfold Ah at e;have hall:∀ s:Array Value→Sem Value,(if args.all (Tt 9) then plainO P (s args.toArray) else M.fail) h c=.ok r h' c' l→U7 P K base w0 p w c c' h' (do pure (.value (← s args'))) r:=by
  intro s es;split at es
  ·rename_i hp;have:args'=args.toArray:=by
    have:=Aw (p:=p) (fun v v'=>Gm 9 v v') hp ha;apply Array.toList_inj.1;rw[this]
   rw[this];exact Wl es hr
  ·cases es
 cases b with
 |append=>
  dsimp only at e;cases hl:ats.toList with
  |nil=>rw[hl] at e;cases e
  |cons t l1=>
   cases l1 with
   |nil=>rw[hl] at e;cases e
   |cons tx l2=>
    cases l2 with
    |cons=>rw[hl] at e;cases e
    |nil=>
     rw[hl] at e;dsimp only at e;obtain rfl:ats = #[t,tx]:=Array.toList_inj.1 hl;cases ha':args'.toList with
     |nil=>rw[ha'] at ha;cases ha;cases e
     |cons s' m1=>
      rw[ha'] at ha;cases ha with
      |cons hs hm=>
       cases hm with
       |nil=>cases e
       |cons hx hn=>
        cases hn with
        |cons=>cases e
        |nil=>
         obtain rfl:args' = #[_,_]:=Array.toList_inj.1 ha';dsimp only at e;split at e
         ·exact Tu e fun v l' ev=>Qj0 ev hs hx hr hf
         ·exact Tu e fun v l' ev=>Qns ev hs hx hr hf
 |len=>
  dsimp only at e;cases ht:ats[0]? with
  |none=>rw[ht] at e;cases e
  |some t=>
   rw[ht] at e;cases ha':args'.toList with
   |nil=>rw[ha'] at ha;cases ha;cases e
   |cons s' m1=>
    rw[ha'] at ha;cases ha with
    |cons hs hm=>
     have h0:args'[0]? = some s':=by
      have:args'.toList[0]? = some s':=by rw[ha'];rfl
      simpa using this
     exact Tu e fun v l' ev=>xLen_ok ev ht h0 hs hr
 |cap=>
  dsimp only at e;cases ht:ats[0]? with
  |none=>rw[ht] at e;cases e
  |some t=>
   rw[ht] at e;cases ha':args'.toList with
   |nil=>rw[ha'] at ha;cases ha;cases e
   |cons s' m1=>
    rw[ha'] at ha;cases ha with
    |cons hs hm=>
     have h0:args'[0]? = some s':=by
      have:args'.toList[0]? = some s':=by rw[ha'];rfl
      simpa using this
     exact Tu e fun v l' ev=>xCap_ok ev ht h0 hs hr
 |copy=>
  dsimp only at e;cases hl:ats.toList with
  |nil=>rw[hl] at e;cases e
  |cons t l1=>
   cases l1 with
   |nil=>rw[hl] at e;cases e
   |cons tx l2=>
    cases l2 with
    |cons=>rw[hl] at e;cases e
    |nil=>
     rw[hl] at e;dsimp only at e;obtain rfl:ats = #[t,tx]:=Array.toList_inj.1 hl;cases ha':args'.toList with
     |nil=>rw[ha'] at ha;cases ha;cases e
     |cons s' m1=>
      rw[ha'] at ha;cases ha with
      |cons hs hm=>
       cases hm with
       |nil=>cases e
       |cons hx hn=>
        cases hn with
        |cons=>cases e
        |nil=>
         obtain rfl:args' = #[_,_]:=Array.toList_inj.1 ha';exact Tu e fun v l' ev=>xCopy_ok ev hs hx hr
 |max=>exact hall _ e
 |min=>exact hall _ e
 |recover=>
  obtain⟨rfl,rfl,rfl⟩:=Qn e;exact Gives.quiet (R:=fun _ (_:Unit) n=>n=Next.recover) (x:=()) hr (y:=Next.recover) rfl rfl
 |_=>cases e
end
end Ev
end
section
namespace Ev
open Go.RowKit
section
variable {P:Program} {K:Cfg} {base:Nat→Prop} {w0 w:World} {p:Xb} {h h':Tree Q4} {c c':Nat} {l:Log}
noncomputable def Qqh (P:Program)(s d:TypeId)(v:Value):M Q4 OR:=match v with
 | .string str=>match P.underlying d with
  |some (.slice _)=>ofV (Ae P s d str)
  |_=>Qbv P (convert s d) v
 |v=>Qbv P (convert s d) v
theorem xConv_ok {s d:TypeId}{a a':Value}{r:OR}(e:Qqh P s d a h c=.ok r h' c' l)(ha:VR p a a')(hr:Rel K base w0 p h w)(hf:Free p c c'):U7 P K base w0 p w c c' h' (do pure (.value (← convert s d a'))) r:=by
 cases a with
 |string str=>
  unfold Qqh at e;dsimp only at e;cases hd:P.underlying d with
  |none=>rw[hd] at e;exact Nw e ha hr
  |some u=>
   rw[hd] at e;cases u with
   |slice el=>exact Tu e fun v l' ev=>Qhv ev ha hr hf
   |_=>exact Nw e ha hr
 |_=>exact Nw e ha hr
def Qgf (P:Program)(fv:Value)(vs:List Value):Option Value:=none
theorem Qnp {fv fv':Value}{vs:List Value}{vs':Array Value}{v:Value}(e:Qgf P fv vs=some v)(hf:VR p fv fv')(hv:VRs p vs vs'.toList):
  Tt 9 v=true∧∃ g first captured,fv'=.func (.func g) first captured∧∀ w,(callFunc g ((first++vs')++captured)).run P w=.ok (.value v) w:=by
 unfold Qgf at e;cases e
def xCall (P:Program)(fv:Value)(vs:List Value):M Q4 OR:=match Qc5 P fv vs with
 |some g=>M.pure (.enter g.1 g.2)
 |none=>match Qgf P fv vs with
  |some v=>M.pure (.val v)
  |none=>M.fail
noncomputable def xOp (P:Program)(K:Cfg)(ρ:Env)(o:Oper):M Q4 OR:=match o.op with
 | .move x=>Uu (ρ x) fun v=>M.pure (.val v)
 | .assign x=>Uu (ρ x) fun v=>M.pure (.val v)
 | .pick q x y=>Uu (ρ q) fun b=>match b with
  | .bool true=>Uu (ρ x) fun v=>M.pure (.val v)
  | .bool false=>Uu (ρ y) fun v=>M.pure (.val v)
  |_=>M.fail
 | .alloc t=>ofV (Qqm P t)
 | .box t x=>Uu (ρ x) fun v=>ofV (xBox t v)
 | .build t ps=>M.bind (Gn (Qai ρ ps.toList)) fun vs=>ofV (Qr2 (Qqj P t vs))
 | .buildSlice t n ps=>M.bind (Gn (Qai ρ ps.toList)) fun vs=>ofV (Gx P t n vs)
 | .load t x=>Uu (ρ x) fun v=>ofV (Qgb P t v)
 | .range t x=>Uu (ρ x) fun v=>ofV (Qqa P t v)
 | .next x is=>Uu (ρ x) fun v=>ofV (xNext K v is)
 | .store t a x=>Uu (ρ a) fun v=>Uu (ρ x) fun u=>ofU (Qhw P K t v u)
 | .nilCheck x=>Uu (ρ x) fun v=>Qnm v
 | .binOp op t x y _=>Uu (ρ x) fun a=>Uu (ρ y) fun b=>xBin P K op t x y a b
 | .unOp op _ x=>Uu (ρ x) fun v=>Qbv P (Op.unary op) v
 | .convert s d x=>Uu (ρ x) fun v=>Qqh P s d v
 | .makeInterface t x=>Uu (ρ x) fun v=>ofV (Qr2 (Qf8 P t v))
 | .makeFunc (.func f) first captured=>M.bind (Gn (Qbl ρ first.toList)) fun a=>M.bind (Gn (Qbl ρ captured.toList)) fun b=>M.pure (.val (.func (.func f) a.toArray b.toArray))
 | .makeMap _ none=>ofV Qga
 | .makeSlice t a b=>Uu (ρ a) fun u=>Uu (ρ b) fun v=>ofV (Qa1 P t u v)
 | .slice t x lo hi mx=>Uu (ρ x) fun v=>M.bind (Gn (Qjc ρ lo)) fun a=>M.bind (Gn (Qjc ρ hi)) fun b=>M.bind (Gn (Qjc ρ mx)) fun d=>
  if Tt 9 v then (match xStr P t v a b d with
   |some r=>M.pure (.val r)
   |none=>plainO P (Instr.sliceAt t v a b d)) else ofV (Qp8 P t v a b d)
 | .fieldAddr t x i=>Uu (ρ x) fun v=>ofV (Qr2 (Qa3 P t v i))
 | .field t x i=>Uu (ρ x) fun v=>ofV (Qr2 (Qqg P t v i))
 | .indexAddr t x y=>Uu (ρ x) fun a=>Uu (ρ y) fun b=>ofV (Qr2 (Qa2 P t a b))
 | .index t x y=>Uu (ρ x) fun a=>Uu (ρ y) fun b=>if Tt 9 a&&Tt 9 b then plainO P (Instr.index t a b) else ofV (Qr2 (Qqe P t a b))
 | .lookup t x y ok=>Uu (ρ x) fun a=>Uu (ρ y) fun b=>ofV (Qjw P t a b ok)
 | .mapUpdate t x y z=>Uu (ρ x) fun a=>Uu (ρ y) fun b=>Uu (ρ z) fun d=>ofU (Ba P K t a b d)
 | .insert t x y z=>Uu (ρ x) fun a=>Uu (ρ y) fun b=>Uu (ρ z) fun d=>ofU (Ba P K t a b d)
 | .extract x i=>Uu (ρ x) fun v=>ofV (Qr2 (Qge v i))
 | .panic x=>Uu (ρ x) fun v=>Qhx P v
 | .typeAssert x xT t ok=>Uu (ρ x) fun v=>if Tt 9 v then plainO P (Instr.typeAssert v xT t ok) else ofV (Qr2 (Qjz P v t ok))
 | .call q=>M.bind (Gn (Qbl ρ q.args.toList)) fun vs=>match q.callee with
  | .value f=>Uu (ρ f) fun fv=>xCall P fv vs
  | .builtin b=>Ah P K b q.argTypes o.type vs
  |_=>M.fail
 | .defer q=>M.bind (Gn (Qbl ρ q.args.toList)) fun vs=>match q.callee with
  | .value f=>Uu (ρ f) fun fv=>M.bind (Gn (Qc5 P fv vs)) fun g=>M.pure (.defer g.1 g.2)
  |_=>M.fail
 |_=>M.fail
theorem Kv {α β γ:Type}{h h2:Tree α}{c c2:Nat}{l:Log}{o:Option β}{f:β→M α γ}{y:γ}(e:M.bind (Gn o) f h c=.ok y h2 c2 l):∃ v l',o=some v∧f v h c=.ok y h2 c2 l':=by
 obtain⟨v,h1,c1,l1,l2,e1,e2⟩:=Qr e;obtain⟨e3,rfl,rfl⟩:=Ku e1;exact⟨v,l2,e3,e2⟩
theorem Qfd {ρ:Env}{ρ':Operand→Value}{o:Oper}{r:OR}(e:xOp P K ρ o h c=.ok r h' c' l)(hρ:EnvR p ρ ρ')(hr:Rel K base w0 p h w)(hf:Free p c c'):U7 P K base w0 p w c c' h' (execOp ρ' o) r:=by
 unfold xOp at e;have hnil:∀ x v,o.op=.nilCheck x→ρ x=some v→Qnm v h c=.ok r h' c' l→U7 P K base w0 p w c c' h' (execOp ρ' o) r:=fun x v ho hx e=>xNilO_ok e (hρ x v hx) hr ho rfl
 cases hop:o.op <;> rw[hop] at e <;> try dsimp only at e
 case nilCheck x=>
  obtain⟨v,hx,e⟩:=Xd e;exact hnil x v hop hx e
 all_goals (unfold execOp;rw[hop];try dsimp only)
 case move x=>
  obtain⟨v,hx,e⟩:=Xd e;obtain⟨rfl,rfl,rfl⟩:=Qn e;exact Gives.quiet hr rfl ⟨_,rfl,hρ _ _ hx⟩
 case assign x=>
  obtain⟨v,hx,e⟩:=Xd e;obtain⟨rfl,rfl,rfl⟩:=Qn e;exact Gives.quiet hr rfl ⟨_,rfl,hρ _ _ hx⟩
 case pick q x y=>
  obtain⟨b,hq,e⟩:=Xd e;have hb:=hρ _ _ hq;split at e
  ·obtain⟨v,hx,e⟩:=Xd e;obtain⟨rfl,rfl,rfl⟩:=Qn e;cases hq':ρ' q <;> rw[hq'] at hb <;> cases hb
   exact Gives.quiet hr rfl ⟨_,rfl,hρ _ _ hx⟩
  ·obtain⟨v,hx,e⟩:=Xd e;obtain⟨rfl,rfl,rfl⟩:=Qn e;cases hq':ρ' q <;> rw[hq'] at hb <;> cases hb
   exact Gives.quiet hr rfl ⟨_,rfl,hρ _ _ hx⟩
  ·cases e
 case alloc t=>exact Tu e fun v l' ev=>Qql ev hr hf
 case box t x=>
  obtain⟨v,hx,e⟩:=Xd e;exact Tu e fun v l' ev=>Qqk ev (hρ _ _ hx) hr hf
 case build t ps=>
  obtain⟨vs,l1,e3,e2⟩:=Kv e;exact Tu e2 (Fp hr fun v hv=>Qqi hv (by simpa using Qek hρ e3))
 case buildSlice t n ps=>
  obtain⟨vs,l1,e3,e2⟩:=Kv e;exact Tu e2 fun v l' ev=>Qe3 ev (by simpa using Qek hρ e3) hr hf
 case range t x=>
  obtain⟨v,hx,e⟩:=Xd e;exact Tu e fun u l' eu=>Qp9 eu (hρ _ _ hx) hr hf
 case next x is=>
  obtain⟨v,hx,e⟩:=Xd e;exact Tu e fun u l' eu=>xNext_ok eu (hρ _ _ hx) hr
 case load t x=>
  obtain⟨v,hx,e⟩:=Xd e;exact Tu e fun v l' ev=>xLoad_ok ev (hρ _ _ hx) hr
 case store t a x=>
  obtain⟨v,hx,e⟩:=Xd e;obtain⟨u,hy,e⟩:=Xd e;exact Qr7 e fun v l' ev=>Qp6 ev (hρ _ _ hx) (hρ _ _ hy) hr
 case binOp op t x y q=>
  obtain⟨v,hx,e⟩:=Xd e;obtain⟨u,hy,e⟩:=Xd e;exact xBin_ok e (hρ _ _ hx) (hρ _ _ hy) hr
 case unOp op t x=>
  obtain⟨v,hx,e⟩:=Xd e;exact Nw e (hρ _ _ hx) hr
 case convert s d x=>
  obtain⟨v,hx,e⟩:=Xd e;exact xConv_ok e (hρ _ _ hx) hr hf
 case makeInterface t x=>
  obtain⟨v,hx,e⟩:=Xd e;exact Tu e (Fp hr fun v hv=>Qju hv (hρ _ _ hx))
 case makeFunc f first captured=>
  cases f with
  |func f=>
   obtain⟨xs,l1,e3,e⟩:=Kv e;obtain⟨bs,l1,e4,e⟩:=Kv e;obtain⟨rfl,rfl,rfl⟩:=Qn e;exact Gives.quiet hr rfl ⟨_,rfl,.func f (by simpa using Le hρ e3) (by simpa using Le hρ e4)⟩
  |_=>cases e
 case makeMap t q=>
  cases q with
  |none=>exact Tu e fun v l' ev=>Qjv ev hr hf
  |some=>cases e
 case makeSlice t a b=>
  obtain⟨v,hx,e⟩:=Xd e;obtain⟨u,hy,e⟩:=Xd e;exact Tu e fun v l' ev=>Qf9 ev (hρ _ _ hx) (hρ _ _ hy) hr hf
 case slice t x lo hi mx=>
  obtain⟨v,hx,e⟩:=Xd e;obtain⟨a,l1,e3,e⟩:=Kv e;obtain⟨b,l1,e4,e⟩:=Kv e;obtain⟨d,l1,e5,e⟩:=Kv e;rw[Qhh hρ e3,Qhh hρ e4,Qhh hρ e5];split at e
  ·rename_i hp;rw[Gm 9 _ _ hp (hρ _ _ hx)];cases hs:xStr P t v a b d with
   |some r=>
    rw[hs] at e;exact val_ok (Qp5 hs w).1 (Qp5 (P:=P) hs w).2 e hr
   |none=>
    rw[hs] at e;exact Wl e hr
  ·exact Tu e fun v l' ev=>Qp7 ev (hρ _ _ hx) hr
 case fieldAddr t x i=>
  obtain⟨v,hx,e⟩:=Xd e;exact Tu e (Fp hr fun v hv=>Qgd hv (hρ _ _ hx))
 case field t x i=>
  obtain⟨v,hx,e⟩:=Xd e;exact Tu e (Fp hr fun v hv=>Qqf hv (hρ _ _ hx))
 case indexAddr t x y=>
  obtain⟨v,hx,e⟩:=Xd e;obtain⟨u,hy,e⟩:=Xd e;exact Tu e (Fp hr fun v hv=>Qgc hv (hρ _ _ hx) (hρ _ _ hy))
 case index t x y=>
  obtain⟨v,hx,e⟩:=Xd e;obtain⟨u,hy,e⟩:=Xd e;split at e
  ·rename_i hp;simp only[Bool.and_eq_true] at hp;rw[Gm 9 _ _ hp.1 (hρ _ _ hx),Gm 9 _ _ hp.2 (hρ _ _ hy)];exact Wl e hr
  ·exact Tu e (Fp hr fun v hv=>Qqd hv (hρ _ _ hx) (hρ _ _ hy))
 case lookup t x y ok=>
  obtain⟨v,hx,e⟩:=Xd e;obtain⟨u,hy,e⟩:=Xd e;exact Tu e fun v l' ev=>Qnn ev (hρ _ _ hx) (hρ _ _ hy) hr
 case mapUpdate t x y z=>
  obtain⟨v,hx,e⟩:=Xd e;obtain⟨u,hy,e⟩:=Xd e;obtain⟨q,hz,e⟩:=Xd e;exact Qr7 e fun v l' ev=>Ag ev (hρ _ _ hx) (hρ _ _ hy) (hρ _ _ hz) hr
 case insert t x y z=>
  obtain⟨v,hx,e⟩:=Xd e;obtain⟨u,hy,e⟩:=Xd e;obtain⟨q,hz,e⟩:=Xd e;exact Qr7 e fun v l' ev=>Ag ev (hρ _ _ hx) (hρ _ _ hy) (hρ _ _ hz) hr
 case extract x i=>
  obtain⟨v,hx,e⟩:=Xd e;exact Tu e (Fp hr fun v hv=>Qjx hv (hρ _ _ hx))
 case panic x=>
  obtain⟨v,hx,e⟩:=Xd e;exact Qqb e (hρ _ _ hx) hr
 case typeAssert x xT t ok=>
  obtain⟨v,hx,e⟩:=Xd e;split at e
  ·rename_i hp;rw[Gm 9 _ _ hp (hρ _ _ hx)];exact Wl e hr
  ·exact Tu e (Fp hr fun v hv=>Qnr hv (hρ _ _ hx))
 case call q=>
  obtain⟨vs,l1,e3,e⟩:=Kv e;have hvs:VRs p vs (q.args.map ρ').toList:=by simpa using Le hρ e3
  unfold resolve;cases hq:q.callee with
  |value f=>
   rw[hq] at e;dsimp only at e ⊢;obtain⟨fv,hx,e⟩:=Xd e;unfold xCall at e;cases hxc:Qc5 P fv vs with
   |none=>
    rw[hxc] at e;dsimp only at e;cases hxe:Qgf P fv vs with
    |none=>rw[hxe] at e;cases e
    |some u=>
     rw[hxe] at e;obtain⟨rfl,rfl,rfl⟩:=Qn e;obtain⟨k1,g,first,captured,k2,k3⟩:=Qnp (vs':=q.args.map ρ') hxe (hρ _ _ hx) hvs;rw[k2];exact Gives.quiet (R:=NV) (x:=u) hr (y:=Next.value u) (k3 w) ⟨u,rfl,Gl 9 _ k1⟩
   |some g=>
   rw[hxc] at e;obtain⟨rfl,rfl,rfl⟩:=Qn e;obtain⟨k1,first,captured,k2,k3⟩:=Qfe (vs':=q.args.map ρ') (g:=g.1) (args:=g.2) hxc (hρ _ _ hx) hvs;rw[k2];exact Gives.quiet (R:=fun p (xs:List Value) n=>∃ ys,n=Next.enter g.1 ys∧VRs p xs ys.toList) (x:=g.2) hr (y:=Next.enter g.1 _) (Qic k1 _ w) ⟨_,rfl,k3⟩
  |builtin b=>
   rw[hq] at e;dsimp only at e ⊢;exact Qjy e hvs hr hf
  |invoke=>rw[hq] at e;cases e
 case defer q=>
  obtain⟨vs,l1,e3,e⟩:=Kv e;have hvs:VRs p vs (q.args.map ρ').toList:=by simpa using Le hρ e3
  unfold resolve;cases hq:q.callee with
  |value f=>
   rw[hq] at e;dsimp only at e ⊢;obtain⟨fv,hx,e⟩:=Xd e;obtain⟨g,l1,e4,e⟩:=Kv e;obtain⟨rfl,rfl,rfl⟩:=Qn e;obtain⟨k1,first,captured,k2,k3⟩:=Qfe (vs':=q.args.map ρ') (g:=g.1) (args:=g.2) e4 (hρ _ _ hx) hvs;rw[k2];exact Gives.quiet (R:=fun p (xs:List Value) n=>∃ ys cap,n=Next.defer ⟨.fn (.func g.1) cap,ys⟩∧VRs p xs (ys++cap).toList) (x:=g.2) hr (y:=Next.defer ⟨.fn (.func g.1) captured,first++q.args.map ρ'⟩) rfl ⟨_,_,rfl,k3⟩
  |builtin b=>rw[hq] at e;cases e
  |invoke=>rw[hq] at e;cases e
 all_goals cases e
end
end Ev
end
end Go.Proofs.YtcbkeecabcbogaaGreatDoor
