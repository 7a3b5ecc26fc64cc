/- A part that is read up to the semicolon at the end is read l -/
import Derived.Test.YtcbkeecabcbogaaGreatDoorHbj
import Derived.Test.YtcbkeecabcbogaaGreatDoorHab
set_option linter.unusedSimpArgs false
set_option linter.unusedVariables false
namespace Go.Proofs.YtcbkeecabcbogaaGreatDoor
namespace Prs
mutual
def erT:Tr→Tr
 | .mk k x n _ l => .mk k x n 0 (erL l)
def erL:List Tr→List Tr
 | []=>[]
 |t::l=>erT t::erL l
end
theorem Rz (a b:List Tr):erL (a++b)=erL a++erL b:=by
 induction a with
 |nil=>rfl
 |cons t a ih=>simp only[List.cons_append,erL,ih]
theorem Qe9 {x y:Tr}(h:erT x=erT y):x.kind=y.kind:=by
 cases x;cases y;simp only[erT,Tr.mk.injEq] at h;exact h.1
theorem erT_kids {x y:Tr}(h:erT x=erT y):erL x.kids=erL y.kids:=by
 cases x;cases y;simp only[erT,Tr.mk.injEq] at h;exact h.2.2.2.2
def Like (t t':Tok):Prop:=t.kind=t'.kind∧t.text=t'.text∧t.num=t'.num
section
variable (s:Tok) (q:List Tok) (e e':Nat)
inductive Lk:List Tok→List Tok→Prop
 |cut:Lk [s] q
 |nil:q=[]→Lk [] []
 |cons {t t':Tok} {l l':List Tok}:Like t t'→Lk l l'→Lk (t::l) (t'::l')
structure Ends:Prop where
 Qn7:s.kind=5
 calm:X3 s=false
 sign:q=[]∨∃ t m,q=t::m∧(t.kind=5∨t.kind=4∧(t.text=Qw∨t.text=Zn))
def Lp (l l':List Tok):Prop:=∃ t t' k k',l=t::k∧l'=t'::k'∧Like t t'∧Lk s q k k'
def Z (w:Bool)(l:List Tok):Prop:=l=[]∨(w=true∧l=[s])
def Live (w:Bool)(l l':List Tok):Prop:=if w then Lp s q l l' else Lk s q l l'
def Al (w:Bool)(l l':List Tok):Prop:=Z s w l∨Live s q w l l'
end
theorem Qip {t t':Tok}{l l':List Tok}(h:Like t t'):Xg (t::l)=Xg (t'::l'):=h.1
def St1 (o m:List Tok):Prop:=∃ c t,o=c++t::m∧X3 t=true
theorem St1.up {o k m:List Tok}(h:k <:+ o)(h1:St1 k m):St1 o m:=by
 obtain⟨d,rfl⟩:=h;obtain⟨c,t,rfl,ht⟩:=h1;exact⟨d++c,t,by simp,ht⟩
section
variable {s:Tok} {q:List Tok} {e e':Nat}
theorem Z.suf {w:Bool}{l m:List Tok}(h:Z s w l)(hm:m <:+ l):Z s w m:=by
 rcases h with rfl|⟨hw,rfl⟩
 ·exact .inl (List.suffix_nil.1 hm)
 ·cases m with
  |nil=>exact .inl rfl
  |cons t m=>
   have:=hm.length_le
   have:=hm.eq_of_length (by simp at this ⊢;omega);exact .inr ⟨hw,this⟩
theorem Al.weak {w:Bool}{l l':List Tok}(h:Al s q false l l'):Al s q w l l':=by
 cases w with
 |false=>exact h
 |true=>
  rcases h with (h|⟨h,-⟩)|h
  ·exact .inl (.inl h)
  ·cases h
  ·cases h with
   |cut=>exact .inl (.inr ⟨rfl,rfl⟩)
   |nil=>exact .inl (.inl rfl)
   |cons h1 h2=>exact .inr ⟨_,_,_,_,rfl,rfl,h1,h2⟩
def Sim {α γ:Type}(s:Tok)(q:List Tok)(p w:Bool)(o l:List Tok)(g:α→γ)(r r':R α):Prop:=∀ x m,r=some (.ok (x,m))→m <:+ l∧(p=true→St1 o m)∧(Z s w m∨∃ x' m',(r'=none∨r'=some (.ok (x',m')))∧g x=g x'∧Live s q w m m')
section
variable {α β γ δ:Type} {p w:Bool} {o l:List Tok} {g:α→γ} {r r':R α}
theorem Sim.bad {n:Nat}:Sim s q p w o l g (bad n) r':=fun x m h=>by cases h
theorem Sim.none:Sim s q p w o l g Option.none r':=fun x m h=>by cases h
theorem Sim.noner (h:Sim s q p w o l g r r'):Sim s q p w o l g r Option.none:=fun x m hr=>by
 obtain⟨h1,h2,h3⟩:=h x m hr;exact⟨h1,h2,h3.imp id fun ⟨x',m',_,e⟩=>⟨x',m',.inl rfl,e⟩⟩
theorem Sim.Qfl {F:Nat→R α}(h0:F 0=Option.none)(h:∀ f',Sim s q p w o l g r (F (f'+1))):∀ f',Sim s q p w o l g r (F f')
 |0=>by rw[h0];exact Sim.noner (h 0)
 |f'+1=>h f'
theorem Sim.ok {x x':α}{m m':List Tok}(h1:m <:+ l)(h2:p=true→St1 o m)(h3:Al s q w m m')(h4:g x=g x'):Sim s q p w o l g (ok x m) (ok x' m'):=fun y k h=>by
 cases h;refine⟨h1,h2,?_⟩;rcases h3 with h3|h3
 ·exact .inl h3
 ·exact .inr ⟨_,_,.inr rfl,h4,h3⟩
theorem Sim.sub {k:List Tok}(h:k <:+ l)(h1:Sim s q p w o k g r r'):Sim s q p w o l g r r':=fun x m hr=>⟨(h1 x m hr).1.trans h,(h1 x m hr).2⟩
theorem Sim.dead {r1:R α}(h:Z s w l)(h1:Sim s q p w o l g r r1):Sim s q p w o l g r r':=fun x m hr=>⟨(h1 x m hr).1,(h1 x m hr).2.1,.inl (h.suf (h1 x m hr).1)⟩
theorem Sim.weak (h:Sim s q p false o l g r r'):Sim s q false w o l g r r':=fun x m hr=>by
 obtain⟨h1,h2,h3⟩:=h x m hr;refine⟨h1,(fun h=>nomatch h),?_⟩;rcases h3 with h3|⟨x',m',e1,e2,e3⟩
 ·rcases h3 with h3|⟨h3,-⟩
  ·exact .inl (.inl h3)
  ·cases h3
 ·rcases (Al.weak (w:=w) (.inr e3)) with h4|h4
  ·exact .inl h4
  ·exact .inr ⟨x',m',e1,e2,h4⟩
theorem Sim.bind {k:List Tok}{pA wA:Bool}{gA:β→δ}{a a':R β}{f f':β→List Tok→R α}(hk:k <:+ l)(hw:wA=true→w=true)(hA:Sim s q pA wA o k gA a a')(ho:k <:+ o)
  (hf:∀ x x' m m',m <:+ o→(pA=true→St1 o m)→Al s q wA m m'→gA x=gA x'→Sim s q p w o m g (f x m) (f' x' m')):Sim s q p w o l g (andThen a f) (andThen a' f'):=by
 intro z m hz;cases a with
 |none=>cases hz
 |some y=>
  cases y with
  |error n=>cases hz
  |ok y=>
   obtain⟨x,n⟩:=y;obtain⟨h1,h2,h3⟩:=hA x n rfl;have hz:f x n=some (.ok (z,m)):=hz;have hno:=h1.trans ho;have hnl:=h1.trans hk;rcases h3 with h3|⟨x',n',e1,e2,e3⟩
   ·obtain⟨k1,k2,-⟩:=hf x x n [] hno h2 (.inl h3) rfl z m hz;refine⟨k1.trans hnl,k2,.inl ?_⟩;rcases h3.suf k1 with h|⟨h,h'⟩
    ·exact .inl h
    ·exact .inr ⟨hw h,h'⟩
   ·obtain⟨k1,k2,k3⟩:=hf x x' n n' hno h2 (.inr e3) e2 z m hz;refine⟨k1.trans hnl,k2,?_⟩;rcases e1 with rfl|rfl
    ·exact k3.imp id fun ⟨x',m',_,e⟩=>⟨x',m',.inl rfl,e⟩
    ·exact k3
theorem Sim.ite {c c':Bool}{k:List Tok}{a a' b b':R α}(hk:k <:+ l)(hc:k=[]∨c=c')(h1:c=true→Sim s q p w o k g a a')(h2:c=false→Sim s q p w o k g b b'):Sim s q p w o l g (if c then a else b) (if c' then a' else b'):=by
 refine Sim.sub hk ?_;rcases hc with hc|rfl
 ·cases c
  ·exact Sim.dead (.inl hc) (h2 rfl)
  ·exact Sim.dead (.inl hc) (h1 rfl)
 ·cases c
  ·exact h2 rfl
  ·exact h1 rfl
theorem Sim.prop {c:Prop}[Decidable c]{a a' b b':R α}(h1:Sim s q p w o l g a a')(h2:Sim s q p w o l g b b'):Sim s q p w o l g (if c then a else b) (if c then a' else b'):=by
 split
 ·exact h1
 ·exact h2
end
variable (H:Ends s q)
include H
theorem Qdp (v:List UInt8):isP v [s]=false:=by
 unfold isP;rw[show Xg [s]=5 from H.Qn7];rfl
theorem Qgw {k:Int}(hk:k≠5):(Xg [s]==k)=false:=by
 rw[show Xg [s]=5 from H.Qn7];exact beq_false_of_ne (Ne.symm hk)
theorem Live.Qoq {v:List UInt8}{l l':List Tok}(h:Al s q false l l')(hi:isP v l=true):∃ t t' m m',l=t::m∧l'=t'::m'∧Like t t'∧Al s q false m m':=by
 rcases h with (rfl|⟨h,-⟩)|h
 ·cases hi
 ·cases h
 ·cases h with
  |cut=>rw[Qdp H] at hi;cases hi
  |nil=>cases hi
  |cons h1 h2=>exact⟨_,_,_,_,rfl,rfl,h1,.inr h2⟩
theorem J6 {v:List UInt8}(hv:v≠Qw∧v≠Zn){l l':List Tok}(h:Al s q false l l'):l=[]∨isP v l=isP v l':=by
 rcases h with (rfl|⟨h,-⟩)|h
 ·exact .inl rfl
 ·cases h
 ·right;cases h with
  |nil=>rfl
  |cut=>
   rw[Qdp H];rcases H.sign with rfl|⟨t,m,rfl,ht⟩
   ·rfl
   show false=((t.kind==3||t.kind==4)&&t.text==v)
   rcases ht with ht|⟨-,ht⟩
   ·rw[ht];rfl
   ·have:(t.text==v)=false:=beq_false_of_ne fun e=>by
     rcases ht with ht|ht
     ·exact hv.1 (e.symm.trans ht)
     ·exact hv.2 (e.symm.trans ht)
    rw[this,Bool.and_false]
  |cons h1 h2=>
   unfold isP Xg Vm;dsimp only;rw[h1.1,h1.2.1]
theorem Qn9 {k:Int}(hk:k≠4∧k≠5∧k≠0){l l':List Tok}(h:Al s q false l l'):l=[]∨(Xg l==k)=(Xg l'==k):=by
 rcases h with (rfl|⟨h,-⟩)|h
 ·exact .inl rfl
 ·cases h
 ·right;cases h with
  |nil=>rfl
  |cut=>
   rw[Qgw H hk.2.1];rcases H.sign with rfl|⟨t,m,rfl,ht⟩
   ·exact(beq_false_of_ne (Ne.symm hk.2.2)).symm
   refine(beq_false_of_ne fun e=>?_).symm;have e:t.kind=k:=e;rcases ht with ht|⟨ht,-⟩
   ·exact hk.2.1 (e.symm.trans ht)
   ·exact hk.1 (e.symm.trans ht)
  |@cons t t' l l' h1 h2=>rw[Qip (l:=l) (l':=l') h1]
theorem Qjq {l l':List Tok}(h:Al s q false l l'):l=[]∨(Xg l==1&&Zq Kr l)=(Xg l'==1&&Zq Kr l'):=by
 rcases h with (rfl|⟨h,-⟩)|h
 ·exact .inl rfl
 ·cases h
 ·right;cases h with
  |nil=>rfl
  |cut=>
   rw[Qgw H Dd,Bool.false_and];rcases H.sign with rfl|⟨t,m,rfl,ht⟩
   ·rfl
   rw[show (Xg (t::m)==1)=false from beq_false_of_ne fun e=>by
    have e:t.kind=1:=e
    rcases ht with ht|⟨ht,-⟩ <;> (rw[ht] at e;cases e),Bool.false_and]
  |@cons t t' l l' h1 h2=>
   rw[show Xg (t::l)=Xg (t'::l') from h1.1];congr 1
   cases h2 with
   |nil=>rfl
   |cut=>
    rcases H.sign with rfl|⟨u,m,rfl,hu⟩
    ·show (s.kind==4&&s.text==Kr)=false
     rw[H.Qn7];rfl
    show (s.kind==4&&s.text==Kr)=(u.kind==4&&u.text==Kr)
    rw[H.Qn7];rcases hu with hu|⟨-,hu⟩
    ·rw[hu];rfl
    ·rcases hu with hu|hu <;> (rw[hu];simp[Qw,Zn,Kr])
   |cons h3 h4=>
    unfold Zq;dsimp only;rw[h3.1,h3.2.1]
theorem same_num {l l':List Tok}(h:Al s q false l l')(h2:(Xg l==2)=true):Qbk l=Qbk l'∧Qou l=Qou l':=by
 rcases h with (rfl|⟨h,-⟩)|h
 ·cases h2
 ·cases h
 ·cases h with
  |cut=>rw[Qgw H Dd] at h2;cases h2
  |nil=>cases h2
  |cons h1 _=>unfold Qbk Qou;dsimp only;rw[h1.2.2];exact⟨rfl,rfl⟩
section
variable {α γ:Type} {p w:Bool} {o l:List Tok} {g:α→γ} {r r':R α}
theorem Sim.is {v:List UInt8}{k k':List Tok}{a a' b b':R α}(hv:v≠Qw∧v≠Zn)(h:Al s q false k k')(hk:k <:+ l)(ho:k <:+ o)
  (h1:Al s q false k.tail k'.tail→k.tail <:+ o→(Ky.contains v=true→St1 o k.tail)→Sim s q p w o k g a a') (h2:Sim s q p w o k g b b'):Sim s q p w o l g (if isP v k then a else b) (if isP v k' then a' else b'):=by
 refine Sim.ite hk (J6 H hv h) (fun hc=>?_) fun _=>h2
 obtain⟨t,t',m,m',rfl,rfl,e1,e2⟩:=Live.Qoq H h hc;refine h1 e2 ((List.tail_suffix _).trans ho) fun he=>St1.up ho ⟨[],t,rfl,?_⟩
 unfold isP at hc;rw[Bool.and_eq_true] at hc;have ht:t.text=v:=beq_iff_eq.1 hc.2;unfold X3;rw[ht,he,Bool.or_true]
theorem Sim.or {v u:List UInt8}{k k':List Tok}{a a' b b':R α}(hv:v≠Qw∧v≠Zn)(hu:u≠Qw∧u≠Zn)(h:Al s q false k k')(hk:k <:+ l)(ho:k <:+ o)
  (h1:Al s q false k.tail k'.tail→k.tail <:+ o→isP v k=isP v k'→Sim s q p w o k g a a') (h2:Sim s q p w o k g b b'):Sim s q p w o l g (if isP v k||isP u k then a else b) (if isP v k'||isP u k' then a' else b'):=by
 refine Sim.ite hk ?_ (fun hc=>?_) fun _=>h2
 ·rcases J6 H hv h with h3|h3
  ·exact .inl h3
  ·rcases J6 H hu h with h4|h4
   ·exact .inl h4
   ·rw[h3,h4];exact .inr rfl
 ·rw[Bool.or_eq_true] at hc;obtain⟨t,t',m,m',rfl,rfl,e1,e2⟩:∃ t t' m m',k=t::m∧k'=t'::m'∧Like t t'∧Al s q false m m':=hc.elim (Live.Qoq H h) (Live.Qoq H h);exact h1 e2 ((List.tail_suffix _).trans ho) (by unfold isP Xg Vm;dsimp only;rw[e1.1,e1.2.1])
theorem Sim.and {v:List UInt8}{c:Bool}{k k':List Tok}{a a' b b':R α}(hv:v≠Qw∧v≠Zn)(h:Al s q false k k')(hk:k <:+ l)(ho:k <:+ o)
  (h1:Al s q false k.tail k'.tail→k.tail <:+ o→Sim s q p w o k g a a') (h2:Sim s q p w o k g b b'):Sim s q p w o l g (if c&&isP v k then a else b) (if c&&isP v k' then a' else b'):=by
 refine Sim.ite hk ?_ (fun hc=>?_) fun _=>h2
 ·rcases J6 H hv h with h3|h3
  ·exact .inl h3
  ·rw[h3];exact .inr rfl
 ·rw[Bool.and_eq_true] at hc;obtain⟨t,t',m,m',rfl,rfl,e1,e2⟩:=Live.Qoq H h hc.2;exact h1 e2 ((List.tail_suffix _).trans ho)
theorem Jo (v:List UInt8){l l':List Tok}(h:Al s q false l l')(ho:l <:+ o):Sim s q (Ky.contains v) false o l (fun _=>()) (Vl e v l) (Vl e' v l'):=by
 unfold Vl;cases hc:isP v l with
 |false=>exact Sim.bad
 |true=>
  obtain⟨t,t',m,m',rfl,rfl,e1,e2⟩:=Live.Qoq H h hc;have hc':isP v (t'::m')=true:=by
   unfold isP Xg Vm at hc ⊢;dsimp only at hc ⊢;rw[←e1.1,←e1.2.1];exact hc
  rw[hc'];refine Sim.ok (List.tail_suffix _) (fun he=>St1.up ho ⟨[],t,rfl,?_⟩) e2 rfl;unfold isP at hc;rw[Bool.and_eq_true] at hc;have ht:t.text=v:=beq_iff_eq.1 hc.2;unfold X3;rw[ht,he,Bool.or_true]
theorem Al.kd {k:Int}(hk:k≠0∧k≠5){l l':List Tok}(h:Al s q false l l')(hc:(Xg l==k)=true):∃ t t' m m',l=t::m∧l'=t'::m'∧Like t t'∧Al s q false m m':=by
 rcases h with (rfl|⟨h,-⟩)|h
 ·exact absurd (beq_iff_eq.1 hc).symm hk.1
 ·cases h
 ·cases h with
  |cut=>rw[Qgw H hk.2] at hc;cases hc
  |nil=>exact absurd (beq_iff_eq.1 hc).symm hk.1
  |cons h1 h2=>exact⟨_,_,_,_,rfl,rfl,h1,.inr h2⟩
theorem Ri {l l':List Tok}(h:Al s q false l l')(ho:l <:+ o):Sim s q true false o l (fun x:List UInt8×Nat=>x.1) (Rk e l) (Rk e' l'):=by
 unfold Rk;cases hc:Xg l==1 with
 |false=>exact Sim.bad
 |true=>
  obtain⟨t,t',m,m',rfl,rfl,e1,e2⟩:=Al.kd H Dd h hc;rw[show Xg (t'::m')=Xg (t::m) from e1.1.symm,hc];refine Sim.ok (List.tail_suffix _) (fun he=>St1.up ho ⟨[],t,rfl,?_⟩) e2 e1.2.1;unfold X3;rw[show (t.kind==1)=true from hc];rfl
theorem Qda (v:List UInt8):Zq v [s]=false:=have _:=H
 rfl
theorem Qjm {v:List UInt8}(hv:Ky.contains v=true){l l':List Tok}(h:Al s q false l l')(ho:l <:+ o):Sim s q true false o l (fun _=>()) (A8 e v l) (A8 e' v l'):=by
 unfold A8;rcases h with (rfl|⟨h,-⟩)|h
 ·exact Sim.bad
 ·cases h
 ·cases h with
  |cut=>
   rw[Qda H,Bool.and_false,if_neg Dd];unfold Vl;rw[Qdp H];exact Sim.bad
  |nil=>exact Sim.bad
  |@cons t t' l l' h1 h2=>
   have hk:Xg (t::l)=Xg (t'::l'):=h1.1;have hw:∀ {k k':List Tok},Al s q false k k'→k <:+ t::l→Sim s q true false o (t::l) (fun _=>()) (Vl e v k) (Vl e' v k'):=fun a b=>Sim.sub b (by rw[←hv];exact Jo H v a (b.trans ho))
   cases h2 with
   |nil hq=>
    rw[hk,show Zq v [t]=Zq v [t'] from rfl];split
    ·rename_i hh;rw[show Zq v [t']=false from rfl,Bool.and_false] at hh;cases hh
    ·exact hw (.inr (.cons h1 (.nil hq))) (List.suffix_refl _)
   |cut=>
    have e1:Zq v (t::[s])=false:=by unfold Zq;dsimp only;rw[H.Qn7];rfl
    rw[e1,Bool.and_false,if_neg Dd];have e2:isP v (t::[s])=true→(Xg (t'::q)==5)=false:=fun hi=>by
     unfold isP at hi;rw[Bool.and_eq_true,Bool.or_eq_true,hk] at hi;rcases hi.1 with h|h <;> (rw[beq_iff_eq.1 h];rfl)
    cases hi:isP v (t::[s]) with
    |false=>unfold Vl;rw[hi];exact Sim.bad
    |true=>rw[e2 hi,Bool.false_and,if_neg Dd];exact hw (.inr (.cons h1 .cut)) (List.suffix_refl _)
   |@cons u u' l l' h3 h4=>
    have e1:Zq v (t::u::l)=Zq v (t'::u'::l'):=by unfold Zq;dsimp only;rw[h3.1,h3.2.1]
    rw[hk,e1];split
    ·exact hw (.inr (.cons h3 h4)) (List.tail_suffix _)
    ·exact hw (.inr (.cons h1 (.cons h3 h4))) (List.suffix_refl _)
theorem semi_sim (v:List UInt8)(hv:v≠Qw∧v≠Zn){l l':List Tok}(h:Al s q true l l'):Sim s q false false o l (fun _=>()) (Qa6 e v l) (Qa6 e' v l'):=by
 unfold Qa6;rcases h with (rfl|⟨-,rfl⟩)|⟨t,t',k,k',rfl,rfl,h1,h2⟩
 ·exact Sim.bad
 ·rw[show (Xg [s]==5)=true from beq_iff_eq.2 H.Qn7,if_pos rfl];intro x m hx;cases hx;exact⟨List.tail_suffix _,fun h=>(by cases h),.inl (.inl rfl)⟩
 ·rw[show Xg (t::k)=Xg (t'::k') from h1.1,show isP v (t::k)=isP v (t'::k') by unfold isP Xg Vm;dsimp only;rw[h1.1,h1.2.1]];split
  ·exact Sim.ok (List.tail_suffix _) (fun h=>by cases h) (.inr h2) rfl
  ·split
   ·exact Sim.ok (List.suffix_refl _) (fun h=>by cases h) (.inr (.cons h1 h2)) rfl
   ·exact Sim.bad
def One (s:Tok)(q:List Tok)(one one':List Tok→R Tr):Prop:=∀ o l l',l <:+ o→Al s q false l l'→Sim s q true false o l erT (one l) (one' l')
theorem St1.none {m:List Tok}(h:St1 [s] m):False:=by
 obtain⟨c,t,e1,h2⟩:=h;cases c with
 |nil=>
  simp only[List.nil_append,List.cons.injEq] at e1;rw[←e1.1,H.calm] at h2;cases h2
 |cons a c=>simp at e1
theorem shut_cut (v:List UInt8):A8 e v [s]=Prs.bad (atP e [s]):=by
 unfold A8;rw[Qda H,Bool.and_false,if_neg Dd];unfold Vl;rw[Qdp H,if_neg Dd]
theorem Qey {t t':Tok}{l l':List Tok}(h:Like t t')(v:List UInt8):isP v (t::l)=isP v (t'::l'):=by
 have _:=H;unfold isP Xg Vm;dsimp only;rw[h.1,h.2.1]
theorem Qgk {v:List UInt8}(hv:Ky.contains v=true){one one':List Tok→R Tr}(h1:One s q one one'):∀ (f f':Nat) (acc acc':List Tr) (o l l':List Tok),erL acc=erL acc'→l <:+ o→Al s q false l l'→Sim s q true false o l erL (Xl e v one f acc l) (Xl e' v one' f' acc' l'):=by
 intro f;induction f with
 |zero=>intros;exact Sim.none
 |succ f ih=>
  have key:∀ (f':Nat) (acc acc':List Tr) (o l l':List Tok),erL acc=erL acc'→l <:+ o→Al s q false l l'→Sim s q true false o l erL (Xl e v one (f+1) acc l) (Xl e' v one' (f'+1) acc' l'):=by
   intro f' acc acc' o l l' hacc ho h;unfold Xl;refine Sim.bind (List.suffix_refl _) Ds (h1 o l l' ho h) ho fun x x' m m' hm hs ha hx=>?_
   have hac:erL (acc++[x])=erL (acc'++[x']):=by rw[Rz,Rz,hacc];simp only[erL,hx]
   rcases ha with (rfl|⟨ha,-⟩)|ha
   ·exact Sim.bad
   ·cases ha
   ·cases ha with
    |cut=>
     rw[Qdp H,if_neg Dd,shut_cut H];exact Sim.bad
    |nil=>exact Sim.bad
    |@cons t t' l l' h3 h4=>
     rw[Qey H (l:=l) (l':=l') h3];split
     ·exact Sim.sub (List.tail_suffix _) (ih f' _ _ o _ _ hac ((List.tail_suffix _).trans hm) (.inr h4))
     ·exact Sim.bind (List.suffix_refl _) Ds (Qjm H hv (.inr (.cons h3 h4)) hm) hm fun _ _ k k' hk hs ha _=>Sim.ok (List.suffix_refl _) (fun _=>hs rfl) ha hac
  intro f' acc acc' o l l' hacc ho h;cases f' with
  |zero=>exact Sim.noner (key 0 acc acc' o l l' hacc ho h)
  |succ f'=>exact key f' acc acc' o l l' hacc ho h
theorem L8 {v:List UInt8}(hv:Ky.contains v=true)(first:Bool){one one':List Tok→R Tr}(h1:One s q one one')(f f':Nat){o l l':List Tok}(h:Al s q false l l')(ho:l <:+ o):Sim s q true false o l erL (U7 e v first one f l) (U7 e' v first one' f' l'):=by
 unfold U7;have hL:=Qgk (e:=e) (e':=e') H hv h1 f f' [] [] o l l' rfl ho h;rcases h with (rfl|⟨ha,-⟩)|ha
 ·rw[show isP v []=false from rfl,Bool.and_false,if_neg Dd];exact Sim.dead (.inl rfl) hL
 ·cases ha
 ·cases ha with
  |nil=>
   rw[show isP v []=false from rfl,Bool.and_false,if_neg Dd];exact Sim.dead (.inl rfl) hL
  |cut=>
   rw[Qdp H,Bool.and_false,if_neg Dd];intro z m hz;cases f with
   |zero=>cases hz
   |succ f=>
    unfold Xl at hz;cases ho1:one [s] with
    |none=>rw[ho1] at hz;cases hz
    |some y=>
     cases y with
     |error n=>rw[ho1] at hz;cases hz
     |ok y=>
      obtain⟨x,k⟩:=y;exact(St1.none H ((h1 [s] [s] q (List.suffix_refl _) (.inr .cut) x k ho1).2.1 rfl)).elim
  |@cons t t' l l' h3 h4=>
   have he:=Qey H h3 v (l:=l) (l':=l');cases hc:isP v (t::l) with
   |false=>
    rw[←he,hc,Bool.and_false,if_neg Dd,if_neg Dd];exact hL
   |true=>
    rw[←he,hc];split
    ·refine Sim.ok (List.tail_suffix _) (fun _=>St1.up ho ⟨[],t,rfl,?_⟩) (.inr h4) rfl;unfold isP at hc;rw[Bool.and_eq_true] at hc;have ht:t.text=v:=beq_iff_eq.1 hc.2;unfold X3;rw[ht,hv,Bool.or_true]
    ·exact hL
theorem Sim.Qn7 {β δ:Type}{pA:Bool}{k:List Tok}{gA:β→δ}{v:List UInt8}(hv:v≠Qw∧v≠Zn){a a':R β}{f f':β→List Tok→R α}(hA:Sim s q pA true o k gA a a')(hk:k <:+ l)(ho:k <:+ o)
  (hf:∀ x x' m m',m <:+ o→Al s q false m m'→gA x=gA x'→Sim s q p w o m g (f x m) (f' x' m')):Sim s q p w o l g (andThen a fun x k=>andThen (Qa6 e v k) fun _ m=>f x m) (andThen a' fun x k=>andThen (Qa6 e' v k) fun _ m=>f' x m):=by
 intro z m hz;cases a with
 |none=>cases hz
 |some y=>
  cases y with
  |error n=>cases hz
  |ok y=>
   obtain⟨x,n⟩:=y;obtain⟨h1,h2,h3⟩:=hA x n rfl;have hz:andThen (Qa6 e v n) (fun _ m=>f x m)=some (.ok (z,m)):=hz;rcases h3 with (rfl|⟨-,rfl⟩)|⟨x',n',e1,e2,e3⟩
   ·cases hz
   ·unfold Qa6 at hz;rw[show (Xg [s]==5)=true from beq_iff_eq.2 H.Qn7,if_pos rfl] at hz;obtain⟨k1,k2,-⟩:=hf x x [] [] (List.nil_suffix) (.inl (.inl rfl)) rfl z m hz;exact⟨(k1.trans (List.nil_suffix)),k2,.inl (.inl (List.suffix_nil.1 k1))⟩
   ·obtain⟨k1,k2,k3⟩:=Sim.bind (f:=fun _ m=>f x m) (f':=fun _ m=>f' x' m) (List.suffix_refl _) Ds (semi_sim (e:=e) (e':=e') H v hv (.inr e3)) (h1.trans ho) (fun _ _ m m' hm _ ha _=>hf x x' m m' hm ha e2) z m hz;refine⟨k1.trans (h1.trans hk),k2,?_⟩;rcases e1 with rfl|rfl
    ·exact k3.imp id fun ⟨x',m',_,e⟩=>⟨x',m',.inl rfl,e⟩
    ·exact k3
theorem Qcm {l l':List Tok}(h:Al s q false l l'):l=[]∨Gn l=Gn l':=by
 unfold Gn;rcases Qn9 H (k:=1) Dd h with h1|h1
 ·exact .inl h1
 ·rcases J6 H (v:=wSq) Dd h with h2|h2
  ·exact .inl h2
  ·rcases J6 H (v:=Dv) Dd h with h3|h3
   ·exact .inl h3
   ·rcases J6 H (v:=Yg) Dd h with h4|h4
    ·exact .inl h4
    ·rw[h1,h2,h3,h4];exact .inr rfl
theorem Sim.ret {x x':α}{k k':List Tok}{a a':R α}(ha:Al s q false k k')(hk:k <:+ l)(hx:g x=g x')(hA:Sim s q false true o k g a a'):Sim s q false true o l g (if !(Xg k==5) && !(isP wUc k) then a else Prs.ok x k) (if !(Xg k'==5) && !(isP wUc k') then a' else Prs.ok x' k'):=by
 rcases ha with (rfl|⟨ha,-⟩)|ha
 ·rw[show (!(Xg []==5) && !(isP wUc []))=true from rfl,if_pos rfl];exact Sim.sub hk (Sim.dead (.inl rfl) hA)
 ·cases ha
 ·cases ha with
  |nil=>
   rw[show (!(Xg []==5) && !(isP wUc []))=true from rfl,if_pos rfl];exact Sim.sub hk (Sim.dead (.inl rfl) hA)
  |cut=>
   rw[show (Xg [s]==5)=true from beq_iff_eq.2 H.Qn7,Bool.not_true,Bool.false_and,if_neg Dd];intro y m h;cases h;exact⟨hk,(fun h=>nomatch h),.inl (.inr ⟨rfl,rfl⟩)⟩
  |@cons t t' l l' h1 h2=>
   rw[Qey H (l:=l) (l':=l') h1,Qip (l:=l) (l':=l') h1];split
   ·exact Sim.sub hk hA
   ·exact Sim.ok hk Ds (Al.weak (.inr (.cons h1 h2))) hx
def strg (l:List Tok):Nat:=if Xg l==4 then Vg (Vm l) else 0
theorem Qnw {l l':List Tok}(h:Al s q false l l'):l=[]∨strg l=strg l':=by
 rcases h with (rfl|⟨h,-⟩)|h
 ·exact .inl rfl
 ·cases h
 ·right;cases h with
  |nil=>rfl
  |cut=>
   unfold strg;rw[Qgw H Dd,if_neg Dd];rcases H.sign with rfl|⟨t,m,rfl,ht⟩
   ·rfl
   show 0=if t.kind==4 then Vg t.text else 0
   rcases ht with ht|⟨-,ht⟩
   ·rw[ht];rfl
   ·split
    ·rcases ht with ht|ht <;> (rw[ht];rfl)
    ·rfl
  |@cons t t' l l' h1 h2=>
   show (if t.kind==4 then Vg t.text else 0)=if t'.kind==4 then Vg t'.text else 0
   rw[h1.1,h1.2.1]
theorem Sim.kids {x x':Tr}{m m':List Tok}{F F':Tr→R α}{b b':R α}(hx:erT x=erT x')(ha:Al s q false m m')(ho:m <:+ o)
  (h1:∀ t t',erT t=erT t'→Sim s q p w o m g (F t) (F' t')) (h2:Sim s q p w o m g b b'):Sim s q p w o m g (if x.kind==39 && !(isP Xp m) then (match x.kids with
  | []=>Option.none
  |t::_=>F t) else b) (if x'.kind==39 && !(isP Xp m') then (match x'.kids with
  | []=>Option.none
  |t::_=>F' t) else b'):=by
 refine Sim.ite (List.suffix_refl _) ?_ (fun _=>?_) fun _=>h2
 ·rcases J6 H (v:=Xp) Dd ha with h|h
  ·exact .inl h
  ·rw[h,Qe9 hx];exact .inr rfl
 ·have hk:=erT_kids hx;cases h3:x.kids with
  |nil=>exact Sim.none
  |cons t l=>
   cases h4:x'.kids with
   |nil=>rw[h3,h4] at hk;cases hk
   |cons t' l'=>
    rw[h3,h4] at hk;simp only[erL,List.cons.injEq] at hk;exact h1 t t' hk.1
end
end
theorem sf {k l:List Tok}(h:k <:+ l:=by first|exact List.suffix_refl _|exact List.tail_suffix _|exact(List.tail_suffix _).trans (List.tail_suffix _)):k <:+ l:=h
theorem so {k l:List Tok}(h:k <:+ l:=by first|assumption|exact List.suffix_refl _|exact(List.tail_suffix _).trans Da):k <:+ l:=h
theorem al {p:Prop}(h:p:=by assumption):p:=h
theorem alw {s:Tok}{q:List Tok}{w:Bool}{l l':List Tok}(h:Al s q w l l':=by first|assumption|exact Al.weak Da):Al s q w l l':=h
theorem eqv {α:Type}{a b:α}(h:a=b:=by first|rfl|assumption|(simp only[erT,erL,Rz,List.nil_append,List.cons_append, *])):a=b:=h
theorem stv {p q:Prop}(h:p→q:=by intro hp;first|assumption|cases hp):p→q:=h
structure Exts (s:Tok)(q:List Tok)(e e':Nat)(f:Nat):Prop where
 typ:∀ (f':Nat)  (o l l':List Tok),l <:+ o→Al s q false l l'→Sim s q true false o l erT (D7 e f l) (D7 e' f' l')
 param:∀ (f':Nat)  (o l l':List Tok),l <:+ o→Al s q false l l'→Sim s q true false o l erT (Jk e f l) (Jk e' f' l')
 sig:∀ (f':Nat)  (o l l':List Tok),l <:+ o→Al s q false l l'→Sim s q true false o l erL (Qfn e f l) (Qfn e' f' l')
 block:∀ (f':Nat)  (o l l':List Tok),l <:+ o→Al s q false l l'→Sim s q true false o l erT (U5 e f l) (U5 e' f' l')
 blockL:∀ (f':Nat) (acc acc':List Tr) (o l l':List Tok),erL acc=erL acc'→l <:+ o→Al s q false l l'→Sim s q true false o l erL (Vf e f acc l) (Vf e' f' acc' l')
 branch:∀ (f':Nat) (p p':Nat) (o l l':List Tok),l <:+ o→Al s q false l l'→Sim s q false true o l erT (U8 e f p l) (U8 e' f' p' l')
 stmt:∀ (f':Nat) (hd:Bool) (o l l':List Tok),l <:+ o→Al s q false l l'→Sim s q false true o l erT (Gg e f hd l) (Gg e' f' hd l')
 simple:∀ (f':Nat) (hd:Bool) (o l l':List Tok),l <:+ o→Al s q false l l'→Sim s q false true o l erT (Ym e f hd l) (Ym e' f' hd l')
 body:∀ (f':Nat) (hd:Bool) (o l l':List Tok),l <:+ o→Al s q false l l'→Sim s q false true o l erT (Jg e f hd l) (Jg e' f' hd l')
 bodyL:∀ (f':Nat) (hd:Bool) (acc acc':List Tr) (o l l':List Tok),erL acc=erL acc'→l <:+ o→Al s q false l l'→Sim s q false true o l erL (Ut e f hd acc l) (Ut e' f' hd acc' l')
 oneC:∀ (f':Nat) (hd:Bool) (d:Nat) (o l l':List Tok),l <:+ o→Al s q false l l'→Sim s q false true o l (fun x:Tr×Nat=>(erT x.1,x.2)) (Vs e f hd d l) (Vs e' f' hd d l')
 selection:∀ (f':Nat) (p p':Nat) (o l l':List Tok),l <:+ o→Al s q false l l'→Sim s q false true o l erT (Zp e f p l) (Zp e' f' p' l')
 selL:∀ (f':Nat) (acc acc':List Tr) (d:Nat) (o l l':List Tok),erL acc=erL acc'→l <:+ o→Al s q false l l'→Sim s q false true o l erL (Yn e f acc d l) (Yn e' f' acc' d l')
 expr:∀ (f':Nat) (n:Nat) (hd:Bool) (o l l':List Tok),l <:+ o→Al s q false l l'→Sim s q true false o l erT (Xc e f n hd l) (Xc e' f' n hd l')
 exprL:∀ (f':Nat) (n:Nat) (hd:Bool) (x x':Tr) (o l l':List Tok),erT x=erT x'→St1 o l→l <:+ o→Al s q false l l'→Sim s q true false o l erT (Xu e f n hd x l) (Xu e' f' n hd x' l')
 unary:∀ (f':Nat) (hd:Bool) (o l l':List Tok),l <:+ o→Al s q false l l'→Sim s q true false o l erT (Zg e f hd l) (Zg e' f' hd l')
 suf:∀ (f':Nat) (hd:Bool) (x x':Tr) (o l l':List Tok),erT x=erT x'→St1 o l→l <:+ o→Al s q false l l'→Sim s q true false o l erT (Vp e f hd x l) (Vp e' f' hd x' l')
 arg:∀ (f':Nat)  (o l l':List Tok),l <:+ o→Al s q false l l'→Sim s q true false o l erT (Qhi e f l) (Qhi e' f' l')
 operand:∀ (f':Nat) (hd:Bool) (o l l':List Tok),l <:+ o→Al s q false l l'→Sim s q true false o l erT (Zw e f hd l) (Zw e' f' hd l')
section
variable {s:Tok} {q:List Tok} {e e':Nat} (H:Ends s q)
include H
set_option maxHeartbeats 40000000 in
theorem exts:∀ f,Exts s q e e' f
 |0=>by
  constructor <;> intros
  ·first|exact Sim.none|(simp only[D7];exact Sim.none)
  ·first|exact Sim.none|(simp only[Jk];exact Sim.none)
  ·first|exact Sim.none|(simp only[Qfn];exact Sim.none)
  ·first|exact Sim.none|(simp only[U5];exact Sim.none)
  ·first|exact Sim.none|(simp only[Vf];exact Sim.none)
  ·first|exact Sim.none|(simp only[U8];exact Sim.none)
  ·first|exact Sim.none|(simp only[Gg];exact Sim.none)
  ·first|exact Sim.none|(simp only[Ym];exact Sim.none)
  ·first|exact Sim.none|(simp only[Jg];exact Sim.none)
  ·first|exact Sim.none|(simp only[Ut];exact Sim.none)
  ·first|exact Sim.none|(simp only[Vs];exact Sim.none)
  ·first|exact Sim.none|(simp only[Zp];exact Sim.none)
  ·first|exact Sim.none|(simp only[Yn];exact Sim.none)
  ·first|exact Sim.none|(simp only[Xc];exact Sim.none)
  ·first|exact Sim.none|(simp only[Xu];exact Sim.none)
  ·first|exact Sim.none|(simp only[Zg];exact Sim.none)
  ·first|exact Sim.none|(simp only[Vp];exact Sim.none)
  ·first|exact Sim.none|(simp only[Qhi];exact Sim.none)
  ·first|exact Sim.none|(simp only[Zw];exact Sim.none)
 |f+1=>by
  have I:=exts f;constructor
  ·intro f'  o l l' ho h;refine Sim.Qfl (F:=fun f'=>D7 e' f' l') (by first|rfl|simp only[D7]) (fun f'=>?_) f';unfold D7;try dsimp only
   repeat' first
    |exact Sim.bad
    |(refine Sim.is H Dd al sf so (fun ha ht hs=>?_) ?_;(try have hs:=hs Dd))
    |(refine Sim.or H Dd Dd al sf so (fun ha ht he=>?_) ?_)
    |(refine Sim.and H Dd al sf so (fun ha ht=>?_) ?_)
    |(refine Sim.bind sf Ds (Jo H _ al so) so (fun x x' m m' hm hs ha hx=>?_);(try have hs:=hs Dd);(try dsimp only at hx))
    |(refine Sim.bind sf Ds (Ri H al so) so (fun x x' m m' hm hs ha hx=>?_);(try have hs:=hs Dd);(try dsimp only at hx);(try rw[hx]))
    |(refine Sim.bind sf Ds (L8 H Dd _ (fun o l l' h1 h2=>I.typ f' o l l' h1 h2) f f' al so) so (fun x x' m m' hm hs ha hx=>?_);(try have hs:=hs Dd);(try dsimp only at hx))
    |(refine Sim.bind sf Ds (I.typ f'  o _ _ so al) so (fun x x' m m' hm hs ha hx=>?_);(try have hs:=hs Dd);(try dsimp only at hx))
    |(refine Sim.ite (List.suffix_refl _) (Qcm H al) (fun _=>?_) (fun _=>?_))
    |(refine Sim.ok sf stv alw eqv)
  ·intro f'  o l l' ho h;refine Sim.Qfl (F:=fun f'=>Jk e' f' l') (by first|rfl|simp only[Jk]) (fun f'=>?_) f';unfold Jk;try dsimp only
   repeat' first
    |exact Sim.bad
    |(refine Sim.is H Dd al sf so (fun ha ht hs=>?_) ?_;(try have hs:=hs Dd))
    |(refine Sim.or H Dd Dd al sf so (fun ha ht he=>?_) ?_)
    |(refine Sim.and H Dd al sf so (fun ha ht=>?_) ?_)
    |(refine Sim.bind sf Ds (Ri H al so) so (fun x x' m m' hm hs ha hx=>?_);(try have hs:=hs Dd);(try dsimp only at hx);(try rw[hx]))
    |(refine Sim.bind sf Ds (I.typ f'  o _ _ so al) so (fun x x' m m' hm hs ha hx=>?_);(try have hs:=hs Dd);(try dsimp only at hx))
    |(refine Sim.ok sf stv alw eqv)
  ·intro f'  o l l' ho h;refine Sim.Qfl (F:=fun f'=>Qfn e' f' l') (by first|rfl|simp only[Qfn]) (fun f'=>?_) f';unfold Qfn;try dsimp only
   repeat' first
    |exact Sim.bad
    |(refine Sim.is H Dd al sf so (fun ha ht hs=>?_) ?_;(try have hs:=hs Dd))
    |(refine Sim.or H Dd Dd al sf so (fun ha ht he=>?_) ?_)
    |(refine Sim.and H Dd al sf so (fun ha ht=>?_) ?_)
    |(refine Sim.bind sf Ds (Jo H _ al so) so (fun x x' m m' hm hs ha hx=>?_);(try have hs:=hs Dd);(try dsimp only at hx))
    |(refine Sim.bind sf Ds (L8 H Dd _ (fun o l l' h1 h2=>I.param f' o l l' h1 h2) f f' al so) so (fun x x' m m' hm hs ha hx=>?_);(try have hs:=hs Dd);(try dsimp only at hx))
    |(refine Sim.bind sf Ds (I.typ f'  o _ _ so al) so (fun x x' m m' hm hs ha hx=>?_);(try have hs:=hs Dd);(try dsimp only at hx))
    |(refine Sim.ite (List.suffix_refl _) (Qcm H al) (fun _=>?_) (fun _=>?_))
    |(refine Sim.ok sf stv alw eqv)
  ·intro f'  o l l' ho h;refine Sim.Qfl (F:=fun f'=>U5 e' f' l') (by first|rfl|simp only[U5]) (fun f'=>?_) f';unfold U5;try dsimp only
   repeat' first
    |exact Sim.bad
    |(refine Sim.is H Dd al sf so (fun ha ht hs=>?_) ?_;(try have hs:=hs Dd))
    |(refine Sim.or H Dd Dd al sf so (fun ha ht he=>?_) ?_)
    |(refine Sim.and H Dd al sf so (fun ha ht=>?_) ?_)
    |(refine Sim.bind sf Ds (Jo H _ al so) so (fun x x' m m' hm hs ha hx=>?_);(try have hs:=hs Dd);(try dsimp only at hx))
    |(refine Sim.bind sf Ds (I.blockL f' _ _ o _ _ eqv so al) so (fun x x' m m' hm hs ha hx=>?_);(try have hs:=hs Dd);(try dsimp only at hx))
    |(refine Sim.ok sf stv alw eqv)
  ·intro f' acc acc' o l l' hacc ho h;refine Sim.Qfl (F:=fun f'=>Vf e' f' acc' l') (by first|rfl|simp only[Vf]) (fun f'=>?_) f';unfold Vf;try dsimp only
   repeat' first
    |exact Sim.bad
    |(refine Sim.is H Dd al sf so (fun ha ht hs=>?_) ?_;(try have hs:=hs Dd))
    |(refine Sim.or H Dd Dd al sf so (fun ha ht he=>?_) ?_)
    |(refine Sim.and H Dd al sf so (fun ha ht=>?_) ?_)
    |(refine Sim.Qn7 H Dd (I.stmt f' _ o _ _ so al) sf so (fun x x' m m' hm ha hx=>?_))
    |(exact I.blockL f' _ _ o _ _ (by rw[Rz,Rz];simp only[erL, *]) so al)
    |(refine Sim.ok sf stv alw eqv)
  ·intro f' p p' o l l' ho h;refine Sim.Qfl (F:=fun f'=>U8 e' f' p' l') (by first|rfl|simp only[U8]) (fun f'=>?_) f';unfold U8;try dsimp only
   repeat' first
    |exact Sim.bad
    |(refine Sim.is H Dd al sf so (fun ha ht hs=>?_) ?_;(try have hs:=hs Dd))
    |(refine Sim.or H Dd Dd al sf so (fun ha ht he=>?_) ?_)
    |(refine Sim.and H Dd al sf so (fun ha ht=>?_) ?_)
    |(refine Sim.bind sf Ds (I.expr f' _ _ o _ _ so al) so (fun x x' m m' hm hs ha hx=>?_);(try have hs:=hs Dd);(try dsimp only at hx))
    |(refine Sim.bind sf Ds (I.block f'  o _ _ so al) so (fun x x' m m' hm hs ha hx=>?_);(try have hs:=hs Dd);(try dsimp only at hx))
    |(refine Sim.bind sf Ds (I.branch f' _ _ o _ _ so al) so (fun x x' m m' hm hs ha hx=>?_);(try have hs:=hs Dd);(try dsimp only at hx))
    |(refine Sim.ok sf stv alw eqv)
  ·intro f' hd o l l' ho h;refine Sim.Qfl (F:=fun f'=>Gg e' f' hd l') (by first|rfl|simp only[Gg]) (fun f'=>?_) f';unfold Gg;try dsimp only
   repeat' first
    |exact Sim.bad
    |(refine Sim.is H Dd al sf so (fun ha ht hs=>?_) ?_;(try have hs:=hs Dd))
    |(refine Sim.or H Dd Dd al sf so (fun ha ht he=>?_) ?_)
    |(refine Sim.and H Dd al sf so (fun ha ht=>?_) ?_)
    |(exact Sim.sub sf (I.block f' o _ _ so al).weak)
    |(exact Sim.sub sf (I.simple f' _ o _ _ so al))
    |(exact Sim.sub sf (I.branch f' _ _ o _ _ so al))
    |(exact Sim.sub sf (I.selection f' _ _ o _ _ so al))
    |(refine Sim.ret H al sf eqv ?_)
    |(refine Sim.bind sf Ds (Ri H al so) so (fun x x' m m' hm hs ha hx=>?_);(try have hs:=hs Dd);(try dsimp only at hx);(try rw[hx]))
    |(refine Sim.bind sf Ds (I.typ f'  o _ _ so al) so (fun x x' m m' hm hs ha hx=>?_);(try have hs:=hs Dd);(try dsimp only at hx))
    |(refine Sim.bind sf Ds (I.expr f' _ _ o _ _ so al) so (fun x x' m m' hm hs ha hx=>?_);(try have hs:=hs Dd);(try dsimp only at hx))
    |(refine Sim.bind sf Ds (I.block f'  o _ _ so al) so (fun x x' m m' hm hs ha hx=>?_);(try have hs:=hs Dd);(try dsimp only at hx))
    |(refine Sim.ite (List.suffix_refl _) (.inr (by rw[Qe9 Da])) (fun _=>?_) (fun _=>?_))
    |(refine Sim.ok sf stv alw eqv)
  ·intro f' hd o l l' ho h;refine Sim.Qfl (F:=fun f'=>Ym e' f' hd l') (by first|rfl|simp only[Ym]) (fun f'=>?_) f';unfold Ym;try dsimp only
   repeat' first
    |exact Sim.bad
    |(refine Sim.is H Dd al sf so (fun ha ht hs=>?_) ?_;(try have hs:=hs Dd))
    |(refine Sim.or H Dd Dd al sf so (fun ha ht he=>?_) ?_)
    |(refine Sim.and H Dd al sf so (fun ha ht=>?_) ?_)
    |(refine Sim.ite (List.suffix_refl _) (Qjq H al) (fun _=>?_) (fun _=>?_))
    |(refine Sim.ite (List.suffix_refl _) (.inr (by rw[Qe9 Da])) (fun _=>?_) (fun _=>?_))
    |(refine Sim.bind sf Ds (Ri H al so) so (fun x x' m m' hm hs ha hx=>?_);(try have hs:=hs Dd);(try dsimp only at hx);(try rw[hx]))
    |(refine Sim.bind sf Ds (Jo H _ al so) so (fun x x' m m' hm hs ha hx=>?_);(try have hs:=hs Dd);(try dsimp only at hx))
    |(refine Sim.bind sf Ds (I.expr f' _ _ o _ _ so al) so (fun x x' m m' hm hs ha hx=>?_);(try have hs:=hs Dd);(try dsimp only at hx))
    |(refine Sim.ok sf stv alw eqv)
  ·intro f' hd o l l' ho h;refine Sim.Qfl (F:=fun f'=>Jg e' f' hd l') (by first|rfl|simp only[Jg]) (fun f'=>?_) f';unfold Jg;try dsimp only
   repeat' first
    |exact Sim.bad
    |(refine Sim.is H Dd al sf so (fun ha ht hs=>?_) ?_;(try have hs:=hs Dd))
    |(refine Sim.or H Dd Dd al sf so (fun ha ht he=>?_) ?_)
    |(refine Sim.and H Dd al sf so (fun ha ht=>?_) ?_)
    |(refine Sim.bind sf Ds (Jo H _ al so) so (fun x x' m m' hm hs ha hx=>?_);(try have hs:=hs Dd);(try dsimp only at hx))
    |(refine Sim.bind sf Ds (I.bodyL f' _ _ _ o _ _ eqv so al) so (fun x x' m m' hm hs ha hx=>?_);(try have hs:=hs Dd);(try dsimp only at hx))
    |(refine Sim.ok sf stv alw eqv)
  ·intro f' hd acc acc' o l l' hacc ho h;refine Sim.Qfl (F:=fun f'=>Ut e' f' hd acc' l') (by first|rfl|simp only[Ut]) (fun f'=>?_) f';unfold Ut;try dsimp only
   refine Sim.ite (List.suffix_refl _) ?_ (fun _=>Sim.ok (List.suffix_refl _) (fun h=>nomatch h) (Al.weak h) hacc) fun _=>?_
   ·rcases J6 H (v:=Ul) Dd h with h1|h1
    ·exact .inl h1
    ·rcases J6 H (v:=Xf) Dd h with h2|h2
     ·exact .inl h2
     ·rcases J6 H (v:=wUc) Dd h with h3|h3
      ·exact .inl h3
      ·rw[h1,h2,h3];exact .inr rfl
   ·refine Sim.bind (List.suffix_refl _) Ds (I.stmt f' hd o l l' ho h) ho fun x x' k k' hk _ ha hx=>?_
    have hac:erL (acc++[x])=erL (acc'++[x']):=by rw[Rz,Rz,hacc];simp only[erL,hx]
    rcases ha with (rfl|⟨-,rfl⟩)|⟨t,t',m,m',rfl,rfl,h1,h2⟩
    ·exact Sim.bad
    ·rw[show (Xg [s]==5)=true from beq_iff_eq.2 H.Qn7,if_pos rfl];intro z m hz;obtain⟨k1,-,-⟩:=I.bodyL f' hd _ _ o [] [] hac List.nil_suffix (.inl (.inl rfl)) z m hz;exact⟨k1.trans List.nil_suffix,(fun h=>nomatch h),.inl (.inl (List.suffix_nil.1 k1))⟩
    ·rw[Qey H (l:=m) (l':=m') h1,Qip (l:=m) (l':=m') h1];split
     ·exact Sim.sub (List.tail_suffix _) (I.bodyL f' hd _ _ o m m' hac ((List.tail_suffix _).trans hk) (.inr h2))
     ·split
      ·exact I.bodyL f' hd _ _ o _ _ hac hk (.inr (.cons h1 h2))
      ·exact Sim.bad
  ·intro f' hd d o l l' ho h;refine Sim.Qfl (F:=fun f'=>Vs e' f' hd d l') (by first|rfl|simp only[Vs]) (fun f'=>?_) f';unfold Vs;try dsimp only
   repeat' first
    |exact Sim.bad
    |(refine Sim.is H Dd al sf so (fun ha ht hs=>?_) ?_;(try have hs:=hs Dd))
    |(refine Sim.or H Dd Dd al sf so (fun ha ht he=>?_) ?_)
    |(refine Sim.and H Dd al sf so (fun ha ht=>?_) ?_)
    |(refine Sim.kids H al al so (fun t t' ht=>?_) ?_)
    |(refine Sim.ite (List.suffix_refl _) (Qjq H al) (fun _=>?_) (fun _=>?_))
    |(refine Sim.prop ?_ ?_)
    |(refine Sim.bind sf Ds (Jo H _ al so) so (fun x x' m m' hm hs ha hx=>?_);(try have hs:=hs Dd);(try dsimp only at hx))
    |(refine Sim.bind sf Ds (Ri H al so) so (fun x x' m m' hm hs ha hx=>?_);(try have hs:=hs Dd);(try dsimp only at hx);(try rw[hx]))
    |(refine Sim.bind sf Ds (I.unary f' _ o _ _ so al) so (fun x x' m m' hm hs ha hx=>?_);(try have hs:=hs Dd);(try dsimp only at hx))
    |(refine Sim.bind sf Ds (I.expr f' _ _ o _ _ so al) so (fun x x' m m' hm hs ha hx=>?_);(try have hs:=hs Dd);(try dsimp only at hx))
    |(refine Sim.bind sf Ds (I.body f' _ o _ _ so al) so (fun x x' m m' hm hs ha hx=>?_);(try have hs:=hs Dd);(try dsimp only at hx))
    |(refine Sim.ok sf stv alw eqv)
  ·intro f' p p' o l l' ho h;refine Sim.Qfl (F:=fun f'=>Zp e' f' p' l') (by first|rfl|simp only[Zp]) (fun f'=>?_) f';unfold Zp;try dsimp only
   repeat' first
    |exact Sim.bad
    |(refine Sim.is H Dd al sf so (fun ha ht hs=>?_) ?_;(try have hs:=hs Dd))
    |(refine Sim.or H Dd Dd al sf so (fun ha ht he=>?_) ?_)
    |(refine Sim.and H Dd al sf so (fun ha ht=>?_) ?_)
    |(refine Sim.bind sf Ds (Jo H _ al so) so (fun x x' m m' hm hs ha hx=>?_);(try have hs:=hs Dd);(try dsimp only at hx))
    |(refine Sim.bind sf Ds (I.selL f' _ _ _ o _ _ eqv so al) so (fun x x' m m' hm hs ha hx=>?_);(try have hs:=hs Dd);(try dsimp only at hx))
    |(refine Sim.ok sf stv alw eqv)
  ·intro f' acc acc' d o l l' hacc ho h;refine Sim.Qfl (F:=fun f'=>Yn e' f' acc' d l') (by first|rfl|simp only[Yn]) (fun f'=>?_) f';unfold Yn;try dsimp only
   refine Sim.is H Dd h (List.suffix_refl _) ho (fun ha ht hs=>Sim.ok (List.tail_suffix _) Ds (Al.weak ha) hacc) ?_;refine Sim.bind (List.suffix_refl _) Ds (I.oneC f' false d o l l' ho h) ho fun x x' m m' hm _ ha hx=>?_
   have hx1:=(Prod.mk.inj hx).1;have hx2:=(Prod.mk.inj hx).2;have hac:erL (acc++[x.1])=erL (acc'++[x'.1]):=by rw[Rz,Rz,hacc];simp only[erL,hx1]
   rw[hx2];rcases ha with (rfl|⟨-,rfl⟩)|⟨t,t',k,k',rfl,rfl,h1,h2⟩
   ·exact Sim.dead (.inl rfl) (I.selL f' _ _ x'.2 o [] [] hac hm (.inl (.inl rfl)))
   ·exact Sim.dead (.inr ⟨rfl,rfl⟩) (I.selL f' _ _ x'.2 o [s] q hac hm (.inr .cut))
   ·exact I.selL f' _ _ x'.2 o _ _ hac hm (.inr (.cons h1 h2))
  ·intro f' n hd o l l' ho h;refine Sim.Qfl (F:=fun f'=>Xc e' f' n hd l') (by first|rfl|simp only[Xc]) (fun f'=>?_) f';unfold Xc;try dsimp only
   repeat' first
    |exact Sim.bad
    |(refine Sim.is H Dd al sf so (fun ha ht hs=>?_) ?_;(try have hs:=hs Dd))
    |(refine Sim.or H Dd Dd al sf so (fun ha ht he=>?_) ?_)
    |(refine Sim.and H Dd al sf so (fun ha ht=>?_) ?_)
    |(exact I.exprL f' _ _ _ _ o _ _ eqv al so al)
    |(refine Sim.bind sf Ds (I.unary f' _ o _ _ so al) so (fun x x' m m' hm hs ha hx=>?_);(try have hs:=hs Dd);(try dsimp only at hx))
    |(refine Sim.ok sf stv alw eqv)
  ·intro f' n hd x x' o l l' hx hst ho h;refine Sim.Qfl (F:=fun f'=>Xu e' f' n hd x' l') (by first|rfl|simp only[Xu]) (fun f'=>?_) f';unfold Xu;try dsimp only
   refine Sim.ite (c:=strg l==0||decide (strg l<n)) (c':=strg l'==0||decide (strg l'<n)) (List.suffix_refl _) ?_ (fun _=>Sim.ok (List.suffix_refl _) (fun _=>hst) h hx) fun hc=>?_
   ·rcases Qnw H h with h1|h1
    ·exact .inl h1
    ·rw[h1];exact .inr rfl
   ·have h4:(Xg l==4)=true:=by
     cases h4:(Xg l==4) with
     |true=>rfl
     |false=>unfold strg at hc;rw[h4] at hc;exact absurd hc Ds
    obtain⟨t,t',m,m',rfl,rfl,e1,e2⟩:=Al.kd H Dd h h4;rw[show Vm (t'::m')=Vm (t::m) from e1.2.1.symm];refine Sim.bind (List.tail_suffix _) Ds (I.expr f' _ hd o m m' ((List.tail_suffix _).trans ho) e2) ((List.tail_suffix _).trans ho) fun y y' k k' hk hs ha hy=>?_
    exact I.exprL f' n hd _ _ o k k' (by simp only[erT,erL,hx,hy]) (hs rfl) hk ha
  ·intro f' hd o l l' ho h;refine Sim.Qfl (F:=fun f'=>Zg e' f' hd l') (by first|rfl|simp only[Zg]) (fun f'=>?_) f';unfold Zg;try dsimp only
   repeat' first
    |exact Sim.bad
    |(refine Sim.is H Dd al sf so (fun ha ht hs=>?_) ?_;(try have hs:=hs Dd))
    |(refine Sim.or H Dd Dd al sf so (fun ha ht he=>?_) ?_)
    |(refine Sim.and H Dd al sf so (fun ha ht=>?_) ?_)
    |(exact I.suf f' _ _ _ o _ _ eqv al so al)
    |(refine Sim.bind sf Ds (I.unary f' _ o _ _ so al) so (fun x x' m m' hm hs ha hx=>?_);(try have hs:=hs Dd);(try dsimp only at hx))
    |(refine Sim.bind sf Ds (I.operand f' _ o _ _ so al) so (fun x x' m m' hm hs ha hx=>?_);(try have hs:=hs Dd);(try dsimp only at hx))
    |(refine Sim.ok sf stv alw eqv)
  ·intro f' hd x x' o l l' hx hst ho h;refine Sim.Qfl (F:=fun f'=>Vp e' f' hd x' l') (by first|rfl|simp only[Vp]) (fun f'=>?_) f';unfold Vp;try dsimp only
   repeat' first
    |exact Sim.bad
    |(refine Sim.is H Dd al sf so (fun ha ht hs=>?_) ?_;(try have hs:=hs Dd))
    |(refine Sim.or H Dd Dd al sf so (fun ha ht he=>?_) ?_)
    |(refine Sim.and H Dd al sf so (fun ha ht=>?_) ?_)
    |(exact I.suf f' _ _ _ o _ _ eqv al so al)
    |(refine Sim.bind sf Ds (Ri H al so) so (fun x x' m m' hm hs ha hx=>?_);(try have hs:=hs Dd);(try dsimp only at hx);(try rw[hx]))
    |(refine Sim.bind sf Ds (L8 H Dd _ (fun o l l' h1 h2=>I.expr f' 1 false o l l' h1 h2) f f' al so) so (fun x x' m m' hm hs ha hx=>?_);(try have hs:=hs Dd);(try dsimp only at hx))
    |(refine Sim.bind sf Ds (L8 H Dd _ (fun o l l' h1 h2=>I.arg f' o l l' h1 h2) f f' al so) so (fun x x' m m' hm hs ha hx=>?_);(try have hs:=hs Dd);(try dsimp only at hx))
    |(refine Sim.ok sf stv alw eqv)
  ·intro f'  o l l' ho h;refine Sim.Qfl (F:=fun f'=>Qhi e' f' l') (by first|rfl|simp only[Qhi]) (fun f'=>?_) f';unfold Qhi;try dsimp only
   repeat' first
    |exact Sim.bad
    |(refine Sim.is H Dd al sf so (fun ha ht hs=>?_) ?_;(try have hs:=hs Dd))
    |(refine Sim.or H Dd Dd al sf so (fun ha ht he=>?_) ?_)
    |(refine Sim.and H Dd al sf so (fun ha ht=>?_) ?_)
    |(exact Sim.sub sf (I.typ f' o _ _ so al))
    |(exact Sim.sub sf (I.expr f' _ _ o _ _ so al))
    |(refine Sim.ok sf stv alw eqv)
  ·intro f' hd o l l' ho h;refine Sim.Qfl (F:=fun f'=>Zw e' f' hd l') (by first|rfl|simp only[Zw]) (fun f'=>?_) f';unfold Zw;try dsimp only
   refine Sim.ite (List.suffix_refl _) (Qn9 H Dd h) (fun h2=>?_) fun _=>?_
   ·obtain⟨n1,n2⟩:=same_num H h h2;rw[←n1,←n2];obtain⟨t,t',m,m',rfl,rfl,e1,e2⟩:=Al.kd H Dd h h2;split
    ·refine Sim.ok (List.tail_suffix _) (fun _=>St1.up ho ⟨[],t,rfl,?_⟩) e2 rfl;unfold X3;rw[show (t.kind==2)=true from h2,Bool.or_true,Bool.true_or]
    ·exact Sim.none
   repeat' first
    |exact Sim.bad
    |(refine Sim.is H Dd al sf so (fun ha ht hs=>?_) ?_;(try have hs:=hs Dd))
    |(refine Sim.or H Dd Dd al sf so (fun ha ht he=>?_) ?_)
    |(refine Sim.and H Dd al sf so (fun ha ht=>?_) ?_)
    |(refine Sim.bind sf Ds (Qjm H Dd al so) so (fun x x' m m' hm hs ha hx=>?_);(try have hs:=hs Dd);(try dsimp only at hx))
    |(refine Sim.bind sf Ds (Jo H _ al so) so (fun x x' m m' hm hs ha hx=>?_);(try have hs:=hs Dd);(try dsimp only at hx))
    |(refine Sim.bind sf Ds (Ri H al so) so (fun x x' m m' hm hs ha hx=>?_);(try have hs:=hs Dd);(try dsimp only at hx);(try rw[hx]))
    |(refine Sim.bind sf Ds (I.expr f' _ _ o _ _ so al) so (fun x x' m m' hm hs ha hx=>?_);(try have hs:=hs Dd);(try dsimp only at hx))
    |(refine Sim.bind sf Ds (I.sig f'  o _ _ so al) so (fun x x' m m' hm hs ha hx=>?_);(try have hs:=hs Dd);(try dsimp only at hx))
    |(refine Sim.bind sf Ds (I.block f'  o _ _ so al) so (fun x x' m m' hm hs ha hx=>?_);(try have hs:=hs Dd);(try dsimp only at hx))
    |(refine Sim.bind sf Ds (I.typ f'  o _ _ so al) so (fun x x' m m' hm hs ha hx=>?_);(try have hs:=hs Dd);(try dsimp only at hx))
    |(refine Sim.bind sf Ds (L8 H Dd _ (fun o l l' h1 h2=>I.expr f' 1 false o l l' h1 h2) f f' al so) so (fun x x' m m' hm hs ha hx=>?_);(try have hs:=hs Dd);(try dsimp only at hx))
    |(refine Sim.ok sf stv alw eqv)
end
end Prs
end Go.Proofs.YtcbkeecabcbogaaGreatDoor
