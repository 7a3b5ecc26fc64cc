/- A part that is read up to the semicolon at the end is read l -/
import Derived.Test.YtcbkeecabcbogaaGreatDoorBbm
import Derived.Test.YtcbkeecabcbogaaGreatDoorBab
set_option linter.unusedSimpArgs false
set_option linter.unusedVariables false
namespace Go.Proofs.YtcbkeecabcbogaaGreatDoor
namespace Prs
mutual
def erT:Tr→Tr
 | .mk k x n _ l => .mk k x n 0 (erL l)
def erL:List Tr→List Tr
 | []=>[]
 |t::l=>erT t::erL l
end
theorem Ku (a b:List Tr):erL (a++b)=erL a++erL b:=by
 induction a with
 |nil=>rfl
 |cons t a ih=>simp only[List.cons_append,erL,ih]
theorem Qht {x y:Tr}(h:erT x=erT y):x.kind=y.kind:=by
 cases x;cases y;simp only[erT,Tr.mk.injEq] at h;exact h.1
theorem erT_kids {x y:Tr}(h:erT x=erT y):erL x.kids=erL y.kids:=by
 cases x;cases y;simp only[erT,Tr.mk.injEq] at h;exact h.2.2.2.2
def Like (t t':Tok):Prop:=t.kind=t'.kind∧t.text=t'.text∧t.num=t'.num
section
variable (s:Tok) (q:List Tok) (e e':Nat)
inductive Lk:List Tok→List Tok→Prop
 |cut:Lk [s] q
 |nil:q=[]→Lk [] []
 |cons {t t':Tok} {l l':List Tok}:Like t t'→Lk l l'→Lk (t::l) (t'::l')
structure Ends:Prop where
 Qri:s.kind=5
 calm:Xl s=false
 sign:q=[]∨∃ t m,q=t::m∧(t.kind=5∨t.kind=4∧(t.text=Q4∨t.text=Zu))
def Lp (l l':List Tok):Prop:=∃ t t' k k',l=t::k∧l'=t'::k'∧Like t t'∧Lk s q k k'
def Z (w:Bool)(l:List Tok):Prop:=l=[]∨(w=true∧l=[s])
def Live (w:Bool)(l l':List Tok):Prop:=if w then Lp s q l l' else Lk s q l l'
def Al (w:Bool)(l l':List Tok):Prop:=Z s w l∨Live s q w l l'
end
theorem Qll {t t':Tok}{l l':List Tok}(h:Like t t'):Q9 (t::l)=Q9 (t'::l'):=h.1
def St1 (o m:List Tok):Prop:=∃ c t,o=c++t::m∧Xl t=true
theorem St1.up {o k m:List Tok}(h:k <:+ o)(h1:St1 k m):St1 o m:=by
 obtain⟨d,rfl⟩:=h;obtain⟨c,t,rfl,ht⟩:=h1;exact⟨d++c,t,by simp,ht⟩
section
variable {s:Tok} {q:List Tok} {e e':Nat}
theorem Z.suf {w:Bool}{l m:List Tok}(h:Z s w l)(hm:m <:+ l):Z s w m:=by
 rcases h with rfl|⟨hw,rfl⟩
 ·exact .inl (List.suffix_nil.1 hm)
 ·cases m with
  |nil=>exact .inl rfl
  |cons t m=>
   have:=hm.length_le
   have:=hm.eq_of_length (by simp at this ⊢;omega);exact .inr ⟨hw,this⟩
theorem Al.weak {w:Bool}{l l':List Tok}(h:Al s q false l l'):Al s q w l l':=by
 cases w with
 |false=>exact h
 |true=>
  rcases h with (h|⟨h,-⟩)|h
  ·exact .inl (.inl h)
  ·cases h
  ·cases h with
   |cut=>exact .inl (.inr ⟨rfl,rfl⟩)
   |nil=>exact .inl (.inl rfl)
   |cons h1 h2=>exact .inr ⟨_,_,_,_,rfl,rfl,h1,h2⟩
def Sim {α γ:Type}(s:Tok)(q:List Tok)(p w:Bool)(o l:List Tok)(g:α→γ)(r r':R α):Prop:=∀ x m,r=some (.ok (x,m))→m <:+ l∧(p=true→St1 o m)∧(Z s w m∨∃ x' m',(r'=none∨r'=some (.ok (x',m')))∧g x=g x'∧Live s q w m m')
section
variable {α β γ δ:Type} {p w:Bool} {o l:List Tok} {g:α→γ} {r r':R α}
theorem Sim.bad {n:Nat}:Sim s q p w o l g (bad n) r':=fun x m h=>by cases h
theorem Sim.none:Sim s q p w o l g Option.none r':=fun x m h=>by cases h
theorem Sim.noner (h:Sim s q p w o l g r r'):Sim s q p w o l g r Option.none:=fun x m hr=>by
 obtain⟨h1,h2,h3⟩:=h x m hr;exact⟨h1,h2,h3.imp id fun ⟨x',m',_,e⟩=>⟨x',m',.inl rfl,e⟩⟩
theorem Sim.Qh4 {F:Nat→R α}(h0:F 0=Option.none)(h:∀ f',Sim s q p w o l g r (F (f'+1))):∀ f',Sim s q p w o l g r (F f')
 |0=>by rw[h0];exact Sim.noner (h 0)
 |f'+1=>h f'
theorem Sim.ok {x x':α}{m m':List Tok}(h1:m <:+ l)(h2:p=true→St1 o m)(h3:Al s q w m m')(h4:g x=g x'):Sim s q p w o l g (ok x m) (ok x' m'):=fun y k h=>by
 cases h;refine⟨h1,h2,?_⟩;rcases h3 with h3|h3
 ·exact .inl h3
 ·exact .inr ⟨_,_,.inr rfl,h4,h3⟩
theorem Sim.sub {k:List Tok}(h:k <:+ l)(h1:Sim s q p w o k g r r'):Sim s q p w o l g r r':=fun x m hr=>⟨(h1 x m hr).1.trans h,(h1 x m hr).2⟩
theorem Sim.dead {r1:R α}(h:Z s w l)(h1:Sim s q p w o l g r r1):Sim s q p w o l g r r':=fun x m hr=>⟨(h1 x m hr).1,(h1 x m hr).2.1,.inl (h.suf (h1 x m hr).1)⟩
theorem Sim.weak (h:Sim s q p false o l g r r'):Sim s q false w o l g r r':=fun x m hr=>by
 obtain⟨h1,h2,h3⟩:=h x m hr;refine⟨h1,(fun h=>nomatch h),?_⟩;rcases h3 with h3|⟨x',m',e1,e2,e3⟩
 ·rcases h3 with h3|⟨h3,-⟩
  ·exact .inl (.inl h3)
  ·cases h3
 ·rcases (Al.weak (w:=w) (.inr e3)) with h4|h4
  ·exact .inl h4
  ·exact .inr ⟨x',m',e1,e2,h4⟩
theorem Sim.bind {k:List Tok}{pA wA:Bool}{gA:β→δ}{a a':R β}{f f':β→List Tok→R α}(hk:k <:+ l)(hw:wA=true→w=true)(hA:Sim s q pA wA o k gA a a')(ho:k <:+ o)
  (hf:∀ x x' m m',m <:+ o→(pA=true→St1 o m)→Al s q wA m m'→gA x=gA x'→Sim s q p w o m g (f x m) (f' x' m')):Sim s q p w o l g (andThen a f) (andThen a' f'):=by
 intro z m hz;cases a with
 |none=>cases hz
 |some y=>
  cases y with
  |error n=>cases hz
  |ok y=>
   obtain⟨x,n⟩:=y;obtain⟨h1,h2,h3⟩:=hA x n rfl;have hz:f x n=some (.ok (z,m)):=hz;have hno:=h1.trans ho;have hnl:=h1.trans hk;rcases h3 with h3|⟨x',n',e1,e2,e3⟩
   ·obtain⟨k1,k2,-⟩:=hf x x n [] hno h2 (.inl h3) rfl z m hz;refine⟨k1.trans hnl,k2,.inl ?_⟩;rcases h3.suf k1 with h|⟨h,h'⟩
    ·exact .inl h
    ·exact .inr ⟨hw h,h'⟩
   ·obtain⟨k1,k2,k3⟩:=hf x x' n n' hno h2 (.inr e3) e2 z m hz;refine⟨k1.trans hnl,k2,?_⟩;rcases e1 with rfl|rfl
    ·exact k3.imp id fun ⟨x',m',_,e⟩=>⟨x',m',.inl rfl,e⟩
    ·exact k3
theorem Sim.ite {c c':Bool}{k:List Tok}{a a' b b':R α}(hk:k <:+ l)(hc:k=[]∨c=c')(h1:c=true→Sim s q p w o k g a a')(h2:c=false→Sim s q p w o k g b b'):Sim s q p w o l g (if c then a else b) (if c' then a' else b'):=by
 refine Sim.sub hk ?_;rcases hc with hc|rfl
 ·cases c
  ·exact Sim.dead (.inl hc) (h2 rfl)
  ·exact Sim.dead (.inl hc) (h1 rfl)
 ·cases c
  ·exact h2 rfl
  ·exact h1 rfl
theorem Sim.prop {c:Prop}[Decidable c]{a a' b b':R α}(h1:Sim s q p w o l g a a')(h2:Sim s q p w o l g b b'):Sim s q p w o l g (if c then a else b) (if c then a' else b'):=by
 split
 ·exact h1
 ·exact h2
end
variable (H:Ends s q)
include H
theorem Qb9 (v:List UInt8):isP v [s]=false:=by
 unfold isP;rw[show Q9 [s]=5 from H.Qri];rfl
theorem Qf4 {k:Int}(hk:k≠5):(Q9 [s]==k)=false:=by
 rw[show Q9 [s]=5 from H.Qri];exact beq_false_of_ne (Ne.symm hk)
theorem Live.Qsa {v:List UInt8}{l l':List Tok}(h:Al s q false l l')(hi:isP v l=true):∃ t t' m m',l=t::m∧l'=t'::m'∧Like t t'∧Al s q false m m':=by
 rcases h with (rfl|⟨h,-⟩)|h
 ·cases hi
 ·cases h
 ·cases h with
  |cut=>rw[Qb9 H] at hi;cases hi
  |nil=>cases hi
  |cons h1 h2=>exact⟨_,_,_,_,rfl,rfl,h1,.inr h2⟩
theorem Rh {v:List UInt8}(hv:v≠Q4∧v≠Zu){l l':List Tok}(h:Al s q false l l'):l=[]∨isP v l=isP v l':=by
 rcases h with (rfl|⟨h,-⟩)|h
 ·exact .inl rfl
 ·cases h
 ·right;cases h with
  |nil=>rfl
  |cut=>
   rw[Qb9 H];rcases H.sign with rfl|⟨t,m,rfl,ht⟩
   ·rfl
   show false=((t.kind==3||t.kind==4)&&t.text==v)
   rcases ht with ht|⟨-,ht⟩
   ·rw[ht];rfl
   ·have:(t.text==v)=false:=beq_false_of_ne fun e=>by
     rcases ht with ht|ht
     ·exact hv.1 (e.symm.trans ht)
     ·exact hv.2 (e.symm.trans ht)
    rw[this,Bool.and_false]
  |cons h1 h2=>
   unfold isP Q9 Zl;dsimp only;rw[h1.1,h1.2.1]
theorem Qrk {k:Int}(hk:k≠4∧k≠5∧k≠0){l l':List Tok}(h:Al s q false l l'):l=[]∨(Q9 l==k)=(Q9 l'==k):=by
 rcases h with (rfl|⟨h,-⟩)|h
 ·exact .inl rfl
 ·cases h
 ·right;cases h with
  |nil=>rfl
  |cut=>
   rw[Qf4 H hk.2.1];rcases H.sign with rfl|⟨t,m,rfl,ht⟩
   ·exact(beq_false_of_ne (Ne.symm hk.2.2)).symm
   refine(beq_false_of_ne fun e=>?_).symm;have e:t.kind=k:=e;rcases ht with ht|⟨ht,-⟩
   ·exact hk.2.1 (e.symm.trans ht)
   ·exact hk.1 (e.symm.trans ht)
  |@cons t t' l l' h1 h2=>rw[Qll (l:=l) (l':=l') h1]
theorem Qmo {l l':List Tok}(h:Al s q false l l'):l=[]∨(Q9 l==1&&Vh Jp l)=(Q9 l'==1&&Vh Jp l'):=by
 rcases h with (rfl|⟨h,-⟩)|h
 ·exact .inl rfl
 ·cases h
 ·right;cases h with
  |nil=>rfl
  |cut=>
   rw[Qf4 H Dd,Bool.false_and];rcases H.sign with rfl|⟨t,m,rfl,ht⟩
   ·rfl
   rw[show (Q9 (t::m)==1)=false from beq_false_of_ne fun e=>by
    have e:t.kind=1:=e
    rcases ht with ht|⟨ht,-⟩ <;> (rw[ht] at e;cases e),Bool.false_and]
  |@cons t t' l l' h1 h2=>
   rw[show Q9 (t::l)=Q9 (t'::l') from h1.1];congr 1
   cases h2 with
   |nil=>rfl
   |cut=>
    rcases H.sign with rfl|⟨u,m,rfl,hu⟩
    ·show (s.kind==4&&s.text==Jp)=false
     rw[H.Qri];rfl
    show (s.kind==4&&s.text==Jp)=(u.kind==4&&u.text==Jp)
    rw[H.Qri];rcases hu with hu|⟨-,hu⟩
    ·rw[hu];rfl
    ·rcases hu with hu|hu <;> (rw[hu];simp[Q4,Zu,Jp])
   |cons h3 h4=>
    unfold Vh;dsimp only;rw[h3.1,h3.2.1]
theorem same_num {l l':List Tok}(h:Al s q false l l')(h2:(Q9 l==2)=true):Qdz l=Qdz l'∧Qsd l=Qsd l':=by
 rcases h with (rfl|⟨h,-⟩)|h
 ·cases h2
 ·cases h
 ·cases h with
  |cut=>rw[Qf4 H Dd] at h2;cases h2
  |nil=>cases h2
  |cons h1 _=>unfold Qdz Qsd;dsimp only;rw[h1.2.2];exact⟨rfl,rfl⟩
section
variable {α γ:Type} {p w:Bool} {o l:List Tok} {g:α→γ} {r r':R α}
theorem Sim.is {v:List UInt8}{k k':List Tok}{a a' b b':R α}(hv:v≠Q4∧v≠Zu)(h:Al s q false k k')(hk:k <:+ l)(ho:k <:+ o)
  (h1:Al s q false k.tail k'.tail→k.tail <:+ o→(Yq.contains v=true→St1 o k.tail)→Sim s q p w o k g a a') (h2:Sim s q p w o k g b b'):Sim s q p w o l g (if isP v k then a else b) (if isP v k' then a' else b'):=by
 refine Sim.ite hk (Rh H hv h) (fun hc=>?_) fun _=>h2
 obtain⟨t,t',m,m',rfl,rfl,e1,e2⟩:=Live.Qsa H h hc;refine h1 e2 ((List.tail_suffix _).trans ho) fun he=>St1.up ho ⟨[],t,rfl,?_⟩
 unfold isP at hc;rw[Bool.and_eq_true] at hc;have ht:t.text=v:=beq_iff_eq.1 hc.2;unfold Xl;rw[ht,he,Bool.or_true]
theorem Sim.or {v u:List UInt8}{k k':List Tok}{a a' b b':R α}(hv:v≠Q4∧v≠Zu)(hu:u≠Q4∧u≠Zu)(h:Al s q false k k')(hk:k <:+ l)(ho:k <:+ o)
  (h1:Al s q false k.tail k'.tail→k.tail <:+ o→isP v k=isP v k'→Sim s q p w o k g a a') (h2:Sim s q p w o k g b b'):Sim s q p w o l g (if isP v k||isP u k then a else b) (if isP v k'||isP u k' then a' else b'):=by
 refine Sim.ite hk ?_ (fun hc=>?_) fun _=>h2
 ·rcases Rh H hv h with h3|h3
  ·exact .inl h3
  ·rcases Rh H hu h with h4|h4
   ·exact .inl h4
   ·rw[h3,h4];exact .inr rfl
 ·rw[Bool.or_eq_true] at hc;obtain⟨t,t',m,m',rfl,rfl,e1,e2⟩:∃ t t' m m',k=t::m∧k'=t'::m'∧Like t t'∧Al s q false m m':=hc.elim (Live.Qsa H h) (Live.Qsa H h);exact h1 e2 ((List.tail_suffix _).trans ho) (by unfold isP Q9 Zl;dsimp only;rw[e1.1,e1.2.1])
theorem Sim.and {v:List UInt8}{c:Bool}{k k':List Tok}{a a' b b':R α}(hv:v≠Q4∧v≠Zu)(h:Al s q false k k')(hk:k <:+ l)(ho:k <:+ o)
  (h1:Al s q false k.tail k'.tail→k.tail <:+ o→Sim s q p w o k g a a') (h2:Sim s q p w o k g b b'):Sim s q p w o l g (if c&&isP v k then a else b) (if c&&isP v k' then a' else b'):=by
 refine Sim.ite hk ?_ (fun hc=>?_) fun _=>h2
 ·rcases Rh H hv h with h3|h3
  ·exact .inl h3
  ·rw[h3];exact .inr rfl
 ·rw[Bool.and_eq_true] at hc;obtain⟨t,t',m,m',rfl,rfl,e1,e2⟩:=Live.Qsa H h hc.2;exact h1 e2 ((List.tail_suffix _).trans ho)
theorem Jo (v:List UInt8){l l':List Tok}(h:Al s q false l l')(ho:l <:+ o):Sim s q (Yq.contains v) false o l (fun _=>()) (Vw e v l) (Vw e' v l'):=by
 unfold Vw;cases hc:isP v l with
 |false=>exact Sim.bad
 |true=>
  obtain⟨t,t',m,m',rfl,rfl,e1,e2⟩:=Live.Qsa H h hc;have hc':isP v (t'::m')=true:=by
   unfold isP Q9 Zl at hc ⊢;dsimp only at hc ⊢;rw[←e1.1,←e1.2.1];exact hc
  rw[hc'];refine Sim.ok (List.tail_suffix _) (fun he=>St1.up ho ⟨[],t,rfl,?_⟩) e2 rfl;unfold isP at hc;rw[Bool.and_eq_true] at hc;have ht:t.text=v:=beq_iff_eq.1 hc.2;unfold Xl;rw[ht,he,Bool.or_true]
theorem Al.kd {k:Int}(hk:k≠0∧k≠5){l l':List Tok}(h:Al s q false l l')(hc:(Q9 l==k)=true):∃ t t' m m',l=t::m∧l'=t'::m'∧Like t t'∧Al s q false m m':=by
 rcases h with (rfl|⟨h,-⟩)|h
 ·exact absurd (beq_iff_eq.1 hc).symm hk.1
 ·cases h
 ·cases h with
  |cut=>rw[Qf4 H hk.2] at hc;cases hc
  |nil=>exact absurd (beq_iff_eq.1 hc).symm hk.1
  |cons h1 h2=>exact⟨_,_,_,_,rfl,rfl,h1,.inr h2⟩
theorem Ht {l l':List Tok}(h:Al s q false l l')(ho:l <:+ o):Sim s q true false o l (fun x:List UInt8×Nat=>x.1) (H8 e l) (H8 e' l'):=by
 unfold H8;cases hc:Q9 l==1 with
 |false=>exact Sim.bad
 |true=>
  obtain⟨t,t',m,m',rfl,rfl,e1,e2⟩:=Al.kd H Dd h hc;rw[show Q9 (t'::m')=Q9 (t::m) from e1.1.symm,hc];refine Sim.ok (List.tail_suffix _) (fun he=>St1.up ho ⟨[],t,rfl,?_⟩) e2 e1.2.1;unfold Xl;rw[show (t.kind==1)=true from hc];rfl
theorem Qfn (v:List UInt8):Vh v [s]=false:=have _:=H
 rfl
theorem Qmi {v:List UInt8}(hv:Yq.contains v=true){l l':List Tok}(h:Al s q false l l')(ho:l <:+ o):Sim s q true false o l (fun _=>()) (Eb e v l) (Eb e' v l'):=by
 unfold Eb;rcases h with (rfl|⟨h,-⟩)|h
 ·exact Sim.bad
 ·cases h
 ·cases h with
  |cut=>
   rw[Qfn H,Bool.and_false,if_neg Dd];unfold Vw;rw[Qb9 H];exact Sim.bad
  |nil=>exact Sim.bad
  |@cons t t' l l' h1 h2=>
   have hk:Q9 (t::l)=Q9 (t'::l'):=h1.1;have hw:∀ {k k':List Tok},Al s q false k k'→k <:+ t::l→Sim s q true false o (t::l) (fun _=>()) (Vw e v k) (Vw e' v k'):=fun a b=>Sim.sub b (by rw[←hv];exact Jo H v a (b.trans ho))
   cases h2 with
   |nil hq=>
    rw[hk,show Vh v [t]=Vh v [t'] from rfl];split
    ·rename_i hh;rw[show Vh v [t']=false from rfl,Bool.and_false] at hh;cases hh
    ·exact hw (.inr (.cons h1 (.nil hq))) (List.suffix_refl _)
   |cut=>
    have e1:Vh v (t::[s])=false:=by unfold Vh;dsimp only;rw[H.Qri];rfl
    rw[e1,Bool.and_false,if_neg Dd];have e2:isP v (t::[s])=true→(Q9 (t'::q)==5)=false:=fun hi=>by
     unfold isP at hi;rw[Bool.and_eq_true,Bool.or_eq_true,hk] at hi;rcases hi.1 with h|h <;> (rw[beq_iff_eq.1 h];rfl)
    cases hi:isP v (t::[s]) with
    |false=>unfold Vw;rw[hi];exact Sim.bad
    |true=>rw[e2 hi,Bool.false_and,if_neg Dd];exact hw (.inr (.cons h1 .cut)) (List.suffix_refl _)
   |@cons u u' l l' h3 h4=>
    have e1:Vh v (t::u::l)=Vh v (t'::u'::l'):=by unfold Vh;dsimp only;rw[h3.1,h3.2.1]
    rw[hk,e1];split
    ·exact hw (.inr (.cons h3 h4)) (List.tail_suffix _)
    ·exact hw (.inr (.cons h1 (.cons h3 h4))) (List.suffix_refl _)
theorem Qml (v:List UInt8)(hv:v≠Q4∧v≠Zu){l l':List Tok}(h:Al s q true l l'):Sim s q false false o l (fun _=>()) (J3 e v l) (J3 e' v l'):=by
 unfold J3;rcases h with (rfl|⟨-,rfl⟩)|⟨t,t',k,k',rfl,rfl,h1,h2⟩
 ·exact Sim.bad
 ·rw[show (Q9 [s]==5)=true from beq_iff_eq.2 H.Qri,if_pos rfl];intro x m hx;cases hx;exact⟨List.tail_suffix _,fun h=>(by cases h),.inl (.inl rfl)⟩
 ·rw[show Q9 (t::k)=Q9 (t'::k') from h1.1,show isP v (t::k)=isP v (t'::k') by unfold isP Q9 Zl;dsimp only;rw[h1.1,h1.2.1]];split
  ·exact Sim.ok (List.tail_suffix _) (fun h=>by cases h) (.inr h2) rfl
  ·split
   ·exact Sim.ok (List.suffix_refl _) (fun h=>by cases h) (.inr (.cons h1 h2)) rfl
   ·exact Sim.bad
def One (s:Tok)(q:List Tok)(one one':List Tok→R Tr):Prop:=∀ o l l',l <:+ o→Al s q false l l'→Sim s q true false o l erT (one l) (one' l')
theorem St1.none {m:List Tok}(h:St1 [s] m):False:=by
 obtain⟨c,t,e1,h2⟩:=h;cases c with
 |nil=>
  simp only[List.nil_append,List.cons.injEq] at e1;rw[←e1.1,H.calm] at h2;cases h2
 |cons a c=>simp at e1
theorem shut_cut (v:List UInt8):Eb e v [s]=Prs.bad (atP e [s]):=by
 unfold Eb;rw[Qfn H,Bool.and_false,if_neg Dd];unfold Vw;rw[Qb9 H,if_neg Dd]
theorem Qhh {t t':Tok}{l l':List Tok}(h:Like t t')(v:List UInt8):isP v (t::l)=isP v (t'::l'):=by
 have _:=H;unfold isP Q9 Zl;dsimp only;rw[h.1,h.2.1]
theorem Qi7 {v:List UInt8}(hv:Yq.contains v=true){one one':List Tok→R Tr}(h1:One s q one one'):∀ (f f':Nat) (acc acc':List Tr) (o l l':List Tok),erL acc=erL acc'→l <:+ o→Al s q false l l'→Sim s q true false o l erL (Xr e v one f acc l) (Xr e' v one' f' acc' l'):=by
 intro f;induction f with
 |zero=>intros;exact Sim.none
 |succ f ih=>
  have key:∀ (f':Nat) (acc acc':List Tr) (o l l':List Tok),erL acc=erL acc'→l <:+ o→Al s q false l l'→Sim s q true false o l erL (Xr e v one (f+1) acc l) (Xr e' v one' (f'+1) acc' l'):=by
   intro f' acc acc' o l l' hacc ho h;unfold Xr;refine Sim.bind (List.suffix_refl _) Ds (h1 o l l' ho h) ho fun x x' m m' hm hs ha hx=>?_
   have hac:erL (acc++[x])=erL (acc'++[x']):=by rw[Ku,Ku,hacc];simp only[erL,hx]
   rcases ha with (rfl|⟨ha,-⟩)|ha
   ·exact Sim.bad
   ·cases ha
   ·cases ha with
    |cut=>
     rw[Qb9 H,if_neg Dd,shut_cut H];exact Sim.bad
    |nil=>exact Sim.bad
    |@cons t t' l l' h3 h4=>
     rw[Qhh H (l:=l) (l':=l') h3];split
     ·exact Sim.sub (List.tail_suffix _) (ih f' _ _ o _ _ hac ((List.tail_suffix _).trans hm) (.inr h4))
     ·exact Sim.bind (List.suffix_refl _) Ds (Qmi H hv (.inr (.cons h3 h4)) hm) hm fun _ _ k k' hk hs ha _=>Sim.ok (List.suffix_refl _) (fun _=>hs rfl) ha hac
  intro f' acc acc' o l l' hacc ho h;cases f' with
  |zero=>exact Sim.noner (key 0 acc acc' o l l' hacc ho h)
  |succ f'=>exact key f' acc acc' o l l' hacc ho h
theorem Bl {v:List UInt8}(hv:Yq.contains v=true)(first:Bool){one one':List Tok→R Tr}(h1:One s q one one')(f f':Nat){o l l':List Tok}(h:Al s q false l l')(ho:l <:+ o):Sim s q true false o l erL (Yk e v first one f l) (Yk e' v first one' f' l'):=by
 unfold Yk;have hL:=Qi7 (e:=e) (e':=e') H hv h1 f f' [] [] o l l' rfl ho h;rcases h with (rfl|⟨ha,-⟩)|ha
 ·rw[show isP v []=false from rfl,Bool.and_false,if_neg Dd];exact Sim.dead (.inl rfl) hL
 ·cases ha
 ·cases ha with
  |nil=>
   rw[show isP v []=false from rfl,Bool.and_false,if_neg Dd];exact Sim.dead (.inl rfl) hL
  |cut=>
   rw[Qb9 H,Bool.and_false,if_neg Dd];intro z m hz;cases f with
   |zero=>cases hz
   |succ f=>
    unfold Xr at hz;cases ho1:one [s] with
    |none=>rw[ho1] at hz;cases hz
    |some y=>
     cases y with
     |error n=>rw[ho1] at hz;cases hz
     |ok y=>
      obtain⟨x,k⟩:=y;exact(St1.none H ((h1 [s] [s] q (List.suffix_refl _) (.inr .cut) x k ho1).2.1 rfl)).elim
  |@cons t t' l l' h3 h4=>
   have he:=Qhh H h3 v (l:=l) (l':=l');cases hc:isP v (t::l) with
   |false=>
    rw[←he,hc,Bool.and_false,if_neg Dd,if_neg Dd];exact hL
   |true=>
    rw[←he,hc];split
    ·refine Sim.ok (List.tail_suffix _) (fun _=>St1.up ho ⟨[],t,rfl,?_⟩) (.inr h4) rfl;unfold isP at hc;rw[Bool.and_eq_true] at hc;have ht:t.text=v:=beq_iff_eq.1 hc.2;unfold Xl;rw[ht,hv,Bool.or_true]
    ·exact hL
theorem Sim.Qri {β δ:Type}{pA:Bool}{k:List Tok}{gA:β→δ}{v:List UInt8}(hv:v≠Q4∧v≠Zu){a a':R β}{f f':β→List Tok→R α}(hA:Sim s q pA true o k gA a a')(hk:k <:+ l)(ho:k <:+ o)
  (hf:∀ x x' m m',m <:+ o→Al s q false m m'→gA x=gA x'→Sim s q p w o m g (f x m) (f' x' m')):Sim s q p w o l g (andThen a fun x k=>andThen (J3 e v k) fun _ m=>f x m) (andThen a' fun x k=>andThen (J3 e' v k) fun _ m=>f' x m):=by
 intro z m hz;cases a with
 |none=>cases hz
 |some y=>
  cases y with
  |error n=>cases hz
  |ok y=>
   obtain⟨x,n⟩:=y;obtain⟨h1,h2,h3⟩:=hA x n rfl;have hz:andThen (J3 e v n) (fun _ m=>f x m)=some (.ok (z,m)):=hz;rcases h3 with (rfl|⟨-,rfl⟩)|⟨x',n',e1,e2,e3⟩
   ·cases hz
   ·unfold J3 at hz;rw[show (Q9 [s]==5)=true from beq_iff_eq.2 H.Qri,if_pos rfl] at hz;obtain⟨k1,k2,-⟩:=hf x x [] [] (List.nil_suffix) (.inl (.inl rfl)) rfl z m hz;exact⟨(k1.trans (List.nil_suffix)),k2,.inl (.inl (List.suffix_nil.1 k1))⟩
   ·obtain⟨k1,k2,k3⟩:=Sim.bind (f:=fun _ m=>f x m) (f':=fun _ m=>f' x' m) (List.suffix_refl _) Ds (Qml (e:=e) (e':=e') H v hv (.inr e3)) (h1.trans ho) (fun _ _ m m' hm _ ha _=>hf x x' m m' hm ha e2) z m hz;refine⟨k1.trans (h1.trans hk),k2,?_⟩;rcases e1 with rfl|rfl
    ·exact k3.imp id fun ⟨x',m',_,e⟩=>⟨x',m',.inl rfl,e⟩
    ·exact k3
theorem Qe0 {l l':List Tok}(h:Al s q false l l'):l=[]∨Wq l=Wq l':=by
 unfold Wq;rcases Qrk H (k:=1) Dd h with h1|h1
 ·exact .inl h1
 ·rcases Rh H (v:=wSq) Dd h with h2|h2
  ·exact .inl h2
  ·rcases Rh H (v:=Na) Dd h with h3|h3
   ·exact .inl h3
   ·rcases Rh H (v:=U6) Dd h with h4|h4
    ·exact .inl h4
    ·rw[h1,h2,h3,h4];exact .inr rfl
theorem Sim.ret {x x':α}{k k':List Tok}{a a':R α}(ha:Al s q false k k')(hk:k <:+ l)(hx:g x=g x')(hA:Sim s q false true o k g a a'):Sim s q false true o l g (if !(Q9 k==5) && !(isP wUc k) then a else Prs.ok x k) (if !(Q9 k'==5) && !(isP wUc k') then a' else Prs.ok x' k'):=by
 rcases ha with (rfl|⟨ha,-⟩)|ha
 ·rw[show (!(Q9 []==5) && !(isP wUc []))=true from rfl,if_pos rfl];exact Sim.sub hk (Sim.dead (.inl rfl) hA)
 ·cases ha
 ·cases ha with
  |nil=>
   rw[show (!(Q9 []==5) && !(isP wUc []))=true from rfl,if_pos rfl];exact Sim.sub hk (Sim.dead (.inl rfl) hA)
  |cut=>
   rw[show (Q9 [s]==5)=true from beq_iff_eq.2 H.Qri,Bool.not_true,Bool.false_and,if_neg Dd];intro y m h;cases h;exact⟨hk,(fun h=>nomatch h),.inl (.inr ⟨rfl,rfl⟩)⟩
  |@cons t t' l l' h1 h2=>
   rw[Qhh H (l:=l) (l':=l') h1,Qll (l:=l) (l':=l') h1];split
   ·exact Sim.sub hk hA
   ·exact Sim.ok hk Ds (Al.weak (.inr (.cons h1 h2))) hx
def strg (l:List Tok):Nat:=if Q9 l==4 then Vs (Zl l) else 0
theorem Qq7 {l l':List Tok}(h:Al s q false l l'):l=[]∨strg l=strg l':=by
 rcases h with (rfl|⟨h,-⟩)|h
 ·exact .inl rfl
 ·cases h
 ·right;cases h with
  |nil=>rfl
  |cut=>
   unfold strg;rw[Qf4 H Dd,if_neg Dd];rcases H.sign with rfl|⟨t,m,rfl,ht⟩
   ·rfl
   show 0=if t.kind==4 then Vs t.text else 0
   rcases ht with ht|⟨-,ht⟩
   ·rw[ht];rfl
   ·split
    ·rcases ht with ht|ht <;> (rw[ht];rfl)
    ·rfl
  |@cons t t' l l' h1 h2=>
   show (if t.kind==4 then Vs t.text else 0)=if t'.kind==4 then Vs t'.text else 0
   rw[h1.1,h1.2.1]
theorem Sim.kids {x x':Tr}{m m':List Tok}{F F':Tr→R α}{b b':R α}(hx:erT x=erT x')(ha:Al s q false m m')(ho:m <:+ o)
  (h1:∀ t t',erT t=erT t'→Sim s q p w o m g (F t) (F' t')) (h2:Sim s q p w o m g b b'):Sim s q p w o m g (if x.kind==39 && !(isP Xy m) then (match x.kids with
  | []=>Option.none
  |t::_=>F t) else b) (if x'.kind==39 && !(isP Xy m') then (match x'.kids with
  | []=>Option.none
  |t::_=>F' t) else b'):=by
 refine Sim.ite (List.suffix_refl _) ?_ (fun _=>?_) fun _=>h2
 ·rcases Rh H (v:=Xy) Dd ha with h|h
  ·exact .inl h
  ·rw[h,Qht hx];exact .inr rfl
 ·have hk:=erT_kids hx;cases h3:x.kids with
  |nil=>exact Sim.none
  |cons t l=>
   cases h4:x'.kids with
   |nil=>rw[h3,h4] at hk;cases hk
   |cons t' l'=>
    rw[h3,h4] at hk;simp only[erL,List.cons.injEq] at hk;exact h1 t t' hk.1
end
end
theorem sf {k l:List Tok}(h:k <:+ l:=by first|exact List.suffix_refl _|exact List.tail_suffix _|exact(List.tail_suffix _).trans (List.tail_suffix _)):k <:+ l:=h
theorem so {k l:List Tok}(h:k <:+ l:=by first|assumption|exact List.suffix_refl _|exact(List.tail_suffix _).trans Da):k <:+ l:=h
theorem al {p:Prop}(h:p:=by assumption):p:=h
theorem alw {s:Tok}{q:List Tok}{w:Bool}{l l':List Tok}(h:Al s q w l l':=by first|assumption|exact Al.weak Da):Al s q w l l':=h
theorem eqv {α:Type}{a b:α}(h:a=b:=by first|rfl|assumption|(simp only[erT,erL,Ku,List.nil_append,List.cons_append, *])):a=b:=h
theorem stv {p q:Prop}(h:p→q:=by intro hp;first|assumption|cases hp):p→q:=h
structure Exts (s:Tok)(q:List Tok)(e e':Nat)(f:Nat):Prop where
 typ:∀ (f':Nat)  (o l l':List Tok),l <:+ o→Al s q false l l'→Sim s q true false o l erT (Nk e f l) (Nk e' f' l')
 param:∀ (f':Nat)  (o l l':List Tok),l <:+ o→Al s q false l l'→Sim s q true false o l erT (Jj e f l) (Jj e' f' l')
 sig:∀ (f':Nat)  (o l l':List Tok),l <:+ o→Al s q false l l'→Sim s q true false o l erL (Qe4 e f l) (Qe4 e' f' l')
 block:∀ (f':Nat)  (o l l':List Tok),l <:+ o→Al s q false l l'→Sim s q true false o l erT (Ut e f l) (Ut e' f' l')
 blockL:∀ (f':Nat) (acc acc':List Tr) (o l l':List Tok),erL acc=erL acc'→l <:+ o→Al s q false l l'→Sim s q true false o l erL (V7 e f acc l) (V7 e' f' acc' l')
 branch:∀ (f':Nat) (p p':Nat) (o l l':List Tok),l <:+ o→Al s q false l l'→Sim s q false true o l erT (Yl e f p l) (Yl e' f' p' l')
 stmt:∀ (f':Nat) (hd:Bool) (o l l':List Tok),l <:+ o→Al s q false l l'→Sim s q false true o l erT (He e f hd l) (He e' f' hd l')
 simple:∀ (f':Nat) (hd:Bool) (o l l':List Tok),l <:+ o→Al s q false l l'→Sim s q false true o l erT (Yw e f hd l) (Yw e' f' hd l')
 body:∀ (f':Nat) (hd:Bool) (o l l':List Tok),l <:+ o→Al s q false l l'→Sim s q false true o l erT (Gg e f hd l) (Gg e' f' hd l')
 bodyL:∀ (f':Nat) (hd:Bool) (acc acc':List Tr) (o l l':List Tok),erL acc=erL acc'→l <:+ o→Al s q false l l'→Sim s q false true o l erL (Tt e f hd acc l) (Tt e' f' hd acc' l')
 oneC:∀ (f':Nat) (hd:Bool) (d:Nat) (o l l':List Tok),l <:+ o→Al s q false l l'→Sim s q false true o l (fun x:Tr×Nat=>(erT x.1,x.2)) (Uj e f hd d l) (Uj e' f' hd d l')
 selection:∀ (f':Nat) (p p':Nat) (o l l':List Tok),l <:+ o→Al s q false l l'→Sim s q false true o l erT (Vg e f p l) (Vg e' f' p' l')
 selL:∀ (f':Nat) (acc acc':List Tr) (d:Nat) (o l l':List Tok),erL acc=erL acc'→l <:+ o→Al s q false l l'→Sim s q false true o l erL (Jg e f acc d l) (Jg e' f' acc' d l')
 expr:∀ (f':Nat) (n:Nat) (hd:Bool) (o l l':List Tok),l <:+ o→Al s q false l l'→Sim s q true false o l erT (Xg e f n hd l) (Xg e' f' n hd l')
 exprL:∀ (f':Nat) (n:Nat) (hd:Bool) (x x':Tr) (o l l':List Tok),erT x=erT x'→St1 o l→l <:+ o→Al s q false l l'→Sim s q true false o l erT (Xv e f n hd x l) (Xv e' f' n hd x' l')
 unary:∀ (f':Nat) (hd:Bool) (o l l':List Tok),l <:+ o→Al s q false l l'→Sim s q true false o l erT (Zy e f hd l) (Zy e' f' hd l')
 suf:∀ (f':Nat) (hd:Bool) (x x':Tr) (o l l':List Tok),erT x=erT x'→St1 o l→l <:+ o→Al s q false l l'→Sim s q true false o l erT (V8 e f hd x l) (V8 e' f' hd x' l')
 arg:∀ (f':Nat)  (o l l':List Tok),l <:+ o→Al s q false l l'→Sim s q true false o l erT (Qj7 e f l) (Qj7 e' f' l')
 operand:∀ (f':Nat) (hd:Bool) (o l l':List Tok),l <:+ o→Al s q false l l'→Sim s q true false o l erT (Vm e f hd l) (Vm e' f' hd l')
section
variable {s:Tok} {q:List Tok} {e e':Nat} (H:Ends s q)
include H
set_option maxHeartbeats 40000000 in
theorem exts:∀ f,Exts s q e e' f
 |0=>by
  constructor <;> intros
  ·first|exact Sim.none|(simp only[Nk];exact Sim.none)
  ·first|exact Sim.none|(simp only[Jj];exact Sim.none)
  ·first|exact Sim.none|(simp only[Qe4];exact Sim.none)
  ·first|exact Sim.none|(simp only[Ut];exact Sim.none)
  ·first|exact Sim.none|(simp only[V7];exact Sim.none)
  ·first|exact Sim.none|(simp only[Yl];exact Sim.none)
  ·first|exact Sim.none|(simp only[He];exact Sim.none)
  ·first|exact Sim.none|(simp only[Yw];exact Sim.none)
  ·first|exact Sim.none|(simp only[Gg];exact Sim.none)
  ·first|exact Sim.none|(simp only[Tt];exact Sim.none)
  ·first|exact Sim.none|(simp only[Uj];exact Sim.none)
  ·first|exact Sim.none|(simp only[Vg];exact Sim.none)
  ·first|exact Sim.none|(simp only[Jg];exact Sim.none)
  ·first|exact Sim.none|(simp only[Xg];exact Sim.none)
  ·first|exact Sim.none|(simp only[Xv];exact Sim.none)
  ·first|exact Sim.none|(simp only[Zy];exact Sim.none)
  ·first|exact Sim.none|(simp only[V8];exact Sim.none)
  ·first|exact Sim.none|(simp only[Qj7];exact Sim.none)
  ·first|exact Sim.none|(simp only[Vm];exact Sim.none)
 |f+1=>by
  have I:=exts f;constructor
  ·intro f'  o l l' ho h;refine Sim.Qh4 (F:=fun f'=>Nk e' f' l') (by first|rfl|simp only[Nk]) (fun f'=>?_) f';unfold Nk;try dsimp only
   repeat' first
    |exact Sim.bad
    |(refine Sim.is H Dd al sf so (fun ha ht hs=>?_) ?_;(try have hs:=hs Dd))
    |(refine Sim.or H Dd Dd al sf so (fun ha ht he=>?_) ?_)
    |(refine Sim.and H Dd al sf so (fun ha ht=>?_) ?_)
    |(refine Sim.bind sf Ds (Jo H _ al so) so (fun x x' m m' hm hs ha hx=>?_);(try have hs:=hs Dd);(try dsimp only at hx))
    |(refine Sim.bind sf Ds (Ht H al so) so (fun x x' m m' hm hs ha hx=>?_);(try have hs:=hs Dd);(try dsimp only at hx);(try rw[hx]))
    |(refine Sim.bind sf Ds (Bl H Dd _ (fun o l l' h1 h2=>I.typ f' o l l' h1 h2) f f' al so) so (fun x x' m m' hm hs ha hx=>?_);(try have hs:=hs Dd);(try dsimp only at hx))
    |(refine Sim.bind sf Ds (I.typ f'  o _ _ so al) so (fun x x' m m' hm hs ha hx=>?_);(try have hs:=hs Dd);(try dsimp only at hx))
    |(refine Sim.ite (List.suffix_refl _) (Qe0 H al) (fun _=>?_) (fun _=>?_))
    |(refine Sim.ok sf stv alw eqv)
  ·intro f'  o l l' ho h;refine Sim.Qh4 (F:=fun f'=>Jj e' f' l') (by first|rfl|simp only[Jj]) (fun f'=>?_) f';unfold Jj;try dsimp only
   repeat' first
    |exact Sim.bad
    |(refine Sim.is H Dd al sf so (fun ha ht hs=>?_) ?_;(try have hs:=hs Dd))
    |(refine Sim.or H Dd Dd al sf so (fun ha ht he=>?_) ?_)
    |(refine Sim.and H Dd al sf so (fun ha ht=>?_) ?_)
    |(refine Sim.bind sf Ds (Ht H al so) so (fun x x' m m' hm hs ha hx=>?_);(try have hs:=hs Dd);(try dsimp only at hx);(try rw[hx]))
    |(refine Sim.bind sf Ds (I.typ f'  o _ _ so al) so (fun x x' m m' hm hs ha hx=>?_);(try have hs:=hs Dd);(try dsimp only at hx))
    |(refine Sim.ok sf stv alw eqv)
  ·intro f'  o l l' ho h;refine Sim.Qh4 (F:=fun f'=>Qe4 e' f' l') (by first|rfl|simp only[Qe4]) (fun f'=>?_) f';unfold Qe4;try dsimp only
   repeat' first
    |exact Sim.bad
    |(refine Sim.is H Dd al sf so (fun ha ht hs=>?_) ?_;(try have hs:=hs Dd))
    |(refine Sim.or H Dd Dd al sf so (fun ha ht he=>?_) ?_)
    |(refine Sim.and H Dd al sf so (fun ha ht=>?_) ?_)
    |(refine Sim.bind sf Ds (Jo H _ al so) so (fun x x' m m' hm hs ha hx=>?_);(try have hs:=hs Dd);(try dsimp only at hx))
    |(refine Sim.bind sf Ds (Bl H Dd _ (fun o l l' h1 h2=>I.param f' o l l' h1 h2) f f' al so) so (fun x x' m m' hm hs ha hx=>?_);(try have hs:=hs Dd);(try dsimp only at hx))
    |(refine Sim.bind sf Ds (I.typ f'  o _ _ so al) so (fun x x' m m' hm hs ha hx=>?_);(try have hs:=hs Dd);(try dsimp only at hx))
    |(refine Sim.ite (List.suffix_refl _) (Qe0 H al) (fun _=>?_) (fun _=>?_))
    |(refine Sim.ok sf stv alw eqv)
  ·intro f'  o l l' ho h;refine Sim.Qh4 (F:=fun f'=>Ut e' f' l') (by first|rfl|simp only[Ut]) (fun f'=>?_) f';unfold Ut;try dsimp only
   repeat' first
    |exact Sim.bad
    |(refine Sim.is H Dd al sf so (fun ha ht hs=>?_) ?_;(try have hs:=hs Dd))
    |(refine Sim.or H Dd Dd al sf so (fun ha ht he=>?_) ?_)
    |(refine Sim.and H Dd al sf so (fun ha ht=>?_) ?_)
    |(refine Sim.bind sf Ds (Jo H _ al so) so (fun x x' m m' hm hs ha hx=>?_);(try have hs:=hs Dd);(try dsimp only at hx))
    |(refine Sim.bind sf Ds (I.blockL f' _ _ o _ _ eqv so al) so (fun x x' m m' hm hs ha hx=>?_);(try have hs:=hs Dd);(try dsimp only at hx))
    |(refine Sim.ok sf stv alw eqv)
  ·intro f' acc acc' o l l' hacc ho h;refine Sim.Qh4 (F:=fun f'=>V7 e' f' acc' l') (by first|rfl|simp only[V7]) (fun f'=>?_) f';unfold V7;try dsimp only
   repeat' first
    |exact Sim.bad
    |(refine Sim.is H Dd al sf so (fun ha ht hs=>?_) ?_;(try have hs:=hs Dd))
    |(refine Sim.or H Dd Dd al sf so (fun ha ht he=>?_) ?_)
    |(refine Sim.and H Dd al sf so (fun ha ht=>?_) ?_)
    |(refine Sim.Qri H Dd (I.stmt f' _ o _ _ so al) sf so (fun x x' m m' hm ha hx=>?_))
    |(exact I.blockL f' _ _ o _ _ (by rw[Ku,Ku];simp only[erL, *]) so al)
    |(refine Sim.ok sf stv alw eqv)
  ·intro f' p p' o l l' ho h;refine Sim.Qh4 (F:=fun f'=>Yl e' f' p' l') (by first|rfl|simp only[Yl]) (fun f'=>?_) f';unfold Yl;try dsimp only
   repeat' first
    |exact Sim.bad
    |(refine Sim.is H Dd al sf so (fun ha ht hs=>?_) ?_;(try have hs:=hs Dd))
    |(refine Sim.or H Dd Dd al sf so (fun ha ht he=>?_) ?_)
    |(refine Sim.and H Dd al sf so (fun ha ht=>?_) ?_)
    |(refine Sim.bind sf Ds (I.expr f' _ _ o _ _ so al) so (fun x x' m m' hm hs ha hx=>?_);(try have hs:=hs Dd);(try dsimp only at hx))
    |(refine Sim.bind sf Ds (I.block f'  o _ _ so al) so (fun x x' m m' hm hs ha hx=>?_);(try have hs:=hs Dd);(try dsimp only at hx))
    |(refine Sim.bind sf Ds (I.branch f' _ _ o _ _ so al) so (fun x x' m m' hm hs ha hx=>?_);(try have hs:=hs Dd);(try dsimp only at hx))
    |(refine Sim.ok sf stv alw eqv)
  ·intro f' hd o l l' ho h;refine Sim.Qh4 (F:=fun f'=>He e' f' hd l') (by first|rfl|simp only[He]) (fun f'=>?_) f';unfold He;try dsimp only
   repeat' first
    |exact Sim.bad
    |(refine Sim.is H Dd al sf so (fun ha ht hs=>?_) ?_;(try have hs:=hs Dd))
    |(refine Sim.or H Dd Dd al sf so (fun ha ht he=>?_) ?_)
    |(refine Sim.and H Dd al sf so (fun ha ht=>?_) ?_)
    |(exact Sim.sub sf (I.block f' o _ _ so al).weak)
    |(exact Sim.sub sf (I.simple f' _ o _ _ so al))
    |(exact Sim.sub sf (I.branch f' _ _ o _ _ so al))
    |(exact Sim.sub sf (I.selection f' _ _ o _ _ so al))
    |(refine Sim.ret H al sf eqv ?_)
    |(refine Sim.bind sf Ds (Ht H al so) so (fun x x' m m' hm hs ha hx=>?_);(try have hs:=hs Dd);(try dsimp only at hx);(try rw[hx]))
    |(refine Sim.bind sf Ds (I.typ f'  o _ _ so al) so (fun x x' m m' hm hs ha hx=>?_);(try have hs:=hs Dd);(try dsimp only at hx))
    |(refine Sim.bind sf Ds (I.expr f' _ _ o _ _ so al) so (fun x x' m m' hm hs ha hx=>?_);(try have hs:=hs Dd);(try dsimp only at hx))
    |(refine Sim.bind sf Ds (I.block f'  o _ _ so al) so (fun x x' m m' hm hs ha hx=>?_);(try have hs:=hs Dd);(try dsimp only at hx))
    |(refine Sim.ite (List.suffix_refl _) (.inr (by rw[Qht Da])) (fun _=>?_) (fun _=>?_))
    |(refine Sim.ok sf stv alw eqv)
  ·intro f' hd o l l' ho h;refine Sim.Qh4 (F:=fun f'=>Yw e' f' hd l') (by first|rfl|simp only[Yw]) (fun f'=>?_) f';unfold Yw;try dsimp only
   repeat' first
    |exact Sim.bad
    |(refine Sim.is H Dd al sf so (fun ha ht hs=>?_) ?_;(try have hs:=hs Dd))
    |(refine Sim.or H Dd Dd al sf so (fun ha ht he=>?_) ?_)
    |(refine Sim.and H Dd al sf so (fun ha ht=>?_) ?_)
    |(refine Sim.ite (List.suffix_refl _) (Qmo H al) (fun _=>?_) (fun _=>?_))
    |(refine Sim.ite (List.suffix_refl _) (.inr (by rw[Qht Da])) (fun _=>?_) (fun _=>?_))
    |(refine Sim.bind sf Ds (Ht H al so) so (fun x x' m m' hm hs ha hx=>?_);(try have hs:=hs Dd);(try dsimp only at hx);(try rw[hx]))
    |(refine Sim.bind sf Ds (Jo H _ al so) so (fun x x' m m' hm hs ha hx=>?_);(try have hs:=hs Dd);(try dsimp only at hx))
    |(refine Sim.bind sf Ds (I.expr f' _ _ o _ _ so al) so (fun x x' m m' hm hs ha hx=>?_);(try have hs:=hs Dd);(try dsimp only at hx))
    |(refine Sim.ok sf stv alw eqv)
  ·intro f' hd o l l' ho h;refine Sim.Qh4 (F:=fun f'=>Gg e' f' hd l') (by first|rfl|simp only[Gg]) (fun f'=>?_) f';unfold Gg;try dsimp only
   repeat' first
    |exact Sim.bad
    |(refine Sim.is H Dd al sf so (fun ha ht hs=>?_) ?_;(try have hs:=hs Dd))
    |(refine Sim.or H Dd Dd al sf so (fun ha ht he=>?_) ?_)
    |(refine Sim.and H Dd al sf so (fun ha ht=>?_) ?_)
    |(refine Sim.bind sf Ds (Jo H _ al so) so (fun x x' m m' hm hs ha hx=>?_);(try have hs:=hs Dd);(try dsimp only at hx))
    |(refine Sim.bind sf Ds (I.bodyL f' _ _ _ o _ _ eqv so al) so (fun x x' m m' hm hs ha hx=>?_);(try have hs:=hs Dd);(try dsimp only at hx))
    |(refine Sim.ok sf stv alw eqv)
  ·intro f' hd acc acc' o l l' hacc ho h;refine Sim.Qh4 (F:=fun f'=>Tt e' f' hd acc' l') (by first|rfl|simp only[Tt]) (fun f'=>?_) f';unfold Tt;try dsimp only
   refine Sim.ite (List.suffix_refl _) ?_ (fun _=>Sim.ok (List.suffix_refl _) (fun h=>nomatch h) (Al.weak h) hacc) fun _=>?_
   ·rcases Rh H (v:=Tj) Dd h with h1|h1
    ·exact .inl h1
    ·rcases Rh H (v:=Xj) Dd h with h2|h2
     ·exact .inl h2
     ·rcases Rh H (v:=wUc) Dd h with h3|h3
      ·exact .inl h3
      ·rw[h1,h2,h3];exact .inr rfl
   ·refine Sim.bind (List.suffix_refl _) Ds (I.stmt f' hd o l l' ho h) ho fun x x' k k' hk _ ha hx=>?_
    have hac:erL (acc++[x])=erL (acc'++[x']):=by rw[Ku,Ku,hacc];simp only[erL,hx]
    rcases ha with (rfl|⟨-,rfl⟩)|⟨t,t',m,m',rfl,rfl,h1,h2⟩
    ·exact Sim.bad
    ·rw[show (Q9 [s]==5)=true from beq_iff_eq.2 H.Qri,if_pos rfl];intro z m hz;obtain⟨k1,-,-⟩:=I.bodyL f' hd _ _ o [] [] hac List.nil_suffix (.inl (.inl rfl)) z m hz;exact⟨k1.trans List.nil_suffix,(fun h=>nomatch h),.inl (.inl (List.suffix_nil.1 k1))⟩
    ·rw[Qhh H (l:=m) (l':=m') h1,Qll (l:=m) (l':=m') h1];split
     ·exact Sim.sub (List.tail_suffix _) (I.bodyL f' hd _ _ o m m' hac ((List.tail_suffix _).trans hk) (.inr h2))
     ·split
      ·exact I.bodyL f' hd _ _ o _ _ hac hk (.inr (.cons h1 h2))
      ·exact Sim.bad
  ·intro f' hd d o l l' ho h;refine Sim.Qh4 (F:=fun f'=>Uj e' f' hd d l') (by first|rfl|simp only[Uj]) (fun f'=>?_) f';unfold Uj;try dsimp only
   repeat' first
    |exact Sim.bad
    |(refine Sim.is H Dd al sf so (fun ha ht hs=>?_) ?_;(try have hs:=hs Dd))
    |(refine Sim.or H Dd Dd al sf so (fun ha ht he=>?_) ?_)
    |(refine Sim.and H Dd al sf so (fun ha ht=>?_) ?_)
    |(refine Sim.kids H al al so (fun t t' ht=>?_) ?_)
    |(refine Sim.ite (List.suffix_refl _) (Qmo H al) (fun _=>?_) (fun _=>?_))
    |(refine Sim.prop ?_ ?_)
    |(refine Sim.bind sf Ds (Jo H _ al so) so (fun x x' m m' hm hs ha hx=>?_);(try have hs:=hs Dd);(try dsimp only at hx))
    |(refine Sim.bind sf Ds (Ht H al so) so (fun x x' m m' hm hs ha hx=>?_);(try have hs:=hs Dd);(try dsimp only at hx);(try rw[hx]))
    |(refine Sim.bind sf Ds (I.unary f' _ o _ _ so al) so (fun x x' m m' hm hs ha hx=>?_);(try have hs:=hs Dd);(try dsimp only at hx))
    |(refine Sim.bind sf Ds (I.expr f' _ _ o _ _ so al) so (fun x x' m m' hm hs ha hx=>?_);(try have hs:=hs Dd);(try dsimp only at hx))
    |(refine Sim.bind sf Ds (I.body f' _ o _ _ so al) so (fun x x' m m' hm hs ha hx=>?_);(try have hs:=hs Dd);(try dsimp only at hx))
    |(refine Sim.ok sf stv alw eqv)
  ·intro f' p p' o l l' ho h;refine Sim.Qh4 (F:=fun f'=>Vg e' f' p' l') (by first|rfl|simp only[Vg]) (fun f'=>?_) f';unfold Vg;try dsimp only
   repeat' first
    |exact Sim.bad
    |(refine Sim.is H Dd al sf so (fun ha ht hs=>?_) ?_;(try have hs:=hs Dd))
    |(refine Sim.or H Dd Dd al sf so (fun ha ht he=>?_) ?_)
    |(refine Sim.and H Dd al sf so (fun ha ht=>?_) ?_)
    |(refine Sim.bind sf Ds (Jo H _ al so) so (fun x x' m m' hm hs ha hx=>?_);(try have hs:=hs Dd);(try dsimp only at hx))
    |(refine Sim.bind sf Ds (I.selL f' _ _ _ o _ _ eqv so al) so (fun x x' m m' hm hs ha hx=>?_);(try have hs:=hs Dd);(try dsimp only at hx))
    |(refine Sim.ok sf stv alw eqv)
  ·intro f' acc acc' d o l l' hacc ho h;refine Sim.Qh4 (F:=fun f'=>Jg e' f' acc' d l') (by first|rfl|simp only[Jg]) (fun f'=>?_) f';unfold Jg;try dsimp only
   refine Sim.is H Dd h (List.suffix_refl _) ho (fun ha ht hs=>Sim.ok (List.tail_suffix _) Ds (Al.weak ha) hacc) ?_;refine Sim.bind (List.suffix_refl _) Ds (I.oneC f' false d o l l' ho h) ho fun x x' m m' hm _ ha hx=>?_
   have hx1:=(Prod.mk.inj hx).1;have hx2:=(Prod.mk.inj hx).2;have hac:erL (acc++[x.1])=erL (acc'++[x'.1]):=by rw[Ku,Ku,hacc];simp only[erL,hx1]
   rw[hx2];rcases ha with (rfl|⟨-,rfl⟩)|⟨t,t',k,k',rfl,rfl,h1,h2⟩
   ·exact Sim.dead (.inl rfl) (I.selL f' _ _ x'.2 o [] [] hac hm (.inl (.inl rfl)))
   ·exact Sim.dead (.inr ⟨rfl,rfl⟩) (I.selL f' _ _ x'.2 o [s] q hac hm (.inr .cut))
   ·exact I.selL f' _ _ x'.2 o _ _ hac hm (.inr (.cons h1 h2))
  ·intro f' n hd o l l' ho h;refine Sim.Qh4 (F:=fun f'=>Xg e' f' n hd l') (by first|rfl|simp only[Xg]) (fun f'=>?_) f';unfold Xg;try dsimp only
   repeat' first
    |exact Sim.bad
    |(refine Sim.is H Dd al sf so (fun ha ht hs=>?_) ?_;(try have hs:=hs Dd))
    |(refine Sim.or H Dd Dd al sf so (fun ha ht he=>?_) ?_)
    |(refine Sim.and H Dd al sf so (fun ha ht=>?_) ?_)
    |(exact I.exprL f' _ _ _ _ o _ _ eqv al so al)
    |(refine Sim.bind sf Ds (I.unary f' _ o _ _ so al) so (fun x x' m m' hm hs ha hx=>?_);(try have hs:=hs Dd);(try dsimp only at hx))
    |(refine Sim.ok sf stv alw eqv)
  ·intro f' n hd x x' o l l' hx hst ho h;refine Sim.Qh4 (F:=fun f'=>Xv e' f' n hd x' l') (by first|rfl|simp only[Xv]) (fun f'=>?_) f';unfold Xv;try dsimp only
   refine Sim.ite (c:=strg l==0||decide (strg l<n)) (c':=strg l'==0||decide (strg l'<n)) (List.suffix_refl _) ?_ (fun _=>Sim.ok (List.suffix_refl _) (fun _=>hst) h hx) fun hc=>?_
   ·rcases Qq7 H h with h1|h1
    ·exact .inl h1
    ·rw[h1];exact .inr rfl
   ·have h4:(Q9 l==4)=true:=by
     cases h4:(Q9 l==4) with
     |true=>rfl
     |false=>unfold strg at hc;rw[h4] at hc;exact absurd hc Ds
    obtain⟨t,t',m,m',rfl,rfl,e1,e2⟩:=Al.kd H Dd h h4;rw[show Zl (t'::m')=Zl (t::m) from e1.2.1.symm];refine Sim.bind (List.tail_suffix _) Ds (I.expr f' _ hd o m m' ((List.tail_suffix _).trans ho) e2) ((List.tail_suffix _).trans ho) fun y y' k k' hk hs ha hy=>?_
    exact I.exprL f' n hd _ _ o k k' (by simp only[erT,erL,hx,hy]) (hs rfl) hk ha
  ·intro f' hd o l l' ho h;refine Sim.Qh4 (F:=fun f'=>Zy e' f' hd l') (by first|rfl|simp only[Zy]) (fun f'=>?_) f';unfold Zy;try dsimp only
   repeat' first
    |exact Sim.bad
    |(refine Sim.is H Dd al sf so (fun ha ht hs=>?_) ?_;(try have hs:=hs Dd))
    |(refine Sim.or H Dd Dd al sf so (fun ha ht he=>?_) ?_)
    |(refine Sim.and H Dd al sf so (fun ha ht=>?_) ?_)
    |(exact I.suf f' _ _ _ o _ _ eqv al so al)
    |(refine Sim.bind sf Ds (I.unary f' _ o _ _ so al) so (fun x x' m m' hm hs ha hx=>?_);(try have hs:=hs Dd);(try dsimp only at hx))
    |(refine Sim.bind sf Ds (I.operand f' _ o _ _ so al) so (fun x x' m m' hm hs ha hx=>?_);(try have hs:=hs Dd);(try dsimp only at hx))
    |(refine Sim.ok sf stv alw eqv)
  ·intro f' hd x x' o l l' hx hst ho h;refine Sim.Qh4 (F:=fun f'=>V8 e' f' hd x' l') (by first|rfl|simp only[V8]) (fun f'=>?_) f';unfold V8;try dsimp only
   repeat' first
    |exact Sim.bad
    |(refine Sim.is H Dd al sf so (fun ha ht hs=>?_) ?_;(try have hs:=hs Dd))
    |(refine Sim.or H Dd Dd al sf so (fun ha ht he=>?_) ?_)
    |(refine Sim.and H Dd al sf so (fun ha ht=>?_) ?_)
    |(exact I.suf f' _ _ _ o _ _ eqv al so al)
    |(refine Sim.bind sf Ds (Ht H al so) so (fun x x' m m' hm hs ha hx=>?_);(try have hs:=hs Dd);(try dsimp only at hx);(try rw[hx]))
    |(refine Sim.bind sf Ds (Bl H Dd _ (fun o l l' h1 h2=>I.expr f' 1 false o l l' h1 h2) f f' al so) so (fun x x' m m' hm hs ha hx=>?_);(try have hs:=hs Dd);(try dsimp only at hx))
    |(refine Sim.bind sf Ds (Bl H Dd _ (fun o l l' h1 h2=>I.arg f' o l l' h1 h2) f f' al so) so (fun x x' m m' hm hs ha hx=>?_);(try have hs:=hs Dd);(try dsimp only at hx))
    |(refine Sim.ok sf stv alw eqv)
  ·intro f'  o l l' ho h;refine Sim.Qh4 (F:=fun f'=>Qj7 e' f' l') (by first|rfl|simp only[Qj7]) (fun f'=>?_) f';unfold Qj7;try dsimp only
   repeat' first
    |exact Sim.bad
    |(refine Sim.is H Dd al sf so (fun ha ht hs=>?_) ?_;(try have hs:=hs Dd))
    |(refine Sim.or H Dd Dd al sf so (fun ha ht he=>?_) ?_)
    |(refine Sim.and H Dd al sf so (fun ha ht=>?_) ?_)
    |(exact Sim.sub sf (I.typ f' o _ _ so al))
    |(exact Sim.sub sf (I.expr f' _ _ o _ _ so al))
    |(refine Sim.ok sf stv alw eqv)
  ·intro f' hd o l l' ho h;refine Sim.Qh4 (F:=fun f'=>Vm e' f' hd l') (by first|rfl|simp only[Vm]) (fun f'=>?_) f';unfold Vm;try dsimp only
   refine Sim.ite (List.suffix_refl _) (Qrk H Dd h) (fun h2=>?_) fun _=>?_
   ·obtain⟨n1,n2⟩:=same_num H h h2;rw[←n1,←n2];obtain⟨t,t',m,m',rfl,rfl,e1,e2⟩:=Al.kd H Dd h h2;split
    ·refine Sim.ok (List.tail_suffix _) (fun _=>St1.up ho ⟨[],t,rfl,?_⟩) e2 rfl;unfold Xl;rw[show (t.kind==2)=true from h2,Bool.or_true,Bool.true_or]
    ·exact Sim.none
   repeat' first
    |exact Sim.bad
    |(refine Sim.is H Dd al sf so (fun ha ht hs=>?_) ?_;(try have hs:=hs Dd))
    |(refine Sim.or H Dd Dd al sf so (fun ha ht he=>?_) ?_)
    |(refine Sim.and H Dd al sf so (fun ha ht=>?_) ?_)
    |(refine Sim.bind sf Ds (Qmi H Dd al so) so (fun x x' m m' hm hs ha hx=>?_);(try have hs:=hs Dd);(try dsimp only at hx))
    |(refine Sim.bind sf Ds (Jo H _ al so) so (fun x x' m m' hm hs ha hx=>?_);(try have hs:=hs Dd);(try dsimp only at hx))
    |(refine Sim.bind sf Ds (Ht H al so) so (fun x x' m m' hm hs ha hx=>?_);(try have hs:=hs Dd);(try dsimp only at hx);(try rw[hx]))
    |(refine Sim.bind sf Ds (I.expr f' _ _ o _ _ so al) so (fun x x' m m' hm hs ha hx=>?_);(try have hs:=hs Dd);(try dsimp only at hx))
    |(refine Sim.bind sf Ds (I.sig f'  o _ _ so al) so (fun x x' m m' hm hs ha hx=>?_);(try have hs:=hs Dd);(try dsimp only at hx))
    |(refine Sim.bind sf Ds (I.block f'  o _ _ so al) so (fun x x' m m' hm hs ha hx=>?_);(try have hs:=hs Dd);(try dsimp only at hx))
    |(refine Sim.bind sf Ds (I.typ f'  o _ _ so al) so (fun x x' m m' hm hs ha hx=>?_);(try have hs:=hs Dd);(try dsimp only at hx))
    |(refine Sim.bind sf Ds (Bl H Dd _ (fun o l l' h1 h2=>I.expr f' 1 false o l l' h1 h2) f f' al so) so (fun x x' m m' hm hs ha hx=>?_);(try have hs:=hs Dd);(try dsimp only at hx))
    |(refine Sim.ok sf stv alw eqv)
end
end Prs
end Go.Proofs.YtcbkeecabcbogaaGreatDoor
