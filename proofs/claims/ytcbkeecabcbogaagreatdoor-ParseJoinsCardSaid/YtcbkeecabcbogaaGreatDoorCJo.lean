/- Two programs, one on the lines behind the other's, are one w -/
import Derived.Test.YtcbkeecabcbogaaGreatDoorBbo
import Derived.Test.YtcbkeecabcbogaaGreatDoorBbq
set_option linter.unusedSimpArgs false
set_option linter.unusedVariables false
namespace Go.Proofs.YtcbkeecabcbogaaGreatDoor
theorem Y9a{α:Type}(l:List α)(i:Nat)(a:α):l.toArray.setIfInBounds i a=(l.set i a).toArray:=by simp
theorem Y9b{α:Type}(l:List α)(x a:α):(x::l).set 0 a=a::l:=rfl
theorem Y9c{α:Type}(l:List α)(x a:α)(n:Nat):(x::l).set (n+1) a=x::l.set n a:=rfl
section
namespace Prs
section
variable {s:Tok} {q:List Tok} {e e':Nat} (H:Ends s q)
include H
theorem Qn3:One s q (Fq e) (Fq e'):=by
 intro o l l' ho h;unfold Fq;refine Sim.bind (List.suffix_refl _) Ds (Ht H h ho) ho fun x x' m m' hm hs ha hx=>?_
 try dsimp only at hx
 rcases ha with (rfl|⟨ha,-⟩)|ha
 ·exact Sim.bad
 ·cases ha
 ·cases ha with
  |nil=>exact Sim.bad
  |cut=>
   rw[show Zv [s]=0 by unfold Zv;rw[Qf4 H Dd];rfl];exact Sim.bad
  |@cons t t' k k' h1 h2=>
   have e1:Zv (t::k)=Zv (t'::k'):=by
    unfold Zv;rw[show Q9 (t::k)=Q9 (t'::k') from h1.1,show Zl (t::k)=Zl (t'::k') from h1.2.1]
   rw[←e1];refine Sim.ite (List.suffix_refl _) (.inr rfl) (fun _=>Sim.bad) fun hc=>?_
   refine Sim.ok (List.tail_suffix _) (fun _=>St1.up hm ⟨[],t,rfl,?_⟩) (.inr h2) (by simp only[erT,erL,hx]);have:(t.kind==1)=true:=by
    cases hk:(t.kind==1) with
    |true=>rfl
    |false=>
     unfold Zv at hc;rw[show (Q9 (t::k)==1)=false from hk] at hc;cases hc
   unfold Xl;rw[this];rfl
theorem Qn7:∀ (f f':Nat) (acc acc':List Tr) (o l l':List Tok),erL acc=erL acc'→l <:+ o→Al s q false l l'→Sim s q true false o l erL (Vx e f acc l) (Vx e' f' acc' l'):=by
 intro f;induction f with
 |zero=>intros;exact Sim.none
 |succ f ih=>
  have key:∀ (f':Nat) (acc acc':List Tr) (o l l':List Tok),erL acc=erL acc'→l <:+ o→Al s q false l l'→Sim s q true false o l erL (Vx e (f+1) acc l) (Vx e' (f'+1) acc' l'):=by
   intro f' acc acc' o l l' hacc ho h;unfold Vx;refine Sim.is H Dd h (List.suffix_refl _) ho (fun ha ht hs=>Sim.ok (List.tail_suffix _) (fun _=>hs Dd) ha hacc) ?_;refine Sim.bind (List.suffix_refl _) Ds ((exts H f).param f' o l l' ho h) ho fun x x' k k' hk _ ha hx=>?_
   refine Sim.bind (List.suffix_refl _) Ds (Qml H _ Dd (Al.weak ha)) hk fun _ _ m m' hm _ ha _=>?_
   exact ih f' _ _ o m m' (by rw[Ku,Ku,hacc];simp only[erL,hx]) hm ha
  intro f' acc acc' o l l' hacc ho h;cases f' with
  |zero=>exact Sim.noner (key 0 acc acc' o l l' hacc ho h)
  |succ f'=>exact key f' acc acc' o l l' hacc ho h
theorem Qgp (f f' p p':Nat){o l l':List Tok}(ho:l <:+ o)(h:Al s q false l l'):Sim s q true false o l erT (Uo e f p l) (Uo e' f' p' l'):=by
 unfold Uo;refine Sim.bind (List.suffix_refl _) Ds (Ht H h ho) ho fun x x' m m' hm _ ha hx=>?_
 try dsimp only at hx
 refine Sim.bind (List.suffix_refl _) Ds (Jo H _ ha hm) hm fun _ _ m m' hm _ ha _=>?_
 refine Sim.bind (List.suffix_refl _) Ds (Jo H _ ha hm) hm fun _ _ m m' hm _ ha _=>?_
 refine Sim.bind (List.suffix_refl _) Ds (Qn7 H f f' [] [] o m m' rfl hm ha) hm fun xs xs' k k' hk hs ha hxs=>?_
 exact Sim.ok (List.suffix_refl _) (fun _=>hs rfl) ha (by simp only[erT,hx,hxs])
theorem Qjo (f f' p p':Nat){o l l':List Tok}(ho:l <:+ o)(h:Al s q false l l'):Sim s q true false o l erT (Yd e f p l) (Yd e' f' p' l'):=by
 have I:=exts (e:=e) (e':=e') H f;unfold Yd;refine Sim.bind (List.suffix_refl _) Ds (Ht H h ho) ho fun x x' m m' hm _ ha hx=>?_
 try dsimp only at hx
 refine Sim.bind (pA:=false) (wA:=false) (gA:=erL) (List.suffix_refl _) Ds ?_ hm fun tp tp' k k' hk _ ha2 htp=>?_
 ·exact Sim.is H Dd ha (List.suffix_refl _) hm (fun ha ht _=>Sim.sub (List.tail_suffix _) (Bl H Dd true (Qn3 H) f f' ha ht).weak) (Sim.ok (List.suffix_refl _) Ds ha rfl)
 refine Sim.bind (List.suffix_refl _) Ds (I.sig f' o k k' hk ha2) hk fun sg sg' k k' hk _ ha hsg=>?_
 refine Sim.bind (List.suffix_refl _) Ds (I.block f' o k k' hk ha) hk fun b b' k k' hk hs ha hb=>?_
 exact Sim.ok (List.suffix_refl _) (fun _=>hs rfl) ha (by simp only[erT,erL,Ku,hx,htp,hsg,hb])
def Qff (e f:Nat)(l:List Tok):R Tr:=if isP Qa9 l then Uo e f (atP e l) l.tail else if isP U6 l then Yd e f (atP e l) l.tail else bad (atP e l)
theorem Qnf (f f':Nat){o l l':List Tok}(ho:l <:+ o)(h:Al s q false l l'):Sim s q true false o l erT (Qff e f l) (Qff e' f' l'):=by
 unfold Qff;refine Sim.is H Dd h (List.suffix_refl _) ho (fun ha ht _=>Sim.sub (List.tail_suffix _) (Qgp H f f' _ _ ht ha)) ?_;exact Sim.is H Dd h (List.suffix_refl _) ho (fun ha ht _=>Sim.sub (List.tail_suffix _) (Qjo H f f' _ _ ht ha)) Sim.bad
end
theorem Jr (e f:Nat)(acc:List Tr)(t:Tok)(l:List Tok):Xh e (f+1) acc (t::l)=andThen (Qff e f (t::l)) fun x k=>match k with
   | []=>Xh e f (acc++[x]) []
   |u::k'=>andThen (J3 e D6 (u::k')) fun _ m=>Xh e f (acc++[x]) m:=rfl
theorem Qiu (e f:Nat)(acc:List Tr):Xh e (f+1) acc []=ok acc []:=rfl
theorem Qtd {e f:Nat}{l m:List Tok}{x:Tr}(h:Qff e f l=some (.ok (x,m))):m <:+ l∧St1 l m:=by
 obtain⟨h1,h2,-⟩:=Qnf (s:=Zj 0) (q:=[]) (e:=e) (e':=e) ⟨rfl,rfl,.inl rfl⟩ f f (List.suffix_refl l) (.inr (Qli _ _)) x m h;exact⟨h1,h2 rfl⟩
theorem Qjy {e f:Nat}{acc:List Tr}{t:Tok}{l:List Tok}{xs:List Tr}{m:List Tok}(hl:∀ c u,t::l=c++[u]→Xl u=false)(h:Xh e (f+1) acc (t::l)=some (.ok (xs,m))):
  ∃ x u k,Qff e f (t::l)=some (.ok (x,u::k))∧u.kind=5∧(∃ c,t::l=c++u::k)∧Xh e f (acc++[x]) k=some (.ok (xs,m)):=by
 rw[Jr] at h;cases hd:Qff e f (t::l) with
 |none=>rw[hd] at h;cases h
 |some y=>
  rw[hd] at h;cases y with
  |error p=>cases h
  |ok y=>
   obtain⟨x,k⟩:=y;obtain⟨⟨c,hc⟩,d,v,e1,hv⟩:=Qtd hd;cases k with
   |nil=>rw[hl d v e1] at hv;cases hv
   |cons u k=>
    have h:andThen (J3 e D6 (u::k)) (fun _ m=>Xh e f (acc++[x]) m)=some (.ok (xs,m)):=h;refine⟨x,u,k,rfl,?_⟩;unfold J3 at h;cases h5:(Q9 (u::k)==5) with
    |true=>
     rw[h5] at h;exact⟨beq_iff_eq.1 h5,⟨c,hc.symm⟩,h⟩
    |false=>
     rw[h5] at h;exfalso;cases hi:isP D6 (u::k) with
     |false=>rw[hi] at h;cases h
     |true=>
      rw[hi] at h;have h:Xh e f (acc++[x]) (u::k)=some (.ok (xs,m)):=h;cases f with
      |zero=>cases h
      |succ f=>
       have hn:∀ w,w≠D6→isP w (u::k)=false:=fun w hw=>by
        unfold isP at hi ⊢;rw[Bool.and_eq_true] at hi;rw[beq_iff_eq.1 hi.2,show (D6==w)=false from beq_false_of_ne (Ne.symm hw),Bool.and_false]
       rw[Jr] at h;unfold Qff at h;rw[hn Qa9 Dd,hn U6 Dd] at h;cases h
theorem Qso {c:List Tok}{l k:List Tok}{u:Tok}(e:l=c++u::k)(hl:∀ c u,l=c++[u]→Xl u=false):∀ c u,k=c++[u]→Xl u=false:=fun c' u' e'=>hl (c++u::c') u' (by rw[e,e'];simp)
theorem Qr2 {e:Nat}:∀ (f:Nat) (acc:List Tr) (l:List Tok) (xs:List Tr) (m:List Tok),Xh e f acc l=some (.ok (xs,m))→(∀ c t,l=c++[t]→Xl t=false)→l=[]∨∃ c t,l=c++[t]∧t.kind=5:=by
 intro f;induction f with
 |zero=>intro acc l xs m h;cases h
 |succ f ih=>
  intro acc l xs m h hl;cases l with
  |nil=>exact .inl rfl
  |cons t l=>
   obtain⟨x,u,k,-,h5,⟨c,hc⟩,hk⟩:=Qjy hl h;right;rcases ih _ _ _ _ hk (Qso hc hl) with rfl|⟨c',t',e1,h6⟩
   ·exact⟨c,u,hc,h5⟩
   ·exact⟨c++u::c',t',by rw[hc,e1];simp,h6⟩
theorem prog_acc {e:Nat}(a:List Tr):∀ (f:Nat) (acc:List Tr) (l:List Tok) (xs:List Tr) (m:List Tok),Xh e f acc l=some (.ok (xs,m))→Xh e f (a++acc) l=some (.ok (a++xs,m)):=by
 intro f;induction f with
 |zero=>intro acc l xs m h;cases h
 |succ f ih=>
  intro acc l xs m h;cases l with
  |nil=>cases h;rfl
  |cons t l=>
   rw[Jr] at h ⊢;cases hd:Qff e f (t::l) with
   |none=>rw[hd] at h;cases h
   |some y=>
    rw[hd] at h;cases y with
    |error p=>cases h
    |ok y=>
     obtain⟨x,k⟩:=y;cases k with
     |nil=>
      have h:Xh e f (acc++[x]) []=some (.ok (xs,m)):=h;show Xh e f (a++acc++[x]) []=_
      rw[List.append_assoc];exact ih _ _ _ _ h
     |cons u k=>
      have h9:andThen (J3 e D6 (u::k)) (fun _ m=>Xh e f (acc++[x]) m)=some (.ok (xs,m)):=h;clear h;show andThen (J3 e D6 (u::k)) (fun _ m=>Xh e f (a++acc++[x]) m)=_
      generalize J3 e D6 (u::k)=z0 at h9 ⊢;cases z0 with
      |none=>cases h9
      |some z=>
       cases z with
       |error p=>cases h9
       |ok z=>
        obtain⟨u0,k2⟩:=z;have h9:Xh e f (acc++[x]) k2=some (.ok (xs,m)):=h9;show Xh e f (a++acc++[x]) k2=_
        rw[List.append_assoc];exact ih _ _ _ _ h9
theorem Qmu {s:Tok}{q:List Tok}{e e':Nat}(H:Ends s q)(hq:q=[]∨∃ t r,q=t::r∧t.kind=5):∀ (f f':Nat) (acc acc':List Tr) (l l':List Tok) (xs:List Tr) (m:List Tok),Lk s q l l'→(q=[]→s ∉ l)→(∀ c t,l=c++[t]→Xl t=false)→erL acc=erL acc'→
  Xh e f acc l=some (.ok (xs,m))→Xh e' f' acc' l'=none∨∃ f2 acc2,Xh e' f' acc' l'=Xh e' f2 acc2 q.tail∧erL xs=erL acc2:=by
 intro f;induction f with
 |zero=>intro f' acc acc' l l' xs m _ _ _ _ h;cases h
 |succ f ih=>
  intro f' acc acc' l l' xs m hL hm hl hacc h;cases f' with
  |zero=>exact .inl rfl
  |succ f'=>
   cases hL with
   |nil h0=>
    subst h0;cases h;exact .inr ⟨f'+1,acc',rfl,hacc⟩
   |cut=>
    rw[Jr] at h;unfold Qff at h;rw[Qb9 H,Qb9 H] at h;cases h
   |@cons t t' k k' h1 h2=>
    obtain⟨x,u,k1,hd,h5,⟨c,hc⟩,hk⟩:=Qjy hl h;obtain⟨-,-,h3⟩:=Qnf (e:=e) (e':=e') H f f' (List.suffix_refl (t::k)) (.inr (.cons h1 h2)) x (u::k1) hd;rw[Jr];rcases h3 with (h3|⟨h3,-⟩)|⟨x',m',h6,h7,h8⟩
    ·cases h3
    ·cases h3
    ·rcases h6 with h6|h6
     ·left;rw[h6];rfl
     ·rw[h6];have hac:erL (acc++[x])=erL (acc'++[x']):=by rw[Ku,Ku,hacc];simp only[erL,h7]
      have h8:Lk s q (u::k1) m':=h8;have hm1:q=[]→s ∉ u::k1:=fun hh hx=>hm hh (by rw[hc];exact List.mem_append_right _ hx)
      cases h8 with
      |cut=>
       rcases hq with hq|⟨t2,r,hq,h9⟩
       ·exact absurd List.mem_cons_self (hm1 hq)
       ·subst hq;right
        have e2:(andThen (some (.ok (x',t2::r))) fun x k=>match k with
          | []=>Xh e' f' (acc'++[x]) []
          |u::k'=>andThen (J3 e' D6 (u::k')) fun _ m=>Xh e' f' (acc'++[x]) m)=Xh e' f' (acc'++[x']) r:=by
         show andThen (J3 e' D6 (t2::r)) (fun _ m=>Xh e' f' (acc'++[x']) m)=_
         unfold J3;rw[show (Q9 (t2::r)==5)=true from beq_iff_eq.2 h9];rfl
        refine⟨f',acc'++[x'],e2,?_⟩;cases f with
        |zero=>cases hk
        |succ f=>cases hk;exact hac
      |@cons _ u' _ k2 h10 h11=>
       have e2:(andThen (some (.ok (x',u'::k2))) fun x k=>match k with
         | []=>Xh e' f' (acc'++[x]) []
         |u::k'=>andThen (J3 e' D6 (u::k')) fun _ m=>Xh e' f' (acc'++[x]) m)=Xh e' f' (acc'++[x']) k2:=by
        show andThen (J3 e' D6 (u'::k2)) (fun _ m=>Xh e' f' (acc'++[x']) m)=_
        unfold J3;rw[show (Q9 (u'::k2)==5)=true from beq_iff_eq.2 (h10.1.symm.trans h5)];rfl
       rw[e2];exact ih f' _ _ k1 k2 xs m h11 (fun hh hx=>hm1 hh (List.mem_cons_of_mem _ hx)) (Qso hc hl) hac hk
theorem lex_over (l:List UInt8)(p:Nat)(opn:Bool)(cnt:Nat)(ts:List Tok)(h:lex l p opn cnt=.ok ts):∀ d,lex l p opn (cnt+d)=.ok ts∨∃ p',lex l p opn (cnt+d)=.error (p',6):=by
 refine Qeb (fun l p opn cnt ts=>∀ d,lex l p opn (cnt+d)=.ok ts∨∃ p',lex l p opn (cnt+d)=.error (p',6)) ?_ ?_ ?_ ?_ ?_ ?_ ?_ l.length l p opn cnt ts (Nat.le_refl _) h
 ·intro p cnt d;rw[Jh];exact .inl rfl
 ·intro p cnt hc d;rw[Jh,if_pos rfl];split
  ·exact .inr ⟨_,rfl⟩
  ·exact .inl rfl
 ·intro m p cnt ts ih d;rw[Tn];exact ih d
 ·intro m p cnt ts h16 ih d;rw[Tn,if_pos rfl];split
  ·exact .inr ⟨_,rfl⟩
  ·rw[show cnt+d+1=cnt+1+d by omega];rcases ih d with h|⟨p',h⟩
   ·rw[h];exact .inl rfl
   ·rw[h];exact .inr ⟨p',rfl⟩
 ·intro b m p opn cnt ts hb ih d;rw[U9 b m p opn _ hb];exact ih d
 ·intro l p opn cnt ts hr ih d;rw[Y7 l p opn _ hr];exact ih d
 ·intro l p opn cnt ts hs he h16 ih d;rw[Kt l p opn _ hs,if_neg (by rw[he];simp)];split
  ·exact .inr ⟨_,rfl⟩
  ·rw[show cnt+d+1=cnt+1+d by omega];rcases ih d with h|⟨p',h⟩
   ·rw[h];exact .inl rfl
   ·rw[h];exact .inr ⟨p',rfl⟩
theorem Yy {l:List UInt8}{x:Tr}(h:Jd l=some (.ok x)):∃ ts xs,Xk l=.ok ts∧Xh l.length Jt [] ts=some (.ok (xs,[]))∧x=.mk 1 [] 0 0 xs∧Wj xs=true∧1+Zk xs≤16384∧Ti xs≤64:=by
 unfold Jd Nu at h;cases ht:Xk l with
 |error e=>rw[ht] at h;cases h
 |ok ts=>
  rw[ht] at h;dsimp only at h;unfold Hr at h;cases hx:Xh l.length Jt [] ts with
  |none=>rw[hx] at h;cases h
  |some y=>
   rw[hx] at h;cases y with
   |error p=>cases h
   |ok y=>
    obtain⟨xs,m⟩:=y;have h:Qjx l.length false (.ok (.mk 1 [] 0 0 xs,m))=.ok x:=Option.some.inj h;unfold Qjx at h;dsimp only at h;split at h
    ·rename_i hr;split at h
     ·rename_i hf;cases h;have hm:m=[]:=hr;subst hm;have h1:=hf.1;unfold Ed at h1;rw[Bool.and_eq_true] at h1;exact⟨ts,xs,rfl,hx,rfl,h1.1,by have:=hf.2.1;simpa only [Xc] using this,by have:=hf.2.2;simpa only [Zm] using this⟩
     ·cases h
    ·cases h
theorem Qpn (a b:List Tr):Ti (a++b)=max (Ti a) (Ti b):=by
 induction a with
 |nil=>simp[Ti]
 |cons t a ih=>simp only[List.cons_append,Ti,ih];omega
theorem Qs0 (a b:List Tr):Wj (a++b)=(Wj a&&Wj b):=by
 induction a with
 |nil=>simp[Wj]
 |cons t a ih=>simp only[List.cons_append,Wj,ih,Bool.and_assoc]
theorem Qsq {l1 l2:List UInt8}{a b:Tr}{ts1 ts2:List Tok}(h1:Jd l1=some (.ok a))(h2:Jd l2=some (.ok b))(ht1:Xk l1=.ok ts1)(ht2:Xk l2=.ok ts2)(hlen:l1.length+l2.length<65536):
  (∃ x,Jd (l1++10::l2)=some (.ok x)∧erT x=erT (.mk 1 [] 0 0 (a.kids++b.kids)))∨(∃ p,Jd (l1++10::l2)=some (.error (p,6))∧(16384<ts1.length+ts2.length∨16384<Xc a+Xc b-1)):=by
 obtain⟨_,xs1,k1,k2,rfl,k3,k4,k5⟩:=Yy h1;obtain⟨_,xs2,j1,j2,rfl,j3,j4,j5⟩:=Yy h2;rw[ht1] at k1;rw[ht2] at j1;cases k1;cases j1;obtain⟨g1,g2,-⟩:=Y2 l1 _ ht1;obtain⟨g4,g5,-⟩:=Y2 l2 _ ht2;obtain⟨o1,c1⟩:=D8 _ _ ht1;obtain⟨o2,c2⟩:=D8 _ _ ht2;have hw:Wh (l1++10::l2):=Qa8 g2 (Qa8 (x:=[10]) (Dc _ Dd) g5);obtain⟨ts0,o,e1,e2,-,-⟩:=Qm3 (q:=10::l2) ⟨10,l2,rfl,.inl rfl⟩ l1 0 false 0 ts1 g1 g2 (.inr rfl);have htok:Xk (l1++10::l2)=Eu ts1 (lex l2 (l1.length+1) false ts1.length):=by
  unfold Xk;rw[if_neg (by simp;omega),if_neg (by rw[hw];exact Nat.lt_irrefl _),e2];cases o with
  |false=>
   rw[if_neg Dd,List.append_nil] at e1;rw[Tn,if_neg Dd,e1];simp
  |true=>
   rw[if_pos rfl] at e1;have hl:ts1.length=ts0.length+1:=by rw[e1];simp
   rw[Tn,if_pos rfl,if_neg Dw,Hw,hl,e1];simp
 have f1:=Qjh (l1.length+1) l2.length l2 0 false 0 (Nat.le_refl _);rw[g4,Nat.zero_add] at f1;have hsz:Xc (.mk 1 [] 0 0 xs1)+Xc (.mk 1 [] 0 0 xs2)-1=1+Zk xs1+Zk xs2:=by simp only[Xc];omega
 rw[hsz];rcases lex_over _ _ _ _ _ f1 ts1.length with f2|⟨p,f2⟩
 ·rw[Nat.zero_add] at f2;rw[f2] at htok;have htok:Xk (l1++10::l2)=.ok (ts1++ts2.map (shT (l1.length+1))):=htok;obtain⟨o3,c3⟩:=D8 _ _ htok;have hne:=Qsu (Qds (l1++10::l2).length o3 c3);unfold Jd Nu;rw[htok];dsimp only;generalize (l1++10::l2).length=e at *;have hla:=Rf ht1;have hlb:=Rf ht2
  -- the first program's part
  have A:Xh e Jt [] (ts1++ts2.map (shT (l1.length+1)))=none∨∃ f2 acc2,Xh e Jt [] (ts1++ts2.map (shT (l1.length+1)))=Xh e f2 acc2 (ts2.map (shT (l1.length+1)))∧erL xs1=erL acc2:=by
   rcases Qr2 _ _ _ _ _ k2 hla with h0|⟨c,t,h0,h5⟩
   ·subst h0;right;have:xs1=[]:=by
     have k2:Xh l1.length (199999+1) [] []=some (.ok (xs1,[])):=k2;rw[Qiu] at k2;cases k2;rfl
    subst this;exact⟨Jt,[],rfl,rfl⟩
   ·subst h0;have H:Ends t (t::ts2.map (shT (l1.length+1))):=⟨h5,hla c t rfl,.inr ⟨_,_,rfl,.inl h5⟩⟩;have hL:Lk t (t::ts2.map (shT (l1.length+1))) (c++[t]) (c++[t]++ts2.map (shT (l1.length+1))):=by
     have:=lk_of (s:=t) (q:=t::ts2.map (shT (l1.length+1))) (c:=c) (c':=c) (by
      have hr:∀ c:List Tok,Ql6 c c:=fun c=>by
       induction c with
       |nil=>trivial
       |cons a c ih=>exact⟨⟨rfl,rfl,rfl⟩,ih⟩
      exact hr c)
     simpa using this
    exact Qmu (e':=e) H (.inr ⟨_,_,rfl,h5⟩) Jt Jt [] [] _ _ xs1 [] hL (fun h=>by cases h) hla rfl k2
  -- and the second's
  have B:∀ f2 acc2,Xh e f2 acc2 (ts2.map (shT (l1.length+1)))=none∨∃ acc3,Xh e f2 acc2 (ts2.map (shT (l1.length+1)))=some (.ok (acc3,[]))∧erL (acc2++xs2)=erL acc3:=by
   intro f2 acc2;have hL:∀ l:List Tok,Lk ⟨5,[],-1,0⟩ [] l (l.map (shT (l1.length+1))):=fun l=>by
    induction l with
    |nil=>exact .nil rfl
    |cons a l ih=>exact .cons ⟨rfl,rfl,rfl⟩ ih
   have:=prog_acc acc2 _ _ _ _ _ j2;rw[List.append_nil] at this;rcases Qmu (e':=e) (s:=⟨5,[],-1,0⟩) (q:=[]) ⟨rfl,rfl,.inl rfl⟩ (.inl rfl) Jt f2 acc2 acc2 _ _ _ _ (hL ts2) (fun _ hx=>by have:=(o2 _ hx).2;simp at this) hlb rfl this with h|⟨f3,acc3,h,h'⟩
   ·exact .inl h
   ·rw[h];cases f3 with
    |zero=>exact .inl rfl
    |succ f3=>exact .inr ⟨acc3,rfl,h'⟩
  unfold Hr at hne ⊢;rcases A with A|⟨f2,acc2,A,hA⟩
  ·rw[A] at hne;exact absurd rfl hne
  ·rw[A] at hne ⊢;rcases B f2 acc2 with B|⟨acc3,B,hB⟩
   ·rw[B] at hne;exact absurd rfl hne
   ·rw[B];have hx:erL acc3=erL (xs1++xs2):=by rw[←hB,Ku,Ku,hA]
    obtain⟨z1,z2,z3⟩:=Qgv hx;have hend:Qjx e false (.ok (.mk 1 [] 0 0 acc3,[]))=if 1+(Zk xs1+Zk xs2)≤16384 then .ok (.mk 1 [] 0 0 acc3) else .error (0,6):=by
     unfold Qjx;dsimp only;rw[if_pos (show Qbf false []=[] from rfl)];have hf:Ed (.mk 1 [] 0 0 acc3)=true:=by
      unfold Ed;rw[z3,Qs0,k3,j3];simp[mostN]
     have hd:Zm (.mk 1 [] 0 0 acc3)≤64:=by
      unfold Zm;rw[z2,Qpn];omega
     have hs:Xc (.mk 1 [] 0 0 acc3)=1+(Zk xs1+Zk xs2):=by
      unfold Xc;rw[z1,Aw]
     rw[hs];simp only[hf,hd,true_and,and_true]
    show (∃ x,some (Qjx e false (.ok (.mk 1 [] 0 0 acc3,[])))=some (.ok x)∧_)∨(∃ p,some (Qjx e false (.ok (.mk 1 [] 0 0 acc3,[])))=some (.error (p,6))∧_)
    rw[hend];by_cases hc:1+(Zk xs1+Zk xs2)≤16384
    ·rw[if_pos hc];exact .inl ⟨_,rfl,by simp only[erT,hx];rfl⟩
    ·rw[if_neg hc];exact .inr ⟨0,rfl,.inr Dw⟩
 ·rw[Nat.zero_add] at f2;rw[f2] at htok;right;refine⟨p,?_,.inl ?_⟩
  ·unfold Jd Nu;rw[htok];rfl
  ·by_cases hc:ts1.length+ts2.length≤16384
   ·have:=Qm2 _ _ _ _ _ f1 ts1.length (by simp;omega);rw[Nat.zero_add,f2] at this;cases this
   ·omega
end Prs
end
section
open Go.RowKit
namespace Prs
theorem Qdr {l:List UInt8}{p:Nat}{c:Int}(h:Jd l=some (.error (p,c))):c≠0:=by
 unfold Jd Nu at h;cases ht:Xk l with
 |error e=>
  rw[ht] at h;cases h;exact Qbd _ _ _ ht
 |ok ts=>
  rw[ht] at h;dsimp only at h;obtain⟨y,-,hy⟩:=Option.map_eq_some_iff.1 h;cases y with
  |error q=>cases hy;decide
  |ok y=>
   obtain⟨t,m⟩:=y;unfold Qjx at hy;dsimp only at hy;split at hy
   ·split at hy
    ·cases hy
    ·cases hy;decide
   ·cases hy;decide
theorem Qfq {w w1:World}{r:Except (Nat×Int) Tr}{v0 v1 v2 v3 v4:Value}{a c:Int}(hB:Below w.heap.size w w1)
  (hR:∀ W0 w2,(∀ k,w.heap.size≤k→k<w1.heap.size→w2.heap[k]? = w1.heap[k]?)→W0.heap.size≤w.heap.size→Below W0.heap.size W0 w2→Vo W0 r (.returned (.tuple #[.agg #[v0,v1,v2,v3,v4],.int .i64 a,.int .i64 c])) w2):
  (∃ p,r=.error (p,c))∨(∃ x,r=.ok x∧c=0∧Zt (fun _=>True) w1 x (.agg #[v0,v1,v2,v3,v4])):=by
 have h:=hR w w1 (fun _ _ _=>rfl) (Nat.le_refl _) hB;cases r with
 |error pc=>
  obtain⟨p,c0⟩:=pc;obtain⟨-,-,hcc⟩:=tup3 h.1;have hcc:c=c0:=(Value.int.inj hcc).2;subst hcc;exact .inl ⟨p,rfl⟩
 |ok x=>
  obtain⟨y0,y1,y2,y3,y4,he,-,hV,-⟩:=h.Qr9;obtain⟨hag,-,hc0⟩:=tup3 he;have hc0:c=0:=(Value.int.inj hc0).2;rw[←hag] at hV;exact .inr ⟨x,rfl,hc0,hV⟩
theorem wI (n:Int)(h0:0≤n)(h:n≤9223372036854775807):IntKind.i64.wrap n=n:=(IntKind.wrap_i64 n).trans Dw
theorem Qn0 {o:Oper}{a:Act}{w W1:World}{K:Act→World→Prop}{Q:Exit→Act→World→Prop}(s x:Operand)(ho:o.op=.call { callee:=.builtin .append,args := #[s,x],argTypes := #[24,24] })
  {b:Nat} {v v':Value} {l l':List Tr} (hs:a.eval s=v) (hx:a.eval x=v') (hk:Kids b (b ≤ ·) W1 v l) (hw:Below W1.heap.size W1 w) (hk':Kids W1.heap.size (W1.heap.size ≤ ·) w v' l') (hb:b≤W1.heap.size) (hn:l.length+l'.length≤1000000)
  (h:∀ r w',Kids b (b ≤ ·) w' r (l++l')→(∀ k,k<b→w'.heap[k]? = w.heap[k]?)→Below b w w'→K (a.put o.dst r) w'):o.wp Tryz.prog a w K Q:=by
 have hk2:=hk.below hw;have hlt:∀ k,v.ownBlock=some k→b≤k∧k<W1.heap.size:=fun k hv=>by
  obtain⟨cs,h1,-⟩:=hk;exact h1.lt k hv
 obtain⟨cs',hown',hcs'⟩:=hk';rcases hown'.2 with ⟨rfl,h0⟩|⟨g,cap,cur,rfl,hbg,hg,-⟩
 ·have:l'=[]:=List.length_eq_zero_iff.1 h0;subst this;have H:=h v w (by rw[List.append_nil];exact hk2) (fun _ _=>rfl) (Below.refl _ _);obtain⟨cs,hown,-⟩:=hk2;have hr:(Builtin.append_ #[24,24] o.type #[v,.slice none 0 0]).run Tryz.prog w=.ok v w:=by
   rcases hown.2 with ⟨rfl,-⟩|⟨g,cap,cur,rfl,-,hg,hnc,hcm,-⟩
   ·go_simp
   ·go_simp
  unfold Oper.wp execOp;simp only[ho,resolve,invoke,builtin,Sem.run_bind,Sem.run_pure,Result.andThen_ok,List.map_toArray,List.map_cons,List.map_nil,hs,hx,hr];exact H
 ·refine Qmb s x ho hs hk2 (l':=l') (cs':=cs') (ad:=⟨g,0,none⟩) (c:=cap) hx (hcs'.frame (fun k hk _=>⟨Nat.le_trans hb hk.1,fun e=>by have:=(hlt k e.symm).2;have h9:W1.heap.size≤k:=hk.1;omega⟩) fun _ _ _=>rfl) (hown'.cells rfl) hn (Nat.le_trans hb hw.size) fun r w' h1 h2 h3=>?_
  have hrow:∀ k,k<b→w'.heap[k]? = w.heap[k]? := fun k hk=>h2.block k (by have:=hw.size;omega) fun e=>by have:=(hlt k e.symm).1;omega
  exact h r w' h1 hrow ⟨h2.os,h2.tape,h2.output,h2.size,hrow⟩
set_option maxRecDepth 100000 in
set_option maxHeartbeats 8000000 in
theorem Qn1 (s t:ByteArray)(hs:s.size≤maxLen)(ht:t.size≤maxLen)(w:World){f:Where}(hf:Rz w f):
  Calls Tryz.prog 7 #[.string s,.string t] w fun e w'=>e=.returned (.bool true)∧Below w.heap.size w w':=by
 obtain⟨r,hr,hc⟩:=Ny s w hf hs;have HC:=Dh hc;have HR:=Dh hr;have HF:=Dh hf;have HA:=Dh fun w1 h1=>Qj8 w1 (f:=f) h1
 have HT:=Dh fun w1=>Eo s w1 hs
 have HT2:=Dh fun w1=>Eo t w1 ht
 have HP:=Dh fun w1 h1=>Ny t w1 (f:=f) h1 ht
 clear hc hf hr;unfold maxLen at hs ht;have hs:=Dh hs;have ht:=Dh ht;go_enter Tryz.func7,Tryz.ntmps7
 go_wp2_with (first|(go_at_call 18;refine HC.out.mono ?_;intro e w1 hp;obtain⟨u0,u1,u2,u3,u4,a,c,rfl,hone,hB,hR⟩:=hp.row;clear hp HC;have hone:=Dh hone;have hB:=Dh hB;have hR:=Dh (Qfq hB.out hR))|((with_reducible refine Tv rfl _ _ rfl rfl (v0:=u0) (v1:=u1) (v2:=u2) (v3:=u3) (v4:=u4) ?hx ?hy hone.out ?_);(case hx=>rfl);(case hy=>rfl);intro W1 hrw hB1;have HRa:=Dh (show Qp3 w1.heap.size u0 u1 u2 u3 u4 W1 from hrw);clear hrw;have hB1:=Dh hB1))
 have hW1:=Dh (Qb hB.out hB1.out);obtain⟨r2,hr2,hc2⟩:=HP.out W1 (HF.out.below hW1.out);have HC2:=Dh hc2;have HR2:=Dh hr2;clear hc2 hr2 HP;go_wp2_with (first|(go_at_call 18;refine HC2.out.mono ?_;intro e w2 hp;obtain⟨v0,v1,v2,v3,v4,a2,c2,rfl,hone2,hB2,hR2⟩:=hp.row;clear hp;have hone2:=Dh hone2;have hB2:=Dh hB2;have hR2:=Dh (Qfq hB2.out hR2))|((with_reducible refine Tv rfl _ _ rfl rfl (v0:=v0) (v1:=v1) (v2:=v2) (v3:=v3) (v4:=v4) ?hx ?hy hone2.out ?_);(case hx=>rfl);(case hy=>rfl);intro W2 hrw hB3;have HRb:=Dh (show Qp3 w2.heap.size v0 v1 v2 v3 v4 W2 from hrw);clear hrw;have hB3:=Dh hB3))
 have hW2:=Dh (Qb (Qb hW1.out hB2.out) hB3.out);refine(HA.out _ (HF.out.below hW2.out)).mono ?_;rintro e w3 ⟨rfl,hw3⟩;have hW3:=Dh (Qb hW2.out hw3);rcases hR.out with ⟨p,rfl⟩|⟨xa,rfl,rfl,hVa⟩
 ·have hc0:=Qdr HR.out;go_wp2_with fail
  refine(HA.out _ (HF.out.below hW3.out)).mono ?_;rintro e w4 ⟨rfl,hw4⟩;go_wp2
  go_ret;exact⟨rfl,Qb hW3.out hw4⟩
 rcases hR2.out with ⟨p,rfl⟩|⟨xb,rfl,rfl,hVb⟩
 ·have hc0:=Qdr HR2.out;go_wp2_with fail
  refine(HA.out _ (HF.out.below hW3.out)).mono ?_;rintro e w4 ⟨rfl,hw4⟩;go_wp2
  go_ret;exact⟨rfl,Qb hW3.out hw4⟩
 obtain⟨ts1,xs1,ht1,-,hxa,-,hz1,-⟩:=Yy HR.out;obtain⟨ts2,xs2,ht2,-,hxb,-,hz2,-⟩:=Yy HR2.out;have hl1:s.size≤65536:=(Y2 _ _ ht1).2.2;have hl2:t.size≤65536:=(Y2 _ _ ht2).2.2;have hws:wrap64 ((s.size:Int)+(t.size:Int))=(s.size:Int)+(t.size:Int):=w64 _ Dw Dw;have hl1:=Dh hl1;have hl2:=Dh hl2;have hxa:=Dh hxa;have hxb:=Dh hxb;have hz1:=Dh hz1;have hz2:=Dh hz2;have ht1:=Dh ht1;have ht2:=Dh ht2;have hVa:=Dh ((((hVa.below hB1.out).below hB2.out).below hB3.out).below hw3);have hVb:=Dh ((hVb.below hB3.out).below hw3);have HRa:=Dh ((((HRa.out.after hB2.out).after hB3.out)).after hw3);have HRb:=Dh (HRb.out.after hw3);clear hR hR2 HC2 hB hB1 hB2 hB3 hone hone2 hw3;by_cases hlen:65536≤s.size+t.size
 ·have hq:decide ((65536:Int)≤(s.size:Int)+(t.size:Int))=true:=decide_eq_true Dw;have hlen:=Dh hlen;go_wp2_with fail
  refine(HA.out _ (HF.out.below hW3.out)).mono ?_;rintro e w4 ⟨rfl,hw4⟩;go_wp2
  go_ret;exact⟨rfl,Qb hW3.out hw4⟩
 have hq:decide ((65536:Int)≤(s.size:Int)+(t.size:Int))=false:=decide_eq_false Dw;have hlen:=Dh hlen;have hd1:(s++⟨#[10]⟩++t:ByteArray).data.toList=s.data.toList++10::t.data.toList:=by simp
 obtain⟨r3,hr3,hc3⟩:=Ny (s++⟨#[10]⟩++t) w3 (HF.out.below hW3.out) (by rw[ByteArray.size_append,ByteArray.size_append];show s.size+1+t.size≤_;have:=hl1.out;have:=hl2.out;unfold maxLen;omega);rw[hd1] at hr3;have hk1:=hl1.out;have hk2:=hl2.out;have HS:=Dh (fun (W:World)=>Qkx 16384 xa (fun _=>True) W (.agg #[u0,u1,u2,u3,u4]) (by rw[hxa.out];simp only[Xc];exact hz1.out) Dw);have HS2:=Dh (fun (W:World)=>Qkx 16384 xb (fun _=>True) W (.agg #[v0,v1,v2,v3,v4]) (by rw[hxb.out];simp only[Xc];exact hz2.out) Dw);rcases Qsq HR.out HR2.out ht1.out ht2.out (show s.data.toList.length+t.data.toList.length<65536 by have:=hlen.out;show s.size+t.size<65536;omega) with ⟨x,hx,hex⟩|⟨p,hx,hex⟩
 ·rw[hx] at hr3;cases hr3;have HC3:=Dh hc3;have hex:=Dh hex;have hsx:Xc x≤16384:=by
   obtain⟨_,xs3,-,-,hx3,-,hz3,-⟩:=Yy hx;rw[hx3];simp only[Xc];exact hz3
  have hsx:=Dh hsx;clear hc3 hx hd1;go_wp2_with (first|(go_at_call 18;refine HC3.out.mono ?_;intro e w4 hp;obtain⟨x0,x1,x2,x3,x4,rfl,hone3,hVx,hB4⟩:=hp.Qr9;clear hp HC3;have hone3:=Dh hone3;have hVx:=Dh hVx;have hB4:=Dh hB4)|((with_reducible refine Tv rfl _ _ rfl rfl (v0:=x0) (v1:=x1) (v2:=x2) (v3:=x3) (v4:=x4) ?hx ?hy hone3.out ?_);(case hx=>rfl);(case hy=>rfl);intro W4 hrw hB5;have HRx:=Dh (show Qp3 w4.heap.size x0 x1 x2 x3 x4 W4 from hrw);clear hrw;have hB5:=Dh hB5))
  have hW4:=Dh (Qb (Qb hW3.out hB4.out) hB5.out);have HRa:=Dh ((HRa.out.after hB4.out).after hB5.out);have HRb:=Dh ((HRb.out.after hB4.out).after hB5.out);have hVa:=Dh ((hVa.out.below hB4.out).below hB5.out);have hVb:=Dh ((hVb.out.below hB4.out).below hB5.out);have hVx:=Dh (hVx.out.below hB5.out);refine wp_region_held_drew (S:=fun w'=>w'.rangeAt w4.heap.size 0 [x0,x1,x2,x3,x4]∧w'.rangeAt w1.heap.size 0 [u0,u1,u2,u3,u4]∧w'.rangeAt w2.heap.size 0 [v0,v1,v2,v3,v4]) Dk ⟨HRx.out.range,HRa.out.range,HRb.out.range⟩ (fun hHeld=>?_);have hla:=Dh (show w1.heap.size<W4.drew.heap.size from (Array.getElem?_eq_some_iff.1 HRa.out).1);have hlb:=Dh (show w2.heap.size<W4.drew.heap.size from (Array.getElem?_eq_some_iff.1 HRb.out).1);have hlx:=Dh (show w4.heap.size<W4.drew.heap.size from (Array.getElem?_eq_some_iff.1 HRx.out).1);have hVa:=Dh (hVa.out.below (Below.refl W4.heap.size W4).drew);have hVb:=Dh (hVb.out.below (Below.refl W4.heap.size W4).drew);have hVx:=Dh (hVx.out.below (Below.refl W4.heap.size W4).drew);have hB0:=Dh (Qb hW4.out (Below.refl W4.heap.size W4).drew);generalize W4.drew=W0 at *;refine Ej 0 93 rfl rfl Dk Dk Dk (fun _ _ _ _ h=>h) Dk Da 26 _ rfl w4.heap.size 0 rfl [x0,x1,x2,x3,x4] _ (fun w hSw=>hSw.1) Tryz.underlying26 rfl (Xa _ rfl) ?_;try simp only[Act.put,Y9a,Y9b,Y9c]
  refine Ej 1 94 rfl rfl Dk Dk Dk (fun _ _ _ _ h=>h) Dk Da 26 _ rfl w1.heap.size 0 rfl [u0,u1,u2,u3,u4] _ (fun w hSw=>hSw.2.1) Tryz.underlying26 rfl (Xa _ rfl) ?_;try simp only[Act.put,Y9a,Y9b,Y9c]
  refine Ej 4 97 rfl rfl Dk Dk Dk (fun _ _ _ _ h=>h) Dk Da 26 _ rfl w2.heap.size 0 rfl [v0,v1,v2,v3,v4] _ (fun w hSw=>hSw.2.2) Tryz.underlying26 rfl (Xa _ rfl) ?_;try simp only[Act.put,Y9a,Y9b,Y9c]
  refine Qak 2 95 rfl rfl Dk Dk (fun K hK=>?_);go_simp;refine(own_c 16384 xa (fun _=>True) W0 (.agg #[u0,u1,u2,u3,u4]) (by rw[hxa.out];simp only[Xc];exact hz1.out) Dw hVa.out).mono ?_;rintro e Wa ⟨v',rfl,⟨kda,xa',nna,pla,kidsa,vva,hkda,rfl,hOa⟩,hBa⟩;dsimp only;have hOa:=Dh hOa;have hkda:=Dh hkda;refine hK.out _ _ ⟨Xn hHeld.1 hBa,Xn hHeld.2.1 hBa,Xn hHeld.2.2 hBa⟩ (fun hHeld2=>?_);clear hHeld hK K;have hHeld:=hHeld2;clear hHeld2;have hBa:=Dh hBa;try simp only[Act.put,Y9a,Y9b,Y9c]
  refine Zg 3 96 (v:=vva) rfl rfl Dk Dk Dk (fun _ _ _ h=>h) Dk Da ?_ ?_
  ·(intro w hSw;(try dsimp only at hSw);go_simp;try first|with_reducible rfl|rfl)
  try simp only[Act.put,Y9a,Y9b,Y9c]
  refine Qak 5 98 rfl rfl Dk Dk (fun K hK=>?_);go_simp;refine(own_c 16384 xb (fun _=>True) Wa (.agg #[v0,v1,v2,v3,v4]) (by rw[hxb.out];simp only[Xc];exact hz2.out) Dw (hVb.out.below hBa.out)).mono ?_;rintro e Wb ⟨v',rfl,⟨kdb,xb',nnb,plb,kidsb,vvb,hkdb,rfl,hOb⟩,hBb⟩;dsimp only;have hOb:=Dh hOb;have hkdb:=Dh hkdb;refine hK.out _ _ ⟨Xn hHeld.1 hBb,Xn hHeld.2.1 hBb,Xn hHeld.2.2 hBb⟩ (fun hHeld2=>?_);clear hHeld hK K;have hHeld:=hHeld2;clear hHeld2;have hBb:=Dh hBb;try simp only[Act.put,Y9a,Y9b,Y9c]
  refine Zg 6 99 (v:=vvb) rfl rfl Dk Dk Dk (fun _ _ _ h=>h) Dk Da ?_ ?_
  ·(intro w hSw;(try dsimp only at hSw);go_simp;try first|with_reducible rfl|rfl)
  try simp only[Act.put,Y9a,Y9b,Y9c]
  refine J7 7 rfl Dk Dk (fun K hK=>?_);have hn:kidsa.length+kidsb.length≤1000000:=by
   have e1:=hxa.out;have e2:=hxb.out;rw[hkda.out,Tr.mk.injEq] at e1;rw[hkdb.out,Tr.mk.injEq] at e2;have h1:=U1 kidsa;have h2:=U1 kidsb;have h3:=hz1.out;have h4:=hz2.out;rw[←e1.2.2.2.2] at h3;rw[←e2.2.2.2.2] at h4;omega
  refine Qn0 (.tmp 96) (.tmp 99) rfl (W1:=Wa) (b:=W0.heap.size) (v:=vva) (v':=vvb) (l:=kidsa) (l':=kidsb) rfl rfl hOa.out hBb.out hOb.out hBa.out.size hn fun r W7 hK7 hrow hB7=>?_
  obtain⟨ar,cr,hr,-⟩:=hK7.slice;generalize (kidsa++kidsb).length=L at hr;subst hr;have hfr:∀ {g o:Nat} {cs:List Value},g<W0.heap.size→Wb.rangeAt g o cs→W7.rangeAt g o cs:=fun hg hr j v hv=>Yi (hrow _ hg) (hr j v hv)
  have hK7:=Dh hK7;have hB8:=Dh ((Qb (Qb hB0.out hBa.out) hBb.out).trans (hB7.mono hB0.out.size));have hVx7:=Dh (hVx.out.frame (S':=fun _=>True) (w':=W7) (fun _ _ _=>trivial) fun k _ hk=>by rw[hrow k hk,hBb.out.block _ (by have:=hBa.out.size;omega),hBa.out.block _ hk]);refine hK.out _ _ ⟨hfr hlx.out hHeld.1,hfr hla.out hHeld.2.1,hfr hlb.out hHeld.2.2⟩ (fun hHeld2=>?_);clear hHeld hK K;have hHeld:=hHeld2;clear hHeld2 hfr hrow hB7 hn;try simp only[Act.put,Y9a,Y9b,Y9c]
  refine Zg 8 101 (v:=.agg #[.int .i64 1,.string ⟨#[]⟩,.int .u64 0,.int .i64 0,.slice ar L cr]) rfl rfl Dk Dk Dk (fun _ _ _ h=>h) Dk Da ?_ ?_
  ·(intro w hSw;(try dsimp only at hSw);go_simp;try first|with_reducible rfl|rfl)
  try simp only[Act.put,Y9a,Y9b,Y9c]
  refine Qak 9 102 rfl rfl Dk Dk (fun K hK=>?_);go_simp;have hN7:Zt (fun _=>True) W7 (.mk 1 [] 0 0 (kidsa++kidsb)) (.agg #[.int .i64 1,.string ⟨#[]⟩,.int .u64 0,.int .i64 0,.slice ar L cr]):=Zt.any ⟨_,rfl,hK7.out.node 1 [] 0 0⟩;refine(Qrl 16384 x (.mk 1 [] 0 0 (kidsa++kidsb)) (fun _=>True) W7 (.agg #[x0,x1,x2,x3,x4]) (.agg #[.int .i64 1,.string ⟨#[]⟩,.int .u64 0,.int .i64 0,.slice ar L cr]) hsx.out Dw hVx7.out hN7).mono ?_;rintro e W8 ⟨rfl,hB9⟩;dsimp only;rw[Qgy (x:=x) (y:=.mk 1 [] 0 0 (kidsa++kidsb)) (by rw[hex.out,hkda.out,hkdb.out];rfl)];refine hK.out _ _ ⟨Xn hHeld.1 hB9,Xn hHeld.2.1 hB9,Xn hHeld.2.2 hB9⟩ (fun hHeld2=>?_);have hB10:=Dh (Qb hB8.out hB9);clear hK K hB9 hHeld;try simp only[Act.put,Y9a,Y9b,Y9c]
  refine Zg 10 4 (v:=.bool true) rfl rfl Dk Dk Dk (fun _ _ _ h=>h) Dk Da ?_ ?_
  ·(intro w hSw;(try dsimp only at hSw);go_simp;try first|with_reducible rfl|rfl)
  try simp only[Act.put,Y9a,Y9b,Y9c]
  refine⟨by kernel_rfl,?_⟩;go_wp2
  go_ret;exact⟨rfl,hB10.out⟩
 ·rw[hx] at hr3;cases hr3;have HC3:=Dh hc3;have hex:=Dh hex;clear hc3 hx hd1;go_wp2_with (first|(go_at_call 18;refine HC3.out.mono ?_;rintro e w4 ⟨rfl,hB4⟩;clear HC3;have hB4:=Dh hB4)|((with_reducible refine Tv rfl _ _ rfl rfl (v0:=.int .i64 0) (v1:=.string ⟨#[]⟩) (v2:=.int .u64 0) (v3:=.int .i64 0) (v4:=.slice none 0 0) ?hx ?hy (by simp[Value.oneCell']) ?_);(case hx=>rfl);(case hy=>rfl);intro W4 hrw hB5;clear hrw;have hB5:=Dh hB5))
  have hW4:=Dh (Qb (Qb hW3.out hB4.out) hB5.out);have HRa:=Dh ((HRa.out.after hB4.out).after hB5.out);have HRb:=Dh ((HRb.out.after hB4.out).after hB5.out);have hVa:=Dh ((hVa.out.below hB4.out).below hB5.out);have hVb:=Dh ((hVb.out.below hB4.out).below hB5.out);clear hB4 hB5;refine(HT.out _).mono ?_;rintro e w5 ⟨⟨tv,ti,tc,rfl,htv⟩,hw5⟩;rw[show Xk (bl s)=.ok ts1 from ht1.out] at htv;obtain⟨rfl,rfl,hown⟩:=htv;have hlen5:=Dh (Tq hown);have hW5:=Dh (Qb hW4.out hw5);have HRa:=Dh (HRa.out.after hw5);have HRb:=Dh (HRb.out.after hw5);have hVa:=Dh (hVa.out.below hw5);have hVb:=Dh (hVb.out.below hw5);clear hw5 hown;go_wp2_with fail
  refine(HT2.out _).mono ?_;rintro e w6 ⟨⟨tv2,ti2,tc2,rfl,htv⟩,hw6⟩;rw[show Xk (bl t)=.ok ts2 from ht2.out] at htv;obtain⟨rfl,rfl,hown⟩:=htv;have hlen6:=Dh (Tq hown);have hW6:=Dh (Qb hW5.out hw6);have HRa:=Dh (HRa.out.after hw6);have HRb:=Dh (HRb.out.after hw6);have hVa:=Dh (hVa.out.below hw6);have hVb:=Dh (hVb.out.below hw6);clear hw6 hown;go_wp2
  have hc1:=(D8 _ _ ht1.out).2;have hc2:=(D8 _ _ ht2.out).2;have hwt:IntKind.i64.wrap ((ts1.length:Int)+(ts2.length:Int))=(ts1.length:Int)+(ts2.length:Int):=wI _ Dw Dw;have hc1:=Dh hc1;have hc2:=Dh hc2;have hex:=Dh hex;by_cases htk:16384<ts1.length+ts2.length
  ·have hq3:decide ((16384:Int)<(ts1.length:Int)+(ts2.length:Int))=true:=decide_eq_true Dw;have htk:=Dh htk;refine wp_region_held_drew (S:=fun w'=>w'.rangeAt w1.heap.size 0 [u0,u1,u2,u3,u4]∧w'.rangeAt w2.heap.size 0 [v0,v1,v2,v3,v4]) Dk ⟨HRa.out.range,HRb.out.range⟩ (fun hHeld=>?_);have hVa:=Dh (hVa.out.below (Below.refl w6.heap.size w6).drew);have hVb:=Dh (hVb.out.below (Below.refl w6.heap.size w6).drew);have hB0:=Dh (Qb hW6.out (Below.refl w6.heap.size w6).drew);generalize w6.drew=W0 at *;refine Zg 0 74 (v:=.int .i64 6) rfl rfl Dk Dk Dk (fun _ _ _ h=>h) Dk Da ?_ ?_
   ·(intro w hSw;(try dsimp only at hSw);go_simp;try first|with_reducible rfl|rfl)
   try simp only[Act.put,Y9a,Y9b,Y9c]
   refine Zg 1 75 (v:=.bool true) rfl rfl Dk Dk Dk (fun _ _ _ h=>h) Dk Da ?_ ?_
   ·(intro w hSw;(try dsimp only at hSw);go_simp;try first|with_reducible rfl|rfl)
   try simp only[Act.put,Y9a,Y9b,Y9c]
   refine Zg 2 76 (v:=.bool true) rfl rfl Dk Dk Dk (fun _ _ _ h=>h) Dk Da ?_ ?_
   ·(intro w hSw;(try dsimp only at hSw);go_simp;try first|with_reducible rfl|rfl)
   try simp only[Act.put,Y9a,Y9b,Y9c]
   refine Zg 3 77 (v:=tv) rfl rfl Dk Dk Dk (fun _ _ _ h=>h) Dk Da ?_ ?_
   ·(intro w hSw;(try dsimp only at hSw);go_simp;try first|with_reducible rfl|rfl)
   try simp only[Act.put,Y9a,Y9b,Y9c]
   refine Zg 4 78 (v:=.int .i64 (ts1.length:Int)) rfl rfl Dk Dk Dk (fun _ _ _ h=>h) Dk Da ?_ ?_
   ·(intro w hSw;(try dsimp only at hSw);have hl5:=hlen5.out;go_simp;try first|with_reducible rfl|rfl)
   try simp only[Act.put,Y9a,Y9b,Y9c]
   refine Zg 5 79 (v:=tv2) rfl rfl Dk Dk Dk (fun _ _ _ h=>h) Dk Da ?_ ?_
   ·(intro w hSw;(try dsimp only at hSw);go_simp;try first|with_reducible rfl|rfl)
   try simp only[Act.put,Y9a,Y9b,Y9c]
   refine Zg 6 80 (v:=.int .i64 (ts2.length:Int)) rfl rfl Dk Dk Dk (fun _ _ _ h=>h) Dk Da ?_ ?_
   ·(intro w hSw;(try dsimp only at hSw);have hl6:=hlen6.out;go_simp;try first|with_reducible rfl|rfl)
   try simp only[Act.put,Y9a,Y9b,Y9c]
   refine Zg 7 81 (v:=.int .i64 ((ts1.length:Int)+(ts2.length:Int))) rfl rfl Dk Dk Dk (fun _ _ _ h=>h) Dk Da ?_ ?_
   ·(intro w hSw;(try dsimp only at hSw);go_simp;try first|with_reducible rfl|rfl)
   try simp only[Act.put,Y9a,Y9b,Y9c]
   refine Zg 8 82 (v:=.bool true) rfl rfl Dk Dk Dk (fun _ _ _ h=>h) Dk Da ?_ ?_
   ·(intro w hSw;(try dsimp only at hSw);go_simp;try first|with_reducible rfl|rfl)
   try simp only[Act.put,Y9a,Y9b,Y9c]
   refine Zg 9 83 (v:=.bool true) rfl rfl Dk Dk Dk (fun _ _ _ h=>h) Dk Da ?_ ?_
   ·(intro w hSw;(try dsimp only at hSw);go_simp;try first|with_reducible rfl|rfl)
   try simp only[Act.put,Y9a,Y9b,Y9c]
   refine h_no 10 84 rfl rfl Dk Dk Dk (fun _ _ _ h=>h) Dk Da ?_;try simp only[Act.put,Y9a,Y9b,Y9c]
   refine h_no 11 85 rfl rfl Dk Dk Dk (fun _ _ _ h=>h) Dk Da ?_;try simp only[Act.put,Y9a,Y9b,Y9c]
   refine h_no 12 86 rfl rfl Dk Dk Dk (fun _ _ _ h=>h) Dk Da ?_;try simp only[Act.put,Y9a,Y9b,Y9c]
   refine h_no 13 87 rfl rfl Dk Dk Dk (fun _ _ _ h=>h) Dk Da ?_;try simp only[Act.put,Y9a,Y9b,Y9c]
   refine h_no 14 88 rfl rfl Dk Dk Dk (fun _ _ _ h=>h) Dk Da ?_;try simp only[Act.put,Y9a,Y9b,Y9c]
   refine h_no 15 89 rfl rfl Dk Dk Dk (fun _ _ _ h=>h) Dk Da ?_;try simp only[Act.put,Y9a,Y9b,Y9c]
   refine h_no 16 90 rfl rfl Dk Dk Dk (fun _ _ _ h=>h) Dk Da ?_;try simp only[Act.put,Y9a,Y9b,Y9c]
   refine Zg 17 91 (v:=.bool true) rfl rfl Dk Dk Dk (fun _ _ _ h=>h) Dk Da ?_ ?_
   ·(intro w hSw;(try dsimp only at hSw);go_simp;try first|with_reducible rfl|rfl)
   try simp only[Act.put,Y9a,Y9b,Y9c]
   refine Zg 18 92 (v:=.bool true) rfl rfl Dk Dk Dk (fun _ _ _ h=>h) Dk Da ?_ ?_
   ·(intro w hSw;(try dsimp only at hSw);go_simp;try first|with_reducible rfl|rfl)
   try simp only[Act.put,Y9a,Y9b,Y9c]
   refine Zg 19 4 (v:=.bool true) rfl rfl Dk Dk Dk (fun _ _ _ h=>h) Dk Da ?_ ?_
   ·(intro w hSw;(try dsimp only at hSw);go_simp;try first|with_reducible rfl|rfl)
   try simp only[Act.put,Y9a,Y9b,Y9c]
   refine⟨by kernel_rfl,?_⟩;go_wp2
   go_ret;exact⟨rfl,hB0.out⟩
  ·have hq3:decide ((16384:Int)<(ts1.length:Int)+(ts2.length:Int))=false:=decide_eq_false Dw;have h16:=hex.out.resolve_left htk;have htk:=Dh htk;have hs1:Xc xa≤16384:=by rw[hxa.out];simp only[Xc];exact hz1.out
   have hs2:Xc xb≤16384:=by rw[hxb.out];simp only[Xc];exact hz2.out
   have hp1:=Zn xa;have HS:=HS.out;have HS2:=HS2.out;generalize Xc xa=n1 at HS hs1 hp1 h16;generalize Xc xb=n2 at HS2 hs2 h16;have HS:=Dh HS;have HS2:=Dh HS2;have hw1:IntKind.i64.wrap ((n1:Int)+(n2:Int))=(n1:Int)+(n2:Int):=wI _ Dw Dw;have hw2:IntKind.i64.wrap ((n1:Int)+(n2:Int)-1)=(n1:Int)+(n2:Int)-1:=wI _ Dw Dw;have hq4:(16384:Int)<(n1:Int)+(n2:Int)-1:=by omega
   have hs1:=Dh hs1;have hs2:=Dh hs2;have hp1:=Dh hp1;have h16:=Dh h16;refine wp_region_held_drew (S:=fun w'=>w'.rangeAt w1.heap.size 0 [u0,u1,u2,u3,u4]∧w'.rangeAt w2.heap.size 0 [v0,v1,v2,v3,v4]) Dk ⟨HRa.out.range,HRb.out.range⟩ (fun hHeld=>?_);have hVa:=Dh (hVa.out.below (Below.refl w6.heap.size w6).drew);have hVb:=Dh (hVb.out.below (Below.refl w6.heap.size w6).drew);have hB0:=Dh (Qb hW6.out (Below.refl w6.heap.size w6).drew);generalize w6.drew=W0 at *;refine Zg 0 74 (v:=.int .i64 6) rfl rfl Dk Dk Dk (fun _ _ _ h=>h) Dk Da ?_ ?_
   ·(intro w hSw;(try dsimp only at hSw);go_simp;try first|with_reducible rfl|rfl)
   try simp only[Act.put,Y9a,Y9b,Y9c]
   refine Zg 1 75 (v:=.bool true) rfl rfl Dk Dk Dk (fun _ _ _ h=>h) Dk Da ?_ ?_
   ·(intro w hSw;(try dsimp only at hSw);go_simp;try first|with_reducible rfl|rfl)
   try simp only[Act.put,Y9a,Y9b,Y9c]
   refine Zg 2 76 (v:=.bool true) rfl rfl Dk Dk Dk (fun _ _ _ h=>h) Dk Da ?_ ?_
   ·(intro w hSw;(try dsimp only at hSw);go_simp;try first|with_reducible rfl|rfl)
   try simp only[Act.put,Y9a,Y9b,Y9c]
   refine Zg 3 77 (v:=tv) rfl rfl Dk Dk Dk (fun _ _ _ h=>h) Dk Da ?_ ?_
   ·(intro w hSw;(try dsimp only at hSw);go_simp;try first|with_reducible rfl|rfl)
   try simp only[Act.put,Y9a,Y9b,Y9c]
   refine Zg 4 78 (v:=.int .i64 (ts1.length:Int)) rfl rfl Dk Dk Dk (fun _ _ _ h=>h) Dk Da ?_ ?_
   ·(intro w hSw;(try dsimp only at hSw);have hl5:=hlen5.out;go_simp;try first|with_reducible rfl|rfl)
   try simp only[Act.put,Y9a,Y9b,Y9c]
   refine Zg 5 79 (v:=tv2) rfl rfl Dk Dk Dk (fun _ _ _ h=>h) Dk Da ?_ ?_
   ·(intro w hSw;(try dsimp only at hSw);go_simp;try first|with_reducible rfl|rfl)
   try simp only[Act.put,Y9a,Y9b,Y9c]
   refine Zg 6 80 (v:=.int .i64 (ts2.length:Int)) rfl rfl Dk Dk Dk (fun _ _ _ h=>h) Dk Da ?_ ?_
   ·(intro w hSw;(try dsimp only at hSw);have hl6:=hlen6.out;go_simp;try first|with_reducible rfl|rfl)
   try simp only[Act.put,Y9a,Y9b,Y9c]
   refine Zg 7 81 (v:=.int .i64 ((ts1.length:Int)+(ts2.length:Int))) rfl rfl Dk Dk Dk (fun _ _ _ h=>h) Dk Da ?_ ?_
   ·(intro w hSw;(try dsimp only at hSw);go_simp;try first|with_reducible rfl|rfl)
   try simp only[Act.put,Y9a,Y9b,Y9c]
   refine Zg 8 82 (v:=.bool false) rfl rfl Dk Dk Dk (fun _ _ _ h=>h) Dk Da ?_ ?_
   ·(intro w hSw;(try dsimp only at hSw);go_simp;try first|with_reducible rfl|rfl)
   try simp only[Act.put,Y9a,Y9b,Y9c]
   refine Zg 9 83 (v:=.bool false) rfl rfl Dk Dk Dk (fun _ _ _ h=>h) Dk Da ?_ ?_
   ·(intro w hSw;(try dsimp only at hSw);go_simp;try first|with_reducible rfl|rfl)
   try simp only[Act.put,Y9a,Y9b,Y9c]
   refine Ej 10 84 rfl rfl Dk Dk Dk (fun _ _ _ _ h=>h) Dk Da 26 _ rfl w1.heap.size 0 rfl [u0,u1,u2,u3,u4] _ (fun w hSw=>hSw.1) Tryz.underlying26 rfl (Xa _ rfl) ?_;try simp only[Act.put,Y9a,Y9b,Y9c]
   refine Ej 12 86 rfl rfl Dk Dk Dk (fun _ _ _ _ h=>h) Dk Da 26 _ rfl w2.heap.size 0 rfl [v0,v1,v2,v3,v4] _ (fun w hSw=>hSw.2) Tryz.underlying26 rfl (Xa _ rfl) ?_;try simp only[Act.put,Y9a,Y9b,Y9c]
   refine Qak 11 85 rfl rfl Dk Dk (fun K hK=>?_);go_simp;refine(HS.out W0 hVa.out).mono ?_;rintro e Wa ⟨rfl,hBa⟩;dsimp only;refine hK.out _ _ ⟨Xn hHeld.1 hBa,Xn hHeld.2 hBa⟩ (fun hHeld2=>?_);have hVb:=Dh (hVb.out.below hBa);have hB1:=Dh (Qb hB0.out hBa);clear hK K hHeld hBa;try simp only[Act.put,Y9a,Y9b,Y9c]
   refine Qak 13 87 rfl rfl Dk Dk (fun K hK=>?_);go_simp;refine(HS2.out Wa hVb.out).mono ?_;rintro e Wb ⟨rfl,hBb⟩;dsimp only;refine hK.out _ _ ⟨Xn hHeld2.1 hBb,Xn hHeld2.2 hBb⟩ (fun hHeld3=>?_);have hB2:=Dh (Qb hB1.out hBb);clear hK K hHeld2 hBb;try simp only[Act.put,Y9a,Y9b,Y9c]
   refine Zg 14 88 (v:=.int .i64 ((n1:Int)+(n2:Int))) rfl rfl Dk Dk Dk (fun _ _ _ h=>h) Dk Da ?_ ?_
   ·(intro w hSw;(try dsimp only at hSw);go_simp;try first|with_reducible rfl|rfl)
   try simp only[Act.put,Y9a,Y9b,Y9c]
   refine Zg 15 89 (v:=.int .i64 ((n1:Int)+(n2:Int)-1)) rfl rfl Dk Dk Dk (fun _ _ _ h=>h) Dk Da ?_ ?_
   ·(intro w hSw;(try dsimp only at hSw);go_simp;try first|with_reducible rfl|rfl)
   try simp only[Act.put,Y9a,Y9b,Y9c]
   refine Zg 16 90 (v:=.bool true) rfl rfl Dk Dk Dk (fun _ _ _ h=>h) Dk Da ?_ ?_
   ·(intro w hSw;(try dsimp only at hSw);go_simp;try first|with_reducible rfl|rfl)
   try simp only[Act.put,Y9a,Y9b,Y9c]
   refine Zg 17 91 (v:=.bool true) rfl rfl Dk Dk Dk (fun _ _ _ h=>h) Dk Da ?_ ?_
   ·(intro w hSw;(try dsimp only at hSw);go_simp;try first|with_reducible rfl|rfl)
   try simp only[Act.put,Y9a,Y9b,Y9c]
   refine Zg 18 92 (v:=.bool true) rfl rfl Dk Dk Dk (fun _ _ _ h=>h) Dk Da ?_ ?_
   ·(intro w hSw;(try dsimp only at hSw);go_simp;try first|with_reducible rfl|rfl)
   try simp only[Act.put,Y9a,Y9b,Y9c]
   refine Zg 19 4 (v:=.bool true) rfl rfl Dk Dk Dk (fun _ _ _ h=>h) Dk Da ?_ ?_
   ·(intro w hSw;(try dsimp only at hSw);go_simp;try first|with_reducible rfl|rfl)
   try simp only[Act.put,Y9a,Y9b,Y9c]
   refine⟨by kernel_rfl,?_⟩;go_wp2
   go_ret;exact⟨rfl,hB2.out⟩
end Prs
theorem walkParseJoins (s t:ByteArray)(hs:s.size≤maxLen)(ht:t.size≤maxLen)(w:World)(h:∃ f,Prs.Rz w f):
  Calls Tryz.prog 7 #[.string s,.string t] w fun e w'=>e=.returned (.bool true)∧Below w.heap.size w w':=by
 obtain⟨f,hf⟩:=h;exact Prs.Qn1 s t hs ht w hf
end
end Go.Proofs.YtcbkeecabcbogaaGreatDoor
