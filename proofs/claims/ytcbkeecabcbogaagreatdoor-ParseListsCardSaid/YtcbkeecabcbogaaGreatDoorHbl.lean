/- An expression's text: its tokens, a semicolon behind them; t -/
import Derived.Test.YtcbkeecabcbogaaGreatDoorHbk
import Derived.Test.YtcbkeecabcbogaaGreatDoorHab
import Derived.Test.YtcbkeecabcbogaaGreatDoorHbi
import Derived.Laws.AppendOwn
import Derived.Maps.AppendAt
import Derived.Great.BuildSlice
import Derived.Test.YtcbkeecabcbogaaGreatDoorHbe
import Derived.Test.YtcbkeecabcbogaaGreatDoorHbh
import Derived.Test.YtcbkeecabcbogaaGreatDoorHbj
set_option maxRecDepth 100000
set_option linter.unusedSimpArgs false
set_option linter.unusedVariables false
namespace Go.Proofs.YtcbkeecabcbogaaGreatDoor
section
namespace Prs
theorem Qo0 (s:Tok):∀ l:List Tok,Lk s [] l l
 | [] => .nil rfl
 |_::l => .cons ⟨rfl,rfl,rfl⟩ (Qo0 s l)
def Qmm:List Tok→List Tok→Prop
 | [],[]=>True
 |t::l,t'::l'=>Like t t'∧Qmm l l'
 |_,_=>False
theorem lk_of {s:Tok}{q:List Tok}:∀ {c c':List Tok},Qmm c c'→Lk s q (c++[s]) (c'++q)
 | [],[],_ => .cut
 | [],_::_,h=>h.elim
 |_::_,[],h=>h.elim
 |_::_,_::_,h => .cons h.1 (lk_of h.2)
theorem Qj0 (k:Nat):∀ l:List Tok,Qmm l (l.map (shT k))
 | []=>trivial
 |_::l=>⟨⟨rfl,rfl,rfl⟩,Qj0 k l⟩
theorem lk_end {s:Tok}{q m:List Tok}(hq:q≠[])(h:Lk s q [s] m):m=q:=by
 cases h with
 |cut=>rfl
 |cons h1 h2=>cases h2 with
  |nil h3=>exact absurd h3 hq
theorem Qg1 {e f n:Nat}{hd:Bool}{ts m:List Tok}{x:Tr}(h:Xc e f n hd ts=some (.ok (x,m))):St1 ts m:=
 ((exts (s:=Zf 0) (q:=[]) (e:=e) (e':=e) ⟨rfl,rfl,.inl rfl⟩ f).expr f n hd ts ts ts (List.suffix_refl _) (.inr (Qo0 _ _)) x m h).2.1 rfl
theorem Qg2 {e e' f f' n:Nat}{hd:Bool}{s:Tok}{q c c':List Tok}{x:Tr}(H:Ends s q)(hq:q≠[])(hc:Qmm c c')(h:Xc e f n hd (c++[s])=some (.ok (x,[s]))):
  Xc e' f' n hd (c'++q)=none∨∃ x',Xc e' f' n hd (c'++q)=some (.ok (x',q))∧erT x=erT x':=by
 obtain⟨-,-,h3⟩:=(exts (e:=e) (e':=e') H f).expr f' n hd (c++[s]) _ _ (List.suffix_refl _) (.inr (lk_of hc)) x [s] h;rcases h3 with (h3|⟨h3,-⟩)|⟨x',m',h1,h2,h3⟩
 ·cases h3
 ·cases h3
 ·have:=lk_end hq h3;subst this;rcases h1 with h1|h1
  ·exact .inl h1
  ·exact .inr ⟨x',h1,h2⟩
theorem Qa1 {l:List UInt8}{ts:List Tok}(h:X9 l=.ok ts):∀ c t,ts=c++[t]→X3 t=false:=(lex_last _ _ _ _ _ (Eg l ts h).1).2
theorem Kw {l:List UInt8}{x:Tr}(h:Qab l=some (.ok x)):∃ c s,X9 l=.ok (c++[s])∧s.kind=5∧X3 s=false∧Xc l.length Qb2 1 false (c++[s])=some (.ok (x,[s]))∧Bj x=true∧Xm x≤16384∧Ze x≤64:=by
 unfold Qab Qcu at h;cases ht:X9 l with
 |error e=>rw[ht] at h;cases h
 |ok ts=>
  rw[ht] at h;dsimp only at h;cases hx:Xc l.length Qb2 1 false ts with
  |none=>rw[hx] at h;cases h
  |some y=>
   rw[hx] at h;cases y with
   |error p=>cases h
   |ok y=>
    obtain⟨t,m⟩:=y;obtain⟨c,u,e1,hu⟩:=Qg1 hx;have h:endP l.length true (.ok (t,m))=.ok x:=Option.some.inj h;unfold endP at h;dsimp only at h;split at h
    ·rename_i hr;split at h
     ·rename_i hf;cases h;cases m with
      |nil=>rw[Qa1 ht c u e1] at hu;cases hu
      |cons s m=>
       unfold Qa9 at hr;rw[Bool.true_and] at hr;cases hs:(Xg (s::m)==5) with
       |false=>rw[hs] at hr;cases hr
       |true=>
        rw[hs] at hr;have hm:m=[]:=hr;subst hm;have e2:ts=(c++[u])++[s]:=by rw[e1];simp
        exact⟨c++[u],s,by rw[e2],beq_iff_eq.1 hs,Qa1 ht _ _ e2,by rw[←e2];exact hx,hf⟩
     ·cases h
    ·cases h
mutual
theorem Qoa:∀ {x y:Tr},erT x=erT y→Qct x y=true
 | .mk _ _ _ _ l,.mk _ _ _ _ l',h=>by
  simp only[erT,Tr.mk.injEq] at h;obtain⟨rfl,rfl,rfl,-,h⟩:=h;unfold Qct;simp[Qjr h]
theorem Qjr:∀ {x y:List Tr},erL x=erL y→J7 x y=true
 | [],[],_=>rfl
 | [],_::_,h=>by simp[erL] at h
 |_::_,[],h=>by simp[erL] at h
 |t::l,t'::l',h=>by
  simp only[erL,List.cons.injEq] at h;unfold J7;rw[Qoa h.1,Qjr h.2];rfl
end
theorem Qpk:∀ {x y:List Tr},erL x=erL y→x.length=y.length
 | [],[],_=>rfl
 | [],_::_,h=>by simp[erL] at h
 |_::_,[],h=>by simp[erL] at h
 |t::l,t'::l',h=>by
  simp only[erL,List.cons.injEq] at h;simp[Qpk h.2]
mutual
theorem Qny:∀ {x y:Tr},erT x=erT y→Xm x=Xm y∧Ze x=Ze y∧Bj x=Bj y
 | .mk _ _ _ _ l,.mk _ _ _ _ l',h=>by
  simp only[erT,Tr.mk.injEq] at h;obtain⟨rfl,rfl,rfl,-,h⟩:=h;obtain⟨h1,h2,h3⟩:=Qjl h;unfold Xm Ze Bj;rw[h1,h2,h3,Qpk h];exact⟨rfl,rfl,rfl⟩
theorem Qjl:∀ {x y:List Tr},erL x=erL y→Vb x=Vb y∧Tn x=Tn y∧Wv x=Wv y
 | [],[],_=>⟨rfl,rfl,rfl⟩
 | [],_::_,h=>by simp[erL] at h
 |_::_,[],h=>by simp[erL] at h
 |t::l,t'::l',h=>by
  simp only[erL,List.cons.injEq] at h;obtain⟨a1,a2,a3⟩:=Qny h.1;obtain⟨b1,b2,b3⟩:=Qjl h.2;unfold Vb Tn Wv;rw[a1,a2,a3,b1,b2,b3];exact⟨rfl,rfl,rfl⟩
end
theorem lex_more (l:List UInt8)(p:Nat)(opn:Bool)(cnt:Nat)(ts:List Tok)(h:lex l p opn cnt=.ok ts):∀ d,cnt+d+ts.length≤16384→lex l p opn (cnt+d)=.ok ts:=by
 refine Qez (fun l p opn cnt ts=>∀ d,cnt+d+ts.length≤16384→lex l p opn (cnt+d)=.ok ts) ?_ ?_ ?_ ?_ ?_ ?_ ?_ l.length l p opn cnt ts (Nat.le_refl _) h
 ·intro p cnt d _;rw[Jf];rfl
 ·intro p cnt hc d hd;rw[Jf,if_pos rfl,if_neg (by simp at hd;omega)]
 ·intro m p cnt ts ih d hd;rw[Kq];exact ih d hd
 ·intro m p cnt ts h16 ih d hd;simp only[List.length_cons] at hd;rw[Kq,if_pos rfl,if_neg Dw,show cnt+d+1=cnt+1+d by omega,ih d Dw];rfl
 ·intro b m p opn cnt ts hb ih d hd;rw[Yv b m p opn _ hb];exact ih d hd
 ·intro l p opn cnt ts hr ih d hd;rw[Y6 l p opn _ hr];exact ih d hd
 ·intro l p opn cnt ts hs he h16 ih d hd;simp only[List.length_cons] at hd;rw[He l p opn _ hs,if_neg (by rw[he];simp),if_neg Dw,show cnt+d+1=cnt+1+d by omega,ih d Dw];rfl
theorem Ht:∀ (l:List UInt8),(∀ b∈l,b.toNat<128)→Wh l
 | [],_=>Qng
 |b::l,h=>by
  have hb:=h b List.mem_cons_self;have hd:=Tq b l hb;unfold Wh;rw[Jv b l (by unfold broken;rw[hd];simp;omega),hd];show 1+Vd l=l.length+1
  rw[Ht l fun c hc=>h c (List.mem_cons_of_mem _ hc)];omega
theorem fit_ok {α:Type}{G:α→Nat→Prop}{r:R α}(h:Fit G r):r≠none:=by
 obtain⟨y,rfl,-⟩:=h;simp
def signs (c:UInt8)(p:Nat):Nat→List Tok
 |0=>[]
 |n+1=>⟨4,[c],0,p⟩::signs c (p+1) n
theorem Qbw:∀ (n p cnt:Nat) (o:Bool),cnt+n+1<16384→lex (List.replicate (n+1) 41) p o cnt=.ok (signs 41 p (n+1)++[Zf (p+(n+1))])
 |0,p,cnt,o,h=>by
  rw[show List.replicate (0+1) (41:UInt8)=41::[] from rfl,Qan 41 _ p o cnt (.inr (.inl rfl)) Dw,show ((41:UInt8)==41)=true from rfl,Jf,if_pos rfl,if_neg Dw];rfl
 |n+1,p,cnt,o,h=>by
  rw[List.replicate_succ,Qan 41 _ p o cnt (.inr (.inl rfl)) Dw,Qbw n (p+1) (cnt+1) _ Dw,show p+1+(n+1)=p+(n+1+1) by omega];rfl
def Ci:List (List UInt8)→List UInt8
 | []=>[]
 | [l]=>l
 |l::l'::ls=>l++44::Ci (l'::ls)
theorem Qhd:∀ (ls:List (List UInt8)) (l:List UInt8),Ci (ls++[l])=Ci ls++((if ls=[] then [] else [44])++l)
 | [],l=>by simp[Ci]
 | [a],l=>by simp[Ci]
 |a::b::ls,l=>by
  have ih:=Qhd (b::ls) l;rw[if_neg Ds] at ih ⊢;show a++44::Ci (b::ls++[l])=_
  rw[ih];simp[Ci]
structure Arg (l:List UInt8)(x:Tr):Prop where
 read:Qab l=some (.ok x)
 rem:Qi9 l
 line:∀ b∈l,b≠10∧b≠59
theorem not_shut {e f n:Nat}{hd:Bool}{m:List Tok}{t:Tok}(h:isP Qw (t::m)=true){x:Tr}{k:List Tok}:Xc e f n hd (t::m)=some (.ok (x,k))→False:=by
 intro hx;have ht:(t.kind=3∨t.kind=4)∧t.text=Qw:=by
  unfold isP Xg Vm at h;simpa using h
 obtain⟨k0,x0,n0,p0⟩:=t;obtain⟨h1,h2⟩:=ht;have h2:x0=Qw:=h2;subst h2;cases f with
 |zero=>unfold Xc at hx;cases hx
 |succ f=>
  unfold Xc at hx;cases f with
  |zero=>unfold Zg at hx;cases hx
  |succ f=>
   cases f with
   |zero=>
    rcases h1 with h1|h1 <;>
    ·have h1:k0=_:=h1;subst h1;rw[Zg,Zw] at hx;cases hx
   |succ f=>
    rcases h1 with h1|h1 <;>
    ·have h1:k0=_:=h1;subst h1;rw[Zg,Zw] at hx;cases hx
theorem Qp3 {l:List UInt8}{x:Tr}(h:Arg l x){q:List UInt8}(hq:Sep q)(p cnt:Nat)(hc:cnt+l.length+1≤16384):
  ∃ c c' s,Qmm c c'∧s.kind=5∧X3 s=false∧Xc l.length Qb2 1 false (c++[s])=some (.ok (x,[s]))∧c'.length≤l.length∧∃ o,lex (l++q) p false cnt=Qbe c' (lex q (p+l.length) o (cnt+c'.length)):=by
 obtain⟨c,s,h1,h2,h3,h4,-⟩:=Kw h.read;obtain⟨g1,g2,-⟩:=Eg l _ h1;obtain⟨t0,o0,a1,-,a3,-⟩:=Qj2 (q:=[10]) ⟨10,[],rfl,.inl rfl⟩ l _ _ _ _ g1 g2 (.inr rfl);have hlen:(c++[s]).length≤l.length+1:=by
  rw[a1];cases o0 <;> simp <;> omega
 have f1:=Qo3 p l.length l 0 false 0 (Nat.le_refl _);rw[g1,Nat.zero_add] at f1;have f2:=lex_more _ _ _ _ _ f1 cnt (by simp at hlen ⊢;omega);rw[Nat.zero_add] at f2;obtain⟨ts0,o,e1,e2,e3,e4⟩:=Qj2 hq l _ _ _ _ f2 g2 (.inl h.rem);rw[List.map_append] at e1;cases o with
 |false=>
  rw[if_neg Dd,List.append_nil] at e1;exact absurd h2 (e4 h.line (shT p s) (by rw[←e1];simp))
 |true=>
  rw[if_pos rfl] at e1;have e5:=List.append_inj_left' e1 rfl;refine⟨c,ts0,s,by rw[←e5];exact Qj0 p c,h2,h3,h4,e3,true,e2⟩
theorem Qhh:∀ (ls:List (List UInt8)) (xs:List Tr),ls≠[]→ls.length=xs.length→(∀ (i:Nat) (l:List UInt8) (x:Tr),ls[i]? = some l→xs[i]? = some x→Arg l x)→∀ (p cnt:Nat),cnt+(Ci ls).length+2<16384→
  ∃ T sm,lex (Ci ls++[41]) p false cnt=.ok T∧sm.kind=5∧(∃ t m,T=t::m∧isP Qw T=false)∧∀ e F f acc,Xl e Qw (Xc e F 1 false) f acc T=none∨∃ xs',Xl e Qw (Xc e F 1 false) f acc T=some (.ok (acc++xs',[sm]))∧erL xs=erL xs'
 | [],_,h,_,_,_,_,_=>absurd rfl h
 |l::ls,[],_,h,_,_,_,_=>by simp at h
 |l::ls,x::xs,_,hlen,hA,p,cnt,hc=>by
  have hA0:=hA 0 l x rfl rfl;have head:∀ {c c' q:List Tok} {s:Tok},Qmm c c'→Xc l.length Qb2 1 false (c++[s])=some (.ok (x,[s]))→∃ t m,c'++q=t::m∧isP Qw (c'++q)=false:=by
   intro c c' q s hl he;cases c with
   |nil=>
    obtain⟨c1,t1,e1,-⟩:=Qg1 he;cases c1 <;> simp at e1
   |cons t c=>
    cases c' with
    |nil=>exact hl.elim
    |cons t' c'=>
     refine⟨t',c'++q,rfl,?_⟩;cases hi:isP Qw (t'::c'++q) with
     |false=>rfl
     |true=>
      have:isP Qw (t::(c++[s]))=true:=by
       unfold isP Xg Vm at hi ⊢;dsimp only at hi ⊢;rw[hl.1.1,hl.1.2.1];exact hi
      exact(not_shut this he).elim
  cases ls with
  |nil=>
   have hx0:xs=[]:=by
    cases xs with
    |nil=>rfl
    |cons=>simp at hlen
   subst hx0;have hc:cnt+l.length+2<16384:=hc;rw[show Ci [l]=l from rfl];obtain⟨c,c',s,k1,k2,k3,k4,k5,o,k6⟩:=Qp3 hA0 (q:=[41]) ⟨41,[],rfl,.inr (.inl rfl)⟩ p cnt Dw;rw[k6,show [41]=List.replicate (0+1) (41:UInt8) from rfl,Qbw 0 _ _ _ Dw];obtain⟨t,m,hT,hi⟩:=head (q:=signs 41 (p+l.length) (0+1)++[Zf (p+l.length+(0+1))]) k1 k4;refine⟨_,Zf (p+l.length+(0+1)),rfl,rfl,⟨t,m,hT,hi⟩,fun e F f acc=>?_⟩;cases f with
   |zero=>exact .inl rfl
   |succ f=>
    have H:Ends s (signs 41 (p+l.length) (0+1)++[Zf (p+l.length+(0+1))]):=⟨k2,k3,.inr ⟨_,_,rfl,.inr ⟨rfl,.inl rfl⟩⟩⟩;unfold Xl;rcases Qg2 (e':=e) (f':=F) H (by simp[signs]) k1 k4 with h|⟨x',h,hx⟩
    ·rw[h];exact .inl rfl
    ·right;rw[h];exact⟨[x'],rfl,by simp only[erL,hx]⟩
  |cons l' ls=>
   have hcat:Ci (l::l'::ls)=l++44::Ci (l'::ls):=rfl;have hc:cnt+l.length+(Ci (l'::ls)).length+3<16384:=by
    have:(Ci (l::l'::ls)).length=l.length+((Ci (l'::ls)).length+1):=by rw[hcat];simp
    omega
   rw[hcat,List.append_assoc,List.cons_append];obtain⟨c,c',s,k1,k2,k3,k4,k5,o,k6⟩:=Qp3 hA0 (q:=44::(Ci (l'::ls)++[41])) ⟨44,_,rfl,.inr (.inr rfl)⟩ p cnt Dw;obtain⟨T,sm,j1,j2,-,j4⟩:=Qhh (l'::ls) xs Ds (by simpa using hlen) (fun i a b h1 h2=>hA (i+1) a b (by simpa using h1) (by simpa using h2)) (p+l.length+1) (cnt+c'.length+1) Dw;rw[k6,Qan 44 _ _ _ _ (.inr (.inr rfl)) Dw,show ((44:UInt8)==41)=false from rfl,j1];obtain⟨t,m,hT,hi⟩:=head (q:=⟨4,[44],0,p+l.length⟩::T) k1 k4;refine⟨_,sm,rfl,j2,⟨t,m,hT,hi⟩,fun e F f acc=>?_⟩;cases f with
   |zero=>exact .inl rfl
   |succ f=>
    have H:Ends s (⟨4,[44],0,p+l.length⟩::T):=⟨k2,k3,.inr ⟨_,_,rfl,.inr ⟨rfl,.inr rfl⟩⟩⟩;unfold Xl;rcases Qg2 (e':=e) (f':=F) H Ds k1 k4 with h|⟨x',h,hx⟩
    ·rw[h];exact .inl rfl
    ·rw[h];show Xl e Qw (Xc e F 1 false) f (acc++[x']) T=none∨∃ xs',Xl e Qw (Xc e F 1 false) f (acc++[x']) T=some (.ok (acc++xs',[sm]))∧_
     rcases j4 e F f (acc++[x']) with h|⟨xs',h,hxs⟩
     ·exact .inl h
     ·refine .inr ⟨x'::xs',by rw[h];simp,?_⟩;simp only[erL,hx,hxs]
theorem Qk9 {xs:List Tr}(h:∀ x∈xs,Xm x≤1000):Vb xs≤1000*xs.length:=by
 induction xs with
 |nil=>simp[Vb]
 |cons x xs ih=>
  have h1:=h x List.mem_cons_self;have h2:=ih fun y hy=>h y (List.mem_cons_of_mem _ hy)
  simp only[Vb,List.length_cons];omega
theorem Qps {xs:List Tr}{n:Nat}(h:∀ x∈xs,Ze x<n):Tn xs≤n:=by
 induction xs with
 |nil=>simp[Tn]
 |cons x xs ih=>
  have h1:=h x List.mem_cons_self;have h2:=ih fun y hy=>h y (List.mem_cons_of_mem _ hy)
  simp only[Tn];omega
theorem Qph {xs:List Tr}(h:∀ x∈xs,Bj x=true):Wv xs=true:=by
 induction xs with
 |nil=>rfl
 |cons x xs ih=>
  unfold Wv;rw[h x List.mem_cons_self,ih fun y hy=>h y (List.mem_cons_of_mem _ hy)];rfl
def H9 (ls:List (List UInt8)):List UInt8:=[102,40]++Ci ls++[41]
theorem Qkk:∀ ls:List (List UInt8),(∀ l∈ls,l.length≤1000)→(Ci ls).length≤1001*ls.length
 | [],_=>by simp[Ci]
 | [l],h=>by have:=h l Ds;simp[Ci];omega
 |l::l'::ls,h=>by
  have h1:=h l Ds;have h2:=Qkk (l'::ls) fun k hk=>h k (List.mem_cons_of_mem _ hk)
  show (l++44::Ci (l'::ls)).length≤_
  simp at h2 ⊢;omega
theorem Qpy:∀ ls:List (List UInt8),(∀ l∈ls,Wh l)→Wh (Ci ls)
 | [],_=>Qng
 | [l],h=>h l Ds
 |l::l'::ls,h=>by
  have h1:=h l Ds;have h2:=Qpy (l'::ls) fun k hk=>h k (List.mem_cons_of_mem _ hk)
  show Wh (l++([44]++Ci (l'::ls)))
  exact Qay h1 (Qay (Ht _ Dd) h2)
theorem Qpz {ls:List (List UInt8)}{xs:List Tr}(hlen:ls.length=xs.length)(h16:ls.length≤16)(hl:∀ l∈ls,l.length≤1000)(hA:∀ (i:Nat) (l:List UInt8) (x:Tr),ls[i]? = some l→xs[i]? = some x→Arg l x)(hs:∀ x∈xs,Xm x≤1000)(hd:∀ x∈xs,Ze x<64):
  ∃ y,Qab (H9 ls)=some (.ok y)∧y.kind=34∧erT y=erT (.mk 34 [] 0 0 (.mk 30 [102] 0 0 []::xs)):=by
 have hcl:=Qkk ls hl;have hex:∀ l∈ls,∃ x,Arg l x:=fun l hm=>by
  obtain⟨i,hi,rfl⟩:=List.getElem_of_mem hm;exact⟨_,hA i _ (xs[i]'Dw) (List.getElem?_eq_getElem hi) (List.getElem?_eq_getElem Dw)⟩
 have hw:Wh (H9 ls):=by
  refine Qay (Qay (Ht _ Dd) (Qpy ls fun l hm=>?_)) (Ht _ Dd);obtain⟨x,hx⟩:=hex l hm;obtain⟨c,s,h1,-⟩:=Kw hx.read;exact(Eg l _ h1).2.1
 have hfew:Wv xs=true:=Qph fun x hm=>by
  obtain⟨i,hi,rfl⟩:=List.getElem_of_mem hm;obtain⟨c,s,-,-,-,-,h5,-⟩:=Kw (hA i (ls[i]'Dw) _ (List.getElem?_eq_getElem Dw) (List.getElem?_eq_getElem hi)).read;exact h5
 have key:∃ T sm,lex (Ci ls++[41]) 2 false 2=.ok T∧sm.kind=5∧∀ e F f,U7 e Qw false (Xc e F 1 false) f T=none∨∃ xs',U7 e Qw false (Xc e F 1 false) f T=some (.ok (xs',[sm]))∧erL xs=erL xs':=by
  cases ls with
  |nil=>
   have hx0:xs=[]:=List.length_eq_zero_iff.1 (by simpa using hlen.symm);subst hx0;refine⟨_,Zf 3,Qbw 0 2 2 false Dw,rfl,fun e F f => .inr ⟨[],rfl,rfl⟩⟩
  |cons l ls=>
   obtain⟨T,sm,j1,j2,⟨t,m,rfl,j3⟩,j4⟩:=Qhh (l::ls) xs Ds hlen hA 2 2 (by simp at hcl h16 ⊢;omega);refine⟨t::m,sm,j1,j2,fun e F f=>?_⟩;unfold U7;rw[j3,Bool.and_false,if_neg Dd];simpa using j4 e F f []
 obtain⟨T,sm,j1,j2,j4⟩:=key;have htk:X9 (H9 ls)=.ok (⟨1,[102],0,0⟩::⟨4,[40],0,1⟩::T):=by
  unfold X9;rw[if_neg (by simp[H9];omega),if_neg (by rw[hw];exact Nat.lt_irrefl _)];show lex (102::40::(Ci ls++[41])) 0 false 0=_
  rw[Qj1 Dd Dd Dd rfl (.inr ⟨40,_,rfl,by decide,by decide⟩) Dw,Qan 40 _ _ _ _ (.inl rfl) Dw,show ((40:UInt8)==41)=false from rfl,j1];rfl
 obtain⟨k1,k2⟩:=Qhy _ _ htk;unfold Qab Qcu;rw[htk];dsimp only;have hne:=fit_ok (Qp4 (H9 ls).length k1 k2);generalize (H9 ls).length=e at *;obtain⟨ks,xx,ns,ps⟩:=sm;have j2:ks=5:=j2;subst j2;have hX:∀ F,Xc e (F+1+1+1+1) 1 false (⟨1,[102],0,0⟩::⟨4,[40],0,1⟩::T)=andThen (andThen (U7 e Qw false (Xc e (F+1) 1 false) (F+1) T) fun ys k=>Vp e (F+1) false (.mk 34 [] 0 1 (.mk 30 [102] 0 0 []::ys)) k) fun x k=>Xu e (F+1+1+1) 1 false x k:=fun F=>by
  rw[Xc,Zg];show andThen (andThen (Zw e (F+1+1) false (⟨1,[102],0,0⟩::⟨4,[40],0,1⟩::T)) fun x k=>Vp e (F+1+1) false x k) _=_
  rw[Zw];show andThen (Vp e (F+1+1) false (.mk 30 [102] 0 0 []) (⟨4,[40],0,1⟩::T)) _=_
  rw[Vp];rfl
 rw[show Qb2=199996+1+1+1+1 from rfl] at hne ⊢;rw[hX] at hne ⊢;rcases j4 e (199996+1) (199996+1) with h|⟨xs',h,hxs⟩
 ·rw[h] at hne;exact absurd rfl hne
 ·rw[h];have e1:(andThen (andThen (some (.ok (xs',[(⟨5,xx,ns,ps⟩:Tok)]))) fun ys k=>Vp e (199996+1) false (.mk 34 [] 0 1 (.mk 30 [102] 0 0 []::ys)) k) fun x k=>Xu e (199996+1+1+1) 1 false x k)=ok (.mk 34 [] 0 1 (.mk 30 [102] 0 0 []::xs')) [⟨5,xx,ns,ps⟩]:=by
   show andThen (Vp e (199996+1) false (.mk 34 [] 0 1 (.mk 30 [102] 0 0 []::xs')) [⟨5,xx,ns,ps⟩]) _=_
   rw[Vp];show Xu e (199996+1+1+1) 1 false (.mk 34 [] 0 1 (.mk 30 [102] 0 0 []::xs')) [⟨5,xx,ns,ps⟩]=_
   rw[Xu];rfl
  rw[e1];have hz:erT (.mk 34 [] 0 1 (.mk 30 [102] 0 0 []::xs'))=erT (.mk 34 [] 0 0 (.mk 30 [102] 0 0 []::xs)):=by
   simp only[erT,erL,hxs]
  refine⟨.mk 34 [] 0 1 (.mk 30 [102] 0 0 []::xs'),?_,rfl,hz⟩;obtain⟨g1,g2,g3⟩:=Qny hz;have hsz:=Qk9 hs;have hdp:=Qps hd;show some (endP _ true (.ok (_,[⟨5,xx,ns,ps⟩])))=_
  unfold endP;dsimp only;rw[if_pos (show Qa9 true [(⟨5,xx,ns,ps⟩:Tok)]=[] from rfl),if_pos];rw[g1,g2,g3];refine⟨?_,?_,?_⟩
  ·simp only[Bj,Wv,hfew];simp[mostN];omega
  ·simp only[Xm,Vb];omega
  ·simp only[Ze,Tn];omega
end Prs
end
section
open Go.RowKit
namespace Prs
def Vw (S:Nat→Prop)(w:World):List Tr→List Value→Prop
 | [],cs=>cs=[]
 |t::l,cs=>∃ v0 v1 v2 v3 v4 r,cs=v0::v1::v2::v3::v4::r∧X7 S w t [v0,v1,v2,v3,v4]∧Vw S w l r
theorem Vw.len {S:Nat→Prop}{w:World}:∀ {l:List Tr} {cs:List Value},Vw S w l cs→cs.length=l.length*5
 | [],cs,h=>by have h:cs=[]:=h;subst h;rfl
 |t::l,cs,h=>by
  obtain⟨v0,v1,v2,v3,v4,r,rfl,-,h⟩:=h;simp[Vw.len h];omega
theorem Vw.one {S:Nat→Prop}{w:World}:∀ {l:List Tr} {cs:List Value},Vw S w l cs→∀ u∈cs,u.oneCell'=true
 | [],cs,h=>by have h:cs=[]:=h;subst h;intro u hu;cases hu
 |t::l,cs,h=>by
  obtain⟨v0,v1,v2,v3,v4,r,rfl,h1,h⟩:=h;intro u hu;cases t;unfold X7 at h1;obtain⟨a,c,he,-⟩:=h1;simp only[List.cons.injEq,and_true] at he;obtain⟨rfl,rfl,rfl,rfl,rfl⟩:=he;simp only[List.mem_cons] at hu;rcases hu with rfl|rfl|rfl|rfl|rfl|hu;all_goals first|rfl|exact Vw.one h u hu
theorem Vw.frame {S S':Nat→Prop}{w w':World}(hlo:∀ k,S k→k<w.heap.size→S' k)(hb:∀ k,S k→k<w.heap.size→w'.heap[k]? = w.heap[k]?):∀ {l:List Tr} {cs:List Value},Vw S w l cs→Vw S' w' l cs
 | [],_,h=>h
 |t::l,cs,h=>by
  obtain⟨v0,v1,v2,v3,v4,r,h0,h1,h2⟩:=h;exact⟨v0,v1,v2,v3,v4,r,h0,h1.frame hlo hb,Vw.frame hlo hb h2⟩
theorem Vw.app {S:Nat→Prop}{w:World}:∀ {l l':List Tr} {cs cs':List Value},Vw S w l cs→Vw S w l' cs'→Vw S w (l++l') (cs++cs')
 | [],l',cs,cs',h,h'=>by have h:cs=[]:=h;subst h;exact h'
 |t::l,l',cs,cs',h,h'=>by
  obtain⟨v0,v1,v2,v3,v4,r,rfl,h1,h2⟩:=h;exact⟨v0,v1,v2,v3,v4,r++cs',rfl,h1,Vw.app h2 h'⟩
theorem Vw.single {S:Nat→Prop}{w:World}{t:Tr}{v0 v1 v2 v3 v4:Value}(h:X7 S w t [v0,v1,v2,v3,v4]):Vw S w [t] [v0,v1,v2,v3,v4]:=⟨v0,v1,v2,v3,v4,[],rfl,h,rfl⟩
theorem Vw.row {S:Nat→Prop}{w:World}{g:Nat}:∀ {l:List Tr} {cs:List Value} {o:Nat},Vw S w l cs→(∀ (j:Nat) (u:Value),cs[j]? = some u→w.cell? ⟨g,o+j,none⟩=some u)→Xq S w g l o
 | [],_,_,_,_=>by unfold Xq;trivial
 |t::l,cs,o,h,hc=>by
  obtain⟨v0,v1,v2,v3,v4,r,rfl,h1,h2⟩:=h;unfold Xq;refine⟨⟨v0,v1,v2,v3,v4,hc 0 v0 rfl,hc 1 v1 rfl,hc 2 v2 rfl,hc 3 v3 rfl,hc 4 v4 rfl,h1⟩,Vw.row h2 fun j u hj=>?_⟩
  have:=hc (j+5) u (by simpa using hj);rw[show o+(j+5)=o+5+j by omega] at this;exact this
def Kids (b:Nat)(S:Nat→Prop)(w:World)(v:Value)(l:List Tr):Prop:=∃ cs,w.ownsRow b 26 5 v l.length cs∧Vw (fun k=>S k∧some k≠v.ownBlock) w l cs
theorem Kids.nil (b:Nat)(S:Nat→Prop)(w:World):Kids b S w (.slice none 0 0) []:=⟨[],World.ownsRow_nil _ _ _ _,rfl⟩
theorem Kids.below {b:Nat}{S:Nat→Prop}{w w':World}{v:Value}{l:List Tr}(h:Kids b S w v l)(hb:Below w.heap.size w w'):Kids b S w' v l:=by
 obtain⟨cs,h1,h2⟩:=h;exact⟨cs,ownsRow_below h1 hb,h2.frame (fun _ h _=>h) fun k _ hk=>hb.block k hk⟩
theorem Kids.app {b:Nat}{S:Nat→Prop}{w w':World}{v v':Value}{l l':List Tr}{cs cs':List Value}(hc:Vw (fun k=>S k∧some k≠v.ownBlock) w l cs)(hc':Vw (fun k=>S k∧some k≠v.ownBlock) w l' cs')
  (hown:w'.ownsRow b 26 5 v' (l.length+l'.length) (cs++cs')) (hg:w.grownBy w' v.ownBlock) (hat:v'.ownBlock=v.ownBlock∨v'.ownBlock=some w.heap.size):Kids b S w' v' (l++l'):=by
 refine⟨cs++cs',by rw[List.length_append];exact hown,(hc.app hc').frame (fun k hk hlt=>⟨hk.1,?_⟩) fun k hk hlt=>hg.block k hlt hk.2⟩;rcases hat with h|h
 ·rw[h];exact hk.2
 ·rw[h];intro e;cases e;exact absurd hlt (Nat.lt_irrefl _)
theorem Kids.slice {b:Nat}{S:Nat→Prop}{w:World}{v:Value}{l:List Tr}(h:Kids b S w v l):∃ a c,v=.slice a l.length c∧(l=[]∨∃ g,a=some ⟨g,0,none⟩∧b≤g∧Xq S w g l 0):=by
 obtain⟨cs,h1,h2⟩:=h;have hl:=h1.1;have hcell:=fun g hg=>h1.cells (g:=g) hg
 rcases h1.2 with ⟨rfl,h0⟩|⟨g,cap,cur,rfl,hbg,hg,-⟩
 ·have:l=[]:=List.length_eq_zero_iff.1 h0;subst this;exact⟨none,0,rfl,.inl rfl⟩
 ·refine⟨_,cap,rfl,.inr ⟨g,rfl,hbg,Vw.row (h2.frame (fun k hk _=>hk.1) fun _ _ _=>rfl) fun j u hj=>?_⟩⟩
  have:=hcell g rfl j u hj;rw[Lib.add_plain] at this;exact this
theorem Kids.node {b:Nat}{w:World}{v:Value}{l:List Tr}(h:Kids b (b ≤ ·) w v l)(kd:Nat)(x:List UInt8)(nn pl:Nat):X7 (b ≤ ·) w (.mk kd x nn pl l) [.int .i64 (kd:Int),.string ⟨x.toArray⟩,.int .u64 (nn:Int),.int .i64 (pl:Int),v]:=by
 obtain⟨a,c,rfl,hl⟩:=h.slice;unfold X7;refine⟨a,c,rfl,hl.imp id ?_⟩;rintro⟨g,rfl,h1,h2⟩;exact⟨g,0,rfl,h1,h2⟩
theorem rsize_c:∀ (n:Nat) (t:Tr) (S:Nat→Prop) (w:World) (v:Value),Xm t≤n→n≤4611686018427387904→Zh S w t v→Calls Tryz.prog 14 #[v] w fun e w'=>e=.returned (.int .i64 (Xm t:Int))∧Below w.heap.size w w':=by
 intro n;induction n with
 |zero=>intro t S w v h;cases t;unfold Xm at h;omega
 |succ n ih=>
  intro t S w v hn hbig h;cases t with
  |mk kd x nn pl kids=>
  unfold Xm at hn ⊢;obtain⟨cs,he,hc⟩:=h;unfold X7 at hc;obtain⟨a,cp,rfl,hl⟩:=hc;subst he;have IH:=Dh ih;have HL:=Dh hl;have HN:=Dh hn;have HB:=Dh hbig;clear ih hl hn hbig;go_enter Tryz.func14,Tryz.ntmps14
  go_wp2
  go_loopw [3,4] (fun s i wr=>∃ k:Nat,k≤kids.length∧i=.int .i64 k∧s=.int .i64 ((1+Vb (kids.take k):Nat):Int)∧Below w.heap.size w wr∧RowKit.Hid (C9 w.heap.size (kd:Int) x nn pl a kids.length cp wr)) (fun _ i _=>kids.length-(intOf i).toNat)
  case atStart=>
   refine⟨0,Nat.zero_le _,rfl,by simp[Vb],(Below.refl _ _).alloc (Nat.le_refl _) _,Dh ?_⟩;exact Q4 _ _
  case round=>
   obtain⟨k,hk,rfl,rfl,hBw,hb1⟩:=hrel;have q1:wr.cell? ⟨w.heap.size,4,none⟩=some (Value.slice a kids.length cp):=by
    have:=hb1.out;unfold C9 at this;simp[World.cell?,this]
   by_cases hlt:k<kids.length
   ·obtain⟨g,o,rfl,hg,hR⟩:=HL.out.resolve_left (by rintro rfl;simp at hlt);obtain⟨kid,hkid⟩:∃ u,kids[k]? = some u:=⟨_,List.getElem?_eq_getElem hlt⟩;obtain⟨u0,u1,u2,u3,u4,c0,c1,c2,c3,c4,hu⟩:=hR.at_ k kid hkid;rw[Nat.mul_comm 5 k] at c0 c1 c2 c3 c4;have hrg:=Dh (Us (bc hBw c0) (bc hBw c1) (bc hBw c2) (bc hBw c3) (bc hBw c4));have hV:=Dh ((hu.agg).below hBw);have hts:=Dh (Jw hkid);have hle:=Dh (F5 kids (k+1));have hBw:=Dh hBw;clear hR c0 c1 c2 c3 c4 hu hg;have hq1:(k:Int)<(kids.length:Int):=by omega
    go_wp2_with (first|((with_reducible refine wpList_load_mid rfl 26 _ rfl g (o+k*5) ?hx [u0,u1,u2,u3,u4] _ hrg.out Tryz.underlying26 rfl (Xk _ rfl) ?_);(case hx=>rfl))|(go_at_call 14;refine(IH.out kid S _ _ (by have:=HN.out;have:=hts.out;have:=hle.out;omega) (by have:=HB.out;omega) hV.out).mono ?_;rintro e W2 ⟨rfl,hB2⟩))
    have hts:=hts.out;have hle:=hle.out;have hN:=HN.out;have hB:=HB.out;have hlen:=Yo kids;rw[w64 (k+1:Int) Dw Dw,w64 (1+(Vb (kids.take k):Int)+(Xm kid:Int)) Dw Dw];refine⟨⟨k+1,by omega,by push_cast;rfl,?_,hBw.out.trans (hB2.mono hBw.out.size),Dh (hb1.out.after hB2)⟩,by simp[intOf];omega⟩;rw[hts];push_cast;rw[Int.add_assoc]
   ·obtain rfl:k=kids.length:=by omega
    have hq1:¬ (kids.length:Int)<(kids.length:Int):=by omega
    go_wp2
    go_ret;exact⟨rfl,hBw⟩
theorem Tryz.infoNd:((Tryz.prog).info? 26).map (fun i=>(i.zero,i.size,i.bytes))=some (some (.agg Q7),5,64):=by kernel_rfl
theorem Qht {o:Oper}{a:Act}{w:World}{K:Act→World→Prop}{Q:Exit→Act→World→Prop}(x:Operand)(ho:o.op=.buildSlice 24 1 #[(0,x)]){v0 v1 v2 v3 v4:Value}(hx:a.eval x=.agg #[v0,v1,v2,v3,v4])
  (h:K (a.put o.dst (.slice (some ⟨w.heap.size,0,none⟩) 1 1)) (w.alloc (.cells #[v0,v1,v2,v3,v4] 26))):o.wp Tryz.prog a w K Q:=by
 obtain⟨i0,hi,hz0,hz1,hz2⟩:=info_parts Tryz.infoNd;refine wp_buildSlice 24 26 1 _ ho #[v0,v1,v2,v3,v4] i0 (.agg Q7) Tryz.underlying24 hi hz0 (by rw[hz1];decide) (by rw[hz1];decide) ?_ h;rw[hz1];simp only[List.map_toArray,List.map_cons,List.map_nil,hx];kernel_rfl
theorem wp_app {o:Oper}{a:Act}{w:World}{K:Act→World→Prop}{Q:Exit→Act→World→Prop}(s x:Operand)(ho:o.op=.call { callee:=.builtin .append,args := #[s,x],argTypes := #[24,24] })
  {b:Nat} {S:Nat→Prop} {v:Value} {l l':List Tr} (hs:a.eval s=v) (hk:Kids b S w v l) {cs':List Value} {ad:Addr} {c:Nat} (hx:a.eval x=.slice (some ad) l'.length c)
  (hc':Vw (fun k=>S k∧some k≠v.ownBlock) w l' cs') (hcell:∀ j u,cs'[j]? = some u→w.cell? (ad.add j)=some u) (hn:l.length+l'.length≤1000000) (hb:b≤w.heap.size)
  (h:∀ v' w',Kids b S w' v' (l++l')→w.grownBy w' v.ownBlock→(v'.ownBlock=v.ownBlock∨v'.ownBlock=some w.heap.size)→K (a.put o.dst v') w'):o.wp Tryz.prog a w K Q:=by
 obtain⟨i0,hi,hz0,hz1,hz2⟩:=info_parts Tryz.infoNd;obtain⟨cs,h1,h2⟩:=hk;obtain⟨v',w',hr,k1,k2,-,k4⟩:=run_append_own_at (P:=Tryz.prog) (w:=w) b 24 o.type 26 i0 (.agg Q7) 5 64 Tryz.underlying24 hi hz0 hz1 hz2 rfl Dd v l.length cs h1 ad l'.length c cs' hc'.len hcell hc'.one (by unfold maxLen;omega) Dw hb;have H:=h v' w' (Kids.app h2 hc' k1 k2 k4) k2 k4;unfold Oper.wp execOp;simp only[ho,resolve,invoke,builtin,Sem.run_bind,Sem.run_pure,Result.andThen_ok,List.map_toArray,List.map_cons,List.map_nil,hs,hx,hr];exact H
theorem Qpx {w:World}{v0 v1 v2 v3 v4:Value}{t:TypeId}:∀ j u,[v0,v1,v2,v3,v4][j]? = some u→(w.alloc (.cells #[v0,v1,v2,v3,v4] t)).cell? ((⟨w.heap.size,0,none⟩:Addr).add j)=some u:=by
 intro j u hj;have hb:=Q4 w (.cells #[v0,v1,v2,v3,v4] t);rw[Lib.add_plain];unfold World.cell?
 dsimp only;rw[hb];match j,hj with
 |0,hj=>cases hj;rfl
 |1,hj=>cases hj;rfl
 |2,hj=>cases hj;rfl
 |3,hj=>cases hj;rfl
 |4,hj=>cases hj;rfl
end Prs
end
section
open Go.RowKit
theorem drop_at (s:ByteArray)(j:Nat)(h:j<s.size):(bl s).drop j=s[j]::(bl s).drop (j+1):=by
 have hl:j<(bl s).length:=by rw[Zc];exact h
 rw[List.drop_eq_getElem_cons hl];rfl
theorem Qfj (b c:UInt8)(n:Int)(hn:(c.toNat:Int)=n):(((b.toNat:Nat):Int)==n)=(b==c):=by
 rw[←hn,Bool.eq_iff_iff,beq_iff_eq,beq_iff_eq];constructor
 ·intro h;exact UInt8.toNat_inj.1 Dw
 ·rintro rfl;rfl
end
section
open Go.RowKit
namespace Prs
def RowV (g:Nat)(v0 v1 v2 v3 v4:Value)(w:World):Prop:=w.heap[g]? = some (.cells #[v0,v1,v2,v3,v4] 26 (0,0))
theorem RowV.after {g:Nat}{v0 v1 v2 v3 v4:Value}{w w':World}(h:RowV g v0 v1 v2 v3 v4 w)(hb:Below w.heap.size w w'):RowV g v0 v1 v2 v3 v4 w':=by
 unfold RowV at h ⊢;rw[hb.block _ (Array.getElem?_eq_some_iff.1 h).1,h]
theorem RowV.range {g:Nat}{v0 v1 v2 v3 v4:Value}{w:World}(h:RowV g v0 v1 v2 v3 v4 w):w.rangeAt g 0 [v0,v1,v2,v3,v4]:=by
 obtain⟨e0,e1,e2,e3,e4,-⟩:=Zy h;exact Us e0 e1 e2 e3 e4
theorem Zh.any {S:Nat→Prop}{w:World}{t:Tr}{v:Value}(h:Zh S w t v):Zh (fun _=>True) w t v:=h.frame (fun _ _ _=>trivial) (fun _ _ _=>rfl)
theorem expr_err {l:List UInt8}{p:Nat}{c:Int}(h:Qab l=some (.error (p,c))):c≠0:=by
 unfold Qab Qcu at h;cases ht:X9 l with
 |error e=>
  rw[ht] at h;cases h;exact Qc6 _ _ _ ht
 |ok ts=>
  rw[ht] at h;dsimp only at h;obtain⟨y,-,hy⟩:=Option.map_eq_some_iff.1 h;cases y with
  |error q=>cases hy;decide
  |ok y=>
   obtain⟨t,m⟩:=y;unfold endP at hy;dsimp only at hy;split at hy
   ·split at hy
    ·cases hy
    ·cases hy;decide
   ·cases hy;decide
def Qei:List UInt8→Bool
 | []=>false
 |b::m=>(b==47&&m.head? == some 47)||(b==59||Qei m)
theorem Qf6 {l:List UInt8}(h:Qei l=false):∀ k,Qei (l.drop k)=false:=by
 intro k;induction k generalizing l with
 |zero=>exact h
 |succ k ih=>
  cases l with
  |nil=>rfl
  |cons b m=>
   unfold Qei at h;simp only[Bool.or_eq_false_iff] at h;exact ih h.2.2
theorem remB_no {l:List UInt8}(h:Qei l=false):Qi9 l∧∀ b∈l,b≠59:=by
 refine⟨fun k=>?_,fun b hb=>?_⟩
 ·have h:=Qf6 h k;generalize l.drop k=m at *;cases m with
  |nil=>rfl
  |cons b m=>
   unfold Qei at h;simp only[Bool.or_eq_false_iff] at h;have h:=h.1;unfold Vh;cases m with
   |nil=>simp[List.isPrefixOf]
   |cons c m=>
    simp only[List.head?_cons,Bool.and_eq_false_iff,beq_eq_false_iff_ne,ne_eq,Option.some.injEq] at h;simp only[List.isPrefixOf,Bool.and_true,Bool.and_eq_false_iff,beq_eq_false_iff_ne,ne_eq];rcases h with h|h
    ·exact .inl (Ne.symm h)
    ·exact .inr (Ne.symm h)
 ·obtain⟨i,hi,rfl⟩:=List.getElem_of_mem hb;have h:=Qf6 h i;rw[List.drop_eq_getElem_cons hi] at h;unfold Qei at h;simp only[Bool.or_eq_false_iff,beq_eq_false_iff_ne] at h;exact h.2.1
theorem remark_c (s:ByteArray)(hs:s.size≤maxLen)(w:World):Calls Tryz.prog 12 #[.string s] w fun e w'=>e=.returned (.bool (Qei (bl s)))∧w=w':=by
 unfold maxLen at hs;go_enter Tryz.func12,Tryz.ntmps12
 go_wp2
 go_loopw [3] (fun i wr=>∃ j:Nat,i=.int .i64 j∧j≤s.size∧Hid (Qei ((bl s).drop j)=Qei (bl s))∧wr=w) (fun i _=>s.size-(intOf i).toNat)
 case atStart=>exact⟨0,rfl,Nat.zero_le _,Dh rfl,rfl⟩
 case round=>
  obtain⟨j,rfl,hj,hq,rfl⟩:=hrel;by_cases hlt:j<s.size
  ·have h1:=hq.out;rw[drop_at s j hlt,Qei] at h1;have t59:=Qfj s[j] 59 59 Dd;have t47:=Qfj s[j] 47 47 Dd;have hlt1:(j:Int)<(s.size:Int):=by omega
   have hj1:wrap64 ((j:Int)+1)=(j:Int)+1:=by unfold wrap64;omega
   clear hq;have next:∀ {x:Bool},x=false→(x||(false||Qei ((bl s).drop (j+1))))=Qei (bl s)→Hid (Qei ((bl s).drop (j+1))=Qei (bl s)):=fun hx h=>by
    subst hx;exact Dh h
   cases b59:(s[j]==59) with
   |true=>
    rw[b59] at t59 h1;have b47:(s[j]==47)=false:=by rw[beq_iff_eq.1 b59];rfl
    rw[b47] at t47 h1;have H1:=Dh (show true=Qei (bl s) from h1);clear h1 b59 b47 next;go_wp2
    go_ret;exact⟨by rw[←H1.out];rfl,rfl⟩
   |false=>
    rw[b59] at t59 h1;cases b47:(s[j]==47) with
    |false=>
     rw[b47] at t47 h1;have H1:=next rfl h1;clear h1 b59 b47 next;go_wp2
     exact⟨⟨j+1,by go_num,hlt,H1,trivial⟩,by simp[intOf];omega⟩
    |true=>
     rw[b47] at t47 h1;by_cases hl2:j+1<s.size
     ·have hl3:(j:Int)+1<(s.size:Int):=by omega
      rw[drop_at s (j+1) hl2] at h1;have t48:=Qfj s[j+1] 47 47 Dd;cases b48:(s[j+1]==47) with
      |true=>
       rw[b48] at t48;have H1:=Dh (show true=Qei (bl s) by rw[←h1];simp[beq_iff_eq.1 b48]);clear h1 b59 b47 b48 next;go_wp2
       go_ret;exact⟨by rw[←H1.out];rfl,rfl⟩
      |false=>
       rw[b48] at t48;have H1:=next (x:=false) rfl (by rw[←h1,drop_at s (j+1) hl2];simp[beq_eq_false_iff_ne.1 b48]);clear h1 b59 b47 b48 next;go_wp2
       exact⟨⟨j+1,by go_num,hlt,H1,trivial⟩,by simp[intOf];omega⟩
     ·have hl3:¬ (j:Int)+1<(s.size:Int):=by omega
      have e0:(bl s).drop (j+1)=[]:=List.drop_eq_nil_of_le (by rw[Zc];omega);have H1:=next (x:=false) rfl (by rw[←h1,e0];rfl);clear h1 b59 b47 next e0;go_wp2
      exact⟨⟨j+1,by go_num,hlt,H1,trivial⟩,by simp[intOf];omega⟩
  ·obtain rfl:j=s.size:=by omega
   have H1:=Dh (show false=Qei (bl s) by rw[←hq.out,List.drop_eq_nil_of_le (by rw[Zc];omega)];rfl);have hlt1:¬ (s.size:Int)<(s.size:Int):=by omega
   clear hq;go_wp2
   go_ret;exact⟨by rw[←H1.out];rfl,rfl⟩
theorem rdepth_c:∀ (n:Nat) (t:Tr) (S:Nat→Prop) (w:World) (v:Value),Xm t≤n→n≤4611686018427387904→Zh S w t v→Calls Tryz.prog 13 #[v] w fun e w'=>e=.returned (.int .i64 (Ze t:Int))∧Below w.heap.size w w':=by
 intro n;induction n with
 |zero=>intro t S w v h;cases t;unfold Xm at h;omega
 |succ n ih=>
  intro t S w v hn hbig h;cases t with
  |mk kd x nn pl kids=>
  unfold Xm at hn;unfold Ze;obtain⟨cs,he,hc⟩:=h;unfold X7 at hc;obtain⟨a,cp,rfl,hl⟩:=hc;subst he;have IH:=Dh ih;have HL:=Dh hl;have HN:=Dh hn;have HB:=Dh hbig;clear ih hl hn hbig;go_enter Tryz.func13,Tryz.ntmps13
  go_wp2
  go_loopw [3,4] (fun s i wr=>∃ k:Nat,k≤kids.length∧i=.int .i64 k∧s=.int .i64 ((Tn (kids.take k):Nat):Int)∧Below w.heap.size w wr∧RowKit.Hid (C9 w.heap.size (kd:Int) x nn pl a kids.length cp wr)) (fun _ i _=>kids.length-(intOf i).toNat)
  case atStart=>
   refine⟨0,Nat.zero_le _,rfl,by simp[Tn],(Below.refl _ _).alloc (Nat.le_refl _) _,Dh ?_⟩;exact Q4 _ _
  case round=>
   obtain⟨k,hk,rfl,rfl,hBw,hb1⟩:=hrel;have q1:wr.cell? ⟨w.heap.size,4,none⟩=some (Value.slice a kids.length cp):=by
    have:=hb1.out;unfold C9 at this;simp[World.cell?,this]
   by_cases hlt:k<kids.length
   ·obtain⟨g,o,rfl,hg,hR⟩:=HL.out.resolve_left (by rintro rfl;simp at hlt);obtain⟨kid,hkid⟩:∃ u,kids[k]? = some u:=⟨_,List.getElem?_eq_getElem hlt⟩;obtain⟨u0,u1,u2,u3,u4,c0,c1,c2,c3,c4,hu⟩:=hR.at_ k kid hkid;rw[Nat.mul_comm 5 k] at c0 c1 c2 c3 c4;have hrg:=Dh (Us (bc hBw c0) (bc hBw c1) (bc hBw c2) (bc hBw c3) (bc hBw c4));have hV:=Dh ((hu.agg).below hBw);have hts:=Dh (Jw hkid);have hle:=Dh (F5 kids (k+1));have hBw:=Dh hBw;have hd1:=Dh (Qfd kid);have hd2:=Dh (Bv (kids.take k));have hdd:=Dh (Qcf hkid);clear hR c0 c1 c2 c3 c4 hu hg;have hq1:(k:Int)<(kids.length:Int):=by omega
    have hlen:=Dh (Yo kids);have hw1:wrap64 ((Ze kid:Int)+1)=(Ze kid:Int)+1:=w64 _ Dw (by have:=hd1.out;have:=hts.out;have:=hle.out;have:=HN.out;have:=HB.out;omega);by_cases hgt:Tn (kids.take k)<Ze kid+1
    ·have hq2:(Tn (kids.take k):Int)<(Ze kid:Int)+1:=by omega
     go_wp2_with (first|((with_reducible refine wpList_load_mid rfl 26 _ rfl g (o+k*5) ?hx [u0,u1,u2,u3,u4] _ hrg.out Tryz.underlying26 rfl (Xk _ rfl) ?_);(case hx=>rfl))|(go_at_call 13;refine(IH.out kid S _ _ (by have:=HN.out;have:=hts.out;have:=hle.out;omega) (by have:=HB.out;omega) hV.out).mono ?_;rintro e W2 ⟨rfl,hB2⟩))
     have hts:=hts.out;have hle:=hle.out;have hN:=HN.out;have hB:=HB.out;have hlen:=hlen.out;have hdd:=hdd.out;rw[w64 (k+1:Int) Dw Dw];refine⟨⟨k+1,by omega,by push_cast;rfl,?_,hBw.out.trans (hB2.mono hBw.out.size),Dh (hb1.out.after hB2)⟩,by simp[intOf];omega⟩;rw[hdd];congr 1
     omega
    ·have hq2:¬ (Tn (kids.take k):Int)<(Ze kid:Int)+1:=by omega
     go_wp2_with (first|((with_reducible refine wpList_load_mid rfl 26 _ rfl g (o+k*5) ?hx [u0,u1,u2,u3,u4] _ hrg.out Tryz.underlying26 rfl (Xk _ rfl) ?_);(case hx=>rfl))|(go_at_call 13;refine(IH.out kid S _ _ (by have:=HN.out;have:=hts.out;have:=hle.out;omega) (by have:=HB.out;omega) hV.out).mono ?_;rintro e W2 ⟨rfl,hB2⟩))
     have hts:=hts.out;have hle:=hle.out;have hN:=HN.out;have hB:=HB.out;have hlen:=hlen.out;have hdd:=hdd.out;rw[w64 (k+1:Int) Dw Dw];refine⟨⟨k+1,by omega,by push_cast;rfl,?_,hBw.out.trans (hB2.mono hBw.out.size),Dh (hb1.out.after hB2)⟩,by simp[intOf];omega⟩;rw[hdd];congr 1
     omega
   ·obtain rfl:k=kids.length:=by omega
    have hq1:¬ (kids.length:Int)<(kids.length:Int):=by omega
    go_wp2
    go_ret;exact⟨rfl,hBw⟩
end Prs
end
end Go.Proofs.YtcbkeecabcbogaaGreatDoor
