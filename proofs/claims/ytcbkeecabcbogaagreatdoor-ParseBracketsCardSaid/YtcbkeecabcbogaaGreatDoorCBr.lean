/- An expression in brackets: its tokens; it is the same expres -/
import Derived.Test.YtcbkeecabcbogaaGreatDoorBbo
import Derived.Test.YtcbkeecabcbogaaGreatDoorBbm
import Derived.Test.YtcbkeecabcbogaaGreatDoorBbk
import Derived.Test.YtcbkeecabcbogaaGreatDoorBbp
import Derived.Test.YtcbkeecabcbogaaGreatDoorBbq
set_option maxRecDepth 100000
set_option linter.unusedSimpArgs false
set_option linter.unusedVariables false
namespace Go.Proofs.YtcbkeecabcbogaaGreatDoor
section
namespace Prs
def signs (c:UInt8)(p:Nat):Nat→List Tok
 |0=>[]
 |n+1=>⟨4,[c],0,p⟩::signs c (p+1) n
theorem Qji:∀ (n:Nat) (m:List UInt8) (p cnt:Nat),cnt+n≤16384→lex (List.replicate n 40++m) p false cnt=Eu (signs 40 p n) (lex m (p+n) false (cnt+n))
 |0,m,p,cnt,_=>(Qac _).symm
 |n+1,m,p,cnt,h=>by
  rw[List.replicate_succ,List.cons_append,Qhi 40 _ p false cnt (.inl rfl) Dw,show ((40:UInt8)==41)=false from rfl,Qji n m (p+1) (cnt+1) Dw,show p+1+n=p+(n+1) by omega,show cnt+1+n=cnt+(n+1) by omega];generalize lex m _ _ _=r;cases r <;> rfl
theorem Qjg:∀ (n p cnt:Nat) (o:Bool),cnt+n+1<16384→lex (List.replicate (n+1) 41) p o cnt=.ok (signs 41 p (n+1)++[Zj (p+(n+1))])
 |0,p,cnt,o,h=>by
  rw[show List.replicate (0+1) (41:UInt8)=41::[] from rfl,Qhi 41 _ p o cnt (.inr (.inl rfl)) Dw,show ((41:UInt8)==41)=true from rfl,Jh,if_pos rfl,if_neg Dw];rfl
 |n+1,p,cnt,o,h=>by
  rw[List.replicate_succ,Qhi 41 _ p o cnt (.inr (.inl rfl)) Dw,Qjg n (p+1) (cnt+1) _ Dw,show p+1+(n+1)=p+(n+1+1) by omega];rfl
theorem Qb7 {l:List UInt8}{c:List Tok}{s:Tok}(h:Xk l=.ok (c++[s]))(hs:s.kind=5)(hn:Qh6 l)(n p cnt:Nat)(hb:cnt+2*n+c.length+2<16384):
  ∃ c' q0 sm,lex (List.replicate n 40++l++List.replicate n 41) p false cnt=.ok (signs 40 p n++(c'++(q0++(signs 41 (p+n+l.length) n++[sm]))))∧Ql6 c c'∧sm.kind=5∧Xl sm=Xl s∧(q0=[]∨(0<n∧∃ s',q0=[s']∧s'.kind=5)):=by
 obtain⟨h1,h2,h3⟩:=Y2 l _ h;have f1:=Qjh (p+n) l.length l 0 false 0 (Nat.le_refl _);rw[h1,Nat.zero_add] at f1;have f2:=Qm2 _ _ _ _ _ f1 (cnt+n) (by simp;omega);rw[Nat.zero_add] at f2;rw[List.append_assoc,Qji n _ p cnt Dw];cases n with
 |zero=>
  refine⟨c.map (shT p),[],shT p s,?_,Qcz _ _,hs,rfl,.inl rfl⟩;simp only[Nat.add_zero] at f2 ⊢;rw[List.replicate_zero,List.append_nil,f2];simp[signs,Eu]
 |succ n=>
  have hsep:Sep (List.replicate (n+1) 41):=⟨41,List.replicate n 41,rfl,.inr (.inl rfl)⟩;obtain⟨ts0,o,e1,e2,-,-⟩:=Qm3 hsep l _ _ _ _ f2 h2 (.inl hn);have hlen:ts0.length≤c.length+1:=by
   have:=congrArg List.length e1;simp at this;omega
  rw[e2,Qjg n _ _ _ Dw];rw[List.map_append] at e1;cases o with
  |true=>
   rw[if_pos rfl] at e1;have e3:=List.append_inj_left' e1 rfl;refine⟨c.map (shT (p+(n+1))),[],Zj (p+(n+1)+l.length+(n+1)),?_,Qcz _ _,rfl,?_,.inl rfl⟩
   ·rw[←e3];rfl
   ·have e4:=List.append_inj_right' e1 rfl;have e4:=(List.cons.inj e4).1;rw[show Xl s=Xl (shT (p+(n+1)) s) from rfl,e4];rfl
  |false=>
   rw[if_neg Dd,List.append_nil] at e1;have e5:Xl s=false:=Rf h c s rfl;refine⟨c.map (shT (p+(n+1))),[shT (p+(n+1)) s],Zj (p+(n+1)+l.length+(n+1)),?_,Qcz _ _,rfl,by rw[e5];rfl,.inr ⟨by omega,_,rfl,hs⟩⟩;rw[←e1];simp[Eu]
theorem Qoi {e:Nat}{x:Tr}{L q0 rest:List Tok}{p1 p2:Nat}(hq:q0=[]∨∃ s',q0=[s']∧s'.kind=5)(hr:∃ t m,rest=t::m∧(t.kind=5∨(t.kind=4∧t.text=Q4)))
  (h:∀ F,Xg e F 1 false L=none∨∃ x',Xg e F 1 false L=some (.ok (x',q0++⟨4,[41],0,p2⟩::rest))∧erT x=erT x'):
  ∀ F,Xg e F 1 false (⟨4,[40],0,p1⟩::L)=none∨∃ x',Xg e F 1 false (⟨4,[40],0,p1⟩::L)=some (.ok (x',rest))∧erT x=erT x':=by
 have hshut:Eb e Q4 (q0++⟨4,[41],0,p2⟩::rest)=ok p2 rest:=by
  rcases hq with rfl|⟨⟨k,x,n,p⟩,rfl,rfl⟩ <;> rfl
 obtain⟨t,m,rfl,ht⟩:=hr;have hsuf:∀ F x,V8 e F false x (t::m)=none∨V8 e F false x (t::m)=ok x (t::m):=by
  intro F x;cases F with
  |zero=>exact .inl (by unfold V8;rfl)
  |succ F=>
   right;have hi:∀ v,v≠Q4→isP v (t::m)=false:=by
    intro v hv;show ((t.kind==3||t.kind==4)&&t.text==v)=false
    rcases ht with ht|⟨-,ht⟩
    ·rw[ht];rfl
    ·rw[ht,show (Q4==v)=false from beq_false_of_ne (Ne.symm hv),Bool.and_false]
   unfold V8;rw[hi Zz Dd,hi wDot Dd,hi wSq Dd];rfl
 have hloop:∀ F x,Xv e F 1 false x (t::m)=none∨Xv e F 1 false x (t::m)=ok x (t::m):=by
  intro F x;cases F with
  |zero=>exact .inl (by unfold Xv;rfl)
  |succ F=>
   right;unfold Xv;have:strg (t::m)=0:=by
    show (if t.kind==4 then Vs t.text else 0)=0
    rcases ht with ht|⟨-,ht⟩
    ·rw[ht];rfl
    ·rw[ht];split <;> rfl
   rw[show (if Q9 (t::m)==4 then Vs (Zl (t::m)) else 0)=0 from this];rfl
 intro F;cases F with
 |zero=>exact .inl (by unfold Xg;rfl)
 |succ F=>
  unfold Xg;cases F with
  |zero=>exact .inl (by unfold Zy;rfl)
  |succ F=>
   rw[show Zy e (F+1) false (⟨4,[40],0,p1⟩::L)=andThen (Vm e F false (⟨4,[40],0,p1⟩::L)) fun x k=>V8 e F false x k by rw[Zy];rfl];cases F with
   |zero=>exact .inl (by unfold Vm;rfl)
   |succ F=>
    rw[show Vm e (F+1) false (⟨4,[40],0,p1⟩::L)=andThen (Xg e F 1 false L) fun x k=>andThen (Eb e Q4 k) fun _ m=>ok x m by rw[Vm];rfl];rcases h F with h|⟨x',h,hx⟩
    ·rw[h];exact .inl rfl
    ·rw[h];have e1:(andThen (some (.ok (x',q0++⟨4,[41],0,p2⟩::t::m))) fun x k=>andThen (Eb e Q4 k) fun _ m=>ok x m)=ok x' (t::m):=by
      show andThen (Eb e Q4 (q0++⟨4,[41],0,p2⟩::t::m)) (fun _ m=>ok x' m)=_
      rw[hshut];rfl
     rw[e1];rcases hsuf (F+1) x' with h2|h2
     ·left;show andThen (V8 e (F+1) false x' (t::m)) (fun x k=>Xv e (F+1+1) 1 false x k)=none
      rw[h2];rfl
     ·have e2:∀ r,Xv e (F+1+1) 1 false x' (t::m)=r→(andThen (andThen (ok x' (t::m)) fun x k=>V8 e (F+1) false x k) fun x k=>Xv e (F+1+1) 1 false x k)=r:=fun r hr=>by
       show andThen (V8 e (F+1) false x' (t::m)) (fun x k=>Xv e (F+1+1) 1 false x k)=r
       rw[h2];exact hr
      rcases hloop (F+1+1) x' with h3|h3
      ·exact .inl (e2 _ h3)
      ·exact .inr ⟨x',e2 _ h3,hx⟩
theorem Qfm (c:UInt8):∀ (n p:Nat),signs c p (n+1)=signs c p n++[⟨4,[c],0,p+n⟩]
 |0,p=>rfl
 |n+1,p=>by
  rw[signs,Qfm c n (p+1),signs,show p+1+n=p+(n+1) by omega];rfl
theorem Pz {e0 f0 e:Nat}{x:Tr}{c c':List Tok}{s:Tok}{q0:List Tok}(hs:s.kind=5)(hc:Xl s=false)(h:Xg e0 f0 1 false (c++[s])=some (.ok (x,[s])))(hl:Ql6 c c')(hq:q0=[]∨∃ s',q0=[s']∧s'.kind=5):
  ∀ (n p p2:Nat) (rest:List Tok),(∃ t m,rest=t::m∧(t.kind=5∨(t.kind=4∧t.text=Q4)))→∀ F,Xg e F 1 false (signs 40 p n++(c'++(q0++(signs 41 p2 n++rest))))=none∨∃ x',Xg e F 1 false (signs 40 p n++(c'++(q0++(signs 41 p2 n++rest))))=some (.ok (x',(if n=0 then q0 else [])++rest))∧erT x=erT x'
 |0,p,p2,rest,hr,F=>by
  obtain⟨t,m,rfl,ht⟩:=hr
  have H:Ends s (q0++t::m):=⟨hs,hc,.inr (by
   rcases hq with rfl|⟨s',rfl,h5⟩
   ·exact⟨t,m,rfl,ht.imp id fun h=>⟨h.1,.inl h.2⟩⟩
   ·exact⟨s',t::m,rfl,.inl h5⟩)⟩
  exact Qs2 H Ds hl h
 |n+1,p,p2,rest,hr,F=>by
  rw[Qfm 41,List.append_assoc (signs 41 p2 n)];have ih:=Pz (e:=e) hs hc h hl hq n (p+1) p2 (⟨4,[41],0,p2+n⟩::rest) ⟨_,_,rfl,.inr ⟨rfl,rfl⟩⟩
  exact Qoi (by
   split
   ·exact hq
   ·exact .inl rfl) hr ih F
theorem wh_rep (b:UInt8)(hb:b.toNat<128)(n:Nat):Wh (List.replicate n b):=Dc _ fun c hc=>by rw[(List.mem_replicate.1 hc).2];exact hb
def Qjn (n:Nat)(l:List UInt8):List UInt8:=List.replicate n 40++l++List.replicate n 41
theorem Qqr {l:List UInt8}(h:Wh l)(n:Nat):Wh (Qjn n l):=Qa8 (Qa8 (wh_rep 40 Dd n) h) (wh_rep 41 Dd n)
theorem Qhr {l:List UInt8}{x:Tr}{ts:List Tok}(h:Qbq l=some (.ok x))(ht:Xk l=.ok ts)(hn:Qh6 l)(hl:l.length+45≤65536)(htl:ts.length+45≤16384)(n:Nat)(h19:n≤19):
  ∃ x',Qbq (Qjn n l)=some (.ok x')∧erT x=erT x':=by
 obtain⟨c,s,h1,h2,h3,h4,h5⟩:=Ld h;rw[ht] at h1;cases h1;have hct:c.length+46≤16384:=by simp at htl;omega
 obtain⟨-,w1,-⟩:=Y2 l _ ht;obtain⟨c',q0,sm,e1,e2,e3,e4,e5⟩:=Qb7 ht h2 hn n 0 0 Dw;have htk:Xk (Qjn n l)=.ok (signs 40 0 n++(c'++(q0++(signs 41 (0+n+l.length) n++[sm])))):=by
  unfold Xk;rw[if_neg (by simp[Qjn];omega),if_neg (by rw[Qqr w1 n];exact Nat.lt_irrefl _)];exact e1
 obtain⟨k1,k2⟩:=D8 _ _ htk;unfold Qbq Nu;rw[htk];dsimp only;rcases Pz (e:=(Qjn n l).length) h2 h3 h4 e2 (e5.imp id And.right) n 0 (0+n+l.length) [sm] ⟨sm,[],rfl,.inl e3⟩ Jt with h6|⟨x',h6,h7⟩
 ·exact absurd h6 (Qsu (Qtm _ k1 k2))
 ·rw[h6];refine⟨x',?_,h7⟩;obtain⟨g1,g2,g3⟩:=Qgu h7;have hq0:((if n=0 then q0 else [])++[sm])=[sm]:=by
   split
   ·rename_i hn0;rcases e5 with rfl|⟨h0,-⟩
    ·rfl
    ·omega
   ·rfl
  show some (Qjx _ true (.ok (x',(if n=0 then q0 else [])++[sm])))=_
  rw[hq0];unfold Qjx Qbf;dsimp only;rw[show (Q9 [sm]==5)=true from beq_iff_eq.2 e3];simp only[Bool.and_self,if_true,List.tail_cons];rw[if_pos (by rw[←g1,←g2,←g3];exact h5)]
theorem lex_xdef (m:List UInt8)(hc:2≤16384):lex (120::32::58::61::32::m) 0 false 0=Eu [⟨1,[120],0,0⟩,⟨4,Jp,0,2⟩] (lex m 5 false 2):=by
 have n1:∀ m:List UInt8,noLD (32::m):=fun m => .inr ⟨32,m,rfl,by decide,by decide⟩
 have key:starts (58::61::32::m)=true∧Ui (58::61::32::m) 2=(⟨4,Jp,0,2⟩,2,0)∧Xl ⟨4,Jp,0,2⟩=false:=by
  refine⟨rfl,?_,rfl⟩;unfold Ui;rw[Td _ _ Dd];rfl
 obtain⟨k1,k2,k3⟩:=key;rw[Qm1 Dd Dd Dd rfl (n1 _) Dw,U9 _ _ _ _ _ Dd,Kt _ _ _ _ k1,k2];simp only[ne_eq,not_true_eq_false,if_false];rw[if_neg Dw,k3];show Ee _ (Ee _ (lex (32::m) 4 false 2))=_
 rw[U9 _ _ _ _ _ Dd];generalize lex m _ _ _=r;cases r <;> rfl
theorem Qgs {l:List UInt8}{x:Tr}{ts:List Tok}(h:Qbq l=some (.ok x))(ht:Xk l=.ok ts)(hn:Qh6 l)(hl:l.length+45≤65536)(htl:ts.length+45≤16384)(n:Nat)(h19:n≤19):
  ∃ x',stmtE ([120,32,58,61,32]++Qjn n l)=some (if Xc x+1≤16384∧Zm x+1≤64 then .ok (.mk 21 [120] 0 0 [x']) else .error (0,6))∧erT x=erT x':=by
 obtain⟨c,s,h1,h2,h3,h4,h5⟩:=Ld h;rw[ht] at h1;cases h1;have hct:c.length+46≤16384:=by simp at htl;omega
 obtain⟨-,w1,-⟩:=Y2 l _ ht;obtain⟨c',q0,sm,e1,e2,e3,e4,e5⟩:=Qb7 ht h2 hn n 5 2 Dw;have hw:Wh ([120,32,58,61,32]++Qjn n l):=Qa8 (Dc _ Dd) (Qqr w1 n);have htk:Xk ([120,32,58,61,32]++Qjn n l)=.ok (⟨1,[120],0,0⟩::⟨4,Jp,0,2⟩::(signs 40 5 n++(c'++(q0++(signs 41 (5+n+l.length) n++[sm]))))):=by
  unfold Xk;rw[if_neg (by simp[Qjn];omega),if_neg (by rw[hw];exact Nat.lt_irrefl _)];show lex (120::32::58::61::32::Qjn n l) 0 false 0=_
  rw[lex_xdef _ Dw];show Eu _ (lex (List.replicate n 40++l++List.replicate n 41) 5 false 2)=_
  rw[e1];rfl
 obtain⟨k1,k2⟩:=D8 _ _ htk;have hq0:((if n=0 then q0 else [])++[sm])=[sm]:=by
  split
  ·rename_i hn0;rcases e5 with rfl|⟨h0,-⟩
   ·rfl
   ·omega
  ·rfl
 have hB:=Pz (e:=([120,32,58,61,32]++Qjn n l).length) h2 h3 h4 e2 (e5.imp id And.right) n 5 (5+n+l.length) [sm] ⟨sm,[],rfl,.inl e3⟩;rw[hq0] at hB;have hne:=Qsu (Qmf ([120,32,58,61,32]++Qjn n l).length k1 k2);unfold stmtE Nu;rw[htk];dsimp only;generalize hM:(signs 40 5 n++(c'++(q0++(signs 41 (5+n+l.length) n++[sm]))))=M at *;generalize ([120,32,58,61,32]++Qjn n l).length=e at *;have hS:∀ F,He e (F+1+1) false (⟨1,[120],0,0⟩::⟨4,Jp,0,2⟩::M)=andThen (Xg e F 1 false M) fun x q=>ok (.mk 21 [120] 0 0 [x]) q:=fun F=>by
  rw[He];show Yw e (F+1) false (⟨1,[120],0,0⟩::⟨4,Jp,0,2⟩::M)=_
  rw[Yw];rfl
 rw[show Jt=199998+1+1 from rfl] at hne ⊢;rw[hS] at hne ⊢;rcases hB 199998 with h6|⟨x',h6,h7⟩
 ·rw[h6] at hne;exact absurd rfl hne
 ·rw[h6];refine⟨x',?_,h7⟩;obtain⟨g1,g2,g3⟩:=Qgu h7;show some (Qjx _ true (.ok (.mk 21 [120] 0 0 [x'],[sm])))=_
  unfold Qjx Qbf;dsimp only;rw[show (Q9 [sm]==5)=true from beq_iff_eq.2 e3];simp only[Bool.and_self,if_true,List.tail_cons];have hc1:(Ed (.mk 21 [120] 0 0 [x'])=true∧Xc (.mk 21 [120] 0 0 [x'])≤16384∧Zm (.mk 21 [120] 0 0 [x'])≤64)↔(Xc x+1≤16384∧Zm x+1≤64):=by
   have hf:Ed (.mk 21 [120] 0 0 [x'])=true:=by
    unfold Ed Wj Wj;rw[←g3,h5.1];rfl
   simp only[hf,Xc,Zk,Zm,Ti,←g1,←g2];constructor
   ·intro hh;have h1:=hh.2.1;have h2:=hh.2.2;exact⟨by omega,by omega⟩
   ·intro hh;have h1:=hh.1;have h2:=hh.2;exact⟨trivial,by omega,by omega⟩
  by_cases hc2:Xc x+1≤16384∧Zm x+1≤64
  ·rw[if_pos (hc1.2 hc2),if_pos hc2]
  ·rw[if_neg fun hh=>hc2 (hc1.1 hh),if_neg hc2]
end Prs
end
section
open Go.RowKit
namespace Prs
def Qg2:List UInt8→Bool
 | []=>false
 |b::m=>(b==47&&m.head? == some 47)||(b==59||Qg2 m)
theorem Qis {l:List UInt8}(h:Qg2 l=false):∀ k,Qg2 (l.drop k)=false:=by
 intro k;induction k generalizing l with
 |zero=>exact h
 |succ k ih=>
  cases l with
  |nil=>rfl
  |cons b m=>
   unfold Qg2 at h;simp only[Bool.or_eq_false_iff] at h;exact ih h.2.2
theorem Qrw {l:List UInt8}(h:Qg2 l=false):Qh6 l∧∀ b∈l,b≠59:=by
 refine⟨fun k=>?_,fun b hb=>?_⟩
 ·have h:=Qis h k;generalize l.drop k=m at *;cases m with
  |nil=>rfl
  |cons b m=>
   unfold Qg2 at h;simp only[Bool.or_eq_false_iff] at h;have h:=h.1;unfold Z7;cases m with
   |nil=>simp[List.isPrefixOf]
   |cons c m=>
    simp only[List.head?_cons,Bool.and_eq_false_iff,beq_eq_false_iff_ne,ne_eq,Option.some.injEq] at h;simp only[List.isPrefixOf,Bool.and_true,Bool.and_eq_false_iff,beq_eq_false_iff_ne,ne_eq];rcases h with h|h
    ·exact .inl (Ne.symm h)
    ·exact .inr (Ne.symm h)
 ·obtain⟨i,hi,rfl⟩:=List.getElem_of_mem hb;have h:=Qis h i;rw[List.drop_eq_getElem_cons hi] at h;unfold Qg2 at h;simp only[Bool.or_eq_false_iff,beq_eq_false_iff_ne] at h;exact h.2.1
theorem remark_c (s:ByteArray)(hs:s.size≤maxLen)(w:World):Calls Tryz.prog 12 #[.string s] w fun e w'=>e=.returned (.bool (Qg2 (bl s)))∧w=w':=by
 unfold maxLen at hs;go_enter Tryz.func12,Tryz.ntmps12
 go_wp2
 go_loopw [3] (fun i wr=>∃ j:Nat,i=.int .i64 j∧j≤s.size∧Hid (Qg2 ((bl s).drop j)=Qg2 (bl s))∧wr=w) (fun i _=>s.size-(intOf i).toNat)
 case atStart=>exact⟨0,rfl,Nat.zero_le _,Dh rfl,rfl⟩
 case round=>
  obtain⟨j,rfl,hj,hq,rfl⟩:=hrel;by_cases hlt:j<s.size
  ·have h1:=hq.out;rw[drop_at s j hlt,Qg2] at h1;have t59:=Qbs s[j] 59 59 Dd;have t47:=Qbs s[j] 47 47 Dd;have hlt1:(j:Int)<(s.size:Int):=by omega
   have hj1:wrap64 ((j:Int)+1)=(j:Int)+1:=by unfold wrap64;omega
   clear hq;have next:∀ {x:Bool},x=false→(x||(false||Qg2 ((bl s).drop (j+1))))=Qg2 (bl s)→Hid (Qg2 ((bl s).drop (j+1))=Qg2 (bl s)):=fun hx h=>by
    subst hx;exact Dh h
   cases b59:(s[j]==59) with
   |true=>
    rw[b59] at t59 h1;have b47:(s[j]==47)=false:=by rw[beq_iff_eq.1 b59];rfl
    rw[b47] at t47 h1;have H1:=Dh (show true=Qg2 (bl s) from h1);clear h1 b59 b47 next;go_wp2
    go_ret;exact⟨by rw[←H1.out];rfl,rfl⟩
   |false=>
    rw[b59] at t59 h1;cases b47:(s[j]==47) with
    |false=>
     rw[b47] at t47 h1;have H1:=next rfl h1;clear h1 b59 b47 next;go_wp2
     exact⟨⟨j+1,by go_num,hlt,H1,trivial⟩,by simp[intOf];omega⟩
    |true=>
     rw[b47] at t47 h1;by_cases hl2:j+1<s.size
     ·have hl3:(j:Int)+1<(s.size:Int):=by omega
      rw[drop_at s (j+1) hl2] at h1;have t48:=Qbs s[j+1] 47 47 Dd;cases b48:(s[j+1]==47) with
      |true=>
       rw[b48] at t48;have H1:=Dh (show true=Qg2 (bl s) by rw[←h1];simp[beq_iff_eq.1 b48]);clear h1 b59 b47 b48 next;go_wp2
       go_ret;exact⟨by rw[←H1.out];rfl,rfl⟩
      |false=>
       rw[b48] at t48;have H1:=next (x:=false) rfl (by rw[←h1,drop_at s (j+1) hl2];simp[beq_eq_false_iff_ne.1 b48]);clear h1 b59 b47 b48 next;go_wp2
       exact⟨⟨j+1,by go_num,hlt,H1,trivial⟩,by simp[intOf];omega⟩
     ·have hl3:¬ (j:Int)+1<(s.size:Int):=by omega
      have e0:(bl s).drop (j+1)=[]:=List.drop_eq_nil_of_le (by rw[Xo];omega);have H1:=next (x:=false) rfl (by rw[←h1,e0];rfl);clear h1 b59 b47 next e0;go_wp2
      exact⟨⟨j+1,by go_num,hlt,H1,trivial⟩,by simp[intOf];omega⟩
  ·obtain rfl:j=s.size:=by omega
   have H1:=Dh (show false=Qg2 (bl s) by rw[←hq.out,List.drop_eq_nil_of_le (by rw[Xo];omega)];rfl);have hlt1:¬ (s.size:Int)<(s.size:Int):=by omega
   clear hq;go_wp2
   go_ret;exact⟨by rw[←H1.out];rfl,rfl⟩
theorem rdepth_c:∀ (n:Nat) (t:Tr) (S:Nat→Prop) (w:World) (v:Value),Xc t≤n→n≤4611686018427387904→Zt S w t v→Calls Tryz.prog 13 #[v] w fun e w'=>e=.returned (.int .i64 (Zm t:Int))∧Below w.heap.size w w':=by
 intro n;induction n with
 |zero=>intro t S w v h;cases t;unfold Xc at h;omega
 |succ n ih=>
  intro t S w v hn hbig h;cases t with
  |mk kd x nn pl kids=>
  unfold Xc at hn;unfold Zm;obtain⟨cs,he,hc⟩:=h;unfold Zo at hc;obtain⟨a,cp,rfl,hl⟩:=hc;subst he;have IH:=Dh ih;have HL:=Dh hl;have HN:=Dh hn;have HB:=Dh hbig;clear ih hl hn hbig;go_enter Tryz.func13,Tryz.ntmps13
  go_wp2
  go_loopw [3,4] (fun s i wr=>∃ k:Nat,k≤kids.length∧i=.int .i64 k∧s=.int .i64 ((Ti (kids.take k):Nat):Int)∧Below w.heap.size w wr∧RowKit.Hid (Jy w.heap.size (kd:Int) x nn pl a kids.length cp wr)) (fun _ i _=>kids.length-(intOf i).toNat)
  case atStart=>
   refine⟨0,Nat.zero_le _,rfl,by simp[Ti],(Below.refl _ _).alloc (Nat.le_refl _) _,Dh ?_⟩;exact Qz _ _
  case round=>
   obtain⟨k,hk,rfl,rfl,hBw,hb1⟩:=hrel;have q1:wr.cell? ⟨w.heap.size,4,none⟩=some (Value.slice a kids.length cp):=by
    have:=hb1.out;unfold Jy at this;simp[World.cell?,this]
   by_cases hlt:k<kids.length
   ·obtain⟨g,o,rfl,hg,hR⟩:=HL.out.resolve_left (by rintro rfl;simp at hlt);obtain⟨kid,hkid⟩:∃ u,kids[k]? = some u:=⟨_,List.getElem?_eq_getElem hlt⟩;obtain⟨u0,u1,u2,u3,u4,c0,c1,c2,c3,c4,hu⟩:=hR.at_ k kid hkid;rw[Nat.mul_comm 5 k] at c0 c1 c2 c3 c4;have hrg:=Dh (U2 (bc hBw c0) (bc hBw c1) (bc hBw c2) (bc hBw c3) (bc hBw c4));have hV:=Dh ((hu.agg).below hBw);have hts:=Dh (Hg hkid);have hle:=Dh (Fz kids (k+1));have hBw:=Dh hBw;have hd1:=Dh (Qhx kid);have hd2:=Dh (Qaw (kids.take k));have hdd:=Dh (Qet hkid);clear hR c0 c1 c2 c3 c4 hu hg;have hq1:(k:Int)<(kids.length:Int):=by omega
    have hlen:=Dh (U1 kids);have hw1:wrap64 ((Zm kid:Int)+1)=(Zm kid:Int)+1:=w64 _ Dw (by have:=hd1.out;have:=hts.out;have:=hle.out;have:=HN.out;have:=HB.out;omega);by_cases hgt:Ti (kids.take k)<Zm kid+1
    ·have hq2:(Ti (kids.take k):Int)<(Zm kid:Int)+1:=by omega
     go_wp2_with (first|((with_reducible refine wpList_load_mid rfl 26 _ rfl g (o+k*5) ?hx [u0,u1,u2,u3,u4] _ hrg.out Tryz.underlying26 rfl (Xa _ rfl) ?_);(case hx=>rfl))|(go_at_call 13;refine(IH.out kid S _ _ (by have:=HN.out;have:=hts.out;have:=hle.out;omega) (by have:=HB.out;omega) hV.out).mono ?_;rintro e W2 ⟨rfl,hB2⟩))
     have hts:=hts.out;have hle:=hle.out;have hN:=HN.out;have hB:=HB.out;have hlen:=hlen.out;have hdd:=hdd.out;rw[w64 (k+1:Int) Dw Dw];refine⟨⟨k+1,by omega,by push_cast;rfl,?_,hBw.out.trans (hB2.mono hBw.out.size),Dh (hb1.out.after hB2)⟩,by simp[intOf];omega⟩;rw[hdd];congr 1
     omega
    ·have hq2:¬ (Ti (kids.take k):Int)<(Zm kid:Int)+1:=by omega
     go_wp2_with (first|((with_reducible refine wpList_load_mid rfl 26 _ rfl g (o+k*5) ?hx [u0,u1,u2,u3,u4] _ hrg.out Tryz.underlying26 rfl (Xa _ rfl) ?_);(case hx=>rfl))|(go_at_call 13;refine(IH.out kid S _ _ (by have:=HN.out;have:=hts.out;have:=hle.out;omega) (by have:=HB.out;omega) hV.out).mono ?_;rintro e W2 ⟨rfl,hB2⟩))
     have hts:=hts.out;have hle:=hle.out;have hN:=HN.out;have hB:=HB.out;have hlen:=hlen.out;have hdd:=hdd.out;rw[w64 (k+1:Int) Dw Dw];refine⟨⟨k+1,by omega,by push_cast;rfl,?_,hBw.out.trans (hB2.mono hBw.out.size),Dh (hb1.out.after hB2)⟩,by simp[intOf];omega⟩;rw[hdd];congr 1
     omega
   ·obtain rfl:k=kids.length:=by omega
    have hq1:¬ (kids.length:Int)<(kids.length:Int):=by omega
    go_wp2
    go_ret;exact⟨rfl,hBw⟩
end Prs
end
section
open Go.RowKit
namespace Prs
set_option maxHeartbeats 8000000 in
theorem Qgn (s:ByteArray)(n0:Int)(hs:s.size≤maxLen)(h0:0≤n0)(h255:n0≤255)(w:World){f:Where}(hf:Rz w f):
  Calls Tryz.prog 5 #[.string s,.int .u8 n0] w fun e w'=>e=.returned (.bool true)∧Below w.heap.size w w':=by
 obtain⟨r,hr,hc⟩:=Qem s w hf hs;have HC:=Dh hc;have HR:=Dh hr;have HF:=Dh hf;have HA:=Dh fun w1 h1=>Qj8 w1 (f:=f) h1
 have HT:=Dh fun w1=>Eo s w1 hs
 have HM:=Dh fun w1=>remark_c s hs w1
 clear hc hf hr;obtain⟨N,hN⟩:∃ N:Nat,(N:Int)=n0 % 20:=⟨(n0 % 20).toNat,by omega⟩;have hNt:n0.tmod 20=(N:Int):=by rw[Int.tmod_eq_emod_of_nonneg h0,hN]
 have hN19:N≤19:=by omega
 unfold maxLen at hs;clear hN;go_enter Tryz.func5,Tryz.ntmps5
 go_wp2_with (first|(go_at_call 9;refine HC.out.mono ?_;intro e w1 hp;obtain⟨v0,v1,v2,v3,v4,a,c,rfl,hone,hB,hR⟩:=hp.row;clear hp;have hone:=Dh hone;have hB:=Dh hB;have hR:=Dh hR)|((with_reducible refine Tv rfl _ _ rfl rfl (v0:=v0) (v1:=v1) (v2:=v2) (v3:=v3) (v4:=v4) ?hx ?hy hone.out ?_);(case hx=>rfl);(case hy=>rfl);intro W1 hrw hB1;have hrw:=Dh hrw;have hB1:=Dh hB1))
 have hW1:=Dh (Qb hB.out hB1.out);go_loopw [8,9,10] (fun o sh i wr=>∃ k:Nat,k≤N∧i=.int .i64 k∧o=.string ⟨Array.replicate k 40⟩∧sh=.string ⟨Array.replicate k 41⟩∧wr=W1) (fun _ _ i _=>N-(intOf i).toNat)
 case atStart=>exact⟨0,Nat.zero_le _,rfl,rfl,rfl,rfl⟩
 case round=>
  obtain⟨k,hk,rfl,rfl,rfl,rfl⟩:=hrel;by_cases hlt:k<N
  ·have hq1:(k:Int)<(N:Int):=by omega
   go_wp2
   exact⟨⟨k+1,hlt,by go_num,by rw[Qrv],by rw[Qrv],trivial⟩,by simp[intOf];omega⟩
  ·obtain rfl:k=N:=by omega
   have hq1:¬ (k:Int)<(k:Int):=by omega
   go_wp2_with fail
   refine(HA.out _ (HF.out.below hW1.out)).mono ?_;rintro e w3 ⟨rfl,hw3⟩;have hW3:=Dh (Qb hW1.out hw3);cases r with
   |error pc=>
    obtain⟨p,c0⟩:=pc;have hc0:=expr_err HR.out;have he:=(hR.out w w1 (fun _ _ _=>rfl) (Nat.le_refl _) hB.out).1;obtain⟨-,-,hcc⟩:=tup3 he;have hcc:c=c0:=(Value.int.inj hcc).2;subst hcc;clear he;go_wp2_with fail
    refine(HA.out _ (HF.out.below hW3.out)).mono ?_;rintro e w4 ⟨rfl,hw4⟩;go_wp2
    go_ret;exact⟨rfl,Qb hW3.out hw4⟩
   |ok x=>
    obtain⟨y0,y1,y2,y3,y4,he,-,hV,-⟩:=(hR.out w w1 (fun _ _ _=>rfl) (Nat.le_refl _) hB.out).Qr9;obtain⟨hag,ha0,hc0⟩:=tup3 he;have ha0:a=0:=(Value.int.inj ha0).2;have hc0:c=0:=(Value.int.inj hc0).2;subst ha0 hc0;rw[←hag] at hV;have hV:=Dh (hV.below (hB1.out.mono Ds));clear hag he hR;obtain⟨cs,sm,ht,-,-,-,hfew,hsz,hdp⟩:=Ld HR.out;generalize hts:cs++[sm]=ts at ht;have hs3:s.size≤65536:=(Y2 _ _ ht).2.2;clear hs;have hfew:=Dh hfew;have hsz:=Dh hsz;have hdp:=Dh hdp;clear hts;by_cases hbig:65536<s.size+45
    ·have hq2:(65536:Int)<(s.size:Int)+45:=by omega
     go_wp2_with fail
     refine(HA.out _ (HF.out.below hW3.out)).mono ?_;rintro e w4 ⟨rfl,hw4⟩;go_wp2
     go_ret;exact⟨rfl,Qb hW3.out hw4⟩
    ·have hq2:decide ((65536:Int)<(s.size:Int)+45)=false:=decide_eq_false Dw;have hws:wrap64 ((s.size:Int)+45)=(s.size:Int)+45:=w64 _ Dw Dw;have ht:=Dh ht;have hs3:=Dh hs3;have hbig:=Dh hbig;have hN19:=Dh hN19;go_wp2_with fail
     refine(HT.out _).mono ?_;rintro e w4 ⟨⟨tv,ti,tc,rfl,htv⟩,hw4⟩;rw[show Xk (bl s)=.ok ts from ht.out] at htv;obtain⟨rfl,rfl,hown⟩:=htv;have hlen4:=Tq hown;have hW4:=Dh (Qb hW3.out hw4);have hln:=Dh (D8 _ _ ht.out).2;have hwl:wrap64 ((ts.length:Int)+45)=(ts.length:Int)+45:=w64 _ Dw (by have:=hln.out;omega);clear hq2 hws;by_cases htl:16384<ts.length+45
     ·have hq3:decide ((16384:Int)<(ts.length:Int)+45)=true:=decide_eq_true Dw;have htl:=Dh htl;go_wp2
      go_ret;exact⟨rfl,hW4.out⟩
     ·have hq3:decide ((16384:Int)<(ts.length:Int)+45)=false:=decide_eq_false Dw;have htl:=Dh htl;go_wp2_with fail
      refine(HM.out _).mono ?_;rintro e w5 ⟨rfl,rfl⟩;cases hrem:Qg2 (bl s) with
      |true=>
       go_wp2
       go_ret;exact⟨rfl,hW4.out⟩
      |false=>
       obtain⟨x1,hx1,hx1e⟩:=Qhr HR.out ht.out (Qrw hrem).1 (by rw[show s.data.toList.length=s.size from rfl];have:=hbig.out;omega) (by have:=htl.out;omega) k hN19.out;obtain⟨x2,hx2,hx2e⟩:=Qgs HR.out ht.out (Qrw hrem).1 (by rw[show s.data.toList.length=s.size from rfl];have:=hbig.out;omega) (by have:=htl.out;omega) k hN19.out;have HX1:=Dh hx1;have HX2:=Dh hx2;have HE1:=Dh hx1e;have HE2:=Dh hx2e;clear hx1 hx2 hx1e hx2e hlen4 hwl hq3 hown hrem;have hz1:(⟨Array.replicate k 40⟩:ByteArray).size=k:=by show (Array.replicate k (40:UInt8)).size=k;simp
       have hz2:(⟨Array.replicate k 41⟩:ByteArray).size=k:=by show (Array.replicate k (41:UInt8)).size=k;simp
       have hz3:(⟨Array.replicate k 40⟩++s:ByteArray).size=k+s.size:=by rw[ByteArray.size_append,hz1]
       have hd1:(⟨Array.replicate k 40⟩++s++⟨Array.replicate k 41⟩:ByteArray).data.toList=Qjn k s.data.toList:=by simp[Qjn]
       obtain⟨r1,hr1,hc1⟩:=Qem (⟨Array.replicate k 40⟩++s++⟨Array.replicate k 41⟩) w4 (HF.out.below hW4.out) (by rw[ByteArray.size_append,hz3,hz2];have:=hs3.out;have:=hN19.out;unfold maxLen;omega);rw[hd1,HX1.out] at hr1;cases hr1;have HC1:=Dh hc1;clear hc1;have hkk:=hN19.out;have hss:=hs3.out;go_wp2_with (first|(go_at_call 9;refine HC1.out.mono ?_;intro e w6 hp;obtain⟨b0,b1,b2,b3,b4,rfl,hone1,hVb,hB6⟩:=hp.Qr9;clear hp;have hone1:=Dh hone1;have hVb:=Dh hVb;have hB6:=Dh hB6)|((with_reducible refine Tv rfl _ _ rfl rfl (v0:=b0) (v1:=b1) (v2:=b2) (v3:=b3) (v4:=b4) ?hx ?hy hone1.out ?_);(case hx=>rfl);(case hy=>rfl);intro W6 hrw6 hB7;have hrw6:=Dh hrw6;have hB7:=Dh hB7))
       have hW6:=Dh (Qb (Qb hW4.out hB6.out) hB7.out);have hV6:=Dh ((((hV.out.below hw3).below hw4).below hB6.out).below hB7.out);have hVb6:=Dh (hVb.out.below hB7.out);have HRa6:=Dh (((((show Qp3 w1.heap.size v0 v1 v2 v3 v4 wr from hrw.out).after hw3).after hw4).after hB6.out).after hB7.out);have HRb6:=Dh (show Qp3 w6.heap.size b0 b1 b2 b3 b4 W6 from hrw6.out);have hd2:(⟨#[120,32,58,61,32]⟩++⟨Array.replicate k 40⟩++s++⟨Array.replicate k 41⟩:ByteArray).data.toList=[120,32,58,61,32]++Qjn k s.data.toList:=by simp[Qjn]
       obtain⟨r2,hr2,hc2⟩:=Qq8 (⟨#[120,32,58,61,32]⟩++⟨Array.replicate k 40⟩++s++⟨Array.replicate k 41⟩) W6 (HF.out.below hW6.out) (by rw[ByteArray.size_append,ByteArray.size_append,ByteArray.size_append,hz1,hz2];show 5+k+s.size+k≤_;unfold maxLen;omega);rw[hd2,HX2.out] at hr2;cases hr2;have HS:=Dh (fun W=>Qrl 16384 x x1 (fun _=>True) W (.agg #[v0,v1,v2,v3,v4]) (.agg #[b0,b1,b2,b3,b4]) hsz.out Dw);have HD:=Dh (fun W=>rdepth_c 16384 x (fun _=>True) W (.agg #[v0,v1,v2,v3,v4]) hsz.out Dw);have HZ:=Dh (fun W=>Qkx 16384 x (fun _=>True) W (.agg #[v0,v1,v2,v3,v4]) hsz.out Dw);have hst:=Dh (Qgy HE1.out);clear hB6 hB7 hrw6 hVb hrw hV hw3 hw4 hd1 hd2;by_cases hcond:Xc x+1≤16384∧Zm x+1≤64
       ·rw[if_pos hcond] at hc2;have HC2:=Dh hc2;have hne1:((Zm x:Int)==64)=false:=beq_false_of_ne Dw;have hne2:((Xc x:Int)==16384)=false:=beq_false_of_ne Dw;have hcond:=Dh hcond;clear hc2;go_wp2_with (first|(go_at_call 16;refine HC2.out.mono ?_;intro e w7 hp;obtain⟨c0,c1,c2,c3,c4,rfl,hone2,hVc,hB8⟩:=hp.Qr9;clear hp;have hone2:=Dh hone2;have hVc:=Dh hVc;have hB8:=Dh hB8)|((with_reducible refine Tv rfl _ _ rfl rfl (v0:=c0) (v1:=c1) (v2:=c2) (v3:=c3) (v4:=c4) ?hx ?hy hone2.out ?_);(case hx=>rfl);(case hy=>rfl);intro W8 hrw8 hB9;have HRc:=Dh (show Qp3 w7.heap.size c0 c1 c2 c3 c4 W8 from hrw8);have hB9:=Dh hB9;have HRa:=Dh ((HRa6.out.after hB8.out).after hB9.out);have HRb:=Dh ((HRb6.out.after hB8.out).after hB9.out);have hW8:=Dh (Qb (Qb hW6.out hB8.out) hB9.out);have hV8:=Dh ((hV6.out.below hB8.out).below hB9.out);have hVb8:=Dh ((hVb6.out.below hB8.out).below hB9.out);have hVc8:=Dh (hVc.out.below hB9.out);obtain⟨ea0,ea1,ea2,ea3,ea4,-⟩:=X0 HRa.out;obtain⟨eb0,eb1,eb2,eb3,eb4,-⟩:=X0 HRb.out;clear hB8 hB9 hVc hVb6 hV6 HRa6 HRb6)|(go_at_call 11;refine(HS.out _ hV8.out hVb8.out).mono ?_;rintro e w9 ⟨rfl,hB10⟩;rw[hst.out];clear ea0 ea1 ea2 ea3 ea4 eb0 eb1 eb2 eb3 eb4;have HRa:=Dh (HRa.out.after hB10);have HRc:=Dh (HRc.out.after hB10);have hV9:=Dh (hV8.out.below hB10);have hVc9:=Dh (hVc8.out.below hB10);have hW9:=Dh (Qb hW8.out hB10);obtain⟨ea0,ea1,ea2,ea3,ea4,-⟩:=X0 HRa.out;clear hB10 hV8 hVc8 hVb8 HRb)|(go_at_call 13;refine(HD.out _ hV9.out).mono ?_;rintro e w10 ⟨rfl,hB11⟩;clear ea0 ea1 ea2 ea3 ea4;have HRa:=Dh (HRa.out.after hB11);have HRc:=Dh (HRc.out.after hB11);have hV10:=Dh (hV9.out.below hB11);have hVc10:=Dh (hVc9.out.below hB11);have hW10:=Dh (Qb hW9.out hB11);obtain⟨ea0,ea1,ea2,ea3,ea4,-⟩:=X0 HRa.out;clear hB11 hV9 hVc9)|(go_at_call 14;refine(HZ.out _ hV10.out).mono ?_;rintro e w11 ⟨rfl,hB12⟩;clear ea0 ea1 ea2 ea3 ea4;have HRa:=Dh (HRa.out.after hB12);have HRc:=Dh (HRc.out.after hB12);have hV11:=Dh (hV10.out.below hB12);have hVc11:=Dh (hVc10.out.below hB12);have hW11:=Dh (Qb hW10.out hB12);clear hB12 hV10 hVc10))
        refine wp_region_held_drew (S:=fun w'=>w'.rangeAt w1.heap.size 0 [v0,v1,v2,v3,v4]∧w'.rangeAt w7.heap.size 0 [c0,c1,c2,c3,c4]) Dk ⟨HRa.out.range,HRc.out.range⟩ (fun hHeld=>?_);have hV0:=Dh (hV11.out.below (Below.refl w11.heap.size w11).drew);have hVc0:=Dh (hVc11.out.below (Below.refl w11.heap.size w11).drew);have hB0:=Dh (Qb hW11.out (Below.refl w11.heap.size w11).drew);generalize w11.drew=W0 at *;refine Zg 0 103 (v:=.int .i64 0) rfl rfl Dk Dk Dk (fun _ _ _ h=>h) Dk Da ?_ ?_
        ·(intro w hSw;(try dsimp only at hSw);go_simp;try first|with_reducible rfl|rfl)
        try simp only[Act.put,List.setIfInBounds_toArray,List.set_cons_zero,List.set_cons_succ]
        refine Zg 1 104 (v:=.bool true) rfl rfl Dk Dk Dk (fun _ _ _ h=>h) Dk Da ?_ ?_
        ·(intro w hSw;(try dsimp only at hSw);go_simp;try first|with_reducible rfl|rfl)
        try simp only[Act.put,List.setIfInBounds_toArray,List.set_cons_zero,List.set_cons_succ]
        refine Zg 2 105 (v:=.bool true) rfl rfl Dk Dk Dk (fun _ _ _ h=>h) Dk Da ?_ ?_
        ·(intro w hSw;(try dsimp only at hSw);go_simp;try first|with_reducible rfl|rfl)
        try simp only[Act.put,List.setIfInBounds_toArray,List.set_cons_zero,List.set_cons_succ]
        refine Ej 3 106 rfl rfl Dk Dk Dk (fun _ _ _ _ h=>h) Dk Da 26 _ rfl w7.heap.size 0 rfl [c0,c1,c2,c3,c4] _ (fun w hSw=>hSw.2) Tryz.underlying26 rfl (Xa _ rfl) ?_;try simp only[Act.put,List.setIfInBounds_toArray,List.set_cons_zero,List.set_cons_succ]
        refine Ej 4 107 rfl rfl Dk Dk Dk (fun _ _ _ _ h=>h) Dk Da 26 _ rfl w1.heap.size 0 rfl [v0,v1,v2,v3,v4] _ (fun w hSw=>hSw.1) Tryz.underlying26 rfl (Xa _ rfl) ?_;try simp only[Act.put,List.setIfInBounds_toArray,List.set_cons_zero,List.set_cons_succ]
        refine Qak 5 108 rfl rfl Dk Dk (fun K hK=>?_);go_simp;refine(own_c 16384 x (fun _=>True) W0 (.agg #[v0,v1,v2,v3,v4]) hsz.out Dw hV0.out).mono ?_;rintro e W2 ⟨v',rfl,⟨kd',x',nn',pl',kids',vv,hkd,rfl,hO⟩,hB2⟩;dsimp only;have hO:=Dh hO;have hkd:=Dh hkd;refine hK.out _ _ ⟨Xn hHeld.1 hB2,Xn hHeld.2 hB2⟩ (fun hHeld2=>?_);have hVc2:=Dh (hVc0.out.below hB2);have hB3:=Dh (Qb hB0.out hB2);clear hK K hHeld hB2;try simp only[Act.put,List.setIfInBounds_toArray,List.set_cons_zero,List.set_cons_succ]
        refine J7 6 rfl Dk Dk (fun K hK=>?_);refine Fh _ rfl rfl ?_;have hal:=(Below.refl W2.heap.size W2).alloc (Nat.le_refl _) (.cells #[Value.int .i64 (kd':Int),.string ⟨x'.toArray⟩,.int .u64 (nn':Int),.int .i64 (pl':Int),vv] 26);have hN3:Zt (fun _=>True) (W2.alloc (.cells #[Value.int .i64 (kd':Int),.string ⟨x'.toArray⟩,.int .u64 (nn':Int),.int .i64 (pl':Int),vv] 26)) (.mk 21 [120] 0 0 [x]) (.agg #[.int .i64 21,.string ⟨#[120]⟩,.int .u64 0,.int .i64 0,.slice (some ⟨W2.heap.size,0,none⟩) 1 1]):=by
         refine⟨[.int .i64 21,.string ⟨#[120]⟩,.int .u64 0,.int .i64 0,.slice (some ⟨W2.heap.size,0,none⟩) 1 1],rfl,?_⟩;unfold Zo;refine⟨some ⟨W2.heap.size,0,none⟩,1,rfl,.inr ⟨W2.heap.size,0,rfl,trivial,?_⟩⟩;refine Ul.row (cs:=[Value.int .i64 (kd':Int),.string ⟨x'.toArray⟩,.int .u64 (nn':Int),.int .i64 (pl':Int),vv]) (Ul.single ?_) fun j u hj=>?_
         ·rw[hkd.out];exact(hO.out.node kd' x' nn' pl').frame (fun _ _ _=>trivial) fun k _ hk=>Below.heap_alloc _ _ _ hk
         ·have:=Qh3 (w:=W2) (t:=26) j u hj;rw[Lib.add_plain] at this;exact this
        refine hK.out _ _ ⟨Xn hHeld2.1 hal,Xn hHeld2.2 hal⟩ (fun hHeld3=>?_);have hN3:=Dh hN3;have hVc3:=Dh (hVc2.out.below hal);have hB4:=Dh (Qb hB3.out hal);clear hK K hHeld2 hal;try simp only[Act.put,List.setIfInBounds_toArray,List.set_cons_zero,List.set_cons_succ]
        generalize W2.alloc (.cells #[Value.int .i64 (kd':Int),.string ⟨x'.toArray⟩,.int .u64 (nn':Int),.int .i64 (pl':Int),vv] 26)=W3 at *;refine Zg 7 110 (v:=.agg #[.int .i64 21,.string ⟨#[120]⟩,.int .u64 0,.int .i64 0,.slice (some ⟨W2.heap.size,0,none⟩) 1 1]) rfl rfl Dk Dk Dk (fun _ _ _ h=>h) Dk Da ?_ ?_
        ·(intro w hSw;(try dsimp only at hSw);go_simp;try first|with_reducible rfl|rfl)
        try simp only[Act.put,List.setIfInBounds_toArray,List.set_cons_zero,List.set_cons_succ]
        refine Qak 8 111 rfl rfl Dk Dk (fun K hK=>?_);go_simp;refine(Qrl 16385 (.mk 21 [120] 0 0 [x2]) (.mk 21 [120] 0 0 [x]) (fun _=>True) W3 (.agg #[c0,c1,c2,c3,c4]) (.agg #[.int .i64 21,.string ⟨#[120]⟩,.int .u64 0,.int .i64 0,.slice (some ⟨W2.heap.size,0,none⟩) 1 1]) (by simp only[Xc,Zk];have:=(Qgu HE2.out).1;have:=hcond.out.1;omega) Dw hVc3.out hN3.out).mono ?_;rintro e W4 ⟨rfl,hB5⟩;dsimp only;rw[Qgy (x:=.mk 21 [120] 0 0 [x2]) (y:=.mk 21 [120] 0 0 [x]) (by simp only[erT,erL,HE2.out])];refine hK.out _ _ ⟨Xn hHeld3.1 hB5,Xn hHeld3.2 hB5⟩ (fun hHeld4=>?_);have hB6:=Dh (Qb hB4.out hB5);clear hK K hHeld3 hB5;try simp only[Act.put,List.setIfInBounds_toArray,List.set_cons_zero,List.set_cons_succ]
        refine Zg 9 112 (v:=.bool true) rfl rfl Dk Dk Dk (fun _ _ _ h=>h) Dk Da ?_ ?_
        ·(intro w hSw;(try dsimp only at hSw);go_simp;try first|with_reducible rfl|rfl)
        try simp only[Act.put,List.setIfInBounds_toArray,List.set_cons_zero,List.set_cons_succ]
        refine Zg 10 4 (v:=.bool true) rfl rfl Dk Dk Dk (fun _ _ _ h=>h) Dk Da ?_ ?_
        ·(intro w hSw;(try dsimp only at hSw);go_simp;try first|with_reducible rfl|rfl)
        try simp only[Act.put,List.setIfInBounds_toArray,List.set_cons_zero,List.set_cons_succ]
        refine⟨by kernel_rfl,?_⟩;go_wp2
        go_ret;exact⟨rfl,hB6.out⟩
       ·rw[if_neg hcond] at hc2;have HC2:=Dh hc2;clear hc2;by_cases h64:Zm x=64
        ·have hne1:((Zm x:Int)==64)=true:=by rw[h64];rfl
         have h64:=Dh h64;have hcond:=Dh hcond;go_wp2_with (first|(go_at_call 16;refine HC2.out.mono ?_;rintro e w7 ⟨rfl,hB8⟩;have hB8:=Dh hB8)|((with_reducible refine Tv rfl _ _ rfl rfl (v0:=.int .i64 0) (v1:=.string ⟨#[]⟩) (v2:=.int .u64 0) (v3:=.int .i64 0) (v4:=.slice none 0 0) ?hx ?hy (by simp[Value.oneCell']) ?_);(case hx=>rfl);(case hy=>rfl);intro W8 hrw8 hB9;have hB9:=Dh hB9;have HRa:=Dh ((HRa6.out.after hB8.out).after hB9.out);have HRb:=Dh ((HRb6.out.after hB8.out).after hB9.out);have hW8:=Dh (Qb (Qb hW6.out hB8.out) hB9.out);have hV8:=Dh ((hV6.out.below hB8.out).below hB9.out);have hVb8:=Dh ((hVb6.out.below hB8.out).below hB9.out);obtain⟨ea0,ea1,ea2,ea3,ea4,-⟩:=X0 HRa.out;obtain⟨eb0,eb1,eb2,eb3,eb4,-⟩:=X0 HRb.out;clear hB8 hB9 hVb6 hV6 HRa6 HRb6)|(go_at_call 11;refine(HS.out _ hV8.out hVb8.out).mono ?_;rintro e w9 ⟨rfl,hB10⟩;rw[hst.out];clear ea0 ea1 ea2 ea3 ea4 eb0 eb1 eb2 eb3 eb4;have HRa:=Dh (HRa.out.after hB10);have hV9:=Dh (hV8.out.below hB10);have hW9:=Dh (Qb hW8.out hB10);obtain⟨ea0,ea1,ea2,ea3,ea4,-⟩:=X0 HRa.out;clear hB10 hV8 hVb8 HRb)|(go_at_call 13;refine(HD.out _ hV9.out).mono ?_;rintro e w10 ⟨rfl,hB11⟩;clear ea0 ea1 ea2 ea3 ea4;have HRa:=Dh (HRa.out.after hB11);have hV10:=Dh (hV9.out.below hB11);have hW10:=Dh (Qb hW9.out hB11);obtain⟨ea0,ea1,ea2,ea3,ea4,-⟩:=X0 HRa.out;clear hB11 hV9)|(go_at_call 14;refine(HZ.out _ hV10.out).mono ?_;rintro e w11 ⟨rfl,hB12⟩;clear ea0 ea1 ea2 ea3 ea4;have HRa:=Dh (HRa.out.after hB12);have hV11:=Dh (hV10.out.below hB12);have hW11:=Dh (Qb hW10.out hB12);clear hB12 hV10))
         go_ret;exact⟨rfl,hW10.out⟩
        ·have hne1:((Zm x:Int)==64)=false:=beq_false_of_ne Dw;have hne2:((Xc x:Int)==16384)=true:=beq_iff_eq.2 (by have:=hsz.out;have:=hdp.out;omega);have h64:=Dh h64;have hcond:=Dh hcond;go_wp2_with (first|(go_at_call 16;refine HC2.out.mono ?_;rintro e w7 ⟨rfl,hB8⟩;have hB8:=Dh hB8)|((with_reducible refine Tv rfl _ _ rfl rfl (v0:=.int .i64 0) (v1:=.string ⟨#[]⟩) (v2:=.int .u64 0) (v3:=.int .i64 0) (v4:=.slice none 0 0) ?hx ?hy (by simp[Value.oneCell']) ?_);(case hx=>rfl);(case hy=>rfl);intro W8 hrw8 hB9;have hB9:=Dh hB9;have HRa:=Dh ((HRa6.out.after hB8.out).after hB9.out);have HRb:=Dh ((HRb6.out.after hB8.out).after hB9.out);have hW8:=Dh (Qb (Qb hW6.out hB8.out) hB9.out);have hV8:=Dh ((hV6.out.below hB8.out).below hB9.out);have hVb8:=Dh ((hVb6.out.below hB8.out).below hB9.out);obtain⟨ea0,ea1,ea2,ea3,ea4,-⟩:=X0 HRa.out;obtain⟨eb0,eb1,eb2,eb3,eb4,-⟩:=X0 HRb.out;clear hB8 hB9 hVb6 hV6 HRa6 HRb6)|(go_at_call 11;refine(HS.out _ hV8.out hVb8.out).mono ?_;rintro e w9 ⟨rfl,hB10⟩;rw[hst.out];clear ea0 ea1 ea2 ea3 ea4 eb0 eb1 eb2 eb3 eb4;have HRa:=Dh (HRa.out.after hB10);have hV9:=Dh (hV8.out.below hB10);have hW9:=Dh (Qb hW8.out hB10);obtain⟨ea0,ea1,ea2,ea3,ea4,-⟩:=X0 HRa.out;clear hB10 hV8 hVb8 HRb)|(go_at_call 13;refine(HD.out _ hV9.out).mono ?_;rintro e w10 ⟨rfl,hB11⟩;clear ea0 ea1 ea2 ea3 ea4;have HRa:=Dh (HRa.out.after hB11);have hV10:=Dh (hV9.out.below hB11);have hW10:=Dh (Qb hW9.out hB11);obtain⟨ea0,ea1,ea2,ea3,ea4,-⟩:=X0 HRa.out;clear hB11 hV9)|(go_at_call 14;refine(HZ.out _ hV10.out).mono ?_;rintro e w11 ⟨rfl,hB12⟩;clear ea0 ea1 ea2 ea3 ea4;have HRa:=Dh (HRa.out.after hB12);have hV11:=Dh (hV10.out.below hB12);have hW11:=Dh (Qb hW10.out hB12);clear hB12 hV10))
         go_ret;exact⟨rfl,hW11.out⟩
end Prs
theorem walkParseBrackets (s:ByteArray)(n0:Int)(hs:s.size≤maxLen)(h0:0≤n0)(h255:n0≤255)(w:World)(h:∃ f,Prs.Rz w f):
  Calls Tryz.prog 5 #[.string s,.int .u8 n0] w fun e w'=>e=.returned (.bool true)∧Below w.heap.size w w':=by
 obtain⟨f,hf⟩:=h;exact Prs.Qgn s n0 hs h0 h255 w hf
end
end Go.Proofs.YtcbkeecabcbogaaGreatDoor
