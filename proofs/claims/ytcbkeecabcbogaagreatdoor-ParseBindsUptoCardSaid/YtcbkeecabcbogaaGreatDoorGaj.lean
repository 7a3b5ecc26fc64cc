/- The evaluator's regions that draw their order: the run in the text's order, and that every other order comes to the same. No program in sight. The evaluator's regions that draw their order, held ag -/
import Derived.Test.YtcbkeecabcbogaaGreatDoorGai
set_option linter.unusedSimpArgs false
set_option linter.unusedVariables false
namespace Go.Proofs.YtcbkeecabcbogaaGreatDoor
namespace Ev
open Go.RowKit
section
variable (P:Program) (K:Cfg)
def Step1 (F:Nat)(ops:Array Oper)(o:Oper)(s s':Loc)(h h':Tree AObj)(c c':Nat)(l:Log)(v:Value):Prop:=
 s'=s.put o.dst v∧((wantX ops s o=some true∧∃ g,g<F∧evOp P K g o (envOf K s) h c = .ok (.val v) h' c' l)∨
  (wantX ops s o=some false∧v=undef∧h'=h∧c'=c∧l = .no))
def StepP (pn:Option (Nat×Nat×Value))(F:Nat)(ops:Array Oper)(k:Nat)(o:Oper)(s s':Loc)(h h':Tree AObj)(c c':Nat)(l:Log)(v:Value):Prop:=
 s'=s.put o.dst v∧wantX ops s o=some true∧∃ m u,pn=some (k,m,u)∧∃ g,g<F∧evOp P K g o (envOf K s) h c = .ok (.pan u) h' c' l
def StepS (pn:Option (Nat×Nat×Value))(ops:Array Oper)(k:Nat)(o:Oper)(s s':Loc)(h h':Tree AObj)(c c':Nat)(l:Log)(v:Value):Prop:=
 s'=s.put o.dst v∧(∃ n m u,pn=some (n,m,u)∧(mk ops k).testBit n=true)∧h'=h∧c'=c∧l = .no
def StepX (pn:Option (Nat×Nat×Value))(F:Nat)(ops:Array Oper)(k:Nat)(o:Oper)(s s':Loc)(h h':Tree AObj)(c c':Nat)(l:Log)(v:Value):Prop:=
 ((∀ y,pn=some y→y.1≠k)∧Step1 P K F ops o s s' h h' c c' l v)∨StepP P K pn F ops k o s s' h h' c c' l v∨StepS pn ops k o s s' h h' c c' l v
structure Tr (pn:Option (Nat×Nat×Value))(F:Nat)(ops:Array Oper)(i:Nat)(done:List (Nat×Log))(s:Loc)(h:Tree AObj)(c:Nat)(S:Nat→Loc)(H:Nat→Tree AObj)(C:Nat→Nat)(L:Nat→Log)(V:Nat→Value):Prop where
 s0:S i=s
 h0:H i=h
 c0:C i=c
 step:∀ k,i≤k→k<ops.size→∃ o,ops[k]? = some o∧StepX P K pn F ops k o (S k) (S (k+1)) (H k) (H (k+1)) (C k) (C (k+1)) (L k) (V k)
 old:∀ k,i≤k→k<ops.size→∀ x∈done,(mk ops k).testBit x.1=false→NoClash x.2 (L k)
 new:∀ j k,i≤j→j<k→k<ops.size→(mk ops k).testBit j=false→NoClash (L j) (L k)
def NewW (a b w:Nat):Prop:=∀ k,w.testBit k=true→a≤k∧k<b
theorem isNew_ok {a b w:Nat}(h:isNew a b w=true):NewW a b w:=fun k hk=>by
 unfold isNew at h
 rw[Bool.and_eq_true] at h
 have h1:=Nat.eq_of_beq_eq_true h.1
 have h2:w<2 ^ b:=Nat.le_of_ble_eq_true h.2
 constructor
 ·rcases Nat.lt_or_ge k a with hlt|hge
  ·have h3:=Nat.testBit_mod_two_pow w a k
   rw[h1,hk,decide_eq_true hlt] at h3
   simp at h3
  ·exact hge
 ·rcases Nat.lt_or_ge k b with hlt|hge
  ·exact hlt
  ·have:=Nat.testBit_lt_two_pow (Nat.lt_of_lt_of_le h2 (Nat.pow_le_pow_right (by decide) hge))
   rw[hk] at this
   cases this
theorem newW_no {a b:Nat}:NewW a b Log.no.w:=fun k hk=>by simp[Log.no] at hk
def QuietTo (ops:Array Oper)(a b n i:Nat)(done:List (Nat×Log))(L:Nat→Log):Prop:=
 (∀ x∈done,x.1≠n→(mk ops n).testBit x.1=false→NewW a b x.2.w)∧∀ j,i≤j→j<ops.size→j≠n→(mk ops n).testBit j=false→NewW a b (L j).w
def Fin1 (pn:Option (Nat×Nat×Value))(c0:Nat)(ops:Array Oper)(i:Nat)(done:List (Nat×Log))(x:XE)(s':Loc)(h':Tree AObj)(c':Nat)(S:Nat→Loc)(H:Nat→Tree AObj)(C:Nat→Nat)(L:Nat→Log):Prop:=
 S ops.size=s'∧H ops.size=h'∧C ops.size=c'∧((pn=none∧x = .normal)∨∃ n m u,pn=some (n,m,u)∧n<ops.size∧x = .panic u (dstsOf ops)∧QuietTo ops c0 c' n i done L)
theorem quietAll_ok {a b n m:Nat}:∀ {d:List (Nat×Log)},quietAll a b n m d=true→∀ x∈d,x.1≠n→m.testBit x.1=false→NewW a b x.2.w
 | [],_,x,hx,_,_=>by simp at hx
 |(i,k) :: d,h,x,hx,hn,hm=>by
  unfold quietAll at h
  rw[Bool.and_eq_true] at h
  rcases List.mem_cons.1 hx with rfl|hx
  ·have h1:=h.1
   rw[hm,Bool.false_or,Bool.or_eq_true] at h1
   rcases h1 with h1|h1
   ·exact absurd (Nat.eq_of_beq_eq_true h1) hn
   ·exact isNew_ok h1
  ·exact quietAll_ok h.2 x hx hn hm
theorem draw_trace {ops:Array Oper}:∀ (f:Nat) (os:List Oper) (ms:List Nat) (i:Nat) (done:List (Nat×Log)) (pn0:Option (Nat×Nat×Value)) (c0:Nat) (s:Loc) (h:Tree AObj) (c:Nat) (x:XE) (s':Loc) (h':Tree AObj) (c':Nat) (l:Log),
  evDraw P K f ops os ms i done pn0 c0 s h c = .ok (x,s') h' c' l→os=ops.toList.drop i→ms=(msOf ops).drop i→i≤ops.size→(∀ n m u,pn0=some (n,m,u)→m=mk ops n∧n<i)→
  ∃ pn S H C L V,((∀ y,pn0=some y→pn=some y)∧(pn0=none→∀ y,pn=some y→i≤y.1))∧Tr P K pn f ops i done s h c S H C L V∧Fin1 pn c0 ops i done x s' h' c' S H C L
 |0,_,_,_,_,_,_,_,_,_,_,_,_,_,_,e,_,_,_,_=>by unfold evDraw at e;cases e
 |f+1,os,ms,i,done,pn0,c0,s,h,c,x,s',h',c',l,e,hos,hms,hi,hpn=>by
  unfold evDraw at e
  cases os with
  |nil=>
   have hz:=list_end hos
   obtain rfl:i=ops.size:=by omega
   cases pn0 with
   |none=>
    obtain⟨e3,rfl,rfl⟩:=pure_inv e
    cases e3
    exact⟨none,fun _=>s,fun _=>h',fun _=>c',fun _ => .no,fun _=>undef,⟨fun _ hy=>hy,fun _ _ hy=>by cases hy⟩,⟨rfl,rfl,rfl,fun k h1 h2=>by omega,fun k h1 h2=>by omega,fun j k h1 h2 h3=>by omega⟩,⟨rfl,rfl,rfl,.inl ⟨rfl,rfl⟩⟩⟩
   |some y=>
    obtain⟨n,m,u⟩:=y
    dsimp only at e
    split at e
    ·rename_i hq
     cases e
     obtain⟨rfl,hn⟩:=hpn n m u rfl
     exact⟨some (n,mk ops n,u),fun _=>s,fun _=>h,fun _=>c,fun _ => .no,fun _=>undef,⟨fun _ hy=>hy,fun hy=>by cases hy⟩,⟨rfl,rfl,rfl,fun k h1 h2=>by omega,fun k h1 h2=>by omega,fun j k h1 h2 h3=>by omega⟩,⟨rfl,rfl,rfl,.inr ⟨n,mk ops n,u,rfl,hn,rfl,quietAll_ok hq,fun j h1 h2=>by omega⟩⟩⟩
    ·cases e
  |cons o os=>
   obtain⟨g1,g2,g3⟩:=list_split hos
   have hisz:i<ops.size:=(Array.getElem?_eq_some_iff.1 g1).1
   cases ms with
   |nil=>cases e
   |cons m ms=>
    have hm:(msOf ops)[i]? = some m:=by
     have:=congrArg (·[0]?) hms
     simpa using this.symm
    have hmk:mk ops i=m:=by
     unfold mk
     rw[List.getD_eq_getElem?_getD,hm];rfl
    have hms':ms=(msOf ops).drop (i+1):=by
     have:=congrArg List.tail hms
     simpa using this
    have build:∀ (pn1:Option (Nat×Nat×Value)) (hp1:∀ y,pn0=some y→pn1=some y) (hp2:pn0=none→∀ z,pn1=some z→i≤z.1) (v:Value) (h1:Tree AObj) (c1:Nat) (l0:Log) (done':List (Nat×Log)) (hst:∀ pn,(∀ y,pn1=some y→pn=some y)→(pn1=none→∀ y,pn=some y→i+1≤y.1)→StepX P K pn (f+1) ops i o s (s.put o.dst v) h h1 c c1 l0 v) (hsub:∀ y∈done,y∈done') (hin:l0 = .no∨(i,l0)∈done') (hcl:∀ y∈done,(mk ops i).testBit y.1=false→NoClash y.2 l0)
      (hr:∃ pn S H C L V,((∀ y,pn1=some y→pn=some y)∧(pn1=none→∀ y,pn=some y→i+1≤y.1))∧Tr P K pn f ops (i+1) done' (s.put o.dst v) h1 c1 S H C L V∧Fin1 pn c0 ops (i+1) done' x s' h' c' S H C L),∃ pn S H C L V,((∀ y,pn0=some y→pn=some y)∧(pn0=none→∀ y,pn=some y→i≤y.1))∧Tr P K pn (f+1) ops i done s h c S H C L V∧Fin1 pn c0 ops i done x s' h' c' S H C L:=by
     rintro pn1 hp1 hp2 v h1 c1 l0 done' hst hsub hin hcl ⟨pn,S,H,C,L,V,⟨hpp,hpp2⟩,T,E⟩
     refine⟨pn,fun k=>if k≤i then s else S k,fun k=>if k≤i then h else H k,fun k=>if k≤i then c else C k,fun k=>if k≤i then l0 else L k,fun k=>if k≤i then v else V k,⟨fun y hy=>hpp y (hp1 y hy),fun h0 y hy => ?_⟩,?_,?_⟩
     ·cases pn1 with
      |none=>have:=hpp2 rfl y hy;omega
      |some z=>
       have:=hpp z rfl
       rw[hy] at this
       cases this
       exact hp2 h0 _ rfl
     ·refine⟨by simp,by simp,by simp,fun k h1' h2' => ?_,fun k h1' h2' y hy hb => ?_,fun j k h1' h2' h3' hb => ?_⟩
      ·by_cases e:k=i
       ·subst e
        refine⟨o,g1,?_⟩
        simp only[Nat.le_refl,if_true,if_neg (show ¬ k+1≤k by omega),T.s0,T.h0,T.c0]
        exact hst pn hpp hpp2
       ·obtain⟨o',q1,q2⟩:=T.step k (by omega) h2'
        refine⟨o',q1,?_⟩
        simp only[if_neg (show ¬ k≤i by omega),if_neg (show ¬ k+1≤i by omega)]
        rcases q2 with ⟨q0,q2,q3⟩|⟨q2,q3,m',u',q4,g,q5,q6⟩|q2
        ·exact .inl ⟨q0,q2,q3.imp (fun ⟨a,g,b,c⟩=>⟨a,g,by omega,c⟩) id⟩
        ·exact .inr (.inl ⟨q2,q3,m',u',q4,g,by omega,q6⟩)
        ·exact .inr (.inr q2)
      ·by_cases e:k=i
       ·subst e
        simp only[Nat.le_refl,if_true]
        exact hcl y hy hb
       ·simp only[if_neg (show ¬ k≤i by omega)]
        exact T.old k (by omega) h2' y (hsub y hy) hb
      ·simp only[if_neg (show ¬ k≤i by omega)]
       by_cases e:j=i
       ·subst e
        simp only[Nat.le_refl,if_true]
        rcases hin with rfl|hin
        ·exact(noClash_no _).2
        ·exact T.old k (by omega) h3' _ hin hb
       ·simp only[if_neg (show ¬ j≤i by omega)]
        exact T.new j k (by omega) h2' h3' hb
     ·have hn:¬ ops.size≤i:=by omega
      obtain⟨q1,q2,q3,q4⟩:=E
      refine⟨by simp only[if_neg hn];exact q1,by simp only[if_neg hn];exact q2,by simp only[if_neg hn];exact q3,?_⟩
      rcases q4 with q4|⟨n,m',u',k1,k2,k3,k4,k5⟩
      ·exact .inl q4
      ·refine .inr ⟨n,m',u',k1,k2,k3,fun y hy hb=>k4 y (hsub y hy) hb,fun j h1' h2' h3' hb => ?_⟩
       by_cases e:j=i
       ·subst e
        simp only[Nat.le_refl,if_true]
        rcases hin with rfl|hin
        ·exact newW_no
        ·exact k4 _ hin h3' hb
       ·simp only[if_neg (show ¬ j≤i by omega)]
        exact k5 j (by omega) h2' h3' hb
    have none_some:pn0=none→∀ z,pn0=some z→i≤z.1:=fun h1 z h2=>by rw[h1] at h2;cases h2
    have hpn':∀ n m u,pn0=some (n,m,u)→m=mk ops n∧n<i+1:=fun n m u hy=>⟨(hpn n m u hy).1,Nat.lt_succ_of_lt (hpn n m u hy).2⟩
    have away:∀ {pn:Option (Nat×Nat×Value)},(∀ y,pn0=some y→pn=some y)→(pn0=none→∀ y,pn=some y→i+1≤y.1)→∀ y,pn=some y→y.1≠i:=fun {pn} hp hp' y hy=>by
     cases h0:pn0 with
     |none=>have:=hp' h0 y hy;omega
     |some z=>
      have h1:=hp z h0
      rw[hy] at h1
      cases h1
      have:=(hpn y.1 y.2.1 y.2.2 h0).2
      omega
    dsimp only at e
    by_cases hbh:behind m pn0=true
    ·rw[if_pos hbh] at e
     refine build pn0 (fun _ hy=>hy) none_some undef h c .no done (fun pn hp hp' => .inr (.inr ⟨rfl,?_,rfl,rfl,rfl⟩)) (fun y hy=>hy) (.inl rfl) (fun y hy hb=>(noClash_no _).1)
      (draw_trace f os ms (i+1) _ _ _ _ _ _ _ _ _ _ _ e g2 hms' (by omega) hpn')
     cases pn0 with
     |none=>cases hbh
     |some y=>exact⟨y.1,y.2.1,y.2.2,hp y rfl,by rw[hmk];exact hbh⟩
    rw[if_neg hbh] at e
    cases hw:wantX ops s o with
    |none=>rw[hw] at e;cases e
    |some q=>
    cases q with
    |true=>
     rw[hw] at e
     try dsimp only at e
     cases ev:evOp P K f o (envOf K s) h c with
     |no=>rw[ev] at e;cases e
     |ok r h1 c1 l1=>
      rw[ev] at e
      cases r with
      |val v=>
       dsimp only at e
       by_cases hc:clash m l1 done=true
       ·rw[if_pos hc] at e;cases e
       ·rw[if_neg hc] at e
        cases ed:evDraw P K f ops os ms (i+1) ((i,l1) :: done) pn0 c0 (s.put o.dst v) h1 c1 with
        |no=>rw[ed] at e;cases e
        |ok q2 h2 c2 l2=>
         obtain⟨x2,s2⟩:=q2
         rw[ed] at e
         cases e
         exact build pn0 (fun _ hy=>hy) none_some v h1 c1 l1 ((i,l1) :: done) (fun pn hp hp' => .inl ⟨away hp hp',rfl,.inl ⟨hw,f,by omega,ev⟩⟩) (fun y hy=>by simp[hy]) (.inr (by simp)) (fun y hy hb=>clash_false (by simpa using hc) y hy (by rw[←hmk];exact hb))
          (draw_trace f os ms (i+1) _ _ _ _ _ _ _ _ _ _ _ ed g2 hms' (by omega) hpn')
      |pan v=>
       dsimp only at e
       by_cases hc:clash m l1 done=true
       ·rw[if_pos hc] at e;cases e
       ·rw[if_neg hc] at e
        cases pn0 with
        |some _=>cases e
        |none=>
         dsimp only at e
         cases ed:evDraw P K f ops os ms (i+1) ((i,l1) :: done) (some (i,m,v)) c0 (s.put o.dst undef) h1 c1 with
         |no=>rw[ed] at e;cases e
         |ok q2 h2 c2 l2=>
          obtain⟨x2,s2⟩:=q2
          rw[ed] at e
          cases e
          exact build (some (i,m,v)) (fun _ hy=>by cases hy) (fun _ z hz=>by cases hz;exact Nat.le_refl _) undef h1 c1 l1 ((i,l1) :: done) (fun pn hp hp' => .inr (.inl ⟨rfl,hw,m,v,hp _ rfl,f,by omega,ev⟩)) (fun y hy=>by simp[hy]) (.inr (by simp)) (fun y hy hb=>clash_false (by simpa using hc) y hy (by rw[←hmk];exact hb))
           (draw_trace f os ms (i+1) _ _ _ _ _ _ _ _ _ _ _ ed g2 hms' (by omega) (fun n m' u hy=>by cases hy;exact⟨hmk.symm,Nat.lt_succ_self _⟩))
      |_=>cases e
    |false=>
     rw[hw] at e
     try dsimp only at e
     exact build pn0 (fun _ hy=>hy) none_some undef h c .no done (fun pn hp hp' => .inl ⟨away hp hp',rfl,.inr ⟨hw,rfl,rfl,rfl,rfl⟩⟩) (fun y hy=>hy) (.inl rfl) (fun y hy hb=>(noClash_no _).1)
      (draw_trace f os ms (i+1) _ _ _ _ _ _ _ _ _ _ _ e g2 hms' (by omega) hpn')
end
end Ev
end Go.Proofs.YtcbkeecabcbogaaGreatDoor
namespace Go.Proofs.YtcbkeecabcbogaaGreatDoor
namespace Ev
open Go.RowKit
theorem Loc.rd_put (s:Loc)(d:Option Nat)(v:Value)(t:Nat):(s.put d v).rd t=if d=some t∧t<s.n then v else s.rd t:=by
 obtain⟨tm,n,ds⟩:=s
 cases d with
 |none=>simp[Loc.put]
 |some i=>
  unfold Loc.put
  dsimp only
  by_cases hi:i<n
  ·rw[show Nat.ble (Nat.succ i) n=true from Nat.ble_eq_true_of_le hi]
   dsimp only
   show (((tm.set i (some v)).get t)).getD undef=_
   rw[Tree.get_set]
   by_cases e:t=i
   ·subst e;rw[if_pos rfl,if_pos ⟨rfl,hi⟩];rfl
   ·rw[if_neg e,if_neg (by rintro⟨h1,-⟩;exact e (Option.some.inj h1).symm)];rfl
  ·rw[show Nat.ble (Nat.succ i) n=false by cases hb:Nat.ble (Nat.succ i) n with|false=>rfl|true=>exact absurd (Nat.le_of_ble_eq_true hb) hi]
   dsimp only
   rw[if_neg]
   rintro⟨h1,h2⟩
   have:i=t:=Option.some.inj h1
   subst this
   exact hi h2
theorem Loc.n_put (s:Loc)(d:Option Nat)(v:Value):(s.put d v).n=s.n:=by
 obtain⟨tm,n,ds⟩:=s
 cases d with
 |none=>rfl
 |some i=>unfold Loc.put;dsimp only;split <;> rfl
theorem Loc.ds_put (s:Loc)(d:Option Nat)(v:Value):(s.put d v).ds=s.ds:=by
 obtain⟨tm,n,ds⟩:=s
 cases d with
 |none=>rfl
 |some i=>unfold Loc.put;dsimp only;split <;> rfl
theorem last_none {β:Type}{W:Nat→Option β}{D:Nat→Bool}{x:β}:∀ n:Nat,(∀ i,i<n→D i=true→W i=none)→lastW W D x n=x
 |0,_=>rfl
 |n+1,h=>by
  have ih:=last_none (x:=x) n fun i hi=>h i (by omega)
  unfold lastW
  split
  ·rename_i hd
   rw[h n (by omega) hd,ih];rfl
  ·exact ih
theorem NoClash.symm {a b:Log}(h:NoClash a b):NoClash b a:=⟨fun i h1 h2=>h.2 i h2 h1,fun i h1 h2=>h.1 i h2 h1⟩
theorem Apart0.symm {ops:Array Oper}{a b:Oper}(h:Apart0 ops a b):Apart0 ops b a:=⟨h.2,h.1⟩
structure Sh (h h':Tree AObj)(c c':Nat)(l:Log):Prop where
 sub:∀ b,l.w.testBit b=true→l.t.testBit b=true
 out:∀ b,l.w.testBit b=false→h'.get b=h.get b
 fresh:∀ b,c≤b→b<c'→l.w.testBit b=true
 free:∀ b,(b<c∨c'≤b)→h.get b=none→h'.get b=none
 old:∀ b,(b<c∨c'≤b)→l.t.testBit b=true→h.get b≠none
section
variable {P:Program} {K:Cfg} {base:Nat→Prop} {w0:World}
theorem step1_sh {F:Nat}{ops:Array Oper}{o:Oper}{s s':Loc}{h h':Tree AObj}{c c':Nat}{l:Log}{v:Value}(hs:Step1 P K F ops o s s' h h' c c' l v):c≤c'∧(M.Rng h c c'→Sh h h' c c' l):=by
 obtain⟨-,⟨-,g,-,e⟩|⟨-,-,rfl,rfl,rfl⟩⟩:=hs
 ·obtain⟨h1,h2⟩:=(all_local P K g).op _ _ _ _ _ _ _ _ e
  exact⟨h1,fun hr=>have A:=h2 hr;⟨A.sub,A.out,A.fresh,A.free,A.old⟩⟩
 ·exact⟨Nat.le_refl _,fun _=>⟨by simp[Log.no],fun _ _=>rfl,fun b h1 h2=>by omega,fun _ _ h=>h,by simp[Log.no]⟩⟩
theorem count_set:∀ (l:List Bool) (j:Nat),l[j]? = some false→(l.set j true).count false+1=l.count false
 | [],j,h=>by simp at h
 |b :: l,0,h=>by
  simp at h;subst h
  simp
 |b :: l,j+1,h=>by
  have ih:=count_set l j (by simpa using h)
  simp only[List.set_cons_succ,List.count_cons]
  omega
theorem Rel.sub {p:Plan}{h h':Tree AObj}{w:World}(hr:Rel K base w0 p h w)(key:∀ b o,h'.get b=some o→h.get b=some o):Rel K base w0 p h' w:=
 ⟨hr.below,hr.glob,hr.dis,fun x o hx=>hr.at_ x o (key x o hx),fun x y o o' s s' k h1 h2=>hr.one x y o o' s s' k (key x o h1) (key y o' h2),fun x m s hx=>hr.mean x m s (key x _ hx)⟩
theorem stepX_put {pn:Option (Nat×Nat×Value)}{F k:Nat}{ops:Array Oper}{o:Oper}{s s':Loc}{h h':Tree AObj}{c c':Nat}{l:Log}{v:Value}(hs:StepX P K pn F ops k o s s' h h' c c' l v):s'=s.put o.dst v:=by
 rcases hs with ⟨-,h,-⟩|⟨h,-⟩|⟨h,-⟩ <;> exact h
theorem stepX_sh {pn:Option (Nat×Nat×Value)}{F k:Nat}{ops:Array Oper}{o:Oper}{s s':Loc}{h h':Tree AObj}{c c':Nat}{l:Log}{v:Value}(hs:StepX P K pn F ops k o s s' h h' c c' l v):c≤c'∧(M.Rng h c c'→Sh h h' c c' l):=by
 rcases hs with ⟨-,hs⟩|⟨-,-,m,u,-,g,-,e⟩|⟨-,-,rfl,rfl,rfl⟩
 ·exact step1_sh hs
 ·obtain⟨h1,h2⟩:=(all_local P K g).op _ _ _ _ _ _ _ _ e
  exact⟨h1,fun hr=>have A:=h2 hr;⟨A.sub,A.out,A.fresh,A.free,A.old⟩⟩
 ·exact⟨Nat.le_refl _,fun _=>⟨by simp[Log.no],fun _ _=>rfl,fun b h1 h2=>by omega,fun _ _ h=>h,by simp[Log.no]⟩⟩
theorem draw_any {F:Nat}(hop:∀ g,g<F→OpOK P K base w0 g){ops:Array Oper}{pn:Option (Nat×Nat×Value)}{x:XE}{s0 sn:Loc}{h0 hn:Tree AObj}{c0 cn:Nat}(hok:drawOK ops=true)(hd:M.Rng h0 c0 cn)
  {S:Nat→Loc} {H:Nat→Tree AObj} {C:Nat→Nat} {L:Nat→Log} {V:Nat→Value} (T:Tr P K pn F ops 0 [] s0 h0 c0 S H C L V) (hfin:Fin1 pn c0 ops 0 [] x sn hn cn S H C L) {hx:Tree AObj} (hx0:pn=none→hx=hn) (hx1:pn≠none→∀ b,hx.get b=if c0≤b∧b<cn then none else hn.get b)
  {p0:Plan} {Q:Exit→Act→World→Prop} (hpost:Post K base w0 p0 c0 cn hx x sn Q):
  ∀ (fuel:Nat) (listed:Array Bool) (p:Plan) (w:World) (a:Act) (s:Loc) (h:Tree AObj),listed.toList.count false≤fuel→listed.size=ops.size→
   (∀ i,listed.getD i false=true→i<ops.size∧∀ y,pn=some y→y.1≠i)→
   (∀ j o,listed.getD j false=true→ops[j]? = some o→∀ e∈o.after,Region.binds .any e=true→listed.getD e.on false=true)→
   Rel K base w0 p h w→LocR p s a→s.n=s0.n→s.ds=s0.ds→
   (∀ t,s.rd t=lastW (fun i=>match ops[i]? with|some o=>if o.dst=some t∧t<s0.n then some (V i) else none|none=>none) (fun i=>listed.getD i false) (s0.rd t) ops.size)→
   (∀ b,h.get b=lastW (fun i=>if (L i).w.testBit b then some ((H (i+1)).get b) else none) (fun i=>listed.getD i false) (h0.get b) ops.size)→
   p0.le p→Out p0 p c0 cn→(∀ i,i<ops.size→listed.getD i false=false→Free p (C i) (C (i+1)))→wpAny P .any ops Q fuel listed a w:=by
 have sh1:∀ k,k<ops.size→C k≤C (k+1)∧(M.Rng (H k) (C k) (C (k+1))→Sh (H k) (H (k+1)) (C k) (C (k+1)) (L k)):=fun k hk=>by
  obtain⟨o,-,q⟩:=T.step k (by omega) hk
  exact stepX_sh q
 have mono:∀ i j,i≤j→j≤ops.size→C i≤C j:=by
  intro i j hij
  induction j with
  |zero=>
   intro _
   have:i=0:=by omega
   rw[this]
   exact Nat.le_refl _
  |succ j ih=>
   intro hj
   by_cases e:i=j+1
   ·subst e;exact Nat.le_refl _
   ·exact Nat.le_trans (ih (by omega) (by omega)) (sh1 j (by omega)).1
 have hCn:C ops.size≤cn:=Nat.le_of_eq hfin.2.2.1
 have mon:∀ k,k≤ops.size→C k≤cn:=fun k hk=>Nat.le_trans (mono k ops.size hk (Nat.le_refl _)) hCn
 have rng:∀ k,k≤ops.size→M.Rng (H k) (C k) cn:=by
  intro k
  induction k with
  |zero=>intro _;rw[T.h0,T.c0];exact hd
  |succ k ih=>
   intro hk b h1 h2
   have hk':=ih (by omega)
   obtain⟨hc,hsh⟩:=sh1 k (by omega)
   have A:=hsh (hk'.first (mon _ hk))
   exact A.free b (.inr h1) (hk' b (by omega) h2)
 have sh:∀ k,k<ops.size→Sh (H k) (H (k+1)) (C k) (C (k+1)) (L k):=fun k hk=>(sh1 k hk).2 ((rng k (by omega)).first (mon _ hk))
 have sn_:∀ k,k≤ops.size→(S k).n=s0.n∧(S k).ds=s0.ds:=by
  intro k
  induction k with
  |zero=>intro _;rw[T.s0];exact⟨rfl,rfl⟩
  |succ k ih=>
   intro hk
   obtain⟨o,-,q'⟩:=T.step k (by omega) hk
   have q:=stepX_put q'
   rw[q,Loc.n_put,Loc.ds_put]
   exact ih (by omega)
 have srd:∀ t k,k≤ops.size→(S k).rd t=lastW (fun i=>match ops[i]? with|some o=>if o.dst=some t∧t<s0.n then some (V i) else none|none=>none) (fun _=>true) (s0.rd t) k:=by
  intro t k
  induction k with
  |zero=>intro _;rw[T.s0];rfl
  |succ k ih=>
   intro hk
   obtain⟨o,ho,q'⟩:=T.step k (by omega) hk
   have q:=stepX_put q'
   rw[q,Loc.rd_put,(sn_ k (by omega)).1,ih (by omega)]
   conv=>rhs;unfold lastW
   rw[if_pos rfl]
   simp only[ho]
   split <;> rfl
 have hget:∀ b k,k≤ops.size→(H k).get b=lastW (fun i=>if (L i).w.testBit b then some ((H (i+1)).get b) else none) (fun _=>true) (h0.get b) k:=by
  intro b k
  induction k with
  |zero=>intro _;rw[T.h0];rfl
  |succ k ih=>
   intro hk
   conv=>rhs;unfold lastW
   rw[if_pos rfl]
   cases hw:(L k).w.testBit b with
   |true=>rfl
   |false=>
    rw[(sh k (by omega)).out b hw,ih (by omega)]
    rfl
 have ap:∀ i j oi oj,i<j→j<ops.size→ops[i]? = some oi→ops[j]? = some oj→(mk ops j).testBit i=false→Apart0 ops oi oj∧NoClash (L i) (L j):=fun i j oi oj hij hjN hi hj hb=>by
  refine⟨?_,T.new i j (by omega) hij hjN hb⟩
  rcases (drawOK_ok hok hj).2.2 i oi hij hi with h1|h1
  ·rw[hb] at h1;cases h1
  ·exact h1
 have atEnd:∀ (listed:Array Bool) (p:Plan) (w:World) (a:Act) (s:Loc) (h:Tree AObj),(∀ i,i<ops.size→listed.getD i false=true)→(∀ i,listed.getD i false=true→i<ops.size∧∀ y,pn=some y→y.1≠i)→
   Rel K base w0 p h w→LocR p s a→s.n=s0.n→s.ds=s0.ds→
   (∀ t,s.rd t=lastW (fun i=>match ops[i]? with|some o=>if o.dst=some t∧t<s0.n then some (V i) else none|none=>none) (fun i=>listed.getD i false) (s0.rd t) ops.size)→
   (∀ b,h.get b=lastW (fun i=>if (L i).w.testBit b then some ((H (i+1)).get b) else none) (fun i=>listed.getD i false) (h0.get b) ops.size)→
   p0.le p→Out p0 p c0 cn→Q .normal a w:=by
  intro listed p w a s h hall hlt hr hs hsn hsds hrd hhg hle hout
  obtain⟨rfl,rfl,-,⟨hpn,rfl⟩|⟨n,m,u,hpn,hn1,-,-⟩⟩:=hfin
  ·rw[hx0 hpn] at hpost
   refine hpost p w a hle hout (hr.congr fun b => ?_) ⟨fun t => ?_,?_,?_⟩
   ·rw[hhg b,hget b _ (Nat.le_refl _)]
    exact(last_congr _ fun i hi _=>hall i (by omega)).symm
   ·have e:(S ops.size).rd t=s.rd t:=by
     rw[hrd t,srd t _ (Nat.le_refl _)]
     exact(last_congr _ fun i hi _=>hall i (by omega)).symm
    rw[e]
    exact hs.tm t
   ·rw[hs.n,hsn];exact((sn_ _ (Nat.le_refl _)).1).symm
   ·have:(S ops.size).ds=s.ds:=by rw[hsds];exact(sn_ _ (Nat.le_refl _)).2
    rw[this];exact hs.ds
  ·exact absurd rfl ((hlt n (hall n hn1)).2 _ hpn)
 intro fuel
 induction fuel with
 |zero=>
  intro listed p w a s h hcnt hsz hlt hcl hr hs hsn hsds hrd hhg hle hout hfree
  have hall:∀ i,i<ops.size→listed.getD i false=true:=by
   intro i hi
   have h0:listed.toList.count false=0:=by omega
   have h1:=List.count_eq_zero.1 h0
   cases hb:listed[i]? with
   |none=>have:=Array.getElem?_eq_none_iff.1 hb;omega
   |some b=>
    have hmem:b∈listed.toList:=by
     have:=Array.mem_of_getElem? hb
     simpa using this
    rw[Array.getD_eq_getD_getElem?,hb]
    cases b with
    |true=>rfl
    |false=>exact absurd hmem h1
  refine⟨?_,?_⟩
  ·cases hrd':Region.ready .any ops listed with
   |nil=>rfl
   |cons j rest=>
    have hj:j∈Region.ready .any ops listed:=by rw[hrd'];simp
    rw[mem_ready] at hj
    obtain⟨hj0,o,ho,-⟩:=hj
    have hjn:=(Array.getElem?_eq_some_iff.1 ho).1
    have:=hall j hjn
    rw[Array.getD_eq_getD_getElem?] at this hj0
    cases hb:listed[j]? with
    |none=>have:=Array.getElem?_eq_none_iff.1 hb;omega
    |some b=>rw[hb] at this hj0;simp at this hj0;rw[this] at hj0;cases hj0
  ·exact atEnd listed p w a s h hall hlt hr hs hsn hsds hrd hhg hle hout
 |succ fuel ih=>
  intro listed p w a s h hcnt hsz hlt hcl hr hs hsn hsds hrd hhg hle hout hfree
  have down:∀ j o,ops[j]? = some o→(∀ e∈o.after,Region.binds .any e=true→listed.getD e.on false=true)→∀ i,(mk ops j).testBit i=true→listed.getD i false=true:=by
   intro j
   induction j using Nat.strongRecOn with
   |_ j ihj=>
    intro o ho hpre i hb
    obtain⟨e,h1,h2,h3⟩:=mk_bit ho hb
    have he:=hpre e (by simpa using h1) h2
    rcases h3 with rfl|h3
    ·exact he
    ·have hlt:=(drawOK_ok hok ho).1 e h1 h2
     have hjn:=(Array.getElem?_eq_some_iff.1 ho).1
     have hoe:ops[e.on]? = some (ops[e.on]'(by omega)):=Array.getElem?_eq_getElem (by omega)
     exact ihj e.on hlt _ hoe (hcl _ _ he hoe) i h3
  -- what an operation that is ready looks at is what it looked at in the text's order
  have gen:∀ (j:Nat) (o:Oper) (lj:Log) (cj:Nat),j≤ops.size→ops[j]? = some o→listed.getD j false=false→(∀ i oi,i≠j→i<ops.size→ops[i]? = some oi→¬(listed.getD i false=true↔i<j)→Apart0 ops oi o∧NoClash (L i) lj)→
    cj≤cn→(∀ b,C j≤b→b<cj→lj.t.testBit b=true)→
    (∀ b,lj.t.testBit b=true→h.get b=(H j).get b)∧(∀ x∈o.op.operands,envOf K s x=envOf K (S j) x)∧wantX ops s o=wantX ops (S j) o∧M.Rng h (C j) cj:=by
   intro j o lj cj hjN ho hDj pair hcj hfr
   have agreeS:∀ t,t∈slotsOf ops o→s.rd t=(S j).rd t:=by
    intro t ht
    rw[hrd t,srd t j hjN]
    refine last_agree ops.size hjN fun i hi hw => ?_
    by_cases e:i=j
    ·subst e
     rw[hDj];simp
    ·try dsimp only at hw
     cases hoi:ops[i]? with
     |none=>rw[hoi] at hw;exact absurd rfl hw
     |some oi=>
      rw[hoi] at hw
      dsimp only at hw
      split at hw
      ·rename_i hdst
       by_cases hnot:(listed.getD i false=true↔i<j)
       ·exact hnot
       ·exact absurd ht ((pair i oi e hi hoi hnot).1.1 t hdst.1)
      ·exact absurd rfl hw
   have agreeH:∀ b,lj.t.testBit b=true→h.get b=(H j).get b:=by
    intro b hb
    rw[hhg b,hget b j hjN]
    refine last_agree ops.size hjN fun i hi hw => ?_
    by_cases e:i=j
    ·subst e
     rw[hDj];simp
    ·try dsimp only at hw
     split at hw
     ·rename_i hwb
      by_cases hnot:(listed.getD i false=true↔i<j)
      ·exact hnot
      ·exact((pair i _ e hi (Array.getElem?_eq_getElem (by omega)) hnot).2.1 b hwb hb).elim
     ·exact absurd rfl hw
   refine⟨agreeH,fun x hx => ?_,?_,?_⟩
   ·cases x with
    |tmp t=>
     show knownV (s.rd t)=knownV ((S j).rd t)
     rw[agreeS t]
     unfold slotsOf Oper.looksAt
     refine List.mem_append_right _ (List.mem_append_left _ (List.mem_filterMap.2 ⟨.tmp t,by simpa using hx,rfl⟩))
    |_=>rfl
   ·unfold wantX
    cases hg:o.guard with
    |none=>rfl
    |some gw=>
     obtain⟨g,want⟩:=gw
     dsimp only
     cases hd:(ops[g]?).bind (·.dst) with
     |none=>rfl
     |some d=>
      dsimp only
      rw[agreeS d]
      unfold slotsOf Oper.looksAt
      refine List.mem_append_right _ (List.mem_append_right _ ?_)
      rw[hg]
      simp[hd]
   ·intro b h1 h2
    rw[hhg b,last_none]
    ·have h3:=mono 0 j (by omega) hjN
     rw[T.c0] at h3
     exact hd b (by omega) (by omega)
    ·intro i hi hDi
     cases hwi:(L i).w.testBit b with
     |false=>rfl
     |true=>
      exfalso
      have e:i≠j:=by rintro rfl;rw[hDj] at hDi;cases hDi
      by_cases hlt:i<j
      ·have hi1:=mono (i+1) j hlt hjN
       have hi2:=mono i j (by omega) hjN
       exact(sh i hi).old b (.inr (by omega)) ((sh i hi).sub b hwi) (rng i (by omega) b (by omega) (by omega))
      ·exact(pair i _ e hi (Array.getElem?_eq_getElem (by omega)) (fun h=>hlt (h.1 hDi))).2.1 b hwi (hfr b h1 h2)
  refine⟨fun hnil => ?_,fun j hj => ?_⟩
  ·have hall:∀ i,i<ops.size→listed.getD i false=true:=by
    intro i
    induction i using Nat.strongRecOn with
    |_ i ihi=>
     intro hi
     cases hb:listed.getD i false with
     |true=>rfl
     |false=>
      have:i∈Region.ready .any ops listed:=by
       rw[mem_ready]
       have ho:ops[i]? = some (ops[i]'hi):=Array.getElem?_eq_getElem hi
       refine⟨?_,_,ho,fun e he hbd => ?_⟩
       ·rw[Array.getD_eq_getD_getElem?] at hb ⊢
        cases hb':listed[i]? with
        |none=>have:=Array.getElem?_eq_none_iff.1 hb';omega
        |some b=>rw[hb'] at hb;simpa using hb
       ·have hlt:=(drawOK_ok hok ho).1 e (by simpa using he) hbd
        exact ihi e.on hlt (by omega)
      rw[hnil] at this
      simp at this
   exact atEnd listed p w a s h hall hlt hr hs hsn hsds hrd hhg hle hout
  ·rw[mem_ready] at hj
   obtain⟨hj0,o,ho,hpre⟩:=hj
   have hjn:j<ops.size:=(Array.getElem?_eq_some_iff.1 ho).1
   have hjl:listed[j]? = some false:=by
    rw[Array.getD_eq_getD_getElem?] at hj0
    cases hb:listed[j]? with
    |none=>have:=Array.getElem?_eq_none_iff.1 hb;omega
    |some b=>rw[hb] at hj0;simp at hj0;rw[hj0]
   have hDj:listed.getD j false=false:=by rw[Array.getD_eq_getD_getElem?,hjl];rfl
   have hjN:=hjn
   ·-- those that are not as in the text are apart
    have pair:∀ i oi,i≠j→i<ops.size→ops[i]? = some oi→¬(listed.getD i false=true↔i<j)→Apart0 ops oi o∧NoClash (L i) (L j):=by
     intro i oi hne hiN hoi hnot
     cases hDi:listed.getD i false with
     |true=>
      have hji:j<i:=by
       have:¬ i<j:=fun h=>hnot ⟨fun _=>h,fun _=>hDi⟩
       omega
      have hb:(mk ops i).testBit j=false:=by
       cases hb:(mk ops i).testBit j with
       |false=>rfl
       |true=>
        have:=down i oi hoi (hcl i oi hDi hoi) j hb
        rw[hDj] at this;cases this
      obtain⟨k1,k2⟩:=ap j i o oi hji hiN ho hoi hb
      exact⟨k1.symm,k2.symm⟩
     |false=>
      have hij:i<j:=by
       have:¬ ¬ i<j:=fun h=>hnot ⟨fun h'=>(by rw[hDi] at h';cases h'),fun h'=>absurd h' h⟩
       omega
      have hb:(mk ops j).testBit i=false:=by
       cases hb:(mk ops j).testBit i with
       |false=>rfl
       |true=>
        have:=down j o ho hpre i hb
        rw[hDi] at this;cases this
      exact ap i j oi o hij hjN hoi ho hb
    have hsj:=sh j hjN
    obtain⟨agreeH,henv,hwant,hrj⟩:=gen j o (L j) (C (j+1)) (by omega) ho hDj pair (mon _ hjN) (fun b h1 h2=>hsj.sub b (hsj.fresh b h1 h2))
    obtain⟨o1,ho1,hX⟩:=T.step j (by omega) hjN
    obtain rfl:o=o1:=Option.some.inj (ho.symm.trans ho1)
    rcases hX with ⟨hnj,hput,hstep⟩|⟨hput,hw,m,u,hpn,g,hg,ev⟩|⟨-,⟨n,m,u,hpn,hb⟩,-⟩
    case inr.inr=>exact absurd rfl ((hlt n (down j o ho hpre n hb)).2 _ hpn)
    case inr.inl=>
     have unl:∀ i,listed.getD i false=false→(mk ops j).testBit i=false:=by
      intro i hDi
      cases hb:(mk ops j).testBit i with
      |false=>rfl
      |true=>
       have:=down j o ho hpre i hb
       rw[hDi] at this;cases this
     obtain⟨rfl,rfl,hcn,⟨h0,-⟩|⟨n,m',u',hpn',hn1,rfl,hq⟩⟩:=hfin
     ·rw[hpn] at h0;cases h0
     rw[hpn] at hpn'
     cases hpn'
     unfold wpOp
     rw[ho]
     dsimp only
     rw[wantX_ok hs (hwant.trans hw),if_pos rfl]
     refine .inl ?_
     have loc:=((all_local P K g).op o (envOf K (S j)) _ _ _ _ _ _ ev).2 ((rng j (by omega)).first (mon _ hjN))
     obtain⟨g',ev',k1,k2⟩:=loc.move h hrj (fun b _ hb=>agreeH b hb)
     rw[←evOp_congr P K o henv] at ev'
     have hfj:=hfree j hjN hDj
     have hj1:=mono 0 j (by omega) (by omega)
     have hj2:=mon (j+1) hjN
     rw[T.c0] at hj1
     refine(hop g hg o (envOf K s) h (C j) _ g' (C (j+1)) (L j) hrj ev' p w a hr (envR hr hs) hfj).2 (by simp) _ _ fun p' w' q1 q2 q3 v' q4 => ?_
     refine hpost p' w' a (Plan.le_trans hle q1) (fun b hb => ?_) (q3.sub fun b o' hb => ?_) ⟨fun t ht => ?_,?_,?_⟩ v' q4
     ·rw[q2 b (by omega),hout b hb]
     ·rw[hx1 (by rw[hpn];simp)] at hb
      split at hb
      ·cases hb
      ·rename_i hout2
       rw[←hb,hget b _ (Nat.le_refl _)]
       have h1:lastW (fun i=>if (L i).w.testBit b then some ((H (i+1)).get b) else none) (fun i=>if i=j then true else listed.getD i false) (h0.get b) ops.size=lastW (fun i=>if (L i).w.testBit b then some ((H (i+1)).get b) else none) (fun _=>true) (h0.get b) ops.size:=by
        refine last_congr _ fun i hi hw => ?_
        by_cases e:i=j
        ·rw[if_pos e]
        ·rw[if_neg e]
         cases hDi:listed.getD i false with
         |true=>rfl
         |false=>
          exfalso
          have:=hq.2 i (by omega) hi e (unl i hDi) b
          try dsimp only at hw
          split at hw
          ·rename_i hwb
           exact hout2 (this hwb)
          ·exact absurd rfl hw
       rw[←h1,last_step (D:=fun i=>listed.getD i false) (fun i hi=>by simp[hi]) (by simp) hDj _ hjN (fun i hi hDi hwi hwj => ?_),←hhg b]
       ·cases hwb:(L j).w.testBit b with
        |true=>rw[k1 b hwb];rfl
        |false=>rw[k2 b hwb];rfl
       ·try dsimp only at hwi hwj
        split at hwj
        ·rename_i hwbj
         split at hwi
         ·rename_i hwbi
          by_cases hlt:i<j
          ·exact hlt
          ·exfalso
           have e:i≠j:=by rintro rfl;rw[hDj] at hDi;cases hDi
           exact(pair i _ e hi (Array.getElem?_eq_getElem (by omega)) (fun h=>hlt (h.1 hDi))).2.1 b hwbi (hsj.sub b hwbj)
         ·exact absurd rfl hwi
        ·exact absurd rfl hwj
     ·have hno:∀ i,i<ops.size→(match ops[i]? with|some o=>if o.dst=some t∧t<s0.n then some (V i) else none|none=>none)=none:=by
       intro i hi
       cases hoi:ops[i]? with
       |none=>rfl
       |some oi=>
        dsimp only
        rw[if_neg]
        rintro⟨h1,-⟩
        exact ht (List.mem_filterMap.2 ⟨oi,by simpa using Array.mem_of_getElem? hoi,h1⟩)
      have e:(S ops.size).rd t=s.rd t:=by
       rw[hrd t,srd t _ (Nat.le_refl _),last_none _ fun i hi _=>hno i hi,last_none _ fun i hi _=>hno i hi]
      rw[e]
      exact(hs.tm t).mono q1
     ·rw[hs.n,hsn];exact((sn_ _ (Nat.le_refl _)).1).symm
     ·have:(S ops.size).ds=s.ds:=by rw[hsds];exact(sn_ _ (Nat.le_refl _)).2
      rw[this];exact hs.ds.mono q1
    have hcnt':(listed.setIfInBounds j true).toList.count false≤fuel:=by
     have:=count_set listed.toList j (by simpa using hjl)
     rw[Array.toList_setIfInBounds]
     omega
    have hsz':(listed.setIfInBounds j true).size=ops.size:=by simpa using hsz
    have hD1:∀ i,i≠j→(listed.setIfInBounds j true).getD i false=listed.getD i false:=fun i hi=>getD_set_ne false (Ne.symm hi)
    have hD2:(listed.setIfInBounds j true).getD j false=true:=by
     rw[Array.getD_eq_getD_getElem?,Array.getElem?_setIfInBounds_self]
     have:j<listed.size:=by omega
     simp[this]
    have hlt':∀ i,(listed.setIfInBounds j true).getD i false=true→i<ops.size∧∀ y,pn=some y→y.1≠i:=by
     intro i hi
     by_cases e:i=j
     ·subst e;exact⟨hjN,hnj⟩
     ·rw[hD1 i e] at hi;exact hlt i hi
    have hcl':∀ j' o',(listed.setIfInBounds j true).getD j' false=true→ops[j']? = some o'→∀ e∈o'.after,Region.binds .any e=true→(listed.setIfInBounds j true).getD e.on false=true:=by
     intro j' o' h1 h2 e he hb
     by_cases e':j'=j
     ·subst e'
      obtain rfl:o=o':=Option.some.inj (ho.symm.trans h2)
      exact getD_set_true (hpre e he hb)
     ·rw[hD1 j' e'] at h1
      exact getD_set_true (hcl j' o' h1 h2 e he hb)
    have stepS:∀ t,(s.put o.dst (V j)).rd t=lastW (fun i=>match ops[i]? with|some o=>if o.dst=some t∧t<s0.n then some (V i) else none|none=>none) (fun i=>(listed.setIfInBounds j true).getD i false) (s0.rd t) ops.size:=by
     intro t
     rw[last_step (D:=fun i=>listed.getD i false) hD1 hD2 hDj ops.size hjN (fun i hi hDi hwi hwj => ?_),←hrd t,Loc.rd_put,hsn]
     ·simp only[ho]
      split <;> rfl
     ·try dsimp only at hwi hwj
      rw[ho] at hwj
      dsimp only at hwj
      split at hwj
      ·rename_i hdj
       by_cases hlt:i<j
       ·exact hlt
       ·exfalso
        have e:i≠j:=by rintro rfl;rw[hDj] at hDi;cases hDi
        have hisz:i<ops.size:=by omega
        rw[Array.getElem?_eq_getElem hisz] at hwi
        dsimp only at hwi
        split at hwi
        ·rename_i hdi
         refine(pair i _ e hi (Array.getElem?_eq_getElem hisz) (fun h=>hlt (h.1 hDi))).1.1 t hdi.1 ?_
         unfold slotsOf
         exact List.mem_append_left _ (by simp[hdj.1])
        ·exact absurd rfl hwi
      ·exact absurd rfl hwj
    unfold wpOp
    rw[ho]
    dsimp only
    rcases hstep with ⟨hw,g,hg,ev⟩|⟨hw,hv,hh,hc,hl⟩
    ·rw[wantX_ok hs (hwant.trans hw),if_pos rfl]
     refine .inl ?_
     have loc:=((all_local P K g).op o (envOf K (S j)) _ _ _ _ _ _ ev).2 ((rng j (by omega)).first (mon _ hjN))
     obtain⟨g',ev',k1,k2⟩:=loc.move h hrj (fun b _ hb=>agreeH b hb)
     rw[←evOp_congr P K o henv] at ev'
     have hfj:=hfree j hjN hDj
     refine(hop g hg o (envOf K s) h (C j) _ g' (C (j+1)) (L j) hrj ev' p w a hr (envR hr hs) hfj).2 (by simp) _ _ fun p' w' q1 q2 q3 v' q4 => ?_
     refine ih _ p' w' _ (s.put o.dst (V j)) g' hcnt' hsz' hlt' hcl' q3 ((hs.mono q1).put q4 _) (by rw[Loc.n_put];exact hsn) (by rw[Loc.ds_put];exact hsds) stepS (fun b => ?_) (Plan.le_trans hle q1) (fun b hb => ?_) (fun i hi hDi b h1 h2 => ?_)
     ·rw[last_step (D:=fun i=>listed.getD i false) hD1 hD2 hDj ops.size hjN (fun i hi hDi hwi hwj => ?_),←hhg b]
      ·cases hwb:(L j).w.testBit b with
       |true=>rw[k1 b hwb];rfl
       |false=>rw[k2 b hwb];rfl
      ·try dsimp only at hwi hwj
       split at hwj
       ·rename_i hwbj
        split at hwi
        ·rename_i hwbi
         by_cases hlt:i<j
         ·exact hlt
         ·exfalso
          have e:i≠j:=by rintro rfl;rw[hDj] at hDi;cases hDi
          exact(pair i _ e hi (Array.getElem?_eq_getElem (by omega)) (fun h=>hlt (h.1 hDi))).2.1 b hwbi (hsj.sub b hwbj)
        ·exact absurd rfl hwi
       ·exact absurd rfl hwj
     ·have hj1:=mono 0 j (by omega) (by omega)
      have hj2:=mon (j+1) hjN
      rw[T.c0] at hj1
      rw[q2 b (by omega),hout b hb]
     ·have e:i≠j:=by rintro rfl;rw[hD2] at hDi;cases hDi
      rw[hD1 i e] at hDi
      rw[q2 b ?_]
      ·exact hfree i hi hDi b h1 h2
      ·by_cases hlt:i<j
       ·have:=mono (i+1) j hlt (by omega);omega
       ·have:=mono (j+1) i (by omega) (by omega);omega
    ·rw[wantX_ok hs (hwant.trans hw),if_neg (by simp)]
     refine ih _ p w _ (s.put o.dst undef) h hcnt' hsz' hlt' hcl' hr (hs.put undef_vr _) (by rw[Loc.n_put];exact hsn) (by rw[Loc.ds_put];exact hsds) (by rw[←hv];exact stepS) (fun b => ?_) hle hout (fun i hi hDi => ?_)
     ·rw[last_step (D:=fun i=>listed.getD i false) hD1 hD2 hDj ops.size hjN (fun i hi hDi hwi hwj => ?_),←hhg b]
      ·rw[hl];simp[Log.no]
      ·rw[hl] at hwj;simp[Log.no] at hwj
     ·have e:i≠j:=by rintro rfl;rw[hD2] at hDi;cases hDi
      rw[hD1 i e] at hDi
      exact hfree i hi hDi
theorem draw_region {f:Nat}(hm:P.follows .mixedOrders=true)(hop:∀ g,g<f→OpOK P K base w0 g){id:Nat}{ops:Array Oper}{s:Loc}{h:Tree AObj}{c0:Nat}{x:XE}{s':Loc}{h':Tree AObj}{c1:Nat}{l:Log}
  (hok:drawOK ops=true) (hd:M.Rng h c0 c1) (e:(match evDraw P K f ops ops.toList (masks ops.toList 0 .leaf) 0 [] none c0 s h c0 with
   | .ok (.panic v ds,s') h' c' l=>(.ok (.panic v ds,s') (dropN c0 (c' - c0) h') c' l:Res AObj (XE×Loc))
   |r=>r) = .ok (x,s') h' c1 l)
  {p:Plan} {w:World} {a:Act} {Q:Exit→Act→World→Prop} (hr:Rel K base w0 p h w) (hs:LocR p s a) (hf:Free p c0 c1) (hp:Post K base w0 p c0 c1 h' x s' Q):(Code.region id ops true).wp P Q a w:=by
 obtain⟨hh,e1,hh1⟩:∃ hh,evDraw P K f ops ops.toList (masks ops.toList 0 .leaf) 0 [] none c0 s h c0 = .ok (x,s') hh c1 l∧((∃ v ds,x = .panic v ds∧h'=dropN c0 (c1 - c0) hh)∨((∀ v ds,x ≠ .panic v ds)∧h'=hh)):=by
  split at e
  ·rename_i v ds s2 h2 c2 l2 e1
   cases e
   exact⟨h2,e1,.inl ⟨v,ds,rfl,rfl⟩⟩
  ·rename_i hno
   refine⟨h',e,.inr ⟨fun v ds hx => ?_,rfl⟩⟩
   subst hx
   exact hno v ds s' h' c1 l e
 have hcc:c0≤c1:=((all_local P K f).draw _ _ _ _ _ _ _ _ _ _ _ _ _ _ e1).1
 obtain⟨pn,S,H,C,L,V,-,T,E⟩:=draw_trace P K f _ _ 0 [] none c0 s h c0 x s' hh c1 l e1 (by simp) (by simp[msOf]) (by omega) (fun n m u hy=>by cases hy)
 refine wp_region_any hm ?_
 have hD:∀ i:Nat,(Array.replicate ops.size false).getD i false=false:=fun i=>by
  rw[Array.getD_eq_getD_getElem?,Array.getElem?_replicate]
  split <;> rfl
 have mono:∀ i j,i≤j→j≤ops.size→C i≤C j:=by
  intro i j hij
  induction j with
  |zero=>
   intro _
   have:i=0:=by omega
   rw[this]
   exact Nat.le_refl _
  |succ j ih=>
   intro hj
   by_cases e:i=j+1
   ·subst e;exact Nat.le_refl _
   ·obtain⟨o,-,q⟩:=T.step j (by omega) hj
    exact Nat.le_trans (ih (by omega) (by omega)) (stepX_sh q).1
 have hCn:C ops.size=c1:=E.2.2.1
 have hx0:pn=none→h'=hh:=fun h0=>by
  obtain⟨-,-,-,⟨-,hx⟩|⟨n,m,u,hpn,-⟩⟩:=E
  ·rcases hh1 with ⟨v,ds,h1,-⟩|⟨-,h1⟩
   ·rw[hx] at h1;cases h1
   ·exact h1
  ·rw[h0] at hpn;cases hpn
 have hx1:pn≠none→∀ b,h'.get b=if c0≤b∧b<c1 then none else hh.get b:=fun h0 b=>by
  obtain⟨-,-,-,⟨h1,-⟩|⟨n,m,u,hpn,-,hx,-⟩⟩:=E
  ·exact absurd h1 h0
  ·rcases hh1 with ⟨v,ds,-,h1⟩|⟨h1,-⟩
   ·rw[h1,dropN_get,show c0+(c1 - c0)=c1 by omega]
   ·exact absurd hx (h1 _ _)
 refine draw_any hop hok hd T E hx0 hx1 hp ops.size _ p w.drew a s h ?_ (by simp) (fun i hi=>by rw[hD] at hi;cases hi) (fun j o hj=>by rw[hD] at hj;cases hj) hr.drew hs rfl rfl (fun t => ?_) (fun b => ?_) (Plan.le_refl _) Out.rfl (fun i hi _ b h1 h2 => ?_)
 ·simp
 ·exact(last_none _ fun i hi h=>by rw[hD] at h;cases h).symm
 ·exact(last_none _ fun i hi h=>by rw[hD] at h;cases h).symm
 ·have h3:=mono 0 i (by omega) (by omega)
  have h4:=mono (i+1) ops.size hi (Nat.le_refl _)
  rw[T.c0] at h3
  exact hf b (by omega) (by omega)
end
end Ev
end Go.Proofs.YtcbkeecabcbogaaGreatDoor
