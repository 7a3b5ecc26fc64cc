/- The evaluator's regions that draw their order, held against -/
import Derived.Test.YtcbkeecabcbogaaGreatDoorSaa
import Derived.Test.YtcbkeecabcbogaaGreatDoorSah
import Derived.Recover
import Derived.Scope
import Derived.Below
set_option linter.unusedSimpArgs false
set_option linter.unusedVariables false
namespace Go.Proofs.YtcbkeecabcbogaaGreatDoor
section
namespace Ev
open Go.RowKit
theorem Loc.Am (s:Loc)(d:Option Nat)(v:Value)(t:Nat):(s.put d v).rd t=if d=some t∧t<s.n then v else s.rd t:=by
 obtain⟨tm,n,ds⟩:=s;cases d with
 |none=>simp[Loc.put]
 |some i=>
  unfold Loc.put;dsimp only;by_cases hi:i<n
  ·rw[show Nat.ble (Nat.succ i) n=true from Nat.ble_eq_true_of_le hi];dsimp only;show (((tm.set i (some v)).get t)).getD undef=_
   rw[Tree.Qu];by_cases e:t=i
   ·subst e;rw[if_pos rfl,if_pos ⟨rfl,hi⟩];rfl
   ·rw[if_neg e,if_neg (by rintro⟨h1,-⟩;exact e (Option.some.inj h1).symm)];rfl
  ·rw[show Nat.ble (Nat.succ i) n=false by cases hb:Nat.ble (Nat.succ i) n with|false=>rfl|true=>exact absurd (Nat.le_of_ble_eq_true hb) hi];dsimp only;rw[if_neg];rintro⟨h1,h2⟩;have:i=t:=Option.some.inj h1;subst this;exact hi h2
theorem Loc.n_put (s:Loc)(d:Option Nat)(v:Value):(s.put d v).n=s.n:=by
 obtain⟨tm,n,ds⟩:=s;cases d with
 |none=>rfl
 |some i=>unfold Loc.put;dsimp only;split <;> rfl
theorem Loc.Qs1 (s:Loc)(d:Option Nat)(v:Value):(s.put d v).ds=s.ds:=by
 obtain⟨tm,n,ds⟩:=s;cases d with
 |none=>rfl
 |some i=>unfold Loc.put;dsimp only;split <;> rfl
theorem last_none {β:Type}{W:Nat→Option β}{D:Nat→Bool}{x:β}:∀ n:Nat,(∀ i,i<n→D i=true→W i=none)→Ju W D x n=x
 |0,_=>rfl
 |n+1,h=>by
  have ih:=last_none (x:=x) n fun i hi=>h i Dw
  unfold Ju;split
  ·rename_i hd;rw[h n Dw hd,ih];rfl
  ·exact ih
theorem H7.symm {a b:Log}(h:H7 a b):H7 b a:=⟨fun i h1 h2=>h.2 i h2 h1,fun i h1 h2=>h.1 i h2 h1⟩
theorem Qay.symm {ops:Array Oper}{a b:Oper}(h:Qay ops a b):Qay ops b a:=⟨h.2,h.1⟩
structure Sh (h h':Tree Q4)(c c':Nat)(l:Log):Prop where
 sub:∀ b,l.w.testBit b=true→l.t.testBit b=true
 out:∀ b,l.w.testBit b=false→h'.get b=h.get b
 fresh:∀ b,c≤b→b<c'→l.w.testBit b=true
 free:∀ b,(b<c∨c'≤b)→h.get b=none→h'.get b=none
 old:∀ b,(b<c∨c'≤b)→l.t.testBit b=true→h.get b≠none
section
variable {P:Program} {K:Cfg} {base:Nat→Prop} {w0:World}
theorem step1_sh {F:Nat}{ops:Array Oper}{o:Oper}{s s':Loc}{h h':Tree Q4}{c c':Nat}{l:Log}{v:Value}(hs:Step1 P K F ops o s s' h h' c c' l v):c≤c'∧(M.Rng h c c'→Sh h h' c c' l):=by
 obtain⟨-,⟨-,g,-,e⟩|⟨-,-,rfl,rfl,rfl⟩⟩:=hs
 ·obtain⟨h1,h2⟩:=(Yx P K g).op _ _ _ _ _ _ _ _ e;exact⟨h1,fun hr=>have A:=h2 hr;⟨A.sub,A.out,A.fresh,A.free,A.old⟩⟩
 ·exact⟨Nat.le_refl _,fun _=>⟨by simp[Log.no],fun _ _=>rfl,fun b h1 h2=>by omega,fun _ _ h=>h,by simp[Log.no]⟩⟩
theorem Qjj:∀ (l:List Bool) (j:Nat),l[j]? = some false→(l.set j true).count false+1=l.count false
 | [],j,h=>by simp at h
 |b::l,0,h=>by
  simp at h;subst h;simp
 |b::l,j+1,h=>by
  have ih:=Qjj l j (by simpa using h);simp only[List.set_cons_succ,List.count_cons];omega
theorem Rel.sub {p:Xb}{h h':Tree Q4}{w:World}(hr:Rel K base w0 p h w)(key:∀ b o,h'.get b=some o→h.get b=some o):Rel K base w0 p h' w:=
 ⟨hr.below,hr.glob,hr.dis,fun x o hx=>hr.at_ x o (key x o hx),fun x y o o' s s' k h1 h2=>hr.one x y o o' s s' k (key x o h1) (key y o' h2),fun x m s hx=>hr.mean x m s (key x _ hx)⟩
theorem Qh4 {pn:Option (Nat×Nat×Value)}{F k:Nat}{ops:Array Oper}{o:Oper}{s s':Loc}{h h':Tree Q4}{c c':Nat}{l:Log}{v:Value}(hs:StepX P K pn F ops k o s s' h h' c c' l v):s'=s.put o.dst v:=by
 rcases hs with ⟨-,h,-⟩|⟨h,-⟩|⟨h,-⟩ <;> exact h
theorem Qma {pn:Option (Nat×Nat×Value)}{F k:Nat}{ops:Array Oper}{o:Oper}{s s':Loc}{h h':Tree Q4}{c c':Nat}{l:Log}{v:Value}(hs:StepX P K pn F ops k o s s' h h' c c' l v):c≤c'∧(M.Rng h c c'→Sh h h' c c' l):=by
 rcases hs with ⟨-,hs⟩|⟨-,-,m,u,-,g,-,e⟩|⟨-,-,rfl,rfl,rfl⟩
 ·exact step1_sh hs
 ·obtain⟨h1,h2⟩:=(Yx P K g).op _ _ _ _ _ _ _ _ e;exact⟨h1,fun hr=>have A:=h2 hr;⟨A.sub,A.out,A.fresh,A.free,A.old⟩⟩
 ·exact⟨Nat.le_refl _,fun _=>⟨by simp[Log.no],fun _ _=>rfl,fun b h1 h2=>by omega,fun _ _ h=>h,by simp[Log.no]⟩⟩
theorem draw_any {F:Nat}(hop:∀ g,g<F→OpOK P K base w0 g){ops:Array Oper}{pn:Option (Nat×Nat×Value)}{x:XE}{s0 sn:Loc}{h0 hn:Tree Q4}{c0 cn:Nat}(hok:Qm5 ops=true)(hd:M.Rng h0 c0 cn)
  {S:Nat→Loc} {H:Nat→Tree Q4} {C:Nat→Nat} {L:Nat→Log} {V:Nat→Value} (T:Tr P K pn F ops 0 [] s0 h0 c0 S H C L V) (hfin:Fin1 pn c0 ops 0 [] x sn hn cn S H C L) {hx:Tree Q4} (hx0:pn=none→hx=hn) (hx1:pn≠none→∀ b,hx.get b=if c0≤b∧b<cn then none else hn.get b)
  {p0:Xb} {Q:Exit→Act→World→Prop} (hpost:Post K base w0 p0 c0 cn hx x sn Q):
  ∀ (fuel:Nat) (listed:Array Bool) (p:Xb) (w:World) (a:Act) (s:Loc) (h:Tree Q4),listed.toList.count false≤fuel→listed.size=ops.size→
   (∀ i,listed.getD i false=true→i<ops.size∧∀ y,pn=some y→y.1≠i)→
   (∀ j o,listed.getD j false=true→ops[j]? = some o→∀ e∈o.after,Region.binds .any e=true→listed.getD e.on false=true)→
   Rel K base w0 p h w→Ac p s a→s.n=s0.n→s.ds=s0.ds→
   (∀ t,s.rd t=Ju (fun i=>match ops[i]? with|some o=>if o.dst=some t∧t<s0.n then some (V i) else none|none=>none) (fun i=>listed.getD i false) (s0.rd t) ops.size)→
   (∀ b,h.get b=Ju (fun i=>if (L i).w.testBit b then some ((H (i+1)).get b) else none) (fun i=>listed.getD i false) (h0.get b) ops.size)→
   p0.le p→Out p0 p c0 cn→(∀ i,i<ops.size→listed.getD i false=false→Free p (C i) (C (i+1)))→wpAny P .any ops Q fuel listed a w:=by
 have sh1:∀ k,k<ops.size→C k≤C (k+1)∧(M.Rng (H k) (C k) (C (k+1))→Sh (H k) (H (k+1)) (C k) (C (k+1)) (L k)):=fun k hk=>by
  obtain⟨o,-,q⟩:=T.step k Dw hk;exact Qma q
 have mono:∀ i j,i≤j→j≤ops.size→C i≤C j:=by
  intro i j hij;induction j with
  |zero=>
   intro _;have:i=0:=by omega
   rw[this];exact Nat.le_refl _
  |succ j ih=>
   intro hj;by_cases e:i=j+1
   ·subst e;exact Nat.le_refl _
   ·exact Nat.le_trans (ih Dw Dw) (sh1 j Dw).1
 have hCn:C ops.size≤cn:=Nat.le_of_eq hfin.2.2.1;have mon:∀ k,k≤ops.size→C k≤cn:=fun k hk=>Nat.le_trans (mono k ops.size hk (Nat.le_refl _)) hCn
 have rng:∀ k,k≤ops.size→M.Rng (H k) (C k) cn:=by
  intro k;induction k with
  |zero=>intro _;rw[T.h0,T.c0];exact hd
  |succ k ih=>
   intro hk b h1 h2;have hk':=ih Dw;obtain⟨hc,hsh⟩:=sh1 k Dw;have A:=hsh (hk'.first (mon _ hk));exact A.free b (.inr h1) (hk' b Dw h2)
 have sh:∀ k,k<ops.size→Sh (H k) (H (k+1)) (C k) (C (k+1)) (L k):=fun k hk=>(sh1 k hk).2 ((rng k Dw).first (mon _ hk))
 have sn_:∀ k,k≤ops.size→(S k).n=s0.n∧(S k).ds=s0.ds:=by
  intro k;induction k with
  |zero=>intro _;rw[T.s0];exact⟨rfl,rfl⟩
  |succ k ih=>
   intro hk;obtain⟨o,-,q'⟩:=T.step k Dw hk;have q:=Qh4 q';rw[q,Loc.n_put,Loc.Qs1];exact ih Dw
 have srd:∀ t k,k≤ops.size→(S k).rd t=Ju (fun i=>match ops[i]? with|some o=>if o.dst=some t∧t<s0.n then some (V i) else none|none=>none) (fun _=>true) (s0.rd t) k:=by
  intro t k;induction k with
  |zero=>intro _;rw[T.s0];rfl
  |succ k ih=>
   intro hk;obtain⟨o,ho,q'⟩:=T.step k Dw hk;have q:=Qh4 q';rw[q,Loc.Am,(sn_ k Dw).1,ih Dw];conv=>rhs;unfold Ju
   rw[if_pos rfl];simp only[ho];split <;> rfl
 have hget:∀ b k,k≤ops.size→(H k).get b=Ju (fun i=>if (L i).w.testBit b then some ((H (i+1)).get b) else none) (fun _=>true) (h0.get b) k:=by
  intro b k;induction k with
  |zero=>intro _;rw[T.h0];rfl
  |succ k ih=>
   intro hk;conv=>rhs;unfold Ju
   rw[if_pos rfl];cases hw:(L k).w.testBit b with
   |true=>rfl
   |false=>
    rw[(sh k Dw).out b hw,ih Dw];rfl
 have ap:∀ i j oi oj,i<j→j<ops.size→ops[i]? = some oi→ops[j]? = some oj→(mk ops j).testBit i=false→Qay ops oi oj∧H7 (L i) (L j):=fun i j oi oj hij hjN hi hj hb=>by
  refine⟨?_,T.new i j Dw hij hjN hb⟩;rcases (Qen hok hj).2.2 i oi hij hi with h1|h1
  ·rw[hb] at h1;cases h1
  ·exact h1
 have atEnd:∀ (listed:Array Bool) (p:Xb) (w:World) (a:Act) (s:Loc) (h:Tree Q4),(∀ i,i<ops.size→listed.getD i false=true)→(∀ i,listed.getD i false=true→i<ops.size∧∀ y,pn=some y→y.1≠i)→
   Rel K base w0 p h w→Ac p s a→s.n=s0.n→s.ds=s0.ds→
   (∀ t,s.rd t=Ju (fun i=>match ops[i]? with|some o=>if o.dst=some t∧t<s0.n then some (V i) else none|none=>none) (fun i=>listed.getD i false) (s0.rd t) ops.size)→
   (∀ b,h.get b=Ju (fun i=>if (L i).w.testBit b then some ((H (i+1)).get b) else none) (fun i=>listed.getD i false) (h0.get b) ops.size)→
   p0.le p→Out p0 p c0 cn→Q .normal a w:=by
  intro listed p w a s h hall hlt hr hs hsn hsds hrd hhg hle hout;obtain⟨rfl,rfl,-,⟨hpn,rfl⟩|⟨n,m,u,hpn,hn1,-,-⟩⟩:=hfin
  ·rw[hx0 hpn] at hpost;refine hpost p w a hle hout (hr.congr fun b=>?_) ⟨fun t=>?_,?_,?_⟩
   ·rw[hhg b,hget b _ (Nat.le_refl _)];exact(Wu _ fun i hi _=>hall i Dw).symm
   ·have e:(S ops.size).rd t=s.rd t:=by
     rw[hrd t,srd t _ (Nat.le_refl _)];exact(Wu _ fun i hi _=>hall i Dw).symm
    rw[e];exact hs.tm t
   ·rw[hs.n,hsn];exact((sn_ _ (Nat.le_refl _)).1).symm
   ·have:(S ops.size).ds=s.ds:=by rw[hsds];exact(sn_ _ (Nat.le_refl _)).2
    rw[this];exact hs.ds
  ·exact absurd rfl ((hlt n (hall n hn1)).2 _ hpn)
 intro fuel;induction fuel with
 |zero=>
  intro listed p w a s h hcnt hsz hlt hcl hr hs hsn hsds hrd hhg hle hout hfree;have hall:∀ i,i<ops.size→listed.getD i false=true:=by
   intro i hi;have h0:listed.toList.count false=0:=by omega
   have h1:=List.count_eq_zero.1 h0;cases hb:listed[i]? with
   |none=>have:=Array.getElem?_eq_none_iff.1 hb;omega
   |some b=>
    have hmem:b∈listed.toList:=by
     have:=Array.mem_of_getElem? hb;simpa using this
    rw[Array.getD_eq_getD_getElem?,hb];cases b with
    |true=>rfl
    |false=>exact absurd hmem h1
  refine⟨?_,?_⟩
  ·cases hrd':Region.ready .any ops listed with
   |nil=>rfl
   |cons j rest=>
    have hj:j∈Region.ready .any ops listed:=by rw[hrd'];simp
    rw[mem_ready] at hj;obtain⟨hj0,o,ho,-⟩:=hj;have hjn:=(Array.getElem?_eq_some_iff.1 ho).1
    have:=hall j hjn;rw[Array.getD_eq_getD_getElem?] at this hj0;cases hb:listed[j]? with
    |none=>have:=Array.getElem?_eq_none_iff.1 hb;omega
    |some b=>rw[hb] at this hj0;simp at this hj0;rw[this] at hj0;cases hj0
  ·exact atEnd listed p w a s h hall hlt hr hs hsn hsds hrd hhg hle hout
 |succ fuel ih=>
  intro listed p w a s h hcnt hsz hlt hcl hr hs hsn hsds hrd hhg hle hout hfree;have down:∀ j o,ops[j]? = some o→(∀ e∈o.after,Region.binds .any e=true→listed.getD e.on false=true)→∀ i,(mk ops j).testBit i=true→listed.getD i false=true:=by
   intro j;induction j using Nat.strongRecOn with
   |_ j ihj=>
    intro o ho hpre i hb;obtain⟨e,h1,h2,h3⟩:=mk_bit ho hb;have he:=hpre e (by simpa using h1) h2;rcases h3 with rfl|h3
    ·exact he
    ·have hlt:=(Qen hok ho).1 e h1 h2;have hjn:=(Array.getElem?_eq_some_iff.1 ho).1;have hoe:ops[e.on]? = some (ops[e.on]'Dw):=Array.getElem?_eq_getElem Dw;exact ihj e.on hlt _ hoe (hcl _ _ he hoe) i h3
  -- what an operation that is ready looks at is what it looked at in the text's order
  have gen:∀ (j:Nat) (o:Oper) (lj:Log) (cj:Nat),j≤ops.size→ops[j]? = some o→listed.getD j false=false→(∀ i oi,i≠j→i<ops.size→ops[i]? = some oi→¬(listed.getD i false=true↔i<j)→Qay ops oi o∧H7 (L i) lj)→
    cj≤cn→(∀ b,C j≤b→b<cj→lj.t.testBit b=true)→
    (∀ b,lj.t.testBit b=true→h.get b=(H j).get b)∧(∀ x∈o.op.operands,Po K s x=Po K (S j) x)∧Qcb ops s o=Qcb ops (S j) o∧M.Rng h (C j) cj:=by
   intro j o lj cj hjN ho hDj pair hcj hfr;have agreeS:∀ t,t∈slotsOf ops o→s.rd t=(S j).rd t:=by
    intro t ht;rw[hrd t,srd t j hjN];refine Qbj ops.size hjN fun i hi hw=>?_
    by_cases e:i=j
    ·subst e;rw[hDj];simp
    ·try dsimp only at hw
     cases hoi:ops[i]? with
     |none=>rw[hoi] at hw;exact absurd rfl hw
     |some oi=>
      rw[hoi] at hw;dsimp only at hw;split at hw
      ·rename_i hdst;by_cases hnot:(listed.getD i false=true↔i<j)
       ·exact hnot
       ·exact absurd ht ((pair i oi e hi hoi hnot).1.1 t hdst.1)
      ·exact absurd rfl hw
   have agreeH:∀ b,lj.t.testBit b=true→h.get b=(H j).get b:=by
    intro b hb;rw[hhg b,hget b j hjN];refine Qbj ops.size hjN fun i hi hw=>?_
    by_cases e:i=j
    ·subst e;rw[hDj];simp
    ·try dsimp only at hw
     split at hw
     ·rename_i hwb;by_cases hnot:(listed.getD i false=true↔i<j)
      ·exact hnot
      ·exact((pair i _ e hi (Array.getElem?_eq_getElem Dw) hnot).2.1 b hwb hb).elim
     ·exact absurd rfl hw
   refine⟨agreeH,fun x hx=>?_,?_,?_⟩
   ·cases x with
    |tmp t=>
     show Qfy (s.rd t)=Qfy ((S j).rd t)
     rw[agreeS t];unfold slotsOf Oper.looksAt;refine List.mem_append_right _ (List.mem_append_left _ (List.mem_filterMap.2 ⟨.tmp t,by simpa using hx,rfl⟩))
    |_=>rfl
   ·unfold Qcb;cases hg:o.guard with
    |none=>rfl
    |some gw=>
     obtain⟨g,want⟩:=gw;dsimp only;cases hd:(ops[g]?).bind (·.dst) with
     |none=>rfl
     |some d=>
      dsimp only;rw[agreeS d];unfold slotsOf Oper.looksAt;refine List.mem_append_right _ (List.mem_append_right _ ?_);rw[hg];simp[hd]
   ·intro b h1 h2;rw[hhg b,last_none]
    ·have h3:=mono 0 j Dw hjN;rw[T.c0] at h3;exact hd b Dw Dw
    ·intro i hi hDi;cases hwi:(L i).w.testBit b with
     |false=>rfl
     |true=>
      exfalso;have e:i≠j:=by rintro rfl;rw[hDj] at hDi;cases hDi
      by_cases hlt:i<j
      ·have hi1:=mono (i+1) j hlt hjN;have hi2:=mono i j Dw hjN;exact(sh i hi).old b (.inr Dw) ((sh i hi).sub b hwi) (rng i Dw b Dw Dw)
      ·exact(pair i _ e hi (Array.getElem?_eq_getElem Dw) (fun h=>hlt (h.1 hDi))).2.1 b hwi (hfr b h1 h2)
  refine⟨fun hnil=>?_,fun j hj=>?_⟩
  ·have hall:∀ i,i<ops.size→listed.getD i false=true:=by
    intro i;induction i using Nat.strongRecOn with
    |_ i ihi=>
     intro hi;cases hb:listed.getD i false with
     |true=>rfl
     |false=>
      have:i∈Region.ready .any ops listed:=by
       rw[mem_ready];have ho:ops[i]? = some (ops[i]'hi):=Array.getElem?_eq_getElem hi;refine⟨?_,_,ho,fun e he hbd=>?_⟩
       ·rw[Array.getD_eq_getD_getElem?] at hb ⊢;cases hb':listed[i]? with
        |none=>have:=Array.getElem?_eq_none_iff.1 hb';omega
        |some b=>rw[hb'] at hb;simpa using hb
       ·have hlt:=(Qen hok ho).1 e (by simpa using he) hbd;exact ihi e.on hlt Dw
      rw[hnil] at this;simp at this
   exact atEnd listed p w a s h hall hlt hr hs hsn hsds hrd hhg hle hout
  ·rw[mem_ready] at hj;obtain⟨hj0,o,ho,hpre⟩:=hj;have hjn:j<ops.size:=(Array.getElem?_eq_some_iff.1 ho).1;have hjl:listed[j]? = some false:=by
    rw[Array.getD_eq_getD_getElem?] at hj0;cases hb:listed[j]? with
    |none=>have:=Array.getElem?_eq_none_iff.1 hb;omega
    |some b=>rw[hb] at hj0;simp at hj0;rw[hj0]
   have hDj:listed.getD j false=false:=by rw[Array.getD_eq_getD_getElem?,hjl];rfl
   have hjN:=hjn
   ·-- those that are not as in the text are apart
    have pair:∀ i oi,i≠j→i<ops.size→ops[i]? = some oi→¬(listed.getD i false=true↔i<j)→Qay ops oi o∧H7 (L i) (L j):=by
     intro i oi hne hiN hoi hnot;cases hDi:listed.getD i false with
     |true=>
      have hji:j<i:=by
       have:¬ i<j:=fun h=>hnot ⟨fun _=>h,fun _=>hDi⟩
       omega
      have hb:(mk ops i).testBit j=false:=by
       cases hb:(mk ops i).testBit j with
       |false=>rfl
       |true=>
        have:=down i oi hoi (hcl i oi hDi hoi) j hb;rw[hDj] at this;cases this
      obtain⟨k1,k2⟩:=ap j i o oi hji hiN ho hoi hb;exact⟨k1.symm,k2.symm⟩
     |false=>
      have hij:i<j:=by
       have:¬ ¬ i<j:=fun h=>hnot ⟨fun h'=>(by rw[hDi] at h';cases h'),fun h'=>absurd h' h⟩
       omega
      have hb:(mk ops j).testBit i=false:=by
       cases hb:(mk ops j).testBit i with
       |false=>rfl
       |true=>
        have:=down j o ho hpre i hb;rw[hDi] at this;cases this
      exact ap i j oi o hij hjN hoi ho hb
    have hsj:=sh j hjN;obtain⟨agreeH,henv,hwant,hrj⟩:=gen j o (L j) (C (j+1)) Dw ho hDj pair (mon _ hjN) (fun b h1 h2=>hsj.sub b (hsj.fresh b h1 h2));obtain⟨o1,ho1,hX⟩:=T.step j Dw hjN;obtain rfl:o=o1:=Option.some.inj (ho.symm.trans ho1);rcases hX with ⟨hnj,hput,hstep⟩|⟨hput,hw,m,u,hpn,g,hg,ev⟩|⟨-,⟨n,m,u,hpn,hb⟩,-⟩;case inr.inr=>exact absurd rfl ((hlt n (down j o ho hpre n hb)).2 _ hpn)
    case inr.inl=>
     have unl:∀ i,listed.getD i false=false→(mk ops j).testBit i=false:=by
      intro i hDi;cases hb:(mk ops j).testBit i with
      |false=>rfl
      |true=>
       have:=down j o ho hpre i hb;rw[hDi] at this;cases this
     obtain⟨rfl,rfl,hcn,⟨h0,-⟩|⟨n,m',u',hpn',hn1,rfl,hq⟩⟩:=hfin
     ·rw[hpn] at h0;cases h0
     rw[hpn] at hpn';cases hpn';unfold wpOp;rw[ho];dsimp only;rw[Aj hs (hwant.trans hw),if_pos rfl];refine .inl ?_;have loc:=((Yx P K g).op o (Po K (S j)) _ _ _ _ _ _ ev).2 ((rng j Dw).first (mon _ hjN));obtain⟨g',ev',k1,k2⟩:=loc.move h hrj (fun b _ hb=>agreeH b hb);rw[←Qf3 P K o henv] at ev';have hfj:=hfree j hjN hDj;have hj1:=mono 0 j Dw Dw;have hj2:=mon (j+1) hjN;rw[T.c0] at hj1;refine(hop g hg o (Po K s) h (C j) _ g' (C (j+1)) (L j) hrj ev' p w a hr (envR hr hs) hfj).2 Ds _ _ fun p' w' q1 q2 q3 v' q4=>?_
     refine hpost p' w' a (Xb.le_trans hle q1) (fun b hb=>?_) (q3.sub fun b o' hb=>?_) ⟨fun t ht=>?_,?_,?_⟩ v' q4
     ·rw[q2 b Dw,hout b hb]
     ·rw[hx1 (by rw[hpn];simp)] at hb;split at hb
      ·cases hb
      ·rename_i hout2;rw[←hb,hget b _ (Nat.le_refl _)];have h1:Ju (fun i=>if (L i).w.testBit b then some ((H (i+1)).get b) else none) (fun i=>if i=j then true else listed.getD i false) (h0.get b) ops.size=Ju (fun i=>if (L i).w.testBit b then some ((H (i+1)).get b) else none) (fun _=>true) (h0.get b) ops.size:=by
        refine Wu _ fun i hi hw=>?_
        by_cases e:i=j
        ·rw[if_pos e]
        ·rw[if_neg e];cases hDi:listed.getD i false with
         |true=>rfl
         |false=>
          exfalso
          have:=hq.2 i Dw hi e (unl i hDi) b;try dsimp only at hw
          split at hw
          ·rename_i hwb;exact hout2 (this hwb)
          ·exact absurd rfl hw
       rw[←h1,Mc (D:=fun i=>listed.getD i false) (fun i hi=>by simp[hi]) Ds hDj _ hjN (fun i hi hDi hwi hwj=>?_),←hhg b]
       ·cases hwb:(L j).w.testBit b with
        |true=>rw[k1 b hwb];rfl
        |false=>rw[k2 b hwb];rfl
       ·try dsimp only at hwi hwj
        split at hwj
        ·rename_i hwbj;split at hwi
         ·rename_i hwbi;by_cases hlt:i<j
          ·exact hlt
          ·exfalso;have e:i≠j:=by rintro rfl;rw[hDj] at hDi;cases hDi
           exact(pair i _ e hi (Array.getElem?_eq_getElem Dw) (fun h=>hlt (h.1 hDi))).2.1 b hwbi (hsj.sub b hwbj)
         ·exact absurd rfl hwi
        ·exact absurd rfl hwj
     ·have hno:∀ i,i<ops.size→(match ops[i]? with|some o=>if o.dst=some t∧t<s0.n then some (V i) else none|none=>none)=none:=by
       intro i hi;cases hoi:ops[i]? with
       |none=>rfl
       |some oi=>
        dsimp only;rw[if_neg];rintro⟨h1,-⟩;exact ht (List.mem_filterMap.2 ⟨oi,by simpa using Array.mem_of_getElem? hoi,h1⟩)
      have e:(S ops.size).rd t=s.rd t:=by
       rw[hrd t,srd t _ (Nat.le_refl _),last_none _ fun i hi _=>hno i hi,last_none _ fun i hi _=>hno i hi]
      rw[e];exact(hs.tm t).mono q1
     ·rw[hs.n,hsn];exact((sn_ _ (Nat.le_refl _)).1).symm
     ·have:(S ops.size).ds=s.ds:=by rw[hsds];exact(sn_ _ (Nat.le_refl _)).2
      rw[this];exact hs.ds.mono q1
    have hcnt':(listed.setIfInBounds j true).toList.count false≤fuel:=by
     have:=Qjj listed.toList j (by simpa using hjl);rw[Array.toList_setIfInBounds];omega
    have hsz':(listed.setIfInBounds j true).size=ops.size:=by simpa using hsz
    have hD1:∀ i,i≠j→(listed.setIfInBounds j true).getD i false=listed.getD i false:=fun i hi=>getD_set_ne false (Ne.symm hi)
    have hD2:(listed.setIfInBounds j true).getD j false=true:=by
     rw[Array.getD_eq_getD_getElem?,Array.getElem?_setIfInBounds_self];have:j<listed.size:=by omega
     simp[this]
    have hlt':∀ i,(listed.setIfInBounds j true).getD i false=true→i<ops.size∧∀ y,pn=some y→y.1≠i:=by
     intro i hi;by_cases e:i=j
     ·subst e;exact⟨hjN,hnj⟩
     ·rw[hD1 i e] at hi;exact hlt i hi
    have hcl':∀ j' o',(listed.setIfInBounds j true).getD j' false=true→ops[j']? = some o'→∀ e∈o'.after,Region.binds .any e=true→(listed.setIfInBounds j true).getD e.on false=true:=by
     intro j' o' h1 h2 e he hb;by_cases e':j'=j
     ·subst e';obtain rfl:o=o':=Option.some.inj (ho.symm.trans h2);exact getD_set_true (hpre e he hb)
     ·rw[hD1 j' e'] at h1;exact getD_set_true (hcl j' o' h1 h2 e he hb)
    have stepS:∀ t,(s.put o.dst (V j)).rd t=Ju (fun i=>match ops[i]? with|some o=>if o.dst=some t∧t<s0.n then some (V i) else none|none=>none) (fun i=>(listed.setIfInBounds j true).getD i false) (s0.rd t) ops.size:=by
     intro t;rw[Mc (D:=fun i=>listed.getD i false) hD1 hD2 hDj ops.size hjN (fun i hi hDi hwi hwj=>?_),←hrd t,Loc.Am,hsn]
     ·simp only[ho];split <;> rfl
     ·try dsimp only at hwi hwj
      rw[ho] at hwj;dsimp only at hwj;split at hwj
      ·rename_i hdj;by_cases hlt:i<j
       ·exact hlt
       ·exfalso;have e:i≠j:=by rintro rfl;rw[hDj] at hDi;cases hDi
        have hisz:i<ops.size:=by omega
        rw[Array.getElem?_eq_getElem hisz] at hwi;dsimp only at hwi;split at hwi
        ·rename_i hdi;refine(pair i _ e hi (Array.getElem?_eq_getElem hisz) (fun h=>hlt (h.1 hDi))).1.1 t hdi.1 ?_;unfold slotsOf;exact List.mem_append_left _ (by simp[hdj.1])
        ·exact absurd rfl hwi
      ·exact absurd rfl hwj
    unfold wpOp;rw[ho];dsimp only;rcases hstep with ⟨hw,g,hg,ev⟩|⟨hw,hv,hh,hc,hl⟩
    ·rw[Aj hs (hwant.trans hw),if_pos rfl];refine .inl ?_;have loc:=((Yx P K g).op o (Po K (S j)) _ _ _ _ _ _ ev).2 ((rng j Dw).first (mon _ hjN));obtain⟨g',ev',k1,k2⟩:=loc.move h hrj (fun b _ hb=>agreeH b hb);rw[←Qf3 P K o henv] at ev';have hfj:=hfree j hjN hDj;refine(hop g hg o (Po K s) h (C j) _ g' (C (j+1)) (L j) hrj ev' p w a hr (envR hr hs) hfj).2 Ds _ _ fun p' w' q1 q2 q3 v' q4=>?_
     refine ih _ p' w' _ (s.put o.dst (V j)) g' hcnt' hsz' hlt' hcl' q3 ((hs.mono q1).put q4 _) (by rw[Loc.n_put];exact hsn) (by rw[Loc.Qs1];exact hsds) stepS (fun b=>?_) (Xb.le_trans hle q1) (fun b hb=>?_) (fun i hi hDi b h1 h2=>?_)
     ·rw[Mc (D:=fun i=>listed.getD i false) hD1 hD2 hDj ops.size hjN (fun i hi hDi hwi hwj=>?_),←hhg b]
      ·cases hwb:(L j).w.testBit b with
       |true=>rw[k1 b hwb];rfl
       |false=>rw[k2 b hwb];rfl
      ·try dsimp only at hwi hwj
       split at hwj
       ·rename_i hwbj;split at hwi
        ·rename_i hwbi;by_cases hlt:i<j
         ·exact hlt
         ·exfalso;have e:i≠j:=by rintro rfl;rw[hDj] at hDi;cases hDi
          exact(pair i _ e hi (Array.getElem?_eq_getElem Dw) (fun h=>hlt (h.1 hDi))).2.1 b hwbi (hsj.sub b hwbj)
        ·exact absurd rfl hwi
       ·exact absurd rfl hwj
     ·have hj1:=mono 0 j Dw Dw;have hj2:=mon (j+1) hjN;rw[T.c0] at hj1;rw[q2 b Dw,hout b hb]
     ·have e:i≠j:=by rintro rfl;rw[hD2] at hDi;cases hDi
      rw[hD1 i e] at hDi;rw[q2 b ?_]
      ·exact hfree i hi hDi b h1 h2
      ·by_cases hlt:i<j
       ·have:=mono (i+1) j hlt Dw;omega
       ·have:=mono (j+1) i Dw Dw;omega
    ·rw[Aj hs (hwant.trans hw),if_neg Ds];refine ih _ p w _ (s.put o.dst undef) h hcnt' hsz' hlt' hcl' hr (hs.put Fg _) (by rw[Loc.n_put];exact hsn) (by rw[Loc.Qs1];exact hsds) (by rw[←hv];exact stepS) (fun b=>?_) hle hout (fun i hi hDi=>?_)
     ·rw[Mc (D:=fun i=>listed.getD i false) hD1 hD2 hDj ops.size hjN (fun i hi hDi hwi hwj=>?_),←hhg b]
      ·rw[hl];simp[Log.no]
      ·rw[hl] at hwj;simp[Log.no] at hwj
     ·have e:i≠j:=by rintro rfl;rw[hD2] at hDi;cases hDi
      rw[hD1 i e] at hDi;exact hfree i hi hDi
theorem Qlj {f:Nat}(hm:P.follows .mixedOrders=true)(hop:∀ g,g<f→OpOK P K base w0 g){id:Nat}{ops:Array Oper}{s:Loc}{h:Tree Q4}{c0:Nat}{x:XE}{s':Loc}{h':Tree Q4}{c1:Nat}{l:Log}
  (hok:Qm5 ops=true) (hd:M.Rng h c0 c1) (e:(match Jp P K f ops ops.toList (masks ops.toList 0 .leaf) 0 [] none c0 s h c0 with
   | .ok (.panic v ds,s') h' c' l=>(.ok (.panic v ds,s') (Qhk c0 (c'-c0) h') c' l:Res Q4 (XE×Loc))
   |r=>r)=.ok (x,s') h' c1 l)
  {p:Xb} {w:World} {a:Act} {Q:Exit→Act→World→Prop} (hr:Rel K base w0 p h w) (hs:Ac p s a) (hf:Free p c0 c1) (hp:Post K base w0 p c0 c1 h' x s' Q):(Code.region id ops true).wp P Q a w:=by
 obtain⟨hh,e1,hh1⟩:∃ hh,Jp P K f ops ops.toList (masks ops.toList 0 .leaf) 0 [] none c0 s h c0=.ok (x,s') hh c1 l∧((∃ v ds,x=.panic v ds∧h'=Qhk c0 (c1-c0) hh)∨((∀ v ds,x ≠ .panic v ds)∧h'=hh)):=by
  split at e
  ·rename_i v ds s2 h2 c2 l2 e1;cases e;exact⟨h2,e1,.inl ⟨v,ds,rfl,rfl⟩⟩
  ·rename_i hno;refine⟨h',e,.inr ⟨fun v ds hx=>?_,rfl⟩⟩;subst hx;exact hno v ds s' h' c1 l e
 have hcc:c0≤c1:=((Yx P K f).draw _ _ _ _ _ _ _ _ _ _ _ _ _ _ e1).1;obtain⟨pn,S,H,C,L,V,-,T,E⟩:=Wx P K f _ _ 0 [] none c0 s h c0 x s' hh c1 l e1 Ds (by simp[msOf]) Dw (fun n m u hy=>by cases hy);refine wp_region_any hm ?_;have hD:∀ i:Nat,(Array.replicate ops.size false).getD i false=false:=fun i=>by
  rw[Array.getD_eq_getD_getElem?,Array.getElem?_replicate];split <;> rfl
 have mono:∀ i j,i≤j→j≤ops.size→C i≤C j:=by
  intro i j hij;induction j with
  |zero=>
   intro _;have:i=0:=by omega
   rw[this];exact Nat.le_refl _
  |succ j ih=>
   intro hj;by_cases e:i=j+1
   ·subst e;exact Nat.le_refl _
   ·obtain⟨o,-,q⟩:=T.step j Dw hj;exact Nat.le_trans (ih Dw Dw) (Qma q).1
 have hCn:C ops.size=c1:=E.2.2.1;have hx0:pn=none→h'=hh:=fun h0=>by
  obtain⟨-,-,-,⟨-,hx⟩|⟨n,m,u,hpn,-⟩⟩:=E
  ·rcases hh1 with ⟨v,ds,h1,-⟩|⟨-,h1⟩
   ·rw[hx] at h1;cases h1
   ·exact h1
  ·rw[h0] at hpn;cases hpn
 have hx1:pn≠none→∀ b,h'.get b=if c0≤b∧b<c1 then none else hh.get b:=fun h0 b=>by
  obtain⟨-,-,-,⟨h1,-⟩|⟨n,m,u,hpn,-,hx,-⟩⟩:=E
  ·exact absurd h1 h0
  ·rcases hh1 with ⟨v,ds,-,h1⟩|⟨h1,-⟩
   ·rw[h1,Rh,show c0+(c1-c0)=c1 by omega]
   ·exact absurd hx (h1 _ _)
 refine draw_any hop hok hd T E hx0 hx1 hp ops.size _ p w.drew a s h ?_ Ds (fun i hi=>by rw[hD] at hi;cases hi) (fun j o hj=>by rw[hD] at hj;cases hj) hr.drew hs rfl rfl (fun t=>?_) (fun b=>?_) (Xb.le_refl _) Out.rfl (fun i hi _ b h1 h2=>?_)
 ·simp
 ·exact(last_none _ fun i hi h=>by rw[hD] at h;cases h).symm
 ·exact(last_none _ fun i hi h=>by rw[hD] at h;cases h).symm
 ·have h3:=mono 0 i Dw Dw;have h4:=mono (i+1) ops.size hi (Nat.le_refl _);rw[T.c0] at h3;exact hf b Dw Dw
end
end Ev
end
section
namespace Ev
open Go.RowKit
def UR (p:Xb)(u:UM)(m:FrameMode):Prop:=match u,m with
 | .ret,.returning=>True
 | .pan v,.panicking ch=>∃ v',ch=[{ v:=v',recovered:=false }]∧VR p v v'
 | .caught v,.panicking ch=>∃ v',ch=[{ v:=v',recovered:=true }]∧VR p v v'
 |_,_=>False
section
variable (P:Program) (K:Cfg) (base:Nat→Prop) (w0:World)
def Ql2 (f:Nat):Prop:=∀ (fn:Func) (s:Loc) (ls:List Nat) (ds:List (FuncId×List Value)) (u:UM) (h:Tree Q4) (c0:Nat) (r:CR) (h':Tree Q4) (c1:Nat) (l:Log),M.Rng h c0 c1→D6 P K f fn s ls ds u h c0=.ok r h' c1 l→
 ∀ (p:Xb) (w:World) (a:Act) (ds':List Deferred) (m:FrameMode) (R:Ending→World→Prop),Rel K base w0 p h w→LocL ls p s a→DRs p ds ds'→UR p u m→Free p c0 c1→(∀ p' w' e,p.le p'→Out p p' c0 c1→Rel K base w0 p' h' w'→CRR p' r e→R e w')→Leaves P fn a.tmps R ds' m w
end
section
variable {P:Program} {K:Cfg} {base:Nat→Prop} {w0:World}
theorem Qjb {p:Xb}{h:Tree Q4}{w:World}{s:Loc}{a:Act}{q:Operand}{b:Bool}(e1:Po K s q=some (.bool b))(hr:Rel K base w0 p h w)(hs:Ac p s a):a.eval q=.bool b:=by
 have:=envR hr hs q _ e1;generalize Act.eval _ q=u at this;cases this;rfl
theorem leave_ok {f:Nat}:Ql2 P K base w0 (f+1):=by
 intro fn s ls ds u h c0 r h' c1 l hd e p w a ds' m R hr hs hds hu hf hp;unfold D6 at e;dsimp only at e;have L:=Yx P K f;cases ds with
 |nil=>
  cases hds;dsimp only at e;cases u with
  |ret=>
   obtain rfl:m=.returning:=by cases m <;> first|rfl|exact hu.elim
   by_cases hm:meets ls (Bh fn.results.toList)=true
   ·rw[if_pos hm] at e;cases e
   rw[if_neg hm] at e;obtain⟨vs,h2,c2,l3,l4,e3,e4⟩:=Qr e;obtain⟨rfl,rfl,rfl⟩:=Qn e4;obtain⟨rfl,rfl,v,g1,g2⟩:=Qn7 (P:=P) (fun t ht hl=>Et (by simpa using hm) t hl ht) hs hr e3;exact⟨v,g1,hp p w _ (Xb.le_refl _) Out.rfl hr g2⟩
  |pan v=>
   obtain⟨rfl,rfl,rfl⟩:=Qn e;cases m with
   |panicking ch=>
    obtain⟨v',rfl,hv⟩:=hu;exact hp p w _ (Xb.le_refl _) Out.rfl hr ⟨v',rfl,hv⟩
   |_=>exact hu.elim
  |caught v=>cases e
 |cons gd ds=>cases e
end
end Ev
end
section
namespace Ev
open Go.RowKit
section
variable {P:Program} {K:Cfg} {base:Nat→Prop} {w0:World}
theorem call_ok {f:Nat}(hc:Qnj P K base w0 f)(hlv:Ql2 P K base w0 f):Qti P K base w0 (f+1):=by
 intro g args h c0 r h' c1 l hd e p w args' hr hv hf;unfold Gf at e;have L:=Yx P K f;cases hfn:P.funcs[g]? with
 |none=>rw[hfn] at e;cases e
 |some fn=>
 rw[hfn] at e;dsimp only at e;cases hb:fn.body with
 |none=>rw[hb] at e;cases e
 |some c=>
 rw[hb] at e;dsimp only at e;split at e
 ·rename_i hn
  obtain⟨⟨x1,s1⟩,h1,cm,l1,l2,e1,e2,hda,hdb,hcm,hc2⟩:=Eb e hd (L.code _ _) (fun r=>by
   try dsimp only
   split
   ·exact L.leave _ _ _ _ _
   ·exact L.leave _ _ _ _ _
   ·exact L.leave _ _ _ _ _
   ·exact M.Qe)
  dsimp only at e2;refine calls_of_wp_defers hfn hb (Zr (hc _ _ _ _ _ _ _ _ _ hda e1 p w _ _ hr (begin_ok hv hn) (hf.first hc2) fun p' w' a' q1 q2 q3 q4=>?_));have fin:∀ (ls:List Nat) (u:UM) (m:FrameMode),LocL ls p' s1 a'→UR p' u m→D6 P K f fn s1 ls s1.ds u h1 cm=.ok r h' c1 l2→Leaves P fn a'.tmps (fun e w'=>∃ p',p.le p'∧Out p p' c0 c1∧Rel K base w0 p' h' w'∧CRR p' r e) a'.defers m w':=fun ls u m q4 hu el=>
   hlv _ _ _ _ _ _ _ _ _ _ _ hdb el p' w' a' _ m _ q3 q4 q4.ds hu (hf.later hcm q2) fun p'' w'' e'' k1 k2 k3 k4=>⟨p'',Xb.le_trans q1 k1,q2.trans hcm hc2 k2,k3,k4⟩
  cases x1 with
  |normal=>exact fin [] .ret .returning (Ac.toL q4) trivial e2
  |ret=>exact fin [] .ret .returning (Ac.toL q4) trivial e2
  |panic v ls=>exact fun v' hv'=>fin ls (.pan v) (.panicking [{ v:=v',recovered:=false }]) q4 ⟨v',rfl,hv'⟩ e2
  |exit=>cases e2
 ·cases e
theorem code_ok {f:Nat}(horc:Qjq P K base w0)(hm:P.follows .mixedOrders=true)(hop:∀ g,g<f→OpOK P K base w0 g)(hc:Qnj P K base w0 f)(ho:OpsOK P K base w0 f):Qnj P K base w0 (f+1):=by
 intro c s h c0 x s' h' c1 l hd e p w a Q hr hs hf hp;unfold Ji at e;have L:=Yx P K f;cases c with
 |skip=>
  obtain⟨e3,rfl,rfl⟩:=Qn e;cases e3;exact wp_skip (Au hp hr hs)
 |label=>
  obtain⟨e3,rfl,rfl⟩:=Qn e;cases e3;exact wp_label (Au hp hr hs)
 |exit id=>
  obtain⟨e3,rfl,rfl⟩:=Qn e;cases e3;exact wp_exit (Au hp hr hs)
 |ret=>
  obtain⟨e3,rfl,rfl⟩:=Qn e;cases e3;exact wp_ret (Au hp hr hs)
 |scope b=>
  refine wp_scope_straight (Zr (hc _ _ _ _ _ _ _ _ _ hd e p w a _ hr hs hf fun p' w' a' q1 q2 q3 q4=>?_))
  have:=hp p' w' a' q1 q2 q3 q4;cases x <;> exact this
 |cond q x y=>
  dsimp only at e;cases hb:Po K s q with
  |none=>rw[hb] at e;cases e
  |some v=>
   rw[hb] at e;cases v with
   |bool b=>
    cases b with
    |true=>exact wp_cond_true (Qjb hb hr hs) (Zr (hc _ _ _ _ _ _ _ _ _ hd e p w a Q hr hs hf hp))
    |false=>exact wp_cond_false (Qjb hb hr hs) (Zr (hc _ _ _ _ _ _ _ _ _ hd e p w a Q hr hs hf hp))
   |_=>cases e
 |seq x1 y1=>
  obtain⟨⟨x2,s2⟩,h1,cm,l1,l2,e1,e2,hda,hdb,hcm,hc2⟩:=Eb e hd (L.code _ _) (fun r=>by
   try dsimp only
   split
   ·exact L.code _ _
   ·exact M.Qi _)
  refine wp_seq (Zr (hc _ _ _ _ _ _ _ _ _ hda e1 p w a _ hr hs (hf.first hc2) fun p' w' a' q1 q2 q3 q4=>?_));cases x2 with
  |normal=>exact Zr (hc _ _ _ _ _ _ _ _ _ hdb e2 p' w' a' Q q3 q4 (hf.later hcm q2) (hp.later hcm hc2 q1 q2))
  |_=>
   obtain⟨e3,rfl,rfl⟩:=Qn e2;cases e3;exact hp p' w' a' q1 q2 q3 q4
 |block id b=>
  obtain⟨⟨x2,s2⟩,h1,cm,l1,l2,e1,e2⟩:=Qr e;dsimp only at e2;have hsame:h'=h1∧c1=cm∧s'=s2∧((∃ i,x2=.exit i∧i=id∧x=.normal)∨((∀ i,x2=.exit i→i≠id)∧x=x2)):=by
   cases x2 with
   |exit i=>
    dsimp only at e2;split at e2
    ·rename_i hid;obtain⟨e3,rfl,rfl⟩:=Qn e2;cases e3;exact⟨rfl,rfl,rfl,.inl ⟨i,rfl,hid,rfl⟩⟩
    ·rename_i hid;obtain⟨e3,rfl,rfl⟩:=Qn e2;cases e3;exact⟨rfl,rfl,rfl,.inr ⟨fun j hj=>(by cases hj;exact hid),rfl⟩⟩
   |_=>
    obtain⟨e3,rfl,rfl⟩:=Qn e2;cases e3;exact⟨rfl,rfl,rfl,.inr ⟨fun j hj=>(by cases hj),rfl⟩⟩
  obtain⟨rfl,rfl,rfl,hx⟩:=hsame;refine wp_block (Zr (hc _ _ _ _ _ _ _ _ _ hd e1 p w a _ hr hs hf fun p' w' a' q1 q2 q3 q4=>?_))
  have:=hp p' w' a' q1 q2 q3 (by rcases hx with ⟨i,rfl,rfl,rfl⟩|⟨_,rfl⟩ <;> exact q4);rcases hx with ⟨i,rfl,rfl,rfl⟩|⟨hx,rfl⟩
  ·show Exit.inBlock i Q (.exit i) _ _
   unfold Exit.inBlock;dsimp only;rw[if_pos rfl];exact this
  ·cases x with
   |exit j=>
    show Exit.inBlock id Q (.exit j) _ _
    unfold Exit.inBlock;dsimp only;rw[if_neg (hx j rfl)];exact this
   |_=>exact this
 |loop b=>
  dsimp only at e;cases hlp:K.lop b s with
  |some m=>
   rw[hlp] at e;exact horc.loop _ _ _ hlp _ _ _ _ _ _ _ hd e p w a Q hr hs hf hp
  |none=>
  rw[hlp] at e
  obtain⟨⟨x2,s2⟩,h1,cm,l1,l2,e1,e2,hda,hdb,hcm,hc2⟩:=Eb e hd (L.code _ _) (fun r=>by
   try dsimp only
   split
   ·exact L.code _ _
   ·exact M.Qi _)
  refine Zu (Zr (hc _ _ _ _ _ _ _ _ _ hda e1 p w a _ hr hs (hf.first hc2) fun p' w' a' q1 q2 q3 q4=>?_));cases x2 with
  |normal=>exact hc _ _ _ _ _ _ _ _ _ hdb e2 p' w' a' Q q3 q4 (hf.later hcm q2) (hp.later hcm hc2 q1 q2)
  |_=>
   obtain⟨e3,rfl,rfl⟩:=Qn e2;cases e3;exact hp p' w' a' q1 q2 q3 q4
 |region id ops draw=>
  cases draw with
  |true=>
   dsimp only at e;split at e
   ·rename_i hok;exact Qlj hm hop hok hd e hr hs hf hp
   ·cases e
  |false=>
   refine wp_region ?_;rw[List.range_eq_range'];exact ho _ _ _ _ _ _ _ _ _ _ hd e 0 p w a Q rfl hr hs hf hp
 |_=>cases e
structure AllOK (P:Program)(K:Cfg)(base:Nat→Prop)(w0:World)(f:Nat):Prop where
 code:Qnj P K base w0 f
 ops:OpsOK P K base w0 f
 op:OpOK P K base w0 f
 call:Qti P K base w0 f
 leave:Ql2 P K base w0 f
theorem Qth (hm:P.follows .mixedOrders=true)(horc:Qjq P K base w0):∀ f,AllOK P K base w0 f:=by
 intro f;induction f using Nat.strongRecOn with
 |_ f ih=>
  cases f with
  |zero=>
   refine⟨?_,?_,?_,?_,?_⟩
   ·intro _ _ _ _ _ _ _ _ _ _ e;unfold Ji at e;cases e
   ·intro _ _ _ _ _ _ _ _ _ _ _ e;unfold Qfb at e;cases e
   ·intro _ _ _ _ _ _ _ _ _ e;unfold Qjs at e;cases e
   ·intro _ _ _ _ _ _ _ _ _ e;unfold Gf at e;cases e
   ·intro _ _ _ _ _ _ _ _ _ _ _ _ e;unfold D6 at e;cases e
  |succ f=>
   have A:=ih f Dw;exact⟨code_ok horc hm (fun g hg=>(ih g Dw).op) A.code A.ops,ops_ok A.op A.ops,op_ok horc A.call,call_ok A.code A.leave,leave_ok⟩
theorem Qlh (hm:P.follows .mixedOrders=true)(horc:Qjq P K base w0){f:Nat}{g:FuncId}{args:List Value}{h:Tree Q4}{c0:Nat}{r:CR}{h':Tree Q4}{c1:Nat}{l:Log}(e:Gf P K f g args h c0=.ok r h' c1 l)(hd:M.Rng h c0 c1)
  {p:Xb} {w:World} {args':Array Value} (hr:Rel K base w0 p h w) (hv:VRs p args args'.toList) (hf:Free p c0 c1):Calls P g args' w fun e w'=>∃ p',p.le p'∧Out p p' c0 c1∧Rel K base w0 p' h' w'∧CRR p' r e:=
 (Qth hm horc f).call _ _ _ _ _ _ _ _ hd e p w args' hr hv hf
end
end Ev
end
section
namespace Ev
open Go.RowKit
theorem rel0 {K:Cfg}{O:Nat→Prop}{p:Xb}(w:World)(hg:∀ b,b<K.g→∃ s,p b=some s∧s.blk=b∧s.off=0)(hd:Dis K p):Rel K O w p .leaf w:=by
 refine⟨Keep.refl _ _,hg,hd,fun b o h=>?_,fun b b' o o' s s' k h=>?_,fun b m s h=>?_⟩
 ·cases h
 ·cases h
 ·cases h
def kindN:IntKind→Nat
 | .i8=>0
 | .i16=>1
 | .i32=>2
 | .i64=>3
 | .u8=>4
 | .u16=>5
 | .u32=>6
 | .u64=>7
theorem Qsj {a b:IntKind}(h:Nat.beq (kindN a) (kindN b)=true):a=b:=by
 cases a <;> cases b <;> first|rfl|(cases h)
def eqI (a b:Int):Bool:=match a with
 | .ofNat n=>match b with
  | .ofNat m=>Nat.beq n m
  | .negSucc _=>false
 | .negSucc n=>match b with
  | .ofNat _=>false
  | .negSucc m=>Nat.beq n m
theorem eqI_ok {a b:Int}(h:eqI a b=true):a=b:=by
 unfold eqI at h;cases a <;> cases b <;> dsimp only at h
 ·rw[Nat.eq_of_beq_eq_true h]
 ·cases h
 ·cases h
 ·rw[Nat.eq_of_beq_eq_true h]
def eqBool (a b:Bool):Bool:=match a with
 |true=>b
 |false=>(match b with
  |true=>false
  |false=>true)
theorem Qsw {a b:Bool}(h:eqBool a b=true):a=b:=by
 cases a <;> cases b <;> first|rfl|(exact absurd h Dd)
def eqS (a b:ByteArray):Bool:=eqB a.data.toList b.data.toList
theorem eqS_ok {a b:ByteArray}(h:eqS a b=true):a=b:=by
 have:=Array.toList_inj.1 (Qjf h);cases a;cases b;exact congrArg _ this
def eqA (a b:Option Addr):Bool:=match a with
 |none=>match b with
  |none=>true
  |some _=>false
 |some ⟨n,o,none⟩=>match b with
  |some ⟨n',o',none⟩=>Nat.beq n n'&&Nat.beq o o'
  |_=>false
 |_=>false
theorem eqA_ok {a b:Option Addr}(h:eqA a b=true):a=b:=by
 unfold eqA at h;split at h
 ·split at h
  ·rfl
  ·cases h
 ·split at h
  ·rw[Bool.and_eq_true] at h;rw[Nat.eq_of_beq_eq_true h.1,Nat.eq_of_beq_eq_true h.2]
  ·cases h
 ·cases h
def eqN (a b:Option Nat):Bool:=match a with
 |none=>match b with
  |none=>true
  |some _=>false
 |some n=>match b with
  |some m=>Nat.beq n m
  |none=>false
theorem eqN_ok {a b:Option Nat}(h:eqN a b=true):a=b:=by
 unfold eqN at h;cases a with
 |none=>cases b with
  |none=>rfl
  |some _=>cases h
 |some n=>cases b with
  |none=>cases h
  |some m=>rw[Nat.eq_of_beq_eq_true h]
def eqL (f:Value→Value→Bool):List Value→List Value→Bool
 | [],[]=>true
 |a::l,b::m=>f a b&&eqL f l m
 |_,_=>false
theorem Qao {f:Value→Value→Bool}(hf:∀ {a b},f a b=true→a=b):∀ {l m:List Value},eqL f l m=true→l=m
 | [],[],_=>rfl
 |a::l,b::m,h=>by
  unfold eqL at h;rw[Bool.and_eq_true] at h;rw[hf h.1,Qao hf h.2]
 | [],_::_,h=>by cases h
 |_::_,[],h=>by cases h
def eqV:Nat→Value→Value→Bool
 |0,_,_=>false
 |f+1,a,b=>match a with
  | .bool x=>match b with
   | .bool y=>eqBool x y
   |_=>false
  | .int k n=>match b with
   | .int k' n'=>Nat.beq (kindN k) (kindN k')&&eqI n n'
   |_=>false
  | .string s=>match b with
   | .string t=>eqS s t
   |_=>false
  | .pointer x=>match b with
   | .pointer y=>eqA x y
   |_=>false
  | .slice x n c=>match b with
   | .slice y n' c'=>eqA x y&&(Nat.beq n n'&&Nat.beq c c')
   |_=>false
  | .map x=>match b with
   | .map y=>eqN x y
   |_=>false
  | .chan x=>match b with
   | .chan y=>eqN x y
   |_=>false
  | .func (.func g) x y=>match b with
   | .func (.func g') x' y'=>Nat.beq g g'&&(eqL (eqV f) x.toList x'.toList&&eqL (eqV f) y.toList y'.toList)
   |_=>false
  | .nilFunc=>match b with
   | .nilFunc=>true
   |_=>false
  | .iface t v=>match b with
   | .iface t' v'=>Nat.beq t t'&&eqV f v v'
   |_=>false
  | .nilIface=>match b with
   | .nilIface=>true
   |_=>false
  | .agg x=>match b with
   | .agg y=>eqL (eqV f) x.toList y.toList
   |_=>false
  | .tuple x=>match b with
   | .tuple y=>eqL (eqV f) x.toList y.toList
   |_=>false
  |_=>false
theorem Vr:∀ {f:Nat} {a b:Value},eqV f a b=true→a=b
 |0,_,_,h=>by cases h
 |f+1,a,b,h=>by
  have ih:∀ {a b:Value},eqV f a b=true→a=b:=fun h=>Vr h
  unfold eqV at h;split at h <;> (try (cases h;done)) <;> split at h <;> (try (cases h;done))
  ·rw[Qsw h]
  ·rw[Bool.and_eq_true] at h;rw[Qsj h.1,eqI_ok h.2]
  ·rw[eqS_ok h]
  ·rw[eqA_ok h]
  ·rw[Bool.and_eq_true,Bool.and_eq_true] at h;rw[eqA_ok h.1,Nat.eq_of_beq_eq_true h.2.1,Nat.eq_of_beq_eq_true h.2.2]
  ·rw[eqN_ok h]
  ·rw[eqN_ok h]
  ·rw[Bool.and_eq_true,Bool.and_eq_true] at h;rw[Nat.eq_of_beq_eq_true h.1,Array.toList_inj.1 (Qao ih h.2.1),Array.toList_inj.1 (Qao ih h.2.2)]
  ·rfl
  ·rw[Bool.and_eq_true] at h;rw[Nat.eq_of_beq_eq_true h.1,ih h.2]
  ·rfl
  ·rw[Array.toList_inj.1 (Qao ih h)]
  ·rw[Array.toList_inj.1 (Qao ih h)]
end Ev
end
end Go.Proofs.YtcbkeecabcbogaaGreatDoor
