/- Scripts: what is told of the reader's functions holds in the -/
import Derived.Test.YtcbkeecabcbogaaGreatDoorSak
set_option linter.unusedSimpArgs false
set_option linter.unusedVariables false
namespace Go.Proofs.YtcbkeecabcbogaaGreatDoor
section
open Go.RowKit
namespace Prs
open Ev
def ListW (B:Nat)(w:World)(v:Value)(ts:List Tr):Prop:=∃ a c,v=.slice a ts.length c∧ts.length≤c∧c≤maxLen∧((a=none∧ts=[]∧c=0)∨∃ g o bs,a=some ⟨g,o,none⟩∧B≤g∧w.heap[g]? = some (.cells bs 26 (0,0))∧o+c*5≤bs.size∧Xp (fun k=>B≤k∧k≠g) w g ts o)
structure SetAt (g:Nat)(d:Int)(w wm:World):Prop where
 os:wm.os=w.os
 tape:wm.tape=w.tape
 output:wm.output=w.output
 size:wm.heap.size=w.heap.size
 block:∀ k,k≠g→wm.heap[k]? = w.heap[k]?
 cell:∃ fr:Nat×Nat,wm.heap[g]? = some (.cells #[.int .i64 d] 3 fr)∧(decide (fr.1≤0)&&decide (0<fr.2))=false
def CPost (b:Nat)(E:Env)(N:Va)(q:Bool)(p:Xb)(res:CRes)(w:World)(e:Ending)(w':World):Prop:=match res with
 | .pure _=>False
 | .cons _ _=>False
 | .more _ _=>False
 | .kid _ _ _=>False
 | .intl _ d1 r=>∃ wm,SetAt N.D d1 w wm∧CPost b E N q p r wm e w'
 | .look v=>Below w.heap.size w w'∧∃ v',e=.returned v'∧VR p v v'
 | .pan v=>Qo b w w'∧∃ v',e=.panicked [{ v:=v',recovered:=false }]∧VR p v v'
 | .step j v=>Qo b w w'∧RdB b E w' (N.L j) q∧∃ v',e=.returned v'∧VR p v v'
 | .tree j k i=>Qo b w w'∧RdB b E w' (N.L j) q∧(k=tk (256+4*i)∨k=.int .i64 ((N.T i).kind:Int))∧i<16∧∃ v',e=.returned v'∧Zd (w.heap.size ≤ ·) w' (N.T i) v'
 | .trees j m=>Qo b w w'∧RdB b E w' (N.L j) q∧∃ v',e=.returned v'∧ListW w.heap.size w' v' (N.TS m)
def Uc (b:Nat)(E:Env)(N:Va)(w0:World)(c:Xt):Prop:=match c.res with
 | .pure v=>∀ (p:Xb),AxN b N p→∀ (args':List Value) (w:World),VRs p c.args args'→(∀ k,k<b→w.heap[k]? = E.w0.heap[k]?)→Calls Tryz.prog c.g args'.toArray w fun e w'=>w'=w∧∃ v',e=.returned v'∧VR p v v'
 | .cons m none=>N.TS m=[]
 | .cons m (some y)=>(N.TS m).length≤4294967296∧(y.2≠1000→N.TS m≠[]∧N.TS y.2=den N y.1::N.TS m)
 | .more i r=>decide (0<(N.L i).length)=r
 | .kid t u _=>(∃ l,(N.T t).kids=N.T u::l)∧u<16
 | .intl d0 _ _=>∀ (p:Xb),AxN b N p→∀ (q:Bool) (args':List Value) (w:World) (fr:Nat×Nat),VR p c.hd (.bool q)→VRs p c.args args'→w.heap[N.D]? = some (.cells #[.int .i64 d0] 3 fr)→(decide (fr.1≤0)&&decide (0<fr.2))=false→RdB b E w (N.L c.i) q→w0.heap.size≤w.heap.size→
  Calls Tryz.prog c.g (rp b::args').toArray w (CPost b E N q p c.res w)
 |_=>∀ (p:Xb),AxN b N p→∀ (q:Bool) (args':List Value) (w:World),VR p c.hd (.bool q)→VRs p c.args args'→RdB b E w (N.L c.i) q→w0.heap.size≤w.heap.size→
  Calls Tryz.prog c.g (rp b::args').toArray w (CPost b E N q p c.res w)
structure Ctx (b:Nat)(E:Env)(N:Va)(K:Cfg)(O:Nat→Prop)(w0:World)(cs:List Xt):Prop where
 orc:K.orc=orcS 61 cs
 mean:K.mean=Jj b E N
 ax:K.ax=AxN b N
 n:K.n=64
 ob:O b
 lo:∀ k,O k→b≤k
 bw:b<w0.heap.size
 low:∀ k,k<b→w0.heap[k]? = E.w0.heap[k]?
 x0:N.X 0=.int .i64 (E.len:Int)
 len:N.len=E.len
 x1:∃ q,N.X 1=.bool q
 s:∀ k,w0.heap.size≤k→N.S k
 calls:∀ c∈cs,Uc b E N w0 c
section
variable {b:Nat} {E:Env} {N:Va} {K:Cfg} {O:Nat→Prop} {w0 w:World} {cs:List Xt} {p:Xb} {h:Tree Q4}
theorem Ctx.axp (C:Ctx b E N K O w0 cs)(hr:Rel K O w0 p h w):AxN b N p:=by
 have:=hr.dis.ax;rw[C.ax] at this;exact this
theorem Ctx.lows (C:Ctx b E N K O w0 cs)(hr:Rel K O w0 p h w):∀ k,k<b→w.heap[k]? = E.w0.heap[k]? := fun k hk=>
 (hr.below.block k (Nat.lt_trans hk C.bw) (fun hO=>absurd (C.lo k hO) (Nat.not_le.2 hk))).trans (C.low k hk)
theorem Ctx.tok (C:Ctx b E N K O w0 cs)(hr:Rel K O w0 p h w){c i:Nat}(hc:h.get c=some (.abs (8*i))){v:Value}(hv:VR p (tk c) v):Qhu b E.w0 v (N.L i):=by
 cases hv with
 |tok h1 h2=>
  have:=hr.mean c _ _ hc h1;rw[C.mean] at this;unfold Jj at this;rw[show (8*i) % 8=0 by omega,show 8*i / 8=i by omega] at this;exact this.1
theorem hd_bool (C:Ctx b E N K O w0 cs)(hr:Rel K O w0 p h w){hd v:Value}(ho:hdOK hd=true)(hv:VR p hd v):∃ q,v=.bool q:=by
 unfold hdOK at ho;split at ho
 ·cases hv;exact⟨_,rfl⟩
 ·obtain⟨q,hq⟩:=C.x1;have:Xi N 321=some (.bool q):=by rw[←hq];rfl
  exact⟨q,(C.axp hr).val this hv⟩
 ·cases ho
theorem Qgw (C:Ctx b E N K O w0 cs)(hr:Rel K O w0 p h w){c i:Nat}{hd:Value}(h64:h.get 64=some (.row [tk c,tk 320,hd] 61 3))(ho:hdOK hd=true)(hc:h.get c=some (.abs (8*i))):
  ∃ q,VR p hd (.bool q)∧RdB b E w (N.L i) q:=by
 obtain⟨s0,a1,a2,a3,a4,a5⟩:=(C.axp hr).rd;obtain⟨s,k1,-,-,k4⟩:=hr.at_ _ _ h64;obtain rfl:s=s0:=Option.some.inj (k1.symm.trans a1);obtain⟨bs,fr,r1,r2,r3,r4,r5⟩:=Nh.at_ k4;rw[a2] at r1;rw[a4] at r2;obtain rfl:=r5.2 Dd;rw[a3,List.drop_zero] at r4;have hbl:bs.toList.length=3:=by simpa using r2
 rw[List.take_of_length_le (by simp[hbl])] at r4;generalize hbl':bs.toList=bl at r4;cases r4 with
 |@cons _ v1 _ _ q1 r4=>
 cases r4 with
 |cons q2 r4=>
 cases r4 with
 |cons q3 r4=>
 cases r4;obtain⟨q,rfl⟩:=hd_bool C hr ho q3;have e2:=(C.axp hr).val (show Xi N 320=some (.int .i64 (E.len:Int)) by rw[←C.x0];rfl) q2;subst e2;have hbs:bs = #[v1,.int .i64 (E.len:Int),.bool q]:=by
  rw[←Array.toList_inj,hbl']
 refine⟨q,q3,C.lows hr,_,?_,Qhu.frame (C.lows hr) (C.tok hr hc q1)⟩;rw[r1,hbs]
theorem Qmj (C:Ctx b E N K O w0 cs)(hr:Rel K O w0 p h w){j c:Nat}{q:Bool}{hd:Value}(h64:h.get 64=none)(hfree:∀ x o s,h.get x=some o→p x=some s→¬ Occ o s b)(hb:RdB b E w (N.L j) q)(hv:VR p hd (.bool q))(hp:p c=none)(hc:c≠64):
  ∃ s,Rel K O w0 (p.add c s) ((h.set c (some (.abs (8*j)))).set 64 (some (.row [tk c,tk 320,hd] 61 3))) w∧p.le (p.add c s):=by
 have hlt:=hb.lt;have hax:=C.axp hr;obtain⟨s0,a1,a2,a3,a4,a5⟩:=hax.rd;obtain⟨hlo,v,hrow,htok⟩:=hb;have hv1:v.oneCell'=true:=by obtain⟨a,c,rfl,-⟩:=htok;rfl
 have hle:=Xb.U4 (s:=(⟨0,0,0,0,v,noF⟩:V9)) hp
 have R1:=hr.take (o:=.abs (8*j)) (s:=⟨0,0,0,0,v,noF⟩) hp (fun k hk=>absurd rfl hk) (fun _ k hk=>absurd rfl hk) (fun k hk=>absurd rfl hk) (fun k o hk=>by cases hk) (fun m hm=>by
  cases hm;rw[C.mean];unfold Jj;rw[show (8*j) % 8=0 by omega,show 8*j / 8=j by omega]
  exact⟨Qhu.frame (fun k hk=>(hlo k hk).symm) htok,rfl⟩)
 refine⟨_,Rel.put R1 (s:=s0) (hle _ _ a1) ?_ ?_ ?_ ?_ ?_ (fun m e=>by cases e),hle⟩
 ·rw[Tree.Qu,if_neg (Ne.symm hc)];exact h64
 ·intro k hk x o s hx hs;have hk:k=s0.blk:=hk;subst hk;rw[a2];rw[Tree.Qu] at hx;unfold Xb.add at hs;by_cases e:x=c
  ·rw[if_pos e] at hx hs;cases hx;cases hs;exact fun hh=>hh rfl
  ·rw[if_neg e] at hx hs;exact hfree x o s hx hs
 ·intro _ k hk;have hk:k=s0.blk:=hk;rw[hk,a2];exact .inl C.ob
 ·intro k hk;have hk:k=s0.blk:=hk;rw[hk,a2];exact hlt
 ·refine⟨a5,#[v,.int .i64 (E.len:Int),.bool q],(0,0),by rw[a2];exact hrow,by rw[a4];rfl,by rw[a3];exact Nat.le_refl 3,?_,fun j _=>by simp,fun _=>rfl⟩;rw[a3];refine .cons (VR.tok (s:=⟨0,0,0,0,v,noF⟩) (Xb.Vy _ _ _) hv1) (.cons ?_ (.cons (hv.mono hle) .nil));exact(hax.vr (show Xi N 320=some (.int .i64 (E.len:Int)) by rw[←C.x0];rfl)).mono hle
theorem Ctx.out (C:Ctx b E N K O w0 cs)(hr:Rel K O w0 p h w){cs3:List Value}{t:TypeId}{sz:Nat}(h64:h.get 64=some (.row cs3 t sz)){w':World}(hk:Qo b w w'):Rel K O w0 p (h.set 64 none) w'∧(∀ x o s,(h.set 64 none).get x=some o→p x=some s→∀ k,Occ o s k→k<w.heap.size∧k≠b):=by
 obtain⟨s0,a1,a2,a3,a4,a5⟩:=(C.axp hr).rd;have key:∀ x o s,(h.set 64 none).get x=some o→p x=some s→∀ k,Occ o s k→k<w.heap.size∧k≠b:=fun x o s hx hs k hO=>by
  rw[Tree.Qu] at hx;by_cases e:x=64
  ·rw[if_pos e] at hx;cases hx
  ·rw[if_neg e] at hx;obtain⟨s',k1,-,k3,-⟩:=hr.at_ x o hx;obtain rfl:s'=s:=Option.some.inj (k1.symm.trans hs);refine⟨k3 k hO,fun hkb=>e (hr.one _ _ _ _ _ _ k hx h64 hs a1 hO ?_)⟩;show k=s0.blk
   rw[a2,hkb]
 refine⟨(hr.del 64).elsewhere hk.os hk.tape hk.output hk.size fun k h1 h2=>hk.block k h1 fun hkb=>?_,key⟩;rcases h2 with h2|⟨x,o,s,e1,e2,e3⟩
 ·exact h2 (.inl (hkb ▸ C.ob))
 ·exact(key x o s e1 e2 k e3).2 hkb
def Yb (w w':World):Nat→Option Obj:=fun k=>if w.heap.size≤k then w'.heap[k]? else none
theorem Qee {w w':World}{k:Nat}{o:Obj}(h:Yb w w' k=some o):w.heap.size≤k∧w'.heap[k]? = some o:=by
 unfold Yb at h;split at h
 ·rename_i hk;exact⟨hk,h⟩
 ·cases h
theorem Rf {w w':World}{k:Nat}(h:Yb w w' k≠none):w.heap.size≤k∧k<w'.heap.size:=by
 cases hf:Yb w w' k with
 |none=>exact absurd hf h
 |some o=>
  obtain⟨h1,h2⟩:=Qee hf;exact⟨h1,(Array.getElem?_eq_some_iff.1 h2).1⟩
theorem Qef {w w':World}{k:Nat}(h1:w.heap.size≤k)(h2:k<w'.heap.size):Yb w w' k≠none:=by
 unfold Yb;rw[if_pos h1,Array.getElem?_eq_getElem h2];simp
theorem Xp.Qgv {S S':Nat→Prop}{w w':World}{g g':Nat}(hlo:∀ k,S k→k<w.heap.size→S' k)(h:∀ k,S k→k<w.heap.size→w'.heap[k]? = w.heap[k]?):∀ {l:List Tr} {o o':Nat},(∀ i,i<5*l.length→w'.cell? ⟨g',o'+i,none⟩=w.cell? ⟨g,o+i,none⟩)→Xp S w g l o→Xp S' w' g' l o'
 | [],_,_,_,_=>by unfold Xp;trivial
 |t::l,o,o',hc,hr=>by
  unfold Xp at hr ⊢;obtain⟨⟨v0,v1,v2,v3,v4,h0,h1,h2,h3,h4,h5⟩,h6⟩:=hr;have hl:5*(t::l).length=5*l.length+5:=by simp;omega
  rw[hl] at hc;refine⟨⟨v0,v1,v2,v3,v4,(hc 0 Dw).trans h0,(hc 1 Dw).trans h1,(hc 2 Dw).trans h2,(hc 3 Dw).trans h3,(hc 4 Dw).trans h4,X3.frame hlo h h5⟩,Xp.Qgv hlo h (fun i hi=>?_) h6⟩
  have:=hc (5+i) Dw;rw[←Nat.add_assoc,←Nat.add_assoc] at this;exact this
theorem Xp.snoc {S:Nat→Prop}{w:World}{g:Nat}{t:Tr}{v0 v1 v2 v3 v4:Value}:∀ {l:List Tr} {o:Nat},Xp S w g l o→w.cell? ⟨g,o+5*l.length,none⟩=some v0→w.cell? ⟨g,o+5*l.length+1,none⟩=some v1→w.cell? ⟨g,o+5*l.length+2,none⟩=some v2→w.cell? ⟨g,o+5*l.length+3,none⟩=some v3→w.cell? ⟨g,o+5*l.length+4,none⟩=some v4→X3 S w t [v0,v1,v2,v3,v4]→Xp S w g (l++[t]) o
 | [],o,_,h0,h1,h2,h3,h4,hc=>by
  show Xp S w g [t] o
  unfold Xp;exact⟨⟨v0,v1,v2,v3,v4,h0,h1,h2,h3,h4,hc⟩,by unfold Xp;trivial⟩
 |u::l,o,hr,h0,h1,h2,h3,h4,hc=>by
  show Xp S w g (u::(l++[t])) o
  unfold Xp at hr ⊢;have e:o+5*(u::l).length=o+5+5*l.length:=by simp;omega
  rw[e] at h0 h1 h2 h3 h4;exact⟨hr.1,Xp.snoc hr.2 h0 h1 h2 h3 h4 hc⟩
theorem Qsm {w w':World}{g o:Nat}{ts:List Tr}(h2:w.heap.size≤g)(h3:Xp (w.heap.size ≤ ·) w' g ts o):∀ W:World,(∀ k x,Yb w w' k=some x→W.heap[k]? = some x)→Xp (fun k=>Yb w w' k≠none) W g ts o:=fun W hW=>by
 by_cases hlt:g<w'.heap.size
 ·refine Xp.frame (fun k hk1 hk2=>Qef hk1 hk2) (fun k hk1 hk2=>?_) h2 h3;have hk3:w'.heap[k]? = some (w'.heap[k]'hk2):=Array.getElem?_eq_getElem hk2;rw[hk3];refine hW k _ ?_;unfold Yb;rw[if_pos hk1,hk3]
 ·cases ts with
  |nil=>unfold Xp;trivial
  |cons t l=>
   unfold Xp at h3;obtain⟨⟨v0,v1,v2,v3,v4,k0,-⟩,-⟩:=h3;exact absurd (cell_lt' k0) hlt
theorem Qpa {w w':World}{g o:Nat}{ts:List Tr}(h2:w.heap.size≤g)(hlt:g<w'.heap.size)(h3:Xp (fun k=>w.heap.size≤k∧k≠g) w' g ts o):∀ W:World,(∀ k x,Yb w w' k=some x→W.heap[k]? = some x)→Xp (fun k=>Yb w w' k≠none∧k≠g) W g ts o:=fun W hW=>by
 have key:∀ k,w.heap.size≤k→k<w'.heap.size→W.heap[k]? = w'.heap[k]? := fun k hk1 hk2=>by
  have hk3:w'.heap[k]? = some (w'.heap[k]'hk2):=Array.getElem?_eq_getElem hk2;rw[hk3];refine hW k _ ?_;unfold Yb;rw[if_pos hk1,hk3]
 refine Xp.Qgv (fun k hk1 hk2=>⟨Qef hk1.1 hk2,hk1.2⟩) (fun k hk1 hk2=>key k hk1.1 hk2) (fun i _=>?_) h3;unfold World.cell?
 dsimp only;rw[key g h2 hlt]
theorem Ctx.list (C:Ctx b E N K O w0 cs){w':World}(hr:Rel K O w0 p h w')(hsz:w0.heap.size≤w.heap.size)(hold:∀ x o s,h.get x=some o→p x=some s→∀ k,Occ o s k→k<w.heap.size){d m:Nat}(hp:p d=none){v:Value}
  (hm:Jj b E N (p.add d ⟨0,0,0,0,v,Yb w w'⟩) m ⟨0,0,0,0,v,Yb w w'⟩):Rel K O w0 (p.add d ⟨0,0,0,0,v,Yb w w'⟩) (h.set d (some (.abs m))) w':=by
 refine hr.take (o:=.abs m) hp (fun k hk x o s hx hs hO=>?_) (fun _ k hk => .inr ?_) (fun k hk=>?_) (fun k o hk=>(Qee hk).2) (fun m' e=>?_)
 ·have:=(Rf hk).1
  have:=hold x o s hx hs k hO;omega
 ·exact Nat.le_trans hsz (Rf hk).1
 ·exact(Rf hk).2
 ·cases e;rw[C.mean];exact hm
theorem Ctx.kids (C:Ctx b E N K O w0 cs){w':World}(hsz:w0.heap.size≤w.heap.size){a:Option Addr}{c:Nat}{ts:List Tr}(hl:ts=[]∨∃ g o,a=some ⟨g,o,none⟩∧w.heap.size≤g∧Xp (w.heap.size ≤ ·) w' g ts o):Qps N.S ⟨0,0,0,0,.slice a ts.length c,Yb w w'⟩ ts:=by
 refine⟨a,c,rfl,fun k hk=>C.s k (Nat.le_trans hsz (Rf hk).1),?_⟩;rcases hl with hl|⟨g,o,h1,h2,h3⟩
 ·exact .inl hl
 ·by_cases ht:ts=[]
  ·exact .inl ht
  ·have hlt:g<w'.heap.size:=by
    obtain⟨t,l,rfl⟩:=List.exists_cons_of_ne_nil ht;unfold Xp at h3;obtain⟨⟨v0,v1,v2,v3,v4,k0,-⟩,-⟩:=h3;exact cell_lt' k0
   exact .inr ⟨g,o,h1,Qef h2 hlt,Qsm h2 h3⟩
theorem Ctx.grow (C:Ctx b E N K O w0 cs){w':World}(hsz:w0.heap.size≤w.heap.size){a:Option Addr}{c:Nat}{ts:List Tr}(hc:ts.length≤c)(hm:c≤maxLen)
  (hl:(a=none∧ts=[]∧c=0)∨∃ g o bs,a=some ⟨g,o,none⟩∧w.heap.size≤g∧w'.heap[g]? = some (.cells bs 26 (0,0))∧o+c*5≤bs.size∧Xp (fun k=>w.heap.size≤k∧k≠g) w' g ts o):Rt N.S ⟨0,0,0,0,.slice a ts.length c,Yb w w'⟩ ts:=by
 refine⟨a,c,rfl,hc,hm,fun k hk=>C.s k (Nat.le_trans hsz (Rf hk).1),?_⟩;rcases hl with hl|⟨g,o,bs,h1,h2,h3,h4,h5⟩
 ·exact .inl hl
 ·refine .inr ⟨g,o,bs,h1,?_,h4,Qpa h2 (Array.getElem?_eq_some_iff.1 h3).1 h5⟩;show Yb w w' g=_
  unfold Yb;rw[if_pos h2,h3]
end
end Prs
end
section
open Go.RowKit
namespace Prs
open Ev
section
variable {b:Nat} {E:Env} {N:Va} {K:Cfg} {O:Nat→Prop} {w0 w:World} {cs:List Xt} {p:Xb} {h:Tree Q4}
theorem Qh6 (C:Ctx b E N K O w0 cs)(hr:Rel K O w0 p h w){d0 d1:Int}{c:Nat}{u:Unit}{h':Tree Q4}{c':Nat}{l:Log}(e:Qh7 d0 d1 h c=.ok u h' c' l):h'=h.set 80 (some (.row [.int .i64 d1] 3 1))∧c'=c∧h.get 80≠none∧(∀ wm,SetAt N.D d1 w wm→Rel K O w0 p h' wm)∧∃ fr:Nat×Nat,w.heap[N.D]? = some (.cells #[.int .i64 d0] 3 fr)∧(decide (fr.1≤0)&&decide (0<fr.2))=false:=by
 unfold Qh7 at e;obtain⟨rr,h2,c2,l3,l4,e3,e4⟩:=Qr e;obtain⟨hn,rfl,rfl⟩:=Tq e3;obtain⟨row,t,sz⟩:=rr;dsimp only at e4 hn;split at e4
 ·rename_i d;split at e4
  ·rename_i hc;obtain⟨rfl,rfl,rfl⟩:=hc;unfold M.write at e4;rw[hn] at e4;cases e4;obtain⟨s,k1,k2,k3,k5,-⟩:=(C.axp hr).cell;obtain⟨s',k1',-,-,k4⟩:=hr.at_ _ _ hn;obtain rfl:s=s':=Option.some.inj (k1.symm.trans k1');obtain⟨bs,fr,ra,rb,rc,rd,re,-⟩:=Nh.at_ k4;rw[k2] at ra;rw[k5] at rb;refine⟨rfl,rfl,by rw[hn];simp,fun wm hS=>?_,?_⟩
   ·refine hr.turn hn k1 (by rw[C.n];decide) (fun _ h=>h) (fun _ e=>by cases e) hS.os hS.tape hS.output (Nat.le_of_eq hS.size.symm) (fun k _ hk=>hS.block k fun e=>hk (e.trans k2.symm)) ?_;obtain⟨fr2,f1,f2⟩:=hS.cell;have hes:=Nh.esz k4;refine⟨hes,#[.int .i64 d1],fr2,by rw[k2];exact f1,by rw[k5];rfl,by rw[k3];exact Nat.le_refl 1,?_,fun j hj=>?_,fun hh=>absurd rfl hh⟩
    ·rw[k3];exact .cons (.int _ _) .nil
    ·have:j=0:=by have:j<1:=hj;omega
     rw[this];exact f2
   ·have hl1:bs.toList.length≤[Value.int .i64 d].length:=by rw[Array.length_toList,rb];exact Nat.le_refl 1
    rw[k3,List.drop_zero,List.take_of_length_le hl1] at rd;refine⟨fr,?_,re 0 (by rw[rb];decide)⟩;rw[ra];generalize hbl:bs.toList=bl at rd;cases rd with
    |cons q1 rd=>
    cases rd;cases q1;rw[show bs = #[.int .i64 d] by rw[←Array.toList_inj,hbl]]
  ·cases e4
 ·cases e4
theorem res_ok (C:Ctx b E N K O w0 cs)(hr:Rel K O w0 p h w){ci:Nat}{hd:Value}{q:Bool}(h64:h.get 64=some (.row [tk ci,tk 320,hd] 61 3))(hv:VR p hd (.bool q)){res:CRes}{c:Nat}{r:CR}{h':Tree Q4}{c':Nat}{l:Log}(e:E5 64 61 hd res h c=.ok r h' c' l)
  (hrng:M.Rng h c c') (hf:Free p c c') (hsz:w0.heap.size≤w.heap.size) {en:Ending} {w':World} (hp:CPost b E N q p res w en w'):∃ p',p.le p'∧Ev.Out p p' c c'∧Rel K O w0 p' h' w'∧CRR p' r en:=by
 induction res generalizing h w c l with
 |intl d0 d1 r0 ih=>
  unfold E5 at e;obtain⟨_,h1,c1,l1,l2,e1,e2⟩:=Qr e;obtain⟨rfl,rfl,hn,R1,-⟩:=Qh6 C hr e1;obtain⟨wm,hS,hp⟩:=hp;refine ih (R1 wm hS) (by rw[Tree.Qu,if_neg Dd];exact h64) e2 (fun x h1 h2=>?_) hf (by rw[hS.size];exact hsz) hp;rw[Tree.Qu];by_cases ex:x=80
  ·subst ex;exact absurd (hrng 80 h1 h2) hn
  ·rw[if_neg ex];exact hrng x h1 h2
 |cons=>cases e
 |more=>cases e
 |kid=>cases e
 |pure v=>cases e
 |look v=>
  have hb64:64<c∨c'≤64:=by
   rcases Nat.lt_or_ge 64 c with h1|h1
   ·exact .inl h1
   ·rcases Nat.lt_or_ge 64 c' with h2|h2
    ·rw[hrng 64 h1 h2] at h64;cases h64
    ·exact .inr h2
  unfold E5 at e;obtain⟨rfl,rfl,rfl⟩:=Qn e;obtain⟨hb,v',rfl,hvv⟩:=hp;exact⟨p,Xb.le_refl _,Ev.Out.rfl,hr.quiet hb,hvv⟩
 |pan v=>
  have hb64:64<c∨c'≤64:=by
   rcases Nat.lt_or_ge 64 c with h1|h1
   ·exact .inl h1
   ·rcases Nat.lt_or_ge 64 c' with h2|h2
    ·rw[hrng 64 h1 h2] at h64;cases h64
    ·exact .inr h2
  unfold E5 at e;obtain⟨_,h1,c1,l1,l2,e1,e2⟩:=Qr e;obtain⟨rfl,rfl⟩:=Yr e1;obtain⟨rfl,rfl,rfl⟩:=Qn e2;obtain⟨hk,v',rfl,hvv⟩:=hp;exact⟨p,Xb.le_refl _,Ev.Out.rfl,(C.out hr h64 hk).1,⟨v',rfl,hvv⟩⟩
 |step j v=>
  have hb64:64<c∨c'≤64:=by
   rcases Nat.lt_or_ge 64 c with h1|h1
   ·exact .inl h1
   ·rcases Nat.lt_or_ge 64 c' with h2|h2
    ·rw[hrng 64 h1 h2] at h64;cases h64
    ·exact .inr h2
  unfold E5 at e;obtain⟨cl,h1,c1,l1,l2,e1,e2⟩:=Qr e;obtain⟨rfl,rfl,rfl⟩:=Uo e1;obtain⟨_,h2,c2,l3,l4,e3,e4⟩:=Qr e2;obtain⟨rfl,rfl⟩:=Yr e3;obtain⟨rfl,rfl,rfl⟩:=Qn e4;obtain⟨hk,hrd,v',rfl,hvv⟩:=hp;obtain⟨R1,hold⟩:=C.out hr h64 hk;have hne:cl≠64:=by omega
  obtain⟨s,R2,hle⟩:=Qmj C R1 (by rw[Tree.Qu,if_pos rfl]) (fun x o s hx hs hO=>(hold x o s hx hs b hO).2 rfl) hrd hv (hf cl (Nat.le_refl _) Dw) hne;refine⟨_,hle,Yj,R2.congr fun x=>?_,hvv.mono hle⟩;rw[Tree.Qu,Tree.Qu,Tree.Qu,Tree.Qu,Tree.Qu];split
  ·rfl
  ·split
   ·rfl
   ·rfl
 |tree j k i=>
  have hb64:64<c∨c'≤64:=by
   rcases Nat.lt_or_ge 64 c with h1|h1
   ·exact .inl h1
   ·rcases Nat.lt_or_ge 64 c' with h2|h2
    ·rw[hrng 64 h1 h2] at h64;cases h64
    ·exact .inr h2
  unfold E5 at e;obtain⟨cl,h1,c1,l1,l2,e1,e2⟩:=Qr e;obtain⟨rfl,rfl,rfl⟩:=Uo e1;obtain⟨d,h3,c3,l5,l6,e5,e6⟩:=Qr e2;obtain⟨rfl,rfl,rfl⟩:=Uo e5;obtain⟨_,h2,c2,l3,l4,e3,e4⟩:=Qr e6;obtain⟨rfl,rfl⟩:=Yr e3;obtain⟨rfl,rfl,rfl⟩:=Qn e4;obtain⟨hk,hrd,hkk,hi,v',rfl,vs,rfl,hnode⟩:=hp;obtain⟨R1,hold⟩:=C.out hr h64 hk;have hne:cl≠64:=by omega
  have hne2:cl+1≠64:=by omega
  cases ht:N.T i with
  |mk kd x n pl kids=>
  rw[ht] at hnode;unfold X3 at hnode;obtain⟨a,cp,rfl,hl⟩:=hnode
  have R2:=C.list (w:=w) (v:=.slice a kids.length cp) (d:=cl+1) (m:=8*i+1) R1 hsz (fun x o s hx hs k hO=>(hold x o s hx hs k hO).1) (hf (cl+1) Dw Dw) (by
   unfold Jj;rw[show (8*i+1) % 8=1 by omega,show (8*i+1) / 8=i by omega,ht]
   exact C.kids hsz hl)
  have hle1:=Xb.U4 (s:=(⟨0,0,0,0,.slice a kids.length cp,Yb w w'⟩:V9)) (hf (cl+1) Dw Dw);have hpcl:(p.add (cl+1) ⟨0,0,0,0,.slice a kids.length cp,Yb w w'⟩) cl=none:=by
   unfold Xb.add;rw[if_neg Dw];exact hf cl (Nat.le_refl _) Dw
  obtain⟨s,R3,hle2⟩:=Qmj C R2 (by rw[Tree.Qu,if_neg (Ne.symm hne2),Tree.Qu,if_pos rfl]) (fun x o s hx hs hO=>by
   rw[Tree.Qu] at hx;unfold Xb.add at hs;by_cases ex:x=cl+1
   ·rw[if_pos ex] at hx hs;cases hx;cases hs
    have:=(Rf hO).1
    have:=C.bw;omega
   ·rw[if_neg ex] at hx hs
    exact(hold x o s hx hs b hO).2 rfl) hrd (hv.mono hle1) hpcl hne
  have hle:=Xb.le_trans hle1 hle2;refine⟨_,hle,fun y hy=>?_,R3.congr fun x=>?_,?_⟩
  ·unfold Xb.add;rw[if_neg Dw,if_neg Dw]
  ·rw[Tree.Qu,Tree.Qu,Tree.Qu,Tree.Qu,Tree.Qu,Tree.Qu,Tree.Qu];by_cases x1:x=64
   ·rw[if_pos x1,if_pos x1]
   ·rw[if_neg x1,if_neg x1];by_cases x2:x=cl
    ·rw[if_pos x2,if_pos x2,if_neg Dw]
    ·rw[if_neg x2,if_neg x2,if_neg x1]
  ·have hax:=C.axp R3
   have hv1:∀ f v,J6 N i f=some v→f<4→VR _ (tk (256+4*i+f)) v:=fun f v hfv hf4=>hax.vr (k:=256+4*i+f) (by
    unfold Xi;rw[if_neg Dw,if_neg Dw,if_pos Dw,show (256+4*i+f-256) / 4=i by omega,show (256+4*i+f-256) % 4=f by omega]
    exact hfv)
   have f0:J6 N i 0=some (.int .i64 (kd:Int)):=by unfold J6;rw[ht];rfl
   have f1:J6 N i 1=some (.string ⟨x.toArray⟩):=by unfold J6;rw[ht];rfl
   have f2:J6 N i 2=some (.int .u64 (n:Int)):=by unfold J6;rw[ht];rfl
   have f3:J6 N i 3=some (.int .i64 (pl:Int)):=by unfold J6;rw[ht];rfl
   refine VR.agg (.cons ?_ (.cons (hv1 1 _ f1 Dw) (.cons (hv1 2 _ f2 Dw) (.cons (hv1 3 _ f3 Dw) (.cons (VR.tok (s:=⟨0,0,0,0,.slice a kids.length cp,Yb w w'⟩) (hle2 _ _ (Xb.Vy _ _ _)) rfl) .nil)))));rcases hkk with rfl|rfl
   ·exact hv1 0 _ f0 Dw
   ·rw[ht];exact .int _ _
 |trees j m=>
  have hb64:64<c∨c'≤64:=by
   rcases Nat.lt_or_ge 64 c with h1|h1
   ·exact .inl h1
   ·rcases Nat.lt_or_ge 64 c' with h2|h2
    ·rw[hrng 64 h1 h2] at h64;cases h64
    ·exact .inr h2
  unfold E5 at e;obtain⟨cl,h1,c1,l1,l2,e1,e2⟩:=Qr e;obtain⟨rfl,rfl,rfl⟩:=Uo e1;obtain⟨d,h3,c3,l5,l6,e5,e6⟩:=Qr e2;obtain⟨rfl,rfl,rfl⟩:=Uo e5;obtain⟨_,h2,c2,l3,l4,e3,e4⟩:=Qr e6;obtain⟨rfl,rfl⟩:=Yr e3;obtain⟨rfl,rfl,rfl⟩:=Qn e4;obtain⟨hk,hrd,v',rfl,a,cp,rfl,hlc,hlm,hl⟩:=hp;obtain⟨R1,hold⟩:=C.out hr h64 hk;have hne:cl≠64:=by omega
  have hne2:cl+1≠64:=by omega
  have R2:=C.list (w:=w) (v:=.slice a (N.TS m).length cp) (d:=cl+1) (m:=8*m+2) R1 hsz (fun x o s hx hs k hO=>(hold x o s hx hs k hO).1) (hf (cl+1) Dw Dw) (by
   unfold Jj;rw[show (8*m+2) % 8=2 by omega,show (8*m+2) / 8=m by omega]
   exact C.grow hsz hlc hlm hl)
  have hle1:=Xb.U4 (s:=(⟨0,0,0,0,.slice a (N.TS m).length cp,Yb w w'⟩:V9)) (hf (cl+1) Dw Dw);have hpcl:(p.add (cl+1) ⟨0,0,0,0,.slice a (N.TS m).length cp,Yb w w'⟩) cl=none:=by
   unfold Xb.add;rw[if_neg Dw];exact hf cl (Nat.le_refl _) Dw
  obtain⟨s,R3,hle2⟩:=Qmj C R2 (by rw[Tree.Qu,if_neg (Ne.symm hne2),Tree.Qu,if_pos rfl]) (fun x o s hx hs hO=>by
   rw[Tree.Qu] at hx;unfold Xb.add at hs;by_cases ex:x=cl+1
   ·rw[if_pos ex] at hx hs;cases hx;cases hs
    have:=(Rf hO).1
    have:=C.bw;omega
   ·rw[if_neg ex] at hx hs
    exact(hold x o s hx hs b hO).2 rfl) hrd (hv.mono hle1) hpcl hne
  refine⟨_,Xb.le_trans hle1 hle2,fun y hy=>?_,R3.congr fun x=>?_,VR.tok (s:=⟨0,0,0,0,.slice a (N.TS m).length cp,Yb w w'⟩) (hle2 _ _ (Xb.Vy _ _ _)) rfl⟩
  ·unfold Xb.add;rw[if_neg Dw,if_neg Dw]
  ·rw[Tree.Qu,Tree.Qu,Tree.Qu,Tree.Qu,Tree.Qu,Tree.Qu,Tree.Qu];by_cases x1:x=64
   ·rw[if_pos x1,if_pos x1]
   ·rw[if_neg x1,if_neg x1];by_cases x2:x=cl
    ·rw[if_pos x2,if_pos x2,if_neg Dw]
    ·rw[if_neg x2,if_neg x2,if_neg x1]
theorem Qcr (C:Ctx b E N K O w0 cs):∀ (g:FuncId) (args:List Value) (m:M Q4 CR),K.orc g args=some m→∀ (h:Tree Q4) (c:Nat) (r:CR) (h':Tree Q4) (c':Nat) (l:Log),M.Rng h c c'→m h c=.ok r h' c' l→
  ∀ (p:Xb) (w:World) (args':Array Value),Rel K O w0 p h w→VRs p args args'.toList→Free p c c'→Calls Tryz.prog g args' w fun e w'=>∃ p',p.le p'∧Ev.Out p p' c c'∧Rel K O w0 p' h' w'∧CRR p' r e:=by
 intro g args m hm h c r h' c' l hrng e p w args' hr hv hf;rw[C.orc] at hm;rcases Qil hm with ⟨ys,rfl,rfl⟩|⟨v,hfind,rfl⟩;case inr=>
  obtain⟨cc,h1,h2,h3,h4⟩:=Qei hfind;have hc:=C.calls cc h1;unfold Uc at hc;rw[h4] at hc;obtain⟨rfl,rfl,rfl⟩:=Qn e;rw[←h2];refine(hc p (C.axp hr) args'.toList w (by rw[h3];exact hv) (C.lows hr)).mono ?_;rintro e w' ⟨rfl,v',rfl,hvv⟩;exact⟨p,Xb.le_refl _,Ev.Out.rfl,hr,hvv⟩
 generalize ha:args'.toList=al at hv;cases hv with
 |@cons _ v0 _ vs hp0 hvs=>
 obtain⟨s0,a1,a2,a3,a4,a5⟩:=(C.axp hr).rd;have hv0:v0=rp b:=by
  cases hp0 with
  |ptr hs=>
   rw[a1] at hs;cases hs;rw[a2,a3]
 subst hv0;have hargs:args'=(rp b::vs).toArray:=by rw[←Array.toList_inj,ha]
 rw[hargs];unfold Qqv at e;obtain⟨rr,h1,c1,l1,l2,e1,e2⟩:=Qr e;obtain⟨h64,rfl,rfl⟩:=Tq e1;obtain⟨row,t,sz⟩:=rr;dsimp only at e2 h64;split at e2
 ·rename_i ci hd;split at e2
  ·rename_i hc;obtain⟨rfl,rfl,ho⟩:=hc;obtain⟨o,h2,c2,l3,l4,e3,e4⟩:=Qr e2;obtain⟨hci,rfl,rfl⟩:=U9 e3;split at e4
   ·rename_i m;split at e4
    ·rename_i hm4;obtain⟨i,rfl⟩:∃ i,m=8*i:=⟨m / 8,by omega⟩;rw[show 8*i / 8=i by omega] at e4;cases hfind:Qsn cs g ys i hd with
     |some res=>
      rw[hfind] at e4;obtain⟨q,hq,hrd⟩:=Qgw C hr h64 ho hci;have hc:=C.calls _ (Qi9 hfind);unfold Uc at hc;cases res with
      |pure v=>unfold E5 at e4;cases e4
      |cons=>unfold E5 at e4;cases e4
      |more=>unfold E5 at e4;cases e4
      |kid=>unfold E5 at e4;cases e4
      |intl d0 d1 r0=>
       have e5:=e4;unfold E5 at e5;obtain⟨_,h1,c1,l1,l2,e6,-⟩:=Qr e5;obtain⟨-,-,-,-,fr,hf1,hf2⟩:=Qh6 C hr e6;refine(hc p (C.axp hr) q vs w fr hq hvs hf1 hf2 hrd hr.below.size).mono ?_;intro en w' hpost;exact res_ok C hr h64 hq e4 hrng hf hr.below.size hpost
      |_=>
       refine(hc p (C.axp hr) q vs w hq hvs hrd hr.below.size).mono ?_;intro en w' hpost;exact res_ok C hr h64 hq e4 hrng hf hr.below.size hpost
     |none=>rw[hfind] at e4;cases e4
    ·cases e4
   ·cases e4
  ·cases e2
 ·cases e2
end
end Prs
end
section
open Go.RowKit
namespace Prs
open Ev
theorem run_tail (g o n c:Nat)(hc:n+1≤c)(W:World):(Instr.sliceAt 37 (.slice (some ⟨g,o,none⟩) (n+1) c) (some (.int .i64 1)) none none).run Tryz.prog W=.ok (.slice (some (if c=1 then ⟨g,o,none⟩ else ⟨g,o+4,none⟩)) n (c-1)) W:=by
 have hu:(Tryz.prog).underlying 37=some (.slice 46):=by kernel_rfl
 have hs:(sizeOf 46).run Tryz.prog W=.ok 4 W:=by kernel_rfl
 have hb:Qbm (n+1) c (some (.int .i64 1)) none none=some (1,n+1,c):=by
  have e1:Qdt (some (.int .i64 1))=some (some 1):=rfl;have e2:Qdt none=some none:=rfl;unfold Qbm;rw[e1,e2];dsimp only [Option.getD_none,Option.getD_some];rw[if_pos ⟨by decide,by decide,by decide,by simp,by simp;omega,by simp,by simp⟩];simp
 unfold Instr.sliceAt;rw[Sem.run_bind,run_underlying hu W,Result.andThen_ok];dsimp only;unfold Instr.slice;simp only[Sem.run_bind,run_underlying hu W,Result.andThen_ok,(Qfm (P:=Tryz.prog) (isS:=true) hb W).1,hs];split <;> simp[Addr.add_mid]
def Qis:List (Nat×Nat)→Nat→Option Nat
 | [],_=>none
 |x::l,i=>match Nat.beq x.1 i with
  |true=>some x.2
  |false=>Qis l i
theorem Qfr:∀ {l:List (Nat×Nat)} {i j:Nat},Qis l i=some j→(i,j)∈l
 | [],_,_,h=>by cases h
 |x::l,i,j,h=>by
  unfold Qis at h;split at h
  ·rename_i hb;obtain⟨a,b⟩:=x;cases h;rw[←Nat.eq_of_beq_eq_true hb];exact List.mem_cons_self ..
  ·exact List.mem_cons_of_mem _ (Qfr h)
noncomputable def Qq4 (nxt:List (Nat×Nat))(c:Nat):M Q4 Value:=M.bind (M.read c) fun o=>match o with
 | .abs m=>if m % 8=0 then (match Qis nxt (m / 8) with
  |some j=>M.bind (M.new (.abs (8*j))) fun d=>M.pure (tk d)
  |none=>M.fail) else M.fail
 |_=>M.fail
theorem Qop (nxt:List (Nat×Nat))(c:Nat):M.Local (Qq4 nxt c):=by
 unfold Qq4;refine M.Qh (M.Vd _) fun o=>?_
 split
 ·split
  ·split
   ·exact M.Qh (M.Vj _) fun _=>M.Qi _
   ·exact M.Qe
  ·exact M.Qe
 ·exact M.Qe
noncomputable def opxS (nxt:List (Nat×Nat))(o:Oper)(ρ:Operand→Option Value):Option (M Q4 Value):=match o.op with
 | .slice t x (some lo) none none=>match ρ x with
  |some (.chan (some c))=>(match ρ lo with
   |some (.int .i64 1)=>if t=37 then some (Qq4 nxt c) else none
   |_=>none)
  |_=>none
 |_=>none
theorem Qim {nxt:List (Nat×Nat)}{o:Oper}{ρ:Operand→Option Value}{m:M Q4 Value}(h:opxS nxt o ρ=some m):∃ x lo c,o.op=.slice 37 x (some lo) none none∧ρ x=some (tk c)∧ρ lo=some (.int .i64 1)∧m=Qq4 nxt c:=by
 unfold opxS at h;split at h
 ·rename_i t x lo hop;split at h
  ·rename_i c hx;split at h
   ·rename_i hlo;split at h
    ·rename_i ht;cases h;exact⟨x,lo,c,by rw[hop,ht],hx,hlo,rfl⟩
    ·cases h
   ·cases h
  ·cases h
 ·cases h
theorem Qoc (nxt:List (Nat×Nat))(o:Oper)(ρ σ:Operand→Option Value)(h:∀ x∈o.op.operands.toList,ρ x=σ x):opxS nxt o ρ=opxS nxt o σ:=by
 unfold opxS;split
 ·rename_i t x lo hop;rw[hop] at h;rw[h x (by simp[Op.operands]),h lo (by simp[Op.operands])]
 ·rfl
section
variable {b:Nat} {E:Env} {N:Va} {K:Cfg} {O:Nat→Prop} {w0 w:World} {cs:List Xt} {p:Xb} {h:Tree Q4}
theorem orc_op (C:Ctx b E N K O w0 cs){nxt:List (Nat×Nat)}(hn:∀ x∈nxt,∃ t,N.L x.1=t::N.L x.2):∀ (o:Oper) (ρ:Ev.Env) (m:M Q4 Value),opxS nxt o ρ=some m→∀ (h:Tree Q4) (c:Nat) (v:Value) (h':Tree Q4) (c':Nat) (l:Log),M.Rng h c c'→m h c=.ok v h' c' l→
  ∀ (p:Xb) (w:World) (ρ':Operand→Value),Rel K O w0 p h w→EnvR p ρ ρ'→Free p c c'→U7 Tryz.prog K O w0 p w c c' h' (execOp ρ' o) (.val v)∨(v=undef∧U7 Tryz.prog K O w0 p w c c' h' (execOp ρ' o) .skip):=by
 intro o ρ m hm h c v h' c' l _ e p w ρ' hr hρ hf;obtain⟨x,lo,ci,hop,hx,hlo,rfl⟩:=Qim hm;have hvx:=hρ x _ hx;have hvl:=hρ lo _ hlo;unfold Qq4 at e;obtain⟨ob,h1,c1,l1,l2,e1,e2⟩:=Qr e;obtain⟨hci,rfl,rfl⟩:=U9 e1;split at e2
 ·rename_i m;split at e2
  ·rename_i hm4;obtain⟨i,rfl⟩:∃ i,m=8*i:=⟨m / 8,by omega⟩;rw[show 8*i / 8=i by omega] at e2;cases hj:Qis nxt i with
   |none=>rw[hj] at e2;cases e2
   |some j=>
    rw[hj] at e2;obtain⟨d,h2,c2,l3,l4,e3,e4⟩:=Qr e2;obtain⟨rfl,rfl,rfl⟩:=Uo e3;obtain⟨rfl,rfl,rfl⟩:=Qn e4;obtain⟨t,ht⟩:=hn _ (Qfr hj);dsimp only at ht;have htok:=C.tok hr hci hvx;rw[ht] at htok;obtain⟨a,cp,he,hl1,hl2,hl3⟩:=htok;obtain⟨g,og,rfl,hg,-,hrest⟩:=hl3.resolve_left Ds;rw[List.length_cons] at he hl1;have hp:=hf d (Nat.le_refl _) Dw;have hlo':ρ' lo=.int .i64 1:=by
     generalize ρ' lo=u at hvl;cases hvl;rfl
    have hnew:Qhu b E.w0 (.slice (some (if cp=1 then ⟨g,og,none⟩ else ⟨g,og+4,none⟩)) (N.L j).length (cp-1)) (N.L j):=by
     refine⟨_,_,rfl,by omega,by omega,?_⟩;cases hL:N.L j with
     |nil=>exact .inl rfl
     |cons u l=>
      rw[hL] at hl1;rw[List.length_cons] at hl1;rw[if_neg Dw];exact .inr ⟨g,og+4,rfl,hg,hL ▸ hrest⟩
    have R:=hr.take (o:=.abs (8*j)) (c:=d) (s:=⟨0,0,0,0,.slice (some (if cp=1 then ⟨g,og,none⟩ else ⟨g,og+4,none⟩)) (N.L j).length (cp-1),noF⟩) hp (fun k hk=>absurd rfl hk) (fun _ k hk=>absurd rfl hk) (fun k hk=>absurd rfl hk) (fun k o hk=>by cases hk) (fun m hm=>by
     cases hm;rw[C.mean];unfold Jj;rw[show (8*j) % 8=0 by omega,show 8*j / 8=j by omega]
     exact⟨hnew,rfl⟩)
    refine .inl ⟨_,w,.value (.slice (some (if cp=1 then ⟨g,og,none⟩ else ⟨g,og+4,none⟩)) (N.L j).length (cp-1)),?_,⟨_,rfl,VR.tok (s:=⟨0,0,0,0,.slice (some (if cp=1 then ⟨g,og,none⟩ else ⟨g,og+4,none⟩)) (N.L j).length (cp-1),noF⟩) (Xb.Vy _ _ _) rfl⟩,R,Xb.U4 hp,Yj⟩;unfold execOp;rw[hop];dsimp only;simp only[Option.map_some,Option.map_none];rw[hlo',he,Sem.run_bind,run_tail g og _ cp hl1];rfl
  ·cases e2
 ·cases e2
end
def isNat (pos:List Nat)(u:Bool):Value→Bool
 | .int .i64 i => !u&&decide (0≤i)
 | .int .u64 i=>u&&decide (0≤i)
 | .chan (some b)=>(if b<128 then false else if b<256 then (!u&&(Nat.beq ((b-128) % 8) 0||Nat.beq ((b-128) % 8) 4))||(u&&(pos.any (Nat.beq b)&&Nat.beq ((b-128) % 8) 3)) else if b<320 then (if u then Nat.beq ((b-256) % 4) 2 else Nat.beq ((b-256) % 4) 0||Nat.beq ((b-256) % 4) 3) else (if b<384 then !u&&pos.any (Nat.beq b) else false))
 |_=>false
def Qn1:Value→Bool
 | .string _=>true
 | .chan (some b)=>if b<128 then false else if b<256 then Nat.beq ((b-128) % 8) 2 else if b<320 then Nat.beq ((b-256) % 4) 1 else false
 |_=>false
mutual
noncomputable def Qp1 (pos:List Nat):Nat→Tree Q4→List Value→Sp→Bool
 |0,_,_,_=>false
 |f+1,h,cells,sp=>match cells with
  | [k',x',n',a',lv]=>match sp with
   | .nd k x n a kids=>(eqV 9 k k'&&(eqV 9 x x'&&(eqV 9 n n'&&eqV 9 a a')))&&((isNat pos false k&&(Qn1 x&&(isNat pos true n&&isNat pos false a)))&&(match kids with
    | []=>(match lv with
     | .slice none 0 0=>true
     |_=>false)
    |s::ks=>(match lv with
     | .slice (some ⟨b,0,none⟩) len _=>Nat.beq len (s::ks).length&&(match h.get b with
      |some (.row cs _ _)=>Nat.ble 70 b&&chkL pos f h cs (s::ks)
      |_=>false)
     |_=>false)))
   | .ab k x n a m=>(eqV 9 k k'&&(eqV 9 x x'&&(eqV 9 n n'&&eqV 9 a a')))&&((isNat pos false k&&(Qn1 x&&(isNat pos true n&&isNat pos false a)))&&(match lv with
     | .chan (some c)=>(match h.get c with
      |some (.abs m')=>Nat.beq m m'&&(Nat.beq (m % 8) 1||Nat.beq (m % 8) 2)
      |_=>false)
     |_=>false))
  |_=>false
noncomputable def chkL (pos:List Nat):Nat→Tree Q4→List Value→List Sp→Bool
 |0,_,_,_=>false
 |f+1,h,cs,kids=>match kids with
  | []=>true
  |s::ks=>Qp1 pos f h (cs.take 5) s&&chkL pos f h (cs.drop 5) ks
end
end Prs
end
end Go.Proofs.YtcbkeecabcbogaaGreatDoor
