/- Scripts: their tokens out of lists; functions that read a li -/
import Derived.Test.YtcbkeecabcbogaaGreatDoorSao
set_option linter.unusedSimpArgs false
set_option linter.unusedVariables false
namespace Go.Proofs.YtcbkeecabcbogaaGreatDoor
section
open Go.RowKit
namespace Prs
open Ev
def mkX (len:Nat)(hd:Bool)(xs:List Int):Nat→Value
 |0 => .int .i64 (len:Int)
 |1 => .bool hd
 |k+2 => .int .i64 (xs.getD k 0)
theorem Qg2 (len:Nat)(hd:Bool)(xs:List Int):∀ i,(mkX len hd xs i).oneCell'=true
 |0=>rfl
 |1=>rfl
 |_+2=>rfl
abbrev tr0:Tr:=.mk 0 [] 0 0 []
def mkN (len:Nat)(hd:Bool)(B:Nat)(ls:List (List Tok))(ts:List Tr)(tss:List (List Tr))(xs:List Int):Va where
 len:=len
 L:=fun i=>ls.getD i []
 T:=fun i=>ts.getD i tr0
 TS:=fun i=>tss.getD i []
 X:=mkX len hd xs
 one:=Qg2 len hd xs
 S:=(B ≤ ·)
def OutL (b:Nat)(E:Env)(hd:Bool)(x:Except Nat (List Tr×List Tok))(w:World)(e:Ending)(w':World):Prop:=Qo b w w'∧match x with
 | .ok (ts,l')=>∃ v,e=.returned v∧ListW w.heap.size w' v ts∧RdB b E w' l' hd
 | .error p=>e=failed p
def Du (b:Nat)(E:Env)(hd:Bool)(g:FuncId)(args:Array Value)(x:List Tok→R (List Tr)):Prop:=∀ (l:List Tok) (w:World) (r:Except Nat (List Tr×List Tok)),RdB b E w l hd→x l=some r→Calls Tryz.prog g args w (OutL b E hd r w)
def Yv (g:FuncId)(ys:List Value)(i j m:Nat)(hd:Value):Xt:=⟨g,ys,i,hd,.trees j m⟩
section
variable {b:Nat} {E:Env} {N:Va} {w0:World}
theorem Jn {g:FuncId}{ys ys':List Value}{i j m:Nat}{hd:Value}{q0:Bool}{x:List Tok→R (List Tr)}(hx:Du b E q0 g (rp b::ys').toArray x)(hh:hd=.bool q0∨hd=tk 321)(hq:N.X 1=.bool q0)(hys:∀ p vs,AxN b N p→VRs p ys vs→vs=ys')
  (h:x (N.L i)=some (.ok (N.TS m,N.L j))):Uc b E N w0 (Yv g ys i j m hd):=by
 intro p hax q args' w hhd hargs hrd _;obtain rfl:=Qo5 hax hhd hh hq;rw[hys p args' hax hargs];refine(hx _ w _ hrd h).mono ?_;rintro e w' ⟨hkeep,v,rfl,hv,hr⟩;exact⟨hkeep,hr,v,rfl,hv⟩
theorem Qb8 {g:FuncId}{ys ys':List Value}{i xx pl:Nat}{hd:Value}{q0:Bool}{x:List Tok→R (List Tr)}(hx:Du b E q0 g (rp b::ys').toArray x)(hh:hd=.bool q0∨hd=tk 321)(hq:N.X 1=.bool q0)(hys:∀ p vs,AxN b N p→VRs p ys vs→vs=ys')
  (h:x (N.L i)=some (.error pl)) (hxx:xx<64) (hX:N.X xx=.int .i64 (pl:Int)):Uc b E N w0 (Xq g ys i xx hd):=by
 intro p hax q args' w hhd hargs hrd _;obtain rfl:=Qo5 hax hhd hh hq;rw[hys p args' hax hargs];refine(hx _ w _ hrd h).mono ?_;rintro e w' ⟨hkeep,rfl⟩;exact⟨hkeep,_,rfl,.iface _ (.agg (.cons (hax.vr (by rw[Bl N hxx,hX])) .nil))⟩
theorem Q7:∀ c∈([]:List Xt),Uc b E N w0 c:=fun _ h=>by cases h
theorem Qa {c:Xt}{cs:List Xt}(h:Uc b E N w0 c)(hs:∀ c∈cs,Uc b E N w0 c):∀ c'∈c::cs,Uc b E N w0 c':=fun c' hc=>by
 rcases List.mem_cons.1 hc with rfl|hc
 ·exact h
 ·exact hs c' hc
theorem Qj:L8 N []:=fun _ h=>by cases h
theorem Ql:Qcj N []:=fun _ h=>by cases h
theorem Qk:Qht N []:=fun _ h=>by cases h
end
theorem Qv {b:Nat}{N:Va}:∀ p vs,AxN b N p→VRs p [] vs→vs=[]:=fun _ _ _ h=>Eh h
end Prs
end
section
open Go.RowKit
namespace Prs
open Ev
noncomputable def hOf:List (Nat×Q4×V9)→Tree Q4
 | [] => .leaf
 |x::l=>(hOf l).set x.1 (some x.2.1)
theorem Qec:∀ {l:List (Nat×Q4×V9)} {k:Nat} {o:Q4},(hOf l).get k=some o→∃ s,(k,o,s)∈l
 | [],_,_,h=>by cases h
 |x::l,k,o,h=>by
  unfold hOf at h;rw[Tree.Qu] at h;split at h
  ·rename_i e;cases h;obtain⟨a,b,c⟩:=x;cases e;exact⟨c,List.mem_cons_self ..⟩
  ·obtain⟨s,hs⟩:=Qec h;exact⟨s,List.mem_cons_of_mem _ hs⟩
theorem Qhc:∀ {l:List (Nat×Q4×V9)} {k:Nat},(∀ x∈l,x.1≠k)→(hOf l).get k=none
 | [],_,_=>rfl
 |x::l,k,h=>by
  unfold hOf;rw[Tree.Qu,if_neg (Ne.symm (h x (List.mem_cons_self ..)))];exact Qhc fun y hy=>h y (List.mem_cons_of_mem _ hy)
def Apart:List (Nat×Q4×V9)→Prop
 | []=>True
 |x::l=>(∀ y∈l,x.1≠y.1∧∀ k,Occ x.2.1 x.2.2 k→¬ Occ y.2.1 y.2.2 k)∧Apart l
theorem Apart.eq:∀ {l:List (Nat×Q4×V9)},Apart l→∀ x∈l,∀ y∈l,∀ k,Occ x.2.1 x.2.2 k→Occ y.2.1 y.2.2 k→x.1=y.1
 | [],_,x,hx=>by cases hx
 |z::l,h,x,hx=>fun y hy k h1 h2=>by
  rcases List.mem_cons.1 hx with e1|hx2
  ·rcases List.mem_cons.1 hy with e2|hy2
   ·rw[e1,e2]
   ·rw[e1] at h1;exact absurd h2 ((h.1 y hy2).2 k h1)
  ·rcases List.mem_cons.1 hy with e2|hy2
   ·rw[e2] at h2;exact absurd h1 ((h.1 x hx2).2 k h2)
   ·exact Apart.eq h.2 x hx2 y hy2 k h1 h2
theorem rel_of {K:Cfg}{O:Nat→Prop}{w:World}{p:Xb}{l:List (Nat×Q4×V9)}(hg:K.g=0)(hd:Dis K p)(hp:∀ x∈l,p x.1=some x.2.2)(ha:Apart l)(hO:∀ x∈l,K.n≤x.1→∀ k,Occ x.2.1 x.2.2 k→O k)(hlt:∀ x∈l,∀ k,Occ x.2.1 x.2.2 k→k<w.heap.size)
  (ho:∀ x∈l,Qbo p w x.2.2 x.2.1) (hm:∀ x∈l,∀ m,x.2.1=.abs m→K.mean p m x.2.2):Rel K O w p (hOf l) w where
 below:=Keep.refl _ _
 glob:=fun b hb=>by rw[hg] at hb;exact absurd hb (Nat.not_lt_zero _)
 dis:=hd
 at_:=fun b o hb=>by
  obtain⟨s,hs⟩:=Qec hb;exact⟨s,hp _ hs,fun hn k hk => .inl (hO _ hs hn k hk),hlt _ hs,ho _ hs⟩
 one:=fun b b' o o' s s' k h1 h2 e1 e2 k1 k2=>by
  obtain⟨s1,hs1⟩:=Qec h1;obtain⟨s2,hs2⟩:=Qec h2
  have:=hp _ hs1;rw[e1] at this;cases this
  have:=hp _ hs2;rw[e2] at this;cases this;exact ha.eq _ hs1 _ hs2 k k1 k2
 mean:=fun b m s h1 h2=>by
  obtain⟨s1,hs1⟩:=Qec h1
  have:=hp _ hs1;rw[h2] at this;cases this;exact hm _ hs1 m rfl
def D5 (N:Va):List (Nat×Q4×V9)→Xb
 | []=>fun k=>if k=80 then some ⟨N.D,0,1,1,undef,noF⟩ else (Xi N k).map fun v=>⟨0,0,0,0,v,noF⟩
 |x::l=>fun k=>if k=x.1 then some x.2.2 else D5 N l k
theorem Wj {N:Va}:∀ {l:List (Nat×Q4×V9)},Apart l→∀ x∈l,D5 N l x.1=some x.2.2
 | [],_,x,hx=>by cases hx
 |z::l,h,x,hx=>by
  unfold D5;rcases List.mem_cons.1 hx with rfl|hx
  ·rw[if_pos rfl]
  ·rw[if_neg (Ne.symm (h.1 x hx).1)];exact Wj h.2 x hx
theorem Qdq {N:Va}:∀ {l:List (Nat×Q4×V9)} {k:Nat},(∀ x∈l,x.1<128)→128≤k→D5 N l k=(Xi N k).map fun v=>⟨0,0,0,0,v,noF⟩
 | [],_,_,hk=>by unfold D5;rw[if_neg Dw]
 |x::l,k,h,hk=>by
  unfold D5
  have:=h x (List.mem_cons_self ..);rw[if_neg Dw];exact Qdq (fun y hy=>h y (List.mem_cons_of_mem _ hy)) hk
theorem Qmm {N:Va}:∀ {l:List (Nat×Q4×V9)},(∀ x∈l,x.1=80→x.2.2.blk=N.D∧x.2.2.off=0∧x.2.2.size=1∧x.2.2.esz=1)→∃ s,D5 N l 80=some s∧s.blk=N.D∧s.off=0∧s.size=1∧s.esz=1
 | [],_=>⟨_,by unfold D5;rw[if_pos rfl],rfl,rfl,rfl,rfl⟩
 |x::l,h=>by
  unfold D5;by_cases e:80=x.1
  ·exact⟨x.2.2,if_pos e,h x (List.mem_cons_self ..) e.symm⟩
  ·rw[if_neg e];exact Qmm fun y hy=>h y (List.mem_cons_of_mem _ hy)
theorem Qml {b:Nat}{N:Va}{l:List (Nat×Q4×V9)}(hD:∀ x∈l,x.1=80→x.2.2.blk=N.D∧x.2.2.off=0∧x.2.2.size=1∧x.2.2.esz=1)(ha:Apart l)(hl:∀ x∈l,x.1<128){o:Q4}{s:V9}(hr:(64,o,s)∈l)(h1:s.blk=b)(h2:s.off=0)(h3:s.size=3)(h4:s.esz=3):AxN b N (D5 N l):=by
 refine⟨fun k v hk=>?_,⟨s,Wj ha _ hr,h1,h2,h3,h4⟩,Qmm hD⟩;have h128:128≤k:=by
  rcases Nat.lt_or_ge k 128 with h|h
  ·unfold Xi at hk;rw[if_pos h] at hk;cases hk
  ·exact h
 rw[Qdq hl h128,hk];exact⟨_,rfl,rfl⟩
theorem Qfp {N:Va}{l:List (Nat×Q4×V9)}(hl:∀ x∈l,x.1<128){k:Nat}(hk:384≤k):D5 N l k=none:=by
 rw[Qdq hl Dw];unfold Xi;rw[if_neg Dw,if_neg Dw,if_neg Dw,if_neg Dw];rfl
noncomputable def tmL:Nat→Tree Value
 |0 => .leaf
 |n+1=>(tmL n).set n (some (.chan none))
theorem Qq1 (n k:Nat):(tmL n).get k=if k<n then some (.chan none) else none:=by
 induction n with
 |zero=>rfl
 |succ n ih=>
  unfold tmL;rw[Tree.Qu,ih];by_cases h:k=n
  ·rw[if_pos h,if_pos Dw]
  ·rw[if_neg h];by_cases h2:k<n
   ·rw[if_pos h2,if_pos Dw]
   ·rw[if_neg h2,if_neg Dw]
noncomputable def tmS:List (Nat×Value)→Tree Value→Tree Value
 | [],t=>t
 |x::l,t=>(tmS l t).set x.1 (some x.2)
theorem Qq0:∀ {l:List (Nat×Value)} {t:Tree Value} {k:Nat} {v:Value},(tmS l t).get k=some v→(k,v)∈l∨t.get k=some v
 | [],_,_,_,h => .inr h
 |x::l,t,k,v,h=>by
  unfold tmS at h;rw[Tree.Qu] at h;split at h
  ·rename_i e;cases h;obtain⟨a,b⟩:=x;cases e;exact .inl (List.mem_cons_self ..)
  ·exact(Qq0 h).imp (List.mem_cons_of_mem _) id
theorem Ql9:∀ {l:List (Nat×Value)} {t:Tree Value} {k:Nat},(tmS l t).get k=none→t.get k=none
 | [],_,_,h=>h
 |x::l,t,k,h=>by
  unfold tmS at h;rw[Tree.Qu] at h;split at h
  ·cases h
  ·exact Ql9 h
noncomputable def locL (n:Nat)(known:List (Nat×Value)):Ev.Loc:=⟨tmS known (tmL n),n,[]⟩
theorem Qsc {p:Xb}{n:Nat}{known:List (Nat×Value)}{a:Act}(hn:a.tmps.size=n)(hd:a.defers=[])(hk:∀ x∈known,VR p x.2 (a.tmps.getD x.1 undef)):Ac p (locL n known) a:=by
 refine⟨fun t=>?_,hn,by rw[hd];exact .nil⟩;show SR p (((tmS known (tmL n)).get t).getD undef) _
 cases hg:(tmS known (tmL n)).get t with
 |some v=>
  rcases Qq0 hg with h|h
  ·exact .inr (hk _ h)
  ·rw[Qq1] at h;split at h
   ·cases h;exact .inl rfl
   ·cases h
 |none=>
  have h:=Ql9 hg;rw[Qq1] at h;split at h
  ·cases h
  ·rename_i hlt;rw[getD_some,Array.getElem?_eq_none Dw];exact .inr Fg
theorem Qdj {K:Cfg}{O:Nat→Prop}{w0 w:World}{p:Xb}{h:Tree Q4}(hr:Rel K O w0 p h w){n:Nat}{cs:List Value}{t:TypeId}{sz:Nat}(hn:h.get n=some (.row cs t sz)){s:V9}(hs:p n=some s)(h0:s.off=0)(h1:s.size=cs.length):
  ∃ (bs:Array Value) (fr:Nat×Nat),w.heap[s.blk]? = some (.cells bs t fr)∧VRs p cs bs.toList∧(∀ j,j<bs.size+ext sz→(decide (fr.1≤j)&&decide (j<fr.2))=false)∧(sz≠1→fr=(0,0)):=by
 obtain⟨s',k1,-,-,k4⟩:=hr.at_ _ _ hn;obtain rfl:s'=s:=Option.some.inj (k1.symm.trans hs);obtain⟨bs,fr,r1,r2,r3,r4,r5,r6⟩:=Nh.at_ k4;refine⟨bs,fr,r1,?_,r5,r6⟩;rw[h0,List.drop_zero,List.take_of_length_le (by simp;omega)] at r4;exact r4
structure Box where
 slot:Nat
 cell:Value
 real:Value
 blk:Nat
 ty:TypeId
structure Ue where
 n:Nat
 rowSlot:Nat
 rowTy:TypeId
 cells:Nat
 ix:Nat
 q:Nat
 vs:Nat→Value
 boxes:List Box
 direct:List (Nat×Value×Value)
 mbox:Option Box:=none
abbrev Em:List Value:=[tk 65,tk 320,tk 321]
def Ja (L:Ue)(d:Nat):List Value:=(List.range L.cells).map fun i=>if i=L.ix then tk d else tk (68+i)
def J9 (L:Ue)(v:Value):List Value:=(List.range L.cells).map fun i=>if i=L.ix then v else L.vs i
def unfr (fr:Nat×Nat)(n:Nat):Prop:=∀ j,j<n→(decide (fr.1≤j)&&decide (j<fr.2))=false
def allB (L:Ue):List Box:=L.boxes++L.mbox.toList
structure Qch (L:Ue)(b:Nat)(E:Env)(hd:Bool)(w1:World)(acc:List Tr)(l:List Tok)(w:World)(a:Act):Prop where
 rd:RdB b E w l hd
 row:∃ v F fr,w.heap[L.q]? = some (.cells (J9 L v).toArray L.rowTy fr)∧unfr fr (L.cells+ext L.cells)∧(L.cells≠1→fr=(0,0))∧Rt (w1.heap.size ≤ ·) ⟨0,0,0,0,v,F⟩ acc∧(∀ k o,F k=some o→w.heap[k]? = some o)∧F b=none∧F L.q=none∧∀ x∈allB L,F x.blk=none
 box:∀ x∈L.boxes,∃ fr,w.heap[x.blk]? = some (.cells #[x.real] x.ty fr)∧unfr fr 1
 rowS:a.tmps.getD L.rowSlot undef=.pointer (some ⟨L.q,0,none⟩)
 boxS:∀ x∈L.boxes,a.tmps.getD x.slot undef=.pointer (some ⟨x.blk,0,none⟩)
 dirS:∀ x∈L.direct,a.tmps.getD x.1 undef=x.2.2
 n:a.tmps.size=L.n
 ds:a.defers=[]
 mb:∀ x,L.mbox=some x→(∃ fr,w.heap[x.blk]? = some (.cells #[x.real] x.ty fr)∧unfr fr 1)∧a.tmps.getD x.slot undef=.pointer (some ⟨x.blk,0,none⟩):=by intro x hx;cases hx
structure Nl (L:Ue)(b:Nat)(E:Env)(hd:Bool)(w1:World)(acc:List Tr)(l:List Tok)(w:World)(a:Act):Prop extends Qch L b E hd w1 acc l w a where
 keep:Zx b L.q w1 w
def Qpp (i:Nat)(x:Box):Nat×Q4×V9:=(16+i,.row [x.cell] x.ty 1,⟨x.blk,0,1,1,undef,noF⟩)
def Yd:Nat→List Box→List (Nat×Q4×V9)
 |_,[]=>[]
 |i,x::l=>Qpp i x::Yd (i+1) l
def others (L:Ue):List (Nat×Q4×V9):=((List.range L.cells).filter fun i => !(i==L.ix)).map fun i=>(68+i,.abs 7,⟨0,0,0,0,L.vs i,noF⟩)
def mtOf (L:Ue):List (Nat×Q4×V9):=match L.mbox with
 |none=>[]
 |some x=>[(80,.row [x.cell] x.ty 1,⟨x.blk,0,1,1,undef,noF⟩)]
theorem Qcu {L:Ue}{e:Nat×Q4×V9}(h:e∈mtOf L):∃ x,L.mbox=some x∧e=(80,.row [x.cell] x.ty 1,⟨x.blk,0,1,1,undef,noF⟩):=by
 unfold mtOf at h;split at h
 ·cases h
 ·rename_i x hx;exact⟨x,hx,List.mem_singleton.1 h⟩
theorem Qr8 {L:Ue}{x:Box}(h:L.mbox=some x):(80,.row [x.cell] x.ty 1,(⟨x.blk,0,1,1,undef,noF⟩:V9))∈mtOf L:=by
 unfold mtOf;rw[h];exact List.mem_singleton.2 rfl
def entries (L:Ue)(b:Nat)(vt v:Value)(F:Nat→Option Obj):List (Nat×Q4×V9):=
 (64,.row Em 61 3,⟨b,0,3,3,undef,noF⟩)::(65,.abs 0,⟨0,0,0,0,vt,noF⟩)::(66,.row (Ja L 67) L.rowTy L.cells,⟨L.q,0,L.cells,L.cells,undef,noF⟩)::(67,.abs 2,⟨0,0,0,0,v,F⟩)::(others L++(Yd 0 L.boxes++mtOf L))
def Pz:Nat→List Box→List (Nat×Value)
 |_,[]=>[]
 |i,x::l=>(x.slot,.pointer (some ⟨16+i,0,none⟩))::Pz (i+1) l
def Qdw (L:Ue):List (Nat×Value):=match L.mbox with
 |none=>[]
 |some x=>[(x.slot,.pointer (some ⟨80,0,none⟩))]
def known (L:Ue):List (Nat×Value):=(L.rowSlot,.pointer (some ⟨66,0,none⟩))::(Pz 0 L.boxes++(L.direct.map (fun x=>(x.1,x.2.1))++Qdw L))
theorem Qkx {L:Ue}{e:Nat×Value}(h:e∈Qdw L):∃ x,L.mbox=some x∧e=(x.slot,.pointer (some ⟨80,0,none⟩)):=by
 unfold Qdw at h;split at h
 ·cases h
 ·rename_i x hx;exact⟨x,hx,List.mem_singleton.1 h⟩
theorem Qok {L:Ue}{x:Box}(h:L.mbox=some x):(x.slot,.pointer (some ⟨80,0,none⟩))∈Qdw L:=by
 unfold Qdw;rw[h];exact List.mem_singleton.2 rfl
structure LFix (L:Ue)(b:Nat)(N:Va)(w1:World):Prop where
 bq:b<L.q
 bw:b<w1.heap.size
 cells:L.cells≤5
 ixl:L.ix<L.cells
 nb:L.boxes.length≤8
 boxb:∀ x∈L.boxes,x.blk≠b∧x.blk≠L.q
 inj:L.boxes.Pairwise fun x y=>x.blk≠y.blk
 one:∀ i,i<L.cells→(L.vs i).oneCell'=true
 cell:∀ x∈L.boxes,∀ p,AxN b N p→VR p x.cell x.real
 dir:∀ x∈L.direct,∀ p,AxN b N p→VR p x.2.1 x.2.2
 mbb:∀ x,L.mbox=some x→b<x.blk∧x.blk≠L.q∧(∀ y∈L.boxes,y.blk≠x.blk)∧x.blk=N.D∧x.blk<w1.heap.size:=by intro x hx;cases hx
 mcell:∀ x,L.mbox=some x→∀ p,AxN b N p→VR p x.cell x.real:=by intro x hx;cases hx
theorem Y5:∀ {l:List Box} {i:Nat} {e:Nat×Q4×V9},e∈Yd i l→∃ j x,l[j]? = some x∧e=Qpp (i+j) x
 | [],_,_,h=>by cases h
 |x::l,i,e,h=>by
  unfold Yd at h;rcases List.mem_cons.1 h with rfl|h
  ·exact⟨0,x,rfl,rfl⟩
  ·obtain⟨j,y,h1,h2⟩:=Y5 h;exact⟨j+1,y,by simpa using h1,by rw[h2];congr 1;omega⟩
theorem Ls:∀ {l:List Box} {i j:Nat} {x:Box},l[j]? = some x→Qpp (i+j) x∈Yd i l
 | [],_,_,_,h=>by simp at h
 |y::l,i,0,x,h=>by
  simp at h;subst h;unfold Yd;exact List.mem_cons_self ..
 |y::l,i,j+1,x,h=>by
  unfold Yd;refine List.mem_cons_of_mem _ ?_
  have:=Ls (i:=i+1) (j:=j) (x:=x) (by simpa using h);rwa [show i+1+j=i+(j+1) by omega] at this
theorem Qb6:∀ {l:List Box} {i:Nat} {e:Nat×Value},e∈Pz i l→∃ j x,l[j]? = some x∧e=(x.slot,.pointer (some ⟨16+(i+j),0,none⟩))
 | [],_,_,h=>by cases h
 |x::l,i,e,h=>by
  unfold Pz at h;rcases List.mem_cons.1 h with rfl|h
  ·exact⟨0,x,rfl,rfl⟩
  ·obtain⟨j,y,h1,h2⟩:=Qb6 h;exact⟨j+1,y,by simpa using h1,by rw[h2,show i+1+j=i+(j+1) by omega]⟩
theorem Qew:∀ {l:List Box} {i j:Nat} {x:Box},l[j]? = some x→(x.slot,.pointer (some ⟨16+(i+j),0,none⟩))∈Pz i l
 | [],_,_,_,h=>by simp at h
 |y::l,i,0,x,h=>by
  simp at h;subst h;unfold Pz;exact List.mem_cons_self ..
 |y::l,i,j+1,x,h=>by
  unfold Pz;refine List.mem_cons_of_mem _ ?_
  have:=Qew (i:=i+1) (j:=j) (x:=x) (by simpa using h);rwa [show i+1+j=i+(j+1) by omega] at this
theorem Qe0:∀ {l:List Box} {i:Nat},l.Pairwise (fun x y=>x.blk≠y.blk)→Apart (Yd i l)
 | [],_,_=>trivial
 |x::l,i,h=>by
  unfold Yd;rw[List.pairwise_cons] at h;refine⟨fun e he=>?_,Qe0 h.2⟩;obtain⟨j,y,h1,rfl⟩:=Y5 he;refine⟨by show 16+i≠16+(i+1+j);omega,fun k k1 k2=>?_⟩;have k1:k=x.blk:=k1;have k2:k=y.blk:=k2;exact h.1 y (List.mem_of_getElem? h1) (k1.symm.trans k2)
theorem L6:∀ {l m:List (Nat×Q4×V9)},Apart l→Apart m→(∀ x∈l,∀ y∈m,x.1≠y.1∧∀ k,Occ x.2.1 x.2.2 k→¬ Occ y.2.1 y.2.2 k)→Apart (l++m)
 | [],_,_,h,_=>h
 |x::l,m,h,hm,hx=>⟨fun y hy=>by
   rcases List.mem_append.1 hy with hy|hy
   ·exact h.1 y hy
   ·exact hx x (List.mem_cons_self ..) y hy,L6 h.2 hm fun z hz y hy=>hx z (List.mem_cons_of_mem _ hz) y hy⟩
theorem Qca {vs:Nat→Value}:∀ {l:List Nat},l.Nodup→Apart (l.map fun i=>(68+i,.abs 7,⟨0,0,0,0,vs i,noF⟩))
 | [],_=>trivial
 |x::l,h=>by
  rw[List.nodup_cons] at h;refine⟨fun y hy=>?_,Qca h.2⟩;obtain⟨i,hi,rfl⟩:=List.mem_map.1 hy;refine⟨fun e=>h.1 ?_,fun k k1=>absurd rfl k1⟩;have:x=i:=by
   have:68+x=68+i:=e;omega
  rw[this];exact hi
theorem Qa8 {L:Ue}{e:Nat×Q4×V9}(h:e∈others L):∃ i,i<L.cells∧i≠L.ix∧e=(68+i,.abs 7,⟨0,0,0,0,L.vs i,noF⟩):=by
 obtain⟨i,hi,rfl⟩:=List.mem_map.1 h;rw[List.mem_filter,List.mem_range] at hi;exact⟨i,hi.1,by simpa using hi.2,rfl⟩
theorem Qik {L:Ue}{i:Nat}(h1:i<L.cells)(h2:i≠L.ix):(68+i,.abs 7,(⟨0,0,0,0,L.vs i,noF⟩:V9))∈others L:=by
 refine List.mem_map.2 ⟨i,?_,rfl⟩;rw[List.mem_filter,List.mem_range];exact⟨h1,by simpa using h2⟩
theorem Y3 {L:Ue}{b:Nat}{vt v:Value}{F:Nat→Option Obj}{P:Nat×Q4×V9→Prop}(h1:P (64,.row Em 61 3,⟨b,0,3,3,undef,noF⟩))(h2:P (65,.abs 0,⟨0,0,0,0,vt,noF⟩))(h3:P (66,.row (Ja L 67) L.rowTy L.cells,⟨L.q,0,L.cells,L.cells,undef,noF⟩))(h4:P (67,.abs 2,⟨0,0,0,0,v,F⟩))
  (h5:∀ i,i<L.cells→i≠L.ix→P (68+i,.abs 7,⟨0,0,0,0,L.vs i,noF⟩)) (h6:∀ j x,L.boxes[j]? = some x→P (Qpp (0+j) x)) (h7:∀ x,L.mbox=some x→P (80,.row [x.cell] x.ty 1,⟨x.blk,0,1,1,undef,noF⟩)):∀ e∈entries L b vt v F,P e:=by
 intro e he;unfold entries at he;simp only[List.mem_cons,List.mem_append] at he;rcases he with rfl|rfl|rfl|rfl|he|he|he
 ·exact h1
 ·exact h2
 ·exact h3
 ·exact h4
 ·obtain⟨i,a1,a2,rfl⟩:=Qa8 he;exact h5 i a1 a2
 ·obtain⟨j,x,a1,rfl⟩:=Y5 he;exact h6 j x a1
 ·obtain⟨x,a1,rfl⟩:=Qcu he;exact h7 x a1
theorem Qhj {L:Ue}{b:Nat}{N:Va}{w1:World}(X:LFix L b N w1){vt v:Value}{F:Nat→Option Obj}(f1:F b=none)(f2:F L.q=none)(f3:∀ x∈allB L,F x.blk=none):Apart (entries L b vt v F):=by
 have hmt:Apart (mtOf L):=by
  unfold mtOf;split
  ·exact trivial
  ·exact⟨fun y hy=>(by cases hy),trivial⟩
 have hbm:Apart (Yd 0 L.boxes++mtOf L):=by
  refine L6 (Qe0 X.inj) hmt fun x hx y hy=>?_
  obtain⟨j,z,a3,rfl⟩:=Y5 hx;obtain⟨u,a1,rfl⟩:=Qcu hy
  have:=X.nb
  have:=(List.getElem?_eq_some_iff.1 a3).1;refine⟨by show 16+(0+j)≠80;omega,fun k k1 k2=>?_⟩;have k1:k=z.blk:=k1;have k2:k=u.blk:=k2;exact(X.mbb u a1).2.2.1 z (List.mem_of_getElem? a3) (k1.symm.trans k2)
 have hob:Apart (others L++(Yd 0 L.boxes++mtOf L)):=by
  refine L6 (Qca ?_) hbm fun x hx y hy=>?_
  ·exact List.Pairwise.filter _ List.nodup_range
  ·obtain⟨i,a1,a2,rfl⟩:=Qa8 hx;refine⟨?_,fun k k1=>absurd rfl k1⟩;rcases List.mem_append.1 hy with hy|hy;case inr=>
    obtain⟨u,a3,rfl⟩:=Qcu hy
    have:=X.cells;show 68+i≠80
    omega
   obtain⟨j,z,a3,rfl⟩:=Y5 hy
   have:=X.nb
   have:=(List.getElem?_eq_some_iff.1 a3).1;show 68+i≠16+(0+j)
   omega
 have oth:∀ y∈others L++(Yd 0 L.boxes++mtOf L),(68≤y.1∨y.1<64)∧∀ k,Occ y.2.1 y.2.2 k→k≠b∧k≠L.q∧F k=none:=fun y hy=>by
  rcases List.mem_append.1 hy with hy|hy
  ·obtain⟨i,a1,a2,rfl⟩:=Qa8 hy;exact⟨.inl (Nat.le_add_right _ _),fun k k1=>absurd rfl k1⟩
  rcases List.mem_append.1 hy with hy|hy;case inr=>
   obtain⟨u,a3,rfl⟩:=Qcu hy;refine⟨.inl (show 68≤80 by decide),fun k k1=>?_⟩;have k1:k=u.blk:=k1;subst k1;exact⟨Nat.ne_of_gt (X.mbb u a3).1,(X.mbb u a3).2.1,f3 u (by unfold allB;rw[a3];simp)⟩
  case inl=>
   obtain⟨j,z,a3,rfl⟩:=Y5 hy;have hz:=List.mem_of_getElem? a3;have hnb:=X.nb;have hj:=(List.getElem?_eq_some_iff.1 a3).1;refine⟨.inr (show 16+(0+j)<64 by omega),fun k k1=>?_⟩;have k1:k=z.blk:=k1;subst k1;exact⟨(X.boxb z hz).1,(X.boxb z hz).2,f3 z (by unfold allB;exact List.mem_append_left _ hz)⟩
 have hbq:=X.bq;unfold entries;refine⟨fun y hy=>?_,fun y hy=>?_,fun y hy=>?_,fun y hy=>?_,hob⟩
 ·simp only[List.mem_cons] at hy;rcases hy with rfl|rfl|rfl|hy
  ·exact⟨(show (64:Nat)≠65 by decide),fun k _ k2=>absurd rfl k2⟩
  ·refine⟨(show (64:Nat)≠66 by decide),fun k k1 k2=>?_⟩;have k1:k=b:=k1;have k2:k=L.q:=k2;omega
  ·refine⟨(show (64:Nat)≠67 by decide),fun k k1 k2=>?_⟩;have k1:k=b:=k1;exact k2 (by rw[k1];exact f1)
  ·obtain⟨a1,a2⟩:=oth y hy;refine⟨by show 64≠y.1;omega,fun k k1 k2=>?_⟩;exact(a2 k k2).1 k1
 ·refine⟨?_,fun k k1=>absurd rfl k1⟩;simp only[List.mem_cons] at hy;rcases hy with rfl|rfl|hy
  ·exact(show (65:Nat)≠66 by decide)
  ·exact(show (65:Nat)≠67 by decide)
  ·have:=(oth y hy).1;show 65≠y.1;omega
 ·simp only[List.mem_cons] at hy;rcases hy with rfl|hy
  ·refine⟨(show (66:Nat)≠67 by decide),fun k k1 k2=>?_⟩;have k1:k=L.q:=k1;exact k2 (by rw[k1];exact f2)
  ·obtain⟨a1,a2⟩:=oth y hy;refine⟨by show 66≠y.1;omega,fun k k1 k2=>?_⟩;exact(a2 k k2).2.1 k1
 ·obtain⟨a1,a2⟩:=oth y hy;refine⟨by show 67≠y.1;omega,fun k k1 k2=>?_⟩;exact k1 (a2 k k2).2.2
end Prs
end
section
open Go.RowKit
namespace Prs
open Ev
structure X8 (L:Ue)(b:Nat)(E:Env)(N:Va)(hd:Bool)(w1 w:World)(cs:List Xt)(T:OpT)(eqc:List (Nat×Value×Bool)):Prop where
 len:N.len=E.len
 x0:N.X 0=.int .i64 (E.len:Int)
 x1:N.X 1=.bool hd
 s:N.S=(w1.heap.size ≤ ·)
 calls:∀ c∈cs,Uc b E N w c
 nxt:∀ x∈T.nxt,∃ t,N.L x.1=t::N.L x.2
 app:Qcj N T.app
 put:Qht N T.put
 eqc:∀ x∈eqc,∃ v,Xi N x.1=some v∧Nc v x.2.1 x.2.2
 pos:L8 N T.pos
 fix:LFix L b N w1
 cellU:∀ x∈L.boxes,∀ p u,AxN b N p→VR p x.cell u→u=x.real
 dirU:∀ x∈L.direct,∀ p u,AxN b N p→VR p x.2.1 u→u=x.2.2
 dirN:∀ x∈L.direct,x.2.1 ≠ .chan none
def ownO (b:Nat)(L:Ue)(F:Nat→Option Obj):Nat→Prop:=fun k=>k=b∨k=L.q∨F k≠none∨∃ x,L.mbox=some x∧k=x.blk
section
variable {L:Ue} {b:Nat} {E:Env} {N:Va} {hd:Bool} {w1 w:World} {cs:List Xt} {T:OpT} {eqc:List (Nat×Value×Bool)} {acc:List Tr} {l:List Tok} {a:Act}
theorem X8.dis (D:X8 L b E N hd w1 w cs T eqc){p:Xb}(h:AxN b N p):Dis (Ur b E N cs T eqc) p where
 eqs:=fun x hx=>by cases hx
 eqc:=fun x hx=>by
  obtain⟨v,h1,h2⟩:=D.eqc x hx;obtain⟨s,h3,h4⟩:=h.tok _ _ h1;exact⟨s,h3,by rw[h4];exact h2⟩
 ax:=h
theorem U3 (L:Ue)(d:Nat):(Ja L d).length=L.cells:=by simp[Ja]
theorem V4 (L:Ue)(v:Value):(J9 L v).length=L.cells:=by simp[J9]
theorem vrs_of:∀ {l m:List Value} {p:Xb},l.length=m.length→(∀ (i:Nat) (x y:Value),l[i]? = some x→m[i]? = some y→VR p x y)→VRs p l m
 | [],[],_,_,_ => .nil
 |x::l,y::m,p,h,hv => .cons (hv 0 x y rfl rfl) (vrs_of (by simpa using h) fun i u v h1 h2=>hv (i+1) u v (by simpa using h1) (by simpa using h2))
 | [],_::_,_,h,_=>by simp at h
 |_::_,[],_,h,_=>by simp at h
theorem Qkj {L:Ue}{d i:Nat}{x:Value}(h:(Ja L d)[i]? = some x):i<L.cells∧x=if i=L.ix then tk d else tk (68+i):=by
 have hi:=(List.getElem?_eq_some_iff.1 h).1;rw[U3] at hi;unfold Ja at h;rw[List.getElem?_map,List.getElem?_range hi] at h;exact⟨hi,by simpa using h.symm⟩
theorem Qn5 {L:Ue}{v:Value}{i:Nat}{x:Value}(h:(J9 L v)[i]? = some x):i<L.cells∧x=if i=L.ix then v else L.vs i:=by
 have hi:=(List.getElem?_eq_some_iff.1 h).1;rw[V4] at hi;unfold J9 at h;rw[List.getElem?_map,List.getElem?_range hi] at h;exact⟨hi,by simpa using h.symm⟩
theorem X8.start (D:X8 L b E N hd w1 w cs T eqc)(hL:N.L 0=l)(hT:N.TS 0=acc)(I:Qch L b E hd w1 acc l w a)(hsz:w1.heap.size≤w.heap.size):
  ∃ (vt v:Value) (F:Nat→Option Obj),(∀ k,F k≠none→w1.heap.size≤k)∧Rel (Ur b E N cs T eqc) (ownO b L F) w (D5 N (entries L b vt v F)) (hOf (entries L b vt v F)) w∧Ac (D5 N (entries L b vt v F)) (locL L.n (known L)) a∧Ctx b E N (Ur b E N cs T eqc) (ownO b L F) w cs∧Apart (entries L b vt v F)∧∀ x∈entries L b vt v F,x.1<128:=by
 have X:=D.fix;obtain⟨hlo,vt,hrdrow,htok⟩:=I.rd;obtain⟨v,F,fr,hrow,hfr,hfr0,hG,hF,f1,f2,f3⟩:=I.row;have hFs:∀ k,F k≠none→w1.heap.size≤k:=by
  obtain⟨_,_,-,-,-,h4,-⟩:=hG;exact h4
 have hap:=Qhj X (vt:=vt) (v:=v) f1 f2 f3
 have h128:∀ x∈entries L b vt v F,x.1<128:=Y3 (show (64:Nat)<128 by decide) (show (65:Nat)<128 by decide) (show (66:Nat)<128 by decide) (show (67:Nat)<128 by decide) (fun i h1 _=>by have:=X.cells;show 68+i<128;omega) (fun j x hx=>by
  have h1:=(List.getElem?_eq_some_iff.1 hx).1
  have:=X.nb
  show 16+(0+j)<128;omega) (fun _ _=>show 80<128 by decide)
 have hin64:(64,.row Em 61 3,(⟨b,0,3,3,undef,noF⟩:V9))∈entries L b vt v F:=by unfold entries;exact List.mem_cons_self ..
 have hD:∀ x∈entries L b vt v F,x.1=80→x.2.2.blk=N.D∧x.2.2.off=0∧x.2.2.size=1∧x.2.2.esz=1:=Y3 (fun e=>by cases e) (fun e=>by cases e) (fun e=>by cases e) (fun e=>by cases e) (fun i h1 _ e=>by have e:68+i=80:=e;have:=X.cells;omega) (fun j x hx e=>by
  have h1:=(List.getElem?_eq_some_iff.1 hx).1;have e:16+(0+j)=80:=e
  have:=X.nb
  omega) (fun x hx _=>⟨(X.mbb x hx).2.2.2.1,rfl,rfl,rfl⟩)
 have hax:=Qml (N:=N) hD hap h128 hin64 rfl rfl rfl rfl;have hat:=fun x hx=>Wj (N:=N) hap x hx
 have m65:(65,.abs 0,(⟨0,0,0,0,vt,noF⟩:V9))∈entries L b vt v F:=by unfold entries;simp
 have m66:(66,.row (Ja L 67) L.rowTy L.cells,(⟨L.q,0,L.cells,L.cells,undef,noF⟩:V9))∈entries L b vt v F:=by unfold entries;simp
 have m67:(67,.abs 2,(⟨0,0,0,0,v,F⟩:V9))∈entries L b vt v F:=by unfold entries;simp
 have m68:∀ i,i<L.cells→i≠L.ix→(68+i,.abs 7,(⟨0,0,0,0,L.vs i,noF⟩:V9))∈entries L b vt v F:=fun i h1 h2=>by
  unfold entries;simp only[List.mem_cons,List.mem_append];exact .inr (.inr (.inr (.inr (.inl (Qik h1 h2)))))
 have mmt:∀ x,L.mbox=some x→(80,.row [x.cell] x.ty 1,(⟨x.blk,0,1,1,undef,noF⟩:V9))∈entries L b vt v F:=fun x hx=>by
  unfold entries;simp only[List.mem_cons,List.mem_append];exact .inr (.inr (.inr (.inr (.inr (.inr (Qr8 hx))))))
 have mbox:∀ j x,L.boxes[j]? = some x→Qpp (0+j) x∈entries L b vt v F:=fun j x hx=>by
  unfold entries;simp only[List.mem_cons,List.mem_append];exact .inr (.inr (.inr (.inr (.inr (.inl (Ls hx))))))
 have hv1:vt.oneCell'=true:=by obtain⟨a,c,rfl,-⟩:=htok;rfl
 have hvv:v.oneCell'=true:=by obtain⟨a,c,h,-⟩:=hG;rw[show v=_ from h];rfl
 have hC:Ctx b E N (Ur b E N cs T eqc) (ownO b L F) w cs:={
  orc:=rfl,mean:=rfl,ax:=rfl,n:=rfl,ob:=.inl rfl,
  lo:=fun k hk=>by
   have:=X.bq
   have:=X.bw;rcases hk with rfl|rfl|hk|⟨x,hx,rfl⟩
   ·exact Nat.le_refl _
   ·omega
   ·have:=hFs k hk;omega
   ·exact Nat.le_of_lt (X.mbb x hx).1
  bw:=I.rd.lt,low:=I.rd.1,x0:=D.x0,len:=D.len,x1:=⟨hd,D.x1⟩,
  s:=fun k hk=>by rw[D.s];exact Nat.le_trans hsz hk
  calls:=D.calls }
 have hrel:Rel (Ur b E N cs T eqc) (ownO b L F) w (D5 N (entries L b vt v F)) (hOf (entries L b vt v F)) w:=by
  refine rel_of rfl (D.dis hax) hat hap ?_ ?_ ?_ ?_
  ·refine Y3 (fun _ k hk => .inl hk) (fun _ k hk=>absurd rfl hk) (fun _ k hk => .inr (.inl hk)) (fun _ k hk => .inr (.inr (.inl hk))) (fun i _ _ _ k hk=>absurd rfl hk) (fun j x hx hn k hk=>?_) (fun x hx _ k hk => .inr (.inr (.inr ⟨x,hx,hk⟩)));have hn:64≤16+(0+j):=hn
   have:=(List.getElem?_eq_some_iff.1 hx).1
   have:=X.nb;omega
  ·refine Y3 (fun k hk=>?_) (fun k hk=>absurd rfl hk) (fun k hk=>?_) (fun k hk=>?_) (fun i _ _ k hk=>absurd rfl hk) (fun j x hx k hk=>?_) (fun x hx k hk=>?_)
   ·rw[show k=b from hk];exact I.rd.lt
   ·rw[show k=L.q from hk];exact(Array.getElem?_eq_some_iff.1 hrow).1
   ·cases hx:F k with
    |none=>exact absurd hx hk
    |some o=>exact(Array.getElem?_eq_some_iff.1 (hF k o hx)).1
   ·obtain⟨fr2,h1,-⟩:=I.box x (List.mem_of_getElem? hx);rw[show k=x.blk from hk];exact(Array.getElem?_eq_some_iff.1 h1).1
   ·obtain⟨⟨fr2,h1,-⟩,-⟩:=I.mb x hx;rw[show k=x.blk from hk];exact(Array.getElem?_eq_some_iff.1 h1).1
  ·refine Y3 ?_ (fun k o hk=>by cases hk) ?_ (fun k o hk=>hF k o hk) (fun i _ _ k o hk=>by cases hk) (fun j x hx=>?_) (fun x hx=>?_)
   ·refine⟨rfl,_,(0,0),hrdrow,rfl,Nat.le_refl 3,?_,fun j _=>by simp,fun _=>rfl⟩;refine .cons (VR.tok (s:=⟨0,0,0,0,vt,noF⟩) (hat _ m65) hv1) (.cons (hax.vr (show Xi N 320=some (.int .i64 (E.len:Int)) by rw[←D.x0];rfl)) (.cons (hax.vr (show Xi N 321=some (.bool hd) by rw[←D.x1];rfl)) .nil))
   ·refine⟨rfl,_,fr,hrow,by simp[V4],by simp[V4,U3],?_,fun j hj=>hfr j (by simpa [V4] using hj),hfr0⟩;rw[U3];have:(((J9 L v).toArray.toList.drop 0).take L.cells)=J9 L v:=by
     rw[List.drop_zero];exact List.take_of_length_le (by simp[V4])
    rw[this];refine vrs_of (by rw[U3,V4]) fun i x y h1 h2=>?_
    obtain⟨i1,rfl⟩:=Qkj h1;obtain⟨-,rfl⟩:=Qn5 h2;by_cases hix:i=L.ix
    ·rw[if_pos hix,if_pos hix];exact VR.tok (s:=⟨0,0,0,0,v,F⟩) (hat _ m67) hvv
    ·rw[if_neg hix,if_neg hix];exact VR.tok (s:=⟨0,0,0,0,L.vs i,noF⟩) (hat _ (m68 i i1 hix)) (X.one i i1)
   ·obtain⟨fr2,h1,h2⟩:=I.box x (List.mem_of_getElem? hx);exact⟨rfl,_,fr2,h1,rfl,Nat.le_refl 1,.cons (X.cell x (List.mem_of_getElem? hx) _ hax) .nil,fun j hj=>h2 j (by simpa [ext] using hj),fun hh=>absurd rfl hh⟩
   ·obtain⟨⟨fr2,h1,h2⟩,-⟩:=I.mb x hx;exact⟨rfl,_,fr2,h1,rfl,Nat.le_refl 1,.cons (X.mcell x hx _ hax) .nil,fun j hj=>h2 j (by simpa [ext] using hj),fun hh=>absurd rfl hh⟩
  ·refine Y3 (fun m e=>by cases e) (fun m e=>?_) (fun m e=>by cases e) (fun m e=>?_) (fun i _ _ m e=>?_) (fun j x hx m e=>by cases e) (fun x hx m e=>by cases e)
   ·cases e;refine⟨?_,rfl⟩;show Qhu b E.w0 vt (N.L 0)
    rw[hL];exact Qhu.frame (fun k hk=>(I.rd.1 k hk).symm) htok
   ·cases e;show Rt N.S ⟨0,0,0,0,v,F⟩ (N.TS 0)
    rw[hT,D.s];exact hG
   ·cases e;exact trivial
 refine⟨vt,v,F,hFs,hrel,Qsc I.n I.ds fun x hx=>?_,hC,hap,h128⟩;unfold known at hx;rcases List.mem_cons.1 hx with rfl|hx
 ·rw[I.rowS];exact VR.ptr (s:=⟨L.q,0,L.cells,L.cells,undef,noF⟩) (hat _ m66)
 ·rcases List.mem_append.1 hx with hx|hx
  ·obtain⟨j,y,h1,rfl⟩:=Qb6 hx;rw[I.boxS y (List.mem_of_getElem? h1)];exact VR.ptr (s:=⟨y.blk,0,1,1,undef,noF⟩) (hat _ (mbox j y h1))
  rcases List.mem_append.1 hx with hx|hx
  ·obtain⟨y,h1,rfl⟩:=List.mem_map.1 hx;rw[I.dirS y h1];exact X.dir y h1 _ hax
  ·obtain⟨y,h1,rfl⟩:=Qkx hx;rw[(I.mb y h1).2];exact VR.ptr (s:=⟨y.blk,0,1,1,undef,noF⟩) (hat _ (mmt y h1))
end
end Prs
end
end Go.Proofs.YtcbkeecabcbogaaGreatDoor
