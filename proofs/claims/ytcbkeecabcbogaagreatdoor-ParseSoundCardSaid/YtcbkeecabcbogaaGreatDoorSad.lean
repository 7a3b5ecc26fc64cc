/- The evaluator's operations over memory, each held against th -/
import Derived.Test.YtcbkeecabcbogaaGreatDoorSaa
import Derived.Test.YtcbkeecabcbogaaGreatDoorSac
import Derived.Laws.Sem
import Derived.Laws.Entries
import Derived.ChangeKeysEq
import Derived.Deep.AppendSrc
import Derived.Deep.Upon
import Derived.Lib.SlBuf
set_option linter.unusedSimpArgs false
set_option linter.unusedVariables false
namespace Go.Proofs.YtcbkeecabcbogaaGreatDoor
section
namespace Ev
open Go.RowKit
structure TI where
 u:TypeDesc
 row:Bool
 size:Nat
 bytes:Nat
 zero:Value
structure TIOK (P:Program)(t:TypeId)(i:TI):Prop where
 u:P.underlying t=some i.u
 row:i.row=i.u.isRow
 info:∃ f,P.info? t=some f∧f.size=i.size∧f.bytes=i.bytes∧f.zero=some i.zero
 plain:Tt 9 i.zero=true
 zsize:i.zero.cells.size=i.size
 one:i.zero.cells.all (·.oneCell')=true
def Qny (P:Program)(t:TypeId):Option TI:=match P.underlying t,P.info? t with
 |some u,some f=>match f.zero with
  |some z=>if Tt 9 z&&z.cells.size==f.size&&z.cells.all (·.oneCell') then some ⟨u,u.isRow,f.size,f.bytes,z⟩ else none
  |none=>none
 |_,_=>none
theorem Fh {P:Program}{t:TypeId}{i:TI}(h:Qny P t=some i):TIOK P t i:=by
 unfold Qny at h;split at h
 ·rename_i u f hu hf;split at h
  ·rename_i z hz;split at h
   ·rename_i hc;simp only[Bool.and_eq_true,beq_iff_eq] at hc;cases h;exact⟨hu,rfl,⟨f,hf,rfl,rfl,hz⟩,hc.1.1,hc.1.2,hc.2⟩
   ·cases h
  ·cases h
 ·cases h
def G5 {α:Type}(P:Program):Sem α→Option (Except Value α)
 | .pure a=>some (.ok a)
 | .program k=>G5 P (k P)
 | .mark _ k=>G5 P k
 | .halt (.panic v)=>some (.error v)
 |_=>none
theorem Qdo {α:Type}{P:Program}:∀ (s:Sem α) {a:α},G5 P s=some (.ok a)→∀ w,s.run P w=.ok a w
 | .pure b,a,h,w=>by simp only[G5,Option.some.injEq,Except.ok.injEq] at h;subst h;rfl
 | .program k,a,h,w=>Qdo (k P) (by simpa [G5] using h) w
 | .mark _ k,a,h,w=>Qdo k (by simpa [G5] using h) w
 | .halt x,a,h,w=>by cases x <;> simp[G5] at h
 | .load ..,_,h,_ | .store ..,_,h,_ | .new ..,_,h,_ | .shape ..,_,h,_ | .freeze ..,_,h,_ | .frozen ..,_,h,_ | .getObj ..,_,h,_ | .setObj ..,_,h,_ | .choose ..,_,h,_ | .sys ..,_,h,_=>by simp[G5] at h
theorem Nu {α:Type}{P:Program}:∀ (s:Sem α) {v:Value},G5 P s=some (.error v)→∀ w,s.run P w=.halt (.panic v) w
 | .pure b,a,h,w=>by simp[G5] at h
 | .program k,a,h,w=>Nu (k P) (by simpa [G5] using h) w
 | .mark _ k,a,h,w=>Nu k (by simpa [G5] using h) w
 | .halt x,a,h,w=>by
  cases x <;> simp[G5] at h
  subst h;rfl
 | .load ..,_,h,_ | .store ..,_,h,_ | .new ..,_,h,_ | .shape ..,_,h,_ | .freeze ..,_,h,_ | .frozen ..,_,h,_ | .getObj ..,_,h,_ | .setObj ..,_,h,_ | .choose ..,_,h,_ | .sys ..,_,h,_=>by simp[G5] at h
def Gives {α β:Type}(P:Program)(K:Cfg)(base:Nat→Prop)(w0:World)(p:Xb)(w:World)(c c':Nat)(h':Tree Q4)(R:Xb→α→β→Prop)(t:Sem β)(x:α):Prop:=
 ∃ (p':Xb) (w':World) (y:β),t.run P w=.ok y w'∧R p' x y∧Rel K base w0 p' h' w'∧p.le p'∧∀ b,(b<c∨c'≤b)→p' b=p b
theorem Gives.quiet {α β:Type}{P:Program}{K:Cfg}{base:Nat→Prop}{w0 w:World}{p:Xb}{h:Tree Q4}{c:Nat}{R:Xb→α→β→Prop}{t:Sem β}{x:α}{y:β}
  (hr:Rel K base w0 p h w) (ht:t.run P w=.ok y w) (hx:R p x y):Gives P K base w0 p w c c h R t x:=
 ⟨p,w,y,ht,hx,hr,Xb.le_refl _,fun _ _=>rfl⟩
def Free (p:Xb)(c c':Nat):Prop:=∀ b,c≤b→b<c'→p b=none
def Gn {α β:Type}(o:Option β):M α β:=match o with
 |some x=>M.pure x
 |none=>M.fail
noncomputable def Ap (b:Nat):M Q4 (List Value×TypeId×Nat):=M.bind (M.read b) fun
 | .row cs t sz=>M.pure (cs,t,sz)
 |_=>M.fail
theorem Ve {α β:Type}(o:Option β):M.Local (Gn o:M α β):=by
 unfold Gn;split
 ·exact M.Qi _
 ·exact M.Qe
theorem Us (b:Nat):M.Local (Ap b):=M.Qh (M.Vd b) fun o=>by
 split
 ·exact M.Qi _
 ·exact M.Qe
theorem Qr {α β γ:Type}{m:M α β}{f:β→M α γ}{h:Tree α}{c:Nat}{y:γ}{h2:Tree α}{c2:Nat}{l:Log}(e:M.bind m f h c=.ok y h2 c2 l):
  ∃ x h1 c1 l1 l2,m h c=.ok x h1 c1 l1∧f x h1 c1=.ok y h2 c2 l2:=by
 rw[M.Qey] at e;split at e
 ·cases e
 ·rename_i x h1 c1 l1 e1;split at e
  ·cases e
  ·rename_i y' h2' c2' l2 e2;cases e;exact⟨x,h1,c1,l1,l2,e1,e2⟩
theorem Qn {α β:Type}{x y:β}{h h2:Tree α}{c c2:Nat}{l:Log}(e:(M.pure x:M α β) h c=.ok y h2 c2 l):y=x∧h2=h∧c2=c:=by cases e;exact⟨rfl,rfl,rfl⟩
theorem Ku {α β:Type}{o:Option β}{y:β}{h h2:Tree α}{c c2:Nat}{l:Log}(e:(Gn o:M α β) h c=.ok y h2 c2 l):o=some y∧h2=h∧c2=c:=by
 unfold Gn at e;split at e
 ·cases e;exact⟨rfl,rfl,rfl⟩
 ·cases e
theorem U9 {α:Type}{b:Nat}{y:α}{h h2:Tree α}{c c2:Nat}{l:Log}(e:M.read b h c=.ok y h2 c2 l):h.get b=some y∧h2=h∧c2=c:=by
 unfold M.read at e;split at e
 ·cases e
 ·rename_i x hx;cases e;exact⟨hx,rfl,rfl⟩
theorem Tq {b:Nat}{y:List Value×TypeId×Nat}{h h2:Tree Q4}{c c2:Nat}{l:Log}(e:Ap b h c=.ok y h2 c2 l):h.get b=some (.row y.1 y.2.1 y.2.2)∧h2=h∧c2=c:=by
 obtain⟨o,h1,c1,l1,l2,e1,e2⟩:=Qr e;obtain⟨e3,rfl,rfl⟩:=U9 e1;split at e2
 ·obtain⟨rfl,rfl,rfl⟩:=Qn e2;exact⟨e3,rfl,rfl⟩
 ·cases e2
theorem Yr {α:Type}{b:Nat}{x:Option α}{y:Unit}{h h2:Tree α}{c c2:Nat}{l:Log}(e:M.write b x h c=.ok y h2 c2 l):h2=h.set b x∧c2=c:=by
 unfold M.write at e;split at e
 ·cases e
 ·cases e;exact⟨rfl,rfl⟩
theorem Uo {α:Type}{x:α}{y:Nat}{h h2:Tree α}{c c2:Nat}{l:Log}(e:M.new x h c=.ok y h2 c2 l):y=c∧h2=h.set c (some x)∧c2=c+1:=by
 unfold M.new at e;cases e;exact⟨rfl,rfl,rfl⟩
noncomputable def Qbd (cs:List Value)(t:TypeId)(sz:Nat):M Q4 Nat:=M.new (.row cs t sz)
theorem Qby {P:Program}{K:Cfg}{base:Nat→Prop}{w0 w:World}{p:Xb}{h:Tree Q4}{c:Nat}(hr:Rel K base w0 p h w)(hp:p c=none)(cs:List Value)(cs':Array Value)(t:TypeId)(esz:Nat)(hcs:VRs p cs cs'.toList):
  (newRow t cs').run P w=.ok ⟨w.heap.size,0,none⟩ (w.alloc (.cells cs' t))∧Rel K base w0 (p.add c ⟨w.heap.size,0,cs'.size,esz,undef,noF⟩) (h.set c (some (.row cs t esz))) (w.alloc (.cells cs' t)):=by
 have hle:=Xb.U4 (s:=⟨w.heap.size,0,cs'.size,esz,undef,noF⟩) hp;refine⟨rfl,hr.new hp _ _ _ rfl ?_⟩;refine⟨rfl,cs',(0,0),heap_alloc_new' _ _,rfl,?_,?_,fun j _=>by simp,fun _=>rfl⟩
 ·have:=hcs.len;simp at this ⊢;omega
 ·have:=hcs.len;simp only[List.drop_zero];rw[List.take_of_length_le Dw];exact hcs.mono hle
theorem Yj {p:Xb}{c:Nat}{s:V9}:∀ b,(b<c∨c+1≤b)→(p.add c s) b=p b:=fun b hb=>by
 unfold Xb.add;rw[if_neg Dw]
theorem oneCell_cells {v:Value}(h:v.oneCell'=true):v.cells = #[v]:=by
 cases v <;> first|rfl|cases h
theorem Lr {p:Xb}{v v':Value}(h:VR p v v'):VRs p v.cells.toList v'.cells.toList:=by
 have h0:=h;cases h with
 |agg h=>exact h
 |tok _ h1=>rw[oneCell_cells h1];exact .cons h0 .nil
 |_=>exact .cons h0 .nil
theorem Qmg {P:Program}{t:TypeId}{i:TI}(ht:TIOK P t i)(w:World):(zeroValue t).run P w=.ok i.zero w:=by
 obtain⟨f,h1,h2,h3,h4⟩:=ht.info;simp[zeroValue,typeInfo,h1,h4]
theorem run_sizeOf' {P:Program}{t:TypeId}{i:TI}(ht:TIOK P t i)(w:World):(sizeOf t).run P w=.ok i.size w:=by
 obtain⟨f,h1,h2,h3,h4⟩:=ht.info;simp[sizeOf,typeInfo,h1,h2]
section
variable {P:Program} {K:Cfg} {base:Nat→Prop} {w0 w:World} {p:Xb} {h h':Tree Q4} {c c':Nat} {l:Log}
noncomputable def xBox (t:TypeId)(v:Value):M Q4 Value:=M.bind (Qbd v.cells.toList t v.cells.size) fun b=>M.pure (.pointer (some ⟨b,0,none⟩))
theorem Qqk {t:TypeId}{v v' r:Value}(e:xBox t v h c=.ok r h' c' l)(hv:VR p v v')(hr:Rel K base w0 p h w)(hf:Free p c c'):Gives P K base w0 p w c c' h' VR (Instr.box t v') r:=by
 obtain⟨b,h1,c1,l1,l2,e1,e2⟩:=Qr e;obtain⟨rfl,rfl,rfl⟩:=Uo e1;obtain⟨rfl,rfl,rfl⟩:=Qn e2;have hp:=hf b (Nat.le_refl _) Dw;obtain⟨k1,k2⟩:=Qby (P:=P) hr hp _ v'.cells t v.cells.size (Lr hv);refine⟨_,_,.pointer (some ⟨w.heap.size,0,none⟩),?_,?_,k2,Xb.U4 hp,Yj⟩
 ·unfold Instr.box newVar;rw[Sem.run_bind,k1];rfl
 ·exact .ptr (s:=⟨w.heap.size,0,_,_,undef,noF⟩) (Xb.Vy _ _ _)
noncomputable def Qqm (P:Program)(t:TypeId):M Q4 Value:=M.bind (Gn (Qny P t)) fun i=>xBox t i.zero
theorem Qql {t:TypeId}{r:Value}(e:Qqm P t h c=.ok r h' c' l)(hr:Rel K base w0 p h w)(hf:Free p c c'):Gives P K base w0 p w c c' h' VR (Instr.alloc t true (.tuple #[])) r:=by
 obtain⟨i,h1,c1,l1,l2,e1,e2⟩:=Qr e;obtain⟨e3,rfl,rfl⟩:=Ku e1;have ht:=Fh e3;obtain⟨p',w',y,k1,k2⟩:=Qqk (P:=P) e2 (Gl 9 _ ht.plain) hr hf;refine⟨p',w',y,?_,k2⟩;rw[←k1];unfold Instr.alloc Instr.box;rw[Sem.run_bind,Qmg ht];rfl
noncomputable def Qgb (P:Program)(t:TypeId)(v:Value):M Q4 Value:=match v with
 | .pointer (some ⟨b,o,none⟩)=>M.bind (Gn (Qny P t)) fun i=>M.bind (Ap b) fun r=>
  if i.row then (if ((r.1.drop o).take i.size).length=i.size then M.pure (.agg ((r.1.drop o).take i.size).toArray) else M.fail)
  else Gn r.1[o]?
 |_=>M.fail
theorem Bg {s:V9}{cs:List Value}{t:TypeId}{sz:Nat}(hr:Rel K base w0 p h w){b:Nat}(hb:h.get b=some (.row cs t sz))(hs:p b=some s)(o n:Nat)(hn:((cs.drop o).take n).length=n):
  ∃ vs:List Value,w.rangeAt s.blk (s.off+o) vs∧vs.length=n∧VRs p ((cs.drop o).take n) vs:=by
 obtain⟨s',h1,-,-,hR⟩:=hr.at_ b _ hb;obtain rfl:s'=s:=Option.some.inj (h1.symm.trans hs);obtain⟨bs,fr,k1,k2,k3,k4,-⟩:=hR.at_;have k5:=(k4.drop o).take n;have hl:=k5.len;rw[hn] at hl;refine⟨_,fun j u hj=>?_,hl.symm,k5⟩;unfold World.cell?
 rw[k1];rw[List.getElem?_take] at hj;split at hj
 ·rw[List.getElem?_drop,List.getElem?_take] at hj;split at hj
  ·rw[List.getElem?_drop] at hj;simpa [Nat.add_assoc] using hj
  ·cases hj
 ·cases hj
theorem Qc4 {t:TypeId}{v v' r:Value}(e:Qgb P t v h c=.ok r h' c' l)(hv:VR p v v')(hr:Rel K base w0 p h w):h'=h∧c'=c∧∃ y,(Instr.loadAt t v').run P w=.ok y w∧VR p r y:=by
 unfold Qgb at e;split at e
 ·rename_i b o;obtain⟨i,h1,c1,l1,l2,e1,e2⟩:=Qr e;obtain⟨e3,rfl,rfl⟩:=Ku e1;obtain⟨rr,h1,c1,l1,l2,e4,e5⟩:=Qr e2;obtain⟨e6,rfl,rfl⟩:=Tq e4;have ht:=Fh e3;obtain⟨f,hf1,hf2,hf3,hf4⟩:=ht.info;cases hv with
  |ptr hs=>
   rename_i s;split at e5
   ·rename_i hrow;split at e5
    ·rename_i hlen;obtain⟨rfl,rfl,rfl⟩:=Qn e5;obtain⟨vs,g1,g2,g3⟩:=Bg hr e6 hs o i.size hlen;refine⟨rfl,rfl,.agg vs.toArray,?_,.agg (by simpa using g3)⟩;exact run_loadAt_mid w s.blk (s.off+o) t vs i.u g1 ht.u (by rw[←ht.row];exact hrow) (by rw[hf1,g2,←hf2];rfl)
    ·cases e5
   ·rename_i hrow;obtain⟨e7,rfl,rfl⟩:=Ku e5;obtain⟨u,g1,g2,-⟩:=hr.load e6 e7 hs;refine⟨rfl,rfl,u,?_,g2⟩;have hna:(isAgg t).run P w=.ok false w:=by
     unfold isAgg;rw[Sem.run_bind,run_underlying ht.u w]
     have:=ht.row;cases hu:i.u <;> simp_all
    simp only[Instr.loadAt,Instr.sureAddr,loadVar,Sem.run_bind,Sem.run_pure,Result.andThen_ok,hna];simp[load,Sem.run,g1]
 ·cases e
theorem xLoad_ok {t:TypeId}{v v' r:Value}(e:Qgb P t v h c=.ok r h' c' l)(hv:VR p v v')(hr:Rel K base w0 p h w):Gives P K base w0 p w c c' h' VR (Instr.loadAt t v') r:=by
 obtain⟨rfl,rfl,y,h1,h2⟩:=Qc4 (P:=P) e hv hr;exact Gives.quiet hr h1 h2
noncomputable def Qhw (P:Program)(K:Cfg)(t:TypeId)(v x:Value):M Q4 Unit:=match v with
 | .pointer (some ⟨b,o,none⟩)=>M.bind (Gn (Qny P t)) fun i=>M.bind (Ap b) fun r=>
  if K.n≤b∧x.cells.size=i.size∧o+x.cells.toList.length≤r.1.length∧x.cells.all (·.oneCell')=true then M.write b (some (.row (Yu r.1 o x.cells.toList) r.2.1 r.2.2)) else M.fail
 |_=>M.fail
theorem Qoh {v v':Value}(h:VR p v v'):v'.oneCell'=v.oneCell':=by
 cases h with
 |tok _ h1=>exact h1
 |_=>rfl
theorem Hr:∀ {l m:List Value},VRs p l m→(∀ v∈l,v.oneCell'=true)→∀ v∈m,v.oneCell'=true
 |_,_,.nil,_,v,hv=>by simp at hv
 |_,_,.cons h k,ha,v,hv=>by
  rcases List.mem_cons.1 hv with rfl|hv
  ·rw[Qoh h];exact ha _ Ds
  ·exact Hr k (fun x hx=>ha x (by simp[hx])) v hv
theorem Df (w:World)(b o:Nat)(ty:TypeId)(v:Value)(ht:w.there b o v.cells.size)(hi:(P.info? ty).map (·.size)=some v.cells.size)(h1:v.cells.all (·.oneCell')=true):
  (storeVar ty ⟨b,o,none⟩ v).run P w=.ok () (w.setCells b o v.cells.toList):=by
 have:=run_storeCells_cells (P:=P) b o v.cells.toList 0 w (fun j hj=>by simpa using (ht j (by simpa using hj)).1) (fun j hj=>by simpa using (ht j (by simpa using hj)).2)
  (fun x hx=>(Array.all_eq_true_iff_forall_mem.1 h1) x (by simpa using hx))
 cases hq:P.info? ty with
 |none=>simp[hq] at hi
 |some i=>
  have hs:v.cells.size=i.size:=by simp[hq] at hi;omega
  simp only[Nat.add_zero] at this;simp[storeVar,sizeOf,typeInfo,hq,hs,this]
theorem Qp6 {t:TypeId}{v v' x x':Value}{r:Unit}(e:Qhw P K t v x h c=.ok r h' c' l)(hv:VR p v v')(hx:VR p x x')(hr:Rel K base w0 p h w):Gives P K base w0 p w c c' h' (fun _ _ _=>True) (Instr.storeAt t v' x') r:=by
 unfold Qhw at e;split at e
 ·rename_i b o;obtain⟨i,h1,c1,l1,l2,e1,e2⟩:=Qr e;obtain⟨e3,rfl,rfl⟩:=Ku e1;obtain⟨rr,h1,c1,l1,l2,e4,e5⟩:=Qr e2;obtain⟨e6,rfl,rfl⟩:=Tq e4;have ht:=Fh e3;obtain⟨f,hf1,hf2,hf3,hf4⟩:=ht.info;split at e5
  ·rename_i hc;obtain⟨hK,hsz,hlen,hone⟩:=hc;obtain⟨rfl,rfl⟩:=Yr e5;cases hv with
   |ptr hs=>
    rename_i s;have hcs:=Lr hx;have hl:=hcs.len;simp only[Array.length_toList] at hl hlen;refine⟨p,w.setCells s.blk (s.off+o) x'.cells.toList,(),?_,trivial,hr.stores hcs e6 hK (by simpa using hlen) hs,Xb.le_refl _,fun _ _=>rfl⟩;unfold Instr.storeAt Instr.sureAddr;rw[Sem.run_bind,Sem.run_pure,Result.andThen_ok];refine Df w s.blk (s.off+o) t x' (fun j hj=>?_) (by rw[hf1];simp;omega) ?_
    ·obtain⟨u,hu⟩:∃ u,rr.1[o+j]? = some u:=⟨_,List.getElem?_eq_getElem Dw⟩;obtain⟨u',g1,-,g3⟩:=hr.load e6 hu hs;rw[Nat.add_assoc];exact⟨by rw[g1];rfl,g3⟩
    ·rw[Array.all_eq_true_iff_forall_mem];intro y hy;exact Hr hcs (fun z hz=>(Array.all_eq_true_iff_forall_mem.1 hone) z (by simpa using hz)) y (by simpa using hy)
  ·cases e5
 ·cases e
end
end Ev
end
section
namespace Ev
open Go.RowKit
section
variable {P:Program} {K:Cfg} {base:Nat→Prop} {w0 w:World} {p:Xb} {h h':Tree Q4} {c c':Nat} {l:Log}
def Qbn {β:Type}(P:Program)(p:Xb)(s:Sem β)(R:Xb→Value→β→Prop)(x:Value):Prop:=∀ w:World,∃ y,s.run P w=.ok y w∧R p x y
theorem Qbn.gives {s:Sem Value}{x:Value}(hx:Qbn P p s VR x)(hr:Rel K base w0 p h w):Gives P K base w0 p w c c h VR s x:=by
 obtain⟨y,h1,h2⟩:=hx w;exact Gives.quiet hr h1 h2
def Qge (v:Value)(i:Nat):Option Value:=match v with
 | .tuple vs=>vs[i]?
 |_=>none
theorem Qjx {v v' x:Value}{i:Nat}(e:Qge v i=some x)(hv:VR p v v'):Qbn P p (Instr.extract v' i) VR x:=by
 intro w;unfold Qge at e;split at e
 ·cases hv with
  |tuple hs=>
   rename_i vs';obtain⟨y,h1,h2⟩:=hs.get i x (by simpa using e);refine⟨y,?_,h2⟩;have h3:vs'[i]? = some y:=by simpa using h1
   simp[Instr.extract,h3]
 ·cases e
def Qf8 (P:Program)(t:TypeId)(v:Value):Option Value:=match P.underlying t with
 |some (.interface _)=>none
 |some _=>some (.iface t v)
 |none=>none
theorem Qju {t:TypeId}{v v' x:Value}(e:Qf8 P t v=some x)(hv:VR p v v'):Qbn P p (Instr.makeInterface t v') VR x:=by
 intro w;unfold Qf8 at e;split at e
 ·cases e
 ·rename_i u hni hu;cases e;refine⟨.iface t v',?_,.iface t hv⟩;unfold Instr.makeInterface;rw[Sem.run_bind,run_underlying hu w,Result.andThen_ok];split
  ·rename_i ms;exact(hni ms rfl).elim
  ·rfl
 ·cases e
theorem Qib {t:TypeId}{u:TypeDesc}(hu:P.underlying t=some u)(w:World):(isAgg t).run P w=.ok u.isRow w:=by
 unfold isAgg;rw[Sem.run_bind,run_underlying hu w,Result.andThen_ok];cases u <;> rfl
theorem Qja (cs:Array Value)(a n:Nat):(cs.extract a (a+n)).toList=(cs.toList.drop a).take n:=by
 simp[List.extract_eq_take_drop]
def xPart (P:Program)(t:TypeId)(cs:List Value)(o:Nat):Option Value:=match Qny P t with
 |some i=>if i.row then some (.agg ((cs.drop o).take i.size).toArray) else cs[o]?
 |none=>none
theorem Ql5 {t:TypeId}{cs:List Value}{cs':Array Value}{o:Nat}{x:Value}(e:xPart P t cs o=some x)(hv:VRs p cs cs'.toList):Qbn P p (part t cs' o) VR x:=by
 intro w;unfold xPart at e;split at e
 ·rename_i i hi;have ht:=Fh hi;split at e
  ·rename_i hrow;cases e;refine⟨.agg (cs'.extract o (o+i.size)),?_,.agg (by rw[Qja];simpa using (hv.drop o).take i.size)⟩;unfold part;rw[Sem.run_bind,Qib ht.u w,Result.andThen_ok,←ht.row,hrow];simp only[if_true];rw[Sem.run_bind,run_sizeOf' ht w];rfl
  ·rename_i hrow;obtain⟨y,h1,h2⟩:=hv.get o x e;refine⟨y,?_,h2⟩;have h3:cs'[o]? = some y:=by simpa using h1
   unfold part;rw[Sem.run_bind,Qib ht.u w,Result.andThen_ok,←ht.row];simp[hrow,h3]
 ·cases e
def Qqg (P:Program)(t:TypeId)(v:Value)(i:Nat):Option Value:=match P.underlying t,v with
 |some (.struct fs),.agg cs=>match fs[i]? with
  |some f=>xPart P f.type cs.toList f.offset
  |none=>none
 |_,_=>none
theorem Qqf {t:TypeId}{v v' x:Value}{i:Nat}(e:Qqg P t v i=some x)(hv:VR p v v'):Qbn P p (Instr.field t v' i) VR x:=by
 intro w;unfold Qqg at e;split at e
 ·rename_i fs cs hu;split at e
  ·rename_i f hf;cases hv with
   |agg hs=>
    rename_i cs';obtain⟨y,h1,h2⟩:=Ql5 (P:=P) e hs w;refine⟨y,?_,h2⟩;unfold Instr.field;rw[Sem.run_bind,run_underlying hu w,Result.andThen_ok];simp only[hf,asAgg,Sem.run_bind,Sem.run_pure,Result.andThen_ok];exact h1
  ·cases e
 ·cases e
def Qqe (P:Program)(t:TypeId)(v x:Value):Option Value:=match P.underlying t,v,x with
 |some (.array n e),.agg cs,.int _ i=>match Qny P e with
  |some ti=>if 0≤i∧i<n then xPart P e cs.toList (i.toNat * ti.size) else none
  |none=>none
 |_,_,_=>none
theorem Qqd {t:TypeId}{v v' x x' r:Value}(e:Qqe P t v x=some r)(hv:VR p v v')(hx:VR p x x'):Qbn P p (Instr.index t v' x') VR r:=by
 intro w;unfold Qqe at e;split at e
 ·rename_i n el cs k i hu;split at e
  ·rename_i ti hti;split at e
   ·rename_i hb;cases hv with
    |agg hs=>
     rename_i cs';cases hx;obtain⟨y,h1,h2⟩:=Ql5 (P:=P) e hs w;refine⟨y,?_,h2⟩;unfold Instr.index;simp only[asIntOf,Sem.run_bind,Sem.run_pure,Result.andThen_ok,run_underlying hu w];rw[if_pos hb,Sem.run_bind,run_sizeOf' (Fh hti) w,Result.andThen_ok];exact h1
   ·cases e
  ·cases e
 ·cases e
def Qa3 (P:Program)(t:TypeId)(v:Value)(i:Nat):Option Value:=match P.underlying t,v with
 |some (.struct fs),.pointer (some ⟨b,o,none⟩)=>match fs[i]? with
  |some f=>match P.info? f.type with
   |some g=>if g.size=0 then none else some (.pointer (some ⟨b,o+f.offset,none⟩))
   |none=>none
  |none=>none
 |_,_=>none
theorem Qgd {t:TypeId}{v v' x:Value}{i:Nat}(e:Qa3 P t v i=some x)(hv:VR p v v'):Qbn P p (Instr.fieldAt t v' i) VR x:=by
 intro w;unfold Qa3 at e;split at e
 ·rename_i fs b o hu;split at e
  ·rename_i f hf;split at e
   ·rename_i g hg;split at e
    ·cases e
    ·rename_i hsz;cases e;cases hv with
     |ptr hs=>
      rename_i s;refine⟨.pointer (some ⟨s.blk,s.off+(o+f.offset),none⟩),?_,.ptr hs⟩;unfold Instr.fieldAt fieldPlace;rw[Sem.run_bind,run_underlying hu w,Result.andThen_ok];simp[hf,Instr.sureAddr,sizeOf,typeInfo,hg,hsz,Addr.add_mid,Nat.add_assoc]
   ·cases e
  ·cases e
 ·cases e
def Qa2 (P:Program)(t:TypeId)(v x:Value):Option Value:=match P.underlying t,v,x with
 |some (.slice e),.slice (some ⟨b,o,none⟩) n c,.int _ i=>match P.info? e with
  |some g=>if 0≤i∧i<n∧c≠unkE then some (.pointer (some ⟨b,o+i.toNat * g.size,none⟩)) else none
  |none=>none
 |some (.array n e),.pointer (some ⟨b,o,none⟩),.int _ i=>match P.info? e with
  |some g=>if 0≤i∧i<n then some (.pointer (some ⟨b,o+i.toNat * g.size,none⟩)) else none
  |none=>none
 |_,_,_=>none
theorem Qgc {t:TypeId}{v v' x x' r:Value}(e:Qa2 P t v x=some r)(hv:VR p v v')(hx:VR p x x'):Qbn P p (Instr.indexAt t v' x') VR r:=by
 intro w;unfold Qa2 at e;split at e
 ·rename_i el b o n cc k i hu;split at e
  ·rename_i g hg;split at e
   ·rename_i hb;obtain⟨hb1,hb2,hb3⟩:=hb;cases e;cases hx;have key:∀ (s:V9) (n' cc':Nat),p b=some s→n'=n→∃ y,(Instr.indexAt t (.slice (some ⟨s.blk,s.off+o,none⟩) n' cc') (.int k i)).run P w=.ok y w∧VR p (.pointer (some ⟨b,o+i.toNat * g.size,none⟩)) y:=by
     intro s n' cc' hs hn;subst hn;refine⟨.pointer (some ⟨s.blk,s.off+(o+i.toNat * g.size),none⟩),?_,.ptr hs⟩;unfold Instr.indexAt;simp only[asIntOf,Sem.run_bind,Sem.run_pure,Result.andThen_ok,run_underlying hu w];rw[if_pos ⟨hb1,hb2⟩];simp[sizeOf,typeInfo,hg,Addr.add_mid,Nat.add_assoc]
    cases hv with
    |slice hs _ _=>exact key _ _ _ hs rfl
    |sliceU hs _ _ _=>exact key _ _ _ hs rfl
    |sliceE=>exact absurd rfl hb3
   ·cases e
  ·cases e
 ·rename_i n el b o k i hu;split at e
  ·rename_i g hg;split at e
   ·rename_i hb;cases e;cases hx;cases hv with
    |ptr hs=>
     rename_i s;refine⟨.pointer (some ⟨s.blk,s.off+(o+i.toNat * g.size),none⟩),?_,.ptr hs⟩;unfold Instr.indexAt;simp only[asIntOf,Instr.sureAddr,Sem.run_bind,Sem.run_pure,Result.andThen_ok,run_underlying hu w];rw[if_pos hb];simp[sizeOf,typeInfo,hg,Addr.add_mid,Nat.add_assoc]
   ·cases e
  ·cases e
 ·cases e
def Af (v:Value):Option Value:=match v with
 | .pointer (some _) | .slice _ _ _ | .map _ | .int _ _ | .string _ | .agg _ | .bool _ | .iface _ _=>some v
 | .func (.func _) _ _=>some v
 |_=>none
end
end Ev
end
section
namespace Ev
open Go.RowKit
theorem Aq:∀ (vs cs:List Value) (o:Nat),o+vs.length≤cs.length→Yu cs o vs=cs.take o++vs++cs.drop (o+vs.length)
 | [],cs,o,h=>by simp[Yu]
 |v::vs,cs,o,h=>by
  simp only[List.length_cons] at h;rw[Yu,Aq vs _ _ (by simp;omega)];apply List.ext_getElem?
  intro k;simp only[List.getElem?_append,List.length_append,List.length_take,List.length_set,List.length_cons,List.getElem?_take,List.getElem?_drop,List.getElem?_set,List.getElem?_cons];repeat' split
  all_goals first|rfl|omega|(exfalso;omega)|(congr 1;omega)|skip
  all_goals simp_all
  all_goals first|omega|(congr 1;omega)|skip
theorem Gp (g:Nat)(t:TypeId)(fr:Nat×Nat):∀ (vs:List Value) (o:Nat) (w:World) (bs:Array Value),w.heap[g]? = some (.cells bs t fr)→(w.setCells g o vs).heap[g]? = some (.cells (Yu bs.toList o vs).toArray t fr)
 | [],o,w,bs,h=>h
 |v::vs,o,w,bs,h=>by
  have h1:(w.setCell ⟨g,o,none⟩ v).heap[g]? = some (.cells (bs.setIfInBounds o v) t fr):=by
   simp only[World.setCell,Array.getElem?_modify,if_true,h,Option.map_some];rfl
  have:=Gp g t fr vs (o+1) _ _ h1;rw[Array.toList_setIfInBounds] at this;exact this
theorem size_setCells (g:Nat):∀ (vs:List Value) (o:Nat) (w:World),(w.setCells g o vs).heap.size=w.heap.size
 | [],_,_=>rfl
 |v::vs,o,w=>(size_setCells g vs (o+1) (w.setCell ⟨g,o,none⟩ v)).trans Ds
section
variable {P:Program} {K:Cfg} {base:Nat→Prop} {w0 w:World} {p:Xb} {h h':Tree Q4} {c c':Nat} {l:Log}
theorem Rel.goOn (hr:Rel K base w0 p h w){b:Nat}{cs:List Value}{t:TypeId}{sz:Nat}(hb:h.get b=some (.row cs t sz))(hK:K.n≤b){s:V9}(hs:p b=some s)(hp:p c=none)(hcb:c≠b)
  (O:Nat) (olds olds' news news':List Value) (hO:∀ (bs:Array Value) (fr:Nat×Nat),w.heap[s.blk]? = some (.cells bs t fr)→bs.size=s.size→(bs.toList.drop O).take olds.length=olds') (hov:VRs p olds olds') (hnv:VRs p news news')
  (hfit:O+olds.length+news.length≤s.size):
  Rel K base w0 (p.add c ⟨s.blk,O,s.size,sz,undef,noF⟩) ((h.set b none).set c (some (.row (olds++news) t sz))) (w.setCells s.blk (O+olds.length) news'):=by
 obtain⟨s',g1,hB,hlt,hR⟩:=hr.at_ b _ hb;obtain rfl:s'=s:=Option.some.inj (g1.symm.trans hs);obtain⟨bs,fr,k1,k2,k3,k4,kf⟩:=hR.at_;have hle:=Xb.U4 (s:=⟨s'.blk,O,s'.size,sz,undef,noF⟩) hp;have hnl:=hnv.len;have hol:=hov.len;have hoe:=hO bs fr k1 k2;refine hr.swap hb hs hK hp (fun _ hO=>hO) (fun _ e=>by cases e) (Lib.below_setCells _ (Nat.le_refl _) _ _ (Below.refl _ _)).os (Lib.below_setCells _ (Nat.le_refl _) _ _ (Below.refl _ _)).tape (Lib.below_setCells _ (Nat.le_refl _) _ _ (Below.refl _ _)).output (by rw[size_setCells];exact Nat.le_refl _) (fun k hk1 hk2=>World.heap_setCells_other _ _ _ _ hk1 hk2) ?_;refine⟨rfl,(Yu bs.toList (O+olds.length) news').toArray,fr,Gp _ _ _ _ _ _ _ k1,by simp[Y0,k2],?_,?_,fun j hj=>kf.1 j (by simpa [Y0] using hj),kf.2⟩
 ·simp[Y0,k2];omega
 ·have e1:((Yu bs.toList (O+olds.length) news').toArray.toList.drop O).take (olds++news).length=olds'++news':=by
   rw[Aq _ _ _ (by simp[k2];omega)];have e2:bs.toList.take (O+olds.length)=bs.toList.take O++olds':=by
    rw[←hoe,List.take_add]
   simp only[e2,List.append_assoc];have e3:(bs.toList.take O).length=O:=by simp[k2];omega
   rw[List.drop_append_of_le_length Dw,List.drop_of_length_le Dw,List.nil_append,←List.append_assoc,List.take_append_of_le_length (by simp;omega),List.take_of_length_le (by simp;omega)]
  rw[e1];exact(hov.append hnv).mono hle
end
end Ev
end
section
namespace Ev
open Go.RowKit
def Qav (s:ByteArray):List Value:=s.data.toList.map fun b=>Value.int .u8 (b.toNat:Int)
section
variable {P:Program} {K:Cfg} {base:Nat→Prop} {w0 w:World} {p:Xb} {h h':Tree Q4} {c c':Nat} {l:Log}
noncomputable def srcX (P:Program)(tx:TypeId)(sz:Nat)(x:Value):M Q4 (Nat×List Value):=match P.underlying tx with
 |some (.slice _)=>match x with
  | .slice none n cp=>if n=0∧cp=0 then M.pure (0,[]) else M.fail
  | .slice (some ⟨b,o,none⟩) n _=>if n=0 then M.pure (0,[]) else M.bind (Ap b) fun r=>
   if ((r.1.drop o).take (n*sz)).length=n*sz∧((r.1.drop o).take (n*sz)).all (·.oneCell')=true then M.pure (n,(r.1.drop o).take (n*sz)) else M.fail
  |_=>M.fail
 |some .string=>match x with
  | .string s=>if sz=1 then M.pure (s.size,Qav s) else M.fail
  |_=>M.fail
 |_=>M.fail
theorem Qfi {b o n cp:Nat}{v':Value}(hv:VR p (.slice (some ⟨b,o,none⟩) n cp) v'):∃ (s:V9) (O cc:Nat),p b=some s∧v'=.slice (some ⟨s.blk,O,none⟩) n cc∧n≤cc∧cc≤maxLen∧
  ((cp=cc∧O=s.off+o)∨(cp=unk∧O=s.off+o∧O+cc*s.esz≤s.size)∨(cp=unkE∧n=0∧O+cc*s.esz≤s.size)):=by
 cases hv with
 |slice h1 h2 h3=>exact⟨_,_,_,h1,rfl,h2,h3,.inl ⟨rfl,rfl⟩⟩
 |sliceU h1 h2 h3 h4=>exact⟨_,_,_,h1,rfl,h2,h3,.inr (.inl ⟨rfl,rfl,h4⟩)⟩
 |sliceE h1 h2 h3=>exact⟨_,_,_,h1,rfl,Nat.zero_le _,h2,.inr (.inr ⟨rfl,rfl,h3⟩)⟩
theorem unk_big:unk > maxLen∧unkE > maxLen∧unk≠unkE:=by unfold unk unkE maxLen;decide
theorem Qjn (s:ByteArray):VRs p (Qav s) (Qav s):=by
 unfold Qav;induction s.data.toList with
 |nil=>exact .nil
 |cons b l ih=>exact .cons (.int _ _) ih
theorem srcX_ok {tx:TypeId}{sz:Nat}{x x':Value}{y:Nat×List Value}(e:srcX P tx sz x h c=.ok y h' c' l)(hx:VR p x x')(hr:Rel K base w0 p h w):
  h'=h∧c'=c∧∃ news',Src P sz tx x' y.1 news' w∧VRs p y.2 news':=by
 unfold srcX at e;cases hu:P.underlying tx with
 |none=>rw[hu] at e;cases e
 |some d=>
 rw[hu] at e;cases d with
 |slice el=>
  dsimp only at e;split at e
  ·rename_i n cp;split at e
   ·rename_i h0;obtain⟨rfl,rfl⟩:=h0;obtain⟨rfl,rfl,rfl⟩:=Qn e;cases hx;exact⟨rfl,rfl,[],Src.ofNil w hu 0,.nil⟩
   ·cases e
  ·rename_i b o n cp;obtain⟨s,O,cc,hs,rfl,hn,hm,hO⟩:=Qfi hx;split at e
   ·rename_i h0;obtain⟨rfl,rfl,rfl⟩:=Qn e;subst h0;exact⟨rfl,rfl,[],Src.ofSlice w hu _ 0 cc [] Ds (fun j u hj=>by simp at hj) (fun u hu=>by simp at hu),.nil⟩
   ·rename_i h0;obtain⟨rr,h1,c1,l1,l2,e4,e5⟩:=Qr e;obtain⟨e6,rfl,rfl⟩:=Tq e4;split at e5
    ·rename_i hc;obtain⟨rfl,rfl,rfl⟩:=Qn e5;have hOe:O=s.off+o:=by
      rcases hO with h|h|h
      ·exact h.2
      ·exact h.2.1
      ·exact absurd h.2.1 h0
     obtain⟨vs,g1,g2,g3⟩:=Bg hr e6 hs o (n*sz) hc.1;refine⟨rfl,rfl,vs,Src.ofSlice w hu _ n cc vs g2 (fun j u hj=>?_) (Hr g3 (fun v hv=>List.all_eq_true.1 hc.2 v hv)),g3⟩;rw[Addr.add_mid,hOe];exact g1 j u hj
    ·cases e5
  ·cases e
 |string=>
  dsimp only at e;split at e
  ·rename_i s;split at e
   ·rename_i h1;subst h1;obtain⟨rfl,rfl,rfl⟩:=Qn e;cases hx;exact⟨rfl,rfl,Qav s,Src.ofString w hu s,Qjn s⟩
   ·cases e
  ·cases e
 |_=>cases e
theorem Qbk {hh:Tree Q4}(hr:Rel K base w0 p hh w)(hp:p c=none){t tx ty e:TypeId}{i:TI}(ht:P.underlying t=some (.slice e))(hi:TIOK P e i)(ba:Option Addr)(n cp m:Nat)(olds olds' news news':List Value)(x':Value)
  (hold:(Builtin.firstCells i.size n (.slice ba n cp)).run P w.drew=.ok olds'.toArray w.drew) (hs:Src P i.size tx x' m news' w) (hg:cp<n+m) (h63:n+m≤maxLen) (hb:(n+m)*i.bytes≤140737488355328) (hol:olds'.length=n*i.size)
  (hov:VRs p olds olds') (hnv:VRs p news news'):
  ∃ (w':World) (y:Value) (s:V9),(Builtin.append_ #[t,tx] ty #[.slice ba n cp,x']).run P w=.ok y w'∧VR (p.add c s) (.slice (some ⟨c,0,none⟩) (n+m) unk) y∧Rel K base w0 (p.add c s) (hh.set c (some (.row (olds++news) e i.size))) w':=by
 obtain⟨f,hf1,hf2,hf3,hf4⟩:=hi.info;have hzs:=hi.zsize;rw[←hf2] at hold hs hol hzs ⊢;have h63':((n+m:Nat):Int)≤9223372036854775807:=by unfold maxLen at h63;omega
 have hrun:=run_append_grow_src w t tx ty e f i.zero ht hf1 hf4 ba n cp olds' hold x' m news' hs hg h63' (growslice_fits hg (by rw[hf3];exact hb));have hge:=grownCap_ge w (n+m) cp e;have hle:=grownCap_le_maxLen w (n+m) cp e h63;generalize grownCap w (n+m) cp e=C at hrun hge hle;have hzc:(Builtin.zeroCells i.zero.cells (C-(n+m))).size=(C-(n+m))*f.size:=by simp[Builtin.zeroCells,hzs]
 have hnl:=hs.newsLen;have hsz:((olds'++news').toArray++Builtin.zeroCells i.zero.cells (C-(n+m))).size=C*f.size:=by
  rw[Array.size_append,hzc];simp only[List.size_toArray,List.length_append,hol,hnl,←Nat.add_mul];congr 1;omega
 have hoa:=hov.append hnv;refine⟨_,_,⟨w.heap.size,0,C*f.size,f.size,undef,noF⟩,hrun,?_,?_⟩
 ·refine VR.sliceU (s:=⟨w.heap.size,0,C*f.size,f.size,undef,noF⟩) (Xb.Vy _ _ _) hge hle ?_;simp
 ·refine(hr.drew).new hp _ _ _ rfl ⟨rfl,_,((0,0):Nat×Nat),heap_alloc_new' _ _,hsz,?_,?_,fun j _=>by simp,fun _=>rfl⟩
  ·have:=hoa.len;rw[Array.size_append];simp only[List.size_toArray];omega
  ·have:=hoa.len;have e1:(((olds'++news').toArray++Builtin.zeroCells i.zero.cells (C-(n+m))).toList.drop 0).take (olds++news).length=olds'++news':=by
    rw[List.drop_zero,Array.toList_append,this];exact List.take_left' rfl
   rw[e1];exact hoa.mono (Xb.U4 hp)
def Qg3:Nat:=140737488355328
noncomputable def Qc6 (P:Program)(K:Cfg)(t tx:TypeId)(s x:Value):M Q4 Value:=match P.underlying t with
 |some (.slice e)=>M.bind (Gn (Qny P e)) fun i=>M.bind (srcX P tx i.size x) fun y=>
  match s with
  | .slice none n cp=>if n=0∧cp=0∧¬ y.1=0∧y.1*i.bytes≤Qg3∧y.1≤maxLen then M.bind (Qbd y.2 e i.size) fun b=>M.pure (.slice (some ⟨b,0,none⟩) y.1 unk) else if n=0∧cp=0∧y.1=0 then M.pure s else M.fail
  | .slice (some ⟨b,o,none⟩) n cp=>
   if y.1=0 then M.pure s else
   if cp=unk then M.bind (Ap b) fun r=>
    if K.n≤b∧r.2.1=e∧r.2.2=i.size∧((r.1.drop o).take (n*i.size)).length=n*i.size∧(n+y.1)*i.bytes≤Qg3∧n+y.1≤maxLen then
     M.bind (M.write b none) fun _=>M.bind (Qbd ((r.1.drop o).take (n*i.size)++y.2) e i.size) fun q=>M.pure (.slice (some ⟨q,0,none⟩) (n+y.1) unk)
    else M.fail
   else if cp=unkE then M.fail
   else if n+y.1≤cp then M.bind (Ap b) fun r=>
    if K.n≤b∧o+n*i.size+y.2.length≤r.1.length then
     M.bind (M.write b (some (.row (Yu r.1 (o+n*i.size) y.2) r.2.1 r.2.2))) fun _=>M.pure (.slice (some ⟨b,o,none⟩) (n+y.1) cp)
    else M.fail
   else M.bind (Ap b) fun r=>
    if ((r.1.drop o).take (n*i.size)).length=n*i.size∧(n+y.1)*i.bytes≤Qg3∧n+y.1≤maxLen then
     M.bind (Qbd ((r.1.drop o).take (n*i.size)++y.2) e i.size) fun q=>M.pure (.slice (some ⟨q,0,none⟩) (n+y.1) unk)
    else M.fail
  |_=>M.fail
 |_=>M.fail
theorem Qrn {cs:List Value}{t:TypeId}{sz b:Nat}{s:V9}(hr:Rel K base w0 p h w)(hb:h.get b=some (.row cs t sz))(hs:p b=some s):s.esz=sz∧(∀ q,q<s.size→(w.cell? ⟨s.blk,q,none⟩).isSome=true∧w.frozen? ⟨s.blk,q,none⟩=false):=by
 obtain⟨s',g1,-,-,hR⟩:=hr.at_ b _ hb;obtain rfl:s'=s:=Option.some.inj (g1.symm.trans hs);obtain⟨bs,fr,k1,k2,-,-,kf⟩:=hR.at_;refine⟨hR.esz,fun q hq=>⟨?_,?_⟩⟩
 ·unfold World.cell?;rw[k1];simp;omega
 ·unfold World.frozen?;rw[k1];exact kf.1 q Dw
theorem Qaf {i:Nat}{vs:List Value}{B O n cc:Nat}(g:w.rangeAt B O vs)(hl:vs.length=n*i):(Builtin.firstCells i n (.slice (some ⟨B,O,none⟩) n cc)).run P w.drew=.ok vs.toArray w.drew:=
 run_firstCells_some w.drew i n ⟨B,O,none⟩ n cc vs hl (fun j u hj=>by
  rw[Addr.add_mid]
  exact g j u hj)
set_option maxHeartbeats 1000000 in
theorem Qns {t tx ty:TypeId}{s s' x x' r:Value}(e:Qc6 P K t tx s x h c=.ok r h' c' l)(hs:VR p s s')(hx:VR p x x')(hr:Rel K base w0 p h w)(hf:Free p c c'):
  Gives P K base w0 p w c c' h' VR (Builtin.append_ #[t,tx] ty #[s',x']) r:=by
 unfold Qc6 at e;cases hu:P.underlying t with
 |none=>rw[hu] at e;cases e
 |some d=>
 rw[hu] at e;cases d with
 |slice el=>
  dsimp only at e;obtain⟨i,h1,c1,l1,l2,e1,e2⟩:=Qr e;obtain⟨e3,rfl,rfl⟩:=Ku e1;have hi:=Fh e3;obtain⟨y,h2,c2,l3,l4,e4,e5⟩:=Qr e2;obtain⟨rfl,rfl,news',hsrc,hnv⟩:=srcX_ok e4 hx hr;have hnl:=hnv.len;have hnl2:=hsrc.newsLen;clear e1 e2 e4;split at e5
  ·-- nil
   rename_i n cp;split at e5
   ·rename_i hb;obtain⟨rfl,rfl,h0,hb1,hb2⟩:=hb;obtain⟨q,h3,c3,l5,l6,e6,e7⟩:=Qr e5;obtain⟨rfl,rfl,rfl⟩:=Uo e6;obtain⟨rfl,rfl,rfl⟩:=Qn e7;cases hs;have hp:=hf q (Nat.le_refl _) Dw;obtain⟨w',v',sp,k1,k2,k3⟩:=Qbk (ty:=ty) hr hp hu hi none 0 0 y.1 [] [] y.2 news' x' (by rfl) hsrc Dw Dw (by rw[Nat.zero_add];exact hb1) Ds .nil hnv;rw[Nat.zero_add] at k2;exact⟨_,w',v',k1,k2,k3,Xb.U4 hp,Yj⟩
   ·split at e5
    ·rename_i hb;obtain⟨rfl,rfl,h0⟩:=hb;obtain⟨rfl,rfl,rfl⟩:=Qn e5;cases hs;obtain⟨f,hf1,hf2,hf3,hf4⟩:=hi.info;rw[←hf2,h0] at hsrc;refine Gives.quiet hr (y:=.slice none 0 0) ?_ .nilSlice;rcases hsrc.kind with ⟨e',hk⟩|hk <;> simp[Builtin.append_,run_underlying hu,run_underlying hk,sizeOf,typeInfo,hf1,hsrc.len,hsrc.cells]
    ·cases e5
  ·rename_i b o n cp;obtain⟨sp,O,cc,hsp,rfl,hn,hm,hO⟩:=Qfi hs;have hub:=unk_big;split at e5
   ·rename_i h0;obtain⟨rfl,rfl,rfl⟩:=Qn e5;obtain⟨f,hf1,hf2,hf3,hf4⟩:=hi.info;rw[←hf2,h0] at hsrc;have hn0:news'=[]:=List.length_eq_zero_iff.1 (by rw[hsrc.newsLen];simp);subst hn0;have hrun:=run_append_room_src w t tx ty el f hu hf1 sp.blk O n cc x' 0 [] hsrc Dw (fun j hj=>by simp at hj) (fun j hj=>by simp at hj);exact Gives.quiet hr hrun hs
   ·rename_i h0;split at e5
    ·-- the capacity is not known
     rename_i hcp;obtain⟨rr,h3,c3,l5,l6,e6,e7⟩:=Qr e5;obtain⟨e8,rfl,rfl⟩:=Tq e6;split at e7
     ·rename_i hc;obtain⟨hK,ht,hz,hlen,hb,h63⟩:=hc;obtain⟨u,h4,c4,l7,l8,e9,e10⟩:=Qr e7;obtain⟨rfl,rfl⟩:=Yr e9;obtain⟨q,h5,c5,l9,l10,e11,e12⟩:=Qr e10;obtain⟨rfl,rfl,rfl⟩:=Uo e11;obtain⟨rfl,rfl,rfl⟩:=Qn e12;have hp:=hf q (Nat.le_refl _) Dw;have hqb:q≠b:=fun e=>by rw[e,hsp] at hp;cases hp
      obtain⟨hOe,hOs⟩:O=sp.off+o∧O+cc*sp.esz≤sp.size:=by
       rcases hO with h|h|h
       ·omega
       ·exact h.2
       ·omega
      obtain⟨hesz,hth⟩:=Qrn hr e8 hsp;obtain⟨vs,g1,g2,g3⟩:=Bg hr e8 hsp o (n*i.size) hlen;rw[hesz,hz] at hOs;by_cases hroom:n+y.1≤cc
      ·-- in its own block
       obtain⟨f,hf1,hf2,hf3,hf4⟩:=hi.info;have hmul:(n+y.1)*i.size≤cc*i.size:=Nat.mul_le_mul_right _ hroom;rw[Nat.add_mul] at hmul;have hrun:=run_append_room_src w t tx ty el f hu hf1 sp.blk O n cc x' y.1 news' (by rw[hf2];exact hsrc) hroom (fun j hj=>(hth _ (by rw[hf2];omega)).1) (fun j hj=>(hth _ (by rw[hf2];omega)).2);rw[hf2] at hrun;have hgo:=hr.goOn e8 hK hsp hp hqb (sp.off+o) ((rr.1.drop o).take (n*i.size)) vs y.2 news' (fun bs fr hbs hbsz=>?_) g3 hnv (by rw[hlen];omega)
       ·refine⟨p.add q ⟨sp.blk,sp.off+o,sp.size,rr.2.2,undef,noF⟩,_,_,hrun,?_,?_,Xb.U4 hp,Yj⟩
        ·have:=VR.sliceU (p:=p.add q ⟨sp.blk,sp.off+o,sp.size,rr.2.2,undef,noF⟩) (b:=q) (o:=0) (n:=n+y.1) (c:=cc) (Xb.Vy _ _ _) hroom hm (by simp only[hz];omega);simp only[Nat.add_zero] at this;rw[hOe];exact this
        ·rw[hlen,←hOe] at hgo;rw[ht,hz] at hgo;rw[hz,←hOe];exact hgo
       ·rw[hlen];apply List.ext_getElem?
        intro j;rw[List.getElem?_take,List.getElem?_drop];split
        ·rename_i hj;obtain⟨z,hz2⟩:∃ z,vs[j]? = some z:=⟨_,List.getElem?_eq_getElem Dw⟩;have h9:=g1 j z hz2;unfold World.cell? at h9;rw[hbs] at h9;rw[hz2];simpa using h9
        ·rename_i hj;rw[List.getElem?_eq_none Dw]
      ·obtain⟨w',v',s2,k1,k2,k3⟩:=Qbk (ty:=ty) (hr.del b) hp hu hi (some ⟨sp.blk,O,none⟩) n cc y.1 _ vs y.2 news' x' (Qaf (hOe ▸ g1) g2) hsrc Dw h63 hb g2 g3 hnv;exact⟨_,w',v',k1,k2,k3,Xb.U4 hp,Yj⟩
     ·cases e7
    ·rename_i hcp;split at e5
     ·cases e5
     ·rename_i hcp2;obtain⟨rfl,rfl⟩:cp=cc∧O=sp.off+o:=by
       rcases hO with h|h|h
       ·exact h
       ·exact absurd h.1 hcp
       ·exact absurd h.1 hcp2
      split at e5
      ·rename_i hroom;obtain⟨rr,h3,c3,l5,l6,e6,e7⟩:=Qr e5;obtain⟨e8,rfl,rfl⟩:=Tq e6;split at e7
       ·rename_i hc;obtain⟨hK,hlen⟩:=hc;obtain⟨u,h4,c4,l7,l8,e9,e10⟩:=Qr e7;obtain⟨rfl,rfl⟩:=Yr e9;obtain⟨rfl,rfl,rfl⟩:=Qn e10;obtain⟨f,hf1,hf2,hf3,hf4⟩:=hi.info;have key:∀ j,j<news'.length→(w.cell? ⟨sp.blk,sp.off+o+n*i.size+j,none⟩).isSome=true∧w.frozen? ⟨sp.blk,sp.off+o+n*i.size+j,none⟩=false:=fun j hj=>by
         obtain⟨u,hu'⟩:∃ u,rr.1[o+n*i.size+j]? = some u:=⟨_,List.getElem?_eq_getElem Dw⟩;obtain⟨u',g1,-,g3⟩:=hr.load e8 hu' hsp;rw[show sp.off+o+n*i.size+j=sp.off+(o+n*i.size+j) by omega];exact⟨by rw[g1];rfl,g3⟩
        have hrun:=run_append_room_src w t tx ty el f hu hf1 sp.blk (sp.off+o) n cp x' y.1 news' (by rw[hf2];exact hsrc) hroom (fun j hj=>by rw[hf2];exact(key j hj).1) (fun j hj=>by rw[hf2];exact(key j hj).2);rw[hf2,Nat.add_assoc sp.off] at hrun;exact⟨p,_,_,hrun,.slice hsp hroom hm,hr.stores hnv e8 hK Dw hsp,Xb.le_refl _,fun _ _=>rfl⟩
       ·cases e7
      ·rename_i hroom;obtain⟨rr,h3,c3,l5,l6,e6,e7⟩:=Qr e5;obtain⟨e8,rfl,rfl⟩:=Tq e6;split at e7
       ·rename_i hc;obtain⟨hlen,hb,h63⟩:=hc;obtain⟨q,h5,c5,l9,l10,e11,e12⟩:=Qr e7;obtain⟨rfl,rfl,rfl⟩:=Uo e11;obtain⟨rfl,rfl,rfl⟩:=Qn e12;have hp:=hf q (Nat.le_refl _) Dw;obtain⟨vs,g1,g2,g3⟩:=Bg hr e8 hsp o (n*i.size) hlen;obtain⟨w',v',s2,k1,k2,k3⟩:=Qbk (ty:=ty) hr hp hu hi (some ⟨sp.blk,sp.off+o,none⟩) n cp y.1 _ vs y.2 news' x' (Qaf g1 g2) hsrc Dw h63 hb g2 g3 hnv;exact⟨_,w',v',k1,k2,k3,Xb.U4 hp,Yj⟩
       ·cases e7
  ·cases e5
 |_=>cases e
end
end Ev
end
end Go.Proofs.YtcbkeecabcbogaaGreatDoor
