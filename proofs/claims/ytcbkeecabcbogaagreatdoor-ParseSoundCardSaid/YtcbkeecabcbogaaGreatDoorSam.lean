/- Scripts: a tree that a run has made is that tree in the mode -/
import Derived.Test.YtcbkeecabcbogaaGreatDoorSal
set_option linter.unusedSimpArgs false
set_option linter.unusedVariables false
namespace Go.Proofs.YtcbkeecabcbogaaGreatDoor
section
open Go.RowKit
namespace Prs
open Ev
def L8 (N:Va)(pos:List Nat):Prop:=∀ k∈pos,∃ n:Nat,Xi N k=some (.int (if k<256 then .u64 else .i64) (n:Int))
section
variable {b:Nat} {E:Env} {N:Va} {K:Cfg} {O:Nat→Prop} {w0 w:World} {cs:List Xt} {p:Xb} {h:Tree Q4} {pos:List Nat}
theorem Qtd {l:List Nat}{b:Nat}(h:l.any (Nat.beq b)=true):b∈l:=by
 obtain⟨x,hx,he⟩:=List.any_eq_true.1 h;rw[Nat.eq_of_beq_eq_true he];exact hx
theorem nat_tok (hpos:L8 N pos){u:Bool}{k:Nat}(h:isNat pos u (tk k)=true):∃ n:Nat,Xi N k=some (.int (if u then .u64 else .i64) (n:Int)):=by
 unfold isNat tk at h;dsimp only at h;have lst:∀ f v,(k-128) % 8=f→128≤k→k<256→Qk6 N ((k-128) / 8) f=some v→Xi N k=some v:=fun f v hf h1 h2 hv=>by
  unfold Xi;rw[if_neg Dw,if_pos h2,hf,hv]
 have tre:∀ f v,(k-256) % 4=f→256≤k→k<320→J6 N ((k-256) / 4) f=some v→Xi N k=some v:=fun f v hf h1 h2 hv=>by
  unfold Xi;rw[if_neg Dw,if_neg Dw,if_pos h2,hf,hv]
 split at h
 ·cases h
 ·split at h
  ·rename_i h1 h2;cases u with
   |false=>
    simp only[Bool.not_false,Bool.true_and,Bool.false_and,Bool.or_false,Bool.or_eq_true] at h;rcases h with h|h
    ·exact⟨_,lst 0 _ (Nat.eq_of_beq_eq_true h) Dw h2 rfl⟩
    ·exact⟨_,lst 4 _ (Nat.eq_of_beq_eq_true h) Dw h2 rfl⟩
   |true=>
    simp only[Bool.not_true,Bool.false_and,Bool.true_and,Bool.false_or,Bool.and_eq_true] at h;obtain⟨n,hn⟩:=hpos k (Qtd h.1);rw[if_pos h2] at hn;exact⟨n,hn⟩
  ·split at h
   ·rename_i h1 h2 h3;cases u with
    |true=>
     simp only[if_true] at h;exact⟨_,tre 2 _ (Nat.eq_of_beq_eq_true h) Dw h3 rfl⟩
    |false=>
     simp only[Bool.false_eq_true,if_false,Bool.or_eq_true] at h;rcases h with h|h
     ·exact⟨_,tre 0 _ (Nat.eq_of_beq_eq_true h) Dw h3 rfl⟩
     ·exact⟨_,tre 3 _ (Nat.eq_of_beq_eq_true h) Dw h3 rfl⟩
   ·split at h
    ·rename_i h1 h2 h3 h4;cases u with
     |true=>cases h
     |false=>
      simp only[Bool.not_false,Bool.true_and] at h;obtain⟨n,hn⟩:=hpos k (Qtd h);rw[if_neg h2] at hn;exact⟨n,hn⟩
    ·cases h
theorem Uy (hpos:L8 N pos)(hax:AxN b N p){u:Bool}{v v':Value}(h:isNat pos u v=true)(hv:VR p v v'):v'=.int (if u then .u64 else .i64) (Wp N v:Int):=by
 have h0:=h;unfold isNat at h;split at h
 ·rename_i i;simp only[Bool.and_eq_true,Bool.not_eq_true',decide_eq_true_eq] at h;cases hv;rw[h.1];show Value.int .i64 i=.int .i64 ((i.toNat:Nat):Int)
  rw[Int.toNat_of_nonneg h.2]
 ·rename_i i;simp only[Bool.and_eq_true,decide_eq_true_eq] at h;cases hv;rw[h.1];show Value.int .u64 i=.int .u64 ((i.toNat:Nat):Int)
  rw[Int.toNat_of_nonneg h.2]
 ·rename_i k;obtain⟨n,hn⟩:=nat_tok hpos h0;have hk:Wp N (.chan (some k))=n:=by
   show (match Xi N k with
    |some (.int _ i)=>i.toNat
    |_=>0)=n
   rw[hn];rfl
  rw[hax.val hn hv,hk]
 ·cases h
theorem Qcn (hax:AxN b N p){v v':Value}(h:Qn1 v=true)(hv:VR p v v'):v'=.string ⟨(strOf N v).toArray⟩:=by
 unfold Qn1 at h;split at h
 ·cases hv;rfl
 ·rename_i k;have key:∀ x:List UInt8,Xi N k=some (.string ⟨x.toArray⟩)→v'=.string ⟨(strOf N (.chan (some k))).toArray⟩:=fun x hx=>by
   have hk:strOf N (.chan (some k))=x:=by
    show (match Xi N k with
     |some (.string s)=>s.data.toList
     |_=>[])=x
    rw[hx]
   rw[hax.val hx hv,hk]
  split at h
  ·cases h
  ·split at h
   ·rename_i h1 h2;refine key (Tz (N.L ((k-128) / 8))).text ?_;unfold Xi;rw[if_neg h1,if_pos h2,Nat.eq_of_beq_eq_true h];rfl
   ·split at h
    ·rename_i h1 h2 h3;refine key (N.T ((k-256) / 4)).text ?_;unfold Xi;rw[if_neg h1,if_neg h2,if_pos h3,Nat.eq_of_beq_eq_true h];rfl
    ·cases h
 ·cases h
theorem cells5 {vs:List Value}{k x n a lv:Value}(hv:VRs p [k,x,n,a,lv] vs):∃ k' x' n' a' lv',vs=[k',x',n',a',lv']∧VR p k k'∧VR p x x'∧VR p n n'∧VR p a a'∧VR p lv lv':=by
 cases hv with
 |cons h1 hv=>
 cases hv with
 |cons h2 hv=>
 cases hv with
 |cons h3 hv=>
 cases hv with
 |cons h4 hv=>
 cases hv with
 |cons h5 hv=>
 cases hv;exact⟨_,_,_,_,_,rfl,h1,h2,h3,h4,h5⟩
theorem Pq (N:Va):∀ l:List Sp,(dens N l).length=l.length
 | []=>rfl
 |_::l=>by unfold dens;simp[Pq N l]
theorem rows_S (C:Ctx b E N K O w0 cs)(hr:Rel K O w0 p h w)(hS:∀ k,O k→k≠b→N.S k)(h64:∃ c t z,h.get 64=some (.row c t z)):∀ n c t z s,h.get n=some (.row c t z)→70≤n→p n=some s→N.S s.blk:=by
 intro n c t z s hn hlt hs;obtain⟨s1,q1,q2,-⟩:=hr.at_ _ _ hn;obtain rfl:s1=s:=Option.some.inj (q1.symm.trans hs);rcases q2 (by rw[C.n];omega) s1.blk rfl with hO|hO
 ·refine hS _ hO fun hkb=>?_
  obtain⟨s0,a1,a2,-⟩:=(C.axp hr).rd;obtain⟨c64,t64,z64,hb64⟩:=h64
  have:=hr.one _ _ _ _ _ _ s1.blk hn hb64 q1 a1 rfl (by show s1.blk=s0.blk;rw[hkb,a2]);omega
 ·exact C.s _ hO
mutual
theorem Qna (C:Ctx b E N K O w0 cs)(hr:Rel K O w0 p h w)(hpos:L8 N pos){S:Nat→Prop}(hS:∀ n c t z s,h.get n=some (.row c t z)→70≤n→p n=some s→S s.blk)(hA:∀ n m s,h.get n=some (.abs m)→(m % 8=1∨m % 8=2)→p n=some s→∀ k,s.foot k≠none→S k):∀ (f:Nat) {cells vs:List Value} {sp:Sp},Qp1 pos f h cells sp=true→VRs p cells vs→X3 S w (den N sp) vs
 |0,_,_,_,e,_=>by unfold Qp1 at e;cases e
 |f+1,cells,vs,sp,e,hv=>by
  have hax:=C.axp hr;unfold Qp1 at e;split at e
  ·rename_i k' x' n' a' lv;obtain⟨k2,x2,n2,a2,lv2,rfl,v1,v2,v3,v4,v5⟩:=cells5 hv;cases sp with
   |nd k x n a kids=>
    simp only[Bool.and_eq_true] at e;obtain⟨⟨e1,e2,e3,e4⟩,⟨e5,e6,e7,e8⟩,e9⟩:=e;obtain rfl:=Vr e1;obtain rfl:=Vr e2;obtain rfl:=Vr e3;obtain rfl:=Vr e4;have g1:=Uy hpos hax e5 v1;have g2:=Qcn hax e6 v2;have g3:=Uy hpos hax e7 v3;have g4:=Uy hpos hax e8 v4;simp only[Bool.false_eq_true,if_false,if_true] at g1 g3 g4;subst g1 g2 g3 g4;unfold den X3;cases kids with
    |nil=>
     dsimp only at e9;split at e9
     ·cases v5;exact⟨_,_,rfl,.inl rfl⟩
     ·cases e9
    |cons s ks=>
     dsimp only at e9;split at e9
     ·rename_i bn len cp;rw[Bool.and_eq_true] at e9;obtain⟨e10,e11⟩:=e9;split at e11
      ·rename_i cells2 t sz hb;rw[Bool.and_eq_true] at e11;obtain⟨e11,e12⟩:=e11;obtain rfl:=Nat.eq_of_beq_eq_true e10;obtain⟨s1,q1,q2,q3,q4⟩:=hr.at_ _ _ hb;have hsl:∃ c,lv2=.slice (some ⟨s1.blk,s1.off,none⟩) (s::ks).length c:=by
        cases v5 with
        |slice hs _ _=>rw[q1] at hs;cases hs;exact⟨_,rfl⟩
        |sliceU hs _ _ _=>rw[q1] at hs;cases hs;exact⟨_,rfl⟩
       obtain⟨c,rfl⟩:=hsl;have hSb:S s1.blk:=hS _ _ _ _ _ hb (Nat.le_of_ble_eq_true e11) q1;refine⟨_,c,by rw[Pq],.inr ⟨s1.blk,s1.off,rfl,hSb,?_⟩⟩;exact Qhp C hr hpos hS hA f e12 s1.blk s1.off fun i v hvi=>by
        obtain⟨v',u1,u2,-⟩:=Nh.cell q4 hvi;exact⟨v',u1,u2⟩
      ·cases e11
     ·cases e9
   |ab k x n a m=>
    simp only[Bool.and_eq_true] at e;obtain⟨⟨e1,e2,e3,e4⟩,⟨e5,e6,e7,e8⟩,e9⟩:=e;obtain rfl:=Vr e1;obtain rfl:=Vr e2;obtain rfl:=Vr e3;obtain rfl:=Vr e4;have g1:=Uy hpos hax e5 v1;have g2:=Qcn hax e6 v2;have g3:=Uy hpos hax e7 v3;have g4:=Uy hpos hax e8 v4;simp only[Bool.false_eq_true,if_false,if_true] at g1 g3 g4;subst g1 g2 g3 g4;unfold den X3;split at e9
    ·rename_i ci;split at e9
     ·rename_i m' hci;rw[Bool.and_eq_true] at e9;obtain rfl:=Nat.eq_of_beq_eq_true e9.1;cases v5 with
      |@tok _ s1 hs1 _=>
      have hmean:=hr.mean _ _ _ hci hs1;rw[C.mean] at hmean;have hlist:Qps N.S s1 (listOf N m):=by
       unfold Jj at hmean;unfold listOf;rw[Bool.or_eq_true] at e9;rcases e9.2 with h4|h4
       ·have h4:=Nat.eq_of_beq_eq_true h4;rw[h4] at hmean;rw[if_pos h4];exact hmean
       ·have h4:=Nat.eq_of_beq_eq_true h4;rw[h4] at hmean;rw[if_neg Dw];exact hmean.toS
      obtain⟨ad,c,hval,-,hl⟩:=hlist;have hf1:=hA _ _ _ hci (by rw[Bool.or_eq_true] at e9;exact e9.2.imp Nat.eq_of_beq_eq_true Nat.eq_of_beq_eq_true) hs1;rw[hval];refine⟨ad,c,rfl,hl.imp id ?_⟩;rintro⟨g,o,rfl,hg,hW⟩;obtain⟨s2,q1,-,-,q4⟩:=hr.at_ _ _ hci;obtain rfl:s2=s1:=Option.some.inj (q1.symm.trans hs1);exact⟨g,o,rfl,hf1 g hg,(hW w q4).frame (fun k hk _=>hf1 k hk) (fun _ _ _=>rfl) hg⟩
     ·cases e9
    ·cases e9
  ·cases e
theorem Qhp (C:Ctx b E N K O w0 cs)(hr:Rel K O w0 p h w)(hpos:L8 N pos){S:Nat→Prop}(hS:∀ n c t z s,h.get n=some (.row c t z)→70≤n→p n=some s→S s.blk)(hA:∀ n m s,h.get n=some (.abs m)→(m % 8=1∨m % 8=2)→p n=some s→∀ k,s.foot k≠none→S k):∀ (f:Nat) {cells:List Value} {kids:List Sp},chkL pos f h cells kids=true→∀ (g o:Nat),(∀ i v,cells[i]? = some v→∃ v',w.cell? ⟨g,o+i,none⟩=some v'∧VR p v v')→Xp S w g (dens N kids) o
 |0,_,_,e,_,_,_=>by unfold chkL at e;cases e
 |f+1,cells,kids,e,g,o,hc=>by
  unfold chkL at e;cases kids with
  |nil=>unfold dens Xp;trivial
  |cons s ks=>
   dsimp only at e;rw[Bool.and_eq_true] at e;unfold dens Xp;have hlen:∃ k x n a lv,cells.take 5=[k,x,n,a,lv]:=by
    have:=e.1;cases f with
    |zero=>unfold Qp1 at this;cases this
    |succ f=>
     unfold Qp1 at this;split at this
     ·rename_i hh;exact⟨_,_,_,_,_,hh⟩
     ·cases this
   obtain⟨k,x,n,a,lv,h5⟩:=hlen;have at5:∀ i v,[k,x,n,a,lv][i]? = some v→cells[i]? = some v:=fun i v hi=>by
    rw[←h5,List.getElem?_take] at hi;split at hi
    ·exact hi
    ·cases hi
   obtain⟨k',c0,r0⟩:=hc 0 k (at5 0 k rfl);obtain⟨x',c1,r1⟩:=hc 1 x (at5 1 x rfl);obtain⟨n',c2,r2⟩:=hc 2 n (at5 2 n rfl);obtain⟨a',c3,r3⟩:=hc 3 a (at5 3 a rfl);obtain⟨lv',c4,r4⟩:=hc 4 lv (at5 4 lv rfl);refine⟨⟨k',x',n',a',lv',c0,c1,c2,c3,c4,Qna C hr hpos hS hA f (h5 ▸ e.1) (.cons r0 (.cons r1 (.cons r2 (.cons r3 (.cons r4 .nil)))))⟩,?_⟩;refine Qhp C hr hpos hS hA f e.2 g (o+5) fun i v hi=>?_
   rw[List.getElem?_drop] at hi;obtain⟨v',u1,u2⟩:=hc _ _ hi;exact⟨v',by rw[Nat.add_assoc];exact u1,u2⟩
end
theorem abs_S (C:Ctx b E N K O w0 cs)(hr:Rel K O w0 p h w):∀ n m s,h.get n=some (.abs m)→(m % 8=1∨m % 8=2)→p n=some s→∀ k,s.foot k≠none→N.S k:=fun n m s hn hm hs=>by
 have hmean:=hr.mean _ _ _ hn hs;rw[C.mean] at hmean;unfold Jj at hmean;rcases hm with h4|h4
 ·rw[h4] at hmean;obtain⟨_,_,-,h,-⟩:=hmean;exact h
 ·rw[h4] at hmean;obtain⟨_,_,-,h,-⟩:=hmean.toS;exact h
theorem Qlo (C:Ctx b E N K O w0 cs)(hr:Rel K O w0 p h w)(hpos:L8 N pos)(hS:∀ n c t z s,h.get n=some (.row c t z)→70≤n→p n=some s→N.S s.blk)(f:Nat){cells vs:List Value}{sp:Sp}(e:Qp1 pos f h cells sp=true)(hv:VRs p cells vs):X3 N.S w (den N sp) vs:=Qna C hr hpos hS (abs_S C hr) f e hv
end
end Prs
end
section
open Go.RowKit
namespace Prs
open Ev
theorem G8:∃ i:TI,TIOK Tryz.prog 26 i∧i.size=5∧i.bytes≤100:=by
 have h:(match Qny Tryz.prog 26 with
  |some i=>Nat.beq i.size 5&&Nat.ble i.bytes 100
  |none=>false)=true:=by kernel_rfl
 cases hi:Qny Tryz.prog 26 with
 |none=>rw[hi] at h;cases h
 |some i=>
  rw[hi] at h;simp only[Bool.and_eq_true] at h;exact⟨i,Fh hi,Nat.eq_of_beq_eq_true h.1,Nat.le_of_ble_eq_true h.2⟩
theorem Ul:(Tryz.prog).underlying 24=some (.slice 26):=by kernel_rfl
theorem Ql0 (w:World)(a:Option Addr)(n c rb ro rc:Nat)(news:List Value)(ty:TypeId)(hnc:n≤c)(hcm:c≤maxLen)(hbig:n≤4294967296)
  (hl:(a=none∧n=0∧c=0)∨∃ g o bs,a=some ⟨g,o,none⟩∧w.heap[g]? = some (.cells bs 26 (0,0))∧o+c*5≤bs.size)
  (h5:news.length=5) (hn:∀ j u,news[j]? = some u→w.cell? ⟨rb,ro+j,none⟩=some u) (h1:∀ u∈news,u.oneCell'=true):
  ∃ (w':World) (g' o' c':Nat) (bs':Array Value),(Builtin.append_ #[24,24] ty #[.slice a n c,.slice (some ⟨rb,ro,none⟩) 1 rc]).run Tryz.prog w=.ok (.slice (some ⟨g',o',none⟩) (n+1) c') w'∧n+1≤c'∧c'≤maxLen∧
   w'.os=w.os∧w'.tape=w.tape∧w'.output=w.output∧w.heap.size≤w'.heap.size∧w'.heap[g']? = some (.cells bs' 26 (0,0))∧o'+c' * 5≤bs'.size∧(∀ k,k<w.heap.size→k≠g'→w'.heap[k]? = w.heap[k]?)∧
   (∀ j u,news[j]? = some u→w'.cell? ⟨g',o'+5*n+j,none⟩=some u)∧((g'=w.heap.size∧w'.heap.size=w.heap.size+1)∨(∃ o,a=some ⟨g',o,none⟩∧w'.heap.size=w.heap.size))∧
   (∀ g o,a=some ⟨g,o,none⟩→∀ i,i<5*n→w'.cell? ⟨g',o'+i,none⟩=w.cell? ⟨g,o+i,none⟩):=by
 obtain⟨i,hi,hi5,hib⟩:=G8;obtain⟨f,hf1,hf2,hf3,hf4⟩:=hi.info;have hsrc:Src Tryz.prog f.size 24 (.slice (some ⟨rb,ro,none⟩) 1 rc) 1 news w:=Src.ofSlice w Ul _ 1 rc news (by rw[h5,hf2,hi5]) (fun j u hj=>by rw[Addr.add_mid];exact hn j u hj) h1;by_cases hroom:n+1≤c
 ·obtain⟨g,o,bs,rfl,hg,hsz⟩:=hl.resolve_left (fun hh=>by omega);have hn5:n*5+5≤c*5:=by omega
  have hin:∀ j,j<news.length→o+n*5+j<bs.size:=fun j hj=>by omega
  have hrun:=run_append_room_src w 24 24 ty 26 f Ul hf1 g o n c (.slice (some ⟨rb,ro,none⟩) 1 rc) 1 news hsrc hroom (fun j hj=>by
   rw[hf2,hi5];unfold World.cell?
   rw[hg]
   have:=hin j hj
   simp[this]) (fun j hj=>by
   unfold World.frozen?
   rw[hg]
   simp)
  rw[hf2,hi5] at hrun;have hbel:∀ k,k<w.heap.size→k≠g→(w.setCells g (o+n*5) news).heap[k]? = w.heap[k]? := fun k h1 h2=>World.heap_setCells_other _ _ _ _ h1 h2
  have hnew:=Gp g 26 (0,0) news (o+n*5) w bs hg;have hput:Yu bs.toList (o+n*5) news=bs.toList.take (o+n*5)++news++bs.toList.drop (o+n*5+news.length):=Aq _ _ _ (by simp;omega);have hB:=Lib.below_setCells g (Nat.le_refl g) news (o+n*5) (Below.refl g w);refine⟨_,g,o,c,_,hrun,hroom,hcm,hB.os,hB.tape,hB.output,hB.size,hnew,?_,hbel,?_,.inr ⟨o,rfl,size_setCells _ _ _ _⟩,?_⟩
  ·simp[Y0];omega
  ·intro j u hj;have hj5:=(List.getElem?_eq_some_iff.1 hj).1;unfold World.cell?
   rw[hnew];have e1:o+5*n+j=(bs.toList.take (o+n*5)).length+j:=by simp;omega
   show (Yu bs.toList (o+n*5) news).toArray[o+5*n+j]? = some u
   rw[hput,List.getElem?_toArray,e1,List.append_assoc,List.getElem?_append_right Dw,Nat.add_sub_cancel_left,List.getElem?_append_left hj5];exact hj
  ·intro g2 o2 e j hj;cases e;unfold World.cell?
   rw[hnew,hg];show (Yu bs.toList (o+n*5) news).toArray[o+j]? = bs[o+j]?
   rw[hput,List.getElem?_toArray,List.append_assoc,List.getElem?_append_left (by simp;omega),List.getElem?_take,if_pos Dw,Array.getElem?_toList]
 ·have hge':c<n+1:=by omega
  obtain⟨olds,hold,hlen,hcells⟩:∃ olds:List Value,(Builtin.firstCells f.size n (.slice a n c)).run Tryz.prog w.drew=.ok olds.toArray w.drew∧olds.length=n*5∧∀ g o,a=some ⟨g,o,none⟩→∀ i,i<5*n→olds[i]? = w.cell? ⟨g,o+i,none⟩:=by
   rcases hl with ⟨rfl,rfl,rfl⟩|⟨g,o,bs,rfl,hg,hsz⟩
   ·exact⟨[],run_firstCells_none w.drew f.size 0 0 0,rfl,fun _ _ e=>by cases e⟩
   ·have hsz2:o+n*5≤bs.size:=by omega
    refine⟨(bs.toList.drop o).take (n*5),?_,by simp;omega,fun g2 o2 e i hi2=>?_⟩
    ·rw[hf2,hi5];refine Qaf (w:=w) (fun j v hj=>?_) (by simp;omega);rw[List.getElem?_take] at hj;split at hj
     ·rw[List.getElem?_drop] at hj;unfold World.cell?
      rw[hg];simpa using hj
     ·cases hj
    ·cases e;rw[List.getElem?_take,if_pos Dw,List.getElem?_drop];unfold World.cell?
     rw[hg];simp
  have h63:((n+1:Nat):Int)≤9223372036854775807:=by omega
  have hb:(n+1)*f.bytes≤140737488355328:=by
   rw[hf3];exact Nat.le_trans (Nat.mul_le_mul (show n+1≤4294967297 by omega) hib) Dd
  have hrun:=run_append_grow_src w 24 24 ty 26 f i.zero Ul hf1 hf4 a n c olds hold (.slice (some ⟨rb,ro,none⟩) 1 rc) 1 news hsrc hge' h63 (growslice_fits hge' hb);have hge:=grownCap_ge w (n+1) c 26;have hle:=grownCap_le_maxLen w (n+1) c 26 (by unfold maxLen;omega);generalize grownCap w (n+1) c 26=C at hrun hge hle;have hzs:=hi.zsize;have hzc:(Builtin.zeroCells i.zero.cells (C-(n+1))).size=(C-(n+1))*5:=by simp[Builtin.zeroCells,hzs,hi5]
  have hB:Below w.heap.size w (w.drew.alloc (.cells ((olds++news).toArray++Builtin.zeroCells i.zero.cells (C-(n+1))) 26)):=((Below.refl _ _).drew).alloc (Nat.le_refl _) _;have hnew:=heap_alloc_new' w.drew (.cells ((olds++news).toArray++Builtin.zeroCells i.zero.cells (C-(n+1))) 26);refine⟨_,w.heap.size,0,C,_,hrun,hge,hle,hB.os,hB.tape,hB.output,hB.size,hnew,?_,fun k h1 _=>hB.block k h1,?_,.inl ⟨rfl,by simp⟩,?_⟩
  ·rw[Array.size_append,hzc];simp[hlen,h5];omega
  ·intro j u hj;have hj5:=(List.getElem?_eq_some_iff.1 hj).1;unfold World.cell?
   rw[show (w.drew.alloc (.cells ((olds++news).toArray++Builtin.zeroCells i.zero.cells (C-(n+1))) 26)).heap[w.heap.size]? = _ from hnew];show ((olds++news).toArray++Builtin.zeroCells i.zero.cells (C-(n+1)))[0+5*n+j]? = some u
   rw[Array.getElem?_append_left (by simp;omega),List.getElem?_toArray,List.getElem?_append_right Dw,show 0+5*n+j-olds.length=j by omega];exact hj
  ·intro g o e j hj;rw[←hcells g o e j hj];unfold World.cell?
   rw[show (w.drew.alloc (.cells ((olds++news).toArray++Builtin.zeroCells i.zero.cells (C-(n+1))) 26)).heap[w.heap.size]? = _ from hnew];show ((olds++news).toArray++Builtin.zeroCells i.zero.cells (C-(n+1)))[0+j]? = olds[j]?
   rw[Array.getElem?_append_left (by simp;omega),List.getElem?_toArray,Nat.zero_add,List.getElem?_append_left Dw]
end Prs
end
section
open Go.RowKit
namespace Prs
open Ev
noncomputable def Qih (c:Nat):M Q4 (Nat×Nat):=M.bind (M.read c) fun o=>match o with
 | .abs m=>M.pure (c,m)
 | .fwd d=>M.bind (M.read d) fun o=>match o with
  | .abs m=>M.pure (d,m)
  |_=>M.fail
 |_=>M.fail
noncomputable def Qkw (pos:List Nat)(cells:List Value)(sp:Sp):M Q4 (Option Nat):=match cells with
 | [k',x',n',a',lv]=>match sp with
  | .ab k x n a mm=>if ((eqV 9 k k'&&(eqV 9 x x'&&(eqV 9 n n'&&eqV 9 a a')))&&(isNat pos false k&&(Qn1 x&&(isNat pos true n&&isNat pos false a))))=true∧(mm % 8=1∨mm % 8=2) then (match lv with
   | .chan (some d)=>M.bind (M.read d) fun o=>(match o with
    | .abs m=>if m=mm∧64≤d then M.pure (some d) else M.fail
    |_=>M.fail)
   |_=>M.fail) else M.fail
  | .nd k x n a []=>if ((eqV 9 k k'&&(eqV 9 x x'&&(eqV 9 n n'&&eqV 9 a a')))&&(isNat pos false k&&(Qn1 x&&(isNat pos true n&&isNat pos false a))))=true then (match lv with
   | .slice none 0 0=>M.pure none
   |_=>M.fail) else M.fail
  |_=>M.fail
 |_=>M.fail
def Qg7:List (Nat×Sp×Nat)→Nat→Option (Sp×Nat)
 | [],_=>none
 |x::l,i=>match Nat.beq x.1 i with
  |true=>some x.2
  |false=>Qg7 l i
theorem Qac:∀ {l:List (Nat×Sp×Nat)} {i:Nat} {y:Sp×Nat},Qg7 l i=some y→(i,y)∈l
 | [],_,_,h=>by cases h
 |x::l,i,y,h=>by
  unfold Qg7 at h;split at h
  ·rename_i hb;obtain⟨a,b⟩:=x;cases h;rw[←Nat.eq_of_beq_eq_true hb];exact List.mem_cons_self ..
  ·exact List.mem_cons_of_mem _ (Qac h)
noncomputable def delO (d:Option Nat):M Q4 Unit:=match d with
 |some d=>M.write d none
 |none=>M.pure ()
noncomputable def appM (pos:List Nat)(app:List (Nat×Sp×Nat))(c r:Nat):M Q4 Value:=M.bind (Qih c) fun cm=>if cm.2 % 8=2∧64≤cm.1 then (match Qg7 app (cm.2 / 8) with
 |some y=>M.bind (Ap r) fun row=>if row.2.2=5∧(row.1.take 5).all (·.oneCell')=true then M.bind (Qkw pos (row.1.take 5) y.1) fun d=>M.bind (M.write cm.1 none) fun _=>M.bind (delO d) fun _=>M.bind (M.new (.abs (8*y.2+2))) fun e=>M.pure (tk e) else M.fail
 |none=>M.fail) else M.fail
noncomputable def lenM (c:Nat):M Q4 Value:=M.bind (Qih c) fun cm=>if cm.2 % 8=2 then M.bind (M.new (.abs (cm.2+1))) fun d=>M.pure (tk d) else M.fail
noncomputable def idxM (app:List (Nat×Sp×Nat))(c d:Nat):M Q4 Value:=M.bind (Qih c) fun cm=>M.bind (M.read d) fun o=>match o with
 | .abs md=>if cm.2 % 8=2∧md % 8=3 then (match Qg7 app (md / 8) with
  |some y=>if y.2=cm.2 / 8 then M.bind (M.new (.abs (8*cm.1+4))) fun e=>M.pure (tk e) else M.fail
  |none=>M.fail) else M.fail
 |_=>M.fail
noncomputable def stoM (pos:List Nat)(put:List (Nat×Sp×Nat))(e:Nat)(cells:List Value):M Q4 Value:=M.bind (M.read e) fun o=>match o with
 | .abs me=>if me % 8=4 then M.bind (M.read (me / 8)) fun o=>(match o with
  | .abs m=>if m % 8=2∧64≤me / 8∧cells.all (·.oneCell')=true then (match Qg7 put (m / 8) with
   |some y=>M.bind (Qkw pos cells y.1) fun d=>M.bind (delO d) fun _=>M.bind (M.new (.abs (8*y.2+2))) fun c3=>M.bind (M.write (me / 8) (some (.fwd c3))) fun _=>M.pure undef
   |none=>M.fail) else M.fail
  |_=>M.fail) else M.fail
 |_=>M.fail
theorem F7 (c:Nat):M.Local (Qih c):=by
 unfold Qih;refine M.Qh (M.Vd _) fun o=>?_
 split
 ·exact M.Qi _
 ·refine M.Qh (M.Vd _) fun o=>?_
  split
  ·exact M.Qi _
  ·exact M.Qe
 ·exact M.Qe
theorem Eu (pos:List Nat)(cells:List Value)(sp:Sp):M.Local (Qkw pos cells sp):=by
 unfold Qkw;split
 ·split
  ·split
   ·split
    ·refine M.Qh (M.Vd _) fun o=>?_
     split
     ·split
      ·exact M.Qi _
      ·exact M.Qe
     ·exact M.Qe
    ·exact M.Qe
   ·exact M.Qe
  ·split
   ·split
    ·exact M.Qi _
    ·exact M.Qe
   ·exact M.Qe
  ·exact M.Qe
 ·exact M.Qe
theorem Qbi (d:Option Nat):M.Local (delO d):=by
 unfold delO;split
 ·exact M.Vb _ _
 ·exact M.Qi _
theorem Qoz (pos:List Nat)(app:List (Nat×Sp×Nat))(c r:Nat):M.Local (appM pos app c r):=by
 unfold appM;refine M.Qh (F7 _) fun cm=>?_
 split
 ·split
  ·refine M.Qh (Us _) fun row=>?_
   split
   ·exact M.Qh (Eu _ _ _) fun _=>M.Qh (M.Vb _ _) fun _=>M.Qh (Qbi _) fun _=>M.Qh (M.Vj _) fun _=>M.Qi _
   ·exact M.Qe
  ·exact M.Qe
 ·exact M.Qe
theorem Qou (c:Nat):M.Local (lenM c):=by
 unfold lenM;refine M.Qh (F7 _) fun cm=>?_
 split
 ·exact M.Qh (M.Vj _) fun _=>M.Qi _
 ·exact M.Qe
theorem Qov (app:List (Nat×Sp×Nat))(c d:Nat):M.Local (idxM app c d):=by
 unfold idxM;refine M.Qh (F7 _) fun cm=>M.Qh (M.Vd _) fun o=>?_
 split
 ·split
  ·split
   ·split
    ·exact M.Qh (M.Vj _) fun _=>M.Qi _
    ·exact M.Qe
   ·exact M.Qe
  ·exact M.Qe
 ·exact M.Qe
theorem Qoq (pos:List Nat)(put:List (Nat×Sp×Nat))(e:Nat)(cells:List Value):M.Local (stoM pos put e cells):=by
 unfold stoM;refine M.Qh (M.Vd _) fun o=>?_
 split
 ·split
  ·refine M.Qh (M.Vd _) fun o=>?_
   split
   ·split
    ·split
     ·exact M.Qh (Eu _ _ _) fun _=>M.Qh (Qbi _) fun _=>M.Qh (M.Vj _) fun _=>M.Qh (M.Vb _ _) fun _=>M.Qi _
     ·exact M.Qe
    ·exact M.Qe
   ·exact M.Qe
  ·exact M.Qe
 ·exact M.Qe
section
variable {b:Nat} {E:Env} {N:Va} {K:Cfg} {O:Nat→Prop} {w0 w:World} {cs:List Xt} {p:Xb} {h:Tree Q4} {pos:List Nat}
theorem Qcp {c:Nat}{y:Nat×Nat}{c0:Nat}{h':Tree Q4}{c':Nat}{l:Log}(e:Qih c h c0=.ok y h' c' l):h'=h∧c'=c0∧h.get y.1=some (.abs y.2)∧∀ v,Rel K O w0 p h w→VR p (tk c) v→VR p (tk y.1) v:=by
 unfold Qih at e;obtain⟨o,h1,c1,l1,l2,e1,e2⟩:=Qr e;obtain⟨hc,rfl,rfl⟩:=U9 e1;split at e2
 ·obtain⟨rfl,rfl,rfl⟩:=Qn e2;exact⟨rfl,rfl,hc,fun v _ hv=>hv⟩
 ·rename_i d;obtain⟨o,h2,c2,l3,l4,e3,e4⟩:=Qr e2;obtain⟨hd,rfl,rfl⟩:=U9 e3;split at e4
  ·obtain⟨rfl,rfl,rfl⟩:=Qn e4;refine⟨rfl,rfl,hd,fun v hr hv=>?_⟩;cases hv with
   |@tok _ s hs h1=>
    obtain⟨s2,k1,-,-,k4⟩:=hr.at_ _ _ hc;obtain rfl:s2=s:=Option.some.inj (k1.symm.trans hs);obtain⟨s',q1,q2⟩:∃ s',p d=some s'∧s2.val=s'.val:=k4;rw[q2] at h1 ⊢;exact VR.tok q1 h1
  ·cases e4
 ·cases e2
theorem Ctx.listS (C:Ctx b E N K O w0 cs)(hr:Rel K O w0 p h w){d m:Nat}{s:V9}(hd:h.get d=some (.abs m))(hs:p d=some s)(hm:m % 8=1∨m % 8=2):Qps N.S s (listOf N m):=by
 have hmean:=hr.mean _ _ _ hd hs;rw[C.mean] at hmean;unfold Jj at hmean;unfold listOf;rcases hm with h4|h4
 ·rw[h4] at hmean;rw[if_pos h4];exact hmean
 ·rw[h4] at hmean;rw[if_neg Dw];exact hmean.toS
theorem Ctx.foot (hr:Rel K O w0 p h w){d m:Nat}{s:V9}(hd:h.get d=some (.abs m))(hs:p d=some s):∀ k o,s.foot k=some o→w.heap[k]? = some o:=by
 obtain⟨s2,k1,-,-,k4⟩:=hr.at_ _ _ hd;obtain rfl:s2=s:=Option.some.inj (k1.symm.trans hs);exact k4
def L9 (p:Xb)(h:Tree Q4)(d:Option Nat)(F:Nat→Option Obj):Prop:=match d with
 |some dn=>64≤dn∧∃ m s,h.get dn=some (.abs m)∧p dn=some s∧s.foot=F
 |none=>F=noF
theorem Qg0 (C:Ctx b E N K O w0 cs)(hr:Rel K O w0 p h w)(hpos:L8 N pos){cells vs:List Value}{sp:Sp}{d:Option Nat}{c:Nat}{h':Tree Q4}{c':Nat}{l:Log}(e:Qkw pos cells sp h c=.ok d h' c' l)(hv:VRs p cells vs):
  h'=h∧c'=c∧∃ F,L9 p h d F∧X3 (fun k=>F k≠none) w (den N sp) vs∧(∀ k,F k≠none→N.S k)∧vs.length=5:=by
 have hax:=C.axp hr;unfold Qkw at e;split at e
 ·rename_i k' x' n' a' lv;obtain⟨k2,x2,n2,a2,lv2,rfl,v1,v2,v3,v4,v5⟩:=cells5 hv;split at e
  ·rename_i k x n a mm;split at e
   ·rename_i hc;obtain⟨hc,hmm⟩:=hc;simp only[Bool.and_eq_true] at hc;obtain⟨⟨e1,e2,e3,e4⟩,⟨e5,e6,e7,e8⟩⟩:=hc;obtain rfl:=Vr e1;obtain rfl:=Vr e2;obtain rfl:=Vr e3;obtain rfl:=Vr e4;have g1:=Uy hpos hax e5 v1;have g2:=Qcn hax e6 v2;have g3:=Uy hpos hax e7 v3;have g4:=Uy hpos hax e8 v4;simp only[Bool.false_eq_true,if_false,if_true] at g1 g3 g4;subst g1 g2 g3 g4;split at e
    ·rename_i dn;obtain⟨o,h1,c1,l1,l2,f1,f2⟩:=Qr e;obtain⟨hd,rfl,rfl⟩:=U9 f1;split at f2
     ·rename_i m;split at f2
      ·rename_i hq;obtain⟨rfl,h64⟩:=hq;obtain⟨rfl,rfl,rfl⟩:=Qn f2;cases v5 with
       |@tok _ s1 hs1 _=>
       obtain⟨ad,cp,hval,hfS,hl⟩:=C.listS hr hd hs1 hmm;refine⟨rfl,rfl,s1.foot,⟨h64,m,s1,hd,hs1,rfl⟩,?_,hfS,rfl⟩;unfold den X3;rw[hval];refine⟨ad,cp,rfl,hl.imp id ?_⟩;rintro⟨g,o,rfl,hg,hW⟩;exact⟨g,o,rfl,hg,hW w (Ctx.foot hr hd hs1)⟩
      ·cases f2
     ·cases f2
    ·cases e
   ·cases e
  ·rename_i k x n a;split at e
   ·rename_i hc;simp only[Bool.and_eq_true] at hc;obtain⟨⟨e1,e2,e3,e4⟩,⟨e5,e6,e7,e8⟩⟩:=hc;obtain rfl:=Vr e1;obtain rfl:=Vr e2;obtain rfl:=Vr e3;obtain rfl:=Vr e4;have g1:=Uy hpos hax e5 v1;have g2:=Qcn hax e6 v2;have g3:=Uy hpos hax e7 v3;have g4:=Uy hpos hax e8 v4;simp only[Bool.false_eq_true,if_false,if_true] at g1 g3 g4;subst g1 g2 g3 g4;split at e
    ·obtain⟨rfl,rfl,rfl⟩:=Qn e;cases v5;refine⟨rfl,rfl,noF,rfl,?_,fun k hk=>absurd rfl hk,rfl⟩;unfold den X3;exact⟨_,_,rfl,.inl rfl⟩
    ·cases e
   ·cases e
  ·cases e
 ·cases e
end
end Prs
end
section
open Go.RowKit
namespace Prs
open Ev
def Nb (w':World)(g':Nat)(F1 F2:Nat→Option Obj):Nat→Option Obj:=fun k=>if k=g'∨(F1 k).isSome=true∨(F2 k).isSome=true then w'.heap[k]? else none
theorem Qq8 {α:Type}{o:Option α}(h:o≠none):o.isSome=true:=by cases o with|none=>exact absurd rfl h|some=>rfl
theorem Pi {w':World}{g':Nat}{F1 F2:Nat→Option Obj}{k:Nat}(h:Nb w' g' F1 F2 k≠none):(k=g'∨F1 k≠none∨F2 k≠none)∧k<w'.heap.size:=by
 unfold Nb at h;by_cases hc:k=g'∨(F1 k).isSome=true∨(F2 k).isSome=true
 ·rw[if_pos hc] at h;refine⟨hc.imp id (Or.imp (fun e=>by cases hf:F1 k <;> simp_all) (fun e=>by cases hf:F2 k <;> simp_all)),?_⟩;rcases Nat.lt_or_ge k w'.heap.size with h1|h1
  ·exact h1
  ·exact absurd (Array.getElem?_eq_none h1) h
 ·rw[if_neg hc] at h;exact absurd rfl h
theorem Dq {w':World}{g':Nat}{F1 F2:Nat→Option Obj}{k:Nat}(h:k=g'∨F1 k≠none∨F2 k≠none):Nb w' g' F1 F2 k=w'.heap[k]? := by
 unfold Nb;rw[if_pos (h.imp id (Or.imp Qq8 Qq8))]
noncomputable def Qpk (h:Tree Q4):Option Nat→Tree Q4
 |some d=>h.set d none
 |none=>h
section
variable {b:Nat} {E:Env} {N:Va} {K:Cfg} {O:Nat→Prop} {w0 w:World} {cs:List Xt} {p:Xb} {h:Tree Q4} {pos:List Nat}
theorem Qrq (C:Ctx b E N K O w0 cs)(hr:Rel K O w0 p h w){c2 m2:Nat}{s2:V9}(h2:h.get c2=some (.abs m2))(hs2:p c2=some s2)(h64:64≤c2){d:Option Nat}{F:Nat→Option Obj}(hd:L9 p h d F)(hne:d≠some c2){w':World}
  (k1:w'.os=w.os) (k2:w'.tape=w.tape) (k3:w'.output=w.output) (k4:w.heap.size≤w'.heap.size) {g':Nat} (hg:s2.foot g'≠none∨g'=w.heap.size) (hk:∀ k,k<w.heap.size→k≠g'→w'.heap[k]? = w.heap[k]?) {e0:Nat} (hp:p e0=none) {v:Value} {m:Nat}
  (hm:Jj b E N (p.add e0 ⟨0,0,0,0,v,Nb w' g' s2.foot F⟩) m ⟨0,0,0,0,v,Nb w' g' s2.foot F⟩):Rel K O w0 (p.add e0 ⟨0,0,0,0,v,Nb w' g' s2.foot F⟩) ((Qpk (h.set c2 none) d).set e0 (some (.abs m))) w':=by
 have R1:Rel K O w0 p (Qpk (h.set c2 none) d) w:=by
  unfold Qpk;cases d with
  |none=>exact hr.del c2
  |some dn=>exact(hr.del c2).del dn
 have sub:∀ x o,(Qpk (h.set c2 none) d).get x=some o→h.get x=some o∧x≠c2∧d≠some x:=fun x o hx=>by
  unfold Qpk at hx;cases d with
  |none=>
   dsimp only at hx;rw[Tree.Qu] at hx;by_cases e:x=c2
   ·rw[if_pos e] at hx;cases hx
   ·rw[if_neg e] at hx;exact⟨hx,e,by simp⟩
  |some dn=>
   dsimp only at hx;rw[Tree.Qu] at hx;by_cases e:x=dn
   ·rw[if_pos e] at hx;cases hx
   ·rw[if_neg e,Tree.Qu] at hx;by_cases e2:x=c2
    ·rw[if_pos e2] at hx;cases hx
    ·rw[if_neg e2] at hx;exact⟨hx,e2,fun hh=>e (Option.some.inj hh).symm⟩
 -- what the list's blocks and the node's are
 have own2:∀ k,s2.foot k≠none→(O k∨w0.heap.size≤k)∧k<w.heap.size∧∀ x o s,(Qpk (h.set c2 none) d).get x=some o→p x=some s→¬ Occ o s k:=fun k hf=>by
  obtain⟨s,q1,q2,q3,-⟩:=hr.at_ _ _ h2;obtain rfl:s=s2:=Option.some.inj (q1.symm.trans hs2);refine⟨q2 (by rw[C.n];exact h64) k hf,q3 k hf,fun x o s' hx hs hO=>?_⟩;obtain⟨a1,a2,-⟩:=sub x o hx;exact a2 (hr.one _ _ _ _ _ _ k a1 h2 hs hs2 hO hf)
 have ownF:∀ k,F k≠none→(O k∨w0.heap.size≤k)∧k<w.heap.size∧∀ x o s,(Qpk (h.set c2 none) d).get x=some o→p x=some s→¬ Occ o s k:=fun k hf=>by
  unfold L9 at hd;cases d with
  |none=>dsimp only at hd;rw[hd] at hf;exact absurd rfl hf
  |some dn=>
   obtain⟨hd64,md,sd,b1,b2,rfl⟩:=hd;obtain⟨s,q1,q2,q3,-⟩:=hr.at_ _ _ b1;obtain rfl:s=sd:=Option.some.inj (q1.symm.trans b2);refine⟨q2 (by rw[C.n];exact hd64) k hf,q3 k hf,fun x o s' hx hs hO=>?_⟩;obtain⟨a1,-,a3⟩:=sub x o hx;exact a3 (by rw[hr.one _ _ _ _ _ _ k a1 b1 hs b2 hO hf])
 have R2:=R1.elsewhere k1 k2 k3 k4 fun k hk1 hk2=>hk k hk1 fun e=>by
  subst e;rcases hg with hg|hg
  ·obtain⟨a1,a2,a3⟩:=own2 k hg;rcases hk2 with hk2|⟨x,o,s,e1,e2,e3⟩
   ·exact hk2 a1
   ·exact a3 x o s e1 e2 e3
  ·omega
 refine R2.take (o:=.abs m) hp (fun k hO x o s hx hs=>?_) (fun _ k hO=>?_) (fun k hO=>(Pi hO).2) (fun k o hko=>?_) (fun m' e=>?_)
 ·rcases (Pi hO).1 with rfl|hf|hf
  ·rcases hg with hg|rfl
   ·exact(own2 _ hg).2.2 x o s hx hs
   ·exact fun hO2=>by
     obtain⟨s',q1,-,q3,-⟩:=R1.at_ x o hx;obtain rfl:s'=s:=Option.some.inj (q1.symm.trans hs);exact absurd (q3 _ hO2) (Nat.lt_irrefl _)
  ·exact(own2 k hf).2.2 x o s hx hs
  ·exact(ownF k hf).2.2 x o s hx hs
 ·rcases (Pi hO).1 with rfl|hf|hf
  ·rcases hg with hg|rfl
   ·exact(own2 _ hg).1
   ·exact .inr hr.below.size
  ·exact(own2 k hf).1
  ·exact(ownF k hf).1
 ·have hne:Nb w' g' s2.foot F k≠none:=by rw[show Nb w' g' s2.foot F k=some o from hko];simp
  have:=Dq (w':=w') (Pi hne).1;rw[←this];exact hko
 ·cases e;rw[C.mean];exact hm
theorem grown {w w' W:World}{s2:V9}{F:Nat→Option Obj}{g' o':Nat}{ts:List Tr}{t:Tr}{u0 u1 u2 u3 u4:Value}(hg':g'<w'.heap.size)(hFg:F g'=none)
  (hk:∀ k,k<w.heap.size→k≠g'→w'.heap[k]? = w.heap[k]?) (hf2:∀ k o,s2.foot k=some o→w.heap[k]? = some o) (hF:∀ k,F k≠none→k<w.heap.size)
  (hold:ts=[]∨∃ g o,Xp (fun k=>s2.foot k≠none∧k≠g) w g ts o∧(g'=g∨w.heap.size≤g')∧∀ i,i<5*ts.length→w'.cell? ⟨g',o'+i,none⟩=w.cell? ⟨g,o+i,none⟩)
  (hnode:X3 (fun k=>F k≠none) w t [u0,u1,u2,u3,u4]) (hn:∀ j u,[u0,u1,u2,u3,u4][j]? = some u→w'.cell? ⟨g',o'+5*ts.length+j,none⟩=some u)
  (hW:∀ k x,Nb w' g' s2.foot F k=some x→W.heap[k]? = some x):Xp (fun k=>Nb w' g' s2.foot F k≠none∧k≠g') W g' (ts++[t]) o':=by
 have same:∀ k,(k=g'∨s2.foot k≠none∨F k≠none)→k<w'.heap.size→W.heap[k]? = w'.heap[k]? := fun k h1 h2=>by
  have e:=Dq (w':=w') h1;have h3:w'.heap[k]? = some (w'.heap[k]'h2):=Array.getElem?_eq_getElem h2;rw[h3];exact hW k _ (by rw[e,h3])
 have ne:∀ k,(k=g'∨s2.foot k≠none∨F k≠none)→k<w'.heap.size→Nb w' g' s2.foot F k≠none:=fun k h1 h2=>by
  rw[Dq (w':=w') h1,Array.getElem?_eq_getElem h2];simp
 have lt':∀ k,k<w.heap.size→k≠g'→k<w'.heap.size:=fun k h1 h2=>by
  have:=hk k h1 h2;rw[Array.getElem?_eq_getElem h1] at this;exact(Array.getElem?_eq_some_iff.1 this).1
 have cellW:∀ i,W.cell? ⟨g',i,none⟩=w'.cell? ⟨g',i,none⟩:=fun i=>by
  unfold World.cell?
  dsimp only;rw[same g' (.inl rfl) hg']
 have lt2:∀ k,s2.foot k≠none→k<w.heap.size:=fun k hf=>by
  cases hx:s2.foot k with
  |none=>exact absurd hx hf
  |some o=>exact(Array.getElem?_eq_some_iff.1 (hf2 k o hx)).1
 refine Xp.snoc (v0:=u0) (v1:=u1) (v2:=u2) (v3:=u3) (v4:=u4) ?_ ?_ ?_ ?_ ?_ ?_ ?_
 ·rcases hold with rfl|⟨g,o,h1,h2,h3⟩
  ·unfold Xp;trivial
  ·refine Xp.Qgv (fun k hk1 hk2=>?_) (fun k hk1 hk2=>?_) (fun i hi=>?_) h1
   ·have hkg:k≠g':=by rcases h2 with rfl|h2;exact hk1.2;omega
    exact⟨ne k (.inr (.inl hk1.1)) (lt' k hk2 hkg),hkg⟩
   ·have hkg:k≠g':=by rcases h2 with rfl|h2;exact hk1.2;omega
    exact(same k (.inr (.inl hk1.1)) (lt' k hk2 hkg)).trans (hk k hk2 hkg)
   ·rw[cellW];exact h3 i hi
 ·rw[cellW];exact hn 0 u0 rfl
 ·rw[cellW];exact hn 1 u1 rfl
 ·rw[cellW];exact hn 2 u2 rfl
 ·rw[cellW];exact hn 3 u3 rfl
 ·rw[cellW];exact hn 4 u4 rfl
 ·refine X3.frame (fun k hk1 hk2=>?_) (fun k hk1 hk2=>?_) hnode
  ·have hkg:k≠g':=fun e=>hk1 (by rw[e];exact hFg)
   exact⟨ne k (.inr (.inr hk1)) (lt' k hk2 hkg),hkg⟩
  ·have hkg:k≠g':=fun e=>hk1 (by rw[e];exact hFg)
   exact(same k (.inr (.inr hk1)) (lt' k hk2 hkg)).trans (hk k hk2 hkg)
end
end Prs
end
section
open Go.RowKit
namespace Prs
open Ev
def Qcj (N:Va)(app:List (Nat×Sp×Nat)):Prop:=∀ x∈app,N.TS x.2.2=N.TS x.1++[den N x.2.1]∧(N.TS x.1).length≤4294967296
def Qht (N:Va)(put:List (Nat×Sp×Nat)):Prop:=∀ x∈put,∃ (l0:List Tr) (u:Tr),N.TS x.1=l0++[u]∧N.TS x.2.2=l0++[den N x.2.1]
section
variable {b:Nat} {E:Env} {N:Va} {K:Cfg} {O:Nat→Prop} {w0 w:World} {cs:List Xt} {p:Xb} {h:Tree Q4} {pos:List Nat}
theorem Ctx.Qo1 (C:Ctx b E N K O w0 cs)(hr:Rel K O w0 p h w){d m:Nat}{s:V9}(hd:h.get d=some (.abs m))(hs:p d=some s)(hm:m % 8=2):Rt N.S s (N.TS (m / 8)):=by
 have hmean:=hr.mean _ _ _ hd hs;rw[C.mean] at hmean;unfold Jj at hmean;rw[hm] at hmean;exact hmean
theorem Qlm {d:Option Nat}{c:Nat}{u:Unit}{h':Tree Q4}{c':Nat}{l:Log}(e:delO d h c=.ok u h' c' l):h'=Qpk h d∧c'=c∧∀ dn,d=some dn→h.get dn≠none:=by
 unfold delO at e;cases d with
 |none=>
  obtain⟨-,rfl,rfl⟩:=Qn e;exact⟨rfl,rfl,fun _ hh=>by cases hh⟩
 |some dn=>
  dsimp only at e;unfold M.write at e;cases hg:h.get dn with
  |none=>rw[hg] at e;cases e
  |some x=>
   rw[hg] at e;cases e;exact⟨rfl,rfl,fun x hh=>by cases hh;rw[hg];simp⟩
theorem rng_out {c c' x:Nat}{o:Q4}(hr:M.Rng h c c')(hx:h.get x=some o):x<c∨c'≤x:=by
 rcases Nat.lt_or_ge x c with h1|h1
 ·exact .inl h1
 ·rcases Nat.lt_or_ge x c' with h2|h2
  ·rw[hr x h1 h2] at hx;cases hx
  ·exact .inr h2
theorem app_ok (C:Ctx b E N K O w0 cs)(hpos:L8 N pos){app:List (Nat×Sp×Nat)}(happ:Qcj N app)(hr:Rel K O w0 p h w){ci r cp c:Nat}{v:Value}{h':Tree Q4}{c':Nat}{l:Log}(e:appM pos app ci r h c=.ok v h' c' l)(hf:Free p c c'){v1 v2:Value}(hv1:VR p (tk ci) v1)(hv2:VR p (.slice (some ⟨r,0,none⟩) 1 cp) v2)(ty:TypeId):
  Gives Tryz.prog K O w0 p w c c' h' VR (Builtin.append_ #[24,24] ty #[v1,v2]) v:=by
 unfold appM at e;obtain⟨cm,h1,c1,l1,l2,e1,e2⟩:=Qr e;obtain⟨rfl,rfl,hcm,hfw⟩:=Qcp (K:=K) (O:=O) (w0:=w0) (w:=w) (p:=p) e1;have hv1:=hfw v1 hr hv1;obtain⟨c2,m⟩:=cm;dsimp only at e2 hcm hv1;split at e2
 ·rename_i hc;obtain⟨hm8,h64⟩:=hc;cases hy:Qg7 app (m / 8) with
  |none=>rw[hy] at e2;cases e2
  |some y=>
   rw[hy] at e2;obtain⟨sp,y⟩:=y;obtain⟨hTS,hlen⟩:=happ _ (Qac hy);dsimp only at hTS hlen e2;obtain⟨row,h2,c3,l3,l4,e3,e4⟩:=Qr e2;obtain⟨hrow,rfl,rfl⟩:=Tq e3;obtain⟨cells,t,sz⟩:=row;dsimp only at e4 hrow;split at e4
   ·rename_i hc5;obtain⟨rfl,hone⟩:=hc5;obtain⟨d,h4,c4,l5,l6,e5,e6⟩:=Qr e4;obtain⟨sr,r1,-,-,r4⟩:=hr.at_ _ _ hrow
    -- the node's cells
    obtain⟨bs,fr,ra,rb,rc,rd,-⟩:=Nh.at_ r4;have hvn:=rd.take 5;obtain⟨rfl,rfl,F,hbel,hnode,hFS,hvl⟩:=Qg0 C hr hpos e5 hvn;obtain⟨_,h5,c5,l7,l8,e7,e8⟩:=Qr e6;obtain⟨rfl,rfl⟩:=Yr e7;obtain⟨_,h6,c6,l9,l10,e9,e10⟩:=Qr e8;obtain⟨rfl,rfl,hdd⟩:=Qlm e9;obtain⟨ne,h7,c7,l11,l12,e11,e12⟩:=Qr e10;obtain⟨rfl,rfl,rfl⟩:=Uo e11;obtain⟨rfl,rfl,rfl⟩:=Qn e12;have hp:=hf ne (Nat.le_refl _) Dw;cases hv1 with
    |@tok _ s2 hs2 _=>
    have hG:=C.Qo1 hr hcm hs2 hm8;have hfoot:=Ctx.foot hr hcm hs2;obtain⟨a,cc,hval,hlc,hcm2,hfS,hl⟩:=hG;generalize hts:N.TS (m / 8)=ts at hval hlc hl hTS hlen;rw[hval];have hsl:∃ rc',v2=.slice (some ⟨sr.blk,sr.off,none⟩) 1 rc':=by
     cases hv2 with
     |slice hs _ _=>rw[r1] at hs;cases hs;exact⟨_,rfl⟩
     |sliceU hs _ _ _=>rw[r1] at hs;cases hs;exact⟨_,rfl⟩
    obtain⟨rc',rfl⟩:=hsl;generalize hnews:(((bs.toList.drop sr.off).take cells.length).take 5)=news at hvn hnode hvl;have hnc:∀ j u,news[j]? = some u→w.cell? ⟨sr.blk,sr.off+j,none⟩=some u:=fun j u hj=>by
     rw[←hnews,List.getElem?_take] at hj;split at hj
     ·rw[List.getElem?_take] at hj;split at hj
      ·rw[List.getElem?_drop] at hj;unfold World.cell?
       rw[ra];simpa using hj
      ·cases hj
     ·cases hj
    have hn1:∀ u∈news,u.oneCell'=true:=Hr hvn fun v hv=>List.all_eq_true.1 hone v hv
    obtain⟨w',g',o',c',bs',hrun,q1,q2,q3,q4,q5,q6,q7,q8,q9,q10,q11,q12⟩:=Ql0 w a ts.length cc sr.blk sr.off rc' news ty hlc hcm2 hlen (hl.imp (fun hh=>⟨hh.1,by rw[hh.2.1];rfl,hh.2.2⟩) fun ⟨g,o,bs2,a1,a2,a3,_⟩=>⟨g,o,bs2,a1,hfoot g _ a2,a3⟩) hvl hnc hn1;have hne:d≠some c2:=fun hh=>hdd c2 hh (by rw[Tree.Qu,if_pos rfl])
    have hFlt:∀ k,F k≠none→k<w.heap.size:=fun k hk=>by
     unfold L9 at hbel;cases d with
     |none=>dsimp only at hbel;rw[hbel] at hk;exact absurd rfl hk
     |some dn=>
      obtain⟨-,md,sd,b1,b2,rfl⟩:=hbel;obtain⟨s,z1,-,z3,-⟩:=hr.at_ _ _ b1;obtain rfl:s=sd:=Option.some.inj (z1.symm.trans b2);exact z3 k hk
    have hgfoot:s2.foot g'≠none∨g'=w.heap.size:=by
     rcases q11 with ⟨h1,-⟩|⟨o,h1,-⟩
     ·exact .inr h1
     ·rcases hl with ⟨ha,-,-⟩|⟨g,o2,bs2,a1,a2,-,-⟩
      ·rw[ha] at h1;cases h1
      ·rw[a1] at h1;cases h1;exact .inl (by rw[a2];simp)
    have hFg:F g'=none:=by
     cases hx:F g' with
     |none=>rfl
     |some x=>
      exfalso;have hFn:F g'≠none:=by rw[hx];simp
      rcases hgfoot with hg|hg
      ·unfold L9 at hbel;cases d with
       |none=>dsimp only at hbel;rw[hbel] at hx;cases hx
       |some dn=>
        obtain⟨-,md,sd,b1,b2,rfl⟩:=hbel;exact hne (by rw[hr.one _ _ _ _ _ _ g' b1 hcm b2 hs2 hFn hg])
      ·exact absurd (hFlt g' hFn) Dw
    have hglt:g'<w'.heap.size:=(Array.getElem?_eq_some_iff.1 q7).1;obtain⟨u0,u1,u2,u3,u4,rfl⟩:∃ u0 u1 u2 u3 u4,news=[u0,u1,u2,u3,u4]:=by
     match news,hvl with
     | [u0,u1,u2,u3,u4],_=>exact⟨u0,u1,u2,u3,u4,rfl⟩
    refine⟨_,w',_,hrun,VR.tok (Xb.Vy _ _ _) rfl,Qrq C hr hcm hs2 h64 hbel hne q3 q4 q5 q6 hgfoot q9 hp (v:=.slice (some ⟨g',o',none⟩) (ts.length+1) c') ?_,Xb.U4 hp,Yj⟩;unfold Jj;rw[show (8*y+2) % 8=2 by omega,show (8*y+2) / 8=y by omega];refine⟨some ⟨g',o',none⟩,c',by rw[hTS];simp,by rw[hTS];simpa using q1,q2,fun k hk=>?_,.inr ⟨g',o',bs',rfl,?_,q8,?_⟩⟩
    ·rcases (Pi hk).1 with rfl|h1|h1
     ·rcases hgfoot with h1|h1
      ·exact hfS _ h1
      ·exact C.s _ (by rw[h1];exact hr.below.size)
     ·exact hfS _ h1
     ·exact hFS _ h1
    ·show Nb w' g' s2.foot F g'=_
     rw[Dq (.inl rfl),q7]
    ·intro W hW;rw[hTS];refine grown hglt hFg q9 hfoot hFlt ?_ hnode q10 hW;rcases hl with ⟨-,ht,-⟩|⟨g,o,bs2,a1,a2,a3,a4⟩
     ·exact .inl ht
     ·refine .inr ⟨g,o,a4 w hfoot,?_,q12 g o a1⟩;rcases q11 with ⟨h1,-⟩|⟨o3,h1,-⟩
      ·exact .inr (Nat.le_of_eq h1.symm)
      ·rw[a1] at h1;cases h1;exact .inl rfl
   ·cases e4
 ·cases e2
end
end Prs
end
end Go.Proofs.YtcbkeecabcbogaaGreatDoor
