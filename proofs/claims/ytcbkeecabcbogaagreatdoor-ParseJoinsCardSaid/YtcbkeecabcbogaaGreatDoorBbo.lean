/- An expression's text: its tokens, a semicolon behind them; t -/
import Derived.Test.YtcbkeecabcbogaaGreatDoorBbn
import Derived.Test.YtcbkeecabcbogaaGreatDoorBab
import Derived.Test.YtcbkeecabcbogaaGreatDoorBbl
import Derived.Laws.AppendOwn
import Derived.Maps.AppendAt
import Derived.Great.BuildSlice
set_option maxRecDepth 100000
set_option linter.unusedSimpArgs false
set_option linter.unusedVariables false
namespace Go.Proofs.YtcbkeecabcbogaaGreatDoor
section
namespace Prs
theorem Qli (s:Tok):∀ l:List Tok,Lk s [] l l
 | [] => .nil rfl
 |_::l => .cons ⟨rfl,rfl,rfl⟩ (Qli s l)
def Ql6:List Tok→List Tok→Prop
 | [],[]=>True
 |t::l,t'::l'=>Like t t'∧Ql6 l l'
 |_,_=>False
theorem lk_of {s:Tok}{q:List Tok}:∀ {c c':List Tok},Ql6 c c'→Lk s q (c++[s]) (c'++q)
 | [],[],_ => .cut
 | [],_::_,h=>h.elim
 |_::_,[],h=>h.elim
 |_::_,_::_,h => .cons h.1 (lk_of h.2)
theorem Qcz (k:Nat):∀ l:List Tok,Ql6 l (l.map (shT k))
 | []=>trivial
 |_::l=>⟨⟨rfl,rfl,rfl⟩,Qcz k l⟩
theorem lk_end {s:Tok}{q m:List Tok}(hq:q≠[])(h:Lk s q [s] m):m=q:=by
 cases h with
 |cut=>rfl
 |cons h1 h2=>cases h2 with
  |nil h3=>exact absurd h3 hq
theorem Qs1 {e f n:Nat}{hd:Bool}{ts m:List Tok}{x:Tr}(h:Xg e f n hd ts=some (.ok (x,m))):St1 ts m:=
 ((exts (s:=Zj 0) (q:=[]) (e:=e) (e':=e) ⟨rfl,rfl,.inl rfl⟩ f).expr f n hd ts ts ts (List.suffix_refl _) (.inr (Qli _ _)) x m h).2.1 rfl
theorem Qs2 {e e' f f' n:Nat}{hd:Bool}{s:Tok}{q c c':List Tok}{x:Tr}(H:Ends s q)(hq:q≠[])(hc:Ql6 c c')(h:Xg e f n hd (c++[s])=some (.ok (x,[s]))):
  Xg e' f' n hd (c'++q)=none∨∃ x',Xg e' f' n hd (c'++q)=some (.ok (x',q))∧erT x=erT x':=by
 obtain⟨-,-,h3⟩:=(exts (e:=e) (e':=e') H f).expr f' n hd (c++[s]) _ _ (List.suffix_refl _) (.inr (lk_of hc)) x [s] h;rcases h3 with (h3|⟨h3,-⟩)|⟨x',m',h1,h2,h3⟩
 ·cases h3
 ·cases h3
 ·have:=lk_end hq h3;subst this;rcases h1 with h1|h1
  ·exact .inl h1
  ·exact .inr ⟨x',h1,h2⟩
theorem Rf {l:List UInt8}{ts:List Tok}(h:Xk l=.ok ts):∀ c t,ts=c++[t]→Xl t=false:=(lex_last _ _ _ _ _ (Y2 l ts h).1).2
theorem Ld {l:List UInt8}{x:Tr}(h:Qbq l=some (.ok x)):∃ c s,Xk l=.ok (c++[s])∧s.kind=5∧Xl s=false∧Xg l.length Jt 1 false (c++[s])=some (.ok (x,[s]))∧Ed x=true∧Xc x≤16384∧Zm x≤64:=by
 unfold Qbq Nu at h;cases ht:Xk l with
 |error e=>rw[ht] at h;cases h
 |ok ts=>
  rw[ht] at h;dsimp only at h;cases hx:Xg l.length Jt 1 false ts with
  |none=>rw[hx] at h;cases h
  |some y=>
   rw[hx] at h;cases y with
   |error p=>cases h
   |ok y=>
    obtain⟨t,m⟩:=y;obtain⟨c,u,e1,hu⟩:=Qs1 hx;have h:Qjx l.length true (.ok (t,m))=.ok x:=Option.some.inj h;unfold Qjx at h;dsimp only at h;split at h
    ·rename_i hr;split at h
     ·rename_i hf;cases h;cases m with
      |nil=>rw[Rf ht c u e1] at hu;cases hu
      |cons s m=>
       unfold Qbf at hr;rw[Bool.true_and] at hr;cases hs:(Q9 (s::m)==5) with
       |false=>rw[hs] at hr;cases hr
       |true=>
        rw[hs] at hr;have hm:m=[]:=hr;subst hm;have e2:ts=(c++[u])++[s]:=by rw[e1];simp
        exact⟨c++[u],s,by rw[e2],beq_iff_eq.1 hs,Rf ht _ _ e2,by rw[←e2];exact hx,hf⟩
     ·cases h
    ·cases h
mutual
theorem Qgy:∀ {x y:Tr},erT x=erT y→Qe8 x y=true
 | .mk _ _ _ _ l,.mk _ _ _ _ l',h=>by
  simp only[erT,Tr.mk.injEq] at h;obtain⟨rfl,rfl,rfl,-,h⟩:=h;unfold Qe8;simp[Qmp h]
theorem Qmp:∀ {x y:List Tr},erL x=erL y→Ri x y=true
 | [],[],_=>rfl
 | [],_::_,h=>by simp[erL] at h
 |_::_,[],h=>by simp[erL] at h
 |t::l,t'::l',h=>by
  simp only[erL,List.cons.injEq] at h;unfold Ri;rw[Qgy h.1,Qmp h.2];rfl
end
theorem Qs4:∀ {x y:List Tr},erL x=erL y→x.length=y.length
 | [],[],_=>rfl
 | [],_::_,h=>by simp[erL] at h
 |_::_,[],h=>by simp[erL] at h
 |t::l,t'::l',h=>by
  simp only[erL,List.cons.injEq] at h;simp[Qs4 h.2]
mutual
theorem Qgu:∀ {x y:Tr},erT x=erT y→Xc x=Xc y∧Zm x=Zm y∧Ed x=Ed y
 | .mk _ _ _ _ l,.mk _ _ _ _ l',h=>by
  simp only[erT,Tr.mk.injEq] at h;obtain⟨rfl,rfl,rfl,-,h⟩:=h;obtain⟨h1,h2,h3⟩:=Qgv h;unfold Xc Zm Ed;rw[h1,h2,h3,Qs4 h];exact⟨rfl,rfl,rfl⟩
theorem Qgv:∀ {x y:List Tr},erL x=erL y→Zk x=Zk y∧Ti x=Ti y∧Wj x=Wj y
 | [],[],_=>⟨rfl,rfl,rfl⟩
 | [],_::_,h=>by simp[erL] at h
 |_::_,[],h=>by simp[erL] at h
 |t::l,t'::l',h=>by
  simp only[erL,List.cons.injEq] at h;obtain⟨a1,a2,a3⟩:=Qgu h.1;obtain⟨b1,b2,b3⟩:=Qgv h.2;unfold Zk Ti Wj;rw[a1,a2,a3,b1,b2,b3];exact⟨rfl,rfl,rfl⟩
end
theorem Qm2 (l:List UInt8)(p:Nat)(opn:Bool)(cnt:Nat)(ts:List Tok)(h:lex l p opn cnt=.ok ts):∀ d,cnt+d+ts.length≤16384→lex l p opn (cnt+d)=.ok ts:=by
 refine Qeb (fun l p opn cnt ts=>∀ d,cnt+d+ts.length≤16384→lex l p opn (cnt+d)=.ok ts) ?_ ?_ ?_ ?_ ?_ ?_ ?_ l.length l p opn cnt ts (Nat.le_refl _) h
 ·intro p cnt d _;rw[Jh];rfl
 ·intro p cnt hc d hd;rw[Jh,if_pos rfl,if_neg (by simp at hd;omega)]
 ·intro m p cnt ts ih d hd;rw[Tn];exact ih d hd
 ·intro m p cnt ts h16 ih d hd;simp only[List.length_cons] at hd;rw[Tn,if_pos rfl,if_neg Dw,show cnt+d+1=cnt+1+d by omega,ih d Dw];rfl
 ·intro b m p opn cnt ts hb ih d hd;rw[U9 b m p opn _ hb];exact ih d hd
 ·intro l p opn cnt ts hr ih d hd;rw[Y7 l p opn _ hr];exact ih d hd
 ·intro l p opn cnt ts hs he h16 ih d hd;simp only[List.length_cons] at hd;rw[Kt l p opn _ hs,if_neg (by rw[he];simp),if_neg Dw,show cnt+d+1=cnt+1+d by omega,ih d Dw];rfl
theorem Dc:∀ (l:List UInt8),(∀ b∈l,b.toNat<128)→Wh l
 | [],_=>wh_nil
 |b::l,h=>by
  have hb:=h b List.mem_cons_self;have hd:=Td b l hb;unfold Wh;rw[Gy b l (by unfold broken;rw[hd];simp;omega),hd];show 1+Zr l=l.length+1
  rw[Dc l fun c hc=>h c (List.mem_cons_of_mem _ hc)];omega
theorem Qsu {α:Type}{G:α→Nat→Prop}{r:R α}(h:Fit G r):r≠none:=by
 obtain⟨y,rfl,-⟩:=h;simp
end Prs
end
section
open Go.RowKit
namespace Prs
def Ul (S:Nat→Prop)(w:World):List Tr→List Value→Prop
 | [],cs=>cs=[]
 |t::l,cs=>∃ v0 v1 v2 v3 v4 r,cs=v0::v1::v2::v3::v4::r∧Zo S w t [v0,v1,v2,v3,v4]∧Ul S w l r
theorem Ul.len {S:Nat→Prop}{w:World}:∀ {l:List Tr} {cs:List Value},Ul S w l cs→cs.length=l.length*5
 | [],cs,h=>by have h:cs=[]:=h;subst h;rfl
 |t::l,cs,h=>by
  obtain⟨v0,v1,v2,v3,v4,r,rfl,-,h⟩:=h;simp[Ul.len h];omega
theorem Ul.one {S:Nat→Prop}{w:World}:∀ {l:List Tr} {cs:List Value},Ul S w l cs→∀ u∈cs,u.oneCell'=true
 | [],cs,h=>by have h:cs=[]:=h;subst h;intro u hu;cases hu
 |t::l,cs,h=>by
  obtain⟨v0,v1,v2,v3,v4,r,rfl,h1,h⟩:=h;intro u hu;cases t;unfold Zo at h1;obtain⟨a,c,he,-⟩:=h1;simp only[List.cons.injEq,and_true] at he;obtain⟨rfl,rfl,rfl,rfl,rfl⟩:=he;simp only[List.mem_cons] at hu;rcases hu with rfl|rfl|rfl|rfl|rfl|hu;all_goals first|rfl|exact Ul.one h u hu
theorem Ul.frame {S S':Nat→Prop}{w w':World}(hlo:∀ k,S k→k<w.heap.size→S' k)(hb:∀ k,S k→k<w.heap.size→w'.heap[k]? = w.heap[k]?):∀ {l:List Tr} {cs:List Value},Ul S w l cs→Ul S' w' l cs
 | [],_,h=>h
 |t::l,cs,h=>by
  obtain⟨v0,v1,v2,v3,v4,r,h0,h1,h2⟩:=h;exact⟨v0,v1,v2,v3,v4,r,h0,h1.frame hlo hb,Ul.frame hlo hb h2⟩
theorem Ul.app {S:Nat→Prop}{w:World}:∀ {l l':List Tr} {cs cs':List Value},Ul S w l cs→Ul S w l' cs'→Ul S w (l++l') (cs++cs')
 | [],l',cs,cs',h,h'=>by have h:cs=[]:=h;subst h;exact h'
 |t::l,l',cs,cs',h,h'=>by
  obtain⟨v0,v1,v2,v3,v4,r,rfl,h1,h2⟩:=h;exact⟨v0,v1,v2,v3,v4,r++cs',rfl,h1,Ul.app h2 h'⟩
theorem Ul.single {S:Nat→Prop}{w:World}{t:Tr}{v0 v1 v2 v3 v4:Value}(h:Zo S w t [v0,v1,v2,v3,v4]):Ul S w [t] [v0,v1,v2,v3,v4]:=⟨v0,v1,v2,v3,v4,[],rfl,h,rfl⟩
theorem Ul.row {S:Nat→Prop}{w:World}{g:Nat}:∀ {l:List Tr} {cs:List Value} {o:Nat},Ul S w l cs→(∀ (j:Nat) (u:Value),cs[j]? = some u→w.cell? ⟨g,o+j,none⟩=some u)→Xz S w g l o
 | [],_,_,_,_=>by unfold Xz;trivial
 |t::l,cs,o,h,hc=>by
  obtain⟨v0,v1,v2,v3,v4,r,rfl,h1,h2⟩:=h;unfold Xz;refine⟨⟨v0,v1,v2,v3,v4,hc 0 v0 rfl,hc 1 v1 rfl,hc 2 v2 rfl,hc 3 v3 rfl,hc 4 v4 rfl,h1⟩,Ul.row h2 fun j u hj=>?_⟩
  have:=hc (j+5) u (by simpa using hj);rw[show o+(j+5)=o+5+j by omega] at this;exact this
def Kids (b:Nat)(S:Nat→Prop)(w:World)(v:Value)(l:List Tr):Prop:=∃ cs,w.ownsRow b 26 5 v l.length cs∧Ul (fun k=>S k∧some k≠v.ownBlock) w l cs
theorem Kids.nil (b:Nat)(S:Nat→Prop)(w:World):Kids b S w (.slice none 0 0) []:=⟨[],World.ownsRow_nil _ _ _ _,rfl⟩
theorem Kids.below {b:Nat}{S:Nat→Prop}{w w':World}{v:Value}{l:List Tr}(h:Kids b S w v l)(hb:Below w.heap.size w w'):Kids b S w' v l:=by
 obtain⟨cs,h1,h2⟩:=h;exact⟨cs,ownsRow_below h1 hb,h2.frame (fun _ h _=>h) fun k _ hk=>hb.block k hk⟩
theorem Kids.more {b b':Nat}{S S':Nat→Prop}{w:World}{v:Value}{l:List Tr}(h:Kids b S w v l)(hb:b'≤b)(hS:∀ k,S k→S' k):Kids b' S' w v l:=by
 obtain⟨cs,h1,h2⟩:=h;exact⟨cs,ownsRow_base h1 hb,h2.frame (fun k hk _=>⟨hS k hk.1,hk.2⟩) fun _ _ _=>rfl⟩
theorem Kids.app {b:Nat}{S:Nat→Prop}{w w':World}{v v':Value}{l l':List Tr}{cs cs':List Value}(hc:Ul (fun k=>S k∧some k≠v.ownBlock) w l cs)(hc':Ul (fun k=>S k∧some k≠v.ownBlock) w l' cs')
  (hown:w'.ownsRow b 26 5 v' (l.length+l'.length) (cs++cs')) (hg:w.grownBy w' v.ownBlock) (hat:v'.ownBlock=v.ownBlock∨v'.ownBlock=some w.heap.size):Kids b S w' v' (l++l'):=by
 refine⟨cs++cs',by rw[List.length_append];exact hown,(hc.app hc').frame (fun k hk hlt=>⟨hk.1,?_⟩) fun k hk hlt=>hg.block k hlt hk.2⟩;rcases hat with h|h
 ·rw[h];exact hk.2
 ·rw[h];intro e;cases e;exact absurd hlt (Nat.lt_irrefl _)
theorem Kids.slice {b:Nat}{S:Nat→Prop}{w:World}{v:Value}{l:List Tr}(h:Kids b S w v l):∃ a c,v=.slice a l.length c∧(l=[]∨∃ g,a=some ⟨g,0,none⟩∧b≤g∧Xz S w g l 0):=by
 obtain⟨cs,h1,h2⟩:=h;have hl:=h1.1;have hcell:=fun g hg=>h1.cells (g:=g) hg
 rcases h1.2 with ⟨rfl,h0⟩|⟨g,cap,cur,rfl,hbg,hg,-⟩
 ·have:l=[]:=List.length_eq_zero_iff.1 h0;subst this;exact⟨none,0,rfl,.inl rfl⟩
 ·refine⟨_,cap,rfl,.inr ⟨g,rfl,hbg,Ul.row (h2.frame (fun k hk _=>hk.1) fun _ _ _=>rfl) fun j u hj=>?_⟩⟩
  have:=hcell g rfl j u hj;rw[Lib.add_plain] at this;exact this
theorem Kids.node {b:Nat}{w:World}{v:Value}{l:List Tr}(h:Kids b (b ≤ ·) w v l)(kd:Nat)(x:List UInt8)(nn pl:Nat):Zo (b ≤ ·) w (.mk kd x nn pl l) [.int .i64 (kd:Int),.string ⟨x.toArray⟩,.int .u64 (nn:Int),.int .i64 (pl:Int),v]:=by
 obtain⟨a,c,rfl,hl⟩:=h.slice;unfold Zo;refine⟨a,c,rfl,hl.imp id ?_⟩;rintro⟨g,rfl,h1,h2⟩;exact⟨g,0,rfl,h1,h2⟩
def OwnV (b:Nat)(w:World)(t:Tr)(val:Value):Prop:=∃ kd x nn pl kids v,t=.mk kd x nn pl kids∧val=.agg #[.int .i64 (kd:Int),.string ⟨x.toArray⟩,.int .u64 (nn:Int),.int .i64 (pl:Int),v]∧Kids b (b ≤ ·) w v kids
theorem Qkx:∀ (n:Nat) (t:Tr) (S:Nat→Prop) (w:World) (v:Value),Xc t≤n→n≤4611686018427387904→Zt S w t v→Calls Tryz.prog 14 #[v] w fun e w'=>e=.returned (.int .i64 (Xc t:Int))∧Below w.heap.size w w':=by
 intro n;induction n with
 |zero=>intro t S w v h;cases t;unfold Xc at h;omega
 |succ n ih=>
  intro t S w v hn hbig h;cases t with
  |mk kd x nn pl kids=>
  unfold Xc at hn ⊢;obtain⟨cs,he,hc⟩:=h;unfold Zo at hc;obtain⟨a,cp,rfl,hl⟩:=hc;subst he;have IH:=Dh ih;have HL:=Dh hl;have HN:=Dh hn;have HB:=Dh hbig;clear ih hl hn hbig;go_enter Tryz.func14,Tryz.ntmps14
  go_wp2
  go_loopw [3,4] (fun s i wr=>∃ k:Nat,k≤kids.length∧i=.int .i64 k∧s=.int .i64 ((1+Zk (kids.take k):Nat):Int)∧Below w.heap.size w wr∧RowKit.Hid (Jy w.heap.size (kd:Int) x nn pl a kids.length cp wr)) (fun _ i _=>kids.length-(intOf i).toNat)
  case atStart=>
   refine⟨0,Nat.zero_le _,rfl,by simp[Zk],(Below.refl _ _).alloc (Nat.le_refl _) _,Dh ?_⟩;exact Qz _ _
  case round=>
   obtain⟨k,hk,rfl,rfl,hBw,hb1⟩:=hrel;have q1:wr.cell? ⟨w.heap.size,4,none⟩=some (Value.slice a kids.length cp):=by
    have:=hb1.out;unfold Jy at this;simp[World.cell?,this]
   by_cases hlt:k<kids.length
   ·obtain⟨g,o,rfl,hg,hR⟩:=HL.out.resolve_left (by rintro rfl;simp at hlt);obtain⟨kid,hkid⟩:∃ u,kids[k]? = some u:=⟨_,List.getElem?_eq_getElem hlt⟩;obtain⟨u0,u1,u2,u3,u4,c0,c1,c2,c3,c4,hu⟩:=hR.at_ k kid hkid;rw[Nat.mul_comm 5 k] at c0 c1 c2 c3 c4;have hrg:=Dh (U2 (bc hBw c0) (bc hBw c1) (bc hBw c2) (bc hBw c3) (bc hBw c4));have hV:=Dh ((hu.agg).below hBw);have hts:=Dh (Hg hkid);have hle:=Dh (Fz kids (k+1));have hBw:=Dh hBw;clear hR c0 c1 c2 c3 c4 hu hg;have hq1:(k:Int)<(kids.length:Int):=by omega
    go_wp2_with (first|((with_reducible refine wpList_load_mid rfl 26 _ rfl g (o+k*5) ?hx [u0,u1,u2,u3,u4] _ hrg.out Tryz.underlying26 rfl (Xa _ rfl) ?_);(case hx=>rfl))|(go_at_call 14;refine(IH.out kid S _ _ (by have:=HN.out;have:=hts.out;have:=hle.out;omega) (by have:=HB.out;omega) hV.out).mono ?_;rintro e W2 ⟨rfl,hB2⟩))
    have hts:=hts.out;have hle:=hle.out;have hN:=HN.out;have hB:=HB.out;have hlen:=U1 kids;rw[w64 (k+1:Int) Dw Dw,w64 (1+(Zk (kids.take k):Int)+(Xc kid:Int)) Dw Dw];refine⟨⟨k+1,by omega,by push_cast;rfl,?_,hBw.out.trans (hB2.mono hBw.out.size),Dh (hb1.out.after hB2)⟩,by simp[intOf];omega⟩;rw[hts];push_cast;rw[Int.add_assoc]
   ·obtain rfl:k=kids.length:=by omega
    have hq1:¬ (kids.length:Int)<(kids.length:Int):=by omega
    go_wp2
    go_ret;exact⟨rfl,hBw⟩
theorem Tryz.infoNd:((Tryz.prog).info? 26).map (fun i=>(i.zero,i.size,i.bytes))=some (some (.agg Q3),5,64):=by kernel_rfl
theorem Fh {o:Oper}{a:Act}{w:World}{K:Act→World→Prop}{Q:Exit→Act→World→Prop}(x:Operand)(ho:o.op=.buildSlice 24 1 #[(0,x)]){v0 v1 v2 v3 v4:Value}(hx:a.eval x=.agg #[v0,v1,v2,v3,v4])
  (h:K (a.put o.dst (.slice (some ⟨w.heap.size,0,none⟩) 1 1)) (w.alloc (.cells #[v0,v1,v2,v3,v4] 26))):o.wp Tryz.prog a w K Q:=by
 obtain⟨i0,hi,hz0,hz1,hz2⟩:=info_parts Tryz.infoNd;refine wp_buildSlice 24 26 1 _ ho #[v0,v1,v2,v3,v4] i0 (.agg Q3) Tryz.underlying24 hi hz0 (by rw[hz1];decide) (by rw[hz1];decide) ?_ h;rw[hz1];simp only[List.map_toArray,List.map_cons,List.map_nil,hx];kernel_rfl
theorem Qmb {o:Oper}{a:Act}{w:World}{K:Act→World→Prop}{Q:Exit→Act→World→Prop}(s x:Operand)(ho:o.op=.call { callee:=.builtin .append,args := #[s,x],argTypes := #[24,24] })
  {b:Nat} {S:Nat→Prop} {v:Value} {l l':List Tr} (hs:a.eval s=v) (hk:Kids b S w v l) {cs':List Value} {ad:Addr} {c:Nat} (hx:a.eval x=.slice (some ad) l'.length c)
  (hc':Ul (fun k=>S k∧some k≠v.ownBlock) w l' cs') (hcell:∀ j u,cs'[j]? = some u→w.cell? (ad.add j)=some u) (hn:l.length+l'.length≤1000000) (hb:b≤w.heap.size)
  (h:∀ v' w',Kids b S w' v' (l++l')→w.grownBy w' v.ownBlock→(v'.ownBlock=v.ownBlock∨v'.ownBlock=some w.heap.size)→K (a.put o.dst v') w'):o.wp Tryz.prog a w K Q:=by
 obtain⟨i0,hi,hz0,hz1,hz2⟩:=info_parts Tryz.infoNd;obtain⟨cs,h1,h2⟩:=hk;obtain⟨v',w',hr,k1,k2,-,k4⟩:=run_append_own_at (P:=Tryz.prog) (w:=w) b 24 o.type 26 i0 (.agg Q3) 5 64 Tryz.underlying24 hi hz0 hz1 hz2 rfl Dd v l.length cs h1 ad l'.length c cs' hc'.len hcell hc'.one (by unfold maxLen;omega) Dw hb;have H:=h v' w' (Kids.app h2 hc' k1 k2 k4) k2 k4;unfold Oper.wp execOp;simp only[ho,resolve,invoke,builtin,Sem.run_bind,Sem.run_pure,Result.andThen_ok,List.map_toArray,List.map_cons,List.map_nil,hs,hx,hr];exact H
theorem Qh3 {w:World}{v0 v1 v2 v3 v4:Value}{t:TypeId}:∀ j u,[v0,v1,v2,v3,v4][j]? = some u→(w.alloc (.cells #[v0,v1,v2,v3,v4] t)).cell? ((⟨w.heap.size,0,none⟩:Addr).add j)=some u:=by
 intro j u hj;have hb:=Qz w (.cells #[v0,v1,v2,v3,v4] t);rw[Lib.add_plain];unfold World.cell?
 dsimp only;rw[hb];match j,hj with
 |0,hj=>cases hj;rfl
 |1,hj=>cases hj;rfl
 |2,hj=>cases hj;rfl
 |3,hj=>cases hj;rfl
 |4,hj=>cases hj;rfl
def Ah (g:Nat)(kd:Int)(x:List UInt8)(nn pl:Nat)(v:Value)(w:World):Prop:=w.heap[g]? = some (.cells #[.int .i64 kd,.string ⟨x.toArray⟩,.int .u64 (nn:Int),.int .i64 (pl:Int),v] 26 (0,0))
theorem Qdw {w wr W0 W2 W5:World}{vk:Value}{l:List Tr}{o:Obj}(hlb:w.heap.size+2<wr.heap.size)(hBw:Below w.heap.size w wr)(hBd:Below wr.heap.size wr W0)(hB2:Below W0.heap.size W0 W2)(hKd:Kids (w.heap.size+3) (w.heap.size+3 ≤ ·) W0 vk l)(hgr:(W2.alloc o).grownBy W5 vk.ownBlock):
  (∀ k,k<w.heap.size+3→W5.heap[k]? = wr.heap[k]?)∧Below w.heap.size w W5:=by
 have h0:=hBd.size;have h1:=hB2.size;obtain⟨cs,hown,-⟩:=hKd;have hrow:∀ k,vk.ownBlock=some k→w.heap.size+3≤k:=fun k hk=>(hown.lt k hk).1
 refine⟨fun k hk=>?_,?_⟩
 ·rw[hgr.block k (by simp;omega) (fun e=>by have:=hrow k e.symm;omega),Below.heap_alloc _ _ _ Dw,hB2.block _ Dw,hBd.block _ Dw]
 ·exact Below.grown (((hBw.trans (hBd.mono Dw)).trans (hB2.mono Dw)).alloc Dw _) hgr (by simp;omega) fun k hk=>by have:=hrow k hk;omega
theorem Qk5 {w wr W0 W2:World}{vk vv:Value}{l kids':List Tr}{kid:Tr}{kd' nn' pl':Nat}{x':List UInt8}(hkd:kid=.mk kd' x' nn' pl' kids')(hO:Kids W0.heap.size (W0.heap.size ≤ ·) W2 vv kids')(hlb:w.heap.size+2<wr.heap.size)(hBd:Below wr.heap.size wr W0)(hB2:Below W0.heap.size W0 W2)(hKd:Kids (w.heap.size+3) (w.heap.size+3 ≤ ·) W0 vk l){o:Obj}:
  Ul (fun k=>w.heap.size+3≤k∧some k≠vk.ownBlock) (W2.alloc o) [kid] [.int .i64 (kd':Int),.string ⟨x'.toArray⟩,.int .u64 (nn':Int),.int .i64 (pl':Int),vv]:=by
 subst hkd;obtain⟨cs,hown,-⟩:=hKd;have h0:=hBd.size;have h1:=hB2.size;exact Ul.single ((hO.node kd' x' nn' pl').frame (fun k hk _=>⟨by have hk:W0.heap.size≤k:=hk;omega,fun e=>by have hk:W0.heap.size≤k:=hk;have:=(hown.lt k e.symm).2;omega⟩) fun k _ hk=>Below.heap_alloc _ _ _ hk)
theorem Kids.keep {b:Nat}{S:Nat→Prop}{w w':World}{v:Value}{l:List Tr}(h:Kids b S w v l)(hS:∀ k,S k→b≤k)(hb:∀ k,b≤k→w'.heap[k]? = w.heap[k]?):Kids b S w' v l:=by
 obtain⟨cs,⟨h1,h2⟩,h3⟩:=h;refine⟨cs,⟨h1,h2.imp id ?_⟩,h3.frame (fun _ h _=>h) fun k hk _=>hb k (hS k hk.1)⟩;rintro⟨g,cap,cur,hv,hbg,hg,rest⟩;exact⟨g,cap,cur,hv,hbg,(hb g hbg).trans hg,rest⟩
theorem Kids.set {b:Nat}{S:Nat→Prop}{w:World}{v:Value}{l:List Tr}(h:Kids b S w v l){p:Addr}(hp:p.block<b)(hS:∀ k,S k→b≤k)(u:Value):Kids b S (w.setCell p u) v l:=by
 obtain⟨cs,h1,h2⟩:=h;exact⟨cs,ownsRow_setCell_below h1 hp u,h2.frame (fun _ h _=>h) fun k hk _=>Below.heap_setCell _ _ _ _ (by have:=hS k hk.1;omega)⟩
set_option maxHeartbeats 8000000 in
theorem own_c:∀ (n:Nat) (t:Tr) (S:Nat→Prop) (w:World) (v:Value),Xc t≤n→n≤900000→Zt S w t v→Calls Tryz.prog 17 #[v] w fun e w'=>∃ v',e=.returned v'∧OwnV w.heap.size w' t v'∧Below w.heap.size w w':=by
 intro n;induction n with
 |zero=>intro t S w v h;cases t;unfold Xc at h;omega
 |succ n ih=>
  intro t S w v hn hbig h;cases t with
  |mk kd x nn pl kids=>
  unfold Xc at hn;obtain⟨cs,he,hc⟩:=h;unfold Zo at hc;obtain⟨a,cp,rfl,hl⟩:=hc;subst he;have IH:=Dh ih;have HL:=Dh hl;have HN:=Dh hn;have HB:=Dh hbig;have hlen:=Dh (U1 kids);clear ih hl hn hbig;go_enter Tryz.func17,Tryz.ntmps17
  go_wp2
  go_loopw [4] (fun i wr=>∃ (k:Nat) (vk:Value),k≤kids.length∧i=.int .i64 k∧Below w.heap.size w wr∧RowKit.Hid (Jy w.heap.size (kd:Int) x nn pl a kids.length cp wr)∧RowKit.Hid (wr.heap[w.heap.size+1]? = some (.cells Q3 26 (0,0)))∧RowKit.Hid (Ah (w.heap.size+2) (kd:Int) x nn pl vk wr)∧RowKit.Hid (Kids (w.heap.size+3) (w.heap.size+3 ≤ ·) wr vk (kids.take k))) (fun i _=>kids.length-(intOf i).toNat)
  case atStart=>
   refine⟨0,.slice none 0 0,Nat.zero_le _,rfl,(((Below.refl _ _).alloc (Nat.le_refl _) _).alloc Ds _).alloc (by simp;omega) _,Dh ?_,Dh ?_,Dh ?_,Dh (by rw[List.take_zero];exact Kids.nil _ _ _)⟩
   ·unfold Jy;rw[Below.heap_alloc _ _ _ (by simp;omega),Below.heap_alloc _ _ _ Ds];exact Qz _ _
   ·rw[Below.heap_alloc _ _ _ Ds];exact Y6 _ _ _
   ·have:=Qz ((w.alloc (.cells #[.int .i64 (kd:Int),.string ⟨x.toArray⟩,.int .u64 (nn:Int),.int .i64 (pl:Int),.slice a kids.length cp] 26)).alloc (.cells #[.int .i64 0,.string ⟨#[]⟩,.int .u64 0,.int .i64 0,.slice none 0 0] 26)) (.cells #[.int .i64 (kd:Int),.string ⟨x.toArray⟩,.int .u64 (nn:Int),.int .i64 (pl:Int),.slice none 0 0] 26);simpa [Ah] using this
  case round=>
   obtain⟨k,vk,hk,rfl,hBw,hb1,hb2,hb3,hKd⟩:=hrel;have q1:wr.cell? ⟨w.heap.size,4,none⟩=some (Value.slice a kids.length cp):=by
    have:=hb1.out;unfold Jy at this;simp[World.cell?,this]
   have q3:wr.cell? ⟨w.heap.size+2,4,none⟩=some vk:=by
    have:=hb3.out;unfold Ah at this;simp[World.cell?,this]
   by_cases hlt:k<kids.length
   ·obtain⟨g,o,rfl,hg,hR⟩:=HL.out.resolve_left (by rintro rfl;simp at hlt);obtain⟨kid,hkid⟩:∃ u,kids[k]? = some u:=⟨_,List.getElem?_eq_getElem hlt⟩;obtain⟨u0,u1,u2,u3,u4,c0,c1,c2,c3,c4,hu⟩:=hR.at_ k kid hkid;rw[Nat.mul_comm 5 k] at c0 c1 c2 c3 c4;have hgw:=Dh (cell_lt' c0);have hrg:=Dh (U2 (bc hBw c0) (bc hBw c1) (bc hBw c2) (bc hBw c3) (bc hBw c4));have hV:=Dh ((hu.agg).below hBw);have hts:=Dh (Hg hkid);have hle:=Dh (Fz kids (k+1));have hBw:=Dh hBw;have hkid:=Dh hkid;clear hR c0 c1 c2 c3 c4 hu hg;have hq1:(k:Int)<(kids.length:Int):=by omega
    have hstart:kids.length-(intOf (.int .i64 (k:Int))).toNat=kids.length-k:=by simp[intOf]
    have hlb:=Dh (Array.getElem?_eq_some_iff.1 hb3.out).1;go_wp2
    refine wp_region_held_drew (S:=fun w'=>w'.cell? ⟨w.heap.size,4,none⟩=some (Value.slice (some ⟨g,o,none⟩) kids.length cp)∧w'.rangeAt g (o+k*5) [u0,u1,u2,u3,u4]) Dk ⟨q1,hrg.out⟩ (fun hHeld=>?_);have hV:=Dh (hV.out.below (Below.refl wr.heap.size wr).drew);have hzw:=Dh (show wr.heap.size=wr.drew.heap.size from rfl);have q3:wr.drew.cell? ⟨w.heap.size+2,4,none⟩=some vk:=q3;have hKd:=Dh (hKd.out.below (Below.refl wr.heap.size wr).drew);have hBd:=Dh ((Below.refl wr.heap.size wr).drew);generalize wr.drew=W0 at *;refine Zg 0 21 (v:=.pointer (some ⟨w.heap.size+2,4,none⟩)) rfl rfl Dk Dk Dk (fun _ _ _ h=>h) Dk Da ?_ ?_
    ·(intro w hSw;(try dsimp only at hSw);obtain⟨hS1,hS2⟩:=hSw;go_simp;try first|with_reducible rfl|rfl)
    try simp only[Act.put,List.setIfInBounds_toArray,List.set_cons_zero,List.set_cons_succ]
    refine Zg 2 23 (v:=.pointer (some ⟨w.heap.size,4,none⟩)) rfl rfl Dk Dk Dk (fun _ _ _ h=>h) Dk Da ?_ ?_
    ·(intro w hSw;(try dsimp only at hSw);obtain⟨hS1,hS2⟩:=hSw;go_simp;try first|with_reducible rfl|rfl)
    try simp only[Act.put,List.setIfInBounds_toArray,List.set_cons_zero,List.set_cons_succ]
    refine Zg 3 24 (v:=.slice (some ⟨g,o,none⟩) kids.length cp) rfl rfl Dk Dk Dk (fun _ _ _ h=>h) Dk Da ?_ ?_
    ·(intro w hSw;(try dsimp only at hSw);obtain⟨hS1,hS2⟩:=hSw;go_simp;try first|with_reducible rfl|rfl)
    try simp only[Act.put,List.setIfInBounds_toArray,List.set_cons_zero,List.set_cons_succ]
    refine Zg 4 25 (v:=.int .i64 (k:Int)) rfl rfl Dk Dk Dk (fun _ _ _ h=>h) Dk Da ?_ ?_
    ·(intro w hSw;(try dsimp only at hSw);obtain⟨hS1,hS2⟩:=hSw;go_simp;try first|with_reducible rfl|rfl)
    try simp only[Act.put,List.setIfInBounds_toArray,List.set_cons_zero,List.set_cons_succ]
    refine Zg 5 26 (v:=.pointer (some ⟨g,o+k*5,none⟩)) rfl rfl Dk Dk Dk (fun _ _ _ h=>h) Dk Da ?_ ?_
    ·(intro w hSw;(try dsimp only at hSw);obtain⟨hS1,hS2⟩:=hSw;go_simp;try first|with_reducible rfl|rfl)
    try simp only[Act.put,List.setIfInBounds_toArray,List.set_cons_zero,List.set_cons_succ]
    refine Ej 6 27 rfl rfl Dk Dk Dk (fun _ _ _ _ h=>h) Dk Da 26 _ rfl g (o+k*5) rfl [u0,u1,u2,u3,u4] _ (fun w hSw=>hSw.2) Tryz.underlying26 rfl (Xa _ rfl) ?_;try simp only[Act.put,List.setIfInBounds_toArray,List.set_cons_zero,List.set_cons_succ]
    clear q1;refine wpAnyH_ready (rs:=[1,7]) Dk Ds (AllReadyH.cons rfl (fun K hK=>?_) (AllReadyH.cons rfl (fun K hK=>?_) AllReadyH.nil))
    ·-- the load first
     rw[if_pos Dk];go_simp;refine hK.out _ _ hHeld (fun hHeld=>?_);clear hK K;try simp only[Act.put,List.setIfInBounds_toArray,List.set_cons_zero,List.set_cons_succ]
     refine Qak 7 28 rfl rfl Dk Dk (fun K hK=>?_);go_simp;refine(IH.out kid S W0 (.agg #[u0,u1,u2,u3,u4]) (by have:=HN.out;have:=hts.out;have:=hle.out;omega) (by have:=HB.out;omega) hV.out).mono ?_;rintro e W2 ⟨v',rfl,⟨kd',x',nn',pl',kids',vv,hkd,rfl,hO⟩,hB2⟩;dsimp only;have hO:=Dh hO;have hkd:=Dh hkd;have q3:=bc hB2 q3;have hS2:W2.cell? ⟨w.heap.size,4,none⟩=some (Value.slice (some ⟨g,o,none⟩) kids.length cp)∧W2.rangeAt g (o+k*5) [u0,u1,u2,u3,u4]:=⟨bc hB2 hHeld.1,Xn hHeld.2 hB2⟩;have hB2:=Dh hB2;clear hHeld;refine hK.out _ _ hS2 (fun hHeld=>?_);clear hK K hS2;try simp only[Act.put,List.setIfInBounds_toArray,List.set_cons_zero,List.set_cons_succ]
     refine J7 8 rfl Dk Dk (fun K hK=>?_);refine Fh _ rfl rfl ?_;have q3:(W2.alloc (.cells #[Value.int .i64 (kd':Int),.string ⟨x'.toArray⟩,.int .u64 (nn':Int),.int .i64 (pl':Int),vv] 26)).cell? ⟨w.heap.size+2,4,none⟩=some vk:=bc ((Below.refl _ W2).alloc (Nat.le_refl _) _) q3;refine hK.out _ _ ⟨bc ((Below.refl _ W2).alloc (Nat.le_refl _) _) hHeld.1,Xn hHeld.2 ((Below.refl _ W2).alloc (Nat.le_refl _) _)⟩ (fun hHeld=>?_);clear hK K;try simp only[Act.put,List.setIfInBounds_toArray,List.set_cons_zero,List.set_cons_succ]
     refine J7 9 rfl Dk Dk (fun K hK=>?_);have hKd2:Kids (w.heap.size+3) (w.heap.size+3 ≤ ·) (W2.alloc (.cells #[Value.int .i64 (kd':Int),.string ⟨x'.toArray⟩,.int .u64 (nn':Int),.int .i64 (pl':Int),vv] 26)) vk (kids.take k):=(hKd.out.below hB2.out).below ((Below.refl _ W2).alloc (Nat.le_refl _) _);have hlen2:(kids.take k).length≤Zk kids:=by rw[List.length_take];have:=hlen.out;omega
     refine Qmb (.tmp 22) (.tmp 29) rfl (b:=w.heap.size+3) (S:=(w.heap.size+3 ≤ ·)) (v:=vk) (l:=kids.take k) (l':=[kid]) rfl hKd2 (cs':=[Value.int .i64 (kd':Int),.string ⟨x'.toArray⟩,.int .u64 (nn':Int),.int .i64 (pl':Int),vv]) (ad:=⟨W2.heap.size,0,none⟩) (c:=1) rfl (Qk5 hkd.out hO.out hlb.out hBd.out hB2.out hKd.out) Qh3 (by have:=HN.out;have:=HB.out;simp only[List.length_singleton];omega) (by have:=hlb.out;have:=hBd.out.size;have:=hB2.out.size;simp;omega) ?_;intro v9 W5 hK9 hgr hat;obtain⟨a9,c9,hv9,-⟩:=hK9.slice;rw[show (kids.take k++[kid]).length=k+1 by simp;omega] at hv9;subst hv9;obtain⟨hblk,hBW5⟩:=Qdw hlb.out hBw.out hBd.out hB2.out hKd.out hgr;have d5:∀ (b o:Nat) (v:Value),b<w.heap.size+3→wr.cell? ⟨b,o,none⟩=some v→W5.cell? ⟨b,o,none⟩=some v:=fun b o v hb hv=>Yi (hblk b hb) hv
     have hO5:Ah (w.heap.size+2) (kd:Int) x nn pl vk W5:=by unfold Ah;rw[hblk _ Dw];exact hb3.out
     have hN5:Jy w.heap.size (kd:Int) x nn pl (some ⟨g,o,none⟩) kids.length cp W5:=by unfold Jy;rw[hblk _ Dw];exact hb1.out
     have hZ5:W5.heap[w.heap.size+1]? = some (.cells Q3 26 (0,0)):=by rw[hblk _ Dw];exact hb2.out
     have c5:W5.cell? ⟨w.heap.size,4,none⟩=some (Value.slice (some ⟨g,o,none⟩) kids.length cp):=by
      have:=hN5;unfold Jy at this;simp[World.cell?,this]
     have r5:W5.rangeAt g (o+k*5) [u0,u1,u2,u3,u4]:=fun j v hv=>d5 _ _ _ (by have:=hgw.out;omega) (hrg.out j v hv)
     have q5:W5.cell? ⟨w.heap.size+2,4,none⟩=some vk:=by
      have:=hO5;unfold Ah at this;simp[World.cell?,this]
     have f5:W5.frozen? ⟨w.heap.size+2,4,none⟩=false:=by
      have:=hO5;unfold Ah at this;simp[World.frozen?,this]
     have hO5:=Dh hO5;have hN5:=Dh hN5;have hZ5:=Dh hZ5;have hK9:=Dh hK9;have hBW5:=Dh hBW5;refine hK.out _ _ ⟨c5,r5⟩ (fun hHeld=>?_);have r5:=Dh r5;clear hK K hat hgr hblk d5 hKd2 hlen2;try simp only[Act.put,List.setIfInBounds_toArray,List.set_cons_zero,List.set_cons_succ]
     refine Zg 10 31 (v:=.pointer (some ⟨w.heap.size+2,4,none⟩)) rfl rfl Dk Dk Dk (fun _ _ _ h=>h) Dk Da ?_ ?_
     ·(intro w hSw;(try dsimp only at hSw);obtain⟨hS1,hS2⟩:=hSw;go_simp;try first|with_reducible rfl|rfl)
     try simp only[Act.put,List.setIfInBounds_toArray,List.set_cons_zero,List.set_cons_succ]
     refine J7 11 rfl Dk Dk (fun K hK=>?_);go_simp;refine hK.out _ _ ⟨(World.cell?_setCell_far _ _ _ _ (by show w.heap.size+2≠w.heap.size;omega)).trans c5,fun j v hv=>(World.cell?_setCell_far _ _ _ _ (by show w.heap.size+2≠g;have:=hgw.out;omega)).trans (r5.out j v hv)⟩ (fun hHeld=>?_);clear hK K hHeld;try simp only[Act.put,List.setIfInBounds_toArray,List.set_cons_zero,List.set_cons_succ]
     refine⟨by kernel_rfl,?_⟩;clear c5 q5 f5;go_wp2
     rw[w64 (k+1:Int) Dw (by have:=HN.out;have:=HB.out;have:=hlen.out;omega)];refine⟨⟨k+1,.slice a9 (k+1) c9,by omega,by push_cast;rfl,hBW5.out.setCell (by show w.heap.size≤w.heap.size+2;omega) _,Dh ?_,Dh ?_,Dh ?_,Dh ?_⟩,by simp[intOf];omega⟩
     ·unfold Jy;rw[Below.heap_setCell _ _ _ _ (by show w.heap.size≠w.heap.size+2;omega)];exact hN5.out
     ·rw[Below.heap_setCell _ _ _ _ (by show w.heap.size+1≠w.heap.size+2;omega)];exact hZ5.out
     ·exact Qdj hO5.out 4 _
     ·rw[List.take_add_one,hkid.out];exact hK9.out.set (by show w.heap.size+2<w.heap.size+3;omega) (fun _ h=>h) _
    ·-- the call first
     rw[if_pos Dk];go_simp;refine(IH.out kid S W0 (.agg #[u0,u1,u2,u3,u4]) (by have:=HN.out;have:=hts.out;have:=hle.out;omega) (by have:=HB.out;omega) hV.out).mono ?_;rintro e W2 ⟨v',rfl,⟨kd',x',nn',pl',kids',vv,hkd,rfl,hO⟩,hB2⟩;dsimp only;have hO:=Dh hO;have hkd:=Dh hkd;have q3:=bc hB2 q3;have hS2:W2.cell? ⟨w.heap.size,4,none⟩=some (Value.slice (some ⟨g,o,none⟩) kids.length cp)∧W2.rangeAt g (o+k*5) [u0,u1,u2,u3,u4]:=⟨bc hB2 hHeld.1,Xn hHeld.2 hB2⟩;have hB2:=Dh hB2;clear hHeld;refine hK.out _ _ hS2 (fun hHeld=>?_);clear hK K hS2;try simp only[Act.put,List.setIfInBounds_toArray,List.set_cons_zero,List.set_cons_succ]
     refine wpAnyH_ready (rs:=[1,8]) Dk Ds (AllReadyH.cons rfl (fun K hK=>?_) (AllReadyH.cons rfl (fun K hK=>?_) AllReadyH.nil))
     ·-- then the load
      rw[if_pos Dk];go_simp;refine hK.out _ _ hHeld (fun hHeld=>?_);clear hK K;try simp only[Act.put,List.setIfInBounds_toArray,List.set_cons_zero,List.set_cons_succ]
      refine J7 8 rfl Dk Dk (fun K hK=>?_);refine Fh _ rfl rfl ?_;have q3:(W2.alloc (.cells #[Value.int .i64 (kd':Int),.string ⟨x'.toArray⟩,.int .u64 (nn':Int),.int .i64 (pl':Int),vv] 26)).cell? ⟨w.heap.size+2,4,none⟩=some vk:=bc ((Below.refl _ W2).alloc (Nat.le_refl _) _) q3;refine hK.out _ _ ⟨bc ((Below.refl _ W2).alloc (Nat.le_refl _) _) hHeld.1,Xn hHeld.2 ((Below.refl _ W2).alloc (Nat.le_refl _) _)⟩ (fun hHeld=>?_);clear hK K;try simp only[Act.put,List.setIfInBounds_toArray,List.set_cons_zero,List.set_cons_succ]
      refine J7 9 rfl Dk Dk (fun K hK=>?_);have hKd2:Kids (w.heap.size+3) (w.heap.size+3 ≤ ·) (W2.alloc (.cells #[Value.int .i64 (kd':Int),.string ⟨x'.toArray⟩,.int .u64 (nn':Int),.int .i64 (pl':Int),vv] 26)) vk (kids.take k):=(hKd.out.below hB2.out).below ((Below.refl _ W2).alloc (Nat.le_refl _) _);have hlen2:(kids.take k).length≤Zk kids:=by rw[List.length_take];have:=hlen.out;omega
      refine Qmb (.tmp 22) (.tmp 29) rfl (b:=w.heap.size+3) (S:=(w.heap.size+3 ≤ ·)) (v:=vk) (l:=kids.take k) (l':=[kid]) rfl hKd2 (cs':=[Value.int .i64 (kd':Int),.string ⟨x'.toArray⟩,.int .u64 (nn':Int),.int .i64 (pl':Int),vv]) (ad:=⟨W2.heap.size,0,none⟩) (c:=1) rfl (Qk5 hkd.out hO.out hlb.out hBd.out hB2.out hKd.out) Qh3 (by have:=HN.out;have:=HB.out;simp only[List.length_singleton];omega) (by have:=hlb.out;have:=hBd.out.size;have:=hB2.out.size;simp;omega) ?_;intro v9 W5 hK9 hgr hat;obtain⟨a9,c9,hv9,-⟩:=hK9.slice;rw[show (kids.take k++[kid]).length=k+1 by simp;omega] at hv9;subst hv9;obtain⟨hblk,hBW5⟩:=Qdw hlb.out hBw.out hBd.out hB2.out hKd.out hgr;have d5:∀ (b o:Nat) (v:Value),b<w.heap.size+3→wr.cell? ⟨b,o,none⟩=some v→W5.cell? ⟨b,o,none⟩=some v:=fun b o v hb hv=>Yi (hblk b hb) hv
      have hO5:Ah (w.heap.size+2) (kd:Int) x nn pl vk W5:=by unfold Ah;rw[hblk _ Dw];exact hb3.out
      have hN5:Jy w.heap.size (kd:Int) x nn pl (some ⟨g,o,none⟩) kids.length cp W5:=by unfold Jy;rw[hblk _ Dw];exact hb1.out
      have hZ5:W5.heap[w.heap.size+1]? = some (.cells Q3 26 (0,0)):=by rw[hblk _ Dw];exact hb2.out
      have c5:W5.cell? ⟨w.heap.size,4,none⟩=some (Value.slice (some ⟨g,o,none⟩) kids.length cp):=by
       have:=hN5;unfold Jy at this;simp[World.cell?,this]
      have r5:W5.rangeAt g (o+k*5) [u0,u1,u2,u3,u4]:=fun j v hv=>d5 _ _ _ (by have:=hgw.out;omega) (hrg.out j v hv)
      have q5:W5.cell? ⟨w.heap.size+2,4,none⟩=some vk:=by
       have:=hO5;unfold Ah at this;simp[World.cell?,this]
      have f5:W5.frozen? ⟨w.heap.size+2,4,none⟩=false:=by
       have:=hO5;unfold Ah at this;simp[World.frozen?,this]
      have hO5:=Dh hO5;have hN5:=Dh hN5;have hZ5:=Dh hZ5;have hK9:=Dh hK9;have hBW5:=Dh hBW5;refine hK.out _ _ ⟨c5,r5⟩ (fun hHeld=>?_);have r5:=Dh r5;clear hK K hat hgr hblk d5 hKd2 hlen2;try simp only[Act.put,List.setIfInBounds_toArray,List.set_cons_zero,List.set_cons_succ]
      refine Zg 10 31 (v:=.pointer (some ⟨w.heap.size+2,4,none⟩)) rfl rfl Dk Dk Dk (fun _ _ _ h=>h) Dk Da ?_ ?_
      ·(intro w hSw;(try dsimp only at hSw);obtain⟨hS1,hS2⟩:=hSw;go_simp;try first|with_reducible rfl|rfl)
      try simp only[Act.put,List.setIfInBounds_toArray,List.set_cons_zero,List.set_cons_succ]
      refine J7 11 rfl Dk Dk (fun K hK=>?_);go_simp;refine hK.out _ _ ⟨(World.cell?_setCell_far _ _ _ _ (by show w.heap.size+2≠w.heap.size;omega)).trans c5,fun j v hv=>(World.cell?_setCell_far _ _ _ _ (by show w.heap.size+2≠g;have:=hgw.out;omega)).trans (r5.out j v hv)⟩ (fun hHeld=>?_);clear hK K hHeld;try simp only[Act.put,List.setIfInBounds_toArray,List.set_cons_zero,List.set_cons_succ]
      refine⟨by kernel_rfl,?_⟩;clear c5 q5 f5;go_wp2
      rw[w64 (k+1:Int) Dw (by have:=HN.out;have:=HB.out;have:=hlen.out;omega)];refine⟨⟨k+1,.slice a9 (k+1) c9,by omega,by push_cast;rfl,hBW5.out.setCell (by show w.heap.size≤w.heap.size+2;omega) _,Dh ?_,Dh ?_,Dh ?_,Dh ?_⟩,by simp[intOf];omega⟩
      ·unfold Jy;rw[Below.heap_setCell _ _ _ _ (by show w.heap.size≠w.heap.size+2;omega)];exact hN5.out
      ·rw[Below.heap_setCell _ _ _ _ (by show w.heap.size+1≠w.heap.size+2;omega)];exact hZ5.out
      ·exact Qdj hO5.out 4 _
      ·rw[List.take_add_one,hkid.out];exact hK9.out.set (by show w.heap.size+2<w.heap.size+3;omega) (fun _ h=>h) _
     ·-- the slice,then the load
      rw[if_pos Dk];refine Fh _ rfl rfl ?_;have q3:(W2.alloc (.cells #[Value.int .i64 (kd':Int),.string ⟨x'.toArray⟩,.int .u64 (nn':Int),.int .i64 (pl':Int),vv] 26)).cell? ⟨w.heap.size+2,4,none⟩=some vk:=bc ((Below.refl _ W2).alloc (Nat.le_refl _) _) q3;refine hK.out _ _ ⟨bc ((Below.refl _ W2).alloc (Nat.le_refl _) _) hHeld.1,Xn hHeld.2 ((Below.refl _ W2).alloc (Nat.le_refl _) _)⟩ (fun hHeld=>?_);clear hK K;try simp only[Act.put,List.setIfInBounds_toArray,List.set_cons_zero,List.set_cons_succ]
      refine J7 1 rfl Dk Dk (fun K hK=>?_);go_simp;refine hK.out _ _ hHeld (fun hHeld=>?_);clear hK K;try simp only[Act.put,List.setIfInBounds_toArray,List.set_cons_zero,List.set_cons_succ]
      refine J7 9 rfl Dk Dk (fun K hK=>?_);have hKd2:Kids (w.heap.size+3) (w.heap.size+3 ≤ ·) (W2.alloc (.cells #[Value.int .i64 (kd':Int),.string ⟨x'.toArray⟩,.int .u64 (nn':Int),.int .i64 (pl':Int),vv] 26)) vk (kids.take k):=(hKd.out.below hB2.out).below ((Below.refl _ W2).alloc (Nat.le_refl _) _);have hlen2:(kids.take k).length≤Zk kids:=by rw[List.length_take];have:=hlen.out;omega
      refine Qmb (.tmp 22) (.tmp 29) rfl (b:=w.heap.size+3) (S:=(w.heap.size+3 ≤ ·)) (v:=vk) (l:=kids.take k) (l':=[kid]) rfl hKd2 (cs':=[Value.int .i64 (kd':Int),.string ⟨x'.toArray⟩,.int .u64 (nn':Int),.int .i64 (pl':Int),vv]) (ad:=⟨W2.heap.size,0,none⟩) (c:=1) rfl (Qk5 hkd.out hO.out hlb.out hBd.out hB2.out hKd.out) Qh3 (by have:=HN.out;have:=HB.out;simp only[List.length_singleton];omega) (by have:=hlb.out;have:=hBd.out.size;have:=hB2.out.size;simp;omega) ?_;intro v9 W5 hK9 hgr hat;obtain⟨a9,c9,hv9,-⟩:=hK9.slice;rw[show (kids.take k++[kid]).length=k+1 by simp;omega] at hv9;subst hv9;obtain⟨hblk,hBW5⟩:=Qdw hlb.out hBw.out hBd.out hB2.out hKd.out hgr;have d5:∀ (b o:Nat) (v:Value),b<w.heap.size+3→wr.cell? ⟨b,o,none⟩=some v→W5.cell? ⟨b,o,none⟩=some v:=fun b o v hb hv=>Yi (hblk b hb) hv
      have hO5:Ah (w.heap.size+2) (kd:Int) x nn pl vk W5:=by unfold Ah;rw[hblk _ Dw];exact hb3.out
      have hN5:Jy w.heap.size (kd:Int) x nn pl (some ⟨g,o,none⟩) kids.length cp W5:=by unfold Jy;rw[hblk _ Dw];exact hb1.out
      have hZ5:W5.heap[w.heap.size+1]? = some (.cells Q3 26 (0,0)):=by rw[hblk _ Dw];exact hb2.out
      have c5:W5.cell? ⟨w.heap.size,4,none⟩=some (Value.slice (some ⟨g,o,none⟩) kids.length cp):=by
       have:=hN5;unfold Jy at this;simp[World.cell?,this]
      have r5:W5.rangeAt g (o+k*5) [u0,u1,u2,u3,u4]:=fun j v hv=>d5 _ _ _ (by have:=hgw.out;omega) (hrg.out j v hv)
      have q5:W5.cell? ⟨w.heap.size+2,4,none⟩=some vk:=by
       have:=hO5;unfold Ah at this;simp[World.cell?,this]
      have f5:W5.frozen? ⟨w.heap.size+2,4,none⟩=false:=by
       have:=hO5;unfold Ah at this;simp[World.frozen?,this]
      have hO5:=Dh hO5;have hN5:=Dh hN5;have hZ5:=Dh hZ5;have hK9:=Dh hK9;have hBW5:=Dh hBW5;refine hK.out _ _ ⟨c5,r5⟩ (fun hHeld=>?_);have r5:=Dh r5;clear hK K hat hgr hblk d5 hKd2 hlen2;try simp only[Act.put,List.setIfInBounds_toArray,List.set_cons_zero,List.set_cons_succ]
      refine Zg 10 31 (v:=.pointer (some ⟨w.heap.size+2,4,none⟩)) rfl rfl Dk Dk Dk (fun _ _ _ h=>h) Dk Da ?_ ?_
      ·(intro w hSw;(try dsimp only at hSw);obtain⟨hS1,hS2⟩:=hSw;go_simp;try first|with_reducible rfl|rfl)
      try simp only[Act.put,List.setIfInBounds_toArray,List.set_cons_zero,List.set_cons_succ]
      refine J7 11 rfl Dk Dk (fun K hK=>?_);go_simp;refine hK.out _ _ ⟨(World.cell?_setCell_far _ _ _ _ (by show w.heap.size+2≠w.heap.size;omega)).trans c5,fun j v hv=>(World.cell?_setCell_far _ _ _ _ (by show w.heap.size+2≠g;have:=hgw.out;omega)).trans (r5.out j v hv)⟩ (fun hHeld=>?_);clear hK K hHeld;try simp only[Act.put,List.setIfInBounds_toArray,List.set_cons_zero,List.set_cons_succ]
      refine⟨by kernel_rfl,?_⟩;clear c5 q5 f5;go_wp2
      rw[w64 (k+1:Int) Dw (by have:=HN.out;have:=HB.out;have:=hlen.out;omega)];refine⟨⟨k+1,.slice a9 (k+1) c9,by omega,by push_cast;rfl,hBW5.out.setCell (by show w.heap.size≤w.heap.size+2;omega) _,Dh ?_,Dh ?_,Dh ?_,Dh ?_⟩,by simp[intOf];omega⟩
      ·unfold Jy;rw[Below.heap_setCell _ _ _ _ (by show w.heap.size≠w.heap.size+2;omega)];exact hN5.out
      ·rw[Below.heap_setCell _ _ _ _ (by show w.heap.size+1≠w.heap.size+2;omega)];exact hZ5.out
      ·exact Qdj hO5.out 4 _
      ·rw[List.take_add_one,hkid.out];exact hK9.out.set (by show w.heap.size+2<w.heap.size+3;omega) (fun _ h=>h) _
   ·obtain rfl:k=kids.length:=by omega
    have hq1:¬ (kids.length:Int)<(kids.length:Int):=by omega
    obtain⟨r0,r1,r2,r3,r4,hrr⟩:∃ r0 r1 r2 r3 r4:Value,RowKit.Hid (r0=.int .i64 (kd:Int)∧r1=.string ⟨x.toArray⟩∧r2=.int .u64 (nn:Int)∧r3=.int .i64 (pl:Int)∧r4=vk):=⟨_,_,_,_,_,Dh ⟨rfl,rfl,rfl,rfl,rfl⟩⟩;have hr1:wr.heap[w.heap.size+1+1]? = some (.cells #[r0,r1,r2,r3,r4] 26 (0,0)):=by
     obtain⟨rfl,rfl,rfl,rfl,rfl⟩:=hrr.out;exact hb3.out
    obtain⟨e0,e1,e2,e3,e4,-⟩:=X0 hr1;clear hr1;have hr2:=Dh hb2.out;have hone:vk.oneCell'=true:=by
     obtain⟨_,_,rfl,-⟩:=hKd.out.slice;rfl
    have hone:(#[r0,r1,r2,r3,r4]:Array Value).all (·.oneCell')=true:=by
     obtain⟨rfl,rfl,rfl,rfl,rfl⟩:=hrr.out;simp only[Array.all_eq_true'];simp[hone];simp[Value.oneCell']
    have hone:=Dh hone;clear q3;go_wp2_with (refine wpList_store_rowTo rfl 26 _ _ rfl rfl (w.heap.size+1) #[r0,r1,r2,r3,r4] ?hx ?hy 26 Q3 hr2.out (Xa _ rfl) rfl hone.out ?_;(case hx=>rfl);(case hy=>rfl))
    refine Qg0 (show Tryz.f17.results = #[.cell 2 26] from rfl) Tryz.underlying26 (Xa _ rfl) (g:=w.heap.size+1) (by rfl) (setRow_heap wr (w.heap.size+1) Q3 _ 26 (0,0) hr2.out) ?_;obtain⟨rfl,rfl,rfl,rfl,rfl⟩:=hrr.out;have hk3:=hKd.out;rw[List.take_length] at hk3;refine⟨_,rfl,⟨kd,x,nn,pl,kids,_,rfl,rfl,(hk3.keep (fun _ h=>h) fun k hk=>setRow_other wr _ k _ Dw).more Dw fun k hk=>by have hk:w.heap.size+3≤k:=hk;show w.heap.size≤k;omega⟩,below_setRow hBw Dw _⟩
end Prs
end
end Go.Proofs.YtcbkeecabcbogaaGreatDoor
