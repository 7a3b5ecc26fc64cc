/- Every tree that the reader reads is as the table of kinds ha -/
import Derived.Test.YtcbkeecabcbogaaGreatDoorSab
import Derived.Test.YtcbkeecabcbogaaGreatDoorSbg
import Derived.Test.YtcbkeecabcbogaaGreatDoorSbm
import Derived.Test.YtcbkeecabcbogaaGreatDoorSbf
import Derived.Great.BuildSlice
import Derived.Test.YtcbkeecabcbogaaGreatDoorSbl
import Derived.Test.YtcbkeecabcbogaaGreatDoorSbo
set_option maxRecDepth 100000
set_option maxHeartbeats 8000000
set_option linter.unusedSimpArgs false
set_option linter.unusedVariables false
namespace Go.Proofs.YtcbkeecabcbogaaGreatDoor
section
def J3 (x:List UInt8):Bool:=U8 x && !isWord x
namespace Prs
def sortB (k:Nat):UInt8:=if 20≤k∧k≤29∨k=41∨k=42 then 115 else if 30≤k∧k≤40 then 101 else if 10≤k∧k≤13 then 116 else 45
def Qb2 (k:Nat)(c:UInt8):Bool:=if c=98 then k==20 else if c=105 then k==25 else if c=99 then k==34 else if c=114 then k==39 else if c=112 then k==6 else if c=113 then k==7 else if c=103 then k==4 else sortB k==c
def Vo:List Tr→List UInt8→Bool
 | [],[]=>true
 |t::l,c::cs=>Qb2 t.kind c&&Vo l cs
 |_,_=>false
def Qjp (l:List Tr)(c:UInt8):Bool:=l.all fun t=>sortB t.kind==c
def Qng (l:List Tr)(k:Nat):Bool:=l.all fun t=>t.kind==k
theorem allS_nil (c:UInt8):Qjp [] c=true:=rfl
theorem allS_cons (c:UInt8)(t:Tr)(l:List Tr):Qjp (t::l) c=(sortB t.kind==c&&Qjp l c):=rfl
theorem allK_nil (c:Nat):Qng [] c=true:=rfl
theorem allK_cons (c:Nat)(t:Tr)(l:List Tr):Qng (t::l) c=(t.kind==c&&Qng l c):=rfl
def Yo (k:Nat)(x:List UInt8)(n len:Nat):Bool:=match k with
 |2|3|5|10|21|22|30|35|37=>J3 x&&n==0
 |8=>J3 x&&(decide (1≤n)&&decide (n≤3))
 |43=>(J3 x||x == [])&&n==0
 |33=>n==0&&((len==1&&(x == [45]||(x == [94]||x == [33])))||(len==2&&decide (0<Z9 x)))
 |13|27|29|32=>x == []&&decide (n≤1)
 |31=>x == []
 |_=>x == []&&n==0
def Zq (k n:Nat)(l:List Tr):Bool:=match k with
 |1=>l.all fun t=>t.kind==2||t.kind==3
 |2|6=>Qng l 5
 |3=>Vo l [103,112,113,98]
 |4=>Qng l 8
 |5|11|12|22=>Vo l [116]
 |7=>l.length==0||Vo l [116]
 |8|10|27|30|31|32=>l.length==0
 |13=>Qjp l 116&&decide (n≤l.length)
 |20=>Qjp l 115
 |21|35|39=>Vo l [101]
 |23=>Vo l [101,101]&&(match l with
  |t::_=>t.kind==30||(t.kind==35||t.kind==36)
  | []=>false)
 |24=>Vo l [99]||Vo l [114]
 |25=>Vo l [101,98]||(Vo l [101,98,98]||Vo l [101,98,105])
 |26|43=>Vo l [101,98]
 |28=>l.length==0||Vo l [101]
 |29=>Vo l [99]
 |33=>Vo l [101]||Vo l [101,101]
 |34=>decide (1≤l.length)&&Qjp l 101
 |36=>decide (2≤l.length)&&(match l with
  |t::r=>sortB t.kind==101&&r.all fun t=>sortB t.kind==101||(t.kind==11||t.kind==12)
  | []=>false)
 |37=>Qjp l 101
 |38=>Vo l [112,113,98]
 |40=>Vo l [116,101]
 |41=>Vo l [101,101]
 |42=>(l.all fun t=>t.kind==43||(t.kind==44||t.kind==45))&&decide (l.countP (fun t=>t.kind==45)≤1)
 |44=>Vo l [101,101,98]
 |45=>Vo l [98]
 |_=>false
mutual
def Yp (A:Nat→Bool):Tr→Bool
 | .mk k x n p l=>A p&&(Yo k x n l.length&&(Zq k n l&&Ya A l))
def Ya (A:Nat→Bool):List Tr→Bool
 | []=>true
 |t::l=>Yp A t&&Ya A l
end
theorem Md (A:Nat→Bool)(a b:List Tr):Ya A (a++b)=(Ya A a&&Ya A b):=by
 induction a with
 |nil=>simp[Ya]
 |cons t a ih=>simp[Ya,ih,Bool.and_assoc]
theorem Qed (A:Nat→Bool){l:List Tr}(h:∀ t∈l,Yp A t=true):Ya A l=true:=by
 induction l with
 |nil=>rfl
 |cons t l ih=>simp[Ya,h t List.mem_cons_self,ih fun u hu=>h u (List.mem_cons_of_mem _ hu)]
def TokG (A:Nat→Bool)(t:Tok):Prop:=A t.place=true∧(t.kind=1→J3 t.text=true)
def OkG (A:Nat→Bool)(l:List Tok):Prop:=∀ t∈l,TokG A t
theorem OkG.tail {A:Nat→Bool}{l:List Tok}(h:OkG A l):OkG A l.tail:=fun t ht=>h t (List.mem_of_mem_tail ht)
def Snd (A:Nat→Bool){α:Type}(G:α→List Tok→Prop)(r:R α):Prop:=∀ x m,r=some (.ok (x,m))→OkG A m∧G x m
section
variable {A:Nat→Bool} {α β:Type}
theorem Snd.bad {G:α→List Tok→Prop}{p:Nat}:Snd A G (bad p:R α):=fun _ _ h=>by cases h
theorem Snd.none {G:α→List Tok→Prop}:Snd A G (none:R α):=fun _ _ h=>by cases h
theorem Snd.ok {G:α→List Tok→Prop}{x:α}{m:List Tok}(h1:OkG A m)(h2:G x m):Snd A G (ok x m):=fun _ _ h=>by cases h;exact⟨h1,h2⟩
theorem Snd.bind {G:α→List Tok→Prop}{G':β→List Tok→Prop}{r:R α}{f:α→List Tok→R β}(h:Snd A G r)(hf:∀ x m,OkG A m→G x m→Snd A G' (f x m)):Snd A G' (andThen r f):=by
 intro y q e;cases r with
 |none=>cases e
 |some r=>
  cases r with
  |error p=>cases e
  |ok z=>
   obtain⟨x,m⟩:=z;obtain⟨h1,h2⟩:=h x m rfl;exact hf x m h1 h2 y q e
theorem Snd.mono {G G':α→List Tok→Prop}{r:R α}(h:Snd A G r)(hg:∀ x m,OkG A m→G x m→G' x m):Snd A G' r:=fun x m e=>⟨(h x m e).1,hg _ _ (h x m e).1 (h x m e).2⟩
theorem Snd.ite {G:α→List Tok→Prop}{c:Prop}[Decidable c]{a b:R α}(h1:c→Snd A G a)(h2:¬ c→Snd A G b):Snd A G (if c then a else b):=by
 by_cases h:c
 ·rw[if_pos h];exact h1 h
 ·rw[if_neg h];exact h2 h
end
theorem Qo2 {w:List UInt8}{l:List Tok}(h:isP w l=true):l≠[]:=by rintro rfl;simp[isP,Xn] at h
theorem kd_ne {l:List Tok}{k:Int}(h:(Xn l==k)=true)(hk:k≠0):l≠[]:=by
 rintro rfl;exact hk (beq_iff_eq.1 h).symm
theorem Qly {A:Nat→Bool}{l:List Tok}(e:Nat)(h:OkG A l)(hl:l≠[]):A (atP e l)=true:=by
 cases l with
 |nil=>exact absurd rfl hl
 |cons t l=>exact(h t List.mem_cons_self).1
theorem Qmn {A:Nat→Bool}{l:List Tok}(h:OkG A l)(hl:l≠[]):A (Jy l)=true:=by
 cases l with
 |nil=>exact absurd rfl hl
 |cons t l=>exact(h t List.mem_cons_self).1
theorem text_ok {A:Nat→Bool}{l:List Tok}(h:OkG A l)(hk:(Xn l==1)=true):J3 (Zo l)=true:=by
 cases l with
 |nil=>cases hk
 |cons t l=>exact(h t List.mem_cons_self).2 (beq_iff_eq.1 hk)
section
variable (e:Nat) {A:Nat→Bool}
theorem Uw (w:List UInt8){l:List Tok}(h:OkG A l):Snd A (fun p _=>A p=true∧l≠[]) (Ub e w l):=by
 unfold Ub;exact Snd.ite (fun hc=>Snd.ok h.tail ⟨Qly e h (Qo2 hc),Qo2 hc⟩) fun _=>Snd.bad
theorem Hm {l:List Tok}(h:OkG A l):Snd A (fun s _=>J3 s.1=true∧A s.2=true∧l≠[]) (U8 e l):=by
 unfold U8;exact Snd.ite (fun hc=>Snd.ok h.tail ⟨text_ok h hc,Qmn h (kd_ne hc Dd),kd_ne hc Dd⟩) fun _=>Snd.bad
theorem Qgq (w:List UInt8){l:List Tok}(h:OkG A l):Snd A (fun _ _=>True) (Qdh e w l):=by
 unfold Qdh;exact Snd.ite (fun _=>Snd.ok h.tail trivial) fun _=>Snd.ite (fun _=>Snd.ok h trivial) fun _=>Snd.bad
theorem Qgo (w:List UInt8){l:List Tok}(h:OkG A l):Snd A (fun _ _=>True) (Qgp e w l):=by
 unfold Qgp;split
 ·exact(Uw e w h.tail).mono fun _ _ _ _=>trivial
 ·exact(Uw e w h).mono fun _ _ _ _=>trivial
theorem Qiv (shut:List UInt8){one:List Tok→R Tr}{P:Tr→Prop}(h1:∀ l,OkG A l→Snd A (fun x _=>P x) (one l)):∀ (f:Nat) (acc:List Tr) (l:List Tok),OkG A l→(∀ t∈acc,P t)→Snd A (fun xs _=>(∀ t∈xs,P t)∧xs≠[]) (Xx e shut one f acc l):=by
 intro f;induction f with
 |zero=>intro acc l h ha;exact Snd.none
 |succ f ih=>
  intro acc l h ha;unfold Xx;refine Snd.bind (h1 l h) fun x m hm hG=>?_
  have hx:∀ t∈acc++[x],P t:=fun t ht=>by
   rcases List.mem_append.1 ht with h|h
   ·exact ha t h
   ·obtain rfl:=List.mem_singleton.1 h;exact hG
  exact Snd.ite (fun _=>ih _ _ hm.tail hx) fun _=>Snd.bind (Qgo e shut hm) fun _ q hq _=>Snd.ok hq ⟨hx,by simp⟩
theorem A8 (shut:List UInt8)(first:Bool){one:List Tok→R Tr}{P:Tr→Prop}(h1:∀ l,OkG A l→Snd A (fun x _=>P x) (one l))(f:Nat){l:List Tok}(h:OkG A l):Snd A (fun xs _=>(∀ t∈xs,P t)∧(first=true→xs≠[])) (Yi e shut first one f l):=by
 unfold Yi;refine Snd.ite (fun hc=>Snd.ok h.tail ⟨by simp,fun hf=>?_⟩) fun _=>(Qiv e shut h1 f [] l h Ds).mono fun xs m _ hx=>⟨hx.1,fun _=>hx.2⟩
 rw[hf] at hc;simp at hc
end
def SG (A:Nat→Bool)(c:UInt8)(t:Tr):Prop:=Yp A t=true∧sortB t.kind=c
def KG (A:Nat→Bool)(k:Nat)(t:Tr):Prop:=Yp A t=true∧t.kind=k
def LSG (A:Nat→Bool)(c:UInt8)(l:List Tr):Prop:=Ya A l=true∧Qjp l c=true
def LKG (A:Nat→Bool)(k:Nat)(l:List Tr):Prop:=Ya A l=true∧Qng l k=true
theorem LSG.of {A:Nat→Bool}{c:UInt8}{l:List Tr}(h:∀ t∈l,SG A c t):LSG A c l:=⟨Qed A fun t ht=>(h t ht).1,by unfold Qjp;rw[List.all_eq_true];exact fun t ht=>beq_iff_eq.2 (h t ht).2⟩
theorem LKG.of {A:Nat→Bool}{k:Nat}{l:List Tr}(h:∀ t∈l,KG A k t):LKG A k l:=⟨Qed A fun t ht=>(h t ht).1,by unfold Qng;rw[List.all_eq_true];exact fun t ht=>beq_iff_eq.2 (h t ht).2⟩
def IG (A:Nat→Bool)(t:Tr):Prop:=Yp A t=true∧(sortB t.kind==101||(t.kind==11||t.kind==12))=true
def LIG (A:Nat→Bool)(l:List Tr):Prop:=Ya A l=true∧(l.all fun t=>sortB t.kind==101||(t.kind==11||t.kind==12))=true
theorem LIG.of {A:Nat→Bool}{l:List Tr}(h:∀ t∈l,IG A t):LIG A l:=⟨Qed A fun t ht=>(h t ht).1,List.all_eq_true.2 fun t ht=>(h t ht).2⟩
def CG (A:Nat→Bool)(d:Nat)(x:Tr×Nat):Prop:=Yp A x.1=true∧(x.1.kind=45∧d=0∧x.2=1∨(x.1.kind=43∨x.1.kind=44)∧x.2=d)
def SelG (A:Nat→Bool)(d:Nat)(l:List Tr):Prop:=Ya A l=true∧(l.all fun t=>t.kind==43||(t.kind==44||t.kind==45))=true∧l.countP (fun t=>t.kind==45)=d∧d≤1
def SigG (A:Nat→Bool)(l:List Tr)(m:List Tok):Prop:=∃ a b,l=[a,b]∧a.kind=6∧b.kind=7∧(m≠[]→Yp A a=true∧Yp A b=true)
theorem KG.sort {A:Nat→Bool}{k:Nat}{t:Tr}(h:KG A k t):SG A (sortB k) t:=⟨h.1,by rw[h.2]⟩
theorem LSG.snoc {A:Nat→Bool}{c:UInt8}{l:List Tr}{t:Tr}(h:LSG A c l)(ht:SG A c t):LSG A c (l++[t]):=⟨by rw[Md,h.1];simp[Ya,ht.1],by unfold Qjp;rw[List.all_append,show (l.all fun t=>sortB t.kind==c)=true from h.2];simp[ht.2]⟩
theorem LKG.snoc {A:Nat→Bool}{k:Nat}{l:List Tr}{t:Tr}(h:LKG A k l)(ht:KG A k t):LKG A k (l++[t]):=⟨by rw[Md,h.1];simp[Ya,ht.1],by unfold Qng;rw[List.all_append,show (l.all fun t=>t.kind==k)=true from h.2];simp[ht.2]⟩
theorem SelG.snoc {A:Nat→Bool}{d:Nat}{l:List Tr}{x:Tr×Nat}(h:SelG A d l)(hx:CG A d x):SelG A x.2 (l++[x.1]):=by
 obtain⟨h1,h2,h3,h4⟩:=h;obtain⟨k1,k2⟩:=hx;refine⟨by rw[Md,h1];simp[Ya,k1],?_,?_,?_⟩
 ·rw[List.all_append,h2];rcases k2 with ⟨h,-⟩|⟨h|h,-⟩ <;> simp[h]
 ·rw[List.countP_append,h3];rcases k2 with ⟨h,h0,h5⟩|⟨h|h,h5⟩
  ·simp[h,h5,h0]
  ·simp[h,h5]
  ·simp[h,h5]
 ·rcases k2 with ⟨h,h0,h5⟩|⟨h|h,h5⟩ <;> omega
theorem Qnf (c:UInt8)(a b:List Tr):Qjp (a++b) c=(Qjp a c&&Qjp b c):=List.all_append
theorem okg {A:Nat→Bool}{l:List Tok}(h:OkG A l:=by repeat' (first|assumption|apply OkG.tail)):OkG A l:=h
theorem nel {l:List Tok}(h:l≠[]:=by first|assumption|exact Qo2 Da|exact kd_ne Da Dd):l≠[]:=h
theorem gd {A:Nat→Bool}{k n p:Nat}{x:List UInt8}{l:List Tr}(hp:A p=true:=by first|assumption|exact Qly _ okg nel|exact Qmn okg nel)
  (hl:Yo k x n l.length=true:=by first|rfl|simp[Yo, *]) (hc:Zq k n l=true:=by first|rfl|assumption|simp[Zq,Vo,Qb2,allS_nil,allS_cons,Qnf, *]) (hg:Ya A l=true:=by first|rfl|assumption|simp[Ya,Md, *]):Yp A (.mk k x n p l)=true:=by
 unfold Yp;rw[hp,hl,hc,hg];rfl
structure AllS (e:Nat)(A:Nat→Bool)(f:Nat):Prop where
 typ:∀ l,OkG A l→Snd A (fun t _=>(Yp A t=true∧sortB t.kind=116)∧(isP wSq l=true∨isP Ff l=true→t.kind=11∨t.kind=12)) (Bc e f l)
 param:∀ l,OkG A l→Snd A (fun t _=>KG A 5 t) (Jz e f l)
 sig:∀ l,OkG A l→Snd A (fun xs m=>SigG A xs m∧l≠[]) (Qfj e f l)
 block:∀ l,OkG A l→Snd A (fun t _=>KG A 20 t∧l≠[]) (U6 e f l)
 blockL:∀ acc l,OkG A l→LSG A 115 acc→Snd A (fun xs _=>LSG A 115 xs) (Ui e f acc l)
 branch:∀ p l,OkG A l→A p=true→Snd A (fun t _=>KG A 25 t) (Kq e f p l)
 stmt:∀ hd l,OkG A l→Snd A (fun t _=>SG A 115 t) (We e f hd l)
 simple:∀ hd l,OkG A l→Snd A (fun t _=>SG A 115 t) (J7 e f hd l)
 body:∀ hd l,OkG A l→Snd A (fun t _=>KG A 20 t) (Rj e f hd l)
 bodyL:∀ hd acc l,OkG A l→LSG A 115 acc→Snd A (fun xs _=>LSG A 115 xs) (Y6 e f hd acc l)
 oneC:∀ hd d l,OkG A l→Snd A (fun x _=>CG A d x) (Ux e f hd d l)
 selection:∀ p l,OkG A l→A p=true→Snd A (fun t _=>KG A 42 t) (V5 e f p l)
 selL:∀ acc d l,OkG A l→SelG A d acc→Snd A (fun xs _=>∃ d,SelG A d xs) (J8 e f acc d l)
 expr:∀ n hd l,OkG A l→Snd A (fun t _=>(Yp A t=true∧sortB t.kind=101)∧l≠[]) (Xj e f n hd l)
 exprL:∀ n hd x l,OkG A l→SG A 101 x→Snd A (fun t _=>SG A 101 t) (Zi e f n hd x l)
 unary:∀ hd l,OkG A l→Snd A (fun t _=>(Yp A t=true∧sortB t.kind=101)∧l≠[]) (Vg e f hd l)
 suf:∀ hd x l,OkG A l→SG A 101 x→Snd A (fun t _=>SG A 101 t) (Jl e f hd x l)
 arg:∀ l,OkG A l→Snd A (fun t _=>IG A t) (Qlz e f l)
 operand:∀ hd l,OkG A l→Snd A (fun t _=>(Yp A t=true∧sortB t.kind=101)∧l≠[]) (Tc e f hd l)
section
variable {e:Nat} {A:Nat→Bool} {f:Nat} (H:AllS e A f)
include H
theorem Qss (w:List UInt8){g:Nat}{l:List Tok}(h:OkG A l):Snd A (fun xs _=>Ya A xs=true∧Qjp xs 101=true) (Yi e w false (Xj e f 1 false) g l):=
 (A8 e w false (P:=SG A 101) (fun l h=>(H.expr 1 false l h).mono fun t _ _ ht=>ht.1) g h).mono fun xs _ _ hx=>LSG.of hx.1
theorem typ_s (l:List Tok)(h:OkG A l):Snd A (fun t _=>(Yp A t=true∧sortB t.kind=116)∧(isP wSq l=true∨isP Ff l=true→t.kind=11∨t.kind=12)) (Bc e (f+1) l):=by
 unfold Bc;refine Snd.ite (fun c1=>?_) fun c1=>Snd.ite (fun c2=>?_) fun c2=>Snd.ite (fun c3=>?_) fun c3=>?_
 ·exact Snd.bind (Uw e _ okg) fun _ k hk _=>Snd.bind (H.typ _ okg) fun t m hm ⟨⟨h1,h2⟩,_⟩=>Snd.ok okg ⟨⟨gd,rfl⟩,fun _ => .inl rfl⟩
 ·exact Snd.bind (H.typ _ okg) fun t m hm ⟨⟨h1,h2⟩,_⟩=>Snd.ok okg ⟨⟨gd,rfl⟩,fun _ => .inr rfl⟩
 ·refine Snd.bind (Uw e _ okg) fun _ k hk _=>Snd.bind ((A8 e _ false (P:=SG A 116) (fun l h=>(H.typ l h).mono fun t _ _ ht=>ht.1) _ okg).mono fun xs _ _ hx=>LSG.of hx.1) fun ts m hm ⟨h3,h4⟩=>?_
  exact Snd.ite (fun c4=>Snd.bind (H.typ _ okg) fun t m hm ⟨⟨h1,h2⟩,_⟩=>Snd.ok okg ⟨⟨gd,rfl⟩,fun c=>(c.elim c1 c2).elim⟩) fun _=>Snd.ok okg ⟨⟨gd,rfl⟩,fun c=>(c.elim c1 c2).elim⟩
 ·exact Snd.bind (Hm e okg) fun s k hk ⟨h1,h2,h3⟩=>Snd.ok okg ⟨⟨gd,rfl⟩,fun c=>(c.elim c1 c2).elim⟩
theorem param_s (l:List Tok)(h:OkG A l):Snd A (fun t _=>KG A 5 t) (Jz e (f+1) l):=by
 unfold Jz;exact Snd.bind (Hm e okg) fun s k hk ⟨h1,h2,h3⟩=>Snd.bind (H.typ _ okg) fun t m hm ⟨⟨h4,h5⟩,_⟩=>Snd.ok okg ⟨gd,rfl⟩
theorem sig_s (l:List Tok)(h:OkG A l):Snd A (fun xs m=>SigG A xs m∧l≠[]) (Qfj e (f+1) l):=by
 unfold Qfj;refine Snd.bind (Uw e _ okg) fun p k hk ⟨h1,h2⟩=>Snd.bind ((A8 e _ false (P:=KG A 5) H.param _ okg).mono fun xs _ _ hx=>LKG.of hx.1) fun ps m hm ⟨h3,h4⟩=>?_
 have hs:Yp A (.mk 6 [] 0 p ps)=true:=gd;exact Snd.ite (fun c4=>Snd.bind (H.typ _ okg) fun t q hq ⟨⟨h5,h6⟩,_⟩=>Snd.ok okg ⟨⟨_,_,rfl,rfl,rfl,fun _=>⟨hs,gd (hp:=Qly _ hm (by rintro rfl;simp[Lu,Xn,isP] at c4))⟩⟩,h2⟩) fun _=>Snd.ok okg ⟨⟨_,_,rfl,rfl,rfl,fun hn=>⟨hs,gd⟩⟩,h2⟩
theorem block_s (l:List Tok)(h:OkG A l):Snd A (fun t _=>KG A 20 t∧l≠[]) (U6 e (f+1) l):=by
 unfold U6;exact Snd.bind (Uw e _ okg) fun p k hk ⟨h1,h2⟩=>Snd.bind (H.blockL _ _ okg ⟨rfl,rfl⟩) fun xs m hm ⟨h3,h4⟩=>Snd.ok okg ⟨⟨gd,rfl⟩,h2⟩
theorem blockL_s (acc:List Tr)(l:List Tok)(h:OkG A l)(ha:LSG A 115 acc):Snd A (fun xs _=>LSG A 115 xs) (Ui e (f+1) acc l):=by
 unfold Ui;exact Snd.ite (fun _=>Snd.ok okg ha) fun _=>Snd.bind (H.stmt _ _ okg) fun x k hk hx=>Snd.bind (Qgq e _ okg) fun _ m hm _=>H.blockL _ _ okg (ha.snoc hx)
theorem branch_s (p:Nat)(l:List Tok)(h:OkG A l)(hp:A p=true):Snd A (fun t _=>KG A 25 t) (Kq e (f+1) p l):=by
 unfold Kq;refine Snd.bind (H.expr _ _ _ okg) fun x k hk ⟨⟨h1,h2⟩,_⟩=>Snd.bind (H.block _ okg) fun b m hm ⟨⟨h3,h4⟩,_⟩=>Snd.ite (fun c1=>Snd.ite (fun c2=>?_) fun _=>?_) fun _=>Snd.ok okg ⟨gd,rfl⟩
 ·exact Snd.bind (H.branch _ _ okg (Qly _ okg nel)) fun y q hq ⟨h5,h6⟩=>Snd.ok okg ⟨gd,rfl⟩
 ·exact Snd.bind (H.block _ okg) fun y q hq ⟨⟨h5,h6⟩,_⟩=>Snd.ok okg ⟨gd,rfl⟩
theorem stmt_s (hd:Bool)(l:List Tok)(h:OkG A l):Snd A (fun t _=>SG A 115 t) (We e (f+1) hd l):=by
 unfold We;refine Snd.ite (fun c1=>(H.block _ okg).mono fun t _ _ ht=>ht.1.sort) fun _=>Snd.ite (fun c1=>?_) fun _=>Snd.ite (fun c1=>(H.branch _ _ okg (Qly _ okg nel)).mono fun t _ _ ht=>ht.sort) fun _=>Snd.ite (fun c1=>?_) fun _=>
  Snd.ite (fun c1=>Snd.ok okg ⟨gd,rfl⟩) fun _=>Snd.ite (fun c1=>Snd.ok okg ⟨gd,rfl⟩) fun _=>Snd.ite (fun c1=>Snd.ite (fun _=>?_) fun _=>Snd.ok okg ⟨gd,rfl⟩) fun _=>Snd.ite (fun c1=>?_) fun _=>Snd.ite (fun c1=>(H.selection _ _ okg (Qly _ okg nel)).mono fun t _ _ ht=>ht.sort) fun _=>H.simple _ _ okg
 ·exact Snd.bind (Hm e okg) fun s k hk ⟨h1,h2,h3⟩=>Snd.bind (H.typ _ okg) fun t m hm ⟨⟨h4,h5⟩,_⟩=>Snd.ok okg ⟨gd,rfl⟩
 ·exact Snd.bind (H.expr _ _ _ okg) fun x k hk ⟨⟨h1,h2⟩,_⟩=>Snd.bind (H.block _ okg) fun b m hm ⟨⟨h3,h4⟩,_⟩=>Snd.ok okg ⟨gd,rfl⟩
 ·exact Snd.bind (H.expr _ _ _ okg) fun x k hk ⟨⟨h1,h2⟩,_⟩=>Snd.ok okg ⟨gd,rfl⟩
 ·have hl:l≠[]:=by
   rw[Bool.or_eq_true] at c1;exact c1.elim Qo2 Qo2
  refine Snd.bind (H.expr _ _ _ okg) fun x k hk ⟨⟨h1,h2⟩,_⟩=>Snd.ite (fun c2=>Snd.ok okg ?_) fun _=>Snd.bad
  rw[beq_iff_eq] at c2;refine⟨gd (hl := ?_),rfl⟩;cases isP wGo l <;> rfl
theorem simple_s (hd:Bool)(l:List Tok)(h:OkG A l):Snd A (fun t _=>SG A 115 t) (J7 e (f+1) hd l):=by
 unfold J7;refine Snd.ite (fun c1=>?_) fun _=>Snd.bind (H.expr _ _ _ okg) fun x k hk ⟨⟨h1,h2⟩,h3⟩=>Snd.ite (fun c2=>?_) fun _=>Snd.ite (fun c2=>?_) fun _=>Snd.ite (fun c2=>Snd.ok okg ?_) fun _=>Snd.bad
 ·exact Snd.bind (Hm e okg) fun s k hk ⟨h1,h2,h3⟩=>Snd.bind (Uw e _ okg) fun _ m hm _=>Snd.bind (H.expr _ _ _ okg) fun x q hq ⟨⟨h4,h5⟩,_⟩=>Snd.ok okg ⟨gd,rfl⟩
 ·exact Snd.bind (H.expr _ _ _ okg) fun y m hm ⟨⟨h4,h5⟩,_⟩=>Snd.ite (fun c3=>Snd.ok okg ⟨gd (hc:=by simp only[Zq,Vo,Qb2];rw[show (x.kind==30||(x.kind==35||x.kind==36))=true from c3];simp[h2,h5]),rfl⟩) fun _=>Snd.bad
 ·exact Snd.bind (H.expr _ _ _ okg) fun y m hm ⟨⟨h4,h5⟩,_⟩=>Snd.ok okg ⟨gd,rfl⟩
 ·rw[Bool.or_eq_true,beq_iff_eq,beq_iff_eq] at c2;rcases c2 with c2|c2
  ·exact⟨gd,rfl⟩
  ·exact⟨gd,rfl⟩
theorem body_s (hd:Bool)(l:List Tok)(h:OkG A l):Snd A (fun t _=>KG A 20 t) (Rj e (f+1) hd l):=by
 unfold Rj;exact Snd.bind (Uw e _ okg) fun p k hk ⟨h1,h2⟩=>Snd.bind (H.bodyL _ _ _ okg ⟨rfl,rfl⟩) fun xs m hm ⟨h3,h4⟩=>Snd.ok okg ⟨gd,rfl⟩
theorem bodyL_s (hd:Bool)(acc:List Tr)(l:List Tok)(h:OkG A l)(ha:LSG A 115 acc):Snd A (fun xs _=>LSG A 115 xs) (Y6 e (f+1) hd acc l):=by
 unfold Y6;exact Snd.ite (fun _=>Snd.ok okg ha) fun _=>Snd.bind (H.stmt _ _ okg) fun x k hk hx=>Snd.ite (fun _=>H.bodyL _ _ _ okg (ha.snoc hx)) fun _=>Snd.ite (fun _=>H.bodyL _ _ _ okg (ha.snoc hx)) fun _=>Snd.bad
theorem oneC_s (hd:Bool)(d:Nat)(l:List Tok)(h:OkG A l):Snd A (fun x _=>CG A d x) (Ux e (f+1) hd d l):=by
 unfold Ux;refine Snd.ite (fun c1=>Snd.ite (fun _=>Snd.bad) fun c2=>?_) fun _=>Snd.bind (Uw e _ okg) fun _ k hk ⟨_,hl⟩=>Snd.ite (fun c1=>?_) fun _=>Snd.bind (H.expr _ _ _ okg) fun x m hm ⟨⟨h1,h2⟩,_⟩=>Snd.ite (fun c2=>?_) fun _=>?_
 ·exact Snd.bind (H.body _ _ okg) fun b k hk ⟨h1,h2⟩=>Snd.ok okg ⟨gd,.inl ⟨rfl,by omega,by show d+1=1;omega⟩⟩
 ·exact Snd.bind (Hm e okg) fun s m hm ⟨h1,h2,h3⟩=>Snd.bind (Uw e _ okg) fun _ m hm _=>Snd.bind (Uw e _ okg) fun _ m hm _=>Snd.bind (H.unary _ _ okg) fun u m hm ⟨⟨h4,h5⟩,_⟩=>Snd.bind (H.body _ _ okg) fun b m hm ⟨h6,h7⟩=>Snd.ok okg ⟨gd,.inr ⟨.inl rfl,rfl⟩⟩
 ·rw[Bool.and_eq_true,beq_iff_eq] at c2;obtain⟨c2,-⟩:=c2;obtain⟨kx,xx,nx,px,lx⟩:=x;obtain rfl:kx=39:=c2;unfold Yp at h1;simp only[Bool.and_eq_true,Zq] at h1;obtain⟨-,-,h3,h4⟩:=h1;cases lx with
  |nil=>exact Snd.none
  |cons t r=>
   cases r with
   |cons=>simp[Vo] at h3
   |nil=>
    have h5:sortB t.kind=101:=by simpa [Vo,Qb2] using h3
    have h6:Yp A t=true:=by simpa [Ya] using h4
    exact Snd.bind (H.body _ _ okg) fun b m hm ⟨h7,h8⟩=>Snd.ok okg ⟨gd,.inr ⟨.inl rfl,rfl⟩⟩
 ·exact Snd.bind (Uw e _ okg) fun _ m hm _=>Snd.bind (H.expr _ _ _ okg) fun y m hm ⟨⟨h4,h5⟩,_⟩=>Snd.bind (H.body _ _ okg) fun b m hm ⟨h6,h7⟩=>Snd.ok okg ⟨gd,.inr ⟨.inr rfl,rfl⟩⟩
theorem Qke (p:Nat)(l:List Tok)(h:OkG A l)(hp:A p=true):Snd A (fun t _=>KG A 42 t) (V5 e (f+1) p l):=by
 unfold V5;refine Snd.bind (Uw e _ okg) fun _ k hk _=>Snd.bind (H.selL _ _ _ okg ⟨rfl,rfl,rfl,by omega⟩) fun xs m hm ⟨d,h1,h2,h3,h4⟩=>Snd.ok okg ⟨gd (hc := ?_),rfl⟩
 simp only[Zq];rw[h2,h3];simpa using h4
theorem selL_s (acc:List Tr)(d:Nat)(l:List Tok)(h:OkG A l)(ha:SelG A d acc):Snd A (fun xs _=>∃ d,SelG A d xs) (J8 e (f+1) acc d l):=by
 unfold J8;exact Snd.ite (fun _=>Snd.ok okg ⟨d,ha⟩) fun _=>Snd.bind (H.oneC _ _ _ okg) fun x k hk hx=>H.selL _ _ _ okg (ha.snoc hx)
theorem expr_s (n:Nat)(hd:Bool)(l:List Tok)(h:OkG A l):Snd A (fun t _=>(Yp A t=true∧sortB t.kind=101)∧l≠[]) (Xj e (f+1) n hd l):=by
 unfold Xj;exact Snd.bind (H.unary _ _ okg) fun x k hk ⟨h1,h2⟩=>(H.exprL _ _ _ _ okg h1).mono fun t _ _ ht=>⟨ht,h2⟩
theorem exprL_s (n:Nat)(hd:Bool)(x:Tr)(l:List Tok)(h:OkG A l)(hx:SG A 101 x):Snd A (fun t _=>SG A 101 t) (Zi e (f+1) n hd x l):=by
 unfold Zi;refine Snd.ite (fun _=>Snd.ok okg hx) fun c1=>Snd.bind (H.expr _ _ _ okg) fun y k hk ⟨⟨h1,h2⟩,_⟩=>H.exprL _ _ _ _ okg ?_
 obtain⟨h3,h4⟩:=hx;have c4:(Xn l==4)=true∧0<Z9 (Zo l):=by
  cases hq:Xn l==4 with
  |false=>rw[hq] at c1;simp at c1
  |true=>
   rw[hq] at c1;simp at c1;exact⟨rfl,by omega⟩
 obtain⟨c4,c5⟩:=c4;exact⟨gd (hl:=by simp[Yo,c5]),rfl⟩
theorem unary_s (hd:Bool)(l:List Tok)(h:OkG A l):Snd A (fun t _=>(Yp A t=true∧sortB t.kind=101)∧l≠[]) (Vg e (f+1) hd l):=by
 unfold Vg;refine Snd.ite (fun c1=>?_) fun _=>Snd.ite (fun c1=>?_) fun _=>Snd.ite (fun c1=>?_) fun _=>Snd.ite (fun c1=>?_) fun _=>Snd.bind (H.operand _ _ okg) fun x k hk ⟨h1,h2⟩=>(H.suf _ _ _ okg h1).mono fun t _ _ ht=>⟨ht,h2⟩
 all_goals exact Snd.bind (H.unary _ _ okg) fun x k hk ⟨⟨h1,h2⟩,_⟩=>Snd.ok okg ⟨⟨gd,rfl⟩,nel⟩
theorem suf_s (hd:Bool)(x:Tr)(l:List Tok)(h:OkG A l)(hx:SG A 101 x):Snd A (fun t _=>SG A 101 t) (Jl e (f+1) hd x l):=by
 unfold Jl;obtain⟨h1,h2⟩:=hx;refine Snd.ite (fun c1=>?_) fun _=>Snd.ite (fun c1=>?_) fun _=>Snd.ite (fun c1=>?_) fun _=>Snd.ok okg ⟨h1,h2⟩
 ·exact Snd.bind (Qss H _ okg) fun xs k hk ⟨h3,h4⟩=>H.suf _ _ _ okg ⟨gd,rfl⟩
 ·exact Snd.bind (Hm e okg) fun s k hk ⟨h3,h4,h5⟩=>H.suf _ _ _ okg ⟨gd,rfl⟩
 ·refine Snd.bind (A8 e _ true (P:=IG A) H.arg _ okg) fun xs k hk ⟨hx,hne⟩=>H.suf _ _ _ okg ?_
  obtain⟨h3,h4⟩:=LIG.of hx;have hn:1≤xs.length:=Nat.pos_of_ne_zero fun h0=>hne rfl (List.length_eq_zero_iff.1 h0)
  exact⟨gd (hc:=by simp only[Zq];rw[h4];simp[h2];omega),rfl⟩
theorem arg_s (l:List Tok)(h:OkG A l):Snd A (fun t _=>IG A t) (Qlz e (f+1) l):=by
 unfold Qlz;refine Snd.ite (fun c1=>(H.typ _ okg).mono fun t _ _ ht=>⟨ht.1.1,?_⟩) fun _=>(H.expr _ _ _ okg).mono fun t _ _ ht=>⟨ht.1.1,by rw[ht.1.2];rfl⟩
 rw[Bool.or_eq_true] at c1;rcases ht.2 c1 with h|h <;> rw[h] <;> rfl
theorem Qr3 (hd:Bool)(l:List Tok)(h:OkG A l):Snd A (fun t _=>(Yp A t=true∧sortB t.kind=101)∧l≠[]) (Tc e (f+1) hd l):=by
 unfold Tc;refine Snd.ite (fun c1=>Snd.ite (fun _=>Snd.ok okg ⟨⟨gd,rfl⟩,nel⟩) fun _=>Snd.none) fun _=>Snd.ite (fun c1=>Snd.ok okg ⟨⟨gd,rfl⟩,nel⟩) fun _=>Snd.ite (fun c1=>Snd.ok okg ⟨⟨gd,rfl⟩,nel⟩) fun _=>Snd.ite (fun c1=>?_) fun _=>Snd.ite (fun c1=>?_) fun _=>Snd.bind (Hm e okg) fun s k hk ⟨h1,h2,h3⟩=>Snd.ite (fun _=>?_) fun _=>Snd.ite (fun _=>?_) fun _=>Snd.ok okg ⟨⟨gd,rfl⟩,h3⟩
 ·exact Snd.bind (H.expr _ _ _ okg) fun x k hk ⟨h1,_⟩=>Snd.bind (Qgo e _ okg) fun _ m hm _=>Snd.ok okg ⟨h1,nel⟩
 ·refine Snd.bind (H.sig _ okg) fun sg k hk ⟨⟨a,b,he,ha,hb,hab⟩,_⟩=>Snd.bind (H.block _ okg) fun c m hm ⟨⟨h1,h2⟩,h3⟩=>?_
  subst he;obtain⟨h4,h5⟩:=hab h3;exact Snd.ok okg ⟨⟨gd,rfl⟩,nel⟩
 ·exact Snd.bind (H.typ _ okg) fun t m hm ⟨⟨h4,h5⟩,_⟩=>Snd.bind (Uw e _ okg) fun _ m hm _=>Snd.bind (H.expr _ _ _ okg) fun x m hm ⟨⟨h6,h7⟩,_⟩=>Snd.bind (Qgo e _ okg) fun _ m hm _=>Snd.ok okg ⟨⟨gd,rfl⟩,h3⟩
 ·exact Snd.bind (Qss H _ okg) fun xs m hm ⟨h4,h5⟩=>Snd.ok okg ⟨⟨gd,rfl⟩,h3⟩
end
theorem all_s (e:Nat)(A:Nat→Bool):∀ f,AllS e A f
 |0=>by constructor <;> (intros;first|unfold Bc|unfold Jz|unfold Qfj|unfold U6|unfold Ui|unfold Kq|unfold We|unfold J7|unfold Rj|unfold Y6|unfold Ux|unfold V5|unfold J8|unfold Xj|unfold Zi|unfold Vg|unfold Jl|unfold Qlz|unfold Tc) <;> exact Snd.none
 |f+1=>
  have H:=all_s e A f
  ⟨typ_s H,param_s H,sig_s H,block_s H,blockL_s H,branch_s H,stmt_s H,simple_s H,body_s H,bodyL_s H,oneC_s H,Qke H,selL_s H,expr_s H,exprL_s H,unary_s H,suf_s H,arg_s H,Qr3 H⟩
section
variable {e:Nat} {A:Nat→Bool}
theorem tparam_s (l:List Tok)(h:OkG A l):Snd A (fun t _=>KG A 8 t) (Nq e l):=by
 unfold Nq;refine Snd.bind (Hm e okg) fun s k hk ⟨h1,h2,h3⟩=>Snd.ite (fun _=>Snd.bad) fun c1=>Snd.ok okg ⟨gd (hl := ?_),rfl⟩
 have hq:Vh k≤3:=by
  unfold Vh;repeat' split
  all_goals omega
 have hz:Vh k≠0:=by simpa using c1
 simp only[Yo,h1,Bool.true_and,Bool.and_eq_true,decide_eq_true_eq];omega
theorem Qo8 (f p:Nat)(l:List Tok)(h:OkG A l)(hp:A p=true):Snd A (fun t _=>KG A 3 t) (Kw e f p l):=by
 unfold Kw;have H:=all_s e A f;refine Snd.bind (Hm e okg) fun s k hk ⟨h1,h2,h3⟩=>Snd.bind (G:=fun xs m=>LKG A 8 xs∧(m≠[]→k≠[])) (Snd.ite (fun c=>(A8 e _ true (P:=KG A 8) tparam_s _ okg).mono fun xs _ _ hx=>⟨LKG.of hx.1,fun _=>Qo2 c⟩) fun _=>Snd.ok okg ⟨⟨rfl,rfl⟩,id⟩) fun tp m hm ⟨⟨h4,h5⟩,h11⟩=>?_
 refine Snd.bind (H.sig _ okg) fun sg k2 hk2 ⟨⟨a,b,he,ha,hb,hab⟩,h12⟩=>Snd.bind (H.block _ okg) fun c m hm ⟨⟨h6,h7⟩,h8⟩=>?_
 subst he;obtain⟨h9,h10⟩:=hab h8;have h13:=h11 h12;have hs:Yp A (.mk 4 [] 0 (atP e k) tp)=true:=gd;have hk4:(Tr.mk 4 [] 0 (atP e k) tp).kind=4:=rfl;generalize Tr.mk 4 [] 0 (atP e k) tp=q4 at hs hk4;exact Snd.ok okg ⟨gd,rfl⟩
theorem Qh3:∀ (f:Nat) (acc:List Tr) (l:List Tok),OkG A l→LKG A 5 acc→Snd A (fun xs _=>LKG A 5 xs) (U0 e f acc l)
 |0,_,_,_,_=>Snd.none
 |f+1,acc,l,h,ha=>by
  unfold U0;exact Snd.ite (fun _=>Snd.ok okg ha) fun _=>Snd.bind ((all_s e A f).param _ okg) fun x k hk hx=>Snd.bind (Qgq e _ okg) fun _ m hm _=>Qh3 f _ _ okg (ha.snoc hx)
theorem Qj9 (f p:Nat)(l:List Tok)(h:OkG A l)(hp:A p=true):Snd A (fun t _=>KG A 2 t) (Ye e f p l):=by
 unfold Ye;exact Snd.bind (Hm e okg) fun s k hk ⟨h1,h2,h3⟩=>Snd.bind (Uw e _ okg) fun _ m hm _=>Snd.bind (Uw e _ okg) fun _ m hm _=>Snd.bind (Qh3 f _ _ okg ⟨rfl,rfl⟩) fun xs m hm ⟨h4,h5⟩=>Snd.ok okg ⟨gd,rfl⟩
def Qpr (l:List Tr):Bool:=l.all fun t=>t.kind==2||t.kind==3
theorem Qrw:∀ (f:Nat) (acc:List Tr) (l:List Tok),OkG A l→Ya A acc=true∧Qpr acc=true→Snd A (fun xs _=>Ya A xs=true∧Qpr xs=true) (Y1 e f acc l)
 |0,_,_,_,_=>Snd.none
 |f+1,acc,l,h,ha=>by
  unfold Y1;cases l with
  |nil=>exact Snd.ok h ha
  |cons t l'=>
   have hp:A (atP e (t::l'))=true:=Qly _ h Ds;have ht:OkG A l':=h.tail;refine Snd.bind (G:=fun x _=>Yp A x=true∧(x.kind=2∨x.kind=3)) (Snd.ite (fun _=>(Qj9 f _ _ ht hp).mono fun t _ _ ht=>⟨ht.1,.inl ht.2⟩) fun _=>Snd.ite (fun _=>(Qo8 f _ _ ht hp).mono fun t _ _ ht=>⟨ht.1,.inr ht.2⟩) fun _=>Snd.bad) fun x k hk ⟨hx,hx2⟩=>?_
   have hn:Ya A (acc++[x])=true∧Qpr (acc++[x])=true:=⟨by simp[Md,Ya,ha.1,hx],by unfold Qpr;rw[List.all_append,show (acc.all fun t=>t.kind==2||t.kind==3)=true from ha.2];rcases hx2 with h|h <;> simp[h]⟩;cases k with
   |nil=>exact Qrw f _ _ hk hn
   |cons u k'=>exact Snd.bind (Qgq e _ hk) fun _ m hm _=>Qrw f _ _ hm hn
theorem Qru (f:Nat)(l:List Tok)(h:OkG A l):Snd A (fun t _=>∃ xs,t=.mk 1 [] 0 0 xs∧Ya A xs=true∧Qpr xs=true) (Jb e f l):=by
 unfold Jb;exact Snd.bind (Qrw f _ _ h ⟨rfl,rfl⟩) fun xs k hk hx=>Snd.ok hk ⟨xs,rfl,hx⟩
end
end Prs
end
section
namespace Prs
theorem one_name (l:List UInt8)(p:Nat)(hl:l≠[])(hw:Wh l)(he:(Ym l p).2.2=0)(hk:(Ym l p).1.kind=1):J3 (Ym l p).1.text=true:=by
 obtain⟨hb,-⟩:=wh_ne hw hl;have hr:=run_take l.length l (Um l) (Nat.le_refl _) hw (Nat.le_refl _);have hc:=(Qs5 l.length l (Nat.le_refl _) hw).1;unfold Ym at he hk ⊢;cases hL:isLet (Zl l).1
 ·simp only[hL,Bool.false_eq_true,if_false] at he hk;cases hD:Tv (Zl l).1
  ·simp only[hD,Bool.false_eq_true,if_false] at he hk;cases hs:Ed l with
   |none=>rw[hs] at hk;cases hk
   |some g=>
    rw[hs] at hk;simp only at hk;split at hk <;> cases hk
  ·simp only[hD,if_true] at hk;cases hk
 ·simp only[hL,if_true] at he hk ⊢;by_cases h64:64<Um l
  ·rw[if_pos h64] at he;cases he
  ·rw[if_neg h64] at hk ⊢;simp only at hk ⊢;have hwd:isWord (l.take (Um l))=false:=by
    cases h:isWord (l.take (Um l)) with
    |false=>rfl
    |true=>rw[h] at hk;cases hk
   obtain⟨b,m,rfl⟩:∃ b m,l=b::m:=by
    cases l with
    |nil=>exact absurd rfl hl
    |cons b m=>exact⟨b,m,rfl⟩
   have hlen:((b::m).take (Um (b::m))).length=Um (b::m):=by rw[List.length_take];omega
   have hy:=Hl b m (by simp[Nk,hL]);have hd:=Qhm (b::m) (Um (b::m)) (List.cons_ne_nil b m) hb Dw;have hp:=Ri b m;unfold J3 Go.Proofs.YtcbkeecabcbogaaGreatDoor.U8;rw[hwd,hd,hL,hr,hlen];simp;omega
theorem Qse (l:List UInt8)(p:Nat)(opn:Bool)(cnt:Nat)(ts:List Tok)(h:lex l p opn cnt=.ok ts):Wh l→∀ t∈ts,t.kind=1→J3 t.text=true:=by
 refine Qsf (fun l p opn cnt ts=>Wh l→∀ t∈ts,t.kind=1→J3 t.text=true) ?_ ?_ ?_ ?_ ?_ ?_ ?_ l.length l p opn cnt ts (Nat.le_refl _) h
 ·intro p cnt _ t ht;cases ht
 ·intro p cnt hc _ t ht hk;obtain rfl:=List.mem_singleton.1 ht;cases hk
 ·intro m p cnt ts ih hw;exact ih (Qar 1 (10::m) Ds Ds hw).2.2
 ·intro m p cnt ts h16 ih hw t ht hk;rcases List.mem_cons.1 ht with rfl|ht
  ·cases hk
  ·exact ih (Qar 1 (10::m) Ds Ds hw).2.2 t ht hk
 ·intro b m p opn cnt ts hb ih hw;have hb8:b.toNat<128:=by
   unfold V7 at hb;simp only[Bool.or_eq_true,beq_iff_eq] at hb;rcases hb with (rfl|rfl)|rfl <;> decide
  exact ih (Qar 1 (b::m) Ds (by simpa using hb8) hw).2.2
 ·intro l p opn cnt ts hr ih hw;exact ih (cut_line l.length l (Nat.le_refl _) hw).2.2
 ·intro l p opn cnt ts hs he h16 ih hw t ht hk;have hl:=Qq6 hs;have hc:=one_cut l p hl hw he;rcases List.mem_cons.1 ht with rfl|ht
  ·exact one_name l p hl hw he hk
  ·exact ih hc.2.2 t ht hk
theorem toks_snd {s:List UInt8}{ts:List Tok}(h:X4 s=.ok ts):OkG (fun p=>ts.any fun t=>t.place==p) ts:=by
 unfold X4 at h;split at h
 ·cases h
 split at h
 ·cases h
 rename_i h1 h2;have hw:Wh s:=by
  unfold Wh
  have:=Qdc s.length s (Nat.le_refl _);omega
 exact fun t ht=>⟨List.any_eq_true.2 ⟨t,ht,by simp⟩,Qse s 0 false 0 ts h hw t ht⟩
theorem Qn8 {s:List UInt8}{ts:List Tok}{f:Nat}{t:Tr}(h:X4 s=.ok ts)(hr:Qcd (fun e=>Jb e f) false s=some (.ok t)):
  ∃ xs,t=.mk 1 [] 0 0 xs∧Ya (fun p=>ts.any fun t=>t.place==p) xs=true∧Qpr xs=true∧Qa0 t=true∧Xf t≤16384∧U5 t≤64:=by
 unfold Qcd at hr;rw[h] at hr;dsimp only at hr;cases hx:Jb s.length f ts with
 |none=>rw[hx] at hr;cases hr
 |some y=>
  rw[hx] at hr;cases y with
  |error p=>cases hr
  |ok z=>
   obtain⟨u,m⟩:=z;simp only[Option.map_some,endP,Option.some.injEq] at hr;split at hr
   ·split at hr
    ·rename_i hc;cases hr;obtain⟨-,xs,e,h1,h2⟩:=Qru f ts (toks_snd h) _ _ hx;exact⟨xs,e,h1,h2,hc⟩
    ·cases hr
   ·cases hr
end Prs
end
section
open Go.RowKit
namespace Prs
theorem Qn3 (k:Nat):((k<10)∧sortB k=45)∨((10≤k∧k≤13)∧sortB k=116)∨((13<k∧k<20)∧sortB k=45)∨((20≤k∧k≤29)∧sortB k=115)∨((30≤k∧k≤40)∧sortB k=101)∨((k=41)∧sortB k=115)∨((k=42)∧sortB k=115)∨((42<k)∧sortB k=45):=by
 have hc:(k<10)∨(10≤k∧k≤13)∨(13<k∧k<20)∨(20≤k∧k≤29)∨(30≤k∧k≤40)∨(k=41)∨(k=42)∨(42<k):=by omega
 unfold sortB;rcases hc with h|h|h|h|h|h|h|h
 ·exact .inl ⟨h,by rw[if_neg Dw,if_neg Dw,if_neg Dw]⟩
 ·exact .inr (.inl ⟨h,by rw[if_neg Dw,if_neg Dw,if_pos Dw]⟩)
 ·exact .inr (.inr (.inl ⟨h,by rw[if_neg Dw,if_neg Dw,if_neg Dw]⟩))
 ·exact .inr (.inr (.inr (.inl ⟨h,by rw[if_pos Dw]⟩)))
 ·exact .inr (.inr (.inr (.inr (.inl ⟨h,by rw[if_neg Dw,if_pos Dw]⟩))))
 ·exact .inr (.inr (.inr (.inr (.inr (.inl ⟨h,by rw[if_pos Dw]⟩)))))
 ·exact .inr (.inr (.inr (.inr (.inr (.inr (.inl ⟨h,by rw[if_pos Dw]⟩))))))
 ·exact .inr (.inr (.inr (.inr (.inr (.inr (.inr (⟨h,by rw[if_neg Dw,if_neg Dw,if_neg Dw]⟩)))))))
theorem Ry (k:Nat)(v:UInt8)(w:World){q1 q2 q3 q4 q5 q6 q7 q8:Bool}(e1:decide ((20:Int)≤(k:Int))=q1)(e2:decide ((k:Int)≤29)=q2)(e3:decide ((30:Int)≤(k:Int))=q3)(e4:decide ((k:Int)≤40)=q4)(e5:decide ((10:Int)≤(k:Int))=q5)(e6:decide ((k:Int)≤13)=q6)(e7:((k:Int)==41)=q7)(e8:((k:Int)==42)=q8)
  (hv:(if (q1&&q2)||(q7||q8) then (115:UInt8) else if q3&&q4 then 101 else if q5&&q6 then 116 else 45)=v):Calls Tryz.prog 29 #[.int .i64 k] w fun e w'=>e=.returned (.int .u8 (v.toNat:Int))∧w'=w:=by
 go_enter Tryz.func29,Tryz.ntmps29
 cases q1 <;> cases q7
 all_goals
  go_wp2
  all_goals
   clear e1 e2 e3 e4 e5 e6 e7 e8;simp[*] at hv;subst hv;go_ret;exact⟨rfl,rfl⟩
theorem sort_c (k:Nat)(w:World):Calls Tryz.prog 29 #[.int .i64 k] w fun e w'=>e=.returned (.int .u8 ((sortB k).toNat:Int))∧w'=w:=by
 rcases Qn3 k with ⟨h,hs⟩|⟨h,hs⟩|⟨h,hs⟩|⟨h,hs⟩|⟨h,hs⟩|⟨h,hs⟩|⟨h,hs⟩|⟨h,hs⟩
 ·rw[hs];exact Ry k 45 w (q1:=false) (q2:=true) (q3:=false) (q4:=true) (q5:=false) (q6:=true) (q7:=false) (q8:=false)
   (by simp;omega) (by simp;omega) (by simp;omega) (by simp;omega) (by simp;omega) (by simp;omega) (by simp;omega) (by simp;omega) rfl
 ·rw[hs];exact Ry k 116 w (q1:=false) (q2:=true) (q3:=false) (q4:=true) (q5:=true) (q6:=true) (q7:=false) (q8:=false)
   (by simp;omega) (by simp;omega) (by simp;omega) (by simp;omega) (by simp;omega) (by simp;omega) (by simp;omega) (by simp;omega) rfl
 ·rw[hs];exact Ry k 45 w (q1:=false) (q2:=true) (q3:=false) (q4:=true) (q5:=true) (q6:=false) (q7:=false) (q8:=false)
   (by simp;omega) (by simp;omega) (by simp;omega) (by simp;omega) (by simp;omega) (by simp;omega) (by simp;omega) (by simp;omega) rfl
 ·rw[hs];exact Ry k 115 w (q1:=true) (q2:=true) (q3:=false) (q4:=true) (q5:=true) (q6:=false) (q7:=false) (q8:=false)
   (by simp;omega) (by simp;omega) (by simp;omega) (by simp;omega) (by simp;omega) (by simp;omega) (by simp;omega) (by simp;omega) rfl
 ·rw[hs];exact Ry k 101 w (q1:=true) (q2:=false) (q3:=true) (q4:=true) (q5:=true) (q6:=false) (q7:=false) (q8:=false)
   (by simp;omega) (by simp;omega) (by simp;omega) (by simp;omega) (by simp;omega) (by simp;omega) (by simp;omega) (by simp;omega) rfl
 ·rw[hs];exact Ry k 115 w (q1:=true) (q2:=false) (q3:=true) (q4:=false) (q5:=true) (q6:=false) (q7:=true) (q8:=false)
   (by simp;omega) (by simp;omega) (by simp;omega) (by simp;omega) (by simp;omega) (by simp;omega) (by simp;omega) (by simp;omega) rfl
 ·rw[hs];exact Ry k 115 w (q1:=true) (q2:=false) (q3:=true) (q4:=false) (q5:=true) (q6:=false) (q7:=false) (q8:=true)
   (by simp;omega) (by simp;omega) (by simp;omega) (by simp;omega) (by simp;omega) (by simp;omega) (by simp;omega) (by simp;omega) rfl
 ·rw[hs];exact Ry k 45 w (q1:=true) (q2:=false) (q3:=true) (q4:=false) (q5:=true) (q6:=false) (q7:=false) (q8:=false)
   (by simp;omega) (by simp;omega) (by simp;omega) (by simp;omega) (by simp;omega) (by simp;omega) (by simp;omega) (by simp;omega) rfl
def D8 (w:World)(a:Option Addr)(l:List Tr):Prop:=l=[]∨∃ g o,a=some ⟨g,o,none⟩∧∀ (i:Nat) (t:Tr),l[i]? = some t→w.cell? ⟨g,o+i*5,none⟩=some (.int .i64 (t.kind:Int))
theorem Qh2 (a b:UInt8):(((a.toNat:Nat):Int)==(b.toNat:Int))=(a==b):=by
 rw[Bool.eq_iff_iff,beq_iff_eq,beq_iff_eq];exact⟨fun h=>UInt8.toNat_inj.1 Dw,fun h=>by rw[h]⟩
theorem run_c (l:List Tr)(c:UInt8)(w:World)(a:Option Addr)(cp:Nat)(hl:D8 w a l)(hn:l.length≤1000000):Calls Tryz.prog 82 #[.slice a l.length cp,.int .i64 0,.int .u8 (c.toNat:Int)] w fun e w'=>e=.returned (.bool (Qjp l c))∧w'=w:=by
 have HL:=Dh hl;have HS:=Dh fun k=>sort_c k w
 clear hl;go_enter Tryz.func82,Tryz.ntmps82
 go_wp2
 go_loopw [7] (fun i wr=>∃ k:Nat,k≤l.length∧i=.int .i64 k∧wr=w∧RowKit.Hid (Qjp (l.take k) c=true)) (fun i _=>l.length-(intOf i).toNat)
 case atStart=>exact⟨0,Nat.zero_le _,rfl,rfl,Dh rfl⟩
 case round=>
  obtain⟨k,hk,rfl,rfl,hall⟩:=hrel;by_cases hlt:k<l.length
  ·obtain⟨g,o,rfl,hR⟩:=HL.out.resolve_left (by rintro rfl;simp at hlt);obtain⟨kid,hkid⟩:∃ u,l[k]? = some u:=⟨_,List.getElem?_eq_getElem hlt⟩;have hcell:=hR k kid hkid;have htk:=List.take_add_one (l:=l) (i:=k);rw[hkid] at htk;have htk:Qjp (l.take (k+1)) c=(sortB kid.kind==c):=by rw[htk,Qnf,hall.out];simp[allS_cons,allS_nil]
   have hq1:(k:Int)<(l.length:Int):=by omega
   have HKID:=Dh hkid;have HTK:=Dh htk;clear hR hkid htk;have htn:=Qh2 (sortB kid.kind) c;cases hb:sortB kid.kind==c with
   |true=>
    rw[hb] at htn;go_wp2_with (go_at_call 29;refine(HS.out kid.kind).mono ?_;rintro e W2 ⟨rfl,rfl⟩)
    exact⟨⟨k+1,by omega,by push_cast;rfl,trivial,Dh (by rw[HTK.out,hb])⟩,by simp[intOf];omega⟩
   |false=>
    rw[hb] at htn;go_wp2_with (go_at_call 29;refine(HS.out kid.kind).mono ?_;rintro e W2 ⟨rfl,rfl⟩)
    have hx:Qjp l c=false:=by
     cases h:Qjp l c with
     |false=>rfl
     |true=>
      have:=List.all_eq_true.1 h kid (List.mem_of_getElem? HKID.out);rw[hb] at this;cases this
    rw[hx];go_ret;exact⟨rfl,rfl⟩
  ·obtain rfl:k=l.length:=by omega
   have hq1:¬ (l.length:Int)<(l.length:Int):=by omega
   have ha:=hall.out;rw[List.take_length] at ha;go_wp2
   go_ret;exact⟨rfl,rfl⟩
theorem Fz (a b:Nat):((a:Int)==(b:Int))=(a==b):=by
 rw[Bool.eq_iff_iff,beq_iff_eq,beq_iff_eq];omega
theorem allK_app (c:Nat)(a b:List Tr):Qng (a++b) c=(Qng a c&&Qng b c):=List.all_append
theorem alike_c (l:List Tr)(c:Nat)(w:World)(a:Option Addr)(cp:Nat)(hl:D8 w a l)(hn:l.length≤1000000):Calls Tryz.prog 80 #[.slice a l.length cp,.int .i64 (c:Int)] w fun e w'=>e=.returned (.bool (Qng l c))∧w'=w:=by
 have HL:=Dh hl;clear hl;go_enter Tryz.func80,Tryz.ntmps80
 go_wp2
 go_loopw [5] (fun i wr=>∃ k:Nat,k≤l.length∧i=.int .i64 k∧wr=w∧RowKit.Hid (Qng (l.take k) c=true)) (fun i _=>l.length-(intOf i).toNat)
 case atStart=>exact⟨0,Nat.zero_le _,rfl,rfl,Dh rfl⟩
 case round=>
  obtain⟨k,hk,rfl,rfl,hall⟩:=hrel;by_cases hlt:k<l.length
  ·obtain⟨g,o,rfl,hR⟩:=HL.out.resolve_left (by rintro rfl;simp at hlt);obtain⟨kid,hkid⟩:∃ u,l[k]? = some u:=⟨_,List.getElem?_eq_getElem hlt⟩;have hcell:=hR k kid hkid;have htk:=List.take_add_one (l:=l) (i:=k);rw[hkid] at htk;have htk:Qng (l.take (k+1)) c=(kid.kind==c):=by rw[htk,allK_app,hall.out];simp[allK_cons,allK_nil]
   have hq1:(k:Int)<(l.length:Int):=by omega
   have HKID:=Dh hkid;have HTK:=Dh htk;clear hR hkid htk;have htn:=Fz kid.kind c;cases hb:kid.kind==c with
   |true=>
    rw[hb] at htn;go_wp2
    exact⟨⟨k+1,by omega,by push_cast;rfl,trivial,Dh (by rw[HTK.out,hb])⟩,by simp[intOf];omega⟩
   |false=>
    rw[hb] at htn;go_wp2
    have hx:Qng l c=false:=by
     cases h:Qng l c with
     |false=>rfl
     |true=>
      have:=List.all_eq_true.1 h kid (List.mem_of_getElem? HKID.out);rw[hb] at this;cases this
    rw[hx];go_ret;exact⟨rfl,rfl⟩
  ·obtain rfl:k=l.length:=by omega
   have hq1:¬ (l.length:Int)<(l.length:Int):=by omega
   have ha:=hall.out;rw[List.take_length] at ha;go_wp2
   go_ret;exact⟨rfl,rfl⟩
theorem Qeh:∀ {l:List Tr} {cs:List UInt8},Vo l cs=true→l.length=cs.length
 | [],[],_=>rfl
 |t::l,c::cs,h=>by
  unfold Vo at h;rw[Bool.and_eq_true] at h;simp[Qeh h.2]
 | [],_::_,h=>by simp[Vo] at h
 |_::_,[],h=>by simp[Vo] at h
theorem Qmy:∀ {l:List Tr} {cs:List UInt8} {i:Nat} {t:Tr} {c:UInt8},Vo l cs=true→l[i]? = some t→cs[i]? = some c→Qb2 t.kind c=true
 | [],[],_,_,_,_,h,_=>by simp at h
 |t::l,c::cs,0,_,_,h,h1,h2=>by
  unfold Vo at h;rw[Bool.and_eq_true] at h;simp at h1 h2;subst h1 h2;exact h.1
 |t::l,c::cs,i+1,_,_,h,h1,h2=>by
  unfold Vo at h;rw[Bool.and_eq_true] at h;exact Qmy h.2 (by simpa using h1) (by simpa using h2)
 | [],_::_,_,_,_,h,_,_=>by simp[Vo] at h
 |_::_,[],_,_,_,h,_,_=>by simp[Vo] at h
theorem Qf1 {t:Tr}{c:UInt8}:∀ {l:List Tr} {cs:List UInt8},Vo l cs=true→Vo (l++[t]) (cs++[c])=Qb2 t.kind c
 | [],[],_=>by simp[Vo]
 |t::l,c::cs,h=>by
  unfold Vo at h;rw[Bool.and_eq_true] at h;simp only[List.cons_append,Vo];rw[h.1,Qf1 h.2];rfl
 | [],_::_,h=>by simp[Vo] at h
 |_::_,[],h=>by simp[Vo] at h
theorem G9 (l:List Tr)(s:ByteArray)(w:World)(a:Option Addr)(cp:Nat)(hl:D8 w a l)(hn:l.length≤1000000)(hc:∀ c∈s.data.toList,c=98∨c=105∨c=99∨c=114∨c=112∨c=113∨c=103∨c=116∨c=101):
  Calls Tryz.prog 81 #[.slice a l.length cp,.string s] w fun e w'=>e=.returned (.bool (Vo l s.data.toList))∧Below w.heap.size w w':=by
 have HL:=Dh hl;have HC:=Dh hc;have hsz:s.data.toList.length=s.size:=by rfl
 have HSZ:=Dh hsz;clear hl hc hsz;go_enter Tryz.func81,Tryz.ntmps81
 by_cases hlen:l.length=s.size
 ·have hq0:((l.length:Int)==(s.size:Int))=true:=by rw[beq_iff_eq];omega
  go_wp2
  go_loopw [5] (fun i wr=>∃ k:Nat,k≤l.length∧i=.int .i64 k∧Below w.heap.size w wr∧RowKit.Hid (Vo (l.take k) (s.data.toList.take k)=true)) (fun i _=>l.length-(intOf i).toNat)
  case atStart=>exact⟨0,Nat.zero_le _,rfl,Below.refl _ _,Dh rfl⟩
  case round=>
   obtain⟨k,hk,rfl,hBw,hall⟩:=hrel;have htb:=Qh2;by_cases hlt:k<l.length
   ·obtain⟨g,o,rfl,hR⟩:=HL.out.resolve_left (by rintro rfl;simp at hlt);obtain⟨kid,hkid⟩:∃ u,l[k]? = some u:=⟨_,List.getElem?_eq_getElem hlt⟩;have hcell:=bc hBw (hR k kid hkid);have hBw:=Dh hBw;have hks:k<s.size:=by omega
    obtain⟨c,hcd⟩:∃ c,s[k]=c:=⟨_,rfl⟩;have hcs:s.data.toList[k]? = some c:=by rw[List.getElem?_eq_getElem (by rw[HSZ.out];exact hks)];exact congrArg some hcd
    have hcm:=HC.out c (List.mem_of_getElem? hcs);have htk:Vo (l.take (k+1)) (s.data.toList.take (k+1))=Qb2 kid.kind c:=by rw[List.take_add_one,List.take_add_one,hkid,hcs];exact Qf1 hall.out
    have hno:Qb2 kid.kind c=false→Vo l s.data.toList=false:=fun hf=>by
     cases h:Vo l s.data.toList with
     |false=>rfl
     |true=>rw[Qmy h hkid hcs] at hf;cases hf
    have hq1:(k:Int)<(l.length:Int):=by omega
    have hq2:(k:Int)<(s.size:Int):=by omega
    have HTK:=Dh htk;have HNO:=Dh hno;clear hR hkid hcs htk hno;generalize hkd:kid.kind=kd at *;go_wp2
    refine wp_region_held_drew (S:=fun _=>True) Dk trivial (fun hHeld=>?_);have hBw:=Dh (Qb hBw.out (Below.refl wr.heap.size wr).drew);generalize wr.drew=W0 at *;try simp only[Act.put,List.setIfInBounds_toArray,List.set_cons_zero,List.set_cons_succ]
    refine Ko 0 24 (v:=.int .i64 (kd:Int)) rfl rfl Dk Dk Dk (fun _ _ _ h=>h) Dk Da ?_ ?_
    ·(intro w hSw;go_simp;try first|with_reducible rfl|rfl)
    try simp only[Act.put,List.setIfInBounds_toArray,List.set_cons_zero,List.set_cons_succ]
    refine Ko 2 26 (v:=.string s) rfl rfl Dk Dk Dk (fun _ _ _ h=>h) Dk Da ?_ ?_
    ·(intro w hSw;go_simp;try first|with_reducible rfl|rfl)
    try simp only[Act.put,List.setIfInBounds_toArray,List.set_cons_zero,List.set_cons_succ]
    refine Ko 3 27 (v:=.int .i64 (k:Int)) rfl rfl Dk Dk Dk (fun _ _ _ h=>h) Dk Da ?_ ?_
    ·(intro w hSw;go_simp;try first|with_reducible rfl|rfl)
    try simp only[Act.put,List.setIfInBounds_toArray,List.set_cons_zero,List.set_cons_succ]
    refine Ko 4 28 (v:=.int .u8 (c.toNat:Int)) rfl rfl Dk Dk Dk (fun _ _ _ h=>h) Dk Da ?_ ?_
    ·(intro w hSw;go_simp;try first|with_reducible rfl|rfl)
    try simp only[Act.put,List.setIfInBounds_toArray,List.set_cons_zero,List.set_cons_succ]
    refine h_call 1 25 rfl rfl Dk Dk (fun K hK=>?_);go_simp;refine(sort_c kd W0).mono ?_;rintro e W2 ⟨rfl,rfl⟩;dsimp only;refine hK.out _ _ trivial (fun hHeld2=>?_);clear hHeld hK K;have hHeld:=hHeld2;clear hHeld2;try simp only[Act.put,List.setIfInBounds_toArray,List.set_cons_zero,List.set_cons_succ]
    refine Ko 5 29 (v:=.bool (sortB kd==c)) rfl rfl Dk Dk Dk (fun _ _ _ h=>h) Dk Da ?_ ?_
    ·(intro w hSw;go_simp;try first|with_reducible rfl|rfl)
    try simp only[Act.put,List.setIfInBounds_toArray,List.set_cons_zero,List.set_cons_succ]
    refine Ko 6 7 (v:=.bool (sortB kd==c)) rfl rfl Dk Dk Dk (fun _ _ _ h=>h) Dk Da ?_ ?_
    ·(intro w hSw;go_simp;try first|with_reducible rfl|rfl)
    try simp only[Act.put,List.setIfInBounds_toArray,List.set_cons_zero,List.set_cons_succ]
    refine⟨by kernel_rfl,?_⟩;clear HC;rcases hcm with rfl|rfl|rfl|rfl|rfl|rfl|rfl|rfl|rfl
    ·have hq:((kd:Int)==20)=Qb2 kd 98:=Fz kd 20;cases hf:Qb2 kd 98 with
     |true=>
      rw[hf] at hq;go_wp2
      go_simp;exact⟨⟨k+1,by omega,by push_cast;rfl,hBw.out,Dh (by rw[HTK.out,hf])⟩,by simp[intOf];omega⟩
     |false=>
      rw[hf] at hq;go_wp2
      rw[HNO.out hf];go_ret;exact⟨rfl,hBw.out⟩
    ·have hq:((kd:Int)==25)=Qb2 kd 105:=Fz kd 25;cases hf:Qb2 kd 105 with
     |true=>
      rw[hf] at hq;go_wp2
      go_simp;exact⟨⟨k+1,by omega,by push_cast;rfl,hBw.out,Dh (by rw[HTK.out,hf])⟩,by simp[intOf];omega⟩
     |false=>
      rw[hf] at hq;go_wp2
      rw[HNO.out hf];go_ret;exact⟨rfl,hBw.out⟩
    ·have hq:((kd:Int)==34)=Qb2 kd 99:=Fz kd 34;cases hf:Qb2 kd 99 with
     |true=>
      rw[hf] at hq;go_wp2
      go_simp;exact⟨⟨k+1,by omega,by push_cast;rfl,hBw.out,Dh (by rw[HTK.out,hf])⟩,by simp[intOf];omega⟩
     |false=>
      rw[hf] at hq;go_wp2
      rw[HNO.out hf];go_ret;exact⟨rfl,hBw.out⟩
    ·have hq:((kd:Int)==39)=Qb2 kd 114:=Fz kd 39;cases hf:Qb2 kd 114 with
     |true=>
      rw[hf] at hq;go_wp2
      go_simp;exact⟨⟨k+1,by omega,by push_cast;rfl,hBw.out,Dh (by rw[HTK.out,hf])⟩,by simp[intOf];omega⟩
     |false=>
      rw[hf] at hq;go_wp2
      rw[HNO.out hf];go_ret;exact⟨rfl,hBw.out⟩
    ·have hq:((kd:Int)==6)=Qb2 kd 112:=Fz kd 6;cases hf:Qb2 kd 112 with
     |true=>
      rw[hf] at hq;go_wp2
      go_simp;exact⟨⟨k+1,by omega,by push_cast;rfl,hBw.out,Dh (by rw[HTK.out,hf])⟩,by simp[intOf];omega⟩
     |false=>
      rw[hf] at hq;go_wp2
      rw[HNO.out hf];go_ret;exact⟨rfl,hBw.out⟩
    ·have hq:((kd:Int)==7)=Qb2 kd 113:=Fz kd 7;cases hf:Qb2 kd 113 with
     |true=>
      rw[hf] at hq;go_wp2
      go_simp;exact⟨⟨k+1,by omega,by push_cast;rfl,hBw.out,Dh (by rw[HTK.out,hf])⟩,by simp[intOf];omega⟩
     |false=>
      rw[hf] at hq;go_wp2
      rw[HNO.out hf];go_ret;exact⟨rfl,hBw.out⟩
    ·have hq:((kd:Int)==4)=Qb2 kd 103:=Fz kd 4;cases hf:Qb2 kd 103 with
     |true=>
      rw[hf] at hq;go_wp2
      go_simp;exact⟨⟨k+1,by omega,by push_cast;rfl,hBw.out,Dh (by rw[HTK.out,hf])⟩,by simp[intOf];omega⟩
     |false=>
      rw[hf] at hq;go_wp2
      rw[HNO.out hf];go_ret;exact⟨rfl,hBw.out⟩
    ·have hq:(sortB kd==116)=Qb2 kd 116:=rfl;cases hf:Qb2 kd 116 with
     |true=>
      rw[hf] at hq;go_wp2
      go_simp;exact⟨⟨k+1,by omega,by push_cast;rfl,hBw.out,Dh (by rw[HTK.out,hf])⟩,by simp[intOf];omega⟩
     |false=>
      rw[hf] at hq;go_wp2
      rw[HNO.out hf];go_ret;exact⟨rfl,hBw.out⟩
    ·have hq:(sortB kd==101)=Qb2 kd 101:=rfl;cases hf:Qb2 kd 101 with
     |true=>
      rw[hf] at hq;go_wp2
      go_simp;exact⟨⟨k+1,by omega,by push_cast;rfl,hBw.out,Dh (by rw[HTK.out,hf])⟩,by simp[intOf];omega⟩
     |false=>
      rw[hf] at hq;go_wp2
      rw[HNO.out hf];go_ret;exact⟨rfl,hBw.out⟩
   ·obtain rfl:k=l.length:=by omega
    have hq1:¬ (l.length:Int)<(l.length:Int):=by omega
    have ha:=hall.out;rw[List.take_length,hlen,←HSZ.out,List.take_length] at ha;go_wp2
    go_ret;exact⟨rfl,hBw⟩
 ·have hq0:((l.length:Int)==(s.size:Int))=false:=by rw[beq_eq_false_iff_ne];omega
  go_wp2
  have hx:Vo l s.data.toList=false:=by
   cases h:Vo l s.data.toList with
   |false=>rfl
   |true=>exact absurd ((Qeh h).trans HSZ.out) hlen
  rw[hx];go_ret;exact⟨rfl,Below.refl _ _⟩
theorem kinds_of {S:Nat→Prop}{w:World}{g o:Nat}{l:List Tr}(h:Xp S w g l o):D8 w (some ⟨g,o,none⟩) l:=by
 refine .inr ⟨g,o,rfl,fun i t hi=>?_⟩;obtain⟨u0,u1,u2,u3,u4,c0,-,-,-,-,hu⟩:=h.at_ i t hi;cases t;unfold X3 at hu;obtain⟨_,_,he,-⟩:=hu;simp only[List.cons.injEq] at he;rw[Nat.mul_comm,c0,he.1];rfl
theorem D8.below {w w':World}{a:Option Addr}{l:List Tr}(h:D8 w a l)(hB:Below w.heap.size w w'):D8 w' a l:=h.imp id fun ⟨g,o,e,hc⟩=>⟨g,o,e,fun i t hi=>bc hB (hc i t hi)⟩
theorem U1 {S:Nat→Prop}{w:World}{a:Option Addr}{l:List Tr}(h:l=[]∨∃ g o,a=some ⟨g,o,none⟩∧S g∧Xp S w g l o):D8 w a l:=by
 rcases h with h|⟨g,o,rfl,-,h⟩
 ·exact .inl h
 ·exact kinds_of h
theorem Xy (k:Nat)(hk:k=3∨k=5∨k=11∨k=12∨k=22∨k=21∨k=35∨k=39∨k=26∨k=43∨k=29∨k=38∨k=40∨k=41∨k=44∨k=45)(x:List UInt8)(n p:Nat)(l:List Tr)(S:Nat→Prop)(w:World)(v:Value)(hn:l.length≤1000000)(hV:Zd S w (.mk k x n p l) v)(hc:Zq k n l=true):
  Calls Tryz.prog 57 #[v] w fun e w'=>e=.returned (.bool true)∧Below w.heap.size w w':=by
 obtain⟨cs,he,hcs⟩:=hV;unfold X3 at hcs;obtain⟨a,cp,rfl,hl⟩:=hcs;subst he;have HK:=Dh (U1 hl);have HN:=Dh hn;clear hl hn;have hB0:=Dh ((Below.refl w.heap.size w).alloc (Nat.le_refl _) (.cells #[.int .i64 (k:Int),.string ⟨x.toArray⟩,.int .u64 (n:Int),.int .i64 (p:Int),.slice a l.length cp] 26));rcases hk with rfl|rfl|rfl|rfl|rfl|rfl|rfl|rfl|rfl|rfl|rfl|rfl|rfl|rfl|rfl|rfl;all_goals
  simp only[Zq] at hc;go_enter Tryz.func57,Tryz.ntmps57
  go_wp2_with (go_at_call 81;refine(G9 l _ _ a cp (HK.out.below hB0.out) HN.out Dd).mono ?_;rintro e W2 ⟨rfl,hB2⟩)
  go_ret;exact⟨rfl,Qb hB0.out hB2⟩
theorem Qmh (c:UInt8)(n:Int)(h:(c.toNat:Int)=n)(l:List Tr)(w:World)(a:Option Addr)(cp:Nat)(hl:D8 w a l)(hn:l.length≤1000000):Calls Tryz.prog 82 #[.slice a l.length cp,.int .i64 0,.int .u8 n] w fun e w'=>e=.returned (.bool (Qjp l c))∧w'=w:=by
 subst h;exact run_c l c w a cp hl hn
theorem Qhs (c:Nat)(n:Int)(h:(c:Int)=n)(l:List Tr)(w:World)(a:Option Addr)(cp:Nat)(hl:D8 w a l)(hn:l.length≤1000000):Calls Tryz.prog 80 #[.slice a l.length cp,.int .i64 n] w fun e w'=>e=.returned (.bool (Qng l c))∧w'=w:=by
 subst h;exact alike_c l c w a cp hl hn
theorem Y4 (k:Nat)(hk:k=8∨k=10∨k=27∨k=30∨k=31∨k=32)(x:List UInt8)(n p:Nat)(l:List Tr)(S:Nat→Prop)(w:World)(v:Value)(hn:l.length≤1000000)(hV:Zd S w (.mk k x n p l) v)(hc:Zq k n l=true):
  Calls Tryz.prog 57 #[v] w fun e w'=>e=.returned (.bool true)∧Below w.heap.size w w':=by
 obtain⟨cs,he,hcs⟩:=hV;unfold X3 at hcs;obtain⟨a,cp,rfl,hl⟩:=hcs;subst he;have HK:=Dh (U1 hl);have HN:=Dh hn;clear hl hn;have hB0:=Dh ((Below.refl w.heap.size w).alloc (Nat.le_refl _) (.cells #[.int .i64 (k:Int),.string ⟨x.toArray⟩,.int .u64 (n:Int),.int .i64 (p:Int),.slice a l.length cp] 26));rcases hk with rfl|rfl|rfl|rfl|rfl|rfl;all_goals
  simp only[Zq,beq_iff_eq] at hc;obtain rfl:=List.length_eq_zero_iff.1 hc;simp only[List.length_nil] at hB0;go_enter Tryz.func57,Tryz.ntmps57
  go_wp2
  go_ret;exact⟨rfl,hB0.out⟩
theorem Qb5 (k:Nat)(hk:k=7∨k=28)(x:List UInt8)(n p:Nat)(l:List Tr)(S:Nat→Prop)(w:World)(v:Value)(hn:l.length≤1000000)(hV:Zd S w (.mk k x n p l) v)(hc:Zq k n l=true):
  Calls Tryz.prog 57 #[v] w fun e w'=>e=.returned (.bool true)∧Below w.heap.size w w':=by
 obtain⟨cs,he,hcs⟩:=hV;unfold X3 at hcs;obtain⟨a,cp,rfl,hl⟩:=hcs;subst he;have HK:=Dh (U1 hl);have HN:=Dh hn;clear hl hn;have hB0:=Dh ((Below.refl w.heap.size w).alloc (Nat.le_refl _) (.cells #[.int .i64 (k:Int),.string ⟨x.toArray⟩,.int .u64 (n:Int),.int .i64 (p:Int),.slice a l.length cp] 26));rcases hk with rfl|rfl;all_goals
  simp only[Zq,Bool.or_eq_true,beq_iff_eq] at hc;by_cases h0:l.length=0
  ·obtain rfl:=List.length_eq_zero_iff.1 h0;simp only[List.length_nil] at hB0;go_enter Tryz.func57,Tryz.ntmps57
   go_wp2
   go_ret;exact⟨rfl,hB0.out⟩
  ·replace hc:=hc.resolve_left h0;have hq:((l.length:Int)==0)=false:=by rw[beq_eq_false_iff_ne];omega
   go_enter Tryz.func57,Tryz.ntmps57
   go_wp2_with (go_at_call 81;refine(G9 l _ _ a cp (HK.out.below hB0.out) HN.out Dd).mono ?_;rintro e W2 ⟨rfl,hB2⟩;have hB2:=Dh (Qb hB0.out hB2))
   go_ret;exact⟨rfl,hB2.out⟩
theorem Px (k:Nat)(hk:k=2∨k=6∨k=4)(x:List UInt8)(n p:Nat)(l:List Tr)(S:Nat→Prop)(w:World)(v:Value)(hn:l.length≤1000000)(hV:Zd S w (.mk k x n p l) v)(hc:Zq k n l=true)(hm:l.length≤16):
  Calls Tryz.prog 57 #[v] w fun e w'=>e=.returned (.bool true)∧Below w.heap.size w w':=by
 obtain⟨cs,he,hcs⟩:=hV;unfold X3 at hcs;obtain⟨a,cp,rfl,hl⟩:=hcs;subst he;have HK:=Dh (U1 hl);have HN:=Dh hn;clear hl hn;have hB0:=Dh ((Below.refl w.heap.size w).alloc (Nat.le_refl _) (.cells #[.int .i64 (k:Int),.string ⟨x.toArray⟩,.int .u64 (n:Int),.int .i64 (p:Int),.slice a l.length cp] 26));rcases hk with rfl|rfl|rfl
 ·simp only[Zq] at hc;have hq:decide ((l.length:Int)≤16)=true:=decide_eq_true Dw;go_enter Tryz.func57,Tryz.ntmps57
  go_wp2_with (go_at_call 80;refine(Qhs 5 5 rfl l _ a cp (HK.out.below hB0.out) HN.out).mono ?_;rintro e W2 ⟨rfl,rfl⟩;have hB2:=hB0)
  go_ret;exact⟨rfl,hB2.out⟩
 ·simp only[Zq] at hc;have hq:decide ((l.length:Int)≤16)=true:=decide_eq_true Dw;go_enter Tryz.func57,Tryz.ntmps57
  go_wp2_with (go_at_call 80;refine(Qhs 5 5 rfl l _ a cp (HK.out.below hB0.out) HN.out).mono ?_;rintro e W2 ⟨rfl,rfl⟩;have hB2:=hB0)
  go_ret;exact⟨rfl,hB2.out⟩
 ·simp only[Zq] at hc;have hq:decide ((l.length:Int)≤16)=true:=decide_eq_true Dw;go_enter Tryz.func57,Tryz.ntmps57
  go_wp2_with (go_at_call 80;refine(Qhs 8 8 rfl l _ a cp (HK.out.below hB0.out) HN.out).mono ?_;rintro e W2 ⟨rfl,rfl⟩;have hB2:=hB0)
  go_ret;exact⟨rfl,hB2.out⟩
theorem Lp (k:Nat)(hk:k=20∨k=37∨k=34)(x:List UInt8)(n p:Nat)(l:List Tr)(S:Nat→Prop)(w:World)(v:Value)(hn:l.length≤1000000)(hV:Zd S w (.mk k x n p l) v)(hc:Zq k n l=true)(hm:k≠20→l.length≤17)(hm2:k=37→l.length≤16):
  Calls Tryz.prog 57 #[v] w fun e w'=>e=.returned (.bool true)∧Below w.heap.size w w':=by
 obtain⟨cs,he,hcs⟩:=hV;unfold X3 at hcs;obtain⟨a,cp,rfl,hl⟩:=hcs;subst he;have HK:=Dh (U1 hl);have HN:=Dh hn;clear hl hn;have hB0:=Dh ((Below.refl w.heap.size w).alloc (Nat.le_refl _) (.cells #[.int .i64 (k:Int),.string ⟨x.toArray⟩,.int .u64 (n:Int),.int .i64 (p:Int),.slice a l.length cp] 26));rcases hk with rfl|rfl|rfl
 ·simp only[Zq,Bool.and_eq_true,decide_eq_true_eq] at hc;try obtain⟨hc1,hc⟩:=hc
  try (have hq2:decide ((1:Int)≤(l.length:Int))=true:=decide_eq_true Dw)
  try (have hq:decide ((l.length:Int)≤16)=true:=decide_eq_true (by have:=hm2 rfl;omega))
  try (have hq3:decide ((l.length:Int)≤17)=true:=decide_eq_true (by have:=hm Dd;omega))
  clear hm hm2;go_enter Tryz.func57,Tryz.ntmps57
  go_wp2_with (go_at_call 82;refine(Qmh 115 115 rfl l _ a cp (HK.out.below hB0.out) HN.out).mono ?_;rintro e W2 ⟨rfl,rfl⟩;have hB2:=hB0)
  go_ret;exact⟨rfl,hB2.out⟩
 ·simp only[Zq,Bool.and_eq_true,decide_eq_true_eq] at hc;try obtain⟨hc1,hc⟩:=hc
  try (have hq2:decide ((1:Int)≤(l.length:Int))=true:=decide_eq_true Dw)
  try (have hq:decide ((l.length:Int)≤16)=true:=decide_eq_true (by have:=hm2 rfl;omega))
  try (have hq3:decide ((l.length:Int)≤17)=true:=decide_eq_true (by have:=hm Dd;omega))
  clear hm hm2;go_enter Tryz.func57,Tryz.ntmps57
  go_wp2_with (go_at_call 82;refine(Qmh 101 101 rfl l _ a cp (HK.out.below hB0.out) HN.out).mono ?_;rintro e W2 ⟨rfl,rfl⟩;have hB2:=hB0)
  go_ret;exact⟨rfl,hB2.out⟩
 ·simp only[Zq,Bool.and_eq_true,decide_eq_true_eq] at hc;try obtain⟨hc1,hc⟩:=hc
  try (have hq2:decide ((1:Int)≤(l.length:Int))=true:=decide_eq_true Dw)
  try (have hq:decide ((l.length:Int)≤16)=true:=decide_eq_true (by have:=hm2 rfl;omega))
  try (have hq3:decide ((l.length:Int)≤17)=true:=decide_eq_true (by have:=hm Dd;omega))
  clear hm hm2;go_enter Tryz.func57,Tryz.ntmps57
  go_wp2_with (go_at_call 82;refine(Qmh 101 101 rfl l _ a cp (HK.out.below hB0.out) HN.out).mono ?_;rintro e W2 ⟨rfl,rfl⟩;have hB2:=hB0)
  go_ret;exact⟨rfl,hB2.out⟩
mutual
def P8:Tr→List Tr
 | .mk k x n p l => .mk k x n p l::G7 l
def G7:List Tr→List Tr
 | []=>[]
 |t::l=>P8 t++G7 l
end
mutual
theorem Qba:∀ t:Tr,(P8 t).length=Xf t
 | .mk k x n p l=>by
  unfold P8 Xf;rw[List.length_cons,Qbb l];omega
theorem Qbb:∀ l:List Tr,(G7 l).length=Zh l
 | []=>by unfold G7 Zh;rfl
 |t::l=>by
  unfold G7 Zh;rw[List.length_append,Qba t,Qbb l]
end
theorem Qdv:∀ {l:List Tr} {i:Nat} {t:Tr},l[i]? = some t→G7 (l.take (i+1))=G7 (l.take i)++P8 t
 | [],_,_,h=>by simp at h
 |u::l,0,t,h=>by
  simp at h;subst h;simp[G7]
 |u::l,i+1,t,h=>by
  have:=Qdv (l:=l) (i:=i) (t:=t) (by simpa using h);simp only[List.take_succ_cons,G7];rw[this,List.append_assoc]
structure Two (w w':World)(r s:Option Nat):Prop where
 os:w'.os=w.os
 tape:w'.tape=w.tape
 output:w'.output=w.output
 size:w.heap.size≤w'.heap.size
 block:∀ k,k<w.heap.size→some k≠r→some k≠s→w'.heap[k]? = w.heap[k]?
def Qni (w:World)(v v':Value):Prop:=v'.ownBlock=v.ownBlock∨∃ g,w.heap.size≤g∧v'.ownBlock=some g
structure Qpu (b:Nat)(w:World)(v d:Value)(l:List Tr)(m:Nat):Prop where
 kids:Kids b (· < b) w v l
 nums:∃ cs,w.ownsRow b 3 1 d m cs
 apart:∀ g,v.ownBlock=some g→d.ownBlock≠some g
theorem Kids.own {b:Nat}{S:Nat→Prop}{w:World}{v:Value}{l:List Tr}(h:Kids b S w v l){g:Nat}(hg:v.ownBlock=some g):b≤g∧g<w.heap.size:=by
 obtain⟨cs,h1,-⟩:=h;exact h1.lt g hg
theorem Qpu.below {b:Nat}{w w':World}{v d:Value}{l:List Tr}{m:Nat}(h:Qpu b w v d l m)(hb:Below w.heap.size w w'):Qpu b w' v d l m:=by
 obtain⟨h1,⟨cs,h2⟩,h3⟩:=h;exact⟨h1.below hb,⟨cs,ownsRow_below h2 hb⟩,h3⟩
theorem Kids.grown {b:Nat}{w w':World}{v:Value}{l:List Tr}{row:Option Nat}(h:Kids b (· < b) w v l)(hg:w.grownBy w' row)(h1:v.ownBlock=none∨v.ownBlock≠row)(h2:∀ g,row=some g→b≤g):Kids b (· < b) w' v l:=by
 obtain⟨cs,k1,k2⟩:=h;refine⟨cs,k1.kept hg h1,k2.frame (fun _ h _=>h) fun k hk hlt=>hg.block k hlt fun e=>?_⟩
 have:=h2 k e.symm;have hk1:k<b:=hk.1;omega
theorem apart_l {v d:Option Nat}(h:∀ g,v=some g→d≠some g):d=none∨d≠v:=by
 cases d with
 |none=>exact .inl rfl
 |some g=>exact .inr fun e=>h g e.symm rfl
theorem apart_r {v d:Option Nat}(h:∀ g,v=some g→d≠some g):v=none∨v≠d:=by
 cases v with
 |none=>exact .inl rfl
 |some g=>exact .inr fun e=>h g rfl e.symm
theorem Qpu.node {b:Nat}{w w':World}{v v' d:Value}{l:List Tr}{m:Nat}{t:Tr}(h:Qpu b w v d l m)(hk:Kids b (· < b) w' v' (l++[t]))(hg:w.grownBy w' v.ownBlock)(ho:v'.ownBlock=v.ownBlock∨v'.ownBlock=some w.heap.size):Qpu b w' v' d (l++[t]) m:=by
 obtain⟨h1,⟨cs,h2⟩,h3⟩:=h;refine⟨hk,⟨cs,h2.kept hg (apart_l h3)⟩,fun g hv hd=>?_⟩;rcases ho with ho|ho
 ·exact h3 g (ho.symm.trans hv) hd
 ·have:=(h2.lt g hd).2;rw[ho] at hv;cases hv;omega
theorem Qpu.num {b:Nat}{w w':World}{v d d':Value}{l:List Tr}{m:Nat}{cs:List Value}(h:Qpu b w v d l m)(hk:w'.ownsRow b 3 1 d' (m+1) cs)(hg:w.grownBy w' d.ownBlock)(ho:d'.ownBlock=d.ownBlock∨d'.ownBlock=some w.heap.size):Qpu b w' v d' l (m+1):=by
 obtain⟨h1,⟨cs0,h2⟩,h3⟩:=h;refine⟨h1.grown hg (apart_r h3) fun g hd=>(h2.lt g hd).1,⟨cs,hk⟩,fun g hv hd=>?_⟩;rcases ho with ho|ho
 ·exact h3 g hv (ho.symm.trans hd)
 ·have:=(h1.own hv).2;rw[ho] at hd;cases hd;omega
theorem Two.refl (w:World)(r s:Option Nat):Two w w r s:=⟨rfl,rfl,rfl,Nat.le_refl _,fun _ _ _ _=>rfl⟩
theorem Two.below {w w1 w2:World}{r s:Option Nat}(h:Two w w1 r s)(hb:Below w1.heap.size w1 w2):Two w w2 r s:=
 ⟨hb.os.trans h.os,hb.tape.trans h.tape,hb.output.trans h.output,Nat.le_trans h.size hb.size,fun k hk h1 h2=>(hb.block k (by have:=h.size;omega)).trans (h.block k hk h1 h2)⟩
theorem Two.trans {w w1 w2:World}{r s r' s':Option Nat}(h:Two w w1 r s)(h':Two w1 w2 r' s')(hr:r'=r∨∃ g,w.heap.size≤g∧r'=some g)(hs:s'=s∨∃ g,w.heap.size≤g∧s'=some g):Two w w2 r s:=
 ⟨h'.os.trans h.os,h'.tape.trans h.tape,h'.output.trans h.output,Nat.le_trans h.size h'.size,fun k hk h1 h2=>(h'.block k (by have:=h.size;omega) (by
   rcases hr with hr|⟨g,hg,hr⟩
   ·rw[hr];exact h1
   ·rw[hr];intro e;cases e;omega) (by
   rcases hs with hs|⟨g,hg,hs⟩
   ·rw[hs];exact h2
   ·rw[hs];intro e;cases e;omega)).trans (h.block k hk h1 h2)⟩
theorem Two.of_l {w w':World}{r s:Option Nat}(h:w.grownBy w' r):Two w w' r s:=⟨h.os,h.tape,h.output,h.size,fun k hk h1 _=>h.block k hk h1⟩
theorem Two.of_r {w w':World}{r s:Option Nat}(h:w.grownBy w' s):Two w w' r s:=⟨h.os,h.tape,h.output,h.size,fun k hk _ h1=>h.block k hk h1⟩
theorem Two.below_b {w w':World}{r s:Option Nat}{b:Nat}(h:Two w w' r s)(hb:b≤w.heap.size)(hr:∀ g,r=some g→b≤g)(hs:∀ g,s=some g→b≤g):Below b w w':=
 ⟨h.os,h.tape,h.output,h.size,fun k hk=>h.block k Dw (fun e=>by have:=hr k e.symm;omega) fun e=>by have:=hs k e.symm;omega⟩
theorem Qni.refl (w:World)(v:Value):Qni w v v:=.inl rfl
theorem Qni.trans {w w1:World}{v v1 v2:Value}(h:Qni w v v1)(h':Qni w1 v1 v2)(hs:w.heap.size≤w1.heap.size):Qni w v v2:=by
 rcases h' with h'|⟨g,hg,h'⟩
 ·rcases h with h|⟨g,hg,h⟩
  ·exact .inl (h'.trans h)
  ·exact .inr ⟨g,hg,h'.trans h⟩
 ·exact .inr ⟨g,by omega,h'⟩
theorem Qj1 {ops:Array Oper}{rest:List Oper}{o:Oper}{a:Act}{w:World}{Q:Exit→Act→World→Prop}(hgd:o.guard=none)(s x:Operand)(ho:o.op=.call { callee:=.builtin .append,args := #[s,x],argTypes := #[24,24] })
  {b:Nat} {S:Nat→Prop} {v:Value} {l l':List Tr} (hs:a.eval s=v) (hk:Kids b S w v l) {cs':List Value} {ad:Addr} {c:Nat} (hx:a.eval x=.slice (some ad) l'.length c)
  (hc':Uj (fun k=>S k∧some k≠v.ownBlock) w l' cs') (hcell:∀ j u,cs'[j]? = some u→w.cell? (ad.add j)=some u) (hn:l.length+l'.length≤1000000) (hb:b≤w.heap.size)
  (h:∀ v' w',Kids b S w' v' (l++l')→w.grownBy w' v.ownBlock→(v'.ownBlock=v.ownBlock∨v'.ownBlock=some w.heap.size)→wpList Tryz.prog ops Q rest (a.put o.dst v') w'):wpList Tryz.prog ops Q (o::rest) a w:=
 wpList_plain hgd fun _ hK=>wp_app s x ho hs hk hx hc' hcell hn hb fun v' w' h1 h2 h3=>hK _ _ (h v' w' h1 h2 h3)
theorem Tryz.infoInt:((Tryz.prog).info? 3).map (fun i=>(i.zero,i.size,i.bytes))=some (some (.int .i64 0),1,8):=by kernel_rfl
theorem Qnt {ops:Array Oper}{rest:List Oper}{o:Oper}{a:Act}{w:World}{Q:Exit→Act→World→Prop}(hgd:o.guard=none)(s x:Operand)(ho:o.op=.call { callee:=.builtin .append,args := #[s,x],argTypes := #[42,42] })
  {b m:Nat} {d u:Value} {cs:List Value} (hs:a.eval s=d) (hk:w.ownsRow b 3 1 d m cs) {ad:Addr} {c:Nat} (hx:a.eval x=.slice (some ad) 1 c)
  (hcell:∀ j y,[u][j]? = some y→w.cell? (ad.add j)=some y) (hu:u.oneCell'=true) (hn:m≤1000000) (hb:b≤w.heap.size)
  (h:∀ d' w',w'.ownsRow b 3 1 d' (m+1) (cs++[u])→w.grownBy w' d.ownBlock→(d'.ownBlock=d.ownBlock∨d'.ownBlock=some w.heap.size)→wpList Tryz.prog ops Q rest (a.put o.dst d') w'):wpList Tryz.prog ops Q (o::rest) a w:=by
 obtain⟨i0,hi,hz0,hz1,hz2⟩:=info_parts Tryz.infoInt;obtain⟨v',w',hr,k1,k2,-,k4⟩:=run_append_own_at (P:=Tryz.prog) (w:=w) b 42 o.type 3 i0 (.int .i64 0) 1 8 Tryz.underlying42 hi hz0 hz1 hz2 rfl Dd d m cs hk ad 1 c [u] rfl hcell (by simpa using hu) (by unfold maxLen;omega) Dw hb;refine wpList_plain hgd fun K hK=>?_
 unfold Oper.wp execOp;simp only[ho,resolve,invoke,builtin,Sem.run_bind,Sem.run_pure,Result.andThen_ok,List.map_toArray,List.map_cons,List.map_nil,hs,hx,hr];exact hK _ _ (h v' w' k1 k2 k4)
theorem cell1n {w:World}{u:Value}{t:TypeId}:∀ j y,[u][j]? = some y→(w.alloc (.cells #[u] t)).cell? ((⟨w.heap.size,0,none⟩:Addr).add j)=some y:=by
 intro j y hj;have hb:=Qz w (.cells #[u] t);rw[Lib.add_plain];unfold World.cell?
 dsimp only;rw[hb];match j,hj with
 |0,hj=>cases hj;rfl
def RowP (w W:World)(kd:Nat)(x:List UInt8)(nn pl:Nat)(a:Option Addr)(len cp:Nat):Prop:=W.rangeAt w.heap.size 0 [.int .i64 (kd:Int),.string ⟨x.toArray⟩,.int .u64 (nn:Int),.int .i64 (pl:Int),.slice a len cp]
theorem Qkn {W W':World}{g o:Nat}{cs:List Value}(h:W.rangeAt g o cs)(hb:W'.heap[g]? = W.heap[g]?):W'.rangeAt g o cs:=fun j v hv=>Uf hb (h j v hv)
theorem flat_c:∀ (n:Nat) (t:Tr) (b:Nat) (w:World) (v vn vd:Value) (d:Int) (l:List Tr) (m:Nat),Xf t≤n→n≤900000→Zd (· < b) w t v→b≤w.heap.size→Qpu b w vn vd l m→l.length+Xf t≤900000→m+Xf t≤900000→
  Calls Tryz.prog 19 #[v,.int .i64 d,vn,vd] w fun e w'=>∃ vn' vd',e=.returned (.tuple #[vn',vd'])∧Qpu b w' vn' vd' (l++P8 t) (m+Xf t)∧Two w w' vn.ownBlock vd.ownBlock∧Qni w vn vn'∧Qni w vd vd':=by
 intro n;induction n with
 |zero=>intro t b w v vn vd d l m h;cases t;unfold Xf at h;omega
 |succ n ih=>
  intro t b w v vn vd d l m hn hbig h hb hG hl1 hm1;cases t with
  |mk kd x nn pl kids=>
  obtain⟨cs,he,hc⟩:=h;have hc0:=hc;unfold X3 at hc;obtain⟨a,cp,rfl,hl⟩:=hc;subst he;unfold Xf at hn hl1 hm1;have IH:=Dh ih;have HL:=Dh hl;have HN:=Dh hn;have HB:=Dh hbig;have Hb:=Dh hb;have HG:=Dh hG;have HL1:=Dh hl1;have HM1:=Dh hm1;have HC0:=Dh hc0;clear ih hl hn hbig hb hG hl1 hm1 hc0;have hB0:=Dh ((Below.refl w.heap.size w).alloc (Nat.le_refl _) (.cells #[.int .i64 (kd:Int),.string ⟨x.toArray⟩,.int .u64 (nn:Int),.int .i64 (pl:Int),.slice a kids.length cp] 26))
  have hP:=Dh (show RowP w (w.alloc (.cells #[.int .i64 (kd:Int),.string ⟨x.toArray⟩,.int .u64 (nn:Int),.int .i64 (pl:Int),.slice a kids.length cp] 26)) kd x nn pl a kids.length cp from fun j u hj=>by
   have:=Qeu (w:=w) (t:=26) j u hj;rw[Lib.add_plain] at this
   exact this)
  go_enter Tryz.func19,Tryz.ntmps19
  have hW2:=Dh (((Below.refl w.heap.size w).alloc (Nat.le_refl _) (.cells #[.int .i64 (kd:Int),.string ⟨x.toArray⟩,.int .u64 (nn:Int),.int .i64 (pl:Int),.slice a kids.length cp] 26)).alloc Ds (.cells #[.int .i64 (kd:Int),.string ⟨x.toArray⟩,.int .u64 (nn:Int),.int .i64 (pl:Int),.slice a kids.length cp] 26));have hG2:=Dh (HG.out.below hW2.out);have hlt:=Dh fun g hg=>HG.out.kids.own (g:=g) hg
  have hC2:=Dh (show Uj (fun k=>k<b∧some k≠vn.ownBlock) ((w.alloc (.cells #[.int .i64 (kd:Int),.string ⟨x.toArray⟩,.int .u64 (nn:Int),.int .i64 (pl:Int),.slice a kids.length cp] 26)).alloc (.cells #[.int .i64 (kd:Int),.string ⟨x.toArray⟩,.int .u64 (nn:Int),.int .i64 (pl:Int),.slice a kids.length cp] 26)) [.mk kd x nn pl kids] [.int .i64 (kd:Int),.string ⟨x.toArray⟩,.int .u64 (nn:Int),.int .i64 (pl:Int),.slice a kids.length cp] from Uj.single (HC0.out.frame (fun k hk _=>⟨hk,fun e=>by have:=(hlt.out k e.symm).1;have h1:k<b:=hk;omega⟩) fun k hk hk2=>hW2.out.block k hk2))
  have hcl:=Dh (show ∀ j u,[Value.int .i64 (kd:Int),.string ⟨x.toArray⟩,.int .u64 (nn:Int),.int .i64 (pl:Int),.slice a kids.length cp][j]? = some u→((w.alloc (.cells #[.int .i64 (kd:Int),.string ⟨x.toArray⟩,.int .u64 (nn:Int),.int .i64 (pl:Int),.slice a kids.length cp] 26)).alloc (.cells #[.int .i64 (kd:Int),.string ⟨x.toArray⟩,.int .u64 (nn:Int),.int .i64 (pl:Int),.slice a kids.length cp] 26)).cell? ((⟨w.heap.size+1,0,none⟩:Addr).add j)=some u from fun j u h=>by
   have:=Qeu (w:=w.alloc (.cells #[.int .i64 (kd:Int),.string ⟨x.toArray⟩,.int .u64 (nn:Int),.int .i64 (pl:Int),.slice a kids.length cp] 26)) (t:=26) j u h;rw[show (w.alloc (.cells #[.int .i64 (kd:Int),.string ⟨x.toArray⟩,.int .u64 (nn:Int),.int .i64 (pl:Int),.slice a kids.length cp] 26)).heap.size=w.heap.size+1 by simp] at this
   exact this)
  go_wp2_with (first|(at_builtin;refine Qnt rfl _ _ rfl (b:=b) (m:=m) (d:=vd) rfl hN4.out (ad:=⟨w3.heap.size,0,none⟩) (c:=1) (u:=.int .i64 d) rfl cell1n rfl (by have:=HM1.out;omega) (by have h1:=Hb.out;have h3:=hS3.out;simp at h3 ⊢;omega) ?_;intro d1 w5 hK5 hgr5 ho5;have hG5:=Dh (hG4.out.num hK5 hgr5 ho5);have hgr5:=Dh hgr5;have ho5:=Dh ho5;clear hK5 hN4 hG4)|(at_builtin;refine Qj1 rfl _ _ rfl (b:=b) (S:=(· < b)) (l:=l) (l':=[.mk kd x nn pl kids]) rfl hG2.out.kids (cs':=[.int .i64 (kd:Int),.string ⟨x.toArray⟩,.int .u64 (nn:Int),.int .i64 (pl:Int),.slice a kids.length cp]) (ad:=⟨w.heap.size+1,0,none⟩) (c:=1) rfl hC2.out hcl.out (by have:=HL1.out;simp only[List.length_singleton];omega) (by have:=Hb.out;have:=hW2.out.size;omega) ?_;intro v1 w3 hK3 hgr3 ho3;have hG3:=hG2.out.node hK3 hgr3 ho3;have hS3:=Dh hgr3.size;have hG4:=hG3.below ((Below.refl w3.heap.size w3).alloc (Nat.le_refl _) (.cells #[.int .i64 d] 3));obtain⟨cs4,hN4⟩:=hG4.nums;have hN4:=Dh hN4;have hG4:=Dh hG4;have hgr3:=Dh hgr3;have ho3:=Dh ho3;clear hK3 hG3 hG2))
  have hsz2:((w.alloc (.cells #[.int .i64 (kd:Int),.string ⟨x.toArray⟩,.int .u64 (nn:Int),.int .i64 (pl:Int),.slice a kids.length cp] 26)).alloc (.cells #[.int .i64 (kd:Int),.string ⟨x.toArray⟩,.int .u64 (nn:Int),.int .i64 (pl:Int),.slice a kids.length cp] 26)).heap.size=w.heap.size+2:=by simp
  have hsz1:(w.alloc (.cells #[.int .i64 (kd:Int),.string ⟨x.toArray⟩,.int .u64 (nn:Int),.int .i64 (pl:Int),.slice a kids.length cp] 26)).heap.size=w.heap.size+1:=by simp
  have hT:=Dh (show Two (w.alloc (.cells #[.int .i64 (kd:Int),.string ⟨x.toArray⟩,.int .u64 (nn:Int),.int .i64 (pl:Int),.slice a kids.length cp] 26)) w5 vn.ownBlock vd.ownBlock from ((((Two.refl _ _ _).below ((Below.refl _ _).alloc (Nat.le_refl _) (.cells #[.int .i64 (kd:Int),.string ⟨x.toArray⟩,.int .u64 (nn:Int),.int .i64 (pl:Int),.slice a kids.length cp] 26))).trans (Two.of_l hgr3.out (s:=vd.ownBlock)) (.inl rfl) (.inl rfl)).below ((Below.refl w3.heap.size w3).alloc (Nat.le_refl _) (.cells #[.int .i64 d] 3))).trans (Two.of_r hgr5.out (r:=vn.ownBlock)) (.inl rfl) (.inl rfl));have hO1:=Dh (show Qni (w.alloc (.cells #[.int .i64 (kd:Int),.string ⟨x.toArray⟩,.int .u64 (nn:Int),.int .i64 (pl:Int),.slice a kids.length cp] 26)) vn v1 from ho3.out.imp id fun h=>⟨_,by rw[hsz1,hsz2];omega,h⟩);have hO2:=Dh (show Qni (w.alloc (.cells #[.int .i64 (kd:Int),.string ⟨x.toArray⟩,.int .u64 (nn:Int),.int .i64 (pl:Int),.slice a kids.length cp] 26)) vd d1 from ho5.out.imp id fun h=>⟨_,by have h3:=hS3.out;simp at h3 ⊢;omega,h⟩);have hWW:=Dh (show Two w (w.alloc (.cells #[.int .i64 (kd:Int),.string ⟨x.toArray⟩,.int .u64 (nn:Int),.int .i64 (pl:Int),.slice a kids.length cp] 26)) vn.ownBlock vd.ownBlock from (Two.refl _ _ _).below ((Below.refl _ _).alloc (Nat.le_refl _) _));have hld:=Dh (show ∀ g,vd.ownBlock=some g→b≤g∧g<w.heap.size from fun g e=>by obtain⟨cs,hcs⟩:=HG.out.nums;exact hcs.lt _ e);clear hgr3 hgr5 ho3 ho5 hC2 hcl hW2 hB0 hS3 hsz2;have hG5:=Dh hG5.out;generalize hW1:w.alloc (.cells #[.int .i64 (kd:Int),.string ⟨x.toArray⟩,.int .u64 (nn:Int),.int .i64 (pl:Int),.slice a kids.length cp] 26)=W1 at *;go_loopw [2,3,10] (fun v2 d2 i wr=>∃ k:Nat,k≤kids.length∧i=.int .i64 k∧RowKit.Hid (Qpu b wr v2 d2 (l++(.mk kd x nn pl kids::G7 (kids.take k))) (m+(1+Zh (kids.take k))))∧RowKit.Hid (Two W1 wr vn.ownBlock vd.ownBlock)∧RowKit.Hid (Qni W1 vn v2)∧RowKit.Hid (Qni W1 vd d2)) (fun _ _ i _=>kids.length-(intOf i).toNat)
  case atStart=>exact⟨0,Nat.zero_le _,rfl,Dh (by simpa [G7,Zh] using hG5.out),hT,hO1,hO2⟩
  case round=>
   clear hG5 hT hO1 hO2 hgr5 ho5 hG4 hN4;obtain⟨k,hk,rfl,hGk,hTk,hO1,hO2⟩:=hrel;have hblk:∀ k,k<b→wr.heap[k]? = w.heap[k]? := fun j hj=>by
    have h1:=Hb.out;rw[hTk.out.block j Dw (fun e=>by have:=(hlt.out _ e.symm).1;omega) (fun e=>by have:=(hld.out _ e.symm).1;omega)];exact hWW.out.block j Dw (fun e=>by have:=(hlt.out _ e.symm).1;omega) (fun e=>by have:=(hld.out _ e.symm).1;omega)
   have hPw:RowP w wr kd x nn pl a kids.length cp:=Qkn hP.out (hTk.out.block w.heap.size Dw (fun e=>by have:=(hlt.out _ e.symm).2;omega) (fun e=>by have:=(hld.out _ e.symm).2;omega));have q1:wr.cell? ⟨w.heap.size,4,none⟩=some (Value.slice a kids.length cp):=hPw 4 _ rfl;clear hPw;by_cases hkl:k<kids.length
   ·obtain⟨g,o,rfl,hg,hR⟩:=HL.out.resolve_left (by rintro rfl;simp at hkl);obtain⟨kid,hkid⟩:∃ u,kids[k]? = some u:=⟨_,List.getElem?_eq_getElem hkl⟩;obtain⟨u0,u1,u4,u5,u6,c0,c1,c2,c3,c4,hu⟩:=hR.at_ k kid hkid;rw[Nat.mul_comm 5 k] at c0 c1 c2 c3 c4;have hrg:=Dh (Ut (Uf (hblk g hg) c0) (Uf (hblk g hg) c1) (Uf (hblk g hg) c2) (Uf (hblk g hg) c3) (Uf (hblk g hg) c4));have hV:=Dh (show Zd (· < b) wr kid (.agg #[u0,u1,u4,u5,u6]) from hu.agg.frame (fun j hj _=>hj) fun j hj _=>hblk j hj);have hts:=Dh (Gt hkid);have hnt:=Dh (Qdv hkid);have hle:=Dh (Bf kids (k+1));have hlen:=Td kids;have hk1:wrap64 ((k:Int)+1)=((k+1:Nat):Int):=by
     have:=HN.out;have:=HB.out;rw[w64 _ Dw Dw];omega
    clear hR c0 c1 c2 c3 c4 hu hg hkid hlen hblk;have hq1:(k:Int)<(kids.length:Int):=by omega
    go_wp2_with (first|((with_reducible refine wpList_load_mid rfl 26 _ rfl g (o+k*5) ?hx [u0,u1,u4,u5,u6] _ hrg.out Tryz.underlying26 rfl (Xe _ rfl) ?_);(case hx=>rfl))|(go_at_call 19;refine(IH.out kid b _ _ u2 u3 _ (l++(.mk kd x nn pl kids::G7 (kids.take k))) (m+(1+Zh (kids.take k))) (by have:=HN.out;have:=hts.out;have:=hle.out;omega) (by have:=HB.out;omega) hV.out (by have:=Hb.out;have:=hTk.out.size;omega) hGk.out (by have:=HL1.out;have:=hts.out;have:=hle.out;simp only[List.length_append,List.length_cons,Qbb];omega) (by have:=HM1.out;have:=hts.out;have:=hle.out;omega)).mono ?_;rintro e W2 ⟨vn2,vd2,rfl,hGn,hTn,hOn1,hOn2⟩;have hGn:=Dh hGn;have hTn:=Dh hTn;have hOn1:=Dh hOn1;have hOn2:=Dh hOn2))
    refine⟨⟨k+1,by omega,by rw[hk1],Dh ?_,Dh (hTk.out.trans hTn.out hO1.out hO2.out),Dh (hO1.out.trans hOn1.out hTk.out.size),Dh (hO2.out.trans hOn2.out hTk.out.size)⟩,by rw[hk1];simp[intOf];omega⟩;have hGn:=hGn.out;rw[List.append_assoc,List.cons_append,←hnt.out,Nat.add_assoc,Nat.add_assoc,←hts.out] at hGn;exact hGn
   ·obtain rfl:k=kids.length:=by omega
    have hq1:¬ (kids.length:Int)<(kids.length:Int):=by omega
    have hGk:=hGk.out;rw[List.take_length] at hGk;have hGk:=Dh hGk;clear hblk;go_wp2
    go_ret2
    refine⟨u2,u3,rfl,?_,hWW.out.trans hTk.out (.inl rfl) (.inl rfl),(Qni.refl w vn).trans hO1.out Dw,(Qni.refl w vd).trans hO2.out Dw⟩;unfold P8 Xf;exact hGk.out
theorem Qlr (x:List UInt8)(n p:Nat)(l:List Tr)(S:Nat→Prop)(w:World)(v:Value)(hn:l.length≤1000000)(hV:Zd S w (.mk 33 x n p l) v)(hc:Zq 33 n l=true):
  Calls Tryz.prog 57 #[v] w fun e w'=>e=.returned (.bool true)∧Below w.heap.size w w':=by
 obtain⟨cs,he,hcs⟩:=hV;unfold X3 at hcs;obtain⟨a,cp,rfl,hl⟩:=hcs;subst he;have HK:=Dh (U1 hl);have HN:=Dh hn;clear hl hn;have hB0:=Dh ((Below.refl w.heap.size w).alloc (Nat.le_refl _) (.cells #[.int .i64 (33:Nat),.string ⟨x.toArray⟩,.int .u64 (n:Int),.int .i64 (p:Int),.slice a l.length cp] 26));simp only[Zq,Bool.or_eq_true] at hc;cases h0:Vo l [101] with
 |true=>
  clear hc;go_enter Tryz.func57,Tryz.ntmps57
  go_wp2_with (go_at_call 81;refine(G9 l _ _ a cp (HK.out.below hB0.out) HN.out Dd).mono ?_;rintro e W2 ⟨rfl,hX⟩;have hB2:=Dh (Qb hB0.out hX);clear hX)
  go_ret;exact⟨rfl,hB2.out⟩
 |false=>
  rw[h0] at hc;replace hc:=hc.resolve_left Bool.false_ne_true;go_enter Tryz.func57,Tryz.ntmps57
  go_wp2_with (first|(go_at_call 81;refine(G9 l _ _ a cp (HK.out.below hB2.out) HN.out Dd).mono ?_;rintro e W3 ⟨rfl,hX⟩;have hB3:=Dh (Qb hB2.out hX);clear hX)|(go_at_call 81;refine(G9 l _ _ a cp (HK.out.below hB0.out) HN.out Dd).mono ?_;rintro e W2 ⟨rfl,hX⟩;have hB2:=Dh (Qb hB0.out hX);clear hX))
  go_ret;exact⟨rfl,hB3.out⟩
theorem Qlt (x:List UInt8)(n p:Nat)(l:List Tr)(S:Nat→Prop)(w:World)(v:Value)(hn:l.length≤1000000)(hV:Zd S w (.mk 24 x n p l) v)(hc:Zq 24 n l=true):
  Calls Tryz.prog 57 #[v] w fun e w'=>e=.returned (.bool true)∧Below w.heap.size w w':=by
 obtain⟨cs,he,hcs⟩:=hV;unfold X3 at hcs;obtain⟨a,cp,rfl,hl⟩:=hcs;subst he;have HK:=Dh (U1 hl);have HN:=Dh hn;clear hl hn;have hB0:=Dh ((Below.refl w.heap.size w).alloc (Nat.le_refl _) (.cells #[.int .i64 (24:Nat),.string ⟨x.toArray⟩,.int .u64 (n:Int),.int .i64 (p:Int),.slice a l.length cp] 26));simp only[Zq,Bool.or_eq_true] at hc;cases h0:Vo l [99] with
 |true=>
  clear hc;go_enter Tryz.func57,Tryz.ntmps57
  go_wp2_with (go_at_call 81;refine(G9 l _ _ a cp (HK.out.below hB0.out) HN.out Dd).mono ?_;rintro e W2 ⟨rfl,hX⟩;have hB2:=Dh (Qb hB0.out hX);clear hX)
  go_ret;exact⟨rfl,hB2.out⟩
 |false=>
  rw[h0] at hc;replace hc:=hc.resolve_left Bool.false_ne_true;go_enter Tryz.func57,Tryz.ntmps57
  go_wp2_with (first|(go_at_call 81;refine(G9 l _ _ a cp (HK.out.below hB2.out) HN.out Dd).mono ?_;rintro e W3 ⟨rfl,hX⟩;have hB3:=Dh (Qb hB2.out hX);clear hX)|(go_at_call 81;refine(G9 l _ _ a cp (HK.out.below hB0.out) HN.out Dd).mono ?_;rintro e W2 ⟨rfl,hX⟩;have hB2:=Dh (Qb hB0.out hX);clear hX))
  go_ret;exact⟨rfl,hB3.out⟩
theorem Qls (x:List UInt8)(n p:Nat)(l:List Tr)(S:Nat→Prop)(w:World)(v:Value)(hn:l.length≤1000000)(hV:Zd S w (.mk 25 x n p l) v)(hc:Zq 25 n l=true):
  Calls Tryz.prog 57 #[v] w fun e w'=>e=.returned (.bool true)∧Below w.heap.size w w':=by
 obtain⟨cs,he,hcs⟩:=hV;unfold X3 at hcs;obtain⟨a,cp,rfl,hl⟩:=hcs;subst he;have HK:=Dh (U1 hl);have HN:=Dh hn;clear hl hn;have hB0:=Dh ((Below.refl w.heap.size w).alloc (Nat.le_refl _) (.cells #[.int .i64 (25:Nat),.string ⟨x.toArray⟩,.int .u64 (n:Int),.int .i64 (p:Int),.slice a l.length cp] 26));simp only[Zq,Bool.or_eq_true] at hc;cases h0:Vo l [101,98] with
 |true=>
  clear hc;go_enter Tryz.func57,Tryz.ntmps57
  go_wp2_with (go_at_call 81;refine(G9 l _ _ a cp (HK.out.below hB0.out) HN.out Dd).mono ?_;rintro e W2 ⟨rfl,hX⟩;have hB2:=Dh (Qb hB0.out hX);clear hX)
  go_ret;exact⟨rfl,hB2.out⟩
 |false=>
  rw[h0] at hc;replace hc:=hc.resolve_left Bool.false_ne_true;cases h1:Vo l [101,98,98] with
  |true=>
   clear hc;go_enter Tryz.func57,Tryz.ntmps57
   go_wp2_with (first|(go_at_call 81;refine(G9 l _ _ a cp (HK.out.below hB2.out) HN.out Dd).mono ?_;rintro e W3 ⟨rfl,hX⟩;have hB3:=Dh (Qb hB2.out hX);clear hX)|(go_at_call 81;refine(G9 l _ _ a cp (HK.out.below hB0.out) HN.out Dd).mono ?_;rintro e W2 ⟨rfl,hX⟩;have hB2:=Dh (Qb hB0.out hX);clear hX))
   go_ret;exact⟨rfl,hB3.out⟩
  |false=>
   rw[h1] at hc;replace hc:=hc.resolve_left Bool.false_ne_true;go_enter Tryz.func57,Tryz.ntmps57
   go_wp2_with (first|(go_at_call 81;refine(G9 l _ _ a cp (HK.out.below hB3.out) HN.out Dd).mono ?_;rintro e W4 ⟨rfl,hX⟩;have hB4:=Dh (Qb hB3.out hX);clear hX)|(go_at_call 81;refine(G9 l _ _ a cp (HK.out.below hB2.out) HN.out Dd).mono ?_;rintro e W3 ⟨rfl,hX⟩;have hB3:=Dh (Qb hB2.out hX);clear hX)|(go_at_call 81;refine(G9 l _ _ a cp (HK.out.below hB0.out) HN.out Dd).mono ?_;rintro e W2 ⟨rfl,hX⟩;have hB2:=Dh (Qb hB0.out hX);clear hX))
   go_ret;exact⟨rfl,hB4.out⟩
theorem Qlv (x:List UInt8)(n p:Nat)(l:List Tr)(S:Nat→Prop)(w:World)(v:Value)(hn:l.length≤1000000)(hV:Zd S w (.mk 13 x n p l) v)(hc:Zq 13 n l=true)(hm:l.length≤16+n):
  Calls Tryz.prog 57 #[v] w fun e w'=>e=.returned (.bool true)∧Below w.heap.size w w':=by
 obtain⟨cs,he,hcs⟩:=hV;unfold X3 at hcs;obtain⟨a,cp,rfl,hl⟩:=hcs;subst he;have HK:=Dh (U1 hl);have HN:=Dh hn;clear hl hn;have hB0:=Dh ((Below.refl w.heap.size w).alloc (Nat.le_refl _) (.cells #[.int .i64 (13:Nat),.string ⟨x.toArray⟩,.int .u64 (n:Int),.int .i64 (p:Int),.slice a l.length cp] 26));simp only[Zq,Bool.and_eq_true,decide_eq_true_eq] at hc;obtain⟨hc,hc1⟩:=hc;have hu:=HN.out;have hz1:IntKind.u64.wrap (l.length:Int)=(l.length:Int):=(IntKind.wrap_u64 _).trans Dw;have hz2:IntKind.u64.wrap (16+(n:Int))=16+(n:Int):=(IntKind.wrap_u64 _).trans Dw;have hq1:decide ((n:Int)≤(l.length:Int))=true:=decide_eq_true Dw;have hq2:decide ((l.length:Int)≤16+(n:Int))=true:=decide_eq_true Dw;clear hm hu;go_enter Tryz.func57,Tryz.ntmps57
 go_wp2_with (go_at_call 82;refine(Qmh 116 116 rfl l _ a cp (HK.out.below hB0.out) HN.out).mono ?_;rintro e W2 ⟨rfl,rfl⟩;have hB2:=hB0)
 go_ret;exact⟨rfl,hB2.out⟩
theorem Qlu (x:List UInt8)(n p:Nat)(l:List Tr)(S:Nat→Prop)(w:World)(v:Value)(hn:l.length≤1000000)(hV:Zd S w (.mk 23 x n p l) v)(hc:Zq 23 n l=true):
  Calls Tryz.prog 57 #[v] w fun e w'=>e=.returned (.bool true)∧Below w.heap.size w w':=by
 obtain⟨cs,he,hcs⟩:=hV;unfold X3 at hcs;obtain⟨a,cp,rfl,hl⟩:=hcs;subst he;have HK:=Dh (U1 hl);have HN:=Dh hn;clear hl hn;have hB0:=Dh ((Below.refl w.heap.size w).alloc (Nat.le_refl _) (.cells #[.int .i64 (23:Nat),.string ⟨x.toArray⟩,.int .u64 (n:Int),.int .i64 (p:Int),.slice a l.length cp] 26));simp only[Zq,Bool.and_eq_true] at hc;obtain⟨hc,hcc⟩:=hc;cases l with
 |nil=>cases hcc
 |cons t r=>
  simp only[Bool.or_eq_true,beq_iff_eq] at hcc;obtain⟨g,o,rfl,hR⟩:=HK.out.resolve_left Ds;have hcell:=hR 0 t rfl;rw[Nat.zero_mul,Nat.add_zero] at hcell;have hcell:=Dh hcell;clear hR;have hlen:(t::r).length=2:=by simpa using Qeh hc
  have hq1:(0:Int)<((t::r).length:Int):=by omega
  rcases hcc with hk|hk|hk;all_goals
   rw[hk] at hcell;go_enter Tryz.func57,Tryz.ntmps57
   go_wp2_with (go_at_call 81;refine(G9 (t::r) _ _ _ cp (HK.out.below hB0.out) HN.out Dd).mono ?_;rintro e W2 ⟨rfl,hX⟩;have hB2:=Dh (Qb hB0.out hX);clear hX;have hc0:=bc hB2.out hcell.out)
   go_ret;exact⟨rfl,hB2.out⟩
theorem Qpn (x:List UInt8)(n p:Nat)(l:List Tr)(S:Nat→Prop)(w:World)(v:Value)(hn:l.length≤1000000)(hV:Zd S w (.mk 1 x n p l) v)(hc:Zq 1 n l=true):
  Calls Tryz.prog 57 #[v] w fun e w'=>e=.returned (.bool true)∧Below w.heap.size w w':=by
 obtain⟨cs,he,hcs⟩:=hV;unfold X3 at hcs;obtain⟨a,cp,rfl,hl⟩:=hcs;subst he;have HK:=Dh (U1 hl);have HN:=Dh hn
 have HC:=Dh (show ∀ t∈l,t.kind=2∨t.kind=3 from fun t ht=>by
  have:=List.all_eq_true.1 hc t ht
  simpa using this)
 clear hl hn hc;go_enter Tryz.func57,Tryz.ntmps57
 go_wp2
 go_loopw [5] (fun i wr=>∃ k:Nat,k≤l.length∧i=.int .i64 k∧Below w.heap.size w wr) (fun i _=>l.length-(intOf i).toNat)
 case atStart=>exact⟨0,Nat.zero_le _,rfl,(Below.refl w.heap.size w).alloc (Nat.le_refl _) _⟩
 case round=>
  obtain⟨k,hk,rfl,hBw⟩:=hrel;by_cases hlt:k<l.length
  ·have hn:=HN.out;obtain⟨g,o,rfl,hR⟩:=HK.out.resolve_left (by rintro rfl;simp at hlt);obtain⟨kid,hkid⟩:∃ u,l[k]? = some u:=⟨_,List.getElem?_eq_getElem hlt⟩;have hcell:=bc hBw (hR k kid hkid);have hkk:=HC.out kid (List.mem_of_getElem? hkid);have hq1:(k:Int)<(l.length:Int):=by omega
   have hBw:=Dh hBw;clear hR hkid;rcases hkk with hkk|hkk;all_goals
    rw[hkk] at hcell;go_wp2
    exact⟨⟨k+1,by omega,by push_cast;rfl,hBw.out⟩,by simp[intOf];omega⟩
  ·obtain rfl:k=l.length:=by omega
   have hq1:¬ (l.length:Int)<(l.length:Int):=by omega
   go_wp2
   go_ret;exact⟨rfl,hBw⟩
theorem Qlp (x:List UInt8)(n p:Nat)(l:List Tr)(S:Nat→Prop)(w:World)(v:Value)(hn:l.length≤1000000)(hV:Zd S w (.mk 42 x n p l) v)(hc:Zq 42 n l=true):
  Calls Tryz.prog 57 #[v] w fun e w'=>e=.returned (.bool true)∧Below w.heap.size w w':=by
 obtain⟨cs,he,hcs⟩:=hV;unfold X3 at hcs;obtain⟨a,cp,rfl,hl⟩:=hcs;subst he;simp only[Zq,Bool.and_eq_true,decide_eq_true_eq] at hc;obtain⟨hc,hcn⟩:=hc;have HK:=Dh (U1 hl);have HN:=Dh hn
 have HC:=Dh (show ∀ t∈l,t.kind=43∨t.kind=44∨t.kind=45 from fun t ht=>by
  have:=List.all_eq_true.1 hc t ht
  simpa using this)
 have HCN:=Dh hcn;clear hl hn hc hcn;go_enter Tryz.func57,Tryz.ntmps57
 go_wp2
 go_loopw [7,8] (fun s i wr=>∃ k:Nat,k≤l.length∧i=.int .i64 k∧s=.int .i64 ((l.take k).countP fun t=>t.kind==45:Nat)∧Below w.heap.size w wr) (fun _ i _=>l.length-(intOf i).toNat)
 case atStart=>exact⟨0,Nat.zero_le _,rfl,rfl,(Below.refl w.heap.size w).alloc (Nat.le_refl _) _⟩
 case round=>
  obtain⟨k,hk,rfl,rfl,hBw⟩:=hrel;by_cases hlt:k<l.length
  ·have hn:=HN.out;obtain⟨g,o,rfl,hR⟩:=HK.out.resolve_left (by rintro rfl;simp at hlt);obtain⟨kid,hkid⟩:∃ u,l[k]? = some u:=⟨_,List.getElem?_eq_getElem hlt⟩;have hcell:=bc hBw (hR k kid hkid);have hkk:=HC.out kid (List.mem_of_getElem? hkid);have hq1:(k:Int)<(l.length:Int):=by omega
   have hBw:=Dh hBw;have htk:(l.take (k+1)).countP (fun t=>t.kind==45)=(l.take k).countP (fun t=>t.kind==45)+(if kid.kind==45 then 1 else 0):=by
    rw[List.take_add_one,hkid,List.countP_append];simp[List.countP_cons]
   have hcl:=List.countP_le_length (p:=fun t:Tr=>t.kind==45) (l:=l.take k);rw[List.length_take] at hcl;have hcn:wrap64 (((l.take k).countP (fun t=>t.kind==45):Nat)+1:Int)=((l.take k).countP (fun t=>t.kind==45):Nat)+1:=w64 _ Dw (by have:=HN.out;omega);have HTK:=Dh htk;clear hR hkid htk hcl;generalize hcc:(l.take k).countP (fun t=>t.kind==45)=c at *;clear hcc;rcases hkk with hkk|hkk|hkk;all_goals
    rw[hkk] at hcell;go_wp2
    refine⟨⟨k+1,by omega,by push_cast;rfl,?_,hBw.out⟩,by simp[intOf];omega⟩;rw[HTK.out,hkk];try rw[hcn]
    rfl
  ·obtain rfl:k=l.length:=by omega
   have hq1:¬ (l.length:Int)<(l.length:Int):=by omega
   have hcn:=HCN.out;rw[List.take_length];have hq2:decide (((l.countP (fun t=>t.kind==45):Nat):Int)≤1)=true:=decide_eq_true Dw;go_wp2
   go_ret;exact⟨rfl,hBw⟩
theorem Qlq (x:List UInt8)(n p:Nat)(l:List Tr)(S:Nat→Prop)(w:World)(v:Value)(hn:l.length≤17)(hV:Zd S w (.mk 36 x n p l) v)(hc:Zq 36 n l=true):
  Calls Tryz.prog 57 #[v] w fun e w'=>e=.returned (.bool true)∧Below w.heap.size w w':=by
 obtain⟨cs,he,hcs⟩:=hV;unfold X3 at hcs;obtain⟨a,cp,rfl,hl⟩:=hcs;subst he;simp only[Zq,Bool.and_eq_true,decide_eq_true_eq] at hc;obtain⟨hc2,hc⟩:=hc;have HK:=Dh (U1 hl);have HN:=Dh hn;obtain⟨t0,ht0,hs0,HC⟩:∃ t0,l[0]? = some t0∧(sortB t0.kind==101)=true∧RowKit.Hid (∀ i t,1≤i→l[i]? = some t→(sortB t.kind==101)=true∨t.kind=11∨t.kind=12):=by
  cases l with
  |nil=>simp at hc2
  |cons t r=>
   simp only[Bool.and_eq_true] at hc;refine⟨t,rfl,hc.1,Dh fun i u h1 hu=>?_⟩;obtain⟨j,rfl⟩:∃ j,i=j+1:=⟨i-1,by omega⟩
   have:=List.all_eq_true.1 hc.2 u (List.mem_of_getElem? (i:=j) (by simpa using hu));simpa using this
 have HC2:=Dh hc2;have HT0:=Dh ht0;have HS0:=Dh hs0;have HS:=Dh fun k w=>sort_c k w
 clear hl hn hc hc2 ht0 hs0;go_enter Tryz.func57,Tryz.ntmps57
 go_wp2
 go_loopw [6] (fun i wr=>∃ k:Nat,1≤k∧k≤l.length∧i=.int .i64 k∧Below w.heap.size w wr) (fun i _=>l.length-(intOf i).toNat)
 case atStart=>exact⟨1,Nat.le_refl _,by have:=HC2.out;omega,rfl,(Below.refl w.heap.size w).alloc (Nat.le_refl _) _⟩
 case round=>
  obtain⟨k,hk1,hk,rfl,hBw⟩:=hrel;obtain⟨g,o,rfl,hR⟩:=HK.out.resolve_left (by rintro rfl;have:=HC2.out;simp at this);have hn:=HN.out;by_cases hlt:k<l.length
  ·obtain⟨kid,hkid⟩:∃ u,l[k]? = some u:=⟨_,List.getElem?_eq_getElem hlt⟩;have hcell:=bc hBw (hR k kid hkid);have hkk:=HC.out k kid hk1 hkid;have hq1:(k:Int)<(l.length:Int):=by omega
   have hBw:=Dh hBw;clear hR hkid;generalize hkd:kid.kind=kd at *;clear hkd;rcases hkk with hs|rfl|rfl
   ·have htn:sortB kd=101:=beq_iff_eq.1 hs;clear hs;go_wp2_with (go_at_call 29;refine(HS.out kd _).mono ?_;rintro e W2 ⟨rfl,rfl⟩)
    refine⟨⟨_,_,_,_,_,_,_,_,_,_,_,_,_,_,_,_,_,_,_,_,_,_,_,_,_,_,_,_,_,_,⟨k+1,by omega,by omega,?_,hBw.out⟩,rfl⟩,?_⟩
    ·push_cast;rfl
    ·show l.length-(intOf (.int .i64 ((k:Int)+1))).toNat<l.length-(intOf (.int .i64 (k:Int))).toNat
     simp[intOf];omega
   all_goals
    have htn:sortB 11=116:=rfl;have htn2:sortB 12=116:=rfl;go_wp2_with (go_at_call 29;refine(HS.out _ _).mono ?_;rintro e W2 ⟨rfl,rfl⟩)
    refine⟨⟨_,_,_,_,_,_,_,_,_,_,_,_,_,_,_,_,_,_,_,_,_,_,_,_,_,_,_,_,_,_,⟨k+1,by omega,by omega,?_,hBw.out⟩,rfl⟩,?_⟩
    ·push_cast;rfl
    ·show l.length-(intOf (.int .i64 ((k:Int)+1))).toNat<l.length-(intOf (.int .i64 (k:Int))).toNat
     simp[intOf];omega
  ·obtain rfl:k=l.length:=by omega
   have hq1:¬ (l.length:Int)<(l.length:Int):=by omega
   have hcell:=bc hBw (hR 0 t0 HT0.out);rw[Nat.zero_mul,Nat.add_zero] at hcell;have hq0:(0:Int)<(l.length:Int):=by omega
   have hq2:decide ((2:Int)≤(l.length:Int))=true:=decide_eq_true (by have:=HC2.out;omega);have hq3:decide ((l.length:Int)≤17)=true:=decide_eq_true (by have:=HN.out;omega);have htn:sortB t0.kind=101:=beq_iff_eq.1 HS0.out;have hBw:=Dh hBw;clear hR;go_wp2_with (go_at_call 29;refine(HS.out t0.kind _).mono ?_;rintro e W2 ⟨rfl,rfl⟩)
   go_ret;exact⟨rfl,hBw.out⟩
theorem Qbe {x:List UInt8}(h:J3 x=true):x.length≤64:=by
 unfold J3 _root_.Go.Proofs.YtcbkeecabcbogaaGreatDoor.U8 at h;simp only[Bool.and_eq_true,decide_eq_true_eq] at h;exact h.1.2
theorem Qoj:J3 []=false:=by
 unfold J3 _root_.Go.Proofs.YtcbkeecabcbogaaGreatDoor.U8;simp
theorem Gj (x:List UInt8)(w:World)(h:x.length≤64):Calls Tryz.prog 79 #[.string ⟨x.toArray⟩] w fun e w'=>e=.returned (.bool (J3 x))∧Below w.heap.size w w':=by
 have:=rname_c ⟨x.toArray⟩ w (by rw[←Xg,Qhr];omega);rw[Qhr] at this;exact this
theorem U2 {w W:World}{v0 v1 v2 v3 v4:Value}{t:TypeId}(hX:Below (w.alloc (.cells #[v0,v1,v2,v3,v4] t)).heap.size (w.alloc (.cells #[v0,v1,v2,v3,v4] t)) W):W.cell? ⟨w.heap.size,0,none⟩=some v0∧W.cell? ⟨w.heap.size,1,none⟩=some v1∧W.cell? ⟨w.heap.size,2,none⟩=some v2∧W.cell? ⟨w.heap.size,3,none⟩=some v3∧W.cell? ⟨w.heap.size,4,none⟩=some v4:=by
 have key:∀ j u,[v0,v1,v2,v3,v4][j]? = some u→W.cell? ⟨w.heap.size,j,none⟩=some u:=fun j u hj=>bc hX (by
  have:=Qeu (w:=w) (t:=t) j u hj;rw[Lib.add_plain,Nat.zero_add] at this
  exact this)
 exact⟨key 0 _ rfl,key 1 _ rfl,key 2 _ rfl,key 3 _ rfl,key 4 _ rfl⟩
def Qif (k:Nat)(x:List UInt8)(n p:Nat)(a:Option Addr)(len cp:Nat):Value:=.agg #[.int .i64 (k:Int),.string ⟨x.toArray⟩,.int .u64 (n:Int),.int .i64 (p:Int),.slice a len cp]
theorem Tf (k:Nat)(hk:k=2∨k=3∨k=5∨k=10∨k=21∨k=22∨k=30∨k=35∨k=37)(x:List UInt8)(n p:Nat)(a:Option Addr)(len cp:Nat)(w:World)(hl:Yo k x n len=true):
  Calls Tryz.prog 56 #[Qif k x n p a len cp] w fun e w'=>e=.returned (.bool true)∧Below w.heap.size w w':=by
 have hb:J3 x=true∧n=0:=by
  rcases hk with rfl|rfl|rfl|rfl|rfl|rfl|rfl|rfl|rfl <;> simpa [Yo] using hl
 obtain⟨hb,rfl⟩:=hb;have HN:=Dh fun w=>Gj x w (Qbe hb)
 unfold Qif;have hB0:=Dh ((Below.refl w.heap.size w).alloc (Nat.le_refl _) (.cells #[.int .i64 (k:Int),.string ⟨x.toArray⟩,.int .u64 (0:Nat),.int .i64 (p:Int),.slice a len cp] 26));clear hl;rcases hk with rfl|rfl|rfl|rfl|rfl|rfl|rfl|rfl|rfl;all_goals
  go_enter Tryz.func56,Tryz.ntmps56
  go_wp2_with (go_at_call 79;refine(HN.out _).mono ?_;rintro e W2 ⟨rfl,hX⟩;obtain⟨p0,p1,p2,p3,p4⟩:=U2 hX;have hB2:=Dh (Qb hB0.out hX);clear hX)
  go_ret;exact⟨rfl,hB2.out⟩
theorem label_8 (x:List UInt8)(n p:Nat)(a:Option Addr)(len cp:Nat)(w:World)(hl:Yo 8 x n len=true):
  Calls Tryz.prog 56 #[Qif 8 x n p a len cp] w fun e w'=>e=.returned (.bool true)∧Below w.heap.size w w':=by
 obtain⟨hb,hn⟩:J3 x=true∧1≤n∧n≤3:=by simpa [Yo] using hl
 have HN:=Dh fun w=>Gj x w (Qbe hb)
 unfold Qif;have hB0:=Dh ((Below.refl w.heap.size w).alloc (Nat.le_refl _) (.cells #[.int .i64 (8:Nat),.string ⟨(x).toArray⟩,.int .u64 (n:Nat),.int .i64 (p:Int),.slice a len cp] 26));clear hl;obtain rfl|rfl|rfl:n=1∨n=2∨n=3:=by omega
 all_goals
  go_enter Tryz.func56,Tryz.ntmps56
  go_wp2_with (go_at_call 79;refine(HN.out _).mono ?_;rintro e W2 ⟨rfl,hX⟩;obtain⟨p0,p1,p2,p3,p4⟩:=U2 hX;have hB2:=Dh (Qb hB0.out hX);clear hX)
  go_ret;exact⟨rfl,hB2.out⟩
theorem label_43 (x:List UInt8)(n p:Nat)(a:Option Addr)(len cp:Nat)(w:World)(hl:Yo 43 x n len=true):
  Calls Tryz.prog 56 #[Qif 43 x n p a len cp] w fun e w'=>e=.returned (.bool true)∧Below w.heap.size w w':=by
 obtain⟨hb,rfl⟩:(J3 x=true∨x=[])∧n=0:=by simpa [Yo] using hl
 rcases hb with hb|rfl
 ·have HN:=Dh fun w=>Gj x w (Qbe hb)
  unfold Qif;have hB0:=Dh ((Below.refl w.heap.size w).alloc (Nat.le_refl _) (.cells #[.int .i64 (43:Nat),.string ⟨(x).toArray⟩,.int .u64 (0:Nat),.int .i64 (p:Int),.slice a len cp] 26));clear hl;go_enter Tryz.func56,Tryz.ntmps56
  go_wp2_with (go_at_call 79;refine(HN.out _).mono ?_;rintro e W2 ⟨rfl,hX⟩;obtain⟨p0,p1,p2,p3,p4⟩:=U2 hX;have hB2:=Dh (Qb hB0.out hX);clear hX)
  go_ret;exact⟨rfl,hB2.out⟩
 ·have HN:=Dh fun w=>Gj [] w Ds
  have hb:=Qoj;unfold Qif;have hB0:=Dh ((Below.refl w.heap.size w).alloc (Nat.le_refl _) (.cells #[.int .i64 (43:Nat),.string ⟨(([]:List UInt8)).toArray⟩,.int .u64 (0:Nat),.int .i64 (p:Int),.slice a len cp] 26));clear hl;go_enter Tryz.func56,Tryz.ntmps56
  go_wp2_with (go_at_call 79;refine(HN.out _).mono ?_;rintro e W2 ⟨rfl,hX⟩;obtain⟨p0,p1,p2,p3,p4⟩:=U2 hX;have hB2:=Dh (Qb hB0.out hX);clear hX)
  go_ret;exact⟨rfl,hB2.out⟩
theorem binds_in {x:List UInt8}(h:0<Z9 x):x∈Qaw:=by
 false_or_by_contra
 rename_i hx;rw[Qf6 hx] at h;exact absurd h (Nat.lt_irrefl _)
theorem label_33 (x:List UInt8)(n p:Nat)(a:Option Addr)(len cp:Nat)(w:World)(hl:Yo 33 x n len=true):
  Calls Tryz.prog 56 #[Qif 33 x n p a len cp] w fun e w'=>e=.returned (.bool true)∧Below w.heap.size w w':=by
 obtain⟨rfl,hb⟩:n=0∧((len=1∧(x=[45]∨x=[94]∨x=[33]))∨(len=2∧0<Z9 x)):=by simpa [Yo] using hl
 clear hl;unfold Qif;rcases hb with ⟨rfl,hb⟩|⟨rfl,hb⟩
 ·rcases hb with rfl|rfl|rfl;all_goals
   have HN:=Dh fun x w h=>Gj x w h
   have hB0:=Dh fun o=>(Below.refl w.heap.size w).alloc (Nat.le_refl _) o
   go_enter Tryz.func56,Tryz.ntmps56
   go_wp2_with (go_at_call 79;refine(HN.out [_] _ Ds).mono ?_;rintro e W2 ⟨rfl,hX⟩;obtain⟨p0,p1,p2,p3,p4⟩:=U2 hX;have hB2:=Dh (Qb (hB0.out _) hX);clear hX)
   go_ret;exact⟨rfl,hB2.out⟩
 ·have hm:=binds_in hb;have hlen:x.length≤64:=by
   have:∀ y∈Qaw,y.length≤64:=by decide
   exact this x hm
  have HN:=Dh fun w=>Gj x w hlen
  have HS:=Dh fun w=>Qn0 x w
  have hq:decide ((0:Int)<(Z9 x:Int))=true:=decide_eq_true Dw;have hB0:=Dh ((Below.refl w.heap.size w).alloc (Nat.le_refl _) (.cells #[.int .i64 (33:Nat),.string ⟨(x).toArray⟩,.int .u64 (0:Nat),.int .i64 (p:Int),.slice a 2 cp] 26));clear hm hlen;by_cases h1:x=[45]
  ·subst h1;go_enter Tryz.func56,Tryz.ntmps56
   go_wp2_with (first|(go_at_call 8;refine(HS.out _).mono ?_;rintro e W3 ⟨rfl,rfl⟩)|(go_at_call 79;refine(HN.out _).mono ?_;rintro e W2 ⟨rfl,hX⟩;obtain⟨p0,p1,p2,p3,p4⟩:=U2 hX;have hB2:=Dh (Qb hB0.out hX);clear hX))
   go_ret;exact⟨rfl,hB2.out⟩
  by_cases h2:x=[94]
  ·subst h2;go_enter Tryz.func56,Tryz.ntmps56
   go_wp2_with (first|(go_at_call 8;refine(HS.out _).mono ?_;rintro e W3 ⟨rfl,rfl⟩)|(go_at_call 79;refine(HN.out _).mono ?_;rintro e W2 ⟨rfl,hX⟩;obtain⟨p0,p1,p2,p3,p4⟩:=U2 hX;have hB2:=Dh (Qb hB0.out hX);clear hX))
   go_ret;exact⟨rfl,hB2.out⟩
  by_cases h3:x=[33]
  ·subst h3;exact absurd hb Dd
  replace h1:=beq_false_of_ne h1;replace h2:=beq_false_of_ne h2;replace h3:=beq_false_of_ne h3;go_enter Tryz.func56,Tryz.ntmps56
  go_wp2_with (first|(go_at_call 8;refine(HS.out _).mono ?_;rintro e W3 ⟨rfl,rfl⟩)|(go_at_call 79;refine(HN.out _).mono ?_;rintro e W2 ⟨rfl,hX⟩;obtain⟨p0,p1,p2,p3,p4⟩:=U2 hX;have hB2:=Dh (Qb hB0.out hX);clear hX))
  go_ret;exact⟨rfl,hB2.out⟩
theorem Pg (k:Nat)(hk:k=13∨k=27∨k=29∨k=32)(x:List UInt8)(n p:Nat)(a:Option Addr)(len cp:Nat)(w:World)(hl:Yo k x n len=true):
  Calls Tryz.prog 56 #[Qif k x n p a len cp] w fun e w'=>e=.returned (.bool true)∧Below w.heap.size w w':=by
 obtain⟨rfl,hn⟩:x=[]∧n≤1:=by rcases hk with rfl|rfl|rfl|rfl <;> simpa [Yo] using hl
 have HN:=Dh fun w=>Gj [] w Ds
 unfold Qif;have hq:decide ((n:Int)≤1)=true:=decide_eq_true Dw;have hB0:=Dh ((Below.refl w.heap.size w).alloc (Nat.le_refl _) (.cells #[.int .i64 (k:Nat),.string ⟨(([]:List UInt8)).toArray⟩,.int .u64 (n:Nat),.int .i64 (p:Int),.slice a len cp] 26));clear hl;rcases hk with rfl|rfl|rfl|rfl;all_goals
  go_enter Tryz.func56,Tryz.ntmps56
  go_wp2_with (go_at_call 79;refine(HN.out _).mono ?_;rintro e W2 ⟨rfl,hX⟩;obtain⟨p0,p1,p2,p3,p4⟩:=U2 hX;have hB2:=Dh (Qb hB0.out hX);clear hX)
  go_ret;exact⟨rfl,hB2.out⟩
theorem label_31 (x:List UInt8)(n p:Nat)(a:Option Addr)(len cp:Nat)(w:World)(hl:Yo 31 x n len=true):
  Calls Tryz.prog 56 #[Qif 31 x n p a len cp] w fun e w'=>e=.returned (.bool true)∧Below w.heap.size w w':=by
 obtain rfl:x=[]:=by simpa [Yo] using hl
 have HN:=Dh fun w=>Gj [] w Ds
 unfold Qif;have hB0:=Dh ((Below.refl w.heap.size w).alloc (Nat.le_refl _) (.cells #[.int .i64 (31:Nat),.string ⟨(([]:List UInt8)).toArray⟩,.int .u64 (n:Nat),.int .i64 (p:Int),.slice a len cp] 26));clear hl;go_enter Tryz.func56,Tryz.ntmps56
 go_wp2_with (go_at_call 79;refine(HN.out _).mono ?_;rintro e W2 ⟨rfl,hX⟩;obtain⟨p0,p1,p2,p3,p4⟩:=U2 hX;have hB2:=Dh (Qb hB0.out hX);clear hX)
 go_ret;exact⟨rfl,hB2.out⟩
theorem Za (k:Nat)(hk:k=1∨k=4∨k=6∨k=7∨k=11∨k=12∨k=20∨k=23∨k=24∨k=25∨k=26∨k=28∨k=34∨k=36∨k=38∨k=39∨k=40∨k=41∨k=42∨k=44∨k=45)(x:List UInt8)(n p:Nat)(a:Option Addr)(len cp:Nat)(w:World)(hl:Yo k x n len=true):
  Calls Tryz.prog 56 #[Qif k x n p a len cp] w fun e w'=>e=.returned (.bool true)∧Below w.heap.size w w':=by
 obtain⟨rfl,rfl⟩:x=[]∧n=0:=by rcases hk with rfl|rfl|rfl|rfl|rfl|rfl|rfl|rfl|rfl|rfl|rfl|rfl|rfl|rfl|rfl|rfl|rfl|rfl|rfl|rfl|rfl <;> simpa [Yo] using hl
 have HN:=Dh fun w=>Gj [] w Ds
 unfold Qif;have hB0:=Dh ((Below.refl w.heap.size w).alloc (Nat.le_refl _) (.cells #[.int .i64 (k:Nat),.string ⟨(([]:List UInt8)).toArray⟩,.int .u64 (0:Nat),.int .i64 (p:Int),.slice a len cp] 26));clear hl;rcases hk with rfl|rfl|rfl|rfl|rfl|rfl|rfl|rfl|rfl|rfl|rfl|rfl|rfl|rfl|rfl|rfl|rfl|rfl|rfl|rfl|rfl;all_goals
  go_enter Tryz.func56,Tryz.ntmps56
  go_wp2_with (go_at_call 79;refine(HN.out _).mono ?_;rintro e W2 ⟨rfl,hX⟩;obtain⟨p0,p1,p2,p3,p4⟩:=U2 hX;have hB2:=Dh (Qb hB0.out hX);clear hX)
  go_ret;exact⟨rfl,hB2.out⟩
theorem Qmt {k n:Nat}{l:List Tr}(h:Zq k n l=true):k=1∨k=2∨k=3∨k=4∨k=5∨k=6∨k=7∨k=8∨k=10∨k=11∨k=12∨k=13∨k=20∨k=21∨k=22∨k=23∨k=24∨k=25∨k=26∨k=27∨k=28∨k=29∨k=30∨k=31∨k=32∨k=33∨k=34∨k=35∨k=36∨k=37∨k=38∨k=39∨k=40∨k=41∨k=42∨k=43∨k=44∨k=45:=by
 unfold Zq at h;split at h;all_goals first|cases h|simp
theorem most13 {x:List UInt8}{n len:Nat}(hl:Yo 13 x n len=true)(hm:(len:Int)≤A7 13 n len):len≤16+n:=by
 have hn:n≤1:=by
  have:x=[]∧n≤1:=by simpa [Yo] using hl
  exact this.2
 have h:A7 13 n len=wrap64 (16+wrap64 (n:Int)):=by simp[A7]
 rw[h,w64 (n:Int) Dw Dw,w64 _ Dw Dw] at hm;omega
theorem Qpm (k:Nat)(x:List UInt8)(n p:Nat)(l:List Tr)(S:Nat→Prop)(w:World)(v:Value)(hn:l.length≤1000000)(hV:Zd S w (.mk k x n p l) v)(hL:Yo k x n l.length=true)(hc:Zq k n l=true)(hm:(l.length:Int)≤A7 k n l.length):
  Calls Tryz.prog 57 #[v] w fun e w'=>e=.returned (.bool true)∧Below w.heap.size w w':=by
 rcases Qmt hc with rfl|rfl|rfl|rfl|rfl|rfl|rfl|rfl|rfl|rfl|rfl|rfl|rfl|rfl|rfl|rfl|rfl|rfl|rfl|rfl|rfl|rfl|rfl|rfl|rfl|rfl|rfl|rfl|rfl|rfl|rfl|rfl|rfl|rfl|rfl|rfl|rfl|rfl
 ·exact Qpn x n p l S w v hn hV hc
 ·exact Px 2 Dd x n p l S w v hn hV hc (by simp[A7] at hm;omega)
 ·exact Xy 3 Dd x n p l S w v hn hV hc
 ·exact Px 4 Dd x n p l S w v hn hV hc (by simp[A7] at hm;omega)
 ·exact Xy 5 Dd x n p l S w v hn hV hc
 ·exact Px 6 Dd x n p l S w v hn hV hc (by simp[A7] at hm;omega)
 ·exact Qb5 7 Dd x n p l S w v hn hV hc
 ·exact Y4 8 Dd x n p l S w v hn hV hc
 ·exact Y4 10 Dd x n p l S w v hn hV hc
 ·exact Xy 11 Dd x n p l S w v hn hV hc
 ·exact Xy 12 Dd x n p l S w v hn hV hc
 ·exact Qlv x n p l S w v hn hV hc (most13 hL hm)
 ·exact Lp 20 Dd x n p l S w v hn hV hc Ds Ds
 ·exact Xy 21 Dd x n p l S w v hn hV hc
 ·exact Xy 22 Dd x n p l S w v hn hV hc
 ·exact Qlu x n p l S w v hn hV hc
 ·exact Qlt x n p l S w v hn hV hc
 ·exact Qls x n p l S w v hn hV hc
 ·exact Xy 26 Dd x n p l S w v hn hV hc
 ·exact Y4 27 Dd x n p l S w v hn hV hc
 ·exact Qb5 28 Dd x n p l S w v hn hV hc
 ·exact Xy 29 Dd x n p l S w v hn hV hc
 ·exact Y4 30 Dd x n p l S w v hn hV hc
 ·exact Y4 31 Dd x n p l S w v hn hV hc
 ·exact Y4 32 Dd x n p l S w v hn hV hc
 ·exact Qlr x n p l S w v hn hV hc
 ·exact Lp 34 Dd x n p l S w v hn hV hc (fun _=>by simp[A7] at hm;omega) Ds
 ·exact Xy 35 Dd x n p l S w v hn hV hc
 ·exact Qlq x n p l S w v (by simp[A7] at hm;omega) hV hc
 ·exact Lp 37 Dd x n p l S w v hn hV hc (fun _=>by simp[A7] at hm;omega) (fun _=>by simp[A7] at hm;omega)
 ·exact Xy 38 Dd x n p l S w v hn hV hc
 ·exact Xy 39 Dd x n p l S w v hn hV hc
 ·exact Xy 40 Dd x n p l S w v hn hV hc
 ·exact Xy 41 Dd x n p l S w v hn hV hc
 ·exact Qlp x n p l S w v hn hV hc
 ·exact Xy 43 Dd x n p l S w v hn hV hc
 ·exact Xy 44 Dd x n p l S w v hn hV hc
 ·exact Xy 45 Dd x n p l S w v hn hV hc
theorem label_c (k:Nat)(x:List UInt8)(n p:Nat)(a:Option Addr)(len cp:Nat)(w:World){l:List Tr}(hk:Zq k n l=true)(hl:Yo k x n len=true):
  Calls Tryz.prog 56 #[Qif k x n p a len cp] w fun e w'=>e=.returned (.bool true)∧Below w.heap.size w w':=by
 rcases Qmt hk with rfl|rfl|rfl|rfl|rfl|rfl|rfl|rfl|rfl|rfl|rfl|rfl|rfl|rfl|rfl|rfl|rfl|rfl|rfl|rfl|rfl|rfl|rfl|rfl|rfl|rfl|rfl|rfl|rfl|rfl|rfl|rfl|rfl|rfl|rfl|rfl|rfl|rfl
 ·exact Za 1 Dd x n p a len cp w hl
 ·exact Tf 2 Dd x n p a len cp w hl
 ·exact Tf 3 Dd x n p a len cp w hl
 ·exact Za 4 Dd x n p a len cp w hl
 ·exact Tf 5 Dd x n p a len cp w hl
 ·exact Za 6 Dd x n p a len cp w hl
 ·exact Za 7 Dd x n p a len cp w hl
 ·exact label_8 x n p a len cp w hl
 ·exact Tf 10 Dd x n p a len cp w hl
 ·exact Za 11 Dd x n p a len cp w hl
 ·exact Za 12 Dd x n p a len cp w hl
 ·exact Pg 13 Dd x n p a len cp w hl
 ·exact Za 20 Dd x n p a len cp w hl
 ·exact Tf 21 Dd x n p a len cp w hl
 ·exact Tf 22 Dd x n p a len cp w hl
 ·exact Za 23 Dd x n p a len cp w hl
 ·exact Za 24 Dd x n p a len cp w hl
 ·exact Za 25 Dd x n p a len cp w hl
 ·exact Za 26 Dd x n p a len cp w hl
 ·exact Pg 27 Dd x n p a len cp w hl
 ·exact Za 28 Dd x n p a len cp w hl
 ·exact Pg 29 Dd x n p a len cp w hl
 ·exact Tf 30 Dd x n p a len cp w hl
 ·exact label_31 x n p a len cp w hl
 ·exact Pg 32 Dd x n p a len cp w hl
 ·exact label_33 x n p a len cp w hl
 ·exact Za 34 Dd x n p a len cp w hl
 ·exact Tf 35 Dd x n p a len cp w hl
 ·exact Za 36 Dd x n p a len cp w hl
 ·exact Tf 37 Dd x n p a len cp w hl
 ·exact Za 38 Dd x n p a len cp w hl
 ·exact Za 39 Dd x n p a len cp w hl
 ·exact Za 40 Dd x n p a len cp w hl
 ·exact Za 41 Dd x n p a len cp w hl
 ·exact Za 42 Dd x n p a len cp w hl
 ·exact label_43 x n p a len cp w hl
 ·exact Za 44 Dd x n p a len cp w hl
 ·exact Za 45 Dd x n p a len cp w hl
theorem Qmw {A:Nat→Bool}:∀ {l:List Tr} {i:Nat} {t:Tr},l[i]? = some t→Ya A l=true→Yp A t=true
 | [],_,_,h,_=>by simp at h
 |u::l,0,t,h,hg=>by
  simp at h;subst h;unfold Ya at hg;rw[Bool.and_eq_true] at hg;exact hg.1
 |u::l,i+1,t,h,hg=>by
  unfold Ya at hg;rw[Bool.and_eq_true] at hg;exact Qmw (by simpa using h) hg.2
theorem Qjg:∀ {l:List Tr} {i:Nat} {t:Tr},l[i]? = some t→1+U5 t≤Dt l
 | [],_,_,h=>by simp at h
 |u::l,0,t,h=>by
  simp at h;subst h;unfold Dt;omega
 |u::l,i+1,t,h=>by
  have:=Qjg (l:=l) (i:=i) (t:=t) (by simpa using h);unfold Dt;omega
theorem Qmc:∀ {l:List Tr} {i:Nat} {t:Tr},l[i]? = some t→Xf t≤Zh l
 | [],_,_,h=>by simp at h
 |u::l,0,t,h=>by
  simp at h;subst h;unfold Zh;omega
 |u::l,i+1,t,h=>by
  have:=Qmc (l:=l) (i:=i) (t:=t) (by simpa using h);unfold Zh;omega
theorem right_c:∀ (n:Nat) (t:Tr) (S:Nat→Prop) (w:World) (v:Value) (A:Nat→Bool) (left:Nat),Xf t≤n→n≤900000→Zd S w t v→Yp A t=true→Qa0 t=true→U5 t≤left→left≤64→Calls Tryz.prog 28 #[v,.int .i64 (left:Int)] w fun e w'=>e=.returned (.bool true)∧Below w.heap.size w w':=by
 intro n;induction n with
 |zero=>intro t S w v A left h;cases t;unfold Xf at h;omega
 |succ n ih=>
  intro t S w v A left hn hbig h hg hf hd h64;cases t with
  |mk kd x nn pl kids=>
  have hV0:=h;unfold Xf at hn;unfold Yp at hg;unfold Qa0 at hf;unfold U5 at hd;simp only[Bool.and_eq_true,decide_eq_true_eq] at hg hf;obtain⟨-,hlab,hch,hgk⟩:=hg;obtain⟨hfk,hmost⟩:=hf;obtain⟨cs,he,hc⟩:=h;unfold X3 at hc;obtain⟨a,cp,rfl,hl⟩:=hc;subst he;have hlen:=Td kids;have IH:=Dh ih;have HL:=Dh hl;have HN:=Dh hn;have HB:=Dh hbig;have HG:=Dh hgk;have HF:=Dh hfk;have HD:=Dh hd;have H64:=Dh h64;have HLA:=Dh fun w=>label_c kd x nn pl a kids.length cp w hch hlab
  have HCH:=Dh fun w' (hB:Below w.heap.size w w')=>Qpm kd x nn pl kids S w' _ Dw (hV0.below hB) hlab hch hmost
  unfold Qif at HLA;clear ih hl hn hbig hgk hfk hd h64 hlab hch hmost hV0 hlen;have hq0:decide ((left:Int)<0)=false:=decide_eq_false Dw;go_enter Tryz.func28,Tryz.ntmps28
  have hP:=Dh (show (w.alloc (.cells #[.int .i64 (kd:Int),.string ⟨x.toArray⟩,.int .u64 (nn:Int),.int .i64 (pl:Int),.slice a kids.length cp] 26)).rangeAt w.heap.size 0 [.int .i64 (kd:Int),.string ⟨x.toArray⟩,.int .u64 (nn:Int),.int .i64 (pl:Int),.slice a kids.length cp] from fun j u hj=>by
   have:=Qeu (w:=w) (t:=26) j u hj;rw[Lib.add_plain] at this
   exact this)
  have hB0:=Dh ((Below.refl w.heap.size w).alloc (Nat.le_refl _) (.cells #[.int .i64 (kd:Int),.string ⟨x.toArray⟩,.int .u64 (nn:Int),.int .i64 (pl:Int),.slice a kids.length cp] 26));go_wp2_with (first|((with_reducible refine wpList_load_mid rfl 26 _ rfl w.heap.size 0 ?hx [.int .i64 (kd:Int),.string ⟨x.toArray⟩,.int .u64 (nn:Int),.int .i64 (pl:Int),.slice a kids.length cp] _ hP2.out Tryz.underlying26 rfl (Xe _ rfl) ?_);(case hx=>rfl))|((with_reducible refine wpList_load_mid rfl 26 _ rfl w.heap.size 0 ?hx [.int .i64 (kd:Int),.string ⟨x.toArray⟩,.int .u64 (nn:Int),.int .i64 (pl:Int),.slice a kids.length cp] _ hP.out Tryz.underlying26 rfl (Xe _ rfl) ?_);(case hx=>rfl))|(go_at_call 56;refine(HLA.out _).mono ?_;rintro e W2 ⟨rfl,hX⟩;obtain⟨p0,p1,p2,p3,p4⟩:=U2 hX;have hP2:=Dh (Ha hP.out hX);have hB2:=Dh (Qb hB0.out hX);clear hX)|(go_at_call 57;refine(HCH.out _ hB2.out).mono ?_;rintro e W3 ⟨rfl,hX⟩;have hP3:=Dh (Ha hP2.out hX);have hB3:=Dh (Qb hB2.out hX);clear hX))
  go_loopw [5] (fun i wr=>∃ k:Nat,k≤kids.length∧i=.int .i64 k∧Below w.heap.size w wr∧RowKit.Hid (wr.rangeAt w.heap.size 0 [.int .i64 (kd:Int),.string ⟨x.toArray⟩,.int .u64 (nn:Int),.int .i64 (pl:Int),.slice a kids.length cp])) (fun i _=>kids.length-(intOf i).toNat)
  case atStart=>exact⟨0,Nat.zero_le _,rfl,hB3.out,hP3⟩
  case round=>
   clear hB0 hB2 hB3 hP hP2 hP3 p0 p1 p2 p3 p4;obtain⟨k,hk,rfl,hBw,hPw⟩:=hrel;have q1:wr.cell? ⟨w.heap.size,4,none⟩=some (Value.slice a kids.length cp):=hPw.out 4 _ rfl;by_cases hlt:k<kids.length
   ·obtain⟨g,o,rfl,hg,hR⟩:=HL.out.resolve_left (by rintro rfl;simp at hlt);obtain⟨kid,hkid⟩:∃ u,kids[k]? = some u:=⟨_,List.getElem?_eq_getElem hlt⟩;obtain⟨u0,u1,u2,u3,u4,c0,c1,c2,c3,c4,hu⟩:=hR.at_ k kid hkid;rw[Nat.mul_comm 5 k] at c0 c1 c2 c3 c4;have hrg:=Dh (Ut (bc hBw c0) (bc hBw c1) (bc hBw c2) (bc hBw c3) (bc hBw c4));have hV:=Dh ((hu.agg).below hBw);have hts:=Dh (Qmc hkid);have hdk:=Dh (Qjg hkid);have hgk:=Dh (Qmw hkid HG.out);have hfk:=Dh (Qhf hkid HF.out);have hBw:=Dh hBw;clear hR c0 c1 c2 c3 c4 hu hg hkid;have hq1:(k:Int)<(kids.length:Int):=by omega
    have hsub:wrap64 ((left:Int)-1)=((left-1:Nat):Int):=by
     have:=hdk.out;have:=HD.out;have:=H64.out;rw[w64 _ Dw Dw];omega
    have hstart:wrap64 ((k:Int)+1)=((k+1:Nat):Int):=by
     have:=hts.out;have:=HN.out;have:=HB.out;have:=Td kids;rw[w64 _ Dw Dw];omega
    go_wp2_with (first|((with_reducible refine wpList_load_mid rfl 26 _ rfl g (o+k*5) ?hx [u0,u1,u2,u3,u4] _ hrg.out Tryz.underlying26 rfl (Xe _ rfl) ?_);(case hx=>rfl))|(go_at_call 28;refine(IH.out kid S _ _ A (left-1) (by have:=HN.out;have:=hts.out;omega) (by have:=HB.out;omega) hV.out hgk.out hfk.out (by have:=hdk.out;have:=HD.out;omega) (by have:=H64.out;omega)).mono ?_;rintro e W2 ⟨rfl,hB2⟩))
    exact⟨⟨k+1,by omega,by rw[hstart],Qb hBw.out hB2,Dh (Ha hPw.out hB2)⟩,by rw[hstart];simp[intOf];omega⟩
   ·obtain rfl:k=kids.length:=by omega
    have hq1:¬ (kids.length:Int)<(kids.length:Int):=by omega
    go_wp2
    go_ret;exact⟨rfl,hBw⟩
def RowV (g:Nat)(v0 v1 v2 v3 v4:Value)(w:World):Prop:=w.heap[g]? = some (.cells #[v0,v1,v2,v3,v4] 26 (0,0))
theorem RowV.after {g:Nat}{v0 v1 v2 v3 v4:Value}{w w':World}(h:RowV g v0 v1 v2 v3 v4 w)(hb:Below w.heap.size w w'):RowV g v0 v1 v2 v3 v4 w':=by
 unfold RowV at h ⊢;rw[hb.block _ (Array.getElem?_eq_some_iff.1 h).1,h]
theorem RowV.range {g:Nat}{v0 v1 v2 v3 v4:Value}{w:World}(h:RowV g v0 v1 v2 v3 v4 w):w.rangeAt g 0 [v0,v1,v2,v3,v4]:=by
 obtain⟨e0,e1,e2,e3,e4,-⟩:=Z5 h;exact Ut e0 e1 e2 e3 e4
theorem Vz.ok_at {w w':World}{t:Tr}{e:Ending}(h:Vz w (.ok t) e w'):∃ v0 v1 v2 v3 v4,e=.returned (.tuple #[.agg #[v0,v1,v2,v3,v4],.int .i64 0,.int .i64 0])∧(#[v0,v1,v2,v3,v4]:Array Value).all (·.oneCell')=true∧Zd (fun _=>True) w' t (.agg #[v0,v1,v2,v3,v4])∧Below w.heap.size w w':=by
 obtain⟨v,rfl,hv,hb⟩:=h;obtain⟨v0,v1,v2,v3,v4,rfl,hone⟩:=hv.cells;exact⟨v0,v1,v2,v3,v4,rfl,hone,hv.frame (fun _ _ _=>trivial) (fun _ _ _=>rfl),hb⟩
theorem tup3 {a a' b b' c c':Value}(h:Ending.returned (.tuple #[a,b,c])=.returned (.tuple #[a',b',c'])):a=a'∧b=b'∧c=c':=by
 cases h;exact⟨rfl,rfl,rfl⟩
theorem sound_c (x:List UInt8)(nn pl:Nat)(l:List Tr)(S:Nat→Prop)(w:World)(v:Value)(A:Nat→Bool)(hV:Zd S w (.mk 1 x nn pl l) v)(hg:Yp A (.mk 1 x nn pl l)=true)(hf:Qa0 (.mk 1 x nn pl l)=true)(hd:U5 (.mk 1 x nn pl l)≤64)(hz:Xf (.mk 1 x nn pl l)≤16384):
  Calls Tryz.prog 20 #[v,.int .u8 112] w fun e w'=>e=.returned (.bool true)∧Below w.heap.size w w':=by
 have hV0:=hV;obtain⟨cs,he,hc⟩:=hV;unfold X3 at hc;obtain⟨a,cp,rfl,-⟩:=hc;subst he;have HR:=Dh fun w' (hB:Below w.heap.size w w')=>right_c 16384 _ S w' _ A 64 hz Dd (hV0.below hB) hg hf hd (Nat.le_refl _)
 have HS:=Dh fun w' (hB:Below w.heap.size w w')=>rsize_c 16384 _ S w' _ hz Dd (hV0.below hB)
 have hq:decide ((Xf (.mk 1 x nn pl l):Int)≤16384)=true:=decide_eq_true Dw;clear hV0 hg hf hd hz
 have hP:=Dh (show (w.alloc (.cells #[.int .i64 (1:Nat),.string ⟨x.toArray⟩,.int .u64 (nn:Int),.int .i64 (pl:Int),.slice a l.length cp] 26)).rangeAt w.heap.size 0 [.int .i64 (1:Nat),.string ⟨x.toArray⟩,.int .u64 (nn:Int),.int .i64 (pl:Int),.slice a l.length cp] from fun j u hj=>by
  have:=Qeu (w:=w) (t:=26) j u hj;rw[Lib.add_plain] at this
  exact this)
 have hB0:=Dh ((Below.refl w.heap.size w).alloc (Nat.le_refl _) (.cells #[.int .i64 (1:Nat),.string ⟨x.toArray⟩,.int .u64 (nn:Int),.int .i64 (pl:Int),.slice a l.length cp] 26));generalize Xf (.mk 1 x nn pl l)=sz at *;go_enter Tryz.func20,Tryz.ntmps20
 go_wp2_with (first|((with_reducible refine wpList_load_mid rfl 26 _ rfl w.heap.size 0 ?hx [.int .i64 (1:Nat),.string ⟨x.toArray⟩,.int .u64 (nn:Int),.int .i64 (pl:Int),.slice a l.length cp] _ hP2.out Tryz.underlying26 rfl (Xe _ rfl) ?_);(case hx=>rfl))|((with_reducible refine wpList_load_mid rfl 26 _ rfl w.heap.size 0 ?hx [.int .i64 (1:Nat),.string ⟨x.toArray⟩,.int .u64 (nn:Int),.int .i64 (pl:Int),.slice a l.length cp] _ hP.out Tryz.underlying26 rfl (Xe _ rfl) ?_);(case hx=>rfl))|(go_at_call 28;refine(HR.out _ hB0.out).mono ?_;rintro e W2 ⟨rfl,hX⟩;obtain⟨p0,p1,p2,p3,p4⟩:=U2 hX;have hP2:=Dh (Ha hP.out hX);have hB2:=Dh (Qb hB0.out hX);clear hX)|(go_at_call 14;refine(HS.out _ hB2.out).mono ?_;rintro e W3 ⟨rfl,hX⟩;have hB3:=Dh (Qb hB2.out hX);clear hX))
 go_ret;exact⟨rfl,hB3.out⟩
theorem Qo6 {A B:Nat→Bool}(h:∀ p,A p=true→B p=true)(l:List Tr)(hl:Ya A l=true):Ya B l=true:=by
 have key:∀ n:Nat,(∀ t:Tr,Xf t≤n→Yp A t=true→Yp B t=true)∧(∀ l:List Tr,Zh l≤n→Ya A l=true→Ya B l=true):=by
  intro n;induction n with
  |zero=>
   refine⟨fun t ht=>?_,fun l hs hg=>?_⟩
   ·cases t;unfold Xf at ht;omega
   ·cases l with
    |nil=>rfl
    |cons t l=>cases t;simp[Zh,Xf] at hs
  |succ n ih=>
   have hT:∀ t:Tr,Xf t≤n+1→Yp A t=true→Yp B t=true:=fun t ht hg=>by
    cases t with
    |mk k x m p kids=>
    unfold Xf at ht;unfold Yp at hg ⊢;simp only[Bool.and_eq_true] at hg ⊢;exact⟨h p hg.1,hg.2.1,hg.2.2.1,ih.2 kids Dw hg.2.2.2⟩
   refine⟨hT,fun l=>?_⟩;induction l with
   |nil=>intro _ _;rfl
   |cons t l ihl=>
    intro hs hg;unfold Zh at hs;unfold Ya at hg ⊢;rw[Bool.and_eq_true] at hg ⊢;exact⟨hT t Dw hg.1,ihl Dw hg.2⟩
 exact(key (Zh l)).2 l (Nat.le_refl _) hl
mutual
theorem Qku {A:Nat→Bool}:∀ (t:Tr),Yp A t=true→∀ k x n p l,Tr.mk k x n p l∈P8 t→A p=true
 | .mk k0 x0 n0 p0 l0,h,k,x,n,p,l,hm=>by
  unfold P8 at hm;unfold Yp at h;simp only[Bool.and_eq_true] at h;rcases List.mem_cons.1 hm with hm|hm
  ·cases hm;exact h.1
  ·exact Ep l0 h.2.2.2 k x n p l hm
theorem Ep {A:Nat→Bool}:∀ (l:List Tr),Ya A l=true→∀ k x n p kids,Tr.mk k x n p kids∈G7 l→A p=true
 | [],_,_,_,_,_,_,hm=>by simp[G7] at hm
 |t::l,h,k,x,n,p,kids,hm=>by
  unfold G7 at hm;unfold Ya at h;rw[Bool.and_eq_true] at h;rcases List.mem_append.1 hm with hm|hm
  ·exact Qku t h.1 k x n p kids hm
  ·exact Ep l h.2 k x n p kids hm
end
theorem Qn2 {s:List UInt8}{x:Tr}(h:Bi s=some (.ok x)):∃ ts xs,X4 s=.ok ts∧x=.mk 1 [] 0 0 xs∧Ya (fun p=>ts.any fun t=>t.place==p) xs=true∧Yp (fun _=>true) x=true∧Qa0 x=true∧Xf x≤16384∧U5 x≤64:=by
 cases ht:X4 s with
 |error e=>
  unfold Bi Qcd at h;rw[ht] at h;cases h
 |ok ts=>
  obtain⟨xs,rfl,h1,h2,h3,h4,h5⟩:=Qn8 (f:=Qcg) ht h;refine⟨ts,xs,rfl,rfl,h1,?_,h3,h4,h5⟩;unfold Yp;simp only[Bool.and_eq_true];refine⟨trivial,by simp[Yo],h2,Qo6 (fun _ _=>rfl) xs h1⟩
theorem Qq7 {l:List UInt8}{p:Nat}{c:Int}(h:Bi l=some (.error (p,c))):c≠0:=by
 unfold Bi Qcd at h;cases ht:X4 l with
 |error e=>
  rw[ht] at h;cases h;exact Qff _ _ _ ht
 |ok ts=>
  rw[ht] at h;dsimp only at h;obtain⟨y,-,hy⟩:=Option.map_eq_some_iff.1 h;cases y with
  |error q=>cases hy;decide
  |ok y=>
   obtain⟨t,m⟩:=y;unfold endP at hy;dsimp only at hy;split at hy
   ·split at hy
    ·cases hy
    ·cases hy;decide
   ·cases hy;decide
theorem Qir (S:Nat→Prop)(W:World):Zd S W (.mk 0 [] 0 0 []) (.agg #[.int .i64 0,.string ⟨#[]⟩,.int .u64 0,.int .i64 0,.slice none 0 0]):=by
 refine⟨_,rfl,?_⟩;unfold X3;exact⟨none,0,rfl,.inl rfl⟩
theorem Qrr {w w1:World}{r:Except (Nat×Int) Tr}{v0 v1 v2 v3 v4:Value}{a c:Int}(hB:Below w.heap.size w w1)
  (hR:∀ W0 w2,(∀ k,w.heap.size≤k→k<w1.heap.size→w2.heap[k]? = w1.heap[k]?)→W0.heap.size≤w.heap.size→Below W0.heap.size W0 w2→Vz W0 r (.returned (.tuple #[.agg #[v0,v1,v2,v3,v4],.int .i64 a,.int .i64 c])) w2):
  (∃ p,r=.error (p,c)∧v0=.int .i64 0∧v1=.string ⟨#[]⟩∧v2=.int .u64 0∧v3=.int .i64 0∧v4=.slice none 0 0)∨(∃ x,r=.ok x∧c=0∧Zd (fun _=>True) w1 x (.agg #[v0,v1,v2,v3,v4])):=by
 have h:=hR w w1 (fun _ _ _=>rfl) (Nat.le_refl _) hB;cases r with
 |error pc=>
  obtain⟨p,c0⟩:=pc;obtain⟨hz,-,hcc⟩:=tup3 h.1;have hcc:c=c0:=(Value.int.inj hcc).2;subst hcc;have hz:[v0,v1,v2,v3,v4]=[.int .i64 0,.string ⟨#[]⟩,.int .u64 0,.int .i64 0,.slice none 0 0]:=congrArg (fun v=>v.cells.toList) hz;simp only[List.cons.injEq,and_true] at hz;exact .inl ⟨p,rfl,hz⟩
 |ok x=>
  obtain⟨y0,y1,y2,y3,y4,he,-,hV,-⟩:=h.ok_at;obtain⟨hag,-,hc0⟩:=tup3 he;have hc0:c=0:=(Value.int.inj hc0).2;rw[←hag] at hV;exact .inr ⟨x,rfl,hc0,hV⟩
end Prs
end
section
open Go.RowKit
namespace Prs
theorem Qld {b:Nat}{S:Nat→Prop}{w:World}{v:Value}{l:List Tr}(h:Kids b S w v l):∃ g c,v=.slice g l.length c∧(l=[]∨∃ k,g=some ⟨k,0,none⟩∧∀ i kd x n p kids,l[i]? = some (Tr.mk kd x n p kids)→w.cell? ⟨k,i*5+3,none⟩=some (.int .i64 (p:Int))):=by
 obtain⟨a,c,rfl,hl⟩:=h.slice;refine⟨a,c,rfl,hl.imp id ?_⟩;rintro⟨g,rfl,-,hR⟩;refine⟨g,rfl,fun i kd x n p kids hi=>?_⟩;obtain⟨v0,v1,v2,v3,v4,-,-,-,c3,-,hu⟩:=hR.at_ i _ hi;unfold X3 at hu;obtain⟨_,_,he,-⟩:=hu;simp only[List.cons.injEq] at he;rw[show 0+5*i+3=i*5+3 by omega] at c3;rw[c3,he.2.2.2.1]
theorem Qj5 {base:Nat}{w:World}{v:Value}{ts:List Tok}(h:w.ownsRow base 46 4 v ts.length (Me ts)):∃ g c,v=.slice g ts.length c∧(ts=[]∨∃ k,g=some ⟨k,0,none⟩∧∀ i t,ts[i]? = some t→w.cell? ⟨k,i*4+3,none⟩=some (.int .i64 (t.place:Int))):=by
 have hc:=fun g hg=>h.cells (g:=g) hg
 rcases h.2 with ⟨rfl,h0⟩|⟨g,cap,cur,rfl,-⟩
 ·have:ts=[]:=List.length_eq_zero_iff.1 h0;subst this;exact⟨none,0,rfl,.inl rfl⟩
 ·refine⟨_,_,rfl,.inr ⟨g,rfl,fun i t hi=>?_⟩⟩;obtain⟨hlt,rfl⟩:=List.getElem?_eq_some_iff.1 hi
  have:=hc g rfl (i*4+3) (.int .i64 (ts[i].place:Int)) (by rw[Qcy ts i hlt 3 Dw];rfl);rw[Lib.add_plain] at this;simpa using this
theorem any_take {ts:List Tok}{k p:Nat}{t:Tok}(h:ts[k]? = some t):((ts.take (k+1)).any fun t=>t.place==p)=(((ts.take k).any fun t=>t.place==p)||t.place==p):=by
 rw[List.take_add_one,h,List.any_append];simp
theorem gath_nil (b:Nat)(w:World):Qpu b w (.slice none 0 0) (.slice none 0 0) [] 0:=⟨Kids.nil _ _ _,⟨[],World.ownsRow_nil _ _ _ _⟩,fun _ h=>by simp[Value.ownBlock] at h⟩
theorem Qkv {b:Nat}{S:Nat→Prop}{w:World}{v:Value}{xs:List Tr}{ts:List Tok}(h:Kids b S w v (P8 (.mk 1 [] 0 0 xs)))(hg:Ya (fun p=>ts.any fun t=>t.place==p) xs=true):
  ∃ k c,v=.slice (some ⟨k,0,none⟩) (Xf (.mk 1 [] 0 0 xs)) c∧∀ i,1≤i→i<Xf (.mk 1 [] 0 0 xs)→∃ p:Nat,w.cell? ⟨k,i*5+3,none⟩=some (.int .i64 (p:Int))∧(ts.any fun t=>t.place==p)=true:=by
 obtain⟨g,c,rfl,hl⟩:=Qld h;rw[Qba];rcases hl with hl|⟨k,rfl,hc⟩
 ·simp[P8] at hl
 ·refine⟨k,c,rfl,fun i h1 h2=>?_⟩;rw[←Qba] at h2;have hi:=List.getElem?_eq_getElem h2;generalize (P8 (.mk 1 [] 0 0 xs))[i]=u at hi;cases u with
  |mk kd x n p kids=>
  refine⟨p,hc i kd x n p kids hi,?_⟩;obtain⟨j,rfl⟩:∃ j,i=j+1:=⟨i-1,by omega⟩;unfold P8 at hi;exact Ep xs hg kd x n p kids (List.mem_of_getElem? (i:=j) (by simpa using hi))
theorem Qnu (s:ByteArray)(hs:s.size≤maxLen)(w:World){f:Where}(hf:Nj w f):
  Calls Tryz.prog 6 #[.string s] w fun e w'=>e=.returned (.bool true)∧Below w.heap.size w w':=by
 obtain⟨r,hr,hc⟩:=Qii s w hf hs;have HC:=Dh hc;have HR:=Dh hr;have HF:=Dh hf;have HA:=Dh fun w1 h1=>Qte w1 (f:=f) h1
 have HT:=Dh fun w1=>Qki s w1 hs
 clear hc hf hr;have hs:=Dh hs;go_enter Tryz.func6,Tryz.ntmps6
 go_wp2_with (first|(go_at_call 18;refine HC.out.mono ?_;intro e w1 hp;obtain⟨u0,u1,u2,u3,u4,a,c,rfl,hone,hB,hR⟩:=hp.row;clear hp HC;have hone:=Dh hone;have hB:=Dh hB;have hR:=Dh (Qrr hB.out hR))|((with_reducible refine Hq rfl _ _ rfl rfl (v0:=u0) (v1:=u1) (v2:=u2) (v3:=u3) (v4:=u4) ?hx ?hy hone.out ?_);(case hx=>rfl);(case hy=>rfl);intro W1 hrw hB1;have HRa:=Dh (show RowV w1.heap.size u0 u1 u2 u3 u4 W1 from hrw);clear hrw;have hB1:=Dh hB1))
 have hW1:=Dh (Qb hB.out hB1.out);refine(HA.out _ (HF.out.below hW1.out)).mono ?_;rintro e w3 ⟨rfl,hw3⟩;have hW3:=Dh (Qb hW1.out hw3);have HRb:=Dh (HRa.out.after hw3);rcases hR.out with ⟨p,rfl,rfl,rfl,rfl,rfl,rfl⟩|⟨x,rfl,rfl,hVa⟩
 ·have hc0:=Qq7 HR.out;go_wp2_with fail
  refine(HA.out _ (HF.out.below hW3.out)).mono ?_;rintro e w4 ⟨rfl,hw4⟩;have hW4:=Dh (Qb hW3.out hw4);have HRc:=Dh (HRb.out.after hw4);obtain⟨q0,q1,q2,q3,q4,-⟩:=Z5 HRc.out;go_wp2_with (first|((with_reducible refine wpList_load_mid rfl 26 _ rfl w1.heap.size 0 ?hx [.int .i64 0,.string ⟨#[]⟩,.int .u64 0,.int .i64 0,.slice none 0 0] _ HRc.out.range Tryz.underlying26 rfl (Xe _ rfl) ?_);(case hx=>rfl))|(go_at_call 11;refine(same_c 1 (.mk 0 [] 0 0 []) (.mk 0 [] 0 0 []) (fun _=>True) _ _ _ Dd Dd (Qir _ _) (Qir _ _)).mono ?_;rintro e W5 ⟨rfl,hX⟩;have hW5:=Dh (Qb hW4.out hX);clear hX))
  go_ret;exact⟨rfl,hW5.out⟩
 obtain⟨ts,xs,ht,rfl,hgl,hgt,hfew,hsz,hdp⟩:=Qn2 HR.out;have hTL:=Dh (Qj6 _ _ ht).2;have ht:=Dh ht;have hgl:=Dh hgl;have hgt:=Dh hgt;have hfew:=Dh hfew;have hsz:=Dh hsz;have hdp:=Dh hdp;have hV:=Dh ((hVa.below hB1.out).below hw3);clear hR hVa hB hB1 hone hw3 HRa;go_wp2_with fail
 refine(HT.out _).mono ?_;rintro e w5 ⟨⟨tv,ti,tc,rfl,htv⟩,hw5⟩;rw[show X4 (bl s)=.ok ts from ht.out] at htv;obtain⟨rfl,rfl,hown⟩:=htv;obtain⟨ga,gc,rfl,htk⟩:=Qj5 hown;have hW5:=Dh (Qb hW3.out hw5);have HRa:=Dh (HRb.out.after hw5);have hV:=Dh (hV.out.below hw5);have hTK:=Dh htk;clear hw5 hown HRb htk;have hVb:=Dh (show Zd (· < w5.heap.size) w5 (.mk 1 [] 0 0 xs) (.agg #[u0,u1,u2,u3,u4]) from hV.out.frame (fun _ _ h=>h) fun _ _ _=>rfl);go_wp2_with (first|((with_reducible refine wpList_load_mid rfl 26 _ rfl w1.heap.size 0 ?hx [u0,u1,u2,u3,u4] _ HRa.out.range Tryz.underlying26 rfl (Xe _ rfl) ?_);(case hx=>rfl))|(go_at_call 19;refine(flat_c 16384 _ w5.heap.size w5 _ (.slice none 0 0) (.slice none 0 0) 0 [] 0 hsz.out Dd hVb.out (Nat.le_refl _) (gath_nil _ _) (by have:=hsz.out;simp only[List.length_nil];omega) (by have:=hsz.out;omega)).mono ?_;rintro e W6 ⟨vn,vd,rfl,hG,hTwo,-,-⟩;obtain⟨nb,nc,rfl,hNP⟩:=Qkv (by simpa using hG.kids) hgl.out;have hB6:=hTwo.below_b (b:=w5.heap.size) (Nat.le_refl _) (by simp[Value.ownBlock]) (by simp[Value.ownBlock]);have HRc:=Dh (HRa.out.after hB6);have hVc:=Dh (hV.out.below hB6);have hW6:=Dh (Qb hW5.out hB6);have hTK:=Dh (show ts=[]∨∃ k,ga=some ⟨k,0,none⟩∧∀ i t,ts[i]? = some t→W6.cell? ⟨k,i*4+3,none⟩=some (.int .i64 (t.place:Int)) from hTK.out.imp id fun ⟨k,e,h⟩=>⟨k,e,fun i t hi=>bc hB6 (h i t hi)⟩);have hNP:=Dh hNP;clear hG hTwo hB6 hV hVb HRa))
 have hszn:∃ z,Xf (.mk 1 [] 0 0 xs)=z∧1≤z∧z≤16384:=⟨_,rfl,by unfold Xf;omega,hsz.out⟩;obtain⟨z,hz,hz1,hz2⟩:=hszn;rw[hz] at hNP;try rw[hz]
 have hz:=Dh hz;go_loopw [11] (fun i wr=>∃ k:Nat,1≤k∧k≤z∧i=.int .i64 k∧Below W6.heap.size W6 wr) (fun i _=>z-(intOf i).toNat)
 case atStart=>exact⟨1,Nat.le_refl _,hz1,rfl,Below.refl _ _⟩
 case round=>
  obtain⟨k,hk1,hk,rfl,hBw⟩:=hrel;by_cases hlt:k<z
  ·obtain⟨p,hcp,hany⟩:=hNP.out k hk1 hlt;have hcp:=Dh hcp;have hany:=Dh hany;have hq1:(k:Int)<(z:Int):=by omega
   have hBw:=Dh hBw;go_wp2
   go_loopw [12,13] (fun fd j wr2=>∃ m:Nat,m≤ts.length∧j=.int .i64 m∧fd=.bool ((ts.take m).any fun t=>t.place==p)∧Below W6.heap.size W6 wr2) (fun _ j _=>ts.length-(intOf j).toNat)
   case atStart=>exact⟨0,Nat.zero_le _,rfl,rfl,hBw.out⟩
   case round=>
    obtain⟨m,hm,rfl,rfl,hBv⟩:=hrel;by_cases hlt2:m<ts.length
    ·obtain⟨tb,rfl,hTC⟩:=hTK.out.resolve_left (by rintro rfl;simp at hlt2);obtain⟨tk,htk⟩:∃ u,ts[m]? = some u:=⟨_,List.getElem?_eq_getElem hlt2⟩;have hcell:=bc hBv (hTC m tk htk);have hcell2:=bc hBv hcp.out;have hat:=Dh (any_take (p:=p) htk);have hpe:=Fz tk.place p;have hq2:(m:Int)<(ts.length:Int):=by omega
     have hBv:=Dh hBv;have hm1:wrap64 ((m:Int)+1)=((m+1:Nat):Int):=by
      have:=hTL.out;rw[w64 _ Dw Dw];omega
     clear hTC htk;generalize (ts.take m).any (fun t=>t.place==p)=fd at *;cases fd with
     |true=>
      go_wp2
      go_quiet (fail)
      go_wp2
      exact⟨⟨m+1,by omega,by rw[hm1],by rw[hat.out];rfl,Zg hBv.out _⟩,by rw[hm1];simp[intOf];omega⟩
     |false=>
      cases hpq:tk.place==p with
      |true=>
       rw[hpq] at hpe;go_wp2
       go_quiet (fail)
       go_wp2
       exact⟨⟨m+1,by omega,by rw[hm1],by rw[hat.out,hpq];rfl,Zg hBv.out _⟩,by rw[hm1];simp[intOf];omega⟩
      |false=>
       rw[hpq] at hpe;go_wp2
       go_quiet (fail)
       go_wp2
       exact⟨⟨m+1,by omega,by rw[hm1],by rw[hat.out,hpq];rfl,Zg hBv.out _⟩,by rw[hm1];simp[intOf];omega⟩
    ·obtain rfl:m=ts.length:=by omega
     have hq2:¬ (ts.length:Int)<(ts.length:Int):=by omega
     rw[List.take_length,hany.out];have hk1:wrap64 ((k:Int)+1)=((k+1:Nat):Int):=by rw[w64 _ Dw Dw];omega
     go_wp2
     exact⟨⟨k+1,by omega,by omega,by push_cast;rfl,hBv⟩,by simp[intOf];omega⟩
  ·obtain rfl:k=z:=by omega
   have hq1:¬ (k:Int)<(k:Int):=by omega
   have HRd:=Dh (HRc.out.after hBw);have hVd:=Dh (hVc.out.below hBw);have hW7:=Dh (Qb hW6.out hBw);obtain⟨q0,q1,q2,q3,q4,-⟩:=Z5 HRd.out;go_wp2_with (go_at_call 20;refine(sound_c [] 0 0 xs (fun _=>True) _ _ (fun _=>true) hVd.out hgt.out hfew.out hdp.out hsz.out).mono ?_;rintro e W8 ⟨rfl,hX⟩;have hW8:=Dh (Qb hW7.out hX);clear hX)
   go_ret;exact⟨rfl,hW8.out⟩
end Prs
theorem walkParseSound (s:ByteArray)(hs:s.size≤maxLen)(w:World)(h:∃ f,Prs.Nj w f):
  Calls Tryz.prog 6 #[.string s] w fun e w'=>e=.returned (.bool true)∧Below w.heap.size w w':=by
 obtain⟨f,hf⟩:=h;exact Prs.Qnu s hs w hf
end
end Go.Proofs.YtcbkeecabcbogaaGreatDoor
