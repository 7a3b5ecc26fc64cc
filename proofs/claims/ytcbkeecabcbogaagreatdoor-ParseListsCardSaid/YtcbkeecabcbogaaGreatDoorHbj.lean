/- Plain laws: blanks ahead of a text move its tokens, and noth -/
import Derived.Test.YtcbkeecabcbogaaGreatDoorHbh
import Derived.Lib.MapLaws
set_option linter.unusedSimpArgs false
set_option linter.unusedVariables false
namespace Go.Proofs.YtcbkeecabcbogaaGreatDoor
section
def shT (k:Nat)(t:Tok):Tok:=⟨t.kind,t.text,t.num,t.place+k⟩
def shR (k:Nat):Qkq→Qkq
 | .ok ts => .ok (ts.map (shT k))
 | .error (p,c) => .error (p+k,c)
theorem Qjo (k:Nat)(t:Tok)(r:Qkq):shR k (Cb t r)=Cb (shT k t) (shR k r):=by
 cases r with
 |ok ts=>rfl
 |error e=>rfl
theorem Qop (l:List UInt8)(p k:Nat):(Un l (p+k)).2=(Un l p).2∧((Un l p).2.2=0→(Un l (p+k)).1=shT k (Un l p).1):=by
 unfold Un;split
 ·split
  ·exact⟨rfl,fun _=>rfl⟩
  ·exact⟨rfl,fun _=>rfl⟩
 ·split
  ·exact⟨rfl,fun _=>rfl⟩
  ·split
   ·exact⟨rfl,fun _=>rfl⟩
   ·exact⟨rfl,fun h=>by simp at h⟩
theorem Qhb (k:Nat)(t:Tok):X3 (shT k t)=X3 t:=rfl
theorem Qo3 (k:Nat):∀ (n:Nat) (l:List UInt8) (p:Nat) (opn:Bool) (cnt:Nat),l.length≤n→lex l (p+k) opn cnt=shR k (lex l p opn cnt):=by
 have hnil:∀ p opn cnt,lex [] (p+k) opn cnt=shR k (lex [] p opn cnt):=by
  intro p opn cnt;rw[Jf,Jf];cases opn
  ·rfl
  ·simp only[if_true];split <;> rfl
 intro n;induction n with
 |zero=>
  intro l p opn cnt hl;have:l=[]:=List.length_eq_zero_iff.1 Dw;subst this;exact hnil p opn cnt
 |succ n ih=>
  intro l p opn cnt hl;cases l with
  |nil=>exact hnil p opn cnt
  |cons b m=>
   have hm:m.length≤n:=by simpa using hl
   by_cases hb:b=10
   ·subst hb;rw[Kq,Kq,show p+k+1=p+1+k by omega];cases opn
    ·simp only[Bool.false_eq_true,if_false];exact ih m _ _ _ hm
    ·simp only[if_true];split
     ·rfl
     ·rw[ih m _ _ _ hm,Qjo];rfl
   ·cases hk:Uo b
    ·cases hr:Vh (b::m)
     ·have hst:starts (b::m)=true:=by simp[starts,hb,hk,hr]
      obtain⟨h1,h2⟩:=Qop (b::m) p k;rw[He _ _ _ _ hst,He _ _ _ _ hst,h1];split
      ·rfl
      ·rename_i he;have he':(Un (b::m) p).2.2=0:=by simpa using he
       split
       ·rfl
       ·have hp:=one_pos (b::m) p Ds he';rw[h2 he',Qhb,show p+k+(Un (b::m) p).2.1=p+(Un (b::m) p).2.1+k by omega,ih _ _ _ _ (by rw[List.length_drop];simp at hl ⊢;omega),Qjo]
     ·have hp:=Ro b m hb;rw[Y6 _ _ _ _ hr,Y6 _ _ _ _ hr,show p+k+Za (b::m)=p+Za (b::m)+k by omega];exact ih _ _ _ _ (by rw[List.length_drop];simp at hl ⊢;omega)
    ·rw[Yv b m _ opn cnt hk,Yv b m p opn cnt hk,show p+k+1=p+1+k by omega];exact ih m _ _ _ hm
theorem decN (l:List UInt8):Vu l=Lib.decodeN l.length (l.getD 0 0).toNat (l.getD 1 0).toNat (l.getD 2 0).toNat (l.getD 3 0).toNat:=Lib.decodeL_N l
theorem Qg8 (x y:List UInt8)(hb:broken x=false)(hlen:(Vu x).2≤y.length)(h:∀ j,j<(Vu x).2→x.getD j 0=y.getD j 0):Vu y=Vu x:=by
 have hnb:¬ ((Vu x).1=65533∧(Vu x).2<2):=by
  intro hh;unfold broken at hb;simp[hh.1,hh.2] at hb
 rw[decN x] at hnb hlen h;rw[decN y,decN x];have q0:=(x.getD 0 0).toNat_lt;rcases Lib.decodeN_shape x.length (x.getD 0 0).toNat (x.getD 1 0).toNat (x.getD 2 0).toNat (x.getD 3 0).toNat with ⟨c,e⟩|⟨c1,c2,c3,cv,e⟩|⟨c1,c2,c3,c4,cv,cs,e⟩|⟨c1,c2,c3,c4,c5,cv,cw,e⟩|e
 ·rw[e] at h hlen ⊢;rw[←h 0 Ds];unfold Lib.decodeN;rw[if_pos c]
 ·rw[e] at h hlen ⊢;simp only[] at h hlen;rw[←h 0 Ds,←h 1 Ds];unfold Lib.decodeN;rw[if_neg Dw,if_pos ⟨c1,by omega,c3⟩,if_pos cv]
 ·rw[e] at h hlen ⊢;simp only[] at h hlen;rw[←h 0 Ds,←h 1 Ds,←h 2 Ds];unfold Lib.decodeN;rw[if_neg Dw,if_neg Dw,if_pos ⟨c1,⟨by omega,c3⟩,⟨by omega,c4⟩⟩,if_pos ⟨cv,by omega⟩]
 ·rw[e] at h hlen ⊢;simp only[] at h hlen;rw[←h 0 Ds,←h 1 Ds,←h 2 Ds,←h 3 Ds];unfold Lib.decodeN;rw[if_neg Dw,if_neg Dw,if_neg Dw,if_pos ⟨c1,⟨by omega,c3⟩,⟨by omega,c4⟩,⟨by omega,c5⟩⟩,if_pos ⟨cv,by omega⟩]
 ·rw[e] at hnb;simp at hnb
theorem Qci {x y:List UInt8}(h:Vu y=Vu x):broken y=broken x:=by unfold broken;rw[h]
theorem Qb5 {l:List UInt8}(hl:l≠[]):(Vu l).2≤l.length∧1≤(Vu l).2:=by
 cases l with
 |nil=>exact absurd rfl hl
 |cons b m=>exact⟨Pq b m,Di b m⟩
theorem dec_take (l:List UInt8)(n:Nat)(hl:l≠[])(hb:broken l=false)(h:(Vu l).2≤n):Vu (l.take n)=Vu l:=by
 have:=Qb5 hl;refine Qg8 l (l.take n) hb (by rw[List.length_take];omega) fun j hj=>?_
 rw[List.getD_eq_getElem?_getD,List.getD_eq_getElem?_getD,List.getElem?_take_of_lt Dw]
theorem Qi2 (x y:List UInt8)(hx:x≠[])(hb:broken x=false):Vu (x++y)=Vu x:=by
 have:=Qb5 hx;refine Qg8 x (x++y) hb (by rw[List.length_append];omega) fun j hj=>?_
 rw[List.getD_eq_getElem?_getD,List.getD_eq_getElem?_getD,List.getElem?_append_left Dw]
theorem dec_cont (l:List UInt8)(j:Nat)(h0:0<j)(hj:j<(Vu l).2):128≤(l.getD j 0).toNat:=by
 rw[decN l] at hj;rcases Lib.decodeN_shape l.length (l.getD 0 0).toNat (l.getD 1 0).toNat (l.getD 2 0).toNat (l.getD 3 0).toNat with ⟨c,e⟩|⟨c1,c2,c3,cv,e⟩|⟨c1,c2,c3,c4,cv,cs,e⟩|⟨c1,c2,c3,c4,c5,cv,cw,e⟩|e;all_goals
  rw[e] at hj;simp only[] at hj
 ·omega
 ·obtain rfl:j=1:=by omega
  omega
 ·obtain rfl|rfl:j=1∨j=2:=by omega
  ·omega
  ·omega
 ·obtain rfl|rfl|rfl:j=1∨j=2∨j=3:=by omega
  ·omega
  ·omega
  ·omega
 ·omega
def Wh (l:List UInt8):Prop:=Vd l=l.length
theorem Qng:Wh []:=Gp
theorem wh_ne {l:List UInt8}(h:Wh l)(hl:l≠[]):broken l=false∧Wh (l.drop (Vu l).2):=by
 have hf:=Qb5 hl;cases l with
 |nil=>exact absurd rfl hl
 |cons b m=>
  unfold Wh at h;cases hb:broken (b::m)
  ·rw[Jv b m hb] at h;exact⟨rfl,by unfold Wh;rw[List.length_drop];omega⟩
  ·rw[Qax b m hb] at h;simp at h
theorem Qnf {l:List UInt8}(hl:l≠[])(hb:broken l=false):Vd l=(Vu l).2+Vd (l.drop (Vu l).2):=by
 cases l with
 |nil=>exact absurd rfl hl
 |cons b m=>exact Jv b m hb
theorem wh_app (y:List UInt8):∀ (n:Nat) (x:List UInt8),x.length≤n→Wh x→Vd (x++y)=x.length+Vd y:=by
 intro n;induction n with
 |zero=>
  intro x hx _;have:x=[]:=List.length_eq_zero_iff.1 Dw;subst this;simp
 |succ n ih=>
  intro x hx hw;by_cases he:x=[]
  ·subst he;simp
  ·obtain⟨hb,hw2⟩:=wh_ne hw he;have hd:=Qi2 x y he hb;have hf:=Qb5 he;have hxy:x++y≠[]:=by simp[he]
   rw[Qnf hxy (by rw[Qci hd];exact hb),hd,List.drop_append_of_le_length hf.1,ih _ (by rw[List.length_drop];omega) hw2,List.length_drop];omega
theorem Qay {x y:List UInt8}(hx:Wh x)(hy:Wh y):Wh (x++y):=by
 unfold Wh;rw[wh_app y x.length x (Nat.le_refl _) hx,hy,List.length_append]
def Cut (l:List UInt8)(n:Nat):Prop:=n≤l.length∧Wh (l.take n)∧Wh (l.drop n)
theorem Dj {l:List UInt8}(h:Wh l):Cut l 0:=⟨Nat.zero_le _,by rw[List.take_zero];exact Qng,h⟩
theorem take_two (l:List UInt8)(a b:Nat):l.take (a+b)=l.take a++(l.drop a).take b:=List.take_add
theorem Qi3 {l:List UInt8}{a b:Nat}(h:Cut l a)(k:Cut (l.drop a) b):Cut l (a+b):=by
 have:=h.1;have:=k.1;rw[List.length_drop] at this;exact⟨by omega,by rw[take_two];exact Qay h.2.1 k.2.1,by rw[←List.drop_drop];exact k.2.2⟩
theorem Qff {l:List UInt8}(h:Wh l)(hl:l≠[]):Cut l (Vu l).2:=by
 have hf:=Qb5 hl;obtain⟨hb,hw⟩:=wh_ne h hl;refine⟨hf.1,?_,hw⟩;have hd:=dec_take l (Vu l).2 hl hb (Nat.le_refl _);have hne:l.take (Vu l).2≠[]:=by
  intro e;have:=congrArg List.length e;rw[List.length_take,List.length_nil] at this;omega
 unfold Wh;rw[Qnf hne (by rw[Qci hd];exact hb),hd,List.drop_take,Nat.sub_self,List.take_zero,Gp,List.length_take];omega
theorem Qpt:∀ (n:Nat) (l:List UInt8),l.length≤n→Wh l→Cut l (Y9 l):=by
 intro n;induction n with
 |zero=>
  intro l hl h;have:l=[]:=List.length_eq_zero_iff.1 Dw;subst this;rw[G9];exact Dj h
 |succ n ih=>
  intro l hl h;cases l with
  |nil=>rw[G9];exact Dj h
  |cons b m=>
   cases hr:Qbz (Vu (b::m)).1
   ·rw[Nj b m hr];exact Dj h
   ·have hc:=Qff h (List.cons_ne_nil b m);have hp:=Di b m;rw[Hz b m hr];exact Qi3 hc (ih _ (by rw[List.length_drop];simp at hl ⊢;omega) hc.2.2)
theorem Qo1 (l:List UInt8)(d:Nat)(hd:d≤l.length)(h:∀ j,j<d→l.getD j 0≠10):Za l=d+Za (l.drop d):=by
 have e:l=l.take d++l.drop d:=(List.take_append_drop d l).symm;have hall:∀ a∈l.take d,(a != 10)=true:=by
  intro a ha;obtain⟨j,hj,rfl⟩:=List.getElem_of_mem ha;rw[List.length_take] at hj
  have:=h j Dw;rw[List.getElem_take,bne_iff_ne];rw[List.getD_eq_getElem?_getD,List.getElem?_eq_getElem Dw] at this;simpa using this
 unfold Za;conv=>lhs;rw[e]
 rw[List.takeWhile_append_of_pos hall,List.length_append,List.length_take];omega
theorem cut_line:∀ (n:Nat) (l:List UInt8),l.length≤n→Wh l→Cut l (Za l):=by
 intro n;induction n with
 |zero=>
  intro l hl h;have:l=[]:=List.length_eq_zero_iff.1 Dw;subst this;exact Dj h
 |succ n ih=>
  intro l hl h;cases l with
  |nil=>exact Dj h
  |cons b m=>
   by_cases hb:b=10
   ·subst hb;have:Za (10::m)=0:=by simp[Za]
    rw[this];exact Dj h
   ·have hc:=Qff h (List.cons_ne_nil b m);have hp:=Di b m
    rw[Qo1 (b::m) (Vu (b::m)).2 (Pq b m) (by
     intro j hj;by_cases h0:j=0
     ·subst h0;simpa using hb
     ·have:=dec_cont (b::m) j Dw hj
      intro e;rw[e] at this;exact absurd this Dd)]
    exact Qi3 hc (ih _ (by rw[List.length_drop];simp at hl ⊢;omega) hc.2.2)
theorem Bz:∀ (n:Nat) (l:List UInt8),n≤l.length→(∀ b∈l.take n,b.toNat<128)→Wh l→Cut l n:=by
 intro n;induction n with
 |zero=>intro l _ _ h;exact Dj h
 |succ n ih=>
  intro l hl ha h;cases l with
  |nil=>simp at hl
  |cons b m=>
   have hd:=Tq b m (ha b Ds);have hc:=Qff h (List.cons_ne_nil b m);rw[hd] at hc;rw[Nat.add_comm];exact Qi3 hc (ih m (by simpa using hl) (fun c hc=>ha c (by simp[hc])) hc.2.2)
theorem Qgg (l:List UInt8)(p:Nat)(hl:l≠[])(he:(Un l p).2.2=0):((Qbz (Vu l).1=true∧(Un l p).2.1=Y9 l)∨(isLet (Vu l).1=false∧Hg (Vu l).1=false∧D8 l≠[]∧(Un l p).2.1=(D8 l).length)):=by
 unfold Un at he ⊢;cases hL:isLet (Vu l).1
 ·cases hD:Hg (Vu l).1
  ·right;simp only[hL,hD,Bool.false_eq_true,if_false] at he ⊢;rw[Qh2 l hl] at he ⊢;by_cases h:D8 l=[]
   ·rw[if_pos h] at he;simp at he
   ·rw[if_neg h];exact⟨trivial,trivial,h,rfl⟩
  ·left;simp only[hL,hD,Bool.false_eq_true,if_false,if_true] at he ⊢;exact⟨by simp[Qbz,hD],trivial⟩
 ·left;simp only[hL,if_true] at he ⊢;refine⟨by simp[Qbz,hL],?_⟩;split <;> rfl
theorem Qla (l:List UInt8)(h:D8 l≠[]):l.take (D8 l).length=D8 l∧(D8 l).length≤l.length∧∀ b∈D8 l,b.toNat<128:=by
 have h2:∀ g∈Jd,∀ b∈g,b.toNat<128:=by decide
 have h1:∀ g∈Gq,∀ b∈g,b.toNat<128:=by decide
 unfold D8 at h ⊢;split
 ·rename_i hc;refine⟨by rw[List.length_take,List.take_eq_take_iff];omega,by rw[List.length_take];omega,h2 _ (List.contains_iff_mem.1 hc.2)⟩
 ·rename_i hc;rw[if_neg hc] at h;split
  ·rename_i hs;refine⟨by rw[List.length_take,List.take_eq_take_iff];omega,by rw[List.length_take];omega,h1 _ (List.contains_iff_mem.1 hs)⟩
  ·rename_i hs;rw[if_neg hs] at h;exact absurd rfl h
theorem one_cut (l:List UInt8)(p:Nat)(hl:l≠[])(h:Wh l)(he:(Un l p).2.2=0):Cut l (Un l p).2.1:=by
 rcases Qgg l p hl he with ⟨-,e⟩|⟨-,-,h3,e⟩
 ·rw[e];exact Qpt l.length l (Nat.le_refl _) h
 ·rw[e];have hs:=Qla l h3;exact Bz _ l hs.2.1 (by rw[hs.1];exact hs.2.2) h
end
section
namespace Prs
def Sep (q:List UInt8):Prop:=∃ c m,q=c::m∧(c=10∨c=41∨c=44)
theorem Qn6 {q:List UInt8}(h:Sep q):Y9 q=0:=by
 obtain⟨c,m,rfl,h⟩:=h;refine Nj c m ?_;rcases h with rfl|rfl|rfl <;> rw[Tq _ _ Dd] <;> decide
theorem run_join {q:List UInt8}(hq:Sep q):∀ (n:Nat) (l:List UInt8),l.length≤n→Wh l→Y9 (l++q)=Y9 l:=by
 intro n;induction n with
 |zero=>
  intro l hl _;have:l=[]:=List.length_eq_zero_iff.1 Dw;subst this;rw[List.nil_append,Qn6 hq,G9]
 |succ n ih=>
  intro l hl h;cases l with
  |nil=>rw[List.nil_append,Qn6 hq,G9]
  |cons b m=>
   obtain⟨hb,hw⟩:=wh_ne h (List.cons_ne_nil b m);have hd:=Qi2 (b::m) q (List.cons_ne_nil b m) hb;rw[List.cons_append] at hd ⊢;cases hr:Qbz (Vu (b::m)).1
   ·rw[Nj b m hr];exact Nj b (m++q) (by rw[hd];exact hr)
   ·have hp:=Di b m;have hf:=Pq b m;rw[Hz b m hr,Hz b (m++q) (by rw[hd];exact hr),hd,←List.cons_append,List.drop_append_of_le_length hf,ih _ (by rw[List.length_drop];simp at hl ⊢;omega) hw]
theorem Qn2 {q l:List UInt8}(hq:Sep q)(h:D8 l≠[]):D8 (l++q)=D8 l:=by
 obtain⟨c,m,rfl,hc⟩:=hq;cases l with
 |nil=>exact absurd rfl h
 |cons a l=>
  cases l with
  |nil=>
   have h1:∀ x,Jd.contains ([a,x])=true→x≠10∧x≠41∧x≠44:=by
    intro x hx;have hx:=List.contains_iff_mem.1 hx;unfold Jd at hx;simp only[List.mem_cons,List.not_mem_nil,or_false,List.cons.injEq,and_true] at hx;rcases hx with hx|hx|hx|hx|hx|hx|hx|hx|hx|hx|hx <;> (rw[hx.2];decide)
   have hn:¬ (2≤([a]++c::m).length∧Jd.contains (([a]++c::m).take 2)=true):=fun hh=>by
    obtain⟨k1,k2,k3⟩:=h1 c hh.2;rcases hc with rfl|rfl|rfl <;> contradiction
   have hn':¬ (2≤[a].length∧Jd.contains ([a].take 2)=true):=fun hh=>absurd hh.1 Ds
   unfold D8;rw[if_neg hn,if_neg hn'];rfl
  |cons b l=>
   have e2:(2≤(a::b::l++c::m).length∧Jd.contains ((a::b::l++c::m).take 2)=true)↔(2≤(a::b::l).length∧Jd.contains ((a::b::l).take 2)=true):=by
    constructor <;> intro hh <;> exact⟨by simp,hh.2⟩
   unfold D8;by_cases hh:(2≤(a::b::l).length∧Jd.contains ((a::b::l).take 2)=true)
   ·rw[if_pos (e2.2 hh),if_pos hh];rfl
   ·rw[if_neg fun h=>hh (e2.1 h),if_neg hh];rfl
theorem one_join {q l:List UInt8}(hq:Sep q)(p:Nat)(hl:l≠[])(h:Wh l)(he:(Un l p).2.2=0):Un (l++q) p=Un l p:=by
 obtain⟨hb,-⟩:=wh_ne h hl;have hd:=Qi2 l q hl hb;have hne:l++q≠[]:=by simp[hl]
 have hr:=run_join hq l.length l (Nat.le_refl _) h;have hc:=(Qpt l.length l (Nat.le_refl _) h).1;rcases Qgg l p hl he with ⟨h1,e⟩|⟨hL,hD,h3,e⟩
 ·have ht:(l++q).take (Y9 l)=l.take (Y9 l):=List.take_append_of_le_length hc;unfold Un;rw[hr,hd,ht];cases hL:isLet (Vu l).1
  ·have hD:Hg (Vu l).1=true:=by simpa [Qbz,hL] using h1
   simp only[hD,Bool.false_eq_true,if_false,if_true]
  ·simp only[if_true]
 ·have hs:=Qn2 hq h3;unfold Un;rw[hd,hL,hD];simp only[Bool.false_eq_true,if_false];rw[Qh2 _ hne,Qh2 _ hl,hs]
theorem Qba {q l:List UInt8}(hq:Sep q)(hl:l≠[]):Vh (l++q)=Vh l:=by
 obtain⟨c,m,rfl,hc⟩:=hq;cases l with
 |nil=>exact absurd rfl hl
 |cons a l=>
  cases l with
  |nil=>
   unfold Vh;have:c≠47:=by rcases hc with rfl|rfl|rfl <;> decide
   simp[List.isPrefixOf,Ne.symm this]
  |cons b l=>simp[Vh,List.isPrefixOf]
theorem Qh0 {q l:List UInt8}(hq:Sep q)(h:starts l=true):starts (l++q)=true:=by
 have hr:=Qba hq (Qfx h);cases l with
 |nil=>cases h
 |cons b m=>
  simp only[starts,Bool.and_eq_true,Bool.not_eq_true',List.cons_append] at h hr ⊢;rw[hr];exact h
theorem Qo2 (l m:List UInt8):Za (l++10::m)=Za l∧(l++10::m).drop (Za l)=l.drop (Za l)++10::m:=by
 have h1:Za (l++10::m)=Za l:=by
  unfold Za;induction l with
  |nil=>simp[List.takeWhile_cons]
  |cons b l ih=>
   by_cases hb:b=10
   ·subst hb;simp[List.takeWhile_cons]
   ·simp[List.takeWhile_cons,hb,ih]
 refine⟨h1,List.drop_append_of_le_length ?_⟩;unfold Za;exact(List.takeWhile_sublist _).length_le
theorem one_five (l:List UInt8)(p:Nat)(he:(Un l p).2.2=0)(h:(Un l p).1.kind=5):∃ m,l=59::m:=by
 unfold Un at h he;split at h
 ·split at h
  ·cases h
  ·split at h <;> cases h
 ·split at h
  ·cases h
  ·split at h
   ·rename_i g hg;have hg2:=List.find?_some hg;rw[List.isPrefixOf_iff_prefix] at hg2;dsimp only at h;split at h
    ·rename_i h59;subst h59;obtain⟨m,rfl⟩:=hg2;exact⟨m,rfl⟩
    ·cases h
   ·cases h
def Qi9 (l:List UInt8):Prop:=∀ k,Vh (l.drop k)=false
theorem Qi9.drop {l:List UInt8}(h:Qi9 l)(n:Nat):Qi9 (l.drop n):=fun k=>by rw[List.drop_drop];exact h (n+k)
theorem Qj2 {q:List UInt8}(hq:Sep q)(l:List UInt8)(p:Nat)(opn:Bool)(cnt:Nat)(ts:List Tok)(h:lex l p opn cnt=.ok ts):Wh l→(Qi9 l∨q.head? = some 10)→
  ∃ ts0 o,ts=ts0++(if o then [Zf (p+l.length)] else [])∧lex (l++q) p opn cnt=Qbe ts0 (lex q (p+l.length) o (cnt+ts0.length))∧ts0.length≤l.length∧((∀ b∈l,b≠10∧b≠59)→∀ t∈ts0,t.kind≠5):=by
 refine Qez (fun l p opn cnt ts=>Wh l→(Qi9 l∨q.head? = some 10)→∃ ts0 o,ts=ts0++(if o then [Zf (p+l.length)] else [])∧lex (l++q) p opn cnt=Qbe ts0 (lex q (p+l.length) o (cnt+ts0.length))∧ts0.length≤l.length∧((∀ b∈l,b≠10∧b≠59)→∀ t∈ts0,t.kind≠5)) ?_ ?_ ?_ ?_ ?_ ?_ ?_ l.length l p opn cnt ts (Nat.le_refl _) h
 ·intro p cnt _ _;exact⟨[],false,rfl,(Qel _).symm,Nat.le_refl _,fun _ t ht=>by cases ht⟩
 ·intro p cnt hc _ _;exact⟨[],true,rfl,(Qel _).symm,Nat.le_refl _,fun _ t ht=>by cases ht⟩
 ·intro m p cnt ts ih hw hn;have hc:Cut (10::m) 1:=Bz 1 (10::m) Ds Ds hw;obtain⟨ts0,o,e1,e2,e3,e4⟩:=ih hc.2.2 (hn.imp (fun h=>h.drop 1) id);refine⟨ts0,o,by rw[e1];simp only[List.length_cons];rw[Nat.add_assoc,Nat.add_comm 1],?_,by simp;omega,fun h=>absurd rfl (h 10 List.mem_cons_self).1⟩;rw[List.cons_append,Kq,if_neg Ds,e2,List.length_cons,Nat.add_assoc p,Nat.add_comm 1]
 ·intro m p cnt ts h16 ih hw hn;have hc:Cut (10::m) 1:=Bz 1 (10::m) Ds Ds hw;obtain⟨ts0,o,e1,e2,e3,e4⟩:=ih hc.2.2 (hn.imp (fun h=>h.drop 1) id);refine⟨Zf p::ts0,o,by rw[e1];simp only[List.length_cons,List.cons_append];rw[Nat.add_assoc p,Nat.add_comm 1],?_,by simp;omega,fun h=>absurd rfl (h 10 List.mem_cons_self).1⟩;rw[List.cons_append,Kq,if_pos rfl,if_neg Dw,e2,List.length_cons,List.length_cons,Nat.add_assoc p,Nat.add_comm 1 m.length,show cnt+1+ts0.length=cnt+(ts0.length+1) by omega];generalize lex q _ _ _=r;cases r <;> rfl
 ·intro b m p opn cnt ts hb ih hw hn;have hb8:b.toNat<128:=by
   unfold Uo at hb;simp only[Bool.or_eq_true,beq_iff_eq] at hb;rcases hb with (rfl|rfl)|rfl <;> decide
  have hc:Cut (b::m) 1:=Bz 1 (b::m) Ds (by simpa using hb8) hw;obtain⟨ts0,o,e1,e2,e3,e4⟩:=ih hc.2.2 (hn.imp (fun h=>h.drop 1) id);refine⟨ts0,o,by rw[e1];simp only[List.length_cons];rw[Nat.add_assoc,Nat.add_comm 1],?_,by simp;omega,fun h=>e4 fun c hc=>h c (List.mem_cons_of_mem _ hc)⟩;rw[List.cons_append,Yv _ _ _ _ _ hb,e2,List.length_cons,Nat.add_assoc p,Nat.add_comm 1]
 ·intro l p opn cnt ts hr ih hw hn;have hl:l≠[]:=by rintro rfl;simp[Vh] at hr
  have hq10:q.head? = some 10:=by
   rcases hn with hn|hn
   ·have:=hn 0;rw[List.drop_zero,hr] at this;cases this
   ·exact hn
  obtain⟨m,rfl⟩:∃ m,q=10::m:=by
   cases q with
   |nil=>cases hq10
   |cons c m=>cases hq10;exact⟨m,rfl⟩
  have hc:Cut l (Za l):=cut_line l.length l (Nat.le_refl _) hw;obtain⟨ts0,o,e1,e2,e3,e4⟩:=ih hc.2.2 (.inr rfl);have hlen:p+Za l+(l.drop (Za l)).length=p+l.length:=by
   have:=hc.1;rw[List.length_drop];omega
  obtain⟨k1,k2⟩:=Qo2 l m;rw[hlen] at e1 e2;rw[List.length_drop] at e3;refine⟨ts0,o,e1,?_,by omega,fun h=>e4 fun c hc=>h c (List.mem_of_mem_drop hc)⟩;rw[Y6 _ _ _ _ (by rw[Qba hq hl];exact hr),k1,k2,e2]
 ·intro l p opn cnt ts hs he h16 ih hw hn;have hl:=Qfx hs;have hc:=one_cut l p hl hw he;obtain⟨ts0,o,e1,e2,e3,e4⟩:=ih hc.2.2 (hn.imp (fun h=>h.drop _) id);have hlen:p+(Un l p).2.1+(l.drop (Un l p).2.1).length=p+l.length:=by
   have:=hc.1;rw[List.length_drop];omega
  rw[hlen] at e1 e2;rw[List.length_drop] at e3;have hp:=one_pos l p hl he;have hf:=Qjx l p;refine⟨(Un l p).1::ts0,o,by rw[e1];rfl,?_,by simp;omega,fun h t ht=>?_⟩;rotate_left
  ·rcases List.mem_cons.1 ht with rfl|ht
   ·intro h5;obtain⟨m,rfl⟩:=one_five l p he h5;exact(h 59 List.mem_cons_self).2 rfl
   ·exact e4 (fun c hc=>h c (List.mem_of_mem_drop hc)) t ht
  rw[He _ _ _ _ (Qh0 hq hs),one_join hq p hl hw he,if_neg (by rw[he];simp),if_neg Dw,List.drop_append_of_le_length hc.1,e2,List.length_cons,show cnt+1+ts0.length=cnt+(ts0.length+1) by omega];generalize lex q _ _ _=r;cases r <;> rfl
theorem lex_last (l:List UInt8)(p:Nat)(opn:Bool)(cnt:Nat)(ts:List Tok)(h:lex l p opn cnt=.ok ts):(ts=[]→opn=false)∧∀ c t,ts=c++[t]→X3 t=false:=by
 refine Qez (fun _ _ opn _ ts=>(ts=[]→opn=false)∧∀ c t,ts=c++[t]→X3 t=false) ?_ ?_ ?_ ?_ ?_ ?_ ?_ l.length l p opn cnt ts (Nat.le_refl _) h
 ·exact fun p cnt=>⟨fun _=>rfl,fun c t e=>by simp at e⟩
 ·intro p cnt _;refine⟨fun e=>by simp at e,fun c t e=>?_⟩;cases c with
  |nil=>simp at e;rw[←e];rfl
  |cons a c=>simp at e
 ·exact fun m p cnt ts ih=>⟨fun _=>rfl,ih.2⟩
 ·intro m p cnt ts _ ih;refine⟨fun e=>by simp at e,fun c t e=>?_⟩;cases c with
  |nil=>simp at e;rw[←e.1];rfl
  |cons a c=>simp at e;exact ih.2 c t e.2
 ·exact fun b m p opn cnt ts _ ih=>ih
 ·exact fun l p opn cnt ts _ ih=>ih
 ·intro l p opn cnt ts _ _ _ ih;refine⟨fun e=>by simp at e,fun c t e=>?_⟩;cases c with
  |nil=>simp at e;rw[←e.1];exact ih.1 e.2
  |cons a c=>simp at e;exact ih.2 c t e.2
theorem Qan (c:UInt8)(m:List UInt8)(p:Nat)(opn:Bool)(cnt:Nat)(hc:c=40∨c=41∨c=44)(h16:cnt<16384):lex (c::m) p opn cnt=Cb ⟨4,[c],0,p⟩ (lex m (p+1) (c==41) (cnt+1)):=by
 have key:starts (c::m)=true∧Un (c::m) p=(⟨4,[c],0,p⟩,1,0)∧X3 ⟨4,[c],0,p⟩=(c==41):=by
  rcases hc with rfl|rfl|rfl;all_goals
   refine⟨rfl,?_,rfl⟩;unfold Un;rw[Tq _ _ Dd];rfl
 obtain⟨k1,k2,k4⟩:=key;rw[He _ _ _ _ k1,k2];simp only[ne_eq,not_true_eq_false,if_false];rw[if_neg Dw,k4];rfl
end Prs
end
end Go.Proofs.YtcbkeecabcbogaaGreatDoor
