/- With enough fuel the reader's functions come to an end; what -/
import Derived.Test.YtcbkeecabcbogaaGreatDoorHaa
import Derived.Laws.Strings
set_option linter.unusedSimpArgs false
set_option linter.unusedVariables false
namespace Go.Proofs.YtcbkeecabcbogaaGreatDoor
section
namespace Prs
def OkL (l:List Tok):Prop:=∀ t∈l,t.kind≠0∧0≤t.num
theorem OkL.tail {l:List Tok}(h:OkL l):OkL l.tail:=fun t ht=>h t (List.mem_of_mem_tail ht)
def Fit {α:Type}(G:α→Nat→Prop)(r:R α):Prop:=∃ y,r=some y∧∀ x m,y=.ok (x,m)→OkL m∧G x m.length
theorem Fit.bad {α:Type}{G:α→Nat→Prop}{p:Nat}:Fit G (bad p:R α):=⟨_,rfl,fun _ _ h=>by cases h⟩
theorem Fit.ok {α:Type}{G:α→Nat→Prop}{x:α}{m:List Tok}(h1:OkL m)(h2:G x m.length):Fit G (ok x m):=⟨_,rfl,fun _ _ h=>by cases h;exact⟨h1,h2⟩⟩
theorem Fit.bind {α β:Type}{G:α→Nat→Prop}{G':β→Nat→Prop}{r:R α}{f:α→List Tok→R β}(h:Fit G r)(hf:∀ x m,OkL m→G x m.length→Fit G' (f x m)):Fit G' (andThen r f):=by
 obtain⟨y,rfl,hy⟩:=h;cases y with
 |error p=>exact⟨_,rfl,fun _ _ h=>by cases h⟩
 |ok z=>
  obtain⟨x,m⟩:=z;obtain⟨h1,h2⟩:=hy x m rfl;exact hf x m h1 h2
theorem Fit.mono {α:Type}{G G':α→Nat→Prop}{r:R α}(h:Fit G r)(hg:∀ x m,G x m→G' x m):Fit G' r:=by
 obtain⟨y,h1,hy⟩:=h;exact⟨y,h1,fun x m e=>⟨(hy x m e).1,hg _ _ (hy x m e).2⟩⟩
theorem Qe0 {l:List Tok}(h:Xg l≠0):l.length=l.tail.length+1:=by
 cases l with
 |nil=>exact absurd rfl h
 |cons t l=>rfl
theorem Qby {w:List UInt8}{l:List Tok}(h:isP w l=true):l.length=l.tail.length+1:=by
 refine Qe0 fun h0=>?_
 unfold isP at h;rw[h0] at h;simp at h
theorem kd_len {l:List Tok}{k:Int}(hk:k≠0)(h:(Xg l==k)=true):l.length=l.tail.length+1:=Qe0 fun h0=>by
 rw[h0] at h;exact hk (beq_iff_eq.1 h).symm
theorem Fit.is {α:Type}{G:α→Nat→Prop}{w:List UInt8}{l:List Tok}{a b:R α}(h1:l.length=l.tail.length+1→Fit G a)(h2:Fit G b):Fit G (if isP w l then a else b):=by
 cases h:isP w l with
 |true=>exact h1 (Qby h)
 |false=>exact h2
theorem Fit.kd {α:Type}{G:α→Nat→Prop}{k:Int}{l:List Tok}{a b:R α}(hk:k≠0)(h1:l.length=l.tail.length+1→Fit G a)(h2:Fit G b):Fit G (if Xg l==k then a else b):=by
 cases h:Xg l==k with
 |true=>exact h1 (kd_len hk h)
 |false=>exact h2
theorem Fit.or {α:Type}{G:α→Nat→Prop}{w v:List UInt8}{l:List Tok}{a b:R α}(h1:l.length=l.tail.length+1→Fit G a)(h2:Fit G b):Fit G (if isP w l||isP v l then a else b):=by
 cases h:isP w l||isP v l with
 |true=>
  rw[Bool.or_eq_true] at h;exact h1 (h.elim Qby Qby)
 |false=>exact h2
theorem Fit.and {α:Type}{G:α→Nat→Prop}{w:List UInt8}{l:List Tok}{c:Bool}{a b:R α}(h1:l.length=l.tail.length+1→Fit G a)(h2:Fit G b):Fit G (if c&&isP w l then a else b):=by
 cases h:c&&isP w l with
 |true=>
  rw[Bool.and_eq_true] at h;exact h1 (Qby h.2)
 |false=>exact h2
theorem num_ok {l:List Tok}(h:OkL l):Qbk l=true:=by
 cases l with
 |nil=>rfl
 |cons t l=>exact decide_eq_true (h t List.mem_cons_self).2
theorem Fit.ite {α:Type}{G:α→Nat→Prop}{c:Prop}[Decidable c]{a b:R α}(h1:Fit G a)(h2:Fit G b):Fit G (if c then a else b):=by
 split
 ·exact h1
 ·exact h2
theorem Qfy (a b:List Tr):Vb (a++b)=Vb a+Vb b:=by
 induction a with
 |nil=>simp[Vb]
 |cons t a ih=>simp only[List.cons_append,Vb,ih];omega
theorem Jy (a:List Tr)(x:Tr):Vb (a++[x])=Vb a+Xm x:=by
 rw[Qfy];simp[Vb]
theorem Zi (t:Tr):1≤Xm t:=by cases t;unfold Xm;omega
def V39 (x:Tr):Prop:=x.kind=39→x.kids≠[]
theorem Fit.kids {α:Type}{G:α→Nat→Prop}{x:Tr}{c:Bool}{F:Tr→R α}{b:R α}(hv:V39 x)(h1:∀ t,Xm t+1≤Xm x→Fit G (F t))(h2:Fit G b):Fit G (if x.kind==39&&c then (match x.kids with
  | []=>none
  |t::_=>F t) else b):=by
 cases h:x.kind==39&&c with
 |false=>exact h2
 |true=>
  rw[Bool.and_eq_true] at h;have hk:=hv (beq_iff_eq.1 h.1);obtain⟨k,y,n,p,l⟩:=x;cases l with
  |nil=>exact absurd rfl hk
  |cons t l=>exact h1 t (by simp only[Xm,Vb];omega)
theorem okl {l:List Tok}(h:OkL l:=by repeat' (first|assumption|apply OkL.tail)):OkL l:=h
theorem szv {p:Prop}(h:p:=by first|omega|(simp only[Xm,Vb,Jy,Qfy] at *;omega)):p:=h
section
variable (e:Nat)
theorem Y8 (w:List UInt8){l:List Tok}(h:OkL l):Fit (fun _ m=>l.length=m+1) (Vl e w l):=by
 unfold Vl;exact Fit.is (fun hl=>Fit.ok h.tail hl) Fit.bad
theorem Rj {l:List Tok}(h:OkL l):Fit (fun _ m=>l.length=m+1) (Rk e l):=by
 unfold Rk;exact Fit.kd Dd (fun hl=>Fit.ok h.tail hl) Fit.bad
theorem semi_fit (w:List UInt8){l:List Tok}(h:OkL l):Fit (fun _ m=>m≤l.length) (Qa6 e w l):=by
 unfold Qa6;exact Fit.kd Dd (fun hl=>Fit.ok h.tail Dw) (Fit.is (fun _=>Fit.ok h (Nat.le_refl _)) Fit.bad)
theorem Qjn (w:List UInt8){l:List Tok}(h:OkL l):Fit (fun _ m=>m+1≤l.length) (A8 e w l):=by
 unfold A8;split
 ·rename_i hc;rw[Bool.and_eq_true] at hc
  have:=kd_len Dd hc.1;exact(Y8 e w h.tail).mono fun _ m hm=>by omega
 ·exact(Y8 e w h).mono fun _ m hm=>by omega
theorem Qgm (shut:List UInt8){one:List Tok→R Tr}{n:Nat}(h1:∀ l,OkL l→l.length≤n→Fit (fun x m=>Xm x+8*m≤8*l.length) (one l)):∀ (f:Nat) (acc:List Tr) (l:List Tok),OkL l→l.length≤n→l.length+1≤f→Fit (fun xs m=>Vb xs+1+8*m≤Vb acc+8*l.length) (Xl e shut one f acc l):=by
 intro f;induction f with
 |zero=>intro acc l h hn hf;omega
 |succ f ih=>
  intro acc l h hn hf;unfold Xl;refine Fit.bind (h1 l h hn) fun x m hm hG=>?_
  have hp:=Zi x;refine Fit.is (fun hl=>?_) ?_
  ·exact(ih _ _ hm.tail Dw Dw).mono fun xs q hq=>by rw[Jy] at hq;omega
  ·exact Fit.bind (Qjn e shut hm) fun _ q hq hG2=>Fit.ok hq (by rw[Jy];omega)
theorem L9 (shut:List UInt8)(first:Bool){one:List Tok→R Tr}{n f:Nat}(h1:∀ l,OkL l→l.length≤n→Fit (fun x m=>Xm x+8*m≤8*l.length) (one l)){l:List Tok}(h:OkL l)(hn:l.length≤n)(hf:l.length+1≤f):Fit (fun xs m=>Vb xs+1+8*m≤8*l.length) (U7 e shut first one f l):=by
 unfold U7;split
 ·rename_i hc;rw[Bool.and_eq_true] at hc
  have:=Qby hc.2;exact Fit.ok h.tail (by simp only[Vb];omega)
 ·exact(Qgm e shut h1 f [] l h hn hf).mono fun xs m hm=>by simp only[Vb] at hm;omega
structure Fits (f:Nat):Prop where
 typ:∀ (l:List Tok),OkL l→8*l.length+1≤f→Fit (fun x m=>Xm x+8*m≤8*l.length) (D7 e f l)
 param:∀ (l:List Tok),OkL l→8*l.length+1≤f→Fit (fun x m=>Xm x+8*m≤8*l.length) (Jk e f l)
 sig:∀ (l:List Tok),OkL l→8*l.length+1≤f→Fit (fun xs m=>Vb xs+1+8*m≤8*l.length) (Qfn e f l)
 block:∀ (l:List Tok),OkL l→8*l.length+1≤f→Fit (fun x m=>Xm x+8*m≤8*l.length) (U5 e f l)
 blockL:∀ (acc:List Tr) (l:List Tok),OkL l→8*l.length+6≤f→Fit (fun xs m=>Vb xs+1+8*m≤Vb acc+8*l.length) (Vf e f acc l)
 branch:∀ (p:Nat) (l:List Tok),OkL l→8*l.length+4≤f→Fit (fun x m=>Xm x+8*m≤8*l.length) (U8 e f p l)
 stmt:∀ (hd:Bool) (l:List Tok),OkL l→8*l.length+5≤f→Fit (fun x m=>Xm x+8*m≤8*l.length) (Gg e f hd l)
 simple:∀ (hd:Bool) (l:List Tok),OkL l→8*l.length+4≤f→Fit (fun x m=>Xm x+8*m≤8*l.length) (Ym e f hd l)
 body:∀ (hd:Bool) (l:List Tok),OkL l→8*l.length+1≤f→Fit (fun x m=>Xm x+8*m≤8*l.length) (Jg e f hd l)
 bodyL:∀ (hd:Bool) (acc:List Tr) (l:List Tok),OkL l→8*l.length+6≤f→Fit (fun xs m=>Vb xs+8*m≤Vb acc+8*l.length) (Ut e f hd acc l)
 oneC:∀ (hd:Bool) (d:Nat) (l:List Tok),OkL l→8*l.length+1≤f→Fit (fun x m=>Xm x.1+8*m≤8*l.length) (Vs e f hd d l)
 selection:∀ (p:Nat) (l:List Tok),OkL l→8*l.length+1≤f→Fit (fun x m=>Xm x+8*m≤8*l.length) (Zp e f p l)
 selL:∀ (acc:List Tr) (d:Nat) (l:List Tok),OkL l→8*l.length+2≤f→Fit (fun xs m=>Vb xs+1+8*m≤Vb acc+8*l.length) (Yn e f acc d l)
 expr:∀ (n:Nat) (hd:Bool) (l:List Tok),OkL l→8*l.length+3≤f→Fit (fun x m=>V39 x∧Xm x+1+8*m≤8*l.length) (Xc e f n hd l)
 exprL:∀ (n:Nat) (hd:Bool) (x:Tr) (l:List Tok),OkL l→V39 x→8*l.length+1≤f→Fit (fun y m=>V39 y∧Xm y+1+8*m≤Xm x+1+8*l.length) (Xu e f n hd x l)
 unary:∀ (hd:Bool) (l:List Tok),OkL l→8*l.length+2≤f→Fit (fun x m=>V39 x∧Xm x+1+8*m≤8*l.length) (Zg e f hd l)
 suf:∀ (hd:Bool) (x:Tr) (l:List Tok),OkL l→V39 x→8*l.length+1≤f→Fit (fun y m=>V39 y∧Xm y+1+8*m≤Xm x+1+8*l.length) (Vp e f hd x l)
 arg:∀ (l:List Tok),OkL l→8*l.length+4≤f→Fit (fun x m=>Xm x+8*m≤8*l.length) (Qhi e f l)
 operand:∀ (hd:Bool) (l:List Tok),OkL l→8*l.length+1≤f→Fit (fun x m=>V39 x∧Xm x+1+8*m≤8*l.length) (Zw e f hd l)
set_option maxHeartbeats 40000000 in
theorem fits:∀ f,Fits e f
 |0=>by constructor <;> intros <;> omega
 |f+1=>by
  have I:=fits f;constructor
  ·intro l h hf;unfold D7;repeat' first
    |exact Fit.bad
    |(refine Fit.is (fun hl=>?_) ?_)
    |(refine Fit.or (fun hl=>?_) ?_)
    |(refine Fit.and (fun hl=>?_) ?_)
    |(refine Fit.kd Dd (fun hl=>?_) ?_)
    |(refine Fit.bind (Y8 e _ okl) (fun _ m hm hG=>?_))
    |(refine Fit.bind (Rj e okl) (fun _ m hm hG=>?_))
    |(refine Fit.bind (L9 e _ _ (fun k h1 h2=>(I.typ k h1 Dw)) okl (Nat.le_refl _) Dw) (fun x m hm hG=>?_))
    |(refine Fit.bind (I.typ  _ okl Dw) (fun x m hm hG=>?_);have hp:=Zi x)
    |(refine Fit.ok okl szv)
    |(refine Fit.ok okl ⟨by first|assumption|simp[V39,Tr.kind,Tr.kids],szv⟩)
    |(refine Fit.ite ?_ ?_)
  ·intro l h hf;unfold Jk;repeat' first
    |exact Fit.bad
    |(refine Fit.is (fun hl=>?_) ?_)
    |(refine Fit.or (fun hl=>?_) ?_)
    |(refine Fit.and (fun hl=>?_) ?_)
    |(refine Fit.kd Dd (fun hl=>?_) ?_)
    |(refine Fit.bind (Rj e okl) (fun _ m hm hG=>?_))
    |(refine Fit.bind (I.typ  _ okl Dw) (fun x m hm hG=>?_);have hp:=Zi x)
    |(refine Fit.ok okl szv)
    |(refine Fit.ok okl ⟨by first|assumption|simp[V39,Tr.kind,Tr.kids],szv⟩)
    |(refine Fit.ite ?_ ?_)
  ·intro l h hf;unfold Qfn;repeat' first
    |exact Fit.bad
    |(refine Fit.is (fun hl=>?_) ?_)
    |(refine Fit.or (fun hl=>?_) ?_)
    |(refine Fit.and (fun hl=>?_) ?_)
    |(refine Fit.kd Dd (fun hl=>?_) ?_)
    |(refine Fit.bind (Y8 e _ okl) (fun _ m hm hG=>?_))
    |(refine Fit.bind (L9 e _ _ (fun k h1 h2=>(I.param k h1 Dw)) okl (Nat.le_refl _) Dw) (fun x m hm hG=>?_))
    |(refine Fit.bind (I.typ  _ okl Dw) (fun x m hm hG=>?_);have hp:=Zi x)
    |(refine Fit.ok okl szv)
    |(refine Fit.ok okl ⟨by first|assumption|simp[V39,Tr.kind,Tr.kids],szv⟩)
    |(refine Fit.ite ?_ ?_)
  ·intro l h hf;unfold U5;repeat' first
    |exact Fit.bad
    |(refine Fit.is (fun hl=>?_) ?_)
    |(refine Fit.or (fun hl=>?_) ?_)
    |(refine Fit.and (fun hl=>?_) ?_)
    |(refine Fit.kd Dd (fun hl=>?_) ?_)
    |(refine Fit.bind (Y8 e _ okl) (fun _ m hm hG=>?_))
    |(refine Fit.bind (I.blockL _ _ okl Dw) (fun x m hm hG=>?_))
    |(refine Fit.ok okl szv)
    |(refine Fit.ok okl ⟨by first|assumption|simp[V39,Tr.kind,Tr.kids],szv⟩)
    |(refine Fit.ite ?_ ?_)
  ·intro acc l h hf;unfold Vf;repeat' first
    |exact Fit.bad
    |(refine Fit.is (fun hl=>?_) ?_)
    |(refine Fit.or (fun hl=>?_) ?_)
    |(refine Fit.and (fun hl=>?_) ?_)
    |(refine Fit.kd Dd (fun hl=>?_) ?_)
    |(refine(I.blockL _ _ okl Dw).mono (fun xs q hq=>?_);rw[Jy] at hq;omega)
    |(refine Fit.bind (semi_fit e _ okl) (fun _ m hm hG=>?_))
    |(refine Fit.bind (I.stmt _ _ okl Dw) (fun x m hm hG=>?_);have hp:=Zi x)
    |(refine Fit.ok okl szv)
    |(refine Fit.ok okl ⟨by first|assumption|simp[V39,Tr.kind,Tr.kids],szv⟩)
    |(refine Fit.ite ?_ ?_)
  ·intro p l h hf;unfold U8;repeat' first
    |exact Fit.bad
    |(refine Fit.is (fun hl=>?_) ?_)
    |(refine Fit.or (fun hl=>?_) ?_)
    |(refine Fit.and (fun hl=>?_) ?_)
    |(refine Fit.kd Dd (fun hl=>?_) ?_)
    |(refine Fit.bind (I.expr _ _ _ okl Dw) (fun x m hm hG=>?_);have hv:=hG.1;have hG:=hG.2;have hp:=Zi x)
    |(refine Fit.bind (I.block  _ okl Dw) (fun x m hm hG=>?_);have hp:=Zi x)
    |(refine Fit.bind (I.branch _ _ okl Dw) (fun x m hm hG=>?_);have hp:=Zi x)
    |(refine Fit.ok okl szv)
    |(refine Fit.ok okl ⟨by first|assumption|simp[V39,Tr.kind,Tr.kids],szv⟩)
    |(refine Fit.ite ?_ ?_)
  ·intro hd l h hf;unfold Gg;repeat' first
    |exact Fit.bad
    |(refine Fit.is (fun hl=>?_) ?_)
    |(refine Fit.or (fun hl=>?_) ?_)
    |(refine Fit.and (fun hl=>?_) ?_)
    |(refine Fit.kd Dd (fun hl=>?_) ?_)
    |(exact I.block _ okl Dw)|(exact I.simple _ _ okl Dw)|(refine(I.branch _ _ okl Dw).mono (fun x q hq=>?_);omega)|(refine(I.selection _ _ okl Dw).mono (fun x q hq=>?_);omega)
    |(refine Fit.bind (Rj e okl) (fun _ m hm hG=>?_))
    |(refine Fit.bind (I.typ  _ okl Dw) (fun x m hm hG=>?_);have hp:=Zi x)
    |(refine Fit.bind (I.expr _ _ _ okl Dw) (fun x m hm hG=>?_);have hv:=hG.1;have hG:=hG.2;have hp:=Zi x)
    |(refine Fit.bind (I.block  _ okl Dw) (fun x m hm hG=>?_);have hp:=Zi x)
    |(refine Fit.ok okl szv)
    |(refine Fit.ok okl ⟨by first|assumption|simp[V39,Tr.kind,Tr.kids],szv⟩)
    |(refine Fit.ite ?_ ?_)
  ·intro hd l h hf;unfold Ym;repeat' first
    |exact Fit.bad
    |(refine Fit.is (fun hl=>?_) ?_)
    |(refine Fit.or (fun hl=>?_) ?_)
    |(refine Fit.and (fun hl=>?_) ?_)
    |(refine Fit.kd Dd (fun hl=>?_) ?_)
    |(refine Fit.bind (Rj e okl) (fun _ m hm hG=>?_))
    |(refine Fit.bind (Y8 e _ okl) (fun _ m hm hG=>?_))
    |(refine Fit.bind (I.expr _ _ _ okl Dw) (fun x m hm hG=>?_);have hv:=hG.1;have hG:=hG.2;have hp:=Zi x)
    |(refine Fit.ok okl szv)
    |(refine Fit.ok okl ⟨by first|assumption|simp[V39,Tr.kind,Tr.kids],szv⟩)
    |(refine Fit.ite ?_ ?_)
  ·intro hd l h hf;unfold Jg;repeat' first
    |exact Fit.bad
    |(refine Fit.is (fun hl=>?_) ?_)
    |(refine Fit.or (fun hl=>?_) ?_)
    |(refine Fit.and (fun hl=>?_) ?_)
    |(refine Fit.kd Dd (fun hl=>?_) ?_)
    |(refine Fit.bind (Y8 e _ okl) (fun _ m hm hG=>?_))
    |(refine Fit.bind (I.bodyL _ _ _ okl Dw) (fun x m hm hG=>?_))
    |(refine Fit.ok okl szv)
    |(refine Fit.ok okl ⟨by first|assumption|simp[V39,Tr.kind,Tr.kids],szv⟩)
    |(refine Fit.ite ?_ ?_)
  ·intro hd acc l h hf;unfold Ut;repeat' first
    |exact Fit.bad
    |(refine Fit.is (fun hl=>?_) ?_)
    |(refine Fit.or (fun hl=>?_) ?_)
    |(refine Fit.and (fun hl=>?_) ?_)
    |(refine Fit.kd Dd (fun hl=>?_) ?_)
    |(refine(I.bodyL _ _ _ okl Dw).mono (fun xs q hq=>?_);rw[Jy] at hq;omega)
    |(refine Fit.bind (I.stmt _ _ okl Dw) (fun x m hm hG=>?_);have hp:=Zi x)
    |(refine Fit.ok okl szv)
    |(refine Fit.ok okl ⟨by first|assumption|simp[V39,Tr.kind,Tr.kids],szv⟩)
    |(refine Fit.ite ?_ ?_)
  ·intro hd d l h hf;unfold Vs;repeat' first
    |exact Fit.bad
    |(refine Fit.is (fun hl=>?_) ?_)
    |(refine Fit.or (fun hl=>?_) ?_)
    |(refine Fit.and (fun hl=>?_) ?_)
    |(refine Fit.kd Dd (fun hl=>?_) ?_)
    |(refine Fit.kids Da (fun t ht=>?_) ?_)
    |(refine Fit.bind (Y8 e _ okl) (fun _ m hm hG=>?_))
    |(refine Fit.bind (Rj e okl) (fun _ m hm hG=>?_))
    |(refine Fit.bind (I.unary _ _ okl Dw) (fun x m hm hG=>?_);have hv:=hG.1;have hG:=hG.2;have hp:=Zi x)
    |(refine Fit.bind (I.expr _ _ _ okl Dw) (fun x m hm hG=>?_);have hv:=hG.1;have hG:=hG.2;have hp:=Zi x)
    |(refine Fit.bind (I.body _ _ okl Dw) (fun x m hm hG=>?_);have hp:=Zi x)
    |(refine Fit.ok okl szv)
    |(refine Fit.ok okl ⟨by first|assumption|simp[V39,Tr.kind,Tr.kids],szv⟩)
    |(refine Fit.ite ?_ ?_)
  ·intro p l h hf;unfold Zp;repeat' first
    |exact Fit.bad
    |(refine Fit.is (fun hl=>?_) ?_)
    |(refine Fit.or (fun hl=>?_) ?_)
    |(refine Fit.and (fun hl=>?_) ?_)
    |(refine Fit.kd Dd (fun hl=>?_) ?_)
    |(refine Fit.bind (Y8 e _ okl) (fun _ m hm hG=>?_))
    |(refine Fit.bind (I.selL _ _ _ okl Dw) (fun x m hm hG=>?_))
    |(refine Fit.ok okl szv)
    |(refine Fit.ok okl ⟨by first|assumption|simp[V39,Tr.kind,Tr.kids],szv⟩)
    |(refine Fit.ite ?_ ?_)
  ·intro acc d l h hf;unfold Yn;repeat' first
    |exact Fit.bad
    |(refine Fit.is (fun hl=>?_) ?_)
    |(refine Fit.or (fun hl=>?_) ?_)
    |(refine Fit.and (fun hl=>?_) ?_)
    |(refine Fit.kd Dd (fun hl=>?_) ?_)
    |(refine(I.selL _ _ _ okl Dw).mono (fun xs q hq=>?_);rw[Jy] at hq;omega)
    |(refine Fit.bind (I.oneC _ _ _ okl Dw) (fun x m hm hG=>?_);have hp:=Zi x.1)
    |(refine Fit.ok okl szv)
    |(refine Fit.ok okl ⟨by first|assumption|simp[V39,Tr.kind,Tr.kids],szv⟩)
    |(refine Fit.ite ?_ ?_)
  ·intro n hd l h hf;unfold Xc;repeat' first
    |exact Fit.bad
    |(refine Fit.is (fun hl=>?_) ?_)
    |(refine Fit.or (fun hl=>?_) ?_)
    |(refine Fit.and (fun hl=>?_) ?_)
    |(refine Fit.kd Dd (fun hl=>?_) ?_)
    |(refine(I.exprL _ _ _ _ okl Da Dw).mono (fun y q hq=>⟨hq.1,?_⟩);have:=hq.2;omega)
    |(refine Fit.bind (I.unary _ _ okl Dw) (fun x m hm hG=>?_);have hv:=hG.1;have hG:=hG.2;have hp:=Zi x)
    |(refine Fit.ok okl szv)
    |(refine Fit.ok okl ⟨by first|assumption|simp[V39,Tr.kind,Tr.kids],szv⟩)
    |(refine Fit.ite ?_ ?_)
  ·intro n hd x l h hx hf;unfold Xu;by_cases hk:Xg l=4
   ·rw[show (if (Xg l==4)=true then Vg (Vm l) else 0)=Vg (Vm l) by simp[hk]];have hl:=Qe0 (l:=l) (by rw[hk];decide);split
    ·exact Fit.ok h ⟨hx,Nat.le_refl _⟩
    ·refine Fit.bind (I.expr _ _ _ h.tail Dw) (fun y m hm hG=>?_);have hv:=hG.1;have hG:=hG.2;refine(I.exprL _ _ _ _ hm (by simp[V39,Tr.kind]) (by have:=Zi y;omega)).mono (fun z q hq=>⟨hq.1,?_⟩)
     have:=hq.2;simp only[Xm,Vb] at this;omega
   ·rw[show (if (Xg l==4)=true then Vg (Vm l) else 0)=0 by simp[hk]];exact Fit.ok h ⟨hx,Nat.le_refl _⟩
  ·intro hd l h hf;unfold Zg;repeat' first
    |exact Fit.bad
    |(refine Fit.is (fun hl=>?_) ?_)
    |(refine Fit.or (fun hl=>?_) ?_)
    |(refine Fit.and (fun hl=>?_) ?_)
    |(refine Fit.kd Dd (fun hl=>?_) ?_)
    |(refine(I.suf _ _ _ okl Da Dw).mono (fun y q hq=>⟨hq.1,?_⟩);have:=hq.2;omega)
    |(refine Fit.bind (I.unary _ _ okl Dw) (fun x m hm hG=>?_);have hv:=hG.1;have hG:=hG.2;have hp:=Zi x)
    |(refine Fit.bind (I.operand _ _ okl Dw) (fun x m hm hG=>?_);have hv:=hG.1;have hG:=hG.2;have hp:=Zi x)
    |(refine Fit.ok okl szv)
    |(refine Fit.ok okl ⟨by first|assumption|simp[V39,Tr.kind,Tr.kids],szv⟩)
    |(refine Fit.ite ?_ ?_)
  ·intro hd x l h hx hf;unfold Vp;repeat' first
    |exact Fit.bad
    |(refine Fit.is (fun hl=>?_) ?_)
    |(refine Fit.or (fun hl=>?_) ?_)
    |(refine Fit.and (fun hl=>?_) ?_)
    |(refine Fit.kd Dd (fun hl=>?_) ?_)
    |(refine(I.suf _ _ _ okl (by simp[V39,Tr.kind]) Dw).mono (fun y q hq=>⟨hq.1,?_⟩);have:=hq.2;simp only[Xm,Vb] at this;omega)
    |(refine Fit.bind (Rj e okl) (fun _ m hm hG=>?_))
    |(refine Fit.bind (L9 e _ _ (fun k h1 h2=>((I.expr 1 false k h1 Dw).mono fun x m hx=>by have:=hx.2;omega)) okl (Nat.le_refl _) Dw) (fun x m hm hG=>?_))
    |(refine Fit.bind (L9 e _ _ (fun k h1 h2=>(I.arg k h1 Dw)) okl (Nat.le_refl _) Dw) (fun x m hm hG=>?_))
    |(refine Fit.ok okl szv)
    |(refine Fit.ok okl ⟨by first|assumption|simp[V39,Tr.kind,Tr.kids],szv⟩)
    |(refine Fit.ite ?_ ?_)
  ·intro l h hf;unfold Qhi;repeat' first
    |exact Fit.bad
    |(refine Fit.is (fun hl=>?_) ?_)
    |(refine Fit.or (fun hl=>?_) ?_)
    |(refine Fit.and (fun hl=>?_) ?_)
    |(refine Fit.kd Dd (fun hl=>?_) ?_)
    |(exact I.typ _ okl Dw)|(refine(I.expr _ _ _ okl Dw).mono (fun y q hq=>?_);have:=hq.2;omega)
    |(refine Fit.ok okl szv)
    |(refine Fit.ok okl ⟨by first|assumption|simp[V39,Tr.kind,Tr.kids],szv⟩)
    |(refine Fit.ite ?_ ?_)
  ·intro hd l h hf;unfold Zw;simp only[num_ok h,if_true];repeat' first
    |exact Fit.bad
    |(refine Fit.is (fun hl=>?_) ?_)
    |(refine Fit.or (fun hl=>?_) ?_)
    |(refine Fit.and (fun hl=>?_) ?_)
    |(refine Fit.kd Dd (fun hl=>?_) ?_)
    |(refine Fit.bind (Qjn e _ okl) (fun _ m hm hG=>?_))
    |(refine Fit.bind (Y8 e _ okl) (fun _ m hm hG=>?_))
    |(refine Fit.bind (Rj e okl) (fun _ m hm hG=>?_))
    |(refine Fit.bind (I.expr _ _ _ okl Dw) (fun x m hm hG=>?_);have hv:=hG.1;have hG:=hG.2;have hp:=Zi x)
    |(refine Fit.bind (I.sig  _ okl Dw) (fun x m hm hG=>?_))
    |(refine Fit.bind (I.block  _ okl Dw) (fun x m hm hG=>?_);have hp:=Zi x)
    |(refine Fit.bind (I.typ  _ okl Dw) (fun x m hm hG=>?_);have hp:=Zi x)
    |(refine Fit.bind (L9 e _ _ (fun k h1 h2=>((I.expr 1 false k h1 Dw).mono fun x m hx=>by have:=hx.2;omega)) okl (Nat.le_refl _) Dw) (fun x m hm hG=>?_))
    |(refine Fit.ok okl szv)
    |(refine Fit.ok okl ⟨by first|assumption|simp[V39,Tr.kind,Tr.kids],szv⟩)
    |(refine Fit.ite ?_ ?_)
end
end Prs
end
section
def bl (s:ByteArray):List UInt8:=s.data.toList
theorem Zc (s:ByteArray):(bl s).length=s.size:=by
 show s.data.toList.length=s.data.size
 simp
theorem bl_mk (l:List UInt8):bl ⟨l.toArray⟩=l:=by simp[bl]
theorem mk_bl (s:ByteArray):(⟨(bl s).toArray⟩:ByteArray)=s:=by simp[bl]
theorem bl_inj {s t:ByteArray}(h:bl s=bl t):s=t:=by rw[←mk_bl s,←mk_bl t,h]
theorem Qdv (s:ByteArray)(a b:Nat):bl (s.extract a b)=((bl s).drop a).take (b-a):=by
 unfold bl;simp[ByteArray.data_extract,List.extract_eq_take_drop]
theorem N8 (s:ByteArray)(a:Nat):bl (s.extract a s.size)=(bl s).drop a:=by
 rw[Qdv,List.take_of_length_le];rw[List.length_drop,Zc];exact Nat.le_refl _
theorem Qck (s:ByteArray)(b:Nat):bl (s.extract 0 b)=(bl s).take b:=by
 rw[Qdv];simp
theorem dec_bl (s:ByteArray)(i:Nat)(h:i<s.size):Utf8.decode s i=Vu ((bl s).drop i):=by
 have e:=dec_drop (bl s) i (by rw[Zc];exact h);rw[mk_bl] at e;exact e
theorem Yh (s:ByteArray):s.toList=bl s:=ByteArray.toList_eq s
theorem Vt (s:ByteArray):bl s=[]↔s.size=0:=by rw[←Zc];exact List.length_eq_zero_iff.symm
theorem Hw (hex:Bool)(n:Nat)(c:UInt8)(l:List UInt8)(h:Uh hex c=none):Xy hex n (c::l)=none:=by
 show (match Uh hex c with|some d=>Xy hex (n*Qc2 hex+d) l|none=>none)=_
 rw[h]
theorem Hu (hex:Bool)(n d:Nat)(c:UInt8)(l:List UInt8)(h:Uh hex c=some d):Xy hex n (c::l)=Xy hex (n*Qc2 hex+d) l:=by
 show (match Uh hex c with|some d=>Xy hex (n*Qc2 hex+d) l|none=>none)=_
 rw[h]
theorem J5 (hex:Bool):∀ (a:List UInt8) (n:Nat) (b:List UInt8),Xy hex n (a++b)=(Xy hex n a).bind fun v=>Xy hex v b
 | [],n,b=>rfl
 |c::a,n,b=>by
  cases hd:Uh hex c with
  |none=>rw[List.cons_append,Hw hex n c _ hd,Hw hex n c _ hd];rfl
  |some d=>rw[List.cons_append,Hu hex n d c _ hd,Hu hex n d c _ hd];exact J5 hex a _ b
theorem Ef (hex:Bool):∀ (l:List UInt8) (n v:Nat),Xy hex n l=some v→n≤v
 | [],n,v,h=>by cases h;exact Nat.le_refl _
 |c::l,n,v,h=>by
  cases hd:Uh hex c with
  |none=>rw[Hw hex n c l hd] at h;cases h
  |some d=>
   rw[Hu hex n d c l hd] at h
   have:=Ef hex l _ _ h;have hb:1≤Qc2 hex:=by unfold Qc2;split <;> decide
   have:n≤n*Qc2 hex:=Nat.le_mul_of_pos_right n hb;omega
theorem Qg7 (hex:Bool)(c:UInt8)(d:Nat)(h:Uh hex c=some d):d<Qc2 hex:=by
 have hc:=c.toNat_lt;unfold Uh at h;cases hex <;> simp[Qc2] at h ⊢
 ·omega
 ·split at h
  ·simp at h;omega
  ·split at h
   ·simp at h;omega
   ·split at h
    ·simp at h;omega
    ·cases h
theorem G5 (hex:Bool)(l:List UInt8)(j:Nat)(v d:Nat)(c:UInt8)(hj:l[j]? = some c)(hv:Xy hex 0 (l.take j)=some v)(hd:Uh hex c=some d):
  Xy hex 0 (l.take (j+1))=some (v*Qc2 hex+d):=by
 obtain⟨h1,h2⟩:=List.getElem?_eq_some_iff.1 hj;rw[List.take_succ_eq_append_getElem h1,h2,J5,hv];show Xy hex v [c]=_
 rw[Hu hex v d c [] hd];rfl
theorem Qa0 (hex:Bool)(l:List UInt8)(j:Nat)(v:Nat)(c:UInt8)(hj:l[j]? = some c)(hv:Xy hex 0 (l.take j)=some v)(hd:Uh hex c=none):
  Xy hex 0 l=none:=by
 obtain⟨h1,h2⟩:=List.getElem?_eq_some_iff.1 hj;have e:l=l.take j++c::l.drop (j+1):=by rw[←h2,←List.drop_eq_getElem_cons h1,List.take_append_drop]
 rw[e,J5,hv];exact Hw hex v c _ hd
theorem Qot (l:List UInt8)(h:Rq l=false)(hz:Jh l=true):Ej l=(0,4):=by simp[Ej,h,hz]
theorem Ei (l:List UInt8)(h:digitsOf l=[]):Ej l=(0,4):=by
 unfold Ej;simp[h]
theorem Qeo (l:List UInt8)(h:Xy (Rq l) 0 (digitsOf l)=none):Ej l=(0,4):=by
 unfold Ej;split
 ·rfl
 ·split
  ·rfl
  ·rw[h]
theorem Qid (l:List UInt8)(v:Nat)(h:Xy (Rq l) 0 (digitsOf l)=some v)(hz:Rq l=true∨Jh l=false)(he:digitsOf l≠[]):Ej l=if v<18446744073709551616 then (v,0) else (0,6):=by
 unfold Ej;rw[if_neg (by rcases hz with hz|hz <;> simp[hz]),if_neg he,h]
theorem Qgy (l:List UInt8):Rq l=(decide (2≤l.length)&&l[0]? == some 48&&l[1]? == some 120):=by
 match l with
 | []=>rfl
 | [a]=>simp[Rq]
 |a::b::m=>
  by_cases ha:a=48
  ·by_cases hb:b=120
   ·subst ha hb;simp[Rq]
   ·subst ha;simp[Rq,hb]
  ·simp[Rq,ha]
theorem N9 (l:List UInt8):Jh l=(decide (2≤l.length)&&l[0]? == some 48):=by
 match l with
 | []=>rfl
 | [a]=>simp[Jh]
 |a::b::m=>
  by_cases ha:a=48
  ·subst ha;simp[Jh]
  ·simp[Jh,ha]
def Y7 (l:List UInt8):Nat:=(l.takeWhile Uo).length
theorem Qdm:∀ (l:List UInt8) (p:Nat) (opn:Bool) (cnt:Nat),lex l p opn cnt=lex (l.drop (Y7 l)) (p+Y7 l) opn cnt
 | [],p,opn,cnt=>rfl
 |b::m,p,opn,cnt=>by
  by_cases h:Uo b=true
  ·have e:Y7 (b::m)=Y7 m+1:=by simp[Y7,List.takeWhile_cons,h]
   rw[Yv b m p opn cnt h,Qdm m (p+1) opn cnt,e,show p+(Y7 m+1)=p+1+Y7 m by omega];rfl
  ·have e:Y7 (b::m)=0:=by simp[Y7,List.takeWhile_cons,h]
   rw[e];rfl
theorem Qp1 (l:List UInt8):Y7 l≤l.length:=by
 unfold Y7;exact(List.takeWhile_sublist _).length_le
theorem line_le (l:List UInt8):Za l≤l.length:=by
 unfold Za;exact(List.takeWhile_sublist _).length_le
theorem Nb {α:Type}(q:α→Bool):∀ l:List α,l.drop (l.takeWhile q).length=l.dropWhile q
 | []=>rfl
 |b::m=>by
  by_cases h:q b=true
  ·simp[List.takeWhile_cons,List.dropWhile_cons,h,Nb q m]
  ·simp[List.takeWhile_cons,List.dropWhile_cons,h]
theorem Qiy (l:List UInt8):l.drop (Y7 l)=l.dropWhile Uo:=Nb _ l
theorem Qj5 {α:Type}(q:α→Bool):∀ (l:List α) (b:α) (m:List α),l.dropWhile q=b::m→q b=false
 | [],b,m,h=>by simp at h
 |c::l,b,m,h=>by
  by_cases hc:q c=true
  ·rw[List.dropWhile_cons,if_pos hc] at h;exact Qj5 q l b m h
  ·rw[List.dropWhile_cons,if_neg hc] at h;cases h;simpa using hc
def Qbe (ts:List Tok):Qkq→Qkq
 | .ok l => .ok (ts++l)
 | .error e => .error e
def Hq (line:Nat)(ts:List Tok):Bool:=decide (line<ts.length)&&(match ts.getLast? with|some t=>X3 t|none=>false)
theorem Qbd (ts:List Tok)(t:Tok)(r:Qkq):Qbe ts (Cb t r)=Qbe (ts++[t]) r:=by
 cases r <;> simp[Qbe,Cb]
theorem Qel (r:Qkq):Qbe [] r=r:=by cases r <;> rfl
theorem F9 (ts:List Tok):Hq ts.length ts=false:=by simp[Hq]
theorem opn_last (ts:List Tok)(t:Tok)(line:Nat)(h:line≤ts.length):Hq line (ts++[t])=X3 t:=by
 have:decide (line<(ts++[t]).length)=true:=by simp;omega
 unfold Hq;rw[this];simp
def Qen (t:Tok):Prop:=(t.kind=1∨t.kind=2∨t.kind=3∨t.kind=4)∨(t.kind=5∧Ky.contains t.text=false)
theorem Qjw (l:List UInt8)(p:Nat)(h:(Un l p).2.2=0):Qen (Un l p).1:=by
 unfold Un at h ⊢;split
 ·split
  ·exact .inl (.inl rfl)
  ·simp only[];left;split
   ·exact .inr (.inr (.inl rfl))
   ·exact .inl rfl
 ·split
  ·exact .inl (.inr (.inl rfl))
  ·rename_i h1 h2;simp only[h1,h2,if_false] at h;split
   ·rename_i g hg;by_cases hg5:g=[59]
    ·right;subst hg5;exact⟨rfl,show Ky.contains [59]=false by decide⟩
    ·left;rw[if_neg hg5];exact .inr (.inr (.inr rfl))
   ·rename_i hg;rw[hg] at h;simp at h
theorem Qjx (l:List UInt8)(p:Nat):(Un l p).2.1≤l.length:=by
 unfold Un;split
 ·split <;> exact Qa7 l
 ·split
  ·exact Qa7 l
  ·split
   ·rename_i g hg
    have:=List.find?_some hg;rw[List.isPrefixOf_iff_prefix] at this;exact this.length_le
   ·exact Nat.zero_le _
theorem Ql5 (l:List UInt8):(if Lib.indexByte l 10<0 then (l.length:Int) else Lib.indexByte l 10)=(Za l:Int):=by
 induction l with
 |nil=>rfl
 |cons b l ih=>
  unfold Lib.indexByte Za;have hge:=Lib.indexByte_ge l 10;by_cases h:b=10
  ·subst h;simp
  ·have hb:(b==10)=false:=by simpa using h
   have hl:((b::l).takeWhile (· != 10)).length=(l.takeWhile (· != 10)).length+1:=by simp[List.takeWhile_cons,h]
   rw[hl,hb];have e:(l.takeWhile (· != 10)).length=Za l:=rfl;rw[e];simp only[Bool.false_eq_true,if_false,List.length_cons];by_cases hn:Lib.indexByte l 10 = -1
   ·rw[hn] at ih ⊢;simp at ih ⊢;omega
   ·have hn':(Lib.indexByte l 10 == -1)=false:=by simpa using hn
    rw[hn'];simp only[Bool.false_eq_true,if_false];rw[if_neg Dw] at ih;rw[if_neg Dw];omega
theorem Qki {t:Tok}{r:Qkq}{ts:List Tok}(h:Cb t r=.ok ts):∃ us,r=.ok us∧ts=t::us:=by
 cases r with
 |error e=>cases h
 |ok l=>cases h;exact⟨l,rfl,rfl⟩
theorem Qez (P:List UInt8→Nat→Bool→Nat→List Tok→Prop)
  (nil0:∀ p cnt,P [] p false cnt [])
  (nil1:∀ p cnt,cnt<16384→P [] p true cnt [Zf p])
  (nl0:∀ m p cnt ts,P m (p+1) false cnt ts→P (10::m) p false cnt ts)
  (nl1:∀ m p cnt ts,cnt<16384→P m (p+1) false (cnt+1) ts→P (10::m) p true cnt (Zf p::ts))
  (blank:∀ b m p opn cnt ts,Uo b=true→P m (p+1) opn cnt ts→P (b::m) p opn cnt ts)
  (remark:∀ l p opn cnt ts,Vh l=true→P (l.drop (Za l)) (p+Za l) opn cnt ts→P l p opn cnt ts)
  (tok:∀ l p opn cnt ts,starts l=true→(Un l p).2.2=0→cnt<16384→P (l.drop (Un l p).2.1) (p+(Un l p).2.1) (X3 (Un l p).1) (cnt+1) ts→P l p opn cnt ((Un l p).1::ts)):
  ∀ (n:Nat) (l:List UInt8) (p:Nat) (opn:Bool) (cnt:Nat) (ts:List Tok),l.length≤n→lex l p opn cnt=.ok ts→P l p opn cnt ts:=by
 intro n;induction n with
 |zero=>
  intro l p opn cnt ts hl h;have:l=[]:=List.length_eq_zero_iff.1 Dw;subst this;rw[Jf] at h;cases opn
  ·cases h;exact nil0 p cnt
  ·simp only[if_true] at h;split at h
   ·cases h
   ·cases h;exact nil1 p cnt Dw
 |succ n ih=>
  intro l p opn cnt ts hl h;cases l with
  |nil=>
   rw[Jf] at h;cases opn
   ·cases h;exact nil0 p cnt
   ·simp only[if_true] at h;split at h
    ·cases h
    ·cases h;exact nil1 p cnt Dw
  |cons b m=>
   have hm:m.length≤n:=by simpa using hl
   by_cases hb:b=10
   ·subst hb;rw[Kq] at h;cases opn
    ·exact nl0 m p cnt ts (ih m _ _ _ _ hm h)
    ·simp only[if_true] at h;split at h
     ·cases h
     ·obtain⟨us,hu,rfl⟩:=Qki h;exact nl1 m p cnt us Dw (ih m _ _ _ _ hm hu)
   ·cases hk:Uo b
    ·cases hr:Vh (b::m)
     ·have hst:starts (b::m)=true:=by simp[starts,hb,hk,hr]
      rw[He _ _ _ _ hst] at h;split at h
      ·cases h
      ·rename_i he;split at h
       ·cases h
       ·obtain⟨us,hu,rfl⟩:=Qki h;have he':(Un (b::m) p).2.2=0:=by simpa using he
        have hp:=one_pos (b::m) p Ds he';exact tok (b::m) p opn cnt us hst he' Dw (ih _ _ _ _ _ (by rw[List.length_drop];simp at hl ⊢;omega) hu)
     ·rw[Y6 _ _ _ _ hr] at h;have hp:=Ro b m hb;exact remark (b::m) p opn cnt ts hr (ih _ _ _ _ _ (by rw[List.length_drop];simp at hl ⊢;omega) h)
    ·rw[Yv b m p opn cnt hk] at h;exact blank b m p opn cnt ts hk (ih m _ _ _ _ hm h)
theorem Qfx {l:List UInt8}(h:starts l=true):l≠[]:=by rintro rfl;cases h
end
section
namespace Prs
section
variable (e:Nat)
end
theorem Qhy (l:List UInt8)(ts:List Tok)(h:X9 l=.ok ts):OkL ts∧ts.length≤16384:=by
 have key:=Qez (fun _ _ _ cnt ts=>OkL ts∧(cnt≤16384→cnt+ts.length≤16384)) (fun p cnt=>⟨fun t ht=>absurd ht Ds,fun h=>by simpa using h⟩)
  (fun p cnt hc=>⟨fun t ht=>by simp at ht;subst ht;simp[Zf],fun _=>by simp;omega⟩)
  (fun m p cnt ts h=>h)
  (fun m p cnt ts hc h=>⟨fun t ht=>by
   rcases List.mem_cons.1 ht with rfl|ht
   ·simp[Zf]
   ·exact h.1 t ht,fun _=>by have:=h.2 Dw;simp;omega⟩)
  (fun b m p opn cnt ts _ h=>h) (fun l p opn cnt ts _ h=>h)
  (fun l p opn cnt ts _ h0 hc h=>⟨fun t ht=>by
   rcases List.mem_cons.1 ht with rfl|ht
   ·refine⟨?_,?_⟩
    ·have:=Qjw l p h0;unfold Qen at this;omega
    ·unfold Un;split
     ·split
      ·exact Int.le_refl _
      ·exact Int.le_refl _
     ·split
      ·exact Int.natCast_nonneg _
      ·split
       ·exact Int.le_refl _
       ·exact Int.le_refl _
   ·exact h.1 t ht,fun _=>by have:=h.2 Dw;simp;omega⟩)
 unfold X9 at h;split at h
 ·cases h
 ·split at h
  ·cases h
  ·have:=key _ l 0 false 0 ts (Nat.le_refl _) h;exact⟨this.1,by have:=this.2 Dw;omega⟩
def Qb2:Nat:=200000
theorem Qp4 (n:Nat){ts:List Tok}(h:OkL ts)(hl:ts.length≤16384):Fit (fun x _=>Xm x≤200000) (Xc n Qb2 1 false ts):=
 ((fits n Qb2).expr 1 false ts h (by unfold Qb2;omega)).mono fun x m hx=>by have:=hx.2;omega
end Prs
end
end Go.Proofs.YtcbkeecabcbogaaGreatDoor
