/- With enough fuel the reader's functions come to an end; what -/
import Derived.Test.YtcbkeecabcbogaaGreatDoorBaa
import Derived.Laws.Strings
set_option linter.unusedSimpArgs false
set_option linter.unusedVariables false
namespace Go.Proofs.YtcbkeecabcbogaaGreatDoor
section
namespace Prs
def OkL (l:List Tok):Prop:=∀ t∈l,t.kind≠0∧0≤t.num
theorem OkL.tail {l:List Tok}(h:OkL l):OkL l.tail:=fun t ht=>h t (List.mem_of_mem_tail ht)
def Fit {α:Type}(G:α→Nat→Prop)(r:R α):Prop:=∃ y,r=some y∧∀ x m,y=.ok (x,m)→OkL m∧G x m.length
theorem Fit.bad {α:Type}{G:α→Nat→Prop}{p:Nat}:Fit G (bad p:R α):=⟨_,rfl,fun _ _ h=>by cases h⟩
theorem Fit.ok {α:Type}{G:α→Nat→Prop}{x:α}{m:List Tok}(h1:OkL m)(h2:G x m.length):Fit G (ok x m):=⟨_,rfl,fun _ _ h=>by cases h;exact⟨h1,h2⟩⟩
theorem Fit.bind {α β:Type}{G:α→Nat→Prop}{G':β→Nat→Prop}{r:R α}{f:α→List Tok→R β}(h:Fit G r)(hf:∀ x m,OkL m→G x m.length→Fit G' (f x m)):Fit G' (andThen r f):=by
 obtain⟨y,rfl,hy⟩:=h;cases y with
 |error p=>exact⟨_,rfl,fun _ _ h=>by cases h⟩
 |ok z=>
  obtain⟨x,m⟩:=z;obtain⟨h1,h2⟩:=hy x m rfl;exact hf x m h1 h2
theorem Fit.mono {α:Type}{G G':α→Nat→Prop}{r:R α}(h:Fit G r)(hg:∀ x m,G x m→G' x m):Fit G' r:=by
 obtain⟨y,h1,hy⟩:=h;exact⟨y,h1,fun x m e=>⟨(hy x m e).1,hg _ _ (hy x m e).2⟩⟩
theorem Qc0 {l:List Tok}(h:Q9 l≠0):l.length=l.tail.length+1:=by
 cases l with
 |nil=>exact absurd rfl h
 |cons t l=>rfl
theorem Qee {w:List UInt8}{l:List Tok}(h:isP w l=true):l.length=l.tail.length+1:=by
 refine Qc0 fun h0=>?_
 unfold isP at h;rw[h0] at h;simp at h
theorem kd_len {l:List Tok}{k:Int}(hk:k≠0)(h:(Q9 l==k)=true):l.length=l.tail.length+1:=Qc0 fun h0=>by
 rw[h0] at h;exact hk (beq_iff_eq.1 h).symm
theorem Fit.is {α:Type}{G:α→Nat→Prop}{w:List UInt8}{l:List Tok}{a b:R α}(h1:l.length=l.tail.length+1→Fit G a)(h2:Fit G b):Fit G (if isP w l then a else b):=by
 cases h:isP w l with
 |true=>exact h1 (Qee h)
 |false=>exact h2
theorem Fit.kd {α:Type}{G:α→Nat→Prop}{k:Int}{l:List Tok}{a b:R α}(hk:k≠0)(h1:l.length=l.tail.length+1→Fit G a)(h2:Fit G b):Fit G (if Q9 l==k then a else b):=by
 cases h:Q9 l==k with
 |true=>exact h1 (kd_len hk h)
 |false=>exact h2
theorem Fit.or {α:Type}{G:α→Nat→Prop}{w v:List UInt8}{l:List Tok}{a b:R α}(h1:l.length=l.tail.length+1→Fit G a)(h2:Fit G b):Fit G (if isP w l||isP v l then a else b):=by
 cases h:isP w l||isP v l with
 |true=>
  rw[Bool.or_eq_true] at h;exact h1 (h.elim Qee Qee)
 |false=>exact h2
theorem Fit.and {α:Type}{G:α→Nat→Prop}{w:List UInt8}{l:List Tok}{c:Bool}{a b:R α}(h1:l.length=l.tail.length+1→Fit G a)(h2:Fit G b):Fit G (if c&&isP w l then a else b):=by
 cases h:c&&isP w l with
 |true=>
  rw[Bool.and_eq_true] at h;exact h1 (Qee h.2)
 |false=>exact h2
theorem num_ok {l:List Tok}(h:OkL l):Qdz l=true:=by
 cases l with
 |nil=>rfl
 |cons t l=>exact decide_eq_true (h t List.mem_cons_self).2
theorem Fit.ite {α:Type}{G:α→Nat→Prop}{c:Prop}[Decidable c]{a b:R α}(h1:Fit G a)(h2:Fit G b):Fit G (if c then a else b):=by
 split
 ·exact h1
 ·exact h2
theorem Aw (a b:List Tr):Zk (a++b)=Zk a+Zk b:=by
 induction a with
 |nil=>simp[Zk]
 |cons t a ih=>simp only[List.cons_append,Zk,ih];omega
theorem Y4 (a:List Tr)(x:Tr):Zk (a++[x])=Zk a+Xc x:=by
 rw[Aw];simp[Zk]
theorem Zn (t:Tr):1≤Xc t:=by cases t;unfold Xc;omega
def V39 (x:Tr):Prop:=x.kind=39→x.kids≠[]
theorem Fit.kids {α:Type}{G:α→Nat→Prop}{x:Tr}{c:Bool}{F:Tr→R α}{b:R α}(hv:V39 x)(h1:∀ t,Xc t+1≤Xc x→Fit G (F t))(h2:Fit G b):Fit G (if x.kind==39&&c then (match x.kids with
  | []=>none
  |t::_=>F t) else b):=by
 cases h:x.kind==39&&c with
 |false=>exact h2
 |true=>
  rw[Bool.and_eq_true] at h;have hk:=hv (beq_iff_eq.1 h.1);obtain⟨k,y,n,p,l⟩:=x;cases l with
  |nil=>exact absurd rfl hk
  |cons t l=>exact h1 t (by simp only[Xc,Zk];omega)
theorem okl {l:List Tok}(h:OkL l:=by repeat' (first|assumption|apply OkL.tail)):OkL l:=h
theorem szv {p:Prop}(h:p:=by first|omega|(simp only[Xc,Zk,Y4,Aw] at *;omega)):p:=h
section
variable (e:Nat)
theorem Jb (w:List UInt8){l:List Tok}(h:OkL l):Fit (fun _ m=>l.length=m+1) (Vw e w l):=by
 unfold Vw;exact Fit.is (fun hl=>Fit.ok h.tail hl) Fit.bad
theorem Hu {l:List Tok}(h:OkL l):Fit (fun _ m=>l.length=m+1) (H8 e l):=by
 unfold H8;exact Fit.kd Dd (fun hl=>Fit.ok h.tail hl) Fit.bad
theorem Qgx (w:List UInt8){l:List Tok}(h:OkL l):Fit (fun _ m=>m≤l.length) (J3 e w l):=by
 unfold J3;exact Fit.kd Dd (fun hl=>Fit.ok h.tail Dw) (Fit.is (fun _=>Fit.ok h (Nat.le_refl _)) Fit.bad)
theorem Qmj (w:List UInt8){l:List Tok}(h:OkL l):Fit (fun _ m=>m+1≤l.length) (Eb e w l):=by
 unfold Eb;split
 ·rename_i hc;rw[Bool.and_eq_true] at hc
  have:=kd_len Dd hc.1;exact(Jb e w h.tail).mono fun _ m hm=>by omega
 ·exact(Jb e w h).mono fun _ m hm=>by omega
theorem Qi9 (shut:List UInt8){one:List Tok→R Tr}{n:Nat}(h1:∀ l,OkL l→l.length≤n→Fit (fun x m=>Xc x+8*m≤8*l.length) (one l)):∀ (f:Nat) (acc:List Tr) (l:List Tok),OkL l→l.length≤n→l.length+1≤f→Fit (fun xs m=>Zk xs+1+8*m≤Zk acc+8*l.length) (Xr e shut one f acc l):=by
 intro f;induction f with
 |zero=>intro acc l h hn hf;omega
 |succ f ih=>
  intro acc l h hn hf;unfold Xr;refine Fit.bind (h1 l h hn) fun x m hm hG=>?_
  have hp:=Zn x;refine Fit.is (fun hl=>?_) ?_
  ·exact(ih _ _ hm.tail Dw Dw).mono fun xs q hq=>by rw[Y4] at hq;omega
  ·exact Fit.bind (Qmj e shut hm) fun _ q hq hG2=>Fit.ok hq (by rw[Y4];omega)
theorem Bq (shut:List UInt8)(first:Bool){one:List Tok→R Tr}{n f:Nat}(h1:∀ l,OkL l→l.length≤n→Fit (fun x m=>Xc x+8*m≤8*l.length) (one l)){l:List Tok}(h:OkL l)(hn:l.length≤n)(hf:l.length+1≤f):Fit (fun xs m=>Zk xs+1+8*m≤8*l.length) (Yk e shut first one f l):=by
 unfold Yk;split
 ·rename_i hc;rw[Bool.and_eq_true] at hc
  have:=Qee hc.2;exact Fit.ok h.tail (by simp only[Zk];omega)
 ·exact(Qi9 e shut h1 f [] l h hn hf).mono fun xs m hm=>by simp only[Zk] at hm;omega
structure Fits (f:Nat):Prop where
 typ:∀ (l:List Tok),OkL l→8*l.length+1≤f→Fit (fun x m=>Xc x+8*m≤8*l.length) (Nk e f l)
 param:∀ (l:List Tok),OkL l→8*l.length+1≤f→Fit (fun x m=>Xc x+8*m≤8*l.length) (Jj e f l)
 sig:∀ (l:List Tok),OkL l→8*l.length+1≤f→Fit (fun xs m=>Zk xs+1+8*m≤8*l.length) (Qe4 e f l)
 block:∀ (l:List Tok),OkL l→8*l.length+1≤f→Fit (fun x m=>Xc x+8*m≤8*l.length) (Ut e f l)
 blockL:∀ (acc:List Tr) (l:List Tok),OkL l→8*l.length+6≤f→Fit (fun xs m=>Zk xs+1+8*m≤Zk acc+8*l.length) (V7 e f acc l)
 branch:∀ (p:Nat) (l:List Tok),OkL l→8*l.length+4≤f→Fit (fun x m=>Xc x+8*m≤8*l.length) (Yl e f p l)
 stmt:∀ (hd:Bool) (l:List Tok),OkL l→8*l.length+5≤f→Fit (fun x m=>Xc x+8*m≤8*l.length) (He e f hd l)
 simple:∀ (hd:Bool) (l:List Tok),OkL l→8*l.length+4≤f→Fit (fun x m=>Xc x+8*m≤8*l.length) (Yw e f hd l)
 body:∀ (hd:Bool) (l:List Tok),OkL l→8*l.length+1≤f→Fit (fun x m=>Xc x+8*m≤8*l.length) (Gg e f hd l)
 bodyL:∀ (hd:Bool) (acc:List Tr) (l:List Tok),OkL l→8*l.length+6≤f→Fit (fun xs m=>Zk xs+8*m≤Zk acc+8*l.length) (Tt e f hd acc l)
 oneC:∀ (hd:Bool) (d:Nat) (l:List Tok),OkL l→8*l.length+1≤f→Fit (fun x m=>Xc x.1+8*m≤8*l.length) (Uj e f hd d l)
 selection:∀ (p:Nat) (l:List Tok),OkL l→8*l.length+1≤f→Fit (fun x m=>Xc x+8*m≤8*l.length) (Vg e f p l)
 selL:∀ (acc:List Tr) (d:Nat) (l:List Tok),OkL l→8*l.length+2≤f→Fit (fun xs m=>Zk xs+1+8*m≤Zk acc+8*l.length) (Jg e f acc d l)
 expr:∀ (n:Nat) (hd:Bool) (l:List Tok),OkL l→8*l.length+3≤f→Fit (fun x m=>V39 x∧Xc x+1+8*m≤8*l.length) (Xg e f n hd l)
 exprL:∀ (n:Nat) (hd:Bool) (x:Tr) (l:List Tok),OkL l→V39 x→8*l.length+1≤f→Fit (fun y m=>V39 y∧Xc y+1+8*m≤Xc x+1+8*l.length) (Xv e f n hd x l)
 unary:∀ (hd:Bool) (l:List Tok),OkL l→8*l.length+2≤f→Fit (fun x m=>V39 x∧Xc x+1+8*m≤8*l.length) (Zy e f hd l)
 suf:∀ (hd:Bool) (x:Tr) (l:List Tok),OkL l→V39 x→8*l.length+1≤f→Fit (fun y m=>V39 y∧Xc y+1+8*m≤Xc x+1+8*l.length) (V8 e f hd x l)
 arg:∀ (l:List Tok),OkL l→8*l.length+4≤f→Fit (fun x m=>Xc x+8*m≤8*l.length) (Qj7 e f l)
 operand:∀ (hd:Bool) (l:List Tok),OkL l→8*l.length+1≤f→Fit (fun x m=>V39 x∧Xc x+1+8*m≤8*l.length) (Vm e f hd l)
set_option maxHeartbeats 40000000 in
theorem fits:∀ f,Fits e f
 |0=>by constructor <;> intros <;> omega
 |f+1=>by
  have I:=fits f;constructor
  ·intro l h hf;unfold Nk;repeat' first
    |exact Fit.bad
    |(refine Fit.is (fun hl=>?_) ?_)
    |(refine Fit.or (fun hl=>?_) ?_)
    |(refine Fit.and (fun hl=>?_) ?_)
    |(refine Fit.kd Dd (fun hl=>?_) ?_)
    |(refine Fit.bind (Jb e _ okl) (fun _ m hm hG=>?_))
    |(refine Fit.bind (Hu e okl) (fun _ m hm hG=>?_))
    |(refine Fit.bind (Bq e _ _ (fun k h1 h2=>(I.typ k h1 Dw)) okl (Nat.le_refl _) Dw) (fun x m hm hG=>?_))
    |(refine Fit.bind (I.typ  _ okl Dw) (fun x m hm hG=>?_);have hp:=Zn x)
    |(refine Fit.ok okl szv)
    |(refine Fit.ok okl ⟨by first|assumption|simp[V39,Tr.kind,Tr.kids],szv⟩)
    |(refine Fit.ite ?_ ?_)
  ·intro l h hf;unfold Jj;repeat' first
    |exact Fit.bad
    |(refine Fit.is (fun hl=>?_) ?_)
    |(refine Fit.or (fun hl=>?_) ?_)
    |(refine Fit.and (fun hl=>?_) ?_)
    |(refine Fit.kd Dd (fun hl=>?_) ?_)
    |(refine Fit.bind (Hu e okl) (fun _ m hm hG=>?_))
    |(refine Fit.bind (I.typ  _ okl Dw) (fun x m hm hG=>?_);have hp:=Zn x)
    |(refine Fit.ok okl szv)
    |(refine Fit.ok okl ⟨by first|assumption|simp[V39,Tr.kind,Tr.kids],szv⟩)
    |(refine Fit.ite ?_ ?_)
  ·intro l h hf;unfold Qe4;repeat' first
    |exact Fit.bad
    |(refine Fit.is (fun hl=>?_) ?_)
    |(refine Fit.or (fun hl=>?_) ?_)
    |(refine Fit.and (fun hl=>?_) ?_)
    |(refine Fit.kd Dd (fun hl=>?_) ?_)
    |(refine Fit.bind (Jb e _ okl) (fun _ m hm hG=>?_))
    |(refine Fit.bind (Bq e _ _ (fun k h1 h2=>(I.param k h1 Dw)) okl (Nat.le_refl _) Dw) (fun x m hm hG=>?_))
    |(refine Fit.bind (I.typ  _ okl Dw) (fun x m hm hG=>?_);have hp:=Zn x)
    |(refine Fit.ok okl szv)
    |(refine Fit.ok okl ⟨by first|assumption|simp[V39,Tr.kind,Tr.kids],szv⟩)
    |(refine Fit.ite ?_ ?_)
  ·intro l h hf;unfold Ut;repeat' first
    |exact Fit.bad
    |(refine Fit.is (fun hl=>?_) ?_)
    |(refine Fit.or (fun hl=>?_) ?_)
    |(refine Fit.and (fun hl=>?_) ?_)
    |(refine Fit.kd Dd (fun hl=>?_) ?_)
    |(refine Fit.bind (Jb e _ okl) (fun _ m hm hG=>?_))
    |(refine Fit.bind (I.blockL _ _ okl Dw) (fun x m hm hG=>?_))
    |(refine Fit.ok okl szv)
    |(refine Fit.ok okl ⟨by first|assumption|simp[V39,Tr.kind,Tr.kids],szv⟩)
    |(refine Fit.ite ?_ ?_)
  ·intro acc l h hf;unfold V7;repeat' first
    |exact Fit.bad
    |(refine Fit.is (fun hl=>?_) ?_)
    |(refine Fit.or (fun hl=>?_) ?_)
    |(refine Fit.and (fun hl=>?_) ?_)
    |(refine Fit.kd Dd (fun hl=>?_) ?_)
    |(refine(I.blockL _ _ okl Dw).mono (fun xs q hq=>?_);rw[Y4] at hq;omega)
    |(refine Fit.bind (Qgx e _ okl) (fun _ m hm hG=>?_))
    |(refine Fit.bind (I.stmt _ _ okl Dw) (fun x m hm hG=>?_);have hp:=Zn x)
    |(refine Fit.ok okl szv)
    |(refine Fit.ok okl ⟨by first|assumption|simp[V39,Tr.kind,Tr.kids],szv⟩)
    |(refine Fit.ite ?_ ?_)
  ·intro p l h hf;unfold Yl;repeat' first
    |exact Fit.bad
    |(refine Fit.is (fun hl=>?_) ?_)
    |(refine Fit.or (fun hl=>?_) ?_)
    |(refine Fit.and (fun hl=>?_) ?_)
    |(refine Fit.kd Dd (fun hl=>?_) ?_)
    |(refine Fit.bind (I.expr _ _ _ okl Dw) (fun x m hm hG=>?_);have hv:=hG.1;have hG:=hG.2;have hp:=Zn x)
    |(refine Fit.bind (I.block  _ okl Dw) (fun x m hm hG=>?_);have hp:=Zn x)
    |(refine Fit.bind (I.branch _ _ okl Dw) (fun x m hm hG=>?_);have hp:=Zn x)
    |(refine Fit.ok okl szv)
    |(refine Fit.ok okl ⟨by first|assumption|simp[V39,Tr.kind,Tr.kids],szv⟩)
    |(refine Fit.ite ?_ ?_)
  ·intro hd l h hf;unfold He;repeat' first
    |exact Fit.bad
    |(refine Fit.is (fun hl=>?_) ?_)
    |(refine Fit.or (fun hl=>?_) ?_)
    |(refine Fit.and (fun hl=>?_) ?_)
    |(refine Fit.kd Dd (fun hl=>?_) ?_)
    |(exact I.block _ okl Dw)|(exact I.simple _ _ okl Dw)|(refine(I.branch _ _ okl Dw).mono (fun x q hq=>?_);omega)|(refine(I.selection _ _ okl Dw).mono (fun x q hq=>?_);omega)
    |(refine Fit.bind (Hu e okl) (fun _ m hm hG=>?_))
    |(refine Fit.bind (I.typ  _ okl Dw) (fun x m hm hG=>?_);have hp:=Zn x)
    |(refine Fit.bind (I.expr _ _ _ okl Dw) (fun x m hm hG=>?_);have hv:=hG.1;have hG:=hG.2;have hp:=Zn x)
    |(refine Fit.bind (I.block  _ okl Dw) (fun x m hm hG=>?_);have hp:=Zn x)
    |(refine Fit.ok okl szv)
    |(refine Fit.ok okl ⟨by first|assumption|simp[V39,Tr.kind,Tr.kids],szv⟩)
    |(refine Fit.ite ?_ ?_)
  ·intro hd l h hf;unfold Yw;repeat' first
    |exact Fit.bad
    |(refine Fit.is (fun hl=>?_) ?_)
    |(refine Fit.or (fun hl=>?_) ?_)
    |(refine Fit.and (fun hl=>?_) ?_)
    |(refine Fit.kd Dd (fun hl=>?_) ?_)
    |(refine Fit.bind (Hu e okl) (fun _ m hm hG=>?_))
    |(refine Fit.bind (Jb e _ okl) (fun _ m hm hG=>?_))
    |(refine Fit.bind (I.expr _ _ _ okl Dw) (fun x m hm hG=>?_);have hv:=hG.1;have hG:=hG.2;have hp:=Zn x)
    |(refine Fit.ok okl szv)
    |(refine Fit.ok okl ⟨by first|assumption|simp[V39,Tr.kind,Tr.kids],szv⟩)
    |(refine Fit.ite ?_ ?_)
  ·intro hd l h hf;unfold Gg;repeat' first
    |exact Fit.bad
    |(refine Fit.is (fun hl=>?_) ?_)
    |(refine Fit.or (fun hl=>?_) ?_)
    |(refine Fit.and (fun hl=>?_) ?_)
    |(refine Fit.kd Dd (fun hl=>?_) ?_)
    |(refine Fit.bind (Jb e _ okl) (fun _ m hm hG=>?_))
    |(refine Fit.bind (I.bodyL _ _ _ okl Dw) (fun x m hm hG=>?_))
    |(refine Fit.ok okl szv)
    |(refine Fit.ok okl ⟨by first|assumption|simp[V39,Tr.kind,Tr.kids],szv⟩)
    |(refine Fit.ite ?_ ?_)
  ·intro hd acc l h hf;unfold Tt;repeat' first
    |exact Fit.bad
    |(refine Fit.is (fun hl=>?_) ?_)
    |(refine Fit.or (fun hl=>?_) ?_)
    |(refine Fit.and (fun hl=>?_) ?_)
    |(refine Fit.kd Dd (fun hl=>?_) ?_)
    |(refine(I.bodyL _ _ _ okl Dw).mono (fun xs q hq=>?_);rw[Y4] at hq;omega)
    |(refine Fit.bind (I.stmt _ _ okl Dw) (fun x m hm hG=>?_);have hp:=Zn x)
    |(refine Fit.ok okl szv)
    |(refine Fit.ok okl ⟨by first|assumption|simp[V39,Tr.kind,Tr.kids],szv⟩)
    |(refine Fit.ite ?_ ?_)
  ·intro hd d l h hf;unfold Uj;repeat' first
    |exact Fit.bad
    |(refine Fit.is (fun hl=>?_) ?_)
    |(refine Fit.or (fun hl=>?_) ?_)
    |(refine Fit.and (fun hl=>?_) ?_)
    |(refine Fit.kd Dd (fun hl=>?_) ?_)
    |(refine Fit.kids Da (fun t ht=>?_) ?_)
    |(refine Fit.bind (Jb e _ okl) (fun _ m hm hG=>?_))
    |(refine Fit.bind (Hu e okl) (fun _ m hm hG=>?_))
    |(refine Fit.bind (I.unary _ _ okl Dw) (fun x m hm hG=>?_);have hv:=hG.1;have hG:=hG.2;have hp:=Zn x)
    |(refine Fit.bind (I.expr _ _ _ okl Dw) (fun x m hm hG=>?_);have hv:=hG.1;have hG:=hG.2;have hp:=Zn x)
    |(refine Fit.bind (I.body _ _ okl Dw) (fun x m hm hG=>?_);have hp:=Zn x)
    |(refine Fit.ok okl szv)
    |(refine Fit.ok okl ⟨by first|assumption|simp[V39,Tr.kind,Tr.kids],szv⟩)
    |(refine Fit.ite ?_ ?_)
  ·intro p l h hf;unfold Vg;repeat' first
    |exact Fit.bad
    |(refine Fit.is (fun hl=>?_) ?_)
    |(refine Fit.or (fun hl=>?_) ?_)
    |(refine Fit.and (fun hl=>?_) ?_)
    |(refine Fit.kd Dd (fun hl=>?_) ?_)
    |(refine Fit.bind (Jb e _ okl) (fun _ m hm hG=>?_))
    |(refine Fit.bind (I.selL _ _ _ okl Dw) (fun x m hm hG=>?_))
    |(refine Fit.ok okl szv)
    |(refine Fit.ok okl ⟨by first|assumption|simp[V39,Tr.kind,Tr.kids],szv⟩)
    |(refine Fit.ite ?_ ?_)
  ·intro acc d l h hf;unfold Jg;repeat' first
    |exact Fit.bad
    |(refine Fit.is (fun hl=>?_) ?_)
    |(refine Fit.or (fun hl=>?_) ?_)
    |(refine Fit.and (fun hl=>?_) ?_)
    |(refine Fit.kd Dd (fun hl=>?_) ?_)
    |(refine(I.selL _ _ _ okl Dw).mono (fun xs q hq=>?_);rw[Y4] at hq;omega)
    |(refine Fit.bind (I.oneC _ _ _ okl Dw) (fun x m hm hG=>?_);have hp:=Zn x.1)
    |(refine Fit.ok okl szv)
    |(refine Fit.ok okl ⟨by first|assumption|simp[V39,Tr.kind,Tr.kids],szv⟩)
    |(refine Fit.ite ?_ ?_)
  ·intro n hd l h hf;unfold Xg;repeat' first
    |exact Fit.bad
    |(refine Fit.is (fun hl=>?_) ?_)
    |(refine Fit.or (fun hl=>?_) ?_)
    |(refine Fit.and (fun hl=>?_) ?_)
    |(refine Fit.kd Dd (fun hl=>?_) ?_)
    |(refine(I.exprL _ _ _ _ okl Da Dw).mono (fun y q hq=>⟨hq.1,?_⟩);have:=hq.2;omega)
    |(refine Fit.bind (I.unary _ _ okl Dw) (fun x m hm hG=>?_);have hv:=hG.1;have hG:=hG.2;have hp:=Zn x)
    |(refine Fit.ok okl szv)
    |(refine Fit.ok okl ⟨by first|assumption|simp[V39,Tr.kind,Tr.kids],szv⟩)
    |(refine Fit.ite ?_ ?_)
  ·intro n hd x l h hx hf;unfold Xv;by_cases hk:Q9 l=4
   ·rw[show (if (Q9 l==4)=true then Vs (Zl l) else 0)=Vs (Zl l) by simp[hk]];have hl:=Qc0 (l:=l) (by rw[hk];decide);split
    ·exact Fit.ok h ⟨hx,Nat.le_refl _⟩
    ·refine Fit.bind (I.expr _ _ _ h.tail Dw) (fun y m hm hG=>?_);have hv:=hG.1;have hG:=hG.2;refine(I.exprL _ _ _ _ hm (by simp[V39,Tr.kind]) (by have:=Zn y;omega)).mono (fun z q hq=>⟨hq.1,?_⟩)
     have:=hq.2;simp only[Xc,Zk] at this;omega
   ·rw[show (if (Q9 l==4)=true then Vs (Zl l) else 0)=0 by simp[hk]];exact Fit.ok h ⟨hx,Nat.le_refl _⟩
  ·intro hd l h hf;unfold Zy;repeat' first
    |exact Fit.bad
    |(refine Fit.is (fun hl=>?_) ?_)
    |(refine Fit.or (fun hl=>?_) ?_)
    |(refine Fit.and (fun hl=>?_) ?_)
    |(refine Fit.kd Dd (fun hl=>?_) ?_)
    |(refine(I.suf _ _ _ okl Da Dw).mono (fun y q hq=>⟨hq.1,?_⟩);have:=hq.2;omega)
    |(refine Fit.bind (I.unary _ _ okl Dw) (fun x m hm hG=>?_);have hv:=hG.1;have hG:=hG.2;have hp:=Zn x)
    |(refine Fit.bind (I.operand _ _ okl Dw) (fun x m hm hG=>?_);have hv:=hG.1;have hG:=hG.2;have hp:=Zn x)
    |(refine Fit.ok okl szv)
    |(refine Fit.ok okl ⟨by first|assumption|simp[V39,Tr.kind,Tr.kids],szv⟩)
    |(refine Fit.ite ?_ ?_)
  ·intro hd x l h hx hf;unfold V8;repeat' first
    |exact Fit.bad
    |(refine Fit.is (fun hl=>?_) ?_)
    |(refine Fit.or (fun hl=>?_) ?_)
    |(refine Fit.and (fun hl=>?_) ?_)
    |(refine Fit.kd Dd (fun hl=>?_) ?_)
    |(refine(I.suf _ _ _ okl (by simp[V39,Tr.kind]) Dw).mono (fun y q hq=>⟨hq.1,?_⟩);have:=hq.2;simp only[Xc,Zk] at this;omega)
    |(refine Fit.bind (Hu e okl) (fun _ m hm hG=>?_))
    |(refine Fit.bind (Bq e _ _ (fun k h1 h2=>((I.expr 1 false k h1 Dw).mono fun x m hx=>by have:=hx.2;omega)) okl (Nat.le_refl _) Dw) (fun x m hm hG=>?_))
    |(refine Fit.bind (Bq e _ _ (fun k h1 h2=>(I.arg k h1 Dw)) okl (Nat.le_refl _) Dw) (fun x m hm hG=>?_))
    |(refine Fit.ok okl szv)
    |(refine Fit.ok okl ⟨by first|assumption|simp[V39,Tr.kind,Tr.kids],szv⟩)
    |(refine Fit.ite ?_ ?_)
  ·intro l h hf;unfold Qj7;repeat' first
    |exact Fit.bad
    |(refine Fit.is (fun hl=>?_) ?_)
    |(refine Fit.or (fun hl=>?_) ?_)
    |(refine Fit.and (fun hl=>?_) ?_)
    |(refine Fit.kd Dd (fun hl=>?_) ?_)
    |(exact I.typ _ okl Dw)|(refine(I.expr _ _ _ okl Dw).mono (fun y q hq=>?_);have:=hq.2;omega)
    |(refine Fit.ok okl szv)
    |(refine Fit.ok okl ⟨by first|assumption|simp[V39,Tr.kind,Tr.kids],szv⟩)
    |(refine Fit.ite ?_ ?_)
  ·intro hd l h hf;unfold Vm;simp only[num_ok h,if_true];repeat' first
    |exact Fit.bad
    |(refine Fit.is (fun hl=>?_) ?_)
    |(refine Fit.or (fun hl=>?_) ?_)
    |(refine Fit.and (fun hl=>?_) ?_)
    |(refine Fit.kd Dd (fun hl=>?_) ?_)
    |(refine Fit.bind (Qmj e _ okl) (fun _ m hm hG=>?_))
    |(refine Fit.bind (Jb e _ okl) (fun _ m hm hG=>?_))
    |(refine Fit.bind (Hu e okl) (fun _ m hm hG=>?_))
    |(refine Fit.bind (I.expr _ _ _ okl Dw) (fun x m hm hG=>?_);have hv:=hG.1;have hG:=hG.2;have hp:=Zn x)
    |(refine Fit.bind (I.sig  _ okl Dw) (fun x m hm hG=>?_))
    |(refine Fit.bind (I.block  _ okl Dw) (fun x m hm hG=>?_);have hp:=Zn x)
    |(refine Fit.bind (I.typ  _ okl Dw) (fun x m hm hG=>?_);have hp:=Zn x)
    |(refine Fit.bind (Bq e _ _ (fun k h1 h2=>((I.expr 1 false k h1 Dw).mono fun x m hx=>by have:=hx.2;omega)) okl (Nat.le_refl _) Dw) (fun x m hm hG=>?_))
    |(refine Fit.ok okl szv)
    |(refine Fit.ok okl ⟨by first|assumption|simp[V39,Tr.kind,Tr.kids],szv⟩)
    |(refine Fit.ite ?_ ?_)
end
end Prs
end
section
def bl (s:ByteArray):List UInt8:=s.data.toList
theorem Xo (s:ByteArray):(bl s).length=s.size:=by
 show s.data.toList.length=s.data.size
 simp
theorem Ql3 (l:List UInt8):bl ⟨l.toArray⟩=l:=by simp[bl]
theorem Qsf (s:ByteArray):(⟨(bl s).toArray⟩:ByteArray)=s:=by simp[bl]
theorem bl_inj {s t:ByteArray}(h:bl s=bl t):s=t:=by rw[←Qsf s,←Qsf t,h]
theorem G7 (s:ByteArray)(a b:Nat):bl (s.extract a b)=((bl s).drop a).take (b-a):=by
 unfold bl;simp[ByteArray.data_extract,List.extract_eq_take_drop]
theorem Lt (s:ByteArray)(a:Nat):bl (s.extract a s.size)=(bl s).drop a:=by
 rw[G7,List.take_of_length_le];rw[List.length_drop,Xo];exact Nat.le_refl _
theorem Qey (s:ByteArray)(b:Nat):bl (s.extract 0 b)=(bl s).take b:=by
 rw[G7];simp
theorem Qnh (s:ByteArray)(i:Nat)(h:i<s.size):Utf8.decode s i=Vb ((bl s).drop i):=by
 have e:=dec_drop (bl s) i (by rw[Xo];exact h);rw[Qsf] at e;exact e
theorem Ur (s:ByteArray):s.toList=bl s:=ByteArray.toList_eq s
theorem Ua (s:ByteArray):bl s=[]↔s.size=0:=by rw[←Xo];exact List.length_eq_zero_iff.symm
theorem Dj (hex:Bool)(n:Nat)(c:UInt8)(l:List UInt8)(h:Zx hex c=none):Xt hex n (c::l)=none:=by
 show (match Zx hex c with|some d=>Xt hex (n*Qfg hex+d) l|none=>none)=_
 rw[h]
theorem Di (hex:Bool)(n d:Nat)(c:UInt8)(l:List UInt8)(h:Zx hex c=some d):Xt hex n (c::l)=Xt hex (n*Qfg hex+d) l:=by
 show (match Zx hex c with|some d=>Xt hex (n*Qfg hex+d) l|none=>none)=_
 rw[h]
theorem G9 (hex:Bool):∀ (a:List UInt8) (n:Nat) (b:List UInt8),Xt hex n (a++b)=(Xt hex n a).bind fun v=>Xt hex v b
 | [],n,b=>rfl
 |c::a,n,b=>by
  cases hd:Zx hex c with
  |none=>rw[List.cons_append,Dj hex n c _ hd,Dj hex n c _ hd];rfl
  |some d=>rw[List.cons_append,Di hex n d c _ hd,Di hex n d c _ hd];exact G9 hex a _ b
theorem Qbb (hex:Bool):∀ (l:List UInt8) (n v:Nat),Xt hex n l=some v→n≤v
 | [],n,v,h=>by cases h;exact Nat.le_refl _
 |c::l,n,v,h=>by
  cases hd:Zx hex c with
  |none=>rw[Dj hex n c l hd] at h;cases h
  |some d=>
   rw[Di hex n d c l hd] at h
   have:=Qbb hex l _ _ h;have hb:1≤Qfg hex:=by unfold Qfg;split <;> decide
   have:n≤n*Qfg hex:=Nat.le_mul_of_pos_right n hb;omega
theorem Lm (hex:Bool)(c:UInt8)(d:Nat)(h:Zx hex c=some d):d<Qfg hex:=by
 have hc:=c.toNat_lt;unfold Zx at h;cases hex <;> simp[Qfg] at h ⊢
 ·omega
 ·split at h
  ·simp at h;omega
  ·split at h
   ·simp at h;omega
   ·split at h
    ·simp at h;omega
    ·cases h
theorem Hq (hex:Bool)(l:List UInt8)(j:Nat)(v d:Nat)(c:UInt8)(hj:l[j]? = some c)(hv:Xt hex 0 (l.take j)=some v)(hd:Zx hex c=some d):
  Xt hex 0 (l.take (j+1))=some (v*Qfg hex+d):=by
 obtain⟨h1,h2⟩:=List.getElem?_eq_some_iff.1 hj;rw[List.take_succ_eq_append_getElem h1,h2,G9,hv];show Xt hex v [c]=_
 rw[Di hex v d c [] hd];rfl
theorem Np (hex:Bool)(l:List UInt8)(j:Nat)(v:Nat)(c:UInt8)(hj:l[j]? = some c)(hv:Xt hex 0 (l.take j)=some v)(hd:Zx hex c=none):
  Xt hex 0 l=none:=by
 obtain⟨h1,h2⟩:=List.getElem?_eq_some_iff.1 hj;have e:l=l.take j++c::l.drop (j+1):=by rw[←h2,←List.drop_eq_getElem_cons h1,List.take_append_drop]
 rw[e,G9,hv];exact Dj hex v c _ hd
theorem Qi3 (l:List UInt8)(h:Gf l=false)(hz:Kv l=true):F7 l=(0,4):=by simp[F7,h,hz]
theorem Wv (l:List UInt8)(h:digitsOf l=[]):F7 l=(0,4):=by
 unfold F7;simp[h]
theorem Bj (l:List UInt8)(h:Xt (Gf l) 0 (digitsOf l)=none):F7 l=(0,4):=by
 unfold F7;split
 ·rfl
 ·split
  ·rfl
  ·rw[h]
theorem Qbh (l:List UInt8)(v:Nat)(h:Xt (Gf l) 0 (digitsOf l)=some v)(hz:Gf l=true∨Kv l=false)(he:digitsOf l≠[]):F7 l=if v<18446744073709551616 then (v,0) else (0,6):=by
 unfold F7;rw[if_neg (by rcases hz with hz|hz <;> simp[hz]),if_neg he,h]
theorem Fb (l:List UInt8):Gf l=(decide (2≤l.length)&&l[0]? == some 48&&l[1]? == some 120):=by
 match l with
 | []=>rfl
 | [a]=>simp[Gf]
 |a::b::m=>
  by_cases ha:a=48
  ·by_cases hb:b=120
   ·subst ha hb;simp[Gf]
   ·subst ha;simp[Gf,hb]
  ·simp[Gf,ha]
theorem Ji (l:List UInt8):Kv l=(decide (2≤l.length)&&l[0]? == some 48):=by
 match l with
 | []=>rfl
 | [a]=>simp[Kv]
 |a::b::m=>
  by_cases ha:a=48
  ·subst ha;simp[Kv]
  ·simp[Kv,ha]
def Hm (l:List UInt8):Nat:=(l.takeWhile V9).length
theorem Qf1:∀ (l:List UInt8) (p:Nat) (opn:Bool) (cnt:Nat),lex l p opn cnt=lex (l.drop (Hm l)) (p+Hm l) opn cnt
 | [],p,opn,cnt=>rfl
 |b::m,p,opn,cnt=>by
  by_cases h:V9 b=true
  ·have e:Hm (b::m)=Hm m+1:=by simp[Hm,List.takeWhile_cons,h]
   rw[U9 b m p opn cnt h,Qf1 m (p+1) opn cnt,e,show p+(Hm m+1)=p+1+Hm m by omega];rfl
  ·have e:Hm (b::m)=0:=by simp[Hm,List.takeWhile_cons,h]
   rw[e];rfl
theorem Qtk (l:List UInt8):Hm l≤l.length:=by
 unfold Hm;exact(List.takeWhile_sublist _).length_le
theorem Qlk (l:List UInt8):X5 l≤l.length:=by
 unfold X5;exact(List.takeWhile_sublist _).length_le
theorem Wn {α:Type}(q:α→Bool):∀ l:List α,l.drop (l.takeWhile q).length=l.dropWhile q
 | []=>rfl
 |b::m=>by
  by_cases h:q b=true
  ·simp[List.takeWhile_cons,List.dropWhile_cons,h,Wn q m]
  ·simp[List.takeWhile_cons,List.dropWhile_cons,h]
theorem Qlv (l:List UInt8):l.drop (Hm l)=l.dropWhile V9:=Wn _ l
theorem Qtb (l:List UInt8):l.drop (X5 l)=l.dropWhile (· != 10):=Wn _ l
theorem Qhl {α:Type}(q:α→Bool):∀ (l:List α) (b:α) (m:List α),l.dropWhile q=b::m→q b=false
 | [],b,m,h=>by simp at h
 |c::l,b,m,h=>by
  by_cases hc:q c=true
  ·rw[List.dropWhile_cons,if_pos hc] at h;exact Qhl q l b m h
  ·rw[List.dropWhile_cons,if_neg hc] at h;cases h;simpa using hc
def Eu (ts:List Tok):Qkc→Qkc
 | .ok l => .ok (ts++l)
 | .error e => .error e
def Ru (line:Nat)(ts:List Tok):Bool:=decide (line<ts.length)&&(match ts.getLast? with|some t=>Xl t|none=>false)
theorem Hw (ts:List Tok)(t:Tok)(r:Qkc):Eu ts (Ee t r)=Eu (ts++[t]) r:=by
 cases r <;> simp[Eu,Ee]
theorem Qac (r:Qkc):Eu [] r=r:=by cases r <;> rfl
theorem Bi (ts:List Tok):Ru ts.length ts=false:=by simp[Ru]
theorem opn_last (ts:List Tok)(t:Tok)(line:Nat)(h:line≤ts.length):Ru line (ts++[t])=Xl t:=by
 have:decide (line<(ts++[t]).length)=true:=by simp;omega
 unfold Ru;rw[this];simp
def Qg7 (t:Tok):Prop:=(t.kind=1∨t.kind=2∨t.kind=3∨t.kind=4)∨(t.kind=5∧Yq.contains t.text=false)
theorem Qmx (l:List UInt8)(p:Nat)(h:(Ui l p).2.2=0):Qg7 (Ui l p).1:=by
 unfold Ui at h ⊢;split
 ·split
  ·exact .inl (.inl rfl)
  ·simp only[];left;split
   ·exact .inr (.inr (.inl rfl))
   ·exact .inl rfl
 ·split
  ·exact .inl (.inr (.inl rfl))
  ·rename_i h1 h2;simp only[h1,h2,if_false] at h;split
   ·rename_i g hg;by_cases hg5:g=[59]
    ·right;subst hg5;exact⟨rfl,show Yq.contains [59]=false by decide⟩
    ·left;rw[if_neg hg5];exact .inr (.inr (.inr rfl))
   ·rename_i hg;rw[hg] at h;simp at h
theorem Qag (l:List UInt8)(p:Nat):(Ui l p).2.1≤l.length:=by
 unfold Ui;split
 ·split <;> exact Qbe l
 ·split
  ·exact Qbe l
  ·split
   ·rename_i g hg
    have:=List.find?_some hg;rw[List.isPrefixOf_iff_prefix] at this;exact this.length_le
   ·exact Nat.zero_le _
theorem Qo8 (l:List UInt8):(if Lib.indexByte l 10<0 then (l.length:Int) else Lib.indexByte l 10)=(X5 l:Int):=by
 induction l with
 |nil=>rfl
 |cons b l ih=>
  unfold Lib.indexByte X5;have hge:=Lib.indexByte_ge l 10;by_cases h:b=10
  ·subst h;simp
  ·have hb:(b==10)=false:=by simpa using h
   have hl:((b::l).takeWhile (· != 10)).length=(l.takeWhile (· != 10)).length+1:=by simp[List.takeWhile_cons,h]
   rw[hl,hb];have e:(l.takeWhile (· != 10)).length=X5 l:=rfl;rw[e];simp only[Bool.false_eq_true,if_false,List.length_cons];by_cases hn:Lib.indexByte l 10 = -1
   ·rw[hn] at ih ⊢;simp at ih ⊢;omega
   ·have hn':(Lib.indexByte l 10 == -1)=false:=by simpa using hn
    rw[hn'];simp only[Bool.false_eq_true,if_false];rw[if_neg Dw] at ih;rw[if_neg Dw];omega
theorem Qnj {t:Tok}{r:Qkc}{ts:List Tok}(h:Ee t r=.ok ts):∃ us,r=.ok us∧ts=t::us:=by
 cases r with
 |error e=>cases h
 |ok l=>cases h;exact⟨l,rfl,rfl⟩
theorem Qeb (P:List UInt8→Nat→Bool→Nat→List Tok→Prop)
  (nil0:∀ p cnt,P [] p false cnt [])
  (nil1:∀ p cnt,cnt<16384→P [] p true cnt [Zj p])
  (nl0:∀ m p cnt ts,P m (p+1) false cnt ts→P (10::m) p false cnt ts)
  (nl1:∀ m p cnt ts,cnt<16384→P m (p+1) false (cnt+1) ts→P (10::m) p true cnt (Zj p::ts))
  (blank:∀ b m p opn cnt ts,V9 b=true→P m (p+1) opn cnt ts→P (b::m) p opn cnt ts)
  (remark:∀ l p opn cnt ts,Z7 l=true→P (l.drop (X5 l)) (p+X5 l) opn cnt ts→P l p opn cnt ts)
  (tok:∀ l p opn cnt ts,starts l=true→(Ui l p).2.2=0→cnt<16384→P (l.drop (Ui l p).2.1) (p+(Ui l p).2.1) (Xl (Ui l p).1) (cnt+1) ts→P l p opn cnt ((Ui l p).1::ts)):
  ∀ (n:Nat) (l:List UInt8) (p:Nat) (opn:Bool) (cnt:Nat) (ts:List Tok),l.length≤n→lex l p opn cnt=.ok ts→P l p opn cnt ts:=by
 intro n;induction n with
 |zero=>
  intro l p opn cnt ts hl h;have:l=[]:=List.length_eq_zero_iff.1 Dw;subst this;rw[Jh] at h;cases opn
  ·cases h;exact nil0 p cnt
  ·simp only[if_true] at h;split at h
   ·cases h
   ·cases h;exact nil1 p cnt Dw
 |succ n ih=>
  intro l p opn cnt ts hl h;cases l with
  |nil=>
   rw[Jh] at h;cases opn
   ·cases h;exact nil0 p cnt
   ·simp only[if_true] at h;split at h
    ·cases h
    ·cases h;exact nil1 p cnt Dw
  |cons b m=>
   have hm:m.length≤n:=by simpa using hl
   by_cases hb:b=10
   ·subst hb;rw[Tn] at h;cases opn
    ·exact nl0 m p cnt ts (ih m _ _ _ _ hm h)
    ·simp only[if_true] at h;split at h
     ·cases h
     ·obtain⟨us,hu,rfl⟩:=Qnj h;exact nl1 m p cnt us Dw (ih m _ _ _ _ hm hu)
   ·cases hk:V9 b
    ·cases hr:Z7 (b::m)
     ·have hst:starts (b::m)=true:=by simp[starts,hb,hk,hr]
      rw[Kt _ _ _ _ hst] at h;split at h
      ·cases h
      ·rename_i he;split at h
       ·cases h
       ·obtain⟨us,hu,rfl⟩:=Qnj h;have he':(Ui (b::m) p).2.2=0:=by simpa using he
        have hp:=one_pos (b::m) p Ds he';exact tok (b::m) p opn cnt us hst he' Dw (ih _ _ _ _ _ (by rw[List.length_drop];simp at hl ⊢;omega) hu)
     ·rw[Y7 _ _ _ _ hr] at h;have hp:=Rl b m hb;exact remark (b::m) p opn cnt ts hr (ih _ _ _ _ _ (by rw[List.length_drop];simp at hl ⊢;omega) h)
    ·rw[U9 b m p opn cnt hk] at h;exact blank b m p opn cnt ts hk (ih m _ _ _ _ hm h)
theorem Qig {l:List UInt8}(h:starts l=true):l≠[]:=by rintro rfl;cases h
end
section
namespace Prs
section
variable (e:Nat)
theorem Qn4 {l:List Tok}(h:OkL l):Fit (fun x m=>Xc x+8*m≤8*l.length) (Fq e l):=by
 unfold Fq;refine Fit.bind (Hu e h) fun s m hm hG=>?_
 refine Fit.ite Fit.bad ?_;by_cases hz:Q9 m=0
 ·have:Zv m=0:=by simp[Zv,hz]
  exact Fit.ok hm.tail (by simp only[Xc,Zk,List.length_tail];omega)
 ·have:=Qc0 hz;exact Fit.ok hm.tail (by simp only[Xc,Zk];omega)
theorem Qjp {f:Nat}(p:Nat){l:List Tok}(h:OkL l)(hf:8*l.length+1≤f):Fit (fun x m=>Xc x+8*m≤8*l.length) (Yd e f p l):=by
 have I:=fits e f;unfold Yd;refine Fit.bind (Hu e h) fun s k hk hG=>?_
 refine Fit.bind (G:=fun xs m=>Zk xs+8*m≤8*k.length) (Fit.is (fun hl=>?_) ?_) fun tp m hm hG2=>?_
 ·exact(Bq e _ _ (fun k h1 h2=>Qn4 e h1) hk.tail (Nat.le_refl _) Dw).mono fun xs m hx=>by omega
 ·exact Fit.ok hk (by simp only[Zk];omega)
 refine Fit.bind (I.sig _ hm Dw) fun sg q hq hG3=>?_
 refine Fit.bind (I.block _ hq Dw) fun b r hr hG4=>?_
 exact Fit.ok hr (by simp only[Xc,Zk,Aw];omega)
theorem Qn8:∀ (f:Nat) (acc:List Tr) (l:List Tok),OkL l→8*l.length+2≤f→Fit (fun xs m=>Zk xs+8*m≤Zk acc+8*l.length) (Vx e f acc l):=by
 intro f;induction f with
 |zero=>intros;omega
 |succ f ih=>
  intro acc l h hf;have I:=fits e f;unfold Vx;refine Fit.is (fun hl=>Fit.ok h.tail Dw) ?_;refine Fit.bind (I.param _ h Dw) fun x k hk hG=>?_
  have hp:=Zn x;refine Fit.bind (Qgx e _ hk) fun _ m hm hG2=>?_
  exact(ih _ _ hm Dw).mono fun xs q hq=>by rw[Y4] at hq;omega
theorem Qgq {f:Nat}(p:Nat){l:List Tok}(h:OkL l)(hf:8*l.length+1≤f):Fit (fun x m=>Xc x+8*m≤8*l.length) (Uo e f p l):=by
 unfold Uo;refine Fit.bind (Hu e h) fun s k hk hG=>?_
 refine Fit.bind (Jb e _ hk) fun _ m hm hG2=>?_
 refine Fit.bind (Jb e _ hm) fun _ q hq hG3=>?_
 refine Fit.bind (Qn8 e f [] q hq Dw) fun xs r hr hG4=>?_
 exact Fit.ok hr (by simp only[Xc,Zk] at *;omega)
theorem prog_fit:∀ (f:Nat) (acc:List Tr) (l:List Tok),OkL l→8*l.length+2≤f→Fit (fun xs m=>m=0∧Zk xs≤Zk acc+8*l.length) (Xh e f acc l):=by
 intro f;induction f with
 |zero=>intros;omega
 |succ f ih=>
  intro acc l h hf;unfold Xh;cases l with
  |nil=>exact Fit.ok h ⟨rfl,by omega⟩
  |cons t l=>
   dsimp only;have ht:OkL l:=h.tail;have hlen:(t::l).length=l.length+1:=rfl;refine Fit.bind (G:=fun x m=>Xc x+8*m≤8*l.length) (Fit.is (fun _=>Qgq e _ ht Dw) (Fit.is (fun _=>Qjp e _ ht Dw) Fit.bad)) fun x k hk hG=>?_
   cases k with
   |nil=>exact(ih _ _ hk (by simp;omega)).mono fun xs q hq=>⟨hq.1,by have:=hq.2;rw[Y4] at this;simp at this;omega⟩
   |cons u k=>
    have hlen2:(u::k).length=k.length+1:=rfl;refine Fit.bind (Qgx e _ hk) fun _ m hm hG2=>?_
    exact(ih _ _ hm Dw).mono fun xs q hq=>⟨hq.1,by have:=hq.2;rw[Y4] at this;omega⟩
theorem Qk1 {f:Nat}{l:List Tok}(h:OkL l)(hf:8*l.length+2≤f):Fit (fun x m=>m=0∧Xc x≤1+8*l.length) (Hr e f l):=by
 unfold Hr;exact Fit.bind (prog_fit e f [] l h hf) fun xs m hm hG=>Fit.ok hm ⟨hG.1,by have:=hG.2;simp only[Xc,Zk] at *;omega⟩
end
theorem D8 (l:List UInt8)(ts:List Tok)(h:Xk l=.ok ts):OkL ts∧ts.length≤16384:=by
 have key:=Qeb (fun _ _ _ cnt ts=>OkL ts∧(cnt≤16384→cnt+ts.length≤16384)) (fun p cnt=>⟨fun t ht=>absurd ht Ds,fun h=>by simpa using h⟩)
  (fun p cnt hc=>⟨fun t ht=>by simp at ht;subst ht;simp[Zj],fun _=>by simp;omega⟩)
  (fun m p cnt ts h=>h)
  (fun m p cnt ts hc h=>⟨fun t ht=>by
   rcases List.mem_cons.1 ht with rfl|ht
   ·simp[Zj]
   ·exact h.1 t ht,fun _=>by have:=h.2 Dw;simp;omega⟩)
  (fun b m p opn cnt ts _ h=>h) (fun l p opn cnt ts _ h=>h)
  (fun l p opn cnt ts _ h0 hc h=>⟨fun t ht=>by
   rcases List.mem_cons.1 ht with rfl|ht
   ·refine⟨?_,?_⟩
    ·have:=Qmx l p h0;unfold Qg7 at this;omega
    ·unfold Ui;split
     ·split
      ·exact Int.le_refl _
      ·exact Int.le_refl _
     ·split
      ·exact Int.natCast_nonneg _
      ·split
       ·exact Int.le_refl _
       ·exact Int.le_refl _
   ·exact h.1 t ht,fun _=>by have:=h.2 Dw;simp;omega⟩)
 unfold Xk at h;split at h
 ·cases h
 ·split at h
  ·cases h
  ·have:=key _ l 0 false 0 ts (Nat.le_refl _) h;exact⟨this.1,by have:=this.2 Dw;omega⟩
def Jt:Nat:=200000
theorem Qtm (n:Nat){ts:List Tok}(h:OkL ts)(hl:ts.length≤16384):Fit (fun x _=>Xc x≤200000) (Xg n Jt 1 false ts):=
 ((fits n Jt).expr 1 false ts h (by unfold Jt;omega)).mono fun x m hx=>by have:=hx.2;omega
theorem Qmf (n:Nat){ts:List Tok}(h:OkL ts)(hl:ts.length≤16384):Fit (fun x _=>Xc x≤200000) (He n Jt false ts):=
 ((fits n Jt).stmt false ts h (by unfold Jt;omega)).mono fun x m hx=>by omega
theorem Qds (n:Nat){ts:List Tok}(h:OkL ts)(hl:ts.length≤16384):Fit (fun x _=>Xc x≤200000) (Hr n Jt ts):=
 (Qk1 n h (by unfold Jt;omega)).mono fun x m hx=>by omega
end Prs
end
end Go.Proofs.YtcbkeecabcbogaaGreatDoor
