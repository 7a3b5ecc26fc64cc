/- With enough fuel the reader's functions come to an end; what is left is of the tokens; how large the trees are. Printed by gen_fit.py. No program in sight. A text's bytes as a list, and what cuts o -/
import Derived.Test.YtcbkeecabcbogaaGreatDoorGaa
import Derived.Laws.Strings
set_option linter.unusedSimpArgs false
set_option linter.unusedVariables false
namespace Go.Proofs.YtcbkeecabcbogaaGreatDoor
namespace Prs
def OkL (l:List Tok):Prop:=∀ t∈l,t.kind≠0∧0≤t.num
theorem OkL.tail {l:List Tok}(h:OkL l):OkL l.tail:=fun t ht=>h t (List.mem_of_mem_tail ht)
def Fit {α:Type}(G:α→Nat→Prop)(r:R α):Prop:=∃ y,r=some y∧∀ x m,y = .ok (x,m)→OkL m∧G x m.length
theorem Fit.bad {α:Type}{G:α→Nat→Prop}{p:Nat}:Fit G (bad p:R α):=⟨_,rfl,fun _ _ h=>by cases h⟩
theorem Fit.ok {α:Type}{G:α→Nat→Prop}{x:α}{m:List Tok}(h1:OkL m)(h2:G x m.length):Fit G (ok x m):=⟨_,rfl,fun _ _ h=>by cases h;exact⟨h1,h2⟩⟩
theorem Fit.bind {α β:Type}{G:α→Nat→Prop}{G':β→Nat→Prop}{r:R α}{f:α→List Tok→R β}(h:Fit G r)(hf:∀ x m,OkL m→G x m.length→Fit G' (f x m)):Fit G' (andThen r f):=by
 obtain⟨y,rfl,hy⟩:=h
 cases y with
 |error p=>exact⟨_,rfl,fun _ _ h=>by cases h⟩
 |ok z=>
  obtain⟨x,m⟩:=z
  obtain⟨h1,h2⟩:=hy x m rfl
  exact hf x m h1 h2
theorem Fit.mono {α:Type}{G G':α→Nat→Prop}{r:R α}(h:Fit G r)(hg:∀ x m,G x m→G' x m):Fit G' r:=by
 obtain⟨y,h1,hy⟩:=h
 exact⟨y,h1,fun x m e=>⟨(hy x m e).1,hg _ _ (hy x m e).2⟩⟩
theorem len_tail {l:List Tok}(h:kindP l≠0):l.length=l.tail.length+1:=by
 cases l with
 |nil=>exact absurd rfl h
 |cons t l=>rfl
theorem isP_len {w:List UInt8}{l:List Tok}(h:isP w l=true):l.length=l.tail.length+1:=by
 refine len_tail fun h0 => ?_
 unfold isP at h
 rw[h0] at h
 simp at h
theorem kd_len {l:List Tok}{k:Int}(hk:k≠0)(h:(kindP l==k)=true):l.length=l.tail.length+1:=len_tail fun h0=>by
 rw[h0] at h
 exact hk (beq_iff_eq.1 h).symm
theorem Fit.is {α:Type}{G:α→Nat→Prop}{w:List UInt8}{l:List Tok}{a b:R α}(h1:l.length=l.tail.length+1→Fit G a)(h2:Fit G b):Fit G (if isP w l then a else b):=by
 cases h:isP w l with
 |true=>exact h1 (isP_len h)
 |false=>exact h2
theorem Fit.kd {α:Type}{G:α→Nat→Prop}{k:Int}{l:List Tok}{a b:R α}(hk:k≠0)(h1:l.length=l.tail.length+1→Fit G a)(h2:Fit G b):Fit G (if kindP l==k then a else b):=by
 cases h:kindP l==k with
 |true=>exact h1 (kd_len hk h)
 |false=>exact h2
theorem Fit.or {α:Type}{G:α→Nat→Prop}{w v:List UInt8}{l:List Tok}{a b:R α}(h1:l.length=l.tail.length+1→Fit G a)(h2:Fit G b):Fit G (if isP w l||isP v l then a else b):=by
 cases h:isP w l||isP v l with
 |true=>
  rw[Bool.or_eq_true] at h
  exact h1 (h.elim isP_len isP_len)
 |false=>exact h2
theorem Fit.and {α:Type}{G:α→Nat→Prop}{w:List UInt8}{l:List Tok}{c:Bool}{a b:R α}(h1:l.length=l.tail.length+1→Fit G a)(h2:Fit G b):Fit G (if c&&isP w l then a else b):=by
 cases h:c&&isP w l with
 |true=>
  rw[Bool.and_eq_true] at h
  exact h1 (isP_len h.2)
 |false=>exact h2
theorem num_ok {l:List Tok}(h:OkL l):numOKP l=true:=by
 cases l with
 |nil=>rfl
 |cons t l=>exact decide_eq_true (h t List.mem_cons_self).2
theorem Fit.ite {α:Type}{G:α→Nat→Prop}{c:Prop}[Decidable c]{a b:R α}(h1:Fit G a)(h2:Fit G b):Fit G (if c then a else b):=by
 split
 ·exact h1
 ·exact h2
theorem sizeL_app (a b:List Tr):sizeL (a++b)=sizeL a+sizeL b:=by
 induction a with
 |nil=>simp[sizeL]
 |cons t a ih=>simp only[List.cons_append,sizeL,ih];omega
theorem sizeL_snoc (a:List Tr)(x:Tr):sizeL (a++[x])=sizeL a+sizeT x:=by
 rw[sizeL_app];simp[sizeL]
theorem size_pos (t:Tr):1≤sizeT t:=by cases t;unfold sizeT;omega
def V39 (x:Tr):Prop:=x.kind=39→x.kids≠[]
theorem Fit.kids {α:Type}{G:α→Nat→Prop}{x:Tr}{c:Bool}{F:Tr→R α}{b:R α}(hv:V39 x)(h1:∀ t,sizeT t+1≤sizeT x→Fit G (F t))(h2:Fit G b):Fit G (if x.kind==39&&c then (match x.kids with
  | []=>none
  |t :: _=>F t) else b):=by
 cases h:x.kind==39&&c with
 |false=>exact h2
 |true=>
  rw[Bool.and_eq_true] at h
  have hk:=hv (beq_iff_eq.1 h.1)
  obtain⟨k,y,n,p,l⟩:=x
  cases l with
  |nil=>exact absurd rfl hk
  |cons t l=>exact h1 t (by simp only[sizeT,sizeL];omega)
section
variable (e:Nat)
theorem want_fit (w:List UInt8){l:List Tok}(h:OkL l):Fit (fun _ m=>l.length=m+1) (wantP e w l):=by
 unfold wantP
 exact Fit.is (fun hl=>Fit.ok h.tail hl) Fit.bad
theorem name_fit {l:List Tok}(h:OkL l):Fit (fun _ m=>l.length=m+1) (nameP e l):=by
 unfold nameP
 exact Fit.kd (by decide) (fun hl=>Fit.ok h.tail hl) Fit.bad
theorem semi_fit (w:List UInt8){l:List Tok}(h:OkL l):Fit (fun _ m=>m≤l.length) (semiP e w l):=by
 unfold semiP
 exact Fit.kd (by decide) (fun hl=>Fit.ok h.tail (by omega)) (Fit.is (fun _=>Fit.ok h (Nat.le_refl _)) Fit.bad)
theorem shut_fit (w:List UInt8){l:List Tok}(h:OkL l):Fit (fun _ m=>m+1≤l.length) (shutP e w l):=by
 unfold shutP
 split
 ·rename_i hc
  rw[Bool.and_eq_true] at hc
  have:=kd_len (by decide) hc.1
  exact(want_fit e w h.tail).mono fun _ m hm=>by omega
 ·exact(want_fit e w h).mono fun _ m hm=>by omega
theorem manyLoop_fit (shut:List UInt8){one:List Tok→R Tr}{n:Nat}(h1:∀ l,OkL l→l.length≤n→Fit (fun x m=>sizeT x+8 * m≤8 * l.length) (one l)):∀ (f:Nat) (acc:List Tr) (l:List Tok),OkL l→l.length≤n→l.length+1≤f→Fit (fun xs m=>sizeL xs+1+8 * m≤sizeL acc+8 * l.length) (manyLoop e shut one f acc l):=by
 intro f
 induction f with
 |zero=>intro acc l h hn hf;omega
 |succ f ih=>
  intro acc l h hn hf
  unfold manyLoop
  refine Fit.bind (h1 l h hn) fun x m hm hG => ?_
  have hp:=size_pos x
  refine Fit.is (fun hl => ?_) ?_
  ·exact(ih _ _ hm.tail (by omega) (by omega)).mono fun xs q hq=>by rw[sizeL_snoc] at hq;omega
  ·exact Fit.bind (shut_fit e shut hm) fun _ q hq hG2=>Fit.ok hq (by rw[sizeL_snoc];omega)
theorem many_fit (shut:List UInt8)(first:Bool){one:List Tok→R Tr}{n f:Nat}(h1:∀ l,OkL l→l.length≤n→Fit (fun x m=>sizeT x+8 * m≤8 * l.length) (one l)){l:List Tok}(h:OkL l)(hn:l.length≤n)(hf:l.length+1≤f):Fit (fun xs m=>sizeL xs+1+8 * m≤8 * l.length) (manyP e shut first one f l):=by
 unfold manyP
 split
 ·rename_i hc
  rw[Bool.and_eq_true] at hc
  have:=isP_len hc.2
  exact Fit.ok h.tail (by simp only[sizeL];omega)
 ·exact(manyLoop_fit e shut h1 f [] l h hn hf).mono fun xs m hm=>by simp only[sizeL] at hm;omega
structure Fits (f:Nat):Prop where
 typ:∀ (l:List Tok),OkL l→8 * l.length+1≤f→Fit (fun x m=>sizeT x+8 * m≤8 * l.length) (typP e f l)
 param:∀ (l:List Tok),OkL l→8 * l.length+1≤f→Fit (fun x m=>sizeT x+8 * m≤8 * l.length) (paramP e f l)
 sig:∀ (l:List Tok),OkL l→8 * l.length+1≤f→Fit (fun xs m=>sizeL xs+1+8 * m≤8 * l.length) (sigP e f l)
 block:∀ (l:List Tok),OkL l→8 * l.length+1≤f→Fit (fun x m=>sizeT x+8 * m≤8 * l.length) (blockP e f l)
 blockL:∀ (acc:List Tr) (l:List Tok),OkL l→8 * l.length+6≤f→Fit (fun xs m=>sizeL xs+1+8 * m≤sizeL acc+8 * l.length) (blockLoop e f acc l)
 branch:∀ (p:Nat) (l:List Tok),OkL l→8 * l.length+4≤f→Fit (fun x m=>sizeT x+8 * m≤8 * l.length) (branchP e f p l)
 stmt:∀ (hd:Bool) (l:List Tok),OkL l→8 * l.length+5≤f→Fit (fun x m=>sizeT x+8 * m≤8 * l.length) (stmtP e f hd l)
 simple:∀ (hd:Bool) (l:List Tok),OkL l→8 * l.length+4≤f→Fit (fun x m=>sizeT x+8 * m≤8 * l.length) (simpleP e f hd l)
 body:∀ (hd:Bool) (l:List Tok),OkL l→8 * l.length+1≤f→Fit (fun x m=>sizeT x+8 * m≤8 * l.length) (bodyP e f hd l)
 bodyL:∀ (hd:Bool) (acc:List Tr) (l:List Tok),OkL l→8 * l.length+6≤f→Fit (fun xs m=>sizeL xs+8 * m≤sizeL acc+8 * l.length) (bodyLoop e f hd acc l)
 oneC:∀ (hd:Bool) (d:Nat) (l:List Tok),OkL l→8 * l.length+1≤f→Fit (fun x m=>sizeT x.1+8 * m≤8 * l.length) (oneCaseP e f hd d l)
 selection:∀ (p:Nat) (l:List Tok),OkL l→8 * l.length+1≤f→Fit (fun x m=>sizeT x+8 * m≤8 * l.length) (selectionP e f p l)
 selL:∀ (acc:List Tr) (d:Nat) (l:List Tok),OkL l→8 * l.length+2≤f→Fit (fun xs m=>sizeL xs+1+8 * m≤sizeL acc+8 * l.length) (selLoop e f acc d l)
 expr:∀ (n:Nat) (hd:Bool) (l:List Tok),OkL l→8 * l.length+3≤f→Fit (fun x m=>V39 x∧sizeT x+1+8 * m≤8 * l.length) (exprP e f n hd l)
 exprL:∀ (n:Nat) (hd:Bool) (x:Tr) (l:List Tok),OkL l→V39 x→8 * l.length+1≤f→Fit (fun y m=>V39 y∧sizeT y+1+8 * m≤sizeT x+1+8 * l.length) (exprLoop e f n hd x l)
 unary:∀ (hd:Bool) (l:List Tok),OkL l→8 * l.length+2≤f→Fit (fun x m=>V39 x∧sizeT x+1+8 * m≤8 * l.length) (unaryP e f hd l)
 suf:∀ (hd:Bool) (x:Tr) (l:List Tok),OkL l→V39 x→8 * l.length+1≤f→Fit (fun y m=>V39 y∧sizeT y+1+8 * m≤sizeT x+1+8 * l.length) (sufLoop e f hd x l)
 arg:∀ (l:List Tok),OkL l→8 * l.length+4≤f→Fit (fun x m=>sizeT x+8 * m≤8 * l.length) (argP e f l)
 operand:∀ (hd:Bool) (l:List Tok),OkL l→8 * l.length+1≤f→Fit (fun x m=>V39 x∧sizeT x+1+8 * m≤8 * l.length) (operandP e f hd l)
theorem fit_typ {f:Nat}(I:Fits e f):∀ (l:List Tok),OkL l→8 * l.length+1≤(f+1)→Fit (fun x m=>sizeT x+8 * m≤8 * l.length) (typP e (f+1) l):=by
 intro l h hf
 unfold typP
 repeat' first
  |exact Fit.bad
  |(refine Fit.is (fun hl => ?_) ?_)
  |(refine Fit.or (fun hl => ?_) ?_)
  |(refine Fit.and (fun hl => ?_) ?_)
  |(refine Fit.kd (by decide) (fun hl => ?_) ?_)
  |(refine Fit.bind (want_fit e _ (by repeat' (first|assumption|apply OkL.tail))) (fun _ m hm hG => ?_))
  |(refine Fit.bind (name_fit e (by repeat' (first|assumption|apply OkL.tail))) (fun _ m hm hG => ?_))
  |(refine Fit.bind (many_fit e _ _ (fun k h1 h2=>(I.typ k h1 (by omega))) (by repeat' (first|assumption|apply OkL.tail)) (Nat.le_refl _) (by omega)) (fun x m hm hG => ?_))
  |(refine Fit.bind (I.typ  _ (by repeat' (first|assumption|apply OkL.tail)) (by omega)) (fun x m hm hG => ?_);have hp:=size_pos x)
  |(refine Fit.ok (by repeat' (first|assumption|apply OkL.tail)) (by first|omega|(simp only[sizeT,sizeL,sizeL_snoc,sizeL_app] at *;omega)))
  |(refine Fit.ok (by repeat' (first|assumption|apply OkL.tail)) ⟨by first|assumption|simp[V39,Tr.kind,Tr.kids],(by first|omega|(simp only[sizeT,sizeL,sizeL_snoc,sizeL_app] at *;omega))⟩)
  |(refine Fit.ite ?_ ?_)
theorem fit_param {f:Nat}(I:Fits e f):∀ (l:List Tok),OkL l→8 * l.length+1≤(f+1)→Fit (fun x m=>sizeT x+8 * m≤8 * l.length) (paramP e (f+1) l):=by
 intro l h hf
 unfold paramP
 repeat' first
  |exact Fit.bad
  |(refine Fit.is (fun hl => ?_) ?_)
  |(refine Fit.or (fun hl => ?_) ?_)
  |(refine Fit.and (fun hl => ?_) ?_)
  |(refine Fit.kd (by decide) (fun hl => ?_) ?_)
  |(refine Fit.bind (name_fit e (by repeat' (first|assumption|apply OkL.tail))) (fun _ m hm hG => ?_))
  |(refine Fit.bind (I.typ  _ (by repeat' (first|assumption|apply OkL.tail)) (by omega)) (fun x m hm hG => ?_);have hp:=size_pos x)
  |(refine Fit.ok (by repeat' (first|assumption|apply OkL.tail)) (by first|omega|(simp only[sizeT,sizeL,sizeL_snoc,sizeL_app] at *;omega)))
  |(refine Fit.ok (by repeat' (first|assumption|apply OkL.tail)) ⟨by first|assumption|simp[V39,Tr.kind,Tr.kids],(by first|omega|(simp only[sizeT,sizeL,sizeL_snoc,sizeL_app] at *;omega))⟩)
  |(refine Fit.ite ?_ ?_)
theorem fit_sig {f:Nat}(I:Fits e f):∀ (l:List Tok),OkL l→8 * l.length+1≤(f+1)→Fit (fun xs m=>sizeL xs+1+8 * m≤8 * l.length) (sigP e (f+1) l):=by
 intro l h hf
 unfold sigP
 repeat' first
  |exact Fit.bad
  |(refine Fit.is (fun hl => ?_) ?_)
  |(refine Fit.or (fun hl => ?_) ?_)
  |(refine Fit.and (fun hl => ?_) ?_)
  |(refine Fit.kd (by decide) (fun hl => ?_) ?_)
  |(refine Fit.bind (want_fit e _ (by repeat' (first|assumption|apply OkL.tail))) (fun _ m hm hG => ?_))
  |(refine Fit.bind (many_fit e _ _ (fun k h1 h2=>(I.param k h1 (by omega))) (by repeat' (first|assumption|apply OkL.tail)) (Nat.le_refl _) (by omega)) (fun x m hm hG => ?_))
  |(refine Fit.bind (I.typ  _ (by repeat' (first|assumption|apply OkL.tail)) (by omega)) (fun x m hm hG => ?_);have hp:=size_pos x)
  |(refine Fit.ok (by repeat' (first|assumption|apply OkL.tail)) (by first|omega|(simp only[sizeT,sizeL,sizeL_snoc,sizeL_app] at *;omega)))
  |(refine Fit.ok (by repeat' (first|assumption|apply OkL.tail)) ⟨by first|assumption|simp[V39,Tr.kind,Tr.kids],(by first|omega|(simp only[sizeT,sizeL,sizeL_snoc,sizeL_app] at *;omega))⟩)
  |(refine Fit.ite ?_ ?_)
theorem fit_block {f:Nat}(I:Fits e f):∀ (l:List Tok),OkL l→8 * l.length+1≤(f+1)→Fit (fun x m=>sizeT x+8 * m≤8 * l.length) (blockP e (f+1) l):=by
 intro l h hf
 unfold blockP
 repeat' first
  |exact Fit.bad
  |(refine Fit.is (fun hl => ?_) ?_)
  |(refine Fit.or (fun hl => ?_) ?_)
  |(refine Fit.and (fun hl => ?_) ?_)
  |(refine Fit.kd (by decide) (fun hl => ?_) ?_)
  |(refine Fit.bind (want_fit e _ (by repeat' (first|assumption|apply OkL.tail))) (fun _ m hm hG => ?_))
  |(refine Fit.bind (I.blockL _ _ (by repeat' (first|assumption|apply OkL.tail)) (by omega)) (fun x m hm hG => ?_))
  |(refine Fit.ok (by repeat' (first|assumption|apply OkL.tail)) (by first|omega|(simp only[sizeT,sizeL,sizeL_snoc,sizeL_app] at *;omega)))
  |(refine Fit.ok (by repeat' (first|assumption|apply OkL.tail)) ⟨by first|assumption|simp[V39,Tr.kind,Tr.kids],(by first|omega|(simp only[sizeT,sizeL,sizeL_snoc,sizeL_app] at *;omega))⟩)
  |(refine Fit.ite ?_ ?_)
theorem fit_blockL {f:Nat}(I:Fits e f):∀ (acc:List Tr) (l:List Tok),OkL l→8 * l.length+6≤(f+1)→Fit (fun xs m=>sizeL xs+1+8 * m≤sizeL acc+8 * l.length) (blockLoop e (f+1) acc l):=by
 intro acc l h hf
 unfold blockLoop
 repeat' first
  |exact Fit.bad
  |(refine Fit.is (fun hl => ?_) ?_)
  |(refine Fit.or (fun hl => ?_) ?_)
  |(refine Fit.and (fun hl => ?_) ?_)
  |(refine Fit.kd (by decide) (fun hl => ?_) ?_)
  |(refine(I.blockL _ _ (by repeat' (first|assumption|apply OkL.tail)) (by omega)).mono (fun xs q hq => ?_);rw[sizeL_snoc] at hq;omega)
  |(refine Fit.bind (semi_fit e _ (by repeat' (first|assumption|apply OkL.tail))) (fun _ m hm hG => ?_))
  |(refine Fit.bind (I.stmt _ _ (by repeat' (first|assumption|apply OkL.tail)) (by omega)) (fun x m hm hG => ?_);have hp:=size_pos x)
  |(refine Fit.ok (by repeat' (first|assumption|apply OkL.tail)) (by first|omega|(simp only[sizeT,sizeL,sizeL_snoc,sizeL_app] at *;omega)))
  |(refine Fit.ok (by repeat' (first|assumption|apply OkL.tail)) ⟨by first|assumption|simp[V39,Tr.kind,Tr.kids],(by first|omega|(simp only[sizeT,sizeL,sizeL_snoc,sizeL_app] at *;omega))⟩)
  |(refine Fit.ite ?_ ?_)
theorem fit_branch {f:Nat}(I:Fits e f):∀ (p:Nat) (l:List Tok),OkL l→8 * l.length+4≤(f+1)→Fit (fun x m=>sizeT x+8 * m≤8 * l.length) (branchP e (f+1) p l):=by
 intro p l h hf
 unfold branchP
 repeat' first
  |exact Fit.bad
  |(refine Fit.is (fun hl => ?_) ?_)
  |(refine Fit.or (fun hl => ?_) ?_)
  |(refine Fit.and (fun hl => ?_) ?_)
  |(refine Fit.kd (by decide) (fun hl => ?_) ?_)
  |(refine Fit.bind (I.expr _ _ _ (by repeat' (first|assumption|apply OkL.tail)) (by omega)) (fun x m hm hG => ?_);have hv:=hG.1;have hG:=hG.2;have hp:=size_pos x)
  |(refine Fit.bind (I.block  _ (by repeat' (first|assumption|apply OkL.tail)) (by omega)) (fun x m hm hG => ?_);have hp:=size_pos x)
  |(refine Fit.bind (I.branch _ _ (by repeat' (first|assumption|apply OkL.tail)) (by omega)) (fun x m hm hG => ?_);have hp:=size_pos x)
  |(refine Fit.ok (by repeat' (first|assumption|apply OkL.tail)) (by first|omega|(simp only[sizeT,sizeL,sizeL_snoc,sizeL_app] at *;omega)))
  |(refine Fit.ok (by repeat' (first|assumption|apply OkL.tail)) ⟨by first|assumption|simp[V39,Tr.kind,Tr.kids],(by first|omega|(simp only[sizeT,sizeL,sizeL_snoc,sizeL_app] at *;omega))⟩)
  |(refine Fit.ite ?_ ?_)
theorem fit_stmt {f:Nat}(I:Fits e f):∀ (hd:Bool) (l:List Tok),OkL l→8 * l.length+5≤(f+1)→Fit (fun x m=>sizeT x+8 * m≤8 * l.length) (stmtP e (f+1) hd l):=by
 intro hd l h hf
 unfold stmtP
 repeat' first
  |exact Fit.bad
  |(refine Fit.is (fun hl => ?_) ?_)
  |(refine Fit.or (fun hl => ?_) ?_)
  |(refine Fit.and (fun hl => ?_) ?_)
  |(refine Fit.kd (by decide) (fun hl => ?_) ?_)
  |(exact I.block _ (by repeat' (first|assumption|apply OkL.tail)) (by omega))|(exact I.simple _ _ (by repeat' (first|assumption|apply OkL.tail)) (by omega))|(refine(I.branch _ _ (by repeat' (first|assumption|apply OkL.tail)) (by omega)).mono (fun x q hq => ?_);omega)|(refine(I.selection _ _ (by repeat' (first|assumption|apply OkL.tail)) (by omega)).mono (fun x q hq => ?_);omega)
  |(refine Fit.bind (name_fit e (by repeat' (first|assumption|apply OkL.tail))) (fun _ m hm hG => ?_))
  |(refine Fit.bind (I.typ  _ (by repeat' (first|assumption|apply OkL.tail)) (by omega)) (fun x m hm hG => ?_);have hp:=size_pos x)
  |(refine Fit.bind (I.expr _ _ _ (by repeat' (first|assumption|apply OkL.tail)) (by omega)) (fun x m hm hG => ?_);have hv:=hG.1;have hG:=hG.2;have hp:=size_pos x)
  |(refine Fit.bind (I.block  _ (by repeat' (first|assumption|apply OkL.tail)) (by omega)) (fun x m hm hG => ?_);have hp:=size_pos x)
  |(refine Fit.ok (by repeat' (first|assumption|apply OkL.tail)) (by first|omega|(simp only[sizeT,sizeL,sizeL_snoc,sizeL_app] at *;omega)))
  |(refine Fit.ok (by repeat' (first|assumption|apply OkL.tail)) ⟨by first|assumption|simp[V39,Tr.kind,Tr.kids],(by first|omega|(simp only[sizeT,sizeL,sizeL_snoc,sizeL_app] at *;omega))⟩)
  |(refine Fit.ite ?_ ?_)
theorem fit_simple {f:Nat}(I:Fits e f):∀ (hd:Bool) (l:List Tok),OkL l→8 * l.length+4≤(f+1)→Fit (fun x m=>sizeT x+8 * m≤8 * l.length) (simpleP e (f+1) hd l):=by
 intro hd l h hf
 unfold simpleP
 repeat' first
  |exact Fit.bad
  |(refine Fit.is (fun hl => ?_) ?_)
  |(refine Fit.or (fun hl => ?_) ?_)
  |(refine Fit.and (fun hl => ?_) ?_)
  |(refine Fit.kd (by decide) (fun hl => ?_) ?_)
  |(refine Fit.bind (name_fit e (by repeat' (first|assumption|apply OkL.tail))) (fun _ m hm hG => ?_))
  |(refine Fit.bind (want_fit e _ (by repeat' (first|assumption|apply OkL.tail))) (fun _ m hm hG => ?_))
  |(refine Fit.bind (I.expr _ _ _ (by repeat' (first|assumption|apply OkL.tail)) (by omega)) (fun x m hm hG => ?_);have hv:=hG.1;have hG:=hG.2;have hp:=size_pos x)
  |(refine Fit.ok (by repeat' (first|assumption|apply OkL.tail)) (by first|omega|(simp only[sizeT,sizeL,sizeL_snoc,sizeL_app] at *;omega)))
  |(refine Fit.ok (by repeat' (first|assumption|apply OkL.tail)) ⟨by first|assumption|simp[V39,Tr.kind,Tr.kids],(by first|omega|(simp only[sizeT,sizeL,sizeL_snoc,sizeL_app] at *;omega))⟩)
  |(refine Fit.ite ?_ ?_)
theorem fit_body {f:Nat}(I:Fits e f):∀ (hd:Bool) (l:List Tok),OkL l→8 * l.length+1≤(f+1)→Fit (fun x m=>sizeT x+8 * m≤8 * l.length) (bodyP e (f+1) hd l):=by
 intro hd l h hf
 unfold bodyP
 repeat' first
  |exact Fit.bad
  |(refine Fit.is (fun hl => ?_) ?_)
  |(refine Fit.or (fun hl => ?_) ?_)
  |(refine Fit.and (fun hl => ?_) ?_)
  |(refine Fit.kd (by decide) (fun hl => ?_) ?_)
  |(refine Fit.bind (want_fit e _ (by repeat' (first|assumption|apply OkL.tail))) (fun _ m hm hG => ?_))
  |(refine Fit.bind (I.bodyL _ _ _ (by repeat' (first|assumption|apply OkL.tail)) (by omega)) (fun x m hm hG => ?_))
  |(refine Fit.ok (by repeat' (first|assumption|apply OkL.tail)) (by first|omega|(simp only[sizeT,sizeL,sizeL_snoc,sizeL_app] at *;omega)))
  |(refine Fit.ok (by repeat' (first|assumption|apply OkL.tail)) ⟨by first|assumption|simp[V39,Tr.kind,Tr.kids],(by first|omega|(simp only[sizeT,sizeL,sizeL_snoc,sizeL_app] at *;omega))⟩)
  |(refine Fit.ite ?_ ?_)
theorem fit_bodyL {f:Nat}(I:Fits e f):∀ (hd:Bool) (acc:List Tr) (l:List Tok),OkL l→8 * l.length+6≤(f+1)→Fit (fun xs m=>sizeL xs+8 * m≤sizeL acc+8 * l.length) (bodyLoop e (f+1) hd acc l):=by
 intro hd acc l h hf
 unfold bodyLoop
 repeat' first
  |exact Fit.bad
  |(refine Fit.is (fun hl => ?_) ?_)
  |(refine Fit.or (fun hl => ?_) ?_)
  |(refine Fit.and (fun hl => ?_) ?_)
  |(refine Fit.kd (by decide) (fun hl => ?_) ?_)
  |(refine(I.bodyL _ _ _ (by repeat' (first|assumption|apply OkL.tail)) (by omega)).mono (fun xs q hq => ?_);rw[sizeL_snoc] at hq;omega)
  |(refine Fit.bind (I.stmt _ _ (by repeat' (first|assumption|apply OkL.tail)) (by omega)) (fun x m hm hG => ?_);have hp:=size_pos x)
  |(refine Fit.ok (by repeat' (first|assumption|apply OkL.tail)) (by first|omega|(simp only[sizeT,sizeL,sizeL_snoc,sizeL_app] at *;omega)))
  |(refine Fit.ok (by repeat' (first|assumption|apply OkL.tail)) ⟨by first|assumption|simp[V39,Tr.kind,Tr.kids],(by first|omega|(simp only[sizeT,sizeL,sizeL_snoc,sizeL_app] at *;omega))⟩)
  |(refine Fit.ite ?_ ?_)
theorem fit_oneC {f:Nat}(I:Fits e f):∀ (hd:Bool) (d:Nat) (l:List Tok),OkL l→8 * l.length+1≤(f+1)→Fit (fun x m=>sizeT x.1+8 * m≤8 * l.length) (oneCaseP e (f+1) hd d l):=by
 intro hd d l h hf
 unfold oneCaseP
 repeat' first
  |exact Fit.bad
  |(refine Fit.is (fun hl => ?_) ?_)
  |(refine Fit.or (fun hl => ?_) ?_)
  |(refine Fit.and (fun hl => ?_) ?_)
  |(refine Fit.kd (by decide) (fun hl => ?_) ?_)
  |(refine Fit.kids (by assumption) (fun t ht => ?_) ?_)
  |(refine Fit.bind (want_fit e _ (by repeat' (first|assumption|apply OkL.tail))) (fun _ m hm hG => ?_))
  |(refine Fit.bind (name_fit e (by repeat' (first|assumption|apply OkL.tail))) (fun _ m hm hG => ?_))
  |(refine Fit.bind (I.unary _ _ (by repeat' (first|assumption|apply OkL.tail)) (by omega)) (fun x m hm hG => ?_);have hv:=hG.1;have hG:=hG.2;have hp:=size_pos x)
  |(refine Fit.bind (I.expr _ _ _ (by repeat' (first|assumption|apply OkL.tail)) (by omega)) (fun x m hm hG => ?_);have hv:=hG.1;have hG:=hG.2;have hp:=size_pos x)
  |(refine Fit.bind (I.body _ _ (by repeat' (first|assumption|apply OkL.tail)) (by omega)) (fun x m hm hG => ?_);have hp:=size_pos x)
  |(refine Fit.ok (by repeat' (first|assumption|apply OkL.tail)) (by first|omega|(simp only[sizeT,sizeL,sizeL_snoc,sizeL_app] at *;omega)))
  |(refine Fit.ok (by repeat' (first|assumption|apply OkL.tail)) ⟨by first|assumption|simp[V39,Tr.kind,Tr.kids],(by first|omega|(simp only[sizeT,sizeL,sizeL_snoc,sizeL_app] at *;omega))⟩)
  |(refine Fit.ite ?_ ?_)
theorem fit_selection {f:Nat}(I:Fits e f):∀ (p:Nat) (l:List Tok),OkL l→8 * l.length+1≤(f+1)→Fit (fun x m=>sizeT x+8 * m≤8 * l.length) (selectionP e (f+1) p l):=by
 intro p l h hf
 unfold selectionP
 repeat' first
  |exact Fit.bad
  |(refine Fit.is (fun hl => ?_) ?_)
  |(refine Fit.or (fun hl => ?_) ?_)
  |(refine Fit.and (fun hl => ?_) ?_)
  |(refine Fit.kd (by decide) (fun hl => ?_) ?_)
  |(refine Fit.bind (want_fit e _ (by repeat' (first|assumption|apply OkL.tail))) (fun _ m hm hG => ?_))
  |(refine Fit.bind (I.selL _ _ _ (by repeat' (first|assumption|apply OkL.tail)) (by omega)) (fun x m hm hG => ?_))
  |(refine Fit.ok (by repeat' (first|assumption|apply OkL.tail)) (by first|omega|(simp only[sizeT,sizeL,sizeL_snoc,sizeL_app] at *;omega)))
  |(refine Fit.ok (by repeat' (first|assumption|apply OkL.tail)) ⟨by first|assumption|simp[V39,Tr.kind,Tr.kids],(by first|omega|(simp only[sizeT,sizeL,sizeL_snoc,sizeL_app] at *;omega))⟩)
  |(refine Fit.ite ?_ ?_)
theorem fit_selL {f:Nat}(I:Fits e f):∀ (acc:List Tr) (d:Nat) (l:List Tok),OkL l→8 * l.length+2≤(f+1)→Fit (fun xs m=>sizeL xs+1+8 * m≤sizeL acc+8 * l.length) (selLoop e (f+1) acc d l):=by
 intro acc d l h hf
 unfold selLoop
 repeat' first
  |exact Fit.bad
  |(refine Fit.is (fun hl => ?_) ?_)
  |(refine Fit.or (fun hl => ?_) ?_)
  |(refine Fit.and (fun hl => ?_) ?_)
  |(refine Fit.kd (by decide) (fun hl => ?_) ?_)
  |(refine(I.selL _ _ _ (by repeat' (first|assumption|apply OkL.tail)) (by omega)).mono (fun xs q hq => ?_);rw[sizeL_snoc] at hq;omega)
  |(refine Fit.bind (I.oneC _ _ _ (by repeat' (first|assumption|apply OkL.tail)) (by omega)) (fun x m hm hG => ?_);have hp:=size_pos x.1)
  |(refine Fit.ok (by repeat' (first|assumption|apply OkL.tail)) (by first|omega|(simp only[sizeT,sizeL,sizeL_snoc,sizeL_app] at *;omega)))
  |(refine Fit.ok (by repeat' (first|assumption|apply OkL.tail)) ⟨by first|assumption|simp[V39,Tr.kind,Tr.kids],(by first|omega|(simp only[sizeT,sizeL,sizeL_snoc,sizeL_app] at *;omega))⟩)
  |(refine Fit.ite ?_ ?_)
theorem fit_expr {f:Nat}(I:Fits e f):∀ (n:Nat) (hd:Bool) (l:List Tok),OkL l→8 * l.length+3≤(f+1)→Fit (fun x m=>V39 x∧sizeT x+1+8 * m≤8 * l.length) (exprP e (f+1) n hd l):=by
 intro n hd l h hf
 unfold exprP
 repeat' first
  |exact Fit.bad
  |(refine Fit.is (fun hl => ?_) ?_)
  |(refine Fit.or (fun hl => ?_) ?_)
  |(refine Fit.and (fun hl => ?_) ?_)
  |(refine Fit.kd (by decide) (fun hl => ?_) ?_)
  |(refine(I.exprL _ _ _ _ (by repeat' (first|assumption|apply OkL.tail)) (by assumption) (by omega)).mono (fun y q hq=>⟨hq.1,?_⟩);have:=hq.2;omega)
  |(refine Fit.bind (I.unary _ _ (by repeat' (first|assumption|apply OkL.tail)) (by omega)) (fun x m hm hG => ?_);have hv:=hG.1;have hG:=hG.2;have hp:=size_pos x)
  |(refine Fit.ok (by repeat' (first|assumption|apply OkL.tail)) (by first|omega|(simp only[sizeT,sizeL,sizeL_snoc,sizeL_app] at *;omega)))
  |(refine Fit.ok (by repeat' (first|assumption|apply OkL.tail)) ⟨by first|assumption|simp[V39,Tr.kind,Tr.kids],(by first|omega|(simp only[sizeT,sizeL,sizeL_snoc,sizeL_app] at *;omega))⟩)
  |(refine Fit.ite ?_ ?_)
theorem fit_exprL {f:Nat}(I:Fits e f):∀ (n:Nat) (hd:Bool) (x:Tr) (l:List Tok),OkL l→V39 x→8 * l.length+1≤(f+1)→Fit (fun y m=>V39 y∧sizeT y+1+8 * m≤sizeT x+1+8 * l.length) (exprLoop e (f+1) n hd x l):=by
 intro n hd x l h hx hf
 unfold exprLoop
 by_cases hk:kindP l=4
 ·rw[show (if (kindP l==4)=true then bindsP (textP l) else 0)=bindsP (textP l) by simp[hk]]
  have hl:=len_tail (l:=l) (by rw[hk];decide)
  split
  ·exact Fit.ok h ⟨hx,Nat.le_refl _⟩
  ·refine Fit.bind (I.expr _ _ _ h.tail (by omega)) (fun y m hm hG => ?_)
   have hv:=hG.1
   have hG:=hG.2
   refine(I.exprL _ _ _ _ hm (by simp[V39,Tr.kind]) (by have:=size_pos y;omega)).mono (fun z q hq=>⟨hq.1,?_⟩)
   have:=hq.2
   simp only[sizeT,sizeL] at this
   omega
 ·rw[show (if (kindP l==4)=true then bindsP (textP l) else 0)=0 by simp[hk]]
  exact Fit.ok h ⟨hx,Nat.le_refl _⟩
theorem fit_unary {f:Nat}(I:Fits e f):∀ (hd:Bool) (l:List Tok),OkL l→8 * l.length+2≤(f+1)→Fit (fun x m=>V39 x∧sizeT x+1+8 * m≤8 * l.length) (unaryP e (f+1) hd l):=by
 intro hd l h hf
 unfold unaryP
 repeat' first
  |exact Fit.bad
  |(refine Fit.is (fun hl => ?_) ?_)
  |(refine Fit.or (fun hl => ?_) ?_)
  |(refine Fit.and (fun hl => ?_) ?_)
  |(refine Fit.kd (by decide) (fun hl => ?_) ?_)
  |(refine(I.suf _ _ _ (by repeat' (first|assumption|apply OkL.tail)) (by assumption) (by omega)).mono (fun y q hq=>⟨hq.1,?_⟩);have:=hq.2;omega)
  |(refine Fit.bind (I.unary _ _ (by repeat' (first|assumption|apply OkL.tail)) (by omega)) (fun x m hm hG => ?_);have hv:=hG.1;have hG:=hG.2;have hp:=size_pos x)
  |(refine Fit.bind (I.operand _ _ (by repeat' (first|assumption|apply OkL.tail)) (by omega)) (fun x m hm hG => ?_);have hv:=hG.1;have hG:=hG.2;have hp:=size_pos x)
  |(refine Fit.ok (by repeat' (first|assumption|apply OkL.tail)) (by first|omega|(simp only[sizeT,sizeL,sizeL_snoc,sizeL_app] at *;omega)))
  |(refine Fit.ok (by repeat' (first|assumption|apply OkL.tail)) ⟨by first|assumption|simp[V39,Tr.kind,Tr.kids],(by first|omega|(simp only[sizeT,sizeL,sizeL_snoc,sizeL_app] at *;omega))⟩)
  |(refine Fit.ite ?_ ?_)
theorem fit_suf {f:Nat}(I:Fits e f):∀ (hd:Bool) (x:Tr) (l:List Tok),OkL l→V39 x→8 * l.length+1≤(f+1)→Fit (fun y m=>V39 y∧sizeT y+1+8 * m≤sizeT x+1+8 * l.length) (sufLoop e (f+1) hd x l):=by
 intro hd x l h hx hf
 unfold sufLoop
 repeat' first
  |exact Fit.bad
  |(refine Fit.is (fun hl => ?_) ?_)
  |(refine Fit.or (fun hl => ?_) ?_)
  |(refine Fit.and (fun hl => ?_) ?_)
  |(refine Fit.kd (by decide) (fun hl => ?_) ?_)
  |(refine(I.suf _ _ _ (by repeat' (first|assumption|apply OkL.tail)) (by simp[V39,Tr.kind]) (by omega)).mono (fun y q hq=>⟨hq.1,?_⟩);have:=hq.2;simp only[sizeT,sizeL] at this;omega)
  |(refine Fit.bind (name_fit e (by repeat' (first|assumption|apply OkL.tail))) (fun _ m hm hG => ?_))
  |(refine Fit.bind (many_fit e _ _ (fun k h1 h2=>((I.expr 1 false k h1 (by omega)).mono fun x m hx=>by have:=hx.2;omega)) (by repeat' (first|assumption|apply OkL.tail)) (Nat.le_refl _) (by omega)) (fun x m hm hG => ?_))
  |(refine Fit.bind (many_fit e _ _ (fun k h1 h2=>(I.arg k h1 (by omega))) (by repeat' (first|assumption|apply OkL.tail)) (Nat.le_refl _) (by omega)) (fun x m hm hG => ?_))
  |(refine Fit.ok (by repeat' (first|assumption|apply OkL.tail)) (by first|omega|(simp only[sizeT,sizeL,sizeL_snoc,sizeL_app] at *;omega)))
  |(refine Fit.ok (by repeat' (first|assumption|apply OkL.tail)) ⟨by first|assumption|simp[V39,Tr.kind,Tr.kids],(by first|omega|(simp only[sizeT,sizeL,sizeL_snoc,sizeL_app] at *;omega))⟩)
  |(refine Fit.ite ?_ ?_)
theorem fit_arg {f:Nat}(I:Fits e f):∀ (l:List Tok),OkL l→8 * l.length+4≤(f+1)→Fit (fun x m=>sizeT x+8 * m≤8 * l.length) (argP e (f+1) l):=by
 intro l h hf
 unfold argP
 repeat' first
  |exact Fit.bad
  |(refine Fit.is (fun hl => ?_) ?_)
  |(refine Fit.or (fun hl => ?_) ?_)
  |(refine Fit.and (fun hl => ?_) ?_)
  |(refine Fit.kd (by decide) (fun hl => ?_) ?_)
  |(exact I.typ _ (by repeat' (first|assumption|apply OkL.tail)) (by omega))|(refine(I.expr _ _ _ (by repeat' (first|assumption|apply OkL.tail)) (by omega)).mono (fun y q hq => ?_);have:=hq.2;omega)
  |(refine Fit.ok (by repeat' (first|assumption|apply OkL.tail)) (by first|omega|(simp only[sizeT,sizeL,sizeL_snoc,sizeL_app] at *;omega)))
  |(refine Fit.ok (by repeat' (first|assumption|apply OkL.tail)) ⟨by first|assumption|simp[V39,Tr.kind,Tr.kids],(by first|omega|(simp only[sizeT,sizeL,sizeL_snoc,sizeL_app] at *;omega))⟩)
  |(refine Fit.ite ?_ ?_)
theorem fit_operand {f:Nat}(I:Fits e f):∀ (hd:Bool) (l:List Tok),OkL l→8 * l.length+1≤(f+1)→Fit (fun x m=>V39 x∧sizeT x+1+8 * m≤8 * l.length) (operandP e (f+1) hd l):=by
 intro hd l h hf
 unfold operandP
 simp only[num_ok h,if_true]
 repeat' first
  |exact Fit.bad
  |(refine Fit.is (fun hl => ?_) ?_)
  |(refine Fit.or (fun hl => ?_) ?_)
  |(refine Fit.and (fun hl => ?_) ?_)
  |(refine Fit.kd (by decide) (fun hl => ?_) ?_)
  |(refine Fit.bind (shut_fit e _ (by repeat' (first|assumption|apply OkL.tail))) (fun _ m hm hG => ?_))
  |(refine Fit.bind (want_fit e _ (by repeat' (first|assumption|apply OkL.tail))) (fun _ m hm hG => ?_))
  |(refine Fit.bind (name_fit e (by repeat' (first|assumption|apply OkL.tail))) (fun _ m hm hG => ?_))
  |(refine Fit.bind (I.expr _ _ _ (by repeat' (first|assumption|apply OkL.tail)) (by omega)) (fun x m hm hG => ?_);have hv:=hG.1;have hG:=hG.2;have hp:=size_pos x)
  |(refine Fit.bind (I.sig  _ (by repeat' (first|assumption|apply OkL.tail)) (by omega)) (fun x m hm hG => ?_))
  |(refine Fit.bind (I.block  _ (by repeat' (first|assumption|apply OkL.tail)) (by omega)) (fun x m hm hG => ?_);have hp:=size_pos x)
  |(refine Fit.bind (I.typ  _ (by repeat' (first|assumption|apply OkL.tail)) (by omega)) (fun x m hm hG => ?_);have hp:=size_pos x)
  |(refine Fit.bind (many_fit e _ _ (fun k h1 h2=>((I.expr 1 false k h1 (by omega)).mono fun x m hx=>by have:=hx.2;omega)) (by repeat' (first|assumption|apply OkL.tail)) (Nat.le_refl _) (by omega)) (fun x m hm hG => ?_))
  |(refine Fit.ok (by repeat' (first|assumption|apply OkL.tail)) (by first|omega|(simp only[sizeT,sizeL,sizeL_snoc,sizeL_app] at *;omega)))
  |(refine Fit.ok (by repeat' (first|assumption|apply OkL.tail)) ⟨by first|assumption|simp[V39,Tr.kind,Tr.kids],(by first|omega|(simp only[sizeT,sizeL,sizeL_snoc,sizeL_app] at *;omega))⟩)
  |(refine Fit.ite ?_ ?_)
theorem fits:∀ f,Fits e f
 |0=>⟨by intros;omega,by intros;omega,by intros;omega,by intros;omega,by intros;omega,by intros;omega,by intros;omega,by intros;omega,by intros;omega,by intros;omega,by intros;omega,by intros;omega,by intros;omega,by intros;omega,by intros;omega,by intros;omega,by intros;omega,by intros;omega,by intros;omega⟩
 |f+1=>have I:=fits f
  ⟨fit_typ e I,fit_param e I,fit_sig e I,fit_block e I,fit_blockL e I,fit_branch e I,fit_stmt e I,fit_simple e I,fit_body e I,fit_bodyL e I,fit_oneC e I,fit_selection e I,fit_selL e I,fit_expr e I,fit_exprL e I,fit_unary e I,fit_suf e I,fit_arg e I,fit_operand e I⟩
end
end Prs
end Go.Proofs.YtcbkeecabcbogaaGreatDoor
namespace Go.Proofs.YtcbkeecabcbogaaGreatDoor
def bl (s:ByteArray):List UInt8:=s.data.toList
theorem bl_len (s:ByteArray):(bl s).length=s.size:=by
 show s.data.toList.length=s.data.size
 simp
theorem bl_mk (l:List UInt8):bl ⟨l.toArray⟩=l:=by simp[bl]
theorem mk_bl (s:ByteArray):(⟨(bl s).toArray⟩:ByteArray)=s:=by simp[bl]
theorem bl_inj {s t:ByteArray}(h:bl s=bl t):s=t:=by rw[←mk_bl s,←mk_bl t,h]
theorem bl_extract (s:ByteArray)(a b:Nat):bl (s.extract a b)=((bl s).drop a).take (b - a):=by
 unfold bl
 simp[ByteArray.data_extract,List.extract_eq_take_drop]
theorem bl_from (s:ByteArray)(a:Nat):bl (s.extract a s.size)=(bl s).drop a:=by
 rw[bl_extract,List.take_of_length_le]
 rw[List.length_drop,bl_len];exact Nat.le_refl _
theorem bl_upto (s:ByteArray)(b:Nat):bl (s.extract 0 b)=(bl s).take b:=by
 rw[bl_extract];simp
theorem dec_bl (s:ByteArray)(i:Nat)(h:i<s.size):Utf8.decode s i=decL ((bl s).drop i):=by
 have e:=dec_drop (bl s) i (by rw[bl_len];exact h)
 rw[mk_bl] at e;exact e
theorem toList_bl (s:ByteArray):s.toList=bl s:=ByteArray.toList_eq s
theorem bl_size0 (s:ByteArray):bl s=[]↔s.size=0:=by rw[←bl_len];exact List.length_eq_zero_iff.symm
theorem valFrom_none (hex:Bool)(n:Nat)(c:UInt8)(l:List UInt8)(h:digVal hex c=none):valFrom hex n (c :: l)=none:=by
 show (match digVal hex c with|some d=>valFrom hex (n * baseN hex+d) l|none=>none)=_
 rw[h]
theorem valFrom_some (hex:Bool)(n d:Nat)(c:UInt8)(l:List UInt8)(h:digVal hex c=some d):valFrom hex n (c :: l)=valFrom hex (n * baseN hex+d) l:=by
 show (match digVal hex c with|some d=>valFrom hex (n * baseN hex+d) l|none=>none)=_
 rw[h]
theorem valFrom_app (hex:Bool):∀ (a:List UInt8) (n:Nat) (b:List UInt8),valFrom hex n (a++b)=(valFrom hex n a).bind fun v=>valFrom hex v b
 | [],n,b=>rfl
 |c :: a,n,b=>by
  cases hd:digVal hex c with
  |none=>rw[List.cons_append,valFrom_none hex n c _ hd,valFrom_none hex n c _ hd];rfl
  |some d=>rw[List.cons_append,valFrom_some hex n d c _ hd,valFrom_some hex n d c _ hd];exact valFrom_app hex a _ b
theorem valFrom_ge (hex:Bool):∀ (l:List UInt8) (n v:Nat),valFrom hex n l=some v→n≤v
 | [],n,v,h=>by cases h;exact Nat.le_refl _
 |c :: l,n,v,h=>by
  cases hd:digVal hex c with
  |none=>rw[valFrom_none hex n c l hd] at h;cases h
  |some d=>
   rw[valFrom_some hex n d c l hd] at h
   have:=valFrom_ge hex l _ _ h
   have hb:1≤baseN hex:=by unfold baseN;split <;> decide
   have:n≤n * baseN hex:=Nat.le_mul_of_pos_right n hb
   omega
theorem digVal_lt (hex:Bool)(c:UInt8)(d:Nat)(h:digVal hex c=some d):d<baseN hex:=by
 have hc:=c.toNat_lt
 unfold digVal at h
 cases hex <;> simp[baseN] at h ⊢
 ·omega
 ·split at h
  ·simp at h;omega
  ·split at h
   ·simp at h;omega
   ·split at h
    ·simp at h;omega
    ·cases h
theorem val_snoc (hex:Bool)(l:List UInt8)(j:Nat)(v d:Nat)(c:UInt8)(hj:l[j]? = some c)(hv:valFrom hex 0 (l.take j)=some v)(hd:digVal hex c=some d):
  valFrom hex 0 (l.take (j+1))=some (v * baseN hex+d):=by
 obtain⟨h1,h2⟩:=List.getElem?_eq_some_iff.1 hj
 rw[List.take_succ_eq_append_getElem h1,h2,valFrom_app,hv]
 show valFrom hex v [c]=_
 rw[valFrom_some hex v d c [] hd];rfl
theorem val_bad (hex:Bool)(l:List UInt8)(j:Nat)(v:Nat)(c:UInt8)(hj:l[j]? = some c)(hv:valFrom hex 0 (l.take j)=some v)(hd:digVal hex c=none):
  valFrom hex 0 l=none:=by
 obtain⟨h1,h2⟩:=List.getElem?_eq_some_iff.1 hj
 have e:l=l.take j++c :: l.drop (j+1):=by rw[←h2,←List.drop_eq_getElem_cons h1,List.take_append_drop]
 rw[e,valFrom_app,hv]
 exact valFrom_none hex v c _ hd
theorem numP_zero (l:List UInt8)(h:isHex l=false)(hz:badZero l=true):numP l=(0,4):=by simp[numP,h,hz]
theorem numP_empty (l:List UInt8)(h:digitsOf l=[]):numP l=(0,4):=by
 unfold numP
 simp[h]
theorem numP_bad (l:List UInt8)(h:valFrom (isHex l) 0 (digitsOf l)=none):numP l=(0,4):=by
 unfold numP;split
 ·rfl
 ·split
  ·rfl
  ·rw[h]
theorem numP_ok (l:List UInt8)(v:Nat)(h:valFrom (isHex l) 0 (digitsOf l)=some v)(hz:isHex l=true∨badZero l=false)(he:digitsOf l≠[]):numP l=if v<18446744073709551616 then (v,0) else (0,6):=by
 unfold numP
 rw[if_neg (by rcases hz with hz|hz <;> simp[hz]),if_neg he,h]
theorem isHex_iff (l:List UInt8):isHex l=(decide (2≤l.length)&&l[0]? == some 48&&l[1]? == some 120):=by
 match l with
 | []=>rfl
 | [a]=>simp[isHex]
 |a :: b :: m=>
  by_cases ha:a=48
  ·by_cases hb:b=120
   ·subst ha hb;simp[isHex]
   ·subst ha;simp[isHex,hb]
  ·simp[isHex,ha]
theorem badZero_iff (l:List UInt8):badZero l=(decide (2≤l.length)&&l[0]? == some 48):=by
 match l with
 | []=>rfl
 | [a]=>simp[badZero]
 |a :: b :: m=>
  by_cases ha:a=48
  ·subst ha;simp[badZero]
  ·simp[badZero,ha]
def blanksN (l:List UInt8):Nat:=(l.takeWhile isBlank).length
theorem lex_blanks:∀ (l:List UInt8) (p:Nat) (opn:Bool) (cnt:Nat),lex l p opn cnt=lex (l.drop (blanksN l)) (p+blanksN l) opn cnt
 | [],p,opn,cnt=>rfl
 |b :: m,p,opn,cnt=>by
  by_cases h:isBlank b=true
  ·have e:blanksN (b :: m)=blanksN m+1:=by simp[blanksN,List.takeWhile_cons,h]
   rw[lex_blank b m p opn cnt h,lex_blanks m (p+1) opn cnt,e,show p+(blanksN m+1)=p+1+blanksN m by omega];rfl
  ·have e:blanksN (b :: m)=0:=by simp[blanksN,List.takeWhile_cons,h]
   rw[e];rfl
theorem blanks_le (l:List UInt8):blanksN l≤l.length:=by
 unfold blanksN;exact(List.takeWhile_sublist _).length_le
theorem line_le (l:List UInt8):lineLen l≤l.length:=by
 unfold lineLen;exact(List.takeWhile_sublist _).length_le
theorem drop_while_len {α:Type}(q:α→Bool):∀ l:List α,l.drop (l.takeWhile q).length=l.dropWhile q
 | []=>rfl
 |b :: m=>by
  by_cases h:q b=true
  ·simp[List.takeWhile_cons,List.dropWhile_cons,h,drop_while_len q m]
  ·simp[List.takeWhile_cons,List.dropWhile_cons,h]
theorem drop_blanks (l:List UInt8):l.drop (blanksN l)=l.dropWhile isBlank:=drop_while_len _ l
theorem head_not {α:Type}(q:α→Bool):∀ (l:List α) (b:α) (m:List α),l.dropWhile q=b :: m→q b=false
 | [],b,m,h=>by simp at h
 |c :: l,b,m,h=>by
  by_cases hc:q c=true
  ·rw[List.dropWhile_cons,if_pos hc] at h;exact head_not q l b m h
  ·rw[List.dropWhile_cons,if_neg hc] at h
   cases h;simpa using hc
def preR (ts:List Tok):LexR→LexR
 | .ok l => .ok (ts++l)
 | .error e => .error e
def opnOf (line:Nat)(ts:List Tok):Bool:=decide (line<ts.length)&&(match ts.getLast? with|some t=>closesP t|none=>false)
theorem preR_cons (ts:List Tok)(t:Tok)(r:LexR):preR ts (consR t r)=preR (ts++[t]) r:=by
 cases r <;> simp[preR,consR]
theorem preR_nil (r:LexR):preR [] r=r:=by cases r <;> rfl
theorem opn_none (ts:List Tok):opnOf ts.length ts=false:=by simp[opnOf]
theorem opn_last (ts:List Tok)(t:Tok)(line:Nat)(h:line≤ts.length):opnOf line (ts++[t])=closesP t:=by
 have:decide (line<(ts++[t]).length)=true:=by simp;omega
 unfold opnOf;rw[this];simp
def okTok (t:Tok):Prop:=(t.kind=1∨t.kind=2∨t.kind=3∨t.kind=4)∨(t.kind=5∧enders.contains t.text=false)
theorem one_ok (l:List UInt8)(p:Nat)(h:(oneP l p).2.2=0):okTok (oneP l p).1:=by
 unfold oneP at h ⊢
 split
 ·split
  ·exact .inl (.inl rfl)
  ·simp only[]
   left
   split
   ·exact .inr (.inr (.inl rfl))
   ·exact .inl rfl
 ·split
  ·exact .inl (.inr (.inl rfl))
  ·rename_i h1 h2
   simp only[h1,h2,if_false] at h
   split
   ·rename_i g hg
    by_cases hg5:g=[59]
    ·right;subst hg5;exact⟨rfl,show enders.contains [59]=false by decide⟩
    ·left;rw[if_neg hg5];exact .inr (.inr (.inr rfl))
   ·rename_i hg;rw[hg] at h;simp at h
theorem one_fits (l:List UInt8)(p:Nat):(oneP l p).2.1≤l.length:=by
 unfold oneP
 split
 ·split <;> exact runL_bd l
 ·split
  ·exact runL_bd l
  ·split
   ·rename_i g hg
    have:=List.find?_some hg
    rw[List.isPrefixOf_iff_prefix] at this
    exact this.length_le
   ·exact Nat.zero_le _
theorem index_line (l:List UInt8):(if Lib.indexByte l 10<0 then (l.length:Int) else Lib.indexByte l 10)=(lineLen l:Int):=by
 induction l with
 |nil=>rfl
 |cons b l ih=>
  unfold Lib.indexByte lineLen
  have hge:=Lib.indexByte_ge l 10
  by_cases h:b=10
  ·subst h;simp
  ·have hb:(b==10)=false:=by simpa using h
   have hl:((b :: l).takeWhile (· != 10)).length=(l.takeWhile (· != 10)).length+1:=by simp[List.takeWhile_cons,h]
   rw[hl,hb]
   have e:(l.takeWhile (· != 10)).length=lineLen l:=rfl
   rw[e]
   simp only[Bool.false_eq_true,if_false,List.length_cons]
   by_cases hn:Lib.indexByte l 10 = -1
   ·rw[hn] at ih ⊢
    simp at ih ⊢;omega
   ·have hn':(Lib.indexByte l 10 == -1)=false:=by simpa using hn
    rw[hn']
    simp only[Bool.false_eq_true,if_false]
    rw[if_neg (by omega)] at ih
    rw[if_neg (by omega)]
    omega
theorem consR_ok {t:Tok}{r:LexR}{ts:List Tok}(h:consR t r = .ok ts):∃ us,r = .ok us∧ts=t :: us:=by
 cases r with
 |error e=>cases h
 |ok l=>cases h;exact⟨l,rfl,rfl⟩
theorem lex_ind (P:List UInt8→Nat→Bool→Nat→List Tok→Prop)
  (nil0:∀ p cnt,P [] p false cnt [])
  (nil1:∀ p cnt,cnt<16384→P [] p true cnt [semiTok p])
  (nl0:∀ m p cnt ts,P m (p+1) false cnt ts→P (10 :: m) p false cnt ts)
  (nl1:∀ m p cnt ts,cnt<16384→P m (p+1) false (cnt+1) ts→P (10 :: m) p true cnt (semiTok p :: ts))
  (blank:∀ b m p opn cnt ts,isBlank b=true→P m (p+1) opn cnt ts→P (b :: m) p opn cnt ts)
  (remark:∀ l p opn cnt ts,isRemark l=true→P (l.drop (lineLen l)) (p+lineLen l) opn cnt ts→P l p opn cnt ts)
  (tok:∀ l p opn cnt ts,starts l=true→(oneP l p).2.2=0→cnt<16384→P (l.drop (oneP l p).2.1) (p+(oneP l p).2.1) (closesP (oneP l p).1) (cnt+1) ts→P l p opn cnt ((oneP l p).1 :: ts)):
  ∀ (n:Nat) (l:List UInt8) (p:Nat) (opn:Bool) (cnt:Nat) (ts:List Tok),l.length≤n→lex l p opn cnt = .ok ts→P l p opn cnt ts:=by
 intro n
 induction n with
 |zero=>
  intro l p opn cnt ts hl h
  have:l=[]:=List.length_eq_zero_iff.1 (by omega)
  subst this
  rw[lex_nil] at h
  cases opn
  ·cases h;exact nil0 p cnt
  ·simp only[if_true] at h
   split at h
   ·cases h
   ·cases h;exact nil1 p cnt (by omega)
 |succ n ih=>
  intro l p opn cnt ts hl h
  cases l with
  |nil=>
   rw[lex_nil] at h
   cases opn
   ·cases h;exact nil0 p cnt
   ·simp only[if_true] at h
    split at h
    ·cases h
    ·cases h;exact nil1 p cnt (by omega)
  |cons b m=>
   have hm:m.length≤n:=by simpa using hl
   by_cases hb:b=10
   ·subst hb
    rw[lex_line] at h
    cases opn
    ·exact nl0 m p cnt ts (ih m _ _ _ _ hm h)
    ·simp only[if_true] at h
     split at h
     ·cases h
     ·obtain⟨us,hu,rfl⟩:=consR_ok h
      exact nl1 m p cnt us (by omega) (ih m _ _ _ _ hm hu)
   ·cases hk:isBlank b
    ·cases hr:isRemark (b :: m)
     ·have hst:starts (b :: m)=true:=by simp[starts,hb,hk,hr]
      rw[lex_tok _ _ _ _ hst] at h
      split at h
      ·cases h
      ·rename_i he
       split at h
       ·cases h
       ·obtain⟨us,hu,rfl⟩:=consR_ok h
        have he':(oneP (b :: m) p).2.2=0:=by simpa using he
        have hp:=one_pos (b :: m) p (by simp) he'
        exact tok (b :: m) p opn cnt us hst he' (by omega) (ih _ _ _ _ _ (by rw[List.length_drop];simp at hl ⊢;omega) hu)
     ·rw[lex_remark _ _ _ _ hr] at h
      have hp:=lineLen_pos b m hb
      exact remark (b :: m) p opn cnt ts hr (ih _ _ _ _ _ (by rw[List.length_drop];simp at hl ⊢;omega) h)
    ·rw[lex_blank b m p opn cnt hk] at h
     exact blank b m p opn cnt ts hk (ih m _ _ _ _ hm h)
end Go.Proofs.YtcbkeecabcbogaaGreatDoor
