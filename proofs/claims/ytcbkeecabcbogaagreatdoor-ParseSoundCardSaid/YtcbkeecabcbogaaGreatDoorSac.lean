/- Heaps of an evaluator of closed calls: a tree of numbered bl -/
import Derived.Test.YtcbkeecabcbogaaGreatDoorSaa
import Derived.Calls
import Derived.Laws.World
import Derived.Laws.Slices
import Derived.RowKit3
import Derived.Below
import Derived.Deep.MidRow
set_option linter.unusedSimpArgs false
set_option linter.unusedVariables false
namespace Go.Proofs.YtcbkeecabcbogaaGreatDoor
section
namespace Ev
inductive Tree (α:Type) where
 |leaf
 |node (v:Option α) (l r:Tree α)
namespace Tree
variable {α:Type}
noncomputable def get (t:Tree α):Nat→Option α:=
 Tree.rec (motive:=fun _=>Nat→Option α) (fun _=>none)
  (fun v _ _ gl gr n=>Bool.rec (Bool.rec (gr (Nat.div (Nat.sub n 1) 2)) (gl (Nat.div n 2)) (Nat.beq (Nat.land n 1) 1)) v (Nat.beq n 0)) t
noncomputable def Qpw (x:Option α)(f:Nat):Tree α→Nat→Tree α:=
 Nat.rec (motive:=fun _=>Tree α→Nat→Tree α) (fun t _=>t)
  (fun _ ih t n=>Tree.rec (motive:=fun _=>Tree α)
   (Bool.rec (Bool.rec (node none leaf (ih leaf (Nat.div (Nat.sub n 1) 2))) (node none (ih leaf (Nat.div n 2)) leaf) (Nat.beq (Nat.land n 1) 1)) (node x leaf leaf) (Nat.beq n 0))
   (fun v l r _ _=>Bool.rec (Bool.rec (node v l (ih r (Nat.div (Nat.sub n 1) 2))) (node v (ih l (Nat.div n 2)) r) (Nat.beq (Nat.land n 1) 1)) (node x l r) (Nat.beq n 0)) t) f
noncomputable def set (t:Tree α)(n:Nat)(x:Option α):Tree α:=Qpw x (Nat.succ n) t n
theorem Qrh {β:Type}(n:Nat)(x y z:β):(Bool.rec (Bool.rec z y (Nat.beq (Nat.land n 1) 1)) x (Nat.beq n 0):β)=if n=0 then x else if n % 2=1 then y else z:=by
 have h1:Nat.land n 1=n % 2:=Nat.and_one_is_mod n;rw[h1];cases hb:Nat.beq n 0 with
 |true=>rw[if_pos (Nat.eq_of_beq_eq_true hb)]
 |false=>
  rw[if_neg (Nat.ne_of_beq_eq_false hb)];cases hc:Nat.beq (n % 2) 1 with
  |true=>rw[if_pos (Nat.eq_of_beq_eq_true hc)]
  |false=>rw[if_neg (Nat.ne_of_beq_eq_false hc)]
theorem Gq (v:Option α)(l r:Tree α)(n:Nat):(node v l r).get n=if n=0 then v else if n % 2=1 then l.get (n / 2) else r.get ((n-1) / 2):=by
 show (Bool.rec (Bool.rec (r.get (Nat.div (Nat.sub n 1) 2)) (l.get (Nat.div n 2)) (Nat.beq (Nat.land n 1) 1)) v (Nat.beq n 0):Option α)=_
 rw[Qrh];rfl
theorem Qrg (x:Option α)(f n:Nat):Qpw x (f+1) leaf n=if n=0 then node x leaf leaf else if n % 2=1 then node none (Qpw x f leaf (n / 2)) leaf else node none leaf (Qpw x f leaf ((n-1) / 2)):=by
 show (Bool.rec (Bool.rec (node none leaf (Qpw x f leaf (Nat.div (Nat.sub n 1) 2))) (node none (Qpw x f leaf (Nat.div n 2)) leaf) (Nat.beq (Nat.land n 1) 1)) (node x leaf leaf) (Nat.beq n 0):Tree α)=_
 rw[Qrh];rfl
theorem Qrf (x:Option α)(f:Nat)(v:Option α)(l r:Tree α)(n:Nat):Qpw x (f+1) (node v l r) n=if n=0 then node x l r else if n % 2=1 then node v (Qpw x f l (n / 2)) r else node v l (Qpw x f r ((n-1) / 2)):=by
 show (Bool.rec (Bool.rec (node v l (Qpw x f r (Nat.div (Nat.sub n 1) 2))) (node v (Qpw x f l (Nat.div n 2)) r) (Nat.beq (Nat.land n 1) 1)) (node x l r) (Nat.beq n 0):Tree α)=_
 rw[Qrh];rfl
theorem Qhd (x:Option α):∀ (f:Nat) (t:Tree α) (n k:Nat),n<f→(Qpw x f t n).get k=if k=n then x else t.get k
 |0,_,_,_,h=>absurd h (Nat.not_lt_zero _)
 |f+1,leaf,n,k,h=>by
  have ih:=fun n k h=>Qhd x f leaf n k h
  rw[Qrg];by_cases h0:n=0
  ·rw[if_pos h0,Gq,h0];by_cases k0:k=0
   ·rw[if_pos k0,if_pos k0]
   ·rw[if_neg k0,if_neg k0];split <;> rfl
  ·rw[if_neg h0];by_cases hn:n % 2=1
   ·rw[if_pos hn,Gq];by_cases k0:k=0
    ·rw[if_pos k0,if_neg Dw];rfl
    ·rw[if_neg k0];by_cases hk:k % 2=1
     ·rw[if_pos hk,ih _ _ Dw];by_cases e:k / 2=n / 2
      ·rw[if_pos e,if_pos Dw]
      ·rw[if_neg e,if_neg (by rintro rfl;exact e rfl)];rfl
     ·rw[if_neg hk,if_neg (by rintro rfl;exact hk hn)];rfl
   ·rw[if_neg hn,Gq];by_cases k0:k=0
    ·rw[if_pos k0,if_neg Dw];rfl
    ·rw[if_neg k0];by_cases hk:k % 2=1
     ·rw[if_pos hk,if_neg (by rintro rfl;exact hn hk)];rfl
     ·rw[if_neg hk,ih _ _ Dw];by_cases e:(k-1) / 2=(n-1) / 2
      ·rw[if_pos e,if_pos Dw]
      ·rw[if_neg e,if_neg (by rintro rfl;exact e rfl)];rfl
 |f+1,node v l r,n,k,h=>by
  have ih:=fun t n k h=>Qhd x f t n k h
  rw[Qrf];by_cases h0:n=0
  ·rw[if_pos h0,Gq,Gq,h0];by_cases k0:k=0
   ·rw[if_pos k0,if_pos k0]
   ·rw[if_neg k0,if_neg k0,if_neg k0]
  ·rw[if_neg h0];by_cases hn:n % 2=1
   ·rw[if_pos hn,Gq,Gq];by_cases k0:k=0
    ·rw[if_pos k0,if_pos k0,if_neg Dw]
    ·rw[if_neg k0,if_neg k0];by_cases hk:k % 2=1
     ·rw[if_pos hk,if_pos hk,ih _ _ _ Dw];by_cases e:k / 2=n / 2
      ·rw[if_pos e,if_pos Dw]
      ·rw[if_neg e,if_neg (by rintro rfl;exact e rfl)]
     ·rw[if_neg hk,if_neg hk,if_neg (by rintro rfl;exact hk hn)]
   ·rw[if_neg hn,Gq,Gq];by_cases k0:k=0
    ·rw[if_pos k0,if_pos k0,if_neg Dw]
    ·rw[if_neg k0,if_neg k0];by_cases hk:k % 2=1
     ·rw[if_pos hk,if_pos hk,if_neg (by rintro rfl;exact hn hk)]
     ·rw[if_neg hk,if_neg hk,ih _ _ _ Dw];by_cases e:(k-1) / 2=(n-1) / 2
      ·rw[if_pos e,if_pos Dw]
      ·rw[if_neg e,if_neg (by rintro rfl;exact e rfl)]
theorem Qu (t:Tree α)(n k:Nat)(x:Option α):(t.set n x).get k=if k=n then x else t.get k:=Qhd x (n+1) t n k Dw
end Tree
structure Log where
 t:Nat
 w:Nat
def Log.no:Log:=⟨0,0⟩
def Log.and (a b:Log):Log:=⟨a.t ||| b.t,a.w ||| b.w⟩
inductive Res (α β:Type) where
 |no
 |ok (x:β) (h:Tree α) (c:Nat) (l:Log)
abbrev M (α β:Type):=Tree α→Nat→Res α β
namespace M
variable {α β γ:Type}
def pure (x:β):M α β:=fun h c => .ok x h c .no
noncomputable def bind (m:M α β)(f:β→M α γ):M α γ:=fun h c=>
 Res.rec (motive:=fun _=>Res α γ) .no (fun x h' c' l=>Res.rec (motive:=fun _=>Res α γ) .no (fun y h'' c'' l' => .ok y h'' c'' (l.and l')) (f x h' c')) (m h c)
theorem Qey (m:M α β)(f:β→M α γ)(h:Tree α)(c:Nat):M.bind m f h c=match m h c with
  | .no => .no
  | .ok x h' c' l=>match f x h' c' with
   | .no => .no
   | .ok y h'' c'' l' => .ok y h'' c'' (l.and l'):=by
 unfold bind;cases m h c with
 |no=>rfl
 |ok x h' c' l=>
  dsimp only;cases f x h' c' <;> rfl
def fail:M α β:=fun _ _ => .no
noncomputable def read (b:Nat):M α α:=fun h c=>match h.get b with
 |none => .no
 |some x => .ok x h c ⟨2 ^ b,0⟩
noncomputable def write (b:Nat)(x:Option α):M α Unit:=fun h c=>match h.get b with
 |none => .no
 |some _ => .ok () (h.set b x) c ⟨2 ^ b,2 ^ b⟩
noncomputable def new (x:α):M α Nat:=fun h c => .ok c (h.set c (some x)) (c+1) ⟨2 ^ c,2 ^ c⟩
def Rng (h:Tree α)(c c':Nat):Prop:=∀ b,c≤b→b<c'→h.get b=none
structure Shown (m:M α β)(h:Tree α)(c:Nat)(x:β)(h':Tree α)(c':Nat)(l:Log):Prop where
 sub:∀ b,l.w.testBit b=true→l.t.testBit b=true
 out:∀ b,l.w.testBit b=false→h'.get b=h.get b
 fresh:∀ b,c≤b→b<c'→l.w.testBit b=true
 free:∀ b,(b<c∨c'≤b)→h.get b=none→h'.get b=none
 old:∀ b,(b<c∨c'≤b)→l.t.testBit b=true→h.get b≠none
 move:∀ g,Rng g c c'→(∀ b,(b<c∨c'≤b)→l.t.testBit b=true→g.get b=h.get b)→∃ g',m g c=.ok x g' c' l∧(∀ b,l.w.testBit b=true→g'.get b=h'.get b)∧(∀ b,l.w.testBit b=false→g'.get b=g.get b)
def Local (m:M α β):Prop:=∀ h c x h' c' l,m h c=.ok x h' c' l→c≤c'∧(Rng h c c'→Shown m h c x h' c' l)
theorem Qtg (a b:Log)(i:Nat):(a.and b).t.testBit i=(a.t.testBit i||b.t.testBit i):=Nat.testBit_or _ _ _
theorem Qtf (a b:Log)(i:Nat):(a.and b).w.testBit i=(a.w.testBit i||b.w.testBit i):=Nat.testBit_or _ _ _
theorem Qc1 (b:Nat):(2 ^ b).testBit b=true:=Nat.testBit_two_pow_self
theorem Qf5 {b i:Nat}(h:(2 ^ b).testBit i=true):b=i:=by
 rw[Nat.testBit_two_pow] at h;simpa using h
theorem Qne {b i:Nat}(h:(2 ^ b).testBit i=false):i≠b:=by
 rintro rfl;rw[Qc1] at h;cases h
theorem Qi (x:β):Local (M.pure x:M α β):=by
 intro h c y h' c' l e;cases e;exact⟨Nat.le_refl _,fun _=>⟨by simp[Log.no],fun _ _=>rfl,fun b h1 h2=>by omega,fun _ _ h=>h,by simp[Log.no],fun g _ _=>⟨g,rfl,by simp[Log.no],fun _ _=>rfl⟩⟩⟩
theorem Qe:Local (M.fail:M α β):=fun _ _ _ _ _ _ e=>by cases e
theorem Vd (b:Nat):Local (M.read b:M α α):=by
 intro h c y h' c' l e;unfold M.read at e;split at e
 ·cases e
 ·rename_i x hx;cases e;refine⟨Nat.le_refl _,fun _=>⟨by simp,fun _ _=>rfl,fun b h1 h2=>by omega,fun _ _ h=>h,fun i _ hi=>?_,fun g _ hg=>⟨g,?_,by simp,fun _ _=>rfl⟩⟩⟩
  ·rw[←Qf5 hi,hx];simp
  ·unfold M.read;rw[hg b Dw (Qc1 b),hx]
theorem Vb (b:Nat)(x:Option α):Local (M.write b x:M α Unit):=by
 intro h c y h' c' l e;unfold M.write at e;split at e
 ·cases e
 ·rename_i z hz;cases e;refine⟨Nat.le_refl _,fun _=>⟨fun i hi=>hi,fun i hi=>?_,fun b h1 h2=>by omega,fun i _ hi=>?_,fun i _ hi=>?_,fun g _ hg=>⟨g.set b x,?_,fun i hi=>?_,fun i hi=>?_⟩⟩⟩
  ·rw[Tree.Qu,if_neg (Qne hi)]
  ·rw[Tree.Qu];split
   ·rename_i e;rw[e,hz] at hi;cases hi
   ·exact hi
  ·rw[←Qf5 hi,hz];simp
  ·unfold M.write;rw[hg b Dw (Qc1 b),hz]
  ·rw[Tree.Qu,Tree.Qu,←Qf5 hi,if_pos rfl,if_pos rfl]
  ·rw[Tree.Qu,if_neg (Qne hi)]
theorem Vj (x:α):Local (M.new x:M α Nat):=by
 intro h c y h' c' l e;unfold M.new at e;cases e;refine⟨by omega,fun _=>⟨fun i hi=>hi,fun i hi=>?_,fun b h1 h2=>?_,fun i h1 h2=>?_,fun i h1 h2=>?_,fun g _ hg=>⟨g.set c (some x),rfl,fun i hi=>?_,fun i hi=>?_⟩⟩⟩
 ·rw[Tree.Qu,if_neg (Qne hi)]
 ·obtain rfl:b=c:=by omega
  exact Qc1 b
 ·rw[Tree.Qu,if_neg Dw];exact h2
 ·have:=Qf5 h2;omega
 ·rw[Tree.Qu,Tree.Qu,←Qf5 hi,if_pos rfl,if_pos rfl]
 ·rw[Tree.Qu,if_neg (Qne hi)]
theorem Rng.first {h:Tree α}{c c1 c2:Nat}(hr:Rng h c c2)(h12:c1≤c2):Rng h c c1:=fun b h1 h2=>hr b h1 Dw
theorem Shown.rest {m:M α β}{h h':Tree α}{c c1 c2:Nat}{x:β}{l:Log}(A:Shown m h c x h' c1 l)(hc:c≤c1)(hr:Rng h c c2):Rng h' c1 c2:=fun b h1 h2=>A.free b (.inr h1) (hr b Dw h2)
theorem Qh {m:M α β}{f:β→M α γ}(hm:Local m)(hf:∀ x,Local (f x)):Local (m.bind f):=by
 intro h c y h2 c2 l e;rw[M.Qey] at e;split at e
 ·cases e
 ·rename_i x h1 c1 l1 e1;split at e
  ·cases e
  ·rename_i y' h2' c2' l2 e2;cases e;obtain⟨hc1,A'⟩:=hm _ _ _ _ _ _ e1;obtain⟨hc2,B'⟩:=hf x _ _ _ _ _ _ e2;refine⟨by omega,fun hr=>?_⟩;have A:=A' (hr.first hc2);have hr1:=A.rest hc1 hr;have B:=B' hr1;refine⟨fun i hi=>?_,fun i hi=>?_,fun i h1' h2'=>?_,fun i hi hn=>?_,fun i hi ht hn=>?_,fun g hrg hg=>?_⟩
   ·rw[Qtf,Bool.or_eq_true] at hi;rw[Qtg,Bool.or_eq_true];exact hi.imp (A.sub i) (B.sub i)
   ·rw[Qtf,Bool.or_eq_false_iff] at hi;rw[B.out i hi.2,A.out i hi.1]
   ·rw[Qtf,Bool.or_eq_true];by_cases hc:i<c1
    ·exact .inl (A.fresh i h1' hc)
    ·exact .inr (B.fresh i Dw h2')
   ·exact B.free i Dw (A.free i Dw hn)
   ·rw[Qtg,Bool.or_eq_true] at ht;rcases ht with ht|ht
    ·exact A.old i Dw ht hn
    ·exact B.old i Dw ht (A.free i Dw hn)
   ·obtain⟨g1,e3,k1,k2⟩:=A.move g (hrg.first hc2) (fun i hi ht=>by
     by_cases hin:c1≤i∧i<c2
     ·rw[hrg i Dw hin.2,hr i Dw hin.2]
     ·exact hg i Dw (by rw[Qtg,ht];rfl))
    have hrg1:Rng g1 c1 c2:=fun i h1' h2'=>by
     cases hw:l1.w.testBit i with
     |true=>rw[k1 i hw];exact hr1 i h1' h2'
     |false=>rw[k2 i hw];exact hrg i Dw h2'
    obtain⟨g2,e4,k3,k4⟩:=B.move g1 hrg1 (fun i hc hi=>by
     cases hw:l1.w.testBit i with
     |true=>exact k1 i hw
     |false=>
      have hlt:i<c∨c2≤i:=by
       by_cases hin:c≤i∧i<c1
       ·rw[A.fresh i hin.1 hin.2] at hw;cases hw
       ·omega
      rw[k2 i hw,A.out i hw]
      exact hg i hlt (by rw[Qtg,hi,Bool.or_true]))
    refine⟨g2,?_,fun i hi=>?_,fun i hi=>?_⟩
    ·rw[M.Qey,e3];dsimp only;rw[e4]
    ·cases hw:l2.w.testBit i with
     |true=>exact k3 i hw
     |false=>
      rw[Qtf,hw,Bool.or_false] at hi;rw[k4 i hw,k1 i hi,B.out i hw]
    ·rw[Qtf,Bool.or_eq_false_iff] at hi;rw[k4 i hi.2,k2 i hi.1]
end M
end Ev
end
section
namespace Ev
structure V9 where
 blk:Nat
 off:Nat
 size:Nat
 esz:Nat
 val:Value
 foot:Nat→Option Obj
def noF:Nat→Option Obj:=fun _=>none
abbrev Xb:=Nat→Option V9
def Xb.le (p q:Xb):Prop:=∀ b x,p b=some x→q b=some x
theorem Xb.le_refl (p:Xb):p.le p:=fun _ _ h=>h
theorem Xb.le_trans {p q r:Xb}(h:p.le q)(k:q.le r):p.le r:=fun b x e=>k b x (h b x e)
def unk:Nat:=2 ^ 63
def unkE:Nat:=2 ^ 63+1
mutual
inductive VR (p:Xb):Value→Value→Prop where
 |bool (b:Bool):VR p (.bool b) (.bool b)
 |int (k:IntKind) (n:Int):VR p (.int k n) (.int k n)
 |tok {b:Nat} {s:V9}:p b=some s→s.val.oneCell'=true→VR p (.chan (some b)) s.val
 |string (s:ByteArray):VR p (.string s) (.string s)
 |nilPtr:VR p (.pointer none) (.pointer none)
 |ptr {b o:Nat} {s:V9}:p b=some s→VR p (.pointer (some ⟨b,o,none⟩)) (.pointer (some ⟨s.blk,s.off+o,none⟩))
 |nilSlice:VR p (.slice none 0 0) (.slice none 0 0)
 |slice {b o n c:Nat} {s:V9}:p b=some s→n≤c→c≤maxLen→VR p (.slice (some ⟨b,o,none⟩) n c) (.slice (some ⟨s.blk,s.off+o,none⟩) n c)
 |sliceU {b o n c:Nat} {s:V9}:p b=some s→n≤c→c≤maxLen→s.off+o+c*s.esz≤s.size→VR p (.slice (some ⟨b,o,none⟩) n unk) (.slice (some ⟨s.blk,s.off+o,none⟩) n c)
 |sliceE {b o O c:Nat} {s:V9}:p b=some s→c≤maxLen→O+c*s.esz≤s.size→VR p (.slice (some ⟨b,o,none⟩) 0 unkE) (.slice (some ⟨s.blk,O,none⟩) 0 c)
 |nilMap:VR p (.map none) (.map none)
 |map {b:Nat} {s:V9}:p b=some s→VR p (.map (some b)) (.map (some s.blk))
 |func (f:FuncId) {a b c d:Array Value}:VRs p a.toList b.toList→VRs p c.toList d.toList→VR p (.func (.func f) a c) (.func (.func f) b d)
 |nilFunc:VR p .nilFunc .nilFunc
 |iface (t:TypeId) {v w:Value}:VR p v w→VR p (.iface t v) (.iface t w)
 |nilIface:VR p .nilIface .nilIface
 |agg {a b:Array Value}:VRs p a.toList b.toList→VR p (.agg a) (.agg b)
 |tuple {a b:Array Value}:VRs p a.toList b.toList→VR p (.tuple a) (.tuple b)
inductive VRs (p:Xb):List Value→List Value→Prop where
 |nil:VRs p [] []
 |cons {v w:Value} {l m:List Value}:VR p v w→VRs p l m→VRs p (v::l) (w::m)
end
mutual
theorem VR.mono {p q:Xb}(hpq:p.le q):∀ {v w:Value},VR p v w→VR q v w
 |_,_,.bool b => .bool b
 |_,_,.int k n => .int k n
 |_,_,.tok h h1 => .tok (hpq _ _ h) h1
 |_,_,.string s => .string s
 |_,_,.nilPtr => .nilPtr
 |_,_,.ptr h => .ptr (hpq _ _ h)
 |_,_,.nilSlice => .nilSlice
 |_,_,.slice h h1 h2 => .slice (hpq _ _ h) h1 h2
 |_,_,.sliceU h h1 h2 h3 => .sliceU (hpq _ _ h) h1 h2 h3
 |_,_,.sliceE h h1 h2 => .sliceE (hpq _ _ h) h1 h2
 |_,_,.nilMap => .nilMap
 |_,_,.map h => .map (hpq _ _ h)
 |_,_,.func f h k => .func f (VRs.mono hpq h) (VRs.mono hpq k)
 |_,_,.nilFunc => .nilFunc
 |_,_,.iface t h => .iface t (VR.mono hpq h)
 |_,_,.nilIface => .nilIface
 |_,_,.agg h => .agg (VRs.mono hpq h)
 |_,_,.tuple h => .tuple (VRs.mono hpq h)
theorem VRs.mono {p q:Xb}(hpq:p.le q):∀ {l m:List Value},VRs p l m→VRs q l m
 |_,_,.nil => .nil
 |_,_,.cons h k => .cons (VR.mono hpq h) (VRs.mono hpq k)
end
theorem VRs.len {p:Xb}:∀ {l m:List Value},VRs p l m→l.length=m.length
 |_,_,.nil=>rfl
 |_,_,.cons _ h=>by simp[VRs.len h]
theorem VRs.get {p:Xb}:∀ {l m:List Value},VRs p l m→∀ (i:Nat) (v:Value),l[i]? = some v→∃ w,m[i]? = some w∧VR p v w
 |_,_,.nil,i,v,h=>by simp at h
 |_,_,.cons h k,0,v,e=>by simp at e;subst e;exact⟨_,by simp,h⟩
 |_,_,.cons h k,i+1,v,e=>by simpa using VRs.get k i v (by simpa using e)
theorem VRs.append {p:Xb}:∀ {l m l' m':List Value},VRs p l m→VRs p l' m'→VRs p (l++l') (m++m')
 |_,_,_,_,.nil,h=>h
 |_,_,_,_,.cons h k,h' => .cons h (VRs.append k h')
theorem VRs.take {p:Xb}:∀ {l m:List Value},VRs p l m→∀ n,VRs p (l.take n) (m.take n)
 |_,_,.nil,n=>by simpa using VRs.nil
 |_,_,.cons h k,0 => .nil
 |_,_,.cons h k,n+1 => .cons h (VRs.take k n)
theorem VRs.drop {p:Xb}:∀ {l m:List Value},VRs p l m→∀ n,VRs p (l.drop n) (m.drop n)
 |_,_,.nil,n=>by simpa using VRs.nil
 |_,_,.cons h k,0 => .cons h k
 |_,_,.cons h k,n+1=>VRs.drop k n
theorem VRs.set {p:Xb}:∀ {l m:List Value},VRs p l m→∀ (i:Nat) {v w:Value},VR p v w→VRs p (l.set i v) (m.set i w)
 |_,_,.nil,i,_,_,_ => .nil
 |_,_,.cons h k,0,_,_,hv => .cons hv k
 |_,_,.cons h k,i+1,_,_,hv => .cons h (VRs.set k i hv)
def Tt:Nat→Value→Bool
 |0,_=>false
 |n+1,v=>match v with
  | .bool _ | .int _ _ | .string _ | .pointer none | .slice none 0 0 | .map none | .nilFunc | .nilIface=>true
  | .iface _ v=>Tt n v
  | .agg cs=>cs.toList.all (Tt n)
  | .tuple cs=>cs.toList.all (Tt n)
  |_=>false
theorem VRs.Qr6 {p:Xb}{f:Value→Bool}(hf:∀ v,f v=true→VR p v v):∀ l:List Value,l.all f=true→VRs p l l
 | [],_ => .nil
 |v::l,h=>by
  simp only[List.all_cons,Bool.and_eq_true] at h;exact .cons (hf v h.1) (VRs.Qr6 hf l h.2)
theorem Gl {p:Xb}:∀ (n:Nat) (v:Value),Tt n v=true→VR p v v
 |0,_,h=>by cases h
 |n+1,v,h=>by
  have ih:=Gl (p:=p) n;unfold Tt at h;split at h
  ·exact .bool _
  ·exact .int _ _
  ·exact .string _
  ·exact .nilPtr
  ·exact .nilSlice
  ·exact .nilMap
  ·exact .nilFunc
  ·exact .nilIface
  ·exact .iface _ (ih _ h)
  ·exact .agg (VRs.Qr6 ih _ h)
  ·exact .tuple (VRs.Qr6 ih _ h)
  ·cases h
def eqB:List UInt8→List UInt8→Bool
 | [],[]=>true
 |a::l,b::m=>Nat.beq a.toNat b.toNat&&eqB l m
 |_,_=>false
theorem Qjf:∀ {l m:List UInt8},eqB l m=true→l=m
 | [],[],_=>rfl
 |a::l,b::m,h=>by
  unfold eqB at h;rw[Bool.and_eq_true] at h;rw[UInt8.toNat_inj.1 (Nat.eq_of_beq_eq_true h.1),Qjf h.2]
 | [],_::_,h=>by cases h
 |_::_,[],h=>by cases h
theorem Qm0:∀ l:List UInt8,eqB l l=true
 | []=>rfl
 |a::l=>by unfold eqB;rw[Qm0 l,Bool.and_true];exact Nat.beq_refl _
theorem Qsx (l m:List UInt8):eqB l m=(l==m):=by
 rw[Bool.eq_iff_iff];constructor
 ·intro h;rw[Qjf h];exact beq_self_eq_true m
 ·intro h;rw[eq_of_beq h];exact Qm0 m
end Ev
end
section
namespace Ev
open Go.RowKit
inductive Q4 where
 |row (cs:List Value) (t:TypeId) (sz:Nat)
 |map (es:List (Value×Value×Nat)) (clock:Nat)
 |siter (s:ByteArray) (pos:Nat)
 |abs (m:Nat)
 |fwd (c:Nat)
inductive CR where
 |ret (v:Value)
 |pan (v:Value)
inductive XE where
 |normal
 |exit (id:Nat)
 |ret
 |panic (v:Value) (ls:List Nat)
structure Loc where
 tm:Tree Value
 n:Nat
 ds:List (FuncId×List Value)
structure Cfg where
 n:Nat
 g:Nat
 eqs:List (Nat×Nat×Bool)
 eqc:List (Nat×Value×Bool)
 orc:FuncId→List Value→Option (M Q4 CR)
 loc:∀ f args m,orc f args=some m→M.Local m
 opx:Oper→(Operand→Option Value)→Option (M Q4 Value)
 opl:∀ o ρ m,opx o ρ=some m→M.Local m
 lop:Code→Loc→Option (M Q4 (XE×Loc))
 lol:∀ c s m,lop c s=some m→M.Local m
 opc:∀ (o:Oper) (ρ σ:Operand→Option Value),(∀ x∈o.op.operands.toList,ρ x=σ x)→opx o ρ=opx o σ
 ax:Xb→Prop
 axm:∀ p q:Xb,p.le q→ax p→ax q
 mean:Xb→Nat→V9→Prop
 mnm:∀ (p q:Xb) (m:Nat) (s:V9),p.le q→mean p m s→mean q m s
inductive Nc:Value→Value→Bool→Prop where
 |int (k:IntKind) (a b:Int):Nc (.int k a) (.int k b) (a==b)
 |str (a b:ByteArray):Nc (.string a) (.string b) (eqB a.data.toList b.data.toList)
structure Dis (K:Cfg)(p:Xb):Prop where
 eqs:∀ x∈K.eqs,∃ s t,p x.1=some s∧p x.2.1=some t∧Nc s.val t.val x.2.2
 eqc:∀ x∈K.eqc,∃ s,p x.1=some s∧Nc s.val x.2.1 x.2.2
 ax:K.ax p
theorem Dis.mono {K:Cfg}{p q:Xb}(hpq:p.le q)(h:Dis K p):Dis K q:=⟨fun x hx=>by
 obtain⟨s,t,h1,h2,h3⟩:=h.eqs x hx;exact⟨s,t,hpq _ _ h1,hpq _ _ h2,h3⟩,fun x hx=>by
 obtain⟨s,h1,h2⟩:=h.eqc x hx
 exact⟨s,hpq _ _ h1,h2⟩,K.axm _ _ hpq h.ax⟩
def MR (p:Xb)(e:Value×Value×Nat)(m:MapEntry):Prop:=VR p e.1 m.key∧VR p e.2.1 m.val∧e.2.2=m.born
def MRs (p:Xb):List (Value×Value×Nat)→List MapEntry→Prop
 | [],[]=>True
 |e::es,m::ms=>MR p e m∧MRs p es ms
 |_,_=>False
def ext (sz:Nat):Nat:=if sz=1 then 0 else 1
structure Nh (p:Xb)(w:World)(s:V9)(cs:List Value)(t:TypeId)(sz:Nat):Prop where
 esz:s.esz=sz
 at_:∃ (bs:Array Value) (fr:Nat×Nat),w.heap[s.blk]? = some (.cells bs t fr)∧bs.size=s.size∧s.off+cs.length≤bs.size∧VRs p cs ((bs.toList.drop s.off).take cs.length)∧(∀ j,j<bs.size+ext sz→(decide (fr.1≤j)&&decide (j<fr.2))=false)∧(sz≠1→fr=(0,0))
def Qbo (p:Xb)(w:World)(s:V9):Q4→Prop
 | .row cs t sz=>Nh p w s cs t sz
 | .map es clock=>s.off=0∧∃ ms:Array MapEntry,w.heap[s.blk]? = some (.map ms clock)∧MRs p es ms.toList
 | .siter str pos=>s.off=0∧w.heap[s.blk]? = some (.stringIter str pos)
 | .abs _=>∀ k o,s.foot k=some o→w.heap[k]? = some o
 | .fwd c=>∃ s',p c=some s'∧s.val=s'.val
def Occ:Q4→V9→Nat→Prop
 | .abs _,s,k=>s.foot k≠none
 | .fwd _,_,_=>False
 |_,s,k=>k=s.blk
structure Keep (O:Nat→Prop)(w w':World):Prop where
 os:w'.os=w.os
 tape:w'.tape=w.tape
 output:w'.output=w.output
 size:w.heap.size≤w'.heap.size
 block:∀ k,k<w.heap.size→¬ O k→w'.heap[k]? = w.heap[k]?
theorem Keep.refl (O:Nat→Prop)(w:World):Keep O w w:=⟨rfl,rfl,rfl,Nat.le_refl _,fun _ _ _=>rfl⟩
theorem Keep.step {O:Nat→Prop}{w0 w w':World}(h:Keep O w0 w)(h1:w'.os=w.os)(h2:w'.tape=w.tape)(h3:w'.output=w.output)(h4:w.heap.size≤w'.heap.size)(h5:∀ k,k<w.heap.size→¬ (O k∨w0.heap.size≤k)→w'.heap[k]? = w.heap[k]?):Keep O w0 w':=
 ⟨h1.trans h.os,h2.trans h.tape,h3.trans h.output,Nat.le_trans h.size h4,fun k hk hO=>(h5 k (Nat.lt_of_lt_of_le hk h.size) (fun hh=>hh.elim hO (fun hle=>absurd hk (Nat.not_lt.2 hle)))).trans (h.block k hk hO)⟩
theorem Keep.below {O:Nat→Prop}{w0 w w':World}(h:Keep O w0 w)(hb:Below w.heap.size w w'):Keep O w0 w':=h.step hb.os hb.tape hb.output hb.size fun k hk _=>hb.block k hk
structure Rel (K:Cfg)(base:Nat→Prop)(w0:World)(p:Xb)(h:Tree Q4)(w:World):Prop where
 below:Keep base w0 w
 glob:∀ b,b<K.g→∃ s,p b=some s∧s.blk=b∧s.off=0
 dis:Dis K p
 at_:∀ b o,h.get b=some o→∃ s,p b=some s∧(K.n≤b→∀ k,Occ o s k→base k∨w0.heap.size≤k)∧(∀ k,Occ o s k→k<w.heap.size)∧Qbo p w s o
 one:∀ b b' o o' s s' k,h.get b=some o→h.get b'=some o'→p b=some s→p b'=some s'→Occ o s k→Occ o' s' k→b=b'
 mean:∀ b m s,h.get b=some (.abs m)→p b=some s→K.mean p m s
theorem MRs.mono {p q:Xb}(hpq:p.le q):∀ {es:List (Value×Value×Nat)} {ms:List MapEntry},MRs p es ms→MRs q es ms
 | [],[],_=>trivial
 |_::_,_::_,⟨⟨h1,h2,h3⟩,h4⟩=>⟨⟨h1.mono hpq,h2.mono hpq,h3⟩,MRs.mono hpq h4⟩
 | [],_::_,h=>h.elim
 |_::_,[],h=>h.elim
theorem Qbo.mono {p q:Xb}(hpq:p.le q){w w':World}{s:V9}{o:Q4}(hw:∀ k,Occ o s k→w'.heap[k]? = w.heap[k]?)(h:Qbo p w s o):Qbo q w' s o:=by
 cases o with
 |fwd c=>exact Exists.imp (fun s' hs=>⟨hpq _ _ hs.1,hs.2⟩) h
 |abs m=>exact fun k o' hk=>(hw k (by show s.foot k≠none;rw[hk];simp)).trans (h k o' hk)
 |row cs t sz=>
  obtain⟨bs,fr,h1,h2,h3,h4,h5⟩:=h.at_;exact⟨h.esz,bs,fr,(hw _ rfl).trans h1,h2,h3,h4.mono hpq,h5⟩
 |map es clock=>
  obtain⟨h0,ms,h1,h2⟩:=h;exact⟨h0,ms,(hw _ rfl).trans h1,h2.mono hpq⟩
 |siter str pos=>
  obtain⟨h0,h1⟩:=h;exact⟨h0,(hw _ rfl).trans h1⟩
theorem Nh.cell {p:Xb}{w:World}{s:V9}{cs:List Value}{t:TypeId}{sz:Nat}(h:Nh p w s cs t sz){i:Nat}{v:Value}(hv:cs[i]? = some v):∃ v',w.cell? ⟨s.blk,s.off+i,none⟩=some v'∧VR p v v'∧w.frozen? ⟨s.blk,s.off+i,none⟩=false:=by
 obtain⟨bs,fr,h1,h2,h3,h4,hfr⟩:=h.at_;have hi:=(List.getElem?_eq_some_iff.1 hv).1;obtain⟨v',h5,h6⟩:=h4.get i v hv;rw[List.getElem?_take,if_pos hi,List.getElem?_drop] at h5;refine⟨v',?_,h6,?_⟩
 ·unfold World.cell?
  rw[h1];simpa using h5
 ·unfold World.frozen?
  rw[h1];exact hfr.1 (s.off+i) Dw
theorem Nh.set {p:Xb}{w:World}{s:V9}{cs:List Value}{t:TypeId}{sz:Nat}(h:Nh p w s cs t sz){i:Nat}(hi:i<cs.length){v v':Value}(hv:VR p v v'):Nh p (w.setCell ⟨s.blk,s.off+i,none⟩ v') s (cs.set i v) t sz:=by
 obtain⟨bs,fr,h1,h2,h3,h4,hfr⟩:=h.at_;refine⟨h.esz,bs.setIfInBounds (s.off+i) v',fr,?_,by simpa using h2,by simpa using h3,?_,fun j hj=>hfr.1 j (by simpa using hj),hfr.2⟩
 ·simp only[World.setCell,Array.getElem?_modify,if_true,h1,Option.map_some];rfl
 ·have:=h4.set i hv;rw[List.length_set];have e:((bs.setIfInBounds (s.off+i) v').toList.drop s.off).take cs.length=((bs.toList.drop s.off).take cs.length).set i v':=by
   apply List.ext_getElem?
   intro k;rw[Array.toList_setIfInBounds];by_cases hk:k<cs.length
   ·rw[List.getElem?_take,if_pos hk,List.getElem?_drop,List.getElem?_set,List.getElem?_set,List.getElem?_take,if_pos hk,List.getElem?_drop];by_cases e:i=k
    ·subst e;rw[if_pos rfl,if_pos rfl];have e1:s.off+i<bs.toList.length:=by simp;omega
     have e2:i<((bs.toList.drop s.off).take cs.length).length:=by simp;omega
     rw[if_pos e1,if_pos e2]
    ·rw[if_neg Dw,if_neg e]
   ·rw[List.getElem?_eq_none (by simp;omega),List.getElem?_eq_none (by simp;omega)]
  rw[e];exact this
theorem heap_setCell_other (w:World)(a:Addr)(u:Value)(k:Nat)(h:k≠a.block):(w.setCell a u).heap[k]? = w.heap[k]? := Below.heap_setCell w a u k h
section
variable {K:Cfg} {base:Nat→Prop} {w0 w:World} {p:Xb} {h:Tree Q4}
theorem Rel.load (hr:Rel K base w0 p h w){b i:Nat}{cs:List Value}{t:TypeId}{sz:Nat}{v:Value}(hb:h.get b=some (.row cs t sz))(hv:cs[i]? = some v){s:V9}(hs:p b=some s):
  ∃ v',w.cell? ⟨s.blk,s.off+i,none⟩=some v'∧VR p v v'∧w.frozen? ⟨s.blk,s.off+i,none⟩=false:=by
 obtain⟨s',h1,-,-,h2⟩:=hr.at_ b _ hb;obtain rfl:s'=s:=Option.some.inj (h1.symm.trans hs);exact Nh.cell h2 hv
theorem Rel.turn (hr:Rel K base w0 p h w){b:Nat}{o o':Q4}{s:V9}{w':World}(hb:h.get b=some o)(hs:p b=some s)(hK:K.n≤b)(hocc:∀ k,Occ o' s k→Occ o s k)(hm:∀ m,o'=.abs m→K.mean p m s)
  (h1:w'.os=w.os) (h2:w'.tape=w.tape) (h3:w'.output=w.output) (h4:w.heap.size≤w'.heap.size) (hk:∀ k,k<w.heap.size→¬ Occ o s k→w'.heap[k]? = w.heap[k]?) (ho:Qbo p w' s o'):Rel K base w0 p (h.set b (some o')) w':=by
 obtain⟨s',q1,hB,hlt,-⟩:=hr.at_ b _ hb;obtain rfl:s'=s:=Option.some.inj (q1.symm.trans hs);have key:∀ x ox,(h.set b (some o')).get x=some ox→(x=b∧ox=o')∨(x≠b∧h.get x=some ox):=fun x ox hx=>by
  rw[Tree.Qu] at hx;by_cases e:x=b
  ·rw[if_pos e] at hx;cases hx;exact .inl ⟨e,rfl⟩
  ·rw[if_neg e] at hx;exact .inr ⟨e,hx⟩
 have occ:∀ x ox sx k,(h.set b (some o')).get x=some ox→p x=some sx→Occ ox sx k→∃ oy,h.get x=some oy∧Occ oy sx k:=fun x ox sx k hx hp hO=>by
  rcases key x ox hx with ⟨rfl,rfl⟩|⟨-,e⟩
  ·obtain rfl:s'=sx:=Option.some.inj (hs.symm.trans hp);exact⟨o,hb,hocc k hO⟩
  ·exact⟨ox,e,hO⟩
 refine⟨hr.below.step h1 h2 h3 h4 (fun k hk1 hk2=>hk k hk1 fun hO=>hk2 (hB hK k hO)),hr.glob,hr.dis,fun x ox hx=>?_,fun x y ox oy sx sy k kx ky ex ey hx hy=>?_,fun x m sx hx hp=>?_⟩
 ·rcases key x ox hx with ⟨rfl,rfl⟩|⟨e,hx'⟩
  ·exact⟨s',hs,fun _ k hO=>hB hK k (hocc k hO),fun k hO=>Nat.lt_of_lt_of_le (hlt k (hocc k hO)) h4,ho⟩
  ·obtain⟨sx,k1,k2,k3,k4⟩:=hr.at_ x ox hx';exact⟨sx,k1,k2,fun k hO=>Nat.lt_of_lt_of_le (k3 k hO) h4,k4.mono (Xb.le_refl _) fun k hO=>hk k (k3 k hO) fun hO2=>e (hr.one _ _ _ _ _ _ _ hx' hb k1 hs hO hO2)⟩
 ·obtain⟨o1,q1,q2⟩:=occ x ox sx k kx ex hx;obtain⟨o2,q3,q4⟩:=occ y oy sy k ky ey hy;exact hr.one _ _ _ _ _ _ _ q1 q3 ex ey q2 q4
 ·rcases key x _ hx with ⟨rfl,e⟩|⟨-,e⟩
  ·obtain rfl:s'=sx:=Option.some.inj (hs.symm.trans hp);exact hm m e.symm
  ·exact hr.mean _ _ _ e hp
theorem Rel.store (hr:Rel K base w0 p h w){b i:Nat}{cs:List Value}{t:TypeId}{sz:Nat}{v v':Value}(hb:h.get b=some (.row cs t sz))(hK:K.n≤b)(hi:i<cs.length){s:V9}(hs:p b=some s)(hv:VR p v v'):
  Rel K base w0 p (h.set b (some (.row (cs.set i v) t sz))) (w.setCell ⟨s.blk,s.off+i,none⟩ v'):=by
 obtain⟨s',h1,-,-,h2⟩:=hr.at_ b _ hb;obtain rfl:s'=s:=Option.some.inj (h1.symm.trans hs);exact hr.turn hb hs hK (fun _ h=>h) (fun _ e=>by cases e) rfl rfl rfl Ds (fun k _ hk=>heap_setCell_other _ _ _ _ hk) (Nh.set h2 hi hv)
def Xb.add (p:Xb)(c:Nat)(s:V9):Xb:=fun b=>if b=c then some s else p b
theorem Xb.U4 {p:Xb}{c:Nat}{s:V9}(h:p c=none):p.le (p.add c s):=fun b x e=>by
 unfold Xb.add;split
 ·rename_i hb;subst hb;rw[h] at e;cases e
 ·exact e
theorem Xb.Vy (p:Xb)(c:Nat)(s:V9):p.add c s c=some s:=by unfold Xb.add;rw[if_pos rfl]
theorem heap_alloc_new' (w:World)(o:Obj):(w.alloc o).heap[w.heap.size]? = some o:=by
 show (w.heap.push o)[w.heap.size]? = _
 rw[Array.getElem?_push_size]
theorem Rel.quiet {w':World}(hr:Rel K base w0 p h w)(hb:Below w.heap.size w w'):Rel K base w0 p h w':=
 ⟨hr.below.below hb,hr.glob,hr.dis,fun b o hb'=>by
  obtain⟨s,k1,k2,k3,k4⟩:=hr.at_ b o hb'
  exact⟨s,k1,k2,fun k hO=>Nat.lt_of_lt_of_le (k3 k hO) hb.size,k4.mono (Xb.le_refl _) fun k hO=>hb.block k (k3 k hO)⟩,hr.one,hr.mean⟩
theorem Rel.take (hr:Rel K base w0 p h w){c:Nat}(hp:p c=none){s:V9}{o:Q4}(hfree:∀ k,Occ o s k→∀ b o' s',h.get b=some o'→p b=some s'→¬ Occ o' s' k)(hB:K.n≤c→∀ k,Occ o s k→base k∨w0.heap.size≤k)(hlt:∀ k,Occ o s k→k<w.heap.size)(ho:Qbo (p.add c s) w s o)(hm:∀ m,o=.abs m→K.mean (p.add c s) m s):
  Rel K base w0 (p.add c s) (h.set c (some o)) w:=by
 have hle:=Xb.U4 (s:=s) hp;have key:∀ x ox sx,(h.set c (some o)).get x=some ox→p.add c s x=some sx→(x=c∧ox=o∧sx=s)∨(x≠c∧h.get x=some ox∧p x=some sx):=fun x ox sx hx hpx=>by
  rw[Tree.Qu] at hx;unfold Xb.add at hpx;by_cases e:x=c
  ·rw[if_pos e] at hx hpx;cases hx;cases hpx;exact .inl ⟨e,rfl,rfl⟩
  ·rw[if_neg e] at hx hpx;exact .inr ⟨e,hx,hpx⟩
 refine⟨hr.below,fun b hb=>(hr.glob b hb).imp fun s3 hs3=>⟨hle _ _ hs3.1,hs3.2⟩,hr.dis.mono hle,fun x ox hx=>?_,fun x y ox oy sx sy k kx ky ex ey hx hy=>?_,fun x m sx hx hpx=>?_⟩
 ·rw[Tree.Qu] at hx;by_cases e:x=c
  ·subst e;rw[if_pos rfl] at hx;cases hx;exact⟨s,Xb.Vy _ _ _,hB,hlt,ho⟩
  ·rw[if_neg e] at hx;obtain⟨s2,k1,k2,k3,k4⟩:=hr.at_ x ox hx;exact⟨s2,hle _ _ k1,k2,k3,k4.mono hle fun _ _=>rfl⟩
 ·rcases key _ _ _ kx ex with ⟨rfl,rfl,rfl⟩|⟨-,a1,a2⟩
  ·rcases key _ _ _ ky ey with ⟨rfl,-,-⟩|⟨-,b1,b2⟩
   ·rfl
   ·exact absurd hy (hfree k hx _ _ _ b1 b2)
  ·rcases key _ _ _ ky ey with ⟨rfl,rfl,rfl⟩|⟨-,b1,b2⟩
   ·exact absurd hx (hfree k hy _ _ _ a1 a2)
   ·exact hr.one _ _ _ _ _ _ _ a1 b1 a2 b2 hx hy
 ·rcases key _ _ _ hx hpx with ⟨rfl,e,rfl⟩|⟨-,a1,a2⟩
  ·exact hm m e.symm
  ·exact K.mnm _ _ _ _ hle (hr.mean _ _ _ a1 a2)
theorem Rel.fresh (hr:Rel K base w0 p h w){k:Nat}(hk:w.heap.size≤k):∀ b o' s',h.get b=some o'→p b=some s'→¬ Occ o' s' k:=fun b o' s' hb hs hO=>by
 obtain⟨s,k1,-,k3,-⟩:=hr.at_ b o' hb;obtain rfl:s=s':=Option.some.inj (k1.symm.trans hs);exact absurd (k3 k hO) (Nat.not_lt.2 hk)
theorem Rel.found {w':World}{c:Nat}(hr:Rel K base w0 p h w)(hb:Below w.heap.size w w')(hp:p c=none){s:V9}(hs1:w.heap.size≤s.blk)(hs2:s.blk<w'.heap.size)(o:Q4)(ho:Qbo (p.add c s) w' s o)(hocc:∀ k,Occ o s k→k=s.blk:=by exact fun _ h=>h)(hm:∀ m,o=.abs m→K.mean (p.add c s) m s:=by intro _ e;cases e):
  Rel K base w0 (p.add c s) (h.set c (some o)) w':=by
 refine(hr.quiet hb).take hp (fun k hk=>?_) (fun _ k hk => .inr ?_) (fun k hk=>?_) ho hm
 ·rw[hocc k hk];exact hr.fresh hs1
 ·rw[hocc k hk];exact Nat.le_trans hr.below.size hs1
 ·rw[hocc k hk];exact hs2
theorem Rel.new (hr:Rel K base w0 p h w){c:Nat}(hp:p c=none)(o:Q4)(ob:Obj)(s:V9)(hs:s.blk=w.heap.size)
  (ho:Qbo (p.add c s) (w.alloc ob) s o) (hocc:∀ k,Occ o s k→k=s.blk:=by exact fun _ h=>h) (hm:∀ m,o=.abs m→K.mean (p.add c s) m s:=by intro _ e;cases e):Rel K base w0 (p.add c s) (h.set c (some o)) (w.alloc ob):=
 hr.found ((Below.refl _ _).alloc (Nat.le_refl _) ob) hp (by rw[hs];exact Nat.le_refl _) (by rw[hs];simp) o ho hocc hm
theorem Rel.congr (hr:Rel K base w0 p h w){h':Tree Q4}(hh:∀ b,h'.get b=h.get b):Rel K base w0 p h' w:=
 ⟨hr.below,hr.glob,hr.dis,fun b o hb=>hr.at_ b o (hh b ▸ hb),fun b b' o o' s s' k h1 h2=>hr.one b b' o o' s s' k (hh b ▸ h1) (hh b' ▸ h2),fun b m s h1=>hr.mean b m s (hh b ▸ h1)⟩
theorem Rel.drew (hr:Rel K base w0 p h w):Rel K base w0 p h w.drew:=
 ⟨hr.below.below (Below.refl _ _).drew,hr.glob,hr.dis,fun b o hb=>(hr.at_ b o hb).imp fun s hs=>⟨hs.1,hs.2.1,hs.2.2.1,Qbo.mono (w:=w) (w':=w.drew) (Xb.le_refl _) (fun _ _=>rfl) hs.2.2.2⟩,hr.one,hr.mean⟩
theorem Rel.del (hr:Rel K base w0 p h w)(b:Nat):Rel K base w0 p (h.set b none) w:=by
 have key:∀ x o,(h.set b none).get x=some o→h.get x=some o:=fun x o hx=>by
  rw[Tree.Qu] at hx;split at hx
  ·cases hx
  ·exact hx
 exact⟨hr.below,hr.glob,hr.dis,fun x o hx=>hr.at_ x o (key x o hx),fun x y o o' s s' k h1 h2=>hr.one x y o o' s s' k (key x o h1) (key y o' h2),fun x m s hx=>hr.mean x m s (key x _ hx)⟩
theorem Rel.elsewhere {w':World}(hr:Rel K base w0 p h w)(h1:w'.os=w.os)(h2:w'.tape=w.tape)(h3:w'.output=w.output)(h4:w.heap.size≤w'.heap.size)
  (hk:∀ k,k<w.heap.size→(¬ (base k∨w0.heap.size≤k)∨∃ b o s,h.get b=some o∧p b=some s∧Occ o s k)→w'.heap[k]? = w.heap[k]?):Rel K base w0 p h w':=
 ⟨hr.below.step h1 h2 h3 h4 fun k hk1 hk2=>hk k hk1 (.inl hk2),hr.glob,hr.dis,fun b o hb=>by
  obtain⟨s,k1,k2,k3,k4⟩:=hr.at_ b o hb
  exact⟨s,k1,k2,fun k hO=>Nat.lt_of_lt_of_le (k3 k hO) h4,k4.mono (Xb.le_refl _) fun k hO=>hk k (k3 k hO) (.inr ⟨b,o,s,hb,k1,hO⟩)⟩,hr.one,hr.mean⟩
theorem Rel.put (hr:Rel K base w0 p h w){c:Nat}{s:V9}{o:Q4}(hp:p c=some s)(hc:h.get c=none)(hfree:∀ k,Occ o s k→∀ b o' s',h.get b=some o'→p b=some s'→¬ Occ o' s' k)(hB:K.n≤c→∀ k,Occ o s k→base k∨w0.heap.size≤k)(hlt:∀ k,Occ o s k→k<w.heap.size)(ho:Qbo p w s o)(hm:∀ m,o=.abs m→K.mean p m s):
  Rel K base w0 p (h.set c (some o)) w:=by
 have key:∀ x ox sx,(h.set c (some o)).get x=some ox→p x=some sx→(x=c∧ox=o∧sx=s)∨(x≠c∧h.get x=some ox∧p x=some sx):=fun x ox sx hx hpx=>by
  rw[Tree.Qu] at hx;by_cases e:x=c
  ·subst e;rw[if_pos rfl] at hx;rw[hp] at hpx;cases hx;cases hpx;exact .inl ⟨rfl,rfl,rfl⟩
  ·rw[if_neg e] at hx;exact .inr ⟨e,hx,hpx⟩
 refine⟨hr.below,hr.glob,hr.dis,fun x ox hx=>?_,fun x y ox oy sx sy k kx ky ex ey hx hy=>?_,fun x m sx hx hpx=>?_⟩
 ·rw[Tree.Qu] at hx;by_cases e:x=c
  ·subst e;rw[if_pos rfl] at hx;cases hx;exact⟨s,hp,hB,hlt,ho⟩
  ·rw[if_neg e] at hx;exact hr.at_ x ox hx
 ·rcases key _ _ _ kx ex with ⟨rfl,rfl,rfl⟩|⟨-,a1,a2⟩
  ·rcases key _ _ _ ky ey with ⟨rfl,-,-⟩|⟨-,b1,b2⟩
   ·rfl
   ·exact absurd hy (hfree k hx _ _ _ b1 b2)
  ·rcases key _ _ _ ky ey with ⟨rfl,rfl,rfl⟩|⟨-,b1,b2⟩
   ·exact absurd hx (hfree k hy _ _ _ a1 a2)
   ·exact hr.one _ _ _ _ _ _ _ a1 b1 a2 b2 hx hy
 ·rcases key _ _ _ hx hpx with ⟨rfl,e,rfl⟩|⟨-,a1,a2⟩
  ·exact hm m e.symm
  ·exact hr.mean _ _ _ a1 a2
theorem Rel.swap (hr:Rel K base w0 p h w){b c:Nat}{o o':Q4}{s s2:V9}{w':World}(hb:h.get b=some o)(hs:p b=some s)(hK:K.n≤b)(hp:p c=none)(hocc:∀ k,Occ o' s2 k→Occ o s k)(hm:∀ m,o'=.abs m→K.mean (p.add c s2) m s2)
  (h1:w'.os=w.os) (h2:w'.tape=w.tape) (h3:w'.output=w.output) (h4:w.heap.size≤w'.heap.size) (hk:∀ k,k<w.heap.size→¬ Occ o s k→w'.heap[k]? = w.heap[k]?) (ho:Qbo (p.add c s2) w' s2 o'):Rel K base w0 (p.add c s2) ((h.set b none).set c (some o')) w':=by
 obtain⟨s',q1,hB,hlt,-⟩:=hr.at_ b _ hb;obtain rfl:s'=s:=Option.some.inj (q1.symm.trans hs);have apart:∀ k,Occ o s' k→∀ x ox sx,(h.set b none).get x=some ox→p x=some sx→¬ Occ ox sx k:=fun k hO x ox sx hx hpx hO2=>by
  rw[Tree.Qu] at hx;by_cases e:x=b
  ·rw[if_pos e] at hx;cases hx
  ·rw[if_neg e] at hx;exact e (hr.one _ _ _ _ _ _ _ hx hb hpx hs hO2 hO)
 refine Rel.take ((hr.del b).elsewhere h1 h2 h3 h4 fun k hk1 hk2=>hk k hk1 fun hO=>?_) hp (fun k hO=>apart k (hocc k hO)) (fun _ k hO=>hB hK k (hocc k hO)) (fun k hO=>Nat.lt_of_lt_of_le (hlt k (hocc k hO)) h4) ho hm;rcases hk2 with hk2|⟨x,ox,sx,e1,e2,e3⟩
 ·exact hk2 (hB hK k hO)
 ·exact apart k hO x ox sx e1 e2 e3
def Yu:List Value→Nat→List Value→List Value
 |cs,_,[]=>cs
 |cs,o,v::vs=>Yu (cs.set o v) (o+1) vs
theorem Y0:∀ (vs cs:List Value) (o:Nat),(Yu cs o vs).length=cs.length
 | [],_,_=>rfl
 |v::vs,cs,o=>by rw[Yu,Y0 vs];simp
theorem Rel.stores:∀ {vs vs':List Value},VRs p vs vs'→∀ {h:Tree Q4} {w:World} {cs:List Value} {o:Nat},Rel K base w0 p h w→∀ {b:Nat} {t:TypeId} {sz:Nat},h.get b=some (.row cs t sz)→K.n≤b→o+vs.length≤cs.length→∀ {s:V9},p b=some s→
  Rel K base w0 p (h.set b (some (.row (Yu cs o vs) t sz))) (w.setCells s.blk (s.off+o) vs')
 |_,_,.nil,h,w,cs,o,hr,b,t,sz,hb,hK,hl,s,hs=>by
  refine hr.congr fun x=>?_
  rw[Tree.Qu];split
  ·rename_i e;rw[e,hb];rfl
  ·rfl
 |_,_,.cons (l:=l) (m:=m) hv hvs,h,w,cs,o,hr,b,t,sz,hb,hK,hl,s,hs=>by
  simp only[List.length_cons] at hl;have h1:=hr.store (i:=o) hb hK Dw hs hv;have h2:=Rel.stores hvs (o:=o+1) h1 (b:=b) (t:=t) (sz:=sz) (cs:=cs.set o _) (by rw[Tree.Qu,if_pos rfl]) hK (by simp;omega) hs;rw[show s.off+(o+1)=s.off+o+1 by omega] at h2;refine h2.congr fun x=>?_
  rw[Tree.Qu,Tree.Qu,Tree.Qu];split <;> rfl
end
end Ev
end
end Go.Proofs.YtcbkeecabcbogaaGreatDoor
