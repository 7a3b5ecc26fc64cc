/- Small laws on worlds and quiet calls, for the walks of this -/
import Derived.WalkLawsBesides
import Derived.WalkSpells
import Derived.Handy
import Derived.Lib.Hide
import Derived.Deep.QuietTactic
import Derived.BigQuiet
import Derived.Test.YtcbkeecabcbogaaGreatDoorHaa
import Derived.Below
import Derived.RowKit3
import Derived.Calls
import Derived.Test.YtcbkeecabcbogaaGreatDoorChecked
import Derived.Lib.Walk
import Derived.WalkKit
import Derived.BigCall
import Derived.BigGuard
import Derived.KernelRfl
set_option maxRecDepth 20000
set_option linter.unusedSimpArgs false
set_option linter.unusedVariables false
namespace Go.Proofs.YtcbkeecabcbogaaGreatDoor
section
open Go.RowKit
theorem quiet_eq {P:Program}{f:FuncId}{args:Array Value}{w:World}{n:Nat}{v:Value}
  (h:Calls P f args (w.drewN n) fun e w'=>e=.returned v∧w.drewN n=w'):Calls P f args (w.drewN n) fun e w''=>e=.returned v∧∃ m,w''=w.drewN m:=
 h.mono fun _ _ ⟨he,hm⟩=>⟨he,n,hm.symm⟩
theorem Uu {B:Nat}{a w:World}(h:Below B a w)(n:Nat):Below B a (w.drewN n):=below_drewN h n
theorem Qi {a b c:World}(h:Below a.heap.size a b)(k:Below b.heap.size b c):Below a.heap.size a c:=h.trans (k.mono h.size)
theorem Gy {W w1:World}(hb:Below W.heap.size W w1):(∀ b o,b<W.heap.size→w1.cell? ⟨b,o,none⟩=W.cell? ⟨b,o,none⟩)∧(∀ b o,b<W.heap.size→w1.frozen? ⟨b,o,none⟩=W.frozen? ⟨b,o,none⟩):=
 ⟨fun b o h=>hb.cell (p:=⟨b,o,none⟩) h,fun b o h=>hb.frozen (p:=⟨b,o,none⟩) h⟩
end
section
open Go.RowKit
namespace Prs
structure Qr (b:Nat)(w w':World):Prop where
 os:w'.os=w.os
 tape:w'.tape=w.tape
 output:w'.output=w.output
 size:w.heap.size≤w'.heap.size
 block:∀ k,k<w.heap.size→k≠b→w'.heap[k]? = w.heap[k]?
theorem Qr.refl (b:Nat)(w:World):Qr b w w:=⟨rfl,rfl,rfl,Nat.le_refl _,fun _ _ _=>rfl⟩
theorem Qr.trans {b:Nat}{u v w:World}(h:Qr b u v)(k:Qr b v w):Qr b u w:=
 ⟨k.os.trans h.os,k.tape.trans h.tape,k.output.trans h.output,Nat.le_trans h.size k.size,fun i hi hb=>(k.block i (Nat.lt_of_lt_of_le hi h.size) hb).trans (h.block i hi hb)⟩
theorem Qr.of_below {b B:Nat}{w w':World}(h:Below B w w')(hB:w.heap.size≤B):Qr b w w':=⟨h.os,h.tape,h.output,h.size,fun k hk _=>h.block k (Nat.lt_of_lt_of_le hk hB)⟩
theorem Qr.cell {b:Nat}{w w':World}(h:Qr b w w'){g o:Nat}{v:Value}(hg:g≠b)(hc:w.cell? ⟨g,o,none⟩=some v):w'.cell? ⟨g,o,none⟩=some v:=by
 unfold World.cell? at hc ⊢;dsimp only at hc ⊢;rcases Nat.lt_or_ge g w.heap.size with h1|h1
 ·rw[h.block g h1 hg];exact hc
 ·rw[Array.getElem?_eq_none h1] at hc;cases hc
theorem Qr.set {b:Nat}(w:World)(i:Nat)(v:Value):Qr b w (w.setCell ⟨b,i,none⟩ v):=
 ⟨rfl,rfl,rfl,by simp,fun k _ hk=>Below.heap_setCell w _ _ k hk⟩
def tokL (t:Tok):List Value:=[.int .i64 t.kind,.string ⟨t.text.toArray⟩,.int .u64 t.num,.int .i64 (t.place:Int)]
def Qkp (w:World)(g:Nat):List Tok→Nat→Prop
 | [],_=>True
 |t::l,o=>(∀ i v,(tokL t)[i]? = some v→w.cell? ⟨g,o+i,none⟩=some v)∧Qkp w g l (o+4)
def Qfo (b:Nat)(w:World)(v:Value)(l:List Tok):Prop:=∃ a c,v=.slice a l.length c∧l.length≤c∧c≤maxLen∧(l=[]∨∃ g o,a=some ⟨g,o,none⟩∧g<b∧Qkp w g l o)
theorem Qkp.keep {b:Nat}{w w':World}(h:Qr b w w'){g:Nat}(hg:g≠b):∀ {l:List Tok} {o:Nat},Qkp w g l o→Qkp w' g l o
 | [],_,_=>trivial
 |_::_,_,⟨h1,h2⟩=>⟨fun i v hv=>h.cell hg (h1 i v hv),Qkp.keep h hg h2⟩
theorem Qfo.keep {b:Nat}{w w':World}(h:Qr b w w'){v:Value}{l:List Tok}(k:Qfo b w v l):Qfo b w' v l:=by
 obtain⟨a,c,h1,h2,h3,h4⟩:=k;refine⟨a,c,h1,h2,h3,h4.imp id ?_⟩;rintro⟨g,o,h5,h6,h7⟩;exact⟨g,o,h5,h6,h7.keep h (Nat.ne_of_lt h6)⟩
theorem Yb {w w':World}{g o:Nat}{v:Value}(h:w'.heap[g]? = w.heap[g]?)(hc:w.cell? ⟨g,o,none⟩=some v):w'.cell? ⟨g,o,none⟩=some v:=by
 unfold World.cell? at hc ⊢;dsimp only at hc ⊢;rw[h];exact hc
theorem cell_lt' {w:World}{g o:Nat}{v:Value}(h:w.cell? ⟨g,o,none⟩=some v):g<w.heap.size:=by
 unfold World.cell? at h;dsimp only at h;rcases Nat.lt_or_ge g w.heap.size with h1|h1
 ·exact h1
 ·rw[Array.getElem?_eq_none h1] at h;cases h
theorem Qkp.frame {w w':World}{g:Nat}(h:w'.heap[g]? = w.heap[g]?):∀ {l:List Tok} {o:Nat},Qkp w g l o→Qkp w' g l o
 | [],_,_=>trivial
 |_::_,_,⟨h1,h2⟩=>⟨fun i v hv=>Yb h (h1 i v hv),Qkp.frame h h2⟩
theorem Qfo.frame {b:Nat}{w w':World}(h:∀ k,k<b→w'.heap[k]? = w.heap[k]?){v:Value}{l:List Tok}(k:Qfo b w v l):Qfo b w' v l:=by
 obtain⟨a,c,h1,h2,h3,h4⟩:=k;refine⟨a,c,h1,h2,h3,h4.imp id ?_⟩;rintro⟨g,o,h5,h6,h7⟩;exact⟨g,o,h5,h6,h7.frame (h g h6)⟩
mutual
def X7 (S:Nat→Prop)(w:World):Tr→List Value→Prop
 | .mk k x n p kids,cs=>∃ a c,cs=[.int .i64 (k:Int),.string ⟨x.toArray⟩,.int .u64 (n:Int),.int .i64 (p:Int),.slice a kids.length c]∧(kids=[]∨∃ g o,a=some ⟨g,o,none⟩∧S g∧Xq S w g kids o)
def Xq (S:Nat→Prop)(w:World)(g:Nat):List Tr→Nat→Prop
 | [],_=>True
 |t::l,o=>(∃ v0 v1 v2 v3 v4,w.cell? ⟨g,o,none⟩=some v0∧w.cell? ⟨g,o+1,none⟩=some v1∧w.cell? ⟨g,o+2,none⟩=some v2∧w.cell? ⟨g,o+3,none⟩=some v3∧w.cell? ⟨g,o+4,none⟩=some v4∧X7 S w t [v0,v1,v2,v3,v4])∧Xq S w g l (o+5)
end
def Zh (S:Nat→Prop)(w:World)(t:Tr)(v:Value):Prop:=∃ cs,v=.agg cs.toArray∧X7 S w t cs
mutual
theorem X7.frame {S S':Nat→Prop}{w w':World}(hlo:∀ k,S k→k<w.heap.size→S' k)(h:∀ k,S k→k<w.heap.size→w'.heap[k]? = w.heap[k]?):∀ {t:Tr} {cs:List Value},X7 S w t cs→X7 S' w' t cs
 | .mk k x n p kids,cs,hc=>by
  unfold X7 at hc ⊢;obtain⟨a,c,h1,h2⟩:=hc;refine⟨a,c,h1,?_⟩;rcases h2 with h2|⟨g,o,h3,h4,h5⟩
  ·exact .inl h2
  ·by_cases hk:kids=[]
   ·exact .inl hk
   ·refine .inr ⟨g,o,h3,hlo g h4 ?_,Xq.frame hlo h h4 h5⟩;obtain⟨t,l,rfl⟩:=List.exists_cons_of_ne_nil hk;unfold Xq at h5;obtain⟨⟨v0,v1,v2,v3,v4,k0,-⟩,-⟩:=h5;exact cell_lt' k0
theorem Xq.frame {S S':Nat→Prop}{w w':World}(hlo:∀ k,S k→k<w.heap.size→S' k)(h:∀ k,S k→k<w.heap.size→w'.heap[k]? = w.heap[k]?){g:Nat}(hg:S g):∀ {l:List Tr} {o:Nat},Xq S w g l o→Xq S' w' g l o
 | [],_,_=>by unfold Xq;trivial
 |t::l,o,hr=>by
  unfold Xq at hr ⊢;obtain⟨⟨v0,v1,v2,v3,v4,h0,h1,h2,h3,h4,h5⟩,h6⟩:=hr;have hgg:=h g hg (cell_lt' h0);exact⟨⟨v0,v1,v2,v3,v4,Yb hgg h0,Yb hgg h1,Yb hgg h2,Yb hgg h3,Yb hgg h4,X7.frame hlo h h5⟩,Xq.frame hlo h hg h6⟩
end
theorem Zh.frame {S S':Nat→Prop}{w w':World}(hlo:∀ k,S k→k<w.heap.size→S' k)(h:∀ k,S k→k<w.heap.size→w'.heap[k]? = w.heap[k]?){t:Tr}{v:Value}(k:Zh S w t v):Zh S' w' t v:=by
 obtain⟨cs,h1,h2⟩:=k;exact⟨cs,h1,h2.frame hlo h⟩
abbrev rp (b:Nat):Value:=.pointer (some ⟨b,0,none⟩)
structure Env where
 len:Nat
 w0:World
def RdB (b:Nat)(E:Env)(w:World)(l:List Tok)(hd:Bool):Prop:=(∀ k,k<b→w.heap[k]? = E.w0.heap[k]?)∧∃ v,w.heap[b]? = some (.cells #[v,.int .i64 (E.len:Int),.bool hd] 61 (0,0))∧Qfo b w v l
theorem RdB.open_ {b:Nat}{E:Env}{w:World}{l:List Tok}{hd:Bool}(h:RdB b E w l hd):∃ a c,w.cell? ⟨b,0,none⟩=some (.slice a l.length c)∧w.cell? ⟨b,1,none⟩=some (.int .i64 (E.len:Int))∧w.cell? ⟨b,2,none⟩=some (.bool hd)∧w.frozen? ⟨b,0,none⟩=false∧w.frozen? ⟨b,2,none⟩=false∧l.length≤c∧c≤maxLen∧(l=[]∨∃ g o,a=some ⟨g,o,none⟩∧g<b∧Qkp w g l o):=by
 obtain⟨-,v,hb,a,c,rfl,h1,h2,h3⟩:=h;refine⟨a,c,?_,?_,?_,?_,?_,h1,h2,h3⟩
 ·unfold World.cell?;rw[hb];rfl
 ·unfold World.cell?;rw[hb];rfl
 ·unfold World.cell?;rw[hb];rfl
 ·unfold World.frozen?;rw[hb];rfl
 ·unfold World.frozen?;rw[hb];rfl
theorem at_c (b:Nat)(E:Env)(l:List Tok)(hd:Bool)(w:World)(h:RdB b E w l hd):Calls Tryz.prog 43 #[rp b] w fun e w'=>e=.returned (.int .i64 (atP E.len l:Int))∧w'=w:=by
 obtain⟨a,c,h0,h1,-,-,-,hlc,-,ht⟩:=h.open_;cases l with
 |nil=>
  go_enter Tryz.func43,Tryz.ntmps43
  go_wp2
  go_ret;exact⟨rfl,rfl⟩
 |cons t l=>
  obtain⟨g,o,rfl,hg,htok⟩:=ht.resolve_left Ds;have h3:=htok.1 3 _ rfl;obtain⟨n,hn⟩:∃ n,(t::l).length=n+1:=⟨l.length,rfl⟩;rw[hn] at h0 hlc;have hne:¬ ((n+1:Nat):Int)=0:=by omega
  clear htok ht hn;go_enter Tryz.func43,Tryz.ntmps43
  go_wp2
  go_ret;exact⟨rfl,rfl⟩
def U0:List Tok→Tok
 | []=>⟨0,[],0,0⟩
 |t::_=>t
abbrev tokA (t:Tok):Value:=.agg #[.int .i64 t.kind,.string ⟨t.text.toArray⟩,.int .u64 t.num,.int .i64 (t.place:Int)]
theorem Qox {w:World}{g o:Nat}{v:Value}(h:w.cell? ⟨g,o,none⟩=some v):g<w.heap.size:=by
 unfold World.cell? at h;dsimp only at h;rcases Nat.lt_or_ge g w.heap.size with h1|h1
 ·exact h1
 ·rw[Array.getElem?_eq_none h1] at h;cases h
theorem Qh7 {fn:Func}{p:Tmp}{ty t:TypeId}{R:Ending→World→Prop}{tmps:Array Value}{W:World}{g:Nat}{cs:Array Value}{fr:Nat×Nat}{fs:Array Field}(h:fn.results = #[.cell p ty])
  (hu:(Tryz.prog).underlying ty=some (.struct fs)) (hi:((Tryz.prog).info? ty).map (·.size)=some cs.size)
  (hp:tmps.getD p undef=.pointer (some ⟨g,0,none⟩)) (hg:W.heap[g]? = some (.cells cs t fr)) (hR:R (.returned (.agg cs)) W):bodyPost Tryz.prog fn R .ret ⟨tmps,[]⟩ W:=
 bodyPost_ret_by (results_cell_row h tmps W g t cs fr _ hp hg hu rfl hi) rfl hR
theorem Q4 (w:World)(o:Obj):(w.alloc o).heap[w.heap.size]? = some o:=by
 show (w.heap.push o)[w.heap.size]? = some o
 simp
theorem Qn3 {W:World}{g:Nat}{cs:Array Value}{t:TypeId}{fr:Nat×Nat}(h:W.heap[g]? = some (.cells cs t fr))(i:Nat)(v:Value):(W.setCell ⟨g,i,none⟩ v).heap[g]? = some (.cells (cs.setIfInBounds i v) t fr):=by
 simp only[World.setCell,Array.getElem?_modify,if_true,h,Option.map_some];rfl
theorem L6 (b:Nat)(E:Env)(l:List Tok)(hd:Bool)(w:World)(h:RdB b E w l hd):Calls Tryz.prog 32 #[rp b] w fun e w'=>e=.returned (tokA (U0 l))∧Below w.heap.size w w':=by
 have hb:b<w.heap.size:=by
  obtain⟨-,v,h1,-⟩:=h;exact(Array.getElem?_eq_some_iff.1 h1).1
 obtain⟨a,c,h0,h1,-,-,-,hlc,-,ht⟩:=h.open_;cases l with
 |nil=>
  go_enter Tryz.func32,Tryz.ntmps32
  go_wp2
  refine Qh7 (g:=w.heap.size) (cs := #[.int .i64 0,.string ⟨#[]⟩,.int .u64 0,.int .i64 0]) (show Tryz.f32.results = #[.cell 2 46] from rfl) Tryz.underlying46 ?_ ?_ (Q4 _ _) ?_
  ·kernel_rfl
  ·rfl
  ·exact⟨rfl,(Below.refl _ _).alloc (Nat.le_refl _) _⟩
 |cons t l=>
  obtain⟨g,o,rfl,hg,htok⟩:=ht.resolve_left Ds;have h3:=htok.1 3 _ rfl;have h4:=htok.1 2 _ rfl;have h5:=htok.1 1 _ rfl;have h6:w.cell? ⟨g,o,none⟩=some (.int .i64 t.kind):=htok.1 0 _ rfl;have hgl:=Qox h6;obtain⟨n,hn⟩:∃ n,(t::l).length=n+1:=⟨l.length,rfl⟩;rw[hn] at h0 hlc;have hne:¬ ((n+1:Nat):Int)=0:=by omega
  clear htok ht hn;go_enter Tryz.func32,Tryz.ntmps32
  go_wp2
  refine Qh7 (g:=w.heap.size) (cs := #[.int .i64 t.kind,.string ⟨t.text.toArray⟩,.int .u64 t.num,.int .i64 (t.place:Int)]) (show Tryz.f32.results = #[.cell 2 46] from rfl) Tryz.underlying46 ?_ ?_ (Q4 _ _) ?_
  ·kernel_rfl
  ·rfl
  ·exact⟨rfl,(Below.refl _ _).alloc (Nat.le_refl _) _⟩
theorem Jz (l:List Tok):Xg l=(U0 l).kind:=by cases l <;> rfl
theorem Q5 (l:List Tok):Vm l=(U0 l).text:=by cases l <;> rfl
theorem Tu {a b:Bool}(h:a=b):Ending.returned (.bool a)=.returned (.bool b):=by rw[h]
theorem is_c (b:Nat)(E:Env)(l:List Tok)(hd:Bool)(w:World)(x:List UInt8)(h:RdB b E w l hd):Calls Tryz.prog 44 #[rp b,.string ⟨x.toArray⟩] w fun e w'=>e=.returned (.bool (isP x l))∧Below w.heap.size w w':=by
 have hp:=L6 b E l hd w h;unfold isP;rw[Jz,Q5];generalize U0 l=t at *;obtain⟨k,z,m,p⟩:=t;dsimp only at *;have HP:=Dh hp;clear hp;by_cases k3:k=3
 ·subst k3;go_enter Tryz.func44,Tryz.ntmps44
  go_wp2_with (go_at_call 32;refine HP.out.mono ?_;rintro e w1 ⟨rfl,hB⟩)
  go_ret;exact⟨Tu Ds,hB.alloc hB.size _⟩
 ·have k3':(k==3)=false:=beq_eq_false_iff_ne.2 k3;by_cases k4:k=4
  ·subst k4;go_enter Tryz.func44,Tryz.ntmps44
   go_wp2_with (go_at_call 32;refine HP.out.mono ?_;rintro e w1 ⟨rfl,hB⟩)
   go_ret;exact⟨Tu Ds,hB.alloc hB.size _⟩
  ·have k4':(k==4)=false:=beq_eq_false_iff_ne.2 k4;go_enter Tryz.func44,Tryz.ntmps44
   go_wp2_with (go_at_call 32;refine HP.out.mono ?_;rintro e w1 ⟨rfl,hB⟩)
   go_ret;exact⟨Tu (by rw[k3',k4'];rfl),hB.alloc hB.size _⟩
theorem RdB.keep {b:Nat}{E:Env}{w w':World}{l:List Tok}{hd:Bool}(h:RdB b E w l hd)(k:Below w.heap.size w w'):RdB b E w' l hd:=by
 obtain⟨h0,v,h1,h2⟩:=h;have hb:=(Array.getElem?_eq_some_iff.1 h1).1;exact⟨fun i hi=>(k.block i (Nat.lt_trans hi hb)).trans (h0 i hi),v,(k.block b hb).trans h1,h2.keep (Qr.of_below k (Nat.le_refl _))⟩
theorem RdB.frame {b:Nat}{E:Env}{w w':World}{l:List Tok}{hd:Bool}(h:RdB b E w l hd)(k:∀ i,i≤b→w'.heap[i]? = w.heap[i]?):RdB b E w' l hd:=by
 obtain⟨h0,v,h1,h2⟩:=h;exact⟨fun i hi=>(k i (Nat.le_of_lt hi)).trans (h0 i hi),v,(k b (Nat.le_refl _)).trans h1,h2.frame fun i hi=>k i (Nat.le_of_lt hi)⟩
theorem RdB.lt {b:Nat}{E:Env}{w:World}{l:List Tok}{hd:Bool}(h:RdB b E w l hd):b<w.heap.size:=by
 obtain⟨-,v,h1,-⟩:=h;exact(Array.getElem?_eq_some_iff.1 h1).1
theorem Qoi {b:Nat}{E:Env}{w:World}{t:Tok}{l:List Tok}{hd:Bool}{a:Option Addr}{c:Nat}(he:∀ k,k<b→w.heap[k]? = E.w0.heap[k]?)(h:w.heap[b]? = some (.cells #[.slice a (l.length+1) c,.int .i64 (E.len:Int),.bool hd] 61 (0,0)))(hc:l.length+1≤c)(hm:c≤maxLen)(ht:∃ g o,a=some ⟨g,o,none⟩∧g<b∧Qkp w g (t::l) o)
  {v:Value} (hv:v=.slice (if c=1 then a else a.map (·.add (1*4))) (l.length+1-1) (c-1)):RdB b E (w.setCell ⟨b,0,none⟩ v) l hd:=by
 subst hv;obtain⟨g,o,rfl,hg,h1,h2⟩:=ht;have hk:=Qr.set w (b:=b) 0 (.slice (if c=1 then some ⟨g,o,none⟩ else (some ⟨g,o,none⟩:Option Addr).map (·.add (1*4))) (l.length+1-1) (c-1));refine⟨fun k hk=>(Below.heap_setCell w _ _ k (Nat.ne_of_lt hk)).trans (he k hk),_,Qn3 h 0 _,_,_,by rw[Nat.add_sub_cancel],by omega,by omega,?_⟩;cases l with
 |nil=>exact .inl rfl
 |cons u l=>
  right;have hc1:c≠1:=by simp at hc;omega
  refine⟨g,o+4,?_,hg,h2.keep hk (Nat.ne_of_lt hg)⟩;rw[if_neg hc1];rfl
theorem RdB.cons {b:Nat}{E:Env}{w:World}{t:Tok}{l:List Tok}{hd:Bool}(h:RdB b E w (t::l) hd):∃ g o n c,n=l.length∧w.cell? ⟨b,0,none⟩=some (.slice (some ⟨g,o,none⟩) (n+1) c)∧w.frozen? ⟨b,0,none⟩=false∧n+1≤c∧c≤maxLen∧
  (c=1→RdB b E (w.setCell ⟨b,0,none⟩ (.slice (some ⟨g,o,none⟩) n 0)) l hd)∧(c≠1→RdB b E (w.setCell ⟨b,0,none⟩ (.slice (some ⟨g,o+4,none⟩) n (c-1))) l hd):=by
 obtain⟨he,v,hb,a,c,rfl,h1,h2,h3⟩:=h;obtain⟨g,o,rfl,h4,h5⟩:=h3.resolve_left Ds;refine⟨g,o,l.length,c,rfl,?_,?_,h1,h2,fun hc=>?_,fun hc=>?_⟩
 ·unfold World.cell?;rw[hb];rfl
 ·unfold World.frozen?;rw[hb];rfl
 ·refine Qoi he hb h1 h2 ⟨g,o,rfl,h4,h5⟩ ?_;rw[if_pos hc,hc,Nat.add_sub_cancel]
 ·refine Qoi he hb h1 h2 ⟨g,o,rfl,h4,h5⟩ ?_;rw[if_neg hc,Nat.add_sub_cancel];rfl
theorem Qa3 (b:Nat)(E:Env)(l:List Tok)(hd:Bool)(w:World)(x:List UInt8)(h:RdB b E w l hd):Calls Tryz.prog 46 #[rp b,.string ⟨x.toArray⟩] w fun e w'=>e=.returned (.bool (isP x l))∧Qr b w w'∧RdB b E w' (if isP x l then l.tail else l) hd:=by
 have HI:=Dh (is_c b E l hd w x h);have HR:=Dh h;cases hi:isP x l with
 |false=>
  rw[hi] at HI;clear hi;go_enter Tryz.func46,Tryz.ntmps46
  go_wp2_with (go_at_call 44;refine HI.out.mono ?_;rintro e w1 ⟨rfl,hB⟩)
  go_ret;exact⟨rfl,Qr.of_below hB (Nat.le_refl _),HR.out.keep hB⟩
 |true=>
  rw[hi] at HI;cases l with
  |nil=>cases hi
  |cons t l=>
   clear hi;go_enter Tryz.func46,Tryz.ntmps46
   go_wp2_with (go_at_call 44;refine HI.out.mono ?_;rintro e w1 ⟨rfl,hB⟩;obtain⟨g,o,_,c,rfl,hc0,hf0,hnc,hcm,hset⟩:=(HR.out.keep hB).cons;have hset:=Dh hset)
   ·go_ret;exact⟨rfl,(Qr.of_below hB (Nat.le_refl _)).trans (Qr.set _ _ _),hset.out.1 Da⟩
   ·rename_i hc1;go_ret;exact⟨rfl,(Qr.of_below hB (Nat.le_refl _)).trans (Qr.set _ _ _),hset.out.2 Da⟩
abbrev Vy (p:Nat):Value:=.iface 58 (.agg #[.int .i64 (p:Int)])
abbrev failed (p:Nat):Ending:=.panicked [{ v:=Vy p,recovered:=false }]
theorem Qb7 (b:Nat)(E:Env)(l:List Tok)(hd:Bool)(w:World)(h:RdB b E w l hd):Calls Tryz.prog 33 #[rp b] w fun e w'=>e=failed (atP E.len l)∧w'=w:=by
 have HA:=Dh (at_c b E l hd w h);generalize atP E.len l=p at *;go_enter Tryz.func33,Tryz.ntmps33
 go_wp2_with (go_at_call 43;refine HA.out.mono ?_;rintro e w1 ⟨rfl,rfl⟩)
 exact⟨rfl,rfl,rfl⟩
theorem Qaz (b:Nat)(E:Env)(l:List Tok)(hd:Bool)(w:World)(x:List UInt8)(h:RdB b E w l hd):Calls Tryz.prog 68 #[rp b,.string ⟨x.toArray⟩] w fun e w'=>Qr b w w'∧(if isP x l then e=.returned (.int .i64 (atP E.len l:Int))∧RdB b E w' l.tail hd else e=failed (atP E.len l)):=by
 have HA:=Dh (at_c b E l hd w h);have HT:=Dh (Qa3 b E l hd w x h);have HF:=Dh (fun w1 h1=>Qb7 b E l hd w1 h1);cases hi:isP x l with
 |true=>
  rw[hi] at HT;generalize atP E.len l=p at *;go_enter Tryz.func68,Tryz.ntmps68
  go_wp2_with (first|(go_at_call 43;refine HA.out.mono ?_;rintro e w1 ⟨rfl,rfl⟩)|(go_at_call 46;refine HT.out.mono ?_;rintro e w2 ⟨rfl,hk,hr⟩))
  go_ret;exact⟨hk,by simpa using hr⟩
 |false=>
  rw[hi] at HT;generalize atP E.len l=p at *;go_enter Tryz.func68,Tryz.ntmps68
  go_wp2_with (first|(go_at_call 43;refine HA.out.mono ?_;rintro e w1 ⟨rfl,rfl⟩)|(go_at_call 46;refine HT.out.mono ?_;rintro e w2 ⟨rfl,hk,hr⟩)|(go_at_call 33;refine(HF.out _ (by simpa using hr)).mono ?_;rintro e w3 ⟨rfl,rfl⟩))
  exact⟨rfl,hk,rfl⟩
theorem Qjp (b:Nat)(E:Env)(l:List Tok)(hd:Bool)(w:World)(x:List UInt8)(h:RdB b E w l hd):Calls Tryz.prog 75 #[rp b,.string ⟨x.toArray⟩] w fun e w'=>e=.returned (.bool (Zq x l))∧w'=w:=by
 obtain⟨a,c,h0,h1,-,-,-,hlc,-,ht⟩:=h.open_;rcases l with _|⟨t,_|⟨u,l⟩⟩
 ·go_enter Tryz.func75,Tryz.ntmps75
  go_wp2
  go_ret;exact⟨rfl,rfl⟩
 ·go_enter Tryz.func75,Tryz.ntmps75
  go_wp2
  go_ret;exact⟨rfl,rfl⟩
 ·obtain⟨g,o,rfl,hg,htok⟩:=ht.resolve_left Ds;have h3:=htok.2.1 1 _ rfl;have h4:w.cell? ⟨g,o+4,none⟩=some (.int .i64 u.kind):=htok.2.1 0 _ rfl;obtain⟨n,hn⟩:∃ n,(t::u::l).length=n+2:=⟨l.length,rfl⟩;rw[hn] at h0 hlc;have hne:(1:Int)<((n+2:Nat):Int):=by omega
  clear htok ht hn h;obtain⟨k,z,m,p⟩:=u;dsimp only at h3 h4;by_cases k4:k=4
  ·subst k4;rw[show Zq x (t::⟨4,z,m,p⟩::l)=(z==x) by simp[Zq]];go_enter Tryz.func75,Tryz.ntmps75
   go_wp2
   go_ret;exact⟨rfl,rfl⟩
  ·have k4':(k==4)=false:=beq_eq_false_iff_ne.2 k4;rw[show Zq x (t::⟨k,z,m,p⟩::l)=false by simp[Zq,k4]];go_enter Tryz.func75,Tryz.ntmps75
   go_wp2
   go_ret;exact⟨rfl,rfl⟩
theorem Qr.drewN {b:Nat}{w w':World}(h:Qr b w w')(n:Nat):Qr b w (w'.drewN n):=⟨h.os,h.tape,h.output,h.size,h.block⟩
theorem RdB.drewN {b:Nat}{E:Env}{w:World}{l:List Tok}{hd:Bool}(h:RdB b E w l hd)(n:Nat):RdB b E (w.drewN n) l hd:=by
 obtain⟨h0,v,h1,h2⟩:=h;exact⟨h0,v,h1,h2.keep ((Qr.refl b w).drewN n)⟩
theorem Pm (t:Tok)(l:List Tok):U0 (t::l)=t:=rfl
theorem Qov (b:Nat)(E:Env)(l:List Tok)(hd:Bool)(w:World)(h:RdB b E w l hd):Calls Tryz.prog 47 #[rp b] w fun e w'=>Qr b w w'∧(if Xg l==1 then e=.returned (.tuple #[.string ⟨(Vm l).toArray⟩,.int .i64 (Kt l:Int)])∧RdB b E w' l.tail hd else e=failed (atP E.len l)):=by
 have HP:=Dh (L6 b E l hd w h);have HF:=Dh (fun w1 h1=>Qb7 b E l hd w1 h1);have HR:=Dh h;cases l with
 |nil=>
  simp only[show (Xg []==1)=false from rfl,Bool.false_eq_true,if_false];generalize atP E.len []=p at *;go_enter Tryz.func47,Tryz.ntmps47
  go_wp2_with (first|(go_at_call 32;refine HP.out.mono ?_;rintro e w1 ⟨rfl,hB⟩)|(go_at_call 33;refine(HF.out _ (HR.out.keep (hB.alloc hB.size _))).mono ?_;rintro e w3 ⟨rfl,rfl⟩))
  exact⟨rfl,Qr.of_below (hB.alloc hB.size _) (Nat.le_refl _),rfl⟩
 |cons t l=>
  obtain⟨k,z,m,q⟩:=t;rw[Pm] at HP;by_cases k1:k=1
  ·subst k1;simp only[show (Xg (⟨1,z,m,q⟩::l)==1)=true from rfl,if_true];go_enter Tryz.func47,Tryz.ntmps47
   go_wp2_with (first|(go_at_call 32;refine HP.out.mono ?_;rintro e w1 ⟨rfl,hB⟩;obtain⟨g,o,_,c,rfl,hc0,hf0,hnc,hcm,hset⟩:=(HR.out.keep (hB.alloc hB.size (.cells #[.int .i64 1,.string ⟨z.toArray⟩,.int .u64 m,.int .i64 (q:Int)] 46))).cons;have hset:=Dh hset))
   all_goals
    go_quiet (fail)
    go_wp2
    go_ret2
    refine⟨((Qr.of_below (hB.alloc hB.size _) (Nat.le_refl _)).trans (Qr.set _ _ _)).drewN _,rfl,RdB.drewN ?_ _⟩;first|exact hset.out.1 Da|exact hset.out.2 Da
  ·have k1':(k==1)=false:=beq_eq_false_iff_ne.2 k1;have k1'':(k != 1)=true:=by rw[bne,k1'];rfl
   simp only[show (Xg (⟨k,z,m,q⟩::l)==1)=false from k1',Bool.false_eq_true,if_false];generalize atP E.len _=p at *;go_enter Tryz.func47,Tryz.ntmps47
   go_wp2_with (first|(go_at_call 32;refine HP.out.mono ?_;rintro e w1 ⟨rfl,hB⟩)|(go_at_call 33;refine(HF.out _ (HR.out.keep (hB.alloc hB.size _))).mono ?_;rintro e w3 ⟨rfl,rfl⟩))
   exact⟨rfl,Qr.of_below (hB.alloc hB.size _) (Nat.le_refl _),rfl⟩
theorem Nl (b:Nat)(E:Env)(l:List Tok)(hd:Bool)(w:World)(h:RdB b E w l hd){k:Int}{z:List UInt8}{m:Int}{q:Nat}(hh:U0 l=⟨k,z,m,q⟩):Calls Tryz.prog 32 #[rp b] w fun e w'=>e=.returned (.agg #[.int .i64 k,.string ⟨z.toArray⟩,.int .u64 m,.int .i64 (q:Int)])∧Below w.heap.size w w':=by
 have:=L6 b E l hd w h;rw[hh] at this;exact this
theorem Ko {fn:Func}{R:Ending→World→Prop}{tmps:Array Value}{W:World}(h:fn.results = #[])(hR:R (.returned (.tuple #[])) W):bodyPost Tryz.prog fn R .ret ⟨tmps,[]⟩ W:=
 bodyPost_ret_by (by simp[results,h]) rfl hR
theorem end_none {fn:Func}{R:Ending→World→Prop}{tmps:Array Value}{W:World}(h:fn.results = #[])(hR:R (.returned (.tuple #[])) W):bodyPost Tryz.prog fn R .normal ⟨tmps,[]⟩ W:=
 ⟨rfl,.tuple #[],by simp[results,h],hR⟩
theorem Yw (v0 v1 v2 v3:Value):∀ W,(Instr.field 46 (.agg #[v0,v1,v2,v3]) 0).run Tryz.prog W=.ok v0 W:=fun _=>by kernel_rfl
theorem semi_c (b:Nat)(E:Env)(l:List Tok)(hd:Bool)(w:World)(x:List UInt8)(h:RdB b E w l hd):Calls Tryz.prog 55 #[rp b,.string ⟨x.toArray⟩] w fun e w'=>Qr b w w'∧(if Xg l==5 then e=.returned (.tuple #[])∧RdB b E w' l.tail hd else if isP x l then e=.returned (.tuple #[])∧RdB b E w' l hd else e=failed (atP E.len l)):=by
 have HI:=Dh (fun w1 h1=>is_c b E l hd w1 x h1);have HF:=Dh (fun w1 h1=>Qb7 b E l hd w1 h1);have HR:=Dh h;by_cases k5:Xg l=5
 ·cases l with
  |nil=>exact absurd k5 Dd
  |cons t l=>
   obtain⟨k,z,m,q⟩:=t;obtain rfl:k=5:=k5;have HP:=Dh (Nl b E _ hd w h (Pm _ l));have hfl:=Yw (.int .i64 5) (.string ⟨z.toArray⟩) (.int .u64 m) (.int .i64 (q:Int));simp only[show (Xg (⟨5,z,m,q⟩::l)==5)=true from rfl,if_true];go_enter Tryz.func55,Tryz.ntmps55
   go_wp2_with (first|(go_at_call 32;refine HP.out.mono ?_;rintro e w1 ⟨rfl,hB⟩;obtain⟨g,o,_,c,rfl,hc0,hf0,hnc,hcm,hset⟩:=(HR.out.keep hB).cons;have hset:=Dh hset))
   all_goals
    first|refine Ko (show Tryz.f55.results = #[] from rfl) ?_|refine end_none (show Tryz.f55.results = #[] from rfl) ?_
    refine⟨(Qr.of_below hB (Nat.le_refl _)).trans (Qr.set _ _ _),rfl,?_⟩;first|exact hset.out.1 Da|exact hset.out.2 Da
 ·have k5':(Xg l==5)=false:=beq_eq_false_iff_ne.2 k5;have k5h:((U0 l).kind==5)=false:=by rw[←Jz];exact k5'
  simp only[k5',Bool.false_eq_true,if_false];rcases hh:U0 l with ⟨k,z,m,q⟩;have HP:=Dh (Nl b E _ hd w h hh);have hfl:=Yw (.int .i64 k) (.string ⟨z.toArray⟩) (.int .u64 m) (.int .i64 (q:Int));rw[hh] at k5h;dsimp only at k5h;clear hh;cases hi:isP x l with
  |true=>
   rw[hi] at HI;simp only[if_true];clear k5 k5';go_enter Tryz.func55,Tryz.ntmps55
   go_wp2_with (first|(go_at_call 32;refine HP.out.mono ?_;rintro e w1 ⟨rfl,hB⟩)|(go_at_call 44;refine(HI.out _ (HR.out.keep hB)).mono ?_;rintro e w2 ⟨rfl,hB2⟩))
   first|refine Ko (show Tryz.f55.results = #[] from rfl) ?_|refine end_none (show Tryz.f55.results = #[] from rfl) ?_
   have hk:=hB.trans (hB2.mono hB.size);exact⟨Qr.of_below hk (Nat.le_refl _),rfl,HR.out.keep hk⟩
  |false=>
   rw[hi] at HI;simp only[Bool.false_eq_true,if_false];clear k5 k5';generalize atP E.len l=p at *;go_enter Tryz.func55,Tryz.ntmps55
   go_wp2_with (first|(go_at_call 32;refine HP.out.mono ?_;rintro e w1 ⟨rfl,hB⟩)|(go_at_call 44;refine(HI.out _ (HR.out.keep hB)).mono ?_;rintro e w2 ⟨rfl,hB2⟩;have hk:=hB.trans (hB2.mono hB.size))|(go_at_call 33;refine(HF.out _ (HR.out.keep hk)).mono ?_;rintro e w3 ⟨rfl,rfl⟩))
   exact⟨rfl,Qr.of_below hk (Nat.le_refl _),rfl⟩
def X4 (x:List UInt8)(l:List Tok):List Tok:=if Xg l==5&&Zq x l then l.tail else l
theorem G8 (E_:Nat)(x:List UInt8)(l:List Tok):A8 E_ x l=Vl E_ x (X4 x l):=rfl
theorem shut_c (b:Nat)(E:Env)(l:List Tok)(hd:Bool)(w:World)(x:List UInt8)(h:RdB b E w l hd):Calls Tryz.prog 99 #[rp b,.string ⟨x.toArray⟩] w fun e w'=>Qr b w w'∧(if isP x (X4 x l) then e=.returned (.tuple #[])∧RdB b E w' (X4 x l).tail hd else e=failed (atP E.len (X4 x l))):=by
 have HS:=Dh (fun w1 h1=>Qjp b E l hd w1 x h1);have HR:=Dh h;generalize hl1:X4 x l=l1;have HW:=Dh (fun w1 h1=>Qaz b E l1 hd w1 x h1);cases hi:isP x l1 with
 |true=>
  rw[hi] at HW;simp only[if_true] at HW ⊢;clear hi;by_cases k5:Xg l=5
  ·cases l with
   |nil=>exact absurd k5 Dd
   |cons t l=>
    obtain⟨k,z,m,q⟩:=t;obtain rfl:k=5:=k5;have HP:=Dh (Nl b E _ hd w h (Pm _ l));cases hs:Zq x (⟨5,z,m,q⟩::l) with
    |true=>
     rw[hs] at HS;obtain rfl:l=l1:=by rw[←hl1];unfold X4;rw[hs];rfl
     clear hs hl1;go_enter Tryz.func99,Tryz.ntmps99
     go_wp2_with (first|(go_at_call 32;refine HP.out.mono ?_;rintro e w1 ⟨rfl,hB⟩)|(go_at_call 75;refine(HS.out _ (HR.out.keep (hB.alloc hB.size _))).mono ?_;rintro e w2 ⟨rfl,rfl⟩;obtain⟨g,o,_,c,rfl,hc0,hf0,hnc,hcm,hset⟩:=(HR.out.keep (hB.alloc hB.size (.cells #[.int .i64 5,.string ⟨z.toArray⟩,.int .u64 m,.int .i64 (q:Int)] 46))).cons;have hset:=Dh hset)|(go_at_call 68;refine(HW.out _ (by first|exact hset.out.1 Da|exact hset.out.2 Da)).mono ?_;rintro e w3 ⟨hk3,rfl,hr3⟩))
     all_goals
      first|refine Ko (show Tryz.f99.results = #[] from rfl) ?_|refine end_none (show Tryz.f99.results = #[] from rfl) ?_
      exact⟨((Qr.of_below (hB.alloc hB.size _) (Nat.le_refl _)).trans (Qr.set _ _ _)).trans hk3,rfl,hr3⟩
    |false=>
     rw[hs] at HS;obtain rfl:⟨5,z,m,q⟩::l=l1:=by rw[←hl1];unfold X4;rw[hs];rfl
     clear hs hl1;go_enter Tryz.func99,Tryz.ntmps99
     go_wp2_with (first|(go_at_call 32;refine HP.out.mono ?_;rintro e w1 ⟨rfl,hB⟩)|(go_at_call 75;refine(HS.out _ (HR.out.keep (hB.alloc hB.size _))).mono ?_;rintro e w2 ⟨rfl,rfl⟩)|(go_at_call 68;refine(HW.out _ (HR.out.keep (hB.alloc hB.size _))).mono ?_;rintro e w3 ⟨hk3,rfl,hr3⟩))
     first|refine Ko (show Tryz.f99.results = #[] from rfl) ?_|refine end_none (show Tryz.f99.results = #[] from rfl) ?_
     exact⟨(Qr.of_below (hB.alloc hB.size _) (Nat.le_refl _)).trans hk3,rfl,hr3⟩
  ·have k5h:((U0 l).kind==5)=false:=by rw[←Jz];exact beq_eq_false_iff_ne.2 k5
   obtain rfl:l=l1:=by rw[←hl1];unfold X4;rw[show (Xg l==5)=false from beq_eq_false_iff_ne.2 k5];rfl
   clear hl1 k5;rcases hh:U0 l with ⟨k,z,m,q⟩;have HP:=Dh (Nl b E _ hd w h hh);rw[hh] at k5h;dsimp only at k5h;clear hh;go_enter Tryz.func99,Tryz.ntmps99
   go_wp2_with (first|(go_at_call 32;refine HP.out.mono ?_;rintro e w1 ⟨rfl,hB⟩)|(go_at_call 68;refine(HW.out _ (HR.out.keep (hB.alloc hB.size _))).mono ?_;rintro e w3 ⟨hk3,rfl,hr3⟩))
   first|refine Ko (show Tryz.f99.results = #[] from rfl) ?_|refine end_none (show Tryz.f99.results = #[] from rfl) ?_
   exact⟨(Qr.of_below (hB.alloc hB.size _) (Nat.le_refl _)).trans hk3,rfl,hr3⟩
 |false=>
  rw[hi] at HW;simp only[Bool.false_eq_true,if_false] at HW ⊢;clear hi;by_cases k5:Xg l=5
  ·cases l with
   |nil=>exact absurd k5 Dd
   |cons t l=>
    obtain⟨k,z,m,q⟩:=t;obtain rfl:k=5:=k5;have HP:=Dh (Nl b E _ hd w h (Pm _ l));cases hs:Zq x (⟨5,z,m,q⟩::l) with
    |true=>
     rw[hs] at HS;obtain rfl:l=l1:=by rw[←hl1];unfold X4;rw[hs];rfl
     clear hs hl1;generalize atP E.len l=pl at *;go_enter Tryz.func99,Tryz.ntmps99
     go_wp2_with (first|(go_at_call 32;refine HP.out.mono ?_;rintro e w1 ⟨rfl,hB⟩)|(go_at_call 75;refine(HS.out _ (HR.out.keep (hB.alloc hB.size _))).mono ?_;rintro e w2 ⟨rfl,rfl⟩;obtain⟨g,o,_,c,rfl,hc0,hf0,hnc,hcm,hset⟩:=(HR.out.keep (hB.alloc hB.size (.cells #[.int .i64 5,.string ⟨z.toArray⟩,.int .u64 m,.int .i64 (q:Int)] 46))).cons;have hset:=Dh hset)|(go_at_call 68;refine(HW.out _ (by first|exact hset.out.1 Da|exact hset.out.2 Da)).mono ?_;rintro e w3 ⟨hk3,rfl⟩))
     all_goals exact⟨rfl,((Qr.of_below (hB.alloc hB.size _) (Nat.le_refl _)).trans (Qr.set _ _ _)).trans hk3,rfl⟩
    |false=>
     rw[hs] at HS;obtain rfl:⟨5,z,m,q⟩::l=l1:=by rw[←hl1];unfold X4;rw[hs];rfl
     clear hs hl1;generalize atP E.len _=pl at *;go_enter Tryz.func99,Tryz.ntmps99
     go_wp2_with (first|(go_at_call 32;refine HP.out.mono ?_;rintro e w1 ⟨rfl,hB⟩)|(go_at_call 75;refine(HS.out _ (HR.out.keep (hB.alloc hB.size _))).mono ?_;rintro e w2 ⟨rfl,rfl⟩)|(go_at_call 68;refine(HW.out _ (HR.out.keep (hB.alloc hB.size _))).mono ?_;rintro e w3 ⟨hk3,rfl⟩))
     exact⟨rfl,(Qr.of_below (hB.alloc hB.size _) (Nat.le_refl _)).trans hk3,rfl⟩
  ·have k5h:((U0 l).kind==5)=false:=by rw[←Jz];exact beq_eq_false_iff_ne.2 k5
   obtain rfl:l=l1:=by rw[←hl1];unfold X4;rw[show (Xg l==5)=false from beq_eq_false_iff_ne.2 k5];rfl
   clear hl1 k5;rcases hh:U0 l with ⟨k,z,m,q⟩;have HP:=Dh (Nl b E _ hd w h hh);rw[hh] at k5h;dsimp only at k5h;clear hh;generalize atP E.len l=pl at *;go_enter Tryz.func99,Tryz.ntmps99
   go_wp2_with (first|(go_at_call 32;refine HP.out.mono ?_;rintro e w1 ⟨rfl,hB⟩)|(go_at_call 68;refine(HW.out _ (HR.out.keep (hB.alloc hB.size _))).mono ?_;rintro e w3 ⟨hk3,rfl⟩))
   exact⟨rfl,(Qr.of_below (hB.alloc hB.size _) (Nat.le_refl _)).trans hk3,rfl⟩
theorem begins_c (b:Nat)(E:Env)(l:List Tok)(hd:Bool)(w:World)(h:RdB b E w l hd):Calls Tryz.prog 72 #[rp b] w fun e w'=>e=.returned (.bool (Gn l))∧Below w.heap.size w w':=by
 have HI1:=Dh (fun w1 h1=>is_c b E l hd w1 wSq h1);have HI2:=Dh (fun w1 h1=>is_c b E l hd w1 Dv h1);have HI3:=Dh (fun w1 h1=>is_c b E l hd w1 Yg h1);have HR:=Dh h;unfold Gn;rw[Jz];rcases hh:U0 l with ⟨k,z,m,q⟩;have HP:=Dh (Nl b E _ hd w h hh);have hfl:=Yw (.int .i64 k) (.string ⟨z.toArray⟩) (.int .u64 m) (.int .i64 (q:Int));clear hh;dsimp only;unfold wSq at *;unfold Dv at *;unfold Yg at *;by_cases k1:k=1
 ·subst k1;go_enter Tryz.func72,Tryz.ntmps72
  go_wp2_with (go_at_call 32;refine HP.out.mono ?_;rintro e w1 ⟨rfl,hB⟩)
  go_ret;exact⟨Tu rfl,hB⟩
 ·have k1h:(k==1)=false:=beq_eq_false_iff_ne.2 k1;rw[k1h];generalize isP [91] l=i1 at *;generalize isP [99,104,97,110] l=i2 at *;generalize isP [102,117,110,99] l=i3 at *;cases i1 with
  |true=>
   go_enter Tryz.func72,Tryz.ntmps72
   go_wp2_with (first|(go_at_call 32;refine HP.out.mono ?_;rintro e w1 ⟨rfl,hB⟩)|(go_at_call 44;with_reducible refine(HI1.out _ (HR.out.keep hB)).mono ?_;rintro e w2 ⟨rfl,hB2⟩;have hk:=hB.trans (hB2.mono hB.size)))
   go_ret;exact⟨Tu rfl,hk⟩
  |false=>
   cases i2 with
   |true=>
    go_enter Tryz.func72,Tryz.ntmps72
    go_wp2_with (first|(go_at_call 32;refine HP.out.mono ?_;rintro e w1 ⟨rfl,hB⟩)|(go_at_call 44;with_reducible refine(HI1.out _ (HR.out.keep hB)).mono ?_;rintro e w2 ⟨rfl,hB2⟩;have hk:=hB.trans (hB2.mono hB.size))|(go_at_call 44;with_reducible refine(HI2.out _ (HR.out.keep hk)).mono ?_;rintro e w3 ⟨rfl,hB3⟩;have hk3:=hk.trans (hB3.mono hk.size)))
    go_ret;exact⟨Tu rfl,hk3⟩
   |false=>
    go_enter Tryz.func72,Tryz.ntmps72
    go_wp2_with (first|(go_at_call 32;refine HP.out.mono ?_;rintro e w1 ⟨rfl,hB⟩)|(go_at_call 44;with_reducible refine(HI1.out _ (HR.out.keep hB)).mono ?_;rintro e w2 ⟨rfl,hB2⟩;have hk:=hB.trans (hB2.mono hB.size))|(go_at_call 44;with_reducible refine(HI2.out _ (HR.out.keep hk)).mono ?_;rintro e w3 ⟨rfl,hB3⟩;have hk3:=hk.trans (hB3.mono hk.size))|(go_at_call 44;with_reducible refine(HI3.out _ (HR.out.keep hk3)).mono ?_;rintro e w4 ⟨rfl,hB4⟩;have hk4:=hk3.trans (hB4.mono hk3.size)))
    go_ret;exact⟨Tu Ds,hk4⟩
structure Vo (b q:Nat)(w w':World):Prop where
 os:w'.os=w.os
 tape:w'.tape=w.tape
 output:w'.output=w.output
 size:w.heap.size≤w'.heap.size
 block:∀ k,k<w.heap.size→k≠b→k≠q→w'.heap[k]? = w.heap[k]?
theorem Qr.toQ {b:Nat}{w w':World}(h:Qr b w w')(q:Nat):Vo b q w w':=⟨h.os,h.tape,h.output,h.size,fun k h1 h2 _=>h.block k h1 h2⟩
theorem Vo.trans {b q:Nat}{u v w:World}(h:Vo b q u v)(k:Vo b q v w):Vo b q u w:=
 ⟨k.os.trans h.os,k.tape.trans h.tape,k.output.trans h.output,Nat.le_trans h.size k.size,fun i hi hb hq=>(k.block i (Nat.lt_of_lt_of_le hi h.size) hb hq).trans (h.block i hi hb hq)⟩
theorem Vo.toR {b q:Nat}{u v w:World}(h:Qr b u v)(k:Vo b q v w)(hq:u.heap.size≤q):Qr b u w:=
 ⟨k.os.trans h.os,k.tape.trans h.tape,k.output.trans h.output,Nat.le_trans h.size k.size,fun i hi hb=>(k.block i (Nat.lt_of_lt_of_le hi h.size) hb Dw).trans (h.block i hi hb)⟩
theorem RdB.setHead {b:Nat}{E:Env}{w:World}{l:List Tok}{hd:Bool}(h:RdB b E w l hd)(h2:Bool):RdB b E (w.setCell ⟨b,2,none⟩ (.bool h2)) l h2:=by
 obtain⟨h0,v,h1,h3⟩:=h;exact⟨fun k hk=>(Below.heap_setCell w _ _ k (Nat.ne_of_lt hk)).trans (h0 k hk),v,Qn3 h1 2 _,h3.keep (Qr.set w 2 _)⟩
theorem V3 (b:Nat)(E:Env)(l:List Tok)(hd:Bool)(w:World)(h:RdB b E w l hd)(q:Nat)(cap:Array Value)(S:World→List Tok→Prop)(F:Nat→Prop)
  (hf:∀ w1,RdB b E w1 l false→Qr b w w1→Calls Tryz.prog 98 cap w1 fun e w2=>Vo b q w1 w2∧((e=.returned (.tuple #[])∧∃ l',RdB b E w2 l' false∧S w2 l')∨∃ p,e=failed p∧F p)):
  Calls Tryz.prog 69 #[rp b,.func (.func 98) #[] cap] w fun e w'=>Vo b q w w'∧((e=.returned (.tuple #[])∧∃ l' w2,RdB b E w' l' hd∧S w2 l'∧Qr b w2 w')∨∃ p,e=failed p∧F p):=by
 obtain⟨a,c,h0,h1,h2,h3,h4,-⟩:=h.open_;have HR:=Dh h;have HF:=Dh hf;clear h hf;go_enter Tryz.func69,Tryz.ntmps69
 go_wp2_with (go_at_call 98;refine(HF.out _ (HR.out.setHead false) (Qr.set _ _ _)).mono ?_;rintro e w2 ⟨hk,hq⟩;rcases hq with ⟨rfl,l',hr,hs⟩|⟨p,rfl,hp⟩ <;> try (obtain⟨a2,c2,g0,g1,g2,g3,g4,-⟩:=hr.open_))
 ·refine end_none (show Tryz.f69.results = #[] from rfl) ?_;exact⟨(((Qr.set _ _ _).toQ q).trans hk).trans ((Qr.set _ _ _).toQ q),.inl ⟨rfl,l',w2,hr.setHead hd,hs,Qr.set _ _ _⟩⟩
 ·exact⟨rfl,((Qr.set _ _ _).toQ q).trans hk,.inr ⟨p,rfl,hp⟩⟩
theorem Aa (b:Nat)(E:Env)(l:List Tok)(hd:Bool)(w:World)(h:RdB b E w l hd)(q:Nat)(cap:Array Value)(S:World→List Tok→Prop)(F:Nat→Prop)
  (hf:∀ w1,RdB b E w1 l false→Qr b w w1→Calls Tryz.prog 70 cap w1 fun e w2=>Vo b q w1 w2∧((e=.returned (.tuple #[])∧∃ l',RdB b E w2 l' false∧S w2 l')∨∃ p,e=failed p∧F p)):
  Calls Tryz.prog 69 #[rp b,.func (.func 70) #[] cap] w fun e w'=>Vo b q w w'∧((e=.returned (.tuple #[])∧∃ l' w2,RdB b E w' l' hd∧S w2 l'∧Qr b w2 w')∨∃ p,e=failed p∧F p):=by
 obtain⟨a,c,h0,h1,h2,h3,h4,-⟩:=h.open_;have HR:=Dh h;have HF:=Dh hf;clear h hf;go_enter Tryz.func69,Tryz.ntmps69
 go_wp2_with (go_at_call 70;refine(HF.out _ (HR.out.setHead false) (Qr.set _ _ _)).mono ?_;rintro e w2 ⟨hk,hq⟩;rcases hq with ⟨rfl,l',hr,hs⟩|⟨p,rfl,hp⟩ <;> try (obtain⟨a2,c2,g0,g1,g2,g3,g4,-⟩:=hr.open_))
 ·refine end_none (show Tryz.f69.results = #[] from rfl) ?_;exact⟨(((Qr.set _ _ _).toQ q).trans hk).trans ((Qr.set _ _ _).toQ q),.inl ⟨rfl,l',w2,hr.setHead hd,hs,Qr.set _ _ _⟩⟩
 ·exact⟨rfl,((Qr.set _ _ _).toQ q).trans hk,.inr ⟨p,rfl,hp⟩⟩
theorem within_sel (b:Nat)(E:Env)(l:List Tok)(hd:Bool)(w:World)(h:RdB b E w l hd)(q:Nat)(cap:Array Value)(S:World→List Tok→Prop)(F:Nat→Prop)
  (hf:∀ w1,RdB b E w1 l false→Qr b w w1→Calls Tryz.prog 73 cap w1 fun e w2=>Vo b q w1 w2∧((e=.returned (.tuple #[])∧∃ l',RdB b E w2 l' false∧S w2 l')∨∃ p,e=failed p∧F p)):
  Calls Tryz.prog 69 #[rp b,.func (.func 73) #[] cap] w fun e w'=>Vo b q w w'∧((e=.returned (.tuple #[])∧∃ l' w2,RdB b E w' l' hd∧S w2 l'∧Qr b w2 w')∨∃ p,e=failed p∧F p):=by
 obtain⟨a,c,h0,h1,h2,h3,h4,-⟩:=h.open_;have HR:=Dh h;have HF:=Dh hf;clear h hf;go_enter Tryz.func69,Tryz.ntmps69
 go_wp2_with (go_at_call 73;refine(HF.out _ (HR.out.setHead false) (Qr.set _ _ _)).mono ?_;rintro e w2 ⟨hk,hq⟩;rcases hq with ⟨rfl,l',hr,hs⟩|⟨p,rfl,hp⟩ <;> try (obtain⟨a2,c2,g0,g1,g2,g3,g4,-⟩:=hr.open_))
 ·refine end_none (show Tryz.f69.results = #[] from rfl) ?_;exact⟨(((Qr.set _ _ _).toQ q).trans hk).trans ((Qr.set _ _ _).toQ q),.inl ⟨rfl,l',w2,hr.setHead hd,hs,Qr.set _ _ _⟩⟩
 ·exact⟨rfl,((Qr.set _ _ _).toQ q).trans hk,.inr ⟨p,rfl,hp⟩⟩
theorem within_opnd1 (b:Nat)(E:Env)(l:List Tok)(hd:Bool)(w:World)(h:RdB b E w l hd)(q:Nat)(cap:Array Value)(S:World→List Tok→Prop)(F:Nat→Prop)
  (hf:∀ w1,RdB b E w1 l false→Qr b w w1→Calls Tryz.prog 109 cap w1 fun e w2=>Vo b q w1 w2∧((e=.returned (.tuple #[])∧∃ l',RdB b E w2 l' false∧S w2 l')∨∃ p,e=failed p∧F p)):
  Calls Tryz.prog 69 #[rp b,.func (.func 109) #[] cap] w fun e w'=>Vo b q w w'∧((e=.returned (.tuple #[])∧∃ l' w2,RdB b E w' l' hd∧S w2 l'∧Qr b w2 w')∨∃ p,e=failed p∧F p):=by
 obtain⟨a,c,h0,h1,h2,h3,h4,-⟩:=h.open_;have HR:=Dh h;have HF:=Dh hf;clear h hf;go_enter Tryz.func69,Tryz.ntmps69
 go_wp2_with (go_at_call 109;refine(HF.out _ (HR.out.setHead false) (Qr.set _ _ _)).mono ?_;rintro e w2 ⟨hk,hq⟩;rcases hq with ⟨rfl,l',hr,hs⟩|⟨p,rfl,hp⟩ <;> try (obtain⟨a2,c2,g0,g1,g2,g3,g4,-⟩:=hr.open_))
 ·refine end_none (show Tryz.f69.results = #[] from rfl) ?_;exact⟨(((Qr.set _ _ _).toQ q).trans hk).trans ((Qr.set _ _ _).toQ q),.inl ⟨rfl,l',w2,hr.setHead hd,hs,Qr.set _ _ _⟩⟩
 ·exact⟨rfl,((Qr.set _ _ _).toQ q).trans hk,.inr ⟨p,rfl,hp⟩⟩
theorem within_opnd2 (b:Nat)(E:Env)(l:List Tok)(hd:Bool)(w:World)(h:RdB b E w l hd)(q:Nat)(cap:Array Value)(S:World→List Tok→Prop)(F:Nat→Prop)
  (hf:∀ w1,RdB b E w1 l false→Qr b w w1→Calls Tryz.prog 110 cap w1 fun e w2=>Vo b q w1 w2∧((e=.returned (.tuple #[])∧∃ l',RdB b E w2 l' false∧S w2 l')∨∃ p,e=failed p∧F p)):
  Calls Tryz.prog 69 #[rp b,.func (.func 110) #[] cap] w fun e w'=>Vo b q w w'∧((e=.returned (.tuple #[])∧∃ l' w2,RdB b E w' l' hd∧S w2 l'∧Qr b w2 w')∨∃ p,e=failed p∧F p):=by
 obtain⟨a,c,h0,h1,h2,h3,h4,-⟩:=h.open_;have HR:=Dh h;have HF:=Dh hf;clear h hf;go_enter Tryz.func69,Tryz.ntmps69
 go_wp2_with (go_at_call 110;refine(HF.out _ (HR.out.setHead false) (Qr.set _ _ _)).mono ?_;rintro e w2 ⟨hk,hq⟩;rcases hq with ⟨rfl,l',hr,hs⟩|⟨p,rfl,hp⟩ <;> try (obtain⟨a2,c2,g0,g1,g2,g3,g4,-⟩:=hr.open_))
 ·refine end_none (show Tryz.f69.results = #[] from rfl) ?_;exact⟨(((Qr.set _ _ _).toQ q).trans hk).trans ((Qr.set _ _ _).toQ q),.inl ⟨rfl,l',w2,hr.setHead hd,hs,Qr.set _ _ _⟩⟩
 ·exact⟨rfl,((Qr.set _ _ _).toQ q).trans hk,.inr ⟨p,rfl,hp⟩⟩
end Prs
end
end Go.Proofs.YtcbkeecabcbogaaGreatDoor
