/- Small laws on worlds and quiet calls, for the walks of this -/
import Derived.WalkLawsBesides
import Derived.WalkSpells
import Derived.Handy
import Derived.Lib.Hide
import Derived.Deep.QuietTactic
import Derived.BigQuiet
import Derived.Test.YtcbkeecabcbogaaGreatDoorSaa
import Derived.Below
import Derived.RowKit3
import Derived.Calls
import Derived.Test.YtcbkeecabcbogaaGreatDoorChecked
import Derived.Lib.Walk
import Derived.WalkKit
import Derived.BigCall
import Derived.BigGuard
import Derived.KernelRfl
set_option maxRecDepth 20000
set_option linter.unusedSimpArgs false
set_option linter.unusedVariables false
namespace Go.Proofs.YtcbkeecabcbogaaGreatDoor
section
open Go.RowKit
theorem quiet_eq {P:Program}{f:FuncId}{args:Array Value}{w:World}{n:Nat}{v:Value}
  (h:Calls P f args (w.drewN n) fun e w'=>e=.returned v∧w.drewN n=w'):Calls P f args (w.drewN n) fun e w''=>e=.returned v∧∃ m,w''=w.drewN m:=
 h.mono fun _ _ ⟨he,hm⟩=>⟨he,n,hm.symm⟩
theorem Zg {B:Nat}{a w:World}(h:Below B a w)(n:Nat):Below B a (w.drewN n):=below_drewN h n
theorem Qb {a b c:World}(h:Below a.heap.size a b)(k:Below b.heap.size b c):Below a.heap.size a c:=h.trans (k.mono h.size)
theorem H6 {W w1:World}(hb:Below W.heap.size W w1):(∀ b o,b<W.heap.size→w1.cell? ⟨b,o,none⟩=W.cell? ⟨b,o,none⟩)∧(∀ b o,b<W.heap.size→w1.frozen? ⟨b,o,none⟩=W.frozen? ⟨b,o,none⟩):=
 ⟨fun b o h=>hb.cell (p:=⟨b,o,none⟩) h,fun b o h=>hb.frozen (p:=⟨b,o,none⟩) h⟩
end
section
open Go.RowKit
namespace Prs
structure Qo (b:Nat)(w w':World):Prop where
 os:w'.os=w.os
 tape:w'.tape=w.tape
 output:w'.output=w.output
 size:w.heap.size≤w'.heap.size
 block:∀ k,k<w.heap.size→k≠b→w'.heap[k]? = w.heap[k]?
theorem Qo.refl (b:Nat)(w:World):Qo b w w:=⟨rfl,rfl,rfl,Nat.le_refl _,fun _ _ _=>rfl⟩
theorem Qo.trans {b:Nat}{u v w:World}(h:Qo b u v)(k:Qo b v w):Qo b u w:=
 ⟨k.os.trans h.os,k.tape.trans h.tape,k.output.trans h.output,Nat.le_trans h.size k.size,fun i hi hb=>(k.block i (Nat.lt_of_lt_of_le hi h.size) hb).trans (h.block i hi hb)⟩
theorem Qo.of_below {b B:Nat}{w w':World}(h:Below B w w')(hB:w.heap.size≤B):Qo b w w':=⟨h.os,h.tape,h.output,h.size,fun k hk _=>h.block k (Nat.lt_of_lt_of_le hk hB)⟩
theorem Qo.cell {b:Nat}{w w':World}(h:Qo b w w'){g o:Nat}{v:Value}(hg:g≠b)(hc:w.cell? ⟨g,o,none⟩=some v):w'.cell? ⟨g,o,none⟩=some v:=by
 unfold World.cell? at hc ⊢;dsimp only at hc ⊢;rcases Nat.lt_or_ge g w.heap.size with h1|h1
 ·rw[h.block g h1 hg];exact hc
 ·rw[Array.getElem?_eq_none h1] at hc;cases hc
theorem Qo.set {b:Nat}(w:World)(i:Nat)(v:Value):Qo b w (w.setCell ⟨b,i,none⟩ v):=
 ⟨rfl,rfl,rfl,by simp,fun k _ hk=>Below.heap_setCell w _ _ k hk⟩
def tokL (t:Tok):List Value:=[.int .i64 t.kind,.string ⟨t.text.toArray⟩,.int .u64 t.num,.int .i64 (t.place:Int)]
def Qnh (w:World)(g:Nat):List Tok→Nat→Prop
 | [],_=>True
 |t::l,o=>(∀ i v,(tokL t)[i]? = some v→w.cell? ⟨g,o+i,none⟩=some v)∧Qnh w g l (o+4)
def Qhu (b:Nat)(w:World)(v:Value)(l:List Tok):Prop:=∃ a c,v=.slice a l.length c∧l.length≤c∧c≤maxLen∧(l=[]∨∃ g o,a=some ⟨g,o,none⟩∧g<b∧Qnh w g l o)
theorem Qnh.keep {b:Nat}{w w':World}(h:Qo b w w'){g:Nat}(hg:g≠b):∀ {l:List Tok} {o:Nat},Qnh w g l o→Qnh w' g l o
 | [],_,_=>trivial
 |_::_,_,⟨h1,h2⟩=>⟨fun i v hv=>h.cell hg (h1 i v hv),Qnh.keep h hg h2⟩
theorem Qhu.keep {b:Nat}{w w':World}(h:Qo b w w'){v:Value}{l:List Tok}(k:Qhu b w v l):Qhu b w' v l:=by
 obtain⟨a,c,h1,h2,h3,h4⟩:=k;refine⟨a,c,h1,h2,h3,h4.imp id ?_⟩;rintro⟨g,o,h5,h6,h7⟩;exact⟨g,o,h5,h6,h7.keep h (Nat.ne_of_lt h6)⟩
theorem Uf {w w':World}{g o:Nat}{v:Value}(h:w'.heap[g]? = w.heap[g]?)(hc:w.cell? ⟨g,o,none⟩=some v):w'.cell? ⟨g,o,none⟩=some v:=by
 unfold World.cell? at hc ⊢;dsimp only at hc ⊢;rw[h];exact hc
theorem cell_lt' {w:World}{g o:Nat}{v:Value}(h:w.cell? ⟨g,o,none⟩=some v):g<w.heap.size:=by
 unfold World.cell? at h;dsimp only at h;rcases Nat.lt_or_ge g w.heap.size with h1|h1
 ·exact h1
 ·rw[Array.getElem?_eq_none h1] at h;cases h
theorem Qnh.frame {w w':World}{g:Nat}(h:w'.heap[g]? = w.heap[g]?):∀ {l:List Tok} {o:Nat},Qnh w g l o→Qnh w' g l o
 | [],_,_=>trivial
 |_::_,_,⟨h1,h2⟩=>⟨fun i v hv=>Uf h (h1 i v hv),Qnh.frame h h2⟩
theorem Qhu.frame {b:Nat}{w w':World}(h:∀ k,k<b→w'.heap[k]? = w.heap[k]?){v:Value}{l:List Tok}(k:Qhu b w v l):Qhu b w' v l:=by
 obtain⟨a,c,h1,h2,h3,h4⟩:=k;refine⟨a,c,h1,h2,h3,h4.imp id ?_⟩;rintro⟨g,o,h5,h6,h7⟩;exact⟨g,o,h5,h6,h7.frame (h g h6)⟩
mutual
def X3 (S:Nat→Prop)(w:World):Tr→List Value→Prop
 | .mk k x n p kids,cs=>∃ a c,cs=[.int .i64 (k:Int),.string ⟨x.toArray⟩,.int .u64 (n:Int),.int .i64 (p:Int),.slice a kids.length c]∧(kids=[]∨∃ g o,a=some ⟨g,o,none⟩∧S g∧Xp S w g kids o)
def Xp (S:Nat→Prop)(w:World)(g:Nat):List Tr→Nat→Prop
 | [],_=>True
 |t::l,o=>(∃ v0 v1 v2 v3 v4,w.cell? ⟨g,o,none⟩=some v0∧w.cell? ⟨g,o+1,none⟩=some v1∧w.cell? ⟨g,o+2,none⟩=some v2∧w.cell? ⟨g,o+3,none⟩=some v3∧w.cell? ⟨g,o+4,none⟩=some v4∧X3 S w t [v0,v1,v2,v3,v4])∧Xp S w g l (o+5)
end
def Zd (S:Nat→Prop)(w:World)(t:Tr)(v:Value):Prop:=∃ cs,v=.agg cs.toArray∧X3 S w t cs
mutual
theorem X3.frame {S S':Nat→Prop}{w w':World}(hlo:∀ k,S k→k<w.heap.size→S' k)(h:∀ k,S k→k<w.heap.size→w'.heap[k]? = w.heap[k]?):∀ {t:Tr} {cs:List Value},X3 S w t cs→X3 S' w' t cs
 | .mk k x n p kids,cs,hc=>by
  unfold X3 at hc ⊢;obtain⟨a,c,h1,h2⟩:=hc;refine⟨a,c,h1,?_⟩;rcases h2 with h2|⟨g,o,h3,h4,h5⟩
  ·exact .inl h2
  ·by_cases hk:kids=[]
   ·exact .inl hk
   ·refine .inr ⟨g,o,h3,hlo g h4 ?_,Xp.frame hlo h h4 h5⟩;obtain⟨t,l,rfl⟩:=List.exists_cons_of_ne_nil hk;unfold Xp at h5;obtain⟨⟨v0,v1,v2,v3,v4,k0,-⟩,-⟩:=h5;exact cell_lt' k0
theorem Xp.frame {S S':Nat→Prop}{w w':World}(hlo:∀ k,S k→k<w.heap.size→S' k)(h:∀ k,S k→k<w.heap.size→w'.heap[k]? = w.heap[k]?){g:Nat}(hg:S g):∀ {l:List Tr} {o:Nat},Xp S w g l o→Xp S' w' g l o
 | [],_,_=>by unfold Xp;trivial
 |t::l,o,hr=>by
  unfold Xp at hr ⊢;obtain⟨⟨v0,v1,v2,v3,v4,h0,h1,h2,h3,h4,h5⟩,h6⟩:=hr;have hgg:=h g hg (cell_lt' h0);exact⟨⟨v0,v1,v2,v3,v4,Uf hgg h0,Uf hgg h1,Uf hgg h2,Uf hgg h3,Uf hgg h4,X3.frame hlo h h5⟩,Xp.frame hlo h hg h6⟩
end
theorem Zd.frame {S S':Nat→Prop}{w w':World}(hlo:∀ k,S k→k<w.heap.size→S' k)(h:∀ k,S k→k<w.heap.size→w'.heap[k]? = w.heap[k]?){t:Tr}{v:Value}(k:Zd S w t v):Zd S' w' t v:=by
 obtain⟨cs,h1,h2⟩:=k;exact⟨cs,h1,h2.frame hlo h⟩
abbrev rp (b:Nat):Value:=.pointer (some ⟨b,0,none⟩)
structure Env where
 len:Nat
 w0:World
def RdB (b:Nat)(E:Env)(w:World)(l:List Tok)(hd:Bool):Prop:=(∀ k,k<b→w.heap[k]? = E.w0.heap[k]?)∧∃ v,w.heap[b]? = some (.cells #[v,.int .i64 (E.len:Int),.bool hd] 61 (0,0))∧Qhu b w v l
theorem RdB.open_ {b:Nat}{E:Env}{w:World}{l:List Tok}{hd:Bool}(h:RdB b E w l hd):∃ a c,w.cell? ⟨b,0,none⟩=some (.slice a l.length c)∧w.cell? ⟨b,1,none⟩=some (.int .i64 (E.len:Int))∧w.cell? ⟨b,2,none⟩=some (.bool hd)∧w.frozen? ⟨b,0,none⟩=false∧w.frozen? ⟨b,2,none⟩=false∧l.length≤c∧c≤maxLen∧(l=[]∨∃ g o,a=some ⟨g,o,none⟩∧g<b∧Qnh w g l o):=by
 obtain⟨-,v,hb,a,c,rfl,h1,h2,h3⟩:=h;refine⟨a,c,?_,?_,?_,?_,?_,h1,h2,h3⟩
 ·unfold World.cell?;rw[hb];rfl
 ·unfold World.cell?;rw[hb];rfl
 ·unfold World.cell?;rw[hb];rfl
 ·unfold World.frozen?;rw[hb];rfl
 ·unfold World.frozen?;rw[hb];rfl
theorem at_c (b:Nat)(E:Env)(l:List Tok)(hd:Bool)(w:World)(h:RdB b E w l hd):Calls Tryz.prog 43 #[rp b] w fun e w'=>e=.returned (.int .i64 (atP E.len l:Int))∧w'=w:=by
 obtain⟨a,c,h0,h1,-,-,-,hlc,-,ht⟩:=h.open_;cases l with
 |nil=>
  go_enter Tryz.func43,Tryz.ntmps43
  go_wp2
  go_ret;exact⟨rfl,rfl⟩
 |cons t l=>
  obtain⟨g,o,rfl,hg,htok⟩:=ht.resolve_left Ds;have h3:=htok.1 3 _ rfl;obtain⟨n,hn⟩:∃ n,(t::l).length=n+1:=⟨l.length,rfl⟩;rw[hn] at h0 hlc;have hne:¬ ((n+1:Nat):Int)=0:=by omega
  clear htok ht hn;go_enter Tryz.func43,Tryz.ntmps43
  go_wp2
  go_ret;exact⟨rfl,rfl⟩
def Tz:List Tok→Tok
 | []=>⟨0,[],0,0⟩
 |t::_=>t
abbrev tokA (t:Tok):Value:=.agg #[.int .i64 t.kind,.string ⟨t.text.toArray⟩,.int .u64 t.num,.int .i64 (t.place:Int)]
theorem Qsa {w:World}{g o:Nat}{v:Value}(h:w.cell? ⟨g,o,none⟩=some v):g<w.heap.size:=by
 unfold World.cell? at h;dsimp only at h;rcases Nat.lt_or_ge g w.heap.size with h1|h1
 ·exact h1
 ·rw[Array.getElem?_eq_none h1] at h;cases h
theorem Qkl {fn:Func}{p:Tmp}{ty t:TypeId}{R:Ending→World→Prop}{tmps:Array Value}{W:World}{g:Nat}{cs:Array Value}{fr:Nat×Nat}{fs:Array Field}(h:fn.results = #[.cell p ty])
  (hu:(Tryz.prog).underlying ty=some (.struct fs)) (hi:((Tryz.prog).info? ty).map (·.size)=some cs.size)
  (hp:tmps.getD p undef=.pointer (some ⟨g,0,none⟩)) (hg:W.heap[g]? = some (.cells cs t fr)) (hR:R (.returned (.agg cs)) W):bodyPost Tryz.prog fn R .ret ⟨tmps,[]⟩ W:=
 bodyPost_ret_by (results_cell_row h tmps W g t cs fr _ hp hg hu rfl hi) rfl hR
theorem Qz (w:World)(o:Obj):(w.alloc o).heap[w.heap.size]? = some o:=by
 show (w.heap.push o)[w.heap.size]? = some o
 simp
theorem Qre {W:World}{g:Nat}{cs:Array Value}{t:TypeId}{fr:Nat×Nat}(h:W.heap[g]? = some (.cells cs t fr))(i:Nat)(v:Value):(W.setCell ⟨g,i,none⟩ v).heap[g]? = some (.cells (cs.setIfInBounds i v) t fr):=by
 simp only[World.setCell,Array.getElem?_modify,if_true,h,Option.map_some];rfl
theorem Az (b:Nat)(E:Env)(l:List Tok)(hd:Bool)(w:World)(h:RdB b E w l hd):Calls Tryz.prog 32 #[rp b] w fun e w'=>e=.returned (tokA (Tz l))∧Below w.heap.size w w':=by
 have hb:b<w.heap.size:=by
  obtain⟨-,v,h1,-⟩:=h;exact(Array.getElem?_eq_some_iff.1 h1).1
 obtain⟨a,c,h0,h1,-,-,-,hlc,-,ht⟩:=h.open_;cases l with
 |nil=>
  go_enter Tryz.func32,Tryz.ntmps32
  go_wp2
  refine Qkl (g:=w.heap.size) (cs := #[.int .i64 0,.string ⟨#[]⟩,.int .u64 0,.int .i64 0]) (show Tryz.f32.results = #[.cell 2 46] from rfl) Tryz.underlying46 ?_ ?_ (Qz _ _) ?_
  ·kernel_rfl
  ·rfl
  ·exact⟨rfl,(Below.refl _ _).alloc (Nat.le_refl _) _⟩
 |cons t l=>
  obtain⟨g,o,rfl,hg,htok⟩:=ht.resolve_left Ds;have h3:=htok.1 3 _ rfl;have h4:=htok.1 2 _ rfl;have h5:=htok.1 1 _ rfl;have h6:w.cell? ⟨g,o,none⟩=some (.int .i64 t.kind):=htok.1 0 _ rfl;have hgl:=Qsa h6;obtain⟨n,hn⟩:∃ n,(t::l).length=n+1:=⟨l.length,rfl⟩;rw[hn] at h0 hlc;have hne:¬ ((n+1:Nat):Int)=0:=by omega
  clear htok ht hn;go_enter Tryz.func32,Tryz.ntmps32
  go_wp2
  refine Qkl (g:=w.heap.size) (cs := #[.int .i64 t.kind,.string ⟨t.text.toArray⟩,.int .u64 t.num,.int .i64 (t.place:Int)]) (show Tryz.f32.results = #[.cell 2 46] from rfl) Tryz.underlying46 ?_ ?_ (Qz _ _) ?_
  ·kernel_rfl
  ·rfl
  ·exact⟨rfl,(Below.refl _ _).alloc (Nat.le_refl _) _⟩
theorem Gu (l:List Tok):Xn l=(Tz l).kind:=by cases l <;> rfl
theorem Q5 (l:List Tok):Zo l=(Tz l).text:=by cases l <;> rfl
theorem Vq {a b:Bool}(h:a=b):Ending.returned (.bool a)=.returned (.bool b):=by rw[h]
theorem is_c (b:Nat)(E:Env)(l:List Tok)(hd:Bool)(w:World)(x:List UInt8)(h:RdB b E w l hd):Calls Tryz.prog 44 #[rp b,.string ⟨x.toArray⟩] w fun e w'=>e=.returned (.bool (isP x l))∧Below w.heap.size w w':=by
 have hp:=Az b E l hd w h;unfold isP;rw[Gu,Q5];generalize Tz l=t at *;obtain⟨k,z,m,p⟩:=t;dsimp only at *;have HP:=Dh hp;clear hp;by_cases k3:k=3
 ·subst k3;go_enter Tryz.func44,Tryz.ntmps44
  go_wp2_with (go_at_call 32;refine HP.out.mono ?_;rintro e w1 ⟨rfl,hB⟩)
  go_ret;exact⟨Vq Ds,hB.alloc hB.size _⟩
 ·have k3':(k==3)=false:=beq_eq_false_iff_ne.2 k3;by_cases k4:k=4
  ·subst k4;go_enter Tryz.func44,Tryz.ntmps44
   go_wp2_with (go_at_call 32;refine HP.out.mono ?_;rintro e w1 ⟨rfl,hB⟩)
   go_ret;exact⟨Vq Ds,hB.alloc hB.size _⟩
  ·have k4':(k==4)=false:=beq_eq_false_iff_ne.2 k4;go_enter Tryz.func44,Tryz.ntmps44
   go_wp2_with (go_at_call 32;refine HP.out.mono ?_;rintro e w1 ⟨rfl,hB⟩)
   go_ret;exact⟨Vq (by rw[k3',k4'];rfl),hB.alloc hB.size _⟩
theorem RdB.keep {b:Nat}{E:Env}{w w':World}{l:List Tok}{hd:Bool}(h:RdB b E w l hd)(k:Below w.heap.size w w'):RdB b E w' l hd:=by
 obtain⟨h0,v,h1,h2⟩:=h;have hb:=(Array.getElem?_eq_some_iff.1 h1).1;exact⟨fun i hi=>(k.block i (Nat.lt_trans hi hb)).trans (h0 i hi),v,(k.block b hb).trans h1,h2.keep (Qo.of_below k (Nat.le_refl _))⟩
theorem RdB.frame {b:Nat}{E:Env}{w w':World}{l:List Tok}{hd:Bool}(h:RdB b E w l hd)(k:∀ i,i≤b→w'.heap[i]? = w.heap[i]?):RdB b E w' l hd:=by
 obtain⟨h0,v,h1,h2⟩:=h;exact⟨fun i hi=>(k i (Nat.le_of_lt hi)).trans (h0 i hi),v,(k b (Nat.le_refl _)).trans h1,h2.frame fun i hi=>k i (Nat.le_of_lt hi)⟩
theorem RdB.lt {b:Nat}{E:Env}{w:World}{l:List Tok}{hd:Bool}(h:RdB b E w l hd):b<w.heap.size:=by
 obtain⟨-,v,h1,-⟩:=h;exact(Array.getElem?_eq_some_iff.1 h1).1
theorem Qrs {b:Nat}{E:Env}{w:World}{t:Tok}{l:List Tok}{hd:Bool}{a:Option Addr}{c:Nat}(he:∀ k,k<b→w.heap[k]? = E.w0.heap[k]?)(h:w.heap[b]? = some (.cells #[.slice a (l.length+1) c,.int .i64 (E.len:Int),.bool hd] 61 (0,0)))(hc:l.length+1≤c)(hm:c≤maxLen)(ht:∃ g o,a=some ⟨g,o,none⟩∧g<b∧Qnh w g (t::l) o)
  {v:Value} (hv:v=.slice (if c=1 then a else a.map (·.add (1*4))) (l.length+1-1) (c-1)):RdB b E (w.setCell ⟨b,0,none⟩ v) l hd:=by
 subst hv;obtain⟨g,o,rfl,hg,h1,h2⟩:=ht;have hk:=Qo.set w (b:=b) 0 (.slice (if c=1 then some ⟨g,o,none⟩ else (some ⟨g,o,none⟩:Option Addr).map (·.add (1*4))) (l.length+1-1) (c-1));refine⟨fun k hk=>(Below.heap_setCell w _ _ k (Nat.ne_of_lt hk)).trans (he k hk),_,Qre h 0 _,_,_,by rw[Nat.add_sub_cancel],by omega,by omega,?_⟩;cases l with
 |nil=>exact .inl rfl
 |cons u l=>
  right;have hc1:c≠1:=by simp at hc;omega
  refine⟨g,o+4,?_,hg,h2.keep hk (Nat.ne_of_lt hg)⟩;rw[if_neg hc1];rfl
theorem RdB.cons {b:Nat}{E:Env}{w:World}{t:Tok}{l:List Tok}{hd:Bool}(h:RdB b E w (t::l) hd):∃ g o n c,n=l.length∧w.cell? ⟨b,0,none⟩=some (.slice (some ⟨g,o,none⟩) (n+1) c)∧w.frozen? ⟨b,0,none⟩=false∧n+1≤c∧c≤maxLen∧
  (c=1→RdB b E (w.setCell ⟨b,0,none⟩ (.slice (some ⟨g,o,none⟩) n 0)) l hd)∧(c≠1→RdB b E (w.setCell ⟨b,0,none⟩ (.slice (some ⟨g,o+4,none⟩) n (c-1))) l hd):=by
 obtain⟨he,v,hb,a,c,rfl,h1,h2,h3⟩:=h;obtain⟨g,o,rfl,h4,h5⟩:=h3.resolve_left Ds;refine⟨g,o,l.length,c,rfl,?_,?_,h1,h2,fun hc=>?_,fun hc=>?_⟩
 ·unfold World.cell?;rw[hb];rfl
 ·unfold World.frozen?;rw[hb];rfl
 ·refine Qrs he hb h1 h2 ⟨g,o,rfl,h4,h5⟩ ?_;rw[if_pos hc,hc,Nat.add_sub_cancel]
 ·refine Qrs he hb h1 h2 ⟨g,o,rfl,h4,h5⟩ ?_;rw[if_neg hc,Nat.add_sub_cancel];rfl
theorem Qde (b:Nat)(E:Env)(l:List Tok)(hd:Bool)(w:World)(x:List UInt8)(h:RdB b E w l hd):Calls Tryz.prog 46 #[rp b,.string ⟨x.toArray⟩] w fun e w'=>e=.returned (.bool (isP x l))∧Qo b w w'∧RdB b E w' (if isP x l then l.tail else l) hd:=by
 have HI:=Dh (is_c b E l hd w x h);have HR:=Dh h;cases hi:isP x l with
 |false=>
  rw[hi] at HI;clear hi;go_enter Tryz.func46,Tryz.ntmps46
  go_wp2_with (go_at_call 44;refine HI.out.mono ?_;rintro e w1 ⟨rfl,hB⟩)
  go_ret;exact⟨rfl,Qo.of_below hB (Nat.le_refl _),HR.out.keep hB⟩
 |true=>
  rw[hi] at HI;cases l with
  |nil=>cases hi
  |cons t l=>
   clear hi;go_enter Tryz.func46,Tryz.ntmps46
   go_wp2_with (go_at_call 44;refine HI.out.mono ?_;rintro e w1 ⟨rfl,hB⟩;obtain⟨g,o,_,c,rfl,hc0,hf0,hnc,hcm,hset⟩:=(HR.out.keep hB).cons;have hset:=Dh hset)
   ·go_ret;exact⟨rfl,(Qo.of_below hB (Nat.le_refl _)).trans (Qo.set _ _ _),hset.out.1 Da⟩
   ·rename_i hc1;go_ret;exact⟨rfl,(Qo.of_below hB (Nat.le_refl _)).trans (Qo.set _ _ _),hset.out.2 Da⟩
abbrev Vw (p:Nat):Value:=.iface 58 (.agg #[.int .i64 (p:Int)])
abbrev failed (p:Nat):Ending:=.panicked [{ v:=Vw p,recovered:=false }]
theorem Qej (b:Nat)(E:Env)(l:List Tok)(hd:Bool)(w:World)(h:RdB b E w l hd):Calls Tryz.prog 33 #[rp b] w fun e w'=>e=failed (atP E.len l)∧w'=w:=by
 have HA:=Dh (at_c b E l hd w h);generalize atP E.len l=p at *;go_enter Tryz.func33,Tryz.ntmps33
 go_wp2_with (go_at_call 43;refine HA.out.mono ?_;rintro e w1 ⟨rfl,rfl⟩)
 exact⟨rfl,rfl,rfl⟩
theorem Ai (b:Nat)(E:Env)(l:List Tok)(hd:Bool)(w:World)(x:List UInt8)(h:RdB b E w l hd):Calls Tryz.prog 68 #[rp b,.string ⟨x.toArray⟩] w fun e w'=>Qo b w w'∧(if isP x l then e=.returned (.int .i64 (atP E.len l:Int))∧RdB b E w' l.tail hd else e=failed (atP E.len l)):=by
 have HA:=Dh (at_c b E l hd w h);have HT:=Dh (Qde b E l hd w x h);have HF:=Dh (fun w1 h1=>Qej b E l hd w1 h1);cases hi:isP x l with
 |true=>
  rw[hi] at HT;generalize atP E.len l=p at *;go_enter Tryz.func68,Tryz.ntmps68
  go_wp2_with (first|(go_at_call 43;refine HA.out.mono ?_;rintro e w1 ⟨rfl,rfl⟩)|(go_at_call 46;refine HT.out.mono ?_;rintro e w2 ⟨rfl,hk,hr⟩))
  go_ret;exact⟨hk,by simpa using hr⟩
 |false=>
  rw[hi] at HT;generalize atP E.len l=p at *;go_enter Tryz.func68,Tryz.ntmps68
  go_wp2_with (first|(go_at_call 43;refine HA.out.mono ?_;rintro e w1 ⟨rfl,rfl⟩)|(go_at_call 46;refine HT.out.mono ?_;rintro e w2 ⟨rfl,hk,hr⟩)|(go_at_call 33;refine(HF.out _ (by simpa using hr)).mono ?_;rintro e w3 ⟨rfl,rfl⟩))
  exact⟨rfl,hk,rfl⟩
theorem Qmf (b:Nat)(E:Env)(l:List Tok)(hd:Bool)(w:World)(x:List UInt8)(h:RdB b E w l hd):Calls Tryz.prog 75 #[rp b,.string ⟨x.toArray⟩] w fun e w'=>e=.returned (.bool (Je x l))∧w'=w:=by
 obtain⟨a,c,h0,h1,-,-,-,hlc,-,ht⟩:=h.open_;rcases l with _|⟨t,_|⟨u,l⟩⟩
 ·go_enter Tryz.func75,Tryz.ntmps75
  go_wp2
  go_ret;exact⟨rfl,rfl⟩
 ·go_enter Tryz.func75,Tryz.ntmps75
  go_wp2
  go_ret;exact⟨rfl,rfl⟩
 ·obtain⟨g,o,rfl,hg,htok⟩:=ht.resolve_left Ds;have h3:=htok.2.1 1 _ rfl;have h4:w.cell? ⟨g,o+4,none⟩=some (.int .i64 u.kind):=htok.2.1 0 _ rfl;obtain⟨n,hn⟩:∃ n,(t::u::l).length=n+2:=⟨l.length,rfl⟩;rw[hn] at h0 hlc;have hne:(1:Int)<((n+2:Nat):Int):=by omega
  clear htok ht hn h;obtain⟨k,z,m,p⟩:=u;dsimp only at h3 h4;by_cases k4:k=4
  ·subst k4;rw[show Je x (t::⟨4,z,m,p⟩::l)=(z==x) by simp[Je]];go_enter Tryz.func75,Tryz.ntmps75
   go_wp2
   go_ret;exact⟨rfl,rfl⟩
  ·have k4':(k==4)=false:=beq_eq_false_iff_ne.2 k4;rw[show Je x (t::⟨k,z,m,p⟩::l)=false by simp[Je,k4]];go_enter Tryz.func75,Tryz.ntmps75
   go_wp2
   go_ret;exact⟨rfl,rfl⟩
theorem Qo.drewN {b:Nat}{w w':World}(h:Qo b w w')(n:Nat):Qo b w (w'.drewN n):=⟨h.os,h.tape,h.output,h.size,h.block⟩
theorem RdB.drewN {b:Nat}{E:Env}{w:World}{l:List Tok}{hd:Bool}(h:RdB b E w l hd)(n:Nat):RdB b E (w.drewN n) l hd:=by
 obtain⟨h0,v,h1,h2⟩:=h;exact⟨h0,v,h1,h2.keep ((Qo.refl b w).drewN n)⟩
theorem Ce (t:Tok)(l:List Tok):Tz (t::l)=t:=rfl
theorem Qmq (b:Nat)(E:Env)(l:List Tok)(hd:Bool)(w:World)(h:RdB b E w l hd):Calls Tryz.prog 47 #[rp b] w fun e w'=>Qo b w w'∧(if Xn l==1 then e=.returned (.tuple #[.string ⟨(Zo l).toArray⟩,.int .i64 (Jy l:Int)])∧RdB b E w' l.tail hd else e=failed (atP E.len l)):=by
 have HP:=Dh (Az b E l hd w h);have HF:=Dh (fun w1 h1=>Qej b E l hd w1 h1);have HR:=Dh h;cases l with
 |nil=>
  simp only[show (Xn []==1)=false from rfl,Bool.false_eq_true,if_false];generalize atP E.len []=p at *;go_enter Tryz.func47,Tryz.ntmps47
  go_wp2_with (first|(go_at_call 32;refine HP.out.mono ?_;rintro e w1 ⟨rfl,hB⟩)|(go_at_call 33;refine(HF.out _ (HR.out.keep (hB.alloc hB.size _))).mono ?_;rintro e w3 ⟨rfl,rfl⟩))
  exact⟨rfl,Qo.of_below (hB.alloc hB.size _) (Nat.le_refl _),rfl⟩
 |cons t l=>
  obtain⟨k,z,m,q⟩:=t;rw[Ce] at HP;by_cases k1:k=1
  ·subst k1;simp only[show (Xn (⟨1,z,m,q⟩::l)==1)=true from rfl,if_true];go_enter Tryz.func47,Tryz.ntmps47
   go_wp2_with (first|(go_at_call 32;refine HP.out.mono ?_;rintro e w1 ⟨rfl,hB⟩;obtain⟨g,o,_,c,rfl,hc0,hf0,hnc,hcm,hset⟩:=(HR.out.keep (hB.alloc hB.size (.cells #[.int .i64 1,.string ⟨z.toArray⟩,.int .u64 m,.int .i64 (q:Int)] 46))).cons;have hset:=Dh hset))
   all_goals
    go_quiet (fail)
    go_wp2
    go_ret2
    refine⟨((Qo.of_below (hB.alloc hB.size _) (Nat.le_refl _)).trans (Qo.set _ _ _)).drewN _,rfl,RdB.drewN ?_ _⟩;first|exact hset.out.1 Da|exact hset.out.2 Da
  ·have k1':(k==1)=false:=beq_eq_false_iff_ne.2 k1;have k1'':(k != 1)=true:=by rw[bne,k1'];rfl
   simp only[show (Xn (⟨k,z,m,q⟩::l)==1)=false from k1',Bool.false_eq_true,if_false];generalize atP E.len _=p at *;go_enter Tryz.func47,Tryz.ntmps47
   go_wp2_with (first|(go_at_call 32;refine HP.out.mono ?_;rintro e w1 ⟨rfl,hB⟩)|(go_at_call 33;refine(HF.out _ (HR.out.keep (hB.alloc hB.size _))).mono ?_;rintro e w3 ⟨rfl,rfl⟩))
   exact⟨rfl,Qo.of_below (hB.alloc hB.size _) (Nat.le_refl _),rfl⟩
theorem Eo (b:Nat)(E:Env)(l:List Tok)(hd:Bool)(w:World)(h:RdB b E w l hd){k:Int}{z:List UInt8}{m:Int}{q:Nat}(hh:Tz l=⟨k,z,m,q⟩):Calls Tryz.prog 32 #[rp b] w fun e w'=>e=.returned (.agg #[.int .i64 k,.string ⟨z.toArray⟩,.int .u64 m,.int .i64 (q:Int)])∧Below w.heap.size w w':=by
 have:=Az b E l hd w h;rw[hh] at this;exact this
theorem Jm {fn:Func}{R:Ending→World→Prop}{tmps:Array Value}{W:World}(h:fn.results = #[])(hR:R (.returned (.tuple #[])) W):bodyPost Tryz.prog fn R .ret ⟨tmps,[]⟩ W:=
 bodyPost_ret_by (by simp[results,h]) rfl hR
theorem end_none {fn:Func}{R:Ending→World→Prop}{tmps:Array Value}{W:World}(h:fn.results = #[])(hR:R (.returned (.tuple #[])) W):bodyPost Tryz.prog fn R .normal ⟨tmps,[]⟩ W:=
 ⟨rfl,.tuple #[],by simp[results,h],hR⟩
theorem Jo (v0 v1 v2 v3:Value):∀ W,(Instr.field 46 (.agg #[v0,v1,v2,v3]) 0).run Tryz.prog W=.ok v0 W:=fun _=>by kernel_rfl
theorem semi_c (b:Nat)(E:Env)(l:List Tok)(hd:Bool)(w:World)(x:List UInt8)(h:RdB b E w l hd):Calls Tryz.prog 55 #[rp b,.string ⟨x.toArray⟩] w fun e w'=>Qo b w w'∧(if Xn l==5 then e=.returned (.tuple #[])∧RdB b E w' l.tail hd else if isP x l then e=.returned (.tuple #[])∧RdB b E w' l hd else e=failed (atP E.len l)):=by
 have HI:=Dh (fun w1 h1=>is_c b E l hd w1 x h1);have HF:=Dh (fun w1 h1=>Qej b E l hd w1 h1);have HR:=Dh h;by_cases k5:Xn l=5
 ·cases l with
  |nil=>exact absurd k5 Dd
  |cons t l=>
   obtain⟨k,z,m,q⟩:=t;obtain rfl:k=5:=k5;have HP:=Dh (Eo b E _ hd w h (Ce _ l));have hfl:=Jo (.int .i64 5) (.string ⟨z.toArray⟩) (.int .u64 m) (.int .i64 (q:Int));simp only[show (Xn (⟨5,z,m,q⟩::l)==5)=true from rfl,if_true];go_enter Tryz.func55,Tryz.ntmps55
   go_wp2_with (first|(go_at_call 32;refine HP.out.mono ?_;rintro e w1 ⟨rfl,hB⟩;obtain⟨g,o,_,c,rfl,hc0,hf0,hnc,hcm,hset⟩:=(HR.out.keep hB).cons;have hset:=Dh hset))
   all_goals
    first|refine Jm (show Tryz.f55.results = #[] from rfl) ?_|refine end_none (show Tryz.f55.results = #[] from rfl) ?_
    refine⟨(Qo.of_below hB (Nat.le_refl _)).trans (Qo.set _ _ _),rfl,?_⟩;first|exact hset.out.1 Da|exact hset.out.2 Da
 ·have k5':(Xn l==5)=false:=beq_eq_false_iff_ne.2 k5;have k5h:((Tz l).kind==5)=false:=by rw[←Gu];exact k5'
  simp only[k5',Bool.false_eq_true,if_false];rcases hh:Tz l with ⟨k,z,m,q⟩;have HP:=Dh (Eo b E _ hd w h hh);have hfl:=Jo (.int .i64 k) (.string ⟨z.toArray⟩) (.int .u64 m) (.int .i64 (q:Int));rw[hh] at k5h;dsimp only at k5h;clear hh;cases hi:isP x l with
  |true=>
   rw[hi] at HI;simp only[if_true];clear k5 k5';go_enter Tryz.func55,Tryz.ntmps55
   go_wp2_with (first|(go_at_call 32;refine HP.out.mono ?_;rintro e w1 ⟨rfl,hB⟩)|(go_at_call 44;refine(HI.out _ (HR.out.keep hB)).mono ?_;rintro e w2 ⟨rfl,hB2⟩))
   first|refine Jm (show Tryz.f55.results = #[] from rfl) ?_|refine end_none (show Tryz.f55.results = #[] from rfl) ?_
   have hk:=hB.trans (hB2.mono hB.size);exact⟨Qo.of_below hk (Nat.le_refl _),rfl,HR.out.keep hk⟩
  |false=>
   rw[hi] at HI;simp only[Bool.false_eq_true,if_false];clear k5 k5';generalize atP E.len l=p at *;go_enter Tryz.func55,Tryz.ntmps55
   go_wp2_with (first|(go_at_call 32;refine HP.out.mono ?_;rintro e w1 ⟨rfl,hB⟩)|(go_at_call 44;refine(HI.out _ (HR.out.keep hB)).mono ?_;rintro e w2 ⟨rfl,hB2⟩;have hk:=hB.trans (hB2.mono hB.size))|(go_at_call 33;refine(HF.out _ (HR.out.keep hk)).mono ?_;rintro e w3 ⟨rfl,rfl⟩))
   exact⟨rfl,Qo.of_below hk (Nat.le_refl _),rfl⟩
def X7 (x:List UInt8)(l:List Tok):List Tok:=if Xn l==5&&Je x l then l.tail else l
theorem Rz (E_:Nat)(x:List UInt8)(l:List Tok):Qgp E_ x l=Ub E_ x (X7 x l):=rfl
theorem shut_c (b:Nat)(E:Env)(l:List Tok)(hd:Bool)(w:World)(x:List UInt8)(h:RdB b E w l hd):Calls Tryz.prog 99 #[rp b,.string ⟨x.toArray⟩] w fun e w'=>Qo b w w'∧(if isP x (X7 x l) then e=.returned (.tuple #[])∧RdB b E w' (X7 x l).tail hd else e=failed (atP E.len (X7 x l))):=by
 have HS:=Dh (fun w1 h1=>Qmf b E l hd w1 x h1);have HR:=Dh h;generalize hl1:X7 x l=l1;have HW:=Dh (fun w1 h1=>Ai b E l1 hd w1 x h1);cases hi:isP x l1 with
 |true=>
  rw[hi] at HW;simp only[if_true] at HW ⊢;clear hi;by_cases k5:Xn l=5
  ·cases l with
   |nil=>exact absurd k5 Dd
   |cons t l=>
    obtain⟨k,z,m,q⟩:=t;obtain rfl:k=5:=k5;have HP:=Dh (Eo b E _ hd w h (Ce _ l));cases hs:Je x (⟨5,z,m,q⟩::l) with
    |true=>
     rw[hs] at HS;obtain rfl:l=l1:=by rw[←hl1];unfold X7;rw[hs];rfl
     clear hs hl1;go_enter Tryz.func99,Tryz.ntmps99
     go_wp2_with (first|(go_at_call 32;refine HP.out.mono ?_;rintro e w1 ⟨rfl,hB⟩)|(go_at_call 75;refine(HS.out _ (HR.out.keep (hB.alloc hB.size _))).mono ?_;rintro e w2 ⟨rfl,rfl⟩;obtain⟨g,o,_,c,rfl,hc0,hf0,hnc,hcm,hset⟩:=(HR.out.keep (hB.alloc hB.size (.cells #[.int .i64 5,.string ⟨z.toArray⟩,.int .u64 m,.int .i64 (q:Int)] 46))).cons;have hset:=Dh hset)|(go_at_call 68;refine(HW.out _ (by first|exact hset.out.1 Da|exact hset.out.2 Da)).mono ?_;rintro e w3 ⟨hk3,rfl,hr3⟩))
     all_goals
      first|refine Jm (show Tryz.f99.results = #[] from rfl) ?_|refine end_none (show Tryz.f99.results = #[] from rfl) ?_
      exact⟨((Qo.of_below (hB.alloc hB.size _) (Nat.le_refl _)).trans (Qo.set _ _ _)).trans hk3,rfl,hr3⟩
    |false=>
     rw[hs] at HS;obtain rfl:⟨5,z,m,q⟩::l=l1:=by rw[←hl1];unfold X7;rw[hs];rfl
     clear hs hl1;go_enter Tryz.func99,Tryz.ntmps99
     go_wp2_with (first|(go_at_call 32;refine HP.out.mono ?_;rintro e w1 ⟨rfl,hB⟩)|(go_at_call 75;refine(HS.out _ (HR.out.keep (hB.alloc hB.size _))).mono ?_;rintro e w2 ⟨rfl,rfl⟩)|(go_at_call 68;refine(HW.out _ (HR.out.keep (hB.alloc hB.size _))).mono ?_;rintro e w3 ⟨hk3,rfl,hr3⟩))
     first|refine Jm (show Tryz.f99.results = #[] from rfl) ?_|refine end_none (show Tryz.f99.results = #[] from rfl) ?_
     exact⟨(Qo.of_below (hB.alloc hB.size _) (Nat.le_refl _)).trans hk3,rfl,hr3⟩
  ·have k5h:((Tz l).kind==5)=false:=by rw[←Gu];exact beq_eq_false_iff_ne.2 k5
   obtain rfl:l=l1:=by rw[←hl1];unfold X7;rw[show (Xn l==5)=false from beq_eq_false_iff_ne.2 k5];rfl
   clear hl1 k5;rcases hh:Tz l with ⟨k,z,m,q⟩;have HP:=Dh (Eo b E _ hd w h hh);rw[hh] at k5h;dsimp only at k5h;clear hh;go_enter Tryz.func99,Tryz.ntmps99
   go_wp2_with (first|(go_at_call 32;refine HP.out.mono ?_;rintro e w1 ⟨rfl,hB⟩)|(go_at_call 68;refine(HW.out _ (HR.out.keep (hB.alloc hB.size _))).mono ?_;rintro e w3 ⟨hk3,rfl,hr3⟩))
   first|refine Jm (show Tryz.f99.results = #[] from rfl) ?_|refine end_none (show Tryz.f99.results = #[] from rfl) ?_
   exact⟨(Qo.of_below (hB.alloc hB.size _) (Nat.le_refl _)).trans hk3,rfl,hr3⟩
 |false=>
  rw[hi] at HW;simp only[Bool.false_eq_true,if_false] at HW ⊢;clear hi;by_cases k5:Xn l=5
  ·cases l with
   |nil=>exact absurd k5 Dd
   |cons t l=>
    obtain⟨k,z,m,q⟩:=t;obtain rfl:k=5:=k5;have HP:=Dh (Eo b E _ hd w h (Ce _ l));cases hs:Je x (⟨5,z,m,q⟩::l) with
    |true=>
     rw[hs] at HS;obtain rfl:l=l1:=by rw[←hl1];unfold X7;rw[hs];rfl
     clear hs hl1;generalize atP E.len l=pl at *;go_enter Tryz.func99,Tryz.ntmps99
     go_wp2_with (first|(go_at_call 32;refine HP.out.mono ?_;rintro e w1 ⟨rfl,hB⟩)|(go_at_call 75;refine(HS.out _ (HR.out.keep (hB.alloc hB.size _))).mono ?_;rintro e w2 ⟨rfl,rfl⟩;obtain⟨g,o,_,c,rfl,hc0,hf0,hnc,hcm,hset⟩:=(HR.out.keep (hB.alloc hB.size (.cells #[.int .i64 5,.string ⟨z.toArray⟩,.int .u64 m,.int .i64 (q:Int)] 46))).cons;have hset:=Dh hset)|(go_at_call 68;refine(HW.out _ (by first|exact hset.out.1 Da|exact hset.out.2 Da)).mono ?_;rintro e w3 ⟨hk3,rfl⟩))
     all_goals exact⟨rfl,((Qo.of_below (hB.alloc hB.size _) (Nat.le_refl _)).trans (Qo.set _ _ _)).trans hk3,rfl⟩
    |false=>
     rw[hs] at HS;obtain rfl:⟨5,z,m,q⟩::l=l1:=by rw[←hl1];unfold X7;rw[hs];rfl
     clear hs hl1;generalize atP E.len _=pl at *;go_enter Tryz.func99,Tryz.ntmps99
     go_wp2_with (first|(go_at_call 32;refine HP.out.mono ?_;rintro e w1 ⟨rfl,hB⟩)|(go_at_call 75;refine(HS.out _ (HR.out.keep (hB.alloc hB.size _))).mono ?_;rintro e w2 ⟨rfl,rfl⟩)|(go_at_call 68;refine(HW.out _ (HR.out.keep (hB.alloc hB.size _))).mono ?_;rintro e w3 ⟨hk3,rfl⟩))
     exact⟨rfl,(Qo.of_below (hB.alloc hB.size _) (Nat.le_refl _)).trans hk3,rfl⟩
  ·have k5h:((Tz l).kind==5)=false:=by rw[←Gu];exact beq_eq_false_iff_ne.2 k5
   obtain rfl:l=l1:=by rw[←hl1];unfold X7;rw[show (Xn l==5)=false from beq_eq_false_iff_ne.2 k5];rfl
   clear hl1 k5;rcases hh:Tz l with ⟨k,z,m,q⟩;have HP:=Dh (Eo b E _ hd w h hh);rw[hh] at k5h;dsimp only at k5h;clear hh;generalize atP E.len l=pl at *;go_enter Tryz.func99,Tryz.ntmps99
   go_wp2_with (first|(go_at_call 32;refine HP.out.mono ?_;rintro e w1 ⟨rfl,hB⟩)|(go_at_call 68;refine(HW.out _ (HR.out.keep (hB.alloc hB.size _))).mono ?_;rintro e w3 ⟨hk3,rfl⟩))
   exact⟨rfl,(Qo.of_below (hB.alloc hB.size _) (Nat.le_refl _)).trans hk3,rfl⟩
theorem begins_c (b:Nat)(E:Env)(l:List Tok)(hd:Bool)(w:World)(h:RdB b E w l hd):Calls Tryz.prog 72 #[rp b] w fun e w'=>e=.returned (.bool (Lu l))∧Below w.heap.size w w':=by
 have HI1:=Dh (fun w1 h1=>is_c b E l hd w1 wSq h1);have HI2:=Dh (fun w1 h1=>is_c b E l hd w1 Ff h1);have HI3:=Dh (fun w1 h1=>is_c b E l hd w1 Tm h1);have HR:=Dh h;unfold Lu;rw[Gu];rcases hh:Tz l with ⟨k,z,m,q⟩;have HP:=Dh (Eo b E _ hd w h hh);have hfl:=Jo (.int .i64 k) (.string ⟨z.toArray⟩) (.int .u64 m) (.int .i64 (q:Int));clear hh;dsimp only;unfold wSq at *;unfold Ff at *;unfold Tm at *;by_cases k1:k=1
 ·subst k1;go_enter Tryz.func72,Tryz.ntmps72
  go_wp2_with (go_at_call 32;refine HP.out.mono ?_;rintro e w1 ⟨rfl,hB⟩)
  go_ret;exact⟨Vq rfl,hB⟩
 ·have k1h:(k==1)=false:=beq_eq_false_iff_ne.2 k1;rw[k1h];generalize isP [91] l=i1 at *;generalize isP [99,104,97,110] l=i2 at *;generalize isP [102,117,110,99] l=i3 at *;cases i1 with
  |true=>
   go_enter Tryz.func72,Tryz.ntmps72
   go_wp2_with (first|(go_at_call 32;refine HP.out.mono ?_;rintro e w1 ⟨rfl,hB⟩)|(go_at_call 44;with_reducible refine(HI1.out _ (HR.out.keep hB)).mono ?_;rintro e w2 ⟨rfl,hB2⟩;have hk:=hB.trans (hB2.mono hB.size)))
   go_ret;exact⟨Vq rfl,hk⟩
  |false=>
   cases i2 with
   |true=>
    go_enter Tryz.func72,Tryz.ntmps72
    go_wp2_with (first|(go_at_call 32;refine HP.out.mono ?_;rintro e w1 ⟨rfl,hB⟩)|(go_at_call 44;with_reducible refine(HI1.out _ (HR.out.keep hB)).mono ?_;rintro e w2 ⟨rfl,hB2⟩;have hk:=hB.trans (hB2.mono hB.size))|(go_at_call 44;with_reducible refine(HI2.out _ (HR.out.keep hk)).mono ?_;rintro e w3 ⟨rfl,hB3⟩;have hk3:=hk.trans (hB3.mono hk.size)))
    go_ret;exact⟨Vq rfl,hk3⟩
   |false=>
    go_enter Tryz.func72,Tryz.ntmps72
    go_wp2_with (first|(go_at_call 32;refine HP.out.mono ?_;rintro e w1 ⟨rfl,hB⟩)|(go_at_call 44;with_reducible refine(HI1.out _ (HR.out.keep hB)).mono ?_;rintro e w2 ⟨rfl,hB2⟩;have hk:=hB.trans (hB2.mono hB.size))|(go_at_call 44;with_reducible refine(HI2.out _ (HR.out.keep hk)).mono ?_;rintro e w3 ⟨rfl,hB3⟩;have hk3:=hk.trans (hB3.mono hk.size))|(go_at_call 44;with_reducible refine(HI3.out _ (HR.out.keep hk3)).mono ?_;rintro e w4 ⟨rfl,hB4⟩;have hk4:=hk3.trans (hB4.mono hk3.size)))
    go_ret;exact⟨Vq Ds,hk4⟩
structure Zx (b q:Nat)(w w':World):Prop where
 os:w'.os=w.os
 tape:w'.tape=w.tape
 output:w'.output=w.output
 size:w.heap.size≤w'.heap.size
 block:∀ k,k<w.heap.size→k≠b→k≠q→w'.heap[k]? = w.heap[k]?
theorem Qo.toQ {b:Nat}{w w':World}(h:Qo b w w')(q:Nat):Zx b q w w':=⟨h.os,h.tape,h.output,h.size,fun k h1 h2 _=>h.block k h1 h2⟩
theorem Zx.trans {b q:Nat}{u v w:World}(h:Zx b q u v)(k:Zx b q v w):Zx b q u w:=
 ⟨k.os.trans h.os,k.tape.trans h.tape,k.output.trans h.output,Nat.le_trans h.size k.size,fun i hi hb hq=>(k.block i (Nat.lt_of_lt_of_le hi h.size) hb hq).trans (h.block i hi hb hq)⟩
theorem Zx.toR {b q:Nat}{u v w:World}(h:Qo b u v)(k:Zx b q v w)(hq:u.heap.size≤q):Qo b u w:=
 ⟨k.os.trans h.os,k.tape.trans h.tape,k.output.trans h.output,Nat.le_trans h.size k.size,fun i hi hb=>(k.block i (Nat.lt_of_lt_of_le hi h.size) hb Dw).trans (h.block i hi hb)⟩
theorem RdB.setHead {b:Nat}{E:Env}{w:World}{l:List Tok}{hd:Bool}(h:RdB b E w l hd)(h2:Bool):RdB b E (w.setCell ⟨b,2,none⟩ (.bool h2)) l h2:=by
 obtain⟨h0,v,h1,h3⟩:=h;exact⟨fun k hk=>(Below.heap_setCell w _ _ k (Nat.ne_of_lt hk)).trans (h0 k hk),v,Qre h1 2 _,h3.keep (Qo.set w 2 _)⟩
theorem Vt (b:Nat)(E:Env)(l:List Tok)(hd:Bool)(w:World)(h:RdB b E w l hd)(q:Nat)(cap:Array Value)(S:World→List Tok→Prop)(F:Nat→Prop)
  (hf:∀ w1,RdB b E w1 l false→Qo b w w1→Calls Tryz.prog 98 cap w1 fun e w2=>Zx b q w1 w2∧((e=.returned (.tuple #[])∧∃ l',RdB b E w2 l' false∧S w2 l')∨∃ p,e=failed p∧F p)):
  Calls Tryz.prog 69 #[rp b,.func (.func 98) #[] cap] w fun e w'=>Zx b q w w'∧((e=.returned (.tuple #[])∧∃ l' w2,RdB b E w' l' hd∧S w2 l'∧Qo b w2 w')∨∃ p,e=failed p∧F p):=by
 obtain⟨a,c,h0,h1,h2,h3,h4,-⟩:=h.open_;have HR:=Dh h;have HF:=Dh hf;clear h hf;go_enter Tryz.func69,Tryz.ntmps69
 go_wp2_with (go_at_call 98;refine(HF.out _ (HR.out.setHead false) (Qo.set _ _ _)).mono ?_;rintro e w2 ⟨hk,hq⟩;rcases hq with ⟨rfl,l',hr,hs⟩|⟨p,rfl,hp⟩ <;> try (obtain⟨a2,c2,g0,g1,g2,g3,g4,-⟩:=hr.open_))
 ·refine end_none (show Tryz.f69.results = #[] from rfl) ?_;exact⟨(((Qo.set _ _ _).toQ q).trans hk).trans ((Qo.set _ _ _).toQ q),.inl ⟨rfl,l',w2,hr.setHead hd,hs,Qo.set _ _ _⟩⟩
 ·exact⟨rfl,((Qo.set _ _ _).toQ q).trans hk,.inr ⟨p,rfl,hp⟩⟩
theorem Qbp (b:Nat)(E:Env)(l:List Tok)(hd:Bool)(w:World)(h:RdB b E w l hd)(q:Nat)(cap:Array Value)(S:World→List Tok→Prop)(F:Nat→Prop)
  (hf:∀ w1,RdB b E w1 l false→Qo b w w1→Calls Tryz.prog 70 cap w1 fun e w2=>Zx b q w1 w2∧((e=.returned (.tuple #[])∧∃ l',RdB b E w2 l' false∧S w2 l')∨∃ p,e=failed p∧F p)):
  Calls Tryz.prog 69 #[rp b,.func (.func 70) #[] cap] w fun e w'=>Zx b q w w'∧((e=.returned (.tuple #[])∧∃ l' w2,RdB b E w' l' hd∧S w2 l'∧Qo b w2 w')∨∃ p,e=failed p∧F p):=by
 obtain⟨a,c,h0,h1,h2,h3,h4,-⟩:=h.open_;have HR:=Dh h;have HF:=Dh hf;clear h hf;go_enter Tryz.func69,Tryz.ntmps69
 go_wp2_with (go_at_call 70;refine(HF.out _ (HR.out.setHead false) (Qo.set _ _ _)).mono ?_;rintro e w2 ⟨hk,hq⟩;rcases hq with ⟨rfl,l',hr,hs⟩|⟨p,rfl,hp⟩ <;> try (obtain⟨a2,c2,g0,g1,g2,g3,g4,-⟩:=hr.open_))
 ·refine end_none (show Tryz.f69.results = #[] from rfl) ?_;exact⟨(((Qo.set _ _ _).toQ q).trans hk).trans ((Qo.set _ _ _).toQ q),.inl ⟨rfl,l',w2,hr.setHead hd,hs,Qo.set _ _ _⟩⟩
 ·exact⟨rfl,((Qo.set _ _ _).toQ q).trans hk,.inr ⟨p,rfl,hp⟩⟩
theorem within_sel (b:Nat)(E:Env)(l:List Tok)(hd:Bool)(w:World)(h:RdB b E w l hd)(q:Nat)(cap:Array Value)(S:World→List Tok→Prop)(F:Nat→Prop)
  (hf:∀ w1,RdB b E w1 l false→Qo b w w1→Calls Tryz.prog 73 cap w1 fun e w2=>Zx b q w1 w2∧((e=.returned (.tuple #[])∧∃ l',RdB b E w2 l' false∧S w2 l')∨∃ p,e=failed p∧F p)):
  Calls Tryz.prog 69 #[rp b,.func (.func 73) #[] cap] w fun e w'=>Zx b q w w'∧((e=.returned (.tuple #[])∧∃ l' w2,RdB b E w' l' hd∧S w2 l'∧Qo b w2 w')∨∃ p,e=failed p∧F p):=by
 obtain⟨a,c,h0,h1,h2,h3,h4,-⟩:=h.open_;have HR:=Dh h;have HF:=Dh hf;clear h hf;go_enter Tryz.func69,Tryz.ntmps69
 go_wp2_with (go_at_call 73;refine(HF.out _ (HR.out.setHead false) (Qo.set _ _ _)).mono ?_;rintro e w2 ⟨hk,hq⟩;rcases hq with ⟨rfl,l',hr,hs⟩|⟨p,rfl,hp⟩ <;> try (obtain⟨a2,c2,g0,g1,g2,g3,g4,-⟩:=hr.open_))
 ·refine end_none (show Tryz.f69.results = #[] from rfl) ?_;exact⟨(((Qo.set _ _ _).toQ q).trans hk).trans ((Qo.set _ _ _).toQ q),.inl ⟨rfl,l',w2,hr.setHead hd,hs,Qo.set _ _ _⟩⟩
 ·exact⟨rfl,((Qo.set _ _ _).toQ q).trans hk,.inr ⟨p,rfl,hp⟩⟩
theorem within_opnd1 (b:Nat)(E:Env)(l:List Tok)(hd:Bool)(w:World)(h:RdB b E w l hd)(q:Nat)(cap:Array Value)(S:World→List Tok→Prop)(F:Nat→Prop)
  (hf:∀ w1,RdB b E w1 l false→Qo b w w1→Calls Tryz.prog 109 cap w1 fun e w2=>Zx b q w1 w2∧((e=.returned (.tuple #[])∧∃ l',RdB b E w2 l' false∧S w2 l')∨∃ p,e=failed p∧F p)):
  Calls Tryz.prog 69 #[rp b,.func (.func 109) #[] cap] w fun e w'=>Zx b q w w'∧((e=.returned (.tuple #[])∧∃ l' w2,RdB b E w' l' hd∧S w2 l'∧Qo b w2 w')∨∃ p,e=failed p∧F p):=by
 obtain⟨a,c,h0,h1,h2,h3,h4,-⟩:=h.open_;have HR:=Dh h;have HF:=Dh hf;clear h hf;go_enter Tryz.func69,Tryz.ntmps69
 go_wp2_with (go_at_call 109;refine(HF.out _ (HR.out.setHead false) (Qo.set _ _ _)).mono ?_;rintro e w2 ⟨hk,hq⟩;rcases hq with ⟨rfl,l',hr,hs⟩|⟨p,rfl,hp⟩ <;> try (obtain⟨a2,c2,g0,g1,g2,g3,g4,-⟩:=hr.open_))
 ·refine end_none (show Tryz.f69.results = #[] from rfl) ?_;exact⟨(((Qo.set _ _ _).toQ q).trans hk).trans ((Qo.set _ _ _).toQ q),.inl ⟨rfl,l',w2,hr.setHead hd,hs,Qo.set _ _ _⟩⟩
 ·exact⟨rfl,((Qo.set _ _ _).toQ q).trans hk,.inr ⟨p,rfl,hp⟩⟩
theorem within_opnd2 (b:Nat)(E:Env)(l:List Tok)(hd:Bool)(w:World)(h:RdB b E w l hd)(q:Nat)(cap:Array Value)(S:World→List Tok→Prop)(F:Nat→Prop)
  (hf:∀ w1,RdB b E w1 l false→Qo b w w1→Calls Tryz.prog 110 cap w1 fun e w2=>Zx b q w1 w2∧((e=.returned (.tuple #[])∧∃ l',RdB b E w2 l' false∧S w2 l')∨∃ p,e=failed p∧F p)):
  Calls Tryz.prog 69 #[rp b,.func (.func 110) #[] cap] w fun e w'=>Zx b q w w'∧((e=.returned (.tuple #[])∧∃ l' w2,RdB b E w' l' hd∧S w2 l'∧Qo b w2 w')∨∃ p,e=failed p∧F p):=by
 obtain⟨a,c,h0,h1,h2,h3,h4,-⟩:=h.open_;have HR:=Dh h;have HF:=Dh hf;clear h hf;go_enter Tryz.func69,Tryz.ntmps69
 go_wp2_with (go_at_call 110;refine(HF.out _ (HR.out.setHead false) (Qo.set _ _ _)).mono ?_;rintro e w2 ⟨hk,hq⟩;rcases hq with ⟨rfl,l',hr,hs⟩|⟨p,rfl,hp⟩ <;> try (obtain⟨a2,c2,g0,g1,g2,g3,g4,-⟩:=hr.open_))
 ·refine end_none (show Tryz.f69.results = #[] from rfl) ?_;exact⟨(((Qo.set _ _ _).toQ q).trans hk).trans ((Qo.set _ _ _).toQ q),.inl ⟨rfl,l',w2,hr.setHead hd,hs,Qo.set _ _ _⟩⟩
 ·exact⟨rfl,((Qo.set _ _ _).toQ q).trans hk,.inr ⟨p,rfl,hp⟩⟩
end Prs
end
end Go.Proofs.YtcbkeecabcbogaaGreatDoor
