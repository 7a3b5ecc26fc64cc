/- What a reader's function comes to, by the plain function; an -/
import Derived.Test.YtcbkeecabcbogaaGreatDoorSaj
import Derived.Laws.Tables
import Derived.Great.BuildSlice
import Derived.Laws.CopyOwn
import Derived.Test.YtcbkeecabcbogaaGreatDoorSai
set_option maxRecDepth 20000
set_option linter.unusedSimpArgs false
set_option linter.unusedVariables false
namespace Go.Proofs.YtcbkeecabcbogaaGreatDoor
section
open Go.RowKit
namespace Prs
def Out {α:Type}(b:Nat)(E:Env)(hd:Bool)(V:World→α→Value→Prop)(x:Except Nat (α×List Tok))(w:World)(e:Ending)(w':World):Prop:=Qo b w w'∧match x with
 | .ok (t,l')=>∃ v,e=.returned v∧V w' t v∧RdB b E w' l' hd
 | .error p=>e=failed p
abbrev Q3:Array Value := #[.int .i64 0,.string ⟨#[]⟩,.int .u64 0,.int .i64 0,.slice none 0 0]
def Reads (b:Nat)(E:Env)(hd:Bool)(g:FuncId)(args:Array Value)(x:List Tok→R Tr):Prop:=∀ (l:List Tok) (w:World) (r:Except Nat (Tr×List Tok)),RdB b E w l hd→x l=some r→Calls Tryz.prog g args w (Out b E hd (Zd (w.heap.size ≤ ·)) r w)
theorem Z5 {W:World}{q:Nat}{v0 v1 v2 v3 v4:Value}{t:TypeId}(h:W.heap[q]? = some (.cells #[v0,v1,v2,v3,v4] t (0,0))):W.cell? ⟨q,0,none⟩=some v0∧W.cell? ⟨q,1,none⟩=some v1∧W.cell? ⟨q,2,none⟩=some v2∧W.cell? ⟨q,3,none⟩=some v3∧W.cell? ⟨q,4,none⟩=some v4∧True:=by
 unfold World.cell?
 rw[h];exact⟨rfl,rfl,rfl,rfl,rfl,trivial⟩
theorem Qo.setRow {b:Nat}{w W:World}{q:Nat}(h:Qo b w W)(hq:w.heap.size≤q)(cs:Array Value):Qo b w (W.setRow q cs):=
 ⟨h.os,h.tape,h.output,by rw[setRow_size];exact h.size,fun k hk hb=>(setRow_other W q k cs Dw).trans (h.block k hk hb)⟩
theorem Qo.new {b:Nat}(w:World)(o:Obj):Qo b w (w.alloc o):=Qo.of_below ((Below.refl _ _).alloc (Nat.le_refl _) o) (Nat.le_refl _)
theorem RdB.new {b:Nat}{E:Env}{w:World}{l:List Tok}{hd:Bool}(h:RdB b E w l hd)(o:Obj):RdB b E (w.alloc o) l hd:=h.keep ((Below.refl _ _).alloc (Nat.le_refl _) o)
theorem RdB.setRow {b:Nat}{E:Env}{w:World}{l:List Tok}{hd:Bool}(h:RdB b E w l hd){q:Nat}(hq:b<q)(cs:Array Value):RdB b E (w.setRow q cs) l hd:=h.frame fun i hi=>setRow_other w q i cs Dw
theorem Zd.cells {S:Nat→Prop}{w:World}{t:Tr}{v:Value}(h:Zd S w t v):∃ v0 v1 v2 v3 v4,v=.agg #[v0,v1,v2,v3,v4]∧(#[v0,v1,v2,v3,v4]:Array Value).all (·.oneCell')=true:=by
 obtain⟨cs,rfl,hc⟩:=h;cases t;unfold X3 at hc;obtain⟨a,c,rfl,-⟩:=hc;exact⟨_,_,_,_,_,rfl,by simp[Value.oneCell']⟩
theorem Zd.setRow {S S':Nat→Prop}{w:World}{t:Tr}{v:Value}(h:Zd S w t v)(hlo:∀ k,S k→S' k){q:Nat}(hq:∀ k,S k→k≠q)(cs:Array Value):Zd S' (w.setRow q cs) t v:=h.frame (fun k hk _=>hlo k hk) fun k hk _=>setRow_other w q k cs (hq k hk)
theorem Xe (cells:Array Value)(h:cells.size=5):((Tryz.prog).info? 26).map (·.size)=some cells.size:=by
 rw[h];kernel_rfl
theorem Qo.row {b q:Nat}{w w':World}{o:Obj}(h:Qo b w w')(hb:b<q)(hr:w.heap[q]? = some o):w'.heap[q]? = some o:=(h.block q (Array.getElem?_eq_some_iff.1 hr).1 Dw).trans hr
theorem Zd.new {S S':Nat→Prop}{w:World}{t:Tr}{v:Value}(h:Zd S w t v)(hlo:∀ k,S k→S' k)(o:Obj):Zd S' (w.alloc o) t v:=h.frame (fun k hk _=>hlo k hk) fun k _ hk=>Below.heap_alloc w o k hk
theorem N7 {b:Nat}{E:Env}{hd:Bool}{w W:World}{t:Tr}{l':List Tok}{fn:Func}{tmps:Array Value}{q:Nat}{v0 v1 v2 v3 v4:Value}(hf:fn.results = #[.cell 2 26])(hp:tmps.getD 2 undef=.pointer (some ⟨q,0,none⟩))
  (hrow:W.heap[q]? = some (.cells #[v0,v1,v2,v3,v4] 26 (0,0))) (hk:Qo b w W) (hv:Zd (w.heap.size ≤ ·) W t (.agg #[v0,v1,v2,v3,v4])) (hr:RdB b E W l' hd):bodyPost Tryz.prog fn (Out b E hd (Zd (w.heap.size ≤ ·)) (.ok (t,l')) w) .ret ⟨tmps,[]⟩ W:=
 Qkl hf Tryz.underlying26 (Xe _ rfl) hp hrow ⟨hk,_,rfl,hv,hr⟩
theorem Dj {b:Nat}{E:Env}{hd:Bool}{w W:World}{t:Tr}{l':List Tok}{fn:Func}{a:Act}{q:Nat}{rs:Tmp}{v0 v1 v2 v3 v4:Value}(hf:fn.results = #[.cell rs 26])(hd0:a.defers=[])(hp:a.tmps.getD rs undef=.pointer (some ⟨q,0,none⟩))
  (hrow:W.heap[q]? = some (.cells #[v0,v1,v2,v3,v4] 26 (0,0))) (hk:Qo b w W) (hv:Zd (w.heap.size ≤ ·) W t (.agg #[v0,v1,v2,v3,v4])) (hr:RdB b E W l' hd):bodyPost Tryz.prog fn (Out b E hd (Zd (w.heap.size ≤ ·)) (.ok (t,l')) w) .ret a W:=
 bodyPost_ret_by (results_cell_row hf a.tmps W q _ _ _ _ hp hrow Tryz.underlying26 rfl (Xe _ rfl)) hd0 ⟨hk,_,rfl,hv,hr⟩
theorem Hq {ops:Array Oper}{rest:List Oper}{o:Oper}{a:Act}{Q:Exit→Act→World→Prop}{w2:World}{v0 v1 v2 v3 v4:Value}(hgd:o.guard=none)(x y:Operand)(ho:o.op=.store 26 x y)(hd:o.dst=none)
  (hx:a.eval x=.pointer (some ⟨w2.heap.size,0,none⟩)) (hy:a.eval y=.agg #[v0,v1,v2,v3,v4]) (hone:(#[v0,v1,v2,v3,v4]:Array Value).all (·.oneCell')=true)
  (h:∀ W1,W1.heap[w2.heap.size]? = some (.cells #[v0,v1,v2,v3,v4] 26 (0,0))→Below w2.heap.size w2 W1→wpList Tryz.prog ops Q rest a W1):wpList Tryz.prog ops Q (o::rest) a (w2.alloc (.cells Q3 26)):=
 wpList_store_rowTo hgd 26 x y ho hd w2.heap.size #[v0,v1,v2,v3,v4] hx hy 26 Q3 (Qz w2 _) (Xe _ rfl) rfl hone
  (h _ (setRow_heap _ _ Q3 _ 26 (0,0) (Qz w2 _)) (below_setRow ((Below.refl _ _).alloc (Nat.le_refl _) _) (Nat.le_refl _) _))
theorem any_c {b:Nat}{E:Env}{hd:Bool}{x:List Tok→R Tr}(hx:Reads b E hd 37 #[rp b,.int .i64 1] x):Reads b E hd 22 #[rp b] x:=by
 intro l w r h hr;have hb:=h.lt;have HR:=Dh h;have HX:=Dh hx;have HY:=Dh hr;clear h hx hr;cases r with
 |error p=>
  go_enter Tryz.func22,Tryz.ntmps22
  go_wp2_with (go_at_call 37;refine(HX.out _ _ _ (HR.out.new (.cells Q3 26)) HY.out).mono ?_;rintro e w2 ⟨hk,rfl⟩)
  exact⟨rfl,(Qo.new _ _).trans hk,rfl⟩
 |ok y=>
  obtain⟨t,l'⟩:=y;go_enter Tryz.func22,Tryz.ntmps22
  go_wp2_with (first|(go_at_call 37;refine(HX.out _ _ _ (HR.out.new (.cells Q3 26)) HY.out).mono ?_;rintro e w2 ⟨hk,v,rfl,hv,hr2⟩;obtain⟨v0,v1,v2,v3,v4,rfl,hone⟩:=hv.cells;have hv:=Dh hv;have hone:=Dh hone;have hq:=Dh ((hk.block w.heap.size Ds Dw).trans (Qz w (.cells Q3 26))))|(refine wpList_store_rowTo rfl 26 _ _ rfl rfl w.heap.size #[v0,v1,v2,v3,v4] ?hx ?hy 26 Q3 hq.out ?hi rfl hone.out ?_;(case hx=>rfl);(case hy=>rfl);(case hi=>exact Xe _ rfl)))
  exact N7 (show Tryz.f22.results = #[.cell 2 26] from rfl) (q:=w.heap.size) (by rfl) (setRow_heap w2 w.heap.size Q3 _ 26 (0,0) hq.out) (((Qo.new _ _).trans hk).setRow (Nat.le_refl _) _) (hv.out.setRow (fun k hk=>by simp at hk;omega) (fun k hk=>by simp at hk;omega) _) (hr2.setRow hb _)
theorem node1 {S:Nat→Prop}{g:Nat}{W:World}{t:Tr}{v0 v1 v2 v3 v4:Value}{ty:TypeId}(k:Nat)(x:List UInt8)(n p:Nat)(hg:S g)(hb:W.heap[g]? = some (.cells #[v0,v1,v2,v3,v4] ty (0,0)))(hv:Zd S W t (.agg #[v0,v1,v2,v3,v4])):
  Zd S W (.mk k x n p [t]) (.agg #[.int .i64 (k:Int),.string ⟨x.toArray⟩,.int .u64 (n:Int),.int .i64 (p:Int),.slice (some ⟨g,0,none⟩) 1 1]):=by
 obtain⟨cs,hcs,hc⟩:=hv;have hcs:cs=[v0,v1,v2,v3,v4]:=by
  have:=congrArg Value.cells hcs;exact(congrArg Array.toList this).symm
 subst hcs;refine⟨_,rfl,?_⟩;unfold X3;refine⟨_,_,rfl,.inr ⟨g,0,rfl,hg,?_⟩⟩;unfold Xp;obtain⟨c0,c1,c2,c3,c4,-⟩:=Z5 hb;exact⟨⟨v0,v1,v2,v3,v4,c0,c1,c2,c3,c4,hc⟩,by unfold Xp;trivial⟩
theorem param_c {b f:Nat}{E:Env}{hd:Bool}(hx:Reads b E hd 48 #[rp b] (Bc E.len f)):Reads b E hd 76 #[rp b] (Jz E.len (f+1)):=by
 intro l w r h hr;have hb:=h.lt;have HR:=Dh h;have HX:=Dh hx;have HN:=Dh (Qmq b E l hd (w.alloc (.cells Q3 26)) (h.new _));rw[Jz] at hr;unfold U8 at hr;cases k1:Xn l==1 with
 |false=>
  rw[k1] at hr HN;simp only[Bool.false_eq_true,if_false] at hr HN;cases hr;clear k1 h hx;generalize atP E.len l=p at *;go_enter Tryz.func76,Tryz.ntmps76
  go_wp2_with (go_at_call 47;refine HN.out.mono ?_;rintro e w2 ⟨hk,rfl⟩)
  exact⟨rfl,(Qo.new _ _).trans hk,rfl⟩
 |true=>
  rw[k1] at hr HN;simp only[if_true] at hr HN;clear k1 h hx;generalize Zo l=x at *;generalize Jy l=p at *;unfold ok andThen at hr;dsimp only at hr;cases ht:Bc E.len f l.tail with
  |none=>rw[ht] at hr;cases hr
  |some y=>
   rw[ht] at hr;have HT:=Dh ht;clear ht;cases y with
   |error q=>
    cases hr;go_enter Tryz.func76,Tryz.ntmps76
    go_wp2_with (first|(go_at_call 47;refine HN.out.mono ?_;rintro e w2 ⟨hk,rfl,hr2⟩)|(go_at_call 48;refine(HX.out _ _ _ hr2 HT.out).mono ?_;rintro e w3 ⟨hk3,rfl⟩))
    exact⟨rfl,((Qo.new _ _).trans hk).trans hk3,rfl⟩
   |ok y=>
    obtain⟨t,m⟩:=y;cases hr;go_enter Tryz.func76,Tryz.ntmps76
    go_wp2_with (first|(go_at_call 47;refine HN.out.mono ?_;rintro e w2 ⟨hk,rfl,hr2⟩)|(go_at_call 48;refine(HX.out _ _ _ hr2 HT.out).mono ?_;rintro e w3 ⟨hk3,v,rfl,hv,hr3⟩;obtain⟨v0,v1,v2,v3,v4,rfl,hone⟩:=hv.cells;have hv:=Dh hv;have hq:=Dh ((Qo.new (b:=b) w3 (.cells #[v0,v1,v2,v3,v4] 26)).row hb (hk3.row hb (hk.row hb (Qz w (.cells Q3 26)))));clear hone)|(refine wpList_store_rowTo rfl 26 _ _ rfl rfl w.heap.size #[.int .i64 5,.string ⟨x.toArray⟩,.int .u64 0,.int .i64 (p:Int),.slice (some ⟨w3.heap.size,0,none⟩) 1 1] ?hx ?hy 26 Q3 hq.out ?hi rfl (by simp[Value.oneCell']) ?_;(case hx=>rfl);(case hy=>rfl);(case hi=>exact Xe _ rfl)))
    have hs2:w.heap.size<w2.heap.size:=Nat.lt_of_lt_of_le Ds hk.size;have hs3:=hk3.size;refine N7 (show Tryz.f76.results = #[.cell 2 26] from rfl) (q:=w.heap.size) (by rfl) (setRow_heap _ w.heap.size Q3 _ 26 (0,0) hq.out) (((((Qo.new _ _).trans hk).trans hk3).trans (Qo.new _ _)).setRow (Nat.le_refl _) _) ?_ ((hr3.new _).setRow hb _);exact node1 5 x 0 p (show w.heap.size≤w3.heap.size by omega) ((setRow_other _ _ _ _ Dw).trans (Qz w3 _)) ((hv.out.new (fun _ h=>h) _).setRow (fun k hk=>Nat.le_trans (Nat.le_of_lt hs2) hk) (fun k hk=>Nat.ne_of_gt (Nat.lt_of_lt_of_le hs2 hk)) _)
theorem arg_c {b f:Nat}{E:Env}(hx:Reads b E false 37 #[rp b,.int .i64 1] (Xj E.len f 1 false))(ht:Reads b E false 48 #[rp b] (Bc E.len f)):Reads b E false 97 #[rp b] (Qlz E.len (f+1)):=by
 intro l w r h hr;have hb:=h.lt;have HR:=Dh h;have HX:=Dh hx;have HT:=Dh ht;rw[Qlz] at hr;have HI1:=Dh (is_c b E l false (w.alloc (.cells Q3 26)) wSq (h.new _));have HI2:=Dh (fun w1 h1=>is_c b E l false w1 Ff h1);unfold wSq at *;unfold Ff at *;generalize isP [91] l=i1 at *;generalize isP [99,104,97,110] l=i2 at *;clear h hx ht;cases i1 with
 |true=>
  simp only[Bool.true_or,if_true] at hr;have HY:=Dh hr;clear hr;cases r with
  |error p=>
   go_enter Tryz.func97,Tryz.ntmps97
   go_wp2_with (first|(go_at_call 44;with_reducible refine HI1.out.mono ?_;rintro e w1 ⟨rfl,hB⟩)|(go_at_call 48;refine(HT.out _ _ _ ((HR.out.new _).keep hB) HY.out).mono ?_;rintro e w2 ⟨hk,rfl⟩))
   exact⟨rfl,((Qo.new _ _).trans (Qo.of_below hB (Nat.le_refl _))).trans hk,rfl⟩
  |ok y=>
   obtain⟨t,l'⟩:=y;go_enter Tryz.func97,Tryz.ntmps97
   go_wp2_with (first|(go_at_call 44;with_reducible refine HI1.out.mono ?_;rintro e w1 ⟨rfl,hB⟩;have hk1:=Dh (Qo.of_below (b:=b) hB (Nat.le_refl _)))|(go_at_call 48;refine(HT.out _ _ _ ((HR.out.new _).keep hB) HY.out).mono ?_;rintro e w2 ⟨hk,v,rfl,hv,hr2⟩;obtain⟨v0,v1,v2,v3,v4,rfl,hone⟩:=hv.cells;have hv:=Dh hv;have hone:=Dh hone;have hq:=Dh (hk.row hb (hk1.out.row hb (Qz w (.cells Q3 26)))))|(refine wpList_store_rowTo rfl 26 _ _ rfl rfl w.heap.size #[v0,v1,v2,v3,v4] ?hx ?hy 26 Q3 hq.out ?hi rfl hone.out ?_;(case hx=>rfl);(case hy=>rfl);(case hi=>exact Xe _ rfl)))
   have hs1:w.heap.size<w1.heap.size:=Nat.lt_of_lt_of_le Ds hB.size;exact N7 (show Tryz.f97.results = #[.cell 2 26] from rfl) (q:=w.heap.size) (by rfl) (setRow_heap w2 w.heap.size Q3 _ 26 (0,0) hq.out) ((((Qo.new _ _).trans hk1.out).trans hk).setRow (Nat.le_refl _) _) (hv.out.setRow (fun k hk=>Nat.le_trans (Nat.le_of_lt hs1) hk) (fun k hk=>Nat.ne_of_gt (Nat.lt_of_lt_of_le hs1 hk)) _) (hr2.setRow hb _)
 |false=>
  cases i2 with
  |true=>
   simp only[Bool.false_or,if_true] at hr;have HY:=Dh hr;clear hr;cases r with
   |error p=>
    go_enter Tryz.func97,Tryz.ntmps97
    go_wp2_with (first|(go_at_call 44;with_reducible refine HI1.out.mono ?_;rintro e w1 ⟨rfl,hB⟩)|(go_at_call 44;with_reducible refine(HI2.out _ ((HR.out.new _).keep hB)).mono ?_;rintro e w2 ⟨rfl,hB2⟩;have hB3:=hB.trans (hB2.mono hB.size))|(go_at_call 48;refine(HT.out _ _ _ ((HR.out.new _).keep hB3) HY.out).mono ?_;rintro e w3 ⟨hk,rfl⟩))
    exact⟨rfl,((Qo.new _ _).trans (Qo.of_below hB3 (Nat.le_refl _))).trans hk,rfl⟩
   |ok y=>
    obtain⟨t,l'⟩:=y;go_enter Tryz.func97,Tryz.ntmps97
    go_wp2_with (first|(go_at_call 44;with_reducible refine HI1.out.mono ?_;rintro e w1 ⟨rfl,hB⟩)|(go_at_call 44;with_reducible refine(HI2.out _ ((HR.out.new _).keep hB)).mono ?_;rintro e w3 ⟨rfl,hB2⟩;have hB3:=hB.trans (hB2.mono hB.size);have hk1:=Dh (Qo.of_below (b:=b) hB3 (Nat.le_refl _)))|(go_at_call 48;refine(HT.out _ _ _ ((HR.out.new _).keep hB3) HY.out).mono ?_;rintro e w2 ⟨hk,v,rfl,hv,hr2⟩;obtain⟨v0,v1,v2,v3,v4,rfl,hone⟩:=hv.cells;have hv:=Dh hv;have hone:=Dh hone;have hq:=Dh (hk.row hb (hk1.out.row hb (Qz w (.cells Q3 26)))))|(refine wpList_store_rowTo rfl 26 _ _ rfl rfl w.heap.size #[v0,v1,v2,v3,v4] ?hx ?hy 26 Q3 hq.out ?hi rfl hone.out ?_;(case hx=>rfl);(case hy=>rfl);(case hi=>exact Xe _ rfl)))
    have hs1:w.heap.size<w3.heap.size:=Nat.lt_of_lt_of_le Ds hB3.size;exact N7 (show Tryz.f97.results = #[.cell 2 26] from rfl) (q:=w.heap.size) (by rfl) (setRow_heap w2 w.heap.size Q3 _ 26 (0,0) hq.out) ((((Qo.new _ _).trans hk1.out).trans hk).setRow (Nat.le_refl _) _) (hv.out.setRow (fun k hk=>Nat.le_trans (Nat.le_of_lt hs1) hk) (fun k hk=>Nat.ne_of_gt (Nat.lt_of_lt_of_le hs1 hk)) _) (hr2.setRow hb _)
  |false=>
   simp only[Bool.or_self,Bool.false_eq_true,if_false] at hr;have HY:=Dh hr;clear hr;cases r with
   |error p=>
    go_enter Tryz.func97,Tryz.ntmps97
    go_wp2_with (first|(go_at_call 44;with_reducible refine HI1.out.mono ?_;rintro e w1 ⟨rfl,hB⟩)|(go_at_call 44;with_reducible refine(HI2.out _ ((HR.out.new _).keep hB)).mono ?_;rintro e w2 ⟨rfl,hB2⟩;have hB3:=hB.trans (hB2.mono hB.size))|(go_at_call 37;refine(HX.out _ _ _ ((HR.out.new _).keep hB3) HY.out).mono ?_;rintro e w3 ⟨hk,rfl⟩))
    exact⟨rfl,((Qo.new _ _).trans (Qo.of_below hB3 (Nat.le_refl _))).trans hk,rfl⟩
   |ok y=>
    obtain⟨t,l'⟩:=y;go_enter Tryz.func97,Tryz.ntmps97
    go_wp2_with (first|(go_at_call 44;with_reducible refine HI1.out.mono ?_;rintro e w1 ⟨rfl,hB⟩)|(go_at_call 44;with_reducible refine(HI2.out _ ((HR.out.new _).keep hB)).mono ?_;rintro e w3 ⟨rfl,hB2⟩;have hB3:=hB.trans (hB2.mono hB.size);have hk1:=Dh (Qo.of_below (b:=b) hB3 (Nat.le_refl _)))|(go_at_call 37;refine(HX.out _ _ _ ((HR.out.new _).keep hB3) HY.out).mono ?_;rintro e w2 ⟨hk,v,rfl,hv,hr2⟩;obtain⟨v0,v1,v2,v3,v4,rfl,hone⟩:=hv.cells;have hv:=Dh hv;have hone:=Dh hone;have hq:=Dh (hk.row hb (hk1.out.row hb (Qz w (.cells Q3 26)))))|(refine wpList_store_rowTo rfl 26 _ _ rfl rfl w.heap.size #[v0,v1,v2,v3,v4] ?hx ?hy 26 Q3 hq.out ?hi rfl hone.out ?_;(case hx=>rfl);(case hy=>rfl);(case hi=>exact Xe _ rfl)))
    have hs1:w.heap.size<w3.heap.size:=Nat.lt_of_lt_of_le Ds hB3.size;exact N7 (show Tryz.f97.results = #[.cell 2 26] from rfl) (q:=w.heap.size) (by rfl) (setRow_heap w2 w.heap.size Q3 _ 26 (0,0) hq.out) ((((Qo.new _ _).trans hk1.out).trans hk).setRow (Nat.le_refl _) _) (hv.out.setRow (fun k hk=>Nat.le_trans (Nat.le_of_lt hs1) hk) (fun k hk=>Nat.ne_of_gt (Nat.lt_of_lt_of_le hs1 hk)) _) (hr2.setRow hb _)
theorem Qmv {b:Nat}{E:Env}{hd:Bool}{x:List Tok→R Tr}(hx:Reads b E true 37 #[rp b,.int .i64 1] x):Reads b E hd 50 #[rp b] x:=by
 intro l w r h hr;have hb:=h.lt;obtain⟨a0,c0,d0,d1,d2,d3,d4,-⟩:=h.open_;have HR:=Dh h;have HX:=Dh hx;have HY:=Dh hr;have hz:(w.setCell ⟨b,2,none⟩ (.bool true)).heap.size=w.heap.size:=by simp
 have hnb:((w.setCell ⟨b,2,none⟩ (.bool true)).alloc (.cells Q3 26)).heap[w.heap.size]? = some (.cells Q3 26):=by
  rw[←hz];exact Qz _ _
 have hk0:=Dh ((Qo.set (b:=b) w 2 (.bool true)).trans (Qo.new _ (.cells Q3 26)));have HNB:=Dh hnb;have HZ:=Dh hz;clear h hx hr hnb hz;cases r with
 |error p=>
  go_enter Tryz.func50,Tryz.ntmps50
  go_wp2_with (go_at_call 37;refine(HX.out _ _ _ ((HR.out.setHead true).new (.cells Q3 26)) HY.out).mono ?_;rintro e w2 ⟨hk,rfl⟩)
  exact⟨rfl,hk0.out.trans hk,rfl⟩
 |ok y=>
  obtain⟨t,l'⟩:=y;go_enter Tryz.func50,Tryz.ntmps50
  go_wp2_with (first|(go_at_call 37;refine(HX.out _ _ _ ((HR.out.setHead true).new (.cells Q3 26)) HY.out).mono ?_;rintro e w2 ⟨hk,v,rfl,hv,hr2⟩;obtain⟨v0,v1,v2,v3,v4,rfl,hone⟩:=hv.cells;have hv:=Dh hv;have hone:=Dh hone;have hb2:=hr2.lt;have hr2:=Dh hr2;have hq:=Dh (hk.row hb HNB.out))|((with_reducible refine Hq rfl _ _ rfl rfl (v0:=v0) (v1:=v1) (v2:=v2) (v3:=v3) (v4:=v4) ?hx ?hy hone.out ?_);(case hx=>rfl);(case hy=>rfl);intro W1 hrw hB1;have hr3:=hr2.out.keep hB1;obtain⟨a2,c2,g0,g1,g2,g3,g4,-⟩:=hr3.open_;have hb3:=hr3.lt;have hr3:=Dh hr3;have hrw:=Dh hrw;have hB1:=Dh hB1)|((with_reducible refine wpList_load_row rfl 26 _ rfl w2.heap.size ?hx 26 #[v0,v1,v2,v3,v4] (0,0) _ ?hg Tryz.underlying26 ?hd (Xe _ rfl) ?_);(case hd=>rfl);(case hx=>rfl);(case hg=>exact(Below.heap_setCell _ _ _ _ (Nat.ne_of_gt hb2)).trans hrw.out))|((with_reducible refine wpList_store_rowTo rfl 26 _ _ rfl rfl w.heap.size #[v0,v1,v2,v3,v4] ?hx ?hy 26 Q3 ?hg (Xe _ rfl) ?hs hone.out ?_);(case hx=>rfl);(case hy=>rfl);(case hs=>rfl);(case hg=>exact(Below.heap_setCell _ _ _ _ (Nat.ne_of_gt hb)).trans ((hB1.out.block _ (Array.getElem?_eq_some_iff.1 hq.out).1).trans hq.out))))
  have hq1:W1.heap[w.heap.size]? = some (.cells Q3 26):=(hB1.out.block _ (Array.getElem?_eq_some_iff.1 hq.out).1).trans hq.out;have hqs:=(Array.getElem?_eq_some_iff.1 hq.out).1;refine Dj (show Tryz.f50.results = #[.cell 2 26] from rfl) rfl (q:=w.heap.size) (by rfl) (setRow_heap _ w.heap.size Q3 _ 26 (0,0) ((Below.heap_setCell _ _ _ _ (Nat.ne_of_gt hb)).trans hq1)) ((((hk0.out.trans hk).trans (Qo.of_below hB1.out (Nat.le_refl _))).trans (Qo.set _ _ _)).setRow (Nat.le_refl _) _) ?_ ((hr3.out.setHead hd).setRow hb _);have hlo:w.heap.size+1=((w.setCell ⟨b,2,none⟩ (.bool true)).alloc (.cells Q3 26)).heap.size:=by simp
  refine hv.out.frame (fun k hk _=>by omega) fun k hk1 hk2=>?_
  exact(setRow_other _ _ _ _ Dw).trans ((Below.heap_setCell _ _ _ _ (show k≠b by omega)).trans (hB1.out.block k hk2))
end Prs
end
section
open Go.RowKit
namespace Prs
open Ev
def Tr.text:Tr→List UInt8
 | .mk _ x _ _ _=>x
def Tr.num:Tr→Nat
 | .mk _ _ n _ _=>n
def Tr.place:Tr→Nat
 | .mk _ _ _ p _=>p
structure Va where
 len:Nat
 L:Nat→List Tok
 T:Nat→Tr
 TS:Nat→List Tr
 X:Nat→Value
 one:∀ i,(X i).oneCell'=true
 S:Nat→Prop
 D:Nat:=0
def Qk6 (N:Va)(i:Nat):Nat→Option Value
 |0=>some (.int .i64 (atP N.len (N.L i):Int))
 |1=>some (.int .i64 (Tz (N.L i)).kind)
 |2=>some (.string ⟨(Tz (N.L i)).text.toArray⟩)
 |3=>some (.int .u64 (Tz (N.L i)).num)
 |4=>some (.int .i64 ((Tz (N.L i)).place:Int))
 |_=>none
def J6 (N:Va)(j:Nat):Nat→Option Value
 |0=>some (.int .i64 ((N.T j).kind:Int))
 |1=>some (.string ⟨(N.T j).text.toArray⟩)
 |2=>some (.int .u64 ((N.T j).num:Int))
 |_=>some (.int .i64 ((N.T j).place:Int))
def Xi (N:Va)(b:Nat):Option Value:=if b<128 then none else if b<256 then Qk6 N ((b-128) / 8) ((b-128) % 8) else if b<320 then J6 N ((b-256) / 4) ((b-256) % 4) else if b<384 then some (N.X (b-320)) else none
theorem Qnx {N:Va}{b:Nat}{v:Value}(h:Xi N b=some v):v.oneCell'=true:=by
 unfold Xi at h;split at h
 ·cases h
 ·split at h
  ·unfold Qk6 at h;split at h <;> first|(cases h;rfl)|cases h
  ·split at h
   ·unfold J6 at h;split at h <;> (cases h;rfl)
   ·split at h
    ·cases h;exact N.one _
    ·cases h
abbrev tk (b:Nat):Value:=.chan (some b)
structure AxN (b:Nat)(N:Va)(p:Xb):Prop where
 tok:∀ k v,Xi N k=some v→∃ s,p k=some s∧s.val=v
 rd:∃ s,p 64=some s∧s.blk=b∧s.off=0∧s.size=3∧s.esz=3
 cell:∃ s,p 80=some s∧s.blk=N.D∧s.off=0∧s.size=1∧s.esz=1
theorem AxN.mono {b:Nat}{N:Va}(p q:Xb)(hpq:p.le q)(h:AxN b N p):AxN b N q:=⟨fun k v hk=>(h.tok k v hk).imp fun s hs=>⟨hpq _ _ hs.1,hs.2⟩,h.rd.imp fun s hs=>⟨hpq _ _ hs.1,hs.2⟩,h.cell.imp fun s hs=>⟨hpq _ _ hs.1,hs.2⟩⟩
theorem AxN.vr {b:Nat}{N:Va}{p:Xb}(h:AxN b N p){k:Nat}{v:Value}(hk:Xi N k=some v):VR p (tk k) v:=by
 obtain⟨s,h1,h2⟩:=h.tok k v hk
 have:=VR.tok h1 (by rw[h2];exact Qnx hk);rw[h2] at this;exact this
theorem AxN.val {b:Nat}{N:Va}{p:Xb}(h:AxN b N p){k:Nat}{v v':Value}(hk:Xi N k=some v)(hv:VR p (tk k) v'):v'=v:=by
 obtain⟨s,h1,h2⟩:=h.tok k v hk;cases hv with
 |tok h3 _=>
  rw[h1] at h3;cases h3;exact h2
def Qps (S:Nat→Prop)(s:V9)(ts:List Tr):Prop:=∃ a c,s.val=.slice a ts.length c∧(∀ k,s.foot k≠none→S k)∧(ts=[]∨∃ g o,a=some ⟨g,o,none⟩∧s.foot g≠none∧∀ W:World,(∀ k x,s.foot k=some x→W.heap[k]? = some x)→Xp (fun k=>s.foot k≠none) W g ts o)
mutual
theorem X3.weak {S S':Nat→Prop}(h:∀ k,S k→S' k){w:World}:∀ {t:Tr} {cs:List Value},X3 S w t cs→X3 S' w t cs
 | .mk k x n p kids,cs,hc=>by
  unfold X3 at hc ⊢;obtain⟨a,c,h1,h2⟩:=hc;refine⟨a,c,h1,h2.imp id ?_⟩;rintro⟨g,o,h3,h4,h5⟩;exact⟨g,o,h3,h g h4,Xp.weak h h5⟩
theorem Xp.weak {S S':Nat→Prop}(h:∀ k,S k→S' k){w:World}{g:Nat}:∀ {l:List Tr} {o:Nat},Xp S w g l o→Xp S' w g l o
 | [],_,_=>by unfold Xp;trivial
 |t::l,o,hr=>by
  unfold Xp at hr ⊢;obtain⟨⟨v0,v1,v2,v3,v4,h0,h1,h2,h3,h4,h5⟩,h6⟩:=hr;exact⟨⟨v0,v1,v2,v3,v4,h0,h1,h2,h3,h4,X3.weak h h5⟩,Xp.weak h h6⟩
end
def Rt (S:Nat→Prop)(s:V9)(ts:List Tr):Prop:=∃ a c,s.val=.slice a ts.length c∧ts.length≤c∧c≤maxLen∧(∀ k,s.foot k≠none→S k)∧((a=none∧ts=[]∧c=0)∨∃ g o bs,a=some ⟨g,o,none⟩∧s.foot g=some (.cells bs 26 (0,0))∧o+c*5≤bs.size∧∀ W:World,(∀ k x,s.foot k=some x→W.heap[k]? = some x)→Xp (fun k=>s.foot k≠none∧k≠g) W g ts o)
theorem Rt.toS {S:Nat→Prop}{s:V9}{ts:List Tr}(h:Rt S s ts):Qps S s ts:=by
 obtain⟨a,c,h1,-,-,h4,h5⟩:=h;refine⟨a,c,h1,h4,?_⟩;rcases h5 with ⟨-,h,-⟩|⟨g,o,bs,h6,h7,-,h8⟩
 ·exact .inl h
 ·exact .inr ⟨g,o,h6,by rw[h7];simp,fun W hW=>Xp.weak (fun k hk=>hk.1) (h8 W hW)⟩
def Jj (b:Nat)(E:Env)(N:Va)(p:Xb)(m:Nat)(s:V9):Prop:=match m % 8 with
 |0=>Qhu b E.w0 s.val (N.L (m / 8))∧s.foot=noF
 |1=>Qps N.S s (N.T (m / 8)).kids
 |2=>Rt N.S s (N.TS (m / 8))
 |3=>s.foot=noF∧s.val=.int .i64 ((N.TS (m / 8)).length:Int)
 |4=>s.foot=noF∧∃ s' g o n c,p (m / 8)=some s'∧s'.val=.slice (some ⟨g,o,none⟩) (n+1) c∧s.val=.pointer (some ⟨g,o+5*n,none⟩)
 |5=>s.foot=noF∧∃ s' g o n c,p (m / 8)=some s'∧s'.val=.slice (some ⟨g,o,none⟩) n c∧s.val=.pointer (some ⟨g,o,none⟩)
 |6=>s.foot=noF∧s.val=.int .i64 ((N.L (m / 8)).length:Int)
 |_=>True
theorem Jj.mono {b:Nat}{E:Env}{N:Va}(p q:Xb)(m:Nat)(s:V9)(hpq:p.le q)(h:Jj b E N p m s):Jj b E N q m s:=by
 unfold Jj at h ⊢;split at h
 ·exact h
 ·exact h
 ·exact h
 ·exact h
 ·obtain⟨h0,s',g,o,n,c,h1,h2,h3⟩:=h;exact⟨h0,s',g,o,n,c,hpq _ _ h1,h2,h3⟩
 ·obtain⟨h0,s',g,o,n,c,h1,h2,h3⟩:=h;exact⟨h0,s',g,o,n,c,hpq _ _ h1,h2,h3⟩
 ·exact h
 ·trivial
inductive Sp where
 |nd (k x n a:Value) (kids:List Sp)
 |ab (k x n a:Value) (m:Nat)
def Wp (N:Va):Value→Nat
 | .int _ i=>i.toNat
 | .chan (some b)=>(match Xi N b with
  |some (.int _ i)=>i.toNat
  |_=>0)
 |_=>0
def strOf (N:Va):Value→List UInt8
 | .string s=>s.data.toList
 | .chan (some b)=>(match Xi N b with
  |some (.string s)=>s.data.toList
  |_=>[])
 |_=>[]
def listOf (N:Va)(m:Nat):List Tr:=if m % 8=1 then (N.T (m / 8)).kids else N.TS (m / 8)
mutual
def den (N:Va):Sp→Tr
 | .nd k x n a kids => .mk (Wp N k) (strOf N x) (Wp N n) (Wp N a) (dens N kids)
 | .ab k x n a m => .mk (Wp N k) (strOf N x) (Wp N n) (Wp N a) (listOf N m)
def dens (N:Va):List Sp→List Tr
 | []=>[]
 |s::l=>den N s::dens N l
end
inductive CRes where
 |look (v:Value)
 |step (j:Nat) (v:Value)
 |tree (j:Nat) (k:Value) (t:Nat)
 |trees (j m:Nat)
 |pan (v:Value)
 |pure (v:Value)
 |cons (m:Nat) (y:Option (Sp×Nat))
 |more (i:Nat) (r:Bool)
 |kid (t u:Nat) (own:Bool)
 |intl (d0 d1:Int) (r:CRes)
structure Xt where
 g:FuncId
 args:List Value
 i:Nat
 hd:Value
 res:CRes
def Qsn:List Xt→FuncId→List Value→Nat→Value→Option CRes
 | [],_,_,_,_=>none
 |c::cs,g,ys,i,hd=>match Nat.beq c.g g&&(Nat.beq c.i i&&(eqV 9 c.hd hd&&eqL (eqV 9) c.args ys)) with
  |true=>some c.res
  |false=>Qsn cs g ys i hd
theorem Qi9:∀ {cs:List Xt} {g:FuncId} {ys:List Value} {i:Nat} {hd:Value} {r:CRes},Qsn cs g ys i hd=some r→(⟨g,ys,i,hd,r⟩:Xt)∈cs
 | [],_,_,_,_,_,h=>by cases h
 |c::cs,g,ys,i,hd,r,h=>by
  unfold Qsn at h;split at h
  ·rename_i hb;simp only[Bool.and_eq_true] at hb;obtain⟨h1,h2,h3,h4⟩:=hb;obtain⟨cg,ca,ci,ch,cr⟩:=c;cases h;have e1:=Nat.eq_of_beq_eq_true h1;have e2:=Nat.eq_of_beq_eq_true h2;have e3:=Vr h3;have e4:=Qao (fun h=>Vr h) h4;dsimp only at e1 e2 e3 e4;rw[←e1,←e2,←e3,←e4];exact List.mem_cons_self ..
  ·exact List.mem_cons_of_mem _ (Qi9 h)
def hdOK:Value→Bool
 | .bool _=>true
 | .chan (some 321)=>true
 |_=>false
noncomputable def Qh7 (d0 d1:Int):M Q4 Unit:=M.bind (Ap 80) fun r=>match r.1 with
 | [.int .i64 d]=>if d=d0∧r.2.1=3∧r.2.2=1 then M.write 80 (some (.row [.int .i64 d1] 3 1)) else M.fail
 |_=>M.fail
noncomputable def E5 (rd:Nat)(t:TypeId)(hd:Value):CRes→M Q4 CR
 | .pure _=>M.fail
 | .cons _ _=>M.fail
 | .more _ _=>M.fail
 | .kid _ _ _=>M.fail
 | .intl d0 d1 r=>M.bind (Qh7 d0 d1) fun _=>E5 rd t hd r
 | .look v=>M.pure (.ret v)
 | .pan v=>M.bind (M.write rd none) fun _=>M.pure (.pan v)
 | .step j v=>M.bind (M.new (.abs (8*j))) fun c=>M.bind (M.write rd (some (.row [tk c,tk 320,hd] t 3))) fun _=>M.pure (.ret v)
 | .tree j k i=>M.bind (M.new (.abs (8*j))) fun c=>M.bind (M.new (.abs (8*i+1))) fun d=>M.bind (M.write rd (some (.row [tk c,tk 320,hd] t 3))) fun _=>M.pure (.ret (.agg #[k,tk (256+4*i+1),tk (256+4*i+2),tk (256+4*i+3),tk d]))
 | .trees j m=>M.bind (M.new (.abs (8*j))) fun c=>M.bind (M.new (.abs (8*m+2))) fun d=>M.bind (M.write rd (some (.row [tk c,tk 320,hd] t 3))) fun _=>M.pure (.ret (tk d))
noncomputable def Qqv (RT:TypeId)(cs:List Xt)(g:FuncId)(ys:List Value):M Q4 CR:=M.bind (Ap 64) fun r=>match r.1 with
 | [.chan (some c),.chan (some 320),hd]=>if r.2.1=RT∧r.2.2=3∧hdOK hd=true then M.bind (M.read c) fun o=>match o with
   | .abs m=>if m % 8=0 then (match Qsn cs g ys (m / 8) hd with
    |some res=>E5 64 RT hd res
    |none=>M.fail) else M.fail
   |_=>M.fail
  else M.fail
 |_=>M.fail
def isTold:List Xt→FuncId→Bool
 | [],_=>false
 |c::cs,g=>Nat.beq c.g g||isTold cs g
def Qpb:List Xt→FuncId→List Value→Option Value
 | [],_,_=>none
 |c::cs,g,ys=>match c.res with
  | .pure v=>(match Nat.beq c.g g&&eqL (eqV 9) c.args ys with
   |true=>some v
   |false=>Qpb cs g ys)
  |_=>Qpb cs g ys
theorem Qei:∀ {cs:List Xt} {g:FuncId} {ys:List Value} {v:Value},Qpb cs g ys=some v→∃ c∈cs,c.g=g∧c.args=ys∧c.res=.pure v
 | [],_,_,_,h=>by cases h
 |c::cs,g,ys,v,h=>by
  unfold Qpb at h;split at h
  ·rename_i v' hr;split at h
   ·rename_i hb;rw[Bool.and_eq_true] at hb;cases h;exact⟨c,List.mem_cons_self ..,Nat.eq_of_beq_eq_true hb.1,Qao (fun h=>Vr h) hb.2,hr⟩
   ·obtain⟨c',h1,h2⟩:=Qei h;exact⟨c',List.mem_cons_of_mem _ h1,h2⟩
  ·obtain⟨c',h1,h2⟩:=Qei h;exact⟨c',List.mem_cons_of_mem _ h1,h2⟩
noncomputable def orcS (RT:TypeId)(cs:List Xt)(g:FuncId)(args:List Value):Option (M Q4 CR):=match args with
 | .pointer (some ⟨64,0,none⟩)::ys=>(match isTold cs g with
  |true=>some (Qqv RT cs g ys)
  |false=>none)
 |ys=>(match Qpb cs g ys with
  |some v=>some (M.pure (.ret v))
  |none=>none)
theorem Qi2 (d0 d1:Int):M.Local (Qh7 d0 d1):=by
 unfold Qh7;refine M.Qh (Us _) fun r=>?_
 split
 ·split
  ·exact M.Vb _ _
  ·exact M.Qe
 ·exact M.Qe
theorem Qd5 (rd:Nat)(t:TypeId)(hd:Value):∀ r:CRes,M.Local (E5 rd t hd r)
 | .pure _=>M.Qe
 | .cons _ _=>M.Qe
 | .more _ _=>M.Qe
 | .kid _ _ _=>M.Qe
 | .look _=>M.Qi _
 | .pan _=>M.Qh (M.Vb _ _) fun _=>M.Qi _
 | .step _ _=>M.Qh (M.Vj _) fun _=>M.Qh (M.Vb _ _) fun _=>M.Qi _
 | .tree _ _ _=>M.Qh (M.Vj _) fun _=>M.Qh (M.Vj _) fun _=>M.Qh (M.Vb _ _) fun _=>M.Qi _
 | .trees _ _=>M.Qh (M.Vj _) fun _=>M.Qh (M.Vj _) fun _=>M.Qh (M.Vb _ _) fun _=>M.Qi _
 | .intl d0 d1 r=>M.Qh (Qi2 d0 d1) fun _=>Qd5 rd t hd r
theorem Qoo (RT:TypeId)(cs:List Xt)(g:FuncId)(ys:List Value):M.Local (Qqv RT cs g ys):=by
 unfold Qqv;refine M.Qh (Us _) fun r=>?_
 split
 ·split
  ·refine M.Qh (M.Vd _) fun o=>?_
   split
   ·split
    ·split
     ·exact Qd5 _ _ _ _
     ·exact M.Qe
    ·exact M.Qe
   ·exact M.Qe
  ·exact M.Qe
 ·exact M.Qe
theorem Qil {RT:TypeId}{cs:List Xt}{g:FuncId}{args:List Value}{m:M Q4 CR}(h:orcS RT cs g args=some m):(∃ ys,args=.pointer (some ⟨64,0,none⟩)::ys∧m=Qqv RT cs g ys)∨∃ v,Qpb cs g args=some v∧m=M.pure (.ret v):=by
 unfold orcS at h;split at h
 ·split at h
  ·cases h;exact .inl ⟨_,rfl,rfl⟩
  ·cases h
 ·split at h
  ·rename_i v hv;cases h;exact .inr ⟨v,hv,rfl⟩
  ·cases h
end Prs
end
end Go.Proofs.YtcbkeecabcbogaaGreatDoor
