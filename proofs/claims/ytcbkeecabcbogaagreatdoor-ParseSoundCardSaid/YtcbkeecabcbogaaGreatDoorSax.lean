/- Contract of expr. (Printed by gen_ex2.py.) Loops within a fu -/
import Derived.Test.YtcbkeecabcbogaaGreatDoorSaw
set_option maxRecDepth 20000
set_option linter.unusedSimpArgs false
set_option linter.unusedVariables false
namespace Go.Proofs.YtcbkeecabcbogaaGreatDoor
open Go.RowKit
namespace Prs
open Ev
theorem Ky {c c':Code}{Q:Exit→Act→World→Prop}{a:Act}{w:World}(e:c=c')(h:Vl Tryz.prog c' Q a w):(Code.loop c).wp Tryz.prog Q a w:=by
 subst e;exact Zr (show Vl _ _ _ _ _ from h)
theorem X3.five {S:Nat→Prop}{w:World}{t:Tr}{cs:List Value}(h:X3 S w t cs):∃ v0 v1 v2 v3 v4,cs=[v0,v1,v2,v3,v4]:=by
 cases t;unfold X3 at h;obtain⟨a,c,rfl,-⟩:=h;exact⟨_,_,_,_,_,rfl⟩
theorem Qp3.out {L:Rl}{b:Nat}{E:Env}{hd:Bool}{w w':World}{t:Tr}{l:List Tok}{a:Act}{fn:Func}(h:Qp3 L b E hd (w.alloc (.cells Q3 26)) t l w' a)(hr:L.r=w.heap.size)(hq:w.heap.size<L.q)(hf:fn.results = #[.cell L.resSlot 26]):bodyPost Tryz.prog fn (Out b E hd (Zd (w.heap.size ≤ ·)) (.ok (t,l)) w) .ret a w':=by
 obtain⟨cs,h1,h2⟩:=h.res;obtain⟨v0,v1,v2,v3,v4,rfl⟩:=h2.five;have hk:=h.keep;have hsz:=hk.size;rw[World.size_alloc] at hsz;exact Dj hf h.ds h.resS h1 ⟨hk.os,hk.tape,hk.output,by omega,fun k h1 h2=>(hk.block k (by rw[World.size_alloc];omega) h2 Dw Dw).trans (Below.heap_alloc w _ k h1)⟩ ⟨_,rfl,X3.weak (fun k hk=>by have h1:(w.alloc (.cells Q3 26)).heap.size≤k:=hk.1;rw[World.size_alloc] at h1;omega) h2⟩ h.rd
theorem Qfz {b q:Nat}{w w':World}(hq:w.heap.size<q)(hk:Ua b q w.heap.size (w.alloc (.cells Q3 26)) w'):Qo b w w':=by
 have hsz:=hk.size;rw[World.size_alloc] at hsz;exact⟨hk.os,hk.tape,hk.output,by omega,fun k h1 h2=>(hk.block k (by rw[World.size_alloc];omega) h2 Dw Dw).trans (Below.heap_alloc w _ k h1)⟩
theorem Zd.C {S:Nat→Prop}{w:World}{t:Tr}{v0 v1 v2 v3 v4:Value}(h:Zd S w t (.agg #[v0,v1,v2,v3,v4])):X3 S w t [v0,v1,v2,v3,v4]:=by
 obtain⟨cs,he,hc⟩:=h;have h1:(#[v0,v1,v2,v3,v4]:Array Value)=cs.toArray:=congrArg Value.cells he;have h2:=congrArg Array.toList h1;have h3:cs=[v0,v1,v2,v3,v4]:=by simpa using h2.symm
 rw[←h3];exact hc
theorem expr_c1 {b f:Nat}{E:Env}{hd:Bool}(hB:J4 b E)(hu:Reads b E hd 64 #[rp b] (Vg E.len f hd))(hx:∀ (k g:Nat),k≤5→g<f→Reads b E hd 37 #[rp b,.int .i64 ((k+1:Nat):Int)] (Xj E.len g (k+1) hd)):
  Reads b E hd 37 #[rp b,.int .i64 1] (Xj E.len (f+1) 1 hd):=by
 intro l w r h hr;have hb:=h.lt;have HR:=Dh h;have HU:=Dh hu;have HX:=Dh hx;have HB:=Dh hB;rw[Xj] at hr;clear h hu hx hB;cases hun:Vg E.len f hd l with
 |none=>rw[hun] at hr;cases hr
 |some y=>
  rw[hun] at hr;have HN:=Dh hun;clear hun;cases y with
  |error p=>
   cases hr;go_enter Tryz.func37,Tryz.ntmps37
   go_wp2_with (go_at_call 64;refine(HU.out _ _ _ (HR.out.new (.cells Q3 26)) HN.out).mono ?_;rintro e w2 ⟨hk,rfl⟩)
   exact⟨rfl,(Qo.new _ _).trans hk,rfl⟩
  |ok y=>
   obtain⟨t,m⟩:=y;unfold andThen at hr;dsimp only at hr;have HL:=Dh hr;clear hr;go_enter Tryz.func37,Tryz.ntmps37
   go_wp2_with (first|(go_at_call 64;refine(HU.out _ _ _ (HR.out.new (.cells Q3 26)) HN.out).mono ?_;rintro e w2 ⟨hk,v,rfl,hv,hr2⟩;obtain⟨v0,v1,v2,v3,v4,rfl,hone⟩:=hv.cells;have hv:=Dh hv;have hone:=Dh hone;have hb2:=hr2.lt;have hr2:=Dh hr2;have hq:=Dh (hk.row hb (Qz w (.cells Q3 26))))|((with_reducible refine Hq rfl _ _ rfl rfl (v0:=v0) (v1:=v1) (v2:=v2) (v3:=v3) (v4:=v4) ?hx ?hy hone.out ?_);(case hx=>rfl);(case hy=>rfl);intro W1 hrw hB1;have hr3:=Dh (hr2.out.keep hB1);have hrw:=Dh hrw;have hB1:=Dh hB1))
   have hq2:w.heap.size<w2.heap.size:=(Array.getElem?_eq_some_iff.1 hq.out).1;have hks:=hk.size;rw[World.size_alloc] at hks;refine Ky (c':=Jc) Dk (Qph (q:=w2.heap.size) (r:=w.heap.size) (F0:=f) (w1:=w.alloc (.cells Q3 26)) Dw hb Dw (by rw[World.size_alloc];omega) (by rw[World.size_alloc];omega) HB.out HX.out (res:=r) ?_ f t m _ _ (Nat.le_refl _) HL.out ?_)
   ·cases r with
    |error p=>
     intro w' a' hk' hd';obtain⟨tm,ds⟩:=a';obtain rfl:ds=[]:=hd';exact⟨rfl,Qfz hq2 hk',rfl⟩
    |ok y=>
     obtain⟨t',l'⟩:=y;intro w' a' hE;exact hE.out rfl hq2 (show Tryz.f37.results = #[.cell 4 26] from rfl)
   ·exact {
     rd:=hr3.out
     row:=⟨[v0,v1,v2,v3,v4],hrw.out,X3.frame (fun k hk1 hk2=>⟨hk1,by show k≠w2.heap.size;omega,by show k≠w.heap.size;rw[World.size_alloc] at hk1;omega⟩) (fun k hk1 hk2=>hB1.out.block k hk2) hv.out.C⟩
     res:=(hB1.out.block _ hq2).trans hq.out
     keep:=⟨hB1.out.os.trans hk.os,hB1.out.tape.trans hk.tape,hB1.out.output.trans hk.output,Nat.le_trans hk.size hB1.out.size,fun k h1 h2 h3 h4=>(hB1.out.block k (Nat.lt_of_lt_of_le h1 hk.size)).trans (hk.block k h1 h2)⟩
     rowS:=rfl
     resS:=rfl
     dirS:=fun x hx=>by
      have hx:x ∈ [_,_]:=hx;simp only[List.mem_cons,List.not_mem_nil,or_false] at hx;rcases hx with rfl|rfl <;> rfl
     n:=rfl
     ds:=rfl }
theorem expr_c2 {b f:Nat}{E:Env}{hd:Bool}(hB:J4 b E)(hu:Reads b E hd 64 #[rp b] (Vg E.len f hd))(hx:∀ (k g:Nat),k≤5→g<f→Reads b E hd 37 #[rp b,.int .i64 ((k+1:Nat):Int)] (Xj E.len g (k+1) hd)):
  Reads b E hd 37 #[rp b,.int .i64 2] (Xj E.len (f+1) 2 hd):=by
 intro l w r h hr;have hb:=h.lt;have HR:=Dh h;have HU:=Dh hu;have HX:=Dh hx;have HB:=Dh hB;rw[Xj] at hr;clear h hu hx hB;cases hun:Vg E.len f hd l with
 |none=>rw[hun] at hr;cases hr
 |some y=>
  rw[hun] at hr;have HN:=Dh hun;clear hun;cases y with
  |error p=>
   cases hr;go_enter Tryz.func37,Tryz.ntmps37
   go_wp2_with (go_at_call 64;refine(HU.out _ _ _ (HR.out.new (.cells Q3 26)) HN.out).mono ?_;rintro e w2 ⟨hk,rfl⟩)
   exact⟨rfl,(Qo.new _ _).trans hk,rfl⟩
  |ok y=>
   obtain⟨t,m⟩:=y;unfold andThen at hr;dsimp only at hr;have HL:=Dh hr;clear hr;go_enter Tryz.func37,Tryz.ntmps37
   go_wp2_with (first|(go_at_call 64;refine(HU.out _ _ _ (HR.out.new (.cells Q3 26)) HN.out).mono ?_;rintro e w2 ⟨hk,v,rfl,hv,hr2⟩;obtain⟨v0,v1,v2,v3,v4,rfl,hone⟩:=hv.cells;have hv:=Dh hv;have hone:=Dh hone;have hb2:=hr2.lt;have hr2:=Dh hr2;have hq:=Dh (hk.row hb (Qz w (.cells Q3 26))))|((with_reducible refine Hq rfl _ _ rfl rfl (v0:=v0) (v1:=v1) (v2:=v2) (v3:=v3) (v4:=v4) ?hx ?hy hone.out ?_);(case hx=>rfl);(case hy=>rfl);intro W1 hrw hB1;have hr3:=Dh (hr2.out.keep hB1);have hrw:=Dh hrw;have hB1:=Dh hB1))
   have hq2:w.heap.size<w2.heap.size:=(Array.getElem?_eq_some_iff.1 hq.out).1;have hks:=hk.size;rw[World.size_alloc] at hks;refine Ky (c':=Jc) Dk (Qpg (q:=w2.heap.size) (r:=w.heap.size) (F0:=f) (w1:=w.alloc (.cells Q3 26)) Dw hb Dw (by rw[World.size_alloc];omega) (by rw[World.size_alloc];omega) HB.out HX.out (res:=r) ?_ f t m _ _ (Nat.le_refl _) HL.out ?_)
   ·cases r with
    |error p=>
     intro w' a' hk' hd';obtain⟨tm,ds⟩:=a';obtain rfl:ds=[]:=hd';exact⟨rfl,Qfz hq2 hk',rfl⟩
    |ok y=>
     obtain⟨t',l'⟩:=y;intro w' a' hE;exact hE.out rfl hq2 (show Tryz.f37.results = #[.cell 4 26] from rfl)
   ·exact {
     rd:=hr3.out
     row:=⟨[v0,v1,v2,v3,v4],hrw.out,X3.frame (fun k hk1 hk2=>⟨hk1,by show k≠w2.heap.size;omega,by show k≠w.heap.size;rw[World.size_alloc] at hk1;omega⟩) (fun k hk1 hk2=>hB1.out.block k hk2) hv.out.C⟩
     res:=(hB1.out.block _ hq2).trans hq.out
     keep:=⟨hB1.out.os.trans hk.os,hB1.out.tape.trans hk.tape,hB1.out.output.trans hk.output,Nat.le_trans hk.size hB1.out.size,fun k h1 h2 h3 h4=>(hB1.out.block k (Nat.lt_of_lt_of_le h1 hk.size)).trans (hk.block k h1 h2)⟩
     rowS:=rfl
     resS:=rfl
     dirS:=fun x hx=>by
      have hx:x ∈ [_,_]:=hx;simp only[List.mem_cons,List.not_mem_nil,or_false] at hx;rcases hx with rfl|rfl <;> rfl
     n:=rfl
     ds:=rfl }
theorem expr_c3 {b f:Nat}{E:Env}{hd:Bool}(hB:J4 b E)(hu:Reads b E hd 64 #[rp b] (Vg E.len f hd))(hx:∀ (k g:Nat),k≤5→g<f→Reads b E hd 37 #[rp b,.int .i64 ((k+1:Nat):Int)] (Xj E.len g (k+1) hd)):
  Reads b E hd 37 #[rp b,.int .i64 3] (Xj E.len (f+1) 3 hd):=by
 intro l w r h hr;have hb:=h.lt;have HR:=Dh h;have HU:=Dh hu;have HX:=Dh hx;have HB:=Dh hB;rw[Xj] at hr;clear h hu hx hB;cases hun:Vg E.len f hd l with
 |none=>rw[hun] at hr;cases hr
 |some y=>
  rw[hun] at hr;have HN:=Dh hun;clear hun;cases y with
  |error p=>
   cases hr;go_enter Tryz.func37,Tryz.ntmps37
   go_wp2_with (go_at_call 64;refine(HU.out _ _ _ (HR.out.new (.cells Q3 26)) HN.out).mono ?_;rintro e w2 ⟨hk,rfl⟩)
   exact⟨rfl,(Qo.new _ _).trans hk,rfl⟩
  |ok y=>
   obtain⟨t,m⟩:=y;unfold andThen at hr;dsimp only at hr;have HL:=Dh hr;clear hr;go_enter Tryz.func37,Tryz.ntmps37
   go_wp2_with (first|(go_at_call 64;refine(HU.out _ _ _ (HR.out.new (.cells Q3 26)) HN.out).mono ?_;rintro e w2 ⟨hk,v,rfl,hv,hr2⟩;obtain⟨v0,v1,v2,v3,v4,rfl,hone⟩:=hv.cells;have hv:=Dh hv;have hone:=Dh hone;have hb2:=hr2.lt;have hr2:=Dh hr2;have hq:=Dh (hk.row hb (Qz w (.cells Q3 26))))|((with_reducible refine Hq rfl _ _ rfl rfl (v0:=v0) (v1:=v1) (v2:=v2) (v3:=v3) (v4:=v4) ?hx ?hy hone.out ?_);(case hx=>rfl);(case hy=>rfl);intro W1 hrw hB1;have hr3:=Dh (hr2.out.keep hB1);have hrw:=Dh hrw;have hB1:=Dh hB1))
   have hq2:w.heap.size<w2.heap.size:=(Array.getElem?_eq_some_iff.1 hq.out).1;have hks:=hk.size;rw[World.size_alloc] at hks;refine Ky (c':=Jc) Dk (Qpf (q:=w2.heap.size) (r:=w.heap.size) (F0:=f) (w1:=w.alloc (.cells Q3 26)) Dw hb Dw (by rw[World.size_alloc];omega) (by rw[World.size_alloc];omega) HB.out HX.out (res:=r) ?_ f t m _ _ (Nat.le_refl _) HL.out ?_)
   ·cases r with
    |error p=>
     intro w' a' hk' hd';obtain⟨tm,ds⟩:=a';obtain rfl:ds=[]:=hd';exact⟨rfl,Qfz hq2 hk',rfl⟩
    |ok y=>
     obtain⟨t',l'⟩:=y;intro w' a' hE;exact hE.out rfl hq2 (show Tryz.f37.results = #[.cell 4 26] from rfl)
   ·exact {
     rd:=hr3.out
     row:=⟨[v0,v1,v2,v3,v4],hrw.out,X3.frame (fun k hk1 hk2=>⟨hk1,by show k≠w2.heap.size;omega,by show k≠w.heap.size;rw[World.size_alloc] at hk1;omega⟩) (fun k hk1 hk2=>hB1.out.block k hk2) hv.out.C⟩
     res:=(hB1.out.block _ hq2).trans hq.out
     keep:=⟨hB1.out.os.trans hk.os,hB1.out.tape.trans hk.tape,hB1.out.output.trans hk.output,Nat.le_trans hk.size hB1.out.size,fun k h1 h2 h3 h4=>(hB1.out.block k (Nat.lt_of_lt_of_le h1 hk.size)).trans (hk.block k h1 h2)⟩
     rowS:=rfl
     resS:=rfl
     dirS:=fun x hx=>by
      have hx:x ∈ [_,_]:=hx;simp only[List.mem_cons,List.not_mem_nil,or_false] at hx;rcases hx with rfl|rfl <;> rfl
     n:=rfl
     ds:=rfl }
theorem expr_c4 {b f:Nat}{E:Env}{hd:Bool}(hB:J4 b E)(hu:Reads b E hd 64 #[rp b] (Vg E.len f hd))(hx:∀ (k g:Nat),k≤5→g<f→Reads b E hd 37 #[rp b,.int .i64 ((k+1:Nat):Int)] (Xj E.len g (k+1) hd)):
  Reads b E hd 37 #[rp b,.int .i64 4] (Xj E.len (f+1) 4 hd):=by
 intro l w r h hr;have hb:=h.lt;have HR:=Dh h;have HU:=Dh hu;have HX:=Dh hx;have HB:=Dh hB;rw[Xj] at hr;clear h hu hx hB;cases hun:Vg E.len f hd l with
 |none=>rw[hun] at hr;cases hr
 |some y=>
  rw[hun] at hr;have HN:=Dh hun;clear hun;cases y with
  |error p=>
   cases hr;go_enter Tryz.func37,Tryz.ntmps37
   go_wp2_with (go_at_call 64;refine(HU.out _ _ _ (HR.out.new (.cells Q3 26)) HN.out).mono ?_;rintro e w2 ⟨hk,rfl⟩)
   exact⟨rfl,(Qo.new _ _).trans hk,rfl⟩
  |ok y=>
   obtain⟨t,m⟩:=y;unfold andThen at hr;dsimp only at hr;have HL:=Dh hr;clear hr;go_enter Tryz.func37,Tryz.ntmps37
   go_wp2_with (first|(go_at_call 64;refine(HU.out _ _ _ (HR.out.new (.cells Q3 26)) HN.out).mono ?_;rintro e w2 ⟨hk,v,rfl,hv,hr2⟩;obtain⟨v0,v1,v2,v3,v4,rfl,hone⟩:=hv.cells;have hv:=Dh hv;have hone:=Dh hone;have hb2:=hr2.lt;have hr2:=Dh hr2;have hq:=Dh (hk.row hb (Qz w (.cells Q3 26))))|((with_reducible refine Hq rfl _ _ rfl rfl (v0:=v0) (v1:=v1) (v2:=v2) (v3:=v3) (v4:=v4) ?hx ?hy hone.out ?_);(case hx=>rfl);(case hy=>rfl);intro W1 hrw hB1;have hr3:=Dh (hr2.out.keep hB1);have hrw:=Dh hrw;have hB1:=Dh hB1))
   have hq2:w.heap.size<w2.heap.size:=(Array.getElem?_eq_some_iff.1 hq.out).1;have hks:=hk.size;rw[World.size_alloc] at hks;refine Ky (c':=Jc) Dk (Qpe (q:=w2.heap.size) (r:=w.heap.size) (F0:=f) (w1:=w.alloc (.cells Q3 26)) Dw hb Dw (by rw[World.size_alloc];omega) (by rw[World.size_alloc];omega) HB.out HX.out (res:=r) ?_ f t m _ _ (Nat.le_refl _) HL.out ?_)
   ·cases r with
    |error p=>
     intro w' a' hk' hd';obtain⟨tm,ds⟩:=a';obtain rfl:ds=[]:=hd';exact⟨rfl,Qfz hq2 hk',rfl⟩
    |ok y=>
     obtain⟨t',l'⟩:=y;intro w' a' hE;exact hE.out rfl hq2 (show Tryz.f37.results = #[.cell 4 26] from rfl)
   ·exact {
     rd:=hr3.out
     row:=⟨[v0,v1,v2,v3,v4],hrw.out,X3.frame (fun k hk1 hk2=>⟨hk1,by show k≠w2.heap.size;omega,by show k≠w.heap.size;rw[World.size_alloc] at hk1;omega⟩) (fun k hk1 hk2=>hB1.out.block k hk2) hv.out.C⟩
     res:=(hB1.out.block _ hq2).trans hq.out
     keep:=⟨hB1.out.os.trans hk.os,hB1.out.tape.trans hk.tape,hB1.out.output.trans hk.output,Nat.le_trans hk.size hB1.out.size,fun k h1 h2 h3 h4=>(hB1.out.block k (Nat.lt_of_lt_of_le h1 hk.size)).trans (hk.block k h1 h2)⟩
     rowS:=rfl
     resS:=rfl
     dirS:=fun x hx=>by
      have hx:x ∈ [_,_]:=hx;simp only[List.mem_cons,List.not_mem_nil,or_false] at hx;rcases hx with rfl|rfl <;> rfl
     n:=rfl
     ds:=rfl }
theorem expr_c5 {b f:Nat}{E:Env}{hd:Bool}(hB:J4 b E)(hu:Reads b E hd 64 #[rp b] (Vg E.len f hd))(hx:∀ (k g:Nat),k≤5→g<f→Reads b E hd 37 #[rp b,.int .i64 ((k+1:Nat):Int)] (Xj E.len g (k+1) hd)):
  Reads b E hd 37 #[rp b,.int .i64 5] (Xj E.len (f+1) 5 hd):=by
 intro l w r h hr;have hb:=h.lt;have HR:=Dh h;have HU:=Dh hu;have HX:=Dh hx;have HB:=Dh hB;rw[Xj] at hr;clear h hu hx hB;cases hun:Vg E.len f hd l with
 |none=>rw[hun] at hr;cases hr
 |some y=>
  rw[hun] at hr;have HN:=Dh hun;clear hun;cases y with
  |error p=>
   cases hr;go_enter Tryz.func37,Tryz.ntmps37
   go_wp2_with (go_at_call 64;refine(HU.out _ _ _ (HR.out.new (.cells Q3 26)) HN.out).mono ?_;rintro e w2 ⟨hk,rfl⟩)
   exact⟨rfl,(Qo.new _ _).trans hk,rfl⟩
  |ok y=>
   obtain⟨t,m⟩:=y;unfold andThen at hr;dsimp only at hr;have HL:=Dh hr;clear hr;go_enter Tryz.func37,Tryz.ntmps37
   go_wp2_with (first|(go_at_call 64;refine(HU.out _ _ _ (HR.out.new (.cells Q3 26)) HN.out).mono ?_;rintro e w2 ⟨hk,v,rfl,hv,hr2⟩;obtain⟨v0,v1,v2,v3,v4,rfl,hone⟩:=hv.cells;have hv:=Dh hv;have hone:=Dh hone;have hb2:=hr2.lt;have hr2:=Dh hr2;have hq:=Dh (hk.row hb (Qz w (.cells Q3 26))))|((with_reducible refine Hq rfl _ _ rfl rfl (v0:=v0) (v1:=v1) (v2:=v2) (v3:=v3) (v4:=v4) ?hx ?hy hone.out ?_);(case hx=>rfl);(case hy=>rfl);intro W1 hrw hB1;have hr3:=Dh (hr2.out.keep hB1);have hrw:=Dh hrw;have hB1:=Dh hB1))
   have hq2:w.heap.size<w2.heap.size:=(Array.getElem?_eq_some_iff.1 hq.out).1;have hks:=hk.size;rw[World.size_alloc] at hks;refine Ky (c':=Jc) Dk (Qpd (q:=w2.heap.size) (r:=w.heap.size) (F0:=f) (w1:=w.alloc (.cells Q3 26)) Dw hb Dw (by rw[World.size_alloc];omega) (by rw[World.size_alloc];omega) HB.out HX.out (res:=r) ?_ f t m _ _ (Nat.le_refl _) HL.out ?_)
   ·cases r with
    |error p=>
     intro w' a' hk' hd';obtain⟨tm,ds⟩:=a';obtain rfl:ds=[]:=hd';exact⟨rfl,Qfz hq2 hk',rfl⟩
    |ok y=>
     obtain⟨t',l'⟩:=y;intro w' a' hE;exact hE.out rfl hq2 (show Tryz.f37.results = #[.cell 4 26] from rfl)
   ·exact {
     rd:=hr3.out
     row:=⟨[v0,v1,v2,v3,v4],hrw.out,X3.frame (fun k hk1 hk2=>⟨hk1,by show k≠w2.heap.size;omega,by show k≠w.heap.size;rw[World.size_alloc] at hk1;omega⟩) (fun k hk1 hk2=>hB1.out.block k hk2) hv.out.C⟩
     res:=(hB1.out.block _ hq2).trans hq.out
     keep:=⟨hB1.out.os.trans hk.os,hB1.out.tape.trans hk.tape,hB1.out.output.trans hk.output,Nat.le_trans hk.size hB1.out.size,fun k h1 h2 h3 h4=>(hB1.out.block k (Nat.lt_of_lt_of_le h1 hk.size)).trans (hk.block k h1 h2)⟩
     rowS:=rfl
     resS:=rfl
     dirS:=fun x hx=>by
      have hx:x ∈ [_,_]:=hx;simp only[List.mem_cons,List.not_mem_nil,or_false] at hx;rcases hx with rfl|rfl <;> rfl
     n:=rfl
     ds:=rfl }
theorem expr_c6 {b f:Nat}{E:Env}{hd:Bool}(hB:J4 b E)(hu:Reads b E hd 64 #[rp b] (Vg E.len f hd))(hx:∀ (k g:Nat),k≤5→g<f→Reads b E hd 37 #[rp b,.int .i64 ((k+1:Nat):Int)] (Xj E.len g (k+1) hd)):
  Reads b E hd 37 #[rp b,.int .i64 6] (Xj E.len (f+1) 6 hd):=by
 intro l w r h hr;have hb:=h.lt;have HR:=Dh h;have HU:=Dh hu;have HX:=Dh hx;have HB:=Dh hB;rw[Xj] at hr;clear h hu hx hB;cases hun:Vg E.len f hd l with
 |none=>rw[hun] at hr;cases hr
 |some y=>
  rw[hun] at hr;have HN:=Dh hun;clear hun;cases y with
  |error p=>
   cases hr;go_enter Tryz.func37,Tryz.ntmps37
   go_wp2_with (go_at_call 64;refine(HU.out _ _ _ (HR.out.new (.cells Q3 26)) HN.out).mono ?_;rintro e w2 ⟨hk,rfl⟩)
   exact⟨rfl,(Qo.new _ _).trans hk,rfl⟩
  |ok y=>
   obtain⟨t,m⟩:=y;unfold andThen at hr;dsimp only at hr;have HL:=Dh hr;clear hr;go_enter Tryz.func37,Tryz.ntmps37
   go_wp2_with (first|(go_at_call 64;refine(HU.out _ _ _ (HR.out.new (.cells Q3 26)) HN.out).mono ?_;rintro e w2 ⟨hk,v,rfl,hv,hr2⟩;obtain⟨v0,v1,v2,v3,v4,rfl,hone⟩:=hv.cells;have hv:=Dh hv;have hone:=Dh hone;have hb2:=hr2.lt;have hr2:=Dh hr2;have hq:=Dh (hk.row hb (Qz w (.cells Q3 26))))|((with_reducible refine Hq rfl _ _ rfl rfl (v0:=v0) (v1:=v1) (v2:=v2) (v3:=v3) (v4:=v4) ?hx ?hy hone.out ?_);(case hx=>rfl);(case hy=>rfl);intro W1 hrw hB1;have hr3:=Dh (hr2.out.keep hB1);have hrw:=Dh hrw;have hB1:=Dh hB1))
   have hq2:w.heap.size<w2.heap.size:=(Array.getElem?_eq_some_iff.1 hq.out).1;have hks:=hk.size;rw[World.size_alloc] at hks;refine Ky (c':=Jc) Dk (Qpc (q:=w2.heap.size) (r:=w.heap.size) (F0:=f) (w1:=w.alloc (.cells Q3 26)) Dw hb Dw (by rw[World.size_alloc];omega) (by rw[World.size_alloc];omega) HB.out HX.out (res:=r) ?_ f t m _ _ (Nat.le_refl _) HL.out ?_)
   ·cases r with
    |error p=>
     intro w' a' hk' hd';obtain⟨tm,ds⟩:=a';obtain rfl:ds=[]:=hd';exact⟨rfl,Qfz hq2 hk',rfl⟩
    |ok y=>
     obtain⟨t',l'⟩:=y;intro w' a' hE;exact hE.out rfl hq2 (show Tryz.f37.results = #[.cell 4 26] from rfl)
   ·exact {
     rd:=hr3.out
     row:=⟨[v0,v1,v2,v3,v4],hrw.out,X3.frame (fun k hk1 hk2=>⟨hk1,by show k≠w2.heap.size;omega,by show k≠w.heap.size;rw[World.size_alloc] at hk1;omega⟩) (fun k hk1 hk2=>hB1.out.block k hk2) hv.out.C⟩
     res:=(hB1.out.block _ hq2).trans hq.out
     keep:=⟨hB1.out.os.trans hk.os,hB1.out.tape.trans hk.tape,hB1.out.output.trans hk.output,Nat.le_trans hk.size hB1.out.size,fun k h1 h2 h3 h4=>(hB1.out.block k (Nat.lt_of_lt_of_le h1 hk.size)).trans (hk.block k h1 h2)⟩
     rowS:=rfl
     resS:=rfl
     dirS:=fun x hx=>by
      have hx:x ∈ [_,_]:=hx;simp only[List.mem_cons,List.not_mem_nil,or_false] at hx;rcases hx with rfl|rfl <;> rfl
     n:=rfl
     ds:=rfl }
def Qe2 (r len:Nat)(hd:Bool)(B:Nat)(ls:List (List Tok))(ts:List Tr)(tss:List (List Tr))(xs:List Int):Va where
 len:=len
 L:=fun i=>ls.getD i []
 T:=fun i=>ts.getD i tr0
 TS:=fun i=>tss.getD i []
 X:=fun k=>if k=63 then .pointer (some ⟨r,0,none⟩) else mkX len hd xs k
 one:=fun k=>by
  split
  ·rfl
  ·exact Qg2 len hd xs k
 S:=(B ≤ ·)
def Yy (n rowSlot resSlot:Nat)(b q r:Nat)(v0 v1 v2 v3:Value):Ue where
 n:=n
 rowSlot:=rowSlot
 rowTy:=26
 cells:=5
 ix:=4
 q:=q
 vs:=vsOf v0 v1 v2 v3
 boxes:=[]
 direct:=[(0,.pointer (some ⟨64,0,none⟩),rp b),(resSlot,tk 383,.pointer (some ⟨r,0,none⟩))]
theorem Qa6 {α:Type}{x a0 a1:α}{P:α→Prop}(h:x ∈ [a0,a1])(h0:P a0)(h1:P a1):P x:=by
 simp only[List.mem_cons,List.not_mem_nil,or_false] at h;rcases h with rfl|rfl
 ·exact h0
 ·exact h1
theorem tok383 {N:Va}{r:Nat}(hN:N.X 63=.pointer (some ⟨r,0,none⟩)):Xi N 383=some (.pointer (some ⟨r,0,none⟩)):=by rw[←hN];rfl
theorem fixI {n rowSlot resSlot b q r:Nat}{v0 v1 v2 v3:Value}{N:Va}{w1:World}(hq:b<q)(hb:b<w1.heap.size)(o0:v0.oneCell'=true)(o1:v1.oneCell'=true)(o2:v2.oneCell'=true)(o3:v3.oneCell'=true)(hN:N.X 63=.pointer (some ⟨r,0,none⟩)):LFix (Yy n rowSlot resSlot b q r v0 v1 v2 v3) b N w1 where
 bq:=hq
 bw:=hb
 cells:=Nat.le_refl 5
 ixl:=show 4<5 by decide
 nb:=show 0≤8 by decide
 boxb:=fun x hx=>by cases hx
 inj:=.nil
 one:=fun i _=>Qgk o0 o1 o2 o3 i
 cell:=fun x hx=>by cases hx
 dir:=fun x hx p hax=>Qa6 (P:=fun x=>VR p x.2.1 x.2.2) hx (Qhz hax) (hax.vr (tok383 hN))
theorem duI {n rowSlot resSlot b q r:Nat}{v0 v1 v2 v3:Value}{N:Va}(hN:N.X 63=.pointer (some ⟨r,0,none⟩)):∀ x∈(Yy n rowSlot resSlot b q r v0 v1 v2 v3).direct,∀ p u,AxN b N p→VR p x.2.1 u→u=x.2.2:=fun x hx p u hax hv=>Qa6 (P:=fun x=>VR p x.2.1 u→u=x.2.2) hx (fun h=>Qbr hax h) (fun h=>hax.val (tok383 hN) h) hv
theorem dnI {n rowSlot resSlot b q r:Nat}{v0 v1 v2 v3:Value}:∀ x∈(Yy n rowSlot resSlot b q r v0 v1 v2 v3).direct,x.2.1 ≠ .chan none:=fun x hx=>Qa6 (P:=fun x=>x.2.1 ≠ .chan none) hx Ds Ds
theorem Qtc {rr len:Nat}{hd:Bool}{B:Nat}{ls:List (List Tok)}{t:Tr}{ts:List Tr}{acc:List Tr}{xs:List Int}(hacc:acc.length≤4294967296):Qcj (Qe2 rr len hd B ls (t::ts) [acc,acc++[t]] xs) [(0,Zy 0,1)]:=fun x hx=>by
 obtain rfl:=List.mem_singleton.1 hx;exact⟨by rw[Qhl Dd];rfl,hacc⟩
noncomputable def Qnc:Code:=V8 (seqL (Qaz (Qaz (Ze 100))))
theorem Qta {b q rr F0:Nat}{E:Env}{hd:Bool}{w1:World}{v0 v1 v2 v3:Value}(hq:b<q)(hb:b<w1.heap.size)(o0:v0.oneCell'=true)(o1:v1.oneCell'=true)(o2:v2.oneCell'=true)(o3:v3.oneCell'=true)(hF:F0≤4294967296)
  (hs:∀ g,g<F0→Reads b E hd 26 #[rp b] (We E.len g hd)) {Q:Exit→Act→World→Prop} {r:Except Nat (List Tr×List Tok)}
  (hQ:match r with
   | .ok (ts,l')=>∀ w' a',Nl (Yy 45 3 2 b q rr v0 v1 v2 v3) b E hd w1 ts l' w' a'→Q (.exit 0) a' w'
   | .error p=>∀ w' a',Zx b q w1 w'→a'.defers=[]→Q (.panic [{ v:=Vw p,recovered:=false }]) a' w'):
  ∀ (f:Nat) (acc:List Tr) (l:List Tok) (w:World) (a:Act),acc.length+f≤F0→Y6 E.len f hd acc l=some r→Nl (Yy 45 3 2 b q rr v0 v1 v2 v3) b E hd w1 acc l w a→Vl Tryz.prog Qnc Q a w:=by
 intro f;induction f with
 |zero=>intro acc l w a _ h;rw[Y6] at h;cases h
 |succ f ih=>
  intro acc l w a hf h I;rw[Y6] at h;refine Zu ?_;have X:=fun N=>fixI (n:=45) (rowSlot:=3) (resSlot:=2) (r:=rr) (N:=N) hq hb o0 o1 o2 o3
  have nb:∀ {N:Va},∀ x∈(Yy 45 3 2 b q rr v0 v1 v2 v3).boxes,∀ p u,AxN b N p→VR p x.cell u→u=x.real:=fun x hx=>by cases hx
  cases k1:isP Tn l with
  |true=>
   rw[k1,Bool.true_or,if_pos rfl] at h;cases h;have D:X8 (Yy 45 3 2 b q rr v0 v1 v2 v3) b E (Qe2 rr E.len hd w1.heap.size [l] [] [acc] []) hd w1 w [Vk Tn 0 true (tk 321)] ⟨[],[],[],[]⟩ []:=
    ⟨rfl,rfl,rfl,rfl,Qa (Vm k1 _) Q7,fun _ hx=>(by cases hx),Ql,Qk,eqN,Qj,X _ rfl,nb,duI rfl,dnI⟩
   exact D.round rfl rfl I (fin:=.exit 0 0 0) (fun _ _ _=>by kernel_rfl) hQ
  |false=>
   rw[k1,Bool.false_or] at h;cases k2:isP Xh l with
   |true=>
    rw[k2,Bool.true_or,if_pos rfl] at h;cases h;have D:X8 (Yy 45 3 2 b q rr v0 v1 v2 v3) b E (Qe2 rr E.len hd w1.heap.size [l] [] [acc] []) hd w1 w [Vk Tn 0 false (tk 321),Vk Xh 0 true (tk 321)] ⟨[],[],[],[]⟩ []:=
     ⟨rfl,rfl,rfl,rfl,Qa (Vm k1 _) (Qa (Vm k2 _) Q7),fun _ hx=>(by cases hx),Ql,Qk,eqN,Qj,X _ rfl,nb,duI rfl,dnI⟩
    exact D.round rfl rfl I (fin:=.exit 0 0 0) (fun _ _ _=>by kernel_rfl) hQ
   |false=>
    rw[k2,Bool.false_or] at h;cases k3:isP wUc l with
    |true=>
     rw[k3,if_pos rfl] at h;cases h;have D:X8 (Yy 45 3 2 b q rr v0 v1 v2 v3) b E (Qe2 rr E.len hd w1.heap.size [l] [] [acc] []) hd w1 w [Vk Tn 0 false (tk 321),Vk Xh 0 false (tk 321),Vk wUc 0 true (tk 321)] ⟨[],[],[],[]⟩ []:=
      ⟨rfl,rfl,rfl,rfl,Qa (Vm k1 _) (Qa (Vm k2 _) (Qa (Vm k3 _) Q7)),fun _ hx=>(by cases hx),Ql,Qk,eqN,Qj,X _ rfl,nb,duI rfl,dnI⟩
     exact D.round rfl rfl I (fin:=.exit 0 0 0) (fun _ _ _=>by kernel_rfl) hQ
    |false=>
     rw[k3,if_neg Dd] at h;cases k4:We E.len f hd l with
     |none=>rw[k4] at h;cases h
     |some y=>
      rw[k4] at h;cases y with
      |error pl=>
       cases h;have D:X8 (Yy 45 3 2 b q rr v0 v1 v2 v3) b E (Qe2 rr E.len hd w1.heap.size [l] [] [acc] [(pl:Int)]) hd w1 w [Vk Tn 0 false (tk 321),Vk Xh 0 false (tk 321),Vk wUc 0 false (tk 321),Xq 26 [] 0 2 (tk 321)] ⟨[],[],[],[322]⟩ []:=
        ⟨rfl,rfl,rfl,rfl,Qa (Vm k1 _) (Qa (Vm k2 _) (Qa (Vm k3 _) (Qa (Zf (hs f Dw) (.inr rfl) rfl Qv k4 Dd rfl) Q7))),fun _ hx=>(by cases hx),Ql,Qk,eqN,V6 ⟨pl,rfl⟩ Qj,X _ rfl,nb,duI rfl,dnI⟩
       exact D.round rfl rfl I (fin:=.pan (tk 322)) (fun _ _ _=>by kernel_rfl) hQ
      |ok y=>
       obtain⟨t,m⟩:=y;dsimp only [andThen] at h;cases k5:Xn m==5 with
       |true=>
        rw[k5,if_pos rfl] at h;obtain⟨t0,hcons⟩:=Zm Dd k5;have D:X8 (Yy 45 3 2 b q rr v0 v1 v2 v3) b E (Qe2 rr E.len hd w1.heap.size [l,m,m.tail] [t] [acc,acc++[t]] []) hd w1 w [Vk Tn 0 false (tk 321),Vk Xh 0 false (tk 321),Vk wUc 0 false (tk 321),Qm 26 [] 0 1 (tk 256) 0 (tk 321),Qp 1 (tk 137) (tk 321)] ⟨[(1,2)],[(0,Zy 0,1)],[],[]⟩ [(137,.int .i64 5,true)]:=
         ⟨rfl,rfl,rfl,rfl,Qa (Vm k1 _) (Qa (Vm k2 _) (Qa (Vm k3 _) (Qa (Qs (hs f Dw) (.inr rfl) rfl Qv k4 (.inl rfl) Dd) (Qa (Qq Dd (.inl rfl) _) Q7)))),Nz ⟨t0,hcons⟩,Qtc Dw,Qk,eqC (Qg (i:=1) Dd k5) eqN,Qj,X _ rfl,nb,duI rfl,dnI⟩
        exact D.round rfl rfl I (fin:=.again 2 1) (fun _ _ _=>by kernel_rfl) fun w' a' I'=>ih (acc++[t]) m.tail w' a' (by simp;omega) h I'
       |false=>
        rw[k5,if_neg Dd] at h;cases k6:isP wUc m with
        |true=>
         rw[k6,if_pos rfl] at h;have D:X8 (Yy 45 3 2 b q rr v0 v1 v2 v3) b E (Qe2 rr E.len hd w1.heap.size [l,m] [t] [acc,acc++[t]] []) hd w1 w [Vk Tn 0 false (tk 321),Vk Xh 0 false (tk 321),Vk wUc 0 false (tk 321),Qm 26 [] 0 1 (tk 256) 0 (tk 321),Qp 1 (tk 137) (tk 321),Vk wUc 1 true (tk 321)] ⟨[],[(0,Zy 0,1)],[],[]⟩ [(137,.int .i64 5,false)]:=
          ⟨rfl,rfl,rfl,rfl,Qa (Vm k1 _) (Qa (Vm k2 _) (Qa (Vm k3 _) (Qa (Qs (hs f Dw) (.inr rfl) rfl Qv k4 (.inl rfl) Dd) (Qa (Qq Dd (.inl rfl) _) (Qa (Vm k6 _) Q7))))),fun _ hx=>(by cases hx),Qtc Dw,Qk,eqC (Qg (i:=1) Dd k5) eqN,Qj,X _ rfl,nb,duI rfl,dnI⟩
         exact D.round rfl rfl I (fin:=.again 1 1) (fun _ _ _=>by kernel_rfl) fun w' a' I'=>ih (acc++[t]) m w' a' (by simp;omega) h I'
        |false=>
         rw[k6,if_neg Dd] at h;cases h;have D:X8 (Yy 45 3 2 b q rr v0 v1 v2 v3) b E (Qe2 rr E.len hd w1.heap.size [l,m] [t] [acc,acc++[t]] []) hd w1 w [Vk Tn 0 false (tk 321),Vk Xh 0 false (tk 321),Vk wUc 0 false (tk 321),Qm 26 [] 0 1 (tk 256) 0 (tk 321),Qp 1 (tk 137) (tk 321),Vk wUc 1 false (tk 321),Qan 1 (tk 321)] ⟨[],[(0,Zy 0,1)],[],[]⟩ [(137,.int .i64 5,false)]:=
          ⟨rfl,rfl,rfl,rfl,Qa (Vm k1 _) (Qa (Vm k2 _) (Qa (Vm k3 _) (Qa (Qs (hs f Dw) (.inr rfl) rfl Qv k4 (.inl rfl) Dd) (Qa (Qq Dd (.inl rfl) _) (Qa (Vm k6 _) (Qa (Qb3 rfl Dd _) Q7)))))),fun _ hx=>(by cases hx),Qtc Dw,Qk,eqC (Qg (i:=1) Dd k5) eqN,Qj,X _ rfl,nb,duI rfl,dnI⟩
         exact D.round rfl rfl I (fin:=.pan (tk 136)) (fun _ _ _=>by kernel_rfl) hQ
noncomputable def Bd:Code:=V8 (seqL (Qaz (Qaz (Qaz (Qaz (Qaz (Ze 53)))))))
theorem Qkb {b q rr F0:Nat}{E:Env}{hd:Bool}{w1:World}{v0 v1 v2 v3:Value}(hq:b<q)(hb:b<w1.heap.size)(o0:v0.oneCell'=true)(o1:v1.oneCell'=true)(o2:v2.oneCell'=true)(o3:v3.oneCell'=true)(hF:F0≤4294967296)
  (hs:∀ g,g<F0→Reads b E hd 76 #[rp b] (Jz E.len g)) {Q:Exit→Act→World→Prop} {r:Except Nat (List Tr×List Tok)}
  (hQ:match r with
   | .ok (ts,l')=>∀ w' a',Nl (Yy 31 5 4 b q rr v0 v1 v2 v3) b E hd w1 ts l' w' a'→Q (.exit 0) a' w'
   | .error p=>∀ w' a',Zx b q w1 w'→a'.defers=[]→Q (.panic [{ v:=Vw p,recovered:=false }]) a' w'):
  ∀ (f:Nat) (acc:List Tr) (l:List Tok) (w:World) (a:Act),acc.length+f≤F0→U0 E.len f acc l=some r→Nl (Yy 31 5 4 b q rr v0 v1 v2 v3) b E hd w1 acc l w a→Vl Tryz.prog Bd Q a w:=by
 intro f;induction f with
 |zero=>intro acc l w a _ h;rw[U0] at h;cases h
 |succ f ih=>
  intro acc l w a hf h I;rw[U0] at h;refine Zu ?_;have X:=fun N=>fixI (n:=31) (rowSlot:=5) (resSlot:=4) (r:=rr) (N:=N) hq hb o0 o1 o2 o3
  have nb:∀ {N:Va},∀ x∈(Yy 31 5 4 b q rr v0 v1 v2 v3).boxes,∀ p u,AxN b N p→VR p x.cell u→u=x.real:=fun x hx=>by cases hx
  cases k1:isP wUc l with
  |true=>
   rw[k1,if_pos rfl] at h;cases h;have D:X8 (Yy 31 5 4 b q rr v0 v1 v2 v3) b E (Qe2 rr E.len hd w1.heap.size [l,l.tail] [] [acc] []) hd w1 w [Qx wUc 0 1 (tk 321)] ⟨[],[],[],[]⟩ []:=
    ⟨rfl,rfl,rfl,rfl,Qa (Qy k1 rfl _) Q7,fun _ hx=>(by cases hx),Ql,Qk,eqN,Qj,X _ rfl,nb,duI rfl,dnI⟩
   exact D.round rfl rfl I (fin:=.exit 0 1 0) (fun _ _ _=>by kernel_rfl) hQ
  |false=>
   rw[k1,if_neg Dd] at h;cases k2:Jz E.len f l with
   |none=>rw[k2] at h;cases h
   |some y=>
    rw[k2] at h;cases y with
    |error pl=>
     cases h;have D:X8 (Yy 31 5 4 b q rr v0 v1 v2 v3) b E (Qe2 rr E.len hd w1.heap.size [l] [] [acc] [(pl:Int)]) hd w1 w [Qc wUc 0 (tk 321),Xq 76 [] 0 2 (tk 321)] ⟨[],[],[],[322]⟩ []:=
      ⟨rfl,rfl,rfl,rfl,Qa (Qd k1 _) (Qa (Zf (hs f Dw) (.inr rfl) rfl Qv k2 Dd rfl) Q7),fun _ hx=>(by cases hx),Ql,Qk,eqN,V6 ⟨pl,rfl⟩ Qj,X _ rfl,nb,duI rfl,dnI⟩
     exact D.round rfl rfl I (fin:=.pan (tk 322)) (fun _ _ _=>by kernel_rfl) hQ
    |ok y=>
     obtain⟨t,m⟩:=y;dsimp only [andThen] at h;unfold Qdh at h;have go:∀ m2,((Xn m==5)=true∧m2=m.tail)∨((Xn m==5)=false∧isP wUc m=true∧m2=m)→U0 E.len f (acc++[t]) m2=some r→Bd.wp Tryz.prog (Exit.then (fun a w=>Vl Tryz.prog Bd Q a w) Q) a w:=fun m2 hm2 hrest=>by
      have D:X8 (Yy 31 5 4 b q rr v0 v1 v2 v3) b E (Qe2 rr E.len hd w1.heap.size [l,m,m2] [t] [acc,acc++[t]] []) hd w1 w [Qc wUc 0 (tk 321),Qm 76 [] 0 1 (tk 256) 0 (tk 321),Qjd wUc 1 2 (tk 321)] ⟨[],[(0,Zy 0,1)],[],[]⟩ []:=
       ⟨rfl,rfl,rfl,rfl,Qa (Qd k1 _) (Qa (Qs (hs f Dw) (.inr rfl) rfl Qv k2 (.inl rfl) Dd) (Qa (Qme hm2 _) Q7)),fun _ hx=>(by cases hx),Qtc Dw,Qk,eqN,Qj,X _ rfl,nb,duI rfl,dnI⟩
      exact D.round rfl rfl I (fin:=.again 2 1) (fun _ _ _=>by kernel_rfl) fun w' a' I'=>ih (acc++[t]) m2 w' a' (by simp;omega) hrest I'
     cases k3:Xn m==5 with
     |true=>
      rw[k3,if_pos rfl] at h;exact go m.tail (.inl ⟨k3,rfl⟩) h
     |false=>
      rw[k3,if_neg Dd] at h;cases k4:isP wUc m with
      |true=>
       rw[k4,if_pos rfl] at h;exact go m (.inr ⟨k3,k4,rfl⟩) h
      |false=>
       rw[k4,if_neg Dd] at h;cases h;have D:X8 (Yy 31 5 4 b q rr v0 v1 v2 v3) b E (Qe2 rr E.len hd w1.heap.size [l,m] [t] [acc,acc++[t]] []) hd w1 w [Qc wUc 0 (tk 321),Qm 76 [] 0 1 (tk 256) 0 (tk 321),Qam wUc 1 (tk 321)] ⟨[],[(0,Zy 0,1)],[],[]⟩ []:=
        ⟨rfl,rfl,rfl,rfl,Qa (Qd k1 _) (Qa (Qs (hs f Dw) (.inr rfl) rfl Qv k2 (.inl rfl) Dd) (Qa (Qct rfl Dd k3 k4 _) Q7)),fun _ hx=>(by cases hx),Qtc Dw,Qk,eqN,Qj,X _ rfl,nb,duI rfl,dnI⟩
       exact D.round rfl rfl I (fin:=.pan (tk 136)) (fun _ _ _=>by kernel_rfl) hQ
theorem Qj8 {id d s t:Nat}{o1 o2:Oper}{a:Act}{w:World}{Q:Exit→Act→World→Prop}{q r:Nat}{cs:Array Value}(g1:o1.guard=none)(e1:o1.op=.load 26 (.tmp s))(d1:o1.dst=some d)(g2:o2.guard=none)(e2:o2.op=.store 26 (.tmp t) (.tmp d))(d2:o2.dst=none)
  (hsz:d<a.tmps.size) (hdt:d≠t) (hs:a.tmps.getD s undef=.pointer (some ⟨q,0,none⟩)) (ht:a.tmps.getD t undef=.pointer (some ⟨r,0,none⟩)) (hq:w.heap[q]? = some (.cells cs 26 (0,0))) (hc:cs.size=5) (hone:cs.all (·.oneCell')=true) (hr:w.heap[r]? = some (.cells Q3 26 (0,0)))
  (h:∀ a':Act,a'.tmps.getD t undef=.pointer (some ⟨r,0,none⟩)→a'.defers=a.defers→Q .ret a' (w.setRow r cs)):(Code.seq (.region id #[o1,o2] false) .ret).wp Tryz.prog Q a w:=by
 have key:∀ k,k≠d→(a.put (some d) (.agg cs)).tmps.getD k undef=a.tmps.getD k undef:=fun k hk=>by
  show (a.tmps.setIfInBounds d (.agg cs)).getD k undef=_
  rw[Array.getD_eq_getD_getElem?,Array.getD_eq_getD_getElem?,Array.getElem?_setIfInBounds_ne (Ne.symm hk)]
 refine wp_seq (wp_region_list ?_);refine wpList_load_row g1 26 (.tmp s) e1 q hs 26 cs (0,0) _ hq Tryz.underlying26 rfl (Xe _ hc) ?_;rw[d1];refine wpList_store_rowTo g2 26 (.tmp t) (.tmp d) e2 d2 r cs ?_ ?_ 26 Q3 hr (Xe _ hc) (by rw[hc];rfl) hone ?_
 ·show (a.put (some d) (.agg cs)).tmps.getD t undef=_
  rw[key t (Ne.symm hdt)];exact ht
 ·show (a.tmps.setIfInBounds d (.agg cs)).getD d undef=_
  rw[Array.getD_eq_getD_getElem?,Array.getElem?_setIfInBounds_self];simp[hsz]
 ·refine wpList_nil (wp_ret (h _ ?_ rfl));rw[key t (Ne.symm hdt)];exact ht
theorem Nl.list {n rs ts b q r:Nat}{E:Env}{hd:Bool}{w1 w:World}{v0 v1 v2 v3:Value}{acc:List Tr}{l:List Tok}{a:Act}(I:Nl (Yy n rs ts b q r v0 v1 v2 v3) b E hd w1 acc l w a):∃ v F,w.heap[q]? = some (.cells #[v0,v1,v2,v3,v] 26 (0,0))∧Rt (w1.heap.size ≤ ·) ⟨0,0,0,0,v,F⟩ acc∧∀ k o,F k=some o→w.heap[k]? = some o:=by
 obtain⟨v,F,fr,hrow,hfr,hfr0,hG,hF,-⟩:=I.row;obtain rfl:=hfr0 (show (5:Nat)≠1 by decide);exact⟨v,F,hrow,hG,hF⟩
theorem body_c {b f:Nat}{E:Env}{hd:Bool}(hF:f≤4294967296)(hs:∀ g,g<f→Reads b E hd 26 #[rp b] (We E.len g hd)):Reads b E hd 100 #[rp b] (Rj E.len (f+1) hd):=by
 intro l w r h hr;have hb:=h.lt;have HR:=Dh h;have HS:=Dh hs;have HF:=Dh hF;have HW:=Dh fun w (h:RdB b E w l hd)=>Ai b E l hd w Qqr h
 rw[Rj] at hr;unfold Ub at hr;cases h1:isP Qqr l with
 |false=>
  rw[h1,if_neg Dd] at hr;cases hr;rw[h1] at HW;clear h hs;go_enter Tryz.func100,Tryz.ntmps100
  go_wp2_with (go_at_call 68;refine(HW.out _ (HR.out.new _)).mono ?_;rintro e w2 ⟨hk,hr⟩;rw[if_neg Dd] at hr;obtain rfl:=hr)
  exact⟨rfl,(Qo.new _ _).trans hk,rfl⟩
 |true=>
  rw[h1,if_pos rfl] at hr;dsimp only [andThen,ok] at hr;rw[h1] at HW;cases h2:Y6 E.len f hd [] l.tail with
  |none=>rw[h2] at hr;cases hr
  |some y=>
  rw[h2] at hr;have H2:=Dh h2;have HY:=Dh hr;clear h hs h2 hr hF;go_enter Tryz.func100,Tryz.ntmps100
  go_wp2_with (go_at_call 68;refine(HW.out _ (HR.out.new _)).mono ?_;rintro e w2 ⟨hk,hr2⟩;rw[if_pos rfl] at hr2;obtain⟨rfl,hr2⟩:=hr2;have hr2:=Dh hr2;have hw2:=Dh (hk.row hb (Qz w (.cells Q3 26)));have hs2:=Dh hk.size;have hk:=Dh hk)
  have hs3:w.heap.size+1≤w2.heap.size:=by have:=hs2.out;rw[World.size_alloc] at this;exact this
  refine Ky (c':=Qnc) Dk (Qta (q:=w2.heap.size) (rr:=w.heap.size) (F0:=f) (w1:=w2.alloc (.cells #[.int .i64 20,.string ⟨#[]⟩,.int .u64 0,.int .i64 (atP E.len l:Int),.slice none 0 0] 26)) (v0:=.int .i64 20) (v1:=.string ⟨#[]⟩) (v2:=.int .u64 0) (v3:=.int .i64 (atP E.len l:Int)) Dw (by rw[World.size_alloc];omega) rfl rfl rfl rfl HF.out HS.out (r:=y) ?_ f [] l.tail _ _ Ds H2.out ?_)
  ·cases y with
   |error p=>
    intro w' a' hk' hd';obtain⟨tm,ds⟩:=a';obtain rfl:ds=[]:=hd';have hy:=HY.out;cases hy;exact⟨rfl,Zx.toR (((Qo.new _ _).trans hk.out).trans (Qo.new _ _)) hk' Dw,rfl⟩
   |ok y=>
    obtain⟨ts,l'⟩:=y;intro w' a' I';have hy:=HY.out;cases hy;rename_i K Q' hK;refine hK _ _ ?_;obtain⟨v,F,hrow,hG,hF⟩:=I'.list;have hd0:a'.tmps.getD 2 undef=.pointer (some ⟨w.heap.size,0,none⟩):=I'.dirS (2,tk 383,.pointer (some ⟨w.heap.size,0,none⟩)) (List.mem_cons_of_mem _ (List.mem_cons_self ..));have hn:a'.tmps.size=45:=I'.n;have hz2:(w2.alloc (.cells #[.int .i64 20,.string ⟨#[]⟩,.int .u64 0,.int .i64 (atP E.len l:Int),.slice none 0 0] 26)).heap[w.heap.size]? = some (.cells Q3 26 (0,0)):=Xw hw2.out _;have hk0:=I'.keep;have hz:w'.heap[w.heap.size]? = some (.cells Q3 26 (0,0)):=(hk0.block _ (Array.getElem?_eq_some_iff.1 hz2).1 Dw (by show w.heap.size≠w2.heap.size;omega)).trans hz2;refine Qj8 (d:=44) (s:=3) (t:=2) rfl rfl rfl rfl rfl rfl Dw Dd I'.rowS hd0 hrow rfl hG.ones hz fun a2 ha2 hd2=>?_
    have hlo:∀ k,F k≠none→w2.heap.size+1≤k:=fun k hk=>by
     obtain⟨_,_,-,-,-,h4,-⟩:=hG;have h4:(w2.alloc (.cells #[.int .i64 20,.string ⟨#[]⟩,.int .u64 0,.int .i64 (atP E.len l:Int),.slice none 0 0] 26)).heap.size≤k:=h4 k hk;rw[World.size_alloc] at h4;exact h4
    refine Dj (show Tryz.f100.results = #[.cell 2 26] from rfl) (hd2.trans I'.ds) ha2 (setRow_heap _ _ Q3 _ 26 (0,0) hz) ((Zx.toR (((Qo.new _ _).trans hk.out).trans (Qo.new _ _)) hk0 (by show w.heap.size≤w2.heap.size;omega)).setRow (Nat.le_refl _) _) (Rt.node hG (fun k o hk=>?_) (fun k hk=>?_) 20 [] 0 (atP E.len l)) (I'.rd.setRow hb _)
    ·have:=hlo k (by rw[hk];simp);exact(setRow_other _ _ _ _ Dw).trans (hF k o hk)
    ·rw[World.size_alloc] at hk;omega
  ·exact {
    rd:=hr2.out.new _
    row:=⟨.slice none 0 0,noF,(0,0),Qz w2 _,fun j _=>by simp,fun _=>rfl,⟨none,0,rfl,by simp,by decide,fun k hk=>absurd rfl hk,.inl ⟨rfl,rfl,rfl⟩⟩,fun k o hk=>(by cases hk),rfl,rfl,fun _ _=>rfl⟩
    box:=fun x hx=>by cases hx
    keep:=⟨rfl,rfl,rfl,Nat.le_refl _,fun _ _ _ _=>rfl⟩
    rowS:=rfl
    boxS:=fun x hx=>by cases hx
    dirS:=fun x hx=>Qa6 (P:=fun x=>Array.getD _ x.1 undef=x.2.2) hx rfl rfl
    n:=rfl
    ds:=rfl }
end Prs
end Go.Proofs.YtcbkeecabcbogaaGreatDoor
