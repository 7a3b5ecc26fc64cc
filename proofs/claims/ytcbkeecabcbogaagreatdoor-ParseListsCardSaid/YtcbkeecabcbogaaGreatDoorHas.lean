/- Contract of many, once for each function that reads one. (Pr -/
import Derived.Test.YtcbkeecabcbogaaGreatDoorHar
set_option maxRecDepth 20000
set_option linter.unusedSimpArgs false
set_option linter.unusedVariables false
namespace Go.Proofs.YtcbkeecabcbogaaGreatDoor
open Go.RowKit
namespace Prs
open Ev
theorem Gz.toW {B B':Nat}{F:Nat→Option Obj}{v:Value}{ts:List Tr}{W:World}(hG:Gz (B ≤ ·) ⟨0,0,0,0,v,F⟩ ts)(hF:∀ k o,F k=some o→W.heap[k]? = some o)(hB:B'≤B):ListW B' W v ts:=by
 obtain⟨a,c,rfl,h2,h3,h4,h5⟩:=hG;refine⟨a,c,rfl,h2,h3,?_⟩;rcases h5 with h|⟨g,o,bs,h6,h7,h8,h9⟩
 ·exact .inl h
 ·refine .inr ⟨g,o,bs,h6,Nat.le_trans hB (h4 g (by rw[h7];simp)),hF _ _ h7,h8,Xq.weak (fun k hk=>⟨Nat.le_trans hB (h4 k hk.1),hk.2⟩) (h9 W hF)⟩
abbrev mw (b:Nat)(shut:List UInt8)(first:Bool)(g:FuncId)(w:World):World:=((((w.alloc (.cells #[rp b] 51)).alloc (.cells #[str shut] 9)).alloc (.cells #[.bool first] 4)).alloc (.cells #[.func (.func g) #[rp b] #[]] 50)).alloc (.cells #[.slice none 0 0] 24)
theorem Eo {b:Nat}{shut:List UInt8}{first:Bool}{g:FuncId}{w:World}:(mw b shut first g w).heap.size=w.heap.size+5:=by simp[mw]
theorem Yp {b:Nat}{shut:List UInt8}{first:Bool}{g:FuncId}{w:World}(hb:b<w.heap.size):Qjd b (w.heap.size+4) (w.heap.size+2) w.heap.size (w.heap.size+1) (w.heap.size+3) (mw b shut first g w) where
 bq:=by omega
 bw:=by rw[Eo];omega
 d0:=by omega
 d1:=by omega
 d2:=by omega
 d3:=by omega
 e:=by omega
theorem P9 {b:Nat}{shut:List UInt8}{first:Bool}{g:FuncId}{w:World}:Qqb b (w.heap.size+4) (w.heap.size+2) w.heap.size (w.heap.size+1) (w.heap.size+3) first shut g (mw b shut first g w):=by
 have sz:∀ (w:World) (o:Obj),(w.alloc o).heap.size=w.heap.size+1:=World.size_alloc;have e1:=Q4 w (.cells #[rp b] 51);have e2:=Q4 (w.alloc (.cells #[rp b] 51)) (.cells #[str shut] 9);rw[sz] at e2;have e3:=Q4 ((w.alloc (.cells #[rp b] 51)).alloc (.cells #[str shut] 9)) (.cells #[.bool first] 4);rw[sz,sz] at e3;have e4:=Q4 (((w.alloc (.cells #[rp b] 51)).alloc (.cells #[str shut] 9)).alloc (.cells #[.bool first] 4)) (.cells #[.func (.func g) #[rp b] #[]] 50);rw[sz,sz,sz] at e4;have e5:=Q4 ((((w.alloc (.cells #[rp b] 51)).alloc (.cells #[str shut] 9)).alloc (.cells #[.bool first] 4)).alloc (.cells #[.func (.func g) #[rp b] #[]] 50)) (.cells #[.slice none 0 0] 24);rw[sz,sz,sz,sz] at e5;exact⟨e5,Xz (Xz e3 _) _,Xz (Xz (Xz (Xz e1 _) _) _) _,Xz (Xz (Xz e2 _) _) _,Xz e4 _⟩
theorem far1 {b q q0 q1 q2 q3:Nat}{w w':World}(h:Qr b w w')(f:Qjd b q q0 q1 q2 q3 w):Qjd b q q0 q1 q2 q3 w':=⟨f.bq,Nat.lt_of_lt_of_le f.bw h.size,f.d0,f.d1,f.d2,f.d3,f.e⟩
theorem Ff {W:World}{q:Nat}{v:Value}{t:TypeId}{fr:Nat×Nat}(h:W.heap[q]? = some (.cells #[v] t fr))(hfr:unfr fr 1):W.cell? ⟨q,0,none⟩=some v∧True:=by
 have:=hfr 0 Dd;unfold World.cell?
 refine⟨?_,trivial⟩;dsimp only;rw[h];rfl
theorem Qcv {b:Nat}{shut:List UInt8}{first:Bool}{g:FuncId}{w:World}{E:Env}{l:List Tok}{hd:Bool}(h:RdB b E w l hd):RdB b E (mw b shut first g w) l hd:=((((h.new _).new _).new _).new _).new _
theorem Gj {b:Nat}{shut:List UInt8}{first:Bool}{g:FuncId}{w:World}:Qr b w (mw b shut first g w):=((((Qr.new _ _).trans (Qr.new _ _)).trans (Qr.new _ _)).trans (Qr.new _ _)).trans (Qr.new _ _)
theorem Pi {b f:Nat}{E:Env}{hd:Bool}{x:List Tok→R Tr}(hs:Reads b E false 76 #[rp b] x)(hf:f≤4294967296):Du b E hd 71 #[rp b,str Qw,.bool false,.func (.func 76) #[rp b] #[]] (U7 E.len Qw false x f):=by
 intro l w r h hr;have hb:=h.lt;have HR:=Dh h;have HS:=Dh hs;have HY:=Dh hr;have HF:=Dh hf;clear h hs hr hf;cases r with
 |error pl=>
  go_enter Tryz.func71,Tryz.ntmps71
  go_wp2_with (go_at_call 69;refine(V3 b E l hd (mw b Qw false 76 w) (Qcv HR.out) (w.heap.size+4) _ (Left (X0 b (w.heap.size+4) (w.heap.size+2) w.heap.size (w.heap.size+1) (w.heap.size+3) false Qw 76) b E (mw b Qw false 76 w) (Except.error pl:Except Nat (List Tr×List Tok))) (fun p=>(Except.error pl:Except Nat (List Tr×List Tok))=.error p) (fun w1 g1 g2=>(Bc (r:=(Except.error pl:Except Nat (List Tr×List Tok))) (far1 g2 (Yp hb)) HS.out HF.out HY.out g1 (P9.keep g2 (Yp hb))).mono (U2 g2.size))).mono ?_;rintro e w5 ⟨hk5,hq5⟩;rcases hq5 with ⟨-,l2,w4,-,⟨ts,h,-⟩,-⟩|⟨p,rfl,h⟩;cases h;cases h)
  exact⟨rfl,Vo.toR Gj hk5 Dw,rfl⟩
 |ok y=>
  obtain⟨ts,l2⟩:=y;go_enter Tryz.func71,Tryz.ntmps71
  go_wp2_with (go_at_call 69;refine(V3 b E l hd (mw b Qw false 76 w) (Qcv HR.out) (w.heap.size+4) _ (Left (X0 b (w.heap.size+4) (w.heap.size+2) w.heap.size (w.heap.size+1) (w.heap.size+3) false Qw 76) b E (mw b Qw false 76 w) (Except.ok (ts,l2):Except Nat (List Tr×List Tok))) (fun p=>(Except.ok (ts,l2):Except Nat (List Tr×List Tok))=.error p) (fun w1 g1 g2=>(Bc (r:=(Except.ok (ts,l2):Except Nat (List Tr×List Tok))) (far1 g2 (Yp hb)) HS.out HF.out HY.out g1 (P9.keep g2 (Yp hb))).mono (U2 g2.size))).mono ?_;rintro e w5 ⟨hk5,hq5⟩;rcases hq5 with hq5|⟨p,-,h⟩;rotate_left;(cases h);obtain⟨rfl,l3,w4,hr5,⟨ts2,h,wm,am,hsz,I⟩,hk4⟩:=hq5;cases h;obtain⟨v,F,fr,hrow4,hfr,-,hG,hF4,f1,f2,f3⟩:=I.row;have hrow5:w5.heap[w.heap.size+4]? = some (.cells #[v] 24 fr):=hk4.row Dw hrow4;obtain⟨hvx,-⟩:=Ff hrow5 hfr)
  (try simp only[Exit.inBlock,Exit.then]);refine bodyPost_ret (by(simp[results,Tryz.results71,go_sem,hvx];try rfl)) rfl ?_
  exact⟨Vo.toR Gj hk5 Dw,v,rfl,hG.toW (fun k o hk=>(hk4.block k (Array.getElem?_eq_some_iff.1 (hF4 k o hk)).1 (fun e=>by rw[e,f1] at hk;cases hk)).trans (hF4 k o hk)) (by rw[Eo] at hsz;omega),hr5⟩
theorem Qam {b f:Nat}{E:Env}{hd:Bool}{x:List Tok→R Tr}(hs:Reads b E false 48 #[rp b] x)(hf:f≤4294967296):Du b E hd 71 #[rp b,str Qw,.bool false,.func (.func 48) #[rp b] #[]] (U7 E.len Qw false x f):=by
 intro l w r h hr;have hb:=h.lt;have HR:=Dh h;have HS:=Dh hs;have HY:=Dh hr;have HF:=Dh hf;clear h hs hr hf;cases r with
 |error pl=>
  go_enter Tryz.func71,Tryz.ntmps71
  go_wp2_with (go_at_call 69;refine(V3 b E l hd (mw b Qw false 48 w) (Qcv HR.out) (w.heap.size+4) _ (Left (X0 b (w.heap.size+4) (w.heap.size+2) w.heap.size (w.heap.size+1) (w.heap.size+3) false Qw 48) b E (mw b Qw false 48 w) (Except.error pl:Except Nat (List Tr×List Tok))) (fun p=>(Except.error pl:Except Nat (List Tr×List Tok))=.error p) (fun w1 g1 g2=>(Qbo (r:=(Except.error pl:Except Nat (List Tr×List Tok))) (far1 g2 (Yp hb)) HS.out HF.out HY.out g1 (P9.keep g2 (Yp hb))).mono (U2 g2.size))).mono ?_;rintro e w5 ⟨hk5,hq5⟩;rcases hq5 with ⟨-,l2,w4,-,⟨ts,h,-⟩,-⟩|⟨p,rfl,h⟩;cases h;cases h)
  exact⟨rfl,Vo.toR Gj hk5 Dw,rfl⟩
 |ok y=>
  obtain⟨ts,l2⟩:=y;go_enter Tryz.func71,Tryz.ntmps71
  go_wp2_with (go_at_call 69;refine(V3 b E l hd (mw b Qw false 48 w) (Qcv HR.out) (w.heap.size+4) _ (Left (X0 b (w.heap.size+4) (w.heap.size+2) w.heap.size (w.heap.size+1) (w.heap.size+3) false Qw 48) b E (mw b Qw false 48 w) (Except.ok (ts,l2):Except Nat (List Tr×List Tok))) (fun p=>(Except.ok (ts,l2):Except Nat (List Tr×List Tok))=.error p) (fun w1 g1 g2=>(Qbo (r:=(Except.ok (ts,l2):Except Nat (List Tr×List Tok))) (far1 g2 (Yp hb)) HS.out HF.out HY.out g1 (P9.keep g2 (Yp hb))).mono (U2 g2.size))).mono ?_;rintro e w5 ⟨hk5,hq5⟩;rcases hq5 with hq5|⟨p,-,h⟩;rotate_left;(cases h);obtain⟨rfl,l3,w4,hr5,⟨ts2,h,wm,am,hsz,I⟩,hk4⟩:=hq5;cases h;obtain⟨v,F,fr,hrow4,hfr,-,hG,hF4,f1,f2,f3⟩:=I.row;have hrow5:w5.heap[w.heap.size+4]? = some (.cells #[v] 24 fr):=hk4.row Dw hrow4;obtain⟨hvx,-⟩:=Ff hrow5 hfr)
  (try simp only[Exit.inBlock,Exit.then]);refine bodyPost_ret (by(simp[results,Tryz.results71,go_sem,hvx];try rfl)) rfl ?_
  exact⟨Vo.toR Gj hk5 Dw,v,rfl,hG.toW (fun k o hk=>(hk4.block k (Array.getElem?_eq_some_iff.1 (hF4 k o hk)).1 (fun e=>by rw[e,f1] at hk;cases hk)).trans (hF4 k o hk)) (by rw[Eo] at hsz;omega),hr5⟩
theorem Qev {b f:Nat}{E:Env}{hd:Bool}{x:List Tok→R Tr}(hs:Reads b E false 22 #[rp b] x)(hf:f≤4294967296):Du b E hd 71 #[rp b,str Qw,.bool false,.func (.func 22) #[rp b] #[]] (U7 E.len Qw false x f):=by
 intro l w r h hr;have hb:=h.lt;have HR:=Dh h;have HS:=Dh hs;have HY:=Dh hr;have HF:=Dh hf;clear h hs hr hf;cases r with
 |error pl=>
  go_enter Tryz.func71,Tryz.ntmps71
  go_wp2_with (go_at_call 69;refine(V3 b E l hd (mw b Qw false 22 w) (Qcv HR.out) (w.heap.size+4) _ (Left (X0 b (w.heap.size+4) (w.heap.size+2) w.heap.size (w.heap.size+1) (w.heap.size+3) false Qw 22) b E (mw b Qw false 22 w) (Except.error pl:Except Nat (List Tr×List Tok))) (fun p=>(Except.error pl:Except Nat (List Tr×List Tok))=.error p) (fun w1 g1 g2=>(Qbq (r:=(Except.error pl:Except Nat (List Tr×List Tok))) (far1 g2 (Yp hb)) HS.out HF.out HY.out g1 (P9.keep g2 (Yp hb))).mono (U2 g2.size))).mono ?_;rintro e w5 ⟨hk5,hq5⟩;rcases hq5 with ⟨-,l2,w4,-,⟨ts,h,-⟩,-⟩|⟨p,rfl,h⟩;cases h;cases h)
  exact⟨rfl,Vo.toR Gj hk5 Dw,rfl⟩
 |ok y=>
  obtain⟨ts,l2⟩:=y;go_enter Tryz.func71,Tryz.ntmps71
  go_wp2_with (go_at_call 69;refine(V3 b E l hd (mw b Qw false 22 w) (Qcv HR.out) (w.heap.size+4) _ (Left (X0 b (w.heap.size+4) (w.heap.size+2) w.heap.size (w.heap.size+1) (w.heap.size+3) false Qw 22) b E (mw b Qw false 22 w) (Except.ok (ts,l2):Except Nat (List Tr×List Tok))) (fun p=>(Except.ok (ts,l2):Except Nat (List Tr×List Tok))=.error p) (fun w1 g1 g2=>(Qbq (r:=(Except.ok (ts,l2):Except Nat (List Tr×List Tok))) (far1 g2 (Yp hb)) HS.out HF.out HY.out g1 (P9.keep g2 (Yp hb))).mono (U2 g2.size))).mono ?_;rintro e w5 ⟨hk5,hq5⟩;rcases hq5 with hq5|⟨p,-,h⟩;rotate_left;(cases h);obtain⟨rfl,l3,w4,hr5,⟨ts2,h,wm,am,hsz,I⟩,hk4⟩:=hq5;cases h;obtain⟨v,F,fr,hrow4,hfr,-,hG,hF4,f1,f2,f3⟩:=I.row;have hrow5:w5.heap[w.heap.size+4]? = some (.cells #[v] 24 fr):=hk4.row Dw hrow4;obtain⟨hvx,-⟩:=Ff hrow5 hfr)
  (try simp only[Exit.inBlock,Exit.then]);refine bodyPost_ret (by(simp[results,Tryz.results71,go_sem,hvx];try rfl)) rfl ?_
  exact⟨Vo.toR Gj hk5 Dw,v,rfl,hG.toW (fun k o hk=>(hk4.block k (Array.getElem?_eq_some_iff.1 (hF4 k o hk)).1 (fun e=>by rw[e,f1] at hk;cases hk)).trans (hF4 k o hk)) (by rw[Eo] at hsz;omega),hr5⟩
theorem Qeu {b f:Nat}{E:Env}{hd:Bool}{x:List Tok→R Tr}(hs:Reads b E false 97 #[rp b] x)(hf:f≤4294967296):Du b E hd 71 #[rp b,str wQs,.bool true,.func (.func 97) #[rp b] #[]] (U7 E.len wQs true x f):=by
 intro l w r h hr;have hb:=h.lt;have HR:=Dh h;have HS:=Dh hs;have HY:=Dh hr;have HF:=Dh hf;clear h hs hr hf;cases r with
 |error pl=>
  go_enter Tryz.func71,Tryz.ntmps71
  go_wp2_with (go_at_call 69;refine(V3 b E l hd (mw b wQs true 97 w) (Qcv HR.out) (w.heap.size+4) _ (Left (X0 b (w.heap.size+4) (w.heap.size+2) w.heap.size (w.heap.size+1) (w.heap.size+3) true wQs 97) b E (mw b wQs true 97 w) (Except.error pl:Except Nat (List Tr×List Tok))) (fun p=>(Except.error pl:Except Nat (List Tr×List Tok))=.error p) (fun w1 g1 g2=>(Qbp (r:=(Except.error pl:Except Nat (List Tr×List Tok))) (far1 g2 (Yp hb)) HS.out HF.out HY.out g1 (P9.keep g2 (Yp hb))).mono (U2 g2.size))).mono ?_;rintro e w5 ⟨hk5,hq5⟩;rcases hq5 with ⟨-,l2,w4,-,⟨ts,h,-⟩,-⟩|⟨p,rfl,h⟩;cases h;cases h)
  exact⟨rfl,Vo.toR Gj hk5 Dw,rfl⟩
 |ok y=>
  obtain⟨ts,l2⟩:=y;go_enter Tryz.func71,Tryz.ntmps71
  go_wp2_with (go_at_call 69;refine(V3 b E l hd (mw b wQs true 97 w) (Qcv HR.out) (w.heap.size+4) _ (Left (X0 b (w.heap.size+4) (w.heap.size+2) w.heap.size (w.heap.size+1) (w.heap.size+3) true wQs 97) b E (mw b wQs true 97 w) (Except.ok (ts,l2):Except Nat (List Tr×List Tok))) (fun p=>(Except.ok (ts,l2):Except Nat (List Tr×List Tok))=.error p) (fun w1 g1 g2=>(Qbp (r:=(Except.ok (ts,l2):Except Nat (List Tr×List Tok))) (far1 g2 (Yp hb)) HS.out HF.out HY.out g1 (P9.keep g2 (Yp hb))).mono (U2 g2.size))).mono ?_;rintro e w5 ⟨hk5,hq5⟩;rcases hq5 with hq5|⟨p,-,h⟩;rotate_left;(cases h);obtain⟨rfl,l3,w4,hr5,⟨ts2,h,wm,am,hsz,I⟩,hk4⟩:=hq5;cases h;obtain⟨v,F,fr,hrow4,hfr,-,hG,hF4,f1,f2,f3⟩:=I.row;have hrow5:w5.heap[w.heap.size+4]? = some (.cells #[v] 24 fr):=hk4.row Dw hrow4;obtain⟨hvx,-⟩:=Ff hrow5 hfr)
  (try simp only[Exit.inBlock,Exit.then]);refine bodyPost_ret (by(simp[results,Tryz.results71,go_sem,hvx];try rfl)) rfl ?_
  exact⟨Vo.toR Gj hk5 Dw,v,rfl,hG.toW (fun k o hk=>(hk4.block k (Array.getElem?_eq_some_iff.1 (hF4 k o hk)).1 (fun e=>by rw[e,f1] at hk;cases hk)).trans (hF4 k o hk)) (by rw[Eo] at hsz;omega),hr5⟩
theorem Ba {b f:Nat}{E:Env}{hd:Bool}{x:List Tok→R Tr}(hs:Reads b E false 22 #[rp b] x)(hf:f≤4294967296):Du b E hd 71 #[rp b,str wUc,.bool false,.func (.func 22) #[rp b] #[]] (U7 E.len wUc false x f):=by
 intro l w r h hr;have hb:=h.lt;have HR:=Dh h;have HS:=Dh hs;have HY:=Dh hr;have HF:=Dh hf;clear h hs hr hf;cases r with
 |error pl=>
  go_enter Tryz.func71,Tryz.ntmps71
  go_wp2_with (go_at_call 69;refine(V3 b E l hd (mw b wUc false 22 w) (Qcv HR.out) (w.heap.size+4) _ (Left (X0 b (w.heap.size+4) (w.heap.size+2) w.heap.size (w.heap.size+1) (w.heap.size+3) false wUc 22) b E (mw b wUc false 22 w) (Except.error pl:Except Nat (List Tr×List Tok))) (fun p=>(Except.error pl:Except Nat (List Tr×List Tok))=.error p) (fun w1 g1 g2=>(Ah (r:=(Except.error pl:Except Nat (List Tr×List Tok))) (far1 g2 (Yp hb)) HS.out HF.out HY.out g1 (P9.keep g2 (Yp hb))).mono (U2 g2.size))).mono ?_;rintro e w5 ⟨hk5,hq5⟩;rcases hq5 with ⟨-,l2,w4,-,⟨ts,h,-⟩,-⟩|⟨p,rfl,h⟩;cases h;cases h)
  exact⟨rfl,Vo.toR Gj hk5 Dw,rfl⟩
 |ok y=>
  obtain⟨ts,l2⟩:=y;go_enter Tryz.func71,Tryz.ntmps71
  go_wp2_with (go_at_call 69;refine(V3 b E l hd (mw b wUc false 22 w) (Qcv HR.out) (w.heap.size+4) _ (Left (X0 b (w.heap.size+4) (w.heap.size+2) w.heap.size (w.heap.size+1) (w.heap.size+3) false wUc 22) b E (mw b wUc false 22 w) (Except.ok (ts,l2):Except Nat (List Tr×List Tok))) (fun p=>(Except.ok (ts,l2):Except Nat (List Tr×List Tok))=.error p) (fun w1 g1 g2=>(Ah (r:=(Except.ok (ts,l2):Except Nat (List Tr×List Tok))) (far1 g2 (Yp hb)) HS.out HF.out HY.out g1 (P9.keep g2 (Yp hb))).mono (U2 g2.size))).mono ?_;rintro e w5 ⟨hk5,hq5⟩;rcases hq5 with hq5|⟨p,-,h⟩;rotate_left;(cases h);obtain⟨rfl,l3,w4,hr5,⟨ts2,h,wm,am,hsz,I⟩,hk4⟩:=hq5;cases h;obtain⟨v,F,fr,hrow4,hfr,-,hG,hF4,f1,f2,f3⟩:=I.row;have hrow5:w5.heap[w.heap.size+4]? = some (.cells #[v] 24 fr):=hk4.row Dw hrow4;obtain⟨hvx,-⟩:=Ff hrow5 hfr)
  (try simp only[Exit.inBlock,Exit.then]);refine bodyPost_ret (by(simp[results,Tryz.results71,go_sem,hvx];try rfl)) rfl ?_
  exact⟨Vo.toR Gj hk5 Dw,v,rfl,hG.toW (fun k o hk=>(hk4.block k (Array.getElem?_eq_some_iff.1 (hF4 k o hk)).1 (fun e=>by rw[e,f1] at hk;cases hk)).trans (hF4 k o hk)) (by rw[Eo] at hsz;omega),hr5⟩
theorem Qgl {e:Nat}{shut:List UInt8}{one:List Tok→R Tr}:∀ {f:Nat} {acc:List Tr} {l:List Tok} {ts:List Tr} {m:List Tok},Xl e shut one f acc l=some (.ok (ts,m))→ts.length≤acc.length+f:=by
 intro f;induction f with
 |zero=>intro acc l ts m h;rw[Xl] at h;cases h
 |succ f ih=>
  intro acc l ts m h;rw[Xl] at h;cases k1:one l with
  |none=>rw[k1] at h;cases h
  |some y=>
   rw[k1] at h;cases y with
   |error=>cases h
   |ok y=>
    obtain⟨t,k⟩:=y;dsimp only [andThen] at h;by_cases hc:isP Zn k=true
    ·rw[if_pos hc] at h
     have:=ih h;simp at this;omega
    ·rw[if_neg hc] at h;unfold A8 Vl at h;by_cases hd:isP shut (if (Xg k==5&&Zq shut k)=true then k.tail else k)=true
     ·rw[if_pos hd] at h;cases h;simp
     ·rw[if_neg hd] at h;cases h
theorem Xe (l:List Tok):Kt l=(U0 l).place:=by cases l <;> rfl
theorem Qet {e:Nat}{shut:List UInt8}{first:Bool}{one:List Tok→R Tr}{f:Nat}{l:List Tok}{ts:List Tr}{m:List Tok}(h:U7 e shut first one f l=some (.ok (ts,m)))(hf:f≤4294967296):ts.length≤4294967296:=by
 unfold U7 at h;split at h
 ·cases h;simp
 ·have:=Qgl h;simp at this;omega
theorem appS {N:Zv}{i j:Nat}{sp:Sp}(hl:(N.TS i).length≤4294967296)(h:N.TS j=N.TS i++[den N sp]:=by rfl):Qad N [(i,sp,j)]:=fun x hx=>by
 obtain rfl:=List.mem_singleton.1 hx;exact⟨h,hl⟩
theorem U6 {b:Nat}{N:Zv}{x:List UInt8}{first:Bool}{g:FuncId}:∀ p vs,AxN b N p→VRs p [str x,.bool first,.func (.func g) #[.pointer (some ⟨64,0,none⟩)] #[]] vs→vs=[str x,.bool first,.func (.func g) #[rp b] #[]]:=fun p vs hax h=>by
 cases h with
 |cons h1 h=>
 cases h with
 |cons h2 h=>
 cases h with
 |cons h3 h=>
 cases h;cases h1;cases h2;cases h3 with
 |@func _ a b' c d h1 h2=>
 generalize hb:b'.toList=bl at h1;generalize hd:d.toList=dl at h2;cases h2;cases h1 with
 |cons h3 h4=>
 cases h4;have e1:d = #[]:=by rw[←Array.toList_inj,hd]
 have e2:=Ad hax h3;subst e2;have e3:b' = #[rp b]:=by rw[←Array.toList_inj,hb]
 rw[e1,e3]
theorem typ_c' {b f:Nat}{E:Env}{hd:Bool}(hf:f≤4294967296)(ht:∀ hd,Reads b E hd 48 #[rp b] (D7 E.len f)):Reads b E hd 48 #[rp b] (D7 E.len (f+1)):=by
 intro l w r h hr;rw[D7] at hr;have ht0:=ht;have htf:=ht false;have ht:=ht hd;cases k1:isP wSq l with
 |true=>
  rw[k1,if_pos rfl] at hr;unfold Vl at hr;cases k2:isP wQs l.tail with
  |true=>
   rw[k2,if_pos rfl] at hr;dsimp only [andThen,ok,bad] at hr;cases k3:D7 E.len f l.tail.tail with
   |none=>rw[k3] at hr;cases hr
   |some y4=>
    rw[k3] at hr;cases y4 with
    |error pl5=>
     dsimp only [andThen,ok,bad] at hr;cases hr;have D:Told b E (mkN E.len hd w.heap.size [l,l.tail,l.tail.tail] [] [] [(pl5:Int)]) hd w [X5 0 (tk 321),Qx wSq 0 1 (tk 321),Xn wQs 1 2 (tk 321),Xt 48 [] 2 2 (tk 321)] ⟨[],[],[],[322]⟩ []:=
      ⟨h,rfl,rfl,rfl,rfl,Qa (X8 rfl Dd _) (Qa (Qz k1 rfl _) (Qa (Xo rfl Dd k2 rfl _) (Qa (X6 ht (.inr rfl) rfl Qy k3 Dd rfl) Xb))),fun _ hx=>(by cases hx),Qn,Ql,fun _ hx=>(by cases hx),(fun k hk=>(by obtain rfl:=List.mem_singleton.1 hk;exact⟨pl5,rfl⟩))⟩
     exact D.path (.inr rfl) (args:=[]) (args':=[]) (fun _ _ => .nil) (fin:=.pan (tk 322)) Dk
    |ok y4=>
     obtain⟨⟨t6k,t6x,t6n,t6p,t6c⟩,m5⟩:=y4;dsimp only [andThen,ok,bad] at hr;cases hr;have D:Told b E (mkN E.len hd w.heap.size [l,l.tail,l.tail.tail,m5] [.mk t6k t6x t6n t6p t6c] [] []) hd w [X5 0 (tk 321),Qx wSq 0 1 (tk 321),Xn wQs 1 2 (tk 321),Qq 48 [] 2 3 (tk 256) 0 (tk 321)] ⟨[],[],[],[]⟩ []:=
      ⟨h,rfl,rfl,rfl,rfl,Qa (X8 rfl Dd _) (Qa (Qz k1 rfl _) (Qa (Xo rfl Dd k2 rfl _) (Qa (Qs ht (.inr rfl) rfl Qy k3 (.inl rfl) Dd) Xb))),fun _ hx=>(by cases hx),Qn,Ql,fun _ hx=>(by cases hx),Qj⟩
     exact D.path (.inr rfl) (args:=[]) (args':=[]) (fun _ _ => .nil) (fin:=.tree (.nd (.int .i64 11) (.string ⟨#[]⟩) (.int .u64 0) (tk 128) [.ab (tk 256) (tk 257) (tk 258) (tk 259) 1]) 3) Dk
  |false=>
   rw[k2,if_neg Dd] at hr;dsimp only [andThen,ok,bad] at hr;cases hr;have D:Told b E (mkN E.len hd w.heap.size [l,l.tail] [] [] []) hd w [X5 0 (tk 321),Qx wSq 0 1 (tk 321),Fa wQs 1 (tk 321)] ⟨[],[],[],[]⟩ []:=
    ⟨h,rfl,rfl,rfl,rfl,Qa (X8 rfl Dd _) (Qa (Qz k1 rfl _) (Qa (Na rfl Dd k2 _) Xb)),fun _ hx=>(by cases hx),Qn,Ql,fun _ hx=>(by cases hx),Qj⟩
   exact D.path (.inr rfl) (args:=[]) (args':=[]) (fun _ _ => .nil) (fin:=.pan (tk 136)) Dk
 |false=>
  rw[k1,if_neg Dd] at hr;cases k2:isP Dv l with
  |true=>
   rw[k2,if_pos rfl] at hr;cases k3:D7 E.len f l.tail with
   |none=>rw[k3] at hr;cases hr
   |some y4=>
    rw[k3] at hr;cases y4 with
    |error pl5=>
     dsimp only [andThen,ok,bad] at hr;cases hr;have D:Told b E (mkN E.len hd w.heap.size [l,l.tail] [] [] [(pl5:Int)]) hd w [X5 0 (tk 321),Qc wSq 0 (tk 321),Qx Dv 0 1 (tk 321),Xt 48 [] 1 2 (tk 321)] ⟨[],[],[],[322]⟩ []:=
      ⟨h,rfl,rfl,rfl,rfl,Qa (X8 rfl Dd _) (Qa (Qd k1 _) (Qa (Qz k2 rfl _) (Qa (X6 ht (.inr rfl) rfl Qy k3 Dd rfl) Xb))),fun _ hx=>(by cases hx),Qn,Ql,fun _ hx=>(by cases hx),(fun k hk=>(by obtain rfl:=List.mem_singleton.1 hk;exact⟨pl5,rfl⟩))⟩
     exact D.path (.inr rfl) (args:=[]) (args':=[]) (fun _ _ => .nil) (fin:=.pan (tk 322)) Dk
    |ok y4=>
     obtain⟨⟨t6k,t6x,t6n,t6p,t6c⟩,m5⟩:=y4;dsimp only [andThen,ok,bad] at hr;cases hr;have D:Told b E (mkN E.len hd w.heap.size [l,l.tail,m5] [.mk t6k t6x t6n t6p t6c] [] []) hd w [X5 0 (tk 321),Qc wSq 0 (tk 321),Qx Dv 0 1 (tk 321),Qq 48 [] 1 2 (tk 256) 0 (tk 321)] ⟨[],[],[],[]⟩ []:=
      ⟨h,rfl,rfl,rfl,rfl,Qa (X8 rfl Dd _) (Qa (Qd k1 _) (Qa (Qz k2 rfl _) (Qa (Qs ht (.inr rfl) rfl Qy k3 (.inl rfl) Dd) Xb))),fun _ hx=>(by cases hx),Qn,Ql,fun _ hx=>(by cases hx),Qj⟩
     exact D.path (.inr rfl) (args:=[]) (args':=[]) (fun _ _ => .nil) (fin:=.tree (.nd (.int .i64 12) (.string ⟨#[]⟩) (.int .u64 0) (tk 128) [.ab (tk 256) (tk 257) (tk 258) (tk 259) 1]) 2) Dk
  |false=>
   rw[k2,if_neg Dd] at hr;cases k3:isP Yg l with
   |true=>
    rw[k3,if_pos rfl] at hr;unfold Vl at hr;cases k4:isP Zk l.tail with
    |true=>
     rw[k4,if_pos rfl] at hr;dsimp only [andThen,ok,bad] at hr;cases k5:U7 E.len Qw false (D7 E.len f) f l.tail.tail with
     |none=>rw[k5] at hr;cases hr
     |some y6=>
      rw[k5] at hr;cases y6 with
      |error pl7=>
       dsimp only [andThen,ok,bad] at hr;cases hr;have D:Told b E (mkN E.len hd w.heap.size [l,l.tail,l.tail.tail] [] [] [(pl7:Int)]) hd w [X5 0 (tk 321),Qc wSq 0 (tk 321),Qc Dv 0 (tk 321),Qx Yg 0 1 (tk 321),Xn Zk 1 2 (tk 321),Xt 71 [str Qw,.bool false,(.func (.func 48) #[.pointer (some ⟨64,0,none⟩)] #[])] 2 2 (tk 321)] ⟨[],[],[],[322]⟩ []:=
        ⟨h,rfl,rfl,rfl,rfl,Qa (X8 rfl Dd _) (Qa (Qd k1 _) (Qa (Qd k2 _) (Qa (Qz k3 rfl _) (Qa (Xo rfl Dd k4 rfl _) (Qa (Qhg (Qam htf hf) (.inr rfl) rfl U6 k5 Dd rfl) Xb))))),fun _ hx=>(by cases hx),Qn,Ql,fun _ hx=>(by cases hx),(fun k hk=>(by obtain rfl:=List.mem_singleton.1 hk;exact⟨pl7,rfl⟩))⟩
       exact D.path (.inr rfl) (args:=[]) (args':=[]) (fun _ _ => .nil) (fin:=.pan (tk 322)) Dk
      |ok y6=>
       obtain⟨ts8,m7⟩:=y6;dsimp only [andThen,ok,bad] at hr;cases k10:Gn m7 with
       |true=>
        rw[k10,if_pos rfl] at hr;cases k11:D7 E.len f m7 with
        |none=>rw[k11] at hr;cases hr
        |some y12=>
         rw[k11] at hr;cases y12 with
         |error pl13=>
          dsimp only [andThen,ok,bad] at hr;cases hr;have D:Told b E (mkN E.len hd w.heap.size [l,l.tail,l.tail.tail,m7] [] [ts8] [(pl13:Int)]) hd w [X5 0 (tk 321),Qc wSq 0 (tk 321),Qc Dv 0 (tk 321),Qx Yg 0 1 (tk 321),Xn Zk 1 2 (tk 321),Jl 71 [str Qw,.bool false,(.func (.func 48) #[.pointer (some ⟨64,0,none⟩)] #[])] 2 3 0 (tk 321),Ry 3 true (tk 321),Xt 48 [] 3 2 (tk 321)] ⟨[],[],[],[322]⟩ []:=
           ⟨h,rfl,rfl,rfl,rfl,Qa (X8 rfl Dd _) (Qa (Qd k1 _) (Qa (Qd k2 _) (Qa (Qz k3 rfl _) (Qa (Xo rfl Dd k4 rfl _) (Qa (Dt (Qam htf hf) (.inr rfl) rfl U6 k5) (Qa (P5 k10 _) (Qa (X6 ht (.inr rfl) rfl Qy k11 Dd rfl) Xb))))))),fun _ hx=>(by cases hx),Qn,Ql,fun _ hx=>(by cases hx),(fun k hk=>(by obtain rfl:=List.mem_singleton.1 hk;exact⟨pl13,rfl⟩))⟩
          exact D.path (.inr rfl) (args:=[]) (args':=[]) (fun _ _ => .nil) (fin:=.pan (tk 322)) Dk
         |ok y12=>
          obtain⟨⟨t14k,t14x,t14n,t14p,t14c⟩,m13⟩:=y12;dsimp only [andThen,ok,bad] at hr;cases hr;have D:Told b E (mkN E.len hd w.heap.size [l,l.tail,l.tail.tail,m7,m13] [.mk t14k t14x t14n t14p t14c] [ts8,ts8++[.mk t14k t14x t14n t14p t14c]] []) hd w [X5 0 (tk 321),Qc wSq 0 (tk 321),Qc Dv 0 (tk 321),Qx Yg 0 1 (tk 321),Xn Zk 1 2 (tk 321),Jl 71 [str Qw,.bool false,(.func (.func 48) #[.pointer (some ⟨64,0,none⟩)] #[])] 2 3 0 (tk 321),Ry 3 true (tk 321),Qq 48 [] 3 4 (tk 256) 0 (tk 321)] ⟨[],[(0,.ab (tk 256) (tk 257) (tk 258) (tk 259) 1,1)],[],[]⟩ []:=
           ⟨h,rfl,rfl,rfl,rfl,Qa (X8 rfl Dd _) (Qa (Qd k1 _) (Qa (Qd k2 _) (Qa (Qz k3 rfl _) (Qa (Xo rfl Dd k4 rfl _) (Qa (Dt (Qam htf hf) (.inr rfl) rfl U6 k5) (Qa (P5 k10 _) (Qa (Qs ht (.inr rfl) rfl Qy k11 (.inl rfl) Dd) Xb))))))),fun _ hx=>(by cases hx),appS (Qet k5 hf),Ql,fun _ hx=>(by cases hx),Qj⟩
          exact D.path (.inr rfl) (args:=[]) (args':=[]) (fun _ _ => .nil) (fin:=.tree (.ab (.int .i64 13) (.string ⟨#[]⟩) (.int .u64 1) (tk 128) 10) 4) Dk
       |false=>
        rw[k10,if_neg Dd] at hr;cases hr;have D:Told b E (mkN E.len hd w.heap.size [l,l.tail,l.tail.tail,m7] [] [ts8] []) hd w [X5 0 (tk 321),Qc wSq 0 (tk 321),Qc Dv 0 (tk 321),Qx Yg 0 1 (tk 321),Xn Zk 1 2 (tk 321),Jl 71 [str Qw,.bool false,(.func (.func 48) #[.pointer (some ⟨64,0,none⟩)] #[])] 2 3 0 (tk 321),Ry 3 false (tk 321)] ⟨[],[],[],[]⟩ []:=
         ⟨h,rfl,rfl,rfl,rfl,Qa (X8 rfl Dd _) (Qa (Qd k1 _) (Qa (Qd k2 _) (Qa (Qz k3 rfl _) (Qa (Xo rfl Dd k4 rfl _) (Qa (Dt (Qam htf hf) (.inr rfl) rfl U6 k5) (Qa (P5 k10 _) Xb)))))),fun _ hx=>(by cases hx),Qn,Ql,fun _ hx=>(by cases hx),Qj⟩
        exact D.path (.inr rfl) (args:=[]) (args':=[]) (fun _ _ => .nil) (fin:=.tree (.ab (.int .i64 13) (.string ⟨#[]⟩) (.int .u64 0) (tk 128) 2) 3) Dk
    |false=>
     rw[k4,if_neg Dd] at hr;dsimp only [andThen,ok,bad] at hr;cases hr;have D:Told b E (mkN E.len hd w.heap.size [l,l.tail] [] [] []) hd w [X5 0 (tk 321),Qc wSq 0 (tk 321),Qc Dv 0 (tk 321),Qx Yg 0 1 (tk 321),Fa Zk 1 (tk 321)] ⟨[],[],[],[]⟩ []:=
      ⟨h,rfl,rfl,rfl,rfl,Qa (X8 rfl Dd _) (Qa (Qd k1 _) (Qa (Qd k2 _) (Qa (Qz k3 rfl _) (Qa (Na rfl Dd k4 _) Xb)))),fun _ hx=>(by cases hx),Qn,Ql,fun _ hx=>(by cases hx),Qj⟩
     exact D.path (.inr rfl) (args:=[]) (args':=[]) (fun _ _ => .nil) (fin:=.pan (tk 136)) Dk
   |false=>
    rw[k3,if_neg Dd] at hr;unfold Rk at hr;cases k4:Xg l==1 with
    |true=>
     rw[k4,if_pos rfl] at hr;dsimp only [andThen,ok,bad] at hr;simp only[Q5,Xe] at hr;cases hr;have D:Told b E (mkN E.len hd w.heap.size [l,l.tail] [] [] []) hd w [X5 0 (tk 321),Qc wSq 0 (tk 321),Qc Dv 0 (tk 321),Qc Yg 0 (tk 321),Uk 0 1 (tk 321)] ⟨[],[],[],[]⟩ []:=
      ⟨h,rfl,rfl,rfl,rfl,Qa (X8 rfl Dd _) (Qa (Qd k1 _) (Qa (Qd k2 _) (Qa (Qd k3 _) (Qa (Uz Dd k4 rfl _) Xb)))),fun _ hx=>(by cases hx),Qn,Ql,fun _ hx=>(by cases hx),Qj⟩
     exact D.path (.inr rfl) (args:=[]) (args':=[]) (fun _ _ => .nil) (fin:=.tree (.nd (.int .i64 10) (tk 130) (.int .u64 0) (tk 128) []) 1) Dk
    |false=>
     rw[k4,if_neg Dd] at hr;dsimp only [andThen,ok,bad] at hr;cases hr;have D:Told b E (mkN E.len hd w.heap.size [l] [] [] []) hd w [X5 0 (tk 321),Qc wSq 0 (tk 321),Qc Dv 0 (tk 321),Qc Yg 0 (tk 321),Qca 0 (tk 321)] ⟨[],[],[],[]⟩ []:=
      ⟨h,rfl,rfl,rfl,rfl,Qa (X8 rfl Dd _) (Qa (Qd k1 _) (Qa (Qd k2 _) (Qa (Qd k3 _) (Qa (Qdg rfl Dd k4 _) Xb)))),fun _ hx=>(by cases hx),Qn,Ql,fun _ hx=>(by cases hx),Qj⟩
     exact D.path (.inr rfl) (args:=[]) (args':=[]) (fun _ _ => .nil) (fin:=.pan (tk 128)) Dk
end Prs
end Go.Proofs.YtcbkeecabcbogaaGreatDoor
