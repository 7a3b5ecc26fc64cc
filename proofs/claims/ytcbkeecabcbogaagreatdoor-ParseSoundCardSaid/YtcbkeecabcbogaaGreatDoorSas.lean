/- Contract of many, once for each function that reads one. (Pr -/
import Derived.Test.YtcbkeecabcbogaaGreatDoorSar
set_option maxRecDepth 20000
set_option linter.unusedSimpArgs false
set_option linter.unusedVariables false
namespace Go.Proofs.YtcbkeecabcbogaaGreatDoor
open Go.RowKit
namespace Prs
open Ev
theorem Rt.toW {B B':Nat}{F:Nat→Option Obj}{v:Value}{ts:List Tr}{W:World}(hG:Rt (B ≤ ·) ⟨0,0,0,0,v,F⟩ ts)(hF:∀ k o,F k=some o→W.heap[k]? = some o)(hB:B'≤B):ListW B' W v ts:=by
 obtain⟨a,c,rfl,h2,h3,h4,h5⟩:=hG;refine⟨a,c,rfl,h2,h3,?_⟩;rcases h5 with h|⟨g,o,bs,h6,h7,h8,h9⟩
 ·exact .inl h
 ·refine .inr ⟨g,o,bs,h6,Nat.le_trans hB (h4 g (by rw[h7];simp)),hF _ _ h7,h8,Xp.weak (fun k hk=>⟨Nat.le_trans hB (h4 k hk.1),hk.2⟩) (h9 W hF)⟩
abbrev mw (b:Nat)(shut:List UInt8)(first:Bool)(g:FuncId)(w:World):World:=((((w.alloc (.cells #[rp b] 51)).alloc (.cells #[str shut] 9)).alloc (.cells #[.bool first] 4)).alloc (.cells #[.func (.func g) #[rp b] #[]] 50)).alloc (.cells #[.slice none 0 0] 24)
theorem Es {b:Nat}{shut:List UInt8}{first:Bool}{g:FuncId}{w:World}:(mw b shut first g w).heap.size=w.heap.size+5:=by simp[mw]
theorem Yn {b:Nat}{shut:List UInt8}{first:Bool}{g:FuncId}{w:World}(hb:b<w.heap.size):Qjr b (w.heap.size+4) (w.heap.size+2) w.heap.size (w.heap.size+1) (w.heap.size+3) (mw b shut first g w) where
 bq:=by omega
 bw:=by rw[Es];omega
 d0:=by omega
 d1:=by omega
 d2:=by omega
 d3:=by omega
 e:=by omega
theorem P9 {b:Nat}{shut:List UInt8}{first:Bool}{g:FuncId}{w:World}:Qp4 b (w.heap.size+4) (w.heap.size+2) w.heap.size (w.heap.size+1) (w.heap.size+3) first shut g (mw b shut first g w):=by
 have sz:∀ (w:World) (o:Obj),(w.alloc o).heap.size=w.heap.size+1:=World.size_alloc;have e1:=Qz w (.cells #[rp b] 51);have e2:=Qz (w.alloc (.cells #[rp b] 51)) (.cells #[str shut] 9);rw[sz] at e2;have e3:=Qz ((w.alloc (.cells #[rp b] 51)).alloc (.cells #[str shut] 9)) (.cells #[.bool first] 4);rw[sz,sz] at e3;have e4:=Qz (((w.alloc (.cells #[rp b] 51)).alloc (.cells #[str shut] 9)).alloc (.cells #[.bool first] 4)) (.cells #[.func (.func g) #[rp b] #[]] 50);rw[sz,sz,sz] at e4;have e5:=Qz ((((w.alloc (.cells #[rp b] 51)).alloc (.cells #[str shut] 9)).alloc (.cells #[.bool first] 4)).alloc (.cells #[.func (.func g) #[rp b] #[]] 50)) (.cells #[.slice none 0 0] 24);rw[sz,sz,sz,sz] at e5;exact⟨e5,Xw (Xw e3 _) _,Xw (Xw (Xw (Xw e1 _) _) _) _,Xw (Xw (Xw e2 _) _) _,Xw e4 _⟩
theorem Qpz {b q q0 q1 q2 q3:Nat}{w w':World}(h:Qo b w w')(f:Qjr b q q0 q1 q2 q3 w):Qjr b q q0 q1 q2 q3 w':=⟨f.bq,Nat.lt_of_lt_of_le f.bw h.size,f.d0,f.d1,f.d2,f.d3,f.e⟩
theorem Wy {W:World}{q:Nat}{v:Value}{t:TypeId}{fr:Nat×Nat}(h:W.heap[q]? = some (.cells #[v] t fr))(hfr:unfr fr 1):W.cell? ⟨q,0,none⟩=some v∧True:=by
 have:=hfr 0 Dd;unfold World.cell?
 refine⟨?_,trivial⟩;dsimp only;rw[h];rfl
theorem Qce {b:Nat}{shut:List UInt8}{first:Bool}{g:FuncId}{w:World}{E:Env}{l:List Tok}{hd:Bool}(h:RdB b E w l hd):RdB b E (mw b shut first g w) l hd:=((((h.new _).new _).new _).new _).new _
theorem Hy {b:Nat}{shut:List UInt8}{first:Bool}{g:FuncId}{w:World}:Qo b w (mw b shut first g w):=((((Qo.new _ _).trans (Qo.new _ _)).trans (Qo.new _ _)).trans (Qo.new _ _)).trans (Qo.new _ _)
theorem F5 {b f:Nat}{E:Env}{hd:Bool}{x:List Tok→R Tr}(hs:Reads b E false 77 #[rp b] x)(hf:f≤4294967296):Du b E hd 71 #[rp b,str wQs,.bool true,.func (.func 77) #[rp b] #[]] (Yi E.len wQs true x f):=by
 intro l w r h hr;have hb:=h.lt;have HR:=Dh h;have HS:=Dh hs;have HY:=Dh hr;have HF:=Dh hf;clear h hs hr hf;cases r with
 |error pl=>
  go_enter Tryz.func71,Tryz.ntmps71
  go_wp2_with (go_at_call 69;refine(Vt b E l hd (mw b wQs true 77 w) (Qce HR.out) (w.heap.size+4) _ (Left (Xv b (w.heap.size+4) (w.heap.size+2) w.heap.size (w.heap.size+1) (w.heap.size+3) true wQs 77) b E (mw b wQs true 77 w) (Except.error pl:Except Nat (List Tr×List Tok))) (fun p=>(Except.error pl:Except Nat (List Tr×List Tok))=.error p) (fun w1 g1 g2=>(Ef (r:=(Except.error pl:Except Nat (List Tr×List Tok))) (Qpz g2 (Yn hb)) HS.out HF.out HY.out g1 (P9.keep g2 (Yn hb))).mono (Uh g2.size))).mono ?_;rintro e w5 ⟨hk5,hq5⟩;rcases hq5 with ⟨-,l2,w4,-,⟨ts,h,-⟩,-⟩|⟨p,rfl,h⟩;cases h;cases h)
  exact⟨rfl,Zx.toR Hy hk5 Dw,rfl⟩
 |ok y=>
  obtain⟨ts,l2⟩:=y;go_enter Tryz.func71,Tryz.ntmps71
  go_wp2_with (go_at_call 69;refine(Vt b E l hd (mw b wQs true 77 w) (Qce HR.out) (w.heap.size+4) _ (Left (Xv b (w.heap.size+4) (w.heap.size+2) w.heap.size (w.heap.size+1) (w.heap.size+3) true wQs 77) b E (mw b wQs true 77 w) (Except.ok (ts,l2):Except Nat (List Tr×List Tok))) (fun p=>(Except.ok (ts,l2):Except Nat (List Tr×List Tok))=.error p) (fun w1 g1 g2=>(Ef (r:=(Except.ok (ts,l2):Except Nat (List Tr×List Tok))) (Qpz g2 (Yn hb)) HS.out HF.out HY.out g1 (P9.keep g2 (Yn hb))).mono (Uh g2.size))).mono ?_;rintro e w5 ⟨hk5,hq5⟩;rcases hq5 with hq5|⟨p,-,h⟩;rotate_left;(cases h);obtain⟨rfl,l3,w4,hr5,⟨ts2,h,wm,am,hsz,I⟩,hk4⟩:=hq5;cases h;obtain⟨v,F,fr,hrow4,hfr,-,hG,hF4,f1,f2,f3⟩:=I.row;have hrow5:w5.heap[w.heap.size+4]? = some (.cells #[v] 24 fr):=hk4.row Dw hrow4;obtain⟨hvx,-⟩:=Wy hrow5 hfr)
  (try simp only[Exit.inBlock,Exit.then]);refine bodyPost_ret (by(simp[results,Tryz.results71,go_sem,hvx];try rfl)) rfl ?_
  exact⟨Zx.toR Hy hk5 Dw,v,rfl,hG.toW (fun k o hk=>(hk4.block k (Array.getElem?_eq_some_iff.1 (hF4 k o hk)).1 (fun e=>by rw[e,f1] at hk;cases hk)).trans (hF4 k o hk)) (by rw[Es] at hsz;omega),hr5⟩
theorem Bv {b f:Nat}{E:Env}{hd:Bool}{x:List Tok→R Tr}(hs:Reads b E false 76 #[rp b] x)(hf:f≤4294967296):Du b E hd 71 #[rp b,str Q8,.bool false,.func (.func 76) #[rp b] #[]] (Yi E.len Q8 false x f):=by
 intro l w r h hr;have hb:=h.lt;have HR:=Dh h;have HS:=Dh hs;have HY:=Dh hr;have HF:=Dh hf;clear h hs hr hf;cases r with
 |error pl=>
  go_enter Tryz.func71,Tryz.ntmps71
  go_wp2_with (go_at_call 69;refine(Vt b E l hd (mw b Q8 false 76 w) (Qce HR.out) (w.heap.size+4) _ (Left (Xv b (w.heap.size+4) (w.heap.size+2) w.heap.size (w.heap.size+1) (w.heap.size+3) false Q8 76) b E (mw b Q8 false 76 w) (Except.error pl:Except Nat (List Tr×List Tok))) (fun p=>(Except.error pl:Except Nat (List Tr×List Tok))=.error p) (fun w1 g1 g2=>(Qab (r:=(Except.error pl:Except Nat (List Tr×List Tok))) (Qpz g2 (Yn hb)) HS.out HF.out HY.out g1 (P9.keep g2 (Yn hb))).mono (Uh g2.size))).mono ?_;rintro e w5 ⟨hk5,hq5⟩;rcases hq5 with ⟨-,l2,w4,-,⟨ts,h,-⟩,-⟩|⟨p,rfl,h⟩;cases h;cases h)
  exact⟨rfl,Zx.toR Hy hk5 Dw,rfl⟩
 |ok y=>
  obtain⟨ts,l2⟩:=y;go_enter Tryz.func71,Tryz.ntmps71
  go_wp2_with (go_at_call 69;refine(Vt b E l hd (mw b Q8 false 76 w) (Qce HR.out) (w.heap.size+4) _ (Left (Xv b (w.heap.size+4) (w.heap.size+2) w.heap.size (w.heap.size+1) (w.heap.size+3) false Q8 76) b E (mw b Q8 false 76 w) (Except.ok (ts,l2):Except Nat (List Tr×List Tok))) (fun p=>(Except.ok (ts,l2):Except Nat (List Tr×List Tok))=.error p) (fun w1 g1 g2=>(Qab (r:=(Except.ok (ts,l2):Except Nat (List Tr×List Tok))) (Qpz g2 (Yn hb)) HS.out HF.out HY.out g1 (P9.keep g2 (Yn hb))).mono (Uh g2.size))).mono ?_;rintro e w5 ⟨hk5,hq5⟩;rcases hq5 with hq5|⟨p,-,h⟩;rotate_left;(cases h);obtain⟨rfl,l3,w4,hr5,⟨ts2,h,wm,am,hsz,I⟩,hk4⟩:=hq5;cases h;obtain⟨v,F,fr,hrow4,hfr,-,hG,hF4,f1,f2,f3⟩:=I.row;have hrow5:w5.heap[w.heap.size+4]? = some (.cells #[v] 24 fr):=hk4.row Dw hrow4;obtain⟨hvx,-⟩:=Wy hrow5 hfr)
  (try simp only[Exit.inBlock,Exit.then]);refine bodyPost_ret (by(simp[results,Tryz.results71,go_sem,hvx];try rfl)) rfl ?_
  exact⟨Zx.toR Hy hk5 Dw,v,rfl,hG.toW (fun k o hk=>(hk4.block k (Array.getElem?_eq_some_iff.1 (hF4 k o hk)).1 (fun e=>by rw[e,f1] at hk;cases hk)).trans (hF4 k o hk)) (by rw[Es] at hsz;omega),hr5⟩
theorem Qcv {b f:Nat}{E:Env}{hd:Bool}{x:List Tok→R Tr}(hs:Reads b E false 48 #[rp b] x)(hf:f≤4294967296):Du b E hd 71 #[rp b,str Q8,.bool false,.func (.func 48) #[rp b] #[]] (Yi E.len Q8 false x f):=by
 intro l w r h hr;have hb:=h.lt;have HR:=Dh h;have HS:=Dh hs;have HY:=Dh hr;have HF:=Dh hf;clear h hs hr hf;cases r with
 |error pl=>
  go_enter Tryz.func71,Tryz.ntmps71
  go_wp2_with (go_at_call 69;refine(Vt b E l hd (mw b Q8 false 48 w) (Qce HR.out) (w.heap.size+4) _ (Left (Xv b (w.heap.size+4) (w.heap.size+2) w.heap.size (w.heap.size+1) (w.heap.size+3) false Q8 48) b E (mw b Q8 false 48 w) (Except.error pl:Except Nat (List Tr×List Tok))) (fun p=>(Except.error pl:Except Nat (List Tr×List Tok))=.error p) (fun w1 g1 g2=>(Qdz (r:=(Except.error pl:Except Nat (List Tr×List Tok))) (Qpz g2 (Yn hb)) HS.out HF.out HY.out g1 (P9.keep g2 (Yn hb))).mono (Uh g2.size))).mono ?_;rintro e w5 ⟨hk5,hq5⟩;rcases hq5 with ⟨-,l2,w4,-,⟨ts,h,-⟩,-⟩|⟨p,rfl,h⟩;cases h;cases h)
  exact⟨rfl,Zx.toR Hy hk5 Dw,rfl⟩
 |ok y=>
  obtain⟨ts,l2⟩:=y;go_enter Tryz.func71,Tryz.ntmps71
  go_wp2_with (go_at_call 69;refine(Vt b E l hd (mw b Q8 false 48 w) (Qce HR.out) (w.heap.size+4) _ (Left (Xv b (w.heap.size+4) (w.heap.size+2) w.heap.size (w.heap.size+1) (w.heap.size+3) false Q8 48) b E (mw b Q8 false 48 w) (Except.ok (ts,l2):Except Nat (List Tr×List Tok))) (fun p=>(Except.ok (ts,l2):Except Nat (List Tr×List Tok))=.error p) (fun w1 g1 g2=>(Qdz (r:=(Except.ok (ts,l2):Except Nat (List Tr×List Tok))) (Qpz g2 (Yn hb)) HS.out HF.out HY.out g1 (P9.keep g2 (Yn hb))).mono (Uh g2.size))).mono ?_;rintro e w5 ⟨hk5,hq5⟩;rcases hq5 with hq5|⟨p,-,h⟩;rotate_left;(cases h);obtain⟨rfl,l3,w4,hr5,⟨ts2,h,wm,am,hsz,I⟩,hk4⟩:=hq5;cases h;obtain⟨v,F,fr,hrow4,hfr,-,hG,hF4,f1,f2,f3⟩:=I.row;have hrow5:w5.heap[w.heap.size+4]? = some (.cells #[v] 24 fr):=hk4.row Dw hrow4;obtain⟨hvx,-⟩:=Wy hrow5 hfr)
  (try simp only[Exit.inBlock,Exit.then]);refine bodyPost_ret (by(simp[results,Tryz.results71,go_sem,hvx];try rfl)) rfl ?_
  exact⟨Zx.toR Hy hk5 Dw,v,rfl,hG.toW (fun k o hk=>(hk4.block k (Array.getElem?_eq_some_iff.1 (hF4 k o hk)).1 (fun e=>by rw[e,f1] at hk;cases hk)).trans (hF4 k o hk)) (by rw[Es] at hsz;omega),hr5⟩
theorem Qg6 {b f:Nat}{E:Env}{hd:Bool}{x:List Tok→R Tr}(hs:Reads b E false 22 #[rp b] x)(hf:f≤4294967296):Du b E hd 71 #[rp b,str Q8,.bool false,.func (.func 22) #[rp b] #[]] (Yi E.len Q8 false x f):=by
 intro l w r h hr;have hb:=h.lt;have HR:=Dh h;have HS:=Dh hs;have HY:=Dh hr;have HF:=Dh hf;clear h hs hr hf;cases r with
 |error pl=>
  go_enter Tryz.func71,Tryz.ntmps71
  go_wp2_with (go_at_call 69;refine(Vt b E l hd (mw b Q8 false 22 w) (Qce HR.out) (w.heap.size+4) _ (Left (Xv b (w.heap.size+4) (w.heap.size+2) w.heap.size (w.heap.size+1) (w.heap.size+3) false Q8 22) b E (mw b Q8 false 22 w) (Except.error pl:Except Nat (List Tr×List Tok))) (fun p=>(Except.error pl:Except Nat (List Tr×List Tok))=.error p) (fun w1 g1 g2=>(Qd1 (r:=(Except.error pl:Except Nat (List Tr×List Tok))) (Qpz g2 (Yn hb)) HS.out HF.out HY.out g1 (P9.keep g2 (Yn hb))).mono (Uh g2.size))).mono ?_;rintro e w5 ⟨hk5,hq5⟩;rcases hq5 with ⟨-,l2,w4,-,⟨ts,h,-⟩,-⟩|⟨p,rfl,h⟩;cases h;cases h)
  exact⟨rfl,Zx.toR Hy hk5 Dw,rfl⟩
 |ok y=>
  obtain⟨ts,l2⟩:=y;go_enter Tryz.func71,Tryz.ntmps71
  go_wp2_with (go_at_call 69;refine(Vt b E l hd (mw b Q8 false 22 w) (Qce HR.out) (w.heap.size+4) _ (Left (Xv b (w.heap.size+4) (w.heap.size+2) w.heap.size (w.heap.size+1) (w.heap.size+3) false Q8 22) b E (mw b Q8 false 22 w) (Except.ok (ts,l2):Except Nat (List Tr×List Tok))) (fun p=>(Except.ok (ts,l2):Except Nat (List Tr×List Tok))=.error p) (fun w1 g1 g2=>(Qd1 (r:=(Except.ok (ts,l2):Except Nat (List Tr×List Tok))) (Qpz g2 (Yn hb)) HS.out HF.out HY.out g1 (P9.keep g2 (Yn hb))).mono (Uh g2.size))).mono ?_;rintro e w5 ⟨hk5,hq5⟩;rcases hq5 with hq5|⟨p,-,h⟩;rotate_left;(cases h);obtain⟨rfl,l3,w4,hr5,⟨ts2,h,wm,am,hsz,I⟩,hk4⟩:=hq5;cases h;obtain⟨v,F,fr,hrow4,hfr,-,hG,hF4,f1,f2,f3⟩:=I.row;have hrow5:w5.heap[w.heap.size+4]? = some (.cells #[v] 24 fr):=hk4.row Dw hrow4;obtain⟨hvx,-⟩:=Wy hrow5 hfr)
  (try simp only[Exit.inBlock,Exit.then]);refine bodyPost_ret (by(simp[results,Tryz.results71,go_sem,hvx];try rfl)) rfl ?_
  exact⟨Zx.toR Hy hk5 Dw,v,rfl,hG.toW (fun k o hk=>(hk4.block k (Array.getElem?_eq_some_iff.1 (hF4 k o hk)).1 (fun e=>by rw[e,f1] at hk;cases hk)).trans (hF4 k o hk)) (by rw[Es] at hsz;omega),hr5⟩
theorem Qg5 {b f:Nat}{E:Env}{hd:Bool}{x:List Tok→R Tr}(hs:Reads b E false 97 #[rp b] x)(hf:f≤4294967296):Du b E hd 71 #[rp b,str wQs,.bool true,.func (.func 97) #[rp b] #[]] (Yi E.len wQs true x f):=by
 intro l w r h hr;have hb:=h.lt;have HR:=Dh h;have HS:=Dh hs;have HY:=Dh hr;have HF:=Dh hf;clear h hs hr hf;cases r with
 |error pl=>
  go_enter Tryz.func71,Tryz.ntmps71
  go_wp2_with (go_at_call 69;refine(Vt b E l hd (mw b wQs true 97 w) (Qce HR.out) (w.heap.size+4) _ (Left (Xv b (w.heap.size+4) (w.heap.size+2) w.heap.size (w.heap.size+1) (w.heap.size+3) true wQs 97) b E (mw b wQs true 97 w) (Except.error pl:Except Nat (List Tr×List Tok))) (fun p=>(Except.error pl:Except Nat (List Tr×List Tok))=.error p) (fun w1 g1 g2=>(Qd0 (r:=(Except.error pl:Except Nat (List Tr×List Tok))) (Qpz g2 (Yn hb)) HS.out HF.out HY.out g1 (P9.keep g2 (Yn hb))).mono (Uh g2.size))).mono ?_;rintro e w5 ⟨hk5,hq5⟩;rcases hq5 with ⟨-,l2,w4,-,⟨ts,h,-⟩,-⟩|⟨p,rfl,h⟩;cases h;cases h)
  exact⟨rfl,Zx.toR Hy hk5 Dw,rfl⟩
 |ok y=>
  obtain⟨ts,l2⟩:=y;go_enter Tryz.func71,Tryz.ntmps71
  go_wp2_with (go_at_call 69;refine(Vt b E l hd (mw b wQs true 97 w) (Qce HR.out) (w.heap.size+4) _ (Left (Xv b (w.heap.size+4) (w.heap.size+2) w.heap.size (w.heap.size+1) (w.heap.size+3) true wQs 97) b E (mw b wQs true 97 w) (Except.ok (ts,l2):Except Nat (List Tr×List Tok))) (fun p=>(Except.ok (ts,l2):Except Nat (List Tr×List Tok))=.error p) (fun w1 g1 g2=>(Qd0 (r:=(Except.ok (ts,l2):Except Nat (List Tr×List Tok))) (Qpz g2 (Yn hb)) HS.out HF.out HY.out g1 (P9.keep g2 (Yn hb))).mono (Uh g2.size))).mono ?_;rintro e w5 ⟨hk5,hq5⟩;rcases hq5 with hq5|⟨p,-,h⟩;rotate_left;(cases h);obtain⟨rfl,l3,w4,hr5,⟨ts2,h,wm,am,hsz,I⟩,hk4⟩:=hq5;cases h;obtain⟨v,F,fr,hrow4,hfr,-,hG,hF4,f1,f2,f3⟩:=I.row;have hrow5:w5.heap[w.heap.size+4]? = some (.cells #[v] 24 fr):=hk4.row Dw hrow4;obtain⟨hvx,-⟩:=Wy hrow5 hfr)
  (try simp only[Exit.inBlock,Exit.then]);refine bodyPost_ret (by(simp[results,Tryz.results71,go_sem,hvx];try rfl)) rfl ?_
  exact⟨Zx.toR Hy hk5 Dw,v,rfl,hG.toW (fun k o hk=>(hk4.block k (Array.getElem?_eq_some_iff.1 (hF4 k o hk)).1 (fun e=>by rw[e,f1] at hk;cases hk)).trans (hF4 k o hk)) (by rw[Es] at hsz;omega),hr5⟩
theorem Qaa {b f:Nat}{E:Env}{hd:Bool}{x:List Tok→R Tr}(hs:Reads b E false 22 #[rp b] x)(hf:f≤4294967296):Du b E hd 71 #[rp b,str wUc,.bool false,.func (.func 22) #[rp b] #[]] (Yi E.len wUc false x f):=by
 intro l w r h hr;have hb:=h.lt;have HR:=Dh h;have HS:=Dh hs;have HY:=Dh hr;have HF:=Dh hf;clear h hs hr hf;cases r with
 |error pl=>
  go_enter Tryz.func71,Tryz.ntmps71
  go_wp2_with (go_at_call 69;refine(Vt b E l hd (mw b wUc false 22 w) (Qce HR.out) (w.heap.size+4) _ (Left (Xv b (w.heap.size+4) (w.heap.size+2) w.heap.size (w.heap.size+1) (w.heap.size+3) false wUc 22) b E (mw b wUc false 22 w) (Except.error pl:Except Nat (List Tr×List Tok))) (fun p=>(Except.error pl:Except Nat (List Tr×List Tok))=.error p) (fun w1 g1 g2=>(Qbz (r:=(Except.error pl:Except Nat (List Tr×List Tok))) (Qpz g2 (Yn hb)) HS.out HF.out HY.out g1 (P9.keep g2 (Yn hb))).mono (Uh g2.size))).mono ?_;rintro e w5 ⟨hk5,hq5⟩;rcases hq5 with ⟨-,l2,w4,-,⟨ts,h,-⟩,-⟩|⟨p,rfl,h⟩;cases h;cases h)
  exact⟨rfl,Zx.toR Hy hk5 Dw,rfl⟩
 |ok y=>
  obtain⟨ts,l2⟩:=y;go_enter Tryz.func71,Tryz.ntmps71
  go_wp2_with (go_at_call 69;refine(Vt b E l hd (mw b wUc false 22 w) (Qce HR.out) (w.heap.size+4) _ (Left (Xv b (w.heap.size+4) (w.heap.size+2) w.heap.size (w.heap.size+1) (w.heap.size+3) false wUc 22) b E (mw b wUc false 22 w) (Except.ok (ts,l2):Except Nat (List Tr×List Tok))) (fun p=>(Except.ok (ts,l2):Except Nat (List Tr×List Tok))=.error p) (fun w1 g1 g2=>(Qbz (r:=(Except.ok (ts,l2):Except Nat (List Tr×List Tok))) (Qpz g2 (Yn hb)) HS.out HF.out HY.out g1 (P9.keep g2 (Yn hb))).mono (Uh g2.size))).mono ?_;rintro e w5 ⟨hk5,hq5⟩;rcases hq5 with hq5|⟨p,-,h⟩;rotate_left;(cases h);obtain⟨rfl,l3,w4,hr5,⟨ts2,h,wm,am,hsz,I⟩,hk4⟩:=hq5;cases h;obtain⟨v,F,fr,hrow4,hfr,-,hG,hF4,f1,f2,f3⟩:=I.row;have hrow5:w5.heap[w.heap.size+4]? = some (.cells #[v] 24 fr):=hk4.row Dw hrow4;obtain⟨hvx,-⟩:=Wy hrow5 hfr)
  (try simp only[Exit.inBlock,Exit.then]);refine bodyPost_ret (by(simp[results,Tryz.results71,go_sem,hvx];try rfl)) rfl ?_
  exact⟨Zx.toR Hy hk5 Dw,v,rfl,hG.toW (fun k o hk=>(hk4.block k (Array.getElem?_eq_some_iff.1 (hF4 k o hk)).1 (fun e=>by rw[e,f1] at hk;cases hk)).trans (hF4 k o hk)) (by rw[Es] at hsz;omega),hr5⟩
theorem Qiw {e:Nat}{shut:List UInt8}{one:List Tok→R Tr}:∀ {f:Nat} {acc:List Tr} {l:List Tok} {ts:List Tr} {m:List Tok},Xx e shut one f acc l=some (.ok (ts,m))→ts.length≤acc.length+f:=by
 intro f;induction f with
 |zero=>intro acc l ts m h;rw[Xx] at h;cases h
 |succ f ih=>
  intro acc l ts m h;rw[Xx] at h;cases k1:one l with
  |none=>rw[k1] at h;cases h
  |some y=>
   rw[k1] at h;cases y with
   |error=>cases h
   |ok y=>
    obtain⟨t,k⟩:=y;dsimp only [andThen] at h;by_cases hc:isP V3 k=true
    ·rw[if_pos hc] at h
     have:=ih h;simp at this;omega
    ·rw[if_neg hc] at h;unfold Qgp Ub at h;by_cases hd:isP shut (if (Xn k==5&&Je shut k)=true then k.tail else k)=true
     ·rw[if_pos hd] at h;cases h;simp
     ·rw[if_neg hd] at h;cases h
theorem Xc (l:List Tok):Jy l=(Tz l).place:=by cases l <;> rfl
theorem Qg4 {e:Nat}{shut:List UInt8}{first:Bool}{one:List Tok→R Tr}{f:Nat}{l:List Tok}{ts:List Tr}{m:List Tok}(h:Yi e shut first one f l=some (.ok (ts,m)))(hf:f≤4294967296):ts.length≤4294967296:=by
 unfold Yi at h;split at h
 ·cases h;simp
 ·have:=Qiw h;simp at this;omega
theorem appS {N:Va}{i j:Nat}{sp:Sp}(hl:(N.TS i).length≤4294967296)(h:N.TS j=N.TS i++[den N sp]:=by rfl):Qcj N [(i,sp,j)]:=fun x hx=>by
 obtain rfl:=List.mem_singleton.1 hx;exact⟨h,hl⟩
theorem Ud {b:Nat}{N:Va}{x:List UInt8}{first:Bool}{g:FuncId}:∀ p vs,AxN b N p→VRs p [str x,.bool first,.func (.func g) #[.pointer (some ⟨64,0,none⟩)] #[]] vs→vs=[str x,.bool first,.func (.func g) #[rp b] #[]]:=fun p vs hax h=>by
 cases h with
 |cons h1 h=>
 cases h with
 |cons h2 h=>
 cases h with
 |cons h3 h=>
 cases h;cases h1;cases h2;cases h3 with
 |@func _ a b' c d h1 h2=>
 generalize hb:b'.toList=bl at h1;generalize hd:d.toList=dl at h2;cases h2;cases h1 with
 |cons h3 h4=>
 cases h4;have e1:d = #[]:=by rw[←Array.toList_inj,hd]
 have e2:=Qbr hax h3;subst e2;have e3:b' = #[rp b]:=by rw[←Array.toList_inj,hb]
 rw[e1,e3]
theorem typ_c' {b f:Nat}{E:Env}{hd:Bool}(hf:f≤4294967296)(ht:∀ hd,Reads b E hd 48 #[rp b] (Bc E.len f)):Reads b E hd 48 #[rp b] (Bc E.len (f+1)):=by
 intro l w r h hr;rw[Bc] at hr;have ht0:=ht;have htf:=ht false;have ht:=ht hd;cases k1:isP wSq l with
 |true=>
  rw[k1,if_pos rfl] at hr;unfold Ub at hr;cases k2:isP wQs l.tail with
  |true=>
   rw[k2,if_pos rfl] at hr;dsimp only [andThen,ok,bad] at hr;cases k3:Bc E.len f l.tail.tail with
   |none=>rw[k3] at hr;cases hr
   |some y4=>
    rw[k3] at hr;cases y4 with
    |error pl5=>
     dsimp only [andThen,ok,bad] at hr;cases hr;have D:Told b E (mkN E.len hd w.heap.size [l,l.tail,l.tail.tail] [] [] [(pl5:Int)]) hd w [Zb 0 (tk 321),Qx wSq 0 1 (tk 321),Xo wQs 1 2 (tk 321),Xq 48 [] 2 2 (tk 321)] ⟨[],[],[],[322]⟩ []:=
      ⟨h,rfl,rfl,rfl,rfl,Qa (Zc rfl Dd _) (Qa (Qy k1 rfl _) (Qa (Xr rfl Dd k2 rfl _) (Qa (Zf ht (.inr rfl) rfl Qv k3 Dd rfl) Q7))),fun _ hx=>(by cases hx),Ql,Qk,fun _ hx=>(by cases hx),(fun k hk=>(by obtain rfl:=List.mem_singleton.1 hk;exact⟨pl5,rfl⟩))⟩
     exact D.path (.inr rfl) (args:=[]) (args':=[]) (fun _ _ => .nil) (fin:=.pan (tk 322)) Dk
    |ok y4=>
     obtain⟨⟨t6k,t6x,t6n,t6p,t6c⟩,m5⟩:=y4;dsimp only [andThen,ok,bad] at hr;cases hr;have D:Told b E (mkN E.len hd w.heap.size [l,l.tail,l.tail.tail,m5] [.mk t6k t6x t6n t6p t6c] [] []) hd w [Zb 0 (tk 321),Qx wSq 0 1 (tk 321),Xo wQs 1 2 (tk 321),Qm 48 [] 2 3 (tk 256) 0 (tk 321)] ⟨[],[],[],[]⟩ []:=
      ⟨h,rfl,rfl,rfl,rfl,Qa (Zc rfl Dd _) (Qa (Qy k1 rfl _) (Qa (Xr rfl Dd k2 rfl _) (Qa (Qs ht (.inr rfl) rfl Qv k3 (.inl rfl) Dd) Q7))),fun _ hx=>(by cases hx),Ql,Qk,fun _ hx=>(by cases hx),Qj⟩
     exact D.path (.inr rfl) (args:=[]) (args':=[]) (fun _ _ => .nil) (fin:=.tree (.nd (.int .i64 11) (.string ⟨#[]⟩) (.int .u64 0) (tk 128) [.ab (tk 256) (tk 257) (tk 258) (tk 259) 1]) 3) Dk
  |false=>
   rw[k2,if_neg Dd] at hr;dsimp only [andThen,ok,bad] at hr;cases hr;have D:Told b E (mkN E.len hd w.heap.size [l,l.tail] [] [] []) hd w [Zb 0 (tk 321),Qx wSq 0 1 (tk 321),Lj wQs 1 (tk 321)] ⟨[],[],[],[]⟩ []:=
    ⟨h,rfl,rfl,rfl,rfl,Qa (Zc rfl Dd _) (Qa (Qy k1 rfl _) (Qa (Eg rfl Dd k2 _) Q7)),fun _ hx=>(by cases hx),Ql,Qk,fun _ hx=>(by cases hx),Qj⟩
   exact D.path (.inr rfl) (args:=[]) (args':=[]) (fun _ _ => .nil) (fin:=.pan (tk 136)) Dk
 |false=>
  rw[k1,if_neg Dd] at hr;cases k2:isP Ff l with
  |true=>
   rw[k2,if_pos rfl] at hr;cases k3:Bc E.len f l.tail with
   |none=>rw[k3] at hr;cases hr
   |some y4=>
    rw[k3] at hr;cases y4 with
    |error pl5=>
     dsimp only [andThen,ok,bad] at hr;cases hr;have D:Told b E (mkN E.len hd w.heap.size [l,l.tail] [] [] [(pl5:Int)]) hd w [Zb 0 (tk 321),Qc wSq 0 (tk 321),Qx Ff 0 1 (tk 321),Xq 48 [] 1 2 (tk 321)] ⟨[],[],[],[322]⟩ []:=
      ⟨h,rfl,rfl,rfl,rfl,Qa (Zc rfl Dd _) (Qa (Qd k1 _) (Qa (Qy k2 rfl _) (Qa (Zf ht (.inr rfl) rfl Qv k3 Dd rfl) Q7))),fun _ hx=>(by cases hx),Ql,Qk,fun _ hx=>(by cases hx),(fun k hk=>(by obtain rfl:=List.mem_singleton.1 hk;exact⟨pl5,rfl⟩))⟩
     exact D.path (.inr rfl) (args:=[]) (args':=[]) (fun _ _ => .nil) (fin:=.pan (tk 322)) Dk
    |ok y4=>
     obtain⟨⟨t6k,t6x,t6n,t6p,t6c⟩,m5⟩:=y4;dsimp only [andThen,ok,bad] at hr;cases hr;have D:Told b E (mkN E.len hd w.heap.size [l,l.tail,m5] [.mk t6k t6x t6n t6p t6c] [] []) hd w [Zb 0 (tk 321),Qc wSq 0 (tk 321),Qx Ff 0 1 (tk 321),Qm 48 [] 1 2 (tk 256) 0 (tk 321)] ⟨[],[],[],[]⟩ []:=
      ⟨h,rfl,rfl,rfl,rfl,Qa (Zc rfl Dd _) (Qa (Qd k1 _) (Qa (Qy k2 rfl _) (Qa (Qs ht (.inr rfl) rfl Qv k3 (.inl rfl) Dd) Q7))),fun _ hx=>(by cases hx),Ql,Qk,fun _ hx=>(by cases hx),Qj⟩
     exact D.path (.inr rfl) (args:=[]) (args':=[]) (fun _ _ => .nil) (fin:=.tree (.nd (.int .i64 12) (.string ⟨#[]⟩) (.int .u64 0) (tk 128) [.ab (tk 256) (tk 257) (tk 258) (tk 259) 1]) 2) Dk
  |false=>
   rw[k2,if_neg Dd] at hr;cases k3:isP Tm l with
   |true=>
    rw[k3,if_pos rfl] at hr;unfold Ub at hr;cases k4:isP Zt l.tail with
    |true=>
     rw[k4,if_pos rfl] at hr;dsimp only [andThen,ok,bad] at hr;cases k5:Yi E.len Q8 false (Bc E.len f) f l.tail.tail with
     |none=>rw[k5] at hr;cases hr
     |some y6=>
      rw[k5] at hr;cases y6 with
      |error pl7=>
       dsimp only [andThen,ok,bad] at hr;cases hr;have D:Told b E (mkN E.len hd w.heap.size [l,l.tail,l.tail.tail] [] [] [(pl7:Int)]) hd w [Zb 0 (tk 321),Qc wSq 0 (tk 321),Qc Ff 0 (tk 321),Qx Tm 0 1 (tk 321),Xo Zt 1 2 (tk 321),Xq 71 [str Q8,.bool false,(.func (.func 48) #[.pointer (some ⟨64,0,none⟩)] #[])] 2 2 (tk 321)] ⟨[],[],[],[322]⟩ []:=
        ⟨h,rfl,rfl,rfl,rfl,Qa (Zc rfl Dd _) (Qa (Qd k1 _) (Qa (Qd k2 _) (Qa (Qy k3 rfl _) (Qa (Xr rfl Dd k4 rfl _) (Qa (Qb8 (Qcv htf hf) (.inr rfl) rfl Ud k5 Dd rfl) Q7))))),fun _ hx=>(by cases hx),Ql,Qk,fun _ hx=>(by cases hx),(fun k hk=>(by obtain rfl:=List.mem_singleton.1 hk;exact⟨pl7,rfl⟩))⟩
       exact D.path (.inr rfl) (args:=[]) (args':=[]) (fun _ _ => .nil) (fin:=.pan (tk 322)) Dk
      |ok y6=>
       obtain⟨ts8,m7⟩:=y6;dsimp only [andThen,ok,bad] at hr;cases k10:Lu m7 with
       |true=>
        rw[k10,if_pos rfl] at hr;cases k11:Bc E.len f m7 with
        |none=>rw[k11] at hr;cases hr
        |some y12=>
         rw[k11] at hr;cases y12 with
         |error pl13=>
          dsimp only [andThen,ok,bad] at hr;cases hr;have D:Told b E (mkN E.len hd w.heap.size [l,l.tail,l.tail.tail,m7] [] [ts8] [(pl13:Int)]) hd w [Zb 0 (tk 321),Qc wSq 0 (tk 321),Qc Ff 0 (tk 321),Qx Tm 0 1 (tk 321),Xo Zt 1 2 (tk 321),Yv 71 [str Q8,.bool false,(.func (.func 48) #[.pointer (some ⟨64,0,none⟩)] #[])] 2 3 0 (tk 321),Pn 3 true (tk 321),Xq 48 [] 3 2 (tk 321)] ⟨[],[],[],[322]⟩ []:=
           ⟨h,rfl,rfl,rfl,rfl,Qa (Zc rfl Dd _) (Qa (Qd k1 _) (Qa (Qd k2 _) (Qa (Qy k3 rfl _) (Qa (Xr rfl Dd k4 rfl _) (Qa (Jn (Qcv htf hf) (.inr rfl) rfl Ud k5) (Qa (Ec k10 _) (Qa (Zf ht (.inr rfl) rfl Qv k11 Dd rfl) Q7))))))),fun _ hx=>(by cases hx),Ql,Qk,fun _ hx=>(by cases hx),(fun k hk=>(by obtain rfl:=List.mem_singleton.1 hk;exact⟨pl13,rfl⟩))⟩
          exact D.path (.inr rfl) (args:=[]) (args':=[]) (fun _ _ => .nil) (fin:=.pan (tk 322)) Dk
         |ok y12=>
          obtain⟨⟨t14k,t14x,t14n,t14p,t14c⟩,m13⟩:=y12;dsimp only [andThen,ok,bad] at hr;cases hr;have D:Told b E (mkN E.len hd w.heap.size [l,l.tail,l.tail.tail,m7,m13] [.mk t14k t14x t14n t14p t14c] [ts8,ts8++[.mk t14k t14x t14n t14p t14c]] []) hd w [Zb 0 (tk 321),Qc wSq 0 (tk 321),Qc Ff 0 (tk 321),Qx Tm 0 1 (tk 321),Xo Zt 1 2 (tk 321),Yv 71 [str Q8,.bool false,(.func (.func 48) #[.pointer (some ⟨64,0,none⟩)] #[])] 2 3 0 (tk 321),Pn 3 true (tk 321),Qm 48 [] 3 4 (tk 256) 0 (tk 321)] ⟨[],[(0,.ab (tk 256) (tk 257) (tk 258) (tk 259) 1,1)],[],[]⟩ []:=
           ⟨h,rfl,rfl,rfl,rfl,Qa (Zc rfl Dd _) (Qa (Qd k1 _) (Qa (Qd k2 _) (Qa (Qy k3 rfl _) (Qa (Xr rfl Dd k4 rfl _) (Qa (Jn (Qcv htf hf) (.inr rfl) rfl Ud k5) (Qa (Ec k10 _) (Qa (Qs ht (.inr rfl) rfl Qv k11 (.inl rfl) Dd) Q7))))))),fun _ hx=>(by cases hx),appS (Qg4 k5 hf),Qk,fun _ hx=>(by cases hx),Qj⟩
          exact D.path (.inr rfl) (args:=[]) (args':=[]) (fun _ _ => .nil) (fin:=.tree (.ab (.int .i64 13) (.string ⟨#[]⟩) (.int .u64 1) (tk 128) 10) 4) Dk
       |false=>
        rw[k10,if_neg Dd] at hr;cases hr;have D:Told b E (mkN E.len hd w.heap.size [l,l.tail,l.tail.tail,m7] [] [ts8] []) hd w [Zb 0 (tk 321),Qc wSq 0 (tk 321),Qc Ff 0 (tk 321),Qx Tm 0 1 (tk 321),Xo Zt 1 2 (tk 321),Yv 71 [str Q8,.bool false,(.func (.func 48) #[.pointer (some ⟨64,0,none⟩)] #[])] 2 3 0 (tk 321),Pn 3 false (tk 321)] ⟨[],[],[],[]⟩ []:=
         ⟨h,rfl,rfl,rfl,rfl,Qa (Zc rfl Dd _) (Qa (Qd k1 _) (Qa (Qd k2 _) (Qa (Qy k3 rfl _) (Qa (Xr rfl Dd k4 rfl _) (Qa (Jn (Qcv htf hf) (.inr rfl) rfl Ud k5) (Qa (Ec k10 _) Q7)))))),fun _ hx=>(by cases hx),Ql,Qk,fun _ hx=>(by cases hx),Qj⟩
        exact D.path (.inr rfl) (args:=[]) (args':=[]) (fun _ _ => .nil) (fin:=.tree (.ab (.int .i64 13) (.string ⟨#[]⟩) (.int .u64 0) (tk 128) 2) 3) Dk
    |false=>
     rw[k4,if_neg Dd] at hr;dsimp only [andThen,ok,bad] at hr;cases hr;have D:Told b E (mkN E.len hd w.heap.size [l,l.tail] [] [] []) hd w [Zb 0 (tk 321),Qc wSq 0 (tk 321),Qc Ff 0 (tk 321),Qx Tm 0 1 (tk 321),Lj Zt 1 (tk 321)] ⟨[],[],[],[]⟩ []:=
      ⟨h,rfl,rfl,rfl,rfl,Qa (Zc rfl Dd _) (Qa (Qd k1 _) (Qa (Qd k2 _) (Qa (Qy k3 rfl _) (Qa (Eg rfl Dd k4 _) Q7)))),fun _ hx=>(by cases hx),Ql,Qk,fun _ hx=>(by cases hx),Qj⟩
     exact D.path (.inr rfl) (args:=[]) (args':=[]) (fun _ _ => .nil) (fin:=.pan (tk 136)) Dk
   |false=>
    rw[k3,if_neg Dd] at hr;unfold U8 at hr;cases k4:Xn l==1 with
    |true=>
     rw[k4,if_pos rfl] at hr;dsimp only [andThen,ok,bad] at hr;simp only[Q5,Xc] at hr;cases hr;have D:Told b E (mkN E.len hd w.heap.size [l,l.tail] [] [] []) hd w [Zb 0 (tk 321),Qc wSq 0 (tk 321),Qc Ff 0 (tk 321),Qc Tm 0 (tk 321),Zz 0 1 (tk 321)] ⟨[],[],[],[]⟩ []:=
      ⟨h,rfl,rfl,rfl,rfl,Qa (Zc rfl Dd _) (Qa (Qd k1 _) (Qa (Qd k2 _) (Qa (Qd k3 _) (Qa (Z7 Dd k4 rfl _) Q7)))),fun _ hx=>(by cases hx),Ql,Qk,fun _ hx=>(by cases hx),Qj⟩
     exact D.path (.inr rfl) (args:=[]) (args':=[]) (fun _ _ => .nil) (fin:=.tree (.nd (.int .i64 10) (tk 130) (.int .u64 0) (tk 128) []) 1) Dk
    |false=>
     rw[k4,if_neg Dd] at hr;dsimp only [andThen,ok,bad] at hr;cases hr;have D:Told b E (mkN E.len hd w.heap.size [l] [] [] []) hd w [Zb 0 (tk 321),Qc wSq 0 (tk 321),Qc Ff 0 (tk 321),Qc Tm 0 (tk 321),Qal 0 (tk 321)] ⟨[],[],[],[]⟩ []:=
      ⟨h,rfl,rfl,rfl,rfl,Qa (Zc rfl Dd _) (Qa (Qd k1 _) (Qa (Qd k2 _) (Qa (Qd k3 _) (Qa (Qbx rfl Dd k4 _) Q7)))),fun _ hx=>(by cases hx),Ql,Qk,fun _ hx=>(by cases hx),Qj⟩
     exact D.path (.inr rfl) (args:=[]) (args':=[]) (fun _ _ => .nil) (fin:=.pan (tk 128)) Dk
end Prs
end Go.Proofs.YtcbkeecabcbogaaGreatDoor
