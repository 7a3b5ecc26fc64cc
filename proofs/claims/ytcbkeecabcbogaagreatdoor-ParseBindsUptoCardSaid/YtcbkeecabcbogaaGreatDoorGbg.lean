/- parse.read: a text that is a list of tokens. parse.read: what it answers where its reading comes to a tree. Printed by gen_read.py. parse.read: where nothing is left. Printed by gen_read.py. parse. -/
import Derived.Test.YtcbkeecabcbogaaGreatDoorGbf
import Derived.Test.YtcbkeecabcbogaaGreatDoorGac
import Derived.KernelRfl
set_option linter.unusedSimpArgs false
set_option linter.unusedVariables false
namespace Go.Proofs.YtcbkeecabcbogaaGreatDoor
open Go.RowKit
namespace Prs
theorem TokU.put {k0 k q:Nat}{W W':World}{v:Value}{l:List Tok}(h:TokU k0 k W v l)(hq:q<k0)(hP:Put q W W'):TokU k0 k W' v l:=by
 obtain⟨a,c,h1,h2,h3,h4⟩:=h
 refine⟨a,c,h1,h2,h3,h4.imp id ?_⟩
 rintro⟨g,o,h5,h6,h7,h8⟩
 exact⟨g,o,h5,h6,h7,h8.frame (hP.2 g (by omega))⟩
theorem TokU.tok {k0 k b:Nat}{W W':World}{v:Value}{l:List Tok}(h:TokU k0 k W v l)(hk:k≤b)(hb:∀ i,i<k→W'.heap[i]? = W.heap[i]?):TokA b W' v l:=by
 obtain⟨a,c,h1,h2,h3,h4⟩:=h
 refine⟨a,c,h1,h2,h3,h4.imp id ?_⟩
 rintro⟨g,o,h5,h6,h7,h8⟩
 exact⟨g,o,h5,by omega,h8.frame (hb g h7)⟩
theorem start_c {w W8:World}{z:Array Value}{a c v:Value}{ts:List Tok}{n fw k0 k:Nat}{x:List Tok→R Tr}{r:Except Nat (Tr×List Tok)}(hS:St w W8 z a c)(hTok:TokU k0 k W8 v ts)(hk:k≤W8.heap.size)(HX:∀ b W,(∀ k,k<w.heap.size→W.heap[k]? = w.heap[k]?)→w.heap.size≤b→Reads b ⟨n,W⟩ false fw #[rp b] x)(hx:x ts=some r):
  Calls Tryz.prog fw #[rp W8.heap.size] (W8.alloc (.cells #[v,.int .i64 (n:Int),.bool false] 61)) (Out W8.heap.size ⟨n,W8.alloc (.cells #[v,.int .i64 (n:Int),.bool false] 61)⟩ false (NodeV ((W8.alloc (.cells #[v,.int .i64 (n:Int),.bool false] 61)).heap.size ≤ ·)) r (W8.alloc (.cells #[v,.int .i64 (n:Int),.bool false] 61))):=by
 have hs:=hS.size
 refine HX _ _ (fun i hi => ?_) (by omega) ts _ r ⟨fun _ _=>rfl,v,new_block _ _,hTok.tok hk fun i hi=>Below.heap_alloc _ _ _ (by omega)⟩ hx
 rw[Below.heap_alloc _ _ _ (by omega)]
 exact hS.below.block i hi
set_option maxHeartbeats 4000000 in
set_option maxRecDepth 100000 in
theorem read_bad (s:ByteArray)(one:Bool)(fw:Nat)(hfw:∀ (args:Array Value) (W:World),(callFunc fw args).run Tryz.prog W = .ok (.enter fw args) W)(w:World)(ts:List Tok)(x:List Tok→R Tr)(hp:tokensP s.data.toList = .ok ts)(HT:∀ w1,(∀ k,k<w.heap.size→w1.heap[k]? = w.heap[k]?)→TokensA s w1)
  (HX:∀ b W,(∀ k,k<w.heap.size→W.heap[k]? = w.heap[k]?)→w.heap.size≤b→Reads b ⟨s.size,W⟩ false fw #[rp b] x) (p:Nat) (hx:x ts=some (.error p)):Calls Tryz.prog 21 #[.string s,.bool one,.func (.func fw) #[] #[]] w fun e w'=>e = .returned (.tuple #[.agg zero5,.int .i64 (p:Int),.int .i64 5])∧Below w.heap.size w w':=by
 have hmf:∀ (fn:Fn) (first cap:Array Value) (w:World),(Instr.makeFunc fn first cap).run Tryz.prog w = .ok (.func fn first cap) w:=fun _ _ _ _=>rfl
 have hS:=St.start w
 have HT1:=HT _ hS.below.block
 unfold TokensA at HT1
 rw[hp] at HT1
 dsimp only at HT1
 have hS:=Lib.hid hS
 have HT1:=Lib.hid HT1
 have HX1:=Lib.hid fun (W8:World) (v z a c k0 k) (hS:St w W8 z a c) (hT:TokU k0 k W8 v ts) (hk:k≤W8.heap.size)=>start_c hS hT hk HX hx
 clear HT hp HX hx
 go_enter_defers Tryz.func21,Tryz.ntmps21
 go_wp2_with (first|(go_at_call 30;refine HT1.out.mono ?_;rintro e w1 ⟨hB,v,rfl,hTk⟩;obtain⟨n0,a0,c0,rfl⟩:∃ n0 a0 c0,v = .slice a0 n0 c0:=⟨_,_,_,hTk.choose_spec.choose_spec.1⟩;have hTok:=Lib.hid hTk;clear hTk;have hS:=Lib.hid (hS.out.keep (Nat.le_refl _) (KeepR.of_below hB (by simp))))|((with_reducible refine st7 hS rfl _ _ rfl rfl (.int .i64 0) ?hx ?hy ?h1 ?_);(case hx=>rfl);(case hy=>rfl);(case h1=>rfl);intro W7 hS7 hP7;have h7:=hS7.c7;have h8:=hS7.c8;have hS:=Lib.hid hS7;have hP7:=Lib.hid hP7;clear hS7)|((with_reducible refine st8 hS rfl _ _ rfl rfl (.int .i64 0) ?hx ?hy ?h1 ?_);(case hx=>rfl);(case hy=>rfl);(case h1=>rfl);intro W8 hS8 hP8;have h7:=hS8.c7;have h8:=hS8.c8;have hTok:=Lib.hid ((hTok.out.put (by simp) hP7.out).put (by simp) hP8);have hTs:=Lib.hid (show w1.heap.size≤W8.heap.size from Nat.le_of_eq (hP8.1.trans hP7.out.1).symm);have hS:=Lib.hid hS8;clear hS8)|(refine(HX1.out _ _ _ _ _ _ _ hS.out hTok.out hTs.out).mono ?_;rintro e w2 ⟨hk,rfl⟩;have hS:=Lib.hid (hS.out.keep (b:=W8.heap.size) hS.out.size ((KeepR.new _ _).trans hk))))
 exact fault_end hS.out rfl rfl rfl rfl fun w' hB=>⟨rfl,hB⟩
theorem NodeV.put {S:Nat→Prop}{W W':World}{t:Tr}{v:Value}{q:Nat}(h:NodeV S W t v)(hq:∀ k,S k→k≠q)(hP:Put q W W'):NodeV S W' t v:=h.frame (fun _ h _=>h) fun k hk _=>hP.2 k (hq k hk)
theorem NodeV.setB {b:Nat}{W:World}{t:Tr}{v:Value}(h:NodeV (b < ·) W t v)(u:Value):NodeV (b < ·) (W.setCell ⟨b,0,none⟩ u) t v:=h.frame (fun _ h _=>h) fun k hk hl=>(KeepR.set W 0 u).block k hl (by omega)
theorem NodeV.deep {W8 w2:World}{o:Obj}{t:Tr}{v:Value}(h:NodeV ((W8.alloc o).heap.size ≤ ·) w2 t v):NodeV (W8.heap.size < ·) w2 t v:=h.frame (fun k hk _=>by simp at hk;omega) fun _ _ _=>rfl
theorem St.setB {w W:World}{z:Array Value}{a c:Value}{b:Nat}(h:St w W z a c)(hb:w.heap.size+3≤b)(u:Value):St w (W.setCell ⟨b,0,none⟩ u) z a c:=h.keep hb (KeepR.set _ _ _)
theorem rd_put {w w2 W6:World}{a c:Value}{b:Nat}{E:Env}{l:List Tok}{hd:Bool}(hS:St w w2 zero5 a c)(h:RdB b E w2 l hd)(hb:w.heap.size+3≤b)(hk0:∀ t:Tok,t∈l→t.kind≠0)(hP:Put w.heap.size w2 W6):RdB b ⟨E.len,W6⟩ W6 l hd:=by
 obtain⟨-,v,h1,a1,c1,h2,h3,h4,h5⟩:=h
 refine⟨fun _ _=>rfl,v,(hP.2 b (by omega)).trans h1,a1,c1,h2,h3,h4,h5.imp id ?_⟩
 rintro⟨g,o,h6,h7,h8⟩
 refine⟨g,o,h6,h7,?_⟩
 cases l with
 |nil=>trivial
 |cons t l=>
  refine h8.frame (hP.2 g ?_)
  rintro rfl
  have e0:=h8.1 0 _ rfl
  have e1:=h8.1 1 _ rfl
  unfold World.cell? at e0 e1
  rw[hS.h6] at e0 e1
  match o,e0,e1 with
  |0,e0,e1=>simp[zero5,tokL] at e0;exact hk0 t (List.mem_cons_self) e0.symm
  |1,e0,e1=>simp[zero5,tokL] at e0
  |2,e0,e1=>simp[zero5,tokL] at e1
  |3,e0,e1=>simp[zero5,tokL] at e1
  |4,e0,e1=>simp[zero5,tokL] at e0
  |n+5,e0,e1=>simp[zero5,tokL] at e0
set_option maxHeartbeats 8000000 in
set_option maxRecDepth 100000 in
theorem left_b (s:ByteArray)(fw:Nat)(hfw:∀ (args:Array Value) (W:World),(callFunc fw args).run Tryz.prog W = .ok (.enter fw args) W)(w:World)(ts:List Tok)(x:List Tok→R Tr)(hp:tokensP s.data.toList = .ok ts)(HT:∀ w1,(∀ k,k<w.heap.size→w1.heap[k]? = w.heap[k]?)→TokensA s w1)
  (HX:∀ b W,(∀ k,k<w.heap.size→W.heap[k]? = w.heap[k]?)→w.heap.size≤b→Reads b ⟨s.size,W⟩ false fw #[rp b] x) (t:Tr) (hsz:sizeT t≤4611686018427387904) (t0:Tok) (l2:List Tok) (hk0:∀ t:Tok,t∈(t0 :: l2:List Tok)→t.kind≠0) (hx:x ts=some (.ok (t,t0 :: l2))):Calls Tryz.prog 21 #[.string s,.bool false,.func (.func fw) #[] #[]] w fun e w'=>e = .returned (.tuple #[.agg zero5,.int .i64 (atP s.size (t0 :: l2):Int),.int .i64 5])∧Below w.heap.size w w':=by
 have hft:=field_tok
 have hmf:∀ (fn:Fn) (first cap:Array Value) (w:World),(Instr.makeFunc fn first cap).run Tryz.prog w = .ok (.func fn first cap) w:=fun _ _ _ _=>rfl
 have hS:=St.start w
 have HT1:=HT _ hS.below.block
 unfold TokensA at HT1
 rw[hp] at HT1
 dsimp only at HT1
 have hS:=Lib.hid hS
 have HT1:=Lib.hid HT1
 have HX1:=Lib.hid fun (W8:World) (v z a c k0 k) (hS:St w W8 z a c) (hT:TokU k0 k W8 v ts) (hk:k≤W8.heap.size)=>start_c hS hT hk HX hx
 have HZ:=Lib.hid hsz
 have HK:=Lib.hid hk0
 clear HT hp HX hx hsz hk0
 have hpos:(0:Int)<((l2.length+1:Nat):Int):=by omega
 have hpos2:(0:Int)<(l2.length:Int)+1:=by omega
 all_goals
  go_enter_defers Tryz.func21,Tryz.ntmps21
  go_wp2_with (first|(go_at_call 30;refine HT1.out.mono ?_;rintro e w1 ⟨hB,v,rfl,hTk⟩;obtain⟨n0,a0,c0,rfl⟩:∃ n0 a0 c0,v = .slice a0 n0 c0:=⟨_,_,_,hTk.choose_spec.choose_spec.1⟩;have hTok:=Lib.hid hTk;clear hTk;have hS:=Lib.hid (hS.out.keep (Nat.le_refl _) (KeepR.of_below hB (by simp))))|((with_reducible refine st7 hS rfl _ _ rfl rfl (.int .i64 0) ?hx ?hy ?h1 ?_);(case hx=>rfl);(case hy=>rfl);(case h1=>rfl);intro W7 hS7 hP7;have h7:=hS7.c7;have h8:=hS7.c8;have hS:=Lib.hid hS7;have hP7:=Lib.hid hP7;clear hS7)|((with_reducible refine st8 hS rfl _ _ rfl rfl (.int .i64 0) ?hx ?hy ?h1 ?_);(case hx=>rfl);(case hy=>rfl);(case h1=>rfl);intro W8 hS8 hP8;have h7:=hS8.c7;have h8:=hS8.c8;have hTok:=Lib.hid ((hTok.out.put (by simp) hP7.out).put (by simp) hP8);have hTs:=Lib.hid (show w1.heap.size≤W8.heap.size from Nat.le_of_eq (hP8.1.trans hP7.out.1).symm);have hS:=Lib.hid hS8;clear hS8 hP8)|(refine(HX1.out _ _ _ _ _ _ _ hS.out hTok.out hTs.out).mono ?_;rintro e w2 ⟨hk,vv,rfl,hNv,hRd⟩;obtain⟨v0,v1,v2,v3,v4,rfl,hone⟩:=hNv.cells;have hone:=Lib.hid hone;have hb3:=Lib.hid hS.out.size;have hN:=Lib.hid hNv.deep;have hRd:=Lib.hid hRd;clear hNv;have hS:=Lib.hid (hS.out.keep hS.out.size ((KeepR.new _ _).trans hk));have hRlt:=Lib.hid hk.size;clear hk)|((with_reducible refine st6 hS rfl rfl _ _ rfl rfl #[v0,v1,v2,v3,v4] ?hx ?hy rfl ?h1 ?_);(case hx=>rfl);(case hy=>rfl);(case h1=>exact hone.out);intro W6 hS6 hP6;have hRd:=Lib.hid (rd_put hS.out hRd.out hb3.out HK.out hP6);have hN:=Lib.hid (hN.out.put (fun k hk=>by have:=hb3.out;omega) hP6);have h7:=hS6.c7;have h8:=hS6.c8;have hS:=Lib.hid hS6;clear hS6 hP6;obtain⟨a1,c1,hc0,hc1,hc2,hf0,hf2,hcl,hcm,-⟩:=hRd.out.open_;rw[show (t0 :: l2).length=l2.length+1 from rfl] at hc0;have hcl:=Lib.hid hcl;have hcm:=Lib.hid hcm)|(go_at_call 33;refine(fail_c _ _ _ _ _ hRd.out).mono ?_;rintro e w9 ⟨rfl,rfl⟩))
  all_goals exact fault_end hS.out rfl rfl rfl rfl fun w' hB=>⟨rfl,hB⟩
set_option maxHeartbeats 8000000 in
set_option maxRecDepth 100000 in
theorem left_c (s:ByteArray)(fw:Nat)(hfw:∀ (args:Array Value) (W:World),(callFunc fw args).run Tryz.prog W = .ok (.enter fw args) W)(w:World)(ts:List Tok)(x:List Tok→R Tr)(hp:tokensP s.data.toList = .ok ts)(HT:∀ w1,(∀ k,k<w.heap.size→w1.heap[k]? = w.heap[k]?)→TokensA s w1)
  (HX:∀ b W,(∀ k,k<w.heap.size→W.heap[k]? = w.heap[k]?)→w.heap.size≤b→Reads b ⟨s.size,W⟩ false fw #[rp b] x) (t:Tr) (hsz:sizeT t≤4611686018427387904) (k0:Int) (x0:List UInt8) (n9:Int) (p0:Nat) (hk:k0≠5) (l2:List Tok) (hk0:∀ t:Tok,t∈(⟨k0,x0,n9,p0⟩ :: l2:List Tok)→t.kind≠0) (hx:x ts=some (.ok (t,⟨k0,x0,n9,p0⟩ :: l2))):Calls Tryz.prog 21 #[.string s,.bool true,.func (.func fw) #[] #[]] w fun e w'=>e = .returned (.tuple #[.agg zero5,.int .i64 (atP s.size (⟨k0,x0,n9,p0⟩ :: l2):Int),.int .i64 5])∧Below w.heap.size w w':=by
 have hft:=field_tok
 have hmf:∀ (fn:Fn) (first cap:Array Value) (w:World),(Instr.makeFunc fn first cap).run Tryz.prog w = .ok (.func fn first cap) w:=fun _ _ _ _=>rfl
 have hS:=St.start w
 have HT1:=HT _ hS.below.block
 unfold TokensA at HT1
 rw[hp] at HT1
 dsimp only at HT1
 have hS:=Lib.hid hS
 have HT1:=Lib.hid HT1
 have HX1:=Lib.hid fun (W8:World) (v z a c k0 k) (hS:St w W8 z a c) (hT:TokU k0 k W8 v ts) (hk:k≤W8.heap.size)=>start_c hS hT hk HX hx
 have HZ:=Lib.hid hsz
 have HK:=Lib.hid hk0
 clear HT hp HX hx hsz hk0
 have hpos:(0:Int)<((l2.length+1:Nat):Int):=by omega
 have hpos2:(0:Int)<(l2.length:Int)+1:=by omega
 have hk5:(k0==5)=false:=beq_false_of_ne hk
 all_goals
  go_enter_defers Tryz.func21,Tryz.ntmps21
  go_wp2_with (first|(go_at_call 30;refine HT1.out.mono ?_;rintro e w1 ⟨hB,v,rfl,hTk⟩;obtain⟨n0,a0,c0,rfl⟩:∃ n0 a0 c0,v = .slice a0 n0 c0:=⟨_,_,_,hTk.choose_spec.choose_spec.1⟩;have hTok:=Lib.hid hTk;clear hTk;have hS:=Lib.hid (hS.out.keep (Nat.le_refl _) (KeepR.of_below hB (by simp))))|((with_reducible refine st7 hS rfl _ _ rfl rfl (.int .i64 0) ?hx ?hy ?h1 ?_);(case hx=>rfl);(case hy=>rfl);(case h1=>rfl);intro W7 hS7 hP7;have h7:=hS7.c7;have h8:=hS7.c8;have hS:=Lib.hid hS7;have hP7:=Lib.hid hP7;clear hS7)|((with_reducible refine st8 hS rfl _ _ rfl rfl (.int .i64 0) ?hx ?hy ?h1 ?_);(case hx=>rfl);(case hy=>rfl);(case h1=>rfl);intro W8 hS8 hP8;have h7:=hS8.c7;have h8:=hS8.c8;have hTok:=Lib.hid ((hTok.out.put (by simp) hP7.out).put (by simp) hP8);have hTs:=Lib.hid (show w1.heap.size≤W8.heap.size from Nat.le_of_eq (hP8.1.trans hP7.out.1).symm);have hS:=Lib.hid hS8;clear hS8 hP8)|(refine(HX1.out _ _ _ _ _ _ _ hS.out hTok.out hTs.out).mono ?_;rintro e w2 ⟨hk,vv,rfl,hNv,hRd⟩;obtain⟨v0,v1,v2,v3,v4,rfl,hone⟩:=hNv.cells;have hone:=Lib.hid hone;have hb3:=Lib.hid hS.out.size;have hN:=Lib.hid hNv.deep;have hRd:=Lib.hid hRd;clear hNv;have hS:=Lib.hid (hS.out.keep hS.out.size ((KeepR.new _ _).trans hk));have hRlt:=Lib.hid hk.size;clear hk)|((with_reducible refine st6 hS rfl rfl _ _ rfl rfl #[v0,v1,v2,v3,v4] ?hx ?hy rfl ?h1 ?_);(case hx=>rfl);(case hy=>rfl);(case h1=>exact hone.out);intro W6 hS6 hP6;have hRd:=Lib.hid (rd_put hS.out hRd.out hb3.out HK.out hP6);have hN:=Lib.hid (hN.out.put (fun k hk=>by have:=hb3.out;omega) hP6);have h7:=hS6.c7;have h8:=hS6.c8;have hS:=Lib.hid hS6;clear hS6 hP6)|(go_at_call 32;have HPK:=peek_c _ _ _ _ _ hRd.out;dsimp only [headT,tokA] at HPK;refine HPK.mono ?_;clear HPK;rintro e w3 ⟨rfl,hB3⟩;have hRd:=Lib.hid (hRd.out.keep hB3);have hN:=Lib.hid (hN.out.below hB3);have hS:=Lib.hid (hS.out.keep hb3.out (KeepR.of_below hB3 (Nat.le_refl _)));have h7:=hS.out.c7;have h8:=hS.out.c8;clear hB3;obtain⟨a1,c1,hc0,hc1,hc2,hf0,hf2,hcl,hcm,-⟩:=hRd.out.open_;rw[show (⟨k0,x0,n9,p0⟩ :: l2).length=l2.length+1 from rfl] at hc0;have hcl:=Lib.hid hcl;have hcm:=Lib.hid hcm)|(go_at_call 33;refine(fail_c _ _ _ _ _ hRd.out).mono ?_;rintro e w9 ⟨rfl,rfl⟩))
  all_goals exact fault_end hS.out rfl rfl rfl rfl fun w' hB=>⟨rfl,hB⟩
set_option maxHeartbeats 8000000 in
set_option maxRecDepth 100000 in
theorem left_e (s:ByteArray)(fw:Nat)(hfw:∀ (args:Array Value) (W:World),(callFunc fw args).run Tryz.prog W = .ok (.enter fw args) W)(w:World)(ts:List Tok)(x:List Tok→R Tr)(hp:tokensP s.data.toList = .ok ts)(HT:∀ w1,(∀ k,k<w.heap.size→w1.heap[k]? = w.heap[k]?)→TokensA s w1)
  (HX:∀ b W,(∀ k,k<w.heap.size→W.heap[k]? = w.heap[k]?)→w.heap.size≤b→Reads b ⟨s.size,W⟩ false fw #[rp b] x) (t:Tr) (hsz:sizeT t≤4611686018427387904) (x0:List UInt8) (n9:Int) (p0:Nat) (t0:Tok) (l2:List Tok) (hk0:∀ t:Tok,t∈(⟨5,x0,n9,p0⟩ :: t0 :: l2:List Tok)→t.kind≠0) (hx:x ts=some (.ok (t,⟨5,x0,n9,p0⟩ :: t0 :: l2))):Calls Tryz.prog 21 #[.string s,.bool true,.func (.func fw) #[] #[]] w fun e w'=>e = .returned (.tuple #[.agg zero5,.int .i64 (atP s.size (t0 :: l2):Int),.int .i64 5])∧Below w.heap.size w w':=by
 have hft:=field_tok
 have hmf:∀ (fn:Fn) (first cap:Array Value) (w:World),(Instr.makeFunc fn first cap).run Tryz.prog w = .ok (.func fn first cap) w:=fun _ _ _ _=>rfl
 have hS:=St.start w
 have HT1:=HT _ hS.below.block
 unfold TokensA at HT1
 rw[hp] at HT1
 dsimp only at HT1
 have hS:=Lib.hid hS
 have HT1:=Lib.hid HT1
 have HX1:=Lib.hid fun (W8:World) (v z a c k0 k) (hS:St w W8 z a c) (hT:TokU k0 k W8 v ts) (hk:k≤W8.heap.size)=>start_c hS hT hk HX hx
 have HZ:=Lib.hid hsz
 have HK:=Lib.hid hk0
 clear HT hp HX hx hsz hk0
 have hpos:(0:Int)<((l2.length+1:Nat):Int):=by omega
 have hpos2:(0:Int)<(l2.length:Int)+1:=by omega
 all_goals
  go_enter_defers Tryz.func21,Tryz.ntmps21
  go_wp2_with (first|(go_at_call 30;refine HT1.out.mono ?_;rintro e w1 ⟨hB,v,rfl,hTk⟩;obtain⟨n0,a0,c0,rfl⟩:∃ n0 a0 c0,v = .slice a0 n0 c0:=⟨_,_,_,hTk.choose_spec.choose_spec.1⟩;have hTok:=Lib.hid hTk;clear hTk;have hS:=Lib.hid (hS.out.keep (Nat.le_refl _) (KeepR.of_below hB (by simp))))|((with_reducible refine st7 hS rfl _ _ rfl rfl (.int .i64 0) ?hx ?hy ?h1 ?_);(case hx=>rfl);(case hy=>rfl);(case h1=>rfl);intro W7 hS7 hP7;have h7:=hS7.c7;have h8:=hS7.c8;have hS:=Lib.hid hS7;have hP7:=Lib.hid hP7;clear hS7)|((with_reducible refine st8 hS rfl _ _ rfl rfl (.int .i64 0) ?hx ?hy ?h1 ?_);(case hx=>rfl);(case hy=>rfl);(case h1=>rfl);intro W8 hS8 hP8;have h7:=hS8.c7;have h8:=hS8.c8;have hTok:=Lib.hid ((hTok.out.put (by simp) hP7.out).put (by simp) hP8);have hTs:=Lib.hid (show w1.heap.size≤W8.heap.size from Nat.le_of_eq (hP8.1.trans hP7.out.1).symm);have hS:=Lib.hid hS8;clear hS8 hP8)|(refine(HX1.out _ _ _ _ _ _ _ hS.out hTok.out hTs.out).mono ?_;rintro e w2 ⟨hk,vv,rfl,hNv,hRd⟩;obtain⟨v0,v1,v2,v3,v4,rfl,hone⟩:=hNv.cells;have hone:=Lib.hid hone;have hb3:=Lib.hid hS.out.size;have hN:=Lib.hid hNv.deep;have hRd:=Lib.hid hRd;clear hNv;have hS:=Lib.hid (hS.out.keep hS.out.size ((KeepR.new _ _).trans hk));have hRlt:=Lib.hid hk.size;clear hk)|((with_reducible refine st6 hS rfl rfl _ _ rfl rfl #[v0,v1,v2,v3,v4] ?hx ?hy rfl ?h1 ?_);(case hx=>rfl);(case hy=>rfl);(case h1=>exact hone.out);intro W6 hS6 hP6;have hRd:=Lib.hid (rd_put hS.out hRd.out hb3.out HK.out hP6);have hN:=Lib.hid (hN.out.put (fun k hk=>by have:=hb3.out;omega) hP6);have h7:=hS6.c7;have h8:=hS6.c8;have hS:=Lib.hid hS6;clear hS6 hP6)|(go_at_call 32;have HPK:=peek_c _ _ _ _ _ hRd.out;dsimp only [headT,tokA] at HPK;refine HPK.mono ?_;clear HPK;rintro e w3 ⟨rfl,hB3⟩;have hRd:=Lib.hid (hRd.out.keep hB3);have hN:=Lib.hid (hN.out.below hB3);have hS:=Lib.hid (hS.out.keep hb3.out (KeepR.of_below hB3 (Nat.le_refl _)));have h7:=hS.out.c7;have h8:=hS.out.c8;clear hB3;obtain⟨g,o,n1,c1,hn,hc0,hf0,hnc,hcm,hset⟩:=hRd.out.cons;have hset:=Lib.hid hset;subst hn)|(go_at_call 33;refine(fail_c _ _ _ _ _ (hset.out.2 (by assumption))).mono ?_;rintro e w9 ⟨rfl,rfl⟩))
  all_goals first
   |exact fault_end (hS.out.setB hb3.out _) rfl rfl rfl rfl fun w' hB=>⟨rfl,hB⟩
   |(exfalso;simp at *;omega)
theorem ends (t:Tr):(fewN t=false∧∀ p q:Prop,(if fewN t=true∧sizeT t≤16384∧depthT t≤64 then p else q)=q)∨(fewN t=true∧(16384:Int)<(sizeT t:Int)∧∀ p q:Prop,(if fewN t=true∧sizeT t≤16384∧depthT t≤64 then p else q)=q)∨
  (fewN t=true∧¬ (16384:Int)<(sizeT t:Int)∧(64:Int)<(depthT t:Int)∧∀ p q:Prop,(if fewN t=true∧sizeT t≤16384∧depthT t≤64 then p else q)=q)∨
  (fewN t=true∧¬ (16384:Int)<(sizeT t:Int)∧¬ (64:Int)<(depthT t:Int)∧∀ p q:Prop,(if fewN t=true∧sizeT t≤16384∧depthT t≤64 then p else q)=p):=by
 cases hf:fewN t
 ·exact .inl ⟨rfl,fun p q=>by simp⟩
 ·refine .inr ?_
  by_cases h1:16384<sizeT t
  ·exact .inl ⟨rfl,by omega,fun p q=>if_neg (by omega)⟩
  ·refine .inr ?_
   by_cases h2:64<depthT t
   ·exact .inl ⟨rfl,by omega,by omega,fun p q=>if_neg (by omega)⟩
   ·exact .inr ⟨rfl,by omega,by omega,fun p q=>if_pos ⟨rfl,by omega,by omega⟩⟩
set_option maxHeartbeats 8000000 in
set_option maxRecDepth 100000 in
theorem whole_a (s:ByteArray)(fw:Nat)(hfw:∀ (args:Array Value) (W:World),(callFunc fw args).run Tryz.prog W = .ok (.enter fw args) W)(w:World)(ts:List Tok)(x:List Tok→R Tr)(hp:tokensP s.data.toList = .ok ts)(HT:∀ w1,(∀ k,k<w.heap.size→w1.heap[k]? = w.heap[k]?)→TokensA s w1)
  (HX:∀ b W,(∀ k,k<w.heap.size→W.heap[k]? = w.heap[k]?)→w.heap.size≤b→Reads b ⟨s.size,W⟩ false fw #[rp b] x) (t:Tr) (hsz:sizeT t≤4611686018427387904)   (hk0:∀ t:Tok,t∈([]:List Tok)→t.kind≠0) (hx:x ts=some (.ok (t,[]))):Calls Tryz.prog 21 #[.string s,.bool false,.func (.func fw) #[] #[]] w fun e w'=>if fewN t=true∧sizeT t≤16384∧depthT t≤64 then ∃ v,e = .returned (.tuple #[v,.int .i64 0,.int .i64 0])∧NodeV (w.heap.size ≤ ·) w' t v∧Below w.heap.size w w' else e = .returned (.tuple #[.agg zero5,.int .i64 0,.int .i64 6])∧Below w.heap.size w w':=by
 have hft:=field_tok
 have hmf:∀ (fn:Fn) (first cap:Array Value) (w:World),(Instr.makeFunc fn first cap).run Tryz.prog w = .ok (.func fn first cap) w:=fun _ _ _ _=>rfl
 have hS:=St.start w
 have HT1:=HT _ hS.below.block
 unfold TokensA at HT1
 rw[hp] at HT1
 dsimp only at HT1
 have hS:=Lib.hid hS
 have HT1:=Lib.hid HT1
 have HX1:=Lib.hid fun (W8:World) (v z a c k0 k) (hS:St w W8 z a c) (hT:TokU k0 k W8 v ts) (hk:k≤W8.heap.size)=>start_c hS hT hk HX hx
 have HZ:=Lib.hid hsz
 have HK:=Lib.hid hk0
 clear HT hp HX hx hsz hk0
 obtain⟨hf,hif⟩|⟨hf,hz1,hif⟩|⟨hf,hz1,hz2,hif⟩|⟨hf,hz1,hz2,hif⟩:=ends t
 all_goals simp only[hif]
 all_goals
  go_enter_defers Tryz.func21,Tryz.ntmps21
  go_wp2_with (first|((with_reducible refine st6 hS rfl rfl _ _ rfl rfl #[v0,v1,v2,v3,v4] ?hx ?hy rfl ?h1 ?_);(case hx=>rfl);(case hy=>rfl);(case h1=>exact hone.out);intro W6 hS6 hP6;have hRd:=Lib.hid (rd_put hS.out hRd.out hb3.out HK.out hP6);have hN:=Lib.hid (hN.out.put (fun k hk=>by have:=hb3.out;omega) hP6);have h7:=hS6.c7;have h8:=hS6.c8;have hS:=Lib.hid hS6;clear hS6 hP6;obtain⟨a1,c1,hc0,hc1,hc2,hf0,hf2,hcl,hcm,-⟩:=hRd.out.open_;rw[show ([]:List Tok).length=0 from rfl] at hc0;have hcl:=Lib.hid hcl;have hcm:=Lib.hid hcm)|((with_reducible refine st6 hS rfl rfl _ _ rfl rfl #[v0,v1,v2,v3,v4] ?hx ?hy rfl ?h1 ?_);(case hx=>rfl);(case hy=>rfl);(case h1=>exact hone.out);intro W6 hS6 hP6;have hN:=Lib.hid (hN.out.put (fun k hk=>by have:=hb3.out;omega) hP6);have h7:=hS6.c7;have h8:=hS6.c8;have hS:=Lib.hid hS6;clear hS6 hP6)|((with_reducible refine st6 hS rfl rfl _ _ rfl rfl zero5 ?hx ?hy rfl ?h1 ?_);(case hx=>rfl);(case hy=>rfl);(case h1=>simp[zero5,Value.oneCell']);intro W6 hS6 hP6;have hN:=Lib.hid (hN.out.put (fun k hk=>by have:=hb3.out;omega) hP6);have h7:=hS6.c7;have h8:=hS6.c8;have hS:=Lib.hid hS6;clear hS6 hP6)|((with_reducible refine st7 hS rfl _ _ rfl rfl (.int .i64 0) ?hx ?hy ?h1 ?_);(case hx=>rfl);(case hy=>rfl);(case h1=>rfl);intro W7' hS7 hP7';have h7:=hS7.c7;have h8:=hS7.c8;have hN:=Lib.hid (hN.out.put (fun k hk=>by have:=hb3.out;omega) hP7');have hS:=Lib.hid hS7;clear hS7 hP7')|((with_reducible refine st8 hS rfl _ _ rfl rfl (.int .i64 6) ?hx ?hy ?h1 ?_);(case hx=>rfl);(case hy=>rfl);(case h1=>rfl);intro W8' hS8 hP8';have h7:=hS8.c7;have h8:=hS8.c8;have hN:=Lib.hid (hN.out.put (fun k hk=>by have:=hb3.out;omega) hP8');have hS:=Lib.hid hS8;clear hS8 hP8')|((with_reducible refine st8 hS rfl _ _ rfl rfl (.int .i64 0) ?hx ?hy ?h1 ?_);(case hx=>rfl);(case hy=>rfl);(case h1=>rfl);intro W8' hS8 hP8';have h7:=hS8.c7;have h8:=hS8.c8;have hN:=Lib.hid (hN.out.put (fun k hk=>by have:=hb3.out;omega) hP8');have hS:=Lib.hid hS8;clear hS8 hP8')|(go_at_call 30;refine HT1.out.mono ?_;rintro e w1 ⟨hB,v,rfl,hTk⟩;obtain⟨n0,a0,c0,rfl⟩:∃ n0 a0 c0,v = .slice a0 n0 c0:=⟨_,_,_,hTk.choose_spec.choose_spec.1⟩;have hTok:=Lib.hid hTk;clear hTk;have hS:=Lib.hid (hS.out.keep (Nat.le_refl _) (KeepR.of_below hB (by simp))))|((with_reducible refine st7 hS rfl _ _ rfl rfl (.int .i64 0) ?hx ?hy ?h1 ?_);(case hx=>rfl);(case hy=>rfl);(case h1=>rfl);intro W7 hS7 hP7;have h7:=hS7.c7;have h8:=hS7.c8;have hS:=Lib.hid hS7;have hP7:=Lib.hid hP7;clear hS7)|((with_reducible refine st8 hS rfl _ _ rfl rfl (.int .i64 0) ?hx ?hy ?h1 ?_);(case hx=>rfl);(case hy=>rfl);(case h1=>rfl);intro W8 hS8 hP8;have h7:=hS8.c7;have h8:=hS8.c8;have hTok:=Lib.hid ((hTok.out.put (by simp) hP7.out).put (by simp) hP8);have hTs:=Lib.hid (show w1.heap.size≤W8.heap.size from Nat.le_of_eq (hP8.1.trans hP7.out.1).symm);have hS:=Lib.hid hS8;clear hS8 hP8)|(refine(HX1.out _ _ _ _ _ _ _ hS.out hTok.out hTs.out).mono ?_;rintro e w2 ⟨hk,vv,rfl,hNv,hRd⟩;obtain⟨v0,v1,v2,v3,v4,rfl,hone⟩:=hNv.cells;have hone:=Lib.hid hone;have hb3:=Lib.hid hS.out.size;have hN:=Lib.hid hNv.deep;have hRd:=Lib.hid hRd;clear hNv;have hS:=Lib.hid (hS.out.keep hS.out.size ((KeepR.new _ _).trans hk));have hRlt:=Lib.hid hk.size;clear hk)|((with_reducible refine wpList_load_row rfl 26 _ rfl _ ?hx 26 #[v0,v1,v2,v3,v4] (0,0) _ hS.out.h6 Tryz.underlying26 ?hd (infoNode _ rfl) ?_);(case hd=>rfl);(case hx=>rfl))|(go_at_call 34;refine(few_c _ t _ _ _ (Nat.le_refl _) HZ.out hN.out).mono ?_;rintro e W5 ⟨rfl,hB5⟩;have hN:=Lib.hid (hN.out.below hB5);have hS:=Lib.hid (hS.out.keep (Nat.le_refl _) (KeepR.of_below hB5 (Nat.le_refl _)));clear hB5;obtain⟨e0,e1,e2,e3,e4,-⟩:=row_facts hS.out.h6;rw[hf])|(go_at_call 35;refine(size_c _ t _ _ _ (Nat.le_refl _) HZ.out hN.out).mono ?_;rintro e W5 ⟨rfl,hB5⟩;have hN:=Lib.hid (hN.out.below hB5);have hS:=Lib.hid (hS.out.keep (Nat.le_refl _) (KeepR.of_below hB5 (Nat.le_refl _)));clear hB5;obtain⟨e0,e1,e2,e3,e4,-⟩:=row_facts hS.out.h6)|(go_at_call 36;refine(depth_c _ t _ _ _ (Nat.le_refl _) HZ.out hN.out).mono ?_;rintro e W5 ⟨rfl,hB5⟩;have hN:=Lib.hid (hN.out.below hB5);have hS:=Lib.hid (hS.out.keep (Nat.le_refl _) (KeepR.of_below hB5 (Nat.le_refl _)));clear hB5;obtain⟨e0,e1,e2,e3,e4,-⟩:=row_facts hS.out.h6))
  all_goals first
   |exact calm_end hS.out rfl rfl rfl rfl ⟨rfl,hS.out.below⟩
   |exact calm_end hS.out rfl rfl rfl rfl ⟨_,rfl,hN.out.frame (fun k hk _=>by have:=hb3.out;omega) (fun _ _ _=>rfl),hS.out.below⟩
set_option maxHeartbeats 8000000 in
set_option maxRecDepth 100000 in
theorem whole_b (s:ByteArray)(fw:Nat)(hfw:∀ (args:Array Value) (W:World),(callFunc fw args).run Tryz.prog W = .ok (.enter fw args) W)(w:World)(ts:List Tok)(x:List Tok→R Tr)(hp:tokensP s.data.toList = .ok ts)(HT:∀ w1,(∀ k,k<w.heap.size→w1.heap[k]? = w.heap[k]?)→TokensA s w1)
  (HX:∀ b W,(∀ k,k<w.heap.size→W.heap[k]? = w.heap[k]?)→w.heap.size≤b→Reads b ⟨s.size,W⟩ false fw #[rp b] x) (t:Tr) (hsz:sizeT t≤4611686018427387904)   (hk0:∀ t:Tok,t∈([]:List Tok)→t.kind≠0) (hx:x ts=some (.ok (t,[]))):Calls Tryz.prog 21 #[.string s,.bool true,.func (.func fw) #[] #[]] w fun e w'=>if fewN t=true∧sizeT t≤16384∧depthT t≤64 then ∃ v,e = .returned (.tuple #[v,.int .i64 0,.int .i64 0])∧NodeV (w.heap.size ≤ ·) w' t v∧Below w.heap.size w w' else e = .returned (.tuple #[.agg zero5,.int .i64 0,.int .i64 6])∧Below w.heap.size w w':=by
 have hft:=field_tok
 have hmf:∀ (fn:Fn) (first cap:Array Value) (w:World),(Instr.makeFunc fn first cap).run Tryz.prog w = .ok (.func fn first cap) w:=fun _ _ _ _=>rfl
 have hS:=St.start w
 have HT1:=HT _ hS.below.block
 unfold TokensA at HT1
 rw[hp] at HT1
 dsimp only at HT1
 have hS:=Lib.hid hS
 have HT1:=Lib.hid HT1
 have HX1:=Lib.hid fun (W8:World) (v z a c k0 k) (hS:St w W8 z a c) (hT:TokU k0 k W8 v ts) (hk:k≤W8.heap.size)=>start_c hS hT hk HX hx
 have HZ:=Lib.hid hsz
 have HK:=Lib.hid hk0
 clear HT hp HX hx hsz hk0
 obtain⟨hf,hif⟩|⟨hf,hz1,hif⟩|⟨hf,hz1,hz2,hif⟩|⟨hf,hz1,hz2,hif⟩:=ends t
 all_goals simp only[hif]
 all_goals
  go_enter_defers Tryz.func21,Tryz.ntmps21
  go_wp2_with (first|((with_reducible refine st6 hS rfl rfl _ _ rfl rfl #[v0,v1,v2,v3,v4] ?hx ?hy rfl ?h1 ?_);(case hx=>rfl);(case hy=>rfl);(case h1=>exact hone.out);intro W6 hS6 hP6;have hRd:=Lib.hid (rd_put hS.out hRd.out hb3.out HK.out hP6);have hN:=Lib.hid (hN.out.put (fun k hk=>by have:=hb3.out;omega) hP6);have h7:=hS6.c7;have h8:=hS6.c8;have hS:=Lib.hid hS6;clear hS6 hP6)|((with_reducible refine st6 hS rfl rfl _ _ rfl rfl #[v0,v1,v2,v3,v4] ?hx ?hy rfl ?h1 ?_);(case hx=>rfl);(case hy=>rfl);(case h1=>exact hone.out);intro W6 hS6 hP6;have hN:=Lib.hid (hN.out.put (fun k hk=>by have:=hb3.out;omega) hP6);have h7:=hS6.c7;have h8:=hS6.c8;have hS:=Lib.hid hS6;clear hS6 hP6)|((with_reducible refine st6 hS rfl rfl _ _ rfl rfl zero5 ?hx ?hy rfl ?h1 ?_);(case hx=>rfl);(case hy=>rfl);(case h1=>simp[zero5,Value.oneCell']);intro W6 hS6 hP6;have hN:=Lib.hid (hN.out.put (fun k hk=>by have:=hb3.out;omega) hP6);have h7:=hS6.c7;have h8:=hS6.c8;have hS:=Lib.hid hS6;clear hS6 hP6)|((with_reducible refine st7 hS rfl _ _ rfl rfl (.int .i64 0) ?hx ?hy ?h1 ?_);(case hx=>rfl);(case hy=>rfl);(case h1=>rfl);intro W7' hS7 hP7';have h7:=hS7.c7;have h8:=hS7.c8;have hN:=Lib.hid (hN.out.put (fun k hk=>by have:=hb3.out;omega) hP7');have hS:=Lib.hid hS7;clear hS7 hP7')|((with_reducible refine st8 hS rfl _ _ rfl rfl (.int .i64 6) ?hx ?hy ?h1 ?_);(case hx=>rfl);(case hy=>rfl);(case h1=>rfl);intro W8' hS8 hP8';have h7:=hS8.c7;have h8:=hS8.c8;have hN:=Lib.hid (hN.out.put (fun k hk=>by have:=hb3.out;omega) hP8');have hS:=Lib.hid hS8;clear hS8 hP8')|((with_reducible refine st8 hS rfl _ _ rfl rfl (.int .i64 0) ?hx ?hy ?h1 ?_);(case hx=>rfl);(case hy=>rfl);(case h1=>rfl);intro W8' hS8 hP8';have h7:=hS8.c7;have h8:=hS8.c8;have hN:=Lib.hid (hN.out.put (fun k hk=>by have:=hb3.out;omega) hP8');have hS:=Lib.hid hS8;clear hS8 hP8')|(go_at_call 30;refine HT1.out.mono ?_;rintro e w1 ⟨hB,v,rfl,hTk⟩;obtain⟨n0,a0,c0,rfl⟩:∃ n0 a0 c0,v = .slice a0 n0 c0:=⟨_,_,_,hTk.choose_spec.choose_spec.1⟩;have hTok:=Lib.hid hTk;clear hTk;have hS:=Lib.hid (hS.out.keep (Nat.le_refl _) (KeepR.of_below hB (by simp))))|((with_reducible refine st7 hS rfl _ _ rfl rfl (.int .i64 0) ?hx ?hy ?h1 ?_);(case hx=>rfl);(case hy=>rfl);(case h1=>rfl);intro W7 hS7 hP7;have h7:=hS7.c7;have h8:=hS7.c8;have hS:=Lib.hid hS7;have hP7:=Lib.hid hP7;clear hS7)|((with_reducible refine st8 hS rfl _ _ rfl rfl (.int .i64 0) ?hx ?hy ?h1 ?_);(case hx=>rfl);(case hy=>rfl);(case h1=>rfl);intro W8 hS8 hP8;have h7:=hS8.c7;have h8:=hS8.c8;have hTok:=Lib.hid ((hTok.out.put (by simp) hP7.out).put (by simp) hP8);have hTs:=Lib.hid (show w1.heap.size≤W8.heap.size from Nat.le_of_eq (hP8.1.trans hP7.out.1).symm);have hS:=Lib.hid hS8;clear hS8 hP8)|(refine(HX1.out _ _ _ _ _ _ _ hS.out hTok.out hTs.out).mono ?_;rintro e w2 ⟨hk,vv,rfl,hNv,hRd⟩;obtain⟨v0,v1,v2,v3,v4,rfl,hone⟩:=hNv.cells;have hone:=Lib.hid hone;have hb3:=Lib.hid hS.out.size;have hN:=Lib.hid hNv.deep;have hRd:=Lib.hid hRd;clear hNv;have hS:=Lib.hid (hS.out.keep hS.out.size ((KeepR.new _ _).trans hk));have hRlt:=Lib.hid hk.size;clear hk)|(go_at_call 32;have HPK:=peek_c _ _ _ _ _ hRd.out;dsimp only [headT,tokA] at HPK;refine HPK.mono ?_;clear HPK;rintro e w3 ⟨rfl,hB3⟩;have hRd:=Lib.hid (hRd.out.keep hB3);have hN:=Lib.hid (hN.out.below hB3);have hS:=Lib.hid (hS.out.keep hb3.out (KeepR.of_below hB3 (Nat.le_refl _)));have h7:=hS.out.c7;have h8:=hS.out.c8;clear hB3;obtain⟨a1,c1,hc0,hc1,hc2,hf0,hf2,hcl,hcm,-⟩:=hRd.out.open_;rw[show ([]:List Tok).length=0 from rfl] at hc0;have hcl:=Lib.hid hcl;have hcm:=Lib.hid hcm)|((with_reducible refine wpList_load_row rfl 26 _ rfl _ ?hx 26 #[v0,v1,v2,v3,v4] (0,0) _ hS.out.h6 Tryz.underlying26 ?hd (infoNode _ rfl) ?_);(case hd=>rfl);(case hx=>rfl))|(go_at_call 34;refine(few_c _ t _ _ _ (Nat.le_refl _) HZ.out hN.out).mono ?_;rintro e W5 ⟨rfl,hB5⟩;have hN:=Lib.hid (hN.out.below hB5);have hS:=Lib.hid (hS.out.keep (Nat.le_refl _) (KeepR.of_below hB5 (Nat.le_refl _)));clear hB5;obtain⟨e0,e1,e2,e3,e4,-⟩:=row_facts hS.out.h6;rw[hf])|(go_at_call 35;refine(size_c _ t _ _ _ (Nat.le_refl _) HZ.out hN.out).mono ?_;rintro e W5 ⟨rfl,hB5⟩;have hN:=Lib.hid (hN.out.below hB5);have hS:=Lib.hid (hS.out.keep (Nat.le_refl _) (KeepR.of_below hB5 (Nat.le_refl _)));clear hB5;obtain⟨e0,e1,e2,e3,e4,-⟩:=row_facts hS.out.h6)|(go_at_call 36;refine(depth_c _ t _ _ _ (Nat.le_refl _) HZ.out hN.out).mono ?_;rintro e W5 ⟨rfl,hB5⟩;have hN:=Lib.hid (hN.out.below hB5);have hS:=Lib.hid (hS.out.keep (Nat.le_refl _) (KeepR.of_below hB5 (Nat.le_refl _)));clear hB5;obtain⟨e0,e1,e2,e3,e4,-⟩:=row_facts hS.out.h6))
  all_goals first
   |exact calm_end hS.out rfl rfl rfl rfl ⟨rfl,hS.out.below⟩
   |exact calm_end hS.out rfl rfl rfl rfl ⟨_,rfl,hN.out.frame (fun k hk _=>by have:=hb3.out;omega) (fun _ _ _=>rfl),hS.out.below⟩
set_option maxHeartbeats 8000000 in
set_option maxRecDepth 100000 in
theorem whole_d (s:ByteArray)(fw:Nat)(hfw:∀ (args:Array Value) (W:World),(callFunc fw args).run Tryz.prog W = .ok (.enter fw args) W)(w:World)(ts:List Tok)(x:List Tok→R Tr)(hp:tokensP s.data.toList = .ok ts)(HT:∀ w1,(∀ k,k<w.heap.size→w1.heap[k]? = w.heap[k]?)→TokensA s w1)
  (HX:∀ b W,(∀ k,k<w.heap.size→W.heap[k]? = w.heap[k]?)→w.heap.size≤b→Reads b ⟨s.size,W⟩ false fw #[rp b] x) (t:Tr) (hsz:sizeT t≤4611686018427387904) (x0:List UInt8) (n9:Int) (p0:Nat)  (hk0:∀ t:Tok,t∈([⟨5,x0,n9,p0⟩]:List Tok)→t.kind≠0) (hx:x ts=some (.ok (t,[⟨5,x0,n9,p0⟩]))):Calls Tryz.prog 21 #[.string s,.bool true,.func (.func fw) #[] #[]] w fun e w'=>if fewN t=true∧sizeT t≤16384∧depthT t≤64 then ∃ v,e = .returned (.tuple #[v,.int .i64 0,.int .i64 0])∧NodeV (w.heap.size ≤ ·) w' t v∧Below w.heap.size w w' else e = .returned (.tuple #[.agg zero5,.int .i64 0,.int .i64 6])∧Below w.heap.size w w':=by
 have hft:=field_tok
 have hmf:∀ (fn:Fn) (first cap:Array Value) (w:World),(Instr.makeFunc fn first cap).run Tryz.prog w = .ok (.func fn first cap) w:=fun _ _ _ _=>rfl
 have hS:=St.start w
 have HT1:=HT _ hS.below.block
 unfold TokensA at HT1
 rw[hp] at HT1
 dsimp only at HT1
 have hS:=Lib.hid hS
 have HT1:=Lib.hid HT1
 have HX1:=Lib.hid fun (W8:World) (v z a c k0 k) (hS:St w W8 z a c) (hT:TokU k0 k W8 v ts) (hk:k≤W8.heap.size)=>start_c hS hT hk HX hx
 have HZ:=Lib.hid hsz
 have HK:=Lib.hid hk0
 clear HT hp HX hx hsz hk0
 obtain⟨hf,hif⟩|⟨hf,hz1,hif⟩|⟨hf,hz1,hz2,hif⟩|⟨hf,hz1,hz2,hif⟩:=ends t
 all_goals simp only[hif]
 all_goals
  go_enter_defers Tryz.func21,Tryz.ntmps21
  go_wp2_with (first|((with_reducible refine st6 hS rfl rfl _ _ rfl rfl #[v0,v1,v2,v3,v4] ?hx ?hy rfl ?h1 ?_);(case hx=>rfl);(case hy=>rfl);(case h1=>exact hone.out);intro W6 hS6 hP6;have hRd:=Lib.hid (rd_put hS.out hRd.out hb3.out HK.out hP6);have hN:=Lib.hid (hN.out.put (fun k hk=>by have:=hb3.out;omega) hP6);have h7:=hS6.c7;have h8:=hS6.c8;have hS:=Lib.hid hS6;clear hS6 hP6)|((with_reducible refine st6 hS rfl rfl _ _ rfl rfl #[v0,v1,v2,v3,v4] ?hx ?hy rfl ?h1 ?_);(case hx=>rfl);(case hy=>rfl);(case h1=>exact hone.out);intro W6 hS6 hP6;have hN:=Lib.hid (hN.out.put (fun k hk=>by have:=hb3.out;omega) hP6);have h7:=hS6.c7;have h8:=hS6.c8;have hS:=Lib.hid hS6;clear hS6 hP6)|((with_reducible refine st6 hS rfl rfl _ _ rfl rfl zero5 ?hx ?hy rfl ?h1 ?_);(case hx=>rfl);(case hy=>rfl);(case h1=>simp[zero5,Value.oneCell']);intro W6 hS6 hP6;have hN:=Lib.hid (hN.out.put (fun k hk=>by have:=hb3.out;omega) hP6);have h7:=hS6.c7;have h8:=hS6.c8;have hS:=Lib.hid hS6;clear hS6 hP6)|((with_reducible refine st7 hS rfl _ _ rfl rfl (.int .i64 0) ?hx ?hy ?h1 ?_);(case hx=>rfl);(case hy=>rfl);(case h1=>rfl);intro W7' hS7 hP7';have h7:=hS7.c7;have h8:=hS7.c8;have hN:=Lib.hid (hN.out.put (fun k hk=>by have:=hb3.out;omega) hP7');have hS:=Lib.hid hS7;clear hS7 hP7')|((with_reducible refine st8 hS rfl _ _ rfl rfl (.int .i64 6) ?hx ?hy ?h1 ?_);(case hx=>rfl);(case hy=>rfl);(case h1=>rfl);intro W8' hS8 hP8';have h7:=hS8.c7;have h8:=hS8.c8;have hN:=Lib.hid (hN.out.put (fun k hk=>by have:=hb3.out;omega) hP8');have hS:=Lib.hid hS8;clear hS8 hP8')|((with_reducible refine st8 hS rfl _ _ rfl rfl (.int .i64 0) ?hx ?hy ?h1 ?_);(case hx=>rfl);(case hy=>rfl);(case h1=>rfl);intro W8' hS8 hP8';have h7:=hS8.c7;have h8:=hS8.c8;have hN:=Lib.hid (hN.out.put (fun k hk=>by have:=hb3.out;omega) hP8');have hS:=Lib.hid hS8;clear hS8 hP8')|(go_at_call 30;refine HT1.out.mono ?_;rintro e w1 ⟨hB,v,rfl,hTk⟩;obtain⟨n0,a0,c0,rfl⟩:∃ n0 a0 c0,v = .slice a0 n0 c0:=⟨_,_,_,hTk.choose_spec.choose_spec.1⟩;have hTok:=Lib.hid hTk;clear hTk;have hS:=Lib.hid (hS.out.keep (Nat.le_refl _) (KeepR.of_below hB (by simp))))|((with_reducible refine st7 hS rfl _ _ rfl rfl (.int .i64 0) ?hx ?hy ?h1 ?_);(case hx=>rfl);(case hy=>rfl);(case h1=>rfl);intro W7 hS7 hP7;have h7:=hS7.c7;have h8:=hS7.c8;have hS:=Lib.hid hS7;have hP7:=Lib.hid hP7;clear hS7)|((with_reducible refine st8 hS rfl _ _ rfl rfl (.int .i64 0) ?hx ?hy ?h1 ?_);(case hx=>rfl);(case hy=>rfl);(case h1=>rfl);intro W8 hS8 hP8;have h7:=hS8.c7;have h8:=hS8.c8;have hTok:=Lib.hid ((hTok.out.put (by simp) hP7.out).put (by simp) hP8);have hTs:=Lib.hid (show w1.heap.size≤W8.heap.size from Nat.le_of_eq (hP8.1.trans hP7.out.1).symm);have hS:=Lib.hid hS8;clear hS8 hP8)|(refine(HX1.out _ _ _ _ _ _ _ hS.out hTok.out hTs.out).mono ?_;rintro e w2 ⟨hk,vv,rfl,hNv,hRd⟩;obtain⟨v0,v1,v2,v3,v4,rfl,hone⟩:=hNv.cells;have hone:=Lib.hid hone;have hb3:=Lib.hid hS.out.size;have hN:=Lib.hid hNv.deep;have hRd:=Lib.hid hRd;clear hNv;have hS:=Lib.hid (hS.out.keep hS.out.size ((KeepR.new _ _).trans hk));have hRlt:=Lib.hid hk.size;clear hk)|(go_at_call 32;have HPK:=peek_c _ _ _ _ _ hRd.out;dsimp only [headT,tokA] at HPK;refine HPK.mono ?_;clear HPK;rintro e w3 ⟨rfl,hB3⟩;have hRd:=Lib.hid (hRd.out.keep hB3);have hN:=Lib.hid (hN.out.below hB3);have hS:=Lib.hid (hS.out.keep hb3.out (KeepR.of_below hB3 (Nat.le_refl _)));have h7:=hS.out.c7;have h8:=hS.out.c8;clear hB3;obtain⟨g,o,n1,c1,hn,hc0,hf0,hnc,hcm,hset⟩:=hRd.out.cons;have hset:=Lib.hid hset;subst hn)|((with_reducible refine wpList_load_row rfl 26 _ rfl _ ?hx 26 #[v0,v1,v2,v3,v4] (0,0) _ hS.out.h6 Tryz.underlying26 ?hd (infoNode _ rfl) ?_);(case hd=>rfl);(case hx=>rfl))|((with_reducible refine wpList_load_row rfl 26 _ rfl _ ?hx 26 #[v0,v1,v2,v3,v4] (0,0) _ (hS.out.setB hb3.out _).h6 Tryz.underlying26 ?hd (infoNode _ rfl) ?_);(case hd=>rfl);(case hx=>rfl))|(go_at_call 34;refine(few_c _ t _ _ _ (Nat.le_refl _) HZ.out hN.out).mono ?_;rintro e W5 ⟨rfl,hB5⟩;have hN:=Lib.hid (hN.out.below hB5);have hS:=Lib.hid (hS.out.keep (Nat.le_refl _) (KeepR.of_below hB5 (Nat.le_refl _)));clear hB5;obtain⟨e0,e1,e2,e3,e4,-⟩:=row_facts hS.out.h6;rw[hf])|(go_at_call 34;refine(few_c _ t _ _ _ (Nat.le_refl _) HZ.out (hN.out.setB _)).mono ?_;rintro e W5 ⟨rfl,hB5⟩;have hN:=Lib.hid ((hN.out.setB _).below hB5);have hS:=Lib.hid ((hS.out.setB hb3.out _).keep (Nat.le_refl _) (KeepR.of_below hB5 (Nat.le_refl _)));clear hB5;obtain⟨e0,e1,e2,e3,e4,-⟩:=row_facts hS.out.h6;rw[hf])|(go_at_call 35;refine(size_c _ t _ _ _ (Nat.le_refl _) HZ.out hN.out).mono ?_;rintro e W5 ⟨rfl,hB5⟩;have hN:=Lib.hid (hN.out.below hB5);have hS:=Lib.hid (hS.out.keep (Nat.le_refl _) (KeepR.of_below hB5 (Nat.le_refl _)));clear hB5;obtain⟨e0,e1,e2,e3,e4,-⟩:=row_facts hS.out.h6)|(go_at_call 36;refine(depth_c _ t _ _ _ (Nat.le_refl _) HZ.out hN.out).mono ?_;rintro e W5 ⟨rfl,hB5⟩;have hN:=Lib.hid (hN.out.below hB5);have hS:=Lib.hid (hS.out.keep (Nat.le_refl _) (KeepR.of_below hB5 (Nat.le_refl _)));clear hB5;obtain⟨e0,e1,e2,e3,e4,-⟩:=row_facts hS.out.h6))
  all_goals first
   |exact calm_end hS.out rfl rfl rfl rfl ⟨rfl,hS.out.below⟩
   |exact calm_end hS.out rfl rfl rfl rfl ⟨_,rfl,hN.out.frame (fun k hk _=>by have:=hb3.out;omega) (fun _ _ _=>rfl),hS.out.below⟩
def restP (one:Bool)(l:List Tok):List Tok:=if one&&kindP l==5 then l.tail else l
def endP (n:Nat)(one:Bool):Except Nat (Tr×List Tok)→Except (Nat×Int) Tr
 | .error p => .error (p,5)
 | .ok (t,l)=>if restP one l=[] then (if fewN t=true∧sizeT t≤16384∧depthT t≤64 then .ok t else .error (0,6)) else .error (atP n (restP one l),5)
def readP (what:Nat→List Tok→R Tr)(one:Bool)(s:List UInt8):Option (Except (Nat×Int) Tr):=match tokensP s with
 | .error pc=>some (.error pc)
 | .ok ts=>(what s.length ts).map (endP s.length one)
def ReadPost (w:World)(r:Except (Nat×Int) Tr)(e:Ending)(w':World):Prop:=match r with
 | .ok t=>∃ v,e = .returned (.tuple #[v,.int .i64 0,.int .i64 0])∧NodeV (w.heap.size ≤ ·) w' t v∧Below w.heap.size w w'
 | .error (p,c)=>e = .returned (.tuple #[.agg zero5,.int .i64 (p:Int),.int .i64 c])∧Below w.heap.size w w'
theorem read_c (s:ByteArray)(one:Bool)(fw:Nat)(what:Nat→List Tok→R Tr)(r:Except (Nat×Int) Tr)(w:World)(hr:readP what one s.data.toList=some r)(hfw:∀ (args:Array Value) (W:World),(callFunc fw args).run Tryz.prog W = .ok (.enter fw args) W)
  (HT:∀ w1,(∀ k,k<w.heap.size→w1.heap[k]? = w.heap[k]?)→TokensA s w1)
  (HX:∀ b W,(∀ k,k<w.heap.size→W.heap[k]? = w.heap[k]?)→w.heap.size≤b→Reads b ⟨s.size,W⟩ false fw #[rp b] (what s.size))
  (HL:∀ ts t l,tokensP s.data.toList = .ok ts→what s.size ts=some (.ok (t,l))→(∀ t:Tok,t∈l→t.kind≠0)∧sizeT t≤4611686018427387904):
  Calls Tryz.prog 21 #[.string s,.bool one,.func (.func fw) #[] #[]] w (ReadPost w r):=by
 have hs:s.data.toList.length=s.size:=by rfl
 unfold readP at hr
 rw[hs] at hr
 cases ht:tokensP s.data.toList with
 |error pc=>
  obtain⟨p,c⟩:=pc
  rw[ht] at hr
  cases hr
  exact read_err s one fw w p c ht HT
 |ok ts=>
  rw[ht] at hr
  dsimp only at hr
  cases hx:what s.size ts with
  |none=>rw[hx] at hr;cases hr
  |some y=>
   rw[hx] at hr
   cases hr
   cases y with
   |error p=>exact read_bad s one fw hfw w ts _ ht HT HX p hx
   |ok y=>
    obtain⟨t,l⟩:=y
    obtain⟨hk,hz⟩:=HL ts t l ht hx
    have fin:∀ (l1:List Tok),restP one l=l1→l1=[]→(Calls Tryz.prog 21 #[.string s,.bool one,.func (.func fw) #[] #[]] w fun e w'=>if fewN t=true∧sizeT t≤16384∧depthT t≤64 then ∃ v,e = .returned (.tuple #[v,.int .i64 0,.int .i64 0])∧NodeV (w.heap.size ≤ ·) w' t v∧Below w.heap.size w w' else e = .returned (.tuple #[.agg zero5,.int .i64 0,.int .i64 6])∧Below w.heap.size w w')→Calls Tryz.prog 21 #[.string s,.bool one,.func (.func fw) #[] #[]] w (ReadPost w (endP s.size one (.ok (t,l)))):=by
     intro l1 h1 h2 h3
     refine h3.mono fun e w' h => ?_
     show ReadPost w (if restP one l=[] then (if fewN t=true∧sizeT t≤16384∧depthT t≤64 then .ok t else .error (0,6)) else .error (atP s.size (restP one l),5)) e w'
     rw[h1,if_pos h2]
     split at h
     ·rename_i hc;rw[if_pos hc];exact h
     ·rename_i hc;rw[if_neg hc];exact h
    have left:∀ (l1:List Tok),restP one l=l1→l1≠[]→(Calls Tryz.prog 21 #[.string s,.bool one,.func (.func fw) #[] #[]] w fun e w'=>e = .returned (.tuple #[.agg zero5,.int .i64 (atP s.size l1:Int),.int .i64 5])∧Below w.heap.size w w')→Calls Tryz.prog 21 #[.string s,.bool one,.func (.func fw) #[] #[]] w (ReadPost w (endP s.size one (.ok (t,l)))):=by
     intro l1 h1 h2 h3
     refine h3.mono fun e w' h => ?_
     show ReadPost w (if restP one l=[] then (if fewN t=true∧sizeT t≤16384∧depthT t≤64 then .ok t else .error (0,6)) else .error (atP s.size (restP one l),5)) e w'
     rw[h1,if_neg h2]
     exact h
    rcases l with _|⟨t0,l2⟩
    ·cases one
     ·exact fin _ rfl rfl (whole_a s fw hfw w ts _ ht HT HX t hz hk hx)
     ·exact fin _ rfl rfl (whole_b s fw hfw w ts _ ht HT HX t hz hk hx)
    ·cases one
     ·exact left (t0 :: l2) rfl (by simp) (left_b s fw hfw w ts _ ht HT HX t hz t0 l2 hk hx)
     ·obtain⟨k0,x0,n9,p0⟩:=t0
      by_cases h5:k0=5
      ·subst h5
       rcases l2 with _|⟨t1,l3⟩
       ·exact fin [] rfl rfl (whole_d s fw hfw w ts _ ht HT HX t hz x0 n9 p0 hk hx)
       ·exact left (t1 :: l3) rfl (by simp) (left_e s fw hfw w ts _ ht HT HX t hz x0 n9 p0 t1 l3 hk hx)
      ·exact left (⟨k0,x0,n9,p0⟩ :: l2) (by simp[restP,kindP,h5]) (by simp) (left_c s fw hfw w ts _ ht HT HX t hz k0 x0 n9 p0 h5 l2 hk hx)
theorem fw_any (args:Array Value)(W:World):(callFunc 22 args).run Tryz.prog W = .ok (.enter 22 args) W:=by kernel_rfl
end Prs
end Go.Proofs.YtcbkeecabcbogaaGreatDoor
namespace Go.Proofs.YtcbkeecabcbogaaGreatDoor
namespace Prs
mutual
def sameT:Tr→Tr→Bool
 | .mk k x n _ l,.mk k' x' n' _ l'=>k==k'&&(x==x'&&(n==n'&&sameLT l l'))
def sameLT:List Tr→List Tr→Bool
 | [],[]=>true
 |t :: l,t' :: l'=>sameT t t'&&sameLT l l'
 |_,_=>false
end
def binOps:List (List UInt8):=[[42],[47],[37],[60,60],[62,62],[38],[38,94],[43],[45],[124],[94],[61,61],[33,61],[60],[60,61],[62],[62,61],[38,38],[124,124]]
def toks5 (p q:List UInt8):List Tok:=[⟨1,[97],0,0⟩,⟨4,p,0,2⟩,⟨1,[98],0,3+p.length⟩,⟨4,q,0,5+p.length⟩,⟨1,[99],0,6+p.length+q.length⟩,⟨5,[],0,7+p.length+q.length⟩]
def nameT (c:UInt8):Tr := .mk 30 [c] 0 0 []
def binT (o:List UInt8)(x y:Tr):Tr := .mk 33 o 0 0 [x,y]
def wantT (p q:List UInt8):Tr:=if bindsP p<bindsP q then binT p (nameT 97) (binT q (nameT 98) (nameT 99)) else binT q (binT p (nameT 97) (nameT 98)) (nameT 99)
def pairT (p q:List UInt8):Bool:=match exprP (7+p.length+q.length) fuelP 1 false (toks5 p q) with
 |some y=>(match endP (7+p.length+q.length) true y with
  | .ok t=>sameT t (wantT p q)
  | .error _=>false)
 |none=>false
theorem all_pairs:(binOps.all fun p=>binOps.all fun q=>pairT p q)=true:=by kernel_rfl
end Prs
end Go.Proofs.YtcbkeecabcbogaaGreatDoor
