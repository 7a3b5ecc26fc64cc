/- Contract of many's closure, once for each function that reads one. (Printed by gen_many2.py.) Contract of many, once for each function that reads one. (Printed by gen_many3.py.) -/
import Derived.Test.YtcbkeecabcbogaaGreatDoorGat
namespace Go.Proofs.YtcbkeecabcbogaaGreatDoor
open Go.RowKit
set_option linter.unusedSimpArgs false
set_option linter.unusedVariables false
namespace Prs
open Ev
structure BoxM (b q q0 q1 q2 q3:Nat)(first:Bool)(shut:List UInt8)(g:FuncId)(w:World):Prop where
 row:w.heap[q]? = some (.cells #[.slice none 0 0] 24 (0,0))
 b0:w.heap[q0]? = some (.cells #[.bool first] 4 (0,0))
 b1:w.heap[q1]? = some (.cells #[rp b] 51 (0,0))
 b2:w.heap[q2]? = some (.cells #[str shut] 9 (0,0))
 b3:w.heap[q3]? = some (.cells #[.func (.func g) #[rp b] #[]] 50 (0,0))
theorem BoxM.keep {b q q0 q1 q2 q3:Nat}{first:Bool}{shut:List UInt8}{g:FuncId}{w w':World}(h:BoxM b q q0 q1 q2 q3 first shut g w)(hk:KeepR b w w')(far:FarM b q q0 q1 q2 q3 w):BoxM b q q0 q1 q2 q3 first shut g w':=by
 have key:∀ k o,k≠b→w.heap[k]? = some o→w'.heap[k]? = some o:=fun k o hk0 h=>(hk.block k (Array.getElem?_eq_some_iff.1 h).1 hk0).trans h
 have:=far.bq
 exact⟨key _ _ (by omega) h.row,key _ _ far.d0.1 h.b0,key _ _ far.d1.1 h.b1,key _ _ far.d2.1 h.b2,key _ _ far.d3.1 h.b3⟩
theorem BoxM.inv {b q q0 q1 q2 q3:Nat}{first:Bool}{shut:List UInt8}{g:FuncId}{w:World}(h:BoxM b q q0 q1 q2 q3 first shut g w){E:Env}{l:List Tok}(hrd:RdB b E w l false):
  LInv (specM b q q0 q1 q2 q3 first shut g) b E false w [] l w ⟨#[.pointer (some ⟨q0,0,none⟩),.pointer (some ⟨q1,0,none⟩),.pointer (some ⟨q2,0,none⟩),.pointer (some ⟨q,0,none⟩),.pointer (some ⟨q3,0,none⟩)]++Array.replicate 19 undef,[]⟩ where
 rd:=hrd
 row:=⟨.slice none 0 0,noF,(0,0),h.row,fun j _=>by simp,fun _=>rfl,⟨none,0,rfl,by simp,by decide,fun k hk=>absurd rfl hk,.inl ⟨rfl,rfl,rfl⟩⟩,fun k o hk=>(by cases hk),rfl,rfl,fun _ _=>rfl⟩
 box:=fun x hx=>memM (P:=fun x=>∃ fr,w.heap[x.blk]? = some (.cells #[x.real] x.ty fr)∧unfr fr 1) hx ⟨(0,0),h.b0,fun j _=>by simp⟩ ⟨(0,0),h.b1,fun j _=>by simp⟩ ⟨(0,0),h.b2,fun j _=>by simp⟩ ⟨(0,0),h.b3,fun j _=>by simp⟩
 keep:=⟨rfl,rfl,rfl,Nat.le_refl _,fun _ _ _ _=>rfl⟩
 rowS:=getD_append_rep _ _ _ _ rfl
 boxS:=fun x hx=>by
  have h0:(#[.pointer (some ⟨q0,0,none⟩),.pointer (some ⟨q1,0,none⟩),.pointer (some ⟨q2,0,none⟩),.pointer (some ⟨q,0,none⟩),.pointer (some ⟨q3,0,none⟩)]++Array.replicate 19 undef:Array Value).getD 0 undef = .pointer (some ⟨q0,0,none⟩):=getD_append_rep _ _ _ _ rfl
  have h1:(#[.pointer (some ⟨q0,0,none⟩),.pointer (some ⟨q1,0,none⟩),.pointer (some ⟨q2,0,none⟩),.pointer (some ⟨q,0,none⟩),.pointer (some ⟨q3,0,none⟩)]++Array.replicate 19 undef:Array Value).getD 1 undef = .pointer (some ⟨q1,0,none⟩):=getD_append_rep _ _ _ _ rfl
  have h2:(#[.pointer (some ⟨q0,0,none⟩),.pointer (some ⟨q1,0,none⟩),.pointer (some ⟨q2,0,none⟩),.pointer (some ⟨q,0,none⟩),.pointer (some ⟨q3,0,none⟩)]++Array.replicate 19 undef:Array Value).getD 2 undef = .pointer (some ⟨q2,0,none⟩):=getD_append_rep _ _ _ _ rfl
  have h4:(#[.pointer (some ⟨q0,0,none⟩),.pointer (some ⟨q1,0,none⟩),.pointer (some ⟨q2,0,none⟩),.pointer (some ⟨q,0,none⟩),.pointer (some ⟨q3,0,none⟩)]++Array.replicate 19 undef:Array Value).getD 4 undef = .pointer (some ⟨q3,0,none⟩):=getD_append_rep _ _ _ _ rfl
  unfold specM at hx
  dsimp only at hx
  simp only[List.mem_cons,List.not_mem_nil,or_false] at hx
  rcases hx with rfl|rfl|rfl|rfl
  ·exact h0
  ·exact h1
  ·exact h2
  ·exact h4
 dirS:=fun x hx=>by cases hx
 n:=by
  show (#[_,_,_,_,_]++Array.replicate 19 undef:Array Value).size=24
  simp
 ds:=rfl
abbrev argsM (q q0 q1 q2 q3:Nat):Array Value := #[.pointer (some ⟨q0,0,none⟩),.pointer (some ⟨q1,0,none⟩),.pointer (some ⟨q2,0,none⟩),.pointer (some ⟨q,0,none⟩),.pointer (some ⟨q3,0,none⟩)]
set_option maxRecDepth 20000 in
theorem many1_c_tparam {b q q0 q1 q2 q3 f:Nat}{E:Env}{w:World}(far:FarM b q q0 q1 q2 q3 w){x:List Tok→R Tr}(hs:Reads b E false 77 #[rp b] x){l:List Tok}{r:Except Nat (List Tr×List Tok)}(hf:f≤4294967296)(hr:manyP E.len wQs true x f l=some r)(hrd:RdB b E w l false)(hB:BoxM b q q0 q1 q2 q3 true wQs 77 w):
  Calls Tryz.prog 98 (argsM q q0 q1 q2 q3) w (Fills (specM b q q0 q1 q2 q3 true wQs 77) b E false r w):=by
 refine calls_of_wp (fn:=Tryz.f98) (c := .seq (seqL (bodyCode 98)) (.block 0 (.loop (inLoop0 (seqR (bodyCode 98)))))) (by kernel_rfl) (by kernel_rfl) ?_
 have X:=fun N=>fixM (first:=true) (shut:=wQs) (g:=77) (N:=N) far
 have hfin:∀ r:Except Nat (List Tr×List Tok),(match r with
   | .ok (ts,l')=>∀ w' a',LInv (specM b q q0 q1 q2 q3 true wQs 77) b E false w ts l' w' a'→(Exit.inBlock 0 (bodyPost Tryz.prog Tryz.f98 (Fills (specM b q q0 q1 q2 q3 true wQs 77) b E false r w))) .ret a' w'
   | .error p=>∀ w' a',KeepQ b q w w'→a'.defers=[]→(Exit.inBlock 0 (bodyPost Tryz.prog Tryz.f98 (Fills (specM b q q0 q1 q2 q3 true wQs 77) b E false r w))) (.panic [{ v:=faultV p,recovered:=false }]) a' w'):=fun r=>by
  cases r with
  |error p=>
   intro w' a' hk hd
   obtain⟨tm,ds⟩:=a'
   obtain rfl:ds=[]:=hd
   exact⟨rfl,rfl,hk⟩
  |ok y=>
   obtain⟨ts,l'⟩:=y
   intro w' a' I'
   obtain⟨tm,ds⟩:=a'
   obtain rfl:ds=[]:=I'.ds
   exact ret_none (show Tryz.f98.results = #[] from rfl) ⟨rfl,_,I'⟩
 have hfin:=hfin r
 refine wp_seq ?_
 have hr:manyLoop E.len wQs x f [] l=some r:=hr
 have D:ToldL (specM b q q0 q1 q2 q3 true wQs 77) b E (mkN E.len false w.heap.size [l] [] [[]] []) false w w [] ⟨[],[],[],[]⟩ []:=
  ⟨rfl,rfl,rfl,rfl,nilC,fun _ hx=>(by cases hx),noApp,noPut,fun _ hx=>(by cases hx),noPos,X _,cuM,fun _ hx=>(by cases hx),fun _ hx=>(by cases hx)⟩
 exact D.round rfl rfl (hB.inv hrd) (fin := .again 0 0) (fun _ _ _=>by kernel_rfl) (fun w' a' I'=>wp_block (wp_of_wp2 (show LoopWp _ _ _ _ _ from many1_loop_tparam far hs (r:=r) hfin f [] l w' a' (by simpa using hf) hr I')))
set_option maxRecDepth 20000 in
theorem many1_c_param {b q q0 q1 q2 q3 f:Nat}{E:Env}{w:World}(far:FarM b q q0 q1 q2 q3 w){x:List Tok→R Tr}(hs:Reads b E false 76 #[rp b] x){l:List Tok}{r:Except Nat (List Tr×List Tok)}(hf:f≤4294967296)(hr:manyP E.len wShut false x f l=some r)(hrd:RdB b E w l false)(hB:BoxM b q q0 q1 q2 q3 false wShut 76 w):
  Calls Tryz.prog 98 (argsM q q0 q1 q2 q3) w (Fills (specM b q q0 q1 q2 q3 false wShut 76) b E false r w):=by
 refine calls_of_wp (fn:=Tryz.f98) (c := .seq (seqL (bodyCode 98)) (.block 0 (.loop (inLoop0 (seqR (bodyCode 98)))))) (by kernel_rfl) (by kernel_rfl) ?_
 have X:=fun N=>fixM (first:=false) (shut:=wShut) (g:=76) (N:=N) far
 have hfin:∀ r:Except Nat (List Tr×List Tok),(match r with
   | .ok (ts,l')=>∀ w' a',LInv (specM b q q0 q1 q2 q3 false wShut 76) b E false w ts l' w' a'→(Exit.inBlock 0 (bodyPost Tryz.prog Tryz.f98 (Fills (specM b q q0 q1 q2 q3 false wShut 76) b E false r w))) .ret a' w'
   | .error p=>∀ w' a',KeepQ b q w w'→a'.defers=[]→(Exit.inBlock 0 (bodyPost Tryz.prog Tryz.f98 (Fills (specM b q q0 q1 q2 q3 false wShut 76) b E false r w))) (.panic [{ v:=faultV p,recovered:=false }]) a' w'):=fun r=>by
  cases r with
  |error p=>
   intro w' a' hk hd
   obtain⟨tm,ds⟩:=a'
   obtain rfl:ds=[]:=hd
   exact⟨rfl,rfl,hk⟩
  |ok y=>
   obtain⟨ts,l'⟩:=y
   intro w' a' I'
   obtain⟨tm,ds⟩:=a'
   obtain rfl:ds=[]:=I'.ds
   exact ret_none (show Tryz.f98.results = #[] from rfl) ⟨rfl,_,I'⟩
 have hfin:=hfin r
 refine wp_seq ?_
 unfold manyP at hr
 cases k1:isP wShut l with
 |true=>
  rw[k1] at hr
  cases hr
  have D:ToldL (specM b q q0 q1 q2 q3 false wShut 76) b E (mkN E.len false w.heap.size [l,l.tail] [] [[]] []) false w w [evTake wShut 0 1 (tk 321)] ⟨[],[],[],[]⟩ []:=
   ⟨rfl,rfl,rfl,rfl,consC (take_s k1 rfl _) nilC,fun _ hx=>(by cases hx),noApp,noPut,fun _ hx=>(by cases hx),noPos,X _,cuM,fun _ hx=>(by cases hx),fun _ hx=>(by cases hx)⟩
  refine D.round rfl rfl (hB.inv hrd) (fin := .ret 1 0) (fun _ _ _=>by kernel_rfl) ?_
  exact hfin
 |false=>
  rw[k1] at hr
  have hr:manyLoop E.len wShut x f [] l=some r:=hr
  have D:ToldL (specM b q q0 q1 q2 q3 false wShut 76) b E (mkN E.len false w.heap.size [l] [] [[]] []) false w w [evMiss wShut 0 (tk 321)] ⟨[],[],[],[]⟩ []:=
   ⟨rfl,rfl,rfl,rfl,consC (miss_s k1 _) nilC,fun _ hx=>(by cases hx),noApp,noPut,fun _ hx=>(by cases hx),noPos,X _,cuM,fun _ hx=>(by cases hx),fun _ hx=>(by cases hx)⟩
  exact D.round rfl rfl (hB.inv hrd) (fin := .again 0 0) (fun _ _ _=>by kernel_rfl) (fun w' a' I'=>wp_block (wp_of_wp2 (show LoopWp _ _ _ _ _ from many1_loop_param far hs (r:=r) hfin f [] l w' a' (by simpa using hf) hr I')))
set_option maxRecDepth 20000 in
theorem many1_c_typ {b q q0 q1 q2 q3 f:Nat}{E:Env}{w:World}(far:FarM b q q0 q1 q2 q3 w){x:List Tok→R Tr}(hs:Reads b E false 48 #[rp b] x){l:List Tok}{r:Except Nat (List Tr×List Tok)}(hf:f≤4294967296)(hr:manyP E.len wShut false x f l=some r)(hrd:RdB b E w l false)(hB:BoxM b q q0 q1 q2 q3 false wShut 48 w):
  Calls Tryz.prog 98 (argsM q q0 q1 q2 q3) w (Fills (specM b q q0 q1 q2 q3 false wShut 48) b E false r w):=by
 refine calls_of_wp (fn:=Tryz.f98) (c := .seq (seqL (bodyCode 98)) (.block 0 (.loop (inLoop0 (seqR (bodyCode 98)))))) (by kernel_rfl) (by kernel_rfl) ?_
 have X:=fun N=>fixM (first:=false) (shut:=wShut) (g:=48) (N:=N) far
 have hfin:∀ r:Except Nat (List Tr×List Tok),(match r with
   | .ok (ts,l')=>∀ w' a',LInv (specM b q q0 q1 q2 q3 false wShut 48) b E false w ts l' w' a'→(Exit.inBlock 0 (bodyPost Tryz.prog Tryz.f98 (Fills (specM b q q0 q1 q2 q3 false wShut 48) b E false r w))) .ret a' w'
   | .error p=>∀ w' a',KeepQ b q w w'→a'.defers=[]→(Exit.inBlock 0 (bodyPost Tryz.prog Tryz.f98 (Fills (specM b q q0 q1 q2 q3 false wShut 48) b E false r w))) (.panic [{ v:=faultV p,recovered:=false }]) a' w'):=fun r=>by
  cases r with
  |error p=>
   intro w' a' hk hd
   obtain⟨tm,ds⟩:=a'
   obtain rfl:ds=[]:=hd
   exact⟨rfl,rfl,hk⟩
  |ok y=>
   obtain⟨ts,l'⟩:=y
   intro w' a' I'
   obtain⟨tm,ds⟩:=a'
   obtain rfl:ds=[]:=I'.ds
   exact ret_none (show Tryz.f98.results = #[] from rfl) ⟨rfl,_,I'⟩
 have hfin:=hfin r
 refine wp_seq ?_
 unfold manyP at hr
 cases k1:isP wShut l with
 |true=>
  rw[k1] at hr
  cases hr
  have D:ToldL (specM b q q0 q1 q2 q3 false wShut 48) b E (mkN E.len false w.heap.size [l,l.tail] [] [[]] []) false w w [evTake wShut 0 1 (tk 321)] ⟨[],[],[],[]⟩ []:=
   ⟨rfl,rfl,rfl,rfl,consC (take_s k1 rfl _) nilC,fun _ hx=>(by cases hx),noApp,noPut,fun _ hx=>(by cases hx),noPos,X _,cuM,fun _ hx=>(by cases hx),fun _ hx=>(by cases hx)⟩
  refine D.round rfl rfl (hB.inv hrd) (fin := .ret 1 0) (fun _ _ _=>by kernel_rfl) ?_
  exact hfin
 |false=>
  rw[k1] at hr
  have hr:manyLoop E.len wShut x f [] l=some r:=hr
  have D:ToldL (specM b q q0 q1 q2 q3 false wShut 48) b E (mkN E.len false w.heap.size [l] [] [[]] []) false w w [evMiss wShut 0 (tk 321)] ⟨[],[],[],[]⟩ []:=
   ⟨rfl,rfl,rfl,rfl,consC (miss_s k1 _) nilC,fun _ hx=>(by cases hx),noApp,noPut,fun _ hx=>(by cases hx),noPos,X _,cuM,fun _ hx=>(by cases hx),fun _ hx=>(by cases hx)⟩
  exact D.round rfl rfl (hB.inv hrd) (fin := .again 0 0) (fun _ _ _=>by kernel_rfl) (fun w' a' I'=>wp_block (wp_of_wp2 (show LoopWp _ _ _ _ _ from many1_loop_typ far hs (r:=r) hfin f [] l w' a' (by simpa using hf) hr I')))
set_option maxRecDepth 20000 in
theorem many1_c_any {b q q0 q1 q2 q3 f:Nat}{E:Env}{w:World}(far:FarM b q q0 q1 q2 q3 w){x:List Tok→R Tr}(hs:Reads b E false 22 #[rp b] x){l:List Tok}{r:Except Nat (List Tr×List Tok)}(hf:f≤4294967296)(hr:manyP E.len wShut false x f l=some r)(hrd:RdB b E w l false)(hB:BoxM b q q0 q1 q2 q3 false wShut 22 w):
  Calls Tryz.prog 98 (argsM q q0 q1 q2 q3) w (Fills (specM b q q0 q1 q2 q3 false wShut 22) b E false r w):=by
 refine calls_of_wp (fn:=Tryz.f98) (c := .seq (seqL (bodyCode 98)) (.block 0 (.loop (inLoop0 (seqR (bodyCode 98)))))) (by kernel_rfl) (by kernel_rfl) ?_
 have X:=fun N=>fixM (first:=false) (shut:=wShut) (g:=22) (N:=N) far
 have hfin:∀ r:Except Nat (List Tr×List Tok),(match r with
   | .ok (ts,l')=>∀ w' a',LInv (specM b q q0 q1 q2 q3 false wShut 22) b E false w ts l' w' a'→(Exit.inBlock 0 (bodyPost Tryz.prog Tryz.f98 (Fills (specM b q q0 q1 q2 q3 false wShut 22) b E false r w))) .ret a' w'
   | .error p=>∀ w' a',KeepQ b q w w'→a'.defers=[]→(Exit.inBlock 0 (bodyPost Tryz.prog Tryz.f98 (Fills (specM b q q0 q1 q2 q3 false wShut 22) b E false r w))) (.panic [{ v:=faultV p,recovered:=false }]) a' w'):=fun r=>by
  cases r with
  |error p=>
   intro w' a' hk hd
   obtain⟨tm,ds⟩:=a'
   obtain rfl:ds=[]:=hd
   exact⟨rfl,rfl,hk⟩
  |ok y=>
   obtain⟨ts,l'⟩:=y
   intro w' a' I'
   obtain⟨tm,ds⟩:=a'
   obtain rfl:ds=[]:=I'.ds
   exact ret_none (show Tryz.f98.results = #[] from rfl) ⟨rfl,_,I'⟩
 have hfin:=hfin r
 refine wp_seq ?_
 unfold manyP at hr
 cases k1:isP wShut l with
 |true=>
  rw[k1] at hr
  cases hr
  have D:ToldL (specM b q q0 q1 q2 q3 false wShut 22) b E (mkN E.len false w.heap.size [l,l.tail] [] [[]] []) false w w [evTake wShut 0 1 (tk 321)] ⟨[],[],[],[]⟩ []:=
   ⟨rfl,rfl,rfl,rfl,consC (take_s k1 rfl _) nilC,fun _ hx=>(by cases hx),noApp,noPut,fun _ hx=>(by cases hx),noPos,X _,cuM,fun _ hx=>(by cases hx),fun _ hx=>(by cases hx)⟩
  refine D.round rfl rfl (hB.inv hrd) (fin := .ret 1 0) (fun _ _ _=>by kernel_rfl) ?_
  exact hfin
 |false=>
  rw[k1] at hr
  have hr:manyLoop E.len wShut x f [] l=some r:=hr
  have D:ToldL (specM b q q0 q1 q2 q3 false wShut 22) b E (mkN E.len false w.heap.size [l] [] [[]] []) false w w [evMiss wShut 0 (tk 321)] ⟨[],[],[],[]⟩ []:=
   ⟨rfl,rfl,rfl,rfl,consC (miss_s k1 _) nilC,fun _ hx=>(by cases hx),noApp,noPut,fun _ hx=>(by cases hx),noPos,X _,cuM,fun _ hx=>(by cases hx),fun _ hx=>(by cases hx)⟩
  exact D.round rfl rfl (hB.inv hrd) (fin := .again 0 0) (fun _ _ _=>by kernel_rfl) (fun w' a' I'=>wp_block (wp_of_wp2 (show LoopWp _ _ _ _ _ from many1_loop_any far hs (r:=r) hfin f [] l w' a' (by simpa using hf) hr I')))
set_option maxRecDepth 20000 in
theorem many1_c_arg {b q q0 q1 q2 q3 f:Nat}{E:Env}{w:World}(far:FarM b q q0 q1 q2 q3 w){x:List Tok→R Tr}(hs:Reads b E false 97 #[rp b] x){l:List Tok}{r:Except Nat (List Tr×List Tok)}(hf:f≤4294967296)(hr:manyP E.len wQs true x f l=some r)(hrd:RdB b E w l false)(hB:BoxM b q q0 q1 q2 q3 true wQs 97 w):
  Calls Tryz.prog 98 (argsM q q0 q1 q2 q3) w (Fills (specM b q q0 q1 q2 q3 true wQs 97) b E false r w):=by
 refine calls_of_wp (fn:=Tryz.f98) (c := .seq (seqL (bodyCode 98)) (.block 0 (.loop (inLoop0 (seqR (bodyCode 98)))))) (by kernel_rfl) (by kernel_rfl) ?_
 have X:=fun N=>fixM (first:=true) (shut:=wQs) (g:=97) (N:=N) far
 have hfin:∀ r:Except Nat (List Tr×List Tok),(match r with
   | .ok (ts,l')=>∀ w' a',LInv (specM b q q0 q1 q2 q3 true wQs 97) b E false w ts l' w' a'→(Exit.inBlock 0 (bodyPost Tryz.prog Tryz.f98 (Fills (specM b q q0 q1 q2 q3 true wQs 97) b E false r w))) .ret a' w'
   | .error p=>∀ w' a',KeepQ b q w w'→a'.defers=[]→(Exit.inBlock 0 (bodyPost Tryz.prog Tryz.f98 (Fills (specM b q q0 q1 q2 q3 true wQs 97) b E false r w))) (.panic [{ v:=faultV p,recovered:=false }]) a' w'):=fun r=>by
  cases r with
  |error p=>
   intro w' a' hk hd
   obtain⟨tm,ds⟩:=a'
   obtain rfl:ds=[]:=hd
   exact⟨rfl,rfl,hk⟩
  |ok y=>
   obtain⟨ts,l'⟩:=y
   intro w' a' I'
   obtain⟨tm,ds⟩:=a'
   obtain rfl:ds=[]:=I'.ds
   exact ret_none (show Tryz.f98.results = #[] from rfl) ⟨rfl,_,I'⟩
 have hfin:=hfin r
 refine wp_seq ?_
 have hr:manyLoop E.len wQs x f [] l=some r:=hr
 have D:ToldL (specM b q q0 q1 q2 q3 true wQs 97) b E (mkN E.len false w.heap.size [l] [] [[]] []) false w w [] ⟨[],[],[],[]⟩ []:=
  ⟨rfl,rfl,rfl,rfl,nilC,fun _ hx=>(by cases hx),noApp,noPut,fun _ hx=>(by cases hx),noPos,X _,cuM,fun _ hx=>(by cases hx),fun _ hx=>(by cases hx)⟩
 exact D.round rfl rfl (hB.inv hrd) (fin := .again 0 0) (fun _ _ _=>by kernel_rfl) (fun w' a' I'=>wp_block (wp_of_wp2 (show LoopWp _ _ _ _ _ from many1_loop_arg far hs (r:=r) hfin f [] l w' a' (by simpa using hf) hr I')))
set_option maxRecDepth 20000 in
theorem many1_c_elem {b q q0 q1 q2 q3 f:Nat}{E:Env}{w:World}(far:FarM b q q0 q1 q2 q3 w){x:List Tok→R Tr}(hs:Reads b E false 22 #[rp b] x){l:List Tok}{r:Except Nat (List Tr×List Tok)}(hf:f≤4294967296)(hr:manyP E.len wUc false x f l=some r)(hrd:RdB b E w l false)(hB:BoxM b q q0 q1 q2 q3 false wUc 22 w):
  Calls Tryz.prog 98 (argsM q q0 q1 q2 q3) w (Fills (specM b q q0 q1 q2 q3 false wUc 22) b E false r w):=by
 refine calls_of_wp (fn:=Tryz.f98) (c := .seq (seqL (bodyCode 98)) (.block 0 (.loop (inLoop0 (seqR (bodyCode 98)))))) (by kernel_rfl) (by kernel_rfl) ?_
 have X:=fun N=>fixM (first:=false) (shut:=wUc) (g:=22) (N:=N) far
 have hfin:∀ r:Except Nat (List Tr×List Tok),(match r with
   | .ok (ts,l')=>∀ w' a',LInv (specM b q q0 q1 q2 q3 false wUc 22) b E false w ts l' w' a'→(Exit.inBlock 0 (bodyPost Tryz.prog Tryz.f98 (Fills (specM b q q0 q1 q2 q3 false wUc 22) b E false r w))) .ret a' w'
   | .error p=>∀ w' a',KeepQ b q w w'→a'.defers=[]→(Exit.inBlock 0 (bodyPost Tryz.prog Tryz.f98 (Fills (specM b q q0 q1 q2 q3 false wUc 22) b E false r w))) (.panic [{ v:=faultV p,recovered:=false }]) a' w'):=fun r=>by
  cases r with
  |error p=>
   intro w' a' hk hd
   obtain⟨tm,ds⟩:=a'
   obtain rfl:ds=[]:=hd
   exact⟨rfl,rfl,hk⟩
  |ok y=>
   obtain⟨ts,l'⟩:=y
   intro w' a' I'
   obtain⟨tm,ds⟩:=a'
   obtain rfl:ds=[]:=I'.ds
   exact ret_none (show Tryz.f98.results = #[] from rfl) ⟨rfl,_,I'⟩
 have hfin:=hfin r
 refine wp_seq ?_
 unfold manyP at hr
 cases k1:isP wUc l with
 |true=>
  rw[k1] at hr
  cases hr
  have D:ToldL (specM b q q0 q1 q2 q3 false wUc 22) b E (mkN E.len false w.heap.size [l,l.tail] [] [[]] []) false w w [evTake wUc 0 1 (tk 321)] ⟨[],[],[],[]⟩ []:=
   ⟨rfl,rfl,rfl,rfl,consC (take_s k1 rfl _) nilC,fun _ hx=>(by cases hx),noApp,noPut,fun _ hx=>(by cases hx),noPos,X _,cuM,fun _ hx=>(by cases hx),fun _ hx=>(by cases hx)⟩
  refine D.round rfl rfl (hB.inv hrd) (fin := .ret 1 0) (fun _ _ _=>by kernel_rfl) ?_
  exact hfin
 |false=>
  rw[k1] at hr
  have hr:manyLoop E.len wUc x f [] l=some r:=hr
  have D:ToldL (specM b q q0 q1 q2 q3 false wUc 22) b E (mkN E.len false w.heap.size [l] [] [[]] []) false w w [evMiss wUc 0 (tk 321)] ⟨[],[],[],[]⟩ []:=
   ⟨rfl,rfl,rfl,rfl,consC (miss_s k1 _) nilC,fun _ hx=>(by cases hx),noApp,noPut,fun _ hx=>(by cases hx),noPos,X _,cuM,fun _ hx=>(by cases hx),fun _ hx=>(by cases hx)⟩
  exact D.round rfl rfl (hB.inv hrd) (fin := .again 0 0) (fun _ _ _=>by kernel_rfl) (fun w' a' I'=>wp_block (wp_of_wp2 (show LoopWp _ _ _ _ _ from many1_loop_elem far hs (r:=r) hfin f [] l w' a' (by simpa using hf) hr I')))
theorem ListG.toW {B B':Nat}{F:Nat→Option Obj}{v:Value}{ts:List Tr}{W:World}(hG:ListG (B ≤ ·) ⟨0,0,0,0,v,F⟩ ts)(hF:∀ k o,F k=some o→W.heap[k]? = some o)(hB:B'≤B):ListW B' W v ts:=by
 obtain⟨a,c,rfl,h2,h3,h4,h5⟩:=hG
 refine⟨a,c,rfl,h2,h3,?_⟩
 rcases h5 with h|⟨g,o,bs,h6,h7,h8,h9⟩
 ·exact .inl h
 ·refine .inr ⟨g,o,bs,h6,Nat.le_trans hB (h4 g (by rw[h7];simp)),hF _ _ h7,h8,NodeR.weak (fun k hk=>⟨Nat.le_trans hB (h4 k hk.1),hk.2⟩) (h9 W hF)⟩
abbrev mw (b:Nat)(shut:List UInt8)(first:Bool)(g:FuncId)(w:World):World:=((((w.alloc (.cells #[rp b] 51)).alloc (.cells #[str shut] 9)).alloc (.cells #[.bool first] 4)).alloc (.cells #[.func (.func g) #[rp b] #[]] 50)).alloc (.cells #[.slice none 0 0] 24)
theorem mw_size {b:Nat}{shut:List UInt8}{first:Bool}{g:FuncId}{w:World}:(mw b shut first g w).heap.size=w.heap.size+5:=by simp[mw]
theorem mw_far {b:Nat}{shut:List UInt8}{first:Bool}{g:FuncId}{w:World}(hb:b<w.heap.size):FarM b (w.heap.size+4) (w.heap.size+2) w.heap.size (w.heap.size+1) (w.heap.size+3) (mw b shut first g w) where
 bq:=by omega
 bw:=by rw[mw_size];omega
 d0:=by omega
 d1:=by omega
 d2:=by omega
 d3:=by omega
 e:=by omega
theorem mw_box {b:Nat}{shut:List UInt8}{first:Bool}{g:FuncId}{w:World}:BoxM b (w.heap.size+4) (w.heap.size+2) w.heap.size (w.heap.size+1) (w.heap.size+3) first shut g (mw b shut first g w):=by
 have sz:∀ (w:World) (o:Obj),(w.alloc o).heap.size=w.heap.size+1:=World.size_alloc
 have e1:=new_block w (.cells #[rp b] 51)
 have e2:=new_block (w.alloc (.cells #[rp b] 51)) (.cells #[str shut] 9)
 rw[sz] at e2
 have e3:=new_block ((w.alloc (.cells #[rp b] 51)).alloc (.cells #[str shut] 9)) (.cells #[.bool first] 4)
 rw[sz,sz] at e3
 have e4:=new_block (((w.alloc (.cells #[rp b] 51)).alloc (.cells #[str shut] 9)).alloc (.cells #[.bool first] 4)) (.cells #[.func (.func g) #[rp b] #[]] 50)
 rw[sz,sz,sz] at e4
 have e5:=new_block ((((w.alloc (.cells #[rp b] 51)).alloc (.cells #[str shut] 9)).alloc (.cells #[.bool first] 4)).alloc (.cells #[.func (.func g) #[rp b] #[]] 50)) (.cells #[.slice none 0 0] 24)
 rw[sz,sz,sz,sz] at e5
 exact⟨e5,new_row2 (new_row2 e3 _) _,new_row2 (new_row2 (new_row2 (new_row2 e1 _) _) _) _,new_row2 (new_row2 (new_row2 e2 _) _) _,new_row2 e4 _⟩
theorem far1 {b q q0 q1 q2 q3:Nat}{w w':World}(h:KeepR b w w')(f:FarM b q q0 q1 q2 q3 w):FarM b q q0 q1 q2 q3 w':=⟨f.bq,Nat.lt_of_lt_of_le f.bw h.size,f.d0,f.d1,f.d2,f.d3,f.e⟩
theorem box_fact2 {W:World}{q:Nat}{v:Value}{t:TypeId}{fr:Nat×Nat}(h:W.heap[q]? = some (.cells #[v] t fr))(hfr:unfr fr 1):W.cell? ⟨q,0,none⟩=some v∧True:=by
 have:=hfr 0 (by decide)
 unfold World.cell?
 refine⟨?_,trivial⟩
 dsimp only
 rw[h]
 rfl
theorem mw_rd {b:Nat}{shut:List UInt8}{first:Bool}{g:FuncId}{w:World}{E:Env}{l:List Tok}{hd:Bool}(h:RdB b E w l hd):RdB b E (mw b shut first g w) l hd:=((((h.new _).new _).new _).new _).new _
theorem mw_keep {b:Nat}{shut:List UInt8}{first:Bool}{g:FuncId}{w:World}:KeepR b w (mw b shut first g w):=((((KeepR.new _ _).trans (KeepR.new _ _)).trans (KeepR.new _ _)).trans (KeepR.new _ _)).trans (KeepR.new _ _)
set_option maxRecDepth 20000 in
theorem many_tparam {b f:Nat}{E:Env}{hd:Bool}{x:List Tok→R Tr}(hs:Reads b E false 77 #[rp b] x)(hf:f≤4294967296):ReadsL b E hd 71 #[rp b,str wQs,.bool true,.func (.func 77) #[rp b] #[]] (manyP E.len wQs true x f):=by
 intro l w r h hr
 have hb:=h.lt
 have HR:=Lib.hid h
 have HS:=Lib.hid hs
 have HY:=Lib.hid hr
 have HF:=Lib.hid hf
 clear h hs hr hf
 cases r with
 |error pl=>
  go_enter Tryz.func71, Tryz.ntmps71
  go_wp2_with (go_at_call 69;refine(within_many b E l hd (mw b wQs true 77 w) (mw_rd HR.out) (w.heap.size+4) _ (Left (specM b (w.heap.size+4) (w.heap.size+2) w.heap.size (w.heap.size+1) (w.heap.size+3) true wQs 77) b E (mw b wQs true 77 w) (Except.error pl:Except Nat (List Tr×List Tok))) (fun p=>(Except.error pl:Except Nat (List Tr×List Tok)) = .error p) (fun w1 g1 g2=>(many1_c_tparam (r:=(Except.error pl:Except Nat (List Tr×List Tok))) (far1 g2 (mw_far hb)) HS.out HF.out HY.out g1 (mw_box.keep g2 (mw_far hb))).mono (fill_left g2.size))).mono ?_;rintro e w5 ⟨hk5,hq5⟩;rcases hq5 with ⟨-,l2,w4,-,⟨ts,h,-⟩,-⟩|⟨p,rfl,h⟩;cases h;cases h)
  exact⟨rfl,KeepQ.toR mw_keep hk5 (by omega),rfl⟩
 |ok y=>
  obtain⟨ts,l2⟩:=y
  go_enter Tryz.func71, Tryz.ntmps71
  go_wp2_with (go_at_call 69;refine(within_many b E l hd (mw b wQs true 77 w) (mw_rd HR.out) (w.heap.size+4) _ (Left (specM b (w.heap.size+4) (w.heap.size+2) w.heap.size (w.heap.size+1) (w.heap.size+3) true wQs 77) b E (mw b wQs true 77 w) (Except.ok (ts,l2):Except Nat (List Tr×List Tok))) (fun p=>(Except.ok (ts,l2):Except Nat (List Tr×List Tok)) = .error p) (fun w1 g1 g2=>(many1_c_tparam (r:=(Except.ok (ts,l2):Except Nat (List Tr×List Tok))) (far1 g2 (mw_far hb)) HS.out HF.out HY.out g1 (mw_box.keep g2 (mw_far hb))).mono (fill_left g2.size))).mono ?_;rintro e w5 ⟨hk5,hq5⟩;rcases hq5 with hq5|⟨p,-,h⟩;rotate_left;(cases h);obtain⟨rfl,l3,w4,hr5,⟨ts2,h,wm,am,hsz,I⟩,hk4⟩:=hq5;cases h;obtain⟨v,F,fr,hrow4,hfr,-,hG,hF4,f1,f2,f3⟩:=I.row;have hrow5:w5.heap[w.heap.size+4]? = some (.cells #[v] 24 fr):=hk4.row (by omega) hrow4;obtain⟨hvx,-⟩:=box_fact2 hrow5 hfr)
  (try simp only [Exit.inBlock, Exit.then]); refine bodyPost_ret (by (simp [results, Tryz.results71, go_sem, hvx]; try rfl)) rfl ?_
  exact⟨KeepQ.toR mw_keep hk5 (by omega),v,rfl,hG.toW (fun k o hk=>(hk4.block k (Array.getElem?_eq_some_iff.1 (hF4 k o hk)).1 (fun e=>by rw[e,f1] at hk;cases hk)).trans (hF4 k o hk)) (by rw[mw_size] at hsz;omega),hr5⟩
set_option maxRecDepth 20000 in
theorem many_param {b f:Nat}{E:Env}{hd:Bool}{x:List Tok→R Tr}(hs:Reads b E false 76 #[rp b] x)(hf:f≤4294967296):ReadsL b E hd 71 #[rp b,str wShut,.bool false,.func (.func 76) #[rp b] #[]] (manyP E.len wShut false x f):=by
 intro l w r h hr
 have hb:=h.lt
 have HR:=Lib.hid h
 have HS:=Lib.hid hs
 have HY:=Lib.hid hr
 have HF:=Lib.hid hf
 clear h hs hr hf
 cases r with
 |error pl=>
  go_enter Tryz.func71, Tryz.ntmps71
  go_wp2_with (go_at_call 69;refine(within_many b E l hd (mw b wShut false 76 w) (mw_rd HR.out) (w.heap.size+4) _ (Left (specM b (w.heap.size+4) (w.heap.size+2) w.heap.size (w.heap.size+1) (w.heap.size+3) false wShut 76) b E (mw b wShut false 76 w) (Except.error pl:Except Nat (List Tr×List Tok))) (fun p=>(Except.error pl:Except Nat (List Tr×List Tok)) = .error p) (fun w1 g1 g2=>(many1_c_param (r:=(Except.error pl:Except Nat (List Tr×List Tok))) (far1 g2 (mw_far hb)) HS.out HF.out HY.out g1 (mw_box.keep g2 (mw_far hb))).mono (fill_left g2.size))).mono ?_;rintro e w5 ⟨hk5,hq5⟩;rcases hq5 with ⟨-,l2,w4,-,⟨ts,h,-⟩,-⟩|⟨p,rfl,h⟩;cases h;cases h)
  exact⟨rfl,KeepQ.toR mw_keep hk5 (by omega),rfl⟩
 |ok y=>
  obtain⟨ts,l2⟩:=y
  go_enter Tryz.func71, Tryz.ntmps71
  go_wp2_with (go_at_call 69;refine(within_many b E l hd (mw b wShut false 76 w) (mw_rd HR.out) (w.heap.size+4) _ (Left (specM b (w.heap.size+4) (w.heap.size+2) w.heap.size (w.heap.size+1) (w.heap.size+3) false wShut 76) b E (mw b wShut false 76 w) (Except.ok (ts,l2):Except Nat (List Tr×List Tok))) (fun p=>(Except.ok (ts,l2):Except Nat (List Tr×List Tok)) = .error p) (fun w1 g1 g2=>(many1_c_param (r:=(Except.ok (ts,l2):Except Nat (List Tr×List Tok))) (far1 g2 (mw_far hb)) HS.out HF.out HY.out g1 (mw_box.keep g2 (mw_far hb))).mono (fill_left g2.size))).mono ?_;rintro e w5 ⟨hk5,hq5⟩;rcases hq5 with hq5|⟨p,-,h⟩;rotate_left;(cases h);obtain⟨rfl,l3,w4,hr5,⟨ts2,h,wm,am,hsz,I⟩,hk4⟩:=hq5;cases h;obtain⟨v,F,fr,hrow4,hfr,-,hG,hF4,f1,f2,f3⟩:=I.row;have hrow5:w5.heap[w.heap.size+4]? = some (.cells #[v] 24 fr):=hk4.row (by omega) hrow4;obtain⟨hvx,-⟩:=box_fact2 hrow5 hfr)
  (try simp only [Exit.inBlock, Exit.then]); refine bodyPost_ret (by (simp [results, Tryz.results71, go_sem, hvx]; try rfl)) rfl ?_
  exact⟨KeepQ.toR mw_keep hk5 (by omega),v,rfl,hG.toW (fun k o hk=>(hk4.block k (Array.getElem?_eq_some_iff.1 (hF4 k o hk)).1 (fun e=>by rw[e,f1] at hk;cases hk)).trans (hF4 k o hk)) (by rw[mw_size] at hsz;omega),hr5⟩
set_option maxRecDepth 20000 in
theorem many_typ {b f:Nat}{E:Env}{hd:Bool}{x:List Tok→R Tr}(hs:Reads b E false 48 #[rp b] x)(hf:f≤4294967296):ReadsL b E hd 71 #[rp b,str wShut,.bool false,.func (.func 48) #[rp b] #[]] (manyP E.len wShut false x f):=by
 intro l w r h hr
 have hb:=h.lt
 have HR:=Lib.hid h
 have HS:=Lib.hid hs
 have HY:=Lib.hid hr
 have HF:=Lib.hid hf
 clear h hs hr hf
 cases r with
 |error pl=>
  go_enter Tryz.func71, Tryz.ntmps71
  go_wp2_with (go_at_call 69;refine(within_many b E l hd (mw b wShut false 48 w) (mw_rd HR.out) (w.heap.size+4) _ (Left (specM b (w.heap.size+4) (w.heap.size+2) w.heap.size (w.heap.size+1) (w.heap.size+3) false wShut 48) b E (mw b wShut false 48 w) (Except.error pl:Except Nat (List Tr×List Tok))) (fun p=>(Except.error pl:Except Nat (List Tr×List Tok)) = .error p) (fun w1 g1 g2=>(many1_c_typ (r:=(Except.error pl:Except Nat (List Tr×List Tok))) (far1 g2 (mw_far hb)) HS.out HF.out HY.out g1 (mw_box.keep g2 (mw_far hb))).mono (fill_left g2.size))).mono ?_;rintro e w5 ⟨hk5,hq5⟩;rcases hq5 with ⟨-,l2,w4,-,⟨ts,h,-⟩,-⟩|⟨p,rfl,h⟩;cases h;cases h)
  exact⟨rfl,KeepQ.toR mw_keep hk5 (by omega),rfl⟩
 |ok y=>
  obtain⟨ts,l2⟩:=y
  go_enter Tryz.func71, Tryz.ntmps71
  go_wp2_with (go_at_call 69;refine(within_many b E l hd (mw b wShut false 48 w) (mw_rd HR.out) (w.heap.size+4) _ (Left (specM b (w.heap.size+4) (w.heap.size+2) w.heap.size (w.heap.size+1) (w.heap.size+3) false wShut 48) b E (mw b wShut false 48 w) (Except.ok (ts,l2):Except Nat (List Tr×List Tok))) (fun p=>(Except.ok (ts,l2):Except Nat (List Tr×List Tok)) = .error p) (fun w1 g1 g2=>(many1_c_typ (r:=(Except.ok (ts,l2):Except Nat (List Tr×List Tok))) (far1 g2 (mw_far hb)) HS.out HF.out HY.out g1 (mw_box.keep g2 (mw_far hb))).mono (fill_left g2.size))).mono ?_;rintro e w5 ⟨hk5,hq5⟩;rcases hq5 with hq5|⟨p,-,h⟩;rotate_left;(cases h);obtain⟨rfl,l3,w4,hr5,⟨ts2,h,wm,am,hsz,I⟩,hk4⟩:=hq5;cases h;obtain⟨v,F,fr,hrow4,hfr,-,hG,hF4,f1,f2,f3⟩:=I.row;have hrow5:w5.heap[w.heap.size+4]? = some (.cells #[v] 24 fr):=hk4.row (by omega) hrow4;obtain⟨hvx,-⟩:=box_fact2 hrow5 hfr)
  (try simp only [Exit.inBlock, Exit.then]); refine bodyPost_ret (by (simp [results, Tryz.results71, go_sem, hvx]; try rfl)) rfl ?_
  exact⟨KeepQ.toR mw_keep hk5 (by omega),v,rfl,hG.toW (fun k o hk=>(hk4.block k (Array.getElem?_eq_some_iff.1 (hF4 k o hk)).1 (fun e=>by rw[e,f1] at hk;cases hk)).trans (hF4 k o hk)) (by rw[mw_size] at hsz;omega),hr5⟩
set_option maxRecDepth 20000 in
theorem many_any {b f:Nat}{E:Env}{hd:Bool}{x:List Tok→R Tr}(hs:Reads b E false 22 #[rp b] x)(hf:f≤4294967296):ReadsL b E hd 71 #[rp b,str wShut,.bool false,.func (.func 22) #[rp b] #[]] (manyP E.len wShut false x f):=by
 intro l w r h hr
 have hb:=h.lt
 have HR:=Lib.hid h
 have HS:=Lib.hid hs
 have HY:=Lib.hid hr
 have HF:=Lib.hid hf
 clear h hs hr hf
 cases r with
 |error pl=>
  go_enter Tryz.func71, Tryz.ntmps71
  go_wp2_with (go_at_call 69;refine(within_many b E l hd (mw b wShut false 22 w) (mw_rd HR.out) (w.heap.size+4) _ (Left (specM b (w.heap.size+4) (w.heap.size+2) w.heap.size (w.heap.size+1) (w.heap.size+3) false wShut 22) b E (mw b wShut false 22 w) (Except.error pl:Except Nat (List Tr×List Tok))) (fun p=>(Except.error pl:Except Nat (List Tr×List Tok)) = .error p) (fun w1 g1 g2=>(many1_c_any (r:=(Except.error pl:Except Nat (List Tr×List Tok))) (far1 g2 (mw_far hb)) HS.out HF.out HY.out g1 (mw_box.keep g2 (mw_far hb))).mono (fill_left g2.size))).mono ?_;rintro e w5 ⟨hk5,hq5⟩;rcases hq5 with ⟨-,l2,w4,-,⟨ts,h,-⟩,-⟩|⟨p,rfl,h⟩;cases h;cases h)
  exact⟨rfl,KeepQ.toR mw_keep hk5 (by omega),rfl⟩
 |ok y=>
  obtain⟨ts,l2⟩:=y
  go_enter Tryz.func71, Tryz.ntmps71
  go_wp2_with (go_at_call 69;refine(within_many b E l hd (mw b wShut false 22 w) (mw_rd HR.out) (w.heap.size+4) _ (Left (specM b (w.heap.size+4) (w.heap.size+2) w.heap.size (w.heap.size+1) (w.heap.size+3) false wShut 22) b E (mw b wShut false 22 w) (Except.ok (ts,l2):Except Nat (List Tr×List Tok))) (fun p=>(Except.ok (ts,l2):Except Nat (List Tr×List Tok)) = .error p) (fun w1 g1 g2=>(many1_c_any (r:=(Except.ok (ts,l2):Except Nat (List Tr×List Tok))) (far1 g2 (mw_far hb)) HS.out HF.out HY.out g1 (mw_box.keep g2 (mw_far hb))).mono (fill_left g2.size))).mono ?_;rintro e w5 ⟨hk5,hq5⟩;rcases hq5 with hq5|⟨p,-,h⟩;rotate_left;(cases h);obtain⟨rfl,l3,w4,hr5,⟨ts2,h,wm,am,hsz,I⟩,hk4⟩:=hq5;cases h;obtain⟨v,F,fr,hrow4,hfr,-,hG,hF4,f1,f2,f3⟩:=I.row;have hrow5:w5.heap[w.heap.size+4]? = some (.cells #[v] 24 fr):=hk4.row (by omega) hrow4;obtain⟨hvx,-⟩:=box_fact2 hrow5 hfr)
  (try simp only [Exit.inBlock, Exit.then]); refine bodyPost_ret (by (simp [results, Tryz.results71, go_sem, hvx]; try rfl)) rfl ?_
  exact⟨KeepQ.toR mw_keep hk5 (by omega),v,rfl,hG.toW (fun k o hk=>(hk4.block k (Array.getElem?_eq_some_iff.1 (hF4 k o hk)).1 (fun e=>by rw[e,f1] at hk;cases hk)).trans (hF4 k o hk)) (by rw[mw_size] at hsz;omega),hr5⟩
set_option maxRecDepth 20000 in
theorem many_arg {b f:Nat}{E:Env}{hd:Bool}{x:List Tok→R Tr}(hs:Reads b E false 97 #[rp b] x)(hf:f≤4294967296):ReadsL b E hd 71 #[rp b,str wQs,.bool true,.func (.func 97) #[rp b] #[]] (manyP E.len wQs true x f):=by
 intro l w r h hr
 have hb:=h.lt
 have HR:=Lib.hid h
 have HS:=Lib.hid hs
 have HY:=Lib.hid hr
 have HF:=Lib.hid hf
 clear h hs hr hf
 cases r with
 |error pl=>
  go_enter Tryz.func71, Tryz.ntmps71
  go_wp2_with (go_at_call 69;refine(within_many b E l hd (mw b wQs true 97 w) (mw_rd HR.out) (w.heap.size+4) _ (Left (specM b (w.heap.size+4) (w.heap.size+2) w.heap.size (w.heap.size+1) (w.heap.size+3) true wQs 97) b E (mw b wQs true 97 w) (Except.error pl:Except Nat (List Tr×List Tok))) (fun p=>(Except.error pl:Except Nat (List Tr×List Tok)) = .error p) (fun w1 g1 g2=>(many1_c_arg (r:=(Except.error pl:Except Nat (List Tr×List Tok))) (far1 g2 (mw_far hb)) HS.out HF.out HY.out g1 (mw_box.keep g2 (mw_far hb))).mono (fill_left g2.size))).mono ?_;rintro e w5 ⟨hk5,hq5⟩;rcases hq5 with ⟨-,l2,w4,-,⟨ts,h,-⟩,-⟩|⟨p,rfl,h⟩;cases h;cases h)
  exact⟨rfl,KeepQ.toR mw_keep hk5 (by omega),rfl⟩
 |ok y=>
  obtain⟨ts,l2⟩:=y
  go_enter Tryz.func71, Tryz.ntmps71
  go_wp2_with (go_at_call 69;refine(within_many b E l hd (mw b wQs true 97 w) (mw_rd HR.out) (w.heap.size+4) _ (Left (specM b (w.heap.size+4) (w.heap.size+2) w.heap.size (w.heap.size+1) (w.heap.size+3) true wQs 97) b E (mw b wQs true 97 w) (Except.ok (ts,l2):Except Nat (List Tr×List Tok))) (fun p=>(Except.ok (ts,l2):Except Nat (List Tr×List Tok)) = .error p) (fun w1 g1 g2=>(many1_c_arg (r:=(Except.ok (ts,l2):Except Nat (List Tr×List Tok))) (far1 g2 (mw_far hb)) HS.out HF.out HY.out g1 (mw_box.keep g2 (mw_far hb))).mono (fill_left g2.size))).mono ?_;rintro e w5 ⟨hk5,hq5⟩;rcases hq5 with hq5|⟨p,-,h⟩;rotate_left;(cases h);obtain⟨rfl,l3,w4,hr5,⟨ts2,h,wm,am,hsz,I⟩,hk4⟩:=hq5;cases h;obtain⟨v,F,fr,hrow4,hfr,-,hG,hF4,f1,f2,f3⟩:=I.row;have hrow5:w5.heap[w.heap.size+4]? = some (.cells #[v] 24 fr):=hk4.row (by omega) hrow4;obtain⟨hvx,-⟩:=box_fact2 hrow5 hfr)
  (try simp only [Exit.inBlock, Exit.then]); refine bodyPost_ret (by (simp [results, Tryz.results71, go_sem, hvx]; try rfl)) rfl ?_
  exact⟨KeepQ.toR mw_keep hk5 (by omega),v,rfl,hG.toW (fun k o hk=>(hk4.block k (Array.getElem?_eq_some_iff.1 (hF4 k o hk)).1 (fun e=>by rw[e,f1] at hk;cases hk)).trans (hF4 k o hk)) (by rw[mw_size] at hsz;omega),hr5⟩
set_option maxRecDepth 20000 in
theorem many_elem {b f:Nat}{E:Env}{hd:Bool}{x:List Tok→R Tr}(hs:Reads b E false 22 #[rp b] x)(hf:f≤4294967296):ReadsL b E hd 71 #[rp b,str wUc,.bool false,.func (.func 22) #[rp b] #[]] (manyP E.len wUc false x f):=by
 intro l w r h hr
 have hb:=h.lt
 have HR:=Lib.hid h
 have HS:=Lib.hid hs
 have HY:=Lib.hid hr
 have HF:=Lib.hid hf
 clear h hs hr hf
 cases r with
 |error pl=>
  go_enter Tryz.func71, Tryz.ntmps71
  go_wp2_with (go_at_call 69;refine(within_many b E l hd (mw b wUc false 22 w) (mw_rd HR.out) (w.heap.size+4) _ (Left (specM b (w.heap.size+4) (w.heap.size+2) w.heap.size (w.heap.size+1) (w.heap.size+3) false wUc 22) b E (mw b wUc false 22 w) (Except.error pl:Except Nat (List Tr×List Tok))) (fun p=>(Except.error pl:Except Nat (List Tr×List Tok)) = .error p) (fun w1 g1 g2=>(many1_c_elem (r:=(Except.error pl:Except Nat (List Tr×List Tok))) (far1 g2 (mw_far hb)) HS.out HF.out HY.out g1 (mw_box.keep g2 (mw_far hb))).mono (fill_left g2.size))).mono ?_;rintro e w5 ⟨hk5,hq5⟩;rcases hq5 with ⟨-,l2,w4,-,⟨ts,h,-⟩,-⟩|⟨p,rfl,h⟩;cases h;cases h)
  exact⟨rfl,KeepQ.toR mw_keep hk5 (by omega),rfl⟩
 |ok y=>
  obtain⟨ts,l2⟩:=y
  go_enter Tryz.func71, Tryz.ntmps71
  go_wp2_with (go_at_call 69;refine(within_many b E l hd (mw b wUc false 22 w) (mw_rd HR.out) (w.heap.size+4) _ (Left (specM b (w.heap.size+4) (w.heap.size+2) w.heap.size (w.heap.size+1) (w.heap.size+3) false wUc 22) b E (mw b wUc false 22 w) (Except.ok (ts,l2):Except Nat (List Tr×List Tok))) (fun p=>(Except.ok (ts,l2):Except Nat (List Tr×List Tok)) = .error p) (fun w1 g1 g2=>(many1_c_elem (r:=(Except.ok (ts,l2):Except Nat (List Tr×List Tok))) (far1 g2 (mw_far hb)) HS.out HF.out HY.out g1 (mw_box.keep g2 (mw_far hb))).mono (fill_left g2.size))).mono ?_;rintro e w5 ⟨hk5,hq5⟩;rcases hq5 with hq5|⟨p,-,h⟩;rotate_left;(cases h);obtain⟨rfl,l3,w4,hr5,⟨ts2,h,wm,am,hsz,I⟩,hk4⟩:=hq5;cases h;obtain⟨v,F,fr,hrow4,hfr,-,hG,hF4,f1,f2,f3⟩:=I.row;have hrow5:w5.heap[w.heap.size+4]? = some (.cells #[v] 24 fr):=hk4.row (by omega) hrow4;obtain⟨hvx,-⟩:=box_fact2 hrow5 hfr)
  (try simp only [Exit.inBlock, Exit.then]); refine bodyPost_ret (by (simp [results, Tryz.results71, go_sem, hvx]; try rfl)) rfl ?_
  exact⟨KeepQ.toR mw_keep hk5 (by omega),v,rfl,hG.toW (fun k o hk=>(hk4.block k (Array.getElem?_eq_some_iff.1 (hF4 k o hk)).1 (fun e=>by rw[e,f1] at hk;cases hk)).trans (hF4 k o hk)) (by rw[mw_size] at hsz;omega),hr5⟩
end Prs
end Go.Proofs.YtcbkeecabcbogaaGreatDoor
