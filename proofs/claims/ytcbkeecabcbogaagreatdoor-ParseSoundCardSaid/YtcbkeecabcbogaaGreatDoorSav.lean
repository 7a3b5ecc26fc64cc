/- Loops that turn one tree: their state in the model and in th -/
import Derived.Test.YtcbkeecabcbogaaGreatDoorSau
set_option linter.unusedSimpArgs false
set_option linter.unusedVariables false
namespace Go.Proofs.YtcbkeecabcbogaaGreatDoor
section
open Go.RowKit
namespace Prs
open Ev
structure Ua (b q r:Nat)(w w':World):Prop where
 os:w'.os=w.os
 tape:w'.tape=w.tape
 output:w'.output=w.output
 size:w.heap.size≤w'.heap.size
 block:∀ k,k<w.heap.size→k≠b→k≠q→k≠r→w'.heap[k]? = w.heap[k]?
structure Rl where
 n:Nat
 rowSlot:Nat
 resSlot:Nat
 q:Nat
 r:Nat
 direct:List (Nat×Value×Value)
abbrev SX (L:Rl)(w1:World):Nat→Prop:=fun k=>w1.heap.size≤k∧k≠L.q∧k≠L.r
structure Qp2 (L:Rl)(b:Nat)(E:Env)(hd:Bool)(w1:World)(x:Tr)(l:List Tok)(w:World)(a:Act):Prop where
 rd:RdB b E w l hd
 row:∃ cs:List Value,w.heap[L.q]? = some (.cells cs.toArray 26 (0,0))∧X3 (SX L w1) w x cs
 res:w.heap[L.r]? = some (.cells Q3 26 (0,0))
 keep:Ua b L.q L.r w1 w
 rowS:a.tmps.getD L.rowSlot undef=.pointer (some ⟨L.q,0,none⟩)
 resS:a.tmps.getD L.resSlot undef=.pointer (some ⟨L.r,0,none⟩)
 dirS:∀ x∈L.direct,a.tmps.getD x.1 undef=x.2.2
 n:a.tmps.size=L.n
 ds:a.defers=[]
structure Qp3 (L:Rl)(b:Nat)(E:Env)(hd:Bool)(w1:World)(x:Tr)(l:List Tok)(w:World)(a:Act):Prop where
 rd:RdB b E w l hd
 res:∃ cs:List Value,w.heap[L.r]? = some (.cells cs.toArray 26 (0,0))∧X3 (SX L w1) w x cs
 keep:Ua b L.q L.r w1 w
 resS:a.tmps.getD L.resSlot undef=.pointer (some ⟨L.r,0,none⟩)
 ds:a.defers=[]
structure TFix (L:Rl)(b:Nat)(N:Va)(w1:World):Prop where
 bq:b<L.q
 br:b<L.r
 qr:L.q≠L.r
 bw:b<w1.heap.size
 dir:∀ x∈L.direct,∀ p,AxN b N p→VR p x.2.1 x.2.2
 dirU:∀ x∈L.direct,∀ p u,AxN b N p→VR p x.2.1 u→u=x.2.2
 dirN:∀ x∈L.direct,x.2.1 ≠ .chan none
abbrev Qnk:List Value:=[.int .i64 0,.string ⟨#[]⟩,.int .u64 0,.int .i64 0,.slice none 0 0]
abbrev Qqu:List Value:=[tk 256,tk 257,tk 258,tk 259,tk 67]
def Qae (L:Rl)(w1 w:World):Nat→Option Obj:=fun k=>if w1.heap.size≤k∧k≠L.q∧k≠L.r then w.heap[k]? else none
def Qb4 (L:Rl)(b:Nat)(vt v:Value)(w1 w:World):List (Nat×Q4×V9):=
 [(64,.row Em 61 3,⟨b,0,3,3,undef,noF⟩),(65,.abs 0,⟨0,0,0,0,vt,noF⟩),(66,.row Qqu 26 5,⟨L.q,0,5,5,undef,noF⟩),(67,.abs 1,⟨0,0,0,0,v,Qae L w1 w⟩),(68,.row Qnk 26 5,⟨L.r,0,5,5,undef,noF⟩)]
def Qb0 (L:Rl):List (Nat×Value):=(L.rowSlot,.pointer (some ⟨66,0,none⟩))::(L.resSlot,.pointer (some ⟨68,0,none⟩))::L.direct.map fun x=>(x.1,x.2.1)
def Qr1 (b:Nat)(L:Rl)(w1:World):Nat→Prop:=fun k=>k=b∨k=L.q∨k=L.r∨w1.heap.size≤k
noncomputable def heapT:Tree Q4:=hOf [(64,.row Em 61 3,⟨0,0,0,0,undef,noF⟩),(65,.abs 0,⟨0,0,0,0,undef,noF⟩),(66,.row Qqu 26 5,⟨0,0,0,0,undef,noF⟩),(67,.abs 1,⟨0,0,0,0,undef,noF⟩),(68,.row Qnk 26 5,⟨0,0,0,0,undef,noF⟩)]
theorem heapT_eq (L:Rl)(b:Nat)(vt v:Value)(w1 w:World):hOf (Qb4 L b vt v w1 w)=heapT:=rfl
theorem Gv {L:Rl}{b:Nat}{vt v:Value}{w1 w:World}{P:Nat×Q4×V9→Prop}(h1:P (64,.row Em 61 3,⟨b,0,3,3,undef,noF⟩))(h2:P (65,.abs 0,⟨0,0,0,0,vt,noF⟩))(h3:P (66,.row Qqu 26 5,⟨L.q,0,5,5,undef,noF⟩))(h4:P (67,.abs 1,⟨0,0,0,0,v,Qae L w1 w⟩))(h5:P (68,.row Qnk 26 5,⟨L.r,0,5,5,undef,noF⟩)):∀ x∈Qb4 L b vt v w1 w,P x:=fun x hx=>by
 unfold Qb4 at hx;simp only[List.mem_cons,List.not_mem_nil,or_false] at hx;rcases hx with rfl|rfl|rfl|rfl|rfl <;> assumption
theorem Dp {L:Rl}{w1 w:World}{k:Nat}(h:Qae L w1 w k≠none):SX L w1 k∧k<w.heap.size:=by
 unfold Qae at h;split at h
 ·rename_i hk;refine⟨hk,?_⟩;rcases Nat.lt_or_ge k w.heap.size with h2|h2
  ·exact h2
  ·exact absurd (Array.getElem?_eq_none h2) h
 ·exact absurd rfl h
theorem Qpj {L:Rl}{b:Nat}{N:Va}{vt v:Value}{w1 w:World}(X:TFix L b N w1):Apart (Qb4 L b vt v w1 w):=by
 have h1:=X.bq;have h2:=X.br;have h3:=X.qr;have h4:=X.bw;have noO:∀ {m:Nat} {u:Value} {k:Nat},¬ Occ (.abs m) ⟨0,0,0,0,u,noF⟩ k:=fun h=>h rfl
 refine⟨fun y hy=>?_,fun y hy=>?_,fun y hy=>?_,fun y hy=>?_,fun y hy=>(by cases hy),trivial⟩
 ·simp only[List.mem_cons,List.not_mem_nil,or_false] at hy;rcases hy with rfl|rfl|rfl|rfl
  ·exact⟨Nat.ne_of_beq_eq_false rfl,fun k k1 k2=>noO k2⟩
  ·exact⟨Nat.ne_of_beq_eq_false rfl,fun k (k1:k=b) (k2:k=L.q)=>by omega⟩
  ·exact⟨Nat.ne_of_beq_eq_false rfl,fun k (k1:k=b) k2=>by have:=(Dp k2).1.1;have:=(Dp k2).1.2;omega⟩
  ·exact⟨Nat.ne_of_beq_eq_false rfl,fun k (k1:k=b) (k2:k=L.r)=>by omega⟩
 ·simp only[List.mem_cons,List.not_mem_nil,or_false] at hy;rcases hy with rfl|rfl|rfl
  ·exact⟨Nat.ne_of_beq_eq_false rfl,fun k k1=>absurd k1 noO⟩
  ·exact⟨Nat.ne_of_beq_eq_false rfl,fun k k1=>absurd k1 noO⟩
  ·exact⟨Nat.ne_of_beq_eq_false rfl,fun k k1=>absurd k1 noO⟩
 ·simp only[List.mem_cons,List.not_mem_nil,or_false] at hy;rcases hy with rfl|rfl
  ·exact⟨Nat.ne_of_beq_eq_false rfl,fun k (k1:k=L.q) k2=>by have:=(Dp k2).1.1;have:=(Dp k2).1.2;omega⟩
  ·exact⟨Nat.ne_of_beq_eq_false rfl,fun k (k1:k=L.q) (k2:k=L.r)=>by omega⟩
 ·simp only[List.mem_cons,List.not_mem_nil,or_false] at hy;subst hy;exact⟨Nat.ne_of_beq_eq_false rfl,fun k k1 (k2:k=L.r)=>(Dp k1).1.2.2 k2⟩
structure X0 (L:Rl)(b:Nat)(E:Env)(N:Va)(hd:Bool)(w1 w:World)(cs:List Xt)(T:OpT)(eqc:List (Nat×Value×Bool)):Prop where
 len:N.len=E.len
 x0:N.X 0=.int .i64 (E.len:Int)
 x1:N.X 1=.bool hd
 s:N.S=SX L w1
 calls:∀ c∈cs,Uc b E N w c
 nxt:∀ x∈T.nxt,∃ t,N.L x.1=t::N.L x.2
 app:Qcj N T.app
 put:Qht N T.put
 eqc:∀ x∈eqc,∃ v,Xi N x.1=some v∧Nc v x.2.1 x.2.2
 pos:L8 N T.pos
 fix:TFix L b N w1
section
variable {L:Rl} {b:Nat} {E:Env} {N:Va} {hd:Bool} {w1 w:World} {cs:List Xt} {T:OpT} {eqc:List (Nat×Value×Bool)} {x:Tr} {l:List Tok} {a:Act} {Q:Exit→Act→World→Prop}
theorem X0.dis (D:X0 L b E N hd w1 w cs T eqc){p:Xb}(h:AxN b N p):Dis (Ur b E N cs T eqc) p where
 eqs:=fun x hx=>by cases hx
 eqc:=fun x hx=>by
  obtain⟨v,h1,h2⟩:=D.eqc x hx;obtain⟨s,h3,h4⟩:=h.tok _ _ h1;exact⟨s,h3,by rw[h4];exact h2⟩
 ax:=h
theorem X0.start (D:X0 L b E N hd w1 w cs T eqc)(hL:N.L 0=l)(hT:N.T 0=x)(I:Qp2 L b E hd w1 x l w a):
  ∃ (vt v:Value),Rel (Ur b E N cs T eqc) (Qr1 b L w1) w (D5 N (Qb4 L b vt v w1 w)) heapT w∧Ac (D5 N (Qb4 L b vt v w1 w)) (locL L.n (Qb0 L)) a∧Ctx b E N (Ur b E N cs T eqc) (Qr1 b L w1) w cs∧Apart (Qb4 L b vt v w1 w)∧∀ x∈Qb4 L b vt v w1 w,x.1<128:=by
 have X:=D.fix;obtain⟨hlo,vt,hrdrow,htok⟩:=I.rd;obtain⟨cs5,hrow,hnode⟩:=I.row;cases x with
 |mk xk xx xn xp xc=>
 unfold X3 at hnode;obtain⟨ad,cp,rfl,hl⟩:=hnode;have hap:=Qpj (w:=w) (vt:=vt) (v:=.slice ad xc.length cp) X;have h128:∀ x∈Qb4 L b vt (.slice ad xc.length cp) w1 w,x.1<128:=Gv (P:=fun x=>x.1<128) (Nat.le_of_ble_eq_true rfl) (Nat.le_of_ble_eq_true rfl) (Nat.le_of_ble_eq_true rfl) (Nat.le_of_ble_eq_true rfl) (Nat.le_of_ble_eq_true rfl);have hin64:(64,.row Em 61 3,(⟨b,0,3,3,undef,noF⟩:V9))∈Qb4 L b vt (.slice ad xc.length cp) w1 w:=by unfold Qb4;exact List.mem_cons_self ..
 have hax:=Qml (N:=N) (Gv (fun e=>by cases e) (fun e=>by cases e) (fun e=>by cases e) (fun e=>by cases e) (fun e=>by cases e)) hap h128 hin64 rfl rfl rfl rfl;have hat:=fun x hx=>Wj (N:=N) hap x hx
 have m65:(65,.abs 0,(⟨0,0,0,0,vt,noF⟩:V9))∈Qb4 L b vt (.slice ad xc.length cp) w1 w:=by unfold Qb4;simp
 have m66:(66,.row Qqu 26 5,(⟨L.q,0,5,5,undef,noF⟩:V9))∈Qb4 L b vt (.slice ad xc.length cp) w1 w:=by unfold Qb4;simp
 have m67:(67,.abs 1,(⟨0,0,0,0,.slice ad xc.length cp,Qae L w1 w⟩:V9))∈Qb4 L b vt (.slice ad xc.length cp) w1 w:=by unfold Qb4;simp
 have m68:(68,.row Qnk 26 5,(⟨L.r,0,5,5,undef,noF⟩:V9))∈Qb4 L b vt (.slice ad xc.length cp) w1 w:=by unfold Qb4;simp
 have hv1:vt.oneCell'=true:=by obtain⟨a,c,rfl,-⟩:=htok;rfl
 have hC:Ctx b E N (Ur b E N cs T eqc) (Qr1 b L w1) w cs:={
  orc:=rfl,mean:=rfl,ax:=rfl,n:=rfl,ob:=.inl rfl,
  lo:=fun k hk=>by
   have:=X.bq
   have:=X.br
   have:=X.bw;rcases hk with rfl|rfl|rfl|hk <;> omega
  bw:=I.rd.lt,low:=I.rd.1,x0:=D.x0,len:=D.len,x1:=⟨hd,D.x1⟩,
  s:=fun k hk=>by
   have hqlt:=(Array.getElem?_eq_some_iff.1 hrow).1;have hrlt:=(Array.getElem?_eq_some_iff.1 I.res).1;rw[D.s];exact⟨Nat.le_trans I.keep.size hk,by omega,by omega⟩
  calls:=D.calls }
 have tval:∀ f v,J6 N 0 f=some v→f<4→VR (D5 N (Qb4 L b vt (.slice ad xc.length cp) w1 w)) (tk (256+f)) v:=fun f v hfv hf=>hax.vr (by
  unfold Xi;rw[if_neg Dw,if_neg Dw,if_pos Dw,show (256+f-256) / 4=0 by omega,show (256+f-256) % 4=f by omega]
  exact hfv)
 have hrel:Rel (Ur b E N cs T eqc) (Qr1 b L w1) w (D5 N (Qb4 L b vt (.slice ad xc.length cp) w1 w)) (hOf (Qb4 L b vt (.slice ad xc.length cp) w1 w)) w:=by
  refine rel_of rfl (D.dis hax) hat hap ?_ ?_ ?_ ?_
  ·exact Gv (P:=fun x=>64≤x.1→∀ k,Occ x.2.1 x.2.2 k→Qr1 b L w1 k) (fun _ k hk => .inl hk) (fun _ k hk=>absurd rfl hk) (fun _ k hk => .inr (.inl hk)) (fun _ k hk => .inr (.inr (.inr (Dp hk).1.1))) (fun _ k hk => .inr (.inr (.inl hk)))
  ·refine Gv (P:=fun x=>∀ k,Occ x.2.1 x.2.2 k→k<w.heap.size) (fun k hk=>?_) (fun k hk=>absurd rfl hk) (fun k hk=>?_) (fun k hk=>(Dp hk).2) (fun k hk=>?_)
   ·rw[show k=b from hk];exact I.rd.lt
   ·rw[show k=L.q from hk];exact(Array.getElem?_eq_some_iff.1 hrow).1
   ·rw[show k=L.r from hk];exact(Array.getElem?_eq_some_iff.1 I.res).1
  ·refine Gv (P:=fun x=>Qbo (D5 N (Qb4 L b vt (.slice ad xc.length cp) w1 w)) w x.2.2 x.2.1) ?_ (fun k o hk=>by cases hk) ?_ (fun k o hk=>?_) ?_
   ·refine⟨rfl,_,(0,0),hrdrow,rfl,Nat.le_refl 3,?_,fun j _=>by simp,fun _=>rfl⟩;refine .cons (VR.tok (s:=⟨0,0,0,0,vt,noF⟩) (hat _ m65) hv1) (.cons (hax.vr (show Xi N 320=some (.int .i64 (E.len:Int)) by rw[←D.x0];rfl)) (.cons (hax.vr (show Xi N 321=some (.bool hd) by rw[←D.x1];rfl)) .nil))
   ·refine⟨rfl,_,(0,0),hrow,rfl,Nat.le_refl 5,?_,fun j _=>by simp,fun _=>rfl⟩;refine .cons (tval 0 _ (by unfold J6;rw[hT];rfl) Dd) (.cons (tval 1 _ (by unfold J6;rw[hT];rfl) Dd) (.cons (tval 2 _ (by unfold J6;rw[hT];rfl) Dd) (.cons (tval 3 _ (by unfold J6;rw[hT];rfl) Dd) (.cons (VR.tok (s:=⟨0,0,0,0,.slice ad xc.length cp,Qae L w1 w⟩) (hat _ m67) rfl) .nil))))
   ·have hk:Qae L w1 w k=some o:=hk;unfold Qae at hk;split at hk
    ·exact hk
    ·cases hk
   ·refine⟨rfl,_,(0,0),I.res,rfl,Nat.le_refl 5,?_,fun j _=>by simp,fun _=>rfl⟩;exact .cons (.int _ _) (.cons (.string _) (.cons (.int _ _) (.cons (.int _ _) (.cons .nilSlice .nil))))
  ·refine Gv (P:=fun x=>∀ m,x.2.1=.abs m→(Ur b E N cs T eqc).mean (D5 N (Qb4 L b vt (.slice ad xc.length cp) w1 w)) m x.2.2) (fun m e=>by cases e) (fun m e=>?_) (fun m e=>by cases e) (fun m e=>?_) (fun m e=>by cases e)
   ·cases e;refine⟨?_,rfl⟩;show Qhu b E.w0 vt (N.L 0)
    rw[hL];exact Qhu.frame (fun k hk=>(I.rd.1 k hk).symm) htok
   ·cases e;show Qps N.S ⟨0,0,0,0,.slice ad xc.length cp,Qae L w1 w⟩ (N.T 0).kids
    rw[hT,D.s];refine⟨ad,cp,rfl,fun k hk=>(Dp hk).1,?_⟩;rcases hl with hl|⟨g,o,h1,h2,h3⟩
    ·exact .inl hl
    ·by_cases hnil:xc=[]
     ·exact .inl hnil
     ·have hlt:g<w.heap.size:=by
       obtain⟨t,l,rfl⟩:=List.exists_cons_of_ne_nil hnil;unfold Xp at h3;obtain⟨⟨v0,v1,v2,v3,v4,k0,-⟩,-⟩:=h3;exact cell_lt' k0
      have key:∀ k,SX L w1 k→k<w.heap.size→Qae L w1 w k=w.heap[k]? := fun k h1 h2=>by unfold Qae;rw[if_pos h1]
      refine .inr ⟨g,o,h1,by show Qae L w1 w g≠none;rw[key g h2 hlt,Array.getElem?_eq_getElem hlt];simp,fun W hW=>?_⟩;refine Xp.frame (fun k hk1 hk2=>?_) (fun k hk1 hk2=>?_) h2 h3
      ·show Qae L w1 w k≠none
       rw[key k hk1 hk2,Array.getElem?_eq_getElem hk2];simp
      ·have hk3:w.heap[k]? = some (w.heap[k]'hk2):=Array.getElem?_eq_getElem hk2;rw[hk3];exact hW k _ (by show Qae L w1 w k=_;rw[key k hk1 hk2,hk3])
 refine⟨vt,_,hrel,Qsc I.n I.ds fun x hx=>?_,hC,hap,h128⟩;unfold Qb0 at hx;rcases List.mem_cons.1 hx with rfl|hx
 ·rw[I.rowS];exact VR.ptr (s:=⟨L.q,0,5,5,undef,noF⟩) (hat _ m66)
 ·rcases List.mem_cons.1 hx with rfl|hx
  ·rw[I.resS];exact VR.ptr (s:=⟨L.r,0,5,5,undef,noF⟩) (hat _ m68)
  ·obtain⟨y,h1,rfl⟩:=List.mem_map.1 hx;rw[I.dirS y h1];exact X.dir y h1 _ hax
end
end Prs
end
section
open Go.RowKit
namespace Prs
open Ev
def Kt (len:Nat)(hd:Bool)(S:Nat→Prop)(ls:List (List Tok))(ts:List Tr)(tss:List (List Tr))(xs:List Int):Va where
 len:=len
 L:=fun i=>ls.getD i []
 T:=fun i=>ts.getD i tr0
 TS:=fun i=>tss.getD i []
 X:=mkX len hd xs
 one:=Qg2 len hd xs
 S:=S
inductive TFin where
 |again (j:Nat) (sp:Sp)
 |ret (j:Nat) (sp:Sp)
 |pan (t:Value)
noncomputable def rowIs (h:Tree Q4)(n:Nat)(f:List Value→Bool):Bool:=match h.get n with
 |some (.row cells t sz)=>Nat.beq t 26&&(Nat.beq sz 5&&(Nat.beq cells.length 5&&f cells))
 |_=>false
noncomputable def Qjl (L:Rl)(pos:List Nat)(h:Tree Q4)(s:Ev.Loc)(j:Nat)(sp:Sp):Bool:=Qes h j (tk 321)&&(rowIs h 66 (fun cells=>Qp1 pos 30 h cells sp)&&(rowIs h 68 (fun cells=>eqL (eqV 9) cells Qnk)&&(Qas s (Qb0 L)&&(Nat.beq s.n L.n&&noDs s))))
noncomputable def Qs8 (L:Rl)(pos:List Nat)(h:Tree Q4)(s:Ev.Loc)(j:Nat)(sp:Sp):Bool:=Qes h j (tk 321)&&(rowIs h 66 (fun _=>true)&&(rowIs h 68 (fun cells=>Qp1 pos 30 h cells sp)&&(eqV 9 (s.rd L.resSlot) (.pointer (some ⟨68,0,none⟩))&&noDs s)))
theorem Qco {h:Tree Q4}{n:Nat}{f:List Value→Bool}(e:rowIs h n f=true):∃ cells,h.get n=some (.row cells 26 5)∧cells.length=5∧f cells=true:=by
 unfold rowIs at e;split at e
 ·rename_i cells t sz hg;simp only[Bool.and_eq_true] at e;obtain⟨e1,e2,e3,e4⟩:=e;obtain rfl:=Nat.eq_of_beq_eq_true e1;obtain rfl:=Nat.eq_of_beq_eq_true e2;exact⟨cells,hg,Nat.eq_of_beq_eq_true e3,e4⟩
 ·cases e
noncomputable def finTOK (L:Rl)(pos:List Nat)(fin:TFin)(r:Res Q4 (XE×Ev.Loc)):Bool:=match r with
 | .ok x h _ _=>(match x.1 with
  | .normal=>(match fin with
   | .again j sp=>Qjl L pos h x.2 j sp
   |_=>false)
  | .ret=>(match fin with
   | .ret j sp=>Qs8 L pos h x.2 j sp
   |_=>false)
  | .panic v _=>(match fin with
   | .pan t=>eqV 9 v (.iface 58 (.agg #[t]))&&(isNat pos false t&&noDs x.2)
   |_=>false)
  |_=>false)
 | .no=>false
section
variable {L:Rl} {b:Nat} {E:Env} {N:Va} {hd:Bool} {w1 w w':World} {cs:List Xt} {T:OpT} {eqc:List (Nat×Value×Bool)} {x:Tr} {l:List Tok} {a a':Act} {Q:Exit→Act→World→Prop} {p':Xb} {h':Tree Q4}
def TGoal (L:Rl)(b:Nat)(E:Env)(N:Va)(hd:Bool)(w1:World)(Q:Exit→Act→World→Prop):TFin→Prop
 | .again j sp=>∀ w' a',Qp2 L b E hd w1 (den N sp) (N.L j) w' a'→Q .normal a' w'
 | .ret j sp=>∀ w' a',Qp3 L b E hd w1 (den N sp) (N.L j) w' a'→Q .ret a' w'
 | .pan t=>∀ w' a',Ua b L.q L.r w1 w'→a'.defers=[]→Q (.panic [{ v:=Vw (Wp N t),recovered:=false }]) a' w'
theorem X0.keep (_:X0 L b E N hd w1 w cs T eqc)(I:Qp2 L b E hd w1 x l w a)(hr:Rel (Ur b E N cs T eqc) (Qr1 b L w1) w p' h' w'):Ua b L.q L.r w1 w':=
 ⟨hr.below.os.trans I.keep.os,hr.below.tape.trans I.keep.tape,hr.below.output.trans I.keep.output,Nat.le_trans I.keep.size hr.below.size,fun k h1 h2 h3 h4=>(hr.below.block k (Nat.lt_of_lt_of_le h1 I.keep.size) (by
  rintro(hh|hh|hh|hh)
  ·exact h2 hh
  ·exact h3 hh
  ·exact h4 hh
  ·omega)).trans (I.keep.block k h1 h2 h3 h4)⟩
theorem X0.rows (D:X0 L b E N hd w1 w cs T eqc)(I:Qp2 L b E hd w1 x l w a)(C:Ctx b E N (Ur b E N cs T eqc) (Qr1 b L w1) w cs)(hr:Rel (Ur b E N cs T eqc) (Qr1 b L w1) w p' h' w')(s66:p' 66=some ⟨L.q,0,5,5,undef,noF⟩)(s68:p' 68=some ⟨L.r,0,5,5,undef,noF⟩)
  (h64:∃ c t z,h'.get 64=some (.row c t z)) (h66:∃ c t z,h'.get 66=some (.row c t z)) (h68:∃ c t z,h'.get 68=some (.row c t z)):∀ n c t z s,h'.get n=some (.row c t z)→70≤n→p' n=some s→N.S s.blk:=by
 intro n c t z s hn hlt hs;obtain⟨s1,q1,q2,-⟩:=hr.at_ _ _ hn;obtain rfl:s1=s:=Option.some.inj (q1.symm.trans hs);have q2:=q2 (by rw[C.n];omega) s1.blk rfl;rw[D.s];have hnq:s1.blk≠L.q:=fun hO=>by
  obtain⟨c6,t6,z6,hb6⟩:=h66
  have:=hr.one _ _ _ _ _ _ s1.blk hn hb6 q1 s66 rfl hO;omega
 have hnr:s1.blk≠L.r:=fun hO=>by
  obtain⟨c6,t6,z6,hb6⟩:=h68
  have:=hr.one _ _ _ _ _ _ s1.blk hn hb6 q1 s68 rfl hO;omega
 rcases q2 with (hO|hO|hO|hO)|hO
 ·exfalso;obtain⟨s0,a1,a2,-⟩:=(C.axp hr).rd;obtain⟨c64,t64,z64,hb64⟩:=h64
  have:=hr.one _ _ _ _ _ _ s1.blk hn hb64 q1 a1 rfl (by show s1.blk=s0.blk;rw[hO,a2]);omega
 ·exact absurd hO hnq
 ·exact absurd hO hnr
 ·exact⟨hO,hnq,hnr⟩
 ·exact⟨Nat.le_trans I.keep.size hO,hnq,hnr⟩
theorem X0.tree (C:Ctx b E N (Ur b E N cs T eqc) (Qr1 b L w1) w cs)(D:X0 L b E N hd w1 w cs T eqc)(hr:Rel (Ur b E N cs T eqc) (Qr1 b L w1) w p' h' w'){n q:Nat}{cells:List Value}{sp:Sp}(hn:h'.get n=some (.row cells 26 5))(hl:cells.length=5)(hs:p' n=some ⟨q,0,5,5,undef,noF⟩)(e:Qp1 T.pos 30 h' cells sp=true)(hS:∀ n c t z s,h'.get n=some (.row c t z)→70≤n→p' n=some s→N.S s.blk):
  ∃ cs:List Value,w'.heap[q]? = some (.cells cs.toArray 26 (0,0))∧X3 (SX L w1) w' (den N sp) cs:=by
 obtain⟨bs,fr,q1,q2,q3,q4⟩:=Qdj hr hn hs rfl hl.symm;obtain rfl:=q4 Dd
 have:=Qlo C hr D.pos hS 30 e q2;rw[D.s] at this;exact⟨bs.toList,by simpa using q1,this⟩
theorem X0.round (D:X0 L b E N hd w1 w cs T eqc)(hL:N.L 0=l)(hT:N.T 0=x)(I:Qp2 L b E hd w1 x l w a){body:Code}{fin:TFin}
  (run:finTOK L T.pos fin (Ji Tryz.prog (Ur b E N cs T eqc) 1000 body (locL L.n (Qb0 L)) heapT 384)=true) (hQ:TGoal L b E N hd w1 Q fin):body.wp Tryz.prog Q a w:=by
 obtain⟨vt,v,hr,hs,C,hap,h128⟩:=D.start hL hT I;cases hev:Ji Tryz.prog (Ur b E N cs T eqc) 1000 body (locL L.n (Qb0 L)) heapT 384 with
 |no=>rw[hev] at run;cases run
 |ok y h' c' lg=>
  rw[hev] at run;have horc:Qjq Tryz.prog (Ur b E N cs T eqc) (Qr1 b L w1) w:=⟨Qcr C,Qgy C rfl D.nxt D.app D.put D.pos,fun _ _ _ h=>by cases h⟩;obtain⟨y,s'⟩:=y;refine Zr ((Qth follows' horc 1000).code body _ _ _ y s' h' c' lg (fun k h1 _=>?_) hev _ w a Q hr hs (fun k h1 _=>Qfp h128 h1) fun p' w' a' q1 q2 q3 q4=>?_)
  ·rw[←heapT_eq L b vt v w1 w];exact Qhc fun e he=>by have:=h128 e he;omega
  have hat:=fun x hx=>q1 _ _ (Wj (N:=N) hap x hx)
  have s66:p' 66=some ⟨L.q,0,5,5,undef,noF⟩:=hat (66,.row Qqu 26 5,⟨L.q,0,5,5,undef,noF⟩) (by unfold Qb4;simp);have s68:p' 68=some ⟨L.r,0,5,5,undef,noF⟩:=hat (68,.row Qnk 26 5,⟨L.r,0,5,5,undef,noF⟩) (by unfold Qb4;simp);have hax:=C.axp q3;have getS:Ac p' s' a'→∀ t v,s'.rd t=v→v ≠ .chan none→VR p' v (a'.tmps.getD t undef):=fun hs t v h1 h2=>by
   rcases hs.tm t with h|h
   ·rw[h1] at h;exact absurd h h2
   ·rw[h1] at h;exact h
  unfold finTOK at run;dsimp only at run;cases y with
  |normal=>
   cases fin with
   |again j sp=>
    have q4:Ac p' s' a':=q4;dsimp only at run;unfold Qjl at run;simp only[Bool.and_eq_true] at run;obtain⟨e1,e2,e3,e4,e5,e6⟩:=run;obtain⟨hrd,h64⟩:=Qho C q3 e1 D.x1;obtain⟨c66,g66,l66,f66⟩:=Qco e2;obtain⟨c68,g68,l68,f68⟩:=Qco e3;have hS:=D.rows I C q3 s66 s68 h64 ⟨_,_,_,g66⟩ ⟨_,_,_,g68⟩;have hslot:=Aa e4;obtain rfl:=Qao (fun h=>Vr h) f68;refine hQ w' a' ⟨hrd,X0.tree C D q3 g66 l66 s66 f66 hS,?_,D.keep I q3,?_,?_,fun z hz=>?_,?_,Qg1 e6 q4.ds⟩
    ·obtain⟨bs,fr,r1,r2,r3,r4⟩:=Qdj q3 g68 s68 rfl rfl;obtain rfl:=r4 Dd;have hz:bs=Q3:=by
      rw[←Array.toList_inj];generalize bs.toList=bl at r2;cases r2 with
      |cons k1 r2=>
      cases r2 with
      |cons k2 r2=>
      cases r2 with
      |cons k3 r2=>
      cases r2 with
      |cons k4 r2=>
      cases r2 with
      |cons k5 r2=>
      cases r2;cases k1;cases k2;cases k3;cases k4;cases k5;rfl
     rw[←hz];exact r1
    ·have:=getS q4 _ _ (hslot (L.rowSlot,.pointer (some ⟨66,0,none⟩)) (by unfold Qb0;exact List.mem_cons_self ..)) Ds;generalize a'.tmps.getD L.rowSlot undef=u at this;cases this with
     |ptr k1=>rw[s66] at k1;cases k1;rfl
    ·have:=getS q4 _ _ (hslot (L.resSlot,.pointer (some ⟨68,0,none⟩)) (by unfold Qb0;exact List.mem_cons_of_mem _ (List.mem_cons_self ..))) Ds;generalize a'.tmps.getD L.resSlot undef=u at this;cases this with
     |ptr k1=>rw[s68] at k1;cases k1;rfl
    ·have h1:=hslot (z.1,z.2.1) (by unfold Qb0;exact List.mem_cons_of_mem _ (List.mem_cons_of_mem _ (List.mem_map.2 ⟨z,hz,rfl⟩)));exact D.fix.dirU z hz p' _ hax (getS q4 _ _ h1 (D.fix.dirN z hz))
    ·rw[q4.n];exact Nat.eq_of_beq_eq_true e5
   |_=>cases run
  |exit id=>cases run
  |ret=>
   cases fin with
   |ret j sp=>
    have q4:Ac p' s' a':=q4;dsimp only at run;unfold Qs8 at run;simp only[Bool.and_eq_true] at run;obtain⟨e1,e2,e3,e4,e6⟩:=run;obtain⟨hrd,h64⟩:=Qho C q3 e1 D.x1;obtain⟨c66,g66,l66,-⟩:=Qco e2;obtain⟨c68,g68,l68,f68⟩:=Qco e3;have hS:=D.rows I C q3 s66 s68 h64 ⟨_,_,_,g66⟩ ⟨_,_,_,g68⟩;refine hQ w' a' ⟨hrd,X0.tree C D q3 g68 l68 s68 f68 hS,D.keep I q3,?_,Qg1 e6 q4.ds⟩
    have:=getS q4 _ _ (Vr e4) Ds;generalize a'.tmps.getD L.resSlot undef=u at this;cases this with
    |ptr k1=>rw[s68] at k1;cases k1;rfl
   |_=>cases run
  |panic u ls=>
   cases fin with
   |pan t=>
    dsimp only at run;rw[Bool.and_eq_true,Bool.and_eq_true] at run;obtain⟨e1,e2,e3⟩:=run;obtain rfl:=Vr e1;intro v' hv;cases hv with
    |iface _ hv=>
    cases hv with
    |@agg _ b2 hvs=>
    generalize hbl:b2.toList=bl at hvs;cases hvs with
    |cons h1 h2=>
    cases h2;have h3:=Uy D.pos hax e2 h1;simp only[Bool.false_eq_true,if_false] at h3;subst h3;have hb2:b2 = #[.int .i64 (Wp N t:Int)]:=by rw[←Array.toList_inj,hbl]
    subst hb2;exact hQ w' a' (D.keep I q3) (Qg1 e3 q4.ds)
   |_=>cases run
end
end Prs
end
end Go.Proofs.YtcbkeecabcbogaaGreatDoor
