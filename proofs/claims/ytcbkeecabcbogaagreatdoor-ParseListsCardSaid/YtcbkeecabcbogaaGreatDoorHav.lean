/- Loops that turn one tree: out of the evaluator again, one ro -/
import Derived.Test.YtcbkeecabcbogaaGreatDoorHau
set_option linter.unusedSimpArgs false
set_option linter.unusedVariables false
namespace Go.Proofs.YtcbkeecabcbogaaGreatDoor
open Go.RowKit
namespace Prs
open Ev
def Yf (len:Nat)(hd:Bool)(S:Nat→Prop)(ls:List (List Tok))(ts:List Tr)(tss:List (List Tr))(xs:List Int):Zv where
 len:=len
 L:=fun i=>ls.getD i []
 T:=fun i=>ts.getD i tr0
 TS:=fun i=>tss.getD i []
 X:=mkX len hd xs
 one:=Qer len hd xs
 S:=S
inductive TFin where
 |again (j:Nat) (sp:Sp)
 |ret (j:Nat) (sp:Sp)
 |pan (t:Value)
noncomputable def rowIs (h:Tree Q3)(n:Nat)(f:List Value→Bool):Bool:=match h.get n with
 |some (.row cells t sz)=>Nat.beq t 26&&(Nat.beq sz 5&&(Nat.beq cells.length 5&&f cells))
 |_=>false
noncomputable def Qhc (L:Ho)(pos:List Nat)(h:Tree Q3)(s:Ev.Loc)(j:Nat)(sp:Sp):Bool:=Qcg h j (tk 321)&&(rowIs h 66 (fun cells=>Qmr pos 30 h cells sp)&&(rowIs h 68 (fun cells=>eqL (eqV 9) cells Qks)&&(Cc s (Ai L)&&(Nat.beq s.n L.n&&noDs s))))
noncomputable def Qpw (L:Ho)(pos:List Nat)(h:Tree Q3)(s:Ev.Loc)(j:Nat)(sp:Sp):Bool:=Qcg h j (tk 321)&&(rowIs h 66 (fun _=>true)&&(rowIs h 68 (fun cells=>Qmr pos 30 h cells sp)&&(eqV 9 (s.rd L.resSlot) (.pointer (some ⟨68,0,none⟩))&&noDs s)))
theorem Qah {h:Tree Q3}{n:Nat}{f:List Value→Bool}(e:rowIs h n f=true):∃ cells,h.get n=some (.row cells 26 5)∧cells.length=5∧f cells=true:=by
 unfold rowIs at e;split at e
 ·rename_i cells t sz hg;simp only[Bool.and_eq_true] at e;obtain⟨e1,e2,e3,e4⟩:=e;obtain rfl:=Nat.eq_of_beq_eq_true e1;obtain rfl:=Nat.eq_of_beq_eq_true e2;exact⟨cells,hg,Nat.eq_of_beq_eq_true e3,e4⟩
 ·cases e
noncomputable def finTOK (L:Ho)(pos:List Nat)(fin:TFin)(r:Res Q3 (XE×Ev.Loc)):Bool:=match r with
 | .ok x h _ _=>(match x.1 with
  | .normal=>(match fin with
   | .again j sp=>Qhc L pos h x.2 j sp
   |_=>false)
  | .ret=>(match fin with
   | .ret j sp=>Qpw L pos h x.2 j sp
   |_=>false)
  | .panic v _=>(match fin with
   | .pan t=>eqV 9 v (.iface 58 (.agg #[t]))&&(isNat pos false t&&noDs x.2)
   |_=>false)
  |_=>false)
 | .no=>false
section
variable {L:Ho} {b:Nat} {E:Env} {N:Zv} {hd:Bool} {w1 w w':World} {cs:List Xr} {T:OpT} {eqc:List (Nat×Value×Bool)} {x:Tr} {l:List Tok} {a a':Act} {Q:Exit→Act→World→Prop} {p':Xa} {h':Tree Q3}
def TGoal (L:Ho)(b:Nat)(E:Env)(N:Zv)(hd:Bool)(w1:World)(Q:Exit→Act→World→Prop):TFin→Prop
 | .again j sp=>∀ w' a',Qms L b E hd w1 (den N sp) (N.L j) w' a'→Q .normal a' w'
 | .ret j sp=>∀ w' a',Qmt L b E hd w1 (den N sp) (N.L j) w' a'→Q .ret a' w'
 | .pan t=>∀ w' a',Vr b L.q L.r w1 w'→a'.defers=[]→Q (.panic [{ v:=Vy (Gu N t),recovered:=false }]) a' w'
theorem Xw.keep (_:Xw L b E N hd w1 w cs T eqc)(I:Qms L b E hd w1 x l w a)(hr:Rel (V6 b E N cs T eqc) (Qom b L w1) w p' h' w'):Vr b L.q L.r w1 w':=
 ⟨hr.below.os.trans I.keep.os,hr.below.tape.trans I.keep.tape,hr.below.output.trans I.keep.output,Nat.le_trans I.keep.size hr.below.size,fun k h1 h2 h3 h4=>(hr.below.block k (Nat.lt_of_lt_of_le h1 I.keep.size) (by
  rintro(hh|hh|hh|hh)
  ·exact h2 hh
  ·exact h3 hh
  ·exact h4 hh
  ·omega)).trans (I.keep.block k h1 h2 h3 h4)⟩
theorem Xw.rows (D:Xw L b E N hd w1 w cs T eqc)(I:Qms L b E hd w1 x l w a)(C:Ctx b E N (V6 b E N cs T eqc) (Qom b L w1) w cs)(hr:Rel (V6 b E N cs T eqc) (Qom b L w1) w p' h' w')(s66:p' 66=some ⟨L.q,0,5,5,undef,noF⟩)(s68:p' 68=some ⟨L.r,0,5,5,undef,noF⟩)
  (h64:∃ c t z,h'.get 64=some (.row c t z)) (h66:∃ c t z,h'.get 66=some (.row c t z)) (h68:∃ c t z,h'.get 68=some (.row c t z)):∀ n c t z s,h'.get n=some (.row c t z)→70≤n→p' n=some s→N.S s.blk:=by
 intro n c t z s hn hlt hs;obtain⟨s1,q1,q2,-⟩:=hr.at_ _ _ hn;obtain rfl:s1=s:=Option.some.inj (q1.symm.trans hs);have q2:=q2 (by rw[C.n];omega) s1.blk rfl;rw[D.s];have hnq:s1.blk≠L.q:=fun hO=>by
  obtain⟨c6,t6,z6,hb6⟩:=h66
  have:=hr.one _ _ _ _ _ _ s1.blk hn hb6 q1 s66 rfl hO;omega
 have hnr:s1.blk≠L.r:=fun hO=>by
  obtain⟨c6,t6,z6,hb6⟩:=h68
  have:=hr.one _ _ _ _ _ _ s1.blk hn hb6 q1 s68 rfl hO;omega
 rcases q2 with (hO|hO|hO|hO)|hO
 ·exfalso;obtain⟨s0,a1,a2,-⟩:=(C.axp hr).rd;obtain⟨c64,t64,z64,hb64⟩:=h64
  have:=hr.one _ _ _ _ _ _ s1.blk hn hb64 q1 a1 rfl (by show s1.blk=s0.blk;rw[hO,a2]);omega
 ·exact absurd hO hnq
 ·exact absurd hO hnr
 ·exact⟨hO,hnq,hnr⟩
 ·exact⟨Nat.le_trans I.keep.size hO,hnq,hnr⟩
theorem Xw.tree (C:Ctx b E N (V6 b E N cs T eqc) (Qom b L w1) w cs)(D:Xw L b E N hd w1 w cs T eqc)(hr:Rel (V6 b E N cs T eqc) (Qom b L w1) w p' h' w'){n q:Nat}{cells:List Value}{sp:Sp}(hn:h'.get n=some (.row cells 26 5))(hl:cells.length=5)(hs:p' n=some ⟨q,0,5,5,undef,noF⟩)(e:Qmr T.pos 30 h' cells sp=true)(hS:∀ n c t z s,h'.get n=some (.row c t z)→70≤n→p' n=some s→N.S s.blk):
  ∃ cs:List Value,w'.heap[q]? = some (.cells cs.toArray 26 (0,0))∧X7 (SX L w1) w' (den N sp) cs:=by
 obtain⟨bs,fr,q1,q2,q3,q4⟩:=Qa8 hr hn hs rfl hl.symm;obtain rfl:=q4 Dd
 have:=Qi4 C hr D.pos hS 30 e q2;rw[D.s] at this;exact⟨bs.toList,by simpa using q1,this⟩
theorem Xw.round (D:Xw L b E N hd w1 w cs T eqc)(hL:N.L 0=l)(hT:N.T 0=x)(I:Qms L b E hd w1 x l w a){body:Code}{fin:TFin}
  (run:finTOK L T.pos fin (Yq Tryz.prog (V6 b E N cs T eqc) 1000 body (locL L.n (Ai L)) heapT 384)=true) (hQ:TGoal L b E N hd w1 Q fin):body.wp Tryz.prog Q a w:=by
 obtain⟨vt,v,hr,hs,C,hap,h128⟩:=D.start hL hT I;cases hev:Yq Tryz.prog (V6 b E N cs T eqc) 1000 body (locL L.n (Ai L)) heapT 384 with
 |no=>rw[hev] at run;cases run
 |ok y h' c' lg=>
  rw[hev] at run;have horc:Qhj Tryz.prog (V6 b E N cs T eqc) (Qom b L w1) w:=⟨Qak C,Qem C rfl D.nxt D.app D.put D.pos,fun _ _ _ h=>by cases h⟩;obtain⟨y,s'⟩:=y;refine Zm ((Qp9 follows' horc 1000).code body _ _ _ y s' h' c' lg (fun k h1 _=>?_) hev _ w a Q hr hs (fun k h1 _=>Qde h128 h1) fun p' w' a' q1 q2 q3 q4=>?_)
  ·rw[←heapT_eq L b vt v w1 w];exact Qe3 fun e he=>by have:=h128 e he;omega
  have hat:=fun x hx=>q1 _ _ (Gs (N:=N) hap x hx)
  have s66:p' 66=some ⟨L.q,0,5,5,undef,noF⟩:=hat (66,.row Qnk 26 5,⟨L.q,0,5,5,undef,noF⟩) (by unfold Ap;simp);have s68:p' 68=some ⟨L.r,0,5,5,undef,noF⟩:=hat (68,.row Qks 26 5,⟨L.r,0,5,5,undef,noF⟩) (by unfold Ap;simp);have hax:=C.axp q3;have getS:Mc p' s' a'→∀ t v,s'.rd t=v→v ≠ .chan none→VR p' v (a'.tmps.getD t undef):=fun hs t v h1 h2=>by
   rcases hs.tm t with h|h
   ·rw[h1] at h;exact absurd h h2
   ·rw[h1] at h;exact h
  unfold finTOK at run;dsimp only at run;cases y with
  |normal=>
   cases fin with
   |again j sp=>
    have q4:Mc p' s' a':=q4;dsimp only at run;unfold Qhc at run;simp only[Bool.and_eq_true] at run;obtain⟨e1,e2,e3,e4,e5,e6⟩:=run;obtain⟨hrd,h64⟩:=Qfg C q3 e1 D.x1;obtain⟨c66,g66,l66,f66⟩:=Qah e2;obtain⟨c68,g68,l68,f68⟩:=Qah e3;have hS:=D.rows I C q3 s66 s68 h64 ⟨_,_,_,g66⟩ ⟨_,_,_,g68⟩;have hslot:=N7 e4;obtain rfl:=Bq (fun h=>Z9 h) f68;refine hQ w' a' ⟨hrd,Xw.tree C D q3 g66 l66 s66 f66 hS,?_,D.keep I q3,?_,?_,fun z hz=>?_,?_,Qeq e6 q4.ds⟩
    ·obtain⟨bs,fr,r1,r2,r3,r4⟩:=Qa8 q3 g68 s68 rfl rfl;obtain rfl:=r4 Dd;have hz:bs=Q7:=by
      rw[←Array.toList_inj];generalize bs.toList=bl at r2;cases r2 with
      |cons k1 r2=>
      cases r2 with
      |cons k2 r2=>
      cases r2 with
      |cons k3 r2=>
      cases r2 with
      |cons k4 r2=>
      cases r2 with
      |cons k5 r2=>
      cases r2;cases k1;cases k2;cases k3;cases k4;cases k5;rfl
     rw[←hz];exact r1
    ·have:=getS q4 _ _ (hslot (L.rowSlot,.pointer (some ⟨66,0,none⟩)) (by unfold Ai;exact List.mem_cons_self ..)) Ds;generalize a'.tmps.getD L.rowSlot undef=u at this;cases this with
     |ptr k1=>rw[s66] at k1;cases k1;rfl
    ·have:=getS q4 _ _ (hslot (L.resSlot,.pointer (some ⟨68,0,none⟩)) (by unfold Ai;exact List.mem_cons_of_mem _ (List.mem_cons_self ..))) Ds;generalize a'.tmps.getD L.resSlot undef=u at this;cases this with
     |ptr k1=>rw[s68] at k1;cases k1;rfl
    ·have h1:=hslot (z.1,z.2.1) (by unfold Ai;exact List.mem_cons_of_mem _ (List.mem_cons_of_mem _ (List.mem_map.2 ⟨z,hz,rfl⟩)));exact D.fix.dirU z hz p' _ hax (getS q4 _ _ h1 (D.fix.dirN z hz))
    ·rw[q4.n];exact Nat.eq_of_beq_eq_true e5
   |_=>cases run
  |exit id=>cases run
  |ret=>
   cases fin with
   |ret j sp=>
    have q4:Mc p' s' a':=q4;dsimp only at run;unfold Qpw at run;simp only[Bool.and_eq_true] at run;obtain⟨e1,e2,e3,e4,e6⟩:=run;obtain⟨hrd,h64⟩:=Qfg C q3 e1 D.x1;obtain⟨c66,g66,l66,-⟩:=Qah e2;obtain⟨c68,g68,l68,f68⟩:=Qah e3;have hS:=D.rows I C q3 s66 s68 h64 ⟨_,_,_,g66⟩ ⟨_,_,_,g68⟩;refine hQ w' a' ⟨hrd,Xw.tree C D q3 g68 l68 s68 f68 hS,D.keep I q3,?_,Qeq e6 q4.ds⟩
    have:=getS q4 _ _ (Z9 e4) Ds;generalize a'.tmps.getD L.resSlot undef=u at this;cases this with
    |ptr k1=>rw[s68] at k1;cases k1;rfl
   |_=>cases run
  |panic u ls=>
   cases fin with
   |pan t=>
    dsimp only at run;rw[Bool.and_eq_true,Bool.and_eq_true] at run;obtain⟨e1,e2,e3⟩:=run;obtain rfl:=Z9 e1;intro v' hv;cases hv with
    |iface _ hv=>
    cases hv with
    |@agg _ b2 hvs=>
    generalize hbl:b2.toList=bl at hvs;cases hvs with
    |cons h1 h2=>
    cases h2;have h3:=Ub D.pos hax e2 h1;simp only[Bool.false_eq_true,if_false] at h3;subst h3;have hb2:b2 = #[.int .i64 (Gu N t:Int)]:=by rw[←Array.toList_inj,hbl]
    subst hb2;exact hQ w' a' (D.keep I q3) (Qeq e3 q4.ds)
   |_=>cases run
end
end Prs
end Go.Proofs.YtcbkeecabcbogaaGreatDoor
