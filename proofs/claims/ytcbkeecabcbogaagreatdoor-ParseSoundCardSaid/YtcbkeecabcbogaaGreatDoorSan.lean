/- Scripts: all operations that are told. Scripts: which operat -/
import Derived.Test.YtcbkeecabcbogaaGreatDoorSam
set_option linter.unusedSimpArgs false
set_option linter.unusedVariables false
namespace Go.Proofs.YtcbkeecabcbogaaGreatDoor
section
open Go.RowKit
namespace Prs
open Ev
theorem Xp.Qry {S:Nat→Prop}{w:World}{g:Nat}{m:List Tr}:∀ {l:List Tr} {o:Nat},Xp S w g (l++m) o→Xp S w g l o
 | [],_,_=>by unfold Xp;trivial
 |t::l,o,h=>by
  have h:Xp S w g (t::(l++m)) o:=h;unfold Xp at h ⊢;exact⟨h.1,Xp.Qry h.2⟩
theorem list5 {l:List Value}(h:l.length=5):∃ u0 u1 u2 u3 u4,l=[u0,u1,u2,u3,u4]:=by
 match l,h with
 | [u0,u1,u2,u3,u4],_=>exact⟨u0,u1,u2,u3,u4,rfl⟩
section
variable {b:Nat} {E:Env} {N:Va} {K:Cfg} {O:Nat→Prop} {w0 w:World} {cs:List Xt} {p:Xb} {h:Tree Q4} {pos:List Nat}
theorem len_ok (C:Ctx b E N K O w0 cs)(hr:Rel K O w0 p h w){ci c:Nat}{v:Value}{h':Tree Q4}{c':Nat}{l:Log}(e:lenM ci h c=.ok v h' c' l)(hf:Free p c c'){v1:Value}(hv1:VR p (tk ci) v1){ats:Array TypeId}{ty:TypeId}{args:Array Value}(ha:ats[0]? = some 24)(hb:args[0]? = some v1):
  Gives Tryz.prog K O w0 p w c c' h' VR (Builtin.len_ ats ty args) v:=by
 unfold lenM at e;obtain⟨cm,h1,c1,l1,l2,e1,e2⟩:=Qr e;obtain⟨rfl,rfl,hcm,hfw⟩:=Qcp (K:=K) (O:=O) (w0:=w0) (w:=w) (p:=p) e1;have hv1:=hfw v1 hr hv1;obtain⟨c2,m⟩:=cm;dsimp only at e2 hcm hv1;split at e2
 ·rename_i hm8;obtain⟨d,h2,c3,l3,l4,e3,e4⟩:=Qr e2;obtain⟨rfl,rfl,rfl⟩:=Uo e3;obtain⟨rfl,rfl,rfl⟩:=Qn e4;have hp:=hf d (Nat.le_refl _) Dw;cases hv1 with
  |@tok _ s2 hs2 _=>
  obtain⟨a,cc,hval,-⟩:=C.Qo1 hr hcm hs2 hm8;rw[hval] at hb
  have R:=hr.take (o:=.abs (m+1)) (c:=d) (s:=⟨0,0,0,0,.int .i64 ((N.TS (m / 8)).length:Int),noF⟩) hp (fun k hk=>absurd rfl hk) (fun _ k hk=>absurd rfl hk) (fun k hk=>absurd rfl hk) (fun k o hk=>by cases hk) (fun m' e=>by
   cases e;rw[C.mean];unfold Jj;rw[show (m+1) % 8=3 by omega,show (m+1) / 8=m / 8 by omega]
   exact⟨rfl,rfl⟩)
  refine⟨_,w,.int .i64 ((N.TS (m / 8)).length:Int),?_,VR.tok (s:=⟨0,0,0,0,.int .i64 ((N.TS (m / 8)).length:Int),noF⟩) (Xb.Vy _ _ _) rfl,R,Xb.U4 hp,Yj⟩;simp only[Builtin.len_,ha,hb,Sem.run_bind,run_underlying Ul w,Result.andThen_ok,Sem.run_pure];rfl
 ·cases e2
theorem idx_ok (C:Ctx b E N K O w0 cs){app:List (Nat×Sp×Nat)}(happ:Qcj N app)(hr:Rel K O w0 p h w){ci di c:Nat}{v:Value}{h':Tree Q4}{c':Nat}{l:Log}(e:idxM app ci di h c=.ok v h' c' l)(hf:Free p c c'){v1 v2:Value}(hv1:VR p (tk ci) v1)(hv2:VR p (tk di) v2):
  Gives Tryz.prog K O w0 p w c c' h' VR (Instr.indexAt 24 v1 v2) v:=by
 unfold idxM at e;obtain⟨cm,h1,c1,l1,l2,e1,e2⟩:=Qr e;obtain⟨rfl,rfl,hcm,hfw⟩:=Qcp (K:=K) (O:=O) (w0:=w0) (w:=w) (p:=p) e1;have hv1:=hfw v1 hr hv1;obtain⟨c2,m⟩:=cm;dsimp only at e2 hcm hv1;obtain⟨o,h2,c3,l3,l4,e3,e4⟩:=Qr e2;obtain⟨hd,rfl,rfl⟩:=U9 e3;split at e4
 ·rename_i md;split at e4
  ·rename_i hc;obtain⟨hm8,hmd⟩:=hc;cases hy:Qg7 app (md / 8) with
   |none=>rw[hy] at e4;cases e4
   |some y=>
    rw[hy] at e4;obtain⟨sp,y⟩:=y;obtain⟨hTS,hlen⟩:=happ _ (Qac hy);dsimp only at hTS hlen e4;split at e4
    ·rename_i hyy;subst hyy;obtain⟨ne,h4,c4,l5,l6,e5,e6⟩:=Qr e4;obtain⟨rfl,rfl,rfl⟩:=Uo e5;obtain⟨rfl,rfl,rfl⟩:=Qn e6;have hp:=hf ne (Nat.le_refl _) Dw;cases hv1 with
     |@tok _ s2 hs2 _=>
     cases hv2 with
     |@tok _ sd hsd _=>
     obtain⟨a,cc,hval,hlc,hcm2,hfS,hl⟩:=C.Qo1 hr hcm hs2 hm8;have hmean:=hr.mean _ _ _ hd hsd;rw[C.mean] at hmean;unfold Jj at hmean;rw[hmd] at hmean;obtain⟨-,hdv⟩:=hmean;rw[hTS] at hval hlc hl;obtain⟨g,o,bs,rfl,hg,hroom,-⟩:=hl.resolve_left (fun hh=>by simp at hh);rw[List.length_append,List.length_singleton] at hval hlc;generalize (N.TS (md / 8)).length=n at hval hlc hdv hlen;rw[hval,hdv];obtain⟨i,hi,hi5,-⟩:=G8;obtain⟨f,hf1,hf2,hf3,hf4⟩:=hi.info
     have R:=hr.take (o:=.abs (8*c2+4)) (c:=ne) (s:=⟨0,0,0,0,.pointer (some ⟨g,o+5*n,none⟩),noF⟩) hp (fun k hk=>absurd rfl hk) (fun _ k hk=>absurd rfl hk) (fun k hk=>absurd rfl hk) (fun k o hk=>by cases hk) (fun m' e=>by
      cases e;rw[C.mean];unfold Jj;rw[show (8*c2+4) % 8=4 by omega,show (8*c2+4) / 8=c2 by omega]
      exact⟨rfl,s2,g,o,n,cc,Xb.U4 hp _ _ hs2,hval,rfl⟩)
     refine⟨_,w,.pointer (some ⟨g,o+5*n,none⟩),?_,VR.tok (s:=⟨0,0,0,0,.pointer (some ⟨g,o+5*n,none⟩),noF⟩) (Xb.Vy _ _ _) rfl,R,Xb.U4 hp,Yj⟩;unfold Instr.indexAt;simp only[asIntOf,Sem.run_bind,Sem.run_pure,Result.andThen_ok,run_underlying Ul w];rw[if_pos ⟨by omega,by omega⟩];simp[sizeOf,typeInfo,hf1,Addr.add_mid,hf2,hi5,Nat.mul_comm]
    ·cases e4
  ·cases e4
 ·cases e4
theorem sto_ok (C:Ctx b E N K O w0 cs)(hpos:L8 N pos){put:List (Nat×Sp×Nat)}(hput:Qht N put)(hr:Rel K O w0 p h w){ei c:Nat}{cells:List Value}{v:Value}{h':Tree Q4}{c':Nat}{l:Log}(e:stoM pos put ei cells h c=.ok v h' c' l)(hrng:M.Rng h c c')(hf:Free p c c'){v1 v2:Value}(hv1:VR p (tk ei) v1)(hv2:VR p (.agg cells.toArray) v2):
  v=undef∧Gives Tryz.prog K O w0 p w c c' h' (fun _ (_:Unit) _=>True) (Instr.storeAt 26 v1 v2) ():=by
 unfold stoM at e;obtain⟨o,h1,c1,l1,l2,e1,e2⟩:=Qr e;obtain⟨hei,rfl,rfl⟩:=U9 e1;split at e2
 ·rename_i me;split at e2
  ·rename_i hme;obtain⟨o,h2,c2',l3,l4,e3,e4⟩:=Qr e2;obtain⟨hc2,rfl,rfl⟩:=U9 e3;obtain⟨c2,rfl⟩:∃ c2,me=8*c2+4:=⟨me / 8,by omega⟩;rw[show (8*c2+4) / 8=c2 by omega] at hc2 e4;split at e4
   ·rename_i m;split at e4
    ·rename_i hcc;obtain⟨hm8,h64,hone⟩:=hcc;cases hy:Qg7 put (m / 8) with
     |none=>rw[hy] at e4;cases e4
     |some y=>
      rw[hy] at e4;obtain⟨sp,y⟩:=y;obtain⟨l0,u,hT1,hT2⟩:=hput _ (Qac hy);dsimp only at hT1 hT2 e4;obtain⟨d,h4,c4,l5,l6,e5,e6⟩:=Qr e4;cases hv2 with
      |@agg _ ag hvs=>
      have hvs:VRs p cells ag.toList:=by simpa using hvs
      obtain⟨rfl,rfl,F,hbel,hnode,hFS,hvl⟩:=Qg0 C hr hpos e5 hvs;obtain⟨_,h6,c6,l9,l10,e9,e10⟩:=Qr e6;obtain⟨rfl,rfl,hdd⟩:=Qlm e9;obtain⟨ne,h7,c7,l11,l12,e11,e12⟩:=Qr e10;obtain⟨rfl,rfl,rfl⟩:=Uo e11;obtain⟨_,h8,c8,l13,l14,e13,e14⟩:=Qr e12;have hwr:((Qpk h4 d).set ne (some (.abs (8*y+2)))).get c2≠none:=by
       unfold M.write at e13;cases hg:((Qpk h4 d).set ne (some (.abs (8*y+2)))).get c2 with
       |none=>rw[hg] at e13;cases e13
       |some=>simp
      obtain⟨rfl,rfl⟩:=Yr e13;obtain⟨rfl,rfl,rfl⟩:=Qn e14;have hp:=hf ne (Nat.le_refl _) Dw;have hcn:c2≠ne:=by
       rcases rng_out hrng hc2 with h1|h1 <;> omega
      have hne:d≠some c2:=fun hh=>by
       rw[Tree.Qu,if_neg hcn,hh] at hwr;unfold Qpk at hwr;dsimp only at hwr;rw[Tree.Qu,if_pos rfl] at hwr;exact hwr rfl
      cases hv1 with
      |@tok _ se hse _=>
      have hmean:=hr.mean _ _ _ hei hse;rw[C.mean] at hmean;unfold Jj at hmean;rw[show (8*c2+4) % 8=4 by omega,show (8*c2+4) / 8=c2 by omega] at hmean;obtain⟨-,s2,g,o,n,cc,hs2,hval2,hev⟩:=hmean;have hG:=C.Qo1 hr hc2 hs2 hm8;have hfoot:=Ctx.foot hr hc2 hs2;obtain⟨a,cc',hval,hlc,hcm2,hfS,hl⟩:=hG;rw[hT1] at hval hlc hl;obtain⟨g2,o2,bs,rfl,hg,hroom,hrows⟩:=hl.resolve_left (fun hh=>by simp at hh);rw[hval2] at hval;rw[List.length_append,List.length_singleton] at hval hlc;cases hval;have hgw:=hfoot g _ hg;generalize hnews:ag.toList=news at hvs hnode hvl;have hag:ag=news.toArray:=by rw[←Array.toList_inj,hnews]
      subst hag;have hn1:∀ u∈news,u.oneCell'=true:=Hr hvs fun v hv=>List.all_eq_true.1 hone v hv
      obtain⟨i,hi,hi5,-⟩:=G8;obtain⟨f,hf1,hf2,hf3,hf4⟩:=hi.info;have hin:∀ j,j<5→o+5*l0.length+j<bs.size:=fun j hj=>by omega
      have hrun:=Df (P:=Tryz.prog) w g (o+5*l0.length) 26 (.agg news.toArray) (fun j hj=>by
       have hj:j<5:=by have:j<news.toArray.size:=hj;simp at this;omega
       have:=hin j hj;refine⟨?_,?_⟩
       ·unfold World.cell?;rw[hgw];simp[this]
       ·unfold World.frozen?;rw[hgw];simp) (by rw[hf1];show some f.size=some news.toArray.size;rw[hf2,hi5];simp[hvl]) (by
       rw[Array.all_eq_true_iff_forall_mem];intro y hy
       exact hn1 y (by simpa [Value.cells] using hy))
      have hcl:(Value.agg news.toArray).cells.toList=news:=by simp[Value.cells]
      rw[hcl] at hrun;have hnew:=Gp g 26 (0,0) news (o+5*l0.length) w bs hgw;have hputA:Yu bs.toList (o+5*l0.length) news=bs.toList.take (o+5*l0.length)++news++bs.toList.drop (o+5*l0.length+news.length):=Aq _ _ _ (by simp;omega);have hB:=Lib.below_setCells g (Nat.le_refl g) news (o+5*l0.length) (Below.refl g w);have hoth:∀ k,k<w.heap.size→k≠g→(w.setCells g (o+5*l0.length) news).heap[k]? = w.heap[k]? := fun k h1 h2=>World.heap_setCells_other _ _ _ _ h1 h2
      have hglt:g<(w.setCells g (o+5*l0.length) news).heap.size:=(Array.getElem?_eq_some_iff.1 hnew).1;have hgf:s2.foot g≠none:=by rw[hg];simp
      have hFlt:∀ k,F k≠none→k<w.heap.size:=fun k hk=>by
       unfold L9 at hbel;cases d with
       |none=>dsimp only at hbel;rw[hbel] at hk;exact absurd rfl hk
       |some dn=>
        obtain⟨-,md,sd,b1,b2,rfl⟩:=hbel;obtain⟨s,z1,-,z3,-⟩:=hr.at_ _ _ b1;obtain rfl:s=sd:=Option.some.inj (z1.symm.trans b2);exact z3 k hk
      have hFg:F g=none:=by
       cases hx:F g with
       |none=>rfl
       |some x=>
        exfalso;have hFn:F g≠none:=by rw[hx];simp
        unfold L9 at hbel;cases d with
        |none=>dsimp only at hbel;rw[hbel] at hx;cases hx
        |some dn=>
         obtain⟨-,md,sd,b1,b2,rfl⟩:=hbel;exact hne (by rw[hr.one _ _ _ _ _ _ g b1 hc2 b2 hs2 hFn hgf])
      obtain⟨u0,u1,u2,u3,u4,rfl⟩:=list5 hvl;have hcell:∀ j,(w.setCells g (o+5*l0.length) [u0,u1,u2,u3,u4]).cell? ⟨g,j,none⟩=(Yu bs.toList (o+5*l0.length) [u0,u1,u2,u3,u4])[j]? := fun j=>by
       unfold World.cell?
       rw[hnew];simp
      have R:=Qrq C hr hc2 hs2 h64 hbel hne hB.os hB.tape hB.output hB.size (.inl hgf) hoth hp (m:=8*y+2) (v:=s2.val) (by
       unfold Jj;rw[show (8*y+2) % 8=2 by omega,show (8*y+2) / 8=y by omega];refine⟨some ⟨g,o,none⟩,cc,by rw[hT2];simpa using hval2,by rw[hT2];simpa using hlc,hcm2,fun k hk=>?_,.inr ⟨g,o,(Yu bs.toList (o+5*l0.length) [u0,u1,u2,u3,u4]).toArray,rfl,?_,?_,?_⟩⟩
       ·rcases (Pi hk).1 with rfl|h1|h1
        ·exact hfS _ hgf
        ·exact hfS _ h1
        ·exact hFS _ h1
       ·show Nb _ g s2.foot F g=_
        rw[Dq (.inl rfl),hnew]
       ·simpa [Y0] using hroom
       ·intro W hW;rw[hT2];refine grown hglt hFg hoth hfoot hFlt (.inr ⟨g,o,Xp.Qry (hrows w hfoot),.inl rfl,fun j hj=>?_⟩) hnode (fun j u hj=>?_) hW
        ·rw[hcell,hputA];unfold World.cell?
         rw[hgw];show _=bs[o+j]?
         rw[List.append_assoc,List.getElem?_append_left (by simp;omega),List.getElem?_take,if_pos Dw,Array.getElem?_toList]
        ·have hj5:=(List.getElem?_eq_some_iff.1 hj).1;rw[hcell,hputA];have e1:o+5*l0.length+j=(bs.toList.take (o+5*l0.length)).length+j:=by
          have:=hin 0 Dw;simp;omega
         rw[e1,List.append_assoc,List.getElem?_append_right Dw,Nat.add_sub_cancel_left,List.getElem?_append_left hj5]
         exact hj)
      refine⟨rfl,p.add ne ⟨0,0,0,0,s2.val,Nb (w.setCells g (o+5*l0.length) [u0,u1,u2,u3,u4]) g s2.foot F⟩,w.setCells g (o+5*l0.length) [u0,u1,u2,u3,u4],(),?_,trivial,?_,Xb.U4 hp,Yj⟩
      ·rw[hev];unfold Instr.storeAt Instr.sureAddr;rw[Sem.run_bind,Sem.run_pure,Result.andThen_ok];exact hrun
      ·have R2:=R.put (c:=c2) (s:=s2) (o:=.fwd ne) (Xb.U4 hp _ _ hs2) (by
        rw[Tree.Qu,if_neg hcn];unfold Qpk;cases d with
        |none=>dsimp only;rw[Tree.Qu,if_pos rfl]
        |some dn=>
         dsimp only;rw[Tree.Qu,Tree.Qu];split
         ·rfl
         ·rw[if_pos rfl]) (fun k hk=>hk.elim) (fun _ k hk=>hk.elim) (fun k hk=>hk.elim) ⟨_,Xb.Vy _ _ _,rfl⟩ (fun m e=>by cases e)
       refine R2.congr fun x=>?_
       rw[Tree.Qu,Tree.Qu,Tree.Qu,Tree.Qu];by_cases x1:x=c2
       ·rw[if_pos x1,if_pos x1]
       ·rw[if_neg x1,if_neg x1];by_cases x2:x=ne
        ·rw[if_pos x2,if_pos x2]
        ·rw[if_neg x2,if_neg x2];unfold Qpk;cases d with
         |none=>dsimp only;rw[Tree.Qu,if_neg x1]
         |some dn=>
          dsimp only;rw[Tree.Qu,Tree.Qu,Tree.Qu,if_neg x1]
    ·cases e4
   ·cases e4
  ·cases e2
 ·cases e2
end
end Prs
end
section
open Go.RowKit
namespace Prs
open Ev
structure OpT where
 nxt:List (Nat×Nat)
 app:List (Nat×Sp×Nat)
 put:List (Nat×Sp×Nat)
 pos:List Nat
noncomputable def opxC (T:OpT)(b:Builtin)(ts:List TypeId)(ys:List Operand)(ρ:Operand→Option Value):Option (M Q4 Value):=match b with
 | .append=>match ys with
  | [x,y]=>(match ρ x with
   |some (.chan (some c))=>(match ρ y with
    |some (.slice (some ⟨r,0,none⟩) 1 _)=>(match ts with
     | [t,tx]=>if t=24∧tx=24 then some (appM T.pos T.app c r) else none
     |_=>none)
    |_=>none)
   |_=>none)
  |_=>none
 | .len=>match ys with
  | [x]=>(match ρ x with
   |some (.chan (some c))=>(match ts with
    | [t]=>if t=24 then some (lenM c) else none
    |_=>none)
   |_=>none)
  |_=>none
 |_=>none
noncomputable def opxA (T:OpT)(o:Oper)(ρ:Operand→Option Value):Option (M Q4 Value):=match o.op with
 | .slice _ _ _ _ _=>opxS T.nxt o ρ
 | .call q=>(match q.callee with
  | .builtin b=>opxC T b q.argTypes.toList q.args.toList ρ
  |_=>none)
 | .indexAddr t x y=>(match ρ x with
  |some (.chan (some c))=>(match ρ y with
   |some (.chan (some d))=>if t=24 then some (idxM T.app c d) else none
   |_=>none)
  |_=>none)
 | .store t a x=>(match ρ a with
  |some (.chan (some e))=>(match ρ x with
   |some (.agg cells)=>if t=26 then some (stoM T.pos T.put e cells.toList) else none
   |_=>none)
  |_=>none)
 |_=>none
theorem Qoe (T:OpT)(b:Builtin)(ts:List TypeId)(ys:List Operand)(ρ σ:Operand→Option Value)(h:∀ x∈ys,ρ x=σ x):opxC T b ts ys ρ=opxC T b ts ys σ:=by
 unfold opxC;split
 ·split
  ·rw[h _ Ds,h _ Ds]
  ·rfl
 ·split
  ·rw[h _ Ds]
  ·rfl
 ·rfl
theorem Qog (T:OpT)(o:Oper)(ρ σ:Operand→Option Value)(h:∀ x∈o.op.operands.toList,ρ x=σ x):opxA T o ρ=opxA T o σ:=by
 unfold opxA;split
 ·exact Qoc T.nxt o ρ σ h
 ·rename_i q hop;rw[hop] at h;split
  ·exact Qoe _ _ _ _ _ _ fun x hx=>h x (by simp[Op.operands,Call.operands,Array.mem_toList_iff.1 hx])
  ·rfl
 ·rename_i t x y hop;rw[hop] at h;rw[h x (by simp[Op.operands]),h y (by simp[Op.operands])]
 ·rename_i t a x hop;rw[hop] at h;rw[h a (by simp[Op.operands]),h x (by simp[Op.operands])]
 ·rfl
theorem Qio {T:OpT}{b:Builtin}{ts:List TypeId}{ys:List Operand}{ρ:Operand→Option Value}{m:M Q4 Value}(h:opxC T b ts ys ρ=some m):
  (∃ x y c r cp,b=.append∧ys=[x,y]∧ts=[24,24]∧ρ x=some (tk c)∧ρ y=some (.slice (some ⟨r,0,none⟩) 1 cp)∧m=appM T.pos T.app c r)∨
  (∃ x c,b=.len∧ys=[x]∧ts=[24]∧ρ x=some (tk c)∧m=lenM c):=by
 unfold opxC at h;split at h
 ·split at h
  ·rename_i x y;split at h
   ·rename_i c hx;split at h
    ·rename_i r cp hy;split at h
     ·split at h
      ·rename_i ht;cases h;exact .inl ⟨x,y,c,r,cp,rfl,rfl,by rw[ht.1,ht.2],hx,hy,rfl⟩
      ·cases h
     ·cases h
    ·cases h
   ·cases h
  ·cases h
 ·split at h
  ·rename_i x;split at h
   ·rename_i c hx;split at h
    ·split at h
     ·rename_i ht;cases h;exact .inr ⟨x,c,rfl,rfl,by rw[ht],hx,rfl⟩
     ·cases h
    ·cases h
   ·cases h
  ·cases h
 ·cases h
theorem Qof (T:OpT)(o:Oper)(ρ:Operand→Option Value)(m:M Q4 Value)(h:opxA T o ρ=some m):M.Local m:=by
 unfold opxA at h;split at h
 ·obtain⟨_,_,c,-,-,-,rfl⟩:=Qim h;exact Qop _ _
 ·split at h
  ·rcases Qio h with ⟨x,y,c,r,cp,-,-,-,-,-,rfl⟩|⟨x,c,-,-,-,-,rfl⟩
   ·exact Qoz _ _ _ _
   ·exact Qou _
  ·cases h
 ·split at h
  ·split at h
   ·split at h
    ·cases h;exact Qov _ _ _
    ·cases h
   ·cases h
  ·cases h
 ·split at h
  ·split at h
   ·split at h
    ·cases h;exact Qoq _ _ _ _
    ·cases h
   ·cases h
  ·cases h
 ·cases h
section
variable {b:Nat} {E:Env} {N:Va} {K:Cfg} {O:Nat→Prop} {w0 w:World} {cs:List Xt} {p:Xb} {h:Tree Q4}
theorem valO {s:Sem Value}{c c':Nat}{h':Tree Q4}{v:Value}(hg:Gives Tryz.prog K O w0 p w c c' h' VR s v):U7 Tryz.prog K O w0 p w c c' h' (do pure (.value (← s))) (.val v):=by
 obtain⟨p',w',y,k1,k2,k3⟩:=hg;refine⟨p',w',.value y,?_,⟨y,rfl,k2⟩,k3⟩;rw[Sem.run_bind,k1];rfl
theorem orc_opsA (C:Ctx b E N K O w0 cs){T:OpT}(hn:∀ x∈T.nxt,∃ t,N.L x.1=t::N.L x.2)(happ:Qcj N T.app)(hput:Qht N T.put)(hpos:L8 N T.pos):
  ∀ (o:Oper) (ρ:Ev.Env) (m:M Q4 Value),opxA T o ρ=some m→∀ (h:Tree Q4) (c:Nat) (v:Value) (h':Tree Q4) (c':Nat) (l:Log),M.Rng h c c'→m h c=.ok v h' c' l→
  ∀ (p:Xb) (w:World) (ρ':Operand→Value),Rel K O w0 p h w→EnvR p ρ ρ'→Free p c c'→U7 Tryz.prog K O w0 p w c c' h' (execOp ρ' o) (.val v)∨(v=undef∧U7 Tryz.prog K O w0 p w c c' h' (execOp ρ' o) .skip):=by
 intro o ρ m hm h c v h' c' l hrng e p w ρ' hr hρ hf;unfold opxA at hm;split at hm
 ·exact orc_op C hn o ρ m hm h c v h' c' l hrng e p w ρ' hr hρ hf
 ·rename_i q hop;split at hm
  ·rename_i bi hq;obtain⟨consts,hex⟩:∃ consts,execOp ρ' o=builtin bi q.argTypes o.type consts (q.args.map ρ'):=by
    refine⟨q.args.map fun | .const _=>true|_=>false,?_⟩;unfold execOp;rw[hop];dsimp only;unfold resolve;rw[hq];rfl
   rw[hex];rcases Qio hm with ⟨x,y,c1,r,cp,rfl,hys,hts,hx,hy,rfl⟩|⟨x,c1,rfl,hys,hts,hx,rfl⟩
   ·have hq1:q.argTypes = #[24,24]:=by rw[←Array.toList_inj,hts]
    have hq2:q.args.map ρ' = #[ρ' x,ρ' y]:=by rw[←Array.toList_inj,Array.toList_map,hys];rfl
    rw[hq1,hq2];exact .inl (valO (app_ok C hpos happ hr e hf (hρ x _ hx) (hρ y _ hy) o.type))
   ·have hq1:q.argTypes = #[24]:=by rw[←Array.toList_inj,hts]
    have hq2:q.args.map ρ' = #[ρ' x]:=by rw[←Array.toList_inj,Array.toList_map,hys];rfl
    rw[hq1,hq2];exact .inl (valO (len_ok C hr e hf (hρ x _ hx) rfl rfl))
  ·cases hm
 ·rename_i t x y hop;split at hm
  ·rename_i c1 hx;split at hm
   ·rename_i d hy;split at hm
    ·rename_i ht;subst ht;cases hm;unfold execOp;rw[hop];exact .inl (valO (idx_ok C happ hr e hf (hρ x _ hx) (hρ y _ hy)))
    ·cases hm
   ·cases hm
  ·cases hm
 ·rename_i t a x hop;split at hm
  ·rename_i e1 ha;split at hm
   ·rename_i cells hx;split at hm
    ·rename_i ht;subst ht;cases hm;obtain⟨rfl,p',w',y,k1,k2,k3⟩:=sto_ok C hpos hput hr e hrng hf (hρ a _ ha) (hρ x _ hx);refine .inr ⟨rfl,p',w',.skip,?_,rfl,k3⟩;unfold execOp;rw[hop];dsimp only;rw[Sem.run_bind,k1];rfl
    ·cases hm
   ·cases hm
  ·cases hm
 ·cases hm
end
end Prs
end
section
open Go.RowKit
namespace Prs
open Ev
theorem Xp.one {S:Nat→Prop}{w:World}{g:Nat}:∀ {l:List Tr} {o:Nat},Xp S w g l o→∀ i,i<5*l.length→∃ u,w.cell? ⟨g,o+i,none⟩=some u∧u.oneCell'=true
 | [],_,_,i,h=>by simp at h
 |t::l,o,hr,i,hi=>by
  unfold Xp at hr;obtain⟨⟨v0,v1,v2,v3,v4,h0,h1,h2,h3,h4,h5⟩,h6⟩:=hr;cases t;unfold X3 at h5;obtain⟨a,c,e,-⟩:=h5;cases e;rw[List.length_cons] at hi;match i,hi with
  |0,_=>exact⟨_,h0,rfl⟩
  |1,_=>exact⟨_,h1,rfl⟩
  |2,_=>exact⟨_,h2,rfl⟩
  |3,_=>exact⟨_,h3,rfl⟩
  |4,_=>exact⟨_,h4,rfl⟩
  |i+5,hi=>
   obtain⟨u,e1,e2⟩:=Xp.one h6 i Dw;exact⟨u,by rw[←e1];congr 2;omega,e2⟩
theorem Qf7 (w:World)(g o n c m:Nat)(v2:Value)(bs:Array Value)(news:List Value)(ty:TypeId)(hnc:n≤c)(hge':c<n+m)(hbig:n+m≤4294967297)(hg:w.heap[g]? = some (.cells bs 26 (0,0)))(hsz:o+c*5≤bs.size)
  (h5:news.length=m*5) (hsrc:∀ sz,sz=5→Src Tryz.prog sz 24 v2 m news w):
  ∃ (w':World) (c':Nat) (bs':Array Value),(Builtin.append_ #[24,24] ty #[.slice (some ⟨g,o,none⟩) n c,v2]).run Tryz.prog w=.ok (.slice (some ⟨w.heap.size,0,none⟩) (n+m) c') w'∧n+m≤c'∧c'≤maxLen∧
   Below w.heap.size w w'∧w'.heap[w.heap.size]? = some (.cells bs' 26 (0,0))∧c' * 5≤bs'.size∧
   (∀ j u,news[j]? = some u→w'.cell? ⟨w.heap.size,5*n+j,none⟩=some u)∧(∀ i,i<5*n→w'.cell? ⟨w.heap.size,i,none⟩=w.cell? ⟨g,o+i,none⟩):=by
 obtain⟨i,hi,hi5,hib⟩:=G8;obtain⟨f,hf1,hf2,hf3,hf4⟩:=hi.info;have hsrc:=hsrc f.size (by rw[hf2,hi5]);obtain⟨olds,hold,hlen,hcells⟩:∃ olds:List Value,(Builtin.firstCells f.size n (.slice (some ⟨g,o,none⟩) n c)).run Tryz.prog w.drew=.ok olds.toArray w.drew∧olds.length=n*5∧∀ i,i<5*n→olds[i]? = w.cell? ⟨g,o+i,none⟩:=by
  have hsz2:o+n*5≤bs.size:=by omega
  refine⟨(bs.toList.drop o).take (n*5),?_,by simp;omega,fun i hi2=>?_⟩
  ·rw[hf2,hi5];refine Qaf (w:=w) (fun j v hj=>?_) (by simp;omega);rw[List.getElem?_take] at hj;split at hj
   ·rw[List.getElem?_drop] at hj;unfold World.cell?
    rw[hg];simpa using hj
   ·cases hj
  ·rw[List.getElem?_take,if_pos Dw,List.getElem?_drop];unfold World.cell?
   rw[hg];simp
 have h63:((n+m:Nat):Int)≤9223372036854775807:=by omega
 have hb:(n+m)*f.bytes≤140737488355328:=by
  rw[hf3];exact Nat.le_trans (Nat.mul_le_mul hbig hib) Dd
 have hrun:=run_append_grow_src w 24 24 ty 26 f i.zero Ul hf1 hf4 (some ⟨g,o,none⟩) n c olds hold v2 m news hsrc hge' h63 (growslice_fits hge' hb);have hge:=grownCap_ge w (n+m) c 26;have hle:=grownCap_le_maxLen w (n+m) c 26 (by unfold maxLen;omega);generalize grownCap w (n+m) c 26=C at hrun hge hle;have hzs:=hi.zsize;have hzc:(Builtin.zeroCells i.zero.cells (C-(n+m))).size=(C-(n+m))*5:=by simp[Builtin.zeroCells,hzs,hi5]
 have hB:Below w.heap.size w (w.drew.alloc (.cells ((olds++news).toArray++Builtin.zeroCells i.zero.cells (C-(n+m))) 26)):=((Below.refl _ _).drew).alloc (Nat.le_refl _) _;have hnew:=heap_alloc_new' w.drew (.cells ((olds++news).toArray++Builtin.zeroCells i.zero.cells (C-(n+m))) 26);refine⟨_,C,_,hrun,hge,hle,hB,hnew,?_,?_,?_⟩
 ·rw[Array.size_append,hzc];simp[hlen,h5];omega
 ·intro j u hj;have hj5:=(List.getElem?_eq_some_iff.1 hj).1;unfold World.cell?
  rw[show (w.drew.alloc (.cells ((olds++news).toArray++Builtin.zeroCells i.zero.cells (C-(n+m))) 26)).heap[w.heap.size]? = _ from hnew];show ((olds++news).toArray++Builtin.zeroCells i.zero.cells (C-(n+m)))[5*n+j]? = some u
  rw[Array.getElem?_append_left (by simp;omega),List.getElem?_toArray,List.getElem?_append_right Dw,show 5*n+j-olds.length=j by omega];exact hj
 ·intro j hj;rw[←hcells j hj];unfold World.cell?
  rw[show (w.drew.alloc (.cells ((olds++news).toArray++Builtin.zeroCells i.zero.cells (C-(n+m))) 26)).heap[w.heap.size]? = _ from hnew];show ((olds++news).toArray++Builtin.zeroCells i.zero.cells (C-(n+m)))[j]? = olds[j]?
  rw[Array.getElem?_append_left (by simp;omega),List.getElem?_toArray,List.getElem?_append_left Dw]
section
variable {b:Nat} {E:Env} {N:Va} {K:Cfg} {O:Nat→Prop} {w0 w:World} {cs:List Xt} {p:Xb} {h:Tree Q4} {pos:List Nat}
def Cj:List Xt→Nat→Option (Option (Sp×Nat))
 | [],_=>none
 |c::cs,i=>match c.res with
  | .cons m y=>(match Nat.beq m i with
   |true=>some y
   |false=>Cj cs i)
  |_=>Cj cs i
theorem Ld:∀ {cs:List Xt} {i:Nat} {y:Option (Sp×Nat)},Cj cs i=some y→∃ c∈cs,c.res=.cons i y
 | [],_,_,h=>by cases h
 |c::cs,i,y,h=>by
  unfold Cj at h;split at h
  ·rename_i m y' hr;split at h
   ·rename_i hb;cases h;exact⟨c,List.mem_cons_self ..,by rw[hr,Nat.eq_of_beq_eq_true hb]⟩
   ·obtain⟨c',h1,h2⟩:=Ld h;exact⟨c',List.mem_cons_of_mem _ h1,h2⟩
  ·obtain⟨c',h1,h2⟩:=Ld h;exact⟨c',List.mem_cons_of_mem _ h1,h2⟩
noncomputable def Qpl (pos:List Nat)(cs:List Xt)(r c:Nat):M Q4 Value:=M.bind (Qih c) fun cm=>if cm.2 % 8=2∧64≤cm.1 then (match Cj cs (cm.2 / 8) with
 |some (some y)=>M.bind (Ap r) fun row=>if row.2.1=26∧row.2.2=5∧row.1.length=5 then (if y.2=1000 then M.bind (M.new (.abs 7)) fun e=>M.pure (tk e) else M.bind (Qkw pos row.1 y.1) fun d=>M.bind (M.write cm.1 none) fun _=>M.bind (delO d) fun _=>M.bind (M.new (.abs (8*y.2+2))) fun e=>M.pure (tk e)) else M.fail
 |some none=>M.pure (.slice (some ⟨r,0,none⟩) 1 1)
 |none=>M.fail) else M.fail
theorem Qk4 (pos:List Nat)(cs:List Xt)(r c:Nat):M.Local (Qpl pos cs r c):=by
 unfold Qpl;refine M.Qh (F7 _) fun cm=>?_
 split
 ·split
  ·refine M.Qh (Us _) fun row=>?_
   split
   ·split
    ·exact M.Qh (M.Vj _) fun _=>M.Qi _
    ·exact M.Qh (Eu _ _ _) fun _=>M.Qh (M.Vb _ _) fun _=>M.Qh (Qbi _) fun _=>M.Qh (M.Vj _) fun _=>M.Qi _
   ·exact M.Qe
  ·exact M.Qi _
  ·exact M.Qe
 ·exact M.Qe
theorem Rt.src (w:World){S:Nat→Prop}{s:V9}{ts:List Tr}(h:Rt S s ts)(hf:∀ k o,s.foot k=some o→w.heap[k]? = some o):∃ news:List Value,news.length=ts.length*5∧(∀ sz,sz=5→Src Tryz.prog sz 24 s.val ts.length news w)∧
  (ts=[]∨∃ g o,s.foot g≠none∧Xp (fun k=>s.foot k≠none∧k≠g) w g ts o∧∀ i,i<5*ts.length→news[i]? = w.cell? ⟨g,o+i,none⟩):=by
 obtain⟨a,c,hv,hlc,-,-,hl⟩:=h;rcases hl with ⟨rfl,rfl,rfl⟩|⟨g,o,bs,rfl,h1,h2,h3⟩
 ·refine⟨[],rfl,fun sz _=>?_,.inl rfl⟩;rw[hv];exact Src.ofNil w Ul 0
 ·have hb:=hf g _ h1;have hN:=h3 w hf;have hcell:∀ i,i<5*ts.length→((bs.toList.drop o).take (ts.length*5))[i]? = w.cell? ⟨g,o+i,none⟩:=fun i hi=>by
   rw[List.getElem?_take,if_pos Dw,List.getElem?_drop];unfold World.cell?
   rw[hb];simp
  have hlen:((bs.toList.drop o).take (ts.length*5)).length=ts.length*5:=by simp;omega
  refine⟨(bs.toList.drop o).take (ts.length*5),hlen,fun sz hs=>?_,.inr ⟨g,o,by rw[h1];simp,hN,hcell⟩⟩;rw[hv];subst hs;refine Src.ofSlice w Ul _ _ c _ hlen (fun j u hj=>?_) fun u hu=>?_
  ·have hj2:=(List.getElem?_eq_some_iff.1 hj).1;rw[Addr.add_mid,←hcell j Dw];exact hj
  ·obtain⟨j,hj1,hj2⟩:=List.getElem_of_mem hu;obtain⟨u',e1,e2⟩:=hN.one j Dw;rw[←hcell j Dw,List.getElem?_eq_getElem hj1] at e1;cases e1;rw[←hj2];exact e2
theorem Nr (w:World)(g o n c:Nat)(v2:Value)(ty:TypeId)(hnc:n≤c)(hsrc:∀ sz,sz=5→Src Tryz.prog sz 24 v2 0 [] w):(Builtin.append_ #[24,24] ty #[.slice (some ⟨g,o,none⟩) n c,v2]).run Tryz.prog w=.ok (.slice (some ⟨g,o,none⟩) n c) w:=by
 obtain⟨i,hi,hi5,hib⟩:=G8;obtain⟨f,hf1,hf2,hf3,hf4⟩:=hi.info;exact run_append_room_src w 24 24 ty 26 f Ul hf1 g o n c v2 0 [] (hsrc f.size (by rw[hf2,hi5])) Dw (fun j hj=>by cases hj) (fun j hj=>by cases hj)
theorem cons_ok (C:Ctx b E N K O w0 cs)(hpos:L8 N pos)(hr:Rel K O w0 p h w){ci r c:Nat}{v:Value}{h':Tree Q4}{c':Nat}{l:Log}(e:Qpl pos cs r ci h c=.ok v h' c' l)(hf:Free p c c'){v1 v2:Value}(hv1:VR p (.slice (some ⟨r,0,none⟩) 1 1) v1)(hv2:VR p (tk ci) v2)(ty:TypeId):
  Gives Tryz.prog K O w0 p w c c' h' VR (Builtin.append_ #[24,24] ty #[v1,v2]) v:=by
 unfold Qpl at e;obtain⟨cm,h1,c1,l1,l2,e1,e2⟩:=Qr e;obtain⟨rfl,rfl,hcm,hfw⟩:=Qcp (K:=K) (O:=O) (w0:=w0) (w:=w) (p:=p) e1;have hv2:=hfw v2 hr hv2;obtain⟨c2,m⟩:=cm;dsimp only at e2 hcm hv2;split at e2
 ·rename_i hc;obtain⟨hm8,h64⟩:=hc;obtain⟨sr,hsr,hv1'⟩:∃ sr,p r=some sr∧v1=.slice (some ⟨sr.blk,sr.off,none⟩) 1 1:=by
   cases hv1 with
   |slice hs _ _=>exact⟨_,hs,rfl⟩
  cases hv2 with
  |@tok _ s2 hs2 _=>
  have hG:=C.Qo1 hr hcm hs2 hm8;have hfoot:=Ctx.foot hr hcm hs2;obtain⟨news,n1,n2,n3⟩:=Rt.src w hG hfoot;cases hy:Cj cs (m / 8) with
  |none=>rw[hy] at e2;cases e2
  |some y=>
   rw[hy] at e2;obtain⟨cc0,hcc1,hcc2⟩:=Ld hy;have hcall:=C.calls cc0 hcc1;unfold Uc at hcall;rw[hcc2] at hcall;cases y with
   |none=>
    obtain⟨rfl,rfl,rfl⟩:=Qn e2;have hcall:N.TS (m / 8)=[]:=hcall;rw[hcall] at n1 n2;obtain rfl:=List.length_eq_zero_iff.1 n1;refine Gives.quiet (y:=v1) hr ?_ hv1;rw[hv1'];exact Nr w sr.blk sr.off 1 1 s2.val ty (Nat.le_refl 1) n2
   |some y=>
   obtain⟨sp,y⟩:=y;obtain⟨hlen,hcall⟩:(N.TS (m / 8)).length≤4294967296∧(y≠1000→N.TS (m / 8)≠[]∧N.TS y=den N sp::N.TS (m / 8)):=hcall;dsimp only at e2;obtain⟨row,h2,c3,l3,l4,e3,e4⟩:=Qr e2;obtain⟨hrow,rfl,rfl⟩:=Tq e3;obtain⟨cells,t,sz⟩:=row;dsimp only at e4 hrow;split at e4
   ·rename_i hc5;obtain⟨rfl,rfl,hc5⟩:=hc5;obtain⟨sr',r1,-,r3,r4⟩:=hr.at_ _ _ hrow;obtain rfl:sr'=sr:=Option.some.inj (r1.symm.trans hsr);obtain⟨bs,fr,ra,rb,rc,rd,-,rz⟩:=Nh.at_ r4;obtain rfl:=rz Dd;by_cases hy0:y=1000
    ·rw[if_pos hy0] at e4;obtain⟨ne,h8,c8,l13,l14,e13,e14⟩:=Qr e4;obtain⟨rfl,rfl,rfl⟩:=Uo e13;obtain⟨rfl,rfl,rfl⟩:=Qn e14;have hp:=hf ne (Nat.le_refl _) Dw;obtain⟨w',u,hrun,hB,hone⟩:∃ (w':World) (u:Value),(Builtin.append_ #[24,24] ty #[v1,s2.val]).run Tryz.prog w=.ok u w'∧Below w.heap.size w w'∧u.oneCell'=true:=by
      rw[hv1'];by_cases hn:N.TS (m / 8)=[]
      ·rw[hn] at n1 n2;obtain rfl:=List.length_eq_zero_iff.1 n1;exact⟨w,_,Nr w sr'.blk sr'.off 1 1 s2.val ty (Nat.le_refl 1) n2,Below.refl _ _,rfl⟩
      ·have hm1:0<(N.TS (m / 8)).length:=List.length_pos_iff.2 hn;obtain⟨w',c',bs',hrun,-,-,hB,-⟩:=Qf7 w sr'.blk sr'.off 1 1 _ s2.val bs news ty (Nat.le_refl 1) Dw Dw ra Dw n1 n2;exact⟨w',_,hrun,hB,rfl⟩
     have R:=(hr.quiet hB).take (o:=.abs 7) (c:=ne) (s:=⟨0,0,0,0,u,noF⟩) hp (fun k hk=>absurd rfl hk) (fun _ k hk=>absurd rfl hk) (fun k hk=>absurd rfl hk) (fun k o hk=>by cases hk) (fun m' e=>by
      cases e;rw[C.mean]
      exact trivial)
     exact⟨_,w',u,hrun,VR.tok (s:=⟨0,0,0,0,u,noF⟩) (Xb.Vy _ _ _) hone,R,Xb.U4 hp,Yj⟩
    rw[if_neg hy0] at e4;obtain⟨hne,hTS⟩:=hcall hy0;have hm1:0<(N.TS (m / 8)).length:=List.length_pos_iff.2 hne;obtain⟨d,h4,c4,l5,l6,e5,e6⟩:=Qr e4;obtain⟨rfl,rfl,F,hbel,hnode,hFS,hvl⟩:=Qg0 C hr hpos e5 rd;obtain⟨_,h5,c5,l7,l8,e7,e8⟩:=Qr e6;obtain⟨rfl,rfl⟩:=Yr e7;obtain⟨_,h6,c6,l9,l10,e9,e10⟩:=Qr e8;obtain⟨rfl,rfl,hdd⟩:=Qlm e9;obtain⟨ne,h8,c8,l13,l14,e13,e14⟩:=Qr e10;obtain⟨rfl,rfl,rfl⟩:=Uo e13;obtain⟨rfl,rfl,rfl⟩:=Qn e14;have hp:=hf ne (Nat.le_refl _) Dw;have hfS:∀ k,s2.foot k≠none→N.S k:=by obtain⟨_,_,-,-,-,h4,-⟩:=hG;exact h4
    rw[hc5] at rd rc hvl hnode;obtain⟨w',c',bs',hrun,q1,q2,hB,q7,q8,q10,q12⟩:=Qf7 w sr'.blk sr'.off 1 1 _ s2.val bs news ty (Nat.le_refl 1) Dw Dw ra Dw n1 n2;have hglt:w.heap.size<w'.heap.size:=(Array.getElem?_eq_some_iff.1 q7).1;have hne2:d≠some c2:=fun hh=>hdd c2 hh (by rw[Tree.Qu,if_pos rfl])
    have hFlt:∀ k,F k≠none→k<w.heap.size:=fun k hk=>by
     unfold L9 at hbel;cases d with
     |none=>dsimp only at hbel;rw[hbel] at hk;exact absurd rfl hk
     |some dn=>
      obtain⟨-,md,sd,b1,b2,rfl⟩:=hbel;obtain⟨s,z1,-,z3,-⟩:=hr.at_ _ _ b1;obtain rfl:s=sd:=Option.some.inj (z1.symm.trans b2);exact z3 k hk
    have h2lt:∀ k,s2.foot k≠none→k<w.heap.size:=fun k hk=>by
     cases hx:s2.foot k with
     |none=>exact absurd hx hk
     |some o=>exact(Array.getElem?_eq_some_iff.1 (hfoot k o hx)).1
    have R:=Qrq C hr hcm hs2 h64 hbel hne2 hB.os hB.tape hB.output hB.size (g':=w.heap.size) (.inr rfl) (fun k h1 _=>hB.block k h1) hp (v:=.slice (some ⟨w.heap.size,0,none⟩) (1+(N.TS (m / 8)).length) c') (m:=8*y+2) (by
     unfold Jj;rw[show (8*y+2) % 8=2 by omega,show (8*y+2) / 8=y by omega];refine⟨some ⟨w.heap.size,0,none⟩,c',by rw[hTS,List.length_cons,Nat.add_comm],by rw[hTS,List.length_cons];omega,q2,fun k hk=>?_,.inr ⟨w.heap.size,0,bs',rfl,?_,by omega,?_⟩⟩
     ·rcases (Pi hk).1 with rfl|h1|h1
      ·exact C.s _ hr.below.size
      ·exact hfS _ h1
      ·exact hFS _ h1
     ·show Nb w' w.heap.size s2.foot F w.heap.size=_
      rw[Dq (.inl rfl),q7]
     ·intro W hW;have same:∀ k,(k=w.heap.size∨s2.foot k≠none∨F k≠none)→k<w'.heap.size→W.heap[k]? = w'.heap[k]? := fun k h1 h2=>by
       have e0:=Dq (w':=w') h1;have h3:w'.heap[k]? = some (w'.heap[k]'h2):=Array.getElem?_eq_getElem h2;rw[h3];exact hW k _ (e0.trans h3)
      have ne0:∀ k,(k=w.heap.size∨s2.foot k≠none∨F k≠none)→k<w'.heap.size→Nb w' w.heap.size s2.foot F k≠none:=fun k h1 h2=>by
       rw[Dq (w':=w') h1,Array.getElem?_eq_getElem h2];simp
      have cellW:∀ i,W.cell? ⟨w.heap.size,i,none⟩=w'.cell? ⟨w.heap.size,i,none⟩:=fun i=>by
       unfold World.cell?
       dsimp only;rw[same _ (.inl rfl) hglt]
      have old:∀ k,k<w.heap.size→(s2.foot k≠none∨F k≠none)→W.heap[k]? = w.heap[k]? ∧ Nb w' w.heap.size s2.foot F k≠none∧k≠w.heap.size:=fun k h1 h2=>
       ⟨(same k (.inr h2) Dw).trans (hB.block k h1),ne0 k (.inr h2) Dw,by omega⟩
      obtain⟨u0,u1,u2,u3,u4,hu⟩:=list5 hvl;have hnc:∀ j u,[u0,u1,u2,u3,u4][j]? = some u→W.cell? ⟨w.heap.size,0+j,none⟩=some u:=fun j u hj=>by
       have hj5:=(List.getElem?_eq_some_iff.1 hj).1;rw[cellW,Nat.zero_add,q12 j (by simpa using hj5)];rw[←hu,List.getElem?_take] at hj;split at hj
       ·rw[List.getElem?_drop] at hj;unfold World.cell?
        rw[ra];simpa using hj
       ·cases hj
      rw[hu] at hnode;show Xp _ W w.heap.size (N.TS y) 0
      rw[hTS];unfold Xp;refine⟨⟨u0,u1,u2,u3,u4,hnc 0 _ rfl,hnc 1 _ rfl,hnc 2 _ rfl,hnc 3 _ rfl,hnc 4 _ rfl,X3.frame (fun k hk1 hk2=>(old k hk2 (.inr hk1)).2) (fun k hk1 hk2=>(old k hk2 (.inr hk1)).1) hnode⟩,?_⟩;obtain⟨g,o,g1,g2,g3⟩:=n3.resolve_left hne;refine Xp.Qgv (fun k hk1 hk2=>(old k hk2 (.inl hk1.1)).2) (fun k hk1 hk2=>(old k hk2 (.inl hk1.1)).1) (fun i hi=>?_) g2;have hi2:i<news.length:=by omega
      rw[cellW,←g3 i hi,List.getElem?_eq_getElem hi2,show 0+5+i=5*1+i by omega]
      exact q10 i _ (List.getElem?_eq_getElem hi2))
    refine⟨_,w',_,by rw[hv1'];exact hrun,VR.tok (Xb.Vy _ _ _) rfl,R,Xb.U4 hp,Yj⟩
   ·cases e4
 ·cases e2
end
end Prs
end
end Go.Proofs.YtcbkeecabcbogaaGreatDoor
