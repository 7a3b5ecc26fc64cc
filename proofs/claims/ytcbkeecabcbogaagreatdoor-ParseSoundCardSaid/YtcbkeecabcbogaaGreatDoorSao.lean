/- Scripts: more operations that are told, and all of them. Scr -/
import Derived.Test.YtcbkeecabcbogaaGreatDoorSan
set_option linter.unusedSimpArgs false
set_option linter.unusedVariables false
namespace Go.Proofs.YtcbkeecabcbogaaGreatDoor
section
open Go.RowKit
namespace Prs
open Ev
def Ci:List Xt→Nat→Option Bool
 | [],_=>none
 |c::cs,i=>match c.res with
  | .more m r=>(match Nat.beq m i with
   |true=>some r
   |false=>Ci cs i)
  |_=>Ci cs i
theorem La:∀ {cs:List Xt} {i:Nat} {r:Bool},Ci cs i=some r→∃ c∈cs,c.res=.more i r
 | [],_,_,h=>by cases h
 |c::cs,i,y,h=>by
  unfold Ci at h;split at h
  ·rename_i m y' hr;split at h
   ·rename_i hb;cases h;exact⟨c,List.mem_cons_self ..,by rw[hr,Nat.eq_of_beq_eq_true hb]⟩
   ·obtain⟨c',h1,h2⟩:=La h;exact⟨c',List.mem_cons_of_mem _ h1,h2⟩
  ·obtain⟨c',h1,h2⟩:=La h;exact⟨c',List.mem_cons_of_mem _ h1,h2⟩
def Lc:List Xt→Nat→Option (Nat×Bool)
 | [],_=>none
 |c::cs,i=>match c.res with
  | .kid t u own=>(match Nat.beq t i with
   |true=>some (u,own)
   |false=>Lc cs i)
  |_=>Lc cs i
theorem Pj:∀ {cs:List Xt} {i:Nat} {y:Nat×Bool},Lc cs i=some y→∃ c∈cs,c.res=.kid i y.1 y.2
 | [],_,_,h=>by cases h
 |c::cs,i,y,h=>by
  unfold Lc at h;split at h
  ·rename_i m u own hr;split at h
   ·rename_i hb;cases h;exact⟨c,List.mem_cons_self ..,by rw[hr,Nat.eq_of_beq_eq_true hb]⟩
   ·obtain⟨c',h1,h2⟩:=Pj h;exact⟨c',List.mem_cons_of_mem _ h1,h2⟩
  ·obtain⟨c',h1,h2⟩:=Pj h;exact⟨c',List.mem_cons_of_mem _ h1,h2⟩
noncomputable def lenT (c:Nat):M Q4 Value:=M.bind (M.read c) fun o=>match o with
 | .abs m=>if m % 8=0 then M.bind (M.new (.abs (m+6))) fun d=>M.pure (tk d) else M.fail
 |_=>M.fail
noncomputable def gtrM (cs:List Xt)(d:Nat):M Q4 Value:=M.bind (M.read d) fun o=>match o with
 | .abs m=>if m % 8=6 then (match Ci cs (m / 8) with
  |some r=>M.pure (.bool r)
  |none=>M.fail) else M.fail
 |_=>M.fail
noncomputable def idxK (cs:List Xt)(c:Nat):M Q4 Value:=M.bind (M.read c) fun o=>match o with
 | .abs m=>if m % 8=1 then (match Lc cs (m / 8) with
  |some _=>M.bind (M.new (.abs (8*c+5))) fun d=>M.pure (tk d)
  |none=>M.fail) else M.fail
 |_=>M.fail
abbrev treeA (u d:Nat):Value:=.agg #[tk (256+4*u),tk (256+4*u+1),tk (256+4*u+2),tk (256+4*u+3),tk d]
noncomputable def lodK (cs:List Xt)(e:Nat):M Q4 Value:=M.bind (M.read e) fun o=>match o with
 | .abs me=>if me % 8=5 then M.bind (M.read (me / 8)) fun o=>(match o with
  | .abs m=>if m % 8=1∧64≤me / 8 then (match Lc cs (m / 8) with
   |some (u,true)=>M.bind (M.write (me / 8) none) fun _=>M.bind (M.new (.abs (8*u+1))) fun d=>M.pure (treeA u d)
   |some (u,false)=>M.bind (M.new (.abs 7)) fun d=>M.pure (treeA u d)
   |none=>M.fail) else M.fail
  |_=>M.fail) else M.fail
 |_=>M.fail
theorem Qot (c:Nat):M.Local (lenT c):=by
 unfold lenT;refine M.Qh (M.Vd _) fun o=>?_
 split
 ·split
  ·exact M.Qh (M.Vj _) fun _=>M.Qi _
  ·exact M.Qe
 ·exact M.Qe
theorem Qox (cs:List Xt)(d:Nat):M.Local (gtrM cs d):=by
 unfold gtrM;refine M.Qh (M.Vd _) fun o=>?_
 split
 ·split
  ·split
   ·exact M.Qi _
   ·exact M.Qe
  ·exact M.Qe
 ·exact M.Qe
theorem Qow (cs:List Xt)(c:Nat):M.Local (idxK cs c):=by
 unfold idxK;refine M.Qh (M.Vd _) fun o=>?_
 split
 ·split
  ·split
   ·exact M.Qh (M.Vj _) fun _=>M.Qi _
   ·exact M.Qe
  ·exact M.Qe
 ·exact M.Qe
theorem Qos (cs:List Xt)(e:Nat):M.Local (lodK cs e):=by
 unfold lodK;refine M.Qh (M.Vd _) fun o=>?_
 split
 ·split
  ·refine M.Qh (M.Vd _) fun o=>?_
   split
   ·split
    ·split
     ·exact M.Qh (M.Vb _ _) fun _=>M.Qh (M.Vj _) fun _=>M.Qi _
     ·exact M.Qh (M.Vj _) fun _=>M.Qi _
     ·exact M.Qe
    ·exact M.Qe
   ·exact M.Qe
  ·exact M.Qe
 ·exact M.Qe
theorem Qnv:(Tryz.prog).underlying 37=some (.slice 46):=by kernel_rfl
section
variable {b:Nat} {E:Env} {N:Va} {K:Cfg} {O:Nat→Prop} {w0 w:World} {cs:List Xt} {p:Xb} {h:Tree Q4} {pos:List Nat}
theorem lenT_ok (C:Ctx b E N K O w0 cs)(hr:Rel K O w0 p h w){ci c:Nat}{v:Value}{h':Tree Q4}{c':Nat}{l:Log}(e:lenT ci h c=.ok v h' c' l)(hf:Free p c c'){v1:Value}(hv1:VR p (tk ci) v1)(ty:TypeId):
  Gives Tryz.prog K O w0 p w c c' h' VR (Builtin.len_ #[37] ty #[v1]) v:=by
 unfold lenT at e;obtain⟨o,h1,c1,l1,l2,e1,e2⟩:=Qr e;obtain⟨hci,rfl,rfl⟩:=U9 e1;split at e2
 ·rename_i m;split at e2
  ·rename_i hm;obtain⟨d,h2,c2,l3,l4,e3,e4⟩:=Qr e2;obtain⟨rfl,rfl,rfl⟩:=Uo e3;obtain⟨rfl,rfl,rfl⟩:=Qn e4;obtain⟨i,rfl⟩:∃ i,m=8*i:=⟨m / 8,by omega⟩;obtain⟨a,cp,rfl,-⟩:=C.tok hr hci hv1;have hp:=hf d (Nat.le_refl _) Dw
   have R:=hr.take (o:=.abs (8*i+6)) (c:=d) (s:=⟨0,0,0,0,.int .i64 ((N.L i).length:Int),noF⟩) hp (fun k hk=>absurd rfl hk) (fun _ k hk=>absurd rfl hk) (fun k hk=>absurd rfl hk) (fun k o hk=>by cases hk) (fun m' e=>by
    cases e;rw[C.mean];unfold Jj;rw[show (8*i+6) % 8=6 by omega,show (8*i+6) / 8=i by omega]
    exact⟨rfl,rfl⟩)
   refine⟨_,w,.int .i64 ((N.L i).length:Int),?_,VR.tok (s:=⟨0,0,0,0,.int .i64 ((N.L i).length:Int),noF⟩) (Xb.Vy _ _ _) rfl,R,Xb.U4 hp,Yj⟩;simp only[Builtin.len_,List.getElem?_toArray,List.getElem?_cons_zero,Sem.run_bind,run_underlying Qnv w,Result.andThen_ok,Sem.run_pure];rfl
  ·cases e2
 ·cases e2
theorem gtr_ok (C:Ctx b E N K O w0 cs)(hr:Rel K O w0 p h w){d c:Nat}{v:Value}{h':Tree Q4}{c':Nat}{l:Log}(e:gtrM cs d h c=.ok v h' c' l){v1 v2:Value}(hv1:VR p (tk d) v1)(hv2:VR p (.int .i64 0) v2)(t:TypeId)(x y:Operand):
  Gives Tryz.prog K O w0 p w c c' h' VR (do eqGuard .gtr t x y v1 v2;binOp .gtr t v1 v2) v:=by
 unfold gtrM at e;obtain⟨o,h1,c1,l1,l2,e1,e2⟩:=Qr e;obtain⟨hd,rfl,rfl⟩:=U9 e1;split at e2
 ·rename_i m;split at e2
  ·rename_i hm;cases hy:Ci cs (m / 8) with
   |none=>rw[hy] at e2;cases e2
   |some r=>
    rw[hy] at e2;obtain⟨rfl,rfl,rfl⟩:=Qn e2;obtain⟨cc0,hcc1,hcc2⟩:=La hy;have hcall:=C.calls cc0 hcc1;unfold Uc at hcall;rw[hcc2] at hcall;have hcall:decide (0<(N.L (m / 8)).length)=r:=hcall;cases hv2;cases hv1 with
    |@tok _ s hs _=>
    have hmean:=hr.mean _ _ _ hd hs;rw[C.mean] at hmean;unfold Jj at hmean;rw[hm] at hmean;obtain⟨-,hval⟩:=hmean;rw[hval];refine Gives.quiet hr (y:=.bool r) ?_ (.bool r);have hq:decide (((N.L (m / 8)).length:Int) > 0)=r:=by
     rw[←hcall];simp
    rcases Cc (op:=.gtr) (k:=.i64) (a:=((N.L (m / 8)).length:Int)) (b:=0) rfl t x y with ⟨h1,-⟩|⟨h1,-⟩
    ·rw[h1,hq];rfl
    ·rw[h1,hq];rfl
  ·cases e2
 ·cases e2
theorem idxK_ok (C:Ctx b E N K O w0 cs)(hr:Rel K O w0 p h w){ci c:Nat}{v:Value}{h':Tree Q4}{c':Nat}{l:Log}(e:idxK cs ci h c=.ok v h' c' l)(hf:Free p c c'){v1 v2:Value}(hv1:VR p (tk ci) v1)(hv2:VR p (.int .i64 0) v2):
  Gives Tryz.prog K O w0 p w c c' h' VR (Instr.indexAt 24 v1 v2) v:=by
 unfold idxK at e;obtain⟨o,h1,c1,l1,l2,e1,e2⟩:=Qr e;obtain⟨hci,rfl,rfl⟩:=U9 e1;split at e2
 ·rename_i m;split at e2
  ·rename_i hm;cases hy:Lc cs (m / 8) with
   |none=>rw[hy] at e2;cases e2
   |some y=>
    rw[hy] at e2;obtain⟨ne,h2,c2,l3,l4,e3,e4⟩:=Qr e2;obtain⟨rfl,rfl,rfl⟩:=Uo e3;obtain⟨rfl,rfl,rfl⟩:=Qn e4;have hp:=hf ne (Nat.le_refl _) Dw;obtain⟨cc0,hcc1,hcc2⟩:=Pj hy;have hcall:=C.calls cc0 hcc1;unfold Uc at hcall;rw[hcc2] at hcall;obtain⟨⟨rest,hkids⟩,-⟩:(∃ l,(N.T (m / 8)).kids=N.T y.1::l)∧y.1<16:=hcall;cases hv2;cases hv1 with
    |@tok _ s hs _=>
    obtain⟨a,cp,hval,-,hl⟩:=C.listS hr hci hs (.inl hm);unfold listOf at hval hl;rw[if_pos hm,hkids] at hval hl;obtain⟨g,o,rfl,-,-⟩:=hl.resolve_left Ds;rw[hval];obtain⟨i,hi,hi5,-⟩:=G8;obtain⟨f,hf1,hf2,hf3,hf4⟩:=hi.info
    have R:=hr.take (o:=.abs (8*ci+5)) (c:=ne) (s:=⟨0,0,0,0,.pointer (some ⟨g,o,none⟩),noF⟩) hp (fun k hk=>absurd rfl hk) (fun _ k hk=>absurd rfl hk) (fun k hk=>absurd rfl hk) (fun k o hk=>by cases hk) (fun m' e=>by
     cases e;rw[C.mean];unfold Jj;rw[show (8*ci+5) % 8=5 by omega,show (8*ci+5) / 8=ci by omega]
     exact⟨rfl,s,g,o,_,cp,Xb.U4 hp _ _ hs,hval,rfl⟩)
    refine⟨_,w,.pointer (some ⟨g,o,none⟩),?_,VR.tok (s:=⟨0,0,0,0,.pointer (some ⟨g,o,none⟩),noF⟩) (Xb.Vy _ _ _) rfl,R,Xb.U4 hp,Yj⟩;unfold Instr.indexAt;simp only[asIntOf,Sem.run_bind,Sem.run_pure,Result.andThen_ok,run_underlying Ul w];rw[if_pos ⟨by omega,by rw[List.length_cons];omega⟩];simp[sizeOf,typeInfo,hf1,Addr.add_mid,hf2,hi5,Nat.mul_comm]
  ·cases e2
 ·cases e2
theorem Ut {w:World}{g o:Nat}{v0 v1 v2 v3 v4:Value}(h0:w.cell? ⟨g,o,none⟩=some v0)(h1:w.cell? ⟨g,o+1,none⟩=some v1)(h2:w.cell? ⟨g,o+2,none⟩=some v2)(h3:w.cell? ⟨g,o+3,none⟩=some v3)(h4:w.cell? ⟨g,o+4,none⟩=some v4):w.rangeAt g o [v0,v1,v2,v3,v4]:=fun j u hj=>by
 match j,hj with
 |0,hj=>cases hj;exact h0
 |1,hj=>cases hj;exact h1
 |2,hj=>cases hj;exact h2
 |3,hj=>cases hj;exact h3
 |4,hj=>cases hj;exact h4
 |j+5,hj=>simp at hj
theorem lodK_ok (C:Ctx b E N K O w0 cs)(hr:Rel K O w0 p h w){ei c:Nat}{v:Value}{h':Tree Q4}{c':Nat}{l:Log}(e:lodK cs ei h c=.ok v h' c' l)(hf:Free p c c'){v1:Value}(hv1:VR p (tk ei) v1):
  Gives Tryz.prog K O w0 p w c c' h' VR (Instr.loadAt 26 v1) v:=by
 unfold lodK at e;obtain⟨o,h1,c1,l1,l2,e1,e2⟩:=Qr e;obtain⟨hei,rfl,rfl⟩:=U9 e1;split at e2
 ·rename_i me;split at e2
  ·rename_i hme;obtain⟨o,h2,c2,l3,l4,e3,e4⟩:=Qr e2;obtain⟨hci,rfl,rfl⟩:=U9 e3;split at e4
   ·rename_i m;split at e4
    ·rename_i hm;obtain⟨hm,h64⟩:=hm;cases hv1 with
     |@tok _ se hse _=>
     have hmean:=hr.mean _ _ _ hei hse;rw[C.mean] at hmean;unfold Jj at hmean;rw[hme] at hmean;obtain⟨-,s,g,o,n,cp,hs,hval,hpv⟩:=hmean;obtain⟨a,cp2,hval2,hfS,hl⟩:=C.listS hr hci hs (.inl hm);unfold listOf at hval2 hl;rw[if_pos hm] at hval2 hl;rw[hval] at hval2;have hfoot:=Ctx.foot hr hci hs;cases hy:Lc cs (m / 8) with
     |none=>rw[hy] at e4;cases e4
     |some y=>
      rw[hy] at e4;obtain⟨u,own⟩:=y;obtain⟨cc0,hcc1,hcc2⟩:=Pj hy;have hcall:=C.calls cc0 hcc1;unfold Uc at hcall;rw[hcc2] at hcall;obtain⟨⟨rest,hkids⟩,hu16⟩:(∃ l,(N.T (m / 8)).kids=N.T u::l)∧u<16:=hcall;rw[hkids] at hval2 hl;obtain⟨g',o',rfl,hgf,hW⟩:=hl.resolve_left Ds;obtain⟨rfl,rfl⟩:g'=g∧o'=o:=by
       injection hval2 with e1 e2 e3
       injection e1 with e1
       injection e1 with e4 e5 e6
       exact⟨e4.symm,e5.symm⟩
      have hN:=hW w hfoot;unfold Xp at hN;obtain⟨⟨v0,v1,v2,v3,v4,q0,q1,q2,q3,q4,q5⟩,-⟩:=hN;cases ht:N.T u with
      |mk kd x nn pl kids=>
      rw[ht] at q5;unfold X3 at q5;obtain⟨a5,c5,e5,hl5⟩:=q5;cases e5;obtain⟨i,hi,hi5,-⟩:=G8;obtain⟨f,hf1,hf2,hf3,hf4⟩:=hi.info;have hrun:(Instr.loadAt 26 (.pointer (some ⟨g',o',none⟩))).run Tryz.prog w=.ok (.agg [.int .i64 (kd:Int),.string ⟨x.toArray⟩,.int .u64 (nn:Int),.int .i64 (pl:Int),.slice a5 kids.length c5].toArray) w:=
       run_loadAt_mid w g' o' 26 _ _ (Ut q0 q1 q2 q3 q4) Tryz.underlying26 rfl (by rw[hf1];simp[hf2,hi5])
      have vrs:∀ {q:Xb} {d:Nat} {sd:V9},AxN b N q→q d=some sd→sd.val=.slice a5 kids.length c5→VR q (treeA u d) (.agg [.int .i64 (kd:Int),.string ⟨x.toArray⟩,.int .u64 (nn:Int),.int .i64 (pl:Int),.slice a5 kids.length c5].toArray):=fun {q d sd} hax hd hdv=>by
       have hv1:∀ f v,J6 N u f=some v→f<4→VR q (tk (256+4*u+f)) v:=fun f v hfv hf4=>hax.vr (k:=256+4*u+f) (by
        unfold Xi;rw[if_neg Dw,if_neg Dw,if_pos Dw,show (256+4*u+f-256) / 4=u by omega,show (256+4*u+f-256) % 4=f by omega]
        exact hfv)
       have f0:J6 N u 0=some (.int .i64 (kd:Int)):=by unfold J6;rw[ht];rfl
       have f1:J6 N u 1=some (.string ⟨x.toArray⟩):=by unfold J6;rw[ht];rfl
       have f2:J6 N u 2=some (.int .u64 (nn:Int)):=by unfold J6;rw[ht];rfl
       have f3:J6 N u 3=some (.int .i64 (pl:Int)):=by unfold J6;rw[ht];rfl
       have hvd:=VR.tok hd (by rw[hdv];rfl);rw[hdv] at hvd;exact VR.agg (.cons (hv1 0 _ f0 Dw) (.cons (hv1 1 _ f1 Dw) (.cons (hv1 2 _ f2 Dw) (.cons (hv1 3 _ f3 Dw) (.cons hvd .nil)))))
      rw[hpv];cases own with
      |true=>
       obtain⟨_,h3,c3,l5,l6,e6,e7⟩:=Qr e4;obtain⟨rfl,rfl⟩:=Yr e6;obtain⟨d,h4,c4,l7,l8,e8,e9⟩:=Qr e7;obtain⟨rfl,rfl,rfl⟩:=Uo e8;obtain⟨rfl,rfl,rfl⟩:=Qn e9;have hp:=hf d (Nat.le_refl _) Dw
       have R:=hr.swap (o':=.abs (8*u+1)) (s2:=⟨0,0,0,0,.slice a5 kids.length c5,s.foot⟩) hci hs (by rw[C.n];exact h64) hp (fun k hk=>hk) (fun m' e=>by
        cases e;rw[C.mean];unfold Jj;rw[show (8*u+1) % 8=1 by omega,show (8*u+1) / 8=u by omega,ht];refine⟨a5,c5,rfl,hfS,hl5.imp id ?_⟩;rintro⟨g5,o5,rfl,hg5,-⟩;refine⟨g5,o5,rfl,hg5,fun W hWW=>?_⟩;have hN2:=hW W hWW;unfold Xp at hN2;obtain⟨⟨z0,z1,z2,z3,z4,-,-,-,-,y4,y5⟩,-⟩:=hN2;have hWg:W.heap[g']? = w.heap[g']? := by
         cases hx:s.foot g' with
         |none=>exact absurd hx hgf
         |some x=>rw[hWW g' x hx,hfoot g' x hx]
        have hz4:W.cell? ⟨g',o'+4,none⟩=some (.slice (some ⟨g5,o5,none⟩) kids.length c5):=by
         rw[←q4];unfold World.cell?
         dsimp only;rw[hWg]
        rw[hz4] at y4;cases y4;rw[ht] at y5;unfold X3 at y5;obtain⟨a6,c6,e6,hl6⟩:=y5;injection e6 with _ e6
        injection e6 with _ e6
        injection e6 with _ e6
        injection e6 with _ e6
        injection e6 with e6 _
        injection e6 with e6 _ _
        subst e6;rcases hl6 with hk0|⟨g6,o6,e7,-,h7⟩
        ·rw[show kids=[] from hk0];unfold Xp;trivial
        ·cases e7;exact h7) rfl rfl rfl (Nat.le_refl _) (fun _ _ _=>rfl) (show ∀ k o,s.foot k=some o→w.heap[k]? = some o from hfoot)
       exact⟨_,w,_,hrun,vrs (C.axp R) (Xb.Vy _ _ _) rfl,R,Xb.U4 hp,Yj⟩
      |false=>
       obtain⟨d,h4,c4,l7,l8,e8,e9⟩:=Qr e4;obtain⟨rfl,rfl,rfl⟩:=Uo e8;obtain⟨rfl,rfl,rfl⟩:=Qn e9;have hp:=hf d (Nat.le_refl _) Dw
       have R:=hr.take (o:=.abs 7) (c:=d) (s:=⟨0,0,0,0,.slice a5 kids.length c5,noF⟩) hp (fun k hk=>absurd rfl hk) (fun _ k hk=>absurd rfl hk) (fun k hk=>absurd rfl hk) (fun k o hk=>by cases hk) (fun m' e=>by
        cases e;rw[C.mean]
        exact trivial)
       exact⟨_,w,_,hrun,vrs (C.axp R) (Xb.Vy _ _ _) rfl,R,Xb.U4 hp,Yj⟩
    ·cases e4
   ·cases e4
  ·cases e2
 ·cases e2
end
noncomputable def opxD (cs:List Xt)(pos:List Nat)(b:Builtin)(ts:List TypeId)(ys:List Operand)(ρ:Operand→Option Value):Option (M Q4 Value):=match b with
 | .append=>match ys with
  | [x,y]=>(match ρ x with
   |some (.slice (some ⟨r,0,none⟩) 1 1)=>(match ρ y with
    |some (.chan (some c))=>(match ts with
     | [t,tx]=>if t=24∧tx=24 then some (Qpl pos cs r c) else none
     |_=>none)
    |_=>none)
   |_=>none)
  |_=>none
 | .len=>match ys with
  | [x]=>(match ρ x with
   |some (.chan (some c))=>(match ts with
    | [t]=>if t=37 then some (lenT c) else none
    |_=>none)
   |_=>none)
  |_=>none
 |_=>none
noncomputable def opxB (cs:List Xt)(T:OpT)(o:Oper)(ρ:Operand→Option Value):Option (M Q4 Value):=match o.op with
 | .call q=>(match q.callee with
  | .builtin b=>opxD cs T.pos b q.argTypes.toList q.args.toList ρ
  |_=>none)
 | .binOp op _ x y _=>(match op with
  | .gtr=>(match ρ x with
   |some (.chan (some d))=>(match ρ y with
    |some (.int .i64 0)=>some (gtrM cs d)
    |_=>none)
   |_=>none)
  |_=>none)
 | .indexAddr t x y=>(match ρ x with
  |some (.chan (some c))=>(match ρ y with
   |some (.int .i64 0)=>if t=24 then some (idxK cs c) else none
   |_=>none)
  |_=>none)
 | .load t a=>(match ρ a with
  |some (.chan (some e))=>if t=26 then some (lodK cs e) else none
  |_=>none)
 |_=>none
noncomputable def Qip (cs:List Xt)(T:OpT)(o:Oper)(ρ:Operand→Option Value):Option (M Q4 Value):=match opxB cs T o ρ with
 |some m=>some m
 |none=>opxA T o ρ
theorem Qod (cs:List Xt)(pos:List Nat)(b:Builtin)(ts:List TypeId)(ys:List Operand)(ρ σ:Operand→Option Value)(h:∀ x∈ys,ρ x=σ x):opxD cs pos b ts ys ρ=opxD cs pos b ts ys σ:=by
 unfold opxD;split
 ·split
  ·rw[h _ Ds,h _ Ds]
  ·rfl
 ·split
  ·rw[h _ Ds]
  ·rfl
 ·rfl
theorem Qkt (cs:List Xt)(T:OpT)(o:Oper)(ρ σ:Operand→Option Value)(h:∀ x∈o.op.operands.toList,ρ x=σ x):Qip cs T o ρ=Qip cs T o σ:=by
 have hB:opxB cs T o ρ=opxB cs T o σ:=by
  unfold opxB;split
  ·rename_i q hop;rw[hop] at h;split
   ·exact Qod _ _ _ _ _ _ _ fun x hx=>h x (by simp[Op.operands,Call.operands,Array.mem_toList_iff.1 hx])
   ·rfl
  ·rename_i op t x y ty hop;rw[hop] at h;rw[h x (by simp[Op.operands]),h y (by simp[Op.operands])]
  ·rename_i t x y hop;rw[hop] at h;rw[h x (by simp[Op.operands]),h y (by simp[Op.operands])]
  ·rename_i t a hop;rw[hop] at h;rw[h a (by simp[Op.operands])]
  ·rfl
 unfold Qip;rw[hB,Qog T o ρ σ h]
theorem Qin {cs:List Xt}{pos:List Nat}{b:Builtin}{ts:List TypeId}{ys:List Operand}{ρ:Operand→Option Value}{m:M Q4 Value}(h:opxD cs pos b ts ys ρ=some m):
  (∃ x y c r,b=.append∧ys=[x,y]∧ts=[24,24]∧ρ y=some (tk c)∧ρ x=some (.slice (some ⟨r,0,none⟩) 1 1)∧m=Qpl pos cs r c)∨
  (∃ x c,b=.len∧ys=[x]∧ts=[37]∧ρ x=some (tk c)∧m=lenT c):=by
 unfold opxD at h;split at h
 ·split at h
  ·rename_i x y;split at h
   ·rename_i r hx;split at h
    ·rename_i c hy;split at h
     ·split at h
      ·rename_i ht;cases h;exact .inl ⟨x,y,c,r,rfl,rfl,by rw[ht.1,ht.2],hy,hx,rfl⟩
      ·cases h
     ·cases h
    ·cases h
   ·cases h
  ·cases h
 ·split at h
  ·rename_i x;split at h
   ·rename_i c hx;split at h
    ·split at h
     ·rename_i ht;cases h;exact .inr ⟨x,c,rfl,rfl,by rw[ht],hx,rfl⟩
     ·cases h
    ·cases h
   ·cases h
  ·cases h
 ·cases h
theorem Qfq {cs:List Xt}{T:OpT}{o:Oper}{ρ:Operand→Option Value}{m:M Q4 Value}(h:opxB cs T o ρ=some m):
  (∃ q bi,o.op=.call q∧q.callee=.builtin bi∧opxD cs T.pos bi q.argTypes.toList q.args.toList ρ=some m)∨
  (∃ t x y ty d,o.op=.binOp .gtr t x y ty∧ρ x=some (tk d)∧ρ y=some (.int .i64 0)∧m=gtrM cs d)∨
  (∃ x y c,o.op=.indexAddr 24 x y∧ρ x=some (tk c)∧ρ y=some (.int .i64 0)∧m=idxK cs c)∨
  (∃ a e,o.op=.load 26 a∧ρ a=some (tk e)∧m=lodK cs e):=by
 unfold opxB at h;split at h
 ·rename_i q hop;split at h
  ·rename_i bi hq;exact .inl ⟨q,bi,hop,hq,h⟩
  ·cases h
 ·rename_i op t x y ty hop;split at h
  ·split at h
   ·rename_i d hx;split at h
    ·rename_i hy;cases h;exact .inr (.inl ⟨t,x,y,ty,d,hop,hx,hy,rfl⟩)
    ·cases h
   ·cases h
  ·cases h
 ·rename_i t x y hop;split at h
  ·rename_i c hx;split at h
   ·rename_i hy;split at h
    ·rename_i ht;subst ht;cases h;exact .inr (.inr (.inl ⟨x,y,c,hop,hx,hy,rfl⟩))
    ·cases h
   ·cases h
  ·cases h
 ·rename_i t a hop;split at h
  ·rename_i e ha;split at h
   ·rename_i ht;subst ht;cases h;exact .inr (.inr (.inr ⟨a,e,hop,ha,rfl⟩))
   ·cases h
  ·cases h
 ·cases h
theorem Qks (cs:List Xt)(T:OpT)(o:Oper)(ρ:Operand→Option Value)(m:M Q4 Value)(h:Qip cs T o ρ=some m):M.Local m:=by
 unfold Qip at h;split at h
 ·rename_i m' hB;cases h;rcases Qfq hB with ⟨q,bi,-,-,hD⟩|⟨t,x,y,ty,d,-,-,-,rfl⟩|⟨x,y,c,-,-,-,rfl⟩|⟨a,e,-,-,rfl⟩
  ·rcases Qin hD with ⟨x,y,c,r,-,-,-,-,-,rfl⟩|⟨x,c,-,-,-,-,rfl⟩
   ·exact Qk4 _ _ _ _
   ·exact Qot _
  ·exact Qox _ _
  ·exact Qow _ _
  ·exact Qos _ _
 ·exact Qof T o ρ m h
section
variable {b:Nat} {E:Env} {N:Va} {K:Cfg} {O:Nat→Prop} {w0 w:World} {cs:List Xt} {p:Xb} {h:Tree Q4}
theorem Qgy (C:Ctx b E N K O w0 cs){T:OpT}(hK:K.opx=Qip cs T)(hn:∀ x∈T.nxt,∃ t,N.L x.1=t::N.L x.2)(happ:Qcj N T.app)(hput:Qht N T.put)(hpos:L8 N T.pos):
  ∀ (o:Oper) (ρ:Ev.Env) (m:M Q4 Value),K.opx o ρ=some m→∀ (h:Tree Q4) (c:Nat) (v:Value) (h':Tree Q4) (c':Nat) (l:Log),M.Rng h c c'→m h c=.ok v h' c' l→
  ∀ (p:Xb) (w:World) (ρ':Operand→Value),Rel K O w0 p h w→EnvR p ρ ρ'→Free p c c'→U7 Tryz.prog K O w0 p w c c' h' (execOp ρ' o) (.val v)∨(v=undef∧U7 Tryz.prog K O w0 p w c c' h' (execOp ρ' o) .skip):=by
 intro o ρ m hm h c v h' c' l hrng e p w ρ' hr hρ hf;rw[hK] at hm;unfold Qip at hm;split at hm
 ·rename_i m' hB;cases hm;rcases Qfq hB with ⟨q,bi,hop,hq,hD⟩|⟨t,x,y,ty,d,hop,hx,hy,rfl⟩|⟨x,y,c1,hop,hx,hy,rfl⟩|⟨a,e1,hop,ha,rfl⟩
  ·obtain⟨consts,hex⟩:∃ consts,execOp ρ' o=builtin bi q.argTypes o.type consts (q.args.map ρ'):=by
    refine⟨q.args.map fun | .const _=>true|_=>false,?_⟩;unfold execOp;rw[hop];dsimp only;unfold resolve;rw[hq];rfl
   rw[hex];rcases Qin hD with ⟨x,y,c1,r,rfl,hys,hts,hy,hx,rfl⟩|⟨x,c1,rfl,hys,hts,hx,rfl⟩
   ·have hq1:q.argTypes = #[24,24]:=by rw[←Array.toList_inj,hts]
    have hq2:q.args.map ρ' = #[ρ' x,ρ' y]:=by rw[←Array.toList_inj,Array.toList_map,hys];rfl
    rw[hq1,hq2];exact .inl (valO (cons_ok C hpos hr e hf (hρ x _ hx) (hρ y _ hy) o.type))
   ·have hq1:q.argTypes = #[37]:=by rw[←Array.toList_inj,hts]
    have hq2:q.args.map ρ' = #[ρ' x]:=by rw[←Array.toList_inj,Array.toList_map,hys];rfl
    rw[hq1,hq2];exact .inl (valO (lenT_ok C hr e hf (hρ x _ hx) o.type))
  ·unfold execOp;rw[hop];exact .inl (valO (gtr_ok C hr e (hρ x _ hx) (hρ y _ hy) t x y))
  ·unfold execOp;rw[hop];exact .inl (valO (idxK_ok C hr e hf (hρ x _ hx) (hρ y _ hy)))
  ·unfold execOp;rw[hop];exact .inl (valO (lodK_ok C hr e hf (hρ a _ ha)))
 ·exact orc_opsA C hn happ hput hpos o ρ m hm h c v h' c' l hrng e p w ρ' hr hρ hf
end
end Prs
end
section
open Go.RowKit
namespace Prs
open Ev
noncomputable def Ur (b:Nat)(E:Env)(N:Va)(cs:List Xt)(T:OpT)(eqc:List (Nat×Value×Bool)):Cfg where
 n:=64
 g:=0
 eqs:=[]
 eqc:=eqc
 orc:=orcS 61 cs
 loc:=fun f args m h=>by
  rcases Qil h with ⟨ys,rfl,rfl⟩|⟨v,-,rfl⟩
  ·exact Qoo _ _ _ _
  ·exact M.Qi _
 opx:=Qip cs T
 opl:=Qks cs T
 lop:=fun _ _=>none
 lol:=fun _ _ _ h=>by cases h
 opc:=fun o ρ σ h=>Qkt cs T o ρ σ h
 ax:=AxN b N
 axm:=AxN.mono
 mean:=Jj b E N
 mnm:=Jj.mono
noncomputable def Ey (hd:Value):Tree Q4:=(Tree.leaf.set 65 (some (.abs 0))).set 64 (some (.row [tk 65,tk 320,hd] 61 3))
def Qij (b:Nat)(N:Va):Xb:=fun k=>if k=64 then some ⟨b,0,3,3,undef,noF⟩ else if k=80 then some ⟨N.D,0,1,1,undef,noF⟩ else (Xi N k).map fun v=>⟨0,0,0,0,v,noF⟩
theorem Qqx (N:Va):Xi N 64=none:=by unfold Xi;rw[if_pos Dd]
theorem plan1_ax (b:Nat)(N:Va):AxN b N (Qij b N):=⟨fun k v hk=>by
 unfold Qij;by_cases h:k=64
 ·rw[h,Qqx] at hk;cases hk
 ·rw[if_neg h,if_neg (by rintro rfl;cases hk),hk];exact⟨_,rfl,rfl⟩,⟨_,by unfold Qij;rw[if_pos rfl],rfl,rfl,rfl,rfl⟩,⟨_,by unfold Qij;rw[if_neg Dd,if_pos rfl],rfl,rfl,rfl,rfl⟩⟩
inductive Fin where
 |tree (sp:Sp) (j:Nat)
 |pan (t:Value)
def Qso (N:Va):Fin→Except Nat (Tr×List Tok)
 | .tree sp j => .ok (den N sp,N.L j)
 | .pan t => .error (Wp N t)
noncomputable def Qes (h:Tree Q4)(j:Nat)(hd:Value):Bool:=match h.get 64 with
 |some (.row [.chan (some c),.chan (some 320),hd'] t 3)=>Nat.beq t 61&&(eqV 9 hd hd'&&(match h.get c with
  |some (.abs m)=>Nat.beq m (8*j)
  |_=>false))
 |_=>false
noncomputable def Qsp (pos:List Nat)(hd:Value)(fin:Fin)(r:Res Q4 CR):Bool:=match r with
 | .ok (.ret v) h _ _=>(match fin with
  | .tree sp j=>(match v with
   | .agg cells=>Qp1 pos 30 h cells.toList sp&&Qes h j hd
   |_=>false)
  |_=>false)
 | .ok (.pan v) _ _ _=>(match fin with
  | .pan t=>eqV 9 v (.iface 58 (.agg #[t]))&&isNat pos false t
  |_=>false)
 | .no=>false
structure Told (b:Nat)(E:Env)(N:Va)(q:Bool)(w:World)(cs:List Xt)(T:OpT)(eqc:List (Nat×Value×Bool)):Prop where
 rd:RdB b E w (N.L 0) q
 len:N.len=E.len
 x0:N.X 0=.int .i64 (E.len:Int)
 x1:N.X 1=.bool q
 s:N.S=(w.heap.size ≤ ·)
 calls:∀ c∈cs,Uc b E N w c
 nxt:∀ x∈T.nxt,∃ t,N.L x.1=t::N.L x.2
 app:Qcj N T.app
 put:Qht N T.put
 eqc:∀ x∈eqc,∃ v,Xi N x.1=some v∧Nc v x.2.1 x.2.2
 pos:L8 N T.pos
section
variable {b:Nat} {E:Env} {N:Va} {q:Bool} {w:World} {cs:List Xt} {T:OpT} {eqc:List (Nat×Value×Bool)}
theorem Told.ctx (D:Told b E N q w cs T eqc):Ctx b E N (Ur b E N cs T eqc) (· = b) w cs where
 orc:=rfl
 mean:=rfl
 ax:=rfl
 n:=rfl
 ob:=rfl
 lo:=fun k hk=>Nat.le_of_eq hk.symm
 bw:=D.rd.lt
 low:=D.rd.1
 x0:=D.x0
 len:=D.len
 x1:=⟨q,D.x1⟩
 s:=fun k hk=>by rw[D.s];exact hk
 calls:=D.calls
theorem Told.orc (D:Told b E N q w cs T eqc):Qjq Tryz.prog (Ur b E N cs T eqc) (· = b) w:=⟨Qcr D.ctx,Qgy D.ctx rfl D.nxt D.app D.put D.pos,fun _ _ _ h=>by cases h⟩
theorem Told.dis (D:Told b E N q w cs T eqc){p:Xb}(h:AxN b N p):Dis (Ur b E N cs T eqc) p where
 eqs:=fun x hx=>by cases hx
 eqc:=fun x hx=>by
  obtain⟨v,h1,h2⟩:=D.eqc x hx;obtain⟨s,h3,h4⟩:=h.tok _ _ h1;exact⟨s,h3,by rw[h4];exact h2⟩
 ax:=h
theorem Told.start (D:Told b E N q w cs T eqc){hd:Value}(hh:hd=.bool q∨hd=tk 321):∃ p,Rel (Ur b E N cs T eqc) (· = b) w p (Ey hd) w∧(∀ k,384≤k→p k=none):=by
 have hax:=plan1_ax b N;have R0:Rel (Ur b E N cs T eqc) (· = b) w (Qij b N) .leaf w:=rel0 w (fun k hk=>absurd hk (Nat.not_lt_zero _)) (D.dis hax);have hv:VR (Qij b N) hd (.bool q):=by
  rcases hh with rfl|rfl
  ·exact .bool q
  ·exact hax.vr (show Xi N 321=some (.bool q) by rw[←D.x1];rfl)
 obtain⟨s,R1,-⟩:=Qmj D.ctx R0 (j:=0) (c:=65) (q:=q) (hd:=hd) rfl (fun x o s hx=>by cases hx) D.rd hv (by unfold Qij Xi;rfl) Dd;refine⟨_,R1,fun k hk=>?_⟩;unfold Xb.add Qij Xi;rw[if_neg Dw,if_neg Dw,if_neg Dw,if_neg Dw,if_neg Dw,if_neg Dw,if_neg Dw];rfl
theorem Qmu {w':World}(h:Keep (· = b) w w'):Qo b w w':=⟨h.os,h.tape,h.output,h.size,fun k h1 h2=>h.block k h1 h2⟩
theorem Told.fin (D:Told b E N q w cs T eqc){hd:Value}(hh:hd=.bool q∨hd=tk 321){fin:Fin}{r:CR}{h':Tree Q4}{c':Nat}{l:Log}(hf:Qsp T.pos hd fin (.ok r h' c' l)=true){p':Xb}{w':World}{e:Ending}
  (hr:Rel (Ur b E N cs T eqc) (· = b) w p' h' w') (hc:CRR p' r e):Out b E q (Zd (w.heap.size ≤ ·)) (Qso N fin) w e w':=by
 have hax:=D.ctx.axp hr;refine⟨Qmu hr.below,?_⟩;unfold Qsp at hf;cases r with
 |ret v=>
  dsimp only at hf;cases fin with
  |pan t=>cases hf
  |tree sp j=>
   dsimp only at hf;split at hf
   ·rename_i cells;rw[Bool.and_eq_true] at hf;obtain⟨h1,h2⟩:=hf;unfold Qes at h2;split at h2
    ·rename_i c hd' t h64;simp only[Bool.and_eq_true] at h2;obtain⟨h3,h4,h5⟩:=h2;obtain rfl:=Nat.eq_of_beq_eq_true h3;obtain rfl:=Vr h4;split at h5
     ·rename_i m hcm;obtain rfl:=Nat.eq_of_beq_eq_true h5;cases e with
      |returned v'=>
       have hv:VR p' (.agg cells) v':=hc;cases hv with
       |@agg _ b2 hvs=>
       have hho:hdOK hd=true:=by rcases hh with rfl|rfl <;> rfl
       obtain⟨q',hq1,hq2⟩:=Qgw D.ctx hr h64 hho hcm;have hqq:q'=q:=by
        rcases hh with rfl|rfl
        ·cases hq1;rfl
        ·have:=hax.val (show Xi N 321=some (.bool q) by rw[←D.x1];rfl) hq1;cases this;rfl
       subst hqq;refine⟨_,rfl,⟨b2.toList,by simp,?_⟩,hq2⟩
       have:=Qlo D.ctx hr D.pos (rows_S D.ctx hr (fun k h1 h2=>absurd h1 h2) ⟨_,_,_,h64⟩) 30 h1 hvs;rw[D.s] at this;exact this
      |panicked=>exact hc.elim
      |outgrown=>exact hc.elim
     ·cases h5
    ·cases h2
   ·cases hf
 |pan v=>
  dsimp only at hf;cases fin with
  |tree sp j=>cases hf
  |pan t=>
   dsimp only at hf;rw[Bool.and_eq_true] at hf;obtain rfl:=Vr hf.1;cases e with
   |returned=>exact hc.elim
   |outgrown=>exact hc.elim
   |panicked ch=>
    obtain⟨v',rfl,hv⟩:=hc;cases hv with
    |iface _ hv=>
    cases hv with
    |@agg _ b2 hvs=>
    generalize hbl:b2.toList=bl at hvs;cases hvs with
    |cons h1 h2=>
    cases h2;have h3:=Uy D.pos hax hf.2 h1;simp only[Bool.false_eq_true,if_false] at h3;subst h3;have hb2:b2 = #[.int .i64 (Wp N t:Int)]:=by rw[←Array.toList_inj,hbl]
    subst hb2;rfl
theorem follows':(Tryz.prog).follows .mixedOrders=true:=by kernel_rfl
theorem Told.path (D:Told b E N q w cs T eqc){hd:Value}(hh:hd=.bool q∨hd=tk 321){f:FuncId}{args args':List Value}(hargs:∀ p,AxN b N p→VRs p args args'){fin:Fin}
  (run:Qsp T.pos hd fin (Gf Tryz.prog (Ur b E N cs T eqc) 1000 f (.pointer (some ⟨64,0,none⟩)::args) (Ey hd) 384)=true):Calls Tryz.prog f (rp b::args').toArray w (Out b E q (Zd (w.heap.size ≤ ·)) (Qso N fin) w):=by
 obtain⟨p,R,hfree⟩:=D.start hh;have hax:=D.ctx.axp R;cases hev:Gf Tryz.prog (Ur b E N cs T eqc) 1000 f (.pointer (some ⟨64,0,none⟩)::args) (Ey hd) 384 with
 |no=>rw[hev] at run;cases run
 |ok r h' c' l=>
  rw[hev] at run;have hp0:VR p (.pointer (some ⟨64,0,none⟩)) (rp b):=by
   obtain⟨s0,a1,a2,a3,a4,a5⟩:=hax.rd
   have:=VR.ptr (o:=0) a1;rw[a2,a3] at this;exact this
  refine(Qlh follows' D.orc hev (fun k h1 _=>?_) R (args':=(rp b::args').toArray) (.cons hp0 (hargs p hax)) (fun k h1 _=>hfree k h1)).mono ?_
  ·unfold Ey;rw[Tree.Qu,Tree.Qu,if_neg Dw,if_neg Dw];rfl
  ·rintro e w' ⟨p',-,-,hr',hc⟩;exact D.fin hh run hr' hc
end
end Prs
end
section
open Go.RowKit
namespace Prs
open Ev
abbrev str (x:List UInt8):Value:=.string ⟨x.toArray⟩
abbrev fv (t:Value):Value:=.iface 58 (.agg #[t])
def Zb (i:Nat)(hd:Value):Xt:=⟨43,[],i,hd,.look (tk (128+8*i))⟩
def Vk (x:List UInt8)(i:Nat)(r:Bool)(hd:Value):Xt:=⟨44,[str x],i,hd,.look (.bool r)⟩
def Xz (x:List UInt8)(i:Nat)(r:Bool)(hd:Value):Xt:=⟨75,[str x],i,hd,.look (.bool r)⟩
def Pn (i:Nat)(r:Bool)(hd:Value):Xt:=⟨72,[],i,hd,.look (.bool r)⟩
def Qp (i:Nat)(k:Value)(hd:Value):Xt:=⟨32,[],i,hd,.look (.agg #[k,tk (128+8*i+2),tk (128+8*i+3),tk (128+8*i+4)])⟩
def Qan (i:Nat)(hd:Value):Xt:=⟨33,[],i,hd,.pan (fv (tk (128+8*i)))⟩
def Qx (x:List UInt8)(i j:Nat)(hd:Value):Xt:=⟨46,[str x],i,hd,.step j (.bool true)⟩
def Qc (x:List UInt8)(i:Nat)(hd:Value):Xt:=⟨46,[str x],i,hd,.step i (.bool false)⟩
def Xo (x:List UInt8)(i j:Nat)(hd:Value):Xt:=⟨68,[str x],i,hd,.step j (tk (128+8*i))⟩
def Lj (x:List UInt8)(i:Nat)(hd:Value):Xt:=⟨68,[str x],i,hd,.pan (fv (tk (128+8*i)))⟩
def Zz (i j:Nat)(hd:Value):Xt:=⟨47,[],i,hd,.step j (.tuple #[tk (128+8*i+2),tk (128+8*i+4)])⟩
def Qal (i:Nat)(hd:Value):Xt:=⟨47,[],i,hd,.pan (fv (tk (128+8*i)))⟩
def Qjd (x:List UInt8)(i j:Nat)(hd:Value):Xt:=⟨55,[str x],i,hd,.step j (.tuple #[])⟩
def Qam (x:List UInt8)(i:Nat)(hd:Value):Xt:=⟨55,[str x],i,hd,.pan (fv (tk (128+8*i)))⟩
def Qaj (x:List UInt8)(i j:Nat)(hd:Value):Xt:=⟨99,[str x],i,hd,.step j (.tuple #[])⟩
def Qak (x:List UInt8)(i k:Nat)(hd:Value):Xt:=⟨99,[str x],i,hd,.pan (fv (tk (128+8*k)))⟩
def Qm (g:FuncId)(ys:List Value)(i j:Nat)(k:Value)(t:Nat)(hd:Value):Xt:=⟨g,ys,i,hd,.tree j k t⟩
def Xq (g:FuncId)(ys:List Value)(i x:Nat)(hd:Value):Xt:=⟨g,ys,i,hd,.pan (fv (tk (320+x)))⟩
section
variable {b:Nat} {E:Env} {N:Va} {w0:World}
theorem N8 (N:Va){i f:Nat}(hi:i<16)(hf:f<8):Xi N (128+8*i+f)=Qk6 N i f:=by
 unfold Xi;rw[if_neg Dw,if_pos Dw,show (128+8*i+f-128) / 8=i by omega,show (128+8*i+f-128) % 8=f by omega]
theorem Bl (N:Va){i:Nat}(hi:i<64):Xi N (320+i)=some (N.X i):=by
 unfold Xi;rw[if_neg Dw,if_neg Dw,if_neg Dw,if_pos Dw,show 320+i-320=i by omega]
theorem Eh {p:Xb}{vs:List Value}(h:VRs p [] vs):vs=[]:=by cases h;rfl
theorem Dv {p:Xb}{x:List UInt8}{vs:List Value}(h:VRs p [str x] vs):vs=[str x]:=by
 cases h with
 |cons h1 h2=>
  cases h1;cases h2;rfl
theorem vr_at (hlen:N.len=E.len){p:Xb}(hax:AxN b N p){i:Nat}(hi:i<16):VR p (tk (128+8*i)) (.int .i64 (atP E.len (N.L i):Int)):=by
 have:=hax.vr (show Xi N (128+8*i)=some (.int .i64 (atP E.len (N.L i):Int)) by rw[show 128+8*i=128+8*i+0 from rfl,N8 N hi Dd,←hlen];rfl);exact this
theorem Qqs (hlen:N.len=E.len){p:Xb}(hax:AxN b N p){i:Nat}(hi:i<16):VR p (fv (tk (128+8*i))) (Vw (atP E.len (N.L i))):=.iface _ (.agg (.cons (vr_at hlen hax hi) .nil))
theorem Zc (hlen:N.len=E.len){i:Nat}(hi:i<16)(hd:Value):Uc b E N w0 (Zb i hd):=by
 intro p hax q args' w _ hargs hrd _;obtain rfl:=Eh hargs;refine(at_c b E (N.L i) q w hrd).mono ?_;rintro e w' ⟨rfl,rfl⟩;exact⟨Below.refl _ _,_,rfl,vr_at hlen hax hi⟩
theorem Vm {x:List UInt8}{i:Nat}{r:Bool}(h:isP x (N.L i)=r)(hd:Value):Uc b E N w0 (Vk x i r hd):=by
 intro p hax q args' w _ hargs hrd _;obtain rfl:=Dv hargs;refine(is_c b E (N.L i) q w x hrd).mono ?_;rintro e w' ⟨rfl,hB⟩;exact⟨hB,_,rfl,by rw[h];exact .bool r⟩
theorem X6 {x:List UInt8}{i:Nat}{r:Bool}(h:Je x (N.L i)=r)(hd:Value):Uc b E N w0 (Xz x i r hd):=by
 intro p hax q args' w _ hargs hrd _;obtain rfl:=Dv hargs;refine(Qmf b E (N.L i) q w x hrd).mono ?_;rintro e w' ⟨rfl,rfl⟩;exact⟨Below.refl _ _,_,rfl,by rw[h];exact .bool r⟩
theorem Ec {i:Nat}{r:Bool}(h:Lu (N.L i)=r)(hd:Value):Uc b E N w0 (Pn i r hd):=by
 intro p hax q args' w _ hargs hrd _;obtain rfl:=Eh hargs;refine(begins_c b E (N.L i) q w hrd).mono ?_;rintro e w' ⟨rfl,hB⟩;exact⟨hB,_,rfl,by rw[h];exact .bool r⟩
theorem Qb3 (hlen:N.len=E.len){i:Nat}(hi:i<16)(hd:Value):Uc b E N w0 (Qan i hd):=by
 intro p hax q args' w _ hargs hrd _;obtain rfl:=Eh hargs;refine(Qej b E (N.L i) q w hrd).mono ?_;rintro e w' ⟨rfl,rfl⟩;exact⟨Qo.refl _ _,_,rfl,Qqs hlen hax hi⟩
theorem Qq {i:Nat}(hi:i<16){k:Value}(hk:k=tk (128+8*i+1)∨k=.int .i64 (Tz (N.L i)).kind)(hd:Value):Uc b E N w0 (Qp i k hd):=by
 intro p hax q args' w _ hargs hrd _;obtain rfl:=Eh hargs;refine(Az b E (N.L i) q w hrd).mono ?_;rintro e w' ⟨rfl,hB⟩;have hv:∀ f v,Qk6 N i f=some v→f<8→VR p (tk (128+8*i+f)) v:=fun f v hfv hf=>hax.vr (by rw[N8 N hi hf];exact hfv)
 refine⟨hB,_,rfl,.agg (.cons ?_ (.cons (hv 2 _ rfl Dd) (.cons (hv 3 _ rfl Dd) (.cons (hv 4 _ rfl Dd) .nil))))⟩;rcases hk with rfl|rfl
 ·exact hv 1 _ rfl Dd
 ·exact .int _ _
theorem Qy {x:List UInt8}{i j:Nat}(h:isP x (N.L i)=true)(hj:N.L j=(N.L i).tail)(hd:Value):Uc b E N w0 (Qx x i j hd):=by
 intro p hax q args' w _ hargs hrd _;obtain rfl:=Dv hargs;refine(Qde b E (N.L i) q w x hrd).mono ?_;rintro e w' ⟨rfl,hk,hr⟩;rw[h] at hr;exact⟨hk,by rw[hj];exact hr,_,rfl,by rw[h];exact .bool _⟩
theorem Qd {x:List UInt8}{i:Nat}(h:isP x (N.L i)=false)(hd:Value):Uc b E N w0 (Qc x i hd):=by
 intro p hax q args' w _ hargs hrd _;obtain rfl:=Dv hargs;refine(Qde b E (N.L i) q w x hrd).mono ?_;rintro e w' ⟨rfl,hk,hr⟩;rw[h] at hr;exact⟨hk,hr,_,rfl,by rw[h];exact .bool _⟩
theorem Xr (hlen:N.len=E.len){x:List UInt8}{i j:Nat}(hi:i<16)(h:isP x (N.L i)=true)(hj:N.L j=(N.L i).tail)(hd:Value):Uc b E N w0 (Xo x i j hd):=by
 intro p hax q args' w _ hargs hrd _;obtain rfl:=Dv hargs;refine(Ai b E (N.L i) q w x hrd).mono ?_;rintro e w' ⟨hk,hr⟩;rw[h,if_pos rfl] at hr;exact⟨hk,by rw[hj];exact hr.2,_,hr.1,vr_at hlen hax hi⟩
theorem Eg (hlen:N.len=E.len){x:List UInt8}{i:Nat}(hi:i<16)(h:isP x (N.L i)=false)(hd:Value):Uc b E N w0 (Lj x i hd):=by
 intro p hax q args' w _ hargs hrd _;obtain rfl:=Dv hargs;refine(Ai b E (N.L i) q w x hrd).mono ?_;rintro e w' ⟨hk,hr⟩;rw[h,if_neg Dd] at hr;exact⟨hk,_,hr,Qqs hlen hax hi⟩
theorem Z7 {i j:Nat}(hi:i<16)(h:(Xn (N.L i)==1)=true)(hj:N.L j=(N.L i).tail)(hd:Value):Uc b E N w0 (Zz i j hd):=by
 intro p hax q args' w _ hargs hrd _;obtain rfl:=Eh hargs;refine(Qmq b E (N.L i) q w hrd).mono ?_;rintro e w' ⟨hk,hr⟩;rw[h,if_pos rfl] at hr;have hv:∀ f v,Qk6 N i f=some v→f<8→VR p (tk (128+8*i+f)) v:=fun f v hfv hf=>hax.vr (by rw[N8 N hi hf];exact hfv)
 refine⟨hk,by rw[hj];exact hr.2,_,hr.1,.tuple (.cons (hv 2 _ ?_ Dd) (.cons (hv 4 _ ?_ Dd) .nil))⟩
 ·rw[Q5];rfl
 ·have:Jy (N.L i)=(Tz (N.L i)).place:=by cases N.L i <;> rfl
  rw[this];rfl
theorem Qbx (hlen:N.len=E.len){i:Nat}(hi:i<16)(h:(Xn (N.L i)==1)=false)(hd:Value):Uc b E N w0 (Qal i hd):=by
 intro p hax q args' w _ hargs hrd _;obtain rfl:=Eh hargs;refine(Qmq b E (N.L i) q w hrd).mono ?_;rintro e w' ⟨hk,hr⟩;rw[h,if_neg Dd] at hr;exact⟨hk,_,hr,Qqs hlen hax hi⟩
theorem Qme {x:List UInt8}{i j:Nat}(h:((Xn (N.L i)==5)=true∧N.L j=(N.L i).tail)∨((Xn (N.L i)==5)=false∧isP x (N.L i)=true∧N.L j=N.L i))(hd:Value):Uc b E N w0 (Qjd x i j hd):=by
 intro p hax q args' w _ hargs hrd _;obtain rfl:=Dv hargs;refine(semi_c b E (N.L i) q w x hrd).mono ?_;rintro e w' ⟨hk,hr⟩;rcases h with ⟨h1,h2⟩|⟨h1,h2,h3⟩
 ·rw[h1,if_pos rfl] at hr;exact⟨hk,by rw[h2];exact hr.2,_,hr.1,.tuple .nil⟩
 ·rw[h1,if_neg Dd,h2,if_pos rfl] at hr;exact⟨hk,by rw[h3];exact hr.2,_,hr.1,.tuple .nil⟩
theorem Qct (hlen:N.len=E.len){x:List UInt8}{i:Nat}(hi:i<16)(h1:(Xn (N.L i)==5)=false)(h2:isP x (N.L i)=false)(hd:Value):Uc b E N w0 (Qam x i hd):=by
 intro p hax q args' w _ hargs hrd _;obtain rfl:=Dv hargs;refine(semi_c b E (N.L i) q w x hrd).mono ?_;rintro e w' ⟨hk,hr⟩;rw[h1,if_neg Dd,h2,if_neg Dd] at hr;exact⟨hk,_,hr,Qqs hlen hax hi⟩
theorem Qbt {x:List UInt8}{i j:Nat}(h:isP x (X7 x (N.L i))=true)(hj:N.L j=(X7 x (N.L i)).tail)(hd:Value):Uc b E N w0 (Qaj x i j hd):=by
 intro p hax q args' w _ hargs hrd _;obtain rfl:=Dv hargs;refine(shut_c b E (N.L i) q w x hrd).mono ?_;rintro e w' ⟨hk,hr⟩;rw[h,if_pos rfl] at hr;exact⟨hk,by rw[hj];exact hr.2,_,hr.1,.tuple .nil⟩
theorem Qbw (hlen:N.len=E.len){x:List UInt8}{i k:Nat}(hk:k<16)(hL:N.L k=X7 x (N.L i))(h:isP x (X7 x (N.L i))=false)(hd:Value):Uc b E N w0 (Qak x i k hd):=by
 intro p hax q args' w _ hargs hrd _;obtain rfl:=Dv hargs;refine(shut_c b E (N.L i) q w x hrd).mono ?_;rintro e w' ⟨hk',hr⟩;rw[h,if_neg Dd,←hL] at hr;exact⟨hk',_,hr,Qqs hlen hax hk⟩
theorem Qo5 {p:Xb}(hax:AxN b N p){hd:Value}{q q0:Bool}(h:VR p hd (.bool q))(hh:hd=.bool q0∨hd=tk 321)(hx:N.X 1=.bool q0):q=q0:=by
 rcases hh with rfl|rfl
 ·cases h;rfl
 ·have:=hax.val (show Xi N 321=some (.bool q0) by rw[←hx];rfl) h;cases this;rfl
theorem Qs {g:FuncId}{ys ys':List Value}{i j t:Nat}{k hd:Value}{q0:Bool}{x:List Tok→R Tr}(hx:Reads b E q0 g (rp b::ys').toArray x)(hh:hd=.bool q0∨hd=tk 321)(hq:N.X 1=.bool q0)(hys:∀ p vs,AxN b N p→VRs p ys vs→vs=ys')
  (h:x (N.L i)=some (.ok (N.T t,N.L j))) (hk:k=tk (256+4*t)∨k=.int .i64 ((N.T t).kind:Int)) (ht:t<16):Uc b E N w0 (Qm g ys i j k t hd):=by
 intro p hax q args' w hhd hargs hrd _;obtain rfl:=Qo5 hax hhd hh hq;rw[hys p args' hax hargs];refine(hx _ w _ hrd h).mono ?_;rintro e w' ⟨hkeep,v,rfl,hv,hr⟩;exact⟨hkeep,hr,hk,ht,v,rfl,hv⟩
theorem Zf {g:FuncId}{ys ys':List Value}{i xx pl:Nat}{hd:Value}{q0:Bool}{x:List Tok→R Tr}(hx:Reads b E q0 g (rp b::ys').toArray x)(hh:hd=.bool q0∨hd=tk 321)(hq:N.X 1=.bool q0)(hys:∀ p vs,AxN b N p→VRs p ys vs→vs=ys')
  (h:x (N.L i)=some (.error pl)) (hxx:xx<64) (hX:N.X xx=.int .i64 (pl:Int)):Uc b E N w0 (Xq g ys i xx hd):=by
 intro p hax q args' w hhd hargs hrd _;obtain rfl:=Qo5 hax hhd hh hq;rw[hys p args' hax hargs];refine(hx _ w _ hrd h).mono ?_;rintro e w' ⟨hkeep,rfl⟩;exact⟨hkeep,_,rfl,.iface _ (.agg (.cons (hax.vr (by rw[Bl N hxx,hX])) .nil))⟩
end
end Prs
end
end Go.Proofs.YtcbkeecabcbogaaGreatDoor
