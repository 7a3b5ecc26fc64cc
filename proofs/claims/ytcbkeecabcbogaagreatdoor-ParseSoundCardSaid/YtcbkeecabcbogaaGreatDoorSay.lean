/- Contract of structure. Scripts: functions that give a list o -/
import Derived.Test.YtcbkeecabcbogaaGreatDoorSax
set_option linter.unusedSimpArgs false
set_option linter.unusedVariables false
namespace Go.Proofs.YtcbkeecabcbogaaGreatDoor
section
open Go.RowKit
namespace Prs
open Ev
theorem Qgs {w:World}{q:Nat}{v0 v1 v2 v3 v4:Value}{t:TypeId}(h:w.heap[q]? = some (.cells #[v0,v1,v2,v3,v4] t (0,0)))(u:Value):(w.setCell ⟨q,1,none⟩ u).heap[q]? = some (.cells #[v0,u,v2,v3,v4] t (0,0)):=by
 show (w.heap.modify q _)[q]? = _
 rw[Array.getElem?_modify,if_pos rfl,h];rfl
theorem froz1 {w:World}{q:Nat}{v0 v1 v2 v3 v4:Value}{t:TypeId}(h:w.heap[q]? = some (.cells #[v0,v1,v2,v3,v4] t (0,0))):w.frozen? ⟨q,1,none⟩=false:=by
 unfold World.frozen?
 rw[h];rfl
theorem RdB.setq {b:Nat}{E:Env}{w:World}{l:List Tok}{hd:Bool}(h:RdB b E w l hd){q i:Nat}(hq:b<q)(u:Value):RdB b E (w.setCell ⟨q,i,none⟩ u) l hd:=h.frame fun k hk=>Below.heap_setCell _ _ _ _ (show k≠q by omega)
theorem Qo.setq {b:Nat}{u v:World}(h:Qo b u v){q i:Nat}(hq:u.heap.size≤q)(x:Value):Qo b u (v.setCell ⟨q,i,none⟩ x):=
 ⟨h.os,h.tape,h.output,by have:=h.size;simpa using this,fun k h1 h2=>(Below.heap_setCell _ _ _ _ (show k≠q by omega)).trans (h.block k h1 h2)⟩
set_option maxRecDepth 20000 in
theorem Qka {b f p:Nat}{E:Env}{hd:Bool}(hF:f≤4294967296)(hs:∀ g,g<f→Reads b E hd 76 #[rp b] (Jz E.len g)):Reads b E hd 53 #[rp b,.int .i64 (p:Int)] (Ye E.len f p):=by
 intro l w r h hr;have hb:=h.lt;have HR:=Dh h;have HS:=Dh hs;have HF:=Dh hF;have HN:=Dh fun w (h:RdB b E w l hd)=>Qmq b E l hd w h
 unfold Ye U8 at hr;cases h1:Xn l==1 with
 |false=>
  rw[h1,if_neg Dd] at hr;dsimp only [andThen,bad] at hr;cases hr;rw[h1] at HN;clear h hs;go_enter Tryz.func53,Tryz.ntmps53
  go_wp2_with (go_at_call 47;refine(HN.out _ (((HR.out.new _).new _))).mono ?_;rintro e w2 ⟨hk,hr⟩;rw[if_neg Dd] at hr;obtain rfl:=hr)
  exact⟨rfl,((Qo.new _ _).trans (Qo.new _ _)).trans hk,rfl⟩
 |true=>
  rw[h1,if_pos rfl] at hr;dsimp only [andThen,ok] at hr;rw[h1] at HN;have HW:=Dh fun w (h:RdB b E w l.tail hd)=>Ai b E l.tail hd w Qj3 h
  have HV:=Dh fun w (h:RdB b E w l.tail.tail hd)=>Ai b E l.tail.tail hd w wCu h
  unfold Ub at hr;clear h hs;cases k2:isP Qj3 l.tail with
  |false=>
   rw[k2,if_neg Dd] at hr;dsimp only [bad] at hr;cases hr;rw[k2] at HW;go_enter Tryz.func53,Tryz.ntmps53
   go_wp2_with (first|(go_at_call 47;refine(HN.out _ (((HR.out.new _).new _))).mono ?_;rintro e w2 ⟨hk,hr2⟩;rw[if_pos rfl] at hr2;obtain⟨rfl,hr2⟩:=hr2;have hr2:=Dh hr2;have hq2:=hk.row (q:=w.heap.size+1) (Nat.lt_succ_of_lt hb) (Jh w (.cells Q3 26) (.cells #[.int .i64 2,.string ⟨#[]⟩,.int .u64 0,.int .i64 (p:Int),.slice none 0 0] 26));have hz2:=Dh (hk.row (q:=w.heap.size) hb (Xw (Qz w (.cells Q3 26)) (.cells #[.int .i64 2,.string ⟨#[]⟩,.int .u64 0,.int .i64 (p:Int),.slice none 0 0] 26)));obtain⟨c0,c1,c2,c3,c4,-⟩:=Z5 hq2;have hfz:=froz1 hq2;have hk2:=Dh ((((Qo.new _ _).trans (Qo.new _ _)).trans hk).setq (q:=w.heap.size+1) (i:=1) (Nat.le_succ _) (.string ⟨(Zo l).toArray⟩));have hq2:=Dh (Qgs hq2 (.string ⟨(Zo l).toArray⟩));have hr2:=Dh (hr2.out.setq (q:=w.heap.size+1) (i:=1) (Nat.lt_succ_of_lt hb) (.string ⟨(Zo l).toArray⟩)))|(go_at_call 68;refine(HW.out _ hr2.out).mono ?_;rintro e w3 ⟨hk3,hr3⟩;rw[if_neg Dd] at hr3;obtain rfl:=hr3))
   exact⟨rfl,hk2.out.trans hk3,rfl⟩
  |true=>
   rw[k2,if_pos rfl] at hr;dsimp only [ok] at hr;rw[k2] at HW;cases k3:isP wCu l.tail.tail with
   |false=>
    rw[k3,if_neg Dd] at hr;dsimp only [bad] at hr;cases hr;rw[k3] at HV;go_enter Tryz.func53,Tryz.ntmps53
    go_wp2_with (first|(go_at_call 47;refine(HN.out _ (((HR.out.new _).new _))).mono ?_;rintro e w2 ⟨hk,hr2⟩;rw[if_pos rfl] at hr2;obtain⟨rfl,hr2⟩:=hr2;have hr2:=Dh hr2;have hq2:=hk.row (q:=w.heap.size+1) (Nat.lt_succ_of_lt hb) (Jh w (.cells Q3 26) (.cells #[.int .i64 2,.string ⟨#[]⟩,.int .u64 0,.int .i64 (p:Int),.slice none 0 0] 26));have hz2:=Dh (hk.row (q:=w.heap.size) hb (Xw (Qz w (.cells Q3 26)) (.cells #[.int .i64 2,.string ⟨#[]⟩,.int .u64 0,.int .i64 (p:Int),.slice none 0 0] 26)));obtain⟨c0,c1,c2,c3,c4,-⟩:=Z5 hq2;have hfz:=froz1 hq2;have hk2:=Dh ((((Qo.new _ _).trans (Qo.new _ _)).trans hk).setq (q:=w.heap.size+1) (i:=1) (Nat.le_succ _) (.string ⟨(Zo l).toArray⟩));have hq2:=Dh (Qgs hq2 (.string ⟨(Zo l).toArray⟩));have hr2:=Dh (hr2.out.setq (q:=w.heap.size+1) (i:=1) (Nat.lt_succ_of_lt hb) (.string ⟨(Zo l).toArray⟩)))|(go_at_call 68;refine(HV.out _ hr3.out).mono ?_;rintro e w4 ⟨hk4,hr4⟩;rw[if_neg Dd] at hr4;obtain rfl:=hr4)|(go_at_call 68;refine(HW.out _ hr2.out).mono ?_;rintro e w3 ⟨hk3,hr3⟩;rw[if_pos Ds] at hr3;obtain⟨rfl,hr3⟩:=hr3;have hr3:=Dh hr3;have hk3:=Dh hk3))
    exact⟨rfl,(hk2.out.trans hk3.out).trans hk4,rfl⟩
   |true=>
    rw[k3,if_pos rfl] at hr;dsimp only [ok] at hr;rw[k3] at HV;cases h2:U0 E.len f [] l.tail.tail.tail with
    |none=>rw[h2] at hr;cases hr
    |some y=>
    rw[h2] at hr;have H2:=Dh h2;have HY:=Dh hr;clear h2 hr;go_enter Tryz.func53,Tryz.ntmps53
    go_wp2_with (first|(go_at_call 47;refine(HN.out _ (((HR.out.new _).new _))).mono ?_;rintro e w2 ⟨hk,hr2⟩;rw[if_pos rfl] at hr2;obtain⟨rfl,hr2⟩:=hr2;have hr2:=Dh hr2;have hq2:=hk.row (q:=w.heap.size+1) (Nat.lt_succ_of_lt hb) (Jh w (.cells Q3 26) (.cells #[.int .i64 2,.string ⟨#[]⟩,.int .u64 0,.int .i64 (p:Int),.slice none 0 0] 26));have hz2:=Dh (hk.row (q:=w.heap.size) hb (Xw (Qz w (.cells Q3 26)) (.cells #[.int .i64 2,.string ⟨#[]⟩,.int .u64 0,.int .i64 (p:Int),.slice none 0 0] 26)));obtain⟨c0,c1,c2,c3,c4,-⟩:=Z5 hq2;have hfz:=froz1 hq2;have hk2:=Dh ((((Qo.new _ _).trans (Qo.new _ _)).trans hk).setq (q:=w.heap.size+1) (i:=1) (Nat.le_succ _) (.string ⟨(Zo l).toArray⟩));have hq2:=Dh (Qgs hq2 (.string ⟨(Zo l).toArray⟩));have hr2:=Dh (hr2.out.setq (q:=w.heap.size+1) (i:=1) (Nat.lt_succ_of_lt hb) (.string ⟨(Zo l).toArray⟩)))|(go_at_call 68;refine(HV.out _ hr3.out).mono ?_;rintro e w4 ⟨hk4,hr4⟩;rw[if_pos Ds] at hr4;obtain⟨rfl,hr4⟩:=hr4;have hr4:=Dh hr4;have hk4:=Dh hk4)|(go_at_call 68;refine(HW.out _ hr2.out).mono ?_;rintro e w3 ⟨hk3,hr3⟩;rw[if_pos Ds] at hr3;obtain⟨rfl,hr3⟩:=hr3;have hr3:=Dh hr3;have hk3:=Dh hk3))
    have hbq:b<w.heap.size+1:=Nat.lt_succ_of_lt hb;have hrow4:=hk4.out.row hbq (hk3.out.row hbq hq2.out);have hz4:=hk4.out.row hb (hk3.out.row hb ((Below.heap_setCell w2 ⟨w.heap.size+1,1,none⟩ (.string ⟨(Zo l).toArray⟩) w.heap.size (show w.heap.size≠w.heap.size+1 by omega)).trans hz2.out));have hq4:=(Array.getElem?_eq_some_iff.1 hrow4).1;have hkk:=(hk2.out.trans hk3.out).trans hk4.out;refine Ky (c':=Bd) Dk (Qkb (q:=w.heap.size+1) (rr:=w.heap.size) (F0:=f) (w1:=w4) (v0:=.int .i64 2) (v1:=.string ⟨(Zo l).toArray⟩) (v2:=.int .u64 0) (v3:=.int .i64 (p:Int)) hbq Dw rfl rfl rfl rfl HF.out HS.out (r:=y) ?_ f [] l.tail.tail.tail _ _ Ds H2.out ?_)
    ·cases y with
     |error pl=>
      intro w' a' hk' hd';obtain⟨tm,ds⟩:=a';obtain rfl:ds=[]:=hd';have hy:=HY.out;cases hy;exact⟨rfl,Zx.toR hkk hk' (Nat.le_succ _),rfl⟩
     |ok y=>
      obtain⟨ts,l'⟩:=y;intro w' a' I';have hy:=HY.out;cases hy;rename_i K Q' hK;refine hK _ _ ?_;obtain⟨v,F,hrow,hG,hF⟩:=I'.list;have hd0:a'.tmps.getD 4 undef=.pointer (some ⟨w.heap.size,0,none⟩):=I'.dirS (4,tk 383,.pointer (some ⟨w.heap.size,0,none⟩)) (List.mem_cons_of_mem _ (List.mem_cons_self ..));have hn:a'.tmps.size=31:=I'.n;have hk0:=I'.keep;have hz:w'.heap[w.heap.size]? = some (.cells Q3 26 (0,0)):=(hk0.block _ (Array.getElem?_eq_some_iff.1 hz4).1 Dw (by show w.heap.size≠w.heap.size+1;omega)).trans hz4;refine Qj8 (d:=30) (s:=5) (t:=4) rfl rfl rfl rfl rfl rfl Dw Dd I'.rowS hd0 hrow rfl hG.ones hz fun a2 ha2 hd2=>?_
      have hlo:∀ k,F k≠none→w4.heap.size≤k:=fun k hk=>by
       obtain⟨_,_,-,-,-,h4,-⟩:=hG;exact h4 k hk
      refine Dj (show Tryz.f53.results = #[.cell 4 26] from rfl) (hd2.trans I'.ds) ha2 (setRow_heap _ _ Q3 _ 26 (0,0) hz) ((Zx.toR hkk hk0 (Nat.le_succ _)).setRow (Nat.le_refl _) _) (Rt.node hG (fun k o hk=>?_) (fun k hk=>by omega) 2 (Zo l) 0 p) (I'.rd.setRow hb _)
      have:=hlo k (by rw[hk];simp);exact(setRow_other _ _ _ _ Dw).trans (hF k o hk)
    ·exact {
      rd:=hr4.out
      row:=⟨.slice none 0 0,noF,(0,0),hrow4,fun j _=>by simp,fun _=>rfl,⟨none,0,rfl,by simp,by decide,fun k hk=>absurd rfl hk,.inl ⟨rfl,rfl,rfl⟩⟩,fun k o hk=>(by cases hk),rfl,rfl,fun _ _=>rfl⟩
      box:=fun x hx=>by cases hx
      keep:=⟨rfl,rfl,rfl,Nat.le_refl _,fun _ _ _ _=>rfl⟩
      rowS:=rfl
      boxS:=fun x hx=>by cases hx
      dirS:=fun x hx=>Qa6 (P:=fun x=>Array.getD _ x.1 undef=x.2.2) hx rfl rfl
      n:=rfl
      ds:=rfl }
end Prs
end
section
open Go.RowKit
namespace Prs
open Ev
inductive FinL where
 |list (sps:List Sp) (j:Nat)
 |pan (t:Value)
def finLSem (N:Va):FinL→Except Nat (List Tr×List Tok)
 | .list sps j => .ok (dens N sps,N.L j)
 | .pan t => .error (Wp N t)
noncomputable def Qag (pos:List Nat)(hd:Value)(fin:FinL)(r:Res Q4 CR):Bool:=match fin with
 | .pan t=>Qsp pos hd (.pan t) r
 | .list sps j=>(match r with
  | .ok (.ret v) h _ _=>(match v with
   | .slice (some ⟨b0,0,none⟩) n c=>(match h.get b0 with
    |some (.row cs t sz)=>(Nat.beq n sps.length&&(Nat.beq c n&&(Nat.beq cs.length (5*n)&&(Nat.ble 70 b0&&(Nat.beq t 26&&(Nat.beq sz 5&&Nat.ble n 100))))))&&(chkL pos 30 (h.set b0 none) cs sps&&Qes h j hd)
    |_=>false)
   |_=>false)
  |_=>false)
section
variable {b:Nat} {E:Env} {N:Va} {q:Bool} {w:World} {cs:List Xt} {T:OpT} {eqc:List (Nat×Value×Bool)}
theorem Told.rdOf (D:Told b E N q w cs T eqc){hd:Value}(hh:hd=.bool q∨hd=tk 321){h':Tree Q4}{p':Xb}{w':World}{O:Nat→Prop}(C:Ctx b E N (Ur b E N cs T eqc) O w cs)(hr:Rel (Ur b E N cs T eqc) O w p' h' w'){j:Nat}(h2:Qes h' j hd=true):RdB b E w' (N.L j) q∧∃ c t z,h'.get 64=some (.row c t z):=by
 have hax:=C.axp hr;unfold Qes at h2;split at h2
 ·rename_i c hd' t h64;simp only[Bool.and_eq_true] at h2;obtain⟨h3,h4,h5⟩:=h2;obtain rfl:=Nat.eq_of_beq_eq_true h3;obtain rfl:=Vr h4;split at h5
  ·rename_i m hcm;obtain rfl:=Nat.eq_of_beq_eq_true h5;have hho:hdOK hd=true:=by rcases hh with rfl|rfl <;> rfl
   obtain⟨q',hq1,hq2⟩:=Qgw C hr h64 hho hcm;have hqq:q'=q:=by
    rcases hh with rfl|rfl
    ·cases hq1;rfl
    ·have:=hax.val (show Xi N 321=some (.bool q) by rw[←D.x1];rfl) hq1;cases this;rfl
   subst hqq;exact⟨hq2,_,_,_,h64⟩
  ·cases h5
 ·cases h2
theorem Told.run (D:Told b E N q w cs T eqc){hd:Value}(hh:hd=.bool q∨hd=tk 321){f:FuncId}{args args':List Value}(hargs:∀ p,AxN b N p→VRs p args args'){φ:Res Q4 CR→Bool}(h0:φ .no=false)
  (run:φ (Gf Tryz.prog (Ur b E N cs T eqc) 1000 f (.pointer (some ⟨64,0,none⟩)::args) (Ey hd) 384)=true):Calls Tryz.prog f (rp b::args').toArray w fun e w'=>∃ r h' c' l p',φ (.ok r h' c' l)=true∧Rel (Ur b E N cs T eqc) (· = b) w p' h' w'∧CRR p' r e:=by
 obtain⟨p,R,hfree⟩:=D.start hh;have hax:=D.ctx.axp R;cases hev:Gf Tryz.prog (Ur b E N cs T eqc) 1000 f (.pointer (some ⟨64,0,none⟩)::args) (Ey hd) 384 with
 |no=>rw[hev,h0] at run;cases run
 |ok r h' c' l=>
  rw[hev] at run;have hp0:VR p (.pointer (some ⟨64,0,none⟩)) (rp b):=by
   obtain⟨s0,a1,a2,a3,a4,a5⟩:=hax.rd
   have:=VR.ptr (o:=0) a1;rw[a2,a3] at this;exact this
  refine(Qlh follows' D.orc hev (fun k h1 _=>?_) R (args':=(rp b::args').toArray) (.cons hp0 (hargs p hax)) (fun k h1 _=>hfree k h1)).mono ?_
  ·unfold Ey;rw[Tree.Qu,Tree.Qu,if_neg Dw,if_neg Dw];rfl
  ·rintro e w' ⟨p',-,-,hr',hc⟩;exact⟨r,h',c',l,p',run,hr',hc⟩
theorem Told.Qrz (D:Told b E N q w cs T eqc){hd:Value}(hh:hd=.bool q∨hd=tk 321){f:FuncId}{args args':List Value}(hargs:∀ p,AxN b N p→VRs p args args'){fin:FinL}
  (run:Qag T.pos hd fin (Gf Tryz.prog (Ur b E N cs T eqc) 1000 f (.pointer (some ⟨64,0,none⟩)::args) (Ey hd) 384)=true):Calls Tryz.prog f (rp b::args').toArray w (OutL b E q (finLSem N fin) w):=by
 refine(D.run hh hargs (φ:=Qag T.pos hd fin) (by unfold Qag Qsp;cases fin <;> rfl) run).mono ?_;rintro e w' ⟨r,h',c',l,p',hf,hr,hc⟩;unfold Qag at hf;cases fin with
 |pan t=>
  obtain⟨h1,h2⟩:=D.fin hh (fin:=.pan t) hf hr hc;exact⟨h1,h2⟩
 |list sps j=>
  dsimp only at hf;refine⟨Qmu hr.below,?_⟩;split at hf
  ·rename_i v h c l heq;cases heq;split at hf
   ·rename_i b0 n c0;split at hf
    ·rename_i cells t sz hb0;simp only[Bool.and_eq_true] at hf;obtain⟨⟨e1,e2,e3,e4,e5,e6,e9⟩,e7,e8⟩:=hf;have e1:=Nat.eq_of_beq_eq_true e1;have e2:=Nat.eq_of_beq_eq_true e2;have e9:=Nat.le_of_ble_eq_true e9;obtain rfl:=Nat.eq_of_beq_eq_true e5;obtain rfl:=Nat.eq_of_beq_eq_true e6;have e3:=Nat.eq_of_beq_eq_true e3;have e4:=Nat.le_of_ble_eq_true e4;obtain⟨hrd,h64⟩:=D.rdOf hh D.ctx hr e8;have hS:=rows_S D.ctx hr (fun k h1 h2=>absurd h1 h2) h64;obtain⟨s,k1,-,k3,k4⟩:=hr.at_ _ _ hb0;obtain⟨bs,fr,ra,rb,rc,rd',-,rz⟩:=Nh.at_ k4;obtain rfl:=rz Dd;cases e with
     |panicked=>exact hc.elim
     |outgrown=>exact hc.elim
     |returned v'=>
      have hv:VR p' (.slice (some ⟨b0,0,none⟩) n c0) v':=hc;have hv':v'=.slice (some ⟨s.blk,s.off,none⟩) n n∧n≤maxLen:=by
       cases hv with
       |slice hs _ h2=>rw[k1] at hs;cases hs;subst e2;exact⟨rfl,h2⟩
       |sliceU hs h1 h2 h3=>exfalso;unfold unk at e2;omega
       |sliceE hs h2 h3=>exfalso;unfold unkE at e2;omega
      obtain⟨rfl,hmax⟩:=hv';subst e1;have sub:∀ x o,(h'.set b0 none).get x=some o→x≠b0∧h'.get x=some o:=fun x o hx=>by
       rw[Tree.Qu] at hx;by_cases ex:x=b0
       ·rw[if_pos ex] at hx;cases hx
       ·rw[if_neg ex] at hx;exact⟨ex,hx⟩
      have hN:Xp (fun k=>w.heap.size≤k∧k≠s.blk) w' s.blk (dens N sps) s.off:=by
       refine Qhp D.ctx (hr.del b0) D.pos (fun n c t z s2 hn h70 hs2=>?_) (fun n m s2 hn hm hs2 k hk=>?_) 30 e7 s.blk s.off fun i v hvi=>?_
       ·obtain⟨x1,x2⟩:=sub _ _ hn
        have:=hS n c t z s2 x2 h70 hs2;rw[D.s] at this;exact⟨this,fun e0=>x1 (hr.one _ _ _ _ _ _ s2.blk x2 hb0 hs2 k1 rfl e0)⟩
       ·obtain⟨x1,x2⟩:=sub _ _ hn
        have:=abs_S D.ctx hr n m s2 x2 hm hs2 k hk;rw[D.s] at this;exact⟨this,fun e0=>x1 (hr.one _ _ _ _ _ _ k x2 hb0 hs2 k1 hk e0)⟩
       ·obtain⟨v',u1,u2,-⟩:=Nh.cell k4 hvi;exact⟨v',u1,u2⟩
      have hSb:=hS _ _ _ _ _ hb0 e4 k1;rw[D.s] at hSb;refine⟨_,rfl,⟨some ⟨s.blk,s.off,none⟩,sps.length,by rw[Pq],by rw[Pq];exact Nat.le_refl _,hmax,.inr ⟨s.blk,s.off,bs,rfl,hSb,ra,by omega,hN⟩⟩,hrd⟩
    ·cases hf
   ·cases hf
  ·cases hf
end
end Prs
end
end Go.Proofs.YtcbkeecabcbogaaGreatDoor
