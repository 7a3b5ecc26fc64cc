/- Scripts: the evaluator's calls that are told are the model's. Scripts: the rest of a list of tokens; trees that a run has made. Scripts: a tree that a run has made is that tree in the model; a run -/
import Derived.Test.YtcbkeecabcbogaaGreatDoorGam
set_option linter.unusedSimpArgs false
set_option linter.unusedVariables false
namespace Go.Proofs.YtcbkeecabcbogaaGreatDoor
open Go.RowKit
namespace Prs
open Ev
section
variable {b:Nat} {E:Env} {N:SEnv} {K:Cfg} {O:Nat→Prop} {w0 w:World} {cs:List Call1} {p:Plan} {h:Tree AObj}
theorem setInt_ok (C:Ctx b E N K O w0 cs)(hr:Rel K O w0 p h w){d0 d1:Int}{c:Nat}{u:Unit}{h':Tree AObj}{c':Nat}{l:Log}(e:setInt d0 d1 h c = .ok u h' c' l):h'=h.set 80 (some (.row [.int .i64 d1] 3 1))∧c'=c∧h.get 80≠none∧(∀ wm,SetAt N.D d1 w wm→Rel K O w0 p h' wm)∧∃ fr:Nat×Nat,w.heap[N.D]? = some (.cells #[.int .i64 d0] 3 fr)∧(decide (fr.1≤0)&&decide (0<fr.2))=false:=by
 unfold setInt at e
 obtain⟨rr,h2,c2,l3,l4,e3,e4⟩:=bind_inv e
 obtain⟨hn,rfl,rfl⟩:=rdRow_inv e3
 obtain⟨row,t,sz⟩:=rr
 dsimp only at e4 hn
 split at e4
 ·rename_i d
  split at e4
  ·rename_i hc
   obtain⟨rfl,rfl,rfl⟩:=hc
   unfold M.write at e4
   rw[hn] at e4
   cases e4
   obtain⟨s,k1,k2,k3,k5,-⟩:=(C.axp hr).cell
   obtain⟨s',k1',-,-,k4⟩:=hr.at_ _ _ hn
   obtain rfl:s=s':=Option.some.inj (k1.symm.trans k1')
   obtain⟨bs,fr,ra,rb,rc,rd,re,-⟩:=RowAt.at_ k4
   rw[k2] at ra
   rw[k5] at rb
   refine⟨rfl,rfl,by rw[hn];simp,fun wm hS => ?_,?_⟩
   ·refine hr.turn hn k1 (by rw[C.n];decide) (fun _ h=>h) (fun _ e=>by cases e) hS.os hS.tape hS.output (Nat.le_of_eq hS.size.symm) (fun k _ hk=>hS.block k fun e=>hk (e.trans k2.symm)) ?_
    obtain⟨fr2,f1,f2⟩:=hS.cell
    have hes:=RowAt.esz k4
    refine⟨hes,#[.int .i64 d1],fr2,by rw[k2];exact f1,by rw[k5];rfl,by rw[k3];exact Nat.le_refl 1,?_,fun j hj => ?_,fun hh=>absurd rfl hh⟩
    ·rw[k3];exact .cons (.int _ _) .nil
    ·have:j=0:=by have:j<1:=hj;omega
     rw[this];exact f2
   ·have hl1:bs.toList.length≤[Value.int .i64 d].length:=by rw[Array.length_toList,rb];exact Nat.le_refl 1
    rw[k3,List.drop_zero,List.take_of_length_le hl1] at rd
    refine⟨fr,?_,re 0 (by rw[rb];decide)⟩
    rw[ra]
    generalize hbl:bs.toList=bl at rd
    cases rd with
    |cons q1 rd=>
    cases rd
    cases q1
    rw[show bs = #[.int .i64 d] by rw[←Array.toList_inj,hbl]]
  ·cases e4
 ·cases e4
theorem res_ok (C:Ctx b E N K O w0 cs)(hr:Rel K O w0 p h w){ci:Nat}{hd:Value}{q:Bool}(h64:h.get 64=some (.row [tk ci,tk 320,hd] 61 3))(hv:VR p hd (.bool q)){res:CRes}{c:Nat}{r:CR}{h':Tree AObj}{c':Nat}{l:Log}(e:doRes 64 61 hd res h c = .ok r h' c' l)
  (hrng:M.Rng h c c') (hf:Free p c c') (hsz:w0.heap.size≤w.heap.size) {en:Ending} {w':World} (hp:CPost b E N q p res w en w'):∃ p',p.le p'∧Ev.Out p p' c c'∧Rel K O w0 p' h' w'∧CRR p' r en:=by
 induction res generalizing h w c l with
 |intl d0 d1 r0 ih=>
  unfold doRes at e
  obtain⟨_,h1,c1,l1,l2,e1,e2⟩:=bind_inv e
  obtain⟨rfl,rfl,hn,R1,-⟩:=setInt_ok C hr e1
  obtain⟨wm,hS,hp⟩:=hp
  refine ih (R1 wm hS) (by rw[Tree.get_set,if_neg (by decide)];exact h64) e2 (fun x h1 h2 => ?_) hf (by rw[hS.size];exact hsz) hp
  rw[Tree.get_set]
  by_cases ex:x=80
  ·subst ex
   exact absurd (hrng 80 h1 h2) hn
  ·rw[if_neg ex];exact hrng x h1 h2
 |cons=>cases e
 |more=>cases e
 |kid=>cases e
 |pure v=>cases e
 |look v=>
  have hb64:64<c∨c'≤64:=by
   rcases Nat.lt_or_ge 64 c with h1|h1
   ·exact .inl h1
   ·rcases Nat.lt_or_ge 64 c' with h2|h2
    ·rw[hrng 64 h1 h2] at h64;cases h64
    ·exact .inr h2
  unfold doRes at e
  obtain⟨rfl,rfl,rfl⟩:=pure_inv e
  obtain⟨hb,v',rfl,hvv⟩:=hp
  exact⟨p,Plan.le_refl _,Ev.Out.rfl,hr.quiet hb,hvv⟩
 |pan v=>
  have hb64:64<c∨c'≤64:=by
   rcases Nat.lt_or_ge 64 c with h1|h1
   ·exact .inl h1
   ·rcases Nat.lt_or_ge 64 c' with h2|h2
    ·rw[hrng 64 h1 h2] at h64;cases h64
    ·exact .inr h2
  unfold doRes at e
  obtain⟨_,h1,c1,l1,l2,e1,e2⟩:=bind_inv e
  obtain⟨rfl,rfl⟩:=write_inv e1
  obtain⟨rfl,rfl,rfl⟩:=pure_inv e2
  obtain⟨hk,v',rfl,hvv⟩:=hp
  exact⟨p,Plan.le_refl _,Ev.Out.rfl,(C.out hr h64 hk).1,⟨v',rfl,hvv⟩⟩
 |step j v=>
  have hb64:64<c∨c'≤64:=by
   rcases Nat.lt_or_ge 64 c with h1|h1
   ·exact .inl h1
   ·rcases Nat.lt_or_ge 64 c' with h2|h2
    ·rw[hrng 64 h1 h2] at h64;cases h64
    ·exact .inr h2
  unfold doRes at e
  obtain⟨cl,h1,c1,l1,l2,e1,e2⟩:=bind_inv e
  obtain⟨rfl,rfl,rfl⟩:=new_inv e1
  obtain⟨_,h2,c2,l3,l4,e3,e4⟩:=bind_inv e2
  obtain⟨rfl,rfl⟩:=write_inv e3
  obtain⟨rfl,rfl,rfl⟩:=pure_inv e4
  obtain⟨hk,hrd,v',rfl,hvv⟩:=hp
  obtain⟨R1,hold⟩:=C.out hr h64 hk
  have hne:cl≠64:=by omega
  obtain⟨s,R2,hle⟩:=put_rd C R1 (by rw[Tree.get_set,if_pos rfl]) (fun x o s hx hs hO=>(hold x o s hx hs b hO).2 rfl) hrd hv (hf cl (Nat.le_refl _) (by omega)) hne
  refine⟨_,hle,add_out,R2.congr fun x => ?_,hvv.mono hle⟩
  rw[Tree.get_set,Tree.get_set,Tree.get_set,Tree.get_set,Tree.get_set]
  split
  ·rfl
  ·split
   ·rfl
   ·rfl
 |tree j k i=>
  have hb64:64<c∨c'≤64:=by
   rcases Nat.lt_or_ge 64 c with h1|h1
   ·exact .inl h1
   ·rcases Nat.lt_or_ge 64 c' with h2|h2
    ·rw[hrng 64 h1 h2] at h64;cases h64
    ·exact .inr h2
  unfold doRes at e
  obtain⟨cl,h1,c1,l1,l2,e1,e2⟩:=bind_inv e
  obtain⟨rfl,rfl,rfl⟩:=new_inv e1
  obtain⟨d,h3,c3,l5,l6,e5,e6⟩:=bind_inv e2
  obtain⟨rfl,rfl,rfl⟩:=new_inv e5
  obtain⟨_,h2,c2,l3,l4,e3,e4⟩:=bind_inv e6
  obtain⟨rfl,rfl⟩:=write_inv e3
  obtain⟨rfl,rfl,rfl⟩:=pure_inv e4
  obtain⟨hk,hrd,hkk,hi,v',rfl,vs,rfl,hnode⟩:=hp
  obtain⟨R1,hold⟩:=C.out hr h64 hk
  have hne:cl≠64:=by omega
  have hne2:cl+1≠64:=by omega
  cases ht:N.T i with
  |mk kd x n pl kids=>
  rw[ht] at hnode
  unfold NodeC at hnode
  obtain⟨a,cp,rfl,hl⟩:=hnode
  have R2:=C.list (w:=w) (v := .slice a kids.length cp) (d:=cl+1) (m:=8 * i+1) R1 hsz (fun x o s hx hs k hO=>(hold x o s hx hs k hO).1) (hf (cl+1) (by omega) (by omega)) (by
   unfold meanN
   rw[show (8 * i+1) % 8=1 by omega,show (8 * i+1) / 8=i by omega,ht]
   exact C.kids hsz hl)
  have hle1:=Plan.le_add (s:=(⟨0,0,0,0,.slice a kids.length cp,footOf w w'⟩:Spot)) (hf (cl+1) (by omega) (by omega))
  have hpcl:(p.add (cl+1) ⟨0,0,0,0,.slice a kids.length cp,footOf w w'⟩) cl=none:=by
   unfold Plan.add
   rw[if_neg (by omega)]
   exact hf cl (Nat.le_refl _) (by omega)
  obtain⟨s,R3,hle2⟩:=put_rd C R2 (by rw[Tree.get_set,if_neg (Ne.symm hne2),Tree.get_set,if_pos rfl]) (fun x o s hx hs hO=>by
   rw[Tree.get_set] at hx
   unfold Plan.add at hs
   by_cases ex:x=cl+1
   ·rw[if_pos ex] at hx hs
    cases hx;cases hs
    have:=(footOf_ne hO).1
    have:=C.bw
    omega
   ·rw[if_neg ex] at hx hs
    exact(hold x o s hx hs b hO).2 rfl) hrd (hv.mono hle1) hpcl hne
  have hle:=Plan.le_trans hle1 hle2
  refine⟨_,hle,fun y hy => ?_,R3.congr fun x => ?_,?_⟩
  ·unfold Plan.add
   rw[if_neg (by omega),if_neg (by omega)]
  ·rw[Tree.get_set,Tree.get_set,Tree.get_set,Tree.get_set,Tree.get_set,Tree.get_set,Tree.get_set]
   by_cases x1:x=64
   ·rw[if_pos x1,if_pos x1]
   ·rw[if_neg x1,if_neg x1]
    by_cases x2:x=cl
    ·rw[if_pos x2,if_pos x2,if_neg (by omega)]
    ·rw[if_neg x2,if_neg x2,if_neg x1]
  ·have hax:=C.axp R3
   have hv1:∀ f v,treeV N i f=some v→f<4→VR _ (tk (256+4 * i+f)) v:=fun f v hfv hf4=>hax.vr (k:=256+4 * i+f) (by
    unfold tokVal
    rw[if_neg (by omega),if_neg (by omega),if_pos (by omega),show (256+4 * i+f - 256) / 4=i by omega,show (256+4 * i+f - 256) % 4=f by omega]
    exact hfv)
   have f0:treeV N i 0=some (.int .i64 (kd:Int)):=by unfold treeV;rw[ht];rfl
   have f1:treeV N i 1=some (.string ⟨x.toArray⟩):=by unfold treeV;rw[ht];rfl
   have f2:treeV N i 2=some (.int .u64 (n:Int)):=by unfold treeV;rw[ht];rfl
   have f3:treeV N i 3=some (.int .i64 (pl:Int)):=by unfold treeV;rw[ht];rfl
   refine VR.agg (.cons ?_ (.cons (hv1 1 _ f1 (by omega)) (.cons (hv1 2 _ f2 (by omega)) (.cons (hv1 3 _ f3 (by omega)) (.cons (VR.tok (s:=⟨0,0,0,0,.slice a kids.length cp,footOf w w'⟩) (hle2 _ _ (Plan.add_self _ _ _)) rfl) .nil)))))
   rcases hkk with rfl|rfl
   ·exact hv1 0 _ f0 (by omega)
   ·rw[ht];exact .int _ _
 |trees j m=>
  have hb64:64<c∨c'≤64:=by
   rcases Nat.lt_or_ge 64 c with h1|h1
   ·exact .inl h1
   ·rcases Nat.lt_or_ge 64 c' with h2|h2
    ·rw[hrng 64 h1 h2] at h64;cases h64
    ·exact .inr h2
  unfold doRes at e
  obtain⟨cl,h1,c1,l1,l2,e1,e2⟩:=bind_inv e
  obtain⟨rfl,rfl,rfl⟩:=new_inv e1
  obtain⟨d,h3,c3,l5,l6,e5,e6⟩:=bind_inv e2
  obtain⟨rfl,rfl,rfl⟩:=new_inv e5
  obtain⟨_,h2,c2,l3,l4,e3,e4⟩:=bind_inv e6
  obtain⟨rfl,rfl⟩:=write_inv e3
  obtain⟨rfl,rfl,rfl⟩:=pure_inv e4
  obtain⟨hk,hrd,v',rfl,a,cp,rfl,hlc,hlm,hl⟩:=hp
  obtain⟨R1,hold⟩:=C.out hr h64 hk
  have hne:cl≠64:=by omega
  have hne2:cl+1≠64:=by omega
  have R2:=C.list (w:=w) (v := .slice a (N.TS m).length cp) (d:=cl+1) (m:=8 * m+2) R1 hsz (fun x o s hx hs k hO=>(hold x o s hx hs k hO).1) (hf (cl+1) (by omega) (by omega)) (by
   unfold meanN
   rw[show (8 * m+2) % 8=2 by omega,show (8 * m+2) / 8=m by omega]
   exact C.grow hsz hlc hlm hl)
  have hle1:=Plan.le_add (s:=(⟨0,0,0,0,.slice a (N.TS m).length cp,footOf w w'⟩:Spot)) (hf (cl+1) (by omega) (by omega))
  have hpcl:(p.add (cl+1) ⟨0,0,0,0,.slice a (N.TS m).length cp,footOf w w'⟩) cl=none:=by
   unfold Plan.add
   rw[if_neg (by omega)]
   exact hf cl (Nat.le_refl _) (by omega)
  obtain⟨s,R3,hle2⟩:=put_rd C R2 (by rw[Tree.get_set,if_neg (Ne.symm hne2),Tree.get_set,if_pos rfl]) (fun x o s hx hs hO=>by
   rw[Tree.get_set] at hx
   unfold Plan.add at hs
   by_cases ex:x=cl+1
   ·rw[if_pos ex] at hx hs
    cases hx;cases hs
    have:=(footOf_ne hO).1
    have:=C.bw
    omega
   ·rw[if_neg ex] at hx hs
    exact(hold x o s hx hs b hO).2 rfl) hrd (hv.mono hle1) hpcl hne
  refine⟨_,Plan.le_trans hle1 hle2,fun y hy => ?_,R3.congr fun x => ?_,VR.tok (s:=⟨0,0,0,0,.slice a (N.TS m).length cp,footOf w w'⟩) (hle2 _ _ (Plan.add_self _ _ _)) rfl⟩
  ·unfold Plan.add
   rw[if_neg (by omega),if_neg (by omega)]
  ·rw[Tree.get_set,Tree.get_set,Tree.get_set,Tree.get_set,Tree.get_set,Tree.get_set,Tree.get_set]
   by_cases x1:x=64
   ·rw[if_pos x1,if_pos x1]
   ·rw[if_neg x1,if_neg x1]
    by_cases x2:x=cl
    ·rw[if_pos x2,if_pos x2,if_neg (by omega)]
    ·rw[if_neg x2,if_neg x2,if_neg x1]
theorem orc_call (C:Ctx b E N K O w0 cs):∀ (g:FuncId) (args:List Value) (m:M AObj CR),K.orc g args=some m→∀ (h:Tree AObj) (c:Nat) (r:CR) (h':Tree AObj) (c':Nat) (l:Log),M.Rng h c c'→m h c = .ok r h' c' l→
  ∀ (p:Plan) (w:World) (args':Array Value),Rel K O w0 p h w→VRs p args args'.toList→Free p c c'→Calls Tryz.prog g args' w fun e w'=>∃ p',p.le p'∧Ev.Out p p' c c'∧Rel K O w0 p' h' w'∧CRR p' r e:=by
 intro g args m hm h c r h' c' l hrng e p w args' hr hv hf
 rw[C.orc] at hm
 rcases orcS_some hm with ⟨ys,rfl,rfl⟩|⟨v,hfind,rfl⟩
 case inr=>
  obtain⟨cc,h1,h2,h3,h4⟩:=findP_mem hfind
  have hc:=C.calls cc h1
  unfold CallS at hc
  rw[h4] at hc
  obtain⟨rfl,rfl,rfl⟩:=pure_inv e
  rw[←h2]
  refine(hc p (C.axp hr) args'.toList w (by rw[h3];exact hv) (C.lows hr)).mono ?_
  rintro e w' ⟨rfl,v',rfl,hvv⟩
  exact⟨p,Plan.le_refl _,Ev.Out.rfl,hr,hvv⟩
 generalize ha:args'.toList=al at hv
 cases hv with
 |@cons _ v0 _ vs hp0 hvs=>
 obtain⟨s0,a1,a2,a3,a4,a5⟩:=(C.axp hr).rd
 have hv0:v0=rp b:=by
  cases hp0 with
  |ptr hs=>
   rw[a1] at hs
   cases hs
   rw[a2,a3]
 subst hv0
 have hargs:args'=(rp b :: vs).toArray:=by rw[←Array.toList_inj,ha]
 rw[hargs]
 unfold toldM at e
 obtain⟨rr,h1,c1,l1,l2,e1,e2⟩:=bind_inv e
 obtain⟨h64,rfl,rfl⟩:=rdRow_inv e1
 obtain⟨row,t,sz⟩:=rr
 dsimp only at e2 h64
 split at e2
 ·rename_i ci hd
  split at e2
  ·rename_i hc
   obtain⟨rfl,rfl,ho⟩:=hc
   obtain⟨o,h2,c2,l3,l4,e3,e4⟩:=bind_inv e2
   obtain⟨hci,rfl,rfl⟩:=read_inv e3
   split at e4
   ·rename_i m
    split at e4
    ·rename_i hm4
     obtain⟨i,rfl⟩:∃ i,m=8 * i:=⟨m / 8,by omega⟩
     rw[show 8 * i / 8=i by omega] at e4
     cases hfind:findC cs g ys i hd with
     |some res=>
      rw[hfind] at e4
      obtain⟨q,hq,hrd⟩:=rd_open C hr h64 ho hci
      have hc:=C.calls _ (findC_mem hfind)
      unfold CallS at hc
      cases res with
      |pure v=>unfold doRes at e4;cases e4
      |cons=>unfold doRes at e4;cases e4
      |more=>unfold doRes at e4;cases e4
      |kid=>unfold doRes at e4;cases e4
      |intl d0 d1 r0=>
       have e5:=e4
       unfold doRes at e5
       obtain⟨_,h1,c1,l1,l2,e6,-⟩:=bind_inv e5
       obtain⟨-,-,-,-,fr,hf1,hf2⟩:=setInt_ok C hr e6
       refine(hc p (C.axp hr) q vs w fr hq hvs hf1 hf2 hrd hr.below.size).mono ?_
       intro en w' hpost
       exact res_ok C hr h64 hq e4 hrng hf hr.below.size hpost
      |_=>
       refine(hc p (C.axp hr) q vs w hq hvs hrd hr.below.size).mono ?_
       intro en w' hpost
       exact res_ok C hr h64 hq e4 hrng hf hr.below.size hpost
     |none=>rw[hfind] at e4;cases e4
    ·cases e4
   ·cases e4
  ·cases e2
 ·cases e2
end
end Prs
end Go.Proofs.YtcbkeecabcbogaaGreatDoor
namespace Go.Proofs.YtcbkeecabcbogaaGreatDoor
open Go.RowKit
namespace Prs
open Ev
theorem run_tail (g o n c:Nat)(hc:n+1≤c)(W:World):(Instr.sliceAt 37 (.slice (some ⟨g,o,none⟩) (n+1) c) (some (.int .i64 1)) none none).run Tryz.prog W = .ok (.slice (some (if c=1 then ⟨g,o,none⟩ else ⟨g,o+4,none⟩)) n (c - 1)) W:=by
 have hu:(Tryz.prog).underlying 37=some (.slice 46):=by kernel_rfl
 have hs:(sizeOf 46).run Tryz.prog W = .ok 4 W:=by kernel_rfl
 have hb:boundsX (n+1) c (some (.int .i64 1)) none none=some (1,n+1,c):=by
  have e1:optInt (some (.int .i64 1))=some (some 1):=rfl
  have e2:optInt none=some none:=rfl
  unfold boundsX
  rw[e1,e2]
  dsimp only [Option.getD_none,Option.getD_some]
  rw[if_pos ⟨by decide,by decide,by decide,by simp,by simp;omega,by simp,by simp⟩]
  simp
 unfold Instr.sliceAt
 rw[Sem.run_bind,run_underlying hu W,Result.andThen_ok]
 dsimp only
 unfold Instr.slice
 simp only[Sem.run_bind,run_underlying hu W,Result.andThen_ok,(run_bounds (P:=Tryz.prog) (isS:=true) hb W).1,hs]
 split <;> simp[Addr.add_mid]
def nextOf:List (Nat×Nat)→Nat→Option Nat
 | [],_=>none
 |x :: l,i=>match Nat.beq x.1 i with
  |true=>some x.2
  |false=>nextOf l i
theorem nextOf_mem:∀ {l:List (Nat×Nat)} {i j:Nat},nextOf l i=some j→(i,j)∈l
 | [],_,_,h=>by cases h
 |x :: l,i,j,h=>by
  unfold nextOf at h
  split at h
  ·rename_i hb
   obtain⟨a,b⟩:=x
   cases h
   rw[←Nat.eq_of_beq_eq_true hb]
   exact List.mem_cons_self ..
  ·exact List.mem_cons_of_mem _ (nextOf_mem h)
noncomputable def tailM (nxt:List (Nat×Nat))(c:Nat):M AObj Value:=M.bind (M.read c) fun o=>match o with
 | .abs m=>if m % 8=0 then (match nextOf nxt (m / 8) with
  |some j=>M.bind (M.new (.abs (8 * j))) fun d=>M.pure (tk d)
  |none=>M.fail) else M.fail
 |_=>M.fail
theorem local_tail (nxt:List (Nat×Nat))(c:Nat):M.Local (tailM nxt c):=by
 unfold tailM
 refine M.local_bind (M.local_read _) fun o => ?_
 split
 ·split
  ·split
   ·exact M.local_bind (M.local_new _) fun _=>M.local_pure _
   ·exact M.local_fail
  ·exact M.local_fail
 ·exact M.local_fail
noncomputable def opxS (nxt:List (Nat×Nat))(o:Oper)(ρ:Operand→Option Value):Option (M AObj Value):=match o.op with
 | .slice t x (some lo) none none=>match ρ x with
  |some (.chan (some c))=>(match ρ lo with
   |some (.int .i64 1)=>if t=37 then some (tailM nxt c) else none
   |_=>none)
  |_=>none
 |_=>none
theorem opxS_some {nxt:List (Nat×Nat)}{o:Oper}{ρ:Operand→Option Value}{m:M AObj Value}(h:opxS nxt o ρ=some m):∃ x lo c,o.op = .slice 37 x (some lo) none none∧ρ x=some (tk c)∧ρ lo=some (.int .i64 1)∧m=tailM nxt c:=by
 unfold opxS at h
 split at h
 ·rename_i t x lo hop
  split at h
  ·rename_i c hx
   split at h
   ·rename_i hlo
    split at h
    ·rename_i ht
     cases h
     exact⟨x,lo,c,by rw[hop,ht],hx,hlo,rfl⟩
    ·cases h
   ·cases h
  ·cases h
 ·cases h
theorem opxS_congr (nxt:List (Nat×Nat))(o:Oper)(ρ σ:Operand→Option Value)(h:∀ x∈o.op.operands.toList,ρ x=σ x):opxS nxt o ρ=opxS nxt o σ:=by
 unfold opxS
 split
 ·rename_i t x lo hop
  rw[hop] at h
  rw[h x (by simp[Op.operands]),h lo (by simp[Op.operands])]
 ·rfl
section
variable {b:Nat} {E:Env} {N:SEnv} {K:Cfg} {O:Nat→Prop} {w0 w:World} {cs:List Call1} {p:Plan} {h:Tree AObj}
theorem orc_op (C:Ctx b E N K O w0 cs){nxt:List (Nat×Nat)}(hn:∀ x∈nxt,∃ t,N.L x.1=t :: N.L x.2):∀ (o:Oper) (ρ:Ev.Env) (m:M AObj Value),opxS nxt o ρ=some m→∀ (h:Tree AObj) (c:Nat) (v:Value) (h':Tree AObj) (c':Nat) (l:Log),M.Rng h c c'→m h c = .ok v h' c' l→
  ∀ (p:Plan) (w:World) (ρ':Operand→Value),Rel K O w0 p h w→EnvR p ρ ρ'→Free p c c'→GivesO Tryz.prog K O w0 p w c c' h' (execOp ρ' o) (.val v)∨(v=undef∧GivesO Tryz.prog K O w0 p w c c' h' (execOp ρ' o) .skip):=by
 intro o ρ m hm h c v h' c' l _ e p w ρ' hr hρ hf
 obtain⟨x,lo,ci,hop,hx,hlo,rfl⟩:=opxS_some hm
 have hvx:=hρ x _ hx
 have hvl:=hρ lo _ hlo
 unfold tailM at e
 obtain⟨ob,h1,c1,l1,l2,e1,e2⟩:=bind_inv e
 obtain⟨hci,rfl,rfl⟩:=read_inv e1
 split at e2
 ·rename_i m
  split at e2
  ·rename_i hm4
   obtain⟨i,rfl⟩:∃ i,m=8 * i:=⟨m / 8,by omega⟩
   rw[show 8 * i / 8=i by omega] at e2
   cases hj:nextOf nxt i with
   |none=>rw[hj] at e2;cases e2
   |some j=>
    rw[hj] at e2
    obtain⟨d,h2,c2,l3,l4,e3,e4⟩:=bind_inv e2
    obtain⟨rfl,rfl,rfl⟩:=new_inv e3
    obtain⟨rfl,rfl,rfl⟩:=pure_inv e4
    obtain⟨t,ht⟩:=hn _ (nextOf_mem hj)
    dsimp only at ht
    have htok:=C.tok hr hci hvx
    rw[ht] at htok
    obtain⟨a,cp,he,hl1,hl2,hl3⟩:=htok
    obtain⟨g,og,rfl,hg,-,hrest⟩:=hl3.resolve_left (by simp)
    rw[List.length_cons] at he hl1
    have hp:=hf d (Nat.le_refl _) (by omega)
    have hlo':ρ' lo = .int .i64 1:=by
     generalize ρ' lo=u at hvl
     cases hvl;rfl
    have hnew:TokA b E.w0 (.slice (some (if cp=1 then ⟨g,og,none⟩ else ⟨g,og+4,none⟩)) (N.L j).length (cp - 1)) (N.L j):=by
     refine⟨_,_,rfl,by omega,by omega,?_⟩
     cases hL:N.L j with
     |nil=>exact .inl rfl
     |cons u l=>
      rw[hL] at hl1
      rw[List.length_cons] at hl1
      rw[if_neg (by omega)]
      exact .inr ⟨g,og+4,rfl,hg,hL ▸ hrest⟩
    have R:=hr.take (o := .abs (8 * j)) (c:=d) (s:=⟨0,0,0,0,.slice (some (if cp=1 then ⟨g,og,none⟩ else ⟨g,og+4,none⟩)) (N.L j).length (cp - 1),noF⟩) hp (fun k hk=>absurd rfl hk) (fun _ k hk=>absurd rfl hk) (fun k hk=>absurd rfl hk) (fun k o hk=>by cases hk) (fun m hm=>by
     cases hm
     rw[C.mean]
     unfold meanN
     rw[show (8 * j) % 8=0 by omega,show 8 * j / 8=j by omega]
     exact⟨hnew,rfl⟩)
    refine .inl ⟨_,w,.value (.slice (some (if cp=1 then ⟨g,og,none⟩ else ⟨g,og+4,none⟩)) (N.L j).length (cp - 1)),?_,⟨_,rfl,VR.tok (s:=⟨0,0,0,0,.slice (some (if cp=1 then ⟨g,og,none⟩ else ⟨g,og+4,none⟩)) (N.L j).length (cp - 1),noF⟩) (Plan.add_self _ _ _) rfl⟩,R,Plan.le_add hp,add_out⟩
    unfold execOp
    rw[hop]
    dsimp only
    simp only[Option.map_some,Option.map_none]
    rw[hlo',he,Sem.run_bind,run_tail g og _ cp hl1]
    rfl
  ·cases e2
 ·cases e2
end
def isNat (pos:List Nat)(u:Bool):Value→Bool
 | .int .i64 i => !u&&decide (0≤i)
 | .int .u64 i=>u&&decide (0≤i)
 | .chan (some b)=>(if b<128 then false else if b<256 then (!u&&(Nat.beq ((b - 128) % 8) 0||Nat.beq ((b - 128) % 8) 4))||(u&&(pos.any (Nat.beq b)&&Nat.beq ((b - 128) % 8) 3)) else if b<320 then (if u then Nat.beq ((b - 256) % 4) 2 else Nat.beq ((b - 256) % 4) 0||Nat.beq ((b - 256) % 4) 3) else (if b<384 then !u&&pos.any (Nat.beq b) else false))
 |_=>false
def isStr (N:SEnv):Value→Prop
 | .string _=>True
 | .chan (some b)=>∃ x:List UInt8,tokVal N b=some (.string ⟨x.toArray⟩)
 |_=>False
def strOK:Value→Bool
 | .string _=>true
 | .chan (some b)=>if b<128 then false else if b<256 then Nat.beq ((b - 128) % 8) 2 else if b<320 then Nat.beq ((b - 256) % 4) 1 else false
 |_=>false
mutual
noncomputable def chkT (pos:List Nat):Nat→Tree AObj→List Value→Sp→Bool
 |0,_,_,_=>false
 |f+1,h,cells,sp=>match cells with
  | [k',x',n',a',lv]=>match sp with
   | .nd k x n a kids=>(eqV 9 k k'&&(eqV 9 x x'&&(eqV 9 n n'&&eqV 9 a a')))&&((isNat pos false k&&(strOK x&&(isNat pos true n&&isNat pos false a)))&&(match kids with
    | []=>(match lv with
     | .slice none 0 0=>true
     |_=>false)
    |s :: ks=>(match lv with
     | .slice (some ⟨b,0,none⟩) len _=>Nat.beq len (s :: ks).length&&(match h.get b with
      |some (.row cs _ _)=>Nat.ble 70 b&&chkL pos f h cs (s :: ks)
      |_=>false)
     |_=>false)))
   | .ab k x n a m=>(eqV 9 k k'&&(eqV 9 x x'&&(eqV 9 n n'&&eqV 9 a a')))&&((isNat pos false k&&(strOK x&&(isNat pos true n&&isNat pos false a)))&&(match lv with
     | .chan (some c)=>(match h.get c with
      |some (.abs m')=>Nat.beq m m'&&(Nat.beq (m % 8) 1||Nat.beq (m % 8) 2)
      |_=>false)
     |_=>false))
  |_=>false
noncomputable def chkL (pos:List Nat):Nat→Tree AObj→List Value→List Sp→Bool
 |0,_,_,_=>false
 |f+1,h,cs,kids=>match kids with
  | []=>true
  |s :: ks=>chkT pos f h (cs.take 5) s&&chkL pos f h (cs.drop 5) ks
end
end Prs
end Go.Proofs.YtcbkeecabcbogaaGreatDoor
namespace Go.Proofs.YtcbkeecabcbogaaGreatDoor
open Go.RowKit
namespace Prs
open Ev
def PosOK (N:SEnv)(pos:List Nat):Prop:=∀ k∈pos,∃ n:Nat,tokVal N k=some (.int (if k<256 then .u64 else .i64) (n:Int))
section
variable {b:Nat} {E:Env} {N:SEnv} {K:Cfg} {O:Nat→Prop} {w0 w:World} {cs:List Call1} {p:Plan} {h:Tree AObj} {pos:List Nat}
theorem any_beq {l:List Nat}{b:Nat}(h:l.any (Nat.beq b)=true):b∈l:=by
 obtain⟨x,hx,he⟩:=List.any_eq_true.1 h
 rw[Nat.eq_of_beq_eq_true he]
 exact hx
theorem nat_tok (hpos:PosOK N pos){u:Bool}{k:Nat}(h:isNat pos u (tk k)=true):∃ n:Nat,tokVal N k=some (.int (if u then .u64 else .i64) (n:Int)):=by
 unfold isNat tk at h
 dsimp only at h
 have lst:∀ f v,(k - 128) % 8=f→128≤k→k<256→listV N ((k - 128) / 8) f=some v→tokVal N k=some v:=fun f v hf h1 h2 hv=>by
  unfold tokVal
  rw[if_neg (by omega),if_pos h2,hf,hv]
 have tre:∀ f v,(k - 256) % 4=f→256≤k→k<320→treeV N ((k - 256) / 4) f=some v→tokVal N k=some v:=fun f v hf h1 h2 hv=>by
  unfold tokVal
  rw[if_neg (by omega),if_neg (by omega),if_pos h2,hf,hv]
 split at h
 ·cases h
 ·split at h
  ·rename_i h1 h2
   cases u with
   |false=>
    simp only[Bool.not_false,Bool.true_and,Bool.false_and,Bool.or_false,Bool.or_eq_true] at h
    rcases h with h|h
    ·exact⟨_,lst 0 _ (Nat.eq_of_beq_eq_true h) (by omega) h2 rfl⟩
    ·exact⟨_,lst 4 _ (Nat.eq_of_beq_eq_true h) (by omega) h2 rfl⟩
   |true=>
    simp only[Bool.not_true,Bool.false_and,Bool.true_and,Bool.false_or,Bool.and_eq_true] at h
    obtain⟨n,hn⟩:=hpos k (any_beq h.1)
    rw[if_pos h2] at hn
    exact⟨n,hn⟩
  ·split at h
   ·rename_i h1 h2 h3
    cases u with
    |true=>
     simp only[if_true] at h
     exact⟨_,tre 2 _ (Nat.eq_of_beq_eq_true h) (by omega) h3 rfl⟩
    |false=>
     simp only[Bool.false_eq_true,if_false,Bool.or_eq_true] at h
     rcases h with h|h
     ·exact⟨_,tre 0 _ (Nat.eq_of_beq_eq_true h) (by omega) h3 rfl⟩
     ·exact⟨_,tre 3 _ (Nat.eq_of_beq_eq_true h) (by omega) h3 rfl⟩
   ·split at h
    ·rename_i h1 h2 h3 h4
     cases u with
     |true=>cases h
     |false=>
      simp only[Bool.not_false,Bool.true_and] at h
      obtain⟨n,hn⟩:=hpos k (any_beq h)
      rw[if_neg h2] at hn
      exact⟨n,hn⟩
    ·cases h
theorem isNat_ok (hpos:PosOK N pos)(hax:AxN b N p){u:Bool}{v v':Value}(h:isNat pos u v=true)(hv:VR p v v'):v' = .int (if u then .u64 else .i64) (natOf N v:Int):=by
 have h0:=h
 unfold isNat at h
 split at h
 ·rename_i i
  simp only[Bool.and_eq_true,Bool.not_eq_true',decide_eq_true_eq] at h
  cases hv
  rw[h.1]
  show Value.int .i64 i = .int .i64 ((i.toNat:Nat):Int)
  rw[Int.toNat_of_nonneg h.2]
 ·rename_i i
  simp only[Bool.and_eq_true,decide_eq_true_eq] at h
  cases hv
  rw[h.1]
  show Value.int .u64 i = .int .u64 ((i.toNat:Nat):Int)
  rw[Int.toNat_of_nonneg h.2]
 ·rename_i k
  obtain⟨n,hn⟩:=nat_tok hpos h0
  have hk:natOf N (.chan (some k))=n:=by
   show (match tokVal N k with
    |some (.int _ i)=>i.toNat
    |_=>0)=n
   rw[hn]
   rfl
  rw[hax.val hn hv,hk]
 ·cases h
theorem strOK_ok (hax:AxN b N p){v v':Value}(h:strOK v=true)(hv:VR p v v'):v' = .string ⟨(strOf N v).toArray⟩:=by
 unfold strOK at h
 split at h
 ·cases hv
  rfl
 ·rename_i k
  have key:∀ x:List UInt8,tokVal N k=some (.string ⟨x.toArray⟩)→v' = .string ⟨(strOf N (.chan (some k))).toArray⟩:=fun x hx=>by
   have hk:strOf N (.chan (some k))=x:=by
    show (match tokVal N k with
     |some (.string s)=>s.data.toList
     |_=>[])=x
    rw[hx]
   rw[hax.val hx hv,hk]
  split at h
  ·cases h
  ·split at h
   ·rename_i h1 h2
    refine key (headT (N.L ((k - 128) / 8))).text ?_
    unfold tokVal
    rw[if_neg h1,if_pos h2,Nat.eq_of_beq_eq_true h]
    rfl
   ·split at h
    ·rename_i h1 h2 h3
     refine key (N.T ((k - 256) / 4)).text ?_
     unfold tokVal
     rw[if_neg h1,if_neg h2,if_pos h3,Nat.eq_of_beq_eq_true h]
     rfl
    ·cases h
 ·cases h
theorem cells5 {vs:List Value}{k x n a lv:Value}(hv:VRs p [k,x,n,a,lv] vs):∃ k' x' n' a' lv',vs=[k',x',n',a',lv']∧VR p k k'∧VR p x x'∧VR p n n'∧VR p a a'∧VR p lv lv':=by
 cases hv with
 |cons h1 hv=>
 cases hv with
 |cons h2 hv=>
 cases hv with
 |cons h3 hv=>
 cases hv with
 |cons h4 hv=>
 cases hv with
 |cons h5 hv=>
 cases hv
 exact⟨_,_,_,_,_,rfl,h1,h2,h3,h4,h5⟩
theorem dens_length (N:SEnv):∀ l:List Sp,(dens N l).length=l.length
 | []=>rfl
 |_ :: l=>by unfold dens;simp[dens_length N l]
theorem rows_S (C:Ctx b E N K O w0 cs)(hr:Rel K O w0 p h w)(hS:∀ k,O k→k≠b→N.S k)(h64:∃ c t z,h.get 64=some (.row c t z)):∀ n c t z s,h.get n=some (.row c t z)→70≤n→p n=some s→N.S s.blk:=by
 intro n c t z s hn hlt hs
 obtain⟨s1,q1,q2,-⟩:=hr.at_ _ _ hn
 obtain rfl:s1=s:=Option.some.inj (q1.symm.trans hs)
 rcases q2 (by rw[C.n];omega) s1.blk rfl with hO|hO
 ·refine hS _ hO fun hkb => ?_
  obtain⟨s0,a1,a2,-⟩:=(C.axp hr).rd
  obtain⟨c64,t64,z64,hb64⟩:=h64
  have:=hr.one _ _ _ _ _ _ s1.blk hn hb64 q1 a1 rfl (by show s1.blk=s0.blk;rw[hkb,a2])
  omega
 ·exact C.s _ hO
mutual
theorem chkT_okS (C:Ctx b E N K O w0 cs)(hr:Rel K O w0 p h w)(hpos:PosOK N pos){S:Nat→Prop}(hS:∀ n c t z s,h.get n=some (.row c t z)→70≤n→p n=some s→S s.blk)(hA:∀ n m s,h.get n=some (.abs m)→(m % 8=1∨m % 8=2)→p n=some s→∀ k,s.foot k≠none→S k):∀ (f:Nat) {cells vs:List Value} {sp:Sp},chkT pos f h cells sp=true→VRs p cells vs→NodeC S w (den N sp) vs
 |0,_,_,_,e,_=>by unfold chkT at e;cases e
 |f+1,cells,vs,sp,e,hv=>by
  have hax:=C.axp hr
  unfold chkT at e
  split at e
  ·rename_i k' x' n' a' lv
   obtain⟨k2,x2,n2,a2,lv2,rfl,v1,v2,v3,v4,v5⟩:=cells5 hv
   cases sp with
   |nd k x n a kids=>
    simp only[Bool.and_eq_true] at e
    obtain⟨⟨e1,e2,e3,e4⟩,⟨e5,e6,e7,e8⟩,e9⟩:=e
    obtain rfl:=eqV_ok e1
    obtain rfl:=eqV_ok e2
    obtain rfl:=eqV_ok e3
    obtain rfl:=eqV_ok e4
    have g1:=isNat_ok hpos hax e5 v1
    have g2:=strOK_ok hax e6 v2
    have g3:=isNat_ok hpos hax e7 v3
    have g4:=isNat_ok hpos hax e8 v4
    simp only[Bool.false_eq_true,if_false,if_true] at g1 g3 g4
    subst g1 g2 g3 g4
    unfold den NodeC
    cases kids with
    |nil=>
     dsimp only at e9
     split at e9
     ·cases v5
      exact⟨_,_,rfl,.inl rfl⟩
     ·cases e9
    |cons s ks=>
     dsimp only at e9
     split at e9
     ·rename_i bn len cp
      rw[Bool.and_eq_true] at e9
      obtain⟨e10,e11⟩:=e9
      split at e11
      ·rename_i cells2 t sz hb
       rw[Bool.and_eq_true] at e11
       obtain⟨e11,e12⟩:=e11
       obtain rfl:=Nat.eq_of_beq_eq_true e10
       obtain⟨s1,q1,q2,q3,q4⟩:=hr.at_ _ _ hb
       have hsl:∃ c,lv2 = .slice (some ⟨s1.blk,s1.off,none⟩) (s :: ks).length c:=by
        cases v5 with
        |slice hs _ _=>rw[q1] at hs;cases hs;exact⟨_,rfl⟩
        |sliceU hs _ _ _=>rw[q1] at hs;cases hs;exact⟨_,rfl⟩
       obtain⟨c,rfl⟩:=hsl
       have hSb:S s1.blk:=hS _ _ _ _ _ hb (Nat.le_of_ble_eq_true e11) q1
       refine⟨_,c,by rw[dens_length],.inr ⟨s1.blk,s1.off,rfl,hSb,?_⟩⟩
       exact chkL_okS C hr hpos hS hA f e12 s1.blk s1.off fun i v hvi=>by
        obtain⟨v',u1,u2,-⟩:=RowAt.cell q4 hvi
        exact⟨v',u1,u2⟩
      ·cases e11
     ·cases e9
   |ab k x n a m=>
    simp only[Bool.and_eq_true] at e
    obtain⟨⟨e1,e2,e3,e4⟩,⟨e5,e6,e7,e8⟩,e9⟩:=e
    obtain rfl:=eqV_ok e1
    obtain rfl:=eqV_ok e2
    obtain rfl:=eqV_ok e3
    obtain rfl:=eqV_ok e4
    have g1:=isNat_ok hpos hax e5 v1
    have g2:=strOK_ok hax e6 v2
    have g3:=isNat_ok hpos hax e7 v3
    have g4:=isNat_ok hpos hax e8 v4
    simp only[Bool.false_eq_true,if_false,if_true] at g1 g3 g4
    subst g1 g2 g3 g4
    unfold den NodeC
    split at e9
    ·rename_i ci
     split at e9
     ·rename_i m' hci
      rw[Bool.and_eq_true] at e9
      obtain rfl:=Nat.eq_of_beq_eq_true e9.1
      cases v5 with
      |@tok _ s1 hs1 _=>
      have hmean:=hr.mean _ _ _ hci hs1
      rw[C.mean] at hmean
      have hlist:ListS N.S s1 (listOf N m):=by
       unfold meanN at hmean
       unfold listOf
       rw[Bool.or_eq_true] at e9
       rcases e9.2 with h4|h4
       ·have h4:=Nat.eq_of_beq_eq_true h4
        rw[h4] at hmean
        rw[if_pos h4]
        exact hmean
       ·have h4:=Nat.eq_of_beq_eq_true h4
        rw[h4] at hmean
        rw[if_neg (by omega)]
        exact hmean.toS
      obtain⟨ad,c,hval,-,hl⟩:=hlist
      have hf1:=hA _ _ _ hci (by rw[Bool.or_eq_true] at e9;exact e9.2.imp Nat.eq_of_beq_eq_true Nat.eq_of_beq_eq_true) hs1
      rw[hval]
      refine⟨ad,c,rfl,hl.imp id ?_⟩
      rintro⟨g,o,rfl,hg,hW⟩
      obtain⟨s2,q1,-,-,q4⟩:=hr.at_ _ _ hci
      obtain rfl:s2=s1:=Option.some.inj (q1.symm.trans hs1)
      exact⟨g,o,rfl,hf1 g hg,(hW w q4).frame (fun k hk _=>hf1 k hk) (fun _ _ _=>rfl) hg⟩
     ·cases e9
    ·cases e9
  ·cases e
theorem chkL_okS (C:Ctx b E N K O w0 cs)(hr:Rel K O w0 p h w)(hpos:PosOK N pos){S:Nat→Prop}(hS:∀ n c t z s,h.get n=some (.row c t z)→70≤n→p n=some s→S s.blk)(hA:∀ n m s,h.get n=some (.abs m)→(m % 8=1∨m % 8=2)→p n=some s→∀ k,s.foot k≠none→S k):∀ (f:Nat) {cells:List Value} {kids:List Sp},chkL pos f h cells kids=true→∀ (g o:Nat),(∀ i v,cells[i]? = some v→∃ v',w.cell? ⟨g,o+i,none⟩=some v'∧VR p v v')→NodeR S w g (dens N kids) o
 |0,_,_,e,_,_,_=>by unfold chkL at e;cases e
 |f+1,cells,kids,e,g,o,hc=>by
  unfold chkL at e
  cases kids with
  |nil=>unfold dens NodeR;trivial
  |cons s ks=>
   dsimp only at e
   rw[Bool.and_eq_true] at e
   unfold dens NodeR
   have hlen:∃ k x n a lv,cells.take 5=[k,x,n,a,lv]:=by
    have:=e.1
    cases f with
    |zero=>unfold chkT at this;cases this
    |succ f=>
     unfold chkT at this
     split at this
     ·rename_i hh;exact⟨_,_,_,_,_,hh⟩
     ·cases this
   obtain⟨k,x,n,a,lv,h5⟩:=hlen
   have at5:∀ i v,[k,x,n,a,lv][i]? = some v→cells[i]? = some v:=fun i v hi=>by
    rw[←h5,List.getElem?_take] at hi
    split at hi
    ·exact hi
    ·cases hi
   obtain⟨k',c0,r0⟩:=hc 0 k (at5 0 k rfl)
   obtain⟨x',c1,r1⟩:=hc 1 x (at5 1 x rfl)
   obtain⟨n',c2,r2⟩:=hc 2 n (at5 2 n rfl)
   obtain⟨a',c3,r3⟩:=hc 3 a (at5 3 a rfl)
   obtain⟨lv',c4,r4⟩:=hc 4 lv (at5 4 lv rfl)
   refine⟨⟨k',x',n',a',lv',c0,c1,c2,c3,c4,chkT_okS C hr hpos hS hA f (h5 ▸ e.1) (.cons r0 (.cons r1 (.cons r2 (.cons r3 (.cons r4 .nil)))))⟩,?_⟩
   refine chkL_okS C hr hpos hS hA f e.2 g (o+5) fun i v hi => ?_
   rw[List.getElem?_drop] at hi
   obtain⟨v',u1,u2⟩:=hc _ _ hi
   exact⟨v',by rw[Nat.add_assoc];exact u1,u2⟩
end
theorem abs_S (C:Ctx b E N K O w0 cs)(hr:Rel K O w0 p h w):∀ n m s,h.get n=some (.abs m)→(m % 8=1∨m % 8=2)→p n=some s→∀ k,s.foot k≠none→N.S k:=fun n m s hn hm hs=>by
 have hmean:=hr.mean _ _ _ hn hs
 rw[C.mean] at hmean
 unfold meanN at hmean
 rcases hm with h4|h4
 ·rw[h4] at hmean
  obtain⟨_,_,-,h,-⟩:=hmean
  exact h
 ·rw[h4] at hmean
  obtain⟨_,_,-,h,-⟩:=hmean.toS
  exact h
theorem chkT_ok (C:Ctx b E N K O w0 cs)(hr:Rel K O w0 p h w)(hpos:PosOK N pos)(hS:∀ n c t z s,h.get n=some (.row c t z)→70≤n→p n=some s→N.S s.blk)(f:Nat){cells vs:List Value}{sp:Sp}(e:chkT pos f h cells sp=true)(hv:VRs p cells vs):NodeC N.S w (den N sp) vs:=chkT_okS C hr hpos hS (abs_S C hr) f e hv
end
end Prs
end Go.Proofs.YtcbkeecabcbogaaGreatDoor
namespace Go.Proofs.YtcbkeecabcbogaaGreatDoor
open Go.RowKit
namespace Prs
open Ev
theorem node_info:∃ i:TI,TIOK Tryz.prog 26 i∧i.size=5∧i.bytes≤100:=by
 have h:(match tiOf Tryz.prog 26 with
  |some i=>Nat.beq i.size 5&&Nat.ble i.bytes 100
  |none=>false)=true:=by kernel_rfl
 cases hi:tiOf Tryz.prog 26 with
 |none=>rw[hi] at h;cases h
 |some i=>
  rw[hi] at h
  simp only[Bool.and_eq_true] at h
  exact⟨i,tiOf_ok hi,Nat.eq_of_beq_eq_true h.1,Nat.le_of_ble_eq_true h.2⟩
theorem under_nodes:(Tryz.prog).underlying 24=some (.slice 26):=by kernel_rfl
theorem append_real (w:World)(a:Option Addr)(n c rb ro rc:Nat)(news:List Value)(ty:TypeId)(hnc:n≤c)(hcm:c≤maxLen)(hbig:n≤4294967296)
  (hl:(a=none∧n=0∧c=0)∨∃ g o bs,a=some ⟨g,o,none⟩∧w.heap[g]? = some (.cells bs 26 (0,0))∧o+c * 5≤bs.size)
  (h5:news.length=5) (hn:∀ j u,news[j]? = some u→w.cell? ⟨rb,ro+j,none⟩=some u) (h1:∀ u∈news,u.oneCell'=true):
  ∃ (w':World) (g' o' c':Nat) (bs':Array Value),(Builtin.append_ #[24,24] ty #[.slice a n c,.slice (some ⟨rb,ro,none⟩) 1 rc]).run Tryz.prog w = .ok (.slice (some ⟨g',o',none⟩) (n+1) c') w'∧n+1≤c'∧c'≤maxLen∧
   w'.os=w.os∧w'.tape=w.tape∧w'.output=w.output∧w.heap.size≤w'.heap.size∧w'.heap[g']? = some (.cells bs' 26 (0,0))∧o'+c' * 5≤bs'.size∧(∀ k,k<w.heap.size→k≠g'→w'.heap[k]? = w.heap[k]?)∧
   (∀ j u,news[j]? = some u→w'.cell? ⟨g',o'+5 * n+j,none⟩=some u)∧((g'=w.heap.size∧w'.heap.size=w.heap.size+1)∨(∃ o,a=some ⟨g',o,none⟩∧w'.heap.size=w.heap.size))∧
   (∀ g o,a=some ⟨g,o,none⟩→∀ i,i<5 * n→w'.cell? ⟨g',o'+i,none⟩=w.cell? ⟨g,o+i,none⟩):=by
 obtain⟨i,hi,hi5,hib⟩:=node_info
 obtain⟨f,hf1,hf2,hf3,hf4⟩:=hi.info
 have hsrc:Src Tryz.prog f.size 24 (.slice (some ⟨rb,ro,none⟩) 1 rc) 1 news w:=Src.ofSlice w under_nodes _ 1 rc news (by rw[h5,hf2,hi5]) (fun j u hj=>by rw[Addr.add_mid];exact hn j u hj) h1
 by_cases hroom:n+1≤c
 ·obtain⟨g,o,bs,rfl,hg,hsz⟩:=hl.resolve_left (fun hh=>by omega)
  have hn5:n * 5+5≤c * 5:=by omega
  have hin:∀ j,j<news.length→o+n * 5+j<bs.size:=fun j hj=>by omega
  have hrun:=run_append_room_src w 24 24 ty 26 f under_nodes hf1 g o n c (.slice (some ⟨rb,ro,none⟩) 1 rc) 1 news hsrc hroom (fun j hj=>by
   rw[hf2,hi5]
   unfold World.cell?
   rw[hg]
   have:=hin j hj
   simp[this]) (fun j hj=>by
   unfold World.frozen?
   rw[hg]
   simp)
  rw[hf2,hi5] at hrun
  have hbel:∀ k,k<w.heap.size→k≠g→(w.setCells g (o+n * 5) news).heap[k]? = w.heap[k]? := fun k h1 h2=>World.heap_setCells_other _ _ _ _ h1 h2
  have hnew:=heap_setCells g 26 (0,0) news (o+n * 5) w bs hg
  have hput:putAll bs.toList (o+n * 5) news=bs.toList.take (o+n * 5)++news++bs.toList.drop (o+n * 5+news.length):=putAll_eq _ _ _ (by simp;omega)
  have hB:=Lib.below_setCells g (Nat.le_refl g) news (o+n * 5) (Below.refl g w)
  refine⟨_,g,o,c,_,hrun,hroom,hcm,hB.os,hB.tape,hB.output,hB.size,hnew,?_,hbel,?_,.inr ⟨o,rfl,size_setCells _ _ _ _⟩,?_⟩
  ·simp[putAll_length];omega
  ·intro j u hj
   have hj5:=(List.getElem?_eq_some_iff.1 hj).1
   unfold World.cell?
   rw[hnew]
   have e1:o+5 * n+j=(bs.toList.take (o+n * 5)).length+j:=by simp;omega
   show (putAll bs.toList (o+n * 5) news).toArray[o+5 * n+j]? = some u
   rw[hput,List.getElem?_toArray,e1,List.append_assoc,List.getElem?_append_right (by omega),Nat.add_sub_cancel_left,List.getElem?_append_left hj5]
   exact hj
  ·intro g2 o2 e j hj
   cases e
   unfold World.cell?
   rw[hnew,hg]
   show (putAll bs.toList (o+n * 5) news).toArray[o+j]? = bs[o+j]?
   rw[hput,List.getElem?_toArray,List.append_assoc,List.getElem?_append_left (by simp;omega),List.getElem?_take,if_pos (by omega),Array.getElem?_toList]
 ·have hge':c<n+1:=by omega
  obtain⟨olds,hold,hlen,hcells⟩:∃ olds:List Value,(Builtin.firstCells f.size n (.slice a n c)).run Tryz.prog w.drew = .ok olds.toArray w.drew∧olds.length=n * 5∧∀ g o,a=some ⟨g,o,none⟩→∀ i,i<5 * n→olds[i]? = w.cell? ⟨g,o+i,none⟩:=by
   rcases hl with ⟨rfl,rfl,rfl⟩|⟨g,o,bs,rfl,hg,hsz⟩
   ·exact⟨[],run_firstCells_none w.drew f.size 0 0 0,rfl,fun _ _ e=>by cases e⟩
   ·have hsz2:o+n * 5≤bs.size:=by omega
    refine⟨(bs.toList.drop o).take (n * 5),?_,by simp;omega,fun g2 o2 e i hi2 => ?_⟩
    ·rw[hf2,hi5]
     refine first_run (w:=w) (fun j v hj => ?_) (by simp;omega)
     rw[List.getElem?_take] at hj
     split at hj
     ·rw[List.getElem?_drop] at hj
      unfold World.cell?
      rw[hg]
      simpa using hj
     ·cases hj
    ·cases e
     rw[List.getElem?_take,if_pos (by omega),List.getElem?_drop]
     unfold World.cell?
     rw[hg]
     simp
  have h63:((n+1:Nat):Int)≤9223372036854775807:=by omega
  have hb:(n+1) * f.bytes≤140737488355328:=by
   rw[hf3]
   exact Nat.le_trans (Nat.mul_le_mul (show n+1≤4294967297 by omega) hib) (by decide)
  have hrun:=run_append_grow_src w 24 24 ty 26 f i.zero under_nodes hf1 hf4 a n c olds hold (.slice (some ⟨rb,ro,none⟩) 1 rc) 1 news hsrc hge' h63 (growslice_fits hge' hb)
  have hge:=grownCap_ge w (n+1) c 26
  have hle:=grownCap_le_maxLen w (n+1) c 26 (by unfold maxLen;omega)
  generalize grownCap w (n+1) c 26=C at hrun hge hle
  have hzs:=hi.zsize
  have hzc:(Builtin.zeroCells i.zero.cells (C - (n+1))).size=(C - (n+1)) * 5:=by simp[Builtin.zeroCells,hzs,hi5]
  have hB:Below w.heap.size w (w.drew.alloc (.cells ((olds++news).toArray++Builtin.zeroCells i.zero.cells (C - (n+1))) 26)):=((Below.refl _ _).drew).alloc (Nat.le_refl _) _
  have hnew:=heap_alloc_new' w.drew (.cells ((olds++news).toArray++Builtin.zeroCells i.zero.cells (C - (n+1))) 26)
  refine⟨_,w.heap.size,0,C,_,hrun,hge,hle,hB.os,hB.tape,hB.output,hB.size,hnew,?_,fun k h1 _=>hB.block k h1,?_,.inl ⟨rfl,by simp⟩,?_⟩
  ·rw[Array.size_append,hzc]
   simp[hlen,h5]
   omega
  ·intro j u hj
   have hj5:=(List.getElem?_eq_some_iff.1 hj).1
   unfold World.cell?
   rw[show (w.drew.alloc (.cells ((olds++news).toArray++Builtin.zeroCells i.zero.cells (C - (n+1))) 26)).heap[w.heap.size]? = _ from hnew]
   show ((olds++news).toArray++Builtin.zeroCells i.zero.cells (C - (n+1)))[0+5 * n+j]? = some u
   rw[Array.getElem?_append_left (by simp;omega),List.getElem?_toArray,List.getElem?_append_right (by omega),show 0+5 * n+j - olds.length=j by omega]
   exact hj
  ·intro g o e j hj
   rw[←hcells g o e j hj]
   unfold World.cell?
   rw[show (w.drew.alloc (.cells ((olds++news).toArray++Builtin.zeroCells i.zero.cells (C - (n+1))) 26)).heap[w.heap.size]? = _ from hnew]
   show ((olds++news).toArray++Builtin.zeroCells i.zero.cells (C - (n+1)))[0+j]? = olds[j]?
   rw[Array.getElem?_append_left (by simp;omega),List.getElem?_toArray,Nat.zero_add,List.getElem?_append_left (by omega)]
end Prs
end Go.Proofs.YtcbkeecabcbogaaGreatDoor
