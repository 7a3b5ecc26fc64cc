/- Scripts: operations that are told: lists of trees that grow. Scripts: operations that are told hold in the model. Scripts: append, length, place and store of lists of trees that grow, as they are t -/
import Derived.Test.YtcbkeecabcbogaaGreatDoorGan
set_option linter.unusedSimpArgs false
set_option linter.unusedVariables false
namespace Go.Proofs.YtcbkeecabcbogaaGreatDoor
open Go.RowKit
namespace Prs
open Ev
noncomputable def rdAbs (c:Nat):M AObj (Nat×Nat):=M.bind (M.read c) fun o=>match o with
 | .abs m=>M.pure (c,m)
 | .fwd d=>M.bind (M.read d) fun o=>match o with
  | .abs m=>M.pure (d,m)
  |_=>M.fail
 |_=>M.fail
noncomputable def nodeM (pos:List Nat)(cells:List Value)(sp:Sp):M AObj (Option Nat):=match cells with
 | [k',x',n',a',lv]=>match sp with
  | .ab k x n a mm=>if ((eqV 9 k k'&&(eqV 9 x x'&&(eqV 9 n n'&&eqV 9 a a')))&&(isNat pos false k&&(strOK x&&(isNat pos true n&&isNat pos false a))))=true∧(mm % 8=1∨mm % 8=2) then (match lv with
   | .chan (some d)=>M.bind (M.read d) fun o=>(match o with
    | .abs m=>if m=mm∧64≤d then M.pure (some d) else M.fail
    |_=>M.fail)
   |_=>M.fail) else M.fail
  | .nd k x n a []=>if ((eqV 9 k k'&&(eqV 9 x x'&&(eqV 9 n n'&&eqV 9 a a')))&&(isNat pos false k&&(strOK x&&(isNat pos true n&&isNat pos false a))))=true then (match lv with
   | .slice none 0 0=>M.pure none
   |_=>M.fail) else M.fail
  |_=>M.fail
 |_=>M.fail
def look3:List (Nat×Sp×Nat)→Nat→Option (Sp×Nat)
 | [],_=>none
 |x :: l,i=>match Nat.beq x.1 i with
  |true=>some x.2
  |false=>look3 l i
theorem look3_mem:∀ {l:List (Nat×Sp×Nat)} {i:Nat} {y:Sp×Nat},look3 l i=some y→(i,y)∈l
 | [],_,_,h=>by cases h
 |x :: l,i,y,h=>by
  unfold look3 at h
  split at h
  ·rename_i hb
   obtain⟨a,b⟩:=x
   cases h
   rw[←Nat.eq_of_beq_eq_true hb]
   exact List.mem_cons_self ..
  ·exact List.mem_cons_of_mem _ (look3_mem h)
noncomputable def delO (d:Option Nat):M AObj Unit:=match d with
 |some d=>M.write d none
 |none=>M.pure ()
noncomputable def appM (pos:List Nat)(app:List (Nat×Sp×Nat))(c r:Nat):M AObj Value:=M.bind (rdAbs c) fun cm=>if cm.2 % 8=2∧64≤cm.1 then (match look3 app (cm.2 / 8) with
 |some y=>M.bind (rdRow r) fun row=>if row.2.2=5∧(row.1.take 5).all (·.oneCell')=true then M.bind (nodeM pos (row.1.take 5) y.1) fun d=>M.bind (M.write cm.1 none) fun _=>M.bind (delO d) fun _=>M.bind (M.new (.abs (8 * y.2+2))) fun e=>M.pure (tk e) else M.fail
 |none=>M.fail) else M.fail
noncomputable def lenM (c:Nat):M AObj Value:=M.bind (rdAbs c) fun cm=>if cm.2 % 8=2 then M.bind (M.new (.abs (cm.2+1))) fun d=>M.pure (tk d) else M.fail
noncomputable def idxM (app:List (Nat×Sp×Nat))(c d:Nat):M AObj Value:=M.bind (rdAbs c) fun cm=>M.bind (M.read d) fun o=>match o with
 | .abs md=>if cm.2 % 8=2∧md % 8=3 then (match look3 app (md / 8) with
  |some y=>if y.2=cm.2 / 8 then M.bind (M.new (.abs (8 * cm.1+4))) fun e=>M.pure (tk e) else M.fail
  |none=>M.fail) else M.fail
 |_=>M.fail
noncomputable def stoM (pos:List Nat)(put:List (Nat×Sp×Nat))(e:Nat)(cells:List Value):M AObj Value:=M.bind (M.read e) fun o=>match o with
 | .abs me=>if me % 8=4 then M.bind (M.read (me / 8)) fun o=>(match o with
  | .abs m=>if m % 8=2∧64≤me / 8∧cells.all (·.oneCell')=true then (match look3 put (m / 8) with
   |some y=>M.bind (nodeM pos cells y.1) fun d=>M.bind (delO d) fun _=>M.bind (M.new (.abs (8 * y.2+2))) fun c3=>M.bind (M.write (me / 8) (some (.fwd c3))) fun _=>M.pure undef
   |none=>M.fail) else M.fail
  |_=>M.fail) else M.fail
 |_=>M.fail
theorem local_rdAbs (c:Nat):M.Local (rdAbs c):=by
 unfold rdAbs
 refine M.local_bind (M.local_read _) fun o => ?_
 split
 ·exact M.local_pure _
 ·refine M.local_bind (M.local_read _) fun o => ?_
  split
  ·exact M.local_pure _
  ·exact M.local_fail
 ·exact M.local_fail
theorem local_nodeM (pos:List Nat)(cells:List Value)(sp:Sp):M.Local (nodeM pos cells sp):=by
 unfold nodeM
 split
 ·split
  ·split
   ·split
    ·refine M.local_bind (M.local_read _) fun o => ?_
     split
     ·split
      ·exact M.local_pure _
      ·exact M.local_fail
     ·exact M.local_fail
    ·exact M.local_fail
   ·exact M.local_fail
  ·split
   ·split
    ·exact M.local_pure _
    ·exact M.local_fail
   ·exact M.local_fail
  ·exact M.local_fail
 ·exact M.local_fail
theorem local_delO (d:Option Nat):M.Local (delO d):=by
 unfold delO
 split
 ·exact M.local_write _ _
 ·exact M.local_pure _
theorem local_appM (pos:List Nat)(app:List (Nat×Sp×Nat))(c r:Nat):M.Local (appM pos app c r):=by
 unfold appM
 refine M.local_bind (local_rdAbs _) fun cm => ?_
 split
 ·split
  ·refine M.local_bind (local_rdRow _) fun row => ?_
   split
   ·exact M.local_bind (local_nodeM _ _ _) fun _=>M.local_bind (M.local_write _ _) fun _=>M.local_bind (local_delO _) fun _=>M.local_bind (M.local_new _) fun _=>M.local_pure _
   ·exact M.local_fail
  ·exact M.local_fail
 ·exact M.local_fail
theorem local_lenM (c:Nat):M.Local (lenM c):=by
 unfold lenM
 refine M.local_bind (local_rdAbs _) fun cm => ?_
 split
 ·exact M.local_bind (M.local_new _) fun _=>M.local_pure _
 ·exact M.local_fail
theorem local_idxM (app:List (Nat×Sp×Nat))(c d:Nat):M.Local (idxM app c d):=by
 unfold idxM
 refine M.local_bind (local_rdAbs _) fun cm=>M.local_bind (M.local_read _) fun o => ?_
 split
 ·split
  ·split
   ·split
    ·exact M.local_bind (M.local_new _) fun _=>M.local_pure _
    ·exact M.local_fail
   ·exact M.local_fail
  ·exact M.local_fail
 ·exact M.local_fail
theorem local_stoM (pos:List Nat)(put:List (Nat×Sp×Nat))(e:Nat)(cells:List Value):M.Local (stoM pos put e cells):=by
 unfold stoM
 refine M.local_bind (M.local_read _) fun o => ?_
 split
 ·split
  ·refine M.local_bind (M.local_read _) fun o => ?_
   split
   ·split
    ·split
     ·exact M.local_bind (local_nodeM _ _ _) fun _=>M.local_bind (local_delO _) fun _=>M.local_bind (M.local_new _) fun _=>M.local_bind (M.local_write _ _) fun _=>M.local_pure _
     ·exact M.local_fail
    ·exact M.local_fail
   ·exact M.local_fail
  ·exact M.local_fail
 ·exact M.local_fail
section
variable {b:Nat} {E:Env} {N:SEnv} {K:Cfg} {O:Nat→Prop} {w0 w:World} {cs:List Call1} {p:Plan} {h:Tree AObj} {pos:List Nat}
theorem rdAbs_ok {c:Nat}{y:Nat×Nat}{c0:Nat}{h':Tree AObj}{c':Nat}{l:Log}(e:rdAbs c h c0 = .ok y h' c' l):h'=h∧c'=c0∧h.get y.1=some (.abs y.2)∧∀ v,Rel K O w0 p h w→VR p (tk c) v→VR p (tk y.1) v:=by
 unfold rdAbs at e
 obtain⟨o,h1,c1,l1,l2,e1,e2⟩:=bind_inv e
 obtain⟨hc,rfl,rfl⟩:=read_inv e1
 split at e2
 ·obtain⟨rfl,rfl,rfl⟩:=pure_inv e2
  exact⟨rfl,rfl,hc,fun v _ hv=>hv⟩
 ·rename_i d
  obtain⟨o,h2,c2,l3,l4,e3,e4⟩:=bind_inv e2
  obtain⟨hd,rfl,rfl⟩:=read_inv e3
  split at e4
  ·obtain⟨rfl,rfl,rfl⟩:=pure_inv e4
   refine⟨rfl,rfl,hd,fun v hr hv => ?_⟩
   cases hv with
   |@tok _ s hs h1=>
    obtain⟨s2,k1,-,-,k4⟩:=hr.at_ _ _ hc
    obtain rfl:s2=s:=Option.some.inj (k1.symm.trans hs)
    obtain⟨s',q1,q2⟩:∃ s',p d=some s'∧s2.val=s'.val:=k4
    rw[q2] at h1 ⊢
    exact VR.tok q1 h1
  ·cases e4
 ·cases e2
theorem Ctx.listS (C:Ctx b E N K O w0 cs)(hr:Rel K O w0 p h w){d m:Nat}{s:Spot}(hd:h.get d=some (.abs m))(hs:p d=some s)(hm:m % 8=1∨m % 8=2):ListS N.S s (listOf N m):=by
 have hmean:=hr.mean _ _ _ hd hs
 rw[C.mean] at hmean
 unfold meanN at hmean
 unfold listOf
 rcases hm with h4|h4
 ·rw[h4] at hmean
  rw[if_pos h4]
  exact hmean
 ·rw[h4] at hmean
  rw[if_neg (by omega)]
  exact hmean.toS
theorem Ctx.foot (hr:Rel K O w0 p h w){d m:Nat}{s:Spot}(hd:h.get d=some (.abs m))(hs:p d=some s):∀ k o,s.foot k=some o→w.heap[k]? = some o:=by
 obtain⟨s2,k1,-,-,k4⟩:=hr.at_ _ _ hd
 obtain rfl:s2=s:=Option.some.inj (k1.symm.trans hs)
 exact k4
def Belongs (p:Plan)(h:Tree AObj)(d:Option Nat)(F:Nat→Option Obj):Prop:=match d with
 |some dn=>64≤dn∧∃ m s,h.get dn=some (.abs m)∧p dn=some s∧s.foot=F
 |none=>F=noF
theorem nodeM_ok (C:Ctx b E N K O w0 cs)(hr:Rel K O w0 p h w)(hpos:PosOK N pos){cells vs:List Value}{sp:Sp}{d:Option Nat}{c:Nat}{h':Tree AObj}{c':Nat}{l:Log}(e:nodeM pos cells sp h c = .ok d h' c' l)(hv:VRs p cells vs):
  h'=h∧c'=c∧∃ F,Belongs p h d F∧NodeC (fun k=>F k≠none) w (den N sp) vs∧(∀ k,F k≠none→N.S k)∧vs.length=5:=by
 have hax:=C.axp hr
 unfold nodeM at e
 split at e
 ·rename_i k' x' n' a' lv
  obtain⟨k2,x2,n2,a2,lv2,rfl,v1,v2,v3,v4,v5⟩:=cells5 hv
  split at e
  ·rename_i k x n a mm
   split at e
   ·rename_i hc
    obtain⟨hc,hmm⟩:=hc
    simp only[Bool.and_eq_true] at hc
    obtain⟨⟨e1,e2,e3,e4⟩,⟨e5,e6,e7,e8⟩⟩:=hc
    obtain rfl:=eqV_ok e1
    obtain rfl:=eqV_ok e2
    obtain rfl:=eqV_ok e3
    obtain rfl:=eqV_ok e4
    have g1:=isNat_ok hpos hax e5 v1
    have g2:=strOK_ok hax e6 v2
    have g3:=isNat_ok hpos hax e7 v3
    have g4:=isNat_ok hpos hax e8 v4
    simp only[Bool.false_eq_true,if_false,if_true] at g1 g3 g4
    subst g1 g2 g3 g4
    split at e
    ·rename_i dn
     obtain⟨o,h1,c1,l1,l2,f1,f2⟩:=bind_inv e
     obtain⟨hd,rfl,rfl⟩:=read_inv f1
     split at f2
     ·rename_i m
      split at f2
      ·rename_i hq
       obtain⟨rfl,h64⟩:=hq
       obtain⟨rfl,rfl,rfl⟩:=pure_inv f2
       cases v5 with
       |@tok _ s1 hs1 _=>
       obtain⟨ad,cp,hval,hfS,hl⟩:=C.listS hr hd hs1 hmm
       refine⟨rfl,rfl,s1.foot,⟨h64,m,s1,hd,hs1,rfl⟩,?_,hfS,rfl⟩
       unfold den NodeC
       rw[hval]
       refine⟨ad,cp,rfl,hl.imp id ?_⟩
       rintro⟨g,o,rfl,hg,hW⟩
       exact⟨g,o,rfl,hg,hW w (Ctx.foot hr hd hs1)⟩
      ·cases f2
     ·cases f2
    ·cases e
   ·cases e
  ·rename_i k x n a
   split at e
   ·rename_i hc
    simp only[Bool.and_eq_true] at hc
    obtain⟨⟨e1,e2,e3,e4⟩,⟨e5,e6,e7,e8⟩⟩:=hc
    obtain rfl:=eqV_ok e1
    obtain rfl:=eqV_ok e2
    obtain rfl:=eqV_ok e3
    obtain rfl:=eqV_ok e4
    have g1:=isNat_ok hpos hax e5 v1
    have g2:=strOK_ok hax e6 v2
    have g3:=isNat_ok hpos hax e7 v3
    have g4:=isNat_ok hpos hax e8 v4
    simp only[Bool.false_eq_true,if_false,if_true] at g1 g3 g4
    subst g1 g2 g3 g4
    split at e
    ·obtain⟨rfl,rfl,rfl⟩:=pure_inv e
     cases v5
     refine⟨rfl,rfl,noF,rfl,?_,fun k hk=>absurd rfl hk,rfl⟩
     unfold den NodeC
     exact⟨_,_,rfl,.inl rfl⟩
    ·cases e
   ·cases e
  ·cases e
 ·cases e
end
end Prs
end Go.Proofs.YtcbkeecabcbogaaGreatDoor
namespace Go.Proofs.YtcbkeecabcbogaaGreatDoor
open Go.RowKit
namespace Prs
open Ev
def footU (w':World)(g':Nat)(F1 F2:Nat→Option Obj):Nat→Option Obj:=fun k=>if k=g'∨(F1 k).isSome=true∨(F2 k).isSome=true then w'.heap[k]? else none
theorem some_ne {α:Type}{o:Option α}(h:o≠none):o.isSome=true:=by cases o with|none=>exact absurd rfl h|some=>rfl
theorem footU_ne {w':World}{g':Nat}{F1 F2:Nat→Option Obj}{k:Nat}(h:footU w' g' F1 F2 k≠none):(k=g'∨F1 k≠none∨F2 k≠none)∧k<w'.heap.size:=by
 unfold footU at h
 by_cases hc:k=g'∨(F1 k).isSome=true∨(F2 k).isSome=true
 ·rw[if_pos hc] at h
  refine⟨hc.imp id (Or.imp (fun e=>by cases hf:F1 k <;> simp_all) (fun e=>by cases hf:F2 k <;> simp_all)),?_⟩
  rcases Nat.lt_or_ge k w'.heap.size with h1|h1
  ·exact h1
  ·exact absurd (Array.getElem?_eq_none h1) h
 ·rw[if_neg hc] at h;exact absurd rfl h
theorem footU_at {w':World}{g':Nat}{F1 F2:Nat→Option Obj}{k:Nat}(h:k=g'∨F1 k≠none∨F2 k≠none):footU w' g' F1 F2 k=w'.heap[k]? := by
 unfold footU
 rw[if_pos (h.imp id (Or.imp some_ne some_ne))]
noncomputable def delT (h:Tree AObj):Option Nat→Tree AObj
 |some d=>h.set d none
 |none=>h
section
variable {b:Nat} {E:Env} {N:SEnv} {K:Cfg} {O:Nat→Prop} {w0 w:World} {cs:List Call1} {p:Plan} {h:Tree AObj} {pos:List Nat}
theorem regrow (C:Ctx b E N K O w0 cs)(hr:Rel K O w0 p h w){c2 m2:Nat}{s2:Spot}(h2:h.get c2=some (.abs m2))(hs2:p c2=some s2)(h64:64≤c2){d:Option Nat}{F:Nat→Option Obj}(hd:Belongs p h d F)(hne:d≠some c2){w':World}
  (k1:w'.os=w.os) (k2:w'.tape=w.tape) (k3:w'.output=w.output) (k4:w.heap.size≤w'.heap.size) {g':Nat} (hg:s2.foot g'≠none∨g'=w.heap.size) (hk:∀ k,k<w.heap.size→k≠g'→w'.heap[k]? = w.heap[k]?) {e0:Nat} (hp:p e0=none) {v:Value} {m:Nat}
  (hm:meanN b E N (p.add e0 ⟨0,0,0,0,v,footU w' g' s2.foot F⟩) m ⟨0,0,0,0,v,footU w' g' s2.foot F⟩):Rel K O w0 (p.add e0 ⟨0,0,0,0,v,footU w' g' s2.foot F⟩) ((delT (h.set c2 none) d).set e0 (some (.abs m))) w':=by
 have R1:Rel K O w0 p (delT (h.set c2 none) d) w:=by
  unfold delT
  cases d with
  |none=>exact hr.del c2
  |some dn=>exact(hr.del c2).del dn
 have sub:∀ x o,(delT (h.set c2 none) d).get x=some o→h.get x=some o∧x≠c2∧d≠some x:=fun x o hx=>by
  unfold delT at hx
  cases d with
  |none=>
   dsimp only at hx
   rw[Tree.get_set] at hx
   by_cases e:x=c2
   ·rw[if_pos e] at hx;cases hx
   ·rw[if_neg e] at hx;exact⟨hx,e,by simp⟩
  |some dn=>
   dsimp only at hx
   rw[Tree.get_set] at hx
   by_cases e:x=dn
   ·rw[if_pos e] at hx;cases hx
   ·rw[if_neg e,Tree.get_set] at hx
    by_cases e2:x=c2
    ·rw[if_pos e2] at hx;cases hx
    ·rw[if_neg e2] at hx
     exact⟨hx,e2,fun hh=>e (Option.some.inj hh).symm⟩
 -- what the list's blocks and the node's are
 have own2:∀ k,s2.foot k≠none→(O k∨w0.heap.size≤k)∧k<w.heap.size∧∀ x o s,(delT (h.set c2 none) d).get x=some o→p x=some s→¬ Occ o s k:=fun k hf=>by
  obtain⟨s,q1,q2,q3,-⟩:=hr.at_ _ _ h2
  obtain rfl:s=s2:=Option.some.inj (q1.symm.trans hs2)
  refine⟨q2 (by rw[C.n];exact h64) k hf,q3 k hf,fun x o s' hx hs hO => ?_⟩
  obtain⟨a1,a2,-⟩:=sub x o hx
  exact a2 (hr.one _ _ _ _ _ _ k a1 h2 hs hs2 hO hf)
 have ownF:∀ k,F k≠none→(O k∨w0.heap.size≤k)∧k<w.heap.size∧∀ x o s,(delT (h.set c2 none) d).get x=some o→p x=some s→¬ Occ o s k:=fun k hf=>by
  unfold Belongs at hd
  cases d with
  |none=>dsimp only at hd;rw[hd] at hf;exact absurd rfl hf
  |some dn=>
   obtain⟨hd64,md,sd,b1,b2,rfl⟩:=hd
   obtain⟨s,q1,q2,q3,-⟩:=hr.at_ _ _ b1
   obtain rfl:s=sd:=Option.some.inj (q1.symm.trans b2)
   refine⟨q2 (by rw[C.n];exact hd64) k hf,q3 k hf,fun x o s' hx hs hO => ?_⟩
   obtain⟨a1,-,a3⟩:=sub x o hx
   exact a3 (by rw[hr.one _ _ _ _ _ _ k a1 b1 hs b2 hO hf])
 have R2:=R1.elsewhere k1 k2 k3 k4 fun k hk1 hk2=>hk k hk1 fun e=>by
  subst e
  rcases hg with hg|hg
  ·obtain⟨a1,a2,a3⟩:=own2 k hg
   rcases hk2 with hk2|⟨x,o,s,e1,e2,e3⟩
   ·exact hk2 a1
   ·exact a3 x o s e1 e2 e3
  ·omega
 refine R2.take (o := .abs m) hp (fun k hO x o s hx hs => ?_) (fun _ k hO => ?_) (fun k hO=>(footU_ne hO).2) (fun k o hko => ?_) (fun m' e => ?_)
 ·rcases (footU_ne hO).1 with rfl|hf|hf
  ·rcases hg with hg|rfl
   ·exact(own2 _ hg).2.2 x o s hx hs
   ·exact fun hO2=>by
     obtain⟨s',q1,-,q3,-⟩:=R1.at_ x o hx
     obtain rfl:s'=s:=Option.some.inj (q1.symm.trans hs)
     exact absurd (q3 _ hO2) (Nat.lt_irrefl _)
  ·exact(own2 k hf).2.2 x o s hx hs
  ·exact(ownF k hf).2.2 x o s hx hs
 ·rcases (footU_ne hO).1 with rfl|hf|hf
  ·rcases hg with hg|rfl
   ·exact(own2 _ hg).1
   ·exact .inr hr.below.size
  ·exact(own2 k hf).1
  ·exact(ownF k hf).1
 ·have hne:footU w' g' s2.foot F k≠none:=by rw[show footU w' g' s2.foot F k=some o from hko];simp
  have:=footU_at (w':=w') (footU_ne hne).1
  rw[←this]
  exact hko
 ·cases e
  rw[C.mean]
  exact hm
theorem grown {w w' W:World}{s2:Spot}{F:Nat→Option Obj}{g' o':Nat}{ts:List Tr}{t:Tr}{u0 u1 u2 u3 u4:Value}(hg':g'<w'.heap.size)(hFg:F g'=none)
  (hk:∀ k,k<w.heap.size→k≠g'→w'.heap[k]? = w.heap[k]?) (hf2:∀ k o,s2.foot k=some o→w.heap[k]? = some o) (hF:∀ k,F k≠none→k<w.heap.size)
  (hold:ts=[]∨∃ g o,NodeR (fun k=>s2.foot k≠none∧k≠g) w g ts o∧(g'=g∨w.heap.size≤g')∧∀ i,i<5 * ts.length→w'.cell? ⟨g',o'+i,none⟩=w.cell? ⟨g,o+i,none⟩)
  (hnode:NodeC (fun k=>F k≠none) w t [u0,u1,u2,u3,u4]) (hn:∀ j u,[u0,u1,u2,u3,u4][j]? = some u→w'.cell? ⟨g',o'+5 * ts.length+j,none⟩=some u)
  (hW:∀ k x,footU w' g' s2.foot F k=some x→W.heap[k]? = some x):NodeR (fun k=>footU w' g' s2.foot F k≠none∧k≠g') W g' (ts++[t]) o':=by
 have same:∀ k,(k=g'∨s2.foot k≠none∨F k≠none)→k<w'.heap.size→W.heap[k]? = w'.heap[k]? := fun k h1 h2=>by
  have e:=footU_at (w':=w') h1
  have h3:w'.heap[k]? = some (w'.heap[k]'h2):=Array.getElem?_eq_getElem h2
  rw[h3]
  exact hW k _ (by rw[e,h3])
 have ne:∀ k,(k=g'∨s2.foot k≠none∨F k≠none)→k<w'.heap.size→footU w' g' s2.foot F k≠none:=fun k h1 h2=>by
  rw[footU_at (w':=w') h1,Array.getElem?_eq_getElem h2]
  simp
 have lt':∀ k,k<w.heap.size→k≠g'→k<w'.heap.size:=fun k h1 h2=>by
  have:=hk k h1 h2
  rw[Array.getElem?_eq_getElem h1] at this
  exact(Array.getElem?_eq_some_iff.1 this).1
 have cellW:∀ i,W.cell? ⟨g',i,none⟩=w'.cell? ⟨g',i,none⟩:=fun i=>by
  unfold World.cell?
  dsimp only
  rw[same g' (.inl rfl) hg']
 have lt2:∀ k,s2.foot k≠none→k<w.heap.size:=fun k hf=>by
  cases hx:s2.foot k with
  |none=>exact absurd hx hf
  |some o=>exact(Array.getElem?_eq_some_iff.1 (hf2 k o hx)).1
 refine NodeR.snoc (v0:=u0) (v1:=u1) (v2:=u2) (v3:=u3) (v4:=u4) ?_ ?_ ?_ ?_ ?_ ?_ ?_
 ·rcases hold with rfl|⟨g,o,h1,h2,h3⟩
  ·unfold NodeR;trivial
  ·refine NodeR.reblock (fun k hk1 hk2 => ?_) (fun k hk1 hk2 => ?_) (fun i hi => ?_) h1
   ·have hkg:k≠g':=by rcases h2 with rfl|h2;exact hk1.2;omega
    exact⟨ne k (.inr (.inl hk1.1)) (lt' k hk2 hkg),hkg⟩
   ·have hkg:k≠g':=by rcases h2 with rfl|h2;exact hk1.2;omega
    exact(same k (.inr (.inl hk1.1)) (lt' k hk2 hkg)).trans (hk k hk2 hkg)
   ·rw[cellW];exact h3 i hi
 ·rw[cellW];exact hn 0 u0 rfl
 ·rw[cellW];exact hn 1 u1 rfl
 ·rw[cellW];exact hn 2 u2 rfl
 ·rw[cellW];exact hn 3 u3 rfl
 ·rw[cellW];exact hn 4 u4 rfl
 ·refine NodeC.frame (fun k hk1 hk2 => ?_) (fun k hk1 hk2 => ?_) hnode
  ·have hkg:k≠g':=fun e=>hk1 (by rw[e];exact hFg)
   exact⟨ne k (.inr (.inr hk1)) (lt' k hk2 hkg),hkg⟩
  ·have hkg:k≠g':=fun e=>hk1 (by rw[e];exact hFg)
   exact(same k (.inr (.inr hk1)) (lt' k hk2 hkg)).trans (hk k hk2 hkg)
end
end Prs
end Go.Proofs.YtcbkeecabcbogaaGreatDoor
namespace Go.Proofs.YtcbkeecabcbogaaGreatDoor
open Go.RowKit
namespace Prs
open Ev
def AppOK (N:SEnv)(app:List (Nat×Sp×Nat)):Prop:=∀ x∈app,N.TS x.2.2=N.TS x.1++[den N x.2.1]∧(N.TS x.1).length≤4294967296
def PutOK (N:SEnv)(put:List (Nat×Sp×Nat)):Prop:=∀ x∈put,∃ (l0:List Tr) (u:Tr),N.TS x.1=l0++[u]∧N.TS x.2.2=l0++[den N x.2.1]
section
variable {b:Nat} {E:Env} {N:SEnv} {K:Cfg} {O:Nat→Prop} {w0 w:World} {cs:List Call1} {p:Plan} {h:Tree AObj} {pos:List Nat}
theorem Ctx.listG (C:Ctx b E N K O w0 cs)(hr:Rel K O w0 p h w){d m:Nat}{s:Spot}(hd:h.get d=some (.abs m))(hs:p d=some s)(hm:m % 8=2):ListG N.S s (N.TS (m / 8)):=by
 have hmean:=hr.mean _ _ _ hd hs
 rw[C.mean] at hmean
 unfold meanN at hmean
 rw[hm] at hmean
 exact hmean
theorem delO_ok {d:Option Nat}{c:Nat}{u:Unit}{h':Tree AObj}{c':Nat}{l:Log}(e:delO d h c = .ok u h' c' l):h'=delT h d∧c'=c∧∀ dn,d=some dn→h.get dn≠none:=by
 unfold delO at e
 cases d with
 |none=>
  obtain⟨-,rfl,rfl⟩:=pure_inv e
  exact⟨rfl,rfl,fun _ hh=>by cases hh⟩
 |some dn=>
  dsimp only at e
  unfold M.write at e
  cases hg:h.get dn with
  |none=>rw[hg] at e;cases e
  |some x=>
   rw[hg] at e
   cases e
   exact⟨rfl,rfl,fun x hh=>by cases hh;rw[hg];simp⟩
theorem rng_out {c c' x:Nat}{o:AObj}(hr:M.Rng h c c')(hx:h.get x=some o):x<c∨c'≤x:=by
 rcases Nat.lt_or_ge x c with h1|h1
 ·exact .inl h1
 ·rcases Nat.lt_or_ge x c' with h2|h2
  ·rw[hr x h1 h2] at hx;cases hx
  ·exact .inr h2
theorem app_ok (C:Ctx b E N K O w0 cs)(hpos:PosOK N pos){app:List (Nat×Sp×Nat)}(happ:AppOK N app)(hr:Rel K O w0 p h w){ci r cp c:Nat}{v:Value}{h':Tree AObj}{c':Nat}{l:Log}(e:appM pos app ci r h c = .ok v h' c' l)(hf:Free p c c'){v1 v2:Value}(hv1:VR p (tk ci) v1)(hv2:VR p (.slice (some ⟨r,0,none⟩) 1 cp) v2)(ty:TypeId):
  Gives Tryz.prog K O w0 p w c c' h' VR (Builtin.append_ #[24,24] ty #[v1,v2]) v:=by
 unfold appM at e
 obtain⟨cm,h1,c1,l1,l2,e1,e2⟩:=bind_inv e
 obtain⟨rfl,rfl,hcm,hfw⟩:=rdAbs_ok (K:=K) (O:=O) (w0:=w0) (w:=w) (p:=p) e1
 have hv1:=hfw v1 hr hv1
 obtain⟨c2,m⟩:=cm
 dsimp only at e2 hcm hv1
 split at e2
 ·rename_i hc
  obtain⟨hm8,h64⟩:=hc
  cases hy:look3 app (m / 8) with
  |none=>rw[hy] at e2;cases e2
  |some y=>
   rw[hy] at e2
   obtain⟨sp,y⟩:=y
   obtain⟨hTS,hlen⟩:=happ _ (look3_mem hy)
   dsimp only at hTS hlen e2
   obtain⟨row,h2,c3,l3,l4,e3,e4⟩:=bind_inv e2
   obtain⟨hrow,rfl,rfl⟩:=rdRow_inv e3
   obtain⟨cells,t,sz⟩:=row
   dsimp only at e4 hrow
   split at e4
   ·rename_i hc5
    obtain⟨rfl,hone⟩:=hc5
    obtain⟨d,h4,c4,l5,l6,e5,e6⟩:=bind_inv e4
    obtain⟨sr,r1,-,-,r4⟩:=hr.at_ _ _ hrow
    -- the node's cells
    obtain⟨bs,fr,ra,rb,rc,rd,-⟩:=RowAt.at_ r4
    have hvn:=rd.take 5
    obtain⟨rfl,rfl,F,hbel,hnode,hFS,hvl⟩:=nodeM_ok C hr hpos e5 hvn
    obtain⟨_,h5,c5,l7,l8,e7,e8⟩:=bind_inv e6
    obtain⟨rfl,rfl⟩:=write_inv e7
    obtain⟨_,h6,c6,l9,l10,e9,e10⟩:=bind_inv e8
    obtain⟨rfl,rfl,hdd⟩:=delO_ok e9
    obtain⟨ne,h7,c7,l11,l12,e11,e12⟩:=bind_inv e10
    obtain⟨rfl,rfl,rfl⟩:=new_inv e11
    obtain⟨rfl,rfl,rfl⟩:=pure_inv e12
    have hp:=hf ne (Nat.le_refl _) (by omega)
    cases hv1 with
    |@tok _ s2 hs2 _=>
    have hG:=C.listG hr hcm hs2 hm8
    have hfoot:=Ctx.foot hr hcm hs2
    obtain⟨a,cc,hval,hlc,hcm2,hfS,hl⟩:=hG
    generalize hts:N.TS (m / 8)=ts at hval hlc hl hTS hlen
    rw[hval]
    have hsl:∃ rc',v2 = .slice (some ⟨sr.blk,sr.off,none⟩) 1 rc':=by
     cases hv2 with
     |slice hs _ _=>rw[r1] at hs;cases hs;exact⟨_,rfl⟩
     |sliceU hs _ _ _=>rw[r1] at hs;cases hs;exact⟨_,rfl⟩
    obtain⟨rc',rfl⟩:=hsl
    generalize hnews:(((bs.toList.drop sr.off).take cells.length).take 5)=news at hvn hnode hvl
    have hnc:∀ j u,news[j]? = some u→w.cell? ⟨sr.blk,sr.off+j,none⟩=some u:=fun j u hj=>by
     rw[←hnews,List.getElem?_take] at hj
     split at hj
     ·rw[List.getElem?_take] at hj
      split at hj
      ·rw[List.getElem?_drop] at hj
       unfold World.cell?
       rw[ra]
       simpa using hj
      ·cases hj
     ·cases hj
    have hn1:∀ u∈news,u.oneCell'=true:=oneCells_vrs hvn fun v hv=>List.all_eq_true.1 hone v hv
    obtain⟨w',g',o',c',bs',hrun,q1,q2,q3,q4,q5,q6,q7,q8,q9,q10,q11,q12⟩:=append_real w a ts.length cc sr.blk sr.off rc' news ty hlc hcm2 hlen (hl.imp (fun hh=>⟨hh.1,by rw[hh.2.1];rfl,hh.2.2⟩) fun ⟨g,o,bs2,a1,a2,a3,_⟩=>⟨g,o,bs2,a1,hfoot g _ a2,a3⟩) hvl hnc hn1
    have hne:d≠some c2:=fun hh=>hdd c2 hh (by rw[Tree.get_set,if_pos rfl])
    have hFlt:∀ k,F k≠none→k<w.heap.size:=fun k hk=>by
     unfold Belongs at hbel
     cases d with
     |none=>dsimp only at hbel;rw[hbel] at hk;exact absurd rfl hk
     |some dn=>
      obtain⟨-,md,sd,b1,b2,rfl⟩:=hbel
      obtain⟨s,z1,-,z3,-⟩:=hr.at_ _ _ b1
      obtain rfl:s=sd:=Option.some.inj (z1.symm.trans b2)
      exact z3 k hk
    have hgfoot:s2.foot g'≠none∨g'=w.heap.size:=by
     rcases q11 with ⟨h1,-⟩|⟨o,h1,-⟩
     ·exact .inr h1
     ·rcases hl with ⟨ha,-,-⟩|⟨g,o2,bs2,a1,a2,-,-⟩
      ·rw[ha] at h1;cases h1
      ·rw[a1] at h1
       cases h1
       exact .inl (by rw[a2];simp)
    have hFg:F g'=none:=by
     cases hx:F g' with
     |none=>rfl
     |some x=>
      exfalso
      have hFn:F g'≠none:=by rw[hx];simp
      rcases hgfoot with hg|hg
      ·unfold Belongs at hbel
       cases d with
       |none=>dsimp only at hbel;rw[hbel] at hx;cases hx
       |some dn=>
        obtain⟨-,md,sd,b1,b2,rfl⟩:=hbel
        exact hne (by rw[hr.one _ _ _ _ _ _ g' b1 hcm b2 hs2 hFn hg])
      ·exact absurd (hFlt g' hFn) (by omega)
    have hglt:g'<w'.heap.size:=(Array.getElem?_eq_some_iff.1 q7).1
    obtain⟨u0,u1,u2,u3,u4,rfl⟩:∃ u0 u1 u2 u3 u4,news=[u0,u1,u2,u3,u4]:=by
     match news,hvl with
     | [u0,u1,u2,u3,u4],_=>exact⟨u0,u1,u2,u3,u4,rfl⟩
    refine⟨_,w',_,hrun,VR.tok (Plan.add_self _ _ _) rfl,regrow C hr hcm hs2 h64 hbel hne q3 q4 q5 q6 hgfoot q9 hp (v := .slice (some ⟨g',o',none⟩) (ts.length+1) c') ?_,Plan.le_add hp,add_out⟩
    unfold meanN
    rw[show (8 * y+2) % 8=2 by omega,show (8 * y+2) / 8=y by omega]
    refine⟨some ⟨g',o',none⟩,c',by rw[hTS];simp,by rw[hTS];simpa using q1,q2,fun k hk => ?_,.inr ⟨g',o',bs',rfl,?_,q8,?_⟩⟩
    ·rcases (footU_ne hk).1 with rfl|h1|h1
     ·rcases hgfoot with h1|h1
      ·exact hfS _ h1
      ·exact C.s _ (by rw[h1];exact hr.below.size)
     ·exact hfS _ h1
     ·exact hFS _ h1
    ·show footU w' g' s2.foot F g'=_
     rw[footU_at (.inl rfl),q7]
    ·intro W hW
     rw[hTS]
     refine grown hglt hFg q9 hfoot hFlt ?_ hnode q10 hW
     rcases hl with ⟨-,ht,-⟩|⟨g,o,bs2,a1,a2,a3,a4⟩
     ·exact .inl ht
     ·refine .inr ⟨g,o,a4 w hfoot,?_,q12 g o a1⟩
      rcases q11 with ⟨h1,-⟩|⟨o3,h1,-⟩
      ·exact .inr (Nat.le_of_eq h1.symm)
      ·rw[a1] at h1;cases h1;exact .inl rfl
   ·cases e4
 ·cases e2
end
end Prs
end Go.Proofs.YtcbkeecabcbogaaGreatDoor
namespace Go.Proofs.YtcbkeecabcbogaaGreatDoor
open Go.RowKit
namespace Prs
open Ev
theorem NodeR.prefix_ {S:Nat→Prop}{w:World}{g:Nat}{m:List Tr}:∀ {l:List Tr} {o:Nat},NodeR S w g (l++m) o→NodeR S w g l o
 | [],_,_=>by unfold NodeR;trivial
 |t :: l,o,h=>by
  have h:NodeR S w g (t :: (l++m)) o:=h
  unfold NodeR at h ⊢
  exact⟨h.1,NodeR.prefix_ h.2⟩
theorem list5 {l:List Value}(h:l.length=5):∃ u0 u1 u2 u3 u4,l=[u0,u1,u2,u3,u4]:=by
 match l,h with
 | [u0,u1,u2,u3,u4],_=>exact⟨u0,u1,u2,u3,u4,rfl⟩
section
variable {b:Nat} {E:Env} {N:SEnv} {K:Cfg} {O:Nat→Prop} {w0 w:World} {cs:List Call1} {p:Plan} {h:Tree AObj} {pos:List Nat}
theorem len_ok (C:Ctx b E N K O w0 cs)(hr:Rel K O w0 p h w){ci c:Nat}{v:Value}{h':Tree AObj}{c':Nat}{l:Log}(e:lenM ci h c = .ok v h' c' l)(hf:Free p c c'){v1:Value}(hv1:VR p (tk ci) v1){ats:Array TypeId}{ty:TypeId}{args:Array Value}(ha:ats[0]? = some 24)(hb:args[0]? = some v1):
  Gives Tryz.prog K O w0 p w c c' h' VR (Builtin.len_ ats ty args) v:=by
 unfold lenM at e
 obtain⟨cm,h1,c1,l1,l2,e1,e2⟩:=bind_inv e
 obtain⟨rfl,rfl,hcm,hfw⟩:=rdAbs_ok (K:=K) (O:=O) (w0:=w0) (w:=w) (p:=p) e1
 have hv1:=hfw v1 hr hv1
 obtain⟨c2,m⟩:=cm
 dsimp only at e2 hcm hv1
 split at e2
 ·rename_i hm8
  obtain⟨d,h2,c3,l3,l4,e3,e4⟩:=bind_inv e2
  obtain⟨rfl,rfl,rfl⟩:=new_inv e3
  obtain⟨rfl,rfl,rfl⟩:=pure_inv e4
  have hp:=hf d (Nat.le_refl _) (by omega)
  cases hv1 with
  |@tok _ s2 hs2 _=>
  obtain⟨a,cc,hval,-⟩:=C.listG hr hcm hs2 hm8
  rw[hval] at hb
  have R:=hr.take (o := .abs (m+1)) (c:=d) (s:=⟨0,0,0,0,.int .i64 ((N.TS (m / 8)).length:Int),noF⟩) hp (fun k hk=>absurd rfl hk) (fun _ k hk=>absurd rfl hk) (fun k hk=>absurd rfl hk) (fun k o hk=>by cases hk) (fun m' e=>by
   cases e
   rw[C.mean]
   unfold meanN
   rw[show (m+1) % 8=3 by omega,show (m+1) / 8=m / 8 by omega]
   exact⟨rfl,rfl⟩)
  refine⟨_,w,.int .i64 ((N.TS (m / 8)).length:Int),?_,VR.tok (s:=⟨0,0,0,0,.int .i64 ((N.TS (m / 8)).length:Int),noF⟩) (Plan.add_self _ _ _) rfl,R,Plan.le_add hp,add_out⟩
  simp only[Builtin.len_,ha,hb,Sem.run_bind,run_underlying under_nodes w,Result.andThen_ok,Sem.run_pure]
  rfl
 ·cases e2
theorem idx_ok (C:Ctx b E N K O w0 cs){app:List (Nat×Sp×Nat)}(happ:AppOK N app)(hr:Rel K O w0 p h w){ci di c:Nat}{v:Value}{h':Tree AObj}{c':Nat}{l:Log}(e:idxM app ci di h c = .ok v h' c' l)(hf:Free p c c'){v1 v2:Value}(hv1:VR p (tk ci) v1)(hv2:VR p (tk di) v2):
  Gives Tryz.prog K O w0 p w c c' h' VR (Instr.indexAt 24 v1 v2) v:=by
 unfold idxM at e
 obtain⟨cm,h1,c1,l1,l2,e1,e2⟩:=bind_inv e
 obtain⟨rfl,rfl,hcm,hfw⟩:=rdAbs_ok (K:=K) (O:=O) (w0:=w0) (w:=w) (p:=p) e1
 have hv1:=hfw v1 hr hv1
 obtain⟨c2,m⟩:=cm
 dsimp only at e2 hcm hv1
 obtain⟨o,h2,c3,l3,l4,e3,e4⟩:=bind_inv e2
 obtain⟨hd,rfl,rfl⟩:=read_inv e3
 split at e4
 ·rename_i md
  split at e4
  ·rename_i hc
   obtain⟨hm8,hmd⟩:=hc
   cases hy:look3 app (md / 8) with
   |none=>rw[hy] at e4;cases e4
   |some y=>
    rw[hy] at e4
    obtain⟨sp,y⟩:=y
    obtain⟨hTS,hlen⟩:=happ _ (look3_mem hy)
    dsimp only at hTS hlen e4
    split at e4
    ·rename_i hyy
     subst hyy
     obtain⟨ne,h4,c4,l5,l6,e5,e6⟩:=bind_inv e4
     obtain⟨rfl,rfl,rfl⟩:=new_inv e5
     obtain⟨rfl,rfl,rfl⟩:=pure_inv e6
     have hp:=hf ne (Nat.le_refl _) (by omega)
     cases hv1 with
     |@tok _ s2 hs2 _=>
     cases hv2 with
     |@tok _ sd hsd _=>
     obtain⟨a,cc,hval,hlc,hcm2,hfS,hl⟩:=C.listG hr hcm hs2 hm8
     have hmean:=hr.mean _ _ _ hd hsd
     rw[C.mean] at hmean
     unfold meanN at hmean
     rw[hmd] at hmean
     obtain⟨-,hdv⟩:=hmean
     rw[hTS] at hval hlc hl
     obtain⟨g,o,bs,rfl,hg,hroom,-⟩:=hl.resolve_left (fun hh=>by simp at hh)
     rw[List.length_append,List.length_singleton] at hval hlc
     generalize (N.TS (md / 8)).length=n at hval hlc hdv hlen
     rw[hval,hdv]
     obtain⟨i,hi,hi5,-⟩:=node_info
     obtain⟨f,hf1,hf2,hf3,hf4⟩:=hi.info
     have R:=hr.take (o := .abs (8 * c2+4)) (c:=ne) (s:=⟨0,0,0,0,.pointer (some ⟨g,o+5 * n,none⟩),noF⟩) hp (fun k hk=>absurd rfl hk) (fun _ k hk=>absurd rfl hk) (fun k hk=>absurd rfl hk) (fun k o hk=>by cases hk) (fun m' e=>by
      cases e
      rw[C.mean]
      unfold meanN
      rw[show (8 * c2+4) % 8=4 by omega,show (8 * c2+4) / 8=c2 by omega]
      exact⟨rfl,s2,g,o,n,cc,Plan.le_add hp _ _ hs2,hval,rfl⟩)
     refine⟨_,w,.pointer (some ⟨g,o+5 * n,none⟩),?_,VR.tok (s:=⟨0,0,0,0,.pointer (some ⟨g,o+5 * n,none⟩),noF⟩) (Plan.add_self _ _ _) rfl,R,Plan.le_add hp,add_out⟩
     unfold Instr.indexAt
     simp only[asIntOf,Sem.run_bind,Sem.run_pure,Result.andThen_ok,run_underlying under_nodes w]
     rw[if_pos ⟨by omega,by omega⟩]
     simp[sizeOf,typeInfo,hf1,Addr.add_mid,hf2,hi5,Nat.mul_comm]
    ·cases e4
  ·cases e4
 ·cases e4
theorem sto_ok (C:Ctx b E N K O w0 cs)(hpos:PosOK N pos){put:List (Nat×Sp×Nat)}(hput:PutOK N put)(hr:Rel K O w0 p h w){ei c:Nat}{cells:List Value}{v:Value}{h':Tree AObj}{c':Nat}{l:Log}(e:stoM pos put ei cells h c = .ok v h' c' l)(hrng:M.Rng h c c')(hf:Free p c c'){v1 v2:Value}(hv1:VR p (tk ei) v1)(hv2:VR p (.agg cells.toArray) v2):
  v=undef∧Gives Tryz.prog K O w0 p w c c' h' (fun _ (_:Unit) _=>True) (Instr.storeAt 26 v1 v2) ():=by
 unfold stoM at e
 obtain⟨o,h1,c1,l1,l2,e1,e2⟩:=bind_inv e
 obtain⟨hei,rfl,rfl⟩:=read_inv e1
 split at e2
 ·rename_i me
  split at e2
  ·rename_i hme
   obtain⟨o,h2,c2',l3,l4,e3,e4⟩:=bind_inv e2
   obtain⟨hc2,rfl,rfl⟩:=read_inv e3
   obtain⟨c2,rfl⟩:∃ c2,me=8 * c2+4:=⟨me / 8,by omega⟩
   rw[show (8 * c2+4) / 8=c2 by omega] at hc2 e4
   split at e4
   ·rename_i m
    split at e4
    ·rename_i hcc
     obtain⟨hm8,h64,hone⟩:=hcc
     cases hy:look3 put (m / 8) with
     |none=>rw[hy] at e4;cases e4
     |some y=>
      rw[hy] at e4
      obtain⟨sp,y⟩:=y
      obtain⟨l0,u,hT1,hT2⟩:=hput _ (look3_mem hy)
      dsimp only at hT1 hT2 e4
      obtain⟨d,h4,c4,l5,l6,e5,e6⟩:=bind_inv e4
      cases hv2 with
      |@agg _ ag hvs=>
      have hvs:VRs p cells ag.toList:=by simpa using hvs
      obtain⟨rfl,rfl,F,hbel,hnode,hFS,hvl⟩:=nodeM_ok C hr hpos e5 hvs
      obtain⟨_,h6,c6,l9,l10,e9,e10⟩:=bind_inv e6
      obtain⟨rfl,rfl,hdd⟩:=delO_ok e9
      obtain⟨ne,h7,c7,l11,l12,e11,e12⟩:=bind_inv e10
      obtain⟨rfl,rfl,rfl⟩:=new_inv e11
      obtain⟨_,h8,c8,l13,l14,e13,e14⟩:=bind_inv e12
      have hwr:((delT h4 d).set ne (some (.abs (8 * y+2)))).get c2≠none:=by
       unfold M.write at e13
       cases hg:((delT h4 d).set ne (some (.abs (8 * y+2)))).get c2 with
       |none=>rw[hg] at e13;cases e13
       |some=>simp
      obtain⟨rfl,rfl⟩:=write_inv e13
      obtain⟨rfl,rfl,rfl⟩:=pure_inv e14
      have hp:=hf ne (Nat.le_refl _) (by omega)
      have hcn:c2≠ne:=by
       rcases rng_out hrng hc2 with h1|h1 <;> omega
      have hne:d≠some c2:=fun hh=>by
       rw[Tree.get_set,if_neg hcn,hh] at hwr
       unfold delT at hwr
       dsimp only at hwr
       rw[Tree.get_set,if_pos rfl] at hwr
       exact hwr rfl
      cases hv1 with
      |@tok _ se hse _=>
      have hmean:=hr.mean _ _ _ hei hse
      rw[C.mean] at hmean
      unfold meanN at hmean
      rw[show (8 * c2+4) % 8=4 by omega,show (8 * c2+4) / 8=c2 by omega] at hmean
      obtain⟨-,s2,g,o,n,cc,hs2,hval2,hev⟩:=hmean
      have hG:=C.listG hr hc2 hs2 hm8
      have hfoot:=Ctx.foot hr hc2 hs2
      obtain⟨a,cc',hval,hlc,hcm2,hfS,hl⟩:=hG
      rw[hT1] at hval hlc hl
      obtain⟨g2,o2,bs,rfl,hg,hroom,hrows⟩:=hl.resolve_left (fun hh=>by simp at hh)
      rw[hval2] at hval
      rw[List.length_append,List.length_singleton] at hval hlc
      cases hval
      have hgw:=hfoot g _ hg
      generalize hnews:ag.toList=news at hvs hnode hvl
      have hag:ag=news.toArray:=by rw[←Array.toList_inj,hnews]
      subst hag
      have hn1:∀ u∈news,u.oneCell'=true:=oneCells_vrs hvs fun v hv=>List.all_eq_true.1 hone v hv
      obtain⟨i,hi,hi5,-⟩:=node_info
      obtain⟨f,hf1,hf2,hf3,hf4⟩:=hi.info
      have hin:∀ j,j<5→o+5 * l0.length+j<bs.size:=fun j hj=>by omega
      have hrun:=run_storeVar_cells (P:=Tryz.prog) w g (o+5 * l0.length) 26 (.agg news.toArray) (fun j hj=>by
       have hj:j<5:=by have:j<news.toArray.size:=hj;simp at this;omega
       have:=hin j hj
       refine⟨?_,?_⟩
       ·unfold World.cell?;rw[hgw];simp[this]
       ·unfold World.frozen?;rw[hgw];simp) (by rw[hf1];show some f.size=some news.toArray.size;rw[hf2,hi5];simp[hvl]) (by
       rw[Array.all_eq_true_iff_forall_mem]
       intro y hy
       exact hn1 y (by simpa [Value.cells] using hy))
      have hcl:(Value.agg news.toArray).cells.toList=news:=by simp[Value.cells]
      rw[hcl] at hrun
      have hnew:=heap_setCells g 26 (0,0) news (o+5 * l0.length) w bs hgw
      have hputA:putAll bs.toList (o+5 * l0.length) news=bs.toList.take (o+5 * l0.length)++news++bs.toList.drop (o+5 * l0.length+news.length):=putAll_eq _ _ _ (by simp;omega)
      have hB:=Lib.below_setCells g (Nat.le_refl g) news (o+5 * l0.length) (Below.refl g w)
      have hoth:∀ k,k<w.heap.size→k≠g→(w.setCells g (o+5 * l0.length) news).heap[k]? = w.heap[k]? := fun k h1 h2=>World.heap_setCells_other _ _ _ _ h1 h2
      have hglt:g<(w.setCells g (o+5 * l0.length) news).heap.size:=(Array.getElem?_eq_some_iff.1 hnew).1
      have hgf:s2.foot g≠none:=by rw[hg];simp
      have hFlt:∀ k,F k≠none→k<w.heap.size:=fun k hk=>by
       unfold Belongs at hbel
       cases d with
       |none=>dsimp only at hbel;rw[hbel] at hk;exact absurd rfl hk
       |some dn=>
        obtain⟨-,md,sd,b1,b2,rfl⟩:=hbel
        obtain⟨s,z1,-,z3,-⟩:=hr.at_ _ _ b1
        obtain rfl:s=sd:=Option.some.inj (z1.symm.trans b2)
        exact z3 k hk
      have hFg:F g=none:=by
       cases hx:F g with
       |none=>rfl
       |some x=>
        exfalso
        have hFn:F g≠none:=by rw[hx];simp
        unfold Belongs at hbel
        cases d with
        |none=>dsimp only at hbel;rw[hbel] at hx;cases hx
        |some dn=>
         obtain⟨-,md,sd,b1,b2,rfl⟩:=hbel
         exact hne (by rw[hr.one _ _ _ _ _ _ g b1 hc2 b2 hs2 hFn hgf])
      obtain⟨u0,u1,u2,u3,u4,rfl⟩:=list5 hvl
      have hcell:∀ j,(w.setCells g (o+5 * l0.length) [u0,u1,u2,u3,u4]).cell? ⟨g,j,none⟩=(putAll bs.toList (o+5 * l0.length) [u0,u1,u2,u3,u4])[j]? := fun j=>by
       unfold World.cell?
       rw[hnew]
       simp
      have R:=regrow C hr hc2 hs2 h64 hbel hne hB.os hB.tape hB.output hB.size (.inl hgf) hoth hp (m:=8 * y+2) (v:=s2.val) (by
       unfold meanN
       rw[show (8 * y+2) % 8=2 by omega,show (8 * y+2) / 8=y by omega]
       refine⟨some ⟨g,o,none⟩,cc,by rw[hT2];simpa using hval2,by rw[hT2];simpa using hlc,hcm2,fun k hk => ?_,.inr ⟨g,o,(putAll bs.toList (o+5 * l0.length) [u0,u1,u2,u3,u4]).toArray,rfl,?_,?_,?_⟩⟩
       ·rcases (footU_ne hk).1 with rfl|h1|h1
        ·exact hfS _ hgf
        ·exact hfS _ h1
        ·exact hFS _ h1
       ·show footU _ g s2.foot F g=_
        rw[footU_at (.inl rfl),hnew]
       ·simpa [putAll_length] using hroom
       ·intro W hW
        rw[hT2]
        refine grown hglt hFg hoth hfoot hFlt (.inr ⟨g,o,NodeR.prefix_ (hrows w hfoot),.inl rfl,fun j hj => ?_⟩) hnode (fun j u hj => ?_) hW
        ·rw[hcell,hputA]
         unfold World.cell?
         rw[hgw]
         show _=bs[o+j]?
         rw[List.append_assoc,List.getElem?_append_left (by simp;omega),List.getElem?_take,if_pos (by omega),Array.getElem?_toList]
        ·have hj5:=(List.getElem?_eq_some_iff.1 hj).1
         rw[hcell,hputA]
         have e1:o+5 * l0.length+j=(bs.toList.take (o+5 * l0.length)).length+j:=by
          have:=hin 0 (by omega)
          simp;omega
         rw[e1,List.append_assoc,List.getElem?_append_right (by omega),Nat.add_sub_cancel_left,List.getElem?_append_left hj5]
         exact hj)
      refine⟨rfl,p.add ne ⟨0,0,0,0,s2.val,footU (w.setCells g (o+5 * l0.length) [u0,u1,u2,u3,u4]) g s2.foot F⟩,w.setCells g (o+5 * l0.length) [u0,u1,u2,u3,u4],(),?_,trivial,?_,Plan.le_add hp,add_out⟩
      ·rw[hev]
       unfold Instr.storeAt Instr.sureAddr
       rw[Sem.run_bind,Sem.run_pure,Result.andThen_ok]
       exact hrun
      ·have R2:=R.put (c:=c2) (s:=s2) (o := .fwd ne) (Plan.le_add hp _ _ hs2) (by
        rw[Tree.get_set,if_neg hcn]
        unfold delT
        cases d with
        |none=>dsimp only;rw[Tree.get_set,if_pos rfl]
        |some dn=>
         dsimp only
         rw[Tree.get_set,Tree.get_set]
         split
         ·rfl
         ·rw[if_pos rfl]) (fun k hk=>hk.elim) (fun _ k hk=>hk.elim) (fun k hk=>hk.elim) ⟨_,Plan.add_self _ _ _,rfl⟩ (fun m e=>by cases e)
       refine R2.congr fun x => ?_
       rw[Tree.get_set,Tree.get_set,Tree.get_set,Tree.get_set]
       by_cases x1:x=c2
       ·rw[if_pos x1,if_pos x1]
       ·rw[if_neg x1,if_neg x1]
        by_cases x2:x=ne
        ·rw[if_pos x2,if_pos x2]
        ·rw[if_neg x2,if_neg x2]
         unfold delT
         cases d with
         |none=>dsimp only;rw[Tree.get_set,if_neg x1]
         |some dn=>
          dsimp only
          rw[Tree.get_set,Tree.get_set,Tree.get_set,if_neg x1]
    ·cases e4
   ·cases e4
  ·cases e2
 ·cases e2
end
end Prs
end Go.Proofs.YtcbkeecabcbogaaGreatDoor
