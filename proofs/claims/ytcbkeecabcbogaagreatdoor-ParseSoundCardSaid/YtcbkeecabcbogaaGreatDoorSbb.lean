/- Scripts: a function that changes a number too: what the eval -/
import Derived.Test.YtcbkeecabcbogaaGreatDoorSba
set_option linter.unusedSimpArgs false
set_option linter.unusedVariables false
namespace Go.Proofs.YtcbkeecabcbogaaGreatDoor
open Go.RowKit
namespace Prs
open Ev
def Ro (D:Nat)(d:Int)(len:Nat)(hd:Bool)(B:Nat)(ls:List (List Tok))(ts:List Tr)(tss:List (List Tr))(xs:List Int):Va where
 len:=len
 L:=fun i=>ls.getD i []
 T:=fun i=>ts.getD i tr0
 TS:=fun i=>tss.getD i []
 X:=fun k=>if k=63 then .int .i64 d else mkX len hd xs k
 one:=fun k=>by
  split
  ·rfl
  ·exact Qg2 len hd xs k
 S:=(B ≤ ·)
 D:=D
noncomputable def heapD (hd cv:Value):Tree Q4:=(Ey hd).set 80 (some (.row [cv] 3 1))
noncomputable def chk80 (h:Tree Q4)(cv:Value):Bool:=match h.get 80 with
 |some (.row [c] t 1)=>Nat.beq t 3&&eqV 9 c cv
 |_=>false
noncomputable def Qsr (pos:List Nat)(cv1:Value)(fin:Fin)(r:Res Q4 CR):Bool:=match r with
 | .ok (.ret v) h _ _=>chk80 h cv1&&(match fin with
  | .tree sp j=>(match v with
   | .agg cells=>Qp1 pos 30 (h.set 80 none) cells.toList sp&&Qes h j (tk 321)
   |_=>false)
  |_=>false)
 | .ok (.pan v) h _ _=>chk80 h cv1&&(match fin with
  | .pan t=>eqV 9 v (.iface 58 (.agg #[t]))&&isNat pos false t
  |_=>false)
 | .no=>false
structure Yq (b:Nat)(E:Env)(N:Va)(q:Bool)(w:World)(cs:List Xt)(T:OpT)(eqc:List (Nat×Value×Bool))(cv:Value)(d:Int):Prop where
 told:Told b E N q w cs T eqc
 bD:b<N.D
 cell:∃ fr:Nat×Nat,w.heap[N.D]? = some (.cells #[.int .i64 d] 3 fr)∧(decide (fr.1≤0)&&decide (0<fr.2))=false
 val:∀ p,AxN b N p→VR p cv (.int .i64 d)
abbrev OD (b D:Nat):Nat→Prop:=fun k=>k=b∨k=D
section
variable {b:Nat} {E:Env} {N:Va} {q:Bool} {w:World} {cs:List Xt} {T:OpT} {eqc:List (Nat×Value×Bool)} {cv:Value} {d:Int}
theorem Yq.ctx (D:Yq b E N q w cs T eqc cv d):Ctx b E N (Ur b E N cs T eqc) (OD b N.D) w cs where
 orc:=rfl
 mean:=rfl
 ax:=rfl
 n:=rfl
 ob:=.inl rfl
 lo:=fun k hk=>by
  have:=D.bD;rcases hk with rfl|rfl
  ·exact Nat.le_refl _
  ·omega
 bw:=D.told.rd.lt
 low:=D.told.rd.1
 x0:=D.told.x0
 len:=D.told.len
 x1:=⟨q,D.told.x1⟩
 s:=fun k hk=>by rw[D.told.s];exact hk
 calls:=D.told.calls
theorem Yq.start (D:Yq b E N q w cs T eqc cv d):∃ p,Rel (Ur b E N cs T eqc) (OD b N.D) w p (heapD (tk 321) cv) w∧(∀ k,384≤k→p k=none):=by
 obtain⟨p,R0,hfree⟩:=D.told.start (hd:=tk 321) (.inr rfl);have hax:=D.told.ctx.axp R0;obtain⟨s,k1,k2,k3,k5,k6⟩:=hax.cell;obtain⟨s0,a1,a2,-⟩:=hax.rd;obtain⟨fr,f1,f2⟩:=D.cell;have hbD:=D.bD
 have R1:Rel (Ur b E N cs T eqc) (OD b N.D) w p (Ey (tk 321)) w:=⟨⟨rfl,rfl,rfl,Nat.le_refl _,fun _ _ _=>rfl⟩,R0.glob,R0.dis,fun n o hn=>by
  obtain⟨s',x1,x2,x3,x4⟩:=R0.at_ n o hn
  exact⟨s',x1,fun h1 k hk=>(x2 h1 k hk).imp (fun e => .inl e) id,x3,x4⟩,R0.one,R0.mean⟩
 have h80:(Ey (tk 321)).get 80=none:=by unfold Ey;rw[Tree.Qu,Tree.Qu,if_neg Dd,if_neg Dd];rfl
 refine⟨p,R1.put k1 h80 (fun k hk n o s' hn hs hO=>?_) (fun _ k hk => .inl (.inr ?_)) (fun k hk=>?_) ?_ (fun m e=>by cases e),hfree⟩
 ·have hk:k=s.blk:=hk;rw[k2] at hk;subst hk;unfold Ey at hn;rw[Tree.Qu] at hn;by_cases e:n=64
  ·subst e;rw[if_pos rfl] at hn;cases hn;obtain rfl:s'=s0:=Option.some.inj (hs.symm.trans a1);have hO:N.D=s'.blk:=hO;omega
  ·rw[if_neg e,Tree.Qu] at hn;by_cases e2:n=65
   ·subst e2;rw[if_pos rfl] at hn;cases hn;have hm:=R0.mean 65 0 s' (by unfold Ey;rw[Tree.Qu,if_neg Dd,Tree.Qu,if_pos rfl]) hs;obtain⟨-,hm⟩:Qhu b E.w0 s'.val (N.L (0 / 8))∧s'.foot=noF:=hm;exact hO (by rw[hm];rfl)
   ·rw[if_neg e2] at hn;cases hn
 ·rw[show k=s.blk from hk,k2]
 ·rw[show k=s.blk from hk,k2];exact(Array.getElem?_eq_some_iff.1 f1).1
 ·refine⟨k6,#[.int .i64 d],fr,by rw[k2];exact f1,by rw[k5];rfl,by rw[k3];exact Nat.le_refl 1,?_,fun j hj=>?_,fun hh=>absurd rfl hh⟩
  ·rw[k3];exact .cons (D.val p hax) .nil
  ·have:j=0:=by have:j<1:=hj;omega
   rw[this];exact f2
def OutD (b:Nat)(E:Env)(hd:Bool)(g:Nat)(d1:Int)(r:Except Nat (Tr×List Tok))(w:World)(e:Ending)(w':World):Prop:=∃ wm,SetAt g d1 w wm∧Out b E hd (Zd (w.heap.size ≤ ·)) r wm e w'
theorem Yq.path (D:Yq b E N q w cs T eqc cv d){cv1:Value}{d1:Int}(hv1:∀ p u,AxN b N p→VR p cv1 u→u=.int .i64 d1){f:FuncId}{fin:Fin}
  (run:Qsr T.pos cv1 fin (Gf Tryz.prog (Ur b E N cs T eqc) 1000 f [.pointer (some ⟨64,0,none⟩),.pointer (some ⟨80,0,none⟩)] (heapD (tk 321) cv) 384)=true):Calls Tryz.prog f #[rp b,.pointer (some ⟨N.D,0,none⟩)] w (OutD b E q N.D d1 (Qso N fin) w):=by
 obtain⟨p,R,hfree⟩:=D.start;have hax:=D.ctx.axp R;have horc:Qjq Tryz.prog (Ur b E N cs T eqc) (OD b N.D) w:=⟨Qcr D.ctx,Qgy D.ctx rfl D.told.nxt D.told.app D.told.put D.told.pos,fun _ _ _ h=>by cases h⟩;cases hev:Gf Tryz.prog (Ur b E N cs T eqc) 1000 f [.pointer (some ⟨64,0,none⟩),.pointer (some ⟨80,0,none⟩)] (heapD (tk 321) cv) 384 with
 |no=>rw[hev] at run;cases run
 |ok r h' c' l=>
  rw[hev] at run;obtain⟨s80,z1,z2,z3,z5,-⟩:=hax.cell;have hp80:VR p (.pointer (some ⟨80,0,none⟩)) (.pointer (some ⟨N.D,0,none⟩)):=by
   have:=VR.ptr (o:=0) z1;rw[z2,z3] at this;exact this
  refine(Qlh follows' horc hev (fun k h1 _=>?_) R (args' := #[rp b,.pointer (some ⟨N.D,0,none⟩)]) (.cons (Qhz hax) (.cons hp80 .nil)) (fun k h1 _=>hfree k h1)).mono ?_
  ·unfold heapD Ey;rw[Tree.Qu,Tree.Qu,Tree.Qu,if_neg Dw,if_neg Dw,if_neg Dw];rfl
  ·rintro e w' ⟨p',hle,-,hr,hc⟩;have hax':=D.ctx.axp hr;have k1:=hle _ _ z1;have h80:chk80 h' cv1=true:=by
    unfold Qsr at run;cases r with
    |ret v=>rw[Bool.and_eq_true] at run;exact run.1
    |pan v=>rw[Bool.and_eq_true] at run;exact run.1
   obtain⟨c,hc80,hcv⟩:∃ c,h'.get 80=some (.row [c] 3 1)∧c=cv1:=by
    unfold chk80 at h80;split at h80
    ·rename_i c t hg;rw[Bool.and_eq_true] at h80;rw[Nat.eq_of_beq_eq_true h80.1] at hg;exact⟨c,hg,Vr h80.2⟩
    ·cases h80
   subst hcv;obtain⟨s',y1,-,-,y4⟩:=hr.at_ _ _ hc80;obtain rfl:s'=s80:=Option.some.inj (y1.symm.trans k1);obtain⟨bs,fr,ra,rb,rc,rd,re,-⟩:=Nh.at_ y4;rw[z5] at rb;rw[z2] at ra;have hl1:bs.toList.length≤[c].length:=by rw[Array.length_toList,rb];exact Nat.le_refl 1
   rw[z3,List.drop_zero,List.take_of_length_le hl1] at rd;have hbs:bs = #[.int .i64 d1]:=by
    generalize hbl:bs.toList=bl at rd;cases rd with
    |cons q1 rd=>
    cases rd
    have:=hv1 p' _ hax' q1;subst this;rw[←Array.toList_inj,hbl]
   subst hbs;have hDlt:N.D<w.heap.size:=by obtain⟨fr,f1,-⟩:=D.cell;exact(Array.getElem?_eq_some_iff.1 f1).1
   have hother:∀ k,k≠N.D→({ w with heap:=w.heap.setIfInBounds N.D (.cells #[.int .i64 d1] 3 fr) }:World).heap[k]? = w.heap[k]? := fun k hk=>by
    show (w.heap.setIfInBounds N.D _)[k]? = _
    rw[Array.getElem?_setIfInBounds_ne (Ne.symm hk)]
   have hself:({ w with heap:=w.heap.setIfInBounds N.D (.cells #[.int .i64 d1] 3 fr) }:World).heap[N.D]? = some (.cells #[.int .i64 d1] 3 fr):=by
    show (w.heap.setIfInBounds N.D _)[N.D]? = _
    rw[Array.getElem?_setIfInBounds_self_of_lt hDlt]
   refine⟨{ w with heap:=w.heap.setIfInBounds N.D (.cells #[.int .i64 d1] 3 fr) },⟨rfl,rfl,rfl,by simp,hother,fr,hself,re 0 (by rw[rb];decide)⟩,⟨hr.below.os,hr.below.tape,hr.below.output,by simpa using hr.below.size,fun k h1 h2=>?_⟩,?_⟩
   ·by_cases hk:k=N.D
    ·subst hk;rw[hself];exact ra
    ·rw[hother k hk];exact hr.below.block k (by simpa using h1) (by rintro(h|h);exact h2 h;exact hk h)
   ·unfold Qsr at run;cases r with
    |ret v=>
     rw[Bool.and_eq_true] at run;obtain⟨-,run⟩:=run;cases fin with
     |pan t=>cases run
     |tree sp j=>
      dsimp only at run;split at run
      ·rename_i cells;rw[Bool.and_eq_true] at run;obtain⟨h1,h2⟩:=run;obtain⟨hrd,h64⟩:=D.told.rdOf (.inr rfl) D.ctx hr h2;cases e with
       |returned v'=>
        have hv:VR p' (.agg cells) v':=hc;cases hv with
        |@agg _ b2 hvs=>
        refine⟨_,rfl,⟨b2.toList,by simp,?_⟩,hrd⟩;have sub:∀ x o,(h'.set 80 none).get x=some o→x≠80∧h'.get x=some o:=fun x o hx=>by
         rw[Tree.Qu] at hx;by_cases ex:x=80
         ·rw[if_pos ex] at hx;cases hx
         ·rw[if_neg ex] at hx;exact⟨ex,hx⟩
        have:=Qlo D.ctx (hr.del 80) D.told.pos (fun n c t z s2 hn h70 hs2=>?_) 30 h1 hvs
        ·rw[D.told.s] at this;exact this
        ·obtain⟨x1,x2⟩:=sub _ _ hn;obtain⟨s3,q1,q2,-⟩:=hr.at_ _ _ x2;obtain rfl:s3=s2:=Option.some.inj (q1.symm.trans hs2);rcases q2 (by show 64≤n;omega) s3.blk rfl with (hO|hO)|hO
         ·exfalso;obtain⟨s0,a1,a2,-⟩:=hax'.rd;obtain⟨c64,t64,z64,hb64⟩:=h64
          have:=hr.one _ _ _ _ _ _ s3.blk x2 hb64 q1 a1 rfl (by show s3.blk=s0.blk;rw[hO,a2]);omega
         ·exfalso;exact x1 (hr.one _ _ _ _ _ _ s3.blk x2 hc80 q1 k1 rfl (by show s3.blk=s'.blk;rw[hO,z2]))
         ·rw[D.told.s];exact hO
       |panicked=>exact hc.elim
       |outgrown=>exact hc.elim
      ·cases run
    |pan v=>
     rw[Bool.and_eq_true] at run;obtain⟨-,run⟩:=run;cases fin with
     |tree sp j=>cases run
     |pan t=>
      dsimp only at run;rw[Bool.and_eq_true] at run;obtain rfl:=Vr run.1;cases e with
      |returned=>exact hc.elim
      |outgrown=>exact hc.elim
      |panicked ch=>
       obtain⟨v',rfl,hv⟩:=hc;cases hv with
       |iface _ hv=>
       cases hv with
       |@agg _ b2 hvs=>
       generalize hbl:b2.toList=bl at hvs;cases hvs with
       |cons h1 h2=>
       cases h2;have h3:=Uy D.told.pos hax' run.2 h1;simp only[Bool.false_eq_true,if_false] at h3;subst h3;have hb2:b2 = #[.int .i64 (Wp N t:Int)]:=by rw[←Array.toList_inj,hbl]
       subst hb2;rfl
end
end Prs
end Go.Proofs.YtcbkeecabcbogaaGreatDoor
