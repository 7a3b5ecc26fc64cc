/- Loops that put trees into a list: the loop's head again, out -/
import Derived.Test.YtcbkeecabcbogaaGreatDoorSap
set_option maxRecDepth 20000
set_option linter.unusedSimpArgs false
set_option linter.unusedVariables false
namespace Go.Proofs.YtcbkeecabcbogaaGreatDoor
section
open Go.RowKit
namespace Prs
open Ev
noncomputable def Qha (h:Tree Q4)(d y:Nat):Bool:=match h.get d with
 |some (.abs m)=>Nat.beq m (8*y+2)
 |some (.fwd e)=>(match h.get e with
  |some (.abs m)=>Nat.beq m (8*y+2)
  |_=>false)
 |_=>false
noncomputable def Qat (h:Tree Q4):Nat→List Box→Bool
 |_,[]=>true
 |i,x::l=>(match h.get (16+i) with
  |some (.row [c] t 1)=>eqV 9 c x.cell&&Nat.beq t x.ty
  |_=>false)&&Qat h (i+1) l
noncomputable def chkM (h:Tree Q4):Option Box→Bool
 |none=>true
 |some x=>(match h.get 80 with
  |some (.row [c] t 1)=>eqV 9 c x.cell&&Nat.beq t x.ty
  |_=>false)
theorem chkM_ok {h:Tree Q4}{x:Box}(e:chkM h (some x)=true):h.get 80=some (.row [x.cell] x.ty 1):=by
 unfold chkM at e;dsimp only at e;split at e
 ·rename_i c t hg;rw[Bool.and_eq_true] at e;rw[hg,Vr e.1,Nat.eq_of_beq_eq_true e.2]
 ·cases e
def MOK (L:Ue)(b:Nat)(N:Va)(m:Option Box):Prop:=∀ y,m=some y→∃ x,L.mbox=some x∧y.blk=x.blk∧∀ p u,AxN b N p→VR p y.cell u→u=y.real
abbrev Ue.setM (L:Ue)(m:Option Box):Ue:={ L with mbox:=m }
noncomputable def Qs7 (L:Ue)(h:Tree Q4)(y:Nat):Bool:=match h.get 66 with
 |some (.row cells t sz)=>Nat.beq t L.rowTy&&(Nat.beq sz L.cells&&(match cells[L.ix]? with
  |some (.chan (some d))=>eqL (eqV 9) cells (Ja L d)&&Qha h d y
  |_=>false))
 |_=>false
noncomputable def Qas (s:Ev.Loc):List (Nat×Value)→Bool
 | []=>true
 |x::l=>eqV 9 (s.rd x.1) x.2&&Qas s l
noncomputable def noDs (s:Ev.Loc):Bool:=match s.ds with
 | []=>true
 |_=>false
noncomputable def Qau (L:Ue)(h:Tree Q4)(s:Ev.Loc)(j y:Nat):Bool:=Qes h j (tk 321)&&(Qs7 L h y&&(Qat h 0 L.boxes&&(chkM h L.mbox&&(Qas s (known L)&&(Nat.beq s.n L.n&&noDs s)))))
theorem Qet {h:Tree Q4}:∀ {l:List Box} {i:Nat},Qat h i l=true→∀ j x,l[j]? = some x→h.get (16+(i+j))=some (.row [x.cell] x.ty 1)
 | [],_,_,j,x,hx=>by simp at hx
 |y::l,i,e,j,x,hx=>by
  unfold Qat at e;rw[Bool.and_eq_true] at e;cases j with
  |zero=>
   simp at hx;subst hx;have e:=e.1;split at e
   ·rename_i c t hg;rw[Bool.and_eq_true] at e;rw[Nat.add_zero,hg,Vr e.1,Nat.eq_of_beq_eq_true e.2]
   ·cases e
  |succ j=>
   have:=Qet e.2 j x (by simpa using hx);rwa [show i+1+j=i+(j+1) by omega] at this
theorem Aa {s:Ev.Loc}:∀ {l:List (Nat×Value)},Qas s l=true→∀ x∈l,s.rd x.1=x.2
 | [],_,x,hx=>by cases hx
 |y::l,e,x,hx=>by
  unfold Qas at e;rw[Bool.and_eq_true] at e;rcases List.mem_cons.1 hx with rfl|hx
  ·exact Vr e.1
  ·exact Aa e.2 x hx
section
variable {L:Ue} {b:Nat} {E:Env} {N:Va} {hd:Bool} {w1 w w':World} {cs:List Xt} {T:OpT} {eqc:List (Nat×Value×Bool)} {acc:List Tr} {l:List Tok} {a a':Act} {K:Cfg} {O:Nat→Prop} {p':Xb} {h':Tree Q4}
theorem Qle (C:Ctx b E N K O w cs)(hr:Rel K O w p' h' w'){d y:Nat}(e:Qha h' d y=true){v:Value}(hv:VR p' (tk d) v):∃ (n:Nat) (s:V9),h'.get n=some (.abs (8*y+2))∧p' n=some s∧s.val=v:=by
 unfold Qha at e;split at e
 ·rename_i m hg;rw[Nat.eq_of_beq_eq_true e] at hg;cases hv with
  |@tok _ s hs _=>exact⟨d,s,hg,hs,rfl⟩
 ·rename_i n hg;split at e
  ·rename_i m hg2;rw[Nat.eq_of_beq_eq_true e] at hg2;cases hv with
   |@tok _ s hs _=>
    obtain⟨s2,k1,-,-,k4⟩:=hr.at_ _ _ hg;obtain rfl:s2=s:=Option.some.inj (k1.symm.trans hs);obtain⟨s',q1,q2⟩:∃ s',p' n=some s'∧s2.val=s'.val:=k4;exact⟨n,s',hg2,q1,q2.symm⟩
  ·cases e
 ·cases e
theorem Qho (C:Ctx b E N K O w cs)(hr:Rel K O w p' h' w'){j:Nat}(e:Qes h' j (tk 321)=true)(hx:N.X 1=.bool hd):RdB b E w' (N.L j) hd∧∃ c t z,h'.get 64=some (.row c t z):=by
 unfold Qes at e;split at e
 ·rename_i c hd' t h64;simp only[Bool.and_eq_true] at e;obtain⟨h3,h4,h5⟩:=e;obtain rfl:=Nat.eq_of_beq_eq_true h3;obtain rfl:=Vr h4;split at h5
  ·rename_i m hcm;obtain rfl:=Nat.eq_of_beq_eq_true h5;obtain⟨q',hq1,hq2⟩:=Qgw C hr h64 rfl hcm
   have:=(C.axp hr).val (show Xi N 321=some (.bool hd) by rw[←hx];rfl) hq1;cases this;exact⟨hq2,_,_,_,h64⟩
  ·cases h5
 ·cases e
theorem X8.again (D:X8 L b E N hd w1 w cs T eqc)(hsz:w1.heap.size≤w.heap.size){m:Option Box}(hm:MOK L b N m){vt v:Value}{F:Nat→Option Obj}(hFs:∀ k,F k≠none→w1.heap.size≤k)(C:Ctx b E N K (ownO b L F) w cs)(hap:Apart (entries L b vt v F))(hr:Rel K (ownO b L F) w p' h' w')(hle:(D5 N (entries L b vt v F)).le p')
  {s':Ev.Loc} (hs:Ac p' s' a') {j y:Nat} (e:Qau (L.setM m) h' s' j y=true):Qch (L.setM m) b E hd w1 (N.TS y) (N.L j) w' a':=by
 have X:=D.fix;unfold Qau at e;simp only[Bool.and_eq_true] at e;obtain⟨e1,e2,e3,e7,e4,e5,e6⟩:=e;have e2:Qs7 L h' y=true:=e2;have e3:Qat h' 0 L.boxes=true:=e3;have e5:Nat.beq s'.n L.n=true:=e5;have e7:chkM h' m=true:=e7;obtain⟨hrd,c64,t64,z64,h64⟩:=Qho C hr e1 D.x1;have hax:=C.axp hr;have hat:=fun x hx=>hle _ _ (Wj (N:=N) hap x hx)
 have m66:(66,.row (Ja L 67) L.rowTy L.cells,(⟨L.q,0,L.cells,L.cells,undef,noF⟩:V9))∈entries L b vt v F:=by unfold entries;simp
 have m68:∀ i,i<L.cells→i≠L.ix→(68+i,.abs 7,(⟨0,0,0,0,L.vs i,noF⟩:V9))∈entries L b vt v F:=fun i h1 h2=>by
  unfold entries;simp only[List.mem_cons,List.mem_append];exact .inr (.inr (.inr (.inr (.inl (Qik h1 h2)))))
 have mmt:∀ x,L.mbox=some x→(80,.row [x.cell] x.ty 1,(⟨x.blk,0,1,1,undef,noF⟩:V9))∈entries L b vt v F:=fun x hx=>by
  unfold entries;simp only[List.mem_cons,List.mem_append];exact .inr (.inr (.inr (.inr (.inr (.inr (Qr8 hx))))))
 have mbox:∀ j x,L.boxes[j]? = some x→Qpp (0+j) x∈entries L b vt v F:=fun j x hx=>by
  unfold entries;simp only[List.mem_cons,List.mem_append];exact .inr (.inr (.inr (.inr (.inr (.inl (Ls hx))))))
 have s66:=hat _ m66;have hbox:=Qet e3;have hslot:=Aa e4;have getS:∀ t v,s'.rd t=v→v ≠ .chan none→VR p' v (a'.tmps.getD t undef):=fun t v h1 h2=>by
  rcases hs.tm t with h|h
  ·rw[h1] at h;exact absurd h h2
  ·rw[h1] at h;exact h
 have mrow:∀ z,m=some z→∃ x,L.mbox=some x∧z.blk=x.blk∧(∀ p u,AxN b N p→VR p z.cell u→u=z.real)∧h'.get 80=some (.row [z.cell] z.ty 1)∧p' 80=some ⟨x.blk,0,1,1,undef,noF⟩:=fun z hz=>by
  obtain⟨x,x1,x2,x3⟩:=hm z hz;rw[hz] at e7;exact⟨x,x1,x2,x3,chkM_ok e7,hat _ (mmt x x1)⟩
 refine⟨hrd,?_,fun x hx=>?_,?_,fun x hx=>?_,fun x hx=>?_,?_,?_,fun z hz=>⟨?_,?_⟩⟩
 ·-- the row
  unfold Qs7 at e2;split at e2
  ·rename_i cells t sz h66;simp only[Bool.and_eq_true] at e2;obtain⟨r1,r2,r3⟩:=e2;obtain rfl:=Nat.eq_of_beq_eq_true r1;obtain rfl:=Nat.eq_of_beq_eq_true r2;split at r3
   ·rename_i d hcd;rw[Bool.and_eq_true] at r3;obtain rfl:=Qao (fun h=>Vr h) r3.1;obtain⟨bs,fr,q1,q2,q3,q4⟩:=Qdj hr h66 s66 rfl (by rw[U3]);have hbl:=q2.len;rw[U3] at hbl
    obtain⟨v',g1,g2⟩:=q2.get L.ix (tk d) (by
     unfold Ja;rw[List.getElem?_map,List.getElem?_range X.ixl]
     simp)
    have hbs:bs=(J9 L v').toArray:=by
     rw[←Array.toList_inj];apply List.ext_getElem?
     intro i;rcases Nat.lt_or_ge i L.cells with hi|hi
     ·have e1:(Ja L d)[i]? = some (if i=L.ix then tk d else tk (68+i)):=by
       unfold Ja;rw[List.getElem?_map,List.getElem?_range hi];rfl
      have e2:(J9 L v')[i]? = some (if i=L.ix then v' else L.vs i):=by
       unfold J9;rw[List.getElem?_map,List.getElem?_range hi];rfl
      show bs.toList[i]? = (J9 L v')[i]?
      rw[e2];obtain⟨u,u1,u2⟩:=q2.get i _ e1;rw[u1];by_cases hix:i=L.ix
      ·rw[if_pos hix];rw[hix] at u1;rw[u1] at g1;exact g1
      ·rw[if_neg hix] at u2 ⊢;cases u2 with
       |tok k1 k2=>
        rw[hat _ (m68 i hi hix)] at k1;cases k1;rfl
     ·rw[List.getElem?_eq_none Dw,List.getElem?_eq_none (by simp[V4];omega)]
    obtain⟨n,s,n1,n2,n3⟩:=Qle C hr r3.2 g2;have hG:=C.Qo1 hr n1 n2 Dw;rw[show (8*y+2) / 8=y by omega,D.s] at hG;have hfoot:=Ctx.foot hr n1 n2;have apart:∀ (k n2':Nat) (o:Q4) (s2:V9),h'.get n2'=some o→p' n2'=some s2→(∀ m,o ≠ .abs m)→Occ o s2 k→s.foot k=none:=fun k n2' o s2 h1 h2 h3 h4=>by
     cases hf:s.foot k with
     |none=>rfl
     |some z=>
      exfalso
      have:=hr.one _ _ _ _ _ _ k n1 h1 n2 h2 (by show s.foot k≠none;rw[hf];simp) h4;rw[←this,n1] at h1;cases h1;exact h3 _ rfl
    obtain⟨s0,a1,a2,-⟩:=hax.rd;refine⟨v',s.foot,fr,by rw[show J9 (L.setM m) v'=J9 L v' from rfl,←hbs];exact q1,fun jj hjj=>q3 jj ?_,q4,?_,hfoot,?_,?_,fun x hx=>?_⟩
    ·rw[hbs];simpa [V4] using (show jj<L.cells+ext L.cells from hjj)
    ·obtain⟨ad,cp,l1,l2,l3,l4,l5⟩:=hG;exact⟨ad,cp,by rw[←n3];exact l1,l2,l3,l4,l5⟩
    ·exact apart b _ _ _ h64 a1 (fun m hm=>by cases hm) a2.symm
    ·exact apart L.q _ _ _ h66 s66 (fun m hm=>by cases hm) rfl
    ·rcases List.mem_append.1 hx with hx|hx
     ·have hx:x∈L.boxes:=hx;obtain⟨jx,hj1,hj2⟩:=List.getElem_of_mem hx;have hj3:L.boxes[jx]? = some x:=by rw[List.getElem?_eq_getElem hj1,hj2]
      exact apart x.blk _ _ _ (hbox jx x hj3) (hat _ (mbox jx x hj3)) (fun m hm=>by cases hm) rfl
     ·have hx:x∈m.toList:=hx;rw[Option.mem_toList] at hx;obtain⟨x0,x1,x2,-,x4,x5⟩:=mrow x hx;exact apart x.blk _ _ _ x4 x5 (fun m hm=>by cases hm) x2
   ·cases r3
  ·cases e2
 ·have hx:x∈L.boxes:=hx;obtain⟨jx,hj1,hj2⟩:=List.getElem_of_mem hx;have hj3:L.boxes[jx]? = some x:=by rw[List.getElem?_eq_getElem hj1,hj2]
  obtain⟨bs,fr,q1,q2,q3,-⟩:=Qdj hr (hbox jx x hj3) (hat _ (mbox jx x hj3)) rfl rfl;generalize hbl:bs.toList=bl at q2;cases q2 with
  |cons k1 k2=>
   cases k2;have hu:=D.cellU x hx p' _ hax k1;subst hu;have hbs:bs = #[x.real]:=by rw[←Array.toList_inj,hbl]
   subst hbs;exact⟨fr,q1,fun jj hjj=>q3 jj (by simp[ext];omega)⟩
 ·have:=getS _ _ (hslot (L.rowSlot,.pointer (some ⟨66,0,none⟩)) (by unfold known;exact List.mem_cons_self ..)) Ds;generalize a'.tmps.getD L.rowSlot undef=u at this;cases this with
  |ptr k1=>
   rw[s66] at k1;cases k1;rfl
 ·have hx:x∈L.boxes:=hx;obtain⟨jx,hj1,hj2⟩:=List.getElem_of_mem hx;have hj3:L.boxes[jx]? = some x:=by rw[List.getElem?_eq_getElem hj1,hj2]
  have:=getS _ _ (hslot (x.slot,.pointer (some ⟨16+(0+jx),0,none⟩)) (by
   unfold known
   exact List.mem_cons_of_mem _ (List.mem_append_left _ (Qew hj3)))) Ds
  generalize a'.tmps.getD x.slot undef=u at this;cases this with
  |ptr k1=>
   have h16:p' (16+(0+jx))=some ⟨x.blk,0,1,1,undef,noF⟩:=hat _ (mbox jx x hj3);rw[h16] at k1;cases k1;rfl
 ·have hx:x∈L.direct:=hx
  have h1:=hslot (x.1,x.2.1) (by
   unfold known
   exact List.mem_cons_of_mem _ (List.mem_append_right _ (List.mem_append_left _ (List.mem_map.2 ⟨x,hx,rfl⟩))))
  have:=hs.tm x.1;rw[h1] at this;rcases this with h|h
  ·exact absurd h (D.dirN x hx)
  ·exact D.dirU x hx p' _ hax h
 ·rw[hs.n];exact Nat.eq_of_beq_eq_true e5
 ·unfold noDs at e6;have hds:=hs.ds;cases hsd:s'.ds with
  |nil=>
   rw[hsd] at hds;generalize a'.defers=ds at hds;cases hds;rfl
  |cons=>rw[hsd] at e6;cases e6
 ·obtain⟨x0,x1,x2,x3,x4,x5⟩:=mrow z hz;obtain⟨bs,fr,q1,q2,q3,-⟩:=Qdj hr x4 x5 rfl rfl;generalize hbl:bs.toList=bl at q2;cases q2 with
  |cons k1 k2=>
   cases k2;have hu:=x3 p' _ hax k1;subst hu;have hbs:bs = #[z.real]:=by rw[←Array.toList_inj,hbl]
   subst hbs;rw[x2];exact⟨fr,q1,fun jj hjj=>q3 jj (by simp[ext];omega)⟩
 ·obtain⟨x0,x1,x2,x3,x4,x5⟩:=mrow z hz
  have:=getS _ _ (hslot (z.slot,.pointer (some ⟨80,0,none⟩)) (by
   unfold known
   exact List.mem_cons_of_mem _ (List.mem_append_right _ (List.mem_append_right _ (Qok (L:=L.setM m) hz))))) Ds
  generalize a'.tmps.getD z.slot undef=u at this;rw[x2];cases this with
  |ptr k1=>rw[x5] at k1;cases k1;rfl
end
end Prs
end
section
open Go.RowKit
namespace Prs
open Ev
inductive LFin where
 |again (j y:Nat)
 |exit (id j y:Nat)
 |ret (j y:Nat)
 |pan (t:Value)
noncomputable def Qsq (L:Ue)(pos:List Nat)(fin:LFin)(r:Res Q4 (XE×Ev.Loc)):Bool:=match r with
 | .ok x h _ _=>(match x.1 with
  | .normal=>(match fin with
   | .again j y=>Qau L h x.2 j y
   |_=>false)
  | .exit id=>(match fin with
   | .exit id' j y=>Nat.beq id id'&&Qau L h x.2 j y
   |_=>false)
  | .ret=>(match fin with
   | .ret j y=>Qau L h x.2 j y
   |_=>false)
  | .panic v _=>(match fin with
   | .pan t=>eqV 9 v (.iface 58 (.agg #[t]))&&(isNat pos false t&&noDs x.2)
   |_=>false))
 | .no=>false
section
variable {L:Ue} {b:Nat} {E:Env} {N:Va} {hd:Bool} {w1 w:World} {cs:List Xt} {T:OpT} {eqc:List (Nat×Value×Bool)} {acc:List Tr} {l:List Tok} {a:Act} {Q:Exit→Act→World→Prop}
structure Ql3 (L:Ue)(b:Nat)(w1 w w':World):Prop where
 os:w'.os=w.os
 tape:w'.tape=w.tape
 output:w'.output=w.output
 size:w.heap.size≤w'.heap.size
 block:∀ k,k<w1.heap.size→k≠b→k≠L.q→(∀ x,L.mbox=some x→k≠x.blk)→w'.heap[k]? = w.heap[k]?
def GGoal (L:Ue)(b:Nat)(E:Env)(N:Va)(hd:Bool)(w1 w:World)(m:Option Box)(Q:Exit→Act→World→Prop):LFin→Prop
 | .again j y=>∀ w' a',Ql3 L b w1 w w'→Qch (L.setM m) b E hd w1 (N.TS y) (N.L j) w' a'→Q .normal a' w'
 | .exit id j y=>∀ w' a',Ql3 L b w1 w w'→Qch (L.setM m) b E hd w1 (N.TS y) (N.L j) w' a'→Q (.exit id) a' w'
 | .ret j y=>∀ w' a',Ql3 L b w1 w w'→Qch (L.setM m) b E hd w1 (N.TS y) (N.L j) w' a'→Q .ret a' w'
 | .pan t=>∀ w' a',Ql3 L b w1 w w'→a'.defers=[]→Q (.panic [{ v:=Vw (Wp N t),recovered:=false }]) a' w'
def LGoal (L:Ue)(b:Nat)(E:Env)(N:Va)(hd:Bool)(w1:World)(Q:Exit→Act→World→Prop):LFin→Prop
 | .again j y=>∀ w' a',Nl L b E hd w1 (N.TS y) (N.L j) w' a'→Q .normal a' w'
 | .exit id j y=>∀ w' a',Nl L b E hd w1 (N.TS y) (N.L j) w' a'→Q (.exit id) a' w'
 | .ret j y=>∀ w' a',Nl L b E hd w1 (N.TS y) (N.L j) w' a'→Q .ret a' w'
 | .pan t=>∀ w' a',Zx b L.q w1 w'→a'.defers=[]→Q (.panic [{ v:=Vw (Wp N t),recovered:=false }]) a' w'
theorem Qg1 {p:Xb}{s:Ev.Loc}{ds:List Deferred}(h:noDs s=true)(hd:DRs p s.ds ds):ds=[]:=by
 unfold noDs at h;cases hsd:s.ds with
 |nil=>rw[hsd] at hd;cases hd;rfl
 |cons=>rw[hsd] at h;cases h
theorem X8.Ee (D:X8 L b E N hd w1 w cs T eqc)(hL:N.L 0=l)(hT:N.TS 0=acc)(I:Qch L b E hd w1 acc l w a)(hsz:w1.heap.size≤w.heap.size){m:Option Box}(hm:MOK L b N m){body:Code}{fin:LFin}
  (run:∀ vt v F,Qsq (L.setM m) T.pos fin (Ji Tryz.prog (Ur b E N cs T eqc) 1000 body (locL L.n (known L)) (hOf (entries L b vt v F)) 384)=true) (hQ:GGoal L b E N hd w1 w m Q fin):body.wp Tryz.prog Q a w:=by
 obtain⟨vt,v,F,hFs,hr,hs,C,hap,h128⟩:=D.start hL hT I hsz;have run:=run vt v F;cases hev:Ji Tryz.prog (Ur b E N cs T eqc) 1000 body (locL L.n (known L)) (hOf (entries L b vt v F)) 384 with
 |no=>rw[hev] at run;cases run
 |ok x h' c' lg=>
  rw[hev] at run;have horc:Qjq Tryz.prog (Ur b E N cs T eqc) (ownO b L F) w:=⟨Qcr C,Qgy C rfl D.nxt D.app D.put D.pos,fun _ _ _ h=>by cases h⟩;obtain⟨x,s'⟩:=x;refine Zr ((Qth follows' horc 1000).code body _ _ _ x s' h' c' lg (fun k h1 _=>?_) hev _ w a Q hr hs (fun k h1 _=>Qfp h128 h1) fun p' w' a' q1 q2 q3 q4=>?_)
  ·exact Qhc fun e he=>by have:=h128 e he;omega
  ·have hk:Ql3 L b w1 w w':=⟨q3.below.os,q3.below.tape,q3.below.output,q3.below.size,fun k k1 k2 k3 k4=>q3.below.block k (Nat.lt_of_lt_of_le k1 hsz) (by
    rintro(hh|hh|hh|⟨x,hx,hh⟩)
    ·exact k2 hh
    ·exact k3 hh
    ·have:=hFs k hh;omega
    ·exact k4 x hx hh)⟩
   unfold Qsq at run;dsimp only at run;cases x with
   |normal=>
    cases fin with
    |again j y=>exact hQ w' a' hk (D.again hsz hm hFs C hap q3 q1 q4 run)
    |_=>cases run
   |exit id=>
    cases fin with
    |exit id' j y=>
     dsimp only at run;rw[Bool.and_eq_true] at run;obtain rfl:=Nat.eq_of_beq_eq_true run.1;exact hQ w' a' hk (D.again hsz hm hFs C hap q3 q1 q4 run.2)
    |_=>cases run
   |ret=>
    cases fin with
    |ret j y=>exact hQ w' a' hk (D.again hsz hm hFs C hap q3 q1 q4 run)
    |_=>cases run
   |panic u ls=>
    cases fin with
    |pan t=>
     dsimp only at run;rw[Bool.and_eq_true,Bool.and_eq_true] at run;obtain⟨e1,e2,e3⟩:=run;obtain rfl:=Vr e1;intro v' hv;have hax:=C.axp q3;cases hv with
     |iface _ hv=>
     cases hv with
     |@agg _ b2 hvs=>
     generalize hbl:b2.toList=bl at hvs;cases hvs with
     |cons h1 h2=>
     cases h2;have h3:=Uy D.pos hax e2 h1;simp only[Bool.false_eq_true,if_false] at h3;subst h3;have hb2:b2 = #[.int .i64 (Wp N t:Int)]:=by rw[←Array.toList_inj,hbl]
     subst hb2;exact hQ w' a' hk (Qg1 e3 q4.ds)
    |_=>cases run
theorem X8.round (D:X8 L b E N hd w1 w cs T eqc)(hL:N.L 0=l)(hT:N.TS 0=acc)(I:Nl L b E hd w1 acc l w a){body:Code}{fin:LFin}
  (run:∀ vt v F,Qsq L T.pos fin (Ji Tryz.prog (Ur b E N cs T eqc) 1000 body (locL L.n (known L)) (hOf (entries L b vt v F)) 384)=true) (hQ:LGoal L b E N hd w1 Q fin) (hm:L.mbox=none:=by rfl):body.wp Tryz.prog Q a w:=by
 have hLL:L.setM none=L:=by
  obtain⟨n,x1,x2,x3,x4,x5,x6,x7,x8,mb⟩:=L;obtain rfl:mb=none:=hm;rfl
 have key:∀ w',Ql3 L b w1 w w'→Zx b L.q w1 w':=fun w' hk=>⟨hk.os.trans I.keep.os,hk.tape.trans I.keep.tape,hk.output.trans I.keep.output,Nat.le_trans I.keep.size hk.size,fun k k1 k2 k3=>(hk.block k k1 k2 k3 (fun x hx=>by rw[hm] at hx;cases hx)).trans (I.keep.block k k1 k2 k3)⟩
 refine D.Ee hL hT I.toQch I.keep.size (m:=none) (fun y hy=>by cases hy) (fin:=fin) (by rw[hLL];exact run) ?_;unfold GGoal;rw[hLL];cases fin with
 |again j y=>exact fun w' a' hk hc=>hQ w' a' { hc with keep:=key w' hk }
 |exit id j y=>exact fun w' a' hk hc=>hQ w' a' { hc with keep:=key w' hk }
 |ret j y=>exact fun w' a' hk hc=>hQ w' a' { hc with keep:=key w' hk }
 |pan t=>exact fun w' a' hk hd=>hQ w' a' (key w' hk) hd
end
end Prs
end
section
open Go.RowKit
namespace Prs
open Ev
noncomputable def Ze (f:FuncId):Code:=(((Tryz.prog).funcs[f]?).bind (·.body)).getD .skip
noncomputable def V8:Code→Code
 | .block _ (.loop c)=>c
 |c=>c
theorem Qhz {b:Nat}{N:Va}{p:Xb}(hax:AxN b N p):VR p (.pointer (some ⟨64,0,none⟩)) (rp b):=by
 obtain⟨s0,a1,a2,a3,a4,a5⟩:=hax.rd
 have:=VR.ptr (o:=0) a1;rw[a2,a3] at this;exact this
theorem Qbr {b:Nat}{N:Va}{p:Xb}(hax:AxN b N p){u:Value}(h:VR p (.pointer (some ⟨64,0,none⟩)) u):u=rp b:=by
 obtain⟨s0,a1,a2,a3,a4,a5⟩:=hax.rd;cases h with
 |ptr hs=>
  rw[a1] at hs;cases hs;rw[a2,a3]
abbrev Tj:Sp:=.nd (.int .i64 0) (.string ⟨#[]⟩) (.int .u64 0) (.int .i64 0) []
abbrev Zy (t:Nat):Sp:=.ab (tk (256+4*t)) (tk (257+4*t)) (tk (258+4*t)) (tk (259+4*t)) (8*t+1)
def vsOf (v0 v1 v2 v3:Value):Nat→Value
 |0=>v0
 |1=>v1
 |2=>v2
 |_=>v3
theorem Qgk {v0 v1 v2 v3:Value}(o0:v0.oneCell'=true)(o1:v1.oneCell'=true)(o2:v2.oneCell'=true)(o3:v3.oneCell'=true):∀ i,(vsOf v0 v1 v2 v3 i).oneCell'=true
 |0=>o0
 |1=>o1
 |2=>o2
 |_+3=>o3
noncomputable def Qcc (b q qb:Nat)(v0 v1 v2 v3:Value):Ue where
 n:=16
 rowSlot:=1
 rowTy:=26
 cells:=5
 ix:=4
 q:=q
 vs:=vsOf v0 v1 v2 v3
 boxes:=[⟨0,.pointer (some ⟨64,0,none⟩),rp b,qb,51⟩]
 direct:=[]
theorem fixB {b q qb:Nat}{v0 v1 v2 v3:Value}{N:Va}{w1:World}(hq:b<q)(hb:b<w1.heap.size)(h1:qb≠b)(h2:qb≠q)(o0:v0.oneCell'=true)(o1:v1.oneCell'=true)(o2:v2.oneCell'=true)(o3:v3.oneCell'=true):LFix (Qcc b q qb v0 v1 v2 v3) b N w1 where
 bq:=hq
 bw:=hb
 cells:=Nat.le_refl 5
 ixl:=show 4<5 by decide
 nb:=show 1≤8 by decide
 boxb:=fun x hx=>by obtain rfl:=List.mem_singleton.1 hx;exact⟨h1,h2⟩
 inj:=List.pairwise_singleton _ _
 one:=fun i _=>Qgk o0 o1 o2 o3 i
 cell:=fun x hx p hax=>by obtain rfl:=List.mem_singleton.1 hx;exact Qhz hax
 dir:=fun x hx=>by cases hx
theorem Qhl {N:Va}{t:Nat}(ht:t<16):den N (Zy t)=N.T t:=by
 have key:∀ f v,J6 N t f=some v→f<4→Xi N (256+4*t+f)=some v:=fun f v hv hf=>by
  unfold Xi;rw[if_neg Dw,if_neg Dw,if_pos Dw,show (256+4*t+f-256) / 4=t by omega,show (256+4*t+f-256) % 4=f by omega];exact hv
 have h0:=key 0 _ rfl Dd;have h1:=key 1 _ rfl Dd;have h2:=key 2 _ rfl Dd;have h3:=key 3 _ rfl Dd;rw[show 256+4*t+0=256+4*t from rfl] at h0;rw[show 256+4*t+1=257+4*t by omega] at h1;rw[show 256+4*t+2=258+4*t by omega] at h2;rw[show 256+4*t+3=259+4*t by omega] at h3;have n0:Wp N (tk (256+4*t))=(N.T t).kind:=by
  show (match Xi N (256+4*t) with
   |some (.int _ i)=>i.toNat
   |_=>0)=_
  rw[h0];rfl
 have n1:strOf N (tk (257+4*t))=(N.T t).text:=by
  show (match Xi N (257+4*t) with
   |some (.string s)=>s.data.toList
   |_=>[])=_
  rw[h1]
 have n2:Wp N (tk (258+4*t))=(N.T t).num:=by
  show (match Xi N (258+4*t) with
   |some (.int _ i)=>i.toNat
   |_=>0)=_
  rw[h2];rfl
 have n3:Wp N (tk (259+4*t))=(N.T t).place:=by
  show (match Xi N (259+4*t) with
   |some (.int _ i)=>i.toNat
   |_=>0)=_
  rw[h3];rfl
 have n4:listOf N (8*t+1)=(N.T t).kids:=by
  unfold listOf;rw[if_pos Dw,show (8*t+1) / 8=t by omega]
 unfold den;rw[n0,n1,n2,n3,n4];cases N.T t;rfl
theorem app1 {len:Nat}{hd:Bool}{B:Nat}{ls:List (List Tok)}{t:Tr}{ts:List Tr}{acc:List Tr}{xs:List Int}(hacc:acc.length≤4294967296):Qcj (mkN len hd B ls (t::ts) [acc,acc++[tr0],acc++[t]] xs) [(0,Tj,1)]:=fun x hx=>by
 obtain rfl:=List.mem_singleton.1 hx;exact⟨rfl,hacc⟩
theorem Qfo {len:Nat}{hd:Bool}{B:Nat}{ls:List (List Tok)}{t:Tr}{ts:List Tr}{acc:List Tr}{xs:List Int}:Qht (mkN len hd B ls (t::ts) [acc,acc++[tr0],acc++[t]] xs) [(1,Zy 0,2)]:=fun x hx=>by
 obtain rfl:=List.mem_singleton.1 hx;exact⟨acc,tr0,rfl,by rw[Qhl Dd];rfl⟩
theorem Qlx {b q qb F0:Nat}{E:Env}{w1:World}{v0 v1 v2 v3:Value}(hq:b<q)(hb:b<w1.heap.size)(h1:qb≠b)(h2:qb≠q)(o0:v0.oneCell'=true)(o1:v1.oneCell'=true)(o2:v2.oneCell'=true)(o3:v3.oneCell'=true)(hF:F0≤4294967296)
  (hs:∀ g,g<F0→Reads b E false 26 #[rp b] (We E.len g false)) {Q:Exit→Act→World→Prop} {r:Except Nat (List Tr×List Tok)}
  (hQ:match r with
   | .ok (ts,l')=>∀ w' a',Nl (Qcc b q qb v0 v1 v2 v3) b E false w1 ts l' w' a'→Q (.exit 0) a' w'
   | .error p=>∀ w' a',Zx b q w1 w'→a'.defers=[]→Q (.panic [{ v:=Vw p,recovered:=false }]) a' w'):
  ∀ (f:Nat) (acc:List Tr) (l:List Tok) (w:World) (a:Act),acc.length+f≤F0→Ui E.len f acc l=some r→Nl (Qcc b q qb v0 v1 v2 v3) b E false w1 acc l w a→Vl Tryz.prog (V8 (Ze 70)) Q a w:=by
 intro f;induction f with
 |zero=>intro acc l w a _ h;rw[Ui] at h;cases h
 |succ f ih=>
  intro acc l w a hf h I;rw[Ui] at h;refine Zu ?_;have X:=fun N=>fixB (N:=N) hq hb h1 h2 o0 o1 o2 o3
  have cu:∀ (N:Va),∀ x∈(Qcc b q qb v0 v1 v2 v3).boxes,∀ p u,AxN b N p→VR p x.cell u→u=x.real:=fun N x hx p u hax hv=>by obtain rfl:=List.mem_singleton.1 hx;exact Qbr hax hv
  cases k1:isP wUc l with
  |true=>
   rw[k1,if_pos rfl] at h;cases h;have D:X8 (Qcc b q qb v0 v1 v2 v3) b E (mkN E.len false w1.heap.size [l,l.tail] [] [acc] []) false w1 w [Qx wUc 0 1 (tk 321)] ⟨[],[],[],[]⟩ []:=
    ⟨rfl,rfl,rfl,rfl,Qa (Qy k1 rfl _) Q7,fun _ hx=>(by cases hx),Ql,Qk,fun _ hx=>(by cases hx),Qj,X _,cu _,fun _ hx=>(by cases hx),fun _ hx=>(by cases hx)⟩
   exact D.round rfl rfl I (fin:=.exit 0 1 0) (fun _ _ _=>by kernel_rfl) hQ
  |false=>
   rw[k1,if_neg Dd] at h;cases k2:We E.len f false l with
   |none=>rw[k2] at h;cases h
   |some y=>
    rw[k2] at h;cases y with
    |error pl=>
     cases h;have D:X8 (Qcc b q qb v0 v1 v2 v3) b E (mkN E.len false w1.heap.size [l] [] [acc] [(pl:Int)]) false w1 w [Qc wUc 0 (tk 321),Xq 26 [] 0 2 (tk 321)] ⟨[],[],[],[322]⟩ []:=
      ⟨rfl,rfl,rfl,rfl,Qa (Qd k1 _) (Qa (Zf (hs f Dw) (.inr rfl) rfl Qv k2 Dd rfl) Q7),fun _ hx=>(by cases hx),Ql,Qk,fun _ hx=>(by cases hx),fun k hk=>(by obtain rfl:=List.mem_singleton.1 hk;exact⟨pl,rfl⟩),X _,cu _,fun _ hx=>(by cases hx),fun _ hx=>(by cases hx)⟩
     exact D.round rfl rfl I (fin:=.pan (tk 322)) (fun _ _ _=>by kernel_rfl) hQ
    |ok y=>
     obtain⟨t,m⟩:=y;dsimp only [andThen] at h;unfold Qdh at h;have go:∀ m2,((Xn m==5)=true∧m2=m.tail)∨((Xn m==5)=false∧isP wUc m=true∧m2=m)→Ui E.len f (acc++[t]) m2=some r→(V8 (Ze 70)).wp Tryz.prog (Exit.then (fun a w=>Vl Tryz.prog (V8 (Ze 70)) Q a w) Q) a w:=fun m2 hm2 hrest=>by
      have D:X8 (Qcc b q qb v0 v1 v2 v3) b E (mkN E.len false w1.heap.size [l,m,m2] [t] [acc,acc++[tr0],acc++[t]] []) false w1 w [Qc wUc 0 (tk 321),Qm 26 [] 0 1 (tk 256) 0 (tk 321),Qjd wUc 1 2 (tk 321)] ⟨[],[(0,Tj,1)],[(1,Zy 0,2)],[]⟩ []:=
       ⟨rfl,rfl,rfl,rfl,Qa (Qd k1 _) (Qa (Qs (hs f Dw) (.inr rfl) rfl Qv k2 (.inl rfl) Dd) (Qa (Qme hm2 _) Q7)),fun _ hx=>(by cases hx),app1 Dw,Qfo,fun _ hx=>(by cases hx),Qj,X _,cu _,fun _ hx=>(by cases hx),fun _ hx=>(by cases hx)⟩
      exact D.round rfl rfl I (fin:=.again 2 2) (fun _ _ _=>by kernel_rfl) fun w' a' I'=>ih (acc++[t]) m2 w' a' (by simp;omega) hrest I'
     cases k3:Xn m==5 with
     |true=>
      rw[k3,if_pos rfl] at h;exact go m.tail (.inl ⟨k3,rfl⟩) h
     |false=>
      rw[k3,if_neg Dd] at h;cases k4:isP wUc m with
      |true=>
       rw[k4,if_pos rfl] at h;exact go m (.inr ⟨k3,k4,rfl⟩) h
      |false=>
       rw[k4,if_neg Dd] at h;cases h;have D:X8 (Qcc b q qb v0 v1 v2 v3) b E (mkN E.len false w1.heap.size [l,m] [t] [acc,acc++[tr0],acc++[t]] []) false w1 w [Qc wUc 0 (tk 321),Qm 26 [] 0 1 (tk 256) 0 (tk 321),Qam wUc 1 (tk 321)] ⟨[],[(0,Tj,1)],[(1,Zy 0,2)],[]⟩ []:=
        ⟨rfl,rfl,rfl,rfl,Qa (Qd k1 _) (Qa (Qs (hs f Dw) (.inr rfl) rfl Qv k2 (.inl rfl) Dd) (Qa (Qct rfl Dd k3 k4 _) Q7)),fun _ hx=>(by cases hx),app1 Dw,Qfo,fun _ hx=>(by cases hx),Qj,X _,cu _,fun _ hx=>(by cases hx),fun _ hx=>(by cases hx)⟩
       exact D.round rfl rfl I (fin:=.pan (tk 136)) (fun _ _ _=>by kernel_rfl) hQ
theorem Zj (args:Array Value)(n k:Nat)(v:Value)(h:args[k]? = some v):(args++Array.replicate n undef).getD k undef=v:=by
 rw[Array.getD_eq_getD_getElem?,Array.getElem?_append_left (Array.getElem?_eq_some_iff.1 h).1,h];rfl
def Fb (L:Ue)(b:Nat)(E:Env)(hd:Bool)(r:Except Nat (List Tr×List Tok))(w1:World)(e:Ending)(w':World):Prop:=match r with
 | .ok (ts,l')=>e=.returned (.tuple #[])∧∃ a',Nl L b E hd w1 ts l' w' a'
 | .error p=>e=failed p∧Zx b L.q w1 w'
theorem Qnd {b q qb F0 f:Nat}{E:Env}{w:World}{v0 v1 v2 v3:Value}(hq:b<q)(h1:qb≠b)(h2:qb≠q)(o0:v0.oneCell'=true)(o1:v1.oneCell'=true)(o2:v2.oneCell'=true)(o3:v3.oneCell'=true)(hF:F0≤4294967296)(hf:f≤F0)
  (hs:∀ g,g<F0→Reads b E false 26 #[rp b] (We E.len g false)) {l:List Tok} {r:Except Nat (List Tr×List Tok)} (hr:Ui E.len f [] l=some r) (hrd:RdB b E w l false)
  (hrow:w.heap[q]? = some (.cells #[v0,v1,v2,v3,.slice none 0 0] 26 (0,0))) (hbox:w.heap[qb]? = some (.cells #[rp b] 51 (0,0))):
  Calls Tryz.prog 70 #[.pointer (some ⟨qb,0,none⟩),.pointer (some ⟨q,0,none⟩)] w (Fb (Qcc b q qb v0 v1 v2 v3) b E false r w):=by
 refine calls_of_wp (fn:=Tryz.f70) (c:=.block 0 (.loop (V8 (Ze 70)))) Dk Dk ?_;refine wp_block (Zr ?_);show Vl _ _ _ _ _
 have I:Nl (Qcc b q qb v0 v1 v2 v3) b E false w [] l w ⟨#[.pointer (some ⟨qb,0,none⟩),.pointer (some ⟨q,0,none⟩)]++Array.replicate 14 undef,[]⟩:={
  rd:=hrd
  row:=⟨.slice none 0 0,noF,(0,0),hrow,fun j _=>by simp,fun _=>rfl,⟨none,0,rfl,by simp,by decide,fun k hk=>absurd rfl hk,.inl ⟨rfl,rfl,rfl⟩⟩,fun k o hk=>(by cases hk),rfl,rfl,fun _ _=>rfl⟩
  box:=fun x hx=>by obtain rfl:=List.mem_singleton.1 hx;exact⟨(0,0),hbox,fun j _=>by simp⟩
  keep:=⟨rfl,rfl,rfl,Nat.le_refl _,fun _ _ _ _=>rfl⟩
  rowS:=Zj _ _ _ _ rfl
  boxS:=fun x hx=>by obtain rfl:=List.mem_singleton.1 hx;exact Zj _ _ _ _ rfl
  dirS:=fun x hx=>by cases hx
  n:=rfl
  ds:=rfl }
 refine Qlx (F0:=F0) hq hrd.lt h1 h2 o0 o1 o2 o3 hF hs (r:=r) ?_ f [] l w _ (by simpa using hf) hr I;cases r with
 |error p=>
  intro w' a' hk hd;obtain⟨tm,ds⟩:=a';obtain rfl:ds=[]:=hd;exact⟨rfl,rfl,hk⟩
 |ok y=>
  obtain⟨ts,l'⟩:=y;intro w' a' I';obtain⟨tm,ds⟩:=a';obtain rfl:ds=[]:=I'.ds;exact end_none (show Tryz.f70.results = #[] from rfl) ⟨rfl,_,I'⟩
theorem Xw {w:World}{q:Nat}{o:Obj}(h:w.heap[q]? = some o)(o':Obj):(w.alloc o').heap[q]? = some o:=(Below.heap_alloc w o' q (Array.getElem?_eq_some_iff.1 h).1).trans h
theorem Jh (w:World)(o o':Obj):((w.alloc o).alloc o').heap[w.heap.size+1]? = some o':=by
 have:=Qz (w.alloc o) o';rwa [World.size_alloc] at this
theorem Qc0 {W:World}{q:Nat}{v:Value}{t:TypeId}(h:W.heap[q]? = some (.cells #[v] t (0,0))):W.cell? ⟨q,0,none⟩=some v∧True:=by
 unfold World.cell?
 refine⟨?_,trivial⟩;dsimp only;rw[h];rfl
theorem Rt.node {B:Nat}{F:Nat→Option Obj}{v:Value}{ts:List Tr}{W:World}{S:Nat→Prop}(hG:Rt (B ≤ ·) ⟨0,0,0,0,v,F⟩ ts)(hF:∀ k o,F k=some o→W.heap[k]? = some o)(hS:∀ k,B≤k→S k)(k:Nat)(x:List UInt8)(n p:Nat):
  Zd S W (.mk k x n p ts) (.agg #[.int .i64 (k:Int),.string ⟨x.toArray⟩,.int .u64 (n:Int),.int .i64 (p:Int),v]):=by
 obtain⟨a,c,rfl,-,-,h4,h5⟩:=hG;refine⟨[_,_,_,_,_],rfl,?_⟩;unfold X3;refine⟨a,c,rfl,?_⟩;rcases h5 with ⟨-,h,-⟩|⟨g,o,bs,h6,h7,-,h8⟩
 ·exact .inl h
 ·exact .inr ⟨g,o,h6,hS g (h4 g (by rw[h7];simp)),Xp.weak (fun k hk=>hS k (h4 k hk.1)) (h8 W hF)⟩
theorem Rt.ones {S:Nat→Prop}{F:Nat→Option Obj}{v:Value}{ts:List Tr}{n0 n2 n3:Int}{n1:ByteArray}(hG:Rt S ⟨0,0,0,0,v,F⟩ ts):(#[.int .i64 n0,.string n1,.int .u64 n2,.int .i64 n3,v]:Array Value).all (·.oneCell')=true:=by
 obtain⟨a,c,h,-⟩:=hG;have h:v=.slice a ts.length c:=h;subst h;simp[Value.oneCell']
def Left (L:Ue)(b:Nat)(E:Env)(w3:World)(y:Except Nat (List Tr×List Tok))(w4:World)(l':List Tok):Prop:=∃ ts,y=.ok (ts,l')∧∃ wm am,w3.heap.size≤wm.heap.size∧Nl L b E false wm ts l' w4 am
theorem Uh {L:Ue}{b:Nat}{E:Env}{w1 w3:World}{y:Except Nat (List Tr×List Tok)}(h:w3.heap.size≤w1.heap.size)(e:Ending)(w':World)(hf:Fb L b E false y w1 e w'):Zx b L.q w1 w'∧((e=.returned (.tuple #[])∧∃ l',RdB b E w' l' false∧Left L b E w3 y w' l')∨∃ p,e=failed p∧y=.error p):=by
 cases y with
 |error p=>
  obtain⟨rfl,hk⟩:=hf;exact⟨hk,.inr ⟨p,rfl,rfl⟩⟩
 |ok y=>
  obtain⟨ts,l'⟩:=y;obtain⟨rfl,a',I⟩:=hf;exact⟨I.keep,.inl ⟨rfl,l',I.rd,ts,rfl,w1,a',h,I⟩⟩
theorem block_c {b F0 f:Nat}{E:Env}{hd:Bool}(hF:F0≤4294967296)(hf:f≤F0)(hs:∀ g,g<F0→Reads b E false 26 #[rp b] (We E.len g false)):Reads b E hd 45 #[rp b] (U6 E.len (f+1)):=by
 intro l w r h hr;have hb:=h.lt;have hnb:=Qz w (.cells #[rp b] 51);have HR:=Dh h;have HS:=Dh hs;rw[U6] at hr;unfold Ub at hr;cases h1:isP wCu l with
 |false=>
  have HW:=Dh fun w (h:RdB b E w l hd)=>Ai b E l hd w wCu h
  rw[h1,if_neg Dd] at hr;cases hr;rw[h1] at HW;clear h hs;go_enter Tryz.func45,Tryz.ntmps45
  go_wp2_with (go_at_call 68;refine(HW.out _ ((HR.out.new _).new _)).mono ?_;rintro e w2 ⟨hk,hr⟩;rw[if_neg Dd] at hr;obtain rfl:=hr)
  exact⟨rfl,((Qo.new _ _).trans (Qo.new _ _)).trans hk,rfl⟩
 |true=>
  have HW:=Dh fun w (h:RdB b E w l hd)=>Ai b E l hd w wCu h
  rw[h1,if_pos rfl] at hr;dsimp only [andThen,ok] at hr;rw[h1] at HW;cases h2:Ui E.len f [] l.tail with
  |none=>rw[h2] at hr;cases hr
  |some y=>
  rw[h2] at hr;have H2:=Dh h2;clear h hs;have HF:=Dh hF;have Hf:=Dh hf;cases y with
  |error pl=>
   cases hr;go_enter Tryz.func45,Tryz.ntmps45
   go_wp2_with (first|(go_at_call 68;refine(HW.out _ ((HR.out.new _).new _)).mono ?_;rintro e w2 ⟨hk,hr2⟩;rw[if_pos rfl] at hr2;obtain⟨rfl,hr2⟩:=hr2;have hr2:=Dh hr2;have hw2:=hk.row hb (Xw (Qz w (.cells #[rp b] 51)) (.cells Q3 26));have hw3:=Xw hw2 (.cells #[.int .i64 20,.string ⟨#[]⟩,.int .u64 0,.int .i64 (atP E.len l:Int),.slice none 0 0] 26);obtain⟨hbx,-⟩:=Qc0 hw3;have hs2:=Dh hk.size;have hk:=Dh hk;have hw2:=Dh hw2;have hw3:=Dh hw3)|(go_at_call 69;refine(Qbp b E l.tail hd _ (hr2.out.new _) w2.heap.size _ (Left (Qcc b w2.heap.size w.heap.size (.int .i64 20) (.string ⟨#[]⟩) (.int .u64 0) (.int .i64 (atP E.len l:Int))) b E (w2.alloc (.cells #[.int .i64 20,.string ⟨#[]⟩,.int .u64 0,.int .i64 (atP E.len l:Int),.slice none 0 0] 26)) (Except.error pl:Except Nat (List Tr×List Tok))) (fun p=>(Except.error pl:Except Nat (List Tr×List Tok))=.error p) (fun w1 g1 g2=>(Qnd (r:=(Except.error pl:Except Nat (List Tr×List Tok))) (by simp at hs2;have:=hs2.out;omega) Dw (by simp at hs2;have:=hs2.out;omega) rfl rfl rfl rfl HF.out Hf.out HS.out H2.out g1 (g2.row (by simp at hs2;have:=hs2.out;omega) (Qz w2 _)) (g2.row hb hw3.out)).mono (Uh g2.size))).mono ?_;rintro e w5 ⟨hk5,hq5⟩;rcases hq5 with ⟨-,l2,w4,-,⟨ts,h,-⟩,-⟩|⟨p,rfl,h⟩;cases h;cases h)|((with_reducible refine Hq rfl _ _ rfl rfl (v0:=.int .i64 20) (v1:=.string ⟨#[]⟩) (v2:=.int .u64 0) (v3:=.int .i64 (atP E.len l:Int)) (v4:=.slice none 0 0) ?hx ?hy rfl ?_);(case hx=>rfl);(case hy=>rfl);intro W1 hrw hB1;have hrw:=Dh hrw;have hB1:=Dh hB1))
   have hs2:=hs2.out;simp at hs2;exact⟨rfl,Zx.toR ((((Qo.new _ _).trans (Qo.new _ _)).trans hk.out).trans (Qo.new _ _)) hk5 Dw,rfl⟩
  |ok y=>
   obtain⟨ts,l2⟩:=y;cases hr;go_enter Tryz.func45,Tryz.ntmps45
   go_wp2_with (first|(go_at_call 68;refine(HW.out _ ((HR.out.new _).new _)).mono ?_;rintro e w2 ⟨hk,hr2⟩;rw[if_pos rfl] at hr2;obtain⟨rfl,hr2⟩:=hr2;have hr2:=Dh hr2;have hw2:=hk.row hb (Xw (Qz w (.cells #[rp b] 51)) (.cells Q3 26));have hw3:=Xw hw2 (.cells #[.int .i64 20,.string ⟨#[]⟩,.int .u64 0,.int .i64 (atP E.len l:Int),.slice none 0 0] 26);obtain⟨hbx,-⟩:=Qc0 hw3;have hs2:=Dh hk.size;have hk:=Dh hk;have hw2:=Dh hw2;have hw3:=Dh hw3)|(go_at_call 69;refine(Qbp b E l.tail hd _ (hr2.out.new _) w2.heap.size _ (Left (Qcc b w2.heap.size w.heap.size (.int .i64 20) (.string ⟨#[]⟩) (.int .u64 0) (.int .i64 (atP E.len l:Int))) b E (w2.alloc (.cells #[.int .i64 20,.string ⟨#[]⟩,.int .u64 0,.int .i64 (atP E.len l:Int),.slice none 0 0] 26)) (Except.ok (ts,l2):Except Nat (List Tr×List Tok))) (fun p=>(Except.ok (ts,l2):Except Nat (List Tr×List Tok))=.error p) (fun w1 g1 g2=>(Qnd (r:=(Except.ok (ts,l2):Except Nat (List Tr×List Tok))) (by simp at hs2;have:=hs2.out;omega) Dw (by simp at hs2;have:=hs2.out;omega) rfl rfl rfl rfl HF.out Hf.out HS.out H2.out g1 (g2.row (by simp at hs2;have:=hs2.out;omega) (Qz w2 _)) (g2.row hb hw3.out)).mono (Uh g2.size))).mono ?_;rintro e w5 ⟨hk5,hq5⟩;rcases hq5 with hq5|⟨p,-,h⟩;rotate_left;(cases h);obtain⟨rfl,l3,w4,hr5,⟨ts2,h,wm,am,hsz,I⟩,hk4⟩:=hq5;cases h;obtain⟨v,F,fr,hrow4,hfr,hfr0,hG,hF4,f1,f2,f3⟩:=I.row;obtain rfl:=hfr0 (show (5:Nat)≠1 by decide);have hrow5:w5.heap[w2.heap.size]? = some (.cells #[.int .i64 20,.string ⟨#[]⟩,.int .u64 0,.int .i64 (atP E.len l:Int),v] 26 (0,0)):=hk4.row (by simp at hs2;have:=hs2.out;omega) hrow4;have hrow5:=Dh hrow5;have hone:=Dh (hG.ones (n0:=20) (n1:=⟨#[]⟩) (n2:=0) (n3:=(atP E.len l:Int)));have hz2:=Dh (hk.out.row (q:=w.heap.size+1) Dw (Jh w (.cells #[rp b] 51) (.cells Q3 26)));have hz5:=Dh ((hk5.block (w.heap.size+1) (by simp at hs2 ⊢;have:=hs2.out;omega) Dw (by simp at hs2;have:=hs2.out;omega)).trans (Xw hz2.out (.cells #[.int .i64 20,.string ⟨#[]⟩,.int .u64 0,.int .i64 (atP E.len l:Int),.slice none 0 0] 26))))|((with_reducible refine Hq rfl _ _ rfl rfl (v0:=.int .i64 20) (v1:=.string ⟨#[]⟩) (v2:=.int .u64 0) (v3:=.int .i64 (atP E.len l:Int)) (v4:=.slice none 0 0) ?hx ?hy rfl ?_);(case hx=>rfl);(case hy=>rfl);intro W1 hrw hB1;have hrw:=Dh hrw;have hB1:=Dh hB1)|((with_reducible refine wpList_load_row rfl 26 _ rfl w2.heap.size ?hx 26 #[.int .i64 20,.string ⟨#[]⟩,.int .u64 0,.int .i64 (atP E.len l:Int),v] (0,0) _ ?hg Tryz.underlying26 ?hd (Xe _ rfl) ?_);(case hd=>rfl);(case hx=>rfl);(case hg=>exact hrow5.out))|((with_reducible refine wpList_store_rowTo rfl 26 _ _ rfl rfl (w.heap.size+1) #[.int .i64 20,.string ⟨#[]⟩,.int .u64 0,.int .i64 (atP E.len l:Int),v] ?hx ?hy 26 Q3 ?hg (Xe _ rfl) ?hs hone.out ?_);(case hx=>rfl);(case hy=>rfl);(case hs=>rfl);(case hg=>exact hz5.out)))
   have hs2:=hs2.out;simp at hs2;simp at hsz;have hlo:∀ k,F k≠none→w.heap.size+1<k:=fun k hk=>by
    obtain⟨_,_,-,-,-,h4,-⟩:=hG
    have:=h4 k hk;omega
   refine Dj (show Tryz.f45.results = #[.cell 2 26] from rfl) rfl (q:=w.heap.size+1) (by rfl) (setRow_heap _ (w.heap.size+1) Q3 _ 26 (0,0) hz5.out) ((Zx.toR ((((Qo.new _ _).trans (Qo.new _ _)).trans hk.out).trans (Qo.new _ _)) hk5 Dw).setRow (Nat.le_succ _) _) ?_ (hr5.setRow Dw _);refine Rt.node hG (fun k o hk=>?_) (fun k hk=>by omega) 20 [] 0 (atP E.len l);have hlt:=hlo k (by rw[hk];simp);exact(setRow_other _ _ _ _ Dw).trans ((hk4.block k (Array.getElem?_eq_some_iff.1 (hF4 k o hk)).1 Dw).trans (hF4 k o hk))
end Prs
end
end Go.Proofs.YtcbkeecabcbogaaGreatDoor
