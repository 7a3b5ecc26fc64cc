/- Loops that put trees into a list: the loop's head again, out of the evaluator. Loops that put trees into a list: one round, by the evaluator. Contract of what block's closure does: statements, put -/
import Derived.Test.YtcbkeecabcbogaaGreatDoorGar
set_option linter.unusedSimpArgs false
set_option linter.unusedVariables false
namespace Go.Proofs.YtcbkeecabcbogaaGreatDoor
open Go.RowKit
namespace Prs
open Ev
noncomputable def isListAt (h:Tree AObj)(d y:Nat):Bool:=match h.get d with
 |some (.abs m)=>Nat.beq m (8 * y+2)
 |some (.fwd e)=>(match h.get e with
  |some (.abs m)=>Nat.beq m (8 * y+2)
  |_=>false)
 |_=>false
noncomputable def chkBoxes (h:Tree AObj):Nat→List Box→Bool
 |_,[]=>true
 |i,x :: l=>(match h.get (16+i) with
  |some (.row [c] t 1)=>eqV 9 c x.cell&&Nat.beq t x.ty
  |_=>false)&&chkBoxes h (i+1) l
noncomputable def chkM (h:Tree AObj):Option Box→Bool
 |none=>true
 |some x=>(match h.get 80 with
  |some (.row [c] t 1)=>eqV 9 c x.cell&&Nat.beq t x.ty
  |_=>false)
theorem chkM_ok {h:Tree AObj}{x:Box}(e:chkM h (some x)=true):h.get 80=some (.row [x.cell] x.ty 1):=by
 unfold chkM at e
 dsimp only at e
 split at e
 ·rename_i c t hg
  rw[Bool.and_eq_true] at e
  rw[hg,eqV_ok e.1,Nat.eq_of_beq_eq_true e.2]
 ·cases e
def MOK (L:LSpec)(b:Nat)(N:SEnv)(m:Option Box):Prop:=∀ y,m=some y→∃ x,L.mbox=some x∧y.blk=x.blk∧∀ p u,AxN b N p→VR p y.cell u→u=y.real
abbrev LSpec.setM (L:LSpec)(m:Option Box):LSpec:={ L with mbox:=m }
noncomputable def chkRow (L:LSpec)(h:Tree AObj)(y:Nat):Bool:=match h.get 66 with
 |some (.row cells t sz)=>Nat.beq t L.rowTy&&(Nat.beq sz L.cells&&(match cells[L.ix]? with
  |some (.chan (some d))=>eqL (eqV 9) cells (rowCells L d)&&isListAt h d y
  |_=>false))
 |_=>false
noncomputable def chkSlots (s:Ev.Loc):List (Nat×Value)→Bool
 | []=>true
 |x :: l=>eqV 9 (s.rd x.1) x.2&&chkSlots s l
noncomputable def noDs (s:Ev.Loc):Bool:=match s.ds with
 | []=>true
 |_=>false
noncomputable def chkAgain (L:LSpec)(h:Tree AObj)(s:Ev.Loc)(j y:Nat):Bool:=chkRd h j (tk 321)&&(chkRow L h y&&(chkBoxes h 0 L.boxes&&(chkM h L.mbox&&(chkSlots s (known L)&&(Nat.beq s.n L.n&&noDs s)))))
theorem chkBoxes_ok {h:Tree AObj}:∀ {l:List Box} {i:Nat},chkBoxes h i l=true→∀ j x,l[j]? = some x→h.get (16+(i+j))=some (.row [x.cell] x.ty 1)
 | [],_,_,j,x,hx=>by simp at hx
 |y :: l,i,e,j,x,hx=>by
  unfold chkBoxes at e
  rw[Bool.and_eq_true] at e
  cases j with
  |zero=>
   simp at hx;subst hx
   have e:=e.1
   split at e
   ·rename_i c t hg
    rw[Bool.and_eq_true] at e
    rw[Nat.add_zero,hg,eqV_ok e.1,Nat.eq_of_beq_eq_true e.2]
   ·cases e
  |succ j=>
   have:=chkBoxes_ok e.2 j x (by simpa using hx)
   rwa [show i+1+j=i+(j+1) by omega] at this
theorem chkSlots_ok {s:Ev.Loc}:∀ {l:List (Nat×Value)},chkSlots s l=true→∀ x∈l,s.rd x.1=x.2
 | [],_,x,hx=>by cases hx
 |y :: l,e,x,hx=>by
  unfold chkSlots at e
  rw[Bool.and_eq_true] at e
  rcases List.mem_cons.1 hx with rfl|hx
  ·exact eqV_ok e.1
  ·exact chkSlots_ok e.2 x hx
section
variable {L:LSpec} {b:Nat} {E:Env} {N:SEnv} {hd:Bool} {w1 w w':World} {cs:List Call1} {T:OpT} {eqc:List (Nat×Value×Bool)} {acc:List Tr} {l:List Tok} {a a':Act} {K:Cfg} {O:Nat→Prop} {p':Plan} {h':Tree AObj}
theorem isListAt_ok (C:Ctx b E N K O w cs)(hr:Rel K O w p' h' w'){d y:Nat}(e:isListAt h' d y=true){v:Value}(hv:VR p' (tk d) v):∃ (n:Nat) (s:Spot),h'.get n=some (.abs (8 * y+2))∧p' n=some s∧s.val=v:=by
 unfold isListAt at e
 split at e
 ·rename_i m hg
  rw[Nat.eq_of_beq_eq_true e] at hg
  cases hv with
  |@tok _ s hs _=>exact⟨d,s,hg,hs,rfl⟩
 ·rename_i n hg
  split at e
  ·rename_i m hg2
   rw[Nat.eq_of_beq_eq_true e] at hg2
   cases hv with
   |@tok _ s hs _=>
    obtain⟨s2,k1,-,-,k4⟩:=hr.at_ _ _ hg
    obtain rfl:s2=s:=Option.some.inj (k1.symm.trans hs)
    obtain⟨s',q1,q2⟩:∃ s',p' n=some s'∧s2.val=s'.val:=k4
    exact⟨n,s',hg2,q1,q2.symm⟩
  ·cases e
 ·cases e
theorem chkRd_ok (C:Ctx b E N K O w cs)(hr:Rel K O w p' h' w'){j:Nat}(e:chkRd h' j (tk 321)=true)(hx:N.X 1 = .bool hd):RdB b E w' (N.L j) hd∧∃ c t z,h'.get 64=some (.row c t z):=by
 unfold chkRd at e
 split at e
 ·rename_i c hd' t h64
  simp only[Bool.and_eq_true] at e
  obtain⟨h3,h4,h5⟩:=e
  obtain rfl:=Nat.eq_of_beq_eq_true h3
  obtain rfl:=eqV_ok h4
  split at h5
  ·rename_i m hcm
   obtain rfl:=Nat.eq_of_beq_eq_true h5
   obtain⟨q',hq1,hq2⟩:=rd_open C hr h64 rfl hcm
   have:=(C.axp hr).val (show tokVal N 321=some (.bool hd) by rw[←hx];rfl) hq1
   cases this
   exact⟨hq2,_,_,_,h64⟩
  ·cases h5
 ·cases e
theorem ToldL.again (D:ToldL L b E N hd w1 w cs T eqc)(hsz:w1.heap.size≤w.heap.size){m:Option Box}(hm:MOK L b N m){vt v:Value}{F:Nat→Option Obj}(hFs:∀ k,F k≠none→w1.heap.size≤k)(C:Ctx b E N K (ownO b L F) w cs)(hap:Apart (entries L b vt v F))(hr:Rel K (ownO b L F) w p' h' w')(hle:(planL N (entries L b vt v F)).le p')
  {s':Ev.Loc} (hs:LocR p' s' a') {j y:Nat} (e:chkAgain (L.setM m) h' s' j y=true):LCore (L.setM m) b E hd w1 (N.TS y) (N.L j) w' a':=by
 have X:=D.fix
 unfold chkAgain at e
 simp only[Bool.and_eq_true] at e
 obtain⟨e1,e2,e3,e7,e4,e5,e6⟩:=e
 have e2:chkRow L h' y=true:=e2
 have e3:chkBoxes h' 0 L.boxes=true:=e3
 have e5:Nat.beq s'.n L.n=true:=e5
 have e7:chkM h' m=true:=e7
 obtain⟨hrd,c64,t64,z64,h64⟩:=chkRd_ok C hr e1 D.x1
 have hax:=C.axp hr
 have hat:=fun x hx=>hle _ _ (planL_mem (N:=N) hap x hx)
 have m66:(66,.row (rowCells L 67) L.rowTy L.cells,(⟨L.q,0,L.cells,L.cells,undef,noF⟩:Spot))∈entries L b vt v F:=by unfold entries;simp
 have m68:∀ i,i<L.cells→i≠L.ix→(68+i,.abs 7,(⟨0,0,0,0,L.vs i,noF⟩:Spot))∈entries L b vt v F:=fun i h1 h2=>by
  unfold entries
  simp only[List.mem_cons,List.mem_append]
  exact .inr (.inr (.inr (.inr (.inl (others_at h1 h2)))))
 have mmt:∀ x,L.mbox=some x→(80,.row [x.cell] x.ty 1,(⟨x.blk,0,1,1,undef,noF⟩:Spot))∈entries L b vt v F:=fun x hx=>by
  unfold entries
  simp only[List.mem_cons,List.mem_append]
  exact .inr (.inr (.inr (.inr (.inr (.inr (mtOf_at hx))))))
 have mbox:∀ j x,L.boxes[j]? = some x→boxOf (0+j) x∈entries L b vt v F:=fun j x hx=>by
  unfold entries
  simp only[List.mem_cons,List.mem_append]
  exact .inr (.inr (.inr (.inr (.inr (.inl (boxesFrom_at hx))))))
 have s66:=hat _ m66
 have hbox:=chkBoxes_ok e3
 have hslot:=chkSlots_ok e4
 have getS:∀ t v,s'.rd t=v→v ≠ .chan none→VR p' v (a'.tmps.getD t undef):=fun t v h1 h2=>by
  rcases hs.tm t with h|h
  ·rw[h1] at h;exact absurd h h2
  ·rw[h1] at h;exact h
 have mrow:∀ z,m=some z→∃ x,L.mbox=some x∧z.blk=x.blk∧(∀ p u,AxN b N p→VR p z.cell u→u=z.real)∧h'.get 80=some (.row [z.cell] z.ty 1)∧p' 80=some ⟨x.blk,0,1,1,undef,noF⟩:=fun z hz=>by
  obtain⟨x,x1,x2,x3⟩:=hm z hz
  rw[hz] at e7
  exact⟨x,x1,x2,x3,chkM_ok e7,hat _ (mmt x x1)⟩
 refine⟨hrd,?_,fun x hx => ?_,?_,fun x hx => ?_,fun x hx => ?_,?_,?_,fun z hz=>⟨?_,?_⟩⟩
 ·-- the row
  unfold chkRow at e2
  split at e2
  ·rename_i cells t sz h66
   simp only[Bool.and_eq_true] at e2
   obtain⟨r1,r2,r3⟩:=e2
   obtain rfl:=Nat.eq_of_beq_eq_true r1
   obtain rfl:=Nat.eq_of_beq_eq_true r2
   split at r3
   ·rename_i d hcd
    rw[Bool.and_eq_true] at r3
    obtain rfl:=eqL_ok (fun h=>eqV_ok h) r3.1
    obtain⟨bs,fr,q1,q2,q3,q4⟩:=row_out hr h66 s66 rfl (by rw[rowCells_length])
    have hbl:=q2.len
    rw[rowCells_length] at hbl
    obtain⟨v',g1,g2⟩:=q2.get L.ix (tk d) (by
     unfold rowCells
     rw[List.getElem?_map,List.getElem?_range X.ixl]
     simp)
    have hbs:bs=(rowReal L v').toArray:=by
     rw[←Array.toList_inj]
     apply List.ext_getElem?
     intro i
     rcases Nat.lt_or_ge i L.cells with hi|hi
     ·have e1:(rowCells L d)[i]? = some (if i=L.ix then tk d else tk (68+i)):=by
       unfold rowCells
       rw[List.getElem?_map,List.getElem?_range hi]
       rfl
      have e2:(rowReal L v')[i]? = some (if i=L.ix then v' else L.vs i):=by
       unfold rowReal
       rw[List.getElem?_map,List.getElem?_range hi]
       rfl
      show bs.toList[i]? = (rowReal L v')[i]?
      rw[e2]
      obtain⟨u,u1,u2⟩:=q2.get i _ e1
      rw[u1]
      by_cases hix:i=L.ix
      ·rw[if_pos hix]
       rw[hix] at u1
       rw[u1] at g1
       exact g1
      ·rw[if_neg hix] at u2 ⊢
       cases u2 with
       |tok k1 k2=>
        rw[hat _ (m68 i hi hix)] at k1
        cases k1
        rfl
     ·rw[List.getElem?_eq_none (by omega),List.getElem?_eq_none (by simp[rowReal_length];omega)]
    obtain⟨n,s,n1,n2,n3⟩:=isListAt_ok C hr r3.2 g2
    have hG:=C.listG hr n1 n2 (by omega)
    rw[show (8 * y+2) / 8=y by omega,D.s] at hG
    have hfoot:=Ctx.foot hr n1 n2
    have apart:∀ (k n2':Nat) (o:AObj) (s2:Spot),h'.get n2'=some o→p' n2'=some s2→(∀ m,o ≠ .abs m)→Occ o s2 k→s.foot k=none:=fun k n2' o s2 h1 h2 h3 h4=>by
     cases hf:s.foot k with
     |none=>rfl
     |some z=>
      exfalso
      have:=hr.one _ _ _ _ _ _ k n1 h1 n2 h2 (by show s.foot k≠none;rw[hf];simp) h4
      rw[←this,n1] at h1
      cases h1
      exact h3 _ rfl
    obtain⟨s0,a1,a2,-⟩:=hax.rd
    refine⟨v',s.foot,fr,by rw[show rowReal (L.setM m) v'=rowReal L v' from rfl,←hbs];exact q1,fun jj hjj=>q3 jj ?_,q4,?_,hfoot,?_,?_,fun x hx => ?_⟩
    ·rw[hbs];simpa [rowReal_length] using (show jj<L.cells+ext L.cells from hjj)
    ·obtain⟨ad,cp,l1,l2,l3,l4,l5⟩:=hG
     exact⟨ad,cp,by rw[←n3];exact l1,l2,l3,l4,l5⟩
    ·exact apart b _ _ _ h64 a1 (fun m hm=>by cases hm) a2.symm
    ·exact apart L.q _ _ _ h66 s66 (fun m hm=>by cases hm) rfl
    ·rcases List.mem_append.1 hx with hx|hx
     ·have hx:x∈L.boxes:=hx
      obtain⟨jx,hj1,hj2⟩:=List.getElem_of_mem hx
      have hj3:L.boxes[jx]? = some x:=by rw[List.getElem?_eq_getElem hj1,hj2]
      exact apart x.blk _ _ _ (hbox jx x hj3) (hat _ (mbox jx x hj3)) (fun m hm=>by cases hm) rfl
     ·have hx:x∈m.toList:=hx
      rw[Option.mem_toList] at hx
      obtain⟨x0,x1,x2,-,x4,x5⟩:=mrow x hx
      exact apart x.blk _ _ _ x4 x5 (fun m hm=>by cases hm) x2
   ·cases r3
  ·cases e2
 ·have hx:x∈L.boxes:=hx
  obtain⟨jx,hj1,hj2⟩:=List.getElem_of_mem hx
  have hj3:L.boxes[jx]? = some x:=by rw[List.getElem?_eq_getElem hj1,hj2]
  obtain⟨bs,fr,q1,q2,q3,-⟩:=row_out hr (hbox jx x hj3) (hat _ (mbox jx x hj3)) rfl rfl
  generalize hbl:bs.toList=bl at q2
  cases q2 with
  |cons k1 k2=>
   cases k2
   have hu:=D.cellU x hx p' _ hax k1
   subst hu
   have hbs:bs = #[x.real]:=by rw[←Array.toList_inj,hbl]
   subst hbs
   exact⟨fr,q1,fun jj hjj=>q3 jj (by simp[ext];omega)⟩
 ·have:=getS _ _ (hslot (L.rowSlot,.pointer (some ⟨66,0,none⟩)) (by unfold known;exact List.mem_cons_self ..)) (by simp)
  generalize a'.tmps.getD L.rowSlot undef=u at this
  cases this with
  |ptr k1=>
   rw[s66] at k1
   cases k1
   rfl
 ·have hx:x∈L.boxes:=hx
  obtain⟨jx,hj1,hj2⟩:=List.getElem_of_mem hx
  have hj3:L.boxes[jx]? = some x:=by rw[List.getElem?_eq_getElem hj1,hj2]
  have:=getS _ _ (hslot (x.slot,.pointer (some ⟨16+(0+jx),0,none⟩)) (by
   unfold known
   exact List.mem_cons_of_mem _ (List.mem_append_left _ (boxSlots_at hj3)))) (by simp)
  generalize a'.tmps.getD x.slot undef=u at this
  cases this with
  |ptr k1=>
   have h16:p' (16+(0+jx))=some ⟨x.blk,0,1,1,undef,noF⟩:=hat _ (mbox jx x hj3)
   rw[h16] at k1
   cases k1
   rfl
 ·have hx:x∈L.direct:=hx
  have h1:=hslot (x.1,x.2.1) (by
   unfold known
   exact List.mem_cons_of_mem _ (List.mem_append_right _ (List.mem_append_left _ (List.mem_map.2 ⟨x,hx,rfl⟩))))
  have:=hs.tm x.1
  rw[h1] at this
  rcases this with h|h
  ·exact absurd h (D.dirN x hx)
  ·exact D.dirU x hx p' _ hax h
 ·rw[hs.n]
  exact Nat.eq_of_beq_eq_true e5
 ·unfold noDs at e6
  have hds:=hs.ds
  cases hsd:s'.ds with
  |nil=>
   rw[hsd] at hds
   generalize a'.defers=ds at hds
   cases hds
   rfl
  |cons=>rw[hsd] at e6;cases e6
 ·obtain⟨x0,x1,x2,x3,x4,x5⟩:=mrow z hz
  obtain⟨bs,fr,q1,q2,q3,-⟩:=row_out hr x4 x5 rfl rfl
  generalize hbl:bs.toList=bl at q2
  cases q2 with
  |cons k1 k2=>
   cases k2
   have hu:=x3 p' _ hax k1
   subst hu
   have hbs:bs = #[z.real]:=by rw[←Array.toList_inj,hbl]
   subst hbs
   rw[x2]
   exact⟨fr,q1,fun jj hjj=>q3 jj (by simp[ext];omega)⟩
 ·obtain⟨x0,x1,x2,x3,x4,x5⟩:=mrow z hz
  have:=getS _ _ (hslot (z.slot,.pointer (some ⟨80,0,none⟩)) (by
   unfold known
   exact List.mem_cons_of_mem _ (List.mem_append_right _ (List.mem_append_right _ (mtSlots_at (L:=L.setM m) hz))))) (by simp)
  generalize a'.tmps.getD z.slot undef=u at this
  rw[x2]
  cases this with
  |ptr k1=>rw[x5] at k1;cases k1;rfl
end
end Prs
end Go.Proofs.YtcbkeecabcbogaaGreatDoor
namespace Go.Proofs.YtcbkeecabcbogaaGreatDoor
open Go.RowKit
namespace Prs
open Ev
inductive LFin where
 |again (j y:Nat)
 |exit (id j y:Nat)
 |ret (j y:Nat)
 |pan (t:Value)
noncomputable def finLOK (L:LSpec)(pos:List Nat)(fin:LFin)(r:Res AObj (XE×Ev.Loc)):Bool:=match r with
 | .ok x h _ _=>(match x.1 with
  | .normal=>(match fin with
   | .again j y=>chkAgain L h x.2 j y
   |_=>false)
  | .exit id=>(match fin with
   | .exit id' j y=>Nat.beq id id'&&chkAgain L h x.2 j y
   |_=>false)
  | .ret=>(match fin with
   | .ret j y=>chkAgain L h x.2 j y
   |_=>false)
  | .panic v _=>(match fin with
   | .pan t=>eqV 9 v (.iface 58 (.agg #[t]))&&(isNat pos false t&&noDs x.2)
   |_=>false))
 | .no=>false
section
variable {L:LSpec} {b:Nat} {E:Env} {N:SEnv} {hd:Bool} {w1 w:World} {cs:List Call1} {T:OpT} {eqc:List (Nat×Value×Bool)} {acc:List Tr} {l:List Tok} {a:Act} {Q:Exit→Act→World→Prop}
structure KeepL (L:LSpec)(b:Nat)(w1 w w':World):Prop where
 os:w'.os=w.os
 tape:w'.tape=w.tape
 output:w'.output=w.output
 size:w.heap.size≤w'.heap.size
 block:∀ k,k<w1.heap.size→k≠b→k≠L.q→(∀ x,L.mbox=some x→k≠x.blk)→w'.heap[k]? = w.heap[k]?
def GGoal (L:LSpec)(b:Nat)(E:Env)(N:SEnv)(hd:Bool)(w1 w:World)(m:Option Box)(Q:Exit→Act→World→Prop):LFin→Prop
 | .again j y=>∀ w' a',KeepL L b w1 w w'→LCore (L.setM m) b E hd w1 (N.TS y) (N.L j) w' a'→Q .normal a' w'
 | .exit id j y=>∀ w' a',KeepL L b w1 w w'→LCore (L.setM m) b E hd w1 (N.TS y) (N.L j) w' a'→Q (.exit id) a' w'
 | .ret j y=>∀ w' a',KeepL L b w1 w w'→LCore (L.setM m) b E hd w1 (N.TS y) (N.L j) w' a'→Q .ret a' w'
 | .pan t=>∀ w' a',KeepL L b w1 w w'→a'.defers=[]→Q (.panic [{ v:=faultV (natOf N t),recovered:=false }]) a' w'
def LGoal (L:LSpec)(b:Nat)(E:Env)(N:SEnv)(hd:Bool)(w1:World)(Q:Exit→Act→World→Prop):LFin→Prop
 | .again j y=>∀ w' a',LInv L b E hd w1 (N.TS y) (N.L j) w' a'→Q .normal a' w'
 | .exit id j y=>∀ w' a',LInv L b E hd w1 (N.TS y) (N.L j) w' a'→Q (.exit id) a' w'
 | .ret j y=>∀ w' a',LInv L b E hd w1 (N.TS y) (N.L j) w' a'→Q .ret a' w'
 | .pan t=>∀ w' a',KeepQ b L.q w1 w'→a'.defers=[]→Q (.panic [{ v:=faultV (natOf N t),recovered:=false }]) a' w'
theorem noDs_ok {p:Plan}{s:Ev.Loc}{ds:List Deferred}(h:noDs s=true)(hd:DRs p s.ds ds):ds=[]:=by
 unfold noDs at h
 cases hsd:s.ds with
 |nil=>rw[hsd] at hd;cases hd;rfl
 |cons=>rw[hsd] at h;cases h
theorem ToldL.roundG (D:ToldL L b E N hd w1 w cs T eqc)(hL:N.L 0=l)(hT:N.TS 0=acc)(I:LCore L b E hd w1 acc l w a)(hsz:w1.heap.size≤w.heap.size){m:Option Box}(hm:MOK L b N m){body:Code}{fin:LFin}
  (run:∀ vt v F,finLOK (L.setM m) T.pos fin (evCode Tryz.prog (mkCfg b E N cs T eqc) 1000 body (locL L.n (known L)) (hOf (entries L b vt v F)) 384)=true) (hQ:GGoal L b E N hd w1 w m Q fin):body.wp Tryz.prog Q a w:=by
 obtain⟨vt,v,F,hFs,hr,hs,C,hap,h128⟩:=D.start hL hT I hsz
 have run:=run vt v F
 cases hev:evCode Tryz.prog (mkCfg b E N cs T eqc) 1000 body (locL L.n (known L)) (hOf (entries L b vt v F)) 384 with
 |no=>rw[hev] at run;cases run
 |ok x h' c' lg=>
  rw[hev] at run
  have horc:OrcOK Tryz.prog (mkCfg b E N cs T eqc) (ownO b L F) w:=⟨orc_call C,orc_ops C rfl D.nxt D.app D.put D.pos,fun _ _ _ h=>by cases h⟩
  obtain⟨x,s'⟩:=x
  refine wp_of_wp2 ((all_ok follows' horc 1000).code body _ _ _ x s' h' c' lg (fun k h1 _ => ?_) hev _ w a Q hr hs (fun k h1 _=>planL_free h128 h1) fun p' w' a' q1 q2 q3 q4 => ?_)
  ·exact hOf_none fun e he=>by have:=h128 e he;omega
  ·have hk:KeepL L b w1 w w':=⟨q3.below.os,q3.below.tape,q3.below.output,q3.below.size,fun k k1 k2 k3 k4=>q3.below.block k (Nat.lt_of_lt_of_le k1 hsz) (by
    rintro(hh|hh|hh|⟨x,hx,hh⟩)
    ·exact k2 hh
    ·exact k3 hh
    ·have:=hFs k hh
     omega
    ·exact k4 x hx hh)⟩
   unfold finLOK at run
   dsimp only at run
   cases x with
   |normal=>
    cases fin with
    |again j y=>exact hQ w' a' hk (D.again hsz hm hFs C hap q3 q1 q4 run)
    |_=>cases run
   |exit id=>
    cases fin with
    |exit id' j y=>
     dsimp only at run
     rw[Bool.and_eq_true] at run
     obtain rfl:=Nat.eq_of_beq_eq_true run.1
     exact hQ w' a' hk (D.again hsz hm hFs C hap q3 q1 q4 run.2)
    |_=>cases run
   |ret=>
    cases fin with
    |ret j y=>exact hQ w' a' hk (D.again hsz hm hFs C hap q3 q1 q4 run)
    |_=>cases run
   |panic u ls=>
    cases fin with
    |pan t=>
     dsimp only at run
     rw[Bool.and_eq_true,Bool.and_eq_true] at run
     obtain⟨e1,e2,e3⟩:=run
     obtain rfl:=eqV_ok e1
     intro v' hv
     have hax:=C.axp q3
     cases hv with
     |iface _ hv=>
     cases hv with
     |@agg _ b2 hvs=>
     generalize hbl:b2.toList=bl at hvs
     cases hvs with
     |cons h1 h2=>
     cases h2
     have h3:=isNat_ok D.pos hax e2 h1
     simp only[Bool.false_eq_true,if_false] at h3
     subst h3
     have hb2:b2 = #[.int .i64 (natOf N t:Int)]:=by rw[←Array.toList_inj,hbl]
     subst hb2
     exact hQ w' a' hk (noDs_ok e3 q4.ds)
    |_=>cases run
theorem ToldL.round (D:ToldL L b E N hd w1 w cs T eqc)(hL:N.L 0=l)(hT:N.TS 0=acc)(I:LInv L b E hd w1 acc l w a){body:Code}{fin:LFin}
  (run:∀ vt v F,finLOK L T.pos fin (evCode Tryz.prog (mkCfg b E N cs T eqc) 1000 body (locL L.n (known L)) (hOf (entries L b vt v F)) 384)=true) (hQ:LGoal L b E N hd w1 Q fin) (hm:L.mbox=none:=by rfl):body.wp Tryz.prog Q a w:=by
 have hLL:L.setM none=L:=by
  obtain⟨n,x1,x2,x3,x4,x5,x6,x7,x8,mb⟩:=L
  obtain rfl:mb=none:=hm
  rfl
 have key:∀ w',KeepL L b w1 w w'→KeepQ b L.q w1 w':=fun w' hk=>⟨hk.os.trans I.keep.os,hk.tape.trans I.keep.tape,hk.output.trans I.keep.output,Nat.le_trans I.keep.size hk.size,fun k k1 k2 k3=>(hk.block k k1 k2 k3 (fun x hx=>by rw[hm] at hx;cases hx)).trans (I.keep.block k k1 k2 k3)⟩
 refine D.roundG hL hT I.toLCore I.keep.size (m:=none) (fun y hy=>by cases hy) (fin:=fin) (by rw[hLL];exact run) ?_
 unfold GGoal
 rw[hLL]
 cases fin with
 |again j y=>exact fun w' a' hk hc=>hQ w' a' { hc with keep:=key w' hk }
 |exit id j y=>exact fun w' a' hk hc=>hQ w' a' { hc with keep:=key w' hk }
 |ret j y=>exact fun w' a' hk hc=>hQ w' a' { hc with keep:=key w' hk }
 |pan t=>exact fun w' a' hk hd=>hQ w' a' (key w' hk) hd
end
end Prs
end Go.Proofs.YtcbkeecabcbogaaGreatDoor
namespace Go.Proofs.YtcbkeecabcbogaaGreatDoor
open Go.RowKit
namespace Prs
open Ev
noncomputable def bodyCode (f:FuncId):Code:=(((Tryz.prog).funcs[f]?).bind (·.body)).getD .skip
noncomputable def inLoop0:Code→Code
 | .block _ (.loop c)=>c
 |c=>c
theorem vr_rd {b:Nat}{N:SEnv}{p:Plan}(hax:AxN b N p):VR p (.pointer (some ⟨64,0,none⟩)) (rp b):=by
 obtain⟨s0,a1,a2,a3,a4,a5⟩:=hax.rd
 have:=VR.ptr (o:=0) a1
 rw[a2,a3] at this
 exact this
theorem vr_rdU {b:Nat}{N:SEnv}{p:Plan}(hax:AxN b N p){u:Value}(h:VR p (.pointer (some ⟨64,0,none⟩)) u):u=rp b:=by
 obtain⟨s0,a1,a2,a3,a4,a5⟩:=hax.rd
 cases h with
 |ptr hs=>
  rw[a1] at hs
  cases hs
  rw[a2,a3]
abbrev zeroSp:Sp := .nd (.int .i64 0) (.string ⟨#[]⟩) (.int .u64 0) (.int .i64 0) []
abbrev treeSp (t:Nat):Sp := .ab (tk (256+4 * t)) (tk (257+4 * t)) (tk (258+4 * t)) (tk (259+4 * t)) (8 * t+1)
def vsOf (v0 v1 v2 v3:Value):Nat→Value
 |0=>v0
 |1=>v1
 |2=>v2
 |_=>v3
theorem vsOf_one {v0 v1 v2 v3:Value}(o0:v0.oneCell'=true)(o1:v1.oneCell'=true)(o2:v2.oneCell'=true)(o3:v3.oneCell'=true):∀ i,(vsOf v0 v1 v2 v3 i).oneCell'=true
 |0=>o0
 |1=>o1
 |2=>o2
 |_+3=>o3
noncomputable def specB (b q qb:Nat)(v0 v1 v2 v3:Value):LSpec where
 n:=16
 rowSlot:=1
 rowTy:=26
 cells:=5
 ix:=4
 q:=q
 vs:=vsOf v0 v1 v2 v3
 boxes:=[⟨0,.pointer (some ⟨64,0,none⟩),rp b,qb,51⟩]
 direct:=[]
theorem fixB {b q qb:Nat}{v0 v1 v2 v3:Value}{N:SEnv}{w1:World}(hq:b<q)(hb:b<w1.heap.size)(h1:qb≠b)(h2:qb≠q)(o0:v0.oneCell'=true)(o1:v1.oneCell'=true)(o2:v2.oneCell'=true)(o3:v3.oneCell'=true):LFix (specB b q qb v0 v1 v2 v3) b N w1 where
 bq:=hq
 bw:=hb
 cells:=Nat.le_refl 5
 ixl:=show 4<5 by decide
 nb:=show 1≤8 by decide
 boxb:=fun x hx=>by obtain rfl:=List.mem_singleton.1 hx;exact⟨h1,h2⟩
 inj:=List.pairwise_singleton _ _
 one:=fun i _=>vsOf_one o0 o1 o2 o3 i
 cell:=fun x hx p hax=>by obtain rfl:=List.mem_singleton.1 hx;exact vr_rd hax
 dir:=fun x hx=>by cases hx
theorem den_tree {N:SEnv}{t:Nat}(ht:t<16):den N (treeSp t)=N.T t:=by
 have key:∀ f v,treeV N t f=some v→f<4→tokVal N (256+4 * t+f)=some v:=fun f v hv hf=>by
  unfold tokVal
  rw[if_neg (by omega),if_neg (by omega),if_pos (by omega),show (256+4 * t+f - 256) / 4=t by omega,show (256+4 * t+f - 256) % 4=f by omega]
  exact hv
 have h0:=key 0 _ rfl (by decide)
 have h1:=key 1 _ rfl (by decide)
 have h2:=key 2 _ rfl (by decide)
 have h3:=key 3 _ rfl (by decide)
 rw[show 256+4 * t+0=256+4 * t from rfl] at h0
 rw[show 256+4 * t+1=257+4 * t by omega] at h1
 rw[show 256+4 * t+2=258+4 * t by omega] at h2
 rw[show 256+4 * t+3=259+4 * t by omega] at h3
 have n0:natOf N (tk (256+4 * t))=(N.T t).kind:=by
  show (match tokVal N (256+4 * t) with
   |some (.int _ i)=>i.toNat
   |_=>0)=_
  rw[h0];rfl
 have n1:strOf N (tk (257+4 * t))=(N.T t).text:=by
  show (match tokVal N (257+4 * t) with
   |some (.string s)=>s.data.toList
   |_=>[])=_
  rw[h1]
 have n2:natOf N (tk (258+4 * t))=(N.T t).num:=by
  show (match tokVal N (258+4 * t) with
   |some (.int _ i)=>i.toNat
   |_=>0)=_
  rw[h2];rfl
 have n3:natOf N (tk (259+4 * t))=(N.T t).place:=by
  show (match tokVal N (259+4 * t) with
   |some (.int _ i)=>i.toNat
   |_=>0)=_
  rw[h3];rfl
 have n4:listOf N (8 * t+1)=(N.T t).kids:=by
  unfold listOf
  rw[if_pos (by omega),show (8 * t+1) / 8=t by omega]
 unfold den
 rw[n0,n1,n2,n3,n4]
 cases N.T t
 rfl
theorem app1 {len:Nat}{hd:Bool}{B:Nat}{ls:List (List Tok)}{t:Tr}{ts:List Tr}{acc:List Tr}{xs:List Int}(hacc:acc.length≤4294967296):AppOK (mkN len hd B ls (t :: ts) [acc,acc++[tr0],acc++[t]] xs) [(0,zeroSp,1)]:=fun x hx=>by
 obtain rfl:=List.mem_singleton.1 hx
 exact⟨rfl,hacc⟩
theorem put1 {len:Nat}{hd:Bool}{B:Nat}{ls:List (List Tok)}{t:Tr}{ts:List Tr}{acc:List Tr}{xs:List Int}:PutOK (mkN len hd B ls (t :: ts) [acc,acc++[tr0],acc++[t]] xs) [(1,treeSp 0,2)]:=fun x hx=>by
 obtain rfl:=List.mem_singleton.1 hx
 exact⟨acc,tr0,rfl,by rw[den_tree (by decide)];rfl⟩
set_option maxRecDepth 20000 in
theorem block1_loop {b q qb F0:Nat}{E:Env}{w1:World}{v0 v1 v2 v3:Value}(hq:b<q)(hb:b<w1.heap.size)(h1:qb≠b)(h2:qb≠q)(o0:v0.oneCell'=true)(o1:v1.oneCell'=true)(o2:v2.oneCell'=true)(o3:v3.oneCell'=true)(hF:F0≤4294967296)
  (hs:∀ g,g<F0→Reads b E false 26 #[rp b] (stmtP E.len g false)) {Q:Exit→Act→World→Prop} {r:Except Nat (List Tr×List Tok)}
  (hQ:match r with
   | .ok (ts,l')=>∀ w' a',LInv (specB b q qb v0 v1 v2 v3) b E false w1 ts l' w' a'→Q (.exit 0) a' w'
   | .error p=>∀ w' a',KeepQ b q w1 w'→a'.defers=[]→Q (.panic [{ v:=faultV p,recovered:=false }]) a' w'):
  ∀ (f:Nat) (acc:List Tr) (l:List Tok) (w:World) (a:Act),acc.length+f≤F0→blockLoop E.len f acc l=some r→LInv (specB b q qb v0 v1 v2 v3) b E false w1 acc l w a→LoopWp Tryz.prog (inLoop0 (bodyCode 70)) Q a w:=by
 intro f
 induction f with
 |zero=>intro acc l w a _ h;rw[blockLoop] at h;cases h
 |succ f ih=>
  intro acc l w a hf h I
  rw[blockLoop] at h
  refine loop_next ?_
  have X:=fun N=>fixB (N:=N) hq hb h1 h2 o0 o1 o2 o3
  have cu:∀ (N:SEnv),∀ x∈(specB b q qb v0 v1 v2 v3).boxes,∀ p u,AxN b N p→VR p x.cell u→u=x.real:=fun N x hx p u hax hv=>by obtain rfl:=List.mem_singleton.1 hx;exact vr_rdU hax hv
  cases k1:isP wUc l with
  |true=>
   rw[k1,if_pos rfl] at h
   cases h
   have D:ToldL (specB b q qb v0 v1 v2 v3) b E (mkN E.len false w1.heap.size [l,l.tail] [] [acc] []) false w1 w [evTake wUc 0 1 (tk 321)] ⟨[],[],[],[]⟩ []:=
    ⟨rfl,rfl,rfl,rfl,consC (take_s k1 rfl _) nilC,fun _ hx=>(by cases hx),noApp,noPut,fun _ hx=>(by cases hx),noPos,X _,cu _,fun _ hx=>(by cases hx),fun _ hx=>(by cases hx)⟩
   exact D.round rfl rfl I (fin := .exit 0 1 0) (fun _ _ _=>by kernel_rfl) hQ
  |false=>
   rw[k1,if_neg (by decide)] at h
   cases k2:stmtP E.len f false l with
   |none=>rw[k2] at h;cases h
   |some y=>
    rw[k2] at h
    cases y with
    |error pl=>
     cases h
     have D:ToldL (specB b q qb v0 v1 v2 v3) b E (mkN E.len false w1.heap.size [l] [] [acc] [(pl:Int)]) false w1 w [evMiss wUc 0 (tk 321),evBad 26 [] 0 2 (tk 321)] ⟨[],[],[],[322]⟩ []:=
      ⟨rfl,rfl,rfl,rfl,consC (miss_s k1 _) (consC (bad_s (hs f (by omega)) (.inr rfl) rfl ys_nil k2 (by decide) rfl) nilC),fun _ hx=>(by cases hx),noApp,noPut,fun _ hx=>(by cases hx),fun k hk=>(by obtain rfl:=List.mem_singleton.1 hk;exact⟨pl,rfl⟩),X _,cu _,fun _ hx=>(by cases hx),fun _ hx=>(by cases hx)⟩
     exact D.round rfl rfl I (fin := .pan (tk 322)) (fun _ _ _=>by kernel_rfl) hQ
    |ok y=>
     obtain⟨t,m⟩:=y
     dsimp only [andThen] at h
     unfold semiP at h
     have go:∀ m2,((kindP m==5)=true∧m2=m.tail)∨((kindP m==5)=false∧isP wUc m=true∧m2=m)→blockLoop E.len f (acc++[t]) m2=some r→(inLoop0 (bodyCode 70)).wp Tryz.prog (Exit.then (fun a w=>LoopWp Tryz.prog (inLoop0 (bodyCode 70)) Q a w) Q) a w:=fun m2 hm2 hrest=>by
      have D:ToldL (specB b q qb v0 v1 v2 v3) b E (mkN E.len false w1.heap.size [l,m,m2] [t] [acc,acc++[tr0],acc++[t]] []) false w1 w [evMiss wUc 0 (tk 321),evTree 26 [] 0 1 (tk 256) 0 (tk 321),evSemi wUc 1 2 (tk 321)] ⟨[],[(0,zeroSp,1)],[(1,treeSp 0,2)],[]⟩ []:=
       ⟨rfl,rfl,rfl,rfl,consC (miss_s k1 _) (consC (tree_s (hs f (by omega)) (.inr rfl) rfl ys_nil k2 (.inl rfl) (by decide)) (consC (semi_s hm2 _) nilC)),fun _ hx=>(by cases hx),app1 (by omega),put1,fun _ hx=>(by cases hx),noPos,X _,cu _,fun _ hx=>(by cases hx),fun _ hx=>(by cases hx)⟩
      exact D.round rfl rfl I (fin := .again 2 2) (fun _ _ _=>by kernel_rfl) fun w' a' I'=>ih (acc++[t]) m2 w' a' (by simp;omega) hrest I'
     cases k3:kindP m==5 with
     |true=>
      rw[k3,if_pos rfl] at h
      exact go m.tail (.inl ⟨k3,rfl⟩) h
     |false=>
      rw[k3,if_neg (by decide)] at h
      cases k4:isP wUc m with
      |true=>
       rw[k4,if_pos rfl] at h
       exact go m (.inr ⟨k3,k4,rfl⟩) h
      |false=>
       rw[k4,if_neg (by decide)] at h
       cases h
       have D:ToldL (specB b q qb v0 v1 v2 v3) b E (mkN E.len false w1.heap.size [l,m] [t] [acc,acc++[tr0],acc++[t]] []) false w1 w [evMiss wUc 0 (tk 321),evTree 26 [] 0 1 (tk 256) 0 (tk 321),evNoSemi wUc 1 (tk 321)] ⟨[],[(0,zeroSp,1)],[(1,treeSp 0,2)],[]⟩ []:=
        ⟨rfl,rfl,rfl,rfl,consC (miss_s k1 _) (consC (tree_s (hs f (by omega)) (.inr rfl) rfl ys_nil k2 (.inl rfl) (by decide)) (consC (nosemi_s rfl (by decide) k3 k4 _) nilC)),fun _ hx=>(by cases hx),app1 (by omega),put1,fun _ hx=>(by cases hx),noPos,X _,cu _,fun _ hx=>(by cases hx),fun _ hx=>(by cases hx)⟩
       exact D.round rfl rfl I (fin := .pan (tk 136)) (fun _ _ _=>by kernel_rfl) hQ
theorem getD_append_rep (args:Array Value)(n k:Nat)(v:Value)(h:args[k]? = some v):(args++Array.replicate n undef).getD k undef=v:=by
 rw[Array.getD_eq_getD_getElem?,Array.getElem?_append_left (Array.getElem?_eq_some_iff.1 h).1,h]
 rfl
def Fills (L:LSpec)(b:Nat)(E:Env)(hd:Bool)(r:Except Nat (List Tr×List Tok))(w1:World)(e:Ending)(w':World):Prop:=match r with
 | .ok (ts,l')=>e = .returned (.tuple #[])∧∃ a',LInv L b E hd w1 ts l' w' a'
 | .error p=>e=failed p∧KeepQ b L.q w1 w'
set_option maxRecDepth 20000 in
theorem block1_c {b q qb F0 f:Nat}{E:Env}{w:World}{v0 v1 v2 v3:Value}(hq:b<q)(h1:qb≠b)(h2:qb≠q)(o0:v0.oneCell'=true)(o1:v1.oneCell'=true)(o2:v2.oneCell'=true)(o3:v3.oneCell'=true)(hF:F0≤4294967296)(hf:f≤F0)
  (hs:∀ g,g<F0→Reads b E false 26 #[rp b] (stmtP E.len g false)) {l:List Tok} {r:Except Nat (List Tr×List Tok)} (hr:blockLoop E.len f [] l=some r) (hrd:RdB b E w l false)
  (hrow:w.heap[q]? = some (.cells #[v0,v1,v2,v3,.slice none 0 0] 26 (0,0))) (hbox:w.heap[qb]? = some (.cells #[rp b] 51 (0,0))):
  Calls Tryz.prog 70 #[.pointer (some ⟨qb,0,none⟩),.pointer (some ⟨q,0,none⟩)] w (Fills (specB b q qb v0 v1 v2 v3) b E false r w):=by
 refine calls_of_wp (fn:=Tryz.f70) (c := .block 0 (.loop (inLoop0 (bodyCode 70)))) (by kernel_rfl) (by kernel_rfl) ?_
 refine wp_block (wp_of_wp2 ?_)
 show LoopWp _ _ _ _ _
 have I:LInv (specB b q qb v0 v1 v2 v3) b E false w [] l w ⟨#[.pointer (some ⟨qb,0,none⟩),.pointer (some ⟨q,0,none⟩)]++Array.replicate 14 undef,[]⟩:={
  rd:=hrd
  row:=⟨.slice none 0 0,noF,(0,0),hrow,fun j _=>by simp,fun _=>rfl,⟨none,0,rfl,by simp,by decide,fun k hk=>absurd rfl hk,.inl ⟨rfl,rfl,rfl⟩⟩,fun k o hk=>(by cases hk),rfl,rfl,fun _ _=>rfl⟩
  box:=fun x hx=>by obtain rfl:=List.mem_singleton.1 hx;exact⟨(0,0),hbox,fun j _=>by simp⟩
  keep:=⟨rfl,rfl,rfl,Nat.le_refl _,fun _ _ _ _=>rfl⟩
  rowS:=getD_append_rep _ _ _ _ rfl
  boxS:=fun x hx=>by obtain rfl:=List.mem_singleton.1 hx;exact getD_append_rep _ _ _ _ rfl
  dirS:=fun x hx=>by cases hx
  n:=rfl
  ds:=rfl }
 refine block1_loop (F0:=F0) hq hrd.lt h1 h2 o0 o1 o2 o3 hF hs (r:=r) ?_ f [] l w _ (by simpa using hf) hr I
 cases r with
 |error p=>
  intro w' a' hk hd
  obtain⟨tm,ds⟩:=a'
  obtain rfl:ds=[]:=hd
  exact⟨rfl,rfl,hk⟩
 |ok y=>
  obtain⟨ts,l'⟩:=y
  intro w' a' I'
  obtain⟨tm,ds⟩:=a'
  obtain rfl:ds=[]:=I'.ds
  exact end_none (show Tryz.f70.results = #[] from rfl) ⟨rfl,_,I'⟩
theorem new_row2 {w:World}{q:Nat}{o:Obj}(h:w.heap[q]? = some o)(o':Obj):(w.alloc o').heap[q]? = some o:=(Below.heap_alloc w o' q (Array.getElem?_eq_some_iff.1 h).1).trans h
theorem new_block2 (w:World)(o o':Obj):((w.alloc o).alloc o').heap[w.heap.size+1]? = some o':=by
 have:=new_block (w.alloc o) o'
 rwa [World.size_alloc] at this
theorem box_fact {W:World}{q:Nat}{v:Value}{t:TypeId}(h:W.heap[q]? = some (.cells #[v] t (0,0))):W.cell? ⟨q,0,none⟩=some v∧True:=by
 unfold World.cell?
 refine⟨?_,trivial⟩
 dsimp only
 rw[h]
 rfl
theorem ListG.node {B:Nat}{F:Nat→Option Obj}{v:Value}{ts:List Tr}{W:World}{S:Nat→Prop}(hG:ListG (B ≤ ·) ⟨0,0,0,0,v,F⟩ ts)(hF:∀ k o,F k=some o→W.heap[k]? = some o)(hS:∀ k,B≤k→S k)(k:Nat)(x:List UInt8)(n p:Nat):
  NodeV S W (.mk k x n p ts) (.agg #[.int .i64 (k:Int),.string ⟨x.toArray⟩,.int .u64 (n:Int),.int .i64 (p:Int),v]):=by
 obtain⟨a,c,rfl,-,-,h4,h5⟩:=hG
 refine⟨[_,_,_,_,_],rfl,?_⟩
 unfold NodeC
 refine⟨a,c,rfl,?_⟩
 rcases h5 with ⟨-,h,-⟩|⟨g,o,bs,h6,h7,-,h8⟩
 ·exact .inl h
 ·exact .inr ⟨g,o,h6,hS g (h4 g (by rw[h7];simp)),NodeR.weak (fun k hk=>hS k (h4 k hk.1)) (h8 W hF)⟩
theorem ListG.ones {S:Nat→Prop}{F:Nat→Option Obj}{v:Value}{ts:List Tr}{n0 n2 n3:Int}{n1:ByteArray}(hG:ListG S ⟨0,0,0,0,v,F⟩ ts):(#[.int .i64 n0,.string n1,.int .u64 n2,.int .i64 n3,v]:Array Value).all (·.oneCell')=true:=by
 obtain⟨a,c,h,-⟩:=hG
 have h:v = .slice a ts.length c:=h
 subst h
 simp[Value.oneCell']
def Left (L:LSpec)(b:Nat)(E:Env)(w3:World)(y:Except Nat (List Tr×List Tok))(w4:World)(l':List Tok):Prop:=∃ ts,y = .ok (ts,l')∧∃ wm am,w3.heap.size≤wm.heap.size∧LInv L b E false wm ts l' w4 am
theorem fill_left {L:LSpec}{b:Nat}{E:Env}{w1 w3:World}{y:Except Nat (List Tr×List Tok)}(h:w3.heap.size≤w1.heap.size)(e:Ending)(w':World)(hf:Fills L b E false y w1 e w'):KeepQ b L.q w1 w'∧((e = .returned (.tuple #[])∧∃ l',RdB b E w' l' false∧Left L b E w3 y w' l')∨∃ p,e=failed p∧y = .error p):=by
 cases y with
 |error p=>
  obtain⟨rfl,hk⟩:=hf
  exact⟨hk,.inr ⟨p,rfl,rfl⟩⟩
 |ok y=>
  obtain⟨ts,l'⟩:=y
  obtain⟨rfl,a',I⟩:=hf
  exact⟨I.keep,.inl ⟨rfl,l',I.rd,ts,rfl,w1,a',h,I⟩⟩
set_option maxRecDepth 20000 in
theorem block_c {b F0 f:Nat}{E:Env}{hd:Bool}(hF:F0≤4294967296)(hf:f≤F0)(hs:∀ g,g<F0→Reads b E false 26 #[rp b] (stmtP E.len g false)):Reads b E hd 45 #[rp b] (blockP E.len (f+1)):=by
 intro l w r h hr
 have hb:=h.lt
 have hnb:=new_block w (.cells #[rp b] 51)
 have HR:=Lib.hid h
 have HS:=Lib.hid hs
 rw[blockP] at hr
 unfold wantP at hr
 cases h1:isP wCu l with
 |false=>
  have HW:=Lib.hid fun w (h:RdB b E w l hd)=>want_c b E l hd w wCu h
  rw[h1,if_neg (by decide)] at hr
  cases hr
  rw[h1] at HW
  clear h hs
  go_enter Tryz.func45, Tryz.ntmps45
  go_wp2_with (go_at_call 68;refine(HW.out _ ((HR.out.new _).new _)).mono ?_;rintro e w2 ⟨hk,hr⟩;rw[if_neg (by decide)] at hr;obtain rfl:=hr)
  exact⟨rfl,((KeepR.new _ _).trans (KeepR.new _ _)).trans hk,rfl⟩
 |true=>
  have HW:=Lib.hid fun w (h:RdB b E w l hd)=>want_c b E l hd w wCu h
  rw[h1,if_pos rfl] at hr
  dsimp only [andThen,ok] at hr
  rw[h1] at HW
  cases h2:blockLoop E.len f [] l.tail with
  |none=>rw[h2] at hr;cases hr
  |some y=>
  rw[h2] at hr
  have H2:=Lib.hid h2
  clear h hs
  have HF:=Lib.hid hF
  have Hf:=Lib.hid hf
  cases y with
  |error pl=>
   cases hr
   go_enter Tryz.func45, Tryz.ntmps45
   go_wp2_with (first|(go_at_call 68;refine(HW.out _ ((HR.out.new _).new _)).mono ?_;rintro e w2 ⟨hk,hr2⟩;rw[if_pos rfl] at hr2;obtain⟨rfl,hr2⟩:=hr2;have hr2:=Lib.hid hr2;have hw2:=hk.row hb (new_row2 (new_block w (.cells #[rp b] 51)) (.cells zero5 26));have hw3:=new_row2 hw2 (.cells #[.int .i64 20,.string ⟨#[]⟩,.int .u64 0,.int .i64 (atP E.len l:Int),.slice none 0 0] 26);obtain⟨hbx,-⟩:=box_fact hw3;have hs2:=Lib.hid hk.size;have hk:=Lib.hid hk;have hw2:=Lib.hid hw2;have hw3:=Lib.hid hw3)|(go_at_call 69;refine(within_block b E l.tail hd _ (hr2.out.new _) w2.heap.size _ (Left (specB b w2.heap.size w.heap.size (.int .i64 20) (.string ⟨#[]⟩) (.int .u64 0) (.int .i64 (atP E.len l:Int))) b E (w2.alloc (.cells #[.int .i64 20,.string ⟨#[]⟩,.int .u64 0,.int .i64 (atP E.len l:Int),.slice none 0 0] 26)) (Except.error pl:Except Nat (List Tr×List Tok))) (fun p=>(Except.error pl:Except Nat (List Tr×List Tok)) = .error p) (fun w1 g1 g2=>(block1_c (r:=(Except.error pl:Except Nat (List Tr×List Tok))) (by simp at hs2;have:=hs2.out;omega) (by omega) (by simp at hs2;have:=hs2.out;omega) rfl rfl rfl rfl HF.out Hf.out HS.out H2.out g1 (g2.row (by simp at hs2;have:=hs2.out;omega) (new_block w2 _)) (g2.row hb hw3.out)).mono (fill_left g2.size))).mono ?_;rintro e w5 ⟨hk5,hq5⟩;rcases hq5 with ⟨-,l2,w4,-,⟨ts,h,-⟩,-⟩|⟨p,rfl,h⟩;cases h;cases h)|((with_reducible refine st_new rfl _ _ rfl rfl (v0 := .int .i64 20) (v1 := .string ⟨#[]⟩) (v2 := .int .u64 0) (v3 := .int .i64 (atP E.len l:Int)) (v4 := .slice none 0 0) ?hx ?hy rfl ?_);(case hx=>rfl);(case hy=>rfl);intro W1 hrw hB1;have hrw:=Lib.hid hrw;have hB1:=Lib.hid hB1))
   have hs2:=hs2.out
   simp at hs2
   exact⟨rfl,KeepQ.toR ((((KeepR.new _ _).trans (KeepR.new _ _)).trans hk.out).trans (KeepR.new _ _)) hk5 (by omega),rfl⟩
  |ok y=>
   obtain⟨ts,l2⟩:=y
   cases hr
   go_enter Tryz.func45, Tryz.ntmps45
   go_wp2_with (first|(go_at_call 68;refine(HW.out _ ((HR.out.new _).new _)).mono ?_;rintro e w2 ⟨hk,hr2⟩;rw[if_pos rfl] at hr2;obtain⟨rfl,hr2⟩:=hr2;have hr2:=Lib.hid hr2;have hw2:=hk.row hb (new_row2 (new_block w (.cells #[rp b] 51)) (.cells zero5 26));have hw3:=new_row2 hw2 (.cells #[.int .i64 20,.string ⟨#[]⟩,.int .u64 0,.int .i64 (atP E.len l:Int),.slice none 0 0] 26);obtain⟨hbx,-⟩:=box_fact hw3;have hs2:=Lib.hid hk.size;have hk:=Lib.hid hk;have hw2:=Lib.hid hw2;have hw3:=Lib.hid hw3)|(go_at_call 69;refine(within_block b E l.tail hd _ (hr2.out.new _) w2.heap.size _ (Left (specB b w2.heap.size w.heap.size (.int .i64 20) (.string ⟨#[]⟩) (.int .u64 0) (.int .i64 (atP E.len l:Int))) b E (w2.alloc (.cells #[.int .i64 20,.string ⟨#[]⟩,.int .u64 0,.int .i64 (atP E.len l:Int),.slice none 0 0] 26)) (Except.ok (ts,l2):Except Nat (List Tr×List Tok))) (fun p=>(Except.ok (ts,l2):Except Nat (List Tr×List Tok)) = .error p) (fun w1 g1 g2=>(block1_c (r:=(Except.ok (ts,l2):Except Nat (List Tr×List Tok))) (by simp at hs2;have:=hs2.out;omega) (by omega) (by simp at hs2;have:=hs2.out;omega) rfl rfl rfl rfl HF.out Hf.out HS.out H2.out g1 (g2.row (by simp at hs2;have:=hs2.out;omega) (new_block w2 _)) (g2.row hb hw3.out)).mono (fill_left g2.size))).mono ?_;rintro e w5 ⟨hk5,hq5⟩;rcases hq5 with hq5|⟨p,-,h⟩;rotate_left;(cases h);obtain⟨rfl,l3,w4,hr5,⟨ts2,h,wm,am,hsz,I⟩,hk4⟩:=hq5;cases h;obtain⟨v,F,fr,hrow4,hfr,hfr0,hG,hF4,f1,f2,f3⟩:=I.row;obtain rfl:=hfr0 (show (5:Nat)≠1 by decide);have hrow5:w5.heap[w2.heap.size]? = some (.cells #[.int .i64 20,.string ⟨#[]⟩,.int .u64 0,.int .i64 (atP E.len l:Int),v] 26 (0,0)):=hk4.row (by simp at hs2;have:=hs2.out;omega) hrow4;have hrow5:=Lib.hid hrow5;have hone:=Lib.hid (hG.ones (n0:=20) (n1:=⟨#[]⟩) (n2:=0) (n3:=(atP E.len l:Int)));have hz2:=Lib.hid (hk.out.row (q:=w.heap.size+1) (by omega) (new_block2 w (.cells #[rp b] 51) (.cells zero5 26)));have hz5:=Lib.hid ((hk5.block (w.heap.size+1) (by simp at hs2 ⊢;have:=hs2.out;omega) (by omega) (by simp at hs2;have:=hs2.out;omega)).trans (new_row2 hz2.out (.cells #[.int .i64 20,.string ⟨#[]⟩,.int .u64 0,.int .i64 (atP E.len l:Int),.slice none 0 0] 26))))|((with_reducible refine st_new rfl _ _ rfl rfl (v0 := .int .i64 20) (v1 := .string ⟨#[]⟩) (v2 := .int .u64 0) (v3 := .int .i64 (atP E.len l:Int)) (v4 := .slice none 0 0) ?hx ?hy rfl ?_);(case hx=>rfl);(case hy=>rfl);intro W1 hrw hB1;have hrw:=Lib.hid hrw;have hB1:=Lib.hid hB1)|((with_reducible refine wpList_load_row rfl 26 _ rfl w2.heap.size ?hx 26 #[.int .i64 20,.string ⟨#[]⟩,.int .u64 0,.int .i64 (atP E.len l:Int),v] (0,0) _ ?hg Tryz.underlying26 ?hd (infoNode _ rfl) ?_);(case hd=>rfl);(case hx=>rfl);(case hg=>exact hrow5.out))|((with_reducible refine wpList_store_rowTo rfl 26 _ _ rfl rfl (w.heap.size+1) #[.int .i64 20,.string ⟨#[]⟩,.int .u64 0,.int .i64 (atP E.len l:Int),v] ?hx ?hy 26 zero5 ?hg (infoNode _ rfl) ?hs hone.out ?_);(case hx=>rfl);(case hy=>rfl);(case hs=>rfl);(case hg=>exact hz5.out)))
   have hs2:=hs2.out
   simp at hs2
   simp at hsz
   have hlo:∀ k,F k≠none→w.heap.size+1<k:=fun k hk=>by
    obtain⟨_,_,-,-,-,h4,-⟩:=hG
    have:=h4 k hk
    omega
   refine node_end (show Tryz.f45.results = #[.cell 2 26] from rfl) rfl (q:=w.heap.size+1) (by rfl) (setRow_heap _ (w.heap.size+1) zero5 _ 26 (0,0) hz5.out) ((KeepQ.toR ((((KeepR.new _ _).trans (KeepR.new _ _)).trans hk.out).trans (KeepR.new _ _)) hk5 (by omega)).setRow (Nat.le_succ _) _) ?_ (hr5.setRow (by omega) _)
   refine ListG.node hG (fun k o hk => ?_) (fun k hk=>by omega) 20 [] 0 (atP E.len l)
   have hlt:=hlo k (by rw[hk];simp)
   exact(setRow_other _ _ _ _ (by omega)).trans ((hk4.block k (Array.getElem?_eq_some_iff.1 (hF4 k o hk)).1 (by omega)).trans (hF4 k o hk))
end Prs
end Go.Proofs.YtcbkeecabcbogaaGreatDoor
