/- The evaluator's further operations, held against the model's -/
import Derived.Test.YtcbkeecabcbogaaGreatDoorSaa
import Derived.Test.YtcbkeecabcbogaaGreatDoorSad
import Derived.Calls
import Derived.Laws.Tables
import Derived.Laws.MakeOwn
import Derived.MapKept
import Derived.Lib.OthersKept
import Derived.Lib.ConvBytes
import Derived.Laws.RangeString
import Derived.Lib.AppendZeros
import Derived.Laws.IdiomCopy
import Derived.Laws.CopyRow
set_option linter.unusedSimpArgs false
set_option linter.unusedVariables false
namespace Go.Proofs.YtcbkeecabcbogaaGreatDoor
section
namespace Ev
open Go.RowKit
section
variable {P:Program} {K:Cfg} {base:Nat→Prop} {w0 w:World} {p:Xb} {h h':Tree Q4} {c c':Nat} {l:Log}
theorem Aw {p:Xb}{f:Value→Bool}(hf:∀ v v',f v=true→VR p v v'→v'=v):∀ {l m:List Value},l.all f=true→VRs p l m→m=l
 |_,_,_,.nil=>rfl
 |v::l,_,h,.cons (w:=w') (m:=m') k ks=>by
  simp only[List.all_cons,Bool.and_eq_true] at h;rw[hf v _ h.1 k,Aw hf h.2 ks]
theorem Gm {p:Xb}:∀ (n:Nat) (v v':Value),Tt n v=true→VR p v v'→v'=v
 |0,_,_,h,_=>by cases h
 |n+1,v,v',h,hv=>by
  have ih:=fun v v'=>Gm (p:=p) n v v'
  cases hv with
  |bool=>rfl
  |int=>rfl
  |tok=>cases h
  |string=>rfl
  |nilPtr=>rfl
  |ptr=>cases h
  |nilSlice=>rfl
  |slice=>cases h
  |sliceU=>cases h
  |sliceE=>cases h
  |nilMap=>rfl
  |map=>cases h
  |func=>cases h
  |nilFunc=>rfl
  |iface t k=>rw[ih _ _ h k]
  |nilIface=>rfl
  |agg k=>
   have:=Aw (ih) (l:=_) h k;congr 1
   exact Array.toList_inj.1 this
  |tuple k=>
   have:=Aw (ih) (l:=_) h k;congr 1
   exact Array.toList_inj.1 this
def Qnl (P:Program)(s:Sem Value):Option (Except Value Value):=match G5 P s with
 |some (.ok v)=>if Tt 9 v then some (.ok v) else none
 |some (.error v)=>if Tt 9 v then some (.error v) else none
 |none=>none
theorem xPure_ok {s:Sem Value}{v:Value}(e:Qnl P s=some (.ok v))(hr:Rel K base w0 p h w):Gives P K base w0 p w c c h VR s v:=by
 unfold Qnl at e;split at e
 ·rename_i u hu;split at e
  ·rename_i hp;cases e;exact Gives.quiet hr (Qdo s hu w) (Gl 9 _ hp)
  ·cases e
 ·split at e <;> cases e
 ·cases e
theorem Qjt {s:Sem Value}{v:Value}(e:Qnl P s=some (.error v)):s.run P w=.halt (.panic v) w∧VR p v v:=by
 unfold Qnl at e;split at e
 ·split at e <;> cases e
 ·rename_i u hu;split at e
  ·rename_i hp;cases e;exact⟨Nu s hu w,Gl 9 _ hp⟩
  ·cases e
 ·cases e
def Qdt:Option Value→Option (Option Int)
 |none=>some none
 |some (.int _ i)=>some (some i)
 |_=>none
def Qbm (len cap:Nat)(low high max:Option Value):Option (Nat×Nat×Nat):=
 match Qdt low,Qdt high,Qdt max with
 |some lo,some hi,some mx=>
  let m:=(mx.getD cap).toNat
  let hh:=(hi.getD len).toNat
  let ll:=(lo.getD 0).toNat
  if (0:Int)≤mx.getD 0∧(0:Int)≤hi.getD 0∧(0:Int)≤lo.getD 0∧ll≤hh∧hh≤m∧m≤cap∧(mx.isSome=true→hi.isSome=true) then some (ll,hh,m) else none
 |_,_,_=>none
theorem Ny {o:Option Value}{r:Option Int}(e:Qdt o=some r):(o=none∧r=none)∨∃ k i,o=some (.int k i)∧r=some i:=by
 unfold Qdt at e;split at e
 ·cases e;exact .inl ⟨rfl,rfl⟩
 ·cases e;exact .inr ⟨_,_,rfl,rfl⟩
 ·cases e
theorem run_sliceBound {k:IntKind}{i:Int}{y:Nat}{code:BoundsCode}(h0:0≤i)(h1:i.toNat≤y)(w:World):(Instr.sliceBound (.int k i) y code).run P w=.ok i.toNat w:=by
 unfold Instr.sliceBound;simp only[asIntOf,Sem.run_bind,Sem.run_pure,Result.andThen_ok];rw[if_pos Dw];rfl
theorem Qfm {isS:Bool}{len cap:Nat}{low high max:Option Value}{l' h' m':Nat}(e:Qbm len cap low high max=some (l',h',m'))(w:World):
  (Instr.sliceBounds isS len cap low high max).run P w=.ok (l',h',m') w∧l'≤h'∧h'≤m'∧m'≤cap:=by
 unfold Qbm at e;split at e
 ·rename_i lo hi mx e1 e2 e3;dsimp only at e;split at e
  ·rename_i hc;obtain⟨c1,c2,c3,c4,c5,c6,c7⟩:=hc;simp only[Option.some.injEq,Prod.mk.injEq] at e;obtain⟨rfl,rfl,rfl⟩:=e;refine⟨?_,c4,c5,c6⟩;rcases Ny e1 with ⟨rfl,rfl⟩|⟨k1,i1,rfl,rfl⟩ <;> rcases Ny e2 with ⟨rfl,rfl⟩|⟨k2,i2,rfl,rfl⟩ <;> rcases Ny e3 with ⟨rfl,rfl⟩|⟨k3,i3,rfl,rfl⟩ <;>
    simp only[Option.getD_none,Option.getD_some,Option.isSome_none,Option.isSome_some,Int.toNat_natCast,Int.toNat_zero] at c1 c2 c3 c4 c5 c6 c7 ⊢ <;>
    first
     |(exfalso;revert c7;simp;done)
     |(simp[Instr.sliceBounds,run_sliceBound,c1,c2,c3,c4,c5,c6];done)
     |skip
  ·cases e
 ·cases e
def xStr (P:Program)(t:TypeId)(v:Value)(lo hi mx:Option Value):Option Value:=match v with
 | .string s=>match mx with
  |none=>match P.underlying t with
   |some .string=>match Qbm s.data.toList.length s.data.toList.length lo hi none with
    |some (l,h,_)=>some (.string ⟨((s.data.toList.drop l).take (h-l)).toArray⟩)
    |none=>none
   |_=>none
  |some _=>none
 |_=>none
theorem Qhg (s:ByteArray)(a b:Nat):s.extract a b=⟨((s.data.toList.drop a).take (b-a)).toArray⟩:=by
 have:(s.extract a b).data.toList=(s.data.toList.drop a).take (b-a):=by
  simp[ByteArray.data_extract,List.extract_eq_take_drop]
 rw[←this]
theorem Qp5 {t:TypeId}{v r:Value}{lo hi mx:Option Value}(e:xStr P t v lo hi mx=some r)(w:World):(Instr.sliceAt t v lo hi mx).run P w=.ok r w∧Tt 9 r=true:=by
 unfold xStr at e;split at e
 ·rename_i s;split at e
  ·split at e
   ·rename_i hu;split at e
    ·rename_i l h m hb;cases e;refine⟨?_,rfl⟩;have hb':Qbm s.size s.size lo hi none=some (l,h,m):=hb;rw[run_sliceAt_string (h:=hu)];unfold Instr.slice;simp only[Sem.run_bind,run_underlying hu w,Result.andThen_ok,Option.isSome_none];rw[if_neg Dd];simp only[Sem.run_bind,Result.andThen_ok,(Qfm (P:=P) (isS:=false) hb' w).1,Qhg];rfl
    ·cases e
   ·cases e
  ·cases e
 ·cases e
noncomputable def Qp8 (P:Program)(t:TypeId)(v:Value)(lo hi mx:Option Value):M Q4 Value:=M.fail
theorem Qp7 {t:TypeId}{v v' r:Value}{lo hi mx:Option Value}(e:Qp8 P t v lo hi mx h c=.ok r h' c' l)(hv:VR p v v')(hr:Rel K base w0 p h w):Gives P K base w0 p w c c' h' VR (Instr.sliceAt t v' lo hi mx) r:=by
 unfold Qp8 at e;cases e
end
end Ev
end
section
namespace Ev
open Go.RowKit
section
variable {P:Program} {K:Cfg} {base:Nat→Prop} {w0 w:World} {p:Xb} {h h':Tree Q4} {c c':Nat} {l:Log}
theorem Qb1 (off:Nat):∀ (l:List Value) (s:Nat) (cs:Array Value),
  ((l.zipIdx s).foldl (fun cs (x:Value×Nat)=>cs.setIfInBounds (off+x.2) x.1) cs).toList=Yu cs.toList (off+s) l
 | [],s,cs=>rfl
 |v::l,s,cs=>by
  simp only[List.zipIdx_cons,List.foldl_cons];rw[Qb1 off l (s+1),Yu,Array.toList_setIfInBounds,Nat.add_assoc]
theorem Qfn:∀ {vs vs':List Value},VRs p vs vs'→∀ {cs cs':List Value} (o:Nat),VRs p cs cs'→VRs p (Yu cs o vs) (Yu cs' o vs')
 |_,_,.nil,_,_,_,h=>h
 |_,_,.cons a b,_,_,o,h=>Qfn b (o+1) (h.set o a)
def Qno (place:Nat→Option (Nat×Nat)):List Value→List (Nat×Value)→Option (List Value)
 |cs,[]=>some cs
 |cs,(i,v)::l=>match place i with
  |none=>none
  |some (off,size)=>if v.cells.toList.length=size∧off+v.cells.toList.length≤cs.length then Qno place (Yu cs off v.cells.toList) l else none
inductive PR (p:Xb):List (Nat×Value)→List (Nat×Value)→Prop where
 |nil:PR p [] []
 |cons {i:Nat} {v w:Value} {l m:List (Nat×Value)}:VR p v w→PR p l m→PR p ((i,v)::l) ((i,w)::m)
theorem Qck (place:Nat→Option (Nat×Nat)):∀ {ps ps':List (Nat×Value)},PR p ps ps'→∀ {cs:List Value} {cs':Array Value} {r:List Value},Qno place cs ps=some r→VRs p cs cs'.toList→
  ∃ r',Instr.fill place cs' ps'=some r'∧VRs p r r'.toList
 |_,_,.nil,cs,cs',r,e,hc=>by cases e;exact⟨cs',rfl,hc⟩
 |_,_,.cons (i:=i) (v:=v) (w:=w) hv ht,cs,cs',r,e,hc=>by
  unfold Qno at e;unfold Instr.fill;cases hp:place i with
  |none=>rw[hp] at e;cases e
  |some x=>
   obtain⟨off,size⟩:=x;rw[hp] at e;dsimp only at e ⊢;split at e
   ·rename_i hb;obtain⟨hb1,hb2⟩:=hb;have hvc:=Lr hv;have hl:=hvc.len;have hl2:=hc.len;simp only[Array.length_toList] at hl hl2 hb1 hb2;rw[if_neg (by simp;omega)];refine Qck place ht e ?_;rw[←Array.foldl_toList,Array.toList_zipIdx,Qb1 off];exact Qfn hvc _ hc
   ·cases e
def placesOf (P:Program):List Field→Option (List (Nat×Nat))
 | []=>some []
 |f::fs=>match P.info? f.type,placesOf P fs with
  |some i,some l=>some ((f.offset,i.size)::l)
  |_,_=>none
theorem Qdr:∀ fs:List Field,fs.mapM (fun f=>(P.info? f.type).map fun i=>(f.offset,i.size))=placesOf P fs
 | []=>rfl
 |f::fs=>by
  rw[List.mapM_cons,Qdr fs,placesOf];cases P.info? f.type <;> cases placesOf P fs <;> rfl
def Qqj (P:Program)(t:TypeId)(parts:List (Nat×Value)):Option Value:=match Qny P t with
 |some i=>match i.u with
  | .struct fs=>match placesOf P fs.toList with
   |some pl=>(Qno (fun k=>pl[k]?) i.zero.cells.toList parts).map fun cs => .agg cs.toArray
   |none=>none
  | .array _ e=>match P.info? e with
   |some ie=>(Qno (fun k=>some (k*ie.size,ie.size)) i.zero.cells.toList parts).map fun cs => .agg cs.toArray
   |none=>none
  |_=>none
 |none=>none
theorem Qqi {t:TypeId}{parts:List (Nat×Value)}{parts':Array (Nat×Value)}{r:Value}(e:Qqj P t parts=some r)(hv:PR p parts parts'.toList):Qbn P p (Instr.build t parts') VR r:=by
 intro w;unfold Qqj at e;cases hi:Qny P t with
 |none=>rw[hi] at e;cases e
 |some i=>
  rw[hi] at e;have ht:=Fh hi;obtain⟨f,hf1,hf2,hf3,hf4⟩:=ht.info;have hz:VRs p i.zero.cells.toList i.zero.cells.toList:=Lr (Gl 9 _ ht.plain);dsimp only at e;have hu:=ht.u;cases hd:i.u with
  |struct fs=>
   rw[hd] at e hu;dsimp only at e;cases hp:placesOf P fs.toList with
   |none=>rw[hp] at e;cases e
   |some pl=>
    rw[hp] at e;obtain⟨cs,e1,rfl⟩:=Option.map_eq_some_iff.1 e;obtain⟨r',h1,h2⟩:=Qck _ hv e1 hz;refine⟨.agg r',run_build w t parts' r' ?_,.agg (by simpa using h2)⟩;unfold Program.built;rw[hf1,hu];dsimp only;rw[hf4,Qdr,hp];dsimp only;rw[←h1];congr 1
    funext k
    exact List.getElem?_toArray
  |array n el=>
   rw[hd] at e hu;dsimp only at e;cases hp:P.info? el with
   |none=>rw[hp] at e;cases e
   |some ie=>
    rw[hp] at e;obtain⟨cs,e1,rfl⟩:=Option.map_eq_some_iff.1 e;obtain⟨r',h1,h2⟩:=Qck _ hv e1 hz;refine⟨.agg r',run_build w t parts' r' ?_,.agg (by simpa using h2)⟩;unfold Program.built;rw[hf1,hu];dsimp only;rw[hf4,hp];exact h1
  |_=>rw[hd] at e;cases e
def Qq3 (z:List Value)(n:Nat):List Value:=(List.range n).map fun k=>(z[k % z.length]?).getD .nilIface
theorem Qq2 {z:List Value}{z':Array Value}(hz:VRs p z z'.toList){n:Nat}(hn:n=0∨0<z.length):VRs p (Qq3 z n) (madeCells z' n).toList:=by
 have hl:=hz.len;simp only[Array.length_toList] at hl;have key:∀ l:List Nat,(0<z.length)→VRs p (l.map fun k=>(z[k % z.length]?).getD .nilIface) (l.map (z'[· % z'.size]!)):=by
  intro l h0;induction l with
  |nil=>exact .nil
  |cons k l ih=>
   refine .cons ?_ ih;have hk:k % z.length<z.length:=Nat.mod_lt _ h0;obtain⟨y,h1,h2⟩:=hz.get (k % z.length) z[k % z.length] (List.getElem?_eq_getElem hk);show VR p ((z[k % z.length]?).getD .nilIface) (z'[k % z'.size]!)
   rw[List.getElem?_eq_getElem hk,Option.getD_some];have h3:z'[k % z'.size]! = y:=by
    rw[←hl,getElem!_def];have:z'[k % z.length]? = some y:=by simpa using h1
    rw[this]
   rw[h3];exact h2
 unfold Qq3 madeCells;rcases hn with rfl|h0
 ·simpa using VRs.nil
 ·have:=key (List.range n) h0;simpa using this
noncomputable def Qa1 (P:Program)(t:TypeId)(lv cv:Value):M Q4 Value:=M.fail
theorem Qf9 {t:TypeId}{lv lv' cv cv' r:Value}(e:Qa1 P t lv cv h c=.ok r h' c' l)(hl:VR p lv lv')(hc:VR p cv cv')(hr:Rel K base w0 p h w)(hf:Free p c c'):Gives P K base w0 p w c c' h' VR (Instr.makeSlice t lv' cv') r:=by
 unfold Qa1 at e;cases e
noncomputable def Gx (P:Program)(t:TypeId)(len:Nat)(parts:List (Nat×Value)):M Q4 Value:=match P.underlying t with
 |some (.slice e)=>M.bind (Gn (Qny P e)) fun i=>
  if len*i.size≤16777216∧len≤maxLen then
   M.bind (Gn (Qno (fun k=>some (k*i.size,i.size)) (Qq3 i.zero.cells.toList (len*i.size)) parts)) fun cs=>
   M.bind (Qbd cs e i.size) fun x=>M.pure (.slice (some ⟨x,0,none⟩) len len)
  else M.fail
 |_=>M.fail
theorem Qe3 {t:TypeId}{len:Nat}{parts:List (Nat×Value)}{parts':Array (Nat×Value)}{r:Value}(e:Gx P t len parts h c=.ok r h' c' l)(hv:PR p parts parts'.toList)(hr:Rel K base w0 p h w)(hf:Free p c c'):Gives P K base w0 p w c c' h' VR (Instr.buildSlice t len parts') r:=by
 unfold Gx at e;cases hu:P.underlying t with
 |none=>rw[hu] at e;cases e
 |some d=>
  rw[hu] at e;cases d with
  |slice el=>
   dsimp only at e;obtain⟨i,h1,c1,l1,l2,e1,e2⟩:=Qr e;obtain⟨e3,rfl,rfl⟩:=Ku e1;have ht:=Fh e3;obtain⟨f,hf1,hf2,hf3,hf4⟩:=ht.info;split at e2
   ·rename_i hb;obtain⟨b1,b2⟩:=hb;obtain⟨cs,h1,c1,l1,l2,e4,e5⟩:=Qr e2;obtain⟨e6,rfl,rfl⟩:=Ku e4;obtain⟨x,h1,c1,l1,l2,e7,e8⟩:=Qr e5;obtain⟨rfl,rfl,rfl⟩:=Uo e7;obtain⟨rfl,rfl,rfl⟩:=Qn e8;have hp:=hf x (Nat.le_refl _) Dw;have hz:VRs p i.zero.cells.toList i.zero.cells.toList:=Lr (Gl 9 _ ht.plain);have hzs:=ht.zsize
    have ht0:=Qq2 hz (n:=len*i.size) (by
     rcases Nat.eq_zero_or_pos i.size with h0|h0
     ·left;rw[h0];omega
     ·right;simp only[Array.length_toList];omega)
    obtain⟨cs',q3,q4⟩:=Qck _ hv e6 ht0;obtain⟨q1,q2⟩:=Qby (P:=P) hr hp _ cs' el i.size q4;refine⟨_,_,.slice (some ⟨w.heap.size,0,none⟩) len len,?_,?_,q2,Xb.U4 hp,Yj⟩
    ·have hq:(Array.range (len*i.size)).map ((if len*i.size=0 then (#[]:Array Value) else i.zero.cells)[· % (if len*i.size=0 then (#[]:Array Value) else i.zero.cells).size]!)=madeCells i.zero.cells (len*i.size):=by
      unfold madeCells;split
      ·rename_i h0;rw[h0];simp
      ·rfl
     unfold Instr.buildSlice;rw[Sem.run_bind,run_underlying hu w,Result.andThen_ok];dsimp only;rw[Sem.run_bind,run_sizeOf' ht w,Result.andThen_ok,if_neg Dw];by_cases h0:len*i.size=0
     ·rw[if_pos h0] at hq ⊢;simp only[Sem.run_bind,Sem.run_pure,Result.andThen_ok];rw[hq,q3];simp only[Sem.run_bind,q1,Result.andThen_ok];rfl
     ·rw[if_neg h0] at hq ⊢;simp only[Sem.run_bind,Sem.run_pure,Qmg ht,Result.andThen_ok];rw[hq,q3];simp only[Sem.run_bind,q1,Result.andThen_ok];rfl
    ·exact .slice (s:=⟨w.heap.size,0,_,_,undef,noF⟩) (Xb.Vy _ _ _) Dw b2
   ·cases e2
  |_=>cases e
end
end Ev
end
section
namespace Ev
open Go.RowKit
section
variable {P:Program} {K:Cfg} {base:Nat→Prop} {w0 w:World} {p:Xb} {h h':Tree Q4} {c c':Nat} {l:Log}
def Fv:TypeDesc→Value→Value→Option Bool
 | .pointer _,.pointer none,.pointer b=>some b.isNone
 | .pointer _,.pointer (some _),.pointer none=>some false
 | .slice _,.slice none _ _,.slice b _ _=>some b.isNone
 | .slice _,.slice (some _) _ _,.slice none _ _=>some false
 | .map _ _,.map none,.map b=>some b.isNone
 | .map _ _,.map (some _),.map none=>some false
 | .func _ _ _,.nilFunc,.nilFunc=>some true
 | .func _ _ _,.nilFunc,.func _ _ _=>some false
 | .func _ _ _,.func _ _ _,.nilFunc=>some false
 | .interface _,.nilIface,.iface _ _=>some false
 | .interface _,.iface _ _,.nilIface=>some false
 |_,_,_=>none
theorem Qoi {d:TypeDesc}{x x' y y':Value}{b:Bool}(e:Fv d x y=some b)(hx:VR p x x')(hy:VR p y y'):Fv d x' y'=some b:=by
 unfold Fv at e;split at e <;> first
  |(cases e;cases hx <;> cases hy <;> rfl)
  |cases e
theorem run_nils {t:TypeId}{d:TypeDesc}{x y:Value}{b:Bool}(hu:P.underlying t=some d)(e:Fv d x y=some b)(w:World):(Op.equal t x y).run P w=.ok b w:=by
 unfold Op.equal Op.maxDepth Op.equalIn;rw[Sem.run_bind,run_underlying hu w,Result.andThen_ok];unfold Fv at e;split at e <;> first
  |(cases e;rfl)
  |cases e
def xNils (P:Program)(op:BinOp)(t:TypeId)(x y:Value):Option Value:=match P.underlying t with
 |some d=>match Fv d x y,op with
  |some b,.eql=>some (.bool b)
  |some b,.neq=>some (.bool !b)
  |_,_=>none
 |none=>none
theorem xNils_ok {op:BinOp}{t:TypeId}{a b:Operand}{x x' y y' r:Value}(e:xNils P op t x y=some r)(hx:VR p x x')(hy:VR p y y'):Qbn P p (do eqGuard op t a b x' y';binOp op t x' y') VR r:=by
 intro w;unfold xNils at e;cases hu:P.underlying t with
 |none=>rw[hu] at e;cases e
 |some d=>
  rw[hu] at e;dsimp only at e;cases hn:Fv d x y with
  |none=>rw[hn] at e;cases op <;> cases e
  |some bb=>
   rw[hn] at e;have hn':=Qoi hn hx hy;have hr:=run_nils (P:=P) hu hn' w;have hg:eqGuard op t a b x' y'=pure ():=by
    unfold Fv at hn';split at hn' <;> first
     |(cases op <;> rfl)
     |cases hn'
   have hb:∀ o:BinOp,o=.eql∨o=.neq→binOp o t x' y'=(do let q ← Op.equal t x' y';pure (.bool (if o=.eql then q else !q))):=by
    intro o ho;unfold Fv at hn';split at hn' <;> first
     |(rcases ho with rfl|rfl <;> rfl)
     |cases hn'
   rw[hg];cases op <;> cases e
   ·refine⟨.bool bb,?_,.bool _⟩;rw[Sem.run_bind];simp only[Sem.run_pure,Result.andThen_ok,hb .eql (.inl rfl),Sem.run_bind,hr];simp
   ·refine⟨.bool !bb,?_,.bool _⟩;rw[Sem.run_bind];simp only[Sem.run_pure,Result.andThen_ok,hb .neq (.inr rfl),Sem.run_bind,hr];simp
end
end Ev
end
section
namespace Ev
open Go.RowKit
section
variable {P:Program} {K:Cfg} {base:Nat→Prop} {w0 w:World} {p:Xb} {h h':Tree Q4} {c c':Nat} {l:Log}
theorem MRs.len:∀ {es:List (Value×Value×Nat)} {ms:List MapEntry},MRs p es ms→es.length=ms.length
 | [],[],_=>rfl
 |_::_,_::_,⟨_,h⟩=>by simp[MRs.len h]
 | [],_::_,h=>h.elim
 |_::_,[],h=>h.elim
noncomputable def rdMap (b:Nat):M Q4 (List (Value×Value×Nat)×Nat):=M.bind (M.read b) fun
 | .map es clock=>M.pure (es,clock)
 |_=>M.fail
theorem Qrt {b:Nat}{y:List (Value×Value×Nat)×Nat}{h h2:Tree Q4}{c c2:Nat}{l:Log}(e:rdMap b h c=.ok y h2 c2 l):h.get b=some (.map y.1 y.2)∧h2=h∧c2=c:=by
 obtain⟨o,h1,c1,l1,l2,e1,e2⟩:=Qr e;obtain⟨e3,rfl,rfl⟩:=U9 e1;split at e2
 ·obtain⟨rfl,rfl,rfl⟩:=Qn e2;exact⟨e3,rfl,rfl⟩
 ·cases e2
theorem Rel.mapAt (hr:Rel K base w0 p h w){b:Nat}{es:List (Value×Value×Nat)}{clock:Nat}(hb:h.get b=some (.map es clock)){s:V9}(hs:p b=some s):
  s.off=0∧∃ ms:Array MapEntry,w.heap[s.blk]? = some (.map ms clock)∧MRs p es ms.toList∧s.blk<w.heap.size:=by
 obtain⟨s',h1,hB,hlt,h2⟩:=hr.at_ b _ hb;obtain rfl:s'=s:=Option.some.inj (h1.symm.trans hs);obtain⟨h0,ms,q1,q2⟩:=h2;exact⟨h0,ms,q1,q2,hlt _ rfl⟩
noncomputable def Qga:M Q4 Value:=M.fail
theorem Qjv {t:TypeId}{r:Value}(e:Qga h c=.ok r h' c' l)(hr:Rel K base w0 p h w)(hf:Free p c c'):Gives P K base w0 p w c c' h' VR (Instr.makeMap t none) r:=by
 unfold Qga at e;cases e
noncomputable def mapOf (v:Value):M Q4 (List (Value×Value×Nat)):=match v with
 | .map none=>M.pure []
 | .map (some b)=>M.bind (rdMap b) fun r=>M.pure r.1
 |_=>M.fail
theorem mapOf_ok {v v':Value}{es:List (Value×Value×Nat)}(e:mapOf v h c=.ok es h' c' l)(hv:VR p v v')(hr:Rel K base w0 p h w):
  ∃ ms:Array MapEntry,((v'=.map none∧ms = #[])∨∃ b clock,v'=.map (some b)∧w.heap[b]? = some (.map ms clock))∧MRs p es ms.toList∧h'=h∧c'=c:=by
 unfold mapOf at e;split at e
 ·obtain⟨rfl,rfl,rfl⟩:=Qn e;cases hv;exact⟨#[],.inl ⟨rfl,rfl⟩,trivial,rfl,rfl⟩
 ·rename_i b;obtain⟨x,h1,c1,l1,l2,e1,e2⟩:=Qr e;obtain⟨e3,rfl,rfl⟩:=Qrt e1;obtain⟨rfl,rfl,rfl⟩:=Qn e2;cases hv with
  |map hs=>
   obtain⟨h0,ms,q1,q2,-⟩:=hr.mapAt e3 hs;exact⟨ms,.inr ⟨_,_,rfl,q1⟩,q2,rfl,rfl⟩
 ·cases e
noncomputable def Qjw (P:Program)(t:TypeId)(m k:Value)(ok:Bool):M Q4 Value:=M.fail
theorem Qnn {t:TypeId}{m m' k k' r:Value}{ok:Bool}(e:Qjw P t m k ok h c=.ok r h' c' l)(hm:VR p m m')(hk:VR p k k')(hr:Rel K base w0 p h w):Gives P K base w0 p w c c' h' VR (Instr.lookup t m' k' ok) r:=by
 unfold Qjw at e;cases e
end
end Ev
end
section
namespace Ev
open Go.RowKit
section
variable {P:Program} {K:Cfg} {base:Nat→Prop} {w0 w:World} {p:Xb} {h h':Tree Q4} {c c':Nat} {l:Log}
noncomputable def Ba (P:Program)(K:Cfg)(t:TypeId)(m k v:Value):M Q4 Unit:=M.fail
theorem Ag {t:TypeId}{m m' k k' v v':Value}{r:Unit}(e:Ba P K t m k v h c=.ok r h' c' l)(hm:VR p m m')(hk:VR p k k')(hv:VR p v v')(hr:Rel K base w0 p h w):Gives P K base w0 p w c c' h' (fun _ _ _=>True) (Instr.mapUpdate t m' k' v') r:=by
 unfold Ba at e;cases e
noncomputable def Qqa (P:Program)(t:TypeId)(v:Value):M Q4 Value:=M.fail
noncomputable def xNext (K:Cfg)(v:Value)(isString:Bool):M Q4 Value:=M.fail
noncomputable def Ae (P:Program)(src d:TypeId)(s:ByteArray):M Q4 Value:=M.fail
theorem Qhv {src d:TypeId}{s:ByteArray}{v' r:Value}(e:Ae P src d s h c=.ok r h' c' l)(hv:VR p (.string s) v')(hr:Rel K base w0 p h w)(hf:Free p c c'):Gives P K base w0 p w c c' h' VR (convert src d v') r:=by
 unfold Ae at e;cases e
theorem Qp9 {t:TypeId}{v v' r:Value}(e:Qqa P t v h c=.ok r h' c' l)(hv:VR p v v')(hr:Rel K base w0 p h w)(hf:Free p c c'):Gives P K base w0 p w c c' h' VR (Instr.range t v') r:=by
 unfold Qqa at e;cases e
theorem xNext_ok {v v' r:Value}{is:Bool}{ty:TypeId}(e:xNext K v is h c=.ok r h' c' l)(hv:VR p v v')(hr:Rel K base w0 p h w):Gives P K base w0 p w c c' h' VR (Instr.next v' is ty) r:=by
 unfold xNext at e;cases e
noncomputable def xLen (P:Program)(t:TypeId)(v:Value):M Q4 Value:=match P.underlying t with
 |some .string=>match v with
  | .string s=>M.pure (goInt s.size)
  |_=>M.fail
 |some (.slice _)=>match v with
  | .slice _ n _=>M.pure (goInt n)
  |_=>M.fail
 |some (.array n _)=>M.pure (goInt n)
 |some (.map _ _)=>M.bind (mapOf v) fun es=>M.pure (goInt es.length)
 |_=>M.fail
theorem xLen_ok {t:TypeId}{v v' r:Value}{ats:Array TypeId}{ty:TypeId}{args:Array Value}(e:xLen P t v h c=.ok r h' c' l)(ha:ats[0]? = some t)(hb:args[0]? = some v')(hv:VR p v v')(hr:Rel K base w0 p h w):Gives P K base w0 p w c c' h' VR (Builtin.len_ ats ty args) r:=by
 unfold xLen at e;cases hu:P.underlying t with
 |none=>rw[hu] at e;cases e
 |some d=>
  rw[hu] at e;cases d with
  |string=>
   dsimp only at e;split at e
   ·obtain⟨rfl,rfl,rfl⟩:=Qn e;cases hv;refine Gives.quiet hr ?_ (.int _ _);simp only[Builtin.len_,ha,hb,Sem.run_bind,run_underlying hu w,Result.andThen_ok,Sem.run_pure];rfl
   ·cases e
  |slice=>
   dsimp only at e;split at e
   ·obtain⟨rfl,rfl,rfl⟩:=Qn e;cases hv <;>
    ·refine Gives.quiet hr ?_ (.int _ _);simp only[Builtin.len_,ha,hb,Sem.run_bind,run_underlying hu w,Result.andThen_ok,Sem.run_pure];rfl
   ·cases e
  |array n el=>
   obtain⟨rfl,rfl,rfl⟩:=Qn e;refine Gives.quiet hr ?_ (.int _ _);simp only[Builtin.len_,ha,hb,Sem.run_bind,run_underlying hu w,Result.andThen_ok,Sem.run_pure];rfl
  |map=>
   obtain⟨es,h1,c1,l1,l2,e1,e2⟩:=Qr e;obtain⟨ms,q1,q2,rfl,rfl⟩:=mapOf_ok e1 hv hr;obtain⟨rfl,rfl,rfl⟩:=Qn e2;have hl:=q2.len;refine Gives.quiet hr ?_ (.int _ _);rcases q1 with ⟨rfl,rfl⟩|⟨b,cl,rfl,hb2⟩
   ·simp only[Builtin.len_,ha,hb,Sem.run_bind,run_underlying hu w,Result.andThen_ok,Sem.run_pure];rw[hl];rfl
   ·simp only[Builtin.len_,ha,hb,Sem.run_bind,run_underlying hu w,Result.andThen_ok,Sem.run_pure,MapKept.run_getObj_map hb2];rw[hl];rfl
  |_=>cases e
noncomputable def xCap (P:Program)(t:TypeId)(v:Value):M Q4 Value:=M.fail
theorem xCap_ok {t:TypeId}{v v' r:Value}{ats:Array TypeId}{ty:TypeId}{args:Array Value}(e:xCap P t v h c=.ok r h' c' l)(ha:ats[0]? = some t)(hb:args[0]? = some v')(hv:VR p v v')(hr:Rel K base w0 p h w):Gives P K base w0 p w c c' h' VR (Builtin.cap_ ats ty args) r:=by
 unfold xCap at e;cases e
noncomputable def Qcl (P:Program)(t tx:TypeId)(s x:Value):M Q4 Value:=M.fail
theorem Qj0 {t tx ty:TypeId}{s s' x x' r:Value}(e:Qcl P t tx s x h c=.ok r h' c' l)(hs:VR p s s')(hx:VR p x x')(hr:Rel K base w0 p h w)(hf:Free p c c'):
  Gives P K base w0 p w c c' h' VR (Builtin.append_ #[t,tx] ty #[s',x']) r:=by
 unfold Qcl at e;cases e
noncomputable def xCopy (P:Program)(K:Cfg)(t:TypeId)(d x:Value):M Q4 Value:=M.fail
theorem xCopy_ok {t tx ty:TypeId}{d d' x x' r:Value}(e:xCopy P K t d x h c=.ok r h' c' l)(hs:VR p d d')(hx:VR p x x')(hr:Rel K base w0 p h w):Gives P K base w0 p w c c' h' VR (Builtin.copy_ #[t,tx] ty #[d',x']) r:=by
 unfold xCopy at e;cases e
end
end Ev
end
section
namespace Ev
open Go.RowKit
abbrev Env:=Operand→Option Value
def EnvR (p:Xb)(ρ:Env)(ρ':Operand→Value):Prop:=∀ x v,ρ x=some v→VR p v (ρ' x)
def Qbl (ρ:Env):List Operand→Option (List Value)
 | []=>some []
 |x::l=>match ρ x with
  |some v=>match Qbl ρ l with
   |some vs=>some (v::vs)
   |none=>none
  |none=>none
theorem Le {p:Xb}{ρ:Env}{ρ':Operand→Value}(hρ:EnvR p ρ ρ'):∀ {xs:List Operand} {vs:List Value},Qbl ρ xs=some vs→VRs p vs (xs.map ρ')
 | [],_,e=>by cases e;exact .nil
 |x::l,vs,e=>by
  unfold Qbl at e;cases hx:ρ x with
  |none=>rw[hx] at e;cases e
  |some v=>
   rw[hx] at e;cases hl:Qbl ρ l with
   |none=>rw[hl] at e;cases e
   |some us=>
    rw[hl] at e;cases e;exact .cons (hρ x v hx) (Le hρ hl)
def Qai (ρ:Env):List (Nat×Operand)→Option (List (Nat×Value))
 | []=>some []
 |(i,x)::l=>match ρ x with
  |some v=>match Qai ρ l with
   |some vs=>some ((i,v)::vs)
   |none=>none
  |none=>none
theorem Qek {p:Xb}{ρ:Env}{ρ':Operand→Value}(hρ:EnvR p ρ ρ'):∀ {xs:List (Nat×Operand)} {vs:List (Nat×Value)},Qai ρ xs=some vs→PR p vs (xs.map fun (i,x)=>(i,ρ' x))
 | [],_,e=>by cases e;exact .nil
 |(i,x)::l,vs,e=>by
  unfold Qai at e;cases hx:ρ x with
  |none=>rw[hx] at e;cases e
  |some v=>
   rw[hx] at e;cases hl:Qai ρ l with
   |none=>rw[hl] at e;cases e
   |some us=>
    rw[hl] at e;cases e;exact .cons (hρ x v hx) (Qek hρ hl)
inductive OR where
 |val (v:Value)
 |skip
 |enter (f:FuncId) (args:List Value)
 |defer (f:FuncId) (args:List Value)
 |recover
 |panic (v:Value)
section
variable {P:Program} {K:Cfg} {base:Nat→Prop} {w0 w:World} {p:Xb} {h h':Tree Q4} {c c':Nat} {l:Log}
def NV (p:Xb)(v:Value)(n:Next):Prop:=∃ v',n=.value v'∧VR p v v'
def U7 (P:Program)(K:Cfg)(base:Nat→Prop)(w0:World)(p:Xb)(w:World)(c c':Nat)(h':Tree Q4)(t:Sem Next)(x:OR):Prop:=match x with
 | .val v=>Gives P K base w0 p w c c' h' NV t v
 | .skip=>Gives P K base w0 p w c c' h' (fun _ (_:Unit) n=>n=.skip) t ()
 | .enter f args=>Gives P K base w0 p w c c' h' (fun p xs n=>∃ ys,n=.enter f ys∧VRs p xs ys.toList) t args
 | .defer f args=>Gives P K base w0 p w c c' h' (fun p xs n=>∃ ys cap,n=.defer ⟨.fn (.func f) cap,ys⟩∧VRs p xs (ys++cap).toList) t args
 | .recover=>Gives P K base w0 p w c c' h' (fun _ (_:Unit) n=>n=.recover) t ()
 | .panic v=>∃ v',t.run P w=.halt (.panic v') w∧VR p v v'∧Rel K base w0 p h' w∧c'=c
noncomputable def ofV (m:M Q4 Value):M Q4 OR:=M.bind m fun v=>M.pure (.val v)
noncomputable def ofU (m:M Q4 Unit):M Q4 OR:=M.bind m fun _=>M.pure .skip
theorem Tu {m:M Q4 Value}{s:Sem Value}{r:OR}(e:ofV m h c=.ok r h' c' l)(hs:∀ v l',m h c=.ok v h' c' l'→Gives P K base w0 p w c c' h' VR s v):
  U7 P K base w0 p w c c' h' (do pure (.value (← s))) r:=by
 obtain⟨v,h1,c1,l1,l2,e1,e2⟩:=Qr e;obtain⟨rfl,rfl,rfl⟩:=Qn e2;obtain⟨p',w',y,k1,k2,k3⟩:=hs v _ e1;refine⟨p',w',.value y,?_,⟨y,rfl,k2⟩,k3⟩;rw[Sem.run_bind,k1];rfl
theorem Qr7 {m:M Q4 Unit}{s:Sem Unit}{r:OR}(e:ofU m h c=.ok r h' c' l)(hs:∀ v l',m h c=.ok v h' c' l'→Gives P K base w0 p w c c' h' (fun _ _ _=>True) s v):
  U7 P K base w0 p w c c' h' (do s;pure .skip) r:=by
 obtain⟨v,h1,c1,l1,l2,e1,e2⟩:=Qr e;obtain⟨rfl,rfl,rfl⟩:=Qn e2;obtain⟨p',w',y,k1,k2,k3⟩:=hs v _ e1;refine⟨p',w',.skip,?_,rfl,k3⟩;rw[Sem.run_bind,k1];rfl
def Uu {β:Type}(o:Option Value)(f:Value→M Q4 β):M Q4 β:=fun h c=>match o with
 |some v=>f v h c
 |none => .no
theorem Xd {β:Type}{o:Option Value}{f:Value→M Q4 β}{y:β}(e:Uu o f h c=.ok y h' c' l):∃ v,o=some v∧f v h c=.ok y h' c' l:=by
 unfold Uu at e;cases o with
 |none=>cases e
 |some v=>exact⟨v,rfl,e⟩
def Qr2 (o:Option Value):M Q4 Value:=Gn o
theorem Fp {o:Option Value}{s:Sem Value}(hr:Rel K base w0 p h w)(hs:∀ v,o=some v→Qbn P p s VR v):∀ v l',Qr2 o h c=.ok v h' c' l'→Gives P K base w0 p w c c' h' VR s v:=by
 intro v l' e;obtain⟨e1,rfl,rfl⟩:=Ku e;exact(hs v e1).gives hr
def plainO (P:Program)(s:Sem Value):M Q4 OR:=match Qnl P s with
 |some (.ok v)=>M.pure (.val v)
 |some (.error v)=>M.pure (.panic v)
 |none=>M.fail
theorem Wl {s:Sem Value}{r:OR}(e:plainO P s h c=.ok r h' c' l)(hr:Rel K base w0 p h w):U7 P K base w0 p w c c' h' (do pure (.value (← s))) r:=by
 unfold plainO at e;cases hx:Qnl P s with
 |none=>rw[hx] at e;cases e
 |some x=>
  rw[hx] at e;cases x with
  |ok v=>
   obtain⟨rfl,rfl,rfl⟩:=Qn e;obtain⟨p',w',y,k1,k2,k3⟩:=xPure_ok (P:=P) (c:=c') hx hr;exact⟨p',w',.value y,by rw[Sem.run_bind,k1];rfl,⟨y,rfl,k2⟩,k3⟩
  |error v=>
   obtain⟨rfl,rfl,rfl⟩:=Qn e;obtain⟨k1,k2⟩:=Qjt (P:=P) (w:=w) (p:=p) hx;exact⟨v,by rw[Sem.run_bind,k1];rfl,k2,hr,rfl⟩
theorem val_ok {s:Sem Value}{u:Value}{r:OR}(hs:s.run P w=.ok u w)(hu:Tt 9 u=true)(e:(M.pure (.val u):M Q4 OR) h c=.ok r h' c' l)(hr:Rel K base w0 p h w):U7 P K base w0 p w c c' h' (do pure (.value (← s))) r:=by
 obtain⟨rfl,rfl,rfl⟩:=Qn e;exact⟨p,w,.value u,by rw[Sem.run_bind,hs];rfl,⟨u,rfl,Gl 9 u hu⟩,hr,Xb.le_refl _,fun _ _=>rfl⟩
end
end Ev
end
end Go.Proofs.YtcbkeecabcbogaaGreatDoor
