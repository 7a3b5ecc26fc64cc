/- The evaluator's further operations, held against the model's: what has no address at all, slices, new slices and maps. No program in sight. The evaluator's further operations, held against the mode -/
import Derived.Test.YtcbkeecabcbogaaGreatDoorGad
import Derived.Calls
import Derived.Laws.Tables
import Derived.Laws.MakeOwn
import Derived.MapKept
set_option linter.unusedSimpArgs false
set_option linter.unusedVariables false
namespace Go.Proofs.YtcbkeecabcbogaaGreatDoor
namespace Ev
open Go.RowKit
section
variable {P:Program} {K:Cfg} {base:Nat→Prop} {w0 w:World} {p:Plan} {h h':Tree AObj} {c c':Nat} {l:Log}
theorem plains_eq {p:Plan}{f:Value→Bool}(hf:∀ v v',f v=true→VR p v v'→v'=v):∀ {l m:List Value},l.all f=true→VRs p l m→m=l
 |_,_,_,.nil=>rfl
 |v :: l,_,h,.cons (w:=w') (m:=m') k ks=>by
  simp only[List.all_cons,Bool.and_eq_true] at h
  rw[hf v _ h.1 k,plains_eq hf h.2 ks]
theorem plain_eq {p:Plan}:∀ (n:Nat) (v v':Value),plainF n v=true→VR p v v'→v'=v
 |0,_,_,h,_=>by cases h
 |n+1,v,v',h,hv=>by
  have ih:=fun v v'=>plain_eq (p:=p) n v v'
  cases hv with
  |bool=>rfl
  |int=>rfl
  |tok=>cases h
  |string=>rfl
  |nilPtr=>rfl
  |ptr=>cases h
  |nilSlice=>rfl
  |slice=>cases h
  |sliceU=>cases h
  |sliceE=>cases h
  |nilMap=>rfl
  |map=>cases h
  |func=>cases h
  |nilFunc=>rfl
  |iface t k=>rw[ih _ _ h k]
  |nilIface=>rfl
  |agg k=>
   have:=plains_eq (ih) (l:=_) h k
   congr 1
   exact Array.toList_inj.1 this
  |tuple k=>
   have:=plains_eq (ih) (l:=_) h k
   congr 1
   exact Array.toList_inj.1 this
def xPure (P:Program)(s:Sem Value):Option (Except Value Value):=match pureOf P s with
 |some (.ok v)=>if plainF 9 v then some (.ok v) else none
 |some (.error v)=>if plainF 9 v then some (.error v) else none
 |none=>none
theorem xPure_ok {s:Sem Value}{v:Value}(e:xPure P s=some (.ok v))(hr:Rel K base w0 p h w):Gives P K base w0 p w c c h VR s v:=by
 unfold xPure at e
 split at e
 ·rename_i u hu
  split at e
  ·rename_i hp
   cases e
   exact Gives.quiet hr (pureOf_ok s hu w) (plain_vr 9 _ hp)
  ·cases e
 ·split at e <;> cases e
 ·cases e
theorem xPure_panic {s:Sem Value}{v:Value}(e:xPure P s=some (.error v)):s.run P w = .halt (.panic v) w∧VR p v v:=by
 unfold xPure at e
 split at e
 ·split at e <;> cases e
 ·rename_i u hu
  split at e
  ·rename_i hp
   cases e
   exact⟨pureOf_panic s hu w,plain_vr 9 _ hp⟩
  ·cases e
 ·cases e
def optInt:Option Value→Option (Option Int)
 |none=>some none
 |some (.int _ i)=>some (some i)
 |_=>none
def boundsX (len cap:Nat)(low high max:Option Value):Option (Nat×Nat×Nat):=
 match optInt low,optInt high,optInt max with
 |some lo,some hi,some mx=>
  let m:=(mx.getD cap).toNat
  let hh:=(hi.getD len).toNat
  let ll:=(lo.getD 0).toNat
  if (0:Int)≤mx.getD 0∧(0:Int)≤hi.getD 0∧(0:Int)≤lo.getD 0∧ll≤hh∧hh≤m∧m≤cap∧(mx.isSome=true→hi.isSome=true) then some (ll,hh,m) else none
 |_,_,_=>none
theorem optInt_cases {o:Option Value}{r:Option Int}(e:optInt o=some r):(o=none∧r=none)∨∃ k i,o=some (.int k i)∧r=some i:=by
 unfold optInt at e
 split at e
 ·cases e;exact .inl ⟨rfl,rfl⟩
 ·cases e;exact .inr ⟨_,_,rfl,rfl⟩
 ·cases e
theorem run_sliceBound {k:IntKind}{i:Int}{y:Nat}{code:BoundsCode}(h0:0≤i)(h1:i.toNat≤y)(w:World):(Instr.sliceBound (.int k i) y code).run P w = .ok i.toNat w:=by
 unfold Instr.sliceBound
 simp only[asIntOf,Sem.run_bind,Sem.run_pure,Result.andThen_ok]
 rw[if_pos (by omega)]
 rfl
theorem run_bounds {isS:Bool}{len cap:Nat}{low high max:Option Value}{l' h' m':Nat}(e:boundsX len cap low high max=some (l',h',m'))(w:World):
  (Instr.sliceBounds isS len cap low high max).run P w = .ok (l',h',m') w∧l'≤h'∧h'≤m'∧m'≤cap:=by
 unfold boundsX at e
 split at e
 ·rename_i lo hi mx e1 e2 e3
  dsimp only at e
  split at e
  ·rename_i hc
   obtain⟨c1,c2,c3,c4,c5,c6,c7⟩:=hc
   simp only[Option.some.injEq,Prod.mk.injEq] at e
   obtain⟨rfl,rfl,rfl⟩:=e
   refine⟨?_,c4,c5,c6⟩
   rcases optInt_cases e1 with ⟨rfl,rfl⟩|⟨k1,i1,rfl,rfl⟩ <;> rcases optInt_cases e2 with ⟨rfl,rfl⟩|⟨k2,i2,rfl,rfl⟩ <;> rcases optInt_cases e3 with ⟨rfl,rfl⟩|⟨k3,i3,rfl,rfl⟩ <;>
    simp only[Option.getD_none,Option.getD_some,Option.isSome_none,Option.isSome_some,Int.toNat_natCast,Int.toNat_zero] at c1 c2 c3 c4 c5 c6 c7 ⊢ <;>
    first
     |(exfalso;revert c7;simp;done)
     |(simp[Instr.sliceBounds,run_sliceBound,c1,c2,c3,c4,c5,c6];done)
     |skip
  ·cases e
 ·cases e
def xStr (P:Program)(t:TypeId)(v:Value)(lo hi mx:Option Value):Option Value:=match v with
 | .string s=>match mx with
  |none=>match P.underlying t with
   |some .string=>match boundsX s.data.toList.length s.data.toList.length lo hi none with
    |some (l,h,_)=>some (.string ⟨((s.data.toList.drop l).take (h - l)).toArray⟩)
    |none=>none
   |_=>none
  |some _=>none
 |_=>none
theorem extract_piece (s:ByteArray)(a b:Nat):s.extract a b=⟨((s.data.toList.drop a).take (b - a)).toArray⟩:=by
 have:(s.extract a b).data.toList=(s.data.toList.drop a).take (b - a):=by
  simp[ByteArray.data_extract,List.extract_eq_take_drop]
 rw[←this]
theorem xStr_ok {t:TypeId}{v r:Value}{lo hi mx:Option Value}(e:xStr P t v lo hi mx=some r)(w:World):(Instr.sliceAt t v lo hi mx).run P w = .ok r w∧plainF 9 r=true:=by
 unfold xStr at e
 split at e
 ·rename_i s
  split at e
  ·split at e
   ·rename_i hu
    split at e
    ·rename_i l h m hb
     cases e
     refine⟨?_,rfl⟩
     have hb':boundsX s.size s.size lo hi none=some (l,h,m):=hb
     rw[run_sliceAt_string (h:=hu)]
     unfold Instr.slice
     simp only[Sem.run_bind,run_underlying hu w,Result.andThen_ok,Option.isSome_none]
     rw[if_neg (by decide)]
     simp only[Sem.run_bind,Result.andThen_ok,(run_bounds (P:=P) (isS:=false) hb' w).1,extract_piece]
     rfl
    ·cases e
   ·cases e
  ·cases e
 ·cases e
noncomputable def xSlice (P:Program)(t:TypeId)(v:Value)(lo hi mx:Option Value):M AObj Value:=match P.underlying t with
 |some (.slice e)=>M.bind (liftO (tiOf P e)) fun i=>match v with
  | .slice none n cp=>if n=0∧cp=0∧boundsX 0 0 lo hi mx=some (0,0,0) then M.pure v else M.fail
  | .slice (some ⟨b,o,none⟩) n cp=>
   if cp=unk then M.bind (rdRow b) fun r=>if r.2.2=i.size∧mx=none then (match boundsX n n lo hi none with
    |some (l,h,_)=>if l=0∨l<n then M.pure (.slice (some ⟨b,o+l * i.size,none⟩) (h - l) unk) else
     M.pure (.slice (some ⟨b,o,none⟩) 0 unkE)
    |none=>M.fail) else M.fail
   else if cp=unkE then M.fail
   else match boundsX n cp lo hi mx with
    |some (l,h,m)=>M.pure (.slice (some ⟨b,if m=l then o else o+l * i.size,none⟩) (h - l) (m - l))
    |none=>M.fail
  |_=>M.fail
 |some (.array n e)=>M.bind (liftO (tiOf P e)) fun i=>match v with
  | .pointer (some ⟨b,o,none⟩)=>if n≤maxLen then (match boundsX n n lo hi mx with
    |some (l,h,m)=>M.pure (.slice (some ⟨b,if m=l then o else o+l * i.size,none⟩) (h - l) (m - l))
    |none=>M.fail) else M.fail
  |_=>M.fail
 |_=>M.fail
theorem bounds_more {n cp:Nat}{lo hi:Option Value}{l' h' m':Nat}(e:boundsX n n lo hi none=some (l',h',m'))(hn:n≤cp):boundsX n cp lo hi none=some (l',h',cp)∧l'≤h'∧h'≤n:=by
 unfold boundsX at e ⊢
 have h0:optInt none=some none:=rfl
 rw[h0] at e ⊢
 split at e
 ·rename_i lo' hi' mx' e1 e2 e3
  cases e3
  dsimp only [Option.getD_none,Int.toNat_natCast] at e ⊢
  split at e
  ·rename_i hc
   obtain⟨c1,c2,c3,c4,c5,c6,c7⟩:=hc
   simp only[Option.some.injEq,Prod.mk.injEq] at e
   obtain⟨rfl,rfl,-⟩:=e
   refine⟨?_,c4,c5⟩
   rw[if_pos ⟨c1,c2,c3,c4,by omega,by omega,c7⟩]
  ·cases e
 ·cases e
theorem xSlice_ok {t:TypeId}{v v' r:Value}{lo hi mx:Option Value}(e:xSlice P t v lo hi mx h c = .ok r h' c' l)(hv:VR p v v')(hr:Rel K base w0 p h w):Gives P K base w0 p w c c' h' VR (Instr.sliceAt t v' lo hi mx) r:=by
 unfold xSlice at e
 cases hu:P.underlying t with
 |none=>rw[hu] at e;cases e
 |some d=>
 rw[hu] at e
 cases d with
 |array n el=>
  dsimp only at e
  obtain⟨i,h1,c1,l1,l2,e1,e2⟩:=bind_inv e
  obtain⟨e3,rfl,rfl⟩:=liftO_inv e1
  have hi':=tiOf_ok e3
  split at e2
  ·rename_i b o
   split at e2
   ·rename_i hm
    cases hb:boundsX n n lo hi mx with
    |none=>rw[hb] at e2;cases e2
    |some x=>
     obtain⟨l',h2,m'⟩:=x
     rw[hb] at e2
     obtain⟨rfl,rfl,rfl⟩:=pure_inv e2
     cases hv with
     |ptr hs=>
     rename_i s
     obtain⟨k1,k2,k3,k4⟩:=run_bounds (P:=P) (isS:=false) hb w
     refine Gives.quiet hr (y := .slice (some ⟨s.blk,s.off+(if m'=l' then o else o+l' * i.size),none⟩) (h2 - l') (m' - l')) ?_ (.slice hs (by omega) (by omega))
     unfold Instr.sliceAt
     simp only[Sem.run_bind,run_underlying hu w,Result.andThen_ok,k1,run_sizeOf' hi' w,Instr.sureAddr,Sem.run_pure]
     split <;> simp[Addr.add_mid,Nat.add_assoc]
   ·cases e2
  ·cases e2
 |slice el=>
  dsimp only at e
  have hat:∀ x,(Instr.sliceAt t x lo hi mx).run P w=(Instr.slice t x lo hi mx).run P w:=fun x=>by
   unfold Instr.sliceAt
   rw[Sem.run_bind,run_underlying hu w]
   rfl
  obtain⟨i,h1,c1,l1,l2,e1,e2⟩:=bind_inv e
  obtain⟨e3,rfl,rfl⟩:=liftO_inv e1
  have hi':=tiOf_ok e3
  split at e2
  ·rename_i n cp
   split at e2
   ·rename_i hc
    obtain⟨rfl,rfl,hb⟩:=hc
    obtain⟨rfl,rfl,rfl⟩:=pure_inv e2
    cases hv
    refine Gives.quiet hr (y := .slice none 0 0) ?_ .nilSlice
    rw[hat]
    unfold Instr.slice
    simp only[Sem.run_bind,run_underlying hu w,Result.andThen_ok,(run_bounds (P:=P) (isS:=true) hb w).1,run_sizeOf' hi' w]
    rfl
   ·cases e2
  ·rename_i b o n cp
   obtain⟨s,O,cc,hs,rfl,hn,hm,hO⟩:=slice_some hv
   have hub:=unk_big
   have hrun:∀ {l' h2 m':Nat},boundsX n cc lo hi mx=some (l',h2,m')→(Instr.sliceAt t (.slice (some ⟨s.blk,O,none⟩) n cc) lo hi mx).run P w = .ok (.slice (some (if m'=l' then ⟨s.blk,O,none⟩ else ⟨s.blk,O+l' * i.size,none⟩)) (h2 - l') (m' - l')) w:=by
    intro l' h2 m' hb
    rw[hat]
    unfold Instr.slice
    simp only[Sem.run_bind,run_underlying hu w,Result.andThen_ok,(run_bounds (P:=P) (isS:=true) hb w).1,run_sizeOf' hi' w]
    split <;> simp[Addr.add_mid]
   split at e2
   ·rename_i hcp
    obtain⟨rr,h3,c3,l5,l6,e6,e7⟩:=bind_inv e2
    obtain⟨e8,rfl,rfl⟩:=rdRow_inv e6
    split at e7
    ·rename_i hc
     obtain⟨hz,rfl⟩:=hc
     obtain⟨hesz,-⟩:=row_there hr e8 hs
     obtain⟨hOe,hOs⟩:O=s.off+o∧O+cc * s.esz≤s.size:=by
      rcases hO with h|h|h
      ·omega
      ·exact h.2
      ·omega
     cases hb:boundsX n n lo hi none with
     |none=>rw[hb] at e7;cases e7
     |some x=>
      obtain⟨l',h2,m'⟩:=x
      rw[hb] at e7
      dsimp only at e7
      obtain⟨k1,k2,k3⟩:=bounds_more hb hn
      have hr2:=hrun k1
      rw[hesz,hz] at hOs
      split at e7
      ·rename_i hl
       obtain⟨rfl,rfl,rfl⟩:=pure_inv e7
       refine Gives.quiet hr hr2 ?_
       have hle:O+l' * i.size+(cc - l') * i.size≤s.size:=by
        rw[Nat.add_assoc,←Nat.add_mul]
        rw[show l'+(cc - l')=cc by omega];exact hOs
       have:=VR.sliceU (p:=p) (b:=b) (o:=o+l' * i.size) (n:=h2 - l') (c:=cc - l') hs (by omega) (by omega) (by rw[hesz,hz];omega)
       rcases hl with rfl|hl
       ·simp only[Nat.zero_mul,Nat.add_zero,ite_self] at this ⊢
        rw[hOe];exact this
       ·rw[if_neg (by omega),hOe,Nat.add_assoc];exact this
      ·rename_i hl
       obtain⟨rfl,rfl,rfl⟩:=pure_inv e7
       obtain rfl:l'=n:=by omega
       obtain rfl:h2=l':=by omega
       refine Gives.quiet hr hr2 ?_
       rw[Nat.sub_self]
       split
       ·rename_i e5
        exact .sliceE hs (by omega) (by rw[hesz,hz,e5,Nat.sub_self];simp;have:=Nat.zero_le (h2 * i.size);omega)
       ·exact .sliceE hs (by omega) (by
         rw[hesz,hz,Nat.add_assoc,←Nat.add_mul,show h2+(cc - h2)=cc by omega];exact hOs)
    ·cases e7
   ·rename_i hcp
    split at e2
    ·cases e2
    ·rename_i hcp2
     obtain⟨rfl,rfl⟩:cp=cc∧O=s.off+o:=by
      rcases hO with h|h|h
      ·exact h
      ·exact absurd h.1 hcp
      ·exact absurd h.1 hcp2
     cases hb:boundsX n cp lo hi mx with
     |none=>rw[hb] at e2;cases e2
     |some x=>
      obtain⟨l',h2,m'⟩:=x
      rw[hb] at e2
      dsimp only at e2
      obtain⟨rfl,rfl,rfl⟩:=pure_inv e2
      obtain⟨-,q1,q2,q3⟩:=run_bounds (P:=P) (isS:=true) hb w
      refine Gives.quiet hr (hrun hb) ?_
      have:=VR.slice (p:=p) (b:=b) (o:=if m'=l' then o else o+l' * i.size) (n:=h2 - l') (c:=m' - l') hs (by omega) (by omega)
      split
      ·rename_i e5;rw[if_pos e5] at this;exact this
      ·rename_i e5;rw[if_neg e5] at this;rw[Nat.add_assoc];exact this
  ·cases e2
 |_=>cases e
end
end Ev
end Go.Proofs.YtcbkeecabcbogaaGreatDoor
namespace Go.Proofs.YtcbkeecabcbogaaGreatDoor
namespace Ev
open Go.RowKit
section
variable {P:Program} {K:Cfg} {base:Nat→Prop} {w0 w:World} {p:Plan} {h h':Tree AObj} {c c':Nat} {l:Log}
theorem foldl_putAll (off:Nat):∀ (l:List Value) (s:Nat) (cs:Array Value),
  ((l.zipIdx s).foldl (fun cs (x:Value×Nat)=>cs.setIfInBounds (off+x.2) x.1) cs).toList=putAll cs.toList (off+s) l
 | [],s,cs=>rfl
 |v :: l,s,cs=>by
  simp only[List.zipIdx_cons,List.foldl_cons]
  rw[foldl_putAll off l (s+1),putAll,Array.toList_setIfInBounds,Nat.add_assoc]
theorem putAll_vrs:∀ {vs vs':List Value},VRs p vs vs'→∀ {cs cs':List Value} (o:Nat),VRs p cs cs'→VRs p (putAll cs o vs) (putAll cs' o vs')
 |_,_,.nil,_,_,_,h=>h
 |_,_,.cons a b,_,_,o,h=>putAll_vrs b (o+1) (h.set o a)
def xFill (place:Nat→Option (Nat×Nat)):List Value→List (Nat×Value)→Option (List Value)
 |cs,[]=>some cs
 |cs,(i,v) :: l=>match place i with
  |none=>none
  |some (off,size)=>if v.cells.toList.length=size∧off+v.cells.toList.length≤cs.length then xFill place (putAll cs off v.cells.toList) l else none
inductive PR (p:Plan):List (Nat×Value)→List (Nat×Value)→Prop where
 |nil:PR p [] []
 |cons {i:Nat} {v w:Value} {l m:List (Nat×Value)}:VR p v w→PR p l m→PR p ((i,v) :: l) ((i,w) :: m)
theorem xFill_ok (place:Nat→Option (Nat×Nat)):∀ {ps ps':List (Nat×Value)},PR p ps ps'→∀ {cs:List Value} {cs':Array Value} {r:List Value},xFill place cs ps=some r→VRs p cs cs'.toList→
  ∃ r',Instr.fill place cs' ps'=some r'∧VRs p r r'.toList
 |_,_,.nil,cs,cs',r,e,hc=>by cases e;exact⟨cs',rfl,hc⟩
 |_,_,.cons (i:=i) (v:=v) (w:=w) hv ht,cs,cs',r,e,hc=>by
  unfold xFill at e
  unfold Instr.fill
  cases hp:place i with
  |none=>rw[hp] at e;cases e
  |some x=>
   obtain⟨off,size⟩:=x
   rw[hp] at e
   dsimp only at e ⊢
   split at e
   ·rename_i hb
    obtain⟨hb1,hb2⟩:=hb
    have hvc:=cells_vrs hv
    have hl:=hvc.len
    have hl2:=hc.len
    simp only[Array.length_toList] at hl hl2 hb1 hb2
    rw[if_neg (by simp;omega)]
    refine xFill_ok place ht e ?_
    rw[←Array.foldl_toList,Array.toList_zipIdx,foldl_putAll off]
    exact putAll_vrs hvc _ hc
   ·cases e
def placesOf (P:Program):List Field→Option (List (Nat×Nat))
 | []=>some []
 |f :: fs=>match P.info? f.type,placesOf P fs with
  |some i,some l=>some ((f.offset,i.size) :: l)
  |_,_=>none
theorem placesOf_eq:∀ fs:List Field,fs.mapM (fun f=>(P.info? f.type).map fun i=>(f.offset,i.size))=placesOf P fs
 | []=>rfl
 |f :: fs=>by
  rw[List.mapM_cons,placesOf_eq fs,placesOf]
  cases P.info? f.type <;> cases placesOf P fs <;> rfl
def xBuild (P:Program)(t:TypeId)(parts:List (Nat×Value)):Option Value:=match tiOf P t with
 |some i=>match i.u with
  | .struct fs=>match placesOf P fs.toList with
   |some pl=>(xFill (fun k=>pl[k]?) i.zero.cells.toList parts).map fun cs => .agg cs.toArray
   |none=>none
  | .array _ e=>match P.info? e with
   |some ie=>(xFill (fun k=>some (k * ie.size,ie.size)) i.zero.cells.toList parts).map fun cs => .agg cs.toArray
   |none=>none
  |_=>none
 |none=>none
theorem xBuild_ok {t:TypeId}{parts:List (Nat×Value)}{parts':Array (Nat×Value)}{r:Value}(e:xBuild P t parts=some r)(hv:PR p parts parts'.toList):Pures P p (Instr.build t parts') VR r:=by
 intro w
 unfold xBuild at e
 cases hi:tiOf P t with
 |none=>rw[hi] at e;cases e
 |some i=>
  rw[hi] at e
  have ht:=tiOf_ok hi
  obtain⟨f,hf1,hf2,hf3,hf4⟩:=ht.info
  have hz:VRs p i.zero.cells.toList i.zero.cells.toList:=cells_vrs (plain_vr 9 _ ht.plain)
  dsimp only at e
  have hu:=ht.u
  cases hd:i.u with
  |struct fs=>
   rw[hd] at e hu
   dsimp only at e
   cases hp:placesOf P fs.toList with
   |none=>rw[hp] at e;cases e
   |some pl=>
    rw[hp] at e
    obtain⟨cs,e1,rfl⟩:=Option.map_eq_some_iff.1 e
    obtain⟨r',h1,h2⟩:=xFill_ok _ hv e1 hz
    refine⟨.agg r',run_build w t parts' r' ?_,.agg (by simpa using h2)⟩
    unfold Program.built
    rw[hf1,hu]
    dsimp only
    rw[hf4,placesOf_eq,hp]
    dsimp only
    rw[←h1]
    congr 1
    funext k
    exact List.getElem?_toArray
  |array n el=>
   rw[hd] at e hu
   dsimp only at e
   cases hp:P.info? el with
   |none=>rw[hp] at e;cases e
   |some ie=>
    rw[hp] at e
    obtain⟨cs,e1,rfl⟩:=Option.map_eq_some_iff.1 e
    obtain⟨r',h1,h2⟩:=xFill_ok _ hv e1 hz
    refine⟨.agg r',run_build w t parts' r' ?_,.agg (by simpa using h2)⟩
    unfold Program.built
    rw[hf1,hu]
    dsimp only
    rw[hf4,hp]
    exact h1
  |_=>rw[hd] at e;cases e
def tilesX (z:List Value)(n:Nat):List Value:=(List.range n).map fun k=>(z[k % z.length]?).getD .nilIface
theorem tiles_vrs {z:List Value}{z':Array Value}(hz:VRs p z z'.toList){n:Nat}(hn:n=0∨0<z.length):VRs p (tilesX z n) (madeCells z' n).toList:=by
 have hl:=hz.len
 simp only[Array.length_toList] at hl
 have key:∀ l:List Nat,(0<z.length)→VRs p (l.map fun k=>(z[k % z.length]?).getD .nilIface) (l.map (z'[· % z'.size]!)):=by
  intro l h0
  induction l with
  |nil=>exact .nil
  |cons k l ih=>
   refine .cons ?_ ih
   have hk:k % z.length<z.length:=Nat.mod_lt _ h0
   obtain⟨y,h1,h2⟩:=hz.get (k % z.length) z[k % z.length] (List.getElem?_eq_getElem hk)
   show VR p ((z[k % z.length]?).getD .nilIface) (z'[k % z'.size]!)
   rw[List.getElem?_eq_getElem hk,Option.getD_some]
   have h3:z'[k % z'.size]! = y:=by
    rw[←hl,getElem!_def]
    have:z'[k % z.length]? = some y:=by simpa using h1
    rw[this]
   rw[h3]
   exact h2
 unfold tilesX madeCells
 rcases hn with rfl|h0
 ·simpa using VRs.nil
 ·have:=key (List.range n) h0
  simpa using this
noncomputable def xMakeSlice (P:Program)(t:TypeId)(lv cv:Value):M AObj Value:=match P.underlying t with
 |some (.slice e)=>match lv,cv with
  | .int _ a,.int _ b=>M.bind (liftO (tiOf P e)) fun i=>
   if 0≤a∧a≤b∧b.toNat≤maxLen∧(i.bytes:Int) * b≤281474976710656∧b.toNat * i.size≤16777216 then
    M.bind (newRowX (tilesX i.zero.cells.toList (b.toNat * i.size)) e i.size) fun x=>M.pure (.slice (some ⟨x,0,none⟩) a.toNat b.toNat)
   else M.fail
  |_,_=>M.fail
 |_=>M.fail
theorem xMakeSlice_ok {t:TypeId}{lv lv' cv cv' r:Value}(e:xMakeSlice P t lv cv h c = .ok r h' c' l)(hl:VR p lv lv')(hc:VR p cv cv')(hr:Rel K base w0 p h w)(hf:Free p c c'):Gives P K base w0 p w c c' h' VR (Instr.makeSlice t lv' cv') r:=by
 unfold xMakeSlice at e
 cases hu:P.underlying t with
 |none=>rw[hu] at e;cases e
 |some d=>
  rw[hu] at e
  obtain⟨el,rfl⟩:∃ el,d = .slice el:=by cases d <;> first|exact⟨_,rfl⟩|cases e
  dsimp only at e
  split at e
  ·rename_i k1 a k2 b
   cases hl
   cases hc
   obtain⟨i,h1,c1,l1,l2,e1,e2⟩:=bind_inv e
   obtain⟨e3,rfl,rfl⟩:=liftO_inv e1
   have ht:=tiOf_ok e3
   obtain⟨f,hf1,hf2,hf3,hf4⟩:=ht.info
   split at e2
   ·rename_i hb
    obtain⟨b1,b2,b3,b4,b5⟩:=hb
    obtain⟨x,h1,c1,l1,l2,e4,e5⟩:=bind_inv e2
    obtain⟨rfl,rfl,rfl⟩:=new_inv e4
    obtain⟨rfl,rfl,rfl⟩:=pure_inv e5
    have hp:=hf x (Nat.le_refl _) (by omega)
    have hz:VRs p i.zero.cells.toList i.zero.cells.toList:=cells_vrs (plain_vr 9 _ ht.plain)
    have hzs:=ht.zsize
    have ht0:=tiles_vrs hz (n:=b.toNat * i.size) (by
     rcases Nat.eq_zero_or_pos i.size with h0|h0
     ·left;rw[h0];omega
     ·right;simp only[Array.length_toList];omega)
    obtain⟨q1,q2⟩:=newRow_gives (P:=P) hr hp _ (madeCells i.zero.cells (b.toNat * i.size)) el i.size ht0
    have hmax:maxLen≤9223372036854775807:=by decide
    refine⟨_,_,.slice (some ⟨w.heap.size,0,none⟩) a.toNat b.toNat,?_,?_,q2,Plan.le_add hp,add_out⟩
    ·have:=run_makeSlice (P:=P) w t el f i.zero hu hf1 hf4 k1 k2 a b b1 b2 (by rw[hf2];exact b5) (by rw[hf3];exact b4) (by omega)
     rw[hf2] at this
     exact this
    ·exact .slice (s:=⟨w.heap.size,0,_,_,undef,noF⟩) (Plan.add_self _ _ _) (by omega) b3
   ·cases e2
  ·cases e
noncomputable def xBuildSlice (P:Program)(t:TypeId)(len:Nat)(parts:List (Nat×Value)):M AObj Value:=match P.underlying t with
 |some (.slice e)=>M.bind (liftO (tiOf P e)) fun i=>
  if len * i.size≤16777216∧len≤maxLen then
   M.bind (liftO (xFill (fun k=>some (k * i.size,i.size)) (tilesX i.zero.cells.toList (len * i.size)) parts)) fun cs=>
   M.bind (newRowX cs e i.size) fun x=>M.pure (.slice (some ⟨x,0,none⟩) len len)
  else M.fail
 |_=>M.fail
theorem xBuildSlice_ok {t:TypeId}{len:Nat}{parts:List (Nat×Value)}{parts':Array (Nat×Value)}{r:Value}(e:xBuildSlice P t len parts h c = .ok r h' c' l)(hv:PR p parts parts'.toList)(hr:Rel K base w0 p h w)(hf:Free p c c'):Gives P K base w0 p w c c' h' VR (Instr.buildSlice t len parts') r:=by
 unfold xBuildSlice at e
 cases hu:P.underlying t with
 |none=>rw[hu] at e;cases e
 |some d=>
  rw[hu] at e
  cases d with
  |slice el=>
   dsimp only at e
   obtain⟨i,h1,c1,l1,l2,e1,e2⟩:=bind_inv e
   obtain⟨e3,rfl,rfl⟩:=liftO_inv e1
   have ht:=tiOf_ok e3
   obtain⟨f,hf1,hf2,hf3,hf4⟩:=ht.info
   split at e2
   ·rename_i hb
    obtain⟨b1,b2⟩:=hb
    obtain⟨cs,h1,c1,l1,l2,e4,e5⟩:=bind_inv e2
    obtain⟨e6,rfl,rfl⟩:=liftO_inv e4
    obtain⟨x,h1,c1,l1,l2,e7,e8⟩:=bind_inv e5
    obtain⟨rfl,rfl,rfl⟩:=new_inv e7
    obtain⟨rfl,rfl,rfl⟩:=pure_inv e8
    have hp:=hf x (Nat.le_refl _) (by omega)
    have hz:VRs p i.zero.cells.toList i.zero.cells.toList:=cells_vrs (plain_vr 9 _ ht.plain)
    have hzs:=ht.zsize
    have ht0:=tiles_vrs hz (n:=len * i.size) (by
     rcases Nat.eq_zero_or_pos i.size with h0|h0
     ·left;rw[h0];omega
     ·right;simp only[Array.length_toList];omega)
    obtain⟨cs',q3,q4⟩:=xFill_ok _ hv e6 ht0
    obtain⟨q1,q2⟩:=newRow_gives (P:=P) hr hp _ cs' el i.size q4
    refine⟨_,_,.slice (some ⟨w.heap.size,0,none⟩) len len,?_,?_,q2,Plan.le_add hp,add_out⟩
    ·have hq:(Array.range (len * i.size)).map ((if len * i.size=0 then (#[]:Array Value) else i.zero.cells)[· % (if len * i.size=0 then (#[]:Array Value) else i.zero.cells).size]!)=madeCells i.zero.cells (len * i.size):=by
      unfold madeCells
      split
      ·rename_i h0;rw[h0];simp
      ·rfl
     unfold Instr.buildSlice
     rw[Sem.run_bind,run_underlying hu w,Result.andThen_ok]
     dsimp only
     rw[Sem.run_bind,run_sizeOf' ht w,Result.andThen_ok,if_neg (by omega)]
     by_cases h0:len * i.size=0
     ·rw[if_pos h0] at hq ⊢
      simp only[Sem.run_bind,Sem.run_pure,Result.andThen_ok]
      rw[hq,q3]
      simp only[Sem.run_bind,q1,Result.andThen_ok]
      rfl
     ·rw[if_neg h0] at hq ⊢
      simp only[Sem.run_bind,Sem.run_pure,run_zero ht,Result.andThen_ok]
      rw[hq,q3]
      simp only[Sem.run_bind,q1,Result.andThen_ok]
      rfl
    ·exact .slice (s:=⟨w.heap.size,0,_,_,undef,noF⟩) (Plan.add_self _ _ _) (by omega) b2
   ·cases e2
  |_=>cases e
end
end Ev
end Go.Proofs.YtcbkeecabcbogaaGreatDoor
namespace Go.Proofs.YtcbkeecabcbogaaGreatDoor
namespace Ev
open Go.RowKit
section
variable {P:Program} {K:Cfg} {base:Nat→Prop} {w0 w:World} {p:Plan} {h h':Tree AObj} {c c':Nat} {l:Log}
def nilsNow:TypeDesc→Value→Value→Option Bool
 | .pointer _,.pointer none,.pointer b=>some b.isNone
 | .pointer _,.pointer (some _),.pointer none=>some false
 | .slice _,.slice none _ _,.slice b _ _=>some b.isNone
 | .slice _,.slice (some _) _ _,.slice none _ _=>some false
 | .map _ _,.map none,.map b=>some b.isNone
 | .map _ _,.map (some _),.map none=>some false
 | .func _ _ _,.nilFunc,.nilFunc=>some true
 | .func _ _ _,.nilFunc,.func _ _ _=>some false
 | .func _ _ _,.func _ _ _,.nilFunc=>some false
 | .interface _,.nilIface,.iface _ _=>some false
 | .interface _,.iface _ _,.nilIface=>some false
 |_,_,_=>none
theorem nilsNow_vr {d:TypeDesc}{x x' y y':Value}{b:Bool}(e:nilsNow d x y=some b)(hx:VR p x x')(hy:VR p y y'):nilsNow d x' y'=some b:=by
 unfold nilsNow at e
 split at e <;> first
  |(cases e;cases hx <;> cases hy <;> rfl)
  |cases e
theorem run_nils {t:TypeId}{d:TypeDesc}{x y:Value}{b:Bool}(hu:P.underlying t=some d)(e:nilsNow d x y=some b)(w:World):(Op.equal t x y).run P w = .ok b w:=by
 unfold Op.equal Op.maxDepth Op.equalIn
 rw[Sem.run_bind,run_underlying hu w,Result.andThen_ok]
 unfold nilsNow at e
 split at e <;> first
  |(cases e;rfl)
  |cases e
def xNils (P:Program)(op:BinOp)(t:TypeId)(x y:Value):Option Value:=match P.underlying t with
 |some d=>match nilsNow d x y,op with
  |some b,.eql=>some (.bool b)
  |some b,.neq=>some (.bool !b)
  |_,_=>none
 |none=>none
theorem xNils_ok {op:BinOp}{t:TypeId}{a b:Operand}{x x' y y' r:Value}(e:xNils P op t x y=some r)(hx:VR p x x')(hy:VR p y y'):Pures P p (do eqGuard op t a b x' y';binOp op t x' y') VR r:=by
 intro w
 unfold xNils at e
 cases hu:P.underlying t with
 |none=>rw[hu] at e;cases e
 |some d=>
  rw[hu] at e
  dsimp only at e
  cases hn:nilsNow d x y with
  |none=>rw[hn] at e;cases op <;> cases e
  |some bb=>
   rw[hn] at e
   have hn':=nilsNow_vr hn hx hy
   have hr:=run_nils (P:=P) hu hn' w
   have hg:eqGuard op t a b x' y'=pure ():=by
    unfold nilsNow at hn'
    split at hn' <;> first
     |(cases op <;> rfl)
     |cases hn'
   have hb:∀ o:BinOp,o = .eql∨o = .neq→binOp o t x' y'=(do let q ← Op.equal t x' y';pure (.bool (if o = .eql then q else !q))):=by
    intro o ho
    unfold nilsNow at hn'
    split at hn' <;> first
     |(rcases ho with rfl|rfl <;> rfl)
     |cases hn'
   rw[hg]
   cases op <;> cases e
   ·refine⟨.bool bb,?_,.bool _⟩
    rw[Sem.run_bind]
    simp only[Sem.run_pure,Result.andThen_ok,hb .eql (.inl rfl),Sem.run_bind,hr]
    simp
   ·refine⟨.bool !bb,?_,.bool _⟩
    rw[Sem.run_bind]
    simp only[Sem.run_pure,Result.andThen_ok,hb .neq (.inr rfl),Sem.run_bind,hr]
    simp
end
end Ev
end Go.Proofs.YtcbkeecabcbogaaGreatDoor
namespace Go.Proofs.YtcbkeecabcbogaaGreatDoor
namespace Ev
open Go.RowKit
section
variable {P:Program} {K:Cfg} {base:Nat→Prop} {w0 w:World} {p:Plan} {h h':Tree AObj} {c c':Nat} {l:Log}
def isKeyB:TypeDesc→Value→Bool
 | .bool,.bool _=>true
 | .int k,.int k' _=>k'==k
 | .string,.string _=>true
 |_,_=>false
theorem isKeyB_ok {d:TypeDesc}{k:Value}(e:isKeyB d k=true):MapKept.IsKey d k:=by
 unfold isKeyB at e
 split at e
 ·trivial
 ·simpa [MapKept.IsKey] using e
 ·trivial
 ·cases e
theorem isKey_vr {d:TypeDesc}{k k':Value}(e:isKeyB d k=true)(hv:VR p k k'):k'=k:=by
 cases d <;> cases hv <;> first|rfl|cases e
def xFind (d:TypeDesc)(k:Value):List (Value×Value×Nat)→Nat→Option (Option (Nat×Value))
 | [],_=>some none
 |e :: es,i=>if isKeyB d e.1 then match Instr.sameNow d k e.1 with
  |some true=>some (some (i,e.2.1))
  |some false=>xFind d k es (i+1)
  |none=>none
  else none
def FR (p:Plan):Option (Nat×Value)→Option (Nat×Value)→Prop
 |none,none=>True
 |some a,some b=>a.1=b.1∧VR p a.2 b.2
 |_,_=>False
theorem xFind_ok {d:TypeDesc}{k:Value}:∀ {es:List (Value×Value×Nat)} {ms:List MapEntry} {i:Nat} {r:Option (Nat×Value)},xFind d k es i=some r→MRs p es ms→
  ∃ r',Instr.findNow d k ms i=some r'∧FR p r r'
 | [],[],_,_,e,_=>by cases e;exact⟨none,rfl,trivial⟩
 |e :: es,m :: ms,i,r,h,⟨⟨h1,h2,h3⟩,h4⟩=>by
  unfold xFind at h
  split at h
  ·rename_i hk
   have hm:=isKey_vr hk h1
   split at h
   ·rename_i hs
    cases h
    exact⟨some (i,m.val),by simp[Instr.findNow,hm,hs],rfl,h2⟩
   ·rename_i hs
    obtain⟨r',q1,q2⟩:=xFind_ok h h4
    exact⟨r',by simp[Instr.findNow,hm,hs,q1],q2⟩
   ·cases h
  ·cases h
 | [],_ :: _,_,_,_,h=>h.elim
 |_ :: _,[],_,_,_,h=>h.elim
def shapedKey:TypeDesc→Bool
 | .struct _=>true
 | .array _ _=>true
 |_=>false
def checksX (P:Program)(em:Bool)(kt:TypeId)(k:Value):Bool:=match pureOf P (Instr.checkKey em 10000 kt k) with
 |some (.ok _)=>true
 |_=>false
def keyAsk (P:Program)(kt:TypeId)(d:TypeDesc)(em:Bool)(k:Value):Bool:=isKeyB d k||(shapedKey d&&plainF 9 k&&checksX P em kt k)
def xFindA (P:Program)(kt:TypeId)(k:Value):List (Value×Value×Nat)→Nat→Option (Option (Nat×Value))
 | [],_=>some none
 |e :: es,i=>if plainF 9 e.1 then match pureOf P (Op.equal kt k e.1) with
  |some (.ok true)=>some (some (i,e.2.1))
  |some (.ok false)=>xFindA P kt k es (i+1)
  |_=>none
  else none
def findK (P:Program)(kt:TypeId)(d:TypeDesc)(k:Value)(es:List (Value×Value×Nat)):Option (Option (Nat×Value)):=
 if isKeyB d k then xFind d k es 0 else xFindA P kt k es 0
theorem xFindA_ok {kt:TypeId}{k:Value}:∀ {es:List (Value×Value×Nat)} {ms:List MapEntry} {i:Nat} {r:Option (Nat×Value)},xFindA P kt k es i=some r→MRs p es ms→
  ∃ r',(∀ w,(Instr.findAsking kt k ms i).run P w = .ok r' w)∧FR p r r'
 | [],[],_,_,e,_=>by cases e;exact⟨none,fun _=>rfl,trivial⟩
 |e :: es,m :: ms,i,r,h,⟨⟨h1,h2,h3⟩,h4⟩=>by
  unfold xFindA at h
  split at h
  ·rename_i hk
   have hm:=plain_eq 9 _ _ hk h1
   split at h
   ·rename_i hs
    cases h
    refine⟨some (i,m.val),fun w => ?_,rfl,h2⟩
    rw[Instr.findAsking,hm,Sem.run_bind,pureOf_ok _ hs w]
    rfl
   ·rename_i hs
    obtain⟨r',q1,q2⟩:=xFindA_ok h h4
    refine⟨r',fun w => ?_,q2⟩
    rw[Instr.findAsking,hm,Sem.run_bind,pureOf_ok _ hs w]
    exact q1 w
   ·cases h
  ·cases h
 | [],_ :: _,_,_,_,h=>h.elim
 |_ :: _,[],_,_,_,h=>h.elim
theorem checksX_ok {em:Bool}{kt:TypeId}{k:Value}(h:checksX P em kt k=true)(w:World):(Instr.checkKey em 10000 kt k).run P w = .ok () w:=by
 unfold checksX at h
 split at h
 ·rename_i u hu
  exact pureOf_ok _ hu w
 ·cases h
theorem keyAsk_vr {kt:TypeId}{d:TypeDesc}{em:Bool}{k k':Value}(e:keyAsk P kt d em k=true)(hv:VR p k k'):k'=k:=by
 unfold keyAsk at e
 simp only[Bool.or_eq_true,Bool.and_eq_true] at e
 rcases e with e|⟨⟨_,e⟩,_⟩
 ·exact isKey_vr e hv
 ·exact plain_eq 9 _ _ e hv
theorem keyAsk_check {kt:TypeId}{d:TypeDesc}{em:Bool}{k:Value}(hd:P.underlying kt=some d)(e:keyAsk P kt d em k=true)(w:World):(Instr.checkKey em 10000 kt k).run P w = .ok () w:=by
 unfold keyAsk at e
 simp only[Bool.or_eq_true,Bool.and_eq_true] at e
 rcases e with e|⟨_,e⟩
 ·exact MapKept.run_checkKey hd (isKeyB_ok e) em 9999
 ·exact checksX_ok e w
theorem findK_ok {kt:TypeId}{d:TypeDesc}{em:Bool}{k:Value}(hd:P.underlying kt=some d)(e:keyAsk P kt d em k=true){es:List (Value×Value×Nat)}{ms:List MapEntry}{r:Option (Nat×Value)}(h:findK P kt d k es=some r)(hm:MRs p es ms):
  ∃ r',(∀ w,(Instr.findKey kt k ms).run P w = .ok r' w)∧FR p r r':=by
 unfold findK at h
 split at h
 ·obtain⟨r',q1,q2⟩:=xFind_ok h hm
  exact⟨r',fun w=>MapKept.run_findKey hd q1,q2⟩
 ·rename_i hk
  unfold keyAsk at e
  simp only[Bool.or_eq_true,Bool.and_eq_true] at e
  rcases e with e|⟨⟨e,_⟩,_⟩
  ·exact absurd e hk
  ·obtain⟨r',q1,q2⟩:=xFindA_ok h hm
   refine⟨r',fun w => ?_,q2⟩
   unfold Instr.findKey
   rw[Sem.run_bind,run_underlying hd w,Result.andThen_ok]
   cases ms with
   |nil=>
    have:=q1 w
    rw[Instr.findAsking] at this
    exact this
   |cons m ms=>
    have:Instr.findNow d k (m :: ms) 0=none:=by
     unfold Instr.findNow
     have:Instr.sameNow d k m.key=none:=by cases d <;> first|rfl|cases e
     rw[this]
    rw[this]
    exact q1 w
theorem MRs.len:∀ {es:List (Value×Value×Nat)} {ms:List MapEntry},MRs p es ms→es.length=ms.length
 | [],[],_=>rfl
 |_ :: _,_ :: _,⟨_,h⟩=>by simp[MRs.len h]
 | [],_ :: _,h=>h.elim
 |_ :: _,[],h=>h.elim
theorem MRs.empty {es:List (Value×Value×Nat)}{ms:Array MapEntry}(h:MRs p es ms.toList):ms.isEmpty=es.isEmpty:=by
 have:=h.len
 cases es with
 |nil=>simp at this;simp[Array.isEmpty,this.symm]
 |cons=>simp at this;simp[Array.isEmpty,←this]
noncomputable def rdMap (b:Nat):M AObj (List (Value×Value×Nat)×Nat):=M.bind (M.read b) fun
 | .map es clock=>M.pure (es,clock)
 |_=>M.fail
theorem rdMap_inv {b:Nat}{y:List (Value×Value×Nat)×Nat}{h h2:Tree AObj}{c c2:Nat}{l:Log}(e:rdMap b h c = .ok y h2 c2 l):h.get b=some (.map y.1 y.2)∧h2=h∧c2=c:=by
 obtain⟨o,h1,c1,l1,l2,e1,e2⟩:=bind_inv e
 obtain⟨e3,rfl,rfl⟩:=read_inv e1
 split at e2
 ·obtain⟨rfl,rfl,rfl⟩:=pure_inv e2
  exact⟨e3,rfl,rfl⟩
 ·cases e2
theorem Rel.mapAt (hr:Rel K base w0 p h w){b:Nat}{es:List (Value×Value×Nat)}{clock:Nat}(hb:h.get b=some (.map es clock)){s:Spot}(hs:p b=some s):
  s.off=0∧∃ ms:Array MapEntry,w.heap[s.blk]? = some (.map ms clock)∧MRs p es ms.toList∧s.blk<w.heap.size:=by
 obtain⟨s',h1,hB,hlt,h2⟩:=hr.at_ b _ hb
 obtain rfl:s'=s:=Option.some.inj (h1.symm.trans hs)
 obtain⟨h0,ms,q1,q2⟩:=h2
 exact⟨h0,ms,q1,q2,hlt _ rfl⟩
theorem Rel.setMap (hr:Rel K base w0 p h w){b:Nat}{es es':List (Value×Value×Nat)}{clock clock':Nat}{ms':Array MapEntry}(hb:h.get b=some (.map es clock))(hK:K.n≤b){s:Spot}(hs:p b=some s)(hm:MRs p es' ms'.toList):
  Rel K base w0 p (h.set b (some (.map es' clock'))) { w with heap:=w.heap.setIfInBounds s.blk (.map ms' clock') }:=by
 obtain⟨h0,ms,q1,q2,hlt⟩:=hr.mapAt hb hs
 refine hr.turn hb hs hK (fun _ h=>h) (fun _ e=>by cases e) rfl rfl rfl (by simp) (fun k _ hk => ?_) ⟨h0,ms',by simp[hlt],hm⟩
 have:k≠s.blk:=hk
 simp[Ne.symm this]
noncomputable def xMakeMap:M AObj Value:=M.bind (M.new (.map [] 0)) fun b=>M.pure (.map (some b))
theorem xMakeMap_ok {t:TypeId}{r:Value}(e:xMakeMap h c = .ok r h' c' l)(hr:Rel K base w0 p h w)(hf:Free p c c'):Gives P K base w0 p w c c' h' VR (Instr.makeMap t none) r:=by
 obtain⟨b,h1,c1,l1,l2,e1,e2⟩:=bind_inv e
 obtain⟨rfl,rfl,rfl⟩:=new_inv e1
 obtain⟨rfl,rfl,rfl⟩:=pure_inv e2
 have hp:=hf b (Nat.le_refl _) (by omega)
 refine⟨p.add b ⟨w.heap.size,0,0,0,undef,noF⟩,w.alloc (.map #[] 0),.map (some w.heap.size),rfl,.map (s:=⟨w.heap.size,0,0,0,undef,noF⟩) (Plan.add_self _ _ _),hr.new hp _ _ _ rfl ?_,Plan.le_add hp,add_out⟩
 exact⟨rfl,#[],heap_alloc_new' _ _,trivial⟩
noncomputable def mapOf (v:Value):M AObj (List (Value×Value×Nat)):=match v with
 | .map none=>M.pure []
 | .map (some b)=>M.bind (rdMap b) fun r=>M.pure r.1
 |_=>M.fail
theorem mapOf_ok {v v':Value}{es:List (Value×Value×Nat)}(e:mapOf v h c = .ok es h' c' l)(hv:VR p v v')(hr:Rel K base w0 p h w):
  ∃ ms:Array MapEntry,((v' = .map none∧ms = #[])∨∃ b clock,v' = .map (some b)∧w.heap[b]? = some (.map ms clock))∧MRs p es ms.toList∧h'=h∧c'=c:=by
 unfold mapOf at e
 split at e
 ·obtain⟨rfl,rfl,rfl⟩:=pure_inv e
  cases hv
  exact⟨#[],.inl ⟨rfl,rfl⟩,trivial,rfl,rfl⟩
 ·rename_i b
  obtain⟨x,h1,c1,l1,l2,e1,e2⟩:=bind_inv e
  obtain⟨e3,rfl,rfl⟩:=rdMap_inv e1
  obtain⟨rfl,rfl,rfl⟩:=pure_inv e2
  cases hv with
  |map hs=>
   obtain⟨h0,ms,q1,q2,-⟩:=hr.mapAt e3 hs
   exact⟨ms,.inr ⟨_,_,rfl,q1⟩,q2,rfl,rfl⟩
 ·cases e
noncomputable def xLookup (P:Program)(t:TypeId)(m k:Value)(ok:Bool):M AObj Value:=match P.underlying t with
 |some (.map kt et)=>match P.underlying kt with
  |some d=>M.bind (mapOf m) fun es=>if keyAsk P kt d es.isEmpty k then M.bind (liftO (findK P kt d k es)) fun r=>match r with
   |some (_,v)=>M.pure (if ok then .tuple #[v,.bool true] else v)
   |none=>M.bind (liftO (tiOf P et)) fun i=>M.pure (if ok then .tuple #[i.zero,.bool false] else i.zero)
   else M.fail
  |none=>M.fail
 |_=>M.fail
theorem xLookup_ok {t:TypeId}{m m' k k' r:Value}{ok:Bool}(e:xLookup P t m k ok h c = .ok r h' c' l)(hm:VR p m m')(hk:VR p k k')(hr:Rel K base w0 p h w):Gives P K base w0 p w c c' h' VR (Instr.lookup t m' k' ok) r:=by
 unfold xLookup at e
 cases hu:P.underlying t with
 |none=>rw[hu] at e;cases e
 |some d=>
  rw[hu] at e
  obtain⟨kt,et,rfl⟩:∃ kt et,d = .map kt et:=by cases d <;> first|exact⟨_,_,rfl⟩|cases e
  dsimp only at e
  cases hk2:P.underlying kt with
  |none=>rw[hk2] at e;cases e
  |some d=>
   rw[hk2] at e
   dsimp only at e
   obtain⟨es,h1,c1,l1,l2,e1,e2⟩:=bind_inv e
   obtain⟨ms,q1,q2,rfl,rfl⟩:=mapOf_ok e1 hm hr
   split at e2
   ·rename_i hkey
    obtain rfl:=keyAsk_vr hkey hk
    rw[←q2.empty] at hkey
    have hck:=keyAsk_check hk2 hkey w
    obtain⟨f,h1,c1,l1,l2,e3,e4⟩:=bind_inv e2
    obtain⟨e5,rfl,rfl⟩:=liftO_inv e3
    obtain⟨f',q3,q4⟩:=findK_ok hk2 hkey e5 q2
    split at e4
    ·rename_i j v
     obtain⟨rfl,rfl,rfl⟩:=pure_inv e4
     obtain⟨b,rfl⟩:∃ b,f'=some b:=by cases f' with|none=>exact q4.elim|some b=>exact⟨b,rfl⟩
     obtain⟨j',v'⟩:=b
     refine Gives.quiet hr (y:=if ok then .tuple #[v',.bool true] else v') ?_ ?_
     ·rcases q1 with ⟨rfl,rfl⟩|⟨b,cl,rfl,hb⟩
      ·simp only[Instr.lookup,Sem.run_bind,run_underlying hu w,Sem.run_pure,hck,q3,Result.andThen_ok]
      ·simp only[Instr.lookup,Sem.run_bind,run_underlying hu w,Sem.run_pure,MapKept.run_getObj_map hb,hck,q3,Result.andThen_ok]
     cases ok
     ·exact q4.2
     ·exact .tuple (.cons q4.2 (.cons (.bool _) .nil))
    ·obtain⟨i,h1,c1,l1,l2,e6,e7⟩:=bind_inv e4
     obtain⟨e8,rfl,rfl⟩:=liftO_inv e6
     obtain⟨rfl,rfl,rfl⟩:=pure_inv e7
     obtain rfl:f'=none:=by cases f' with|none=>rfl|some b=>exact q4.elim
     have ht:=tiOf_ok e8
     refine Gives.quiet hr (y:=if ok then .tuple #[i.zero,.bool false] else i.zero) ?_ ?_
     ·rcases q1 with ⟨rfl,rfl⟩|⟨b,cl,rfl,hb⟩
      ·simp only[Instr.lookup,Sem.run_bind,run_underlying hu w,Sem.run_pure,hck,q3,Result.andThen_ok,run_zero ht w]
      ·simp only[Instr.lookup,Sem.run_bind,run_underlying hu w,Sem.run_pure,MapKept.run_getObj_map hb,hck,q3,Result.andThen_ok,run_zero ht w]
     ·cases ok
      ·exact plain_vr 9 _ ht.plain
      ·exact .tuple (.cons (plain_vr 9 _ ht.plain) (.cons (.bool _) .nil))
   ·cases e2
end
end Ev
end Go.Proofs.YtcbkeecabcbogaaGreatDoor
