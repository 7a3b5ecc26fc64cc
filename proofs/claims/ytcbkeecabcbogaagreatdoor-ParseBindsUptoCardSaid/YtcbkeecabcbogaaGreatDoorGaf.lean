/- The evaluator's further operations, held against the model's: writing to maps, lengths. No program in sight. The evaluator's operations all together, held against the model's. No program in sight. -/
import Derived.Test.YtcbkeecabcbogaaGreatDoorGae
import Derived.Lib.OthersKept
import Derived.Lib.ConvBytes
import Derived.Laws.RangeString
import Derived.Lib.AppendZeros
import Derived.Laws.IdiomCopy
import Derived.Laws.CopyRow
set_option linter.unusedSimpArgs false
set_option linter.unusedVariables false
namespace Go.Proofs.YtcbkeecabcbogaaGreatDoor
namespace Ev
open Go.RowKit
section
variable {P:Program} {K:Cfg} {base:Nat→Prop} {w0 w:World} {p:Plan} {h h':Tree AObj} {c c':Nat} {l:Log}
theorem xFind_key {d:TypeDesc}{k:Value}:∀ {es:List (Value×Value×Nat)} {i j:Nat} {v:Value},xFind d k es i=some (some (j,v))→
  ∃ i0 e,j=i+i0∧es[i0]? = some e∧isKeyB d e.1=true∧Instr.sameNow d k e.1=some true
 | [],_,_,_,e=>by cases e
 |e :: es,i,j,v,h=>by
  unfold xFind at h
  split at h
  ·rename_i hk
   split at h
   ·rename_i hs
    cases h
    exact⟨0,e,by omega,rfl,hk,hs⟩
   ·obtain⟨i0,e',q1,q2,q3,q4⟩:=xFind_key h
    exact⟨i0+1,e',by omega,by simpa using q2,q3,q4⟩
   ·cases h
  ·cases h
theorem MRs.get:∀ {es:List (Value×Value×Nat)} {ms:List MapEntry},MRs p es ms→∀ {i:Nat} {e:Value×Value×Nat},es[i]? = some e→∃ m,ms[i]? = some m∧MR p e m
 | [],[],_,i,e,h=>by simp at h
 |_ :: _,m :: _,⟨h1,_⟩,0,e,h=>by simp at h;subst h;exact⟨m,by simp,h1⟩
 |_ :: _,_ :: _,⟨_,h2⟩,i+1,e,h=>by simpa using MRs.get h2 (by simpa using h)
 | [],_ :: _,h,_,_,_=>h.elim
 |_ :: _,[],h,_,_,_=>h.elim
theorem MRs.push {e:Value×Value×Nat}{m:MapEntry}(hm:MR p e m):∀ {es:List (Value×Value×Nat)} {ms:List MapEntry},MRs p es ms→MRs p (es++[e]) (ms++[m])
 | [],[],_=>⟨hm,trivial⟩
 |_ :: _,_ :: _,⟨h1,h2⟩=>⟨h1,MRs.push hm h2⟩
 | [],_ :: _,h=>h.elim
 |_ :: _,[],h=>h.elim
def modX (k v:Value):List (Value×Value×Nat)→Nat→List (Value×Value×Nat)
 | [],_=>[]
 |e :: es,0=>(k,v,e.2.2) :: es
 |e :: es,i+1=>e :: modX k v es i
theorem MRs.mod {k k' v v':Value}(hk:VR p k k')(hv:VR p v v'):∀ {es:List (Value×Value×Nat)} {ms:List MapEntry},MRs p es ms→∀ i:Nat,MRs p (modX k v es i) (ms.modify i fun e=>{ e with key:=k',val:=v' })
 | [],[],_,i=>by cases i <;> trivial
 |_ :: _,m :: _,⟨⟨_,_,h3⟩,h2⟩,0=>⟨⟨hk,hv,h3⟩,h2⟩
 |_ :: _,_ :: _,⟨h1,h2⟩,i+1=>⟨h1,MRs.mod hk hv h2 i⟩
 | [],_ :: _,h,_=>h.elim
 |_ :: _,[],h,_=>h.elim
def keyStays (P:Program)(d:TypeDesc)(old k:Value):Option Value:=if isKeyB d k then some k else if plainF 9 old then match pureOf P (Instr.keyThatStays old k) with
 |some (.ok kk)=>if plainF 9 kk then some kk else none
 |_=>none
 else none
noncomputable def xMapUpdate (P:Program)(K:Cfg)(t:TypeId)(m k v:Value):M AObj Unit:=match P.underlying t with
 |some (.map kt _)=>match P.underlying kt with
  |some d=>match m with
   | .map (some b)=>M.bind (rdMap b) fun r=>if keyAsk P kt d false k∧K.n≤b then match findK P kt d k r.1 with
    |some (some (i,_))=>match r.1[i]? with
     |some e=>match keyStays P d e.1 k with
      |some kk=>M.write b (some (.map (modX kk v r.1 i) r.2))
      |none=>M.fail
     |none=>M.fail
    |some none=>M.write b (some (.map (r.1++[(k,v,r.2)]) (r.2+1)))
    |none=>M.fail
    else M.fail
   |_=>M.fail
  |none=>M.fail
 |_=>M.fail
theorem xMapUpdate_ok {t:TypeId}{m m' k k' v v':Value}{r:Unit}(e:xMapUpdate P K t m k v h c = .ok r h' c' l)(hm:VR p m m')(hk:VR p k k')(hv:VR p v v')(hr:Rel K base w0 p h w):Gives P K base w0 p w c c' h' (fun _ _ _=>True) (Instr.mapUpdate t m' k' v') r:=by
 unfold xMapUpdate at e
 cases hu:P.underlying t with
 |none=>rw[hu] at e;cases e
 |some d=>
  rw[hu] at e
  obtain⟨kt,et,rfl⟩:∃ kt et,d = .map kt et:=by cases d <;> first|exact⟨_,_,rfl⟩|cases e
  dsimp only at e
  cases hk2:P.underlying kt with
  |none=>rw[hk2] at e;cases e
  |some d=>
   rw[hk2] at e
   dsimp only at e
   split at e
   ·rename_i b
    obtain⟨x,h1,c1,l1,l2,e1,e2⟩:=bind_inv e
    obtain⟨e3,rfl,rfl⟩:=rdMap_inv e1
    obtain⟨es,clock⟩:=x
    dsimp only at e2 e3
    split at e2
    ·rename_i hkey
     obtain⟨hkey,hK⟩:=hkey
     obtain rfl:=keyAsk_vr hkey hk
     have hck:=keyAsk_check hk2 hkey w
     cases hm with
     |map hs=>
     rename_i s
     obtain⟨h0,ms,q1,q2,-⟩:=hr.mapAt e3 hs
     cases hf:findK P kt d k' es with
     |none=>rw[hf] at e2;cases e2
     |some ff=>
     rw[hf] at e2
     obtain⟨f',q3,q4⟩:=findK_ok hk2 hkey hf q2
     cases ff with
     |some iu=>
      obtain⟨i,u⟩:=iu
      dsimp only at e2
      cases hen:es[i]? with
      |none=>rw[hen] at e2;cases e2
      |some en=>
      rw[hen] at e2
      dsimp only at e2
      cases hks:keyStays P d en.1 k' with
      |none=>rw[hks] at e2;cases e2
      |some kk=>
      rw[hks] at e2
      obtain⟨rfl,rfl⟩:=write_inv e2
      obtain⟨b2,rfl⟩:∃ b,f'=some b:=by cases f' with|none=>exact q4.elim|some b=>exact⟨b,rfl⟩
      obtain⟨i',u'⟩:=b2
      obtain⟨q4,q5⟩:=q4
      dsimp only at q4
      subst q4
      obtain⟨mm,g5,g6⟩:=q2.get hen
      have g11:ms[i]? = some mm:=by simpa using g5
      have stay:(Instr.keyThatStays mm.key k').run P w = .ok kk w∧VR p kk kk:=by
       unfold keyStays at hks
       split at hks
       ·rename_i hkB
        cases hks
        have hkey':=isKeyB_ok hkB
        unfold findK at hf
        rw[if_pos hkB] at hf
        obtain⟨i0,en',g1,g2,g3,g4⟩:=xFind_key hf
        obtain rfl:i=i0:=by omega
        obtain rfl:en=en':=Option.some.inj (hen.symm.trans g2)
        have g7:=isKey_vr g3 g6.1
        have g8:k'=en.1:=by
         obtain⟨rr,g9,g10⟩:=MapKept.sameNow_of_keys hkey' (isKeyB_ok g3)
         rw[g9] at g4
         exact g10.1 (Option.some.inj g4)
        have g12:mm.key=k':=by rw[g7,g8]
        rw[g12]
        exact⟨MapKept.run_keyThatStays hkey',hk⟩
       ·split at hks
        ·rename_i hpl
         split at hks
         ·rename_i k2 hpo
          split at hks
          ·rename_i hpk
           cases hks
           rw[plain_eq 9 _ _ hpl g6.1]
           exact⟨pureOf_ok _ hpo w,plain_vr 9 _ hpk⟩
          ·cases hks
         ·cases hks
        ·cases hks
      refine⟨p,_,(),?_,trivial,hr.setMap (ms':=ms.modify i fun e=>{ e with key:=kk,val:=v' }) (clock':=clock) e3 hK hs ?_,Plan.le_refl _,fun _ _=>rfl⟩
      ·simp only[Instr.mapUpdate,Sem.run_bind,run_underlying hu w,Result.andThen_ok,MapKept.run_getObj_map q1,hck,q3,g11,Option.map_some,Option.getD_some,stay.1,MapKept.run_setObj_map _ q1]
      ·rw[Array.toList_modify]
       exact q2.mod stay.2 hv i
     |none=>
      dsimp only at e2
      obtain⟨rfl,rfl⟩:=write_inv e2
      obtain rfl:f'=none:=by cases f' with|none=>rfl|some b=>exact q4.elim
      refine⟨p,_,(),?_,trivial,hr.setMap (ms':=ms.push { key:=k',val:=v',born:=clock }) (clock':=clock+1) e3 hK hs ?_,Plan.le_refl _,fun _ _=>rfl⟩
      ·simp only[Instr.mapUpdate,Sem.run_bind,run_underlying hu w,Result.andThen_ok,MapKept.run_getObj_map q1,hck,q3,MapKept.run_setObj_map _ q1]
      ·rw[Array.toList_push]
       exact q2.push ⟨hk,hv,rfl⟩
    ·cases e2
   ·cases e
noncomputable def xRange (P:Program)(t:TypeId)(v:Value):M AObj Value:=match P.underlying t with
 |some .string=>match v with
  | .string s=>M.bind (M.new (.siter s 0)) fun b=>M.pure (.pointer (some ⟨b,0,none⟩))
  |_=>M.fail
 |_=>M.fail
noncomputable def rdIter (b:Nat):M AObj (ByteArray×Nat):=M.bind (M.read b) fun
 | .siter s pos=>M.pure (s,pos)
 |_=>M.fail
noncomputable def xNext (K:Cfg)(v:Value)(isString:Bool):M AObj Value:=match v with
 | .pointer (some ⟨b,0,none⟩)=>M.bind (rdIter b) fun r=>if isString=true∧K.n≤b then
   (if r.2<r.1.size then M.bind (M.write b (some (.siter r.1 (r.2+(Utf8.decode r.1 r.2).2)))) fun _=>M.pure (.tuple #[.bool true,.int .i64 r.2,.int .i32 (Utf8.decode r.1 r.2).1])
   else M.pure (.tuple #[.bool false]))
  else M.fail
 |_=>M.fail
noncomputable def xStrBytes (P:Program)(src d:TypeId)(s:ByteArray):M AObj Value:=match P.underlying src with
 |none=>M.fail
 |some _=>match P.underlying d with
  |some (.slice e)=>match P.underlying e with
   |some (.int .u8)=>if s.size≤1000000 then M.bind (M.new (.row (s.data.toList.map fun b => .int .u8 b.toNat) e 1)) fun q=>M.pure (.slice (some ⟨q,0,none⟩) s.size unk) else M.fail
   |_=>M.fail
  |_=>M.fail
theorem bytes_vrs {p:Plan}:∀ l:List UInt8,VRs p (l.map fun b => .int .u8 b.toNat) (l.map fun b => .int .u8 b.toNat)
 | [] => .nil
 |_ :: l => .cons (.int _ _) (bytes_vrs l)
theorem bytes_below (w:World)(e:TypeId)(s:ByteArray):Below w.heap.size w (Lib.bytesWorld w e s):=by
 refine⟨?_,?_,?_,?_,fun k hk=>Lib.bytesWorld_at_old w e s k hk⟩
 ·rfl
 ·rfl
 ·rfl
 ·rw[Lib.bytesWorld_size];omega
theorem xStrBytes_ok {src d:TypeId}{s:ByteArray}{v' r:Value}(e:xStrBytes P src d s h c = .ok r h' c' l)(hv:VR p (.string s) v')(hr:Rel K base w0 p h w)(hf:Free p c c'):Gives P K base w0 p w c c' h' VR (convert src d v') r:=by
 unfold xStrBytes at e
 cases hs:P.underlying src with
 |none=>rw[hs] at e;cases e
 |some us=>
  rw[hs] at e
  dsimp only at e
  cases hd:P.underlying d with
  |none=>rw[hd] at e;cases e
  |some ud=>
   rw[hd] at e
   obtain⟨el,rfl⟩:∃ el,ud = .slice el:=by cases ud <;> first|exact⟨_,rfl⟩|cases e
   dsimp only at e
   cases he:P.underlying el with
   |none=>rw[he] at e;cases e
   |some ue=>
    rw[he] at e
    obtain rfl:ue = .int .u8:=by
     cases ue with
     |int k=>cases k <;> first|rfl|cases e
     |_=>cases e
    dsimp only at e
    split at e
    ·rename_i hsz
     cases hv
     obtain⟨q,h1,c1,l1,l2,e1,e2⟩:=bind_inv e
     obtain⟨rfl,rfl,rfl⟩:=new_inv e1
     obtain⟨rfl,rfl,rfl⟩:=pure_inv e2
     have hp:=hf q (Nat.le_refl _) (by omega)
     have hg:s.size≤grownCap w s.size 0 el∧grownCap w s.size 0 el≤maxLen:=⟨grownCap_ge w s.size 0 el,grownCap_le_maxLen w s.size 0 el (by unfold maxLen;omega)⟩
     have hbl:(Lib.bytesCells w el s).size=grownCap w s.size 0 el:=by
      unfold Lib.bytesCells
      simp
      have:s.data.size=s.size:=rfl
      omega
     have hrel:=hr.found (c:=q) (bytes_below w el s) hp (s:=⟨w.heap.size,0,(Lib.bytesCells w el s).size,1,undef,noF⟩) (Nat.le_refl _) (by rw[Lib.bytesWorld_size];exact Nat.lt_succ_self _) (.row (s.data.toList.map fun b => .int .u8 b.toNat) el 1) (by
      refine⟨rfl,Lib.bytesCells w el s,_,Lib.bytesWorld_at_new w el s,rfl,?_,?_,fun j hj=>by have h0:ext 1=0:=rfl;rw[h0] at hj;simp;omega,fun hh=>absurd rfl hh⟩
      ·simp
       rw[hbl]
       have:s.data.size=s.size:=rfl
       omega
      ·have e0:((Lib.bytesCells w el s).toList.drop 0).take (s.data.toList.map fun b=>(Value.int .u8 b.toNat)).length=s.data.toList.map fun b => .int .u8 b.toNat:=by
        unfold Lib.bytesCells
        simp
       rw[e0]
       exact bytes_vrs _)
     refine⟨_,_,_,Lib.run_convert_string_bytes w src d el s hs hd he,?_,hrel,Plan.le_add hp,add_out⟩
     have:=VR.sliceU (p:=p.add q ⟨w.heap.size,0,(Lib.bytesCells w el s).size,1,undef,noF⟩) (b:=q) (o:=0) (n:=s.size) (c:=grownCap w s.size 0 el) (Plan.add_self _ _ _) hg.1 hg.2 (by show 0+0+grownCap w s.size 0 el * 1≤(Lib.bytesCells w el s).size;omega)
     exact this
    ·cases e
theorem rdIter_inv {b:Nat}{y:ByteArray×Nat}{h h2:Tree AObj}{c c2:Nat}{l:Log}(e:rdIter b h c = .ok y h2 c2 l):h.get b=some (.siter y.1 y.2)∧h2=h∧c2=c:=by
 obtain⟨o,h1,c1,l1,l2,e1,e2⟩:=bind_inv e
 obtain⟨e3,rfl,rfl⟩:=read_inv e1
 split at e2
 ·obtain⟨rfl,rfl,rfl⟩:=pure_inv e2
  exact⟨e3,rfl,rfl⟩
 ·cases e2
theorem xRange_ok {t:TypeId}{v v' r:Value}(e:xRange P t v h c = .ok r h' c' l)(hv:VR p v v')(hr:Rel K base w0 p h w)(hf:Free p c c'):Gives P K base w0 p w c c' h' VR (Instr.range t v') r:=by
 unfold xRange at e
 cases hu:P.underlying t with
 |none=>rw[hu] at e;cases e
 |some d=>
  rw[hu] at e
  obtain rfl:d = .string:=by cases d <;> first|rfl|cases e
  dsimp only at e
  split at e
  ·cases hv
   obtain⟨b,h1,c1,l1,l2,e1,e2⟩:=bind_inv e
   obtain⟨rfl,rfl,rfl⟩:=new_inv e1
   obtain⟨rfl,rfl,rfl⟩:=pure_inv e2
   have hp:=hf b (Nat.le_refl _) (by omega)
   rename_i s
   refine⟨p.add b ⟨w.heap.size,0,0,0,undef,noF⟩,w.alloc (.stringIter s 0),.pointer (some ⟨w.heap.size,0,none⟩),run_range_string w t s hu,.ptr (s:=⟨w.heap.size,0,0,0,undef,noF⟩) (Plan.add_self _ _ _),hr.new hp _ _ _ rfl ?_,Plan.le_add hp,add_out⟩
   exact⟨rfl,heap_alloc_new' _ _⟩
  ·cases e
theorem Rel.setIter (hr:Rel K base w0 p h w){b:Nat}{str:ByteArray}{pos pos':Nat}(hb:h.get b=some (.siter str pos))(hK:K.n≤b){s:Spot}(hs:p b=some s):
  Rel K base w0 p (h.set b (some (.siter str pos'))) { w with heap:=w.heap.setIfInBounds s.blk (.stringIter str pos') }:=by
 obtain⟨s',q1,hB,hlt,h0,q2⟩:=hr.at_ b _ hb
 obtain rfl:s'=s:=Option.some.inj (q1.symm.trans hs)
 refine hr.turn hb hs hK (fun _ h=>h) (fun _ e=>by cases e) rfl rfl rfl (by simp) (fun k _ hk => ?_) ⟨h0,by simp[hlt s'.blk rfl]⟩
 have:k≠s'.blk:=hk
 simp[Ne.symm this]
theorem xNext_ok {v v' r:Value}{is:Bool}{ty:TypeId}(e:xNext K v is h c = .ok r h' c' l)(hv:VR p v v')(hr:Rel K base w0 p h w):Gives P K base w0 p w c c' h' VR (Instr.next v' is ty) r:=by
 unfold xNext at e
 split at e
 ·rename_i b
  obtain⟨x,h1,c1,l1,l2,e1,e2⟩:=bind_inv e
  obtain⟨e3,rfl,rfl⟩:=rdIter_inv e1
  obtain⟨str,pos⟩:=x
  dsimp only at e2 e3
  split at e2
  ·rename_i hc
   obtain⟨rfl,hK⟩:=hc
   cases hv with
   |ptr hs=>
   rename_i s
   obtain⟨s',q1,-,-,h0,q2⟩:=hr.at_ b _ e3
   obtain rfl:s'=s:=Option.some.inj (q1.symm.trans hs)
   rw[h0]
   split at e2
   ·rename_i hlt
    obtain⟨u,h2,c2,l3,l4,e4,e5⟩:=bind_inv e2
    obtain⟨rfl,rfl⟩:=write_inv e4
    obtain⟨rfl,rfl,rfl⟩:=pure_inv e5
    exact⟨p,_,_,Lib.run_next_any_at w s'.blk str pos ty q2 hlt,.tuple (.cons (.bool _) (.cons (.int _ _) (.cons (.int _ _) .nil))),hr.setIter e3 hK hs,Plan.le_refl _,fun _ _=>rfl⟩
   ·rename_i hlt
    obtain⟨rfl,rfl,rfl⟩:=pure_inv e2
    exact Gives.quiet hr (Lib.run_next_end_at w s'.blk str pos ty q2 hlt) (.tuple (.cons (.bool _) .nil))
  ·cases e2
 ·cases e
noncomputable def xLen (P:Program)(t:TypeId)(v:Value):M AObj Value:=match P.underlying t with
 |some .string=>match v with
  | .string s=>M.pure (goInt s.size)
  |_=>M.fail
 |some (.slice _)=>match v with
  | .slice _ n _=>M.pure (goInt n)
  |_=>M.fail
 |some (.array n _)=>M.pure (goInt n)
 |some (.map _ _)=>M.bind (mapOf v) fun es=>M.pure (goInt es.length)
 |_=>M.fail
theorem xLen_ok {t:TypeId}{v v' r:Value}{ats:Array TypeId}{ty:TypeId}{args:Array Value}(e:xLen P t v h c = .ok r h' c' l)(ha:ats[0]? = some t)(hb:args[0]? = some v')(hv:VR p v v')(hr:Rel K base w0 p h w):Gives P K base w0 p w c c' h' VR (Builtin.len_ ats ty args) r:=by
 unfold xLen at e
 cases hu:P.underlying t with
 |none=>rw[hu] at e;cases e
 |some d=>
  rw[hu] at e
  cases d with
  |string=>
   dsimp only at e
   split at e
   ·obtain⟨rfl,rfl,rfl⟩:=pure_inv e
    cases hv
    refine Gives.quiet hr ?_ (.int _ _)
    simp only[Builtin.len_,ha,hb,Sem.run_bind,run_underlying hu w,Result.andThen_ok,Sem.run_pure]
    rfl
   ·cases e
  |slice=>
   dsimp only at e
   split at e
   ·obtain⟨rfl,rfl,rfl⟩:=pure_inv e
    cases hv <;>
    ·refine Gives.quiet hr ?_ (.int _ _)
     simp only[Builtin.len_,ha,hb,Sem.run_bind,run_underlying hu w,Result.andThen_ok,Sem.run_pure]
     rfl
   ·cases e
  |array n el=>
   obtain⟨rfl,rfl,rfl⟩:=pure_inv e
   refine Gives.quiet hr ?_ (.int _ _)
   simp only[Builtin.len_,ha,hb,Sem.run_bind,run_underlying hu w,Result.andThen_ok,Sem.run_pure]
   rfl
  |map=>
   obtain⟨es,h1,c1,l1,l2,e1,e2⟩:=bind_inv e
   obtain⟨ms,q1,q2,rfl,rfl⟩:=mapOf_ok e1 hv hr
   obtain⟨rfl,rfl,rfl⟩:=pure_inv e2
   have hl:=q2.len
   refine Gives.quiet hr ?_ (.int _ _)
   rcases q1 with ⟨rfl,rfl⟩|⟨b,cl,rfl,hb2⟩
   ·simp only[Builtin.len_,ha,hb,Sem.run_bind,run_underlying hu w,Result.andThen_ok,Sem.run_pure]
    rw[hl]
    rfl
   ·simp only[Builtin.len_,ha,hb,Sem.run_bind,run_underlying hu w,Result.andThen_ok,Sem.run_pure,MapKept.run_getObj_map hb2]
    rw[hl]
    rfl
  |_=>cases e
noncomputable def xCap (P:Program)(t:TypeId)(v:Value):M AObj Value:=match P.underlying t with
 |some (.slice _)=>match v with
  | .slice _ _ n=>if n≤maxLen then M.pure (goInt n) else M.fail
  |_=>M.fail
 |some (.array n _)=>M.pure (goInt n)
 |_=>M.fail
theorem xCap_ok {t:TypeId}{v v' r:Value}{ats:Array TypeId}{ty:TypeId}{args:Array Value}(e:xCap P t v h c = .ok r h' c' l)(ha:ats[0]? = some t)(hb:args[0]? = some v')(hv:VR p v v')(hr:Rel K base w0 p h w):Gives P K base w0 p w c c' h' VR (Builtin.cap_ ats ty args) r:=by
 unfold xCap at e
 cases hu:P.underlying t with
 |none=>rw[hu] at e;cases e
 |some d=>
  rw[hu] at e
  cases d with
  |slice=>
   dsimp only at e
   split at e
   ·split at e
    ·rename_i hn
     obtain⟨rfl,rfl,rfl⟩:=pure_inv e
     have hub:=unk_big
     cases hv with
     |sliceU=>omega
     |sliceE=>omega
     |_=>
      refine Gives.quiet hr ?_ (.int _ _)
      simp only[Builtin.cap_,ha,hb,Sem.run_bind,run_underlying hu w,Result.andThen_ok,Sem.run_pure]
      rfl
    ·cases e
   ·cases e
  |array n el=>
   obtain⟨rfl,rfl,rfl⟩:=pure_inv e
   refine Gives.quiet hr ?_ (.int _ _)
   simp only[Builtin.cap_,ha,hb,Sem.run_bind,run_underlying hu w,Result.andThen_ok,Sem.run_pure]
   rfl
  |_=>cases e
noncomputable def xAppendZ (P:Program)(t tx:TypeId)(s x:Value):M AObj Value:=match P.underlying t,P.underlying tx with
 |some (.slice e),some (.int _)=>match s,x with
  | .slice none 0 0,.int _ a=>M.bind (liftO (tiOf P e)) fun i=>
   if 0<a∧0<i.size∧a.toNat≤maxLen∧a.toNat * i.bytes≤maxBytes then
    M.bind (newRowX (tilesX i.zero.cells.toList (a.toNat * i.size)) e i.size) fun q=>M.pure (.slice (some ⟨q,0,none⟩) a.toNat unk)
   else M.fail
  |_,_=>M.fail
 |_,_=>M.fail
theorem zeroCells_eq (z:Array Value)(n:Nat):Builtin.zeroCells z n=madeCells z (n * z.size):=rfl
theorem xAppendZ_ok {t tx ty:TypeId}{s s' x x' r:Value}(e:xAppendZ P t tx s x h c = .ok r h' c' l)(hs:VR p s s')(hx:VR p x x')(hr:Rel K base w0 p h w)(hf:Free p c c'):
  Gives P K base w0 p w c c' h' VR (Builtin.append_ #[t,tx] ty #[s',x']) r:=by
 unfold xAppendZ at e
 cases hu:P.underlying t with
 |none=>rw[hu] at e;cases e
 |some d=>
 cases hux:P.underlying tx with
 |none=>rw[hu,hux] at e;cases d <;> cases e
 |some dx=>
 rw[hu,hux] at e
 cases d with
 |slice el=>
  cases dx with
  |int kn=>
   dsimp only at e
   split at e
   ·rename_i k a
    cases hs
    cases hx
    obtain⟨i,h1,c1,l1,l2,e1,e2⟩:=bind_inv e
    obtain⟨e3,rfl,rfl⟩:=liftO_inv e1
    have ht:=tiOf_ok e3
    obtain⟨f,hf1,hf2,hf3,hf4⟩:=ht.info
    split at e2
    ·rename_i hb
     obtain⟨b1,b2,b3,b4⟩:=hb
     obtain⟨n,rfl⟩:∃ n:Nat,a=n:=⟨a.toNat,by omega⟩
     rw[Int.toNat_natCast] at b3 b4 e2
     obtain⟨q,h1,c1,l1,l2,e4,e5⟩:=bind_inv e2
     obtain⟨rfl,rfl,rfl⟩:=new_inv e4
     obtain⟨rfl,rfl,rfl⟩:=pure_inv e5
     have hp:=hf q (Nat.le_refl _) (by omega)
     have hz:VRs p i.zero.cells.toList i.zero.cells.toList:=cells_vrs (plain_vr 9 _ ht.plain)
     have hzs:=ht.zsize
     have hrun:=Lib.run_append_nil_zeros w t tx ty el f i.zero k kn hu hux hf1 hf4 n (by omega) (by rw[hf2];exact b2) (by unfold maxLen at b3;omega) (by rw[hf3];unfold maxBytes at b4;omega)
     have hge:=grownCap_ge w n 0 el
     have hle:=grownCap_le_maxLen w n 0 el b3
     generalize grownCap w n 0 el=C at hrun hge hle
     rw[zeroCells_eq,zeroCells_eq,hzs] at hrun
     have hmul:n * i.size+(C - n) * i.size=C * i.size:=by rw[←Nat.add_mul];congr 1;omega
     have ht0:=tiles_vrs hz (n:=n * i.size) (.inr (by simp only[Array.length_toList];omega))
     have hlen:=ht0.len
     simp only[Array.length_toList,size_madeCells] at hlen
     refine⟨p.add q ⟨w.heap.size,0,C * i.size,i.size,undef,noF⟩,_,.slice (some ⟨w.heap.size,0,none⟩) n C,hrun,?_,?_,Plan.le_add hp,add_out⟩
     ·refine VR.sliceU (s:=⟨w.heap.size,0,C * i.size,i.size,undef,noF⟩) (Plan.add_self _ _ _) hge hle ?_
      simp
     ·refine(hr.drew).new hp _ _ _ rfl ⟨rfl,_,((0,0):Nat×Nat),heap_alloc_new' _ _,?_,?_,?_,fun j _=>by simp,fun _=>rfl⟩
      ·rw[Array.size_append,size_madeCells,size_madeCells];exact hmul
      ·show 0+_≤_
       rw[Array.size_append,size_madeCells,size_madeCells,hlen];omega
      ·have e1:((madeCells i.zero.cells (n * i.size)++madeCells i.zero.cells ((C - n) * i.size)).toList.drop 0).take (tilesX i.zero.cells.toList (n * i.size)).length=(madeCells i.zero.cells (n * i.size)).toList:=by
        rw[List.drop_zero,Array.toList_append,hlen]
        exact List.take_left' (by simp[size_madeCells])
       rw[e1]
       exact ht0.mono (Plan.le_add hp)
    ·cases e2
   ·cases e
  |_=>cases e
 |_=>cases dx <;> cases e
noncomputable def xCopy (P:Program)(K:Cfg)(t:TypeId)(d x:Value):M AObj Value:=match P.underlying t with
 |some (.slice e)=>M.bind (liftO (tiOf P e)) fun i=>match d,x with
  | .slice (some ⟨_,_,none⟩) _ _,.slice none 0 0=>M.pure (goInt 0)
  | .slice (some ⟨b,o,none⟩) n cp,.slice (some ⟨b',o',none⟩) n' cp'=>
   if cp=unkE∨cp'=unkE then M.fail else M.bind (rdRow b') fun r'=>
    if ((r'.1.drop o').take (Nat.min n' n * i.size)).length=Nat.min n' n * i.size∧((r'.1.drop o').take (Nat.min n' n * i.size)).all (·.oneCell')=true then
     M.bind (rdRow b) fun r=>if K.n≤b∧o+Nat.min n' n * i.size≤r.1.length then
      M.bind (M.write b (some (.row (putAll r.1 o ((r'.1.drop o').take (Nat.min n' n * i.size))) r.2.1 r.2.2))) fun _=>M.pure (goInt (Nat.min n' n))
     else M.fail
    else M.fail
  |_,_=>M.fail
 |_=>M.fail
theorem run_copy_all (w:World)(dT sT ty elem:TypeId)(b o dLen dCap:Nat)(a:Addr)(sLen sCap:Nat)(cs:List Value)(i:TypeInfo)
  (hu:P.underlying dT=some (.slice elem)) (hi:P.info? elem=some i) (hn:cs.length=Nat.min sLen dLen * i.size)
  (hsrc:∀ j v,cs[j]? = some v→w.cell? (a.add j)=some v) (hc:∀ j,j<cs.length→(w.cell? ⟨b,o+j,none⟩).isSome=true) (hf:∀ j,j<cs.length→w.frozen? ⟨b,o+j,none⟩=false) (h1:∀ v∈cs,v.oneCell'=true):
  (Builtin.copy_ #[dT,sT] ty #[.slice (some ⟨b,o,none⟩) dLen dCap,.slice (some a) sLen sCap]).run P w = .ok (goInt (Nat.min sLen dLen)) (w.setCells b o cs):=by
 have hl:=run_loadCells_list (P:=P) w a cs hsrc
 have hst:=run_storeCells_cells (P:=P) b o cs 0 w (by simpa using hc) (by simpa using hf) h1
 simp[Builtin.copy_,run_underlying hu,Builtin.lenOf,Builtin.firstCells,sizeOf,typeInfo,hi,←hn,hl,hst]
theorem xCopy_ok {t tx ty:TypeId}{d d' x x' r:Value}(e:xCopy P K t d x h c = .ok r h' c' l)(hs:VR p d d')(hx:VR p x x')(hr:Rel K base w0 p h w):Gives P K base w0 p w c c' h' VR (Builtin.copy_ #[t,tx] ty #[d',x']) r:=by
 unfold xCopy at e
 cases hu:P.underlying t with
 |none=>rw[hu] at e;cases e
 |some dd=>
 rw[hu] at e
 cases dd with
 |slice el=>
  dsimp only at e
  obtain⟨i,h1,c1,l1,l2,e1,e2⟩:=bind_inv e
  obtain⟨e3,rfl,rfl⟩:=liftO_inv e1
  have ht:=tiOf_ok e3
  obtain⟨f,hf1,hf2,hf3,hf4⟩:=ht.info
  split at e2
  ·rename_i b o n cp
   obtain⟨rfl,rfl,rfl⟩:=pure_inv e2
   obtain⟨s,O,cc,hsp,rfl,hn,hm,hO⟩:=slice_some hs
   cases hx
   exact Gives.quiet hr (run_copy_nil P w t tx ty el _ n cc hu (by rw[hf1];rfl)) (.int _ _)
  ·rename_i b o n cp b' o' n' cp'
   obtain⟨s,O,cc,hsp,rfl,hn,hm,hO⟩:=slice_some hs
   obtain⟨s',O',cc',hsp',rfl,hn',hm',hO'⟩:=slice_some hx
   split at e2
   ·cases e2
   ·rename_i hnu
    rw[not_or] at hnu
    obtain rfl:O=s.off+o:=by
     rcases hO with h|h|h
     ·exact h.2
     ·exact h.2.1
     ·exact absurd h.1 hnu.1
    obtain rfl:O'=s'.off+o':=by
     rcases hO' with h|h|h
     ·exact h.2
     ·exact h.2.1
     ·exact absurd h.1 hnu.2
    obtain⟨r1,h2,c2,l3,l4,e4,e5⟩:=bind_inv e2
    obtain⟨e6,rfl,rfl⟩:=rdRow_inv e4
    split at e5
    ·rename_i hc
     obtain⟨r2,h3,c3,l5,l6,e7,e8⟩:=bind_inv e5
     obtain⟨e9,rfl,rfl⟩:=rdRow_inv e7
     split at e8
     ·rename_i hk
      obtain⟨u,h4,c4,l7,l8,e10,e11⟩:=bind_inv e8
      obtain⟨rfl,rfl⟩:=write_inv e10
      obtain⟨rfl,rfl,rfl⟩:=pure_inv e11
      obtain⟨vs,g1,g2,g3⟩:=rows_range hr e6 hsp' o' (Nat.min n' n * i.size) hc.1
      have key:∀ j,j<vs.length→(w.cell? ⟨s.blk,s.off+o+j,none⟩).isSome=true∧w.frozen? ⟨s.blk,s.off+o+j,none⟩=false:=fun j hj=>by
       obtain⟨u,hu'⟩:∃ u,r2.1[o+j]? = some u:=⟨_,List.getElem?_eq_getElem (by have:=hk.2;omega)⟩
       obtain⟨u',k1,-,k3⟩:=hr.load e9 hu' hsp
       rw[show s.off+o+j=s.off+(o+j) by omega]
       exact⟨by rw[k1];rfl,k3⟩
      have hrun:=run_copy_all (P:=P) w t tx ty el s.blk (s.off+o) n cc ⟨s'.blk,s'.off+o',none⟩ n' cc' vs f hu hf1 (by rw[hf2];exact g2) (fun j u hj=>by rw[Addr.add_mid];exact g1 j u hj) (fun j hj=>(key j hj).1) (fun j hj=>(key j hj).2) (oneCells_vrs g3 (fun v hv=>List.all_eq_true.1 hc.2 v hv))
      exact⟨p,_,_,hrun,.int _ _,hr.stores g3 e9 hk.1 (by have:=hk.2;have:=hc.1;omega) hsp,Plan.le_refl _,fun _ _=>rfl⟩
     ·cases e8
    ·cases e5
  ·cases e2
 |_=>cases e
end
end Ev
end Go.Proofs.YtcbkeecabcbogaaGreatDoor
namespace Go.Proofs.YtcbkeecabcbogaaGreatDoor
namespace Ev
open Go.RowKit
abbrev Env:=Operand→Option Value
def EnvR (p:Plan)(ρ:Env)(ρ':Operand→Value):Prop:=∀ x v,ρ x=some v→VR p v (ρ' x)
def evals (ρ:Env):List Operand→Option (List Value)
 | []=>some []
 |x :: l=>match ρ x with
  |some v=>match evals ρ l with
   |some vs=>some (v :: vs)
   |none=>none
  |none=>none
theorem evals_vrs {p:Plan}{ρ:Env}{ρ':Operand→Value}(hρ:EnvR p ρ ρ'):∀ {xs:List Operand} {vs:List Value},evals ρ xs=some vs→VRs p vs (xs.map ρ')
 | [],_,e=>by cases e;exact .nil
 |x :: l,vs,e=>by
  unfold evals at e
  cases hx:ρ x with
  |none=>rw[hx] at e;cases e
  |some v=>
   rw[hx] at e
   cases hl:evals ρ l with
   |none=>rw[hl] at e;cases e
   |some us=>
    rw[hl] at e
    cases e
    exact .cons (hρ x v hx) (evals_vrs hρ hl)
def evalsP (ρ:Env):List (Nat×Operand)→Option (List (Nat×Value))
 | []=>some []
 |(i,x) :: l=>match ρ x with
  |some v=>match evalsP ρ l with
   |some vs=>some ((i,v) :: vs)
   |none=>none
  |none=>none
theorem evalsP_pr {p:Plan}{ρ:Env}{ρ':Operand→Value}(hρ:EnvR p ρ ρ'):∀ {xs:List (Nat×Operand)} {vs:List (Nat×Value)},evalsP ρ xs=some vs→PR p vs (xs.map fun (i,x)=>(i,ρ' x))
 | [],_,e=>by cases e;exact .nil
 |(i,x) :: l,vs,e=>by
  unfold evalsP at e
  cases hx:ρ x with
  |none=>rw[hx] at e;cases e
  |some v=>
   rw[hx] at e
   cases hl:evalsP ρ l with
   |none=>rw[hl] at e;cases e
   |some us=>
    rw[hl] at e
    cases e
    exact .cons (hρ x v hx) (evalsP_pr hρ hl)
inductive OR where
 |val (v:Value)
 |skip
 |enter (f:FuncId) (args:List Value)
 |defer (f:FuncId) (args:List Value)
 |recover
 |panic (v:Value)
section
variable {P:Program} {K:Cfg} {base:Nat→Prop} {w0 w:World} {p:Plan} {h h':Tree AObj} {c c':Nat} {l:Log}
def NV (p:Plan)(v:Value)(n:Next):Prop:=∃ v',n = .value v'∧VR p v v'
def GivesO (P:Program)(K:Cfg)(base:Nat→Prop)(w0:World)(p:Plan)(w:World)(c c':Nat)(h':Tree AObj)(t:Sem Next)(x:OR):Prop:=match x with
 | .val v=>Gives P K base w0 p w c c' h' NV t v
 | .skip=>Gives P K base w0 p w c c' h' (fun _ (_:Unit) n=>n = .skip) t ()
 | .enter f args=>Gives P K base w0 p w c c' h' (fun p xs n=>∃ ys,n = .enter f ys∧VRs p xs ys.toList) t args
 | .defer f args=>Gives P K base w0 p w c c' h' (fun p xs n=>∃ ys cap,n = .defer ⟨.fn (.func f) cap,ys⟩∧VRs p xs (ys++cap).toList) t args
 | .recover=>Gives P K base w0 p w c c' h' (fun _ (_:Unit) n=>n = .recover) t ()
 | .panic v=>∃ v',t.run P w = .halt (.panic v') w∧VR p v v'∧Rel K base w0 p h' w∧c'=c
noncomputable def ofV (m:M AObj Value):M AObj OR:=M.bind m fun v=>M.pure (.val v)
noncomputable def ofU (m:M AObj Unit):M AObj OR:=M.bind m fun _=>M.pure .skip
theorem ofV_ok {m:M AObj Value}{s:Sem Value}{r:OR}(e:ofV m h c = .ok r h' c' l)(hs:∀ v l',m h c = .ok v h' c' l'→Gives P K base w0 p w c c' h' VR s v):
  GivesO P K base w0 p w c c' h' (do pure (.value (← s))) r:=by
 obtain⟨v,h1,c1,l1,l2,e1,e2⟩:=bind_inv e
 obtain⟨rfl,rfl,rfl⟩:=pure_inv e2
 obtain⟨p',w',y,k1,k2,k3⟩:=hs v _ e1
 refine⟨p',w',.value y,?_,⟨y,rfl,k2⟩,k3⟩
 rw[Sem.run_bind,k1]
 rfl
theorem ofU_ok {m:M AObj Unit}{s:Sem Unit}{r:OR}(e:ofU m h c = .ok r h' c' l)(hs:∀ v l',m h c = .ok v h' c' l'→Gives P K base w0 p w c c' h' (fun _ _ _=>True) s v):
  GivesO P K base w0 p w c c' h' (do s;pure .skip) r:=by
 obtain⟨v,h1,c1,l1,l2,e1,e2⟩:=bind_inv e
 obtain⟨rfl,rfl,rfl⟩:=pure_inv e2
 obtain⟨p',w',y,k1,k2,k3⟩:=hs v _ e1
 refine⟨p',w',.skip,?_,rfl,k3⟩
 rw[Sem.run_bind,k1]
 rfl
def withV {β:Type}(o:Option Value)(f:Value→M AObj β):M AObj β:=fun h c=>match o with
 |some v=>f v h c
 |none => .no
theorem withV_inv {β:Type}{o:Option Value}{f:Value→M AObj β}{y:β}(e:withV o f h c = .ok y h' c' l):∃ v,o=some v∧f v h c = .ok y h' c' l:=by
 unfold withV at e
 cases o with
 |none=>cases e
 |some v=>exact⟨v,rfl,e⟩
def optV (o:Option Value):M AObj Value:=liftO o
theorem optV_ok {o:Option Value}{s:Sem Value}(hr:Rel K base w0 p h w)(hs:∀ v,o=some v→Pures P p s VR v):∀ v l',optV o h c = .ok v h' c' l'→Gives P K base w0 p w c c' h' VR s v:=by
 intro v l' e
 obtain⟨e1,rfl,rfl⟩:=liftO_inv e
 exact(hs v e1).gives hr
def plainO (P:Program)(s:Sem Value):M AObj OR:=match xPure P s with
 |some (.ok v)=>M.pure (.val v)
 |some (.error v)=>M.pure (.panic v)
 |none=>M.fail
theorem plainO_ok {s:Sem Value}{r:OR}(e:plainO P s h c = .ok r h' c' l)(hr:Rel K base w0 p h w):GivesO P K base w0 p w c c' h' (do pure (.value (← s))) r:=by
 unfold plainO at e
 cases hx:xPure P s with
 |none=>rw[hx] at e;cases e
 |some x=>
  rw[hx] at e
  cases x with
  |ok v=>
   obtain⟨rfl,rfl,rfl⟩:=pure_inv e
   obtain⟨p',w',y,k1,k2,k3⟩:=xPure_ok (P:=P) (c:=c') hx hr
   exact⟨p',w',.value y,by rw[Sem.run_bind,k1];rfl,⟨y,rfl,k2⟩,k3⟩
  |error v=>
   obtain⟨rfl,rfl,rfl⟩:=pure_inv e
   obtain⟨k1,k2⟩:=xPure_panic (P:=P) (w:=w) (p:=p) hx
   exact⟨v,by rw[Sem.run_bind,k1];rfl,k2,hr,rfl⟩
theorem val_ok {s:Sem Value}{u:Value}{r:OR}(hs:s.run P w = .ok u w)(hu:plainF 9 u=true)(e:(M.pure (.val u):M AObj OR) h c = .ok r h' c' l)(hr:Rel K base w0 p h w):GivesO P K base w0 p w c c' h' (do pure (.value (← s))) r:=by
 obtain⟨rfl,rfl,rfl⟩:=pure_inv e
 exact⟨p,w,.value u,by rw[Sem.run_bind,hs];rfl,⟨u,rfl,plain_vr 9 u hu⟩,hr,Plan.le_refl _,fun _ _=>rfl⟩
end
end Ev
end Go.Proofs.YtcbkeecabcbogaaGreatDoor
