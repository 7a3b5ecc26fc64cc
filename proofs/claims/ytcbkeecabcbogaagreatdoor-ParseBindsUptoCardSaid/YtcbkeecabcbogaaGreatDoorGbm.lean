/- The walk of ParseBinds. From the rows' condition to what the walks ask of the listed variables: the tables of signs, of operators and of utf8, and the error. -/
import Derived.Test.YtcbkeecabcbogaaGreatDoorGbl
import Derived.Test.YtcbkeecabcbogaaGreatDoorCards
import Derived.Lib.LaidU8
import Derived.Lib.LaidTab
import Derived.Shelf.Vars
import Derived.OpenShut
import Derived.ChangeSlices
set_option linter.unusedSimpArgs false
set_option linter.unusedVariables false
namespace Go.Proofs.YtcbkeecabcbogaaGreatDoor
open Go.RowKit
namespace Prs
set_option maxRecDepth 100000 in
set_option maxHeartbeats 4000000 in
theorem binds_none_law (p q:ByteArray)(w:World){f:Where}(h:LaidP w f)(hp:p.size≤1073741824)(hq:q.size≤1073741824)(hn:bindsP p.data.toList=0∨bindsP q.data.toList=0):Calls Tryz.prog 3 #[.string p,.string q] w fun e w'=>e = .returned (.bool true)∧Below w.heap.size w w':=by
 have z1:(⟨#[97,32]⟩:ByteArray).size=2:=rfl
 have z2:(⟨#[32,98,32]⟩:ByteArray).size=3:=rfl
 have z3:(⟨#[32,99]⟩:ByteArray).size=2:=rfl
 obtain⟨r,hr,hc⟩:=expr_text (((((⟨#[97,32]⟩:ByteArray)++p)++⟨#[32,98,32]⟩)++q)++⟨#[32,99]⟩) w h (by simp[maxLen,ByteArray.size_append,z1,z2,z3];omega)
 have S1:=fun w1=>strength_c p.data.toList w1
 have S2:=fun w1=>strength_c q.data.toList w1
 rw[show (⟨p.data.toList.toArray⟩:ByteArray)=p by simp] at S1
 rw[show (⟨q.data.toList.toArray⟩:ByteArray)=q by simp] at S2
 have HS1:=Lib.hid S1
 have HS2:=Lib.hid S2
 clear S1 S2
 have HA:=Lib.hid (fun w1 hw=>answers_c w1 (f:=f) hw)
 have HL:=Lib.hid h
 have HC:=Lib.hid hc
 clear h hr hc z1 z2 z3
 generalize hk:bindsP p.data.toList=k at *
 generalize hm:bindsP q.data.toList=m at *
 rcases hn with rfl|rfl
 all_goals
  go_enter Tryz.func3, Tryz.ntmps3
  go_wp2_with (first|((with_reducible refine Calls.mono (HS1.out _) ?_);rintro e w1 ⟨rfl,rfl⟩)|((with_reducible refine Calls.mono (HS2.out _) ?_);rintro e w2 ⟨rfl,rfl⟩)|((with_reducible refine Calls.mono HC.out ?_);intro e w3 hp;obtain⟨v0,v1,v2,v3,v4,c1,c2,rfl,hone,hB,-⟩:=hp.row;clear hp;have HL:=Lib.hid (HL.out.below hB);have hBw:=Lib.hid hB;have hone:=Lib.hid hone)|((with_reducible refine st_new rfl _ _ rfl rfl (v0:=v0) (v1:=v1) (v2:=v2) (v3:=v3) (v4:=v4) ?hx ?hy hone.out ?_);(case hx=>rfl);(case hy=>rfl);intro W1 hrw hB1;have hrw:=Lib.hid hrw;have HL:=Lib.hid (HL.out.below hB1);have hBw:=Lib.hid (hBw.out.trans (hB1.mono hBw.out.size));clear hB1)|(go_at_call 10;refine(HA.out _ HL.out).mono ?_;rintro e w5 ⟨rfl,hB5⟩;have HL:=Lib.hid (HL.out.below hB5);have hBw:=Lib.hid (hBw.out.trans (hB5.mono hBw.out.size));clear hB5))
  all_goals
   go_ret
   exact⟨rfl,hBw.out⟩
mutual
theorem sameT_size:∀ {t u:Tr},sameT t u=true→sizeT t=sizeT u
 | .mk _ _ _ _ l,.mk _ _ _ _ l',h=>by
  unfold sameT at h
  simp only[Bool.and_eq_true] at h
  unfold sizeT
  rw[sameLT_size h.2.2.2]
theorem sameLT_size:∀ {l m:List Tr},sameLT l m=true→sizeL l=sizeL m
 | [],[],_=>rfl
 | [],_ :: _,h=>by simp[sameLT] at h
 |_ :: _,[],h=>by simp[sameLT] at h
 |t :: l,u :: m,h=>by
  unfold sameLT at h
  simp only[Bool.and_eq_true] at h
  unfold sizeL
  rw[sameT_size h.1,sameLT_size h.2]
end
theorem cell_up8 {w:World}{b o:Nat}{v:Value}(h:w.cell? ⟨b,o,none⟩=some v)(o1 o2 o3 o4 o5 o6 o7 o8:Obj):((((((((w.alloc o1).alloc o2).alloc o3).alloc o4).alloc o5).alloc o6).alloc o7).alloc o8).cell? ⟨b,o,none⟩=some v:=by
 have st:∀ {w:World} (o1:Obj),w.cell? ⟨b,o,none⟩=some v→(w.alloc o1).cell? ⟨b,o,none⟩=some v:=fun o1 h=>bc ((Below.refl _ _).alloc (Nat.le_refl _) o1) h
 exact st _ (st _ (st _ (st _ (st _ (st _ (st _ (st _ h)))))))
theorem NodeV.up8 {S:Nat→Prop}{w:World}{t:Tr}{v:Value}(h:NodeV S w t v)(o1 o2 o3 o4 o5 o6 o7 o8:Obj):NodeV (fun _=>True) ((((((((w.alloc o1).alloc o2).alloc o3).alloc o4).alloc o5).alloc o6).alloc o7).alloc o8) t v:=
 (((((((h.new (S':=fun _=>True) (fun _ _=>trivial) o1).new (fun _ h=>h) o2).new (fun _ h=>h) o3).new (fun _ h=>h) o4).new (fun _ h=>h) o5).new (fun _ h=>h) o6).new (fun _ h=>h) o7).new (fun _ h=>h) o8
theorem below_up8 {B:Nat}{w0 w:World}(h:Below B w0 w)(hB:B≤w.heap.size)(o1 o2 o3 o4 o5 o6 o7 o8:Obj):Below B w0 ((((((((w.alloc o1).alloc o2).alloc o3).alloc o4).alloc o5).alloc o6).alloc o7).alloc o8):=
 (((((((h.alloc hB o1).alloc (by simp;omega) o2).alloc (by simp;omega) o3).alloc (by simp;omega) o4).alloc (by simp;omega) o5).alloc (by simp;omega) o6).alloc (by simp;omega) o7).alloc (by simp;omega) o8
theorem cell_up6 {w:World}{b o:Nat}{v:Value}(h:w.cell? ⟨b,o,none⟩=some v)(o1 o2 o3 o4 o5 o6:Obj):((((((w.alloc o1).alloc o2).alloc o3).alloc o4).alloc o5).alloc o6).cell? ⟨b,o,none⟩=some v:=by
 have st:∀ {w:World} (o1:Obj),w.cell? ⟨b,o,none⟩=some v→(w.alloc o1).cell? ⟨b,o,none⟩=some v:=fun o1 h=>bc ((Below.refl _ _).alloc (Nat.le_refl _) o1) h
 exact st _ (st _ (st _ (st _ (st _ (st _ h)))))
theorem NodeV.up6 {S:Nat→Prop}{w:World}{t:Tr}{v:Value}(h:NodeV S w t v)(o1 o2 o3 o4 o5 o6:Obj):NodeV (fun _=>True) ((((((w.alloc o1).alloc o2).alloc o3).alloc o4).alloc o5).alloc o6) t v:=
 (((((h.new (S':=fun _=>True) (fun _ _=>trivial) o1).new (fun _ h=>h) o2).new (fun _ h=>h) o3).new (fun _ h=>h) o4).new (fun _ h=>h) o5).new (fun _ h=>h) o6
theorem below_up6 {B:Nat}{w0 w:World}(h:Below B w0 w)(hB:B≤w.heap.size)(o1 o2 o3 o4 o5 o6:Obj):Below B w0 ((((((w.alloc o1).alloc o2).alloc o3).alloc o4).alloc o5).alloc o6):=
 (((((h.alloc hB o1).alloc (by simp;omega) o2).alloc (by simp;omega) o3).alloc (by simp;omega) o4).alloc (by simp;omega) o5).alloc (by simp;omega) o6
theorem pairN {S:Nat→Prop}{W:World}{g:Nat}{x:List UInt8}{t u:Tr}{a0 a1 a2 a3 a4 b0 b1 b2 b3 b4:Value}{ty:TypeId}{fr:Nat×Nat}(hg:W.heap[g]? = some (.cells #[a0,a1,a2,a3,a4,b0,b1,b2,b3,b4] ty fr))(hS:S g)(ht:NodeC S W t [a0,a1,a2,a3,a4])(hu:NodeC S W u [b0,b1,b2,b3,b4]):
  NodeC S W (binT x t u) [.int .i64 33,.string ⟨x.toArray⟩,.int .u64 0,.int .i64 0,.slice (some ⟨g,0,none⟩) 2 2]:=by
 have hc:∀ j v,(#[a0,a1,a2,a3,a4,b0,b1,b2,b3,b4]:Array Value)[j]? = some v→W.cell? ⟨g,j,none⟩=some v:=fun j v hv=>by
  unfold World.cell?
  rw[hg]
  exact hv
 unfold binT NodeC
 refine⟨_,_,rfl,.inr ⟨g,0,rfl,hS,?_⟩⟩
 unfold NodeR
 refine⟨⟨a0,a1,a2,a3,a4,hc 0 _ rfl,hc 1 _ rfl,hc 2 _ rfl,hc 3 _ rfl,hc 4 _ rfl,ht⟩,?_⟩
 unfold NodeR
 exact⟨⟨b0,b1,b2,b3,b4,hc 5 _ rfl,hc 6 _ rfl,hc 7 _ rfl,hc 8 _ rfl,hc 9 _ rfl,hu⟩,trivial⟩
theorem nameN {S:Nat→Prop}{W:World}(c:UInt8):NodeC S W (nameT c) [.int .i64 30,.string ⟨#[c]⟩,.int .u64 0,.int .i64 0,.slice none 0 0]:=by
 unfold nameT NodeC
 exact⟨none,0,rfl,.inl rfl⟩
theorem old_block {w:World}{o x:Obj}{k:Nat}(h:w.heap[k]? = some x):(w.alloc o).heap[k]? = some x:=(Below.heap_alloc _ _ _ (Array.getElem?_eq_some_iff.1 h).1).trans h
theorem last_block {w:World}{o:Obj}{k:Nat}(h:k=w.heap.size):(w.alloc o).heap[k]? = some o:=by
 subst h;exact new_block w o
set_option maxRecDepth 100000 in
set_option maxHeartbeats 4000000 in
theorem binds_both (p q:ByteArray)(hx:p.data.toList∈binOps)(hy:q.data.toList∈binOps)(w:World){f:Where}(h:LaidP w f):Calls Tryz.prog 3 #[.string p,.string q] w fun e w'=>e = .returned (.bool true)∧Below w.heap.size w w':=by
 have hp:p.size≤2:=(ops_ascii _ hx).2
 have hq:q.size≤2:=(ops_ascii _ hy).2
 obtain⟨r,hr,hc⟩:=expr_text (((((⟨#[97,32]⟩:ByteArray)++p)++⟨#[32,98,32]⟩)++q)++⟨#[32,99]⟩) w h (by
  have z1:(⟨#[97,32]⟩:ByteArray).size=2:=rfl
  have z2:(⟨#[32,98,32]⟩:ByteArray).size=3:=rfl
  have z3:(⟨#[32,99]⟩:ByteArray).size=2:=rfl
  simp[maxLen,ByteArray.size_append,z1,z2,z3];omega)
 obtain⟨t,ht,hs⟩:=expr_pair hx hy
 have he:(((((⟨#[97,32]⟩:ByteArray)++p)++⟨#[32,98,32]⟩)++q)++⟨#[32,99]⟩).data.toList=[97,32]++p.data.toList++[32,98,32]++q.data.toList++[32,99]:=by
  simp
 rw[he,ht] at hr
 cases hr
 have S1:=fun w1=>strength_c p.data.toList w1
 have S2:=fun w1=>strength_c q.data.toList w1
 rw[show (⟨p.data.toList.toArray⟩:ByteArray)=p by simp] at S1
 rw[show (⟨q.data.toList.toArray⟩:ByteArray)=q by simp] at S2
 have HS1:=Lib.hid S1
 have HS2:=Lib.hid S2
 clear S1 S2
 have HA:=Lib.hid (fun w1 hw=>answers_c w1 (f:=f) hw)
 have HL:=Lib.hid h
 have HC:=Lib.hid hc
 unfold wantT at hs
 have hk0:=binds_pos hx
 have hm0:=binds_pos hy
 clear h hc he ht hx hy
 generalize bindsP p.data.toList=k at *
 generalize bindsP q.data.toList=m at *
 have hq1:((k:Int)==0)=false:=by simp;omega
 have hq2:((m:Int)==0)=false:=by simp;omega
 have HSAME:=Lib.hid hs
 have HZ:=Lib.hid (show sizeT t≤4611686018427387904 by
  rw[sameT_size hs]
  split
  ·simp[binT,nameT,sizeT,sizeL]
  ·simp[binT,nameT,sizeT,sizeL])
 clear hs hk0 hm0
 by_cases hkm:k<m
 ·have hq3:(k:Int)<(m:Int):=by omega
  go_enter Tryz.func3, Tryz.ntmps3
  rw[if_pos hkm] at HSAME
  go_wp2_with (first|((with_reducible refine Calls.mono (HS1.out _) ?_);rintro e w1 ⟨rfl,rfl⟩)|((with_reducible refine Calls.mono (HS2.out _) ?_);rintro e w2 ⟨rfl,rfl⟩)|((with_reducible refine Calls.mono HC.out ?_);rintro e w3 ⟨vv,rfl,hv,hB⟩;obtain⟨v0,v1,v2,v3,v4,rfl,hone⟩:=hv.cells;have HL:=Lib.hid (HL.out.below hB);have hBw:=Lib.hid hB;have hone:=Lib.hid hone;have hv:=Lib.hid hv;clear hB)|((with_reducible refine st_new rfl _ _ rfl rfl (v0:=v0) (v1:=v1) (v2:=v2) (v3:=v3) (v4:=v4) ?hx ?hy hone.out ?_);(case hx=>rfl);(case hy=>rfl);intro W1 hrw hB1;have hrw:=Lib.hid hrw;have HL:=Lib.hid (HL.out.below hB1);have hv:=Lib.hid (hv.out.below hB1);have hBw:=Lib.hid (hBw.out.trans (hB1.mono hBw.out.size));clear hB1)|(go_at_call 10;refine(HA.out _ HL.out).mono ?_;rintro e w5 ⟨rfl,hB5⟩;have HL:=Lib.hid (HL.out.below hB5);have hv:=Lib.hid (hv.out.below hB5);have hrow:=(hB5.block _ (Array.getElem?_eq_some_iff.1 hrw.out).1).trans hrw.out;obtain⟨e0,e1,e2,e3,e4,-⟩:=row_facts hrow;clear hrow;have e0:=cell_up8 e0;have e1:=cell_up8 e1;have e2:=cell_up8 e2;have e3:=cell_up8 e3;have e4:=cell_up8 e4;have hBw:=Lib.hid (hBw.out.trans (hB5.mono hBw.out.size));clear hB5)|(go_at_call 11;refine(same_c _ t (binT p.data.toList (nameT 97) (binT q.data.toList (nameT 98) (nameT 99))) (fun _=>True) _ _ _ (Nat.le_refl _) HZ.out (hv.out.up8 _ _ _ _ _ _ _ _) ?hwant).mono ?_;rotate_left;rintro e w9 ⟨rfl,hB9⟩;rw[HSAME.out]))
  case hwant=>exact⟨_,rfl,pairN (last_block (by simp)) trivial (nameN 97) (pairN (old_block (last_block (by simp))) trivial (nameN 98) (nameN 99))⟩
  go_ret
  exact⟨rfl,(below_up8 hBw.out hBw.out.size _ _ _ _ _ _ _ _).trans (hB9.mono (below_up8 hBw.out hBw.out.size _ _ _ _ _ _ _ _).size)⟩
 ·have hq3:¬ (k:Int)<(m:Int):=by omega
  rw[if_neg hkm] at HSAME
  go_enter Tryz.func3, Tryz.ntmps3
  go_wp2_with (first|((with_reducible refine Calls.mono (HS1.out _) ?_);rintro e w1 ⟨rfl,rfl⟩)|((with_reducible refine Calls.mono (HS2.out _) ?_);rintro e w2 ⟨rfl,rfl⟩)|((with_reducible refine Calls.mono HC.out ?_);rintro e w3 ⟨vv,rfl,hv,hB⟩;obtain⟨v0,v1,v2,v3,v4,rfl,hone⟩:=hv.cells;have HL:=Lib.hid (HL.out.below hB);have hBw:=Lib.hid hB;have hone:=Lib.hid hone;have hv:=Lib.hid hv;clear hB)|((with_reducible refine st_new rfl _ _ rfl rfl (v0:=v0) (v1:=v1) (v2:=v2) (v3:=v3) (v4:=v4) ?hx ?hy hone.out ?_);(case hx=>rfl);(case hy=>rfl);intro W1 hrw hB1;have hrw:=Lib.hid hrw;have HL:=Lib.hid (HL.out.below hB1);have hv:=Lib.hid (hv.out.below hB1);have hBw:=Lib.hid (hBw.out.trans (hB1.mono hBw.out.size));clear hB1)|(go_at_call 10;refine(HA.out _ HL.out).mono ?_;rintro e w5 ⟨rfl,hB5⟩;have HL:=Lib.hid (HL.out.below hB5);have hv:=Lib.hid (hv.out.below hB5);have hrow:=(hB5.block _ (Array.getElem?_eq_some_iff.1 hrw.out).1).trans hrw.out;obtain⟨e0,e1,e2,e3,e4,-⟩:=row_facts hrow;clear hrow;have e0:=cell_up6 e0;have e1:=cell_up6 e1;have e2:=cell_up6 e2;have e3:=cell_up6 e3;have e4:=cell_up6 e4;have hBw:=Lib.hid (hBw.out.trans (hB5.mono hBw.out.size));clear hB5)|(go_at_call 11;refine(same_c _ t (binT q.data.toList (binT p.data.toList (nameT 97) (nameT 98)) (nameT 99)) (fun _=>True) _ _ _ (Nat.le_refl _) HZ.out (hv.out.up6 _ _ _ _ _ _) ?hwant).mono ?_;rotate_left;rintro e w9 ⟨rfl,hB9⟩;rw[HSAME.out]))
  case hwant=>exact⟨_,rfl,pairN (old_block (last_block (by simp))) trivial (pairN (old_block (old_block (last_block (by simp)))) trivial (nameN 97) (nameN 98)) (nameN 99)⟩
  go_ret
  exact⟨rfl,(below_up6 hBw.out hBw.out.size _ _ _ _ _ _).trans (hB9.mono (below_up6 hBw.out hBw.out.size _ _ _ _ _ _).size)⟩
end Prs
end Go.Proofs.YtcbkeecabcbogaaGreatDoor
namespace Go.Proofs.YtcbkeecabcbogaaGreatDoor
open Go.RowKit
namespace Prs
theorem iface_cells {H:Type}{enc:TypeId×Value→H}{P:Program}{w:World}{base:Nat}{sp:Nat→Bool}{held:Bool}{fuel:Nat}{t:TypeId}{ms:Array (String×TypeId)}{cs:List Value}{x:DataW H×List MemPlace}
  (ht:P.underlying t=some (.interface ms)) (h:DataW.trod enc P w base sp held fuel t cs=some x):∃ ev,cs=[ev]∧(ev = .nilIface∨∃ te pe,ev = .iface te pe):=by
 cases fuel with
 |zero=>simp[DataW.trod] at h
 |succ n=>
  unfold DataW.trod at h
  rw[ht] at h
  rcases cs with _|⟨c,_|⟨d,r⟩⟩
  ·simp at h
  ·cases c <;> first|exact⟨_,rfl,.inl rfl⟩|exact⟨_,rfl,.inr ⟨_,_,rfl⟩⟩|(simp at h)
  ·simp at h
theorem cells_of_strs {H:Type}{enc:TypeId×Value→H}{P:Program}{w:World}{base:Nat}{sp:Nat→Bool}{held:Bool}{fuel:Nat}{t e:TypeId}{n:Nat}{cs:List Value}{zs:List (List UInt8)}{p:List MemPlace}
  (ht:P.underlying t=some (.array n e)) (he:P.underlying e=some .string) (hce:P.cellsOf e=1) (hct:P.cellsOf t=n)
  (h:DataW.trod enc P w base sp held fuel t cs=some (.agg (zs.map fun z => .lit (.string z)),p)):cs=zs.map fun z=>Value.string ⟨z.toArray⟩:=by
 obtain⟨xs,m,rfl,hx,hl,hxl,hall⟩:=DataW.trod_array ht h
 have hxs:xs.map (·.1)=zs.map fun z=>(DataW.lit (.string z):DataW H):=by
  have:=congrArg Prod.fst hx
  simpa using this.symm
 have hzl:zs.length=n:=by
  have:=congrArg List.length hxs
  simp at this;omega
 apply List.ext_getElem?
 intro i
 by_cases hi:i<n
 ·have h1:=hall i hi
  rw[hce] at h1
  obtain⟨b,hb⟩:∃ b,xs[i]? = some b:=⟨xs[i]'(by omega),List.getElem?_eq_getElem (by omega)⟩
  rw[hb] at h1
  obtain⟨s,hcz,rfl,_⟩:=DataW.trod_string he h1
  have h2:cs[i]? = some (.string s):=by
   have:=congrArg (·[0]?) hcz
   simpa [List.getElem?_take,List.getElem?_drop] using this
  have h3:(xs.map (·.1))[i]? = some (DataW.lit (.string s.data.toList):DataW H):=by simp[hb]
  rw[hxs] at h3
  simp only[List.getElem?_map,Option.map_eq_some_iff,DataW.lit.injEq,Lit.string.injEq] at h3
  obtain⟨z',hz',e'⟩:=h3
  rw[h2]
  simp only[List.getElem?_map,hz',Option.map_some,e']
 ·rw[List.getElem?_eq_none (by omega),List.getElem?_eq_none (by simp;omega)]
theorem u8extra:U8Extra Tryz.prog Tryz.lays260_ren:=by
 constructor <;> kernel_rfl
theorem slice_of_strs {H:Type}{enc:TypeId×Value→H}{P:Program}{w:World}{base:Nat}{sp:Nat→Bool}{held:Bool}{fuel:Nat}{t e:TypeId}{cs:List Value}{zs:List (List UInt8)}{r:List (DataW H)}{p:List MemPlace}
  (ht:P.underlying t=some (.slice e)) (he:P.underlying e=some .string) (hce:P.cellsOf e=1) (hz:0<zs.length)
  (h:DataW.trod enc P w base sp held fuel t cs=some (.slice (zs.map fun z => .lit (.string z)) r,p)):
  ∃ b o c,cs=[.slice (some ⟨b,o,none⟩) zs.length c]∧zs.length≤c∧c≤maxLen∧∀ (j:Nat) (x:List UInt8),zs[j]? = some x→w.cell? ⟨b,o+j,none⟩=some (strV x):=by
 rcases DataW.trod_slice ht h with ⟨-,h1⟩|⟨a,len,cap,elems,rest,n,rfl,rfl,hx,hb,hlc,hcm,hel,hat,-,-⟩
 ·cases h1
 ·have hes:elems.map (·.1)=zs.map fun z=>(DataW.lit (.string z):DataW H):=by
   have:=congrArg Prod.fst hx
   simp only[DataW.slice.injEq] at this
   exact this.1.symm
  have hzl:zs.length=len:=by
   have:=congrArg List.length hes
   simp at this;omega
  have key:∀ (i:Nat) (x:List UInt8),zs[i]? = some x→w.cell? (a.add i)=some (strV x):=fun i x hi=>by
   have hlt:i<len:=by
    have:=(List.getElem?_eq_some_iff.1 hi).1
    omega
   have h1:=hat i hlt
   rw[hce,Nat.mul_one] at h1
   obtain⟨el,hel'⟩:∃ el,elems[i]? = some el:=⟨elems[i]'(by omega),List.getElem?_eq_getElem (by omega)⟩
   rw[hel'] at h1
   obtain⟨cs',hc1,hc2⟩:=Option.bind_eq_some_iff.1 h1
   obtain⟨s,rfl,rfl,-⟩:=DataW.trod_string he hc2
   have h3:(elems.map (·.1))[i]? = some (DataW.lit (.string s.data.toList):DataW H):=by simp[hel']
   rw[hes] at h3
   simp only[List.getElem?_map,hi,Option.map_some,Option.some.injEq,DataW.lit.injEq,Lit.string.injEq] at h3
   rw[ChangeShapes.cell_of_cells?_one hc1]
   unfold strV
   rw[h3]
  have hsp:a.spot=none:=by
   have h0:=key 0 zs[0] (List.getElem?_eq_getElem hz)
   rw[show a.add 0=a from rfl] at h0
   unfold World.cell? at h0
   split at h0
   ·split at h0
    ·cases h0
    ·rename_i hs
     cases hsp:a.spot with
     |none=>rfl
     |some _=>rw[hsp] at hs;exact absurd rfl hs
   ·cases h0
  obtain⟨b,o,sp'⟩:=a
  dsimp only at hsp
  subst hsp
  refine⟨b,o,cap,by rw[hzl],by omega,hcm,fun j x hj => ?_⟩
  have:=key j x hj
  unfold Addr.add at this
  split at this
  ·rename_i h0
   subst h0
   exact this
  ·exact this
theorem array_of_slices {H:Type}{enc:TypeId×Value→H}{P:Program}{w:World}{base:Nat}{sp:Nat→Bool}{held:Bool}{fuel:Nat}{t u e:TypeId}{n:Nat}{cs:List Value}{zss:List (List (List UInt8))}{p:List MemPlace}
  (ht:P.underlying t=some (.array n u)) (hu:P.underlying u=some (.slice e)) (he:P.underlying e=some .string) (hce:P.cellsOf e=1) (hcu:P.cellsOf u=1) (hct:P.cellsOf t=n) (hz:∀ zs∈zss,0<zs.length)
  (h:DataW.trod enc P w base sp held fuel t cs=some (.agg (zss.map fun zs => .slice (zs.map fun z => .lit (.string z)) []),p)):
  cs.length=zss.length∧∀ (i:Nat) (zs:List (List UInt8)),zss[i]? = some zs→∃ b o c:Nat,cs[i]? = some (.slice (some ⟨b,o,none⟩) zs.length c)∧zs.length≤c∧c≤maxLen∧∀ (j:Nat) (x:List UInt8),zs[j]? = some x→w.cell? ⟨b,o+j,none⟩=some (strV x):=by
 obtain⟨xs,m,rfl,hx,hl,hxl,hall⟩:=DataW.trod_array ht h
 have hxs:xs.map (·.1)=zss.map fun zs=>(DataW.slice (zs.map fun z => .lit (.string z)) []:DataW H):=by
  have:=congrArg Prod.fst hx
  simpa using this.symm
 have hzl:zss.length=n:=by
  have:=congrArg List.length hxs
  simp at this;omega
 refine⟨by omega,fun i zs hi => ?_⟩
 have hlt:i<n:=by
  have:=(List.getElem?_eq_some_iff.1 hi).1
  omega
 have h1:=hall i hlt
 rw[hcu] at h1
 obtain⟨b,hb⟩:∃ b,xs[i]? = some b:=⟨xs[i]'(by omega),List.getElem?_eq_getElem (by omega)⟩
 rw[hb] at h1
 have h3:(xs.map (·.1))[i]? = some b.1:=by simp[hb]
 rw[hxs] at h3
 simp only[List.getElem?_map,hi,Option.map_some,Option.some.injEq] at h3
 obtain⟨b1,b2⟩:=b
 dsimp only at h3
 subst h3
 obtain⟨b,o,c,k1,k2,k3,k4⟩:=slice_of_strs hu he hce (hz zs (List.mem_of_getElem? hi)) h1
 refine⟨b,o,c,?_,k2,k3,k4⟩
 have:=congrArg (·[0]?) k1
 simpa [List.getElem?_take,List.getElem?_drop] using this
theorem ops_row:((((begin Tryz.prog (fun _ _=>0) default).world.heap[1]?).bind Obj.row?).map (·.2))=some 96:=by kernel_rfl
def laidList:List (String×DataW Unit):=[("math/bits.deBruijn32tab", Rows.laid_math_bits_deBruijn32tab),("math/bits.deBruijn64tab", Rows.laid_math_bits_deBruijn64tab),("internal/strconv.uint64pow10", Rows.laid_internal_strconv_uint64pow10),("unicode/utf8.acceptRanges", Rows.laid_unicode_utf8_acceptRanges),("strconv.ErrRange", Rows.laid_strconv_ErrRange),("strconv.ErrSyntax", Rows.laid_strconv_ErrSyntax),("mullion/scan.signs", Rows.laid_mullion_scan_signs),("mullion/tree.Ops", Rows.laid_mullion_tree_Ops),("unicode/utf8.first", Rows.laid_unicode_utf8_first)]
theorem whole_row {W:World}(hsh:W.ShapedOpen Tryz.prog){g:Nat}{t:TypeId}{n:String}{cs:Array Value}(hrow:((((begin Tryz.prog (fun _ _=>0) default).world.heap[g]?).bind Obj.row?).map (·.2))=some t)(hg:(Tryz.prog).globalNamed n=some g)(hgl:g<(Tryz.prog).globals.size)(hvar:W.var? Tryz.prog n=some cs):
  W.heap[g]? = some (.cells cs t):=by
 unfold World.var? at hvar
 rw[hg] at hvar
 simp only[Option.bind_some] at hvar
 split at hvar
 ·rename_i cs' t' fr' hh
  cases hvar
  cases hr:((begin Tryz.prog (fun _ _=>0) default).world.heap[g]?).bind Obj.row? with
  |none=>rw[hr] at hrow;cases hrow
  |some zt=>
   obtain⟨zero,t0⟩:=zt
   have ht0:t0=t:=by
    rw[hr] at hrow
    exact Option.some.inj hrow
   obtain⟨cs2,h1,-,-⟩:=hsh.1 g zero t0 hgl hr
   rw[h1] at hh ⊢
   simp only[Option.some.injEq,Obj.cells.injEq] at hh
   obtain⟨e1,-,-⟩:=hh
   rw[e1,ht0]
 ·cases hvar
theorem most_of:∀ w:World,w.ShapedOpen Tryz.prog→∃ m,w.cell? ⟨4,0,none⟩=some (.int .i64 m):=fun w h=>Go.Proofs.cell_of_shapedOpen_int (zero := #[.int .i64 0]) (t:=3) h (of_decide_eq_true (by kernel_rfl)) (by kernel_rfl) rfl (by kernel_rfl) (by kernel_rfl) Tryz.underlying3
theorem scan_of {W:World}(h:laidMet Tryz.prog laidList W)(hsh:W.ShapedOpen Tryz.prog):Laid W:=by
 have hr:∀ n d,(n,d)∈laidList→Lib.VarReads Tryz.prog W n d:=fun n d hm=>Lib.laidMet.reads h hm
 refine⟨?_,?_,?_,?_,?_⟩
 ·obtain⟨g,t,cs,fuel,p,hg,hty,hvar,hd⟩:=hr "math/bits.deBruijn64tab" _ (by unfold laidList;repeat (first|exact List.Mem.head _|apply List.Mem.tail))
  have hg':(Tryz.prog).globalNamed "math/bits.deBruijn64tab" = some 9:=by kernel_rfl
  obtain rfl:=Option.some.inj (hg'.symm.trans hg)
  unfold World.var? at hvar
  rw[hg'] at hvar
  rcases Nat.lt_or_ge 9 W.heap.size with h'|h'
  ·exact h'
  ·simp[Array.getElem?_eq_none h'] at hvar
 ·have e1:Rows.laid_unicode_utf8_first=Lib.firstData:=by kernel_rfl
  have e2:Rows.laid_unicode_utf8_acceptRanges=Lib.acceptData:=by kernel_rfl
  have r1:=hr "unicode/utf8.first" Rows.laid_unicode_utf8_first (by unfold laidList;repeat (first|exact List.Mem.head _|apply List.Mem.tail))
  have r2:=hr "unicode/utf8.acceptRanges" Rows.laid_unicode_utf8_acceptRanges (by unfold laidList;repeat (first|exact List.Mem.head _|apply List.Mem.tail))
  rw[e1] at r1
  rw[e2] at r2
  exact utf8Tabs_of_reads Tryz.lays260 u8extra r1 r2
 ·exact most_of W hsh
 ·obtain⟨g,t,cs,fuel,p,hg,hty,hvar,hd⟩:=hr "strconv.ErrRange" _ (by unfold laidList;repeat (first|exact List.Mem.head _|apply List.Mem.tail))
  have hg':(Tryz.prog).globalNamed "strconv.ErrRange" = some 6:=by kernel_rfl
  have ht':((Tryz.prog).globals[6]?).map (·.type)=some 102:=by kernel_rfl
  obtain rfl:=Option.some.inj (hg'.symm.trans hg)
  obtain rfl:=Option.some.inj (ht'.symm.trans hty)
  obtain⟨ev,hcs,hev⟩:=iface_cells Tryz.underlying102 hd
  refine⟨ev,?_,hev⟩
  have h1:=World.var?_cell hg hvar 0
  rw[h1,←Array.getElem?_toList,hcs];rfl
 ·obtain⟨g,t,cs,fuel,p,hg,hty,hvar,hd⟩:=hr "mullion/scan.signs" _ (by unfold laidList;repeat (first|exact List.Mem.head _|apply List.Mem.tail))
  have hg':(Tryz.prog).globalNamed "mullion/scan.signs" = some 0:=by kernel_rfl
  have ht':((Tryz.prog).globals[0]?).map (·.type)=some 95:=by kernel_rfl
  obtain rfl:=Option.some.inj (hg'.symm.trans hg)
  obtain rfl:=Option.some.inj (ht'.symm.trans hty)
  have hcs:=cells_of_strs (zs:=signList) Tryz.underlying95 Tryz.underlying9 (by kernel_rfl) (by kernel_rfl) hd
  unfold World.var? at hvar
  rw[hg'] at hvar
  simp only[Option.bind_some] at hvar
  split at hvar
  ·rename_i cs' t' fr' hh
   cases hvar
   refine⟨t',fr',?_⟩
   rw[hh]
   have:cs=signArr:=by
    apply Array.toList_inj.1
    rw[hcs];rfl
   rw[this]
  ·cases hvar
theorem ops_of {W:World}(h:laidMet Tryz.prog laidList W)(hsh:W.ShapedOpen Tryz.prog):∃ f,Ops W f:=by
 have hr:∀ n d,(n,d)∈laidList→Lib.VarReads Tryz.prog W n d:=fun n d hm=>Lib.laidMet.reads h hm
 have hsize:10≤W.heap.size:=by
  obtain⟨g,t,cs,fuel,p,hg,hty,hvar,hd⟩:=hr "math/bits.deBruijn64tab" _ (by unfold laidList;repeat (first|exact List.Mem.head _|apply List.Mem.tail))
  have hg':(Tryz.prog).globalNamed "math/bits.deBruijn64tab" = some 9:=by kernel_rfl
  obtain rfl:=Option.some.inj (hg'.symm.trans hg)
  unfold World.var? at hvar
  rw[hg'] at hvar
  rcases Nat.lt_or_ge 9 W.heap.size with h'|h'
  ·exact h'
  ·simp[Array.getElem?_eq_none h'] at hvar
 obtain⟨g,t,cs,fuel,p,hg,hty,hvar,hd⟩:=hr "mullion/tree.Ops" _ (by unfold laidList;repeat (first|exact List.Mem.head _|apply List.Mem.tail))
 have hg':(Tryz.prog).globalNamed "mullion/tree.Ops" = some 1:=by kernel_rfl
 have ht':((Tryz.prog).globals[1]?).map (·.type)=some 96:=by kernel_rfl
 obtain rfl:=Option.some.inj (hg'.symm.trans hg)
 obtain rfl:=Option.some.inj (ht'.symm.trans hty)
 obtain⟨hlen,key⟩:=array_of_slices (zss:=opsP) Tryz.underlying96 Tryz.underlying33 Tryz.underlying9 (by kernel_rfl) (by kernel_rfl) (by kernel_rfl) (by decide) hd
 obtain⟨b0,o0,c0,x0,y0,z0,q0⟩:=key 0 _ rfl
 obtain⟨b1,o1,c1,x1,y1,z1,q1⟩:=key 1 _ rfl
 obtain⟨b2,o2,c2,x2,y2,z2,q2⟩:=key 2 _ rfl
 obtain⟨b3,o3,c3,x3,y3,z3,q3⟩:=key 3 _ rfl
 obtain⟨b4,o4,c4,x4,y4,z4,q4⟩:=key 4 _ rfl
 let f:Where:=fun i=>match i with
  |0=>(b0,o0,c0)
  |1=>(b1,o1,c1)
  |2=>(b2,o2,c2)
  |3=>(b3,o3,c3)
  |_=>(b4,o4,c4)
 have hcs:cs.toList=opsAt f:=by
  have hl5:cs.toList.length=5:=hlen
  match hm:cs.toList,hl5 with
  | [v0,v1,v2,v3,v4],_=>
   rw[hm] at x0 x1 x2 x3 x4
   cases x0;cases x1;cases x2;cases x3;cases x4
   rfl
 refine⟨f,hsize,?_,fun i hi => ?_,fun i z hz j x hx => ?_⟩
 ·rw[whole_row hsh ops_row hg' (by decide +kernel) hvar]
  congr 2
  apply Array.toList_inj.1
  rw[hcs]
 ·rcases (by omega:i=0∨i=1∨i=2∨i=3∨i=4) with rfl|rfl|rfl|rfl|rfl
  ·exact⟨y0,z0⟩
  ·exact⟨y1,z1⟩
  ·exact⟨y2,z2⟩
  ·exact⟨y3,z3⟩
  ·exact⟨y4,z4⟩
 ·have hi:i<5:=(List.getElem?_eq_some_iff.1 hz).1
  rcases (by omega:i=0∨i=1∨i=2∨i=3∨i=4) with rfl|rfl|rfl|rfl|rfl
  ·cases hz;exact q0 j x hx
  ·cases hz;exact q1 j x hx
  ·cases hz;exact q2 j x hx
  ·cases hz;exact q3 j x hx
  ·cases hz;exact q4 j x hx
theorem laid_of {W:World}(h:laidMet Tryz.prog laidList W)(hsh:W.ShapedOpen Tryz.prog):∃ f,LaidP W f:=by
 obtain⟨f,hf⟩:=ops_of h hsh
 exact⟨f,scan_of h hsh,hf⟩
end Prs
theorem walkParseBinds (p q:ByteArray)(hp:p.size≤1073741824)(hq:q.size≤1073741824)(w:World)(h:∃ f,Prs.LaidP w f):Calls Tryz.prog 3 #[.string p,.string q] w fun e w'=>e = .returned (.bool true)∧Below w.heap.size w w':=by
 obtain⟨f,hf⟩:=h
 by_cases hx:p.data.toList∈Prs.binOps
 ·by_cases hy:q.data.toList∈Prs.binOps
  ·exact Prs.binds_both p q hx hy w hf
  ·exact Prs.binds_none_law p q w hf hp hq (.inr (Prs.binds_none hy))
 ·exact Prs.binds_none_law p q w hf hp hq (.inl (Prs.binds_none hx))
def laidList:List (String×DataW Unit):=Prs.laidList
theorem laid_of {W:World}(h:laidMet Tryz.prog laidList W)(hsh:W.ShapedOpen Tryz.prog):∃ f,Prs.LaidP W f:=Prs.laid_of h hsh
end Go.Proofs.YtcbkeecabcbogaaGreatDoor
