/- From the rows' condition to what the walks ask of the listed -/
import Derived.Test.YtcbkeecabcbogaaGreatDoorCards
import Derived.Test.YtcbkeecabcbogaaGreatDoorSbl
import Derived.Lib.LaidU8
import Derived.Lib.LaidTab
import Derived.Shelf.Vars
import Derived.OpenShut
import Derived.ChangeSlices
import Derived.Test.YtcbkeecabcbogaaGreatDoorSbk
import Derived.Lib.MapLaws
import Derived.Laws.AppendOwn
import Derived.Maps.AppendAt
import Derived.Great.BuildSlice
import Derived.Test.YtcbkeecabcbogaaGreatDoorSbh
import Derived.Test.YtcbkeecabcbogaaGreatDoorSab
set_option maxRecDepth 100000
set_option linter.unusedSimpArgs false
set_option linter.unusedVariables false
namespace Go.Proofs.YtcbkeecabcbogaaGreatDoor
section
open Go.RowKit
namespace Prs
theorem Qlg {H:Type}{enc:TypeId×Value→H}{P:Program}{w:World}{base:Nat}{sp:Nat→Bool}{held:Bool}{fuel:Nat}{t:TypeId}{ms:Array (String×TypeId)}{cs:List Value}{x:DataW H×List MemPlace}
  (ht:P.underlying t=some (.interface ms)) (h:DataW.trod enc P w base sp held fuel t cs=some x):∃ ev,cs=[ev]∧(ev=.nilIface∨∃ te pe,ev=.iface te pe):=by
 cases fuel with
 |zero=>simp[DataW.trod] at h
 |succ n=>
  unfold DataW.trod at h;rw[ht] at h;rcases cs with _|⟨c,_|⟨d,r⟩⟩
  ·simp at h
  ·cases c <;> first|exact⟨_,rfl,.inl rfl⟩|exact⟨_,rfl,.inr ⟨_,_,rfl⟩⟩|(simp at h)
  ·simp at h
theorem Qhq {H:Type}{enc:TypeId×Value→H}{P:Program}{w:World}{base:Nat}{sp:Nat→Bool}{held:Bool}{fuel:Nat}{t e:TypeId}{n:Nat}{cs:List Value}{zs:List (List UInt8)}{p:List MemPlace}
  (ht:P.underlying t=some (.array n e)) (he:P.underlying e=some .string) (hce:P.cellsOf e=1) (hct:P.cellsOf t=n)
  (h:DataW.trod enc P w base sp held fuel t cs=some (.agg (zs.map fun z => .lit (.string z)),p)):cs=zs.map fun z=>Value.string ⟨z.toArray⟩:=by
 obtain⟨xs,m,rfl,hx,hl,hxl,hall⟩:=DataW.trod_array ht h;have hxs:xs.map (·.1)=zs.map fun z=>(DataW.lit (.string z):DataW H):=by
  have:=congrArg Prod.fst hx;simpa using this.symm
 have hzl:zs.length=n:=by
  have:=congrArg List.length hxs;simp at this;omega
 apply List.ext_getElem?
 intro i;by_cases hi:i<n
 ·have h1:=hall i hi;rw[hce] at h1;obtain⟨b,hb⟩:∃ b,xs[i]? = some b:=⟨xs[i]'Dw,List.getElem?_eq_getElem Dw⟩;rw[hb] at h1;obtain⟨s,hcz,rfl,_⟩:=DataW.trod_string he h1;have h2:cs[i]? = some (.string s):=by
   have:=congrArg (·[0]?) hcz;simpa [List.getElem?_take,List.getElem?_drop] using this
  have h3:(xs.map (·.1))[i]? = some (DataW.lit (.string s.data.toList):DataW H):=by simp[hb]
  rw[hxs] at h3;simp only[List.getElem?_map,Option.map_eq_some_iff,DataW.lit.injEq,Lit.string.injEq] at h3;obtain⟨z',hz',e'⟩:=h3;rw[h2];simp only[List.getElem?_map,hz',Option.map_some,e']
 ·rw[List.getElem?_eq_none Dw,List.getElem?_eq_none (by simp;omega)]
theorem u8extra:U8Extra Tryz.prog Tryz.Qd8:=by
 constructor <;> kernel_rfl
theorem Qgn {H:Type}{enc:TypeId×Value→H}{P:Program}{w:World}{base:Nat}{sp:Nat→Bool}{held:Bool}{fuel:Nat}{t e:TypeId}{cs:List Value}{zs:List (List UInt8)}{r:List (DataW H)}{p:List MemPlace}
  (ht:P.underlying t=some (.slice e)) (he:P.underlying e=some .string) (hce:P.cellsOf e=1) (hz:0<zs.length)
  (h:DataW.trod enc P w base sp held fuel t cs=some (.slice (zs.map fun z => .lit (.string z)) r,p)):
  ∃ b o c,cs=[.slice (some ⟨b,o,none⟩) zs.length c]∧zs.length≤c∧c≤maxLen∧∀ (j:Nat) (x:List UInt8),zs[j]? = some x→w.cell? ⟨b,o+j,none⟩=some (strV x):=by
 rcases DataW.trod_slice ht h with ⟨-,h1⟩|⟨a,len,cap,elems,rest,n,rfl,rfl,hx,hb,hlc,hcm,hel,hat,-,-⟩
 ·cases h1
 ·have hes:elems.map (·.1)=zs.map fun z=>(DataW.lit (.string z):DataW H):=by
   have:=congrArg Prod.fst hx;simp only[DataW.slice.injEq] at this;exact this.1.symm
  have hzl:zs.length=len:=by
   have:=congrArg List.length hes;simp at this;omega
  have key:∀ (i:Nat) (x:List UInt8),zs[i]? = some x→w.cell? (a.add i)=some (strV x):=fun i x hi=>by
   have hlt:i<len:=by
    have:=(List.getElem?_eq_some_iff.1 hi).1;omega
   have h1:=hat i hlt;rw[hce,Nat.mul_one] at h1;obtain⟨el,hel'⟩:∃ el,elems[i]? = some el:=⟨elems[i]'Dw,List.getElem?_eq_getElem Dw⟩;rw[hel'] at h1;obtain⟨cs',hc1,hc2⟩:=Option.bind_eq_some_iff.1 h1;obtain⟨s,rfl,rfl,-⟩:=DataW.trod_string he hc2;have h3:(elems.map (·.1))[i]? = some (DataW.lit (.string s.data.toList):DataW H):=by simp[hel']
   rw[hes] at h3;simp only[List.getElem?_map,hi,Option.map_some,Option.some.injEq,DataW.lit.injEq,Lit.string.injEq] at h3;rw[ChangeShapes.cell_of_cells?_one hc1];unfold strV;rw[h3]
  have hsp:a.spot=none:=by
   have h0:=key 0 zs[0] (List.getElem?_eq_getElem hz);rw[show a.add 0=a from rfl] at h0;unfold World.cell? at h0;split at h0
   ·split at h0
    ·cases h0
    ·rename_i hs;cases hsp:a.spot with
     |none=>rfl
     |some _=>rw[hsp] at hs;exact absurd rfl hs
   ·cases h0
  obtain⟨b,o,sp'⟩:=a;dsimp only at hsp;subst hsp;refine⟨b,o,cap,by rw[hzl],by omega,hcm,fun j x hj=>?_⟩
  have:=key j x hj;unfold Addr.add at this;split at this
  ·rename_i h0;subst h0;exact this
  ·exact this
theorem Qez {H:Type}{enc:TypeId×Value→H}{P:Program}{w:World}{base:Nat}{sp:Nat→Bool}{held:Bool}{fuel:Nat}{t u e:TypeId}{n:Nat}{cs:List Value}{zss:List (List (List UInt8))}{p:List MemPlace}
  (ht:P.underlying t=some (.array n u)) (hu:P.underlying u=some (.slice e)) (he:P.underlying e=some .string) (hce:P.cellsOf e=1) (hcu:P.cellsOf u=1) (hct:P.cellsOf t=n) (hz:∀ zs∈zss,0<zs.length)
  (h:DataW.trod enc P w base sp held fuel t cs=some (.agg (zss.map fun zs => .slice (zs.map fun z => .lit (.string z)) []),p)):
  cs.length=zss.length∧∀ (i:Nat) (zs:List (List UInt8)),zss[i]? = some zs→∃ b o c:Nat,cs[i]? = some (.slice (some ⟨b,o,none⟩) zs.length c)∧zs.length≤c∧c≤maxLen∧∀ (j:Nat) (x:List UInt8),zs[j]? = some x→w.cell? ⟨b,o+j,none⟩=some (strV x):=by
 obtain⟨xs,m,rfl,hx,hl,hxl,hall⟩:=DataW.trod_array ht h;have hxs:xs.map (·.1)=zss.map fun zs=>(DataW.slice (zs.map fun z => .lit (.string z)) []:DataW H):=by
  have:=congrArg Prod.fst hx;simpa using this.symm
 have hzl:zss.length=n:=by
  have:=congrArg List.length hxs;simp at this;omega
 refine⟨by omega,fun i zs hi=>?_⟩;have hlt:i<n:=by
  have:=(List.getElem?_eq_some_iff.1 hi).1;omega
 have h1:=hall i hlt;rw[hcu] at h1;obtain⟨b,hb⟩:∃ b,xs[i]? = some b:=⟨xs[i]'Dw,List.getElem?_eq_getElem Dw⟩;rw[hb] at h1;have h3:(xs.map (·.1))[i]? = some b.1:=by simp[hb]
 rw[hxs] at h3;simp only[List.getElem?_map,hi,Option.map_some,Option.some.injEq] at h3;obtain⟨b1,b2⟩:=b;dsimp only at h3;subst h3;obtain⟨b,o,c,k1,k2,k3,k4⟩:=Qgn hu he hce (hz zs (List.mem_of_getElem? hi)) h1;refine⟨b,o,c,?_,k2,k3,k4⟩
 have:=congrArg (·[0]?) k1;simpa [List.getElem?_take,List.getElem?_drop] using this
theorem ops_row:((((begin Tryz.prog (fun _ _=>0) default).world.heap[1]?).bind Obj.row?).map (·.2))=some 96:=by kernel_rfl
def laidList:List (String×DataW Unit):=[("math/bits.deBruijn32tab", Rows.laid_math_bits_deBruijn32tab),("math/bits.deBruijn64tab", Rows.laid_math_bits_deBruijn64tab),("internal/strconv.uint64pow10", Rows.laid_internal_strconv_uint64pow10),("unicode/utf8.acceptRanges", Rows.laid_unicode_utf8_acceptRanges),("strconv.ErrRange", Rows.laid_strconv_ErrRange),("strconv.ErrSyntax", Rows.laid_strconv_ErrSyntax),("mullion/scan.signs", Rows.laid_mullion_scan_signs),("mullion/tree.Ops", Rows.laid_mullion_tree_Ops),("unicode/utf8.first", Rows.laid_unicode_utf8_first)]
theorem Qqn {W:World}(hsh:W.ShapedOpen Tryz.prog){g:Nat}{t:TypeId}{n:String}{cs:Array Value}(hrow:((((begin Tryz.prog (fun _ _=>0) default).world.heap[g]?).bind Obj.row?).map (·.2))=some t)(hg:(Tryz.prog).globalNamed n=some g)(hgl:g<(Tryz.prog).globals.size)(hvar:W.var? Tryz.prog n=some cs):
  W.heap[g]? = some (.cells cs t):=by
 unfold World.var? at hvar;rw[hg] at hvar;simp only[Option.bind_some] at hvar;split at hvar
 ·rename_i cs' t' fr' hh;cases hvar;cases hr:((begin Tryz.prog (fun _ _=>0) default).world.heap[g]?).bind Obj.row? with
  |none=>rw[hr] at hrow;cases hrow
  |some zt=>
   obtain⟨zero,t0⟩:=zt;have ht0:t0=t:=by
    rw[hr] at hrow;exact Option.some.inj hrow
   obtain⟨cs2,h1,-,-⟩:=hsh.1 g zero t0 hgl hr;rw[h1] at hh ⊢;simp only[Option.some.injEq,Obj.cells.injEq] at hh;obtain⟨e1,-,-⟩:=hh;rw[e1,ht0]
 ·cases hvar
theorem most_of:∀ w:World,w.ShapedOpen Tryz.prog→∃ m,w.cell? ⟨4,0,none⟩=some (.int .i64 m):=fun w h=>Go.Proofs.cell_of_shapedOpen_int (zero := #[.int .i64 0]) (t:=3) h (of_decide_eq_true Dk) Dk rfl Dk Dk Tryz.underlying3
theorem scan_of {W:World}(h:laidMet Tryz.prog laidList W)(hsh:W.ShapedOpen Tryz.prog):Laid W:=by
 have hr:∀ n d,(n,d)∈laidList→Lib.VarReads Tryz.prog W n d:=fun n d hm=>Lib.laidMet.reads h hm
 refine⟨?_,?_,?_,?_,?_⟩
 ·obtain⟨g,t,cs,fuel,p,hg,hty,hvar,hd⟩:=hr "math/bits.deBruijn64tab" _ (by unfold laidList;repeat (first|exact List.Mem.head _|apply List.Mem.tail))
  have hg':(Tryz.prog).globalNamed "math/bits.deBruijn64tab" = some 9:=by kernel_rfl
  obtain rfl:=Option.some.inj (hg'.symm.trans hg);unfold World.var? at hvar;rw[hg'] at hvar;rcases Nat.lt_or_ge 9 W.heap.size with h'|h'
  ·exact h'
  ·simp[Array.getElem?_eq_none h'] at hvar
 ·have e1:Rows.laid_unicode_utf8_first=Lib.firstData:=by kernel_rfl
  have e2:Rows.laid_unicode_utf8_acceptRanges=Lib.acceptData:=by kernel_rfl
  have r1:=hr "unicode/utf8.first" Rows.laid_unicode_utf8_first (by unfold laidList;repeat (first|exact List.Mem.head _|apply List.Mem.tail))
  have r2:=hr "unicode/utf8.acceptRanges" Rows.laid_unicode_utf8_acceptRanges (by unfold laidList;repeat (first|exact List.Mem.head _|apply List.Mem.tail))
  rw[e1] at r1;rw[e2] at r2;exact utf8Tabs_of_reads Tryz.lays260 u8extra r1 r2
 ·exact most_of W hsh
 ·obtain⟨g,t,cs,fuel,p,hg,hty,hvar,hd⟩:=hr "strconv.ErrRange" _ (by unfold laidList;repeat (first|exact List.Mem.head _|apply List.Mem.tail))
  have hg':(Tryz.prog).globalNamed "strconv.ErrRange" = some 6:=by kernel_rfl
  have ht':((Tryz.prog).globals[6]?).map (·.type)=some 102:=by kernel_rfl
  obtain rfl:=Option.some.inj (hg'.symm.trans hg);obtain rfl:=Option.some.inj (ht'.symm.trans hty);obtain⟨ev,hcs,hev⟩:=Qlg Tryz.underlying102 hd;refine⟨ev,?_,hev⟩;have h1:=World.var?_cell hg hvar 0;rw[h1,←Array.getElem?_toList,hcs];rfl
 ·obtain⟨g,t,cs,fuel,p,hg,hty,hvar,hd⟩:=hr "mullion/scan.signs" _ (by unfold laidList;repeat (first|exact List.Mem.head _|apply List.Mem.tail))
  have hg':(Tryz.prog).globalNamed "mullion/scan.signs" = some 0:=by kernel_rfl
  have ht':((Tryz.prog).globals[0]?).map (·.type)=some 95:=by kernel_rfl
  obtain rfl:=Option.some.inj (hg'.symm.trans hg);obtain rfl:=Option.some.inj (ht'.symm.trans hty);have hcs:=Qhq (zs:=Vp) Tryz.underlying95 Tryz.underlying9 Dk Dk hd;unfold World.var? at hvar;rw[hg'] at hvar;simp only[Option.bind_some] at hvar;split at hvar
  ·rename_i cs' t' fr' hh;cases hvar;refine⟨t',fr',?_⟩;rw[hh];have:cs=Qkd:=by
    apply Array.toList_inj.1;rw[hcs];rfl
   rw[this]
  ·cases hvar
theorem ops_of {W:World}(h:laidMet Tryz.prog laidList W)(hsh:W.ShapedOpen Tryz.prog):∃ f,Ops W f:=by
 have hr:∀ n d,(n,d)∈laidList→Lib.VarReads Tryz.prog W n d:=fun n d hm=>Lib.laidMet.reads h hm
 have hsize:10≤W.heap.size:=by
  obtain⟨g,t,cs,fuel,p,hg,hty,hvar,hd⟩:=hr "math/bits.deBruijn64tab" _ (by unfold laidList;repeat (first|exact List.Mem.head _|apply List.Mem.tail))
  have hg':(Tryz.prog).globalNamed "math/bits.deBruijn64tab" = some 9:=by kernel_rfl
  obtain rfl:=Option.some.inj (hg'.symm.trans hg);unfold World.var? at hvar;rw[hg'] at hvar;rcases Nat.lt_or_ge 9 W.heap.size with h'|h'
  ·exact h'
  ·simp[Array.getElem?_eq_none h'] at hvar
 obtain⟨g,t,cs,fuel,p,hg,hty,hvar,hd⟩:=hr "mullion/tree.Ops" _ (by unfold laidList;repeat (first|exact List.Mem.head _|apply List.Mem.tail))
 have hg':(Tryz.prog).globalNamed "mullion/tree.Ops" = some 1:=by kernel_rfl
 have ht':((Tryz.prog).globals[1]?).map (·.type)=some 96:=by kernel_rfl
 obtain rfl:=Option.some.inj (hg'.symm.trans hg);obtain rfl:=Option.some.inj (ht'.symm.trans hty);obtain⟨hlen,key⟩:=Qez (zss:=opsP) Tryz.underlying96 Tryz.underlying33 Tryz.underlying9 Dk Dk Dk Dd hd;obtain⟨b0,o0,c0,x0,y0,z0,q0⟩:=key 0 _ rfl;obtain⟨b1,o1,c1,x1,y1,z1,q1⟩:=key 1 _ rfl;obtain⟨b2,o2,c2,x2,y2,z2,q2⟩:=key 2 _ rfl;obtain⟨b3,o3,c3,x3,y3,z3,q3⟩:=key 3 _ rfl;obtain⟨b4,o4,c4,x4,y4,z4,q4⟩:=key 4 _ rfl;let f:Where:=fun i=>match i with
  |0=>(b0,o0,c0)
  |1=>(b1,o1,c1)
  |2=>(b2,o2,c2)
  |3=>(b3,o3,c3)
  |_=>(b4,o4,c4)
 have hcs:cs.toList=opsAt f:=by
  have hl5:cs.toList.length=5:=hlen;match hm:cs.toList,hl5 with
  | [v0,v1,v2,v3,v4],_=>
   rw[hm] at x0 x1 x2 x3 x4;cases x0;cases x1;cases x2;cases x3;cases x4;rfl
 refine⟨f,hsize,?_,fun i hi=>?_,fun i z hz j x hx=>?_⟩
 ·rw[Qqn hsh ops_row hg' (by decide +kernel) hvar];congr 2
  apply Array.toList_inj.1;rw[hcs]
 ·rcases (by omega:i=0∨i=1∨i=2∨i=3∨i=4) with rfl|rfl|rfl|rfl|rfl
  ·exact⟨y0,z0⟩
  ·exact⟨y1,z1⟩
  ·exact⟨y2,z2⟩
  ·exact⟨y3,z3⟩
  ·exact⟨y4,z4⟩
 ·have hi:i<5:=(List.getElem?_eq_some_iff.1 hz).1;rcases (by omega:i=0∨i=1∨i=2∨i=3∨i=4) with rfl|rfl|rfl|rfl|rfl
  ·cases hz;exact q0 j x hx
  ·cases hz;exact q1 j x hx
  ·cases hz;exact q2 j x hx
  ·cases hz;exact q3 j x hx
  ·cases hz;exact q4 j x hx
theorem laid_of {W:World}(h:laidMet Tryz.prog laidList W)(hsh:W.ShapedOpen Tryz.prog):∃ f,Nj W f:=by
 obtain⟨f,hf⟩:=ops_of h hsh;exact⟨f,scan_of h hsh,hf⟩
end Prs
def laidList:List (String×DataW Unit):=Prs.laidList
theorem laid_of {W:World}(h:laidMet Tryz.prog laidList W)(hsh:W.ShapedOpen Tryz.prog):∃ f,Prs.Nj W f:=Prs.laid_of h hsh
end
section
theorem mem_tw {q:UInt8→Bool}{c:UInt8}:∀ l:List UInt8,c∈l.takeWhile q→q c=true
 | [],h=>by simp at h
 |b::l,h=>by
  rw[List.takeWhile_cons] at h;split at h
  ·rename_i hb;rcases List.mem_cons.1 h with rfl|h
   ·exact hb
   ·exact mem_tw l h
  ·simp at h
theorem decN (l:List UInt8):Zl l=Lib.decodeN l.length (l.getD 0 0).toNat (l.getD 1 0).toNat (l.getD 2 0).toNat (l.getD 3 0).toNat:=Lib.decodeL_N l
theorem Qjh (x y:List UInt8)(hb:broken x=false)(hlen:(Zl x).2≤y.length)(h:∀ j,j<(Zl x).2→x.getD j 0=y.getD j 0):Zl y=Zl x:=by
 have hnb:¬ ((Zl x).1=65533∧(Zl x).2<2):=by
  intro hh;unfold broken at hb;simp[hh.1,hh.2] at hb
 rw[decN x] at hnb hlen h;rw[decN y,decN x];have q0:=(x.getD 0 0).toNat_lt;rcases Lib.decodeN_shape x.length (x.getD 0 0).toNat (x.getD 1 0).toNat (x.getD 2 0).toNat (x.getD 3 0).toNat with ⟨c,e⟩|⟨c1,c2,c3,cv,e⟩|⟨c1,c2,c3,c4,cv,cs,e⟩|⟨c1,c2,c3,c4,c5,cv,cw,e⟩|e
 ·rw[e] at h hlen ⊢;rw[←h 0 Ds];unfold Lib.decodeN;rw[if_pos c]
 ·rw[e] at h hlen ⊢;simp only[] at h hlen;rw[←h 0 Ds,←h 1 Ds];unfold Lib.decodeN;rw[if_neg Dw,if_pos ⟨c1,by omega,c3⟩,if_pos cv]
 ·rw[e] at h hlen ⊢;simp only[] at h hlen;rw[←h 0 Ds,←h 1 Ds,←h 2 Ds];unfold Lib.decodeN;rw[if_neg Dw,if_neg Dw,if_pos ⟨c1,⟨by omega,c3⟩,⟨by omega,c4⟩⟩,if_pos ⟨cv,by omega⟩]
 ·rw[e] at h hlen ⊢;simp only[] at h hlen;rw[←h 0 Ds,←h 1 Ds,←h 2 Ds,←h 3 Ds];unfold Lib.decodeN;rw[if_neg Dw,if_neg Dw,if_neg Dw,if_pos ⟨c1,⟨by omega,c3⟩,⟨by omega,c4⟩,⟨by omega,c5⟩⟩,if_pos ⟨cv,by omega⟩]
 ·rw[e] at hnb;simp at hnb
theorem Qev {x y:List UInt8}(h:Zl y=Zl x):broken y=broken x:=by unfold broken;rw[h]
theorem Qeg {l:List UInt8}(hl:l≠[]):(Zl l).2≤l.length∧1≤(Zl l).2:=by
 cases l with
 |nil=>exact absurd rfl hl
 |cons b m=>exact⟨Qaq b m,Ri b m⟩
theorem Qhm (l:List UInt8)(n:Nat)(hl:l≠[])(hb:broken l=false)(h:(Zl l).2≤n):Zl (l.take n)=Zl l:=by
 have:=Qeg hl;refine Qjh l (l.take n) hb (by rw[List.length_take];omega) fun j hj=>?_
 rw[List.getD_eq_getElem?_getD,List.getD_eq_getElem?_getD,List.getElem?_take_of_lt Dw]
theorem Qs4 (x y:List UInt8)(hx:x≠[])(hb:broken x=false):Zl (x++y)=Zl x:=by
 have:=Qeg hx;refine Qjh x (x++y) hb (by rw[List.length_append];omega) fun j hj=>?_
 rw[List.getD_eq_getElem?_getD,List.getD_eq_getElem?_getD,List.getElem?_append_left Dw]
theorem dec_cont (l:List UInt8)(j:Nat)(h0:0<j)(hj:j<(Zl l).2):128≤(l.getD j 0).toNat:=by
 rw[decN l] at hj;rcases Lib.decodeN_shape l.length (l.getD 0 0).toNat (l.getD 1 0).toNat (l.getD 2 0).toNat (l.getD 3 0).toNat with ⟨c,e⟩|⟨c1,c2,c3,cv,e⟩|⟨c1,c2,c3,c4,cv,cs,e⟩|⟨c1,c2,c3,c4,c5,cv,cw,e⟩|e;all_goals
  rw[e] at hj;simp only[] at hj
 ·omega
 ·obtain rfl:j=1:=by omega
  omega
 ·obtain rfl|rfl:j=1∨j=2:=by omega
  ·omega
  ·omega
 ·obtain rfl|rfl|rfl:j=1∨j=2∨j=3:=by omega
  ·omega
  ·omega
  ·omega
 ·omega
def Wh (l:List UInt8):Prop:=Zp l=l.length
theorem wh_nil:Wh []:=Gs
theorem wh_ne {l:List UInt8}(h:Wh l)(hl:l≠[]):broken l=false∧Wh (l.drop (Zl l).2):=by
 have hf:=Qeg hl;cases l with
 |nil=>exact absurd rfl hl
 |cons b m=>
  unfold Wh at h;cases hb:broken (b::m)
  ·rw[D9 b m hb] at h;exact⟨rfl,by unfold Wh;rw[List.length_drop];omega⟩
  ·rw[Qdb b m hb] at h;simp at h
theorem Qqq {l:List UInt8}(hl:l≠[])(hb:broken l=false):Zp l=(Zl l).2+Zp (l.drop (Zl l).2):=by
 cases l with
 |nil=>exact absurd rfl hl
 |cons b m=>exact D9 b m hb
theorem wh_app (y:List UInt8):∀ (n:Nat) (x:List UInt8),x.length≤n→Wh x→Zp (x++y)=x.length+Zp y:=by
 intro n;induction n with
 |zero=>
  intro x hx _;have:x=[]:=List.length_eq_zero_iff.1 Dw;subst this;simp
 |succ n ih=>
  intro x hx hw;by_cases he:x=[]
  ·subst he;simp
  ·obtain⟨hb,hw2⟩:=wh_ne hw he;have hd:=Qs4 x y he hb;have hf:=Qeg he;have hxy:x++y≠[]:=by simp[he]
   rw[Qqq hxy (by rw[Qev hd];exact hb),hd,List.drop_append_of_le_length hf.1,ih _ (by rw[List.length_drop];omega) hw2,List.length_drop];omega
theorem wh_join {x y:List UInt8}(hx:Wh x)(hy:Wh y):Wh (x++y):=by
 unfold Wh;rw[wh_app y x.length x (Nat.le_refl _) hx,hy,List.length_append]
def Cut (l:List UInt8)(n:Nat):Prop:=n≤l.length∧Wh (l.take n)∧Wh (l.drop n)
theorem Pv {l:List UInt8}(h:Wh l):Cut l 0:=⟨Nat.zero_le _,by rw[List.take_zero];exact wh_nil,h⟩
theorem take_two (l:List UInt8)(a b:Nat):l.take (a+b)=l.take a++(l.drop a).take b:=List.take_add
theorem Qln {l:List UInt8}{a b:Nat}(h:Cut l a)(k:Cut (l.drop a) b):Cut l (a+b):=by
 have:=h.1;have:=k.1;rw[List.length_drop] at this;exact⟨by omega,by rw[take_two];exact wh_join h.2.1 k.2.1,by rw[←List.drop_drop];exact k.2.2⟩
theorem Qhn {l:List UInt8}(h:Wh l)(hl:l≠[]):Cut l (Zl l).2:=by
 have hf:=Qeg hl;obtain⟨hb,hw⟩:=wh_ne h hl;refine⟨hf.1,?_,hw⟩;have hd:=Qhm l (Zl l).2 hl hb (Nat.le_refl _);have hne:l.take (Zl l).2≠[]:=by
  intro e;have:=congrArg List.length e;rw[List.length_take,List.length_nil] at this;omega
 unfold Wh;rw[Qqq hne (by rw[Qev hd];exact hb),hd,List.drop_take,Nat.sub_self,List.take_zero,Gs,List.length_take];omega
theorem Qs5:∀ (n:Nat) (l:List UInt8),l.length≤n→Wh l→Cut l (Um l):=by
 intro n;induction n with
 |zero=>
  intro l hl h;have:l=[]:=List.length_eq_zero_iff.1 Dw;subst this;rw[Di];exact Pv h
 |succ n ih=>
  intro l hl h;cases l with
  |nil=>rw[Di];exact Pv h
  |cons b m=>
   cases hr:Nk (Zl (b::m)).1
   ·rw[Ej b m hr];exact Pv h
   ·have hc:=Qhn h (List.cons_ne_nil b m);have hp:=Ri b m;rw[Hl b m hr];exact Qln hc (ih _ (by rw[List.length_drop];simp at hl ⊢;omega) hc.2.2)
theorem Qsd (l:List UInt8)(d:Nat)(hd:d≤l.length)(h:∀ j,j<d→l.getD j 0≠10):Zv l=d+Zv (l.drop d):=by
 have e:l=l.take d++l.drop d:=(List.take_append_drop d l).symm;have hall:∀ a∈l.take d,(a != 10)=true:=by
  intro a ha;obtain⟨j,hj,rfl⟩:=List.getElem_of_mem ha;rw[List.length_take] at hj
  have:=h j Dw;rw[List.getElem_take,bne_iff_ne];rw[List.getD_eq_getElem?_getD,List.getElem?_eq_getElem Dw] at this;simpa using this
 unfold Zv;conv=>lhs;rw[e]
 rw[List.takeWhile_append_of_pos hall,List.length_append,List.length_take];omega
theorem cut_line:∀ (n:Nat) (l:List UInt8),l.length≤n→Wh l→Cut l (Zv l):=by
 intro n;induction n with
 |zero=>
  intro l hl h;have:l=[]:=List.length_eq_zero_iff.1 Dw;subst this;exact Pv h
 |succ n ih=>
  intro l hl h;cases l with
  |nil=>exact Pv h
  |cons b m=>
   by_cases hb:b=10
   ·subst hb;have:Zv (10::m)=0:=by simp[Zv]
    rw[this];exact Pv h
   ·have hc:=Qhn h (List.cons_ne_nil b m);have hp:=Ri b m
    rw[Qsd (b::m) (Zl (b::m)).2 (Qaq b m) (by
     intro j hj;by_cases h0:j=0
     ·subst h0;simpa using hb
     ·have:=dec_cont (b::m) j Dw hj
      intro e;rw[e] at this;exact absurd this Dd)]
    exact Qln hc (ih _ (by rw[List.length_drop];simp at hl ⊢;omega) hc.2.2)
theorem Qar:∀ (n:Nat) (l:List UInt8),n≤l.length→(∀ b∈l.take n,b.toNat<128)→Wh l→Cut l n:=by
 intro n;induction n with
 |zero=>intro l _ _ h;exact Pv h
 |succ n ih=>
  intro l hl ha h;cases l with
  |nil=>simp at hl
  |cons b m=>
   have hd:=Jr b m (ha b Ds);have hc:=Qhn h (List.cons_ne_nil b m);rw[hd] at hc;rw[Nat.add_comm];exact Qln hc (ih m (by simpa using hl) (fun c hc=>ha c (by simp[hc])) hc.2.2)
theorem Qr5 (l:List UInt8)(p:Nat)(hl:l≠[])(he:(Ym l p).2.2=0):((Nk (Zl l).1=true∧(Ym l p).2.1=Um l)∨(isLet (Zl l).1=false∧Tv (Zl l).1=false∧Hw l≠[]∧(Ym l p).2.1=(Hw l).length)):=by
 unfold Ym at he ⊢;cases hL:isLet (Zl l).1
 ·cases hD:Tv (Zl l).1
  ·right;simp only[hL,hD,Bool.false_eq_true,if_false] at he ⊢;rw[Qrc l hl] at he ⊢;by_cases h:Hw l=[]
   ·rw[if_pos h] at he;simp at he
   ·rw[if_neg h];exact⟨trivial,trivial,h,rfl⟩
  ·left;simp only[hL,hD,Bool.false_eq_true,if_false,if_true] at he ⊢;exact⟨by simp[Nk,hD],trivial⟩
 ·left;simp only[hL,if_true] at he ⊢;refine⟨by simp[Nk,hL],?_⟩;split <;> rfl
theorem Qn4 (l:List UInt8)(h:Hw l≠[]):l.take (Hw l).length=Hw l∧(Hw l).length≤l.length∧∀ b∈Hw l,b.toNat<128:=by
 have h2:∀ g∈Y8,∀ b∈g,b.toNat<128:=by decide
 have h1:∀ g∈X9,∀ b∈g,b.toNat<128:=by decide
 unfold Hw at h ⊢;split
 ·rename_i hc;refine⟨by rw[List.length_take,List.take_eq_take_iff];omega,by rw[List.length_take];omega,h2 _ (List.contains_iff_mem.1 hc.2)⟩
 ·rename_i hc;rw[if_neg hc] at h;split
  ·rename_i hs;refine⟨by rw[List.length_take,List.take_eq_take_iff];omega,by rw[List.length_take];omega,h1 _ (List.contains_iff_mem.1 hs)⟩
  ·rename_i hs;rw[if_neg hs] at h;exact absurd rfl h
theorem one_cut (l:List UInt8)(p:Nat)(hl:l≠[])(h:Wh l)(he:(Ym l p).2.2=0):Cut l (Ym l p).2.1:=by
 rcases Qr5 l p hl he with ⟨-,e⟩|⟨-,-,h3,e⟩
 ·rw[e];exact Qs5 l.length l (Nat.le_refl _) h
 ·rw[e];have hs:=Qn4 l h3;exact Qar _ l hs.2.1 (by rw[hs.1];exact hs.2.2) h
theorem run_take:∀ (k:Nat) (l:List UInt8) (n:Nat),l.length≤k→Wh l→Um l≤n→Um (l.take n)=Um l:=by
 intro k;induction k with
 |zero=>
  intro l n hl _ _;have:l=[]:=List.length_eq_zero_iff.1 Dw;subst this;simp
 |succ k ih=>
  intro l n hl h hn;cases l with
  |nil=>simp
  |cons b m=>
   obtain⟨hb,hw⟩:=wh_ne h (List.cons_ne_nil b m);cases n with
   |zero=>rw[List.take_zero,Di];omega
   |succ n=>
    have ht:(b::m).take (n+1)=b::m.take n:=rfl;cases hr:Nk (Zl (b::m)).1
    ·rw[Ej b m hr,ht];refine Ej _ _ ?_;rw[←ht];cases hb2:broken ((b::m).take (n+1))
     ·have:=Qs4 ((b::m).take (n+1)) ((b::m).drop (n+1)) (by rw[ht];simp) hb2;rw[List.take_append_drop] at this;rw[←this];exact hr
     ·unfold broken at hb2;simp only[Bool.and_eq_true,beq_iff_eq] at hb2;rw[hb2.1];decide
    ·have hr1:=Hl b m hr;have hdt:=Qhm (b::m) (n+1) (List.cons_ne_nil b m) hb Dw;have hp:=Ri b m;rw[hr1];rw[ht] at hdt ⊢;rw[Hl b (m.take n) (by rw[hdt];exact hr),hdt,←ht,List.drop_take,ih _ _ (by rw[List.length_drop];simp at hl ⊢;omega) hw Dw]
end
section
namespace Prs
end Prs
end
section
open Go.RowKit
namespace Prs
def Uj (S:Nat→Prop)(w:World):List Tr→List Value→Prop
 | [],cs=>cs=[]
 |t::l,cs=>∃ v0 v1 v2 v3 v4 r,cs=v0::v1::v2::v3::v4::r∧X3 S w t [v0,v1,v2,v3,v4]∧Uj S w l r
theorem Uj.len {S:Nat→Prop}{w:World}:∀ {l:List Tr} {cs:List Value},Uj S w l cs→cs.length=l.length*5
 | [],cs,h=>by have h:cs=[]:=h;subst h;rfl
 |t::l,cs,h=>by
  obtain⟨v0,v1,v2,v3,v4,r,rfl,-,h⟩:=h;simp[Uj.len h];omega
theorem Uj.one {S:Nat→Prop}{w:World}:∀ {l:List Tr} {cs:List Value},Uj S w l cs→∀ u∈cs,u.oneCell'=true
 | [],cs,h=>by have h:cs=[]:=h;subst h;intro u hu;cases hu
 |t::l,cs,h=>by
  obtain⟨v0,v1,v2,v3,v4,r,rfl,h1,h⟩:=h;intro u hu;cases t;unfold X3 at h1;obtain⟨a,c,he,-⟩:=h1;simp only[List.cons.injEq,and_true] at he;obtain⟨rfl,rfl,rfl,rfl,rfl⟩:=he;simp only[List.mem_cons] at hu;rcases hu with rfl|rfl|rfl|rfl|rfl|hu;all_goals first|rfl|exact Uj.one h u hu
theorem Uj.frame {S S':Nat→Prop}{w w':World}(hlo:∀ k,S k→k<w.heap.size→S' k)(hb:∀ k,S k→k<w.heap.size→w'.heap[k]? = w.heap[k]?):∀ {l:List Tr} {cs:List Value},Uj S w l cs→Uj S' w' l cs
 | [],_,h=>h
 |t::l,cs,h=>by
  obtain⟨v0,v1,v2,v3,v4,r,h0,h1,h2⟩:=h;exact⟨v0,v1,v2,v3,v4,r,h0,h1.frame hlo hb,Uj.frame hlo hb h2⟩
theorem Uj.app {S:Nat→Prop}{w:World}:∀ {l l':List Tr} {cs cs':List Value},Uj S w l cs→Uj S w l' cs'→Uj S w (l++l') (cs++cs')
 | [],l',cs,cs',h,h'=>by have h:cs=[]:=h;subst h;exact h'
 |t::l,l',cs,cs',h,h'=>by
  obtain⟨v0,v1,v2,v3,v4,r,rfl,h1,h2⟩:=h;exact⟨v0,v1,v2,v3,v4,r++cs',rfl,h1,Uj.app h2 h'⟩
theorem Uj.single {S:Nat→Prop}{w:World}{t:Tr}{v0 v1 v2 v3 v4:Value}(h:X3 S w t [v0,v1,v2,v3,v4]):Uj S w [t] [v0,v1,v2,v3,v4]:=⟨v0,v1,v2,v3,v4,[],rfl,h,rfl⟩
theorem Uj.row {S:Nat→Prop}{w:World}{g:Nat}:∀ {l:List Tr} {cs:List Value} {o:Nat},Uj S w l cs→(∀ (j:Nat) (u:Value),cs[j]? = some u→w.cell? ⟨g,o+j,none⟩=some u)→Xp S w g l o
 | [],_,_,_,_=>by unfold Xp;trivial
 |t::l,cs,o,h,hc=>by
  obtain⟨v0,v1,v2,v3,v4,r,rfl,h1,h2⟩:=h;unfold Xp;refine⟨⟨v0,v1,v2,v3,v4,hc 0 v0 rfl,hc 1 v1 rfl,hc 2 v2 rfl,hc 3 v3 rfl,hc 4 v4 rfl,h1⟩,Uj.row h2 fun j u hj=>?_⟩
  have:=hc (j+5) u (by simpa using hj);rw[show o+(j+5)=o+5+j by omega] at this;exact this
def Kids (b:Nat)(S:Nat→Prop)(w:World)(v:Value)(l:List Tr):Prop:=∃ cs,w.ownsRow b 26 5 v l.length cs∧Uj (fun k=>S k∧some k≠v.ownBlock) w l cs
theorem Kids.nil (b:Nat)(S:Nat→Prop)(w:World):Kids b S w (.slice none 0 0) []:=⟨[],World.ownsRow_nil _ _ _ _,rfl⟩
theorem Kids.below {b:Nat}{S:Nat→Prop}{w w':World}{v:Value}{l:List Tr}(h:Kids b S w v l)(hb:Below w.heap.size w w'):Kids b S w' v l:=by
 obtain⟨cs,h1,h2⟩:=h;exact⟨cs,ownsRow_below h1 hb,h2.frame (fun _ h _=>h) fun k _ hk=>hb.block k hk⟩
theorem Kids.app {b:Nat}{S:Nat→Prop}{w w':World}{v v':Value}{l l':List Tr}{cs cs':List Value}(hc:Uj (fun k=>S k∧some k≠v.ownBlock) w l cs)(hc':Uj (fun k=>S k∧some k≠v.ownBlock) w l' cs')
  (hown:w'.ownsRow b 26 5 v' (l.length+l'.length) (cs++cs')) (hg:w.grownBy w' v.ownBlock) (hat:v'.ownBlock=v.ownBlock∨v'.ownBlock=some w.heap.size):Kids b S w' v' (l++l'):=by
 refine⟨cs++cs',by rw[List.length_append];exact hown,(hc.app hc').frame (fun k hk hlt=>⟨hk.1,?_⟩) fun k hk hlt=>hg.block k hlt hk.2⟩;rcases hat with h|h
 ·rw[h];exact hk.2
 ·rw[h];intro e;cases e;exact absurd hlt (Nat.lt_irrefl _)
theorem Kids.slice {b:Nat}{S:Nat→Prop}{w:World}{v:Value}{l:List Tr}(h:Kids b S w v l):∃ a c,v=.slice a l.length c∧(l=[]∨∃ g,a=some ⟨g,0,none⟩∧b≤g∧Xp S w g l 0):=by
 obtain⟨cs,h1,h2⟩:=h;have hl:=h1.1;have hcell:=fun g hg=>h1.cells (g:=g) hg
 rcases h1.2 with ⟨rfl,h0⟩|⟨g,cap,cur,rfl,hbg,hg,-⟩
 ·have:l=[]:=List.length_eq_zero_iff.1 h0;subst this;exact⟨none,0,rfl,.inl rfl⟩
 ·refine⟨_,cap,rfl,.inr ⟨g,rfl,hbg,Uj.row (h2.frame (fun k hk _=>hk.1) fun _ _ _=>rfl) fun j u hj=>?_⟩⟩
  have:=hcell g rfl j u hj;rw[Lib.add_plain] at this;exact this
theorem rsize_c:∀ (n:Nat) (t:Tr) (S:Nat→Prop) (w:World) (v:Value),Xf t≤n→n≤4611686018427387904→Zd S w t v→Calls Tryz.prog 14 #[v] w fun e w'=>e=.returned (.int .i64 (Xf t:Int))∧Below w.heap.size w w':=by
 intro n;induction n with
 |zero=>intro t S w v h;cases t;unfold Xf at h;omega
 |succ n ih=>
  intro t S w v hn hbig h;cases t with
  |mk kd x nn pl kids=>
  unfold Xf at hn ⊢;obtain⟨cs,he,hc⟩:=h;unfold X3 at hc;obtain⟨a,cp,rfl,hl⟩:=hc;subst he;have IH:=Dh ih;have HL:=Dh hl;have HN:=Dh hn;have HB:=Dh hbig;clear ih hl hn hbig;go_enter Tryz.func14,Tryz.ntmps14
  go_wp2
  go_loopw [3,4] (fun s i wr=>∃ k:Nat,k≤kids.length∧i=.int .i64 k∧s=.int .i64 ((1+Zh (kids.take k):Nat):Int)∧Below w.heap.size w wr∧RowKit.Hid (Qci w.heap.size (kd:Int) x nn pl a kids.length cp wr)) (fun _ i _=>kids.length-(intOf i).toNat)
  case atStart=>
   refine⟨0,Nat.zero_le _,rfl,by simp[Zh],(Below.refl _ _).alloc (Nat.le_refl _) _,Dh ?_⟩;exact Qz _ _
  case round=>
   obtain⟨k,hk,rfl,rfl,hBw,hb1⟩:=hrel;have q1:wr.cell? ⟨w.heap.size,4,none⟩=some (Value.slice a kids.length cp):=by
    have:=hb1.out;unfold Qci at this;simp[World.cell?,this]
   by_cases hlt:k<kids.length
   ·obtain⟨g,o,rfl,hg,hR⟩:=HL.out.resolve_left (by rintro rfl;simp at hlt);obtain⟨kid,hkid⟩:∃ u,kids[k]? = some u:=⟨_,List.getElem?_eq_getElem hlt⟩;obtain⟨u0,u1,u2,u3,u4,c0,c1,c2,c3,c4,hu⟩:=hR.at_ k kid hkid;rw[Nat.mul_comm 5 k] at c0 c1 c2 c3 c4;have hrg:=Dh (Ut (bc hBw c0) (bc hBw c1) (bc hBw c2) (bc hBw c3) (bc hBw c4));have hV:=Dh ((hu.agg).below hBw);have hts:=Dh (Gt hkid);have hle:=Dh (Bf kids (k+1));have hBw:=Dh hBw;clear hR c0 c1 c2 c3 c4 hu hg;have hq1:(k:Int)<(kids.length:Int):=by omega
    go_wp2_with (first|((with_reducible refine wpList_load_mid rfl 26 _ rfl g (o+k*5) ?hx [u0,u1,u2,u3,u4] _ hrg.out Tryz.underlying26 rfl (Xe _ rfl) ?_);(case hx=>rfl))|(go_at_call 14;refine(IH.out kid S _ _ (by have:=HN.out;have:=hts.out;have:=hle.out;omega) (by have:=HB.out;omega) hV.out).mono ?_;rintro e W2 ⟨rfl,hB2⟩))
    have hts:=hts.out;have hle:=hle.out;have hN:=HN.out;have hB:=HB.out;have hlen:=Td kids;rw[w64 (k+1:Int) Dw Dw,w64 (1+(Zh (kids.take k):Int)+(Xf kid:Int)) Dw Dw];refine⟨⟨k+1,by omega,by push_cast;rfl,?_,hBw.out.trans (hB2.mono hBw.out.size),Dh (hb1.out.after hB2)⟩,by simp[intOf];omega⟩;rw[hts];push_cast;rw[Int.add_assoc]
   ·obtain rfl:k=kids.length:=by omega
    have hq1:¬ (kids.length:Int)<(kids.length:Int):=by omega
    go_wp2
    go_ret;exact⟨rfl,hBw⟩
theorem Tryz.infoNd:((Tryz.prog).info? 26).map (fun i=>(i.zero,i.size,i.bytes))=some (some (.agg Q3),5,64):=by kernel_rfl
theorem wp_app {o:Oper}{a:Act}{w:World}{K:Act→World→Prop}{Q:Exit→Act→World→Prop}(s x:Operand)(ho:o.op=.call { callee:=.builtin .append,args := #[s,x],argTypes := #[24,24] })
  {b:Nat} {S:Nat→Prop} {v:Value} {l l':List Tr} (hs:a.eval s=v) (hk:Kids b S w v l) {cs':List Value} {ad:Addr} {c:Nat} (hx:a.eval x=.slice (some ad) l'.length c)
  (hc':Uj (fun k=>S k∧some k≠v.ownBlock) w l' cs') (hcell:∀ j u,cs'[j]? = some u→w.cell? (ad.add j)=some u) (hn:l.length+l'.length≤1000000) (hb:b≤w.heap.size)
  (h:∀ v' w',Kids b S w' v' (l++l')→w.grownBy w' v.ownBlock→(v'.ownBlock=v.ownBlock∨v'.ownBlock=some w.heap.size)→K (a.put o.dst v') w'):o.wp Tryz.prog a w K Q:=by
 obtain⟨i0,hi,hz0,hz1,hz2⟩:=info_parts Tryz.infoNd;obtain⟨cs,h1,h2⟩:=hk;obtain⟨v',w',hr,k1,k2,-,k4⟩:=run_append_own_at (P:=Tryz.prog) (w:=w) b 24 o.type 26 i0 (.agg Q3) 5 64 Tryz.underlying24 hi hz0 hz1 hz2 rfl Dd v l.length cs h1 ad l'.length c cs' hc'.len hcell hc'.one (by unfold maxLen;omega) Dw hb;have H:=h v' w' (Kids.app h2 hc' k1 k2 k4) k2 k4;unfold Oper.wp execOp;simp only[ho,resolve,invoke,builtin,Sem.run_bind,Sem.run_pure,Result.andThen_ok,List.map_toArray,List.map_cons,List.map_nil,hs,hx,hr];exact H
theorem Qeu {w:World}{v0 v1 v2 v3 v4:Value}{t:TypeId}:∀ j u,[v0,v1,v2,v3,v4][j]? = some u→(w.alloc (.cells #[v0,v1,v2,v3,v4] t)).cell? ((⟨w.heap.size,0,none⟩:Addr).add j)=some u:=by
 intro j u hj;have hb:=Qz w (.cells #[v0,v1,v2,v3,v4] t);rw[Lib.add_plain];unfold World.cell?
 dsimp only;rw[hb];match j,hj with
 |0,hj=>cases hj;rfl
 |1,hj=>cases hj;rfl
 |2,hj=>cases hj;rfl
 |3,hj=>cases hj;rfl
 |4,hj=>cases hj;rfl
end Prs
end
section
open Go.RowKit
set_option maxHeartbeats 1000000 in
theorem Qrm (s:ByteArray)(p:Nat)(w:World)(hs:s.size≤1073741824)(hp:p<s.size):Calls Tryz.prog 41 #[.string s,.int .i64 p] w fun e w'=>e=.returned (.string ⟨(Hw ((bl s).drop p)).toArray⟩)∧Below w.heap.size w w':=by
 have hx1:bl (s.extract p (p+1))=((bl s).drop p).take 1:=by rw[Gw];congr 1;omega
 have hlen:((bl s).drop p).length=s.size-p:=by rw[List.length_drop,Xg]
 have hn1:((p:Int)+1).toNat=p+1:=by omega
 have e1:s.extract p (p+1)=⟨(((bl s).drop p).take 1).toArray⟩:=by rw[←hx1,Qr9]
 by_cases h2:p+2≤s.size
 ·have hx2:bl (s.extract p (p+2))=((bl s).drop p).take 2:=by rw[Gw];congr 1;omega
  have hn2:((p:Int)+2).toNat=p+2:=by omega
  have e2:s.extract p (p+2)=⟨(((bl s).drop p).take 2).toArray⟩:=by rw[←hx2,Qr9]
  have hR:Hw ((bl s).drop p)=if Y8.contains (((bl s).drop p).take 2)=true then ((bl s).drop p).take 2 else if X9.contains (((bl s).drop p).take 1)=true then ((bl s).drop p).take 1 else []:=by
   unfold Hw;by_cases hc:Y8.contains (((bl s).drop p).take 2)=true
   ·rw[if_pos ⟨by omega,hc⟩,if_pos hc]
   ·rw[if_neg (fun h=>hc h.2),if_neg hc]
  have hq2:decide ((p:Int)+2≤(s.size:Int))=true:=decide_eq_true Dw;have hq3:(p:Int)+2≤(s.size:Int):=by omega
  have i2:inP Y8 (s.extract p (p+2))=Y8.contains (((bl s).drop p).take 2):=by unfold inP;rw[hx2]
  have i1:inP X9 (s.extract p (p+1))=X9.contains (((bl s).drop p).take 1):=by unfold inP;rw[hx1]
  rw[hR];clear hR hx1 hx2 hlen h2;cases hc2:Y8.contains (((bl s).drop p).take 2)
  ·rw[hc2] at i2;cases hc1:X9.contains (((bl s).drop p).take 1)
   ·rw[hc1] at i1;have I1:=Dh i1;have I2:=Dh i2;have E1:=Dh e1;have E2:=Dh e2;clear i1 i2 e1 e2 hc1 hc2;go_enter Tryz.func41,Tryz.ntmps41
    go_wp2_with fail
    refine(Fj Y8 (s.extract p (p+2)) _ _ _ Dd (fun j h=>Js Y8 w _ _ rfl j h)).mono ?_;rintro e w1 ⟨rfl,hw1⟩;have hB1:Below w.heap.size w w1:=hw1 ▸ (Below.refl _ _).alloc (Nat.le_refl _) _;clear hw1;rw[I2.out];go_wp2_with fail
    refine(Fj X9 (s.extract p (p+1)) _ _ _ Dd (fun j h=>Js X9 w1 _ _ rfl j h)).mono ?_;rintro e w2 ⟨rfl,hw2⟩;have hB2:Below w.heap.size w w2:=Qb hB1 (hw2 ▸ (Below.refl _ _).alloc (Nat.le_refl _) _);clear hw2;rw[I1.out];go_wp2
    go_ret;exact⟨rfl,hB2⟩
   ·rw[hc1] at i1;have I1:=Dh i1;have I2:=Dh i2;have E1:=Dh e1;have E2:=Dh e2;clear i1 i2 e1 e2 hc1 hc2;go_enter Tryz.func41,Tryz.ntmps41
    go_wp2_with fail
    refine(Fj Y8 (s.extract p (p+2)) _ _ _ Dd (fun j h=>Js Y8 w _ _ rfl j h)).mono ?_;rintro e w1 ⟨rfl,hw1⟩;have hB1:Below w.heap.size w w1:=hw1 ▸ (Below.refl _ _).alloc (Nat.le_refl _) _;clear hw1;rw[I2.out];go_wp2_with fail
    refine(Fj X9 (s.extract p (p+1)) _ _ _ Dd (fun j h=>Js X9 w1 _ _ rfl j h)).mono ?_;rintro e w2 ⟨rfl,hw2⟩;have hB2:Below w.heap.size w w2:=Qb hB1 (hw2 ▸ (Below.refl _ _).alloc (Nat.le_refl _) _);clear hw2;rw[I1.out];go_wp2
    go_ret;exact⟨by rw[←E1.out];rfl,hB2⟩
  ·rw[hc2] at i2;have I2:=Dh i2;have E2:=Dh e2;clear i1 i2 e1 e2 hc2;go_enter Tryz.func41,Tryz.ntmps41
   go_wp2_with fail
   refine(Fj Y8 (s.extract p (p+2)) _ _ _ Dd (fun j h=>Js Y8 w _ _ rfl j h)).mono ?_;rintro e w2 ⟨rfl,hw2⟩;have hB2:Below w.heap.size w w2:=hw2 ▸ (Below.refl _ _).alloc (Nat.le_refl _) _;clear hw2;rw[I2.out];go_wp2
   go_ret;exact⟨by rw[←E2.out];rfl,hB2⟩
 ·have hR:Hw ((bl s).drop p)=if X9.contains (((bl s).drop p).take 1)=true then ((bl s).drop p).take 1 else []:=by
   unfold Hw;rw[if_neg (fun h=>h2 Dw)]
  have hq2:decide ((p:Int)+2≤(s.size:Int))=false:=decide_eq_false Dw;have i1:inP X9 (s.extract p (p+1))=X9.contains (((bl s).drop p).take 1):=by unfold inP;rw[hx1]
  rw[hR];clear hR hx1 hlen h2;cases hc1:X9.contains (((bl s).drop p).take 1)
  ·rw[hc1] at i1;have I1:=Dh i1;have E1:=Dh e1;clear i1 e1 hc1;go_enter Tryz.func41,Tryz.ntmps41
   go_wp2_with fail
   refine(Fj X9 (s.extract p (p+1)) _ _ _ Dd (fun j h=>Js X9 w _ _ rfl j h)).mono ?_;rintro e w2 ⟨rfl,hw2⟩;have hB2:Below w.heap.size w w2:=hw2 ▸ (Below.refl _ _).alloc (Nat.le_refl _) _;clear hw2;rw[I1.out];go_wp2
   go_ret;exact⟨rfl,hB2⟩
  ·rw[hc1] at i1;have I1:=Dh i1;have E1:=Dh e1;clear i1 e1 hc1;go_enter Tryz.func41,Tryz.ntmps41
   go_wp2_with fail
   refine(Fj X9 (s.extract p (p+1)) _ _ _ Dd (fun j h=>Js X9 w _ _ rfl j h)).mono ?_;rintro e w2 ⟨rfl,hw2⟩;have hB2:Below w.heap.size w w2:=hw2 ▸ (Below.refl _ _).alloc (Nat.le_refl _) _;clear hw2;rw[I1.out];go_wp2
   go_ret;exact⟨by rw[←E1.out];rfl,hB2⟩
end
end Go.Proofs.YtcbkeecabcbogaaGreatDoor
