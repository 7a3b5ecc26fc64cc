/- From the rows' condition to what the walks ask of the listed -/
import Derived.Test.YtcbkeecabcbogaaGreatDoorCards
import Derived.Test.YtcbkeecabcbogaaGreatDoorBbl
import Derived.Lib.LaidU8
import Derived.Lib.LaidTab
import Derived.Shelf.Vars
import Derived.OpenShut
import Derived.ChangeSlices
import Derived.Test.YtcbkeecabcbogaaGreatDoorBbk
import Derived.Lib.MapLaws
set_option linter.unusedSimpArgs false
set_option linter.unusedVariables false
namespace Go.Proofs.YtcbkeecabcbogaaGreatDoor
section
open Go.RowKit
namespace Prs
theorem Qlt {H:Type}{enc:TypeId×Value→H}{P:Program}{w:World}{base:Nat}{sp:Nat→Bool}{held:Bool}{fuel:Nat}{t:TypeId}{ms:Array (String×TypeId)}{cs:List Value}{x:DataW H×List MemPlace}
  (ht:P.underlying t=some (.interface ms)) (h:DataW.trod enc P w base sp held fuel t cs=some x):∃ ev,cs=[ev]∧(ev=.nilIface∨∃ te pe,ev=.iface te pe):=by
 cases fuel with
 |zero=>simp[DataW.trod] at h
 |succ n=>
  unfold DataW.trod at h;rw[ht] at h;rcases cs with _|⟨c,_|⟨d,r⟩⟩
  ·simp at h
  ·cases c <;> first|exact⟨_,rfl,.inl rfl⟩|exact⟨_,rfl,.inr ⟨_,_,rfl⟩⟩|(simp at h)
  ·simp at h
theorem Qh2 {H:Type}{enc:TypeId×Value→H}{P:Program}{w:World}{base:Nat}{sp:Nat→Bool}{held:Bool}{fuel:Nat}{t e:TypeId}{n:Nat}{cs:List Value}{zs:List (List UInt8)}{p:List MemPlace}
  (ht:P.underlying t=some (.array n e)) (he:P.underlying e=some .string) (hce:P.cellsOf e=1) (hct:P.cellsOf t=n)
  (h:DataW.trod enc P w base sp held fuel t cs=some (.agg (zs.map fun z => .lit (.string z)),p)):cs=zs.map fun z=>Value.string ⟨z.toArray⟩:=by
 obtain⟨xs,m,rfl,hx,hl,hxl,hall⟩:=DataW.trod_array ht h;have hxs:xs.map (·.1)=zs.map fun z=>(DataW.lit (.string z):DataW H):=by
  have:=congrArg Prod.fst hx;simpa using this.symm
 have hzl:zs.length=n:=by
  have:=congrArg List.length hxs;simp at this;omega
 apply List.ext_getElem?
 intro i;by_cases hi:i<n
 ·have h1:=hall i hi;rw[hce] at h1;obtain⟨b,hb⟩:∃ b,xs[i]? = some b:=⟨xs[i]'Dw,List.getElem?_eq_getElem Dw⟩;rw[hb] at h1;obtain⟨s,hcz,rfl,_⟩:=DataW.trod_string he h1;have h2:cs[i]? = some (.string s):=by
   have:=congrArg (·[0]?) hcz;simpa [List.getElem?_take,List.getElem?_drop] using this
  have h3:(xs.map (·.1))[i]? = some (DataW.lit (.string s.data.toList):DataW H):=by simp[hb]
  rw[hxs] at h3;simp only[List.getElem?_map,Option.map_eq_some_iff,DataW.lit.injEq,Lit.string.injEq] at h3;obtain⟨z',hz',e'⟩:=h3;rw[h2];simp only[List.getElem?_map,hz',Option.map_some,e']
 ·rw[List.getElem?_eq_none Dw,List.getElem?_eq_none (by simp;omega)]
theorem u8extra:U8Extra Tryz.prog Tryz.Qed:=by
 constructor <;> kernel_rfl
theorem Qgt {H:Type}{enc:TypeId×Value→H}{P:Program}{w:World}{base:Nat}{sp:Nat→Bool}{held:Bool}{fuel:Nat}{t e:TypeId}{cs:List Value}{zs:List (List UInt8)}{r:List (DataW H)}{p:List MemPlace}
  (ht:P.underlying t=some (.slice e)) (he:P.underlying e=some .string) (hce:P.cellsOf e=1) (hz:0<zs.length)
  (h:DataW.trod enc P w base sp held fuel t cs=some (.slice (zs.map fun z => .lit (.string z)) r,p)):
  ∃ b o c,cs=[.slice (some ⟨b,o,none⟩) zs.length c]∧zs.length≤c∧c≤maxLen∧∀ (j:Nat) (x:List UInt8),zs[j]? = some x→w.cell? ⟨b,o+j,none⟩=some (strV x):=by
 rcases DataW.trod_slice ht h with ⟨-,h1⟩|⟨a,len,cap,elems,rest,n,rfl,rfl,hx,hb,hlc,hcm,hel,hat,-,-⟩
 ·cases h1
 ·have hes:elems.map (·.1)=zs.map fun z=>(DataW.lit (.string z):DataW H):=by
   have:=congrArg Prod.fst hx;simp only[DataW.slice.injEq] at this;exact this.1.symm
  have hzl:zs.length=len:=by
   have:=congrArg List.length hes;simp at this;omega
  have key:∀ (i:Nat) (x:List UInt8),zs[i]? = some x→w.cell? (a.add i)=some (strV x):=fun i x hi=>by
   have hlt:i<len:=by
    have:=(List.getElem?_eq_some_iff.1 hi).1;omega
   have h1:=hat i hlt;rw[hce,Nat.mul_one] at h1;obtain⟨el,hel'⟩:∃ el,elems[i]? = some el:=⟨elems[i]'Dw,List.getElem?_eq_getElem Dw⟩;rw[hel'] at h1;obtain⟨cs',hc1,hc2⟩:=Option.bind_eq_some_iff.1 h1;obtain⟨s,rfl,rfl,-⟩:=DataW.trod_string he hc2;have h3:(elems.map (·.1))[i]? = some (DataW.lit (.string s.data.toList):DataW H):=by simp[hel']
   rw[hes] at h3;simp only[List.getElem?_map,hi,Option.map_some,Option.some.injEq,DataW.lit.injEq,Lit.string.injEq] at h3;rw[ChangeShapes.cell_of_cells?_one hc1];unfold strV;rw[h3]
  have hsp:a.spot=none:=by
   have h0:=key 0 zs[0] (List.getElem?_eq_getElem hz);rw[show a.add 0=a from rfl] at h0;unfold World.cell? at h0;split at h0
   ·split at h0
    ·cases h0
    ·rename_i hs;cases hsp:a.spot with
     |none=>rfl
     |some _=>rw[hsp] at hs;exact absurd rfl hs
   ·cases h0
  obtain⟨b,o,sp'⟩:=a;dsimp only at hsp;subst hsp;refine⟨b,o,cap,by rw[hzl],by omega,hcm,fun j x hj=>?_⟩
  have:=key j x hj;unfold Addr.add at this;split at this
  ·rename_i h0;subst h0;exact this
  ·exact this
theorem Qe1 {H:Type}{enc:TypeId×Value→H}{P:Program}{w:World}{base:Nat}{sp:Nat→Bool}{held:Bool}{fuel:Nat}{t u e:TypeId}{n:Nat}{cs:List Value}{zss:List (List (List UInt8))}{p:List MemPlace}
  (ht:P.underlying t=some (.array n u)) (hu:P.underlying u=some (.slice e)) (he:P.underlying e=some .string) (hce:P.cellsOf e=1) (hcu:P.cellsOf u=1) (hct:P.cellsOf t=n) (hz:∀ zs∈zss,0<zs.length)
  (h:DataW.trod enc P w base sp held fuel t cs=some (.agg (zss.map fun zs => .slice (zs.map fun z => .lit (.string z)) []),p)):
  cs.length=zss.length∧∀ (i:Nat) (zs:List (List UInt8)),zss[i]? = some zs→∃ b o c:Nat,cs[i]? = some (.slice (some ⟨b,o,none⟩) zs.length c)∧zs.length≤c∧c≤maxLen∧∀ (j:Nat) (x:List UInt8),zs[j]? = some x→w.cell? ⟨b,o+j,none⟩=some (strV x):=by
 obtain⟨xs,m,rfl,hx,hl,hxl,hall⟩:=DataW.trod_array ht h;have hxs:xs.map (·.1)=zss.map fun zs=>(DataW.slice (zs.map fun z => .lit (.string z)) []:DataW H):=by
  have:=congrArg Prod.fst hx;simpa using this.symm
 have hzl:zss.length=n:=by
  have:=congrArg List.length hxs;simp at this;omega
 refine⟨by omega,fun i zs hi=>?_⟩;have hlt:i<n:=by
  have:=(List.getElem?_eq_some_iff.1 hi).1;omega
 have h1:=hall i hlt;rw[hcu] at h1;obtain⟨b,hb⟩:∃ b,xs[i]? = some b:=⟨xs[i]'Dw,List.getElem?_eq_getElem Dw⟩;rw[hb] at h1;have h3:(xs.map (·.1))[i]? = some b.1:=by simp[hb]
 rw[hxs] at h3;simp only[List.getElem?_map,hi,Option.map_some,Option.some.injEq] at h3;obtain⟨b1,b2⟩:=b;dsimp only at h3;subst h3;obtain⟨b,o,c,k1,k2,k3,k4⟩:=Qgt hu he hce (hz zs (List.mem_of_getElem? hi)) h1;refine⟨b,o,c,?_,k2,k3,k4⟩
 have:=congrArg (·[0]?) k1;simpa [List.getElem?_take,List.getElem?_drop] using this
theorem ops_row:((((begin Tryz.prog (fun _ _=>0) default).world.heap[1]?).bind Obj.row?).map (·.2))=some 96:=by kernel_rfl
def laidList:List (String×DataW Unit):=[("math/bits.deBruijn32tab", Rows.laid_math_bits_deBruijn32tab),("math/bits.deBruijn64tab", Rows.laid_math_bits_deBruijn64tab),("internal/strconv.uint64pow10", Rows.laid_internal_strconv_uint64pow10),("unicode/utf8.acceptRanges", Rows.laid_unicode_utf8_acceptRanges),("strconv.ErrRange", Rows.laid_strconv_ErrRange),("strconv.ErrSyntax", Rows.laid_strconv_ErrSyntax),("mullion/scan.signs", Rows.laid_mullion_scan_signs),("mullion/tree.Ops", Rows.laid_mullion_tree_Ops),("unicode/utf8.first", Rows.laid_unicode_utf8_first)]
theorem Qqn {W:World}(hsh:W.ShapedOpen Tryz.prog){g:Nat}{t:TypeId}{n:String}{cs:Array Value}(hrow:((((begin Tryz.prog (fun _ _=>0) default).world.heap[g]?).bind Obj.row?).map (·.2))=some t)(hg:(Tryz.prog).globalNamed n=some g)(hgl:g<(Tryz.prog).globals.size)(hvar:W.var? Tryz.prog n=some cs):
  W.heap[g]? = some (.cells cs t):=by
 unfold World.var? at hvar;rw[hg] at hvar;simp only[Option.bind_some] at hvar;split at hvar
 ·rename_i cs' t' fr' hh;cases hvar;cases hr:((begin Tryz.prog (fun _ _=>0) default).world.heap[g]?).bind Obj.row? with
  |none=>rw[hr] at hrow;cases hrow
  |some zt=>
   obtain⟨zero,t0⟩:=zt;have ht0:t0=t:=by
    rw[hr] at hrow;exact Option.some.inj hrow
   obtain⟨cs2,h1,-,-⟩:=hsh.1 g zero t0 hgl hr;rw[h1] at hh ⊢;simp only[Option.some.injEq,Obj.cells.injEq] at hh;obtain⟨e1,-,-⟩:=hh;rw[e1,ht0]
 ·cases hvar
theorem most_of:∀ w:World,w.ShapedOpen Tryz.prog→∃ m,w.cell? ⟨4,0,none⟩=some (.int .i64 m):=fun w h=>Go.Proofs.cell_of_shapedOpen_int (zero := #[.int .i64 0]) (t:=3) h (of_decide_eq_true Dk) Dk rfl Dk Dk Tryz.underlying3
theorem scan_of {W:World}(h:laidMet Tryz.prog laidList W)(hsh:W.ShapedOpen Tryz.prog):Laid W:=by
 have hr:∀ n d,(n,d)∈laidList→Lib.VarReads Tryz.prog W n d:=fun n d hm=>Lib.laidMet.reads h hm
 refine⟨?_,?_,?_,?_,?_⟩
 ·obtain⟨g,t,cs,fuel,p,hg,hty,hvar,hd⟩:=hr "math/bits.deBruijn64tab" _ (by unfold laidList;repeat (first|exact List.Mem.head _|apply List.Mem.tail))
  have hg':(Tryz.prog).globalNamed "math/bits.deBruijn64tab" = some 9:=by kernel_rfl
  obtain rfl:=Option.some.inj (hg'.symm.trans hg);unfold World.var? at hvar;rw[hg'] at hvar;rcases Nat.lt_or_ge 9 W.heap.size with h'|h'
  ·exact h'
  ·simp[Array.getElem?_eq_none h'] at hvar
 ·have e1:Rows.laid_unicode_utf8_first=Lib.firstData:=by kernel_rfl
  have e2:Rows.laid_unicode_utf8_acceptRanges=Lib.acceptData:=by kernel_rfl
  have r1:=hr "unicode/utf8.first" Rows.laid_unicode_utf8_first (by unfold laidList;repeat (first|exact List.Mem.head _|apply List.Mem.tail))
  have r2:=hr "unicode/utf8.acceptRanges" Rows.laid_unicode_utf8_acceptRanges (by unfold laidList;repeat (first|exact List.Mem.head _|apply List.Mem.tail))
  rw[e1] at r1;rw[e2] at r2;exact utf8Tabs_of_reads Tryz.lays260 u8extra r1 r2
 ·exact most_of W hsh
 ·obtain⟨g,t,cs,fuel,p,hg,hty,hvar,hd⟩:=hr "strconv.ErrRange" _ (by unfold laidList;repeat (first|exact List.Mem.head _|apply List.Mem.tail))
  have hg':(Tryz.prog).globalNamed "strconv.ErrRange" = some 6:=by kernel_rfl
  have ht':((Tryz.prog).globals[6]?).map (·.type)=some 102:=by kernel_rfl
  obtain rfl:=Option.some.inj (hg'.symm.trans hg);obtain rfl:=Option.some.inj (ht'.symm.trans hty);obtain⟨ev,hcs,hev⟩:=Qlt Tryz.underlying102 hd;refine⟨ev,?_,hev⟩;have h1:=World.var?_cell hg hvar 0;rw[h1,←Array.getElem?_toList,hcs];rfl
 ·obtain⟨g,t,cs,fuel,p,hg,hty,hvar,hd⟩:=hr "mullion/scan.signs" _ (by unfold laidList;repeat (first|exact List.Mem.head _|apply List.Mem.tail))
  have hg':(Tryz.prog).globalNamed "mullion/scan.signs" = some 0:=by kernel_rfl
  have ht':((Tryz.prog).globals[0]?).map (·.type)=some 95:=by kernel_rfl
  obtain rfl:=Option.some.inj (hg'.symm.trans hg);obtain rfl:=Option.some.inj (ht'.symm.trans hty);have hcs:=Qh2 (zs:=Vy) Tryz.underlying95 Tryz.underlying9 Dk Dk hd;unfold World.var? at hvar;rw[hg'] at hvar;simp only[Option.bind_some] at hvar;split at hvar
  ·rename_i cs' t' fr' hh;cases hvar;refine⟨t',fr',?_⟩;rw[hh];have:cs=Qku:=by
    apply Array.toList_inj.1;rw[hcs];rfl
   rw[this]
  ·cases hvar
theorem ops_of {W:World}(h:laidMet Tryz.prog laidList W)(hsh:W.ShapedOpen Tryz.prog):∃ f,Ops W f:=by
 have hr:∀ n d,(n,d)∈laidList→Lib.VarReads Tryz.prog W n d:=fun n d hm=>Lib.laidMet.reads h hm
 have hsize:10≤W.heap.size:=by
  obtain⟨g,t,cs,fuel,p,hg,hty,hvar,hd⟩:=hr "math/bits.deBruijn64tab" _ (by unfold laidList;repeat (first|exact List.Mem.head _|apply List.Mem.tail))
  have hg':(Tryz.prog).globalNamed "math/bits.deBruijn64tab" = some 9:=by kernel_rfl
  obtain rfl:=Option.some.inj (hg'.symm.trans hg);unfold World.var? at hvar;rw[hg'] at hvar;rcases Nat.lt_or_ge 9 W.heap.size with h'|h'
  ·exact h'
  ·simp[Array.getElem?_eq_none h'] at hvar
 obtain⟨g,t,cs,fuel,p,hg,hty,hvar,hd⟩:=hr "mullion/tree.Ops" _ (by unfold laidList;repeat (first|exact List.Mem.head _|apply List.Mem.tail))
 have hg':(Tryz.prog).globalNamed "mullion/tree.Ops" = some 1:=by kernel_rfl
 have ht':((Tryz.prog).globals[1]?).map (·.type)=some 96:=by kernel_rfl
 obtain rfl:=Option.some.inj (hg'.symm.trans hg);obtain rfl:=Option.some.inj (ht'.symm.trans hty);obtain⟨hlen,key⟩:=Qe1 (zss:=opsP) Tryz.underlying96 Tryz.underlying33 Tryz.underlying9 Dk Dk Dk Dd hd;obtain⟨b0,o0,c0,x0,y0,z0,q0⟩:=key 0 _ rfl;obtain⟨b1,o1,c1,x1,y1,z1,q1⟩:=key 1 _ rfl;obtain⟨b2,o2,c2,x2,y2,z2,q2⟩:=key 2 _ rfl;obtain⟨b3,o3,c3,x3,y3,z3,q3⟩:=key 3 _ rfl;obtain⟨b4,o4,c4,x4,y4,z4,q4⟩:=key 4 _ rfl;let f:Where:=fun i=>match i with
  |0=>(b0,o0,c0)
  |1=>(b1,o1,c1)
  |2=>(b2,o2,c2)
  |3=>(b3,o3,c3)
  |_=>(b4,o4,c4)
 have hcs:cs.toList=opsAt f:=by
  have hl5:cs.toList.length=5:=hlen;match hm:cs.toList,hl5 with
  | [v0,v1,v2,v3,v4],_=>
   rw[hm] at x0 x1 x2 x3 x4;cases x0;cases x1;cases x2;cases x3;cases x4;rfl
 refine⟨f,hsize,?_,fun i hi=>?_,fun i z hz j x hx=>?_⟩
 ·rw[Qqn hsh ops_row hg' (by decide +kernel) hvar];congr 2
  apply Array.toList_inj.1;rw[hcs]
 ·rcases (by omega:i=0∨i=1∨i=2∨i=3∨i=4) with rfl|rfl|rfl|rfl|rfl
  ·exact⟨y0,z0⟩
  ·exact⟨y1,z1⟩
  ·exact⟨y2,z2⟩
  ·exact⟨y3,z3⟩
  ·exact⟨y4,z4⟩
 ·have hi:i<5:=(List.getElem?_eq_some_iff.1 hz).1;rcases (by omega:i=0∨i=1∨i=2∨i=3∨i=4) with rfl|rfl|rfl|rfl|rfl
  ·cases hz;exact q0 j x hx
  ·cases hz;exact q1 j x hx
  ·cases hz;exact q2 j x hx
  ·cases hz;exact q3 j x hx
  ·cases hz;exact q4 j x hx
theorem laid_of {W:World}(h:laidMet Tryz.prog laidList W)(hsh:W.ShapedOpen Tryz.prog):∃ f,Rz W f:=by
 obtain⟨f,hf⟩:=ops_of h hsh;exact⟨f,scan_of h hsh,hf⟩
end Prs
def laidList:List (String×DataW Unit):=Prs.laidList
theorem laid_of {W:World}(h:laidMet Tryz.prog laidList W)(hsh:W.ShapedOpen Tryz.prog):∃ f,Prs.Rz W f:=Prs.laid_of h hsh
end
section
def shT (k:Nat)(t:Tok):Tok:=⟨t.kind,t.text,t.num,t.place+k⟩
def shR (k:Nat):Qkc→Qkc
 | .ok ts => .ok (ts.map (shT k))
 | .error (p,c) => .error (p+k,c)
theorem Qmk (k:Nat)(t:Tok)(r:Qkc):shR k (Ee t r)=Ee (shT k t) (shR k r):=by
 cases r with
 |ok ts=>rfl
 |error e=>rfl
theorem Qr8 (l:List UInt8)(p k:Nat):(Ui l (p+k)).2=(Ui l p).2∧((Ui l p).2.2=0→(Ui l (p+k)).1=shT k (Ui l p).1):=by
 unfold Ui;split
 ·split
  ·exact⟨rfl,fun _=>rfl⟩
  ·exact⟨rfl,fun _=>rfl⟩
 ·split
  ·exact⟨rfl,fun _=>rfl⟩
  ·split
   ·exact⟨rfl,fun _=>rfl⟩
   ·exact⟨rfl,fun h=>by simp at h⟩
theorem Qj2 (k:Nat)(t:Tok):Xl (shT k t)=Xl t:=rfl
theorem Qjh (k:Nat):∀ (n:Nat) (l:List UInt8) (p:Nat) (opn:Bool) (cnt:Nat),l.length≤n→lex l (p+k) opn cnt=shR k (lex l p opn cnt):=by
 have hnil:∀ p opn cnt,lex [] (p+k) opn cnt=shR k (lex [] p opn cnt):=by
  intro p opn cnt;rw[Jh,Jh];cases opn
  ·rfl
  ·simp only[if_true];split <;> rfl
 intro n;induction n with
 |zero=>
  intro l p opn cnt hl;have:l=[]:=List.length_eq_zero_iff.1 Dw;subst this;exact hnil p opn cnt
 |succ n ih=>
  intro l p opn cnt hl;cases l with
  |nil=>exact hnil p opn cnt
  |cons b m=>
   have hm:m.length≤n:=by simpa using hl
   by_cases hb:b=10
   ·subst hb;rw[Tn,Tn,show p+k+1=p+1+k by omega];cases opn
    ·simp only[Bool.false_eq_true,if_false];exact ih m _ _ _ hm
    ·simp only[if_true];split
     ·rfl
     ·rw[ih m _ _ _ hm,Qmk];rfl
   ·cases hk:V9 b
    ·cases hr:Z7 (b::m)
     ·have hst:starts (b::m)=true:=by simp[starts,hb,hk,hr]
      obtain⟨h1,h2⟩:=Qr8 (b::m) p k;rw[Kt _ _ _ _ hst,Kt _ _ _ _ hst,h1];split
      ·rfl
      ·rename_i he;have he':(Ui (b::m) p).2.2=0:=by simpa using he
       split
       ·rfl
       ·have hp:=one_pos (b::m) p Ds he';rw[h2 he',Qj2,show p+k+(Ui (b::m) p).2.1=p+(Ui (b::m) p).2.1+k by omega,ih _ _ _ _ (by rw[List.length_drop];simp at hl ⊢;omega),Qmk]
     ·have hp:=Rl b m hb;rw[Y7 _ _ _ _ hr,Y7 _ _ _ _ hr,show p+k+X5 (b::m)=p+X5 (b::m)+k by omega];exact ih _ _ _ _ (by rw[List.length_drop];simp at hl ⊢;omega)
    ·rw[U9 b m _ opn cnt hk,U9 b m p opn cnt hk,show p+k+1=p+1+k by omega];exact ih m _ _ _ hm
theorem mem_tw {q:UInt8→Bool}{c:UInt8}:∀ l:List UInt8,c∈l.takeWhile q→q c=true
 | [],h=>by simp at h
 |b::l,h=>by
  rw[List.takeWhile_cons] at h;split at h
  ·rename_i hb;rcases List.mem_cons.1 h with rfl|h
   ·exact hb
   ·exact mem_tw l h
  ·simp at h
theorem decN (l:List UInt8):Vb l=Lib.decodeN l.length (l.getD 0 0).toNat (l.getD 1 0).toNat (l.getD 2 0).toNat (l.getD 3 0).toNat:=Lib.decodeL_N l
theorem Qjz (x y:List UInt8)(hb:broken x=false)(hlen:(Vb x).2≤y.length)(h:∀ j,j<(Vb x).2→x.getD j 0=y.getD j 0):Vb y=Vb x:=by
 have hnb:¬ ((Vb x).1=65533∧(Vb x).2<2):=by
  intro hh;unfold broken at hb;simp[hh.1,hh.2] at hb
 rw[decN x] at hnb hlen h;rw[decN y,decN x];have q0:=(x.getD 0 0).toNat_lt;rcases Lib.decodeN_shape x.length (x.getD 0 0).toNat (x.getD 1 0).toNat (x.getD 2 0).toNat (x.getD 3 0).toNat with ⟨c,e⟩|⟨c1,c2,c3,cv,e⟩|⟨c1,c2,c3,c4,cv,cs,e⟩|⟨c1,c2,c3,c4,c5,cv,cw,e⟩|e
 ·rw[e] at h hlen ⊢;rw[←h 0 Ds];unfold Lib.decodeN;rw[if_pos c]
 ·rw[e] at h hlen ⊢;simp only[] at h hlen;rw[←h 0 Ds,←h 1 Ds];unfold Lib.decodeN;rw[if_neg Dw,if_pos ⟨c1,by omega,c3⟩,if_pos cv]
 ·rw[e] at h hlen ⊢;simp only[] at h hlen;rw[←h 0 Ds,←h 1 Ds,←h 2 Ds];unfold Lib.decodeN;rw[if_neg Dw,if_neg Dw,if_pos ⟨c1,⟨by omega,c3⟩,⟨by omega,c4⟩⟩,if_pos ⟨cv,by omega⟩]
 ·rw[e] at h hlen ⊢;simp only[] at h hlen;rw[←h 0 Ds,←h 1 Ds,←h 2 Ds,←h 3 Ds];unfold Lib.decodeN;rw[if_neg Dw,if_neg Dw,if_neg Dw,if_pos ⟨c1,⟨by omega,c3⟩,⟨by omega,c4⟩,⟨by omega,c5⟩⟩,if_pos ⟨cv,by omega⟩]
 ·rw[e] at hnb;simp at hnb
theorem Qew {x y:List UInt8}(h:Vb y=Vb x):broken y=broken x:=by unfold broken;rw[h]
theorem Qej {l:List UInt8}(hl:l≠[]):(Vb l).2≤l.length∧1≤(Vb l).2:=by
 cases l with
 |nil=>exact absurd rfl hl
 |cons b m=>exact⟨Cf b m,Wp b m⟩
theorem dec_take (l:List UInt8)(n:Nat)(hl:l≠[])(hb:broken l=false)(h:(Vb l).2≤n):Vb (l.take n)=Vb l:=by
 have:=Qej hl;refine Qjz l (l.take n) hb (by rw[List.length_take];omega) fun j hj=>?_
 rw[List.getD_eq_getElem?_getD,List.getD_eq_getElem?_getD,List.getElem?_take_of_lt Dw]
theorem Qlz (x y:List UInt8)(hx:x≠[])(hb:broken x=false):Vb (x++y)=Vb x:=by
 have:=Qej hx;refine Qjz x (x++y) hb (by rw[List.length_append];omega) fun j hj=>?_
 rw[List.getD_eq_getElem?_getD,List.getD_eq_getElem?_getD,List.getElem?_append_left Dw]
theorem dec_cont (l:List UInt8)(j:Nat)(h0:0<j)(hj:j<(Vb l).2):128≤(l.getD j 0).toNat:=by
 rw[decN l] at hj;rcases Lib.decodeN_shape l.length (l.getD 0 0).toNat (l.getD 1 0).toNat (l.getD 2 0).toNat (l.getD 3 0).toNat with ⟨c,e⟩|⟨c1,c2,c3,cv,e⟩|⟨c1,c2,c3,c4,cv,cs,e⟩|⟨c1,c2,c3,c4,c5,cv,cw,e⟩|e;all_goals
  rw[e] at hj;simp only[] at hj
 ·omega
 ·obtain rfl:j=1:=by omega
  omega
 ·obtain rfl|rfl:j=1∨j=2:=by omega
  ·omega
  ·omega
 ·obtain rfl|rfl|rfl:j=1∨j=2∨j=3:=by omega
  ·omega
  ·omega
  ·omega
 ·omega
def Wh (l:List UInt8):Prop:=Zr l=l.length
theorem wh_nil:Wh []:=Gz
theorem wh_ne {l:List UInt8}(h:Wh l)(hl:l≠[]):broken l=false∧Wh (l.drop (Vb l).2):=by
 have hf:=Qej hl;cases l with
 |nil=>exact absurd rfl hl
 |cons b m=>
  unfold Wh at h;cases hb:broken (b::m)
  ·rw[Gy b m hb] at h;exact⟨rfl,by unfold Wh;rw[List.length_drop];omega⟩
  ·rw[Qdf b m hb] at h;simp at h
theorem Qqq {l:List UInt8}(hl:l≠[])(hb:broken l=false):Zr l=(Vb l).2+Zr (l.drop (Vb l).2):=by
 cases l with
 |nil=>exact absurd rfl hl
 |cons b m=>exact Gy b m hb
theorem wh_app (y:List UInt8):∀ (n:Nat) (x:List UInt8),x.length≤n→Wh x→Zr (x++y)=x.length+Zr y:=by
 intro n;induction n with
 |zero=>
  intro x hx _;have:x=[]:=List.length_eq_zero_iff.1 Dw;subst this;simp
 |succ n ih=>
  intro x hx hw;by_cases he:x=[]
  ·subst he;simp
  ·obtain⟨hb,hw2⟩:=wh_ne hw he;have hd:=Qlz x y he hb;have hf:=Qej he;have hxy:x++y≠[]:=by simp[he]
   rw[Qqq hxy (by rw[Qew hd];exact hb),hd,List.drop_append_of_le_length hf.1,ih _ (by rw[List.length_drop];omega) hw2,List.length_drop];omega
theorem Qa8 {x y:List UInt8}(hx:Wh x)(hy:Wh y):Wh (x++y):=by
 unfold Wh;rw[wh_app y x.length x (Nat.le_refl _) hx,hy,List.length_append]
def Cut (l:List UInt8)(n:Nat):Prop:=n≤l.length∧Wh (l.take n)∧Wh (l.drop n)
theorem Px {l:List UInt8}(h:Wh l):Cut l 0:=⟨Nat.zero_le _,by rw[List.take_zero];exact wh_nil,h⟩
theorem take_two (l:List UInt8)(a b:Nat):l.take (a+b)=l.take a++(l.drop a).take b:=List.take_add
theorem Ql0 {l:List UInt8}{a b:Nat}(h:Cut l a)(k:Cut (l.drop a) b):Cut l (a+b):=by
 have:=h.1;have:=k.1;rw[List.length_drop] at this;exact⟨by omega,by rw[take_two];exact Qa8 h.2.1 k.2.1,by rw[←List.drop_drop];exact k.2.2⟩
theorem Qhz {l:List UInt8}(h:Wh l)(hl:l≠[]):Cut l (Vb l).2:=by
 have hf:=Qej hl;obtain⟨hb,hw⟩:=wh_ne h hl;refine⟨hf.1,?_,hw⟩;have hd:=dec_take l (Vb l).2 hl hb (Nat.le_refl _);have hne:l.take (Vb l).2≠[]:=by
  intro e;have:=congrArg List.length e;rw[List.length_take,List.length_nil] at this;omega
 unfold Wh;rw[Qqq hne (by rw[Qew hd];exact hb),hd,List.drop_take,Nat.sub_self,List.take_zero,Gz,List.length_take];omega
theorem Qte:∀ (n:Nat) (l:List UInt8),l.length≤n→Wh l→Cut l (Yr l):=by
 intro n;induction n with
 |zero=>
  intro l hl h;have:l=[]:=List.length_eq_zero_iff.1 Dw;subst this;rw[Dq];exact Px h
 |succ n ih=>
  intro l hl h;cases l with
  |nil=>rw[Dq];exact Px h
  |cons b m=>
   cases hr:Ei (Vb (b::m)).1
   ·rw[Nr b m hr];exact Px h
   ·have hc:=Qhz h (List.cons_ne_nil b m);have hp:=Wp b m;rw[Gs b m hr];exact Ql0 hc (ih _ (by rw[List.length_drop];simp at hl ⊢;omega) hc.2.2)
theorem Qsj (l:List UInt8)(d:Nat)(hd:d≤l.length)(h:∀ j,j<d→l.getD j 0≠10):X5 l=d+X5 (l.drop d):=by
 have e:l=l.take d++l.drop d:=(List.take_append_drop d l).symm;have hall:∀ a∈l.take d,(a != 10)=true:=by
  intro a ha;obtain⟨j,hj,rfl⟩:=List.getElem_of_mem ha;rw[List.length_take] at hj
  have:=h j Dw;rw[List.getElem_take,bne_iff_ne];rw[List.getD_eq_getElem?_getD,List.getElem?_eq_getElem Dw] at this;simpa using this
 unfold X5;conv=>lhs;rw[e]
 rw[List.takeWhile_append_of_pos hall,List.length_append,List.length_take];omega
theorem cut_line:∀ (n:Nat) (l:List UInt8),l.length≤n→Wh l→Cut l (X5 l):=by
 intro n;induction n with
 |zero=>
  intro l hl h;have:l=[]:=List.length_eq_zero_iff.1 Dw;subst this;exact Px h
 |succ n ih=>
  intro l hl h;cases l with
  |nil=>exact Px h
  |cons b m=>
   by_cases hb:b=10
   ·subst hb;have:X5 (10::m)=0:=by simp[X5]
    rw[this];exact Px h
   ·have hc:=Qhz h (List.cons_ne_nil b m);have hp:=Wp b m
    rw[Qsj (b::m) (Vb (b::m)).2 (Cf b m) (by
     intro j hj;by_cases h0:j=0
     ·subst h0;simpa using hb
     ·have:=dec_cont (b::m) j Dw hj
      intro e;rw[e] at this;exact absurd this Dd)]
    exact Ql0 hc (ih _ (by rw[List.length_drop];simp at hl ⊢;omega) hc.2.2)
theorem Qax:∀ (n:Nat) (l:List UInt8),n≤l.length→(∀ b∈l.take n,b.toNat<128)→Wh l→Cut l n:=by
 intro n;induction n with
 |zero=>intro l _ _ h;exact Px h
 |succ n ih=>
  intro l hl ha h;cases l with
  |nil=>simp at hl
  |cons b m=>
   have hd:=Td b m (ha b Ds);have hc:=Qhz h (List.cons_ne_nil b m);rw[hd] at hc;rw[Nat.add_comm];exact Ql0 hc (ih m (by simpa using hl) (fun c hc=>ha c (by simp[hc])) hc.2.2)
theorem Qi2 (l:List UInt8)(p:Nat)(hl:l≠[])(he:(Ui l p).2.2=0):((Ei (Vb l).1=true∧(Ui l p).2.1=Yr l)∨(isLet (Vb l).1=false∧Y9 (Vb l).1=false∧Jl l≠[]∧(Ui l p).2.1=(Jl l).length)):=by
 unfold Ui at he ⊢;cases hL:isLet (Vb l).1
 ·cases hD:Y9 (Vb l).1
  ·right;simp only[hL,hD,Bool.false_eq_true,if_false] at he ⊢;rw[Qgw l hl] at he ⊢;by_cases h:Jl l=[]
   ·rw[if_pos h] at he;simp at he
   ·rw[if_neg h];exact⟨trivial,trivial,h,rfl⟩
  ·left;simp only[hL,hD,Bool.false_eq_true,if_false,if_true] at he ⊢;exact⟨by simp[Ei,hD],trivial⟩
 ·left;simp only[hL,if_true] at he ⊢;refine⟨by simp[Ei,hL],?_⟩;split <;> rfl
theorem Qoa (l:List UInt8)(h:Jl l≠[]):l.take (Jl l).length=Jl l∧(Jl l).length≤l.length∧∀ b∈Jl l,b.toNat<128:=by
 have h2:∀ g∈Ue,∀ b∈g,b.toNat<128:=by decide
 have h1:∀ g∈Zd,∀ b∈g,b.toNat<128:=by decide
 unfold Jl at h ⊢;split
 ·rename_i hc;refine⟨by rw[List.length_take,List.take_eq_take_iff];omega,by rw[List.length_take];omega,h2 _ (List.contains_iff_mem.1 hc.2)⟩
 ·rename_i hc;rw[if_neg hc] at h;split
  ·rename_i hs;refine⟨by rw[List.length_take,List.take_eq_take_iff];omega,by rw[List.length_take];omega,h1 _ (List.contains_iff_mem.1 hs)⟩
  ·rename_i hs;rw[if_neg hs] at h;exact absurd rfl h
theorem one_cut (l:List UInt8)(p:Nat)(hl:l≠[])(h:Wh l)(he:(Ui l p).2.2=0):Cut l (Ui l p).2.1:=by
 rcases Qi2 l p hl he with ⟨-,e⟩|⟨-,-,h3,e⟩
 ·rw[e];exact Qte l.length l (Nat.le_refl _) h
 ·rw[e];have hs:=Qoa l h3;exact Qax _ l hs.2.1 (by rw[hs.1];exact hs.2.2) h
end
section
namespace Prs
def Sep (q:List UInt8):Prop:=∃ c m,q=c::m∧(c=10∨c=41∨c=44)
theorem Qrh {q:List UInt8}(h:Sep q):Yr q=0:=by
 obtain⟨c,m,rfl,h⟩:=h;refine Nr c m ?_;rcases h with rfl|rfl|rfl <;> rw[Td _ _ Dd] <;> decide
theorem run_join {q:List UInt8}(hq:Sep q):∀ (n:Nat) (l:List UInt8),l.length≤n→Wh l→Yr (l++q)=Yr l:=by
 intro n;induction n with
 |zero=>
  intro l hl _;have:l=[]:=List.length_eq_zero_iff.1 Dw;subst this;rw[List.nil_append,Qrh hq,Dq]
 |succ n ih=>
  intro l hl h;cases l with
  |nil=>rw[List.nil_append,Qrh hq,Dq]
  |cons b m=>
   obtain⟨hb,hw⟩:=wh_ne h (List.cons_ne_nil b m);have hd:=Qlz (b::m) q (List.cons_ne_nil b m) hb;rw[List.cons_append] at hd ⊢;cases hr:Ei (Vb (b::m)).1
   ·rw[Nr b m hr];exact Nr b (m++q) (by rw[hd];exact hr)
   ·have hp:=Wp b m;have hf:=Cf b m;rw[Gs b m hr,Gs b (m++q) (by rw[hd];exact hr),hd,←List.cons_append,List.drop_append_of_le_length hf,ih _ (by rw[List.length_drop];simp at hl ⊢;omega) hw]
theorem Qrd {q l:List UInt8}(hq:Sep q)(h:Jl l≠[]):Jl (l++q)=Jl l:=by
 obtain⟨c,m,rfl,hc⟩:=hq;cases l with
 |nil=>exact absurd rfl h
 |cons a l=>
  cases l with
  |nil=>
   have h1:∀ x,Ue.contains ([a,x])=true→x≠10∧x≠41∧x≠44:=by
    intro x hx;have hx:=List.contains_iff_mem.1 hx;unfold Ue at hx;simp only[List.mem_cons,List.not_mem_nil,or_false,List.cons.injEq,and_true] at hx;rcases hx with hx|hx|hx|hx|hx|hx|hx|hx|hx|hx|hx <;> (rw[hx.2];decide)
   have hn:¬ (2≤([a]++c::m).length∧Ue.contains (([a]++c::m).take 2)=true):=fun hh=>by
    obtain⟨k1,k2,k3⟩:=h1 c hh.2;rcases hc with rfl|rfl|rfl <;> contradiction
   have hn':¬ (2≤[a].length∧Ue.contains ([a].take 2)=true):=fun hh=>absurd hh.1 Ds
   unfold Jl;rw[if_neg hn,if_neg hn'];rfl
  |cons b l=>
   have e2:(2≤(a::b::l++c::m).length∧Ue.contains ((a::b::l++c::m).take 2)=true)↔(2≤(a::b::l).length∧Ue.contains ((a::b::l).take 2)=true):=by
    constructor <;> intro hh <;> exact⟨by simp,hh.2⟩
   unfold Jl;by_cases hh:(2≤(a::b::l).length∧Ue.contains ((a::b::l).take 2)=true)
   ·rw[if_pos (e2.2 hh),if_pos hh];rfl
   ·rw[if_neg fun h=>hh (e2.1 h),if_neg hh];rfl
theorem one_join {q l:List UInt8}(hq:Sep q)(p:Nat)(hl:l≠[])(h:Wh l)(he:(Ui l p).2.2=0):Ui (l++q) p=Ui l p:=by
 obtain⟨hb,-⟩:=wh_ne h hl;have hd:=Qlz l q hl hb;have hne:l++q≠[]:=by simp[hl]
 have hr:=run_join hq l.length l (Nat.le_refl _) h;have hc:=(Qte l.length l (Nat.le_refl _) h).1;rcases Qi2 l p hl he with ⟨h1,e⟩|⟨hL,hD,h3,e⟩
 ·have ht:(l++q).take (Yr l)=l.take (Yr l):=List.take_append_of_le_length hc;unfold Ui;rw[hr,hd,ht];cases hL:isLet (Vb l).1
  ·have hD:Y9 (Vb l).1=true:=by simpa [Ei,hL] using h1
   simp only[hD,Bool.false_eq_true,if_false,if_true]
  ·simp only[if_true]
 ·have hs:=Qrd hq h3;unfold Ui;rw[hd,hL,hD];simp only[Bool.false_eq_true,if_false];rw[Qgw _ hne,Qgw _ hl,hs]
theorem Qdn {q l:List UInt8}(hq:Sep q)(hl:l≠[]):Z7 (l++q)=Z7 l:=by
 obtain⟨c,m,rfl,hc⟩:=hq;cases l with
 |nil=>exact absurd rfl hl
 |cons a l=>
  cases l with
  |nil=>
   unfold Z7;have:c≠47:=by rcases hc with rfl|rfl|rfl <;> decide
   simp[List.isPrefixOf,Ne.symm this]
  |cons b l=>simp[Z7,List.isPrefixOf]
theorem Qks {q l:List UInt8}(hq:Sep q)(h:starts l=true):starts (l++q)=true:=by
 have hr:=Qdn hq (Qig h);cases l with
 |nil=>cases h
 |cons b m=>
  simp only[starts,Bool.and_eq_true,Bool.not_eq_true',List.cons_append] at h hr ⊢;rw[hr];exact h
theorem Qsk (l m:List UInt8):X5 (l++10::m)=X5 l∧(l++10::m).drop (X5 l)=l.drop (X5 l)++10::m:=by
 have h1:X5 (l++10::m)=X5 l:=by
  unfold X5;induction l with
  |nil=>simp[List.takeWhile_cons]
  |cons b l ih=>
   by_cases hb:b=10
   ·subst hb;simp[List.takeWhile_cons]
   ·simp[List.takeWhile_cons,hb,ih]
 refine⟨h1,List.drop_append_of_le_length ?_⟩;unfold X5;exact(List.takeWhile_sublist _).length_le
theorem one_five (l:List UInt8)(p:Nat)(he:(Ui l p).2.2=0)(h:(Ui l p).1.kind=5):∃ m,l=59::m:=by
 unfold Ui at h he;split at h
 ·split at h
  ·cases h
  ·split at h <;> cases h
 ·split at h
  ·cases h
  ·split at h
   ·rename_i g hg;have hg2:=List.find?_some hg;rw[List.isPrefixOf_iff_prefix] at hg2;dsimp only at h;split at h
    ·rename_i h59;subst h59;obtain⟨m,rfl⟩:=hg2;exact⟨m,rfl⟩
    ·cases h
   ·cases h
def Qh6 (l:List UInt8):Prop:=∀ k,Z7 (l.drop k)=false
theorem Qh6.drop {l:List UInt8}(h:Qh6 l)(n:Nat):Qh6 (l.drop n):=fun k=>by rw[List.drop_drop];exact h (n+k)
theorem Qm3 {q:List UInt8}(hq:Sep q)(l:List UInt8)(p:Nat)(opn:Bool)(cnt:Nat)(ts:List Tok)(h:lex l p opn cnt=.ok ts):Wh l→(Qh6 l∨q.head? = some 10)→
  ∃ ts0 o,ts=ts0++(if o then [Zj (p+l.length)] else [])∧lex (l++q) p opn cnt=Eu ts0 (lex q (p+l.length) o (cnt+ts0.length))∧ts0.length≤l.length∧((∀ b∈l,b≠10∧b≠59)→∀ t∈ts0,t.kind≠5):=by
 refine Qeb (fun l p opn cnt ts=>Wh l→(Qh6 l∨q.head? = some 10)→∃ ts0 o,ts=ts0++(if o then [Zj (p+l.length)] else [])∧lex (l++q) p opn cnt=Eu ts0 (lex q (p+l.length) o (cnt+ts0.length))∧ts0.length≤l.length∧((∀ b∈l,b≠10∧b≠59)→∀ t∈ts0,t.kind≠5)) ?_ ?_ ?_ ?_ ?_ ?_ ?_ l.length l p opn cnt ts (Nat.le_refl _) h
 ·intro p cnt _ _;exact⟨[],false,rfl,(Qac _).symm,Nat.le_refl _,fun _ t ht=>by cases ht⟩
 ·intro p cnt hc _ _;exact⟨[],true,rfl,(Qac _).symm,Nat.le_refl _,fun _ t ht=>by cases ht⟩
 ·intro m p cnt ts ih hw hn;have hc:Cut (10::m) 1:=Qax 1 (10::m) Ds Ds hw;obtain⟨ts0,o,e1,e2,e3,e4⟩:=ih hc.2.2 (hn.imp (fun h=>h.drop 1) id);refine⟨ts0,o,by rw[e1];simp only[List.length_cons];rw[Nat.add_assoc,Nat.add_comm 1],?_,by simp;omega,fun h=>absurd rfl (h 10 List.mem_cons_self).1⟩;rw[List.cons_append,Tn,if_neg Ds,e2,List.length_cons,Nat.add_assoc p,Nat.add_comm 1]
 ·intro m p cnt ts h16 ih hw hn;have hc:Cut (10::m) 1:=Qax 1 (10::m) Ds Ds hw;obtain⟨ts0,o,e1,e2,e3,e4⟩:=ih hc.2.2 (hn.imp (fun h=>h.drop 1) id);refine⟨Zj p::ts0,o,by rw[e1];simp only[List.length_cons,List.cons_append];rw[Nat.add_assoc p,Nat.add_comm 1],?_,by simp;omega,fun h=>absurd rfl (h 10 List.mem_cons_self).1⟩;rw[List.cons_append,Tn,if_pos rfl,if_neg Dw,e2,List.length_cons,List.length_cons,Nat.add_assoc p,Nat.add_comm 1 m.length,show cnt+1+ts0.length=cnt+(ts0.length+1) by omega];generalize lex q _ _ _=r;cases r <;> rfl
 ·intro b m p opn cnt ts hb ih hw hn;have hb8:b.toNat<128:=by
   unfold V9 at hb;simp only[Bool.or_eq_true,beq_iff_eq] at hb;rcases hb with (rfl|rfl)|rfl <;> decide
  have hc:Cut (b::m) 1:=Qax 1 (b::m) Ds (by simpa using hb8) hw;obtain⟨ts0,o,e1,e2,e3,e4⟩:=ih hc.2.2 (hn.imp (fun h=>h.drop 1) id);refine⟨ts0,o,by rw[e1];simp only[List.length_cons];rw[Nat.add_assoc,Nat.add_comm 1],?_,by simp;omega,fun h=>e4 fun c hc=>h c (List.mem_cons_of_mem _ hc)⟩;rw[List.cons_append,U9 _ _ _ _ _ hb,e2,List.length_cons,Nat.add_assoc p,Nat.add_comm 1]
 ·intro l p opn cnt ts hr ih hw hn;have hl:l≠[]:=by rintro rfl;simp[Z7] at hr
  have hq10:q.head? = some 10:=by
   rcases hn with hn|hn
   ·have:=hn 0;rw[List.drop_zero,hr] at this;cases this
   ·exact hn
  obtain⟨m,rfl⟩:∃ m,q=10::m:=by
   cases q with
   |nil=>cases hq10
   |cons c m=>cases hq10;exact⟨m,rfl⟩
  have hc:Cut l (X5 l):=cut_line l.length l (Nat.le_refl _) hw;obtain⟨ts0,o,e1,e2,e3,e4⟩:=ih hc.2.2 (.inr rfl);have hlen:p+X5 l+(l.drop (X5 l)).length=p+l.length:=by
   have:=hc.1;rw[List.length_drop];omega
  obtain⟨k1,k2⟩:=Qsk l m;rw[hlen] at e1 e2;rw[List.length_drop] at e3;refine⟨ts0,o,e1,?_,by omega,fun h=>e4 fun c hc=>h c (List.mem_of_mem_drop hc)⟩;rw[Y7 _ _ _ _ (by rw[Qdn hq hl];exact hr),k1,k2,e2]
 ·intro l p opn cnt ts hs he h16 ih hw hn;have hl:=Qig hs;have hc:=one_cut l p hl hw he;obtain⟨ts0,o,e1,e2,e3,e4⟩:=ih hc.2.2 (hn.imp (fun h=>h.drop _) id);have hlen:p+(Ui l p).2.1+(l.drop (Ui l p).2.1).length=p+l.length:=by
   have:=hc.1;rw[List.length_drop];omega
  rw[hlen] at e1 e2;rw[List.length_drop] at e3;have hp:=one_pos l p hl he;have hf:=Qag l p;refine⟨(Ui l p).1::ts0,o,by rw[e1];rfl,?_,by simp;omega,fun h t ht=>?_⟩;rotate_left
  ·rcases List.mem_cons.1 ht with rfl|ht
   ·intro h5;obtain⟨m,rfl⟩:=one_five l p he h5;exact(h 59 List.mem_cons_self).2 rfl
   ·exact e4 (fun c hc=>h c (List.mem_of_mem_drop hc)) t ht
  rw[Kt _ _ _ _ (Qks hq hs),one_join hq p hl hw he,if_neg (by rw[he];simp),if_neg Dw,List.drop_append_of_le_length hc.1,e2,List.length_cons,show cnt+1+ts0.length=cnt+(ts0.length+1) by omega];generalize lex q _ _ _=r;cases r <;> rfl
theorem lex_last (l:List UInt8)(p:Nat)(opn:Bool)(cnt:Nat)(ts:List Tok)(h:lex l p opn cnt=.ok ts):(ts=[]→opn=false)∧∀ c t,ts=c++[t]→Xl t=false:=by
 refine Qeb (fun _ _ opn _ ts=>(ts=[]→opn=false)∧∀ c t,ts=c++[t]→Xl t=false) ?_ ?_ ?_ ?_ ?_ ?_ ?_ l.length l p opn cnt ts (Nat.le_refl _) h
 ·exact fun p cnt=>⟨fun _=>rfl,fun c t e=>by simp at e⟩
 ·intro p cnt _;refine⟨fun e=>by simp at e,fun c t e=>?_⟩;cases c with
  |nil=>simp at e;rw[←e];rfl
  |cons a c=>simp at e
 ·exact fun m p cnt ts ih=>⟨fun _=>rfl,ih.2⟩
 ·intro m p cnt ts _ ih;refine⟨fun e=>by simp at e,fun c t e=>?_⟩;cases c with
  |nil=>simp at e;rw[←e.1];rfl
  |cons a c=>simp at e;exact ih.2 c t e.2
 ·exact fun b m p opn cnt ts _ ih=>ih
 ·exact fun l p opn cnt ts _ ih=>ih
 ·intro l p opn cnt ts _ _ _ ih;refine⟨fun e=>by simp at e,fun c t e=>?_⟩;cases c with
  |nil=>simp at e;rw[←e.1];exact ih.1 e.2
  |cons a c=>simp at e;exact ih.2 c t e.2
theorem Qhi (c:UInt8)(m:List UInt8)(p:Nat)(opn:Bool)(cnt:Nat)(hc:c=40∨c=41∨c=44)(h16:cnt<16384):lex (c::m) p opn cnt=Ee ⟨4,[c],0,p⟩ (lex m (p+1) (c==41) (cnt+1)):=by
 have key:starts (c::m)=true∧Ui (c::m) p=(⟨4,[c],0,p⟩,1,0)∧Xl ⟨4,[c],0,p⟩=(c==41):=by
  rcases hc with rfl|rfl|rfl;all_goals
   refine⟨rfl,?_,rfl⟩;unfold Ui;rw[Td _ _ Dd];rfl
 obtain⟨k1,k2,k4⟩:=key;rw[Kt _ _ _ _ k1,k2];simp only[ne_eq,not_true_eq_false,if_false];rw[if_neg Dw,k4];rfl
end Prs
end
end Go.Proofs.YtcbkeecabcbogaaGreatDoor
