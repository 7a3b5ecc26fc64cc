/- Contracts of the reader's functions: arg, header. Scripts: what the evaluator is told of the reader's functions in one run: which call, at which tokens, comes to what. Scripts: what is told of the -/
import Derived.Test.YtcbkeecabcbogaaGreatDoorGal
import Derived.Test.YtcbkeecabcbogaaGreatDoorGak
set_option linter.unusedSimpArgs false
set_option linter.unusedVariables false
namespace Go.Proofs.YtcbkeecabcbogaaGreatDoor
open Go.RowKit
namespace Prs
set_option maxRecDepth 20000 in
theorem arg_c {b f:Nat}{E:Env}(hx:Reads b E false 37 #[rp b,.int .i64 1] (exprP E.len f 1 false))(ht:Reads b E false 48 #[rp b] (typP E.len f)):Reads b E false 97 #[rp b] (argP E.len (f+1)):=by
 intro l w r h hr
 have hb:=h.lt
 have HR:=Lib.hid h
 have HX:=Lib.hid hx
 have HT:=Lib.hid ht
 rw[argP] at hr
 have HI1:=Lib.hid (is_c b E l false (w.alloc (.cells zero5 26)) wSq (h.new _))
 have HI2:=Lib.hid (fun w1 h1=>is_c b E l false w1 wChan h1)
 unfold wSq at *
 unfold wChan at *
 generalize isP [91] l=i1 at *
 generalize isP [99,104,97,110] l=i2 at *
 clear h hx ht
 cases i1 with
 |true=>
  simp only[Bool.true_or,if_true] at hr
  have HY:=Lib.hid hr
  clear hr
  cases r with
  |error p=>
   go_enter Tryz.func97, Tryz.ntmps97
   go_wp2_with (first|(go_at_call 44;with_reducible refine HI1.out.mono ?_;rintro e w1 ⟨rfl,hB⟩)|(go_at_call 48;refine(HT.out _ _ _ ((HR.out.new _).keep hB) HY.out).mono ?_;rintro e w2 ⟨hk,rfl⟩))
   exact⟨rfl,((KeepR.new _ _).trans (KeepR.of_below hB (Nat.le_refl _))).trans hk,rfl⟩
  |ok y=>
   obtain⟨t,l'⟩:=y
   go_enter Tryz.func97, Tryz.ntmps97
   go_wp2_with (first|(go_at_call 44;with_reducible refine HI1.out.mono ?_;rintro e w1 ⟨rfl,hB⟩;have hk1:=Lib.hid (KeepR.of_below (b:=b) hB (Nat.le_refl _)))|(go_at_call 48;refine(HT.out _ _ _ ((HR.out.new _).keep hB) HY.out).mono ?_;rintro e w2 ⟨hk,v,rfl,hv,hr2⟩;obtain⟨v0,v1,v2,v3,v4,rfl,hone⟩:=hv.cells;have hv:=Lib.hid hv;have hone:=Lib.hid hone;have hq:=Lib.hid (hk.row hb (hk1.out.row hb (new_block w (.cells zero5 26)))))|(refine wpList_store_rowTo rfl 26 _ _ rfl rfl w.heap.size #[v0,v1,v2,v3,v4] ?hx ?hy 26 zero5 hq.out ?hi rfl hone.out ?_;(case hx=>rfl);(case hy=>rfl);(case hi=>exact infoNode _ rfl)))
   have hs1:w.heap.size<w1.heap.size:=Nat.lt_of_lt_of_le (by simp) hB.size
   exact node_done (show Tryz.f97.results = #[.cell 2 26] from rfl) (q:=w.heap.size) (by rfl) (setRow_heap w2 w.heap.size zero5 _ 26 (0,0) hq.out) ((((KeepR.new _ _).trans hk1.out).trans hk).setRow (Nat.le_refl _) _) (hv.out.setRow (fun k hk=>Nat.le_trans (Nat.le_of_lt hs1) hk) (fun k hk=>Nat.ne_of_gt (Nat.lt_of_lt_of_le hs1 hk)) _) (hr2.setRow hb _)
 |false=>
  cases i2 with
  |true=>
   simp only[Bool.false_or,if_true] at hr
   have HY:=Lib.hid hr
   clear hr
   cases r with
   |error p=>
    go_enter Tryz.func97, Tryz.ntmps97
    go_wp2_with (first|(go_at_call 44;with_reducible refine HI1.out.mono ?_;rintro e w1 ⟨rfl,hB⟩)|(go_at_call 44;with_reducible refine(HI2.out _ ((HR.out.new _).keep hB)).mono ?_;rintro e w2 ⟨rfl,hB2⟩;have hB3:=hB.trans (hB2.mono hB.size))|(go_at_call 48;refine(HT.out _ _ _ ((HR.out.new _).keep hB3) HY.out).mono ?_;rintro e w3 ⟨hk,rfl⟩))
    exact⟨rfl,((KeepR.new _ _).trans (KeepR.of_below hB3 (Nat.le_refl _))).trans hk,rfl⟩
   |ok y=>
    obtain⟨t,l'⟩:=y
    go_enter Tryz.func97, Tryz.ntmps97
    go_wp2_with (first|(go_at_call 44;with_reducible refine HI1.out.mono ?_;rintro e w1 ⟨rfl,hB⟩)|(go_at_call 44;with_reducible refine(HI2.out _ ((HR.out.new _).keep hB)).mono ?_;rintro e w3 ⟨rfl,hB2⟩;have hB3:=hB.trans (hB2.mono hB.size);have hk1:=Lib.hid (KeepR.of_below (b:=b) hB3 (Nat.le_refl _)))|(go_at_call 48;refine(HT.out _ _ _ ((HR.out.new _).keep hB3) HY.out).mono ?_;rintro e w2 ⟨hk,v,rfl,hv,hr2⟩;obtain⟨v0,v1,v2,v3,v4,rfl,hone⟩:=hv.cells;have hv:=Lib.hid hv;have hone:=Lib.hid hone;have hq:=Lib.hid (hk.row hb (hk1.out.row hb (new_block w (.cells zero5 26)))))|(refine wpList_store_rowTo rfl 26 _ _ rfl rfl w.heap.size #[v0,v1,v2,v3,v4] ?hx ?hy 26 zero5 hq.out ?hi rfl hone.out ?_;(case hx=>rfl);(case hy=>rfl);(case hi=>exact infoNode _ rfl)))
    have hs1:w.heap.size<w3.heap.size:=Nat.lt_of_lt_of_le (by simp) hB3.size
    exact node_done (show Tryz.f97.results = #[.cell 2 26] from rfl) (q:=w.heap.size) (by rfl) (setRow_heap w2 w.heap.size zero5 _ 26 (0,0) hq.out) ((((KeepR.new _ _).trans hk1.out).trans hk).setRow (Nat.le_refl _) _) (hv.out.setRow (fun k hk=>Nat.le_trans (Nat.le_of_lt hs1) hk) (fun k hk=>Nat.ne_of_gt (Nat.lt_of_lt_of_le hs1 hk)) _) (hr2.setRow hb _)
  |false=>
   simp only[Bool.or_self,Bool.false_eq_true,if_false] at hr
   have HY:=Lib.hid hr
   clear hr
   cases r with
   |error p=>
    go_enter Tryz.func97, Tryz.ntmps97
    go_wp2_with (first|(go_at_call 44;with_reducible refine HI1.out.mono ?_;rintro e w1 ⟨rfl,hB⟩)|(go_at_call 44;with_reducible refine(HI2.out _ ((HR.out.new _).keep hB)).mono ?_;rintro e w2 ⟨rfl,hB2⟩;have hB3:=hB.trans (hB2.mono hB.size))|(go_at_call 37;refine(HX.out _ _ _ ((HR.out.new _).keep hB3) HY.out).mono ?_;rintro e w3 ⟨hk,rfl⟩))
    exact⟨rfl,((KeepR.new _ _).trans (KeepR.of_below hB3 (Nat.le_refl _))).trans hk,rfl⟩
   |ok y=>
    obtain⟨t,l'⟩:=y
    go_enter Tryz.func97, Tryz.ntmps97
    go_wp2_with (first|(go_at_call 44;with_reducible refine HI1.out.mono ?_;rintro e w1 ⟨rfl,hB⟩)|(go_at_call 44;with_reducible refine(HI2.out _ ((HR.out.new _).keep hB)).mono ?_;rintro e w3 ⟨rfl,hB2⟩;have hB3:=hB.trans (hB2.mono hB.size);have hk1:=Lib.hid (KeepR.of_below (b:=b) hB3 (Nat.le_refl _)))|(go_at_call 37;refine(HX.out _ _ _ ((HR.out.new _).keep hB3) HY.out).mono ?_;rintro e w2 ⟨hk,v,rfl,hv,hr2⟩;obtain⟨v0,v1,v2,v3,v4,rfl,hone⟩:=hv.cells;have hv:=Lib.hid hv;have hone:=Lib.hid hone;have hq:=Lib.hid (hk.row hb (hk1.out.row hb (new_block w (.cells zero5 26)))))|(refine wpList_store_rowTo rfl 26 _ _ rfl rfl w.heap.size #[v0,v1,v2,v3,v4] ?hx ?hy 26 zero5 hq.out ?hi rfl hone.out ?_;(case hx=>rfl);(case hy=>rfl);(case hi=>exact infoNode _ rfl)))
    have hs1:w.heap.size<w3.heap.size:=Nat.lt_of_lt_of_le (by simp) hB3.size
    exact node_done (show Tryz.f97.results = #[.cell 2 26] from rfl) (q:=w.heap.size) (by rfl) (setRow_heap w2 w.heap.size zero5 _ 26 (0,0) hq.out) ((((KeepR.new _ _).trans hk1.out).trans hk).setRow (Nat.le_refl _) _) (hv.out.setRow (fun k hk=>Nat.le_trans (Nat.le_of_lt hs1) hk) (fun k hk=>Nat.ne_of_gt (Nat.lt_of_lt_of_le hs1 hk)) _) (hr2.setRow hb _)
set_option maxRecDepth 20000 in
theorem header_c {b:Nat}{E:Env}{hd:Bool}{x:List Tok→R Tr}(hx:Reads b E true 37 #[rp b,.int .i64 1] x):Reads b E hd 50 #[rp b] x:=by
 intro l w r h hr
 have hb:=h.lt
 obtain⟨a0,c0,d0,d1,d2,d3,d4,-⟩:=h.open_
 have HR:=Lib.hid h
 have HX:=Lib.hid hx
 have HY:=Lib.hid hr
 have hz:(w.setCell ⟨b,2,none⟩ (.bool true)).heap.size=w.heap.size:=by simp
 have hnb:((w.setCell ⟨b,2,none⟩ (.bool true)).alloc (.cells zero5 26)).heap[w.heap.size]? = some (.cells zero5 26):=by
  rw[←hz];exact new_block _ _
 have hk0:=Lib.hid ((KeepR.set (b:=b) w 2 (.bool true)).trans (KeepR.new _ (.cells zero5 26)))
 have HNB:=Lib.hid hnb
 have HZ:=Lib.hid hz
 clear h hx hr hnb hz
 cases r with
 |error p=>
  go_enter Tryz.func50, Tryz.ntmps50
  go_wp2_with (go_at_call 37;refine(HX.out _ _ _ ((HR.out.setHead true).new (.cells zero5 26)) HY.out).mono ?_;rintro e w2 ⟨hk,rfl⟩)
  exact⟨rfl,hk0.out.trans hk,rfl⟩
 |ok y=>
  obtain⟨t,l'⟩:=y
  go_enter Tryz.func50, Tryz.ntmps50
  go_wp2_with (first|(go_at_call 37;refine(HX.out _ _ _ ((HR.out.setHead true).new (.cells zero5 26)) HY.out).mono ?_;rintro e w2 ⟨hk,v,rfl,hv,hr2⟩;obtain⟨v0,v1,v2,v3,v4,rfl,hone⟩:=hv.cells;have hv:=Lib.hid hv;have hone:=Lib.hid hone;have hb2:=hr2.lt;have hr2:=Lib.hid hr2;have hq:=Lib.hid (hk.row hb HNB.out))|((with_reducible refine st_new rfl _ _ rfl rfl (v0:=v0) (v1:=v1) (v2:=v2) (v3:=v3) (v4:=v4) ?hx ?hy hone.out ?_);(case hx=>rfl);(case hy=>rfl);intro W1 hrw hB1;have hr3:=hr2.out.keep hB1;obtain⟨a2,c2,g0,g1,g2,g3,g4,-⟩:=hr3.open_;have hb3:=hr3.lt;have hr3:=Lib.hid hr3;have hrw:=Lib.hid hrw;have hB1:=Lib.hid hB1)|((with_reducible refine wpList_load_row rfl 26 _ rfl w2.heap.size ?hx 26 #[v0,v1,v2,v3,v4] (0,0) _ ?hg Tryz.underlying26 ?hd (infoNode _ rfl) ?_);(case hd=>rfl);(case hx=>rfl);(case hg=>exact(Below.heap_setCell _ _ _ _ (Nat.ne_of_gt hb2)).trans hrw.out))|((with_reducible refine wpList_store_rowTo rfl 26 _ _ rfl rfl w.heap.size #[v0,v1,v2,v3,v4] ?hx ?hy 26 zero5 ?hg (infoNode _ rfl) ?hs hone.out ?_);(case hx=>rfl);(case hy=>rfl);(case hs=>rfl);(case hg=>exact(Below.heap_setCell _ _ _ _ (Nat.ne_of_gt hb)).trans ((hB1.out.block _ (Array.getElem?_eq_some_iff.1 hq.out).1).trans hq.out))))
  have hq1:W1.heap[w.heap.size]? = some (.cells zero5 26):=(hB1.out.block _ (Array.getElem?_eq_some_iff.1 hq.out).1).trans hq.out
  have hqs:=(Array.getElem?_eq_some_iff.1 hq.out).1
  refine node_end (show Tryz.f50.results = #[.cell 2 26] from rfl) rfl (q:=w.heap.size) (by rfl) (setRow_heap _ w.heap.size zero5 _ 26 (0,0) ((Below.heap_setCell _ _ _ _ (Nat.ne_of_gt hb)).trans hq1)) ((((hk0.out.trans hk).trans (KeepR.of_below hB1.out (Nat.le_refl _))).trans (KeepR.set _ _ _)).setRow (Nat.le_refl _) _) ?_ ((hr3.out.setHead hd).setRow hb _)
  have hlo:w.heap.size+1=((w.setCell ⟨b,2,none⟩ (.bool true)).alloc (.cells zero5 26)).heap.size:=by simp
  refine hv.out.frame (fun k hk _=>by omega) fun k hk1 hk2 => ?_
  exact(setRow_other _ _ _ _ (by omega)).trans ((Below.heap_setCell _ _ _ _ (show k≠b by omega)).trans (hB1.out.block k hk2))
end Prs
end Go.Proofs.YtcbkeecabcbogaaGreatDoor
namespace Go.Proofs.YtcbkeecabcbogaaGreatDoor
open Go.RowKit
namespace Prs
open Ev
def Tr.text:Tr→List UInt8
 | .mk _ x _ _ _=>x
def Tr.num:Tr→Nat
 | .mk _ _ n _ _=>n
def Tr.place:Tr→Nat
 | .mk _ _ _ p _=>p
structure SEnv where
 len:Nat
 L:Nat→List Tok
 T:Nat→Tr
 TS:Nat→List Tr
 X:Nat→Value
 one:∀ i,(X i).oneCell'=true
 S:Nat→Prop
 D:Nat:=0
def listV (N:SEnv)(i:Nat):Nat→Option Value
 |0=>some (.int .i64 (atP N.len (N.L i):Int))
 |1=>some (.int .i64 (headT (N.L i)).kind)
 |2=>some (.string ⟨(headT (N.L i)).text.toArray⟩)
 |3=>some (.int .u64 (headT (N.L i)).num)
 |4=>some (.int .i64 ((headT (N.L i)).place:Int))
 |_=>none
def treeV (N:SEnv)(j:Nat):Nat→Option Value
 |0=>some (.int .i64 ((N.T j).kind:Int))
 |1=>some (.string ⟨(N.T j).text.toArray⟩)
 |2=>some (.int .u64 ((N.T j).num:Int))
 |_=>some (.int .i64 ((N.T j).place:Int))
def tokVal (N:SEnv)(b:Nat):Option Value:=if b<128 then none else if b<256 then listV N ((b - 128) / 8) ((b - 128) % 8) else if b<320 then treeV N ((b - 256) / 4) ((b - 256) % 4) else if b<384 then some (N.X (b - 320)) else none
theorem tokVal_one {N:SEnv}{b:Nat}{v:Value}(h:tokVal N b=some v):v.oneCell'=true:=by
 unfold tokVal at h
 split at h
 ·cases h
 ·split at h
  ·unfold listV at h
   split at h <;> first|(cases h;rfl)|cases h
  ·split at h
   ·unfold treeV at h
    split at h <;> (cases h;rfl)
   ·split at h
    ·cases h;exact N.one _
    ·cases h
abbrev tk (b:Nat):Value := .chan (some b)
structure AxN (b:Nat)(N:SEnv)(p:Plan):Prop where
 tok:∀ k v,tokVal N k=some v→∃ s,p k=some s∧s.val=v
 rd:∃ s,p 64=some s∧s.blk=b∧s.off=0∧s.size=3∧s.esz=3
 cell:∃ s,p 80=some s∧s.blk=N.D∧s.off=0∧s.size=1∧s.esz=1
theorem AxN.mono {b:Nat}{N:SEnv}(p q:Plan)(hpq:p.le q)(h:AxN b N p):AxN b N q:=⟨fun k v hk=>(h.tok k v hk).imp fun s hs=>⟨hpq _ _ hs.1,hs.2⟩,h.rd.imp fun s hs=>⟨hpq _ _ hs.1,hs.2⟩,h.cell.imp fun s hs=>⟨hpq _ _ hs.1,hs.2⟩⟩
theorem AxN.vr {b:Nat}{N:SEnv}{p:Plan}(h:AxN b N p){k:Nat}{v:Value}(hk:tokVal N k=some v):VR p (tk k) v:=by
 obtain⟨s,h1,h2⟩:=h.tok k v hk
 have:=VR.tok h1 (by rw[h2];exact tokVal_one hk)
 rw[h2] at this
 exact this
theorem AxN.val {b:Nat}{N:SEnv}{p:Plan}(h:AxN b N p){k:Nat}{v v':Value}(hk:tokVal N k=some v)(hv:VR p (tk k) v'):v'=v:=by
 obtain⟨s,h1,h2⟩:=h.tok k v hk
 cases hv with
 |tok h3 _=>
  rw[h1] at h3
  cases h3
  exact h2
def ListS (S:Nat→Prop)(s:Spot)(ts:List Tr):Prop:=∃ a c,s.val = .slice a ts.length c∧(∀ k,s.foot k≠none→S k)∧(ts=[]∨∃ g o,a=some ⟨g,o,none⟩∧s.foot g≠none∧∀ W:World,(∀ k x,s.foot k=some x→W.heap[k]? = some x)→NodeR (fun k=>s.foot k≠none) W g ts o)
mutual
theorem NodeC.weak {S S':Nat→Prop}(h:∀ k,S k→S' k){w:World}:∀ {t:Tr} {cs:List Value},NodeC S w t cs→NodeC S' w t cs
 | .mk k x n p kids,cs,hc=>by
  unfold NodeC at hc ⊢
  obtain⟨a,c,h1,h2⟩:=hc
  refine⟨a,c,h1,h2.imp id ?_⟩
  rintro⟨g,o,h3,h4,h5⟩
  exact⟨g,o,h3,h g h4,NodeR.weak h h5⟩
theorem NodeR.weak {S S':Nat→Prop}(h:∀ k,S k→S' k){w:World}{g:Nat}:∀ {l:List Tr} {o:Nat},NodeR S w g l o→NodeR S' w g l o
 | [],_,_=>by unfold NodeR;trivial
 |t :: l,o,hr=>by
  unfold NodeR at hr ⊢
  obtain⟨⟨v0,v1,v2,v3,v4,h0,h1,h2,h3,h4,h5⟩,h6⟩:=hr
  exact⟨⟨v0,v1,v2,v3,v4,h0,h1,h2,h3,h4,NodeC.weak h h5⟩,NodeR.weak h h6⟩
end
def ListG (S:Nat→Prop)(s:Spot)(ts:List Tr):Prop:=∃ a c,s.val = .slice a ts.length c∧ts.length≤c∧c≤maxLen∧(∀ k,s.foot k≠none→S k)∧((a=none∧ts=[]∧c=0)∨∃ g o bs,a=some ⟨g,o,none⟩∧s.foot g=some (.cells bs 26 (0,0))∧o+c * 5≤bs.size∧∀ W:World,(∀ k x,s.foot k=some x→W.heap[k]? = some x)→NodeR (fun k=>s.foot k≠none∧k≠g) W g ts o)
theorem ListG.toS {S:Nat→Prop}{s:Spot}{ts:List Tr}(h:ListG S s ts):ListS S s ts:=by
 obtain⟨a,c,h1,-,-,h4,h5⟩:=h
 refine⟨a,c,h1,h4,?_⟩
 rcases h5 with ⟨-,h,-⟩|⟨g,o,bs,h6,h7,-,h8⟩
 ·exact .inl h
 ·exact .inr ⟨g,o,h6,by rw[h7];simp,fun W hW=>NodeR.weak (fun k hk=>hk.1) (h8 W hW)⟩
def meanN (b:Nat)(E:Env)(N:SEnv)(p:Plan)(m:Nat)(s:Spot):Prop:=match m % 8 with
 |0=>TokA b E.w0 s.val (N.L (m / 8))∧s.foot=noF
 |1=>ListS N.S s (N.T (m / 8)).kids
 |2=>ListG N.S s (N.TS (m / 8))
 |3=>s.foot=noF∧s.val = .int .i64 ((N.TS (m / 8)).length:Int)
 |4=>s.foot=noF∧∃ s' g o n c,p (m / 8)=some s'∧s'.val = .slice (some ⟨g,o,none⟩) (n+1) c∧s.val = .pointer (some ⟨g,o+5 * n,none⟩)
 |5=>s.foot=noF∧∃ s' g o n c,p (m / 8)=some s'∧s'.val = .slice (some ⟨g,o,none⟩) n c∧s.val = .pointer (some ⟨g,o,none⟩)
 |6=>s.foot=noF∧s.val = .int .i64 ((N.L (m / 8)).length:Int)
 |_=>True
theorem meanN.mono {b:Nat}{E:Env}{N:SEnv}(p q:Plan)(m:Nat)(s:Spot)(hpq:p.le q)(h:meanN b E N p m s):meanN b E N q m s:=by
 unfold meanN at h ⊢
 split at h
 ·exact h
 ·exact h
 ·exact h
 ·exact h
 ·obtain⟨h0,s',g,o,n,c,h1,h2,h3⟩:=h
  exact⟨h0,s',g,o,n,c,hpq _ _ h1,h2,h3⟩
 ·obtain⟨h0,s',g,o,n,c,h1,h2,h3⟩:=h
  exact⟨h0,s',g,o,n,c,hpq _ _ h1,h2,h3⟩
 ·exact h
 ·trivial
inductive Sp where
 |nd (k x n a:Value) (kids:List Sp)
 |ab (k x n a:Value) (m:Nat)
def natOf (N:SEnv):Value→Nat
 | .int _ i=>i.toNat
 | .chan (some b)=>(match tokVal N b with
  |some (.int _ i)=>i.toNat
  |_=>0)
 |_=>0
def strOf (N:SEnv):Value→List UInt8
 | .string s=>s.data.toList
 | .chan (some b)=>(match tokVal N b with
  |some (.string s)=>s.data.toList
  |_=>[])
 |_=>[]
def listOf (N:SEnv)(m:Nat):List Tr:=if m % 8=1 then (N.T (m / 8)).kids else N.TS (m / 8)
mutual
def den (N:SEnv):Sp→Tr
 | .nd k x n a kids => .mk (natOf N k) (strOf N x) (natOf N n) (natOf N a) (dens N kids)
 | .ab k x n a m => .mk (natOf N k) (strOf N x) (natOf N n) (natOf N a) (listOf N m)
def dens (N:SEnv):List Sp→List Tr
 | []=>[]
 |s :: l=>den N s :: dens N l
end
inductive CRes where
 |look (v:Value)
 |step (j:Nat) (v:Value)
 |tree (j:Nat) (k:Value) (t:Nat)
 |trees (j m:Nat)
 |pan (v:Value)
 |pure (v:Value)
 |cons (m:Nat) (y:Option (Sp×Nat))
 |more (i:Nat) (r:Bool)
 |kid (t u:Nat) (own:Bool)
 |intl (d0 d1:Int) (r:CRes)
structure Call1 where
 g:FuncId
 args:List Value
 i:Nat
 hd:Value
 res:CRes
def findC:List Call1→FuncId→List Value→Nat→Value→Option CRes
 | [],_,_,_,_=>none
 |c :: cs,g,ys,i,hd=>match Nat.beq c.g g&&(Nat.beq c.i i&&(eqV 9 c.hd hd&&eqL (eqV 9) c.args ys)) with
  |true=>some c.res
  |false=>findC cs g ys i hd
theorem findC_mem:∀ {cs:List Call1} {g:FuncId} {ys:List Value} {i:Nat} {hd:Value} {r:CRes},findC cs g ys i hd=some r→(⟨g,ys,i,hd,r⟩:Call1)∈cs
 | [],_,_,_,_,_,h=>by cases h
 |c :: cs,g,ys,i,hd,r,h=>by
  unfold findC at h
  split at h
  ·rename_i hb
   simp only[Bool.and_eq_true] at hb
   obtain⟨h1,h2,h3,h4⟩:=hb
   obtain⟨cg,ca,ci,ch,cr⟩:=c
   cases h
   have e1:=Nat.eq_of_beq_eq_true h1
   have e2:=Nat.eq_of_beq_eq_true h2
   have e3:=eqV_ok h3
   have e4:=eqL_ok (fun h=>eqV_ok h) h4
   dsimp only at e1 e2 e3 e4
   rw[←e1,←e2,←e3,←e4]
   exact List.mem_cons_self ..
  ·exact List.mem_cons_of_mem _ (findC_mem h)
def hdOK:Value→Bool
 | .bool _=>true
 | .chan (some 321)=>true
 |_=>false
noncomputable def setInt (d0 d1:Int):M AObj Unit:=M.bind (rdRow 80) fun r=>match r.1 with
 | [.int .i64 d]=>if d=d0∧r.2.1=3∧r.2.2=1 then M.write 80 (some (.row [.int .i64 d1] 3 1)) else M.fail
 |_=>M.fail
noncomputable def doRes (rd:Nat)(t:TypeId)(hd:Value):CRes→M AObj CR
 | .pure _=>M.fail
 | .cons _ _=>M.fail
 | .more _ _=>M.fail
 | .kid _ _ _=>M.fail
 | .intl d0 d1 r=>M.bind (setInt d0 d1) fun _=>doRes rd t hd r
 | .look v=>M.pure (.ret v)
 | .pan v=>M.bind (M.write rd none) fun _=>M.pure (.pan v)
 | .step j v=>M.bind (M.new (.abs (8 * j))) fun c=>M.bind (M.write rd (some (.row [tk c,tk 320,hd] t 3))) fun _=>M.pure (.ret v)
 | .tree j k i=>M.bind (M.new (.abs (8 * j))) fun c=>M.bind (M.new (.abs (8 * i+1))) fun d=>M.bind (M.write rd (some (.row [tk c,tk 320,hd] t 3))) fun _=>M.pure (.ret (.agg #[k,tk (256+4 * i+1),tk (256+4 * i+2),tk (256+4 * i+3),tk d]))
 | .trees j m=>M.bind (M.new (.abs (8 * j))) fun c=>M.bind (M.new (.abs (8 * m+2))) fun d=>M.bind (M.write rd (some (.row [tk c,tk 320,hd] t 3))) fun _=>M.pure (.ret (tk d))
noncomputable def toldM (RT:TypeId)(cs:List Call1)(g:FuncId)(ys:List Value):M AObj CR:=M.bind (rdRow 64) fun r=>match r.1 with
 | [.chan (some c),.chan (some 320),hd]=>if r.2.1=RT∧r.2.2=3∧hdOK hd=true then M.bind (M.read c) fun o=>match o with
   | .abs m=>if m % 8=0 then (match findC cs g ys (m / 8) hd with
    |some res=>doRes 64 RT hd res
    |none=>M.fail) else M.fail
   |_=>M.fail
  else M.fail
 |_=>M.fail
def isTold:List Call1→FuncId→Bool
 | [],_=>false
 |c :: cs,g=>Nat.beq c.g g||isTold cs g
def findP:List Call1→FuncId→List Value→Option Value
 | [],_,_=>none
 |c :: cs,g,ys=>match c.res with
  | .pure v=>(match Nat.beq c.g g&&eqL (eqV 9) c.args ys with
   |true=>some v
   |false=>findP cs g ys)
  |_=>findP cs g ys
theorem findP_mem:∀ {cs:List Call1} {g:FuncId} {ys:List Value} {v:Value},findP cs g ys=some v→∃ c∈cs,c.g=g∧c.args=ys∧c.res = .pure v
 | [],_,_,_,h=>by cases h
 |c :: cs,g,ys,v,h=>by
  unfold findP at h
  split at h
  ·rename_i v' hr
   split at h
   ·rename_i hb
    rw[Bool.and_eq_true] at hb
    cases h
    exact⟨c,List.mem_cons_self ..,Nat.eq_of_beq_eq_true hb.1,eqL_ok (fun h=>eqV_ok h) hb.2,hr⟩
   ·obtain⟨c',h1,h2⟩:=findP_mem h
    exact⟨c',List.mem_cons_of_mem _ h1,h2⟩
  ·obtain⟨c',h1,h2⟩:=findP_mem h
   exact⟨c',List.mem_cons_of_mem _ h1,h2⟩
noncomputable def orcS (RT:TypeId)(cs:List Call1)(g:FuncId)(args:List Value):Option (M AObj CR):=match args with
 | .pointer (some ⟨64,0,none⟩) :: ys=>(match isTold cs g with
  |true=>some (toldM RT cs g ys)
  |false=>none)
 |ys=>(match findP cs g ys with
  |some v=>some (M.pure (.ret v))
  |none=>none)
theorem local_setInt (d0 d1:Int):M.Local (setInt d0 d1):=by
 unfold setInt
 refine M.local_bind (local_rdRow _) fun r => ?_
 split
 ·split
  ·exact M.local_write _ _
  ·exact M.local_fail
 ·exact M.local_fail
theorem local_doRes (rd:Nat)(t:TypeId)(hd:Value):∀ r:CRes,M.Local (doRes rd t hd r)
 | .pure _=>M.local_fail
 | .cons _ _=>M.local_fail
 | .more _ _=>M.local_fail
 | .kid _ _ _=>M.local_fail
 | .look _=>M.local_pure _
 | .pan _=>M.local_bind (M.local_write _ _) fun _=>M.local_pure _
 | .step _ _=>M.local_bind (M.local_new _) fun _=>M.local_bind (M.local_write _ _) fun _=>M.local_pure _
 | .tree _ _ _=>M.local_bind (M.local_new _) fun _=>M.local_bind (M.local_new _) fun _=>M.local_bind (M.local_write _ _) fun _=>M.local_pure _
 | .trees _ _=>M.local_bind (M.local_new _) fun _=>M.local_bind (M.local_new _) fun _=>M.local_bind (M.local_write _ _) fun _=>M.local_pure _
 | .intl d0 d1 r=>M.local_bind (local_setInt d0 d1) fun _=>local_doRes rd t hd r
theorem local_told (RT:TypeId)(cs:List Call1)(g:FuncId)(ys:List Value):M.Local (toldM RT cs g ys):=by
 unfold toldM
 refine M.local_bind (local_rdRow _) fun r => ?_
 split
 ·split
  ·refine M.local_bind (M.local_read _) fun o => ?_
   split
   ·split
    ·split
     ·exact local_doRes _ _ _ _
     ·exact M.local_fail
    ·exact M.local_fail
   ·exact M.local_fail
  ·exact M.local_fail
 ·exact M.local_fail
theorem orcS_some {RT:TypeId}{cs:List Call1}{g:FuncId}{args:List Value}{m:M AObj CR}(h:orcS RT cs g args=some m):(∃ ys,args = .pointer (some ⟨64,0,none⟩) :: ys∧m=toldM RT cs g ys)∨∃ v,findP cs g args=some v∧m=M.pure (.ret v):=by
 unfold orcS at h
 split at h
 ·split at h
  ·cases h;exact .inl ⟨_,rfl,rfl⟩
  ·cases h
 ·split at h
  ·rename_i v hv
   cases h;exact .inr ⟨v,hv,rfl⟩
  ·cases h
def ListW (B:Nat)(w:World)(v:Value)(ts:List Tr):Prop:=∃ a c,v = .slice a ts.length c∧ts.length≤c∧c≤maxLen∧((a=none∧ts=[]∧c=0)∨∃ g o bs,a=some ⟨g,o,none⟩∧B≤g∧w.heap[g]? = some (.cells bs 26 (0,0))∧o+c * 5≤bs.size∧NodeR (fun k=>B≤k∧k≠g) w g ts o)
structure SetAt (g:Nat)(d:Int)(w wm:World):Prop where
 os:wm.os=w.os
 tape:wm.tape=w.tape
 output:wm.output=w.output
 size:wm.heap.size=w.heap.size
 block:∀ k,k≠g→wm.heap[k]? = w.heap[k]?
 cell:∃ fr:Nat×Nat,wm.heap[g]? = some (.cells #[.int .i64 d] 3 fr)∧(decide (fr.1≤0)&&decide (0<fr.2))=false
def CPost (b:Nat)(E:Env)(N:SEnv)(q:Bool)(p:Plan)(res:CRes)(w:World)(e:Ending)(w':World):Prop:=match res with
 | .pure _=>False
 | .cons _ _=>False
 | .more _ _=>False
 | .kid _ _ _=>False
 | .intl _ d1 r=>∃ wm,SetAt N.D d1 w wm∧CPost b E N q p r wm e w'
 | .look v=>Below w.heap.size w w'∧∃ v',e = .returned v'∧VR p v v'
 | .pan v=>KeepR b w w'∧∃ v',e = .panicked [{ v:=v',recovered:=false }]∧VR p v v'
 | .step j v=>KeepR b w w'∧RdB b E w' (N.L j) q∧∃ v',e = .returned v'∧VR p v v'
 | .tree j k i=>KeepR b w w'∧RdB b E w' (N.L j) q∧(k=tk (256+4 * i)∨k = .int .i64 ((N.T i).kind:Int))∧i<16∧∃ v',e = .returned v'∧NodeV (w.heap.size ≤ ·) w' (N.T i) v'
 | .trees j m=>KeepR b w w'∧RdB b E w' (N.L j) q∧∃ v',e = .returned v'∧ListW w.heap.size w' v' (N.TS m)
def CallS (b:Nat)(E:Env)(N:SEnv)(w0:World)(c:Call1):Prop:=match c.res with
 | .pure v=>∀ (p:Plan),AxN b N p→∀ (args':List Value) (w:World),VRs p c.args args'→(∀ k,k<b→w.heap[k]? = E.w0.heap[k]?)→Calls Tryz.prog c.g args'.toArray w fun e w'=>w'=w∧∃ v',e = .returned v'∧VR p v v'
 | .cons m none=>N.TS m=[]
 | .cons m (some y)=>(N.TS m).length≤4294967296∧(y.2≠1000→N.TS m≠[]∧N.TS y.2=den N y.1 :: N.TS m)
 | .more i r=>decide (0<(N.L i).length)=r
 | .kid t u _=>(∃ l,(N.T t).kids=N.T u :: l)∧u<16
 | .intl d0 _ _=>∀ (p:Plan),AxN b N p→∀ (q:Bool) (args':List Value) (w:World) (fr:Nat×Nat),VR p c.hd (.bool q)→VRs p c.args args'→w.heap[N.D]? = some (.cells #[.int .i64 d0] 3 fr)→(decide (fr.1≤0)&&decide (0<fr.2))=false→RdB b E w (N.L c.i) q→w0.heap.size≤w.heap.size→
  Calls Tryz.prog c.g (rp b :: args').toArray w (CPost b E N q p c.res w)
 |_=>∀ (p:Plan),AxN b N p→∀ (q:Bool) (args':List Value) (w:World),VR p c.hd (.bool q)→VRs p c.args args'→RdB b E w (N.L c.i) q→w0.heap.size≤w.heap.size→
  Calls Tryz.prog c.g (rp b :: args').toArray w (CPost b E N q p c.res w)
structure Ctx (b:Nat)(E:Env)(N:SEnv)(K:Cfg)(O:Nat→Prop)(w0:World)(cs:List Call1):Prop where
 orc:K.orc=orcS 61 cs
 mean:K.mean=meanN b E N
 ax:K.ax=AxN b N
 n:K.n=64
 ob:O b
 lo:∀ k,O k→b≤k
 bw:b<w0.heap.size
 low:∀ k,k<b→w0.heap[k]? = E.w0.heap[k]?
 x0:N.X 0 = .int .i64 (E.len:Int)
 len:N.len=E.len
 x1:∃ q,N.X 1 = .bool q
 s:∀ k,w0.heap.size≤k→N.S k
 calls:∀ c∈cs,CallS b E N w0 c
section
variable {b:Nat} {E:Env} {N:SEnv} {K:Cfg} {O:Nat→Prop} {w0 w:World} {cs:List Call1} {p:Plan} {h:Tree AObj}
theorem Ctx.axp (C:Ctx b E N K O w0 cs)(hr:Rel K O w0 p h w):AxN b N p:=by
 have:=hr.dis.ax
 rw[C.ax] at this
 exact this
theorem Ctx.lows (C:Ctx b E N K O w0 cs)(hr:Rel K O w0 p h w):∀ k,k<b→w.heap[k]? = E.w0.heap[k]? := fun k hk=>
 (hr.below.block k (Nat.lt_trans hk C.bw) (fun hO=>absurd (C.lo k hO) (Nat.not_le.2 hk))).trans (C.low k hk)
theorem Ctx.tok (C:Ctx b E N K O w0 cs)(hr:Rel K O w0 p h w){c i:Nat}(hc:h.get c=some (.abs (8 * i))){v:Value}(hv:VR p (tk c) v):TokA b E.w0 v (N.L i):=by
 cases hv with
 |tok h1 h2=>
  have:=hr.mean c _ _ hc h1
  rw[C.mean] at this
  unfold meanN at this
  rw[show (8 * i) % 8=0 by omega,show 8 * i / 8=i by omega] at this
  exact this.1
theorem hd_bool (C:Ctx b E N K O w0 cs)(hr:Rel K O w0 p h w){hd v:Value}(ho:hdOK hd=true)(hv:VR p hd v):∃ q,v = .bool q:=by
 unfold hdOK at ho
 split at ho
 ·cases hv;exact⟨_,rfl⟩
 ·obtain⟨q,hq⟩:=C.x1
  have:tokVal N 321=some (.bool q):=by rw[←hq];rfl
  exact⟨q,(C.axp hr).val this hv⟩
 ·cases ho
theorem rd_open (C:Ctx b E N K O w0 cs)(hr:Rel K O w0 p h w){c i:Nat}{hd:Value}(h64:h.get 64=some (.row [tk c,tk 320,hd] 61 3))(ho:hdOK hd=true)(hc:h.get c=some (.abs (8 * i))):
  ∃ q,VR p hd (.bool q)∧RdB b E w (N.L i) q:=by
 obtain⟨s0,a1,a2,a3,a4,a5⟩:=(C.axp hr).rd
 obtain⟨s,k1,-,-,k4⟩:=hr.at_ _ _ h64
 obtain rfl:s=s0:=Option.some.inj (k1.symm.trans a1)
 obtain⟨bs,fr,r1,r2,r3,r4,r5⟩:=RowAt.at_ k4
 rw[a2] at r1
 rw[a4] at r2
 obtain rfl:=r5.2 (by decide)
 rw[a3,List.drop_zero] at r4
 have hbl:bs.toList.length=3:=by simpa using r2
 rw[List.take_of_length_le (by simp[hbl])] at r4
 generalize hbl':bs.toList=bl at r4
 cases r4 with
 |@cons _ v1 _ _ q1 r4=>
 cases r4 with
 |cons q2 r4=>
 cases r4 with
 |cons q3 r4=>
 cases r4
 obtain⟨q,rfl⟩:=hd_bool C hr ho q3
 have e2:=(C.axp hr).val (show tokVal N 320=some (.int .i64 (E.len:Int)) by rw[←C.x0];rfl) q2
 subst e2
 have hbs:bs = #[v1,.int .i64 (E.len:Int),.bool q]:=by
  rw[←Array.toList_inj,hbl']
 refine⟨q,q3,C.lows hr,_,?_,TokA.frame (C.lows hr) (C.tok hr hc q1)⟩
 rw[r1,hbs]
theorem put_rd (C:Ctx b E N K O w0 cs)(hr:Rel K O w0 p h w){j c:Nat}{q:Bool}{hd:Value}(h64:h.get 64=none)(hfree:∀ x o s,h.get x=some o→p x=some s→¬ Occ o s b)(hb:RdB b E w (N.L j) q)(hv:VR p hd (.bool q))(hp:p c=none)(hc:c≠64):
  ∃ s,Rel K O w0 (p.add c s) ((h.set c (some (.abs (8 * j)))).set 64 (some (.row [tk c,tk 320,hd] 61 3))) w∧p.le (p.add c s):=by
 have hlt:=hb.lt
 have hax:=C.axp hr
 obtain⟨s0,a1,a2,a3,a4,a5⟩:=hax.rd
 obtain⟨hlo,v,hrow,htok⟩:=hb
 have hv1:v.oneCell'=true:=by obtain⟨a,c,rfl,-⟩:=htok;rfl
 have hle:=Plan.le_add (s:=(⟨0,0,0,0,v,noF⟩:Spot)) hp
 have R1:=hr.take (o := .abs (8 * j)) (s:=⟨0,0,0,0,v,noF⟩) hp (fun k hk=>absurd rfl hk) (fun _ k hk=>absurd rfl hk) (fun k hk=>absurd rfl hk) (fun k o hk=>by cases hk) (fun m hm=>by
  cases hm
  rw[C.mean]
  unfold meanN
  rw[show (8 * j) % 8=0 by omega,show 8 * j / 8=j by omega]
  exact⟨TokA.frame (fun k hk=>(hlo k hk).symm) htok,rfl⟩)
 refine⟨_,Rel.put R1 (s:=s0) (hle _ _ a1) ?_ ?_ ?_ ?_ ?_ (fun m e=>by cases e),hle⟩
 ·rw[Tree.get_set,if_neg (Ne.symm hc)];exact h64
 ·intro k hk x o s hx hs
  have hk:k=s0.blk:=hk
  subst hk
  rw[a2]
  rw[Tree.get_set] at hx
  unfold Plan.add at hs
  by_cases e:x=c
  ·rw[if_pos e] at hx hs;cases hx;cases hs;exact fun hh=>hh rfl
  ·rw[if_neg e] at hx hs;exact hfree x o s hx hs
 ·intro _ k hk
  have hk:k=s0.blk:=hk
  rw[hk,a2]
  exact .inl C.ob
 ·intro k hk
  have hk:k=s0.blk:=hk
  rw[hk,a2]
  exact hlt
 ·refine⟨a5,#[v,.int .i64 (E.len:Int),.bool q],(0,0),by rw[a2];exact hrow,by rw[a4];rfl,by rw[a3];exact Nat.le_refl 3,?_,fun j _=>by simp,fun _=>rfl⟩
  rw[a3]
  refine .cons (VR.tok (s:=⟨0,0,0,0,v,noF⟩) (Plan.add_self _ _ _) hv1) (.cons ?_ (.cons (hv.mono hle) .nil))
  exact(hax.vr (show tokVal N 320=some (.int .i64 (E.len:Int)) by rw[←C.x0];rfl)).mono hle
theorem Ctx.out (C:Ctx b E N K O w0 cs)(hr:Rel K O w0 p h w){cs3:List Value}{t:TypeId}{sz:Nat}(h64:h.get 64=some (.row cs3 t sz)){w':World}(hk:KeepR b w w'):Rel K O w0 p (h.set 64 none) w'∧(∀ x o s,(h.set 64 none).get x=some o→p x=some s→∀ k,Occ o s k→k<w.heap.size∧k≠b):=by
 obtain⟨s0,a1,a2,a3,a4,a5⟩:=(C.axp hr).rd
 have key:∀ x o s,(h.set 64 none).get x=some o→p x=some s→∀ k,Occ o s k→k<w.heap.size∧k≠b:=fun x o s hx hs k hO=>by
  rw[Tree.get_set] at hx
  by_cases e:x=64
  ·rw[if_pos e] at hx;cases hx
  ·rw[if_neg e] at hx
   obtain⟨s',k1,-,k3,-⟩:=hr.at_ x o hx
   obtain rfl:s'=s:=Option.some.inj (k1.symm.trans hs)
   refine⟨k3 k hO,fun hkb=>e (hr.one _ _ _ _ _ _ k hx h64 hs a1 hO ?_)⟩
   show k=s0.blk
   rw[a2,hkb]
 refine⟨(hr.del 64).elsewhere hk.os hk.tape hk.output hk.size fun k h1 h2=>hk.block k h1 fun hkb => ?_,key⟩
 rcases h2 with h2|⟨x,o,s,e1,e2,e3⟩
 ·exact h2 (.inl (hkb ▸ C.ob))
 ·exact(key x o s e1 e2 k e3).2 hkb
def footOf (w w':World):Nat→Option Obj:=fun k=>if w.heap.size≤k then w'.heap[k]? else none
theorem footOf_some {w w':World}{k:Nat}{o:Obj}(h:footOf w w' k=some o):w.heap.size≤k∧w'.heap[k]? = some o:=by
 unfold footOf at h
 split at h
 ·rename_i hk;exact⟨hk,h⟩
 ·cases h
theorem footOf_ne {w w':World}{k:Nat}(h:footOf w w' k≠none):w.heap.size≤k∧k<w'.heap.size:=by
 cases hf:footOf w w' k with
 |none=>exact absurd hf h
 |some o=>
  obtain⟨h1,h2⟩:=footOf_some hf
  exact⟨h1,(Array.getElem?_eq_some_iff.1 h2).1⟩
theorem footOf_at {w w':World}{k:Nat}(h1:w.heap.size≤k)(h2:k<w'.heap.size):footOf w w' k≠none:=by
 unfold footOf
 rw[if_pos h1,Array.getElem?_eq_getElem h2]
 simp
theorem NodeR.reblock {S S':Nat→Prop}{w w':World}{g g':Nat}(hlo:∀ k,S k→k<w.heap.size→S' k)(h:∀ k,S k→k<w.heap.size→w'.heap[k]? = w.heap[k]?):∀ {l:List Tr} {o o':Nat},(∀ i,i<5 * l.length→w'.cell? ⟨g',o'+i,none⟩=w.cell? ⟨g,o+i,none⟩)→NodeR S w g l o→NodeR S' w' g' l o'
 | [],_,_,_,_=>by unfold NodeR;trivial
 |t :: l,o,o',hc,hr=>by
  unfold NodeR at hr ⊢
  obtain⟨⟨v0,v1,v2,v3,v4,h0,h1,h2,h3,h4,h5⟩,h6⟩:=hr
  have hl:5 * (t :: l).length=5 * l.length+5:=by simp;omega
  rw[hl] at hc
  refine⟨⟨v0,v1,v2,v3,v4,(hc 0 (by omega)).trans h0,(hc 1 (by omega)).trans h1,(hc 2 (by omega)).trans h2,(hc 3 (by omega)).trans h3,(hc 4 (by omega)).trans h4,NodeC.frame hlo h h5⟩,NodeR.reblock hlo h (fun i hi => ?_) h6⟩
  have:=hc (5+i) (by omega)
  rw[←Nat.add_assoc,←Nat.add_assoc] at this
  exact this
theorem NodeR.snoc {S:Nat→Prop}{w:World}{g:Nat}{t:Tr}{v0 v1 v2 v3 v4:Value}:∀ {l:List Tr} {o:Nat},NodeR S w g l o→w.cell? ⟨g,o+5 * l.length,none⟩=some v0→w.cell? ⟨g,o+5 * l.length+1,none⟩=some v1→w.cell? ⟨g,o+5 * l.length+2,none⟩=some v2→w.cell? ⟨g,o+5 * l.length+3,none⟩=some v3→w.cell? ⟨g,o+5 * l.length+4,none⟩=some v4→NodeC S w t [v0,v1,v2,v3,v4]→NodeR S w g (l++[t]) o
 | [],o,_,h0,h1,h2,h3,h4,hc=>by
  show NodeR S w g [t] o
  unfold NodeR
  exact⟨⟨v0,v1,v2,v3,v4,h0,h1,h2,h3,h4,hc⟩,by unfold NodeR;trivial⟩
 |u :: l,o,hr,h0,h1,h2,h3,h4,hc=>by
  show NodeR S w g (u :: (l++[t])) o
  unfold NodeR at hr ⊢
  have e:o+5 * (u :: l).length=o+5+5 * l.length:=by simp;omega
  rw[e] at h0 h1 h2 h3 h4
  exact⟨hr.1,NodeR.snoc hr.2 h0 h1 h2 h3 h4 hc⟩
theorem foot_rows {w w':World}{g o:Nat}{ts:List Tr}(h2:w.heap.size≤g)(h3:NodeR (w.heap.size ≤ ·) w' g ts o):∀ W:World,(∀ k x,footOf w w' k=some x→W.heap[k]? = some x)→NodeR (fun k=>footOf w w' k≠none) W g ts o:=fun W hW=>by
 by_cases hlt:g<w'.heap.size
 ·refine NodeR.frame (fun k hk1 hk2=>footOf_at hk1 hk2) (fun k hk1 hk2 => ?_) h2 h3
  have hk3:w'.heap[k]? = some (w'.heap[k]'hk2):=Array.getElem?_eq_getElem hk2
  rw[hk3]
  refine hW k _ ?_
  unfold footOf
  rw[if_pos hk1,hk3]
 ·cases ts with
  |nil=>unfold NodeR;trivial
  |cons t l=>
   unfold NodeR at h3
   obtain⟨⟨v0,v1,v2,v3,v4,k0,-⟩,-⟩:=h3
   exact absurd (cell_lt' k0) hlt
theorem foot_rows2 {w w':World}{g o:Nat}{ts:List Tr}(h2:w.heap.size≤g)(hlt:g<w'.heap.size)(h3:NodeR (fun k=>w.heap.size≤k∧k≠g) w' g ts o):∀ W:World,(∀ k x,footOf w w' k=some x→W.heap[k]? = some x)→NodeR (fun k=>footOf w w' k≠none∧k≠g) W g ts o:=fun W hW=>by
 have key:∀ k,w.heap.size≤k→k<w'.heap.size→W.heap[k]? = w'.heap[k]? := fun k hk1 hk2=>by
  have hk3:w'.heap[k]? = some (w'.heap[k]'hk2):=Array.getElem?_eq_getElem hk2
  rw[hk3]
  refine hW k _ ?_
  unfold footOf
  rw[if_pos hk1,hk3]
 refine NodeR.reblock (fun k hk1 hk2=>⟨footOf_at hk1.1 hk2,hk1.2⟩) (fun k hk1 hk2=>key k hk1.1 hk2) (fun i _ => ?_) h3
 unfold World.cell?
 dsimp only
 rw[key g h2 hlt]
theorem Ctx.list (C:Ctx b E N K O w0 cs){w':World}(hr:Rel K O w0 p h w')(hsz:w0.heap.size≤w.heap.size)(hold:∀ x o s,h.get x=some o→p x=some s→∀ k,Occ o s k→k<w.heap.size){d m:Nat}(hp:p d=none){v:Value}
  (hm:meanN b E N (p.add d ⟨0,0,0,0,v,footOf w w'⟩) m ⟨0,0,0,0,v,footOf w w'⟩):Rel K O w0 (p.add d ⟨0,0,0,0,v,footOf w w'⟩) (h.set d (some (.abs m))) w':=by
 refine hr.take (o := .abs m) hp (fun k hk x o s hx hs hO => ?_) (fun _ k hk => .inr ?_) (fun k hk => ?_) (fun k o hk=>(footOf_some hk).2) (fun m' e => ?_)
 ·have:=(footOf_ne hk).1
  have:=hold x o s hx hs k hO
  omega
 ·exact Nat.le_trans hsz (footOf_ne hk).1
 ·exact(footOf_ne hk).2
 ·cases e
  rw[C.mean]
  exact hm
theorem Ctx.kids (C:Ctx b E N K O w0 cs){w':World}(hsz:w0.heap.size≤w.heap.size){a:Option Addr}{c:Nat}{ts:List Tr}(hl:ts=[]∨∃ g o,a=some ⟨g,o,none⟩∧w.heap.size≤g∧NodeR (w.heap.size ≤ ·) w' g ts o):ListS N.S ⟨0,0,0,0,.slice a ts.length c,footOf w w'⟩ ts:=by
 refine⟨a,c,rfl,fun k hk=>C.s k (Nat.le_trans hsz (footOf_ne hk).1),?_⟩
 rcases hl with hl|⟨g,o,h1,h2,h3⟩
 ·exact .inl hl
 ·by_cases ht:ts=[]
  ·exact .inl ht
  ·have hlt:g<w'.heap.size:=by
    obtain⟨t,l,rfl⟩:=List.exists_cons_of_ne_nil ht
    unfold NodeR at h3
    obtain⟨⟨v0,v1,v2,v3,v4,k0,-⟩,-⟩:=h3
    exact cell_lt' k0
   exact .inr ⟨g,o,h1,footOf_at h2 hlt,foot_rows h2 h3⟩
theorem Ctx.grow (C:Ctx b E N K O w0 cs){w':World}(hsz:w0.heap.size≤w.heap.size){a:Option Addr}{c:Nat}{ts:List Tr}(hc:ts.length≤c)(hm:c≤maxLen)
  (hl:(a=none∧ts=[]∧c=0)∨∃ g o bs,a=some ⟨g,o,none⟩∧w.heap.size≤g∧w'.heap[g]? = some (.cells bs 26 (0,0))∧o+c * 5≤bs.size∧NodeR (fun k=>w.heap.size≤k∧k≠g) w' g ts o):ListG N.S ⟨0,0,0,0,.slice a ts.length c,footOf w w'⟩ ts:=by
 refine⟨a,c,rfl,hc,hm,fun k hk=>C.s k (Nat.le_trans hsz (footOf_ne hk).1),?_⟩
 rcases hl with hl|⟨g,o,bs,h1,h2,h3,h4,h5⟩
 ·exact .inl hl
 ·refine .inr ⟨g,o,bs,h1,?_,h4,foot_rows2 h2 (Array.getElem?_eq_some_iff.1 h3).1 h5⟩
  show footOf w w' g=_
  unfold footOf
  rw[if_pos h2,h3]
end
end Prs
end Go.Proofs.YtcbkeecabcbogaaGreatDoor
