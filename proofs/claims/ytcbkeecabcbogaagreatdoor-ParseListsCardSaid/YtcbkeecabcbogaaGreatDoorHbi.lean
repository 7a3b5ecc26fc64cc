/- Contracts of parse.Expr, parse.Stmt and parse.Parse at every -/
import Derived.Test.YtcbkeecabcbogaaGreatDoorHab
import Derived.Test.YtcbkeecabcbogaaGreatDoorHbe
import Derived.Test.YtcbkeecabcbogaaGreatDoorHbh
import Derived.Test.YtcbkeecabcbogaaGreatDoorHbd
import Derived.Test.YtcbkeecabcbogaaGreatDoorCards
import Derived.Lib.LaidU8
import Derived.Lib.LaidTab
import Derived.Shelf.Vars
import Derived.OpenShut
import Derived.ChangeSlices
set_option maxRecDepth 100000
set_option linter.unusedSimpArgs false
set_option linter.unusedVariables false
namespace Go.Proofs.YtcbkeecabcbogaaGreatDoor
section
open Go.RowKit
namespace Prs
structure P6 (w:World)(f:Where):Prop where
 scan:Laid w
 ops:Ops w f
theorem P6.move {w w':World}{f:Where}(h:P6 w f)(hb:∀ k,k<w.heap.size→w'.heap[k]? = w.heap[k]?):P6 w' f:=by
 have hs:=h.scan.size;have hsz:w.heap.size≤w'.heap.size:=by
  have h1:=hb (w.heap.size-1) Dw;have h2:w.heap[w.heap.size-1]? = some (w.heap[w.heap.size-1]'Dw):=Array.getElem?_eq_getElem Dw;rw[h2] at h1
  have:=(Array.getElem?_eq_some_iff.1 h1).1;omega
 have hc:∀ b o,b<w.heap.size→w'.cell? ⟨b,o,none⟩=w.cell? ⟨b,o,none⟩:=fun b o hlt=>by
  unfold World.cell?
  rw[hb b hlt]
 refine⟨?_,?_⟩
 ·obtain⟨m,hm⟩:=h.scan.most;obtain⟨ev,hr,hev⟩:=h.scan.range;obtain⟨t,fr,hsg⟩:=h.scan.signs;refine⟨Nat.le_trans hs hsz,?_,⟨m,?_⟩,⟨ev,?_,hev⟩,⟨t,fr,?_⟩⟩
  ·obtain⟨h1,h2⟩:=h.scan.u8;refine⟨?_,?_⟩
   ·intro x hx;rw[hc _ _ (Nat.lt_of_lt_of_le Dd hs)];exact h1 x hx
   ·intro i hi;rw[hc _ _ (Nat.lt_of_lt_of_le Dd hs),hc _ _ (Nat.lt_of_lt_of_le Dd hs)];exact h2 i hi
  ·rw[hc _ _ (Nat.lt_of_lt_of_le Dd hs)];exact hm
  ·rw[hc _ _ (Nat.lt_of_lt_of_le Dd hs)];exact hr
  ·rw[hb _ (Nat.lt_of_lt_of_le Dd hs)];exact hsg
 ·refine⟨Nat.le_trans hs hsz,?_,h.ops.room,fun i z hz j x hx=>?_⟩
  ·rw[hb _ (Nat.lt_of_lt_of_le Dd hs)];exact h.ops.ops
  ·have:=h.ops.cells i z hz j x hx;rw[hc _ _ (Qox this)];exact this
theorem P6.below {w w':World}{f:Where}(h:P6 w f)(hb:Below w.heap.size w w'):P6 w' f:=h.move hb.block
theorem Qno {w:World}{g:Nat}:∀ (ts:List Tok) (o:Nat),(∀ (k:Nat) (t:Tok),ts[k]? = some t→∀ (j:Nat) (v:Value),(tokL t)[j]? = some v→w.cell? ⟨g,o+k*4+j,none⟩=some v)→Qkp w g ts o
 | [],_,_=>trivial
 |t::ts,o,h=>⟨fun i v hv=>by simpa using h 0 t rfl i v hv,Qno ts (o+4) fun k u hu j v hv=>by
   have:=h (k+1) u (by simpa using hu) j v hv;rw[show o+(k+1)*4+j=o+4+k*4+j by omega] at this
   exact this⟩
theorem tokU_of {w:World}{b:Nat}{v:Value}{ts:List Tok}(h:w.ownsRow b 46 4 v ts.length (Bg ts)):Qi8 b w.heap.size w v ts:=by
 have hc:=fun g hg=>h.cells (g:=g) hg
 rcases h.2 with ⟨rfl,h0⟩|⟨g,cap,cur,rfl,hbg,hg,h1,h2,-⟩
 ·exact⟨none,0,by rw[h0],by omega,Nat.zero_le _,.inl (List.length_eq_zero_iff.1 h0)⟩
 ·refine⟨some ⟨g,0,none⟩,cap,rfl,h1,h2,.inr ⟨g,0,rfl,hbg,(Array.getElem?_eq_some_iff.1 hg).1,Qno ts 0 fun k t ht j u hu=>?_⟩⟩;have hk:k<ts.length:=(List.getElem?_eq_some_iff.1 ht).1;have hj:j<4:=(List.getElem?_eq_some_iff.1 hu).1;have e1:=Qe5 ts k hk j hj;rw[show ts[k]=t from (List.getElem?_eq_some_iff.1 ht).2] at e1
  have:=hc g rfl (k*4+j) u (e1.trans hu);rw[Lib.add_plain] at this;simpa using this
theorem tokensA (s:ByteArray)(w:World){f:Where}(h:P6 w f)(hm:s.size≤maxLen):Tc s w:=by
 refine(tokens_c s w h.scan hm).mono ?_;rintro e w' ⟨hp,hb⟩;refine⟨hb,?_⟩;unfold Dp at hp;have hbl:bl s=s.data.toList:=rfl;rw[hbl] at hp;split at hp
 ·rename_i ts hts;rw[hts];obtain⟨v,h1,h2,-⟩:=hp;exact⟨v,h1,tokU_of h2⟩
 ·rename_i p c hts;rw[hts];exact⟨Qc6 _ _ _ hts,hp⟩
theorem bindsC {w W:World}{f:Where}(h:P6 w f){n b:Nat}(hW:∀ k,k<w.heap.size→W.heap[k]? = w.heap[k]?)(hb:w.heap.size≤b):Jb b ⟨n,W⟩:=fun x w1 hw1=>
 binds_c f x w1 (h.move fun k hk=>(hw1 k Dw).trans (hW k hk)).ops
theorem parse_c (s:ByteArray)(one:Bool)(fw:Nat)(what:Nat→List Tok→R Tr)(w:World){f:Where}(h:P6 w f)(hm:s.size≤maxLen)(hfw:∀ (args:Array Value) (W:World),(callFunc fw args).run Tryz.prog W=.ok (.enter fw args) W)
  (HE:∀ ts,OkL ts→ts.length≤16384→Fit (fun x _=>Xm x≤200000) (what s.size ts))
  (HX:∀ b W,Jb b ⟨s.size,W⟩→Reads b ⟨s.size,W⟩ false fw #[rp b] (what s.size)):
  ∃ r,Qcu what one s.data.toList=some r∧Calls Tryz.prog 21 #[.string s,.bool one,.func (.func fw) #[] #[]] w (Uc w r):=by
 have hs:s.data.toList.length=s.size:=rfl;have hr:∃ r,Qcu what one s.data.toList=some r:=by
  unfold Qcu;rw[hs];split
  ·exact⟨_,rfl⟩
  ·rename_i ts hts;obtain⟨h1,h2⟩:=Qhy _ _ hts;obtain⟨y,hy,-⟩:=HE ts h1 h2;rw[hy];exact⟨_,rfl⟩
 obtain⟨r,hr⟩:=hr;refine⟨r,hr,read_c s one fw what r w hr hfw (fun w1 h1=>tokensA s w1 (h.move h1) hm) (fun b W h1 h2=>HX b W (bindsC h h1 h2)) fun ts t l hts hx=>?_⟩;obtain⟨h1,h2⟩:=Qhy _ _ hts;obtain⟨y,hy,hG⟩:=HE ts h1 h2;rw[hx] at hy;cases hy;obtain⟨h3,h4⟩:=hG t l rfl;exact⟨fun t ht=>(h3 t ht).1,by omega⟩
def Qab (s:List UInt8):Option (Except (Nat×Int) Tr):=Qcu (fun n=>Xc n Qb2 1 false) true s
theorem Qlf (s:ByteArray)(w:World){f:Where}(h:P6 w f)(hm:s.size≤maxLen):∃ r,Qab s.data.toList=some r∧Calls Tryz.prog 21 #[.string s,.bool true,.func (.func 22) #[] #[]] w (Uc w r):=
 parse_c s true 22 (fun n=>Xc n Qb2 1 false) w h hm fw_any (fun ts h1 h2=>Qp4 _ h1 h2) fun b W hB=>Qne hB (by unfold Qb2;omega) false
theorem Uc.row {w w':World}{r:Except (Nat×Int) Tr}{e:Ending}(h:Uc w r e w'):∃ v0 v1 v2 v3 v4 a c,e=.returned (.tuple #[.agg #[v0,v1,v2,v3,v4],.int .i64 a,.int .i64 c])∧(#[v0,v1,v2,v3,v4]:Array Value).all (·.oneCell')=true∧Below w.heap.size w w'∧
  ∀ W0 w2,(∀ k,w.heap.size≤k→k<w'.heap.size→w2.heap[k]? = w'.heap[k]?)→W0.heap.size≤w.heap.size→Below W0.heap.size W0 w2→Uc W0 r (.returned (.tuple #[.agg #[v0,v1,v2,v3,v4],.int .i64 a,.int .i64 c])) w2:=by
 unfold Uc at h;cases r with
 |ok t=>
  dsimp only at h;obtain⟨v,rfl,hv,hb⟩:=h;obtain⟨v0,v1,v2,v3,v4,rfl,hone⟩:=hv.cells;exact⟨v0,v1,v2,v3,v4,0,0,rfl,hone,hb,fun W0 w2 h1 h2 h3=>⟨_,rfl,hv.frame (fun k hk _=>Nat.le_trans h2 hk) (fun k hk hl=>h1 k hk hl),h3⟩⟩
 |error pc=>
  obtain⟨p,c⟩:=pc;obtain⟨rfl,hb⟩:=h;exact⟨_,_,_,_,_,_,_,rfl,by simp[Value.oneCell'],hb,fun W0 w2 h1 h2 h3=>⟨rfl,h3⟩⟩
theorem Qf5 {fn:Func}{p u v:Tmp}{ty:TypeId}{P:Program}(h:fn.results = #[.cell p ty,.tmp u,.tmp v])(tmps:Array Value)(w:World)(g:Nat)(cs:Array Value)
  (hp:tmps.getD p undef=.pointer (some ⟨g,0,none⟩)) (hl:(loadVar ty ⟨g,0,none⟩).run P w=.ok (.agg cs) w):
  (results fn tmps).run P w=.ok (.tuple #[.agg cs,tmps.getD u undef,tmps.getD v undef]) w:=by
 have hp':tmps[p]?.getD undef=.pointer (some ⟨g,0,none⟩):=by simpa using hp
 simp[results,h,hp',asAddr,hl]
theorem wrap_ret {fn:Func}{p u v:Tmp}{w w1:World}{r:Except (Nat×Int) Tr}{tmps:Array Value}{v0 v1 v2 v3 v4:Value}{a c:Int}(h:fn.results = #[.cell p 26,.tmp u,.tmp v])(hp:tmps.getD p undef=.pointer (some ⟨w.heap.size,0,none⟩))(hu:tmps.getD u undef=.int .i64 a)(hv:tmps.getD v undef=.int .i64 c)
  (hB:Below (w.alloc (.cells Q7 26)).heap.size (w.alloc (.cells Q7 26)) w1)
  (hR:∀ W0 w2,(∀ k,(w.alloc (.cells Q7 26)).heap.size≤k→k<w1.heap.size→w2.heap[k]? = w1.heap[k]?)→W0.heap.size≤(w.alloc (.cells Q7 26)).heap.size→Below W0.heap.size W0 w2→Uc W0 r (.returned (.tuple #[.agg #[v0,v1,v2,v3,v4],.int .i64 a,.int .i64 c])) w2):
  bodyPost Tryz.prog fn (Uc w r) .ret ⟨tmps,[]⟩ (w1.setRow w.heap.size #[v0,v1,v2,v3,v4]):=by
 have hg:w1.heap[w.heap.size]? = some (.cells Q7 26 (0,0)):=(hB.block _ Ds).trans (Q4 _ _);have hl:=run_loadVar_row (w1.setRow w.heap.size #[v0,v1,v2,v3,v4]) w.heap.size 26 26 #[v0,v1,v2,v3,v4] (0,0) _ (setRow_heap _ _ _ _ _ _ hg) (show (Tryz.prog).underlying 26=some (.struct _) from Tryz.underlying26) rfl (Xk _ rfl);refine bodyPost_ret (Qf5 h tmps _ _ _ hp hl) rfl ?_;rw[hu,hv];refine hR w _ (fun k hk _=>setRow_other _ _ _ _ (by simp at hk;omega)) Ds ?_;exact below_setRow (((Below.refl _ _).alloc (Nat.le_refl _) _).trans (hB.mono Ds)) (Nat.le_refl _) _
theorem Qb8 (s:ByteArray)(w:World){f:Where}(h:P6 w f)(hm:s.size≤maxLen):∃ r,Qab s.data.toList=some r∧Calls Tryz.prog 9 #[.string s] w (Uc w r):=by
 obtain⟨r,hr,hc⟩:=Qlf s (w.alloc (.cells Q7 26)) (h.below ((Below.refl _ _).alloc (Nat.le_refl _) _)) hm;refine⟨r,hr,?_⟩;have HC:=Dh hc;clear hc hr;go_enter Tryz.func9,Tryz.ntmps9
 go_wp2_with (first|(go_at_call 21;refine HC.out.mono ?_;intro e w1 hp;obtain⟨v0,v1,v2,v3,v4,a,c,rfl,hone,hB,hR⟩:=hp.row;clear hp;have hone:=Dh hone;have hB:=Dh hB;have hR:=Dh hR)|(refine wpList_store_rowTo rfl 26 _ _ rfl rfl w.heap.size #[v0,v1,v2,v3,v4] ?hx ?hy 26 Q7 ((hB.out.block _ Ds).trans (Q4 _ _)) (Xk _ rfl) rfl hone.out ?_;(case hx=>rfl);(case hy=>rfl)))
 exact wrap_ret (show Tryz.f9.results = #[.cell 2 26,.tmp 3,.tmp 4] from rfl) rfl rfl rfl hB.out hR.out
end Prs
end
section
namespace Prs
def noLD (m:List UInt8):Prop:=m=[]∨∃ c l,m=c::l∧c.toNat<128∧Qbz c.toNat=false
theorem run_no {m:List UInt8}(h:noLD m):Y9 m=0:=by
 rcases h with rfl|⟨c,l,rfl,h1,h2⟩
 ·exact G9
 ·exact Nj c l (by rw[Tq c l h1];exact h2)
theorem Qod {b:UInt8}{m:List UInt8}(hb:b.toNat<128)(hl:Qbz b.toNat=true)(h:noLD m):Y9 (b::m)=1:=by
 have hd:=Tq b m hb;rw[Hz b m (by rw[hd];exact hl),hd];show 1+Y9 m=1
 rw[run_no h]
theorem Qj1 {b:UInt8}{m:List UInt8}{p cnt:Nat}{opn:Bool}(hb:b.toNat<128)(hl:isLet (b.toNat:Int)=true)(hw:isWord [b]=false)(hs:starts (b::m)=true)(hm:noLD m)(hc:cnt<16384):lex (b::m) p opn cnt=Cb ⟨1,[b],0,p⟩ (lex m (p+1) true (cnt+1)):=by
 have hd:=Tq b m hb;have hr:=Qod hb (by simp[Qbz,hl]) hm;have ho:Un (b::m) p=(⟨1,[b],0,p⟩,1,0):=by
  unfold Un;rw[hd,hr];simp only[hl,if_true,show (64<1)=False from by simp,if_false,List.take_succ_cons,List.take_zero,hw,Bool.false_eq_true]
 rw[He _ _ _ _ hs,ho];simp only[ne_eq,not_true_eq_false,if_false];rw[if_neg Dw];rfl
theorem Qo4 {b:UInt8}{m:List UInt8}{p cnt:Nat}{opn:Bool}(hb:b.toNat<128)(hl:isLet (b.toNat:Int)=false)(hdg:Hg (b.toNat:Int)=true)(hs:starts (b::m)=true)(hm:noLD m)(hc:cnt<16384)(he:(Ej [b]).2=0):lex (b::m) p opn cnt=Cb ⟨2,[b],(Ej [b]).1,p⟩ (lex m (p+1) true (cnt+1)):=by
 have hd:=Tq b m hb;have hr:=Qod hb (by simp[Qbz,hdg]) hm;have ho:Un (b::m) p=(⟨2,[b],(Ej [b]).1,p⟩,1,0):=by
  unfold Un;rw[hd,hr];simp only[hl,hdg,if_true,if_false,List.take_succ_cons,List.take_zero,Bool.false_eq_true,he]
 rw[He _ _ _ _ hs,ho];simp only[ne_eq,not_true_eq_false,if_false];rw[if_neg Dw];rfl
theorem lex_op {g m:List UInt8}{p cnt:Nat}{opn:Bool}(hg:g∈binOps)(hc:cnt<16384):lex (g++32::m) p opn cnt=Cb ⟨4,g,0,p⟩ (lex (32::m) (p+g.length) false (cnt+1)):=by
 have key:starts (g++32::m)=true∧Un (g++32::m) p=(⟨4,g,0,p⟩,g.length,0)∧(g++32::m).drop g.length=32::m∧X3 ⟨4,g,0,p⟩=false:=by
  simp only[binOps,List.mem_cons,List.not_mem_nil,or_false] at hg;rcases hg with rfl|rfl|rfl|rfl|rfl|rfl|rfl|rfl|rfl|rfl|rfl|rfl|rfl|rfl|rfl|rfl|rfl|rfl|rfl;all_goals
   refine⟨rfl,?_,rfl,rfl⟩;unfold Un;simp only[List.cons_append,List.nil_append];rw[Tq _ _ Dd];rfl
 obtain⟨k1,k2,k3,k4⟩:=key;rw[He _ _ _ _ k1,k2];simp only[ne_eq,not_true_eq_false,if_false];rw[if_neg Dw,k3,k4]
theorem Qaw:∀ (l:List UInt8),(∀ b∈l,b.toNat<128)→Vd l=l.length
 | [],_=>Gp
 |b::l,h=>by
  have hb:=h b List.mem_cons_self;have hd:=Tq b l hb;rw[Jv b l (by unfold broken;rw[hd];simp;omega),hd];show 1+Vd l=l.length+1
  rw[Qaw l fun c hc=>h c (List.mem_cons_of_mem _ hc)];omega
theorem Qnm:X9 [97,32,43,32,49]=.ok [⟨1,[97],0,0⟩,⟨4,[43],0,2⟩,⟨2,[49],1,4⟩,⟨5,[],0,5⟩]:=by
 unfold X9;rw[Qaw _ Dd,if_neg Dd,if_neg (Nat.lt_irrefl _)];have n1:∀ m:List UInt8,noLD (32::m):=fun m => .inr ⟨32,m,rfl,by decide,by decide⟩
 rw[Qj1 Dd Dd Dd rfl (n1 _) Dw,Yv _ _ _ _ _ Dd,show ([43,32,49]:List UInt8)=[43]++32::[49] from rfl,lex_op Dd Dw,Yv _ _ _ _ _ Dd,
  Qo4 Dd Dd Dd rfl (.inl rfl) Dw Dd,Jf]
 rfl
theorem expr_a1:Qab [97,32,43,32,49]=some (.ok (.mk 33 [43] 0 2 [.mk 30 [97] 0 0 [],.mk 31 [] 1 4 []])):=by
 unfold Qab Qcu;rw[Qnm];kernel_rfl
end Prs
end
section
open Go.RowKit
namespace Prs
theorem Qp6 (w:World){f:Where}(h:P6 w f):Calls Tryz.prog 10 #[] w fun e w'=>e=.returned (.bool true)∧Below w.heap.size w w':=by
 obtain⟨r,hr,hc⟩:=Qb8 ⟨#[97,32,43,32,49]⟩ w h Dd;have hr2:Qab [97,32,43,32,49]=some r:=hr;rw[expr_a1] at hr2;cases hr2;have HC:=Dh hc;clear hc hr;go_enter Tryz.func10,Tryz.ntmps10
 go_wp2_with (first|(go_at_call 9;refine HC.out.mono ?_;rintro e w1 ⟨v,rfl,hv,hB⟩;obtain⟨cs,rfl,hc⟩:=hv;unfold X7 at hc;obtain⟨a,cp,rfl,-⟩:=hc;have hB:=Dh hB)|((with_reducible refine Yu rfl _ _ rfl rfl ?hx ?hy ?hone ?_);(case hx=>rfl);(case hy=>rfl);(case hone=>simp[Value.oneCell']);intro W1 hrw hB1;obtain⟨e0,e1,e2,e3,e4,-⟩:=Zy hrw;have hB1:=Dh hB1))
 go_ret;exact⟨rfl,hB.out.alloc hB.out.size _⟩
theorem J8 {w w2:World}{b o:Nat}{cs:List Value}(h:w.rangeAt b o cs)(hb:Below w.heap.size w w2):w2.rangeAt b o cs:=fun j v hv=>bc hb (h j v hv)
section
variable {P:Program} {ops:Array Oper} {Q:Exit→Act→World→Prop} {md:Region.Mode} {S:World→Prop} {fuel:Nat} {listed:Array Bool} {a:Act} {w:World}
theorem Qo9 (i d:Nat){op:Oper}(hi:ops[i]? = some op)(hd:op.dst=some d)(hs:Region.noSelect ops=true)(hf:Region.free md ops listed i=true)(hr:(Region.ready md ops listed).contains i=true)
  (hQ:∀ cs c a w,Q (.panic c) (a.put op.dst cs) w→Q (.panic c) a w) (hw:Region.wanted op (yielded ops a.tmps)=true) (hS:S w) (ty:TypeId) (x:Operand) (ho:op.op=.load ty x)
  (b o:Nat) (hx:a.eval x=.pointer (some ⟨b,o,none⟩)) (cs:List Value) (dsc:TypeDesc) (hSr:∀ w,S w→w.rangeAt b o cs) (hu:P.underlying ty=some dsc) (hrow:dsc.isRow=true) (hn:(P.info? ty).map (·.size)=some cs.length)
  (h:wpAnyH P md ops Q S fuel (listed.setIfInBounds i true) (a.put (some d) (.agg cs.toArray)) w):wpAnyH P md ops Q S (fuel+1) listed a w:=
 wpAnyH_take hi hs hf hr (hQ _) (yieldsIf_load_mid hw ty x ho b o hx cs dsc hSr hu hrow hn) hS (hd ▸ h)
end
def C9 (g:Nat)(kz:Int)(x:List UInt8)(nn pl:Nat)(a:Option Addr)(n cp:Nat)(wr:World):Prop:=
 wr.heap[g]? = some (.cells #[.int .i64 kz,.string ⟨x.toArray⟩,.int .u64 (nn:Int),.int .i64 (pl:Int),.slice a n cp] 26 (0,0))
theorem C9.after {g:Nat}{kd:Int}{x:List UInt8}{nn pl:Nat}{a:Option Addr}{n cp:Nat}{wr w1:World}(h:C9 g kd x nn pl a n cp wr)(h1:Below wr.heap.size wr w1):C9 g kd x nn pl a n cp w1:=by
 unfold C9 at h ⊢;rw[h1.block _ (Array.getElem?_eq_some_iff.1 h).1,h]
theorem Qf2:∀ {l m:List Tr} {i:Nat} {t u:Tr},l[i]? = some t→m[i]? = some u→J7 l m=true→Qct t u=true
 | [],_,_,_,_,h,_,_=>by simp at h
 |t::l,[],_,_,_,_,h,_=>by simp at h
 |t::l,u::m,0,_,_,h,h',hs=>by
  simp at h h';subst h;subst h';unfold J7 at hs;rw[Bool.and_eq_true] at hs;exact hs.1
 |t::l,u::m,i+1,_,_,h,h',hs=>by
  unfold J7 at hs;rw[Bool.and_eq_true] at hs;exact Qf2 (by simpa using h) (by simpa using h') hs.2
theorem Qf1:∀ {l m:List Tr},l.length=m.length→(∀ (i:Nat) (t u:Tr),l[i]? = some t→m[i]? = some u→Qct t u=true)→J7 l m=true
 | [],[],_,_=>rfl
 | [],_::_,h,_=>by simp at h
 |_::_,[],h,_=>by simp at h
 |t::l,u::m,h,hs=>by
  unfold J7;rw[Bool.and_eq_true];exact⟨hs 0 t u rfl rfl,Qf1 (by simpa using h) fun i t u h1 h2=>hs (i+1) t u (by simpa using h1) (by simpa using h2)⟩
theorem Qdb:∀ {l m:List Tr},J7 l m=true→l.length=m.length
 | [],[],_=>rfl
 | [],_::_,h=>by simp[J7] at h
 |_::_,[],h=>by simp[J7] at h
 |t::l,u::m,h=>by
  unfold J7 at h;rw[Bool.and_eq_true] at h;simp[Qdb h.2]
set_option maxHeartbeats 4000000 in
theorem same_c:∀ (n:Nat) (t u:Tr) (S:Nat→Prop) (w:World) (v v':Value),Xm t≤n→n≤4611686018427387904→Zh S w t v→Zh S w u v'→Calls Tryz.prog 11 #[v,v'] w fun e w'=>e=.returned (.bool (Qct t u))∧Below w.heap.size w w':=by
 intro n;induction n with
 |zero=>intro t u S w v v' h;cases t;unfold Xm at h;omega
 |succ n ih=>
  intro t u S w v v' hn hbig h h';cases t with
  |mk kd x nn pl kids=>
  cases u with
  |mk kd' x' nn' pl' kids'=>
  unfold Xm at hn;unfold Qct;obtain⟨cs,he,hc⟩:=h;unfold X7 at hc;obtain⟨a,cp,rfl,hl⟩:=hc;obtain⟨cs',he',hc'⟩:=h';unfold X7 at hc';obtain⟨a',cp',rfl,hl'⟩:=hc';subst he;subst he';have IH:=Dh ih;have HL:=Dh hl;have HL':=Dh hl';have HN:=Dh hn;have HB:=Dh hbig;clear ih hl hl' hn hbig;have fin:∀ o o',Below w.heap.size w ((w.alloc o).alloc o'):=fun o o'=>((Below.refl _ _).alloc (Nat.le_refl _) _).alloc Ds _
  by_cases h1:kd=kd'
  rotate_left
  ·have hq1:((kd:Int) != (kd':Int))=true:=by simp;omega
   rw[show (kd==kd')=false from beq_false_of_ne h1,Bool.false_and];go_enter Tryz.func11,Tryz.ntmps11
   go_wp2
   go_ret;exact⟨rfl,fin _ _⟩
  subst h1;by_cases h2:x=x'
  rotate_left
  ·have hq2:(x==x')=false:=beq_false_of_ne h2;rw[hq2,Bool.false_and,Bool.and_false];go_enter Tryz.func11,Tryz.ntmps11
   go_wp2
   go_ret;exact⟨rfl,fin _ _⟩
  subst h2;by_cases h3:nn=nn'
  rotate_left
  ·have hq3:((nn:Int) != (nn':Int))=true:=by simp;omega
   rw[show (nn==nn')=false from beq_false_of_ne h3,Bool.false_and,Bool.and_false,Bool.and_false];go_enter Tryz.func11,Tryz.ntmps11
   go_wp2
   go_ret;exact⟨rfl,fin _ _⟩
  subst h3;by_cases h4:kids.length=kids'.length
  rotate_left
  ·have hq4:((kids.length:Int) != (kids'.length:Int))=true:=by simp;omega
   rw[show J7 kids kids'=false from Bool.eq_false_iff.2 fun h=>h4 (Qdb h),Bool.and_false,Bool.and_false,Bool.and_false];go_enter Tryz.func11,Tryz.ntmps11
   go_wp2
   go_ret;exact⟨rfl,fin _ _⟩
  simp only[beq_self_eq_true,Bool.true_and];have HLE:=Dh h4;rw[←h4];clear h4 fin;go_enter Tryz.func11,Tryz.ntmps11
  go_wp2
  go_loopw [5] (fun i wr=>∃ k:Nat,k≤kids.length∧i=.int .i64 k∧Below w.heap.size w wr∧RowKit.Hid (∀ (j:Nat) (t u:Tr),j<k→kids[j]? = some t→kids'[j]? = some u→Qct t u=true)∧RowKit.Hid (C9 w.heap.size (kd:Int) x nn pl a kids.length cp wr)∧RowKit.Hid (C9 (w.heap.size+1) (kd:Int) x nn pl' a' kids.length cp' wr)) (fun i _=>kids.length-(intOf i).toNat)
  case atStart=>
   refine⟨0,Nat.zero_le _,rfl,((Below.refl _ _).alloc (Nat.le_refl _) _).alloc Ds _,Dh (fun j u v hj=>absurd hj (Nat.not_lt_zero _)),Dh ?_,Dh ?_⟩
   ·unfold C9;rw[Below.heap_alloc _ _ _ Ds];exact Array.getElem?_push_size
   ·unfold C9;exact(show (w.alloc _).heap.size=w.heap.size+1 by simp) ▸ Q4 (w.alloc _) _
  case round=>
   obtain⟨k,hk,rfl,hBw,hall,hb1,hb2⟩:=hrel;have q1:wr.cell? ⟨w.heap.size,4,none⟩=some (Value.slice a kids.length cp):=by
    have:=hb1.out;unfold C9 at this;simp[World.cell?,this]
   have q2:wr.cell? ⟨w.heap.size+1,4,none⟩=some (Value.slice a' kids.length cp'):=by
    have:=hb2.out;unfold C9 at this;simp[World.cell?,this]
   by_cases hlt:k<kids.length
   ·obtain⟨g,o,rfl,hg,hR⟩:=HL.out.resolve_left (by rintro rfl;simp at hlt);obtain⟨g',o',rfl,hg',hR'⟩:=HL'.out.resolve_left (by rintro rfl;have:kids.length=0:=HLE.out;omega);have hlt':k<kids'.length:=by have:=HLE.out;omega
    obtain⟨kid,hkid⟩:∃ u,kids[k]? = some u:=⟨_,List.getElem?_eq_getElem hlt⟩;obtain⟨kid',hkid'⟩:∃ u,kids'[k]? = some u:=⟨_,List.getElem?_eq_getElem hlt'⟩;obtain⟨u0,u1,u2,u3,u4,c0,c1,c2,c3,c4,hu⟩:=hR.at_ k kid hkid;obtain⟨z0,z1,z2,z3,z4,d0,d1,d2,d3,d4,hz⟩:=hR'.at_ k kid' hkid';rw[Nat.mul_comm 5 k] at c0 c1 c2 c3 c4 d0 d1 d2 d3 d4;have hrg:=Dh (Us (bc hBw c0) (bc hBw c1) (bc hBw c2) (bc hBw c3) (bc hBw c4));have hrg':=Dh (Us (bc hBw d0) (bc hBw d1) (bc hBw d2) (bc hBw d3) (bc hBw d4));have hV:=Dh ((hu.agg).below hBw);have hV':=Dh ((hz.agg).below hBw);have hts:=Dh (Jw hkid);have hle:=Dh (F5 kids (k+1));have hBw:=Dh hBw;have hkid:=Dh hkid;have hkid':=Dh hkid';clear hR hR' c0 c1 c2 c3 c4 d0 d1 d2 d3 d4 hu hz hg hg';have hq1:(k:Int)<(kids.length:Int):=by omega
    have hstart:kids.length-(intOf (.int .i64 (k:Int))).toNat=kids.length-k:=by simp[intOf]
    go_wp2
    refine wp_region_held_drew (S:=fun w'=>w'.cell? ⟨w.heap.size,4,none⟩=some (Value.slice (some ⟨g,o,none⟩) kids.length cp)∧w'.cell? ⟨w.heap.size+1,4,none⟩=some (Value.slice (some ⟨g',o',none⟩) kids.length cp')∧w'.rangeAt g (o+k*5) [u0,u1,u2,u3,u4]∧w'.rangeAt g' (o'+k*5) [z0,z1,z2,z3,z4]∧Below wr.heap.size wr w') Dk ⟨q1,q2,hrg.out,hrg'.out,(Below.refl _ _).drew⟩ (fun hHeld=>?_);have hV:=Dh (hV.out.below (Below.refl wr.heap.size wr).drew);have hV':=Dh (hV'.out.below (Below.refl wr.heap.size wr).drew);have hzw:=Dh (show wr.heap.size=wr.drew.heap.size from rfl);generalize wr.drew=W0 at *;refine Ua 0 41 (v:=.pointer (some ⟨w.heap.size,4,none⟩)) rfl rfl Dk Dk Dk (fun _ _ _ h=>h) Dk Da ?_ ?_
    ·(intro w hSw;(try dsimp only at hSw);obtain⟨hS1,hS2,-,-,-⟩:=hSw;go_simp;try first|with_reducible rfl|rfl)
    try simp only[Act.put,List.setIfInBounds_toArray,List.set_cons_zero,List.set_cons_succ]
    refine Ua 1 42 (v:=.slice (some ⟨g,o,none⟩) kids.length cp) rfl rfl Dk Dk Dk (fun _ _ _ h=>h) Dk Da ?_ ?_
    ·(intro w hSw;(try dsimp only at hSw);obtain⟨hS1,hS2,-,-,-⟩:=hSw;go_simp;try first|with_reducible rfl|rfl)
    try simp only[Act.put,List.setIfInBounds_toArray,List.set_cons_zero,List.set_cons_succ]
    refine Ua 2 43 (v:=.int .i64 (k:Int)) rfl rfl Dk Dk Dk (fun _ _ _ h=>h) Dk Da ?_ ?_
    ·(intro w hSw;(try dsimp only at hSw);obtain⟨hS1,hS2,-,-,-⟩:=hSw;go_simp;try first|with_reducible rfl|rfl)
    try simp only[Act.put,List.setIfInBounds_toArray,List.set_cons_zero,List.set_cons_succ]
    refine Ua 3 44 (v:=.pointer (some ⟨g,o+k*5,none⟩)) rfl rfl Dk Dk Dk (fun _ _ _ h=>h) Dk Da ?_ ?_
    ·(intro w hSw;(try dsimp only at hSw);obtain⟨hS1,hS2,-,-,-⟩:=hSw;go_simp;try first|with_reducible rfl|rfl)
    try simp only[Act.put,List.setIfInBounds_toArray,List.set_cons_zero,List.set_cons_succ]
    refine Qo9 4 45 rfl rfl Dk Dk Dk (fun _ _ _ _ h=>h) Dk Da 26 _ rfl g (o+k*5) rfl [u0,u1,u2,u3,u4] _ (fun w hSw=>hSw.2.2.1) Tryz.underlying26 rfl (Xk _ rfl) ?_;try simp only[Act.put,List.setIfInBounds_toArray,List.set_cons_zero,List.set_cons_succ]
    refine Ua 5 46 (v:=.pointer (some ⟨w.heap.size+1,4,none⟩)) rfl rfl Dk Dk Dk (fun _ _ _ h=>h) Dk Da ?_ ?_
    ·(intro w hSw;(try dsimp only at hSw);obtain⟨hS1,hS2,-,-,-⟩:=hSw;go_simp;try first|with_reducible rfl|rfl)
    try simp only[Act.put,List.setIfInBounds_toArray,List.set_cons_zero,List.set_cons_succ]
    refine Ua 6 47 (v:=.slice (some ⟨g',o',none⟩) kids.length cp') rfl rfl Dk Dk Dk (fun _ _ _ h=>h) Dk Da ?_ ?_
    ·(intro w hSw;(try dsimp only at hSw);obtain⟨hS1,hS2,-,-,-⟩:=hSw;go_simp;try first|with_reducible rfl|rfl)
    try simp only[Act.put,List.setIfInBounds_toArray,List.set_cons_zero,List.set_cons_succ]
    refine Ua 7 48 (v:=.int .i64 (k:Int)) rfl rfl Dk Dk Dk (fun _ _ _ h=>h) Dk Da ?_ ?_
    ·(intro w hSw;(try dsimp only at hSw);obtain⟨hS1,hS2,-,-,-⟩:=hSw;go_simp;try first|with_reducible rfl|rfl)
    try simp only[Act.put,List.setIfInBounds_toArray,List.set_cons_zero,List.set_cons_succ]
    refine Ua 8 49 (v:=.pointer (some ⟨g',o'+k*5,none⟩)) rfl rfl Dk Dk Dk (fun _ _ _ h=>h) Dk Da ?_ ?_
    ·(intro w hSw;(try dsimp only at hSw);obtain⟨hS1,hS2,-,-,-⟩:=hSw;go_simp;try first|with_reducible rfl|rfl)
    try simp only[Act.put,List.setIfInBounds_toArray,List.set_cons_zero,List.set_cons_succ]
    refine Qo9 9 50 rfl rfl Dk Dk Dk (fun _ _ _ _ h=>h) Dk Da 26 _ rfl g' (o'+k*5) rfl [z0,z1,z2,z3,z4] _ (fun w hSw=>hSw.2.2.2.1) Tryz.underlying26 rfl (Xk _ rfl) ?_;try simp only[Act.put,List.setIfInBounds_toArray,List.set_cons_zero,List.set_cons_succ]
    refine Qpa 10 51 rfl rfl Dk Dk (fun K hK=>?_);go_simp;refine(IH.out kid kid' S W0 (.agg #[u0,u1,u2,u3,u4]) (.agg #[z0,z1,z2,z3,z4]) (by have:=HN.out;have:=hts.out;have:=hle.out;omega) (by have:=HB.out;omega) hV.out hV'.out).mono ?_;rintro e W2 ⟨rfl,hB2⟩;dsimp only;obtain⟨g1,g2,g3,g4,g5⟩:=hHeld;have hk2:∀ b o v,W0.cell? ⟨b,o,none⟩=some v→W2.cell? ⟨b,o,none⟩=some v:=fun b o v hv=>bc hB2 hv
    have g1':=hk2 _ _ _ g1;have g2':=hk2 _ _ _ g2;refine hK.out _ _ ?hS (fun hHeld=>?_);case hS=>exact⟨g1',g2',J8 g3 hB2,J8 g4 hB2,g5.trans (hB2.mono g5.size)⟩
    clear hK K;try simp only[Act.put,List.setIfInBounds_toArray,List.set_cons_zero,List.set_cons_succ]
    refine Ua 11 52 (v:=.bool (!Qct kid kid')) rfl rfl Dk Dk Dk (fun _ _ _ h=>h) Dk Da ?_ ?_
    ·(intro w hSw;go_simp;try first|with_reducible rfl|rfl)
    try simp only[Act.put,List.setIfInBounds_toArray,List.set_cons_zero,List.set_cons_succ]
    have hBx:=Dh (hBw.out.trans ((g5.trans (hB2.mono g5.size)).mono hBw.out.size));have hBy:=Dh (g5.trans (hB2.mono g5.size));clear g1 g2 g3 g4 g5 g1' g2' hk2 hHeld hB2 hV hV' hrg hrg' q1 q2;refine⟨by kernel_rfl,?_⟩;cases hs:Qct kid kid' with
    |true=>
     have hs:=Dh hs;go_wp2
     have hlen:=Yo kids;have hN:=HN.out;have hB:=HB.out;rw[w64 (k+1:Int) Dw Dw];refine⟨⟨k+1,by omega,by push_cast;rfl,hBx.out,Dh fun j t u hj h1 h2=>?_,Dh (hb1.out.after hBy.out),Dh (hb2.out.after hBy.out)⟩,by simp[intOf];omega⟩;rcases Nat.lt_or_ge j k with h3|h3
     ·exact hall.out j t u h3 h1 h2
     ·obtain rfl:j=k:=by omega
      rw[hkid.out] at h1;rw[hkid'.out] at h2;cases h1;cases h2;exact hs.out
    |false=>
     have hs:=Dh hs;go_wp2
     (try simp only[Exit.inBlock,Exit.then]);refine bodyPost_ret (by(simp[results,Tryz.results11,go_sem,hq1];try rfl)) rfl ?_
     refine⟨?_,hBx.out⟩;rw[show J7 kids kids'=false from Bool.eq_false_iff.2 fun h=>by have:=Qf2 hkid.out hkid'.out h;rw[hs.out] at this;cases this]
   ·obtain rfl:k=kids.length:=by omega
    have hq1:¬ (kids.length:Int)<(kids.length:Int):=by omega
    go_wp2
    (try simp only[Exit.inBlock,Exit.then]);refine bodyPost_ret (by(simp[results,Tryz.results11,go_sem,hq1];try rfl)) rfl ?_
    refine⟨?_,hBw⟩;rw[Qf1 HLE.out fun i t u h1 h2=>hall.out i t u (List.getElem?_eq_some_iff.1 h1).1 h1 h2]
end Prs
end
section
open Go.RowKit
namespace Prs
theorem Qiw {H:Type}{enc:TypeId×Value→H}{P:Program}{w:World}{base:Nat}{sp:Nat→Bool}{held:Bool}{fuel:Nat}{t:TypeId}{ms:Array (String×TypeId)}{cs:List Value}{x:DataW H×List MemPlace}
  (ht:P.underlying t=some (.interface ms)) (h:DataW.trod enc P w base sp held fuel t cs=some x):∃ ev,cs=[ev]∧(ev=.nilIface∨∃ te pe,ev=.iface te pe):=by
 cases fuel with
 |zero=>simp[DataW.trod] at h
 |succ n=>
  unfold DataW.trod at h;rw[ht] at h;rcases cs with _|⟨c,_|⟨d,r⟩⟩
  ·simp at h
  ·cases c <;> first|exact⟨_,rfl,.inl rfl⟩|exact⟨_,rfl,.inr ⟨_,_,rfl⟩⟩|(simp at h)
  ·simp at h
theorem Qfi {H:Type}{enc:TypeId×Value→H}{P:Program}{w:World}{base:Nat}{sp:Nat→Bool}{held:Bool}{fuel:Nat}{t e:TypeId}{n:Nat}{cs:List Value}{zs:List (List UInt8)}{p:List MemPlace}
  (ht:P.underlying t=some (.array n e)) (he:P.underlying e=some .string) (hce:P.cellsOf e=1) (hct:P.cellsOf t=n)
  (h:DataW.trod enc P w base sp held fuel t cs=some (.agg (zs.map fun z => .lit (.string z)),p)):cs=zs.map fun z=>Value.string ⟨z.toArray⟩:=by
 obtain⟨xs,m,rfl,hx,hl,hxl,hall⟩:=DataW.trod_array ht h;have hxs:xs.map (·.1)=zs.map fun z=>(DataW.lit (.string z):DataW H):=by
  have:=congrArg Prod.fst hx;simpa using this.symm
 have hzl:zs.length=n:=by
  have:=congrArg List.length hxs;simp at this;omega
 apply List.ext_getElem?
 intro i;by_cases hi:i<n
 ·have h1:=hall i hi;rw[hce] at h1;obtain⟨b,hb⟩:∃ b,xs[i]? = some b:=⟨xs[i]'Dw,List.getElem?_eq_getElem Dw⟩;rw[hb] at h1;obtain⟨s,hcz,rfl,_⟩:=DataW.trod_string he h1;have h2:cs[i]? = some (.string s):=by
   have:=congrArg (·[0]?) hcz;simpa [List.getElem?_take,List.getElem?_drop] using this
  have h3:(xs.map (·.1))[i]? = some (DataW.lit (.string s.data.toList):DataW H):=by simp[hb]
  rw[hxs] at h3;simp only[List.getElem?_map,Option.map_eq_some_iff,DataW.lit.injEq,Lit.string.injEq] at h3;obtain⟨z',hz',e'⟩:=h3;rw[h2];simp only[List.getElem?_map,hz',Option.map_some,e']
 ·rw[List.getElem?_eq_none Dw,List.getElem?_eq_none (by simp;omega)]
theorem u8extra:U8Extra Tryz.prog Tryz.Qbx:=by
 constructor <;> kernel_rfl
theorem Qee {H:Type}{enc:TypeId×Value→H}{P:Program}{w:World}{base:Nat}{sp:Nat→Bool}{held:Bool}{fuel:Nat}{t e:TypeId}{cs:List Value}{zs:List (List UInt8)}{r:List (DataW H)}{p:List MemPlace}
  (ht:P.underlying t=some (.slice e)) (he:P.underlying e=some .string) (hce:P.cellsOf e=1) (hz:0<zs.length)
  (h:DataW.trod enc P w base sp held fuel t cs=some (.slice (zs.map fun z => .lit (.string z)) r,p)):
  ∃ b o c,cs=[.slice (some ⟨b,o,none⟩) zs.length c]∧zs.length≤c∧c≤maxLen∧∀ (j:Nat) (x:List UInt8),zs[j]? = some x→w.cell? ⟨b,o+j,none⟩=some (strV x):=by
 rcases DataW.trod_slice ht h with ⟨-,h1⟩|⟨a,len,cap,elems,rest,n,rfl,rfl,hx,hb,hlc,hcm,hel,hat,-,-⟩
 ·cases h1
 ·have hes:elems.map (·.1)=zs.map fun z=>(DataW.lit (.string z):DataW H):=by
   have:=congrArg Prod.fst hx;simp only[DataW.slice.injEq] at this;exact this.1.symm
  have hzl:zs.length=len:=by
   have:=congrArg List.length hes;simp at this;omega
  have key:∀ (i:Nat) (x:List UInt8),zs[i]? = some x→w.cell? (a.add i)=some (strV x):=fun i x hi=>by
   have hlt:i<len:=by
    have:=(List.getElem?_eq_some_iff.1 hi).1;omega
   have h1:=hat i hlt;rw[hce,Nat.mul_one] at h1;obtain⟨el,hel'⟩:∃ el,elems[i]? = some el:=⟨elems[i]'Dw,List.getElem?_eq_getElem Dw⟩;rw[hel'] at h1;obtain⟨cs',hc1,hc2⟩:=Option.bind_eq_some_iff.1 h1;obtain⟨s,rfl,rfl,-⟩:=DataW.trod_string he hc2;have h3:(elems.map (·.1))[i]? = some (DataW.lit (.string s.data.toList):DataW H):=by simp[hel']
   rw[hes] at h3;simp only[List.getElem?_map,hi,Option.map_some,Option.some.injEq,DataW.lit.injEq,Lit.string.injEq] at h3;rw[ChangeShapes.cell_of_cells?_one hc1];unfold strV;rw[h3]
  have hsp:a.spot=none:=by
   have h0:=key 0 zs[0] (List.getElem?_eq_getElem hz);rw[show a.add 0=a from rfl] at h0;unfold World.cell? at h0;split at h0
   ·split at h0
    ·cases h0
    ·rename_i hs;cases hsp:a.spot with
     |none=>rfl
     |some _=>rw[hsp] at hs;exact absurd rfl hs
   ·cases h0
  obtain⟨b,o,sp'⟩:=a;dsimp only at hsp;subst hsp;refine⟨b,o,cap,by rw[hzl],by omega,hcm,fun j x hj=>?_⟩
  have:=key j x hj;unfold Addr.add at this;split at this
  ·rename_i h0;subst h0;exact this
  ·exact this
theorem Qcn {H:Type}{enc:TypeId×Value→H}{P:Program}{w:World}{base:Nat}{sp:Nat→Bool}{held:Bool}{fuel:Nat}{t u e:TypeId}{n:Nat}{cs:List Value}{zss:List (List (List UInt8))}{p:List MemPlace}
  (ht:P.underlying t=some (.array n u)) (hu:P.underlying u=some (.slice e)) (he:P.underlying e=some .string) (hce:P.cellsOf e=1) (hcu:P.cellsOf u=1) (hct:P.cellsOf t=n) (hz:∀ zs∈zss,0<zs.length)
  (h:DataW.trod enc P w base sp held fuel t cs=some (.agg (zss.map fun zs => .slice (zs.map fun z => .lit (.string z)) []),p)):
  cs.length=zss.length∧∀ (i:Nat) (zs:List (List UInt8)),zss[i]? = some zs→∃ b o c:Nat,cs[i]? = some (.slice (some ⟨b,o,none⟩) zs.length c)∧zs.length≤c∧c≤maxLen∧∀ (j:Nat) (x:List UInt8),zs[j]? = some x→w.cell? ⟨b,o+j,none⟩=some (strV x):=by
 obtain⟨xs,m,rfl,hx,hl,hxl,hall⟩:=DataW.trod_array ht h;have hxs:xs.map (·.1)=zss.map fun zs=>(DataW.slice (zs.map fun z => .lit (.string z)) []:DataW H):=by
  have:=congrArg Prod.fst hx;simpa using this.symm
 have hzl:zss.length=n:=by
  have:=congrArg List.length hxs;simp at this;omega
 refine⟨by omega,fun i zs hi=>?_⟩;have hlt:i<n:=by
  have:=(List.getElem?_eq_some_iff.1 hi).1;omega
 have h1:=hall i hlt;rw[hcu] at h1;obtain⟨b,hb⟩:∃ b,xs[i]? = some b:=⟨xs[i]'Dw,List.getElem?_eq_getElem Dw⟩;rw[hb] at h1;have h3:(xs.map (·.1))[i]? = some b.1:=by simp[hb]
 rw[hxs] at h3;simp only[List.getElem?_map,hi,Option.map_some,Option.some.injEq] at h3;obtain⟨b1,b2⟩:=b;dsimp only at h3;subst h3;obtain⟨b,o,c,k1,k2,k3,k4⟩:=Qee hu he hce (hz zs (List.mem_of_getElem? hi)) h1;refine⟨b,o,c,?_,k2,k3,k4⟩
 have:=congrArg (·[0]?) k1;simpa [List.getElem?_take,List.getElem?_drop] using this
theorem ops_row:((((begin Tryz.prog (fun _ _=>0) default).world.heap[1]?).bind Obj.row?).map (·.2))=some 96:=by kernel_rfl
def laidList:List (String×DataW Unit):=[("math/bits.deBruijn32tab", Rows.laid_math_bits_deBruijn32tab),("math/bits.deBruijn64tab", Rows.laid_math_bits_deBruijn64tab),("internal/strconv.uint64pow10", Rows.laid_internal_strconv_uint64pow10),("unicode/utf8.acceptRanges", Rows.laid_unicode_utf8_acceptRanges),("strconv.ErrRange", Rows.laid_strconv_ErrRange),("strconv.ErrSyntax", Rows.laid_strconv_ErrSyntax),("mullion/scan.signs", Rows.laid_mullion_scan_signs),("mullion/tree.Ops", Rows.laid_mullion_tree_Ops),("unicode/utf8.first", Rows.laid_unicode_utf8_first)]
theorem Qnc {W:World}(hsh:W.ShapedOpen Tryz.prog){g:Nat}{t:TypeId}{n:String}{cs:Array Value}(hrow:((((begin Tryz.prog (fun _ _=>0) default).world.heap[g]?).bind Obj.row?).map (·.2))=some t)(hg:(Tryz.prog).globalNamed n=some g)(hgl:g<(Tryz.prog).globals.size)(hvar:W.var? Tryz.prog n=some cs):
  W.heap[g]? = some (.cells cs t):=by
 unfold World.var? at hvar;rw[hg] at hvar;simp only[Option.bind_some] at hvar;split at hvar
 ·rename_i cs' t' fr' hh;cases hvar;cases hr:((begin Tryz.prog (fun _ _=>0) default).world.heap[g]?).bind Obj.row? with
  |none=>rw[hr] at hrow;cases hrow
  |some zt=>
   obtain⟨zero,t0⟩:=zt;have ht0:t0=t:=by
    rw[hr] at hrow;exact Option.some.inj hrow
   obtain⟨cs2,h1,-,-⟩:=hsh.1 g zero t0 hgl hr;rw[h1] at hh ⊢;simp only[Option.some.injEq,Obj.cells.injEq] at hh;obtain⟨e1,-,-⟩:=hh;rw[e1,ht0]
 ·cases hvar
theorem most_of:∀ w:World,w.ShapedOpen Tryz.prog→∃ m,w.cell? ⟨4,0,none⟩=some (.int .i64 m):=fun w h=>Go.Proofs.cell_of_shapedOpen_int (zero := #[.int .i64 0]) (t:=3) h (of_decide_eq_true Dk) Dk rfl Dk Dk Tryz.underlying3
theorem scan_of {W:World}(h:laidMet Tryz.prog laidList W)(hsh:W.ShapedOpen Tryz.prog):Laid W:=by
 have hr:∀ n d,(n,d)∈laidList→Lib.VarReads Tryz.prog W n d:=fun n d hm=>Lib.laidMet.reads h hm
 refine⟨?_,?_,?_,?_,?_⟩
 ·obtain⟨g,t,cs,fuel,p,hg,hty,hvar,hd⟩:=hr "math/bits.deBruijn64tab" _ (by unfold laidList;repeat (first|exact List.Mem.head _|apply List.Mem.tail))
  have hg':(Tryz.prog).globalNamed "math/bits.deBruijn64tab" = some 9:=by kernel_rfl
  obtain rfl:=Option.some.inj (hg'.symm.trans hg);unfold World.var? at hvar;rw[hg'] at hvar;rcases Nat.lt_or_ge 9 W.heap.size with h'|h'
  ·exact h'
  ·simp[Array.getElem?_eq_none h'] at hvar
 ·have e1:Rows.laid_unicode_utf8_first=Lib.firstData:=by kernel_rfl
  have e2:Rows.laid_unicode_utf8_acceptRanges=Lib.acceptData:=by kernel_rfl
  have r1:=hr "unicode/utf8.first" Rows.laid_unicode_utf8_first (by unfold laidList;repeat (first|exact List.Mem.head _|apply List.Mem.tail))
  have r2:=hr "unicode/utf8.acceptRanges" Rows.laid_unicode_utf8_acceptRanges (by unfold laidList;repeat (first|exact List.Mem.head _|apply List.Mem.tail))
  rw[e1] at r1;rw[e2] at r2;exact utf8Tabs_of_reads Tryz.lays260 u8extra r1 r2
 ·exact most_of W hsh
 ·obtain⟨g,t,cs,fuel,p,hg,hty,hvar,hd⟩:=hr "strconv.ErrRange" _ (by unfold laidList;repeat (first|exact List.Mem.head _|apply List.Mem.tail))
  have hg':(Tryz.prog).globalNamed "strconv.ErrRange" = some 6:=by kernel_rfl
  have ht':((Tryz.prog).globals[6]?).map (·.type)=some 102:=by kernel_rfl
  obtain rfl:=Option.some.inj (hg'.symm.trans hg);obtain rfl:=Option.some.inj (ht'.symm.trans hty);obtain⟨ev,hcs,hev⟩:=Qiw Tryz.underlying102 hd;refine⟨ev,?_,hev⟩;have h1:=World.var?_cell hg hvar 0;rw[h1,←Array.getElem?_toList,hcs];rfl
 ·obtain⟨g,t,cs,fuel,p,hg,hty,hvar,hd⟩:=hr "mullion/scan.signs" _ (by unfold laidList;repeat (first|exact List.Mem.head _|apply List.Mem.tail))
  have hg':(Tryz.prog).globalNamed "mullion/scan.signs" = some 0:=by kernel_rfl
  have ht':((Tryz.prog).globals[0]?).map (·.type)=some 95:=by kernel_rfl
  obtain rfl:=Option.some.inj (hg'.symm.trans hg);obtain rfl:=Option.some.inj (ht'.symm.trans hty);have hcs:=Qfi (zs:=Z8) Tryz.underlying95 Tryz.underlying9 Dk Dk hd;unfold World.var? at hvar;rw[hg'] at hvar;simp only[Option.bind_some] at hvar;split at hvar
  ·rename_i cs' t' fr' hh;cases hvar;refine⟨t',fr',?_⟩;rw[hh];have:cs=Qh3:=by
    apply Array.toList_inj.1;rw[hcs];rfl
   rw[this]
  ·cases hvar
theorem ops_of {W:World}(h:laidMet Tryz.prog laidList W)(hsh:W.ShapedOpen Tryz.prog):∃ f,Ops W f:=by
 have hr:∀ n d,(n,d)∈laidList→Lib.VarReads Tryz.prog W n d:=fun n d hm=>Lib.laidMet.reads h hm
 have hsize:10≤W.heap.size:=by
  obtain⟨g,t,cs,fuel,p,hg,hty,hvar,hd⟩:=hr "math/bits.deBruijn64tab" _ (by unfold laidList;repeat (first|exact List.Mem.head _|apply List.Mem.tail))
  have hg':(Tryz.prog).globalNamed "math/bits.deBruijn64tab" = some 9:=by kernel_rfl
  obtain rfl:=Option.some.inj (hg'.symm.trans hg);unfold World.var? at hvar;rw[hg'] at hvar;rcases Nat.lt_or_ge 9 W.heap.size with h'|h'
  ·exact h'
  ·simp[Array.getElem?_eq_none h'] at hvar
 obtain⟨g,t,cs,fuel,p,hg,hty,hvar,hd⟩:=hr "mullion/tree.Ops" _ (by unfold laidList;repeat (first|exact List.Mem.head _|apply List.Mem.tail))
 have hg':(Tryz.prog).globalNamed "mullion/tree.Ops" = some 1:=by kernel_rfl
 have ht':((Tryz.prog).globals[1]?).map (·.type)=some 96:=by kernel_rfl
 obtain rfl:=Option.some.inj (hg'.symm.trans hg);obtain rfl:=Option.some.inj (ht'.symm.trans hty);obtain⟨hlen,key⟩:=Qcn (zss:=opsP) Tryz.underlying96 Tryz.underlying33 Tryz.underlying9 Dk Dk Dk Dd hd;obtain⟨b0,o0,c0,x0,y0,z0,q0⟩:=key 0 _ rfl;obtain⟨b1,o1,c1,x1,y1,z1,q1⟩:=key 1 _ rfl;obtain⟨b2,o2,c2,x2,y2,z2,q2⟩:=key 2 _ rfl;obtain⟨b3,o3,c3,x3,y3,z3,q3⟩:=key 3 _ rfl;obtain⟨b4,o4,c4,x4,y4,z4,q4⟩:=key 4 _ rfl;let f:Where:=fun i=>match i with
  |0=>(b0,o0,c0)
  |1=>(b1,o1,c1)
  |2=>(b2,o2,c2)
  |3=>(b3,o3,c3)
  |_=>(b4,o4,c4)
 have hcs:cs.toList=opsAt f:=by
  have hl5:cs.toList.length=5:=hlen;match hm:cs.toList,hl5 with
  | [v0,v1,v2,v3,v4],_=>
   rw[hm] at x0 x1 x2 x3 x4;cases x0;cases x1;cases x2;cases x3;cases x4;rfl
 refine⟨f,hsize,?_,fun i hi=>?_,fun i z hz j x hx=>?_⟩
 ·rw[Qnc hsh ops_row hg' (by decide +kernel) hvar];congr 2
  apply Array.toList_inj.1;rw[hcs]
 ·rcases (by omega:i=0∨i=1∨i=2∨i=3∨i=4) with rfl|rfl|rfl|rfl|rfl
  ·exact⟨y0,z0⟩
  ·exact⟨y1,z1⟩
  ·exact⟨y2,z2⟩
  ·exact⟨y3,z3⟩
  ·exact⟨y4,z4⟩
 ·have hi:i<5:=(List.getElem?_eq_some_iff.1 hz).1;rcases (by omega:i=0∨i=1∨i=2∨i=3∨i=4) with rfl|rfl|rfl|rfl|rfl
  ·cases hz;exact q0 j x hx
  ·cases hz;exact q1 j x hx
  ·cases hz;exact q2 j x hx
  ·cases hz;exact q3 j x hx
  ·cases hz;exact q4 j x hx
theorem laid_of {W:World}(h:laidMet Tryz.prog laidList W)(hsh:W.ShapedOpen Tryz.prog):∃ f,P6 W f:=by
 obtain⟨f,hf⟩:=ops_of h hsh;exact⟨f,scan_of h hsh,hf⟩
end Prs
def laidList:List (String×DataW Unit):=Prs.laidList
theorem laid_of {W:World}(h:laidMet Tryz.prog laidList W)(hsh:W.ShapedOpen Tryz.prog):∃ f,Prs.P6 W f:=Prs.laid_of h hsh
end
end Go.Proofs.YtcbkeecabcbogaaGreatDoor
