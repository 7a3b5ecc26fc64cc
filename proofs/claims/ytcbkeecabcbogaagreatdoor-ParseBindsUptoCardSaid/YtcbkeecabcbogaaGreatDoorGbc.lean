/- Scripts: operators of one. (Printed by gen_un.py.) Contract of program. (Printed by gen_prog.py.) Scripts: a function that changes a number too: what the evaluator begins and ends with. -/
import Derived.Test.YtcbkeecabcbogaaGreatDoorGbb
import Derived.LoopN
namespace Go.Proofs.YtcbkeecabcbogaaGreatDoor
open Go.RowKit
set_option linter.unusedSimpArgs false
set_option linter.unusedVariables false
namespace Prs
open Ev
def specU (b q r:Nat):TSpec where
 n:=79
 rowSlot:=6
 resSlot:=2
 q:=q
 r:=r
 direct:=[(0,.pointer (some ⟨64,0,none⟩),rp b)]
theorem fixU {b q r:Nat}{N:SEnv}{w1:World}(h1:b<q)(h2:b<r)(h3:q≠r)(h4:b<w1.heap.size):TFix (specU b q r) b N w1 where
 bq:=h1
 br:=h2
 qr:=h3
 bw:=h4
 dir:=fun x hx p hax=>by
  obtain rfl:=List.mem_singleton.1 hx
  exact vr_rd hax
 dirU:=fun x hx p u hax hv=>by
  obtain rfl:=List.mem_singleton.1 hx
  exact vr_rdU hax hv
 dirN:=fun x hx=>by
  obtain rfl:=List.mem_singleton.1 hx
  simp
noncomputable def sufBody:Code:=inLoop0 (seqR (seqR (seqR (seqR (seqR (bodyCode 64))))))
set_option maxRecDepth 20000 in
theorem suf_loop {b q r F0:Nat}{E:Env}{hd:Bool}{w1:World}(h1:b<q)(h2:b<r)(h3:q≠r)(h4:b<w1.heap.size)(hF:F0≤4294967296)(hx:∀ g,g<F0→Reads b E false 22 #[rp b] (exprP E.len g 1 false))(ha:∀ g,g<F0→Reads b E false 97 #[rp b] (argP E.len g)){Q:Exit→Act→World→Prop}{res:Except Nat (Tr×List Tok)}
  (hQ:match res with
   | .ok (t,l')=>∀ w' a',TEnd (specU b q r) b E hd w1 t l' w' a'→Q .ret a' w'
   | .error p=>∀ w' a',KeepQ2 b q r w1 w'→a'.defers=[]→Q (.panic [{ v:=faultV p,recovered:=false }]) a' w'):
  ∀ (f:Nat) (x:Tr) (l:List Tok) (w:World) (a:Act),f≤F0→sufLoop E.len f hd x l=some res→TInv (specU b q r) b E hd w1 x l w a→LoopWp Tryz.prog sufBody Q a w:=by
 intro f
 induction f with
 |zero=>intro x l w a _ h;rw[sufLoop] at h;cases h
 |succ f ih=>
  intro x l w a hf h I
  rw[sufLoop] at h
  obtain⟨xk,xx,xn,xp,xc⟩:=x
  refine loop_next ?_
  cases k1:isP wOpen l with
  |true=>
   rw[k1,if_pos rfl] at h
   cases k2:manyP E.len wShut false (exprP E.len f 1 false) f l.tail with
   |none=>rw[k2] at h;cases h
   |some y=>
    rw[k2] at h
    cases y with
    |error pl=>
     cases h
     have D:ToldT (specU b q r) b E (mkNS E.len hd (SX (specU b q r) w1) [l,l.tail] [.mk xk xx xn xp xc] [] [(pl:Int)]) hd w1 w [evAt 0 (tk 321),evTake wOpen 0 1 (tk 321),evBad 71 [str wShut,.bool false,(.func (.func 22) #[.pointer (some ⟨64,0,none⟩)] #[])] 1 2 (tk 321)] ⟨[],[],[],[322]⟩ []:=
      ⟨rfl,rfl,rfl,rfl,consC (at_s rfl (by decide) _) (consC (take_s k1 rfl _) (consC (badL_s (many_any (hx f (by omega)) (by omega)) (.inr rfl) rfl ys_many k2 (by decide) rfl) (nilC))),(fun _ hx=>(by cases hx)),noApp,noPut,eqN,(posC ⟨pl,rfl⟩ noPos),fixU h1 h2 h3 h4⟩
     exact D.round rfl rfl I (fin := .pan (tk 322)) (by kernel_rfl) hQ
    |ok y=>
     obtain⟨ts,k⟩:=y
     dsimp only [andThen] at h
     cases ts with
     |nil=>
      have D:ToldT (specU b q r) b E (mkNS E.len hd (SX (specU b q r) w1) [l,l.tail,k] [.mk xk xx xn xp xc] [[]] []) hd w1 w [evAt 0 (tk 321),evTake wOpen 0 1 (tk 321),evList 71 [str wShut,.bool false,(.func (.func 22) #[.pointer (some ⟨64,0,none⟩)] #[])] 1 2 0 (tk 321),evCons 0 none] ⟨[],[],[],[]⟩ []:=
       ⟨rfl,rfl,rfl,rfl,consC (at_s rfl (by decide) _) (consC (take_s k1 rfl _) (consC (list_s (many_any (hx f (by omega)) (by omega)) (.inr rfl) rfl ys_many k2) (consC (cons_n rfl) (nilC)))),(fun _ hx=>(by cases hx)),noApp,noPut,eqN,noPos,fixU h1 h2 h3 h4⟩
      exact D.round rfl rfl I (fin := .again 2 (.nd (.int .i64 34) (.string ⟨#[]⟩) (.int .u64 0) (tk 128) [.ab (tk 256) (tk 257) (tk 258) (tk 259) 1])) (by kernel_rfl) fun w' a' I'=>ih _ k w' a' (by omega) h I'
     |cons t1 ts=>
      have D:ToldT (specU b q r) b E (mkNS E.len hd (SX (specU b q r) w1) [l,l.tail,k] [.mk xk xx xn xp xc] [t1 :: ts,.mk xk xx xn xp xc :: t1 :: ts] []) hd w1 w [evAt 0 (tk 321),evTake wOpen 0 1 (tk 321),evList 71 [str wShut,.bool false,(.func (.func 22) #[.pointer (some ⟨64,0,none⟩)] #[])] 1 2 0 (tk 321),evCons 0 (some (.ab (tk 256) (tk 257) (tk 258) (tk 259) 1,1))] ⟨[],[],[],[]⟩ []:=
       ⟨rfl,rfl,rfl,rfl,consC (at_s rfl (by decide) _) (consC (take_s k1 rfl _) (consC (list_s (many_any (hx f (by omega)) (by omega)) (.inr rfl) rfl ys_many k2) (consC (cons_s (List.cons_ne_nil _ _) rfl (many_len k2 (by omega))) (nilC)))),(fun _ hx=>(by cases hx)),noApp,noPut,eqN,noPos,fixU h1 h2 h3 h4⟩
      exact D.round rfl rfl I (fin := .again 2 (.ab (.int .i64 34) (.string ⟨#[]⟩) (.int .u64 0) (tk 128) 10)) (by kernel_rfl) fun w' a' I'=>ih _ k w' a' (by omega) h I'
  |false=>
   rw[k1,if_neg (by decide)] at h
   cases k3:isP wDot l with
   |true=>
    rw[k3,if_pos rfl] at h
    unfold nameP at h
    cases k4:kindP l.tail==1 with
    |false=>
     rw[k4,if_neg (by decide)] at h
     cases h
     have D:ToldT (specU b q r) b E (mkNS E.len hd (SX (specU b q r) w1) [l,l.tail] [.mk xk xx xn xp xc] [] []) hd w1 w [evAt 0 (tk 321),evMiss wOpen 0 (tk 321),evTake wDot 0 1 (tk 321),evNone 1 (tk 321)] ⟨[],[],[],[]⟩ []:=
      ⟨rfl,rfl,rfl,rfl,consC (at_s rfl (by decide) _) (consC (miss_s k1 _) (consC (take_s k3 rfl _) (consC (none_s rfl (by decide) k4 _) (nilC)))),(fun _ hx=>(by cases hx)),noApp,noPut,eqN,noPos,fixU h1 h2 h3 h4⟩
     exact D.round rfl rfl I (fin := .pan (tk 136)) (by kernel_rfl) hQ
    |true=>
     rw[k4,if_pos rfl] at h
     dsimp only [andThen,ok] at h
     rw[textP_head] at h
     have D:ToldT (specU b q r) b E (mkNS E.len hd (SX (specU b q r) w1) [l,l.tail,l.tail.tail] [.mk xk xx xn xp xc] [] []) hd w1 w [evAt 0 (tk 321),evMiss wOpen 0 (tk 321),evTake wDot 0 1 (tk 321),evName 1 2 (tk 321)] ⟨[],[],[],[]⟩ []:=
      ⟨rfl,rfl,rfl,rfl,consC (at_s rfl (by decide) _) (consC (miss_s k1 _) (consC (take_s k3 rfl _) (consC (name_s (by decide) k4 rfl _) (nilC)))),(fun _ hx=>(by cases hx)),noApp,noPut,eqN,noPos,fixU h1 h2 h3 h4⟩
     exact D.round rfl rfl I (fin := .again 2 (.nd (.int .i64 35) (tk 138) (.int .u64 0) (tk 128) [.ab (tk 256) (tk 257) (tk 258) (tk 259) 1])) (by kernel_rfl) fun w' a' I'=>ih _ l.tail.tail w' a' (by omega) h I'
   |false=>
    rw[k3,if_neg (by decide)] at h
    cases k5:isP wSq l with
    |true=>
     rw[k5,if_pos rfl] at h
     cases k2:manyP E.len wQs true (argP E.len f) f l.tail with
     |none=>rw[k2] at h;cases h
     |some y=>
      rw[k2] at h
      cases y with
      |error pl=>
       cases h
       have D:ToldT (specU b q r) b E (mkNS E.len hd (SX (specU b q r) w1) [l,l.tail] [.mk xk xx xn xp xc] [] [(pl:Int)]) hd w1 w [evAt 0 (tk 321),evMiss wOpen 0 (tk 321),evMiss wDot 0 (tk 321),evTake wSq 0 1 (tk 321),evBad 71 [str wQs,.bool true,(.func (.func 97) #[.pointer (some ⟨64,0,none⟩)] #[])] 1 2 (tk 321)] ⟨[],[],[],[322]⟩ []:=
        ⟨rfl,rfl,rfl,rfl,consC (at_s rfl (by decide) _) (consC (miss_s k1 _) (consC (miss_s k3 _) (consC (take_s k5 rfl _) (consC (badL_s (many_arg (ha f (by omega)) (by omega)) (.inr rfl) rfl ys_many k2 (by decide) rfl) (nilC))))),(fun _ hx=>(by cases hx)),noApp,noPut,eqN,(posC ⟨pl,rfl⟩ noPos),fixU h1 h2 h3 h4⟩
       exact D.round rfl rfl I (fin := .pan (tk 322)) (by kernel_rfl) hQ
      |ok y=>
       obtain⟨ts,k⟩:=y
       dsimp only [andThen] at h
       cases ts with
       |nil=>
        have D:ToldT (specU b q r) b E (mkNS E.len hd (SX (specU b q r) w1) [l,l.tail,k] [.mk xk xx xn xp xc] [[]] []) hd w1 w [evAt 0 (tk 321),evMiss wOpen 0 (tk 321),evMiss wDot 0 (tk 321),evTake wSq 0 1 (tk 321),evList 71 [str wQs,.bool true,(.func (.func 97) #[.pointer (some ⟨64,0,none⟩)] #[])] 1 2 0 (tk 321),evCons 0 none] ⟨[],[],[],[]⟩ []:=
         ⟨rfl,rfl,rfl,rfl,consC (at_s rfl (by decide) _) (consC (miss_s k1 _) (consC (miss_s k3 _) (consC (take_s k5 rfl _) (consC (list_s (many_arg (ha f (by omega)) (by omega)) (.inr rfl) rfl ys_many k2) (consC (cons_n rfl) (nilC)))))),(fun _ hx=>(by cases hx)),noApp,noPut,eqN,noPos,fixU h1 h2 h3 h4⟩
        exact D.round rfl rfl I (fin := .again 2 (.nd (.int .i64 36) (.string ⟨#[]⟩) (.int .u64 0) (tk 128) [.ab (tk 256) (tk 257) (tk 258) (tk 259) 1])) (by kernel_rfl) fun w' a' I'=>ih _ k w' a' (by omega) h I'
       |cons t1 ts=>
        have D:ToldT (specU b q r) b E (mkNS E.len hd (SX (specU b q r) w1) [l,l.tail,k] [.mk xk xx xn xp xc] [t1 :: ts,.mk xk xx xn xp xc :: t1 :: ts] []) hd w1 w [evAt 0 (tk 321),evMiss wOpen 0 (tk 321),evMiss wDot 0 (tk 321),evTake wSq 0 1 (tk 321),evList 71 [str wQs,.bool true,(.func (.func 97) #[.pointer (some ⟨64,0,none⟩)] #[])] 1 2 0 (tk 321),evCons 0 (some (.ab (tk 256) (tk 257) (tk 258) (tk 259) 1,1))] ⟨[],[],[],[]⟩ []:=
         ⟨rfl,rfl,rfl,rfl,consC (at_s rfl (by decide) _) (consC (miss_s k1 _) (consC (miss_s k3 _) (consC (take_s k5 rfl _) (consC (list_s (many_arg (ha f (by omega)) (by omega)) (.inr rfl) rfl ys_many k2) (consC (cons_s (List.cons_ne_nil _ _) rfl (many_len k2 (by omega))) (nilC)))))),(fun _ hx=>(by cases hx)),noApp,noPut,eqN,noPos,fixU h1 h2 h3 h4⟩
        exact D.round rfl rfl I (fin := .again 2 (.ab (.int .i64 36) (.string ⟨#[]⟩) (.int .u64 0) (tk 128) 10)) (by kernel_rfl) fun w' a' I'=>ih _ k w' a' (by omega) h I'
    |false=>
     rw[k5,if_neg (by decide)] at h
     cases h
     have D:ToldT (specU b q r) b E (mkNS E.len hd (SX (specU b q r) w1) [l] [.mk xk xx xn xp xc] [] []) hd w1 w [evAt 0 (tk 321),evMiss wOpen 0 (tk 321),evMiss wDot 0 (tk 321),evMiss wSq 0 (tk 321)] ⟨[],[],[],[]⟩ []:=
      ⟨rfl,rfl,rfl,rfl,consC (at_s rfl (by decide) _) (consC (miss_s k1 _) (consC (miss_s k3 _) (consC (miss_s k5 _) (nilC)))),(fun _ hx=>(by cases hx)),noApp,noPut,eqN,noPos,fixU h1 h2 h3 h4⟩
     exact D.round rfl rfl I (fin := .ret 0 (.ab (tk 256) (tk 257) (tk 258) (tk 259) 1)) (by kernel_rfl) hQ
theorem TEnd.outW {L:TSpec}{b:Nat}{E:Env}{hd:Bool}{w w':World}{t:Tr}{l:List Tok}{a:Act}{fn:Func}(h:TEnd L b E hd w t l w' a)(hr:L.r=w.heap.size)(hq:w.heap.size<L.q)(hf:fn.results = #[.cell L.resSlot 26]):bodyPost Tryz.prog fn (Out b E hd (NodeV (w.heap.size ≤ ·)) (.ok (t,l)) w) .ret a w':=by
 obtain⟨cs,h1,h2⟩:=h.res
 obtain⟨v0,v1,v2,v3,v4,rfl⟩:=h2.five
 have hk:=h.keep
 exact node_end hf h.ds h.resS h1 ⟨hk.os,hk.tape,hk.output,hk.size,fun k h1 h2=>hk.block k h1 h2 (by omega) (by omega)⟩ ⟨_,rfl,NodeC.weak (fun k hk=>hk.1) h2⟩ h.rd
theorem keep2W {b q:Nat}{w w':World}(hq:w.heap.size<q)(hk:KeepQ2 b q w.heap.size w w'):KeepR b w w':=
 ⟨hk.os,hk.tape,hk.output,hk.size,fun k h1 h2=>hk.block k h1 h2 (by omega) (by omega)⟩
set_option maxRecDepth 20000 in
theorem unary_suf {b f:Nat}{E:Env}{hd:Bool}{l m:List Tok}{w:World}{t:Tr}{r:Except Nat (Tr×List Tok)}(hf:f≤4294967296)(hx:∀ g,g<f→Reads b E false 22 #[rp b] (exprP E.len g 1 false))(ha:∀ g,g<f→Reads b E false 97 #[rp b] (argP E.len g))(ho:Reads b E hd 96 #[rp b] (operandP E.len f hd))
  (h:RdB b E w l hd) (km:isP wMinus l=false) (kh:isP wHat l=false) (kn:isP wNot l=false) (ka:isP wArrow l=false) (k1:operandP E.len f hd l=some (.ok (t,m))) (hr:sufLoop E.len f hd t m=some r):Calls Tryz.prog 64 #[rp b] w (Out b E hd (NodeV (w.heap.size ≤ ·)) r w):=by
 have hb:=h.lt
 have HR:=Lib.hid h
 have HO:=Lib.hid ho
 have HX:=Lib.hid hx
 have HA:=Lib.hid ha
 have HF:=Lib.hid hf
 have HN:=Lib.hid k1
 have HL:=Lib.hid hr
 have HP:=Lib.hid fun w (h:RdB b E w l hd)=>peek_c b E l hd w h
 have T1:=Lib.hid fun w (h:RdB b E w l hd)=>take_c b E l hd w wMinus h
 have T2:=Lib.hid fun w (h:RdB b E w l hd)=>take_c b E l hd w wHat h
 have T3:=Lib.hid fun w (h:RdB b E w l hd)=>take_c b E l hd w wNot h
 have T4:=Lib.hid fun w (h:RdB b E w l hd)=>take_c b E l hd w wArrow h
 rw[km] at T1
 rw[kh] at T2
 rw[kn] at T3
 rw[ka] at T4
 clear h ho hx ha hf k1 hr km kh kn ka
 go_enter Tryz.func64, Tryz.ntmps64
 go_wp2_with (go_at_call 32;refine(HP.out _ (HR.out.new _)).mono ?_;rintro e w2 ⟨rfl,hB0⟩;have hr2:=Lib.hid ((HR.out.new _).keep hB0);have hB:=Lib.hid hB0;clear hB0)
 have hs2:w.heap.size+1≤w2.heap.size:=by have:=hB.out.size;rw[World.size_alloc] at this;exact this
 have hz2:w2.heap[w.heap.size]? = some (.cells zero5 26 (0,0)):=(hB.out.block _ (by rw[World.size_alloc];omega)).trans (new_block w _)
 generalize hW:(w2.alloc (.cells #[.int .i64 (headT l).kind,.string ⟨(headT l).text.toArray⟩,.int .u64 (headT l).num,.int .i64 ((headT l).place:Int)] 46)).alloc (.cells #[.string ⟨#[45]⟩,.string ⟨#[94]⟩,.string ⟨#[33]⟩] 9)=W
 have hwS:W.heap[w2.heap.size+1]? = some (.cells #[.string ⟨#[45]⟩,.string ⟨#[94]⟩,.string ⟨#[33]⟩] 9 (0,0)):=by rw[←hW];exact new_block2 w2 _ _
 have hwR:=Lib.hid (show RdB b E W l hd by rw[←hW];exact(hr2.out.new _).new _)
 have hwK:=Lib.hid (show KeepR b w W by rw[←hW];exact(((KeepR.new _ _).trans (KeepR.of_below hB.out (Nat.le_refl _))).trans (KeepR.new _ _)).trans (KeepR.new _ _))
 have hwZ:=Lib.hid (show W.heap[w.heap.size]? = some (.cells zero5 26 (0,0)) by rw[←hW];exact new_row2 (new_row2 hz2 _) _)
 clear hW hr2 hB hz2
 have hgb:w2.heap.size+1≠b:=by omega
 have hc0:W.cell? ⟨w2.heap.size+1,0,none⟩=some (.string ⟨#[45]⟩):=by unfold World.cell?;rw[hwS];rfl
 have hc1:=Lib.hid (show W.cell? ⟨w2.heap.size+1,1,none⟩=some (.string ⟨#[94]⟩) by unfold World.cell?;rw[hwS];rfl)
 have hc2:=Lib.hid (show W.cell? ⟨w2.heap.size+1,2,none⟩=some (.string ⟨#[33]⟩) by unfold World.cell?;rw[hwS];rfl)
 clear hwS
 generalize w2.heap.size+1=g at *
 generalize w2.heap.size=g0 at *
 clear w2
 unfold wMinus at T1
 unfold wHat at T2
 unfold wNot at T3
 unfold wArrow at T4
 refine wp_loop_rounds 4 ?_
 rw[rounds_succ]
 go_wp2_with (go_at_call 46;refine(T1.out _ hwR.out).mono ?_;rintro e W1 ⟨rfl,hk1,hr1⟩;rw[if_neg (by decide)] at hr1;have hr1:=Lib.hid hr1;have hk1:=Lib.hid hk1)
 have hd1:W1.cell? ⟨g,1,none⟩=some (.string ⟨#[94]⟩):=hk1.out.cell hgb hc1.out
 clear hc0
 rw[rounds_succ]
 go_wp2_with (go_at_call 46;refine(T2.out _ hr1.out).mono ?_;rintro e W2 ⟨rfl,hk2,hr2⟩;rw[if_neg (by decide)] at hr2;have hr2:=Lib.hid hr2;have hk2:=Lib.hid hk2)
 have hd2:W2.cell? ⟨g,2,none⟩=some (.string ⟨#[33]⟩):=(hk1.out.trans hk2.out).cell hgb hc2.out
 clear hd1
 rw[rounds_succ]
 go_wp2_with (go_at_call 46;refine(T3.out _ hr2.out).mono ?_;rintro e W3 ⟨rfl,hk3,hr3⟩;rw[if_neg (by decide)] at hr3;have hr3:=Lib.hid hr3;have hk3:=Lib.hid hk3)
 clear hd2
 rw[rounds_succ]
 go_wp2_with (first|(go_at_call 46;refine(T4.out _ hr3.out).mono ?_;rintro e W4 ⟨rfl,hk4,hr4⟩;rw[if_neg (by decide)] at hr4;have hr4:=Lib.hid hr4;have hk4:=Lib.hid hk4)|(go_at_call 96;refine(HO.out _ _ _ hr4.out HN.out).mono ?_;rintro e W5 ⟨hk5,v,rfl,hv,hr5⟩;obtain⟨v0,v1,v2,v3,v4,rfl,hone⟩:=hv.cells;have hv:=Lib.hid hv;have hone:=Lib.hid hone;have hk5:=Lib.hid hk5;have hr5:=Lib.hid hr5)|((with_reducible refine st_new rfl _ _ rfl rfl (v0:=v0) (v1:=v1) (v2:=v2) (v3:=v3) (v4:=v4) ?hx ?hy hone.out ?_);(case hx=>rfl);(case hy=>rfl);intro W6 hrw hB6;have hr6:=Lib.hid (hr5.out.keep hB6);have hrw:=Lib.hid hrw;have hB6:=Lib.hid hB6))
 have hkW:=(((hwK.out.trans hk1.out).trans hk2.out).trans hk3.out).trans hk4.out
 have hk:=hkW.trans hk5.out
 have hz6:=(KeepR.of_below (b:=b) hB6.out (Nat.le_refl _)).row hb (hk5.out.row hb (hk4.out.row hb (hk3.out.row hb (hk2.out.row hb (hk1.out.row hb hwZ.out)))))
 have hq5:w.heap.size<W5.heap.size:=(Array.getElem?_eq_some_iff.1 (hk5.out.row hb (hk4.out.row hb (hk3.out.row hb (hk2.out.row hb (hk1.out.row hb hwZ.out)))))).1
 have hq4:w.heap.size<W4.heap.size:=(Array.getElem?_eq_some_iff.1 (hk4.out.row hb (hk3.out.row hb (hk2.out.row hb (hk1.out.row hb hwZ.out))))).1
 have hs4:=hkW.size
 have hs5:=hk5.out.size
 refine cast_loop (c':=sufBody) (by kernel_rfl) (suf_loop (q:=W5.heap.size) (r:=w.heap.size) (F0:=f) (w1:=w) (by omega) hb (by omega) hb HF.out HX.out HA.out (res:=r) ?_ f t m _ _ (Nat.le_refl _) HL.out ?_)
 ·cases r with
  |error p=>
   intro w' a' hk' hd'
   obtain⟨tm,ds⟩:=a'
   obtain rfl:ds=[]:=hd'
   exact⟨rfl,keep2W hq5 hk',rfl⟩
  |ok y=>
   obtain⟨t',l'⟩:=y
   intro w' a' hE
   exact hE.outW rfl hq5 (show Tryz.f64.results = #[.cell 2 26] from rfl)
 ·exact {
   rd:=hr6.out
   row:=⟨[v0,v1,v2,v3,v4],hrw.out,NodeC.frame (fun k hk1 hk2=>⟨by omega,by show k≠W5.heap.size;omega,by show k≠w.heap.size;omega⟩) (fun k hk1 hk2=>hB6.out.block k hk2) hv.out.C⟩
   res:=hz6
   keep:=⟨hB6.out.os.trans hk.os,hB6.out.tape.trans hk.tape,hB6.out.output.trans hk.output,Nat.le_trans hk.size hB6.out.size,fun k h1 h2 h3 h4=>(hB6.out.block k (Nat.lt_of_lt_of_le h1 hk.size)).trans (hk.block k h1 h2)⟩
   rowS:=rfl
   resS:=rfl
   dirS:=fun x hx=>by
    obtain rfl:=List.mem_singleton.1 hx
    rfl
   n:=rfl
   ds:=rfl }
set_option maxRecDepth 20000 in
theorem unary_c {b f:Nat}{E:Env}{hd:Bool}(hf:f≤4294967296)(hx:∀ g,g<f→Reads b E false 22 #[rp b] (exprP E.len g 1 false))(ha:∀ g,g<f→Reads b E false 97 #[rp b] (argP E.len g))(hu:Reads b E hd 64 #[rp b] (unaryP E.len f hd))(ho:Reads b E hd 96 #[rp b] (operandP E.len f hd)):Reads b E hd 64 #[rp b] (unaryP E.len (f+1) hd):=by
 intro l w r h hr
 rw[unaryP] at hr
 cases km:isP wMinus l with
 |true=>
  rw[km,if_pos rfl] at hr
  cases k1:unaryP E.len f hd l.tail with
  |none=>rw[k1] at hr;cases hr
  |some y2=>
   rw[k1] at hr
   cases y2 with
   |error pl3=>
    (try dsimp only [andThen,ok,bad] at hr)
    cases hr
    have D:Told b E (mkN E.len hd w.heap.size [l,l.tail] [] [] [(pl3:Int)]) hd w [evPeek 0 (tk 129) (tk 321),evTake wMinus 0 1 (tk 321),evBad 64 [] 1 2 (tk 321)] ⟨[],[],[],[322]⟩ []:=
     ⟨h,rfl,rfl,rfl,rfl,consC (peek_s (by decide) (.inl rfl) _) (consC (take_s km rfl _) (consC (bad_s hu (.inr rfl) rfl ys_nil k1 (by decide) rfl) nilC)),(fun _ hx=>(by cases hx)),noApp,noPut,eqN,(posC ⟨pl3,rfl⟩ noPos)⟩
    exact D.path (.inr rfl) (args:=[]) (args':=[]) (fun _ _ => .nil) (fin := .pan (tk 322)) (by kernel_rfl)
   |ok y2=>
    obtain⟨⟨t4k,t4x,t4n,t4p,t4c⟩,m3⟩:=y2
    (try dsimp only [andThen,ok,bad] at hr)
    rw[placeP_head] at hr
    cases hr
    have D:Told b E (mkN E.len hd w.heap.size [l,l.tail,m3] [.mk t4k t4x t4n t4p t4c] [] []) hd w [evPeek 0 (tk 129) (tk 321),evTake wMinus 0 1 (tk 321),evTree 64 [] 1 2 (tk 256) 0 (tk 321)] ⟨[],[],[],[]⟩ []:=
     ⟨h,rfl,rfl,rfl,rfl,consC (peek_s (by decide) (.inl rfl) _) (consC (take_s km rfl _) (consC (tree_s hu (.inr rfl) rfl ys_nil k1 (.inl rfl) (by decide)) nilC)),(fun _ hx=>(by cases hx)),noApp,noPut,eqN,noPos⟩
    exact D.path (.inr rfl) (args:=[]) (args':=[]) (fun _ _ => .nil) (fin := .tree (.nd (.int .i64 33) (.string ⟨wMinus.toArray⟩) (.int .u64 0) (tk 132) [.ab (tk 256) (tk 257) (tk 258) (tk 259) 1]) 2) (by kernel_rfl)
 |false=>
  rw[km,if_neg (by decide)] at hr
  cases kh:isP wHat l with
  |true=>
   rw[kh,if_pos rfl] at hr
   cases k1:unaryP E.len f hd l.tail with
   |none=>rw[k1] at hr;cases hr
   |some y2=>
    rw[k1] at hr
    cases y2 with
    |error pl3=>
     (try dsimp only [andThen,ok,bad] at hr)
     cases hr
     have D:Told b E (mkN E.len hd w.heap.size [l,l.tail] [] [] [(pl3:Int)]) hd w [evPeek 0 (tk 129) (tk 321),evMiss wMinus 0 (tk 321),evTake wHat 0 1 (tk 321),evBad 64 [] 1 2 (tk 321)] ⟨[],[],[],[322]⟩ []:=
      ⟨h,rfl,rfl,rfl,rfl,consC (peek_s (by decide) (.inl rfl) _) (consC (miss_s km _) (consC (take_s kh rfl _) (consC (bad_s hu (.inr rfl) rfl ys_nil k1 (by decide) rfl) nilC))),(fun _ hx=>(by cases hx)),noApp,noPut,eqN,(posC ⟨pl3,rfl⟩ noPos)⟩
     exact D.path (.inr rfl) (args:=[]) (args':=[]) (fun _ _ => .nil) (fin := .pan (tk 322)) (by kernel_rfl)
    |ok y2=>
     obtain⟨⟨t4k,t4x,t4n,t4p,t4c⟩,m3⟩:=y2
     (try dsimp only [andThen,ok,bad] at hr)
     rw[placeP_head] at hr
     cases hr
     have D:Told b E (mkN E.len hd w.heap.size [l,l.tail,m3] [.mk t4k t4x t4n t4p t4c] [] []) hd w [evPeek 0 (tk 129) (tk 321),evMiss wMinus 0 (tk 321),evTake wHat 0 1 (tk 321),evTree 64 [] 1 2 (tk 256) 0 (tk 321)] ⟨[],[],[],[]⟩ []:=
      ⟨h,rfl,rfl,rfl,rfl,consC (peek_s (by decide) (.inl rfl) _) (consC (miss_s km _) (consC (take_s kh rfl _) (consC (tree_s hu (.inr rfl) rfl ys_nil k1 (.inl rfl) (by decide)) nilC))),(fun _ hx=>(by cases hx)),noApp,noPut,eqN,noPos⟩
     exact D.path (.inr rfl) (args:=[]) (args':=[]) (fun _ _ => .nil) (fin := .tree (.nd (.int .i64 33) (.string ⟨wHat.toArray⟩) (.int .u64 0) (tk 132) [.ab (tk 256) (tk 257) (tk 258) (tk 259) 1]) 2) (by kernel_rfl)
  |false=>
   rw[kh,if_neg (by decide)] at hr
   cases kn:isP wNot l with
   |true=>
    rw[kn,if_pos rfl] at hr
    cases k1:unaryP E.len f hd l.tail with
    |none=>rw[k1] at hr;cases hr
    |some y2=>
     rw[k1] at hr
     cases y2 with
     |error pl3=>
      (try dsimp only [andThen,ok,bad] at hr)
      cases hr
      have D:Told b E (mkN E.len hd w.heap.size [l,l.tail] [] [] [(pl3:Int)]) hd w [evPeek 0 (tk 129) (tk 321),evMiss wMinus 0 (tk 321),evMiss wHat 0 (tk 321),evTake wNot 0 1 (tk 321),evBad 64 [] 1 2 (tk 321)] ⟨[],[],[],[322]⟩ []:=
       ⟨h,rfl,rfl,rfl,rfl,consC (peek_s (by decide) (.inl rfl) _) (consC (miss_s km _) (consC (miss_s kh _) (consC (take_s kn rfl _) (consC (bad_s hu (.inr rfl) rfl ys_nil k1 (by decide) rfl) nilC)))),(fun _ hx=>(by cases hx)),noApp,noPut,eqN,(posC ⟨pl3,rfl⟩ noPos)⟩
      exact D.path (.inr rfl) (args:=[]) (args':=[]) (fun _ _ => .nil) (fin := .pan (tk 322)) (by kernel_rfl)
     |ok y2=>
      obtain⟨⟨t4k,t4x,t4n,t4p,t4c⟩,m3⟩:=y2
      (try dsimp only [andThen,ok,bad] at hr)
      rw[placeP_head] at hr
      cases hr
      have D:Told b E (mkN E.len hd w.heap.size [l,l.tail,m3] [.mk t4k t4x t4n t4p t4c] [] []) hd w [evPeek 0 (tk 129) (tk 321),evMiss wMinus 0 (tk 321),evMiss wHat 0 (tk 321),evTake wNot 0 1 (tk 321),evTree 64 [] 1 2 (tk 256) 0 (tk 321)] ⟨[],[],[],[]⟩ []:=
       ⟨h,rfl,rfl,rfl,rfl,consC (peek_s (by decide) (.inl rfl) _) (consC (miss_s km _) (consC (miss_s kh _) (consC (take_s kn rfl _) (consC (tree_s hu (.inr rfl) rfl ys_nil k1 (.inl rfl) (by decide)) nilC)))),(fun _ hx=>(by cases hx)),noApp,noPut,eqN,noPos⟩
      exact D.path (.inr rfl) (args:=[]) (args':=[]) (fun _ _ => .nil) (fin := .tree (.nd (.int .i64 33) (.string ⟨wNot.toArray⟩) (.int .u64 0) (tk 132) [.ab (tk 256) (tk 257) (tk 258) (tk 259) 1]) 2) (by kernel_rfl)
   |false=>
    rw[kn,if_neg (by decide)] at hr
    cases ka:isP wArrow l with
    |true=>
     rw[ka,if_pos rfl] at hr
     cases k1:unaryP E.len f hd l.tail with
     |none=>rw[k1] at hr;cases hr
     |some y2=>
      rw[k1] at hr
      cases y2 with
      |error pl3=>
       (try dsimp only [andThen,ok,bad] at hr)
       cases hr
       have D:Told b E (mkN E.len hd w.heap.size [l,l.tail] [] [] [(pl3:Int)]) hd w [evPeek 0 (tk 129) (tk 321),evMiss wMinus 0 (tk 321),evMiss wHat 0 (tk 321),evMiss wNot 0 (tk 321),evTake wArrow 0 1 (tk 321),evBad 64 [] 1 2 (tk 321)] ⟨[],[],[],[322]⟩ []:=
        ⟨h,rfl,rfl,rfl,rfl,consC (peek_s (by decide) (.inl rfl) _) (consC (miss_s km _) (consC (miss_s kh _) (consC (miss_s kn _) (consC (take_s ka rfl _) (consC (bad_s hu (.inr rfl) rfl ys_nil k1 (by decide) rfl) nilC))))),(fun _ hx=>(by cases hx)),noApp,noPut,eqN,(posC ⟨pl3,rfl⟩ noPos)⟩
       exact D.path (.inr rfl) (args:=[]) (args':=[]) (fun _ _ => .nil) (fin := .pan (tk 322)) (by kernel_rfl)
      |ok y2=>
       obtain⟨⟨t4k,t4x,t4n,t4p,t4c⟩,m3⟩:=y2
       (try dsimp only [andThen,ok,bad] at hr)
       rw[placeP_head] at hr
       cases hr
       have D:Told b E (mkN E.len hd w.heap.size [l,l.tail,m3] [.mk t4k t4x t4n t4p t4c] [] []) hd w [evPeek 0 (tk 129) (tk 321),evMiss wMinus 0 (tk 321),evMiss wHat 0 (tk 321),evMiss wNot 0 (tk 321),evTake wArrow 0 1 (tk 321),evTree 64 [] 1 2 (tk 256) 0 (tk 321)] ⟨[],[],[],[]⟩ []:=
        ⟨h,rfl,rfl,rfl,rfl,consC (peek_s (by decide) (.inl rfl) _) (consC (miss_s km _) (consC (miss_s kh _) (consC (miss_s kn _) (consC (take_s ka rfl _) (consC (tree_s hu (.inr rfl) rfl ys_nil k1 (.inl rfl) (by decide)) nilC))))),(fun _ hx=>(by cases hx)),noApp,noPut,eqN,noPos⟩
       exact D.path (.inr rfl) (args:=[]) (args':=[]) (fun _ _ => .nil) (fin := .tree (.nd (.int .i64 39) (.string ⟨#[]⟩) (.int .u64 0) (tk 132) [.ab (tk 256) (tk 257) (tk 258) (tk 259) 1]) 2) (by kernel_rfl)
    |false=>
     rw[ka,if_neg (by decide)] at hr
     cases k1:operandP E.len f hd l with
     |none=>rw[k1] at hr;cases hr
     |some y2=>
      rw[k1] at hr
      cases y2 with
      |error pl3=>
       (try dsimp only [andThen,ok,bad] at hr)
       cases hr
       have D:Told b E (mkN E.len hd w.heap.size [l] [] [] [(pl3:Int)]) hd w [evPeek 0 (tk 129) (tk 321),evMiss wMinus 0 (tk 321),evMiss wHat 0 (tk 321),evMiss wNot 0 (tk 321),evMiss wArrow 0 (tk 321),evBad 96 [] 0 2 (tk 321)] ⟨[],[],[],[322]⟩ []:=
        ⟨h,rfl,rfl,rfl,rfl,consC (peek_s (by decide) (.inl rfl) _) (consC (miss_s km _) (consC (miss_s kh _) (consC (miss_s kn _) (consC (miss_s ka _) (consC (bad_s ho (.inr rfl) rfl ys_nil k1 (by decide) rfl) nilC))))),(fun _ hx=>(by cases hx)),noApp,noPut,eqN,(posC ⟨pl3,rfl⟩ noPos)⟩
       exact D.path (.inr rfl) (args:=[]) (args':=[]) (fun _ _ => .nil) (fin := .pan (tk 322)) (by kernel_rfl)
      |ok y2=>
       obtain⟨⟨t4k,t4x,t4n,t4p,t4c⟩,m3⟩:=y2
       (try dsimp only [andThen,ok,bad] at hr)
       exact unary_suf hf hx ha ho h km kh kn ka k1 hr
def mkND (D:Nat)(d:Int)(len:Nat)(hd:Bool)(B:Nat)(ls:List (List Tok))(ts:List Tr)(tss:List (List Tr))(xs:List Int):SEnv where
 len:=len
 L:=fun i=>ls.getD i []
 T:=fun i=>ts.getD i tr0
 TS:=fun i=>tss.getD i []
 X:=fun k=>if k=63 then .int .i64 d else mkX len hd xs k
 one:=fun k=>by
  split
  ·rfl
  ·exact mkX_one len hd xs k
 S:=(B ≤ ·)
 D:=D
noncomputable def heapD (hd cv:Value):Tree AObj:=(heap0 hd).set 80 (some (.row [cv] 3 1))
noncomputable def chk80 (h:Tree AObj)(cv:Value):Bool:=match h.get 80 with
 |some (.row [c] t 1)=>Nat.beq t 3&&eqV 9 c cv
 |_=>false
noncomputable def finDOK (pos:List Nat)(cv1:Value)(fin:Fin)(r:Res AObj CR):Bool:=match r with
 | .ok (.ret v) h _ _=>chk80 h cv1&&(match fin with
  | .tree sp j=>(match v with
   | .agg cells=>chkT pos 30 (h.set 80 none) cells.toList sp&&chkRd h j (tk 321)
   |_=>false)
  |_=>false)
 | .ok (.pan v) h _ _=>chk80 h cv1&&(match fin with
  | .pan t=>eqV 9 v (.iface 58 (.agg #[t]))&&isNat pos false t
  |_=>false)
 | .no=>false
structure ToldD (b:Nat)(E:Env)(N:SEnv)(q:Bool)(w:World)(cs:List Call1)(T:OpT)(eqc:List (Nat×Value×Bool))(cv:Value)(d:Int):Prop where
 told:Told b E N q w cs T eqc
 bD:b<N.D
 cell:∃ fr:Nat×Nat,w.heap[N.D]? = some (.cells #[.int .i64 d] 3 fr)∧(decide (fr.1≤0)&&decide (0<fr.2))=false
 val:∀ p,AxN b N p→VR p cv (.int .i64 d)
abbrev OD (b D:Nat):Nat→Prop:=fun k=>k=b∨k=D
section
variable {b:Nat} {E:Env} {N:SEnv} {q:Bool} {w:World} {cs:List Call1} {T:OpT} {eqc:List (Nat×Value×Bool)} {cv:Value} {d:Int}
theorem ToldD.ctx (D:ToldD b E N q w cs T eqc cv d):Ctx b E N (mkCfg b E N cs T eqc) (OD b N.D) w cs where
 orc:=rfl
 mean:=rfl
 ax:=rfl
 n:=rfl
 ob := .inl rfl
 lo:=fun k hk=>by
  have:=D.bD
  rcases hk with rfl|rfl
  ·exact Nat.le_refl _
  ·omega
 bw:=D.told.rd.lt
 low:=D.told.rd.1
 x0:=D.told.x0
 len:=D.told.len
 x1:=⟨q,D.told.x1⟩
 s:=fun k hk=>by rw[D.told.s];exact hk
 calls:=D.told.calls
theorem ToldD.start (D:ToldD b E N q w cs T eqc cv d):∃ p,Rel (mkCfg b E N cs T eqc) (OD b N.D) w p (heapD (tk 321) cv) w∧(∀ k,384≤k→p k=none):=by
 obtain⟨p,R0,hfree⟩:=D.told.start (hd:=tk 321) (.inr rfl)
 have hax:=D.told.ctx.axp R0
 obtain⟨s,k1,k2,k3,k5,k6⟩:=hax.cell
 obtain⟨s0,a1,a2,-⟩:=hax.rd
 obtain⟨fr,f1,f2⟩:=D.cell
 have hbD:=D.bD
 have R1:Rel (mkCfg b E N cs T eqc) (OD b N.D) w p (heap0 (tk 321)) w:=⟨⟨rfl,rfl,rfl,Nat.le_refl _,fun _ _ _=>rfl⟩,R0.glob,R0.dis,fun n o hn=>by
  obtain⟨s',x1,x2,x3,x4⟩:=R0.at_ n o hn
  exact⟨s',x1,fun h1 k hk=>(x2 h1 k hk).imp (fun e => .inl e) id,x3,x4⟩,R0.one,R0.mean⟩
 have h80:(heap0 (tk 321)).get 80=none:=by unfold heap0;rw[Tree.get_set,Tree.get_set,if_neg (by decide),if_neg (by decide)];rfl
 refine⟨p,R1.put k1 h80 (fun k hk n o s' hn hs hO => ?_) (fun _ k hk => .inl (.inr ?_)) (fun k hk => ?_) ?_ (fun m e=>by cases e),hfree⟩
 ·have hk:k=s.blk:=hk
  rw[k2] at hk
  subst hk
  unfold heap0 at hn
  rw[Tree.get_set] at hn
  by_cases e:n=64
  ·subst e
   rw[if_pos rfl] at hn
   cases hn
   obtain rfl:s'=s0:=Option.some.inj (hs.symm.trans a1)
   have hO:N.D=s'.blk:=hO
   omega
  ·rw[if_neg e,Tree.get_set] at hn
   by_cases e2:n=65
   ·subst e2
    rw[if_pos rfl] at hn
    cases hn
    have hm:=R0.mean 65 0 s' (by unfold heap0;rw[Tree.get_set,if_neg (by decide),Tree.get_set,if_pos rfl]) hs
    obtain⟨-,hm⟩:TokA b E.w0 s'.val (N.L (0 / 8))∧s'.foot=noF:=hm
    exact hO (by rw[hm];rfl)
   ·rw[if_neg e2] at hn;cases hn
 ·rw[show k=s.blk from hk,k2]
 ·rw[show k=s.blk from hk,k2];exact(Array.getElem?_eq_some_iff.1 f1).1
 ·refine⟨k6,#[.int .i64 d],fr,by rw[k2];exact f1,by rw[k5];rfl,by rw[k3];exact Nat.le_refl 1,?_,fun j hj => ?_,fun hh=>absurd rfl hh⟩
  ·rw[k3];exact .cons (D.val p hax) .nil
  ·have:j=0:=by have:j<1:=hj;omega
   rw[this];exact f2
def OutD (b:Nat)(E:Env)(hd:Bool)(g:Nat)(d1:Int)(r:Except Nat (Tr×List Tok))(w:World)(e:Ending)(w':World):Prop:=∃ wm,SetAt g d1 w wm∧Out b E hd (NodeV (w.heap.size ≤ ·)) r wm e w'
theorem ToldD.path (D:ToldD b E N q w cs T eqc cv d){cv1:Value}{d1:Int}(hv1:∀ p u,AxN b N p→VR p cv1 u→u = .int .i64 d1){f:FuncId}{fin:Fin}
  (run:finDOK T.pos cv1 fin (evCall Tryz.prog (mkCfg b E N cs T eqc) 1000 f [.pointer (some ⟨64,0,none⟩),.pointer (some ⟨80,0,none⟩)] (heapD (tk 321) cv) 384)=true):Calls Tryz.prog f #[rp b,.pointer (some ⟨N.D,0,none⟩)] w (OutD b E q N.D d1 (finSem N fin) w):=by
 obtain⟨p,R,hfree⟩:=D.start
 have hax:=D.ctx.axp R
 have horc:OrcOK Tryz.prog (mkCfg b E N cs T eqc) (OD b N.D) w:=⟨orc_call D.ctx,orc_ops D.ctx rfl D.told.nxt D.told.app D.told.put D.told.pos,fun _ _ _ h=>by cases h⟩
 cases hev:evCall Tryz.prog (mkCfg b E N cs T eqc) 1000 f [.pointer (some ⟨64,0,none⟩),.pointer (some ⟨80,0,none⟩)] (heapD (tk 321) cv) 384 with
 |no=>rw[hev] at run;cases run
 |ok r h' c' l=>
  rw[hev] at run
  obtain⟨s80,z1,z2,z3,z5,-⟩:=hax.cell
  have hp80:VR p (.pointer (some ⟨80,0,none⟩)) (.pointer (some ⟨N.D,0,none⟩)):=by
   have:=VR.ptr (o:=0) z1
   rw[z2,z3] at this
   exact this
  refine(ev_call follows' horc hev (fun k h1 _ => ?_) R (args' := #[rp b,.pointer (some ⟨N.D,0,none⟩)]) (.cons (vr_rd hax) (.cons hp80 .nil)) (fun k h1 _=>hfree k h1)).mono ?_
  ·unfold heapD heap0
   rw[Tree.get_set,Tree.get_set,Tree.get_set,if_neg (by omega),if_neg (by omega),if_neg (by omega)]
   rfl
  ·rintro e w' ⟨p',hle,-,hr,hc⟩
   have hax':=D.ctx.axp hr
   have k1:=hle _ _ z1
   have h80:chk80 h' cv1=true:=by
    unfold finDOK at run
    cases r with
    |ret v=>rw[Bool.and_eq_true] at run;exact run.1
    |pan v=>rw[Bool.and_eq_true] at run;exact run.1
   obtain⟨c,hc80,hcv⟩:∃ c,h'.get 80=some (.row [c] 3 1)∧c=cv1:=by
    unfold chk80 at h80
    split at h80
    ·rename_i c t hg
     rw[Bool.and_eq_true] at h80
     rw[Nat.eq_of_beq_eq_true h80.1] at hg
     exact⟨c,hg,eqV_ok h80.2⟩
    ·cases h80
   subst hcv
   obtain⟨s',y1,-,-,y4⟩:=hr.at_ _ _ hc80
   obtain rfl:s'=s80:=Option.some.inj (y1.symm.trans k1)
   obtain⟨bs,fr,ra,rb,rc,rd,re,-⟩:=RowAt.at_ y4
   rw[z5] at rb
   rw[z2] at ra
   have hl1:bs.toList.length≤[c].length:=by rw[Array.length_toList,rb];exact Nat.le_refl 1
   rw[z3,List.drop_zero,List.take_of_length_le hl1] at rd
   have hbs:bs = #[.int .i64 d1]:=by
    generalize hbl:bs.toList=bl at rd
    cases rd with
    |cons q1 rd=>
    cases rd
    have:=hv1 p' _ hax' q1
    subst this
    rw[←Array.toList_inj,hbl]
   subst hbs
   have hDlt:N.D<w.heap.size:=by obtain⟨fr,f1,-⟩:=D.cell;exact(Array.getElem?_eq_some_iff.1 f1).1
   have hother:∀ k,k≠N.D→({ w with heap:=w.heap.setIfInBounds N.D (.cells #[.int .i64 d1] 3 fr) }:World).heap[k]? = w.heap[k]? := fun k hk=>by
    show (w.heap.setIfInBounds N.D _)[k]? = _
    rw[Array.getElem?_setIfInBounds_ne (Ne.symm hk)]
   have hself:({ w with heap:=w.heap.setIfInBounds N.D (.cells #[.int .i64 d1] 3 fr) }:World).heap[N.D]? = some (.cells #[.int .i64 d1] 3 fr):=by
    show (w.heap.setIfInBounds N.D _)[N.D]? = _
    rw[Array.getElem?_setIfInBounds_self_of_lt hDlt]
   refine⟨{ w with heap:=w.heap.setIfInBounds N.D (.cells #[.int .i64 d1] 3 fr) },⟨rfl,rfl,rfl,by simp,hother,fr,hself,re 0 (by rw[rb];decide)⟩,⟨hr.below.os,hr.below.tape,hr.below.output,by simpa using hr.below.size,fun k h1 h2 => ?_⟩,?_⟩
   ·by_cases hk:k=N.D
    ·subst hk;rw[hself];exact ra
    ·rw[hother k hk]
     exact hr.below.block k (by simpa using h1) (by rintro(h|h);exact h2 h;exact hk h)
   ·unfold finDOK at run
    cases r with
    |ret v=>
     rw[Bool.and_eq_true] at run
     obtain⟨-,run⟩:=run
     cases fin with
     |pan t=>cases run
     |tree sp j=>
      dsimp only at run
      split at run
      ·rename_i cells
       rw[Bool.and_eq_true] at run
       obtain⟨h1,h2⟩:=run
       obtain⟨hrd,h64⟩:=D.told.rdOf (.inr rfl) D.ctx hr h2
       cases e with
       |returned v'=>
        have hv:VR p' (.agg cells) v':=hc
        cases hv with
        |@agg _ b2 hvs=>
        refine⟨_,rfl,⟨b2.toList,by simp,?_⟩,hrd⟩
        have sub:∀ x o,(h'.set 80 none).get x=some o→x≠80∧h'.get x=some o:=fun x o hx=>by
         rw[Tree.get_set] at hx
         by_cases ex:x=80
         ·rw[if_pos ex] at hx;cases hx
         ·rw[if_neg ex] at hx;exact⟨ex,hx⟩
        have:=chkT_ok D.ctx (hr.del 80) D.told.pos (fun n c t z s2 hn h70 hs2 => ?_) 30 h1 hvs
        ·rw[D.told.s] at this
         exact this
        ·obtain⟨x1,x2⟩:=sub _ _ hn
         obtain⟨s3,q1,q2,-⟩:=hr.at_ _ _ x2
         obtain rfl:s3=s2:=Option.some.inj (q1.symm.trans hs2)
         rcases q2 (by show 64≤n;omega) s3.blk rfl with (hO|hO)|hO
         ·exfalso
          obtain⟨s0,a1,a2,-⟩:=hax'.rd
          obtain⟨c64,t64,z64,hb64⟩:=h64
          have:=hr.one _ _ _ _ _ _ s3.blk x2 hb64 q1 a1 rfl (by show s3.blk=s0.blk;rw[hO,a2])
          omega
         ·exfalso
          exact x1 (hr.one _ _ _ _ _ _ s3.blk x2 hc80 q1 k1 rfl (by show s3.blk=s'.blk;rw[hO,z2]))
         ·rw[D.told.s];exact hO
       |panicked=>exact hc.elim
       |outgrown=>exact hc.elim
      ·cases run
    |pan v=>
     rw[Bool.and_eq_true] at run
     obtain⟨-,run⟩:=run
     cases fin with
     |tree sp j=>cases run
     |pan t=>
      dsimp only at run
      rw[Bool.and_eq_true] at run
      obtain rfl:=eqV_ok run.1
      cases e with
      |returned=>exact hc.elim
      |outgrown=>exact hc.elim
      |panicked ch=>
       obtain⟨v',rfl,hv⟩:=hc
       cases hv with
       |iface _ hv=>
       cases hv with
       |@agg _ b2 hvs=>
       generalize hbl:b2.toList=bl at hvs
       cases hvs with
       |cons h1 h2=>
       cases h2
       have h3:=isNat_ok D.told.pos hax' run.2 h1
       simp only[Bool.false_eq_true,if_false] at h3
       subst h3
       have hb2:b2 = #[.int .i64 (natOf N t:Int)]:=by rw[←Array.toList_inj,hbl]
       subst hb2
       rfl
end
end Prs
end Go.Proofs.YtcbkeecabcbogaaGreatDoor
