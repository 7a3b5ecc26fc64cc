/- Scripts: operators of one. (Printed by gen_un.py.) Contract -/
import Derived.Test.YtcbkeecabcbogaaGreatDoorHay
import Derived.LoopN
set_option maxRecDepth 20000
set_option linter.unusedSimpArgs false
set_option linter.unusedVariables false
namespace Go.Proofs.YtcbkeecabcbogaaGreatDoor
section
open Go.RowKit
namespace Prs
open Ev
def Gh (b q r:Nat):Ho where
 n:=79
 rowSlot:=6
 resSlot:=2
 q:=q
 r:=r
 direct:=[(0,.pointer (some ⟨64,0,none⟩),rp b)]
theorem fixU {b q r:Nat}{N:Zv}{w1:World}(h1:b<q)(h2:b<r)(h3:q≠r)(h4:b<w1.heap.size):TFix (Gh b q r) b N w1 where
 bq:=h1
 br:=h2
 qr:=h3
 bw:=h4
 dir:=fun x hx p hax=>by
  obtain rfl:=List.mem_singleton.1 hx;exact Qfu hax
 dirU:=fun x hx p u hax hv=>by
  obtain rfl:=List.mem_singleton.1 hx;exact Ad hax hv
 dirN:=fun x hx=>by
  obtain rfl:=List.mem_singleton.1 hx;simp
noncomputable def Qnv:Code:=Ur (Qef (Qef (Qef (Qef (Qef (Zj 64))))))
theorem suf_loop {b q r F0:Nat}{E:Env}{hd:Bool}{w1:World}(h1:b<q)(h2:b<r)(h3:q≠r)(h4:b<w1.heap.size)(hF:F0≤4294967296)(hx:∀ g,g<F0→Reads b E false 22 #[rp b] (Xc E.len g 1 false))(ha:∀ g,g<F0→Reads b E false 97 #[rp b] (Qhi E.len g)){Q:Exit→Act→World→Prop}{res:Except Nat (Tr×List Tok)}
  (hQ:match res with
   | .ok (t,l')=>∀ w' a',Qmt (Gh b q r) b E hd w1 t l' w' a'→Q .ret a' w'
   | .error p=>∀ w' a',Vr b q r w1 w'→a'.defers=[]→Q (.panic [{ v:=Vy p,recovered:=false }]) a' w'):
  ∀ (f:Nat) (x:Tr) (l:List Tok) (w:World) (a:Act),f≤F0→Vp E.len f hd x l=some res→Qms (Gh b q r) b E hd w1 x l w a→V8 Tryz.prog Qnv Q a w:=by
 intro f;induction f with
 |zero=>intro x l w a _ h;rw[Vp] at h;cases h
 |succ f ih=>
  intro x l w a hf h I;rw[Vp] at h;obtain⟨xk,xx,xn,xp,xc⟩:=x;refine Ve ?_;cases k1:isP Zk l with
  |true=>
   rw[k1,if_pos rfl] at h;cases k2:U7 E.len Qw false (Xc E.len f 1 false) f l.tail with
   |none=>rw[k2] at h;cases h
   |some y=>
    rw[k2] at h;cases y with
    |error pl=>
     cases h;have D:Xw (Gh b q r) b E (Yf E.len hd (SX (Gh b q r) w1) [l,l.tail] [.mk xk xx xn xp xc] [] [(pl:Int)]) hd w1 w [X5 0 (tk 321),Qx Zk 0 1 (tk 321),Xt 71 [str Qw,.bool false,(.func (.func 22) #[.pointer (some ⟨64,0,none⟩)] #[])] 1 2 (tk 321)] ⟨[],[],[],[322]⟩ []:=
      ⟨rfl,rfl,rfl,rfl,Qa (X8 rfl Dd _) (Qa (Qz k1 rfl _) (Qa (Qhg (Qev (hx f Dw) Dw) (.inr rfl) rfl U6 k2 Dd rfl) (Xb))),Dx,Qn,Ql,eqN,(Uj ⟨pl,rfl⟩ Qj),fixU h1 h2 h3 h4⟩
     exact D.round rfl rfl I (fin:=.pan (tk 322)) Dk hQ
    |ok y=>
     obtain⟨ts,k⟩:=y;dsimp only [andThen] at h;cases ts with
     |nil=>
      have D:Xw (Gh b q r) b E (Yf E.len hd (SX (Gh b q r) w1) [l,l.tail,k] [.mk xk xx xn xp xc] [[]] []) hd w1 w [X5 0 (tk 321),Qx Zk 0 1 (tk 321),Jl 71 [str Qw,.bool false,(.func (.func 22) #[.pointer (some ⟨64,0,none⟩)] #[])] 1 2 0 (tk 321),Qdt 0 none] ⟨[],[],[],[]⟩ []:=
       ⟨rfl,rfl,rfl,rfl,Qa (X8 rfl Dd _) (Qa (Qz k1 rfl _) (Qa (Dt (Qev (hx f Dw) Dw) (.inr rfl) rfl U6 k2) (Qa (cons_n rfl) (Xb)))),Dx,Qn,Ql,eqN,Qj,fixU h1 h2 h3 h4⟩
      exact D.round rfl rfl I (fin:=.again 2 (.nd (.int .i64 34) (.string ⟨#[]⟩) (.int .u64 0) (tk 128) [.ab (tk 256) (tk 257) (tk 258) (tk 259) 1])) Dk fun w' a' I'=>ih _ k w' a' Dw h I'
     |cons t1 ts=>
      have D:Xw (Gh b q r) b E (Yf E.len hd (SX (Gh b q r) w1) [l,l.tail,k] [.mk xk xx xn xp xc] [t1::ts,.mk xk xx xn xp xc::t1::ts] []) hd w1 w [X5 0 (tk 321),Qx Zk 0 1 (tk 321),Jl 71 [str Qw,.bool false,(.func (.func 22) #[.pointer (some ⟨64,0,none⟩)] #[])] 1 2 0 (tk 321),Qdt 0 (some (.ab (tk 256) (tk 257) (tk 258) (tk 259) 1,1))] ⟨[],[],[],[]⟩ []:=
       ⟨rfl,rfl,rfl,rfl,Qa (X8 rfl Dd _) (Qa (Qz k1 rfl _) (Qa (Dt (Qev (hx f Dw) Dw) (.inr rfl) rfl U6 k2) (Qa (cons_s (List.cons_ne_nil _ _) rfl (Qet k2 Dw)) (Xb)))),Dx,Qn,Ql,eqN,Qj,fixU h1 h2 h3 h4⟩
      exact D.round rfl rfl I (fin:=.again 2 (.ab (.int .i64 34) (.string ⟨#[]⟩) (.int .u64 0) (tk 128) 10)) Dk fun w' a' I'=>ih _ k w' a' Dw h I'
  |false=>
   rw[k1,if_neg Dd] at h;cases k3:isP wDot l with
   |true=>
    rw[k3,if_pos rfl] at h;unfold Rk at h;cases k4:Xg l.tail==1 with
    |false=>
     rw[k4,if_neg Dd] at h;cases h;have D:Xw (Gh b q r) b E (Yf E.len hd (SX (Gh b q r) w1) [l,l.tail] [.mk xk xx xn xp xc] [] []) hd w1 w [X5 0 (tk 321),Qc Zk 0 (tk 321),Qx wDot 0 1 (tk 321),Qca 1 (tk 321)] ⟨[],[],[],[]⟩ []:=
      ⟨rfl,rfl,rfl,rfl,Qa (X8 rfl Dd _) (Qa (Qd k1 _) (Qa (Qz k3 rfl _) (Qa (Qdg rfl Dd k4 _) (Xb)))),Dx,Qn,Ql,eqN,Qj,fixU h1 h2 h3 h4⟩
     exact D.round rfl rfl I (fin:=.pan (tk 136)) Dk hQ
    |true=>
     rw[k4,if_pos rfl] at h;dsimp only [andThen,ok] at h;rw[Q5] at h;have D:Xw (Gh b q r) b E (Yf E.len hd (SX (Gh b q r) w1) [l,l.tail,l.tail.tail] [.mk xk xx xn xp xc] [] []) hd w1 w [X5 0 (tk 321),Qc Zk 0 (tk 321),Qx wDot 0 1 (tk 321),Uk 1 2 (tk 321)] ⟨[],[],[],[]⟩ []:=
      ⟨rfl,rfl,rfl,rfl,Qa (X8 rfl Dd _) (Qa (Qd k1 _) (Qa (Qz k3 rfl _) (Qa (Uz Dd k4 rfl _) (Xb)))),Dx,Qn,Ql,eqN,Qj,fixU h1 h2 h3 h4⟩
     exact D.round rfl rfl I (fin:=.again 2 (.nd (.int .i64 35) (tk 138) (.int .u64 0) (tk 128) [.ab (tk 256) (tk 257) (tk 258) (tk 259) 1])) Dk fun w' a' I'=>ih _ l.tail.tail w' a' Dw h I'
   |false=>
    rw[k3,if_neg Dd] at h;cases k5:isP wSq l with
    |true=>
     rw[k5,if_pos rfl] at h;cases k2:U7 E.len wQs true (Qhi E.len f) f l.tail with
     |none=>rw[k2] at h;cases h
     |some y=>
      rw[k2] at h;cases y with
      |error pl=>
       cases h;have D:Xw (Gh b q r) b E (Yf E.len hd (SX (Gh b q r) w1) [l,l.tail] [.mk xk xx xn xp xc] [] [(pl:Int)]) hd w1 w [X5 0 (tk 321),Qc Zk 0 (tk 321),Qc wDot 0 (tk 321),Qx wSq 0 1 (tk 321),Xt 71 [str wQs,.bool true,(.func (.func 97) #[.pointer (some ⟨64,0,none⟩)] #[])] 1 2 (tk 321)] ⟨[],[],[],[322]⟩ []:=
        ⟨rfl,rfl,rfl,rfl,Qa (X8 rfl Dd _) (Qa (Qd k1 _) (Qa (Qd k3 _) (Qa (Qz k5 rfl _) (Qa (Qhg (Qeu (ha f Dw) Dw) (.inr rfl) rfl U6 k2 Dd rfl) (Xb))))),Dx,Qn,Ql,eqN,(Uj ⟨pl,rfl⟩ Qj),fixU h1 h2 h3 h4⟩
       exact D.round rfl rfl I (fin:=.pan (tk 322)) Dk hQ
      |ok y=>
       obtain⟨ts,k⟩:=y;dsimp only [andThen] at h;cases ts with
       |nil=>
        have D:Xw (Gh b q r) b E (Yf E.len hd (SX (Gh b q r) w1) [l,l.tail,k] [.mk xk xx xn xp xc] [[]] []) hd w1 w [X5 0 (tk 321),Qc Zk 0 (tk 321),Qc wDot 0 (tk 321),Qx wSq 0 1 (tk 321),Jl 71 [str wQs,.bool true,(.func (.func 97) #[.pointer (some ⟨64,0,none⟩)] #[])] 1 2 0 (tk 321),Qdt 0 none] ⟨[],[],[],[]⟩ []:=
         ⟨rfl,rfl,rfl,rfl,Qa (X8 rfl Dd _) (Qa (Qd k1 _) (Qa (Qd k3 _) (Qa (Qz k5 rfl _) (Qa (Dt (Qeu (ha f Dw) Dw) (.inr rfl) rfl U6 k2) (Qa (cons_n rfl) (Xb)))))),Dx,Qn,Ql,eqN,Qj,fixU h1 h2 h3 h4⟩
        exact D.round rfl rfl I (fin:=.again 2 (.nd (.int .i64 36) (.string ⟨#[]⟩) (.int .u64 0) (tk 128) [.ab (tk 256) (tk 257) (tk 258) (tk 259) 1])) Dk fun w' a' I'=>ih _ k w' a' Dw h I'
       |cons t1 ts=>
        have D:Xw (Gh b q r) b E (Yf E.len hd (SX (Gh b q r) w1) [l,l.tail,k] [.mk xk xx xn xp xc] [t1::ts,.mk xk xx xn xp xc::t1::ts] []) hd w1 w [X5 0 (tk 321),Qc Zk 0 (tk 321),Qc wDot 0 (tk 321),Qx wSq 0 1 (tk 321),Jl 71 [str wQs,.bool true,(.func (.func 97) #[.pointer (some ⟨64,0,none⟩)] #[])] 1 2 0 (tk 321),Qdt 0 (some (.ab (tk 256) (tk 257) (tk 258) (tk 259) 1,1))] ⟨[],[],[],[]⟩ []:=
         ⟨rfl,rfl,rfl,rfl,Qa (X8 rfl Dd _) (Qa (Qd k1 _) (Qa (Qd k3 _) (Qa (Qz k5 rfl _) (Qa (Dt (Qeu (ha f Dw) Dw) (.inr rfl) rfl U6 k2) (Qa (cons_s (List.cons_ne_nil _ _) rfl (Qet k2 Dw)) (Xb)))))),Dx,Qn,Ql,eqN,Qj,fixU h1 h2 h3 h4⟩
        exact D.round rfl rfl I (fin:=.again 2 (.ab (.int .i64 36) (.string ⟨#[]⟩) (.int .u64 0) (tk 128) 10)) Dk fun w' a' I'=>ih _ k w' a' Dw h I'
    |false=>
     rw[k5,if_neg Dd] at h;cases h;have D:Xw (Gh b q r) b E (Yf E.len hd (SX (Gh b q r) w1) [l] [.mk xk xx xn xp xc] [] []) hd w1 w [X5 0 (tk 321),Qc Zk 0 (tk 321),Qc wDot 0 (tk 321),Qc wSq 0 (tk 321)] ⟨[],[],[],[]⟩ []:=
      ⟨rfl,rfl,rfl,rfl,Qa (X8 rfl Dd _) (Qa (Qd k1 _) (Qa (Qd k3 _) (Qa (Qd k5 _) (Xb)))),Dx,Qn,Ql,eqN,Qj,fixU h1 h2 h3 h4⟩
     exact D.round rfl rfl I (fin:=.ret 0 (.ab (tk 256) (tk 257) (tk 258) (tk 259) 1)) Dk hQ
theorem Qmt.outW {L:Ho}{b:Nat}{E:Env}{hd:Bool}{w w':World}{t:Tr}{l:List Tok}{a:Act}{fn:Func}(h:Qmt L b E hd w t l w' a)(hr:L.r=w.heap.size)(hq:w.heap.size<L.q)(hf:fn.results = #[.cell L.resSlot 26]):bodyPost Tryz.prog fn (Out b E hd (Zh (w.heap.size ≤ ·)) (.ok (t,l)) w) .ret a w':=by
 obtain⟨cs,h1,h2⟩:=h.res;obtain⟨v0,v1,v2,v3,v4,rfl⟩:=h2.five;have hk:=h.keep;exact Pg hf h.ds h.resS h1 ⟨hk.os,hk.tape,hk.output,hk.size,fun k h1 h2=>hk.block k h1 h2 Dw Dw⟩ ⟨_,rfl,X7.weak (fun k hk=>hk.1) h2⟩ h.rd
theorem keep2W {b q:Nat}{w w':World}(hq:w.heap.size<q)(hk:Vr b q w.heap.size w w'):Qr b w w':=
 ⟨hk.os,hk.tape,hk.output,hk.size,fun k h1 h2=>hk.block k h1 h2 Dw Dw⟩
theorem Qnj {b f:Nat}{E:Env}{hd:Bool}{l m:List Tok}{w:World}{t:Tr}{r:Except Nat (Tr×List Tok)}(hf:f≤4294967296)(hx:∀ g,g<f→Reads b E false 22 #[rp b] (Xc E.len g 1 false))(ha:∀ g,g<f→Reads b E false 97 #[rp b] (Qhi E.len g))(ho:Reads b E hd 96 #[rp b] (Zw E.len f hd))
  (h:RdB b E w l hd) (km:isP Jj l=false) (kh:isP Qjf l=false) (kn:isP Qmn l=false) (ka:isP Xp l=false) (k1:Zw E.len f hd l=some (.ok (t,m))) (hr:Vp E.len f hd t m=some r):Calls Tryz.prog 64 #[rp b] w (Out b E hd (Zh (w.heap.size ≤ ·)) r w):=by
 have hb:=h.lt;have HR:=Dh h;have HO:=Dh ho;have HX:=Dh hx;have HA:=Dh ha;have HF:=Dh hf;have HN:=Dh k1;have HL:=Dh hr;have HP:=Dh fun w (h:RdB b E w l hd)=>L6 b E l hd w h
 have T1:=Dh fun w (h:RdB b E w l hd)=>Qa3 b E l hd w Jj h
 have T2:=Dh fun w (h:RdB b E w l hd)=>Qa3 b E l hd w Qjf h
 have T3:=Dh fun w (h:RdB b E w l hd)=>Qa3 b E l hd w Qmn h
 have T4:=Dh fun w (h:RdB b E w l hd)=>Qa3 b E l hd w Xp h
 rw[km] at T1;rw[kh] at T2;rw[kn] at T3;rw[ka] at T4;clear h ho hx ha hf k1 hr km kh kn ka;go_enter Tryz.func64,Tryz.ntmps64
 go_wp2_with (go_at_call 32;refine(HP.out _ (HR.out.new _)).mono ?_;rintro e w2 ⟨rfl,hB0⟩;have hr2:=Dh ((HR.out.new _).keep hB0);have hB:=Dh hB0;clear hB0)
 have hs2:w.heap.size+1≤w2.heap.size:=by have:=hB.out.size;rw[World.size_alloc] at this;exact this
 have hz2:w2.heap[w.heap.size]? = some (.cells Q7 26 (0,0)):=(hB.out.block _ (by rw[World.size_alloc];omega)).trans (Q4 w _);generalize hW:(w2.alloc (.cells #[.int .i64 (U0 l).kind,.string ⟨(U0 l).text.toArray⟩,.int .u64 (U0 l).num,.int .i64 ((U0 l).place:Int)] 46)).alloc (.cells #[.string ⟨#[45]⟩,.string ⟨#[94]⟩,.string ⟨#[33]⟩] 9)=W;have hwS:W.heap[w2.heap.size+1]? = some (.cells #[.string ⟨#[45]⟩,.string ⟨#[94]⟩,.string ⟨#[33]⟩] 9 (0,0)):=by rw[←hW];exact Ph w2 _ _
 have hwR:=Dh (show RdB b E W l hd by rw[←hW];exact(hr2.out.new _).new _);have hwK:=Dh (show Qr b w W by rw[←hW];exact(((Qr.new _ _).trans (Qr.of_below hB.out (Nat.le_refl _))).trans (Qr.new _ _)).trans (Qr.new _ _));have hwZ:=Dh (show W.heap[w.heap.size]? = some (.cells Q7 26 (0,0)) by rw[←hW];exact Xz (Xz hz2 _) _);clear hW hr2 hB hz2;have hgb:w2.heap.size+1≠b:=by omega
 have hc0:W.cell? ⟨w2.heap.size+1,0,none⟩=some (.string ⟨#[45]⟩):=by unfold World.cell?;rw[hwS];rfl
 have hc1:=Dh (show W.cell? ⟨w2.heap.size+1,1,none⟩=some (.string ⟨#[94]⟩) by unfold World.cell?;rw[hwS];rfl);have hc2:=Dh (show W.cell? ⟨w2.heap.size+1,2,none⟩=some (.string ⟨#[33]⟩) by unfold World.cell?;rw[hwS];rfl);clear hwS;generalize w2.heap.size+1=g at *;generalize w2.heap.size=g0 at *;clear w2;unfold Jj at T1;unfold Qjf at T2;unfold Qmn at T3;unfold Xp at T4;refine wp_loop_rounds 4 ?_;rw[rounds_succ];go_wp2_with (go_at_call 46;refine(T1.out _ hwR.out).mono ?_;rintro e W1 ⟨rfl,hk1,hr1⟩;rw[if_neg Dd] at hr1;have hr1:=Dh hr1;have hk1:=Dh hk1)
 have hd1:W1.cell? ⟨g,1,none⟩=some (.string ⟨#[94]⟩):=hk1.out.cell hgb hc1.out;clear hc0;rw[rounds_succ];go_wp2_with (go_at_call 46;refine(T2.out _ hr1.out).mono ?_;rintro e W2 ⟨rfl,hk2,hr2⟩;rw[if_neg Dd] at hr2;have hr2:=Dh hr2;have hk2:=Dh hk2)
 have hd2:W2.cell? ⟨g,2,none⟩=some (.string ⟨#[33]⟩):=(hk1.out.trans hk2.out).cell hgb hc2.out;clear hd1;rw[rounds_succ];go_wp2_with (go_at_call 46;refine(T3.out _ hr2.out).mono ?_;rintro e W3 ⟨rfl,hk3,hr3⟩;rw[if_neg Dd] at hr3;have hr3:=Dh hr3;have hk3:=Dh hk3)
 clear hd2;rw[rounds_succ];go_wp2_with (first|(go_at_call 46;refine(T4.out _ hr3.out).mono ?_;rintro e W4 ⟨rfl,hk4,hr4⟩;rw[if_neg Dd] at hr4;have hr4:=Dh hr4;have hk4:=Dh hk4)|(go_at_call 96;refine(HO.out _ _ _ hr4.out HN.out).mono ?_;rintro e W5 ⟨hk5,v,rfl,hv,hr5⟩;obtain⟨v0,v1,v2,v3,v4,rfl,hone⟩:=hv.cells;have hv:=Dh hv;have hone:=Dh hone;have hk5:=Dh hk5;have hr5:=Dh hr5)|((with_reducible refine Yu rfl _ _ rfl rfl (v0:=v0) (v1:=v1) (v2:=v2) (v3:=v3) (v4:=v4) ?hx ?hy hone.out ?_);(case hx=>rfl);(case hy=>rfl);intro W6 hrw hB6;have hr6:=Dh (hr5.out.keep hB6);have hrw:=Dh hrw;have hB6:=Dh hB6))
 have hkW:=(((hwK.out.trans hk1.out).trans hk2.out).trans hk3.out).trans hk4.out;have hk:=hkW.trans hk5.out;have hz6:=(Qr.of_below (b:=b) hB6.out (Nat.le_refl _)).row hb (hk5.out.row hb (hk4.out.row hb (hk3.out.row hb (hk2.out.row hb (hk1.out.row hb hwZ.out)))));have hq5:w.heap.size<W5.heap.size:=(Array.getElem?_eq_some_iff.1 (hk5.out.row hb (hk4.out.row hb (hk3.out.row hb (hk2.out.row hb (hk1.out.row hb hwZ.out)))))).1;have hq4:w.heap.size<W4.heap.size:=(Array.getElem?_eq_some_iff.1 (hk4.out.row hb (hk3.out.row hb (hk2.out.row hb (hk1.out.row hb hwZ.out))))).1;have hs4:=hkW.size;have hs5:=hk5.out.size;refine Ja (c':=Qnv) Dk (suf_loop (q:=W5.heap.size) (r:=w.heap.size) (F0:=f) (w1:=w) Dw hb Dw hb HF.out HX.out HA.out (res:=r) ?_ f t m _ _ (Nat.le_refl _) HL.out ?_)
 ·cases r with
  |error p=>
   intro w' a' hk' hd';obtain⟨tm,ds⟩:=a';obtain rfl:ds=[]:=hd';exact⟨rfl,keep2W hq5 hk',rfl⟩
  |ok y=>
   obtain⟨t',l'⟩:=y;intro w' a' hE;exact hE.outW rfl hq5 (show Tryz.f64.results = #[.cell 2 26] from rfl)
 ·exact {
   rd:=hr6.out
   row:=⟨[v0,v1,v2,v3,v4],hrw.out,X7.frame (fun k hk1 hk2=>⟨by omega,by show k≠W5.heap.size;omega,by show k≠w.heap.size;omega⟩) (fun k hk1 hk2=>hB6.out.block k hk2) hv.out.C⟩
   res:=hz6
   keep:=⟨hB6.out.os.trans hk.os,hB6.out.tape.trans hk.tape,hB6.out.output.trans hk.output,Nat.le_trans hk.size hB6.out.size,fun k h1 h2 h3 h4=>(hB6.out.block k (Nat.lt_of_lt_of_le h1 hk.size)).trans (hk.block k h1 h2)⟩
   rowS:=rfl
   resS:=rfl
   dirS:=fun x hx=>by
    obtain rfl:=List.mem_singleton.1 hx;rfl
   n:=rfl
   ds:=rfl }
theorem unary_c {b f:Nat}{E:Env}{hd:Bool}(hf:f≤4294967296)(hx:∀ g,g<f→Reads b E false 22 #[rp b] (Xc E.len g 1 false))(ha:∀ g,g<f→Reads b E false 97 #[rp b] (Qhi E.len g))(hu:Reads b E hd 64 #[rp b] (Zg E.len f hd))(ho:Reads b E hd 96 #[rp b] (Zw E.len f hd)):Reads b E hd 64 #[rp b] (Zg E.len (f+1) hd):=by
 intro l w r h hr;rw[Zg] at hr;cases km:isP Jj l with
 |true=>
  rw[km,if_pos rfl] at hr;cases k1:Zg E.len f hd l.tail with
  |none=>rw[k1] at hr;cases hr
  |some y2=>
   rw[k1] at hr;cases y2 with
   |error pl3=>
    (try dsimp only [andThen,ok,bad] at hr)
    cases hr;have D:Told b E (mkN E.len hd w.heap.size [l,l.tail] [] [] [(pl3:Int)]) hd w [Qo 0 (tk 129) (tk 321),Qx Jj 0 1 (tk 321),Xt 64 [] 1 2 (tk 321)] ⟨[],[],[],[322]⟩ []:=
     ⟨h,rfl,rfl,rfl,rfl,Qa (Qp Dd (.inl rfl) _) (Qa (Qz km rfl _) (Qa (X6 hu (.inr rfl) rfl Qy k1 Dd rfl) Xb)),Dx,Qn,Ql,eqN,(Uj ⟨pl3,rfl⟩ Qj)⟩
    exact D.path (.inr rfl) (args:=[]) (args':=[]) (fun _ _ => .nil) (fin:=.pan (tk 322)) Dk
   |ok y2=>
    obtain⟨⟨t4k,t4x,t4n,t4p,t4c⟩,m3⟩:=y2;(try dsimp only [andThen,ok,bad] at hr)
    rw[Xe] at hr;cases hr;have D:Told b E (mkN E.len hd w.heap.size [l,l.tail,m3] [.mk t4k t4x t4n t4p t4c] [] []) hd w [Qo 0 (tk 129) (tk 321),Qx Jj 0 1 (tk 321),Qq 64 [] 1 2 (tk 256) 0 (tk 321)] ⟨[],[],[],[]⟩ []:=
     ⟨h,rfl,rfl,rfl,rfl,Qa (Qp Dd (.inl rfl) _) (Qa (Qz km rfl _) (Qa (Qs hu (.inr rfl) rfl Qy k1 (.inl rfl) Dd) Xb)),Dx,Qn,Ql,eqN,Qj⟩
    exact D.path (.inr rfl) (args:=[]) (args':=[]) (fun _ _ => .nil) (fin:=.tree (.nd (.int .i64 33) (.string ⟨Jj.toArray⟩) (.int .u64 0) (tk 132) [.ab (tk 256) (tk 257) (tk 258) (tk 259) 1]) 2) Dk
 |false=>
  rw[km,if_neg Dd] at hr;cases kh:isP Qjf l with
  |true=>
   rw[kh,if_pos rfl] at hr;cases k1:Zg E.len f hd l.tail with
   |none=>rw[k1] at hr;cases hr
   |some y2=>
    rw[k1] at hr;cases y2 with
    |error pl3=>
     (try dsimp only [andThen,ok,bad] at hr)
     cases hr;have D:Told b E (mkN E.len hd w.heap.size [l,l.tail] [] [] [(pl3:Int)]) hd w [Qo 0 (tk 129) (tk 321),Qc Jj 0 (tk 321),Qx Qjf 0 1 (tk 321),Xt 64 [] 1 2 (tk 321)] ⟨[],[],[],[322]⟩ []:=
      ⟨h,rfl,rfl,rfl,rfl,Qa (Qp Dd (.inl rfl) _) (Qa (Qd km _) (Qa (Qz kh rfl _) (Qa (X6 hu (.inr rfl) rfl Qy k1 Dd rfl) Xb))),Dx,Qn,Ql,eqN,(Uj ⟨pl3,rfl⟩ Qj)⟩
     exact D.path (.inr rfl) (args:=[]) (args':=[]) (fun _ _ => .nil) (fin:=.pan (tk 322)) Dk
    |ok y2=>
     obtain⟨⟨t4k,t4x,t4n,t4p,t4c⟩,m3⟩:=y2;(try dsimp only [andThen,ok,bad] at hr)
     rw[Xe] at hr;cases hr;have D:Told b E (mkN E.len hd w.heap.size [l,l.tail,m3] [.mk t4k t4x t4n t4p t4c] [] []) hd w [Qo 0 (tk 129) (tk 321),Qc Jj 0 (tk 321),Qx Qjf 0 1 (tk 321),Qq 64 [] 1 2 (tk 256) 0 (tk 321)] ⟨[],[],[],[]⟩ []:=
      ⟨h,rfl,rfl,rfl,rfl,Qa (Qp Dd (.inl rfl) _) (Qa (Qd km _) (Qa (Qz kh rfl _) (Qa (Qs hu (.inr rfl) rfl Qy k1 (.inl rfl) Dd) Xb))),Dx,Qn,Ql,eqN,Qj⟩
     exact D.path (.inr rfl) (args:=[]) (args':=[]) (fun _ _ => .nil) (fin:=.tree (.nd (.int .i64 33) (.string ⟨Qjf.toArray⟩) (.int .u64 0) (tk 132) [.ab (tk 256) (tk 257) (tk 258) (tk 259) 1]) 2) Dk
  |false=>
   rw[kh,if_neg Dd] at hr;cases kn:isP Qmn l with
   |true=>
    rw[kn,if_pos rfl] at hr;cases k1:Zg E.len f hd l.tail with
    |none=>rw[k1] at hr;cases hr
    |some y2=>
     rw[k1] at hr;cases y2 with
     |error pl3=>
      (try dsimp only [andThen,ok,bad] at hr)
      cases hr;have D:Told b E (mkN E.len hd w.heap.size [l,l.tail] [] [] [(pl3:Int)]) hd w [Qo 0 (tk 129) (tk 321),Qc Jj 0 (tk 321),Qc Qjf 0 (tk 321),Qx Qmn 0 1 (tk 321),Xt 64 [] 1 2 (tk 321)] ⟨[],[],[],[322]⟩ []:=
       ⟨h,rfl,rfl,rfl,rfl,Qa (Qp Dd (.inl rfl) _) (Qa (Qd km _) (Qa (Qd kh _) (Qa (Qz kn rfl _) (Qa (X6 hu (.inr rfl) rfl Qy k1 Dd rfl) Xb)))),Dx,Qn,Ql,eqN,(Uj ⟨pl3,rfl⟩ Qj)⟩
      exact D.path (.inr rfl) (args:=[]) (args':=[]) (fun _ _ => .nil) (fin:=.pan (tk 322)) Dk
     |ok y2=>
      obtain⟨⟨t4k,t4x,t4n,t4p,t4c⟩,m3⟩:=y2;(try dsimp only [andThen,ok,bad] at hr)
      rw[Xe] at hr;cases hr;have D:Told b E (mkN E.len hd w.heap.size [l,l.tail,m3] [.mk t4k t4x t4n t4p t4c] [] []) hd w [Qo 0 (tk 129) (tk 321),Qc Jj 0 (tk 321),Qc Qjf 0 (tk 321),Qx Qmn 0 1 (tk 321),Qq 64 [] 1 2 (tk 256) 0 (tk 321)] ⟨[],[],[],[]⟩ []:=
       ⟨h,rfl,rfl,rfl,rfl,Qa (Qp Dd (.inl rfl) _) (Qa (Qd km _) (Qa (Qd kh _) (Qa (Qz kn rfl _) (Qa (Qs hu (.inr rfl) rfl Qy k1 (.inl rfl) Dd) Xb)))),Dx,Qn,Ql,eqN,Qj⟩
      exact D.path (.inr rfl) (args:=[]) (args':=[]) (fun _ _ => .nil) (fin:=.tree (.nd (.int .i64 33) (.string ⟨Qmn.toArray⟩) (.int .u64 0) (tk 132) [.ab (tk 256) (tk 257) (tk 258) (tk 259) 1]) 2) Dk
   |false=>
    rw[kn,if_neg Dd] at hr;cases ka:isP Xp l with
    |true=>
     rw[ka,if_pos rfl] at hr;cases k1:Zg E.len f hd l.tail with
     |none=>rw[k1] at hr;cases hr
     |some y2=>
      rw[k1] at hr;cases y2 with
      |error pl3=>
       (try dsimp only [andThen,ok,bad] at hr)
       cases hr;have D:Told b E (mkN E.len hd w.heap.size [l,l.tail] [] [] [(pl3:Int)]) hd w [Qo 0 (tk 129) (tk 321),Qc Jj 0 (tk 321),Qc Qjf 0 (tk 321),Qc Qmn 0 (tk 321),Qx Xp 0 1 (tk 321),Xt 64 [] 1 2 (tk 321)] ⟨[],[],[],[322]⟩ []:=
        ⟨h,rfl,rfl,rfl,rfl,Qa (Qp Dd (.inl rfl) _) (Qa (Qd km _) (Qa (Qd kh _) (Qa (Qd kn _) (Qa (Qz ka rfl _) (Qa (X6 hu (.inr rfl) rfl Qy k1 Dd rfl) Xb))))),Dx,Qn,Ql,eqN,(Uj ⟨pl3,rfl⟩ Qj)⟩
       exact D.path (.inr rfl) (args:=[]) (args':=[]) (fun _ _ => .nil) (fin:=.pan (tk 322)) Dk
      |ok y2=>
       obtain⟨⟨t4k,t4x,t4n,t4p,t4c⟩,m3⟩:=y2;(try dsimp only [andThen,ok,bad] at hr)
       rw[Xe] at hr;cases hr;have D:Told b E (mkN E.len hd w.heap.size [l,l.tail,m3] [.mk t4k t4x t4n t4p t4c] [] []) hd w [Qo 0 (tk 129) (tk 321),Qc Jj 0 (tk 321),Qc Qjf 0 (tk 321),Qc Qmn 0 (tk 321),Qx Xp 0 1 (tk 321),Qq 64 [] 1 2 (tk 256) 0 (tk 321)] ⟨[],[],[],[]⟩ []:=
        ⟨h,rfl,rfl,rfl,rfl,Qa (Qp Dd (.inl rfl) _) (Qa (Qd km _) (Qa (Qd kh _) (Qa (Qd kn _) (Qa (Qz ka rfl _) (Qa (Qs hu (.inr rfl) rfl Qy k1 (.inl rfl) Dd) Xb))))),Dx,Qn,Ql,eqN,Qj⟩
       exact D.path (.inr rfl) (args:=[]) (args':=[]) (fun _ _ => .nil) (fin:=.tree (.nd (.int .i64 39) (.string ⟨#[]⟩) (.int .u64 0) (tk 132) [.ab (tk 256) (tk 257) (tk 258) (tk 259) 1]) 2) Dk
    |false=>
     rw[ka,if_neg Dd] at hr;cases k1:Zw E.len f hd l with
     |none=>rw[k1] at hr;cases hr
     |some y2=>
      rw[k1] at hr;cases y2 with
      |error pl3=>
       (try dsimp only [andThen,ok,bad] at hr)
       cases hr;have D:Told b E (mkN E.len hd w.heap.size [l] [] [] [(pl3:Int)]) hd w [Qo 0 (tk 129) (tk 321),Qc Jj 0 (tk 321),Qc Qjf 0 (tk 321),Qc Qmn 0 (tk 321),Qc Xp 0 (tk 321),Xt 96 [] 0 2 (tk 321)] ⟨[],[],[],[322]⟩ []:=
        ⟨h,rfl,rfl,rfl,rfl,Qa (Qp Dd (.inl rfl) _) (Qa (Qd km _) (Qa (Qd kh _) (Qa (Qd kn _) (Qa (Qd ka _) (Qa (X6 ho (.inr rfl) rfl Qy k1 Dd rfl) Xb))))),Dx,Qn,Ql,eqN,(Uj ⟨pl3,rfl⟩ Qj)⟩
       exact D.path (.inr rfl) (args:=[]) (args':=[]) (fun _ _ => .nil) (fin:=.pan (tk 322)) Dk
      |ok y2=>
       obtain⟨⟨t4k,t4x,t4n,t4p,t4c⟩,m3⟩:=y2;(try dsimp only [andThen,ok,bad] at hr)
       exact Qnj hf hx ha ho h km kh kn ka k1 hr
end Prs
end
section
open Go.RowKit
namespace Prs
open Ev
def Hr (D:Nat)(d:Int)(len:Nat)(hd:Bool)(B:Nat)(ls:List (List Tok))(ts:List Tr)(tss:List (List Tr))(xs:List Int):Zv where
 len:=len
 L:=fun i=>ls.getD i []
 T:=fun i=>ts.getD i tr0
 TS:=fun i=>tss.getD i []
 X:=fun k=>if k=63 then .int .i64 d else mkX len hd xs k
 one:=fun k=>by
  split
  ·rfl
  ·exact Qer len hd xs k
 S:=(B ≤ ·)
 D:=D
noncomputable def heapD (hd cv:Value):Tree Q3:=(Nu hd).set 80 (some (.row [cv] 3 1))
noncomputable def chk80 (h:Tree Q3)(cv:Value):Bool:=match h.get 80 with
 |some (.row [c] t 1)=>Nat.beq t 3&&eqV 9 c cv
 |_=>false
noncomputable def Qpg (pos:List Nat)(cv1:Value)(fin:Fin)(r:Res Q3 CR):Bool:=match r with
 | .ok (.ret v) h _ _=>chk80 h cv1&&(match fin with
  | .tree sp j=>(match v with
   | .agg cells=>Qmr pos 30 (h.set 80 none) cells.toList sp&&Qcg h j (tk 321)
   |_=>false)
  |_=>false)
 | .ok (.pan v) h _ _=>chk80 h cv1&&(match fin with
  | .pan t=>eqV 9 v (.iface 58 (.agg #[t]))&&isNat pos false t
  |_=>false)
 | .no=>false
structure Tf (b:Nat)(E:Env)(N:Zv)(q:Bool)(w:World)(cs:List Xr)(T:OpT)(eqc:List (Nat×Value×Bool))(cv:Value)(d:Int):Prop where
 told:Told b E N q w cs T eqc
 bD:b<N.D
 cell:∃ fr:Nat×Nat,w.heap[N.D]? = some (.cells #[.int .i64 d] 3 fr)∧(decide (fr.1≤0)&&decide (0<fr.2))=false
 val:∀ p,AxN b N p→VR p cv (.int .i64 d)
abbrev OD (b D:Nat):Nat→Prop:=fun k=>k=b∨k=D
section
variable {b:Nat} {E:Env} {N:Zv} {q:Bool} {w:World} {cs:List Xr} {T:OpT} {eqc:List (Nat×Value×Bool)} {cv:Value} {d:Int}
theorem Tf.ctx (D:Tf b E N q w cs T eqc cv d):Ctx b E N (V6 b E N cs T eqc) (OD b N.D) w cs where
 orc:=rfl
 mean:=rfl
 ax:=rfl
 n:=rfl
 ob:=.inl rfl
 lo:=fun k hk=>by
  have:=D.bD;rcases hk with rfl|rfl
  ·exact Nat.le_refl _
  ·omega
 bw:=D.told.rd.lt
 low:=D.told.rd.1
 x0:=D.told.x0
 len:=D.told.len
 x1:=⟨q,D.told.x1⟩
 s:=fun k hk=>by rw[D.told.s];exact hk
 calls:=D.told.calls
theorem Tf.start (D:Tf b E N q w cs T eqc cv d):∃ p,Rel (V6 b E N cs T eqc) (OD b N.D) w p (heapD (tk 321) cv) w∧(∀ k,384≤k→p k=none):=by
 obtain⟨p,R0,hfree⟩:=D.told.start (hd:=tk 321) (.inr rfl);have hax:=D.told.ctx.axp R0;obtain⟨s,k1,k2,k3,k5,k6⟩:=hax.cell;obtain⟨s0,a1,a2,-⟩:=hax.rd;obtain⟨fr,f1,f2⟩:=D.cell;have hbD:=D.bD
 have R1:Rel (V6 b E N cs T eqc) (OD b N.D) w p (Nu (tk 321)) w:=⟨⟨rfl,rfl,rfl,Nat.le_refl _,fun _ _ _=>rfl⟩,R0.glob,R0.dis,fun n o hn=>by
  obtain⟨s',x1,x2,x3,x4⟩:=R0.at_ n o hn
  exact⟨s',x1,fun h1 k hk=>(x2 h1 k hk).imp (fun e => .inl e) id,x3,x4⟩,R0.one,R0.mean⟩
 have h80:(Nu (tk 321)).get 80=none:=by unfold Nu;rw[Tree.Qu,Tree.Qu,if_neg Dd,if_neg Dd];rfl
 refine⟨p,R1.put k1 h80 (fun k hk n o s' hn hs hO=>?_) (fun _ k hk => .inl (.inr ?_)) (fun k hk=>?_) ?_ (fun m e=>by cases e),hfree⟩
 ·have hk:k=s.blk:=hk;rw[k2] at hk;subst hk;unfold Nu at hn;rw[Tree.Qu] at hn;by_cases e:n=64
  ·subst e;rw[if_pos rfl] at hn;cases hn;obtain rfl:s'=s0:=Option.some.inj (hs.symm.trans a1);have hO:N.D=s'.blk:=hO;omega
  ·rw[if_neg e,Tree.Qu] at hn;by_cases e2:n=65
   ·subst e2;rw[if_pos rfl] at hn;cases hn;have hm:=R0.mean 65 0 s' (by unfold Nu;rw[Tree.Qu,if_neg Dd,Tree.Qu,if_pos rfl]) hs;obtain⟨-,hm⟩:Qfo b E.w0 s'.val (N.L (0 / 8))∧s'.foot=noF:=hm;exact hO (by rw[hm];rfl)
   ·rw[if_neg e2] at hn;cases hn
 ·rw[show k=s.blk from hk,k2]
 ·rw[show k=s.blk from hk,k2];exact(Array.getElem?_eq_some_iff.1 f1).1
 ·refine⟨k6,#[.int .i64 d],fr,by rw[k2];exact f1,by rw[k5];rfl,by rw[k3];exact Nat.le_refl 1,?_,fun j hj=>?_,fun hh=>absurd rfl hh⟩
  ·rw[k3];exact .cons (D.val p hax) .nil
  ·have:j=0:=by have:j<1:=hj;omega
   rw[this];exact f2
def OutD (b:Nat)(E:Env)(hd:Bool)(g:Nat)(d1:Int)(r:Except Nat (Tr×List Tok))(w:World)(e:Ending)(w':World):Prop:=∃ wm,SetAt g d1 w wm∧Out b E hd (Zh (w.heap.size ≤ ·)) r wm e w'
theorem Tf.path (D:Tf b E N q w cs T eqc cv d){cv1:Value}{d1:Int}(hv1:∀ p u,AxN b N p→VR p cv1 u→u=.int .i64 d1){f:FuncId}{fin:Fin}
  (run:Qpg T.pos cv1 fin (Jm Tryz.prog (V6 b E N cs T eqc) 1000 f [.pointer (some ⟨64,0,none⟩),.pointer (some ⟨80,0,none⟩)] (heapD (tk 321) cv) 384)=true):Calls Tryz.prog f #[rp b,.pointer (some ⟨N.D,0,none⟩)] w (OutD b E q N.D d1 (Qpd N fin) w):=by
 obtain⟨p,R,hfree⟩:=D.start;have hax:=D.ctx.axp R;have horc:Qhj Tryz.prog (V6 b E N cs T eqc) (OD b N.D) w:=⟨Qak D.ctx,Qem D.ctx rfl D.told.nxt D.told.app D.told.put D.told.pos,fun _ _ _ h=>by cases h⟩;cases hev:Jm Tryz.prog (V6 b E N cs T eqc) 1000 f [.pointer (some ⟨64,0,none⟩),.pointer (some ⟨80,0,none⟩)] (heapD (tk 321) cv) 384 with
 |no=>rw[hev] at run;cases run
 |ok r h' c' l=>
  rw[hev] at run;obtain⟨s80,z1,z2,z3,z5,-⟩:=hax.cell;have hp80:VR p (.pointer (some ⟨80,0,none⟩)) (.pointer (some ⟨N.D,0,none⟩)):=by
   have:=VR.ptr (o:=0) z1;rw[z2,z3] at this;exact this
  refine(Qix follows' horc hev (fun k h1 _=>?_) R (args' := #[rp b,.pointer (some ⟨N.D,0,none⟩)]) (.cons (Qfu hax) (.cons hp80 .nil)) (fun k h1 _=>hfree k h1)).mono ?_
  ·unfold heapD Nu;rw[Tree.Qu,Tree.Qu,Tree.Qu,if_neg Dw,if_neg Dw,if_neg Dw];rfl
  ·rintro e w' ⟨p',hle,-,hr,hc⟩;have hax':=D.ctx.axp hr;have k1:=hle _ _ z1;have h80:chk80 h' cv1=true:=by
    unfold Qpg at run;cases r with
    |ret v=>rw[Bool.and_eq_true] at run;exact run.1
    |pan v=>rw[Bool.and_eq_true] at run;exact run.1
   obtain⟨c,hc80,hcv⟩:∃ c,h'.get 80=some (.row [c] 3 1)∧c=cv1:=by
    unfold chk80 at h80;split at h80
    ·rename_i c t hg;rw[Bool.and_eq_true] at h80;rw[Nat.eq_of_beq_eq_true h80.1] at hg;exact⟨c,hg,Z9 h80.2⟩
    ·cases h80
   subst hcv;obtain⟨s',y1,-,-,y4⟩:=hr.at_ _ _ hc80;obtain rfl:s'=s80:=Option.some.inj (y1.symm.trans k1);obtain⟨bs,fr,ra,rb,rc,rd,re,-⟩:=D6.at_ y4;rw[z5] at rb;rw[z2] at ra;have hl1:bs.toList.length≤[c].length:=by rw[Array.length_toList,rb];exact Nat.le_refl 1
   rw[z3,List.drop_zero,List.take_of_length_le hl1] at rd;have hbs:bs = #[.int .i64 d1]:=by
    generalize hbl:bs.toList=bl at rd;cases rd with
    |cons q1 rd=>
    cases rd
    have:=hv1 p' _ hax' q1;subst this;rw[←Array.toList_inj,hbl]
   subst hbs;have hDlt:N.D<w.heap.size:=by obtain⟨fr,f1,-⟩:=D.cell;exact(Array.getElem?_eq_some_iff.1 f1).1
   have hother:∀ k,k≠N.D→({ w with heap:=w.heap.setIfInBounds N.D (.cells #[.int .i64 d1] 3 fr) }:World).heap[k]? = w.heap[k]? := fun k hk=>by
    show (w.heap.setIfInBounds N.D _)[k]? = _
    rw[Array.getElem?_setIfInBounds_ne (Ne.symm hk)]
   have hself:({ w with heap:=w.heap.setIfInBounds N.D (.cells #[.int .i64 d1] 3 fr) }:World).heap[N.D]? = some (.cells #[.int .i64 d1] 3 fr):=by
    show (w.heap.setIfInBounds N.D _)[N.D]? = _
    rw[Array.getElem?_setIfInBounds_self_of_lt hDlt]
   refine⟨{ w with heap:=w.heap.setIfInBounds N.D (.cells #[.int .i64 d1] 3 fr) },⟨rfl,rfl,rfl,by simp,hother,fr,hself,re 0 (by rw[rb];decide)⟩,⟨hr.below.os,hr.below.tape,hr.below.output,by simpa using hr.below.size,fun k h1 h2=>?_⟩,?_⟩
   ·by_cases hk:k=N.D
    ·subst hk;rw[hself];exact ra
    ·rw[hother k hk];exact hr.below.block k (by simpa using h1) (by rintro(h|h);exact h2 h;exact hk h)
   ·unfold Qpg at run;cases r with
    |ret v=>
     rw[Bool.and_eq_true] at run;obtain⟨-,run⟩:=run;cases fin with
     |pan t=>cases run
     |tree sp j=>
      dsimp only at run;split at run
      ·rename_i cells;rw[Bool.and_eq_true] at run;obtain⟨h1,h2⟩:=run;obtain⟨hrd,h64⟩:=D.told.rdOf (.inr rfl) D.ctx hr h2;cases e with
       |returned v'=>
        have hv:VR p' (.agg cells) v':=hc;cases hv with
        |@agg _ b2 hvs=>
        refine⟨_,rfl,⟨b2.toList,by simp,?_⟩,hrd⟩;have sub:∀ x o,(h'.set 80 none).get x=some o→x≠80∧h'.get x=some o:=fun x o hx=>by
         rw[Tree.Qu] at hx;by_cases ex:x=80
         ·rw[if_pos ex] at hx;cases hx
         ·rw[if_neg ex] at hx;exact⟨ex,hx⟩
        have:=Qi4 D.ctx (hr.del 80) D.told.pos (fun n c t z s2 hn h70 hs2=>?_) 30 h1 hvs
        ·rw[D.told.s] at this;exact this
        ·obtain⟨x1,x2⟩:=sub _ _ hn;obtain⟨s3,q1,q2,-⟩:=hr.at_ _ _ x2;obtain rfl:s3=s2:=Option.some.inj (q1.symm.trans hs2);rcases q2 (by show 64≤n;omega) s3.blk rfl with (hO|hO)|hO
         ·exfalso;obtain⟨s0,a1,a2,-⟩:=hax'.rd;obtain⟨c64,t64,z64,hb64⟩:=h64
          have:=hr.one _ _ _ _ _ _ s3.blk x2 hb64 q1 a1 rfl (by show s3.blk=s0.blk;rw[hO,a2]);omega
         ·exfalso;exact x1 (hr.one _ _ _ _ _ _ s3.blk x2 hc80 q1 k1 rfl (by show s3.blk=s'.blk;rw[hO,z2]))
         ·rw[D.told.s];exact hO
       |panicked=>exact hc.elim
       |outgrown=>exact hc.elim
      ·cases run
    |pan v=>
     rw[Bool.and_eq_true] at run;obtain⟨-,run⟩:=run;cases fin with
     |tree sp j=>cases run
     |pan t=>
      dsimp only at run;rw[Bool.and_eq_true] at run;obtain rfl:=Z9 run.1;cases e with
      |returned=>exact hc.elim
      |outgrown=>exact hc.elim
      |panicked ch=>
       obtain⟨v',rfl,hv⟩:=hc;cases hv with
       |iface _ hv=>
       cases hv with
       |@agg _ b2 hvs=>
       generalize hbl:b2.toList=bl at hvs;cases hvs with
       |cons h1 h2=>
       cases h2;have h3:=Ub D.told.pos hax' run.2 h1;simp only[Bool.false_eq_true,if_false] at h3;subst h3;have hb2:b2 = #[.int .i64 (Gu N t:Int)]:=by rw[←Array.toList_inj,hbl]
       subst hb2;rfl
end
end Prs
end
end Go.Proofs.YtcbkeecabcbogaaGreatDoor
