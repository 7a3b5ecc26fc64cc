/- Scripts: operators of one. (Printed by gen_un.py.) Contract -/
import Derived.Test.YtcbkeecabcbogaaGreatDoorSaz
import Derived.LoopN
set_option maxRecDepth 20000
set_option linter.unusedSimpArgs false
set_option linter.unusedVariables false
namespace Go.Proofs.YtcbkeecabcbogaaGreatDoor
open Go.RowKit
namespace Prs
open Ev
def Dz (b q r:Nat):Rl where
 n:=79
 rowSlot:=6
 resSlot:=2
 q:=q
 r:=r
 direct:=[(0,.pointer (some ⟨64,0,none⟩),rp b)]
theorem fixU {b q r:Nat}{N:Va}{w1:World}(h1:b<q)(h2:b<r)(h3:q≠r)(h4:b<w1.heap.size):TFix (Dz b q r) b N w1 where
 bq:=h1
 br:=h2
 qr:=h3
 bw:=h4
 dir:=fun x hx p hax=>by
  obtain rfl:=List.mem_singleton.1 hx;exact Qhz hax
 dirU:=fun x hx p u hax hv=>by
  obtain rfl:=List.mem_singleton.1 hx;exact Qbr hax hv
 dirN:=fun x hx=>by
  obtain rfl:=List.mem_singleton.1 hx;simp
noncomputable def Qq5:Code:=V8 (Qaz (Qaz (Qaz (Qaz (Qaz (Ze 64))))))
theorem suf_loop {b q r F0:Nat}{E:Env}{hd:Bool}{w1:World}(h1:b<q)(h2:b<r)(h3:q≠r)(h4:b<w1.heap.size)(hF:F0≤4294967296)(hx:∀ g,g<F0→Reads b E false 22 #[rp b] (Xj E.len g 1 false))(ha:∀ g,g<F0→Reads b E false 97 #[rp b] (Qlz E.len g)){Q:Exit→Act→World→Prop}{res:Except Nat (Tr×List Tok)}
  (hQ:match res with
   | .ok (t,l')=>∀ w' a',Qp3 (Dz b q r) b E hd w1 t l' w' a'→Q .ret a' w'
   | .error p=>∀ w' a',Ua b q r w1 w'→a'.defers=[]→Q (.panic [{ v:=Vw p,recovered:=false }]) a' w'):
  ∀ (f:Nat) (x:Tr) (l:List Tok) (w:World) (a:Act),f≤F0→Jl E.len f hd x l=some res→Qp2 (Dz b q r) b E hd w1 x l w a→Vl Tryz.prog Qq5 Q a w:=by
 intro f;induction f with
 |zero=>intro x l w a _ h;rw[Jl] at h;cases h
 |succ f ih=>
  intro x l w a hf h I;rw[Jl] at h;obtain⟨xk,xx,xn,xp,xc⟩:=x;refine Zu ?_;cases k1:isP Zt l with
  |true=>
   rw[k1,if_pos rfl] at h;cases k2:Yi E.len Q8 false (Xj E.len f 1 false) f l.tail with
   |none=>rw[k2] at h;cases h
   |some y=>
    rw[k2] at h;cases y with
    |error pl=>
     cases h;have D:X0 (Dz b q r) b E (Kt E.len hd (SX (Dz b q r) w1) [l,l.tail] [.mk xk xx xn xp xc] [] [(pl:Int)]) hd w1 w [Zb 0 (tk 321),Qx Zt 0 1 (tk 321),Xq 71 [str Q8,.bool false,(.func (.func 22) #[.pointer (some ⟨64,0,none⟩)] #[])] 1 2 (tk 321)] ⟨[],[],[],[322]⟩ []:=
      ⟨rfl,rfl,rfl,rfl,Qa (Zc rfl Dd _) (Qa (Qy k1 rfl _) (Qa (Qb8 (Qg6 (hx f Dw) Dw) (.inr rfl) rfl Ud k2 Dd rfl) (Q7))),Dx,Ql,Qk,eqN,(V6 ⟨pl,rfl⟩ Qj),fixU h1 h2 h3 h4⟩
     exact D.round rfl rfl I (fin:=.pan (tk 322)) Dk hQ
    |ok y=>
     obtain⟨ts,k⟩:=y;dsimp only [andThen] at h;cases ts with
     |nil=>
      have D:X0 (Dz b q r) b E (Kt E.len hd (SX (Dz b q r) w1) [l,l.tail,k] [.mk xk xx xn xp xc] [[]] []) hd w1 w [Zb 0 (tk 321),Qx Zt 0 1 (tk 321),Yv 71 [str Q8,.bool false,(.func (.func 22) #[.pointer (some ⟨64,0,none⟩)] #[])] 1 2 0 (tk 321),Ll 0 none] ⟨[],[],[],[]⟩ []:=
       ⟨rfl,rfl,rfl,rfl,Qa (Zc rfl Dd _) (Qa (Qy k1 rfl _) (Qa (Jn (Qg6 (hx f Dw) Dw) (.inr rfl) rfl Ud k2) (Qa (cons_n rfl) (Q7)))),Dx,Ql,Qk,eqN,Qj,fixU h1 h2 h3 h4⟩
      exact D.round rfl rfl I (fin:=.again 2 (.nd (.int .i64 34) (.string ⟨#[]⟩) (.int .u64 0) (tk 128) [.ab (tk 256) (tk 257) (tk 258) (tk 259) 1])) Dk fun w' a' I'=>ih _ k w' a' Dw h I'
     |cons t1 ts=>
      have D:X0 (Dz b q r) b E (Kt E.len hd (SX (Dz b q r) w1) [l,l.tail,k] [.mk xk xx xn xp xc] [t1::ts,.mk xk xx xn xp xc::t1::ts] []) hd w1 w [Zb 0 (tk 321),Qx Zt 0 1 (tk 321),Yv 71 [str Q8,.bool false,(.func (.func 22) #[.pointer (some ⟨64,0,none⟩)] #[])] 1 2 0 (tk 321),Ll 0 (some (.ab (tk 256) (tk 257) (tk 258) (tk 259) 1,1))] ⟨[],[],[],[]⟩ []:=
       ⟨rfl,rfl,rfl,rfl,Qa (Zc rfl Dd _) (Qa (Qy k1 rfl _) (Qa (Jn (Qg6 (hx f Dw) Dw) (.inr rfl) rfl Ud k2) (Qa (Qm8 (List.cons_ne_nil _ _) rfl (Qg4 k2 Dw)) (Q7)))),Dx,Ql,Qk,eqN,Qj,fixU h1 h2 h3 h4⟩
      exact D.round rfl rfl I (fin:=.again 2 (.ab (.int .i64 34) (.string ⟨#[]⟩) (.int .u64 0) (tk 128) 10)) Dk fun w' a' I'=>ih _ k w' a' Dw h I'
  |false=>
   rw[k1,if_neg Dd] at h;cases k3:isP wDot l with
   |true=>
    rw[k3,if_pos rfl] at h;unfold U8 at h;cases k4:Xn l.tail==1 with
    |false=>
     rw[k4,if_neg Dd] at h;cases h;have D:X0 (Dz b q r) b E (Kt E.len hd (SX (Dz b q r) w1) [l,l.tail] [.mk xk xx xn xp xc] [] []) hd w1 w [Zb 0 (tk 321),Qc Zt 0 (tk 321),Qx wDot 0 1 (tk 321),Qal 1 (tk 321)] ⟨[],[],[],[]⟩ []:=
      ⟨rfl,rfl,rfl,rfl,Qa (Zc rfl Dd _) (Qa (Qd k1 _) (Qa (Qy k3 rfl _) (Qa (Qbx rfl Dd k4 _) (Q7)))),Dx,Ql,Qk,eqN,Qj,fixU h1 h2 h3 h4⟩
     exact D.round rfl rfl I (fin:=.pan (tk 136)) Dk hQ
    |true=>
     rw[k4,if_pos rfl] at h;dsimp only [andThen,ok] at h;rw[Q5] at h;have D:X0 (Dz b q r) b E (Kt E.len hd (SX (Dz b q r) w1) [l,l.tail,l.tail.tail] [.mk xk xx xn xp xc] [] []) hd w1 w [Zb 0 (tk 321),Qc Zt 0 (tk 321),Qx wDot 0 1 (tk 321),Zz 1 2 (tk 321)] ⟨[],[],[],[]⟩ []:=
      ⟨rfl,rfl,rfl,rfl,Qa (Zc rfl Dd _) (Qa (Qd k1 _) (Qa (Qy k3 rfl _) (Qa (Z7 Dd k4 rfl _) (Q7)))),Dx,Ql,Qk,eqN,Qj,fixU h1 h2 h3 h4⟩
     exact D.round rfl rfl I (fin:=.again 2 (.nd (.int .i64 35) (tk 138) (.int .u64 0) (tk 128) [.ab (tk 256) (tk 257) (tk 258) (tk 259) 1])) Dk fun w' a' I'=>ih _ l.tail.tail w' a' Dw h I'
   |false=>
    rw[k3,if_neg Dd] at h;cases k5:isP wSq l with
    |true=>
     rw[k5,if_pos rfl] at h;cases k2:Yi E.len wQs true (Qlz E.len f) f l.tail with
     |none=>rw[k2] at h;cases h
     |some y=>
      rw[k2] at h;cases y with
      |error pl=>
       cases h;have D:X0 (Dz b q r) b E (Kt E.len hd (SX (Dz b q r) w1) [l,l.tail] [.mk xk xx xn xp xc] [] [(pl:Int)]) hd w1 w [Zb 0 (tk 321),Qc Zt 0 (tk 321),Qc wDot 0 (tk 321),Qx wSq 0 1 (tk 321),Xq 71 [str wQs,.bool true,(.func (.func 97) #[.pointer (some ⟨64,0,none⟩)] #[])] 1 2 (tk 321)] ⟨[],[],[],[322]⟩ []:=
        ⟨rfl,rfl,rfl,rfl,Qa (Zc rfl Dd _) (Qa (Qd k1 _) (Qa (Qd k3 _) (Qa (Qy k5 rfl _) (Qa (Qb8 (Qg5 (ha f Dw) Dw) (.inr rfl) rfl Ud k2 Dd rfl) (Q7))))),Dx,Ql,Qk,eqN,(V6 ⟨pl,rfl⟩ Qj),fixU h1 h2 h3 h4⟩
       exact D.round rfl rfl I (fin:=.pan (tk 322)) Dk hQ
      |ok y=>
       obtain⟨ts,k⟩:=y;dsimp only [andThen] at h;cases ts with
       |nil=>
        have D:X0 (Dz b q r) b E (Kt E.len hd (SX (Dz b q r) w1) [l,l.tail,k] [.mk xk xx xn xp xc] [[]] []) hd w1 w [Zb 0 (tk 321),Qc Zt 0 (tk 321),Qc wDot 0 (tk 321),Qx wSq 0 1 (tk 321),Yv 71 [str wQs,.bool true,(.func (.func 97) #[.pointer (some ⟨64,0,none⟩)] #[])] 1 2 0 (tk 321),Ll 0 none] ⟨[],[],[],[]⟩ []:=
         ⟨rfl,rfl,rfl,rfl,Qa (Zc rfl Dd _) (Qa (Qd k1 _) (Qa (Qd k3 _) (Qa (Qy k5 rfl _) (Qa (Jn (Qg5 (ha f Dw) Dw) (.inr rfl) rfl Ud k2) (Qa (cons_n rfl) (Q7)))))),Dx,Ql,Qk,eqN,Qj,fixU h1 h2 h3 h4⟩
        exact D.round rfl rfl I (fin:=.again 2 (.nd (.int .i64 36) (.string ⟨#[]⟩) (.int .u64 0) (tk 128) [.ab (tk 256) (tk 257) (tk 258) (tk 259) 1])) Dk fun w' a' I'=>ih _ k w' a' Dw h I'
       |cons t1 ts=>
        have D:X0 (Dz b q r) b E (Kt E.len hd (SX (Dz b q r) w1) [l,l.tail,k] [.mk xk xx xn xp xc] [t1::ts,.mk xk xx xn xp xc::t1::ts] []) hd w1 w [Zb 0 (tk 321),Qc Zt 0 (tk 321),Qc wDot 0 (tk 321),Qx wSq 0 1 (tk 321),Yv 71 [str wQs,.bool true,(.func (.func 97) #[.pointer (some ⟨64,0,none⟩)] #[])] 1 2 0 (tk 321),Ll 0 (some (.ab (tk 256) (tk 257) (tk 258) (tk 259) 1,1))] ⟨[],[],[],[]⟩ []:=
         ⟨rfl,rfl,rfl,rfl,Qa (Zc rfl Dd _) (Qa (Qd k1 _) (Qa (Qd k3 _) (Qa (Qy k5 rfl _) (Qa (Jn (Qg5 (ha f Dw) Dw) (.inr rfl) rfl Ud k2) (Qa (Qm8 (List.cons_ne_nil _ _) rfl (Qg4 k2 Dw)) (Q7)))))),Dx,Ql,Qk,eqN,Qj,fixU h1 h2 h3 h4⟩
        exact D.round rfl rfl I (fin:=.again 2 (.ab (.int .i64 36) (.string ⟨#[]⟩) (.int .u64 0) (tk 128) 10)) Dk fun w' a' I'=>ih _ k w' a' Dw h I'
    |false=>
     rw[k5,if_neg Dd] at h;cases h;have D:X0 (Dz b q r) b E (Kt E.len hd (SX (Dz b q r) w1) [l] [.mk xk xx xn xp xc] [] []) hd w1 w [Zb 0 (tk 321),Qc Zt 0 (tk 321),Qc wDot 0 (tk 321),Qc wSq 0 (tk 321)] ⟨[],[],[],[]⟩ []:=
      ⟨rfl,rfl,rfl,rfl,Qa (Zc rfl Dd _) (Qa (Qd k1 _) (Qa (Qd k3 _) (Qa (Qd k5 _) (Q7)))),Dx,Ql,Qk,eqN,Qj,fixU h1 h2 h3 h4⟩
     exact D.round rfl rfl I (fin:=.ret 0 (.ab (tk 256) (tk 257) (tk 258) (tk 259) 1)) Dk hQ
theorem Qp3.outW {L:Rl}{b:Nat}{E:Env}{hd:Bool}{w w':World}{t:Tr}{l:List Tok}{a:Act}{fn:Func}(h:Qp3 L b E hd w t l w' a)(hr:L.r=w.heap.size)(hq:w.heap.size<L.q)(hf:fn.results = #[.cell L.resSlot 26]):bodyPost Tryz.prog fn (Out b E hd (Zd (w.heap.size ≤ ·)) (.ok (t,l)) w) .ret a w':=by
 obtain⟨cs,h1,h2⟩:=h.res;obtain⟨v0,v1,v2,v3,v4,rfl⟩:=h2.five;have hk:=h.keep;exact Dj hf h.ds h.resS h1 ⟨hk.os,hk.tape,hk.output,hk.size,fun k h1 h2=>hk.block k h1 h2 Dw Dw⟩ ⟨_,rfl,X3.weak (fun k hk=>hk.1) h2⟩ h.rd
theorem keep2W {b q:Nat}{w w':World}(hq:w.heap.size<q)(hk:Ua b q w.heap.size w w'):Qo b w w':=
 ⟨hk.os,hk.tape,hk.output,hk.size,fun k h1 h2=>hk.block k h1 h2 Dw Dw⟩
theorem Qqt {b f:Nat}{E:Env}{hd:Bool}{l m:List Tok}{w:World}{t:Tr}{r:Except Nat (Tr×List Tok)}(hf:f≤4294967296)(hx:∀ g,g<f→Reads b E false 22 #[rp b] (Xj E.len g 1 false))(ha:∀ g,g<f→Reads b E false 97 #[rp b] (Qlz E.len g))(ho:Reads b E hd 96 #[rp b] (Tc E.len f hd))
  (h:RdB b E w l hd) (km:isP H8 l=false) (kh:isP Ql7 l=false) (kn:isP Qpv l=false) (ka:isP Xu l=false) (k1:Tc E.len f hd l=some (.ok (t,m))) (hr:Jl E.len f hd t m=some r):Calls Tryz.prog 64 #[rp b] w (Out b E hd (Zd (w.heap.size ≤ ·)) r w):=by
 have hb:=h.lt;have HR:=Dh h;have HO:=Dh ho;have HX:=Dh hx;have HA:=Dh ha;have HF:=Dh hf;have HN:=Dh k1;have HL:=Dh hr;have HP:=Dh fun w (h:RdB b E w l hd)=>Az b E l hd w h
 have T1:=Dh fun w (h:RdB b E w l hd)=>Qde b E l hd w H8 h
 have T2:=Dh fun w (h:RdB b E w l hd)=>Qde b E l hd w Ql7 h
 have T3:=Dh fun w (h:RdB b E w l hd)=>Qde b E l hd w Qpv h
 have T4:=Dh fun w (h:RdB b E w l hd)=>Qde b E l hd w Xu h
 rw[km] at T1;rw[kh] at T2;rw[kn] at T3;rw[ka] at T4;clear h ho hx ha hf k1 hr km kh kn ka;go_enter Tryz.func64,Tryz.ntmps64
 go_wp2_with (go_at_call 32;refine(HP.out _ (HR.out.new _)).mono ?_;rintro e w2 ⟨rfl,hB0⟩;have hr2:=Dh ((HR.out.new _).keep hB0);have hB:=Dh hB0;clear hB0)
 have hs2:w.heap.size+1≤w2.heap.size:=by have:=hB.out.size;rw[World.size_alloc] at this;exact this
 have hz2:w2.heap[w.heap.size]? = some (.cells Q3 26 (0,0)):=(hB.out.block _ (by rw[World.size_alloc];omega)).trans (Qz w _);generalize hW:(w2.alloc (.cells #[.int .i64 (Tz l).kind,.string ⟨(Tz l).text.toArray⟩,.int .u64 (Tz l).num,.int .i64 ((Tz l).place:Int)] 46)).alloc (.cells #[.string ⟨#[45]⟩,.string ⟨#[94]⟩,.string ⟨#[33]⟩] 9)=W;have hwS:W.heap[w2.heap.size+1]? = some (.cells #[.string ⟨#[45]⟩,.string ⟨#[94]⟩,.string ⟨#[33]⟩] 9 (0,0)):=by rw[←hW];exact Jh w2 _ _
 have hwR:=Dh (show RdB b E W l hd by rw[←hW];exact(hr2.out.new _).new _);have hwK:=Dh (show Qo b w W by rw[←hW];exact(((Qo.new _ _).trans (Qo.of_below hB.out (Nat.le_refl _))).trans (Qo.new _ _)).trans (Qo.new _ _));have hwZ:=Dh (show W.heap[w.heap.size]? = some (.cells Q3 26 (0,0)) by rw[←hW];exact Xw (Xw hz2 _) _);clear hW hr2 hB hz2;have hgb:w2.heap.size+1≠b:=by omega
 have hc0:W.cell? ⟨w2.heap.size+1,0,none⟩=some (.string ⟨#[45]⟩):=by unfold World.cell?;rw[hwS];rfl
 have hc1:=Dh (show W.cell? ⟨w2.heap.size+1,1,none⟩=some (.string ⟨#[94]⟩) by unfold World.cell?;rw[hwS];rfl);have hc2:=Dh (show W.cell? ⟨w2.heap.size+1,2,none⟩=some (.string ⟨#[33]⟩) by unfold World.cell?;rw[hwS];rfl);clear hwS;generalize w2.heap.size+1=g at *;generalize w2.heap.size=g0 at *;clear w2;unfold H8 at T1;unfold Ql7 at T2;unfold Qpv at T3;unfold Xu at T4;refine wp_loop_rounds 4 ?_;rw[rounds_succ];go_wp2_with (go_at_call 46;refine(T1.out _ hwR.out).mono ?_;rintro e W1 ⟨rfl,hk1,hr1⟩;rw[if_neg Dd] at hr1;have hr1:=Dh hr1;have hk1:=Dh hk1)
 have hd1:W1.cell? ⟨g,1,none⟩=some (.string ⟨#[94]⟩):=hk1.out.cell hgb hc1.out;clear hc0;rw[rounds_succ];go_wp2_with (go_at_call 46;refine(T2.out _ hr1.out).mono ?_;rintro e W2 ⟨rfl,hk2,hr2⟩;rw[if_neg Dd] at hr2;have hr2:=Dh hr2;have hk2:=Dh hk2)
 have hd2:W2.cell? ⟨g,2,none⟩=some (.string ⟨#[33]⟩):=(hk1.out.trans hk2.out).cell hgb hc2.out;clear hd1;rw[rounds_succ];go_wp2_with (go_at_call 46;refine(T3.out _ hr2.out).mono ?_;rintro e W3 ⟨rfl,hk3,hr3⟩;rw[if_neg Dd] at hr3;have hr3:=Dh hr3;have hk3:=Dh hk3)
 clear hd2;rw[rounds_succ];go_wp2_with (first|(go_at_call 46;refine(T4.out _ hr3.out).mono ?_;rintro e W4 ⟨rfl,hk4,hr4⟩;rw[if_neg Dd] at hr4;have hr4:=Dh hr4;have hk4:=Dh hk4)|(go_at_call 96;refine(HO.out _ _ _ hr4.out HN.out).mono ?_;rintro e W5 ⟨hk5,v,rfl,hv,hr5⟩;obtain⟨v0,v1,v2,v3,v4,rfl,hone⟩:=hv.cells;have hv:=Dh hv;have hone:=Dh hone;have hk5:=Dh hk5;have hr5:=Dh hr5)|((with_reducible refine Hq rfl _ _ rfl rfl (v0:=v0) (v1:=v1) (v2:=v2) (v3:=v3) (v4:=v4) ?hx ?hy hone.out ?_);(case hx=>rfl);(case hy=>rfl);intro W6 hrw hB6;have hr6:=Dh (hr5.out.keep hB6);have hrw:=Dh hrw;have hB6:=Dh hB6))
 have hkW:=(((hwK.out.trans hk1.out).trans hk2.out).trans hk3.out).trans hk4.out;have hk:=hkW.trans hk5.out;have hz6:=(Qo.of_below (b:=b) hB6.out (Nat.le_refl _)).row hb (hk5.out.row hb (hk4.out.row hb (hk3.out.row hb (hk2.out.row hb (hk1.out.row hb hwZ.out)))));have hq5:w.heap.size<W5.heap.size:=(Array.getElem?_eq_some_iff.1 (hk5.out.row hb (hk4.out.row hb (hk3.out.row hb (hk2.out.row hb (hk1.out.row hb hwZ.out)))))).1;have hq4:w.heap.size<W4.heap.size:=(Array.getElem?_eq_some_iff.1 (hk4.out.row hb (hk3.out.row hb (hk2.out.row hb (hk1.out.row hb hwZ.out))))).1;have hs4:=hkW.size;have hs5:=hk5.out.size;refine Ky (c':=Qq5) Dk (suf_loop (q:=W5.heap.size) (r:=w.heap.size) (F0:=f) (w1:=w) Dw hb Dw hb HF.out HX.out HA.out (res:=r) ?_ f t m _ _ (Nat.le_refl _) HL.out ?_)
 ·cases r with
  |error p=>
   intro w' a' hk' hd';obtain⟨tm,ds⟩:=a';obtain rfl:ds=[]:=hd';exact⟨rfl,keep2W hq5 hk',rfl⟩
  |ok y=>
   obtain⟨t',l'⟩:=y;intro w' a' hE;exact hE.outW rfl hq5 (show Tryz.f64.results = #[.cell 2 26] from rfl)
 ·exact {
   rd:=hr6.out
   row:=⟨[v0,v1,v2,v3,v4],hrw.out,X3.frame (fun k hk1 hk2=>⟨by omega,by show k≠W5.heap.size;omega,by show k≠w.heap.size;omega⟩) (fun k hk1 hk2=>hB6.out.block k hk2) hv.out.C⟩
   res:=hz6
   keep:=⟨hB6.out.os.trans hk.os,hB6.out.tape.trans hk.tape,hB6.out.output.trans hk.output,Nat.le_trans hk.size hB6.out.size,fun k h1 h2 h3 h4=>(hB6.out.block k (Nat.lt_of_lt_of_le h1 hk.size)).trans (hk.block k h1 h2)⟩
   rowS:=rfl
   resS:=rfl
   dirS:=fun x hx=>by
    obtain rfl:=List.mem_singleton.1 hx;rfl
   n:=rfl
   ds:=rfl }
theorem unary_c {b f:Nat}{E:Env}{hd:Bool}(hf:f≤4294967296)(hx:∀ g,g<f→Reads b E false 22 #[rp b] (Xj E.len g 1 false))(ha:∀ g,g<f→Reads b E false 97 #[rp b] (Qlz E.len g))(hu:Reads b E hd 64 #[rp b] (Vg E.len f hd))(ho:Reads b E hd 96 #[rp b] (Tc E.len f hd)):Reads b E hd 64 #[rp b] (Vg E.len (f+1) hd):=by
 intro l w r h hr;rw[Vg] at hr;cases km:isP H8 l with
 |true=>
  rw[km,if_pos rfl] at hr;cases k1:Vg E.len f hd l.tail with
  |none=>rw[k1] at hr;cases hr
  |some y2=>
   rw[k1] at hr;cases y2 with
   |error pl3=>
    (try dsimp only [andThen,ok,bad] at hr)
    cases hr;have D:Told b E (mkN E.len hd w.heap.size [l,l.tail] [] [] [(pl3:Int)]) hd w [Qp 0 (tk 129) (tk 321),Qx H8 0 1 (tk 321),Xq 64 [] 1 2 (tk 321)] ⟨[],[],[],[322]⟩ []:=
     ⟨h,rfl,rfl,rfl,rfl,Qa (Qq Dd (.inl rfl) _) (Qa (Qy km rfl _) (Qa (Zf hu (.inr rfl) rfl Qv k1 Dd rfl) Q7)),Dx,Ql,Qk,eqN,(V6 ⟨pl3,rfl⟩ Qj)⟩
    exact D.path (.inr rfl) (args:=[]) (args':=[]) (fun _ _ => .nil) (fin:=.pan (tk 322)) Dk
   |ok y2=>
    obtain⟨⟨t4k,t4x,t4n,t4p,t4c⟩,m3⟩:=y2;(try dsimp only [andThen,ok,bad] at hr)
    rw[Xc] at hr;cases hr;have D:Told b E (mkN E.len hd w.heap.size [l,l.tail,m3] [.mk t4k t4x t4n t4p t4c] [] []) hd w [Qp 0 (tk 129) (tk 321),Qx H8 0 1 (tk 321),Qm 64 [] 1 2 (tk 256) 0 (tk 321)] ⟨[],[],[],[]⟩ []:=
     ⟨h,rfl,rfl,rfl,rfl,Qa (Qq Dd (.inl rfl) _) (Qa (Qy km rfl _) (Qa (Qs hu (.inr rfl) rfl Qv k1 (.inl rfl) Dd) Q7)),Dx,Ql,Qk,eqN,Qj⟩
    exact D.path (.inr rfl) (args:=[]) (args':=[]) (fun _ _ => .nil) (fin:=.tree (.nd (.int .i64 33) (.string ⟨H8.toArray⟩) (.int .u64 0) (tk 132) [.ab (tk 256) (tk 257) (tk 258) (tk 259) 1]) 2) Dk
 |false=>
  rw[km,if_neg Dd] at hr;cases kh:isP Ql7 l with
  |true=>
   rw[kh,if_pos rfl] at hr;cases k1:Vg E.len f hd l.tail with
   |none=>rw[k1] at hr;cases hr
   |some y2=>
    rw[k1] at hr;cases y2 with
    |error pl3=>
     (try dsimp only [andThen,ok,bad] at hr)
     cases hr;have D:Told b E (mkN E.len hd w.heap.size [l,l.tail] [] [] [(pl3:Int)]) hd w [Qp 0 (tk 129) (tk 321),Qc H8 0 (tk 321),Qx Ql7 0 1 (tk 321),Xq 64 [] 1 2 (tk 321)] ⟨[],[],[],[322]⟩ []:=
      ⟨h,rfl,rfl,rfl,rfl,Qa (Qq Dd (.inl rfl) _) (Qa (Qd km _) (Qa (Qy kh rfl _) (Qa (Zf hu (.inr rfl) rfl Qv k1 Dd rfl) Q7))),Dx,Ql,Qk,eqN,(V6 ⟨pl3,rfl⟩ Qj)⟩
     exact D.path (.inr rfl) (args:=[]) (args':=[]) (fun _ _ => .nil) (fin:=.pan (tk 322)) Dk
    |ok y2=>
     obtain⟨⟨t4k,t4x,t4n,t4p,t4c⟩,m3⟩:=y2;(try dsimp only [andThen,ok,bad] at hr)
     rw[Xc] at hr;cases hr;have D:Told b E (mkN E.len hd w.heap.size [l,l.tail,m3] [.mk t4k t4x t4n t4p t4c] [] []) hd w [Qp 0 (tk 129) (tk 321),Qc H8 0 (tk 321),Qx Ql7 0 1 (tk 321),Qm 64 [] 1 2 (tk 256) 0 (tk 321)] ⟨[],[],[],[]⟩ []:=
      ⟨h,rfl,rfl,rfl,rfl,Qa (Qq Dd (.inl rfl) _) (Qa (Qd km _) (Qa (Qy kh rfl _) (Qa (Qs hu (.inr rfl) rfl Qv k1 (.inl rfl) Dd) Q7))),Dx,Ql,Qk,eqN,Qj⟩
     exact D.path (.inr rfl) (args:=[]) (args':=[]) (fun _ _ => .nil) (fin:=.tree (.nd (.int .i64 33) (.string ⟨Ql7.toArray⟩) (.int .u64 0) (tk 132) [.ab (tk 256) (tk 257) (tk 258) (tk 259) 1]) 2) Dk
  |false=>
   rw[kh,if_neg Dd] at hr;cases kn:isP Qpv l with
   |true=>
    rw[kn,if_pos rfl] at hr;cases k1:Vg E.len f hd l.tail with
    |none=>rw[k1] at hr;cases hr
    |some y2=>
     rw[k1] at hr;cases y2 with
     |error pl3=>
      (try dsimp only [andThen,ok,bad] at hr)
      cases hr;have D:Told b E (mkN E.len hd w.heap.size [l,l.tail] [] [] [(pl3:Int)]) hd w [Qp 0 (tk 129) (tk 321),Qc H8 0 (tk 321),Qc Ql7 0 (tk 321),Qx Qpv 0 1 (tk 321),Xq 64 [] 1 2 (tk 321)] ⟨[],[],[],[322]⟩ []:=
       ⟨h,rfl,rfl,rfl,rfl,Qa (Qq Dd (.inl rfl) _) (Qa (Qd km _) (Qa (Qd kh _) (Qa (Qy kn rfl _) (Qa (Zf hu (.inr rfl) rfl Qv k1 Dd rfl) Q7)))),Dx,Ql,Qk,eqN,(V6 ⟨pl3,rfl⟩ Qj)⟩
      exact D.path (.inr rfl) (args:=[]) (args':=[]) (fun _ _ => .nil) (fin:=.pan (tk 322)) Dk
     |ok y2=>
      obtain⟨⟨t4k,t4x,t4n,t4p,t4c⟩,m3⟩:=y2;(try dsimp only [andThen,ok,bad] at hr)
      rw[Xc] at hr;cases hr;have D:Told b E (mkN E.len hd w.heap.size [l,l.tail,m3] [.mk t4k t4x t4n t4p t4c] [] []) hd w [Qp 0 (tk 129) (tk 321),Qc H8 0 (tk 321),Qc Ql7 0 (tk 321),Qx Qpv 0 1 (tk 321),Qm 64 [] 1 2 (tk 256) 0 (tk 321)] ⟨[],[],[],[]⟩ []:=
       ⟨h,rfl,rfl,rfl,rfl,Qa (Qq Dd (.inl rfl) _) (Qa (Qd km _) (Qa (Qd kh _) (Qa (Qy kn rfl _) (Qa (Qs hu (.inr rfl) rfl Qv k1 (.inl rfl) Dd) Q7)))),Dx,Ql,Qk,eqN,Qj⟩
      exact D.path (.inr rfl) (args:=[]) (args':=[]) (fun _ _ => .nil) (fin:=.tree (.nd (.int .i64 33) (.string ⟨Qpv.toArray⟩) (.int .u64 0) (tk 132) [.ab (tk 256) (tk 257) (tk 258) (tk 259) 1]) 2) Dk
   |false=>
    rw[kn,if_neg Dd] at hr;cases ka:isP Xu l with
    |true=>
     rw[ka,if_pos rfl] at hr;cases k1:Vg E.len f hd l.tail with
     |none=>rw[k1] at hr;cases hr
     |some y2=>
      rw[k1] at hr;cases y2 with
      |error pl3=>
       (try dsimp only [andThen,ok,bad] at hr)
       cases hr;have D:Told b E (mkN E.len hd w.heap.size [l,l.tail] [] [] [(pl3:Int)]) hd w [Qp 0 (tk 129) (tk 321),Qc H8 0 (tk 321),Qc Ql7 0 (tk 321),Qc Qpv 0 (tk 321),Qx Xu 0 1 (tk 321),Xq 64 [] 1 2 (tk 321)] ⟨[],[],[],[322]⟩ []:=
        ⟨h,rfl,rfl,rfl,rfl,Qa (Qq Dd (.inl rfl) _) (Qa (Qd km _) (Qa (Qd kh _) (Qa (Qd kn _) (Qa (Qy ka rfl _) (Qa (Zf hu (.inr rfl) rfl Qv k1 Dd rfl) Q7))))),Dx,Ql,Qk,eqN,(V6 ⟨pl3,rfl⟩ Qj)⟩
       exact D.path (.inr rfl) (args:=[]) (args':=[]) (fun _ _ => .nil) (fin:=.pan (tk 322)) Dk
      |ok y2=>
       obtain⟨⟨t4k,t4x,t4n,t4p,t4c⟩,m3⟩:=y2;(try dsimp only [andThen,ok,bad] at hr)
       rw[Xc] at hr;cases hr;have D:Told b E (mkN E.len hd w.heap.size [l,l.tail,m3] [.mk t4k t4x t4n t4p t4c] [] []) hd w [Qp 0 (tk 129) (tk 321),Qc H8 0 (tk 321),Qc Ql7 0 (tk 321),Qc Qpv 0 (tk 321),Qx Xu 0 1 (tk 321),Qm 64 [] 1 2 (tk 256) 0 (tk 321)] ⟨[],[],[],[]⟩ []:=
        ⟨h,rfl,rfl,rfl,rfl,Qa (Qq Dd (.inl rfl) _) (Qa (Qd km _) (Qa (Qd kh _) (Qa (Qd kn _) (Qa (Qy ka rfl _) (Qa (Qs hu (.inr rfl) rfl Qv k1 (.inl rfl) Dd) Q7))))),Dx,Ql,Qk,eqN,Qj⟩
       exact D.path (.inr rfl) (args:=[]) (args':=[]) (fun _ _ => .nil) (fin:=.tree (.nd (.int .i64 39) (.string ⟨#[]⟩) (.int .u64 0) (tk 132) [.ab (tk 256) (tk 257) (tk 258) (tk 259) 1]) 2) Dk
    |false=>
     rw[ka,if_neg Dd] at hr;cases k1:Tc E.len f hd l with
     |none=>rw[k1] at hr;cases hr
     |some y2=>
      rw[k1] at hr;cases y2 with
      |error pl3=>
       (try dsimp only [andThen,ok,bad] at hr)
       cases hr;have D:Told b E (mkN E.len hd w.heap.size [l] [] [] [(pl3:Int)]) hd w [Qp 0 (tk 129) (tk 321),Qc H8 0 (tk 321),Qc Ql7 0 (tk 321),Qc Qpv 0 (tk 321),Qc Xu 0 (tk 321),Xq 96 [] 0 2 (tk 321)] ⟨[],[],[],[322]⟩ []:=
        ⟨h,rfl,rfl,rfl,rfl,Qa (Qq Dd (.inl rfl) _) (Qa (Qd km _) (Qa (Qd kh _) (Qa (Qd kn _) (Qa (Qd ka _) (Qa (Zf ho (.inr rfl) rfl Qv k1 Dd rfl) Q7))))),Dx,Ql,Qk,eqN,(V6 ⟨pl3,rfl⟩ Qj)⟩
       exact D.path (.inr rfl) (args:=[]) (args':=[]) (fun _ _ => .nil) (fin:=.pan (tk 322)) Dk
      |ok y2=>
       obtain⟨⟨t4k,t4x,t4n,t4p,t4c⟩,m3⟩:=y2;(try dsimp only [andThen,ok,bad] at hr)
       exact Qqt hf hx ha ho h km kh kn ka k1 hr
def Hu (i:Nat)(r:Bool):Xt:=⟨1000000,[],0,.bool true,.more i r⟩
theorem H9 {b:Nat}{E:Env}{N:Va}{w0:World}{i:Nat}{r:Bool}(h:decide (0<(N.L i).length)=r):Uc b E N w0 (Hu i r):=h
theorem Wq {α:Type}(x:α)(l:List α):decide (0<(x::l).length)=true:=decide_eq_true (Nat.succ_pos _)
noncomputable def Bj:Code:=V8 (seqL (Qaz (Qaz (Ze 27))))
theorem Qrx {b q rr F0:Nat}{E:Env}{hd:Bool}{w1:World}{v0 v1 v2 v3:Value}(hq:b<q)(hb:b<w1.heap.size)(o0:v0.oneCell'=true)(o1:v1.oneCell'=true)(o2:v2.oneCell'=true)(o3:v3.oneCell'=true)(hF:F0≤4294967296)
  (hs:∀ g p:Nat,g<F0→Reads b E hd 53 #[rp b,.int .i64 (p:Int)] (Ye E.len g p)) (hf:∀ g p:Nat,g<F0→Reads b E hd 54 #[rp b,.int .i64 (p:Int)] (Kw E.len g p)) {Q:Exit→Act→World→Prop} {r:Except Nat (List Tr×List Tok)}
  (hQ:match r with
   | .ok (ts,l')=>∀ w' a',Nl (Yy 47 3 2 b q rr v0 v1 v2 v3) b E hd w1 ts l' w' a'→Q (.exit 0) a' w'
   | .error p=>∀ w' a',Zx b q w1 w'→a'.defers=[]→Q (.panic [{ v:=Vw p,recovered:=false }]) a' w'):
  ∀ (f:Nat) (acc:List Tr) (l:List Tok) (w:World) (a:Act),acc.length+f≤F0→Y1 E.len f acc l=some r→Nl (Yy 47 3 2 b q rr v0 v1 v2 v3) b E hd w1 acc l w a→Vl Tryz.prog Bj Q a w:=by
 intro f;induction f with
 |zero=>intro acc l w a _ h;rw[Y1] at h;cases h
 |succ f ih=>
  intro acc l w a hfu h I;rw[Y1.eq_def] at h;dsimp only at h;refine Zu ?_;have X:=fun N=>fixI (n:=47) (rowSlot:=3) (resSlot:=2) (r:=rr) (N:=N) hq hb o0 o1 o2 o3
  have nb:∀ {N:Va},∀ x∈(Yy 47 3 2 b q rr v0 v1 v2 v3).boxes,∀ p u,AxN b N p→VR p x.cell u→u=x.real:=fun x hx=>by cases hx
  cases l with
  |nil=>
   cases h;have D:X8 (Yy 47 3 2 b q rr v0 v1 v2 v3) b E (Qe2 rr E.len hd w1.heap.size [[]] [] [acc] []) hd w1 w [Hu 0 false] ⟨[],[],[],[]⟩ []:=
    ⟨rfl,rfl,rfl,rfl,Qa (H9 rfl) (Q7),Dx,Ql,Qk,eqN,Qj,X _ rfl,nb,duI rfl,dnI⟩
   exact D.round rfl rfl I (fin:=.exit 0 0 0) (fun _ _ _=>by kernel_rfl) hQ
  |cons t0 l=>
   dsimp only at h;cases k1:isP Qdd (t0::l) with
   |true=>
    rw[k1,if_pos rfl] at h;cases k2:Ye E.len f (atP E.len (t0::l)) l with
    |none=>rw[k2] at h;cases h
    |some y=>
     rw[k2] at h;cases y with
     |error pl=>
      cases h;have D:X8 (Yy 47 3 2 b q rr v0 v1 v2 v3) b E (Qe2 rr E.len hd w1.heap.size [t0::l,l] [] [acc] [(pl:Int)]) hd w1 w [Hu 0 true,Zb 0 (tk 321),Qx Qdd 0 1 (tk 321),Xq 53 [tk 128] 1 2 (tk 321)] ⟨[],[],[],[322]⟩ []:=
       ⟨rfl,rfl,rfl,rfl,Qa (H9 (Wq _ _)) (Qa (Zc rfl Dd _) (Qa (Qy k1 rfl _) (Qa (Zf (hs f _ Dw) (.inr rfl) rfl (Ad (i:=0) rfl Dd) k2 Dd rfl) (Q7)))),Dx,Ql,Qk,eqN,(V6 ⟨pl,rfl⟩ Qj),X _ rfl,nb,duI rfl,dnI⟩
      exact D.round rfl rfl I (fin:=.pan (tk 322)) (fun _ _ _=>by kernel_rfl) hQ
     |ok y=>
      obtain⟨t,m⟩:=y;dsimp only [andThen] at h;cases m with
      |nil=>
       dsimp only at h;have D:X8 (Yy 47 3 2 b q rr v0 v1 v2 v3) b E (Qe2 rr E.len hd w1.heap.size [t0::l,l,[]] [t] [acc,acc++[t]] []) hd w1 w [Hu 0 true,Zb 0 (tk 321),Qx Qdd 0 1 (tk 321),Qm 53 [tk 128] 1 2 (tk 256) 0 (tk 321),Hu 2 false] ⟨[],[(0,Zy 0,1)],[],[]⟩ []:=
        ⟨rfl,rfl,rfl,rfl,Qa (H9 (Wq _ _)) (Qa (Zc rfl Dd _) (Qa (Qy k1 rfl _) (Qa (Qs (hs f _ Dw) (.inr rfl) rfl (Ad (i:=0) rfl Dd) k2 (.inl rfl) Dd) (Qa (H9 rfl) (Q7))))),Dx,Qtc Dw,Qk,eqN,Qj,X _ rfl,nb,duI rfl,dnI⟩
       exact D.round rfl rfl I (fin:=.again 2 1) (fun _ _ _=>by kernel_rfl) fun w' a' I'=>ih (acc++[t]) [] w' a' (by simp;omega) h I'
      |cons u m=>
       dsimp only at h;unfold Qdh at h;have go:∀ m2,((Xn (u::m)==5)=true∧m2=(u::m).tail)∨((Xn (u::m)==5)=false∧isP Qgj (u::m)=true∧m2=u::m)→Y1 E.len f (acc++[t]) m2=some r→Bj.wp Tryz.prog (Exit.then (fun a w=>Vl Tryz.prog Bj Q a w) Q) a w:=fun m2 hm2 hrest=>by
        have D:X8 (Yy 47 3 2 b q rr v0 v1 v2 v3) b E (Qe2 rr E.len hd w1.heap.size [t0::l,l,u::m,m2] [t] [acc,acc++[t]] []) hd w1 w [Hu 0 true,Zb 0 (tk 321),Qx Qdd 0 1 (tk 321),Qm 53 [tk 128] 1 2 (tk 256) 0 (tk 321),Hu 2 true,Qjd Qgj 2 3 (tk 321)] ⟨[],[(0,Zy 0,1)],[],[]⟩ []:=
         ⟨rfl,rfl,rfl,rfl,Qa (H9 (Wq _ _)) (Qa (Zc rfl Dd _) (Qa (Qy k1 rfl _) (Qa (Qs (hs f _ Dw) (.inr rfl) rfl (Ad (i:=0) rfl Dd) k2 (.inl rfl) Dd) (Qa (H9 (Wq _ _)) (Qa (Qme hm2 _) (Q7)))))),Dx,Qtc Dw,Qk,eqN,Qj,X _ rfl,nb,duI rfl,dnI⟩
        exact D.round rfl rfl I (fin:=.again 3 1) (fun _ _ _=>by kernel_rfl) fun w' a' I'=>ih (acc++[t]) m2 w' a' (by simp;omega) hrest I'
       cases k3:Xn (u::m)==5 with
       |true=>
        rw[k3,if_pos rfl] at h;exact go m (.inl ⟨k3,rfl⟩) h
       |false=>
        rw[k3,if_neg Dd] at h;cases k4:isP Qgj (u::m) with
        |true=>
         rw[k4,if_pos rfl] at h;exact go (u::m) (.inr ⟨k3,k4,rfl⟩) h
        |false=>
         rw[k4,if_neg Dd] at h;cases h;have D:X8 (Yy 47 3 2 b q rr v0 v1 v2 v3) b E (Qe2 rr E.len hd w1.heap.size [t0::l,l,u::m] [t] [acc,acc++[t]] []) hd w1 w [Hu 0 true,Zb 0 (tk 321),Qx Qdd 0 1 (tk 321),Qm 53 [tk 128] 1 2 (tk 256) 0 (tk 321),Hu 2 true,Qam Qgj 2 (tk 321)] ⟨[],[(0,Zy 0,1)],[],[]⟩ []:=
          ⟨rfl,rfl,rfl,rfl,Qa (H9 (Wq _ _)) (Qa (Zc rfl Dd _) (Qa (Qy k1 rfl _) (Qa (Qs (hs f _ Dw) (.inr rfl) rfl (Ad (i:=0) rfl Dd) k2 (.inl rfl) Dd) (Qa (H9 (Wq _ _)) (Qa (Qct rfl Dd k3 k4 _) (Q7)))))),Dx,Qtc Dw,Qk,eqN,Qj,X _ rfl,nb,duI rfl,dnI⟩
         exact D.round rfl rfl I (fin:=.pan (tk 144)) (fun _ _ _=>by kernel_rfl) hQ
   |false=>
    rw[k1,if_neg Dd] at h;cases k5:isP Tm (t0::l) with
    |true=>
     rw[k5,if_pos rfl] at h;cases k2:Kw E.len f (atP E.len (t0::l)) l with
     |none=>rw[k2] at h;cases h
     |some y=>
      rw[k2] at h;cases y with
      |error pl=>
       cases h;have D:X8 (Yy 47 3 2 b q rr v0 v1 v2 v3) b E (Qe2 rr E.len hd w1.heap.size [t0::l,l] [] [acc] [(pl:Int)]) hd w1 w [Hu 0 true,Zb 0 (tk 321),Qc Qdd 0 (tk 321),Qx Tm 0 1 (tk 321),Xq 54 [tk 128] 1 2 (tk 321)] ⟨[],[],[],[322]⟩ []:=
        ⟨rfl,rfl,rfl,rfl,Qa (H9 (Wq _ _)) (Qa (Zc rfl Dd _) (Qa (Qd k1 _) (Qa (Qy k5 rfl _) (Qa (Zf (hf f _ Dw) (.inr rfl) rfl (Ad (i:=0) rfl Dd) k2 Dd rfl) (Q7))))),Dx,Ql,Qk,eqN,(V6 ⟨pl,rfl⟩ Qj),X _ rfl,nb,duI rfl,dnI⟩
       exact D.round rfl rfl I (fin:=.pan (tk 322)) (fun _ _ _=>by kernel_rfl) hQ
      |ok y=>
       obtain⟨t,m⟩:=y;dsimp only [andThen] at h;cases m with
       |nil=>
        dsimp only at h;have D:X8 (Yy 47 3 2 b q rr v0 v1 v2 v3) b E (Qe2 rr E.len hd w1.heap.size [t0::l,l,[]] [t] [acc,acc++[t]] []) hd w1 w [Hu 0 true,Zb 0 (tk 321),Qc Qdd 0 (tk 321),Qx Tm 0 1 (tk 321),Qm 54 [tk 128] 1 2 (tk 256) 0 (tk 321),Hu 2 false] ⟨[],[(0,Zy 0,1)],[],[]⟩ []:=
         ⟨rfl,rfl,rfl,rfl,Qa (H9 (Wq _ _)) (Qa (Zc rfl Dd _) (Qa (Qd k1 _) (Qa (Qy k5 rfl _) (Qa (Qs (hf f _ Dw) (.inr rfl) rfl (Ad (i:=0) rfl Dd) k2 (.inl rfl) Dd) (Qa (H9 rfl) (Q7)))))),Dx,Qtc Dw,Qk,eqN,Qj,X _ rfl,nb,duI rfl,dnI⟩
        exact D.round rfl rfl I (fin:=.again 2 1) (fun _ _ _=>by kernel_rfl) fun w' a' I'=>ih (acc++[t]) [] w' a' (by simp;omega) h I'
       |cons u m=>
        dsimp only at h;unfold Qdh at h;have go:∀ m2,((Xn (u::m)==5)=true∧m2=(u::m).tail)∨((Xn (u::m)==5)=false∧isP Qgj (u::m)=true∧m2=u::m)→Y1 E.len f (acc++[t]) m2=some r→Bj.wp Tryz.prog (Exit.then (fun a w=>Vl Tryz.prog Bj Q a w) Q) a w:=fun m2 hm2 hrest=>by
         have D:X8 (Yy 47 3 2 b q rr v0 v1 v2 v3) b E (Qe2 rr E.len hd w1.heap.size [t0::l,l,u::m,m2] [t] [acc,acc++[t]] []) hd w1 w [Hu 0 true,Zb 0 (tk 321),Qc Qdd 0 (tk 321),Qx Tm 0 1 (tk 321),Qm 54 [tk 128] 1 2 (tk 256) 0 (tk 321),Hu 2 true,Qjd Qgj 2 3 (tk 321)] ⟨[],[(0,Zy 0,1)],[],[]⟩ []:=
          ⟨rfl,rfl,rfl,rfl,Qa (H9 (Wq _ _)) (Qa (Zc rfl Dd _) (Qa (Qd k1 _) (Qa (Qy k5 rfl _) (Qa (Qs (hf f _ Dw) (.inr rfl) rfl (Ad (i:=0) rfl Dd) k2 (.inl rfl) Dd) (Qa (H9 (Wq _ _)) (Qa (Qme hm2 _) (Q7))))))),Dx,Qtc Dw,Qk,eqN,Qj,X _ rfl,nb,duI rfl,dnI⟩
         exact D.round rfl rfl I (fin:=.again 3 1) (fun _ _ _=>by kernel_rfl) fun w' a' I'=>ih (acc++[t]) m2 w' a' (by simp;omega) hrest I'
        cases k3:Xn (u::m)==5 with
        |true=>
         rw[k3,if_pos rfl] at h;exact go m (.inl ⟨k3,rfl⟩) h
        |false=>
         rw[k3,if_neg Dd] at h;cases k4:isP Qgj (u::m) with
         |true=>
          rw[k4,if_pos rfl] at h;exact go (u::m) (.inr ⟨k3,k4,rfl⟩) h
         |false=>
          rw[k4,if_neg Dd] at h;cases h;have D:X8 (Yy 47 3 2 b q rr v0 v1 v2 v3) b E (Qe2 rr E.len hd w1.heap.size [t0::l,l,u::m] [t] [acc,acc++[t]] []) hd w1 w [Hu 0 true,Zb 0 (tk 321),Qc Qdd 0 (tk 321),Qx Tm 0 1 (tk 321),Qm 54 [tk 128] 1 2 (tk 256) 0 (tk 321),Hu 2 true,Qam Qgj 2 (tk 321)] ⟨[],[(0,Zy 0,1)],[],[]⟩ []:=
           ⟨rfl,rfl,rfl,rfl,Qa (H9 (Wq _ _)) (Qa (Zc rfl Dd _) (Qa (Qd k1 _) (Qa (Qy k5 rfl _) (Qa (Qs (hf f _ Dw) (.inr rfl) rfl (Ad (i:=0) rfl Dd) k2 (.inl rfl) Dd) (Qa (H9 (Wq _ _)) (Qa (Qct rfl Dd k3 k4 _) (Q7))))))),Dx,Qtc Dw,Qk,eqN,Qj,X _ rfl,nb,duI rfl,dnI⟩
          exact D.round rfl rfl I (fin:=.pan (tk 144)) (fun _ _ _=>by kernel_rfl) hQ
    |false=>
     rw[k5,if_neg Dd] at h;cases h;have D:X8 (Yy 47 3 2 b q rr v0 v1 v2 v3) b E (Qe2 rr E.len hd w1.heap.size [t0::l] [] [acc] []) hd w1 w [Hu 0 true,Zb 0 (tk 321),Qc Qdd 0 (tk 321),Qc Tm 0 (tk 321),Qan 0 (tk 321)] ⟨[],[],[],[]⟩ []:=
      ⟨rfl,rfl,rfl,rfl,Qa (H9 (Wq _ _)) (Qa (Zc rfl Dd _) (Qa (Qd k1 _) (Qa (Qd k5 _) (Qa (Qb3 rfl Dd _) (Q7))))),Dx,Ql,Qk,eqN,Qj,X _ rfl,nb,duI rfl,dnI⟩
     exact D.round rfl rfl I (fin:=.pan (tk 128)) (fun _ _ _=>by kernel_rfl) hQ
theorem Qrv {b f:Nat}{E:Env}{hd:Bool}(hF:f≤4294967296)(hs:∀ g p:Nat,g<f→Reads b E hd 53 #[rp b,.int .i64 (p:Int)] (Ye E.len g p))(hfn:∀ g p:Nat,g<f→Reads b E hd 54 #[rp b,.int .i64 (p:Int)] (Kw E.len g p)):Reads b E hd 27 #[rp b] (Jb E.len f):=by
 intro l w r h hr;have hb:=h.lt;have HR:=Dh h;have HS:=Dh hs;have HN:=Dh hfn;have HF:=Dh hF;unfold Jb at hr;cases h2:Y1 E.len f [] l with
 |none=>rw[h2] at hr;cases hr
 |some y=>
 rw[h2] at hr;have H2:=Dh h2;have HY:=Dh hr;clear h hs hfn h2 hr hF;go_enter Tryz.func27,Tryz.ntmps27
 go_wp2
 refine Ky (c':=Bj) Dk (Qrx (q:=w.heap.size+1) (rr:=w.heap.size) (F0:=f) (w1:=(w.alloc (.cells Q3 26)).alloc (.cells #[.int .i64 1,.string ⟨#[]⟩,.int .u64 0,.int .i64 0,.slice none 0 0] 26)) (v0:=.int .i64 1) (v1:=.string ⟨#[]⟩) (v2:=.int .u64 0) (v3:=.int .i64 0) Dw (by rw[World.size_alloc,World.size_alloc];omega) rfl rfl rfl rfl HF.out HS.out HN.out (r:=y) ?_ f [] l _ _ Ds H2.out ?_)
 ·cases y with
  |error p=>
   intro w' a' hk' hd';obtain⟨tm,ds⟩:=a';obtain rfl:ds=[]:=hd';have hy:=HY.out;cases hy;exact⟨rfl,Zx.toR ((Qo.new _ _).trans (Qo.new _ _)) hk' Dw,rfl⟩
  |ok y=>
   obtain⟨ts,l'⟩:=y;intro w' a' I';have hy:=HY.out;cases hy;rename_i K Q' hK;refine hK _ _ ?_;obtain⟨v,F,hrow,hG,hF⟩:=I'.list;have hd0:a'.tmps.getD 2 undef=.pointer (some ⟨w.heap.size,0,none⟩):=I'.dirS (2,tk 383,.pointer (some ⟨w.heap.size,0,none⟩)) (List.mem_cons_of_mem _ (List.mem_cons_self ..));have hn:a'.tmps.size=47:=I'.n;have hz2:=Xw (Qz w (.cells Q3 26)) (.cells #[.int .i64 1,.string ⟨#[]⟩,.int .u64 0,.int .i64 0,.slice none 0 0] 26);have hk0:=I'.keep;have hz:w'.heap[w.heap.size]? = some (.cells Q3 26 (0,0)):=(hk0.block _ (Array.getElem?_eq_some_iff.1 hz2).1 Dw (by show w.heap.size≠w.heap.size+1;omega)).trans hz2;refine Qj8 (d:=46) (s:=3) (t:=2) rfl rfl rfl rfl rfl rfl Dw Dd I'.rowS hd0 hrow rfl hG.ones hz fun a2 ha2 hd2=>?_
   have hlo:∀ k,F k≠none→w.heap.size+2≤k:=fun k hk=>by
    obtain⟨_,_,-,-,-,h4,-⟩:=hG;have h4:=h4 k hk;simp only[World.size_alloc] at h4;exact h4
   refine Dj (show Tryz.f27.results = #[.cell 2 26] from rfl) (hd2.trans I'.ds) ha2 (setRow_heap _ _ Q3 _ 26 (0,0) hz) ((Zx.toR ((Qo.new _ _).trans (Qo.new _ _)) hk0 (by show w.heap.size≤w.heap.size+1;omega)).setRow (Nat.le_refl _) _) (Rt.node hG (fun k o hk=>?_) (fun k hk=>?_) 1 [] 0 0) (I'.rd.setRow hb _)
   ·have:=hlo k (by rw[hk];simp);exact(setRow_other _ _ _ _ Dw).trans (hF k o hk)
   ·simp only[World.size_alloc] at hk;omega
 ·exact {
   rd:=(HR.out.new _).new _
   row:=⟨.slice none 0 0,noF,(0,0),Jh w _ _,fun j _=>by simp,fun _=>rfl,⟨none,0,rfl,by simp,by decide,fun k hk=>absurd rfl hk,.inl ⟨rfl,rfl,rfl⟩⟩,fun k o hk=>(by cases hk),rfl,rfl,fun _ _=>rfl⟩
   box:=fun x hx=>by cases hx
   keep:=⟨rfl,rfl,rfl,Nat.le_refl _,fun _ _ _ _=>rfl⟩
   rowS:=rfl
   boxS:=fun x hx=>by cases hx
   dirS:=fun x hx=>Qa6 (P:=fun x=>Array.getD _ x.1 undef=x.2.2) hx rfl rfl
   n:=rfl
   ds:=rfl }
end Prs
end Go.Proofs.YtcbkeecabcbogaaGreatDoor
