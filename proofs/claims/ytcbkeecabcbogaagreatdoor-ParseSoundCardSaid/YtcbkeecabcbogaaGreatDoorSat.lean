/- Scripts: branches. (Printed by gen_stm.py.) -/
import Derived.Test.YtcbkeecabcbogaaGreatDoorSas
set_option maxRecDepth 20000
set_option linter.unusedSimpArgs false
set_option linter.unusedVariables false
namespace Go.Proofs.YtcbkeecabcbogaaGreatDoor
open Go.RowKit
namespace Prs
open Ev
theorem V6 {N:Va}{k:Nat}{l:List Nat}(h:∃ n:Nat,Xi N k=some (.int (if k<256 then .u64 else .i64) (n:Int)))(hl:L8 N l):L8 N (k::l):=fun x hx=>by
 rcases List.mem_cons.1 hx with rfl|hx
 ·exact h
 ·exact hl x hx
theorem Ad {b:Nat}{E:Env}{N:Va}(hlen:N.len=E.len){i:Nat}(hi:i<16):∀ p vs,AxN b N p→VRs p [tk (128+8*i)] vs→vs=[.int .i64 (atP E.len (N.L i):Int)]:=fun p vs hax h=>by
 cases h with
 |cons h1 h=>
 cases h;rw[hax.val (show Xi N (128+8*i)=some (.int .i64 (atP E.len (N.L i):Int)) by rw[show 128+8*i=128+8*i+0 from rfl,N8 N hi Dd,←hlen];rfl) h1]
theorem eqN {N:Va}:∀ x∈([]:List (Nat×Value×Bool)),∃ v,Xi N x.1=some v∧Nc v x.2.1 x.2.2:=fun _ h=>by cases h
theorem eqC {N:Va}{k:Nat}{v:Value}{r:Bool}{l:List (Nat×Value×Bool)}(h:∃ u,Xi N k=some u∧Nc u v r)(hl:∀ x∈l,∃ v,Xi N x.1=some v∧Nc v x.2.1 x.2.2):∀ x∈(k,v,r)::l,∃ v,Xi N x.1=some v∧Nc v x.2.1 x.2.2:=fun x hx=>by
 rcases List.mem_cons.1 hx with rfl|hx
 ·exact h
 ·exact hl x hx
theorem Qg {N:Va}{i:Nat}{n:Int}{r:Bool}(hi:i<16)(h:(Xn (N.L i)==n)=r):∃ v,Xi N (129+8*i)=some v∧Nc v (.int .i64 n) r:=by
 refine⟨.int .i64 (Tz (N.L i)).kind,?_,?_⟩
 ·rw[show 129+8*i=128+8*i+1 by omega,N8 N hi Dd];rfl
 ·subst h;rw[Gu];exact .int _ _ _
theorem Xa {N:Va}{c n:Nat}{r:Bool}(hc:c<16)(h:((N.T c).kind==n)=r):∃ v,Xi N (256+4*c)=some v∧Nc v (.int .i64 (n:Int)) r:=by
 refine⟨.int .i64 ((N.T c).kind:Int),?_,?_⟩
 ·unfold Xi;rw[if_neg Dw,if_neg Dw,if_pos Dw,show (256+4*c-256) / 4=c by omega,show (256+4*c-256) % 4=0 by omega];rfl
 ·have:(((N.T c).kind:Int)==(n:Int))=r:=by
   rw[←h];cases hb:(N.T c).kind==n with
   |true=>simp at hb;simp[hb]
   |false=>simp at hb;simp;omega
  rw[←this];exact .int _ _ _
theorem Rk {b:Nat}{N:Va}{i:Nat}{v:Value}(hi:i<64)(h:N.X i=v):∀ p,AxN b N p→VRs p [tk (320+i)] [v]:=fun p hax => .cons (hax.vr (by rw[Bl N hi,h])) .nil
theorem branch_c {b f p:Nat}{E:Env}{hd:Bool}(hh:Reads b E hd 50 #[rp b] (Xj E.len f 1 true))(hb:Reads b E hd 45 #[rp b] (U6 E.len f))(hr0:∀ p:Nat,Reads b E hd 49 #[rp b,.int .i64 (p:Int)] (Kq E.len f p)):Reads b E hd 49 #[rp b,.int .i64 (p:Int)] (Kq E.len (f+1) p):=by
 intro l w r h hr;rw[Kq] at hr;cases k1:Xj E.len f 1 true l with
 |none=>rw[k1] at hr;cases hr
 |some y2=>
  rw[k1] at hr;cases y2 with
  |error pl3=>
   (try dsimp only [andThen,ok,bad] at hr)
   cases hr;have D:Told b E (mkN E.len hd w.heap.size [l] [] [] [(p:Int),(pl3:Int)]) hd w [Xq 50 [] 0 3 (tk 321)] ⟨[],[],[],[322,323]⟩ []:=
    ⟨h,rfl,rfl,rfl,rfl,Qa (Zf hh (.inr rfl) rfl Qv k1 Dd rfl) Q7,fun _ hx=>(by cases hx),Ql,Qk,eqN,(V6 ⟨p,rfl⟩ (V6 ⟨pl3,rfl⟩ Qj))⟩
   exact D.path (.inr rfl) (args:=[tk 322]) (args':=[.int .i64 (p:Int)]) (Rk (i:=2) Dd rfl) (fin:=.pan (tk 323)) Dk
  |ok y2=>
   obtain⟨⟨t4k,t4x,t4n,t4p,t4c⟩,m3⟩:=y2;(try dsimp only [andThen,ok,bad] at hr)
   cases k5:U6 E.len f m3 with
   |none=>rw[k5] at hr;cases hr
   |some y6=>
    rw[k5] at hr;cases y6 with
    |error pl7=>
     (try dsimp only [andThen,ok,bad] at hr)
     cases hr;have D:Told b E (mkN E.len hd w.heap.size [l,m3] [.mk t4k t4x t4n t4p t4c] [] [(p:Int),(pl7:Int)]) hd w [Qm 50 [] 0 1 (tk 256) 0 (tk 321),Xq 45 [] 1 3 (tk 321)] ⟨[],[],[],[322,323]⟩ []:=
      ⟨h,rfl,rfl,rfl,rfl,Qa (Qs hh (.inr rfl) rfl Qv k1 (.inl rfl) Dd) (Qa (Zf hb (.inr rfl) rfl Qv k5 Dd rfl) Q7),fun _ hx=>(by cases hx),Ql,Qk,eqN,(V6 ⟨p,rfl⟩ (V6 ⟨pl7,rfl⟩ Qj))⟩
     exact D.path (.inr rfl) (args:=[tk 322]) (args':=[.int .i64 (p:Int)]) (Rk (i:=2) Dd rfl) (fin:=.pan (tk 323)) Dk
    |ok y6=>
     obtain⟨⟨t8k,t8x,t8n,t8p,t8c⟩,m7⟩:=y6;(try dsimp only [andThen,ok,bad] at hr)
     cases k9:isP Qj4 m7 with
     |true=>
      rw[k9,if_pos rfl] at hr;cases k10:isP wIf m7.tail with
      |true=>
       rw[k10,if_pos rfl] at hr;have hat:True:=trivial;cases k11:Kq E.len f (atP E.len m7.tail) m7.tail.tail with
       |none=>rw[k11] at hr;cases hr
       |some y12=>
        rw[k11] at hr;cases y12 with
        |error pl13=>
         (try dsimp only [andThen,ok,bad] at hr)
         cases hr;have D:Told b E (mkN E.len hd w.heap.size [l,m3,m7,m7.tail,m7.tail.tail] [.mk t4k t4x t4n t4p t4c,.mk t8k t8x t8n t8p t8c] [] [(p:Int),(pl13:Int)]) hd w [Qm 50 [] 0 1 (tk 256) 0 (tk 321),Qm 45 [] 1 2 (tk 260) 1 (tk 321),Qx Qj4 2 3 (tk 321),Zb 3 (tk 321),Qx wIf 3 4 (tk 321),Xq 49 [tk 152] 4 3 (tk 321)] ⟨[],[],[],[322,323]⟩ []:=
          ⟨h,rfl,rfl,rfl,rfl,Qa (Qs hh (.inr rfl) rfl Qv k1 (.inl rfl) Dd) (Qa (Qs hb (.inr rfl) rfl Qv k5 (.inl rfl) Dd) (Qa (Qy k9 rfl _) (Qa (Zc rfl Dd _) (Qa (Qy k10 rfl _) (Qa (Zf (hr0 _) (.inr rfl) rfl (Ad (i:=3) rfl Dd) k11 Dd rfl) Q7))))),fun _ hx=>(by cases hx),Ql,Qk,eqN,(V6 ⟨p,rfl⟩ (V6 ⟨pl13,rfl⟩ Qj))⟩
         exact D.path (.inr rfl) (args:=[tk 322]) (args':=[.int .i64 (p:Int)]) (Rk (i:=2) Dd rfl) (fin:=.pan (tk 323)) Dk
        |ok y12=>
         obtain⟨⟨t14k,t14x,t14n,t14p,t14c⟩,m13⟩:=y12;(try dsimp only [andThen,ok,bad] at hr)
         cases hr;have D:Told b E (mkN E.len hd w.heap.size [l,m3,m7,m7.tail,m7.tail.tail,m13] [.mk t4k t4x t4n t4p t4c,.mk t8k t8x t8n t8p t8c,.mk t14k t14x t14n t14p t14c] [] [(p:Int)]) hd w [Qm 50 [] 0 1 (tk 256) 0 (tk 321),Qm 45 [] 1 2 (tk 260) 1 (tk 321),Qx Qj4 2 3 (tk 321),Zb 3 (tk 321),Qx wIf 3 4 (tk 321),Qm 49 [tk 152] 4 5 (tk 264) 2 (tk 321)] ⟨[],[],[],[322]⟩ []:=
          ⟨h,rfl,rfl,rfl,rfl,Qa (Qs hh (.inr rfl) rfl Qv k1 (.inl rfl) Dd) (Qa (Qs hb (.inr rfl) rfl Qv k5 (.inl rfl) Dd) (Qa (Qy k9 rfl _) (Qa (Zc rfl Dd _) (Qa (Qy k10 rfl _) (Qa (Qs (hr0 _) (.inr rfl) rfl (Ad (i:=3) rfl Dd) k11 (.inl rfl) Dd) Q7))))),fun _ hx=>(by cases hx),Ql,Qk,eqN,(V6 ⟨p,rfl⟩ Qj)⟩
         exact D.path (.inr rfl) (args:=[tk 322]) (args':=[.int .i64 (p:Int)]) (Rk (i:=2) Dd rfl) (fin:=.tree (.nd (.int .i64 25) (.string ⟨#[]⟩) (.int .u64 0) (tk 322) [.ab (tk 256) (tk 257) (tk 258) (tk 259) 1,.ab (tk 260) (tk 261) (tk 262) (tk 263) 9,.ab (tk 264) (tk 265) (tk 266) (tk 267) 17]) 5) Dk
      |false=>
       rw[k10,if_neg Dd] at hr;cases k11:U6 E.len f m7.tail with
       |none=>rw[k11] at hr;cases hr
       |some y12=>
        rw[k11] at hr;cases y12 with
        |error pl13=>
         (try dsimp only [andThen,ok,bad] at hr)
         cases hr;have D:Told b E (mkN E.len hd w.heap.size [l,m3,m7,m7.tail] [.mk t4k t4x t4n t4p t4c,.mk t8k t8x t8n t8p t8c] [] [(p:Int),(pl13:Int)]) hd w [Qm 50 [] 0 1 (tk 256) 0 (tk 321),Qm 45 [] 1 2 (tk 260) 1 (tk 321),Qx Qj4 2 3 (tk 321),Zb 3 (tk 321),Qc wIf 3 (tk 321),Xq 45 [] 3 3 (tk 321)] ⟨[],[],[],[322,323]⟩ []:=
          ⟨h,rfl,rfl,rfl,rfl,Qa (Qs hh (.inr rfl) rfl Qv k1 (.inl rfl) Dd) (Qa (Qs hb (.inr rfl) rfl Qv k5 (.inl rfl) Dd) (Qa (Qy k9 rfl _) (Qa (Zc rfl Dd _) (Qa (Qd k10 _) (Qa (Zf hb (.inr rfl) rfl Qv k11 Dd rfl) Q7))))),fun _ hx=>(by cases hx),Ql,Qk,eqN,(V6 ⟨p,rfl⟩ (V6 ⟨pl13,rfl⟩ Qj))⟩
         exact D.path (.inr rfl) (args:=[tk 322]) (args':=[.int .i64 (p:Int)]) (Rk (i:=2) Dd rfl) (fin:=.pan (tk 323)) Dk
        |ok y12=>
         obtain⟨⟨t14k,t14x,t14n,t14p,t14c⟩,m13⟩:=y12;(try dsimp only [andThen,ok,bad] at hr)
         cases hr;have D:Told b E (mkN E.len hd w.heap.size [l,m3,m7,m7.tail,m13] [.mk t4k t4x t4n t4p t4c,.mk t8k t8x t8n t8p t8c,.mk t14k t14x t14n t14p t14c] [] [(p:Int)]) hd w [Qm 50 [] 0 1 (tk 256) 0 (tk 321),Qm 45 [] 1 2 (tk 260) 1 (tk 321),Qx Qj4 2 3 (tk 321),Zb 3 (tk 321),Qc wIf 3 (tk 321),Qm 45 [] 3 4 (tk 264) 2 (tk 321)] ⟨[],[],[],[322]⟩ []:=
          ⟨h,rfl,rfl,rfl,rfl,Qa (Qs hh (.inr rfl) rfl Qv k1 (.inl rfl) Dd) (Qa (Qs hb (.inr rfl) rfl Qv k5 (.inl rfl) Dd) (Qa (Qy k9 rfl _) (Qa (Zc rfl Dd _) (Qa (Qd k10 _) (Qa (Qs hb (.inr rfl) rfl Qv k11 (.inl rfl) Dd) Q7))))),fun _ hx=>(by cases hx),Ql,Qk,eqN,(V6 ⟨p,rfl⟩ Qj)⟩
         exact D.path (.inr rfl) (args:=[tk 322]) (args':=[.int .i64 (p:Int)]) (Rk (i:=2) Dd rfl) (fin:=.tree (.nd (.int .i64 25) (.string ⟨#[]⟩) (.int .u64 0) (tk 322) [.ab (tk 256) (tk 257) (tk 258) (tk 259) 1,.ab (tk 260) (tk 261) (tk 262) (tk 263) 9,.ab (tk 264) (tk 265) (tk 266) (tk 267) 17]) 4) Dk
     |false=>
      rw[k9,if_neg Dd] at hr;cases hr;have D:Told b E (mkN E.len hd w.heap.size [l,m3,m7] [.mk t4k t4x t4n t4p t4c,.mk t8k t8x t8n t8p t8c] [] [(p:Int)]) hd w [Qm 50 [] 0 1 (tk 256) 0 (tk 321),Qm 45 [] 1 2 (tk 260) 1 (tk 321),Qc Qj4 2 (tk 321)] ⟨[],[],[],[322]⟩ []:=
       ⟨h,rfl,rfl,rfl,rfl,Qa (Qs hh (.inr rfl) rfl Qv k1 (.inl rfl) Dd) (Qa (Qs hb (.inr rfl) rfl Qv k5 (.inl rfl) Dd) (Qa (Qd k9 _) Q7)),fun _ hx=>(by cases hx),Ql,Qk,eqN,(V6 ⟨p,rfl⟩ Qj)⟩
      exact D.path (.inr rfl) (args:=[tk 322]) (args':=[.int .i64 (p:Int)]) (Rk (i:=2) Dd rfl) (fin:=.tree (.nd (.int .i64 25) (.string ⟨#[]⟩) (.int .u64 0) (tk 322) [.ab (tk 256) (tk 257) (tk 258) (tk 259) 1,.ab (tk 260) (tk 261) (tk 262) (tk 263) 9]) 2) Dk
theorem Qw {b:Nat}{N:Va}{n:Int}:∀ p vs,AxN b N p→VRs p [.int .i64 n] vs→vs=[.int .i64 n]:=fun p vs hax h=>by
 cases h with
 |cons h1 h=>
 cases h;cases h1;rfl
theorem stmt_c {b f:Nat}{E:Env}{hd:Bool}(he:Reads b E hd 37 #[rp b,.int .i64 1] (Xj E.len f 1 hd))(ht:Reads b E hd 48 #[rp b] (Bc E.len f))(hh:Reads b E hd 50 #[rp b] (Xj E.len f 1 true))(hb:Reads b E hd 45 #[rp b] (U6 E.len f))(hbr:∀ p:Nat,Reads b E hd 49 #[rp b,.int .i64 (p:Int)] (Kq E.len f p))(hse:∀ p:Nat,Reads b E hd 51 #[rp b,.int .i64 (p:Int)] (V5 E.len f p))(hsi:Reads b E hd 52 #[rp b] (J7 E.len f hd)):Reads b E hd 26 #[rp b] (We E.len (f+1) hd):=by
 intro l w r h hr;rw[We] at hr;cases k1:isP wCu l with
 |true=>
  rw[k1,if_pos rfl] at hr;cases k2:U6 E.len f l with
  |none=>rw[k2] at hr;cases hr
  |some y3=>
   rw[k2] at hr;cases y3 with
   |error pl4=>
    (try dsimp only [andThen,ok,bad] at hr)
    cases hr;have D:Told b E (mkN E.len hd w.heap.size [l] [] [] [(pl4:Int)]) hd w [Zb 0 (tk 321),Vk wCu 0 true (tk 321),Xq 45 [] 0 2 (tk 321)] ⟨[],[],[],[322]⟩ []:=
     ⟨h,rfl,rfl,rfl,rfl,Qa (Zc rfl Dd _) (Qa (Vm k1 _) (Qa (Zf hb (.inr rfl) rfl Qv k2 Dd rfl) Q7)),fun _ hx=>(by cases hx),Ql,Qk,eqN,(V6 ⟨pl4,rfl⟩ Qj)⟩
    exact D.path (.inr rfl) (args:=[]) (args':=[]) (fun _ _ => .nil) (fin:=.pan (tk 322)) Dk
   |ok y3=>
    obtain⟨⟨t5k,t5x,t5n,t5p,t5c⟩,m4⟩:=y3;(try dsimp only [andThen,ok,bad] at hr)
    cases hr;have D:Told b E (mkN E.len hd w.heap.size [l,m4] [.mk t5k t5x t5n t5p t5c] [] []) hd w [Zb 0 (tk 321),Vk wCu 0 true (tk 321),Qm 45 [] 0 1 (tk 256) 0 (tk 321)] ⟨[],[],[],[]⟩ []:=
     ⟨h,rfl,rfl,rfl,rfl,Qa (Zc rfl Dd _) (Qa (Vm k1 _) (Qa (Qs hb (.inr rfl) rfl Qv k2 (.inl rfl) Dd) Q7)),fun _ hx=>(by cases hx),Ql,Qk,eqN,Qj⟩
    exact D.path (.inr rfl) (args:=[]) (args':=[]) (fun _ _ => .nil) (fin:=.tree (.ab (tk 256) (tk 257) (tk 258) (tk 259) 1) 1) Dk
 |false=>
  rw[k1,if_neg Dd] at hr;cases k2:isP Qbq l with
  |true=>
   rw[k2,if_pos rfl] at hr;unfold U8 at hr;cases k3:Xn l.tail==1 with
   |true=>
    rw[k3,if_pos rfl] at hr;(try dsimp only [andThen,ok,bad] at hr)
    simp only[Q5,Xc] at hr;cases k4:Bc E.len f l.tail.tail with
    |none=>rw[k4] at hr;cases hr
    |some y5=>
     rw[k4] at hr;cases y5 with
     |error pl6=>
      (try dsimp only [andThen,ok,bad] at hr)
      cases hr;have D:Told b E (mkN E.len hd w.heap.size [l,l.tail,l.tail.tail] [] [] [(pl6:Int)]) hd w [Zb 0 (tk 321),Vk wCu 0 false (tk 321),Qx Qbq 0 1 (tk 321),Zz 1 2 (tk 321),Xq 48 [] 2 2 (tk 321)] ⟨[],[],[],[322]⟩ []:=
       ⟨h,rfl,rfl,rfl,rfl,Qa (Zc rfl Dd _) (Qa (Vm k1 _) (Qa (Qy k2 rfl _) (Qa (Z7 Dd k3 rfl _) (Qa (Zf ht (.inr rfl) rfl Qv k4 Dd rfl) Q7)))),fun _ hx=>(by cases hx),Ql,Qk,eqN,(V6 ⟨pl6,rfl⟩ Qj)⟩
      exact D.path (.inr rfl) (args:=[]) (args':=[]) (fun _ _ => .nil) (fin:=.pan (tk 322)) Dk
     |ok y5=>
      obtain⟨⟨t7k,t7x,t7n,t7p,t7c⟩,m6⟩:=y5;(try dsimp only [andThen,ok,bad] at hr)
      cases hr;have D:Told b E (mkN E.len hd w.heap.size [l,l.tail,l.tail.tail,m6] [.mk t7k t7x t7n t7p t7c] [] []) hd w [Zb 0 (tk 321),Vk wCu 0 false (tk 321),Qx Qbq 0 1 (tk 321),Zz 1 2 (tk 321),Qm 48 [] 2 3 (tk 256) 0 (tk 321)] ⟨[],[],[],[]⟩ []:=
       ⟨h,rfl,rfl,rfl,rfl,Qa (Zc rfl Dd _) (Qa (Vm k1 _) (Qa (Qy k2 rfl _) (Qa (Z7 Dd k3 rfl _) (Qa (Qs ht (.inr rfl) rfl Qv k4 (.inl rfl) Dd) Q7)))),fun _ hx=>(by cases hx),Ql,Qk,eqN,Qj⟩
      exact D.path (.inr rfl) (args:=[]) (args':=[]) (fun _ _ => .nil) (fin:=.tree (.nd (.int .i64 22) (tk 138) (.int .u64 0) (tk 128) [.ab (tk 256) (tk 257) (tk 258) (tk 259) 1]) 3) Dk
   |false=>
    rw[k3,if_neg Dd] at hr;(try dsimp only [andThen,ok,bad] at hr)
    cases hr;have D:Told b E (mkN E.len hd w.heap.size [l,l.tail] [] [] []) hd w [Zb 0 (tk 321),Vk wCu 0 false (tk 321),Qx Qbq 0 1 (tk 321),Qal 1 (tk 321)] ⟨[],[],[],[]⟩ []:=
     ⟨h,rfl,rfl,rfl,rfl,Qa (Zc rfl Dd _) (Qa (Vm k1 _) (Qa (Qy k2 rfl _) (Qa (Qbx rfl Dd k3 _) Q7))),fun _ hx=>(by cases hx),Ql,Qk,eqN,Qj⟩
    exact D.path (.inr rfl) (args:=[]) (args':=[]) (fun _ _ => .nil) (fin:=.pan (tk 136)) Dk
  |false=>
   rw[k2,if_neg Dd] at hr;cases k3:isP wIf l with
   |true=>
    rw[k3,if_pos rfl] at hr;cases k4:Kq E.len f (atP E.len l) l.tail with
    |none=>rw[k4] at hr;cases hr
    |some y5=>
     rw[k4] at hr;cases y5 with
     |error pl6=>
      (try dsimp only [andThen,ok,bad] at hr)
      cases hr;have D:Told b E (mkN E.len hd w.heap.size [l,l.tail] [] [] [(pl6:Int)]) hd w [Zb 0 (tk 321),Vk wCu 0 false (tk 321),Qc Qbq 0 (tk 321),Qx wIf 0 1 (tk 321),Xq 49 [tk 128] 1 2 (tk 321)] ⟨[],[],[],[322]⟩ []:=
       ⟨h,rfl,rfl,rfl,rfl,Qa (Zc rfl Dd _) (Qa (Vm k1 _) (Qa (Qd k2 _) (Qa (Qy k3 rfl _) (Qa (Zf (hbr _) (.inr rfl) rfl (Ad (i:=0) rfl Dd) k4 Dd rfl) Q7)))),fun _ hx=>(by cases hx),Ql,Qk,eqN,(V6 ⟨pl6,rfl⟩ Qj)⟩
      exact D.path (.inr rfl) (args:=[]) (args':=[]) (fun _ _ => .nil) (fin:=.pan (tk 322)) Dk
     |ok y5=>
      obtain⟨⟨t7k,t7x,t7n,t7p,t7c⟩,m6⟩:=y5;(try dsimp only [andThen,ok,bad] at hr)
      cases hr;have D:Told b E (mkN E.len hd w.heap.size [l,l.tail,m6] [.mk t7k t7x t7n t7p t7c] [] []) hd w [Zb 0 (tk 321),Vk wCu 0 false (tk 321),Qc Qbq 0 (tk 321),Qx wIf 0 1 (tk 321),Qm 49 [tk 128] 1 2 (tk 256) 0 (tk 321)] ⟨[],[],[],[]⟩ []:=
       ⟨h,rfl,rfl,rfl,rfl,Qa (Zc rfl Dd _) (Qa (Vm k1 _) (Qa (Qd k2 _) (Qa (Qy k3 rfl _) (Qa (Qs (hbr _) (.inr rfl) rfl (Ad (i:=0) rfl Dd) k4 (.inl rfl) Dd) Q7)))),fun _ hx=>(by cases hx),Ql,Qk,eqN,Qj⟩
      exact D.path (.inr rfl) (args:=[]) (args':=[]) (fun _ _ => .nil) (fin:=.tree (.ab (tk 256) (tk 257) (tk 258) (tk 259) 1) 2) Dk
   |false=>
    rw[k3,if_neg Dd] at hr;cases k4:isP Qe4 l with
    |true=>
     rw[k4,if_pos rfl] at hr;cases k5:Xj E.len f 1 true l.tail with
     |none=>rw[k5] at hr;cases hr
     |some y6=>
      rw[k5] at hr;cases y6 with
      |error pl7=>
       (try dsimp only [andThen,ok,bad] at hr)
       cases hr;have D:Told b E (mkN E.len hd w.heap.size [l,l.tail] [] [] [(pl7:Int)]) hd w [Zb 0 (tk 321),Vk wCu 0 false (tk 321),Qc Qbq 0 (tk 321),Qc wIf 0 (tk 321),Qx Qe4 0 1 (tk 321),Xq 50 [] 1 2 (tk 321)] ⟨[],[],[],[322]⟩ []:=
        ⟨h,rfl,rfl,rfl,rfl,Qa (Zc rfl Dd _) (Qa (Vm k1 _) (Qa (Qd k2 _) (Qa (Qd k3 _) (Qa (Qy k4 rfl _) (Qa (Zf hh (.inr rfl) rfl Qv k5 Dd rfl) Q7))))),fun _ hx=>(by cases hx),Ql,Qk,eqN,(V6 ⟨pl7,rfl⟩ Qj)⟩
       exact D.path (.inr rfl) (args:=[]) (args':=[]) (fun _ _ => .nil) (fin:=.pan (tk 322)) Dk
      |ok y6=>
       obtain⟨⟨t8k,t8x,t8n,t8p,t8c⟩,m7⟩:=y6;(try dsimp only [andThen,ok,bad] at hr)
       cases k9:U6 E.len f m7 with
       |none=>rw[k9] at hr;cases hr
       |some y10=>
        rw[k9] at hr;cases y10 with
        |error pl11=>
         (try dsimp only [andThen,ok,bad] at hr)
         cases hr;have D:Told b E (mkN E.len hd w.heap.size [l,l.tail,m7] [.mk t8k t8x t8n t8p t8c] [] [(pl11:Int)]) hd w [Zb 0 (tk 321),Vk wCu 0 false (tk 321),Qc Qbq 0 (tk 321),Qc wIf 0 (tk 321),Qx Qe4 0 1 (tk 321),Qm 50 [] 1 2 (tk 256) 0 (tk 321),Xq 45 [] 2 2 (tk 321)] ⟨[],[],[],[322]⟩ []:=
          ⟨h,rfl,rfl,rfl,rfl,Qa (Zc rfl Dd _) (Qa (Vm k1 _) (Qa (Qd k2 _) (Qa (Qd k3 _) (Qa (Qy k4 rfl _) (Qa (Qs hh (.inr rfl) rfl Qv k5 (.inl rfl) Dd) (Qa (Zf hb (.inr rfl) rfl Qv k9 Dd rfl) Q7)))))),fun _ hx=>(by cases hx),Ql,Qk,eqN,(V6 ⟨pl11,rfl⟩ Qj)⟩
         exact D.path (.inr rfl) (args:=[]) (args':=[]) (fun _ _ => .nil) (fin:=.pan (tk 322)) Dk
        |ok y10=>
         obtain⟨⟨t12k,t12x,t12n,t12p,t12c⟩,m11⟩:=y10;(try dsimp only [andThen,ok,bad] at hr)
         cases hr;have D:Told b E (mkN E.len hd w.heap.size [l,l.tail,m7,m11] [.mk t8k t8x t8n t8p t8c,.mk t12k t12x t12n t12p t12c] [] []) hd w [Zb 0 (tk 321),Vk wCu 0 false (tk 321),Qc Qbq 0 (tk 321),Qc wIf 0 (tk 321),Qx Qe4 0 1 (tk 321),Qm 50 [] 1 2 (tk 256) 0 (tk 321),Qm 45 [] 2 3 (tk 260) 1 (tk 321)] ⟨[],[],[],[]⟩ []:=
          ⟨h,rfl,rfl,rfl,rfl,Qa (Zc rfl Dd _) (Qa (Vm k1 _) (Qa (Qd k2 _) (Qa (Qd k3 _) (Qa (Qy k4 rfl _) (Qa (Qs hh (.inr rfl) rfl Qv k5 (.inl rfl) Dd) (Qa (Qs hb (.inr rfl) rfl Qv k9 (.inl rfl) Dd) Q7)))))),fun _ hx=>(by cases hx),Ql,Qk,eqN,Qj⟩
         exact D.path (.inr rfl) (args:=[]) (args':=[]) (fun _ _ => .nil) (fin:=.tree (.nd (.int .i64 26) (.string ⟨#[]⟩) (.int .u64 0) (tk 128) [.ab (tk 256) (tk 257) (tk 258) (tk 259) 1,.ab (tk 260) (tk 261) (tk 262) (tk 263) 9]) 3) Dk
    |false=>
     rw[k4,if_neg Dd] at hr;cases k5:isP Jw l with
     |true=>
      rw[k5,if_pos rfl] at hr;cases hr;have D:Told b E (mkN E.len hd w.heap.size [l,l.tail] [] [] []) hd w [Zb 0 (tk 321),Vk wCu 0 false (tk 321),Qc Qbq 0 (tk 321),Qc wIf 0 (tk 321),Qc Qe4 0 (tk 321),Qx Jw 0 1 (tk 321)] ⟨[],[],[],[]⟩ []:=
       ⟨h,rfl,rfl,rfl,rfl,Qa (Zc rfl Dd _) (Qa (Vm k1 _) (Qa (Qd k2 _) (Qa (Qd k3 _) (Qa (Qd k4 _) (Qa (Qy k5 rfl _) Q7))))),fun _ hx=>(by cases hx),Ql,Qk,eqN,Qj⟩
      exact D.path (.inr rfl) (args:=[]) (args':=[]) (fun _ _ => .nil) (fin:=.tree (.nd (.int .i64 27) (.string ⟨#[]⟩) (.int .u64 0) (tk 128) []) 1) Dk
     |false=>
      rw[k5,if_neg Dd] at hr;cases k6:isP Vf l with
      |true=>
       rw[k6,if_pos rfl] at hr;cases hr;have D:Told b E (mkN E.len hd w.heap.size [l,l.tail] [] [] []) hd w [Zb 0 (tk 321),Vk wCu 0 false (tk 321),Qc Qbq 0 (tk 321),Qc wIf 0 (tk 321),Qc Qe4 0 (tk 321),Qc Jw 0 (tk 321),Qx Vf 0 1 (tk 321)] ⟨[],[],[],[]⟩ []:=
        ⟨h,rfl,rfl,rfl,rfl,Qa (Zc rfl Dd _) (Qa (Vm k1 _) (Qa (Qd k2 _) (Qa (Qd k3 _) (Qa (Qd k4 _) (Qa (Qd k5 _) (Qa (Qy k6 rfl _) Q7)))))),fun _ hx=>(by cases hx),Ql,Qk,eqN,Qj⟩
       exact D.path (.inr rfl) (args:=[]) (args':=[]) (fun _ _ => .nil) (fin:=.tree (.nd (.int .i64 27) (.string ⟨#[]⟩) (.int .u64 1) (tk 128) []) 1) Dk
      |false=>
       rw[k6,if_neg Dd] at hr;cases k7:isP Y7 l with
       |true=>
        rw[k7,if_pos rfl] at hr;cases k8:Xn l.tail==5 with
        |true=>
         rw[k8,Bool.not_true,Bool.false_and,if_neg Dd] at hr;cases hr;have D:Told b E (mkN E.len hd w.heap.size [l,l.tail] [] [] []) hd w [Zb 0 (tk 321),Vk wCu 0 false (tk 321),Qc Qbq 0 (tk 321),Qc wIf 0 (tk 321),Qc Qe4 0 (tk 321),Qc Jw 0 (tk 321),Qc Vf 0 (tk 321),Qx Y7 0 1 (tk 321),Qp 1 (tk 137) (tk 321)] ⟨[],[],[],[]⟩ [(137,.int .i64 5,true)]:=
          ⟨h,rfl,rfl,rfl,rfl,Qa (Zc rfl Dd _) (Qa (Vm k1 _) (Qa (Qd k2 _) (Qa (Qd k3 _) (Qa (Qd k4 _) (Qa (Qd k5 _) (Qa (Qd k6 _) (Qa (Qy k7 rfl _) (Qa (Qq Dd (.inl rfl) _) Q7)))))))),fun _ hx=>(by cases hx),Ql,Qk,(eqC (Qg (i:=1) Dd k8) eqN),Qj⟩
         exact D.path (.inr rfl) (args:=[]) (args':=[]) (fun _ _ => .nil) (fin:=.tree (.nd (.int .i64 28) (.string ⟨#[]⟩) (.int .u64 0) (tk 128) []) 1) Dk
        |false=>
         rw[k8,Bool.not_false,Bool.true_and] at hr;cases k9:isP wUc l.tail with
         |true=>
          rw[k9,Bool.not_true,if_neg Dd] at hr;cases hr;have D:Told b E (mkN E.len hd w.heap.size [l,l.tail] [] [] []) hd w [Zb 0 (tk 321),Vk wCu 0 false (tk 321),Qc Qbq 0 (tk 321),Qc wIf 0 (tk 321),Qc Qe4 0 (tk 321),Qc Jw 0 (tk 321),Qc Vf 0 (tk 321),Qx Y7 0 1 (tk 321),Qp 1 (tk 137) (tk 321),Vk wUc 1 true (tk 321)] ⟨[],[],[],[]⟩ [(137,.int .i64 5,false)]:=
           ⟨h,rfl,rfl,rfl,rfl,Qa (Zc rfl Dd _) (Qa (Vm k1 _) (Qa (Qd k2 _) (Qa (Qd k3 _) (Qa (Qd k4 _) (Qa (Qd k5 _) (Qa (Qd k6 _) (Qa (Qy k7 rfl _) (Qa (Qq Dd (.inl rfl) _) (Qa (Vm k9 _) Q7))))))))),fun _ hx=>(by cases hx),Ql,Qk,(eqC (Qg (i:=1) Dd k8) eqN),Qj⟩
          exact D.path (.inr rfl) (args:=[]) (args':=[]) (fun _ _ => .nil) (fin:=.tree (.nd (.int .i64 28) (.string ⟨#[]⟩) (.int .u64 0) (tk 128) []) 1) Dk
         |false=>
          rw[k9,Bool.not_false,if_pos rfl] at hr;cases k10:Xj E.len f 1 hd l.tail with
          |none=>rw[k10] at hr;cases hr
          |some y11=>
           rw[k10] at hr;cases y11 with
           |error pl12=>
            (try dsimp only [andThen,ok,bad] at hr)
            cases hr;have D:Told b E (mkN E.len hd w.heap.size [l,l.tail] [] [] [(pl12:Int)]) hd w [Zb 0 (tk 321),Vk wCu 0 false (tk 321),Qc Qbq 0 (tk 321),Qc wIf 0 (tk 321),Qc Qe4 0 (tk 321),Qc Jw 0 (tk 321),Qc Vf 0 (tk 321),Qx Y7 0 1 (tk 321),Qp 1 (tk 137) (tk 321),Vk wUc 1 false (tk 321),Xq 37 [.int .i64 1] 1 2 (tk 321)] ⟨[],[],[],[322]⟩ [(137,.int .i64 5,false)]:=
             ⟨h,rfl,rfl,rfl,rfl,Qa (Zc rfl Dd _) (Qa (Vm k1 _) (Qa (Qd k2 _) (Qa (Qd k3 _) (Qa (Qd k4 _) (Qa (Qd k5 _) (Qa (Qd k6 _) (Qa (Qy k7 rfl _) (Qa (Qq Dd (.inl rfl) _) (Qa (Vm k9 _) (Qa (Zf he (.inr rfl) rfl Qw k10 Dd rfl) Q7)))))))))),fun _ hx=>(by cases hx),Ql,Qk,(eqC (Qg (i:=1) Dd k8) eqN),(V6 ⟨pl12,rfl⟩ Qj)⟩
            exact D.path (.inr rfl) (args:=[]) (args':=[]) (fun _ _ => .nil) (fin:=.pan (tk 322)) Dk
           |ok y11=>
            obtain⟨⟨t13k,t13x,t13n,t13p,t13c⟩,m12⟩:=y11;(try dsimp only [andThen,ok,bad] at hr)
            cases hr;have D:Told b E (mkN E.len hd w.heap.size [l,l.tail,m12] [.mk t13k t13x t13n t13p t13c] [] []) hd w [Zb 0 (tk 321),Vk wCu 0 false (tk 321),Qc Qbq 0 (tk 321),Qc wIf 0 (tk 321),Qc Qe4 0 (tk 321),Qc Jw 0 (tk 321),Qc Vf 0 (tk 321),Qx Y7 0 1 (tk 321),Qp 1 (tk 137) (tk 321),Vk wUc 1 false (tk 321),Qm 37 [.int .i64 1] 1 2 (tk 256) 0 (tk 321)] ⟨[],[],[],[]⟩ [(137,.int .i64 5,false)]:=
             ⟨h,rfl,rfl,rfl,rfl,Qa (Zc rfl Dd _) (Qa (Vm k1 _) (Qa (Qd k2 _) (Qa (Qd k3 _) (Qa (Qd k4 _) (Qa (Qd k5 _) (Qa (Qd k6 _) (Qa (Qy k7 rfl _) (Qa (Qq Dd (.inl rfl) _) (Qa (Vm k9 _) (Qa (Qs he (.inr rfl) rfl Qw k10 (.inl rfl) Dd) Q7)))))))))),fun _ hx=>(by cases hx),Ql,Qk,(eqC (Qg (i:=1) Dd k8) eqN),Qj⟩
            exact D.path (.inr rfl) (args:=[]) (args':=[]) (fun _ _ => .nil) (fin:=.tree (.nd (.int .i64 28) (.string ⟨#[]⟩) (.int .u64 0) (tk 128) [.ab (tk 256) (tk 257) (tk 258) (tk 259) 1]) 2) Dk
       |false=>
        rw[k7,if_neg Dd] at hr;cases kgo:isP wGo l with
        |true=>
         rw[kgo,Bool.true_or,if_pos rfl] at hr;cases k8:Xj E.len f 1 hd l.tail with
         |none=>rw[k8] at hr;cases hr
         |some y9=>
          rw[k8] at hr;cases y9 with
          |error pl10=>
           (try dsimp only [andThen,ok,bad] at hr)
           cases hr;have D:Told b E (mkN E.len hd w.heap.size [l,l.tail] [] [] [(pl10:Int)]) hd w [Zb 0 (tk 321),Vk wCu 0 false (tk 321),Qc Qbq 0 (tk 321),Qc wIf 0 (tk 321),Qc Qe4 0 (tk 321),Qc Jw 0 (tk 321),Qc Vf 0 (tk 321),Qc Y7 0 (tk 321),Vk wGo 0 true (tk 321),Qx wGo 0 1 (tk 321),Zb 1 (tk 321),Xq 37 [.int .i64 1] 1 2 (tk 321)] ⟨[],[],[],[322]⟩ []:=
            ⟨h,rfl,rfl,rfl,rfl,Qa (Zc rfl Dd _) (Qa (Vm k1 _) (Qa (Qd k2 _) (Qa (Qd k3 _) (Qa (Qd k4 _) (Qa (Qd k5 _) (Qa (Qd k6 _) (Qa (Qd k7 _) (Qa (Vm kgo _) (Qa (Qy kgo rfl _) (Qa (Zc rfl Dd _) (Qa (Zf he (.inr rfl) rfl Qw k8 Dd rfl) Q7))))))))))),fun _ hx=>(by cases hx),Ql,Qk,eqN,(V6 ⟨pl10,rfl⟩ Qj)⟩
           exact D.path (.inr rfl) (args:=[]) (args':=[]) (fun _ _ => .nil) (fin:=.pan (tk 322)) Dk
          |ok y9=>
           obtain⟨⟨t11k,t11x,t11n,t11p,t11c⟩,m10⟩:=y9;(try dsimp only [andThen,ok,bad] at hr)
           cases k12:(Tr.mk t11k t11x t11n t11p t11c).kind==34 with
           |true=>
            rw[k12,if_pos rfl] at hr;cases hr;have D:Told b E (mkN E.len hd w.heap.size [l,l.tail,m10] [.mk t11k t11x t11n t11p t11c] [] []) hd w [Zb 0 (tk 321),Vk wCu 0 false (tk 321),Qc Qbq 0 (tk 321),Qc wIf 0 (tk 321),Qc Qe4 0 (tk 321),Qc Jw 0 (tk 321),Qc Vf 0 (tk 321),Qc Y7 0 (tk 321),Vk wGo 0 true (tk 321),Qx wGo 0 1 (tk 321),Zb 1 (tk 321),Qm 37 [.int .i64 1] 1 2 (tk 256) 0 (tk 321)] ⟨[],[],[],[]⟩ [(256,.int .i64 34,true)]:=
             ⟨h,rfl,rfl,rfl,rfl,Qa (Zc rfl Dd _) (Qa (Vm k1 _) (Qa (Qd k2 _) (Qa (Qd k3 _) (Qa (Qd k4 _) (Qa (Qd k5 _) (Qa (Qd k6 _) (Qa (Qd k7 _) (Qa (Vm kgo _) (Qa (Qy kgo rfl _) (Qa (Zc rfl Dd _) (Qa (Qs he (.inr rfl) rfl Qw k8 (.inl rfl) Dd) Q7))))))))))),fun _ hx=>(by cases hx),Ql,Qk,(eqC (Xa (c:=0) Dd k12) eqN),Qj⟩
            exact D.path (.inr rfl) (args:=[]) (args':=[]) (fun _ _ => .nil) (fin:=.tree (.nd (.int .i64 29) (.string ⟨#[]⟩) (.int .u64 0) (tk 128) [.ab (tk 256) (tk 257) (tk 258) (tk 259) 1]) 2) Dk
           |false=>
            rw[k12,if_neg Dd] at hr;cases hr;have D:Told b E (mkN E.len hd w.heap.size [l,l.tail,m10] [.mk t11k t11x t11n t11p t11c] [] []) hd w [Zb 0 (tk 321),Vk wCu 0 false (tk 321),Qc Qbq 0 (tk 321),Qc wIf 0 (tk 321),Qc Qe4 0 (tk 321),Qc Jw 0 (tk 321),Qc Vf 0 (tk 321),Qc Y7 0 (tk 321),Vk wGo 0 true (tk 321),Qx wGo 0 1 (tk 321),Zb 1 (tk 321),Qm 37 [.int .i64 1] 1 2 (tk 256) 0 (tk 321)] ⟨[],[],[],[]⟩ [(256,.int .i64 34,false)]:=
             ⟨h,rfl,rfl,rfl,rfl,Qa (Zc rfl Dd _) (Qa (Vm k1 _) (Qa (Qd k2 _) (Qa (Qd k3 _) (Qa (Qd k4 _) (Qa (Qd k5 _) (Qa (Qd k6 _) (Qa (Qd k7 _) (Qa (Vm kgo _) (Qa (Qy kgo rfl _) (Qa (Zc rfl Dd _) (Qa (Qs he (.inr rfl) rfl Qw k8 (.inl rfl) Dd) Q7))))))))))),fun _ hx=>(by cases hx),Ql,Qk,(eqC (Xa (c:=0) Dd k12) eqN),Qj⟩
            exact D.path (.inr rfl) (args:=[]) (args':=[]) (fun _ _ => .nil) (fin:=.pan (tk 136)) Dk
        |false=>
         rw[kgo,Bool.false_or] at hr;cases kdf:isP P7 l with
         |true=>
          rw[kdf,if_pos rfl] at hr;cases k8:Xj E.len f 1 hd l.tail with
          |none=>rw[k8] at hr;cases hr
          |some y9=>
           rw[k8] at hr;cases y9 with
           |error pl10=>
            (try dsimp only [andThen,ok,bad] at hr)
            cases hr;have D:Told b E (mkN E.len hd w.heap.size [l,l.tail] [] [] [(pl10:Int)]) hd w [Zb 0 (tk 321),Vk wCu 0 false (tk 321),Qc Qbq 0 (tk 321),Qc wIf 0 (tk 321),Qc Qe4 0 (tk 321),Qc Jw 0 (tk 321),Qc Vf 0 (tk 321),Qc Y7 0 (tk 321),Vk wGo 0 false (tk 321),Vk P7 0 true (tk 321),Qc wGo 0 (tk 321),Qx P7 0 1 (tk 321),Zb 1 (tk 321),Xq 37 [.int .i64 1] 1 2 (tk 321)] ⟨[],[],[],[322]⟩ []:=
             ⟨h,rfl,rfl,rfl,rfl,Qa (Zc rfl Dd _) (Qa (Vm k1 _) (Qa (Qd k2 _) (Qa (Qd k3 _) (Qa (Qd k4 _) (Qa (Qd k5 _) (Qa (Qd k6 _) (Qa (Qd k7 _) (Qa (Vm kgo _) (Qa (Vm kdf _) (Qa (Qd kgo _) (Qa (Qy kdf rfl _) (Qa (Zc rfl Dd _) (Qa (Zf he (.inr rfl) rfl Qw k8 Dd rfl) Q7))))))))))))),fun _ hx=>(by cases hx),Ql,Qk,eqN,(V6 ⟨pl10,rfl⟩ Qj)⟩
            exact D.path (.inr rfl) (args:=[]) (args':=[]) (fun _ _ => .nil) (fin:=.pan (tk 322)) Dk
           |ok y9=>
            obtain⟨⟨t11k,t11x,t11n,t11p,t11c⟩,m10⟩:=y9;(try dsimp only [andThen,ok,bad] at hr)
            cases k12:(Tr.mk t11k t11x t11n t11p t11c).kind==34 with
            |true=>
             rw[k12,if_pos rfl] at hr;cases hr;have D:Told b E (mkN E.len hd w.heap.size [l,l.tail,m10] [.mk t11k t11x t11n t11p t11c] [] []) hd w [Zb 0 (tk 321),Vk wCu 0 false (tk 321),Qc Qbq 0 (tk 321),Qc wIf 0 (tk 321),Qc Qe4 0 (tk 321),Qc Jw 0 (tk 321),Qc Vf 0 (tk 321),Qc Y7 0 (tk 321),Vk wGo 0 false (tk 321),Vk P7 0 true (tk 321),Qc wGo 0 (tk 321),Qx P7 0 1 (tk 321),Zb 1 (tk 321),Qm 37 [.int .i64 1] 1 2 (tk 256) 0 (tk 321)] ⟨[],[],[],[]⟩ [(256,.int .i64 34,true)]:=
              ⟨h,rfl,rfl,rfl,rfl,Qa (Zc rfl Dd _) (Qa (Vm k1 _) (Qa (Qd k2 _) (Qa (Qd k3 _) (Qa (Qd k4 _) (Qa (Qd k5 _) (Qa (Qd k6 _) (Qa (Qd k7 _) (Qa (Vm kgo _) (Qa (Vm kdf _) (Qa (Qd kgo _) (Qa (Qy kdf rfl _) (Qa (Zc rfl Dd _) (Qa (Qs he (.inr rfl) rfl Qw k8 (.inl rfl) Dd) Q7))))))))))))),fun _ hx=>(by cases hx),Ql,Qk,(eqC (Xa (c:=0) Dd k12) eqN),Qj⟩
             exact D.path (.inr rfl) (args:=[]) (args':=[]) (fun _ _ => .nil) (fin:=.tree (.nd (.int .i64 29) (.string ⟨#[]⟩) (.int .u64 1) (tk 128) [.ab (tk 256) (tk 257) (tk 258) (tk 259) 1]) 2) Dk
            |false=>
             rw[k12,if_neg Dd] at hr;cases hr;have D:Told b E (mkN E.len hd w.heap.size [l,l.tail,m10] [.mk t11k t11x t11n t11p t11c] [] []) hd w [Zb 0 (tk 321),Vk wCu 0 false (tk 321),Qc Qbq 0 (tk 321),Qc wIf 0 (tk 321),Qc Qe4 0 (tk 321),Qc Jw 0 (tk 321),Qc Vf 0 (tk 321),Qc Y7 0 (tk 321),Vk wGo 0 false (tk 321),Vk P7 0 true (tk 321),Qc wGo 0 (tk 321),Qx P7 0 1 (tk 321),Zb 1 (tk 321),Qm 37 [.int .i64 1] 1 2 (tk 256) 0 (tk 321)] ⟨[],[],[],[]⟩ [(256,.int .i64 34,false)]:=
              ⟨h,rfl,rfl,rfl,rfl,Qa (Zc rfl Dd _) (Qa (Vm k1 _) (Qa (Qd k2 _) (Qa (Qd k3 _) (Qa (Qd k4 _) (Qa (Qd k5 _) (Qa (Qd k6 _) (Qa (Qd k7 _) (Qa (Vm kgo _) (Qa (Vm kdf _) (Qa (Qd kgo _) (Qa (Qy kdf rfl _) (Qa (Zc rfl Dd _) (Qa (Qs he (.inr rfl) rfl Qw k8 (.inl rfl) Dd) Q7))))))))))))),fun _ hx=>(by cases hx),Ql,Qk,(eqC (Xa (c:=0) Dd k12) eqN),Qj⟩
             exact D.path (.inr rfl) (args:=[]) (args':=[]) (fun _ _ => .nil) (fin:=.pan (tk 136)) Dk
         |false=>
          rw[kdf,if_neg Dd] at hr;cases k8:isP Qa4 l with
          |true=>
           rw[k8,if_pos rfl] at hr;cases k9:V5 E.len f (atP E.len l) l.tail with
           |none=>rw[k9] at hr;cases hr
           |some y10=>
            rw[k9] at hr;cases y10 with
            |error pl11=>
             (try dsimp only [andThen,ok,bad] at hr)
             cases hr;have D:Told b E (mkN E.len hd w.heap.size [l,l.tail] [] [] [(pl11:Int)]) hd w [Zb 0 (tk 321),Vk wCu 0 false (tk 321),Qc Qbq 0 (tk 321),Qc wIf 0 (tk 321),Qc Qe4 0 (tk 321),Qc Jw 0 (tk 321),Qc Vf 0 (tk 321),Qc Y7 0 (tk 321),Vk wGo 0 false (tk 321),Vk P7 0 false (tk 321),Qx Qa4 0 1 (tk 321),Xq 51 [tk 128] 1 2 (tk 321)] ⟨[],[],[],[322]⟩ []:=
              ⟨h,rfl,rfl,rfl,rfl,Qa (Zc rfl Dd _) (Qa (Vm k1 _) (Qa (Qd k2 _) (Qa (Qd k3 _) (Qa (Qd k4 _) (Qa (Qd k5 _) (Qa (Qd k6 _) (Qa (Qd k7 _) (Qa (Vm kgo _) (Qa (Vm kdf _) (Qa (Qy k8 rfl _) (Qa (Zf (hse _) (.inr rfl) rfl (Ad (i:=0) rfl Dd) k9 Dd rfl) Q7))))))))))),fun _ hx=>(by cases hx),Ql,Qk,eqN,(V6 ⟨pl11,rfl⟩ Qj)⟩
             exact D.path (.inr rfl) (args:=[]) (args':=[]) (fun _ _ => .nil) (fin:=.pan (tk 322)) Dk
            |ok y10=>
             obtain⟨⟨t12k,t12x,t12n,t12p,t12c⟩,m11⟩:=y10;(try dsimp only [andThen,ok,bad] at hr)
             cases hr;have D:Told b E (mkN E.len hd w.heap.size [l,l.tail,m11] [.mk t12k t12x t12n t12p t12c] [] []) hd w [Zb 0 (tk 321),Vk wCu 0 false (tk 321),Qc Qbq 0 (tk 321),Qc wIf 0 (tk 321),Qc Qe4 0 (tk 321),Qc Jw 0 (tk 321),Qc Vf 0 (tk 321),Qc Y7 0 (tk 321),Vk wGo 0 false (tk 321),Vk P7 0 false (tk 321),Qx Qa4 0 1 (tk 321),Qm 51 [tk 128] 1 2 (tk 256) 0 (tk 321)] ⟨[],[],[],[]⟩ []:=
              ⟨h,rfl,rfl,rfl,rfl,Qa (Zc rfl Dd _) (Qa (Vm k1 _) (Qa (Qd k2 _) (Qa (Qd k3 _) (Qa (Qd k4 _) (Qa (Qd k5 _) (Qa (Qd k6 _) (Qa (Qd k7 _) (Qa (Vm kgo _) (Qa (Vm kdf _) (Qa (Qy k8 rfl _) (Qa (Qs (hse _) (.inr rfl) rfl (Ad (i:=0) rfl Dd) k9 (.inl rfl) Dd) Q7))))))))))),fun _ hx=>(by cases hx),Ql,Qk,eqN,Qj⟩
             exact D.path (.inr rfl) (args:=[]) (args':=[]) (fun _ _ => .nil) (fin:=.tree (.ab (tk 256) (tk 257) (tk 258) (tk 259) 1) 2) Dk
          |false=>
           rw[k8,if_neg Dd] at hr;cases k9:J7 E.len f hd l with
           |none=>rw[k9] at hr;cases hr
           |some y10=>
            rw[k9] at hr;cases y10 with
            |error pl11=>
             (try dsimp only [andThen,ok,bad] at hr)
             cases hr;have D:Told b E (mkN E.len hd w.heap.size [l] [] [] [(pl11:Int)]) hd w [Zb 0 (tk 321),Vk wCu 0 false (tk 321),Qc Qbq 0 (tk 321),Qc wIf 0 (tk 321),Qc Qe4 0 (tk 321),Qc Jw 0 (tk 321),Qc Vf 0 (tk 321),Qc Y7 0 (tk 321),Vk wGo 0 false (tk 321),Vk P7 0 false (tk 321),Qc Qa4 0 (tk 321),Xq 52 [] 0 2 (tk 321)] ⟨[],[],[],[322]⟩ []:=
              ⟨h,rfl,rfl,rfl,rfl,Qa (Zc rfl Dd _) (Qa (Vm k1 _) (Qa (Qd k2 _) (Qa (Qd k3 _) (Qa (Qd k4 _) (Qa (Qd k5 _) (Qa (Qd k6 _) (Qa (Qd k7 _) (Qa (Vm kgo _) (Qa (Vm kdf _) (Qa (Qd k8 _) (Qa (Zf hsi (.inr rfl) rfl Qv k9 Dd rfl) Q7))))))))))),fun _ hx=>(by cases hx),Ql,Qk,eqN,(V6 ⟨pl11,rfl⟩ Qj)⟩
             exact D.path (.inr rfl) (args:=[]) (args':=[]) (fun _ _ => .nil) (fin:=.pan (tk 322)) Dk
            |ok y10=>
             obtain⟨⟨t12k,t12x,t12n,t12p,t12c⟩,m11⟩:=y10;(try dsimp only [andThen,ok,bad] at hr)
             cases hr;have D:Told b E (mkN E.len hd w.heap.size [l,m11] [.mk t12k t12x t12n t12p t12c] [] []) hd w [Zb 0 (tk 321),Vk wCu 0 false (tk 321),Qc Qbq 0 (tk 321),Qc wIf 0 (tk 321),Qc Qe4 0 (tk 321),Qc Jw 0 (tk 321),Qc Vf 0 (tk 321),Qc Y7 0 (tk 321),Vk wGo 0 false (tk 321),Vk P7 0 false (tk 321),Qc Qa4 0 (tk 321),Qm 52 [] 0 1 (tk 256) 0 (tk 321)] ⟨[],[],[],[]⟩ []:=
              ⟨h,rfl,rfl,rfl,rfl,Qa (Zc rfl Dd _) (Qa (Vm k1 _) (Qa (Qd k2 _) (Qa (Qd k3 _) (Qa (Qd k4 _) (Qa (Qd k5 _) (Qa (Qd k6 _) (Qa (Qd k7 _) (Qa (Vm kgo _) (Qa (Vm kdf _) (Qa (Qd k8 _) (Qa (Qs hsi (.inr rfl) rfl Qv k9 (.inl rfl) Dd) Q7))))))))))),fun _ hx=>(by cases hx),Ql,Qk,eqN,Qj⟩
             exact D.path (.inr rfl) (args:=[]) (args':=[]) (fun _ _ => .nil) (fin:=.tree (.ab (tk 256) (tk 257) (tk 258) (tk 259) 1) 1) Dk
end Prs
end Go.Proofs.YtcbkeecabcbogaaGreatDoor
