/- Scripts: simple statements. (Printed by gen_sim.py.) Scripts -/
import Derived.Test.YtcbkeecabcbogaaGreatDoorHat
set_option linter.unusedSimpArgs false
set_option linter.unusedVariables false
namespace Go.Proofs.YtcbkeecabcbogaaGreatDoor
section
open Go.RowKit
namespace Prs
open Ev
set_option maxRecDepth 20000 in
theorem simple_c {b f:Nat}{E:Env}{hd:Bool}(he:Reads b E hd 37 #[rp b,.int .i64 1] (Xc E.len f 1 hd)):Reads b E hd 52 #[rp b] (Ym E.len (f+1) hd):=by
 intro l w r h hr;rw[Ym] at hr;cases k1:Xg l==1 with
 |true=>
  rw[k1,Bool.true_and] at hr;cases k2:Zq Kr l with
  |true=>
   rw[k2,if_pos rfl] at hr;unfold Rk at hr;cases k3:Xg l==1 with
   |true=>
    rw[k3,if_pos rfl] at hr;(try dsimp only [andThen,ok,bad] at hr)
    simp only[Q5,Xe] at hr;unfold Vl at hr;cases k4:isP Kr l.tail with
    |true=>
     rw[k4,if_pos rfl] at hr;(try dsimp only [andThen,ok,bad] at hr)
     cases k5:Xc E.len f 1 hd l.tail.tail with
     |none=>rw[k5] at hr;cases hr
     |some y6=>
      rw[k5] at hr;cases y6 with
      |error pl7=>
       (try dsimp only [andThen,ok,bad] at hr)
       cases hr;have D:Told b E (mkN E.len hd w.heap.size [l,l.tail,l.tail.tail] [] [] [(pl7:Int)]) hd w [X5 0 (tk 321),Qo 0 (tk 129) (tk 321),Xv Kr 0 true (tk 321),Uk 0 1 (tk 321),Xn Kr 1 2 (tk 321),Xt 37 [.int .i64 1] 2 2 (tk 321)] ⟨[],[],[],[322]⟩ [(129,.int .i64 1,true)]:=
        ⟨h,rfl,rfl,rfl,rfl,Qa (X8 rfl Dd _) (Qa (Qp Dd (.inl rfl) _) (Qa (Xx k2 _) (Qa (Uz Dd k3 rfl _) (Qa (Xo rfl Dd k4 rfl _) (Qa (X6 he (.inr rfl) rfl Qv k5 Dd rfl) Xb))))),fun _ hx=>(by cases hx),Qn,Ql,(eqC (Qe (i:=0) Dd k1) eqN),(Uj ⟨pl7,rfl⟩ Qj)⟩
       exact D.path (.inr rfl) (args:=[]) (args':=[]) (fun _ _ => .nil) (fin:=.pan (tk 322)) Dk
      |ok y6=>
       obtain⟨⟨t8k,t8x,t8n,t8p,t8c⟩,m7⟩:=y6;(try dsimp only [andThen,ok,bad] at hr)
       cases hr;have D:Told b E (mkN E.len hd w.heap.size [l,l.tail,l.tail.tail,m7] [.mk t8k t8x t8n t8p t8c] [] []) hd w [X5 0 (tk 321),Qo 0 (tk 129) (tk 321),Xv Kr 0 true (tk 321),Uk 0 1 (tk 321),Xn Kr 1 2 (tk 321),Qq 37 [.int .i64 1] 2 3 (tk 256) 0 (tk 321)] ⟨[],[],[],[]⟩ [(129,.int .i64 1,true)]:=
        ⟨h,rfl,rfl,rfl,rfl,Qa (X8 rfl Dd _) (Qa (Qp Dd (.inl rfl) _) (Qa (Xx k2 _) (Qa (Uz Dd k3 rfl _) (Qa (Xo rfl Dd k4 rfl _) (Qa (Qs he (.inr rfl) rfl Qv k5 (.inl rfl) Dd) Xb))))),fun _ hx=>(by cases hx),Qn,Ql,(eqC (Qe (i:=0) Dd k1) eqN),Qj⟩
       exact D.path (.inr rfl) (args:=[]) (args':=[]) (fun _ _ => .nil) (fin:=.tree (.nd (.int .i64 21) (tk 130) (.int .u64 0) (tk 128) [.ab (tk 256) (tk 257) (tk 258) (tk 259) 1]) 3) Dk
    |false=>
     rw[k4,if_neg Dd] at hr;(try dsimp only [andThen,ok,bad] at hr)
     cases hr;have D:Told b E (mkN E.len hd w.heap.size [l,l.tail] [] [] []) hd w [X5 0 (tk 321),Qo 0 (tk 129) (tk 321),Xv Kr 0 true (tk 321),Uk 0 1 (tk 321),Fa Kr 1 (tk 321)] ⟨[],[],[],[]⟩ [(129,.int .i64 1,true)]:=
      ⟨h,rfl,rfl,rfl,rfl,Qa (X8 rfl Dd _) (Qa (Qp Dd (.inl rfl) _) (Qa (Xx k2 _) (Qa (Uz Dd k3 rfl _) (Qa (Na rfl Dd k4 _) Xb)))),fun _ hx=>(by cases hx),Qn,Ql,(eqC (Qe (i:=0) Dd k1) eqN),Qj⟩
     exact D.path (.inr rfl) (args:=[]) (args':=[]) (fun _ _ => .nil) (fin:=.pan (tk 136)) Dk
   |false=>
    rw[k3,if_neg Dd] at hr;(try dsimp only [andThen,ok,bad] at hr)
    cases hr;have D:Told b E (mkN E.len hd w.heap.size [l] [] [] []) hd w [X5 0 (tk 321),Qo 0 (tk 129) (tk 321),Xv Kr 0 true (tk 321),Qca 0 (tk 321)] ⟨[],[],[],[]⟩ [(129,.int .i64 1,true)]:=
     ⟨h,rfl,rfl,rfl,rfl,Qa (X8 rfl Dd _) (Qa (Qp Dd (.inl rfl) _) (Qa (Xx k2 _) (Qa (Qdg rfl Dd k3 _) Xb))),fun _ hx=>(by cases hx),Qn,Ql,(eqC (Qe (i:=0) Dd k1) eqN),Qj⟩
    exact D.path (.inr rfl) (args:=[]) (args':=[]) (fun _ _ => .nil) (fin:=.pan (tk 128)) Dk
  |false=>
   rw[k2,if_neg Dd] at hr;cases k3:Xc E.len f 1 hd l with
   |none=>rw[k3] at hr;cases hr
   |some y4=>
    rw[k3] at hr;cases y4 with
    |error pl5=>
     (try dsimp only [andThen,ok,bad] at hr)
     cases hr;have D:Told b E (mkN E.len hd w.heap.size [l] [] [] [(pl5:Int)]) hd w [X5 0 (tk 321),Qo 0 (tk 129) (tk 321),Xv Kr 0 false (tk 321),Xt 37 [.int .i64 1] 0 2 (tk 321)] ⟨[],[],[],[322]⟩ [(129,.int .i64 1,true)]:=
      ⟨h,rfl,rfl,rfl,rfl,Qa (X8 rfl Dd _) (Qa (Qp Dd (.inl rfl) _) (Qa (Xx k2 _) (Qa (X6 he (.inr rfl) rfl Qv k3 Dd rfl) Xb))),fun _ hx=>(by cases hx),Qn,Ql,(eqC (Qe (i:=0) Dd k1) eqN),(Uj ⟨pl5,rfl⟩ Qj)⟩
     exact D.path (.inr rfl) (args:=[]) (args':=[]) (fun _ _ => .nil) (fin:=.pan (tk 322)) Dk
    |ok y4=>
     obtain⟨⟨t6k,t6x,t6n,t6p,t6c⟩,m5⟩:=y4;(try dsimp only [andThen,ok,bad] at hr)
     cases k7:isP wEq m5 with
     |true=>
      rw[k7,if_pos rfl] at hr;cases k8:Xc E.len f 1 hd m5.tail with
      |none=>rw[k8] at hr;cases hr
      |some y9=>
       rw[k8] at hr;cases y9 with
       |error pl10=>
        (try dsimp only [andThen,ok,bad] at hr)
        cases hr;have D:Told b E (mkN E.len hd w.heap.size [l,m5,m5.tail] [.mk t6k t6x t6n t6p t6c] [] [(pl10:Int)]) hd w [X5 0 (tk 321),Qo 0 (tk 129) (tk 321),Xv Kr 0 false (tk 321),Qq 37 [.int .i64 1] 0 1 (tk 256) 0 (tk 321),X5 1 (tk 321),Qx wEq 1 2 (tk 321),Xt 37 [.int .i64 1] 2 2 (tk 321)] ⟨[],[],[],[322]⟩ [(129,.int .i64 1,true)]:=
         ⟨h,rfl,rfl,rfl,rfl,Qa (X8 rfl Dd _) (Qa (Qp Dd (.inl rfl) _) (Qa (Xx k2 _) (Qa (Qs he (.inr rfl) rfl Qv k3 (.inl rfl) Dd) (Qa (X8 rfl Dd _) (Qa (Qz k7 rfl _) (Qa (X6 he (.inr rfl) rfl Qv k8 Dd rfl) Xb)))))),fun _ hx=>(by cases hx),Qn,Ql,(eqC (Qe (i:=0) Dd k1) eqN),(Uj ⟨pl10,rfl⟩ Qj)⟩
        exact D.path (.inr rfl) (args:=[]) (args':=[]) (fun _ _ => .nil) (fin:=.pan (tk 322)) Dk
       |ok y9=>
        obtain⟨⟨t11k,t11x,t11n,t11p,t11c⟩,m10⟩:=y9;(try dsimp only [andThen,ok,bad] at hr)
        cases k12:(Tr.mk t6k t6x t6n t6p t6c).kind==30 with
        |true=>
         rw[k12,Bool.true_or,if_pos rfl] at hr;cases hr;have D:Told b E (mkN E.len hd w.heap.size [l,m5,m5.tail,m10] [.mk t6k t6x t6n t6p t6c,.mk t11k t11x t11n t11p t11c] [] []) hd w [X5 0 (tk 321),Qo 0 (tk 129) (tk 321),Xv Kr 0 false (tk 321),Qq 37 [.int .i64 1] 0 1 (tk 256) 0 (tk 321),X5 1 (tk 321),Qx wEq 1 2 (tk 321),Qq 37 [.int .i64 1] 2 3 (tk 260) 1 (tk 321)] ⟨[],[],[],[]⟩ [(129,.int .i64 1,true),(256,.int .i64 30,true)]:=
          ⟨h,rfl,rfl,rfl,rfl,Qa (X8 rfl Dd _) (Qa (Qp Dd (.inl rfl) _) (Qa (Xx k2 _) (Qa (Qs he (.inr rfl) rfl Qv k3 (.inl rfl) Dd) (Qa (X8 rfl Dd _) (Qa (Qz k7 rfl _) (Qa (Qs he (.inr rfl) rfl Qv k8 (.inl rfl) Dd) Xb)))))),fun _ hx=>(by cases hx),Qn,Ql,(eqC (Qe (i:=0) Dd k1) (eqC (Q9 (c:=0) Dd k12) eqN)),Qj⟩
         exact D.path (.inr rfl) (args:=[]) (args':=[]) (fun _ _ => .nil) (fin:=.tree (.nd (.int .i64 23) (.string ⟨#[]⟩) (.int .u64 0) (tk 128) [.ab (tk 256) (tk 257) (tk 258) (tk 259) 1,.ab (tk 260) (tk 261) (tk 262) (tk 263) 9]) 3) Dk
        |false=>
         rw[k12,Bool.false_or] at hr;cases k13:(Tr.mk t6k t6x t6n t6p t6c).kind==35 with
         |true=>
          rw[k13,Bool.true_or,if_pos rfl] at hr;cases hr;have D:Told b E (mkN E.len hd w.heap.size [l,m5,m5.tail,m10] [.mk t6k t6x t6n t6p t6c,.mk t11k t11x t11n t11p t11c] [] []) hd w [X5 0 (tk 321),Qo 0 (tk 129) (tk 321),Xv Kr 0 false (tk 321),Qq 37 [.int .i64 1] 0 1 (tk 256) 0 (tk 321),X5 1 (tk 321),Qx wEq 1 2 (tk 321),Qq 37 [.int .i64 1] 2 3 (tk 260) 1 (tk 321)] ⟨[],[],[],[]⟩ [(129,.int .i64 1,true),(256,.int .i64 30,false),(256,.int .i64 35,true)]:=
           ⟨h,rfl,rfl,rfl,rfl,Qa (X8 rfl Dd _) (Qa (Qp Dd (.inl rfl) _) (Qa (Xx k2 _) (Qa (Qs he (.inr rfl) rfl Qv k3 (.inl rfl) Dd) (Qa (X8 rfl Dd _) (Qa (Qz k7 rfl _) (Qa (Qs he (.inr rfl) rfl Qv k8 (.inl rfl) Dd) Xb)))))),fun _ hx=>(by cases hx),Qn,Ql,(eqC (Qe (i:=0) Dd k1) (eqC (Q9 (c:=0) Dd k12) (eqC (Q9 (c:=0) Dd k13) eqN))),Qj⟩
          exact D.path (.inr rfl) (args:=[]) (args':=[]) (fun _ _ => .nil) (fin:=.tree (.nd (.int .i64 23) (.string ⟨#[]⟩) (.int .u64 0) (tk 128) [.ab (tk 256) (tk 257) (tk 258) (tk 259) 1,.ab (tk 260) (tk 261) (tk 262) (tk 263) 9]) 3) Dk
         |false=>
          rw[k13,Bool.false_or] at hr;cases k14:(Tr.mk t6k t6x t6n t6p t6c).kind==36 with
          |true=>
           rw[k14,if_pos rfl] at hr;cases hr;have D:Told b E (mkN E.len hd w.heap.size [l,m5,m5.tail,m10] [.mk t6k t6x t6n t6p t6c,.mk t11k t11x t11n t11p t11c] [] []) hd w [X5 0 (tk 321),Qo 0 (tk 129) (tk 321),Xv Kr 0 false (tk 321),Qq 37 [.int .i64 1] 0 1 (tk 256) 0 (tk 321),X5 1 (tk 321),Qx wEq 1 2 (tk 321),Qq 37 [.int .i64 1] 2 3 (tk 260) 1 (tk 321)] ⟨[],[],[],[]⟩ [(129,.int .i64 1,true),(256,.int .i64 30,false),(256,.int .i64 35,false),(256,.int .i64 36,true)]:=
            ⟨h,rfl,rfl,rfl,rfl,Qa (X8 rfl Dd _) (Qa (Qp Dd (.inl rfl) _) (Qa (Xx k2 _) (Qa (Qs he (.inr rfl) rfl Qv k3 (.inl rfl) Dd) (Qa (X8 rfl Dd _) (Qa (Qz k7 rfl _) (Qa (Qs he (.inr rfl) rfl Qv k8 (.inl rfl) Dd) Xb)))))),fun _ hx=>(by cases hx),Qn,Ql,(eqC (Qe (i:=0) Dd k1) (eqC (Q9 (c:=0) Dd k12) (eqC (Q9 (c:=0) Dd k13) (eqC (Q9 (c:=0) Dd k14) eqN)))),Qj⟩
           exact D.path (.inr rfl) (args:=[]) (args':=[]) (fun _ _ => .nil) (fin:=.tree (.nd (.int .i64 23) (.string ⟨#[]⟩) (.int .u64 0) (tk 128) [.ab (tk 256) (tk 257) (tk 258) (tk 259) 1,.ab (tk 260) (tk 261) (tk 262) (tk 263) 9]) 3) Dk
          |false=>
           rw[k14,if_neg Dd] at hr;cases hr;have D:Told b E (mkN E.len hd w.heap.size [l,m5,m5.tail,m10] [.mk t6k t6x t6n t6p t6c,.mk t11k t11x t11n t11p t11c] [] []) hd w [X5 0 (tk 321),Qo 0 (tk 129) (tk 321),Xv Kr 0 false (tk 321),Qq 37 [.int .i64 1] 0 1 (tk 256) 0 (tk 321),X5 1 (tk 321),Qx wEq 1 2 (tk 321),Qq 37 [.int .i64 1] 2 3 (tk 260) 1 (tk 321)] ⟨[],[],[],[]⟩ [(129,.int .i64 1,true),(256,.int .i64 30,false),(256,.int .i64 35,false),(256,.int .i64 36,false)]:=
            ⟨h,rfl,rfl,rfl,rfl,Qa (X8 rfl Dd _) (Qa (Qp Dd (.inl rfl) _) (Qa (Xx k2 _) (Qa (Qs he (.inr rfl) rfl Qv k3 (.inl rfl) Dd) (Qa (X8 rfl Dd _) (Qa (Qz k7 rfl _) (Qa (Qs he (.inr rfl) rfl Qv k8 (.inl rfl) Dd) Xb)))))),fun _ hx=>(by cases hx),Qn,Ql,(eqC (Qe (i:=0) Dd k1) (eqC (Q9 (c:=0) Dd k12) (eqC (Q9 (c:=0) Dd k13) (eqC (Q9 (c:=0) Dd k14) eqN)))),Qj⟩
           exact D.path (.inr rfl) (args:=[]) (args':=[]) (fun _ _ => .nil) (fin:=.pan (tk 128)) Dk
     |false=>
      rw[k7,if_neg Dd] at hr;cases k8:isP Xp m5 with
      |true=>
       rw[k8,if_pos rfl] at hr;cases k9:Xc E.len f 1 hd m5.tail with
       |none=>rw[k9] at hr;cases hr
       |some y10=>
        rw[k9] at hr;cases y10 with
        |error pl11=>
         (try dsimp only [andThen,ok,bad] at hr)
         cases hr;have D:Told b E (mkN E.len hd w.heap.size [l,m5,m5.tail] [.mk t6k t6x t6n t6p t6c] [] [(pl11:Int)]) hd w [X5 0 (tk 321),Qo 0 (tk 129) (tk 321),Xv Kr 0 false (tk 321),Qq 37 [.int .i64 1] 0 1 (tk 256) 0 (tk 321),X5 1 (tk 321),Qc wEq 1 (tk 321),Qx Xp 1 2 (tk 321),Xt 37 [.int .i64 1] 2 2 (tk 321)] ⟨[],[],[],[322]⟩ [(129,.int .i64 1,true)]:=
          ⟨h,rfl,rfl,rfl,rfl,Qa (X8 rfl Dd _) (Qa (Qp Dd (.inl rfl) _) (Qa (Xx k2 _) (Qa (Qs he (.inr rfl) rfl Qv k3 (.inl rfl) Dd) (Qa (X8 rfl Dd _) (Qa (Qd k7 _) (Qa (Qz k8 rfl _) (Qa (X6 he (.inr rfl) rfl Qv k9 Dd rfl) Xb))))))),fun _ hx=>(by cases hx),Qn,Ql,(eqC (Qe (i:=0) Dd k1) eqN),(Uj ⟨pl11,rfl⟩ Qj)⟩
         exact D.path (.inr rfl) (args:=[]) (args':=[]) (fun _ _ => .nil) (fin:=.pan (tk 322)) Dk
        |ok y10=>
         obtain⟨⟨t12k,t12x,t12n,t12p,t12c⟩,m11⟩:=y10;(try dsimp only [andThen,ok,bad] at hr)
         cases hr;have D:Told b E (mkN E.len hd w.heap.size [l,m5,m5.tail,m11] [.mk t6k t6x t6n t6p t6c,.mk t12k t12x t12n t12p t12c] [] []) hd w [X5 0 (tk 321),Qo 0 (tk 129) (tk 321),Xv Kr 0 false (tk 321),Qq 37 [.int .i64 1] 0 1 (tk 256) 0 (tk 321),X5 1 (tk 321),Qc wEq 1 (tk 321),Qx Xp 1 2 (tk 321),Qq 37 [.int .i64 1] 2 3 (tk 260) 1 (tk 321)] ⟨[],[],[],[]⟩ [(129,.int .i64 1,true)]:=
          ⟨h,rfl,rfl,rfl,rfl,Qa (X8 rfl Dd _) (Qa (Qp Dd (.inl rfl) _) (Qa (Xx k2 _) (Qa (Qs he (.inr rfl) rfl Qv k3 (.inl rfl) Dd) (Qa (X8 rfl Dd _) (Qa (Qd k7 _) (Qa (Qz k8 rfl _) (Qa (Qs he (.inr rfl) rfl Qv k9 (.inl rfl) Dd) Xb))))))),fun _ hx=>(by cases hx),Qn,Ql,(eqC (Qe (i:=0) Dd k1) eqN),Qj⟩
         exact D.path (.inr rfl) (args:=[]) (args':=[]) (fun _ _ => .nil) (fin:=.tree (.nd (.int .i64 41) (.string ⟨#[]⟩) (.int .u64 0) (tk 136) [.ab (tk 256) (tk 257) (tk 258) (tk 259) 1,.ab (tk 260) (tk 261) (tk 262) (tk 263) 9]) 3) Dk
      |false=>
       rw[k8,if_neg Dd] at hr;cases k9:(Tr.mk t6k t6x t6n t6p t6c).kind==34 with
       |true=>
        rw[k9,Bool.true_or,if_pos rfl] at hr;cases hr;have D:Told b E (mkN E.len hd w.heap.size [l,m5] [.mk t6k t6x t6n t6p t6c] [] []) hd w [X5 0 (tk 321),Qo 0 (tk 129) (tk 321),Xv Kr 0 false (tk 321),Qq 37 [.int .i64 1] 0 1 (tk 256) 0 (tk 321),X5 1 (tk 321),Qc wEq 1 (tk 321),Qc Xp 1 (tk 321)] ⟨[],[],[],[]⟩ [(129,.int .i64 1,true),(256,.int .i64 34,true)]:=
         ⟨h,rfl,rfl,rfl,rfl,Qa (X8 rfl Dd _) (Qa (Qp Dd (.inl rfl) _) (Qa (Xx k2 _) (Qa (Qs he (.inr rfl) rfl Qv k3 (.inl rfl) Dd) (Qa (X8 rfl Dd _) (Qa (Qd k7 _) (Qa (Qd k8 _) Xb)))))),fun _ hx=>(by cases hx),Qn,Ql,(eqC (Qe (i:=0) Dd k1) (eqC (Q9 (c:=0) Dd k9) eqN)),Qj⟩
        exact D.path (.inr rfl) (args:=[]) (args':=[]) (fun _ _ => .nil) (fin:=.tree (.nd (.int .i64 24) (.string ⟨#[]⟩) (.int .u64 0) (tk 128) [.ab (tk 256) (tk 257) (tk 258) (tk 259) 1]) 1) Dk
       |false=>
        rw[k9,Bool.false_or] at hr;cases k10:(Tr.mk t6k t6x t6n t6p t6c).kind==39 with
        |true=>
         rw[k10,if_pos rfl] at hr;cases hr;have D:Told b E (mkN E.len hd w.heap.size [l,m5] [.mk t6k t6x t6n t6p t6c] [] []) hd w [X5 0 (tk 321),Qo 0 (tk 129) (tk 321),Xv Kr 0 false (tk 321),Qq 37 [.int .i64 1] 0 1 (tk 256) 0 (tk 321),X5 1 (tk 321),Qc wEq 1 (tk 321),Qc Xp 1 (tk 321)] ⟨[],[],[],[]⟩ [(129,.int .i64 1,true),(256,.int .i64 34,false),(256,.int .i64 39,true)]:=
          ⟨h,rfl,rfl,rfl,rfl,Qa (X8 rfl Dd _) (Qa (Qp Dd (.inl rfl) _) (Qa (Xx k2 _) (Qa (Qs he (.inr rfl) rfl Qv k3 (.inl rfl) Dd) (Qa (X8 rfl Dd _) (Qa (Qd k7 _) (Qa (Qd k8 _) Xb)))))),fun _ hx=>(by cases hx),Qn,Ql,(eqC (Qe (i:=0) Dd k1) (eqC (Q9 (c:=0) Dd k9) (eqC (Q9 (c:=0) Dd k10) eqN))),Qj⟩
         exact D.path (.inr rfl) (args:=[]) (args':=[]) (fun _ _ => .nil) (fin:=.tree (.nd (.int .i64 24) (.string ⟨#[]⟩) (.int .u64 0) (tk 128) [.ab (tk 256) (tk 257) (tk 258) (tk 259) 1]) 1) Dk
        |false=>
         rw[k10,if_neg Dd] at hr;cases hr;have D:Told b E (mkN E.len hd w.heap.size [l,m5] [.mk t6k t6x t6n t6p t6c] [] []) hd w [X5 0 (tk 321),Qo 0 (tk 129) (tk 321),Xv Kr 0 false (tk 321),Qq 37 [.int .i64 1] 0 1 (tk 256) 0 (tk 321),X5 1 (tk 321),Qc wEq 1 (tk 321),Qc Xp 1 (tk 321)] ⟨[],[],[],[]⟩ [(129,.int .i64 1,true),(256,.int .i64 34,false),(256,.int .i64 39,false)]:=
          ⟨h,rfl,rfl,rfl,rfl,Qa (X8 rfl Dd _) (Qa (Qp Dd (.inl rfl) _) (Qa (Xx k2 _) (Qa (Qs he (.inr rfl) rfl Qv k3 (.inl rfl) Dd) (Qa (X8 rfl Dd _) (Qa (Qd k7 _) (Qa (Qd k8 _) Xb)))))),fun _ hx=>(by cases hx),Qn,Ql,(eqC (Qe (i:=0) Dd k1) (eqC (Q9 (c:=0) Dd k9) (eqC (Q9 (c:=0) Dd k10) eqN))),Qj⟩
         exact D.path (.inr rfl) (args:=[]) (args':=[]) (fun _ _ => .nil) (fin:=.pan (tk 128)) Dk
 |false=>
  rw[k1,Bool.false_and,if_neg Dd] at hr;cases k2:Xc E.len f 1 hd l with
  |none=>rw[k2] at hr;cases hr
  |some y3=>
   rw[k2] at hr;cases y3 with
   |error pl4=>
    (try dsimp only [andThen,ok,bad] at hr)
    cases hr;have D:Told b E (mkN E.len hd w.heap.size [l] [] [] [(pl4:Int)]) hd w [X5 0 (tk 321),Qo 0 (tk 129) (tk 321),Xt 37 [.int .i64 1] 0 2 (tk 321)] ⟨[],[],[],[322]⟩ [(129,.int .i64 1,false)]:=
     ⟨h,rfl,rfl,rfl,rfl,Qa (X8 rfl Dd _) (Qa (Qp Dd (.inl rfl) _) (Qa (X6 he (.inr rfl) rfl Qv k2 Dd rfl) Xb)),fun _ hx=>(by cases hx),Qn,Ql,(eqC (Qe (i:=0) Dd k1) eqN),(Uj ⟨pl4,rfl⟩ Qj)⟩
    exact D.path (.inr rfl) (args:=[]) (args':=[]) (fun _ _ => .nil) (fin:=.pan (tk 322)) Dk
   |ok y3=>
    obtain⟨⟨t5k,t5x,t5n,t5p,t5c⟩,m4⟩:=y3;(try dsimp only [andThen,ok,bad] at hr)
    cases k6:isP wEq m4 with
    |true=>
     rw[k6,if_pos rfl] at hr;cases k7:Xc E.len f 1 hd m4.tail with
     |none=>rw[k7] at hr;cases hr
     |some y8=>
      rw[k7] at hr;cases y8 with
      |error pl9=>
       (try dsimp only [andThen,ok,bad] at hr)
       cases hr;have D:Told b E (mkN E.len hd w.heap.size [l,m4,m4.tail] [.mk t5k t5x t5n t5p t5c] [] [(pl9:Int)]) hd w [X5 0 (tk 321),Qo 0 (tk 129) (tk 321),Qq 37 [.int .i64 1] 0 1 (tk 256) 0 (tk 321),X5 1 (tk 321),Qx wEq 1 2 (tk 321),Xt 37 [.int .i64 1] 2 2 (tk 321)] ⟨[],[],[],[322]⟩ [(129,.int .i64 1,false)]:=
        ⟨h,rfl,rfl,rfl,rfl,Qa (X8 rfl Dd _) (Qa (Qp Dd (.inl rfl) _) (Qa (Qs he (.inr rfl) rfl Qv k2 (.inl rfl) Dd) (Qa (X8 rfl Dd _) (Qa (Qz k6 rfl _) (Qa (X6 he (.inr rfl) rfl Qv k7 Dd rfl) Xb))))),fun _ hx=>(by cases hx),Qn,Ql,(eqC (Qe (i:=0) Dd k1) eqN),(Uj ⟨pl9,rfl⟩ Qj)⟩
       exact D.path (.inr rfl) (args:=[]) (args':=[]) (fun _ _ => .nil) (fin:=.pan (tk 322)) Dk
      |ok y8=>
       obtain⟨⟨t10k,t10x,t10n,t10p,t10c⟩,m9⟩:=y8;(try dsimp only [andThen,ok,bad] at hr)
       cases k11:(Tr.mk t5k t5x t5n t5p t5c).kind==30 with
       |true=>
        rw[k11,Bool.true_or,if_pos rfl] at hr;cases hr;have D:Told b E (mkN E.len hd w.heap.size [l,m4,m4.tail,m9] [.mk t5k t5x t5n t5p t5c,.mk t10k t10x t10n t10p t10c] [] []) hd w [X5 0 (tk 321),Qo 0 (tk 129) (tk 321),Qq 37 [.int .i64 1] 0 1 (tk 256) 0 (tk 321),X5 1 (tk 321),Qx wEq 1 2 (tk 321),Qq 37 [.int .i64 1] 2 3 (tk 260) 1 (tk 321)] ⟨[],[],[],[]⟩ [(129,.int .i64 1,false),(256,.int .i64 30,true)]:=
         ⟨h,rfl,rfl,rfl,rfl,Qa (X8 rfl Dd _) (Qa (Qp Dd (.inl rfl) _) (Qa (Qs he (.inr rfl) rfl Qv k2 (.inl rfl) Dd) (Qa (X8 rfl Dd _) (Qa (Qz k6 rfl _) (Qa (Qs he (.inr rfl) rfl Qv k7 (.inl rfl) Dd) Xb))))),fun _ hx=>(by cases hx),Qn,Ql,(eqC (Qe (i:=0) Dd k1) (eqC (Q9 (c:=0) Dd k11) eqN)),Qj⟩
        exact D.path (.inr rfl) (args:=[]) (args':=[]) (fun _ _ => .nil) (fin:=.tree (.nd (.int .i64 23) (.string ⟨#[]⟩) (.int .u64 0) (tk 128) [.ab (tk 256) (tk 257) (tk 258) (tk 259) 1,.ab (tk 260) (tk 261) (tk 262) (tk 263) 9]) 3) Dk
       |false=>
        rw[k11,Bool.false_or] at hr;cases k12:(Tr.mk t5k t5x t5n t5p t5c).kind==35 with
        |true=>
         rw[k12,Bool.true_or,if_pos rfl] at hr;cases hr;have D:Told b E (mkN E.len hd w.heap.size [l,m4,m4.tail,m9] [.mk t5k t5x t5n t5p t5c,.mk t10k t10x t10n t10p t10c] [] []) hd w [X5 0 (tk 321),Qo 0 (tk 129) (tk 321),Qq 37 [.int .i64 1] 0 1 (tk 256) 0 (tk 321),X5 1 (tk 321),Qx wEq 1 2 (tk 321),Qq 37 [.int .i64 1] 2 3 (tk 260) 1 (tk 321)] ⟨[],[],[],[]⟩ [(129,.int .i64 1,false),(256,.int .i64 30,false),(256,.int .i64 35,true)]:=
          ⟨h,rfl,rfl,rfl,rfl,Qa (X8 rfl Dd _) (Qa (Qp Dd (.inl rfl) _) (Qa (Qs he (.inr rfl) rfl Qv k2 (.inl rfl) Dd) (Qa (X8 rfl Dd _) (Qa (Qz k6 rfl _) (Qa (Qs he (.inr rfl) rfl Qv k7 (.inl rfl) Dd) Xb))))),fun _ hx=>(by cases hx),Qn,Ql,(eqC (Qe (i:=0) Dd k1) (eqC (Q9 (c:=0) Dd k11) (eqC (Q9 (c:=0) Dd k12) eqN))),Qj⟩
         exact D.path (.inr rfl) (args:=[]) (args':=[]) (fun _ _ => .nil) (fin:=.tree (.nd (.int .i64 23) (.string ⟨#[]⟩) (.int .u64 0) (tk 128) [.ab (tk 256) (tk 257) (tk 258) (tk 259) 1,.ab (tk 260) (tk 261) (tk 262) (tk 263) 9]) 3) Dk
        |false=>
         rw[k12,Bool.false_or] at hr;cases k13:(Tr.mk t5k t5x t5n t5p t5c).kind==36 with
         |true=>
          rw[k13,if_pos rfl] at hr;cases hr;have D:Told b E (mkN E.len hd w.heap.size [l,m4,m4.tail,m9] [.mk t5k t5x t5n t5p t5c,.mk t10k t10x t10n t10p t10c] [] []) hd w [X5 0 (tk 321),Qo 0 (tk 129) (tk 321),Qq 37 [.int .i64 1] 0 1 (tk 256) 0 (tk 321),X5 1 (tk 321),Qx wEq 1 2 (tk 321),Qq 37 [.int .i64 1] 2 3 (tk 260) 1 (tk 321)] ⟨[],[],[],[]⟩ [(129,.int .i64 1,false),(256,.int .i64 30,false),(256,.int .i64 35,false),(256,.int .i64 36,true)]:=
           ⟨h,rfl,rfl,rfl,rfl,Qa (X8 rfl Dd _) (Qa (Qp Dd (.inl rfl) _) (Qa (Qs he (.inr rfl) rfl Qv k2 (.inl rfl) Dd) (Qa (X8 rfl Dd _) (Qa (Qz k6 rfl _) (Qa (Qs he (.inr rfl) rfl Qv k7 (.inl rfl) Dd) Xb))))),fun _ hx=>(by cases hx),Qn,Ql,(eqC (Qe (i:=0) Dd k1) (eqC (Q9 (c:=0) Dd k11) (eqC (Q9 (c:=0) Dd k12) (eqC (Q9 (c:=0) Dd k13) eqN)))),Qj⟩
          exact D.path (.inr rfl) (args:=[]) (args':=[]) (fun _ _ => .nil) (fin:=.tree (.nd (.int .i64 23) (.string ⟨#[]⟩) (.int .u64 0) (tk 128) [.ab (tk 256) (tk 257) (tk 258) (tk 259) 1,.ab (tk 260) (tk 261) (tk 262) (tk 263) 9]) 3) Dk
         |false=>
          rw[k13,if_neg Dd] at hr;cases hr;have D:Told b E (mkN E.len hd w.heap.size [l,m4,m4.tail,m9] [.mk t5k t5x t5n t5p t5c,.mk t10k t10x t10n t10p t10c] [] []) hd w [X5 0 (tk 321),Qo 0 (tk 129) (tk 321),Qq 37 [.int .i64 1] 0 1 (tk 256) 0 (tk 321),X5 1 (tk 321),Qx wEq 1 2 (tk 321),Qq 37 [.int .i64 1] 2 3 (tk 260) 1 (tk 321)] ⟨[],[],[],[]⟩ [(129,.int .i64 1,false),(256,.int .i64 30,false),(256,.int .i64 35,false),(256,.int .i64 36,false)]:=
           ⟨h,rfl,rfl,rfl,rfl,Qa (X8 rfl Dd _) (Qa (Qp Dd (.inl rfl) _) (Qa (Qs he (.inr rfl) rfl Qv k2 (.inl rfl) Dd) (Qa (X8 rfl Dd _) (Qa (Qz k6 rfl _) (Qa (Qs he (.inr rfl) rfl Qv k7 (.inl rfl) Dd) Xb))))),fun _ hx=>(by cases hx),Qn,Ql,(eqC (Qe (i:=0) Dd k1) (eqC (Q9 (c:=0) Dd k11) (eqC (Q9 (c:=0) Dd k12) (eqC (Q9 (c:=0) Dd k13) eqN)))),Qj⟩
          exact D.path (.inr rfl) (args:=[]) (args':=[]) (fun _ _ => .nil) (fin:=.pan (tk 128)) Dk
    |false=>
     rw[k6,if_neg Dd] at hr;cases k7:isP Xp m4 with
     |true=>
      rw[k7,if_pos rfl] at hr;cases k8:Xc E.len f 1 hd m4.tail with
      |none=>rw[k8] at hr;cases hr
      |some y9=>
       rw[k8] at hr;cases y9 with
       |error pl10=>
        (try dsimp only [andThen,ok,bad] at hr)
        cases hr;have D:Told b E (mkN E.len hd w.heap.size [l,m4,m4.tail] [.mk t5k t5x t5n t5p t5c] [] [(pl10:Int)]) hd w [X5 0 (tk 321),Qo 0 (tk 129) (tk 321),Qq 37 [.int .i64 1] 0 1 (tk 256) 0 (tk 321),X5 1 (tk 321),Qc wEq 1 (tk 321),Qx Xp 1 2 (tk 321),Xt 37 [.int .i64 1] 2 2 (tk 321)] ⟨[],[],[],[322]⟩ [(129,.int .i64 1,false)]:=
         ⟨h,rfl,rfl,rfl,rfl,Qa (X8 rfl Dd _) (Qa (Qp Dd (.inl rfl) _) (Qa (Qs he (.inr rfl) rfl Qv k2 (.inl rfl) Dd) (Qa (X8 rfl Dd _) (Qa (Qd k6 _) (Qa (Qz k7 rfl _) (Qa (X6 he (.inr rfl) rfl Qv k8 Dd rfl) Xb)))))),fun _ hx=>(by cases hx),Qn,Ql,(eqC (Qe (i:=0) Dd k1) eqN),(Uj ⟨pl10,rfl⟩ Qj)⟩
        exact D.path (.inr rfl) (args:=[]) (args':=[]) (fun _ _ => .nil) (fin:=.pan (tk 322)) Dk
       |ok y9=>
        obtain⟨⟨t11k,t11x,t11n,t11p,t11c⟩,m10⟩:=y9;(try dsimp only [andThen,ok,bad] at hr)
        cases hr;have D:Told b E (mkN E.len hd w.heap.size [l,m4,m4.tail,m10] [.mk t5k t5x t5n t5p t5c,.mk t11k t11x t11n t11p t11c] [] []) hd w [X5 0 (tk 321),Qo 0 (tk 129) (tk 321),Qq 37 [.int .i64 1] 0 1 (tk 256) 0 (tk 321),X5 1 (tk 321),Qc wEq 1 (tk 321),Qx Xp 1 2 (tk 321),Qq 37 [.int .i64 1] 2 3 (tk 260) 1 (tk 321)] ⟨[],[],[],[]⟩ [(129,.int .i64 1,false)]:=
         ⟨h,rfl,rfl,rfl,rfl,Qa (X8 rfl Dd _) (Qa (Qp Dd (.inl rfl) _) (Qa (Qs he (.inr rfl) rfl Qv k2 (.inl rfl) Dd) (Qa (X8 rfl Dd _) (Qa (Qd k6 _) (Qa (Qz k7 rfl _) (Qa (Qs he (.inr rfl) rfl Qv k8 (.inl rfl) Dd) Xb)))))),fun _ hx=>(by cases hx),Qn,Ql,(eqC (Qe (i:=0) Dd k1) eqN),Qj⟩
        exact D.path (.inr rfl) (args:=[]) (args':=[]) (fun _ _ => .nil) (fin:=.tree (.nd (.int .i64 41) (.string ⟨#[]⟩) (.int .u64 0) (tk 136) [.ab (tk 256) (tk 257) (tk 258) (tk 259) 1,.ab (tk 260) (tk 261) (tk 262) (tk 263) 9]) 3) Dk
     |false=>
      rw[k7,if_neg Dd] at hr;cases k8:(Tr.mk t5k t5x t5n t5p t5c).kind==34 with
      |true=>
       rw[k8,Bool.true_or,if_pos rfl] at hr;cases hr;have D:Told b E (mkN E.len hd w.heap.size [l,m4] [.mk t5k t5x t5n t5p t5c] [] []) hd w [X5 0 (tk 321),Qo 0 (tk 129) (tk 321),Qq 37 [.int .i64 1] 0 1 (tk 256) 0 (tk 321),X5 1 (tk 321),Qc wEq 1 (tk 321),Qc Xp 1 (tk 321)] ⟨[],[],[],[]⟩ [(129,.int .i64 1,false),(256,.int .i64 34,true)]:=
        ⟨h,rfl,rfl,rfl,rfl,Qa (X8 rfl Dd _) (Qa (Qp Dd (.inl rfl) _) (Qa (Qs he (.inr rfl) rfl Qv k2 (.inl rfl) Dd) (Qa (X8 rfl Dd _) (Qa (Qd k6 _) (Qa (Qd k7 _) Xb))))),fun _ hx=>(by cases hx),Qn,Ql,(eqC (Qe (i:=0) Dd k1) (eqC (Q9 (c:=0) Dd k8) eqN)),Qj⟩
       exact D.path (.inr rfl) (args:=[]) (args':=[]) (fun _ _ => .nil) (fin:=.tree (.nd (.int .i64 24) (.string ⟨#[]⟩) (.int .u64 0) (tk 128) [.ab (tk 256) (tk 257) (tk 258) (tk 259) 1]) 1) Dk
      |false=>
       rw[k8,Bool.false_or] at hr;cases k9:(Tr.mk t5k t5x t5n t5p t5c).kind==39 with
       |true=>
        rw[k9,if_pos rfl] at hr;cases hr;have D:Told b E (mkN E.len hd w.heap.size [l,m4] [.mk t5k t5x t5n t5p t5c] [] []) hd w [X5 0 (tk 321),Qo 0 (tk 129) (tk 321),Qq 37 [.int .i64 1] 0 1 (tk 256) 0 (tk 321),X5 1 (tk 321),Qc wEq 1 (tk 321),Qc Xp 1 (tk 321)] ⟨[],[],[],[]⟩ [(129,.int .i64 1,false),(256,.int .i64 34,false),(256,.int .i64 39,true)]:=
         ⟨h,rfl,rfl,rfl,rfl,Qa (X8 rfl Dd _) (Qa (Qp Dd (.inl rfl) _) (Qa (Qs he (.inr rfl) rfl Qv k2 (.inl rfl) Dd) (Qa (X8 rfl Dd _) (Qa (Qd k6 _) (Qa (Qd k7 _) Xb))))),fun _ hx=>(by cases hx),Qn,Ql,(eqC (Qe (i:=0) Dd k1) (eqC (Q9 (c:=0) Dd k8) (eqC (Q9 (c:=0) Dd k9) eqN))),Qj⟩
        exact D.path (.inr rfl) (args:=[]) (args':=[]) (fun _ _ => .nil) (fin:=.tree (.nd (.int .i64 24) (.string ⟨#[]⟩) (.int .u64 0) (tk 128) [.ab (tk 256) (tk 257) (tk 258) (tk 259) 1]) 1) Dk
       |false=>
        rw[k9,if_neg Dd] at hr;cases hr;have D:Told b E (mkN E.len hd w.heap.size [l,m4] [.mk t5k t5x t5n t5p t5c] [] []) hd w [X5 0 (tk 321),Qo 0 (tk 129) (tk 321),Qq 37 [.int .i64 1] 0 1 (tk 256) 0 (tk 321),X5 1 (tk 321),Qc wEq 1 (tk 321),Qc Xp 1 (tk 321)] ⟨[],[],[],[]⟩ [(129,.int .i64 1,false),(256,.int .i64 34,false),(256,.int .i64 39,false)]:=
         ⟨h,rfl,rfl,rfl,rfl,Qa (X8 rfl Dd _) (Qa (Qp Dd (.inl rfl) _) (Qa (Qs he (.inr rfl) rfl Qv k2 (.inl rfl) Dd) (Qa (X8 rfl Dd _) (Qa (Qd k6 _) (Qa (Qd k7 _) Xb))))),fun _ hx=>(by cases hx),Qn,Ql,(eqC (Qe (i:=0) Dd k1) (eqC (Q9 (c:=0) Dd k8) (eqC (Q9 (c:=0) Dd k9) eqN))),Qj⟩
        exact D.path (.inr rfl) (args:=[]) (args':=[]) (fun _ _ => .nil) (fin:=.pan (tk 128)) Dk
theorem P8 {N:Zv}{i j:Nat}(h:∃ t,N.L i=t::N.L j):∀ x ∈ [(i,j)],∃ t,N.L x.1=t::N.L x.2:=fun x hx=>by
 obtain rfl:=List.mem_singleton.1 hx;exact h
theorem Z4 {l:List Tok}{n:Int}(hn:n≠0)(h:(Xg l==n)=true):∃ t,l=t::l.tail:=by
 cases l with
 |nil=>simp[Xg] at h;omega
 |cons t l=>exact⟨t,rfl⟩
theorem Qkc:∀ l:List UInt8,eqB l l=true
 | []=>rfl
 |a::l=>by
  unfold eqB;rw[Qkc l,Bool.and_true];exact Nat.beq_refl _
theorem eqB_list (a b:List UInt8):eqB a b=(a==b):=by
 cases h:eqB a b with
 |true=>rw[Qg6 h];simp
 |false=>
  symm
  rw[beq_eq_false_iff_ne];rintro rfl;rw[Qkc] at h;cases h
theorem Y4 {N:Zv}{i:Nat}{x:List UInt8}{r:Bool}(hi:i<16)(h:(Vm (N.L i)==x)=r):∃ v,Xh N (130+8*i)=some v∧D5 v (str x) r:=by
 refine⟨.string ⟨(U0 (N.L i)).text.toArray⟩,?_,?_⟩
 ·rw[show 130+8*i=128+8*i+2 by omega,Wn N hi Dd];rfl
 ·rw[Q5] at h;have h2:eqB (U0 (N.L i)).text x=r:=by rw[eqB_list];exact h
  subst h2;exact .str _ _
end Prs
end
section
open Go.RowKit
namespace Prs
open Ev
structure Vr (b q r:Nat)(w w':World):Prop where
 os:w'.os=w.os
 tape:w'.tape=w.tape
 output:w'.output=w.output
 size:w.heap.size≤w'.heap.size
 block:∀ k,k<w.heap.size→k≠b→k≠q→k≠r→w'.heap[k]? = w.heap[k]?
structure Ho where
 n:Nat
 rowSlot:Nat
 resSlot:Nat
 q:Nat
 r:Nat
 direct:List (Nat×Value×Value)
abbrev SX (L:Ho)(w1:World):Nat→Prop:=fun k=>w1.heap.size≤k∧k≠L.q∧k≠L.r
structure Qms (L:Ho)(b:Nat)(E:Env)(hd:Bool)(w1:World)(x:Tr)(l:List Tok)(w:World)(a:Act):Prop where
 rd:RdB b E w l hd
 row:∃ cs:List Value,w.heap[L.q]? = some (.cells cs.toArray 26 (0,0))∧X7 (SX L w1) w x cs
 res:w.heap[L.r]? = some (.cells Q7 26 (0,0))
 keep:Vr b L.q L.r w1 w
 rowS:a.tmps.getD L.rowSlot undef=.pointer (some ⟨L.q,0,none⟩)
 resS:a.tmps.getD L.resSlot undef=.pointer (some ⟨L.r,0,none⟩)
 dirS:∀ x∈L.direct,a.tmps.getD x.1 undef=x.2.2
 n:a.tmps.size=L.n
 ds:a.defers=[]
structure Qmt (L:Ho)(b:Nat)(E:Env)(hd:Bool)(w1:World)(x:Tr)(l:List Tok)(w:World)(a:Act):Prop where
 rd:RdB b E w l hd
 res:∃ cs:List Value,w.heap[L.r]? = some (.cells cs.toArray 26 (0,0))∧X7 (SX L w1) w x cs
 keep:Vr b L.q L.r w1 w
 resS:a.tmps.getD L.resSlot undef=.pointer (some ⟨L.r,0,none⟩)
 ds:a.defers=[]
structure TFix (L:Ho)(b:Nat)(N:Zv)(w1:World):Prop where
 bq:b<L.q
 br:b<L.r
 qr:L.q≠L.r
 bw:b<w1.heap.size
 dir:∀ x∈L.direct,∀ p,AxN b N p→VR p x.2.1 x.2.2
 dirU:∀ x∈L.direct,∀ p u,AxN b N p→VR p x.2.1 u→u=x.2.2
 dirN:∀ x∈L.direct,x.2.1 ≠ .chan none
abbrev Qks:List Value:=[.int .i64 0,.string ⟨#[]⟩,.int .u64 0,.int .i64 0,.slice none 0 0]
abbrev Qnk:List Value:=[tk 256,tk 257,tk 258,tk 259,tk 67]
def Bf (L:Ho)(w1 w:World):Nat→Option Obj:=fun k=>if w1.heap.size≤k∧k≠L.q∧k≠L.r then w.heap[k]? else none
def Ap (L:Ho)(b:Nat)(vt v:Value)(w1 w:World):List (Nat×Q3×Vq):=
 [(64,.row Nk 61 3,⟨b,0,3,3,undef,noF⟩),(65,.abs 0,⟨0,0,0,0,vt,noF⟩),(66,.row Qnk 26 5,⟨L.q,0,5,5,undef,noF⟩),(67,.abs 1,⟨0,0,0,0,v,Bf L w1 w⟩),(68,.row Qks 26 5,⟨L.r,0,5,5,undef,noF⟩)]
def Ai (L:Ho):List (Nat×Value):=(L.rowSlot,.pointer (some ⟨66,0,none⟩))::(L.resSlot,.pointer (some ⟨68,0,none⟩))::L.direct.map fun x=>(x.1,x.2.1)
def Qom (b:Nat)(L:Ho)(w1:World):Nat→Prop:=fun k=>k=b∨k=L.q∨k=L.r∨w1.heap.size≤k
noncomputable def heapT:Tree Q3:=hOf [(64,.row Nk 61 3,⟨0,0,0,0,undef,noF⟩),(65,.abs 0,⟨0,0,0,0,undef,noF⟩),(66,.row Qnk 26 5,⟨0,0,0,0,undef,noF⟩),(67,.abs 1,⟨0,0,0,0,undef,noF⟩),(68,.row Qks 26 5,⟨0,0,0,0,undef,noF⟩)]
theorem heapT_eq (L:Ho)(b:Nat)(vt v:Value)(w1 w:World):hOf (Ap L b vt v w1 w)=heapT:=rfl
theorem J3 {L:Ho}{b:Nat}{vt v:Value}{w1 w:World}{P:Nat×Q3×Vq→Prop}(h1:P (64,.row Nk 61 3,⟨b,0,3,3,undef,noF⟩))(h2:P (65,.abs 0,⟨0,0,0,0,vt,noF⟩))(h3:P (66,.row Qnk 26 5,⟨L.q,0,5,5,undef,noF⟩))(h4:P (67,.abs 1,⟨0,0,0,0,v,Bf L w1 w⟩))(h5:P (68,.row Qks 26 5,⟨L.r,0,5,5,undef,noF⟩)):∀ x∈Ap L b vt v w1 w,P x:=fun x hx=>by
 unfold Ap at hx;simp only[List.mem_cons,List.not_mem_nil,or_false] at hx;rcases hx with rfl|rfl|rfl|rfl|rfl <;> assumption
theorem H7 {L:Ho}{w1 w:World}{k:Nat}(h:Bf L w1 w k≠none):SX L w1 k∧k<w.heap.size:=by
 unfold Bf at h;split at h
 ·rename_i hk;refine⟨hk,?_⟩;rcases Nat.lt_or_ge k w.heap.size with h2|h2
  ·exact h2
  ·exact absurd (Array.getElem?_eq_none h2) h
 ·exact absurd rfl h
theorem Qmh {L:Ho}{b:Nat}{N:Zv}{vt v:Value}{w1 w:World}(X:TFix L b N w1):Apart (Ap L b vt v w1 w):=by
 have h1:=X.bq;have h2:=X.br;have h3:=X.qr;have h4:=X.bw;have noO:∀ {m:Nat} {u:Value} {k:Nat},¬ Occ (.abs m) ⟨0,0,0,0,u,noF⟩ k:=fun h=>h rfl
 refine⟨fun y hy=>?_,fun y hy=>?_,fun y hy=>?_,fun y hy=>?_,fun y hy=>(by cases hy),trivial⟩
 ·simp only[List.mem_cons,List.not_mem_nil,or_false] at hy;rcases hy with rfl|rfl|rfl|rfl
  ·exact⟨Nat.ne_of_beq_eq_false rfl,fun k k1 k2=>noO k2⟩
  ·exact⟨Nat.ne_of_beq_eq_false rfl,fun k (k1:k=b) (k2:k=L.q)=>by omega⟩
  ·exact⟨Nat.ne_of_beq_eq_false rfl,fun k (k1:k=b) k2=>by have:=(H7 k2).1.1;have:=(H7 k2).1.2;omega⟩
  ·exact⟨Nat.ne_of_beq_eq_false rfl,fun k (k1:k=b) (k2:k=L.r)=>by omega⟩
 ·simp only[List.mem_cons,List.not_mem_nil,or_false] at hy;rcases hy with rfl|rfl|rfl
  ·exact⟨Nat.ne_of_beq_eq_false rfl,fun k k1=>absurd k1 noO⟩
  ·exact⟨Nat.ne_of_beq_eq_false rfl,fun k k1=>absurd k1 noO⟩
  ·exact⟨Nat.ne_of_beq_eq_false rfl,fun k k1=>absurd k1 noO⟩
 ·simp only[List.mem_cons,List.not_mem_nil,or_false] at hy;rcases hy with rfl|rfl
  ·exact⟨Nat.ne_of_beq_eq_false rfl,fun k (k1:k=L.q) k2=>by have:=(H7 k2).1.1;have:=(H7 k2).1.2;omega⟩
  ·exact⟨Nat.ne_of_beq_eq_false rfl,fun k (k1:k=L.q) (k2:k=L.r)=>by omega⟩
 ·simp only[List.mem_cons,List.not_mem_nil,or_false] at hy;subst hy;exact⟨Nat.ne_of_beq_eq_false rfl,fun k k1 (k2:k=L.r)=>(H7 k1).1.2.2 k2⟩
structure Xw (L:Ho)(b:Nat)(E:Env)(N:Zv)(hd:Bool)(w1 w:World)(cs:List Xr)(T:OpT)(eqc:List (Nat×Value×Bool)):Prop where
 len:N.len=E.len
 x0:N.X 0=.int .i64 (E.len:Int)
 x1:N.X 1=.bool hd
 s:N.S=SX L w1
 calls:∀ c∈cs,Vz b E N w c
 nxt:∀ x∈T.nxt,∃ t,N.L x.1=t::N.L x.2
 app:Qad N T.app
 put:Qfm N T.put
 eqc:∀ x∈eqc,∃ v,Xh N x.1=some v∧D5 v x.2.1 x.2.2
 pos:Fj N T.pos
 fix:TFix L b N w1
section
variable {L:Ho} {b:Nat} {E:Env} {N:Zv} {hd:Bool} {w1 w:World} {cs:List Xr} {T:OpT} {eqc:List (Nat×Value×Bool)} {x:Tr} {l:List Tok} {a:Act} {Q:Exit→Act→World→Prop}
theorem Xw.dis (D:Xw L b E N hd w1 w cs T eqc){p:Xa}(h:AxN b N p):Dis (V6 b E N cs T eqc) p where
 eqs:=fun x hx=>by cases hx
 eqc:=fun x hx=>by
  obtain⟨v,h1,h2⟩:=D.eqc x hx;obtain⟨s,h3,h4⟩:=h.tok _ _ h1;exact⟨s,h3,by rw[h4];exact h2⟩
 ax:=h
theorem Xw.start (D:Xw L b E N hd w1 w cs T eqc)(hL:N.L 0=l)(hT:N.T 0=x)(I:Qms L b E hd w1 x l w a):
  ∃ (vt v:Value),Rel (V6 b E N cs T eqc) (Qom b L w1) w (Gi N (Ap L b vt v w1 w)) heapT w∧Mc (Gi N (Ap L b vt v w1 w)) (locL L.n (Ai L)) a∧Ctx b E N (V6 b E N cs T eqc) (Qom b L w1) w cs∧Apart (Ap L b vt v w1 w)∧∀ x∈Ap L b vt v w1 w,x.1<128:=by
 have X:=D.fix;obtain⟨hlo,vt,hrdrow,htok⟩:=I.rd;obtain⟨cs5,hrow,hnode⟩:=I.row;cases x with
 |mk xk xx xn xp xc=>
 unfold X7 at hnode;obtain⟨ad,cp,rfl,hl⟩:=hnode;have hap:=Qmh (w:=w) (vt:=vt) (v:=.slice ad xc.length cp) X;have h128:∀ x∈Ap L b vt (.slice ad xc.length cp) w1 w,x.1<128:=J3 (P:=fun x=>x.1<128) (Nat.le_of_ble_eq_true rfl) (Nat.le_of_ble_eq_true rfl) (Nat.le_of_ble_eq_true rfl) (Nat.le_of_ble_eq_true rfl) (Nat.le_of_ble_eq_true rfl);have hin64:(64,.row Nk 61 3,(⟨b,0,3,3,undef,noF⟩:Vq))∈Ap L b vt (.slice ad xc.length cp) w1 w:=by unfold Ap;exact List.mem_cons_self ..
 have hax:=Qju (N:=N) (J3 (fun e=>by cases e) (fun e=>by cases e) (fun e=>by cases e) (fun e=>by cases e) (fun e=>by cases e)) hap h128 hin64 rfl rfl rfl rfl;have hat:=fun x hx=>Gs (N:=N) hap x hx
 have m65:(65,.abs 0,(⟨0,0,0,0,vt,noF⟩:Vq))∈Ap L b vt (.slice ad xc.length cp) w1 w:=by unfold Ap;simp
 have m66:(66,.row Qnk 26 5,(⟨L.q,0,5,5,undef,noF⟩:Vq))∈Ap L b vt (.slice ad xc.length cp) w1 w:=by unfold Ap;simp
 have m67:(67,.abs 1,(⟨0,0,0,0,.slice ad xc.length cp,Bf L w1 w⟩:Vq))∈Ap L b vt (.slice ad xc.length cp) w1 w:=by unfold Ap;simp
 have m68:(68,.row Qks 26 5,(⟨L.r,0,5,5,undef,noF⟩:Vq))∈Ap L b vt (.slice ad xc.length cp) w1 w:=by unfold Ap;simp
 have hv1:vt.oneCell'=true:=by obtain⟨a,c,rfl,-⟩:=htok;rfl
 have hC:Ctx b E N (V6 b E N cs T eqc) (Qom b L w1) w cs:={
  orc:=rfl,mean:=rfl,ax:=rfl,n:=rfl,ob:=.inl rfl,
  lo:=fun k hk=>by
   have:=X.bq
   have:=X.br
   have:=X.bw;rcases hk with rfl|rfl|rfl|hk <;> omega
  bw:=I.rd.lt,low:=I.rd.1,x0:=D.x0,len:=D.len,x1:=⟨hd,D.x1⟩,
  s:=fun k hk=>by
   have hqlt:=(Array.getElem?_eq_some_iff.1 hrow).1;have hrlt:=(Array.getElem?_eq_some_iff.1 I.res).1;rw[D.s];exact⟨Nat.le_trans I.keep.size hk,by omega,by omega⟩
  calls:=D.calls }
 have tval:∀ f v,Y3 N 0 f=some v→f<4→VR (Gi N (Ap L b vt (.slice ad xc.length cp) w1 w)) (tk (256+f)) v:=fun f v hfv hf=>hax.vr (by
  unfold Xh;rw[if_neg Dw,if_neg Dw,if_pos Dw,show (256+f-256) / 4=0 by omega,show (256+f-256) % 4=f by omega]
  exact hfv)
 have hrel:Rel (V6 b E N cs T eqc) (Qom b L w1) w (Gi N (Ap L b vt (.slice ad xc.length cp) w1 w)) (hOf (Ap L b vt (.slice ad xc.length cp) w1 w)) w:=by
  refine rel_of rfl (D.dis hax) hat hap ?_ ?_ ?_ ?_
  ·exact J3 (P:=fun x=>64≤x.1→∀ k,Occ x.2.1 x.2.2 k→Qom b L w1 k) (fun _ k hk => .inl hk) (fun _ k hk=>absurd rfl hk) (fun _ k hk => .inr (.inl hk)) (fun _ k hk => .inr (.inr (.inr (H7 hk).1.1))) (fun _ k hk => .inr (.inr (.inl hk)))
  ·refine J3 (P:=fun x=>∀ k,Occ x.2.1 x.2.2 k→k<w.heap.size) (fun k hk=>?_) (fun k hk=>absurd rfl hk) (fun k hk=>?_) (fun k hk=>(H7 hk).2) (fun k hk=>?_)
   ·rw[show k=b from hk];exact I.rd.lt
   ·rw[show k=L.q from hk];exact(Array.getElem?_eq_some_iff.1 hrow).1
   ·rw[show k=L.r from hk];exact(Array.getElem?_eq_some_iff.1 I.res).1
  ·refine J3 (P:=fun x=>E8 (Gi N (Ap L b vt (.slice ad xc.length cp) w1 w)) w x.2.2 x.2.1) ?_ (fun k o hk=>by cases hk) ?_ (fun k o hk=>?_) ?_
   ·refine⟨rfl,_,(0,0),hrdrow,rfl,Nat.le_refl 3,?_,fun j _=>by simp,fun _=>rfl⟩;refine .cons (VR.tok (s:=⟨0,0,0,0,vt,noF⟩) (hat _ m65) hv1) (.cons (hax.vr (show Xh N 320=some (.int .i64 (E.len:Int)) by rw[←D.x0];rfl)) (.cons (hax.vr (show Xh N 321=some (.bool hd) by rw[←D.x1];rfl)) .nil))
   ·refine⟨rfl,_,(0,0),hrow,rfl,Nat.le_refl 5,?_,fun j _=>by simp,fun _=>rfl⟩;refine .cons (tval 0 _ (by unfold Y3;rw[hT];rfl) Dd) (.cons (tval 1 _ (by unfold Y3;rw[hT];rfl) Dd) (.cons (tval 2 _ (by unfold Y3;rw[hT];rfl) Dd) (.cons (tval 3 _ (by unfold Y3;rw[hT];rfl) Dd) (.cons (VR.tok (s:=⟨0,0,0,0,.slice ad xc.length cp,Bf L w1 w⟩) (hat _ m67) rfl) .nil))))
   ·have hk:Bf L w1 w k=some o:=hk;unfold Bf at hk;split at hk
    ·exact hk
    ·cases hk
   ·refine⟨rfl,_,(0,0),I.res,rfl,Nat.le_refl 5,?_,fun j _=>by simp,fun _=>rfl⟩;exact .cons (.int _ _) (.cons (.string _) (.cons (.int _ _) (.cons (.int _ _) (.cons .nilSlice .nil))))
  ·refine J3 (P:=fun x=>∀ m,x.2.1=.abs m→(V6 b E N cs T eqc).mean (Gi N (Ap L b vt (.slice ad xc.length cp) w1 w)) m x.2.2) (fun m e=>by cases e) (fun m e=>?_) (fun m e=>by cases e) (fun m e=>?_) (fun m e=>by cases e)
   ·cases e;refine⟨?_,rfl⟩;show Qfo b E.w0 vt (N.L 0)
    rw[hL];exact Qfo.frame (fun k hk=>(I.rd.1 k hk).symm) htok
   ·cases e;show Qml N.S ⟨0,0,0,0,.slice ad xc.length cp,Bf L w1 w⟩ (N.T 0).kids
    rw[hT,D.s];refine⟨ad,cp,rfl,fun k hk=>(H7 hk).1,?_⟩;rcases hl with hl|⟨g,o,h1,h2,h3⟩
    ·exact .inl hl
    ·by_cases hnil:xc=[]
     ·exact .inl hnil
     ·have hlt:g<w.heap.size:=by
       obtain⟨t,l,rfl⟩:=List.exists_cons_of_ne_nil hnil;unfold Xq at h3;obtain⟨⟨v0,v1,v2,v3,v4,k0,-⟩,-⟩:=h3;exact cell_lt' k0
      have key:∀ k,SX L w1 k→k<w.heap.size→Bf L w1 w k=w.heap[k]? := fun k h1 h2=>by unfold Bf;rw[if_pos h1]
      refine .inr ⟨g,o,h1,by show Bf L w1 w g≠none;rw[key g h2 hlt,Array.getElem?_eq_getElem hlt];simp,fun W hW=>?_⟩;refine Xq.frame (fun k hk1 hk2=>?_) (fun k hk1 hk2=>?_) h2 h3
      ·show Bf L w1 w k≠none
       rw[key k hk1 hk2,Array.getElem?_eq_getElem hk2];simp
      ·have hk3:w.heap[k]? = some (w.heap[k]'hk2):=Array.getElem?_eq_getElem hk2;rw[hk3];exact hW k _ (by show Bf L w1 w k=_;rw[key k hk1 hk2,hk3])
 refine⟨vt,_,hrel,Qoz I.n I.ds fun x hx=>?_,hC,hap,h128⟩;unfold Ai at hx;rcases List.mem_cons.1 hx with rfl|hx
 ·rw[I.rowS];exact VR.ptr (s:=⟨L.q,0,5,5,undef,noF⟩) (hat _ m66)
 ·rcases List.mem_cons.1 hx with rfl|hx
  ·rw[I.resS];exact VR.ptr (s:=⟨L.r,0,5,5,undef,noF⟩) (hat _ m68)
  ·obtain⟨y,h1,rfl⟩:=List.mem_map.1 hx;rw[I.dirS y h1];exact X.dir y h1 _ hax
end
end Prs
end
end Go.Proofs.YtcbkeecabcbogaaGreatDoor
