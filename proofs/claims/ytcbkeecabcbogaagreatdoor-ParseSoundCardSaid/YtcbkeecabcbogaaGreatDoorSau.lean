/- Scripts: simple statements. (Printed by gen_sim.py.) Scripts -/
import Derived.Test.YtcbkeecabcbogaaGreatDoorSat
set_option maxRecDepth 20000
set_option linter.unusedSimpArgs false
set_option linter.unusedVariables false
namespace Go.Proofs.YtcbkeecabcbogaaGreatDoor
open Go.RowKit
namespace Prs
open Ev
theorem simple_c {b f:Nat}{E:Env}{hd:Bool}(he:Reads b E hd 37 #[rp b,.int .i64 1] (Xj E.len f 1 hd)):Reads b E hd 52 #[rp b] (J7 E.len (f+1) hd):=by
 intro l w r h hr;rw[J7] at hr;cases k1:Xn l==1 with
 |true=>
  rw[k1,Bool.true_and] at hr;cases k2:Je Gy l with
  |true=>
   rw[k2,if_pos rfl] at hr;unfold U8 at hr;cases k3:Xn l==1 with
   |true=>
    rw[k3,if_pos rfl] at hr;(try dsimp only [andThen,ok,bad] at hr)
    simp only[Q5,Xc] at hr;unfold Ub at hr;cases k4:isP Gy l.tail with
    |true=>
     rw[k4,if_pos rfl] at hr;(try dsimp only [andThen,ok,bad] at hr)
     cases k5:Xj E.len f 1 hd l.tail.tail with
     |none=>rw[k5] at hr;cases hr
     |some y6=>
      rw[k5] at hr;cases y6 with
      |error pl7=>
       (try dsimp only [andThen,ok,bad] at hr)
       cases hr;have D:Told b E (mkN E.len hd w.heap.size [l,l.tail,l.tail.tail] [] [] [(pl7:Int)]) hd w [Zb 0 (tk 321),Qp 0 (tk 129) (tk 321),Xz Gy 0 true (tk 321),Zz 0 1 (tk 321),Xo Gy 1 2 (tk 321),Xq 37 [.int .i64 1] 2 2 (tk 321)] ⟨[],[],[],[322]⟩ [(129,.int .i64 1,true)]:=
        ⟨h,rfl,rfl,rfl,rfl,Qa (Zc rfl Dd _) (Qa (Qq Dd (.inl rfl) _) (Qa (X6 k2 _) (Qa (Z7 Dd k3 rfl _) (Qa (Xr rfl Dd k4 rfl _) (Qa (Zf he (.inr rfl) rfl Qw k5 Dd rfl) Q7))))),fun _ hx=>(by cases hx),Ql,Qk,(eqC (Qg (i:=0) Dd k1) eqN),(V6 ⟨pl7,rfl⟩ Qj)⟩
       exact D.path (.inr rfl) (args:=[]) (args':=[]) (fun _ _ => .nil) (fin:=.pan (tk 322)) Dk
      |ok y6=>
       obtain⟨⟨t8k,t8x,t8n,t8p,t8c⟩,m7⟩:=y6;(try dsimp only [andThen,ok,bad] at hr)
       cases hr;have D:Told b E (mkN E.len hd w.heap.size [l,l.tail,l.tail.tail,m7] [.mk t8k t8x t8n t8p t8c] [] []) hd w [Zb 0 (tk 321),Qp 0 (tk 129) (tk 321),Xz Gy 0 true (tk 321),Zz 0 1 (tk 321),Xo Gy 1 2 (tk 321),Qm 37 [.int .i64 1] 2 3 (tk 256) 0 (tk 321)] ⟨[],[],[],[]⟩ [(129,.int .i64 1,true)]:=
        ⟨h,rfl,rfl,rfl,rfl,Qa (Zc rfl Dd _) (Qa (Qq Dd (.inl rfl) _) (Qa (X6 k2 _) (Qa (Z7 Dd k3 rfl _) (Qa (Xr rfl Dd k4 rfl _) (Qa (Qs he (.inr rfl) rfl Qw k5 (.inl rfl) Dd) Q7))))),fun _ hx=>(by cases hx),Ql,Qk,(eqC (Qg (i:=0) Dd k1) eqN),Qj⟩
       exact D.path (.inr rfl) (args:=[]) (args':=[]) (fun _ _ => .nil) (fin:=.tree (.nd (.int .i64 21) (tk 130) (.int .u64 0) (tk 128) [.ab (tk 256) (tk 257) (tk 258) (tk 259) 1]) 3) Dk
    |false=>
     rw[k4,if_neg Dd] at hr;(try dsimp only [andThen,ok,bad] at hr)
     cases hr;have D:Told b E (mkN E.len hd w.heap.size [l,l.tail] [] [] []) hd w [Zb 0 (tk 321),Qp 0 (tk 129) (tk 321),Xz Gy 0 true (tk 321),Zz 0 1 (tk 321),Lj Gy 1 (tk 321)] ⟨[],[],[],[]⟩ [(129,.int .i64 1,true)]:=
      ⟨h,rfl,rfl,rfl,rfl,Qa (Zc rfl Dd _) (Qa (Qq Dd (.inl rfl) _) (Qa (X6 k2 _) (Qa (Z7 Dd k3 rfl _) (Qa (Eg rfl Dd k4 _) Q7)))),fun _ hx=>(by cases hx),Ql,Qk,(eqC (Qg (i:=0) Dd k1) eqN),Qj⟩
     exact D.path (.inr rfl) (args:=[]) (args':=[]) (fun _ _ => .nil) (fin:=.pan (tk 136)) Dk
   |false=>
    rw[k3,if_neg Dd] at hr;(try dsimp only [andThen,ok,bad] at hr)
    cases hr;have D:Told b E (mkN E.len hd w.heap.size [l] [] [] []) hd w [Zb 0 (tk 321),Qp 0 (tk 129) (tk 321),Xz Gy 0 true (tk 321),Qal 0 (tk 321)] ⟨[],[],[],[]⟩ [(129,.int .i64 1,true)]:=
     ⟨h,rfl,rfl,rfl,rfl,Qa (Zc rfl Dd _) (Qa (Qq Dd (.inl rfl) _) (Qa (X6 k2 _) (Qa (Qbx rfl Dd k3 _) Q7))),fun _ hx=>(by cases hx),Ql,Qk,(eqC (Qg (i:=0) Dd k1) eqN),Qj⟩
    exact D.path (.inr rfl) (args:=[]) (args':=[]) (fun _ _ => .nil) (fin:=.pan (tk 128)) Dk
  |false=>
   rw[k2,if_neg Dd] at hr;cases k3:Xj E.len f 1 hd l with
   |none=>rw[k3] at hr;cases hr
   |some y4=>
    rw[k3] at hr;cases y4 with
    |error pl5=>
     (try dsimp only [andThen,ok,bad] at hr)
     cases hr;have D:Told b E (mkN E.len hd w.heap.size [l] [] [] [(pl5:Int)]) hd w [Zb 0 (tk 321),Qp 0 (tk 129) (tk 321),Xz Gy 0 false (tk 321),Xq 37 [.int .i64 1] 0 2 (tk 321)] ⟨[],[],[],[322]⟩ [(129,.int .i64 1,true)]:=
      ⟨h,rfl,rfl,rfl,rfl,Qa (Zc rfl Dd _) (Qa (Qq Dd (.inl rfl) _) (Qa (X6 k2 _) (Qa (Zf he (.inr rfl) rfl Qw k3 Dd rfl) Q7))),fun _ hx=>(by cases hx),Ql,Qk,(eqC (Qg (i:=0) Dd k1) eqN),(V6 ⟨pl5,rfl⟩ Qj)⟩
     exact D.path (.inr rfl) (args:=[]) (args':=[]) (fun _ _ => .nil) (fin:=.pan (tk 322)) Dk
    |ok y4=>
     obtain⟨⟨t6k,t6x,t6n,t6p,t6c⟩,m5⟩:=y4;(try dsimp only [andThen,ok,bad] at hr)
     cases k7:isP wEq m5 with
     |true=>
      rw[k7,if_pos rfl] at hr;cases k8:Xj E.len f 1 hd m5.tail with
      |none=>rw[k8] at hr;cases hr
      |some y9=>
       rw[k8] at hr;cases y9 with
       |error pl10=>
        (try dsimp only [andThen,ok,bad] at hr)
        cases hr;have D:Told b E (mkN E.len hd w.heap.size [l,m5,m5.tail] [.mk t6k t6x t6n t6p t6c] [] [(pl10:Int)]) hd w [Zb 0 (tk 321),Qp 0 (tk 129) (tk 321),Xz Gy 0 false (tk 321),Qm 37 [.int .i64 1] 0 1 (tk 256) 0 (tk 321),Zb 1 (tk 321),Qx wEq 1 2 (tk 321),Xq 37 [.int .i64 1] 2 2 (tk 321)] ⟨[],[],[],[322]⟩ [(129,.int .i64 1,true)]:=
         ⟨h,rfl,rfl,rfl,rfl,Qa (Zc rfl Dd _) (Qa (Qq Dd (.inl rfl) _) (Qa (X6 k2 _) (Qa (Qs he (.inr rfl) rfl Qw k3 (.inl rfl) Dd) (Qa (Zc rfl Dd _) (Qa (Qy k7 rfl _) (Qa (Zf he (.inr rfl) rfl Qw k8 Dd rfl) Q7)))))),fun _ hx=>(by cases hx),Ql,Qk,(eqC (Qg (i:=0) Dd k1) eqN),(V6 ⟨pl10,rfl⟩ Qj)⟩
        exact D.path (.inr rfl) (args:=[]) (args':=[]) (fun _ _ => .nil) (fin:=.pan (tk 322)) Dk
       |ok y9=>
        obtain⟨⟨t11k,t11x,t11n,t11p,t11c⟩,m10⟩:=y9;(try dsimp only [andThen,ok,bad] at hr)
        cases k12:(Tr.mk t6k t6x t6n t6p t6c).kind==30 with
        |true=>
         rw[k12,Bool.true_or,if_pos rfl] at hr;cases hr;have D:Told b E (mkN E.len hd w.heap.size [l,m5,m5.tail,m10] [.mk t6k t6x t6n t6p t6c,.mk t11k t11x t11n t11p t11c] [] []) hd w [Zb 0 (tk 321),Qp 0 (tk 129) (tk 321),Xz Gy 0 false (tk 321),Qm 37 [.int .i64 1] 0 1 (tk 256) 0 (tk 321),Zb 1 (tk 321),Qx wEq 1 2 (tk 321),Qm 37 [.int .i64 1] 2 3 (tk 260) 1 (tk 321)] ⟨[],[],[],[]⟩ [(129,.int .i64 1,true),(256,.int .i64 30,true)]:=
          ⟨h,rfl,rfl,rfl,rfl,Qa (Zc rfl Dd _) (Qa (Qq Dd (.inl rfl) _) (Qa (X6 k2 _) (Qa (Qs he (.inr rfl) rfl Qw k3 (.inl rfl) Dd) (Qa (Zc rfl Dd _) (Qa (Qy k7 rfl _) (Qa (Qs he (.inr rfl) rfl Qw k8 (.inl rfl) Dd) Q7)))))),fun _ hx=>(by cases hx),Ql,Qk,(eqC (Qg (i:=0) Dd k1) (eqC (Xa (c:=0) Dd k12) eqN)),Qj⟩
         exact D.path (.inr rfl) (args:=[]) (args':=[]) (fun _ _ => .nil) (fin:=.tree (.nd (.int .i64 23) (.string ⟨#[]⟩) (.int .u64 0) (tk 128) [.ab (tk 256) (tk 257) (tk 258) (tk 259) 1,.ab (tk 260) (tk 261) (tk 262) (tk 263) 9]) 3) Dk
        |false=>
         rw[k12,Bool.false_or] at hr;cases k13:(Tr.mk t6k t6x t6n t6p t6c).kind==35 with
         |true=>
          rw[k13,Bool.true_or,if_pos rfl] at hr;cases hr;have D:Told b E (mkN E.len hd w.heap.size [l,m5,m5.tail,m10] [.mk t6k t6x t6n t6p t6c,.mk t11k t11x t11n t11p t11c] [] []) hd w [Zb 0 (tk 321),Qp 0 (tk 129) (tk 321),Xz Gy 0 false (tk 321),Qm 37 [.int .i64 1] 0 1 (tk 256) 0 (tk 321),Zb 1 (tk 321),Qx wEq 1 2 (tk 321),Qm 37 [.int .i64 1] 2 3 (tk 260) 1 (tk 321)] ⟨[],[],[],[]⟩ [(129,.int .i64 1,true),(256,.int .i64 30,false),(256,.int .i64 35,true)]:=
           ⟨h,rfl,rfl,rfl,rfl,Qa (Zc rfl Dd _) (Qa (Qq Dd (.inl rfl) _) (Qa (X6 k2 _) (Qa (Qs he (.inr rfl) rfl Qw k3 (.inl rfl) Dd) (Qa (Zc rfl Dd _) (Qa (Qy k7 rfl _) (Qa (Qs he (.inr rfl) rfl Qw k8 (.inl rfl) Dd) Q7)))))),fun _ hx=>(by cases hx),Ql,Qk,(eqC (Qg (i:=0) Dd k1) (eqC (Xa (c:=0) Dd k12) (eqC (Xa (c:=0) Dd k13) eqN))),Qj⟩
          exact D.path (.inr rfl) (args:=[]) (args':=[]) (fun _ _ => .nil) (fin:=.tree (.nd (.int .i64 23) (.string ⟨#[]⟩) (.int .u64 0) (tk 128) [.ab (tk 256) (tk 257) (tk 258) (tk 259) 1,.ab (tk 260) (tk 261) (tk 262) (tk 263) 9]) 3) Dk
         |false=>
          rw[k13,Bool.false_or] at hr;cases k14:(Tr.mk t6k t6x t6n t6p t6c).kind==36 with
          |true=>
           rw[k14,if_pos rfl] at hr;cases hr;have D:Told b E (mkN E.len hd w.heap.size [l,m5,m5.tail,m10] [.mk t6k t6x t6n t6p t6c,.mk t11k t11x t11n t11p t11c] [] []) hd w [Zb 0 (tk 321),Qp 0 (tk 129) (tk 321),Xz Gy 0 false (tk 321),Qm 37 [.int .i64 1] 0 1 (tk 256) 0 (tk 321),Zb 1 (tk 321),Qx wEq 1 2 (tk 321),Qm 37 [.int .i64 1] 2 3 (tk 260) 1 (tk 321)] ⟨[],[],[],[]⟩ [(129,.int .i64 1,true),(256,.int .i64 30,false),(256,.int .i64 35,false),(256,.int .i64 36,true)]:=
            ⟨h,rfl,rfl,rfl,rfl,Qa (Zc rfl Dd _) (Qa (Qq Dd (.inl rfl) _) (Qa (X6 k2 _) (Qa (Qs he (.inr rfl) rfl Qw k3 (.inl rfl) Dd) (Qa (Zc rfl Dd _) (Qa (Qy k7 rfl _) (Qa (Qs he (.inr rfl) rfl Qw k8 (.inl rfl) Dd) Q7)))))),fun _ hx=>(by cases hx),Ql,Qk,(eqC (Qg (i:=0) Dd k1) (eqC (Xa (c:=0) Dd k12) (eqC (Xa (c:=0) Dd k13) (eqC (Xa (c:=0) Dd k14) eqN)))),Qj⟩
           exact D.path (.inr rfl) (args:=[]) (args':=[]) (fun _ _ => .nil) (fin:=.tree (.nd (.int .i64 23) (.string ⟨#[]⟩) (.int .u64 0) (tk 128) [.ab (tk 256) (tk 257) (tk 258) (tk 259) 1,.ab (tk 260) (tk 261) (tk 262) (tk 263) 9]) 3) Dk
          |false=>
           rw[k14,if_neg Dd] at hr;cases hr;have D:Told b E (mkN E.len hd w.heap.size [l,m5,m5.tail,m10] [.mk t6k t6x t6n t6p t6c,.mk t11k t11x t11n t11p t11c] [] []) hd w [Zb 0 (tk 321),Qp 0 (tk 129) (tk 321),Xz Gy 0 false (tk 321),Qm 37 [.int .i64 1] 0 1 (tk 256) 0 (tk 321),Zb 1 (tk 321),Qx wEq 1 2 (tk 321),Qm 37 [.int .i64 1] 2 3 (tk 260) 1 (tk 321)] ⟨[],[],[],[]⟩ [(129,.int .i64 1,true),(256,.int .i64 30,false),(256,.int .i64 35,false),(256,.int .i64 36,false)]:=
            ⟨h,rfl,rfl,rfl,rfl,Qa (Zc rfl Dd _) (Qa (Qq Dd (.inl rfl) _) (Qa (X6 k2 _) (Qa (Qs he (.inr rfl) rfl Qw k3 (.inl rfl) Dd) (Qa (Zc rfl Dd _) (Qa (Qy k7 rfl _) (Qa (Qs he (.inr rfl) rfl Qw k8 (.inl rfl) Dd) Q7)))))),fun _ hx=>(by cases hx),Ql,Qk,(eqC (Qg (i:=0) Dd k1) (eqC (Xa (c:=0) Dd k12) (eqC (Xa (c:=0) Dd k13) (eqC (Xa (c:=0) Dd k14) eqN)))),Qj⟩
           exact D.path (.inr rfl) (args:=[]) (args':=[]) (fun _ _ => .nil) (fin:=.pan (tk 128)) Dk
     |false=>
      rw[k7,if_neg Dd] at hr;cases k8:isP Xu m5 with
      |true=>
       rw[k8,if_pos rfl] at hr;cases k9:Xj E.len f 1 hd m5.tail with
       |none=>rw[k9] at hr;cases hr
       |some y10=>
        rw[k9] at hr;cases y10 with
        |error pl11=>
         (try dsimp only [andThen,ok,bad] at hr)
         cases hr;have D:Told b E (mkN E.len hd w.heap.size [l,m5,m5.tail] [.mk t6k t6x t6n t6p t6c] [] [(pl11:Int)]) hd w [Zb 0 (tk 321),Qp 0 (tk 129) (tk 321),Xz Gy 0 false (tk 321),Qm 37 [.int .i64 1] 0 1 (tk 256) 0 (tk 321),Zb 1 (tk 321),Qc wEq 1 (tk 321),Qx Xu 1 2 (tk 321),Xq 37 [.int .i64 1] 2 2 (tk 321)] ⟨[],[],[],[322]⟩ [(129,.int .i64 1,true)]:=
          ⟨h,rfl,rfl,rfl,rfl,Qa (Zc rfl Dd _) (Qa (Qq Dd (.inl rfl) _) (Qa (X6 k2 _) (Qa (Qs he (.inr rfl) rfl Qw k3 (.inl rfl) Dd) (Qa (Zc rfl Dd _) (Qa (Qd k7 _) (Qa (Qy k8 rfl _) (Qa (Zf he (.inr rfl) rfl Qw k9 Dd rfl) Q7))))))),fun _ hx=>(by cases hx),Ql,Qk,(eqC (Qg (i:=0) Dd k1) eqN),(V6 ⟨pl11,rfl⟩ Qj)⟩
         exact D.path (.inr rfl) (args:=[]) (args':=[]) (fun _ _ => .nil) (fin:=.pan (tk 322)) Dk
        |ok y10=>
         obtain⟨⟨t12k,t12x,t12n,t12p,t12c⟩,m11⟩:=y10;(try dsimp only [andThen,ok,bad] at hr)
         cases hr;have D:Told b E (mkN E.len hd w.heap.size [l,m5,m5.tail,m11] [.mk t6k t6x t6n t6p t6c,.mk t12k t12x t12n t12p t12c] [] []) hd w [Zb 0 (tk 321),Qp 0 (tk 129) (tk 321),Xz Gy 0 false (tk 321),Qm 37 [.int .i64 1] 0 1 (tk 256) 0 (tk 321),Zb 1 (tk 321),Qc wEq 1 (tk 321),Qx Xu 1 2 (tk 321),Qm 37 [.int .i64 1] 2 3 (tk 260) 1 (tk 321)] ⟨[],[],[],[]⟩ [(129,.int .i64 1,true)]:=
          ⟨h,rfl,rfl,rfl,rfl,Qa (Zc rfl Dd _) (Qa (Qq Dd (.inl rfl) _) (Qa (X6 k2 _) (Qa (Qs he (.inr rfl) rfl Qw k3 (.inl rfl) Dd) (Qa (Zc rfl Dd _) (Qa (Qd k7 _) (Qa (Qy k8 rfl _) (Qa (Qs he (.inr rfl) rfl Qw k9 (.inl rfl) Dd) Q7))))))),fun _ hx=>(by cases hx),Ql,Qk,(eqC (Qg (i:=0) Dd k1) eqN),Qj⟩
         exact D.path (.inr rfl) (args:=[]) (args':=[]) (fun _ _ => .nil) (fin:=.tree (.nd (.int .i64 41) (.string ⟨#[]⟩) (.int .u64 0) (tk 136) [.ab (tk 256) (tk 257) (tk 258) (tk 259) 1,.ab (tk 260) (tk 261) (tk 262) (tk 263) 9]) 3) Dk
      |false=>
       rw[k8,if_neg Dd] at hr;cases k9:(Tr.mk t6k t6x t6n t6p t6c).kind==34 with
       |true=>
        rw[k9,Bool.true_or,if_pos rfl] at hr;cases hr;have D:Told b E (mkN E.len hd w.heap.size [l,m5] [.mk t6k t6x t6n t6p t6c] [] []) hd w [Zb 0 (tk 321),Qp 0 (tk 129) (tk 321),Xz Gy 0 false (tk 321),Qm 37 [.int .i64 1] 0 1 (tk 256) 0 (tk 321),Zb 1 (tk 321),Qc wEq 1 (tk 321),Qc Xu 1 (tk 321)] ⟨[],[],[],[]⟩ [(129,.int .i64 1,true),(256,.int .i64 34,true)]:=
         ⟨h,rfl,rfl,rfl,rfl,Qa (Zc rfl Dd _) (Qa (Qq Dd (.inl rfl) _) (Qa (X6 k2 _) (Qa (Qs he (.inr rfl) rfl Qw k3 (.inl rfl) Dd) (Qa (Zc rfl Dd _) (Qa (Qd k7 _) (Qa (Qd k8 _) Q7)))))),fun _ hx=>(by cases hx),Ql,Qk,(eqC (Qg (i:=0) Dd k1) (eqC (Xa (c:=0) Dd k9) eqN)),Qj⟩
        exact D.path (.inr rfl) (args:=[]) (args':=[]) (fun _ _ => .nil) (fin:=.tree (.nd (.int .i64 24) (.string ⟨#[]⟩) (.int .u64 0) (tk 128) [.ab (tk 256) (tk 257) (tk 258) (tk 259) 1]) 1) Dk
       |false=>
        rw[k9,Bool.false_or] at hr;cases k10:(Tr.mk t6k t6x t6n t6p t6c).kind==39 with
        |true=>
         rw[k10,if_pos rfl] at hr;cases hr;have D:Told b E (mkN E.len hd w.heap.size [l,m5] [.mk t6k t6x t6n t6p t6c] [] []) hd w [Zb 0 (tk 321),Qp 0 (tk 129) (tk 321),Xz Gy 0 false (tk 321),Qm 37 [.int .i64 1] 0 1 (tk 256) 0 (tk 321),Zb 1 (tk 321),Qc wEq 1 (tk 321),Qc Xu 1 (tk 321)] ⟨[],[],[],[]⟩ [(129,.int .i64 1,true),(256,.int .i64 34,false),(256,.int .i64 39,true)]:=
          ⟨h,rfl,rfl,rfl,rfl,Qa (Zc rfl Dd _) (Qa (Qq Dd (.inl rfl) _) (Qa (X6 k2 _) (Qa (Qs he (.inr rfl) rfl Qw k3 (.inl rfl) Dd) (Qa (Zc rfl Dd _) (Qa (Qd k7 _) (Qa (Qd k8 _) Q7)))))),fun _ hx=>(by cases hx),Ql,Qk,(eqC (Qg (i:=0) Dd k1) (eqC (Xa (c:=0) Dd k9) (eqC (Xa (c:=0) Dd k10) eqN))),Qj⟩
         exact D.path (.inr rfl) (args:=[]) (args':=[]) (fun _ _ => .nil) (fin:=.tree (.nd (.int .i64 24) (.string ⟨#[]⟩) (.int .u64 0) (tk 128) [.ab (tk 256) (tk 257) (tk 258) (tk 259) 1]) 1) Dk
        |false=>
         rw[k10,if_neg Dd] at hr;cases hr;have D:Told b E (mkN E.len hd w.heap.size [l,m5] [.mk t6k t6x t6n t6p t6c] [] []) hd w [Zb 0 (tk 321),Qp 0 (tk 129) (tk 321),Xz Gy 0 false (tk 321),Qm 37 [.int .i64 1] 0 1 (tk 256) 0 (tk 321),Zb 1 (tk 321),Qc wEq 1 (tk 321),Qc Xu 1 (tk 321)] ⟨[],[],[],[]⟩ [(129,.int .i64 1,true),(256,.int .i64 34,false),(256,.int .i64 39,false)]:=
          ⟨h,rfl,rfl,rfl,rfl,Qa (Zc rfl Dd _) (Qa (Qq Dd (.inl rfl) _) (Qa (X6 k2 _) (Qa (Qs he (.inr rfl) rfl Qw k3 (.inl rfl) Dd) (Qa (Zc rfl Dd _) (Qa (Qd k7 _) (Qa (Qd k8 _) Q7)))))),fun _ hx=>(by cases hx),Ql,Qk,(eqC (Qg (i:=0) Dd k1) (eqC (Xa (c:=0) Dd k9) (eqC (Xa (c:=0) Dd k10) eqN))),Qj⟩
         exact D.path (.inr rfl) (args:=[]) (args':=[]) (fun _ _ => .nil) (fin:=.pan (tk 128)) Dk
 |false=>
  rw[k1,Bool.false_and,if_neg Dd] at hr;cases k2:Xj E.len f 1 hd l with
  |none=>rw[k2] at hr;cases hr
  |some y3=>
   rw[k2] at hr;cases y3 with
   |error pl4=>
    (try dsimp only [andThen,ok,bad] at hr)
    cases hr;have D:Told b E (mkN E.len hd w.heap.size [l] [] [] [(pl4:Int)]) hd w [Zb 0 (tk 321),Qp 0 (tk 129) (tk 321),Xq 37 [.int .i64 1] 0 2 (tk 321)] ⟨[],[],[],[322]⟩ [(129,.int .i64 1,false)]:=
     ⟨h,rfl,rfl,rfl,rfl,Qa (Zc rfl Dd _) (Qa (Qq Dd (.inl rfl) _) (Qa (Zf he (.inr rfl) rfl Qw k2 Dd rfl) Q7)),fun _ hx=>(by cases hx),Ql,Qk,(eqC (Qg (i:=0) Dd k1) eqN),(V6 ⟨pl4,rfl⟩ Qj)⟩
    exact D.path (.inr rfl) (args:=[]) (args':=[]) (fun _ _ => .nil) (fin:=.pan (tk 322)) Dk
   |ok y3=>
    obtain⟨⟨t5k,t5x,t5n,t5p,t5c⟩,m4⟩:=y3;(try dsimp only [andThen,ok,bad] at hr)
    cases k6:isP wEq m4 with
    |true=>
     rw[k6,if_pos rfl] at hr;cases k7:Xj E.len f 1 hd m4.tail with
     |none=>rw[k7] at hr;cases hr
     |some y8=>
      rw[k7] at hr;cases y8 with
      |error pl9=>
       (try dsimp only [andThen,ok,bad] at hr)
       cases hr;have D:Told b E (mkN E.len hd w.heap.size [l,m4,m4.tail] [.mk t5k t5x t5n t5p t5c] [] [(pl9:Int)]) hd w [Zb 0 (tk 321),Qp 0 (tk 129) (tk 321),Qm 37 [.int .i64 1] 0 1 (tk 256) 0 (tk 321),Zb 1 (tk 321),Qx wEq 1 2 (tk 321),Xq 37 [.int .i64 1] 2 2 (tk 321)] ⟨[],[],[],[322]⟩ [(129,.int .i64 1,false)]:=
        ⟨h,rfl,rfl,rfl,rfl,Qa (Zc rfl Dd _) (Qa (Qq Dd (.inl rfl) _) (Qa (Qs he (.inr rfl) rfl Qw k2 (.inl rfl) Dd) (Qa (Zc rfl Dd _) (Qa (Qy k6 rfl _) (Qa (Zf he (.inr rfl) rfl Qw k7 Dd rfl) Q7))))),fun _ hx=>(by cases hx),Ql,Qk,(eqC (Qg (i:=0) Dd k1) eqN),(V6 ⟨pl9,rfl⟩ Qj)⟩
       exact D.path (.inr rfl) (args:=[]) (args':=[]) (fun _ _ => .nil) (fin:=.pan (tk 322)) Dk
      |ok y8=>
       obtain⟨⟨t10k,t10x,t10n,t10p,t10c⟩,m9⟩:=y8;(try dsimp only [andThen,ok,bad] at hr)
       cases k11:(Tr.mk t5k t5x t5n t5p t5c).kind==30 with
       |true=>
        rw[k11,Bool.true_or,if_pos rfl] at hr;cases hr;have D:Told b E (mkN E.len hd w.heap.size [l,m4,m4.tail,m9] [.mk t5k t5x t5n t5p t5c,.mk t10k t10x t10n t10p t10c] [] []) hd w [Zb 0 (tk 321),Qp 0 (tk 129) (tk 321),Qm 37 [.int .i64 1] 0 1 (tk 256) 0 (tk 321),Zb 1 (tk 321),Qx wEq 1 2 (tk 321),Qm 37 [.int .i64 1] 2 3 (tk 260) 1 (tk 321)] ⟨[],[],[],[]⟩ [(129,.int .i64 1,false),(256,.int .i64 30,true)]:=
         ⟨h,rfl,rfl,rfl,rfl,Qa (Zc rfl Dd _) (Qa (Qq Dd (.inl rfl) _) (Qa (Qs he (.inr rfl) rfl Qw k2 (.inl rfl) Dd) (Qa (Zc rfl Dd _) (Qa (Qy k6 rfl _) (Qa (Qs he (.inr rfl) rfl Qw k7 (.inl rfl) Dd) Q7))))),fun _ hx=>(by cases hx),Ql,Qk,(eqC (Qg (i:=0) Dd k1) (eqC (Xa (c:=0) Dd k11) eqN)),Qj⟩
        exact D.path (.inr rfl) (args:=[]) (args':=[]) (fun _ _ => .nil) (fin:=.tree (.nd (.int .i64 23) (.string ⟨#[]⟩) (.int .u64 0) (tk 128) [.ab (tk 256) (tk 257) (tk 258) (tk 259) 1,.ab (tk 260) (tk 261) (tk 262) (tk 263) 9]) 3) Dk
       |false=>
        rw[k11,Bool.false_or] at hr;cases k12:(Tr.mk t5k t5x t5n t5p t5c).kind==35 with
        |true=>
         rw[k12,Bool.true_or,if_pos rfl] at hr;cases hr;have D:Told b E (mkN E.len hd w.heap.size [l,m4,m4.tail,m9] [.mk t5k t5x t5n t5p t5c,.mk t10k t10x t10n t10p t10c] [] []) hd w [Zb 0 (tk 321),Qp 0 (tk 129) (tk 321),Qm 37 [.int .i64 1] 0 1 (tk 256) 0 (tk 321),Zb 1 (tk 321),Qx wEq 1 2 (tk 321),Qm 37 [.int .i64 1] 2 3 (tk 260) 1 (tk 321)] ⟨[],[],[],[]⟩ [(129,.int .i64 1,false),(256,.int .i64 30,false),(256,.int .i64 35,true)]:=
          ⟨h,rfl,rfl,rfl,rfl,Qa (Zc rfl Dd _) (Qa (Qq Dd (.inl rfl) _) (Qa (Qs he (.inr rfl) rfl Qw k2 (.inl rfl) Dd) (Qa (Zc rfl Dd _) (Qa (Qy k6 rfl _) (Qa (Qs he (.inr rfl) rfl Qw k7 (.inl rfl) Dd) Q7))))),fun _ hx=>(by cases hx),Ql,Qk,(eqC (Qg (i:=0) Dd k1) (eqC (Xa (c:=0) Dd k11) (eqC (Xa (c:=0) Dd k12) eqN))),Qj⟩
         exact D.path (.inr rfl) (args:=[]) (args':=[]) (fun _ _ => .nil) (fin:=.tree (.nd (.int .i64 23) (.string ⟨#[]⟩) (.int .u64 0) (tk 128) [.ab (tk 256) (tk 257) (tk 258) (tk 259) 1,.ab (tk 260) (tk 261) (tk 262) (tk 263) 9]) 3) Dk
        |false=>
         rw[k12,Bool.false_or] at hr;cases k13:(Tr.mk t5k t5x t5n t5p t5c).kind==36 with
         |true=>
          rw[k13,if_pos rfl] at hr;cases hr;have D:Told b E (mkN E.len hd w.heap.size [l,m4,m4.tail,m9] [.mk t5k t5x t5n t5p t5c,.mk t10k t10x t10n t10p t10c] [] []) hd w [Zb 0 (tk 321),Qp 0 (tk 129) (tk 321),Qm 37 [.int .i64 1] 0 1 (tk 256) 0 (tk 321),Zb 1 (tk 321),Qx wEq 1 2 (tk 321),Qm 37 [.int .i64 1] 2 3 (tk 260) 1 (tk 321)] ⟨[],[],[],[]⟩ [(129,.int .i64 1,false),(256,.int .i64 30,false),(256,.int .i64 35,false),(256,.int .i64 36,true)]:=
           ⟨h,rfl,rfl,rfl,rfl,Qa (Zc rfl Dd _) (Qa (Qq Dd (.inl rfl) _) (Qa (Qs he (.inr rfl) rfl Qw k2 (.inl rfl) Dd) (Qa (Zc rfl Dd _) (Qa (Qy k6 rfl _) (Qa (Qs he (.inr rfl) rfl Qw k7 (.inl rfl) Dd) Q7))))),fun _ hx=>(by cases hx),Ql,Qk,(eqC (Qg (i:=0) Dd k1) (eqC (Xa (c:=0) Dd k11) (eqC (Xa (c:=0) Dd k12) (eqC (Xa (c:=0) Dd k13) eqN)))),Qj⟩
          exact D.path (.inr rfl) (args:=[]) (args':=[]) (fun _ _ => .nil) (fin:=.tree (.nd (.int .i64 23) (.string ⟨#[]⟩) (.int .u64 0) (tk 128) [.ab (tk 256) (tk 257) (tk 258) (tk 259) 1,.ab (tk 260) (tk 261) (tk 262) (tk 263) 9]) 3) Dk
         |false=>
          rw[k13,if_neg Dd] at hr;cases hr;have D:Told b E (mkN E.len hd w.heap.size [l,m4,m4.tail,m9] [.mk t5k t5x t5n t5p t5c,.mk t10k t10x t10n t10p t10c] [] []) hd w [Zb 0 (tk 321),Qp 0 (tk 129) (tk 321),Qm 37 [.int .i64 1] 0 1 (tk 256) 0 (tk 321),Zb 1 (tk 321),Qx wEq 1 2 (tk 321),Qm 37 [.int .i64 1] 2 3 (tk 260) 1 (tk 321)] ⟨[],[],[],[]⟩ [(129,.int .i64 1,false),(256,.int .i64 30,false),(256,.int .i64 35,false),(256,.int .i64 36,false)]:=
           ⟨h,rfl,rfl,rfl,rfl,Qa (Zc rfl Dd _) (Qa (Qq Dd (.inl rfl) _) (Qa (Qs he (.inr rfl) rfl Qw k2 (.inl rfl) Dd) (Qa (Zc rfl Dd _) (Qa (Qy k6 rfl _) (Qa (Qs he (.inr rfl) rfl Qw k7 (.inl rfl) Dd) Q7))))),fun _ hx=>(by cases hx),Ql,Qk,(eqC (Qg (i:=0) Dd k1) (eqC (Xa (c:=0) Dd k11) (eqC (Xa (c:=0) Dd k12) (eqC (Xa (c:=0) Dd k13) eqN)))),Qj⟩
          exact D.path (.inr rfl) (args:=[]) (args':=[]) (fun _ _ => .nil) (fin:=.pan (tk 128)) Dk
    |false=>
     rw[k6,if_neg Dd] at hr;cases k7:isP Xu m4 with
     |true=>
      rw[k7,if_pos rfl] at hr;cases k8:Xj E.len f 1 hd m4.tail with
      |none=>rw[k8] at hr;cases hr
      |some y9=>
       rw[k8] at hr;cases y9 with
       |error pl10=>
        (try dsimp only [andThen,ok,bad] at hr)
        cases hr;have D:Told b E (mkN E.len hd w.heap.size [l,m4,m4.tail] [.mk t5k t5x t5n t5p t5c] [] [(pl10:Int)]) hd w [Zb 0 (tk 321),Qp 0 (tk 129) (tk 321),Qm 37 [.int .i64 1] 0 1 (tk 256) 0 (tk 321),Zb 1 (tk 321),Qc wEq 1 (tk 321),Qx Xu 1 2 (tk 321),Xq 37 [.int .i64 1] 2 2 (tk 321)] ⟨[],[],[],[322]⟩ [(129,.int .i64 1,false)]:=
         ⟨h,rfl,rfl,rfl,rfl,Qa (Zc rfl Dd _) (Qa (Qq Dd (.inl rfl) _) (Qa (Qs he (.inr rfl) rfl Qw k2 (.inl rfl) Dd) (Qa (Zc rfl Dd _) (Qa (Qd k6 _) (Qa (Qy k7 rfl _) (Qa (Zf he (.inr rfl) rfl Qw k8 Dd rfl) Q7)))))),fun _ hx=>(by cases hx),Ql,Qk,(eqC (Qg (i:=0) Dd k1) eqN),(V6 ⟨pl10,rfl⟩ Qj)⟩
        exact D.path (.inr rfl) (args:=[]) (args':=[]) (fun _ _ => .nil) (fin:=.pan (tk 322)) Dk
       |ok y9=>
        obtain⟨⟨t11k,t11x,t11n,t11p,t11c⟩,m10⟩:=y9;(try dsimp only [andThen,ok,bad] at hr)
        cases hr;have D:Told b E (mkN E.len hd w.heap.size [l,m4,m4.tail,m10] [.mk t5k t5x t5n t5p t5c,.mk t11k t11x t11n t11p t11c] [] []) hd w [Zb 0 (tk 321),Qp 0 (tk 129) (tk 321),Qm 37 [.int .i64 1] 0 1 (tk 256) 0 (tk 321),Zb 1 (tk 321),Qc wEq 1 (tk 321),Qx Xu 1 2 (tk 321),Qm 37 [.int .i64 1] 2 3 (tk 260) 1 (tk 321)] ⟨[],[],[],[]⟩ [(129,.int .i64 1,false)]:=
         ⟨h,rfl,rfl,rfl,rfl,Qa (Zc rfl Dd _) (Qa (Qq Dd (.inl rfl) _) (Qa (Qs he (.inr rfl) rfl Qw k2 (.inl rfl) Dd) (Qa (Zc rfl Dd _) (Qa (Qd k6 _) (Qa (Qy k7 rfl _) (Qa (Qs he (.inr rfl) rfl Qw k8 (.inl rfl) Dd) Q7)))))),fun _ hx=>(by cases hx),Ql,Qk,(eqC (Qg (i:=0) Dd k1) eqN),Qj⟩
        exact D.path (.inr rfl) (args:=[]) (args':=[]) (fun _ _ => .nil) (fin:=.tree (.nd (.int .i64 41) (.string ⟨#[]⟩) (.int .u64 0) (tk 136) [.ab (tk 256) (tk 257) (tk 258) (tk 259) 1,.ab (tk 260) (tk 261) (tk 262) (tk 263) 9]) 3) Dk
     |false=>
      rw[k7,if_neg Dd] at hr;cases k8:(Tr.mk t5k t5x t5n t5p t5c).kind==34 with
      |true=>
       rw[k8,Bool.true_or,if_pos rfl] at hr;cases hr;have D:Told b E (mkN E.len hd w.heap.size [l,m4] [.mk t5k t5x t5n t5p t5c] [] []) hd w [Zb 0 (tk 321),Qp 0 (tk 129) (tk 321),Qm 37 [.int .i64 1] 0 1 (tk 256) 0 (tk 321),Zb 1 (tk 321),Qc wEq 1 (tk 321),Qc Xu 1 (tk 321)] ⟨[],[],[],[]⟩ [(129,.int .i64 1,false),(256,.int .i64 34,true)]:=
        ⟨h,rfl,rfl,rfl,rfl,Qa (Zc rfl Dd _) (Qa (Qq Dd (.inl rfl) _) (Qa (Qs he (.inr rfl) rfl Qw k2 (.inl rfl) Dd) (Qa (Zc rfl Dd _) (Qa (Qd k6 _) (Qa (Qd k7 _) Q7))))),fun _ hx=>(by cases hx),Ql,Qk,(eqC (Qg (i:=0) Dd k1) (eqC (Xa (c:=0) Dd k8) eqN)),Qj⟩
       exact D.path (.inr rfl) (args:=[]) (args':=[]) (fun _ _ => .nil) (fin:=.tree (.nd (.int .i64 24) (.string ⟨#[]⟩) (.int .u64 0) (tk 128) [.ab (tk 256) (tk 257) (tk 258) (tk 259) 1]) 1) Dk
      |false=>
       rw[k8,Bool.false_or] at hr;cases k9:(Tr.mk t5k t5x t5n t5p t5c).kind==39 with
       |true=>
        rw[k9,if_pos rfl] at hr;cases hr;have D:Told b E (mkN E.len hd w.heap.size [l,m4] [.mk t5k t5x t5n t5p t5c] [] []) hd w [Zb 0 (tk 321),Qp 0 (tk 129) (tk 321),Qm 37 [.int .i64 1] 0 1 (tk 256) 0 (tk 321),Zb 1 (tk 321),Qc wEq 1 (tk 321),Qc Xu 1 (tk 321)] ⟨[],[],[],[]⟩ [(129,.int .i64 1,false),(256,.int .i64 34,false),(256,.int .i64 39,true)]:=
         ⟨h,rfl,rfl,rfl,rfl,Qa (Zc rfl Dd _) (Qa (Qq Dd (.inl rfl) _) (Qa (Qs he (.inr rfl) rfl Qw k2 (.inl rfl) Dd) (Qa (Zc rfl Dd _) (Qa (Qd k6 _) (Qa (Qd k7 _) Q7))))),fun _ hx=>(by cases hx),Ql,Qk,(eqC (Qg (i:=0) Dd k1) (eqC (Xa (c:=0) Dd k8) (eqC (Xa (c:=0) Dd k9) eqN))),Qj⟩
        exact D.path (.inr rfl) (args:=[]) (args':=[]) (fun _ _ => .nil) (fin:=.tree (.nd (.int .i64 24) (.string ⟨#[]⟩) (.int .u64 0) (tk 128) [.ab (tk 256) (tk 257) (tk 258) (tk 259) 1]) 1) Dk
       |false=>
        rw[k9,if_neg Dd] at hr;cases hr;have D:Told b E (mkN E.len hd w.heap.size [l,m4] [.mk t5k t5x t5n t5p t5c] [] []) hd w [Zb 0 (tk 321),Qp 0 (tk 129) (tk 321),Qm 37 [.int .i64 1] 0 1 (tk 256) 0 (tk 321),Zb 1 (tk 321),Qc wEq 1 (tk 321),Qc Xu 1 (tk 321)] ⟨[],[],[],[]⟩ [(129,.int .i64 1,false),(256,.int .i64 34,false),(256,.int .i64 39,false)]:=
         ⟨h,rfl,rfl,rfl,rfl,Qa (Zc rfl Dd _) (Qa (Qq Dd (.inl rfl) _) (Qa (Qs he (.inr rfl) rfl Qw k2 (.inl rfl) Dd) (Qa (Zc rfl Dd _) (Qa (Qd k6 _) (Qa (Qd k7 _) Q7))))),fun _ hx=>(by cases hx),Ql,Qk,(eqC (Qg (i:=0) Dd k1) (eqC (Xa (c:=0) Dd k8) (eqC (Xa (c:=0) Dd k9) eqN))),Qj⟩
        exact D.path (.inr rfl) (args:=[]) (args':=[]) (fun _ _ => .nil) (fin:=.pan (tk 128)) Dk
theorem Nz {N:Va}{i j:Nat}(h:∃ t,N.L i=t::N.L j):∀ x ∈ [(i,j)],∃ t,N.L x.1=t::N.L x.2:=fun x hx=>by
 obtain rfl:=List.mem_singleton.1 hx;exact h
theorem Zm {l:List Tok}{n:Int}(hn:n≠0)(h:(Xn l==n)=true):∃ t,l=t::l.tail:=by
 cases l with
 |nil=>simp[Xn] at h;omega
 |cons t l=>exact⟨t,rfl⟩
theorem Qm1:∀ l:List UInt8,eqB l l=true
 | []=>rfl
 |a::l=>by
  unfold eqB;rw[Qm1 l,Bool.and_true];exact Nat.beq_refl _
theorem eqB_list (a b:List UInt8):eqB a b=(a==b):=by
 cases h:eqB a b with
 |true=>rw[Qjf h];simp
 |false=>
  symm
  rw[beq_eq_false_iff_ne];rintro rfl;rw[Qm1] at h;cases h
theorem Vu {N:Va}{i:Nat}{x:List UInt8}{r:Bool}(hi:i<16)(h:(Zo (N.L i)==x)=r):∃ v,Xi N (130+8*i)=some v∧Nc v (str x) r:=by
 refine⟨.string ⟨(Tz (N.L i)).text.toArray⟩,?_,?_⟩
 ·rw[show 130+8*i=128+8*i+2 by omega,N8 N hi Dd];rfl
 ·rw[Q5] at h;have h2:eqB (Tz (N.L i)).text x=r:=by rw[eqB_list];exact h
  subst h2;exact .str _ _
theorem Qcm {b:Nat}{E:Env}{hd:Bool}:Reads b E hd 77 #[rp b] (Nq E.len):=by
 intro l w r h hr;unfold Nq at hr;unfold U8 at hr;cases k1:Xn l==1 with
 |true=>
  rw[k1,if_pos rfl] at hr;(try dsimp only [andThen,ok,bad] at hr)
  simp only[Q5,Xc] at hr;cases kk:Xn l.tail==1 with
  |false=>
   have hn:Vh l.tail=0:=by unfold Vh;rw[kk];rfl
   rw[hn,if_pos Dd] at hr;cases hr;have D:Told b E (mkN E.len hd w.heap.size [l,l.tail] [] [] []) hd w [Zz 0 1 (tk 321),Qp 1 (tk 137) (tk 321),Qan 1 (tk 321)] ⟨[],[],[],[]⟩ [(137,.int .i64 1,false)]:=
    ⟨h,rfl,rfl,rfl,rfl,Qa (Z7 Dd k1 rfl _) (Qa (Qq Dd (.inl rfl) _) (Qa (Qb3 rfl Dd _) Q7)),Dx,Ql,Qk,(eqC (Qg (i:=1) Dd kk) eqN),Qj⟩
   exact D.path (.inr rfl) (args:=[]) (args':=[]) (fun _ _ => .nil) (fin:=.pan (tk 136)) Dk
  |true=>
   cases kt1:Zo l.tail==wAny with
   |true=>
    have kt2:(Zo l.tail==Jd)=false:=by rw[eq_of_beq kt1];decide
    have kt3:(Zo l.tail==Ru)=false:=by rw[eq_of_beq kt1];decide
    have hn:Vh l.tail=1:=by unfold Vh;rw[kk,kt1];rfl
    rw[hn,if_neg Dd] at hr;cases hr;have D:Told b E (mkN E.len hd w.heap.size [l,l.tail,l.tail.tail] [] [] []) hd w [Zz 0 1 (tk 321),Qp 1 (tk 137) (tk 321),Qan 1 (tk 321)] ⟨[(1,2)],[],[],[]⟩ [(137,.int .i64 1,true),(138,str wAny,true),(138,str Jd,false),(138,str Ru,false)]:=
     ⟨h,rfl,rfl,rfl,rfl,Qa (Z7 Dd k1 rfl _) (Qa (Qq Dd (.inl rfl) _) (Qa (Qb3 rfl Dd _) Q7)),(Nz (Zm Dd kk)),Ql,Qk,(eqC (Qg (i:=1) Dd kk) (eqC (Vu (i:=1) Dd kt1) (eqC (Vu (i:=1) Dd kt2) (eqC (Vu (i:=1) Dd kt3) eqN)))),Qj⟩
    exact D.path (.inr rfl) (args:=[]) (args':=[]) (fun _ _ => .nil) (fin:=.tree (.nd (.int .i64 8) (tk 130) (.int .u64 1) (tk 132) []) 2) Dk
   |false=>
    cases kt2:Zo l.tail==Jd with
    |true=>
     have kt3:(Zo l.tail==Ru)=false:=by rw[eq_of_beq kt2];decide
     have hn:Vh l.tail=2:=by unfold Vh;rw[kk,kt1,kt2];rfl
     rw[hn,if_neg Dd] at hr;cases hr;have D:Told b E (mkN E.len hd w.heap.size [l,l.tail,l.tail.tail] [] [] []) hd w [Zz 0 1 (tk 321),Qp 1 (tk 137) (tk 321),Qan 1 (tk 321)] ⟨[(1,2)],[],[],[]⟩ [(137,.int .i64 1,true),(138,str wAny,false),(138,str Jd,true),(138,str Ru,false)]:=
      ⟨h,rfl,rfl,rfl,rfl,Qa (Z7 Dd k1 rfl _) (Qa (Qq Dd (.inl rfl) _) (Qa (Qb3 rfl Dd _) Q7)),(Nz (Zm Dd kk)),Ql,Qk,(eqC (Qg (i:=1) Dd kk) (eqC (Vu (i:=1) Dd kt1) (eqC (Vu (i:=1) Dd kt2) (eqC (Vu (i:=1) Dd kt3) eqN)))),Qj⟩
     exact D.path (.inr rfl) (args:=[]) (args':=[]) (fun _ _ => .nil) (fin:=.tree (.nd (.int .i64 8) (tk 130) (.int .u64 2) (tk 132) []) 2) Dk
    |false=>
     cases kt3:Zo l.tail==Ru with
     |true=>
      have hn:Vh l.tail=3:=by unfold Vh;rw[kk,kt1,kt2,kt3];rfl
      rw[hn,if_neg Dd] at hr;cases hr;have D:Told b E (mkN E.len hd w.heap.size [l,l.tail,l.tail.tail] [] [] []) hd w [Zz 0 1 (tk 321),Qp 1 (tk 137) (tk 321),Qan 1 (tk 321)] ⟨[(1,2)],[],[],[]⟩ [(137,.int .i64 1,true),(138,str wAny,false),(138,str Jd,false),(138,str Ru,true)]:=
       ⟨h,rfl,rfl,rfl,rfl,Qa (Z7 Dd k1 rfl _) (Qa (Qq Dd (.inl rfl) _) (Qa (Qb3 rfl Dd _) Q7)),(Nz (Zm Dd kk)),Ql,Qk,(eqC (Qg (i:=1) Dd kk) (eqC (Vu (i:=1) Dd kt1) (eqC (Vu (i:=1) Dd kt2) (eqC (Vu (i:=1) Dd kt3) eqN)))),Qj⟩
      exact D.path (.inr rfl) (args:=[]) (args':=[]) (fun _ _ => .nil) (fin:=.tree (.nd (.int .i64 8) (tk 130) (.int .u64 3) (tk 132) []) 2) Dk
     |false=>
      have hn:Vh l.tail=0:=by unfold Vh;rw[kk,kt1,kt2,kt3];rfl
      rw[hn,if_pos Dd] at hr;cases hr;have D:Told b E (mkN E.len hd w.heap.size [l,l.tail] [] [] []) hd w [Zz 0 1 (tk 321),Qp 1 (tk 137) (tk 321),Qan 1 (tk 321)] ⟨[],[],[],[]⟩ [(137,.int .i64 1,true),(138,str wAny,false),(138,str Jd,false),(138,str Ru,false)]:=
       ⟨h,rfl,rfl,rfl,rfl,Qa (Z7 Dd k1 rfl _) (Qa (Qq Dd (.inl rfl) _) (Qa (Qb3 rfl Dd _) Q7)),Dx,Ql,Qk,(eqC (Qg (i:=1) Dd kk) (eqC (Vu (i:=1) Dd kt1) (eqC (Vu (i:=1) Dd kt2) (eqC (Vu (i:=1) Dd kt3) eqN)))),Qj⟩
      exact D.path (.inr rfl) (args:=[]) (args':=[]) (fun _ _ => .nil) (fin:=.pan (tk 136)) Dk
 |false=>
  rw[k1,if_neg Dd] at hr;(try dsimp only [andThen,ok,bad] at hr)
  cases hr;have D:Told b E (mkN E.len hd w.heap.size [l] [] [] []) hd w [Qal 0 (tk 321)] ⟨[],[],[],[]⟩ []:=
   ⟨h,rfl,rfl,rfl,rfl,Qa (Qbx rfl Dd k1 _) Q7,Dx,Ql,Qk,eqN,Qj⟩
  exact D.path (.inr rfl) (args:=[]) (args':=[]) (fun _ _ => .nil) (fin:=.pan (tk 128)) Dk
end Prs
end Go.Proofs.YtcbkeecabcbogaaGreatDoor
