/- Scripts: simple statements. (Printed by gen_sim.py.) Scripts: parameters of types. (Printed by gen_tp.py.) -/
import Derived.Test.YtcbkeecabcbogaaGreatDoorGaw
namespace Go.Proofs.YtcbkeecabcbogaaGreatDoor
open Go.RowKit
set_option linter.unusedSimpArgs false
set_option linter.unusedVariables false
namespace Prs
open Ev
set_option maxRecDepth 20000 in
theorem simple_c {b f:Nat}{E:Env}{hd:Bool}(he:Reads b E hd 37 #[rp b,.int .i64 1] (exprP E.len f 1 hd)):Reads b E hd 52 #[rp b] (simpleP E.len (f+1) hd):=by
 intro l w r h hr
 rw[simpleP] at hr
 cases k1:kindP l==1 with
 |true=>
  rw[k1,Bool.true_and] at hr
  cases k2:secondP wDef l with
  |true=>
   rw[k2,if_pos rfl] at hr
   unfold nameP at hr
   cases k3:kindP l==1 with
   |true=>
    rw[k3,if_pos rfl] at hr
    (try dsimp only [andThen,ok,bad] at hr)
    simp only[textP_head,placeP_head] at hr
    unfold wantP at hr
    cases k4:isP wDef l.tail with
    |true=>
     rw[k4,if_pos rfl] at hr
     (try dsimp only [andThen,ok,bad] at hr)
     cases k5:exprP E.len f 1 hd l.tail.tail with
     |none=>rw[k5] at hr;cases hr
     |some y6=>
      rw[k5] at hr
      cases y6 with
      |error pl7=>
       (try dsimp only [andThen,ok,bad] at hr)
       cases hr
       have D:Told b E (mkN E.len hd w.heap.size [l,l.tail,l.tail.tail] [] [] [(pl7:Int)]) hd w [evAt 0 (tk 321),evPeek 0 (tk 129) (tk 321),evSecond wDef 0 true (tk 321),evName 0 1 (tk 321),evWant wDef 1 2 (tk 321),evBad 37 [.int .i64 1] 2 2 (tk 321)] ⟨[],[],[],[322]⟩ [(129,.int .i64 1,true)]:=
        ⟨h,rfl,rfl,rfl,rfl,consC (at_s rfl (by decide) _) (consC (peek_s (by decide) (.inl rfl) _) (consC (second_s k2 _) (consC (name_s (by decide) k3 rfl _) (consC (want_s rfl (by decide) k4 rfl _) (consC (bad_s he (.inr rfl) rfl ys_one k5 (by decide) rfl) nilC))))),fun _ hx=>(by cases hx),noApp,noPut,(eqC (kind_tok (i:=0) (by decide) k1) eqN),(posC ⟨pl7,rfl⟩ noPos)⟩
       exact D.path (.inr rfl) (args:=[]) (args':=[]) (fun _ _ => .nil) (fin := .pan (tk 322)) (by kernel_rfl)
      |ok y6=>
       obtain⟨⟨t8k,t8x,t8n,t8p,t8c⟩,m7⟩:=y6
       (try dsimp only [andThen,ok,bad] at hr)
       cases hr
       have D:Told b E (mkN E.len hd w.heap.size [l,l.tail,l.tail.tail,m7] [.mk t8k t8x t8n t8p t8c] [] []) hd w [evAt 0 (tk 321),evPeek 0 (tk 129) (tk 321),evSecond wDef 0 true (tk 321),evName 0 1 (tk 321),evWant wDef 1 2 (tk 321),evTree 37 [.int .i64 1] 2 3 (tk 256) 0 (tk 321)] ⟨[],[],[],[]⟩ [(129,.int .i64 1,true)]:=
        ⟨h,rfl,rfl,rfl,rfl,consC (at_s rfl (by decide) _) (consC (peek_s (by decide) (.inl rfl) _) (consC (second_s k2 _) (consC (name_s (by decide) k3 rfl _) (consC (want_s rfl (by decide) k4 rfl _) (consC (tree_s he (.inr rfl) rfl ys_one k5 (.inl rfl) (by decide)) nilC))))),fun _ hx=>(by cases hx),noApp,noPut,(eqC (kind_tok (i:=0) (by decide) k1) eqN),noPos⟩
       exact D.path (.inr rfl) (args:=[]) (args':=[]) (fun _ _ => .nil) (fin := .tree (.nd (.int .i64 21) (tk 130) (.int .u64 0) (tk 128) [.ab (tk 256) (tk 257) (tk 258) (tk 259) 1]) 3) (by kernel_rfl)
    |false=>
     rw[k4,if_neg (by decide)] at hr
     (try dsimp only [andThen,ok,bad] at hr)
     cases hr
     have D:Told b E (mkN E.len hd w.heap.size [l,l.tail] [] [] []) hd w [evAt 0 (tk 321),evPeek 0 (tk 129) (tk 321),evSecond wDef 0 true (tk 321),evName 0 1 (tk 321),evLack wDef 1 (tk 321)] ⟨[],[],[],[]⟩ [(129,.int .i64 1,true)]:=
      ⟨h,rfl,rfl,rfl,rfl,consC (at_s rfl (by decide) _) (consC (peek_s (by decide) (.inl rfl) _) (consC (second_s k2 _) (consC (name_s (by decide) k3 rfl _) (consC (lack_s rfl (by decide) k4 _) nilC)))),fun _ hx=>(by cases hx),noApp,noPut,(eqC (kind_tok (i:=0) (by decide) k1) eqN),noPos⟩
     exact D.path (.inr rfl) (args:=[]) (args':=[]) (fun _ _ => .nil) (fin := .pan (tk 136)) (by kernel_rfl)
   |false=>
    rw[k3,if_neg (by decide)] at hr
    (try dsimp only [andThen,ok,bad] at hr)
    cases hr
    have D:Told b E (mkN E.len hd w.heap.size [l] [] [] []) hd w [evAt 0 (tk 321),evPeek 0 (tk 129) (tk 321),evSecond wDef 0 true (tk 321),evNone 0 (tk 321)] ⟨[],[],[],[]⟩ [(129,.int .i64 1,true)]:=
     ⟨h,rfl,rfl,rfl,rfl,consC (at_s rfl (by decide) _) (consC (peek_s (by decide) (.inl rfl) _) (consC (second_s k2 _) (consC (none_s rfl (by decide) k3 _) nilC))),fun _ hx=>(by cases hx),noApp,noPut,(eqC (kind_tok (i:=0) (by decide) k1) eqN),noPos⟩
    exact D.path (.inr rfl) (args:=[]) (args':=[]) (fun _ _ => .nil) (fin := .pan (tk 128)) (by kernel_rfl)
  |false=>
   rw[k2,if_neg (by decide)] at hr
   cases k3:exprP E.len f 1 hd l with
   |none=>rw[k3] at hr;cases hr
   |some y4=>
    rw[k3] at hr
    cases y4 with
    |error pl5=>
     (try dsimp only [andThen,ok,bad] at hr)
     cases hr
     have D:Told b E (mkN E.len hd w.heap.size [l] [] [] [(pl5:Int)]) hd w [evAt 0 (tk 321),evPeek 0 (tk 129) (tk 321),evSecond wDef 0 false (tk 321),evBad 37 [.int .i64 1] 0 2 (tk 321)] ⟨[],[],[],[322]⟩ [(129,.int .i64 1,true)]:=
      ⟨h,rfl,rfl,rfl,rfl,consC (at_s rfl (by decide) _) (consC (peek_s (by decide) (.inl rfl) _) (consC (second_s k2 _) (consC (bad_s he (.inr rfl) rfl ys_one k3 (by decide) rfl) nilC))),fun _ hx=>(by cases hx),noApp,noPut,(eqC (kind_tok (i:=0) (by decide) k1) eqN),(posC ⟨pl5,rfl⟩ noPos)⟩
     exact D.path (.inr rfl) (args:=[]) (args':=[]) (fun _ _ => .nil) (fin := .pan (tk 322)) (by kernel_rfl)
    |ok y4=>
     obtain⟨⟨t6k,t6x,t6n,t6p,t6c⟩,m5⟩:=y4
     (try dsimp only [andThen,ok,bad] at hr)
     cases k7:isP wEq m5 with
     |true=>
      rw[k7,if_pos rfl] at hr
      cases k8:exprP E.len f 1 hd m5.tail with
      |none=>rw[k8] at hr;cases hr
      |some y9=>
       rw[k8] at hr
       cases y9 with
       |error pl10=>
        (try dsimp only [andThen,ok,bad] at hr)
        cases hr
        have D:Told b E (mkN E.len hd w.heap.size [l,m5,m5.tail] [.mk t6k t6x t6n t6p t6c] [] [(pl10:Int)]) hd w [evAt 0 (tk 321),evPeek 0 (tk 129) (tk 321),evSecond wDef 0 false (tk 321),evTree 37 [.int .i64 1] 0 1 (tk 256) 0 (tk 321),evAt 1 (tk 321),evTake wEq 1 2 (tk 321),evBad 37 [.int .i64 1] 2 2 (tk 321)] ⟨[],[],[],[322]⟩ [(129,.int .i64 1,true)]:=
         ⟨h,rfl,rfl,rfl,rfl,consC (at_s rfl (by decide) _) (consC (peek_s (by decide) (.inl rfl) _) (consC (second_s k2 _) (consC (tree_s he (.inr rfl) rfl ys_one k3 (.inl rfl) (by decide)) (consC (at_s rfl (by decide) _) (consC (take_s k7 rfl _) (consC (bad_s he (.inr rfl) rfl ys_one k8 (by decide) rfl) nilC)))))),fun _ hx=>(by cases hx),noApp,noPut,(eqC (kind_tok (i:=0) (by decide) k1) eqN),(posC ⟨pl10,rfl⟩ noPos)⟩
        exact D.path (.inr rfl) (args:=[]) (args':=[]) (fun _ _ => .nil) (fin := .pan (tk 322)) (by kernel_rfl)
       |ok y9=>
        obtain⟨⟨t11k,t11x,t11n,t11p,t11c⟩,m10⟩:=y9
        (try dsimp only [andThen,ok,bad] at hr)
        cases k12:(Tr.mk t6k t6x t6n t6p t6c).kind==30 with
        |true=>
         rw[k12,Bool.true_or,if_pos rfl] at hr
         cases hr
         have D:Told b E (mkN E.len hd w.heap.size [l,m5,m5.tail,m10] [.mk t6k t6x t6n t6p t6c,.mk t11k t11x t11n t11p t11c] [] []) hd w [evAt 0 (tk 321),evPeek 0 (tk 129) (tk 321),evSecond wDef 0 false (tk 321),evTree 37 [.int .i64 1] 0 1 (tk 256) 0 (tk 321),evAt 1 (tk 321),evTake wEq 1 2 (tk 321),evTree 37 [.int .i64 1] 2 3 (tk 260) 1 (tk 321)] ⟨[],[],[],[]⟩ [(129,.int .i64 1,true),(256,.int .i64 30,true)]:=
          ⟨h,rfl,rfl,rfl,rfl,consC (at_s rfl (by decide) _) (consC (peek_s (by decide) (.inl rfl) _) (consC (second_s k2 _) (consC (tree_s he (.inr rfl) rfl ys_one k3 (.inl rfl) (by decide)) (consC (at_s rfl (by decide) _) (consC (take_s k7 rfl _) (consC (tree_s he (.inr rfl) rfl ys_one k8 (.inl rfl) (by decide)) nilC)))))),fun _ hx=>(by cases hx),noApp,noPut,(eqC (kind_tok (i:=0) (by decide) k1) (eqC (tree_tok (c:=0) (by decide) k12) eqN)),noPos⟩
         exact D.path (.inr rfl) (args:=[]) (args':=[]) (fun _ _ => .nil) (fin := .tree (.nd (.int .i64 23) (.string ⟨#[]⟩) (.int .u64 0) (tk 128) [.ab (tk 256) (tk 257) (tk 258) (tk 259) 1,.ab (tk 260) (tk 261) (tk 262) (tk 263) 9]) 3) (by kernel_rfl)
        |false=>
         rw[k12,Bool.false_or] at hr
         cases k13:(Tr.mk t6k t6x t6n t6p t6c).kind==35 with
         |true=>
          rw[k13,Bool.true_or,if_pos rfl] at hr
          cases hr
          have D:Told b E (mkN E.len hd w.heap.size [l,m5,m5.tail,m10] [.mk t6k t6x t6n t6p t6c,.mk t11k t11x t11n t11p t11c] [] []) hd w [evAt 0 (tk 321),evPeek 0 (tk 129) (tk 321),evSecond wDef 0 false (tk 321),evTree 37 [.int .i64 1] 0 1 (tk 256) 0 (tk 321),evAt 1 (tk 321),evTake wEq 1 2 (tk 321),evTree 37 [.int .i64 1] 2 3 (tk 260) 1 (tk 321)] ⟨[],[],[],[]⟩ [(129,.int .i64 1,true),(256,.int .i64 30,false),(256,.int .i64 35,true)]:=
           ⟨h,rfl,rfl,rfl,rfl,consC (at_s rfl (by decide) _) (consC (peek_s (by decide) (.inl rfl) _) (consC (second_s k2 _) (consC (tree_s he (.inr rfl) rfl ys_one k3 (.inl rfl) (by decide)) (consC (at_s rfl (by decide) _) (consC (take_s k7 rfl _) (consC (tree_s he (.inr rfl) rfl ys_one k8 (.inl rfl) (by decide)) nilC)))))),fun _ hx=>(by cases hx),noApp,noPut,(eqC (kind_tok (i:=0) (by decide) k1) (eqC (tree_tok (c:=0) (by decide) k12) (eqC (tree_tok (c:=0) (by decide) k13) eqN))),noPos⟩
          exact D.path (.inr rfl) (args:=[]) (args':=[]) (fun _ _ => .nil) (fin := .tree (.nd (.int .i64 23) (.string ⟨#[]⟩) (.int .u64 0) (tk 128) [.ab (tk 256) (tk 257) (tk 258) (tk 259) 1,.ab (tk 260) (tk 261) (tk 262) (tk 263) 9]) 3) (by kernel_rfl)
         |false=>
          rw[k13,Bool.false_or] at hr
          cases k14:(Tr.mk t6k t6x t6n t6p t6c).kind==36 with
          |true=>
           rw[k14,if_pos rfl] at hr
           cases hr
           have D:Told b E (mkN E.len hd w.heap.size [l,m5,m5.tail,m10] [.mk t6k t6x t6n t6p t6c,.mk t11k t11x t11n t11p t11c] [] []) hd w [evAt 0 (tk 321),evPeek 0 (tk 129) (tk 321),evSecond wDef 0 false (tk 321),evTree 37 [.int .i64 1] 0 1 (tk 256) 0 (tk 321),evAt 1 (tk 321),evTake wEq 1 2 (tk 321),evTree 37 [.int .i64 1] 2 3 (tk 260) 1 (tk 321)] ⟨[],[],[],[]⟩ [(129,.int .i64 1,true),(256,.int .i64 30,false),(256,.int .i64 35,false),(256,.int .i64 36,true)]:=
            ⟨h,rfl,rfl,rfl,rfl,consC (at_s rfl (by decide) _) (consC (peek_s (by decide) (.inl rfl) _) (consC (second_s k2 _) (consC (tree_s he (.inr rfl) rfl ys_one k3 (.inl rfl) (by decide)) (consC (at_s rfl (by decide) _) (consC (take_s k7 rfl _) (consC (tree_s he (.inr rfl) rfl ys_one k8 (.inl rfl) (by decide)) nilC)))))),fun _ hx=>(by cases hx),noApp,noPut,(eqC (kind_tok (i:=0) (by decide) k1) (eqC (tree_tok (c:=0) (by decide) k12) (eqC (tree_tok (c:=0) (by decide) k13) (eqC (tree_tok (c:=0) (by decide) k14) eqN)))),noPos⟩
           exact D.path (.inr rfl) (args:=[]) (args':=[]) (fun _ _ => .nil) (fin := .tree (.nd (.int .i64 23) (.string ⟨#[]⟩) (.int .u64 0) (tk 128) [.ab (tk 256) (tk 257) (tk 258) (tk 259) 1,.ab (tk 260) (tk 261) (tk 262) (tk 263) 9]) 3) (by kernel_rfl)
          |false=>
           rw[k14,if_neg (by decide)] at hr
           cases hr
           have D:Told b E (mkN E.len hd w.heap.size [l,m5,m5.tail,m10] [.mk t6k t6x t6n t6p t6c,.mk t11k t11x t11n t11p t11c] [] []) hd w [evAt 0 (tk 321),evPeek 0 (tk 129) (tk 321),evSecond wDef 0 false (tk 321),evTree 37 [.int .i64 1] 0 1 (tk 256) 0 (tk 321),evAt 1 (tk 321),evTake wEq 1 2 (tk 321),evTree 37 [.int .i64 1] 2 3 (tk 260) 1 (tk 321)] ⟨[],[],[],[]⟩ [(129,.int .i64 1,true),(256,.int .i64 30,false),(256,.int .i64 35,false),(256,.int .i64 36,false)]:=
            ⟨h,rfl,rfl,rfl,rfl,consC (at_s rfl (by decide) _) (consC (peek_s (by decide) (.inl rfl) _) (consC (second_s k2 _) (consC (tree_s he (.inr rfl) rfl ys_one k3 (.inl rfl) (by decide)) (consC (at_s rfl (by decide) _) (consC (take_s k7 rfl _) (consC (tree_s he (.inr rfl) rfl ys_one k8 (.inl rfl) (by decide)) nilC)))))),fun _ hx=>(by cases hx),noApp,noPut,(eqC (kind_tok (i:=0) (by decide) k1) (eqC (tree_tok (c:=0) (by decide) k12) (eqC (tree_tok (c:=0) (by decide) k13) (eqC (tree_tok (c:=0) (by decide) k14) eqN)))),noPos⟩
           exact D.path (.inr rfl) (args:=[]) (args':=[]) (fun _ _ => .nil) (fin := .pan (tk 128)) (by kernel_rfl)
     |false=>
      rw[k7,if_neg (by decide)] at hr
      cases k8:isP wArrow m5 with
      |true=>
       rw[k8,if_pos rfl] at hr
       cases k9:exprP E.len f 1 hd m5.tail with
       |none=>rw[k9] at hr;cases hr
       |some y10=>
        rw[k9] at hr
        cases y10 with
        |error pl11=>
         (try dsimp only [andThen,ok,bad] at hr)
         cases hr
         have D:Told b E (mkN E.len hd w.heap.size [l,m5,m5.tail] [.mk t6k t6x t6n t6p t6c] [] [(pl11:Int)]) hd w [evAt 0 (tk 321),evPeek 0 (tk 129) (tk 321),evSecond wDef 0 false (tk 321),evTree 37 [.int .i64 1] 0 1 (tk 256) 0 (tk 321),evAt 1 (tk 321),evMiss wEq 1 (tk 321),evTake wArrow 1 2 (tk 321),evBad 37 [.int .i64 1] 2 2 (tk 321)] ⟨[],[],[],[322]⟩ [(129,.int .i64 1,true)]:=
          ⟨h,rfl,rfl,rfl,rfl,consC (at_s rfl (by decide) _) (consC (peek_s (by decide) (.inl rfl) _) (consC (second_s k2 _) (consC (tree_s he (.inr rfl) rfl ys_one k3 (.inl rfl) (by decide)) (consC (at_s rfl (by decide) _) (consC (miss_s k7 _) (consC (take_s k8 rfl _) (consC (bad_s he (.inr rfl) rfl ys_one k9 (by decide) rfl) nilC))))))),fun _ hx=>(by cases hx),noApp,noPut,(eqC (kind_tok (i:=0) (by decide) k1) eqN),(posC ⟨pl11,rfl⟩ noPos)⟩
         exact D.path (.inr rfl) (args:=[]) (args':=[]) (fun _ _ => .nil) (fin := .pan (tk 322)) (by kernel_rfl)
        |ok y10=>
         obtain⟨⟨t12k,t12x,t12n,t12p,t12c⟩,m11⟩:=y10
         (try dsimp only [andThen,ok,bad] at hr)
         cases hr
         have D:Told b E (mkN E.len hd w.heap.size [l,m5,m5.tail,m11] [.mk t6k t6x t6n t6p t6c,.mk t12k t12x t12n t12p t12c] [] []) hd w [evAt 0 (tk 321),evPeek 0 (tk 129) (tk 321),evSecond wDef 0 false (tk 321),evTree 37 [.int .i64 1] 0 1 (tk 256) 0 (tk 321),evAt 1 (tk 321),evMiss wEq 1 (tk 321),evTake wArrow 1 2 (tk 321),evTree 37 [.int .i64 1] 2 3 (tk 260) 1 (tk 321)] ⟨[],[],[],[]⟩ [(129,.int .i64 1,true)]:=
          ⟨h,rfl,rfl,rfl,rfl,consC (at_s rfl (by decide) _) (consC (peek_s (by decide) (.inl rfl) _) (consC (second_s k2 _) (consC (tree_s he (.inr rfl) rfl ys_one k3 (.inl rfl) (by decide)) (consC (at_s rfl (by decide) _) (consC (miss_s k7 _) (consC (take_s k8 rfl _) (consC (tree_s he (.inr rfl) rfl ys_one k9 (.inl rfl) (by decide)) nilC))))))),fun _ hx=>(by cases hx),noApp,noPut,(eqC (kind_tok (i:=0) (by decide) k1) eqN),noPos⟩
         exact D.path (.inr rfl) (args:=[]) (args':=[]) (fun _ _ => .nil) (fin := .tree (.nd (.int .i64 41) (.string ⟨#[]⟩) (.int .u64 0) (tk 136) [.ab (tk 256) (tk 257) (tk 258) (tk 259) 1,.ab (tk 260) (tk 261) (tk 262) (tk 263) 9]) 3) (by kernel_rfl)
      |false=>
       rw[k8,if_neg (by decide)] at hr
       cases k9:(Tr.mk t6k t6x t6n t6p t6c).kind==34 with
       |true=>
        rw[k9,Bool.true_or,if_pos rfl] at hr
        cases hr
        have D:Told b E (mkN E.len hd w.heap.size [l,m5] [.mk t6k t6x t6n t6p t6c] [] []) hd w [evAt 0 (tk 321),evPeek 0 (tk 129) (tk 321),evSecond wDef 0 false (tk 321),evTree 37 [.int .i64 1] 0 1 (tk 256) 0 (tk 321),evAt 1 (tk 321),evMiss wEq 1 (tk 321),evMiss wArrow 1 (tk 321)] ⟨[],[],[],[]⟩ [(129,.int .i64 1,true),(256,.int .i64 34,true)]:=
         ⟨h,rfl,rfl,rfl,rfl,consC (at_s rfl (by decide) _) (consC (peek_s (by decide) (.inl rfl) _) (consC (second_s k2 _) (consC (tree_s he (.inr rfl) rfl ys_one k3 (.inl rfl) (by decide)) (consC (at_s rfl (by decide) _) (consC (miss_s k7 _) (consC (miss_s k8 _) nilC)))))),fun _ hx=>(by cases hx),noApp,noPut,(eqC (kind_tok (i:=0) (by decide) k1) (eqC (tree_tok (c:=0) (by decide) k9) eqN)),noPos⟩
        exact D.path (.inr rfl) (args:=[]) (args':=[]) (fun _ _ => .nil) (fin := .tree (.nd (.int .i64 24) (.string ⟨#[]⟩) (.int .u64 0) (tk 128) [.ab (tk 256) (tk 257) (tk 258) (tk 259) 1]) 1) (by kernel_rfl)
       |false=>
        rw[k9,Bool.false_or] at hr
        cases k10:(Tr.mk t6k t6x t6n t6p t6c).kind==39 with
        |true=>
         rw[k10,if_pos rfl] at hr
         cases hr
         have D:Told b E (mkN E.len hd w.heap.size [l,m5] [.mk t6k t6x t6n t6p t6c] [] []) hd w [evAt 0 (tk 321),evPeek 0 (tk 129) (tk 321),evSecond wDef 0 false (tk 321),evTree 37 [.int .i64 1] 0 1 (tk 256) 0 (tk 321),evAt 1 (tk 321),evMiss wEq 1 (tk 321),evMiss wArrow 1 (tk 321)] ⟨[],[],[],[]⟩ [(129,.int .i64 1,true),(256,.int .i64 34,false),(256,.int .i64 39,true)]:=
          ⟨h,rfl,rfl,rfl,rfl,consC (at_s rfl (by decide) _) (consC (peek_s (by decide) (.inl rfl) _) (consC (second_s k2 _) (consC (tree_s he (.inr rfl) rfl ys_one k3 (.inl rfl) (by decide)) (consC (at_s rfl (by decide) _) (consC (miss_s k7 _) (consC (miss_s k8 _) nilC)))))),fun _ hx=>(by cases hx),noApp,noPut,(eqC (kind_tok (i:=0) (by decide) k1) (eqC (tree_tok (c:=0) (by decide) k9) (eqC (tree_tok (c:=0) (by decide) k10) eqN))),noPos⟩
         exact D.path (.inr rfl) (args:=[]) (args':=[]) (fun _ _ => .nil) (fin := .tree (.nd (.int .i64 24) (.string ⟨#[]⟩) (.int .u64 0) (tk 128) [.ab (tk 256) (tk 257) (tk 258) (tk 259) 1]) 1) (by kernel_rfl)
        |false=>
         rw[k10,if_neg (by decide)] at hr
         cases hr
         have D:Told b E (mkN E.len hd w.heap.size [l,m5] [.mk t6k t6x t6n t6p t6c] [] []) hd w [evAt 0 (tk 321),evPeek 0 (tk 129) (tk 321),evSecond wDef 0 false (tk 321),evTree 37 [.int .i64 1] 0 1 (tk 256) 0 (tk 321),evAt 1 (tk 321),evMiss wEq 1 (tk 321),evMiss wArrow 1 (tk 321)] ⟨[],[],[],[]⟩ [(129,.int .i64 1,true),(256,.int .i64 34,false),(256,.int .i64 39,false)]:=
          ⟨h,rfl,rfl,rfl,rfl,consC (at_s rfl (by decide) _) (consC (peek_s (by decide) (.inl rfl) _) (consC (second_s k2 _) (consC (tree_s he (.inr rfl) rfl ys_one k3 (.inl rfl) (by decide)) (consC (at_s rfl (by decide) _) (consC (miss_s k7 _) (consC (miss_s k8 _) nilC)))))),fun _ hx=>(by cases hx),noApp,noPut,(eqC (kind_tok (i:=0) (by decide) k1) (eqC (tree_tok (c:=0) (by decide) k9) (eqC (tree_tok (c:=0) (by decide) k10) eqN))),noPos⟩
         exact D.path (.inr rfl) (args:=[]) (args':=[]) (fun _ _ => .nil) (fin := .pan (tk 128)) (by kernel_rfl)
 |false=>
  rw[k1,Bool.false_and,if_neg (by decide)] at hr
  cases k2:exprP E.len f 1 hd l with
  |none=>rw[k2] at hr;cases hr
  |some y3=>
   rw[k2] at hr
   cases y3 with
   |error pl4=>
    (try dsimp only [andThen,ok,bad] at hr)
    cases hr
    have D:Told b E (mkN E.len hd w.heap.size [l] [] [] [(pl4:Int)]) hd w [evAt 0 (tk 321),evPeek 0 (tk 129) (tk 321),evBad 37 [.int .i64 1] 0 2 (tk 321)] ⟨[],[],[],[322]⟩ [(129,.int .i64 1,false)]:=
     ⟨h,rfl,rfl,rfl,rfl,consC (at_s rfl (by decide) _) (consC (peek_s (by decide) (.inl rfl) _) (consC (bad_s he (.inr rfl) rfl ys_one k2 (by decide) rfl) nilC)),fun _ hx=>(by cases hx),noApp,noPut,(eqC (kind_tok (i:=0) (by decide) k1) eqN),(posC ⟨pl4,rfl⟩ noPos)⟩
    exact D.path (.inr rfl) (args:=[]) (args':=[]) (fun _ _ => .nil) (fin := .pan (tk 322)) (by kernel_rfl)
   |ok y3=>
    obtain⟨⟨t5k,t5x,t5n,t5p,t5c⟩,m4⟩:=y3
    (try dsimp only [andThen,ok,bad] at hr)
    cases k6:isP wEq m4 with
    |true=>
     rw[k6,if_pos rfl] at hr
     cases k7:exprP E.len f 1 hd m4.tail with
     |none=>rw[k7] at hr;cases hr
     |some y8=>
      rw[k7] at hr
      cases y8 with
      |error pl9=>
       (try dsimp only [andThen,ok,bad] at hr)
       cases hr
       have D:Told b E (mkN E.len hd w.heap.size [l,m4,m4.tail] [.mk t5k t5x t5n t5p t5c] [] [(pl9:Int)]) hd w [evAt 0 (tk 321),evPeek 0 (tk 129) (tk 321),evTree 37 [.int .i64 1] 0 1 (tk 256) 0 (tk 321),evAt 1 (tk 321),evTake wEq 1 2 (tk 321),evBad 37 [.int .i64 1] 2 2 (tk 321)] ⟨[],[],[],[322]⟩ [(129,.int .i64 1,false)]:=
        ⟨h,rfl,rfl,rfl,rfl,consC (at_s rfl (by decide) _) (consC (peek_s (by decide) (.inl rfl) _) (consC (tree_s he (.inr rfl) rfl ys_one k2 (.inl rfl) (by decide)) (consC (at_s rfl (by decide) _) (consC (take_s k6 rfl _) (consC (bad_s he (.inr rfl) rfl ys_one k7 (by decide) rfl) nilC))))),fun _ hx=>(by cases hx),noApp,noPut,(eqC (kind_tok (i:=0) (by decide) k1) eqN),(posC ⟨pl9,rfl⟩ noPos)⟩
       exact D.path (.inr rfl) (args:=[]) (args':=[]) (fun _ _ => .nil) (fin := .pan (tk 322)) (by kernel_rfl)
      |ok y8=>
       obtain⟨⟨t10k,t10x,t10n,t10p,t10c⟩,m9⟩:=y8
       (try dsimp only [andThen,ok,bad] at hr)
       cases k11:(Tr.mk t5k t5x t5n t5p t5c).kind==30 with
       |true=>
        rw[k11,Bool.true_or,if_pos rfl] at hr
        cases hr
        have D:Told b E (mkN E.len hd w.heap.size [l,m4,m4.tail,m9] [.mk t5k t5x t5n t5p t5c,.mk t10k t10x t10n t10p t10c] [] []) hd w [evAt 0 (tk 321),evPeek 0 (tk 129) (tk 321),evTree 37 [.int .i64 1] 0 1 (tk 256) 0 (tk 321),evAt 1 (tk 321),evTake wEq 1 2 (tk 321),evTree 37 [.int .i64 1] 2 3 (tk 260) 1 (tk 321)] ⟨[],[],[],[]⟩ [(129,.int .i64 1,false),(256,.int .i64 30,true)]:=
         ⟨h,rfl,rfl,rfl,rfl,consC (at_s rfl (by decide) _) (consC (peek_s (by decide) (.inl rfl) _) (consC (tree_s he (.inr rfl) rfl ys_one k2 (.inl rfl) (by decide)) (consC (at_s rfl (by decide) _) (consC (take_s k6 rfl _) (consC (tree_s he (.inr rfl) rfl ys_one k7 (.inl rfl) (by decide)) nilC))))),fun _ hx=>(by cases hx),noApp,noPut,(eqC (kind_tok (i:=0) (by decide) k1) (eqC (tree_tok (c:=0) (by decide) k11) eqN)),noPos⟩
        exact D.path (.inr rfl) (args:=[]) (args':=[]) (fun _ _ => .nil) (fin := .tree (.nd (.int .i64 23) (.string ⟨#[]⟩) (.int .u64 0) (tk 128) [.ab (tk 256) (tk 257) (tk 258) (tk 259) 1,.ab (tk 260) (tk 261) (tk 262) (tk 263) 9]) 3) (by kernel_rfl)
       |false=>
        rw[k11,Bool.false_or] at hr
        cases k12:(Tr.mk t5k t5x t5n t5p t5c).kind==35 with
        |true=>
         rw[k12,Bool.true_or,if_pos rfl] at hr
         cases hr
         have D:Told b E (mkN E.len hd w.heap.size [l,m4,m4.tail,m9] [.mk t5k t5x t5n t5p t5c,.mk t10k t10x t10n t10p t10c] [] []) hd w [evAt 0 (tk 321),evPeek 0 (tk 129) (tk 321),evTree 37 [.int .i64 1] 0 1 (tk 256) 0 (tk 321),evAt 1 (tk 321),evTake wEq 1 2 (tk 321),evTree 37 [.int .i64 1] 2 3 (tk 260) 1 (tk 321)] ⟨[],[],[],[]⟩ [(129,.int .i64 1,false),(256,.int .i64 30,false),(256,.int .i64 35,true)]:=
          ⟨h,rfl,rfl,rfl,rfl,consC (at_s rfl (by decide) _) (consC (peek_s (by decide) (.inl rfl) _) (consC (tree_s he (.inr rfl) rfl ys_one k2 (.inl rfl) (by decide)) (consC (at_s rfl (by decide) _) (consC (take_s k6 rfl _) (consC (tree_s he (.inr rfl) rfl ys_one k7 (.inl rfl) (by decide)) nilC))))),fun _ hx=>(by cases hx),noApp,noPut,(eqC (kind_tok (i:=0) (by decide) k1) (eqC (tree_tok (c:=0) (by decide) k11) (eqC (tree_tok (c:=0) (by decide) k12) eqN))),noPos⟩
         exact D.path (.inr rfl) (args:=[]) (args':=[]) (fun _ _ => .nil) (fin := .tree (.nd (.int .i64 23) (.string ⟨#[]⟩) (.int .u64 0) (tk 128) [.ab (tk 256) (tk 257) (tk 258) (tk 259) 1,.ab (tk 260) (tk 261) (tk 262) (tk 263) 9]) 3) (by kernel_rfl)
        |false=>
         rw[k12,Bool.false_or] at hr
         cases k13:(Tr.mk t5k t5x t5n t5p t5c).kind==36 with
         |true=>
          rw[k13,if_pos rfl] at hr
          cases hr
          have D:Told b E (mkN E.len hd w.heap.size [l,m4,m4.tail,m9] [.mk t5k t5x t5n t5p t5c,.mk t10k t10x t10n t10p t10c] [] []) hd w [evAt 0 (tk 321),evPeek 0 (tk 129) (tk 321),evTree 37 [.int .i64 1] 0 1 (tk 256) 0 (tk 321),evAt 1 (tk 321),evTake wEq 1 2 (tk 321),evTree 37 [.int .i64 1] 2 3 (tk 260) 1 (tk 321)] ⟨[],[],[],[]⟩ [(129,.int .i64 1,false),(256,.int .i64 30,false),(256,.int .i64 35,false),(256,.int .i64 36,true)]:=
           ⟨h,rfl,rfl,rfl,rfl,consC (at_s rfl (by decide) _) (consC (peek_s (by decide) (.inl rfl) _) (consC (tree_s he (.inr rfl) rfl ys_one k2 (.inl rfl) (by decide)) (consC (at_s rfl (by decide) _) (consC (take_s k6 rfl _) (consC (tree_s he (.inr rfl) rfl ys_one k7 (.inl rfl) (by decide)) nilC))))),fun _ hx=>(by cases hx),noApp,noPut,(eqC (kind_tok (i:=0) (by decide) k1) (eqC (tree_tok (c:=0) (by decide) k11) (eqC (tree_tok (c:=0) (by decide) k12) (eqC (tree_tok (c:=0) (by decide) k13) eqN)))),noPos⟩
          exact D.path (.inr rfl) (args:=[]) (args':=[]) (fun _ _ => .nil) (fin := .tree (.nd (.int .i64 23) (.string ⟨#[]⟩) (.int .u64 0) (tk 128) [.ab (tk 256) (tk 257) (tk 258) (tk 259) 1,.ab (tk 260) (tk 261) (tk 262) (tk 263) 9]) 3) (by kernel_rfl)
         |false=>
          rw[k13,if_neg (by decide)] at hr
          cases hr
          have D:Told b E (mkN E.len hd w.heap.size [l,m4,m4.tail,m9] [.mk t5k t5x t5n t5p t5c,.mk t10k t10x t10n t10p t10c] [] []) hd w [evAt 0 (tk 321),evPeek 0 (tk 129) (tk 321),evTree 37 [.int .i64 1] 0 1 (tk 256) 0 (tk 321),evAt 1 (tk 321),evTake wEq 1 2 (tk 321),evTree 37 [.int .i64 1] 2 3 (tk 260) 1 (tk 321)] ⟨[],[],[],[]⟩ [(129,.int .i64 1,false),(256,.int .i64 30,false),(256,.int .i64 35,false),(256,.int .i64 36,false)]:=
           ⟨h,rfl,rfl,rfl,rfl,consC (at_s rfl (by decide) _) (consC (peek_s (by decide) (.inl rfl) _) (consC (tree_s he (.inr rfl) rfl ys_one k2 (.inl rfl) (by decide)) (consC (at_s rfl (by decide) _) (consC (take_s k6 rfl _) (consC (tree_s he (.inr rfl) rfl ys_one k7 (.inl rfl) (by decide)) nilC))))),fun _ hx=>(by cases hx),noApp,noPut,(eqC (kind_tok (i:=0) (by decide) k1) (eqC (tree_tok (c:=0) (by decide) k11) (eqC (tree_tok (c:=0) (by decide) k12) (eqC (tree_tok (c:=0) (by decide) k13) eqN)))),noPos⟩
          exact D.path (.inr rfl) (args:=[]) (args':=[]) (fun _ _ => .nil) (fin := .pan (tk 128)) (by kernel_rfl)
    |false=>
     rw[k6,if_neg (by decide)] at hr
     cases k7:isP wArrow m4 with
     |true=>
      rw[k7,if_pos rfl] at hr
      cases k8:exprP E.len f 1 hd m4.tail with
      |none=>rw[k8] at hr;cases hr
      |some y9=>
       rw[k8] at hr
       cases y9 with
       |error pl10=>
        (try dsimp only [andThen,ok,bad] at hr)
        cases hr
        have D:Told b E (mkN E.len hd w.heap.size [l,m4,m4.tail] [.mk t5k t5x t5n t5p t5c] [] [(pl10:Int)]) hd w [evAt 0 (tk 321),evPeek 0 (tk 129) (tk 321),evTree 37 [.int .i64 1] 0 1 (tk 256) 0 (tk 321),evAt 1 (tk 321),evMiss wEq 1 (tk 321),evTake wArrow 1 2 (tk 321),evBad 37 [.int .i64 1] 2 2 (tk 321)] ⟨[],[],[],[322]⟩ [(129,.int .i64 1,false)]:=
         ⟨h,rfl,rfl,rfl,rfl,consC (at_s rfl (by decide) _) (consC (peek_s (by decide) (.inl rfl) _) (consC (tree_s he (.inr rfl) rfl ys_one k2 (.inl rfl) (by decide)) (consC (at_s rfl (by decide) _) (consC (miss_s k6 _) (consC (take_s k7 rfl _) (consC (bad_s he (.inr rfl) rfl ys_one k8 (by decide) rfl) nilC)))))),fun _ hx=>(by cases hx),noApp,noPut,(eqC (kind_tok (i:=0) (by decide) k1) eqN),(posC ⟨pl10,rfl⟩ noPos)⟩
        exact D.path (.inr rfl) (args:=[]) (args':=[]) (fun _ _ => .nil) (fin := .pan (tk 322)) (by kernel_rfl)
       |ok y9=>
        obtain⟨⟨t11k,t11x,t11n,t11p,t11c⟩,m10⟩:=y9
        (try dsimp only [andThen,ok,bad] at hr)
        cases hr
        have D:Told b E (mkN E.len hd w.heap.size [l,m4,m4.tail,m10] [.mk t5k t5x t5n t5p t5c,.mk t11k t11x t11n t11p t11c] [] []) hd w [evAt 0 (tk 321),evPeek 0 (tk 129) (tk 321),evTree 37 [.int .i64 1] 0 1 (tk 256) 0 (tk 321),evAt 1 (tk 321),evMiss wEq 1 (tk 321),evTake wArrow 1 2 (tk 321),evTree 37 [.int .i64 1] 2 3 (tk 260) 1 (tk 321)] ⟨[],[],[],[]⟩ [(129,.int .i64 1,false)]:=
         ⟨h,rfl,rfl,rfl,rfl,consC (at_s rfl (by decide) _) (consC (peek_s (by decide) (.inl rfl) _) (consC (tree_s he (.inr rfl) rfl ys_one k2 (.inl rfl) (by decide)) (consC (at_s rfl (by decide) _) (consC (miss_s k6 _) (consC (take_s k7 rfl _) (consC (tree_s he (.inr rfl) rfl ys_one k8 (.inl rfl) (by decide)) nilC)))))),fun _ hx=>(by cases hx),noApp,noPut,(eqC (kind_tok (i:=0) (by decide) k1) eqN),noPos⟩
        exact D.path (.inr rfl) (args:=[]) (args':=[]) (fun _ _ => .nil) (fin := .tree (.nd (.int .i64 41) (.string ⟨#[]⟩) (.int .u64 0) (tk 136) [.ab (tk 256) (tk 257) (tk 258) (tk 259) 1,.ab (tk 260) (tk 261) (tk 262) (tk 263) 9]) 3) (by kernel_rfl)
     |false=>
      rw[k7,if_neg (by decide)] at hr
      cases k8:(Tr.mk t5k t5x t5n t5p t5c).kind==34 with
      |true=>
       rw[k8,Bool.true_or,if_pos rfl] at hr
       cases hr
       have D:Told b E (mkN E.len hd w.heap.size [l,m4] [.mk t5k t5x t5n t5p t5c] [] []) hd w [evAt 0 (tk 321),evPeek 0 (tk 129) (tk 321),evTree 37 [.int .i64 1] 0 1 (tk 256) 0 (tk 321),evAt 1 (tk 321),evMiss wEq 1 (tk 321),evMiss wArrow 1 (tk 321)] ⟨[],[],[],[]⟩ [(129,.int .i64 1,false),(256,.int .i64 34,true)]:=
        ⟨h,rfl,rfl,rfl,rfl,consC (at_s rfl (by decide) _) (consC (peek_s (by decide) (.inl rfl) _) (consC (tree_s he (.inr rfl) rfl ys_one k2 (.inl rfl) (by decide)) (consC (at_s rfl (by decide) _) (consC (miss_s k6 _) (consC (miss_s k7 _) nilC))))),fun _ hx=>(by cases hx),noApp,noPut,(eqC (kind_tok (i:=0) (by decide) k1) (eqC (tree_tok (c:=0) (by decide) k8) eqN)),noPos⟩
       exact D.path (.inr rfl) (args:=[]) (args':=[]) (fun _ _ => .nil) (fin := .tree (.nd (.int .i64 24) (.string ⟨#[]⟩) (.int .u64 0) (tk 128) [.ab (tk 256) (tk 257) (tk 258) (tk 259) 1]) 1) (by kernel_rfl)
      |false=>
       rw[k8,Bool.false_or] at hr
       cases k9:(Tr.mk t5k t5x t5n t5p t5c).kind==39 with
       |true=>
        rw[k9,if_pos rfl] at hr
        cases hr
        have D:Told b E (mkN E.len hd w.heap.size [l,m4] [.mk t5k t5x t5n t5p t5c] [] []) hd w [evAt 0 (tk 321),evPeek 0 (tk 129) (tk 321),evTree 37 [.int .i64 1] 0 1 (tk 256) 0 (tk 321),evAt 1 (tk 321),evMiss wEq 1 (tk 321),evMiss wArrow 1 (tk 321)] ⟨[],[],[],[]⟩ [(129,.int .i64 1,false),(256,.int .i64 34,false),(256,.int .i64 39,true)]:=
         ⟨h,rfl,rfl,rfl,rfl,consC (at_s rfl (by decide) _) (consC (peek_s (by decide) (.inl rfl) _) (consC (tree_s he (.inr rfl) rfl ys_one k2 (.inl rfl) (by decide)) (consC (at_s rfl (by decide) _) (consC (miss_s k6 _) (consC (miss_s k7 _) nilC))))),fun _ hx=>(by cases hx),noApp,noPut,(eqC (kind_tok (i:=0) (by decide) k1) (eqC (tree_tok (c:=0) (by decide) k8) (eqC (tree_tok (c:=0) (by decide) k9) eqN))),noPos⟩
        exact D.path (.inr rfl) (args:=[]) (args':=[]) (fun _ _ => .nil) (fin := .tree (.nd (.int .i64 24) (.string ⟨#[]⟩) (.int .u64 0) (tk 128) [.ab (tk 256) (tk 257) (tk 258) (tk 259) 1]) 1) (by kernel_rfl)
       |false=>
        rw[k9,if_neg (by decide)] at hr
        cases hr
        have D:Told b E (mkN E.len hd w.heap.size [l,m4] [.mk t5k t5x t5n t5p t5c] [] []) hd w [evAt 0 (tk 321),evPeek 0 (tk 129) (tk 321),evTree 37 [.int .i64 1] 0 1 (tk 256) 0 (tk 321),evAt 1 (tk 321),evMiss wEq 1 (tk 321),evMiss wArrow 1 (tk 321)] ⟨[],[],[],[]⟩ [(129,.int .i64 1,false),(256,.int .i64 34,false),(256,.int .i64 39,false)]:=
         ⟨h,rfl,rfl,rfl,rfl,consC (at_s rfl (by decide) _) (consC (peek_s (by decide) (.inl rfl) _) (consC (tree_s he (.inr rfl) rfl ys_one k2 (.inl rfl) (by decide)) (consC (at_s rfl (by decide) _) (consC (miss_s k6 _) (consC (miss_s k7 _) nilC))))),fun _ hx=>(by cases hx),noApp,noPut,(eqC (kind_tok (i:=0) (by decide) k1) (eqC (tree_tok (c:=0) (by decide) k8) (eqC (tree_tok (c:=0) (by decide) k9) eqN))),noPos⟩
        exact D.path (.inr rfl) (args:=[]) (args':=[]) (fun _ _ => .nil) (fin := .pan (tk 128)) (by kernel_rfl)
theorem nxtS {N:SEnv}{i j:Nat}(h:∃ t,N.L i=t :: N.L j):∀ x ∈ [(i,j)],∃ t,N.L x.1=t :: N.L x.2:=fun x hx=>by
 obtain rfl:=List.mem_singleton.1 hx
 exact h
theorem kind_cons {l:List Tok}{n:Int}(hn:n≠0)(h:(kindP l==n)=true):∃ t,l=t :: l.tail:=by
 cases l with
 |nil=>simp[kindP] at h;omega
 |cons t l=>exact⟨t,rfl⟩
theorem eqB_refl:∀ l:List UInt8,eqB l l=true
 | []=>rfl
 |a :: l=>by
  unfold eqB
  rw[eqB_refl l,Bool.and_true]
  exact Nat.beq_refl _
theorem eqB_list (a b:List UInt8):eqB a b=(a==b):=by
 cases h:eqB a b with
 |true=>rw[eqB_ok h];simp
 |false=>
  symm
  rw[beq_eq_false_iff_ne]
  rintro rfl
  rw[eqB_refl] at h
  cases h
theorem str_tok {N:SEnv}{i:Nat}{x:List UInt8}{r:Bool}(hi:i<16)(h:(textP (N.L i)==x)=r):∃ v,tokVal N (130+8 * i)=some v∧SameV v (str x) r:=by
 refine⟨.string ⟨(headT (N.L i)).text.toArray⟩,?_,?_⟩
 ·rw[show 130+8 * i=128+8 * i+2 by omega,listTok N hi (by decide)];rfl
 ·rw[textP_head] at h
  have h2:eqB (headT (N.L i)).text x=r:=by rw[eqB_list];exact h
  subst h2
  exact .str _ _
end Prs
end Go.Proofs.YtcbkeecabcbogaaGreatDoor
