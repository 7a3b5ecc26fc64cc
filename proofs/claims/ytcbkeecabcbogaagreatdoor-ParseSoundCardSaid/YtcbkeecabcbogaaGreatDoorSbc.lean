/- Contract of one, a case of a select. (Printed by gen_one.py. -/
import Derived.Test.YtcbkeecabcbogaaGreatDoorSbb
set_option linter.unusedSimpArgs false
set_option linter.unusedVariables false
namespace Go.Proofs.YtcbkeecabcbogaaGreatDoor
open Go.RowKit
namespace Prs
open Ev
def Qp0 (d:Nat)(l:List Tok):Int:=if isP Xh l then (d:Int)+1 else (d:Int)
def mapE {α β γ:Type}(r:Except Nat ((α×β)×γ)):Except Nat (α×γ):=match r with
 | .error p => .error p
 | .ok ((t,_),l) => .ok (t,l)
def OneC (b:Nat)(E:Env)(hd:Bool)(f:Nat):Prop:=∀ (l:List Tok) (w:World) (r:Except Nat ((Tr×Nat)×List Tok)) (g d:Nat),RdB b E w l hd→b<g→d≤1→(∃ fr:Nat×Nat,w.heap[g]? = some (.cells #[.int .i64 (d:Int)] 3 fr)∧(decide (fr.1≤0)&&decide (0<fr.2))=false)→Ux E.len f hd d l=some r→
 Calls Tryz.prog 74 #[rp b,.pointer (some ⟨g,0,none⟩)] w (OutD b E hd g (Qp0 d l) (mapE r) w)
theorem cvU {N:Va}{b:Nat}{n:Int}:∀ p u,AxN b N p→VR p (.int .i64 n) u→u=.int .i64 n:=fun p u _ h=>by cases h;rfl
theorem J5 {g:Nat}{d:Int}{len:Nat}{hd:Bool}{B:Nat}{ls:List (List Tok)}{ts:List Tr}{tss:List (List Tr)}{xs:List Int}{b:Nat}:∀ p,AxN b (Ro g d len hd B ls ts tss xs) p→VR p (tk 383) (.int .i64 d):=fun p hax=>hax.vr (show Xi (Ro g d len hd B ls ts tss xs) 383=some (.int .i64 d) from rfl)
theorem Uz {g:Nat}{d:Int}{len:Nat}{hd:Bool}{B:Nat}{ls:List (List Tok)}{ts:List Tr}{tss:List (List Tr)}{xs:List Int}{b:Nat}:∀ p u,AxN b (Ro g d len hd B ls ts tss xs) p→VR p (tk 383) u→u=.int .i64 d:=fun p u hax h=>hax.val (show Xi (Ro g d len hd B ls ts tss xs) 383=some (.int .i64 d) from rfl) h
def Qsv (t u:Nat)(own:Bool):Xt:=⟨1000000,[],0,.bool true,.kid t u own⟩
theorem kid_s {b:Nat}{E:Env}{N:Va}{w0:World}{t u:Nat}{own:Bool}(h:∃ l,(N.T t).kids=N.T u::l)(hu:u<16):Uc b E N w0 (Qsv t u own):=⟨h,hu⟩
set_option maxRecDepth 20000 in
theorem one_c {b f:Nat}{E:Env}{hd:Bool}(he:Reads b E hd 37 #[rp b,.int .i64 1] (Xj E.len f 1 hd))(hb:Reads b E hd 100 #[rp b] (Rj E.len f hd))(hu:Reads b E hd 64 #[rp b] (Vg E.len f hd)):OneC b E hd (f+1):=by
 intro l w r g d h hg hd1 hcell hr;rw[Ux] at hr;unfold Qp0;cases k0:isP Xh l with
 |true=>
  rw[k0,if_pos rfl] at hr;rw[if_pos rfl];rcases (by omega:d=0∨d=1) with rfl|rfl
  ·
   rw[if_neg Dd] at hr;cases k1:Rj E.len f hd l.tail with
   |none=>rw[k1] at hr;cases hr
   |some y2=>
    rw[k1] at hr;cases y2 with
    |error pl3=>
     (try dsimp only [andThen,ok,bad] at hr)
     cases hr;have D:Yq b E (Ro g 0 E.len hd w.heap.size [l,l.tail] [] [] [(pl3:Int)]) hd w [Zb 0 (tk 321),Vk Xh 0 true (tk 321),Qx Xh 0 1 (tk 321),Xq 100 [] 1 2 (tk 321)] ⟨[],[],[],[322]⟩ [] (.int .i64 0) 0:=⟨⟨h,rfl,rfl,rfl,rfl,Qa (Zc rfl Dd _) (Qa (Vm k0 _) (Qa (Qy k0 rfl _) (Qa (Zf hb (.inr rfl) rfl Qv k1 Dd rfl) Q7))),Dx,Ql,Qk,eqN,(V6 ⟨pl3,rfl⟩ Qj)⟩,hg,hcell,(fun _ _ => .int _ _)⟩;exact D.path (cv1:=.int .i64 1) (d1:=1) cvU (fin:=.pan (tk 322)) Dk
    |ok y2=>
     obtain⟨⟨t4k,t4x,t4n,t4p,t4c⟩,m3⟩:=y2;(try dsimp only [andThen,ok,bad] at hr)
     cases hr;have D:Yq b E (Ro g 0 E.len hd w.heap.size [l,l.tail,m3] [.mk t4k t4x t4n t4p t4c] [] []) hd w [Zb 0 (tk 321),Vk Xh 0 true (tk 321),Qx Xh 0 1 (tk 321),Qm 100 [] 1 2 (tk 256) 0 (tk 321)] ⟨[],[],[],[]⟩ [] (.int .i64 0) 0:=⟨⟨h,rfl,rfl,rfl,rfl,Qa (Zc rfl Dd _) (Qa (Vm k0 _) (Qa (Qy k0 rfl _) (Qa (Qs hb (.inr rfl) rfl Qv k1 (.inl rfl) Dd) Q7))),Dx,Ql,Qk,eqN,Qj⟩,hg,hcell,(fun _ _ => .int _ _)⟩;exact D.path (cv1:=.int .i64 1) (d1:=1) cvU (fin:=.tree (.nd (.int .i64 45) (.string ⟨#[]⟩) (.int .u64 0) (tk 128) [.ab (tk 256) (tk 257) (tk 258) (tk 259) 1]) 2) Dk
  ·
   rw[if_pos Dd] at hr;cases hr;have D:Yq b E (Ro g 1 E.len hd w.heap.size [l] [] [] []) hd w [Zb 0 (tk 321),Vk Xh 0 true (tk 321),Qan 0 (tk 321)] ⟨[],[],[],[]⟩ [] (.int .i64 1) 1:=⟨⟨h,rfl,rfl,rfl,rfl,Qa (Zc rfl Dd _) (Qa (Vm k0 _) (Qa (Qb3 rfl Dd _) Q7)),Dx,Ql,Qk,eqN,Qj⟩,hg,hcell,(fun _ _ => .int _ _)⟩;exact D.path (cv1:=.int .i64 2) (d1:=2) cvU (fin:=.pan (tk 128)) Dk
 |false=>
  rw[k0,if_neg Dd] at hr;rw[if_neg Dd];(try unfold Ub at hr)
  cases k1:isP Tn l with
  |true=>
   rw[k1,if_pos rfl] at hr;(try dsimp only [andThen,ok,bad] at hr)
   cases k2:Xn l.tail==1 with
   |true=>
    rw[k2,Bool.true_and] at hr;cases k3:Je Gy l.tail with
    |true=>
     rw[k3,if_pos rfl] at hr;(try unfold U8 at hr)
     cases k4:Xn l.tail==1 with
     |true=>
      rw[k4,if_pos rfl] at hr;(try dsimp only [andThen,ok,bad] at hr)
      simp only[Q5,Xc] at hr;(try unfold Ub at hr)
      cases k5:isP Gy l.tail.tail with
      |true=>
       rw[k5,if_pos rfl] at hr;(try dsimp only [andThen,ok,bad] at hr)
       (try unfold Ub at hr)
       cases k6:isP Xu l.tail.tail.tail with
       |true=>
        rw[k6,if_pos rfl] at hr;(try dsimp only [andThen,ok,bad] at hr)
        cases k7:Vg E.len f hd l.tail.tail.tail.tail with
        |none=>rw[k7] at hr;cases hr
        |some y8=>
         rw[k7] at hr;cases y8 with
         |error pl9=>
          (try dsimp only [andThen,ok,bad] at hr)
          cases hr;have D:Yq b E (Ro g (d:Int) E.len hd w.heap.size [l,l.tail,l.tail.tail,l.tail.tail.tail,l.tail.tail.tail.tail] [] [] [(pl9:Int)]) hd w [Zb 0 (tk 321),Vk Xh 0 false (tk 321),Xo Tn 0 1 (tk 321),Qp 1 (tk 137) (tk 321),Xz Gy 1 true (tk 321),Zz 1 2 (tk 321),Xo Gy 2 3 (tk 321),Xo Xu 3 4 (tk 321),Xq 64 [] 4 2 (tk 321)] ⟨[],[],[],[322]⟩ [(137,.int .i64 1,true)] (tk 383) (d:Int):=⟨⟨h,rfl,rfl,rfl,rfl,Qa (Zc rfl Dd _) (Qa (Vm k0 _) (Qa (Xr rfl Dd k1 rfl _) (Qa (Qq Dd (.inl rfl) _) (Qa (X6 k3 _) (Qa (Z7 Dd k4 rfl _) (Qa (Xr rfl Dd k5 rfl _) (Qa (Xr rfl Dd k6 rfl _) (Qa (Zf hu (.inr rfl) rfl Qv k7 Dd rfl) Q7)))))))),Dx,Ql,Qk,(eqC (Qg (i:=1) Dd k2) eqN),(V6 ⟨pl9,rfl⟩ Qj)⟩,hg,hcell,J5⟩;exact D.path (cv1:=tk 383) (d1:=(d:Int)) Uz (fin:=.pan (tk 322)) Dk
         |ok y8=>
          obtain⟨⟨t10k,t10x,t10n,t10p,t10c⟩,m9⟩:=y8;(try dsimp only [andThen,ok,bad] at hr)
          cases k11:Rj E.len f hd m9 with
          |none=>rw[k11] at hr;cases hr
          |some y12=>
           rw[k11] at hr;cases y12 with
           |error pl13=>
            (try dsimp only [andThen,ok,bad] at hr)
            cases hr;have D:Yq b E (Ro g (d:Int) E.len hd w.heap.size [l,l.tail,l.tail.tail,l.tail.tail.tail,l.tail.tail.tail.tail,m9] [.mk t10k t10x t10n t10p t10c] [] [(pl13:Int)]) hd w [Zb 0 (tk 321),Vk Xh 0 false (tk 321),Xo Tn 0 1 (tk 321),Qp 1 (tk 137) (tk 321),Xz Gy 1 true (tk 321),Zz 1 2 (tk 321),Xo Gy 2 3 (tk 321),Xo Xu 3 4 (tk 321),Qm 64 [] 4 5 (tk 256) 0 (tk 321),Xq 100 [] 5 2 (tk 321)] ⟨[],[],[],[322]⟩ [(137,.int .i64 1,true)] (tk 383) (d:Int):=⟨⟨h,rfl,rfl,rfl,rfl,Qa (Zc rfl Dd _) (Qa (Vm k0 _) (Qa (Xr rfl Dd k1 rfl _) (Qa (Qq Dd (.inl rfl) _) (Qa (X6 k3 _) (Qa (Z7 Dd k4 rfl _) (Qa (Xr rfl Dd k5 rfl _) (Qa (Xr rfl Dd k6 rfl _) (Qa (Qs hu (.inr rfl) rfl Qv k7 (.inl rfl) Dd) (Qa (Zf hb (.inr rfl) rfl Qv k11 Dd rfl) Q7))))))))),Dx,Ql,Qk,(eqC (Qg (i:=1) Dd k2) eqN),(V6 ⟨pl13,rfl⟩ Qj)⟩,hg,hcell,J5⟩;exact D.path (cv1:=tk 383) (d1:=(d:Int)) Uz (fin:=.pan (tk 322)) Dk
           |ok y12=>
            obtain⟨⟨t14k,t14x,t14n,t14p,t14c⟩,m13⟩:=y12;(try dsimp only [andThen,ok,bad] at hr)
            cases hr;have D:Yq b E (Ro g (d:Int) E.len hd w.heap.size [l,l.tail,l.tail.tail,l.tail.tail.tail,l.tail.tail.tail.tail,m9,m13] [.mk t10k t10x t10n t10p t10c,.mk t14k t14x t14n t14p t14c] [] []) hd w [Zb 0 (tk 321),Vk Xh 0 false (tk 321),Xo Tn 0 1 (tk 321),Qp 1 (tk 137) (tk 321),Xz Gy 1 true (tk 321),Zz 1 2 (tk 321),Xo Gy 2 3 (tk 321),Xo Xu 3 4 (tk 321),Qm 64 [] 4 5 (tk 256) 0 (tk 321),Qm 100 [] 5 6 (tk 260) 1 (tk 321)] ⟨[],[],[],[]⟩ [(137,.int .i64 1,true)] (tk 383) (d:Int):=⟨⟨h,rfl,rfl,rfl,rfl,Qa (Zc rfl Dd _) (Qa (Vm k0 _) (Qa (Xr rfl Dd k1 rfl _) (Qa (Qq Dd (.inl rfl) _) (Qa (X6 k3 _) (Qa (Z7 Dd k4 rfl _) (Qa (Xr rfl Dd k5 rfl _) (Qa (Xr rfl Dd k6 rfl _) (Qa (Qs hu (.inr rfl) rfl Qv k7 (.inl rfl) Dd) (Qa (Qs hb (.inr rfl) rfl Qv k11 (.inl rfl) Dd) Q7))))))))),Dx,Ql,Qk,(eqC (Qg (i:=1) Dd k2) eqN),Qj⟩,hg,hcell,J5⟩;exact D.path (cv1:=tk 383) (d1:=(d:Int)) Uz (fin:=.tree (.nd (.int .i64 43) (tk 138) (.int .u64 0) (tk 128) [.ab (tk 256) (tk 257) (tk 258) (tk 259) 1,.ab (tk 260) (tk 261) (tk 262) (tk 263) 9]) 6) Dk
       |false=>
        rw[k6,if_neg Dd] at hr;(try dsimp only [andThen,ok,bad] at hr)
        cases hr;have D:Yq b E (Ro g (d:Int) E.len hd w.heap.size [l,l.tail,l.tail.tail,l.tail.tail.tail] [] [] []) hd w [Zb 0 (tk 321),Vk Xh 0 false (tk 321),Xo Tn 0 1 (tk 321),Qp 1 (tk 137) (tk 321),Xz Gy 1 true (tk 321),Zz 1 2 (tk 321),Xo Gy 2 3 (tk 321),Lj Xu 3 (tk 321)] ⟨[],[],[],[]⟩ [(137,.int .i64 1,true)] (tk 383) (d:Int):=⟨⟨h,rfl,rfl,rfl,rfl,Qa (Zc rfl Dd _) (Qa (Vm k0 _) (Qa (Xr rfl Dd k1 rfl _) (Qa (Qq Dd (.inl rfl) _) (Qa (X6 k3 _) (Qa (Z7 Dd k4 rfl _) (Qa (Xr rfl Dd k5 rfl _) (Qa (Eg rfl Dd k6 _) Q7))))))),Dx,Ql,Qk,(eqC (Qg (i:=1) Dd k2) eqN),Qj⟩,hg,hcell,J5⟩;exact D.path (cv1:=tk 383) (d1:=(d:Int)) Uz (fin:=.pan (tk 152)) Dk
      |false=>
       rw[k5,if_neg Dd] at hr;(try dsimp only [andThen,ok,bad] at hr)
       cases hr;have D:Yq b E (Ro g (d:Int) E.len hd w.heap.size [l,l.tail,l.tail.tail] [] [] []) hd w [Zb 0 (tk 321),Vk Xh 0 false (tk 321),Xo Tn 0 1 (tk 321),Qp 1 (tk 137) (tk 321),Xz Gy 1 true (tk 321),Zz 1 2 (tk 321),Lj Gy 2 (tk 321)] ⟨[],[],[],[]⟩ [(137,.int .i64 1,true)] (tk 383) (d:Int):=⟨⟨h,rfl,rfl,rfl,rfl,Qa (Zc rfl Dd _) (Qa (Vm k0 _) (Qa (Xr rfl Dd k1 rfl _) (Qa (Qq Dd (.inl rfl) _) (Qa (X6 k3 _) (Qa (Z7 Dd k4 rfl _) (Qa (Eg rfl Dd k5 _) Q7)))))),Dx,Ql,Qk,(eqC (Qg (i:=1) Dd k2) eqN),Qj⟩,hg,hcell,J5⟩;exact D.path (cv1:=tk 383) (d1:=(d:Int)) Uz (fin:=.pan (tk 144)) Dk
     |false=>
      rw[k4,if_neg Dd] at hr;(try dsimp only [andThen,ok,bad] at hr)
      cases hr;have D:Yq b E (Ro g (d:Int) E.len hd w.heap.size [l,l.tail] [] [] []) hd w [Zb 0 (tk 321),Vk Xh 0 false (tk 321),Xo Tn 0 1 (tk 321),Qp 1 (tk 137) (tk 321),Xz Gy 1 true (tk 321),Qal 1 (tk 321)] ⟨[],[],[],[]⟩ [(137,.int .i64 1,true)] (tk 383) (d:Int):=⟨⟨h,rfl,rfl,rfl,rfl,Qa (Zc rfl Dd _) (Qa (Vm k0 _) (Qa (Xr rfl Dd k1 rfl _) (Qa (Qq Dd (.inl rfl) _) (Qa (X6 k3 _) (Qa (Qbx rfl Dd k4 _) Q7))))),Dx,Ql,Qk,(eqC (Qg (i:=1) Dd k2) eqN),Qj⟩,hg,hcell,J5⟩;exact D.path (cv1:=tk 383) (d1:=(d:Int)) Uz (fin:=.pan (tk 136)) Dk
    |false=>
     rw[k3,if_neg Dd] at hr;cases k4:Xj E.len f 1 hd l.tail with
     |none=>rw[k4] at hr;cases hr
     |some y5=>
      rw[k4] at hr;cases y5 with
      |error pl6=>
       (try dsimp only [andThen,ok,bad] at hr)
       cases hr;have D:Yq b E (Ro g (d:Int) E.len hd w.heap.size [l,l.tail] [] [] [(pl6:Int)]) hd w [Zb 0 (tk 321),Vk Xh 0 false (tk 321),Xo Tn 0 1 (tk 321),Qp 1 (tk 137) (tk 321),Xz Gy 1 false (tk 321),Xq 37 [.int .i64 1] 1 2 (tk 321)] ⟨[],[],[],[322]⟩ [(137,.int .i64 1,true)] (tk 383) (d:Int):=⟨⟨h,rfl,rfl,rfl,rfl,Qa (Zc rfl Dd _) (Qa (Vm k0 _) (Qa (Xr rfl Dd k1 rfl _) (Qa (Qq Dd (.inl rfl) _) (Qa (X6 k3 _) (Qa (Zf he (.inr rfl) rfl Qw k4 Dd rfl) Q7))))),Dx,Ql,Qk,(eqC (Qg (i:=1) Dd k2) eqN),(V6 ⟨pl6,rfl⟩ Qj)⟩,hg,hcell,J5⟩;exact D.path (cv1:=tk 383) (d1:=(d:Int)) Uz (fin:=.pan (tk 322)) Dk
      |ok y5=>
       obtain⟨⟨t7k,t7x,t7n,t7p,t7c⟩,m6⟩:=y5;(try dsimp only [andThen,ok,bad] at hr)
       cases k8:(Tr.mk t7k t7x t7n t7p t7c).kind==39 with
       |true=>
        rw[k8,Bool.true_and] at hr;cases k9:isP Xu m6 with
        |true=>
         rw[k9] at hr;rw[Bool.not_true,if_neg Dd] at hr;(try unfold Ub at hr)
         rw[if_pos rfl] at hr;(try dsimp only [andThen,ok,bad] at hr)
         cases k10:Xj E.len f 1 hd m6.tail with
         |none=>rw[k10] at hr;cases hr
         |some y11=>
          rw[k10] at hr;cases y11 with
          |error pl12=>
           (try dsimp only [andThen,ok,bad] at hr)
           cases hr;have D:Yq b E (Ro g (d:Int) E.len hd w.heap.size [l,l.tail,m6,m6.tail] [.mk t7k t7x t7n t7p t7c] [] [(pl12:Int)]) hd w [Zb 0 (tk 321),Vk Xh 0 false (tk 321),Xo Tn 0 1 (tk 321),Qp 1 (tk 137) (tk 321),Xz Gy 1 false (tk 321),Qm 37 [.int .i64 1] 1 2 (tk 256) 0 (tk 321),Vk Xu 2 true (tk 321),Xo Xu 2 3 (tk 321),Xq 37 [.int .i64 1] 3 2 (tk 321)] ⟨[],[],[],[322]⟩ [(137,.int .i64 1,true),(256,.int .i64 39,true)] (tk 383) (d:Int):=⟨⟨h,rfl,rfl,rfl,rfl,Qa (Zc rfl Dd _) (Qa (Vm k0 _) (Qa (Xr rfl Dd k1 rfl _) (Qa (Qq Dd (.inl rfl) _) (Qa (X6 k3 _) (Qa (Qs he (.inr rfl) rfl Qw k4 (.inl rfl) Dd) (Qa (Vm k9 _) (Qa (Xr rfl Dd k9 rfl _) (Qa (Zf he (.inr rfl) rfl Qw k10 Dd rfl) Q7)))))))),Dx,Ql,Qk,(eqC (Qg (i:=1) Dd k2) (eqC (Xa (c:=0) Dd k8) eqN)),(V6 ⟨pl12,rfl⟩ Qj)⟩,hg,hcell,J5⟩;exact D.path (cv1:=tk 383) (d1:=(d:Int)) Uz (fin:=.pan (tk 322)) Dk
          |ok y11=>
           obtain⟨⟨t13k,t13x,t13n,t13p,t13c⟩,m12⟩:=y11;(try dsimp only [andThen,ok,bad] at hr)
           cases k14:Rj E.len f hd m12 with
           |none=>rw[k14] at hr;cases hr
           |some y15=>
            rw[k14] at hr;cases y15 with
            |error pl16=>
             (try dsimp only [andThen,ok,bad] at hr)
             cases hr;have D:Yq b E (Ro g (d:Int) E.len hd w.heap.size [l,l.tail,m6,m6.tail,m12] [.mk t7k t7x t7n t7p t7c,.mk t13k t13x t13n t13p t13c] [] [(pl16:Int)]) hd w [Zb 0 (tk 321),Vk Xh 0 false (tk 321),Xo Tn 0 1 (tk 321),Qp 1 (tk 137) (tk 321),Xz Gy 1 false (tk 321),Qm 37 [.int .i64 1] 1 2 (tk 256) 0 (tk 321),Vk Xu 2 true (tk 321),Xo Xu 2 3 (tk 321),Qm 37 [.int .i64 1] 3 4 (tk 260) 1 (tk 321),Xq 100 [] 4 2 (tk 321)] ⟨[],[],[],[322]⟩ [(137,.int .i64 1,true),(256,.int .i64 39,true)] (tk 383) (d:Int):=⟨⟨h,rfl,rfl,rfl,rfl,Qa (Zc rfl Dd _) (Qa (Vm k0 _) (Qa (Xr rfl Dd k1 rfl _) (Qa (Qq Dd (.inl rfl) _) (Qa (X6 k3 _) (Qa (Qs he (.inr rfl) rfl Qw k4 (.inl rfl) Dd) (Qa (Vm k9 _) (Qa (Xr rfl Dd k9 rfl _) (Qa (Qs he (.inr rfl) rfl Qw k10 (.inl rfl) Dd) (Qa (Zf hb (.inr rfl) rfl Qv k14 Dd rfl) Q7))))))))),Dx,Ql,Qk,(eqC (Qg (i:=1) Dd k2) (eqC (Xa (c:=0) Dd k8) eqN)),(V6 ⟨pl16,rfl⟩ Qj)⟩,hg,hcell,J5⟩;exact D.path (cv1:=tk 383) (d1:=(d:Int)) Uz (fin:=.pan (tk 322)) Dk
            |ok y15=>
             obtain⟨⟨t17k,t17x,t17n,t17p,t17c⟩,m16⟩:=y15;(try dsimp only [andThen,ok,bad] at hr)
             cases hr;have D:Yq b E (Ro g (d:Int) E.len hd w.heap.size [l,l.tail,m6,m6.tail,m12,m16] [.mk t7k t7x t7n t7p t7c,.mk t13k t13x t13n t13p t13c,.mk t17k t17x t17n t17p t17c] [] []) hd w [Zb 0 (tk 321),Vk Xh 0 false (tk 321),Xo Tn 0 1 (tk 321),Qp 1 (tk 137) (tk 321),Xz Gy 1 false (tk 321),Qm 37 [.int .i64 1] 1 2 (tk 256) 0 (tk 321),Vk Xu 2 true (tk 321),Xo Xu 2 3 (tk 321),Qm 37 [.int .i64 1] 3 4 (tk 260) 1 (tk 321),Qm 100 [] 4 5 (tk 264) 2 (tk 321)] ⟨[],[],[],[]⟩ [(137,.int .i64 1,true),(256,.int .i64 39,true)] (tk 383) (d:Int):=⟨⟨h,rfl,rfl,rfl,rfl,Qa (Zc rfl Dd _) (Qa (Vm k0 _) (Qa (Xr rfl Dd k1 rfl _) (Qa (Qq Dd (.inl rfl) _) (Qa (X6 k3 _) (Qa (Qs he (.inr rfl) rfl Qw k4 (.inl rfl) Dd) (Qa (Vm k9 _) (Qa (Xr rfl Dd k9 rfl _) (Qa (Qs he (.inr rfl) rfl Qw k10 (.inl rfl) Dd) (Qa (Qs hb (.inr rfl) rfl Qv k14 (.inl rfl) Dd) Q7))))))))),Dx,Ql,Qk,(eqC (Qg (i:=1) Dd k2) (eqC (Xa (c:=0) Dd k8) eqN)),Qj⟩,hg,hcell,J5⟩;exact D.path (cv1:=tk 383) (d1:=(d:Int)) Uz (fin:=.tree (.nd (.int .i64 44) (.string ⟨#[]⟩) (.int .u64 0) (tk 128) [.ab (tk 256) (tk 257) (tk 258) (tk 259) 1,.ab (tk 260) (tk 261) (tk 262) (tk 263) 9,.ab (tk 264) (tk 265) (tk 266) (tk 267) 17]) 5) Dk
        |false=>
         rw[k9] at hr;rw[Bool.not_false,if_pos rfl] at hr;cases t7c with
         |nil=>cases hr
         |cons u us=>
          dsimp only [Tr.kids] at hr;obtain⟨uk,ux,un,up,uc⟩:=u;cases k10:Rj E.len f hd m6 with
          |none=>rw[k10] at hr;cases hr
          |some y11=>
           rw[k10] at hr;cases y11 with
           |error pl12=>
            (try dsimp only [andThen,ok,bad] at hr)
            cases hr;have D:Yq b E (Ro g (d:Int) E.len hd w.heap.size [l,l.tail,m6] [.mk t7k t7x t7n t7p (.mk uk ux un up uc::us),.mk uk ux un up uc] [] [(pl12:Int)]) hd w [Zb 0 (tk 321),Vk Xh 0 false (tk 321),Xo Tn 0 1 (tk 321),Qp 1 (tk 137) (tk 321),Xz Gy 1 false (tk 321),Qm 37 [.int .i64 1] 1 2 (tk 256) 0 (tk 321),Vk Xu 2 false (tk 321),Qsv 0 1 false,Xq 100 [] 2 2 (tk 321)] ⟨[],[],[],[322]⟩ [(137,.int .i64 1,true),(256,.int .i64 39,true)] (tk 383) (d:Int):=⟨⟨h,rfl,rfl,rfl,rfl,Qa (Zc rfl Dd _) (Qa (Vm k0 _) (Qa (Xr rfl Dd k1 rfl _) (Qa (Qq Dd (.inl rfl) _) (Qa (X6 k3 _) (Qa (Qs he (.inr rfl) rfl Qw k4 (.inl rfl) Dd) (Qa (Vm k9 _) (Qa (kid_s ⟨us,rfl⟩ Dd) (Qa (Zf hb (.inr rfl) rfl Qv k10 Dd rfl) Q7)))))))),Dx,Ql,Qk,(eqC (Qg (i:=1) Dd k2) (eqC (Xa (c:=0) Dd k8) eqN)),(V6 ⟨pl12,rfl⟩ Qj)⟩,hg,hcell,J5⟩;exact D.path (cv1:=tk 383) (d1:=(d:Int)) Uz (fin:=.pan (tk 322)) Dk
           |ok y11=>
            obtain⟨⟨t13k,t13x,t13n,t13p,t13c⟩,m12⟩:=y11;(try dsimp only [andThen,ok,bad] at hr)
            cases hr;have D:Yq b E (Ro g (d:Int) E.len hd w.heap.size [l,l.tail,m6,m12] [.mk t7k t7x t7n t7p (.mk uk ux un up uc::us),.mk uk ux un up uc,.mk t13k t13x t13n t13p t13c] [] []) hd w [Zb 0 (tk 321),Vk Xh 0 false (tk 321),Xo Tn 0 1 (tk 321),Qp 1 (tk 137) (tk 321),Xz Gy 1 false (tk 321),Qm 37 [.int .i64 1] 1 2 (tk 256) 0 (tk 321),Vk Xu 2 false (tk 321),Qsv 0 1 true,Qm 100 [] 2 3 (tk 264) 2 (tk 321)] ⟨[],[],[],[]⟩ [(137,.int .i64 1,true),(256,.int .i64 39,true)] (tk 383) (d:Int):=⟨⟨h,rfl,rfl,rfl,rfl,Qa (Zc rfl Dd _) (Qa (Vm k0 _) (Qa (Xr rfl Dd k1 rfl _) (Qa (Qq Dd (.inl rfl) _) (Qa (X6 k3 _) (Qa (Qs he (.inr rfl) rfl Qw k4 (.inl rfl) Dd) (Qa (Vm k9 _) (Qa (kid_s ⟨us,rfl⟩ Dd) (Qa (Qs hb (.inr rfl) rfl Qv k10 (.inl rfl) Dd) Q7)))))))),Dx,Ql,Qk,(eqC (Qg (i:=1) Dd k2) (eqC (Xa (c:=0) Dd k8) eqN)),Qj⟩,hg,hcell,J5⟩;exact D.path (cv1:=tk 383) (d1:=(d:Int)) Uz (fin:=.tree (.nd (.int .i64 43) (.string ⟨#[]⟩) (.int .u64 0) (tk 128) [.ab (tk 260) (tk 261) (tk 262) (tk 263) 9,.ab (tk 264) (tk 265) (tk 266) (tk 267) 17]) 3) Dk
       |false=>
        rw[k8,Bool.false_and,if_neg Dd] at hr;(try unfold Ub at hr)
        cases k9:isP Xu m6 with
        |true=>
         rw[k9,if_pos rfl] at hr;(try dsimp only [andThen,ok,bad] at hr)
         cases k10:Xj E.len f 1 hd m6.tail with
         |none=>rw[k10] at hr;cases hr
         |some y11=>
          rw[k10] at hr;cases y11 with
          |error pl12=>
           (try dsimp only [andThen,ok,bad] at hr)
           cases hr;have D:Yq b E (Ro g (d:Int) E.len hd w.heap.size [l,l.tail,m6,m6.tail] [.mk t7k t7x t7n t7p t7c] [] [(pl12:Int)]) hd w [Zb 0 (tk 321),Vk Xh 0 false (tk 321),Xo Tn 0 1 (tk 321),Qp 1 (tk 137) (tk 321),Xz Gy 1 false (tk 321),Qm 37 [.int .i64 1] 1 2 (tk 256) 0 (tk 321),Xo Xu 2 3 (tk 321),Xq 37 [.int .i64 1] 3 2 (tk 321)] ⟨[],[],[],[322]⟩ [(137,.int .i64 1,true),(256,.int .i64 39,false)] (tk 383) (d:Int):=⟨⟨h,rfl,rfl,rfl,rfl,Qa (Zc rfl Dd _) (Qa (Vm k0 _) (Qa (Xr rfl Dd k1 rfl _) (Qa (Qq Dd (.inl rfl) _) (Qa (X6 k3 _) (Qa (Qs he (.inr rfl) rfl Qw k4 (.inl rfl) Dd) (Qa (Xr rfl Dd k9 rfl _) (Qa (Zf he (.inr rfl) rfl Qw k10 Dd rfl) Q7))))))),Dx,Ql,Qk,(eqC (Qg (i:=1) Dd k2) (eqC (Xa (c:=0) Dd k8) eqN)),(V6 ⟨pl12,rfl⟩ Qj)⟩,hg,hcell,J5⟩;exact D.path (cv1:=tk 383) (d1:=(d:Int)) Uz (fin:=.pan (tk 322)) Dk
          |ok y11=>
           obtain⟨⟨t13k,t13x,t13n,t13p,t13c⟩,m12⟩:=y11;(try dsimp only [andThen,ok,bad] at hr)
           cases k14:Rj E.len f hd m12 with
           |none=>rw[k14] at hr;cases hr
           |some y15=>
            rw[k14] at hr;cases y15 with
            |error pl16=>
             (try dsimp only [andThen,ok,bad] at hr)
             cases hr;have D:Yq b E (Ro g (d:Int) E.len hd w.heap.size [l,l.tail,m6,m6.tail,m12] [.mk t7k t7x t7n t7p t7c,.mk t13k t13x t13n t13p t13c] [] [(pl16:Int)]) hd w [Zb 0 (tk 321),Vk Xh 0 false (tk 321),Xo Tn 0 1 (tk 321),Qp 1 (tk 137) (tk 321),Xz Gy 1 false (tk 321),Qm 37 [.int .i64 1] 1 2 (tk 256) 0 (tk 321),Xo Xu 2 3 (tk 321),Qm 37 [.int .i64 1] 3 4 (tk 260) 1 (tk 321),Xq 100 [] 4 2 (tk 321)] ⟨[],[],[],[322]⟩ [(137,.int .i64 1,true),(256,.int .i64 39,false)] (tk 383) (d:Int):=⟨⟨h,rfl,rfl,rfl,rfl,Qa (Zc rfl Dd _) (Qa (Vm k0 _) (Qa (Xr rfl Dd k1 rfl _) (Qa (Qq Dd (.inl rfl) _) (Qa (X6 k3 _) (Qa (Qs he (.inr rfl) rfl Qw k4 (.inl rfl) Dd) (Qa (Xr rfl Dd k9 rfl _) (Qa (Qs he (.inr rfl) rfl Qw k10 (.inl rfl) Dd) (Qa (Zf hb (.inr rfl) rfl Qv k14 Dd rfl) Q7)))))))),Dx,Ql,Qk,(eqC (Qg (i:=1) Dd k2) (eqC (Xa (c:=0) Dd k8) eqN)),(V6 ⟨pl16,rfl⟩ Qj)⟩,hg,hcell,J5⟩;exact D.path (cv1:=tk 383) (d1:=(d:Int)) Uz (fin:=.pan (tk 322)) Dk
            |ok y15=>
             obtain⟨⟨t17k,t17x,t17n,t17p,t17c⟩,m16⟩:=y15;(try dsimp only [andThen,ok,bad] at hr)
             cases hr;have D:Yq b E (Ro g (d:Int) E.len hd w.heap.size [l,l.tail,m6,m6.tail,m12,m16] [.mk t7k t7x t7n t7p t7c,.mk t13k t13x t13n t13p t13c,.mk t17k t17x t17n t17p t17c] [] []) hd w [Zb 0 (tk 321),Vk Xh 0 false (tk 321),Xo Tn 0 1 (tk 321),Qp 1 (tk 137) (tk 321),Xz Gy 1 false (tk 321),Qm 37 [.int .i64 1] 1 2 (tk 256) 0 (tk 321),Xo Xu 2 3 (tk 321),Qm 37 [.int .i64 1] 3 4 (tk 260) 1 (tk 321),Qm 100 [] 4 5 (tk 264) 2 (tk 321)] ⟨[],[],[],[]⟩ [(137,.int .i64 1,true),(256,.int .i64 39,false)] (tk 383) (d:Int):=⟨⟨h,rfl,rfl,rfl,rfl,Qa (Zc rfl Dd _) (Qa (Vm k0 _) (Qa (Xr rfl Dd k1 rfl _) (Qa (Qq Dd (.inl rfl) _) (Qa (X6 k3 _) (Qa (Qs he (.inr rfl) rfl Qw k4 (.inl rfl) Dd) (Qa (Xr rfl Dd k9 rfl _) (Qa (Qs he (.inr rfl) rfl Qw k10 (.inl rfl) Dd) (Qa (Qs hb (.inr rfl) rfl Qv k14 (.inl rfl) Dd) Q7)))))))),Dx,Ql,Qk,(eqC (Qg (i:=1) Dd k2) (eqC (Xa (c:=0) Dd k8) eqN)),Qj⟩,hg,hcell,J5⟩;exact D.path (cv1:=tk 383) (d1:=(d:Int)) Uz (fin:=.tree (.nd (.int .i64 44) (.string ⟨#[]⟩) (.int .u64 0) (tk 128) [.ab (tk 256) (tk 257) (tk 258) (tk 259) 1,.ab (tk 260) (tk 261) (tk 262) (tk 263) 9,.ab (tk 264) (tk 265) (tk 266) (tk 267) 17]) 5) Dk
        |false=>
         rw[k9,if_neg Dd] at hr;(try dsimp only [andThen,ok,bad] at hr)
         cases hr;have D:Yq b E (Ro g (d:Int) E.len hd w.heap.size [l,l.tail,m6] [.mk t7k t7x t7n t7p t7c] [] []) hd w [Zb 0 (tk 321),Vk Xh 0 false (tk 321),Xo Tn 0 1 (tk 321),Qp 1 (tk 137) (tk 321),Xz Gy 1 false (tk 321),Qm 37 [.int .i64 1] 1 2 (tk 256) 0 (tk 321),Lj Xu 2 (tk 321)] ⟨[],[],[],[]⟩ [(137,.int .i64 1,true),(256,.int .i64 39,false)] (tk 383) (d:Int):=⟨⟨h,rfl,rfl,rfl,rfl,Qa (Zc rfl Dd _) (Qa (Vm k0 _) (Qa (Xr rfl Dd k1 rfl _) (Qa (Qq Dd (.inl rfl) _) (Qa (X6 k3 _) (Qa (Qs he (.inr rfl) rfl Qw k4 (.inl rfl) Dd) (Qa (Eg rfl Dd k9 _) Q7)))))),Dx,Ql,Qk,(eqC (Qg (i:=1) Dd k2) (eqC (Xa (c:=0) Dd k8) eqN)),Qj⟩,hg,hcell,J5⟩;exact D.path (cv1:=tk 383) (d1:=(d:Int)) Uz (fin:=.pan (tk 144)) Dk
   |false=>
    rw[k2,Bool.false_and,if_neg Dd] at hr;cases k3:Xj E.len f 1 hd l.tail with
    |none=>rw[k3] at hr;cases hr
    |some y4=>
     rw[k3] at hr;cases y4 with
     |error pl5=>
      (try dsimp only [andThen,ok,bad] at hr)
      cases hr;have D:Yq b E (Ro g (d:Int) E.len hd w.heap.size [l,l.tail] [] [] [(pl5:Int)]) hd w [Zb 0 (tk 321),Vk Xh 0 false (tk 321),Xo Tn 0 1 (tk 321),Qp 1 (tk 137) (tk 321),Xq 37 [.int .i64 1] 1 2 (tk 321)] ⟨[],[],[],[322]⟩ [(137,.int .i64 1,false)] (tk 383) (d:Int):=⟨⟨h,rfl,rfl,rfl,rfl,Qa (Zc rfl Dd _) (Qa (Vm k0 _) (Qa (Xr rfl Dd k1 rfl _) (Qa (Qq Dd (.inl rfl) _) (Qa (Zf he (.inr rfl) rfl Qw k3 Dd rfl) Q7)))),Dx,Ql,Qk,(eqC (Qg (i:=1) Dd k2) eqN),(V6 ⟨pl5,rfl⟩ Qj)⟩,hg,hcell,J5⟩;exact D.path (cv1:=tk 383) (d1:=(d:Int)) Uz (fin:=.pan (tk 322)) Dk
     |ok y4=>
      obtain⟨⟨t6k,t6x,t6n,t6p,t6c⟩,m5⟩:=y4;(try dsimp only [andThen,ok,bad] at hr)
      cases k7:(Tr.mk t6k t6x t6n t6p t6c).kind==39 with
      |true=>
       rw[k7,Bool.true_and] at hr;cases k8:isP Xu m5 with
       |true=>
        rw[k8] at hr;rw[Bool.not_true,if_neg Dd] at hr;(try unfold Ub at hr)
        rw[if_pos rfl] at hr;(try dsimp only [andThen,ok,bad] at hr)
        cases k9:Xj E.len f 1 hd m5.tail with
        |none=>rw[k9] at hr;cases hr
        |some y10=>
         rw[k9] at hr;cases y10 with
         |error pl11=>
          (try dsimp only [andThen,ok,bad] at hr)
          cases hr;have D:Yq b E (Ro g (d:Int) E.len hd w.heap.size [l,l.tail,m5,m5.tail] [.mk t6k t6x t6n t6p t6c] [] [(pl11:Int)]) hd w [Zb 0 (tk 321),Vk Xh 0 false (tk 321),Xo Tn 0 1 (tk 321),Qp 1 (tk 137) (tk 321),Qm 37 [.int .i64 1] 1 2 (tk 256) 0 (tk 321),Vk Xu 2 true (tk 321),Xo Xu 2 3 (tk 321),Xq 37 [.int .i64 1] 3 2 (tk 321)] ⟨[],[],[],[322]⟩ [(137,.int .i64 1,false),(256,.int .i64 39,true)] (tk 383) (d:Int):=⟨⟨h,rfl,rfl,rfl,rfl,Qa (Zc rfl Dd _) (Qa (Vm k0 _) (Qa (Xr rfl Dd k1 rfl _) (Qa (Qq Dd (.inl rfl) _) (Qa (Qs he (.inr rfl) rfl Qw k3 (.inl rfl) Dd) (Qa (Vm k8 _) (Qa (Xr rfl Dd k8 rfl _) (Qa (Zf he (.inr rfl) rfl Qw k9 Dd rfl) Q7))))))),Dx,Ql,Qk,(eqC (Qg (i:=1) Dd k2) (eqC (Xa (c:=0) Dd k7) eqN)),(V6 ⟨pl11,rfl⟩ Qj)⟩,hg,hcell,J5⟩;exact D.path (cv1:=tk 383) (d1:=(d:Int)) Uz (fin:=.pan (tk 322)) Dk
         |ok y10=>
          obtain⟨⟨t12k,t12x,t12n,t12p,t12c⟩,m11⟩:=y10;(try dsimp only [andThen,ok,bad] at hr)
          cases k13:Rj E.len f hd m11 with
          |none=>rw[k13] at hr;cases hr
          |some y14=>
           rw[k13] at hr;cases y14 with
           |error pl15=>
            (try dsimp only [andThen,ok,bad] at hr)
            cases hr;have D:Yq b E (Ro g (d:Int) E.len hd w.heap.size [l,l.tail,m5,m5.tail,m11] [.mk t6k t6x t6n t6p t6c,.mk t12k t12x t12n t12p t12c] [] [(pl15:Int)]) hd w [Zb 0 (tk 321),Vk Xh 0 false (tk 321),Xo Tn 0 1 (tk 321),Qp 1 (tk 137) (tk 321),Qm 37 [.int .i64 1] 1 2 (tk 256) 0 (tk 321),Vk Xu 2 true (tk 321),Xo Xu 2 3 (tk 321),Qm 37 [.int .i64 1] 3 4 (tk 260) 1 (tk 321),Xq 100 [] 4 2 (tk 321)] ⟨[],[],[],[322]⟩ [(137,.int .i64 1,false),(256,.int .i64 39,true)] (tk 383) (d:Int):=⟨⟨h,rfl,rfl,rfl,rfl,Qa (Zc rfl Dd _) (Qa (Vm k0 _) (Qa (Xr rfl Dd k1 rfl _) (Qa (Qq Dd (.inl rfl) _) (Qa (Qs he (.inr rfl) rfl Qw k3 (.inl rfl) Dd) (Qa (Vm k8 _) (Qa (Xr rfl Dd k8 rfl _) (Qa (Qs he (.inr rfl) rfl Qw k9 (.inl rfl) Dd) (Qa (Zf hb (.inr rfl) rfl Qv k13 Dd rfl) Q7)))))))),Dx,Ql,Qk,(eqC (Qg (i:=1) Dd k2) (eqC (Xa (c:=0) Dd k7) eqN)),(V6 ⟨pl15,rfl⟩ Qj)⟩,hg,hcell,J5⟩;exact D.path (cv1:=tk 383) (d1:=(d:Int)) Uz (fin:=.pan (tk 322)) Dk
           |ok y14=>
            obtain⟨⟨t16k,t16x,t16n,t16p,t16c⟩,m15⟩:=y14;(try dsimp only [andThen,ok,bad] at hr)
            cases hr;have D:Yq b E (Ro g (d:Int) E.len hd w.heap.size [l,l.tail,m5,m5.tail,m11,m15] [.mk t6k t6x t6n t6p t6c,.mk t12k t12x t12n t12p t12c,.mk t16k t16x t16n t16p t16c] [] []) hd w [Zb 0 (tk 321),Vk Xh 0 false (tk 321),Xo Tn 0 1 (tk 321),Qp 1 (tk 137) (tk 321),Qm 37 [.int .i64 1] 1 2 (tk 256) 0 (tk 321),Vk Xu 2 true (tk 321),Xo Xu 2 3 (tk 321),Qm 37 [.int .i64 1] 3 4 (tk 260) 1 (tk 321),Qm 100 [] 4 5 (tk 264) 2 (tk 321)] ⟨[],[],[],[]⟩ [(137,.int .i64 1,false),(256,.int .i64 39,true)] (tk 383) (d:Int):=⟨⟨h,rfl,rfl,rfl,rfl,Qa (Zc rfl Dd _) (Qa (Vm k0 _) (Qa (Xr rfl Dd k1 rfl _) (Qa (Qq Dd (.inl rfl) _) (Qa (Qs he (.inr rfl) rfl Qw k3 (.inl rfl) Dd) (Qa (Vm k8 _) (Qa (Xr rfl Dd k8 rfl _) (Qa (Qs he (.inr rfl) rfl Qw k9 (.inl rfl) Dd) (Qa (Qs hb (.inr rfl) rfl Qv k13 (.inl rfl) Dd) Q7)))))))),Dx,Ql,Qk,(eqC (Qg (i:=1) Dd k2) (eqC (Xa (c:=0) Dd k7) eqN)),Qj⟩,hg,hcell,J5⟩;exact D.path (cv1:=tk 383) (d1:=(d:Int)) Uz (fin:=.tree (.nd (.int .i64 44) (.string ⟨#[]⟩) (.int .u64 0) (tk 128) [.ab (tk 256) (tk 257) (tk 258) (tk 259) 1,.ab (tk 260) (tk 261) (tk 262) (tk 263) 9,.ab (tk 264) (tk 265) (tk 266) (tk 267) 17]) 5) Dk
       |false=>
        rw[k8] at hr;rw[Bool.not_false,if_pos rfl] at hr;cases t6c with
        |nil=>cases hr
        |cons u us=>
         dsimp only [Tr.kids] at hr;obtain⟨uk,ux,un,up,uc⟩:=u;cases k9:Rj E.len f hd m5 with
         |none=>rw[k9] at hr;cases hr
         |some y10=>
          rw[k9] at hr;cases y10 with
          |error pl11=>
           (try dsimp only [andThen,ok,bad] at hr)
           cases hr;have D:Yq b E (Ro g (d:Int) E.len hd w.heap.size [l,l.tail,m5] [.mk t6k t6x t6n t6p (.mk uk ux un up uc::us),.mk uk ux un up uc] [] [(pl11:Int)]) hd w [Zb 0 (tk 321),Vk Xh 0 false (tk 321),Xo Tn 0 1 (tk 321),Qp 1 (tk 137) (tk 321),Qm 37 [.int .i64 1] 1 2 (tk 256) 0 (tk 321),Vk Xu 2 false (tk 321),Qsv 0 1 false,Xq 100 [] 2 2 (tk 321)] ⟨[],[],[],[322]⟩ [(137,.int .i64 1,false),(256,.int .i64 39,true)] (tk 383) (d:Int):=⟨⟨h,rfl,rfl,rfl,rfl,Qa (Zc rfl Dd _) (Qa (Vm k0 _) (Qa (Xr rfl Dd k1 rfl _) (Qa (Qq Dd (.inl rfl) _) (Qa (Qs he (.inr rfl) rfl Qw k3 (.inl rfl) Dd) (Qa (Vm k8 _) (Qa (kid_s ⟨us,rfl⟩ Dd) (Qa (Zf hb (.inr rfl) rfl Qv k9 Dd rfl) Q7))))))),Dx,Ql,Qk,(eqC (Qg (i:=1) Dd k2) (eqC (Xa (c:=0) Dd k7) eqN)),(V6 ⟨pl11,rfl⟩ Qj)⟩,hg,hcell,J5⟩;exact D.path (cv1:=tk 383) (d1:=(d:Int)) Uz (fin:=.pan (tk 322)) Dk
          |ok y10=>
           obtain⟨⟨t12k,t12x,t12n,t12p,t12c⟩,m11⟩:=y10;(try dsimp only [andThen,ok,bad] at hr)
           cases hr;have D:Yq b E (Ro g (d:Int) E.len hd w.heap.size [l,l.tail,m5,m11] [.mk t6k t6x t6n t6p (.mk uk ux un up uc::us),.mk uk ux un up uc,.mk t12k t12x t12n t12p t12c] [] []) hd w [Zb 0 (tk 321),Vk Xh 0 false (tk 321),Xo Tn 0 1 (tk 321),Qp 1 (tk 137) (tk 321),Qm 37 [.int .i64 1] 1 2 (tk 256) 0 (tk 321),Vk Xu 2 false (tk 321),Qsv 0 1 true,Qm 100 [] 2 3 (tk 264) 2 (tk 321)] ⟨[],[],[],[]⟩ [(137,.int .i64 1,false),(256,.int .i64 39,true)] (tk 383) (d:Int):=⟨⟨h,rfl,rfl,rfl,rfl,Qa (Zc rfl Dd _) (Qa (Vm k0 _) (Qa (Xr rfl Dd k1 rfl _) (Qa (Qq Dd (.inl rfl) _) (Qa (Qs he (.inr rfl) rfl Qw k3 (.inl rfl) Dd) (Qa (Vm k8 _) (Qa (kid_s ⟨us,rfl⟩ Dd) (Qa (Qs hb (.inr rfl) rfl Qv k9 (.inl rfl) Dd) Q7))))))),Dx,Ql,Qk,(eqC (Qg (i:=1) Dd k2) (eqC (Xa (c:=0) Dd k7) eqN)),Qj⟩,hg,hcell,J5⟩;exact D.path (cv1:=tk 383) (d1:=(d:Int)) Uz (fin:=.tree (.nd (.int .i64 43) (.string ⟨#[]⟩) (.int .u64 0) (tk 128) [.ab (tk 260) (tk 261) (tk 262) (tk 263) 9,.ab (tk 264) (tk 265) (tk 266) (tk 267) 17]) 3) Dk
      |false=>
       rw[k7,Bool.false_and,if_neg Dd] at hr;(try unfold Ub at hr)
       cases k8:isP Xu m5 with
       |true=>
        rw[k8,if_pos rfl] at hr;(try dsimp only [andThen,ok,bad] at hr)
        cases k9:Xj E.len f 1 hd m5.tail with
        |none=>rw[k9] at hr;cases hr
        |some y10=>
         rw[k9] at hr;cases y10 with
         |error pl11=>
          (try dsimp only [andThen,ok,bad] at hr)
          cases hr;have D:Yq b E (Ro g (d:Int) E.len hd w.heap.size [l,l.tail,m5,m5.tail] [.mk t6k t6x t6n t6p t6c] [] [(pl11:Int)]) hd w [Zb 0 (tk 321),Vk Xh 0 false (tk 321),Xo Tn 0 1 (tk 321),Qp 1 (tk 137) (tk 321),Qm 37 [.int .i64 1] 1 2 (tk 256) 0 (tk 321),Xo Xu 2 3 (tk 321),Xq 37 [.int .i64 1] 3 2 (tk 321)] ⟨[],[],[],[322]⟩ [(137,.int .i64 1,false),(256,.int .i64 39,false)] (tk 383) (d:Int):=⟨⟨h,rfl,rfl,rfl,rfl,Qa (Zc rfl Dd _) (Qa (Vm k0 _) (Qa (Xr rfl Dd k1 rfl _) (Qa (Qq Dd (.inl rfl) _) (Qa (Qs he (.inr rfl) rfl Qw k3 (.inl rfl) Dd) (Qa (Xr rfl Dd k8 rfl _) (Qa (Zf he (.inr rfl) rfl Qw k9 Dd rfl) Q7)))))),Dx,Ql,Qk,(eqC (Qg (i:=1) Dd k2) (eqC (Xa (c:=0) Dd k7) eqN)),(V6 ⟨pl11,rfl⟩ Qj)⟩,hg,hcell,J5⟩;exact D.path (cv1:=tk 383) (d1:=(d:Int)) Uz (fin:=.pan (tk 322)) Dk
         |ok y10=>
          obtain⟨⟨t12k,t12x,t12n,t12p,t12c⟩,m11⟩:=y10;(try dsimp only [andThen,ok,bad] at hr)
          cases k13:Rj E.len f hd m11 with
          |none=>rw[k13] at hr;cases hr
          |some y14=>
           rw[k13] at hr;cases y14 with
           |error pl15=>
            (try dsimp only [andThen,ok,bad] at hr)
            cases hr;have D:Yq b E (Ro g (d:Int) E.len hd w.heap.size [l,l.tail,m5,m5.tail,m11] [.mk t6k t6x t6n t6p t6c,.mk t12k t12x t12n t12p t12c] [] [(pl15:Int)]) hd w [Zb 0 (tk 321),Vk Xh 0 false (tk 321),Xo Tn 0 1 (tk 321),Qp 1 (tk 137) (tk 321),Qm 37 [.int .i64 1] 1 2 (tk 256) 0 (tk 321),Xo Xu 2 3 (tk 321),Qm 37 [.int .i64 1] 3 4 (tk 260) 1 (tk 321),Xq 100 [] 4 2 (tk 321)] ⟨[],[],[],[322]⟩ [(137,.int .i64 1,false),(256,.int .i64 39,false)] (tk 383) (d:Int):=⟨⟨h,rfl,rfl,rfl,rfl,Qa (Zc rfl Dd _) (Qa (Vm k0 _) (Qa (Xr rfl Dd k1 rfl _) (Qa (Qq Dd (.inl rfl) _) (Qa (Qs he (.inr rfl) rfl Qw k3 (.inl rfl) Dd) (Qa (Xr rfl Dd k8 rfl _) (Qa (Qs he (.inr rfl) rfl Qw k9 (.inl rfl) Dd) (Qa (Zf hb (.inr rfl) rfl Qv k13 Dd rfl) Q7))))))),Dx,Ql,Qk,(eqC (Qg (i:=1) Dd k2) (eqC (Xa (c:=0) Dd k7) eqN)),(V6 ⟨pl15,rfl⟩ Qj)⟩,hg,hcell,J5⟩;exact D.path (cv1:=tk 383) (d1:=(d:Int)) Uz (fin:=.pan (tk 322)) Dk
           |ok y14=>
            obtain⟨⟨t16k,t16x,t16n,t16p,t16c⟩,m15⟩:=y14;(try dsimp only [andThen,ok,bad] at hr)
            cases hr;have D:Yq b E (Ro g (d:Int) E.len hd w.heap.size [l,l.tail,m5,m5.tail,m11,m15] [.mk t6k t6x t6n t6p t6c,.mk t12k t12x t12n t12p t12c,.mk t16k t16x t16n t16p t16c] [] []) hd w [Zb 0 (tk 321),Vk Xh 0 false (tk 321),Xo Tn 0 1 (tk 321),Qp 1 (tk 137) (tk 321),Qm 37 [.int .i64 1] 1 2 (tk 256) 0 (tk 321),Xo Xu 2 3 (tk 321),Qm 37 [.int .i64 1] 3 4 (tk 260) 1 (tk 321),Qm 100 [] 4 5 (tk 264) 2 (tk 321)] ⟨[],[],[],[]⟩ [(137,.int .i64 1,false),(256,.int .i64 39,false)] (tk 383) (d:Int):=⟨⟨h,rfl,rfl,rfl,rfl,Qa (Zc rfl Dd _) (Qa (Vm k0 _) (Qa (Xr rfl Dd k1 rfl _) (Qa (Qq Dd (.inl rfl) _) (Qa (Qs he (.inr rfl) rfl Qw k3 (.inl rfl) Dd) (Qa (Xr rfl Dd k8 rfl _) (Qa (Qs he (.inr rfl) rfl Qw k9 (.inl rfl) Dd) (Qa (Qs hb (.inr rfl) rfl Qv k13 (.inl rfl) Dd) Q7))))))),Dx,Ql,Qk,(eqC (Qg (i:=1) Dd k2) (eqC (Xa (c:=0) Dd k7) eqN)),Qj⟩,hg,hcell,J5⟩;exact D.path (cv1:=tk 383) (d1:=(d:Int)) Uz (fin:=.tree (.nd (.int .i64 44) (.string ⟨#[]⟩) (.int .u64 0) (tk 128) [.ab (tk 256) (tk 257) (tk 258) (tk 259) 1,.ab (tk 260) (tk 261) (tk 262) (tk 263) 9,.ab (tk 264) (tk 265) (tk 266) (tk 267) 17]) 5) Dk
       |false=>
        rw[k8,if_neg Dd] at hr;(try dsimp only [andThen,ok,bad] at hr)
        cases hr;have D:Yq b E (Ro g (d:Int) E.len hd w.heap.size [l,l.tail,m5] [.mk t6k t6x t6n t6p t6c] [] []) hd w [Zb 0 (tk 321),Vk Xh 0 false (tk 321),Xo Tn 0 1 (tk 321),Qp 1 (tk 137) (tk 321),Qm 37 [.int .i64 1] 1 2 (tk 256) 0 (tk 321),Lj Xu 2 (tk 321)] ⟨[],[],[],[]⟩ [(137,.int .i64 1,false),(256,.int .i64 39,false)] (tk 383) (d:Int):=⟨⟨h,rfl,rfl,rfl,rfl,Qa (Zc rfl Dd _) (Qa (Vm k0 _) (Qa (Xr rfl Dd k1 rfl _) (Qa (Qq Dd (.inl rfl) _) (Qa (Qs he (.inr rfl) rfl Qw k3 (.inl rfl) Dd) (Qa (Eg rfl Dd k8 _) Q7))))),Dx,Ql,Qk,(eqC (Qg (i:=1) Dd k2) (eqC (Xa (c:=0) Dd k7) eqN)),Qj⟩,hg,hcell,J5⟩;exact D.path (cv1:=tk 383) (d1:=(d:Int)) Uz (fin:=.pan (tk 144)) Dk
  |false=>
   rw[k1,if_neg Dd] at hr;(try dsimp only [andThen,ok,bad] at hr)
   cases hr;have D:Yq b E (Ro g (d:Int) E.len hd w.heap.size [l] [] [] []) hd w [Zb 0 (tk 321),Vk Xh 0 false (tk 321),Lj Tn 0 (tk 321)] ⟨[],[],[],[]⟩ [] (tk 383) (d:Int):=⟨⟨h,rfl,rfl,rfl,rfl,Qa (Zc rfl Dd _) (Qa (Vm k0 _) (Qa (Eg rfl Dd k1 _) Q7)),Dx,Ql,Qk,eqN,Qj⟩,hg,hcell,J5⟩;exact D.path (cv1:=tk 383) (d1:=(d:Int)) Uz (fin:=.pan (tk 128)) Dk
end Prs
end Go.Proofs.YtcbkeecabcbogaaGreatDoor
