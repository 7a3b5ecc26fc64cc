/- Contract of one, a case of a select. (Printed by gen_one.py.) -/
import Derived.Test.YtcbkeecabcbogaaGreatDoorGbc
namespace Go.Proofs.YtcbkeecabcbogaaGreatDoor
open Go.RowKit
set_option linter.unusedSimpArgs false
set_option linter.unusedVariables false
namespace Prs
open Ev
def dAft (d:Nat)(l:List Tok):Int:=if isP wDefault l then (d:Int)+1 else (d:Int)
def mapE {α β γ:Type}(r:Except Nat ((α×β)×γ)):Except Nat (α×γ):=match r with
 | .error p => .error p
 | .ok ((t,_),l) => .ok (t,l)
def OneC (b:Nat)(E:Env)(hd:Bool)(f:Nat):Prop:=∀ (l:List Tok) (w:World) (r:Except Nat ((Tr×Nat)×List Tok)) (g d:Nat),RdB b E w l hd→b<g→d≤1→(∃ fr:Nat×Nat,w.heap[g]? = some (.cells #[.int .i64 (d:Int)] 3 fr)∧(decide (fr.1≤0)&&decide (0<fr.2))=false)→oneCaseP E.len f hd d l=some r→
 Calls Tryz.prog 74 #[rp b,.pointer (some ⟨g,0,none⟩)] w (OutD b E hd g (dAft d l) (mapE r) w)
theorem cvU {N:SEnv}{b:Nat}{n:Int}:∀ p u,AxN b N p→VR p (.int .i64 n) u→u = .int .i64 n:=fun p u _ h=>by cases h;rfl
theorem val63 {g:Nat}{d:Int}{len:Nat}{hd:Bool}{B:Nat}{ls:List (List Tok)}{ts:List Tr}{tss:List (List Tr)}{xs:List Int}{b:Nat}:∀ p,AxN b (mkND g d len hd B ls ts tss xs) p→VR p (tk 383) (.int .i64 d):=fun p hax=>hax.vr (show tokVal (mkND g d len hd B ls ts tss xs) 383=some (.int .i64 d) from rfl)
theorem val63U {g:Nat}{d:Int}{len:Nat}{hd:Bool}{B:Nat}{ls:List (List Tok)}{ts:List Tr}{tss:List (List Tr)}{xs:List Int}{b:Nat}:∀ p u,AxN b (mkND g d len hd B ls ts tss xs) p→VR p (tk 383) u→u = .int .i64 d:=fun p u hax h=>hax.val (show tokVal (mkND g d len hd B ls ts tss xs) 383=some (.int .i64 d) from rfl) h
def evKid (t u:Nat)(own:Bool):Call1:=⟨1000000,[],0,.bool true,.kid t u own⟩
theorem kid_s {b:Nat}{E:Env}{N:SEnv}{w0:World}{t u:Nat}{own:Bool}(h:∃ l,(N.T t).kids=N.T u :: l)(hu:u<16):CallS b E N w0 (evKid t u own):=⟨h,hu⟩
set_option maxRecDepth 20000 in
theorem one_c {b f:Nat}{E:Env}{hd:Bool}(he:Reads b E hd 37 #[rp b,.int .i64 1] (exprP E.len f 1 hd))(hb:Reads b E hd 100 #[rp b] (bodyP E.len f hd))(hu:Reads b E hd 64 #[rp b] (unaryP E.len f hd)):OneC b E hd (f+1):=by
 intro l w r g d h hg hd1 hcell hr
 rw[oneCaseP] at hr
 unfold dAft
 cases k0:isP wDefault l with
 |true=>
  rw[k0,if_pos rfl] at hr
  rw[if_pos rfl]
  rcases (by omega:d=0∨d=1) with rfl|rfl
  ·
   rw[if_neg (by decide)] at hr
   cases k1:bodyP E.len f hd l.tail with
   |none=>rw[k1] at hr;cases hr
   |some y2=>
    rw[k1] at hr
    cases y2 with
    |error pl3=>
     (try dsimp only [andThen,ok,bad] at hr)
     cases hr
     have D:ToldD b E (mkND g 0 E.len hd w.heap.size [l,l.tail] [] [] [(pl3:Int)]) hd w [evAt 0 (tk 321),evIs wDefault 0 true (tk 321),evTake wDefault 0 1 (tk 321),evBad 100 [] 1 2 (tk 321)] ⟨[],[],[],[322]⟩ [] (.int .i64 0) 0:=⟨⟨h,rfl,rfl,rfl,rfl,consC (at_s rfl (by decide) _) (consC (is_s k0 _) (consC (take_s k0 rfl _) (consC (bad_s hb (.inr rfl) rfl ys_nil k1 (by decide) rfl) nilC))),(fun _ hx=>(by cases hx)),noApp,noPut,eqN,(posC ⟨pl3,rfl⟩ noPos)⟩,hg,hcell,(fun _ _ => .int _ _)⟩
     exact D.path (cv1 := .int .i64 1) (d1:=1) cvU (fin := .pan (tk 322)) (by kernel_rfl)
    |ok y2=>
     obtain⟨⟨t4k,t4x,t4n,t4p,t4c⟩,m3⟩:=y2
     (try dsimp only [andThen,ok,bad] at hr)
     cases hr
     have D:ToldD b E (mkND g 0 E.len hd w.heap.size [l,l.tail,m3] [.mk t4k t4x t4n t4p t4c] [] []) hd w [evAt 0 (tk 321),evIs wDefault 0 true (tk 321),evTake wDefault 0 1 (tk 321),evTree 100 [] 1 2 (tk 256) 0 (tk 321)] ⟨[],[],[],[]⟩ [] (.int .i64 0) 0:=⟨⟨h,rfl,rfl,rfl,rfl,consC (at_s rfl (by decide) _) (consC (is_s k0 _) (consC (take_s k0 rfl _) (consC (tree_s hb (.inr rfl) rfl ys_nil k1 (.inl rfl) (by decide)) nilC))),(fun _ hx=>(by cases hx)),noApp,noPut,eqN,noPos⟩,hg,hcell,(fun _ _ => .int _ _)⟩
     exact D.path (cv1 := .int .i64 1) (d1:=1) cvU (fin := .tree (.nd (.int .i64 45) (.string ⟨#[]⟩) (.int .u64 0) (tk 128) [.ab (tk 256) (tk 257) (tk 258) (tk 259) 1]) 2) (by kernel_rfl)
  ·
   rw[if_pos (by decide)] at hr
   cases hr
   have D:ToldD b E (mkND g 1 E.len hd w.heap.size [l] [] [] []) hd w [evAt 0 (tk 321),evIs wDefault 0 true (tk 321),evFail 0 (tk 321)] ⟨[],[],[],[]⟩ [] (.int .i64 1) 1:=⟨⟨h,rfl,rfl,rfl,rfl,consC (at_s rfl (by decide) _) (consC (is_s k0 _) (consC (fail_s rfl (by decide) _) nilC)),(fun _ hx=>(by cases hx)),noApp,noPut,eqN,noPos⟩,hg,hcell,(fun _ _ => .int _ _)⟩
   exact D.path (cv1 := .int .i64 2) (d1:=2) cvU (fin := .pan (tk 128)) (by kernel_rfl)
 |false=>
  rw[k0,if_neg (by decide)] at hr
  rw[if_neg (by decide)]
  (try unfold wantP at hr)
  cases k1:isP wCase l with
  |true=>
   rw[k1,if_pos rfl] at hr
   (try dsimp only [andThen,ok,bad] at hr)
   cases k2:kindP l.tail==1 with
   |true=>
    rw[k2,Bool.true_and] at hr
    cases k3:secondP wDef l.tail with
    |true=>
     rw[k3,if_pos rfl] at hr
     (try unfold nameP at hr)
     cases k4:kindP l.tail==1 with
     |true=>
      rw[k4,if_pos rfl] at hr
      (try dsimp only [andThen,ok,bad] at hr)
      simp only[textP_head,placeP_head] at hr
      (try unfold wantP at hr)
      cases k5:isP wDef l.tail.tail with
      |true=>
       rw[k5,if_pos rfl] at hr
       (try dsimp only [andThen,ok,bad] at hr)
       (try unfold wantP at hr)
       cases k6:isP wArrow l.tail.tail.tail with
       |true=>
        rw[k6,if_pos rfl] at hr
        (try dsimp only [andThen,ok,bad] at hr)
        cases k7:unaryP E.len f hd l.tail.tail.tail.tail with
        |none=>rw[k7] at hr;cases hr
        |some y8=>
         rw[k7] at hr
         cases y8 with
         |error pl9=>
          (try dsimp only [andThen,ok,bad] at hr)
          cases hr
          have D:ToldD b E (mkND g (d:Int) E.len hd w.heap.size [l,l.tail,l.tail.tail,l.tail.tail.tail,l.tail.tail.tail.tail] [] [] [(pl9:Int)]) hd w [evAt 0 (tk 321),evIs wDefault 0 false (tk 321),evWant wCase 0 1 (tk 321),evPeek 1 (tk 137) (tk 321),evSecond wDef 1 true (tk 321),evName 1 2 (tk 321),evWant wDef 2 3 (tk 321),evWant wArrow 3 4 (tk 321),evBad 64 [] 4 2 (tk 321)] ⟨[],[],[],[322]⟩ [(137,.int .i64 1,true)] (tk 383) (d:Int):=⟨⟨h,rfl,rfl,rfl,rfl,consC (at_s rfl (by decide) _) (consC (is_s k0 _) (consC (want_s rfl (by decide) k1 rfl _) (consC (peek_s (by decide) (.inl rfl) _) (consC (second_s k3 _) (consC (name_s (by decide) k4 rfl _) (consC (want_s rfl (by decide) k5 rfl _) (consC (want_s rfl (by decide) k6 rfl _) (consC (bad_s hu (.inr rfl) rfl ys_nil k7 (by decide) rfl) nilC)))))))),(fun _ hx=>(by cases hx)),noApp,noPut,(eqC (kind_tok (i:=1) (by decide) k2) eqN),(posC ⟨pl9,rfl⟩ noPos)⟩,hg,hcell,val63⟩
          exact D.path (cv1:=tk 383) (d1:=(d:Int)) val63U (fin := .pan (tk 322)) (by kernel_rfl)
         |ok y8=>
          obtain⟨⟨t10k,t10x,t10n,t10p,t10c⟩,m9⟩:=y8
          (try dsimp only [andThen,ok,bad] at hr)
          cases k11:bodyP E.len f hd m9 with
          |none=>rw[k11] at hr;cases hr
          |some y12=>
           rw[k11] at hr
           cases y12 with
           |error pl13=>
            (try dsimp only [andThen,ok,bad] at hr)
            cases hr
            have D:ToldD b E (mkND g (d:Int) E.len hd w.heap.size [l,l.tail,l.tail.tail,l.tail.tail.tail,l.tail.tail.tail.tail,m9] [.mk t10k t10x t10n t10p t10c] [] [(pl13:Int)]) hd w [evAt 0 (tk 321),evIs wDefault 0 false (tk 321),evWant wCase 0 1 (tk 321),evPeek 1 (tk 137) (tk 321),evSecond wDef 1 true (tk 321),evName 1 2 (tk 321),evWant wDef 2 3 (tk 321),evWant wArrow 3 4 (tk 321),evTree 64 [] 4 5 (tk 256) 0 (tk 321),evBad 100 [] 5 2 (tk 321)] ⟨[],[],[],[322]⟩ [(137,.int .i64 1,true)] (tk 383) (d:Int):=⟨⟨h,rfl,rfl,rfl,rfl,consC (at_s rfl (by decide) _) (consC (is_s k0 _) (consC (want_s rfl (by decide) k1 rfl _) (consC (peek_s (by decide) (.inl rfl) _) (consC (second_s k3 _) (consC (name_s (by decide) k4 rfl _) (consC (want_s rfl (by decide) k5 rfl _) (consC (want_s rfl (by decide) k6 rfl _) (consC (tree_s hu (.inr rfl) rfl ys_nil k7 (.inl rfl) (by decide)) (consC (bad_s hb (.inr rfl) rfl ys_nil k11 (by decide) rfl) nilC))))))))),(fun _ hx=>(by cases hx)),noApp,noPut,(eqC (kind_tok (i:=1) (by decide) k2) eqN),(posC ⟨pl13,rfl⟩ noPos)⟩,hg,hcell,val63⟩
            exact D.path (cv1:=tk 383) (d1:=(d:Int)) val63U (fin := .pan (tk 322)) (by kernel_rfl)
           |ok y12=>
            obtain⟨⟨t14k,t14x,t14n,t14p,t14c⟩,m13⟩:=y12
            (try dsimp only [andThen,ok,bad] at hr)
            cases hr
            have D:ToldD b E (mkND g (d:Int) E.len hd w.heap.size [l,l.tail,l.tail.tail,l.tail.tail.tail,l.tail.tail.tail.tail,m9,m13] [.mk t10k t10x t10n t10p t10c,.mk t14k t14x t14n t14p t14c] [] []) hd w [evAt 0 (tk 321),evIs wDefault 0 false (tk 321),evWant wCase 0 1 (tk 321),evPeek 1 (tk 137) (tk 321),evSecond wDef 1 true (tk 321),evName 1 2 (tk 321),evWant wDef 2 3 (tk 321),evWant wArrow 3 4 (tk 321),evTree 64 [] 4 5 (tk 256) 0 (tk 321),evTree 100 [] 5 6 (tk 260) 1 (tk 321)] ⟨[],[],[],[]⟩ [(137,.int .i64 1,true)] (tk 383) (d:Int):=⟨⟨h,rfl,rfl,rfl,rfl,consC (at_s rfl (by decide) _) (consC (is_s k0 _) (consC (want_s rfl (by decide) k1 rfl _) (consC (peek_s (by decide) (.inl rfl) _) (consC (second_s k3 _) (consC (name_s (by decide) k4 rfl _) (consC (want_s rfl (by decide) k5 rfl _) (consC (want_s rfl (by decide) k6 rfl _) (consC (tree_s hu (.inr rfl) rfl ys_nil k7 (.inl rfl) (by decide)) (consC (tree_s hb (.inr rfl) rfl ys_nil k11 (.inl rfl) (by decide)) nilC))))))))),(fun _ hx=>(by cases hx)),noApp,noPut,(eqC (kind_tok (i:=1) (by decide) k2) eqN),noPos⟩,hg,hcell,val63⟩
            exact D.path (cv1:=tk 383) (d1:=(d:Int)) val63U (fin := .tree (.nd (.int .i64 43) (tk 138) (.int .u64 0) (tk 128) [.ab (tk 256) (tk 257) (tk 258) (tk 259) 1,.ab (tk 260) (tk 261) (tk 262) (tk 263) 9]) 6) (by kernel_rfl)
       |false=>
        rw[k6,if_neg (by decide)] at hr
        (try dsimp only [andThen,ok,bad] at hr)
        cases hr
        have D:ToldD b E (mkND g (d:Int) E.len hd w.heap.size [l,l.tail,l.tail.tail,l.tail.tail.tail] [] [] []) hd w [evAt 0 (tk 321),evIs wDefault 0 false (tk 321),evWant wCase 0 1 (tk 321),evPeek 1 (tk 137) (tk 321),evSecond wDef 1 true (tk 321),evName 1 2 (tk 321),evWant wDef 2 3 (tk 321),evLack wArrow 3 (tk 321)] ⟨[],[],[],[]⟩ [(137,.int .i64 1,true)] (tk 383) (d:Int):=⟨⟨h,rfl,rfl,rfl,rfl,consC (at_s rfl (by decide) _) (consC (is_s k0 _) (consC (want_s rfl (by decide) k1 rfl _) (consC (peek_s (by decide) (.inl rfl) _) (consC (second_s k3 _) (consC (name_s (by decide) k4 rfl _) (consC (want_s rfl (by decide) k5 rfl _) (consC (lack_s rfl (by decide) k6 _) nilC))))))),(fun _ hx=>(by cases hx)),noApp,noPut,(eqC (kind_tok (i:=1) (by decide) k2) eqN),noPos⟩,hg,hcell,val63⟩
        exact D.path (cv1:=tk 383) (d1:=(d:Int)) val63U (fin := .pan (tk 152)) (by kernel_rfl)
      |false=>
       rw[k5,if_neg (by decide)] at hr
       (try dsimp only [andThen,ok,bad] at hr)
       cases hr
       have D:ToldD b E (mkND g (d:Int) E.len hd w.heap.size [l,l.tail,l.tail.tail] [] [] []) hd w [evAt 0 (tk 321),evIs wDefault 0 false (tk 321),evWant wCase 0 1 (tk 321),evPeek 1 (tk 137) (tk 321),evSecond wDef 1 true (tk 321),evName 1 2 (tk 321),evLack wDef 2 (tk 321)] ⟨[],[],[],[]⟩ [(137,.int .i64 1,true)] (tk 383) (d:Int):=⟨⟨h,rfl,rfl,rfl,rfl,consC (at_s rfl (by decide) _) (consC (is_s k0 _) (consC (want_s rfl (by decide) k1 rfl _) (consC (peek_s (by decide) (.inl rfl) _) (consC (second_s k3 _) (consC (name_s (by decide) k4 rfl _) (consC (lack_s rfl (by decide) k5 _) nilC)))))),(fun _ hx=>(by cases hx)),noApp,noPut,(eqC (kind_tok (i:=1) (by decide) k2) eqN),noPos⟩,hg,hcell,val63⟩
       exact D.path (cv1:=tk 383) (d1:=(d:Int)) val63U (fin := .pan (tk 144)) (by kernel_rfl)
     |false=>
      rw[k4,if_neg (by decide)] at hr
      (try dsimp only [andThen,ok,bad] at hr)
      cases hr
      have D:ToldD b E (mkND g (d:Int) E.len hd w.heap.size [l,l.tail] [] [] []) hd w [evAt 0 (tk 321),evIs wDefault 0 false (tk 321),evWant wCase 0 1 (tk 321),evPeek 1 (tk 137) (tk 321),evSecond wDef 1 true (tk 321),evNone 1 (tk 321)] ⟨[],[],[],[]⟩ [(137,.int .i64 1,true)] (tk 383) (d:Int):=⟨⟨h,rfl,rfl,rfl,rfl,consC (at_s rfl (by decide) _) (consC (is_s k0 _) (consC (want_s rfl (by decide) k1 rfl _) (consC (peek_s (by decide) (.inl rfl) _) (consC (second_s k3 _) (consC (none_s rfl (by decide) k4 _) nilC))))),(fun _ hx=>(by cases hx)),noApp,noPut,(eqC (kind_tok (i:=1) (by decide) k2) eqN),noPos⟩,hg,hcell,val63⟩
      exact D.path (cv1:=tk 383) (d1:=(d:Int)) val63U (fin := .pan (tk 136)) (by kernel_rfl)
    |false=>
     rw[k3,if_neg (by decide)] at hr
     cases k4:exprP E.len f 1 hd l.tail with
     |none=>rw[k4] at hr;cases hr
     |some y5=>
      rw[k4] at hr
      cases y5 with
      |error pl6=>
       (try dsimp only [andThen,ok,bad] at hr)
       cases hr
       have D:ToldD b E (mkND g (d:Int) E.len hd w.heap.size [l,l.tail] [] [] [(pl6:Int)]) hd w [evAt 0 (tk 321),evIs wDefault 0 false (tk 321),evWant wCase 0 1 (tk 321),evPeek 1 (tk 137) (tk 321),evSecond wDef 1 false (tk 321),evBad 37 [.int .i64 1] 1 2 (tk 321)] ⟨[],[],[],[322]⟩ [(137,.int .i64 1,true)] (tk 383) (d:Int):=⟨⟨h,rfl,rfl,rfl,rfl,consC (at_s rfl (by decide) _) (consC (is_s k0 _) (consC (want_s rfl (by decide) k1 rfl _) (consC (peek_s (by decide) (.inl rfl) _) (consC (second_s k3 _) (consC (bad_s he (.inr rfl) rfl ys_one k4 (by decide) rfl) nilC))))),(fun _ hx=>(by cases hx)),noApp,noPut,(eqC (kind_tok (i:=1) (by decide) k2) eqN),(posC ⟨pl6,rfl⟩ noPos)⟩,hg,hcell,val63⟩
       exact D.path (cv1:=tk 383) (d1:=(d:Int)) val63U (fin := .pan (tk 322)) (by kernel_rfl)
      |ok y5=>
       obtain⟨⟨t7k,t7x,t7n,t7p,t7c⟩,m6⟩:=y5
       (try dsimp only [andThen,ok,bad] at hr)
       cases k8:(Tr.mk t7k t7x t7n t7p t7c).kind==39 with
       |true=>
        rw[k8,Bool.true_and] at hr
        cases k9:isP wArrow m6 with
        |true=>
         rw[k9] at hr
         rw[Bool.not_true,if_neg (by decide)] at hr
         (try unfold wantP at hr)
         rw[if_pos rfl] at hr
         (try dsimp only [andThen,ok,bad] at hr)
         cases k10:exprP E.len f 1 hd m6.tail with
         |none=>rw[k10] at hr;cases hr
         |some y11=>
          rw[k10] at hr
          cases y11 with
          |error pl12=>
           (try dsimp only [andThen,ok,bad] at hr)
           cases hr
           have D:ToldD b E (mkND g (d:Int) E.len hd w.heap.size [l,l.tail,m6,m6.tail] [.mk t7k t7x t7n t7p t7c] [] [(pl12:Int)]) hd w [evAt 0 (tk 321),evIs wDefault 0 false (tk 321),evWant wCase 0 1 (tk 321),evPeek 1 (tk 137) (tk 321),evSecond wDef 1 false (tk 321),evTree 37 [.int .i64 1] 1 2 (tk 256) 0 (tk 321),evIs wArrow 2 true (tk 321),evWant wArrow 2 3 (tk 321),evBad 37 [.int .i64 1] 3 2 (tk 321)] ⟨[],[],[],[322]⟩ [(137,.int .i64 1,true),(256,.int .i64 39,true)] (tk 383) (d:Int):=⟨⟨h,rfl,rfl,rfl,rfl,consC (at_s rfl (by decide) _) (consC (is_s k0 _) (consC (want_s rfl (by decide) k1 rfl _) (consC (peek_s (by decide) (.inl rfl) _) (consC (second_s k3 _) (consC (tree_s he (.inr rfl) rfl ys_one k4 (.inl rfl) (by decide)) (consC (is_s k9 _) (consC (want_s rfl (by decide) k9 rfl _) (consC (bad_s he (.inr rfl) rfl ys_one k10 (by decide) rfl) nilC)))))))),(fun _ hx=>(by cases hx)),noApp,noPut,(eqC (kind_tok (i:=1) (by decide) k2) (eqC (tree_tok (c:=0) (by decide) k8) eqN)),(posC ⟨pl12,rfl⟩ noPos)⟩,hg,hcell,val63⟩
           exact D.path (cv1:=tk 383) (d1:=(d:Int)) val63U (fin := .pan (tk 322)) (by kernel_rfl)
          |ok y11=>
           obtain⟨⟨t13k,t13x,t13n,t13p,t13c⟩,m12⟩:=y11
           (try dsimp only [andThen,ok,bad] at hr)
           cases k14:bodyP E.len f hd m12 with
           |none=>rw[k14] at hr;cases hr
           |some y15=>
            rw[k14] at hr
            cases y15 with
            |error pl16=>
             (try dsimp only [andThen,ok,bad] at hr)
             cases hr
             have D:ToldD b E (mkND g (d:Int) E.len hd w.heap.size [l,l.tail,m6,m6.tail,m12] [.mk t7k t7x t7n t7p t7c,.mk t13k t13x t13n t13p t13c] [] [(pl16:Int)]) hd w [evAt 0 (tk 321),evIs wDefault 0 false (tk 321),evWant wCase 0 1 (tk 321),evPeek 1 (tk 137) (tk 321),evSecond wDef 1 false (tk 321),evTree 37 [.int .i64 1] 1 2 (tk 256) 0 (tk 321),evIs wArrow 2 true (tk 321),evWant wArrow 2 3 (tk 321),evTree 37 [.int .i64 1] 3 4 (tk 260) 1 (tk 321),evBad 100 [] 4 2 (tk 321)] ⟨[],[],[],[322]⟩ [(137,.int .i64 1,true),(256,.int .i64 39,true)] (tk 383) (d:Int):=⟨⟨h,rfl,rfl,rfl,rfl,consC (at_s rfl (by decide) _) (consC (is_s k0 _) (consC (want_s rfl (by decide) k1 rfl _) (consC (peek_s (by decide) (.inl rfl) _) (consC (second_s k3 _) (consC (tree_s he (.inr rfl) rfl ys_one k4 (.inl rfl) (by decide)) (consC (is_s k9 _) (consC (want_s rfl (by decide) k9 rfl _) (consC (tree_s he (.inr rfl) rfl ys_one k10 (.inl rfl) (by decide)) (consC (bad_s hb (.inr rfl) rfl ys_nil k14 (by decide) rfl) nilC))))))))),(fun _ hx=>(by cases hx)),noApp,noPut,(eqC (kind_tok (i:=1) (by decide) k2) (eqC (tree_tok (c:=0) (by decide) k8) eqN)),(posC ⟨pl16,rfl⟩ noPos)⟩,hg,hcell,val63⟩
             exact D.path (cv1:=tk 383) (d1:=(d:Int)) val63U (fin := .pan (tk 322)) (by kernel_rfl)
            |ok y15=>
             obtain⟨⟨t17k,t17x,t17n,t17p,t17c⟩,m16⟩:=y15
             (try dsimp only [andThen,ok,bad] at hr)
             cases hr
             have D:ToldD b E (mkND g (d:Int) E.len hd w.heap.size [l,l.tail,m6,m6.tail,m12,m16] [.mk t7k t7x t7n t7p t7c,.mk t13k t13x t13n t13p t13c,.mk t17k t17x t17n t17p t17c] [] []) hd w [evAt 0 (tk 321),evIs wDefault 0 false (tk 321),evWant wCase 0 1 (tk 321),evPeek 1 (tk 137) (tk 321),evSecond wDef 1 false (tk 321),evTree 37 [.int .i64 1] 1 2 (tk 256) 0 (tk 321),evIs wArrow 2 true (tk 321),evWant wArrow 2 3 (tk 321),evTree 37 [.int .i64 1] 3 4 (tk 260) 1 (tk 321),evTree 100 [] 4 5 (tk 264) 2 (tk 321)] ⟨[],[],[],[]⟩ [(137,.int .i64 1,true),(256,.int .i64 39,true)] (tk 383) (d:Int):=⟨⟨h,rfl,rfl,rfl,rfl,consC (at_s rfl (by decide) _) (consC (is_s k0 _) (consC (want_s rfl (by decide) k1 rfl _) (consC (peek_s (by decide) (.inl rfl) _) (consC (second_s k3 _) (consC (tree_s he (.inr rfl) rfl ys_one k4 (.inl rfl) (by decide)) (consC (is_s k9 _) (consC (want_s rfl (by decide) k9 rfl _) (consC (tree_s he (.inr rfl) rfl ys_one k10 (.inl rfl) (by decide)) (consC (tree_s hb (.inr rfl) rfl ys_nil k14 (.inl rfl) (by decide)) nilC))))))))),(fun _ hx=>(by cases hx)),noApp,noPut,(eqC (kind_tok (i:=1) (by decide) k2) (eqC (tree_tok (c:=0) (by decide) k8) eqN)),noPos⟩,hg,hcell,val63⟩
             exact D.path (cv1:=tk 383) (d1:=(d:Int)) val63U (fin := .tree (.nd (.int .i64 44) (.string ⟨#[]⟩) (.int .u64 0) (tk 128) [.ab (tk 256) (tk 257) (tk 258) (tk 259) 1,.ab (tk 260) (tk 261) (tk 262) (tk 263) 9,.ab (tk 264) (tk 265) (tk 266) (tk 267) 17]) 5) (by kernel_rfl)
        |false=>
         rw[k9] at hr
         rw[Bool.not_false,if_pos rfl] at hr
         cases t7c with
         |nil=>cases hr
         |cons u us=>
          dsimp only [Tr.kids] at hr
          obtain⟨uk,ux,un,up,uc⟩:=u
          cases k10:bodyP E.len f hd m6 with
          |none=>rw[k10] at hr;cases hr
          |some y11=>
           rw[k10] at hr
           cases y11 with
           |error pl12=>
            (try dsimp only [andThen,ok,bad] at hr)
            cases hr
            have D:ToldD b E (mkND g (d:Int) E.len hd w.heap.size [l,l.tail,m6] [.mk t7k t7x t7n t7p (.mk uk ux un up uc :: us),.mk uk ux un up uc] [] [(pl12:Int)]) hd w [evAt 0 (tk 321),evIs wDefault 0 false (tk 321),evWant wCase 0 1 (tk 321),evPeek 1 (tk 137) (tk 321),evSecond wDef 1 false (tk 321),evTree 37 [.int .i64 1] 1 2 (tk 256) 0 (tk 321),evIs wArrow 2 false (tk 321),evKid 0 1 false,evBad 100 [] 2 2 (tk 321)] ⟨[],[],[],[322]⟩ [(137,.int .i64 1,true),(256,.int .i64 39,true)] (tk 383) (d:Int):=⟨⟨h,rfl,rfl,rfl,rfl,consC (at_s rfl (by decide) _) (consC (is_s k0 _) (consC (want_s rfl (by decide) k1 rfl _) (consC (peek_s (by decide) (.inl rfl) _) (consC (second_s k3 _) (consC (tree_s he (.inr rfl) rfl ys_one k4 (.inl rfl) (by decide)) (consC (is_s k9 _) (consC (kid_s ⟨us,rfl⟩ (by decide)) (consC (bad_s hb (.inr rfl) rfl ys_nil k10 (by decide) rfl) nilC)))))))),(fun _ hx=>(by cases hx)),noApp,noPut,(eqC (kind_tok (i:=1) (by decide) k2) (eqC (tree_tok (c:=0) (by decide) k8) eqN)),(posC ⟨pl12,rfl⟩ noPos)⟩,hg,hcell,val63⟩
            exact D.path (cv1:=tk 383) (d1:=(d:Int)) val63U (fin := .pan (tk 322)) (by kernel_rfl)
           |ok y11=>
            obtain⟨⟨t13k,t13x,t13n,t13p,t13c⟩,m12⟩:=y11
            (try dsimp only [andThen,ok,bad] at hr)
            cases hr
            have D:ToldD b E (mkND g (d:Int) E.len hd w.heap.size [l,l.tail,m6,m12] [.mk t7k t7x t7n t7p (.mk uk ux un up uc :: us),.mk uk ux un up uc,.mk t13k t13x t13n t13p t13c] [] []) hd w [evAt 0 (tk 321),evIs wDefault 0 false (tk 321),evWant wCase 0 1 (tk 321),evPeek 1 (tk 137) (tk 321),evSecond wDef 1 false (tk 321),evTree 37 [.int .i64 1] 1 2 (tk 256) 0 (tk 321),evIs wArrow 2 false (tk 321),evKid 0 1 true,evTree 100 [] 2 3 (tk 264) 2 (tk 321)] ⟨[],[],[],[]⟩ [(137,.int .i64 1,true),(256,.int .i64 39,true)] (tk 383) (d:Int):=⟨⟨h,rfl,rfl,rfl,rfl,consC (at_s rfl (by decide) _) (consC (is_s k0 _) (consC (want_s rfl (by decide) k1 rfl _) (consC (peek_s (by decide) (.inl rfl) _) (consC (second_s k3 _) (consC (tree_s he (.inr rfl) rfl ys_one k4 (.inl rfl) (by decide)) (consC (is_s k9 _) (consC (kid_s ⟨us,rfl⟩ (by decide)) (consC (tree_s hb (.inr rfl) rfl ys_nil k10 (.inl rfl) (by decide)) nilC)))))))),(fun _ hx=>(by cases hx)),noApp,noPut,(eqC (kind_tok (i:=1) (by decide) k2) (eqC (tree_tok (c:=0) (by decide) k8) eqN)),noPos⟩,hg,hcell,val63⟩
            exact D.path (cv1:=tk 383) (d1:=(d:Int)) val63U (fin := .tree (.nd (.int .i64 43) (.string ⟨#[]⟩) (.int .u64 0) (tk 128) [.ab (tk 260) (tk 261) (tk 262) (tk 263) 9,.ab (tk 264) (tk 265) (tk 266) (tk 267) 17]) 3) (by kernel_rfl)
       |false=>
        rw[k8,Bool.false_and,if_neg (by decide)] at hr
        (try unfold wantP at hr)
        cases k9:isP wArrow m6 with
        |true=>
         rw[k9,if_pos rfl] at hr
         (try dsimp only [andThen,ok,bad] at hr)
         cases k10:exprP E.len f 1 hd m6.tail with
         |none=>rw[k10] at hr;cases hr
         |some y11=>
          rw[k10] at hr
          cases y11 with
          |error pl12=>
           (try dsimp only [andThen,ok,bad] at hr)
           cases hr
           have D:ToldD b E (mkND g (d:Int) E.len hd w.heap.size [l,l.tail,m6,m6.tail] [.mk t7k t7x t7n t7p t7c] [] [(pl12:Int)]) hd w [evAt 0 (tk 321),evIs wDefault 0 false (tk 321),evWant wCase 0 1 (tk 321),evPeek 1 (tk 137) (tk 321),evSecond wDef 1 false (tk 321),evTree 37 [.int .i64 1] 1 2 (tk 256) 0 (tk 321),evWant wArrow 2 3 (tk 321),evBad 37 [.int .i64 1] 3 2 (tk 321)] ⟨[],[],[],[322]⟩ [(137,.int .i64 1,true),(256,.int .i64 39,false)] (tk 383) (d:Int):=⟨⟨h,rfl,rfl,rfl,rfl,consC (at_s rfl (by decide) _) (consC (is_s k0 _) (consC (want_s rfl (by decide) k1 rfl _) (consC (peek_s (by decide) (.inl rfl) _) (consC (second_s k3 _) (consC (tree_s he (.inr rfl) rfl ys_one k4 (.inl rfl) (by decide)) (consC (want_s rfl (by decide) k9 rfl _) (consC (bad_s he (.inr rfl) rfl ys_one k10 (by decide) rfl) nilC))))))),(fun _ hx=>(by cases hx)),noApp,noPut,(eqC (kind_tok (i:=1) (by decide) k2) (eqC (tree_tok (c:=0) (by decide) k8) eqN)),(posC ⟨pl12,rfl⟩ noPos)⟩,hg,hcell,val63⟩
           exact D.path (cv1:=tk 383) (d1:=(d:Int)) val63U (fin := .pan (tk 322)) (by kernel_rfl)
          |ok y11=>
           obtain⟨⟨t13k,t13x,t13n,t13p,t13c⟩,m12⟩:=y11
           (try dsimp only [andThen,ok,bad] at hr)
           cases k14:bodyP E.len f hd m12 with
           |none=>rw[k14] at hr;cases hr
           |some y15=>
            rw[k14] at hr
            cases y15 with
            |error pl16=>
             (try dsimp only [andThen,ok,bad] at hr)
             cases hr
             have D:ToldD b E (mkND g (d:Int) E.len hd w.heap.size [l,l.tail,m6,m6.tail,m12] [.mk t7k t7x t7n t7p t7c,.mk t13k t13x t13n t13p t13c] [] [(pl16:Int)]) hd w [evAt 0 (tk 321),evIs wDefault 0 false (tk 321),evWant wCase 0 1 (tk 321),evPeek 1 (tk 137) (tk 321),evSecond wDef 1 false (tk 321),evTree 37 [.int .i64 1] 1 2 (tk 256) 0 (tk 321),evWant wArrow 2 3 (tk 321),evTree 37 [.int .i64 1] 3 4 (tk 260) 1 (tk 321),evBad 100 [] 4 2 (tk 321)] ⟨[],[],[],[322]⟩ [(137,.int .i64 1,true),(256,.int .i64 39,false)] (tk 383) (d:Int):=⟨⟨h,rfl,rfl,rfl,rfl,consC (at_s rfl (by decide) _) (consC (is_s k0 _) (consC (want_s rfl (by decide) k1 rfl _) (consC (peek_s (by decide) (.inl rfl) _) (consC (second_s k3 _) (consC (tree_s he (.inr rfl) rfl ys_one k4 (.inl rfl) (by decide)) (consC (want_s rfl (by decide) k9 rfl _) (consC (tree_s he (.inr rfl) rfl ys_one k10 (.inl rfl) (by decide)) (consC (bad_s hb (.inr rfl) rfl ys_nil k14 (by decide) rfl) nilC)))))))),(fun _ hx=>(by cases hx)),noApp,noPut,(eqC (kind_tok (i:=1) (by decide) k2) (eqC (tree_tok (c:=0) (by decide) k8) eqN)),(posC ⟨pl16,rfl⟩ noPos)⟩,hg,hcell,val63⟩
             exact D.path (cv1:=tk 383) (d1:=(d:Int)) val63U (fin := .pan (tk 322)) (by kernel_rfl)
            |ok y15=>
             obtain⟨⟨t17k,t17x,t17n,t17p,t17c⟩,m16⟩:=y15
             (try dsimp only [andThen,ok,bad] at hr)
             cases hr
             have D:ToldD b E (mkND g (d:Int) E.len hd w.heap.size [l,l.tail,m6,m6.tail,m12,m16] [.mk t7k t7x t7n t7p t7c,.mk t13k t13x t13n t13p t13c,.mk t17k t17x t17n t17p t17c] [] []) hd w [evAt 0 (tk 321),evIs wDefault 0 false (tk 321),evWant wCase 0 1 (tk 321),evPeek 1 (tk 137) (tk 321),evSecond wDef 1 false (tk 321),evTree 37 [.int .i64 1] 1 2 (tk 256) 0 (tk 321),evWant wArrow 2 3 (tk 321),evTree 37 [.int .i64 1] 3 4 (tk 260) 1 (tk 321),evTree 100 [] 4 5 (tk 264) 2 (tk 321)] ⟨[],[],[],[]⟩ [(137,.int .i64 1,true),(256,.int .i64 39,false)] (tk 383) (d:Int):=⟨⟨h,rfl,rfl,rfl,rfl,consC (at_s rfl (by decide) _) (consC (is_s k0 _) (consC (want_s rfl (by decide) k1 rfl _) (consC (peek_s (by decide) (.inl rfl) _) (consC (second_s k3 _) (consC (tree_s he (.inr rfl) rfl ys_one k4 (.inl rfl) (by decide)) (consC (want_s rfl (by decide) k9 rfl _) (consC (tree_s he (.inr rfl) rfl ys_one k10 (.inl rfl) (by decide)) (consC (tree_s hb (.inr rfl) rfl ys_nil k14 (.inl rfl) (by decide)) nilC)))))))),(fun _ hx=>(by cases hx)),noApp,noPut,(eqC (kind_tok (i:=1) (by decide) k2) (eqC (tree_tok (c:=0) (by decide) k8) eqN)),noPos⟩,hg,hcell,val63⟩
             exact D.path (cv1:=tk 383) (d1:=(d:Int)) val63U (fin := .tree (.nd (.int .i64 44) (.string ⟨#[]⟩) (.int .u64 0) (tk 128) [.ab (tk 256) (tk 257) (tk 258) (tk 259) 1,.ab (tk 260) (tk 261) (tk 262) (tk 263) 9,.ab (tk 264) (tk 265) (tk 266) (tk 267) 17]) 5) (by kernel_rfl)
        |false=>
         rw[k9,if_neg (by decide)] at hr
         (try dsimp only [andThen,ok,bad] at hr)
         cases hr
         have D:ToldD b E (mkND g (d:Int) E.len hd w.heap.size [l,l.tail,m6] [.mk t7k t7x t7n t7p t7c] [] []) hd w [evAt 0 (tk 321),evIs wDefault 0 false (tk 321),evWant wCase 0 1 (tk 321),evPeek 1 (tk 137) (tk 321),evSecond wDef 1 false (tk 321),evTree 37 [.int .i64 1] 1 2 (tk 256) 0 (tk 321),evLack wArrow 2 (tk 321)] ⟨[],[],[],[]⟩ [(137,.int .i64 1,true),(256,.int .i64 39,false)] (tk 383) (d:Int):=⟨⟨h,rfl,rfl,rfl,rfl,consC (at_s rfl (by decide) _) (consC (is_s k0 _) (consC (want_s rfl (by decide) k1 rfl _) (consC (peek_s (by decide) (.inl rfl) _) (consC (second_s k3 _) (consC (tree_s he (.inr rfl) rfl ys_one k4 (.inl rfl) (by decide)) (consC (lack_s rfl (by decide) k9 _) nilC)))))),(fun _ hx=>(by cases hx)),noApp,noPut,(eqC (kind_tok (i:=1) (by decide) k2) (eqC (tree_tok (c:=0) (by decide) k8) eqN)),noPos⟩,hg,hcell,val63⟩
         exact D.path (cv1:=tk 383) (d1:=(d:Int)) val63U (fin := .pan (tk 144)) (by kernel_rfl)
   |false=>
    rw[k2,Bool.false_and,if_neg (by decide)] at hr
    cases k3:exprP E.len f 1 hd l.tail with
    |none=>rw[k3] at hr;cases hr
    |some y4=>
     rw[k3] at hr
     cases y4 with
     |error pl5=>
      (try dsimp only [andThen,ok,bad] at hr)
      cases hr
      have D:ToldD b E (mkND g (d:Int) E.len hd w.heap.size [l,l.tail] [] [] [(pl5:Int)]) hd w [evAt 0 (tk 321),evIs wDefault 0 false (tk 321),evWant wCase 0 1 (tk 321),evPeek 1 (tk 137) (tk 321),evBad 37 [.int .i64 1] 1 2 (tk 321)] ⟨[],[],[],[322]⟩ [(137,.int .i64 1,false)] (tk 383) (d:Int):=⟨⟨h,rfl,rfl,rfl,rfl,consC (at_s rfl (by decide) _) (consC (is_s k0 _) (consC (want_s rfl (by decide) k1 rfl _) (consC (peek_s (by decide) (.inl rfl) _) (consC (bad_s he (.inr rfl) rfl ys_one k3 (by decide) rfl) nilC)))),(fun _ hx=>(by cases hx)),noApp,noPut,(eqC (kind_tok (i:=1) (by decide) k2) eqN),(posC ⟨pl5,rfl⟩ noPos)⟩,hg,hcell,val63⟩
      exact D.path (cv1:=tk 383) (d1:=(d:Int)) val63U (fin := .pan (tk 322)) (by kernel_rfl)
     |ok y4=>
      obtain⟨⟨t6k,t6x,t6n,t6p,t6c⟩,m5⟩:=y4
      (try dsimp only [andThen,ok,bad] at hr)
      cases k7:(Tr.mk t6k t6x t6n t6p t6c).kind==39 with
      |true=>
       rw[k7,Bool.true_and] at hr
       cases k8:isP wArrow m5 with
       |true=>
        rw[k8] at hr
        rw[Bool.not_true,if_neg (by decide)] at hr
        (try unfold wantP at hr)
        rw[if_pos rfl] at hr
        (try dsimp only [andThen,ok,bad] at hr)
        cases k9:exprP E.len f 1 hd m5.tail with
        |none=>rw[k9] at hr;cases hr
        |some y10=>
         rw[k9] at hr
         cases y10 with
         |error pl11=>
          (try dsimp only [andThen,ok,bad] at hr)
          cases hr
          have D:ToldD b E (mkND g (d:Int) E.len hd w.heap.size [l,l.tail,m5,m5.tail] [.mk t6k t6x t6n t6p t6c] [] [(pl11:Int)]) hd w [evAt 0 (tk 321),evIs wDefault 0 false (tk 321),evWant wCase 0 1 (tk 321),evPeek 1 (tk 137) (tk 321),evTree 37 [.int .i64 1] 1 2 (tk 256) 0 (tk 321),evIs wArrow 2 true (tk 321),evWant wArrow 2 3 (tk 321),evBad 37 [.int .i64 1] 3 2 (tk 321)] ⟨[],[],[],[322]⟩ [(137,.int .i64 1,false),(256,.int .i64 39,true)] (tk 383) (d:Int):=⟨⟨h,rfl,rfl,rfl,rfl,consC (at_s rfl (by decide) _) (consC (is_s k0 _) (consC (want_s rfl (by decide) k1 rfl _) (consC (peek_s (by decide) (.inl rfl) _) (consC (tree_s he (.inr rfl) rfl ys_one k3 (.inl rfl) (by decide)) (consC (is_s k8 _) (consC (want_s rfl (by decide) k8 rfl _) (consC (bad_s he (.inr rfl) rfl ys_one k9 (by decide) rfl) nilC))))))),(fun _ hx=>(by cases hx)),noApp,noPut,(eqC (kind_tok (i:=1) (by decide) k2) (eqC (tree_tok (c:=0) (by decide) k7) eqN)),(posC ⟨pl11,rfl⟩ noPos)⟩,hg,hcell,val63⟩
          exact D.path (cv1:=tk 383) (d1:=(d:Int)) val63U (fin := .pan (tk 322)) (by kernel_rfl)
         |ok y10=>
          obtain⟨⟨t12k,t12x,t12n,t12p,t12c⟩,m11⟩:=y10
          (try dsimp only [andThen,ok,bad] at hr)
          cases k13:bodyP E.len f hd m11 with
          |none=>rw[k13] at hr;cases hr
          |some y14=>
           rw[k13] at hr
           cases y14 with
           |error pl15=>
            (try dsimp only [andThen,ok,bad] at hr)
            cases hr
            have D:ToldD b E (mkND g (d:Int) E.len hd w.heap.size [l,l.tail,m5,m5.tail,m11] [.mk t6k t6x t6n t6p t6c,.mk t12k t12x t12n t12p t12c] [] [(pl15:Int)]) hd w [evAt 0 (tk 321),evIs wDefault 0 false (tk 321),evWant wCase 0 1 (tk 321),evPeek 1 (tk 137) (tk 321),evTree 37 [.int .i64 1] 1 2 (tk 256) 0 (tk 321),evIs wArrow 2 true (tk 321),evWant wArrow 2 3 (tk 321),evTree 37 [.int .i64 1] 3 4 (tk 260) 1 (tk 321),evBad 100 [] 4 2 (tk 321)] ⟨[],[],[],[322]⟩ [(137,.int .i64 1,false),(256,.int .i64 39,true)] (tk 383) (d:Int):=⟨⟨h,rfl,rfl,rfl,rfl,consC (at_s rfl (by decide) _) (consC (is_s k0 _) (consC (want_s rfl (by decide) k1 rfl _) (consC (peek_s (by decide) (.inl rfl) _) (consC (tree_s he (.inr rfl) rfl ys_one k3 (.inl rfl) (by decide)) (consC (is_s k8 _) (consC (want_s rfl (by decide) k8 rfl _) (consC (tree_s he (.inr rfl) rfl ys_one k9 (.inl rfl) (by decide)) (consC (bad_s hb (.inr rfl) rfl ys_nil k13 (by decide) rfl) nilC)))))))),(fun _ hx=>(by cases hx)),noApp,noPut,(eqC (kind_tok (i:=1) (by decide) k2) (eqC (tree_tok (c:=0) (by decide) k7) eqN)),(posC ⟨pl15,rfl⟩ noPos)⟩,hg,hcell,val63⟩
            exact D.path (cv1:=tk 383) (d1:=(d:Int)) val63U (fin := .pan (tk 322)) (by kernel_rfl)
           |ok y14=>
            obtain⟨⟨t16k,t16x,t16n,t16p,t16c⟩,m15⟩:=y14
            (try dsimp only [andThen,ok,bad] at hr)
            cases hr
            have D:ToldD b E (mkND g (d:Int) E.len hd w.heap.size [l,l.tail,m5,m5.tail,m11,m15] [.mk t6k t6x t6n t6p t6c,.mk t12k t12x t12n t12p t12c,.mk t16k t16x t16n t16p t16c] [] []) hd w [evAt 0 (tk 321),evIs wDefault 0 false (tk 321),evWant wCase 0 1 (tk 321),evPeek 1 (tk 137) (tk 321),evTree 37 [.int .i64 1] 1 2 (tk 256) 0 (tk 321),evIs wArrow 2 true (tk 321),evWant wArrow 2 3 (tk 321),evTree 37 [.int .i64 1] 3 4 (tk 260) 1 (tk 321),evTree 100 [] 4 5 (tk 264) 2 (tk 321)] ⟨[],[],[],[]⟩ [(137,.int .i64 1,false),(256,.int .i64 39,true)] (tk 383) (d:Int):=⟨⟨h,rfl,rfl,rfl,rfl,consC (at_s rfl (by decide) _) (consC (is_s k0 _) (consC (want_s rfl (by decide) k1 rfl _) (consC (peek_s (by decide) (.inl rfl) _) (consC (tree_s he (.inr rfl) rfl ys_one k3 (.inl rfl) (by decide)) (consC (is_s k8 _) (consC (want_s rfl (by decide) k8 rfl _) (consC (tree_s he (.inr rfl) rfl ys_one k9 (.inl rfl) (by decide)) (consC (tree_s hb (.inr rfl) rfl ys_nil k13 (.inl rfl) (by decide)) nilC)))))))),(fun _ hx=>(by cases hx)),noApp,noPut,(eqC (kind_tok (i:=1) (by decide) k2) (eqC (tree_tok (c:=0) (by decide) k7) eqN)),noPos⟩,hg,hcell,val63⟩
            exact D.path (cv1:=tk 383) (d1:=(d:Int)) val63U (fin := .tree (.nd (.int .i64 44) (.string ⟨#[]⟩) (.int .u64 0) (tk 128) [.ab (tk 256) (tk 257) (tk 258) (tk 259) 1,.ab (tk 260) (tk 261) (tk 262) (tk 263) 9,.ab (tk 264) (tk 265) (tk 266) (tk 267) 17]) 5) (by kernel_rfl)
       |false=>
        rw[k8] at hr
        rw[Bool.not_false,if_pos rfl] at hr
        cases t6c with
        |nil=>cases hr
        |cons u us=>
         dsimp only [Tr.kids] at hr
         obtain⟨uk,ux,un,up,uc⟩:=u
         cases k9:bodyP E.len f hd m5 with
         |none=>rw[k9] at hr;cases hr
         |some y10=>
          rw[k9] at hr
          cases y10 with
          |error pl11=>
           (try dsimp only [andThen,ok,bad] at hr)
           cases hr
           have D:ToldD b E (mkND g (d:Int) E.len hd w.heap.size [l,l.tail,m5] [.mk t6k t6x t6n t6p (.mk uk ux un up uc :: us),.mk uk ux un up uc] [] [(pl11:Int)]) hd w [evAt 0 (tk 321),evIs wDefault 0 false (tk 321),evWant wCase 0 1 (tk 321),evPeek 1 (tk 137) (tk 321),evTree 37 [.int .i64 1] 1 2 (tk 256) 0 (tk 321),evIs wArrow 2 false (tk 321),evKid 0 1 false,evBad 100 [] 2 2 (tk 321)] ⟨[],[],[],[322]⟩ [(137,.int .i64 1,false),(256,.int .i64 39,true)] (tk 383) (d:Int):=⟨⟨h,rfl,rfl,rfl,rfl,consC (at_s rfl (by decide) _) (consC (is_s k0 _) (consC (want_s rfl (by decide) k1 rfl _) (consC (peek_s (by decide) (.inl rfl) _) (consC (tree_s he (.inr rfl) rfl ys_one k3 (.inl rfl) (by decide)) (consC (is_s k8 _) (consC (kid_s ⟨us,rfl⟩ (by decide)) (consC (bad_s hb (.inr rfl) rfl ys_nil k9 (by decide) rfl) nilC))))))),(fun _ hx=>(by cases hx)),noApp,noPut,(eqC (kind_tok (i:=1) (by decide) k2) (eqC (tree_tok (c:=0) (by decide) k7) eqN)),(posC ⟨pl11,rfl⟩ noPos)⟩,hg,hcell,val63⟩
           exact D.path (cv1:=tk 383) (d1:=(d:Int)) val63U (fin := .pan (tk 322)) (by kernel_rfl)
          |ok y10=>
           obtain⟨⟨t12k,t12x,t12n,t12p,t12c⟩,m11⟩:=y10
           (try dsimp only [andThen,ok,bad] at hr)
           cases hr
           have D:ToldD b E (mkND g (d:Int) E.len hd w.heap.size [l,l.tail,m5,m11] [.mk t6k t6x t6n t6p (.mk uk ux un up uc :: us),.mk uk ux un up uc,.mk t12k t12x t12n t12p t12c] [] []) hd w [evAt 0 (tk 321),evIs wDefault 0 false (tk 321),evWant wCase 0 1 (tk 321),evPeek 1 (tk 137) (tk 321),evTree 37 [.int .i64 1] 1 2 (tk 256) 0 (tk 321),evIs wArrow 2 false (tk 321),evKid 0 1 true,evTree 100 [] 2 3 (tk 264) 2 (tk 321)] ⟨[],[],[],[]⟩ [(137,.int .i64 1,false),(256,.int .i64 39,true)] (tk 383) (d:Int):=⟨⟨h,rfl,rfl,rfl,rfl,consC (at_s rfl (by decide) _) (consC (is_s k0 _) (consC (want_s rfl (by decide) k1 rfl _) (consC (peek_s (by decide) (.inl rfl) _) (consC (tree_s he (.inr rfl) rfl ys_one k3 (.inl rfl) (by decide)) (consC (is_s k8 _) (consC (kid_s ⟨us,rfl⟩ (by decide)) (consC (tree_s hb (.inr rfl) rfl ys_nil k9 (.inl rfl) (by decide)) nilC))))))),(fun _ hx=>(by cases hx)),noApp,noPut,(eqC (kind_tok (i:=1) (by decide) k2) (eqC (tree_tok (c:=0) (by decide) k7) eqN)),noPos⟩,hg,hcell,val63⟩
           exact D.path (cv1:=tk 383) (d1:=(d:Int)) val63U (fin := .tree (.nd (.int .i64 43) (.string ⟨#[]⟩) (.int .u64 0) (tk 128) [.ab (tk 260) (tk 261) (tk 262) (tk 263) 9,.ab (tk 264) (tk 265) (tk 266) (tk 267) 17]) 3) (by kernel_rfl)
      |false=>
       rw[k7,Bool.false_and,if_neg (by decide)] at hr
       (try unfold wantP at hr)
       cases k8:isP wArrow m5 with
       |true=>
        rw[k8,if_pos rfl] at hr
        (try dsimp only [andThen,ok,bad] at hr)
        cases k9:exprP E.len f 1 hd m5.tail with
        |none=>rw[k9] at hr;cases hr
        |some y10=>
         rw[k9] at hr
         cases y10 with
         |error pl11=>
          (try dsimp only [andThen,ok,bad] at hr)
          cases hr
          have D:ToldD b E (mkND g (d:Int) E.len hd w.heap.size [l,l.tail,m5,m5.tail] [.mk t6k t6x t6n t6p t6c] [] [(pl11:Int)]) hd w [evAt 0 (tk 321),evIs wDefault 0 false (tk 321),evWant wCase 0 1 (tk 321),evPeek 1 (tk 137) (tk 321),evTree 37 [.int .i64 1] 1 2 (tk 256) 0 (tk 321),evWant wArrow 2 3 (tk 321),evBad 37 [.int .i64 1] 3 2 (tk 321)] ⟨[],[],[],[322]⟩ [(137,.int .i64 1,false),(256,.int .i64 39,false)] (tk 383) (d:Int):=⟨⟨h,rfl,rfl,rfl,rfl,consC (at_s rfl (by decide) _) (consC (is_s k0 _) (consC (want_s rfl (by decide) k1 rfl _) (consC (peek_s (by decide) (.inl rfl) _) (consC (tree_s he (.inr rfl) rfl ys_one k3 (.inl rfl) (by decide)) (consC (want_s rfl (by decide) k8 rfl _) (consC (bad_s he (.inr rfl) rfl ys_one k9 (by decide) rfl) nilC)))))),(fun _ hx=>(by cases hx)),noApp,noPut,(eqC (kind_tok (i:=1) (by decide) k2) (eqC (tree_tok (c:=0) (by decide) k7) eqN)),(posC ⟨pl11,rfl⟩ noPos)⟩,hg,hcell,val63⟩
          exact D.path (cv1:=tk 383) (d1:=(d:Int)) val63U (fin := .pan (tk 322)) (by kernel_rfl)
         |ok y10=>
          obtain⟨⟨t12k,t12x,t12n,t12p,t12c⟩,m11⟩:=y10
          (try dsimp only [andThen,ok,bad] at hr)
          cases k13:bodyP E.len f hd m11 with
          |none=>rw[k13] at hr;cases hr
          |some y14=>
           rw[k13] at hr
           cases y14 with
           |error pl15=>
            (try dsimp only [andThen,ok,bad] at hr)
            cases hr
            have D:ToldD b E (mkND g (d:Int) E.len hd w.heap.size [l,l.tail,m5,m5.tail,m11] [.mk t6k t6x t6n t6p t6c,.mk t12k t12x t12n t12p t12c] [] [(pl15:Int)]) hd w [evAt 0 (tk 321),evIs wDefault 0 false (tk 321),evWant wCase 0 1 (tk 321),evPeek 1 (tk 137) (tk 321),evTree 37 [.int .i64 1] 1 2 (tk 256) 0 (tk 321),evWant wArrow 2 3 (tk 321),evTree 37 [.int .i64 1] 3 4 (tk 260) 1 (tk 321),evBad 100 [] 4 2 (tk 321)] ⟨[],[],[],[322]⟩ [(137,.int .i64 1,false),(256,.int .i64 39,false)] (tk 383) (d:Int):=⟨⟨h,rfl,rfl,rfl,rfl,consC (at_s rfl (by decide) _) (consC (is_s k0 _) (consC (want_s rfl (by decide) k1 rfl _) (consC (peek_s (by decide) (.inl rfl) _) (consC (tree_s he (.inr rfl) rfl ys_one k3 (.inl rfl) (by decide)) (consC (want_s rfl (by decide) k8 rfl _) (consC (tree_s he (.inr rfl) rfl ys_one k9 (.inl rfl) (by decide)) (consC (bad_s hb (.inr rfl) rfl ys_nil k13 (by decide) rfl) nilC))))))),(fun _ hx=>(by cases hx)),noApp,noPut,(eqC (kind_tok (i:=1) (by decide) k2) (eqC (tree_tok (c:=0) (by decide) k7) eqN)),(posC ⟨pl15,rfl⟩ noPos)⟩,hg,hcell,val63⟩
            exact D.path (cv1:=tk 383) (d1:=(d:Int)) val63U (fin := .pan (tk 322)) (by kernel_rfl)
           |ok y14=>
            obtain⟨⟨t16k,t16x,t16n,t16p,t16c⟩,m15⟩:=y14
            (try dsimp only [andThen,ok,bad] at hr)
            cases hr
            have D:ToldD b E (mkND g (d:Int) E.len hd w.heap.size [l,l.tail,m5,m5.tail,m11,m15] [.mk t6k t6x t6n t6p t6c,.mk t12k t12x t12n t12p t12c,.mk t16k t16x t16n t16p t16c] [] []) hd w [evAt 0 (tk 321),evIs wDefault 0 false (tk 321),evWant wCase 0 1 (tk 321),evPeek 1 (tk 137) (tk 321),evTree 37 [.int .i64 1] 1 2 (tk 256) 0 (tk 321),evWant wArrow 2 3 (tk 321),evTree 37 [.int .i64 1] 3 4 (tk 260) 1 (tk 321),evTree 100 [] 4 5 (tk 264) 2 (tk 321)] ⟨[],[],[],[]⟩ [(137,.int .i64 1,false),(256,.int .i64 39,false)] (tk 383) (d:Int):=⟨⟨h,rfl,rfl,rfl,rfl,consC (at_s rfl (by decide) _) (consC (is_s k0 _) (consC (want_s rfl (by decide) k1 rfl _) (consC (peek_s (by decide) (.inl rfl) _) (consC (tree_s he (.inr rfl) rfl ys_one k3 (.inl rfl) (by decide)) (consC (want_s rfl (by decide) k8 rfl _) (consC (tree_s he (.inr rfl) rfl ys_one k9 (.inl rfl) (by decide)) (consC (tree_s hb (.inr rfl) rfl ys_nil k13 (.inl rfl) (by decide)) nilC))))))),(fun _ hx=>(by cases hx)),noApp,noPut,(eqC (kind_tok (i:=1) (by decide) k2) (eqC (tree_tok (c:=0) (by decide) k7) eqN)),noPos⟩,hg,hcell,val63⟩
            exact D.path (cv1:=tk 383) (d1:=(d:Int)) val63U (fin := .tree (.nd (.int .i64 44) (.string ⟨#[]⟩) (.int .u64 0) (tk 128) [.ab (tk 256) (tk 257) (tk 258) (tk 259) 1,.ab (tk 260) (tk 261) (tk 262) (tk 263) 9,.ab (tk 264) (tk 265) (tk 266) (tk 267) 17]) 5) (by kernel_rfl)
       |false=>
        rw[k8,if_neg (by decide)] at hr
        (try dsimp only [andThen,ok,bad] at hr)
        cases hr
        have D:ToldD b E (mkND g (d:Int) E.len hd w.heap.size [l,l.tail,m5] [.mk t6k t6x t6n t6p t6c] [] []) hd w [evAt 0 (tk 321),evIs wDefault 0 false (tk 321),evWant wCase 0 1 (tk 321),evPeek 1 (tk 137) (tk 321),evTree 37 [.int .i64 1] 1 2 (tk 256) 0 (tk 321),evLack wArrow 2 (tk 321)] ⟨[],[],[],[]⟩ [(137,.int .i64 1,false),(256,.int .i64 39,false)] (tk 383) (d:Int):=⟨⟨h,rfl,rfl,rfl,rfl,consC (at_s rfl (by decide) _) (consC (is_s k0 _) (consC (want_s rfl (by decide) k1 rfl _) (consC (peek_s (by decide) (.inl rfl) _) (consC (tree_s he (.inr rfl) rfl ys_one k3 (.inl rfl) (by decide)) (consC (lack_s rfl (by decide) k8 _) nilC))))),(fun _ hx=>(by cases hx)),noApp,noPut,(eqC (kind_tok (i:=1) (by decide) k2) (eqC (tree_tok (c:=0) (by decide) k7) eqN)),noPos⟩,hg,hcell,val63⟩
        exact D.path (cv1:=tk 383) (d1:=(d:Int)) val63U (fin := .pan (tk 144)) (by kernel_rfl)
  |false=>
   rw[k1,if_neg (by decide)] at hr
   (try dsimp only [andThen,ok,bad] at hr)
   cases hr
   have D:ToldD b E (mkND g (d:Int) E.len hd w.heap.size [l] [] [] []) hd w [evAt 0 (tk 321),evIs wDefault 0 false (tk 321),evLack wCase 0 (tk 321)] ⟨[],[],[],[]⟩ [] (tk 383) (d:Int):=⟨⟨h,rfl,rfl,rfl,rfl,consC (at_s rfl (by decide) _) (consC (is_s k0 _) (consC (lack_s rfl (by decide) k1 _) nilC)),(fun _ hx=>(by cases hx)),noApp,noPut,eqN,noPos⟩,hg,hcell,val63⟩
   exact D.path (cv1:=tk 383) (d1:=(d:Int)) val63U (fin := .pan (tk 128)) (by kernel_rfl)
end Prs
end Go.Proofs.YtcbkeecabcbogaaGreatDoor
