/- Scripts: branches. (Printed by gen_stm.py.) -/
import Derived.Test.YtcbkeecabcbogaaGreatDoorGav
namespace Go.Proofs.YtcbkeecabcbogaaGreatDoor
open Go.RowKit
set_option linter.unusedSimpArgs false
set_option linter.unusedVariables false
namespace Prs
open Ev
theorem posC {N:SEnv}{k:Nat}{l:List Nat}(h:∃ n:Nat,tokVal N k=some (.int (if k<256 then .u64 else .i64) (n:Int)))(hl:PosOK N l):PosOK N (k :: l):=fun x hx=>by
 rcases List.mem_cons.1 hx with rfl|hx
 ·exact h
 ·exact hl x hx
theorem ys_at {b:Nat}{E:Env}{N:SEnv}(hlen:N.len=E.len){i:Nat}(hi:i<16):∀ p vs,AxN b N p→VRs p [tk (128+8 * i)] vs→vs=[.int .i64 (atP E.len (N.L i):Int)]:=fun p vs hax h=>by
 cases h with
 |cons h1 h=>
 cases h
 rw[hax.val (show tokVal N (128+8 * i)=some (.int .i64 (atP E.len (N.L i):Int)) by rw[show 128+8 * i=128+8 * i+0 from rfl,listTok N hi (by decide),←hlen];rfl) h1]
theorem eqN {N:SEnv}:∀ x∈([]:List (Nat×Value×Bool)),∃ v,tokVal N x.1=some v∧SameV v x.2.1 x.2.2:=fun _ h=>by cases h
theorem eqC {N:SEnv}{k:Nat}{v:Value}{r:Bool}{l:List (Nat×Value×Bool)}(h:∃ u,tokVal N k=some u∧SameV u v r)(hl:∀ x∈l,∃ v,tokVal N x.1=some v∧SameV v x.2.1 x.2.2):∀ x∈(k,v,r) :: l,∃ v,tokVal N x.1=some v∧SameV v x.2.1 x.2.2:=fun x hx=>by
 rcases List.mem_cons.1 hx with rfl|hx
 ·exact h
 ·exact hl x hx
theorem kind_tok {N:SEnv}{i:Nat}{n:Int}{r:Bool}(hi:i<16)(h:(kindP (N.L i)==n)=r):∃ v,tokVal N (129+8 * i)=some v∧SameV v (.int .i64 n) r:=by
 refine⟨.int .i64 (headT (N.L i)).kind,?_,?_⟩
 ·rw[show 129+8 * i=128+8 * i+1 by omega,listTok N hi (by decide)];rfl
 ·subst h
  rw[kindP_head]
  exact .int _ _ _
theorem tree_tok {N:SEnv}{c n:Nat}{r:Bool}(hc:c<16)(h:((N.T c).kind==n)=r):∃ v,tokVal N (256+4 * c)=some v∧SameV v (.int .i64 (n:Int)) r:=by
 refine⟨.int .i64 ((N.T c).kind:Int),?_,?_⟩
 ·unfold tokVal
  rw[if_neg (by omega),if_neg (by omega),if_pos (by omega),show (256+4 * c - 256) / 4=c by omega,show (256+4 * c - 256) % 4=0 by omega]
  rfl
 ·have:(((N.T c).kind:Int)==(n:Int))=r:=by
   rw[←h]
   cases hb:(N.T c).kind==n with
   |true=>simp at hb;simp[hb]
   |false=>simp at hb;simp;omega
  rw[←this]
  exact .int _ _ _
theorem args_x {b:Nat}{N:SEnv}{i:Nat}{v:Value}(hi:i<64)(h:N.X i=v):∀ p,AxN b N p→VRs p [tk (320+i)] [v]:=fun p hax => .cons (hax.vr (by rw[otherTok N hi,h])) .nil
set_option maxRecDepth 20000 in
theorem branch_c {b f p:Nat}{E:Env}{hd:Bool}(hh:Reads b E hd 50 #[rp b] (exprP E.len f 1 true))(hb:Reads b E hd 45 #[rp b] (blockP E.len f))(hr0:∀ p:Nat,Reads b E hd 49 #[rp b,.int .i64 (p:Int)] (branchP E.len f p)):Reads b E hd 49 #[rp b,.int .i64 (p:Int)] (branchP E.len (f+1) p):=by
 intro l w r h hr
 rw[branchP] at hr
 cases k1:exprP E.len f 1 true l with
 |none=>rw[k1] at hr;cases hr
 |some y2=>
  rw[k1] at hr
  cases y2 with
  |error pl3=>
   (try dsimp only [andThen,ok,bad] at hr)
   cases hr
   have D:Told b E (mkN E.len hd w.heap.size [l] [] [] [(p:Int),(pl3:Int)]) hd w [evBad 50 [] 0 3 (tk 321)] ⟨[],[],[],[322,323]⟩ []:=
    ⟨h,rfl,rfl,rfl,rfl,consC (bad_s hh (.inr rfl) rfl ys_nil k1 (by decide) rfl) nilC,fun _ hx=>(by cases hx),noApp,noPut,eqN,(posC ⟨p,rfl⟩ (posC ⟨pl3,rfl⟩ noPos))⟩
   exact D.path (.inr rfl) (args:=[tk 322]) (args':=[.int .i64 (p:Int)]) (args_x (i:=2) (by decide) rfl) (fin := .pan (tk 323)) (by kernel_rfl)
  |ok y2=>
   obtain⟨⟨t4k,t4x,t4n,t4p,t4c⟩,m3⟩:=y2
   (try dsimp only [andThen,ok,bad] at hr)
   cases k5:blockP E.len f m3 with
   |none=>rw[k5] at hr;cases hr
   |some y6=>
    rw[k5] at hr
    cases y6 with
    |error pl7=>
     (try dsimp only [andThen,ok,bad] at hr)
     cases hr
     have D:Told b E (mkN E.len hd w.heap.size [l,m3] [.mk t4k t4x t4n t4p t4c] [] [(p:Int),(pl7:Int)]) hd w [evTree 50 [] 0 1 (tk 256) 0 (tk 321),evBad 45 [] 1 3 (tk 321)] ⟨[],[],[],[322,323]⟩ []:=
      ⟨h,rfl,rfl,rfl,rfl,consC (tree_s hh (.inr rfl) rfl ys_nil k1 (.inl rfl) (by decide)) (consC (bad_s hb (.inr rfl) rfl ys_nil k5 (by decide) rfl) nilC),fun _ hx=>(by cases hx),noApp,noPut,eqN,(posC ⟨p,rfl⟩ (posC ⟨pl7,rfl⟩ noPos))⟩
     exact D.path (.inr rfl) (args:=[tk 322]) (args':=[.int .i64 (p:Int)]) (args_x (i:=2) (by decide) rfl) (fin := .pan (tk 323)) (by kernel_rfl)
    |ok y6=>
     obtain⟨⟨t8k,t8x,t8n,t8p,t8c⟩,m7⟩:=y6
     (try dsimp only [andThen,ok,bad] at hr)
     cases k9:isP wElse m7 with
     |true=>
      rw[k9,if_pos rfl] at hr
      cases k10:isP wIf m7.tail with
      |true=>
       rw[k10,if_pos rfl] at hr
       have hat:True:=trivial
       cases k11:branchP E.len f (atP E.len m7.tail) m7.tail.tail with
       |none=>rw[k11] at hr;cases hr
       |some y12=>
        rw[k11] at hr
        cases y12 with
        |error pl13=>
         (try dsimp only [andThen,ok,bad] at hr)
         cases hr
         have D:Told b E (mkN E.len hd w.heap.size [l,m3,m7,m7.tail,m7.tail.tail] [.mk t4k t4x t4n t4p t4c,.mk t8k t8x t8n t8p t8c] [] [(p:Int),(pl13:Int)]) hd w [evTree 50 [] 0 1 (tk 256) 0 (tk 321),evTree 45 [] 1 2 (tk 260) 1 (tk 321),evTake wElse 2 3 (tk 321),evAt 3 (tk 321),evTake wIf 3 4 (tk 321),evBad 49 [tk 152] 4 3 (tk 321)] ⟨[],[],[],[322,323]⟩ []:=
          ⟨h,rfl,rfl,rfl,rfl,consC (tree_s hh (.inr rfl) rfl ys_nil k1 (.inl rfl) (by decide)) (consC (tree_s hb (.inr rfl) rfl ys_nil k5 (.inl rfl) (by decide)) (consC (take_s k9 rfl _) (consC (at_s rfl (by decide) _) (consC (take_s k10 rfl _) (consC (bad_s (hr0 _) (.inr rfl) rfl (ys_at (i:=3) rfl (by decide)) k11 (by decide) rfl) nilC))))),fun _ hx=>(by cases hx),noApp,noPut,eqN,(posC ⟨p,rfl⟩ (posC ⟨pl13,rfl⟩ noPos))⟩
         exact D.path (.inr rfl) (args:=[tk 322]) (args':=[.int .i64 (p:Int)]) (args_x (i:=2) (by decide) rfl) (fin := .pan (tk 323)) (by kernel_rfl)
        |ok y12=>
         obtain⟨⟨t14k,t14x,t14n,t14p,t14c⟩,m13⟩:=y12
         (try dsimp only [andThen,ok,bad] at hr)
         cases hr
         have D:Told b E (mkN E.len hd w.heap.size [l,m3,m7,m7.tail,m7.tail.tail,m13] [.mk t4k t4x t4n t4p t4c,.mk t8k t8x t8n t8p t8c,.mk t14k t14x t14n t14p t14c] [] [(p:Int)]) hd w [evTree 50 [] 0 1 (tk 256) 0 (tk 321),evTree 45 [] 1 2 (tk 260) 1 (tk 321),evTake wElse 2 3 (tk 321),evAt 3 (tk 321),evTake wIf 3 4 (tk 321),evTree 49 [tk 152] 4 5 (tk 264) 2 (tk 321)] ⟨[],[],[],[322]⟩ []:=
          ⟨h,rfl,rfl,rfl,rfl,consC (tree_s hh (.inr rfl) rfl ys_nil k1 (.inl rfl) (by decide)) (consC (tree_s hb (.inr rfl) rfl ys_nil k5 (.inl rfl) (by decide)) (consC (take_s k9 rfl _) (consC (at_s rfl (by decide) _) (consC (take_s k10 rfl _) (consC (tree_s (hr0 _) (.inr rfl) rfl (ys_at (i:=3) rfl (by decide)) k11 (.inl rfl) (by decide)) nilC))))),fun _ hx=>(by cases hx),noApp,noPut,eqN,(posC ⟨p,rfl⟩ noPos)⟩
         exact D.path (.inr rfl) (args:=[tk 322]) (args':=[.int .i64 (p:Int)]) (args_x (i:=2) (by decide) rfl) (fin := .tree (.nd (.int .i64 25) (.string ⟨#[]⟩) (.int .u64 0) (tk 322) [.ab (tk 256) (tk 257) (tk 258) (tk 259) 1,.ab (tk 260) (tk 261) (tk 262) (tk 263) 9,.ab (tk 264) (tk 265) (tk 266) (tk 267) 17]) 5) (by kernel_rfl)
      |false=>
       rw[k10,if_neg (by decide)] at hr
       cases k11:blockP E.len f m7.tail with
       |none=>rw[k11] at hr;cases hr
       |some y12=>
        rw[k11] at hr
        cases y12 with
        |error pl13=>
         (try dsimp only [andThen,ok,bad] at hr)
         cases hr
         have D:Told b E (mkN E.len hd w.heap.size [l,m3,m7,m7.tail] [.mk t4k t4x t4n t4p t4c,.mk t8k t8x t8n t8p t8c] [] [(p:Int),(pl13:Int)]) hd w [evTree 50 [] 0 1 (tk 256) 0 (tk 321),evTree 45 [] 1 2 (tk 260) 1 (tk 321),evTake wElse 2 3 (tk 321),evAt 3 (tk 321),evMiss wIf 3 (tk 321),evBad 45 [] 3 3 (tk 321)] ⟨[],[],[],[322,323]⟩ []:=
          ⟨h,rfl,rfl,rfl,rfl,consC (tree_s hh (.inr rfl) rfl ys_nil k1 (.inl rfl) (by decide)) (consC (tree_s hb (.inr rfl) rfl ys_nil k5 (.inl rfl) (by decide)) (consC (take_s k9 rfl _) (consC (at_s rfl (by decide) _) (consC (miss_s k10 _) (consC (bad_s hb (.inr rfl) rfl ys_nil k11 (by decide) rfl) nilC))))),fun _ hx=>(by cases hx),noApp,noPut,eqN,(posC ⟨p,rfl⟩ (posC ⟨pl13,rfl⟩ noPos))⟩
         exact D.path (.inr rfl) (args:=[tk 322]) (args':=[.int .i64 (p:Int)]) (args_x (i:=2) (by decide) rfl) (fin := .pan (tk 323)) (by kernel_rfl)
        |ok y12=>
         obtain⟨⟨t14k,t14x,t14n,t14p,t14c⟩,m13⟩:=y12
         (try dsimp only [andThen,ok,bad] at hr)
         cases hr
         have D:Told b E (mkN E.len hd w.heap.size [l,m3,m7,m7.tail,m13] [.mk t4k t4x t4n t4p t4c,.mk t8k t8x t8n t8p t8c,.mk t14k t14x t14n t14p t14c] [] [(p:Int)]) hd w [evTree 50 [] 0 1 (tk 256) 0 (tk 321),evTree 45 [] 1 2 (tk 260) 1 (tk 321),evTake wElse 2 3 (tk 321),evAt 3 (tk 321),evMiss wIf 3 (tk 321),evTree 45 [] 3 4 (tk 264) 2 (tk 321)] ⟨[],[],[],[322]⟩ []:=
          ⟨h,rfl,rfl,rfl,rfl,consC (tree_s hh (.inr rfl) rfl ys_nil k1 (.inl rfl) (by decide)) (consC (tree_s hb (.inr rfl) rfl ys_nil k5 (.inl rfl) (by decide)) (consC (take_s k9 rfl _) (consC (at_s rfl (by decide) _) (consC (miss_s k10 _) (consC (tree_s hb (.inr rfl) rfl ys_nil k11 (.inl rfl) (by decide)) nilC))))),fun _ hx=>(by cases hx),noApp,noPut,eqN,(posC ⟨p,rfl⟩ noPos)⟩
         exact D.path (.inr rfl) (args:=[tk 322]) (args':=[.int .i64 (p:Int)]) (args_x (i:=2) (by decide) rfl) (fin := .tree (.nd (.int .i64 25) (.string ⟨#[]⟩) (.int .u64 0) (tk 322) [.ab (tk 256) (tk 257) (tk 258) (tk 259) 1,.ab (tk 260) (tk 261) (tk 262) (tk 263) 9,.ab (tk 264) (tk 265) (tk 266) (tk 267) 17]) 4) (by kernel_rfl)
     |false=>
      rw[k9,if_neg (by decide)] at hr
      cases hr
      have D:Told b E (mkN E.len hd w.heap.size [l,m3,m7] [.mk t4k t4x t4n t4p t4c,.mk t8k t8x t8n t8p t8c] [] [(p:Int)]) hd w [evTree 50 [] 0 1 (tk 256) 0 (tk 321),evTree 45 [] 1 2 (tk 260) 1 (tk 321),evMiss wElse 2 (tk 321)] ⟨[],[],[],[322]⟩ []:=
       ⟨h,rfl,rfl,rfl,rfl,consC (tree_s hh (.inr rfl) rfl ys_nil k1 (.inl rfl) (by decide)) (consC (tree_s hb (.inr rfl) rfl ys_nil k5 (.inl rfl) (by decide)) (consC (miss_s k9 _) nilC)),fun _ hx=>(by cases hx),noApp,noPut,eqN,(posC ⟨p,rfl⟩ noPos)⟩
      exact D.path (.inr rfl) (args:=[tk 322]) (args':=[.int .i64 (p:Int)]) (args_x (i:=2) (by decide) rfl) (fin := .tree (.nd (.int .i64 25) (.string ⟨#[]⟩) (.int .u64 0) (tk 322) [.ab (tk 256) (tk 257) (tk 258) (tk 259) 1,.ab (tk 260) (tk 261) (tk 262) (tk 263) 9]) 2) (by kernel_rfl)
theorem ys_one {b:Nat}{N:SEnv}{n:Int}:∀ p vs,AxN b N p→VRs p [.int .i64 n] vs→vs=[.int .i64 n]:=fun p vs hax h=>by
 cases h with
 |cons h1 h=>
 cases h
 cases h1
 rfl
set_option maxRecDepth 20000 in
theorem stmt_c {b f:Nat}{E:Env}{hd:Bool}(he:Reads b E hd 37 #[rp b,.int .i64 1] (exprP E.len f 1 hd))(ht:Reads b E hd 48 #[rp b] (typP E.len f))(hh:Reads b E hd 50 #[rp b] (exprP E.len f 1 true))(hb:Reads b E hd 45 #[rp b] (blockP E.len f))(hbr:∀ p:Nat,Reads b E hd 49 #[rp b,.int .i64 (p:Int)] (branchP E.len f p))(hse:∀ p:Nat,Reads b E hd 51 #[rp b,.int .i64 (p:Int)] (selectionP E.len f p))(hsi:Reads b E hd 52 #[rp b] (simpleP E.len f hd)):Reads b E hd 26 #[rp b] (stmtP E.len (f+1) hd):=by
 intro l w r h hr
 rw[stmtP] at hr
 cases k1:isP wCu l with
 |true=>
  rw[k1,if_pos rfl] at hr
  cases k2:blockP E.len f l with
  |none=>rw[k2] at hr;cases hr
  |some y3=>
   rw[k2] at hr
   cases y3 with
   |error pl4=>
    (try dsimp only [andThen,ok,bad] at hr)
    cases hr
    have D:Told b E (mkN E.len hd w.heap.size [l] [] [] [(pl4:Int)]) hd w [evAt 0 (tk 321),evIs wCu 0 true (tk 321),evBad 45 [] 0 2 (tk 321)] ⟨[],[],[],[322]⟩ []:=
     ⟨h,rfl,rfl,rfl,rfl,consC (at_s rfl (by decide) _) (consC (is_s k1 _) (consC (bad_s hb (.inr rfl) rfl ys_nil k2 (by decide) rfl) nilC)),fun _ hx=>(by cases hx),noApp,noPut,eqN,(posC ⟨pl4,rfl⟩ noPos)⟩
    exact D.path (.inr rfl) (args:=[]) (args':=[]) (fun _ _ => .nil) (fin := .pan (tk 322)) (by kernel_rfl)
   |ok y3=>
    obtain⟨⟨t5k,t5x,t5n,t5p,t5c⟩,m4⟩:=y3
    (try dsimp only [andThen,ok,bad] at hr)
    cases hr
    have D:Told b E (mkN E.len hd w.heap.size [l,m4] [.mk t5k t5x t5n t5p t5c] [] []) hd w [evAt 0 (tk 321),evIs wCu 0 true (tk 321),evTree 45 [] 0 1 (tk 256) 0 (tk 321)] ⟨[],[],[],[]⟩ []:=
     ⟨h,rfl,rfl,rfl,rfl,consC (at_s rfl (by decide) _) (consC (is_s k1 _) (consC (tree_s hb (.inr rfl) rfl ys_nil k2 (.inl rfl) (by decide)) nilC)),fun _ hx=>(by cases hx),noApp,noPut,eqN,noPos⟩
    exact D.path (.inr rfl) (args:=[]) (args':=[]) (fun _ _ => .nil) (fin := .tree (.ab (tk 256) (tk 257) (tk 258) (tk 259) 1) 1) (by kernel_rfl)
 |false=>
  rw[k1,if_neg (by decide)] at hr
  cases k2:isP wVar l with
  |true=>
   rw[k2,if_pos rfl] at hr
   unfold nameP at hr
   cases k3:kindP l.tail==1 with
   |true=>
    rw[k3,if_pos rfl] at hr
    (try dsimp only [andThen,ok,bad] at hr)
    simp only[textP_head,placeP_head] at hr
    cases k4:typP E.len f l.tail.tail with
    |none=>rw[k4] at hr;cases hr
    |some y5=>
     rw[k4] at hr
     cases y5 with
     |error pl6=>
      (try dsimp only [andThen,ok,bad] at hr)
      cases hr
      have D:Told b E (mkN E.len hd w.heap.size [l,l.tail,l.tail.tail] [] [] [(pl6:Int)]) hd w [evAt 0 (tk 321),evIs wCu 0 false (tk 321),evTake wVar 0 1 (tk 321),evName 1 2 (tk 321),evBad 48 [] 2 2 (tk 321)] ⟨[],[],[],[322]⟩ []:=
       ⟨h,rfl,rfl,rfl,rfl,consC (at_s rfl (by decide) _) (consC (is_s k1 _) (consC (take_s k2 rfl _) (consC (name_s (by decide) k3 rfl _) (consC (bad_s ht (.inr rfl) rfl ys_nil k4 (by decide) rfl) nilC)))),fun _ hx=>(by cases hx),noApp,noPut,eqN,(posC ⟨pl6,rfl⟩ noPos)⟩
      exact D.path (.inr rfl) (args:=[]) (args':=[]) (fun _ _ => .nil) (fin := .pan (tk 322)) (by kernel_rfl)
     |ok y5=>
      obtain⟨⟨t7k,t7x,t7n,t7p,t7c⟩,m6⟩:=y5
      (try dsimp only [andThen,ok,bad] at hr)
      cases hr
      have D:Told b E (mkN E.len hd w.heap.size [l,l.tail,l.tail.tail,m6] [.mk t7k t7x t7n t7p t7c] [] []) hd w [evAt 0 (tk 321),evIs wCu 0 false (tk 321),evTake wVar 0 1 (tk 321),evName 1 2 (tk 321),evTree 48 [] 2 3 (tk 256) 0 (tk 321)] ⟨[],[],[],[]⟩ []:=
       ⟨h,rfl,rfl,rfl,rfl,consC (at_s rfl (by decide) _) (consC (is_s k1 _) (consC (take_s k2 rfl _) (consC (name_s (by decide) k3 rfl _) (consC (tree_s ht (.inr rfl) rfl ys_nil k4 (.inl rfl) (by decide)) nilC)))),fun _ hx=>(by cases hx),noApp,noPut,eqN,noPos⟩
      exact D.path (.inr rfl) (args:=[]) (args':=[]) (fun _ _ => .nil) (fin := .tree (.nd (.int .i64 22) (tk 138) (.int .u64 0) (tk 128) [.ab (tk 256) (tk 257) (tk 258) (tk 259) 1]) 3) (by kernel_rfl)
   |false=>
    rw[k3,if_neg (by decide)] at hr
    (try dsimp only [andThen,ok,bad] at hr)
    cases hr
    have D:Told b E (mkN E.len hd w.heap.size [l,l.tail] [] [] []) hd w [evAt 0 (tk 321),evIs wCu 0 false (tk 321),evTake wVar 0 1 (tk 321),evNone 1 (tk 321)] ⟨[],[],[],[]⟩ []:=
     ⟨h,rfl,rfl,rfl,rfl,consC (at_s rfl (by decide) _) (consC (is_s k1 _) (consC (take_s k2 rfl _) (consC (none_s rfl (by decide) k3 _) nilC))),fun _ hx=>(by cases hx),noApp,noPut,eqN,noPos⟩
    exact D.path (.inr rfl) (args:=[]) (args':=[]) (fun _ _ => .nil) (fin := .pan (tk 136)) (by kernel_rfl)
  |false=>
   rw[k2,if_neg (by decide)] at hr
   cases k3:isP wIf l with
   |true=>
    rw[k3,if_pos rfl] at hr
    cases k4:branchP E.len f (atP E.len l) l.tail with
    |none=>rw[k4] at hr;cases hr
    |some y5=>
     rw[k4] at hr
     cases y5 with
     |error pl6=>
      (try dsimp only [andThen,ok,bad] at hr)
      cases hr
      have D:Told b E (mkN E.len hd w.heap.size [l,l.tail] [] [] [(pl6:Int)]) hd w [evAt 0 (tk 321),evIs wCu 0 false (tk 321),evMiss wVar 0 (tk 321),evTake wIf 0 1 (tk 321),evBad 49 [tk 128] 1 2 (tk 321)] ⟨[],[],[],[322]⟩ []:=
       ⟨h,rfl,rfl,rfl,rfl,consC (at_s rfl (by decide) _) (consC (is_s k1 _) (consC (miss_s k2 _) (consC (take_s k3 rfl _) (consC (bad_s (hbr _) (.inr rfl) rfl (ys_at (i:=0) rfl (by decide)) k4 (by decide) rfl) nilC)))),fun _ hx=>(by cases hx),noApp,noPut,eqN,(posC ⟨pl6,rfl⟩ noPos)⟩
      exact D.path (.inr rfl) (args:=[]) (args':=[]) (fun _ _ => .nil) (fin := .pan (tk 322)) (by kernel_rfl)
     |ok y5=>
      obtain⟨⟨t7k,t7x,t7n,t7p,t7c⟩,m6⟩:=y5
      (try dsimp only [andThen,ok,bad] at hr)
      cases hr
      have D:Told b E (mkN E.len hd w.heap.size [l,l.tail,m6] [.mk t7k t7x t7n t7p t7c] [] []) hd w [evAt 0 (tk 321),evIs wCu 0 false (tk 321),evMiss wVar 0 (tk 321),evTake wIf 0 1 (tk 321),evTree 49 [tk 128] 1 2 (tk 256) 0 (tk 321)] ⟨[],[],[],[]⟩ []:=
       ⟨h,rfl,rfl,rfl,rfl,consC (at_s rfl (by decide) _) (consC (is_s k1 _) (consC (miss_s k2 _) (consC (take_s k3 rfl _) (consC (tree_s (hbr _) (.inr rfl) rfl (ys_at (i:=0) rfl (by decide)) k4 (.inl rfl) (by decide)) nilC)))),fun _ hx=>(by cases hx),noApp,noPut,eqN,noPos⟩
      exact D.path (.inr rfl) (args:=[]) (args':=[]) (fun _ _ => .nil) (fin := .tree (.ab (tk 256) (tk 257) (tk 258) (tk 259) 1) 2) (by kernel_rfl)
   |false=>
    rw[k3,if_neg (by decide)] at hr
    cases k4:isP wFor l with
    |true=>
     rw[k4,if_pos rfl] at hr
     cases k5:exprP E.len f 1 true l.tail with
     |none=>rw[k5] at hr;cases hr
     |some y6=>
      rw[k5] at hr
      cases y6 with
      |error pl7=>
       (try dsimp only [andThen,ok,bad] at hr)
       cases hr
       have D:Told b E (mkN E.len hd w.heap.size [l,l.tail] [] [] [(pl7:Int)]) hd w [evAt 0 (tk 321),evIs wCu 0 false (tk 321),evMiss wVar 0 (tk 321),evMiss wIf 0 (tk 321),evTake wFor 0 1 (tk 321),evBad 50 [] 1 2 (tk 321)] ⟨[],[],[],[322]⟩ []:=
        ⟨h,rfl,rfl,rfl,rfl,consC (at_s rfl (by decide) _) (consC (is_s k1 _) (consC (miss_s k2 _) (consC (miss_s k3 _) (consC (take_s k4 rfl _) (consC (bad_s hh (.inr rfl) rfl ys_nil k5 (by decide) rfl) nilC))))),fun _ hx=>(by cases hx),noApp,noPut,eqN,(posC ⟨pl7,rfl⟩ noPos)⟩
       exact D.path (.inr rfl) (args:=[]) (args':=[]) (fun _ _ => .nil) (fin := .pan (tk 322)) (by kernel_rfl)
      |ok y6=>
       obtain⟨⟨t8k,t8x,t8n,t8p,t8c⟩,m7⟩:=y6
       (try dsimp only [andThen,ok,bad] at hr)
       cases k9:blockP E.len f m7 with
       |none=>rw[k9] at hr;cases hr
       |some y10=>
        rw[k9] at hr
        cases y10 with
        |error pl11=>
         (try dsimp only [andThen,ok,bad] at hr)
         cases hr
         have D:Told b E (mkN E.len hd w.heap.size [l,l.tail,m7] [.mk t8k t8x t8n t8p t8c] [] [(pl11:Int)]) hd w [evAt 0 (tk 321),evIs wCu 0 false (tk 321),evMiss wVar 0 (tk 321),evMiss wIf 0 (tk 321),evTake wFor 0 1 (tk 321),evTree 50 [] 1 2 (tk 256) 0 (tk 321),evBad 45 [] 2 2 (tk 321)] ⟨[],[],[],[322]⟩ []:=
          ⟨h,rfl,rfl,rfl,rfl,consC (at_s rfl (by decide) _) (consC (is_s k1 _) (consC (miss_s k2 _) (consC (miss_s k3 _) (consC (take_s k4 rfl _) (consC (tree_s hh (.inr rfl) rfl ys_nil k5 (.inl rfl) (by decide)) (consC (bad_s hb (.inr rfl) rfl ys_nil k9 (by decide) rfl) nilC)))))),fun _ hx=>(by cases hx),noApp,noPut,eqN,(posC ⟨pl11,rfl⟩ noPos)⟩
         exact D.path (.inr rfl) (args:=[]) (args':=[]) (fun _ _ => .nil) (fin := .pan (tk 322)) (by kernel_rfl)
        |ok y10=>
         obtain⟨⟨t12k,t12x,t12n,t12p,t12c⟩,m11⟩:=y10
         (try dsimp only [andThen,ok,bad] at hr)
         cases hr
         have D:Told b E (mkN E.len hd w.heap.size [l,l.tail,m7,m11] [.mk t8k t8x t8n t8p t8c,.mk t12k t12x t12n t12p t12c] [] []) hd w [evAt 0 (tk 321),evIs wCu 0 false (tk 321),evMiss wVar 0 (tk 321),evMiss wIf 0 (tk 321),evTake wFor 0 1 (tk 321),evTree 50 [] 1 2 (tk 256) 0 (tk 321),evTree 45 [] 2 3 (tk 260) 1 (tk 321)] ⟨[],[],[],[]⟩ []:=
          ⟨h,rfl,rfl,rfl,rfl,consC (at_s rfl (by decide) _) (consC (is_s k1 _) (consC (miss_s k2 _) (consC (miss_s k3 _) (consC (take_s k4 rfl _) (consC (tree_s hh (.inr rfl) rfl ys_nil k5 (.inl rfl) (by decide)) (consC (tree_s hb (.inr rfl) rfl ys_nil k9 (.inl rfl) (by decide)) nilC)))))),fun _ hx=>(by cases hx),noApp,noPut,eqN,noPos⟩
         exact D.path (.inr rfl) (args:=[]) (args':=[]) (fun _ _ => .nil) (fin := .tree (.nd (.int .i64 26) (.string ⟨#[]⟩) (.int .u64 0) (tk 128) [.ab (tk 256) (tk 257) (tk 258) (tk 259) 1,.ab (tk 260) (tk 261) (tk 262) (tk 263) 9]) 3) (by kernel_rfl)
    |false=>
     rw[k4,if_neg (by decide)] at hr
     cases k5:isP wBreak l with
     |true=>
      rw[k5,if_pos rfl] at hr
      cases hr
      have D:Told b E (mkN E.len hd w.heap.size [l,l.tail] [] [] []) hd w [evAt 0 (tk 321),evIs wCu 0 false (tk 321),evMiss wVar 0 (tk 321),evMiss wIf 0 (tk 321),evMiss wFor 0 (tk 321),evTake wBreak 0 1 (tk 321)] ⟨[],[],[],[]⟩ []:=
       ⟨h,rfl,rfl,rfl,rfl,consC (at_s rfl (by decide) _) (consC (is_s k1 _) (consC (miss_s k2 _) (consC (miss_s k3 _) (consC (miss_s k4 _) (consC (take_s k5 rfl _) nilC))))),fun _ hx=>(by cases hx),noApp,noPut,eqN,noPos⟩
      exact D.path (.inr rfl) (args:=[]) (args':=[]) (fun _ _ => .nil) (fin := .tree (.nd (.int .i64 27) (.string ⟨#[]⟩) (.int .u64 0) (tk 128) []) 1) (by kernel_rfl)
     |false=>
      rw[k5,if_neg (by decide)] at hr
      cases k6:isP wContinue l with
      |true=>
       rw[k6,if_pos rfl] at hr
       cases hr
       have D:Told b E (mkN E.len hd w.heap.size [l,l.tail] [] [] []) hd w [evAt 0 (tk 321),evIs wCu 0 false (tk 321),evMiss wVar 0 (tk 321),evMiss wIf 0 (tk 321),evMiss wFor 0 (tk 321),evMiss wBreak 0 (tk 321),evTake wContinue 0 1 (tk 321)] ⟨[],[],[],[]⟩ []:=
        ⟨h,rfl,rfl,rfl,rfl,consC (at_s rfl (by decide) _) (consC (is_s k1 _) (consC (miss_s k2 _) (consC (miss_s k3 _) (consC (miss_s k4 _) (consC (miss_s k5 _) (consC (take_s k6 rfl _) nilC)))))),fun _ hx=>(by cases hx),noApp,noPut,eqN,noPos⟩
       exact D.path (.inr rfl) (args:=[]) (args':=[]) (fun _ _ => .nil) (fin := .tree (.nd (.int .i64 27) (.string ⟨#[]⟩) (.int .u64 1) (tk 128) []) 1) (by kernel_rfl)
      |false=>
       rw[k6,if_neg (by decide)] at hr
       cases k7:isP wReturn l with
       |true=>
        rw[k7,if_pos rfl] at hr
        cases k8:kindP l.tail==5 with
        |true=>
         rw[k8,Bool.not_true,Bool.false_and,if_neg (by decide)] at hr
         cases hr
         have D:Told b E (mkN E.len hd w.heap.size [l,l.tail] [] [] []) hd w [evAt 0 (tk 321),evIs wCu 0 false (tk 321),evMiss wVar 0 (tk 321),evMiss wIf 0 (tk 321),evMiss wFor 0 (tk 321),evMiss wBreak 0 (tk 321),evMiss wContinue 0 (tk 321),evTake wReturn 0 1 (tk 321),evPeek 1 (tk 137) (tk 321)] ⟨[],[],[],[]⟩ [(137,.int .i64 5,true)]:=
          ⟨h,rfl,rfl,rfl,rfl,consC (at_s rfl (by decide) _) (consC (is_s k1 _) (consC (miss_s k2 _) (consC (miss_s k3 _) (consC (miss_s k4 _) (consC (miss_s k5 _) (consC (miss_s k6 _) (consC (take_s k7 rfl _) (consC (peek_s (by decide) (.inl rfl) _) nilC)))))))),fun _ hx=>(by cases hx),noApp,noPut,(eqC (kind_tok (i:=1) (by decide) k8) eqN),noPos⟩
         exact D.path (.inr rfl) (args:=[]) (args':=[]) (fun _ _ => .nil) (fin := .tree (.nd (.int .i64 28) (.string ⟨#[]⟩) (.int .u64 0) (tk 128) []) 1) (by kernel_rfl)
        |false=>
         rw[k8,Bool.not_false,Bool.true_and] at hr
         cases k9:isP wUc l.tail with
         |true=>
          rw[k9,Bool.not_true,if_neg (by decide)] at hr
          cases hr
          have D:Told b E (mkN E.len hd w.heap.size [l,l.tail] [] [] []) hd w [evAt 0 (tk 321),evIs wCu 0 false (tk 321),evMiss wVar 0 (tk 321),evMiss wIf 0 (tk 321),evMiss wFor 0 (tk 321),evMiss wBreak 0 (tk 321),evMiss wContinue 0 (tk 321),evTake wReturn 0 1 (tk 321),evPeek 1 (tk 137) (tk 321),evIs wUc 1 true (tk 321)] ⟨[],[],[],[]⟩ [(137,.int .i64 5,false)]:=
           ⟨h,rfl,rfl,rfl,rfl,consC (at_s rfl (by decide) _) (consC (is_s k1 _) (consC (miss_s k2 _) (consC (miss_s k3 _) (consC (miss_s k4 _) (consC (miss_s k5 _) (consC (miss_s k6 _) (consC (take_s k7 rfl _) (consC (peek_s (by decide) (.inl rfl) _) (consC (is_s k9 _) nilC))))))))),fun _ hx=>(by cases hx),noApp,noPut,(eqC (kind_tok (i:=1) (by decide) k8) eqN),noPos⟩
          exact D.path (.inr rfl) (args:=[]) (args':=[]) (fun _ _ => .nil) (fin := .tree (.nd (.int .i64 28) (.string ⟨#[]⟩) (.int .u64 0) (tk 128) []) 1) (by kernel_rfl)
         |false=>
          rw[k9,Bool.not_false,if_pos rfl] at hr
          cases k10:exprP E.len f 1 hd l.tail with
          |none=>rw[k10] at hr;cases hr
          |some y11=>
           rw[k10] at hr
           cases y11 with
           |error pl12=>
            (try dsimp only [andThen,ok,bad] at hr)
            cases hr
            have D:Told b E (mkN E.len hd w.heap.size [l,l.tail] [] [] [(pl12:Int)]) hd w [evAt 0 (tk 321),evIs wCu 0 false (tk 321),evMiss wVar 0 (tk 321),evMiss wIf 0 (tk 321),evMiss wFor 0 (tk 321),evMiss wBreak 0 (tk 321),evMiss wContinue 0 (tk 321),evTake wReturn 0 1 (tk 321),evPeek 1 (tk 137) (tk 321),evIs wUc 1 false (tk 321),evBad 37 [.int .i64 1] 1 2 (tk 321)] ⟨[],[],[],[322]⟩ [(137,.int .i64 5,false)]:=
             ⟨h,rfl,rfl,rfl,rfl,consC (at_s rfl (by decide) _) (consC (is_s k1 _) (consC (miss_s k2 _) (consC (miss_s k3 _) (consC (miss_s k4 _) (consC (miss_s k5 _) (consC (miss_s k6 _) (consC (take_s k7 rfl _) (consC (peek_s (by decide) (.inl rfl) _) (consC (is_s k9 _) (consC (bad_s he (.inr rfl) rfl ys_one k10 (by decide) rfl) nilC)))))))))),fun _ hx=>(by cases hx),noApp,noPut,(eqC (kind_tok (i:=1) (by decide) k8) eqN),(posC ⟨pl12,rfl⟩ noPos)⟩
            exact D.path (.inr rfl) (args:=[]) (args':=[]) (fun _ _ => .nil) (fin := .pan (tk 322)) (by kernel_rfl)
           |ok y11=>
            obtain⟨⟨t13k,t13x,t13n,t13p,t13c⟩,m12⟩:=y11
            (try dsimp only [andThen,ok,bad] at hr)
            cases hr
            have D:Told b E (mkN E.len hd w.heap.size [l,l.tail,m12] [.mk t13k t13x t13n t13p t13c] [] []) hd w [evAt 0 (tk 321),evIs wCu 0 false (tk 321),evMiss wVar 0 (tk 321),evMiss wIf 0 (tk 321),evMiss wFor 0 (tk 321),evMiss wBreak 0 (tk 321),evMiss wContinue 0 (tk 321),evTake wReturn 0 1 (tk 321),evPeek 1 (tk 137) (tk 321),evIs wUc 1 false (tk 321),evTree 37 [.int .i64 1] 1 2 (tk 256) 0 (tk 321)] ⟨[],[],[],[]⟩ [(137,.int .i64 5,false)]:=
             ⟨h,rfl,rfl,rfl,rfl,consC (at_s rfl (by decide) _) (consC (is_s k1 _) (consC (miss_s k2 _) (consC (miss_s k3 _) (consC (miss_s k4 _) (consC (miss_s k5 _) (consC (miss_s k6 _) (consC (take_s k7 rfl _) (consC (peek_s (by decide) (.inl rfl) _) (consC (is_s k9 _) (consC (tree_s he (.inr rfl) rfl ys_one k10 (.inl rfl) (by decide)) nilC)))))))))),fun _ hx=>(by cases hx),noApp,noPut,(eqC (kind_tok (i:=1) (by decide) k8) eqN),noPos⟩
            exact D.path (.inr rfl) (args:=[]) (args':=[]) (fun _ _ => .nil) (fin := .tree (.nd (.int .i64 28) (.string ⟨#[]⟩) (.int .u64 0) (tk 128) [.ab (tk 256) (tk 257) (tk 258) (tk 259) 1]) 2) (by kernel_rfl)
       |false=>
        rw[k7,if_neg (by decide)] at hr
        cases kgo:isP wGo l with
        |true=>
         rw[kgo,Bool.true_or,if_pos rfl] at hr
         cases k8:exprP E.len f 1 hd l.tail with
         |none=>rw[k8] at hr;cases hr
         |some y9=>
          rw[k8] at hr
          cases y9 with
          |error pl10=>
           (try dsimp only [andThen,ok,bad] at hr)
           cases hr
           have D:Told b E (mkN E.len hd w.heap.size [l,l.tail] [] [] [(pl10:Int)]) hd w [evAt 0 (tk 321),evIs wCu 0 false (tk 321),evMiss wVar 0 (tk 321),evMiss wIf 0 (tk 321),evMiss wFor 0 (tk 321),evMiss wBreak 0 (tk 321),evMiss wContinue 0 (tk 321),evMiss wReturn 0 (tk 321),evIs wGo 0 true (tk 321),evTake wGo 0 1 (tk 321),evAt 1 (tk 321),evBad 37 [.int .i64 1] 1 2 (tk 321)] ⟨[],[],[],[322]⟩ []:=
            ⟨h,rfl,rfl,rfl,rfl,consC (at_s rfl (by decide) _) (consC (is_s k1 _) (consC (miss_s k2 _) (consC (miss_s k3 _) (consC (miss_s k4 _) (consC (miss_s k5 _) (consC (miss_s k6 _) (consC (miss_s k7 _) (consC (is_s kgo _) (consC (take_s kgo rfl _) (consC (at_s rfl (by decide) _) (consC (bad_s he (.inr rfl) rfl ys_one k8 (by decide) rfl) nilC))))))))))),fun _ hx=>(by cases hx),noApp,noPut,eqN,(posC ⟨pl10,rfl⟩ noPos)⟩
           exact D.path (.inr rfl) (args:=[]) (args':=[]) (fun _ _ => .nil) (fin := .pan (tk 322)) (by kernel_rfl)
          |ok y9=>
           obtain⟨⟨t11k,t11x,t11n,t11p,t11c⟩,m10⟩:=y9
           (try dsimp only [andThen,ok,bad] at hr)
           cases k12:(Tr.mk t11k t11x t11n t11p t11c).kind==34 with
           |true=>
            rw[k12,if_pos rfl] at hr
            cases hr
            have D:Told b E (mkN E.len hd w.heap.size [l,l.tail,m10] [.mk t11k t11x t11n t11p t11c] [] []) hd w [evAt 0 (tk 321),evIs wCu 0 false (tk 321),evMiss wVar 0 (tk 321),evMiss wIf 0 (tk 321),evMiss wFor 0 (tk 321),evMiss wBreak 0 (tk 321),evMiss wContinue 0 (tk 321),evMiss wReturn 0 (tk 321),evIs wGo 0 true (tk 321),evTake wGo 0 1 (tk 321),evAt 1 (tk 321),evTree 37 [.int .i64 1] 1 2 (tk 256) 0 (tk 321)] ⟨[],[],[],[]⟩ [(256,.int .i64 34,true)]:=
             ⟨h,rfl,rfl,rfl,rfl,consC (at_s rfl (by decide) _) (consC (is_s k1 _) (consC (miss_s k2 _) (consC (miss_s k3 _) (consC (miss_s k4 _) (consC (miss_s k5 _) (consC (miss_s k6 _) (consC (miss_s k7 _) (consC (is_s kgo _) (consC (take_s kgo rfl _) (consC (at_s rfl (by decide) _) (consC (tree_s he (.inr rfl) rfl ys_one k8 (.inl rfl) (by decide)) nilC))))))))))),fun _ hx=>(by cases hx),noApp,noPut,(eqC (tree_tok (c:=0) (by decide) k12) eqN),noPos⟩
            exact D.path (.inr rfl) (args:=[]) (args':=[]) (fun _ _ => .nil) (fin := .tree (.nd (.int .i64 29) (.string ⟨#[]⟩) (.int .u64 0) (tk 128) [.ab (tk 256) (tk 257) (tk 258) (tk 259) 1]) 2) (by kernel_rfl)
           |false=>
            rw[k12,if_neg (by decide)] at hr
            cases hr
            have D:Told b E (mkN E.len hd w.heap.size [l,l.tail,m10] [.mk t11k t11x t11n t11p t11c] [] []) hd w [evAt 0 (tk 321),evIs wCu 0 false (tk 321),evMiss wVar 0 (tk 321),evMiss wIf 0 (tk 321),evMiss wFor 0 (tk 321),evMiss wBreak 0 (tk 321),evMiss wContinue 0 (tk 321),evMiss wReturn 0 (tk 321),evIs wGo 0 true (tk 321),evTake wGo 0 1 (tk 321),evAt 1 (tk 321),evTree 37 [.int .i64 1] 1 2 (tk 256) 0 (tk 321)] ⟨[],[],[],[]⟩ [(256,.int .i64 34,false)]:=
             ⟨h,rfl,rfl,rfl,rfl,consC (at_s rfl (by decide) _) (consC (is_s k1 _) (consC (miss_s k2 _) (consC (miss_s k3 _) (consC (miss_s k4 _) (consC (miss_s k5 _) (consC (miss_s k6 _) (consC (miss_s k7 _) (consC (is_s kgo _) (consC (take_s kgo rfl _) (consC (at_s rfl (by decide) _) (consC (tree_s he (.inr rfl) rfl ys_one k8 (.inl rfl) (by decide)) nilC))))))))))),fun _ hx=>(by cases hx),noApp,noPut,(eqC (tree_tok (c:=0) (by decide) k12) eqN),noPos⟩
            exact D.path (.inr rfl) (args:=[]) (args':=[]) (fun _ _ => .nil) (fin := .pan (tk 136)) (by kernel_rfl)
        |false=>
         rw[kgo,Bool.false_or] at hr
         cases kdf:isP wDefer l with
         |true=>
          rw[kdf,if_pos rfl] at hr
          cases k8:exprP E.len f 1 hd l.tail with
          |none=>rw[k8] at hr;cases hr
          |some y9=>
           rw[k8] at hr
           cases y9 with
           |error pl10=>
            (try dsimp only [andThen,ok,bad] at hr)
            cases hr
            have D:Told b E (mkN E.len hd w.heap.size [l,l.tail] [] [] [(pl10:Int)]) hd w [evAt 0 (tk 321),evIs wCu 0 false (tk 321),evMiss wVar 0 (tk 321),evMiss wIf 0 (tk 321),evMiss wFor 0 (tk 321),evMiss wBreak 0 (tk 321),evMiss wContinue 0 (tk 321),evMiss wReturn 0 (tk 321),evIs wGo 0 false (tk 321),evIs wDefer 0 true (tk 321),evMiss wGo 0 (tk 321),evTake wDefer 0 1 (tk 321),evAt 1 (tk 321),evBad 37 [.int .i64 1] 1 2 (tk 321)] ⟨[],[],[],[322]⟩ []:=
             ⟨h,rfl,rfl,rfl,rfl,consC (at_s rfl (by decide) _) (consC (is_s k1 _) (consC (miss_s k2 _) (consC (miss_s k3 _) (consC (miss_s k4 _) (consC (miss_s k5 _) (consC (miss_s k6 _) (consC (miss_s k7 _) (consC (is_s kgo _) (consC (is_s kdf _) (consC (miss_s kgo _) (consC (take_s kdf rfl _) (consC (at_s rfl (by decide) _) (consC (bad_s he (.inr rfl) rfl ys_one k8 (by decide) rfl) nilC))))))))))))),fun _ hx=>(by cases hx),noApp,noPut,eqN,(posC ⟨pl10,rfl⟩ noPos)⟩
            exact D.path (.inr rfl) (args:=[]) (args':=[]) (fun _ _ => .nil) (fin := .pan (tk 322)) (by kernel_rfl)
           |ok y9=>
            obtain⟨⟨t11k,t11x,t11n,t11p,t11c⟩,m10⟩:=y9
            (try dsimp only [andThen,ok,bad] at hr)
            cases k12:(Tr.mk t11k t11x t11n t11p t11c).kind==34 with
            |true=>
             rw[k12,if_pos rfl] at hr
             cases hr
             have D:Told b E (mkN E.len hd w.heap.size [l,l.tail,m10] [.mk t11k t11x t11n t11p t11c] [] []) hd w [evAt 0 (tk 321),evIs wCu 0 false (tk 321),evMiss wVar 0 (tk 321),evMiss wIf 0 (tk 321),evMiss wFor 0 (tk 321),evMiss wBreak 0 (tk 321),evMiss wContinue 0 (tk 321),evMiss wReturn 0 (tk 321),evIs wGo 0 false (tk 321),evIs wDefer 0 true (tk 321),evMiss wGo 0 (tk 321),evTake wDefer 0 1 (tk 321),evAt 1 (tk 321),evTree 37 [.int .i64 1] 1 2 (tk 256) 0 (tk 321)] ⟨[],[],[],[]⟩ [(256,.int .i64 34,true)]:=
              ⟨h,rfl,rfl,rfl,rfl,consC (at_s rfl (by decide) _) (consC (is_s k1 _) (consC (miss_s k2 _) (consC (miss_s k3 _) (consC (miss_s k4 _) (consC (miss_s k5 _) (consC (miss_s k6 _) (consC (miss_s k7 _) (consC (is_s kgo _) (consC (is_s kdf _) (consC (miss_s kgo _) (consC (take_s kdf rfl _) (consC (at_s rfl (by decide) _) (consC (tree_s he (.inr rfl) rfl ys_one k8 (.inl rfl) (by decide)) nilC))))))))))))),fun _ hx=>(by cases hx),noApp,noPut,(eqC (tree_tok (c:=0) (by decide) k12) eqN),noPos⟩
             exact D.path (.inr rfl) (args:=[]) (args':=[]) (fun _ _ => .nil) (fin := .tree (.nd (.int .i64 29) (.string ⟨#[]⟩) (.int .u64 1) (tk 128) [.ab (tk 256) (tk 257) (tk 258) (tk 259) 1]) 2) (by kernel_rfl)
            |false=>
             rw[k12,if_neg (by decide)] at hr
             cases hr
             have D:Told b E (mkN E.len hd w.heap.size [l,l.tail,m10] [.mk t11k t11x t11n t11p t11c] [] []) hd w [evAt 0 (tk 321),evIs wCu 0 false (tk 321),evMiss wVar 0 (tk 321),evMiss wIf 0 (tk 321),evMiss wFor 0 (tk 321),evMiss wBreak 0 (tk 321),evMiss wContinue 0 (tk 321),evMiss wReturn 0 (tk 321),evIs wGo 0 false (tk 321),evIs wDefer 0 true (tk 321),evMiss wGo 0 (tk 321),evTake wDefer 0 1 (tk 321),evAt 1 (tk 321),evTree 37 [.int .i64 1] 1 2 (tk 256) 0 (tk 321)] ⟨[],[],[],[]⟩ [(256,.int .i64 34,false)]:=
              ⟨h,rfl,rfl,rfl,rfl,consC (at_s rfl (by decide) _) (consC (is_s k1 _) (consC (miss_s k2 _) (consC (miss_s k3 _) (consC (miss_s k4 _) (consC (miss_s k5 _) (consC (miss_s k6 _) (consC (miss_s k7 _) (consC (is_s kgo _) (consC (is_s kdf _) (consC (miss_s kgo _) (consC (take_s kdf rfl _) (consC (at_s rfl (by decide) _) (consC (tree_s he (.inr rfl) rfl ys_one k8 (.inl rfl) (by decide)) nilC))))))))))))),fun _ hx=>(by cases hx),noApp,noPut,(eqC (tree_tok (c:=0) (by decide) k12) eqN),noPos⟩
             exact D.path (.inr rfl) (args:=[]) (args':=[]) (fun _ _ => .nil) (fin := .pan (tk 136)) (by kernel_rfl)
         |false=>
          rw[kdf,if_neg (by decide)] at hr
          cases k8:isP wSelect l with
          |true=>
           rw[k8,if_pos rfl] at hr
           cases k9:selectionP E.len f (atP E.len l) l.tail with
           |none=>rw[k9] at hr;cases hr
           |some y10=>
            rw[k9] at hr
            cases y10 with
            |error pl11=>
             (try dsimp only [andThen,ok,bad] at hr)
             cases hr
             have D:Told b E (mkN E.len hd w.heap.size [l,l.tail] [] [] [(pl11:Int)]) hd w [evAt 0 (tk 321),evIs wCu 0 false (tk 321),evMiss wVar 0 (tk 321),evMiss wIf 0 (tk 321),evMiss wFor 0 (tk 321),evMiss wBreak 0 (tk 321),evMiss wContinue 0 (tk 321),evMiss wReturn 0 (tk 321),evIs wGo 0 false (tk 321),evIs wDefer 0 false (tk 321),evTake wSelect 0 1 (tk 321),evBad 51 [tk 128] 1 2 (tk 321)] ⟨[],[],[],[322]⟩ []:=
              ⟨h,rfl,rfl,rfl,rfl,consC (at_s rfl (by decide) _) (consC (is_s k1 _) (consC (miss_s k2 _) (consC (miss_s k3 _) (consC (miss_s k4 _) (consC (miss_s k5 _) (consC (miss_s k6 _) (consC (miss_s k7 _) (consC (is_s kgo _) (consC (is_s kdf _) (consC (take_s k8 rfl _) (consC (bad_s (hse _) (.inr rfl) rfl (ys_at (i:=0) rfl (by decide)) k9 (by decide) rfl) nilC))))))))))),fun _ hx=>(by cases hx),noApp,noPut,eqN,(posC ⟨pl11,rfl⟩ noPos)⟩
             exact D.path (.inr rfl) (args:=[]) (args':=[]) (fun _ _ => .nil) (fin := .pan (tk 322)) (by kernel_rfl)
            |ok y10=>
             obtain⟨⟨t12k,t12x,t12n,t12p,t12c⟩,m11⟩:=y10
             (try dsimp only [andThen,ok,bad] at hr)
             cases hr
             have D:Told b E (mkN E.len hd w.heap.size [l,l.tail,m11] [.mk t12k t12x t12n t12p t12c] [] []) hd w [evAt 0 (tk 321),evIs wCu 0 false (tk 321),evMiss wVar 0 (tk 321),evMiss wIf 0 (tk 321),evMiss wFor 0 (tk 321),evMiss wBreak 0 (tk 321),evMiss wContinue 0 (tk 321),evMiss wReturn 0 (tk 321),evIs wGo 0 false (tk 321),evIs wDefer 0 false (tk 321),evTake wSelect 0 1 (tk 321),evTree 51 [tk 128] 1 2 (tk 256) 0 (tk 321)] ⟨[],[],[],[]⟩ []:=
              ⟨h,rfl,rfl,rfl,rfl,consC (at_s rfl (by decide) _) (consC (is_s k1 _) (consC (miss_s k2 _) (consC (miss_s k3 _) (consC (miss_s k4 _) (consC (miss_s k5 _) (consC (miss_s k6 _) (consC (miss_s k7 _) (consC (is_s kgo _) (consC (is_s kdf _) (consC (take_s k8 rfl _) (consC (tree_s (hse _) (.inr rfl) rfl (ys_at (i:=0) rfl (by decide)) k9 (.inl rfl) (by decide)) nilC))))))))))),fun _ hx=>(by cases hx),noApp,noPut,eqN,noPos⟩
             exact D.path (.inr rfl) (args:=[]) (args':=[]) (fun _ _ => .nil) (fin := .tree (.ab (tk 256) (tk 257) (tk 258) (tk 259) 1) 2) (by kernel_rfl)
          |false=>
           rw[k8,if_neg (by decide)] at hr
           cases k9:simpleP E.len f hd l with
           |none=>rw[k9] at hr;cases hr
           |some y10=>
            rw[k9] at hr
            cases y10 with
            |error pl11=>
             (try dsimp only [andThen,ok,bad] at hr)
             cases hr
             have D:Told b E (mkN E.len hd w.heap.size [l] [] [] [(pl11:Int)]) hd w [evAt 0 (tk 321),evIs wCu 0 false (tk 321),evMiss wVar 0 (tk 321),evMiss wIf 0 (tk 321),evMiss wFor 0 (tk 321),evMiss wBreak 0 (tk 321),evMiss wContinue 0 (tk 321),evMiss wReturn 0 (tk 321),evIs wGo 0 false (tk 321),evIs wDefer 0 false (tk 321),evMiss wSelect 0 (tk 321),evBad 52 [] 0 2 (tk 321)] ⟨[],[],[],[322]⟩ []:=
              ⟨h,rfl,rfl,rfl,rfl,consC (at_s rfl (by decide) _) (consC (is_s k1 _) (consC (miss_s k2 _) (consC (miss_s k3 _) (consC (miss_s k4 _) (consC (miss_s k5 _) (consC (miss_s k6 _) (consC (miss_s k7 _) (consC (is_s kgo _) (consC (is_s kdf _) (consC (miss_s k8 _) (consC (bad_s hsi (.inr rfl) rfl ys_nil k9 (by decide) rfl) nilC))))))))))),fun _ hx=>(by cases hx),noApp,noPut,eqN,(posC ⟨pl11,rfl⟩ noPos)⟩
             exact D.path (.inr rfl) (args:=[]) (args':=[]) (fun _ _ => .nil) (fin := .pan (tk 322)) (by kernel_rfl)
            |ok y10=>
             obtain⟨⟨t12k,t12x,t12n,t12p,t12c⟩,m11⟩:=y10
             (try dsimp only [andThen,ok,bad] at hr)
             cases hr
             have D:Told b E (mkN E.len hd w.heap.size [l,m11] [.mk t12k t12x t12n t12p t12c] [] []) hd w [evAt 0 (tk 321),evIs wCu 0 false (tk 321),evMiss wVar 0 (tk 321),evMiss wIf 0 (tk 321),evMiss wFor 0 (tk 321),evMiss wBreak 0 (tk 321),evMiss wContinue 0 (tk 321),evMiss wReturn 0 (tk 321),evIs wGo 0 false (tk 321),evIs wDefer 0 false (tk 321),evMiss wSelect 0 (tk 321),evTree 52 [] 0 1 (tk 256) 0 (tk 321)] ⟨[],[],[],[]⟩ []:=
              ⟨h,rfl,rfl,rfl,rfl,consC (at_s rfl (by decide) _) (consC (is_s k1 _) (consC (miss_s k2 _) (consC (miss_s k3 _) (consC (miss_s k4 _) (consC (miss_s k5 _) (consC (miss_s k6 _) (consC (miss_s k7 _) (consC (is_s kgo _) (consC (is_s kdf _) (consC (miss_s k8 _) (consC (tree_s hsi (.inr rfl) rfl ys_nil k9 (.inl rfl) (by decide)) nilC))))))))))),fun _ hx=>(by cases hx),noApp,noPut,eqN,noPos⟩
             exact D.path (.inr rfl) (args:=[]) (args':=[]) (fun _ _ => .nil) (fin := .tree (.ab (tk 256) (tk 257) (tk 258) (tk 259) 1) 1) (by kernel_rfl)
end Prs
end Go.Proofs.YtcbkeecabcbogaaGreatDoor
