/- The loop of expr, for each least number. (Printed by gen_ex.py.) -/
import Derived.Test.YtcbkeecabcbogaaGreatDoorGay
namespace Go.Proofs.YtcbkeecabcbogaaGreatDoor
open Go.RowKit
set_option linter.unusedSimpArgs false
set_option linter.unusedVariables false
namespace Prs
open Ev
def BindsC (b:Nat)(E:Env):Prop:=∀ (x:List UInt8) (w1:World),(∀ k,k<b→w1.heap[k]? = E.w0.heap[k]?)→Calls Tryz.prog 65 #[.string ⟨x.toArray⟩] w1 fun e w2=>e = .returned (.int .i64 (bindsP x:Int))∧w2=w1
def evBinds (i:Nat)(n:Int):Call1:=⟨65,[tk (130+8 * i)],i,.bool true,.pure (.int .i64 n)⟩
theorem binds_s {b:Nat}{E:Env}{N:SEnv}{w0:World}(hB:BindsC b E){i n:Nat}(hi:i<16)(h:bindsP (textP (N.L i))=n):CallS b E N w0 (evBinds i (n:Int)):=by
 intro p hax args' w hargs hlo
 cases hargs with
 |cons h1 h2=>
 cases h2
 have ht:tokVal N (130+8 * i)=some (.string ⟨(headT (N.L i)).text.toArray⟩):=by rw[show 130+8 * i=128+8 * i+2 by omega,listTok N hi (by decide)];rfl
 obtain rfl:=hax.val ht h1
 refine(hB (headT (N.L i)).text w hlo).mono ?_
 rintro e w' ⟨rfl,rfl⟩
 rw[textP_head] at h
 rw[h]
 exact⟨rfl,_,rfl,.int _ _⟩
theorem bindsFrom_le (s:List UInt8):∀ l:List (List (List UInt8)),bindsFrom s l≤l.length
 | []=>by unfold bindsFrom;simp
 |x :: l=>by
  have h2:=bindsFrom_le s l
  unfold bindsFrom
  split
  ·simp
  ·simp;omega
theorem binds_le (s:List UInt8):bindsP s≤5:=bindsFrom_le s opsP
def specX (b q r least:Nat):TSpec where
 n:=45
 rowSlot:=5
 resSlot:=4
 q:=q
 r:=r
 direct:=[(0,.pointer (some ⟨64,0,none⟩),rp b),(1,.int .i64 (least:Int),.int .i64 (least:Int))]
theorem fixX {b q r least:Nat}{N:SEnv}{w1:World}(h1:b<q)(h2:b<r)(h3:q≠r)(h4:b<w1.heap.size)(h5:r<w1.heap.size):TFix (specX b q r least) b N w1 where
 bq:=h1
 br:=h2
 qr:=h3
 bw:=h4
 dir:=fun x hx p hax=>by
  have hx:x ∈ [_,_]:=hx
  simp only[List.mem_cons,List.not_mem_nil,or_false] at hx
  rcases hx with rfl|rfl
  ·exact vr_rd hax
  ·exact .int _ _
 dirU:=fun x hx p u hax hv=>by
  have hx:x ∈ [_,_]:=hx
  simp only[List.mem_cons,List.not_mem_nil,or_false] at hx
  rcases hx with rfl|rfl
  ·exact vr_rdU hax hv
  ·cases hv;rfl
 dirN:=fun x hx=>by
  have hx:x ∈ [_,_]:=hx
  simp only[List.mem_cons,List.not_mem_nil,or_false] at hx
  rcases hx with rfl|rfl <;> simp
noncomputable def exprBody:Code:=inLoop0 (seqR (seqR (bodyCode 37)))
set_option maxRecDepth 20000 in
theorem expr_loop1 {b q r F0:Nat}{E:Env}{hd:Bool}{w1:World}(h1:b<q)(h2:b<r)(h3:q≠r)(h4:b<w1.heap.size)(h5:r<w1.heap.size)(hB:BindsC b E)(hx:∀ (k g:Nat),k≤5→g<F0→Reads b E hd 37 #[rp b,.int .i64 ((k+1:Nat):Int)] (exprP E.len g (k+1) hd)){Q:Exit→Act→World→Prop}{res:Except Nat (Tr×List Tok)}
  (hQ:match res with
   | .ok (t,l')=>∀ w' a',TEnd (specX b q r 1) b E hd w1 t l' w' a'→Q .ret a' w'
   | .error p=>∀ w' a',KeepQ2 b q r w1 w'→a'.defers=[]→Q (.panic [{ v:=faultV p,recovered:=false }]) a' w'):
  ∀ (f:Nat) (x:Tr) (l:List Tok) (w:World) (a:Act),f≤F0→exprLoop E.len f 1 hd x l=some res→TInv (specX b q r 1) b E hd w1 x l w a→LoopWp Tryz.prog exprBody Q a w:=by
 intro f
 induction f with
 |zero=>intro x l w a _ h;rw[exprLoop] at h;cases h
 |succ f ih=>
  intro x l w a hf h I
  rw[exprLoop] at h
  obtain⟨xk,xx,xn,xp,xc⟩:=x
  refine loop_next ?_
  generalize hbz:(if (kindP l==4)=true then bindsP (textP l) else 0)=bz at h
  cases k1:kindP l==4 with
  |false=>
   obtain rfl:bz=0:=by rw[←hbz,k1];rfl
   rw[if_pos (by decide)] at h
   cases h
   have D:ToldT (specX b q r 1) b E (mkNS E.len hd (SX (specX b q r 1) w1) [l] [.mk xk xx xn xp xc] [] []) hd w1 w [evPeek 0 (tk 129) (tk 321)] ⟨[],[],[],[]⟩ [(129,.int .i64 4,false)]:=
    ⟨rfl,rfl,rfl,rfl,consC (peek_s (by decide) (.inl rfl) _) nilC,(fun _ hx=>(by cases hx)),noApp,noPut,(eqC (kind_tok (i:=0) (by decide) k1) eqN),noPos,fixX h1 h2 h3 h4 h5⟩
   exact D.round rfl rfl I (fin := .ret 0 (.ab (tk 256) (tk 257) (tk 258) (tk 259) 1)) (by kernel_rfl) hQ
  |true=>
   obtain rfl:bz=bindsP (textP l):=by rw[←hbz,k1];rfl
   obtain⟨bn,hbn⟩:∃ n,n=bindsP (textP l):=⟨_,rfl⟩
   have hble:=binds_le (textP l)
   rw[←hbn] at h hble
   rcases (by omega:bn=0∨bn=1∨bn=2∨bn=3∨bn=4∨bn=5) with rfl|rfl|rfl|rfl|rfl|rfl
   ·
    rw[if_pos (by decide)] at h
    cases h
    have D:ToldT (specX b q r 1) b E (mkNS E.len hd (SX (specX b q r 1) w1) [l] [.mk xk xx xn xp xc] [] []) hd w1 w [evPeek 0 (tk 129) (tk 321),evBinds 0 0] ⟨[],[],[],[]⟩ [(129,.int .i64 4,true)]:=
     ⟨rfl,rfl,rfl,rfl,consC (peek_s (by decide) (.inl rfl) _) (consC (binds_s hB (i:=0) (by decide) hbn.symm) nilC),(fun _ hx=>(by cases hx)),noApp,noPut,(eqC (kind_tok (i:=0) (by decide) k1) eqN),noPos,fixX h1 h2 h3 h4 h5⟩
    exact D.round rfl rfl I (fin := .ret 0 (.ab (tk 256) (tk 257) (tk 258) (tk 259) 1)) (by kernel_rfl) hQ
   ·
    rw[if_neg (by decide)] at h
    obtain⟨t0,hcons⟩:=kind_cons (by decide) k1
    cases k2:exprP E.len f (1+1) hd l.tail with
    |none=>rw[k2] at h;cases h
    |some y=>
     rw[k2] at h
     cases y with
     |error pl=>
      cases h
      have D:ToldT (specX b q r 1) b E (mkNS E.len hd (SX (specX b q r 1) w1) [l,l.tail] [.mk xk xx xn xp xc] [] [(pl:Int)]) hd w1 w [evPeek 0 (tk 129) (tk 321),evBinds 0 1,evBad 37 [.int .i64 2] 1 2 (tk 321)] ⟨[(0,1)],[],[],[322]⟩ [(129,.int .i64 4,true)]:=
       ⟨rfl,rfl,rfl,rfl,consC (peek_s (by decide) (.inl rfl) _) (consC (binds_s hB (i:=0) (by decide) hbn.symm) (consC (bad_s (hx 1 f (by decide) (by omega)) (.inr rfl) rfl ys_one k2 (by decide) rfl) nilC)),(nxtS ⟨t0,hcons⟩),noApp,noPut,(eqC (kind_tok (i:=0) (by decide) k1) eqN),(posC ⟨pl,rfl⟩ noPos),fixX h1 h2 h3 h4 h5⟩
      exact D.round rfl rfl I (fin := .pan (tk 322)) (by kernel_rfl) hQ
     |ok y=>
      obtain⟨⟨yk,yx,yn,yp,yc⟩,k⟩:=y
      dsimp only [andThen] at h
      rw[textP_head,placeP_head] at h
      have D:ToldT (specX b q r 1) b E (mkNS E.len hd (SX (specX b q r 1) w1) [l,l.tail,k] [.mk xk xx xn xp xc,.mk yk yx yn yp yc] [] []) hd w1 w [evPeek 0 (tk 129) (tk 321),evBinds 0 1,evTree 37 [.int .i64 2] 1 2 (tk 260) 1 (tk 321)] ⟨[(0,1)],[],[],[]⟩ [(129,.int .i64 4,true)]:=
       ⟨rfl,rfl,rfl,rfl,consC (peek_s (by decide) (.inl rfl) _) (consC (binds_s hB (i:=0) (by decide) hbn.symm) (consC (tree_s (hx 1 f (by decide) (by omega)) (.inr rfl) rfl ys_one k2 (.inl rfl) (by decide)) nilC)),(nxtS ⟨t0,hcons⟩),noApp,noPut,(eqC (kind_tok (i:=0) (by decide) k1) eqN),noPos,fixX h1 h2 h3 h4 h5⟩
      exact D.round rfl rfl I (fin := .again 2 (.nd (.int .i64 33) (tk 130) (.int .u64 0) (tk 132) [.ab (tk 256) (tk 257) (tk 258) (tk 259) 1,.ab (tk 260) (tk 261) (tk 262) (tk 263) 9])) (by kernel_rfl) fun w' a' I'=>ih _ k w' a' (by omega) h I'
   ·
    rw[if_neg (by decide)] at h
    obtain⟨t0,hcons⟩:=kind_cons (by decide) k1
    cases k2:exprP E.len f (2+1) hd l.tail with
    |none=>rw[k2] at h;cases h
    |some y=>
     rw[k2] at h
     cases y with
     |error pl=>
      cases h
      have D:ToldT (specX b q r 1) b E (mkNS E.len hd (SX (specX b q r 1) w1) [l,l.tail] [.mk xk xx xn xp xc] [] [(pl:Int)]) hd w1 w [evPeek 0 (tk 129) (tk 321),evBinds 0 2,evBad 37 [.int .i64 3] 1 2 (tk 321)] ⟨[(0,1)],[],[],[322]⟩ [(129,.int .i64 4,true)]:=
       ⟨rfl,rfl,rfl,rfl,consC (peek_s (by decide) (.inl rfl) _) (consC (binds_s hB (i:=0) (by decide) hbn.symm) (consC (bad_s (hx 2 f (by decide) (by omega)) (.inr rfl) rfl ys_one k2 (by decide) rfl) nilC)),(nxtS ⟨t0,hcons⟩),noApp,noPut,(eqC (kind_tok (i:=0) (by decide) k1) eqN),(posC ⟨pl,rfl⟩ noPos),fixX h1 h2 h3 h4 h5⟩
      exact D.round rfl rfl I (fin := .pan (tk 322)) (by kernel_rfl) hQ
     |ok y=>
      obtain⟨⟨yk,yx,yn,yp,yc⟩,k⟩:=y
      dsimp only [andThen] at h
      rw[textP_head,placeP_head] at h
      have D:ToldT (specX b q r 1) b E (mkNS E.len hd (SX (specX b q r 1) w1) [l,l.tail,k] [.mk xk xx xn xp xc,.mk yk yx yn yp yc] [] []) hd w1 w [evPeek 0 (tk 129) (tk 321),evBinds 0 2,evTree 37 [.int .i64 3] 1 2 (tk 260) 1 (tk 321)] ⟨[(0,1)],[],[],[]⟩ [(129,.int .i64 4,true)]:=
       ⟨rfl,rfl,rfl,rfl,consC (peek_s (by decide) (.inl rfl) _) (consC (binds_s hB (i:=0) (by decide) hbn.symm) (consC (tree_s (hx 2 f (by decide) (by omega)) (.inr rfl) rfl ys_one k2 (.inl rfl) (by decide)) nilC)),(nxtS ⟨t0,hcons⟩),noApp,noPut,(eqC (kind_tok (i:=0) (by decide) k1) eqN),noPos,fixX h1 h2 h3 h4 h5⟩
      exact D.round rfl rfl I (fin := .again 2 (.nd (.int .i64 33) (tk 130) (.int .u64 0) (tk 132) [.ab (tk 256) (tk 257) (tk 258) (tk 259) 1,.ab (tk 260) (tk 261) (tk 262) (tk 263) 9])) (by kernel_rfl) fun w' a' I'=>ih _ k w' a' (by omega) h I'
   ·
    rw[if_neg (by decide)] at h
    obtain⟨t0,hcons⟩:=kind_cons (by decide) k1
    cases k2:exprP E.len f (3+1) hd l.tail with
    |none=>rw[k2] at h;cases h
    |some y=>
     rw[k2] at h
     cases y with
     |error pl=>
      cases h
      have D:ToldT (specX b q r 1) b E (mkNS E.len hd (SX (specX b q r 1) w1) [l,l.tail] [.mk xk xx xn xp xc] [] [(pl:Int)]) hd w1 w [evPeek 0 (tk 129) (tk 321),evBinds 0 3,evBad 37 [.int .i64 4] 1 2 (tk 321)] ⟨[(0,1)],[],[],[322]⟩ [(129,.int .i64 4,true)]:=
       ⟨rfl,rfl,rfl,rfl,consC (peek_s (by decide) (.inl rfl) _) (consC (binds_s hB (i:=0) (by decide) hbn.symm) (consC (bad_s (hx 3 f (by decide) (by omega)) (.inr rfl) rfl ys_one k2 (by decide) rfl) nilC)),(nxtS ⟨t0,hcons⟩),noApp,noPut,(eqC (kind_tok (i:=0) (by decide) k1) eqN),(posC ⟨pl,rfl⟩ noPos),fixX h1 h2 h3 h4 h5⟩
      exact D.round rfl rfl I (fin := .pan (tk 322)) (by kernel_rfl) hQ
     |ok y=>
      obtain⟨⟨yk,yx,yn,yp,yc⟩,k⟩:=y
      dsimp only [andThen] at h
      rw[textP_head,placeP_head] at h
      have D:ToldT (specX b q r 1) b E (mkNS E.len hd (SX (specX b q r 1) w1) [l,l.tail,k] [.mk xk xx xn xp xc,.mk yk yx yn yp yc] [] []) hd w1 w [evPeek 0 (tk 129) (tk 321),evBinds 0 3,evTree 37 [.int .i64 4] 1 2 (tk 260) 1 (tk 321)] ⟨[(0,1)],[],[],[]⟩ [(129,.int .i64 4,true)]:=
       ⟨rfl,rfl,rfl,rfl,consC (peek_s (by decide) (.inl rfl) _) (consC (binds_s hB (i:=0) (by decide) hbn.symm) (consC (tree_s (hx 3 f (by decide) (by omega)) (.inr rfl) rfl ys_one k2 (.inl rfl) (by decide)) nilC)),(nxtS ⟨t0,hcons⟩),noApp,noPut,(eqC (kind_tok (i:=0) (by decide) k1) eqN),noPos,fixX h1 h2 h3 h4 h5⟩
      exact D.round rfl rfl I (fin := .again 2 (.nd (.int .i64 33) (tk 130) (.int .u64 0) (tk 132) [.ab (tk 256) (tk 257) (tk 258) (tk 259) 1,.ab (tk 260) (tk 261) (tk 262) (tk 263) 9])) (by kernel_rfl) fun w' a' I'=>ih _ k w' a' (by omega) h I'
   ·
    rw[if_neg (by decide)] at h
    obtain⟨t0,hcons⟩:=kind_cons (by decide) k1
    cases k2:exprP E.len f (4+1) hd l.tail with
    |none=>rw[k2] at h;cases h
    |some y=>
     rw[k2] at h
     cases y with
     |error pl=>
      cases h
      have D:ToldT (specX b q r 1) b E (mkNS E.len hd (SX (specX b q r 1) w1) [l,l.tail] [.mk xk xx xn xp xc] [] [(pl:Int)]) hd w1 w [evPeek 0 (tk 129) (tk 321),evBinds 0 4,evBad 37 [.int .i64 5] 1 2 (tk 321)] ⟨[(0,1)],[],[],[322]⟩ [(129,.int .i64 4,true)]:=
       ⟨rfl,rfl,rfl,rfl,consC (peek_s (by decide) (.inl rfl) _) (consC (binds_s hB (i:=0) (by decide) hbn.symm) (consC (bad_s (hx 4 f (by decide) (by omega)) (.inr rfl) rfl ys_one k2 (by decide) rfl) nilC)),(nxtS ⟨t0,hcons⟩),noApp,noPut,(eqC (kind_tok (i:=0) (by decide) k1) eqN),(posC ⟨pl,rfl⟩ noPos),fixX h1 h2 h3 h4 h5⟩
      exact D.round rfl rfl I (fin := .pan (tk 322)) (by kernel_rfl) hQ
     |ok y=>
      obtain⟨⟨yk,yx,yn,yp,yc⟩,k⟩:=y
      dsimp only [andThen] at h
      rw[textP_head,placeP_head] at h
      have D:ToldT (specX b q r 1) b E (mkNS E.len hd (SX (specX b q r 1) w1) [l,l.tail,k] [.mk xk xx xn xp xc,.mk yk yx yn yp yc] [] []) hd w1 w [evPeek 0 (tk 129) (tk 321),evBinds 0 4,evTree 37 [.int .i64 5] 1 2 (tk 260) 1 (tk 321)] ⟨[(0,1)],[],[],[]⟩ [(129,.int .i64 4,true)]:=
       ⟨rfl,rfl,rfl,rfl,consC (peek_s (by decide) (.inl rfl) _) (consC (binds_s hB (i:=0) (by decide) hbn.symm) (consC (tree_s (hx 4 f (by decide) (by omega)) (.inr rfl) rfl ys_one k2 (.inl rfl) (by decide)) nilC)),(nxtS ⟨t0,hcons⟩),noApp,noPut,(eqC (kind_tok (i:=0) (by decide) k1) eqN),noPos,fixX h1 h2 h3 h4 h5⟩
      exact D.round rfl rfl I (fin := .again 2 (.nd (.int .i64 33) (tk 130) (.int .u64 0) (tk 132) [.ab (tk 256) (tk 257) (tk 258) (tk 259) 1,.ab (tk 260) (tk 261) (tk 262) (tk 263) 9])) (by kernel_rfl) fun w' a' I'=>ih _ k w' a' (by omega) h I'
   ·
    rw[if_neg (by decide)] at h
    obtain⟨t0,hcons⟩:=kind_cons (by decide) k1
    cases k2:exprP E.len f (5+1) hd l.tail with
    |none=>rw[k2] at h;cases h
    |some y=>
     rw[k2] at h
     cases y with
     |error pl=>
      cases h
      have D:ToldT (specX b q r 1) b E (mkNS E.len hd (SX (specX b q r 1) w1) [l,l.tail] [.mk xk xx xn xp xc] [] [(pl:Int)]) hd w1 w [evPeek 0 (tk 129) (tk 321),evBinds 0 5,evBad 37 [.int .i64 6] 1 2 (tk 321)] ⟨[(0,1)],[],[],[322]⟩ [(129,.int .i64 4,true)]:=
       ⟨rfl,rfl,rfl,rfl,consC (peek_s (by decide) (.inl rfl) _) (consC (binds_s hB (i:=0) (by decide) hbn.symm) (consC (bad_s (hx 5 f (by decide) (by omega)) (.inr rfl) rfl ys_one k2 (by decide) rfl) nilC)),(nxtS ⟨t0,hcons⟩),noApp,noPut,(eqC (kind_tok (i:=0) (by decide) k1) eqN),(posC ⟨pl,rfl⟩ noPos),fixX h1 h2 h3 h4 h5⟩
      exact D.round rfl rfl I (fin := .pan (tk 322)) (by kernel_rfl) hQ
     |ok y=>
      obtain⟨⟨yk,yx,yn,yp,yc⟩,k⟩:=y
      dsimp only [andThen] at h
      rw[textP_head,placeP_head] at h
      have D:ToldT (specX b q r 1) b E (mkNS E.len hd (SX (specX b q r 1) w1) [l,l.tail,k] [.mk xk xx xn xp xc,.mk yk yx yn yp yc] [] []) hd w1 w [evPeek 0 (tk 129) (tk 321),evBinds 0 5,evTree 37 [.int .i64 6] 1 2 (tk 260) 1 (tk 321)] ⟨[(0,1)],[],[],[]⟩ [(129,.int .i64 4,true)]:=
       ⟨rfl,rfl,rfl,rfl,consC (peek_s (by decide) (.inl rfl) _) (consC (binds_s hB (i:=0) (by decide) hbn.symm) (consC (tree_s (hx 5 f (by decide) (by omega)) (.inr rfl) rfl ys_one k2 (.inl rfl) (by decide)) nilC)),(nxtS ⟨t0,hcons⟩),noApp,noPut,(eqC (kind_tok (i:=0) (by decide) k1) eqN),noPos,fixX h1 h2 h3 h4 h5⟩
      exact D.round rfl rfl I (fin := .again 2 (.nd (.int .i64 33) (tk 130) (.int .u64 0) (tk 132) [.ab (tk 256) (tk 257) (tk 258) (tk 259) 1,.ab (tk 260) (tk 261) (tk 262) (tk 263) 9])) (by kernel_rfl) fun w' a' I'=>ih _ k w' a' (by omega) h I'
set_option maxRecDepth 20000 in
theorem expr_loop2 {b q r F0:Nat}{E:Env}{hd:Bool}{w1:World}(h1:b<q)(h2:b<r)(h3:q≠r)(h4:b<w1.heap.size)(h5:r<w1.heap.size)(hB:BindsC b E)(hx:∀ (k g:Nat),k≤5→g<F0→Reads b E hd 37 #[rp b,.int .i64 ((k+1:Nat):Int)] (exprP E.len g (k+1) hd)){Q:Exit→Act→World→Prop}{res:Except Nat (Tr×List Tok)}
  (hQ:match res with
   | .ok (t,l')=>∀ w' a',TEnd (specX b q r 2) b E hd w1 t l' w' a'→Q .ret a' w'
   | .error p=>∀ w' a',KeepQ2 b q r w1 w'→a'.defers=[]→Q (.panic [{ v:=faultV p,recovered:=false }]) a' w'):
  ∀ (f:Nat) (x:Tr) (l:List Tok) (w:World) (a:Act),f≤F0→exprLoop E.len f 2 hd x l=some res→TInv (specX b q r 2) b E hd w1 x l w a→LoopWp Tryz.prog exprBody Q a w:=by
 intro f
 induction f with
 |zero=>intro x l w a _ h;rw[exprLoop] at h;cases h
 |succ f ih=>
  intro x l w a hf h I
  rw[exprLoop] at h
  obtain⟨xk,xx,xn,xp,xc⟩:=x
  refine loop_next ?_
  generalize hbz:(if (kindP l==4)=true then bindsP (textP l) else 0)=bz at h
  cases k1:kindP l==4 with
  |false=>
   obtain rfl:bz=0:=by rw[←hbz,k1];rfl
   rw[if_pos (by decide)] at h
   cases h
   have D:ToldT (specX b q r 2) b E (mkNS E.len hd (SX (specX b q r 2) w1) [l] [.mk xk xx xn xp xc] [] []) hd w1 w [evPeek 0 (tk 129) (tk 321)] ⟨[],[],[],[]⟩ [(129,.int .i64 4,false)]:=
    ⟨rfl,rfl,rfl,rfl,consC (peek_s (by decide) (.inl rfl) _) nilC,(fun _ hx=>(by cases hx)),noApp,noPut,(eqC (kind_tok (i:=0) (by decide) k1) eqN),noPos,fixX h1 h2 h3 h4 h5⟩
   exact D.round rfl rfl I (fin := .ret 0 (.ab (tk 256) (tk 257) (tk 258) (tk 259) 1)) (by kernel_rfl) hQ
  |true=>
   obtain rfl:bz=bindsP (textP l):=by rw[←hbz,k1];rfl
   obtain⟨bn,hbn⟩:∃ n,n=bindsP (textP l):=⟨_,rfl⟩
   have hble:=binds_le (textP l)
   rw[←hbn] at h hble
   rcases (by omega:bn=0∨bn=1∨bn=2∨bn=3∨bn=4∨bn=5) with rfl|rfl|rfl|rfl|rfl|rfl
   ·
    rw[if_pos (by decide)] at h
    cases h
    have D:ToldT (specX b q r 2) b E (mkNS E.len hd (SX (specX b q r 2) w1) [l] [.mk xk xx xn xp xc] [] []) hd w1 w [evPeek 0 (tk 129) (tk 321),evBinds 0 0] ⟨[],[],[],[]⟩ [(129,.int .i64 4,true)]:=
     ⟨rfl,rfl,rfl,rfl,consC (peek_s (by decide) (.inl rfl) _) (consC (binds_s hB (i:=0) (by decide) hbn.symm) nilC),(fun _ hx=>(by cases hx)),noApp,noPut,(eqC (kind_tok (i:=0) (by decide) k1) eqN),noPos,fixX h1 h2 h3 h4 h5⟩
    exact D.round rfl rfl I (fin := .ret 0 (.ab (tk 256) (tk 257) (tk 258) (tk 259) 1)) (by kernel_rfl) hQ
   ·
    rw[if_pos (by decide)] at h
    cases h
    have D:ToldT (specX b q r 2) b E (mkNS E.len hd (SX (specX b q r 2) w1) [l] [.mk xk xx xn xp xc] [] []) hd w1 w [evPeek 0 (tk 129) (tk 321),evBinds 0 1] ⟨[],[],[],[]⟩ [(129,.int .i64 4,true)]:=
     ⟨rfl,rfl,rfl,rfl,consC (peek_s (by decide) (.inl rfl) _) (consC (binds_s hB (i:=0) (by decide) hbn.symm) nilC),(fun _ hx=>(by cases hx)),noApp,noPut,(eqC (kind_tok (i:=0) (by decide) k1) eqN),noPos,fixX h1 h2 h3 h4 h5⟩
    exact D.round rfl rfl I (fin := .ret 0 (.ab (tk 256) (tk 257) (tk 258) (tk 259) 1)) (by kernel_rfl) hQ
   ·
    rw[if_neg (by decide)] at h
    obtain⟨t0,hcons⟩:=kind_cons (by decide) k1
    cases k2:exprP E.len f (2+1) hd l.tail with
    |none=>rw[k2] at h;cases h
    |some y=>
     rw[k2] at h
     cases y with
     |error pl=>
      cases h
      have D:ToldT (specX b q r 2) b E (mkNS E.len hd (SX (specX b q r 2) w1) [l,l.tail] [.mk xk xx xn xp xc] [] [(pl:Int)]) hd w1 w [evPeek 0 (tk 129) (tk 321),evBinds 0 2,evBad 37 [.int .i64 3] 1 2 (tk 321)] ⟨[(0,1)],[],[],[322]⟩ [(129,.int .i64 4,true)]:=
       ⟨rfl,rfl,rfl,rfl,consC (peek_s (by decide) (.inl rfl) _) (consC (binds_s hB (i:=0) (by decide) hbn.symm) (consC (bad_s (hx 2 f (by decide) (by omega)) (.inr rfl) rfl ys_one k2 (by decide) rfl) nilC)),(nxtS ⟨t0,hcons⟩),noApp,noPut,(eqC (kind_tok (i:=0) (by decide) k1) eqN),(posC ⟨pl,rfl⟩ noPos),fixX h1 h2 h3 h4 h5⟩
      exact D.round rfl rfl I (fin := .pan (tk 322)) (by kernel_rfl) hQ
     |ok y=>
      obtain⟨⟨yk,yx,yn,yp,yc⟩,k⟩:=y
      dsimp only [andThen] at h
      rw[textP_head,placeP_head] at h
      have D:ToldT (specX b q r 2) b E (mkNS E.len hd (SX (specX b q r 2) w1) [l,l.tail,k] [.mk xk xx xn xp xc,.mk yk yx yn yp yc] [] []) hd w1 w [evPeek 0 (tk 129) (tk 321),evBinds 0 2,evTree 37 [.int .i64 3] 1 2 (tk 260) 1 (tk 321)] ⟨[(0,1)],[],[],[]⟩ [(129,.int .i64 4,true)]:=
       ⟨rfl,rfl,rfl,rfl,consC (peek_s (by decide) (.inl rfl) _) (consC (binds_s hB (i:=0) (by decide) hbn.symm) (consC (tree_s (hx 2 f (by decide) (by omega)) (.inr rfl) rfl ys_one k2 (.inl rfl) (by decide)) nilC)),(nxtS ⟨t0,hcons⟩),noApp,noPut,(eqC (kind_tok (i:=0) (by decide) k1) eqN),noPos,fixX h1 h2 h3 h4 h5⟩
      exact D.round rfl rfl I (fin := .again 2 (.nd (.int .i64 33) (tk 130) (.int .u64 0) (tk 132) [.ab (tk 256) (tk 257) (tk 258) (tk 259) 1,.ab (tk 260) (tk 261) (tk 262) (tk 263) 9])) (by kernel_rfl) fun w' a' I'=>ih _ k w' a' (by omega) h I'
   ·
    rw[if_neg (by decide)] at h
    obtain⟨t0,hcons⟩:=kind_cons (by decide) k1
    cases k2:exprP E.len f (3+1) hd l.tail with
    |none=>rw[k2] at h;cases h
    |some y=>
     rw[k2] at h
     cases y with
     |error pl=>
      cases h
      have D:ToldT (specX b q r 2) b E (mkNS E.len hd (SX (specX b q r 2) w1) [l,l.tail] [.mk xk xx xn xp xc] [] [(pl:Int)]) hd w1 w [evPeek 0 (tk 129) (tk 321),evBinds 0 3,evBad 37 [.int .i64 4] 1 2 (tk 321)] ⟨[(0,1)],[],[],[322]⟩ [(129,.int .i64 4,true)]:=
       ⟨rfl,rfl,rfl,rfl,consC (peek_s (by decide) (.inl rfl) _) (consC (binds_s hB (i:=0) (by decide) hbn.symm) (consC (bad_s (hx 3 f (by decide) (by omega)) (.inr rfl) rfl ys_one k2 (by decide) rfl) nilC)),(nxtS ⟨t0,hcons⟩),noApp,noPut,(eqC (kind_tok (i:=0) (by decide) k1) eqN),(posC ⟨pl,rfl⟩ noPos),fixX h1 h2 h3 h4 h5⟩
      exact D.round rfl rfl I (fin := .pan (tk 322)) (by kernel_rfl) hQ
     |ok y=>
      obtain⟨⟨yk,yx,yn,yp,yc⟩,k⟩:=y
      dsimp only [andThen] at h
      rw[textP_head,placeP_head] at h
      have D:ToldT (specX b q r 2) b E (mkNS E.len hd (SX (specX b q r 2) w1) [l,l.tail,k] [.mk xk xx xn xp xc,.mk yk yx yn yp yc] [] []) hd w1 w [evPeek 0 (tk 129) (tk 321),evBinds 0 3,evTree 37 [.int .i64 4] 1 2 (tk 260) 1 (tk 321)] ⟨[(0,1)],[],[],[]⟩ [(129,.int .i64 4,true)]:=
       ⟨rfl,rfl,rfl,rfl,consC (peek_s (by decide) (.inl rfl) _) (consC (binds_s hB (i:=0) (by decide) hbn.symm) (consC (tree_s (hx 3 f (by decide) (by omega)) (.inr rfl) rfl ys_one k2 (.inl rfl) (by decide)) nilC)),(nxtS ⟨t0,hcons⟩),noApp,noPut,(eqC (kind_tok (i:=0) (by decide) k1) eqN),noPos,fixX h1 h2 h3 h4 h5⟩
      exact D.round rfl rfl I (fin := .again 2 (.nd (.int .i64 33) (tk 130) (.int .u64 0) (tk 132) [.ab (tk 256) (tk 257) (tk 258) (tk 259) 1,.ab (tk 260) (tk 261) (tk 262) (tk 263) 9])) (by kernel_rfl) fun w' a' I'=>ih _ k w' a' (by omega) h I'
   ·
    rw[if_neg (by decide)] at h
    obtain⟨t0,hcons⟩:=kind_cons (by decide) k1
    cases k2:exprP E.len f (4+1) hd l.tail with
    |none=>rw[k2] at h;cases h
    |some y=>
     rw[k2] at h
     cases y with
     |error pl=>
      cases h
      have D:ToldT (specX b q r 2) b E (mkNS E.len hd (SX (specX b q r 2) w1) [l,l.tail] [.mk xk xx xn xp xc] [] [(pl:Int)]) hd w1 w [evPeek 0 (tk 129) (tk 321),evBinds 0 4,evBad 37 [.int .i64 5] 1 2 (tk 321)] ⟨[(0,1)],[],[],[322]⟩ [(129,.int .i64 4,true)]:=
       ⟨rfl,rfl,rfl,rfl,consC (peek_s (by decide) (.inl rfl) _) (consC (binds_s hB (i:=0) (by decide) hbn.symm) (consC (bad_s (hx 4 f (by decide) (by omega)) (.inr rfl) rfl ys_one k2 (by decide) rfl) nilC)),(nxtS ⟨t0,hcons⟩),noApp,noPut,(eqC (kind_tok (i:=0) (by decide) k1) eqN),(posC ⟨pl,rfl⟩ noPos),fixX h1 h2 h3 h4 h5⟩
      exact D.round rfl rfl I (fin := .pan (tk 322)) (by kernel_rfl) hQ
     |ok y=>
      obtain⟨⟨yk,yx,yn,yp,yc⟩,k⟩:=y
      dsimp only [andThen] at h
      rw[textP_head,placeP_head] at h
      have D:ToldT (specX b q r 2) b E (mkNS E.len hd (SX (specX b q r 2) w1) [l,l.tail,k] [.mk xk xx xn xp xc,.mk yk yx yn yp yc] [] []) hd w1 w [evPeek 0 (tk 129) (tk 321),evBinds 0 4,evTree 37 [.int .i64 5] 1 2 (tk 260) 1 (tk 321)] ⟨[(0,1)],[],[],[]⟩ [(129,.int .i64 4,true)]:=
       ⟨rfl,rfl,rfl,rfl,consC (peek_s (by decide) (.inl rfl) _) (consC (binds_s hB (i:=0) (by decide) hbn.symm) (consC (tree_s (hx 4 f (by decide) (by omega)) (.inr rfl) rfl ys_one k2 (.inl rfl) (by decide)) nilC)),(nxtS ⟨t0,hcons⟩),noApp,noPut,(eqC (kind_tok (i:=0) (by decide) k1) eqN),noPos,fixX h1 h2 h3 h4 h5⟩
      exact D.round rfl rfl I (fin := .again 2 (.nd (.int .i64 33) (tk 130) (.int .u64 0) (tk 132) [.ab (tk 256) (tk 257) (tk 258) (tk 259) 1,.ab (tk 260) (tk 261) (tk 262) (tk 263) 9])) (by kernel_rfl) fun w' a' I'=>ih _ k w' a' (by omega) h I'
   ·
    rw[if_neg (by decide)] at h
    obtain⟨t0,hcons⟩:=kind_cons (by decide) k1
    cases k2:exprP E.len f (5+1) hd l.tail with
    |none=>rw[k2] at h;cases h
    |some y=>
     rw[k2] at h
     cases y with
     |error pl=>
      cases h
      have D:ToldT (specX b q r 2) b E (mkNS E.len hd (SX (specX b q r 2) w1) [l,l.tail] [.mk xk xx xn xp xc] [] [(pl:Int)]) hd w1 w [evPeek 0 (tk 129) (tk 321),evBinds 0 5,evBad 37 [.int .i64 6] 1 2 (tk 321)] ⟨[(0,1)],[],[],[322]⟩ [(129,.int .i64 4,true)]:=
       ⟨rfl,rfl,rfl,rfl,consC (peek_s (by decide) (.inl rfl) _) (consC (binds_s hB (i:=0) (by decide) hbn.symm) (consC (bad_s (hx 5 f (by decide) (by omega)) (.inr rfl) rfl ys_one k2 (by decide) rfl) nilC)),(nxtS ⟨t0,hcons⟩),noApp,noPut,(eqC (kind_tok (i:=0) (by decide) k1) eqN),(posC ⟨pl,rfl⟩ noPos),fixX h1 h2 h3 h4 h5⟩
      exact D.round rfl rfl I (fin := .pan (tk 322)) (by kernel_rfl) hQ
     |ok y=>
      obtain⟨⟨yk,yx,yn,yp,yc⟩,k⟩:=y
      dsimp only [andThen] at h
      rw[textP_head,placeP_head] at h
      have D:ToldT (specX b q r 2) b E (mkNS E.len hd (SX (specX b q r 2) w1) [l,l.tail,k] [.mk xk xx xn xp xc,.mk yk yx yn yp yc] [] []) hd w1 w [evPeek 0 (tk 129) (tk 321),evBinds 0 5,evTree 37 [.int .i64 6] 1 2 (tk 260) 1 (tk 321)] ⟨[(0,1)],[],[],[]⟩ [(129,.int .i64 4,true)]:=
       ⟨rfl,rfl,rfl,rfl,consC (peek_s (by decide) (.inl rfl) _) (consC (binds_s hB (i:=0) (by decide) hbn.symm) (consC (tree_s (hx 5 f (by decide) (by omega)) (.inr rfl) rfl ys_one k2 (.inl rfl) (by decide)) nilC)),(nxtS ⟨t0,hcons⟩),noApp,noPut,(eqC (kind_tok (i:=0) (by decide) k1) eqN),noPos,fixX h1 h2 h3 h4 h5⟩
      exact D.round rfl rfl I (fin := .again 2 (.nd (.int .i64 33) (tk 130) (.int .u64 0) (tk 132) [.ab (tk 256) (tk 257) (tk 258) (tk 259) 1,.ab (tk 260) (tk 261) (tk 262) (tk 263) 9])) (by kernel_rfl) fun w' a' I'=>ih _ k w' a' (by omega) h I'
set_option maxRecDepth 20000 in
theorem expr_loop3 {b q r F0:Nat}{E:Env}{hd:Bool}{w1:World}(h1:b<q)(h2:b<r)(h3:q≠r)(h4:b<w1.heap.size)(h5:r<w1.heap.size)(hB:BindsC b E)(hx:∀ (k g:Nat),k≤5→g<F0→Reads b E hd 37 #[rp b,.int .i64 ((k+1:Nat):Int)] (exprP E.len g (k+1) hd)){Q:Exit→Act→World→Prop}{res:Except Nat (Tr×List Tok)}
  (hQ:match res with
   | .ok (t,l')=>∀ w' a',TEnd (specX b q r 3) b E hd w1 t l' w' a'→Q .ret a' w'
   | .error p=>∀ w' a',KeepQ2 b q r w1 w'→a'.defers=[]→Q (.panic [{ v:=faultV p,recovered:=false }]) a' w'):
  ∀ (f:Nat) (x:Tr) (l:List Tok) (w:World) (a:Act),f≤F0→exprLoop E.len f 3 hd x l=some res→TInv (specX b q r 3) b E hd w1 x l w a→LoopWp Tryz.prog exprBody Q a w:=by
 intro f
 induction f with
 |zero=>intro x l w a _ h;rw[exprLoop] at h;cases h
 |succ f ih=>
  intro x l w a hf h I
  rw[exprLoop] at h
  obtain⟨xk,xx,xn,xp,xc⟩:=x
  refine loop_next ?_
  generalize hbz:(if (kindP l==4)=true then bindsP (textP l) else 0)=bz at h
  cases k1:kindP l==4 with
  |false=>
   obtain rfl:bz=0:=by rw[←hbz,k1];rfl
   rw[if_pos (by decide)] at h
   cases h
   have D:ToldT (specX b q r 3) b E (mkNS E.len hd (SX (specX b q r 3) w1) [l] [.mk xk xx xn xp xc] [] []) hd w1 w [evPeek 0 (tk 129) (tk 321)] ⟨[],[],[],[]⟩ [(129,.int .i64 4,false)]:=
    ⟨rfl,rfl,rfl,rfl,consC (peek_s (by decide) (.inl rfl) _) nilC,(fun _ hx=>(by cases hx)),noApp,noPut,(eqC (kind_tok (i:=0) (by decide) k1) eqN),noPos,fixX h1 h2 h3 h4 h5⟩
   exact D.round rfl rfl I (fin := .ret 0 (.ab (tk 256) (tk 257) (tk 258) (tk 259) 1)) (by kernel_rfl) hQ
  |true=>
   obtain rfl:bz=bindsP (textP l):=by rw[←hbz,k1];rfl
   obtain⟨bn,hbn⟩:∃ n,n=bindsP (textP l):=⟨_,rfl⟩
   have hble:=binds_le (textP l)
   rw[←hbn] at h hble
   rcases (by omega:bn=0∨bn=1∨bn=2∨bn=3∨bn=4∨bn=5) with rfl|rfl|rfl|rfl|rfl|rfl
   ·
    rw[if_pos (by decide)] at h
    cases h
    have D:ToldT (specX b q r 3) b E (mkNS E.len hd (SX (specX b q r 3) w1) [l] [.mk xk xx xn xp xc] [] []) hd w1 w [evPeek 0 (tk 129) (tk 321),evBinds 0 0] ⟨[],[],[],[]⟩ [(129,.int .i64 4,true)]:=
     ⟨rfl,rfl,rfl,rfl,consC (peek_s (by decide) (.inl rfl) _) (consC (binds_s hB (i:=0) (by decide) hbn.symm) nilC),(fun _ hx=>(by cases hx)),noApp,noPut,(eqC (kind_tok (i:=0) (by decide) k1) eqN),noPos,fixX h1 h2 h3 h4 h5⟩
    exact D.round rfl rfl I (fin := .ret 0 (.ab (tk 256) (tk 257) (tk 258) (tk 259) 1)) (by kernel_rfl) hQ
   ·
    rw[if_pos (by decide)] at h
    cases h
    have D:ToldT (specX b q r 3) b E (mkNS E.len hd (SX (specX b q r 3) w1) [l] [.mk xk xx xn xp xc] [] []) hd w1 w [evPeek 0 (tk 129) (tk 321),evBinds 0 1] ⟨[],[],[],[]⟩ [(129,.int .i64 4,true)]:=
     ⟨rfl,rfl,rfl,rfl,consC (peek_s (by decide) (.inl rfl) _) (consC (binds_s hB (i:=0) (by decide) hbn.symm) nilC),(fun _ hx=>(by cases hx)),noApp,noPut,(eqC (kind_tok (i:=0) (by decide) k1) eqN),noPos,fixX h1 h2 h3 h4 h5⟩
    exact D.round rfl rfl I (fin := .ret 0 (.ab (tk 256) (tk 257) (tk 258) (tk 259) 1)) (by kernel_rfl) hQ
   ·
    rw[if_pos (by decide)] at h
    cases h
    have D:ToldT (specX b q r 3) b E (mkNS E.len hd (SX (specX b q r 3) w1) [l] [.mk xk xx xn xp xc] [] []) hd w1 w [evPeek 0 (tk 129) (tk 321),evBinds 0 2] ⟨[],[],[],[]⟩ [(129,.int .i64 4,true)]:=
     ⟨rfl,rfl,rfl,rfl,consC (peek_s (by decide) (.inl rfl) _) (consC (binds_s hB (i:=0) (by decide) hbn.symm) nilC),(fun _ hx=>(by cases hx)),noApp,noPut,(eqC (kind_tok (i:=0) (by decide) k1) eqN),noPos,fixX h1 h2 h3 h4 h5⟩
    exact D.round rfl rfl I (fin := .ret 0 (.ab (tk 256) (tk 257) (tk 258) (tk 259) 1)) (by kernel_rfl) hQ
   ·
    rw[if_neg (by decide)] at h
    obtain⟨t0,hcons⟩:=kind_cons (by decide) k1
    cases k2:exprP E.len f (3+1) hd l.tail with
    |none=>rw[k2] at h;cases h
    |some y=>
     rw[k2] at h
     cases y with
     |error pl=>
      cases h
      have D:ToldT (specX b q r 3) b E (mkNS E.len hd (SX (specX b q r 3) w1) [l,l.tail] [.mk xk xx xn xp xc] [] [(pl:Int)]) hd w1 w [evPeek 0 (tk 129) (tk 321),evBinds 0 3,evBad 37 [.int .i64 4] 1 2 (tk 321)] ⟨[(0,1)],[],[],[322]⟩ [(129,.int .i64 4,true)]:=
       ⟨rfl,rfl,rfl,rfl,consC (peek_s (by decide) (.inl rfl) _) (consC (binds_s hB (i:=0) (by decide) hbn.symm) (consC (bad_s (hx 3 f (by decide) (by omega)) (.inr rfl) rfl ys_one k2 (by decide) rfl) nilC)),(nxtS ⟨t0,hcons⟩),noApp,noPut,(eqC (kind_tok (i:=0) (by decide) k1) eqN),(posC ⟨pl,rfl⟩ noPos),fixX h1 h2 h3 h4 h5⟩
      exact D.round rfl rfl I (fin := .pan (tk 322)) (by kernel_rfl) hQ
     |ok y=>
      obtain⟨⟨yk,yx,yn,yp,yc⟩,k⟩:=y
      dsimp only [andThen] at h
      rw[textP_head,placeP_head] at h
      have D:ToldT (specX b q r 3) b E (mkNS E.len hd (SX (specX b q r 3) w1) [l,l.tail,k] [.mk xk xx xn xp xc,.mk yk yx yn yp yc] [] []) hd w1 w [evPeek 0 (tk 129) (tk 321),evBinds 0 3,evTree 37 [.int .i64 4] 1 2 (tk 260) 1 (tk 321)] ⟨[(0,1)],[],[],[]⟩ [(129,.int .i64 4,true)]:=
       ⟨rfl,rfl,rfl,rfl,consC (peek_s (by decide) (.inl rfl) _) (consC (binds_s hB (i:=0) (by decide) hbn.symm) (consC (tree_s (hx 3 f (by decide) (by omega)) (.inr rfl) rfl ys_one k2 (.inl rfl) (by decide)) nilC)),(nxtS ⟨t0,hcons⟩),noApp,noPut,(eqC (kind_tok (i:=0) (by decide) k1) eqN),noPos,fixX h1 h2 h3 h4 h5⟩
      exact D.round rfl rfl I (fin := .again 2 (.nd (.int .i64 33) (tk 130) (.int .u64 0) (tk 132) [.ab (tk 256) (tk 257) (tk 258) (tk 259) 1,.ab (tk 260) (tk 261) (tk 262) (tk 263) 9])) (by kernel_rfl) fun w' a' I'=>ih _ k w' a' (by omega) h I'
   ·
    rw[if_neg (by decide)] at h
    obtain⟨t0,hcons⟩:=kind_cons (by decide) k1
    cases k2:exprP E.len f (4+1) hd l.tail with
    |none=>rw[k2] at h;cases h
    |some y=>
     rw[k2] at h
     cases y with
     |error pl=>
      cases h
      have D:ToldT (specX b q r 3) b E (mkNS E.len hd (SX (specX b q r 3) w1) [l,l.tail] [.mk xk xx xn xp xc] [] [(pl:Int)]) hd w1 w [evPeek 0 (tk 129) (tk 321),evBinds 0 4,evBad 37 [.int .i64 5] 1 2 (tk 321)] ⟨[(0,1)],[],[],[322]⟩ [(129,.int .i64 4,true)]:=
       ⟨rfl,rfl,rfl,rfl,consC (peek_s (by decide) (.inl rfl) _) (consC (binds_s hB (i:=0) (by decide) hbn.symm) (consC (bad_s (hx 4 f (by decide) (by omega)) (.inr rfl) rfl ys_one k2 (by decide) rfl) nilC)),(nxtS ⟨t0,hcons⟩),noApp,noPut,(eqC (kind_tok (i:=0) (by decide) k1) eqN),(posC ⟨pl,rfl⟩ noPos),fixX h1 h2 h3 h4 h5⟩
      exact D.round rfl rfl I (fin := .pan (tk 322)) (by kernel_rfl) hQ
     |ok y=>
      obtain⟨⟨yk,yx,yn,yp,yc⟩,k⟩:=y
      dsimp only [andThen] at h
      rw[textP_head,placeP_head] at h
      have D:ToldT (specX b q r 3) b E (mkNS E.len hd (SX (specX b q r 3) w1) [l,l.tail,k] [.mk xk xx xn xp xc,.mk yk yx yn yp yc] [] []) hd w1 w [evPeek 0 (tk 129) (tk 321),evBinds 0 4,evTree 37 [.int .i64 5] 1 2 (tk 260) 1 (tk 321)] ⟨[(0,1)],[],[],[]⟩ [(129,.int .i64 4,true)]:=
       ⟨rfl,rfl,rfl,rfl,consC (peek_s (by decide) (.inl rfl) _) (consC (binds_s hB (i:=0) (by decide) hbn.symm) (consC (tree_s (hx 4 f (by decide) (by omega)) (.inr rfl) rfl ys_one k2 (.inl rfl) (by decide)) nilC)),(nxtS ⟨t0,hcons⟩),noApp,noPut,(eqC (kind_tok (i:=0) (by decide) k1) eqN),noPos,fixX h1 h2 h3 h4 h5⟩
      exact D.round rfl rfl I (fin := .again 2 (.nd (.int .i64 33) (tk 130) (.int .u64 0) (tk 132) [.ab (tk 256) (tk 257) (tk 258) (tk 259) 1,.ab (tk 260) (tk 261) (tk 262) (tk 263) 9])) (by kernel_rfl) fun w' a' I'=>ih _ k w' a' (by omega) h I'
   ·
    rw[if_neg (by decide)] at h
    obtain⟨t0,hcons⟩:=kind_cons (by decide) k1
    cases k2:exprP E.len f (5+1) hd l.tail with
    |none=>rw[k2] at h;cases h
    |some y=>
     rw[k2] at h
     cases y with
     |error pl=>
      cases h
      have D:ToldT (specX b q r 3) b E (mkNS E.len hd (SX (specX b q r 3) w1) [l,l.tail] [.mk xk xx xn xp xc] [] [(pl:Int)]) hd w1 w [evPeek 0 (tk 129) (tk 321),evBinds 0 5,evBad 37 [.int .i64 6] 1 2 (tk 321)] ⟨[(0,1)],[],[],[322]⟩ [(129,.int .i64 4,true)]:=
       ⟨rfl,rfl,rfl,rfl,consC (peek_s (by decide) (.inl rfl) _) (consC (binds_s hB (i:=0) (by decide) hbn.symm) (consC (bad_s (hx 5 f (by decide) (by omega)) (.inr rfl) rfl ys_one k2 (by decide) rfl) nilC)),(nxtS ⟨t0,hcons⟩),noApp,noPut,(eqC (kind_tok (i:=0) (by decide) k1) eqN),(posC ⟨pl,rfl⟩ noPos),fixX h1 h2 h3 h4 h5⟩
      exact D.round rfl rfl I (fin := .pan (tk 322)) (by kernel_rfl) hQ
     |ok y=>
      obtain⟨⟨yk,yx,yn,yp,yc⟩,k⟩:=y
      dsimp only [andThen] at h
      rw[textP_head,placeP_head] at h
      have D:ToldT (specX b q r 3) b E (mkNS E.len hd (SX (specX b q r 3) w1) [l,l.tail,k] [.mk xk xx xn xp xc,.mk yk yx yn yp yc] [] []) hd w1 w [evPeek 0 (tk 129) (tk 321),evBinds 0 5,evTree 37 [.int .i64 6] 1 2 (tk 260) 1 (tk 321)] ⟨[(0,1)],[],[],[]⟩ [(129,.int .i64 4,true)]:=
       ⟨rfl,rfl,rfl,rfl,consC (peek_s (by decide) (.inl rfl) _) (consC (binds_s hB (i:=0) (by decide) hbn.symm) (consC (tree_s (hx 5 f (by decide) (by omega)) (.inr rfl) rfl ys_one k2 (.inl rfl) (by decide)) nilC)),(nxtS ⟨t0,hcons⟩),noApp,noPut,(eqC (kind_tok (i:=0) (by decide) k1) eqN),noPos,fixX h1 h2 h3 h4 h5⟩
      exact D.round rfl rfl I (fin := .again 2 (.nd (.int .i64 33) (tk 130) (.int .u64 0) (tk 132) [.ab (tk 256) (tk 257) (tk 258) (tk 259) 1,.ab (tk 260) (tk 261) (tk 262) (tk 263) 9])) (by kernel_rfl) fun w' a' I'=>ih _ k w' a' (by omega) h I'
set_option maxRecDepth 20000 in
theorem expr_loop4 {b q r F0:Nat}{E:Env}{hd:Bool}{w1:World}(h1:b<q)(h2:b<r)(h3:q≠r)(h4:b<w1.heap.size)(h5:r<w1.heap.size)(hB:BindsC b E)(hx:∀ (k g:Nat),k≤5→g<F0→Reads b E hd 37 #[rp b,.int .i64 ((k+1:Nat):Int)] (exprP E.len g (k+1) hd)){Q:Exit→Act→World→Prop}{res:Except Nat (Tr×List Tok)}
  (hQ:match res with
   | .ok (t,l')=>∀ w' a',TEnd (specX b q r 4) b E hd w1 t l' w' a'→Q .ret a' w'
   | .error p=>∀ w' a',KeepQ2 b q r w1 w'→a'.defers=[]→Q (.panic [{ v:=faultV p,recovered:=false }]) a' w'):
  ∀ (f:Nat) (x:Tr) (l:List Tok) (w:World) (a:Act),f≤F0→exprLoop E.len f 4 hd x l=some res→TInv (specX b q r 4) b E hd w1 x l w a→LoopWp Tryz.prog exprBody Q a w:=by
 intro f
 induction f with
 |zero=>intro x l w a _ h;rw[exprLoop] at h;cases h
 |succ f ih=>
  intro x l w a hf h I
  rw[exprLoop] at h
  obtain⟨xk,xx,xn,xp,xc⟩:=x
  refine loop_next ?_
  generalize hbz:(if (kindP l==4)=true then bindsP (textP l) else 0)=bz at h
  cases k1:kindP l==4 with
  |false=>
   obtain rfl:bz=0:=by rw[←hbz,k1];rfl
   rw[if_pos (by decide)] at h
   cases h
   have D:ToldT (specX b q r 4) b E (mkNS E.len hd (SX (specX b q r 4) w1) [l] [.mk xk xx xn xp xc] [] []) hd w1 w [evPeek 0 (tk 129) (tk 321)] ⟨[],[],[],[]⟩ [(129,.int .i64 4,false)]:=
    ⟨rfl,rfl,rfl,rfl,consC (peek_s (by decide) (.inl rfl) _) nilC,(fun _ hx=>(by cases hx)),noApp,noPut,(eqC (kind_tok (i:=0) (by decide) k1) eqN),noPos,fixX h1 h2 h3 h4 h5⟩
   exact D.round rfl rfl I (fin := .ret 0 (.ab (tk 256) (tk 257) (tk 258) (tk 259) 1)) (by kernel_rfl) hQ
  |true=>
   obtain rfl:bz=bindsP (textP l):=by rw[←hbz,k1];rfl
   obtain⟨bn,hbn⟩:∃ n,n=bindsP (textP l):=⟨_,rfl⟩
   have hble:=binds_le (textP l)
   rw[←hbn] at h hble
   rcases (by omega:bn=0∨bn=1∨bn=2∨bn=3∨bn=4∨bn=5) with rfl|rfl|rfl|rfl|rfl|rfl
   ·
    rw[if_pos (by decide)] at h
    cases h
    have D:ToldT (specX b q r 4) b E (mkNS E.len hd (SX (specX b q r 4) w1) [l] [.mk xk xx xn xp xc] [] []) hd w1 w [evPeek 0 (tk 129) (tk 321),evBinds 0 0] ⟨[],[],[],[]⟩ [(129,.int .i64 4,true)]:=
     ⟨rfl,rfl,rfl,rfl,consC (peek_s (by decide) (.inl rfl) _) (consC (binds_s hB (i:=0) (by decide) hbn.symm) nilC),(fun _ hx=>(by cases hx)),noApp,noPut,(eqC (kind_tok (i:=0) (by decide) k1) eqN),noPos,fixX h1 h2 h3 h4 h5⟩
    exact D.round rfl rfl I (fin := .ret 0 (.ab (tk 256) (tk 257) (tk 258) (tk 259) 1)) (by kernel_rfl) hQ
   ·
    rw[if_pos (by decide)] at h
    cases h
    have D:ToldT (specX b q r 4) b E (mkNS E.len hd (SX (specX b q r 4) w1) [l] [.mk xk xx xn xp xc] [] []) hd w1 w [evPeek 0 (tk 129) (tk 321),evBinds 0 1] ⟨[],[],[],[]⟩ [(129,.int .i64 4,true)]:=
     ⟨rfl,rfl,rfl,rfl,consC (peek_s (by decide) (.inl rfl) _) (consC (binds_s hB (i:=0) (by decide) hbn.symm) nilC),(fun _ hx=>(by cases hx)),noApp,noPut,(eqC (kind_tok (i:=0) (by decide) k1) eqN),noPos,fixX h1 h2 h3 h4 h5⟩
    exact D.round rfl rfl I (fin := .ret 0 (.ab (tk 256) (tk 257) (tk 258) (tk 259) 1)) (by kernel_rfl) hQ
   ·
    rw[if_pos (by decide)] at h
    cases h
    have D:ToldT (specX b q r 4) b E (mkNS E.len hd (SX (specX b q r 4) w1) [l] [.mk xk xx xn xp xc] [] []) hd w1 w [evPeek 0 (tk 129) (tk 321),evBinds 0 2] ⟨[],[],[],[]⟩ [(129,.int .i64 4,true)]:=
     ⟨rfl,rfl,rfl,rfl,consC (peek_s (by decide) (.inl rfl) _) (consC (binds_s hB (i:=0) (by decide) hbn.symm) nilC),(fun _ hx=>(by cases hx)),noApp,noPut,(eqC (kind_tok (i:=0) (by decide) k1) eqN),noPos,fixX h1 h2 h3 h4 h5⟩
    exact D.round rfl rfl I (fin := .ret 0 (.ab (tk 256) (tk 257) (tk 258) (tk 259) 1)) (by kernel_rfl) hQ
   ·
    rw[if_pos (by decide)] at h
    cases h
    have D:ToldT (specX b q r 4) b E (mkNS E.len hd (SX (specX b q r 4) w1) [l] [.mk xk xx xn xp xc] [] []) hd w1 w [evPeek 0 (tk 129) (tk 321),evBinds 0 3] ⟨[],[],[],[]⟩ [(129,.int .i64 4,true)]:=
     ⟨rfl,rfl,rfl,rfl,consC (peek_s (by decide) (.inl rfl) _) (consC (binds_s hB (i:=0) (by decide) hbn.symm) nilC),(fun _ hx=>(by cases hx)),noApp,noPut,(eqC (kind_tok (i:=0) (by decide) k1) eqN),noPos,fixX h1 h2 h3 h4 h5⟩
    exact D.round rfl rfl I (fin := .ret 0 (.ab (tk 256) (tk 257) (tk 258) (tk 259) 1)) (by kernel_rfl) hQ
   ·
    rw[if_neg (by decide)] at h
    obtain⟨t0,hcons⟩:=kind_cons (by decide) k1
    cases k2:exprP E.len f (4+1) hd l.tail with
    |none=>rw[k2] at h;cases h
    |some y=>
     rw[k2] at h
     cases y with
     |error pl=>
      cases h
      have D:ToldT (specX b q r 4) b E (mkNS E.len hd (SX (specX b q r 4) w1) [l,l.tail] [.mk xk xx xn xp xc] [] [(pl:Int)]) hd w1 w [evPeek 0 (tk 129) (tk 321),evBinds 0 4,evBad 37 [.int .i64 5] 1 2 (tk 321)] ⟨[(0,1)],[],[],[322]⟩ [(129,.int .i64 4,true)]:=
       ⟨rfl,rfl,rfl,rfl,consC (peek_s (by decide) (.inl rfl) _) (consC (binds_s hB (i:=0) (by decide) hbn.symm) (consC (bad_s (hx 4 f (by decide) (by omega)) (.inr rfl) rfl ys_one k2 (by decide) rfl) nilC)),(nxtS ⟨t0,hcons⟩),noApp,noPut,(eqC (kind_tok (i:=0) (by decide) k1) eqN),(posC ⟨pl,rfl⟩ noPos),fixX h1 h2 h3 h4 h5⟩
      exact D.round rfl rfl I (fin := .pan (tk 322)) (by kernel_rfl) hQ
     |ok y=>
      obtain⟨⟨yk,yx,yn,yp,yc⟩,k⟩:=y
      dsimp only [andThen] at h
      rw[textP_head,placeP_head] at h
      have D:ToldT (specX b q r 4) b E (mkNS E.len hd (SX (specX b q r 4) w1) [l,l.tail,k] [.mk xk xx xn xp xc,.mk yk yx yn yp yc] [] []) hd w1 w [evPeek 0 (tk 129) (tk 321),evBinds 0 4,evTree 37 [.int .i64 5] 1 2 (tk 260) 1 (tk 321)] ⟨[(0,1)],[],[],[]⟩ [(129,.int .i64 4,true)]:=
       ⟨rfl,rfl,rfl,rfl,consC (peek_s (by decide) (.inl rfl) _) (consC (binds_s hB (i:=0) (by decide) hbn.symm) (consC (tree_s (hx 4 f (by decide) (by omega)) (.inr rfl) rfl ys_one k2 (.inl rfl) (by decide)) nilC)),(nxtS ⟨t0,hcons⟩),noApp,noPut,(eqC (kind_tok (i:=0) (by decide) k1) eqN),noPos,fixX h1 h2 h3 h4 h5⟩
      exact D.round rfl rfl I (fin := .again 2 (.nd (.int .i64 33) (tk 130) (.int .u64 0) (tk 132) [.ab (tk 256) (tk 257) (tk 258) (tk 259) 1,.ab (tk 260) (tk 261) (tk 262) (tk 263) 9])) (by kernel_rfl) fun w' a' I'=>ih _ k w' a' (by omega) h I'
   ·
    rw[if_neg (by decide)] at h
    obtain⟨t0,hcons⟩:=kind_cons (by decide) k1
    cases k2:exprP E.len f (5+1) hd l.tail with
    |none=>rw[k2] at h;cases h
    |some y=>
     rw[k2] at h
     cases y with
     |error pl=>
      cases h
      have D:ToldT (specX b q r 4) b E (mkNS E.len hd (SX (specX b q r 4) w1) [l,l.tail] [.mk xk xx xn xp xc] [] [(pl:Int)]) hd w1 w [evPeek 0 (tk 129) (tk 321),evBinds 0 5,evBad 37 [.int .i64 6] 1 2 (tk 321)] ⟨[(0,1)],[],[],[322]⟩ [(129,.int .i64 4,true)]:=
       ⟨rfl,rfl,rfl,rfl,consC (peek_s (by decide) (.inl rfl) _) (consC (binds_s hB (i:=0) (by decide) hbn.symm) (consC (bad_s (hx 5 f (by decide) (by omega)) (.inr rfl) rfl ys_one k2 (by decide) rfl) nilC)),(nxtS ⟨t0,hcons⟩),noApp,noPut,(eqC (kind_tok (i:=0) (by decide) k1) eqN),(posC ⟨pl,rfl⟩ noPos),fixX h1 h2 h3 h4 h5⟩
      exact D.round rfl rfl I (fin := .pan (tk 322)) (by kernel_rfl) hQ
     |ok y=>
      obtain⟨⟨yk,yx,yn,yp,yc⟩,k⟩:=y
      dsimp only [andThen] at h
      rw[textP_head,placeP_head] at h
      have D:ToldT (specX b q r 4) b E (mkNS E.len hd (SX (specX b q r 4) w1) [l,l.tail,k] [.mk xk xx xn xp xc,.mk yk yx yn yp yc] [] []) hd w1 w [evPeek 0 (tk 129) (tk 321),evBinds 0 5,evTree 37 [.int .i64 6] 1 2 (tk 260) 1 (tk 321)] ⟨[(0,1)],[],[],[]⟩ [(129,.int .i64 4,true)]:=
       ⟨rfl,rfl,rfl,rfl,consC (peek_s (by decide) (.inl rfl) _) (consC (binds_s hB (i:=0) (by decide) hbn.symm) (consC (tree_s (hx 5 f (by decide) (by omega)) (.inr rfl) rfl ys_one k2 (.inl rfl) (by decide)) nilC)),(nxtS ⟨t0,hcons⟩),noApp,noPut,(eqC (kind_tok (i:=0) (by decide) k1) eqN),noPos,fixX h1 h2 h3 h4 h5⟩
      exact D.round rfl rfl I (fin := .again 2 (.nd (.int .i64 33) (tk 130) (.int .u64 0) (tk 132) [.ab (tk 256) (tk 257) (tk 258) (tk 259) 1,.ab (tk 260) (tk 261) (tk 262) (tk 263) 9])) (by kernel_rfl) fun w' a' I'=>ih _ k w' a' (by omega) h I'
set_option maxRecDepth 20000 in
theorem expr_loop5 {b q r F0:Nat}{E:Env}{hd:Bool}{w1:World}(h1:b<q)(h2:b<r)(h3:q≠r)(h4:b<w1.heap.size)(h5:r<w1.heap.size)(hB:BindsC b E)(hx:∀ (k g:Nat),k≤5→g<F0→Reads b E hd 37 #[rp b,.int .i64 ((k+1:Nat):Int)] (exprP E.len g (k+1) hd)){Q:Exit→Act→World→Prop}{res:Except Nat (Tr×List Tok)}
  (hQ:match res with
   | .ok (t,l')=>∀ w' a',TEnd (specX b q r 5) b E hd w1 t l' w' a'→Q .ret a' w'
   | .error p=>∀ w' a',KeepQ2 b q r w1 w'→a'.defers=[]→Q (.panic [{ v:=faultV p,recovered:=false }]) a' w'):
  ∀ (f:Nat) (x:Tr) (l:List Tok) (w:World) (a:Act),f≤F0→exprLoop E.len f 5 hd x l=some res→TInv (specX b q r 5) b E hd w1 x l w a→LoopWp Tryz.prog exprBody Q a w:=by
 intro f
 induction f with
 |zero=>intro x l w a _ h;rw[exprLoop] at h;cases h
 |succ f ih=>
  intro x l w a hf h I
  rw[exprLoop] at h
  obtain⟨xk,xx,xn,xp,xc⟩:=x
  refine loop_next ?_
  generalize hbz:(if (kindP l==4)=true then bindsP (textP l) else 0)=bz at h
  cases k1:kindP l==4 with
  |false=>
   obtain rfl:bz=0:=by rw[←hbz,k1];rfl
   rw[if_pos (by decide)] at h
   cases h
   have D:ToldT (specX b q r 5) b E (mkNS E.len hd (SX (specX b q r 5) w1) [l] [.mk xk xx xn xp xc] [] []) hd w1 w [evPeek 0 (tk 129) (tk 321)] ⟨[],[],[],[]⟩ [(129,.int .i64 4,false)]:=
    ⟨rfl,rfl,rfl,rfl,consC (peek_s (by decide) (.inl rfl) _) nilC,(fun _ hx=>(by cases hx)),noApp,noPut,(eqC (kind_tok (i:=0) (by decide) k1) eqN),noPos,fixX h1 h2 h3 h4 h5⟩
   exact D.round rfl rfl I (fin := .ret 0 (.ab (tk 256) (tk 257) (tk 258) (tk 259) 1)) (by kernel_rfl) hQ
  |true=>
   obtain rfl:bz=bindsP (textP l):=by rw[←hbz,k1];rfl
   obtain⟨bn,hbn⟩:∃ n,n=bindsP (textP l):=⟨_,rfl⟩
   have hble:=binds_le (textP l)
   rw[←hbn] at h hble
   rcases (by omega:bn=0∨bn=1∨bn=2∨bn=3∨bn=4∨bn=5) with rfl|rfl|rfl|rfl|rfl|rfl
   ·
    rw[if_pos (by decide)] at h
    cases h
    have D:ToldT (specX b q r 5) b E (mkNS E.len hd (SX (specX b q r 5) w1) [l] [.mk xk xx xn xp xc] [] []) hd w1 w [evPeek 0 (tk 129) (tk 321),evBinds 0 0] ⟨[],[],[],[]⟩ [(129,.int .i64 4,true)]:=
     ⟨rfl,rfl,rfl,rfl,consC (peek_s (by decide) (.inl rfl) _) (consC (binds_s hB (i:=0) (by decide) hbn.symm) nilC),(fun _ hx=>(by cases hx)),noApp,noPut,(eqC (kind_tok (i:=0) (by decide) k1) eqN),noPos,fixX h1 h2 h3 h4 h5⟩
    exact D.round rfl rfl I (fin := .ret 0 (.ab (tk 256) (tk 257) (tk 258) (tk 259) 1)) (by kernel_rfl) hQ
   ·
    rw[if_pos (by decide)] at h
    cases h
    have D:ToldT (specX b q r 5) b E (mkNS E.len hd (SX (specX b q r 5) w1) [l] [.mk xk xx xn xp xc] [] []) hd w1 w [evPeek 0 (tk 129) (tk 321),evBinds 0 1] ⟨[],[],[],[]⟩ [(129,.int .i64 4,true)]:=
     ⟨rfl,rfl,rfl,rfl,consC (peek_s (by decide) (.inl rfl) _) (consC (binds_s hB (i:=0) (by decide) hbn.symm) nilC),(fun _ hx=>(by cases hx)),noApp,noPut,(eqC (kind_tok (i:=0) (by decide) k1) eqN),noPos,fixX h1 h2 h3 h4 h5⟩
    exact D.round rfl rfl I (fin := .ret 0 (.ab (tk 256) (tk 257) (tk 258) (tk 259) 1)) (by kernel_rfl) hQ
   ·
    rw[if_pos (by decide)] at h
    cases h
    have D:ToldT (specX b q r 5) b E (mkNS E.len hd (SX (specX b q r 5) w1) [l] [.mk xk xx xn xp xc] [] []) hd w1 w [evPeek 0 (tk 129) (tk 321),evBinds 0 2] ⟨[],[],[],[]⟩ [(129,.int .i64 4,true)]:=
     ⟨rfl,rfl,rfl,rfl,consC (peek_s (by decide) (.inl rfl) _) (consC (binds_s hB (i:=0) (by decide) hbn.symm) nilC),(fun _ hx=>(by cases hx)),noApp,noPut,(eqC (kind_tok (i:=0) (by decide) k1) eqN),noPos,fixX h1 h2 h3 h4 h5⟩
    exact D.round rfl rfl I (fin := .ret 0 (.ab (tk 256) (tk 257) (tk 258) (tk 259) 1)) (by kernel_rfl) hQ
   ·
    rw[if_pos (by decide)] at h
    cases h
    have D:ToldT (specX b q r 5) b E (mkNS E.len hd (SX (specX b q r 5) w1) [l] [.mk xk xx xn xp xc] [] []) hd w1 w [evPeek 0 (tk 129) (tk 321),evBinds 0 3] ⟨[],[],[],[]⟩ [(129,.int .i64 4,true)]:=
     ⟨rfl,rfl,rfl,rfl,consC (peek_s (by decide) (.inl rfl) _) (consC (binds_s hB (i:=0) (by decide) hbn.symm) nilC),(fun _ hx=>(by cases hx)),noApp,noPut,(eqC (kind_tok (i:=0) (by decide) k1) eqN),noPos,fixX h1 h2 h3 h4 h5⟩
    exact D.round rfl rfl I (fin := .ret 0 (.ab (tk 256) (tk 257) (tk 258) (tk 259) 1)) (by kernel_rfl) hQ
   ·
    rw[if_pos (by decide)] at h
    cases h
    have D:ToldT (specX b q r 5) b E (mkNS E.len hd (SX (specX b q r 5) w1) [l] [.mk xk xx xn xp xc] [] []) hd w1 w [evPeek 0 (tk 129) (tk 321),evBinds 0 4] ⟨[],[],[],[]⟩ [(129,.int .i64 4,true)]:=
     ⟨rfl,rfl,rfl,rfl,consC (peek_s (by decide) (.inl rfl) _) (consC (binds_s hB (i:=0) (by decide) hbn.symm) nilC),(fun _ hx=>(by cases hx)),noApp,noPut,(eqC (kind_tok (i:=0) (by decide) k1) eqN),noPos,fixX h1 h2 h3 h4 h5⟩
    exact D.round rfl rfl I (fin := .ret 0 (.ab (tk 256) (tk 257) (tk 258) (tk 259) 1)) (by kernel_rfl) hQ
   ·
    rw[if_neg (by decide)] at h
    obtain⟨t0,hcons⟩:=kind_cons (by decide) k1
    cases k2:exprP E.len f (5+1) hd l.tail with
    |none=>rw[k2] at h;cases h
    |some y=>
     rw[k2] at h
     cases y with
     |error pl=>
      cases h
      have D:ToldT (specX b q r 5) b E (mkNS E.len hd (SX (specX b q r 5) w1) [l,l.tail] [.mk xk xx xn xp xc] [] [(pl:Int)]) hd w1 w [evPeek 0 (tk 129) (tk 321),evBinds 0 5,evBad 37 [.int .i64 6] 1 2 (tk 321)] ⟨[(0,1)],[],[],[322]⟩ [(129,.int .i64 4,true)]:=
       ⟨rfl,rfl,rfl,rfl,consC (peek_s (by decide) (.inl rfl) _) (consC (binds_s hB (i:=0) (by decide) hbn.symm) (consC (bad_s (hx 5 f (by decide) (by omega)) (.inr rfl) rfl ys_one k2 (by decide) rfl) nilC)),(nxtS ⟨t0,hcons⟩),noApp,noPut,(eqC (kind_tok (i:=0) (by decide) k1) eqN),(posC ⟨pl,rfl⟩ noPos),fixX h1 h2 h3 h4 h5⟩
      exact D.round rfl rfl I (fin := .pan (tk 322)) (by kernel_rfl) hQ
     |ok y=>
      obtain⟨⟨yk,yx,yn,yp,yc⟩,k⟩:=y
      dsimp only [andThen] at h
      rw[textP_head,placeP_head] at h
      have D:ToldT (specX b q r 5) b E (mkNS E.len hd (SX (specX b q r 5) w1) [l,l.tail,k] [.mk xk xx xn xp xc,.mk yk yx yn yp yc] [] []) hd w1 w [evPeek 0 (tk 129) (tk 321),evBinds 0 5,evTree 37 [.int .i64 6] 1 2 (tk 260) 1 (tk 321)] ⟨[(0,1)],[],[],[]⟩ [(129,.int .i64 4,true)]:=
       ⟨rfl,rfl,rfl,rfl,consC (peek_s (by decide) (.inl rfl) _) (consC (binds_s hB (i:=0) (by decide) hbn.symm) (consC (tree_s (hx 5 f (by decide) (by omega)) (.inr rfl) rfl ys_one k2 (.inl rfl) (by decide)) nilC)),(nxtS ⟨t0,hcons⟩),noApp,noPut,(eqC (kind_tok (i:=0) (by decide) k1) eqN),noPos,fixX h1 h2 h3 h4 h5⟩
      exact D.round rfl rfl I (fin := .again 2 (.nd (.int .i64 33) (tk 130) (.int .u64 0) (tk 132) [.ab (tk 256) (tk 257) (tk 258) (tk 259) 1,.ab (tk 260) (tk 261) (tk 262) (tk 263) 9])) (by kernel_rfl) fun w' a' I'=>ih _ k w' a' (by omega) h I'
set_option maxRecDepth 20000 in
theorem expr_loop6 {b q r F0:Nat}{E:Env}{hd:Bool}{w1:World}(h1:b<q)(h2:b<r)(h3:q≠r)(h4:b<w1.heap.size)(h5:r<w1.heap.size)(hB:BindsC b E)(hx:∀ (k g:Nat),k≤5→g<F0→Reads b E hd 37 #[rp b,.int .i64 ((k+1:Nat):Int)] (exprP E.len g (k+1) hd)){Q:Exit→Act→World→Prop}{res:Except Nat (Tr×List Tok)}
  (hQ:match res with
   | .ok (t,l')=>∀ w' a',TEnd (specX b q r 6) b E hd w1 t l' w' a'→Q .ret a' w'
   | .error p=>∀ w' a',KeepQ2 b q r w1 w'→a'.defers=[]→Q (.panic [{ v:=faultV p,recovered:=false }]) a' w'):
  ∀ (f:Nat) (x:Tr) (l:List Tok) (w:World) (a:Act),f≤F0→exprLoop E.len f 6 hd x l=some res→TInv (specX b q r 6) b E hd w1 x l w a→LoopWp Tryz.prog exprBody Q a w:=by
 intro f
 induction f with
 |zero=>intro x l w a _ h;rw[exprLoop] at h;cases h
 |succ f ih=>
  intro x l w a hf h I
  rw[exprLoop] at h
  obtain⟨xk,xx,xn,xp,xc⟩:=x
  refine loop_next ?_
  generalize hbz:(if (kindP l==4)=true then bindsP (textP l) else 0)=bz at h
  cases k1:kindP l==4 with
  |false=>
   obtain rfl:bz=0:=by rw[←hbz,k1];rfl
   rw[if_pos (by decide)] at h
   cases h
   have D:ToldT (specX b q r 6) b E (mkNS E.len hd (SX (specX b q r 6) w1) [l] [.mk xk xx xn xp xc] [] []) hd w1 w [evPeek 0 (tk 129) (tk 321)] ⟨[],[],[],[]⟩ [(129,.int .i64 4,false)]:=
    ⟨rfl,rfl,rfl,rfl,consC (peek_s (by decide) (.inl rfl) _) nilC,(fun _ hx=>(by cases hx)),noApp,noPut,(eqC (kind_tok (i:=0) (by decide) k1) eqN),noPos,fixX h1 h2 h3 h4 h5⟩
   exact D.round rfl rfl I (fin := .ret 0 (.ab (tk 256) (tk 257) (tk 258) (tk 259) 1)) (by kernel_rfl) hQ
  |true=>
   obtain rfl:bz=bindsP (textP l):=by rw[←hbz,k1];rfl
   obtain⟨bn,hbn⟩:∃ n,n=bindsP (textP l):=⟨_,rfl⟩
   have hble:=binds_le (textP l)
   rw[←hbn] at h hble
   rcases (by omega:bn=0∨bn=1∨bn=2∨bn=3∨bn=4∨bn=5) with rfl|rfl|rfl|rfl|rfl|rfl
   ·
    rw[if_pos (by decide)] at h
    cases h
    have D:ToldT (specX b q r 6) b E (mkNS E.len hd (SX (specX b q r 6) w1) [l] [.mk xk xx xn xp xc] [] []) hd w1 w [evPeek 0 (tk 129) (tk 321),evBinds 0 0] ⟨[],[],[],[]⟩ [(129,.int .i64 4,true)]:=
     ⟨rfl,rfl,rfl,rfl,consC (peek_s (by decide) (.inl rfl) _) (consC (binds_s hB (i:=0) (by decide) hbn.symm) nilC),(fun _ hx=>(by cases hx)),noApp,noPut,(eqC (kind_tok (i:=0) (by decide) k1) eqN),noPos,fixX h1 h2 h3 h4 h5⟩
    exact D.round rfl rfl I (fin := .ret 0 (.ab (tk 256) (tk 257) (tk 258) (tk 259) 1)) (by kernel_rfl) hQ
   ·
    rw[if_pos (by decide)] at h
    cases h
    have D:ToldT (specX b q r 6) b E (mkNS E.len hd (SX (specX b q r 6) w1) [l] [.mk xk xx xn xp xc] [] []) hd w1 w [evPeek 0 (tk 129) (tk 321),evBinds 0 1] ⟨[],[],[],[]⟩ [(129,.int .i64 4,true)]:=
     ⟨rfl,rfl,rfl,rfl,consC (peek_s (by decide) (.inl rfl) _) (consC (binds_s hB (i:=0) (by decide) hbn.symm) nilC),(fun _ hx=>(by cases hx)),noApp,noPut,(eqC (kind_tok (i:=0) (by decide) k1) eqN),noPos,fixX h1 h2 h3 h4 h5⟩
    exact D.round rfl rfl I (fin := .ret 0 (.ab (tk 256) (tk 257) (tk 258) (tk 259) 1)) (by kernel_rfl) hQ
   ·
    rw[if_pos (by decide)] at h
    cases h
    have D:ToldT (specX b q r 6) b E (mkNS E.len hd (SX (specX b q r 6) w1) [l] [.mk xk xx xn xp xc] [] []) hd w1 w [evPeek 0 (tk 129) (tk 321),evBinds 0 2] ⟨[],[],[],[]⟩ [(129,.int .i64 4,true)]:=
     ⟨rfl,rfl,rfl,rfl,consC (peek_s (by decide) (.inl rfl) _) (consC (binds_s hB (i:=0) (by decide) hbn.symm) nilC),(fun _ hx=>(by cases hx)),noApp,noPut,(eqC (kind_tok (i:=0) (by decide) k1) eqN),noPos,fixX h1 h2 h3 h4 h5⟩
    exact D.round rfl rfl I (fin := .ret 0 (.ab (tk 256) (tk 257) (tk 258) (tk 259) 1)) (by kernel_rfl) hQ
   ·
    rw[if_pos (by decide)] at h
    cases h
    have D:ToldT (specX b q r 6) b E (mkNS E.len hd (SX (specX b q r 6) w1) [l] [.mk xk xx xn xp xc] [] []) hd w1 w [evPeek 0 (tk 129) (tk 321),evBinds 0 3] ⟨[],[],[],[]⟩ [(129,.int .i64 4,true)]:=
     ⟨rfl,rfl,rfl,rfl,consC (peek_s (by decide) (.inl rfl) _) (consC (binds_s hB (i:=0) (by decide) hbn.symm) nilC),(fun _ hx=>(by cases hx)),noApp,noPut,(eqC (kind_tok (i:=0) (by decide) k1) eqN),noPos,fixX h1 h2 h3 h4 h5⟩
    exact D.round rfl rfl I (fin := .ret 0 (.ab (tk 256) (tk 257) (tk 258) (tk 259) 1)) (by kernel_rfl) hQ
   ·
    rw[if_pos (by decide)] at h
    cases h
    have D:ToldT (specX b q r 6) b E (mkNS E.len hd (SX (specX b q r 6) w1) [l] [.mk xk xx xn xp xc] [] []) hd w1 w [evPeek 0 (tk 129) (tk 321),evBinds 0 4] ⟨[],[],[],[]⟩ [(129,.int .i64 4,true)]:=
     ⟨rfl,rfl,rfl,rfl,consC (peek_s (by decide) (.inl rfl) _) (consC (binds_s hB (i:=0) (by decide) hbn.symm) nilC),(fun _ hx=>(by cases hx)),noApp,noPut,(eqC (kind_tok (i:=0) (by decide) k1) eqN),noPos,fixX h1 h2 h3 h4 h5⟩
    exact D.round rfl rfl I (fin := .ret 0 (.ab (tk 256) (tk 257) (tk 258) (tk 259) 1)) (by kernel_rfl) hQ
   ·
    rw[if_pos (by decide)] at h
    cases h
    have D:ToldT (specX b q r 6) b E (mkNS E.len hd (SX (specX b q r 6) w1) [l] [.mk xk xx xn xp xc] [] []) hd w1 w [evPeek 0 (tk 129) (tk 321),evBinds 0 5] ⟨[],[],[],[]⟩ [(129,.int .i64 4,true)]:=
     ⟨rfl,rfl,rfl,rfl,consC (peek_s (by decide) (.inl rfl) _) (consC (binds_s hB (i:=0) (by decide) hbn.symm) nilC),(fun _ hx=>(by cases hx)),noApp,noPut,(eqC (kind_tok (i:=0) (by decide) k1) eqN),noPos,fixX h1 h2 h3 h4 h5⟩
    exact D.round rfl rfl I (fin := .ret 0 (.ab (tk 256) (tk 257) (tk 258) (tk 259) 1)) (by kernel_rfl) hQ
end Prs
end Go.Proofs.YtcbkeecabcbogaaGreatDoor
