/- The loop of expr, for each least number. (Printed by gen_ex. -/
import Derived.Test.YtcbkeecabcbogaaGreatDoorBav
set_option maxRecDepth 20000
set_option linter.unusedSimpArgs false
set_option linter.unusedVariables false
namespace Go.Proofs.YtcbkeecabcbogaaGreatDoor
open Go.RowKit
namespace Prs
open Ev
def J8 (b:Nat)(E:Env):Prop:=∀ (x:List UInt8) (w1:World),(∀ k,k<b→w1.heap[k]? = E.w0.heap[k]?)→Calls Tryz.prog 65 #[.string ⟨x.toArray⟩] w1 fun e w2=>e=.returned (.int .i64 (Vs x:Int))∧w2=w1
def Xp (i:Nat)(n:Int):X3:=⟨65,[tk (130+8*i)],i,.bool true,.pure (.int .i64 n)⟩
theorem Xq {b:Nat}{E:Env}{N:Vf}{w0:World}(hB:J8 b E){i n:Nat}(hi:i<16)(h:Vs (Zl (N.L i))=n):Uk b E N w0 (Xp i (n:Int)):=by
 intro p hax args' w hargs hlo;cases hargs with
 |cons h1 h2=>
 cases h2;have ht:Xm N (130+8*i)=some (.string ⟨(Yc (N.L i)).text.toArray⟩):=by rw[show 130+8*i=128+8*i+2 by omega,Mc N hi Dd];rfl
 obtain rfl:=hax.val ht h1;refine(hB (Yc (N.L i)).text w hlo).mono ?_;rintro e w' ⟨rfl,rfl⟩;rw[Q7] at h;rw[h];exact⟨rfl,_,rfl,.int _ _⟩
theorem Qce (s:List UInt8):∀ l:List (List (List UInt8)),Lu s l≤l.length
 | []=>by unfold Lu;simp
 |x::l=>by
  have h2:=Qce s l;unfold Lu;split
  ·simp
  ·simp;omega
theorem Cm (s:List UInt8):Vs s≤5:=Qce s opsP
def Xb (b q r least:Nat):Rt where
 n:=45
 rowSlot:=5
 resSlot:=4
 q:=q
 r:=r
 direct:=[(0,.pointer (some ⟨64,0,none⟩),rp b),(1,.int .i64 (least:Int),.int .i64 (least:Int))]
theorem J5 {b q r least:Nat}{N:Vf}{w1:World}(h1:b<q)(h2:b<r)(h3:q≠r)(h4:b<w1.heap.size)(h5:r<w1.heap.size):TFix (Xb b q r least) b N w1 where
 bq:=h1
 br:=h2
 qr:=h3
 bw:=h4
 dir:=fun x hx p hax=>by
  have hx:x ∈ [_,_]:=hx;simp only[List.mem_cons,List.not_mem_nil,or_false] at hx;rcases hx with rfl|rfl
  ·exact Qic hax
  ·exact .int _ _
 dirU:=fun x hx p u hax hv=>by
  have hx:x ∈ [_,_]:=hx;simp only[List.mem_cons,List.not_mem_nil,or_false] at hx;rcases hx with rfl|rfl
  ·exact Qby hax hv
  ·cases hv;rfl
 dirN:=fun x hx=>by
  have hx:x ∈ [_,_]:=hx;simp only[List.mem_cons,List.not_mem_nil,or_false] at hx;rcases hx with rfl|rfl <;> simp
noncomputable def Je:Code:=Uf (Qa4 (Qa4 (Zh 37)))
theorem Qpk {b q r F0:Nat}{E:Env}{hd:Bool}{w1:World}(h1:b<q)(h2:b<r)(h3:q≠r)(h4:b<w1.heap.size)(h5:r<w1.heap.size)(hB:J8 b E)(hx:∀ (k g:Nat),k≤5→g<F0→Reads b E hd 37 #[rp b,.int .i64 ((k+1:Nat):Int)] (Xg E.len g (k+1) hd)){Q:Exit→Act→World→Prop}{res:Except Nat (Tr×List Tok)}
  (hQ:match res with
   | .ok (t,l')=>∀ w' a',Qp2 (Xb b q r 1) b E hd w1 t l' w' a'→Q .ret a' w'
   | .error p=>∀ w' a',Uh b q r w1 w'→a'.defers=[]→Q (.panic [{ v:=V6 p,recovered:=false }]) a' w'):
  ∀ (f:Nat) (x:Tr) (l:List Tok) (w:World) (a:Act),f≤F0→Xv E.len f 1 hd x l=some res→Qp1 (Xb b q r 1) b E hd w1 x l w a→Vt Tryz.prog Je Q a w:=by
 intro f;induction f with
 |zero=>intro x l w a _ h;rw[Xv] at h;cases h
 |succ f ih=>
  intro x l w a hf h I;rw[Xv] at h;obtain⟨xk,xx,xn,xp,xc⟩:=x;refine Z5 ?_;generalize hbz:(if (Q9 l==4)=true then Vs (Zl l) else 0)=bz at h;cases k1:Q9 l==4 with
  |false=>
   obtain rfl:bz=0:=by rw[←hbz,k1];rfl
   rw[if_pos Dd] at h;cases h;have D:X8 (Xb b q r 1) b E (Kw E.len hd (SX (Xb b q r 1) w1) [l] [.mk xk xx xn xp xc] [] []) hd w1 w [Qp 0 (tk 129) (tk 321)] ⟨[],[],[],[]⟩ [(129,.int .i64 4,false)]:=
    ⟨rfl,rfl,rfl,rfl,Qa (Qq Dd (.inl rfl) _) Q8,Dx,Ql,Qk,(eqC (Qg (i:=0) Dd k1) eqN),Qj,J5 h1 h2 h3 h4 h5⟩
   exact D.round rfl rfl I (fin:=.ret 0 (.ab (tk 256) (tk 257) (tk 258) (tk 259) 1)) Dk hQ
  |true=>
   obtain rfl:bz=Vs (Zl l):=by rw[←hbz,k1];rfl
   obtain⟨bn,hbn⟩:∃ n,n=Vs (Zl l):=⟨_,rfl⟩;have hble:=Cm (Zl l);rw[←hbn] at h hble;rcases (by omega:bn=0∨bn=1∨bn=2∨bn=3∨bn=4∨bn=5) with rfl|rfl|rfl|rfl|rfl|rfl
   ·
    rw[if_pos Dd] at h;cases h;have D:X8 (Xb b q r 1) b E (Kw E.len hd (SX (Xb b q r 1) w1) [l] [.mk xk xx xn xp xc] [] []) hd w1 w [Qp 0 (tk 129) (tk 321),Xp 0 0] ⟨[],[],[],[]⟩ [(129,.int .i64 4,true)]:=
     ⟨rfl,rfl,rfl,rfl,Qa (Qq Dd (.inl rfl) _) (Qa (Xq hB (i:=0) Dd hbn.symm) Q8),Dx,Ql,Qk,(eqC (Qg (i:=0) Dd k1) eqN),Qj,J5 h1 h2 h3 h4 h5⟩
    exact D.round rfl rfl I (fin:=.ret 0 (.ab (tk 256) (tk 257) (tk 258) (tk 259) 1)) Dk hQ
   ·
    rw[if_neg Dd] at h;obtain⟨t0,hcons⟩:=Zw Dd k1;cases k2:Xg E.len f (1+1) hd l.tail with
    |none=>rw[k2] at h;cases h
    |some y=>
     rw[k2] at h;cases y with
     |error pl=>
      cases h;have D:X8 (Xb b q r 1) b E (Kw E.len hd (SX (Xb b q r 1) w1) [l,l.tail] [.mk xk xx xn xp xc] [] [(pl:Int)]) hd w1 w [Qp 0 (tk 129) (tk 321),Xp 0 1,Xw 37 [.int .i64 2] 1 2 (tk 321)] ⟨[(0,1)],[],[],[322]⟩ [(129,.int .i64 4,true)]:=
       ⟨rfl,rfl,rfl,rfl,Qa (Qq Dd (.inl rfl) _) (Qa (Xq hB (i:=0) Dd hbn.symm) (Qa (Zi (hx 1 f Dd Dw) (.inr rfl) rfl Qw k2 Dd rfl) Q8)),(N8 ⟨t0,hcons⟩),Ql,Qk,(eqC (Qg (i:=0) Dd k1) eqN),(Ud ⟨pl,rfl⟩ Qj),J5 h1 h2 h3 h4 h5⟩
      exact D.round rfl rfl I (fin:=.pan (tk 322)) Dk hQ
     |ok y=>
      obtain⟨⟨yk,yx,yn,yp,yc⟩,k⟩:=y;dsimp only [andThen] at h;rw[Q7,Xf] at h;have D:X8 (Xb b q r 1) b E (Kw E.len hd (SX (Xb b q r 1) w1) [l,l.tail,k] [.mk xk xx xn xp xc,.mk yk yx yn yp yc] [] []) hd w1 w [Qp 0 (tk 129) (tk 321),Xp 0 1,Qm 37 [.int .i64 2] 1 2 (tk 260) 1 (tk 321)] ⟨[(0,1)],[],[],[]⟩ [(129,.int .i64 4,true)]:=
       ⟨rfl,rfl,rfl,rfl,Qa (Qq Dd (.inl rfl) _) (Qa (Xq hB (i:=0) Dd hbn.symm) (Qa (Qs (hx 1 f Dd Dw) (.inr rfl) rfl Qw k2 (.inl rfl) Dd) Q8)),(N8 ⟨t0,hcons⟩),Ql,Qk,(eqC (Qg (i:=0) Dd k1) eqN),Qj,J5 h1 h2 h3 h4 h5⟩
      exact D.round rfl rfl I (fin:=.again 2 (.nd (.int .i64 33) (tk 130) (.int .u64 0) (tk 132) [.ab (tk 256) (tk 257) (tk 258) (tk 259) 1,.ab (tk 260) (tk 261) (tk 262) (tk 263) 9])) Dk fun w' a' I'=>ih _ k w' a' Dw h I'
   ·
    rw[if_neg Dd] at h;obtain⟨t0,hcons⟩:=Zw Dd k1;cases k2:Xg E.len f (2+1) hd l.tail with
    |none=>rw[k2] at h;cases h
    |some y=>
     rw[k2] at h;cases y with
     |error pl=>
      cases h;have D:X8 (Xb b q r 1) b E (Kw E.len hd (SX (Xb b q r 1) w1) [l,l.tail] [.mk xk xx xn xp xc] [] [(pl:Int)]) hd w1 w [Qp 0 (tk 129) (tk 321),Xp 0 2,Xw 37 [.int .i64 3] 1 2 (tk 321)] ⟨[(0,1)],[],[],[322]⟩ [(129,.int .i64 4,true)]:=
       ⟨rfl,rfl,rfl,rfl,Qa (Qq Dd (.inl rfl) _) (Qa (Xq hB (i:=0) Dd hbn.symm) (Qa (Zi (hx 2 f Dd Dw) (.inr rfl) rfl Qw k2 Dd rfl) Q8)),(N8 ⟨t0,hcons⟩),Ql,Qk,(eqC (Qg (i:=0) Dd k1) eqN),(Ud ⟨pl,rfl⟩ Qj),J5 h1 h2 h3 h4 h5⟩
      exact D.round rfl rfl I (fin:=.pan (tk 322)) Dk hQ
     |ok y=>
      obtain⟨⟨yk,yx,yn,yp,yc⟩,k⟩:=y;dsimp only [andThen] at h;rw[Q7,Xf] at h;have D:X8 (Xb b q r 1) b E (Kw E.len hd (SX (Xb b q r 1) w1) [l,l.tail,k] [.mk xk xx xn xp xc,.mk yk yx yn yp yc] [] []) hd w1 w [Qp 0 (tk 129) (tk 321),Xp 0 2,Qm 37 [.int .i64 3] 1 2 (tk 260) 1 (tk 321)] ⟨[(0,1)],[],[],[]⟩ [(129,.int .i64 4,true)]:=
       ⟨rfl,rfl,rfl,rfl,Qa (Qq Dd (.inl rfl) _) (Qa (Xq hB (i:=0) Dd hbn.symm) (Qa (Qs (hx 2 f Dd Dw) (.inr rfl) rfl Qw k2 (.inl rfl) Dd) Q8)),(N8 ⟨t0,hcons⟩),Ql,Qk,(eqC (Qg (i:=0) Dd k1) eqN),Qj,J5 h1 h2 h3 h4 h5⟩
      exact D.round rfl rfl I (fin:=.again 2 (.nd (.int .i64 33) (tk 130) (.int .u64 0) (tk 132) [.ab (tk 256) (tk 257) (tk 258) (tk 259) 1,.ab (tk 260) (tk 261) (tk 262) (tk 263) 9])) Dk fun w' a' I'=>ih _ k w' a' Dw h I'
   ·
    rw[if_neg Dd] at h;obtain⟨t0,hcons⟩:=Zw Dd k1;cases k2:Xg E.len f (3+1) hd l.tail with
    |none=>rw[k2] at h;cases h
    |some y=>
     rw[k2] at h;cases y with
     |error pl=>
      cases h;have D:X8 (Xb b q r 1) b E (Kw E.len hd (SX (Xb b q r 1) w1) [l,l.tail] [.mk xk xx xn xp xc] [] [(pl:Int)]) hd w1 w [Qp 0 (tk 129) (tk 321),Xp 0 3,Xw 37 [.int .i64 4] 1 2 (tk 321)] ⟨[(0,1)],[],[],[322]⟩ [(129,.int .i64 4,true)]:=
       ⟨rfl,rfl,rfl,rfl,Qa (Qq Dd (.inl rfl) _) (Qa (Xq hB (i:=0) Dd hbn.symm) (Qa (Zi (hx 3 f Dd Dw) (.inr rfl) rfl Qw k2 Dd rfl) Q8)),(N8 ⟨t0,hcons⟩),Ql,Qk,(eqC (Qg (i:=0) Dd k1) eqN),(Ud ⟨pl,rfl⟩ Qj),J5 h1 h2 h3 h4 h5⟩
      exact D.round rfl rfl I (fin:=.pan (tk 322)) Dk hQ
     |ok y=>
      obtain⟨⟨yk,yx,yn,yp,yc⟩,k⟩:=y;dsimp only [andThen] at h;rw[Q7,Xf] at h;have D:X8 (Xb b q r 1) b E (Kw E.len hd (SX (Xb b q r 1) w1) [l,l.tail,k] [.mk xk xx xn xp xc,.mk yk yx yn yp yc] [] []) hd w1 w [Qp 0 (tk 129) (tk 321),Xp 0 3,Qm 37 [.int .i64 4] 1 2 (tk 260) 1 (tk 321)] ⟨[(0,1)],[],[],[]⟩ [(129,.int .i64 4,true)]:=
       ⟨rfl,rfl,rfl,rfl,Qa (Qq Dd (.inl rfl) _) (Qa (Xq hB (i:=0) Dd hbn.symm) (Qa (Qs (hx 3 f Dd Dw) (.inr rfl) rfl Qw k2 (.inl rfl) Dd) Q8)),(N8 ⟨t0,hcons⟩),Ql,Qk,(eqC (Qg (i:=0) Dd k1) eqN),Qj,J5 h1 h2 h3 h4 h5⟩
      exact D.round rfl rfl I (fin:=.again 2 (.nd (.int .i64 33) (tk 130) (.int .u64 0) (tk 132) [.ab (tk 256) (tk 257) (tk 258) (tk 259) 1,.ab (tk 260) (tk 261) (tk 262) (tk 263) 9])) Dk fun w' a' I'=>ih _ k w' a' Dw h I'
   ·
    rw[if_neg Dd] at h;obtain⟨t0,hcons⟩:=Zw Dd k1;cases k2:Xg E.len f (4+1) hd l.tail with
    |none=>rw[k2] at h;cases h
    |some y=>
     rw[k2] at h;cases y with
     |error pl=>
      cases h;have D:X8 (Xb b q r 1) b E (Kw E.len hd (SX (Xb b q r 1) w1) [l,l.tail] [.mk xk xx xn xp xc] [] [(pl:Int)]) hd w1 w [Qp 0 (tk 129) (tk 321),Xp 0 4,Xw 37 [.int .i64 5] 1 2 (tk 321)] ⟨[(0,1)],[],[],[322]⟩ [(129,.int .i64 4,true)]:=
       ⟨rfl,rfl,rfl,rfl,Qa (Qq Dd (.inl rfl) _) (Qa (Xq hB (i:=0) Dd hbn.symm) (Qa (Zi (hx 4 f Dd Dw) (.inr rfl) rfl Qw k2 Dd rfl) Q8)),(N8 ⟨t0,hcons⟩),Ql,Qk,(eqC (Qg (i:=0) Dd k1) eqN),(Ud ⟨pl,rfl⟩ Qj),J5 h1 h2 h3 h4 h5⟩
      exact D.round rfl rfl I (fin:=.pan (tk 322)) Dk hQ
     |ok y=>
      obtain⟨⟨yk,yx,yn,yp,yc⟩,k⟩:=y;dsimp only [andThen] at h;rw[Q7,Xf] at h;have D:X8 (Xb b q r 1) b E (Kw E.len hd (SX (Xb b q r 1) w1) [l,l.tail,k] [.mk xk xx xn xp xc,.mk yk yx yn yp yc] [] []) hd w1 w [Qp 0 (tk 129) (tk 321),Xp 0 4,Qm 37 [.int .i64 5] 1 2 (tk 260) 1 (tk 321)] ⟨[(0,1)],[],[],[]⟩ [(129,.int .i64 4,true)]:=
       ⟨rfl,rfl,rfl,rfl,Qa (Qq Dd (.inl rfl) _) (Qa (Xq hB (i:=0) Dd hbn.symm) (Qa (Qs (hx 4 f Dd Dw) (.inr rfl) rfl Qw k2 (.inl rfl) Dd) Q8)),(N8 ⟨t0,hcons⟩),Ql,Qk,(eqC (Qg (i:=0) Dd k1) eqN),Qj,J5 h1 h2 h3 h4 h5⟩
      exact D.round rfl rfl I (fin:=.again 2 (.nd (.int .i64 33) (tk 130) (.int .u64 0) (tk 132) [.ab (tk 256) (tk 257) (tk 258) (tk 259) 1,.ab (tk 260) (tk 261) (tk 262) (tk 263) 9])) Dk fun w' a' I'=>ih _ k w' a' Dw h I'
   ·
    rw[if_neg Dd] at h;obtain⟨t0,hcons⟩:=Zw Dd k1;cases k2:Xg E.len f (5+1) hd l.tail with
    |none=>rw[k2] at h;cases h
    |some y=>
     rw[k2] at h;cases y with
     |error pl=>
      cases h;have D:X8 (Xb b q r 1) b E (Kw E.len hd (SX (Xb b q r 1) w1) [l,l.tail] [.mk xk xx xn xp xc] [] [(pl:Int)]) hd w1 w [Qp 0 (tk 129) (tk 321),Xp 0 5,Xw 37 [.int .i64 6] 1 2 (tk 321)] ⟨[(0,1)],[],[],[322]⟩ [(129,.int .i64 4,true)]:=
       ⟨rfl,rfl,rfl,rfl,Qa (Qq Dd (.inl rfl) _) (Qa (Xq hB (i:=0) Dd hbn.symm) (Qa (Zi (hx 5 f Dd Dw) (.inr rfl) rfl Qw k2 Dd rfl) Q8)),(N8 ⟨t0,hcons⟩),Ql,Qk,(eqC (Qg (i:=0) Dd k1) eqN),(Ud ⟨pl,rfl⟩ Qj),J5 h1 h2 h3 h4 h5⟩
      exact D.round rfl rfl I (fin:=.pan (tk 322)) Dk hQ
     |ok y=>
      obtain⟨⟨yk,yx,yn,yp,yc⟩,k⟩:=y;dsimp only [andThen] at h;rw[Q7,Xf] at h;have D:X8 (Xb b q r 1) b E (Kw E.len hd (SX (Xb b q r 1) w1) [l,l.tail,k] [.mk xk xx xn xp xc,.mk yk yx yn yp yc] [] []) hd w1 w [Qp 0 (tk 129) (tk 321),Xp 0 5,Qm 37 [.int .i64 6] 1 2 (tk 260) 1 (tk 321)] ⟨[(0,1)],[],[],[]⟩ [(129,.int .i64 4,true)]:=
       ⟨rfl,rfl,rfl,rfl,Qa (Qq Dd (.inl rfl) _) (Qa (Xq hB (i:=0) Dd hbn.symm) (Qa (Qs (hx 5 f Dd Dw) (.inr rfl) rfl Qw k2 (.inl rfl) Dd) Q8)),(N8 ⟨t0,hcons⟩),Ql,Qk,(eqC (Qg (i:=0) Dd k1) eqN),Qj,J5 h1 h2 h3 h4 h5⟩
      exact D.round rfl rfl I (fin:=.again 2 (.nd (.int .i64 33) (tk 130) (.int .u64 0) (tk 132) [.ab (tk 256) (tk 257) (tk 258) (tk 259) 1,.ab (tk 260) (tk 261) (tk 262) (tk 263) 9])) Dk fun w' a' I'=>ih _ k w' a' Dw h I'
theorem Qpj {b q r F0:Nat}{E:Env}{hd:Bool}{w1:World}(h1:b<q)(h2:b<r)(h3:q≠r)(h4:b<w1.heap.size)(h5:r<w1.heap.size)(hB:J8 b E)(hx:∀ (k g:Nat),k≤5→g<F0→Reads b E hd 37 #[rp b,.int .i64 ((k+1:Nat):Int)] (Xg E.len g (k+1) hd)){Q:Exit→Act→World→Prop}{res:Except Nat (Tr×List Tok)}
  (hQ:match res with
   | .ok (t,l')=>∀ w' a',Qp2 (Xb b q r 2) b E hd w1 t l' w' a'→Q .ret a' w'
   | .error p=>∀ w' a',Uh b q r w1 w'→a'.defers=[]→Q (.panic [{ v:=V6 p,recovered:=false }]) a' w'):
  ∀ (f:Nat) (x:Tr) (l:List Tok) (w:World) (a:Act),f≤F0→Xv E.len f 2 hd x l=some res→Qp1 (Xb b q r 2) b E hd w1 x l w a→Vt Tryz.prog Je Q a w:=by
 intro f;induction f with
 |zero=>intro x l w a _ h;rw[Xv] at h;cases h
 |succ f ih=>
  intro x l w a hf h I;rw[Xv] at h;obtain⟨xk,xx,xn,xp,xc⟩:=x;refine Z5 ?_;generalize hbz:(if (Q9 l==4)=true then Vs (Zl l) else 0)=bz at h;cases k1:Q9 l==4 with
  |false=>
   obtain rfl:bz=0:=by rw[←hbz,k1];rfl
   rw[if_pos Dd] at h;cases h;have D:X8 (Xb b q r 2) b E (Kw E.len hd (SX (Xb b q r 2) w1) [l] [.mk xk xx xn xp xc] [] []) hd w1 w [Qp 0 (tk 129) (tk 321)] ⟨[],[],[],[]⟩ [(129,.int .i64 4,false)]:=
    ⟨rfl,rfl,rfl,rfl,Qa (Qq Dd (.inl rfl) _) Q8,Dx,Ql,Qk,(eqC (Qg (i:=0) Dd k1) eqN),Qj,J5 h1 h2 h3 h4 h5⟩
   exact D.round rfl rfl I (fin:=.ret 0 (.ab (tk 256) (tk 257) (tk 258) (tk 259) 1)) Dk hQ
  |true=>
   obtain rfl:bz=Vs (Zl l):=by rw[←hbz,k1];rfl
   obtain⟨bn,hbn⟩:∃ n,n=Vs (Zl l):=⟨_,rfl⟩;have hble:=Cm (Zl l);rw[←hbn] at h hble;rcases (by omega:bn=0∨bn=1∨bn=2∨bn=3∨bn=4∨bn=5) with rfl|rfl|rfl|rfl|rfl|rfl
   ·
    rw[if_pos Dd] at h;cases h;have D:X8 (Xb b q r 2) b E (Kw E.len hd (SX (Xb b q r 2) w1) [l] [.mk xk xx xn xp xc] [] []) hd w1 w [Qp 0 (tk 129) (tk 321),Xp 0 0] ⟨[],[],[],[]⟩ [(129,.int .i64 4,true)]:=
     ⟨rfl,rfl,rfl,rfl,Qa (Qq Dd (.inl rfl) _) (Qa (Xq hB (i:=0) Dd hbn.symm) Q8),Dx,Ql,Qk,(eqC (Qg (i:=0) Dd k1) eqN),Qj,J5 h1 h2 h3 h4 h5⟩
    exact D.round rfl rfl I (fin:=.ret 0 (.ab (tk 256) (tk 257) (tk 258) (tk 259) 1)) Dk hQ
   ·
    rw[if_pos Dd] at h;cases h;have D:X8 (Xb b q r 2) b E (Kw E.len hd (SX (Xb b q r 2) w1) [l] [.mk xk xx xn xp xc] [] []) hd w1 w [Qp 0 (tk 129) (tk 321),Xp 0 1] ⟨[],[],[],[]⟩ [(129,.int .i64 4,true)]:=
     ⟨rfl,rfl,rfl,rfl,Qa (Qq Dd (.inl rfl) _) (Qa (Xq hB (i:=0) Dd hbn.symm) Q8),Dx,Ql,Qk,(eqC (Qg (i:=0) Dd k1) eqN),Qj,J5 h1 h2 h3 h4 h5⟩
    exact D.round rfl rfl I (fin:=.ret 0 (.ab (tk 256) (tk 257) (tk 258) (tk 259) 1)) Dk hQ
   ·
    rw[if_neg Dd] at h;obtain⟨t0,hcons⟩:=Zw Dd k1;cases k2:Xg E.len f (2+1) hd l.tail with
    |none=>rw[k2] at h;cases h
    |some y=>
     rw[k2] at h;cases y with
     |error pl=>
      cases h;have D:X8 (Xb b q r 2) b E (Kw E.len hd (SX (Xb b q r 2) w1) [l,l.tail] [.mk xk xx xn xp xc] [] [(pl:Int)]) hd w1 w [Qp 0 (tk 129) (tk 321),Xp 0 2,Xw 37 [.int .i64 3] 1 2 (tk 321)] ⟨[(0,1)],[],[],[322]⟩ [(129,.int .i64 4,true)]:=
       ⟨rfl,rfl,rfl,rfl,Qa (Qq Dd (.inl rfl) _) (Qa (Xq hB (i:=0) Dd hbn.symm) (Qa (Zi (hx 2 f Dd Dw) (.inr rfl) rfl Qw k2 Dd rfl) Q8)),(N8 ⟨t0,hcons⟩),Ql,Qk,(eqC (Qg (i:=0) Dd k1) eqN),(Ud ⟨pl,rfl⟩ Qj),J5 h1 h2 h3 h4 h5⟩
      exact D.round rfl rfl I (fin:=.pan (tk 322)) Dk hQ
     |ok y=>
      obtain⟨⟨yk,yx,yn,yp,yc⟩,k⟩:=y;dsimp only [andThen] at h;rw[Q7,Xf] at h;have D:X8 (Xb b q r 2) b E (Kw E.len hd (SX (Xb b q r 2) w1) [l,l.tail,k] [.mk xk xx xn xp xc,.mk yk yx yn yp yc] [] []) hd w1 w [Qp 0 (tk 129) (tk 321),Xp 0 2,Qm 37 [.int .i64 3] 1 2 (tk 260) 1 (tk 321)] ⟨[(0,1)],[],[],[]⟩ [(129,.int .i64 4,true)]:=
       ⟨rfl,rfl,rfl,rfl,Qa (Qq Dd (.inl rfl) _) (Qa (Xq hB (i:=0) Dd hbn.symm) (Qa (Qs (hx 2 f Dd Dw) (.inr rfl) rfl Qw k2 (.inl rfl) Dd) Q8)),(N8 ⟨t0,hcons⟩),Ql,Qk,(eqC (Qg (i:=0) Dd k1) eqN),Qj,J5 h1 h2 h3 h4 h5⟩
      exact D.round rfl rfl I (fin:=.again 2 (.nd (.int .i64 33) (tk 130) (.int .u64 0) (tk 132) [.ab (tk 256) (tk 257) (tk 258) (tk 259) 1,.ab (tk 260) (tk 261) (tk 262) (tk 263) 9])) Dk fun w' a' I'=>ih _ k w' a' Dw h I'
   ·
    rw[if_neg Dd] at h;obtain⟨t0,hcons⟩:=Zw Dd k1;cases k2:Xg E.len f (3+1) hd l.tail with
    |none=>rw[k2] at h;cases h
    |some y=>
     rw[k2] at h;cases y with
     |error pl=>
      cases h;have D:X8 (Xb b q r 2) b E (Kw E.len hd (SX (Xb b q r 2) w1) [l,l.tail] [.mk xk xx xn xp xc] [] [(pl:Int)]) hd w1 w [Qp 0 (tk 129) (tk 321),Xp 0 3,Xw 37 [.int .i64 4] 1 2 (tk 321)] ⟨[(0,1)],[],[],[322]⟩ [(129,.int .i64 4,true)]:=
       ⟨rfl,rfl,rfl,rfl,Qa (Qq Dd (.inl rfl) _) (Qa (Xq hB (i:=0) Dd hbn.symm) (Qa (Zi (hx 3 f Dd Dw) (.inr rfl) rfl Qw k2 Dd rfl) Q8)),(N8 ⟨t0,hcons⟩),Ql,Qk,(eqC (Qg (i:=0) Dd k1) eqN),(Ud ⟨pl,rfl⟩ Qj),J5 h1 h2 h3 h4 h5⟩
      exact D.round rfl rfl I (fin:=.pan (tk 322)) Dk hQ
     |ok y=>
      obtain⟨⟨yk,yx,yn,yp,yc⟩,k⟩:=y;dsimp only [andThen] at h;rw[Q7,Xf] at h;have D:X8 (Xb b q r 2) b E (Kw E.len hd (SX (Xb b q r 2) w1) [l,l.tail,k] [.mk xk xx xn xp xc,.mk yk yx yn yp yc] [] []) hd w1 w [Qp 0 (tk 129) (tk 321),Xp 0 3,Qm 37 [.int .i64 4] 1 2 (tk 260) 1 (tk 321)] ⟨[(0,1)],[],[],[]⟩ [(129,.int .i64 4,true)]:=
       ⟨rfl,rfl,rfl,rfl,Qa (Qq Dd (.inl rfl) _) (Qa (Xq hB (i:=0) Dd hbn.symm) (Qa (Qs (hx 3 f Dd Dw) (.inr rfl) rfl Qw k2 (.inl rfl) Dd) Q8)),(N8 ⟨t0,hcons⟩),Ql,Qk,(eqC (Qg (i:=0) Dd k1) eqN),Qj,J5 h1 h2 h3 h4 h5⟩
      exact D.round rfl rfl I (fin:=.again 2 (.nd (.int .i64 33) (tk 130) (.int .u64 0) (tk 132) [.ab (tk 256) (tk 257) (tk 258) (tk 259) 1,.ab (tk 260) (tk 261) (tk 262) (tk 263) 9])) Dk fun w' a' I'=>ih _ k w' a' Dw h I'
   ·
    rw[if_neg Dd] at h;obtain⟨t0,hcons⟩:=Zw Dd k1;cases k2:Xg E.len f (4+1) hd l.tail with
    |none=>rw[k2] at h;cases h
    |some y=>
     rw[k2] at h;cases y with
     |error pl=>
      cases h;have D:X8 (Xb b q r 2) b E (Kw E.len hd (SX (Xb b q r 2) w1) [l,l.tail] [.mk xk xx xn xp xc] [] [(pl:Int)]) hd w1 w [Qp 0 (tk 129) (tk 321),Xp 0 4,Xw 37 [.int .i64 5] 1 2 (tk 321)] ⟨[(0,1)],[],[],[322]⟩ [(129,.int .i64 4,true)]:=
       ⟨rfl,rfl,rfl,rfl,Qa (Qq Dd (.inl rfl) _) (Qa (Xq hB (i:=0) Dd hbn.symm) (Qa (Zi (hx 4 f Dd Dw) (.inr rfl) rfl Qw k2 Dd rfl) Q8)),(N8 ⟨t0,hcons⟩),Ql,Qk,(eqC (Qg (i:=0) Dd k1) eqN),(Ud ⟨pl,rfl⟩ Qj),J5 h1 h2 h3 h4 h5⟩
      exact D.round rfl rfl I (fin:=.pan (tk 322)) Dk hQ
     |ok y=>
      obtain⟨⟨yk,yx,yn,yp,yc⟩,k⟩:=y;dsimp only [andThen] at h;rw[Q7,Xf] at h;have D:X8 (Xb b q r 2) b E (Kw E.len hd (SX (Xb b q r 2) w1) [l,l.tail,k] [.mk xk xx xn xp xc,.mk yk yx yn yp yc] [] []) hd w1 w [Qp 0 (tk 129) (tk 321),Xp 0 4,Qm 37 [.int .i64 5] 1 2 (tk 260) 1 (tk 321)] ⟨[(0,1)],[],[],[]⟩ [(129,.int .i64 4,true)]:=
       ⟨rfl,rfl,rfl,rfl,Qa (Qq Dd (.inl rfl) _) (Qa (Xq hB (i:=0) Dd hbn.symm) (Qa (Qs (hx 4 f Dd Dw) (.inr rfl) rfl Qw k2 (.inl rfl) Dd) Q8)),(N8 ⟨t0,hcons⟩),Ql,Qk,(eqC (Qg (i:=0) Dd k1) eqN),Qj,J5 h1 h2 h3 h4 h5⟩
      exact D.round rfl rfl I (fin:=.again 2 (.nd (.int .i64 33) (tk 130) (.int .u64 0) (tk 132) [.ab (tk 256) (tk 257) (tk 258) (tk 259) 1,.ab (tk 260) (tk 261) (tk 262) (tk 263) 9])) Dk fun w' a' I'=>ih _ k w' a' Dw h I'
   ·
    rw[if_neg Dd] at h;obtain⟨t0,hcons⟩:=Zw Dd k1;cases k2:Xg E.len f (5+1) hd l.tail with
    |none=>rw[k2] at h;cases h
    |some y=>
     rw[k2] at h;cases y with
     |error pl=>
      cases h;have D:X8 (Xb b q r 2) b E (Kw E.len hd (SX (Xb b q r 2) w1) [l,l.tail] [.mk xk xx xn xp xc] [] [(pl:Int)]) hd w1 w [Qp 0 (tk 129) (tk 321),Xp 0 5,Xw 37 [.int .i64 6] 1 2 (tk 321)] ⟨[(0,1)],[],[],[322]⟩ [(129,.int .i64 4,true)]:=
       ⟨rfl,rfl,rfl,rfl,Qa (Qq Dd (.inl rfl) _) (Qa (Xq hB (i:=0) Dd hbn.symm) (Qa (Zi (hx 5 f Dd Dw) (.inr rfl) rfl Qw k2 Dd rfl) Q8)),(N8 ⟨t0,hcons⟩),Ql,Qk,(eqC (Qg (i:=0) Dd k1) eqN),(Ud ⟨pl,rfl⟩ Qj),J5 h1 h2 h3 h4 h5⟩
      exact D.round rfl rfl I (fin:=.pan (tk 322)) Dk hQ
     |ok y=>
      obtain⟨⟨yk,yx,yn,yp,yc⟩,k⟩:=y;dsimp only [andThen] at h;rw[Q7,Xf] at h;have D:X8 (Xb b q r 2) b E (Kw E.len hd (SX (Xb b q r 2) w1) [l,l.tail,k] [.mk xk xx xn xp xc,.mk yk yx yn yp yc] [] []) hd w1 w [Qp 0 (tk 129) (tk 321),Xp 0 5,Qm 37 [.int .i64 6] 1 2 (tk 260) 1 (tk 321)] ⟨[(0,1)],[],[],[]⟩ [(129,.int .i64 4,true)]:=
       ⟨rfl,rfl,rfl,rfl,Qa (Qq Dd (.inl rfl) _) (Qa (Xq hB (i:=0) Dd hbn.symm) (Qa (Qs (hx 5 f Dd Dw) (.inr rfl) rfl Qw k2 (.inl rfl) Dd) Q8)),(N8 ⟨t0,hcons⟩),Ql,Qk,(eqC (Qg (i:=0) Dd k1) eqN),Qj,J5 h1 h2 h3 h4 h5⟩
      exact D.round rfl rfl I (fin:=.again 2 (.nd (.int .i64 33) (tk 130) (.int .u64 0) (tk 132) [.ab (tk 256) (tk 257) (tk 258) (tk 259) 1,.ab (tk 260) (tk 261) (tk 262) (tk 263) 9])) Dk fun w' a' I'=>ih _ k w' a' Dw h I'
theorem Qpi {b q r F0:Nat}{E:Env}{hd:Bool}{w1:World}(h1:b<q)(h2:b<r)(h3:q≠r)(h4:b<w1.heap.size)(h5:r<w1.heap.size)(hB:J8 b E)(hx:∀ (k g:Nat),k≤5→g<F0→Reads b E hd 37 #[rp b,.int .i64 ((k+1:Nat):Int)] (Xg E.len g (k+1) hd)){Q:Exit→Act→World→Prop}{res:Except Nat (Tr×List Tok)}
  (hQ:match res with
   | .ok (t,l')=>∀ w' a',Qp2 (Xb b q r 3) b E hd w1 t l' w' a'→Q .ret a' w'
   | .error p=>∀ w' a',Uh b q r w1 w'→a'.defers=[]→Q (.panic [{ v:=V6 p,recovered:=false }]) a' w'):
  ∀ (f:Nat) (x:Tr) (l:List Tok) (w:World) (a:Act),f≤F0→Xv E.len f 3 hd x l=some res→Qp1 (Xb b q r 3) b E hd w1 x l w a→Vt Tryz.prog Je Q a w:=by
 intro f;induction f with
 |zero=>intro x l w a _ h;rw[Xv] at h;cases h
 |succ f ih=>
  intro x l w a hf h I;rw[Xv] at h;obtain⟨xk,xx,xn,xp,xc⟩:=x;refine Z5 ?_;generalize hbz:(if (Q9 l==4)=true then Vs (Zl l) else 0)=bz at h;cases k1:Q9 l==4 with
  |false=>
   obtain rfl:bz=0:=by rw[←hbz,k1];rfl
   rw[if_pos Dd] at h;cases h;have D:X8 (Xb b q r 3) b E (Kw E.len hd (SX (Xb b q r 3) w1) [l] [.mk xk xx xn xp xc] [] []) hd w1 w [Qp 0 (tk 129) (tk 321)] ⟨[],[],[],[]⟩ [(129,.int .i64 4,false)]:=
    ⟨rfl,rfl,rfl,rfl,Qa (Qq Dd (.inl rfl) _) Q8,Dx,Ql,Qk,(eqC (Qg (i:=0) Dd k1) eqN),Qj,J5 h1 h2 h3 h4 h5⟩
   exact D.round rfl rfl I (fin:=.ret 0 (.ab (tk 256) (tk 257) (tk 258) (tk 259) 1)) Dk hQ
  |true=>
   obtain rfl:bz=Vs (Zl l):=by rw[←hbz,k1];rfl
   obtain⟨bn,hbn⟩:∃ n,n=Vs (Zl l):=⟨_,rfl⟩;have hble:=Cm (Zl l);rw[←hbn] at h hble;rcases (by omega:bn=0∨bn=1∨bn=2∨bn=3∨bn=4∨bn=5) with rfl|rfl|rfl|rfl|rfl|rfl
   ·
    rw[if_pos Dd] at h;cases h;have D:X8 (Xb b q r 3) b E (Kw E.len hd (SX (Xb b q r 3) w1) [l] [.mk xk xx xn xp xc] [] []) hd w1 w [Qp 0 (tk 129) (tk 321),Xp 0 0] ⟨[],[],[],[]⟩ [(129,.int .i64 4,true)]:=
     ⟨rfl,rfl,rfl,rfl,Qa (Qq Dd (.inl rfl) _) (Qa (Xq hB (i:=0) Dd hbn.symm) Q8),Dx,Ql,Qk,(eqC (Qg (i:=0) Dd k1) eqN),Qj,J5 h1 h2 h3 h4 h5⟩
    exact D.round rfl rfl I (fin:=.ret 0 (.ab (tk 256) (tk 257) (tk 258) (tk 259) 1)) Dk hQ
   ·
    rw[if_pos Dd] at h;cases h;have D:X8 (Xb b q r 3) b E (Kw E.len hd (SX (Xb b q r 3) w1) [l] [.mk xk xx xn xp xc] [] []) hd w1 w [Qp 0 (tk 129) (tk 321),Xp 0 1] ⟨[],[],[],[]⟩ [(129,.int .i64 4,true)]:=
     ⟨rfl,rfl,rfl,rfl,Qa (Qq Dd (.inl rfl) _) (Qa (Xq hB (i:=0) Dd hbn.symm) Q8),Dx,Ql,Qk,(eqC (Qg (i:=0) Dd k1) eqN),Qj,J5 h1 h2 h3 h4 h5⟩
    exact D.round rfl rfl I (fin:=.ret 0 (.ab (tk 256) (tk 257) (tk 258) (tk 259) 1)) Dk hQ
   ·
    rw[if_pos Dd] at h;cases h;have D:X8 (Xb b q r 3) b E (Kw E.len hd (SX (Xb b q r 3) w1) [l] [.mk xk xx xn xp xc] [] []) hd w1 w [Qp 0 (tk 129) (tk 321),Xp 0 2] ⟨[],[],[],[]⟩ [(129,.int .i64 4,true)]:=
     ⟨rfl,rfl,rfl,rfl,Qa (Qq Dd (.inl rfl) _) (Qa (Xq hB (i:=0) Dd hbn.symm) Q8),Dx,Ql,Qk,(eqC (Qg (i:=0) Dd k1) eqN),Qj,J5 h1 h2 h3 h4 h5⟩
    exact D.round rfl rfl I (fin:=.ret 0 (.ab (tk 256) (tk 257) (tk 258) (tk 259) 1)) Dk hQ
   ·
    rw[if_neg Dd] at h;obtain⟨t0,hcons⟩:=Zw Dd k1;cases k2:Xg E.len f (3+1) hd l.tail with
    |none=>rw[k2] at h;cases h
    |some y=>
     rw[k2] at h;cases y with
     |error pl=>
      cases h;have D:X8 (Xb b q r 3) b E (Kw E.len hd (SX (Xb b q r 3) w1) [l,l.tail] [.mk xk xx xn xp xc] [] [(pl:Int)]) hd w1 w [Qp 0 (tk 129) (tk 321),Xp 0 3,Xw 37 [.int .i64 4] 1 2 (tk 321)] ⟨[(0,1)],[],[],[322]⟩ [(129,.int .i64 4,true)]:=
       ⟨rfl,rfl,rfl,rfl,Qa (Qq Dd (.inl rfl) _) (Qa (Xq hB (i:=0) Dd hbn.symm) (Qa (Zi (hx 3 f Dd Dw) (.inr rfl) rfl Qw k2 Dd rfl) Q8)),(N8 ⟨t0,hcons⟩),Ql,Qk,(eqC (Qg (i:=0) Dd k1) eqN),(Ud ⟨pl,rfl⟩ Qj),J5 h1 h2 h3 h4 h5⟩
      exact D.round rfl rfl I (fin:=.pan (tk 322)) Dk hQ
     |ok y=>
      obtain⟨⟨yk,yx,yn,yp,yc⟩,k⟩:=y;dsimp only [andThen] at h;rw[Q7,Xf] at h;have D:X8 (Xb b q r 3) b E (Kw E.len hd (SX (Xb b q r 3) w1) [l,l.tail,k] [.mk xk xx xn xp xc,.mk yk yx yn yp yc] [] []) hd w1 w [Qp 0 (tk 129) (tk 321),Xp 0 3,Qm 37 [.int .i64 4] 1 2 (tk 260) 1 (tk 321)] ⟨[(0,1)],[],[],[]⟩ [(129,.int .i64 4,true)]:=
       ⟨rfl,rfl,rfl,rfl,Qa (Qq Dd (.inl rfl) _) (Qa (Xq hB (i:=0) Dd hbn.symm) (Qa (Qs (hx 3 f Dd Dw) (.inr rfl) rfl Qw k2 (.inl rfl) Dd) Q8)),(N8 ⟨t0,hcons⟩),Ql,Qk,(eqC (Qg (i:=0) Dd k1) eqN),Qj,J5 h1 h2 h3 h4 h5⟩
      exact D.round rfl rfl I (fin:=.again 2 (.nd (.int .i64 33) (tk 130) (.int .u64 0) (tk 132) [.ab (tk 256) (tk 257) (tk 258) (tk 259) 1,.ab (tk 260) (tk 261) (tk 262) (tk 263) 9])) Dk fun w' a' I'=>ih _ k w' a' Dw h I'
   ·
    rw[if_neg Dd] at h;obtain⟨t0,hcons⟩:=Zw Dd k1;cases k2:Xg E.len f (4+1) hd l.tail with
    |none=>rw[k2] at h;cases h
    |some y=>
     rw[k2] at h;cases y with
     |error pl=>
      cases h;have D:X8 (Xb b q r 3) b E (Kw E.len hd (SX (Xb b q r 3) w1) [l,l.tail] [.mk xk xx xn xp xc] [] [(pl:Int)]) hd w1 w [Qp 0 (tk 129) (tk 321),Xp 0 4,Xw 37 [.int .i64 5] 1 2 (tk 321)] ⟨[(0,1)],[],[],[322]⟩ [(129,.int .i64 4,true)]:=
       ⟨rfl,rfl,rfl,rfl,Qa (Qq Dd (.inl rfl) _) (Qa (Xq hB (i:=0) Dd hbn.symm) (Qa (Zi (hx 4 f Dd Dw) (.inr rfl) rfl Qw k2 Dd rfl) Q8)),(N8 ⟨t0,hcons⟩),Ql,Qk,(eqC (Qg (i:=0) Dd k1) eqN),(Ud ⟨pl,rfl⟩ Qj),J5 h1 h2 h3 h4 h5⟩
      exact D.round rfl rfl I (fin:=.pan (tk 322)) Dk hQ
     |ok y=>
      obtain⟨⟨yk,yx,yn,yp,yc⟩,k⟩:=y;dsimp only [andThen] at h;rw[Q7,Xf] at h;have D:X8 (Xb b q r 3) b E (Kw E.len hd (SX (Xb b q r 3) w1) [l,l.tail,k] [.mk xk xx xn xp xc,.mk yk yx yn yp yc] [] []) hd w1 w [Qp 0 (tk 129) (tk 321),Xp 0 4,Qm 37 [.int .i64 5] 1 2 (tk 260) 1 (tk 321)] ⟨[(0,1)],[],[],[]⟩ [(129,.int .i64 4,true)]:=
       ⟨rfl,rfl,rfl,rfl,Qa (Qq Dd (.inl rfl) _) (Qa (Xq hB (i:=0) Dd hbn.symm) (Qa (Qs (hx 4 f Dd Dw) (.inr rfl) rfl Qw k2 (.inl rfl) Dd) Q8)),(N8 ⟨t0,hcons⟩),Ql,Qk,(eqC (Qg (i:=0) Dd k1) eqN),Qj,J5 h1 h2 h3 h4 h5⟩
      exact D.round rfl rfl I (fin:=.again 2 (.nd (.int .i64 33) (tk 130) (.int .u64 0) (tk 132) [.ab (tk 256) (tk 257) (tk 258) (tk 259) 1,.ab (tk 260) (tk 261) (tk 262) (tk 263) 9])) Dk fun w' a' I'=>ih _ k w' a' Dw h I'
   ·
    rw[if_neg Dd] at h;obtain⟨t0,hcons⟩:=Zw Dd k1;cases k2:Xg E.len f (5+1) hd l.tail with
    |none=>rw[k2] at h;cases h
    |some y=>
     rw[k2] at h;cases y with
     |error pl=>
      cases h;have D:X8 (Xb b q r 3) b E (Kw E.len hd (SX (Xb b q r 3) w1) [l,l.tail] [.mk xk xx xn xp xc] [] [(pl:Int)]) hd w1 w [Qp 0 (tk 129) (tk 321),Xp 0 5,Xw 37 [.int .i64 6] 1 2 (tk 321)] ⟨[(0,1)],[],[],[322]⟩ [(129,.int .i64 4,true)]:=
       ⟨rfl,rfl,rfl,rfl,Qa (Qq Dd (.inl rfl) _) (Qa (Xq hB (i:=0) Dd hbn.symm) (Qa (Zi (hx 5 f Dd Dw) (.inr rfl) rfl Qw k2 Dd rfl) Q8)),(N8 ⟨t0,hcons⟩),Ql,Qk,(eqC (Qg (i:=0) Dd k1) eqN),(Ud ⟨pl,rfl⟩ Qj),J5 h1 h2 h3 h4 h5⟩
      exact D.round rfl rfl I (fin:=.pan (tk 322)) Dk hQ
     |ok y=>
      obtain⟨⟨yk,yx,yn,yp,yc⟩,k⟩:=y;dsimp only [andThen] at h;rw[Q7,Xf] at h;have D:X8 (Xb b q r 3) b E (Kw E.len hd (SX (Xb b q r 3) w1) [l,l.tail,k] [.mk xk xx xn xp xc,.mk yk yx yn yp yc] [] []) hd w1 w [Qp 0 (tk 129) (tk 321),Xp 0 5,Qm 37 [.int .i64 6] 1 2 (tk 260) 1 (tk 321)] ⟨[(0,1)],[],[],[]⟩ [(129,.int .i64 4,true)]:=
       ⟨rfl,rfl,rfl,rfl,Qa (Qq Dd (.inl rfl) _) (Qa (Xq hB (i:=0) Dd hbn.symm) (Qa (Qs (hx 5 f Dd Dw) (.inr rfl) rfl Qw k2 (.inl rfl) Dd) Q8)),(N8 ⟨t0,hcons⟩),Ql,Qk,(eqC (Qg (i:=0) Dd k1) eqN),Qj,J5 h1 h2 h3 h4 h5⟩
      exact D.round rfl rfl I (fin:=.again 2 (.nd (.int .i64 33) (tk 130) (.int .u64 0) (tk 132) [.ab (tk 256) (tk 257) (tk 258) (tk 259) 1,.ab (tk 260) (tk 261) (tk 262) (tk 263) 9])) Dk fun w' a' I'=>ih _ k w' a' Dw h I'
theorem Qph {b q r F0:Nat}{E:Env}{hd:Bool}{w1:World}(h1:b<q)(h2:b<r)(h3:q≠r)(h4:b<w1.heap.size)(h5:r<w1.heap.size)(hB:J8 b E)(hx:∀ (k g:Nat),k≤5→g<F0→Reads b E hd 37 #[rp b,.int .i64 ((k+1:Nat):Int)] (Xg E.len g (k+1) hd)){Q:Exit→Act→World→Prop}{res:Except Nat (Tr×List Tok)}
  (hQ:match res with
   | .ok (t,l')=>∀ w' a',Qp2 (Xb b q r 4) b E hd w1 t l' w' a'→Q .ret a' w'
   | .error p=>∀ w' a',Uh b q r w1 w'→a'.defers=[]→Q (.panic [{ v:=V6 p,recovered:=false }]) a' w'):
  ∀ (f:Nat) (x:Tr) (l:List Tok) (w:World) (a:Act),f≤F0→Xv E.len f 4 hd x l=some res→Qp1 (Xb b q r 4) b E hd w1 x l w a→Vt Tryz.prog Je Q a w:=by
 intro f;induction f with
 |zero=>intro x l w a _ h;rw[Xv] at h;cases h
 |succ f ih=>
  intro x l w a hf h I;rw[Xv] at h;obtain⟨xk,xx,xn,xp,xc⟩:=x;refine Z5 ?_;generalize hbz:(if (Q9 l==4)=true then Vs (Zl l) else 0)=bz at h;cases k1:Q9 l==4 with
  |false=>
   obtain rfl:bz=0:=by rw[←hbz,k1];rfl
   rw[if_pos Dd] at h;cases h;have D:X8 (Xb b q r 4) b E (Kw E.len hd (SX (Xb b q r 4) w1) [l] [.mk xk xx xn xp xc] [] []) hd w1 w [Qp 0 (tk 129) (tk 321)] ⟨[],[],[],[]⟩ [(129,.int .i64 4,false)]:=
    ⟨rfl,rfl,rfl,rfl,Qa (Qq Dd (.inl rfl) _) Q8,Dx,Ql,Qk,(eqC (Qg (i:=0) Dd k1) eqN),Qj,J5 h1 h2 h3 h4 h5⟩
   exact D.round rfl rfl I (fin:=.ret 0 (.ab (tk 256) (tk 257) (tk 258) (tk 259) 1)) Dk hQ
  |true=>
   obtain rfl:bz=Vs (Zl l):=by rw[←hbz,k1];rfl
   obtain⟨bn,hbn⟩:∃ n,n=Vs (Zl l):=⟨_,rfl⟩;have hble:=Cm (Zl l);rw[←hbn] at h hble;rcases (by omega:bn=0∨bn=1∨bn=2∨bn=3∨bn=4∨bn=5) with rfl|rfl|rfl|rfl|rfl|rfl
   ·
    rw[if_pos Dd] at h;cases h;have D:X8 (Xb b q r 4) b E (Kw E.len hd (SX (Xb b q r 4) w1) [l] [.mk xk xx xn xp xc] [] []) hd w1 w [Qp 0 (tk 129) (tk 321),Xp 0 0] ⟨[],[],[],[]⟩ [(129,.int .i64 4,true)]:=
     ⟨rfl,rfl,rfl,rfl,Qa (Qq Dd (.inl rfl) _) (Qa (Xq hB (i:=0) Dd hbn.symm) Q8),Dx,Ql,Qk,(eqC (Qg (i:=0) Dd k1) eqN),Qj,J5 h1 h2 h3 h4 h5⟩
    exact D.round rfl rfl I (fin:=.ret 0 (.ab (tk 256) (tk 257) (tk 258) (tk 259) 1)) Dk hQ
   ·
    rw[if_pos Dd] at h;cases h;have D:X8 (Xb b q r 4) b E (Kw E.len hd (SX (Xb b q r 4) w1) [l] [.mk xk xx xn xp xc] [] []) hd w1 w [Qp 0 (tk 129) (tk 321),Xp 0 1] ⟨[],[],[],[]⟩ [(129,.int .i64 4,true)]:=
     ⟨rfl,rfl,rfl,rfl,Qa (Qq Dd (.inl rfl) _) (Qa (Xq hB (i:=0) Dd hbn.symm) Q8),Dx,Ql,Qk,(eqC (Qg (i:=0) Dd k1) eqN),Qj,J5 h1 h2 h3 h4 h5⟩
    exact D.round rfl rfl I (fin:=.ret 0 (.ab (tk 256) (tk 257) (tk 258) (tk 259) 1)) Dk hQ
   ·
    rw[if_pos Dd] at h;cases h;have D:X8 (Xb b q r 4) b E (Kw E.len hd (SX (Xb b q r 4) w1) [l] [.mk xk xx xn xp xc] [] []) hd w1 w [Qp 0 (tk 129) (tk 321),Xp 0 2] ⟨[],[],[],[]⟩ [(129,.int .i64 4,true)]:=
     ⟨rfl,rfl,rfl,rfl,Qa (Qq Dd (.inl rfl) _) (Qa (Xq hB (i:=0) Dd hbn.symm) Q8),Dx,Ql,Qk,(eqC (Qg (i:=0) Dd k1) eqN),Qj,J5 h1 h2 h3 h4 h5⟩
    exact D.round rfl rfl I (fin:=.ret 0 (.ab (tk 256) (tk 257) (tk 258) (tk 259) 1)) Dk hQ
   ·
    rw[if_pos Dd] at h;cases h;have D:X8 (Xb b q r 4) b E (Kw E.len hd (SX (Xb b q r 4) w1) [l] [.mk xk xx xn xp xc] [] []) hd w1 w [Qp 0 (tk 129) (tk 321),Xp 0 3] ⟨[],[],[],[]⟩ [(129,.int .i64 4,true)]:=
     ⟨rfl,rfl,rfl,rfl,Qa (Qq Dd (.inl rfl) _) (Qa (Xq hB (i:=0) Dd hbn.symm) Q8),Dx,Ql,Qk,(eqC (Qg (i:=0) Dd k1) eqN),Qj,J5 h1 h2 h3 h4 h5⟩
    exact D.round rfl rfl I (fin:=.ret 0 (.ab (tk 256) (tk 257) (tk 258) (tk 259) 1)) Dk hQ
   ·
    rw[if_neg Dd] at h;obtain⟨t0,hcons⟩:=Zw Dd k1;cases k2:Xg E.len f (4+1) hd l.tail with
    |none=>rw[k2] at h;cases h
    |some y=>
     rw[k2] at h;cases y with
     |error pl=>
      cases h;have D:X8 (Xb b q r 4) b E (Kw E.len hd (SX (Xb b q r 4) w1) [l,l.tail] [.mk xk xx xn xp xc] [] [(pl:Int)]) hd w1 w [Qp 0 (tk 129) (tk 321),Xp 0 4,Xw 37 [.int .i64 5] 1 2 (tk 321)] ⟨[(0,1)],[],[],[322]⟩ [(129,.int .i64 4,true)]:=
       ⟨rfl,rfl,rfl,rfl,Qa (Qq Dd (.inl rfl) _) (Qa (Xq hB (i:=0) Dd hbn.symm) (Qa (Zi (hx 4 f Dd Dw) (.inr rfl) rfl Qw k2 Dd rfl) Q8)),(N8 ⟨t0,hcons⟩),Ql,Qk,(eqC (Qg (i:=0) Dd k1) eqN),(Ud ⟨pl,rfl⟩ Qj),J5 h1 h2 h3 h4 h5⟩
      exact D.round rfl rfl I (fin:=.pan (tk 322)) Dk hQ
     |ok y=>
      obtain⟨⟨yk,yx,yn,yp,yc⟩,k⟩:=y;dsimp only [andThen] at h;rw[Q7,Xf] at h;have D:X8 (Xb b q r 4) b E (Kw E.len hd (SX (Xb b q r 4) w1) [l,l.tail,k] [.mk xk xx xn xp xc,.mk yk yx yn yp yc] [] []) hd w1 w [Qp 0 (tk 129) (tk 321),Xp 0 4,Qm 37 [.int .i64 5] 1 2 (tk 260) 1 (tk 321)] ⟨[(0,1)],[],[],[]⟩ [(129,.int .i64 4,true)]:=
       ⟨rfl,rfl,rfl,rfl,Qa (Qq Dd (.inl rfl) _) (Qa (Xq hB (i:=0) Dd hbn.symm) (Qa (Qs (hx 4 f Dd Dw) (.inr rfl) rfl Qw k2 (.inl rfl) Dd) Q8)),(N8 ⟨t0,hcons⟩),Ql,Qk,(eqC (Qg (i:=0) Dd k1) eqN),Qj,J5 h1 h2 h3 h4 h5⟩
      exact D.round rfl rfl I (fin:=.again 2 (.nd (.int .i64 33) (tk 130) (.int .u64 0) (tk 132) [.ab (tk 256) (tk 257) (tk 258) (tk 259) 1,.ab (tk 260) (tk 261) (tk 262) (tk 263) 9])) Dk fun w' a' I'=>ih _ k w' a' Dw h I'
   ·
    rw[if_neg Dd] at h;obtain⟨t0,hcons⟩:=Zw Dd k1;cases k2:Xg E.len f (5+1) hd l.tail with
    |none=>rw[k2] at h;cases h
    |some y=>
     rw[k2] at h;cases y with
     |error pl=>
      cases h;have D:X8 (Xb b q r 4) b E (Kw E.len hd (SX (Xb b q r 4) w1) [l,l.tail] [.mk xk xx xn xp xc] [] [(pl:Int)]) hd w1 w [Qp 0 (tk 129) (tk 321),Xp 0 5,Xw 37 [.int .i64 6] 1 2 (tk 321)] ⟨[(0,1)],[],[],[322]⟩ [(129,.int .i64 4,true)]:=
       ⟨rfl,rfl,rfl,rfl,Qa (Qq Dd (.inl rfl) _) (Qa (Xq hB (i:=0) Dd hbn.symm) (Qa (Zi (hx 5 f Dd Dw) (.inr rfl) rfl Qw k2 Dd rfl) Q8)),(N8 ⟨t0,hcons⟩),Ql,Qk,(eqC (Qg (i:=0) Dd k1) eqN),(Ud ⟨pl,rfl⟩ Qj),J5 h1 h2 h3 h4 h5⟩
      exact D.round rfl rfl I (fin:=.pan (tk 322)) Dk hQ
     |ok y=>
      obtain⟨⟨yk,yx,yn,yp,yc⟩,k⟩:=y;dsimp only [andThen] at h;rw[Q7,Xf] at h;have D:X8 (Xb b q r 4) b E (Kw E.len hd (SX (Xb b q r 4) w1) [l,l.tail,k] [.mk xk xx xn xp xc,.mk yk yx yn yp yc] [] []) hd w1 w [Qp 0 (tk 129) (tk 321),Xp 0 5,Qm 37 [.int .i64 6] 1 2 (tk 260) 1 (tk 321)] ⟨[(0,1)],[],[],[]⟩ [(129,.int .i64 4,true)]:=
       ⟨rfl,rfl,rfl,rfl,Qa (Qq Dd (.inl rfl) _) (Qa (Xq hB (i:=0) Dd hbn.symm) (Qa (Qs (hx 5 f Dd Dw) (.inr rfl) rfl Qw k2 (.inl rfl) Dd) Q8)),(N8 ⟨t0,hcons⟩),Ql,Qk,(eqC (Qg (i:=0) Dd k1) eqN),Qj,J5 h1 h2 h3 h4 h5⟩
      exact D.round rfl rfl I (fin:=.again 2 (.nd (.int .i64 33) (tk 130) (.int .u64 0) (tk 132) [.ab (tk 256) (tk 257) (tk 258) (tk 259) 1,.ab (tk 260) (tk 261) (tk 262) (tk 263) 9])) Dk fun w' a' I'=>ih _ k w' a' Dw h I'
theorem Qpg {b q r F0:Nat}{E:Env}{hd:Bool}{w1:World}(h1:b<q)(h2:b<r)(h3:q≠r)(h4:b<w1.heap.size)(h5:r<w1.heap.size)(hB:J8 b E)(hx:∀ (k g:Nat),k≤5→g<F0→Reads b E hd 37 #[rp b,.int .i64 ((k+1:Nat):Int)] (Xg E.len g (k+1) hd)){Q:Exit→Act→World→Prop}{res:Except Nat (Tr×List Tok)}
  (hQ:match res with
   | .ok (t,l')=>∀ w' a',Qp2 (Xb b q r 5) b E hd w1 t l' w' a'→Q .ret a' w'
   | .error p=>∀ w' a',Uh b q r w1 w'→a'.defers=[]→Q (.panic [{ v:=V6 p,recovered:=false }]) a' w'):
  ∀ (f:Nat) (x:Tr) (l:List Tok) (w:World) (a:Act),f≤F0→Xv E.len f 5 hd x l=some res→Qp1 (Xb b q r 5) b E hd w1 x l w a→Vt Tryz.prog Je Q a w:=by
 intro f;induction f with
 |zero=>intro x l w a _ h;rw[Xv] at h;cases h
 |succ f ih=>
  intro x l w a hf h I;rw[Xv] at h;obtain⟨xk,xx,xn,xp,xc⟩:=x;refine Z5 ?_;generalize hbz:(if (Q9 l==4)=true then Vs (Zl l) else 0)=bz at h;cases k1:Q9 l==4 with
  |false=>
   obtain rfl:bz=0:=by rw[←hbz,k1];rfl
   rw[if_pos Dd] at h;cases h;have D:X8 (Xb b q r 5) b E (Kw E.len hd (SX (Xb b q r 5) w1) [l] [.mk xk xx xn xp xc] [] []) hd w1 w [Qp 0 (tk 129) (tk 321)] ⟨[],[],[],[]⟩ [(129,.int .i64 4,false)]:=
    ⟨rfl,rfl,rfl,rfl,Qa (Qq Dd (.inl rfl) _) Q8,Dx,Ql,Qk,(eqC (Qg (i:=0) Dd k1) eqN),Qj,J5 h1 h2 h3 h4 h5⟩
   exact D.round rfl rfl I (fin:=.ret 0 (.ab (tk 256) (tk 257) (tk 258) (tk 259) 1)) Dk hQ
  |true=>
   obtain rfl:bz=Vs (Zl l):=by rw[←hbz,k1];rfl
   obtain⟨bn,hbn⟩:∃ n,n=Vs (Zl l):=⟨_,rfl⟩;have hble:=Cm (Zl l);rw[←hbn] at h hble;rcases (by omega:bn=0∨bn=1∨bn=2∨bn=3∨bn=4∨bn=5) with rfl|rfl|rfl|rfl|rfl|rfl
   ·
    rw[if_pos Dd] at h;cases h;have D:X8 (Xb b q r 5) b E (Kw E.len hd (SX (Xb b q r 5) w1) [l] [.mk xk xx xn xp xc] [] []) hd w1 w [Qp 0 (tk 129) (tk 321),Xp 0 0] ⟨[],[],[],[]⟩ [(129,.int .i64 4,true)]:=
     ⟨rfl,rfl,rfl,rfl,Qa (Qq Dd (.inl rfl) _) (Qa (Xq hB (i:=0) Dd hbn.symm) Q8),Dx,Ql,Qk,(eqC (Qg (i:=0) Dd k1) eqN),Qj,J5 h1 h2 h3 h4 h5⟩
    exact D.round rfl rfl I (fin:=.ret 0 (.ab (tk 256) (tk 257) (tk 258) (tk 259) 1)) Dk hQ
   ·
    rw[if_pos Dd] at h;cases h;have D:X8 (Xb b q r 5) b E (Kw E.len hd (SX (Xb b q r 5) w1) [l] [.mk xk xx xn xp xc] [] []) hd w1 w [Qp 0 (tk 129) (tk 321),Xp 0 1] ⟨[],[],[],[]⟩ [(129,.int .i64 4,true)]:=
     ⟨rfl,rfl,rfl,rfl,Qa (Qq Dd (.inl rfl) _) (Qa (Xq hB (i:=0) Dd hbn.symm) Q8),Dx,Ql,Qk,(eqC (Qg (i:=0) Dd k1) eqN),Qj,J5 h1 h2 h3 h4 h5⟩
    exact D.round rfl rfl I (fin:=.ret 0 (.ab (tk 256) (tk 257) (tk 258) (tk 259) 1)) Dk hQ
   ·
    rw[if_pos Dd] at h;cases h;have D:X8 (Xb b q r 5) b E (Kw E.len hd (SX (Xb b q r 5) w1) [l] [.mk xk xx xn xp xc] [] []) hd w1 w [Qp 0 (tk 129) (tk 321),Xp 0 2] ⟨[],[],[],[]⟩ [(129,.int .i64 4,true)]:=
     ⟨rfl,rfl,rfl,rfl,Qa (Qq Dd (.inl rfl) _) (Qa (Xq hB (i:=0) Dd hbn.symm) Q8),Dx,Ql,Qk,(eqC (Qg (i:=0) Dd k1) eqN),Qj,J5 h1 h2 h3 h4 h5⟩
    exact D.round rfl rfl I (fin:=.ret 0 (.ab (tk 256) (tk 257) (tk 258) (tk 259) 1)) Dk hQ
   ·
    rw[if_pos Dd] at h;cases h;have D:X8 (Xb b q r 5) b E (Kw E.len hd (SX (Xb b q r 5) w1) [l] [.mk xk xx xn xp xc] [] []) hd w1 w [Qp 0 (tk 129) (tk 321),Xp 0 3] ⟨[],[],[],[]⟩ [(129,.int .i64 4,true)]:=
     ⟨rfl,rfl,rfl,rfl,Qa (Qq Dd (.inl rfl) _) (Qa (Xq hB (i:=0) Dd hbn.symm) Q8),Dx,Ql,Qk,(eqC (Qg (i:=0) Dd k1) eqN),Qj,J5 h1 h2 h3 h4 h5⟩
    exact D.round rfl rfl I (fin:=.ret 0 (.ab (tk 256) (tk 257) (tk 258) (tk 259) 1)) Dk hQ
   ·
    rw[if_pos Dd] at h;cases h;have D:X8 (Xb b q r 5) b E (Kw E.len hd (SX (Xb b q r 5) w1) [l] [.mk xk xx xn xp xc] [] []) hd w1 w [Qp 0 (tk 129) (tk 321),Xp 0 4] ⟨[],[],[],[]⟩ [(129,.int .i64 4,true)]:=
     ⟨rfl,rfl,rfl,rfl,Qa (Qq Dd (.inl rfl) _) (Qa (Xq hB (i:=0) Dd hbn.symm) Q8),Dx,Ql,Qk,(eqC (Qg (i:=0) Dd k1) eqN),Qj,J5 h1 h2 h3 h4 h5⟩
    exact D.round rfl rfl I (fin:=.ret 0 (.ab (tk 256) (tk 257) (tk 258) (tk 259) 1)) Dk hQ
   ·
    rw[if_neg Dd] at h;obtain⟨t0,hcons⟩:=Zw Dd k1;cases k2:Xg E.len f (5+1) hd l.tail with
    |none=>rw[k2] at h;cases h
    |some y=>
     rw[k2] at h;cases y with
     |error pl=>
      cases h;have D:X8 (Xb b q r 5) b E (Kw E.len hd (SX (Xb b q r 5) w1) [l,l.tail] [.mk xk xx xn xp xc] [] [(pl:Int)]) hd w1 w [Qp 0 (tk 129) (tk 321),Xp 0 5,Xw 37 [.int .i64 6] 1 2 (tk 321)] ⟨[(0,1)],[],[],[322]⟩ [(129,.int .i64 4,true)]:=
       ⟨rfl,rfl,rfl,rfl,Qa (Qq Dd (.inl rfl) _) (Qa (Xq hB (i:=0) Dd hbn.symm) (Qa (Zi (hx 5 f Dd Dw) (.inr rfl) rfl Qw k2 Dd rfl) Q8)),(N8 ⟨t0,hcons⟩),Ql,Qk,(eqC (Qg (i:=0) Dd k1) eqN),(Ud ⟨pl,rfl⟩ Qj),J5 h1 h2 h3 h4 h5⟩
      exact D.round rfl rfl I (fin:=.pan (tk 322)) Dk hQ
     |ok y=>
      obtain⟨⟨yk,yx,yn,yp,yc⟩,k⟩:=y;dsimp only [andThen] at h;rw[Q7,Xf] at h;have D:X8 (Xb b q r 5) b E (Kw E.len hd (SX (Xb b q r 5) w1) [l,l.tail,k] [.mk xk xx xn xp xc,.mk yk yx yn yp yc] [] []) hd w1 w [Qp 0 (tk 129) (tk 321),Xp 0 5,Qm 37 [.int .i64 6] 1 2 (tk 260) 1 (tk 321)] ⟨[(0,1)],[],[],[]⟩ [(129,.int .i64 4,true)]:=
       ⟨rfl,rfl,rfl,rfl,Qa (Qq Dd (.inl rfl) _) (Qa (Xq hB (i:=0) Dd hbn.symm) (Qa (Qs (hx 5 f Dd Dw) (.inr rfl) rfl Qw k2 (.inl rfl) Dd) Q8)),(N8 ⟨t0,hcons⟩),Ql,Qk,(eqC (Qg (i:=0) Dd k1) eqN),Qj,J5 h1 h2 h3 h4 h5⟩
      exact D.round rfl rfl I (fin:=.again 2 (.nd (.int .i64 33) (tk 130) (.int .u64 0) (tk 132) [.ab (tk 256) (tk 257) (tk 258) (tk 259) 1,.ab (tk 260) (tk 261) (tk 262) (tk 263) 9])) Dk fun w' a' I'=>ih _ k w' a' Dw h I'
theorem Qpf {b q r F0:Nat}{E:Env}{hd:Bool}{w1:World}(h1:b<q)(h2:b<r)(h3:q≠r)(h4:b<w1.heap.size)(h5:r<w1.heap.size)(hB:J8 b E)(hx:∀ (k g:Nat),k≤5→g<F0→Reads b E hd 37 #[rp b,.int .i64 ((k+1:Nat):Int)] (Xg E.len g (k+1) hd)){Q:Exit→Act→World→Prop}{res:Except Nat (Tr×List Tok)}
  (hQ:match res with
   | .ok (t,l')=>∀ w' a',Qp2 (Xb b q r 6) b E hd w1 t l' w' a'→Q .ret a' w'
   | .error p=>∀ w' a',Uh b q r w1 w'→a'.defers=[]→Q (.panic [{ v:=V6 p,recovered:=false }]) a' w'):
  ∀ (f:Nat) (x:Tr) (l:List Tok) (w:World) (a:Act),f≤F0→Xv E.len f 6 hd x l=some res→Qp1 (Xb b q r 6) b E hd w1 x l w a→Vt Tryz.prog Je Q a w:=by
 intro f;induction f with
 |zero=>intro x l w a _ h;rw[Xv] at h;cases h
 |succ f ih=>
  intro x l w a hf h I;rw[Xv] at h;obtain⟨xk,xx,xn,xp,xc⟩:=x;refine Z5 ?_;generalize hbz:(if (Q9 l==4)=true then Vs (Zl l) else 0)=bz at h;cases k1:Q9 l==4 with
  |false=>
   obtain rfl:bz=0:=by rw[←hbz,k1];rfl
   rw[if_pos Dd] at h;cases h;have D:X8 (Xb b q r 6) b E (Kw E.len hd (SX (Xb b q r 6) w1) [l] [.mk xk xx xn xp xc] [] []) hd w1 w [Qp 0 (tk 129) (tk 321)] ⟨[],[],[],[]⟩ [(129,.int .i64 4,false)]:=
    ⟨rfl,rfl,rfl,rfl,Qa (Qq Dd (.inl rfl) _) Q8,Dx,Ql,Qk,(eqC (Qg (i:=0) Dd k1) eqN),Qj,J5 h1 h2 h3 h4 h5⟩
   exact D.round rfl rfl I (fin:=.ret 0 (.ab (tk 256) (tk 257) (tk 258) (tk 259) 1)) Dk hQ
  |true=>
   obtain rfl:bz=Vs (Zl l):=by rw[←hbz,k1];rfl
   obtain⟨bn,hbn⟩:∃ n,n=Vs (Zl l):=⟨_,rfl⟩;have hble:=Cm (Zl l);rw[←hbn] at h hble;rcases (by omega:bn=0∨bn=1∨bn=2∨bn=3∨bn=4∨bn=5) with rfl|rfl|rfl|rfl|rfl|rfl
   ·
    rw[if_pos Dd] at h;cases h;have D:X8 (Xb b q r 6) b E (Kw E.len hd (SX (Xb b q r 6) w1) [l] [.mk xk xx xn xp xc] [] []) hd w1 w [Qp 0 (tk 129) (tk 321),Xp 0 0] ⟨[],[],[],[]⟩ [(129,.int .i64 4,true)]:=
     ⟨rfl,rfl,rfl,rfl,Qa (Qq Dd (.inl rfl) _) (Qa (Xq hB (i:=0) Dd hbn.symm) Q8),Dx,Ql,Qk,(eqC (Qg (i:=0) Dd k1) eqN),Qj,J5 h1 h2 h3 h4 h5⟩
    exact D.round rfl rfl I (fin:=.ret 0 (.ab (tk 256) (tk 257) (tk 258) (tk 259) 1)) Dk hQ
   ·
    rw[if_pos Dd] at h;cases h;have D:X8 (Xb b q r 6) b E (Kw E.len hd (SX (Xb b q r 6) w1) [l] [.mk xk xx xn xp xc] [] []) hd w1 w [Qp 0 (tk 129) (tk 321),Xp 0 1] ⟨[],[],[],[]⟩ [(129,.int .i64 4,true)]:=
     ⟨rfl,rfl,rfl,rfl,Qa (Qq Dd (.inl rfl) _) (Qa (Xq hB (i:=0) Dd hbn.symm) Q8),Dx,Ql,Qk,(eqC (Qg (i:=0) Dd k1) eqN),Qj,J5 h1 h2 h3 h4 h5⟩
    exact D.round rfl rfl I (fin:=.ret 0 (.ab (tk 256) (tk 257) (tk 258) (tk 259) 1)) Dk hQ
   ·
    rw[if_pos Dd] at h;cases h;have D:X8 (Xb b q r 6) b E (Kw E.len hd (SX (Xb b q r 6) w1) [l] [.mk xk xx xn xp xc] [] []) hd w1 w [Qp 0 (tk 129) (tk 321),Xp 0 2] ⟨[],[],[],[]⟩ [(129,.int .i64 4,true)]:=
     ⟨rfl,rfl,rfl,rfl,Qa (Qq Dd (.inl rfl) _) (Qa (Xq hB (i:=0) Dd hbn.symm) Q8),Dx,Ql,Qk,(eqC (Qg (i:=0) Dd k1) eqN),Qj,J5 h1 h2 h3 h4 h5⟩
    exact D.round rfl rfl I (fin:=.ret 0 (.ab (tk 256) (tk 257) (tk 258) (tk 259) 1)) Dk hQ
   ·
    rw[if_pos Dd] at h;cases h;have D:X8 (Xb b q r 6) b E (Kw E.len hd (SX (Xb b q r 6) w1) [l] [.mk xk xx xn xp xc] [] []) hd w1 w [Qp 0 (tk 129) (tk 321),Xp 0 3] ⟨[],[],[],[]⟩ [(129,.int .i64 4,true)]:=
     ⟨rfl,rfl,rfl,rfl,Qa (Qq Dd (.inl rfl) _) (Qa (Xq hB (i:=0) Dd hbn.symm) Q8),Dx,Ql,Qk,(eqC (Qg (i:=0) Dd k1) eqN),Qj,J5 h1 h2 h3 h4 h5⟩
    exact D.round rfl rfl I (fin:=.ret 0 (.ab (tk 256) (tk 257) (tk 258) (tk 259) 1)) Dk hQ
   ·
    rw[if_pos Dd] at h;cases h;have D:X8 (Xb b q r 6) b E (Kw E.len hd (SX (Xb b q r 6) w1) [l] [.mk xk xx xn xp xc] [] []) hd w1 w [Qp 0 (tk 129) (tk 321),Xp 0 4] ⟨[],[],[],[]⟩ [(129,.int .i64 4,true)]:=
     ⟨rfl,rfl,rfl,rfl,Qa (Qq Dd (.inl rfl) _) (Qa (Xq hB (i:=0) Dd hbn.symm) Q8),Dx,Ql,Qk,(eqC (Qg (i:=0) Dd k1) eqN),Qj,J5 h1 h2 h3 h4 h5⟩
    exact D.round rfl rfl I (fin:=.ret 0 (.ab (tk 256) (tk 257) (tk 258) (tk 259) 1)) Dk hQ
   ·
    rw[if_pos Dd] at h;cases h;have D:X8 (Xb b q r 6) b E (Kw E.len hd (SX (Xb b q r 6) w1) [l] [.mk xk xx xn xp xc] [] []) hd w1 w [Qp 0 (tk 129) (tk 321),Xp 0 5] ⟨[],[],[],[]⟩ [(129,.int .i64 4,true)]:=
     ⟨rfl,rfl,rfl,rfl,Qa (Qq Dd (.inl rfl) _) (Qa (Xq hB (i:=0) Dd hbn.symm) Q8),Dx,Ql,Qk,(eqC (Qg (i:=0) Dd k1) eqN),Qj,J5 h1 h2 h3 h4 h5⟩
    exact D.round rfl rfl I (fin:=.ret 0 (.ab (tk 256) (tk 257) (tk 258) (tk 259) 1)) Dk hQ
end Prs
end Go.Proofs.YtcbkeecabcbogaaGreatDoor
