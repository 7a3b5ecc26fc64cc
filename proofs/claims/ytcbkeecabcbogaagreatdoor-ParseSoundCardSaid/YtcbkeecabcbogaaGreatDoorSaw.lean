/- The loop of expr, for each least number. (Printed by gen_ex. -/
import Derived.Test.YtcbkeecabcbogaaGreatDoorSav
set_option maxRecDepth 20000
set_option linter.unusedSimpArgs false
set_option linter.unusedVariables false
namespace Go.Proofs.YtcbkeecabcbogaaGreatDoor
open Go.RowKit
namespace Prs
open Ev
def J4 (b:Nat)(E:Env):Prop:=∀ (x:List UInt8) (w1:World),(∀ k,k<b→w1.heap[k]? = E.w0.heap[k]?)→Calls Tryz.prog 65 #[.string ⟨x.toArray⟩] w1 fun e w2=>e=.returned (.int .i64 (Z9 x:Int))∧w2=w1
def Xk (i:Nat)(n:Int):Xt:=⟨65,[tk (130+8*i)],i,.bool true,.pure (.int .i64 n)⟩
theorem Xl {b:Nat}{E:Env}{N:Va}{w0:World}(hB:J4 b E){i n:Nat}(hi:i<16)(h:Z9 (Zo (N.L i))=n):Uc b E N w0 (Xk i (n:Int)):=by
 intro p hax args' w hargs hlo;cases hargs with
 |cons h1 h2=>
 cases h2;have ht:Xi N (130+8*i)=some (.string ⟨(Tz (N.L i)).text.toArray⟩):=by rw[show 130+8*i=128+8*i+2 by omega,N8 N hi Dd];rfl
 obtain rfl:=hax.val ht h1;refine(hB (Tz (N.L i)).text w hlo).mono ?_;rintro e w' ⟨rfl,rfl⟩;rw[Q5] at h;rw[h];exact⟨rfl,_,rfl,.int _ _⟩
theorem Qb7 (s:List UInt8):∀ l:List (List (List UInt8)),Fa s l≤l.length
 | []=>by unfold Fa;simp
 |x::l=>by
  have h2:=Qb7 s l;unfold Fa;split
  ·simp
  ·simp;omega
theorem Ea (s:List UInt8):Z9 s≤5:=Qb7 s opsP
def Q9 (b q r least:Nat):Rl where
 n:=45
 rowSlot:=5
 resSlot:=4
 q:=q
 r:=r
 direct:=[(0,.pointer (some ⟨64,0,none⟩),rp b),(1,.int .i64 (least:Int),.int .i64 (least:Int))]
theorem Jv {b q r least:Nat}{N:Va}{w1:World}(h1:b<q)(h2:b<r)(h3:q≠r)(h4:b<w1.heap.size)(h5:r<w1.heap.size):TFix (Q9 b q r least) b N w1 where
 bq:=h1
 br:=h2
 qr:=h3
 bw:=h4
 dir:=fun x hx p hax=>by
  have hx:x ∈ [_,_]:=hx;simp only[List.mem_cons,List.not_mem_nil,or_false] at hx;rcases hx with rfl|rfl
  ·exact Qhz hax
  ·exact .int _ _
 dirU:=fun x hx p u hax hv=>by
  have hx:x ∈ [_,_]:=hx;simp only[List.mem_cons,List.not_mem_nil,or_false] at hx;rcases hx with rfl|rfl
  ·exact Qbr hax hv
  ·cases hv;rfl
 dirN:=fun x hx=>by
  have hx:x ∈ [_,_]:=hx;simp only[List.mem_cons,List.not_mem_nil,or_false] at hx;rcases hx with rfl|rfl <;> simp
noncomputable def Jc:Code:=V8 (Qaz (Qaz (Ze 37)))
theorem Qph {b q r F0:Nat}{E:Env}{hd:Bool}{w1:World}(h1:b<q)(h2:b<r)(h3:q≠r)(h4:b<w1.heap.size)(h5:r<w1.heap.size)(hB:J4 b E)(hx:∀ (k g:Nat),k≤5→g<F0→Reads b E hd 37 #[rp b,.int .i64 ((k+1:Nat):Int)] (Xj E.len g (k+1) hd)){Q:Exit→Act→World→Prop}{res:Except Nat (Tr×List Tok)}
  (hQ:match res with
   | .ok (t,l')=>∀ w' a',Qp3 (Q9 b q r 1) b E hd w1 t l' w' a'→Q .ret a' w'
   | .error p=>∀ w' a',Ua b q r w1 w'→a'.defers=[]→Q (.panic [{ v:=Vw p,recovered:=false }]) a' w'):
  ∀ (f:Nat) (x:Tr) (l:List Tok) (w:World) (a:Act),f≤F0→Zi E.len f 1 hd x l=some res→Qp2 (Q9 b q r 1) b E hd w1 x l w a→Vl Tryz.prog Jc Q a w:=by
 intro f;induction f with
 |zero=>intro x l w a _ h;rw[Zi] at h;cases h
 |succ f ih=>
  intro x l w a hf h I;rw[Zi] at h;obtain⟨xk,xx,xn,xp,xc⟩:=x;refine Zu ?_;generalize hbz:(if (Xn l==4)=true then Z9 (Zo l) else 0)=bz at h;cases k1:Xn l==4 with
  |false=>
   obtain rfl:bz=0:=by rw[←hbz,k1];rfl
   rw[if_pos Dd] at h;cases h;have D:X0 (Q9 b q r 1) b E (Kt E.len hd (SX (Q9 b q r 1) w1) [l] [.mk xk xx xn xp xc] [] []) hd w1 w [Qp 0 (tk 129) (tk 321)] ⟨[],[],[],[]⟩ [(129,.int .i64 4,false)]:=
    ⟨rfl,rfl,rfl,rfl,Qa (Qq Dd (.inl rfl) _) Q7,Dx,Ql,Qk,(eqC (Qg (i:=0) Dd k1) eqN),Qj,Jv h1 h2 h3 h4 h5⟩
   exact D.round rfl rfl I (fin:=.ret 0 (.ab (tk 256) (tk 257) (tk 258) (tk 259) 1)) Dk hQ
  |true=>
   obtain rfl:bz=Z9 (Zo l):=by rw[←hbz,k1];rfl
   obtain⟨bn,hbn⟩:∃ n,n=Z9 (Zo l):=⟨_,rfl⟩;have hble:=Ea (Zo l);rw[←hbn] at h hble;rcases (by omega:bn=0∨bn=1∨bn=2∨bn=3∨bn=4∨bn=5) with rfl|rfl|rfl|rfl|rfl|rfl
   ·
    rw[if_pos Dd] at h;cases h;have D:X0 (Q9 b q r 1) b E (Kt E.len hd (SX (Q9 b q r 1) w1) [l] [.mk xk xx xn xp xc] [] []) hd w1 w [Qp 0 (tk 129) (tk 321),Xk 0 0] ⟨[],[],[],[]⟩ [(129,.int .i64 4,true)]:=
     ⟨rfl,rfl,rfl,rfl,Qa (Qq Dd (.inl rfl) _) (Qa (Xl hB (i:=0) Dd hbn.symm) Q7),Dx,Ql,Qk,(eqC (Qg (i:=0) Dd k1) eqN),Qj,Jv h1 h2 h3 h4 h5⟩
    exact D.round rfl rfl I (fin:=.ret 0 (.ab (tk 256) (tk 257) (tk 258) (tk 259) 1)) Dk hQ
   ·
    rw[if_neg Dd] at h;obtain⟨t0,hcons⟩:=Zm Dd k1;cases k2:Xj E.len f (1+1) hd l.tail with
    |none=>rw[k2] at h;cases h
    |some y=>
     rw[k2] at h;cases y with
     |error pl=>
      cases h;have D:X0 (Q9 b q r 1) b E (Kt E.len hd (SX (Q9 b q r 1) w1) [l,l.tail] [.mk xk xx xn xp xc] [] [(pl:Int)]) hd w1 w [Qp 0 (tk 129) (tk 321),Xk 0 1,Xq 37 [.int .i64 2] 1 2 (tk 321)] ⟨[(0,1)],[],[],[322]⟩ [(129,.int .i64 4,true)]:=
       ⟨rfl,rfl,rfl,rfl,Qa (Qq Dd (.inl rfl) _) (Qa (Xl hB (i:=0) Dd hbn.symm) (Qa (Zf (hx 1 f Dd Dw) (.inr rfl) rfl Qw k2 Dd rfl) Q7)),(Nz ⟨t0,hcons⟩),Ql,Qk,(eqC (Qg (i:=0) Dd k1) eqN),(V6 ⟨pl,rfl⟩ Qj),Jv h1 h2 h3 h4 h5⟩
      exact D.round rfl rfl I (fin:=.pan (tk 322)) Dk hQ
     |ok y=>
      obtain⟨⟨yk,yx,yn,yp,yc⟩,k⟩:=y;dsimp only [andThen] at h;rw[Q5,Xc] at h;have D:X0 (Q9 b q r 1) b E (Kt E.len hd (SX (Q9 b q r 1) w1) [l,l.tail,k] [.mk xk xx xn xp xc,.mk yk yx yn yp yc] [] []) hd w1 w [Qp 0 (tk 129) (tk 321),Xk 0 1,Qm 37 [.int .i64 2] 1 2 (tk 260) 1 (tk 321)] ⟨[(0,1)],[],[],[]⟩ [(129,.int .i64 4,true)]:=
       ⟨rfl,rfl,rfl,rfl,Qa (Qq Dd (.inl rfl) _) (Qa (Xl hB (i:=0) Dd hbn.symm) (Qa (Qs (hx 1 f Dd Dw) (.inr rfl) rfl Qw k2 (.inl rfl) Dd) Q7)),(Nz ⟨t0,hcons⟩),Ql,Qk,(eqC (Qg (i:=0) Dd k1) eqN),Qj,Jv h1 h2 h3 h4 h5⟩
      exact D.round rfl rfl I (fin:=.again 2 (.nd (.int .i64 33) (tk 130) (.int .u64 0) (tk 132) [.ab (tk 256) (tk 257) (tk 258) (tk 259) 1,.ab (tk 260) (tk 261) (tk 262) (tk 263) 9])) Dk fun w' a' I'=>ih _ k w' a' Dw h I'
   ·
    rw[if_neg Dd] at h;obtain⟨t0,hcons⟩:=Zm Dd k1;cases k2:Xj E.len f (2+1) hd l.tail with
    |none=>rw[k2] at h;cases h
    |some y=>
     rw[k2] at h;cases y with
     |error pl=>
      cases h;have D:X0 (Q9 b q r 1) b E (Kt E.len hd (SX (Q9 b q r 1) w1) [l,l.tail] [.mk xk xx xn xp xc] [] [(pl:Int)]) hd w1 w [Qp 0 (tk 129) (tk 321),Xk 0 2,Xq 37 [.int .i64 3] 1 2 (tk 321)] ⟨[(0,1)],[],[],[322]⟩ [(129,.int .i64 4,true)]:=
       ⟨rfl,rfl,rfl,rfl,Qa (Qq Dd (.inl rfl) _) (Qa (Xl hB (i:=0) Dd hbn.symm) (Qa (Zf (hx 2 f Dd Dw) (.inr rfl) rfl Qw k2 Dd rfl) Q7)),(Nz ⟨t0,hcons⟩),Ql,Qk,(eqC (Qg (i:=0) Dd k1) eqN),(V6 ⟨pl,rfl⟩ Qj),Jv h1 h2 h3 h4 h5⟩
      exact D.round rfl rfl I (fin:=.pan (tk 322)) Dk hQ
     |ok y=>
      obtain⟨⟨yk,yx,yn,yp,yc⟩,k⟩:=y;dsimp only [andThen] at h;rw[Q5,Xc] at h;have D:X0 (Q9 b q r 1) b E (Kt E.len hd (SX (Q9 b q r 1) w1) [l,l.tail,k] [.mk xk xx xn xp xc,.mk yk yx yn yp yc] [] []) hd w1 w [Qp 0 (tk 129) (tk 321),Xk 0 2,Qm 37 [.int .i64 3] 1 2 (tk 260) 1 (tk 321)] ⟨[(0,1)],[],[],[]⟩ [(129,.int .i64 4,true)]:=
       ⟨rfl,rfl,rfl,rfl,Qa (Qq Dd (.inl rfl) _) (Qa (Xl hB (i:=0) Dd hbn.symm) (Qa (Qs (hx 2 f Dd Dw) (.inr rfl) rfl Qw k2 (.inl rfl) Dd) Q7)),(Nz ⟨t0,hcons⟩),Ql,Qk,(eqC (Qg (i:=0) Dd k1) eqN),Qj,Jv h1 h2 h3 h4 h5⟩
      exact D.round rfl rfl I (fin:=.again 2 (.nd (.int .i64 33) (tk 130) (.int .u64 0) (tk 132) [.ab (tk 256) (tk 257) (tk 258) (tk 259) 1,.ab (tk 260) (tk 261) (tk 262) (tk 263) 9])) Dk fun w' a' I'=>ih _ k w' a' Dw h I'
   ·
    rw[if_neg Dd] at h;obtain⟨t0,hcons⟩:=Zm Dd k1;cases k2:Xj E.len f (3+1) hd l.tail with
    |none=>rw[k2] at h;cases h
    |some y=>
     rw[k2] at h;cases y with
     |error pl=>
      cases h;have D:X0 (Q9 b q r 1) b E (Kt E.len hd (SX (Q9 b q r 1) w1) [l,l.tail] [.mk xk xx xn xp xc] [] [(pl:Int)]) hd w1 w [Qp 0 (tk 129) (tk 321),Xk 0 3,Xq 37 [.int .i64 4] 1 2 (tk 321)] ⟨[(0,1)],[],[],[322]⟩ [(129,.int .i64 4,true)]:=
       ⟨rfl,rfl,rfl,rfl,Qa (Qq Dd (.inl rfl) _) (Qa (Xl hB (i:=0) Dd hbn.symm) (Qa (Zf (hx 3 f Dd Dw) (.inr rfl) rfl Qw k2 Dd rfl) Q7)),(Nz ⟨t0,hcons⟩),Ql,Qk,(eqC (Qg (i:=0) Dd k1) eqN),(V6 ⟨pl,rfl⟩ Qj),Jv h1 h2 h3 h4 h5⟩
      exact D.round rfl rfl I (fin:=.pan (tk 322)) Dk hQ
     |ok y=>
      obtain⟨⟨yk,yx,yn,yp,yc⟩,k⟩:=y;dsimp only [andThen] at h;rw[Q5,Xc] at h;have D:X0 (Q9 b q r 1) b E (Kt E.len hd (SX (Q9 b q r 1) w1) [l,l.tail,k] [.mk xk xx xn xp xc,.mk yk yx yn yp yc] [] []) hd w1 w [Qp 0 (tk 129) (tk 321),Xk 0 3,Qm 37 [.int .i64 4] 1 2 (tk 260) 1 (tk 321)] ⟨[(0,1)],[],[],[]⟩ [(129,.int .i64 4,true)]:=
       ⟨rfl,rfl,rfl,rfl,Qa (Qq Dd (.inl rfl) _) (Qa (Xl hB (i:=0) Dd hbn.symm) (Qa (Qs (hx 3 f Dd Dw) (.inr rfl) rfl Qw k2 (.inl rfl) Dd) Q7)),(Nz ⟨t0,hcons⟩),Ql,Qk,(eqC (Qg (i:=0) Dd k1) eqN),Qj,Jv h1 h2 h3 h4 h5⟩
      exact D.round rfl rfl I (fin:=.again 2 (.nd (.int .i64 33) (tk 130) (.int .u64 0) (tk 132) [.ab (tk 256) (tk 257) (tk 258) (tk 259) 1,.ab (tk 260) (tk 261) (tk 262) (tk 263) 9])) Dk fun w' a' I'=>ih _ k w' a' Dw h I'
   ·
    rw[if_neg Dd] at h;obtain⟨t0,hcons⟩:=Zm Dd k1;cases k2:Xj E.len f (4+1) hd l.tail with
    |none=>rw[k2] at h;cases h
    |some y=>
     rw[k2] at h;cases y with
     |error pl=>
      cases h;have D:X0 (Q9 b q r 1) b E (Kt E.len hd (SX (Q9 b q r 1) w1) [l,l.tail] [.mk xk xx xn xp xc] [] [(pl:Int)]) hd w1 w [Qp 0 (tk 129) (tk 321),Xk 0 4,Xq 37 [.int .i64 5] 1 2 (tk 321)] ⟨[(0,1)],[],[],[322]⟩ [(129,.int .i64 4,true)]:=
       ⟨rfl,rfl,rfl,rfl,Qa (Qq Dd (.inl rfl) _) (Qa (Xl hB (i:=0) Dd hbn.symm) (Qa (Zf (hx 4 f Dd Dw) (.inr rfl) rfl Qw k2 Dd rfl) Q7)),(Nz ⟨t0,hcons⟩),Ql,Qk,(eqC (Qg (i:=0) Dd k1) eqN),(V6 ⟨pl,rfl⟩ Qj),Jv h1 h2 h3 h4 h5⟩
      exact D.round rfl rfl I (fin:=.pan (tk 322)) Dk hQ
     |ok y=>
      obtain⟨⟨yk,yx,yn,yp,yc⟩,k⟩:=y;dsimp only [andThen] at h;rw[Q5,Xc] at h;have D:X0 (Q9 b q r 1) b E (Kt E.len hd (SX (Q9 b q r 1) w1) [l,l.tail,k] [.mk xk xx xn xp xc,.mk yk yx yn yp yc] [] []) hd w1 w [Qp 0 (tk 129) (tk 321),Xk 0 4,Qm 37 [.int .i64 5] 1 2 (tk 260) 1 (tk 321)] ⟨[(0,1)],[],[],[]⟩ [(129,.int .i64 4,true)]:=
       ⟨rfl,rfl,rfl,rfl,Qa (Qq Dd (.inl rfl) _) (Qa (Xl hB (i:=0) Dd hbn.symm) (Qa (Qs (hx 4 f Dd Dw) (.inr rfl) rfl Qw k2 (.inl rfl) Dd) Q7)),(Nz ⟨t0,hcons⟩),Ql,Qk,(eqC (Qg (i:=0) Dd k1) eqN),Qj,Jv h1 h2 h3 h4 h5⟩
      exact D.round rfl rfl I (fin:=.again 2 (.nd (.int .i64 33) (tk 130) (.int .u64 0) (tk 132) [.ab (tk 256) (tk 257) (tk 258) (tk 259) 1,.ab (tk 260) (tk 261) (tk 262) (tk 263) 9])) Dk fun w' a' I'=>ih _ k w' a' Dw h I'
   ·
    rw[if_neg Dd] at h;obtain⟨t0,hcons⟩:=Zm Dd k1;cases k2:Xj E.len f (5+1) hd l.tail with
    |none=>rw[k2] at h;cases h
    |some y=>
     rw[k2] at h;cases y with
     |error pl=>
      cases h;have D:X0 (Q9 b q r 1) b E (Kt E.len hd (SX (Q9 b q r 1) w1) [l,l.tail] [.mk xk xx xn xp xc] [] [(pl:Int)]) hd w1 w [Qp 0 (tk 129) (tk 321),Xk 0 5,Xq 37 [.int .i64 6] 1 2 (tk 321)] ⟨[(0,1)],[],[],[322]⟩ [(129,.int .i64 4,true)]:=
       ⟨rfl,rfl,rfl,rfl,Qa (Qq Dd (.inl rfl) _) (Qa (Xl hB (i:=0) Dd hbn.symm) (Qa (Zf (hx 5 f Dd Dw) (.inr rfl) rfl Qw k2 Dd rfl) Q7)),(Nz ⟨t0,hcons⟩),Ql,Qk,(eqC (Qg (i:=0) Dd k1) eqN),(V6 ⟨pl,rfl⟩ Qj),Jv h1 h2 h3 h4 h5⟩
      exact D.round rfl rfl I (fin:=.pan (tk 322)) Dk hQ
     |ok y=>
      obtain⟨⟨yk,yx,yn,yp,yc⟩,k⟩:=y;dsimp only [andThen] at h;rw[Q5,Xc] at h;have D:X0 (Q9 b q r 1) b E (Kt E.len hd (SX (Q9 b q r 1) w1) [l,l.tail,k] [.mk xk xx xn xp xc,.mk yk yx yn yp yc] [] []) hd w1 w [Qp 0 (tk 129) (tk 321),Xk 0 5,Qm 37 [.int .i64 6] 1 2 (tk 260) 1 (tk 321)] ⟨[(0,1)],[],[],[]⟩ [(129,.int .i64 4,true)]:=
       ⟨rfl,rfl,rfl,rfl,Qa (Qq Dd (.inl rfl) _) (Qa (Xl hB (i:=0) Dd hbn.symm) (Qa (Qs (hx 5 f Dd Dw) (.inr rfl) rfl Qw k2 (.inl rfl) Dd) Q7)),(Nz ⟨t0,hcons⟩),Ql,Qk,(eqC (Qg (i:=0) Dd k1) eqN),Qj,Jv h1 h2 h3 h4 h5⟩
      exact D.round rfl rfl I (fin:=.again 2 (.nd (.int .i64 33) (tk 130) (.int .u64 0) (tk 132) [.ab (tk 256) (tk 257) (tk 258) (tk 259) 1,.ab (tk 260) (tk 261) (tk 262) (tk 263) 9])) Dk fun w' a' I'=>ih _ k w' a' Dw h I'
theorem Qpg {b q r F0:Nat}{E:Env}{hd:Bool}{w1:World}(h1:b<q)(h2:b<r)(h3:q≠r)(h4:b<w1.heap.size)(h5:r<w1.heap.size)(hB:J4 b E)(hx:∀ (k g:Nat),k≤5→g<F0→Reads b E hd 37 #[rp b,.int .i64 ((k+1:Nat):Int)] (Xj E.len g (k+1) hd)){Q:Exit→Act→World→Prop}{res:Except Nat (Tr×List Tok)}
  (hQ:match res with
   | .ok (t,l')=>∀ w' a',Qp3 (Q9 b q r 2) b E hd w1 t l' w' a'→Q .ret a' w'
   | .error p=>∀ w' a',Ua b q r w1 w'→a'.defers=[]→Q (.panic [{ v:=Vw p,recovered:=false }]) a' w'):
  ∀ (f:Nat) (x:Tr) (l:List Tok) (w:World) (a:Act),f≤F0→Zi E.len f 2 hd x l=some res→Qp2 (Q9 b q r 2) b E hd w1 x l w a→Vl Tryz.prog Jc Q a w:=by
 intro f;induction f with
 |zero=>intro x l w a _ h;rw[Zi] at h;cases h
 |succ f ih=>
  intro x l w a hf h I;rw[Zi] at h;obtain⟨xk,xx,xn,xp,xc⟩:=x;refine Zu ?_;generalize hbz:(if (Xn l==4)=true then Z9 (Zo l) else 0)=bz at h;cases k1:Xn l==4 with
  |false=>
   obtain rfl:bz=0:=by rw[←hbz,k1];rfl
   rw[if_pos Dd] at h;cases h;have D:X0 (Q9 b q r 2) b E (Kt E.len hd (SX (Q9 b q r 2) w1) [l] [.mk xk xx xn xp xc] [] []) hd w1 w [Qp 0 (tk 129) (tk 321)] ⟨[],[],[],[]⟩ [(129,.int .i64 4,false)]:=
    ⟨rfl,rfl,rfl,rfl,Qa (Qq Dd (.inl rfl) _) Q7,Dx,Ql,Qk,(eqC (Qg (i:=0) Dd k1) eqN),Qj,Jv h1 h2 h3 h4 h5⟩
   exact D.round rfl rfl I (fin:=.ret 0 (.ab (tk 256) (tk 257) (tk 258) (tk 259) 1)) Dk hQ
  |true=>
   obtain rfl:bz=Z9 (Zo l):=by rw[←hbz,k1];rfl
   obtain⟨bn,hbn⟩:∃ n,n=Z9 (Zo l):=⟨_,rfl⟩;have hble:=Ea (Zo l);rw[←hbn] at h hble;rcases (by omega:bn=0∨bn=1∨bn=2∨bn=3∨bn=4∨bn=5) with rfl|rfl|rfl|rfl|rfl|rfl
   ·
    rw[if_pos Dd] at h;cases h;have D:X0 (Q9 b q r 2) b E (Kt E.len hd (SX (Q9 b q r 2) w1) [l] [.mk xk xx xn xp xc] [] []) hd w1 w [Qp 0 (tk 129) (tk 321),Xk 0 0] ⟨[],[],[],[]⟩ [(129,.int .i64 4,true)]:=
     ⟨rfl,rfl,rfl,rfl,Qa (Qq Dd (.inl rfl) _) (Qa (Xl hB (i:=0) Dd hbn.symm) Q7),Dx,Ql,Qk,(eqC (Qg (i:=0) Dd k1) eqN),Qj,Jv h1 h2 h3 h4 h5⟩
    exact D.round rfl rfl I (fin:=.ret 0 (.ab (tk 256) (tk 257) (tk 258) (tk 259) 1)) Dk hQ
   ·
    rw[if_pos Dd] at h;cases h;have D:X0 (Q9 b q r 2) b E (Kt E.len hd (SX (Q9 b q r 2) w1) [l] [.mk xk xx xn xp xc] [] []) hd w1 w [Qp 0 (tk 129) (tk 321),Xk 0 1] ⟨[],[],[],[]⟩ [(129,.int .i64 4,true)]:=
     ⟨rfl,rfl,rfl,rfl,Qa (Qq Dd (.inl rfl) _) (Qa (Xl hB (i:=0) Dd hbn.symm) Q7),Dx,Ql,Qk,(eqC (Qg (i:=0) Dd k1) eqN),Qj,Jv h1 h2 h3 h4 h5⟩
    exact D.round rfl rfl I (fin:=.ret 0 (.ab (tk 256) (tk 257) (tk 258) (tk 259) 1)) Dk hQ
   ·
    rw[if_neg Dd] at h;obtain⟨t0,hcons⟩:=Zm Dd k1;cases k2:Xj E.len f (2+1) hd l.tail with
    |none=>rw[k2] at h;cases h
    |some y=>
     rw[k2] at h;cases y with
     |error pl=>
      cases h;have D:X0 (Q9 b q r 2) b E (Kt E.len hd (SX (Q9 b q r 2) w1) [l,l.tail] [.mk xk xx xn xp xc] [] [(pl:Int)]) hd w1 w [Qp 0 (tk 129) (tk 321),Xk 0 2,Xq 37 [.int .i64 3] 1 2 (tk 321)] ⟨[(0,1)],[],[],[322]⟩ [(129,.int .i64 4,true)]:=
       ⟨rfl,rfl,rfl,rfl,Qa (Qq Dd (.inl rfl) _) (Qa (Xl hB (i:=0) Dd hbn.symm) (Qa (Zf (hx 2 f Dd Dw) (.inr rfl) rfl Qw k2 Dd rfl) Q7)),(Nz ⟨t0,hcons⟩),Ql,Qk,(eqC (Qg (i:=0) Dd k1) eqN),(V6 ⟨pl,rfl⟩ Qj),Jv h1 h2 h3 h4 h5⟩
      exact D.round rfl rfl I (fin:=.pan (tk 322)) Dk hQ
     |ok y=>
      obtain⟨⟨yk,yx,yn,yp,yc⟩,k⟩:=y;dsimp only [andThen] at h;rw[Q5,Xc] at h;have D:X0 (Q9 b q r 2) b E (Kt E.len hd (SX (Q9 b q r 2) w1) [l,l.tail,k] [.mk xk xx xn xp xc,.mk yk yx yn yp yc] [] []) hd w1 w [Qp 0 (tk 129) (tk 321),Xk 0 2,Qm 37 [.int .i64 3] 1 2 (tk 260) 1 (tk 321)] ⟨[(0,1)],[],[],[]⟩ [(129,.int .i64 4,true)]:=
       ⟨rfl,rfl,rfl,rfl,Qa (Qq Dd (.inl rfl) _) (Qa (Xl hB (i:=0) Dd hbn.symm) (Qa (Qs (hx 2 f Dd Dw) (.inr rfl) rfl Qw k2 (.inl rfl) Dd) Q7)),(Nz ⟨t0,hcons⟩),Ql,Qk,(eqC (Qg (i:=0) Dd k1) eqN),Qj,Jv h1 h2 h3 h4 h5⟩
      exact D.round rfl rfl I (fin:=.again 2 (.nd (.int .i64 33) (tk 130) (.int .u64 0) (tk 132) [.ab (tk 256) (tk 257) (tk 258) (tk 259) 1,.ab (tk 260) (tk 261) (tk 262) (tk 263) 9])) Dk fun w' a' I'=>ih _ k w' a' Dw h I'
   ·
    rw[if_neg Dd] at h;obtain⟨t0,hcons⟩:=Zm Dd k1;cases k2:Xj E.len f (3+1) hd l.tail with
    |none=>rw[k2] at h;cases h
    |some y=>
     rw[k2] at h;cases y with
     |error pl=>
      cases h;have D:X0 (Q9 b q r 2) b E (Kt E.len hd (SX (Q9 b q r 2) w1) [l,l.tail] [.mk xk xx xn xp xc] [] [(pl:Int)]) hd w1 w [Qp 0 (tk 129) (tk 321),Xk 0 3,Xq 37 [.int .i64 4] 1 2 (tk 321)] ⟨[(0,1)],[],[],[322]⟩ [(129,.int .i64 4,true)]:=
       ⟨rfl,rfl,rfl,rfl,Qa (Qq Dd (.inl rfl) _) (Qa (Xl hB (i:=0) Dd hbn.symm) (Qa (Zf (hx 3 f Dd Dw) (.inr rfl) rfl Qw k2 Dd rfl) Q7)),(Nz ⟨t0,hcons⟩),Ql,Qk,(eqC (Qg (i:=0) Dd k1) eqN),(V6 ⟨pl,rfl⟩ Qj),Jv h1 h2 h3 h4 h5⟩
      exact D.round rfl rfl I (fin:=.pan (tk 322)) Dk hQ
     |ok y=>
      obtain⟨⟨yk,yx,yn,yp,yc⟩,k⟩:=y;dsimp only [andThen] at h;rw[Q5,Xc] at h;have D:X0 (Q9 b q r 2) b E (Kt E.len hd (SX (Q9 b q r 2) w1) [l,l.tail,k] [.mk xk xx xn xp xc,.mk yk yx yn yp yc] [] []) hd w1 w [Qp 0 (tk 129) (tk 321),Xk 0 3,Qm 37 [.int .i64 4] 1 2 (tk 260) 1 (tk 321)] ⟨[(0,1)],[],[],[]⟩ [(129,.int .i64 4,true)]:=
       ⟨rfl,rfl,rfl,rfl,Qa (Qq Dd (.inl rfl) _) (Qa (Xl hB (i:=0) Dd hbn.symm) (Qa (Qs (hx 3 f Dd Dw) (.inr rfl) rfl Qw k2 (.inl rfl) Dd) Q7)),(Nz ⟨t0,hcons⟩),Ql,Qk,(eqC (Qg (i:=0) Dd k1) eqN),Qj,Jv h1 h2 h3 h4 h5⟩
      exact D.round rfl rfl I (fin:=.again 2 (.nd (.int .i64 33) (tk 130) (.int .u64 0) (tk 132) [.ab (tk 256) (tk 257) (tk 258) (tk 259) 1,.ab (tk 260) (tk 261) (tk 262) (tk 263) 9])) Dk fun w' a' I'=>ih _ k w' a' Dw h I'
   ·
    rw[if_neg Dd] at h;obtain⟨t0,hcons⟩:=Zm Dd k1;cases k2:Xj E.len f (4+1) hd l.tail with
    |none=>rw[k2] at h;cases h
    |some y=>
     rw[k2] at h;cases y with
     |error pl=>
      cases h;have D:X0 (Q9 b q r 2) b E (Kt E.len hd (SX (Q9 b q r 2) w1) [l,l.tail] [.mk xk xx xn xp xc] [] [(pl:Int)]) hd w1 w [Qp 0 (tk 129) (tk 321),Xk 0 4,Xq 37 [.int .i64 5] 1 2 (tk 321)] ⟨[(0,1)],[],[],[322]⟩ [(129,.int .i64 4,true)]:=
       ⟨rfl,rfl,rfl,rfl,Qa (Qq Dd (.inl rfl) _) (Qa (Xl hB (i:=0) Dd hbn.symm) (Qa (Zf (hx 4 f Dd Dw) (.inr rfl) rfl Qw k2 Dd rfl) Q7)),(Nz ⟨t0,hcons⟩),Ql,Qk,(eqC (Qg (i:=0) Dd k1) eqN),(V6 ⟨pl,rfl⟩ Qj),Jv h1 h2 h3 h4 h5⟩
      exact D.round rfl rfl I (fin:=.pan (tk 322)) Dk hQ
     |ok y=>
      obtain⟨⟨yk,yx,yn,yp,yc⟩,k⟩:=y;dsimp only [andThen] at h;rw[Q5,Xc] at h;have D:X0 (Q9 b q r 2) b E (Kt E.len hd (SX (Q9 b q r 2) w1) [l,l.tail,k] [.mk xk xx xn xp xc,.mk yk yx yn yp yc] [] []) hd w1 w [Qp 0 (tk 129) (tk 321),Xk 0 4,Qm 37 [.int .i64 5] 1 2 (tk 260) 1 (tk 321)] ⟨[(0,1)],[],[],[]⟩ [(129,.int .i64 4,true)]:=
       ⟨rfl,rfl,rfl,rfl,Qa (Qq Dd (.inl rfl) _) (Qa (Xl hB (i:=0) Dd hbn.symm) (Qa (Qs (hx 4 f Dd Dw) (.inr rfl) rfl Qw k2 (.inl rfl) Dd) Q7)),(Nz ⟨t0,hcons⟩),Ql,Qk,(eqC (Qg (i:=0) Dd k1) eqN),Qj,Jv h1 h2 h3 h4 h5⟩
      exact D.round rfl rfl I (fin:=.again 2 (.nd (.int .i64 33) (tk 130) (.int .u64 0) (tk 132) [.ab (tk 256) (tk 257) (tk 258) (tk 259) 1,.ab (tk 260) (tk 261) (tk 262) (tk 263) 9])) Dk fun w' a' I'=>ih _ k w' a' Dw h I'
   ·
    rw[if_neg Dd] at h;obtain⟨t0,hcons⟩:=Zm Dd k1;cases k2:Xj E.len f (5+1) hd l.tail with
    |none=>rw[k2] at h;cases h
    |some y=>
     rw[k2] at h;cases y with
     |error pl=>
      cases h;have D:X0 (Q9 b q r 2) b E (Kt E.len hd (SX (Q9 b q r 2) w1) [l,l.tail] [.mk xk xx xn xp xc] [] [(pl:Int)]) hd w1 w [Qp 0 (tk 129) (tk 321),Xk 0 5,Xq 37 [.int .i64 6] 1 2 (tk 321)] ⟨[(0,1)],[],[],[322]⟩ [(129,.int .i64 4,true)]:=
       ⟨rfl,rfl,rfl,rfl,Qa (Qq Dd (.inl rfl) _) (Qa (Xl hB (i:=0) Dd hbn.symm) (Qa (Zf (hx 5 f Dd Dw) (.inr rfl) rfl Qw k2 Dd rfl) Q7)),(Nz ⟨t0,hcons⟩),Ql,Qk,(eqC (Qg (i:=0) Dd k1) eqN),(V6 ⟨pl,rfl⟩ Qj),Jv h1 h2 h3 h4 h5⟩
      exact D.round rfl rfl I (fin:=.pan (tk 322)) Dk hQ
     |ok y=>
      obtain⟨⟨yk,yx,yn,yp,yc⟩,k⟩:=y;dsimp only [andThen] at h;rw[Q5,Xc] at h;have D:X0 (Q9 b q r 2) b E (Kt E.len hd (SX (Q9 b q r 2) w1) [l,l.tail,k] [.mk xk xx xn xp xc,.mk yk yx yn yp yc] [] []) hd w1 w [Qp 0 (tk 129) (tk 321),Xk 0 5,Qm 37 [.int .i64 6] 1 2 (tk 260) 1 (tk 321)] ⟨[(0,1)],[],[],[]⟩ [(129,.int .i64 4,true)]:=
       ⟨rfl,rfl,rfl,rfl,Qa (Qq Dd (.inl rfl) _) (Qa (Xl hB (i:=0) Dd hbn.symm) (Qa (Qs (hx 5 f Dd Dw) (.inr rfl) rfl Qw k2 (.inl rfl) Dd) Q7)),(Nz ⟨t0,hcons⟩),Ql,Qk,(eqC (Qg (i:=0) Dd k1) eqN),Qj,Jv h1 h2 h3 h4 h5⟩
      exact D.round rfl rfl I (fin:=.again 2 (.nd (.int .i64 33) (tk 130) (.int .u64 0) (tk 132) [.ab (tk 256) (tk 257) (tk 258) (tk 259) 1,.ab (tk 260) (tk 261) (tk 262) (tk 263) 9])) Dk fun w' a' I'=>ih _ k w' a' Dw h I'
theorem Qpf {b q r F0:Nat}{E:Env}{hd:Bool}{w1:World}(h1:b<q)(h2:b<r)(h3:q≠r)(h4:b<w1.heap.size)(h5:r<w1.heap.size)(hB:J4 b E)(hx:∀ (k g:Nat),k≤5→g<F0→Reads b E hd 37 #[rp b,.int .i64 ((k+1:Nat):Int)] (Xj E.len g (k+1) hd)){Q:Exit→Act→World→Prop}{res:Except Nat (Tr×List Tok)}
  (hQ:match res with
   | .ok (t,l')=>∀ w' a',Qp3 (Q9 b q r 3) b E hd w1 t l' w' a'→Q .ret a' w'
   | .error p=>∀ w' a',Ua b q r w1 w'→a'.defers=[]→Q (.panic [{ v:=Vw p,recovered:=false }]) a' w'):
  ∀ (f:Nat) (x:Tr) (l:List Tok) (w:World) (a:Act),f≤F0→Zi E.len f 3 hd x l=some res→Qp2 (Q9 b q r 3) b E hd w1 x l w a→Vl Tryz.prog Jc Q a w:=by
 intro f;induction f with
 |zero=>intro x l w a _ h;rw[Zi] at h;cases h
 |succ f ih=>
  intro x l w a hf h I;rw[Zi] at h;obtain⟨xk,xx,xn,xp,xc⟩:=x;refine Zu ?_;generalize hbz:(if (Xn l==4)=true then Z9 (Zo l) else 0)=bz at h;cases k1:Xn l==4 with
  |false=>
   obtain rfl:bz=0:=by rw[←hbz,k1];rfl
   rw[if_pos Dd] at h;cases h;have D:X0 (Q9 b q r 3) b E (Kt E.len hd (SX (Q9 b q r 3) w1) [l] [.mk xk xx xn xp xc] [] []) hd w1 w [Qp 0 (tk 129) (tk 321)] ⟨[],[],[],[]⟩ [(129,.int .i64 4,false)]:=
    ⟨rfl,rfl,rfl,rfl,Qa (Qq Dd (.inl rfl) _) Q7,Dx,Ql,Qk,(eqC (Qg (i:=0) Dd k1) eqN),Qj,Jv h1 h2 h3 h4 h5⟩
   exact D.round rfl rfl I (fin:=.ret 0 (.ab (tk 256) (tk 257) (tk 258) (tk 259) 1)) Dk hQ
  |true=>
   obtain rfl:bz=Z9 (Zo l):=by rw[←hbz,k1];rfl
   obtain⟨bn,hbn⟩:∃ n,n=Z9 (Zo l):=⟨_,rfl⟩;have hble:=Ea (Zo l);rw[←hbn] at h hble;rcases (by omega:bn=0∨bn=1∨bn=2∨bn=3∨bn=4∨bn=5) with rfl|rfl|rfl|rfl|rfl|rfl
   ·
    rw[if_pos Dd] at h;cases h;have D:X0 (Q9 b q r 3) b E (Kt E.len hd (SX (Q9 b q r 3) w1) [l] [.mk xk xx xn xp xc] [] []) hd w1 w [Qp 0 (tk 129) (tk 321),Xk 0 0] ⟨[],[],[],[]⟩ [(129,.int .i64 4,true)]:=
     ⟨rfl,rfl,rfl,rfl,Qa (Qq Dd (.inl rfl) _) (Qa (Xl hB (i:=0) Dd hbn.symm) Q7),Dx,Ql,Qk,(eqC (Qg (i:=0) Dd k1) eqN),Qj,Jv h1 h2 h3 h4 h5⟩
    exact D.round rfl rfl I (fin:=.ret 0 (.ab (tk 256) (tk 257) (tk 258) (tk 259) 1)) Dk hQ
   ·
    rw[if_pos Dd] at h;cases h;have D:X0 (Q9 b q r 3) b E (Kt E.len hd (SX (Q9 b q r 3) w1) [l] [.mk xk xx xn xp xc] [] []) hd w1 w [Qp 0 (tk 129) (tk 321),Xk 0 1] ⟨[],[],[],[]⟩ [(129,.int .i64 4,true)]:=
     ⟨rfl,rfl,rfl,rfl,Qa (Qq Dd (.inl rfl) _) (Qa (Xl hB (i:=0) Dd hbn.symm) Q7),Dx,Ql,Qk,(eqC (Qg (i:=0) Dd k1) eqN),Qj,Jv h1 h2 h3 h4 h5⟩
    exact D.round rfl rfl I (fin:=.ret 0 (.ab (tk 256) (tk 257) (tk 258) (tk 259) 1)) Dk hQ
   ·
    rw[if_pos Dd] at h;cases h;have D:X0 (Q9 b q r 3) b E (Kt E.len hd (SX (Q9 b q r 3) w1) [l] [.mk xk xx xn xp xc] [] []) hd w1 w [Qp 0 (tk 129) (tk 321),Xk 0 2] ⟨[],[],[],[]⟩ [(129,.int .i64 4,true)]:=
     ⟨rfl,rfl,rfl,rfl,Qa (Qq Dd (.inl rfl) _) (Qa (Xl hB (i:=0) Dd hbn.symm) Q7),Dx,Ql,Qk,(eqC (Qg (i:=0) Dd k1) eqN),Qj,Jv h1 h2 h3 h4 h5⟩
    exact D.round rfl rfl I (fin:=.ret 0 (.ab (tk 256) (tk 257) (tk 258) (tk 259) 1)) Dk hQ
   ·
    rw[if_neg Dd] at h;obtain⟨t0,hcons⟩:=Zm Dd k1;cases k2:Xj E.len f (3+1) hd l.tail with
    |none=>rw[k2] at h;cases h
    |some y=>
     rw[k2] at h;cases y with
     |error pl=>
      cases h;have D:X0 (Q9 b q r 3) b E (Kt E.len hd (SX (Q9 b q r 3) w1) [l,l.tail] [.mk xk xx xn xp xc] [] [(pl:Int)]) hd w1 w [Qp 0 (tk 129) (tk 321),Xk 0 3,Xq 37 [.int .i64 4] 1 2 (tk 321)] ⟨[(0,1)],[],[],[322]⟩ [(129,.int .i64 4,true)]:=
       ⟨rfl,rfl,rfl,rfl,Qa (Qq Dd (.inl rfl) _) (Qa (Xl hB (i:=0) Dd hbn.symm) (Qa (Zf (hx 3 f Dd Dw) (.inr rfl) rfl Qw k2 Dd rfl) Q7)),(Nz ⟨t0,hcons⟩),Ql,Qk,(eqC (Qg (i:=0) Dd k1) eqN),(V6 ⟨pl,rfl⟩ Qj),Jv h1 h2 h3 h4 h5⟩
      exact D.round rfl rfl I (fin:=.pan (tk 322)) Dk hQ
     |ok y=>
      obtain⟨⟨yk,yx,yn,yp,yc⟩,k⟩:=y;dsimp only [andThen] at h;rw[Q5,Xc] at h;have D:X0 (Q9 b q r 3) b E (Kt E.len hd (SX (Q9 b q r 3) w1) [l,l.tail,k] [.mk xk xx xn xp xc,.mk yk yx yn yp yc] [] []) hd w1 w [Qp 0 (tk 129) (tk 321),Xk 0 3,Qm 37 [.int .i64 4] 1 2 (tk 260) 1 (tk 321)] ⟨[(0,1)],[],[],[]⟩ [(129,.int .i64 4,true)]:=
       ⟨rfl,rfl,rfl,rfl,Qa (Qq Dd (.inl rfl) _) (Qa (Xl hB (i:=0) Dd hbn.symm) (Qa (Qs (hx 3 f Dd Dw) (.inr rfl) rfl Qw k2 (.inl rfl) Dd) Q7)),(Nz ⟨t0,hcons⟩),Ql,Qk,(eqC (Qg (i:=0) Dd k1) eqN),Qj,Jv h1 h2 h3 h4 h5⟩
      exact D.round rfl rfl I (fin:=.again 2 (.nd (.int .i64 33) (tk 130) (.int .u64 0) (tk 132) [.ab (tk 256) (tk 257) (tk 258) (tk 259) 1,.ab (tk 260) (tk 261) (tk 262) (tk 263) 9])) Dk fun w' a' I'=>ih _ k w' a' Dw h I'
   ·
    rw[if_neg Dd] at h;obtain⟨t0,hcons⟩:=Zm Dd k1;cases k2:Xj E.len f (4+1) hd l.tail with
    |none=>rw[k2] at h;cases h
    |some y=>
     rw[k2] at h;cases y with
     |error pl=>
      cases h;have D:X0 (Q9 b q r 3) b E (Kt E.len hd (SX (Q9 b q r 3) w1) [l,l.tail] [.mk xk xx xn xp xc] [] [(pl:Int)]) hd w1 w [Qp 0 (tk 129) (tk 321),Xk 0 4,Xq 37 [.int .i64 5] 1 2 (tk 321)] ⟨[(0,1)],[],[],[322]⟩ [(129,.int .i64 4,true)]:=
       ⟨rfl,rfl,rfl,rfl,Qa (Qq Dd (.inl rfl) _) (Qa (Xl hB (i:=0) Dd hbn.symm) (Qa (Zf (hx 4 f Dd Dw) (.inr rfl) rfl Qw k2 Dd rfl) Q7)),(Nz ⟨t0,hcons⟩),Ql,Qk,(eqC (Qg (i:=0) Dd k1) eqN),(V6 ⟨pl,rfl⟩ Qj),Jv h1 h2 h3 h4 h5⟩
      exact D.round rfl rfl I (fin:=.pan (tk 322)) Dk hQ
     |ok y=>
      obtain⟨⟨yk,yx,yn,yp,yc⟩,k⟩:=y;dsimp only [andThen] at h;rw[Q5,Xc] at h;have D:X0 (Q9 b q r 3) b E (Kt E.len hd (SX (Q9 b q r 3) w1) [l,l.tail,k] [.mk xk xx xn xp xc,.mk yk yx yn yp yc] [] []) hd w1 w [Qp 0 (tk 129) (tk 321),Xk 0 4,Qm 37 [.int .i64 5] 1 2 (tk 260) 1 (tk 321)] ⟨[(0,1)],[],[],[]⟩ [(129,.int .i64 4,true)]:=
       ⟨rfl,rfl,rfl,rfl,Qa (Qq Dd (.inl rfl) _) (Qa (Xl hB (i:=0) Dd hbn.symm) (Qa (Qs (hx 4 f Dd Dw) (.inr rfl) rfl Qw k2 (.inl rfl) Dd) Q7)),(Nz ⟨t0,hcons⟩),Ql,Qk,(eqC (Qg (i:=0) Dd k1) eqN),Qj,Jv h1 h2 h3 h4 h5⟩
      exact D.round rfl rfl I (fin:=.again 2 (.nd (.int .i64 33) (tk 130) (.int .u64 0) (tk 132) [.ab (tk 256) (tk 257) (tk 258) (tk 259) 1,.ab (tk 260) (tk 261) (tk 262) (tk 263) 9])) Dk fun w' a' I'=>ih _ k w' a' Dw h I'
   ·
    rw[if_neg Dd] at h;obtain⟨t0,hcons⟩:=Zm Dd k1;cases k2:Xj E.len f (5+1) hd l.tail with
    |none=>rw[k2] at h;cases h
    |some y=>
     rw[k2] at h;cases y with
     |error pl=>
      cases h;have D:X0 (Q9 b q r 3) b E (Kt E.len hd (SX (Q9 b q r 3) w1) [l,l.tail] [.mk xk xx xn xp xc] [] [(pl:Int)]) hd w1 w [Qp 0 (tk 129) (tk 321),Xk 0 5,Xq 37 [.int .i64 6] 1 2 (tk 321)] ⟨[(0,1)],[],[],[322]⟩ [(129,.int .i64 4,true)]:=
       ⟨rfl,rfl,rfl,rfl,Qa (Qq Dd (.inl rfl) _) (Qa (Xl hB (i:=0) Dd hbn.symm) (Qa (Zf (hx 5 f Dd Dw) (.inr rfl) rfl Qw k2 Dd rfl) Q7)),(Nz ⟨t0,hcons⟩),Ql,Qk,(eqC (Qg (i:=0) Dd k1) eqN),(V6 ⟨pl,rfl⟩ Qj),Jv h1 h2 h3 h4 h5⟩
      exact D.round rfl rfl I (fin:=.pan (tk 322)) Dk hQ
     |ok y=>
      obtain⟨⟨yk,yx,yn,yp,yc⟩,k⟩:=y;dsimp only [andThen] at h;rw[Q5,Xc] at h;have D:X0 (Q9 b q r 3) b E (Kt E.len hd (SX (Q9 b q r 3) w1) [l,l.tail,k] [.mk xk xx xn xp xc,.mk yk yx yn yp yc] [] []) hd w1 w [Qp 0 (tk 129) (tk 321),Xk 0 5,Qm 37 [.int .i64 6] 1 2 (tk 260) 1 (tk 321)] ⟨[(0,1)],[],[],[]⟩ [(129,.int .i64 4,true)]:=
       ⟨rfl,rfl,rfl,rfl,Qa (Qq Dd (.inl rfl) _) (Qa (Xl hB (i:=0) Dd hbn.symm) (Qa (Qs (hx 5 f Dd Dw) (.inr rfl) rfl Qw k2 (.inl rfl) Dd) Q7)),(Nz ⟨t0,hcons⟩),Ql,Qk,(eqC (Qg (i:=0) Dd k1) eqN),Qj,Jv h1 h2 h3 h4 h5⟩
      exact D.round rfl rfl I (fin:=.again 2 (.nd (.int .i64 33) (tk 130) (.int .u64 0) (tk 132) [.ab (tk 256) (tk 257) (tk 258) (tk 259) 1,.ab (tk 260) (tk 261) (tk 262) (tk 263) 9])) Dk fun w' a' I'=>ih _ k w' a' Dw h I'
theorem Qpe {b q r F0:Nat}{E:Env}{hd:Bool}{w1:World}(h1:b<q)(h2:b<r)(h3:q≠r)(h4:b<w1.heap.size)(h5:r<w1.heap.size)(hB:J4 b E)(hx:∀ (k g:Nat),k≤5→g<F0→Reads b E hd 37 #[rp b,.int .i64 ((k+1:Nat):Int)] (Xj E.len g (k+1) hd)){Q:Exit→Act→World→Prop}{res:Except Nat (Tr×List Tok)}
  (hQ:match res with
   | .ok (t,l')=>∀ w' a',Qp3 (Q9 b q r 4) b E hd w1 t l' w' a'→Q .ret a' w'
   | .error p=>∀ w' a',Ua b q r w1 w'→a'.defers=[]→Q (.panic [{ v:=Vw p,recovered:=false }]) a' w'):
  ∀ (f:Nat) (x:Tr) (l:List Tok) (w:World) (a:Act),f≤F0→Zi E.len f 4 hd x l=some res→Qp2 (Q9 b q r 4) b E hd w1 x l w a→Vl Tryz.prog Jc Q a w:=by
 intro f;induction f with
 |zero=>intro x l w a _ h;rw[Zi] at h;cases h
 |succ f ih=>
  intro x l w a hf h I;rw[Zi] at h;obtain⟨xk,xx,xn,xp,xc⟩:=x;refine Zu ?_;generalize hbz:(if (Xn l==4)=true then Z9 (Zo l) else 0)=bz at h;cases k1:Xn l==4 with
  |false=>
   obtain rfl:bz=0:=by rw[←hbz,k1];rfl
   rw[if_pos Dd] at h;cases h;have D:X0 (Q9 b q r 4) b E (Kt E.len hd (SX (Q9 b q r 4) w1) [l] [.mk xk xx xn xp xc] [] []) hd w1 w [Qp 0 (tk 129) (tk 321)] ⟨[],[],[],[]⟩ [(129,.int .i64 4,false)]:=
    ⟨rfl,rfl,rfl,rfl,Qa (Qq Dd (.inl rfl) _) Q7,Dx,Ql,Qk,(eqC (Qg (i:=0) Dd k1) eqN),Qj,Jv h1 h2 h3 h4 h5⟩
   exact D.round rfl rfl I (fin:=.ret 0 (.ab (tk 256) (tk 257) (tk 258) (tk 259) 1)) Dk hQ
  |true=>
   obtain rfl:bz=Z9 (Zo l):=by rw[←hbz,k1];rfl
   obtain⟨bn,hbn⟩:∃ n,n=Z9 (Zo l):=⟨_,rfl⟩;have hble:=Ea (Zo l);rw[←hbn] at h hble;rcases (by omega:bn=0∨bn=1∨bn=2∨bn=3∨bn=4∨bn=5) with rfl|rfl|rfl|rfl|rfl|rfl
   ·
    rw[if_pos Dd] at h;cases h;have D:X0 (Q9 b q r 4) b E (Kt E.len hd (SX (Q9 b q r 4) w1) [l] [.mk xk xx xn xp xc] [] []) hd w1 w [Qp 0 (tk 129) (tk 321),Xk 0 0] ⟨[],[],[],[]⟩ [(129,.int .i64 4,true)]:=
     ⟨rfl,rfl,rfl,rfl,Qa (Qq Dd (.inl rfl) _) (Qa (Xl hB (i:=0) Dd hbn.symm) Q7),Dx,Ql,Qk,(eqC (Qg (i:=0) Dd k1) eqN),Qj,Jv h1 h2 h3 h4 h5⟩
    exact D.round rfl rfl I (fin:=.ret 0 (.ab (tk 256) (tk 257) (tk 258) (tk 259) 1)) Dk hQ
   ·
    rw[if_pos Dd] at h;cases h;have D:X0 (Q9 b q r 4) b E (Kt E.len hd (SX (Q9 b q r 4) w1) [l] [.mk xk xx xn xp xc] [] []) hd w1 w [Qp 0 (tk 129) (tk 321),Xk 0 1] ⟨[],[],[],[]⟩ [(129,.int .i64 4,true)]:=
     ⟨rfl,rfl,rfl,rfl,Qa (Qq Dd (.inl rfl) _) (Qa (Xl hB (i:=0) Dd hbn.symm) Q7),Dx,Ql,Qk,(eqC (Qg (i:=0) Dd k1) eqN),Qj,Jv h1 h2 h3 h4 h5⟩
    exact D.round rfl rfl I (fin:=.ret 0 (.ab (tk 256) (tk 257) (tk 258) (tk 259) 1)) Dk hQ
   ·
    rw[if_pos Dd] at h;cases h;have D:X0 (Q9 b q r 4) b E (Kt E.len hd (SX (Q9 b q r 4) w1) [l] [.mk xk xx xn xp xc] [] []) hd w1 w [Qp 0 (tk 129) (tk 321),Xk 0 2] ⟨[],[],[],[]⟩ [(129,.int .i64 4,true)]:=
     ⟨rfl,rfl,rfl,rfl,Qa (Qq Dd (.inl rfl) _) (Qa (Xl hB (i:=0) Dd hbn.symm) Q7),Dx,Ql,Qk,(eqC (Qg (i:=0) Dd k1) eqN),Qj,Jv h1 h2 h3 h4 h5⟩
    exact D.round rfl rfl I (fin:=.ret 0 (.ab (tk 256) (tk 257) (tk 258) (tk 259) 1)) Dk hQ
   ·
    rw[if_pos Dd] at h;cases h;have D:X0 (Q9 b q r 4) b E (Kt E.len hd (SX (Q9 b q r 4) w1) [l] [.mk xk xx xn xp xc] [] []) hd w1 w [Qp 0 (tk 129) (tk 321),Xk 0 3] ⟨[],[],[],[]⟩ [(129,.int .i64 4,true)]:=
     ⟨rfl,rfl,rfl,rfl,Qa (Qq Dd (.inl rfl) _) (Qa (Xl hB (i:=0) Dd hbn.symm) Q7),Dx,Ql,Qk,(eqC (Qg (i:=0) Dd k1) eqN),Qj,Jv h1 h2 h3 h4 h5⟩
    exact D.round rfl rfl I (fin:=.ret 0 (.ab (tk 256) (tk 257) (tk 258) (tk 259) 1)) Dk hQ
   ·
    rw[if_neg Dd] at h;obtain⟨t0,hcons⟩:=Zm Dd k1;cases k2:Xj E.len f (4+1) hd l.tail with
    |none=>rw[k2] at h;cases h
    |some y=>
     rw[k2] at h;cases y with
     |error pl=>
      cases h;have D:X0 (Q9 b q r 4) b E (Kt E.len hd (SX (Q9 b q r 4) w1) [l,l.tail] [.mk xk xx xn xp xc] [] [(pl:Int)]) hd w1 w [Qp 0 (tk 129) (tk 321),Xk 0 4,Xq 37 [.int .i64 5] 1 2 (tk 321)] ⟨[(0,1)],[],[],[322]⟩ [(129,.int .i64 4,true)]:=
       ⟨rfl,rfl,rfl,rfl,Qa (Qq Dd (.inl rfl) _) (Qa (Xl hB (i:=0) Dd hbn.symm) (Qa (Zf (hx 4 f Dd Dw) (.inr rfl) rfl Qw k2 Dd rfl) Q7)),(Nz ⟨t0,hcons⟩),Ql,Qk,(eqC (Qg (i:=0) Dd k1) eqN),(V6 ⟨pl,rfl⟩ Qj),Jv h1 h2 h3 h4 h5⟩
      exact D.round rfl rfl I (fin:=.pan (tk 322)) Dk hQ
     |ok y=>
      obtain⟨⟨yk,yx,yn,yp,yc⟩,k⟩:=y;dsimp only [andThen] at h;rw[Q5,Xc] at h;have D:X0 (Q9 b q r 4) b E (Kt E.len hd (SX (Q9 b q r 4) w1) [l,l.tail,k] [.mk xk xx xn xp xc,.mk yk yx yn yp yc] [] []) hd w1 w [Qp 0 (tk 129) (tk 321),Xk 0 4,Qm 37 [.int .i64 5] 1 2 (tk 260) 1 (tk 321)] ⟨[(0,1)],[],[],[]⟩ [(129,.int .i64 4,true)]:=
       ⟨rfl,rfl,rfl,rfl,Qa (Qq Dd (.inl rfl) _) (Qa (Xl hB (i:=0) Dd hbn.symm) (Qa (Qs (hx 4 f Dd Dw) (.inr rfl) rfl Qw k2 (.inl rfl) Dd) Q7)),(Nz ⟨t0,hcons⟩),Ql,Qk,(eqC (Qg (i:=0) Dd k1) eqN),Qj,Jv h1 h2 h3 h4 h5⟩
      exact D.round rfl rfl I (fin:=.again 2 (.nd (.int .i64 33) (tk 130) (.int .u64 0) (tk 132) [.ab (tk 256) (tk 257) (tk 258) (tk 259) 1,.ab (tk 260) (tk 261) (tk 262) (tk 263) 9])) Dk fun w' a' I'=>ih _ k w' a' Dw h I'
   ·
    rw[if_neg Dd] at h;obtain⟨t0,hcons⟩:=Zm Dd k1;cases k2:Xj E.len f (5+1) hd l.tail with
    |none=>rw[k2] at h;cases h
    |some y=>
     rw[k2] at h;cases y with
     |error pl=>
      cases h;have D:X0 (Q9 b q r 4) b E (Kt E.len hd (SX (Q9 b q r 4) w1) [l,l.tail] [.mk xk xx xn xp xc] [] [(pl:Int)]) hd w1 w [Qp 0 (tk 129) (tk 321),Xk 0 5,Xq 37 [.int .i64 6] 1 2 (tk 321)] ⟨[(0,1)],[],[],[322]⟩ [(129,.int .i64 4,true)]:=
       ⟨rfl,rfl,rfl,rfl,Qa (Qq Dd (.inl rfl) _) (Qa (Xl hB (i:=0) Dd hbn.symm) (Qa (Zf (hx 5 f Dd Dw) (.inr rfl) rfl Qw k2 Dd rfl) Q7)),(Nz ⟨t0,hcons⟩),Ql,Qk,(eqC (Qg (i:=0) Dd k1) eqN),(V6 ⟨pl,rfl⟩ Qj),Jv h1 h2 h3 h4 h5⟩
      exact D.round rfl rfl I (fin:=.pan (tk 322)) Dk hQ
     |ok y=>
      obtain⟨⟨yk,yx,yn,yp,yc⟩,k⟩:=y;dsimp only [andThen] at h;rw[Q5,Xc] at h;have D:X0 (Q9 b q r 4) b E (Kt E.len hd (SX (Q9 b q r 4) w1) [l,l.tail,k] [.mk xk xx xn xp xc,.mk yk yx yn yp yc] [] []) hd w1 w [Qp 0 (tk 129) (tk 321),Xk 0 5,Qm 37 [.int .i64 6] 1 2 (tk 260) 1 (tk 321)] ⟨[(0,1)],[],[],[]⟩ [(129,.int .i64 4,true)]:=
       ⟨rfl,rfl,rfl,rfl,Qa (Qq Dd (.inl rfl) _) (Qa (Xl hB (i:=0) Dd hbn.symm) (Qa (Qs (hx 5 f Dd Dw) (.inr rfl) rfl Qw k2 (.inl rfl) Dd) Q7)),(Nz ⟨t0,hcons⟩),Ql,Qk,(eqC (Qg (i:=0) Dd k1) eqN),Qj,Jv h1 h2 h3 h4 h5⟩
      exact D.round rfl rfl I (fin:=.again 2 (.nd (.int .i64 33) (tk 130) (.int .u64 0) (tk 132) [.ab (tk 256) (tk 257) (tk 258) (tk 259) 1,.ab (tk 260) (tk 261) (tk 262) (tk 263) 9])) Dk fun w' a' I'=>ih _ k w' a' Dw h I'
theorem Qpd {b q r F0:Nat}{E:Env}{hd:Bool}{w1:World}(h1:b<q)(h2:b<r)(h3:q≠r)(h4:b<w1.heap.size)(h5:r<w1.heap.size)(hB:J4 b E)(hx:∀ (k g:Nat),k≤5→g<F0→Reads b E hd 37 #[rp b,.int .i64 ((k+1:Nat):Int)] (Xj E.len g (k+1) hd)){Q:Exit→Act→World→Prop}{res:Except Nat (Tr×List Tok)}
  (hQ:match res with
   | .ok (t,l')=>∀ w' a',Qp3 (Q9 b q r 5) b E hd w1 t l' w' a'→Q .ret a' w'
   | .error p=>∀ w' a',Ua b q r w1 w'→a'.defers=[]→Q (.panic [{ v:=Vw p,recovered:=false }]) a' w'):
  ∀ (f:Nat) (x:Tr) (l:List Tok) (w:World) (a:Act),f≤F0→Zi E.len f 5 hd x l=some res→Qp2 (Q9 b q r 5) b E hd w1 x l w a→Vl Tryz.prog Jc Q a w:=by
 intro f;induction f with
 |zero=>intro x l w a _ h;rw[Zi] at h;cases h
 |succ f ih=>
  intro x l w a hf h I;rw[Zi] at h;obtain⟨xk,xx,xn,xp,xc⟩:=x;refine Zu ?_;generalize hbz:(if (Xn l==4)=true then Z9 (Zo l) else 0)=bz at h;cases k1:Xn l==4 with
  |false=>
   obtain rfl:bz=0:=by rw[←hbz,k1];rfl
   rw[if_pos Dd] at h;cases h;have D:X0 (Q9 b q r 5) b E (Kt E.len hd (SX (Q9 b q r 5) w1) [l] [.mk xk xx xn xp xc] [] []) hd w1 w [Qp 0 (tk 129) (tk 321)] ⟨[],[],[],[]⟩ [(129,.int .i64 4,false)]:=
    ⟨rfl,rfl,rfl,rfl,Qa (Qq Dd (.inl rfl) _) Q7,Dx,Ql,Qk,(eqC (Qg (i:=0) Dd k1) eqN),Qj,Jv h1 h2 h3 h4 h5⟩
   exact D.round rfl rfl I (fin:=.ret 0 (.ab (tk 256) (tk 257) (tk 258) (tk 259) 1)) Dk hQ
  |true=>
   obtain rfl:bz=Z9 (Zo l):=by rw[←hbz,k1];rfl
   obtain⟨bn,hbn⟩:∃ n,n=Z9 (Zo l):=⟨_,rfl⟩;have hble:=Ea (Zo l);rw[←hbn] at h hble;rcases (by omega:bn=0∨bn=1∨bn=2∨bn=3∨bn=4∨bn=5) with rfl|rfl|rfl|rfl|rfl|rfl
   ·
    rw[if_pos Dd] at h;cases h;have D:X0 (Q9 b q r 5) b E (Kt E.len hd (SX (Q9 b q r 5) w1) [l] [.mk xk xx xn xp xc] [] []) hd w1 w [Qp 0 (tk 129) (tk 321),Xk 0 0] ⟨[],[],[],[]⟩ [(129,.int .i64 4,true)]:=
     ⟨rfl,rfl,rfl,rfl,Qa (Qq Dd (.inl rfl) _) (Qa (Xl hB (i:=0) Dd hbn.symm) Q7),Dx,Ql,Qk,(eqC (Qg (i:=0) Dd k1) eqN),Qj,Jv h1 h2 h3 h4 h5⟩
    exact D.round rfl rfl I (fin:=.ret 0 (.ab (tk 256) (tk 257) (tk 258) (tk 259) 1)) Dk hQ
   ·
    rw[if_pos Dd] at h;cases h;have D:X0 (Q9 b q r 5) b E (Kt E.len hd (SX (Q9 b q r 5) w1) [l] [.mk xk xx xn xp xc] [] []) hd w1 w [Qp 0 (tk 129) (tk 321),Xk 0 1] ⟨[],[],[],[]⟩ [(129,.int .i64 4,true)]:=
     ⟨rfl,rfl,rfl,rfl,Qa (Qq Dd (.inl rfl) _) (Qa (Xl hB (i:=0) Dd hbn.symm) Q7),Dx,Ql,Qk,(eqC (Qg (i:=0) Dd k1) eqN),Qj,Jv h1 h2 h3 h4 h5⟩
    exact D.round rfl rfl I (fin:=.ret 0 (.ab (tk 256) (tk 257) (tk 258) (tk 259) 1)) Dk hQ
   ·
    rw[if_pos Dd] at h;cases h;have D:X0 (Q9 b q r 5) b E (Kt E.len hd (SX (Q9 b q r 5) w1) [l] [.mk xk xx xn xp xc] [] []) hd w1 w [Qp 0 (tk 129) (tk 321),Xk 0 2] ⟨[],[],[],[]⟩ [(129,.int .i64 4,true)]:=
     ⟨rfl,rfl,rfl,rfl,Qa (Qq Dd (.inl rfl) _) (Qa (Xl hB (i:=0) Dd hbn.symm) Q7),Dx,Ql,Qk,(eqC (Qg (i:=0) Dd k1) eqN),Qj,Jv h1 h2 h3 h4 h5⟩
    exact D.round rfl rfl I (fin:=.ret 0 (.ab (tk 256) (tk 257) (tk 258) (tk 259) 1)) Dk hQ
   ·
    rw[if_pos Dd] at h;cases h;have D:X0 (Q9 b q r 5) b E (Kt E.len hd (SX (Q9 b q r 5) w1) [l] [.mk xk xx xn xp xc] [] []) hd w1 w [Qp 0 (tk 129) (tk 321),Xk 0 3] ⟨[],[],[],[]⟩ [(129,.int .i64 4,true)]:=
     ⟨rfl,rfl,rfl,rfl,Qa (Qq Dd (.inl rfl) _) (Qa (Xl hB (i:=0) Dd hbn.symm) Q7),Dx,Ql,Qk,(eqC (Qg (i:=0) Dd k1) eqN),Qj,Jv h1 h2 h3 h4 h5⟩
    exact D.round rfl rfl I (fin:=.ret 0 (.ab (tk 256) (tk 257) (tk 258) (tk 259) 1)) Dk hQ
   ·
    rw[if_pos Dd] at h;cases h;have D:X0 (Q9 b q r 5) b E (Kt E.len hd (SX (Q9 b q r 5) w1) [l] [.mk xk xx xn xp xc] [] []) hd w1 w [Qp 0 (tk 129) (tk 321),Xk 0 4] ⟨[],[],[],[]⟩ [(129,.int .i64 4,true)]:=
     ⟨rfl,rfl,rfl,rfl,Qa (Qq Dd (.inl rfl) _) (Qa (Xl hB (i:=0) Dd hbn.symm) Q7),Dx,Ql,Qk,(eqC (Qg (i:=0) Dd k1) eqN),Qj,Jv h1 h2 h3 h4 h5⟩
    exact D.round rfl rfl I (fin:=.ret 0 (.ab (tk 256) (tk 257) (tk 258) (tk 259) 1)) Dk hQ
   ·
    rw[if_neg Dd] at h;obtain⟨t0,hcons⟩:=Zm Dd k1;cases k2:Xj E.len f (5+1) hd l.tail with
    |none=>rw[k2] at h;cases h
    |some y=>
     rw[k2] at h;cases y with
     |error pl=>
      cases h;have D:X0 (Q9 b q r 5) b E (Kt E.len hd (SX (Q9 b q r 5) w1) [l,l.tail] [.mk xk xx xn xp xc] [] [(pl:Int)]) hd w1 w [Qp 0 (tk 129) (tk 321),Xk 0 5,Xq 37 [.int .i64 6] 1 2 (tk 321)] ⟨[(0,1)],[],[],[322]⟩ [(129,.int .i64 4,true)]:=
       ⟨rfl,rfl,rfl,rfl,Qa (Qq Dd (.inl rfl) _) (Qa (Xl hB (i:=0) Dd hbn.symm) (Qa (Zf (hx 5 f Dd Dw) (.inr rfl) rfl Qw k2 Dd rfl) Q7)),(Nz ⟨t0,hcons⟩),Ql,Qk,(eqC (Qg (i:=0) Dd k1) eqN),(V6 ⟨pl,rfl⟩ Qj),Jv h1 h2 h3 h4 h5⟩
      exact D.round rfl rfl I (fin:=.pan (tk 322)) Dk hQ
     |ok y=>
      obtain⟨⟨yk,yx,yn,yp,yc⟩,k⟩:=y;dsimp only [andThen] at h;rw[Q5,Xc] at h;have D:X0 (Q9 b q r 5) b E (Kt E.len hd (SX (Q9 b q r 5) w1) [l,l.tail,k] [.mk xk xx xn xp xc,.mk yk yx yn yp yc] [] []) hd w1 w [Qp 0 (tk 129) (tk 321),Xk 0 5,Qm 37 [.int .i64 6] 1 2 (tk 260) 1 (tk 321)] ⟨[(0,1)],[],[],[]⟩ [(129,.int .i64 4,true)]:=
       ⟨rfl,rfl,rfl,rfl,Qa (Qq Dd (.inl rfl) _) (Qa (Xl hB (i:=0) Dd hbn.symm) (Qa (Qs (hx 5 f Dd Dw) (.inr rfl) rfl Qw k2 (.inl rfl) Dd) Q7)),(Nz ⟨t0,hcons⟩),Ql,Qk,(eqC (Qg (i:=0) Dd k1) eqN),Qj,Jv h1 h2 h3 h4 h5⟩
      exact D.round rfl rfl I (fin:=.again 2 (.nd (.int .i64 33) (tk 130) (.int .u64 0) (tk 132) [.ab (tk 256) (tk 257) (tk 258) (tk 259) 1,.ab (tk 260) (tk 261) (tk 262) (tk 263) 9])) Dk fun w' a' I'=>ih _ k w' a' Dw h I'
theorem Qpc {b q r F0:Nat}{E:Env}{hd:Bool}{w1:World}(h1:b<q)(h2:b<r)(h3:q≠r)(h4:b<w1.heap.size)(h5:r<w1.heap.size)(hB:J4 b E)(hx:∀ (k g:Nat),k≤5→g<F0→Reads b E hd 37 #[rp b,.int .i64 ((k+1:Nat):Int)] (Xj E.len g (k+1) hd)){Q:Exit→Act→World→Prop}{res:Except Nat (Tr×List Tok)}
  (hQ:match res with
   | .ok (t,l')=>∀ w' a',Qp3 (Q9 b q r 6) b E hd w1 t l' w' a'→Q .ret a' w'
   | .error p=>∀ w' a',Ua b q r w1 w'→a'.defers=[]→Q (.panic [{ v:=Vw p,recovered:=false }]) a' w'):
  ∀ (f:Nat) (x:Tr) (l:List Tok) (w:World) (a:Act),f≤F0→Zi E.len f 6 hd x l=some res→Qp2 (Q9 b q r 6) b E hd w1 x l w a→Vl Tryz.prog Jc Q a w:=by
 intro f;induction f with
 |zero=>intro x l w a _ h;rw[Zi] at h;cases h
 |succ f ih=>
  intro x l w a hf h I;rw[Zi] at h;obtain⟨xk,xx,xn,xp,xc⟩:=x;refine Zu ?_;generalize hbz:(if (Xn l==4)=true then Z9 (Zo l) else 0)=bz at h;cases k1:Xn l==4 with
  |false=>
   obtain rfl:bz=0:=by rw[←hbz,k1];rfl
   rw[if_pos Dd] at h;cases h;have D:X0 (Q9 b q r 6) b E (Kt E.len hd (SX (Q9 b q r 6) w1) [l] [.mk xk xx xn xp xc] [] []) hd w1 w [Qp 0 (tk 129) (tk 321)] ⟨[],[],[],[]⟩ [(129,.int .i64 4,false)]:=
    ⟨rfl,rfl,rfl,rfl,Qa (Qq Dd (.inl rfl) _) Q7,Dx,Ql,Qk,(eqC (Qg (i:=0) Dd k1) eqN),Qj,Jv h1 h2 h3 h4 h5⟩
   exact D.round rfl rfl I (fin:=.ret 0 (.ab (tk 256) (tk 257) (tk 258) (tk 259) 1)) Dk hQ
  |true=>
   obtain rfl:bz=Z9 (Zo l):=by rw[←hbz,k1];rfl
   obtain⟨bn,hbn⟩:∃ n,n=Z9 (Zo l):=⟨_,rfl⟩;have hble:=Ea (Zo l);rw[←hbn] at h hble;rcases (by omega:bn=0∨bn=1∨bn=2∨bn=3∨bn=4∨bn=5) with rfl|rfl|rfl|rfl|rfl|rfl
   ·
    rw[if_pos Dd] at h;cases h;have D:X0 (Q9 b q r 6) b E (Kt E.len hd (SX (Q9 b q r 6) w1) [l] [.mk xk xx xn xp xc] [] []) hd w1 w [Qp 0 (tk 129) (tk 321),Xk 0 0] ⟨[],[],[],[]⟩ [(129,.int .i64 4,true)]:=
     ⟨rfl,rfl,rfl,rfl,Qa (Qq Dd (.inl rfl) _) (Qa (Xl hB (i:=0) Dd hbn.symm) Q7),Dx,Ql,Qk,(eqC (Qg (i:=0) Dd k1) eqN),Qj,Jv h1 h2 h3 h4 h5⟩
    exact D.round rfl rfl I (fin:=.ret 0 (.ab (tk 256) (tk 257) (tk 258) (tk 259) 1)) Dk hQ
   ·
    rw[if_pos Dd] at h;cases h;have D:X0 (Q9 b q r 6) b E (Kt E.len hd (SX (Q9 b q r 6) w1) [l] [.mk xk xx xn xp xc] [] []) hd w1 w [Qp 0 (tk 129) (tk 321),Xk 0 1] ⟨[],[],[],[]⟩ [(129,.int .i64 4,true)]:=
     ⟨rfl,rfl,rfl,rfl,Qa (Qq Dd (.inl rfl) _) (Qa (Xl hB (i:=0) Dd hbn.symm) Q7),Dx,Ql,Qk,(eqC (Qg (i:=0) Dd k1) eqN),Qj,Jv h1 h2 h3 h4 h5⟩
    exact D.round rfl rfl I (fin:=.ret 0 (.ab (tk 256) (tk 257) (tk 258) (tk 259) 1)) Dk hQ
   ·
    rw[if_pos Dd] at h;cases h;have D:X0 (Q9 b q r 6) b E (Kt E.len hd (SX (Q9 b q r 6) w1) [l] [.mk xk xx xn xp xc] [] []) hd w1 w [Qp 0 (tk 129) (tk 321),Xk 0 2] ⟨[],[],[],[]⟩ [(129,.int .i64 4,true)]:=
     ⟨rfl,rfl,rfl,rfl,Qa (Qq Dd (.inl rfl) _) (Qa (Xl hB (i:=0) Dd hbn.symm) Q7),Dx,Ql,Qk,(eqC (Qg (i:=0) Dd k1) eqN),Qj,Jv h1 h2 h3 h4 h5⟩
    exact D.round rfl rfl I (fin:=.ret 0 (.ab (tk 256) (tk 257) (tk 258) (tk 259) 1)) Dk hQ
   ·
    rw[if_pos Dd] at h;cases h;have D:X0 (Q9 b q r 6) b E (Kt E.len hd (SX (Q9 b q r 6) w1) [l] [.mk xk xx xn xp xc] [] []) hd w1 w [Qp 0 (tk 129) (tk 321),Xk 0 3] ⟨[],[],[],[]⟩ [(129,.int .i64 4,true)]:=
     ⟨rfl,rfl,rfl,rfl,Qa (Qq Dd (.inl rfl) _) (Qa (Xl hB (i:=0) Dd hbn.symm) Q7),Dx,Ql,Qk,(eqC (Qg (i:=0) Dd k1) eqN),Qj,Jv h1 h2 h3 h4 h5⟩
    exact D.round rfl rfl I (fin:=.ret 0 (.ab (tk 256) (tk 257) (tk 258) (tk 259) 1)) Dk hQ
   ·
    rw[if_pos Dd] at h;cases h;have D:X0 (Q9 b q r 6) b E (Kt E.len hd (SX (Q9 b q r 6) w1) [l] [.mk xk xx xn xp xc] [] []) hd w1 w [Qp 0 (tk 129) (tk 321),Xk 0 4] ⟨[],[],[],[]⟩ [(129,.int .i64 4,true)]:=
     ⟨rfl,rfl,rfl,rfl,Qa (Qq Dd (.inl rfl) _) (Qa (Xl hB (i:=0) Dd hbn.symm) Q7),Dx,Ql,Qk,(eqC (Qg (i:=0) Dd k1) eqN),Qj,Jv h1 h2 h3 h4 h5⟩
    exact D.round rfl rfl I (fin:=.ret 0 (.ab (tk 256) (tk 257) (tk 258) (tk 259) 1)) Dk hQ
   ·
    rw[if_pos Dd] at h;cases h;have D:X0 (Q9 b q r 6) b E (Kt E.len hd (SX (Q9 b q r 6) w1) [l] [.mk xk xx xn xp xc] [] []) hd w1 w [Qp 0 (tk 129) (tk 321),Xk 0 5] ⟨[],[],[],[]⟩ [(129,.int .i64 4,true)]:=
     ⟨rfl,rfl,rfl,rfl,Qa (Qq Dd (.inl rfl) _) (Qa (Xl hB (i:=0) Dd hbn.symm) Q7),Dx,Ql,Qk,(eqC (Qg (i:=0) Dd k1) eqN),Qj,Jv h1 h2 h3 h4 h5⟩
    exact D.round rfl rfl I (fin:=.ret 0 (.ab (tk 256) (tk 257) (tk 258) (tk 259) 1)) Dk hQ
end Prs
end Go.Proofs.YtcbkeecabcbogaaGreatDoor
