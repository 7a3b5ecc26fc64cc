/- Scripts: signatures, functions, operands. (Printed by gen_op -/
import Derived.Test.YtcbkeecabcbogaaGreatDoorSay
set_option maxRecDepth 20000
set_option linter.unusedSimpArgs false
set_option linter.unusedVariables false
namespace Go.Proofs.YtcbkeecabcbogaaGreatDoor
open Go.RowKit
namespace Prs
open Ev
section
variable {b:Nat} {E:Env} {N:Va} {w0:World}
theorem Qbs {g:FuncId}{ys ys':List Value}{i j t:Nat}{k:Value}{q0:Bool}{x:List Tok→R Tr}(hx:Reads b E q0 g (rp b::ys').toArray x)(hys:∀ p vs,AxN b N p→VRs p ys vs→vs=ys')
  (h:x (N.L i)=some (.ok (N.T t,N.L j))) (hk:k=tk (256+4*t)∨k=.int .i64 ((N.T t).kind:Int)) (ht:t<16):Uc b E N w0 (Qm g ys i j k t (.bool q0)):=by
 intro p hax q args' w hhd hargs hrd _;cases hhd;rw[hys p args' hax hargs];refine(hx _ w _ hrd h).mono ?_;rintro e w' ⟨hkeep,v,rfl,hv,hr⟩;exact⟨hkeep,hr,hk,ht,v,rfl,hv⟩
theorem bad_f {g:FuncId}{ys ys':List Value}{i xx pl:Nat}{q0:Bool}{x:List Tok→R Tr}(hx:Reads b E q0 g (rp b::ys').toArray x)(hys:∀ p vs,AxN b N p→VRs p ys vs→vs=ys')
  (h:x (N.L i)=some (.error pl)) (hxx:xx<64) (hX:N.X xx=.int .i64 (pl:Int)):Uc b E N w0 (Xq g ys i xx (.bool q0)):=by
 intro p hax q args' w hhd hargs hrd _;cases hhd;rw[hys p args' hax hargs];refine(hx _ w _ hrd h).mono ?_;rintro e w' ⟨hkeep,rfl⟩;exact⟨hkeep,_,rfl,.iface _ (.agg (.cons (hax.vr (by rw[Bl N hxx,hX])) .nil))⟩
theorem list_f {g:FuncId}{ys ys':List Value}{i j m:Nat}{q0:Bool}{x:List Tok→R (List Tr)}(hx:Du b E q0 g (rp b::ys').toArray x)(hys:∀ p vs,AxN b N p→VRs p ys vs→vs=ys')
  (h:x (N.L i)=some (.ok (N.TS m,N.L j))):Uc b E N w0 (Yv g ys i j m (.bool q0)):=by
 intro p hax q args' w hhd hargs hrd _;cases hhd;rw[hys p args' hax hargs];refine(hx _ w _ hrd h).mono ?_;rintro e w' ⟨hkeep,v,rfl,hv,hr⟩;exact⟨hkeep,hr,v,rfl,hv⟩
theorem badL_f {g:FuncId}{ys ys':List Value}{i xx pl:Nat}{q0:Bool}{x:List Tok→R (List Tr)}(hx:Du b E q0 g (rp b::ys').toArray x)(hys:∀ p vs,AxN b N p→VRs p ys vs→vs=ys')
  (h:x (N.L i)=some (.error pl)) (hxx:xx<64) (hX:N.X xx=.int .i64 (pl:Int)):Uc b E N w0 (Xq g ys i xx (.bool q0)):=by
 intro p hax q args' w hhd hargs hrd _;cases hhd;rw[hys p args' hax hargs];refine(hx _ w _ hrd h).mono ?_;rintro e w' ⟨hkeep,rfl⟩;exact⟨hkeep,_,rfl,.iface _ (.agg (.cons (hax.vr (by rw[Bl N hxx,hX])) .nil))⟩
def Ll (m:Nat)(y:Option (Sp×Nat)):Xt:=⟨1000000,[],0,.bool true,.cons m y⟩
theorem Qm8 {m y:Nat}{sp:Sp}(h1:N.TS m≠[])(h2:N.TS y=den N sp::N.TS m)(h3:(N.TS m).length≤4294967296):Uc b E N w0 (Ll m (some (sp,y))):=⟨h3,fun _=>⟨h1,h2⟩⟩
theorem cons_j {m:Nat}{sp:Sp}(h3:(N.TS m).length≤4294967296):Uc b E N w0 (Ll m (some (sp,1000))):=⟨h3,fun h=>absurd rfl h⟩
theorem cons_n {m:Nat}(h1:N.TS m=[]):Uc b E N w0 (Ll m none):=h1
end
theorem Gi {e f:Nat}{l m:List Tok}{ts:List Tr}(h:Qfj e f l=some (.ok (ts,m))):ts.length=2:=by
 cases f with
 |zero=>rw[Qfj] at h;cases h
 |succ f=>
  rw[Qfj] at h;cases k1:Ub e Zt l with
  |none=>rw[k1] at h;cases h
  |some y=>
  rw[k1] at h;cases y with
  |error=>cases h
  |ok y=>
  dsimp only [andThen] at h;cases k2:Yi e Q8 false (Jz e f) f y.2 with
  |none=>rw[k2] at h;cases h
  |some z=>
  rw[k2] at h;cases z with
  |error=>cases h
  |ok z=>
  dsimp only at h;split at h
  ·cases k3:Bc e f z.2 with
   |none=>rw[k3] at h;cases h
   |some u=>
   rw[k3] at h;cases u with
   |error=>cases h
   |ok u=>cases h;rfl
  ·cases h;rfl
theorem Qd7 {α:Type}{l:List α}(h:l.length=2):l.length≤4294967296:=by omega
theorem Qsi {α:Type}{x:α}{l:List α}(h:l.length=2):(x::l).length≤4294967296:=by rw[List.length_cons];omega
theorem Qft {α:Type}{l:List α}(h:l.length=2):l≠[]:=by rintro rfl;cases h
theorem num_pos {N:Va}{i:Nat}(hi:i<16)(h:Qmp (N.L i)=true):∃ n:Nat,Xi N (131+8*i)=some (.int (if 131+8*i<256 then .u64 else .i64) (n:Int)):=by
 refine⟨(Tz (N.L i)).num.toNat,?_⟩;rw[if_pos Dw,show 131+8*i=128+8*i+3 by omega,N8 N hi Dd];have:0≤(Tz (N.L i)).num:=by
  cases hl:N.L i with
  |nil=>exact Int.le_refl _
  |cons t l=>rw[hl] at h;exact of_decide_eq_true h
 unfold Qk6;rw[Int.toNat_of_nonneg this];rfl
theorem sig_c {b f:Nat}{E:Env}{hd:Bool}(hf:f≤4294967296)(hp:Reads b E false 76 #[rp b] (Jz E.len f))(ht:Reads b E hd 48 #[rp b] (Bc E.len f)):Du b E hd 78 #[rp b] (Qfj E.len (f+1)):=by
 intro l w r h hr;rw[Qfj] at hr;unfold Ub at hr;cases k1:isP Zt l with
 |true=>
  rw[k1,if_pos rfl] at hr;(try dsimp only [andThen,ok,bad] at hr)
  cases k2:Yi E.len Q8 false (Jz E.len f) f l.tail with
  |none=>rw[k2] at hr;cases hr
  |some y3=>
   rw[k2] at hr;cases y3 with
   |error pl4=>
    (try dsimp only [andThen,ok,bad] at hr)
    cases hr;have D:Told b E (mkN E.len hd w.heap.size [l,l.tail] [] [] [(pl4:Int)]) hd w [Xo Zt 0 1 (tk 321),Xq 71 [str Q8,.bool false,(.func (.func 76) #[.pointer (some ⟨64,0,none⟩)] #[])] 1 2 (tk 321)] ⟨[],[],[],[322]⟩ []:=
     ⟨h,rfl,rfl,rfl,rfl,Qa (Xr rfl Dd k1 rfl _) (Qa (Qb8 (Bv hp hf) (.inr rfl) rfl Ud k2 Dd rfl) Q7),Dx,Ql,Qk,eqN,(V6 ⟨pl4,rfl⟩ Qj)⟩
    exact D.Qrz (.inr rfl) (args:=[]) (args':=[]) (fun _ _ => .nil) (fin:=.pan (tk 322)) Dk
   |ok y3=>
    obtain⟨ts5,m4⟩:=y3;(try dsimp only [andThen,ok,bad] at hr)
    cases k6:Lu m4 with
    |true=>
     rw[k6,if_pos rfl] at hr;cases k7:Bc E.len f m4 with
     |none=>rw[k7] at hr;cases hr
     |some y8=>
      rw[k7] at hr;cases y8 with
      |error pl9=>
       (try dsimp only [andThen,ok,bad] at hr)
       cases hr;have D:Told b E (mkN E.len hd w.heap.size [l,l.tail,m4] [] [ts5] [(pl9:Int)]) hd w [Xo Zt 0 1 (tk 321),Yv 71 [str Q8,.bool false,(.func (.func 76) #[.pointer (some ⟨64,0,none⟩)] #[])] 1 2 0 (tk 321),Zb 2 (tk 321),Pn 2 true (tk 321),Xq 48 [] 2 2 (tk 321)] ⟨[],[],[],[322]⟩ []:=
        ⟨h,rfl,rfl,rfl,rfl,Qa (Xr rfl Dd k1 rfl _) (Qa (Jn (Bv hp hf) (.inr rfl) rfl Ud k2) (Qa (Zc rfl Dd _) (Qa (Ec k6 _) (Qa (Zf ht (.inr rfl) rfl Qv k7 Dd rfl) Q7)))),Dx,Ql,Qk,eqN,(V6 ⟨pl9,rfl⟩ Qj)⟩
       exact D.Qrz (.inr rfl) (args:=[]) (args':=[]) (fun _ _ => .nil) (fin:=.pan (tk 322)) Dk
      |ok y8=>
       obtain⟨⟨t10k,t10x,t10n,t10p,t10c⟩,m9⟩:=y8;(try dsimp only [andThen,ok,bad] at hr)
       cases hr;have D:Told b E (mkN E.len hd w.heap.size [l,l.tail,m4,m9] [.mk t10k t10x t10n t10p t10c] [ts5] []) hd w [Xo Zt 0 1 (tk 321),Yv 71 [str Q8,.bool false,(.func (.func 76) #[.pointer (some ⟨64,0,none⟩)] #[])] 1 2 0 (tk 321),Zb 2 (tk 321),Pn 2 true (tk 321),Qm 48 [] 2 3 (tk 256) 0 (tk 321)] ⟨[],[],[],[]⟩ []:=
        ⟨h,rfl,rfl,rfl,rfl,Qa (Xr rfl Dd k1 rfl _) (Qa (Jn (Bv hp hf) (.inr rfl) rfl Ud k2) (Qa (Zc rfl Dd _) (Qa (Ec k6 _) (Qa (Qs ht (.inr rfl) rfl Qv k7 (.inl rfl) Dd) Q7)))),Dx,Ql,Qk,eqN,Qj⟩
       exact D.Qrz (.inr rfl) (args:=[]) (args':=[]) (fun _ _ => .nil) (fin:=.list [.ab (.int .i64 6) (.string ⟨#[]⟩) (.int .u64 0) (tk 128) 2,.nd (.int .i64 7) (.string ⟨#[]⟩) (.int .u64 0) (tk 144) [.ab (tk 256) (tk 257) (tk 258) (tk 259) 1]] 3) Dk
    |false=>
     rw[k6,if_neg Dd] at hr;cases hr;have D:Told b E (mkN E.len hd w.heap.size [l,l.tail,m4] [] [ts5] []) hd w [Xo Zt 0 1 (tk 321),Yv 71 [str Q8,.bool false,(.func (.func 76) #[.pointer (some ⟨64,0,none⟩)] #[])] 1 2 0 (tk 321),Zb 2 (tk 321),Pn 2 false (tk 321)] ⟨[],[],[],[]⟩ []:=
      ⟨h,rfl,rfl,rfl,rfl,Qa (Xr rfl Dd k1 rfl _) (Qa (Jn (Bv hp hf) (.inr rfl) rfl Ud k2) (Qa (Zc rfl Dd _) (Qa (Ec k6 _) Q7))),Dx,Ql,Qk,eqN,Qj⟩
     exact D.Qrz (.inr rfl) (args:=[]) (args':=[]) (fun _ _ => .nil) (fin:=.list [.ab (.int .i64 6) (.string ⟨#[]⟩) (.int .u64 0) (tk 128) 2,.nd (.int .i64 7) (.string ⟨#[]⟩) (.int .u64 0) (tk 144) []] 2) Dk
 |false=>
  rw[k1,if_neg Dd] at hr;(try dsimp only [andThen,ok,bad] at hr)
  cases hr;have D:Told b E (mkN E.len hd w.heap.size [l] [] [] []) hd w [Lj Zt 0 (tk 321)] ⟨[],[],[],[]⟩ []:=
   ⟨h,rfl,rfl,rfl,rfl,Qa (Eg rfl Dd k1 _) Q7,Dx,Ql,Qk,eqN,Qj⟩
  exact D.Qrz (.inr rfl) (args:=[]) (args':=[]) (fun _ _ => .nil) (fin:=.pan (tk 128)) Dk
theorem Qo9 {b f p:Nat}{E:Env}{hd:Bool}(hf:f≤4294967296)(hs:Du b E hd 78 #[rp b] (Qfj E.len f))(hb:Reads b E hd 45 #[rp b] (U6 E.len f)):Reads b E hd 54 #[rp b,.int .i64 (p:Int)] (Kw E.len f p):=by
 intro l w r h hr;unfold Kw at hr;unfold U8 at hr;cases k1:Xn l==1 with
 |true=>
  rw[k1,if_pos rfl] at hr;(try dsimp only [andThen,ok,bad] at hr)
  simp only[Q5,Xc] at hr;cases k2:isP wSq l.tail with
  |true=>
   rw[k2,if_pos rfl] at hr;cases k3:Yi E.len wQs true (Nq E.len) f l.tail.tail with
   |none=>rw[k3] at hr;cases hr
   |some y4=>
    rw[k3] at hr;cases y4 with
    |error pl5=>
     (try dsimp only [andThen,ok,bad] at hr)
     cases hr;have D:Told b E (mkN E.len hd w.heap.size [l,l.tail,l.tail.tail] [] [] [(p:Int),(pl5:Int)]) hd w [Zz 0 1 (tk 321),Zb 1 (tk 321),Qx wSq 1 2 (tk 321),Xq 71 [str wQs,.bool true,(.func (.func 77) #[.pointer (some ⟨64,0,none⟩)] #[])] 2 3 (tk 321)] ⟨[],[],[],[322,323]⟩ []:=
      ⟨h,rfl,rfl,rfl,rfl,Qa (Z7 Dd k1 rfl _) (Qa (Zc rfl Dd _) (Qa (Qy k2 rfl _) (Qa (Qb8 (F5 Qcm hf) (.inr rfl) rfl Ud k3 Dd rfl) Q7))),Dx,Ql,Qk,eqN,(V6 ⟨p,rfl⟩ (V6 ⟨pl5,rfl⟩ Qj))⟩
     exact D.path (.inr rfl) (args:=[tk 322]) (args':=[.int .i64 (p:Int)]) (Rk (i:=2) Dd rfl) (fin:=.pan (tk 323)) Dk
    |ok y4=>
     obtain⟨ts6,m5⟩:=y4;(try dsimp only [andThen,ok,bad] at hr)
     cases k7:Qfj E.len f m5 with
     |none=>rw[k7] at hr;cases hr
     |some y8=>
      rw[k7] at hr;cases y8 with
      |error pl9=>
       (try dsimp only [andThen,ok,bad] at hr)
       cases hr;have D:Told b E (mkN E.len hd w.heap.size [l,l.tail,l.tail.tail,m5] [] [ts6] [(p:Int),(pl9:Int)]) hd w [Zz 0 1 (tk 321),Zb 1 (tk 321),Qx wSq 1 2 (tk 321),Yv 71 [str wQs,.bool true,(.func (.func 77) #[.pointer (some ⟨64,0,none⟩)] #[])] 2 3 0 (tk 321),Xq 78 [] 3 3 (tk 321)] ⟨[],[],[],[322,323]⟩ []:=
        ⟨h,rfl,rfl,rfl,rfl,Qa (Z7 Dd k1 rfl _) (Qa (Zc rfl Dd _) (Qa (Qy k2 rfl _) (Qa (Jn (F5 Qcm hf) (.inr rfl) rfl Ud k3) (Qa (Qb8 hs (.inr rfl) rfl Qv k7 Dd rfl) Q7)))),Dx,Ql,Qk,eqN,(V6 ⟨p,rfl⟩ (V6 ⟨pl9,rfl⟩ Qj))⟩
       exact D.path (.inr rfl) (args:=[tk 322]) (args':=[.int .i64 (p:Int)]) (Rk (i:=2) Dd rfl) (fin:=.pan (tk 323)) Dk
      |ok y8=>
       obtain⟨ts10,m9⟩:=y8;(try dsimp only [andThen,ok,bad] at hr)
       cases k11:U6 E.len f m9 with
       |none=>rw[k11] at hr;cases hr
       |some y12=>
        rw[k11] at hr;cases y12 with
        |error pl13=>
         (try dsimp only [andThen,ok,bad] at hr)
         cases hr;have D:Told b E (mkN E.len hd w.heap.size [l,l.tail,l.tail.tail,m5,m9] [] [ts6,ts10] [(p:Int),(pl13:Int)]) hd w [Zz 0 1 (tk 321),Zb 1 (tk 321),Qx wSq 1 2 (tk 321),Yv 71 [str wQs,.bool true,(.func (.func 77) #[.pointer (some ⟨64,0,none⟩)] #[])] 2 3 0 (tk 321),Yv 78 [] 3 4 1 (tk 321),Ll 1 (some (.ab (.int .i64 4) (.string ⟨#[]⟩) (.int .u64 0) (tk 136) 2,1000)),Xq 45 [] 4 3 (tk 321)] ⟨[],[],[],[322,323]⟩ []:=
          ⟨h,rfl,rfl,rfl,rfl,Qa (Z7 Dd k1 rfl _) (Qa (Zc rfl Dd _) (Qa (Qy k2 rfl _) (Qa (Jn (F5 Qcm hf) (.inr rfl) rfl Ud k3) (Qa (Jn hs (.inr rfl) rfl Qv k7) (Qa (cons_j (Qd7 (Gi k7))) (Qa (Zf hb (.inr rfl) rfl Qv k11 Dd rfl) Q7)))))),Dx,Ql,Qk,eqN,(V6 ⟨p,rfl⟩ (V6 ⟨pl13,rfl⟩ Qj))⟩
         exact D.path (.inr rfl) (args:=[tk 322]) (args':=[.int .i64 (p:Int)]) (Rk (i:=2) Dd rfl) (fin:=.pan (tk 323)) Dk
        |ok y12=>
         obtain⟨⟨t14k,t14x,t14n,t14p,t14c⟩,m13⟩:=y12;(try dsimp only [andThen,ok,bad] at hr)
         cases hr;have D:Told b E (mkN E.len hd w.heap.size [l,l.tail,l.tail.tail,m5,m9,m13] [.mk t14k t14x t14n t14p t14c] [ts6,ts10,(.mk 4 [] 0 (atP E.len l.tail) ts6::ts10),(.mk 4 [] 0 (atP E.len l.tail) ts6::ts10)++[.mk t14k t14x t14n t14p t14c]] [(p:Int)]) hd w [Zz 0 1 (tk 321),Zb 1 (tk 321),Qx wSq 1 2 (tk 321),Yv 71 [str wQs,.bool true,(.func (.func 77) #[.pointer (some ⟨64,0,none⟩)] #[])] 2 3 0 (tk 321),Yv 78 [] 3 4 1 (tk 321),Qm 45 [] 4 5 (tk 256) 0 (tk 321),Ll 1 (some (.ab (.int .i64 4) (.string ⟨#[]⟩) (.int .u64 0) (tk 136) 2,2))] ⟨[],[(2,.ab (tk 256) (tk 257) (tk 258) (tk 259) 1,3)],[],[322]⟩ []:=
          ⟨h,rfl,rfl,rfl,rfl,Qa (Z7 Dd k1 rfl _) (Qa (Zc rfl Dd _) (Qa (Qy k2 rfl _) (Qa (Jn (F5 Qcm hf) (.inr rfl) rfl Ud k3) (Qa (Jn hs (.inr rfl) rfl Qv k7) (Qa (Qs hb (.inr rfl) rfl Qv k11 (.inl rfl) Dd) (Qa (Qm8 (Qft (Gi k7)) rfl (Qd7 (Gi k7))) Q7)))))),Dx,appS (Qsi (Gi k7)),Qk,eqN,(V6 ⟨p,rfl⟩ Qj)⟩
         exact D.path (.inr rfl) (args:=[tk 322]) (args':=[.int .i64 (p:Int)]) (Rk (i:=2) Dd rfl) (fin:=.tree (.ab (.int .i64 3) (tk 130) (.int .u64 0) (tk 322) 26) 5) Dk
  |false=>
   rw[k2,if_neg Dd] at hr;(try dsimp only [andThen,ok,bad] at hr)
   cases k3:Qfj E.len f l.tail with
   |none=>rw[k3] at hr;cases hr
   |some y4=>
    rw[k3] at hr;cases y4 with
    |error pl5=>
     (try dsimp only [andThen,ok,bad] at hr)
     cases hr;have D:Told b E (mkN E.len hd w.heap.size [l,l.tail] [] [] [(p:Int),(pl5:Int)]) hd w [Zz 0 1 (tk 321),Zb 1 (tk 321),Qc wSq 1 (tk 321),Xq 78 [] 1 3 (tk 321)] ⟨[],[],[],[322,323]⟩ []:=
      ⟨h,rfl,rfl,rfl,rfl,Qa (Z7 Dd k1 rfl _) (Qa (Zc rfl Dd _) (Qa (Qd k2 _) (Qa (Qb8 hs (.inr rfl) rfl Qv k3 Dd rfl) Q7))),Dx,Ql,Qk,eqN,(V6 ⟨p,rfl⟩ (V6 ⟨pl5,rfl⟩ Qj))⟩
     exact D.path (.inr rfl) (args:=[tk 322]) (args':=[.int .i64 (p:Int)]) (Rk (i:=2) Dd rfl) (fin:=.pan (tk 323)) Dk
    |ok y4=>
     obtain⟨ts6,m5⟩:=y4;(try dsimp only [andThen,ok,bad] at hr)
     cases k7:U6 E.len f m5 with
     |none=>rw[k7] at hr;cases hr
     |some y8=>
      rw[k7] at hr;cases y8 with
      |error pl9=>
       (try dsimp only [andThen,ok,bad] at hr)
       cases hr;have D:Told b E (mkN E.len hd w.heap.size [l,l.tail,m5] [] [ts6] [(p:Int),(pl9:Int)]) hd w [Zz 0 1 (tk 321),Zb 1 (tk 321),Qc wSq 1 (tk 321),Yv 78 [] 1 2 0 (tk 321),Ll 0 (some (.nd (.int .i64 4) (.string ⟨#[]⟩) (.int .u64 0) (tk 136) [],1000)),Xq 45 [] 2 3 (tk 321)] ⟨[],[],[],[322,323]⟩ []:=
        ⟨h,rfl,rfl,rfl,rfl,Qa (Z7 Dd k1 rfl _) (Qa (Zc rfl Dd _) (Qa (Qd k2 _) (Qa (Jn hs (.inr rfl) rfl Qv k3) (Qa (cons_j (Qd7 (Gi k3))) (Qa (Zf hb (.inr rfl) rfl Qv k7 Dd rfl) Q7))))),Dx,Ql,Qk,eqN,(V6 ⟨p,rfl⟩ (V6 ⟨pl9,rfl⟩ Qj))⟩
       exact D.path (.inr rfl) (args:=[tk 322]) (args':=[.int .i64 (p:Int)]) (Rk (i:=2) Dd rfl) (fin:=.pan (tk 323)) Dk
      |ok y8=>
       obtain⟨⟨t10k,t10x,t10n,t10p,t10c⟩,m9⟩:=y8;(try dsimp only [andThen,ok,bad] at hr)
       cases hr;have D:Told b E (mkN E.len hd w.heap.size [l,l.tail,m5,m9] [.mk t10k t10x t10n t10p t10c] [ts6,(.mk 4 [] 0 (atP E.len l.tail) []::ts6),(.mk 4 [] 0 (atP E.len l.tail) []::ts6)++[.mk t10k t10x t10n t10p t10c]] [(p:Int)]) hd w [Zz 0 1 (tk 321),Zb 1 (tk 321),Qc wSq 1 (tk 321),Yv 78 [] 1 2 0 (tk 321),Qm 45 [] 2 3 (tk 256) 0 (tk 321),Ll 0 (some (.nd (.int .i64 4) (.string ⟨#[]⟩) (.int .u64 0) (tk 136) [],1))] ⟨[],[(1,.ab (tk 256) (tk 257) (tk 258) (tk 259) 1,2)],[],[322]⟩ []:=
        ⟨h,rfl,rfl,rfl,rfl,Qa (Z7 Dd k1 rfl _) (Qa (Zc rfl Dd _) (Qa (Qd k2 _) (Qa (Jn hs (.inr rfl) rfl Qv k3) (Qa (Qs hb (.inr rfl) rfl Qv k7 (.inl rfl) Dd) (Qa (Qm8 (Qft (Gi k3)) rfl (Qd7 (Gi k3))) Q7))))),Dx,appS (Qsi (Gi k3)),Qk,eqN,(V6 ⟨p,rfl⟩ Qj)⟩
       exact D.path (.inr rfl) (args:=[tk 322]) (args':=[.int .i64 (p:Int)]) (Rk (i:=2) Dd rfl) (fin:=.tree (.ab (.int .i64 3) (tk 130) (.int .u64 0) (tk 322) 18) 3) Dk
 |false=>
  rw[k1,if_neg Dd] at hr;(try dsimp only [andThen,ok,bad] at hr)
  cases hr;have D:Told b E (mkN E.len hd w.heap.size [l] [] [] [(p:Int)]) hd w [Qal 0 (tk 321)] ⟨[],[],[],[322]⟩ []:=
   ⟨h,rfl,rfl,rfl,rfl,Qa (Qbx rfl Dd k1 _) Q7,Dx,Ql,Qk,eqN,(V6 ⟨p,rfl⟩ Qj)⟩
  exact D.path (.inr rfl) (args:=[tk 322]) (args':=[.int .i64 (p:Int)]) (Rk (i:=2) Dd rfl) (fin:=.pan (tk 128)) Dk
theorem Qr4 {b f:Nat}{E:Env}{hd:Bool}(hf:f≤4294967296)(he:Reads b E false 37 #[rp b,.int .i64 1] (Xj E.len f 1 false))(ha:Reads b E false 22 #[rp b] (Xj E.len f 1 false))(htf:Reads b E false 48 #[rp b] (Bc E.len f))(hs:Du b E hd 78 #[rp b] (Qfj E.len f))(hb:Reads b E hd 45 #[rp b] (U6 E.len f)):Reads b E hd 96 #[rp b] (Tc E.len (f+1) hd):=by
 intro l w r h hr;rw[Tc] at hr;cases k1:Xn l==2 with
 |true=>
  rw[k1,if_pos rfl] at hr;obtain⟨t0,hcons⟩:=Zm Dd k1;cases kn:Qmp l with
  |false=>rw[kn,if_neg Dd] at hr;cases hr
  |true=>
   rw[kn,if_pos rfl] at hr;have hn:numP' l=(Tz l).num.toNat:=by cases l <;> rfl
   rw[hn,Xc] at hr;cases hr;have D:Told b E (mkN E.len hd w.heap.size [l,l.tail] [] [] []) hd w [Qp 0 (tk 129) (tk 321)] ⟨[(0,1)],[],[],[131]⟩ [(129,.int .i64 2,true)]:=
    ⟨h,rfl,rfl,rfl,rfl,Qa (Qq Dd (.inl rfl) _) Q7,(Nz ⟨t0,hcons⟩),Ql,Qk,(eqC (Qg (i:=0) Dd k1) eqN),(V6 (num_pos (i:=0) Dd kn) Qj)⟩
   exact D.path (.inr rfl) (args:=[]) (args':=[]) (fun _ _ => .nil) (fin:=.tree (.nd (.int .i64 31) (.string ⟨#[]⟩) (tk 131) (tk 132) []) 1) Dk
 |false=>
  rw[k1,if_neg Dd] at hr;cases k2:isP Gh l with
  |true=>
   rw[k2,if_pos rfl] at hr;rw[Xc] at hr;cases hr;have D:Told b E (mkN E.len hd w.heap.size [l,l.tail] [] [] []) hd w [Qp 0 (tk 129) (tk 321),Qx Gh 0 1 (tk 321)] ⟨[],[],[],[]⟩ [(129,.int .i64 2,false)]:=
    ⟨h,rfl,rfl,rfl,rfl,Qa (Qq Dd (.inl rfl) _) (Qa (Qy k2 rfl _) Q7),Dx,Ql,Qk,(eqC (Qg (i:=0) Dd k1) eqN),Qj⟩
   exact D.path (.inr rfl) (args:=[]) (args':=[]) (fun _ _ => .nil) (fin:=.tree (.nd (.int .i64 32) (.string ⟨#[]⟩) (.int .u64 1) (tk 132) []) 1) Dk
  |false=>
   rw[k2,if_neg Dd] at hr;cases k3:isP Yt l with
   |true=>
    rw[k3,if_pos rfl] at hr;rw[Xc] at hr;cases hr;have D:Told b E (mkN E.len hd w.heap.size [l,l.tail] [] [] []) hd w [Qp 0 (tk 129) (tk 321),Qc Gh 0 (tk 321),Qx Yt 0 1 (tk 321)] ⟨[],[],[],[]⟩ [(129,.int .i64 2,false)]:=
     ⟨h,rfl,rfl,rfl,rfl,Qa (Qq Dd (.inl rfl) _) (Qa (Qd k2 _) (Qa (Qy k3 rfl _) Q7)),Dx,Ql,Qk,(eqC (Qg (i:=0) Dd k1) eqN),Qj⟩
    exact D.path (.inr rfl) (args:=[]) (args':=[]) (fun _ _ => .nil) (fin:=.tree (.nd (.int .i64 32) (.string ⟨#[]⟩) (.int .u64 0) (tk 132) []) 1) Dk
   |false=>
    rw[k3,if_neg Dd] at hr;cases k4:isP Zt l with
    |true=>
     rw[k4,if_pos rfl] at hr;cases k5:Xj E.len f 1 false l.tail with
     |none=>rw[k5] at hr;cases hr
     |some y6=>
      rw[k5] at hr;cases y6 with
      |error pl7=>
       (try dsimp only [andThen,ok,bad] at hr)
       cases hr;have D:Told b E (mkN E.len hd w.heap.size [l,l.tail] [] [] [(pl7:Int)]) hd w [Qp 0 (tk 129) (tk 321),Qc Gh 0 (tk 321),Qc Yt 0 (tk 321),Qx Zt 0 1 (tk 321),Xq 37 [.int .i64 1] 1 2 (.bool false)] ⟨[],[],[],[322]⟩ [(129,.int .i64 2,false)]:=
        ⟨h,rfl,rfl,rfl,rfl,Qa (Qq Dd (.inl rfl) _) (Qa (Qd k2 _) (Qa (Qd k3 _) (Qa (Qy k4 rfl _) (Qa (bad_f he Qw k5 Dd rfl) Q7)))),Dx,Ql,Qk,(eqC (Qg (i:=0) Dd k1) eqN),(V6 ⟨pl7,rfl⟩ Qj)⟩
       exact D.path (.inr rfl) (args:=[]) (args':=[]) (fun _ _ => .nil) (fin:=.pan (tk 322)) Dk
      |ok y6=>
       obtain⟨⟨t8k,t8x,t8n,t8p,t8c⟩,m7⟩:=y6;(try dsimp only [andThen,ok,bad] at hr)
       rw[Rz] at hr;unfold Ub at hr;cases k9:isP Q8 (X7 Q8 m7) with
       |true=>
        rw[k9,if_pos rfl] at hr;(try dsimp only [andThen,ok,bad] at hr)
        cases hr;have D:Told b E (mkN E.len hd w.heap.size [l,l.tail,m7,(X7 Q8 m7).tail] [.mk t8k t8x t8n t8p t8c] [] []) hd w [Qp 0 (tk 129) (tk 321),Qc Gh 0 (tk 321),Qc Yt 0 (tk 321),Qx Zt 0 1 (tk 321),Qm 37 [.int .i64 1] 1 2 (tk 256) 0 (.bool false),Qaj Q8 2 3 (.bool false)] ⟨[],[],[],[]⟩ [(129,.int .i64 2,false)]:=
         ⟨h,rfl,rfl,rfl,rfl,Qa (Qq Dd (.inl rfl) _) (Qa (Qd k2 _) (Qa (Qd k3 _) (Qa (Qy k4 rfl _) (Qa (Qbs he Qw k5 (.inl rfl) Dd) (Qa (Qbt k9 rfl _) Q7))))),Dx,Ql,Qk,(eqC (Qg (i:=0) Dd k1) eqN),Qj⟩
        exact D.path (.inr rfl) (args:=[]) (args':=[]) (fun _ _ => .nil) (fin:=.tree (.ab (tk 256) (tk 257) (tk 258) (tk 259) 1) 3) Dk
       |false=>
        rw[k9,if_neg Dd] at hr;(try dsimp only [andThen,ok,bad] at hr)
        cases hr;have D:Told b E (mkN E.len hd w.heap.size [l,l.tail,m7,X7 Q8 m7] [.mk t8k t8x t8n t8p t8c] [] []) hd w [Qp 0 (tk 129) (tk 321),Qc Gh 0 (tk 321),Qc Yt 0 (tk 321),Qx Zt 0 1 (tk 321),Qm 37 [.int .i64 1] 1 2 (tk 256) 0 (.bool false),Qak Q8 2 3 (.bool false)] ⟨[],[],[],[]⟩ [(129,.int .i64 2,false)]:=
         ⟨h,rfl,rfl,rfl,rfl,Qa (Qq Dd (.inl rfl) _) (Qa (Qd k2 _) (Qa (Qd k3 _) (Qa (Qy k4 rfl _) (Qa (Qbs he Qw k5 (.inl rfl) Dd) (Qa (Qbw rfl Dd rfl k9 _) Q7))))),Dx,Ql,Qk,(eqC (Qg (i:=0) Dd k1) eqN),Qj⟩
        exact D.path (.inr rfl) (args:=[]) (args':=[]) (fun _ _ => .nil) (fin:=.pan (tk 152)) Dk
    |false=>
     rw[k4,if_neg Dd] at hr;cases k5:isP Tm l with
     |true=>
      rw[k5,if_pos rfl] at hr;cases k6:Qfj E.len f l.tail with
      |none=>rw[k6] at hr;cases hr
      |some y7=>
       rw[k6] at hr;cases y7 with
       |error pl8=>
        (try dsimp only [andThen,ok,bad] at hr)
        cases hr;have D:Told b E (mkN E.len hd w.heap.size [l,l.tail] [] [] [(pl8:Int)]) hd w [Qp 0 (tk 129) (tk 321),Qc Gh 0 (tk 321),Qc Yt 0 (tk 321),Qc Zt 0 (tk 321),Qx Tm 0 1 (tk 321),Xq 78 [] 1 2 (tk 321)] ⟨[],[],[],[322]⟩ [(129,.int .i64 2,false)]:=
         ⟨h,rfl,rfl,rfl,rfl,Qa (Qq Dd (.inl rfl) _) (Qa (Qd k2 _) (Qa (Qd k3 _) (Qa (Qd k4 _) (Qa (Qy k5 rfl _) (Qa (Qb8 hs (.inr rfl) rfl Qv k6 Dd rfl) Q7))))),Dx,Ql,Qk,(eqC (Qg (i:=0) Dd k1) eqN),(V6 ⟨pl8,rfl⟩ Qj)⟩
        exact D.path (.inr rfl) (args:=[]) (args':=[]) (fun _ _ => .nil) (fin:=.pan (tk 322)) Dk
       |ok y7=>
        obtain⟨ts9,m8⟩:=y7;(try dsimp only [andThen,ok,bad] at hr)
        cases k10:U6 E.len f m8 with
        |none=>rw[k10] at hr;cases hr
        |some y11=>
         rw[k10] at hr;cases y11 with
         |error pl12=>
          (try dsimp only [andThen,ok,bad] at hr)
          cases hr;have D:Told b E (mkN E.len hd w.heap.size [l,l.tail,m8] [] [ts9] [(pl12:Int)]) hd w [Qp 0 (tk 129) (tk 321),Qc Gh 0 (tk 321),Qc Yt 0 (tk 321),Qc Zt 0 (tk 321),Qx Tm 0 1 (tk 321),Yv 78 [] 1 2 0 (tk 321),Xq 45 [] 2 2 (tk 321)] ⟨[],[],[],[322]⟩ [(129,.int .i64 2,false)]:=
           ⟨h,rfl,rfl,rfl,rfl,Qa (Qq Dd (.inl rfl) _) (Qa (Qd k2 _) (Qa (Qd k3 _) (Qa (Qd k4 _) (Qa (Qy k5 rfl _) (Qa (Jn hs (.inr rfl) rfl Qv k6) (Qa (Zf hb (.inr rfl) rfl Qv k10 Dd rfl) Q7)))))),Dx,Ql,Qk,(eqC (Qg (i:=0) Dd k1) eqN),(V6 ⟨pl12,rfl⟩ Qj)⟩
          exact D.path (.inr rfl) (args:=[]) (args':=[]) (fun _ _ => .nil) (fin:=.pan (tk 322)) Dk
         |ok y11=>
          obtain⟨⟨t13k,t13x,t13n,t13p,t13c⟩,m12⟩:=y11;(try dsimp only [andThen,ok,bad] at hr)
          rw[Xc] at hr;cases hr;have D:Told b E (mkN E.len hd w.heap.size [l,l.tail,m8,m12] [.mk t13k t13x t13n t13p t13c] [ts9,ts9++[.mk t13k t13x t13n t13p t13c]] []) hd w [Qp 0 (tk 129) (tk 321),Qc Gh 0 (tk 321),Qc Yt 0 (tk 321),Qc Zt 0 (tk 321),Qx Tm 0 1 (tk 321),Yv 78 [] 1 2 0 (tk 321),Qm 45 [] 2 3 (tk 256) 0 (tk 321)] ⟨[],[(0,.ab (tk 256) (tk 257) (tk 258) (tk 259) 1,1)],[],[]⟩ [(129,.int .i64 2,false)]:=
           ⟨h,rfl,rfl,rfl,rfl,Qa (Qq Dd (.inl rfl) _) (Qa (Qd k2 _) (Qa (Qd k3 _) (Qa (Qd k4 _) (Qa (Qy k5 rfl _) (Qa (Jn hs (.inr rfl) rfl Qv k6) (Qa (Qs hb (.inr rfl) rfl Qv k10 (.inl rfl) Dd) Q7)))))),Dx,appS (Qd7 (Gi k6)),Qk,(eqC (Qg (i:=0) Dd k1) eqN),Qj⟩
          exact D.path (.inr rfl) (args:=[]) (args':=[]) (fun _ _ => .nil) (fin:=.tree (.ab (.int .i64 38) (.string ⟨#[]⟩) (.int .u64 0) (tk 132) 10) 3) Dk
     |false=>
      rw[k5,if_neg Dd] at hr;unfold U8 at hr;cases k6:Xn l==1 with
      |true=>
       rw[k6,if_pos rfl] at hr;(try dsimp only [andThen,ok,bad] at hr)
       simp only[Q5,Xc] at hr;cases km:(Tz l).text==Jt with
       |true=>
        rw[km,Bool.true_and] at hr;cases k7:isP Zt l.tail with
        |true=>
         rw[k7,if_pos rfl] at hr;cases k8:Bc E.len f l.tail.tail with
         |none=>rw[k8] at hr;cases hr
         |some y9=>
          rw[k8] at hr;cases y9 with
          |error pl10=>
           (try dsimp only [andThen,ok,bad] at hr)
           cases hr;have D:Told b E (mkN E.len hd w.heap.size [l,l.tail,l.tail.tail] [] [] [(pl10:Int)]) hd w [Qp 0 (tk 129) (tk 321),Qc Gh 0 (tk 321),Qc Yt 0 (tk 321),Qc Zt 0 (tk 321),Qc Tm 0 (tk 321),Zz 0 1 (tk 321),Qx Zt 1 2 (tk 321),Xq 48 [] 2 2 (.bool false)] ⟨[],[],[],[322]⟩ [(129,.int .i64 2,false),(130,str Jt,true)]:=
            ⟨h,rfl,rfl,rfl,rfl,Qa (Qq Dd (.inl rfl) _) (Qa (Qd k2 _) (Qa (Qd k3 _) (Qa (Qd k4 _) (Qa (Qd k5 _) (Qa (Z7 Dd k6 rfl _) (Qa (Qy k7 rfl _) (Qa (bad_f htf Qv k8 Dd rfl) Q7))))))),Dx,Ql,Qk,(eqC (Qg (i:=0) Dd k1) (eqC (Vu (i:=0) Dd ((congrArg (· == Jt) (Q5 l)).trans km)) eqN)),(V6 ⟨pl10,rfl⟩ Qj)⟩
           exact D.path (.inr rfl) (args:=[]) (args':=[]) (fun _ _ => .nil) (fin:=.pan (tk 322)) Dk
          |ok y9=>
           obtain⟨⟨t11k,t11x,t11n,t11p,t11c⟩,m10⟩:=y9;(try dsimp only [andThen,ok,bad] at hr)
           unfold Ub at hr;cases k12:isP V3 m10 with
           |true=>
            rw[k12,if_pos rfl] at hr;(try dsimp only [andThen,ok,bad] at hr)
            cases k13:Xj E.len f 1 false m10.tail with
            |none=>rw[k13] at hr;cases hr
            |some y14=>
             rw[k13] at hr;cases y14 with
             |error pl15=>
              (try dsimp only [andThen,ok,bad] at hr)
              cases hr;have D:Told b E (mkN E.len hd w.heap.size [l,l.tail,l.tail.tail,m10,m10.tail] [.mk t11k t11x t11n t11p t11c] [] [(pl15:Int)]) hd w [Qp 0 (tk 129) (tk 321),Qc Gh 0 (tk 321),Qc Yt 0 (tk 321),Qc Zt 0 (tk 321),Qc Tm 0 (tk 321),Zz 0 1 (tk 321),Qx Zt 1 2 (tk 321),Qm 48 [] 2 3 (tk 256) 0 (.bool false),Xo V3 3 4 (.bool false),Xq 37 [.int .i64 1] 4 2 (.bool false)] ⟨[],[],[],[322]⟩ [(129,.int .i64 2,false),(130,str Jt,true)]:=
               ⟨h,rfl,rfl,rfl,rfl,Qa (Qq Dd (.inl rfl) _) (Qa (Qd k2 _) (Qa (Qd k3 _) (Qa (Qd k4 _) (Qa (Qd k5 _) (Qa (Z7 Dd k6 rfl _) (Qa (Qy k7 rfl _) (Qa (Qbs htf Qv k8 (.inl rfl) Dd) (Qa (Xr rfl Dd k12 rfl _) (Qa (bad_f he Qw k13 Dd rfl) Q7))))))))),Dx,Ql,Qk,(eqC (Qg (i:=0) Dd k1) (eqC (Vu (i:=0) Dd ((congrArg (· == Jt) (Q5 l)).trans km)) eqN)),(V6 ⟨pl15,rfl⟩ Qj)⟩
              exact D.path (.inr rfl) (args:=[]) (args':=[]) (fun _ _ => .nil) (fin:=.pan (tk 322)) Dk
             |ok y14=>
              obtain⟨⟨t16k,t16x,t16n,t16p,t16c⟩,m15⟩:=y14;(try dsimp only [andThen,ok,bad] at hr)
              rw[Rz] at hr;unfold Ub at hr;cases k17:isP Q8 (X7 Q8 m15) with
              |true=>
               rw[k17,if_pos rfl] at hr;(try dsimp only [andThen,ok,bad] at hr)
               cases hr;have D:Told b E (mkN E.len hd w.heap.size [l,l.tail,l.tail.tail,m10,m10.tail,m15,(X7 Q8 m15).tail] [.mk t11k t11x t11n t11p t11c,.mk t16k t16x t16n t16p t16c] [] []) hd w [Qp 0 (tk 129) (tk 321),Qc Gh 0 (tk 321),Qc Yt 0 (tk 321),Qc Zt 0 (tk 321),Qc Tm 0 (tk 321),Zz 0 1 (tk 321),Qx Zt 1 2 (tk 321),Qm 48 [] 2 3 (tk 256) 0 (.bool false),Xo V3 3 4 (.bool false),Qm 37 [.int .i64 1] 4 5 (tk 260) 1 (.bool false),Qaj Q8 5 6 (.bool false)] ⟨[],[],[],[]⟩ [(129,.int .i64 2,false),(130,str Jt,true)]:=
                ⟨h,rfl,rfl,rfl,rfl,Qa (Qq Dd (.inl rfl) _) (Qa (Qd k2 _) (Qa (Qd k3 _) (Qa (Qd k4 _) (Qa (Qd k5 _) (Qa (Z7 Dd k6 rfl _) (Qa (Qy k7 rfl _) (Qa (Qbs htf Qv k8 (.inl rfl) Dd) (Qa (Xr rfl Dd k12 rfl _) (Qa (Qbs he Qw k13 (.inl rfl) Dd) (Qa (Qbt k17 rfl _) Q7)))))))))),Dx,Ql,Qk,(eqC (Qg (i:=0) Dd k1) (eqC (Vu (i:=0) Dd ((congrArg (· == Jt) (Q5 l)).trans km)) eqN)),Qj⟩
               exact D.path (.inr rfl) (args:=[]) (args':=[]) (fun _ _ => .nil) (fin:=.tree (.nd (.int .i64 40) (.string ⟨#[]⟩) (.int .u64 0) (tk 132) [.ab (tk 256) (tk 257) (tk 258) (tk 259) 1,.ab (tk 260) (tk 261) (tk 262) (tk 263) 9]) 6) Dk
              |false=>
               rw[k17,if_neg Dd] at hr;(try dsimp only [andThen,ok,bad] at hr)
               cases hr;have D:Told b E (mkN E.len hd w.heap.size [l,l.tail,l.tail.tail,m10,m10.tail,m15,X7 Q8 m15] [.mk t11k t11x t11n t11p t11c,.mk t16k t16x t16n t16p t16c] [] []) hd w [Qp 0 (tk 129) (tk 321),Qc Gh 0 (tk 321),Qc Yt 0 (tk 321),Qc Zt 0 (tk 321),Qc Tm 0 (tk 321),Zz 0 1 (tk 321),Qx Zt 1 2 (tk 321),Qm 48 [] 2 3 (tk 256) 0 (.bool false),Xo V3 3 4 (.bool false),Qm 37 [.int .i64 1] 4 5 (tk 260) 1 (.bool false),Qak Q8 5 6 (.bool false)] ⟨[],[],[],[]⟩ [(129,.int .i64 2,false),(130,str Jt,true)]:=
                ⟨h,rfl,rfl,rfl,rfl,Qa (Qq Dd (.inl rfl) _) (Qa (Qd k2 _) (Qa (Qd k3 _) (Qa (Qd k4 _) (Qa (Qd k5 _) (Qa (Z7 Dd k6 rfl _) (Qa (Qy k7 rfl _) (Qa (Qbs htf Qv k8 (.inl rfl) Dd) (Qa (Xr rfl Dd k12 rfl _) (Qa (Qbs he Qw k13 (.inl rfl) Dd) (Qa (Qbw rfl Dd rfl k17 _) Q7)))))))))),Dx,Ql,Qk,(eqC (Qg (i:=0) Dd k1) (eqC (Vu (i:=0) Dd ((congrArg (· == Jt) (Q5 l)).trans km)) eqN)),Qj⟩
               exact D.path (.inr rfl) (args:=[]) (args':=[]) (fun _ _ => .nil) (fin:=.pan (tk 176)) Dk
           |false=>
            rw[k12,if_neg Dd] at hr;(try dsimp only [andThen,ok,bad] at hr)
            cases hr;have D:Told b E (mkN E.len hd w.heap.size [l,l.tail,l.tail.tail,m10] [.mk t11k t11x t11n t11p t11c] [] []) hd w [Qp 0 (tk 129) (tk 321),Qc Gh 0 (tk 321),Qc Yt 0 (tk 321),Qc Zt 0 (tk 321),Qc Tm 0 (tk 321),Zz 0 1 (tk 321),Qx Zt 1 2 (tk 321),Qm 48 [] 2 3 (tk 256) 0 (.bool false),Lj V3 3 (.bool false)] ⟨[],[],[],[]⟩ [(129,.int .i64 2,false),(130,str Jt,true)]:=
             ⟨h,rfl,rfl,rfl,rfl,Qa (Qq Dd (.inl rfl) _) (Qa (Qd k2 _) (Qa (Qd k3 _) (Qa (Qd k4 _) (Qa (Qd k5 _) (Qa (Z7 Dd k6 rfl _) (Qa (Qy k7 rfl _) (Qa (Qbs htf Qv k8 (.inl rfl) Dd) (Qa (Eg rfl Dd k12 _) Q7)))))))),Dx,Ql,Qk,(eqC (Qg (i:=0) Dd k1) (eqC (Vu (i:=0) Dd ((congrArg (· == Jt) (Q5 l)).trans km)) eqN)),Qj⟩
            exact D.path (.inr rfl) (args:=[]) (args':=[]) (fun _ _ => .nil) (fin:=.pan (tk 152)) Dk
        |false=>
         rw[k7,if_neg Dd] at hr;cases hd with
         |true=>
          rw[Bool.not_true,Bool.false_and,if_neg Dd] at hr;cases hr;have D:Told b E (mkN E.len true w.heap.size [l,l.tail] [] [] []) true w [Qp 0 (tk 129) (.bool true),Qc Gh 0 (.bool true),Qc Yt 0 (.bool true),Qc Zt 0 (.bool true),Qc Tm 0 (.bool true),Zz 0 1 (.bool true),Qc Zt 1 (.bool true)] ⟨[],[],[],[]⟩ [(129,.int .i64 2,false),(130,str Jt,true)]:=
           ⟨h,rfl,rfl,rfl,rfl,Qa (Qq Dd (.inl rfl) _) (Qa (Qd k2 _) (Qa (Qd k3 _) (Qa (Qd k4 _) (Qa (Qd k5 _) (Qa (Z7 Dd k6 rfl _) (Qa (Qd k7 _) Q7)))))),Dx,Ql,Qk,(eqC (Qg (i:=0) Dd k1) (eqC (Vu (i:=0) Dd ((congrArg (· == Jt) (Q5 l)).trans km)) eqN)),Qj⟩
          exact D.path (.inl rfl) (args:=[]) (args':=[]) (fun _ _ => .nil) (fin:=.tree (.nd (.int .i64 30) (tk 130) (.int .u64 0) (tk 132) []) 1) Dk
         |false=>
          rw[Bool.not_false,Bool.true_and] at hr;cases k8:isP wCu l.tail with
          |true=>
           rw[k8,if_pos rfl] at hr;cases k9:Yi E.len wUc false (Xj E.len f 1 false) f l.tail.tail with
           |none=>rw[k9] at hr;cases hr
           |some y10=>
            rw[k9] at hr;cases y10 with
            |error pl11=>
             (try dsimp only [andThen,ok,bad] at hr)
             cases hr;have D:Told b E (mkN E.len false w.heap.size [l,l.tail,l.tail.tail] [] [] [(pl11:Int)]) false w [Qp 0 (tk 129) (.bool false),Qc Gh 0 (.bool false),Qc Yt 0 (.bool false),Qc Zt 0 (.bool false),Qc Tm 0 (.bool false),Zz 0 1 (.bool false),Qc Zt 1 (.bool false),Qx wCu 1 2 (.bool false),Xq 71 [str wUc,.bool false,(.func (.func 22) #[.pointer (some ⟨64,0,none⟩)] #[])] 2 2 (.bool false)] ⟨[],[],[],[322]⟩ [(129,.int .i64 2,false),(130,str Jt,true)]:=
              ⟨h,rfl,rfl,rfl,rfl,Qa (Qq Dd (.inl rfl) _) (Qa (Qd k2 _) (Qa (Qd k3 _) (Qa (Qd k4 _) (Qa (Qd k5 _) (Qa (Z7 Dd k6 rfl _) (Qa (Qd k7 _) (Qa (Qy k8 rfl _) (Qa (badL_f (Qaa ha hf) Ud k9 Dd rfl) Q7)))))))),Dx,Ql,Qk,(eqC (Qg (i:=0) Dd k1) (eqC (Vu (i:=0) Dd ((congrArg (· == Jt) (Q5 l)).trans km)) eqN)),(V6 ⟨pl11,rfl⟩ Qj)⟩
             exact D.path (.inl rfl) (args:=[]) (args':=[]) (fun _ _ => .nil) (fin:=.pan (tk 322)) Dk
            |ok y10=>
             obtain⟨ts12,m11⟩:=y10;(try dsimp only [andThen,ok,bad] at hr)
             cases hr;have D:Told b E (mkN E.len false w.heap.size [l,l.tail,l.tail.tail,m11] [] [ts12] []) false w [Qp 0 (tk 129) (.bool false),Qc Gh 0 (.bool false),Qc Yt 0 (.bool false),Qc Zt 0 (.bool false),Qc Tm 0 (.bool false),Zz 0 1 (.bool false),Qc Zt 1 (.bool false),Qx wCu 1 2 (.bool false),Yv 71 [str wUc,.bool false,(.func (.func 22) #[.pointer (some ⟨64,0,none⟩)] #[])] 2 3 0 (.bool false)] ⟨[],[],[],[]⟩ [(129,.int .i64 2,false),(130,str Jt,true)]:=
              ⟨h,rfl,rfl,rfl,rfl,Qa (Qq Dd (.inl rfl) _) (Qa (Qd k2 _) (Qa (Qd k3 _) (Qa (Qd k4 _) (Qa (Qd k5 _) (Qa (Z7 Dd k6 rfl _) (Qa (Qd k7 _) (Qa (Qy k8 rfl _) (Qa (list_f (Qaa ha hf) Ud k9) Q7)))))))),Dx,Ql,Qk,(eqC (Qg (i:=0) Dd k1) (eqC (Vu (i:=0) Dd ((congrArg (· == Jt) (Q5 l)).trans km)) eqN)),Qj⟩
             exact D.path (.inl rfl) (args:=[]) (args':=[]) (fun _ _ => .nil) (fin:=.tree (.ab (.int .i64 37) (tk 130) (.int .u64 0) (tk 132) 2) 3) Dk
          |false=>
           rw[k8,if_neg Dd] at hr;cases hr;have D:Told b E (mkN E.len false w.heap.size [l,l.tail] [] [] []) false w [Qp 0 (tk 129) (.bool false),Qc Gh 0 (.bool false),Qc Yt 0 (.bool false),Qc Zt 0 (.bool false),Qc Tm 0 (.bool false),Zz 0 1 (.bool false),Qc Zt 1 (.bool false),Qc wCu 1 (.bool false)] ⟨[],[],[],[]⟩ [(129,.int .i64 2,false),(130,str Jt,true)]:=
            ⟨h,rfl,rfl,rfl,rfl,Qa (Qq Dd (.inl rfl) _) (Qa (Qd k2 _) (Qa (Qd k3 _) (Qa (Qd k4 _) (Qa (Qd k5 _) (Qa (Z7 Dd k6 rfl _) (Qa (Qd k7 _) (Qa (Qd k8 _) Q7))))))),Dx,Ql,Qk,(eqC (Qg (i:=0) Dd k1) (eqC (Vu (i:=0) Dd ((congrArg (· == Jt) (Q5 l)).trans km)) eqN)),Qj⟩
           exact D.path (.inl rfl) (args:=[]) (args':=[]) (fun _ _ => .nil) (fin:=.tree (.nd (.int .i64 30) (tk 130) (.int .u64 0) (tk 132) []) 1) Dk
       |false=>
        rw[km,Bool.false_and,if_neg Dd] at hr;cases hd with
        |true=>
         rw[Bool.not_true,Bool.false_and,if_neg Dd] at hr;cases hr;have D:Told b E (mkN E.len true w.heap.size [l,l.tail] [] [] []) true w [Qp 0 (tk 129) (.bool true),Qc Gh 0 (.bool true),Qc Yt 0 (.bool true),Qc Zt 0 (.bool true),Qc Tm 0 (.bool true),Zz 0 1 (.bool true)] ⟨[],[],[],[]⟩ [(129,.int .i64 2,false),(130,str Jt,false)]:=
          ⟨h,rfl,rfl,rfl,rfl,Qa (Qq Dd (.inl rfl) _) (Qa (Qd k2 _) (Qa (Qd k3 _) (Qa (Qd k4 _) (Qa (Qd k5 _) (Qa (Z7 Dd k6 rfl _) Q7))))),Dx,Ql,Qk,(eqC (Qg (i:=0) Dd k1) (eqC (Vu (i:=0) Dd ((congrArg (· == Jt) (Q5 l)).trans km)) eqN)),Qj⟩
         exact D.path (.inl rfl) (args:=[]) (args':=[]) (fun _ _ => .nil) (fin:=.tree (.nd (.int .i64 30) (tk 130) (.int .u64 0) (tk 132) []) 1) Dk
        |false=>
         rw[Bool.not_false,Bool.true_and] at hr;cases k7:isP wCu l.tail with
         |true=>
          rw[k7,if_pos rfl] at hr;cases k8:Yi E.len wUc false (Xj E.len f 1 false) f l.tail.tail with
          |none=>rw[k8] at hr;cases hr
          |some y9=>
           rw[k8] at hr;cases y9 with
           |error pl10=>
            (try dsimp only [andThen,ok,bad] at hr)
            cases hr;have D:Told b E (mkN E.len false w.heap.size [l,l.tail,l.tail.tail] [] [] [(pl10:Int)]) false w [Qp 0 (tk 129) (.bool false),Qc Gh 0 (.bool false),Qc Yt 0 (.bool false),Qc Zt 0 (.bool false),Qc Tm 0 (.bool false),Zz 0 1 (.bool false),Qx wCu 1 2 (.bool false),Xq 71 [str wUc,.bool false,(.func (.func 22) #[.pointer (some ⟨64,0,none⟩)] #[])] 2 2 (.bool false)] ⟨[],[],[],[322]⟩ [(129,.int .i64 2,false),(130,str Jt,false)]:=
             ⟨h,rfl,rfl,rfl,rfl,Qa (Qq Dd (.inl rfl) _) (Qa (Qd k2 _) (Qa (Qd k3 _) (Qa (Qd k4 _) (Qa (Qd k5 _) (Qa (Z7 Dd k6 rfl _) (Qa (Qy k7 rfl _) (Qa (badL_f (Qaa ha hf) Ud k8 Dd rfl) Q7))))))),Dx,Ql,Qk,(eqC (Qg (i:=0) Dd k1) (eqC (Vu (i:=0) Dd ((congrArg (· == Jt) (Q5 l)).trans km)) eqN)),(V6 ⟨pl10,rfl⟩ Qj)⟩
            exact D.path (.inl rfl) (args:=[]) (args':=[]) (fun _ _ => .nil) (fin:=.pan (tk 322)) Dk
           |ok y9=>
            obtain⟨ts11,m10⟩:=y9;(try dsimp only [andThen,ok,bad] at hr)
            cases hr;have D:Told b E (mkN E.len false w.heap.size [l,l.tail,l.tail.tail,m10] [] [ts11] []) false w [Qp 0 (tk 129) (.bool false),Qc Gh 0 (.bool false),Qc Yt 0 (.bool false),Qc Zt 0 (.bool false),Qc Tm 0 (.bool false),Zz 0 1 (.bool false),Qx wCu 1 2 (.bool false),Yv 71 [str wUc,.bool false,(.func (.func 22) #[.pointer (some ⟨64,0,none⟩)] #[])] 2 3 0 (.bool false)] ⟨[],[],[],[]⟩ [(129,.int .i64 2,false),(130,str Jt,false)]:=
             ⟨h,rfl,rfl,rfl,rfl,Qa (Qq Dd (.inl rfl) _) (Qa (Qd k2 _) (Qa (Qd k3 _) (Qa (Qd k4 _) (Qa (Qd k5 _) (Qa (Z7 Dd k6 rfl _) (Qa (Qy k7 rfl _) (Qa (list_f (Qaa ha hf) Ud k8) Q7))))))),Dx,Ql,Qk,(eqC (Qg (i:=0) Dd k1) (eqC (Vu (i:=0) Dd ((congrArg (· == Jt) (Q5 l)).trans km)) eqN)),Qj⟩
            exact D.path (.inl rfl) (args:=[]) (args':=[]) (fun _ _ => .nil) (fin:=.tree (.ab (.int .i64 37) (tk 130) (.int .u64 0) (tk 132) 2) 3) Dk
         |false=>
          rw[k7,if_neg Dd] at hr;cases hr;have D:Told b E (mkN E.len false w.heap.size [l,l.tail] [] [] []) false w [Qp 0 (tk 129) (.bool false),Qc Gh 0 (.bool false),Qc Yt 0 (.bool false),Qc Zt 0 (.bool false),Qc Tm 0 (.bool false),Zz 0 1 (.bool false),Qc wCu 1 (.bool false)] ⟨[],[],[],[]⟩ [(129,.int .i64 2,false),(130,str Jt,false)]:=
           ⟨h,rfl,rfl,rfl,rfl,Qa (Qq Dd (.inl rfl) _) (Qa (Qd k2 _) (Qa (Qd k3 _) (Qa (Qd k4 _) (Qa (Qd k5 _) (Qa (Z7 Dd k6 rfl _) (Qa (Qd k7 _) Q7)))))),Dx,Ql,Qk,(eqC (Qg (i:=0) Dd k1) (eqC (Vu (i:=0) Dd ((congrArg (· == Jt) (Q5 l)).trans km)) eqN)),Qj⟩
          exact D.path (.inl rfl) (args:=[]) (args':=[]) (fun _ _ => .nil) (fin:=.tree (.nd (.int .i64 30) (tk 130) (.int .u64 0) (tk 132) []) 1) Dk
      |false=>
       rw[k6,if_neg Dd] at hr;(try dsimp only [andThen,ok,bad] at hr)
       cases hr;have D:Told b E (mkN E.len hd w.heap.size [l] [] [] []) hd w [Qp 0 (tk 129) (tk 321),Qc Gh 0 (tk 321),Qc Yt 0 (tk 321),Qc Zt 0 (tk 321),Qc Tm 0 (tk 321),Qal 0 (tk 321)] ⟨[],[],[],[]⟩ [(129,.int .i64 2,false)]:=
        ⟨h,rfl,rfl,rfl,rfl,Qa (Qq Dd (.inl rfl) _) (Qa (Qd k2 _) (Qa (Qd k3 _) (Qa (Qd k4 _) (Qa (Qd k5 _) (Qa (Qbx rfl Dd k6 _) Q7))))),Dx,Ql,Qk,(eqC (Qg (i:=0) Dd k1) eqN),Qj⟩
       exact D.path (.inr rfl) (args:=[]) (args':=[]) (fun _ _ => .nil) (fin:=.pan (tk 128)) Dk
end Prs
end Go.Proofs.YtcbkeecabcbogaaGreatDoor
