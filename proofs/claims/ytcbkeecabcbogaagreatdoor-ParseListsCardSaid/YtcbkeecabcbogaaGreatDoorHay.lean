/- Scripts: signatures, functions, operands. (Printed by gen_op -/
import Derived.Test.YtcbkeecabcbogaaGreatDoorHax
set_option maxRecDepth 20000
set_option linter.unusedSimpArgs false
set_option linter.unusedVariables false
namespace Go.Proofs.YtcbkeecabcbogaaGreatDoor
open Go.RowKit
namespace Prs
open Ev
section
variable {b:Nat} {E:Env} {N:Zv} {w0:World}
theorem Ae {g:FuncId}{ys ys':List Value}{i j t:Nat}{k:Value}{q0:Bool}{x:List Tok→R Tr}(hx:Reads b E q0 g (rp b::ys').toArray x)(hys:∀ p vs,AxN b N p→VRs p ys vs→vs=ys')
  (h:x (N.L i)=some (.ok (N.T t,N.L j))) (hk:k=tk (256+4*t)∨k=.int .i64 ((N.T t).kind:Int)) (ht:t<16):Vz b E N w0 (Qq g ys i j k t (.bool q0)):=by
 intro p hax q args' w hhd hargs hrd _;cases hhd;rw[hys p args' hax hargs];refine(hx _ w _ hrd h).mono ?_;rintro e w' ⟨hkeep,v,rfl,hv,hr⟩;exact⟨hkeep,hr,hk,ht,v,rfl,hv⟩
theorem bad_f {g:FuncId}{ys ys':List Value}{i xx pl:Nat}{q0:Bool}{x:List Tok→R Tr}(hx:Reads b E q0 g (rp b::ys').toArray x)(hys:∀ p vs,AxN b N p→VRs p ys vs→vs=ys')
  (h:x (N.L i)=some (.error pl)) (hxx:xx<64) (hX:N.X xx=.int .i64 (pl:Int)):Vz b E N w0 (Xt g ys i xx (.bool q0)):=by
 intro p hax q args' w hhd hargs hrd _;cases hhd;rw[hys p args' hax hargs];refine(hx _ w _ hrd h).mono ?_;rintro e w' ⟨hkeep,rfl⟩;exact⟨hkeep,_,rfl,.iface _ (.agg (.cons (hax.vr (by rw[F8 N hxx,hX])) .nil))⟩
theorem list_f {g:FuncId}{ys ys':List Value}{i j m:Nat}{q0:Bool}{x:List Tok→R (List Tr)}(hx:Du b E q0 g (rp b::ys').toArray x)(hys:∀ p vs,AxN b N p→VRs p ys vs→vs=ys')
  (h:x (N.L i)=some (.ok (N.TS m,N.L j))):Vz b E N w0 (Jl g ys i j m (.bool q0)):=by
 intro p hax q args' w hhd hargs hrd _;cases hhd;rw[hys p args' hax hargs];refine(hx _ w _ hrd h).mono ?_;rintro e w' ⟨hkeep,v,rfl,hv,hr⟩;exact⟨hkeep,hr,v,rfl,hv⟩
theorem badL_f {g:FuncId}{ys ys':List Value}{i xx pl:Nat}{q0:Bool}{x:List Tok→R (List Tr)}(hx:Du b E q0 g (rp b::ys').toArray x)(hys:∀ p vs,AxN b N p→VRs p ys vs→vs=ys')
  (h:x (N.L i)=some (.error pl)) (hxx:xx<64) (hX:N.X xx=.int .i64 (pl:Int)):Vz b E N w0 (Xt g ys i xx (.bool q0)):=by
 intro p hax q args' w hhd hargs hrd _;cases hhd;rw[hys p args' hax hargs];refine(hx _ w _ hrd h).mono ?_;rintro e w' ⟨hkeep,rfl⟩;exact⟨hkeep,_,rfl,.iface _ (.agg (.cons (hax.vr (by rw[F8 N hxx,hX])) .nil))⟩
def Qdt (m:Nat)(y:Option (Sp×Nat)):Xr:=⟨1000000,[],0,.bool true,.cons m y⟩
theorem cons_s {m y:Nat}{sp:Sp}(h1:N.TS m≠[])(h2:N.TS y=den N sp::N.TS m)(h3:(N.TS m).length≤4294967296):Vz b E N w0 (Qdt m (some (sp,y))):=⟨h3,fun _=>⟨h1,h2⟩⟩
theorem cons_n {m:Nat}(h1:N.TS m=[]):Vz b E N w0 (Qdt m none):=h1
end
theorem sigP_len {e f:Nat}{l m:List Tok}{ts:List Tr}(h:Qfn e f l=some (.ok (ts,m))):ts.length=2:=by
 cases f with
 |zero=>rw[Qfn] at h;cases h
 |succ f=>
  rw[Qfn] at h;cases k1:Vl e Zk l with
  |none=>rw[k1] at h;cases h
  |some y=>
  rw[k1] at h;cases y with
  |error=>cases h
  |ok y=>
  dsimp only [andThen] at h;cases k2:U7 e Qw false (Jk e f) f y.2 with
  |none=>rw[k2] at h;cases h
  |some z=>
  rw[k2] at h;cases z with
  |error=>cases h
  |ok z=>
  dsimp only at h;split at h
  ·cases k3:D7 e f z.2 with
   |none=>rw[k3] at h;cases h
   |some u=>
   rw[k3] at h;cases u with
   |error=>cases h
   |ok u=>cases h;rfl
  ·cases h;rfl
theorem len2_le {α:Type}{l:List α}(h:l.length=2):l.length≤4294967296:=by omega
theorem num_pos {N:Zv}{i:Nat}(hi:i<16)(h:Qbk (N.L i)=true):∃ n:Nat,Xh N (131+8*i)=some (.int (if 131+8*i<256 then .u64 else .i64) (n:Int)):=by
 refine⟨(U0 (N.L i)).num.toNat,?_⟩;rw[if_pos Dw,show 131+8*i=128+8*i+3 by omega,Wn N hi Dd];have:0≤(U0 (N.L i)).num:=by
  cases hl:N.L i with
  |nil=>exact Int.le_refl _
  |cons t l=>rw[hl] at h;exact of_decide_eq_true h
 unfold Qio;rw[Int.toNat_of_nonneg this];rfl
theorem sig_c {b f:Nat}{E:Env}{hd:Bool}(hf:f≤4294967296)(hp:Reads b E false 76 #[rp b] (Jk E.len f))(ht:Reads b E hd 48 #[rp b] (D7 E.len f)):Du b E hd 78 #[rp b] (Qfn E.len (f+1)):=by
 intro l w r h hr;rw[Qfn] at hr;unfold Vl at hr;cases k1:isP Zk l with
 |true=>
  rw[k1,if_pos rfl] at hr;(try dsimp only [andThen,ok,bad] at hr)
  cases k2:U7 E.len Qw false (Jk E.len f) f l.tail with
  |none=>rw[k2] at hr;cases hr
  |some y3=>
   rw[k2] at hr;cases y3 with
   |error pl4=>
    (try dsimp only [andThen,ok,bad] at hr)
    cases hr;have D:Told b E (mkN E.len hd w.heap.size [l,l.tail] [] [] [(pl4:Int)]) hd w [Xn Zk 0 1 (tk 321),Xt 71 [str Qw,.bool false,(.func (.func 76) #[.pointer (some ⟨64,0,none⟩)] #[])] 1 2 (tk 321)] ⟨[],[],[],[322]⟩ []:=
     ⟨h,rfl,rfl,rfl,rfl,Qa (Xo rfl Dd k1 rfl _) (Qa (Qhg (Pi hp hf) (.inr rfl) rfl U6 k2 Dd rfl) Xb),Dx,Qn,Ql,eqN,(Uj ⟨pl4,rfl⟩ Qj)⟩
    exact D.Qol (.inr rfl) (args:=[]) (args':=[]) (fun _ _ => .nil) (fin:=.pan (tk 322)) Dk
   |ok y3=>
    obtain⟨ts5,m4⟩:=y3;(try dsimp only [andThen,ok,bad] at hr)
    cases k6:Gn m4 with
    |true=>
     rw[k6,if_pos rfl] at hr;cases k7:D7 E.len f m4 with
     |none=>rw[k7] at hr;cases hr
     |some y8=>
      rw[k7] at hr;cases y8 with
      |error pl9=>
       (try dsimp only [andThen,ok,bad] at hr)
       cases hr;have D:Told b E (mkN E.len hd w.heap.size [l,l.tail,m4] [] [ts5] [(pl9:Int)]) hd w [Xn Zk 0 1 (tk 321),Jl 71 [str Qw,.bool false,(.func (.func 76) #[.pointer (some ⟨64,0,none⟩)] #[])] 1 2 0 (tk 321),X5 2 (tk 321),Ry 2 true (tk 321),Xt 48 [] 2 2 (tk 321)] ⟨[],[],[],[322]⟩ []:=
        ⟨h,rfl,rfl,rfl,rfl,Qa (Xo rfl Dd k1 rfl _) (Qa (Dt (Pi hp hf) (.inr rfl) rfl U6 k2) (Qa (X8 rfl Dd _) (Qa (P5 k6 _) (Qa (X6 ht (.inr rfl) rfl Qy k7 Dd rfl) Xb)))),Dx,Qn,Ql,eqN,(Uj ⟨pl9,rfl⟩ Qj)⟩
       exact D.Qol (.inr rfl) (args:=[]) (args':=[]) (fun _ _ => .nil) (fin:=.pan (tk 322)) Dk
      |ok y8=>
       obtain⟨⟨t10k,t10x,t10n,t10p,t10c⟩,m9⟩:=y8;(try dsimp only [andThen,ok,bad] at hr)
       cases hr;have D:Told b E (mkN E.len hd w.heap.size [l,l.tail,m4,m9] [.mk t10k t10x t10n t10p t10c] [ts5] []) hd w [Xn Zk 0 1 (tk 321),Jl 71 [str Qw,.bool false,(.func (.func 76) #[.pointer (some ⟨64,0,none⟩)] #[])] 1 2 0 (tk 321),X5 2 (tk 321),Ry 2 true (tk 321),Qq 48 [] 2 3 (tk 256) 0 (tk 321)] ⟨[],[],[],[]⟩ []:=
        ⟨h,rfl,rfl,rfl,rfl,Qa (Xo rfl Dd k1 rfl _) (Qa (Dt (Pi hp hf) (.inr rfl) rfl U6 k2) (Qa (X8 rfl Dd _) (Qa (P5 k6 _) (Qa (Qs ht (.inr rfl) rfl Qy k7 (.inl rfl) Dd) Xb)))),Dx,Qn,Ql,eqN,Qj⟩
       exact D.Qol (.inr rfl) (args:=[]) (args':=[]) (fun _ _ => .nil) (fin:=.list [.ab (.int .i64 6) (.string ⟨#[]⟩) (.int .u64 0) (tk 128) 2,.nd (.int .i64 7) (.string ⟨#[]⟩) (.int .u64 0) (tk 144) [.ab (tk 256) (tk 257) (tk 258) (tk 259) 1]] 3) Dk
    |false=>
     rw[k6,if_neg Dd] at hr;cases hr;have D:Told b E (mkN E.len hd w.heap.size [l,l.tail,m4] [] [ts5] []) hd w [Xn Zk 0 1 (tk 321),Jl 71 [str Qw,.bool false,(.func (.func 76) #[.pointer (some ⟨64,0,none⟩)] #[])] 1 2 0 (tk 321),X5 2 (tk 321),Ry 2 false (tk 321)] ⟨[],[],[],[]⟩ []:=
      ⟨h,rfl,rfl,rfl,rfl,Qa (Xo rfl Dd k1 rfl _) (Qa (Dt (Pi hp hf) (.inr rfl) rfl U6 k2) (Qa (X8 rfl Dd _) (Qa (P5 k6 _) Xb))),Dx,Qn,Ql,eqN,Qj⟩
     exact D.Qol (.inr rfl) (args:=[]) (args':=[]) (fun _ _ => .nil) (fin:=.list [.ab (.int .i64 6) (.string ⟨#[]⟩) (.int .u64 0) (tk 128) 2,.nd (.int .i64 7) (.string ⟨#[]⟩) (.int .u64 0) (tk 144) []] 2) Dk
 |false=>
  rw[k1,if_neg Dd] at hr;(try dsimp only [andThen,ok,bad] at hr)
  cases hr;have D:Told b E (mkN E.len hd w.heap.size [l] [] [] []) hd w [Fa Zk 0 (tk 321)] ⟨[],[],[],[]⟩ []:=
   ⟨h,rfl,rfl,rfl,rfl,Qa (Na rfl Dd k1 _) Xb,Dx,Qn,Ql,eqN,Qj⟩
  exact D.Qol (.inr rfl) (args:=[]) (args':=[]) (fun _ _ => .nil) (fin:=.pan (tk 128)) Dk
theorem Qoo {b f:Nat}{E:Env}{hd:Bool}(hf:f≤4294967296)(he:Reads b E false 37 #[rp b,.int .i64 1] (Xc E.len f 1 false))(ha:Reads b E false 22 #[rp b] (Xc E.len f 1 false))(htf:Reads b E false 48 #[rp b] (D7 E.len f))(hs:Du b E hd 78 #[rp b] (Qfn E.len f))(hb:Reads b E hd 45 #[rp b] (U5 E.len f)):Reads b E hd 96 #[rp b] (Zw E.len (f+1) hd):=by
 intro l w r h hr;rw[Zw] at hr;cases k1:Xg l==2 with
 |true=>
  rw[k1,if_pos rfl] at hr;obtain⟨t0,hcons⟩:=Z4 Dd k1;cases kn:Qbk l with
  |false=>rw[kn,if_neg Dd] at hr;cases hr
  |true=>
   rw[kn,if_pos rfl] at hr;have hn:Qou l=(U0 l).num.toNat:=by cases l <;> rfl
   rw[hn,Xe] at hr;cases hr;have D:Told b E (mkN E.len hd w.heap.size [l,l.tail] [] [] []) hd w [Qo 0 (tk 129) (tk 321)] ⟨[(0,1)],[],[],[131]⟩ [(129,.int .i64 2,true)]:=
    ⟨h,rfl,rfl,rfl,rfl,Qa (Qp Dd (.inl rfl) _) Xb,(P8 ⟨t0,hcons⟩),Qn,Ql,(eqC (Qe (i:=0) Dd k1) eqN),(Uj (num_pos (i:=0) Dd kn) Qj)⟩
   exact D.path (.inr rfl) (args:=[]) (args':=[]) (fun _ _ => .nil) (fin:=.tree (.nd (.int .i64 31) (.string ⟨#[]⟩) (tk 131) (tk 132) []) 1) Dk
 |false=>
  rw[k1,if_neg Dd] at hr;cases k2:isP Jp l with
  |true=>
   rw[k2,if_pos rfl] at hr;rw[Xe] at hr;cases hr;have D:Told b E (mkN E.len hd w.heap.size [l,l.tail] [] [] []) hd w [Qo 0 (tk 129) (tk 321),Qx Jp 0 1 (tk 321)] ⟨[],[],[],[]⟩ [(129,.int .i64 2,false)]:=
    ⟨h,rfl,rfl,rfl,rfl,Qa (Qp Dd (.inl rfl) _) (Qa (Qz k2 rfl _) Xb),Dx,Qn,Ql,(eqC (Qe (i:=0) Dd k1) eqN),Qj⟩
   exact D.path (.inr rfl) (args:=[]) (args':=[]) (fun _ _ => .nil) (fin:=.tree (.nd (.int .i64 32) (.string ⟨#[]⟩) (.int .u64 1) (tk 132) []) 1) Dk
  |false=>
   rw[k2,if_neg Dd] at hr;cases k3:isP Tj l with
   |true=>
    rw[k3,if_pos rfl] at hr;rw[Xe] at hr;cases hr;have D:Told b E (mkN E.len hd w.heap.size [l,l.tail] [] [] []) hd w [Qo 0 (tk 129) (tk 321),Qc Jp 0 (tk 321),Qx Tj 0 1 (tk 321)] ⟨[],[],[],[]⟩ [(129,.int .i64 2,false)]:=
     ⟨h,rfl,rfl,rfl,rfl,Qa (Qp Dd (.inl rfl) _) (Qa (Qd k2 _) (Qa (Qz k3 rfl _) Xb)),Dx,Qn,Ql,(eqC (Qe (i:=0) Dd k1) eqN),Qj⟩
    exact D.path (.inr rfl) (args:=[]) (args':=[]) (fun _ _ => .nil) (fin:=.tree (.nd (.int .i64 32) (.string ⟨#[]⟩) (.int .u64 0) (tk 132) []) 1) Dk
   |false=>
    rw[k3,if_neg Dd] at hr;cases k4:isP Zk l with
    |true=>
     rw[k4,if_pos rfl] at hr;cases k5:Xc E.len f 1 false l.tail with
     |none=>rw[k5] at hr;cases hr
     |some y6=>
      rw[k5] at hr;cases y6 with
      |error pl7=>
       (try dsimp only [andThen,ok,bad] at hr)
       cases hr;have D:Told b E (mkN E.len hd w.heap.size [l,l.tail] [] [] [(pl7:Int)]) hd w [Qo 0 (tk 129) (tk 321),Qc Jp 0 (tk 321),Qc Tj 0 (tk 321),Qx Zk 0 1 (tk 321),Xt 37 [.int .i64 1] 1 2 (.bool false)] ⟨[],[],[],[322]⟩ [(129,.int .i64 2,false)]:=
        ⟨h,rfl,rfl,rfl,rfl,Qa (Qp Dd (.inl rfl) _) (Qa (Qd k2 _) (Qa (Qd k3 _) (Qa (Qz k4 rfl _) (Qa (bad_f he Qv k5 Dd rfl) Xb)))),Dx,Qn,Ql,(eqC (Qe (i:=0) Dd k1) eqN),(Uj ⟨pl7,rfl⟩ Qj)⟩
       exact D.path (.inr rfl) (args:=[]) (args':=[]) (fun _ _ => .nil) (fin:=.pan (tk 322)) Dk
      |ok y6=>
       obtain⟨⟨t8k,t8x,t8n,t8p,t8c⟩,m7⟩:=y6;(try dsimp only [andThen,ok,bad] at hr)
       rw[G8] at hr;unfold Vl at hr;cases k9:isP Qw (X4 Qw m7) with
       |true=>
        rw[k9,if_pos rfl] at hr;(try dsimp only [andThen,ok,bad] at hr)
        cases hr;have D:Told b E (mkN E.len hd w.heap.size [l,l.tail,m7,(X4 Qw m7).tail] [.mk t8k t8x t8n t8p t8c] [] []) hd w [Qo 0 (tk 129) (tk 321),Qc Jp 0 (tk 321),Qc Tj 0 (tk 321),Qx Zk 0 1 (tk 321),Qq 37 [.int .i64 1] 1 2 (tk 256) 0 (.bool false),Ak Qw 2 3 (.bool false)] ⟨[],[],[],[]⟩ [(129,.int .i64 2,false)]:=
         ⟨h,rfl,rfl,rfl,rfl,Qa (Qp Dd (.inl rfl) _) (Qa (Qd k2 _) (Qa (Qd k3 _) (Qa (Qz k4 rfl _) (Qa (Ae he Qv k5 (.inl rfl) Dd) (Qa (Qa5 k9 rfl _) Xb))))),Dx,Qn,Ql,(eqC (Qe (i:=0) Dd k1) eqN),Qj⟩
        exact D.path (.inr rfl) (args:=[]) (args':=[]) (fun _ _ => .nil) (fin:=.tree (.ab (tk 256) (tk 257) (tk 258) (tk 259) 1) 3) Dk
       |false=>
        rw[k9,if_neg Dd] at hr;(try dsimp only [andThen,ok,bad] at hr)
        cases hr;have D:Told b E (mkN E.len hd w.heap.size [l,l.tail,m7,X4 Qw m7] [.mk t8k t8x t8n t8p t8c] [] []) hd w [Qo 0 (tk 129) (tk 321),Qc Jp 0 (tk 321),Qc Tj 0 (tk 321),Qx Zk 0 1 (tk 321),Qq 37 [.int .i64 1] 1 2 (tk 256) 0 (.bool false),Am Qw 2 3 (.bool false)] ⟨[],[],[],[]⟩ [(129,.int .i64 2,false)]:=
         ⟨h,rfl,rfl,rfl,rfl,Qa (Qp Dd (.inl rfl) _) (Qa (Qd k2 _) (Qa (Qd k3 _) (Qa (Qz k4 rfl _) (Qa (Ae he Qv k5 (.inl rfl) Dd) (Qa (Qbj rfl Dd rfl k9 _) Xb))))),Dx,Qn,Ql,(eqC (Qe (i:=0) Dd k1) eqN),Qj⟩
        exact D.path (.inr rfl) (args:=[]) (args':=[]) (fun _ _ => .nil) (fin:=.pan (tk 152)) Dk
    |false=>
     rw[k4,if_neg Dd] at hr;cases k5:isP Yg l with
     |true=>
      rw[k5,if_pos rfl] at hr;cases k6:Qfn E.len f l.tail with
      |none=>rw[k6] at hr;cases hr
      |some y7=>
       rw[k6] at hr;cases y7 with
       |error pl8=>
        (try dsimp only [andThen,ok,bad] at hr)
        cases hr;have D:Told b E (mkN E.len hd w.heap.size [l,l.tail] [] [] [(pl8:Int)]) hd w [Qo 0 (tk 129) (tk 321),Qc Jp 0 (tk 321),Qc Tj 0 (tk 321),Qc Zk 0 (tk 321),Qx Yg 0 1 (tk 321),Xt 78 [] 1 2 (tk 321)] ⟨[],[],[],[322]⟩ [(129,.int .i64 2,false)]:=
         ⟨h,rfl,rfl,rfl,rfl,Qa (Qp Dd (.inl rfl) _) (Qa (Qd k2 _) (Qa (Qd k3 _) (Qa (Qd k4 _) (Qa (Qz k5 rfl _) (Qa (Qhg hs (.inr rfl) rfl Qy k6 Dd rfl) Xb))))),Dx,Qn,Ql,(eqC (Qe (i:=0) Dd k1) eqN),(Uj ⟨pl8,rfl⟩ Qj)⟩
        exact D.path (.inr rfl) (args:=[]) (args':=[]) (fun _ _ => .nil) (fin:=.pan (tk 322)) Dk
       |ok y7=>
        obtain⟨ts9,m8⟩:=y7;(try dsimp only [andThen,ok,bad] at hr)
        cases k10:U5 E.len f m8 with
        |none=>rw[k10] at hr;cases hr
        |some y11=>
         rw[k10] at hr;cases y11 with
         |error pl12=>
          (try dsimp only [andThen,ok,bad] at hr)
          cases hr;have D:Told b E (mkN E.len hd w.heap.size [l,l.tail,m8] [] [ts9] [(pl12:Int)]) hd w [Qo 0 (tk 129) (tk 321),Qc Jp 0 (tk 321),Qc Tj 0 (tk 321),Qc Zk 0 (tk 321),Qx Yg 0 1 (tk 321),Jl 78 [] 1 2 0 (tk 321),Xt 45 [] 2 2 (tk 321)] ⟨[],[],[],[322]⟩ [(129,.int .i64 2,false)]:=
           ⟨h,rfl,rfl,rfl,rfl,Qa (Qp Dd (.inl rfl) _) (Qa (Qd k2 _) (Qa (Qd k3 _) (Qa (Qd k4 _) (Qa (Qz k5 rfl _) (Qa (Dt hs (.inr rfl) rfl Qy k6) (Qa (X6 hb (.inr rfl) rfl Qy k10 Dd rfl) Xb)))))),Dx,Qn,Ql,(eqC (Qe (i:=0) Dd k1) eqN),(Uj ⟨pl12,rfl⟩ Qj)⟩
          exact D.path (.inr rfl) (args:=[]) (args':=[]) (fun _ _ => .nil) (fin:=.pan (tk 322)) Dk
         |ok y11=>
          obtain⟨⟨t13k,t13x,t13n,t13p,t13c⟩,m12⟩:=y11;(try dsimp only [andThen,ok,bad] at hr)
          rw[Xe] at hr;cases hr;have D:Told b E (mkN E.len hd w.heap.size [l,l.tail,m8,m12] [.mk t13k t13x t13n t13p t13c] [ts9,ts9++[.mk t13k t13x t13n t13p t13c]] []) hd w [Qo 0 (tk 129) (tk 321),Qc Jp 0 (tk 321),Qc Tj 0 (tk 321),Qc Zk 0 (tk 321),Qx Yg 0 1 (tk 321),Jl 78 [] 1 2 0 (tk 321),Qq 45 [] 2 3 (tk 256) 0 (tk 321)] ⟨[],[(0,.ab (tk 256) (tk 257) (tk 258) (tk 259) 1,1)],[],[]⟩ [(129,.int .i64 2,false)]:=
           ⟨h,rfl,rfl,rfl,rfl,Qa (Qp Dd (.inl rfl) _) (Qa (Qd k2 _) (Qa (Qd k3 _) (Qa (Qd k4 _) (Qa (Qz k5 rfl _) (Qa (Dt hs (.inr rfl) rfl Qy k6) (Qa (Qs hb (.inr rfl) rfl Qy k10 (.inl rfl) Dd) Xb)))))),Dx,appS (len2_le (sigP_len k6)),Ql,(eqC (Qe (i:=0) Dd k1) eqN),Qj⟩
          exact D.path (.inr rfl) (args:=[]) (args':=[]) (fun _ _ => .nil) (fin:=.tree (.ab (.int .i64 38) (.string ⟨#[]⟩) (.int .u64 0) (tk 132) 10) 3) Dk
     |false=>
      rw[k5,if_neg Dd] at hr;unfold Rk at hr;cases k6:Xg l==1 with
      |true=>
       rw[k6,if_pos rfl] at hr;(try dsimp only [andThen,ok,bad] at hr)
       simp only[Q5,Xe] at hr;cases km:(U0 l).text==Yy with
       |true=>
        rw[km,Bool.true_and] at hr;cases k7:isP Zk l.tail with
        |true=>
         rw[k7,if_pos rfl] at hr;cases k8:D7 E.len f l.tail.tail with
         |none=>rw[k8] at hr;cases hr
         |some y9=>
          rw[k8] at hr;cases y9 with
          |error pl10=>
           (try dsimp only [andThen,ok,bad] at hr)
           cases hr;have D:Told b E (mkN E.len hd w.heap.size [l,l.tail,l.tail.tail] [] [] [(pl10:Int)]) hd w [Qo 0 (tk 129) (tk 321),Qc Jp 0 (tk 321),Qc Tj 0 (tk 321),Qc Zk 0 (tk 321),Qc Yg 0 (tk 321),Uk 0 1 (tk 321),Qx Zk 1 2 (tk 321),Xt 48 [] 2 2 (.bool false)] ⟨[],[],[],[322]⟩ [(129,.int .i64 2,false),(130,str Yy,true)]:=
            ⟨h,rfl,rfl,rfl,rfl,Qa (Qp Dd (.inl rfl) _) (Qa (Qd k2 _) (Qa (Qd k3 _) (Qa (Qd k4 _) (Qa (Qd k5 _) (Qa (Uz Dd k6 rfl _) (Qa (Qz k7 rfl _) (Qa (bad_f htf Qy k8 Dd rfl) Xb))))))),Dx,Qn,Ql,(eqC (Qe (i:=0) Dd k1) (eqC (Y4 (i:=0) Dd ((congrArg (· == Yy) (Q5 l)).trans km)) eqN)),(Uj ⟨pl10,rfl⟩ Qj)⟩
           exact D.path (.inr rfl) (args:=[]) (args':=[]) (fun _ _ => .nil) (fin:=.pan (tk 322)) Dk
          |ok y9=>
           obtain⟨⟨t11k,t11x,t11n,t11p,t11c⟩,m10⟩:=y9;(try dsimp only [andThen,ok,bad] at hr)
           unfold Vl at hr;cases k12:isP Zn m10 with
           |true=>
            rw[k12,if_pos rfl] at hr;(try dsimp only [andThen,ok,bad] at hr)
            cases k13:Xc E.len f 1 false m10.tail with
            |none=>rw[k13] at hr;cases hr
            |some y14=>
             rw[k13] at hr;cases y14 with
             |error pl15=>
              (try dsimp only [andThen,ok,bad] at hr)
              cases hr;have D:Told b E (mkN E.len hd w.heap.size [l,l.tail,l.tail.tail,m10,m10.tail] [.mk t11k t11x t11n t11p t11c] [] [(pl15:Int)]) hd w [Qo 0 (tk 129) (tk 321),Qc Jp 0 (tk 321),Qc Tj 0 (tk 321),Qc Zk 0 (tk 321),Qc Yg 0 (tk 321),Uk 0 1 (tk 321),Qx Zk 1 2 (tk 321),Qq 48 [] 2 3 (tk 256) 0 (.bool false),Xn Zn 3 4 (.bool false),Xt 37 [.int .i64 1] 4 2 (.bool false)] ⟨[],[],[],[322]⟩ [(129,.int .i64 2,false),(130,str Yy,true)]:=
               ⟨h,rfl,rfl,rfl,rfl,Qa (Qp Dd (.inl rfl) _) (Qa (Qd k2 _) (Qa (Qd k3 _) (Qa (Qd k4 _) (Qa (Qd k5 _) (Qa (Uz Dd k6 rfl _) (Qa (Qz k7 rfl _) (Qa (Ae htf Qy k8 (.inl rfl) Dd) (Qa (Xo rfl Dd k12 rfl _) (Qa (bad_f he Qv k13 Dd rfl) Xb))))))))),Dx,Qn,Ql,(eqC (Qe (i:=0) Dd k1) (eqC (Y4 (i:=0) Dd ((congrArg (· == Yy) (Q5 l)).trans km)) eqN)),(Uj ⟨pl15,rfl⟩ Qj)⟩
              exact D.path (.inr rfl) (args:=[]) (args':=[]) (fun _ _ => .nil) (fin:=.pan (tk 322)) Dk
             |ok y14=>
              obtain⟨⟨t16k,t16x,t16n,t16p,t16c⟩,m15⟩:=y14;(try dsimp only [andThen,ok,bad] at hr)
              rw[G8] at hr;unfold Vl at hr;cases k17:isP Qw (X4 Qw m15) with
              |true=>
               rw[k17,if_pos rfl] at hr;(try dsimp only [andThen,ok,bad] at hr)
               cases hr;have D:Told b E (mkN E.len hd w.heap.size [l,l.tail,l.tail.tail,m10,m10.tail,m15,(X4 Qw m15).tail] [.mk t11k t11x t11n t11p t11c,.mk t16k t16x t16n t16p t16c] [] []) hd w [Qo 0 (tk 129) (tk 321),Qc Jp 0 (tk 321),Qc Tj 0 (tk 321),Qc Zk 0 (tk 321),Qc Yg 0 (tk 321),Uk 0 1 (tk 321),Qx Zk 1 2 (tk 321),Qq 48 [] 2 3 (tk 256) 0 (.bool false),Xn Zn 3 4 (.bool false),Qq 37 [.int .i64 1] 4 5 (tk 260) 1 (.bool false),Ak Qw 5 6 (.bool false)] ⟨[],[],[],[]⟩ [(129,.int .i64 2,false),(130,str Yy,true)]:=
                ⟨h,rfl,rfl,rfl,rfl,Qa (Qp Dd (.inl rfl) _) (Qa (Qd k2 _) (Qa (Qd k3 _) (Qa (Qd k4 _) (Qa (Qd k5 _) (Qa (Uz Dd k6 rfl _) (Qa (Qz k7 rfl _) (Qa (Ae htf Qy k8 (.inl rfl) Dd) (Qa (Xo rfl Dd k12 rfl _) (Qa (Ae he Qv k13 (.inl rfl) Dd) (Qa (Qa5 k17 rfl _) Xb)))))))))),Dx,Qn,Ql,(eqC (Qe (i:=0) Dd k1) (eqC (Y4 (i:=0) Dd ((congrArg (· == Yy) (Q5 l)).trans km)) eqN)),Qj⟩
               exact D.path (.inr rfl) (args:=[]) (args':=[]) (fun _ _ => .nil) (fin:=.tree (.nd (.int .i64 40) (.string ⟨#[]⟩) (.int .u64 0) (tk 132) [.ab (tk 256) (tk 257) (tk 258) (tk 259) 1,.ab (tk 260) (tk 261) (tk 262) (tk 263) 9]) 6) Dk
              |false=>
               rw[k17,if_neg Dd] at hr;(try dsimp only [andThen,ok,bad] at hr)
               cases hr;have D:Told b E (mkN E.len hd w.heap.size [l,l.tail,l.tail.tail,m10,m10.tail,m15,X4 Qw m15] [.mk t11k t11x t11n t11p t11c,.mk t16k t16x t16n t16p t16c] [] []) hd w [Qo 0 (tk 129) (tk 321),Qc Jp 0 (tk 321),Qc Tj 0 (tk 321),Qc Zk 0 (tk 321),Qc Yg 0 (tk 321),Uk 0 1 (tk 321),Qx Zk 1 2 (tk 321),Qq 48 [] 2 3 (tk 256) 0 (.bool false),Xn Zn 3 4 (.bool false),Qq 37 [.int .i64 1] 4 5 (tk 260) 1 (.bool false),Am Qw 5 6 (.bool false)] ⟨[],[],[],[]⟩ [(129,.int .i64 2,false),(130,str Yy,true)]:=
                ⟨h,rfl,rfl,rfl,rfl,Qa (Qp Dd (.inl rfl) _) (Qa (Qd k2 _) (Qa (Qd k3 _) (Qa (Qd k4 _) (Qa (Qd k5 _) (Qa (Uz Dd k6 rfl _) (Qa (Qz k7 rfl _) (Qa (Ae htf Qy k8 (.inl rfl) Dd) (Qa (Xo rfl Dd k12 rfl _) (Qa (Ae he Qv k13 (.inl rfl) Dd) (Qa (Qbj rfl Dd rfl k17 _) Xb)))))))))),Dx,Qn,Ql,(eqC (Qe (i:=0) Dd k1) (eqC (Y4 (i:=0) Dd ((congrArg (· == Yy) (Q5 l)).trans km)) eqN)),Qj⟩
               exact D.path (.inr rfl) (args:=[]) (args':=[]) (fun _ _ => .nil) (fin:=.pan (tk 176)) Dk
           |false=>
            rw[k12,if_neg Dd] at hr;(try dsimp only [andThen,ok,bad] at hr)
            cases hr;have D:Told b E (mkN E.len hd w.heap.size [l,l.tail,l.tail.tail,m10] [.mk t11k t11x t11n t11p t11c] [] []) hd w [Qo 0 (tk 129) (tk 321),Qc Jp 0 (tk 321),Qc Tj 0 (tk 321),Qc Zk 0 (tk 321),Qc Yg 0 (tk 321),Uk 0 1 (tk 321),Qx Zk 1 2 (tk 321),Qq 48 [] 2 3 (tk 256) 0 (.bool false),Fa Zn 3 (.bool false)] ⟨[],[],[],[]⟩ [(129,.int .i64 2,false),(130,str Yy,true)]:=
             ⟨h,rfl,rfl,rfl,rfl,Qa (Qp Dd (.inl rfl) _) (Qa (Qd k2 _) (Qa (Qd k3 _) (Qa (Qd k4 _) (Qa (Qd k5 _) (Qa (Uz Dd k6 rfl _) (Qa (Qz k7 rfl _) (Qa (Ae htf Qy k8 (.inl rfl) Dd) (Qa (Na rfl Dd k12 _) Xb)))))))),Dx,Qn,Ql,(eqC (Qe (i:=0) Dd k1) (eqC (Y4 (i:=0) Dd ((congrArg (· == Yy) (Q5 l)).trans km)) eqN)),Qj⟩
            exact D.path (.inr rfl) (args:=[]) (args':=[]) (fun _ _ => .nil) (fin:=.pan (tk 152)) Dk
        |false=>
         rw[k7,if_neg Dd] at hr;cases hd with
         |true=>
          rw[Bool.not_true,Bool.false_and,if_neg Dd] at hr;cases hr;have D:Told b E (mkN E.len true w.heap.size [l,l.tail] [] [] []) true w [Qo 0 (tk 129) (.bool true),Qc Jp 0 (.bool true),Qc Tj 0 (.bool true),Qc Zk 0 (.bool true),Qc Yg 0 (.bool true),Uk 0 1 (.bool true),Qc Zk 1 (.bool true)] ⟨[],[],[],[]⟩ [(129,.int .i64 2,false),(130,str Yy,true)]:=
           ⟨h,rfl,rfl,rfl,rfl,Qa (Qp Dd (.inl rfl) _) (Qa (Qd k2 _) (Qa (Qd k3 _) (Qa (Qd k4 _) (Qa (Qd k5 _) (Qa (Uz Dd k6 rfl _) (Qa (Qd k7 _) Xb)))))),Dx,Qn,Ql,(eqC (Qe (i:=0) Dd k1) (eqC (Y4 (i:=0) Dd ((congrArg (· == Yy) (Q5 l)).trans km)) eqN)),Qj⟩
          exact D.path (.inl rfl) (args:=[]) (args':=[]) (fun _ _ => .nil) (fin:=.tree (.nd (.int .i64 30) (tk 130) (.int .u64 0) (tk 132) []) 1) Dk
         |false=>
          rw[Bool.not_false,Bool.true_and] at hr;cases k8:isP wCu l.tail with
          |true=>
           rw[k8,if_pos rfl] at hr;cases k9:U7 E.len wUc false (Xc E.len f 1 false) f l.tail.tail with
           |none=>rw[k9] at hr;cases hr
           |some y10=>
            rw[k9] at hr;cases y10 with
            |error pl11=>
             (try dsimp only [andThen,ok,bad] at hr)
             cases hr;have D:Told b E (mkN E.len false w.heap.size [l,l.tail,l.tail.tail] [] [] [(pl11:Int)]) false w [Qo 0 (tk 129) (.bool false),Qc Jp 0 (.bool false),Qc Tj 0 (.bool false),Qc Zk 0 (.bool false),Qc Yg 0 (.bool false),Uk 0 1 (.bool false),Qc Zk 1 (.bool false),Qx wCu 1 2 (.bool false),Xt 71 [str wUc,.bool false,(.func (.func 22) #[.pointer (some ⟨64,0,none⟩)] #[])] 2 2 (.bool false)] ⟨[],[],[],[322]⟩ [(129,.int .i64 2,false),(130,str Yy,true)]:=
              ⟨h,rfl,rfl,rfl,rfl,Qa (Qp Dd (.inl rfl) _) (Qa (Qd k2 _) (Qa (Qd k3 _) (Qa (Qd k4 _) (Qa (Qd k5 _) (Qa (Uz Dd k6 rfl _) (Qa (Qd k7 _) (Qa (Qz k8 rfl _) (Qa (badL_f (Ba ha hf) U6 k9 Dd rfl) Xb)))))))),Dx,Qn,Ql,(eqC (Qe (i:=0) Dd k1) (eqC (Y4 (i:=0) Dd ((congrArg (· == Yy) (Q5 l)).trans km)) eqN)),(Uj ⟨pl11,rfl⟩ Qj)⟩
             exact D.path (.inl rfl) (args:=[]) (args':=[]) (fun _ _ => .nil) (fin:=.pan (tk 322)) Dk
            |ok y10=>
             obtain⟨ts12,m11⟩:=y10;(try dsimp only [andThen,ok,bad] at hr)
             cases hr;have D:Told b E (mkN E.len false w.heap.size [l,l.tail,l.tail.tail,m11] [] [ts12] []) false w [Qo 0 (tk 129) (.bool false),Qc Jp 0 (.bool false),Qc Tj 0 (.bool false),Qc Zk 0 (.bool false),Qc Yg 0 (.bool false),Uk 0 1 (.bool false),Qc Zk 1 (.bool false),Qx wCu 1 2 (.bool false),Jl 71 [str wUc,.bool false,(.func (.func 22) #[.pointer (some ⟨64,0,none⟩)] #[])] 2 3 0 (.bool false)] ⟨[],[],[],[]⟩ [(129,.int .i64 2,false),(130,str Yy,true)]:=
              ⟨h,rfl,rfl,rfl,rfl,Qa (Qp Dd (.inl rfl) _) (Qa (Qd k2 _) (Qa (Qd k3 _) (Qa (Qd k4 _) (Qa (Qd k5 _) (Qa (Uz Dd k6 rfl _) (Qa (Qd k7 _) (Qa (Qz k8 rfl _) (Qa (list_f (Ba ha hf) U6 k9) Xb)))))))),Dx,Qn,Ql,(eqC (Qe (i:=0) Dd k1) (eqC (Y4 (i:=0) Dd ((congrArg (· == Yy) (Q5 l)).trans km)) eqN)),Qj⟩
             exact D.path (.inl rfl) (args:=[]) (args':=[]) (fun _ _ => .nil) (fin:=.tree (.ab (.int .i64 37) (tk 130) (.int .u64 0) (tk 132) 2) 3) Dk
          |false=>
           rw[k8,if_neg Dd] at hr;cases hr;have D:Told b E (mkN E.len false w.heap.size [l,l.tail] [] [] []) false w [Qo 0 (tk 129) (.bool false),Qc Jp 0 (.bool false),Qc Tj 0 (.bool false),Qc Zk 0 (.bool false),Qc Yg 0 (.bool false),Uk 0 1 (.bool false),Qc Zk 1 (.bool false),Qc wCu 1 (.bool false)] ⟨[],[],[],[]⟩ [(129,.int .i64 2,false),(130,str Yy,true)]:=
            ⟨h,rfl,rfl,rfl,rfl,Qa (Qp Dd (.inl rfl) _) (Qa (Qd k2 _) (Qa (Qd k3 _) (Qa (Qd k4 _) (Qa (Qd k5 _) (Qa (Uz Dd k6 rfl _) (Qa (Qd k7 _) (Qa (Qd k8 _) Xb))))))),Dx,Qn,Ql,(eqC (Qe (i:=0) Dd k1) (eqC (Y4 (i:=0) Dd ((congrArg (· == Yy) (Q5 l)).trans km)) eqN)),Qj⟩
           exact D.path (.inl rfl) (args:=[]) (args':=[]) (fun _ _ => .nil) (fin:=.tree (.nd (.int .i64 30) (tk 130) (.int .u64 0) (tk 132) []) 1) Dk
       |false=>
        rw[km,Bool.false_and,if_neg Dd] at hr;cases hd with
        |true=>
         rw[Bool.not_true,Bool.false_and,if_neg Dd] at hr;cases hr;have D:Told b E (mkN E.len true w.heap.size [l,l.tail] [] [] []) true w [Qo 0 (tk 129) (.bool true),Qc Jp 0 (.bool true),Qc Tj 0 (.bool true),Qc Zk 0 (.bool true),Qc Yg 0 (.bool true),Uk 0 1 (.bool true)] ⟨[],[],[],[]⟩ [(129,.int .i64 2,false),(130,str Yy,false)]:=
          ⟨h,rfl,rfl,rfl,rfl,Qa (Qp Dd (.inl rfl) _) (Qa (Qd k2 _) (Qa (Qd k3 _) (Qa (Qd k4 _) (Qa (Qd k5 _) (Qa (Uz Dd k6 rfl _) Xb))))),Dx,Qn,Ql,(eqC (Qe (i:=0) Dd k1) (eqC (Y4 (i:=0) Dd ((congrArg (· == Yy) (Q5 l)).trans km)) eqN)),Qj⟩
         exact D.path (.inl rfl) (args:=[]) (args':=[]) (fun _ _ => .nil) (fin:=.tree (.nd (.int .i64 30) (tk 130) (.int .u64 0) (tk 132) []) 1) Dk
        |false=>
         rw[Bool.not_false,Bool.true_and] at hr;cases k7:isP wCu l.tail with
         |true=>
          rw[k7,if_pos rfl] at hr;cases k8:U7 E.len wUc false (Xc E.len f 1 false) f l.tail.tail with
          |none=>rw[k8] at hr;cases hr
          |some y9=>
           rw[k8] at hr;cases y9 with
           |error pl10=>
            (try dsimp only [andThen,ok,bad] at hr)
            cases hr;have D:Told b E (mkN E.len false w.heap.size [l,l.tail,l.tail.tail] [] [] [(pl10:Int)]) false w [Qo 0 (tk 129) (.bool false),Qc Jp 0 (.bool false),Qc Tj 0 (.bool false),Qc Zk 0 (.bool false),Qc Yg 0 (.bool false),Uk 0 1 (.bool false),Qx wCu 1 2 (.bool false),Xt 71 [str wUc,.bool false,(.func (.func 22) #[.pointer (some ⟨64,0,none⟩)] #[])] 2 2 (.bool false)] ⟨[],[],[],[322]⟩ [(129,.int .i64 2,false),(130,str Yy,false)]:=
             ⟨h,rfl,rfl,rfl,rfl,Qa (Qp Dd (.inl rfl) _) (Qa (Qd k2 _) (Qa (Qd k3 _) (Qa (Qd k4 _) (Qa (Qd k5 _) (Qa (Uz Dd k6 rfl _) (Qa (Qz k7 rfl _) (Qa (badL_f (Ba ha hf) U6 k8 Dd rfl) Xb))))))),Dx,Qn,Ql,(eqC (Qe (i:=0) Dd k1) (eqC (Y4 (i:=0) Dd ((congrArg (· == Yy) (Q5 l)).trans km)) eqN)),(Uj ⟨pl10,rfl⟩ Qj)⟩
            exact D.path (.inl rfl) (args:=[]) (args':=[]) (fun _ _ => .nil) (fin:=.pan (tk 322)) Dk
           |ok y9=>
            obtain⟨ts11,m10⟩:=y9;(try dsimp only [andThen,ok,bad] at hr)
            cases hr;have D:Told b E (mkN E.len false w.heap.size [l,l.tail,l.tail.tail,m10] [] [ts11] []) false w [Qo 0 (tk 129) (.bool false),Qc Jp 0 (.bool false),Qc Tj 0 (.bool false),Qc Zk 0 (.bool false),Qc Yg 0 (.bool false),Uk 0 1 (.bool false),Qx wCu 1 2 (.bool false),Jl 71 [str wUc,.bool false,(.func (.func 22) #[.pointer (some ⟨64,0,none⟩)] #[])] 2 3 0 (.bool false)] ⟨[],[],[],[]⟩ [(129,.int .i64 2,false),(130,str Yy,false)]:=
             ⟨h,rfl,rfl,rfl,rfl,Qa (Qp Dd (.inl rfl) _) (Qa (Qd k2 _) (Qa (Qd k3 _) (Qa (Qd k4 _) (Qa (Qd k5 _) (Qa (Uz Dd k6 rfl _) (Qa (Qz k7 rfl _) (Qa (list_f (Ba ha hf) U6 k8) Xb))))))),Dx,Qn,Ql,(eqC (Qe (i:=0) Dd k1) (eqC (Y4 (i:=0) Dd ((congrArg (· == Yy) (Q5 l)).trans km)) eqN)),Qj⟩
            exact D.path (.inl rfl) (args:=[]) (args':=[]) (fun _ _ => .nil) (fin:=.tree (.ab (.int .i64 37) (tk 130) (.int .u64 0) (tk 132) 2) 3) Dk
         |false=>
          rw[k7,if_neg Dd] at hr;cases hr;have D:Told b E (mkN E.len false w.heap.size [l,l.tail] [] [] []) false w [Qo 0 (tk 129) (.bool false),Qc Jp 0 (.bool false),Qc Tj 0 (.bool false),Qc Zk 0 (.bool false),Qc Yg 0 (.bool false),Uk 0 1 (.bool false),Qc wCu 1 (.bool false)] ⟨[],[],[],[]⟩ [(129,.int .i64 2,false),(130,str Yy,false)]:=
           ⟨h,rfl,rfl,rfl,rfl,Qa (Qp Dd (.inl rfl) _) (Qa (Qd k2 _) (Qa (Qd k3 _) (Qa (Qd k4 _) (Qa (Qd k5 _) (Qa (Uz Dd k6 rfl _) (Qa (Qd k7 _) Xb)))))),Dx,Qn,Ql,(eqC (Qe (i:=0) Dd k1) (eqC (Y4 (i:=0) Dd ((congrArg (· == Yy) (Q5 l)).trans km)) eqN)),Qj⟩
          exact D.path (.inl rfl) (args:=[]) (args':=[]) (fun _ _ => .nil) (fin:=.tree (.nd (.int .i64 30) (tk 130) (.int .u64 0) (tk 132) []) 1) Dk
      |false=>
       rw[k6,if_neg Dd] at hr;(try dsimp only [andThen,ok,bad] at hr)
       cases hr;have D:Told b E (mkN E.len hd w.heap.size [l] [] [] []) hd w [Qo 0 (tk 129) (tk 321),Qc Jp 0 (tk 321),Qc Tj 0 (tk 321),Qc Zk 0 (tk 321),Qc Yg 0 (tk 321),Qca 0 (tk 321)] ⟨[],[],[],[]⟩ [(129,.int .i64 2,false)]:=
        ⟨h,rfl,rfl,rfl,rfl,Qa (Qp Dd (.inl rfl) _) (Qa (Qd k2 _) (Qa (Qd k3 _) (Qa (Qd k4 _) (Qa (Qd k5 _) (Qa (Qdg rfl Dd k6 _) Xb))))),Dx,Qn,Ql,(eqC (Qe (i:=0) Dd k1) eqN),Qj⟩
       exact D.path (.inr rfl) (args:=[]) (args':=[]) (fun _ _ => .nil) (fin:=.pan (tk 128)) Dk
end Prs
end Go.Proofs.YtcbkeecabcbogaaGreatDoor
