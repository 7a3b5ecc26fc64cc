/- Contract of selection's closure. (Printed by gen_sel.py.) Co -/
import Derived.Test.YtcbkeecabcbogaaGreatDoorSbc
set_option maxRecDepth 20000
set_option linter.unusedSimpArgs false
set_option linter.unusedVariables false
namespace Go.Proofs.YtcbkeecabcbogaaGreatDoor
section
open Go.RowKit
namespace Prs
open Ev
theorem andThen_ok {α β:Type}{r:R α}{f:α→List Tok→R β}{y:β×List Tok}(h:andThen r f=some (.ok y)):∃ x l,r=some (.ok (x,l))∧f x l=some (.ok y):=by
 unfold andThen at h;split at h
 ·cases h
 ·cases h
 ·exact⟨_,_,rfl,h⟩
theorem one_d {e f d d':Nat}{hd:Bool}{l m:List Tok}{t:Tr}(hd1:d≤1)(h:Ux e f hd d l=some (.ok ((t,d'),m))):(d':Int)=Qp0 d l∧d'≤1:=by
 cases f with
 |zero=>rw[Ux] at h;cases h
 |succ f=>
  rw[Ux] at h;unfold Qp0;cases k0:isP Xh l with
  |true=>
   rw[k0,if_pos rfl] at h;rw[if_pos rfl];split at h
   ·cases h
   ·obtain⟨_,_,-,h⟩:=andThen_ok h;cases h;exact⟨by omega,by omega⟩
  |false=>
   rw[k0,if_neg Dd] at h;rw[if_neg Dd];have key:d'=d:=by
    obtain⟨_,_,-,h⟩:=andThen_ok h;split at h
    ·obtain⟨_,_,-,h⟩:=andThen_ok h;obtain⟨_,_,-,h⟩:=andThen_ok h;obtain⟨_,_,-,h⟩:=andThen_ok h;obtain⟨_,_,-,h⟩:=andThen_ok h;obtain⟨_,_,-,h⟩:=andThen_ok h;cases h;rfl
    ·obtain⟨x,_,-,h⟩:=andThen_ok h;split at h
     ·split at h
      ·cases h
      ·obtain⟨_,_,-,h⟩:=andThen_ok h;cases h;rfl
     ·obtain⟨_,_,-,h⟩:=andThen_ok h;obtain⟨_,_,-,h⟩:=andThen_ok h;obtain⟨_,_,-,h⟩:=andThen_ok h;cases h;rfl
   subst key;exact⟨rfl,hd1⟩
section
variable {b:Nat} {E:Env} {N:Va} {w0:World}
theorem vrs_80 {p:Xb}(hax:AxN b N p){vs:List Value}(h:VRs p [.pointer (some ⟨80,0,none⟩)] vs):vs=[.pointer (some ⟨N.D,0,none⟩)]:=by
 obtain⟨s,k1,k2,k3,-⟩:=hax.cell;cases h with
 |cons h1 h=>
 cases h;cases h1 with
 |ptr hs=>
  rw[k1] at hs;cases hs;rw[k2,k3]
def evOne (i j t:Nat)(d0 d1:Int):Xt:=⟨74,[.pointer (some ⟨80,0,none⟩)],i,tk 321,.intl d0 d1 (.tree j (tk (256+4*t)) t)⟩
def Qje (i x:Nat)(d0 d1:Int):Xt:=⟨74,[.pointer (some ⟨80,0,none⟩)],i,tk 321,.intl d0 d1 (.pan (fv (tk (320+x))))⟩
theorem one_s {q0:Bool}{f i j t d d':Nat}{d0 d1:Int}(hO:OneC b E q0 f)(hbD:b<N.D)(hq:N.X 1=.bool q0)(hd1:d≤1)(h:Ux E.len f q0 d (N.L i)=some (.ok ((N.T t,d'),N.L j)))(ht:t<16)(e0:(d:Int)=d0)(e1:Qp0 d (N.L i)=d1):Uc b E N w0 (evOne i j t d0 d1):=by
 intro p hax q args' w fr hhd hargs hc1 hc2 hrd _;obtain rfl:=Qo5 hax hhd (.inr rfl) hq;rw[vrs_80 hax hargs];subst e0 e1;refine(hO _ w _ N.D d hrd hbD hd1 ⟨fr,hc1,hc2⟩ h).mono ?_;rintro e w' ⟨wm,hS,hk,v,rfl,hv,hr⟩;exact⟨wm,hS,hk,hr,.inl rfl,ht,v,rfl,by rw[hS.size];exact hv⟩
theorem one_b {q0:Bool}{f i x d pl:Nat}{d0 d1:Int}(hO:OneC b E q0 f)(hbD:b<N.D)(hq:N.X 1=.bool q0)(hd1:d≤1)(h:Ux E.len f q0 d (N.L i)=some (.error pl))(hxx:x<64)(hX:N.X x=.int .i64 (pl:Int))(e0:(d:Int)=d0)(e1:Qp0 d (N.L i)=d1):Uc b E N w0 (Qje i x d0 d1):=by
 intro p hax q args' w fr hhd hargs hc1 hc2 hrd _;obtain rfl:=Qo5 hax hhd (.inr rfl) hq;rw[vrs_80 hax hargs];subst e0 e1;refine(hO _ w _ N.D d hrd hbD hd1 ⟨fr,hc1,hc2⟩ h).mono ?_;rintro e w' ⟨wm,hS,hk,rfl⟩;exact⟨wm,hS,hk,_,rfl,.iface _ (.agg (.cons (hax.vr (by rw[Bl N hxx,hX])) .nil))⟩
end
abbrev Qpx (g:Nat)(d:Int):Box:=⟨2,.int .i64 d,.int .i64 d,g,3⟩
noncomputable def Na (b q qb g:Nat)(d:Int)(v0 v1 v2 v3:Value):Ue where
 n:=15
 rowSlot:=1
 rowTy:=26
 cells:=5
 ix:=4
 q:=q
 vs:=vsOf v0 v1 v2 v3
 boxes:=[⟨0,.pointer (some ⟨64,0,none⟩),rp b,qb,51⟩]
 direct:=[]
 mbox:=some (Qpx g d)
theorem fixS {b q qb g:Nat}{d:Int}{v0 v1 v2 v3:Value}{N:Va}{w1:World}(hq:b<q)(hb:b<w1.heap.size)(h1:qb≠b)(h2:qb≠q)(h3:qb≠g)(h4:b<g)(h5:g≠q)(h6:g<w1.heap.size)(hD:N.D=g)(o0:v0.oneCell'=true)(o1:v1.oneCell'=true)(o2:v2.oneCell'=true)(o3:v3.oneCell'=true):LFix (Na b q qb g d v0 v1 v2 v3) b N w1 where
 bq:=hq
 bw:=hb
 cells:=Nat.le_refl 5
 ixl:=show 4<5 by decide
 nb:=show 1≤8 by decide
 boxb:=fun x hx=>by obtain rfl:=List.mem_singleton.1 hx;exact⟨h1,h2⟩
 inj:=List.pairwise_singleton _ _
 one:=fun i _=>Qgk o0 o1 o2 o3 i
 cell:=fun x hx p hax=>by obtain rfl:=List.mem_singleton.1 hx;exact Qhz hax
 dir:=fun x hx=>by cases hx
 mbb:=fun x hx=>by
  cases hx;exact⟨h4,h5,fun y hy=>by obtain rfl:=List.mem_singleton.1 hy;exact h3,hD.symm,h6⟩
 mcell:=fun x hx p _=>by
  cases hx;exact .int _ _
theorem mokS {b q qb g:Nat}{d d':Int}{v0 v1 v2 v3:Value}{N:Va}:MOK (Na b q qb g d v0 v1 v2 v3) b N (some (Qpx g d')):=fun y hy=>by
 cases hy;exact⟨Qpx g d,rfl,rfl,fun p u _ h=>by cases h;rfl⟩
theorem Qg9 {b q qb g:Nat}{d:Int}{v0 v1 v2 v3:Value}{w1 w w':World}(hk:Ua b q g w1 w)(h:Ql3 (Na b q qb g d v0 v1 v2 v3) b w1 w w'):Ua b q g w1 w':=
 ⟨h.os.trans hk.os,h.tape.trans hk.tape,h.output.trans hk.output,Nat.le_trans hk.size h.size,fun k h1 h2 h3 h4=>(h.block k h1 h2 h3 (fun x hx=>by cases hx;exact h4)).trans (hk.block k h1 h2 h3 h4)⟩
theorem app1D {g len:Nat}{d:Int}{hd:Bool}{B:Nat}{ls:List (List Tok)}{t:Tr}{ts:List Tr}{acc:List Tr}{xs:List Int}(hacc:acc.length≤4294967296):Qcj (Ro g d len hd B ls (t::ts) [acc,acc++[tr0],acc++[t]] xs) [(0,Tj,1)]:=fun x hx=>by
 obtain rfl:=List.mem_singleton.1 hx;exact⟨rfl,hacc⟩
theorem put1D {g len:Nat}{d:Int}{hd:Bool}{B:Nat}{ls:List (List Tok)}{t:Tr}{ts:List Tr}{acc:List Tr}{xs:List Int}:Qht (Ro g d len hd B ls (t::ts) [acc,acc++[tr0],acc++[t]] xs) [(1,Zy 0,2)]:=fun x hx=>by
 obtain rfl:=List.mem_singleton.1 hx;exact⟨acc,tr0,rfl,by rw[Qhl Dd];rfl⟩
noncomputable def selBody:Code:=V8 (Ze 73)
theorem sel_loop {b q qb g F0:Nat}{E:Env}{w1:World}{v0 v1 v2 v3:Value}(hq:b<q)(hb:b<w1.heap.size)(h1:qb≠b)(h2:qb≠q)(h3:qb≠g)(h4:b<g)(h5:g≠q)(h6:g<w1.heap.size)(o0:v0.oneCell'=true)(o1:v1.oneCell'=true)(o2:v2.oneCell'=true)(o3:v3.oneCell'=true)(hF:F0≤4294967296)
  (hs:∀ f,f<F0→OneC b E false f) {Q:Exit→Act→World→Prop} {r:Except Nat (List Tr×List Tok)}
  (hQ:match r with
   | .ok (ts,l')=>∀ w' a' (d':Int),Qch (Na b q qb g d' v0 v1 v2 v3) b E false w1 ts l' w' a'→Ua b q g w1 w'→Q (.exit 0) a' w'
   | .error p=>∀ w' a',Ua b q g w1 w'→a'.defers=[]→Q (.panic [{ v:=Vw p,recovered:=false }]) a' w'):
  ∀ (f:Nat) (acc:List Tr) (d:Nat) (l:List Tok) (w:World) (a:Act),d≤1→acc.length+f≤F0→J8 E.len f acc d l=some r→Qch (Na b q qb g (d:Int) v0 v1 v2 v3) b E false w1 acc l w a→Ua b q g w1 w→Vl Tryz.prog selBody Q a w:=by
 intro f;induction f with
 |zero=>intro acc d l w a _ _ h;rw[J8] at h;cases h
 |succ f ih=>
  intro acc d l w a hd1 hfu h I hk;rw[J8] at h;refine Zu ?_;have X:=fun (d:Int) (N:Va) (hD:N.D=g)=>fixS (qb:=qb) (d:=d) (N:=N) hq hb h1 h2 h3 h4 h5 h6 hD o0 o1 o2 o3
  have cu:∀ (d:Int) (N:Va),∀ x∈(Na b q qb g d v0 v1 v2 v3).boxes,∀ p u,AxN b N p→VR p x.cell u→u=x.real:=fun d N x hx p u hax hv=>by obtain rfl:=List.mem_singleton.1 hx;exact Qbr hax hv
  cases k1:isP wUc l with
  |true=>
   rw[k1,if_pos rfl] at h;cases h;rcases (by omega:d=0∨d=1) with rfl|rfl
   ·
    have D:X8 (Na b q qb g 0 v0 v1 v2 v3) b E (Ro g 0 E.len false w1.heap.size [l,l.tail] [] [acc] []) false w1 w [Qx wUc 0 1 (tk 321)] ⟨[],[],[],[]⟩ []:=
     ⟨rfl,rfl,rfl,rfl,Qa (Qy k1 rfl _) (Q7),Dx,Ql,Qk,Dx,Qj,X _ _ rfl,cu _ _,Dx,Dx⟩
    exact D.Ee rfl rfl I hk.size (m:=some (Qpx g 0)) mokS (fin:=.exit 0 1 0) (fun _ _ _=>by kernel_rfl) (fun w' a' hk2 hc=>hQ w' a' 0 hc (Qg9 hk hk2))
   ·
    have D:X8 (Na b q qb g 1 v0 v1 v2 v3) b E (Ro g 0 E.len false w1.heap.size [l,l.tail] [] [acc] []) false w1 w [Qx wUc 0 1 (tk 321)] ⟨[],[],[],[]⟩ []:=
     ⟨rfl,rfl,rfl,rfl,Qa (Qy k1 rfl _) (Q7),Dx,Ql,Qk,Dx,Qj,X _ _ rfl,cu _ _,Dx,Dx⟩
    exact D.Ee rfl rfl I hk.size (m:=some (Qpx g 1)) mokS (fin:=.exit 0 1 0) (fun _ _ _=>by kernel_rfl) (fun w' a' hk2 hc=>hQ w' a' 1 hc (Qg9 hk hk2))
  |false=>
   rw[k1,if_neg Dd] at h;cases k2:Ux E.len f false d l with
   |none=>rw[k2] at h;cases h
   |some y=>
    rw[k2] at h;cases y with
    |error pl=>
     cases h;have hdf:Qp0 d l=(d:Int)+1∨Qp0 d l=(d:Int):=by unfold Qp0;split <;> simp
     rcases (by omega:d=0∨d=1) with rfl|rfl
     ·
      rcases hdf with hdf|hdf
      ·
       have D:X8 (Na b q qb g 0 v0 v1 v2 v3) b E (Ro g 0 E.len false w1.heap.size [l] [] [acc] [(pl:Int)]) false w1 w [Qc wUc 0 (tk 321),Qje 0 2 0 1] ⟨[],[],[],[322]⟩ []:=
        ⟨rfl,rfl,rfl,rfl,Qa (Qd k1 _) (Qa (one_b (hs f Dw) h4 rfl Dd k2 Dd rfl rfl hdf) (Q7)),Dx,Ql,Qk,Dx,(V6 ⟨pl,rfl⟩ Qj),X _ _ rfl,cu _ _,Dx,Dx⟩
       exact D.Ee rfl rfl I hk.size (m:=some (Qpx g 1)) mokS (fin:=.pan (tk 322)) (fun _ _ _=>by kernel_rfl) (fun w' a' hk2 hd=>hQ w' a' (Qg9 hk hk2) hd)
      ·
       have D:X8 (Na b q qb g 0 v0 v1 v2 v3) b E (Ro g 0 E.len false w1.heap.size [l] [] [acc] [(pl:Int)]) false w1 w [Qc wUc 0 (tk 321),Qje 0 2 0 0] ⟨[],[],[],[322]⟩ []:=
        ⟨rfl,rfl,rfl,rfl,Qa (Qd k1 _) (Qa (one_b (hs f Dw) h4 rfl Dd k2 Dd rfl rfl hdf) (Q7)),Dx,Ql,Qk,Dx,(V6 ⟨pl,rfl⟩ Qj),X _ _ rfl,cu _ _,Dx,Dx⟩
       exact D.Ee rfl rfl I hk.size (m:=some (Qpx g 0)) mokS (fin:=.pan (tk 322)) (fun _ _ _=>by kernel_rfl) (fun w' a' hk2 hd=>hQ w' a' (Qg9 hk hk2) hd)
     ·
      rcases hdf with hdf|hdf
      ·
       have D:X8 (Na b q qb g 1 v0 v1 v2 v3) b E (Ro g 0 E.len false w1.heap.size [l] [] [acc] [(pl:Int)]) false w1 w [Qc wUc 0 (tk 321),Qje 0 2 1 2] ⟨[],[],[],[322]⟩ []:=
        ⟨rfl,rfl,rfl,rfl,Qa (Qd k1 _) (Qa (one_b (hs f Dw) h4 rfl Dd k2 Dd rfl rfl hdf) (Q7)),Dx,Ql,Qk,Dx,(V6 ⟨pl,rfl⟩ Qj),X _ _ rfl,cu _ _,Dx,Dx⟩
       exact D.Ee rfl rfl I hk.size (m:=some (Qpx g 2)) mokS (fin:=.pan (tk 322)) (fun _ _ _=>by kernel_rfl) (fun w' a' hk2 hd=>hQ w' a' (Qg9 hk hk2) hd)
      ·
       have D:X8 (Na b q qb g 1 v0 v1 v2 v3) b E (Ro g 0 E.len false w1.heap.size [l] [] [acc] [(pl:Int)]) false w1 w [Qc wUc 0 (tk 321),Qje 0 2 1 1] ⟨[],[],[],[322]⟩ []:=
        ⟨rfl,rfl,rfl,rfl,Qa (Qd k1 _) (Qa (one_b (hs f Dw) h4 rfl Dd k2 Dd rfl rfl hdf) (Q7)),Dx,Ql,Qk,Dx,(V6 ⟨pl,rfl⟩ Qj),X _ _ rfl,cu _ _,Dx,Dx⟩
       exact D.Ee rfl rfl I hk.size (m:=some (Qpx g 1)) mokS (fin:=.pan (tk 322)) (fun _ _ _=>by kernel_rfl) (fun w' a' hk2 hd=>hQ w' a' (Qg9 hk hk2) hd)
    |ok y=>
     obtain⟨⟨t,d2⟩,m⟩:=y;dsimp only [andThen] at h;obtain⟨hda,hd2⟩:=one_d hd1 k2;have hdc:(d=0∧d2=0)∨(d=0∧d2=1)∨(d=1∧d2=1):=by
      have:Qp0 d l=(d:Int)+1∨Qp0 d l=(d:Int):=by unfold Qp0;split <;> simp
      omega
     rcases hdc with ⟨rfl,rfl⟩|⟨rfl,rfl⟩|⟨rfl,rfl⟩
     ·
      have D:X8 (Na b q qb g 0 v0 v1 v2 v3) b E (Ro g 0 E.len false w1.heap.size [l,m] [t] [acc,acc++[tr0],acc++[t]] []) false w1 w [Qc wUc 0 (tk 321),evOne 0 1 0 0 0] ⟨[],[(0,Tj,1)],[(1,Zy 0,2)],[]⟩ []:=
       ⟨rfl,rfl,rfl,rfl,Qa (Qd k1 _) (Qa (one_s (hs f Dw) h4 rfl Dd k2 Dd rfl hda.symm) (Q7)),Dx,app1D Dw,put1D,Dx,Qj,X _ _ rfl,cu _ _,Dx,Dx⟩
      exact D.Ee rfl rfl I hk.size (m:=some (Qpx g 0)) mokS (fin:=.again 1 2) (fun _ _ _=>by kernel_rfl) (fun w' a' hk2 hc=>ih (acc++[t]) 0 m w' a' Dd (by simp;omega) h hc (Qg9 hk hk2))
     ·
      have D:X8 (Na b q qb g 0 v0 v1 v2 v3) b E (Ro g 0 E.len false w1.heap.size [l,m] [t] [acc,acc++[tr0],acc++[t]] []) false w1 w [Qc wUc 0 (tk 321),evOne 0 1 0 0 1] ⟨[],[(0,Tj,1)],[(1,Zy 0,2)],[]⟩ []:=
       ⟨rfl,rfl,rfl,rfl,Qa (Qd k1 _) (Qa (one_s (hs f Dw) h4 rfl Dd k2 Dd rfl hda.symm) (Q7)),Dx,app1D Dw,put1D,Dx,Qj,X _ _ rfl,cu _ _,Dx,Dx⟩
      exact D.Ee rfl rfl I hk.size (m:=some (Qpx g 1)) mokS (fin:=.again 1 2) (fun _ _ _=>by kernel_rfl) (fun w' a' hk2 hc=>ih (acc++[t]) 1 m w' a' Dd (by simp;omega) h hc (Qg9 hk hk2))
     ·
      have D:X8 (Na b q qb g 1 v0 v1 v2 v3) b E (Ro g 0 E.len false w1.heap.size [l,m] [t] [acc,acc++[tr0],acc++[t]] []) false w1 w [Qc wUc 0 (tk 321),evOne 0 1 0 1 1] ⟨[],[(0,Tj,1)],[(1,Zy 0,2)],[]⟩ []:=
       ⟨rfl,rfl,rfl,rfl,Qa (Qd k1 _) (Qa (one_s (hs f Dw) h4 rfl Dd k2 Dd rfl hda.symm) (Q7)),Dx,app1D Dw,put1D,Dx,Qj,X _ _ rfl,cu _ _,Dx,Dx⟩
      exact D.Ee rfl rfl I hk.size (m:=some (Qpx g 1)) mokS (fin:=.again 1 2) (fun _ _ _=>by kernel_rfl) (fun w' a' hk2 hc=>ih (acc++[t]) 1 m w' a' Dd (by simp;omega) h hc (Qg9 hk hk2))
def FillsS (b q qb g:Nat)(v0 v1 v2 v3:Value)(E:Env)(r:Except Nat (List Tr×List Tok))(w1:World)(e:Ending)(w':World):Prop:=Ua b q g w1 w'∧match r with
 | .ok (ts,l')=>e=.returned (.tuple #[])∧∃ a' d',Qch (Na b q qb g d' v0 v1 v2 v3) b E false w1 ts l' w' a'
 | .error p=>e=failed p
theorem sel1_c {b q qb g F0 f:Nat}{E:Env}{w:World}{v0 v1 v2 v3:Value}(hq:b<q)(h1:qb≠b)(h2:qb≠q)(h3:qb≠g)(h4:b<g)(h5:g≠q)(o0:v0.oneCell'=true)(o1:v1.oneCell'=true)(o2:v2.oneCell'=true)(o3:v3.oneCell'=true)(hF:F0≤4294967296)(hf:f≤F0)
  (hs:∀ f,f<F0→OneC b E false f) {l:List Tok} {r:Except Nat (List Tr×List Tok)} (hr:J8 E.len f [] 0 l=some r) (hrd:RdB b E w l false)
  (hrow:w.heap[q]? = some (.cells #[v0,v1,v2,v3,.slice none 0 0] 26 (0,0))) (hbox:w.heap[qb]? = some (.cells #[rp b] 51 (0,0))) (hcell:w.heap[g]? = some (.cells #[.int .i64 0] 3 (0,0))):
  Calls Tryz.prog 73 #[.pointer (some ⟨qb,0,none⟩),.pointer (some ⟨q,0,none⟩),.pointer (some ⟨g,0,none⟩)] w (FillsS b q qb g v0 v1 v2 v3 E r w):=by
 refine calls_of_wp (fn:=Tryz.f73) (c:=.block 0 (.loop (V8 (Ze 73)))) Dk Dk ?_;refine wp_block (Zr ?_);show Vl _ _ _ _ _
 have I:Qch (Na b q qb g ((0:Nat):Int) v0 v1 v2 v3) b E false w [] l w ⟨#[.pointer (some ⟨qb,0,none⟩),.pointer (some ⟨q,0,none⟩),.pointer (some ⟨g,0,none⟩)]++Array.replicate 12 undef,[]⟩:={
  rd:=hrd
  row:=⟨.slice none 0 0,noF,(0,0),hrow,fun j _=>by simp,fun _=>rfl,⟨none,0,rfl,by simp,by decide,fun k hk=>absurd rfl hk,.inl ⟨rfl,rfl,rfl⟩⟩,fun k o hk=>(by cases hk),rfl,rfl,fun _ _=>rfl⟩
  box:=fun x hx=>by obtain rfl:=List.mem_singleton.1 hx;exact⟨(0,0),hbox,fun j _=>by simp⟩
  rowS:=Zj _ _ _ _ rfl
  boxS:=fun x hx=>by obtain rfl:=List.mem_singleton.1 hx;exact Zj _ _ _ _ rfl
  dirS:=fun x hx=>by cases hx
  n:=rfl
  ds:=rfl
  mb:=fun x hx=>by
   cases hx
   exact⟨⟨(0,0),hcell,fun j _=>by simp⟩,Zj _ _ _ _ rfl⟩ }
 refine sel_loop (F0:=F0) hq hrd.lt h1 h2 h3 h4 h5 (Array.getElem?_eq_some_iff.1 hcell).1 o0 o1 o2 o3 hF hs (r:=r) ?_ f [] 0 l w _ Dd (by simpa using hf) hr I ⟨rfl,rfl,rfl,Nat.le_refl _,fun _ _ _ _ _=>rfl⟩;cases r with
 |error p=>
  intro w' a' hk hd;obtain⟨tm,ds⟩:=a';obtain rfl:ds=[]:=hd;exact⟨rfl,hk,rfl⟩
 |ok y=>
  obtain⟨ts,l'⟩:=y;intro w' a' d' I' hk;obtain⟨tm,ds⟩:=a';obtain rfl:ds=[]:=I'.ds;exact end_none (show Tryz.f73.results = #[] from rfl) ⟨hk,rfl,_,d',I'⟩
end Prs
end
section
open Go.RowKit
namespace Prs
open Ev
theorem Ua.trans {b q r:Nat}{u v w:World}(h:Ua b q r u v)(k:Ua b q r v w):Ua b q r u w:=
 ⟨k.os.trans h.os,k.tape.trans h.tape,k.output.trans h.output,Nat.le_trans h.size k.size,fun i hi hb hq hr=>(k.block i (Nat.lt_of_lt_of_le hi h.size) hb hq hr).trans (h.block i hi hb hq hr)⟩
theorem Qo.toQ2 {b:Nat}{w w':World}(h:Qo b w w')(q r:Nat):Ua b q r w w':=⟨h.os,h.tape,h.output,h.size,fun k h1 h2 _ _=>h.block k h1 h2⟩
theorem Ua.toR {b q r:Nat}{u v w:World}(h:Qo b u v)(k:Ua b q r v w)(hq:u.heap.size≤q)(hr:u.heap.size≤r):Qo b u w:=
 ⟨k.os.trans h.os,k.tape.trans h.tape,k.output.trans h.output,Nat.le_trans h.size k.size,fun i hi hb=>(k.block i (Nat.lt_of_lt_of_le hi h.size) hb Dw Dw).trans (h.block i hi hb)⟩
theorem Qc7 (b:Nat)(E:Env)(l:List Tok)(hd:Bool)(w:World)(h:RdB b E w l hd)(q g:Nat)(cap:Array Value)(S:World→List Tok→Prop)(F:Nat→Prop)
  (hf:∀ w1,RdB b E w1 l false→Qo b w w1→Calls Tryz.prog 73 cap w1 fun e w2=>Ua b q g w1 w2∧((e=.returned (.tuple #[])∧∃ l',RdB b E w2 l' false∧S w2 l')∨∃ p,e=failed p∧F p)):
  Calls Tryz.prog 69 #[rp b,.func (.func 73) #[] cap] w fun e w'=>Ua b q g w w'∧((e=.returned (.tuple #[])∧∃ l' w2,RdB b E w' l' hd∧S w2 l'∧Qo b w2 w')∨∃ p,e=failed p∧F p):=by
 obtain⟨a,c,h0,h1,h2,h3,h4,-⟩:=h.open_;have HR:=Dh h;have HF:=Dh hf;clear h hf;go_enter Tryz.func69,Tryz.ntmps69
 go_wp2_with (go_at_call 73;refine(HF.out _ (HR.out.setHead false) (Qo.set _ _ _)).mono ?_;rintro e w2 ⟨hk,hq⟩;rcases hq with ⟨rfl,l',hr,hs⟩|⟨p,rfl,hp⟩ <;> try (obtain⟨a2,c2,g0,g1,g2,g3,g4,-⟩:=hr.open_))
 ·refine end_none (show Tryz.f69.results = #[] from rfl) ?_;exact⟨(((Qo.set _ _ _).toQ2 q g).trans hk).trans ((Qo.set _ _ _).toQ2 q g),.inl ⟨rfl,l',w2,hr.setHead hd,hs,Qo.set _ _ _⟩⟩
 ·exact⟨rfl,((Qo.set _ _ _).toQ2 q g).trans hk,.inr ⟨p,rfl,hp⟩⟩
def LeftS (b q qb g:Nat)(v0 v1 v2 v3:Value)(E:Env)(w3:World)(y:Except Nat (List Tr×List Tok))(w4:World)(l':List Tok):Prop:=∃ ts,y=.ok (ts,l')∧∃ wm am d',w3.heap.size≤wm.heap.size∧Qch (Na b q qb g d' v0 v1 v2 v3) b E false wm ts l' w4 am
theorem Qf2 {b q qb g:Nat}{v0 v1 v2 v3:Value}{E:Env}{w1 w3:World}{y:Except Nat (List Tr×List Tok)}(h:w3.heap.size≤w1.heap.size)(e:Ending)(w':World)(hf:FillsS b q qb g v0 v1 v2 v3 E y w1 e w'):Ua b q g w1 w'∧((e=.returned (.tuple #[])∧∃ l',RdB b E w' l' false∧LeftS b q qb g v0 v1 v2 v3 E w3 y w' l')∨∃ p,e=failed p∧y=.error p):=by
 obtain⟨hk,hf⟩:=hf;cases y with
 |error p=>
  exact⟨hk,.inr ⟨p,hf,rfl⟩⟩
 |ok y=>
  obtain⟨ts,l'⟩:=y;obtain⟨rfl,a',d',I⟩:=hf;exact⟨hk,.inl ⟨rfl,l',I.rd,ts,rfl,w1,a',d',h,I⟩⟩
theorem Qfs (w:World)(o o' o'':Obj):(((w.alloc o).alloc o').alloc o'').heap[w.heap.size+1+1]? = some o'':=by
 have:=Qz ((w.alloc o).alloc o') o'';rwa [World.size_alloc,World.size_alloc] at this
theorem Qkf {b f p:Nat}{E:Env}{hd:Bool}(hF:f≤4294967296)(hs:∀ g,g<f→OneC b E false g):Reads b E hd 51 #[rp b,.int .i64 (p:Int)] (V5 E.len (f+1) p):=by
 intro l w r h hr;have hb:=h.lt;have HR:=Dh h;have HS:=Dh hs;have HF:=Dh hF;have HW:=Dh fun w (h:RdB b E w l hd)=>Ai b E l hd w wCu h
 rw[V5] at hr;unfold Ub at hr;cases h1:isP wCu l with
 |false=>
  rw[h1,if_neg Dd] at hr;cases hr;rw[h1] at HW;clear h hs hF;go_enter Tryz.func51,Tryz.ntmps51
  have hbx:=Qz w (.cells #[rp b] 51);go_wp2_with (go_at_call 68;refine(HW.out _ (((HR.out.new _).new _).new _)).mono ?_;rintro e w2 ⟨hk,hr⟩;rw[if_neg Dd] at hr;obtain rfl:=hr)
  exact⟨rfl,(((Qo.new _ _).trans (Qo.new _ _)).trans (Qo.new _ _)).trans hk,rfl⟩
 |true=>
  rw[h1,if_pos rfl] at hr;dsimp only [andThen,ok] at hr;rw[h1] at HW;cases h2:J8 E.len f [] 0 l.tail with
  |none=>rw[h2] at hr;cases hr
  |some y=>
  rw[h2] at hr;have H2:=Dh h2;have HY:=Dh hr;clear h hs h2 hr hF;cases y with
  |error pl=>
   cases HY.out;go_enter Tryz.func51,Tryz.ntmps51
   go_wp2_with (first|(go_at_call 68;refine(HW.out _ (((HR.out.new _).new _).new _)).mono ?_;rintro e w2 ⟨hk,hr2⟩;rw[if_pos rfl] at hr2;obtain⟨rfl,hr2⟩:=hr2;have hr2:=Dh hr2;have hw2:=hk.row hb (Xw (Xw (Qz w (.cells #[rp b] 51)) (.cells Q3 26)) (.cells #[.int .i64 42,.string ⟨#[]⟩,.int .u64 0,.int .i64 (p:Int),.slice none 0 0] 26));have hw3:=Xw hw2 (.cells #[.int .i64 0] 3);obtain⟨hbx,-⟩:=Qc0 hw3;have hs2:w.heap.size+3≤w2.heap.size:=(by have h9:=hk.size;simp at h9;omega);have hq2:=Dh (hk.row (q:=w.heap.size+1+1) Dw (Qfs w (.cells #[rp b] 51) (.cells Q3 26) (.cells #[.int .i64 42,.string ⟨#[]⟩,.int .u64 0,.int .i64 (p:Int),.slice none 0 0] 26)));have hz2:=Dh (hk.row (q:=w.heap.size+1) Dw (Xw (Jh w (.cells #[rp b] 51) (.cells Q3 26)) (.cells #[.int .i64 42,.string ⟨#[]⟩,.int .u64 0,.int .i64 (p:Int),.slice none 0 0] 26)));have hk:=Dh hk;have hw2:=Dh hw2;have hw3:=Dh hw3)|(go_at_call 69;refine(Qc7 b E l.tail hd _ (hr2.out.new _) (w.heap.size+1+1) w2.heap.size _ (LeftS b (w.heap.size+1+1) w.heap.size w2.heap.size (.int .i64 42) (.string ⟨#[]⟩) (.int .u64 0) (.int .i64 (p:Int)) E (w2.alloc (.cells #[.int .i64 0] 3)) (Except.error pl:Except Nat (List Tr×List Tok))) (fun p=>(Except.error pl:Except Nat (List Tr×List Tok))=.error p) (fun w1 g1 g2=>(sel1_c (r:=(Except.error pl:Except Nat (List Tr×List Tok))) (q:=w.heap.size+1+1) (qb:=w.heap.size) (g:=w2.heap.size) Dw Dw Dw Dw Dw Dw rfl rfl rfl rfl HF.out (Nat.le_refl _) HS.out H2.out g1 (g2.row Dw (Xw hq2.out _)) (g2.row hb hw3.out) (g2.row Dw (Qz w2 _))).mono (Qf2 g2.size))).mono ?_;rintro e w5 ⟨hk5,hq5⟩;rcases hq5 with ⟨-,l2,w4,-,⟨ts,h,-⟩,-⟩|⟨p,rfl,h⟩;cases h;cases h))
   exact⟨rfl,Ua.toR (((((Qo.new _ _).trans (Qo.new _ _)).trans (Qo.new _ _)).trans hk.out).trans (Qo.new _ _)) hk5 Dw Dw,rfl⟩
  |ok y=>
   obtain⟨ts,l2⟩:=y;cases HY.out;go_enter Tryz.func51,Tryz.ntmps51
   go_wp2_with (first|(go_at_call 68;refine(HW.out _ (((HR.out.new _).new _).new _)).mono ?_;rintro e w2 ⟨hk,hr2⟩;rw[if_pos rfl] at hr2;obtain⟨rfl,hr2⟩:=hr2;have hr2:=Dh hr2;have hw2:=hk.row hb (Xw (Xw (Qz w (.cells #[rp b] 51)) (.cells Q3 26)) (.cells #[.int .i64 42,.string ⟨#[]⟩,.int .u64 0,.int .i64 (p:Int),.slice none 0 0] 26));have hw3:=Xw hw2 (.cells #[.int .i64 0] 3);obtain⟨hbx,-⟩:=Qc0 hw3;have hs2:w.heap.size+3≤w2.heap.size:=(by have h9:=hk.size;simp at h9;omega);have hq2:=Dh (hk.row (q:=w.heap.size+1+1) Dw (Qfs w (.cells #[rp b] 51) (.cells Q3 26) (.cells #[.int .i64 42,.string ⟨#[]⟩,.int .u64 0,.int .i64 (p:Int),.slice none 0 0] 26)));have hz2:=Dh (hk.row (q:=w.heap.size+1) Dw (Xw (Jh w (.cells #[rp b] 51) (.cells Q3 26)) (.cells #[.int .i64 42,.string ⟨#[]⟩,.int .u64 0,.int .i64 (p:Int),.slice none 0 0] 26)));have hk:=Dh hk;have hw2:=Dh hw2;have hw3:=Dh hw3)|(go_at_call 69;refine(Qc7 b E l.tail hd _ (hr2.out.new _) (w.heap.size+1+1) w2.heap.size _ (LeftS b (w.heap.size+1+1) w.heap.size w2.heap.size (.int .i64 42) (.string ⟨#[]⟩) (.int .u64 0) (.int .i64 (p:Int)) E (w2.alloc (.cells #[.int .i64 0] 3)) (Except.ok (ts,l2):Except Nat (List Tr×List Tok))) (fun p=>(Except.ok (ts,l2):Except Nat (List Tr×List Tok))=.error p) (fun w1 g1 g2=>(sel1_c (r:=(Except.ok (ts,l2):Except Nat (List Tr×List Tok))) (q:=w.heap.size+1+1) (qb:=w.heap.size) (g:=w2.heap.size) Dw Dw Dw Dw Dw Dw rfl rfl rfl rfl HF.out (Nat.le_refl _) HS.out H2.out g1 (g2.row Dw (Xw hq2.out _)) (g2.row hb hw3.out) (g2.row Dw (Qz w2 _))).mono (Qf2 g2.size))).mono ?_;rintro e w5 ⟨hk5,hq5⟩;rcases hq5 with hq5|⟨p,-,h⟩;rotate_left;(cases h);obtain⟨rfl,l3,w4,hr5,⟨ts2,h,wm,am,d',hsz,I⟩,hk4⟩:=hq5;cases h;obtain⟨v,F,fr,hrow4,hfr,hfr0,hG,hF4,f1,f2,f3⟩:=I.row;obtain rfl:=hfr0 (show (5:Nat)≠1 by decide);have hrow5:w5.heap[w.heap.size+1+1]? = some (.cells #[.int .i64 42,.string ⟨#[]⟩,.int .u64 0,.int .i64 (p:Int),v] 26 (0,0)):=hk4.row Dw hrow4;have hrow5:=Dh hrow5;have hone:=Dh (hG.ones (n0:=42) (n1:=⟨#[]⟩) (n2:=0) (n3:=(p:Int)));have hz5:=Dh ((hk5.block (w.heap.size+1) (by rw[World.size_alloc];omega) Dw Dw Dw).trans (Xw hz2.out (.cells #[.int .i64 0] 3))))|((with_reducible refine wpList_load_row rfl 26 _ rfl (w.heap.size+1+1) ?hx 26 #[.int .i64 42,.string ⟨#[]⟩,.int .u64 0,.int .i64 (p:Int),v] (0,0) _ ?hg Tryz.underlying26 ?hd (Xe _ rfl) ?_);(case hd=>rfl);(case hx=>rfl);(case hg=>exact hrow5.out))|((with_reducible refine wpList_store_rowTo rfl 26 _ _ rfl rfl (w.heap.size+1) #[.int .i64 42,.string ⟨#[]⟩,.int .u64 0,.int .i64 (p:Int),v] ?hx ?hy 26 Q3 ?hg (Xe _ rfl) ?hs hone.out ?_);(case hx=>rfl);(case hy=>rfl);(case hs=>rfl);(case hg=>exact hz5.out))|((with_reducible refine Hq rfl _ _ rfl rfl (v0:=.int .i64 42) (v1:=.string ⟨#[]⟩) (v2:=.int .u64 0) (v3:=.int .i64 (p:Int)) (v4:=.slice none 0 0) ?hx ?hy rfl ?_);(case hx=>rfl);(case hy=>rfl);intro W1 hrw hB1;have hrw:=Dh hrw;have hB1:=Dh hB1))
   have hlo:∀ k,F k≠none→w.heap.size+3≤k:=fun k hk=>by
    obtain⟨_,_,-,-,-,h4,-⟩:=hG;have h4:=h4 k hk;rw[World.size_alloc] at hsz;omega
   refine Dj (show Tryz.f51.results = #[.cell 4 26] from rfl) rfl (q:=w.heap.size+1) (by rfl) (setRow_heap _ (w.heap.size+1) Q3 _ 26 (0,0) hz5.out) ((Ua.toR (((((Qo.new _ _).trans (Qo.new _ _)).trans (Qo.new _ _)).trans hk.out).trans (Qo.new _ _)) hk5 Dw Dw).setRow (Nat.le_succ _) _) ?_ (hr5.setRow Dw _);refine Rt.node hG (fun k o hk=>?_) (fun k hk=>by rw[World.size_alloc] at hsz;omega) 42 [] 0 p;have hlt:=hlo k (by rw[hk];simp);exact(setRow_other _ _ _ _ Dw).trans ((hk4.block k (Array.getElem?_eq_some_iff.1 (hF4 k o hk)).1 Dw).trans (hF4 k o hk))
structure AllC (b:Nat)(E:Env)(f:Nat):Prop where
 typ:∀ hd,Reads b E hd 48 #[rp b] (Bc E.len f)
 param:∀ hd,Reads b E hd 76 #[rp b] (Jz E.len f)
 sig:∀ hd,Du b E hd 78 #[rp b] (Qfj E.len f)
 block:∀ hd,Reads b E hd 45 #[rp b] (U6 E.len f)
 branch:∀ hd (p:Nat),Reads b E hd 49 #[rp b,.int .i64 (p:Int)] (Kq E.len f p)
 stmt:∀ hd,Reads b E hd 26 #[rp b] (We E.len f hd)
 simple:∀ hd,Reads b E hd 52 #[rp b] (J7 E.len f hd)
 body:∀ hd,Reads b E hd 100 #[rp b] (Rj E.len f hd)
 one:∀ hd,OneC b E hd f
 sel:∀ hd (p:Nat),Reads b E hd 51 #[rp b,.int .i64 (p:Int)] (V5 E.len f p)
 expr:∀ hd (k:Nat),k≤5→Reads b E hd 37 #[rp b,.int .i64 ((k+1:Nat):Int)] (Xj E.len f (k+1) hd)
 unary:∀ hd,Reads b E hd 64 #[rp b] (Vg E.len f hd)
 operand:∀ hd,Reads b E hd 96 #[rp b] (Tc E.len f hd)
 arg:Reads b E false 97 #[rp b] (Qlz E.len f)
theorem all_c {b:Nat}{E:Env}(hB:J4 b E):∀ F:Nat,F≤4294967296→∀ f,f≤F→AllC b E f:=by
 intro F;induction F with
 |zero=>
  intro _ f hf;obtain rfl:f=0:=by omega
  exact {
   typ:=fun hd l w r h hr=>by rw[Bc] at hr;cases hr
   param:=fun hd l w r h hr=>by rw[Jz] at hr;cases hr
   sig:=fun hd l w r h hr=>by rw[Qfj] at hr;cases hr
   block:=fun hd l w r h hr=>by rw[U6] at hr;cases hr
   branch:=fun hd p l w r h hr=>by rw[Kq] at hr;cases hr
   stmt:=fun hd l w r h hr=>by rw[We] at hr;cases hr
   simple:=fun hd l w r h hr=>by rw[J7] at hr;cases hr
   body:=fun hd l w r h hr=>by rw[Rj] at hr;cases hr
   one:=fun hd l w r g d h _ _ _ hr=>by rw[Ux] at hr;cases hr
   sel:=fun hd p l w r h hr=>by rw[V5] at hr;cases hr
   expr:=fun hd k _ l w r h hr=>by rw[Xj] at hr;cases hr
   unary:=fun hd l w r h hr=>by rw[Vg] at hr;cases hr
   operand:=fun hd l w r h hr=>by rw[Tc] at hr;cases hr
   arg:=fun l w r h hr=>by rw[Qlz] at hr;cases hr }
 |succ F ih=>
  intro hF f hf;have ih:=ih Dw;rcases Nat.lt_or_ge F f with h1|h1;case inr=>exact ih f h1
  obtain rfl:f=F+1:=by omega
  have A:=ih F (Nat.le_refl _);have hF':F≤4294967296:=by omega
  have e1:∀ hd,Reads b E hd 37 #[rp b,.int .i64 1] (Xj E.len F 1 hd):=fun hd=>A.expr hd 0 Dd
  have hx:∀ hd (k g:Nat),k≤5→g<F→Reads b E hd 37 #[rp b,.int .i64 ((k+1:Nat):Int)] (Xj E.len g (k+1) hd):=fun hd k g hk hg=>(ih g Dw).expr hd k hk
  exact {
   typ:=fun hd=>typ_c' hF' A.typ
   param:=fun hd=>param_c (A.typ hd)
   sig:=fun hd=>sig_c hF' (A.param false) (A.typ hd)
   block:=fun hd=>block_c (F0:=F+1) hF Dw fun g hg=>(ih g Dw).stmt false
   branch:=fun hd p=>branch_c (Qmv (e1 true)) (A.block hd) (A.branch hd)
   stmt:=fun hd=>stmt_c (e1 hd) (A.typ hd) (Qmv (e1 true)) (A.block hd) (A.branch hd) (A.sel hd) (A.simple hd)
   simple:=fun hd=>simple_c (e1 hd)
   body:=fun hd=>body_c hF' fun g hg=>(ih g Dw).stmt hd
   one:=fun hd=>one_c (e1 hd) (A.body hd) (A.unary hd)
   sel:=fun hd p=>Qkf hF' fun g hg=>(ih g Dw).one false
   expr:=fun hd k hk=>by
    rcases (by omega:k=0∨k=1∨k=2∨k=3∨k=4∨k=5) with rfl|rfl|rfl|rfl|rfl|rfl
    ·exact expr_c1 hB (A.unary hd) (hx hd)
    ·exact expr_c2 hB (A.unary hd) (hx hd)
    ·exact expr_c3 hB (A.unary hd) (hx hd)
    ·exact expr_c4 hB (A.unary hd) (hx hd)
    ·exact expr_c5 hB (A.unary hd) (hx hd)
    ·exact expr_c6 hB (A.unary hd) (hx hd)
   unary:=fun hd=>unary_c hF' (fun g hg=>any_c ((ih g Dw).expr false 0 Dd)) (fun g hg=>(ih g Dw).arg) (A.unary hd) (A.operand hd)
   operand:=fun hd=>Qr4 hF' (e1 false) (any_c (e1 false)) (A.typ false) (A.sig hd) (A.block hd)
   arg:=arg_c (e1 false) (A.typ false) }
theorem Qqp {b f:Nat}{E:Env}(hB:J4 b E)(hf:f≤4294967296)(hd:Bool):Reads b E hd 22 #[rp b] (Xj E.len f 1 hd):=any_c ((all_c hB f hf f (Nat.le_refl _)).expr hd 0 Dd)
theorem reader_c {b f:Nat}{E:Env}(hB:J4 b E)(hf:f≤4294967296):(∀ hd,Reads b E hd 22 #[rp b] (Xj E.len f 1 hd))∧(∀ hd,Reads b E hd 26 #[rp b] (We E.len f hd))∧(∀ hd,Reads b E hd 27 #[rp b] (Jb E.len f)):=by
 have A:=all_c hB f hf;refine⟨fun hd=>any_c ((A f (Nat.le_refl _)).expr hd 0 Dd),(A f (Nat.le_refl _)).stmt,fun hd=>Qrv hf (fun g p hg=>Qka Dw fun g' hg'=>(A g' Dw).param hd) fun g p hg=>Qo9 Dw ((A g Dw).sig hd) ((A g Dw).block hd)⟩
end Prs
end
end Go.Proofs.YtcbkeecabcbogaaGreatDoor
