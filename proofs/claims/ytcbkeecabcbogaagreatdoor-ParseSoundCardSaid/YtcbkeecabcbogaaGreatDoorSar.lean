/- Contract of what many's closure does, once for each function -/
import Derived.Test.YtcbkeecabcbogaaGreatDoorSaq
set_option maxRecDepth 20000
set_option linter.unusedSimpArgs false
set_option linter.unusedVariables false
namespace Go.Proofs.YtcbkeecabcbogaaGreatDoor
open Go.RowKit
namespace Prs
open Ev
noncomputable def seqL:Code→Code
 | .seq a _=>a
 |c=>c
noncomputable def Qaz:Code→Code
 | .seq _ a=>a
 |c=>c
noncomputable def Xv (b q q0 q1 q2 q3:Nat)(first:Bool)(shut:List UInt8)(g:FuncId):Ue where
 n:=24
 rowSlot:=3
 rowTy:=24
 cells:=1
 ix:=0
 q:=q
 vs:=fun _ => .bool true
 boxes:=[⟨0,.bool first,.bool first,q0,4⟩,⟨1,.pointer (some ⟨64,0,none⟩),rp b,q1,51⟩,⟨2,str shut,str shut,q2,9⟩,⟨4,.func (.func g) #[.pointer (some ⟨64,0,none⟩)] #[],.func (.func g) #[rp b] #[],q3,50⟩]
 direct:=[]
structure Qjr (b q q0 q1 q2 q3:Nat)(w1:World):Prop where
 bq:b<q
 bw:b<w1.heap.size
 d0:q0≠b∧q0≠q
 d1:q1≠b∧q1≠q
 d2:q2≠b∧q2≠q
 d3:q3≠b∧q3≠q
 e:q0≠q1∧q0≠q2∧q0≠q3∧q1≠q2∧q1≠q3∧q2≠q3
theorem memM {α:Type}{x a0 a1 a2 a3:α}{P:α→Prop}(h:x ∈ [a0,a1,a2,a3])(h0:P a0)(h1:P a1)(h2:P a2)(h3:P a3):P x:=by
 simp only[List.mem_cons,List.not_mem_nil,or_false] at h;rcases h with rfl|rfl|rfl|rfl
 ·exact h0
 ·exact h1
 ·exact h2
 ·exact h3
theorem Qpy {b q q0 q1 q2 q3:Nat}{first:Bool}{shut:List UInt8}{g:FuncId}{N:Va}{w1:World}(h:Qjr b q q0 q1 q2 q3 w1):LFix (Xv b q q0 q1 q2 q3 first shut g) b N w1 where
 bq:=h.bq
 bw:=h.bw
 cells:=show 1≤5 by decide
 ixl:=show 0<1 by decide
 nb:=show 4≤8 by decide
 boxb:=fun x hx=>memM (P:=fun x=>x.blk≠b∧x.blk≠q) hx h.d0 h.d1 h.d2 h.d3
 inj:=by
  obtain⟨e1,e2,e3,e4,e5,e6⟩:=h.e;refine .cons (fun x hx=>?_) (.cons (fun x hx=>?_) (.cons (fun x hx=>?_) (.cons (fun x hx=>by cases hx) .nil)))
  ·simp only[List.mem_cons,List.not_mem_nil,or_false] at hx;rcases hx with rfl|rfl|rfl
   ·exact e1
   ·exact e2
   ·exact e3
  ·simp only[List.mem_cons,List.not_mem_nil,or_false] at hx;rcases hx with rfl|rfl
   ·exact e4
   ·exact e5
  ·simp only[List.mem_cons,List.not_mem_nil,or_false] at hx;rcases hx with rfl;exact e6
 one:=fun i _=>rfl
 cell:=fun x hx p hax=>memM (P:=fun x=>VR p x.cell x.real) hx (.bool _) (Qhz hax) (.string _) (.func _ (.cons (Qhz hax) .nil) .nil)
 dir:=fun x hx=>by cases hx
theorem cuM {b q q0 q1 q2 q3:Nat}{first:Bool}{shut:List UInt8}{g:FuncId}{N:Va}:∀ x∈(Xv b q q0 q1 q2 q3 first shut g).boxes,∀ p u,AxN b N p→VR p x.cell u→u=x.real:=fun x hx p u hax=>memM (P:=fun x=>VR p x.cell u→u=x.real) hx
 (fun h=>by cases h;rfl) (fun h=>Qbr hax h) (fun h=>by cases h;rfl) (fun h=>by
  cases h with
  |@func _ a b' c d h1 h2=>
  generalize hb:b'.toList=bl at h1;generalize hd:d.toList=dl at h2;cases h2;cases h1 with
  |cons h3 h4=>
  cases h4;have e1:d = #[]:=by rw[←Array.toList_inj,hd]
  have e2:=Qbr hax h3;subst e2;have e3:b' = #[rp b]:=by rw[←Array.toList_inj,hb]
  rw[e1,e3])
theorem Qbf {b q q0 q1 q2 q3:Nat}{E:Env}{w1:World}(far:Qjr b q q0 q1 q2 q3 w1){x:List Tok→R Tr}(hs:Reads b E false 77 #[rp b] x){Q:Exit→Act→World→Prop}{r:Except Nat (List Tr×List Tok)}
  (hQ:match r with
   | .ok (ts,l')=>∀ w' a',Nl (Xv b q q0 q1 q2 q3 true wQs 77) b E false w1 ts l' w' a'→Q .ret a' w'
   | .error p=>∀ w' a',Zx b q w1 w'→a'.defers=[]→Q (.panic [{ v:=Vw p,recovered:=false }]) a' w'):
  ∀ (f:Nat) (acc:List Tr) (l:List Tok) (w:World) (a:Act),acc.length+f≤4294967296→Xx E.len wQs x f acc l=some r→Nl (Xv b q q0 q1 q2 q3 true wQs 77) b E false w1 acc l w a→Vl Tryz.prog (V8 (Qaz (Ze 98))) Q a w:=by
 intro f;induction f with
 |zero=>intro acc l w a _ h;rw[Xx] at h;cases h
 |succ f ih=>
  intro acc l w a hf h I;rw[Xx] at h;refine Zu ?_;have X:=fun N=>Qpy (first:=true) (shut:=wQs) (g:=77) (N:=N) far
  cases k1:x l with
  |none=>rw[k1] at h;cases h
  |some y=>
   rw[k1] at h;cases y with
   |error pl=>
    cases h;have D:X8 (Xv b q q0 q1 q2 q3 true wQs 77) b E (mkN E.len false w1.heap.size [l] [] [acc] [(pl:Int)]) false w1 w [Xq 77 [] 0 2 (tk 321)] ⟨[],[],[],[322]⟩ []:=
     ⟨rfl,rfl,rfl,rfl,Qa (Zf hs (.inr rfl) rfl Qv k1 Dd rfl) Q7,fun _ hx=>(by cases hx),Ql,Qk,fun _ hx=>(by cases hx),fun k hk=>(by obtain rfl:=List.mem_singleton.1 hk;exact⟨pl,rfl⟩),X _,cuM,fun _ hx=>(by cases hx),fun _ hx=>(by cases hx)⟩
    exact D.round rfl rfl I (fin:=.pan (tk 322)) (fun _ _ _=>by kernel_rfl) hQ
   |ok y=>
    obtain⟨t,m⟩:=y;dsimp only [andThen] at h;cases k2:isP V3 m with
    |true=>
     rw[k2,if_pos rfl] at h;have D:X8 (Xv b q q0 q1 q2 q3 true wQs 77) b E (mkN E.len false w1.heap.size [l,m,m.tail] [t] [acc,acc++[tr0],acc++[t]] []) false w1 w [Qm 77 [] 0 1 (tk 256) 0 (tk 321),Qx V3 1 2 (tk 321)] ⟨[],[(0,Tj,1)],[(1,Zy 0,2)],[]⟩ []:=
      ⟨rfl,rfl,rfl,rfl,Qa (Qs hs (.inr rfl) rfl Qv k1 (.inl rfl) Dd) (Qa (Qy k2 rfl _) Q7),fun _ hx=>(by cases hx),app1 Dw,Qfo,fun _ hx=>(by cases hx),Qj,X _,cuM,fun _ hx=>(by cases hx),fun _ hx=>(by cases hx)⟩
     exact D.round rfl rfl I (fin:=.again 2 2) (fun _ _ _=>by kernel_rfl) fun w' a' I'=>ih (acc++[t]) m.tail w' a' (by simp;omega) h I'
    |false=>
     rw[k2,if_neg Dd,Rz] at h;unfold Ub at h;cases k3:isP wQs (X7 wQs m) with
     |true=>
      rw[k3,if_pos rfl] at h;cases h;have D:X8 (Xv b q q0 q1 q2 q3 true wQs 77) b E (mkN E.len false w1.heap.size [l,m,(X7 wQs m).tail] [t] [acc,acc++[tr0],acc++[t]] []) false w1 w [Qm 77 [] 0 1 (tk 256) 0 (tk 321),Qc V3 1 (tk 321),Qaj wQs 1 2 (tk 321)] ⟨[],[(0,Tj,1)],[(1,Zy 0,2)],[]⟩ []:=
       ⟨rfl,rfl,rfl,rfl,Qa (Qs hs (.inr rfl) rfl Qv k1 (.inl rfl) Dd) (Qa (Qd k2 _) (Qa (Qbt k3 rfl _) Q7)),fun _ hx=>(by cases hx),app1 Dw,Qfo,fun _ hx=>(by cases hx),Qj,X _,cuM,fun _ hx=>(by cases hx),fun _ hx=>(by cases hx)⟩
      exact D.round rfl rfl I (fin:=.ret 2 2) (fun _ _ _=>by kernel_rfl) hQ
     |false=>
      rw[k3,if_neg Dd] at h;cases h;have D:X8 (Xv b q q0 q1 q2 q3 true wQs 77) b E (mkN E.len false w1.heap.size [l,m,X7 wQs m] [t] [acc,acc++[tr0],acc++[t]] []) false w1 w [Qm 77 [] 0 1 (tk 256) 0 (tk 321),Qc V3 1 (tk 321),Qak wQs 1 2 (tk 321)] ⟨[],[(0,Tj,1)],[(1,Zy 0,2)],[]⟩ []:=
       ⟨rfl,rfl,rfl,rfl,Qa (Qs hs (.inr rfl) rfl Qv k1 (.inl rfl) Dd) (Qa (Qd k2 _) (Qa (Qbw rfl Dd rfl k3 _) Q7)),fun _ hx=>(by cases hx),app1 Dw,Qfo,fun _ hx=>(by cases hx),Qj,X _,cuM,fun _ hx=>(by cases hx),fun _ hx=>(by cases hx)⟩
      exact D.round rfl rfl I (fin:=.pan (tk 144)) (fun _ _ _=>by kernel_rfl) hQ
theorem Qcf {b q q0 q1 q2 q3:Nat}{E:Env}{w1:World}(far:Qjr b q q0 q1 q2 q3 w1){x:List Tok→R Tr}(hs:Reads b E false 76 #[rp b] x){Q:Exit→Act→World→Prop}{r:Except Nat (List Tr×List Tok)}
  (hQ:match r with
   | .ok (ts,l')=>∀ w' a',Nl (Xv b q q0 q1 q2 q3 false Q8 76) b E false w1 ts l' w' a'→Q .ret a' w'
   | .error p=>∀ w' a',Zx b q w1 w'→a'.defers=[]→Q (.panic [{ v:=Vw p,recovered:=false }]) a' w'):
  ∀ (f:Nat) (acc:List Tr) (l:List Tok) (w:World) (a:Act),acc.length+f≤4294967296→Xx E.len Q8 x f acc l=some r→Nl (Xv b q q0 q1 q2 q3 false Q8 76) b E false w1 acc l w a→Vl Tryz.prog (V8 (Qaz (Ze 98))) Q a w:=by
 intro f;induction f with
 |zero=>intro acc l w a _ h;rw[Xx] at h;cases h
 |succ f ih=>
  intro acc l w a hf h I;rw[Xx] at h;refine Zu ?_;have X:=fun N=>Qpy (first:=false) (shut:=Q8) (g:=76) (N:=N) far
  cases k1:x l with
  |none=>rw[k1] at h;cases h
  |some y=>
   rw[k1] at h;cases y with
   |error pl=>
    cases h;have D:X8 (Xv b q q0 q1 q2 q3 false Q8 76) b E (mkN E.len false w1.heap.size [l] [] [acc] [(pl:Int)]) false w1 w [Xq 76 [] 0 2 (tk 321)] ⟨[],[],[],[322]⟩ []:=
     ⟨rfl,rfl,rfl,rfl,Qa (Zf hs (.inr rfl) rfl Qv k1 Dd rfl) Q7,fun _ hx=>(by cases hx),Ql,Qk,fun _ hx=>(by cases hx),fun k hk=>(by obtain rfl:=List.mem_singleton.1 hk;exact⟨pl,rfl⟩),X _,cuM,fun _ hx=>(by cases hx),fun _ hx=>(by cases hx)⟩
    exact D.round rfl rfl I (fin:=.pan (tk 322)) (fun _ _ _=>by kernel_rfl) hQ
   |ok y=>
    obtain⟨t,m⟩:=y;dsimp only [andThen] at h;cases k2:isP V3 m with
    |true=>
     rw[k2,if_pos rfl] at h;have D:X8 (Xv b q q0 q1 q2 q3 false Q8 76) b E (mkN E.len false w1.heap.size [l,m,m.tail] [t] [acc,acc++[tr0],acc++[t]] []) false w1 w [Qm 76 [] 0 1 (tk 256) 0 (tk 321),Qx V3 1 2 (tk 321)] ⟨[],[(0,Tj,1)],[(1,Zy 0,2)],[]⟩ []:=
      ⟨rfl,rfl,rfl,rfl,Qa (Qs hs (.inr rfl) rfl Qv k1 (.inl rfl) Dd) (Qa (Qy k2 rfl _) Q7),fun _ hx=>(by cases hx),app1 Dw,Qfo,fun _ hx=>(by cases hx),Qj,X _,cuM,fun _ hx=>(by cases hx),fun _ hx=>(by cases hx)⟩
     exact D.round rfl rfl I (fin:=.again 2 2) (fun _ _ _=>by kernel_rfl) fun w' a' I'=>ih (acc++[t]) m.tail w' a' (by simp;omega) h I'
    |false=>
     rw[k2,if_neg Dd,Rz] at h;unfold Ub at h;cases k3:isP Q8 (X7 Q8 m) with
     |true=>
      rw[k3,if_pos rfl] at h;cases h;have D:X8 (Xv b q q0 q1 q2 q3 false Q8 76) b E (mkN E.len false w1.heap.size [l,m,(X7 Q8 m).tail] [t] [acc,acc++[tr0],acc++[t]] []) false w1 w [Qm 76 [] 0 1 (tk 256) 0 (tk 321),Qc V3 1 (tk 321),Qaj Q8 1 2 (tk 321)] ⟨[],[(0,Tj,1)],[(1,Zy 0,2)],[]⟩ []:=
       ⟨rfl,rfl,rfl,rfl,Qa (Qs hs (.inr rfl) rfl Qv k1 (.inl rfl) Dd) (Qa (Qd k2 _) (Qa (Qbt k3 rfl _) Q7)),fun _ hx=>(by cases hx),app1 Dw,Qfo,fun _ hx=>(by cases hx),Qj,X _,cuM,fun _ hx=>(by cases hx),fun _ hx=>(by cases hx)⟩
      exact D.round rfl rfl I (fin:=.ret 2 2) (fun _ _ _=>by kernel_rfl) hQ
     |false=>
      rw[k3,if_neg Dd] at h;cases h;have D:X8 (Xv b q q0 q1 q2 q3 false Q8 76) b E (mkN E.len false w1.heap.size [l,m,X7 Q8 m] [t] [acc,acc++[tr0],acc++[t]] []) false w1 w [Qm 76 [] 0 1 (tk 256) 0 (tk 321),Qc V3 1 (tk 321),Qak Q8 1 2 (tk 321)] ⟨[],[(0,Tj,1)],[(1,Zy 0,2)],[]⟩ []:=
       ⟨rfl,rfl,rfl,rfl,Qa (Qs hs (.inr rfl) rfl Qv k1 (.inl rfl) Dd) (Qa (Qd k2 _) (Qa (Qbw rfl Dd rfl k3 _) Q7)),fun _ hx=>(by cases hx),app1 Dw,Qfo,fun _ hx=>(by cases hx),Qj,X _,cuM,fun _ hx=>(by cases hx),fun _ hx=>(by cases hx)⟩
      exact D.round rfl rfl I (fin:=.pan (tk 144)) (fun _ _ _=>by kernel_rfl) hQ
theorem Qe5 {b q q0 q1 q2 q3:Nat}{E:Env}{w1:World}(far:Qjr b q q0 q1 q2 q3 w1){x:List Tok→R Tr}(hs:Reads b E false 48 #[rp b] x){Q:Exit→Act→World→Prop}{r:Except Nat (List Tr×List Tok)}
  (hQ:match r with
   | .ok (ts,l')=>∀ w' a',Nl (Xv b q q0 q1 q2 q3 false Q8 48) b E false w1 ts l' w' a'→Q .ret a' w'
   | .error p=>∀ w' a',Zx b q w1 w'→a'.defers=[]→Q (.panic [{ v:=Vw p,recovered:=false }]) a' w'):
  ∀ (f:Nat) (acc:List Tr) (l:List Tok) (w:World) (a:Act),acc.length+f≤4294967296→Xx E.len Q8 x f acc l=some r→Nl (Xv b q q0 q1 q2 q3 false Q8 48) b E false w1 acc l w a→Vl Tryz.prog (V8 (Qaz (Ze 98))) Q a w:=by
 intro f;induction f with
 |zero=>intro acc l w a _ h;rw[Xx] at h;cases h
 |succ f ih=>
  intro acc l w a hf h I;rw[Xx] at h;refine Zu ?_;have X:=fun N=>Qpy (first:=false) (shut:=Q8) (g:=48) (N:=N) far
  cases k1:x l with
  |none=>rw[k1] at h;cases h
  |some y=>
   rw[k1] at h;cases y with
   |error pl=>
    cases h;have D:X8 (Xv b q q0 q1 q2 q3 false Q8 48) b E (mkN E.len false w1.heap.size [l] [] [acc] [(pl:Int)]) false w1 w [Xq 48 [] 0 2 (tk 321)] ⟨[],[],[],[322]⟩ []:=
     ⟨rfl,rfl,rfl,rfl,Qa (Zf hs (.inr rfl) rfl Qv k1 Dd rfl) Q7,fun _ hx=>(by cases hx),Ql,Qk,fun _ hx=>(by cases hx),fun k hk=>(by obtain rfl:=List.mem_singleton.1 hk;exact⟨pl,rfl⟩),X _,cuM,fun _ hx=>(by cases hx),fun _ hx=>(by cases hx)⟩
    exact D.round rfl rfl I (fin:=.pan (tk 322)) (fun _ _ _=>by kernel_rfl) hQ
   |ok y=>
    obtain⟨t,m⟩:=y;dsimp only [andThen] at h;cases k2:isP V3 m with
    |true=>
     rw[k2,if_pos rfl] at h;have D:X8 (Xv b q q0 q1 q2 q3 false Q8 48) b E (mkN E.len false w1.heap.size [l,m,m.tail] [t] [acc,acc++[tr0],acc++[t]] []) false w1 w [Qm 48 [] 0 1 (tk 256) 0 (tk 321),Qx V3 1 2 (tk 321)] ⟨[],[(0,Tj,1)],[(1,Zy 0,2)],[]⟩ []:=
      ⟨rfl,rfl,rfl,rfl,Qa (Qs hs (.inr rfl) rfl Qv k1 (.inl rfl) Dd) (Qa (Qy k2 rfl _) Q7),fun _ hx=>(by cases hx),app1 Dw,Qfo,fun _ hx=>(by cases hx),Qj,X _,cuM,fun _ hx=>(by cases hx),fun _ hx=>(by cases hx)⟩
     exact D.round rfl rfl I (fin:=.again 2 2) (fun _ _ _=>by kernel_rfl) fun w' a' I'=>ih (acc++[t]) m.tail w' a' (by simp;omega) h I'
    |false=>
     rw[k2,if_neg Dd,Rz] at h;unfold Ub at h;cases k3:isP Q8 (X7 Q8 m) with
     |true=>
      rw[k3,if_pos rfl] at h;cases h;have D:X8 (Xv b q q0 q1 q2 q3 false Q8 48) b E (mkN E.len false w1.heap.size [l,m,(X7 Q8 m).tail] [t] [acc,acc++[tr0],acc++[t]] []) false w1 w [Qm 48 [] 0 1 (tk 256) 0 (tk 321),Qc V3 1 (tk 321),Qaj Q8 1 2 (tk 321)] ⟨[],[(0,Tj,1)],[(1,Zy 0,2)],[]⟩ []:=
       ⟨rfl,rfl,rfl,rfl,Qa (Qs hs (.inr rfl) rfl Qv k1 (.inl rfl) Dd) (Qa (Qd k2 _) (Qa (Qbt k3 rfl _) Q7)),fun _ hx=>(by cases hx),app1 Dw,Qfo,fun _ hx=>(by cases hx),Qj,X _,cuM,fun _ hx=>(by cases hx),fun _ hx=>(by cases hx)⟩
      exact D.round rfl rfl I (fin:=.ret 2 2) (fun _ _ _=>by kernel_rfl) hQ
     |false=>
      rw[k3,if_neg Dd] at h;cases h;have D:X8 (Xv b q q0 q1 q2 q3 false Q8 48) b E (mkN E.len false w1.heap.size [l,m,X7 Q8 m] [t] [acc,acc++[tr0],acc++[t]] []) false w1 w [Qm 48 [] 0 1 (tk 256) 0 (tk 321),Qc V3 1 (tk 321),Qak Q8 1 2 (tk 321)] ⟨[],[(0,Tj,1)],[(1,Zy 0,2)],[]⟩ []:=
       ⟨rfl,rfl,rfl,rfl,Qa (Qs hs (.inr rfl) rfl Qv k1 (.inl rfl) Dd) (Qa (Qd k2 _) (Qa (Qbw rfl Dd rfl k3 _) Q7)),fun _ hx=>(by cases hx),app1 Dw,Qfo,fun _ hx=>(by cases hx),Qj,X _,cuM,fun _ hx=>(by cases hx),fun _ hx=>(by cases hx)⟩
      exact D.round rfl rfl I (fin:=.pan (tk 144)) (fun _ _ _=>by kernel_rfl) hQ
theorem Qe7 {b q q0 q1 q2 q3:Nat}{E:Env}{w1:World}(far:Qjr b q q0 q1 q2 q3 w1){x:List Tok→R Tr}(hs:Reads b E false 22 #[rp b] x){Q:Exit→Act→World→Prop}{r:Except Nat (List Tr×List Tok)}
  (hQ:match r with
   | .ok (ts,l')=>∀ w' a',Nl (Xv b q q0 q1 q2 q3 false Q8 22) b E false w1 ts l' w' a'→Q .ret a' w'
   | .error p=>∀ w' a',Zx b q w1 w'→a'.defers=[]→Q (.panic [{ v:=Vw p,recovered:=false }]) a' w'):
  ∀ (f:Nat) (acc:List Tr) (l:List Tok) (w:World) (a:Act),acc.length+f≤4294967296→Xx E.len Q8 x f acc l=some r→Nl (Xv b q q0 q1 q2 q3 false Q8 22) b E false w1 acc l w a→Vl Tryz.prog (V8 (Qaz (Ze 98))) Q a w:=by
 intro f;induction f with
 |zero=>intro acc l w a _ h;rw[Xx] at h;cases h
 |succ f ih=>
  intro acc l w a hf h I;rw[Xx] at h;refine Zu ?_;have X:=fun N=>Qpy (first:=false) (shut:=Q8) (g:=22) (N:=N) far
  cases k1:x l with
  |none=>rw[k1] at h;cases h
  |some y=>
   rw[k1] at h;cases y with
   |error pl=>
    cases h;have D:X8 (Xv b q q0 q1 q2 q3 false Q8 22) b E (mkN E.len false w1.heap.size [l] [] [acc] [(pl:Int)]) false w1 w [Xq 22 [] 0 2 (tk 321)] ⟨[],[],[],[322]⟩ []:=
     ⟨rfl,rfl,rfl,rfl,Qa (Zf hs (.inr rfl) rfl Qv k1 Dd rfl) Q7,fun _ hx=>(by cases hx),Ql,Qk,fun _ hx=>(by cases hx),fun k hk=>(by obtain rfl:=List.mem_singleton.1 hk;exact⟨pl,rfl⟩),X _,cuM,fun _ hx=>(by cases hx),fun _ hx=>(by cases hx)⟩
    exact D.round rfl rfl I (fin:=.pan (tk 322)) (fun _ _ _=>by kernel_rfl) hQ
   |ok y=>
    obtain⟨t,m⟩:=y;dsimp only [andThen] at h;cases k2:isP V3 m with
    |true=>
     rw[k2,if_pos rfl] at h;have D:X8 (Xv b q q0 q1 q2 q3 false Q8 22) b E (mkN E.len false w1.heap.size [l,m,m.tail] [t] [acc,acc++[tr0],acc++[t]] []) false w1 w [Qm 22 [] 0 1 (tk 256) 0 (tk 321),Qx V3 1 2 (tk 321)] ⟨[],[(0,Tj,1)],[(1,Zy 0,2)],[]⟩ []:=
      ⟨rfl,rfl,rfl,rfl,Qa (Qs hs (.inr rfl) rfl Qv k1 (.inl rfl) Dd) (Qa (Qy k2 rfl _) Q7),fun _ hx=>(by cases hx),app1 Dw,Qfo,fun _ hx=>(by cases hx),Qj,X _,cuM,fun _ hx=>(by cases hx),fun _ hx=>(by cases hx)⟩
     exact D.round rfl rfl I (fin:=.again 2 2) (fun _ _ _=>by kernel_rfl) fun w' a' I'=>ih (acc++[t]) m.tail w' a' (by simp;omega) h I'
    |false=>
     rw[k2,if_neg Dd,Rz] at h;unfold Ub at h;cases k3:isP Q8 (X7 Q8 m) with
     |true=>
      rw[k3,if_pos rfl] at h;cases h;have D:X8 (Xv b q q0 q1 q2 q3 false Q8 22) b E (mkN E.len false w1.heap.size [l,m,(X7 Q8 m).tail] [t] [acc,acc++[tr0],acc++[t]] []) false w1 w [Qm 22 [] 0 1 (tk 256) 0 (tk 321),Qc V3 1 (tk 321),Qaj Q8 1 2 (tk 321)] ⟨[],[(0,Tj,1)],[(1,Zy 0,2)],[]⟩ []:=
       ⟨rfl,rfl,rfl,rfl,Qa (Qs hs (.inr rfl) rfl Qv k1 (.inl rfl) Dd) (Qa (Qd k2 _) (Qa (Qbt k3 rfl _) Q7)),fun _ hx=>(by cases hx),app1 Dw,Qfo,fun _ hx=>(by cases hx),Qj,X _,cuM,fun _ hx=>(by cases hx),fun _ hx=>(by cases hx)⟩
      exact D.round rfl rfl I (fin:=.ret 2 2) (fun _ _ _=>by kernel_rfl) hQ
     |false=>
      rw[k3,if_neg Dd] at h;cases h;have D:X8 (Xv b q q0 q1 q2 q3 false Q8 22) b E (mkN E.len false w1.heap.size [l,m,X7 Q8 m] [t] [acc,acc++[tr0],acc++[t]] []) false w1 w [Qm 22 [] 0 1 (tk 256) 0 (tk 321),Qc V3 1 (tk 321),Qak Q8 1 2 (tk 321)] ⟨[],[(0,Tj,1)],[(1,Zy 0,2)],[]⟩ []:=
       ⟨rfl,rfl,rfl,rfl,Qa (Qs hs (.inr rfl) rfl Qv k1 (.inl rfl) Dd) (Qa (Qd k2 _) (Qa (Qbw rfl Dd rfl k3 _) Q7)),fun _ hx=>(by cases hx),app1 Dw,Qfo,fun _ hx=>(by cases hx),Qj,X _,cuM,fun _ hx=>(by cases hx),fun _ hx=>(by cases hx)⟩
      exact D.round rfl rfl I (fin:=.pan (tk 144)) (fun _ _ _=>by kernel_rfl) hQ
theorem Qe6 {b q q0 q1 q2 q3:Nat}{E:Env}{w1:World}(far:Qjr b q q0 q1 q2 q3 w1){x:List Tok→R Tr}(hs:Reads b E false 97 #[rp b] x){Q:Exit→Act→World→Prop}{r:Except Nat (List Tr×List Tok)}
  (hQ:match r with
   | .ok (ts,l')=>∀ w' a',Nl (Xv b q q0 q1 q2 q3 true wQs 97) b E false w1 ts l' w' a'→Q .ret a' w'
   | .error p=>∀ w' a',Zx b q w1 w'→a'.defers=[]→Q (.panic [{ v:=Vw p,recovered:=false }]) a' w'):
  ∀ (f:Nat) (acc:List Tr) (l:List Tok) (w:World) (a:Act),acc.length+f≤4294967296→Xx E.len wQs x f acc l=some r→Nl (Xv b q q0 q1 q2 q3 true wQs 97) b E false w1 acc l w a→Vl Tryz.prog (V8 (Qaz (Ze 98))) Q a w:=by
 intro f;induction f with
 |zero=>intro acc l w a _ h;rw[Xx] at h;cases h
 |succ f ih=>
  intro acc l w a hf h I;rw[Xx] at h;refine Zu ?_;have X:=fun N=>Qpy (first:=true) (shut:=wQs) (g:=97) (N:=N) far
  cases k1:x l with
  |none=>rw[k1] at h;cases h
  |some y=>
   rw[k1] at h;cases y with
   |error pl=>
    cases h;have D:X8 (Xv b q q0 q1 q2 q3 true wQs 97) b E (mkN E.len false w1.heap.size [l] [] [acc] [(pl:Int)]) false w1 w [Xq 97 [] 0 2 (tk 321)] ⟨[],[],[],[322]⟩ []:=
     ⟨rfl,rfl,rfl,rfl,Qa (Zf hs (.inr rfl) rfl Qv k1 Dd rfl) Q7,fun _ hx=>(by cases hx),Ql,Qk,fun _ hx=>(by cases hx),fun k hk=>(by obtain rfl:=List.mem_singleton.1 hk;exact⟨pl,rfl⟩),X _,cuM,fun _ hx=>(by cases hx),fun _ hx=>(by cases hx)⟩
    exact D.round rfl rfl I (fin:=.pan (tk 322)) (fun _ _ _=>by kernel_rfl) hQ
   |ok y=>
    obtain⟨t,m⟩:=y;dsimp only [andThen] at h;cases k2:isP V3 m with
    |true=>
     rw[k2,if_pos rfl] at h;have D:X8 (Xv b q q0 q1 q2 q3 true wQs 97) b E (mkN E.len false w1.heap.size [l,m,m.tail] [t] [acc,acc++[tr0],acc++[t]] []) false w1 w [Qm 97 [] 0 1 (tk 256) 0 (tk 321),Qx V3 1 2 (tk 321)] ⟨[],[(0,Tj,1)],[(1,Zy 0,2)],[]⟩ []:=
      ⟨rfl,rfl,rfl,rfl,Qa (Qs hs (.inr rfl) rfl Qv k1 (.inl rfl) Dd) (Qa (Qy k2 rfl _) Q7),fun _ hx=>(by cases hx),app1 Dw,Qfo,fun _ hx=>(by cases hx),Qj,X _,cuM,fun _ hx=>(by cases hx),fun _ hx=>(by cases hx)⟩
     exact D.round rfl rfl I (fin:=.again 2 2) (fun _ _ _=>by kernel_rfl) fun w' a' I'=>ih (acc++[t]) m.tail w' a' (by simp;omega) h I'
    |false=>
     rw[k2,if_neg Dd,Rz] at h;unfold Ub at h;cases k3:isP wQs (X7 wQs m) with
     |true=>
      rw[k3,if_pos rfl] at h;cases h;have D:X8 (Xv b q q0 q1 q2 q3 true wQs 97) b E (mkN E.len false w1.heap.size [l,m,(X7 wQs m).tail] [t] [acc,acc++[tr0],acc++[t]] []) false w1 w [Qm 97 [] 0 1 (tk 256) 0 (tk 321),Qc V3 1 (tk 321),Qaj wQs 1 2 (tk 321)] ⟨[],[(0,Tj,1)],[(1,Zy 0,2)],[]⟩ []:=
       ⟨rfl,rfl,rfl,rfl,Qa (Qs hs (.inr rfl) rfl Qv k1 (.inl rfl) Dd) (Qa (Qd k2 _) (Qa (Qbt k3 rfl _) Q7)),fun _ hx=>(by cases hx),app1 Dw,Qfo,fun _ hx=>(by cases hx),Qj,X _,cuM,fun _ hx=>(by cases hx),fun _ hx=>(by cases hx)⟩
      exact D.round rfl rfl I (fin:=.ret 2 2) (fun _ _ _=>by kernel_rfl) hQ
     |false=>
      rw[k3,if_neg Dd] at h;cases h;have D:X8 (Xv b q q0 q1 q2 q3 true wQs 97) b E (mkN E.len false w1.heap.size [l,m,X7 wQs m] [t] [acc,acc++[tr0],acc++[t]] []) false w1 w [Qm 97 [] 0 1 (tk 256) 0 (tk 321),Qc V3 1 (tk 321),Qak wQs 1 2 (tk 321)] ⟨[],[(0,Tj,1)],[(1,Zy 0,2)],[]⟩ []:=
       ⟨rfl,rfl,rfl,rfl,Qa (Qs hs (.inr rfl) rfl Qv k1 (.inl rfl) Dd) (Qa (Qd k2 _) (Qa (Qbw rfl Dd rfl k3 _) Q7)),fun _ hx=>(by cases hx),app1 Dw,Qfo,fun _ hx=>(by cases hx),Qj,X _,cuM,fun _ hx=>(by cases hx),fun _ hx=>(by cases hx)⟩
      exact D.round rfl rfl I (fin:=.pan (tk 144)) (fun _ _ _=>by kernel_rfl) hQ
theorem Qdy {b q q0 q1 q2 q3:Nat}{E:Env}{w1:World}(far:Qjr b q q0 q1 q2 q3 w1){x:List Tok→R Tr}(hs:Reads b E false 22 #[rp b] x){Q:Exit→Act→World→Prop}{r:Except Nat (List Tr×List Tok)}
  (hQ:match r with
   | .ok (ts,l')=>∀ w' a',Nl (Xv b q q0 q1 q2 q3 false wUc 22) b E false w1 ts l' w' a'→Q .ret a' w'
   | .error p=>∀ w' a',Zx b q w1 w'→a'.defers=[]→Q (.panic [{ v:=Vw p,recovered:=false }]) a' w'):
  ∀ (f:Nat) (acc:List Tr) (l:List Tok) (w:World) (a:Act),acc.length+f≤4294967296→Xx E.len wUc x f acc l=some r→Nl (Xv b q q0 q1 q2 q3 false wUc 22) b E false w1 acc l w a→Vl Tryz.prog (V8 (Qaz (Ze 98))) Q a w:=by
 intro f;induction f with
 |zero=>intro acc l w a _ h;rw[Xx] at h;cases h
 |succ f ih=>
  intro acc l w a hf h I;rw[Xx] at h;refine Zu ?_;have X:=fun N=>Qpy (first:=false) (shut:=wUc) (g:=22) (N:=N) far
  cases k1:x l with
  |none=>rw[k1] at h;cases h
  |some y=>
   rw[k1] at h;cases y with
   |error pl=>
    cases h;have D:X8 (Xv b q q0 q1 q2 q3 false wUc 22) b E (mkN E.len false w1.heap.size [l] [] [acc] [(pl:Int)]) false w1 w [Xq 22 [] 0 2 (tk 321)] ⟨[],[],[],[322]⟩ []:=
     ⟨rfl,rfl,rfl,rfl,Qa (Zf hs (.inr rfl) rfl Qv k1 Dd rfl) Q7,fun _ hx=>(by cases hx),Ql,Qk,fun _ hx=>(by cases hx),fun k hk=>(by obtain rfl:=List.mem_singleton.1 hk;exact⟨pl,rfl⟩),X _,cuM,fun _ hx=>(by cases hx),fun _ hx=>(by cases hx)⟩
    exact D.round rfl rfl I (fin:=.pan (tk 322)) (fun _ _ _=>by kernel_rfl) hQ
   |ok y=>
    obtain⟨t,m⟩:=y;dsimp only [andThen] at h;cases k2:isP V3 m with
    |true=>
     rw[k2,if_pos rfl] at h;have D:X8 (Xv b q q0 q1 q2 q3 false wUc 22) b E (mkN E.len false w1.heap.size [l,m,m.tail] [t] [acc,acc++[tr0],acc++[t]] []) false w1 w [Qm 22 [] 0 1 (tk 256) 0 (tk 321),Qx V3 1 2 (tk 321)] ⟨[],[(0,Tj,1)],[(1,Zy 0,2)],[]⟩ []:=
      ⟨rfl,rfl,rfl,rfl,Qa (Qs hs (.inr rfl) rfl Qv k1 (.inl rfl) Dd) (Qa (Qy k2 rfl _) Q7),fun _ hx=>(by cases hx),app1 Dw,Qfo,fun _ hx=>(by cases hx),Qj,X _,cuM,fun _ hx=>(by cases hx),fun _ hx=>(by cases hx)⟩
     exact D.round rfl rfl I (fin:=.again 2 2) (fun _ _ _=>by kernel_rfl) fun w' a' I'=>ih (acc++[t]) m.tail w' a' (by simp;omega) h I'
    |false=>
     rw[k2,if_neg Dd,Rz] at h;unfold Ub at h;cases k3:isP wUc (X7 wUc m) with
     |true=>
      rw[k3,if_pos rfl] at h;cases h;have D:X8 (Xv b q q0 q1 q2 q3 false wUc 22) b E (mkN E.len false w1.heap.size [l,m,(X7 wUc m).tail] [t] [acc,acc++[tr0],acc++[t]] []) false w1 w [Qm 22 [] 0 1 (tk 256) 0 (tk 321),Qc V3 1 (tk 321),Qaj wUc 1 2 (tk 321)] ⟨[],[(0,Tj,1)],[(1,Zy 0,2)],[]⟩ []:=
       ⟨rfl,rfl,rfl,rfl,Qa (Qs hs (.inr rfl) rfl Qv k1 (.inl rfl) Dd) (Qa (Qd k2 _) (Qa (Qbt k3 rfl _) Q7)),fun _ hx=>(by cases hx),app1 Dw,Qfo,fun _ hx=>(by cases hx),Qj,X _,cuM,fun _ hx=>(by cases hx),fun _ hx=>(by cases hx)⟩
      exact D.round rfl rfl I (fin:=.ret 2 2) (fun _ _ _=>by kernel_rfl) hQ
     |false=>
      rw[k3,if_neg Dd] at h;cases h;have D:X8 (Xv b q q0 q1 q2 q3 false wUc 22) b E (mkN E.len false w1.heap.size [l,m,X7 wUc m] [t] [acc,acc++[tr0],acc++[t]] []) false w1 w [Qm 22 [] 0 1 (tk 256) 0 (tk 321),Qc V3 1 (tk 321),Qak wUc 1 2 (tk 321)] ⟨[],[(0,Tj,1)],[(1,Zy 0,2)],[]⟩ []:=
       ⟨rfl,rfl,rfl,rfl,Qa (Qs hs (.inr rfl) rfl Qv k1 (.inl rfl) Dd) (Qa (Qd k2 _) (Qa (Qbw rfl Dd rfl k3 _) Q7)),fun _ hx=>(by cases hx),app1 Dw,Qfo,fun _ hx=>(by cases hx),Qj,X _,cuM,fun _ hx=>(by cases hx),fun _ hx=>(by cases hx)⟩
      exact D.round rfl rfl I (fin:=.pan (tk 144)) (fun _ _ _=>by kernel_rfl) hQ
structure Qp4 (b q q0 q1 q2 q3:Nat)(first:Bool)(shut:List UInt8)(g:FuncId)(w:World):Prop where
 row:w.heap[q]? = some (.cells #[.slice none 0 0] 24 (0,0))
 b0:w.heap[q0]? = some (.cells #[.bool first] 4 (0,0))
 b1:w.heap[q1]? = some (.cells #[rp b] 51 (0,0))
 b2:w.heap[q2]? = some (.cells #[str shut] 9 (0,0))
 b3:w.heap[q3]? = some (.cells #[.func (.func g) #[rp b] #[]] 50 (0,0))
theorem Qp4.keep {b q q0 q1 q2 q3:Nat}{first:Bool}{shut:List UInt8}{g:FuncId}{w w':World}(h:Qp4 b q q0 q1 q2 q3 first shut g w)(hk:Qo b w w')(far:Qjr b q q0 q1 q2 q3 w):Qp4 b q q0 q1 q2 q3 first shut g w':=by
 have key:∀ k o,k≠b→w.heap[k]? = some o→w'.heap[k]? = some o:=fun k o hk0 h=>(hk.block k (Array.getElem?_eq_some_iff.1 h).1 hk0).trans h
 have:=far.bq;exact⟨key _ _ Dw h.row,key _ _ far.d0.1 h.b0,key _ _ far.d1.1 h.b1,key _ _ far.d2.1 h.b2,key _ _ far.d3.1 h.b3⟩
theorem Qp4.inv {b q q0 q1 q2 q3:Nat}{first:Bool}{shut:List UInt8}{g:FuncId}{w:World}(h:Qp4 b q q0 q1 q2 q3 first shut g w){E:Env}{l:List Tok}(hrd:RdB b E w l false):
  Nl (Xv b q q0 q1 q2 q3 first shut g) b E false w [] l w ⟨#[.pointer (some ⟨q0,0,none⟩),.pointer (some ⟨q1,0,none⟩),.pointer (some ⟨q2,0,none⟩),.pointer (some ⟨q,0,none⟩),.pointer (some ⟨q3,0,none⟩)]++Array.replicate 19 undef,[]⟩ where
 rd:=hrd
 row:=⟨.slice none 0 0,noF,(0,0),h.row,fun j _=>by simp,fun _=>rfl,⟨none,0,rfl,by simp,by decide,fun k hk=>absurd rfl hk,.inl ⟨rfl,rfl,rfl⟩⟩,fun k o hk=>(by cases hk),rfl,rfl,fun _ _=>rfl⟩
 box:=fun x hx=>memM (P:=fun x=>∃ fr,w.heap[x.blk]? = some (.cells #[x.real] x.ty fr)∧unfr fr 1) hx ⟨(0,0),h.b0,fun j _=>by simp⟩ ⟨(0,0),h.b1,fun j _=>by simp⟩ ⟨(0,0),h.b2,fun j _=>by simp⟩ ⟨(0,0),h.b3,fun j _=>by simp⟩
 keep:=⟨rfl,rfl,rfl,Nat.le_refl _,fun _ _ _ _=>rfl⟩
 rowS:=Zj _ _ _ _ rfl
 boxS:=fun x hx=>by
  have h0:(#[.pointer (some ⟨q0,0,none⟩),.pointer (some ⟨q1,0,none⟩),.pointer (some ⟨q2,0,none⟩),.pointer (some ⟨q,0,none⟩),.pointer (some ⟨q3,0,none⟩)]++Array.replicate 19 undef:Array Value).getD 0 undef=.pointer (some ⟨q0,0,none⟩):=Zj _ _ _ _ rfl;have h1:(#[.pointer (some ⟨q0,0,none⟩),.pointer (some ⟨q1,0,none⟩),.pointer (some ⟨q2,0,none⟩),.pointer (some ⟨q,0,none⟩),.pointer (some ⟨q3,0,none⟩)]++Array.replicate 19 undef:Array Value).getD 1 undef=.pointer (some ⟨q1,0,none⟩):=Zj _ _ _ _ rfl;have h2:(#[.pointer (some ⟨q0,0,none⟩),.pointer (some ⟨q1,0,none⟩),.pointer (some ⟨q2,0,none⟩),.pointer (some ⟨q,0,none⟩),.pointer (some ⟨q3,0,none⟩)]++Array.replicate 19 undef:Array Value).getD 2 undef=.pointer (some ⟨q2,0,none⟩):=Zj _ _ _ _ rfl;have h4:(#[.pointer (some ⟨q0,0,none⟩),.pointer (some ⟨q1,0,none⟩),.pointer (some ⟨q2,0,none⟩),.pointer (some ⟨q,0,none⟩),.pointer (some ⟨q3,0,none⟩)]++Array.replicate 19 undef:Array Value).getD 4 undef=.pointer (some ⟨q3,0,none⟩):=Zj _ _ _ _ rfl;unfold Xv at hx;dsimp only at hx;simp only[List.mem_cons,List.not_mem_nil,or_false] at hx;rcases hx with rfl|rfl|rfl|rfl
  ·exact h0
  ·exact h1
  ·exact h2
  ·exact h4
 dirS:=fun x hx=>by cases hx
 n:=by
  show (#[_,_,_,_,_]++Array.replicate 19 undef:Array Value).size=24
  simp
 ds:=rfl
abbrev Qpq (q q0 q1 q2 q3:Nat):Array Value := #[.pointer (some ⟨q0,0,none⟩),.pointer (some ⟨q1,0,none⟩),.pointer (some ⟨q2,0,none⟩),.pointer (some ⟨q,0,none⟩),.pointer (some ⟨q3,0,none⟩)]
theorem Ef {b q q0 q1 q2 q3 f:Nat}{E:Env}{w:World}(far:Qjr b q q0 q1 q2 q3 w){x:List Tok→R Tr}(hs:Reads b E false 77 #[rp b] x){l:List Tok}{r:Except Nat (List Tr×List Tok)}(hf:f≤4294967296)(hr:Yi E.len wQs true x f l=some r)(hrd:RdB b E w l false)(hB:Qp4 b q q0 q1 q2 q3 true wQs 77 w):
  Calls Tryz.prog 98 (Qpq q q0 q1 q2 q3) w (Fb (Xv b q q0 q1 q2 q3 true wQs 77) b E false r w):=by
 refine calls_of_wp (fn:=Tryz.f98) (c:=.seq (seqL (Ze 98)) (.block 0 (.loop (V8 (Qaz (Ze 98)))))) Dk Dk ?_;have X:=fun N=>Qpy (first:=true) (shut:=wQs) (g:=77) (N:=N) far
 have hfin:∀ r:Except Nat (List Tr×List Tok),(match r with
   | .ok (ts,l')=>∀ w' a',Nl (Xv b q q0 q1 q2 q3 true wQs 77) b E false w ts l' w' a'→(Exit.inBlock 0 (bodyPost Tryz.prog Tryz.f98 (Fb (Xv b q q0 q1 q2 q3 true wQs 77) b E false r w))) .ret a' w'
   | .error p=>∀ w' a',Zx b q w w'→a'.defers=[]→(Exit.inBlock 0 (bodyPost Tryz.prog Tryz.f98 (Fb (Xv b q q0 q1 q2 q3 true wQs 77) b E false r w))) (.panic [{ v:=Vw p,recovered:=false }]) a' w'):=fun r=>by
  cases r with
  |error p=>
   intro w' a' hk hd;obtain⟨tm,ds⟩:=a';obtain rfl:ds=[]:=hd;exact⟨rfl,rfl,hk⟩
  |ok y=>
   obtain⟨ts,l'⟩:=y;intro w' a' I';obtain⟨tm,ds⟩:=a';obtain rfl:ds=[]:=I'.ds;exact Jm (show Tryz.f98.results = #[] from rfl) ⟨rfl,_,I'⟩
 have hfin:=hfin r;refine wp_seq ?_;have hr:Xx E.len wQs x f [] l=some r:=hr;have D:X8 (Xv b q q0 q1 q2 q3 true wQs 77) b E (mkN E.len false w.heap.size [l] [] [[]] []) false w w [] ⟨[],[],[],[]⟩ []:=
  ⟨rfl,rfl,rfl,rfl,Q7,fun _ hx=>(by cases hx),Ql,Qk,fun _ hx=>(by cases hx),Qj,X _,cuM,fun _ hx=>(by cases hx),fun _ hx=>(by cases hx)⟩
 exact D.round rfl rfl (hB.inv hrd) (fin:=.again 0 0) (fun _ _ _=>by kernel_rfl) (fun w' a' I'=>wp_block (Zr (show Vl _ _ _ _ _ from Qbf far hs (r:=r) hfin f [] l w' a' (by simpa using hf) hr I')))
theorem Qab {b q q0 q1 q2 q3 f:Nat}{E:Env}{w:World}(far:Qjr b q q0 q1 q2 q3 w){x:List Tok→R Tr}(hs:Reads b E false 76 #[rp b] x){l:List Tok}{r:Except Nat (List Tr×List Tok)}(hf:f≤4294967296)(hr:Yi E.len Q8 false x f l=some r)(hrd:RdB b E w l false)(hB:Qp4 b q q0 q1 q2 q3 false Q8 76 w):
  Calls Tryz.prog 98 (Qpq q q0 q1 q2 q3) w (Fb (Xv b q q0 q1 q2 q3 false Q8 76) b E false r w):=by
 refine calls_of_wp (fn:=Tryz.f98) (c:=.seq (seqL (Ze 98)) (.block 0 (.loop (V8 (Qaz (Ze 98)))))) Dk Dk ?_;have X:=fun N=>Qpy (first:=false) (shut:=Q8) (g:=76) (N:=N) far
 have hfin:∀ r:Except Nat (List Tr×List Tok),(match r with
   | .ok (ts,l')=>∀ w' a',Nl (Xv b q q0 q1 q2 q3 false Q8 76) b E false w ts l' w' a'→(Exit.inBlock 0 (bodyPost Tryz.prog Tryz.f98 (Fb (Xv b q q0 q1 q2 q3 false Q8 76) b E false r w))) .ret a' w'
   | .error p=>∀ w' a',Zx b q w w'→a'.defers=[]→(Exit.inBlock 0 (bodyPost Tryz.prog Tryz.f98 (Fb (Xv b q q0 q1 q2 q3 false Q8 76) b E false r w))) (.panic [{ v:=Vw p,recovered:=false }]) a' w'):=fun r=>by
  cases r with
  |error p=>
   intro w' a' hk hd;obtain⟨tm,ds⟩:=a';obtain rfl:ds=[]:=hd;exact⟨rfl,rfl,hk⟩
  |ok y=>
   obtain⟨ts,l'⟩:=y;intro w' a' I';obtain⟨tm,ds⟩:=a';obtain rfl:ds=[]:=I'.ds;exact Jm (show Tryz.f98.results = #[] from rfl) ⟨rfl,_,I'⟩
 have hfin:=hfin r;refine wp_seq ?_;unfold Yi at hr;cases k1:isP Q8 l with
 |true=>
  rw[k1] at hr;cases hr;have D:X8 (Xv b q q0 q1 q2 q3 false Q8 76) b E (mkN E.len false w.heap.size [l,l.tail] [] [[]] []) false w w [Qx Q8 0 1 (tk 321)] ⟨[],[],[],[]⟩ []:=
   ⟨rfl,rfl,rfl,rfl,Qa (Qy k1 rfl _) Q7,fun _ hx=>(by cases hx),Ql,Qk,fun _ hx=>(by cases hx),Qj,X _,cuM,fun _ hx=>(by cases hx),fun _ hx=>(by cases hx)⟩
  refine D.round rfl rfl (hB.inv hrd) (fin:=.ret 1 0) (fun _ _ _=>by kernel_rfl) ?_;exact hfin
 |false=>
  rw[k1] at hr;have hr:Xx E.len Q8 x f [] l=some r:=hr;have D:X8 (Xv b q q0 q1 q2 q3 false Q8 76) b E (mkN E.len false w.heap.size [l] [] [[]] []) false w w [Qc Q8 0 (tk 321)] ⟨[],[],[],[]⟩ []:=
   ⟨rfl,rfl,rfl,rfl,Qa (Qd k1 _) Q7,fun _ hx=>(by cases hx),Ql,Qk,fun _ hx=>(by cases hx),Qj,X _,cuM,fun _ hx=>(by cases hx),fun _ hx=>(by cases hx)⟩
  exact D.round rfl rfl (hB.inv hrd) (fin:=.again 0 0) (fun _ _ _=>by kernel_rfl) (fun w' a' I'=>wp_block (Zr (show Vl _ _ _ _ _ from Qcf far hs (r:=r) hfin f [] l w' a' (by simpa using hf) hr I')))
theorem Qdz {b q q0 q1 q2 q3 f:Nat}{E:Env}{w:World}(far:Qjr b q q0 q1 q2 q3 w){x:List Tok→R Tr}(hs:Reads b E false 48 #[rp b] x){l:List Tok}{r:Except Nat (List Tr×List Tok)}(hf:f≤4294967296)(hr:Yi E.len Q8 false x f l=some r)(hrd:RdB b E w l false)(hB:Qp4 b q q0 q1 q2 q3 false Q8 48 w):
  Calls Tryz.prog 98 (Qpq q q0 q1 q2 q3) w (Fb (Xv b q q0 q1 q2 q3 false Q8 48) b E false r w):=by
 refine calls_of_wp (fn:=Tryz.f98) (c:=.seq (seqL (Ze 98)) (.block 0 (.loop (V8 (Qaz (Ze 98)))))) Dk Dk ?_;have X:=fun N=>Qpy (first:=false) (shut:=Q8) (g:=48) (N:=N) far
 have hfin:∀ r:Except Nat (List Tr×List Tok),(match r with
   | .ok (ts,l')=>∀ w' a',Nl (Xv b q q0 q1 q2 q3 false Q8 48) b E false w ts l' w' a'→(Exit.inBlock 0 (bodyPost Tryz.prog Tryz.f98 (Fb (Xv b q q0 q1 q2 q3 false Q8 48) b E false r w))) .ret a' w'
   | .error p=>∀ w' a',Zx b q w w'→a'.defers=[]→(Exit.inBlock 0 (bodyPost Tryz.prog Tryz.f98 (Fb (Xv b q q0 q1 q2 q3 false Q8 48) b E false r w))) (.panic [{ v:=Vw p,recovered:=false }]) a' w'):=fun r=>by
  cases r with
  |error p=>
   intro w' a' hk hd;obtain⟨tm,ds⟩:=a';obtain rfl:ds=[]:=hd;exact⟨rfl,rfl,hk⟩
  |ok y=>
   obtain⟨ts,l'⟩:=y;intro w' a' I';obtain⟨tm,ds⟩:=a';obtain rfl:ds=[]:=I'.ds;exact Jm (show Tryz.f98.results = #[] from rfl) ⟨rfl,_,I'⟩
 have hfin:=hfin r;refine wp_seq ?_;unfold Yi at hr;cases k1:isP Q8 l with
 |true=>
  rw[k1] at hr;cases hr;have D:X8 (Xv b q q0 q1 q2 q3 false Q8 48) b E (mkN E.len false w.heap.size [l,l.tail] [] [[]] []) false w w [Qx Q8 0 1 (tk 321)] ⟨[],[],[],[]⟩ []:=
   ⟨rfl,rfl,rfl,rfl,Qa (Qy k1 rfl _) Q7,fun _ hx=>(by cases hx),Ql,Qk,fun _ hx=>(by cases hx),Qj,X _,cuM,fun _ hx=>(by cases hx),fun _ hx=>(by cases hx)⟩
  refine D.round rfl rfl (hB.inv hrd) (fin:=.ret 1 0) (fun _ _ _=>by kernel_rfl) ?_;exact hfin
 |false=>
  rw[k1] at hr;have hr:Xx E.len Q8 x f [] l=some r:=hr;have D:X8 (Xv b q q0 q1 q2 q3 false Q8 48) b E (mkN E.len false w.heap.size [l] [] [[]] []) false w w [Qc Q8 0 (tk 321)] ⟨[],[],[],[]⟩ []:=
   ⟨rfl,rfl,rfl,rfl,Qa (Qd k1 _) Q7,fun _ hx=>(by cases hx),Ql,Qk,fun _ hx=>(by cases hx),Qj,X _,cuM,fun _ hx=>(by cases hx),fun _ hx=>(by cases hx)⟩
  exact D.round rfl rfl (hB.inv hrd) (fin:=.again 0 0) (fun _ _ _=>by kernel_rfl) (fun w' a' I'=>wp_block (Zr (show Vl _ _ _ _ _ from Qe5 far hs (r:=r) hfin f [] l w' a' (by simpa using hf) hr I')))
theorem Qd1 {b q q0 q1 q2 q3 f:Nat}{E:Env}{w:World}(far:Qjr b q q0 q1 q2 q3 w){x:List Tok→R Tr}(hs:Reads b E false 22 #[rp b] x){l:List Tok}{r:Except Nat (List Tr×List Tok)}(hf:f≤4294967296)(hr:Yi E.len Q8 false x f l=some r)(hrd:RdB b E w l false)(hB:Qp4 b q q0 q1 q2 q3 false Q8 22 w):
  Calls Tryz.prog 98 (Qpq q q0 q1 q2 q3) w (Fb (Xv b q q0 q1 q2 q3 false Q8 22) b E false r w):=by
 refine calls_of_wp (fn:=Tryz.f98) (c:=.seq (seqL (Ze 98)) (.block 0 (.loop (V8 (Qaz (Ze 98)))))) Dk Dk ?_;have X:=fun N=>Qpy (first:=false) (shut:=Q8) (g:=22) (N:=N) far
 have hfin:∀ r:Except Nat (List Tr×List Tok),(match r with
   | .ok (ts,l')=>∀ w' a',Nl (Xv b q q0 q1 q2 q3 false Q8 22) b E false w ts l' w' a'→(Exit.inBlock 0 (bodyPost Tryz.prog Tryz.f98 (Fb (Xv b q q0 q1 q2 q3 false Q8 22) b E false r w))) .ret a' w'
   | .error p=>∀ w' a',Zx b q w w'→a'.defers=[]→(Exit.inBlock 0 (bodyPost Tryz.prog Tryz.f98 (Fb (Xv b q q0 q1 q2 q3 false Q8 22) b E false r w))) (.panic [{ v:=Vw p,recovered:=false }]) a' w'):=fun r=>by
  cases r with
  |error p=>
   intro w' a' hk hd;obtain⟨tm,ds⟩:=a';obtain rfl:ds=[]:=hd;exact⟨rfl,rfl,hk⟩
  |ok y=>
   obtain⟨ts,l'⟩:=y;intro w' a' I';obtain⟨tm,ds⟩:=a';obtain rfl:ds=[]:=I'.ds;exact Jm (show Tryz.f98.results = #[] from rfl) ⟨rfl,_,I'⟩
 have hfin:=hfin r;refine wp_seq ?_;unfold Yi at hr;cases k1:isP Q8 l with
 |true=>
  rw[k1] at hr;cases hr;have D:X8 (Xv b q q0 q1 q2 q3 false Q8 22) b E (mkN E.len false w.heap.size [l,l.tail] [] [[]] []) false w w [Qx Q8 0 1 (tk 321)] ⟨[],[],[],[]⟩ []:=
   ⟨rfl,rfl,rfl,rfl,Qa (Qy k1 rfl _) Q7,fun _ hx=>(by cases hx),Ql,Qk,fun _ hx=>(by cases hx),Qj,X _,cuM,fun _ hx=>(by cases hx),fun _ hx=>(by cases hx)⟩
  refine D.round rfl rfl (hB.inv hrd) (fin:=.ret 1 0) (fun _ _ _=>by kernel_rfl) ?_;exact hfin
 |false=>
  rw[k1] at hr;have hr:Xx E.len Q8 x f [] l=some r:=hr;have D:X8 (Xv b q q0 q1 q2 q3 false Q8 22) b E (mkN E.len false w.heap.size [l] [] [[]] []) false w w [Qc Q8 0 (tk 321)] ⟨[],[],[],[]⟩ []:=
   ⟨rfl,rfl,rfl,rfl,Qa (Qd k1 _) Q7,fun _ hx=>(by cases hx),Ql,Qk,fun _ hx=>(by cases hx),Qj,X _,cuM,fun _ hx=>(by cases hx),fun _ hx=>(by cases hx)⟩
  exact D.round rfl rfl (hB.inv hrd) (fin:=.again 0 0) (fun _ _ _=>by kernel_rfl) (fun w' a' I'=>wp_block (Zr (show Vl _ _ _ _ _ from Qe7 far hs (r:=r) hfin f [] l w' a' (by simpa using hf) hr I')))
theorem Qd0 {b q q0 q1 q2 q3 f:Nat}{E:Env}{w:World}(far:Qjr b q q0 q1 q2 q3 w){x:List Tok→R Tr}(hs:Reads b E false 97 #[rp b] x){l:List Tok}{r:Except Nat (List Tr×List Tok)}(hf:f≤4294967296)(hr:Yi E.len wQs true x f l=some r)(hrd:RdB b E w l false)(hB:Qp4 b q q0 q1 q2 q3 true wQs 97 w):
  Calls Tryz.prog 98 (Qpq q q0 q1 q2 q3) w (Fb (Xv b q q0 q1 q2 q3 true wQs 97) b E false r w):=by
 refine calls_of_wp (fn:=Tryz.f98) (c:=.seq (seqL (Ze 98)) (.block 0 (.loop (V8 (Qaz (Ze 98)))))) Dk Dk ?_;have X:=fun N=>Qpy (first:=true) (shut:=wQs) (g:=97) (N:=N) far
 have hfin:∀ r:Except Nat (List Tr×List Tok),(match r with
   | .ok (ts,l')=>∀ w' a',Nl (Xv b q q0 q1 q2 q3 true wQs 97) b E false w ts l' w' a'→(Exit.inBlock 0 (bodyPost Tryz.prog Tryz.f98 (Fb (Xv b q q0 q1 q2 q3 true wQs 97) b E false r w))) .ret a' w'
   | .error p=>∀ w' a',Zx b q w w'→a'.defers=[]→(Exit.inBlock 0 (bodyPost Tryz.prog Tryz.f98 (Fb (Xv b q q0 q1 q2 q3 true wQs 97) b E false r w))) (.panic [{ v:=Vw p,recovered:=false }]) a' w'):=fun r=>by
  cases r with
  |error p=>
   intro w' a' hk hd;obtain⟨tm,ds⟩:=a';obtain rfl:ds=[]:=hd;exact⟨rfl,rfl,hk⟩
  |ok y=>
   obtain⟨ts,l'⟩:=y;intro w' a' I';obtain⟨tm,ds⟩:=a';obtain rfl:ds=[]:=I'.ds;exact Jm (show Tryz.f98.results = #[] from rfl) ⟨rfl,_,I'⟩
 have hfin:=hfin r;refine wp_seq ?_;have hr:Xx E.len wQs x f [] l=some r:=hr;have D:X8 (Xv b q q0 q1 q2 q3 true wQs 97) b E (mkN E.len false w.heap.size [l] [] [[]] []) false w w [] ⟨[],[],[],[]⟩ []:=
  ⟨rfl,rfl,rfl,rfl,Q7,fun _ hx=>(by cases hx),Ql,Qk,fun _ hx=>(by cases hx),Qj,X _,cuM,fun _ hx=>(by cases hx),fun _ hx=>(by cases hx)⟩
 exact D.round rfl rfl (hB.inv hrd) (fin:=.again 0 0) (fun _ _ _=>by kernel_rfl) (fun w' a' I'=>wp_block (Zr (show Vl _ _ _ _ _ from Qe6 far hs (r:=r) hfin f [] l w' a' (by simpa using hf) hr I')))
theorem Qbz {b q q0 q1 q2 q3 f:Nat}{E:Env}{w:World}(far:Qjr b q q0 q1 q2 q3 w){x:List Tok→R Tr}(hs:Reads b E false 22 #[rp b] x){l:List Tok}{r:Except Nat (List Tr×List Tok)}(hf:f≤4294967296)(hr:Yi E.len wUc false x f l=some r)(hrd:RdB b E w l false)(hB:Qp4 b q q0 q1 q2 q3 false wUc 22 w):
  Calls Tryz.prog 98 (Qpq q q0 q1 q2 q3) w (Fb (Xv b q q0 q1 q2 q3 false wUc 22) b E false r w):=by
 refine calls_of_wp (fn:=Tryz.f98) (c:=.seq (seqL (Ze 98)) (.block 0 (.loop (V8 (Qaz (Ze 98)))))) Dk Dk ?_;have X:=fun N=>Qpy (first:=false) (shut:=wUc) (g:=22) (N:=N) far
 have hfin:∀ r:Except Nat (List Tr×List Tok),(match r with
   | .ok (ts,l')=>∀ w' a',Nl (Xv b q q0 q1 q2 q3 false wUc 22) b E false w ts l' w' a'→(Exit.inBlock 0 (bodyPost Tryz.prog Tryz.f98 (Fb (Xv b q q0 q1 q2 q3 false wUc 22) b E false r w))) .ret a' w'
   | .error p=>∀ w' a',Zx b q w w'→a'.defers=[]→(Exit.inBlock 0 (bodyPost Tryz.prog Tryz.f98 (Fb (Xv b q q0 q1 q2 q3 false wUc 22) b E false r w))) (.panic [{ v:=Vw p,recovered:=false }]) a' w'):=fun r=>by
  cases r with
  |error p=>
   intro w' a' hk hd;obtain⟨tm,ds⟩:=a';obtain rfl:ds=[]:=hd;exact⟨rfl,rfl,hk⟩
  |ok y=>
   obtain⟨ts,l'⟩:=y;intro w' a' I';obtain⟨tm,ds⟩:=a';obtain rfl:ds=[]:=I'.ds;exact Jm (show Tryz.f98.results = #[] from rfl) ⟨rfl,_,I'⟩
 have hfin:=hfin r;refine wp_seq ?_;unfold Yi at hr;cases k1:isP wUc l with
 |true=>
  rw[k1] at hr;cases hr;have D:X8 (Xv b q q0 q1 q2 q3 false wUc 22) b E (mkN E.len false w.heap.size [l,l.tail] [] [[]] []) false w w [Qx wUc 0 1 (tk 321)] ⟨[],[],[],[]⟩ []:=
   ⟨rfl,rfl,rfl,rfl,Qa (Qy k1 rfl _) Q7,fun _ hx=>(by cases hx),Ql,Qk,fun _ hx=>(by cases hx),Qj,X _,cuM,fun _ hx=>(by cases hx),fun _ hx=>(by cases hx)⟩
  refine D.round rfl rfl (hB.inv hrd) (fin:=.ret 1 0) (fun _ _ _=>by kernel_rfl) ?_;exact hfin
 |false=>
  rw[k1] at hr;have hr:Xx E.len wUc x f [] l=some r:=hr;have D:X8 (Xv b q q0 q1 q2 q3 false wUc 22) b E (mkN E.len false w.heap.size [l] [] [[]] []) false w w [Qc wUc 0 (tk 321)] ⟨[],[],[],[]⟩ []:=
   ⟨rfl,rfl,rfl,rfl,Qa (Qd k1 _) Q7,fun _ hx=>(by cases hx),Ql,Qk,fun _ hx=>(by cases hx),Qj,X _,cuM,fun _ hx=>(by cases hx),fun _ hx=>(by cases hx)⟩
  exact D.round rfl rfl (hB.inv hrd) (fin:=.again 0 0) (fun _ _ _=>by kernel_rfl) (fun w' a' I'=>wp_block (Zr (show Vl _ _ _ _ _ from Qdy far hs (r:=r) hfin f [] l w' a' (by simpa using hf) hr I')))
end Prs
end Go.Proofs.YtcbkeecabcbogaaGreatDoor
