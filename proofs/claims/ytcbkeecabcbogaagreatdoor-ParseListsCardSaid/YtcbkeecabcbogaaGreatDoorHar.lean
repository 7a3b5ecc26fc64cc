/- Contract of what many's closure does, once for each function -/
import Derived.Test.YtcbkeecabcbogaaGreatDoorHaq
set_option maxRecDepth 20000
set_option linter.unusedSimpArgs false
set_option linter.unusedVariables false
namespace Go.Proofs.YtcbkeecabcbogaaGreatDoor
open Go.RowKit
namespace Prs
open Ev
noncomputable def seqL:Code→Code
 | .seq a _=>a
 |c=>c
noncomputable def Qef:Code→Code
 | .seq _ a=>a
 |c=>c
noncomputable def X0 (b q q0 q1 q2 q3:Nat)(first:Bool)(shut:List UInt8)(g:FuncId):Vx where
 n:=24
 rowSlot:=3
 rowTy:=24
 cells:=1
 ix:=0
 q:=q
 vs:=fun _ => .bool true
 boxes:=[⟨0,.bool first,.bool first,q0,4⟩,⟨1,.pointer (some ⟨64,0,none⟩),rp b,q1,51⟩,⟨2,str shut,str shut,q2,9⟩,⟨4,.func (.func g) #[.pointer (some ⟨64,0,none⟩)] #[],.func (.func g) #[rp b] #[],q3,50⟩]
 direct:=[]
structure Qjd (b q q0 q1 q2 q3:Nat)(w1:World):Prop where
 bq:b<q
 bw:b<w1.heap.size
 d0:q0≠b∧q0≠q
 d1:q1≠b∧q1≠q
 d2:q2≠b∧q2≠q
 d3:q3≠b∧q3≠q
 e:q0≠q1∧q0≠q2∧q0≠q3∧q1≠q2∧q1≠q3∧q2≠q3
theorem memM {α:Type}{x a0 a1 a2 a3:α}{P:α→Prop}(h:x ∈ [a0,a1,a2,a3])(h0:P a0)(h1:P a1)(h2:P a2)(h3:P a3):P x:=by
 simp only[List.mem_cons,List.not_mem_nil,or_false] at h;rcases h with rfl|rfl|rfl|rfl
 ·exact h0
 ·exact h1
 ·exact h2
 ·exact h3
theorem fixM {b q q0 q1 q2 q3:Nat}{first:Bool}{shut:List UInt8}{g:FuncId}{N:Zv}{w1:World}(h:Qjd b q q0 q1 q2 q3 w1):LFix (X0 b q q0 q1 q2 q3 first shut g) b N w1 where
 bq:=h.bq
 bw:=h.bw
 cells:=show 1≤5 by decide
 ixl:=show 0<1 by decide
 nb:=show 4≤8 by decide
 boxb:=fun x hx=>memM (P:=fun x=>x.blk≠b∧x.blk≠q) hx h.d0 h.d1 h.d2 h.d3
 inj:=by
  obtain⟨e1,e2,e3,e4,e5,e6⟩:=h.e;refine .cons (fun x hx=>?_) (.cons (fun x hx=>?_) (.cons (fun x hx=>?_) (.cons (fun x hx=>by cases hx) .nil)))
  ·simp only[List.mem_cons,List.not_mem_nil,or_false] at hx;rcases hx with rfl|rfl|rfl
   ·exact e1
   ·exact e2
   ·exact e3
  ·simp only[List.mem_cons,List.not_mem_nil,or_false] at hx;rcases hx with rfl|rfl
   ·exact e4
   ·exact e5
  ·simp only[List.mem_cons,List.not_mem_nil,or_false] at hx;rcases hx with rfl;exact e6
 one:=fun i _=>rfl
 cell:=fun x hx p hax=>memM (P:=fun x=>VR p x.cell x.real) hx (.bool _) (Qfu hax) (.string _) (.func _ (.cons (Qfu hax) .nil) .nil)
 dir:=fun x hx=>by cases hx
theorem cuM {b q q0 q1 q2 q3:Nat}{first:Bool}{shut:List UInt8}{g:FuncId}{N:Zv}:∀ x∈(X0 b q q0 q1 q2 q3 first shut g).boxes,∀ p u,AxN b N p→VR p x.cell u→u=x.real:=fun x hx p u hax=>memM (P:=fun x=>VR p x.cell u→u=x.real) hx
 (fun h=>by cases h;rfl) (fun h=>Ad hax h) (fun h=>by cases h;rfl) (fun h=>by
  cases h with
  |@func _ a b' c d h1 h2=>
  generalize hb:b'.toList=bl at h1;generalize hd:d.toList=dl at h2;cases h2;cases h1 with
  |cons h3 h4=>
  cases h4;have e1:d = #[]:=by rw[←Array.toList_inj,hd]
  have e2:=Ad hax h3;subst e2;have e3:b' = #[rp b]:=by rw[←Array.toList_inj,hb]
  rw[e1,e3])
theorem Qaa {b q q0 q1 q2 q3:Nat}{E:Env}{w1:World}(far:Qjd b q q0 q1 q2 q3 w1){x:List Tok→R Tr}(hs:Reads b E false 76 #[rp b] x){Q:Exit→Act→World→Prop}{r:Except Nat (List Tr×List Tok)}
  (hQ:match r with
   | .ok (ts,l')=>∀ w' a',Cm (X0 b q q0 q1 q2 q3 false Qw 76) b E false w1 ts l' w' a'→Q .ret a' w'
   | .error p=>∀ w' a',Vo b q w1 w'→a'.defers=[]→Q (.panic [{ v:=Vy p,recovered:=false }]) a' w'):
  ∀ (f:Nat) (acc:List Tr) (l:List Tok) (w:World) (a:Act),acc.length+f≤4294967296→Xl E.len Qw x f acc l=some r→Cm (X0 b q q0 q1 q2 q3 false Qw 76) b E false w1 acc l w a→V8 Tryz.prog (Ur (Qef (Zj 98))) Q a w:=by
 intro f;induction f with
 |zero=>intro acc l w a _ h;rw[Xl] at h;cases h
 |succ f ih=>
  intro acc l w a hf h I;rw[Xl] at h;refine Ve ?_;have X:=fun N=>fixM (first:=false) (shut:=Qw) (g:=76) (N:=N) far
  cases k1:x l with
  |none=>rw[k1] at h;cases h
  |some y=>
   rw[k1] at h;cases y with
   |error pl=>
    cases h;have D:Zl (X0 b q q0 q1 q2 q3 false Qw 76) b E (mkN E.len false w1.heap.size [l] [] [acc] [(pl:Int)]) false w1 w [Xt 76 [] 0 2 (tk 321)] ⟨[],[],[],[322]⟩ []:=
     ⟨rfl,rfl,rfl,rfl,Qa (X6 hs (.inr rfl) rfl Qy k1 Dd rfl) Xb,fun _ hx=>(by cases hx),Qn,Ql,fun _ hx=>(by cases hx),fun k hk=>(by obtain rfl:=List.mem_singleton.1 hk;exact⟨pl,rfl⟩),X _,cuM,fun _ hx=>(by cases hx),fun _ hx=>(by cases hx)⟩
    exact D.round rfl rfl I (fin:=.pan (tk 322)) (fun _ _ _=>by kernel_rfl) hQ
   |ok y=>
    obtain⟨t,m⟩:=y;dsimp only [andThen] at h;cases k2:isP Zn m with
    |true=>
     rw[k2,if_pos rfl] at h;have D:Zl (X0 b q q0 q1 q2 q3 false Qw 76) b E (mkN E.len false w1.heap.size [l,m,m.tail] [t] [acc,acc++[tr0],acc++[t]] []) false w1 w [Qq 76 [] 0 1 (tk 256) 0 (tk 321),Qx Zn 1 2 (tk 321)] ⟨[],[(0,Yd,1)],[(1,Ue 0,2)],[]⟩ []:=
      ⟨rfl,rfl,rfl,rfl,Qa (Qs hs (.inr rfl) rfl Qy k1 (.inl rfl) Dd) (Qa (Qz k2 rfl _) Xb),fun _ hx=>(by cases hx),app1 Dw,Qf8,fun _ hx=>(by cases hx),Qj,X _,cuM,fun _ hx=>(by cases hx),fun _ hx=>(by cases hx)⟩
     exact D.round rfl rfl I (fin:=.again 2 2) (fun _ _ _=>by kernel_rfl) fun w' a' I'=>ih (acc++[t]) m.tail w' a' (by simp;omega) h I'
    |false=>
     rw[k2,if_neg Dd,G8] at h;unfold Vl at h;cases k3:isP Qw (X4 Qw m) with
     |true=>
      rw[k3,if_pos rfl] at h;cases h;have D:Zl (X0 b q q0 q1 q2 q3 false Qw 76) b E (mkN E.len false w1.heap.size [l,m,(X4 Qw m).tail] [t] [acc,acc++[tr0],acc++[t]] []) false w1 w [Qq 76 [] 0 1 (tk 256) 0 (tk 321),Qc Zn 1 (tk 321),Ak Qw 1 2 (tk 321)] ⟨[],[(0,Yd,1)],[(1,Ue 0,2)],[]⟩ []:=
       ⟨rfl,rfl,rfl,rfl,Qa (Qs hs (.inr rfl) rfl Qy k1 (.inl rfl) Dd) (Qa (Qd k2 _) (Qa (Qa5 k3 rfl _) Xb)),fun _ hx=>(by cases hx),app1 Dw,Qf8,fun _ hx=>(by cases hx),Qj,X _,cuM,fun _ hx=>(by cases hx),fun _ hx=>(by cases hx)⟩
      exact D.round rfl rfl I (fin:=.ret 2 2) (fun _ _ _=>by kernel_rfl) hQ
     |false=>
      rw[k3,if_neg Dd] at h;cases h;have D:Zl (X0 b q q0 q1 q2 q3 false Qw 76) b E (mkN E.len false w1.heap.size [l,m,X4 Qw m] [t] [acc,acc++[tr0],acc++[t]] []) false w1 w [Qq 76 [] 0 1 (tk 256) 0 (tk 321),Qc Zn 1 (tk 321),Am Qw 1 2 (tk 321)] ⟨[],[(0,Yd,1)],[(1,Ue 0,2)],[]⟩ []:=
       ⟨rfl,rfl,rfl,rfl,Qa (Qs hs (.inr rfl) rfl Qy k1 (.inl rfl) Dd) (Qa (Qd k2 _) (Qa (Qbj rfl Dd rfl k3 _) Xb)),fun _ hx=>(by cases hx),app1 Dw,Qf8,fun _ hx=>(by cases hx),Qj,X _,cuM,fun _ hx=>(by cases hx),fun _ hx=>(by cases hx)⟩
      exact D.round rfl rfl I (fin:=.pan (tk 144)) (fun _ _ _=>by kernel_rfl) hQ
theorem Qcw {b q q0 q1 q2 q3:Nat}{E:Env}{w1:World}(far:Qjd b q q0 q1 q2 q3 w1){x:List Tok→R Tr}(hs:Reads b E false 48 #[rp b] x){Q:Exit→Act→World→Prop}{r:Except Nat (List Tr×List Tok)}
  (hQ:match r with
   | .ok (ts,l')=>∀ w' a',Cm (X0 b q q0 q1 q2 q3 false Qw 48) b E false w1 ts l' w' a'→Q .ret a' w'
   | .error p=>∀ w' a',Vo b q w1 w'→a'.defers=[]→Q (.panic [{ v:=Vy p,recovered:=false }]) a' w'):
  ∀ (f:Nat) (acc:List Tr) (l:List Tok) (w:World) (a:Act),acc.length+f≤4294967296→Xl E.len Qw x f acc l=some r→Cm (X0 b q q0 q1 q2 q3 false Qw 48) b E false w1 acc l w a→V8 Tryz.prog (Ur (Qef (Zj 98))) Q a w:=by
 intro f;induction f with
 |zero=>intro acc l w a _ h;rw[Xl] at h;cases h
 |succ f ih=>
  intro acc l w a hf h I;rw[Xl] at h;refine Ve ?_;have X:=fun N=>fixM (first:=false) (shut:=Qw) (g:=48) (N:=N) far
  cases k1:x l with
  |none=>rw[k1] at h;cases h
  |some y=>
   rw[k1] at h;cases y with
   |error pl=>
    cases h;have D:Zl (X0 b q q0 q1 q2 q3 false Qw 48) b E (mkN E.len false w1.heap.size [l] [] [acc] [(pl:Int)]) false w1 w [Xt 48 [] 0 2 (tk 321)] ⟨[],[],[],[322]⟩ []:=
     ⟨rfl,rfl,rfl,rfl,Qa (X6 hs (.inr rfl) rfl Qy k1 Dd rfl) Xb,fun _ hx=>(by cases hx),Qn,Ql,fun _ hx=>(by cases hx),fun k hk=>(by obtain rfl:=List.mem_singleton.1 hk;exact⟨pl,rfl⟩),X _,cuM,fun _ hx=>(by cases hx),fun _ hx=>(by cases hx)⟩
    exact D.round rfl rfl I (fin:=.pan (tk 322)) (fun _ _ _=>by kernel_rfl) hQ
   |ok y=>
    obtain⟨t,m⟩:=y;dsimp only [andThen] at h;cases k2:isP Zn m with
    |true=>
     rw[k2,if_pos rfl] at h;have D:Zl (X0 b q q0 q1 q2 q3 false Qw 48) b E (mkN E.len false w1.heap.size [l,m,m.tail] [t] [acc,acc++[tr0],acc++[t]] []) false w1 w [Qq 48 [] 0 1 (tk 256) 0 (tk 321),Qx Zn 1 2 (tk 321)] ⟨[],[(0,Yd,1)],[(1,Ue 0,2)],[]⟩ []:=
      ⟨rfl,rfl,rfl,rfl,Qa (Qs hs (.inr rfl) rfl Qy k1 (.inl rfl) Dd) (Qa (Qz k2 rfl _) Xb),fun _ hx=>(by cases hx),app1 Dw,Qf8,fun _ hx=>(by cases hx),Qj,X _,cuM,fun _ hx=>(by cases hx),fun _ hx=>(by cases hx)⟩
     exact D.round rfl rfl I (fin:=.again 2 2) (fun _ _ _=>by kernel_rfl) fun w' a' I'=>ih (acc++[t]) m.tail w' a' (by simp;omega) h I'
    |false=>
     rw[k2,if_neg Dd,G8] at h;unfold Vl at h;cases k3:isP Qw (X4 Qw m) with
     |true=>
      rw[k3,if_pos rfl] at h;cases h;have D:Zl (X0 b q q0 q1 q2 q3 false Qw 48) b E (mkN E.len false w1.heap.size [l,m,(X4 Qw m).tail] [t] [acc,acc++[tr0],acc++[t]] []) false w1 w [Qq 48 [] 0 1 (tk 256) 0 (tk 321),Qc Zn 1 (tk 321),Ak Qw 1 2 (tk 321)] ⟨[],[(0,Yd,1)],[(1,Ue 0,2)],[]⟩ []:=
       ⟨rfl,rfl,rfl,rfl,Qa (Qs hs (.inr rfl) rfl Qy k1 (.inl rfl) Dd) (Qa (Qd k2 _) (Qa (Qa5 k3 rfl _) Xb)),fun _ hx=>(by cases hx),app1 Dw,Qf8,fun _ hx=>(by cases hx),Qj,X _,cuM,fun _ hx=>(by cases hx),fun _ hx=>(by cases hx)⟩
      exact D.round rfl rfl I (fin:=.ret 2 2) (fun _ _ _=>by kernel_rfl) hQ
     |false=>
      rw[k3,if_neg Dd] at h;cases h;have D:Zl (X0 b q q0 q1 q2 q3 false Qw 48) b E (mkN E.len false w1.heap.size [l,m,X4 Qw m] [t] [acc,acc++[tr0],acc++[t]] []) false w1 w [Qq 48 [] 0 1 (tk 256) 0 (tk 321),Qc Zn 1 (tk 321),Am Qw 1 2 (tk 321)] ⟨[],[(0,Yd,1)],[(1,Ue 0,2)],[]⟩ []:=
       ⟨rfl,rfl,rfl,rfl,Qa (Qs hs (.inr rfl) rfl Qy k1 (.inl rfl) Dd) (Qa (Qd k2 _) (Qa (Qbj rfl Dd rfl k3 _) Xb)),fun _ hx=>(by cases hx),app1 Dw,Qf8,fun _ hx=>(by cases hx),Qj,X _,cuM,fun _ hx=>(by cases hx),fun _ hx=>(by cases hx)⟩
      exact D.round rfl rfl I (fin:=.pan (tk 144)) (fun _ _ _=>by kernel_rfl) hQ
theorem Qcy {b q q0 q1 q2 q3:Nat}{E:Env}{w1:World}(far:Qjd b q q0 q1 q2 q3 w1){x:List Tok→R Tr}(hs:Reads b E false 22 #[rp b] x){Q:Exit→Act→World→Prop}{r:Except Nat (List Tr×List Tok)}
  (hQ:match r with
   | .ok (ts,l')=>∀ w' a',Cm (X0 b q q0 q1 q2 q3 false Qw 22) b E false w1 ts l' w' a'→Q .ret a' w'
   | .error p=>∀ w' a',Vo b q w1 w'→a'.defers=[]→Q (.panic [{ v:=Vy p,recovered:=false }]) a' w'):
  ∀ (f:Nat) (acc:List Tr) (l:List Tok) (w:World) (a:Act),acc.length+f≤4294967296→Xl E.len Qw x f acc l=some r→Cm (X0 b q q0 q1 q2 q3 false Qw 22) b E false w1 acc l w a→V8 Tryz.prog (Ur (Qef (Zj 98))) Q a w:=by
 intro f;induction f with
 |zero=>intro acc l w a _ h;rw[Xl] at h;cases h
 |succ f ih=>
  intro acc l w a hf h I;rw[Xl] at h;refine Ve ?_;have X:=fun N=>fixM (first:=false) (shut:=Qw) (g:=22) (N:=N) far
  cases k1:x l with
  |none=>rw[k1] at h;cases h
  |some y=>
   rw[k1] at h;cases y with
   |error pl=>
    cases h;have D:Zl (X0 b q q0 q1 q2 q3 false Qw 22) b E (mkN E.len false w1.heap.size [l] [] [acc] [(pl:Int)]) false w1 w [Xt 22 [] 0 2 (tk 321)] ⟨[],[],[],[322]⟩ []:=
     ⟨rfl,rfl,rfl,rfl,Qa (X6 hs (.inr rfl) rfl Qy k1 Dd rfl) Xb,fun _ hx=>(by cases hx),Qn,Ql,fun _ hx=>(by cases hx),fun k hk=>(by obtain rfl:=List.mem_singleton.1 hk;exact⟨pl,rfl⟩),X _,cuM,fun _ hx=>(by cases hx),fun _ hx=>(by cases hx)⟩
    exact D.round rfl rfl I (fin:=.pan (tk 322)) (fun _ _ _=>by kernel_rfl) hQ
   |ok y=>
    obtain⟨t,m⟩:=y;dsimp only [andThen] at h;cases k2:isP Zn m with
    |true=>
     rw[k2,if_pos rfl] at h;have D:Zl (X0 b q q0 q1 q2 q3 false Qw 22) b E (mkN E.len false w1.heap.size [l,m,m.tail] [t] [acc,acc++[tr0],acc++[t]] []) false w1 w [Qq 22 [] 0 1 (tk 256) 0 (tk 321),Qx Zn 1 2 (tk 321)] ⟨[],[(0,Yd,1)],[(1,Ue 0,2)],[]⟩ []:=
      ⟨rfl,rfl,rfl,rfl,Qa (Qs hs (.inr rfl) rfl Qy k1 (.inl rfl) Dd) (Qa (Qz k2 rfl _) Xb),fun _ hx=>(by cases hx),app1 Dw,Qf8,fun _ hx=>(by cases hx),Qj,X _,cuM,fun _ hx=>(by cases hx),fun _ hx=>(by cases hx)⟩
     exact D.round rfl rfl I (fin:=.again 2 2) (fun _ _ _=>by kernel_rfl) fun w' a' I'=>ih (acc++[t]) m.tail w' a' (by simp;omega) h I'
    |false=>
     rw[k2,if_neg Dd,G8] at h;unfold Vl at h;cases k3:isP Qw (X4 Qw m) with
     |true=>
      rw[k3,if_pos rfl] at h;cases h;have D:Zl (X0 b q q0 q1 q2 q3 false Qw 22) b E (mkN E.len false w1.heap.size [l,m,(X4 Qw m).tail] [t] [acc,acc++[tr0],acc++[t]] []) false w1 w [Qq 22 [] 0 1 (tk 256) 0 (tk 321),Qc Zn 1 (tk 321),Ak Qw 1 2 (tk 321)] ⟨[],[(0,Yd,1)],[(1,Ue 0,2)],[]⟩ []:=
       ⟨rfl,rfl,rfl,rfl,Qa (Qs hs (.inr rfl) rfl Qy k1 (.inl rfl) Dd) (Qa (Qd k2 _) (Qa (Qa5 k3 rfl _) Xb)),fun _ hx=>(by cases hx),app1 Dw,Qf8,fun _ hx=>(by cases hx),Qj,X _,cuM,fun _ hx=>(by cases hx),fun _ hx=>(by cases hx)⟩
      exact D.round rfl rfl I (fin:=.ret 2 2) (fun _ _ _=>by kernel_rfl) hQ
     |false=>
      rw[k3,if_neg Dd] at h;cases h;have D:Zl (X0 b q q0 q1 q2 q3 false Qw 22) b E (mkN E.len false w1.heap.size [l,m,X4 Qw m] [t] [acc,acc++[tr0],acc++[t]] []) false w1 w [Qq 22 [] 0 1 (tk 256) 0 (tk 321),Qc Zn 1 (tk 321),Am Qw 1 2 (tk 321)] ⟨[],[(0,Yd,1)],[(1,Ue 0,2)],[]⟩ []:=
       ⟨rfl,rfl,rfl,rfl,Qa (Qs hs (.inr rfl) rfl Qy k1 (.inl rfl) Dd) (Qa (Qd k2 _) (Qa (Qbj rfl Dd rfl k3 _) Xb)),fun _ hx=>(by cases hx),app1 Dw,Qf8,fun _ hx=>(by cases hx),Qj,X _,cuM,fun _ hx=>(by cases hx),fun _ hx=>(by cases hx)⟩
      exact D.round rfl rfl I (fin:=.pan (tk 144)) (fun _ _ _=>by kernel_rfl) hQ
theorem Qcx {b q q0 q1 q2 q3:Nat}{E:Env}{w1:World}(far:Qjd b q q0 q1 q2 q3 w1){x:List Tok→R Tr}(hs:Reads b E false 97 #[rp b] x){Q:Exit→Act→World→Prop}{r:Except Nat (List Tr×List Tok)}
  (hQ:match r with
   | .ok (ts,l')=>∀ w' a',Cm (X0 b q q0 q1 q2 q3 true wQs 97) b E false w1 ts l' w' a'→Q .ret a' w'
   | .error p=>∀ w' a',Vo b q w1 w'→a'.defers=[]→Q (.panic [{ v:=Vy p,recovered:=false }]) a' w'):
  ∀ (f:Nat) (acc:List Tr) (l:List Tok) (w:World) (a:Act),acc.length+f≤4294967296→Xl E.len wQs x f acc l=some r→Cm (X0 b q q0 q1 q2 q3 true wQs 97) b E false w1 acc l w a→V8 Tryz.prog (Ur (Qef (Zj 98))) Q a w:=by
 intro f;induction f with
 |zero=>intro acc l w a _ h;rw[Xl] at h;cases h
 |succ f ih=>
  intro acc l w a hf h I;rw[Xl] at h;refine Ve ?_;have X:=fun N=>fixM (first:=true) (shut:=wQs) (g:=97) (N:=N) far
  cases k1:x l with
  |none=>rw[k1] at h;cases h
  |some y=>
   rw[k1] at h;cases y with
   |error pl=>
    cases h;have D:Zl (X0 b q q0 q1 q2 q3 true wQs 97) b E (mkN E.len false w1.heap.size [l] [] [acc] [(pl:Int)]) false w1 w [Xt 97 [] 0 2 (tk 321)] ⟨[],[],[],[322]⟩ []:=
     ⟨rfl,rfl,rfl,rfl,Qa (X6 hs (.inr rfl) rfl Qy k1 Dd rfl) Xb,fun _ hx=>(by cases hx),Qn,Ql,fun _ hx=>(by cases hx),fun k hk=>(by obtain rfl:=List.mem_singleton.1 hk;exact⟨pl,rfl⟩),X _,cuM,fun _ hx=>(by cases hx),fun _ hx=>(by cases hx)⟩
    exact D.round rfl rfl I (fin:=.pan (tk 322)) (fun _ _ _=>by kernel_rfl) hQ
   |ok y=>
    obtain⟨t,m⟩:=y;dsimp only [andThen] at h;cases k2:isP Zn m with
    |true=>
     rw[k2,if_pos rfl] at h;have D:Zl (X0 b q q0 q1 q2 q3 true wQs 97) b E (mkN E.len false w1.heap.size [l,m,m.tail] [t] [acc,acc++[tr0],acc++[t]] []) false w1 w [Qq 97 [] 0 1 (tk 256) 0 (tk 321),Qx Zn 1 2 (tk 321)] ⟨[],[(0,Yd,1)],[(1,Ue 0,2)],[]⟩ []:=
      ⟨rfl,rfl,rfl,rfl,Qa (Qs hs (.inr rfl) rfl Qy k1 (.inl rfl) Dd) (Qa (Qz k2 rfl _) Xb),fun _ hx=>(by cases hx),app1 Dw,Qf8,fun _ hx=>(by cases hx),Qj,X _,cuM,fun _ hx=>(by cases hx),fun _ hx=>(by cases hx)⟩
     exact D.round rfl rfl I (fin:=.again 2 2) (fun _ _ _=>by kernel_rfl) fun w' a' I'=>ih (acc++[t]) m.tail w' a' (by simp;omega) h I'
    |false=>
     rw[k2,if_neg Dd,G8] at h;unfold Vl at h;cases k3:isP wQs (X4 wQs m) with
     |true=>
      rw[k3,if_pos rfl] at h;cases h;have D:Zl (X0 b q q0 q1 q2 q3 true wQs 97) b E (mkN E.len false w1.heap.size [l,m,(X4 wQs m).tail] [t] [acc,acc++[tr0],acc++[t]] []) false w1 w [Qq 97 [] 0 1 (tk 256) 0 (tk 321),Qc Zn 1 (tk 321),Ak wQs 1 2 (tk 321)] ⟨[],[(0,Yd,1)],[(1,Ue 0,2)],[]⟩ []:=
       ⟨rfl,rfl,rfl,rfl,Qa (Qs hs (.inr rfl) rfl Qy k1 (.inl rfl) Dd) (Qa (Qd k2 _) (Qa (Qa5 k3 rfl _) Xb)),fun _ hx=>(by cases hx),app1 Dw,Qf8,fun _ hx=>(by cases hx),Qj,X _,cuM,fun _ hx=>(by cases hx),fun _ hx=>(by cases hx)⟩
      exact D.round rfl rfl I (fin:=.ret 2 2) (fun _ _ _=>by kernel_rfl) hQ
     |false=>
      rw[k3,if_neg Dd] at h;cases h;have D:Zl (X0 b q q0 q1 q2 q3 true wQs 97) b E (mkN E.len false w1.heap.size [l,m,X4 wQs m] [t] [acc,acc++[tr0],acc++[t]] []) false w1 w [Qq 97 [] 0 1 (tk 256) 0 (tk 321),Qc Zn 1 (tk 321),Am wQs 1 2 (tk 321)] ⟨[],[(0,Yd,1)],[(1,Ue 0,2)],[]⟩ []:=
       ⟨rfl,rfl,rfl,rfl,Qa (Qs hs (.inr rfl) rfl Qy k1 (.inl rfl) Dd) (Qa (Qd k2 _) (Qa (Qbj rfl Dd rfl k3 _) Xb)),fun _ hx=>(by cases hx),app1 Dw,Qf8,fun _ hx=>(by cases hx),Qj,X _,cuM,fun _ hx=>(by cases hx),fun _ hx=>(by cases hx)⟩
      exact D.round rfl rfl I (fin:=.pan (tk 144)) (fun _ _ _=>by kernel_rfl) hQ
theorem Qbn {b q q0 q1 q2 q3:Nat}{E:Env}{w1:World}(far:Qjd b q q0 q1 q2 q3 w1){x:List Tok→R Tr}(hs:Reads b E false 22 #[rp b] x){Q:Exit→Act→World→Prop}{r:Except Nat (List Tr×List Tok)}
  (hQ:match r with
   | .ok (ts,l')=>∀ w' a',Cm (X0 b q q0 q1 q2 q3 false wUc 22) b E false w1 ts l' w' a'→Q .ret a' w'
   | .error p=>∀ w' a',Vo b q w1 w'→a'.defers=[]→Q (.panic [{ v:=Vy p,recovered:=false }]) a' w'):
  ∀ (f:Nat) (acc:List Tr) (l:List Tok) (w:World) (a:Act),acc.length+f≤4294967296→Xl E.len wUc x f acc l=some r→Cm (X0 b q q0 q1 q2 q3 false wUc 22) b E false w1 acc l w a→V8 Tryz.prog (Ur (Qef (Zj 98))) Q a w:=by
 intro f;induction f with
 |zero=>intro acc l w a _ h;rw[Xl] at h;cases h
 |succ f ih=>
  intro acc l w a hf h I;rw[Xl] at h;refine Ve ?_;have X:=fun N=>fixM (first:=false) (shut:=wUc) (g:=22) (N:=N) far
  cases k1:x l with
  |none=>rw[k1] at h;cases h
  |some y=>
   rw[k1] at h;cases y with
   |error pl=>
    cases h;have D:Zl (X0 b q q0 q1 q2 q3 false wUc 22) b E (mkN E.len false w1.heap.size [l] [] [acc] [(pl:Int)]) false w1 w [Xt 22 [] 0 2 (tk 321)] ⟨[],[],[],[322]⟩ []:=
     ⟨rfl,rfl,rfl,rfl,Qa (X6 hs (.inr rfl) rfl Qy k1 Dd rfl) Xb,fun _ hx=>(by cases hx),Qn,Ql,fun _ hx=>(by cases hx),fun k hk=>(by obtain rfl:=List.mem_singleton.1 hk;exact⟨pl,rfl⟩),X _,cuM,fun _ hx=>(by cases hx),fun _ hx=>(by cases hx)⟩
    exact D.round rfl rfl I (fin:=.pan (tk 322)) (fun _ _ _=>by kernel_rfl) hQ
   |ok y=>
    obtain⟨t,m⟩:=y;dsimp only [andThen] at h;cases k2:isP Zn m with
    |true=>
     rw[k2,if_pos rfl] at h;have D:Zl (X0 b q q0 q1 q2 q3 false wUc 22) b E (mkN E.len false w1.heap.size [l,m,m.tail] [t] [acc,acc++[tr0],acc++[t]] []) false w1 w [Qq 22 [] 0 1 (tk 256) 0 (tk 321),Qx Zn 1 2 (tk 321)] ⟨[],[(0,Yd,1)],[(1,Ue 0,2)],[]⟩ []:=
      ⟨rfl,rfl,rfl,rfl,Qa (Qs hs (.inr rfl) rfl Qy k1 (.inl rfl) Dd) (Qa (Qz k2 rfl _) Xb),fun _ hx=>(by cases hx),app1 Dw,Qf8,fun _ hx=>(by cases hx),Qj,X _,cuM,fun _ hx=>(by cases hx),fun _ hx=>(by cases hx)⟩
     exact D.round rfl rfl I (fin:=.again 2 2) (fun _ _ _=>by kernel_rfl) fun w' a' I'=>ih (acc++[t]) m.tail w' a' (by simp;omega) h I'
    |false=>
     rw[k2,if_neg Dd,G8] at h;unfold Vl at h;cases k3:isP wUc (X4 wUc m) with
     |true=>
      rw[k3,if_pos rfl] at h;cases h;have D:Zl (X0 b q q0 q1 q2 q3 false wUc 22) b E (mkN E.len false w1.heap.size [l,m,(X4 wUc m).tail] [t] [acc,acc++[tr0],acc++[t]] []) false w1 w [Qq 22 [] 0 1 (tk 256) 0 (tk 321),Qc Zn 1 (tk 321),Ak wUc 1 2 (tk 321)] ⟨[],[(0,Yd,1)],[(1,Ue 0,2)],[]⟩ []:=
       ⟨rfl,rfl,rfl,rfl,Qa (Qs hs (.inr rfl) rfl Qy k1 (.inl rfl) Dd) (Qa (Qd k2 _) (Qa (Qa5 k3 rfl _) Xb)),fun _ hx=>(by cases hx),app1 Dw,Qf8,fun _ hx=>(by cases hx),Qj,X _,cuM,fun _ hx=>(by cases hx),fun _ hx=>(by cases hx)⟩
      exact D.round rfl rfl I (fin:=.ret 2 2) (fun _ _ _=>by kernel_rfl) hQ
     |false=>
      rw[k3,if_neg Dd] at h;cases h;have D:Zl (X0 b q q0 q1 q2 q3 false wUc 22) b E (mkN E.len false w1.heap.size [l,m,X4 wUc m] [t] [acc,acc++[tr0],acc++[t]] []) false w1 w [Qq 22 [] 0 1 (tk 256) 0 (tk 321),Qc Zn 1 (tk 321),Am wUc 1 2 (tk 321)] ⟨[],[(0,Yd,1)],[(1,Ue 0,2)],[]⟩ []:=
       ⟨rfl,rfl,rfl,rfl,Qa (Qs hs (.inr rfl) rfl Qy k1 (.inl rfl) Dd) (Qa (Qd k2 _) (Qa (Qbj rfl Dd rfl k3 _) Xb)),fun _ hx=>(by cases hx),app1 Dw,Qf8,fun _ hx=>(by cases hx),Qj,X _,cuM,fun _ hx=>(by cases hx),fun _ hx=>(by cases hx)⟩
      exact D.round rfl rfl I (fin:=.pan (tk 144)) (fun _ _ _=>by kernel_rfl) hQ
structure Qqb (b q q0 q1 q2 q3:Nat)(first:Bool)(shut:List UInt8)(g:FuncId)(w:World):Prop where
 row:w.heap[q]? = some (.cells #[.slice none 0 0] 24 (0,0))
 b0:w.heap[q0]? = some (.cells #[.bool first] 4 (0,0))
 b1:w.heap[q1]? = some (.cells #[rp b] 51 (0,0))
 b2:w.heap[q2]? = some (.cells #[str shut] 9 (0,0))
 b3:w.heap[q3]? = some (.cells #[.func (.func g) #[rp b] #[]] 50 (0,0))
theorem Qqb.keep {b q q0 q1 q2 q3:Nat}{first:Bool}{shut:List UInt8}{g:FuncId}{w w':World}(h:Qqb b q q0 q1 q2 q3 first shut g w)(hk:Qr b w w')(far:Qjd b q q0 q1 q2 q3 w):Qqb b q q0 q1 q2 q3 first shut g w':=by
 have key:∀ k o,k≠b→w.heap[k]? = some o→w'.heap[k]? = some o:=fun k o hk0 h=>(hk.block k (Array.getElem?_eq_some_iff.1 h).1 hk0).trans h
 have:=far.bq;exact⟨key _ _ Dw h.row,key _ _ far.d0.1 h.b0,key _ _ far.d1.1 h.b1,key _ _ far.d2.1 h.b2,key _ _ far.d3.1 h.b3⟩
theorem Qqb.inv {b q q0 q1 q2 q3:Nat}{first:Bool}{shut:List UInt8}{g:FuncId}{w:World}(h:Qqb b q q0 q1 q2 q3 first shut g w){E:Env}{l:List Tok}(hrd:RdB b E w l false):
  Cm (X0 b q q0 q1 q2 q3 first shut g) b E false w [] l w ⟨#[.pointer (some ⟨q0,0,none⟩),.pointer (some ⟨q1,0,none⟩),.pointer (some ⟨q2,0,none⟩),.pointer (some ⟨q,0,none⟩),.pointer (some ⟨q3,0,none⟩)]++Array.replicate 19 undef,[]⟩ where
 rd:=hrd
 row:=⟨.slice none 0 0,noF,(0,0),h.row,fun j _=>by simp,fun _=>rfl,⟨none,0,rfl,by simp,by decide,fun k hk=>absurd rfl hk,.inl ⟨rfl,rfl,rfl⟩⟩,fun k o hk=>(by cases hk),rfl,rfl,fun _ _=>rfl⟩
 box:=fun x hx=>memM (P:=fun x=>∃ fr,w.heap[x.blk]? = some (.cells #[x.real] x.ty fr)∧unfr fr 1) hx ⟨(0,0),h.b0,fun j _=>by simp⟩ ⟨(0,0),h.b1,fun j _=>by simp⟩ ⟨(0,0),h.b2,fun j _=>by simp⟩ ⟨(0,0),h.b3,fun j _=>by simp⟩
 keep:=⟨rfl,rfl,rfl,Nat.le_refl _,fun _ _ _ _=>rfl⟩
 rowS:=Zd _ _ _ _ rfl
 boxS:=fun x hx=>by
  have h0:(#[.pointer (some ⟨q0,0,none⟩),.pointer (some ⟨q1,0,none⟩),.pointer (some ⟨q2,0,none⟩),.pointer (some ⟨q,0,none⟩),.pointer (some ⟨q3,0,none⟩)]++Array.replicate 19 undef:Array Value).getD 0 undef=.pointer (some ⟨q0,0,none⟩):=Zd _ _ _ _ rfl;have h1:(#[.pointer (some ⟨q0,0,none⟩),.pointer (some ⟨q1,0,none⟩),.pointer (some ⟨q2,0,none⟩),.pointer (some ⟨q,0,none⟩),.pointer (some ⟨q3,0,none⟩)]++Array.replicate 19 undef:Array Value).getD 1 undef=.pointer (some ⟨q1,0,none⟩):=Zd _ _ _ _ rfl;have h2:(#[.pointer (some ⟨q0,0,none⟩),.pointer (some ⟨q1,0,none⟩),.pointer (some ⟨q2,0,none⟩),.pointer (some ⟨q,0,none⟩),.pointer (some ⟨q3,0,none⟩)]++Array.replicate 19 undef:Array Value).getD 2 undef=.pointer (some ⟨q2,0,none⟩):=Zd _ _ _ _ rfl;have h4:(#[.pointer (some ⟨q0,0,none⟩),.pointer (some ⟨q1,0,none⟩),.pointer (some ⟨q2,0,none⟩),.pointer (some ⟨q,0,none⟩),.pointer (some ⟨q3,0,none⟩)]++Array.replicate 19 undef:Array Value).getD 4 undef=.pointer (some ⟨q3,0,none⟩):=Zd _ _ _ _ rfl;unfold X0 at hx;dsimp only at hx;simp only[List.mem_cons,List.not_mem_nil,or_false] at hx;rcases hx with rfl|rfl|rfl|rfl
  ·exact h0
  ·exact h1
  ·exact h2
  ·exact h4
 dirS:=fun x hx=>by cases hx
 n:=by
  show (#[_,_,_,_,_]++Array.replicate 19 undef:Array Value).size=24
  simp
 ds:=rfl
abbrev Qp2 (q q0 q1 q2 q3:Nat):Array Value := #[.pointer (some ⟨q0,0,none⟩),.pointer (some ⟨q1,0,none⟩),.pointer (some ⟨q2,0,none⟩),.pointer (some ⟨q,0,none⟩),.pointer (some ⟨q3,0,none⟩)]
theorem Bc {b q q0 q1 q2 q3 f:Nat}{E:Env}{w:World}(far:Qjd b q q0 q1 q2 q3 w){x:List Tok→R Tr}(hs:Reads b E false 76 #[rp b] x){l:List Tok}{r:Except Nat (List Tr×List Tok)}(hf:f≤4294967296)(hr:U7 E.len Qw false x f l=some r)(hrd:RdB b E w l false)(hB:Qqb b q q0 q1 q2 q3 false Qw 76 w):
  Calls Tryz.prog 98 (Qp2 q q0 q1 q2 q3) w (Fp (X0 b q q0 q1 q2 q3 false Qw 76) b E false r w):=by
 refine calls_of_wp (fn:=Tryz.f98) (c:=.seq (seqL (Zj 98)) (.block 0 (.loop (Ur (Qef (Zj 98)))))) Dk Dk ?_;have X:=fun N=>fixM (first:=false) (shut:=Qw) (g:=76) (N:=N) far
 have hfin:∀ r:Except Nat (List Tr×List Tok),(match r with
   | .ok (ts,l')=>∀ w' a',Cm (X0 b q q0 q1 q2 q3 false Qw 76) b E false w ts l' w' a'→(Exit.inBlock 0 (bodyPost Tryz.prog Tryz.f98 (Fp (X0 b q q0 q1 q2 q3 false Qw 76) b E false r w))) .ret a' w'
   | .error p=>∀ w' a',Vo b q w w'→a'.defers=[]→(Exit.inBlock 0 (bodyPost Tryz.prog Tryz.f98 (Fp (X0 b q q0 q1 q2 q3 false Qw 76) b E false r w))) (.panic [{ v:=Vy p,recovered:=false }]) a' w'):=fun r=>by
  cases r with
  |error p=>
   intro w' a' hk hd;obtain⟨tm,ds⟩:=a';obtain rfl:ds=[]:=hd;exact⟨rfl,rfl,hk⟩
  |ok y=>
   obtain⟨ts,l'⟩:=y;intro w' a' I';obtain⟨tm,ds⟩:=a';obtain rfl:ds=[]:=I'.ds;exact Ko (show Tryz.f98.results = #[] from rfl) ⟨rfl,_,I'⟩
 have hfin:=hfin r;refine wp_seq ?_;unfold U7 at hr;cases k1:isP Qw l with
 |true=>
  rw[k1] at hr;cases hr;have D:Zl (X0 b q q0 q1 q2 q3 false Qw 76) b E (mkN E.len false w.heap.size [l,l.tail] [] [[]] []) false w w [Qx Qw 0 1 (tk 321)] ⟨[],[],[],[]⟩ []:=
   ⟨rfl,rfl,rfl,rfl,Qa (Qz k1 rfl _) Xb,fun _ hx=>(by cases hx),Qn,Ql,fun _ hx=>(by cases hx),Qj,X _,cuM,fun _ hx=>(by cases hx),fun _ hx=>(by cases hx)⟩
  refine D.round rfl rfl (hB.inv hrd) (fin:=.ret 1 0) (fun _ _ _=>by kernel_rfl) ?_;exact hfin
 |false=>
  rw[k1] at hr;have hr:Xl E.len Qw x f [] l=some r:=hr;have D:Zl (X0 b q q0 q1 q2 q3 false Qw 76) b E (mkN E.len false w.heap.size [l] [] [[]] []) false w w [Qc Qw 0 (tk 321)] ⟨[],[],[],[]⟩ []:=
   ⟨rfl,rfl,rfl,rfl,Qa (Qd k1 _) Xb,fun _ hx=>(by cases hx),Qn,Ql,fun _ hx=>(by cases hx),Qj,X _,cuM,fun _ hx=>(by cases hx),fun _ hx=>(by cases hx)⟩
  exact D.round rfl rfl (hB.inv hrd) (fin:=.again 0 0) (fun _ _ _=>by kernel_rfl) (fun w' a' I'=>wp_block (Zm (show V8 _ _ _ _ _ from Qaa far hs (r:=r) hfin f [] l w' a' (by simpa using hf) hr I')))
theorem Qbo {b q q0 q1 q2 q3 f:Nat}{E:Env}{w:World}(far:Qjd b q q0 q1 q2 q3 w){x:List Tok→R Tr}(hs:Reads b E false 48 #[rp b] x){l:List Tok}{r:Except Nat (List Tr×List Tok)}(hf:f≤4294967296)(hr:U7 E.len Qw false x f l=some r)(hrd:RdB b E w l false)(hB:Qqb b q q0 q1 q2 q3 false Qw 48 w):
  Calls Tryz.prog 98 (Qp2 q q0 q1 q2 q3) w (Fp (X0 b q q0 q1 q2 q3 false Qw 48) b E false r w):=by
 refine calls_of_wp (fn:=Tryz.f98) (c:=.seq (seqL (Zj 98)) (.block 0 (.loop (Ur (Qef (Zj 98)))))) Dk Dk ?_;have X:=fun N=>fixM (first:=false) (shut:=Qw) (g:=48) (N:=N) far
 have hfin:∀ r:Except Nat (List Tr×List Tok),(match r with
   | .ok (ts,l')=>∀ w' a',Cm (X0 b q q0 q1 q2 q3 false Qw 48) b E false w ts l' w' a'→(Exit.inBlock 0 (bodyPost Tryz.prog Tryz.f98 (Fp (X0 b q q0 q1 q2 q3 false Qw 48) b E false r w))) .ret a' w'
   | .error p=>∀ w' a',Vo b q w w'→a'.defers=[]→(Exit.inBlock 0 (bodyPost Tryz.prog Tryz.f98 (Fp (X0 b q q0 q1 q2 q3 false Qw 48) b E false r w))) (.panic [{ v:=Vy p,recovered:=false }]) a' w'):=fun r=>by
  cases r with
  |error p=>
   intro w' a' hk hd;obtain⟨tm,ds⟩:=a';obtain rfl:ds=[]:=hd;exact⟨rfl,rfl,hk⟩
  |ok y=>
   obtain⟨ts,l'⟩:=y;intro w' a' I';obtain⟨tm,ds⟩:=a';obtain rfl:ds=[]:=I'.ds;exact Ko (show Tryz.f98.results = #[] from rfl) ⟨rfl,_,I'⟩
 have hfin:=hfin r;refine wp_seq ?_;unfold U7 at hr;cases k1:isP Qw l with
 |true=>
  rw[k1] at hr;cases hr;have D:Zl (X0 b q q0 q1 q2 q3 false Qw 48) b E (mkN E.len false w.heap.size [l,l.tail] [] [[]] []) false w w [Qx Qw 0 1 (tk 321)] ⟨[],[],[],[]⟩ []:=
   ⟨rfl,rfl,rfl,rfl,Qa (Qz k1 rfl _) Xb,fun _ hx=>(by cases hx),Qn,Ql,fun _ hx=>(by cases hx),Qj,X _,cuM,fun _ hx=>(by cases hx),fun _ hx=>(by cases hx)⟩
  refine D.round rfl rfl (hB.inv hrd) (fin:=.ret 1 0) (fun _ _ _=>by kernel_rfl) ?_;exact hfin
 |false=>
  rw[k1] at hr;have hr:Xl E.len Qw x f [] l=some r:=hr;have D:Zl (X0 b q q0 q1 q2 q3 false Qw 48) b E (mkN E.len false w.heap.size [l] [] [[]] []) false w w [Qc Qw 0 (tk 321)] ⟨[],[],[],[]⟩ []:=
   ⟨rfl,rfl,rfl,rfl,Qa (Qd k1 _) Xb,fun _ hx=>(by cases hx),Qn,Ql,fun _ hx=>(by cases hx),Qj,X _,cuM,fun _ hx=>(by cases hx),fun _ hx=>(by cases hx)⟩
  exact D.round rfl rfl (hB.inv hrd) (fin:=.again 0 0) (fun _ _ _=>by kernel_rfl) (fun w' a' I'=>wp_block (Zm (show V8 _ _ _ _ _ from Qcw far hs (r:=r) hfin f [] l w' a' (by simpa using hf) hr I')))
theorem Qbq {b q q0 q1 q2 q3 f:Nat}{E:Env}{w:World}(far:Qjd b q q0 q1 q2 q3 w){x:List Tok→R Tr}(hs:Reads b E false 22 #[rp b] x){l:List Tok}{r:Except Nat (List Tr×List Tok)}(hf:f≤4294967296)(hr:U7 E.len Qw false x f l=some r)(hrd:RdB b E w l false)(hB:Qqb b q q0 q1 q2 q3 false Qw 22 w):
  Calls Tryz.prog 98 (Qp2 q q0 q1 q2 q3) w (Fp (X0 b q q0 q1 q2 q3 false Qw 22) b E false r w):=by
 refine calls_of_wp (fn:=Tryz.f98) (c:=.seq (seqL (Zj 98)) (.block 0 (.loop (Ur (Qef (Zj 98)))))) Dk Dk ?_;have X:=fun N=>fixM (first:=false) (shut:=Qw) (g:=22) (N:=N) far
 have hfin:∀ r:Except Nat (List Tr×List Tok),(match r with
   | .ok (ts,l')=>∀ w' a',Cm (X0 b q q0 q1 q2 q3 false Qw 22) b E false w ts l' w' a'→(Exit.inBlock 0 (bodyPost Tryz.prog Tryz.f98 (Fp (X0 b q q0 q1 q2 q3 false Qw 22) b E false r w))) .ret a' w'
   | .error p=>∀ w' a',Vo b q w w'→a'.defers=[]→(Exit.inBlock 0 (bodyPost Tryz.prog Tryz.f98 (Fp (X0 b q q0 q1 q2 q3 false Qw 22) b E false r w))) (.panic [{ v:=Vy p,recovered:=false }]) a' w'):=fun r=>by
  cases r with
  |error p=>
   intro w' a' hk hd;obtain⟨tm,ds⟩:=a';obtain rfl:ds=[]:=hd;exact⟨rfl,rfl,hk⟩
  |ok y=>
   obtain⟨ts,l'⟩:=y;intro w' a' I';obtain⟨tm,ds⟩:=a';obtain rfl:ds=[]:=I'.ds;exact Ko (show Tryz.f98.results = #[] from rfl) ⟨rfl,_,I'⟩
 have hfin:=hfin r;refine wp_seq ?_;unfold U7 at hr;cases k1:isP Qw l with
 |true=>
  rw[k1] at hr;cases hr;have D:Zl (X0 b q q0 q1 q2 q3 false Qw 22) b E (mkN E.len false w.heap.size [l,l.tail] [] [[]] []) false w w [Qx Qw 0 1 (tk 321)] ⟨[],[],[],[]⟩ []:=
   ⟨rfl,rfl,rfl,rfl,Qa (Qz k1 rfl _) Xb,fun _ hx=>(by cases hx),Qn,Ql,fun _ hx=>(by cases hx),Qj,X _,cuM,fun _ hx=>(by cases hx),fun _ hx=>(by cases hx)⟩
  refine D.round rfl rfl (hB.inv hrd) (fin:=.ret 1 0) (fun _ _ _=>by kernel_rfl) ?_;exact hfin
 |false=>
  rw[k1] at hr;have hr:Xl E.len Qw x f [] l=some r:=hr;have D:Zl (X0 b q q0 q1 q2 q3 false Qw 22) b E (mkN E.len false w.heap.size [l] [] [[]] []) false w w [Qc Qw 0 (tk 321)] ⟨[],[],[],[]⟩ []:=
   ⟨rfl,rfl,rfl,rfl,Qa (Qd k1 _) Xb,fun _ hx=>(by cases hx),Qn,Ql,fun _ hx=>(by cases hx),Qj,X _,cuM,fun _ hx=>(by cases hx),fun _ hx=>(by cases hx)⟩
  exact D.round rfl rfl (hB.inv hrd) (fin:=.again 0 0) (fun _ _ _=>by kernel_rfl) (fun w' a' I'=>wp_block (Zm (show V8 _ _ _ _ _ from Qcy far hs (r:=r) hfin f [] l w' a' (by simpa using hf) hr I')))
theorem Qbp {b q q0 q1 q2 q3 f:Nat}{E:Env}{w:World}(far:Qjd b q q0 q1 q2 q3 w){x:List Tok→R Tr}(hs:Reads b E false 97 #[rp b] x){l:List Tok}{r:Except Nat (List Tr×List Tok)}(hf:f≤4294967296)(hr:U7 E.len wQs true x f l=some r)(hrd:RdB b E w l false)(hB:Qqb b q q0 q1 q2 q3 true wQs 97 w):
  Calls Tryz.prog 98 (Qp2 q q0 q1 q2 q3) w (Fp (X0 b q q0 q1 q2 q3 true wQs 97) b E false r w):=by
 refine calls_of_wp (fn:=Tryz.f98) (c:=.seq (seqL (Zj 98)) (.block 0 (.loop (Ur (Qef (Zj 98)))))) Dk Dk ?_;have X:=fun N=>fixM (first:=true) (shut:=wQs) (g:=97) (N:=N) far
 have hfin:∀ r:Except Nat (List Tr×List Tok),(match r with
   | .ok (ts,l')=>∀ w' a',Cm (X0 b q q0 q1 q2 q3 true wQs 97) b E false w ts l' w' a'→(Exit.inBlock 0 (bodyPost Tryz.prog Tryz.f98 (Fp (X0 b q q0 q1 q2 q3 true wQs 97) b E false r w))) .ret a' w'
   | .error p=>∀ w' a',Vo b q w w'→a'.defers=[]→(Exit.inBlock 0 (bodyPost Tryz.prog Tryz.f98 (Fp (X0 b q q0 q1 q2 q3 true wQs 97) b E false r w))) (.panic [{ v:=Vy p,recovered:=false }]) a' w'):=fun r=>by
  cases r with
  |error p=>
   intro w' a' hk hd;obtain⟨tm,ds⟩:=a';obtain rfl:ds=[]:=hd;exact⟨rfl,rfl,hk⟩
  |ok y=>
   obtain⟨ts,l'⟩:=y;intro w' a' I';obtain⟨tm,ds⟩:=a';obtain rfl:ds=[]:=I'.ds;exact Ko (show Tryz.f98.results = #[] from rfl) ⟨rfl,_,I'⟩
 have hfin:=hfin r;refine wp_seq ?_;have hr:Xl E.len wQs x f [] l=some r:=hr;have D:Zl (X0 b q q0 q1 q2 q3 true wQs 97) b E (mkN E.len false w.heap.size [l] [] [[]] []) false w w [] ⟨[],[],[],[]⟩ []:=
  ⟨rfl,rfl,rfl,rfl,Xb,fun _ hx=>(by cases hx),Qn,Ql,fun _ hx=>(by cases hx),Qj,X _,cuM,fun _ hx=>(by cases hx),fun _ hx=>(by cases hx)⟩
 exact D.round rfl rfl (hB.inv hrd) (fin:=.again 0 0) (fun _ _ _=>by kernel_rfl) (fun w' a' I'=>wp_block (Zm (show V8 _ _ _ _ _ from Qcx far hs (r:=r) hfin f [] l w' a' (by simpa using hf) hr I')))
theorem Ah {b q q0 q1 q2 q3 f:Nat}{E:Env}{w:World}(far:Qjd b q q0 q1 q2 q3 w){x:List Tok→R Tr}(hs:Reads b E false 22 #[rp b] x){l:List Tok}{r:Except Nat (List Tr×List Tok)}(hf:f≤4294967296)(hr:U7 E.len wUc false x f l=some r)(hrd:RdB b E w l false)(hB:Qqb b q q0 q1 q2 q3 false wUc 22 w):
  Calls Tryz.prog 98 (Qp2 q q0 q1 q2 q3) w (Fp (X0 b q q0 q1 q2 q3 false wUc 22) b E false r w):=by
 refine calls_of_wp (fn:=Tryz.f98) (c:=.seq (seqL (Zj 98)) (.block 0 (.loop (Ur (Qef (Zj 98)))))) Dk Dk ?_;have X:=fun N=>fixM (first:=false) (shut:=wUc) (g:=22) (N:=N) far
 have hfin:∀ r:Except Nat (List Tr×List Tok),(match r with
   | .ok (ts,l')=>∀ w' a',Cm (X0 b q q0 q1 q2 q3 false wUc 22) b E false w ts l' w' a'→(Exit.inBlock 0 (bodyPost Tryz.prog Tryz.f98 (Fp (X0 b q q0 q1 q2 q3 false wUc 22) b E false r w))) .ret a' w'
   | .error p=>∀ w' a',Vo b q w w'→a'.defers=[]→(Exit.inBlock 0 (bodyPost Tryz.prog Tryz.f98 (Fp (X0 b q q0 q1 q2 q3 false wUc 22) b E false r w))) (.panic [{ v:=Vy p,recovered:=false }]) a' w'):=fun r=>by
  cases r with
  |error p=>
   intro w' a' hk hd;obtain⟨tm,ds⟩:=a';obtain rfl:ds=[]:=hd;exact⟨rfl,rfl,hk⟩
  |ok y=>
   obtain⟨ts,l'⟩:=y;intro w' a' I';obtain⟨tm,ds⟩:=a';obtain rfl:ds=[]:=I'.ds;exact Ko (show Tryz.f98.results = #[] from rfl) ⟨rfl,_,I'⟩
 have hfin:=hfin r;refine wp_seq ?_;unfold U7 at hr;cases k1:isP wUc l with
 |true=>
  rw[k1] at hr;cases hr;have D:Zl (X0 b q q0 q1 q2 q3 false wUc 22) b E (mkN E.len false w.heap.size [l,l.tail] [] [[]] []) false w w [Qx wUc 0 1 (tk 321)] ⟨[],[],[],[]⟩ []:=
   ⟨rfl,rfl,rfl,rfl,Qa (Qz k1 rfl _) Xb,fun _ hx=>(by cases hx),Qn,Ql,fun _ hx=>(by cases hx),Qj,X _,cuM,fun _ hx=>(by cases hx),fun _ hx=>(by cases hx)⟩
  refine D.round rfl rfl (hB.inv hrd) (fin:=.ret 1 0) (fun _ _ _=>by kernel_rfl) ?_;exact hfin
 |false=>
  rw[k1] at hr;have hr:Xl E.len wUc x f [] l=some r:=hr;have D:Zl (X0 b q q0 q1 q2 q3 false wUc 22) b E (mkN E.len false w.heap.size [l] [] [[]] []) false w w [Qc wUc 0 (tk 321)] ⟨[],[],[],[]⟩ []:=
   ⟨rfl,rfl,rfl,rfl,Qa (Qd k1 _) Xb,fun _ hx=>(by cases hx),Qn,Ql,fun _ hx=>(by cases hx),Qj,X _,cuM,fun _ hx=>(by cases hx),fun _ hx=>(by cases hx)⟩
  exact D.round rfl rfl (hB.inv hrd) (fin:=.again 0 0) (fun _ _ _=>by kernel_rfl) (fun w' a' I'=>wp_block (Zm (show V8 _ _ _ _ _ from Qbn far hs (r:=r) hfin f [] l w' a' (by simpa using hf) hr I')))
end Prs
end Go.Proofs.YtcbkeecabcbogaaGreatDoor
