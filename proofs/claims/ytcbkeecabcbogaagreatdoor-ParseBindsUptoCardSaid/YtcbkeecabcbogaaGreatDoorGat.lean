/- Contract of what many's closure does, once for each function that reads one. (Printed by gen_many.py.) -/
import Derived.Test.YtcbkeecabcbogaaGreatDoorGas
namespace Go.Proofs.YtcbkeecabcbogaaGreatDoor
open Go.RowKit
set_option linter.unusedSimpArgs false
set_option linter.unusedVariables false
namespace Prs
open Ev
noncomputable def seqL:Code→Code
 | .seq a _=>a
 |c=>c
noncomputable def seqR:Code→Code
 | .seq _ a=>a
 |c=>c
noncomputable def specM (b q q0 q1 q2 q3:Nat)(first:Bool)(shut:List UInt8)(g:FuncId):LSpec where
 n:=24
 rowSlot:=3
 rowTy:=24
 cells:=1
 ix:=0
 q:=q
 vs:=fun _ => .bool true
 boxes:=[⟨0,.bool first,.bool first,q0,4⟩,⟨1,.pointer (some ⟨64,0,none⟩),rp b,q1,51⟩,⟨2,str shut,str shut,q2,9⟩,⟨4,.func (.func g) #[.pointer (some ⟨64,0,none⟩)] #[],.func (.func g) #[rp b] #[],q3,50⟩]
 direct:=[]
structure FarM (b q q0 q1 q2 q3:Nat)(w1:World):Prop where
 bq:b<q
 bw:b<w1.heap.size
 d0:q0≠b∧q0≠q
 d1:q1≠b∧q1≠q
 d2:q2≠b∧q2≠q
 d3:q3≠b∧q3≠q
 e:q0≠q1∧q0≠q2∧q0≠q3∧q1≠q2∧q1≠q3∧q2≠q3
theorem memM {α:Type}{x a0 a1 a2 a3:α}{P:α→Prop}(h:x ∈ [a0,a1,a2,a3])(h0:P a0)(h1:P a1)(h2:P a2)(h3:P a3):P x:=by
 simp only[List.mem_cons,List.not_mem_nil,or_false] at h
 rcases h with rfl|rfl|rfl|rfl
 ·exact h0
 ·exact h1
 ·exact h2
 ·exact h3
theorem fixM {b q q0 q1 q2 q3:Nat}{first:Bool}{shut:List UInt8}{g:FuncId}{N:SEnv}{w1:World}(h:FarM b q q0 q1 q2 q3 w1):LFix (specM b q q0 q1 q2 q3 first shut g) b N w1 where
 bq:=h.bq
 bw:=h.bw
 cells:=show 1≤5 by decide
 ixl:=show 0<1 by decide
 nb:=show 4≤8 by decide
 boxb:=fun x hx=>memM (P:=fun x=>x.blk≠b∧x.blk≠q) hx h.d0 h.d1 h.d2 h.d3
 inj:=by
  obtain⟨e1,e2,e3,e4,e5,e6⟩:=h.e
  refine .cons (fun x hx => ?_) (.cons (fun x hx => ?_) (.cons (fun x hx => ?_) (.cons (fun x hx=>by cases hx) .nil)))
  ·simp only[List.mem_cons,List.not_mem_nil,or_false] at hx
   rcases hx with rfl|rfl|rfl
   ·exact e1
   ·exact e2
   ·exact e3
  ·simp only[List.mem_cons,List.not_mem_nil,or_false] at hx
   rcases hx with rfl|rfl
   ·exact e4
   ·exact e5
  ·simp only[List.mem_cons,List.not_mem_nil,or_false] at hx
   rcases hx with rfl
   exact e6
 one:=fun i _=>rfl
 cell:=fun x hx p hax=>memM (P:=fun x=>VR p x.cell x.real) hx (.bool _) (vr_rd hax) (.string _) (.func _ (.cons (vr_rd hax) .nil) .nil)
 dir:=fun x hx=>by cases hx
theorem cuM {b q q0 q1 q2 q3:Nat}{first:Bool}{shut:List UInt8}{g:FuncId}{N:SEnv}:∀ x∈(specM b q q0 q1 q2 q3 first shut g).boxes,∀ p u,AxN b N p→VR p x.cell u→u=x.real:=fun x hx p u hax=>memM (P:=fun x=>VR p x.cell u→u=x.real) hx
 (fun h=>by cases h;rfl) (fun h=>vr_rdU hax h) (fun h=>by cases h;rfl) (fun h=>by
  cases h with
  |@func _ a b' c d h1 h2=>
  generalize hb:b'.toList=bl at h1
  generalize hd:d.toList=dl at h2
  cases h2
  cases h1 with
  |cons h3 h4=>
  cases h4
  have e1:d = #[]:=by rw[←Array.toList_inj,hd]
  have e2:=vr_rdU hax h3
  subst e2
  have e3:b' = #[rp b]:=by rw[←Array.toList_inj,hb]
  rw[e1,e3])
set_option maxRecDepth 20000 in
theorem many1_loop_tparam {b q q0 q1 q2 q3:Nat}{E:Env}{w1:World}(far:FarM b q q0 q1 q2 q3 w1){x:List Tok→R Tr}(hs:Reads b E false 77 #[rp b] x){Q:Exit→Act→World→Prop}{r:Except Nat (List Tr×List Tok)}
  (hQ:match r with
   | .ok (ts,l')=>∀ w' a',LInv (specM b q q0 q1 q2 q3 true wQs 77) b E false w1 ts l' w' a'→Q .ret a' w'
   | .error p=>∀ w' a',KeepQ b q w1 w'→a'.defers=[]→Q (.panic [{ v:=faultV p,recovered:=false }]) a' w'):
  ∀ (f:Nat) (acc:List Tr) (l:List Tok) (w:World) (a:Act),acc.length+f≤4294967296→manyLoop E.len wQs x f acc l=some r→LInv (specM b q q0 q1 q2 q3 true wQs 77) b E false w1 acc l w a→LoopWp Tryz.prog (inLoop0 (seqR (bodyCode 98))) Q a w:=by
 intro f
 induction f with
 |zero=>intro acc l w a _ h;rw[manyLoop] at h;cases h
 |succ f ih=>
  intro acc l w a hf h I
  rw[manyLoop] at h
  refine loop_next ?_
  have X:=fun N=>fixM (first:=true) (shut:=wQs) (g:=77) (N:=N) far
  cases k1:x l with
  |none=>rw[k1] at h;cases h
  |some y=>
   rw[k1] at h
   cases y with
   |error pl=>
    cases h
    have D:ToldL (specM b q q0 q1 q2 q3 true wQs 77) b E (mkN E.len false w1.heap.size [l] [] [acc] [(pl:Int)]) false w1 w [evBad 77 [] 0 2 (tk 321)] ⟨[],[],[],[322]⟩ []:=
     ⟨rfl,rfl,rfl,rfl,consC (bad_s hs (.inr rfl) rfl ys_nil k1 (by decide) rfl) nilC,fun _ hx=>(by cases hx),noApp,noPut,fun _ hx=>(by cases hx),fun k hk=>(by obtain rfl:=List.mem_singleton.1 hk;exact⟨pl,rfl⟩),X _,cuM,fun _ hx=>(by cases hx),fun _ hx=>(by cases hx)⟩
    exact D.round rfl rfl I (fin := .pan (tk 322)) (fun _ _ _=>by kernel_rfl) hQ
   |ok y=>
    obtain⟨t,m⟩:=y
    dsimp only [andThen] at h
    cases k2:isP wComma m with
    |true=>
     rw[k2,if_pos rfl] at h
     have D:ToldL (specM b q q0 q1 q2 q3 true wQs 77) b E (mkN E.len false w1.heap.size [l,m,m.tail] [t] [acc,acc++[tr0],acc++[t]] []) false w1 w [evTree 77 [] 0 1 (tk 256) 0 (tk 321),evTake wComma 1 2 (tk 321)] ⟨[],[(0,zeroSp,1)],[(1,treeSp 0,2)],[]⟩ []:=
      ⟨rfl,rfl,rfl,rfl,consC (tree_s hs (.inr rfl) rfl ys_nil k1 (.inl rfl) (by decide)) (consC (take_s k2 rfl _) nilC),fun _ hx=>(by cases hx),app1 (by omega),put1,fun _ hx=>(by cases hx),noPos,X _,cuM,fun _ hx=>(by cases hx),fun _ hx=>(by cases hx)⟩
     exact D.round rfl rfl I (fin := .again 2 2) (fun _ _ _=>by kernel_rfl) fun w' a' I'=>ih (acc++[t]) m.tail w' a' (by simp;omega) h I'
    |false=>
     rw[k2,if_neg (by decide),shutP_eq] at h
     unfold wantP at h
     cases k3:isP wQs (behindS wQs m) with
     |true=>
      rw[k3,if_pos rfl] at h
      cases h
      have D:ToldL (specM b q q0 q1 q2 q3 true wQs 77) b E (mkN E.len false w1.heap.size [l,m,(behindS wQs m).tail] [t] [acc,acc++[tr0],acc++[t]] []) false w1 w [evTree 77 [] 0 1 (tk 256) 0 (tk 321),evMiss wComma 1 (tk 321),evShut wQs 1 2 (tk 321)] ⟨[],[(0,zeroSp,1)],[(1,treeSp 0,2)],[]⟩ []:=
       ⟨rfl,rfl,rfl,rfl,consC (tree_s hs (.inr rfl) rfl ys_nil k1 (.inl rfl) (by decide)) (consC (miss_s k2 _) (consC (shut_s k3 rfl _) nilC)),fun _ hx=>(by cases hx),app1 (by omega),put1,fun _ hx=>(by cases hx),noPos,X _,cuM,fun _ hx=>(by cases hx),fun _ hx=>(by cases hx)⟩
      exact D.round rfl rfl I (fin := .ret 2 2) (fun _ _ _=>by kernel_rfl) hQ
     |false=>
      rw[k3,if_neg (by decide)] at h
      cases h
      have D:ToldL (specM b q q0 q1 q2 q3 true wQs 77) b E (mkN E.len false w1.heap.size [l,m,behindS wQs m] [t] [acc,acc++[tr0],acc++[t]] []) false w1 w [evTree 77 [] 0 1 (tk 256) 0 (tk 321),evMiss wComma 1 (tk 321),evOpen wQs 1 2 (tk 321)] ⟨[],[(0,zeroSp,1)],[(1,treeSp 0,2)],[]⟩ []:=
       ⟨rfl,rfl,rfl,rfl,consC (tree_s hs (.inr rfl) rfl ys_nil k1 (.inl rfl) (by decide)) (consC (miss_s k2 _) (consC (open_s rfl (by decide) rfl k3 _) nilC)),fun _ hx=>(by cases hx),app1 (by omega),put1,fun _ hx=>(by cases hx),noPos,X _,cuM,fun _ hx=>(by cases hx),fun _ hx=>(by cases hx)⟩
      exact D.round rfl rfl I (fin := .pan (tk 144)) (fun _ _ _=>by kernel_rfl) hQ
set_option maxRecDepth 20000 in
theorem many1_loop_param {b q q0 q1 q2 q3:Nat}{E:Env}{w1:World}(far:FarM b q q0 q1 q2 q3 w1){x:List Tok→R Tr}(hs:Reads b E false 76 #[rp b] x){Q:Exit→Act→World→Prop}{r:Except Nat (List Tr×List Tok)}
  (hQ:match r with
   | .ok (ts,l')=>∀ w' a',LInv (specM b q q0 q1 q2 q3 false wShut 76) b E false w1 ts l' w' a'→Q .ret a' w'
   | .error p=>∀ w' a',KeepQ b q w1 w'→a'.defers=[]→Q (.panic [{ v:=faultV p,recovered:=false }]) a' w'):
  ∀ (f:Nat) (acc:List Tr) (l:List Tok) (w:World) (a:Act),acc.length+f≤4294967296→manyLoop E.len wShut x f acc l=some r→LInv (specM b q q0 q1 q2 q3 false wShut 76) b E false w1 acc l w a→LoopWp Tryz.prog (inLoop0 (seqR (bodyCode 98))) Q a w:=by
 intro f
 induction f with
 |zero=>intro acc l w a _ h;rw[manyLoop] at h;cases h
 |succ f ih=>
  intro acc l w a hf h I
  rw[manyLoop] at h
  refine loop_next ?_
  have X:=fun N=>fixM (first:=false) (shut:=wShut) (g:=76) (N:=N) far
  cases k1:x l with
  |none=>rw[k1] at h;cases h
  |some y=>
   rw[k1] at h
   cases y with
   |error pl=>
    cases h
    have D:ToldL (specM b q q0 q1 q2 q3 false wShut 76) b E (mkN E.len false w1.heap.size [l] [] [acc] [(pl:Int)]) false w1 w [evBad 76 [] 0 2 (tk 321)] ⟨[],[],[],[322]⟩ []:=
     ⟨rfl,rfl,rfl,rfl,consC (bad_s hs (.inr rfl) rfl ys_nil k1 (by decide) rfl) nilC,fun _ hx=>(by cases hx),noApp,noPut,fun _ hx=>(by cases hx),fun k hk=>(by obtain rfl:=List.mem_singleton.1 hk;exact⟨pl,rfl⟩),X _,cuM,fun _ hx=>(by cases hx),fun _ hx=>(by cases hx)⟩
    exact D.round rfl rfl I (fin := .pan (tk 322)) (fun _ _ _=>by kernel_rfl) hQ
   |ok y=>
    obtain⟨t,m⟩:=y
    dsimp only [andThen] at h
    cases k2:isP wComma m with
    |true=>
     rw[k2,if_pos rfl] at h
     have D:ToldL (specM b q q0 q1 q2 q3 false wShut 76) b E (mkN E.len false w1.heap.size [l,m,m.tail] [t] [acc,acc++[tr0],acc++[t]] []) false w1 w [evTree 76 [] 0 1 (tk 256) 0 (tk 321),evTake wComma 1 2 (tk 321)] ⟨[],[(0,zeroSp,1)],[(1,treeSp 0,2)],[]⟩ []:=
      ⟨rfl,rfl,rfl,rfl,consC (tree_s hs (.inr rfl) rfl ys_nil k1 (.inl rfl) (by decide)) (consC (take_s k2 rfl _) nilC),fun _ hx=>(by cases hx),app1 (by omega),put1,fun _ hx=>(by cases hx),noPos,X _,cuM,fun _ hx=>(by cases hx),fun _ hx=>(by cases hx)⟩
     exact D.round rfl rfl I (fin := .again 2 2) (fun _ _ _=>by kernel_rfl) fun w' a' I'=>ih (acc++[t]) m.tail w' a' (by simp;omega) h I'
    |false=>
     rw[k2,if_neg (by decide),shutP_eq] at h
     unfold wantP at h
     cases k3:isP wShut (behindS wShut m) with
     |true=>
      rw[k3,if_pos rfl] at h
      cases h
      have D:ToldL (specM b q q0 q1 q2 q3 false wShut 76) b E (mkN E.len false w1.heap.size [l,m,(behindS wShut m).tail] [t] [acc,acc++[tr0],acc++[t]] []) false w1 w [evTree 76 [] 0 1 (tk 256) 0 (tk 321),evMiss wComma 1 (tk 321),evShut wShut 1 2 (tk 321)] ⟨[],[(0,zeroSp,1)],[(1,treeSp 0,2)],[]⟩ []:=
       ⟨rfl,rfl,rfl,rfl,consC (tree_s hs (.inr rfl) rfl ys_nil k1 (.inl rfl) (by decide)) (consC (miss_s k2 _) (consC (shut_s k3 rfl _) nilC)),fun _ hx=>(by cases hx),app1 (by omega),put1,fun _ hx=>(by cases hx),noPos,X _,cuM,fun _ hx=>(by cases hx),fun _ hx=>(by cases hx)⟩
      exact D.round rfl rfl I (fin := .ret 2 2) (fun _ _ _=>by kernel_rfl) hQ
     |false=>
      rw[k3,if_neg (by decide)] at h
      cases h
      have D:ToldL (specM b q q0 q1 q2 q3 false wShut 76) b E (mkN E.len false w1.heap.size [l,m,behindS wShut m] [t] [acc,acc++[tr0],acc++[t]] []) false w1 w [evTree 76 [] 0 1 (tk 256) 0 (tk 321),evMiss wComma 1 (tk 321),evOpen wShut 1 2 (tk 321)] ⟨[],[(0,zeroSp,1)],[(1,treeSp 0,2)],[]⟩ []:=
       ⟨rfl,rfl,rfl,rfl,consC (tree_s hs (.inr rfl) rfl ys_nil k1 (.inl rfl) (by decide)) (consC (miss_s k2 _) (consC (open_s rfl (by decide) rfl k3 _) nilC)),fun _ hx=>(by cases hx),app1 (by omega),put1,fun _ hx=>(by cases hx),noPos,X _,cuM,fun _ hx=>(by cases hx),fun _ hx=>(by cases hx)⟩
      exact D.round rfl rfl I (fin := .pan (tk 144)) (fun _ _ _=>by kernel_rfl) hQ
set_option maxRecDepth 20000 in
theorem many1_loop_typ {b q q0 q1 q2 q3:Nat}{E:Env}{w1:World}(far:FarM b q q0 q1 q2 q3 w1){x:List Tok→R Tr}(hs:Reads b E false 48 #[rp b] x){Q:Exit→Act→World→Prop}{r:Except Nat (List Tr×List Tok)}
  (hQ:match r with
   | .ok (ts,l')=>∀ w' a',LInv (specM b q q0 q1 q2 q3 false wShut 48) b E false w1 ts l' w' a'→Q .ret a' w'
   | .error p=>∀ w' a',KeepQ b q w1 w'→a'.defers=[]→Q (.panic [{ v:=faultV p,recovered:=false }]) a' w'):
  ∀ (f:Nat) (acc:List Tr) (l:List Tok) (w:World) (a:Act),acc.length+f≤4294967296→manyLoop E.len wShut x f acc l=some r→LInv (specM b q q0 q1 q2 q3 false wShut 48) b E false w1 acc l w a→LoopWp Tryz.prog (inLoop0 (seqR (bodyCode 98))) Q a w:=by
 intro f
 induction f with
 |zero=>intro acc l w a _ h;rw[manyLoop] at h;cases h
 |succ f ih=>
  intro acc l w a hf h I
  rw[manyLoop] at h
  refine loop_next ?_
  have X:=fun N=>fixM (first:=false) (shut:=wShut) (g:=48) (N:=N) far
  cases k1:x l with
  |none=>rw[k1] at h;cases h
  |some y=>
   rw[k1] at h
   cases y with
   |error pl=>
    cases h
    have D:ToldL (specM b q q0 q1 q2 q3 false wShut 48) b E (mkN E.len false w1.heap.size [l] [] [acc] [(pl:Int)]) false w1 w [evBad 48 [] 0 2 (tk 321)] ⟨[],[],[],[322]⟩ []:=
     ⟨rfl,rfl,rfl,rfl,consC (bad_s hs (.inr rfl) rfl ys_nil k1 (by decide) rfl) nilC,fun _ hx=>(by cases hx),noApp,noPut,fun _ hx=>(by cases hx),fun k hk=>(by obtain rfl:=List.mem_singleton.1 hk;exact⟨pl,rfl⟩),X _,cuM,fun _ hx=>(by cases hx),fun _ hx=>(by cases hx)⟩
    exact D.round rfl rfl I (fin := .pan (tk 322)) (fun _ _ _=>by kernel_rfl) hQ
   |ok y=>
    obtain⟨t,m⟩:=y
    dsimp only [andThen] at h
    cases k2:isP wComma m with
    |true=>
     rw[k2,if_pos rfl] at h
     have D:ToldL (specM b q q0 q1 q2 q3 false wShut 48) b E (mkN E.len false w1.heap.size [l,m,m.tail] [t] [acc,acc++[tr0],acc++[t]] []) false w1 w [evTree 48 [] 0 1 (tk 256) 0 (tk 321),evTake wComma 1 2 (tk 321)] ⟨[],[(0,zeroSp,1)],[(1,treeSp 0,2)],[]⟩ []:=
      ⟨rfl,rfl,rfl,rfl,consC (tree_s hs (.inr rfl) rfl ys_nil k1 (.inl rfl) (by decide)) (consC (take_s k2 rfl _) nilC),fun _ hx=>(by cases hx),app1 (by omega),put1,fun _ hx=>(by cases hx),noPos,X _,cuM,fun _ hx=>(by cases hx),fun _ hx=>(by cases hx)⟩
     exact D.round rfl rfl I (fin := .again 2 2) (fun _ _ _=>by kernel_rfl) fun w' a' I'=>ih (acc++[t]) m.tail w' a' (by simp;omega) h I'
    |false=>
     rw[k2,if_neg (by decide),shutP_eq] at h
     unfold wantP at h
     cases k3:isP wShut (behindS wShut m) with
     |true=>
      rw[k3,if_pos rfl] at h
      cases h
      have D:ToldL (specM b q q0 q1 q2 q3 false wShut 48) b E (mkN E.len false w1.heap.size [l,m,(behindS wShut m).tail] [t] [acc,acc++[tr0],acc++[t]] []) false w1 w [evTree 48 [] 0 1 (tk 256) 0 (tk 321),evMiss wComma 1 (tk 321),evShut wShut 1 2 (tk 321)] ⟨[],[(0,zeroSp,1)],[(1,treeSp 0,2)],[]⟩ []:=
       ⟨rfl,rfl,rfl,rfl,consC (tree_s hs (.inr rfl) rfl ys_nil k1 (.inl rfl) (by decide)) (consC (miss_s k2 _) (consC (shut_s k3 rfl _) nilC)),fun _ hx=>(by cases hx),app1 (by omega),put1,fun _ hx=>(by cases hx),noPos,X _,cuM,fun _ hx=>(by cases hx),fun _ hx=>(by cases hx)⟩
      exact D.round rfl rfl I (fin := .ret 2 2) (fun _ _ _=>by kernel_rfl) hQ
     |false=>
      rw[k3,if_neg (by decide)] at h
      cases h
      have D:ToldL (specM b q q0 q1 q2 q3 false wShut 48) b E (mkN E.len false w1.heap.size [l,m,behindS wShut m] [t] [acc,acc++[tr0],acc++[t]] []) false w1 w [evTree 48 [] 0 1 (tk 256) 0 (tk 321),evMiss wComma 1 (tk 321),evOpen wShut 1 2 (tk 321)] ⟨[],[(0,zeroSp,1)],[(1,treeSp 0,2)],[]⟩ []:=
       ⟨rfl,rfl,rfl,rfl,consC (tree_s hs (.inr rfl) rfl ys_nil k1 (.inl rfl) (by decide)) (consC (miss_s k2 _) (consC (open_s rfl (by decide) rfl k3 _) nilC)),fun _ hx=>(by cases hx),app1 (by omega),put1,fun _ hx=>(by cases hx),noPos,X _,cuM,fun _ hx=>(by cases hx),fun _ hx=>(by cases hx)⟩
      exact D.round rfl rfl I (fin := .pan (tk 144)) (fun _ _ _=>by kernel_rfl) hQ
set_option maxRecDepth 20000 in
theorem many1_loop_any {b q q0 q1 q2 q3:Nat}{E:Env}{w1:World}(far:FarM b q q0 q1 q2 q3 w1){x:List Tok→R Tr}(hs:Reads b E false 22 #[rp b] x){Q:Exit→Act→World→Prop}{r:Except Nat (List Tr×List Tok)}
  (hQ:match r with
   | .ok (ts,l')=>∀ w' a',LInv (specM b q q0 q1 q2 q3 false wShut 22) b E false w1 ts l' w' a'→Q .ret a' w'
   | .error p=>∀ w' a',KeepQ b q w1 w'→a'.defers=[]→Q (.panic [{ v:=faultV p,recovered:=false }]) a' w'):
  ∀ (f:Nat) (acc:List Tr) (l:List Tok) (w:World) (a:Act),acc.length+f≤4294967296→manyLoop E.len wShut x f acc l=some r→LInv (specM b q q0 q1 q2 q3 false wShut 22) b E false w1 acc l w a→LoopWp Tryz.prog (inLoop0 (seqR (bodyCode 98))) Q a w:=by
 intro f
 induction f with
 |zero=>intro acc l w a _ h;rw[manyLoop] at h;cases h
 |succ f ih=>
  intro acc l w a hf h I
  rw[manyLoop] at h
  refine loop_next ?_
  have X:=fun N=>fixM (first:=false) (shut:=wShut) (g:=22) (N:=N) far
  cases k1:x l with
  |none=>rw[k1] at h;cases h
  |some y=>
   rw[k1] at h
   cases y with
   |error pl=>
    cases h
    have D:ToldL (specM b q q0 q1 q2 q3 false wShut 22) b E (mkN E.len false w1.heap.size [l] [] [acc] [(pl:Int)]) false w1 w [evBad 22 [] 0 2 (tk 321)] ⟨[],[],[],[322]⟩ []:=
     ⟨rfl,rfl,rfl,rfl,consC (bad_s hs (.inr rfl) rfl ys_nil k1 (by decide) rfl) nilC,fun _ hx=>(by cases hx),noApp,noPut,fun _ hx=>(by cases hx),fun k hk=>(by obtain rfl:=List.mem_singleton.1 hk;exact⟨pl,rfl⟩),X _,cuM,fun _ hx=>(by cases hx),fun _ hx=>(by cases hx)⟩
    exact D.round rfl rfl I (fin := .pan (tk 322)) (fun _ _ _=>by kernel_rfl) hQ
   |ok y=>
    obtain⟨t,m⟩:=y
    dsimp only [andThen] at h
    cases k2:isP wComma m with
    |true=>
     rw[k2,if_pos rfl] at h
     have D:ToldL (specM b q q0 q1 q2 q3 false wShut 22) b E (mkN E.len false w1.heap.size [l,m,m.tail] [t] [acc,acc++[tr0],acc++[t]] []) false w1 w [evTree 22 [] 0 1 (tk 256) 0 (tk 321),evTake wComma 1 2 (tk 321)] ⟨[],[(0,zeroSp,1)],[(1,treeSp 0,2)],[]⟩ []:=
      ⟨rfl,rfl,rfl,rfl,consC (tree_s hs (.inr rfl) rfl ys_nil k1 (.inl rfl) (by decide)) (consC (take_s k2 rfl _) nilC),fun _ hx=>(by cases hx),app1 (by omega),put1,fun _ hx=>(by cases hx),noPos,X _,cuM,fun _ hx=>(by cases hx),fun _ hx=>(by cases hx)⟩
     exact D.round rfl rfl I (fin := .again 2 2) (fun _ _ _=>by kernel_rfl) fun w' a' I'=>ih (acc++[t]) m.tail w' a' (by simp;omega) h I'
    |false=>
     rw[k2,if_neg (by decide),shutP_eq] at h
     unfold wantP at h
     cases k3:isP wShut (behindS wShut m) with
     |true=>
      rw[k3,if_pos rfl] at h
      cases h
      have D:ToldL (specM b q q0 q1 q2 q3 false wShut 22) b E (mkN E.len false w1.heap.size [l,m,(behindS wShut m).tail] [t] [acc,acc++[tr0],acc++[t]] []) false w1 w [evTree 22 [] 0 1 (tk 256) 0 (tk 321),evMiss wComma 1 (tk 321),evShut wShut 1 2 (tk 321)] ⟨[],[(0,zeroSp,1)],[(1,treeSp 0,2)],[]⟩ []:=
       ⟨rfl,rfl,rfl,rfl,consC (tree_s hs (.inr rfl) rfl ys_nil k1 (.inl rfl) (by decide)) (consC (miss_s k2 _) (consC (shut_s k3 rfl _) nilC)),fun _ hx=>(by cases hx),app1 (by omega),put1,fun _ hx=>(by cases hx),noPos,X _,cuM,fun _ hx=>(by cases hx),fun _ hx=>(by cases hx)⟩
      exact D.round rfl rfl I (fin := .ret 2 2) (fun _ _ _=>by kernel_rfl) hQ
     |false=>
      rw[k3,if_neg (by decide)] at h
      cases h
      have D:ToldL (specM b q q0 q1 q2 q3 false wShut 22) b E (mkN E.len false w1.heap.size [l,m,behindS wShut m] [t] [acc,acc++[tr0],acc++[t]] []) false w1 w [evTree 22 [] 0 1 (tk 256) 0 (tk 321),evMiss wComma 1 (tk 321),evOpen wShut 1 2 (tk 321)] ⟨[],[(0,zeroSp,1)],[(1,treeSp 0,2)],[]⟩ []:=
       ⟨rfl,rfl,rfl,rfl,consC (tree_s hs (.inr rfl) rfl ys_nil k1 (.inl rfl) (by decide)) (consC (miss_s k2 _) (consC (open_s rfl (by decide) rfl k3 _) nilC)),fun _ hx=>(by cases hx),app1 (by omega),put1,fun _ hx=>(by cases hx),noPos,X _,cuM,fun _ hx=>(by cases hx),fun _ hx=>(by cases hx)⟩
      exact D.round rfl rfl I (fin := .pan (tk 144)) (fun _ _ _=>by kernel_rfl) hQ
set_option maxRecDepth 20000 in
theorem many1_loop_arg {b q q0 q1 q2 q3:Nat}{E:Env}{w1:World}(far:FarM b q q0 q1 q2 q3 w1){x:List Tok→R Tr}(hs:Reads b E false 97 #[rp b] x){Q:Exit→Act→World→Prop}{r:Except Nat (List Tr×List Tok)}
  (hQ:match r with
   | .ok (ts,l')=>∀ w' a',LInv (specM b q q0 q1 q2 q3 true wQs 97) b E false w1 ts l' w' a'→Q .ret a' w'
   | .error p=>∀ w' a',KeepQ b q w1 w'→a'.defers=[]→Q (.panic [{ v:=faultV p,recovered:=false }]) a' w'):
  ∀ (f:Nat) (acc:List Tr) (l:List Tok) (w:World) (a:Act),acc.length+f≤4294967296→manyLoop E.len wQs x f acc l=some r→LInv (specM b q q0 q1 q2 q3 true wQs 97) b E false w1 acc l w a→LoopWp Tryz.prog (inLoop0 (seqR (bodyCode 98))) Q a w:=by
 intro f
 induction f with
 |zero=>intro acc l w a _ h;rw[manyLoop] at h;cases h
 |succ f ih=>
  intro acc l w a hf h I
  rw[manyLoop] at h
  refine loop_next ?_
  have X:=fun N=>fixM (first:=true) (shut:=wQs) (g:=97) (N:=N) far
  cases k1:x l with
  |none=>rw[k1] at h;cases h
  |some y=>
   rw[k1] at h
   cases y with
   |error pl=>
    cases h
    have D:ToldL (specM b q q0 q1 q2 q3 true wQs 97) b E (mkN E.len false w1.heap.size [l] [] [acc] [(pl:Int)]) false w1 w [evBad 97 [] 0 2 (tk 321)] ⟨[],[],[],[322]⟩ []:=
     ⟨rfl,rfl,rfl,rfl,consC (bad_s hs (.inr rfl) rfl ys_nil k1 (by decide) rfl) nilC,fun _ hx=>(by cases hx),noApp,noPut,fun _ hx=>(by cases hx),fun k hk=>(by obtain rfl:=List.mem_singleton.1 hk;exact⟨pl,rfl⟩),X _,cuM,fun _ hx=>(by cases hx),fun _ hx=>(by cases hx)⟩
    exact D.round rfl rfl I (fin := .pan (tk 322)) (fun _ _ _=>by kernel_rfl) hQ
   |ok y=>
    obtain⟨t,m⟩:=y
    dsimp only [andThen] at h
    cases k2:isP wComma m with
    |true=>
     rw[k2,if_pos rfl] at h
     have D:ToldL (specM b q q0 q1 q2 q3 true wQs 97) b E (mkN E.len false w1.heap.size [l,m,m.tail] [t] [acc,acc++[tr0],acc++[t]] []) false w1 w [evTree 97 [] 0 1 (tk 256) 0 (tk 321),evTake wComma 1 2 (tk 321)] ⟨[],[(0,zeroSp,1)],[(1,treeSp 0,2)],[]⟩ []:=
      ⟨rfl,rfl,rfl,rfl,consC (tree_s hs (.inr rfl) rfl ys_nil k1 (.inl rfl) (by decide)) (consC (take_s k2 rfl _) nilC),fun _ hx=>(by cases hx),app1 (by omega),put1,fun _ hx=>(by cases hx),noPos,X _,cuM,fun _ hx=>(by cases hx),fun _ hx=>(by cases hx)⟩
     exact D.round rfl rfl I (fin := .again 2 2) (fun _ _ _=>by kernel_rfl) fun w' a' I'=>ih (acc++[t]) m.tail w' a' (by simp;omega) h I'
    |false=>
     rw[k2,if_neg (by decide),shutP_eq] at h
     unfold wantP at h
     cases k3:isP wQs (behindS wQs m) with
     |true=>
      rw[k3,if_pos rfl] at h
      cases h
      have D:ToldL (specM b q q0 q1 q2 q3 true wQs 97) b E (mkN E.len false w1.heap.size [l,m,(behindS wQs m).tail] [t] [acc,acc++[tr0],acc++[t]] []) false w1 w [evTree 97 [] 0 1 (tk 256) 0 (tk 321),evMiss wComma 1 (tk 321),evShut wQs 1 2 (tk 321)] ⟨[],[(0,zeroSp,1)],[(1,treeSp 0,2)],[]⟩ []:=
       ⟨rfl,rfl,rfl,rfl,consC (tree_s hs (.inr rfl) rfl ys_nil k1 (.inl rfl) (by decide)) (consC (miss_s k2 _) (consC (shut_s k3 rfl _) nilC)),fun _ hx=>(by cases hx),app1 (by omega),put1,fun _ hx=>(by cases hx),noPos,X _,cuM,fun _ hx=>(by cases hx),fun _ hx=>(by cases hx)⟩
      exact D.round rfl rfl I (fin := .ret 2 2) (fun _ _ _=>by kernel_rfl) hQ
     |false=>
      rw[k3,if_neg (by decide)] at h
      cases h
      have D:ToldL (specM b q q0 q1 q2 q3 true wQs 97) b E (mkN E.len false w1.heap.size [l,m,behindS wQs m] [t] [acc,acc++[tr0],acc++[t]] []) false w1 w [evTree 97 [] 0 1 (tk 256) 0 (tk 321),evMiss wComma 1 (tk 321),evOpen wQs 1 2 (tk 321)] ⟨[],[(0,zeroSp,1)],[(1,treeSp 0,2)],[]⟩ []:=
       ⟨rfl,rfl,rfl,rfl,consC (tree_s hs (.inr rfl) rfl ys_nil k1 (.inl rfl) (by decide)) (consC (miss_s k2 _) (consC (open_s rfl (by decide) rfl k3 _) nilC)),fun _ hx=>(by cases hx),app1 (by omega),put1,fun _ hx=>(by cases hx),noPos,X _,cuM,fun _ hx=>(by cases hx),fun _ hx=>(by cases hx)⟩
      exact D.round rfl rfl I (fin := .pan (tk 144)) (fun _ _ _=>by kernel_rfl) hQ
set_option maxRecDepth 20000 in
theorem many1_loop_elem {b q q0 q1 q2 q3:Nat}{E:Env}{w1:World}(far:FarM b q q0 q1 q2 q3 w1){x:List Tok→R Tr}(hs:Reads b E false 22 #[rp b] x){Q:Exit→Act→World→Prop}{r:Except Nat (List Tr×List Tok)}
  (hQ:match r with
   | .ok (ts,l')=>∀ w' a',LInv (specM b q q0 q1 q2 q3 false wUc 22) b E false w1 ts l' w' a'→Q .ret a' w'
   | .error p=>∀ w' a',KeepQ b q w1 w'→a'.defers=[]→Q (.panic [{ v:=faultV p,recovered:=false }]) a' w'):
  ∀ (f:Nat) (acc:List Tr) (l:List Tok) (w:World) (a:Act),acc.length+f≤4294967296→manyLoop E.len wUc x f acc l=some r→LInv (specM b q q0 q1 q2 q3 false wUc 22) b E false w1 acc l w a→LoopWp Tryz.prog (inLoop0 (seqR (bodyCode 98))) Q a w:=by
 intro f
 induction f with
 |zero=>intro acc l w a _ h;rw[manyLoop] at h;cases h
 |succ f ih=>
  intro acc l w a hf h I
  rw[manyLoop] at h
  refine loop_next ?_
  have X:=fun N=>fixM (first:=false) (shut:=wUc) (g:=22) (N:=N) far
  cases k1:x l with
  |none=>rw[k1] at h;cases h
  |some y=>
   rw[k1] at h
   cases y with
   |error pl=>
    cases h
    have D:ToldL (specM b q q0 q1 q2 q3 false wUc 22) b E (mkN E.len false w1.heap.size [l] [] [acc] [(pl:Int)]) false w1 w [evBad 22 [] 0 2 (tk 321)] ⟨[],[],[],[322]⟩ []:=
     ⟨rfl,rfl,rfl,rfl,consC (bad_s hs (.inr rfl) rfl ys_nil k1 (by decide) rfl) nilC,fun _ hx=>(by cases hx),noApp,noPut,fun _ hx=>(by cases hx),fun k hk=>(by obtain rfl:=List.mem_singleton.1 hk;exact⟨pl,rfl⟩),X _,cuM,fun _ hx=>(by cases hx),fun _ hx=>(by cases hx)⟩
    exact D.round rfl rfl I (fin := .pan (tk 322)) (fun _ _ _=>by kernel_rfl) hQ
   |ok y=>
    obtain⟨t,m⟩:=y
    dsimp only [andThen] at h
    cases k2:isP wComma m with
    |true=>
     rw[k2,if_pos rfl] at h
     have D:ToldL (specM b q q0 q1 q2 q3 false wUc 22) b E (mkN E.len false w1.heap.size [l,m,m.tail] [t] [acc,acc++[tr0],acc++[t]] []) false w1 w [evTree 22 [] 0 1 (tk 256) 0 (tk 321),evTake wComma 1 2 (tk 321)] ⟨[],[(0,zeroSp,1)],[(1,treeSp 0,2)],[]⟩ []:=
      ⟨rfl,rfl,rfl,rfl,consC (tree_s hs (.inr rfl) rfl ys_nil k1 (.inl rfl) (by decide)) (consC (take_s k2 rfl _) nilC),fun _ hx=>(by cases hx),app1 (by omega),put1,fun _ hx=>(by cases hx),noPos,X _,cuM,fun _ hx=>(by cases hx),fun _ hx=>(by cases hx)⟩
     exact D.round rfl rfl I (fin := .again 2 2) (fun _ _ _=>by kernel_rfl) fun w' a' I'=>ih (acc++[t]) m.tail w' a' (by simp;omega) h I'
    |false=>
     rw[k2,if_neg (by decide),shutP_eq] at h
     unfold wantP at h
     cases k3:isP wUc (behindS wUc m) with
     |true=>
      rw[k3,if_pos rfl] at h
      cases h
      have D:ToldL (specM b q q0 q1 q2 q3 false wUc 22) b E (mkN E.len false w1.heap.size [l,m,(behindS wUc m).tail] [t] [acc,acc++[tr0],acc++[t]] []) false w1 w [evTree 22 [] 0 1 (tk 256) 0 (tk 321),evMiss wComma 1 (tk 321),evShut wUc 1 2 (tk 321)] ⟨[],[(0,zeroSp,1)],[(1,treeSp 0,2)],[]⟩ []:=
       ⟨rfl,rfl,rfl,rfl,consC (tree_s hs (.inr rfl) rfl ys_nil k1 (.inl rfl) (by decide)) (consC (miss_s k2 _) (consC (shut_s k3 rfl _) nilC)),fun _ hx=>(by cases hx),app1 (by omega),put1,fun _ hx=>(by cases hx),noPos,X _,cuM,fun _ hx=>(by cases hx),fun _ hx=>(by cases hx)⟩
      exact D.round rfl rfl I (fin := .ret 2 2) (fun _ _ _=>by kernel_rfl) hQ
     |false=>
      rw[k3,if_neg (by decide)] at h
      cases h
      have D:ToldL (specM b q q0 q1 q2 q3 false wUc 22) b E (mkN E.len false w1.heap.size [l,m,behindS wUc m] [t] [acc,acc++[tr0],acc++[t]] []) false w1 w [evTree 22 [] 0 1 (tk 256) 0 (tk 321),evMiss wComma 1 (tk 321),evOpen wUc 1 2 (tk 321)] ⟨[],[(0,zeroSp,1)],[(1,treeSp 0,2)],[]⟩ []:=
       ⟨rfl,rfl,rfl,rfl,consC (tree_s hs (.inr rfl) rfl ys_nil k1 (.inl rfl) (by decide)) (consC (miss_s k2 _) (consC (open_s rfl (by decide) rfl k3 _) nilC)),fun _ hx=>(by cases hx),app1 (by omega),put1,fun _ hx=>(by cases hx),noPos,X _,cuM,fun _ hx=>(by cases hx),fun _ hx=>(by cases hx)⟩
      exact D.round rfl rfl I (fin := .pan (tk 144)) (fun _ _ _=>by kernel_rfl) hQ
end Prs
end Go.Proofs.YtcbkeecabcbogaaGreatDoor
