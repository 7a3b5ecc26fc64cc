/- The evaluator's code: frames, and how its parts are joined. No program in sight. The evaluator's code, held against the model's: operations, regions in the order of the text. No program in sight. T -/
import Derived.Test.YtcbkeecabcbogaaGreatDoorGah
import Derived.Orders
set_option linter.unusedSimpArgs false
set_option linter.unusedVariables false
namespace Go.Proofs.YtcbkeecabcbogaaGreatDoor
namespace Ev
open Go.RowKit
def DR (p:Plan)(x:FuncId×List Value)(d:Deferred):Prop:=∃ ys cap,d=⟨.fn (.func x.1) cap,ys⟩∧VRs p x.2 (ys++cap).toList
inductive DRs (p:Plan):List (FuncId×List Value)→List Deferred→Prop where
 |nil:DRs p [] []
 |cons {x:FuncId×List Value} {d:Deferred} {xs:List (FuncId×List Value)} {ds:List Deferred}:DR p x d→DRs p xs ds→DRs p (x :: xs) (d :: ds)
theorem DRs.mono {p q:Plan}(hpq:p.le q):∀ {xs:List (FuncId×List Value)} {ds:List Deferred},DRs p xs ds→DRs q xs ds
 |_,_,.nil => .nil
 |_,_,.cons ⟨ys,cap,h1,h2⟩ k => .cons ⟨ys,cap,h1,h2.mono hpq⟩ (DRs.mono hpq k)
def SR (p:Plan)(v v':Value):Prop:=v = .chan none∨VR p v v'
theorem SR.mono {p q:Plan}(hpq:p.le q){v v':Value}(h:SR p v v'):SR q v v':=h.imp id (VR.mono hpq)
theorem SR.known {p:Plan}{v v' u:Value}(h:SR p v v')(e:knownV v=some u):VR p u v':=by
 rcases h with rfl|h
 ·cases e
 ·unfold knownV at e
  split at e
  ·cases e
  ·cases e;exact h
structure LocR (p:Plan)(s:Loc)(a:Act):Prop where
 tm:∀ t:Nat,SR p (s.rd t) (a.tmps.getD t undef)
 n:a.tmps.size=s.n
 ds:DRs p s.ds a.defers
theorem LocR.mono {p q:Plan}{s:Loc}{a:Act}(hpq:p.le q)(h:LocR p s a):LocR q s a:=⟨fun t=>(h.tm t).mono hpq,h.n,h.ds.mono hpq⟩
structure LocL (ls:List Nat)(p:Plan)(s:Loc)(a:Act):Prop where
 tm:∀ t:Nat,t ∉ ls→SR p (s.rd t) (a.tmps.getD t undef)
 n:a.tmps.size=s.n
 ds:DRs p s.ds a.defers
theorem LocR.toL {ls:List Nat}{p:Plan}{s:Loc}{a:Act}(h:LocR p s a):LocL ls p s a:=⟨fun t _=>h.tm t,h.n,h.ds⟩
theorem LocL.mono {ls:List Nat}{p q:Plan}{s:Loc}{a:Act}(hpq:p.le q)(h:LocL ls p s a):LocL ls q s a:=⟨fun t ht=>(h.tm t ht).mono hpq,h.n,h.ds.mono hpq⟩
def LocX (x:XE)(p:Plan)(s:Loc)(a:Act):Prop:=match x with
 | .panic _ ls=>LocL ls p s a
 |_=>LocR p s a
theorem undef_vr {p:Plan}:VR p undef undef := .tuple .nil
theorem getD_some (a:Array Value)(t:Nat):a.getD t undef=(a[t]?).getD undef:=by
 rw[Array.getD_eq_getD_getElem?]
theorem LocR.put {p:Plan}{s:Loc}{a:Act}{v v':Value}(h:LocR p s a)(hv:VR p v v')(d:Option Nat):LocR p (s.put d v) (a.put d v'):=by
 obtain⟨tm,n,ds⟩:=s
 cases d with
 |none=>exact h
 |some i=>
  have hn:a.tmps.size=n:=h.n
  unfold Loc.put Act.put
  dsimp only
  by_cases hi:i<n
  ·rw[show Nat.ble (Nat.succ i) n=true from Nat.ble_eq_true_of_le hi]
   dsimp only
   refine⟨fun t => ?_,by simpa using hn,h.ds⟩
   rw[getD_some]
   show SR p ((((tm.set i (some v)).get t)).getD undef) _
   rw[Tree.get_set,Array.getElem?_setIfInBounds]
   by_cases e:i=t
   ·subst e
    rw[if_pos rfl,if_pos rfl,if_pos (by omega)]
    exact .inr hv
   ·rw[if_neg (Ne.symm e),if_neg e,←getD_some]
    exact h.tm t
  ·rw[show Nat.ble (Nat.succ i) n=false by cases hb:Nat.ble (Nat.succ i) n with|false=>rfl|true=>exact absurd (Nat.le_of_ble_eq_true hb) hi]
   dsimp only
   refine⟨fun t => ?_,by simpa using hn,h.ds⟩
   rw[getD_some,Array.getElem?_setIfInBounds]
   by_cases e:i=t
   ·subst e
    rw[if_pos rfl,if_neg (by omega)]
    have:=h.tm i
    rw[getD_some,Array.getElem?_eq_none (by omega)] at this
    exact this
   ·rw[if_neg e,←getD_some]
    exact h.tm t
theorem wantX_ok {p:Plan}{s:Loc}{a:Act}(h:LocR p s a){ops:Array Oper}{o:Oper}{b:Bool}(e:wantX ops s o=some b):Region.wanted o (yielded ops a.tmps)=b:=by
 unfold wantX at e
 unfold Region.wanted
 split at e
 ·rename_i hg
  cases e
  rw[hg]
 ·rename_i j want hg
  rw[hg]
  dsimp only
  unfold yielded
  cases hd:(ops[j]?).bind (·.dst) with
  |none=>rw[hd] at e;cases e;rfl
  |some d=>
   rw[hd] at e
   have:=h.tm d
   rw[getD_some] at this
   rw[Option.bind_some]
   dsimp only at e
   generalize s.rd d=x at this e
   cases hq:a.tmps[d]? with
   |none=>
    rw[hq] at this
    rcases this with rfl|this
    ·cases e
    ·cases x with
     |chan=>cases e
     |_=>cases this <;> cases e <;> rfl
   |some u=>
    rw[hq] at this
    simp only[Option.getD_some] at this
    rcases this with rfl|this
    ·cases e
    ·cases x with
     |chan=>cases e
     |bool b=>cases this;cases e;cases b <;> cases want <;> rfl
     |_=>cases this <;> cases e <;> rfl
section
variable {P:Program} {K:Cfg} {base:Nat→Prop} {w0:World}
theorem envR {p:Plan}{h:Tree AObj}{w:World}{s:Loc}{a:Act}(hr:Rel K base w0 p h w)(hs:LocR p s a):EnvR p (envOf K s) a.eval:=by
 intro x v e
 cases x with
 |tmp t=>
  exact(hs.tm t).known e
 |const u=>
  unfold envOf at e
  dsimp only at e
  split at e
  ·rename_i hp
   cases e
   exact plain_vr 9 _ hp
  ·cases e
 |global g=>
  unfold envOf at e
  dsimp only at e
  split at e
  ·rename_i hg
   cases e
   obtain⟨s',h1,h2,h3⟩:=hr.glob g hg
   have:=VR.ptr (p:=p) (b:=g) (o:=0) h1
   rw[h2,h3] at this
   exact this
  ·cases e
 |func f=>
  cases e
  exact .func f .nil .nil
def XQ (x:XE)(p:Plan)(Q:Exit→Act→World→Prop)(a:Act)(w:World):Prop:=match x with
 | .normal=>Q .normal a w
 | .exit id=>Q (.exit id) a w
 | .ret=>Q .ret a w
 | .panic v _=>∀ v',VR p v v'→Q (.panic [{ v:=v',recovered:=false }]) a w
def Out (p p':Plan)(c0 c1:Nat):Prop:=∀ b,(b<c0∨c1≤b)→p' b=p b
def Post (K:Cfg)(base:Nat→Prop)(w0:World)(p:Plan)(c0 c1:Nat)(h':Tree AObj)(x:XE)(s':Loc)(Q:Exit→Act→World→Prop):Prop:=
 ∀ p' w' a',p.le p'→Out p p' c0 c1→Rel K base w0 p' h' w'→LocX x p' s' a'→XQ x p' Q a' w'
theorem Free.later {p p':Plan}{c0 c1 c2:Nat}(hf:Free p c0 c2)(h:c0≤c1)(ho:Out p p' c0 c1):Free p' c1 c2:=fun b h1 h2=>by
 rw[ho b (.inr h1)]
 exact hf b (by omega) h2
theorem Free.first {p:Plan}{c0 c1 c2:Nat}(hf:Free p c0 c2)(h:c1≤c2):Free p c0 c1:=fun b h1 h2=>hf b h1 (by omega)
theorem Out.trans {p p' p'':Plan}{c0 c1 c2:Nat}(h1:c0≤c1)(h2:c1≤c2)(a:Out p p' c0 c1)(b:Out p' p'' c1 c2):Out p p'' c0 c2:=fun n hn=>by
 rw[b n (by omega),a n (by omega)]
theorem Post.later {p p':Plan}{c0 c1 c2:Nat}{h':Tree AObj}{x:XE}{s':Loc}{Q:Exit→Act→World→Prop}(hp:Post K base w0 p c0 c2 h' x s' Q)(h1:c0≤c1)(h2:c1≤c2)(hle:p.le p')(ho:Out p p' c0 c1):
  Post K base w0 p' c1 c2 h' x s' Q:=fun p'' w' a' k1 k2 k3 k4=>hp p'' w' a' (Plan.le_trans hle k1) (ho.trans h1 h2 k2) k3 k4
theorem Out.rfl {p:Plan}{c0 c1:Nat}:Out p p c0 c1:=fun _ _=>Eq.refl _
def LoopWp (P:Program)(c:Code)(Q:Exit→Act→World→Prop)(a:Act)(w:World):Prop:=
 ∀ (b:Frame) (k:List Item) (cs:List Frame),∃ e a' w',Q e a' w'∧Arrives P (lone (b.at a (.code c :: .inLoop c :: k)) cs w) b k cs e a' w'
def wp2 (P:Program)(c:Code)(Q:Exit→Act→World→Prop)(a:Act)(w:World):Prop:=match c with
 | .loop x=>LoopWp P x Q a w
 |c=>c.wp P Q a w
theorem wp_of_wp2 {c:Code}{Q:Exit→Act→World→Prop}{a:Act}{w:World}(h:wp2 P c Q a w):c.wp P Q a w:=by
 cases c with
 |loop x=>exact fun b k cs=>let ⟨e,a',w',q,r⟩:=h b k cs;⟨e,a',w',q,.of_steps (.one step_loop) r⟩
 |_=>exact h
theorem loop_next {c:Code}{Q:Exit→Act→World→Prop}{a:Act}{w:World}(h:c.wp P (Exit.then (fun a w=>LoopWp P c Q a w) Q) a w):LoopWp P c Q a w:=by
 intro b k cs
 obtain⟨e,a₁,w₁,hq,harr⟩:=h b (.inLoop c :: k) cs
 cases e with
 |normal=>
  obtain⟨e₂,a₂,w₂,hq₂,harr₂⟩:=hq b k cs
  exact⟨e₂,a₂,w₂,hq₂,.of_steps (Steps.trans harr (.one step_inLoop)) harr₂⟩
 |exit id=>exact⟨_,a₁,w₁,hq,.pass (x := .inLoop c) rfl (fun _ _ => .inl (by simp)) harr⟩
 |goto l=>exact⟨_,a₁,w₁,hq,.pass (x := .inLoop c) rfl (fun _ _ => .inl (by simp)) harr⟩
 |ret=>exact⟨_,a₁,w₁,hq,.pass (x := .inLoop c) rfl (fun _ _ => .inl (by simp)) harr⟩
 |panic ch=>exact⟨_,a₁,w₁,hq,.pass (x := .inLoop c) rfl (fun _ _ => .inl (by simp)) harr⟩
 |outgrown=>exact⟨_,a₁,w₁,hq,.pass (x := .inLoop c) rfl (fun _ _ => .inl (by simp)) harr⟩
theorem argsTree_get:∀ (args:List Value) (i:Nat) (t:Tree Value) (k:Nat),(argsTree args i t).get k=if i≤k∧k<i+args.length then args[k - i]? else t.get k
 | [],i,t,k=>by rw[argsTree,if_neg (by simp only[List.length_nil];omega)]
 |v :: l,i,t,k=>by
  rw[argsTree,argsTree_get l (i+1),Tree.get_set]
  simp only[List.length_cons]
  by_cases h:i+1≤k∧k<i+1+l.length
  ·rw[if_pos h,if_pos (by omega)]
   obtain⟨m,rfl⟩:∃ m,k=i+1+m:=⟨k - (i+1),by omega⟩
   rw[show i+1+m - (i+1)=m by omega,show i+1+m - i=m+1 by omega]
   rfl
  ·rw[if_neg h]
   by_cases e:k=i
   ·subst e
    rw[if_pos rfl,if_pos (by omega),Nat.sub_self]
    rfl
   ·rw[if_neg e,if_neg (by omega)]
theorem begin_ok {p:Plan}{args:List Value}{args':Array Value}{n:Nat}(hv:VRs p args args'.toList)(hn:args.length≤n):
  LocR p ⟨argsTree args 0 .leaf,n,[]⟩ { tmps:=args'++Array.replicate (n - args'.size) undef,defers:=[] }:=by
 have hl:=hv.len
 simp only[Array.length_toList] at hl
 refine⟨fun t => ?_,by simp;omega,.nil⟩
 rw[getD_some]
 show SR p (((argsTree args 0 .leaf).get t).getD undef) _
 rw[argsTree_get]
 by_cases h:t<args.length
 ·rw[if_pos ⟨by omega,by omega⟩,Nat.sub_zero]
  obtain⟨u,h1,h2⟩:=hv.get t args[t] (List.getElem?_eq_getElem h)
  rw[List.getElem?_eq_getElem h,Array.getElem?_append_left (by omega)]
  have h3:args'[t]? = some u:=by simpa using h1
  rw[h3]
  exact .inr h2
 ·rw[if_neg (by omega)]
  have h1:(Tree.leaf:Tree Value).get t=none:=rfl
  rw[h1,Array.getElem?_append_right (by omega),Array.getElem?_replicate]
  split <;> exact .inr undef_vr
theorem run_cell {t:TypeId}{v v' r:Value}{p:Plan}{h h':Tree AObj}{c c':Nat}{l:Log}{w:World}(e:xLoad P t v h c = .ok r h' c' l)(hv:SR p v v')(hr:Rel K base w0 p h w):
  h'=h∧c'=c∧∃ y,(do loadVar t (← asAddr v'):Sem Value).run P w = .ok y w∧VR p r y:=by
 rcases hv with rfl|hv
 ·cases e
 obtain⟨e1,e2,y,h1,h2⟩:=xLoad_quiet (P:=P) e hv hr
 refine⟨e1,e2,y,?_,h2⟩
 rw[←h1]
 unfold xLoad at e
 split at e
 ·cases hv
  rfl
 ·cases e
theorem resX_ok {ls:List Nat}{p:Plan}{s:Loc}{a:Act}{h:Tree AObj}{w:World}(hs:LocL ls p s a)(hr:Rel K base w0 p h w){g:ResultVar→Sem Value}(hg:∀ t,g (.tmp t)=pure (a.tmps.getD t undef))(hg2:∀ b t,g (.cell b t)=do loadVar t (← asAddr (a.tmps.getD b undef))):
  ∀ {rs:List ResultVar} (_:∀ t∈resSlots rs,t ∉ ls) {vs:List Value} {h':Tree AObj} {c c':Nat} {l:Log},resX P s rs h c = .ok vs h' c' l→h'=h∧c'=c∧∃ vs',(rs.mapM g).run P w = .ok vs' w∧VRs p vs vs'
 | [],_,_,_,_,_,_,e=>by
  obtain⟨rfl,rfl,rfl⟩:=pure_inv e
  exact⟨rfl,rfl,[],rfl,.nil⟩
 | .tmp t :: rs,hm,vs,h',c,c',l,e=>by
  obtain⟨v0,h3,c3,l3,l4,e0,ee⟩:=bind_inv e
  obtain⟨e9,rfl,rfl⟩:=liftO_inv e0
  obtain⟨us,h1,c1,l1,l2,e1,e2⟩:=bind_inv ee
  obtain⟨rfl,rfl,vs',k1,k2⟩:=resX_ok hs hr hg hg2 (fun t ht=>hm t (List.mem_cons_of_mem _ ht)) e1
  obtain⟨rfl,rfl,rfl⟩:=pure_inv e2
  refine⟨rfl,rfl,a.tmps.getD t undef :: vs',?_,.cons ((hs.tm t (hm t (List.mem_cons_self ..))).known e9) k2⟩
  rw[List.mapM_cons,hg,Sem.run_bind,Sem.run_pure,Result.andThen_ok,Sem.run_bind,k1]
  rfl
 | .cell b t :: rs,hm,vs,h',c,c',l,e=>by
  obtain⟨v,h1,c1,l1,l2,e1,e2⟩:=bind_inv e
  obtain⟨rfl,rfl,y,q1,q2⟩:=run_cell (P:=P) e1 (hs.tm b (hm b (List.mem_cons_self ..))) hr
  obtain⟨us,h1,c1,l1,l2,e3,e4⟩:=bind_inv e2
  obtain⟨rfl,rfl,vs',k1,k2⟩:=resX_ok hs hr hg hg2 (fun t ht=>hm t (List.mem_cons_of_mem _ ht)) e3
  obtain⟨rfl,rfl,rfl⟩:=pure_inv e4
  refine⟨rfl,rfl,y :: vs',?_,.cons q2 k2⟩
  rw[List.mapM_cons,hg2,Sem.run_bind,q1,Result.andThen_ok,Sem.run_bind,k1]
  rfl
theorem one_ok {p:Plan}{vs vs':List Value}(h:VRs p vs vs'):VR p (one vs) (if h:vs'.toArray.size=1 then vs'.toArray[0] else .tuple vs'.toArray):=by
 cases h with
 |nil=>exact .tuple .nil
 |cons h1 h2=>
  cases h2 with
  |nil=>exact h1
  |cons h3 h4=>
   rw[dif_neg (by simp)]
   exact .tuple (.cons h1 (.cons h3 h4))
theorem results_ok {ls:List Nat}{p:Plan}{s:Loc}{a:Act}{fn:Func}(hm:∀ t∈resSlots fn.results.toList,t ∉ ls){h h':Tree AObj}{c c':Nat}{l:Log}{w:World}(hs:LocL ls p s a)(hr:Rel K base w0 p h w){vs:List Value}(e:resX P s fn.results.toList h c = .ok vs h' c' l):h'=h∧c'=c∧∃ v,(results fn a.tmps).run P w = .ok v w∧VR p (one vs) v:=by
 obtain⟨e1,e2,vs',h1,h2⟩:=resX_ok (P:=P) hs hr (g:=fun
  | .tmp t=>pure (a.tmps.getD t undef)
  | .cell b t=>do loadVar t (← asAddr (a.tmps.getD b undef))) (fun t=>rfl) (fun b t=>rfl) hm e
 refine⟨e1,e2,_,?_,one_ok h2⟩
 unfold results
 rw[Sem.run_bind,Array.mapM_eq_mapM_toList,map_eq_pure_bind,Sem.run_bind]
 erw [h1]
 rfl
end
end Ev
end Go.Proofs.YtcbkeecabcbogaaGreatDoor
namespace Go.Proofs.YtcbkeecabcbogaaGreatDoor
namespace Ev
open Go.RowKit
def OVPost (K:Cfg)(base:Nat→Prop)(w0:World)(p:Plan)(c0 c1:Nat)(h':Tree AObj)(r:OV)(o:Oper)(a:Act)(next:Act→World→Prop)(Q:Exit→Act→World→Prop):Prop:=
 ∀ p' w',p.le p'→Out p p' c0 c1→Rel K base w0 p' h' w'→match r with
  | .val v=>∀ v',VR p' v v'→next (a.put o.dst v') w'
  | .pan v=>∀ v',VR p' v v'→Q (.panic [{ v:=v',recovered:=false }]) a w'
  | .later g args=>∀ d,DR p' (g,args) d→next ({ a with defers:=d :: a.defers }.put o.dst undef) w'
  | .recover=>False
section
variable (P:Program) (K:Cfg) (base:Nat→Prop) (w0:World)
def CRR (p:Plan)(r:CR)(e:Ending):Prop:=match r,e with
 | .ret v,.returned v'=>VR p v v'
 | .pan v,.panicked ch=>∃ v',ch=[{ v:=v',recovered:=false }]∧VR p v v'
 |_,_=>False
def CodeOK (f:Nat):Prop:=∀ (c:Code) (s:Loc) (h:Tree AObj) (c0:Nat) (x:XE) (s':Loc) (h':Tree AObj) (c1:Nat) (l:Log),M.Rng h c0 c1→evCode P K f c s h c0 = .ok (x,s') h' c1 l→
 ∀ (p:Plan) (w:World) (a:Act) (Q:Exit→Act→World→Prop),Rel K base w0 p h w→LocR p s a→Free p c0 c1→Post K base w0 p c0 c1 h' x s' Q→wp2 P c Q a w
def OpsOK (f:Nat):Prop:=∀ (ops:Array Oper) (os:List Oper) (s:Loc) (h:Tree AObj) (c0:Nat) (x:XE) (s':Loc) (h':Tree AObj) (c1:Nat) (l:Log),M.Rng h c0 c1→evOps P K f ops os s h c0 = .ok (x,s') h' c1 l→
 ∀ (i:Nat) (p:Plan) (w:World) (a:Act) (Q:Exit→Act→World→Prop),os=ops.toList.drop i→Rel K base w0 p h w→LocR p s a→Free p c0 c1→Post K base w0 p c0 c1 h' x s' Q→wpOps P ops Q (List.range' i (ops.size - i)) a w
def OpOK (f:Nat):Prop:=∀ (o:Oper) (ρ:Env) (h:Tree AObj) (c0:Nat) (r:OV) (h':Tree AObj) (c1:Nat) (l:Log),M.Rng h c0 c1→evOp P K f o ρ h c0 = .ok r h' c1 l→
 ∀ (p:Plan) (w:World) (a:Act),Rel K base w0 p h w→EnvR p ρ a.eval→Free p c0 c1→
  (r = .recover→∃ p' w',p.le p'∧Out p p' c0 c1∧Rel K base w0 p' h' w'∧(execOp a.eval o).run P w = .ok .recover w')∧
  (r ≠ .recover→∀ (next:Act→World→Prop) (Q:Exit→Act→World→Prop),OVPost K base w0 p c0 c1 h' r o a next Q→o.wp P a w next Q)
def CallOK (f:Nat):Prop:=∀ (g:FuncId) (args:List Value) (h:Tree AObj) (c0:Nat) (r:CR) (h':Tree AObj) (c1:Nat) (l:Log),M.Rng h c0 c1→evCall P K f g args h c0 = .ok r h' c1 l→
 ∀ (p:Plan) (w:World) (args':Array Value),Rel K base w0 p h w→VRs p args args'.toList→Free p c0 c1→Calls P g args' w fun e w'=>∃ p',p.le p'∧Out p p' c0 c1∧Rel K base w0 p' h' w'∧CRR p' r e
end
section
variable {P:Program} {K:Cfg} {base:Nat→Prop} {w0:World}
theorem post_now {p:Plan}{w:World}{h:Tree AObj}{c0 c1:Nat}{x:XE}{s:Loc}{a:Act}{Q:Exit→Act→World→Prop}(hp:Post K base w0 p c0 c1 h x s Q)(hr:Rel K base w0 p h w)(hs:LocX x p s a):XQ x p Q a w:=
 hp p w a (Plan.le_refl _) Out.rfl hr hs
theorem bind_loc {β γ:Type}{m:M AObj β}{f:β→M AObj γ}{h:Tree AObj}{c:Nat}{y:γ}{h2:Tree AObj}{c2:Nat}{l:Log}(e:M.bind m f h c = .ok y h2 c2 l)(hd:M.Rng h c c2)(hm:M.Local m)(hf:∀ x,M.Local (f x)):
  ∃ x h1 c1 l1 l2,m h c = .ok x h1 c1 l1∧f x h1 c1 = .ok y h2 c2 l2∧M.Rng h c c1∧M.Rng h1 c1 c2∧c≤c1∧c1≤c2:=by
 obtain⟨x,h1,c1,l1,l2,e1,e2⟩:=bind_inv e
 obtain⟨hc1,A⟩:=hm _ _ _ _ _ _ e1
 have hc2:=(hf x _ _ _ _ _ _ e2).1
 exact⟨x,h1,c1,l1,l2,e1,e2,hd.first hc2,(A (hd.first hc2)).rest hc1 hd,hc1,hc2⟩
structure OrcOK (P:Program)(K:Cfg)(base:Nat→Prop)(w0:World):Prop where
 call:∀ (g:FuncId) (args:List Value) (m:M AObj CR),K.orc g args=some m→∀ (h:Tree AObj) (c:Nat) (r:CR) (h':Tree AObj) (c':Nat) (l:Log),M.Rng h c c'→m h c = .ok r h' c' l→
  ∀ (p:Plan) (w:World) (args':Array Value),Rel K base w0 p h w→VRs p args args'.toList→Free p c c'→Calls P g args' w fun e w'=>∃ p',p.le p'∧Out p p' c c'∧Rel K base w0 p' h' w'∧CRR p' r e
 op:∀ (o:Oper) (ρ:Env) (m:M AObj Value),K.opx o ρ=some m→∀ (h:Tree AObj) (c:Nat) (v:Value) (h':Tree AObj) (c':Nat) (l:Log),M.Rng h c c'→m h c = .ok v h' c' l→
  ∀ (p:Plan) (w:World) (ρ':Operand→Value),Rel K base w0 p h w→EnvR p ρ ρ'→Free p c c'→GivesO P K base w0 p w c c' h' (execOp ρ' o) (.val v)∨(v=undef∧GivesO P K base w0 p w c c' h' (execOp ρ' o) .skip)
 loop:∀ (b:Code) (s:Loc) (m:M AObj (XE×Loc)),K.lop b s=some m→∀ (h:Tree AObj) (c:Nat) (x:XE) (s':Loc) (h':Tree AObj) (c':Nat) (l:Log),M.Rng h c c'→m h c = .ok (x,s') h' c' l→
  ∀ (p:Plan) (w:World) (a:Act) (Q:Exit→Act→World→Prop),Rel K base w0 p h w→LocR p s a→Free p c c'→Post K base w0 p c c' h' x s' Q→wp2 P (.loop b) Q a w
theorem op_ok {f:Nat}(horc:OrcOK P K base w0)(hc:CallOK P K base w0 f):OpOK P K base w0 (f+1):=by
 intro o ρ h c0 r h' c1 l hd e p w a hr hρ hf
 unfold evOp at e
 have L:=all_local P K f
 cases hox:K.opx o ρ with
 |some m=>
  rw[hox] at e
  obtain⟨v,h1,cm,l1,l2,e1,e2,hd0,-,-,-⟩:=bind_loc e hd (K.opl _ _ _ hox) (fun _=>M.local_pure _)
  obtain⟨rfl,rfl,rfl⟩:=pure_inv e2
  refine⟨fun h=>(by cases h),fun _ next Q hp => ?_⟩
  rcases horc.op _ _ _ hox _ _ _ _ _ _ hd0 e1 p w a.eval hr hρ hf with ⟨p',w',y,k1,⟨v',rfl,k2⟩,k3,k4,k5⟩|⟨rfl,p',w',y,k1,k2,k3,k4,k5⟩
  ·unfold Oper.wp
   rw[k1,Oper.upon_value]
   exact hp p' w' k4 k5 k3 _ k2
  ·unfold Oper.wp
   rw[k1,k2,Oper.upon_skip]
   exact hp p' w' k4 k5 k3 _ undef_vr
 |none=>
 rw[hox] at e
 have LC:∀ g args,M.Local (match K.orc g args with|some m=>m|none=>evCall P K f g args):=fun g args=>by
  split
  ·rename_i m hm
   exact K.loc _ _ _ hm
  ·exact L.call _ _
 obtain⟨x,h1,cm,l1,l2,e1,e2,-,hd1,hcm,hc2⟩:=bind_loc e hd (local_xOp _ _) (fun r=>by
  try dsimp only
  split
  ·exact M.local_pure _
  ·exact M.local_pure _
  ·refine M.local_bind (LC _ _) fun r => ?_
   split <;> exact M.local_pure _
  ·exact M.local_pure _
  ·exact M.local_pure _
  ·exact M.local_pure _)
 cases x with
 |val v=>
  obtain⟨rfl,rfl,rfl⟩:=pure_inv e2
  refine⟨fun h=>(by cases h),fun _ next Q hp => ?_⟩
  obtain⟨p',w',y,k1,⟨v',rfl,k2⟩,k3,k4,k5⟩:=xOp_ok (P:=P) e1 hρ hr hf
  unfold Oper.wp
  rw[k1,Oper.upon_value]
  exact hp p' w' k4 k5 k3 _ k2
 |skip=>
  obtain⟨rfl,rfl,rfl⟩:=pure_inv e2
  refine⟨fun h=>(by cases h),fun _ next Q hp => ?_⟩
  obtain⟨p',w',y,k1,k2,k3,k4,k5⟩:=xOp_ok (P:=P) e1 hρ hr hf
  unfold Oper.wp
  rw[k1,k2,Oper.upon_skip]
  exact hp p' w' k4 k5 k3 _ undef_vr
 |defer g args=>
  obtain⟨rfl,rfl,rfl⟩:=pure_inv e2
  refine⟨fun h=>(by cases h),fun _ next Q hp => ?_⟩
  obtain⟨p',w',y,k1,⟨ys,cap,rfl,k2⟩,k3,k4,k5⟩:=xOp_ok (P:=P) e1 hρ hr hf
  unfold Oper.wp
  rw[k1,Oper.upon_defer]
  exact hp p' w' k4 k5 k3 _ ⟨ys,cap,rfl,k2⟩
 |panic v=>
  obtain⟨rfl,rfl,rfl⟩:=pure_inv e2
  refine⟨fun h=>(by cases h),fun _ next Q hp => ?_⟩
  obtain⟨v',k1,k2,k3,rfl⟩:=xOp_ok (P:=P) e1 hρ hr hf
  unfold Oper.wp
  rw[k1,Oper.upon_panic]
  exact hp p w (Plan.le_refl _) Out.rfl k3 v' k2
 |recover=>
  obtain⟨rfl,rfl,rfl⟩:=pure_inv e2
  refine⟨fun _ => ?_,fun h=>absurd rfl h⟩
  obtain⟨p',w',y,k1,k2,k3,k4,k5⟩:=xOp_ok (P:=P) e1 hρ hr hf
  exact⟨p',w',k4,k5,k3,by rw[k1,k2]⟩
 |enter g args=>
  dsimp only at e2
  obtain⟨rr,h2,c2,l3,l4,e3,e4⟩:=bind_inv e2
  obtain⟨hc1,hh1⟩:c1=c2∧h'=h2:=by
   cases rr with
   |ret v=>obtain⟨-,k1,k2⟩:=pure_inv e4;exact⟨k2,k1⟩
   |pan v=>obtain⟨-,k1,k2⟩:=pure_inv e4;exact⟨k2,k1⟩
  subst hc1
  subst hh1
  have hcall:∀ (p:Plan) (w:World) (args':Array Value),Rel K base w0 p h1 w→VRs p args args'.toList→Free p cm c1→Calls P g args' w fun e w'=>∃ p',p.le p'∧Out p p' cm c1∧Rel K base w0 p' h' w'∧CRR p' rr e:=by
   cases hk:K.orc g args with
   |some m=>rw[hk] at e3;exact horc.call _ _ _ hk _ _ _ _ _ _ hd1 e3
   |none=>rw[hk] at e3;exact hc _ _ _ _ _ _ _ _ hd1 e3
  have key:∀ (next:Act→World→Prop) (Q:Exit→Act→World→Prop),
    (∀ p' w' e,p.le p'→Out p p' c0 c1→Rel K base w0 p' h' w'→CRR p' rr e→match e with
     | .returned v=>next (a.put o.dst v) w'
     | .panicked ch=>Q (.panic ch) a w'
     | .outgrown=>LetsOut Q)→o.wp P a w next Q:=by
   intro next Q hq
   obtain⟨p',w',y,k1,⟨ys,rfl,k2⟩,k3,k4,k5⟩:=xOp_ok (P:=P) e1 hρ hr (hf.first hc2)
   unfold Oper.wp
   rw[k1,Oper.upon_enter]
   refine(hcall p' w' ys k3 k2 (hf.later hcm k5)).mono ?_
   rintro e w'' ⟨p'',q1,q2,q3,q4⟩
   have:=hq p'' w'' e (Plan.le_trans k4 q1) (Out.trans hcm hc2 k5 q2) q3 q4
   cases e <;> exact this
  cases rr with
  |ret v=>
   obtain⟨rfl,-,-⟩:=pure_inv e4
   refine⟨fun h=>(by cases h),fun _ next Q hp=>key next Q fun p' w' e q1 q2 q3 q4 => ?_⟩
   cases e with
   |returned v'=>exact hp p' w' q1 q2 q3 v' q4
   |panicked=>exact q4.elim
   |outgrown=>exact q4.elim
  |pan v=>
   obtain⟨rfl,-,-⟩:=pure_inv e4
   refine⟨fun h=>(by cases h),fun _ next Q hp=>key next Q fun p' w' e q1 q2 q3 q4 => ?_⟩
   cases e with
   |returned v'=>exact q4.elim
   |panicked ch=>
    obtain⟨v',rfl,q5⟩:=q4
    exact hp p' w' q1 q2 q3 v' q5
   |outgrown=>exact q4.elim
theorem LocR.later {p:Plan}{s:Loc}{a:Act}{g:FuncId}{args:List Value}{d:Deferred}(hs:LocR p s a)(hd:DR p (g,args) d):LocR p (s.later (g,args)) { a with defers:=d :: a.defers }:=by
 obtain⟨tm,n,ds⟩:=s
 exact⟨hs.tm,hs.n,.cons hd hs.ds⟩
theorem list_split {ops:Array Oper}{o:Oper}{os:List Oper}{i:Nat}(hi:o :: os=ops.toList.drop i):ops[i]? = some o∧os=ops.toList.drop (i+1)∧ops.size - i=(ops.size - (i+1))+1:=by
 have h1:ops.toList[i]? = some o:=by
  have:=congrArg (·[0]?) hi
  simpa using this.symm
 have h2:i<ops.size:=by simpa using (List.getElem?_eq_some_iff.1 h1).1
 refine⟨by simpa using h1,?_,by omega⟩
 have:=congrArg List.tail hi
 simpa using this
theorem list_end {ops:Array Oper}{i:Nat}(hi:[]=ops.toList.drop i):ops.size - i=0:=by
 have:=congrArg List.length hi
 simp at this
 omega
theorem ops_ok {f:Nat}(ho:OpOK P K base w0 f)(hos:OpsOK P K base w0 f):OpsOK P K base w0 (f+1):=by
 intro ops os s h c0 x s' h' c1 l hd e i p w a Q hi hr hs hf hp
 unfold evOps at e
 have L:=all_local P K f
 cases os with
 |nil=>
  obtain⟨e3,rfl,rfl⟩:=pure_inv e
  cases e3
  rw[list_end hi]
  exact post_now hp hr hs
 |cons o os=>
  obtain⟨g1,g2,g3⟩:=list_split hi
  rw[g3,List.range'_succ]
  dsimp only at e
  cases hw:wantX ops s o with
  |none=>rw[hw] at e;cases e
  |some q=>
  cases q with
  |true=>
   rw[hw] at e
   try dsimp only at e
   simp only[wpOps,g1,wantX_ok hs hw,if_true]
   refine .inl ?_
   obtain⟨r,h1,cm,l1,l2,e1,e2,hd0,hd1,hcm,hc2⟩:=bind_loc e hd (L.op _ _) (fun r=>by
    try dsimp only
    split
    ·exact L.ops _ _ _
    ·exact M.local_pure _
    ·exact L.ops _ _ _
    ·exact M.local_fail)
   obtain⟨-,k2⟩:=ho _ _ _ _ _ _ _ _ hd0 e1 p w a hr (envR hr hs) (hf.first hc2)
   cases r with
   |val v=>
    refine k2 (by simp) _ _ fun p' w' q1 q2 q3 v' q4 => ?_
    exact hos _ _ _ _ _ _ _ _ _ _ hd1 e2 (i+1) p' w' _ Q g2 q3 ((hs.mono q1).put q4 _) (hf.later hcm q2) (hp.later hcm hc2 q1 q2)
   |later g args=>
    refine k2 (by simp) _ _ fun p' w' q1 q2 q3 d q4 => ?_
    exact hos _ _ _ _ _ _ _ _ _ _ hd1 e2 (i+1) p' w' _ Q g2 q3 (((hs.mono q1).later q4).put undef_vr _) (hf.later hcm q2) (hp.later hcm hc2 q1 q2)
   |pan v=>
    obtain⟨e3,rfl,rfl⟩:=pure_inv e2
    cases e3
    refine k2 (by simp) _ _ fun p' w' q1 q2 q3 v' q4 => ?_
    exact hp p' w' a q1 q2 q3 (hs.mono q1).toL v' q4
   |recover=>cases e2
  |false=>
   rw[hw] at e
   try dsimp only at e
   simp only[wpOps,g1,wantX_ok hs hw]
   exact hos _ _ _ _ _ _ _ _ _ _ hd e (i+1) p w _ Q g2 hr (hs.put undef_vr _) hf hp
end
end Ev
end Go.Proofs.YtcbkeecabcbogaaGreatDoor
namespace Go.Proofs.YtcbkeecabcbogaaGreatDoor
namespace Ev
open Go.RowKit
def lastW {β:Type}(W:Nat→Option β)(D:Nat→Bool)(x:β):Nat→β
 |0=>x
 |n+1=>if D n then (W n).getD (lastW W D x n) else lastW W D x n
theorem last_congr {β:Type}{W:Nat→Option β}{D:Nat→Bool}{x:β}:∀ m:Nat,(∀ i,i<m→W i≠none→D i=true)→lastW W D x m=lastW W (fun _=>true) x m
 |0,_=>rfl
 |m+1,h=>by
  have ih:=last_congr (x:=x) m fun i hi=>h i (by omega)
  unfold lastW
  rw[ih,if_pos rfl]
  split
  ·rfl
  ·rename_i hd
   cases hw:W m with
   |none=>rfl
   |some y=>exact absurd (h m (by omega) (by rw[hw];simp)) hd
theorem last_agree {β:Type}{W:Nat→Option β}{D:Nat→Bool}{x:β}{j:Nat}:∀ n:Nat,j≤n→(∀ i,i<n→W i≠none→(D i=true↔i<j))→lastW W D x n=lastW W (fun _=>true) x j
 |n,hj,h=>by
  by_cases e:j=n
  ·subst e
   exact last_congr j fun i hi hw=>(h i hi hw).2 hi
  ·cases n with
   |zero=>omega
   |succ n=>
    have ih:=last_agree (x:=x) n (by omega:j≤n) fun i hi=>h i (by omega)
    rw[←ih]
    conv=>lhs;unfold lastW
    split
    ·rename_i hd
     cases hw:W n with
     |none=>rfl
     |some y=>
      have:=(h n (by omega) (by rw[hw];simp)).1 hd
      omega
    ·rfl
theorem last_same {β:Type}{W:Nat→Option β}{D D':Nat→Bool}{x:β}:∀ n:Nat,(∀ i,i<n→D' i=D i)→lastW W D' x n=lastW W D x n
 |0,_=>rfl
 |n+1,h=>by
  unfold lastW
  rw[last_same n fun i hi=>h i (by omega),h n (by omega)]
theorem last_step {β:Type}{W:Nat→Option β}{D D':Nat→Bool}{x:β}{j:Nat}(hD:∀ i,i≠j→D' i=D i)(hj':D' j=true)(hj:D j=false):∀ n:Nat,j<n→(∀ i,i<n→D i=true→W i≠none→W j≠none→i<j)→
  lastW W D' x n=(W j).getD (lastW W D x n)
 |0,h,_=>by omega
 |n+1,h,hi=>by
  by_cases e:j=n
  ·subst e
   unfold lastW
   rw[hj',hj,if_pos rfl,last_same j fun i hi=>hD i (by omega)]
   rfl
  ·have ih:=last_step (x:=x) hD hj' hj n (by omega) fun i h1=>hi i (by omega)
   unfold lastW
   rw[ih,hD n (by omega)]
   split
   ·rename_i hd
    cases hw:W n with
    |none=>rfl
    |some y=>
     cases hv:W j with
     |none=>rfl
     |some z=>
      have:=hi n (by omega) hd (by rw[hw];simp) (by rw[hv];simp)
      omega
   ·rfl
theorem mask1_bit {T:Tree Nat}{i:Nat}:∀ (es:List Edge) (m:Nat),(mask1 T es m).testBit i=true→m.testBit i=true∨∃ e∈es,Region.binds .any e=true∧(e.on=i∨∃ m',T.get e.on=some m'∧m'.testBit i=true)
 | [],m,h => .inl h
 |e :: es,m,h=>by
  unfold mask1 at h
  split at h
  ·rename_i hb
   rcases mask1_bit es _ h with h|⟨e',h1,h2,h3⟩
   ·rw[Nat.testBit_or,Nat.testBit_or,Bool.or_eq_true,Bool.or_eq_true] at h
    rcases h with (h|h)|h
    ·exact .inl h
    ·exact .inr ⟨e,by simp,hb,.inl (M.bit_eq h)⟩
    ·cases hT:T.get e.on with
     |none=>rw[hT] at h;simp at h
     |some m'=>rw[hT] at h;exact .inr ⟨e,by simp,hb,.inr ⟨m',hT,h⟩⟩
   ·exact .inr ⟨e',by simp[h1],h2,h3⟩
  ·rcases mask1_bit es _ h with h|⟨e',h1,h2,h3⟩
   ·exact .inl h
   ·exact .inr ⟨e',by simp[h1],h2,h3⟩
theorem masks_bit:∀ (os:List Oper) (j:Nat) (T:Tree Nat) (pre:List Nat),pre.length=j→(∀ i,T.get i=if i<j then pre[i]? else none)→
  ∀ (k:Nat) (o:Oper) (m:Nat),os[k]? = some o→(masks os j T)[k]? = some m→∀ i,m.testBit i=true→∃ e∈o.after.toList,Region.binds .any e=true∧(e.on=i∨∃ m',(pre++masks os j T)[e.on]? = some m'∧m'.testBit i=true)
 | [],_,_,_,_,_,k,o,m,h,_,_,_=>by simp at h
 |o0 :: os,j,T,pre,hl,hT,0,o,m,h,hm,i,hi=>by
  simp at h;subst h
  rw[masks,force_eq] at hm
  simp at hm;subst hm
  rcases mask1_bit _ _ hi with h|⟨e,h1,h2,h3⟩
  ·simp at h
  ·refine⟨e,h1,h2,h3.imp id ?_⟩
   rintro⟨m',h4,h5⟩
   refine⟨m',?_,h5⟩
   rw[hT] at h4
   split at h4
   ·rw[List.getElem?_append_left (by omega)];exact h4
   ·cases h4
 |o0 :: os,j,T,pre,hl,hT,k+1,o,m,h,hm,i,hi=>by
  simp only[List.getElem?_cons_succ] at h
  have e0:masks (o0 :: os) j T=mask1 T o0.after.toList 0 :: masks os (j+1) (T.set j (some (mask1 T o0.after.toList 0))):=by rw[masks,force_eq]
  rw[e0] at hm
  simp only[List.getElem?_cons_succ] at hm
  obtain⟨e,h1,h2,h3⟩:=masks_bit os (j+1) _ (pre++[mask1 T o0.after.toList 0]) (by simp[hl]) (fun x=>by
   rw[Tree.get_set]
   by_cases hx:x=j
   ·subst hx
    rw[if_pos rfl,if_pos (by omega),List.getElem?_append_right (by omega),hl]
    simp
   ·rw[if_neg hx,hT]
    by_cases hx2:x<j
    ·rw[if_pos hx2,if_pos (by omega),List.getElem?_append_left (by omega)]
    ·rw[if_neg hx2,if_neg (by omega)]) k o m h hm i hi
  refine⟨e,h1,h2,h3.imp id ?_⟩
  rw[e0]
  simp[List.append_assoc]
theorem meets_false {ts us:List Nat}(h:meets ts us=false):∀ t,t∈ts→t ∉ us:=by
 induction ts with
 |nil=>intro t ht;simp at ht
 |cons a ts ih=>
  unfold meets at h
  rw[Bool.or_eq_false_iff] at h
  intro t ht hu
  rcases List.mem_cons.1 ht with rfl|ht
  ·have:=h.1
   rw[List.any_eq_false] at this
   exact this t hu (by simp)
  ·exact ih h.2 t ht hu
def Apart0 (ops:Array Oper)(oi oj:Oper):Prop:=(∀ t,oi.dst=some t→t ∉ slotsOf ops oj)∧∀ t,oj.dst=some t→t ∉ slotsOf ops oi
theorem apartAll_ok {ops:Array Oper}{j:Oper}{m:Nat}:∀ (l:List Oper) (i:Nat),apartAll ops j m l i=true→∀ (k:Nat) (o:Oper),l[k]? = some o→m.testBit (i+k)=true∨Apart0 ops o j
 | [],_,_,k,o,h=>by simp at h
 |o0 :: os,i,h,k,o,hk=>by
  unfold apartAll at h
  rw[Bool.and_eq_true] at h
  cases k with
  |zero=>
   simp at hk;subst hk
   have h1:=h.1
   simp only[Bool.or_eq_true,Bool.and_eq_true,Bool.not_eq_true'] at h1
   rcases h1 with h1|⟨h1,h2⟩
   ·exact .inl h1
   ·exact .inr ⟨fun t ht=>meets_false h1 t (by simp[ht]),fun t ht=>meets_false h2 t (by simp[ht])⟩
  |succ k=>
   rw[show i+(k+1)=i+1+k by omega]
   exact apartAll_ok os (i+1) h.2 k o (by simpa using hk)
theorem drawOKL_ok {ops:Array Oper}:∀ (os:List Oper) (ms:List Nat) (j:Nat),drawOKL ops os ms j=true→∀ (k:Nat) (o:Oper),os[k]? = some o→
  (∀ e∈o.after.toList,Region.binds .any e=true→e.on<j+k)∧∃ m,ms[k]? = some m∧∀ (i:Nat) (oi:Oper),i<j+k→ops[i]? = some oi→m.testBit i=true∨Apart0 ops oi o
 | [],_,_,_,k,o,h=>by simp at h
 |_ :: _,[],_,h,_,_,_=>by unfold drawOKL at h;cases h
 |o0 :: os,m :: ms,j,h,k,o,hk=>by
  unfold drawOKL at h
  simp only[Bool.and_eq_true] at h
  obtain⟨h1,h2,h3⟩:=h
  cases k with
  |zero=>
   simp at hk;subst hk
   refine⟨fun e he hb => ?_,m,by simp,fun i oi hi ho => ?_⟩
   ·unfold edgesOK at h1
    have:=List.all_eq_true.1 h1 e he
    simp only[hb,Bool.not_true,Bool.false_or] at this
    have h5:e.on+1≤j:=by simpa [Nat.blt] using this
    show e.on<j
    omega
   ·have:=apartAll_ok _ 0 h2 i oi (by rw[List.getElem?_take,if_pos (by omega)];simpa using ho)
    simpa using this
  |succ k=>
   obtain⟨g1,m',g2,g3⟩:=drawOKL_ok os ms (j+1) h3 k o (by simpa using hk)
   refine⟨fun e he hb => ?_,m',by simpa using g2,fun i oi hi ho=>g3 i oi (by omega) ho⟩
   have:=g1 e he hb
   omega
noncomputable def msOf (ops:Array Oper):List Nat:=masks ops.toList 0 .leaf
noncomputable def mk (ops:Array Oper)(k:Nat):Nat:=(msOf ops).getD k 0
theorem leaf_get {α:Type}(i:Nat):(Tree.leaf:Tree α).get i=none:=rfl
theorem mk_bit {ops:Array Oper}{k i:Nat}{o:Oper}(ho:ops[k]? = some o)(h:(mk ops k).testBit i=true):∃ e∈o.after.toList,Region.binds .any e=true∧(e.on=i∨(mk ops e.on).testBit i=true):=by
 unfold mk at h
 rw[List.getD_eq_getElem?_getD] at h
 cases hm:(msOf ops)[k]? with
 |none=>rw[hm] at h;simp at h
 |some m=>
  rw[hm] at h
  obtain⟨e,h1,h2,h3⟩:=masks_bit ops.toList 0 .leaf [] rfl (fun i=>by rw[leaf_get];simp) k o m (by simpa using ho) hm i h
  refine⟨e,h1,h2,h3.imp id ?_⟩
  rintro⟨m',h4,h5⟩
  unfold mk
  rw[List.getD_eq_getElem?_getD]
  have:(msOf ops)[e.on]? = some m':=by simpa [msOf] using h4
  rw[this]
  exact h5
theorem drawOK_ok {ops:Array Oper}(h:drawOK ops=true){k:Nat}{o:Oper}(ho:ops[k]? = some o):
  (∀ e∈o.after.toList,Region.binds .any e=true→e.on<k)∧(msOf ops)[k]? = some (mk ops k)∧∀ (i:Nat) (oi:Oper),i<k→ops[i]? = some oi→(mk ops k).testBit i=true∨Apart0 ops oi o:=by
 obtain⟨h1,m,h2,h3⟩:=drawOKL_ok _ _ 0 h k o (by simpa using ho)
 have e:mk ops k=m:=by
  unfold mk
  rw[List.getD_eq_getElem?_getD]
  show ((masks ops.toList 0 .leaf)[k]?).getD 0=m
  rw[h2];rfl
 refine⟨fun e he hb=>by have:=h1 e he hb;omega,?_,fun i oi hi hoi => ?_⟩
 ·rw[e];exact h2
 ·rw[e];exact h3 i oi (by omega) hoi
def NoClash (a b:Log):Prop:=(∀ i,a.w.testBit i=true→b.t.testBit i=true→False)∧∀ i,a.t.testBit i=true→b.w.testBit i=true→False
theorem land_zero {a b:Nat}(h:Nat.beq (Nat.land a b) 0=true):∀ i,a.testBit i=true→b.testBit i=true→False:=fun i h1 h2=>by
 have h0:a &&& b=0:=Nat.eq_of_beq_eq_true h
 have:(a &&& b).testBit i=true:=by rw[Nat.testBit_and,h1,h2];rfl
 rw[h0] at this
 simp at this
theorem clash_false {m:Nat}{l:Log}:∀ {d:List (Nat×Log)},clash m l d=false→∀ x∈d,m.testBit x.1=false→NoClash x.2 l
 | [],_,x,hx,_=>by simp at hx
 |(i,k) :: d,h,x,hx,hm=>by
  unfold clash at h
  rw[Bool.or_eq_false_iff] at h
  rcases List.mem_cons.1 hx with rfl|hx
  ·have h1:=h.1
   rw[hm] at h1
   simp only[Bool.false_eq_true,if_false,Bool.not_eq_false',Bool.and_eq_true] at h1
   exact⟨land_zero h1.1,land_zero h1.2⟩
  ·exact clash_false h.2 x hx hm
theorem noClash_no (a:Log):NoClash a .no∧NoClash .no a:=by
 refine⟨⟨fun i _ h => ?_,fun i _ h => ?_⟩,⟨fun i h _ => ?_,fun i h _ => ?_⟩⟩ <;> simp[Log.no] at h
end Ev
end Go.Proofs.YtcbkeecabcbogaaGreatDoor
