/- Scripts: signatures, functions, operands. (Printed by gen_op.py.) -/
import Derived.Test.YtcbkeecabcbogaaGreatDoorGba
namespace Go.Proofs.YtcbkeecabcbogaaGreatDoor
open Go.RowKit
set_option linter.unusedSimpArgs false
set_option linter.unusedVariables false
namespace Prs
open Ev
section
variable {b:Nat} {E:Env} {N:SEnv} {w0:World}
theorem tree_f {g:FuncId}{ys ys':List Value}{i j t:Nat}{k:Value}{q0:Bool}{x:List Tok→R Tr}(hx:Reads b E q0 g (rp b :: ys').toArray x)(hys:∀ p vs,AxN b N p→VRs p ys vs→vs=ys')
  (h:x (N.L i)=some (.ok (N.T t,N.L j))) (hk:k=tk (256+4 * t)∨k = .int .i64 ((N.T t).kind:Int)) (ht:t<16):CallS b E N w0 (evTree g ys i j k t (.bool q0)):=by
 intro p hax q args' w hhd hargs hrd _
 cases hhd
 rw[hys p args' hax hargs]
 refine(hx _ w _ hrd h).mono ?_
 rintro e w' ⟨hkeep,v,rfl,hv,hr⟩
 exact⟨hkeep,hr,hk,ht,v,rfl,hv⟩
theorem bad_f {g:FuncId}{ys ys':List Value}{i xx pl:Nat}{q0:Bool}{x:List Tok→R Tr}(hx:Reads b E q0 g (rp b :: ys').toArray x)(hys:∀ p vs,AxN b N p→VRs p ys vs→vs=ys')
  (h:x (N.L i)=some (.error pl)) (hxx:xx<64) (hX:N.X xx = .int .i64 (pl:Int)):CallS b E N w0 (evBad g ys i xx (.bool q0)):=by
 intro p hax q args' w hhd hargs hrd _
 cases hhd
 rw[hys p args' hax hargs]
 refine(hx _ w _ hrd h).mono ?_
 rintro e w' ⟨hkeep,rfl⟩
 exact⟨hkeep,_,rfl,.iface _ (.agg (.cons (hax.vr (by rw[otherTok N hxx,hX])) .nil))⟩
theorem list_f {g:FuncId}{ys ys':List Value}{i j m:Nat}{q0:Bool}{x:List Tok→R (List Tr)}(hx:ReadsL b E q0 g (rp b :: ys').toArray x)(hys:∀ p vs,AxN b N p→VRs p ys vs→vs=ys')
  (h:x (N.L i)=some (.ok (N.TS m,N.L j))):CallS b E N w0 (evList g ys i j m (.bool q0)):=by
 intro p hax q args' w hhd hargs hrd _
 cases hhd
 rw[hys p args' hax hargs]
 refine(hx _ w _ hrd h).mono ?_
 rintro e w' ⟨hkeep,v,rfl,hv,hr⟩
 exact⟨hkeep,hr,v,rfl,hv⟩
theorem badL_f {g:FuncId}{ys ys':List Value}{i xx pl:Nat}{q0:Bool}{x:List Tok→R (List Tr)}(hx:ReadsL b E q0 g (rp b :: ys').toArray x)(hys:∀ p vs,AxN b N p→VRs p ys vs→vs=ys')
  (h:x (N.L i)=some (.error pl)) (hxx:xx<64) (hX:N.X xx = .int .i64 (pl:Int)):CallS b E N w0 (evBad g ys i xx (.bool q0)):=by
 intro p hax q args' w hhd hargs hrd _
 cases hhd
 rw[hys p args' hax hargs]
 refine(hx _ w _ hrd h).mono ?_
 rintro e w' ⟨hkeep,rfl⟩
 exact⟨hkeep,_,rfl,.iface _ (.agg (.cons (hax.vr (by rw[otherTok N hxx,hX])) .nil))⟩
def evCons (m:Nat)(y:Option (Sp×Nat)):Call1:=⟨1000000,[],0,.bool true,.cons m y⟩
theorem cons_s {m y:Nat}{sp:Sp}(h1:N.TS m≠[])(h2:N.TS y=den N sp :: N.TS m)(h3:(N.TS m).length≤4294967296):CallS b E N w0 (evCons m (some (sp,y))):=⟨h3,fun _=>⟨h1,h2⟩⟩
theorem cons_n {m:Nat}(h1:N.TS m=[]):CallS b E N w0 (evCons m none):=h1
end
theorem sigP_len {e f:Nat}{l m:List Tok}{ts:List Tr}(h:sigP e f l=some (.ok (ts,m))):ts.length=2:=by
 cases f with
 |zero=>rw[sigP] at h;cases h
 |succ f=>
  rw[sigP] at h
  cases k1:wantP e wOpen l with
  |none=>rw[k1] at h;cases h
  |some y=>
  rw[k1] at h
  cases y with
  |error=>cases h
  |ok y=>
  dsimp only [andThen] at h
  cases k2:manyP e wShut false (paramP e f) f y.2 with
  |none=>rw[k2] at h;cases h
  |some z=>
  rw[k2] at h
  cases z with
  |error=>cases h
  |ok z=>
  dsimp only at h
  split at h
  ·cases k3:typP e f z.2 with
   |none=>rw[k3] at h;cases h
   |some u=>
   rw[k3] at h
   cases u with
   |error=>cases h
   |ok u=>cases h;rfl
  ·cases h;rfl
theorem len2_le {α:Type}{l:List α}(h:l.length=2):l.length≤4294967296:=by omega
theorem num_pos {N:SEnv}{i:Nat}(hi:i<16)(h:numOKP (N.L i)=true):∃ n:Nat,tokVal N (131+8 * i)=some (.int (if 131+8 * i<256 then .u64 else .i64) (n:Int)):=by
 refine⟨(headT (N.L i)).num.toNat,?_⟩
 rw[if_pos (by omega),show 131+8 * i=128+8 * i+3 by omega,listTok N hi (by decide)]
 have:0≤(headT (N.L i)).num:=by
  cases hl:N.L i with
  |nil=>exact Int.le_refl _
  |cons t l=>rw[hl] at h;exact of_decide_eq_true h
 unfold listV
 rw[Int.toNat_of_nonneg this]
 rfl
set_option maxRecDepth 20000 in
theorem sig_c {b f:Nat}{E:Env}{hd:Bool}(hf:f≤4294967296)(hp:Reads b E false 76 #[rp b] (paramP E.len f))(ht:Reads b E hd 48 #[rp b] (typP E.len f)):ReadsL b E hd 78 #[rp b] (sigP E.len (f+1)):=by
 intro l w r h hr
 rw[sigP] at hr
 unfold wantP at hr
 cases k1:isP wOpen l with
 |true=>
  rw[k1,if_pos rfl] at hr
  (try dsimp only [andThen,ok,bad] at hr)
  cases k2:manyP E.len wShut false (paramP E.len f) f l.tail with
  |none=>rw[k2] at hr;cases hr
  |some y3=>
   rw[k2] at hr
   cases y3 with
   |error pl4=>
    (try dsimp only [andThen,ok,bad] at hr)
    cases hr
    have D:Told b E (mkN E.len hd w.heap.size [l,l.tail] [] [] [(pl4:Int)]) hd w [evWant wOpen 0 1 (tk 321),evBad 71 [str wShut,.bool false,(.func (.func 76) #[.pointer (some ⟨64,0,none⟩)] #[])] 1 2 (tk 321)] ⟨[],[],[],[322]⟩ []:=
     ⟨h,rfl,rfl,rfl,rfl,consC (want_s rfl (by decide) k1 rfl _) (consC (badL_s (many_param hp hf) (.inr rfl) rfl ys_many k2 (by decide) rfl) nilC),(fun _ hx=>(by cases hx)),noApp,noPut,eqN,(posC ⟨pl4,rfl⟩ noPos)⟩
    exact D.pathL (.inr rfl) (args:=[]) (args':=[]) (fun _ _ => .nil) (fin := .pan (tk 322)) (by kernel_rfl)
   |ok y3=>
    obtain⟨ts5,m4⟩:=y3
    (try dsimp only [andThen,ok,bad] at hr)
    cases k6:beginsT m4 with
    |true=>
     rw[k6,if_pos rfl] at hr
     cases k7:typP E.len f m4 with
     |none=>rw[k7] at hr;cases hr
     |some y8=>
      rw[k7] at hr
      cases y8 with
      |error pl9=>
       (try dsimp only [andThen,ok,bad] at hr)
       cases hr
       have D:Told b E (mkN E.len hd w.heap.size [l,l.tail,m4] [] [ts5] [(pl9:Int)]) hd w [evWant wOpen 0 1 (tk 321),evList 71 [str wShut,.bool false,(.func (.func 76) #[.pointer (some ⟨64,0,none⟩)] #[])] 1 2 0 (tk 321),evAt 2 (tk 321),evBegins 2 true (tk 321),evBad 48 [] 2 2 (tk 321)] ⟨[],[],[],[322]⟩ []:=
        ⟨h,rfl,rfl,rfl,rfl,consC (want_s rfl (by decide) k1 rfl _) (consC (list_s (many_param hp hf) (.inr rfl) rfl ys_many k2) (consC (at_s rfl (by decide) _) (consC (begins_s k6 _) (consC (bad_s ht (.inr rfl) rfl ys_nil k7 (by decide) rfl) nilC)))),(fun _ hx=>(by cases hx)),noApp,noPut,eqN,(posC ⟨pl9,rfl⟩ noPos)⟩
       exact D.pathL (.inr rfl) (args:=[]) (args':=[]) (fun _ _ => .nil) (fin := .pan (tk 322)) (by kernel_rfl)
      |ok y8=>
       obtain⟨⟨t10k,t10x,t10n,t10p,t10c⟩,m9⟩:=y8
       (try dsimp only [andThen,ok,bad] at hr)
       cases hr
       have D:Told b E (mkN E.len hd w.heap.size [l,l.tail,m4,m9] [.mk t10k t10x t10n t10p t10c] [ts5] []) hd w [evWant wOpen 0 1 (tk 321),evList 71 [str wShut,.bool false,(.func (.func 76) #[.pointer (some ⟨64,0,none⟩)] #[])] 1 2 0 (tk 321),evAt 2 (tk 321),evBegins 2 true (tk 321),evTree 48 [] 2 3 (tk 256) 0 (tk 321)] ⟨[],[],[],[]⟩ []:=
        ⟨h,rfl,rfl,rfl,rfl,consC (want_s rfl (by decide) k1 rfl _) (consC (list_s (many_param hp hf) (.inr rfl) rfl ys_many k2) (consC (at_s rfl (by decide) _) (consC (begins_s k6 _) (consC (tree_s ht (.inr rfl) rfl ys_nil k7 (.inl rfl) (by decide)) nilC)))),(fun _ hx=>(by cases hx)),noApp,noPut,eqN,noPos⟩
       exact D.pathL (.inr rfl) (args:=[]) (args':=[]) (fun _ _ => .nil) (fin := .list [.ab (.int .i64 6) (.string ⟨#[]⟩) (.int .u64 0) (tk 128) 2,.nd (.int .i64 7) (.string ⟨#[]⟩) (.int .u64 0) (tk 144) [.ab (tk 256) (tk 257) (tk 258) (tk 259) 1]] 3) (by kernel_rfl)
    |false=>
     rw[k6,if_neg (by decide)] at hr
     cases hr
     have D:Told b E (mkN E.len hd w.heap.size [l,l.tail,m4] [] [ts5] []) hd w [evWant wOpen 0 1 (tk 321),evList 71 [str wShut,.bool false,(.func (.func 76) #[.pointer (some ⟨64,0,none⟩)] #[])] 1 2 0 (tk 321),evAt 2 (tk 321),evBegins 2 false (tk 321)] ⟨[],[],[],[]⟩ []:=
      ⟨h,rfl,rfl,rfl,rfl,consC (want_s rfl (by decide) k1 rfl _) (consC (list_s (many_param hp hf) (.inr rfl) rfl ys_many k2) (consC (at_s rfl (by decide) _) (consC (begins_s k6 _) nilC))),(fun _ hx=>(by cases hx)),noApp,noPut,eqN,noPos⟩
     exact D.pathL (.inr rfl) (args:=[]) (args':=[]) (fun _ _ => .nil) (fin := .list [.ab (.int .i64 6) (.string ⟨#[]⟩) (.int .u64 0) (tk 128) 2,.nd (.int .i64 7) (.string ⟨#[]⟩) (.int .u64 0) (tk 144) []] 2) (by kernel_rfl)
 |false=>
  rw[k1,if_neg (by decide)] at hr
  (try dsimp only [andThen,ok,bad] at hr)
  cases hr
  have D:Told b E (mkN E.len hd w.heap.size [l] [] [] []) hd w [evLack wOpen 0 (tk 321)] ⟨[],[],[],[]⟩ []:=
   ⟨h,rfl,rfl,rfl,rfl,consC (lack_s rfl (by decide) k1 _) nilC,(fun _ hx=>(by cases hx)),noApp,noPut,eqN,noPos⟩
  exact D.pathL (.inr rfl) (args:=[]) (args':=[]) (fun _ _ => .nil) (fin := .pan (tk 128)) (by kernel_rfl)
set_option maxRecDepth 20000 in
theorem operand_c {b f:Nat}{E:Env}{hd:Bool}(hf:f≤4294967296)(he:Reads b E false 37 #[rp b,.int .i64 1] (exprP E.len f 1 false))(ha:Reads b E false 22 #[rp b] (exprP E.len f 1 false))(htf:Reads b E false 48 #[rp b] (typP E.len f))(hs:ReadsL b E hd 78 #[rp b] (sigP E.len f))(hb:Reads b E hd 45 #[rp b] (blockP E.len f)):Reads b E hd 96 #[rp b] (operandP E.len (f+1) hd):=by
 intro l w r h hr
 rw[operandP] at hr
 cases k1:kindP l==2 with
 |true=>
  rw[k1,if_pos rfl] at hr
  obtain⟨t0,hcons⟩:=kind_cons (by decide) k1
  cases kn:numOKP l with
  |false=>rw[kn,if_neg (by decide)] at hr;cases hr
  |true=>
   rw[kn,if_pos rfl] at hr
   have hn:numP' l=(headT l).num.toNat:=by cases l <;> rfl
   rw[hn,placeP_head] at hr
   cases hr
   have D:Told b E (mkN E.len hd w.heap.size [l,l.tail] [] [] []) hd w [evPeek 0 (tk 129) (tk 321)] ⟨[(0,1)],[],[],[131]⟩ [(129,.int .i64 2,true)]:=
    ⟨h,rfl,rfl,rfl,rfl,consC (peek_s (by decide) (.inl rfl) _) nilC,(nxtS ⟨t0,hcons⟩),noApp,noPut,(eqC (kind_tok (i:=0) (by decide) k1) eqN),(posC (num_pos (i:=0) (by decide) kn) noPos)⟩
   exact D.path (.inr rfl) (args:=[]) (args':=[]) (fun _ _ => .nil) (fin := .tree (.nd (.int .i64 31) (.string ⟨#[]⟩) (tk 131) (tk 132) []) 1) (by kernel_rfl)
 |false=>
  rw[k1,if_neg (by decide)] at hr
  cases k2:isP wTrue l with
  |true=>
   rw[k2,if_pos rfl] at hr
   rw[placeP_head] at hr
   cases hr
   have D:Told b E (mkN E.len hd w.heap.size [l,l.tail] [] [] []) hd w [evPeek 0 (tk 129) (tk 321),evTake wTrue 0 1 (tk 321)] ⟨[],[],[],[]⟩ [(129,.int .i64 2,false)]:=
    ⟨h,rfl,rfl,rfl,rfl,consC (peek_s (by decide) (.inl rfl) _) (consC (take_s k2 rfl _) nilC),(fun _ hx=>(by cases hx)),noApp,noPut,(eqC (kind_tok (i:=0) (by decide) k1) eqN),noPos⟩
   exact D.path (.inr rfl) (args:=[]) (args':=[]) (fun _ _ => .nil) (fin := .tree (.nd (.int .i64 32) (.string ⟨#[]⟩) (.int .u64 1) (tk 132) []) 1) (by kernel_rfl)
  |false=>
   rw[k2,if_neg (by decide)] at hr
   cases k3:isP wFalse l with
   |true=>
    rw[k3,if_pos rfl] at hr
    rw[placeP_head] at hr
    cases hr
    have D:Told b E (mkN E.len hd w.heap.size [l,l.tail] [] [] []) hd w [evPeek 0 (tk 129) (tk 321),evMiss wTrue 0 (tk 321),evTake wFalse 0 1 (tk 321)] ⟨[],[],[],[]⟩ [(129,.int .i64 2,false)]:=
     ⟨h,rfl,rfl,rfl,rfl,consC (peek_s (by decide) (.inl rfl) _) (consC (miss_s k2 _) (consC (take_s k3 rfl _) nilC)),(fun _ hx=>(by cases hx)),noApp,noPut,(eqC (kind_tok (i:=0) (by decide) k1) eqN),noPos⟩
    exact D.path (.inr rfl) (args:=[]) (args':=[]) (fun _ _ => .nil) (fin := .tree (.nd (.int .i64 32) (.string ⟨#[]⟩) (.int .u64 0) (tk 132) []) 1) (by kernel_rfl)
   |false=>
    rw[k3,if_neg (by decide)] at hr
    cases k4:isP wOpen l with
    |true=>
     rw[k4,if_pos rfl] at hr
     cases k5:exprP E.len f 1 false l.tail with
     |none=>rw[k5] at hr;cases hr
     |some y6=>
      rw[k5] at hr
      cases y6 with
      |error pl7=>
       (try dsimp only [andThen,ok,bad] at hr)
       cases hr
       have D:Told b E (mkN E.len hd w.heap.size [l,l.tail] [] [] [(pl7:Int)]) hd w [evPeek 0 (tk 129) (tk 321),evMiss wTrue 0 (tk 321),evMiss wFalse 0 (tk 321),evTake wOpen 0 1 (tk 321),evBad 37 [.int .i64 1] 1 2 (.bool false)] ⟨[],[],[],[322]⟩ [(129,.int .i64 2,false)]:=
        ⟨h,rfl,rfl,rfl,rfl,consC (peek_s (by decide) (.inl rfl) _) (consC (miss_s k2 _) (consC (miss_s k3 _) (consC (take_s k4 rfl _) (consC (bad_f he ys_one k5 (by decide) rfl) nilC)))),(fun _ hx=>(by cases hx)),noApp,noPut,(eqC (kind_tok (i:=0) (by decide) k1) eqN),(posC ⟨pl7,rfl⟩ noPos)⟩
       exact D.path (.inr rfl) (args:=[]) (args':=[]) (fun _ _ => .nil) (fin := .pan (tk 322)) (by kernel_rfl)
      |ok y6=>
       obtain⟨⟨t8k,t8x,t8n,t8p,t8c⟩,m7⟩:=y6
       (try dsimp only [andThen,ok,bad] at hr)
       rw[shutP_eq] at hr
       unfold wantP at hr
       cases k9:isP wShut (behindS wShut m7) with
       |true=>
        rw[k9,if_pos rfl] at hr
        (try dsimp only [andThen,ok,bad] at hr)
        cases hr
        have D:Told b E (mkN E.len hd w.heap.size [l,l.tail,m7,(behindS wShut m7).tail] [.mk t8k t8x t8n t8p t8c] [] []) hd w [evPeek 0 (tk 129) (tk 321),evMiss wTrue 0 (tk 321),evMiss wFalse 0 (tk 321),evTake wOpen 0 1 (tk 321),evTree 37 [.int .i64 1] 1 2 (tk 256) 0 (.bool false),evShut wShut 2 3 (.bool false)] ⟨[],[],[],[]⟩ [(129,.int .i64 2,false)]:=
         ⟨h,rfl,rfl,rfl,rfl,consC (peek_s (by decide) (.inl rfl) _) (consC (miss_s k2 _) (consC (miss_s k3 _) (consC (take_s k4 rfl _) (consC (tree_f he ys_one k5 (.inl rfl) (by decide)) (consC (shut_s k9 rfl _) nilC))))),(fun _ hx=>(by cases hx)),noApp,noPut,(eqC (kind_tok (i:=0) (by decide) k1) eqN),noPos⟩
        exact D.path (.inr rfl) (args:=[]) (args':=[]) (fun _ _ => .nil) (fin := .tree (.ab (tk 256) (tk 257) (tk 258) (tk 259) 1) 3) (by kernel_rfl)
       |false=>
        rw[k9,if_neg (by decide)] at hr
        (try dsimp only [andThen,ok,bad] at hr)
        cases hr
        have D:Told b E (mkN E.len hd w.heap.size [l,l.tail,m7,behindS wShut m7] [.mk t8k t8x t8n t8p t8c] [] []) hd w [evPeek 0 (tk 129) (tk 321),evMiss wTrue 0 (tk 321),evMiss wFalse 0 (tk 321),evTake wOpen 0 1 (tk 321),evTree 37 [.int .i64 1] 1 2 (tk 256) 0 (.bool false),evOpen wShut 2 3 (.bool false)] ⟨[],[],[],[]⟩ [(129,.int .i64 2,false)]:=
         ⟨h,rfl,rfl,rfl,rfl,consC (peek_s (by decide) (.inl rfl) _) (consC (miss_s k2 _) (consC (miss_s k3 _) (consC (take_s k4 rfl _) (consC (tree_f he ys_one k5 (.inl rfl) (by decide)) (consC (open_s rfl (by decide) rfl k9 _) nilC))))),(fun _ hx=>(by cases hx)),noApp,noPut,(eqC (kind_tok (i:=0) (by decide) k1) eqN),noPos⟩
        exact D.path (.inr rfl) (args:=[]) (args':=[]) (fun _ _ => .nil) (fin := .pan (tk 152)) (by kernel_rfl)
    |false=>
     rw[k4,if_neg (by decide)] at hr
     cases k5:isP wFunc l with
     |true=>
      rw[k5,if_pos rfl] at hr
      cases k6:sigP E.len f l.tail with
      |none=>rw[k6] at hr;cases hr
      |some y7=>
       rw[k6] at hr
       cases y7 with
       |error pl8=>
        (try dsimp only [andThen,ok,bad] at hr)
        cases hr
        have D:Told b E (mkN E.len hd w.heap.size [l,l.tail] [] [] [(pl8:Int)]) hd w [evPeek 0 (tk 129) (tk 321),evMiss wTrue 0 (tk 321),evMiss wFalse 0 (tk 321),evMiss wOpen 0 (tk 321),evTake wFunc 0 1 (tk 321),evBad 78 [] 1 2 (tk 321)] ⟨[],[],[],[322]⟩ [(129,.int .i64 2,false)]:=
         ⟨h,rfl,rfl,rfl,rfl,consC (peek_s (by decide) (.inl rfl) _) (consC (miss_s k2 _) (consC (miss_s k3 _) (consC (miss_s k4 _) (consC (take_s k5 rfl _) (consC (badL_s hs (.inr rfl) rfl ys_nil k6 (by decide) rfl) nilC))))),(fun _ hx=>(by cases hx)),noApp,noPut,(eqC (kind_tok (i:=0) (by decide) k1) eqN),(posC ⟨pl8,rfl⟩ noPos)⟩
        exact D.path (.inr rfl) (args:=[]) (args':=[]) (fun _ _ => .nil) (fin := .pan (tk 322)) (by kernel_rfl)
       |ok y7=>
        obtain⟨ts9,m8⟩:=y7
        (try dsimp only [andThen,ok,bad] at hr)
        cases k10:blockP E.len f m8 with
        |none=>rw[k10] at hr;cases hr
        |some y11=>
         rw[k10] at hr
         cases y11 with
         |error pl12=>
          (try dsimp only [andThen,ok,bad] at hr)
          cases hr
          have D:Told b E (mkN E.len hd w.heap.size [l,l.tail,m8] [] [ts9] [(pl12:Int)]) hd w [evPeek 0 (tk 129) (tk 321),evMiss wTrue 0 (tk 321),evMiss wFalse 0 (tk 321),evMiss wOpen 0 (tk 321),evTake wFunc 0 1 (tk 321),evList 78 [] 1 2 0 (tk 321),evBad 45 [] 2 2 (tk 321)] ⟨[],[],[],[322]⟩ [(129,.int .i64 2,false)]:=
           ⟨h,rfl,rfl,rfl,rfl,consC (peek_s (by decide) (.inl rfl) _) (consC (miss_s k2 _) (consC (miss_s k3 _) (consC (miss_s k4 _) (consC (take_s k5 rfl _) (consC (list_s hs (.inr rfl) rfl ys_nil k6) (consC (bad_s hb (.inr rfl) rfl ys_nil k10 (by decide) rfl) nilC)))))),(fun _ hx=>(by cases hx)),noApp,noPut,(eqC (kind_tok (i:=0) (by decide) k1) eqN),(posC ⟨pl12,rfl⟩ noPos)⟩
          exact D.path (.inr rfl) (args:=[]) (args':=[]) (fun _ _ => .nil) (fin := .pan (tk 322)) (by kernel_rfl)
         |ok y11=>
          obtain⟨⟨t13k,t13x,t13n,t13p,t13c⟩,m12⟩:=y11
          (try dsimp only [andThen,ok,bad] at hr)
          rw[placeP_head] at hr
          cases hr
          have D:Told b E (mkN E.len hd w.heap.size [l,l.tail,m8,m12] [.mk t13k t13x t13n t13p t13c] [ts9,ts9++[.mk t13k t13x t13n t13p t13c]] []) hd w [evPeek 0 (tk 129) (tk 321),evMiss wTrue 0 (tk 321),evMiss wFalse 0 (tk 321),evMiss wOpen 0 (tk 321),evTake wFunc 0 1 (tk 321),evList 78 [] 1 2 0 (tk 321),evTree 45 [] 2 3 (tk 256) 0 (tk 321)] ⟨[],[(0,.ab (tk 256) (tk 257) (tk 258) (tk 259) 1,1)],[],[]⟩ [(129,.int .i64 2,false)]:=
           ⟨h,rfl,rfl,rfl,rfl,consC (peek_s (by decide) (.inl rfl) _) (consC (miss_s k2 _) (consC (miss_s k3 _) (consC (miss_s k4 _) (consC (take_s k5 rfl _) (consC (list_s hs (.inr rfl) rfl ys_nil k6) (consC (tree_s hb (.inr rfl) rfl ys_nil k10 (.inl rfl) (by decide)) nilC)))))),(fun _ hx=>(by cases hx)),appS (len2_le (sigP_len k6)),noPut,(eqC (kind_tok (i:=0) (by decide) k1) eqN),noPos⟩
          exact D.path (.inr rfl) (args:=[]) (args':=[]) (fun _ _ => .nil) (fin := .tree (.ab (.int .i64 38) (.string ⟨#[]⟩) (.int .u64 0) (tk 132) 10) 3) (by kernel_rfl)
     |false=>
      rw[k5,if_neg (by decide)] at hr
      unfold nameP at hr
      cases k6:kindP l==1 with
      |true=>
       rw[k6,if_pos rfl] at hr
       (try dsimp only [andThen,ok,bad] at hr)
       simp only[textP_head,placeP_head] at hr
       cases km:(headT l).text==wMake with
       |true=>
        rw[km,Bool.true_and] at hr
        cases k7:isP wOpen l.tail with
        |true=>
         rw[k7,if_pos rfl] at hr
         cases k8:typP E.len f l.tail.tail with
         |none=>rw[k8] at hr;cases hr
         |some y9=>
          rw[k8] at hr
          cases y9 with
          |error pl10=>
           (try dsimp only [andThen,ok,bad] at hr)
           cases hr
           have D:Told b E (mkN E.len hd w.heap.size [l,l.tail,l.tail.tail] [] [] [(pl10:Int)]) hd w [evPeek 0 (tk 129) (tk 321),evMiss wTrue 0 (tk 321),evMiss wFalse 0 (tk 321),evMiss wOpen 0 (tk 321),evMiss wFunc 0 (tk 321),evName 0 1 (tk 321),evTake wOpen 1 2 (tk 321),evBad 48 [] 2 2 (.bool false)] ⟨[],[],[],[322]⟩ [(129,.int .i64 2,false),(130,str wMake,true)]:=
            ⟨h,rfl,rfl,rfl,rfl,consC (peek_s (by decide) (.inl rfl) _) (consC (miss_s k2 _) (consC (miss_s k3 _) (consC (miss_s k4 _) (consC (miss_s k5 _) (consC (name_s (by decide) k6 rfl _) (consC (take_s k7 rfl _) (consC (bad_f htf ys_nil k8 (by decide) rfl) nilC))))))),(fun _ hx=>(by cases hx)),noApp,noPut,(eqC (kind_tok (i:=0) (by decide) k1) (eqC (str_tok (i:=0) (by decide) ((congrArg (· == wMake) (textP_head l)).trans km)) eqN)),(posC ⟨pl10,rfl⟩ noPos)⟩
           exact D.path (.inr rfl) (args:=[]) (args':=[]) (fun _ _ => .nil) (fin := .pan (tk 322)) (by kernel_rfl)
          |ok y9=>
           obtain⟨⟨t11k,t11x,t11n,t11p,t11c⟩,m10⟩:=y9
           (try dsimp only [andThen,ok,bad] at hr)
           unfold wantP at hr
           cases k12:isP wComma m10 with
           |true=>
            rw[k12,if_pos rfl] at hr
            (try dsimp only [andThen,ok,bad] at hr)
            cases k13:exprP E.len f 1 false m10.tail with
            |none=>rw[k13] at hr;cases hr
            |some y14=>
             rw[k13] at hr
             cases y14 with
             |error pl15=>
              (try dsimp only [andThen,ok,bad] at hr)
              cases hr
              have D:Told b E (mkN E.len hd w.heap.size [l,l.tail,l.tail.tail,m10,m10.tail] [.mk t11k t11x t11n t11p t11c] [] [(pl15:Int)]) hd w [evPeek 0 (tk 129) (tk 321),evMiss wTrue 0 (tk 321),evMiss wFalse 0 (tk 321),evMiss wOpen 0 (tk 321),evMiss wFunc 0 (tk 321),evName 0 1 (tk 321),evTake wOpen 1 2 (tk 321),evTree 48 [] 2 3 (tk 256) 0 (.bool false),evWant wComma 3 4 (.bool false),evBad 37 [.int .i64 1] 4 2 (.bool false)] ⟨[],[],[],[322]⟩ [(129,.int .i64 2,false),(130,str wMake,true)]:=
               ⟨h,rfl,rfl,rfl,rfl,consC (peek_s (by decide) (.inl rfl) _) (consC (miss_s k2 _) (consC (miss_s k3 _) (consC (miss_s k4 _) (consC (miss_s k5 _) (consC (name_s (by decide) k6 rfl _) (consC (take_s k7 rfl _) (consC (tree_f htf ys_nil k8 (.inl rfl) (by decide)) (consC (want_s rfl (by decide) k12 rfl _) (consC (bad_f he ys_one k13 (by decide) rfl) nilC))))))))),(fun _ hx=>(by cases hx)),noApp,noPut,(eqC (kind_tok (i:=0) (by decide) k1) (eqC (str_tok (i:=0) (by decide) ((congrArg (· == wMake) (textP_head l)).trans km)) eqN)),(posC ⟨pl15,rfl⟩ noPos)⟩
              exact D.path (.inr rfl) (args:=[]) (args':=[]) (fun _ _ => .nil) (fin := .pan (tk 322)) (by kernel_rfl)
             |ok y14=>
              obtain⟨⟨t16k,t16x,t16n,t16p,t16c⟩,m15⟩:=y14
              (try dsimp only [andThen,ok,bad] at hr)
              rw[shutP_eq] at hr
              unfold wantP at hr
              cases k17:isP wShut (behindS wShut m15) with
              |true=>
               rw[k17,if_pos rfl] at hr
               (try dsimp only [andThen,ok,bad] at hr)
               cases hr
               have D:Told b E (mkN E.len hd w.heap.size [l,l.tail,l.tail.tail,m10,m10.tail,m15,(behindS wShut m15).tail] [.mk t11k t11x t11n t11p t11c,.mk t16k t16x t16n t16p t16c] [] []) hd w [evPeek 0 (tk 129) (tk 321),evMiss wTrue 0 (tk 321),evMiss wFalse 0 (tk 321),evMiss wOpen 0 (tk 321),evMiss wFunc 0 (tk 321),evName 0 1 (tk 321),evTake wOpen 1 2 (tk 321),evTree 48 [] 2 3 (tk 256) 0 (.bool false),evWant wComma 3 4 (.bool false),evTree 37 [.int .i64 1] 4 5 (tk 260) 1 (.bool false),evShut wShut 5 6 (.bool false)] ⟨[],[],[],[]⟩ [(129,.int .i64 2,false),(130,str wMake,true)]:=
                ⟨h,rfl,rfl,rfl,rfl,consC (peek_s (by decide) (.inl rfl) _) (consC (miss_s k2 _) (consC (miss_s k3 _) (consC (miss_s k4 _) (consC (miss_s k5 _) (consC (name_s (by decide) k6 rfl _) (consC (take_s k7 rfl _) (consC (tree_f htf ys_nil k8 (.inl rfl) (by decide)) (consC (want_s rfl (by decide) k12 rfl _) (consC (tree_f he ys_one k13 (.inl rfl) (by decide)) (consC (shut_s k17 rfl _) nilC)))))))))),(fun _ hx=>(by cases hx)),noApp,noPut,(eqC (kind_tok (i:=0) (by decide) k1) (eqC (str_tok (i:=0) (by decide) ((congrArg (· == wMake) (textP_head l)).trans km)) eqN)),noPos⟩
               exact D.path (.inr rfl) (args:=[]) (args':=[]) (fun _ _ => .nil) (fin := .tree (.nd (.int .i64 40) (.string ⟨#[]⟩) (.int .u64 0) (tk 132) [.ab (tk 256) (tk 257) (tk 258) (tk 259) 1,.ab (tk 260) (tk 261) (tk 262) (tk 263) 9]) 6) (by kernel_rfl)
              |false=>
               rw[k17,if_neg (by decide)] at hr
               (try dsimp only [andThen,ok,bad] at hr)
               cases hr
               have D:Told b E (mkN E.len hd w.heap.size [l,l.tail,l.tail.tail,m10,m10.tail,m15,behindS wShut m15] [.mk t11k t11x t11n t11p t11c,.mk t16k t16x t16n t16p t16c] [] []) hd w [evPeek 0 (tk 129) (tk 321),evMiss wTrue 0 (tk 321),evMiss wFalse 0 (tk 321),evMiss wOpen 0 (tk 321),evMiss wFunc 0 (tk 321),evName 0 1 (tk 321),evTake wOpen 1 2 (tk 321),evTree 48 [] 2 3 (tk 256) 0 (.bool false),evWant wComma 3 4 (.bool false),evTree 37 [.int .i64 1] 4 5 (tk 260) 1 (.bool false),evOpen wShut 5 6 (.bool false)] ⟨[],[],[],[]⟩ [(129,.int .i64 2,false),(130,str wMake,true)]:=
                ⟨h,rfl,rfl,rfl,rfl,consC (peek_s (by decide) (.inl rfl) _) (consC (miss_s k2 _) (consC (miss_s k3 _) (consC (miss_s k4 _) (consC (miss_s k5 _) (consC (name_s (by decide) k6 rfl _) (consC (take_s k7 rfl _) (consC (tree_f htf ys_nil k8 (.inl rfl) (by decide)) (consC (want_s rfl (by decide) k12 rfl _) (consC (tree_f he ys_one k13 (.inl rfl) (by decide)) (consC (open_s rfl (by decide) rfl k17 _) nilC)))))))))),(fun _ hx=>(by cases hx)),noApp,noPut,(eqC (kind_tok (i:=0) (by decide) k1) (eqC (str_tok (i:=0) (by decide) ((congrArg (· == wMake) (textP_head l)).trans km)) eqN)),noPos⟩
               exact D.path (.inr rfl) (args:=[]) (args':=[]) (fun _ _ => .nil) (fin := .pan (tk 176)) (by kernel_rfl)
           |false=>
            rw[k12,if_neg (by decide)] at hr
            (try dsimp only [andThen,ok,bad] at hr)
            cases hr
            have D:Told b E (mkN E.len hd w.heap.size [l,l.tail,l.tail.tail,m10] [.mk t11k t11x t11n t11p t11c] [] []) hd w [evPeek 0 (tk 129) (tk 321),evMiss wTrue 0 (tk 321),evMiss wFalse 0 (tk 321),evMiss wOpen 0 (tk 321),evMiss wFunc 0 (tk 321),evName 0 1 (tk 321),evTake wOpen 1 2 (tk 321),evTree 48 [] 2 3 (tk 256) 0 (.bool false),evLack wComma 3 (.bool false)] ⟨[],[],[],[]⟩ [(129,.int .i64 2,false),(130,str wMake,true)]:=
             ⟨h,rfl,rfl,rfl,rfl,consC (peek_s (by decide) (.inl rfl) _) (consC (miss_s k2 _) (consC (miss_s k3 _) (consC (miss_s k4 _) (consC (miss_s k5 _) (consC (name_s (by decide) k6 rfl _) (consC (take_s k7 rfl _) (consC (tree_f htf ys_nil k8 (.inl rfl) (by decide)) (consC (lack_s rfl (by decide) k12 _) nilC)))))))),(fun _ hx=>(by cases hx)),noApp,noPut,(eqC (kind_tok (i:=0) (by decide) k1) (eqC (str_tok (i:=0) (by decide) ((congrArg (· == wMake) (textP_head l)).trans km)) eqN)),noPos⟩
            exact D.path (.inr rfl) (args:=[]) (args':=[]) (fun _ _ => .nil) (fin := .pan (tk 152)) (by kernel_rfl)
        |false=>
         rw[k7,if_neg (by decide)] at hr
         cases hd with
         |true=>
          rw[Bool.not_true,Bool.false_and,if_neg (by decide)] at hr
          cases hr
          have D:Told b E (mkN E.len true w.heap.size [l,l.tail] [] [] []) true w [evPeek 0 (tk 129) (.bool true),evMiss wTrue 0 (.bool true),evMiss wFalse 0 (.bool true),evMiss wOpen 0 (.bool true),evMiss wFunc 0 (.bool true),evName 0 1 (.bool true),evMiss wOpen 1 (.bool true)] ⟨[],[],[],[]⟩ [(129,.int .i64 2,false),(130,str wMake,true)]:=
           ⟨h,rfl,rfl,rfl,rfl,consC (peek_s (by decide) (.inl rfl) _) (consC (miss_s k2 _) (consC (miss_s k3 _) (consC (miss_s k4 _) (consC (miss_s k5 _) (consC (name_s (by decide) k6 rfl _) (consC (miss_s k7 _) nilC)))))),(fun _ hx=>(by cases hx)),noApp,noPut,(eqC (kind_tok (i:=0) (by decide) k1) (eqC (str_tok (i:=0) (by decide) ((congrArg (· == wMake) (textP_head l)).trans km)) eqN)),noPos⟩
          exact D.path (.inl rfl) (args:=[]) (args':=[]) (fun _ _ => .nil) (fin := .tree (.nd (.int .i64 30) (tk 130) (.int .u64 0) (tk 132) []) 1) (by kernel_rfl)
         |false=>
          rw[Bool.not_false,Bool.true_and] at hr
          cases k8:isP wCu l.tail with
          |true=>
           rw[k8,if_pos rfl] at hr
           cases k9:manyP E.len wUc false (exprP E.len f 1 false) f l.tail.tail with
           |none=>rw[k9] at hr;cases hr
           |some y10=>
            rw[k9] at hr
            cases y10 with
            |error pl11=>
             (try dsimp only [andThen,ok,bad] at hr)
             cases hr
             have D:Told b E (mkN E.len false w.heap.size [l,l.tail,l.tail.tail] [] [] [(pl11:Int)]) false w [evPeek 0 (tk 129) (.bool false),evMiss wTrue 0 (.bool false),evMiss wFalse 0 (.bool false),evMiss wOpen 0 (.bool false),evMiss wFunc 0 (.bool false),evName 0 1 (.bool false),evMiss wOpen 1 (.bool false),evTake wCu 1 2 (.bool false),evBad 71 [str wUc,.bool false,(.func (.func 22) #[.pointer (some ⟨64,0,none⟩)] #[])] 2 2 (.bool false)] ⟨[],[],[],[322]⟩ [(129,.int .i64 2,false),(130,str wMake,true)]:=
              ⟨h,rfl,rfl,rfl,rfl,consC (peek_s (by decide) (.inl rfl) _) (consC (miss_s k2 _) (consC (miss_s k3 _) (consC (miss_s k4 _) (consC (miss_s k5 _) (consC (name_s (by decide) k6 rfl _) (consC (miss_s k7 _) (consC (take_s k8 rfl _) (consC (badL_f (many_elem ha hf) ys_many k9 (by decide) rfl) nilC)))))))),(fun _ hx=>(by cases hx)),noApp,noPut,(eqC (kind_tok (i:=0) (by decide) k1) (eqC (str_tok (i:=0) (by decide) ((congrArg (· == wMake) (textP_head l)).trans km)) eqN)),(posC ⟨pl11,rfl⟩ noPos)⟩
             exact D.path (.inl rfl) (args:=[]) (args':=[]) (fun _ _ => .nil) (fin := .pan (tk 322)) (by kernel_rfl)
            |ok y10=>
             obtain⟨ts12,m11⟩:=y10
             (try dsimp only [andThen,ok,bad] at hr)
             cases hr
             have D:Told b E (mkN E.len false w.heap.size [l,l.tail,l.tail.tail,m11] [] [ts12] []) false w [evPeek 0 (tk 129) (.bool false),evMiss wTrue 0 (.bool false),evMiss wFalse 0 (.bool false),evMiss wOpen 0 (.bool false),evMiss wFunc 0 (.bool false),evName 0 1 (.bool false),evMiss wOpen 1 (.bool false),evTake wCu 1 2 (.bool false),evList 71 [str wUc,.bool false,(.func (.func 22) #[.pointer (some ⟨64,0,none⟩)] #[])] 2 3 0 (.bool false)] ⟨[],[],[],[]⟩ [(129,.int .i64 2,false),(130,str wMake,true)]:=
              ⟨h,rfl,rfl,rfl,rfl,consC (peek_s (by decide) (.inl rfl) _) (consC (miss_s k2 _) (consC (miss_s k3 _) (consC (miss_s k4 _) (consC (miss_s k5 _) (consC (name_s (by decide) k6 rfl _) (consC (miss_s k7 _) (consC (take_s k8 rfl _) (consC (list_f (many_elem ha hf) ys_many k9) nilC)))))))),(fun _ hx=>(by cases hx)),noApp,noPut,(eqC (kind_tok (i:=0) (by decide) k1) (eqC (str_tok (i:=0) (by decide) ((congrArg (· == wMake) (textP_head l)).trans km)) eqN)),noPos⟩
             exact D.path (.inl rfl) (args:=[]) (args':=[]) (fun _ _ => .nil) (fin := .tree (.ab (.int .i64 37) (tk 130) (.int .u64 0) (tk 132) 2) 3) (by kernel_rfl)
          |false=>
           rw[k8,if_neg (by decide)] at hr
           cases hr
           have D:Told b E (mkN E.len false w.heap.size [l,l.tail] [] [] []) false w [evPeek 0 (tk 129) (.bool false),evMiss wTrue 0 (.bool false),evMiss wFalse 0 (.bool false),evMiss wOpen 0 (.bool false),evMiss wFunc 0 (.bool false),evName 0 1 (.bool false),evMiss wOpen 1 (.bool false),evMiss wCu 1 (.bool false)] ⟨[],[],[],[]⟩ [(129,.int .i64 2,false),(130,str wMake,true)]:=
            ⟨h,rfl,rfl,rfl,rfl,consC (peek_s (by decide) (.inl rfl) _) (consC (miss_s k2 _) (consC (miss_s k3 _) (consC (miss_s k4 _) (consC (miss_s k5 _) (consC (name_s (by decide) k6 rfl _) (consC (miss_s k7 _) (consC (miss_s k8 _) nilC))))))),(fun _ hx=>(by cases hx)),noApp,noPut,(eqC (kind_tok (i:=0) (by decide) k1) (eqC (str_tok (i:=0) (by decide) ((congrArg (· == wMake) (textP_head l)).trans km)) eqN)),noPos⟩
           exact D.path (.inl rfl) (args:=[]) (args':=[]) (fun _ _ => .nil) (fin := .tree (.nd (.int .i64 30) (tk 130) (.int .u64 0) (tk 132) []) 1) (by kernel_rfl)
       |false=>
        rw[km,Bool.false_and,if_neg (by decide)] at hr
        cases hd with
        |true=>
         rw[Bool.not_true,Bool.false_and,if_neg (by decide)] at hr
         cases hr
         have D:Told b E (mkN E.len true w.heap.size [l,l.tail] [] [] []) true w [evPeek 0 (tk 129) (.bool true),evMiss wTrue 0 (.bool true),evMiss wFalse 0 (.bool true),evMiss wOpen 0 (.bool true),evMiss wFunc 0 (.bool true),evName 0 1 (.bool true)] ⟨[],[],[],[]⟩ [(129,.int .i64 2,false),(130,str wMake,false)]:=
          ⟨h,rfl,rfl,rfl,rfl,consC (peek_s (by decide) (.inl rfl) _) (consC (miss_s k2 _) (consC (miss_s k3 _) (consC (miss_s k4 _) (consC (miss_s k5 _) (consC (name_s (by decide) k6 rfl _) nilC))))),(fun _ hx=>(by cases hx)),noApp,noPut,(eqC (kind_tok (i:=0) (by decide) k1) (eqC (str_tok (i:=0) (by decide) ((congrArg (· == wMake) (textP_head l)).trans km)) eqN)),noPos⟩
         exact D.path (.inl rfl) (args:=[]) (args':=[]) (fun _ _ => .nil) (fin := .tree (.nd (.int .i64 30) (tk 130) (.int .u64 0) (tk 132) []) 1) (by kernel_rfl)
        |false=>
         rw[Bool.not_false,Bool.true_and] at hr
         cases k7:isP wCu l.tail with
         |true=>
          rw[k7,if_pos rfl] at hr
          cases k8:manyP E.len wUc false (exprP E.len f 1 false) f l.tail.tail with
          |none=>rw[k8] at hr;cases hr
          |some y9=>
           rw[k8] at hr
           cases y9 with
           |error pl10=>
            (try dsimp only [andThen,ok,bad] at hr)
            cases hr
            have D:Told b E (mkN E.len false w.heap.size [l,l.tail,l.tail.tail] [] [] [(pl10:Int)]) false w [evPeek 0 (tk 129) (.bool false),evMiss wTrue 0 (.bool false),evMiss wFalse 0 (.bool false),evMiss wOpen 0 (.bool false),evMiss wFunc 0 (.bool false),evName 0 1 (.bool false),evTake wCu 1 2 (.bool false),evBad 71 [str wUc,.bool false,(.func (.func 22) #[.pointer (some ⟨64,0,none⟩)] #[])] 2 2 (.bool false)] ⟨[],[],[],[322]⟩ [(129,.int .i64 2,false),(130,str wMake,false)]:=
             ⟨h,rfl,rfl,rfl,rfl,consC (peek_s (by decide) (.inl rfl) _) (consC (miss_s k2 _) (consC (miss_s k3 _) (consC (miss_s k4 _) (consC (miss_s k5 _) (consC (name_s (by decide) k6 rfl _) (consC (take_s k7 rfl _) (consC (badL_f (many_elem ha hf) ys_many k8 (by decide) rfl) nilC))))))),(fun _ hx=>(by cases hx)),noApp,noPut,(eqC (kind_tok (i:=0) (by decide) k1) (eqC (str_tok (i:=0) (by decide) ((congrArg (· == wMake) (textP_head l)).trans km)) eqN)),(posC ⟨pl10,rfl⟩ noPos)⟩
            exact D.path (.inl rfl) (args:=[]) (args':=[]) (fun _ _ => .nil) (fin := .pan (tk 322)) (by kernel_rfl)
           |ok y9=>
            obtain⟨ts11,m10⟩:=y9
            (try dsimp only [andThen,ok,bad] at hr)
            cases hr
            have D:Told b E (mkN E.len false w.heap.size [l,l.tail,l.tail.tail,m10] [] [ts11] []) false w [evPeek 0 (tk 129) (.bool false),evMiss wTrue 0 (.bool false),evMiss wFalse 0 (.bool false),evMiss wOpen 0 (.bool false),evMiss wFunc 0 (.bool false),evName 0 1 (.bool false),evTake wCu 1 2 (.bool false),evList 71 [str wUc,.bool false,(.func (.func 22) #[.pointer (some ⟨64,0,none⟩)] #[])] 2 3 0 (.bool false)] ⟨[],[],[],[]⟩ [(129,.int .i64 2,false),(130,str wMake,false)]:=
             ⟨h,rfl,rfl,rfl,rfl,consC (peek_s (by decide) (.inl rfl) _) (consC (miss_s k2 _) (consC (miss_s k3 _) (consC (miss_s k4 _) (consC (miss_s k5 _) (consC (name_s (by decide) k6 rfl _) (consC (take_s k7 rfl _) (consC (list_f (many_elem ha hf) ys_many k8) nilC))))))),(fun _ hx=>(by cases hx)),noApp,noPut,(eqC (kind_tok (i:=0) (by decide) k1) (eqC (str_tok (i:=0) (by decide) ((congrArg (· == wMake) (textP_head l)).trans km)) eqN)),noPos⟩
            exact D.path (.inl rfl) (args:=[]) (args':=[]) (fun _ _ => .nil) (fin := .tree (.ab (.int .i64 37) (tk 130) (.int .u64 0) (tk 132) 2) 3) (by kernel_rfl)
         |false=>
          rw[k7,if_neg (by decide)] at hr
          cases hr
          have D:Told b E (mkN E.len false w.heap.size [l,l.tail] [] [] []) false w [evPeek 0 (tk 129) (.bool false),evMiss wTrue 0 (.bool false),evMiss wFalse 0 (.bool false),evMiss wOpen 0 (.bool false),evMiss wFunc 0 (.bool false),evName 0 1 (.bool false),evMiss wCu 1 (.bool false)] ⟨[],[],[],[]⟩ [(129,.int .i64 2,false),(130,str wMake,false)]:=
           ⟨h,rfl,rfl,rfl,rfl,consC (peek_s (by decide) (.inl rfl) _) (consC (miss_s k2 _) (consC (miss_s k3 _) (consC (miss_s k4 _) (consC (miss_s k5 _) (consC (name_s (by decide) k6 rfl _) (consC (miss_s k7 _) nilC)))))),(fun _ hx=>(by cases hx)),noApp,noPut,(eqC (kind_tok (i:=0) (by decide) k1) (eqC (str_tok (i:=0) (by decide) ((congrArg (· == wMake) (textP_head l)).trans km)) eqN)),noPos⟩
          exact D.path (.inl rfl) (args:=[]) (args':=[]) (fun _ _ => .nil) (fin := .tree (.nd (.int .i64 30) (tk 130) (.int .u64 0) (tk 132) []) 1) (by kernel_rfl)
      |false=>
       rw[k6,if_neg (by decide)] at hr
       (try dsimp only [andThen,ok,bad] at hr)
       cases hr
       have D:Told b E (mkN E.len hd w.heap.size [l] [] [] []) hd w [evPeek 0 (tk 129) (tk 321),evMiss wTrue 0 (tk 321),evMiss wFalse 0 (tk 321),evMiss wOpen 0 (tk 321),evMiss wFunc 0 (tk 321),evNone 0 (tk 321)] ⟨[],[],[],[]⟩ [(129,.int .i64 2,false)]:=
        ⟨h,rfl,rfl,rfl,rfl,consC (peek_s (by decide) (.inl rfl) _) (consC (miss_s k2 _) (consC (miss_s k3 _) (consC (miss_s k4 _) (consC (miss_s k5 _) (consC (none_s rfl (by decide) k6 _) nilC))))),(fun _ hx=>(by cases hx)),noApp,noPut,(eqC (kind_tok (i:=0) (by decide) k1) eqN),noPos⟩
       exact D.path (.inr rfl) (args:=[]) (args':=[]) (fun _ _ => .nil) (fin := .pan (tk 128)) (by kernel_rfl)
end Prs
end Go.Proofs.YtcbkeecabcbogaaGreatDoor
