/- Scripts: types. (Printed by gen_typ.py.) -/
import Derived.Test.YtcbkeecabcbogaaGreatDoorGau
namespace Go.Proofs.YtcbkeecabcbogaaGreatDoor
open Go.RowKit
set_option linter.unusedSimpArgs false
set_option linter.unusedVariables false
namespace Prs
open Ev
theorem manyLoop_len {e:Nat}{shut:List UInt8}{one:List Tok→R Tr}:∀ {f:Nat} {acc:List Tr} {l:List Tok} {ts:List Tr} {m:List Tok},manyLoop e shut one f acc l=some (.ok (ts,m))→ts.length≤acc.length+f:=by
 intro f
 induction f with
 |zero=>intro acc l ts m h;rw[manyLoop] at h;cases h
 |succ f ih=>
  intro acc l ts m h
  rw[manyLoop] at h
  cases k1:one l with
  |none=>rw[k1] at h;cases h
  |some y=>
   rw[k1] at h
   cases y with
   |error=>cases h
   |ok y=>
    obtain⟨t,k⟩:=y
    dsimp only [andThen] at h
    by_cases hc:isP wComma k=true
    ·rw[if_pos hc] at h
     have:=ih h
     simp at this
     omega
    ·rw[if_neg hc] at h
     unfold shutP wantP at h
     by_cases hd:isP shut (if (kindP k==5&&secondP shut k)=true then k.tail else k)=true
     ·rw[if_pos hd] at h;cases h;simp
     ·rw[if_neg hd] at h;cases h
theorem placeP_head (l:List Tok):placeP l=(headT l).place:=by cases l <;> rfl
theorem many_len {e:Nat}{shut:List UInt8}{first:Bool}{one:List Tok→R Tr}{f:Nat}{l:List Tok}{ts:List Tr}{m:List Tok}(h:manyP e shut first one f l=some (.ok (ts,m)))(hf:f≤4294967296):ts.length≤4294967296:=by
 unfold manyP at h
 split at h
 ·cases h;simp
 ·have:=manyLoop_len h
  simp at this
  omega
theorem appS {N:SEnv}{i j:Nat}{sp:Sp}(hl:(N.TS i).length≤4294967296)(h:N.TS j=N.TS i++[den N sp]:=by rfl):AppOK N [(i,sp,j)]:=fun x hx=>by
 obtain rfl:=List.mem_singleton.1 hx
 exact⟨h,hl⟩
theorem ys_many {b:Nat}{N:SEnv}{x:List UInt8}{first:Bool}{g:FuncId}:∀ p vs,AxN b N p→VRs p [str x,.bool first,.func (.func g) #[.pointer (some ⟨64,0,none⟩)] #[]] vs→vs=[str x,.bool first,.func (.func g) #[rp b] #[]]:=fun p vs hax h=>by
 cases h with
 |cons h1 h=>
 cases h with
 |cons h2 h=>
 cases h with
 |cons h3 h=>
 cases h
 cases h1
 cases h2
 cases h3 with
 |@func _ a b' c d h1 h2=>
 generalize hb:b'.toList=bl at h1
 generalize hd:d.toList=dl at h2
 cases h2
 cases h1 with
 |cons h3 h4=>
 cases h4
 have e1:d = #[]:=by rw[←Array.toList_inj,hd]
 have e2:=vr_rdU hax h3
 subst e2
 have e3:b' = #[rp b]:=by rw[←Array.toList_inj,hb]
 rw[e1,e3]
set_option maxRecDepth 20000 in
theorem typ_c' {b f:Nat}{E:Env}{hd:Bool}(hf:f≤4294967296)(ht:∀ hd,Reads b E hd 48 #[rp b] (typP E.len f)):Reads b E hd 48 #[rp b] (typP E.len (f+1)):=by
 intro l w r h hr
 rw[typP] at hr
 have ht0:=ht
 have htf:=ht false
 have ht:=ht hd
 cases k1:isP wSq l with
 |true=>
  rw[k1,if_pos rfl] at hr
  unfold wantP at hr
  cases k2:isP wQs l.tail with
  |true=>
   rw[k2,if_pos rfl] at hr
   dsimp only [andThen,ok,bad] at hr
   cases k3:typP E.len f l.tail.tail with
   |none=>rw[k3] at hr;cases hr
   |some y4=>
    rw[k3] at hr
    cases y4 with
    |error pl5=>
     dsimp only [andThen,ok,bad] at hr
     cases hr
     have D:Told b E (mkN E.len hd w.heap.size [l,l.tail,l.tail.tail] [] [] [(pl5:Int)]) hd w [evAt 0 (tk 321),evTake wSq 0 1 (tk 321),evWant wQs 1 2 (tk 321),evBad 48 [] 2 2 (tk 321)] ⟨[],[],[],[322]⟩ []:=
      ⟨h,rfl,rfl,rfl,rfl,consC (at_s rfl (by decide) _) (consC (take_s k1 rfl _) (consC (want_s rfl (by decide) k2 rfl _) (consC (bad_s ht (.inr rfl) rfl ys_nil k3 (by decide) rfl) nilC))),fun _ hx=>(by cases hx),noApp,noPut,fun _ hx=>(by cases hx),(fun k hk=>(by obtain rfl:=List.mem_singleton.1 hk;exact⟨pl5,rfl⟩))⟩
     exact D.path (.inr rfl) (args:=[]) (args':=[]) (fun _ _ => .nil) (fin := .pan (tk 322)) (by kernel_rfl)
    |ok y4=>
     obtain⟨⟨t6k,t6x,t6n,t6p,t6c⟩,m5⟩:=y4
     dsimp only [andThen,ok,bad] at hr
     cases hr
     have D:Told b E (mkN E.len hd w.heap.size [l,l.tail,l.tail.tail,m5] [.mk t6k t6x t6n t6p t6c] [] []) hd w [evAt 0 (tk 321),evTake wSq 0 1 (tk 321),evWant wQs 1 2 (tk 321),evTree 48 [] 2 3 (tk 256) 0 (tk 321)] ⟨[],[],[],[]⟩ []:=
      ⟨h,rfl,rfl,rfl,rfl,consC (at_s rfl (by decide) _) (consC (take_s k1 rfl _) (consC (want_s rfl (by decide) k2 rfl _) (consC (tree_s ht (.inr rfl) rfl ys_nil k3 (.inl rfl) (by decide)) nilC))),fun _ hx=>(by cases hx),noApp,noPut,fun _ hx=>(by cases hx),noPos⟩
     exact D.path (.inr rfl) (args:=[]) (args':=[]) (fun _ _ => .nil) (fin := .tree (.nd (.int .i64 11) (.string ⟨#[]⟩) (.int .u64 0) (tk 128) [.ab (tk 256) (tk 257) (tk 258) (tk 259) 1]) 3) (by kernel_rfl)
  |false=>
   rw[k2,if_neg (by decide)] at hr
   dsimp only [andThen,ok,bad] at hr
   cases hr
   have D:Told b E (mkN E.len hd w.heap.size [l,l.tail] [] [] []) hd w [evAt 0 (tk 321),evTake wSq 0 1 (tk 321),evLack wQs 1 (tk 321)] ⟨[],[],[],[]⟩ []:=
    ⟨h,rfl,rfl,rfl,rfl,consC (at_s rfl (by decide) _) (consC (take_s k1 rfl _) (consC (lack_s rfl (by decide) k2 _) nilC)),fun _ hx=>(by cases hx),noApp,noPut,fun _ hx=>(by cases hx),noPos⟩
   exact D.path (.inr rfl) (args:=[]) (args':=[]) (fun _ _ => .nil) (fin := .pan (tk 136)) (by kernel_rfl)
 |false=>
  rw[k1,if_neg (by decide)] at hr
  cases k2:isP wChan l with
  |true=>
   rw[k2,if_pos rfl] at hr
   cases k3:typP E.len f l.tail with
   |none=>rw[k3] at hr;cases hr
   |some y4=>
    rw[k3] at hr
    cases y4 with
    |error pl5=>
     dsimp only [andThen,ok,bad] at hr
     cases hr
     have D:Told b E (mkN E.len hd w.heap.size [l,l.tail] [] [] [(pl5:Int)]) hd w [evAt 0 (tk 321),evMiss wSq 0 (tk 321),evTake wChan 0 1 (tk 321),evBad 48 [] 1 2 (tk 321)] ⟨[],[],[],[322]⟩ []:=
      ⟨h,rfl,rfl,rfl,rfl,consC (at_s rfl (by decide) _) (consC (miss_s k1 _) (consC (take_s k2 rfl _) (consC (bad_s ht (.inr rfl) rfl ys_nil k3 (by decide) rfl) nilC))),fun _ hx=>(by cases hx),noApp,noPut,fun _ hx=>(by cases hx),(fun k hk=>(by obtain rfl:=List.mem_singleton.1 hk;exact⟨pl5,rfl⟩))⟩
     exact D.path (.inr rfl) (args:=[]) (args':=[]) (fun _ _ => .nil) (fin := .pan (tk 322)) (by kernel_rfl)
    |ok y4=>
     obtain⟨⟨t6k,t6x,t6n,t6p,t6c⟩,m5⟩:=y4
     dsimp only [andThen,ok,bad] at hr
     cases hr
     have D:Told b E (mkN E.len hd w.heap.size [l,l.tail,m5] [.mk t6k t6x t6n t6p t6c] [] []) hd w [evAt 0 (tk 321),evMiss wSq 0 (tk 321),evTake wChan 0 1 (tk 321),evTree 48 [] 1 2 (tk 256) 0 (tk 321)] ⟨[],[],[],[]⟩ []:=
      ⟨h,rfl,rfl,rfl,rfl,consC (at_s rfl (by decide) _) (consC (miss_s k1 _) (consC (take_s k2 rfl _) (consC (tree_s ht (.inr rfl) rfl ys_nil k3 (.inl rfl) (by decide)) nilC))),fun _ hx=>(by cases hx),noApp,noPut,fun _ hx=>(by cases hx),noPos⟩
     exact D.path (.inr rfl) (args:=[]) (args':=[]) (fun _ _ => .nil) (fin := .tree (.nd (.int .i64 12) (.string ⟨#[]⟩) (.int .u64 0) (tk 128) [.ab (tk 256) (tk 257) (tk 258) (tk 259) 1]) 2) (by kernel_rfl)
  |false=>
   rw[k2,if_neg (by decide)] at hr
   cases k3:isP wFunc l with
   |true=>
    rw[k3,if_pos rfl] at hr
    unfold wantP at hr
    cases k4:isP wOpen l.tail with
    |true=>
     rw[k4,if_pos rfl] at hr
     dsimp only [andThen,ok,bad] at hr
     cases k5:manyP E.len wShut false (typP E.len f) f l.tail.tail with
     |none=>rw[k5] at hr;cases hr
     |some y6=>
      rw[k5] at hr
      cases y6 with
      |error pl7=>
       dsimp only [andThen,ok,bad] at hr
       cases hr
       have D:Told b E (mkN E.len hd w.heap.size [l,l.tail,l.tail.tail] [] [] [(pl7:Int)]) hd w [evAt 0 (tk 321),evMiss wSq 0 (tk 321),evMiss wChan 0 (tk 321),evTake wFunc 0 1 (tk 321),evWant wOpen 1 2 (tk 321),evBad 71 [str wShut,.bool false,(.func (.func 48) #[.pointer (some ⟨64,0,none⟩)] #[])] 2 2 (tk 321)] ⟨[],[],[],[322]⟩ []:=
        ⟨h,rfl,rfl,rfl,rfl,consC (at_s rfl (by decide) _) (consC (miss_s k1 _) (consC (miss_s k2 _) (consC (take_s k3 rfl _) (consC (want_s rfl (by decide) k4 rfl _) (consC (badL_s (many_typ htf hf) (.inr rfl) rfl ys_many k5 (by decide) rfl) nilC))))),fun _ hx=>(by cases hx),noApp,noPut,fun _ hx=>(by cases hx),(fun k hk=>(by obtain rfl:=List.mem_singleton.1 hk;exact⟨pl7,rfl⟩))⟩
       exact D.path (.inr rfl) (args:=[]) (args':=[]) (fun _ _ => .nil) (fin := .pan (tk 322)) (by kernel_rfl)
      |ok y6=>
       obtain⟨ts8,m7⟩:=y6
       dsimp only [andThen,ok,bad] at hr
       cases k10:beginsT m7 with
       |true=>
        rw[k10,if_pos rfl] at hr
        cases k11:typP E.len f m7 with
        |none=>rw[k11] at hr;cases hr
        |some y12=>
         rw[k11] at hr
         cases y12 with
         |error pl13=>
          dsimp only [andThen,ok,bad] at hr
          cases hr
          have D:Told b E (mkN E.len hd w.heap.size [l,l.tail,l.tail.tail,m7] [] [ts8] [(pl13:Int)]) hd w [evAt 0 (tk 321),evMiss wSq 0 (tk 321),evMiss wChan 0 (tk 321),evTake wFunc 0 1 (tk 321),evWant wOpen 1 2 (tk 321),evList 71 [str wShut,.bool false,(.func (.func 48) #[.pointer (some ⟨64,0,none⟩)] #[])] 2 3 0 (tk 321),evBegins 3 true (tk 321),evBad 48 [] 3 2 (tk 321)] ⟨[],[],[],[322]⟩ []:=
           ⟨h,rfl,rfl,rfl,rfl,consC (at_s rfl (by decide) _) (consC (miss_s k1 _) (consC (miss_s k2 _) (consC (take_s k3 rfl _) (consC (want_s rfl (by decide) k4 rfl _) (consC (list_s (many_typ htf hf) (.inr rfl) rfl ys_many k5) (consC (begins_s k10 _) (consC (bad_s ht (.inr rfl) rfl ys_nil k11 (by decide) rfl) nilC))))))),fun _ hx=>(by cases hx),noApp,noPut,fun _ hx=>(by cases hx),(fun k hk=>(by obtain rfl:=List.mem_singleton.1 hk;exact⟨pl13,rfl⟩))⟩
          exact D.path (.inr rfl) (args:=[]) (args':=[]) (fun _ _ => .nil) (fin := .pan (tk 322)) (by kernel_rfl)
         |ok y12=>
          obtain⟨⟨t14k,t14x,t14n,t14p,t14c⟩,m13⟩:=y12
          dsimp only [andThen,ok,bad] at hr
          cases hr
          have D:Told b E (mkN E.len hd w.heap.size [l,l.tail,l.tail.tail,m7,m13] [.mk t14k t14x t14n t14p t14c] [ts8,ts8++[.mk t14k t14x t14n t14p t14c]] []) hd w [evAt 0 (tk 321),evMiss wSq 0 (tk 321),evMiss wChan 0 (tk 321),evTake wFunc 0 1 (tk 321),evWant wOpen 1 2 (tk 321),evList 71 [str wShut,.bool false,(.func (.func 48) #[.pointer (some ⟨64,0,none⟩)] #[])] 2 3 0 (tk 321),evBegins 3 true (tk 321),evTree 48 [] 3 4 (tk 256) 0 (tk 321)] ⟨[],[(0,.ab (tk 256) (tk 257) (tk 258) (tk 259) 1,1)],[],[]⟩ []:=
           ⟨h,rfl,rfl,rfl,rfl,consC (at_s rfl (by decide) _) (consC (miss_s k1 _) (consC (miss_s k2 _) (consC (take_s k3 rfl _) (consC (want_s rfl (by decide) k4 rfl _) (consC (list_s (many_typ htf hf) (.inr rfl) rfl ys_many k5) (consC (begins_s k10 _) (consC (tree_s ht (.inr rfl) rfl ys_nil k11 (.inl rfl) (by decide)) nilC))))))),fun _ hx=>(by cases hx),appS (many_len k5 hf),noPut,fun _ hx=>(by cases hx),noPos⟩
          exact D.path (.inr rfl) (args:=[]) (args':=[]) (fun _ _ => .nil) (fin := .tree (.ab (.int .i64 13) (.string ⟨#[]⟩) (.int .u64 1) (tk 128) 10) 4) (by kernel_rfl)
       |false=>
        rw[k10,if_neg (by decide)] at hr
        cases hr
        have D:Told b E (mkN E.len hd w.heap.size [l,l.tail,l.tail.tail,m7] [] [ts8] []) hd w [evAt 0 (tk 321),evMiss wSq 0 (tk 321),evMiss wChan 0 (tk 321),evTake wFunc 0 1 (tk 321),evWant wOpen 1 2 (tk 321),evList 71 [str wShut,.bool false,(.func (.func 48) #[.pointer (some ⟨64,0,none⟩)] #[])] 2 3 0 (tk 321),evBegins 3 false (tk 321)] ⟨[],[],[],[]⟩ []:=
         ⟨h,rfl,rfl,rfl,rfl,consC (at_s rfl (by decide) _) (consC (miss_s k1 _) (consC (miss_s k2 _) (consC (take_s k3 rfl _) (consC (want_s rfl (by decide) k4 rfl _) (consC (list_s (many_typ htf hf) (.inr rfl) rfl ys_many k5) (consC (begins_s k10 _) nilC)))))),fun _ hx=>(by cases hx),noApp,noPut,fun _ hx=>(by cases hx),noPos⟩
        exact D.path (.inr rfl) (args:=[]) (args':=[]) (fun _ _ => .nil) (fin := .tree (.ab (.int .i64 13) (.string ⟨#[]⟩) (.int .u64 0) (tk 128) 2) 3) (by kernel_rfl)
    |false=>
     rw[k4,if_neg (by decide)] at hr
     dsimp only [andThen,ok,bad] at hr
     cases hr
     have D:Told b E (mkN E.len hd w.heap.size [l,l.tail] [] [] []) hd w [evAt 0 (tk 321),evMiss wSq 0 (tk 321),evMiss wChan 0 (tk 321),evTake wFunc 0 1 (tk 321),evLack wOpen 1 (tk 321)] ⟨[],[],[],[]⟩ []:=
      ⟨h,rfl,rfl,rfl,rfl,consC (at_s rfl (by decide) _) (consC (miss_s k1 _) (consC (miss_s k2 _) (consC (take_s k3 rfl _) (consC (lack_s rfl (by decide) k4 _) nilC)))),fun _ hx=>(by cases hx),noApp,noPut,fun _ hx=>(by cases hx),noPos⟩
     exact D.path (.inr rfl) (args:=[]) (args':=[]) (fun _ _ => .nil) (fin := .pan (tk 136)) (by kernel_rfl)
   |false=>
    rw[k3,if_neg (by decide)] at hr
    unfold nameP at hr
    cases k4:kindP l==1 with
    |true=>
     rw[k4,if_pos rfl] at hr
     dsimp only [andThen,ok,bad] at hr
     simp only[textP_head,placeP_head] at hr
     cases hr
     have D:Told b E (mkN E.len hd w.heap.size [l,l.tail] [] [] []) hd w [evAt 0 (tk 321),evMiss wSq 0 (tk 321),evMiss wChan 0 (tk 321),evMiss wFunc 0 (tk 321),evName 0 1 (tk 321)] ⟨[],[],[],[]⟩ []:=
      ⟨h,rfl,rfl,rfl,rfl,consC (at_s rfl (by decide) _) (consC (miss_s k1 _) (consC (miss_s k2 _) (consC (miss_s k3 _) (consC (name_s (by decide) k4 rfl _) nilC)))),fun _ hx=>(by cases hx),noApp,noPut,fun _ hx=>(by cases hx),noPos⟩
     exact D.path (.inr rfl) (args:=[]) (args':=[]) (fun _ _ => .nil) (fin := .tree (.nd (.int .i64 10) (tk 130) (.int .u64 0) (tk 128) []) 1) (by kernel_rfl)
    |false=>
     rw[k4,if_neg (by decide)] at hr
     dsimp only [andThen,ok,bad] at hr
     cases hr
     have D:Told b E (mkN E.len hd w.heap.size [l] [] [] []) hd w [evAt 0 (tk 321),evMiss wSq 0 (tk 321),evMiss wChan 0 (tk 321),evMiss wFunc 0 (tk 321),evNone 0 (tk 321)] ⟨[],[],[],[]⟩ []:=
      ⟨h,rfl,rfl,rfl,rfl,consC (at_s rfl (by decide) _) (consC (miss_s k1 _) (consC (miss_s k2 _) (consC (miss_s k3 _) (consC (none_s rfl (by decide) k4 _) nilC)))),fun _ hx=>(by cases hx),noApp,noPut,fun _ hx=>(by cases hx),noPos⟩
     exact D.path (.inr rfl) (args:=[]) (args':=[]) (fun _ _ => .nil) (fin := .pan (tk 128)) (by kernel_rfl)
end Prs
end Go.Proofs.YtcbkeecabcbogaaGreatDoor
