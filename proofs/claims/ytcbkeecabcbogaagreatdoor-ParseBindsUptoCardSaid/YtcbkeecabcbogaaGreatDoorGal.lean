/- Contracts of the reader's small functions: is the next token this word or sign? Contracts of the reader's small functions that may fail: fail, want, name, semi, second, shut, begins. Contracts of t -/
import Derived.Test.YtcbkeecabcbogaaGreatDoorGak
import Derived.BigQuiet
import Derived.Deep.QuietTactic
import Derived.Laws.Tables
import Derived.Great.BuildSlice
import Derived.Laws.CopyOwn
namespace Go.Proofs.YtcbkeecabcbogaaGreatDoor
open Go.RowKit
set_option linter.unusedSimpArgs false
set_option linter.unusedVariables false
namespace Prs
theorem kindP_head (l:List Tok):kindP l=(headT l).kind:=by cases l <;> rfl
theorem textP_head (l:List Tok):textP l=(headT l).text:=by cases l <;> rfl
theorem ret_bool {a b:Bool}(h:a=b):Ending.returned (.bool a) = .returned (.bool b):=by rw[h]
theorem is_c (b:Nat)(E:Env)(l:List Tok)(hd:Bool)(w:World)(x:List UInt8)(h:RdB b E w l hd):Calls Tryz.prog 44 #[rp b,.string ⟨x.toArray⟩] w fun e w'=>e = .returned (.bool (isP x l))∧Below w.heap.size w w':=by
 have hp:=peek_c b E l hd w h
 unfold isP
 rw[kindP_head,textP_head]
 generalize headT l=t at *
 obtain⟨k,z,m,p⟩:=t
 dsimp only at *
 have HP:=Lib.hid hp
 clear hp
 by_cases k3:k=3
 ·subst k3
  go_enter Tryz.func44, Tryz.ntmps44
  go_wp2_with (go_at_call 32;refine HP.out.mono ?_;rintro e w1 ⟨rfl,hB⟩)
  go_ret
  exact⟨ret_bool (by simp),hB.alloc hB.size _⟩
 ·have k3':(k==3)=false:=beq_eq_false_iff_ne.2 k3
  by_cases k4:k=4
  ·subst k4
   go_enter Tryz.func44, Tryz.ntmps44
   go_wp2_with (go_at_call 32;refine HP.out.mono ?_;rintro e w1 ⟨rfl,hB⟩)
   go_ret
   exact⟨ret_bool (by simp),hB.alloc hB.size _⟩
  ·have k4':(k==4)=false:=beq_eq_false_iff_ne.2 k4
   go_enter Tryz.func44, Tryz.ntmps44
   go_wp2_with (go_at_call 32;refine HP.out.mono ?_;rintro e w1 ⟨rfl,hB⟩)
   go_ret
   exact⟨ret_bool (by rw[k3',k4'];rfl),hB.alloc hB.size _⟩
theorem RdB.keep {b:Nat}{E:Env}{w w':World}{l:List Tok}{hd:Bool}(h:RdB b E w l hd)(k:Below w.heap.size w w'):RdB b E w' l hd:=by
 obtain⟨h0,v,h1,h2⟩:=h
 have hb:=(Array.getElem?_eq_some_iff.1 h1).1
 exact⟨fun i hi=>(k.block i (Nat.lt_trans hi hb)).trans (h0 i hi),v,(k.block b hb).trans h1,h2.keep (KeepR.of_below k (Nat.le_refl _))⟩
theorem RdB.frame {b:Nat}{E:Env}{w w':World}{l:List Tok}{hd:Bool}(h:RdB b E w l hd)(k:∀ i,i≤b→w'.heap[i]? = w.heap[i]?):RdB b E w' l hd:=by
 obtain⟨h0,v,h1,h2⟩:=h
 exact⟨fun i hi=>(k i (Nat.le_of_lt hi)).trans (h0 i hi),v,(k b (Nat.le_refl _)).trans h1,h2.frame fun i hi=>k i (Nat.le_of_lt hi)⟩
theorem RdB.lt {b:Nat}{E:Env}{w:World}{l:List Tok}{hd:Bool}(h:RdB b E w l hd):b<w.heap.size:=by
 obtain⟨-,v,h1,-⟩:=h
 exact(Array.getElem?_eq_some_iff.1 h1).1
theorem rd_tail {b:Nat}{E:Env}{w:World}{t:Tok}{l:List Tok}{hd:Bool}{a:Option Addr}{c:Nat}(he:∀ k,k<b→w.heap[k]? = E.w0.heap[k]?)(h:w.heap[b]? = some (.cells #[.slice a (l.length+1) c,.int .i64 (E.len:Int),.bool hd] 61 (0,0)))(hc:l.length+1≤c)(hm:c≤maxLen)(ht:∃ g o,a=some ⟨g,o,none⟩∧g<b∧TokR w g (t :: l) o)
  {v:Value} (hv:v = .slice (if c=1 then a else a.map (·.add (1 * 4))) (l.length+1 - 1) (c - 1)):RdB b E (w.setCell ⟨b,0,none⟩ v) l hd:=by
 subst hv
 obtain⟨g,o,rfl,hg,h1,h2⟩:=ht
 have hk:=KeepR.set w (b:=b) 0 (.slice (if c=1 then some ⟨g,o,none⟩ else (some ⟨g,o,none⟩:Option Addr).map (·.add (1 * 4))) (l.length+1 - 1) (c - 1))
 refine⟨fun k hk=>(Below.heap_setCell w _ _ k (Nat.ne_of_lt hk)).trans (he k hk),_,set_row h 0 _,_,_,by rw[Nat.add_sub_cancel],by omega,by omega,?_⟩
 cases l with
 |nil=>exact .inl rfl
 |cons u l=>
  right
  have hc1:c≠1:=by simp at hc;omega
  refine⟨g,o+4,?_,hg,h2.keep hk (Nat.ne_of_lt hg)⟩
  rw[if_neg hc1]
  rfl
theorem RdB.cons {b:Nat}{E:Env}{w:World}{t:Tok}{l:List Tok}{hd:Bool}(h:RdB b E w (t :: l) hd):∃ g o n c,n=l.length∧w.cell? ⟨b,0,none⟩=some (.slice (some ⟨g,o,none⟩) (n+1) c)∧w.frozen? ⟨b,0,none⟩=false∧n+1≤c∧c≤maxLen∧
  (c=1→RdB b E (w.setCell ⟨b,0,none⟩ (.slice (some ⟨g,o,none⟩) n 0)) l hd)∧(c≠1→RdB b E (w.setCell ⟨b,0,none⟩ (.slice (some ⟨g,o+4,none⟩) n (c - 1))) l hd):=by
 obtain⟨he,v,hb,a,c,rfl,h1,h2,h3⟩:=h
 obtain⟨g,o,rfl,h4,h5⟩:=h3.resolve_left (by simp)
 refine⟨g,o,l.length,c,rfl,?_,?_,h1,h2,fun hc => ?_,fun hc => ?_⟩
 ·unfold World.cell?;rw[hb];rfl
 ·unfold World.frozen?;rw[hb];rfl
 ·refine rd_tail he hb h1 h2 ⟨g,o,rfl,h4,h5⟩ ?_
  rw[if_pos hc,hc,Nat.add_sub_cancel]
 ·refine rd_tail he hb h1 h2 ⟨g,o,rfl,h4,h5⟩ ?_
  rw[if_neg hc,Nat.add_sub_cancel]
  rfl
theorem take_c (b:Nat)(E:Env)(l:List Tok)(hd:Bool)(w:World)(x:List UInt8)(h:RdB b E w l hd):Calls Tryz.prog 46 #[rp b,.string ⟨x.toArray⟩] w fun e w'=>e = .returned (.bool (isP x l))∧KeepR b w w'∧RdB b E w' (if isP x l then l.tail else l) hd:=by
 have HI:=Lib.hid (is_c b E l hd w x h)
 have HR:=Lib.hid h
 cases hi:isP x l with
 |false=>
  rw[hi] at HI
  clear hi
  go_enter Tryz.func46, Tryz.ntmps46
  go_wp2_with (go_at_call 44;refine HI.out.mono ?_;rintro e w1 ⟨rfl,hB⟩)
  go_ret
  exact⟨rfl,KeepR.of_below hB (Nat.le_refl _),HR.out.keep hB⟩
 |true=>
  rw[hi] at HI
  cases l with
  |nil=>cases hi
  |cons t l=>
   clear hi
   go_enter Tryz.func46, Tryz.ntmps46
   go_wp2_with (go_at_call 44;refine HI.out.mono ?_;rintro e w1 ⟨rfl,hB⟩;obtain⟨g,o,_,c,rfl,hc0,hf0,hnc,hcm,hset⟩:=(HR.out.keep hB).cons;have hset:=Lib.hid hset)
   ·go_ret
    exact⟨rfl,(KeepR.of_below hB (Nat.le_refl _)).trans (KeepR.set _ _ _),hset.out.1 (by assumption)⟩
   ·rename_i hc1
    go_ret
    exact⟨rfl,(KeepR.of_below hB (Nat.le_refl _)).trans (KeepR.set _ _ _),hset.out.2 (by assumption)⟩
abbrev faultV (p:Nat):Value := .iface 58 (.agg #[.int .i64 (p:Int)])
abbrev failed (p:Nat):Ending := .panicked [{ v:=faultV p,recovered:=false }]
theorem fail_c (b:Nat)(E:Env)(l:List Tok)(hd:Bool)(w:World)(h:RdB b E w l hd):Calls Tryz.prog 33 #[rp b] w fun e w'=>e=failed (atP E.len l)∧w'=w:=by
 have HA:=Lib.hid (at_c b E l hd w h)
 generalize atP E.len l=p at *
 go_enter Tryz.func33, Tryz.ntmps33
 go_wp2_with (go_at_call 43;refine HA.out.mono ?_;rintro e w1 ⟨rfl,rfl⟩)
 exact⟨rfl,rfl,rfl⟩
theorem want_c (b:Nat)(E:Env)(l:List Tok)(hd:Bool)(w:World)(x:List UInt8)(h:RdB b E w l hd):Calls Tryz.prog 68 #[rp b,.string ⟨x.toArray⟩] w fun e w'=>KeepR b w w'∧(if isP x l then e = .returned (.int .i64 (atP E.len l:Int))∧RdB b E w' l.tail hd else e=failed (atP E.len l)):=by
 have HA:=Lib.hid (at_c b E l hd w h)
 have HT:=Lib.hid (take_c b E l hd w x h)
 have HF:=Lib.hid (fun w1 h1=>fail_c b E l hd w1 h1)
 cases hi:isP x l with
 |true=>
  rw[hi] at HT
  generalize atP E.len l=p at *
  go_enter Tryz.func68, Tryz.ntmps68
  go_wp2_with (first|(go_at_call 43;refine HA.out.mono ?_;rintro e w1 ⟨rfl,rfl⟩)|(go_at_call 46;refine HT.out.mono ?_;rintro e w2 ⟨rfl,hk,hr⟩))
  go_ret
  exact⟨hk,by simpa using hr⟩
 |false=>
  rw[hi] at HT
  generalize atP E.len l=p at *
  go_enter Tryz.func68, Tryz.ntmps68
  go_wp2_with (first|(go_at_call 43;refine HA.out.mono ?_;rintro e w1 ⟨rfl,rfl⟩)|(go_at_call 46;refine HT.out.mono ?_;rintro e w2 ⟨rfl,hk,hr⟩)|(go_at_call 33;refine(HF.out _ (by simpa using hr)).mono ?_;rintro e w3 ⟨rfl,rfl⟩))
  exact⟨rfl,hk,rfl⟩
theorem second_c (b:Nat)(E:Env)(l:List Tok)(hd:Bool)(w:World)(x:List UInt8)(h:RdB b E w l hd):Calls Tryz.prog 75 #[rp b,.string ⟨x.toArray⟩] w fun e w'=>e = .returned (.bool (secondP x l))∧w'=w:=by
 obtain⟨a,c,h0,h1,-,-,-,hlc,-,ht⟩:=h.open_
 rcases l with _|⟨t,_|⟨u,l⟩⟩
 ·go_enter Tryz.func75, Tryz.ntmps75
  go_wp2
  go_ret
  exact⟨rfl,rfl⟩
 ·go_enter Tryz.func75, Tryz.ntmps75
  go_wp2
  go_ret
  exact⟨rfl,rfl⟩
 ·obtain⟨g,o,rfl,hg,htok⟩:=ht.resolve_left (by simp)
  have h3:=htok.2.1 1 _ rfl
  have h4:w.cell? ⟨g,o+4,none⟩=some (.int .i64 u.kind):=htok.2.1 0 _ rfl
  obtain⟨n,hn⟩:∃ n,(t :: u :: l).length=n+2:=⟨l.length,rfl⟩
  rw[hn] at h0 hlc
  have hne:(1:Int)<((n+2:Nat):Int):=by omega
  clear htok ht hn h
  obtain⟨k,z,m,p⟩:=u
  dsimp only at h3 h4
  by_cases k4:k=4
  ·subst k4
   rw[show secondP x (t :: ⟨4,z,m,p⟩ :: l)=(z==x) by simp[secondP]]
   go_enter Tryz.func75, Tryz.ntmps75
   go_wp2
   go_ret
   exact⟨rfl,rfl⟩
  ·have k4':(k==4)=false:=beq_eq_false_iff_ne.2 k4
   rw[show secondP x (t :: ⟨k,z,m,p⟩ :: l)=false by simp[secondP,k4]]
   go_enter Tryz.func75, Tryz.ntmps75
   go_wp2
   go_ret
   exact⟨rfl,rfl⟩
theorem KeepR.drewN {b:Nat}{w w':World}(h:KeepR b w w')(n:Nat):KeepR b w (w'.drewN n):=⟨h.os,h.tape,h.output,h.size,h.block⟩
theorem RdB.drewN {b:Nat}{E:Env}{w:World}{l:List Tok}{hd:Bool}(h:RdB b E w l hd)(n:Nat):RdB b E (w.drewN n) l hd:=by
 obtain⟨h0,v,h1,h2⟩:=h
 exact⟨h0,v,h1,h2.keep ((KeepR.refl b w).drewN n)⟩
theorem headT_cons (t:Tok)(l:List Tok):headT (t :: l)=t:=rfl
theorem name_c (b:Nat)(E:Env)(l:List Tok)(hd:Bool)(w:World)(h:RdB b E w l hd):Calls Tryz.prog 47 #[rp b] w fun e w'=>KeepR b w w'∧(if kindP l==1 then e = .returned (.tuple #[.string ⟨(textP l).toArray⟩,.int .i64 (placeP l:Int)])∧RdB b E w' l.tail hd else e=failed (atP E.len l)):=by
 have HP:=Lib.hid (peek_c b E l hd w h)
 have HF:=Lib.hid (fun w1 h1=>fail_c b E l hd w1 h1)
 have HR:=Lib.hid h
 cases l with
 |nil=>
  simp only[show (kindP []==1)=false from rfl,Bool.false_eq_true,if_false]
  generalize atP E.len []=p at *
  go_enter Tryz.func47, Tryz.ntmps47
  go_wp2_with (first|(go_at_call 32;refine HP.out.mono ?_;rintro e w1 ⟨rfl,hB⟩)|(go_at_call 33;refine(HF.out _ (HR.out.keep (hB.alloc hB.size _))).mono ?_;rintro e w3 ⟨rfl,rfl⟩))
  exact⟨rfl,KeepR.of_below (hB.alloc hB.size _) (Nat.le_refl _),rfl⟩
 |cons t l=>
  obtain⟨k,z,m,q⟩:=t
  rw[headT_cons] at HP
  by_cases k1:k=1
  ·subst k1
   simp only[show (kindP (⟨1,z,m,q⟩ :: l)==1)=true from rfl,if_true]
   go_enter Tryz.func47, Tryz.ntmps47
   go_wp2_with (first|(go_at_call 32;refine HP.out.mono ?_;rintro e w1 ⟨rfl,hB⟩;obtain⟨g,o,_,c,rfl,hc0,hf0,hnc,hcm,hset⟩:=(HR.out.keep (hB.alloc hB.size (.cells #[.int .i64 1,.string ⟨z.toArray⟩,.int .u64 m,.int .i64 (q:Int)] 46))).cons;have hset:=Lib.hid hset))
   all_goals
    go_quiet (fail)
    go_wp2
    go_ret2
    refine⟨((KeepR.of_below (hB.alloc hB.size _) (Nat.le_refl _)).trans (KeepR.set _ _ _)).drewN _,rfl,RdB.drewN ?_ _⟩
    first|exact hset.out.1 (by assumption)|exact hset.out.2 (by assumption)
  ·have k1':(k==1)=false:=beq_eq_false_iff_ne.2 k1
   have k1'':(k != 1)=true:=by rw[bne,k1'];rfl
   simp only[show (kindP (⟨k,z,m,q⟩ :: l)==1)=false from k1',Bool.false_eq_true,if_false]
   generalize atP E.len _=p at *
   go_enter Tryz.func47, Tryz.ntmps47
   go_wp2_with (first|(go_at_call 32;refine HP.out.mono ?_;rintro e w1 ⟨rfl,hB⟩)|(go_at_call 33;refine(HF.out _ (HR.out.keep (hB.alloc hB.size _))).mono ?_;rintro e w3 ⟨rfl,rfl⟩))
   exact⟨rfl,KeepR.of_below (hB.alloc hB.size _) (Nat.le_refl _),rfl⟩
theorem peek_at (b:Nat)(E:Env)(l:List Tok)(hd:Bool)(w:World)(h:RdB b E w l hd){k:Int}{z:List UInt8}{m:Int}{q:Nat}(hh:headT l=⟨k,z,m,q⟩):Calls Tryz.prog 32 #[rp b] w fun e w'=>e = .returned (.agg #[.int .i64 k,.string ⟨z.toArray⟩,.int .u64 m,.int .i64 (q:Int)])∧Below w.heap.size w w':=by
 have:=peek_c b E l hd w h
 rw[hh] at this
 exact this
theorem ret_none {fn:Func}{R:Ending→World→Prop}{tmps:Array Value}{W:World}(h:fn.results = #[])(hR:R (.returned (.tuple #[])) W):bodyPost Tryz.prog fn R .ret ⟨tmps,[]⟩ W:=
 bodyPost_ret_by (by simp[results,h]) rfl hR
theorem end_none {fn:Func}{R:Ending→World→Prop}{tmps:Array Value}{W:World}(h:fn.results = #[])(hR:R (.returned (.tuple #[])) W):bodyPost Tryz.prog fn R .normal ⟨tmps,[]⟩ W:=
 ⟨rfl,.tuple #[],by simp[results,h],hR⟩
theorem field_tok (v0 v1 v2 v3:Value):∀ W,(Instr.field 46 (.agg #[v0,v1,v2,v3]) 0).run Tryz.prog W = .ok v0 W:=fun _=>by kernel_rfl
set_option maxRecDepth 20000 in
theorem semi_c (b:Nat)(E:Env)(l:List Tok)(hd:Bool)(w:World)(x:List UInt8)(h:RdB b E w l hd):Calls Tryz.prog 55 #[rp b,.string ⟨x.toArray⟩] w fun e w'=>KeepR b w w'∧(if kindP l==5 then e = .returned (.tuple #[])∧RdB b E w' l.tail hd else if isP x l then e = .returned (.tuple #[])∧RdB b E w' l hd else e=failed (atP E.len l)):=by
 have HI:=Lib.hid (fun w1 h1=>is_c b E l hd w1 x h1)
 have HF:=Lib.hid (fun w1 h1=>fail_c b E l hd w1 h1)
 have HR:=Lib.hid h
 by_cases k5:kindP l=5
 ·cases l with
  |nil=>exact absurd k5 (by decide)
  |cons t l=>
   obtain⟨k,z,m,q⟩:=t
   obtain rfl:k=5:=k5
   have HP:=Lib.hid (peek_at b E _ hd w h (headT_cons _ l))
   have hfl:=field_tok (.int .i64 5) (.string ⟨z.toArray⟩) (.int .u64 m) (.int .i64 (q:Int))
   simp only[show (kindP (⟨5,z,m,q⟩ :: l)==5)=true from rfl,if_true]
   go_enter Tryz.func55, Tryz.ntmps55
   go_wp2_with (first|(go_at_call 32;refine HP.out.mono ?_;rintro e w1 ⟨rfl,hB⟩;obtain⟨g,o,_,c,rfl,hc0,hf0,hnc,hcm,hset⟩:=(HR.out.keep hB).cons;have hset:=Lib.hid hset))
   all_goals
    first|refine ret_none (show Tryz.f55.results = #[] from rfl) ?_|refine end_none (show Tryz.f55.results = #[] from rfl) ?_
    refine⟨(KeepR.of_below hB (Nat.le_refl _)).trans (KeepR.set _ _ _),rfl,?_⟩
    first|exact hset.out.1 (by assumption)|exact hset.out.2 (by assumption)
 ·have k5':(kindP l==5)=false:=beq_eq_false_iff_ne.2 k5
  have k5h:((headT l).kind==5)=false:=by rw[←kindP_head];exact k5'
  simp only[k5',Bool.false_eq_true,if_false]
  rcases hh:headT l with ⟨k,z,m,q⟩
  have HP:=Lib.hid (peek_at b E _ hd w h hh)
  have hfl:=field_tok (.int .i64 k) (.string ⟨z.toArray⟩) (.int .u64 m) (.int .i64 (q:Int))
  rw[hh] at k5h
  dsimp only at k5h
  clear hh
  cases hi:isP x l with
  |true=>
   rw[hi] at HI
   simp only[if_true]
   clear k5 k5'
   go_enter Tryz.func55, Tryz.ntmps55
   go_wp2_with (first|(go_at_call 32;refine HP.out.mono ?_;rintro e w1 ⟨rfl,hB⟩)|(go_at_call 44;refine(HI.out _ (HR.out.keep hB)).mono ?_;rintro e w2 ⟨rfl,hB2⟩))
   first|refine ret_none (show Tryz.f55.results = #[] from rfl) ?_|refine end_none (show Tryz.f55.results = #[] from rfl) ?_
   have hk:=hB.trans (hB2.mono hB.size)
   exact⟨KeepR.of_below hk (Nat.le_refl _),rfl,HR.out.keep hk⟩
  |false=>
   rw[hi] at HI
   simp only[Bool.false_eq_true,if_false]
   clear k5 k5'
   generalize atP E.len l=p at *
   go_enter Tryz.func55, Tryz.ntmps55
   go_wp2_with (first|(go_at_call 32;refine HP.out.mono ?_;rintro e w1 ⟨rfl,hB⟩)|(go_at_call 44;refine(HI.out _ (HR.out.keep hB)).mono ?_;rintro e w2 ⟨rfl,hB2⟩;have hk:=hB.trans (hB2.mono hB.size))|(go_at_call 33;refine(HF.out _ (HR.out.keep hk)).mono ?_;rintro e w3 ⟨rfl,rfl⟩))
   exact⟨rfl,KeepR.of_below hk (Nat.le_refl _),rfl⟩
def behindS (x:List UInt8)(l:List Tok):List Tok:=if kindP l==5&&secondP x l then l.tail else l
theorem shutP_eq (E_:Nat)(x:List UInt8)(l:List Tok):shutP E_ x l=wantP E_ x (behindS x l):=rfl
set_option maxRecDepth 20000 in
theorem shut_c (b:Nat)(E:Env)(l:List Tok)(hd:Bool)(w:World)(x:List UInt8)(h:RdB b E w l hd):Calls Tryz.prog 99 #[rp b,.string ⟨x.toArray⟩] w fun e w'=>KeepR b w w'∧(if isP x (behindS x l) then e = .returned (.tuple #[])∧RdB b E w' (behindS x l).tail hd else e=failed (atP E.len (behindS x l))):=by
 have HS:=Lib.hid (fun w1 h1=>second_c b E l hd w1 x h1)
 have HR:=Lib.hid h
 generalize hl1:behindS x l=l1
 have HW:=Lib.hid (fun w1 h1=>want_c b E l1 hd w1 x h1)
 cases hi:isP x l1 with
 |true=>
  rw[hi] at HW
  simp only[if_true] at HW ⊢
  clear hi
  by_cases k5:kindP l=5
  ·cases l with
   |nil=>exact absurd k5 (by decide)
   |cons t l=>
    obtain⟨k,z,m,q⟩:=t
    obtain rfl:k=5:=k5
    have HP:=Lib.hid (peek_at b E _ hd w h (headT_cons _ l))
    cases hs:secondP x (⟨5,z,m,q⟩ :: l) with
    |true=>
     rw[hs] at HS
     obtain rfl:l=l1:=by rw[←hl1];unfold behindS;rw[hs];rfl
     clear hs hl1
     go_enter Tryz.func99, Tryz.ntmps99
     go_wp2_with (first|(go_at_call 32;refine HP.out.mono ?_;rintro e w1 ⟨rfl,hB⟩)|(go_at_call 75;refine(HS.out _ (HR.out.keep (hB.alloc hB.size _))).mono ?_;rintro e w2 ⟨rfl,rfl⟩;obtain⟨g,o,_,c,rfl,hc0,hf0,hnc,hcm,hset⟩:=(HR.out.keep (hB.alloc hB.size (.cells #[.int .i64 5,.string ⟨z.toArray⟩,.int .u64 m,.int .i64 (q:Int)] 46))).cons;have hset:=Lib.hid hset)|(go_at_call 68;refine(HW.out _ (by first|exact hset.out.1 (by assumption)|exact hset.out.2 (by assumption))).mono ?_;rintro e w3 ⟨hk3,rfl,hr3⟩))
     all_goals
      first|refine ret_none (show Tryz.f99.results = #[] from rfl) ?_|refine end_none (show Tryz.f99.results = #[] from rfl) ?_
      exact⟨((KeepR.of_below (hB.alloc hB.size _) (Nat.le_refl _)).trans (KeepR.set _ _ _)).trans hk3,rfl,hr3⟩
    |false=>
     rw[hs] at HS
     obtain rfl:⟨5,z,m,q⟩ :: l=l1:=by rw[←hl1];unfold behindS;rw[hs];rfl
     clear hs hl1
     go_enter Tryz.func99, Tryz.ntmps99
     go_wp2_with (first|(go_at_call 32;refine HP.out.mono ?_;rintro e w1 ⟨rfl,hB⟩)|(go_at_call 75;refine(HS.out _ (HR.out.keep (hB.alloc hB.size _))).mono ?_;rintro e w2 ⟨rfl,rfl⟩)|(go_at_call 68;refine(HW.out _ (HR.out.keep (hB.alloc hB.size _))).mono ?_;rintro e w3 ⟨hk3,rfl,hr3⟩))
     first|refine ret_none (show Tryz.f99.results = #[] from rfl) ?_|refine end_none (show Tryz.f99.results = #[] from rfl) ?_
     exact⟨(KeepR.of_below (hB.alloc hB.size _) (Nat.le_refl _)).trans hk3,rfl,hr3⟩
  ·have k5h:((headT l).kind==5)=false:=by rw[←kindP_head];exact beq_eq_false_iff_ne.2 k5
   obtain rfl:l=l1:=by rw[←hl1];unfold behindS;rw[show (kindP l==5)=false from beq_eq_false_iff_ne.2 k5];rfl
   clear hl1 k5
   rcases hh:headT l with ⟨k,z,m,q⟩
   have HP:=Lib.hid (peek_at b E _ hd w h hh)
   rw[hh] at k5h
   dsimp only at k5h
   clear hh
   go_enter Tryz.func99, Tryz.ntmps99
   go_wp2_with (first|(go_at_call 32;refine HP.out.mono ?_;rintro e w1 ⟨rfl,hB⟩)|(go_at_call 68;refine(HW.out _ (HR.out.keep (hB.alloc hB.size _))).mono ?_;rintro e w3 ⟨hk3,rfl,hr3⟩))
   first|refine ret_none (show Tryz.f99.results = #[] from rfl) ?_|refine end_none (show Tryz.f99.results = #[] from rfl) ?_
   exact⟨(KeepR.of_below (hB.alloc hB.size _) (Nat.le_refl _)).trans hk3,rfl,hr3⟩
 |false=>
  rw[hi] at HW
  simp only[Bool.false_eq_true,if_false] at HW ⊢
  clear hi
  by_cases k5:kindP l=5
  ·cases l with
   |nil=>exact absurd k5 (by decide)
   |cons t l=>
    obtain⟨k,z,m,q⟩:=t
    obtain rfl:k=5:=k5
    have HP:=Lib.hid (peek_at b E _ hd w h (headT_cons _ l))
    cases hs:secondP x (⟨5,z,m,q⟩ :: l) with
    |true=>
     rw[hs] at HS
     obtain rfl:l=l1:=by rw[←hl1];unfold behindS;rw[hs];rfl
     clear hs hl1
     generalize atP E.len l=pl at *
     go_enter Tryz.func99, Tryz.ntmps99
     go_wp2_with (first|(go_at_call 32;refine HP.out.mono ?_;rintro e w1 ⟨rfl,hB⟩)|(go_at_call 75;refine(HS.out _ (HR.out.keep (hB.alloc hB.size _))).mono ?_;rintro e w2 ⟨rfl,rfl⟩;obtain⟨g,o,_,c,rfl,hc0,hf0,hnc,hcm,hset⟩:=(HR.out.keep (hB.alloc hB.size (.cells #[.int .i64 5,.string ⟨z.toArray⟩,.int .u64 m,.int .i64 (q:Int)] 46))).cons;have hset:=Lib.hid hset)|(go_at_call 68;refine(HW.out _ (by first|exact hset.out.1 (by assumption)|exact hset.out.2 (by assumption))).mono ?_;rintro e w3 ⟨hk3,rfl⟩))
     all_goals exact⟨rfl,((KeepR.of_below (hB.alloc hB.size _) (Nat.le_refl _)).trans (KeepR.set _ _ _)).trans hk3,rfl⟩
    |false=>
     rw[hs] at HS
     obtain rfl:⟨5,z,m,q⟩ :: l=l1:=by rw[←hl1];unfold behindS;rw[hs];rfl
     clear hs hl1
     generalize atP E.len _=pl at *
     go_enter Tryz.func99, Tryz.ntmps99
     go_wp2_with (first|(go_at_call 32;refine HP.out.mono ?_;rintro e w1 ⟨rfl,hB⟩)|(go_at_call 75;refine(HS.out _ (HR.out.keep (hB.alloc hB.size _))).mono ?_;rintro e w2 ⟨rfl,rfl⟩)|(go_at_call 68;refine(HW.out _ (HR.out.keep (hB.alloc hB.size _))).mono ?_;rintro e w3 ⟨hk3,rfl⟩))
     exact⟨rfl,(KeepR.of_below (hB.alloc hB.size _) (Nat.le_refl _)).trans hk3,rfl⟩
  ·have k5h:((headT l).kind==5)=false:=by rw[←kindP_head];exact beq_eq_false_iff_ne.2 k5
   obtain rfl:l=l1:=by rw[←hl1];unfold behindS;rw[show (kindP l==5)=false from beq_eq_false_iff_ne.2 k5];rfl
   clear hl1 k5
   rcases hh:headT l with ⟨k,z,m,q⟩
   have HP:=Lib.hid (peek_at b E _ hd w h hh)
   rw[hh] at k5h
   dsimp only at k5h
   clear hh
   generalize atP E.len l=pl at *
   go_enter Tryz.func99, Tryz.ntmps99
   go_wp2_with (first|(go_at_call 32;refine HP.out.mono ?_;rintro e w1 ⟨rfl,hB⟩)|(go_at_call 68;refine(HW.out _ (HR.out.keep (hB.alloc hB.size _))).mono ?_;rintro e w3 ⟨hk3,rfl⟩))
   exact⟨rfl,(KeepR.of_below (hB.alloc hB.size _) (Nat.le_refl _)).trans hk3,rfl⟩
set_option maxRecDepth 20000 in
theorem begins_c (b:Nat)(E:Env)(l:List Tok)(hd:Bool)(w:World)(h:RdB b E w l hd):Calls Tryz.prog 72 #[rp b] w fun e w'=>e = .returned (.bool (beginsT l))∧Below w.heap.size w w':=by
 have HI1:=Lib.hid (fun w1 h1=>is_c b E l hd w1 wSq h1)
 have HI2:=Lib.hid (fun w1 h1=>is_c b E l hd w1 wChan h1)
 have HI3:=Lib.hid (fun w1 h1=>is_c b E l hd w1 wFunc h1)
 have HR:=Lib.hid h
 unfold beginsT
 rw[kindP_head]
 rcases hh:headT l with ⟨k,z,m,q⟩
 have HP:=Lib.hid (peek_at b E _ hd w h hh)
 have hfl:=field_tok (.int .i64 k) (.string ⟨z.toArray⟩) (.int .u64 m) (.int .i64 (q:Int))
 clear hh
 dsimp only
 unfold wSq at *
 unfold wChan at *
 unfold wFunc at *
 by_cases k1:k=1
 ·subst k1
  go_enter Tryz.func72, Tryz.ntmps72
  go_wp2_with (go_at_call 32;refine HP.out.mono ?_;rintro e w1 ⟨rfl,hB⟩)
  go_ret
  exact⟨ret_bool rfl,hB⟩
 ·have k1h:(k==1)=false:=beq_eq_false_iff_ne.2 k1
  rw[k1h]
  generalize isP [91] l=i1 at *
  generalize isP [99,104,97,110] l=i2 at *
  generalize isP [102,117,110,99] l=i3 at *
  cases i1 with
  |true=>
   go_enter Tryz.func72, Tryz.ntmps72
   go_wp2_with (first|(go_at_call 32;refine HP.out.mono ?_;rintro e w1 ⟨rfl,hB⟩)|(go_at_call 44;with_reducible refine(HI1.out _ (HR.out.keep hB)).mono ?_;rintro e w2 ⟨rfl,hB2⟩;have hk:=hB.trans (hB2.mono hB.size)))
   go_ret
   exact⟨ret_bool rfl,hk⟩
  |false=>
   cases i2 with
   |true=>
    go_enter Tryz.func72, Tryz.ntmps72
    go_wp2_with (first|(go_at_call 32;refine HP.out.mono ?_;rintro e w1 ⟨rfl,hB⟩)|(go_at_call 44;with_reducible refine(HI1.out _ (HR.out.keep hB)).mono ?_;rintro e w2 ⟨rfl,hB2⟩;have hk:=hB.trans (hB2.mono hB.size))|(go_at_call 44;with_reducible refine(HI2.out _ (HR.out.keep hk)).mono ?_;rintro e w3 ⟨rfl,hB3⟩;have hk3:=hk.trans (hB3.mono hk.size)))
    go_ret
    exact⟨ret_bool rfl,hk3⟩
   |false=>
    go_enter Tryz.func72, Tryz.ntmps72
    go_wp2_with (first|(go_at_call 32;refine HP.out.mono ?_;rintro e w1 ⟨rfl,hB⟩)|(go_at_call 44;with_reducible refine(HI1.out _ (HR.out.keep hB)).mono ?_;rintro e w2 ⟨rfl,hB2⟩;have hk:=hB.trans (hB2.mono hB.size))|(go_at_call 44;with_reducible refine(HI2.out _ (HR.out.keep hk)).mono ?_;rintro e w3 ⟨rfl,hB3⟩;have hk3:=hk.trans (hB3.mono hk.size))|(go_at_call 44;with_reducible refine(HI3.out _ (HR.out.keep hk3)).mono ?_;rintro e w4 ⟨rfl,hB4⟩;have hk4:=hk3.trans (hB4.mono hk3.size)))
    go_ret
    exact⟨ret_bool (by simp),hk4⟩
structure KeepQ (b q:Nat)(w w':World):Prop where
 os:w'.os=w.os
 tape:w'.tape=w.tape
 output:w'.output=w.output
 size:w.heap.size≤w'.heap.size
 block:∀ k,k<w.heap.size→k≠b→k≠q→w'.heap[k]? = w.heap[k]?
theorem KeepR.toQ {b:Nat}{w w':World}(h:KeepR b w w')(q:Nat):KeepQ b q w w':=⟨h.os,h.tape,h.output,h.size,fun k h1 h2 _=>h.block k h1 h2⟩
theorem KeepQ.trans {b q:Nat}{u v w:World}(h:KeepQ b q u v)(k:KeepQ b q v w):KeepQ b q u w:=
 ⟨k.os.trans h.os,k.tape.trans h.tape,k.output.trans h.output,Nat.le_trans h.size k.size,fun i hi hb hq=>(k.block i (Nat.lt_of_lt_of_le hi h.size) hb hq).trans (h.block i hi hb hq)⟩
theorem KeepQ.toR {b q:Nat}{u v w:World}(h:KeepR b u v)(k:KeepQ b q v w)(hq:u.heap.size≤q):KeepR b u w:=
 ⟨k.os.trans h.os,k.tape.trans h.tape,k.output.trans h.output,Nat.le_trans h.size k.size,fun i hi hb=>(k.block i (Nat.lt_of_lt_of_le hi h.size) hb (by omega)).trans (h.block i hi hb)⟩
theorem RdB.setHead {b:Nat}{E:Env}{w:World}{l:List Tok}{hd:Bool}(h:RdB b E w l hd)(h2:Bool):RdB b E (w.setCell ⟨b,2,none⟩ (.bool h2)) l h2:=by
 obtain⟨h0,v,h1,h3⟩:=h
 exact⟨fun k hk=>(Below.heap_setCell w _ _ k (Nat.ne_of_lt hk)).trans (h0 k hk),v,set_row h1 2 _,h3.keep (KeepR.set w 2 _)⟩
set_option maxRecDepth 20000 in
theorem within_many (b:Nat)(E:Env)(l:List Tok)(hd:Bool)(w:World)(h:RdB b E w l hd)(q:Nat)(cap:Array Value)(S:World→List Tok→Prop)(F:Nat→Prop)
  (hf:∀ w1,RdB b E w1 l false→KeepR b w w1→Calls Tryz.prog 98 cap w1 fun e w2=>KeepQ b q w1 w2∧((e = .returned (.tuple #[])∧∃ l',RdB b E w2 l' false∧S w2 l')∨∃ p,e=failed p∧F p)):
  Calls Tryz.prog 69 #[rp b,.func (.func 98) #[] cap] w fun e w'=>KeepQ b q w w'∧((e = .returned (.tuple #[])∧∃ l' w2,RdB b E w' l' hd∧S w2 l'∧KeepR b w2 w')∨∃ p,e=failed p∧F p):=by
 obtain⟨a,c,h0,h1,h2,h3,h4,-⟩:=h.open_
 have HR:=Lib.hid h
 have HF:=Lib.hid hf
 clear h hf
 go_enter Tryz.func69, Tryz.ntmps69
 go_wp2_with (go_at_call 98;refine(HF.out _ (HR.out.setHead false) (KeepR.set _ _ _)).mono ?_;rintro e w2 ⟨hk,hq⟩;rcases hq with ⟨rfl,l',hr,hs⟩|⟨p,rfl,hp⟩ <;> try (obtain⟨a2,c2,g0,g1,g2,g3,g4,-⟩:=hr.open_))
 ·refine end_none (show Tryz.f69.results = #[] from rfl) ?_
  exact⟨(((KeepR.set _ _ _).toQ q).trans hk).trans ((KeepR.set _ _ _).toQ q),.inl ⟨rfl,l',w2,hr.setHead hd,hs,KeepR.set _ _ _⟩⟩
 ·exact⟨rfl,((KeepR.set _ _ _).toQ q).trans hk,.inr ⟨p,rfl,hp⟩⟩
set_option maxRecDepth 20000 in
theorem within_block (b:Nat)(E:Env)(l:List Tok)(hd:Bool)(w:World)(h:RdB b E w l hd)(q:Nat)(cap:Array Value)(S:World→List Tok→Prop)(F:Nat→Prop)
  (hf:∀ w1,RdB b E w1 l false→KeepR b w w1→Calls Tryz.prog 70 cap w1 fun e w2=>KeepQ b q w1 w2∧((e = .returned (.tuple #[])∧∃ l',RdB b E w2 l' false∧S w2 l')∨∃ p,e=failed p∧F p)):
  Calls Tryz.prog 69 #[rp b,.func (.func 70) #[] cap] w fun e w'=>KeepQ b q w w'∧((e = .returned (.tuple #[])∧∃ l' w2,RdB b E w' l' hd∧S w2 l'∧KeepR b w2 w')∨∃ p,e=failed p∧F p):=by
 obtain⟨a,c,h0,h1,h2,h3,h4,-⟩:=h.open_
 have HR:=Lib.hid h
 have HF:=Lib.hid hf
 clear h hf
 go_enter Tryz.func69, Tryz.ntmps69
 go_wp2_with (go_at_call 70;refine(HF.out _ (HR.out.setHead false) (KeepR.set _ _ _)).mono ?_;rintro e w2 ⟨hk,hq⟩;rcases hq with ⟨rfl,l',hr,hs⟩|⟨p,rfl,hp⟩ <;> try (obtain⟨a2,c2,g0,g1,g2,g3,g4,-⟩:=hr.open_))
 ·refine end_none (show Tryz.f69.results = #[] from rfl) ?_
  exact⟨(((KeepR.set _ _ _).toQ q).trans hk).trans ((KeepR.set _ _ _).toQ q),.inl ⟨rfl,l',w2,hr.setHead hd,hs,KeepR.set _ _ _⟩⟩
 ·exact⟨rfl,((KeepR.set _ _ _).toQ q).trans hk,.inr ⟨p,rfl,hp⟩⟩
def Out {α:Type}(b:Nat)(E:Env)(hd:Bool)(V:World→α→Value→Prop)(x:Except Nat (α×List Tok))(w:World)(e:Ending)(w':World):Prop:=KeepR b w w'∧match x with
 | .ok (t,l')=>∃ v,e = .returned v∧V w' t v∧RdB b E w' l' hd
 | .error p=>e=failed p
abbrev zero5:Array Value := #[.int .i64 0,.string ⟨#[]⟩,.int .u64 0,.int .i64 0,.slice none 0 0]
def Reads (b:Nat)(E:Env)(hd:Bool)(g:FuncId)(args:Array Value)(x:List Tok→R Tr):Prop:=∀ (l:List Tok) (w:World) (r:Except Nat (Tr×List Tok)),RdB b E w l hd→x l=some r→Calls Tryz.prog g args w (Out b E hd (NodeV (w.heap.size ≤ ·)) r w)
theorem row_facts {W:World}{q:Nat}{v0 v1 v2 v3 v4:Value}{t:TypeId}(h:W.heap[q]? = some (.cells #[v0,v1,v2,v3,v4] t (0,0))):W.cell? ⟨q,0,none⟩=some v0∧W.cell? ⟨q,1,none⟩=some v1∧W.cell? ⟨q,2,none⟩=some v2∧W.cell? ⟨q,3,none⟩=some v3∧W.cell? ⟨q,4,none⟩=some v4∧True:=by
 unfold World.cell?
 rw[h]
 exact⟨rfl,rfl,rfl,rfl,rfl,trivial⟩
theorem KeepR.setRow {b:Nat}{w W:World}{q:Nat}(h:KeepR b w W)(hq:w.heap.size≤q)(cs:Array Value):KeepR b w (W.setRow q cs):=
 ⟨h.os,h.tape,h.output,by rw[setRow_size];exact h.size,fun k hk hb=>(setRow_other W q k cs (by omega)).trans (h.block k hk hb)⟩
theorem KeepR.new {b:Nat}(w:World)(o:Obj):KeepR b w (w.alloc o):=KeepR.of_below ((Below.refl _ _).alloc (Nat.le_refl _) o) (Nat.le_refl _)
theorem RdB.new {b:Nat}{E:Env}{w:World}{l:List Tok}{hd:Bool}(h:RdB b E w l hd)(o:Obj):RdB b E (w.alloc o) l hd:=h.keep ((Below.refl _ _).alloc (Nat.le_refl _) o)
theorem RdB.setRow {b:Nat}{E:Env}{w:World}{l:List Tok}{hd:Bool}(h:RdB b E w l hd){q:Nat}(hq:b<q)(cs:Array Value):RdB b E (w.setRow q cs) l hd:=h.frame fun i hi=>setRow_other w q i cs (by omega)
theorem NodeV.cells {S:Nat→Prop}{w:World}{t:Tr}{v:Value}(h:NodeV S w t v):∃ v0 v1 v2 v3 v4,v = .agg #[v0,v1,v2,v3,v4]∧(#[v0,v1,v2,v3,v4]:Array Value).all (·.oneCell')=true:=by
 obtain⟨cs,rfl,hc⟩:=h
 cases t
 unfold NodeC at hc
 obtain⟨a,c,rfl,-⟩:=hc
 exact⟨_,_,_,_,_,rfl,by simp[Value.oneCell']⟩
theorem NodeV.setRow {S S':Nat→Prop}{w:World}{t:Tr}{v:Value}(h:NodeV S w t v)(hlo:∀ k,S k→S' k){q:Nat}(hq:∀ k,S k→k≠q)(cs:Array Value):NodeV S' (w.setRow q cs) t v:=h.frame (fun k hk _=>hlo k hk) fun k hk _=>setRow_other w q k cs (hq k hk)
theorem infoNode (cells:Array Value)(h:cells.size=5):((Tryz.prog).info? 26).map (·.size)=some cells.size:=by
 rw[h]
 kernel_rfl
theorem KeepR.row {b q:Nat}{w w':World}{o:Obj}(h:KeepR b w w')(hb:b<q)(hr:w.heap[q]? = some o):w'.heap[q]? = some o:=(h.block q (Array.getElem?_eq_some_iff.1 hr).1 (by omega)).trans hr
theorem NodeV.new {S S':Nat→Prop}{w:World}{t:Tr}{v:Value}(h:NodeV S w t v)(hlo:∀ k,S k→S' k)(o:Obj):NodeV S' (w.alloc o) t v:=h.frame (fun k hk _=>hlo k hk) fun k _ hk=>Below.heap_alloc w o k hk
theorem node_done {b:Nat}{E:Env}{hd:Bool}{w W:World}{t:Tr}{l':List Tok}{fn:Func}{tmps:Array Value}{q:Nat}{v0 v1 v2 v3 v4:Value}(hf:fn.results = #[.cell 2 26])(hp:tmps.getD 2 undef = .pointer (some ⟨q,0,none⟩))
  (hrow:W.heap[q]? = some (.cells #[v0,v1,v2,v3,v4] 26 (0,0))) (hk:KeepR b w W) (hv:NodeV (w.heap.size ≤ ·) W t (.agg #[v0,v1,v2,v3,v4])) (hr:RdB b E W l' hd):bodyPost Tryz.prog fn (Out b E hd (NodeV (w.heap.size ≤ ·)) (.ok (t,l')) w) .ret ⟨tmps,[]⟩ W:=
 ret_row hf Tryz.underlying26 (infoNode _ rfl) hp hrow ⟨hk,_,rfl,hv,hr⟩
theorem node_end {b:Nat}{E:Env}{hd:Bool}{w W:World}{t:Tr}{l':List Tok}{fn:Func}{a:Act}{q:Nat}{rs:Tmp}{v0 v1 v2 v3 v4:Value}(hf:fn.results = #[.cell rs 26])(hd0:a.defers=[])(hp:a.tmps.getD rs undef = .pointer (some ⟨q,0,none⟩))
  (hrow:W.heap[q]? = some (.cells #[v0,v1,v2,v3,v4] 26 (0,0))) (hk:KeepR b w W) (hv:NodeV (w.heap.size ≤ ·) W t (.agg #[v0,v1,v2,v3,v4])) (hr:RdB b E W l' hd):bodyPost Tryz.prog fn (Out b E hd (NodeV (w.heap.size ≤ ·)) (.ok (t,l')) w) .ret a W:=
 bodyPost_ret_by (results_cell_row hf a.tmps W q _ _ _ _ hp hrow Tryz.underlying26 rfl (infoNode _ rfl)) hd0 ⟨hk,_,rfl,hv,hr⟩
theorem st_new {ops:Array Oper}{rest:List Oper}{o:Oper}{a:Act}{Q:Exit→Act→World→Prop}{w2:World}{v0 v1 v2 v3 v4:Value}(hgd:o.guard=none)(x y:Operand)(ho:o.op = .store 26 x y)(hd:o.dst=none)
  (hx:a.eval x = .pointer (some ⟨w2.heap.size,0,none⟩)) (hy:a.eval y = .agg #[v0,v1,v2,v3,v4]) (hone:(#[v0,v1,v2,v3,v4]:Array Value).all (·.oneCell')=true)
  (h:∀ W1,W1.heap[w2.heap.size]? = some (.cells #[v0,v1,v2,v3,v4] 26 (0,0))→Below w2.heap.size w2 W1→wpList Tryz.prog ops Q rest a W1):wpList Tryz.prog ops Q (o :: rest) a (w2.alloc (.cells zero5 26)):=
 wpList_store_rowTo hgd 26 x y ho hd w2.heap.size #[v0,v1,v2,v3,v4] hx hy 26 zero5 (new_block w2 _) (infoNode _ rfl) rfl hone
  (h _ (setRow_heap _ _ zero5 _ 26 (0,0) (new_block w2 _)) (below_setRow ((Below.refl _ _).alloc (Nat.le_refl _) _) (Nat.le_refl _) _))
set_option maxRecDepth 20000 in
theorem any_c {b:Nat}{E:Env}{hd:Bool}{x:List Tok→R Tr}(hx:Reads b E hd 37 #[rp b,.int .i64 1] x):Reads b E hd 22 #[rp b] x:=by
 intro l w r h hr
 have hb:=h.lt
 have HR:=Lib.hid h
 have HX:=Lib.hid hx
 have HY:=Lib.hid hr
 clear h hx hr
 cases r with
 |error p=>
  go_enter Tryz.func22, Tryz.ntmps22
  go_wp2_with (go_at_call 37;refine(HX.out _ _ _ (HR.out.new (.cells zero5 26)) HY.out).mono ?_;rintro e w2 ⟨hk,rfl⟩)
  exact⟨rfl,(KeepR.new _ _).trans hk,rfl⟩
 |ok y=>
  obtain⟨t,l'⟩:=y
  go_enter Tryz.func22, Tryz.ntmps22
  go_wp2_with (first|(go_at_call 37;refine(HX.out _ _ _ (HR.out.new (.cells zero5 26)) HY.out).mono ?_;rintro e w2 ⟨hk,v,rfl,hv,hr2⟩;obtain⟨v0,v1,v2,v3,v4,rfl,hone⟩:=hv.cells;have hv:=Lib.hid hv;have hone:=Lib.hid hone;have hq:=Lib.hid ((hk.block w.heap.size (by simp) (by omega)).trans (new_block w (.cells zero5 26))))|(refine wpList_store_rowTo rfl 26 _ _ rfl rfl w.heap.size #[v0,v1,v2,v3,v4] ?hx ?hy 26 zero5 hq.out ?hi rfl hone.out ?_;(case hx=>rfl);(case hy=>rfl);(case hi=>exact infoNode _ rfl)))
  exact node_done (show Tryz.f22.results = #[.cell 2 26] from rfl) (q:=w.heap.size) (by rfl) (setRow_heap w2 w.heap.size zero5 _ 26 (0,0) hq.out) (((KeepR.new _ _).trans hk).setRow (Nat.le_refl _) _) (hv.out.setRow (fun k hk=>by simp at hk;omega) (fun k hk=>by simp at hk;omega) _) (hr2.setRow hb _)
theorem node1 {S:Nat→Prop}{g:Nat}{W:World}{t:Tr}{v0 v1 v2 v3 v4:Value}{ty:TypeId}(k:Nat)(x:List UInt8)(n p:Nat)(hg:S g)(hb:W.heap[g]? = some (.cells #[v0,v1,v2,v3,v4] ty (0,0)))(hv:NodeV S W t (.agg #[v0,v1,v2,v3,v4])):
  NodeV S W (.mk k x n p [t]) (.agg #[.int .i64 (k:Int),.string ⟨x.toArray⟩,.int .u64 (n:Int),.int .i64 (p:Int),.slice (some ⟨g,0,none⟩) 1 1]):=by
 obtain⟨cs,hcs,hc⟩:=hv
 have hcs:cs=[v0,v1,v2,v3,v4]:=by
  have:=congrArg Value.cells hcs
  exact(congrArg Array.toList this).symm
 subst hcs
 refine⟨_,rfl,?_⟩
 unfold NodeC
 refine⟨_,_,rfl,.inr ⟨g,0,rfl,hg,?_⟩⟩
 unfold NodeR
 obtain⟨c0,c1,c2,c3,c4,-⟩:=row_facts hb
 exact⟨⟨v0,v1,v2,v3,v4,c0,c1,c2,c3,c4,hc⟩,by unfold NodeR;trivial⟩
theorem leaf {S:Nat→Prop}{W:World}(k:Nat)(x:List UInt8)(n p:Nat):NodeV S W (.mk k x n p []) (.agg #[.int .i64 (k:Int),.string ⟨x.toArray⟩,.int .u64 (n:Int),.int .i64 (p:Int),.slice none 0 0]):=by
 refine⟨_,rfl,?_⟩
 unfold NodeC
 exact⟨_,_,rfl,.inl rfl⟩
set_option maxRecDepth 20000 in
theorem param_c {b f:Nat}{E:Env}{hd:Bool}(hx:Reads b E hd 48 #[rp b] (typP E.len f)):Reads b E hd 76 #[rp b] (paramP E.len (f+1)):=by
 intro l w r h hr
 have hb:=h.lt
 have HR:=Lib.hid h
 have HX:=Lib.hid hx
 have HN:=Lib.hid (name_c b E l hd (w.alloc (.cells zero5 26)) (h.new _))
 rw[paramP] at hr
 unfold nameP at hr
 cases k1:kindP l==1 with
 |false=>
  rw[k1] at hr HN
  simp only[Bool.false_eq_true,if_false] at hr HN
  cases hr
  clear k1 h hx
  generalize atP E.len l=p at *
  go_enter Tryz.func76, Tryz.ntmps76
  go_wp2_with (go_at_call 47;refine HN.out.mono ?_;rintro e w2 ⟨hk,rfl⟩)
  exact⟨rfl,(KeepR.new _ _).trans hk,rfl⟩
 |true=>
  rw[k1] at hr HN
  simp only[if_true] at hr HN
  clear k1 h hx
  generalize textP l=x at *
  generalize placeP l=p at *
  unfold ok andThen at hr
  dsimp only at hr
  cases ht:typP E.len f l.tail with
  |none=>rw[ht] at hr;cases hr
  |some y=>
   rw[ht] at hr
   have HT:=Lib.hid ht
   clear ht
   cases y with
   |error q=>
    cases hr
    go_enter Tryz.func76, Tryz.ntmps76
    go_wp2_with (first|(go_at_call 47;refine HN.out.mono ?_;rintro e w2 ⟨hk,rfl,hr2⟩)|(go_at_call 48;refine(HX.out _ _ _ hr2 HT.out).mono ?_;rintro e w3 ⟨hk3,rfl⟩))
    exact⟨rfl,((KeepR.new _ _).trans hk).trans hk3,rfl⟩
   |ok y=>
    obtain⟨t,m⟩:=y
    cases hr
    go_enter Tryz.func76, Tryz.ntmps76
    go_wp2_with (first|(go_at_call 47;refine HN.out.mono ?_;rintro e w2 ⟨hk,rfl,hr2⟩)|(go_at_call 48;refine(HX.out _ _ _ hr2 HT.out).mono ?_;rintro e w3 ⟨hk3,v,rfl,hv,hr3⟩;obtain⟨v0,v1,v2,v3,v4,rfl,hone⟩:=hv.cells;have hv:=Lib.hid hv;have hq:=Lib.hid ((KeepR.new (b:=b) w3 (.cells #[v0,v1,v2,v3,v4] 26)).row hb (hk3.row hb (hk.row hb (new_block w (.cells zero5 26)))));clear hone)|(refine wpList_store_rowTo rfl 26 _ _ rfl rfl w.heap.size #[.int .i64 5,.string ⟨x.toArray⟩,.int .u64 0,.int .i64 (p:Int),.slice (some ⟨w3.heap.size,0,none⟩) 1 1] ?hx ?hy 26 zero5 hq.out ?hi rfl (by simp[Value.oneCell']) ?_;(case hx=>rfl);(case hy=>rfl);(case hi=>exact infoNode _ rfl)))
    have hs2:w.heap.size<w2.heap.size:=Nat.lt_of_lt_of_le (by simp) hk.size
    have hs3:=hk3.size
    refine node_done (show Tryz.f76.results = #[.cell 2 26] from rfl) (q:=w.heap.size) (by rfl) (setRow_heap _ w.heap.size zero5 _ 26 (0,0) hq.out) (((((KeepR.new _ _).trans hk).trans hk3).trans (KeepR.new _ _)).setRow (Nat.le_refl _) _) ?_ ((hr3.new _).setRow hb _)
    exact node1 5 x 0 p (show w.heap.size≤w3.heap.size by omega) ((setRow_other _ _ _ _ (by omega)).trans (new_block w3 _)) ((hv.out.new (fun _ h=>h) _).setRow (fun k hk=>Nat.le_trans (Nat.le_of_lt hs2) hk) (fun k hk=>Nat.ne_of_gt (Nat.lt_of_lt_of_le hs2 hk)) _)
end Prs
end Go.Proofs.YtcbkeecabcbogaaGreatDoor
