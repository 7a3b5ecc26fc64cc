/- Plain laws: a fault of a text has a number that is not 0. No -/
import Derived.Test.YtcbkeecabcbogaaGreatDoorSbk
import Derived.Test.YtcbkeecabcbogaaGreatDoorSab
import Derived.Test.YtcbkeecabcbogaaGreatDoorSbh
import Derived.Test.YtcbkeecabcbogaaGreatDoorSbf
set_option maxRecDepth 100000
set_option maxHeartbeats 4000000
set_option linter.unusedSimpArgs false
set_option linter.unusedVariables false
namespace Go.Proofs.YtcbkeecabcbogaaGreatDoor
section
theorem Qjk {t:Tok}{r:Qpt}{e:Nat×Int}(h:Qer t r=.error e):r=.error e:=by
 cases r with
 |error e'=>cases h;rfl
 |ok l=>cases h
theorem lex_err:∀ (n:Nat) (l:List UInt8) (p:Nat) (opn:Bool) (cnt:Nat) (e:Nat×Int),l.length≤n→lex l p opn cnt=.error e→e.2≠0:=by
 intro n;induction n with
 |zero=>
  intro l p opn cnt e hl h;have:l=[]:=List.length_eq_zero_iff.1 Dw;subst this;rw[N9] at h;cases opn
  ·cases h
  ·simp only[if_true] at h;split at h
   ·cases h;exact(by decide:(6:Int)≠0)
   ·cases h
 |succ n ih=>
  intro l p opn cnt e hl h;cases l with
  |nil=>
   rw[N9] at h;cases opn
   ·cases h
   ·simp only[if_true] at h;split at h
    ·cases h;exact(by decide:(6:Int)≠0)
    ·cases h
  |cons b m=>
   have hm:m.length≤n:=by simpa using hl
   by_cases hb:b=10
   ·subst hb;rw[Qad] at h;cases opn
    ·exact ih m _ _ _ _ hm h
    ·simp only[if_true] at h;split at h
     ·cases h;exact(by decide:(6:Int)≠0)
     ·exact ih m _ _ _ _ hm (Qjk h)
   ·cases hk:V7 b
    ·cases hr:Ti (b::m)
     ·have hst:starts (b::m)=true:=by simp[starts,hb,hk,hr]
      rw[F9 _ _ _ _ hst] at h;split at h
      ·rename_i he;cases h;exact he
      ·rename_i he;split at h
       ·cases h;exact(by decide:(6:Int)≠0)
       ·have he':(Ym (b::m) p).2.2=0:=by simpa using he
        have hp:=one_pos (b::m) p Ds he';exact ih _ _ _ _ _ (by rw[List.length_drop];simp at hl ⊢;omega) (Qjk h)
     ·rw[Cb _ _ _ _ hr] at h;have hp:=F8 b m hb;exact ih _ _ _ _ _ (by rw[List.length_drop];simp at hl ⊢;omega) h
    ·rw[Ws b m p opn cnt hk] at h;exact ih m _ _ _ _ hm h
theorem Qff (l:List UInt8)(p:Nat)(c:Int)(h:X4 l=.error (p,c)):c≠0:=by
 unfold X4 at h;split at h
 ·cases h;exact(by decide:(6:Int)≠0)
 ·split at h
  ·cases h;exact(by decide:(3:Int)≠0)
  ·exact lex_err l.length l 0 false 0 (p,c) (Nat.le_refl _) h
end
section
open Go.RowKit
namespace Prs
structure Nj (w:World)(f:Where):Prop where
 scan:Laid w
 ops:Ops w f
theorem Nj.move {w w':World}{f:Where}(h:Nj w f)(hb:∀ k,k<w.heap.size→w'.heap[k]? = w.heap[k]?):Nj w' f:=by
 have hs:=h.scan.size;have hsz:w.heap.size≤w'.heap.size:=by
  have h1:=hb (w.heap.size-1) Dw;have h2:w.heap[w.heap.size-1]? = some (w.heap[w.heap.size-1]'Dw):=Array.getElem?_eq_getElem Dw;rw[h2] at h1
  have:=(Array.getElem?_eq_some_iff.1 h1).1;omega
 have hc:∀ b o,b<w.heap.size→w'.cell? ⟨b,o,none⟩=w.cell? ⟨b,o,none⟩:=fun b o hlt=>by
  unfold World.cell?
  rw[hb b hlt]
 refine⟨?_,?_⟩
 ·obtain⟨m,hm⟩:=h.scan.most;obtain⟨ev,hr,hev⟩:=h.scan.range;obtain⟨t,fr,hsg⟩:=h.scan.signs;refine⟨Nat.le_trans hs hsz,?_,⟨m,?_⟩,⟨ev,?_,hev⟩,⟨t,fr,?_⟩⟩
  ·obtain⟨h1,h2⟩:=h.scan.u8;refine⟨?_,?_⟩
   ·intro x hx;rw[hc _ _ (Nat.lt_of_lt_of_le Dd hs)];exact h1 x hx
   ·intro i hi;rw[hc _ _ (Nat.lt_of_lt_of_le Dd hs),hc _ _ (Nat.lt_of_lt_of_le Dd hs)];exact h2 i hi
  ·rw[hc _ _ (Nat.lt_of_lt_of_le Dd hs)];exact hm
  ·rw[hc _ _ (Nat.lt_of_lt_of_le Dd hs)];exact hr
  ·rw[hb _ (Nat.lt_of_lt_of_le Dd hs)];exact hsg
 ·refine⟨Nat.le_trans hs hsz,?_,h.ops.room,fun i z hz j x hx=>?_⟩
  ·rw[hb _ (Nat.lt_of_lt_of_le Dd hs)];exact h.ops.ops
  ·have:=h.ops.cells i z hz j x hx;rw[hc _ _ (Qsa this)];exact this
theorem Nj.below {w w':World}{f:Where}(h:Nj w f)(hb:Below w.heap.size w w'):Nj w' f:=h.move hb.block
theorem Qqy {w:World}{g:Nat}:∀ (ts:List Tok) (o:Nat),(∀ (k:Nat) (t:Tok),ts[k]? = some t→∀ (j:Nat) (v:Value),(tokL t)[j]? = some v→w.cell? ⟨g,o+k*4+j,none⟩=some v)→Qnh w g ts o
 | [],_,_=>trivial
 |t::ts,o,h=>⟨fun i v hv=>by simpa using h 0 t rfl i v hv,Qqy ts (o+4) fun k u hu j v hv=>by
   have:=h (k+1) u (by simpa using hu) j v hv;rw[show o+(k+1)*4+j=o+4+k*4+j by omega] at this
   exact this⟩
theorem tokU_of {w:World}{b:Nat}{v:Value}{ts:List Tok}(h:w.ownsRow b 46 4 v ts.length (Me ts)):Ql1 b w.heap.size w v ts:=by
 have hc:=fun g hg=>h.cells (g:=g) hg
 rcases h.2 with ⟨rfl,h0⟩|⟨g,cap,cur,rfl,hbg,hg,h1,h2,-⟩
 ·exact⟨none,0,by rw[h0],by omega,Nat.zero_le _,.inl (List.length_eq_zero_iff.1 h0)⟩
 ·refine⟨some ⟨g,0,none⟩,cap,rfl,h1,h2,.inr ⟨g,0,rfl,hbg,(Array.getElem?_eq_some_iff.1 hg).1,Qqy ts 0 fun k t ht j u hu=>?_⟩⟩;have hk:k<ts.length:=(List.getElem?_eq_some_iff.1 ht).1;have hj:j<4:=(List.getElem?_eq_some_iff.1 hu).1;have e1:=Qcy ts k hk j hj;rw[show ts[k]=t from (List.getElem?_eq_some_iff.1 ht).2] at e1
  have:=hc g rfl (k*4+j) u (e1.trans hu);rw[Lib.add_plain] at this;simpa using this
theorem tokensA (s:ByteArray)(w:World){f:Where}(h:Nj w f)(hm:s.size≤maxLen):Yk s w:=by
 refine(tokens_c s w h.scan hm).mono ?_;rintro e w' ⟨hp,hb⟩;refine⟨hb,?_⟩;unfold P6 at hp;have hbl:bl s=s.data.toList:=rfl;rw[hbl] at hp;split at hp
 ·rename_i ts hts;rw[hts];obtain⟨v,h1,h2,-⟩:=hp;exact⟨v,h1,tokU_of h2⟩
 ·rename_i p c hts;rw[hts];exact⟨Qff _ _ _ hts,hp⟩
theorem bindsC {w W:World}{f:Where}(h:Nj w f){n b:Nat}(hW:∀ k,k<w.heap.size→W.heap[k]? = w.heap[k]?)(hb:w.heap.size≤b):J4 b ⟨n,W⟩:=fun x w1 hw1=>
 binds_c f x w1 (h.move fun k hk=>(hw1 k Dw).trans (hW k hk)).ops
theorem Qr0 (s:ByteArray)(one:Bool)(fw:Nat)(what:Nat→List Tok→R Tr)(w:World){f:Where}(h:Nj w f)(hm:s.size≤maxLen)(hfw:∀ (args:Array Value) (W:World),(callFunc fw args).run Tryz.prog W=.ok (.enter fw args) W)
  (HE:∀ ts,OkL ts→ts.length≤16384→Fit (fun x _=>Xf x≤200000) (what s.size ts))
  (HX:∀ b W,J4 b ⟨s.size,W⟩→Reads b ⟨s.size,W⟩ false fw #[rp b] (what s.size)):
  ∃ r,Qcd what one s.data.toList=some r∧Calls Tryz.prog 21 #[.string s,.bool one,.func (.func fw) #[] #[]] w (Vz w r):=by
 have hs:s.data.toList.length=s.size:=rfl;have hr:∃ r,Qcd what one s.data.toList=some r:=by
  unfold Qcd;rw[hs];split
  ·exact⟨_,rfl⟩
  ·rename_i ts hts;obtain⟨h1,h2⟩:=Qj6 _ _ hts;obtain⟨y,hy,-⟩:=HE ts h1 h2;rw[hy];exact⟨_,rfl⟩
 obtain⟨r,hr⟩:=hr;refine⟨r,hr,read_c s one fw what r w hr hfw (fun w1 h1=>tokensA s w1 (h.move h1) hm) (fun b W h1 h2=>HX b W (bindsC h h1 h2)) fun ts t l hts hx=>?_⟩;obtain⟨h1,h2⟩:=Qj6 _ _ hts;obtain⟨y,hy,hG⟩:=HE ts h1 h2;rw[hx] at hy;cases hy;obtain⟨h3,h4⟩:=hG t l rfl;exact⟨fun t ht=>(h3 t ht).1,by omega⟩
def Qsu (s:List UInt8):Option (Except (Nat×Int) Tr):=Qcd (fun n=>Xj n Qcg 1 false) true s
def Bi (s:List UInt8):Option (Except (Nat×Int) Tr):=Qcd (fun n=>Jb n Qcg) false s
theorem Qob (s:ByteArray)(w:World){f:Where}(h:Nj w f)(hm:s.size≤maxLen):∃ r,Qsu s.data.toList=some r∧Calls Tryz.prog 21 #[.string s,.bool true,.func (.func 22) #[] #[]] w (Vz w r):=
 Qr0 s true 22 (fun n=>Xj n Qcg 1 false) w h hm fw_any (fun ts h1 h2=>any_end _ h1 h2) fun b W hB=>Qqp hB (by unfold Qcg;omega) false
theorem Qgx (s:ByteArray)(w:World){f:Where}(h:Nj w f)(hm:s.size≤maxLen):∃ r,Bi s.data.toList=some r∧Calls Tryz.prog 21 #[.string s,.bool false,.func (.func 27) #[] #[]] w (Vz w r):=
 Qr0 s false 27 (fun n=>Jb n Qcg) w h hm Qo7 (fun ts h1 h2=>Qkp _ h1 h2) fun b W hB=>(reader_c hB (by unfold Qcg;omega)).2.2 false
theorem Vz.row {w w':World}{r:Except (Nat×Int) Tr}{e:Ending}(h:Vz w r e w'):∃ v0 v1 v2 v3 v4 a c,e=.returned (.tuple #[.agg #[v0,v1,v2,v3,v4],.int .i64 a,.int .i64 c])∧(#[v0,v1,v2,v3,v4]:Array Value).all (·.oneCell')=true∧Below w.heap.size w w'∧
  ∀ W0 w2,(∀ k,w.heap.size≤k→k<w'.heap.size→w2.heap[k]? = w'.heap[k]?)→W0.heap.size≤w.heap.size→Below W0.heap.size W0 w2→Vz W0 r (.returned (.tuple #[.agg #[v0,v1,v2,v3,v4],.int .i64 a,.int .i64 c])) w2:=by
 unfold Vz at h;cases r with
 |ok t=>
  dsimp only at h;obtain⟨v,rfl,hv,hb⟩:=h;obtain⟨v0,v1,v2,v3,v4,rfl,hone⟩:=hv.cells;exact⟨v0,v1,v2,v3,v4,0,0,rfl,hone,hb,fun W0 w2 h1 h2 h3=>⟨_,rfl,hv.frame (fun k hk _=>Nat.le_trans h2 hk) (fun k hk hl=>h1 k hk hl),h3⟩⟩
 |error pc=>
  obtain⟨p,c⟩:=pc;obtain⟨rfl,hb⟩:=h;exact⟨_,_,_,_,_,_,_,rfl,by simp[Value.oneCell'],hb,fun W0 w2 h1 h2 h3=>⟨rfl,h3⟩⟩
theorem Qig {fn:Func}{p u v:Tmp}{ty:TypeId}{P:Program}(h:fn.results = #[.cell p ty,.tmp u,.tmp v])(tmps:Array Value)(w:World)(g:Nat)(cs:Array Value)
  (hp:tmps.getD p undef=.pointer (some ⟨g,0,none⟩)) (hl:(loadVar ty ⟨g,0,none⟩).run P w=.ok (.agg cs) w):
  (results fn tmps).run P w=.ok (.tuple #[.agg cs,tmps.getD u undef,tmps.getD v undef]) w:=by
 have hp':tmps[p]?.getD undef=.pointer (some ⟨g,0,none⟩):=by simpa using hp
 simp[results,h,hp',asAddr,hl]
theorem Ql6 {fn:Func}{p u v:Tmp}{w w1:World}{r:Except (Nat×Int) Tr}{tmps:Array Value}{v0 v1 v2 v3 v4:Value}{a c:Int}(h:fn.results = #[.cell p 26,.tmp u,.tmp v])(hp:tmps.getD p undef=.pointer (some ⟨w.heap.size,0,none⟩))(hu:tmps.getD u undef=.int .i64 a)(hv:tmps.getD v undef=.int .i64 c)
  (hB:Below (w.alloc (.cells Q3 26)).heap.size (w.alloc (.cells Q3 26)) w1)
  (hR:∀ W0 w2,(∀ k,(w.alloc (.cells Q3 26)).heap.size≤k→k<w1.heap.size→w2.heap[k]? = w1.heap[k]?)→W0.heap.size≤(w.alloc (.cells Q3 26)).heap.size→Below W0.heap.size W0 w2→Vz W0 r (.returned (.tuple #[.agg #[v0,v1,v2,v3,v4],.int .i64 a,.int .i64 c])) w2):
  bodyPost Tryz.prog fn (Vz w r) .ret ⟨tmps,[]⟩ (w1.setRow w.heap.size #[v0,v1,v2,v3,v4]):=by
 have hg:w1.heap[w.heap.size]? = some (.cells Q3 26 (0,0)):=(hB.block _ Ds).trans (Qz _ _);have hl:=run_loadVar_row (w1.setRow w.heap.size #[v0,v1,v2,v3,v4]) w.heap.size 26 26 #[v0,v1,v2,v3,v4] (0,0) _ (setRow_heap _ _ _ _ _ _ hg) (show (Tryz.prog).underlying 26=some (.struct _) from Tryz.underlying26) rfl (Xe _ rfl);refine bodyPost_ret (Qig h tmps _ _ _ hp hl) rfl ?_;rw[hu,hv];refine hR w _ (fun k hk _=>setRow_other _ _ _ _ (by simp at hk;omega)) Ds ?_;exact below_setRow (((Below.refl _ _).alloc (Nat.le_refl _) _).trans (hB.mono Ds)) (Nat.le_refl _) _
theorem Qst (s:ByteArray)(w:World){f:Where}(h:Nj w f)(hm:s.size≤maxLen):∃ r,Qsu s.data.toList=some r∧Calls Tryz.prog 9 #[.string s] w (Vz w r):=by
 obtain⟨r,hr,hc⟩:=Qob s (w.alloc (.cells Q3 26)) (h.below ((Below.refl _ _).alloc (Nat.le_refl _) _)) hm;refine⟨r,hr,?_⟩;have HC:=Dh hc;clear hc hr;go_enter Tryz.func9,Tryz.ntmps9
 go_wp2_with (first|(go_at_call 21;refine HC.out.mono ?_;intro e w1 hp;obtain⟨v0,v1,v2,v3,v4,a,c,rfl,hone,hB,hR⟩:=hp.row;clear hp;have hone:=Dh hone;have hB:=Dh hB;have hR:=Dh hR)|(refine wpList_store_rowTo rfl 26 _ _ rfl rfl w.heap.size #[v0,v1,v2,v3,v4] ?hx ?hy 26 Q3 ((hB.out.block _ Ds).trans (Qz _ _)) (Xe _ rfl) rfl hone.out ?_;(case hx=>rfl);(case hy=>rfl)))
 exact Ql6 (show Tryz.f9.results = #[.cell 2 26,.tmp 3,.tmp 4] from rfl) rfl rfl rfl hB.out hR.out
theorem Qii (s:ByteArray)(w:World){f:Where}(h:Nj w f)(hm:s.size≤maxLen):∃ r,Bi s.data.toList=some r∧Calls Tryz.prog 18 #[.string s] w (Vz w r):=by
 obtain⟨r,hr,hc⟩:=Qgx s (w.alloc (.cells Q3 26)) (h.below ((Below.refl _ _).alloc (Nat.le_refl _) _)) hm;refine⟨r,hr,?_⟩;have HC:=Dh hc;clear hc hr;go_enter Tryz.func18,Tryz.ntmps18
 go_wp2_with (first|(go_at_call 21;refine HC.out.mono ?_;intro e w1 hp;obtain⟨v0,v1,v2,v3,v4,a,c,rfl,hone,hB,hR⟩:=hp.row;clear hp;have hone:=Dh hone;have hB:=Dh hB;have hR:=Dh hR)|(refine wpList_store_rowTo rfl 26 _ _ rfl rfl w.heap.size #[v0,v1,v2,v3,v4] ?hx ?hy 26 Q3 ((hB.out.block _ Ds).trans (Qz _ _)) (Xe _ rfl) rfl hone.out ?_;(case hx=>rfl);(case hy=>rfl)))
 exact Ql6 (show Tryz.f18.results = #[.cell 2 26,.tmp 3,.tmp 4] from rfl) rfl rfl rfl hB.out hR.out
end Prs
end
section
namespace Prs
def noLD (m:List UInt8):Prop:=m=[]∨∃ c l,m=c::l∧c.toNat<128∧Nk c.toNat=false
theorem run_no {m:List UInt8}(h:noLD m):Um m=0:=by
 rcases h with rfl|⟨c,l,rfl,h1,h2⟩
 ·exact Di
 ·exact Ej c l (by rw[Jr c l h1];exact h2)
theorem Qrk {b:UInt8}{m:List UInt8}(hb:b.toNat<128)(hl:Nk b.toNat=true)(h:noLD m):Um (b::m)=1:=by
 have hd:=Jr b m hb;rw[Hl b m (by rw[hd];exact hl),hd];show 1+Um m=1
 rw[run_no h]
theorem lex_name {b:UInt8}{m:List UInt8}{p cnt:Nat}{opn:Bool}(hb:b.toNat<128)(hl:isLet (b.toNat:Int)=true)(hw:isWord [b]=false)(hs:starts (b::m)=true)(hm:noLD m)(hc:cnt<16384):lex (b::m) p opn cnt=Qer ⟨1,[b],0,p⟩ (lex m (p+1) true (cnt+1)):=by
 have hd:=Jr b m hb;have hr:=Qrk hb (by simp[Nk,hl]) hm;have ho:Ym (b::m) p=(⟨1,[b],0,p⟩,1,0):=by
  unfold Ym;rw[hd,hr];simp only[hl,if_true,show (64<1)=False from by simp,if_false,List.take_succ_cons,List.take_zero,hw,Bool.false_eq_true]
 rw[F9 _ _ _ _ hs,ho];simp only[ne_eq,not_true_eq_false,if_false];rw[if_neg Dw];rfl
theorem Qsg {b:UInt8}{m:List UInt8}{p cnt:Nat}{opn:Bool}(hb:b.toNat<128)(hl:isLet (b.toNat:Int)=false)(hdg:Tv (b.toNat:Int)=true)(hs:starts (b::m)=true)(hm:noLD m)(hc:cnt<16384)(he:(Fq [b]).2=0):lex (b::m) p opn cnt=Qer ⟨2,[b],(Fq [b]).1,p⟩ (lex m (p+1) true (cnt+1)):=by
 have hd:=Jr b m hb;have hr:=Qrk hb (by simp[Nk,hdg]) hm;have ho:Ym (b::m) p=(⟨2,[b],(Fq [b]).1,p⟩,1,0):=by
  unfold Ym;rw[hd,hr];simp only[hl,hdg,if_true,if_false,List.take_succ_cons,List.take_zero,Bool.false_eq_true,he]
 rw[F9 _ _ _ _ hs,ho];simp only[ne_eq,not_true_eq_false,if_false];rw[if_neg Dw];rfl
theorem lex_op {g m:List UInt8}{p cnt:Nat}{opn:Bool}(hg:g∈Qaw)(hc:cnt<16384):lex (g++32::m) p opn cnt=Qer ⟨4,g,0,p⟩ (lex (32::m) (p+g.length) false (cnt+1)):=by
 have key:starts (g++32::m)=true∧Ym (g++32::m) p=(⟨4,g,0,p⟩,g.length,0)∧(g++32::m).drop g.length=32::m∧Zw ⟨4,g,0,p⟩=false:=by
  simp only[Qaw,List.mem_cons,List.not_mem_nil,or_false] at hg;rcases hg with rfl|rfl|rfl|rfl|rfl|rfl|rfl|rfl|rfl|rfl|rfl|rfl|rfl|rfl|rfl|rfl|rfl|rfl|rfl;all_goals
   refine⟨rfl,?_,rfl,rfl⟩;unfold Ym;simp only[List.cons_append,List.nil_append];rw[Jr _ _ Dd];rfl
 obtain⟨k1,k2,k3,k4⟩:=key;rw[F9 _ _ _ _ k1,k2];simp only[ne_eq,not_true_eq_false,if_false];rw[if_neg Dw,k3,k4]
theorem Qc8:∀ (l:List UInt8),(∀ b∈l,b.toNat<128)→Zp l=l.length
 | [],_=>Gs
 |b::l,h=>by
  have hb:=h b List.mem_cons_self;have hd:=Jr b l hb;rw[D9 b l (by unfold broken;rw[hd];simp;omega),hd];show 1+Zp l=l.length+1
  rw[Qc8 l fun c hc=>h c (List.mem_cons_of_mem _ hc)];omega
theorem Qqw:X4 [97,32,43,32,49]=.ok [⟨1,[97],0,0⟩,⟨4,[43],0,2⟩,⟨2,[49],1,4⟩,⟨5,[],0,5⟩]:=by
 unfold X4;rw[Qc8 _ Dd,if_neg Dd,if_neg (Nat.lt_irrefl _)];have n1:∀ m:List UInt8,noLD (32::m):=fun m => .inr ⟨32,m,rfl,by decide,by decide⟩
 rw[lex_name Dd Dd Dd rfl (n1 _) Dw,Ws _ _ _ _ _ Dd,show ([43,32,49]:List UInt8)=[43]++32::[49] from rfl,lex_op Dd Dw,Ws _ _ _ _ _ Dd,
  Qsg Dd Dd Dd rfl (.inl rfl) Dw Dd,N9]
 rfl
theorem expr_a1:Qsu [97,32,43,32,49]=some (.ok (.mk 33 [43] 0 2 [.mk 30 [97] 0 0 [],.mk 31 [] 1 4 []])):=by
 unfold Qsu Qcd;rw[Qqw];kernel_rfl
end Prs
end
section
open Go.RowKit
namespace Prs
theorem Qf6 {x:List UInt8}(h:x ∉ Qaw):Z9 x=0:=by
 simp only[Qaw,List.mem_cons,List.not_mem_nil,or_false,not_or] at h;unfold Z9 opsP;simp[Fa,h]
theorem Qn0 (x:List UInt8)(w:World):Calls Tryz.prog 8 #[.string ⟨x.toArray⟩] w fun e w'=>e=.returned (.int .i64 (Z9 x:Int))∧w'=w:=by
 by_cases h:x∈Qaw
 ·simp only[Qaw,List.mem_cons,List.not_mem_nil,or_false] at h;rcases h with rfl|rfl|rfl|rfl|rfl|rfl|rfl|rfl|rfl|rfl|rfl|rfl|rfl|rfl|rfl|rfl|rfl|rfl|rfl;all_goals
   go_enter Tryz.func8,Tryz.ntmps8
   go_wp2
   go_ret;exact⟨rfl,rfl⟩
 ·rw[Qf6 h];simp only[Qaw,List.mem_cons,List.not_mem_nil,or_false,not_or] at h;obtain⟨h0,h1,h2,h3,h4,h5,h6,h7,h8,h9,h10,h11,h12,h13,h14,h15,h16,h17,h18⟩:=h;replace h0:=beq_false_of_ne h0;replace h1:=beq_false_of_ne h1;replace h2:=beq_false_of_ne h2;replace h3:=beq_false_of_ne h3;replace h4:=beq_false_of_ne h4;replace h5:=beq_false_of_ne h5;replace h6:=beq_false_of_ne h6;replace h7:=beq_false_of_ne h7;replace h8:=beq_false_of_ne h8;replace h9:=beq_false_of_ne h9;replace h10:=beq_false_of_ne h10;replace h11:=beq_false_of_ne h11;replace h12:=beq_false_of_ne h12;replace h13:=beq_false_of_ne h13;replace h14:=beq_false_of_ne h14;replace h15:=beq_false_of_ne h15;replace h16:=beq_false_of_ne h16;replace h17:=beq_false_of_ne h17;replace h18:=beq_false_of_ne h18;go_enter Tryz.func8,Tryz.ntmps8
  go_wp2
  go_ret;exact⟨rfl,rfl⟩
theorem Qte (w:World){f:Where}(h:Nj w f):Calls Tryz.prog 10 #[] w fun e w'=>e=.returned (.bool true)∧Below w.heap.size w w':=by
 obtain⟨r,hr,hc⟩:=Qst ⟨#[97,32,43,32,49]⟩ w h Dd;have hr2:Qsu [97,32,43,32,49]=some r:=hr;rw[expr_a1] at hr2;cases hr2;have HC:=Dh hc;clear hc hr;go_enter Tryz.func10,Tryz.ntmps10
 go_wp2_with (first|(go_at_call 9;refine HC.out.mono ?_;rintro e w1 ⟨v,rfl,hv,hB⟩;obtain⟨cs,rfl,hc⟩:=hv;unfold X3 at hc;obtain⟨a,cp,rfl,-⟩:=hc;have hB:=Dh hB)|((with_reducible refine Hq rfl _ _ rfl rfl ?hx ?hy ?hone ?_);(case hx=>rfl);(case hy=>rfl);(case hone=>simp[Value.oneCell']);intro W1 hrw hB1;obtain⟨e0,e1,e2,e3,e4,-⟩:=Z5 hrw;have hB1:=Dh hB1))
 go_ret;exact⟨rfl,hB.out.alloc hB.out.size _⟩
theorem Ha {w w2:World}{b o:Nat}{cs:List Value}(h:w.rangeAt b o cs)(hb:Below w.heap.size w w2):w2.rangeAt b o cs:=fun j v hv=>bc hb (h j v hv)
section
variable {P:Program} {ops:Array Oper} {Q:Exit→Act→World→Prop} {md:Region.Mode} {S:World→Prop} {fuel:Nat} {listed:Array Bool} {a:Act} {w:World}
theorem h_load (i d:Nat){op:Oper}(hi:ops[i]? = some op)(hd:op.dst=some d)(hs:Region.noSelect ops=true)(hf:Region.free md ops listed i=true)(hr:(Region.ready md ops listed).contains i=true)
  (hQ:∀ cs c a w,Q (.panic c) (a.put op.dst cs) w→Q (.panic c) a w) (hw:Region.wanted op (yielded ops a.tmps)=true) (hS:S w) (ty:TypeId) (x:Operand) (ho:op.op=.load ty x)
  (b o:Nat) (hx:a.eval x=.pointer (some ⟨b,o,none⟩)) (cs:List Value) (dsc:TypeDesc) (hSr:∀ w,S w→w.rangeAt b o cs) (hu:P.underlying ty=some dsc) (hrow:dsc.isRow=true) (hn:(P.info? ty).map (·.size)=some cs.length)
  (h:wpAnyH P md ops Q S fuel (listed.setIfInBounds i true) (a.put (some d) (.agg cs.toArray)) w):wpAnyH P md ops Q S (fuel+1) listed a w:=
 wpAnyH_take hi hs hf hr (hQ _) (yieldsIf_load_mid hw ty x ho b o hx cs dsc hSr hu hrow hn) hS (hd ▸ h)
end
def Qci (g:Nat)(kz:Int)(x:List UInt8)(nn pl:Nat)(a:Option Addr)(n cp:Nat)(wr:World):Prop:=
 wr.heap[g]? = some (.cells #[.int .i64 kz,.string ⟨x.toArray⟩,.int .u64 (nn:Int),.int .i64 (pl:Int),.slice a n cp] 26 (0,0))
theorem Qci.after {g:Nat}{kd:Int}{x:List UInt8}{nn pl:Nat}{a:Option Addr}{n cp:Nat}{wr w1:World}(h:Qci g kd x nn pl a n cp wr)(h1:Below wr.heap.size wr w1):Qci g kd x nn pl a n cp w1:=by
 unfold Qci at h ⊢;rw[h1.block _ (Array.getElem?_eq_some_iff.1 h).1,h]
theorem Qia:∀ {l m:List Tr} {i:Nat} {t u:Tr},l[i]? = some t→m[i]? = some u→Wi l m=true→Qh8 t u=true
 | [],_,_,_,_,h,_,_=>by simp at h
 |t::l,[],_,_,_,_,h,_=>by simp at h
 |t::l,u::m,0,_,_,h,h',hs=>by
  simp at h h';subst h;subst h';unfold Wi at hs;rw[Bool.and_eq_true] at hs;exact hs.1
 |t::l,u::m,i+1,_,_,h,h',hs=>by
  unfold Wi at hs;rw[Bool.and_eq_true] at hs;exact Qia (by simpa using h) (by simpa using h') hs.2
theorem Qh9:∀ {l m:List Tr},l.length=m.length→(∀ (i:Nat) (t u:Tr),l[i]? = some t→m[i]? = some u→Qh8 t u=true)→Wi l m=true
 | [],[],_,_=>rfl
 | [],_::_,h,_=>by simp at h
 |_::_,[],h,_=>by simp at h
 |t::l,u::m,h,hs=>by
  unfold Wi;rw[Bool.and_eq_true];exact⟨hs 0 t u rfl rfl,Qh9 (by simpa using h) fun i t u h1 h2=>hs (i+1) t u (by simpa using h1) (by simpa using h2)⟩
theorem Qfk:∀ {l m:List Tr},Wi l m=true→l.length=m.length
 | [],[],_=>rfl
 | [],_::_,h=>by simp[Wi] at h
 |_::_,[],h=>by simp[Wi] at h
 |t::l,u::m,h=>by
  unfold Wi at h;rw[Bool.and_eq_true] at h;simp[Qfk h.2]
theorem same_c:∀ (n:Nat) (t u:Tr) (S:Nat→Prop) (w:World) (v v':Value),Xf t≤n→n≤4611686018427387904→Zd S w t v→Zd S w u v'→Calls Tryz.prog 11 #[v,v'] w fun e w'=>e=.returned (.bool (Qh8 t u))∧Below w.heap.size w w':=by
 intro n;induction n with
 |zero=>intro t u S w v v' h;cases t;unfold Xf at h;omega
 |succ n ih=>
  intro t u S w v v' hn hbig h h';cases t with
  |mk kd x nn pl kids=>
  cases u with
  |mk kd' x' nn' pl' kids'=>
  unfold Xf at hn;unfold Qh8;obtain⟨cs,he,hc⟩:=h;unfold X3 at hc;obtain⟨a,cp,rfl,hl⟩:=hc;obtain⟨cs',he',hc'⟩:=h';unfold X3 at hc';obtain⟨a',cp',rfl,hl'⟩:=hc';subst he;subst he';have IH:=Dh ih;have HL:=Dh hl;have HL':=Dh hl';have HN:=Dh hn;have HB:=Dh hbig;clear ih hl hl' hn hbig;have fin:∀ o o',Below w.heap.size w ((w.alloc o).alloc o'):=fun o o'=>((Below.refl _ _).alloc (Nat.le_refl _) _).alloc Ds _
  by_cases h1:kd=kd'
  rotate_left
  ·have hq1:((kd:Int) != (kd':Int))=true:=by simp;omega
   rw[show (kd==kd')=false from beq_false_of_ne h1,Bool.false_and];go_enter Tryz.func11,Tryz.ntmps11
   go_wp2
   go_ret;exact⟨rfl,fin _ _⟩
  subst h1;by_cases h2:x=x'
  rotate_left
  ·have hq2:(x==x')=false:=beq_false_of_ne h2;rw[hq2,Bool.false_and,Bool.and_false];go_enter Tryz.func11,Tryz.ntmps11
   go_wp2
   go_ret;exact⟨rfl,fin _ _⟩
  subst h2;by_cases h3:nn=nn'
  rotate_left
  ·have hq3:((nn:Int) != (nn':Int))=true:=by simp;omega
   rw[show (nn==nn')=false from beq_false_of_ne h3,Bool.false_and,Bool.and_false,Bool.and_false];go_enter Tryz.func11,Tryz.ntmps11
   go_wp2
   go_ret;exact⟨rfl,fin _ _⟩
  subst h3;by_cases h4:kids.length=kids'.length
  rotate_left
  ·have hq4:((kids.length:Int) != (kids'.length:Int))=true:=by simp;omega
   rw[show Wi kids kids'=false from Bool.eq_false_iff.2 fun h=>h4 (Qfk h),Bool.and_false,Bool.and_false,Bool.and_false];go_enter Tryz.func11,Tryz.ntmps11
   go_wp2
   go_ret;exact⟨rfl,fin _ _⟩
  simp only[beq_self_eq_true,Bool.true_and];have HLE:=Dh h4;rw[←h4];clear h4 fin;go_enter Tryz.func11,Tryz.ntmps11
  go_wp2
  go_loopw [5] (fun i wr=>∃ k:Nat,k≤kids.length∧i=.int .i64 k∧Below w.heap.size w wr∧RowKit.Hid (∀ (j:Nat) (t u:Tr),j<k→kids[j]? = some t→kids'[j]? = some u→Qh8 t u=true)∧RowKit.Hid (Qci w.heap.size (kd:Int) x nn pl a kids.length cp wr)∧RowKit.Hid (Qci (w.heap.size+1) (kd:Int) x nn pl' a' kids.length cp' wr)) (fun i _=>kids.length-(intOf i).toNat)
  case atStart=>
   refine⟨0,Nat.zero_le _,rfl,((Below.refl _ _).alloc (Nat.le_refl _) _).alloc Ds _,Dh (fun j u v hj=>absurd hj (Nat.not_lt_zero _)),Dh ?_,Dh ?_⟩
   ·unfold Qci;rw[Below.heap_alloc _ _ _ Ds];exact Array.getElem?_push_size
   ·unfold Qci;exact(show (w.alloc _).heap.size=w.heap.size+1 by simp) ▸ Qz (w.alloc _) _
  case round=>
   obtain⟨k,hk,rfl,hBw,hall,hb1,hb2⟩:=hrel;have q1:wr.cell? ⟨w.heap.size,4,none⟩=some (Value.slice a kids.length cp):=by
    have:=hb1.out;unfold Qci at this;simp[World.cell?,this]
   have q2:wr.cell? ⟨w.heap.size+1,4,none⟩=some (Value.slice a' kids.length cp'):=by
    have:=hb2.out;unfold Qci at this;simp[World.cell?,this]
   by_cases hlt:k<kids.length
   ·obtain⟨g,o,rfl,hg,hR⟩:=HL.out.resolve_left (by rintro rfl;simp at hlt);obtain⟨g',o',rfl,hg',hR'⟩:=HL'.out.resolve_left (by rintro rfl;have:kids.length=0:=HLE.out;omega);have hlt':k<kids'.length:=by have:=HLE.out;omega
    obtain⟨kid,hkid⟩:∃ u,kids[k]? = some u:=⟨_,List.getElem?_eq_getElem hlt⟩;obtain⟨kid',hkid'⟩:∃ u,kids'[k]? = some u:=⟨_,List.getElem?_eq_getElem hlt'⟩;obtain⟨u0,u1,u2,u3,u4,c0,c1,c2,c3,c4,hu⟩:=hR.at_ k kid hkid;obtain⟨z0,z1,z2,z3,z4,d0,d1,d2,d3,d4,hz⟩:=hR'.at_ k kid' hkid';rw[Nat.mul_comm 5 k] at c0 c1 c2 c3 c4 d0 d1 d2 d3 d4;have hrg:=Dh (Ut (bc hBw c0) (bc hBw c1) (bc hBw c2) (bc hBw c3) (bc hBw c4));have hrg':=Dh (Ut (bc hBw d0) (bc hBw d1) (bc hBw d2) (bc hBw d3) (bc hBw d4));have hV:=Dh ((hu.agg).below hBw);have hV':=Dh ((hz.agg).below hBw);have hts:=Dh (Gt hkid);have hle:=Dh (Bf kids (k+1));have hBw:=Dh hBw;have hkid:=Dh hkid;have hkid':=Dh hkid';clear hR hR' c0 c1 c2 c3 c4 d0 d1 d2 d3 d4 hu hz hg hg';have hq1:(k:Int)<(kids.length:Int):=by omega
    have hstart:kids.length-(intOf (.int .i64 (k:Int))).toNat=kids.length-k:=by simp[intOf]
    go_wp2
    refine wp_region_held_drew (S:=fun w'=>w'.cell? ⟨w.heap.size,4,none⟩=some (Value.slice (some ⟨g,o,none⟩) kids.length cp)∧w'.cell? ⟨w.heap.size+1,4,none⟩=some (Value.slice (some ⟨g',o',none⟩) kids.length cp')∧w'.rangeAt g (o+k*5) [u0,u1,u2,u3,u4]∧w'.rangeAt g' (o'+k*5) [z0,z1,z2,z3,z4]∧Below wr.heap.size wr w') Dk ⟨q1,q2,hrg.out,hrg'.out,(Below.refl _ _).drew⟩ (fun hHeld=>?_);have hV:=Dh (hV.out.below (Below.refl wr.heap.size wr).drew);have hV':=Dh (hV'.out.below (Below.refl wr.heap.size wr).drew);have hzw:=Dh (show wr.heap.size=wr.drew.heap.size from rfl);generalize wr.drew=W0 at *;refine Ko 0 41 (v:=.pointer (some ⟨w.heap.size,4,none⟩)) rfl rfl Dk Dk Dk (fun _ _ _ h=>h) Dk Da ?_ ?_
    ·(intro w hSw;(try dsimp only at hSw);obtain⟨hS1,hS2,-,-,-⟩:=hSw;go_simp;try first|with_reducible rfl|rfl)
    try simp only[Act.put,List.setIfInBounds_toArray,List.set_cons_zero,List.set_cons_succ]
    refine Ko 1 42 (v:=.slice (some ⟨g,o,none⟩) kids.length cp) rfl rfl Dk Dk Dk (fun _ _ _ h=>h) Dk Da ?_ ?_
    ·(intro w hSw;(try dsimp only at hSw);obtain⟨hS1,hS2,-,-,-⟩:=hSw;go_simp;try first|with_reducible rfl|rfl)
    try simp only[Act.put,List.setIfInBounds_toArray,List.set_cons_zero,List.set_cons_succ]
    refine Ko 2 43 (v:=.int .i64 (k:Int)) rfl rfl Dk Dk Dk (fun _ _ _ h=>h) Dk Da ?_ ?_
    ·(intro w hSw;(try dsimp only at hSw);obtain⟨hS1,hS2,-,-,-⟩:=hSw;go_simp;try first|with_reducible rfl|rfl)
    try simp only[Act.put,List.setIfInBounds_toArray,List.set_cons_zero,List.set_cons_succ]
    refine Ko 3 44 (v:=.pointer (some ⟨g,o+k*5,none⟩)) rfl rfl Dk Dk Dk (fun _ _ _ h=>h) Dk Da ?_ ?_
    ·(intro w hSw;(try dsimp only at hSw);obtain⟨hS1,hS2,-,-,-⟩:=hSw;go_simp;try first|with_reducible rfl|rfl)
    try simp only[Act.put,List.setIfInBounds_toArray,List.set_cons_zero,List.set_cons_succ]
    refine h_load 4 45 rfl rfl Dk Dk Dk (fun _ _ _ _ h=>h) Dk Da 26 _ rfl g (o+k*5) rfl [u0,u1,u2,u3,u4] _ (fun w hSw=>hSw.2.2.1) Tryz.underlying26 rfl (Xe _ rfl) ?_;try simp only[Act.put,List.setIfInBounds_toArray,List.set_cons_zero,List.set_cons_succ]
    refine Ko 5 46 (v:=.pointer (some ⟨w.heap.size+1,4,none⟩)) rfl rfl Dk Dk Dk (fun _ _ _ h=>h) Dk Da ?_ ?_
    ·(intro w hSw;(try dsimp only at hSw);obtain⟨hS1,hS2,-,-,-⟩:=hSw;go_simp;try first|with_reducible rfl|rfl)
    try simp only[Act.put,List.setIfInBounds_toArray,List.set_cons_zero,List.set_cons_succ]
    refine Ko 6 47 (v:=.slice (some ⟨g',o',none⟩) kids.length cp') rfl rfl Dk Dk Dk (fun _ _ _ h=>h) Dk Da ?_ ?_
    ·(intro w hSw;(try dsimp only at hSw);obtain⟨hS1,hS2,-,-,-⟩:=hSw;go_simp;try first|with_reducible rfl|rfl)
    try simp only[Act.put,List.setIfInBounds_toArray,List.set_cons_zero,List.set_cons_succ]
    refine Ko 7 48 (v:=.int .i64 (k:Int)) rfl rfl Dk Dk Dk (fun _ _ _ h=>h) Dk Da ?_ ?_
    ·(intro w hSw;(try dsimp only at hSw);obtain⟨hS1,hS2,-,-,-⟩:=hSw;go_simp;try first|with_reducible rfl|rfl)
    try simp only[Act.put,List.setIfInBounds_toArray,List.set_cons_zero,List.set_cons_succ]
    refine Ko 8 49 (v:=.pointer (some ⟨g',o'+k*5,none⟩)) rfl rfl Dk Dk Dk (fun _ _ _ h=>h) Dk Da ?_ ?_
    ·(intro w hSw;(try dsimp only at hSw);obtain⟨hS1,hS2,-,-,-⟩:=hSw;go_simp;try first|with_reducible rfl|rfl)
    try simp only[Act.put,List.setIfInBounds_toArray,List.set_cons_zero,List.set_cons_succ]
    refine h_load 9 50 rfl rfl Dk Dk Dk (fun _ _ _ _ h=>h) Dk Da 26 _ rfl g' (o'+k*5) rfl [z0,z1,z2,z3,z4] _ (fun w hSw=>hSw.2.2.2.1) Tryz.underlying26 rfl (Xe _ rfl) ?_;try simp only[Act.put,List.setIfInBounds_toArray,List.set_cons_zero,List.set_cons_succ]
    refine h_call 10 51 rfl rfl Dk Dk (fun K hK=>?_);go_simp;refine(IH.out kid kid' S W0 (.agg #[u0,u1,u2,u3,u4]) (.agg #[z0,z1,z2,z3,z4]) (by have:=HN.out;have:=hts.out;have:=hle.out;omega) (by have:=HB.out;omega) hV.out hV'.out).mono ?_;rintro e W2 ⟨rfl,hB2⟩;dsimp only;obtain⟨g1,g2,g3,g4,g5⟩:=hHeld;have hk2:∀ b o v,W0.cell? ⟨b,o,none⟩=some v→W2.cell? ⟨b,o,none⟩=some v:=fun b o v hv=>bc hB2 hv
    have g1':=hk2 _ _ _ g1;have g2':=hk2 _ _ _ g2;refine hK.out _ _ ?hS (fun hHeld=>?_);case hS=>exact⟨g1',g2',Ha g3 hB2,Ha g4 hB2,g5.trans (hB2.mono g5.size)⟩
    clear hK K;try simp only[Act.put,List.setIfInBounds_toArray,List.set_cons_zero,List.set_cons_succ]
    refine Ko 11 52 (v:=.bool (!Qh8 kid kid')) rfl rfl Dk Dk Dk (fun _ _ _ h=>h) Dk Da ?_ ?_
    ·(intro w hSw;go_simp;try first|with_reducible rfl|rfl)
    try simp only[Act.put,List.setIfInBounds_toArray,List.set_cons_zero,List.set_cons_succ]
    have hBx:=Dh (hBw.out.trans ((g5.trans (hB2.mono g5.size)).mono hBw.out.size));have hBy:=Dh (g5.trans (hB2.mono g5.size));clear g1 g2 g3 g4 g5 g1' g2' hk2 hHeld hB2 hV hV' hrg hrg' q1 q2;refine⟨by kernel_rfl,?_⟩;cases hs:Qh8 kid kid' with
    |true=>
     have hs:=Dh hs;go_wp2
     have hlen:=Td kids;have hN:=HN.out;have hB:=HB.out;rw[w64 (k+1:Int) Dw Dw];refine⟨⟨k+1,by omega,by push_cast;rfl,hBx.out,Dh fun j t u hj h1 h2=>?_,Dh (hb1.out.after hBy.out),Dh (hb2.out.after hBy.out)⟩,by simp[intOf];omega⟩;rcases Nat.lt_or_ge j k with h3|h3
     ·exact hall.out j t u h3 h1 h2
     ·obtain rfl:j=k:=by omega
      rw[hkid.out] at h1;rw[hkid'.out] at h2;cases h1;cases h2;exact hs.out
    |false=>
     have hs:=Dh hs;go_wp2
     (try simp only[Exit.inBlock,Exit.then]);refine bodyPost_ret (by(simp[results,Tryz.results11,go_sem,hq1];try rfl)) rfl ?_
     refine⟨?_,hBx.out⟩;rw[show Wi kids kids'=false from Bool.eq_false_iff.2 fun h=>by have:=Qia hkid.out hkid'.out h;rw[hs.out] at this;cases this]
   ·obtain rfl:k=kids.length:=by omega
    have hq1:¬ (kids.length:Int)<(kids.length:Int):=by omega
    go_wp2
    (try simp only[Exit.inBlock,Exit.then]);refine bodyPost_ret (by(simp[results,Tryz.results11,go_sem,hq1];try rfl)) rfl ?_
    refine⟨?_,hBw⟩;rw[Qh9 HLE.out fun i t u h1 h2=>hall.out i t u (List.getElem?_eq_some_iff.1 h1).1 h1 h2]
end Prs
end
end Go.Proofs.YtcbkeecabcbogaaGreatDoor
