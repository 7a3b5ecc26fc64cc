/- Contracts of the reference's closes and next: the token that -/
import Derived.Test.YtcbkeecabcbogaaGreatDoorSbm
import Derived.Test.YtcbkeecabcbogaaGreatDoorSbk
set_option maxRecDepth 100000
set_option maxHeartbeats 4000000
set_option linter.unusedSimpArgs false
set_option linter.unusedVariables false
namespace Go.Proofs.YtcbkeecabcbogaaGreatDoor
open Go.RowKit
theorem Qjm (zs:List (List UInt8))(w:World)(n:Nat)(hn:n=w.heap.size)(t:TypeId)(j:Nat)(h:j<zs.length):
  (w.alloc (.cells (zs.map fun z=>Value.string ⟨z.toArray⟩).toArray t)).cell? ⟨n,j,none⟩=some (.string ⟨(zs[j]).toArray⟩):=by
 subst hn;exact Js zs w _ t rfl j h
theorem En (t:Tok)(w:World):Calls Tryz.prog 25 #[Qh0 t] w fun e w'=>e=.returned (.bool (Zw t))∧Below w.heap.size w w':=by
 obtain⟨kind,text,num,place⟩:=t;unfold Qh0;by_cases k1:kind=1
 ·subst k1;rw[show Zw ⟨1,text,num,place⟩=true from rfl];go_enter Tryz.func25,Tryz.ntmps25
  go_wp2
  go_ret;exact⟨rfl,(by repeat' (first|with_reducible assumption|with_reducible exact Below.refl _ _|with_reducible refine Below.setCell ?_ ?_ _|with_reducible refine Below.alloc ?_ ?_ _|with_reducible refine Below.drew ?_|with_reducible refine Zg ?_ _|refine Qb ?_ Da|omega|(simp;omega)|(simp;done)))⟩
 ·by_cases k2:kind=2
  ·subst k2;rw[show Zw ⟨2,text,num,place⟩=true from rfl];go_enter Tryz.func25,Tryz.ntmps25
   go_wp2
   go_ret;exact⟨rfl,(by repeat' (first|with_reducible assumption|with_reducible exact Below.refl _ _|with_reducible refine Below.setCell ?_ ?_ _|with_reducible refine Below.alloc ?_ ?_ _|with_reducible refine Below.drew ?_|with_reducible refine Zg ?_ _|refine Qb ?_ Da|omega|(simp;omega)|(simp;done)))⟩
  ·have b1:(kind==1)=false:=by simpa using k1
   have b2:(kind==2)=false:=by simpa using k2
   have hR:Zw ⟨kind,text,num,place⟩=Jq.contains text:=by simp[Zw,b1,b2]
   have hI:inP Jq ⟨text.toArray⟩=Jq.contains text:=by unfold inP;rw[Qhr]
   rw[hR];clear hR k1 k2;generalize Jq.contains text=b at *;have HI:=Dh hI;clear hI;go_enter Tryz.func25,Tryz.ntmps25
   go_wp2_with fail
   refine(Fj Jq ⟨text.toArray⟩ (w.heap.size+1) 8 ((w.alloc (.cells #[.int .i64 kind,.string ⟨text.toArray⟩,.int .u64 num,.int .i64 (place:Int)] 46)).alloc (.cells (Jq.map fun z=>Value.string ⟨z.toArray⟩).toArray 9)) Dd (fun j h=>Qjm Jq (w.alloc (.cells #[.int .i64 kind,.string ⟨text.toArray⟩,.int .u64 num,.int .i64 (place:Int)] 46)) (w.heap.size+1) Ds 9 j h)).mono ?_;rintro e w2 ⟨rfl,hw2⟩;have hB2:Below w.heap.size w w2:=hw2 ▸ (by repeat' (first|with_reducible assumption|with_reducible exact Below.refl _ _|with_reducible refine Below.setCell ?_ ?_ _|with_reducible refine Below.alloc ?_ ?_ _|with_reducible refine Below.drew ?_|with_reducible refine Zg ?_ _|refine Qb ?_ Da|omega|(simp;omega)|(simp;done)));clear hw2;rw[HI.out];go_wp2
   go_ret;exact⟨rfl,hB2⟩
theorem Qdl {w w1:World}{t:TypeId}(hw1:Below (w.alloc (.cells #[.int .i64 0,.string ⟨#[]⟩,.int .u64 0,.int .i64 0] t)).heap.size (w.alloc (.cells #[.int .i64 0,.string ⟨#[]⟩,.int .u64 0,.int .i64 0] t)) w1):
  (w1.cell? ⟨w.heap.size,0,none⟩=some (.int .i64 0)∧w1.cell? ⟨w.heap.size,1,none⟩=some (.string ⟨#[]⟩)∧w1.cell? ⟨w.heap.size,2,none⟩=some (.int .u64 0)∧w1.cell? ⟨w.heap.size,3,none⟩=some (.int .i64 0))∧
  (w1.frozen? ⟨w.heap.size,0,none⟩=false∧w1.frozen? ⟨w.heap.size,1,none⟩=false∧w1.frozen? ⟨w.heap.size,2,none⟩=false∧w1.frozen? ⟨w.heap.size,3,none⟩=false)∧w.heap.size<w1.heap.size∧Below w.heap.size w w1:=by
 have kf:∀ o,w1.frozen? ⟨w.heap.size,o,none⟩=false:=fun o=>by rw[(H6 hw1).2 _ _ Ds];simp[go_sem]
 have kc:∀ o,w1.cell? ⟨w.heap.size,o,none⟩=(#[Value.int .i64 0,.string ⟨#[]⟩,.int .u64 0,.int .i64 0]:Array Value)[o]? := fun o=>by rw[(H6 hw1).1 _ _ Ds];simp[go_sem]
 exact⟨⟨kc 0,kc 1,kc 2,kc 3⟩,⟨kf 0,kf 1,kf 2,kf 3⟩,by have:=hw1.size;simp at this;omega,Qb ((Below.refl _ _).alloc (Nat.le_refl _) _) hw1⟩
def Qc3 (l:List UInt8)(p:Nat)(e:Ending):Prop:=∃ (t:Tok) (en:Nat),e=.returned (.tuple #[Qh0 t,.int .i64 (en:Int),.int .i64 (Ym l p).2.2])∧((Ym l p).2.2=0→t=(Ym l p).1∧en=p+(Ym l p).2.1)
theorem rone_dig (l:List UInt8)(p:Nat)(hL:isLet (Zl l).1=false)(hD:Tv (Zl l).1=true):Ym l p=(⟨2,l.take (Um l),(Fq (l.take (Um l))).1,p⟩,Um l,(Fq (l.take (Um l))).2):=by
 unfold Ym;rw[hL,hD];rfl
theorem rone_let (l:List UInt8)(p:Nat)(hL:isLet (Zl l).1=true):Ym l p=if 64<Um l then (⟨1,l.take (Um l),0,p⟩,Um l,6) else (⟨if isWord (l.take (Um l)) then 3 else 1,l.take (Um l),0,p⟩,Um l,0):=by
 unfold Ym;rw[hL];rfl
theorem Qro (l:List UInt8)(p:Nat)(hl:l≠[])(hL:isLet (Zl l).1=false)(hD:Tv (Zl l).1=false):Ym l p=if Hw l=[] then (⟨0,[],0,0⟩,0,4) else (⟨if Hw l=[59] then 5 else 4,Hw l,0,p⟩,(Hw l).length,0):=by
 unfold Ym;rw[hL,hD,Qrc l hl];simp only[Bool.false_eq_true,if_false];by_cases h:Hw l=[]
 ·rw[if_pos h,if_pos h]
 ·rw[if_neg h,if_neg h]
theorem Qrd (l:List UInt8):(Hw l).length≤2:=by
 unfold Hw;split
 ·rw[List.length_take];omega
 ·split
  ·rw[List.length_take];omega
  ·simp
theorem cut_at (s:ByteArray)(p q:Nat):s.extract p (p+q)=⟨(((bl s).drop p).take q).toArray⟩:=by
 apply bl_inj;rw[Gw,Qhr];congr 1;omega
theorem Qdk (s:ByteArray)(p:Nat)(w:World)(hs:s.size≤65536)(hp:p<s.size):
  Calls Tryz.prog 24 #[.string s,.int .i64 p] w fun e w'=>Qc3 ((bl s).drop p) p e∧Below w.heap.size w w':=by
 have hn:=Qa7 ((bl s).drop p);rw[List.length_drop,Xg] at hn;have hdr:(bl s).drop p=s[p]::(bl s).drop (p+1):=by
  rw[List.drop_eq_getElem_cons (by rw[Xg];exact hp)];congr 1
 have hdb:=dig_byte s[p] ((bl s).drop (p+1));have hrp:=run_pos s[p] ((bl s).drop (p+1));rw[←hdr] at hdb hrp;have hne:(bl s).drop p≠[]:=by rw[hdr];simp
 obtain⟨E,hE⟩:∃ E,E=p+Um ((bl s).drop p):=⟨_,rfl⟩;have C1:=fun w1=>Qie s p w1 Dw Dw
 rw[←hE] at C1;have hcut:s.extract p E=⟨(((bl s).drop p).take (Um ((bl s).drop p))).toArray⟩:=by rw[hE];exact cut_at s p _
 have hbl:bl (s.extract p E)=((bl s).drop p).take (Um ((bl s).drop p)):=by rw[hcut,Qhr]
 have C2:=fun w1=>Qkk (s.extract p E) w1 (by rw[←Xg,hbl,List.length_take];omega)
 have C3:=fun w1=>Qfl (s.extract p E) w1
 rw[show inP Fe (s.extract p E)=isWord (bl (s.extract p E)) from rfl] at C3;rw[hbl] at C2 C3;have C4:=Dh (fun w1=>Qrm s p w1 Dw hp);have o1:=rone_dig ((bl s).drop p) p;have o2:=rone_let ((bl s).drop p) p;have o3:=Qro ((bl s).drop p) p hne;have hsl:=Qrd ((bl s).drop p);have hb8:(s[p]).toNat<256:=(s[p]).toNat_lt;have hps:(p:Int)<(s.size:Int):=by omega
 have HCUT:=Dh hcut;clear hdr hne hcut hbl;generalize (bl s).drop p=l at *;generalize hN:Um l=N at *;generalize Hw l=g at *;generalize l.take N=tx at *;have hEs:E≤s.size:=by omega
 have hEi:(E:Int)≤(s.size:Int):=by omega
 have hEN:(E:Int)-(p:Int)=(N:Int):=by omega
 cases hD:Tv (Zl l).1
 ·cases hL:isLet (Zl l).1
  ·-- a sign
   have hN0:N=0:=by
    by_cases h:0<N
    ·have:=hrp.1 h;simp[Nk,hL,hD] at this
    ·omega
   have HO:=Dh (o3 hL hD);obtain rfl:E=p:=by omega
   have HC1:=Dh C1;clear o1 o2 o3 C1 C2 C3 hdb hrp hD hL hN HCUT hE hEN hN0 hn;go_enter Tryz.func24,Tryz.ntmps24
   go_wp2_with fail
   refine(HC1.out _).mono ?_;rintro e w1 ⟨rfl,hw1⟩;obtain⟨⟨c0,c1,c2,c3⟩,⟨f0,f1,f2,f3⟩,hz1,hb1⟩:=Qdl hw1;clear hw1 HC1;go_wp2_with fail
   refine(C4.out _).mono ?_;rintro e w2 ⟨rfl,hw2⟩;obtain⟨hwc2,hwf2⟩:=H6 hw2;replace c0:=(hwc2 _ 0 hz1).trans c0;replace c1:=(hwc2 _ 1 hz1).trans c1;replace c2:=(hwc2 _ 2 hz1).trans c2;replace c3:=(hwc2 _ 3 hz1).trans c3;replace f0:=(hwf2 _ 0 hz1).trans f0;replace f1:=(hwf2 _ 1 hz1).trans f1;replace f2:=(hwf2 _ 2 hz1).trans f2;replace f3:=(hwf2 _ 3 hz1).trans f3;have hz2:w.heap.size<w2.heap.size:=by have:=hw2.size;omega
   have hb2:Below w.heap.size w w2:=Qb hb1 hw2;clear hwc2 hwf2 hw2 hb1;clear C4;by_cases hg:g=[]
   ·subst hg;go_wp2
    (try simp only[Exit.inBlock,Exit.then]);refine bodyPost_ret (by(simp[results,Tryz.results24,go_sem,c0,c1,c2,c3,f0,f1,f2,f3,hz2];try rfl)) rfl ?_
    exact⟨⟨⟨0,[],0,0⟩,E,by rw[HO.out];rfl,fun h=>by rw[HO.out] at h;simp at h⟩,(by repeat' (first|with_reducible assumption|with_reducible exact Below.refl _ _|with_reducible refine Below.setCell ?_ ?_ _|with_reducible refine Below.alloc ?_ ?_ _|with_reducible refine Below.drew ?_|with_reducible refine Zg ?_ _|refine Qb ?_ Da|omega|(simp;omega)|(simp;done)))⟩
   ·have hge:g.isEmpty=false:=by simpa using hg
    by_cases h59:g=[59]
    ·subst h59;go_wp2
     (try simp only[Exit.inBlock,Exit.then]);refine bodyPost_ret (by(simp[results,Tryz.results24,go_sem,c0,c1,c2,c3,f0,f1,f2,f3,hz2];try rfl)) rfl ?_
     exact⟨⟨⟨5,[59],0,E⟩,E+1,by rw[HO.out];rfl,fun _=>by rw[HO.out];exact⟨rfl,rfl⟩⟩,(by repeat' (first|with_reducible assumption|with_reducible exact Below.refl _ _|with_reducible refine Below.setCell ?_ ?_ _|with_reducible refine Below.alloc ?_ ?_ _|with_reducible refine Below.drew ?_|with_reducible refine Zg ?_ _|refine Qb ?_ Da|omega|(simp;omega)|(simp;done)))⟩
    ·have hg9:(g == [59])=false:=by simpa using h59
     have HG:=Dh hg;have H5:=Dh h59;clear hg h59;go_wp2
     (try simp only[Exit.inBlock,Exit.then]);refine bodyPost_ret (by(simp[results,Tryz.results24,go_sem,c0,c1,c2,c3,f0,f1,f2,f3,hz2];try rfl)) rfl ?_
     exact⟨⟨⟨4,g,0,E⟩,E+g.length,by rw[HO.out,if_neg HG.out];rfl,fun _=>by rw[HO.out,if_neg HG.out,if_neg H5.out];exact⟨rfl,rfl⟩⟩,(by repeat' (first|with_reducible assumption|with_reducible exact Below.refl _ _|with_reducible refine Below.setCell ?_ ?_ _|with_reducible refine Below.alloc ?_ ?_ _|with_reducible refine Below.drew ?_|with_reducible refine Zg ?_ _|refine Qb ?_ Da|omega|(simp;omega)|(simp;done)))⟩
  ·-- a word
   have hN1:0<N:=hrp.2 (by simp[Nk,hL]);have HO:=Dh (o2 hL);have HC1:=Dh C1;have HC3:=Dh C3;have hx:¬ (48≤(s[p]).toNat∧(s[p]).toNat≤57):=by
    intro hh;rw[hD] at hdb
    have:=hdb.symm;simp[hh.1,hh.2] at this
   have hpE:(p:Int)<(E:Int):=by omega
   have hpE2:p<E:=by omega
   clear o1 o2 o3 C1 C2 C3 hdb hrp hD hL hN hE hN1 hn C4 hsl;have hxx:decide ((48:Int)≤((s[p]).toNat:Int))=false∨(decide ((48:Int)≤((s[p]).toNat:Int))=true∧decide (((s[p]).toNat:Int)≤57)=false):=by
    by_cases h48:48≤(s[p]).toNat
    ·exact .inr ⟨decide_eq_true Dw,decide_eq_false Dw⟩
    ·exact .inl (decide_eq_false Dw)
   clear hx hb8;rcases hxx with hx1|⟨hx1,hx2⟩;all_goals
    go_enter Tryz.func24,Tryz.ntmps24
    go_wp2_with fail
    refine(HC1.out _).mono ?_;rintro e w1 ⟨rfl,hw1⟩;obtain⟨⟨c0,c1,c2,c3⟩,⟨f0,f1,f2,f3⟩,hz1,hb1⟩:=Qdl hw1;clear hw1 HC1;by_cases h64:64<N
    ·rw[if_pos h64] at HO;have h64i:(64:Int)<(N:Int):=by omega
     have h64b:decide ((64:Int)<(N:Int))=true:=decide_eq_true h64i;clear h64;go_wp2
     (try simp only[Exit.inBlock,Exit.then]);refine bodyPost_ret (by(simp[results,Tryz.results24,go_sem,c0,c1,c2,c3,f0,f1,f2,f3,hz1];try rfl)) rfl ?_
     exact⟨⟨⟨0,[],0,0⟩,E,by rw[HO.out];rfl,fun h=>by rw[HO.out] at h;simp at h⟩,(by repeat' (first|with_reducible assumption|with_reducible exact Below.refl _ _|with_reducible refine Below.setCell ?_ ?_ _|with_reducible refine Below.alloc ?_ ?_ _|with_reducible refine Below.drew ?_|with_reducible refine Zg ?_ _|refine Qb ?_ Da|omega|(simp;omega)|(simp;done)))⟩
    ·rw[if_neg h64] at HO;have h64i:¬ (64:Int)<(N:Int):=by omega
     have h64b:decide ((64:Int)<(N:Int))=false:=decide_eq_false h64i;clear h64;cases hw:isWord tx
     ·rw[hw] at HC3 HO;go_wp2_with fail
      refine(HC3.out _).mono ?_;rintro e w2 ⟨rfl,hw2⟩;obtain⟨hwc2,hwf2⟩:=H6 hw2;replace c0:=(hwc2 _ 0 hz1).trans c0;replace c1:=(hwc2 _ 1 hz1).trans c1;replace c2:=(hwc2 _ 2 hz1).trans c2;replace c3:=(hwc2 _ 3 hz1).trans c3;replace f0:=(hwf2 _ 0 hz1).trans f0;replace f1:=(hwf2 _ 1 hz1).trans f1;replace f2:=(hwf2 _ 2 hz1).trans f2;replace f3:=(hwf2 _ 3 hz1).trans f3;have hz2:w.heap.size<w2.heap.size:=by have:=hw2.size;omega
      have hb2:Below w.heap.size w w2:=Qb hb1 hw2;clear hwc2 hwf2 hw2 hb1;go_wp2
      (try simp only[Exit.inBlock,Exit.then]);refine bodyPost_ret (by(simp[results,Tryz.results24,go_sem,c0,c1,c2,c3,f0,f1,f2,f3,hz2];try rfl)) rfl ?_
      exact⟨⟨⟨1,tx,0,p⟩,E,by rw[HO.out,HCUT.out];rfl,fun _=>by rw[HO.out];exact⟨rfl,by show E=p+N;omega⟩⟩,(by repeat' (first|with_reducible assumption|with_reducible exact Below.refl _ _|with_reducible refine Below.setCell ?_ ?_ _|with_reducible refine Below.alloc ?_ ?_ _|with_reducible refine Below.drew ?_|with_reducible refine Zg ?_ _|refine Qb ?_ Da|omega|(simp;omega)|(simp;done)))⟩
     ·rw[hw] at HC3 HO;go_wp2_with fail
      refine(HC3.out _).mono ?_;rintro e w2 ⟨rfl,hw2⟩;obtain⟨hwc2,hwf2⟩:=H6 hw2;replace c0:=(hwc2 _ 0 hz1).trans c0;replace c1:=(hwc2 _ 1 hz1).trans c1;replace c2:=(hwc2 _ 2 hz1).trans c2;replace c3:=(hwc2 _ 3 hz1).trans c3;replace f0:=(hwf2 _ 0 hz1).trans f0;replace f1:=(hwf2 _ 1 hz1).trans f1;replace f2:=(hwf2 _ 2 hz1).trans f2;replace f3:=(hwf2 _ 3 hz1).trans f3;have hz2:w.heap.size<w2.heap.size:=by have:=hw2.size;omega
      have hb2:Below w.heap.size w w2:=Qb hb1 hw2;clear hwc2 hwf2 hw2 hb1;go_wp2
      (try simp only[Exit.inBlock,Exit.then]);refine bodyPost_ret (by(simp[results,Tryz.results24,go_sem,c0,c1,c2,c3,f0,f1,f2,f3,hz2];try rfl)) rfl ?_
      exact⟨⟨⟨3,tx,0,p⟩,E,by rw[HO.out,HCUT.out];rfl,fun _=>by rw[HO.out];exact⟨rfl,by show E=p+N;omega⟩⟩,(by repeat' (first|with_reducible assumption|with_reducible exact Below.refl _ _|with_reducible refine Below.setCell ?_ ?_ _|with_reducible refine Below.alloc ?_ ?_ _|with_reducible refine Below.drew ?_|with_reducible refine Zg ?_ _|refine Qb ?_ Da|omega|(simp;omega)|(simp;done)))⟩
 ·have hL:isLet (Zl l).1=false:=by
   cases hL:isLet (Zl l).1 with
   |false=>rfl
   |true=>rw[Qk8 hL] at hD;cases hD
  have hN1:0<N:=hrp.2 (by simp[Nk,hD]);have HO:=Dh (o1 hL hD);have HC1:=Dh C1;have hx:48≤(s[p]).toNat∧(s[p]).toNat≤57:=by
   rw[hD] at hdb;simpa using hdb.symm
  have hpE:(p:Int)<(E:Int):=by omega
  have hpE2:p<E:=by omega
  have hx1:decide ((48:Int)≤((s[p]).toNat:Int))=true:=decide_eq_true Dw;have hx2:decide (((s[p]).toNat:Int)≤57)=true:=decide_eq_true Dw;have hx3:(48:Int)≤((s[p]).toNat:Int):=by omega
  have hx4:((s[p]).toNat:Int)≤57:=by omega
  generalize (Fq tx).1=n1 at *;generalize (Fq tx).2=n2 at *;have HC2:=Dh C2;clear o1 o2 o3 C1 C2 C3 hdb hrp hD hL hN hE hN1 hn C4 hsl hx hb8;go_enter Tryz.func24,Tryz.ntmps24
  go_wp2_with fail
  refine(HC1.out _).mono ?_;rintro e w1 ⟨rfl,hw1⟩;obtain⟨⟨c0,c1,c2,c3⟩,⟨f0,f1,f2,f3⟩,hz1,hb1⟩:=Qdl hw1;clear hw1 HC1;go_wp2_with fail
  refine(HC2.out _).mono ?_;rintro e w2 ⟨rfl,rfl⟩;go_wp2
  (try simp only[Exit.inBlock,Exit.then]);refine bodyPost_ret (by(simp[results,Tryz.results24,go_sem,c0,c1,c2,c3,f0,f1,f2,f3,hz1];try rfl)) rfl ?_
  exact⟨⟨⟨2,tx,n1,p⟩,E,by rw[HO.out,HCUT.out];rfl,fun _=>by rw[HO.out];exact⟨rfl,by show E=p+N;omega⟩⟩,(by repeat' (first|with_reducible assumption|with_reducible exact Below.refl _ _|with_reducible refine Below.setCell ?_ ?_ _|with_reducible refine Below.alloc ?_ ?_ _|with_reducible refine Below.drew ?_|with_reducible refine Zg ?_ _|refine Qb ?_ Da|omega|(simp;omega)|(simp;done)))⟩
def TokV (base:Nat)(R:Qpt)(v:Value)(i c:Int)(w':World):Prop:=match R with
 | .ok ts=>i=0∧c=0∧w'.ownsRow base 46 4 v ts.length (Me ts)
 | .error (p,e)=>v=.slice none 0 0∧i=p∧c=e
theorem drop_at (s:ByteArray)(j:Nat)(h:j<s.size):(bl s).drop j=s[j]::(bl s).drop (j+1):=by
 have hl:j<(bl s).length:=by rw[Xg];exact h
 rw[List.drop_eq_getElem_cons hl];rfl
theorem Qlw (b c:UInt8)(n:Int)(hn:(c.toNat:Int)=n):(((b.toNat:Nat):Int)==n)=(b==c):=by
 rw[←hn,Bool.eq_iff_iff,beq_iff_eq,beq_iff_eq];constructor
 ·intro h;exact UInt8.toNat_inj.1 Dw
 ·rintro rfl;rfl
end Go.Proofs.YtcbkeecabcbogaaGreatDoor
