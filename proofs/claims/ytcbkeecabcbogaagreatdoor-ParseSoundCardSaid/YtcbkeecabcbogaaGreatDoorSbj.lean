/- Contract of scan.one: the token that a text begins with, a n -/
import Derived.Test.YtcbkeecabcbogaaGreatDoorSbi
import Derived.Test.YtcbkeecabcbogaaGreatDoorSab
set_option maxRecDepth 100000
set_option maxHeartbeats 2000000
set_option linter.unusedSimpArgs false
set_option linter.unusedVariables false
namespace Go.Proofs.YtcbkeecabcbogaaGreatDoor
open Go.RowKit
theorem one_dig (s:ByteArray)(p:Nat)(w:World)(h:Laid w)(hs:s.size≤1073741824)(h0:s.size≠0)(hL:isLet (Zl (bl s)).1=false)(hD:Tv (Zl (bl s)).1=true):
  Calls Tryz.prog 63 #[.string s,.int .i64 p] w fun e w'=>e=.returned (.tuple #[Qh0 (Ym (bl s) p).1,.int .i64 ((Ym (bl s) p).2.1:Int),.int .i64 (Ym (bl s) p).2.2])∧Below w.heap.size w w':=by
 have hn:=Qa7 (bl s);rw[Xg] at hn;have hc:=Qcz s (w.alloc (.cells #[.int .i64 0,.string ⟨#[]⟩,.int .u64 0,.int .i64 0] 46)) (h.below ((Below.refl _ _).alloc (Nat.le_refl _) _)) h0;have HC:=Dh hc;clear hc;go_enter Tryz.func63,Tryz.ntmps63
 go_wp2_with fail
 refine HC.out.mono ?_;rintro e w1 ⟨rfl,hw1⟩;have kf:∀ o,w1.frozen? ⟨w.heap.size,o,none⟩=false:=fun o=>by rw[(H6 hw1).2 _ _ Ds];simp[go_sem]
 have kc:∀ o,w1.cell? ⟨w.heap.size,o,none⟩=(#[Value.int .i64 0,.string ⟨#[]⟩,.int .u64 0,.int .i64 0]:Array Value)[o]? := fun o=>by rw[(H6 hw1).1 _ _ Ds];simp[go_sem]
 have hz1:w.heap.size<w1.heap.size:=by have:=hw1.size;simp at this;omega
 have hb1:Below w.heap.size w w1:=Qb ((Below.refl _ _).alloc (Nat.le_refl _) _) hw1;have hl1:=h.below hb1;clear hw1 HC;go_wp2_with fail
 refine(run_any s _ hs).mono ?_;rintro e w2 ⟨rfl,hw2⟩;have kf2:∀ o,w2.frozen? ⟨w.heap.size,o,none⟩=false:=fun o=>by rw[(H6 hw2).2 _ _ hz1];exact kf o
 have kc2:∀ o,w2.cell? ⟨w.heap.size,o,none⟩=(#[Value.int .i64 0,.string ⟨#[]⟩,.int .u64 0,.int .i64 0]:Array Value)[o]? := fun o=>by rw[(H6 hw2).1 _ _ hz1];exact kc o
 have hz2:w.heap.size<w2.heap.size:=by have:=hw2.size;omega
 have hb2:Below w.heap.size w w2:=Qb hb1 hw2;have hl2:=hl1.below hw2;have h0':=h;clear hw2 kf kc hz1 hb1 hl1 h;have c0:=kc2 0;have c1:=kc2 1;have c2:=kc2 2;have c3:=kc2 3;have f0:=kf2 0;have f1:=kf2 1;have f2:=kf2 2;have f3:=kf2 3;simp at c0 c1 c2 c3;clear kc2 kf2;have hone:Ym (bl s) p=(⟨2,(bl s).take (Um (bl s)),(Fq ((bl s).take (Um (bl s)))).1,p⟩,Um (bl s),(Fq ((bl s).take (Um (bl s)))).2):=by
  unfold Ym;rw[hL,hD];rfl
 have hcut:=cut_to s (Um (bl s));have hnum:=number_c (s.extract 0 (Um (bl s))) w2 hl2 (by rw[←Xg,Qex,List.length_take];omega);rw[Qex] at hnum;have HNUM:=Dh hnum;have HONE:=Dh hone;have HCUT:=Dh hcut;clear hnum hone hcut h0';generalize hN:Um (bl s)=N at *;have hN1:(N:Int)≤(s.size:Int):=by omega
 clear hN;generalize Fq ((bl s).take N)=q at *;obtain⟨v,ev⟩:=q;go_wp2_with (first|(go_at_call 92;refine(Y2 _ _).mono ?_;rintro e w' ⟨rfl,rfl⟩)|(go_at_call 94;refine(Yc _ _).mono ?_;rintro e w' ⟨rfl,rfl⟩))
 refine HNUM.out.mono ?_;rintro e w3 ⟨rfl,hw3⟩;have d0:w3.cell? ⟨w.heap.size,0,none⟩=some (.int .i64 0):=by rw[(H6 hw3).1 _ _ hz2];exact c0
 have d1:w3.cell? ⟨w.heap.size,1,none⟩=some (.string ⟨#[]⟩):=by rw[(H6 hw3).1 _ _ hz2];exact c1
 have d2:w3.cell? ⟨w.heap.size,2,none⟩=some (.int .u64 0):=by rw[(H6 hw3).1 _ _ hz2];exact c2
 have d3:w3.cell? ⟨w.heap.size,3,none⟩=some (.int .i64 0):=by rw[(H6 hw3).1 _ _ hz2];exact c3
 have g0:w3.frozen? ⟨w.heap.size,0,none⟩=false:=by rw[(H6 hw3).2 _ _ hz2];exact f0
 have g1:w3.frozen? ⟨w.heap.size,1,none⟩=false:=by rw[(H6 hw3).2 _ _ hz2];exact f1
 have g2:w3.frozen? ⟨w.heap.size,2,none⟩=false:=by rw[(H6 hw3).2 _ _ hz2];exact f2
 have g3:w3.frozen? ⟨w.heap.size,3,none⟩=false:=by rw[(H6 hw3).2 _ _ hz2];exact f3
 have hb3:Below w.heap.size w w3:=Qb hb2 hw3;have hz3:w.heap.size<w3.heap.size:=by have:=hw3.size;omega
 clear c0 c1 c2 c3 f0 f1 f2 f3 hw3 hb2 hz2 hl2 HNUM;go_wp2
 (try simp only[Exit.inBlock,Exit.then]);refine bodyPost_ret (by(simp[results,Tryz.results63,go_sem,d0,d1,d2,d3,g0,g1,g2,g3,hz3];try rfl)) rfl ?_
 refine⟨?_,(by repeat' (first|with_reducible assumption|with_reducible exact Below.refl _ _|with_reducible refine Below.setCell ?_ ?_ _|with_reducible refine Below.alloc ?_ ?_ _|with_reducible refine Below.drew ?_|with_reducible refine Zg ?_ _|refine Qb ?_ Da|omega|(simp;omega)|(simp;done)))⟩;rw[HONE.out,HCUT.out];rfl
theorem Qrb {l:List UInt8}(h:∀ j,j<33→Qoa (Vp.getD j []) l=false):Ed l=none:=by
 unfold Ed;rw[List.find?_eq_none];intro g hg;obtain⟨j,hj,e⟩:=List.getElem_of_mem hg
 have:=h j hj;rw[List.getD_eq_getElem?_getD,List.getElem?_eq_getElem hj,Option.getD_some,e] at this;intro hx;rw[show Qoa g l=g.isPrefixOf l from rfl,hx] at this;cases this
theorem Qra {l:List UInt8}{k:Nat}(hk:k<33)(h:∀ j,j<k→Qoa (Vp.getD j []) l=false)(hy:Qoa (Vp.getD k []) l=true):Ed l=some (Vp.getD k []):=by
 unfold Ed;have hk':k<Vp.length:=hk;rw[List.find?_eq_some_iff_getElem];rw[List.getD_eq_getElem?_getD,List.getElem?_eq_getElem hk',Option.getD_some] at hy ⊢;refine⟨hy,k,hk',rfl,fun j hj=>?_⟩
 have:=h j hj;rw[List.getD_eq_getElem?_getD,List.getElem?_eq_getElem Dw,Option.getD_some] at this;simpa [Qoa] using this
theorem one_sign (s:ByteArray)(p:Nat)(w:World)(h:Laid w)(hs:s.size≤1073741824)(h0:s.size≠0)(hL:isLet (Zl (bl s)).1=false)(hD:Tv (Zl (bl s)).1=false):
  Calls Tryz.prog 63 #[.string s,.int .i64 p] w fun e w'=>e=.returned (.tuple #[Qh0 (Ym (bl s) p).1,.int .i64 ((Ym (bl s) p).2.1:Int),.int .i64 (Ym (bl s) p).2.2])∧Below w.heap.size w w':=by
 have hn:=Qa7 (bl s);rw[Xg] at hn;have hc:=Qcz s (w.alloc (.cells #[.int .i64 0,.string ⟨#[]⟩,.int .u64 0,.int .i64 0] 46)) (h.below ((Below.refl _ _).alloc (Nat.le_refl _) _)) h0;have HC:=Dh hc;clear hc;go_enter Tryz.func63,Tryz.ntmps63
 go_wp2_with fail
 refine HC.out.mono ?_;rintro e w1 ⟨rfl,hw1⟩;have kf:∀ o,w1.frozen? ⟨w.heap.size,o,none⟩=false:=fun o=>by rw[(H6 hw1).2 _ _ Ds];simp[go_sem]
 have kc:∀ o,w1.cell? ⟨w.heap.size,o,none⟩=(#[Value.int .i64 0,.string ⟨#[]⟩,.int .u64 0,.int .i64 0]:Array Value)[o]? := fun o=>by rw[(H6 hw1).1 _ _ Ds];simp[go_sem]
 have hz1:w.heap.size<w1.heap.size:=by have:=hw1.size;simp at this;omega
 have hb1:Below w.heap.size w w1:=Qb ((Below.refl _ _).alloc (Nat.le_refl _) _) hw1;have hl1:=h.below hb1;clear hw1 HC;go_wp2_with fail
 refine(run_any s _ hs).mono ?_;rintro e w2 ⟨rfl,hw2⟩;have kf2:∀ o,w2.frozen? ⟨w.heap.size,o,none⟩=false:=fun o=>by rw[(H6 hw2).2 _ _ hz1];exact kf o
 have kc2:∀ o,w2.cell? ⟨w.heap.size,o,none⟩=(#[Value.int .i64 0,.string ⟨#[]⟩,.int .u64 0,.int .i64 0]:Array Value)[o]? := fun o=>by rw[(H6 hw2).1 _ _ hz1];exact kc o
 have hz2:w.heap.size<w2.heap.size:=by have:=hw2.size;omega
 have hb2:Below w.heap.size w w2:=Qb hb1 hw2;have hl2:=hl1.below hw2;have h0':=h;clear hw2 kf kc hz1 hb1 hl1 h;have c0:=kc2 0;have c1:=kc2 1;have c2:=kc2 2;have c3:=kc2 3;have f0:=kf2 0;have f1:=kf2 1;have f2:=kf2 2;have f3:=kf2 3;simp at c0 c1 c2 c3;clear kc2 kf2;have hone:Ym (bl s) p=match Ed (bl s) with
  |some g=>(⟨if g=[59] then 5 else 4,g,0,p⟩,g.length,0)
  |none=>(⟨0,[],0,0⟩,0,4):=by
  unfold Ym;rw[hL,hD];rfl
 have HONE:=Dh hone;have hsig:=Dh sign_at;obtain⟨tt,fr,hg1⟩:=hl2.signs;clear hone h0';generalize hN:Um (bl s)=N at *;clear hN;go_wp2_with (first|(go_at_call 92;refine(Y2 _ _).mono ?_;rintro e w' ⟨rfl,rfl⟩)|(go_at_call 94;refine(Yc _ _).mono ?_;rintro e w' ⟨rfl,rfl⟩)|(refine wpList_load_row rfl 95 _ rfl 0 rfl tt _ fr _ hg1 Tryz.underlying95 rfl Dk ?_))
 clear hg1;go_loop [60] (fun i=>∃ k:Nat,k≤33∧i=.int .i64 k∧Hid (∀ j,j<k→Qoa (Vp.getD j []) (bl s)=false)) (fun i=>33-(intOf i).toNat)
 case atStart=>exact⟨0,by omega,rfl,Dh (fun j hj=>absurd hj Dw)⟩
 case round=>
  obtain⟨k,hk,rfl,HK⟩:=hrel;by_cases hlt:k<33
  ·have hlt1:(k:Int)<33:=by omega
   have hix:=hsig.out k hlt;have hpc:=fun w=>Ar s ⟨(Vp.getD k []).toArray⟩ w
   rw[Qhr] at hpc;cases hp:Qoa (Vp.getD k []) (bl s)
   ·rw[hp] at hpc;have HP:=Dh hpc
    have hnext:Hid (∀ j,j<k+1→Qoa (Vp.getD j []) (bl s)=false):=Dh (fun j hj=>by
     by_cases hjk:j=k
     ·subst hjk;exact hp
     ·exact HK.out j Dw)
    clear hpc hp;generalize Vp.getD k []=g at *;go_wp2_with (go_at_call 60;refine(HP.out _).mono ?_;rintro e w' ⟨rfl,rfl⟩)
    exact⟨⟨k+1,by omega,by go_num,hnext⟩,by simp[intOf];omega⟩
   ·rw[hp] at hpc;have HP:=Dh hpc;have hso:=Qra hlt HK.out hp;have hr:Ym (bl s) p=(⟨if Vp.getD k []=[59] then 5 else 4,Vp.getD k [],0,p⟩,(Vp.getD k []).length,0):=by rw[HONE.out,hso]
    have HR:=Dh hr;clear hpc hp hso hr;generalize Vp.getD k []=g at *;have hgl:(⟨g.toArray⟩:ByteArray).size=g.length:=by show g.toArray.size=_;simp
    by_cases hg:g=[59]
    ·have hgb:(g == [59])=true:=by simp[hg]
     have HG:=Dh hg;clear hg;go_wp2_with (go_at_call 60;refine(HP.out _).mono ?_;rintro e w' ⟨rfl,rfl⟩)
     (try simp only[Exit.inBlock,Exit.then]);refine bodyPost_ret (by(simp[results,Tryz.results63,go_sem,c0,c1,c2,c3,f0,f1,f2,f3,hz2];try rfl)) rfl ?_
     refine⟨?_,(by repeat' (first|with_reducible assumption|with_reducible exact Below.refl _ _|with_reducible refine Below.setCell ?_ ?_ _|with_reducible refine Below.alloc ?_ ?_ _|with_reducible refine Below.drew ?_|with_reducible refine Zg ?_ _|refine Qb ?_ Da|omega|(simp;omega)|(simp;done)))⟩;rw[HR.out,if_pos HG.out];rfl
    ·have hgb:(g == [59])=false:=by simpa using hg
     go_wp2_with (go_at_call 60;refine(HP.out _).mono ?_;rintro e w' ⟨rfl,rfl⟩)
     (try simp only[Exit.inBlock,Exit.then]);refine bodyPost_ret (by(simp[results,Tryz.results63,go_sem,c0,c1,c2,c3,f0,f1,f2,f3,hz2];try rfl)) rfl ?_
     refine⟨?_,(by repeat' (first|with_reducible assumption|with_reducible exact Below.refl _ _|with_reducible refine Below.setCell ?_ ?_ _|with_reducible refine Below.alloc ?_ ?_ _|with_reducible refine Below.drew ?_|with_reducible refine Zg ?_ _|refine Qb ?_ Da|omega|(simp;omega)|(simp;done)))⟩;rw[HR.out,if_neg hg];rfl
  ·obtain rfl:k=33:=by omega
   have hr:Ym (bl s) p=(⟨0,[],0,0⟩,0,4):=by rw[HONE.out,Qrb HK.out]
   have HR:=Dh hr;clear hr;go_wp2
   (try simp only[Exit.inBlock,Exit.then]);refine bodyPost_ret (by(simp[results,Tryz.results63,go_sem,c0,c1,c2,c3,f0,f1,f2,f3,hz2];try rfl)) rfl ?_
   refine⟨?_,(by repeat' (first|with_reducible assumption|with_reducible exact Below.refl _ _|with_reducible refine Below.setCell ?_ ?_ _|with_reducible refine Below.alloc ?_ ?_ _|with_reducible refine Below.drew ?_|with_reducible refine Zg ?_ _|refine Qb ?_ Da|omega|(simp;omega)|(simp;done)))⟩;rw[HR.out];rfl
theorem one_c (s:ByteArray)(p:Nat)(w:World)(h:Laid w)(hs:s.size≤1073741824)(h0:s.size≠0):
  Calls Tryz.prog 63 #[.string s,.int .i64 p] w fun e w'=>e=.returned (.tuple #[Qh0 (Ym (bl s) p).1,.int .i64 ((Ym (bl s) p).2.1:Int),.int .i64 (Ym (bl s) p).2.2])∧Below w.heap.size w w':=by
 cases hL:isLet (Zl (bl s)).1
 ·cases hD:Tv (Zl (bl s)).1
  ·exact one_sign s p w h hs h0 hL hD
  ·exact one_dig s p w h hs h0 hL hD
 ·exact one_let s p w h hs h0 hL
def Qsz (z:List UInt8):Bool:=Jq.contains z
def Qem:List ByteArray:=Jq.map fun z=>⟨z.toArray⟩
theorem Qsy (z:List UInt8):Lib.containsS Qem ⟨z.toArray⟩=Jq.contains z:=by
 rw[Bool.eq_iff_iff,Lib.containsS_iff,List.contains_iff_mem];unfold Qem;rw[List.mem_map];constructor
 ·rintro⟨y,hy,e⟩
  have:=congrArg bl e;rw[Qhr,Qhr] at this;rw[←this];exact hy
 ·intro h;exact⟨z,h,rfl⟩
theorem Qel (W:World)(n:Nat)(hn:n=W.heap.size)(t:TypeId)(x:List UInt8):
  Calls Tryz.prog 90 #[.slice (some ⟨n,0,none⟩) 8 8,.string ⟨x.toArray⟩] (W.alloc (.cells ((Jq.map fun z=>Value.string ⟨z.toArray⟩).toArray) t)) fun e w'=>e=.returned (.bool (Qsz x))∧W.alloc (.cells ((Jq.map fun z=>Value.string ⟨z.toArray⟩).toArray) t)=w':=by
 refine(Tryz.slices_Contains_string n 0 8 8 Qem ⟨x.toArray⟩ _ Dd Dd (fun j hj=>?_)).mono fun _ _ ⟨h1,h2⟩=>⟨?_,h2.symm⟩
 ·rw[Nat.zero_add,World.cell?_alloc_at _ _ n j hn];have hj':j<8:=hj;rcases j with _|_|_|_|_|_|_|_|j;all_goals first|rfl|(exfalso;omega)
 ·rw[h1,show Qem.take 8=Qem from rfl,Qsy];rfl
theorem Qm2 (t:Tok)(w:World)(h:Qgz t):
  Calls Tryz.prog 62 #[Qh0 t] w fun e w'=>e=.returned (.bool (Zw t))∧Below w.heap.size w w':=by
 unfold Qh0;obtain⟨kind,text,num,place⟩:=t;rcases h with (rfl|rfl|rfl|rfl)|⟨h1,h2⟩
 ·go_enter Tryz.func62,Tryz.ntmps62
  go_wp2
  go_ret;exact⟨rfl,(by repeat' (first|with_reducible assumption|with_reducible exact Below.refl _ _|with_reducible refine Below.setCell ?_ ?_ _|with_reducible refine Below.alloc ?_ ?_ _|with_reducible refine Below.drew ?_|with_reducible refine Zg ?_ _|refine Qb ?_ Da|omega|(simp;omega)|(simp;done)))⟩
 ·go_enter Tryz.func62,Tryz.ntmps62
  go_wp2
  go_ret;exact⟨rfl,(by repeat' (first|with_reducible assumption|with_reducible exact Below.refl _ _|with_reducible refine Below.setCell ?_ ?_ _|with_reducible refine Below.alloc ?_ ?_ _|with_reducible refine Below.drew ?_|with_reducible refine Zg ?_ _|refine Qb ?_ Da|omega|(simp;omega)|(simp;done)))⟩
 ·have hc:Zw ⟨3,text,num,place⟩=Qsz text:=by simp only[Zw];rfl
  have HC:=Dh hc;clear hc;go_enter Tryz.func62,Tryz.ntmps62
  go_wp2_with fail
  refine(Qel _ _ Ds _ text).mono ?_;rintro e w' ⟨rfl,rfl⟩;go_wp2
  go_ret;exact⟨Vq HC.out.symm,(by repeat' (first|with_reducible assumption|with_reducible exact Below.refl _ _|with_reducible refine Below.setCell ?_ ?_ _|with_reducible refine Below.alloc ?_ ?_ _|with_reducible refine Below.drew ?_|with_reducible refine Zg ?_ _|refine Qb ?_ Da|omega|(simp;omega)|(simp;done)))⟩
 ·have hc:Zw ⟨4,text,num,place⟩=Qsz text:=by simp only[Zw];rfl
  have HC:=Dh hc;clear hc;go_enter Tryz.func62,Tryz.ntmps62
  go_wp2_with fail
  refine(Qel _ _ Ds _ text).mono ?_;rintro e w' ⟨rfl,rfl⟩;go_wp2
  go_ret;exact⟨Vq HC.out.symm,(by repeat' (first|with_reducible assumption|with_reducible exact Below.refl _ _|with_reducible refine Below.setCell ?_ ?_ _|with_reducible refine Below.alloc ?_ ?_ _|with_reducible refine Below.drew ?_|with_reducible refine Zg ?_ _|refine Qb ?_ Da|omega|(simp;omega)|(simp;done)))⟩
 ·simp only at h1 h2;subst h1;have hc:Zw ⟨5,text,num,place⟩=false:=by simp only[Zw,h2];rfl
  rw[hc];clear hc h2;go_enter Tryz.func62,Tryz.ntmps62
  go_wp2
  go_ret;exact⟨rfl,(by repeat' (first|with_reducible assumption|with_reducible exact Below.refl _ _|with_reducible refine Below.setCell ?_ ?_ _|with_reducible refine Below.alloc ?_ ?_ _|with_reducible refine Below.drew ?_|with_reducible refine Zg ?_ _|refine Qb ?_ Da|omega|(simp;omega)|(simp;done)))⟩
end Go.Proofs.YtcbkeecabcbogaaGreatDoor
