/- What tree.Size, tree.Depth and few come to at a tree. Steps -/
import Derived.Test.YtcbkeecabcbogaaGreatDoorSbd
import Derived.Deep.MidRow
import Derived.Test.YtcbkeecabcbogaaGreatDoorSaj
import Derived.Deep.RegionHeld3
import Derived.Recover
import Derived.Defers
set_option maxRecDepth 100000
set_option maxHeartbeats 4000000
set_option linter.unusedSimpArgs false
set_option linter.unusedVariables false
namespace Go.Proofs.YtcbkeecabcbogaaGreatDoor
section
open Go.RowKit
namespace Prs
theorem Xp.at_ {S:Nat→Prop}{w:World}{g:Nat}:∀ {l:List Tr} {o:Nat},Xp S w g l o→∀ (i:Nat) (t:Tr),l[i]? = some t→∃ v0 v1 v2 v3 v4,w.cell? ⟨g,o+5*i,none⟩=some v0∧w.cell? ⟨g,o+5*i+1,none⟩=some v1∧w.cell? ⟨g,o+5*i+2,none⟩=some v2∧w.cell? ⟨g,o+5*i+3,none⟩=some v3∧w.cell? ⟨g,o+5*i+4,none⟩=some v4∧X3 S w t [v0,v1,v2,v3,v4]
 | [],_,_,i,t,hi=>by simp at hi
 |u::l,o,h,0,t,hi=>by
  unfold Xp at h;simp at hi;subst hi;exact h.1
 |u::l,o,h,i+1,t,hi=>by
  unfold Xp at h
  have:=Xp.at_ h.2 i t (by simpa using hi);rw[show o+5*(i+1)=o+5+5*i by omega];exact this
theorem Zd.below {S:Nat→Prop}{w w':World}{t:Tr}{v:Value}(h:Zd S w t v)(hb:Below w.heap.size w w'):Zd S w' t v:=h.frame (fun _ h _=>h) fun k _ hk=>hb.block k hk
theorem Gt {l:List Tr}{i:Nat}{t:Tr}(h:l[i]? = some t):Zh (l.take (i+1))=Zh (l.take i)+Xf t:=by
 induction l generalizing i with
 |nil=>simp at h
 |cons u l ih=>
  cases i with
  |zero=>simp at h;subst h;simp[Zh]
  |succ i=>
   have:=ih (i:=i) (by simpa using h);simp only[List.take_succ_cons,Zh,this];omega
theorem Bf (l:List Tr)(i:Nat):Zh (l.take i)≤Zh l:=by
 induction l generalizing i with
 |nil=>simp
 |cons u l ih=>
  cases i with
  |zero=>simp[Zh]
  |succ i=>simp only[List.take_succ_cons,Zh];have:=ih i;omega
theorem w64 (n:Int)(h0:0≤n)(h:n≤9223372036854775807):wrap64 n=n:=by unfold wrap64;omega
theorem Td:∀ l:List Tr,l.length≤Zh l
 | []=>Nat.zero_le _
 |t::l=>by
  have:=Td l;cases t;simp only[List.length_cons,Zh,Xf];omega
theorem X3.agg {S:Nat→Prop}{w:World}{t:Tr}{v0 v1 v2 v3 v4:Value}(h:X3 S w t [v0,v1,v2,v3,v4]):Zd S w t (.agg #[v0,v1,v2,v3,v4]):=⟨_,rfl,h⟩
theorem bc {S w:World}{g o:Nat}{v:Value}(hb:Below S.heap.size S w)(h:S.cell? ⟨g,o,none⟩=some v):w.cell? ⟨g,o,none⟩=some v:=(hb.cell (p:=⟨g,o,none⟩) (cell_lt' h)).trans h
theorem Qq9:∀ (n:Nat) (t:Tr) (S:Nat→Prop) (w:World) (v:Value),Xf t≤n→n≤4611686018427387904→Zd S w t v→Calls Tryz.prog 35 #[v] w fun e w'=>e=.returned (.int .i64 (Xf t:Int))∧Below w.heap.size w w':=by
 intro n;induction n with
 |zero=>intro t S w v h;cases t;unfold Xf at h;omega
 |succ n ih=>
  intro t S w v hn hbig h;obtain⟨v0,v1,v2,v3,v4,rfl,hone⟩:=h.cells;have hone:=Dh hone;cases t with
  |mk kd x nn pl kids=>
  unfold Xf at hn ⊢;obtain⟨cs,he,hc⟩:=h;have hcs:cs=[v0,v1,v2,v3,v4]:=(congrArg Array.toList (congrArg Value.cells he)).symm;subst hcs;clear he;unfold X3 at hc;obtain⟨a,cp,he,hl⟩:=hc;cases he;have IH:=Dh ih;have HL:=Dh hl;have HN:=Dh hn;have HB:=Dh hbig;clear ih hl hn hbig;go_enter Tryz.func35,Tryz.ntmps35
  go_wp2
  go_loopw [3,9] (fun s i wr=>∃ k:Nat,k≤kids.length∧i=.int .i64 k∧s=.int .i64 ((1+Zh (kids.take k):Nat):Int)∧Below w.heap.size w wr) (fun _ i _=>kids.length-(intOf i).toNat)
  case atStart=>exact⟨0,Nat.zero_le _,rfl,by simp[Zh],(Below.refl _ _).alloc (Nat.le_refl _) _⟩
  case round=>
   obtain⟨k,hk,rfl,rfl,hBw⟩:=hrel;by_cases hlt:k<kids.length
   ·obtain⟨g,o,rfl,hg,hR⟩:=HL.out.resolve_left (by rintro rfl;simp at hlt);obtain⟨kid,hkid⟩:∃ u,kids[k]? = some u:=⟨_,List.getElem?_eq_getElem hlt⟩;obtain⟨u0,u1,u2,u3,u4,c0,c1,c2,c3,c4,hu⟩:=hR.at_ k kid hkid;rw[Nat.mul_comm 5 k] at c0 c1 c2 c3 c4;have hu1:=(hu.agg).cells;obtain⟨_,_,_,_,_,he,hone1⟩:=hu1;cases he;have hone1:=Dh hone1;have hrg:=Dh (Ut (bc hBw c0) (bc hBw c1) (bc hBw c2) (bc hBw c3) (bc hBw c4));have hV:=Dh ((hu.agg).below hBw);have hts:=Dh (Gt hkid);have hle:=Dh (Bf kids (k+1));have hBw:=Dh hBw;clear hR c0 c1 c2 c3 c4 hu hg;have hq1:(k:Int)<(kids.length:Int):=by omega
    go_wp2_with (first|((with_reducible refine wpList_load_mid rfl 26 _ rfl g (o+k*5) ?hx [u0,u1,u2,u3,u4] _ hrg.out Tryz.underlying26 rfl (Xe _ rfl) ?_);(case hx=>rfl))|((with_reducible refine Hq rfl _ _ rfl rfl (v0:=u0) (v1:=u1) (v2:=u2) (v3:=u3) (v4:=u4) ?hx ?hy hone1.out ?_);(case hx=>rfl);(case hy=>rfl);intro W1 hrw hB1;have hrw:=Dh hrw;have hB1:=Dh hB1)|((with_reducible refine wpList_load_row rfl 26 _ rfl _ ?hx 26 #[u0,u1,u2,u3,u4] (0,0) _ hrw.out Tryz.underlying26 ?hd (Xe _ rfl) ?_);(case hd=>rfl);(case hx=>rfl))|(go_at_call 35;refine(IH.out kid S _ _ (by have:=HN.out;have:=hts.out;have:=hle.out;omega) (by have:=HB.out;omega) (hV.out.below (hB1.out.mono Ds))).mono ?_;rintro e W2 ⟨rfl,hB2⟩))
    have hts:=hts.out;have hle:=hle.out;have hN:=HN.out;have hB:=HB.out;have hlen:=Td kids;rw[w64 (k+1:Int) Dw Dw,w64 (1+(Zh (kids.take k):Int)+(Xf kid:Int)) Dw Dw];refine⟨⟨k+1,by omega,by push_cast;rfl,?_,(hBw.out.trans (hB1.out.mono hBw.out.size)).trans (hB2.mono (Nat.le_trans hBw.out.size hB1.out.size))⟩,by simp[intOf];omega⟩;rw[hts];push_cast;rw[Int.add_assoc]
   ·obtain rfl:k=kids.length:=by omega
    have hq1:¬ (kids.length:Int)<(kids.length:Int):=by omega
    go_wp2
    go_ret;exact⟨rfl,hBw⟩
theorem Qll {l:List Tr}{i:Nat}{t:Tr}(h:l[i]? = some t):Dt (l.take (i+1))=max (Dt (l.take i)) (1+U5 t):=by
 induction l generalizing i with
 |nil=>simp at h
 |cons u l ih=>
  cases i with
  |zero=>simp at h;subst h;simp[Dt]
  |succ i=>
   have:=ih (i:=i) (by simpa using h);simp only[List.take_succ_cons,Dt,this];omega
mutual
theorem Qm6:∀ t:Tr,U5 t<Xf t
 | .mk _ _ _ _ l=>by unfold U5 Xf;have:=Qeq l;omega
theorem Qeq:∀ l:List Tr,Dt l≤Zh l
 | []=>by unfold Dt;exact Nat.zero_le _
 |t::l=>by unfold Dt Zh;have:=Qm6 t;have:=Qeq l;omega
end
theorem Qlk:∀ (n:Nat) (t:Tr) (S:Nat→Prop) (w:World) (v:Value),Xf t≤n→n≤4611686018427387904→Zd S w t v→Calls Tryz.prog 36 #[v] w fun e w'=>e=.returned (.int .i64 (U5 t:Int))∧Below w.heap.size w w':=by
 intro n;induction n with
 |zero=>intro t S w v h;cases t;unfold Xf at h;omega
 |succ n ih=>
  intro t S w v hn hbig h;obtain⟨v0,v1,v2,v3,v4,rfl,hone⟩:=h.cells;have hone:=Dh hone;cases t with
  |mk kd x nn pl kids=>
  unfold Xf at hn;unfold U5;obtain⟨cs,he,hc⟩:=h;have hcs:cs=[v0,v1,v2,v3,v4]:=(congrArg Array.toList (congrArg Value.cells he)).symm;subst hcs;clear he;unfold X3 at hc;obtain⟨a,cp,he,hl⟩:=hc;cases he;have IH:=Dh ih;have HL:=Dh hl;have HN:=Dh hn;have HB:=Dh hbig;clear ih hl hn hbig;go_enter Tryz.func36,Tryz.ntmps36
  go_wp2
  go_loopw [3,9] (fun s i wr=>∃ k:Nat,k≤kids.length∧i=.int .i64 k∧s=.int .i64 ((Dt (kids.take k):Nat):Int)∧Below w.heap.size w wr) (fun _ i _=>kids.length-(intOf i).toNat)
  case atStart=>exact⟨0,Nat.zero_le _,rfl,by simp[Dt],(Below.refl _ _).alloc (Nat.le_refl _) _⟩
  case round=>
   obtain⟨k,hk,rfl,rfl,hBw⟩:=hrel;by_cases hlt:k<kids.length
   ·obtain⟨g,o,rfl,hg,hR⟩:=HL.out.resolve_left (by rintro rfl;simp at hlt);obtain⟨kid,hkid⟩:∃ u,kids[k]? = some u:=⟨_,List.getElem?_eq_getElem hlt⟩;obtain⟨u0,u1,u2,u3,u4,c0,c1,c2,c3,c4,hu⟩:=hR.at_ k kid hkid;rw[Nat.mul_comm 5 k] at c0 c1 c2 c3 c4;have hu1:=(hu.agg).cells;obtain⟨_,_,_,_,_,he,hone1⟩:=hu1;cases he;have hone1:=Dh hone1;have hrg:=Dh (Ut (bc hBw c0) (bc hBw c1) (bc hBw c2) (bc hBw c3) (bc hBw c4));have hV:=Dh ((hu.agg).below hBw);have hts:=Dh (Gt hkid);have hle:=Dh (Bf kids (k+1));have hBw:=Dh hBw;clear hR c0 c1 c2 c3 c4 hu hg;have hq1:(k:Int)<(kids.length:Int):=by omega
    go_wp2_with (first|((with_reducible refine wpList_load_mid rfl 26 _ rfl g (o+k*5) ?hx [u0,u1,u2,u3,u4] _ hrg.out Tryz.underlying26 rfl (Xe _ rfl) ?_);(case hx=>rfl))|((with_reducible refine Hq rfl _ _ rfl rfl (v0:=u0) (v1:=u1) (v2:=u2) (v3:=u3) (v4:=u4) ?hx ?hy hone1.out ?_);(case hx=>rfl);(case hy=>rfl);intro W1 hrw hB1;have hrw:=Dh hrw;have hB1:=Dh hB1)|((with_reducible refine wpList_load_row rfl 26 _ rfl _ ?hx 26 #[u0,u1,u2,u3,u4] (0,0) _ hrw.out Tryz.underlying26 ?hd (Xe _ rfl) ?_);(case hd=>rfl);(case hx=>rfl))|(go_at_call 36;refine(IH.out kid S _ _ (by have:=HN.out;have:=hts.out;have:=hle.out;omega) (by have:=HB.out;omega) (hV.out.below (hB1.out.mono Ds))).mono ?_;rintro e W2 ⟨rfl,hB2⟩))
    have hts:=hts.out;have hle:=hle.out;have hN:=HN.out;have hB:=HB.out;have hlen:=Td kids;have hdd:=Qll hkid;have hd1:=Qm6 kid;have hd2:=Qeq (kids.take k);rw[w64 (k+1:Int) Dw Dw,w64 (1+(U5 kid:Int)) Dw Dw];refine⟨⟨k+1,by omega,by push_cast;rfl,?_,(hBw.out.trans (hB1.out.mono hBw.out.size)).trans (hB2.mono (Nat.le_trans hBw.out.size hB1.out.size))⟩,by simp[intOf];omega⟩;rw[hdd];congr 1
    omega
   ·obtain rfl:k=kids.length:=by omega
    have hq1:¬ (kids.length:Int)<(kids.length:Int):=by omega
    go_wp2
    go_ret;exact⟨rfl,hBw⟩
def A7 (k n:Nat)(len:Int):Int:=if k=2∨k=6∨k=4∨k=37 then 16 else if k=34∨k=36 then 17 else if k=13 then wrap64 (16+wrap64 (n:Int)) else len
mutual
def Qa0:Tr→Bool
 | .mk k _ n _ l=>Qfa l&&decide ((l.length:Int)≤A7 k n l.length)
def Qfa:List Tr→Bool
 | []=>true
 |t::l=>Qa0 t&&Qfa l
end
theorem Qhf:∀ {l:List Tr} {i:Nat} {t:Tr},l[i]? = some t→Qfa l=true→Qa0 t=true
 | [],_,_,h,_=>by simp at h
 |u::l,0,t,h,hf=>by
  simp at h;subst h;unfold Qfa at hf;rw[Bool.and_eq_true] at hf;exact hf.1
 |u::l,i+1,t,h,hf=>by
  unfold Qfa at hf;rw[Bool.and_eq_true] at hf;exact Qhf (by simpa using h) hf.2
theorem Qmz:∀ {l:List Tr},(∀ (i:Nat) (t:Tr),l[i]? = some t→Qa0 t=true)→Qfa l=true
 | [],_=>rfl
 |u::l,h=>by
  unfold Qfa;rw[Bool.and_eq_true];exact⟨h 0 u rfl,Qmz fun i t hi=>h (i+1) t (by simpa using hi)⟩
def Ql4 (w:World)(kz:Int)(x:List UInt8)(nn pl:Nat)(a:Option Addr)(n cp:Nat)(wr:World):Prop:=
 wr.heap[w.heap.size]? = some (.cells #[.int .i64 kz,.string ⟨x.toArray⟩,.int .u64 (nn:Int),.int .i64 (pl:Int),.slice a n cp] 26 (0,0))
theorem Ql4.after {w:World}{kd:Int}{x:List UInt8}{nn pl:Nat}{a:Option Addr}{n cp:Nat}{wr w1 w2:World}(h:Ql4 w kd x nn pl a n cp wr)(h1:Below wr.heap.size wr w1)(h2:Below w1.heap.size w1 w2):Ql4 w kd x nn pl a n cp w2:=by
 unfold Ql4 at h ⊢;have hlt:w.heap.size<wr.heap.size:=(Array.getElem?_eq_some_iff.1 h).1;rw[h2.block _ (Nat.lt_of_lt_of_le hlt h1.size),h1.block _ hlt,h]
theorem few_c:∀ (n:Nat) (t:Tr) (S:Nat→Prop) (w:World) (v:Value),Xf t≤n→n≤4611686018427387904→Zd S w t v→Calls Tryz.prog 34 #[v] w fun e w'=>e=.returned (.bool (Qa0 t))∧Below w.heap.size w w':=by
 intro n;induction n with
 |zero=>intro t S w v h;cases t;unfold Xf at h;omega
 |succ n ih=>
  intro t S w v hn hbig h;obtain⟨v0,v1,v2,v3,v4,rfl,hone⟩:=h.cells;have hone:=Dh hone;cases t with
  |mk kd x nn pl kids=>
  unfold Xf at hn;unfold Qa0;obtain⟨cs,he,hc⟩:=h;have hcs:cs=[v0,v1,v2,v3,v4]:=(congrArg Array.toList (congrArg Value.cells he)).symm;subst hcs;clear he;unfold X3 at hc;obtain⟨a,cp,he,hl⟩:=hc;cases he;have IH:=Dh ih;have HL:=Dh hl;have HN:=Dh hn;have HB:=Dh hbig;clear ih hl hn hbig;have hm:A7 kd nn kids.length=if kd=2∨kd=6∨kd=4∨kd=37 then 16 else if kd=34∨kd=36 then 17 else if kd=13 then wrap64 (16+wrap64 (nn:Int)) else (kids.length:Int):=rfl
  have HM:=Dh hm;clear hm;generalize A7 kd nn kids.length=M at *;obtain⟨kz,hkz⟩:∃ kz:Int,kz=(kd:Int):=⟨_,rfl⟩;have hkz:=Dh hkz;have hcase:kd=2∨kd=6∨kd=4∨kd=37∨kd=34∨kd=36∨kd=13∨(kd≠2∧kd≠6∧kd≠4∧kd≠37∧kd≠34∧kd≠36∧kd≠13):=by omega
  rcases hcase with rfl|rfl|rfl|rfl|rfl|rfl|rfl|⟨h1,h2,h3,h4,h5,h6,h7⟩
  all_goals try (
   have hq2:((kd:Int)==2)=false:=beq_false_of_ne Dw;have hq3:((kd:Int)==6)=false:=beq_false_of_ne Dw;have hq4:((kd:Int)==4)=false:=beq_false_of_ne Dw;have hq5:((kd:Int)==37)=false:=beq_false_of_ne Dw;have hq6:((kd:Int)==34)=false:=beq_false_of_ne Dw;have hq7:((kd:Int)==36)=false:=beq_false_of_ne Dw
   have hq8:((kd:Int)==13)=false:=beq_false_of_ne Dw)
  all_goals
   go_enter Tryz.func34,Tryz.ntmps34
   go_wp2
   go_loopw [28] (fun i wr=>∃ k:Nat,k≤kids.length∧i=.int .i64 k∧Below w.heap.size w wr∧RowKit.Hid (∀ (j:Nat) (u:Tr),j<k→kids[j]? = some u→Qa0 u=true)∧RowKit.Hid (Ql4 w kz x nn pl a kids.length cp wr)) (fun i _=>kids.length-(intOf i).toNat)
   case atStart=>exact⟨0,Nat.zero_le _,rfl,(Below.refl _ _).alloc (Nat.le_refl _) _,Dh (fun j u hj=>absurd hj (Nat.not_lt_zero _)),Dh (by unfold Ql4;rw[hkz.out];exact Array.getElem?_push_size)⟩
   case round=>
    obtain⟨k,hk,rfl,hBw,hall,hblk⟩:=hrel;by_cases hlt:k<kids.length
    ·obtain⟨g,o,rfl,hg,hR⟩:=HL.out.resolve_left (by rintro rfl;simp at hlt);obtain⟨kid,hkid⟩:∃ u,kids[k]? = some u:=⟨_,List.getElem?_eq_getElem hlt⟩;obtain⟨u0,u1,u2,u3,u4,c0,c1,c2,c3,c4,hu⟩:=hR.at_ k kid hkid;rw[Nat.mul_comm 5 k] at c0 c1 c2 c3 c4;have hu1:=(hu.agg).cells;obtain⟨_,_,_,_,_,he,hone1⟩:=hu1;cases he;have hone1:=Dh hone1;have hrg:=Dh (Ut (bc hBw c0) (bc hBw c1) (bc hBw c2) (bc hBw c3) (bc hBw c4));have hV:=Dh ((hu.agg).below hBw);have hts:=Dh (Gt hkid);have hle:=Dh (Bf kids (k+1));have hBw:=Dh hBw;have hkid:=Dh hkid;clear hR c0 c1 c2 c3 c4 hu hg;have hq1:(k:Int)<(kids.length:Int):=by omega
     have HC:=Dh fun W hW=>IH.out kid S W (.agg #[u0,u1,u2,u3,u4]) (by have:=HN.out;have:=hts.out;have:=hle.out;omega) (by have:=HB.out;omega) hW
     cases hfk:Qa0 kid with
     |true=>
      rw[hfk] at HC;have hfk:=Dh hfk;go_wp2_with (first|((with_reducible refine wpList_load_mid rfl 26 _ rfl g (o+k*5) ?hx [u0,u1,u2,u3,u4] _ hrg.out Tryz.underlying26 rfl (Xe _ rfl) ?_);(case hx=>rfl))|((with_reducible refine Hq rfl _ _ rfl rfl (v0:=u0) (v1:=u1) (v2:=u2) (v3:=u3) (v4:=u4) ?hx ?hy hone1.out ?_);(case hx=>rfl);(case hy=>rfl);intro W1 hrw hB1;have hrw:=Dh hrw;have hB1:=Dh hB1)|((with_reducible refine wpList_load_row rfl 26 _ rfl _ ?hx 26 #[u0,u1,u2,u3,u4] (0,0) _ hrw.out Tryz.underlying26 ?hd (Xe _ rfl) ?_);(case hd=>rfl);(case hx=>rfl))|(go_at_call 34;refine(HC.out _ (hV.out.below (hB1.out.mono Ds))).mono ?_;rintro e W2 ⟨rfl,hB2⟩))
      have hlen:=Td kids;have hN:=HN.out;have hB:=HB.out;rw[w64 (k+1:Int) Dw Dw];refine⟨⟨k+1,by omega,by push_cast;rfl,(hBw.out.trans (hB1.out.mono hBw.out.size)).trans (hB2.mono (Nat.le_trans hBw.out.size hB1.out.size)),Dh fun j u hj hju=>?_,Dh (hblk.out.after hB1.out hB2)⟩,by simp[intOf];omega⟩;rcases Nat.lt_or_ge j k with h1|h1
      ·exact hall.out j u h1 hju
      ·obtain rfl:j=k:=by omega
       have:=hkid.out;rw[this] at hju;cases hju;exact hfk.out
     |false=>
      rw[hfk] at HC;have hfk:=Dh hfk;go_wp2_with (first|((with_reducible refine wpList_load_mid rfl 26 _ rfl g (o+k*5) ?hx [u0,u1,u2,u3,u4] _ hrg.out Tryz.underlying26 rfl (Xe _ rfl) ?_);(case hx=>rfl))|((with_reducible refine Hq rfl _ _ rfl rfl (v0:=u0) (v1:=u1) (v2:=u2) (v3:=u3) (v4:=u4) ?hx ?hy hone1.out ?_);(case hx=>rfl);(case hy=>rfl);intro W1 hrw hB1;have hrw:=Dh hrw;have hB1:=Dh hB1)|((with_reducible refine wpList_load_row rfl 26 _ rfl _ ?hx 26 #[u0,u1,u2,u3,u4] (0,0) _ hrw.out Tryz.underlying26 ?hd (Xe _ rfl) ?_);(case hd=>rfl);(case hx=>rfl))|(go_at_call 34;refine(HC.out _ (hV.out.below (hB1.out.mono Ds))).mono ?_;rintro e W2 ⟨rfl,hB2⟩))
      (try simp only[Exit.inBlock,Exit.then]);refine bodyPost_ret (by(simp[results,Tryz.results34,go_sem,hq1];try rfl)) rfl ?_
      refine⟨?_,(hBw.out.trans (hB1.out.mono hBw.out.size)).trans (hB2.mono (Nat.le_trans hBw.out.size hB1.out.size))⟩;have:Qfa kids=false:=by
       cases hf:Qfa kids with
       |false=>rfl
       |true=>rw[Qhf hkid.out hf] at hfk;exact absurd hfk.out Dd
      rw[this,Bool.false_and]
    ·obtain rfl:k=kids.length:=by omega
     have hq1:¬ (kids.length:Int)<(kids.length:Int):=by omega
     have hblk:=hblk.out;unfold Ql4 at hblk;have hq9:wr.cell? ⟨w.heap.size,4,none⟩=some (Value.slice a kids.length cp):=by simp[World.cell?,hblk]
     go_wp2
     (try simp only[Exit.inBlock,Exit.then]);refine bodyPost_ret (by(simp[results,Tryz.results34,go_sem,hq1];try rfl)) rfl ?_
     have hf:Qfa kids=true:=Qmz fun i t hi=>hall.out i t (List.getElem?_eq_some_iff.1 hi).1 hi
     have hM:=HM.out;refine⟨?_,hBw⟩;rw[hf,Bool.true_and,hM];simp_all
end Prs
end
section
open Go.RowKit
section
variable {P:Program} {ops:Array Oper} {Q:Exit→Act→World→Prop} {md:Region.Mode} {S:World→Prop} {fuel:Nat} {listed:Array Bool} {a:Act} {w:World}
theorem Ko (i d:Nat){v:Value}{o:Oper}(hi:ops[i]? = some o)(hd:o.dst=some d)(hs:Region.noSelect ops=true)(hf:Region.free md ops listed i=true)(hr:(Region.ready md ops listed).contains i=true)
  (hQ:∀ c a w,Q (.panic c) (a.put o.dst v) w→Q (.panic c) a w) (hw:Region.wanted o (yielded ops a.tmps)=true) (hS:S w) (hy:∀ w,S w→(execOp a.eval o).run P w=.ok (.value v) w)
  (h:wpAnyH P md ops Q S fuel (listed.setIfInBounds i true) (a.put (some d) v) w):wpAnyH P md ops Q S (fuel+1) listed a w:=
 wpAnyH_take hi hs hf hr hQ (.inl ⟨hw,hy⟩) hS (hd ▸ h)
theorem h_call (i d:Nat){o:Oper}(hi:ops[i]? = some o)(hd:o.dst=some d)(hr:Region.ready md ops listed=[i])(hw:Region.wanted o (yielded ops a.tmps)=true)
  (h:∀ K':Act→World→Prop,Shut (∀ a w,S w→(S w→wpAnyH P md ops Q S fuel (listed.setIfInBounds i true) a w)→K' a w)→Oper.wp P o a w K' Q):wpAnyH P md ops Q S (fuel+1) listed a w:=
 wpAnyH_ready hr Ds (AllReadyH.cons hi (fun K' hK=>by rw[if_pos hw];exact h K' hK) AllReadyH.nil)
theorem Qeb (i:Nat){o:Oper}(hi:ops[i]? = some o)(hr:Region.ready md ops listed=[i])(hw:Region.wanted o (yielded ops a.tmps)=true)
  (h:∀ K':Act→World→Prop,Shut (∀ a w,S w→(S w→wpAnyH P md ops Q S fuel (listed.setIfInBounds i true) a w)→K' a w)→Oper.wp P o a w K' Q):wpAnyH P md ops Q S (fuel+1) listed a w:=
 wpAnyH_ready hr Ds (AllReadyH.cons hi (fun K' hK=>by rw[if_pos hw];exact h K' hK) AllReadyH.nil)
end
end
section
open Go.RowKit
namespace Prs
theorem Gg {P:Program}{o:Oper}{a:Act}{w:World}{K:Act→World→Prop}{Q:Exit→Act→World→Prop}(ty:TypeId)(x y:Operand)(ho:o.op=.store ty x y)
  (g:Nat) (v:Value) (hx:a.eval x=.pointer (some ⟨g,0,none⟩)) (hy:a.eval y=v) (h1:v.oneCell'=true)
  (t:TypeId) (old:Value) (hg:w.heap[g]? = some (.cells #[old] t (0,0))) (hi:(P.info? ty).map (·.size)=some 1)
  (h:K (a.put o.dst undef) (w.setRow g #[v])):o.wp P a w K Q:=by
 subst hy;unfold Oper.wp execOp;simp only[ho,hx,Instr.storeAt,Instr.sureAddr,Sem.run_bind,Sem.run_pure,Result.andThen_ok,run_storeVar_one w g t ty old _ hg hi h1];exact h
theorem rd1_idle (q6 q7 q8:Nat)(w:World):CallsD Tryz.prog 31 #[.pointer (some ⟨q6,0,none⟩),.pointer (some ⟨q7,0,none⟩),.pointer (some ⟨q8,0,none⟩)] .returning w fun e u' w'=>e=.returned (.tuple #[])∧u'=.returning∧w'=w:=by
 refine callsD_of_wpS Tryz.func31 rfl fun c₀ cs hu=>?_
 apply wpS_seq;apply wpS_region;simp[wpOpsS,go_sem,recoverD,hu,Tryz.ntmps31,Exit.thenS];apply wpS_seq;apply wpS_region;simp[wpOpsS,go_sem,Exit.thenS];refine wpS_cond (t:=false) (by simp[Act.eval,Array.replicate]) ?_;simp only[Bool.false_eq_true,if_false];refine wpS_of_wp (wp_skip ?_);cases c₀;simp_all [bodyPostS,results,Tryz.results31]
theorem Qn9 (q6 q7 q8 pl:Nat)(z:Array Value)(z7 z8:Value)(w:World)(h6:w.heap[q6]? = some (.cells z 26 (0,0)))(hz:z.size=5)(h7:w.heap[q7]? = some (.cells #[z7] 3 (0,0)))(h8:w.heap[q8]? = some (.cells #[z8] 27 (0,0)))(n1:q6≠q7)(n2:q6≠q8)(n3:q7≠q8):
  CallsD Tryz.prog 31 #[.pointer (some ⟨q6,0,none⟩),.pointer (some ⟨q7,0,none⟩),.pointer (some ⟨q8,0,none⟩)] (.panicking [{ v:=Vw pl,recovered:=false }]) w fun e u' w'=>e=.returned (.tuple #[])∧u'=.panicking [{ v:=Vw pl,recovered:=true }]∧
   w'.os=w.os∧w'.tape=w.tape∧w'.output=w.output∧w.heap.size≤w'.heap.size∧(∀ k,k<w.heap.size→k≠q6→k≠q7→k≠q8→w'.heap[k]? = w.heap[k]?)∧w'.heap[q6]? = some (.cells Q3 26 (0,0))∧w'.heap[q7]? = some (.cells #[.int .i64 (pl:Int)] 3 (0,0))∧w'.heap[q8]? = some (.cells #[.int .i64 5] 27 (0,0)):=by
 refine callsD_of_wpS Tryz.func31 rfl fun c₀ cs hu=>?_
 have hq0:∀ (W:World) (v:Value) (y:TypeId),(Instr.typeAssert (.iface 58 v) y 58 true).run Tryz.prog W=.ok (.tuple #[v,.bool true]) W:=fun W v y=>by kernel_rfl
 simp only[Tryz.ntmps31,List.size_toArray,List.length_cons,List.length_nil,Nat.reduceAdd,Nat.reduceSub,Array.replicate_succ,Array.replicate_zero,List.push_toArray,List.append_toArray,List.nil_append,List.cons_append];apply wpS_seq;apply wpS_region;simp[wpOpsS,go_sem,recoverD,hu,Exit.thenS];apply wpS_seq;apply wpS_region;simp[wpOpsS,go_sem,Exit.thenS,Vw];refine wpS_cond (t:=true) (by simp[Act.eval,Array.replicate]) ?_;simp only[if_true];refine wpS_of_wp ?_;go_wp2
 refine wp_region_held_drew (S:=fun w'=>w'.cell? ⟨w.heap.size,0,none⟩=some (.int .i64 (pl:Int))) Dk ?_ (fun hHeld=>?_)
 ·have e:(w.alloc (.cells #[.int .i64 (pl:Int)] 58)).drew.heap[w.heap.size]? = some (.cells #[.int .i64 (pl:Int)] 58 (0,0)):=by
   show (w.heap.push _)[w.heap.size]? = _
   rw[Array.getElem?_push_size]
  unfold World.cell?
  rw[e];rfl
 have hold:∀ k,k<w.heap.size→(w.alloc (.cells #[.int .i64 (pl:Int)] 58)).drew.heap[k]? = w.heap[k]? := fun k hk=>by
  show (w.heap.push _)[k]? = _
  rw[Array.getElem?_push,if_neg (Nat.ne_of_lt hk)]
 have l6:q6<w.heap.size:=(Array.getElem?_eq_some_iff.1 h6).1;have l7:q7<w.heap.size:=(Array.getElem?_eq_some_iff.1 h7).1;have l8:q8<w.heap.size:=(Array.getElem?_eq_some_iff.1 h8).1;have hsz:w.heap.size≤(w.alloc (.cells #[.int .i64 (pl:Int)] 58)).drew.heap.size:=by
  show _≤(w.heap.push _).size
  rw[Array.size_push];omega
 have e1:(w.alloc (.cells #[.int .i64 (pl:Int)] 58)).drew.os=w.os:=rfl;have e2:(w.alloc (.cells #[.int .i64 (pl:Int)] 58)).drew.tape=w.tape:=rfl;have e3:(w.alloc (.cells #[.int .i64 (pl:Int)] 58)).drew.output=w.output:=rfl;have g6:=(hold _ l6).trans h6;have g7:=(hold _ l7).trans h7;have g8:=(hold _ l8).trans h8;generalize (w.alloc (.cells #[.int .i64 (pl:Int)] 58)).drew=W0 at *;refine Ko 0 17 (v:=.agg Q3) rfl rfl Dk Dk Dk (fun _ _ _ h=>h) Dk Da ?_ ?_
 ·(intro w hSw;(try dsimp only at hSw);go_simp;try first|with_reducible rfl|rfl|kernel_rfl)
 try simp only[Act.put,List.setIfInBounds_toArray,List.set_cons_zero,List.set_cons_succ]
 refine Ko 1 18 (v:=.pointer (some ⟨w.heap.size,0,none⟩)) rfl rfl Dk Dk Dk (fun _ _ _ h=>h) Dk Da ?_ ?_
 ·(intro w hSw;(try dsimp only at hSw);go_simp;try first|with_reducible rfl|rfl|kernel_rfl)
 try simp only[Act.put,List.setIfInBounds_toArray,List.set_cons_zero,List.set_cons_succ]
 refine Ko 2 19 (v:=.int .i64 (pl:Int)) rfl rfl Dk Dk Dk (fun _ _ _ h=>h) Dk Da ?_ ?_
 ·(intro w hSw;(try dsimp only at hSw);go_simp;try first|with_reducible rfl|rfl|kernel_rfl)
 try simp only[Act.put,List.setIfInBounds_toArray,List.set_cons_zero,List.set_cons_succ]
 refine Qeb 3 rfl Dk Dk (fun K' hK=>?_);refine wp_store_row 26 _ _ rfl q6 Q3 rfl rfl 26 z g6 (Xe _ rfl) hz (by simp[Q3,Value.oneCell']) ?_;refine hK.out _ _ ((cell_setRow_other _ _ _ _ (by show w.heap.size≠q6;omega)).trans hHeld) (fun hHeld2=>?_);refine Qeb 4 rfl Dk Dk (fun K' hK=>?_);refine Gg 3 _ _ rfl q7 (.int .i64 (pl:Int)) rfl rfl (by simp[Value.oneCell']) 3 z7 ?_ Dk ?_
 ·rw[setRow_other _ _ _ _ n1.symm];exact g7
 refine hK.out _ _ ((cell_setRow_other _ _ _ _ (by show w.heap.size≠q7;omega)).trans hHeld2) (fun hHeld3=>?_);refine Qeb 5 rfl Dk Dk (fun K' hK=>?_);refine Gg 27 _ _ rfl q8 (.int .i64 5) rfl rfl (by simp[Value.oneCell']) 27 z8 ?_ Dk ?_
 ·rw[setRow_other _ _ _ _ n3.symm,setRow_other _ _ _ _ n2.symm];exact g8
 refine hK.out _ _ ((cell_setRow_other _ _ _ _ (by show w.heap.size≠q8;omega)).trans hHeld3) (fun hHeld4=>?_);refine⟨by kernel_rfl,?_⟩;go_wp2
 have r6:(((W0.setRow q6 Q3).setRow q7 #[.int .i64 (pl:Int)]).setRow q8 #[.int .i64 5]).heap[q6]? = some (.cells Q3 26 (0,0)):=by
  rw[setRow_other _ _ _ _ n2,setRow_other _ _ _ _ n1];exact setRow_heap _ _ z _ _ _ g6
 have r7:(((W0.setRow q6 Q3).setRow q7 #[.int .i64 (pl:Int)]).setRow q8 #[.int .i64 5]).heap[q7]? = some (.cells #[.int .i64 (pl:Int)] 3 (0,0)):=by
  rw[setRow_other _ _ _ _ n3];exact setRow_heap _ _ #[z7] _ _ _ ((setRow_other _ _ _ _ n1.symm).trans g7)
 have r8:(((W0.setRow q6 Q3).setRow q7 #[.int .i64 (pl:Int)]).setRow q8 #[.int .i64 5]).heap[q8]? = some (.cells #[.int .i64 5] 27 (0,0)):=
  setRow_heap _ _ #[z8] _ _ _ ((setRow_other _ _ _ _ n3.symm).trans ((setRow_other _ _ _ _ n2.symm).trans g8))
 refine⟨rfl,_,(by cases c₀;simp_all),.tuple #[],by simp[results,Tryz.results31],rfl,rfl,e1,e2,e3,?_,fun k hk h1 h2 h3=>?_,r6,r7,r8⟩
 ·simpa using hsz
 ·rw[setRow_other _ _ _ _ h3,setRow_other _ _ _ _ h2,setRow_other _ _ _ _ h1];exact hold k hk
def Ql1 (k0 k:Nat)(w:World)(v:Value)(l:List Tok):Prop:=∃ a c,v=.slice a l.length c∧l.length≤c∧c≤maxLen∧(l=[]∨∃ g o,a=some ⟨g,o,none⟩∧k0≤g∧g<k∧Qnh w g l o)
def Yk (s:ByteArray)(w:World):Prop:=Calls Tryz.prog 30 #[.string s] w fun e w'=>Below w.heap.size w w'∧match X4 s.data.toList with
 | .ok ts=>∃ v,e=.returned (.tuple #[v,.int .i64 0,.int .i64 0])∧Ql1 w.heap.size w'.heap.size w' v ts
 | .error (p,c)=>c≠0∧e=.returned (.tuple #[.slice none 0 0,.int .i64 (p:Int),.int .i64 c])
structure St (w W:World)(z:Array Value)(a c:Value):Prop where
 below:Below w.heap.size w W
 h6:W.heap[w.heap.size]? = some (.cells z 26 (0,0))
 h7:W.heap[w.heap.size+1]? = some (.cells #[a] 3 (0,0))
 h8:W.heap[w.heap.size+1+1]? = some (.cells #[c] 27 (0,0))
theorem St.start (w:World):St w (((w.alloc (.cells Q3 26)).alloc (.cells #[.int .i64 0] 3)).alloc (.cells #[.int .i64 0] 27)) Q3 (.int .i64 0) (.int .i64 0):=by
 refine⟨(((Below.refl _ _).alloc (Nat.le_refl _) _).alloc Ds _).alloc (by simp;omega) _,?_,?_,?_⟩
 ·rw[Below.heap_alloc _ _ _ (by simp;omega),Below.heap_alloc _ _ _ Ds];exact Array.getElem?_push_size
 ·rw[Below.heap_alloc _ _ _ Ds]
  have:=Qz (w.alloc (.cells Q3 26)) (.cells #[.int .i64 0] 3);simpa using this
 ·have:=Qz ((w.alloc (.cells Q3 26)).alloc (.cells #[.int .i64 0] 3)) (.cells #[.int .i64 0] 27);simpa using this
section
variable {w W W':World} {z:Array Value} {a c:Value}
theorem St.size (h:St w W z a c):w.heap.size+3≤W.heap.size:=(Array.getElem?_eq_some_iff.1 h.h8).1
theorem St.keep (h:St w W z a c){b:Nat}(hb:w.heap.size+3≤b)(k:Qo b W W'):St w W' z a c:=by
 have hs:=h.size;refine⟨?_,?_,?_,?_⟩
 ·exact⟨k.os.trans h.below.os,k.tape.trans h.below.tape,k.output.trans h.below.output,Nat.le_trans h.below.size k.size,fun i hi=>(k.block i Dw Dw).trans (h.below.block i hi)⟩
 ·rw[k.block _ Dw Dw,h.h6]
 ·rw[k.block _ Dw Dw,h.h7]
 ·rw[k.block _ Dw Dw,h.h8]
theorem St.put6 (h:St w W z a c)(z':Array Value):St w (W.setRow w.heap.size z') z' a c:=
 ⟨below_setRow h.below (Nat.le_refl _) _,setRow_heap _ _ _ _ _ _ h.h6,(setRow_other _ _ _ _ Dw).trans h.h7,(setRow_other _ _ _ _ Dw).trans h.h8⟩
theorem St.put7 (h:St w W z a c)(a':Value):St w (W.setRow (w.heap.size+1) #[a']) z a' c:=
 ⟨below_setRow h.below Dw _,(setRow_other _ _ _ _ Dw).trans h.h6,setRow_heap _ _ _ _ _ _ h.h7,(setRow_other _ _ _ _ Dw).trans h.h8⟩
theorem St.put8 (h:St w W z a c)(c':Value):St w (W.setRow (w.heap.size+1+1) #[c']) z a c':=
 ⟨below_setRow h.below Dw _,(setRow_other _ _ _ _ Dw).trans h.h6,(setRow_other _ _ _ _ Dw).trans h.h7,setRow_heap _ _ _ _ _ _ h.h8⟩
theorem St.drew (h:St w W z a c):St w W.drew z a c:=⟨h.below.drew,h.h6,h.h7,h.h8⟩
theorem St.c7 (h:St w W z a c):W.cell? ⟨w.heap.size+1,0,none⟩=some a:=by unfold World.cell?;rw[h.h7];rfl
theorem St.c8 (h:St w W z a c):W.cell? ⟨w.heap.size+1+1,0,none⟩=some c:=by unfold World.cell?;rw[h.h8];rfl
def Put (q:Nat)(W W':World):Prop:=W'.heap.size=W.heap.size∧∀ k,k≠q→W'.heap[k]? = W.heap[k]?
theorem Put.row (q:Nat)(W:World)(cs:Array Value):Put q W (W.setRow q cs):=⟨setRow_size _ _ _,fun k hk=>setRow_other _ _ _ _ hk⟩
variable {ops:Array Oper} {rest:List Oper} {o:Oper} {ac:Act} {Q:Exit→Act→World→Prop}
theorem st7 (hS:RowKit.Hid (St w W z a c))(hgd:o.guard=none)(x y:Operand)(ho:o.op=.store 3 x y)(hd:o.dst=none)(v:Value)(hx:ac.eval x=.pointer (some ⟨w.heap.size+1,0,none⟩))(hy:ac.eval y=v)(h1:v.oneCell'=true)
  (h:∀ W',St w W' z v c→Put (w.heap.size+1) W W'→wpList Tryz.prog ops Q rest ac W'):wpList Tryz.prog ops Q (o::rest) ac W:=
 wpList_store_oneTo hgd 3 x y ho hd _ v hx hy h1 3 a hS.out.h7 Dk (h _ (hS.out.put7 v) (Put.row _ _ _))
theorem st8 (hS:RowKit.Hid (St w W z a c))(hgd:o.guard=none)(x y:Operand)(ho:o.op=.store 27 x y)(hd:o.dst=none)(v:Value)(hx:ac.eval x=.pointer (some ⟨w.heap.size+1+1,0,none⟩))(hy:ac.eval y=v)(h1:v.oneCell'=true)
  (h:∀ W',St w W' z a v→Put (w.heap.size+1+1) W W'→wpList Tryz.prog ops Q rest ac W'):wpList Tryz.prog ops Q (o::rest) ac W:=
 wpList_store_oneTo hgd 27 x y ho hd _ v hx hy h1 27 c hS.out.h8 Dk (h _ (hS.out.put8 v) (Put.row _ _ _))
theorem st6 (hS:RowKit.Hid (St w W z a c))(hz:z.size=5)(hgd:o.guard=none)(x y:Operand)(ho:o.op=.store 26 x y)(hd:o.dst=none)(cs:Array Value)(hx:ac.eval x=.pointer (some ⟨w.heap.size,0,none⟩))(hy:ac.eval y=.agg cs)(hcs:cs.size=5)(h1:cs.all (·.oneCell')=true)
  (h:∀ W',St w W' cs a c→Put w.heap.size W W'→wpList Tryz.prog ops Q rest ac W'):wpList Tryz.prog ops Q (o::rest) ac W:=
 wpList_store_rowTo hgd 26 x y ho hd _ cs hx hy 26 z hS.out.h6 (Xe _ hcs) (by rw[hz,hcs]) h1 (h _ (hS.out.put6 cs) (Put.row _ _ _))
end
theorem Ew {P:Program}{fn:Func}{t t':Array Value}{R:Ending→World→Prop}(h:results fn t=results fn t'):∀ (ds:List Deferred) (u:FrameMode) (w:World),Leaves P fn t R ds u w→Leaves P fn t' R ds u w
 | [],.returning,w,hl=>by
  unfold Leaves at hl ⊢;rw[←h];exact hl
 | [],.panicking _,w,hl=>hl
 | [],.run,w,hl=>hl
 |d::ds,u,w,hl=>by
  unfold Leaves at hl ⊢;obtain⟨h0,fv,cap,f,args,h1,h2,h3⟩:=hl;refine⟨h0,fv,cap,f,args,h1,h2,h3.mono ?_⟩;rintro(_|_|_) u' w' hk
  ·exact Ew h ds _ _ hk
  ·exact Ew h ds _ _ hk
  ·exact hk
theorem res_read {t t':Array Value}(h6:t[6]? = t'[6]?)(h7:t[7]? = t'[7]?)(h8:t[8]? = t'[8]?):results Tryz.f21 t=results Tryz.f21 t':=by
 simp only[results,Tryz.results21];simp[h6,h7,h8]
theorem Qds {R:Ending→World→Prop}{c:List PanicEntry}{a:Act}{d:Nat}{v:Value}{w:World}(hd:8<d)(h:bodyPostD Tryz.prog Tryz.f21 R (.panic c) (a.put (some d) v) w):bodyPostD Tryz.prog Tryz.f21 R (.panic c) a w:=by
 unfold bodyPostD at h ⊢;refine Ew (res_read ?_ ?_ ?_) _ _ _ h;all_goals
  show (a.tmps.setIfInBounds d v)[_]? = _
  rw[Array.getElem?_setIfInBounds_ne Dw]
theorem load_int (W:World)(g:Nat)(v:Value)(h:W.cell? ⟨g,0,none⟩=some v):(loadVar 3 ⟨g,0,none⟩).run Tryz.prog W=.ok v W:=by
 go_simp
theorem Qo0 (W:World)(g:Nat)(v:Value)(h:W.cell? ⟨g,0,none⟩=some v):(loadVar 27 ⟨g,0,none⟩).run Tryz.prog W=.ok v W:=by
 go_simp
theorem Qgt {w W:World}{z:Array Value}{a c:Value}{tmps:Array Value}(hS:St w W z a c)(hz:z.size=5)(h6:tmps[6]? = some (.pointer (some ⟨w.heap.size,0,none⟩)))(h7:tmps[7]? = some (.pointer (some ⟨w.heap.size+1,0,none⟩)))(h8:tmps[8]? = some (.pointer (some ⟨w.heap.size+1+1,0,none⟩))):(results Tryz.f21 tmps).run Tryz.prog W=.ok (.tuple #[.agg z,a,c]) W:=by
 have l6:=run_loadVar_row W w.heap.size 26 26 z (0,0) _ hS.h6 (show (Tryz.prog).underlying 26=some (.struct _) from Tryz.underlying26) rfl (Xe _ hz);have l7:=load_int W _ _ hS.c7;have l8:=Qo0 W _ _ hS.c8;simp[results,Tryz.results21,h6,h7,h8,asAddr,l6,l7,l8]
abbrev dfr (w:World):List Deferred:=[{ target:=.fn (.func 31) #[.pointer (some ⟨w.heap.size,0,none⟩),.pointer (some ⟨w.heap.size+1,0,none⟩),.pointer (some ⟨w.heap.size+1+1,0,none⟩)],args := #[] }]
theorem Qah {w W:World}{z:Array Value}{a c:Value}{tmps:Array Value}{p:Nat}{R:Ending→World→Prop}(hS:St w W z a c)(hz:z.size=5)(h6:tmps[6]? = some (.pointer (some ⟨w.heap.size,0,none⟩)))(h7:tmps[7]? = some (.pointer (some ⟨w.heap.size+1,0,none⟩)))(h8:tmps[8]? = some (.pointer (some ⟨w.heap.size+1+1,0,none⟩)))
  (hR:∀ w',Below w.heap.size w w'→R (.returned (.tuple #[.agg Q3,.int .i64 (p:Int),.int .i64 5])) w'):bodyPostD Tryz.prog Tryz.f21 R (.panic [{ v:=Vw p,recovered:=false }]) ⟨tmps,dfr w⟩ W:=by
 refine leaves_cons (f:=31) (args := #[.pointer (some ⟨w.heap.size,0,none⟩),.pointer (some ⟨w.heap.size+1,0,none⟩),.pointer (some ⟨w.heap.size+1+1,0,none⟩)]) Ds (by simp[go_sem]) ?_;refine(Qn9 _ _ _ p z a c W hS.h6 hz hS.h7 hS.h8 Dw Dw Dw).mono ?_;rintro e u' w' ⟨rfl,rfl,h1,h2,h3,h4,h5,g6,g7,g8⟩;have hs:=hS.size;have hB:Below w.heap.size w w':=hS.below.trans ⟨h1,h2,h3,h4,fun i hi=>h5 i Dw Dw Dw Dw⟩;exact⟨_,Qgt (z:=Q3) ⟨hB,g6,g7,g8⟩ rfl h6 h7 h8,hR _ hB⟩
theorem C9 {w W:World}{z:Array Value}{a c:Value}{tmps:Array Value}{R:Ending→World→Prop}(hS:St w W z a c)(hz:z.size=5)(h6:tmps[6]? = some (.pointer (some ⟨w.heap.size,0,none⟩)))(h7:tmps[7]? = some (.pointer (some ⟨w.heap.size+1,0,none⟩)))(h8:tmps[8]? = some (.pointer (some ⟨w.heap.size+1+1,0,none⟩)))
  (hR:R (.returned (.tuple #[.agg z,a,c])) W):bodyPostD Tryz.prog Tryz.f21 R .ret ⟨tmps,dfr w⟩ W:=by
 refine leaves_cons (f:=31) (args := #[.pointer (some ⟨w.heap.size,0,none⟩),.pointer (some ⟨w.heap.size+1,0,none⟩),.pointer (some ⟨w.heap.size+1+1,0,none⟩)]) Ds (by simp[go_sem]) ?_;refine(rd1_idle _ _ _ W).mono ?_;rintro e u' w' ⟨rfl,rfl,rfl⟩;exact⟨_,Qgt hS hz h6 h7 h8,hR⟩
theorem read_err (s:ByteArray)(one:Bool)(fw:Nat)(w:World)(p:Nat)(c:Int)(hp:X4 s.data.toList=.error (p,c))(HT:∀ w1,(∀ k,k<w.heap.size→w1.heap[k]? = w.heap[k]?)→Yk s w1):Calls Tryz.prog 21 #[.string s,.bool one,.func (.func fw) #[] #[]] w fun e w'=>e=.returned (.tuple #[.agg Q3,.int .i64 (p:Int),.int .i64 c])∧Below w.heap.size w w':=by
 have hS:=St.start w;have HT1:=HT _ hS.below.block;unfold Yk at HT1;rw[hp] at HT1;dsimp only at HT1;have hS:=Dh hS;have HT1:=Dh HT1;clear HT hp;go_enter_defers Tryz.func21,Tryz.ntmps21
 go_wp2_with (first|(go_at_call 30;refine HT1.out.mono ?_;rintro e w1 ⟨hB,hc,rfl⟩;have hS:=Dh (hS.out.keep (Nat.le_refl _) (Qo.of_below hB Ds)))|((with_reducible refine st7 hS rfl _ _ rfl rfl (.int .i64 p) ?hx ?hy ?h1 ?_);(case hx=>rfl);(case hy=>rfl);(case h1=>rfl);intro W7 hS7 hP7;have h7:=hS7.c7;have h8:=hS7.c8;have hS:=Dh hS7;clear hS7)|((with_reducible refine st8 hS rfl _ _ rfl rfl (.int .i64 c) ?hx ?hy ?h1 ?_);(case hx=>rfl);(case hy=>rfl);(case h1=>rfl);intro W8 hS8 hP8;have h7:=hS8.c7;have h8:=hS8.c8;have hS:=Dh hS8;clear hS8))
 clear h7 h8;have hS:=(hS.out).drew;refine wp_region_held_drew (S:=fun w'=>w'.cell? ⟨w.heap.size+1,0,none⟩=some (.int .i64 p)∧w'.cell? ⟨w.heap.size+1+1,0,none⟩=some (.int .i64 c)) Dk ⟨hS.c7,hS.c8⟩ (fun hHeld=>?_);generalize W8.drew=W9 at *;refine Ko 0 19 (v:=.agg Q3) rfl rfl Dk Dk Dk (fun _ _ _ h=>Qds Dd h) Dk Da ?_ ?_
 ·(intro w hSw;(try dsimp only at hSw);obtain⟨hS1,hS2⟩:=hSw;go_simp;try first|with_reducible rfl|rfl|kernel_rfl)
 try simp only[Act.put,List.setIfInBounds_toArray,List.set_cons_zero,List.set_cons_succ]
 refine Ko 1 20 (v:=.int .i64 p) rfl rfl Dk Dk Dk (fun _ _ _ h=>Qds Dd h) Dk Da ?_ ?_
 ·(intro w hSw;(try dsimp only at hSw);obtain⟨hS1,hS2⟩:=hSw;go_simp;try first|with_reducible rfl|rfl|kernel_rfl)
 try simp only[Act.put,List.setIfInBounds_toArray,List.set_cons_zero,List.set_cons_succ]
 refine Ko 2 21 (v:=.int .i64 c) rfl rfl Dk Dk Dk (fun _ _ _ h=>Qds Dd h) Dk Da ?_ ?_
 ·(intro w hSw;(try dsimp only at hSw);obtain⟨hS1,hS2⟩:=hSw;go_simp;try first|with_reducible rfl|rfl|kernel_rfl)
 try simp only[Act.put,List.setIfInBounds_toArray,List.set_cons_zero,List.set_cons_succ]
 refine Qeb 3 rfl Dk Dk (fun K' hK=>?_);refine wp_store_row 26 _ _ rfl w.heap.size Q3 rfl rfl 26 Q3 hS.h6 (Xe _ rfl) rfl (by simp[Q3,Value.oneCell']) ?_;have hS:=hS.put6 Q3;refine hK.out _ _ ⟨hS.c7,hS.c8⟩ (fun _=>?_);refine Qeb 4 rfl Dk Dk (fun K' hK=>?_);refine Gg 3 _ _ rfl (w.heap.size+1) (.int .i64 p) rfl rfl (by simp[Value.oneCell']) 3 _ hS.h7 Dk ?_;have hS:=hS.put7 (.int .i64 p);refine hK.out _ _ ⟨hS.c7,hS.c8⟩ (fun _=>?_);refine Qeb 5 rfl Dk Dk (fun K' hK=>?_);refine Gg 27 _ _ rfl (w.heap.size+1+1) (.int .i64 c) rfl rfl (by simp[Value.oneCell']) 27 _ hS.h8 Dk ?_;have hS:=hS.put8 (.int .i64 c);refine hK.out _ _ ⟨hS.c7,hS.c8⟩ (fun _=>?_);refine⟨by kernel_rfl,?_⟩;go_wp2
 exact⟨_,Qgt hS rfl rfl rfl rfl,rfl,hS.below⟩
end Prs
end
section
open Go.RowKit
namespace Prs
theorem Ql1.put {k0 k q:Nat}{W W':World}{v:Value}{l:List Tok}(h:Ql1 k0 k W v l)(hq:q<k0)(hP:Put q W W'):Ql1 k0 k W' v l:=by
 obtain⟨a,c,h1,h2,h3,h4⟩:=h;refine⟨a,c,h1,h2,h3,h4.imp id ?_⟩;rintro⟨g,o,h5,h6,h7,h8⟩;exact⟨g,o,h5,h6,h7,h8.frame (hP.2 g Dw)⟩
theorem Ql1.tok {k0 k b:Nat}{W W':World}{v:Value}{l:List Tok}(h:Ql1 k0 k W v l)(hk:k≤b)(hb:∀ i,i<k→W'.heap[i]? = W.heap[i]?):Qhu b W' v l:=by
 obtain⟨a,c,h1,h2,h3,h4⟩:=h;refine⟨a,c,h1,h2,h3,h4.imp id ?_⟩;rintro⟨g,o,h5,h6,h7,h8⟩;exact⟨g,o,h5,by omega,h8.frame (hb g h7)⟩
theorem Ei {w W8:World}{z:Array Value}{a c v:Value}{ts:List Tok}{n fw k0 k:Nat}{x:List Tok→R Tr}{r:Except Nat (Tr×List Tok)}(hS:St w W8 z a c)(hTok:Ql1 k0 k W8 v ts)(hk:k≤W8.heap.size)(HX:∀ b W,(∀ k,k<w.heap.size→W.heap[k]? = w.heap[k]?)→w.heap.size≤b→Reads b ⟨n,W⟩ false fw #[rp b] x)(hx:x ts=some r):
  Calls Tryz.prog fw #[rp W8.heap.size] (W8.alloc (.cells #[v,.int .i64 (n:Int),.bool false] 61)) (Out W8.heap.size ⟨n,W8.alloc (.cells #[v,.int .i64 (n:Int),.bool false] 61)⟩ false (Zd ((W8.alloc (.cells #[v,.int .i64 (n:Int),.bool false] 61)).heap.size ≤ ·)) r (W8.alloc (.cells #[v,.int .i64 (n:Int),.bool false] 61))):=by
 have hs:=hS.size;refine HX _ _ (fun i hi=>?_) Dw ts _ r ⟨fun _ _=>rfl,v,Qz _ _,hTok.tok hk fun i hi=>Below.heap_alloc _ _ _ Dw⟩ hx;rw[Below.heap_alloc _ _ _ Dw];exact hS.below.block i hi
theorem read_bad (s:ByteArray)(one:Bool)(fw:Nat)(hfw:∀ (args:Array Value) (W:World),(callFunc fw args).run Tryz.prog W=.ok (.enter fw args) W)(w:World)(ts:List Tok)(x:List Tok→R Tr)(hp:X4 s.data.toList=.ok ts)(HT:∀ w1,(∀ k,k<w.heap.size→w1.heap[k]? = w.heap[k]?)→Yk s w1)
  (HX:∀ b W,(∀ k,k<w.heap.size→W.heap[k]? = w.heap[k]?)→w.heap.size≤b→Reads b ⟨s.size,W⟩ false fw #[rp b] x) (p:Nat) (hx:x ts=some (.error p)):Calls Tryz.prog 21 #[.string s,.bool one,.func (.func fw) #[] #[]] w fun e w'=>e=.returned (.tuple #[.agg Q3,.int .i64 (p:Int),.int .i64 5])∧Below w.heap.size w w':=by
 have hmf:∀ (fn:Fn) (first cap:Array Value) (w:World),(Instr.makeFunc fn first cap).run Tryz.prog w=.ok (.func fn first cap) w:=fun _ _ _ _=>rfl
 have hS:=St.start w;have HT1:=HT _ hS.below.block;unfold Yk at HT1;rw[hp] at HT1;dsimp only at HT1;have hS:=Dh hS;have HT1:=Dh HT1;have HX1:=Dh fun (W8:World) (v z a c k0 k) (hS:St w W8 z a c) (hT:Ql1 k0 k W8 v ts) (hk:k≤W8.heap.size)=>Ei hS hT hk HX hx
 clear HT hp HX hx;go_enter_defers Tryz.func21,Tryz.ntmps21
 go_wp2_with (first|(go_at_call 30;refine HT1.out.mono ?_;rintro e w1 ⟨hB,v,rfl,hTk⟩;obtain⟨n0,a0,c0,rfl⟩:∃ n0 a0 c0,v=.slice a0 n0 c0:=⟨_,_,_,hTk.choose_spec.choose_spec.1⟩;have hTok:=Dh hTk;clear hTk;have hS:=Dh (hS.out.keep (Nat.le_refl _) (Qo.of_below hB Ds)))|((with_reducible refine st7 hS rfl _ _ rfl rfl (.int .i64 0) ?hx ?hy ?h1 ?_);(case hx=>rfl);(case hy=>rfl);(case h1=>rfl);intro W7 hS7 hP7;have h7:=hS7.c7;have h8:=hS7.c8;have hS:=Dh hS7;have hP7:=Dh hP7;clear hS7)|((with_reducible refine st8 hS rfl _ _ rfl rfl (.int .i64 0) ?hx ?hy ?h1 ?_);(case hx=>rfl);(case hy=>rfl);(case h1=>rfl);intro W8 hS8 hP8;have h7:=hS8.c7;have h8:=hS8.c8;have hTok:=Dh ((hTok.out.put Ds hP7.out).put Ds hP8);have hTs:=Dh (show w1.heap.size≤W8.heap.size from Nat.le_of_eq (hP8.1.trans hP7.out.1).symm);have hS:=Dh hS8;clear hS8)|(refine(HX1.out _ _ _ _ _ _ _ hS.out hTok.out hTs.out).mono ?_;rintro e w2 ⟨hk,rfl⟩;have hS:=Dh (hS.out.keep (b:=W8.heap.size) hS.out.size ((Qo.new _ _).trans hk))))
 exact Qah hS.out rfl rfl rfl rfl fun w' hB=>⟨rfl,hB⟩
end Prs
end
end Go.Proofs.YtcbkeecabcbogaaGreatDoor
