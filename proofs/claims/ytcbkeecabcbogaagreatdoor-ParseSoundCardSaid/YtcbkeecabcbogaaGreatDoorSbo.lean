/- Contract of the reference's Tokens: the tokens of a text, or -/
import Derived.Test.YtcbkeecabcbogaaGreatDoorSbn
set_option linter.unusedSimpArgs false
set_option linter.unusedVariables false
namespace Go.Proofs.YtcbkeecabcbogaaGreatDoor
open Go.RowKit
theorem line_at (l:List UInt8)(j:Nat)(h:j<Zv l):∃ b,l[j]? = some b∧b≠10:=by
 unfold Zv at h;have hp:l.takeWhile (· != 10) <+: l:=List.takeWhile_prefix _;have hm:=mem_tw (q:=fun x=>x != 10) l (List.getElem_mem h);refine⟨(l.takeWhile (· != 10))[j],?_,by simpa using hm⟩;obtain⟨t,ht⟩:=hp;conv=>lhs;rw[←ht]
 rw[List.getElem?_append_left h,List.getElem?_eq_getElem h]
theorem line_end (l:List UInt8):Zv l=l.length∨l[Zv l]? = some 10:=by
 have hd:=Qs2 l;cases h:l.drop (Zv l) with
 |nil=>
  rw[List.drop_eq_nil_iff] at h
  have:=Qk7 l;exact .inl Dw
 |cons b m=>
  right;rw[hd] at h;have hb:=Qhb (fun x:UInt8=>x != 10) l b m h;have hb10:b=10:=by simpa using hb
  rw[←hd] at h;have:(l.drop (Zv l))[0]? = some b:=by rw[h];rfl
  rw[List.getElem?_drop] at this;rw[←hb10];simpa using this
def LexS (L:List UInt8)(pos:Nat)(opn:Bool)(ts:List Tok):Prop:=(pos≤L.length∧Qdp ts (lex (L.drop pos) pos opn ts.length)=lex L 0 false 0)∨(pos=L.length+1∧lex L 0 false 0=.ok ts)
theorem lexS_in {L:List UInt8}{pos:Nat}{opn:Bool}{ts:List Tok}(h:LexS L pos opn ts)(hp:pos≤L.length):Qdp ts (lex (L.drop pos) pos opn ts.length)=lex L 0 false 0:=by
 rcases h with h|h
 ·exact h.2
 ·omega
theorem lexS_out {L:List UInt8}{pos:Nat}{opn:Bool}{ts:List Tok}(h:LexS L pos opn ts)(hp:¬ pos≤L.length):lex L 0 false 0=.ok ts:=by
 rcases h with h|h
 ·exact absurd h.1 hp
 ·exact h.2
def RTok (base:Nat)(R:Qpt)(e:Ending)(w':World):Prop:=∃ v i c,e=.returned (.tuple #[v,.int .i64 i,.int .i64 c])∧TokV base R v i c w'
set_option maxRecDepth 100000 in
set_option maxHeartbeats 8000000 in
theorem Qid (s:ByteArray)(w:World)(hs:s.size≤65536)(hv:Zp (bl s)=s.size):
  Calls Tryz.prog 15 #[.string s] w fun e w'=>RTok w.heap.size (lex (bl s) 0 false 0) e w'∧Below w.heap.size w w':=by
 obtain⟨i0,hi,hz0,hz1,hz2⟩:=info_parts Tryz.Qsk;have hwh:=Qdm s w Dw;rw[hv] at hwh;have HWH:=Dh hwh;have hs1:(s.size:Int)≤65536:=by omega
 have hs2:decide ((65536:Int)<(s.size:Int))=false:=by rw[decide_eq_false_iff_not];omega
 have HI:=Dh hi;have HL:=Dh (Xg s);clear hi hwh hv;go_enter Tryz.func15,Tryz.ntmps15
 go_wp2_with fail
 refine HWH.out.mono ?_;rintro e w1 ⟨rfl,hw1⟩;clear HWH;go_wp2
 go_loopw [5,6,7] (fun v op at_ wr=>∃ (ts:List Tok) (opn:Bool) (pos:Nat),op=.bool opn∧at_=.int .i64 pos∧pos≤s.size+1∧wr.ownsRow w1.heap.size 46 4 v ts.length (Me ts)∧Below w1.heap.size w1 wr∧ts.length≤16384∧Hid (LexS (bl s) pos opn ts)) (fun _ _ at_ _=>s.size+2-(intOf at_).toNat)
 case atStart=>exact⟨[],false,0,rfl,rfl,by omega,World.ownsRow_nil _ _ _ _,Below.refl _ _,by simp,Dh (.inl ⟨Nat.zero_le _,Qmk _⟩)⟩
 case round=>
  obtain⟨ts,opn,pos,rfl,rfl,hpos,hown,hwr,hts,HLEX⟩:=hrel;have hlen:=Y9 hown;by_cases hin:pos≤s.size
  ·have hx:=lexS_in HLEX.out (by rw[HL.out];exact hin);have hq0:(pos:Int)≤(s.size:Int):=by omega
   have hq0b:decide ((pos:Int)≤(s.size:Int))=true:=decide_eq_true hq0;clear HLEX;by_cases hend0:pos=s.size
   ·have hdr:(bl s).drop pos=[]:=by rw[List.drop_eq_nil_iff,HL.out];omega
    have hq:((pos:Int)==(s.size:Int))=true:=by rw[hend0];simp
    have hend:=Dh hend0;clear hend0;rw[hdr,N9] at hx;cases opn
    ·simp only[Bool.false_eq_true,if_false] at hx;have HX:=Dh hx;clear hx hdr;go_wp2
     go_roundw
     case rel=>exact⟨ts,false,pos+1,rfl,by go_num,by omega,hown,hwr,hts,Dh (.inr ⟨by rw[HL.out,hend.out],by rw[←HX.out];simp[Qdp]⟩)⟩
     case measure=>simp[intOf];omega
    ·simp only[if_true] at hx;by_cases hfull:16384≤ts.length
     ·rw[if_pos hfull] at hx;have HX:=Dh hx;have hf2:((ts.length:Int)==16384)=true:=by rw[beq_iff_eq];omega
      clear hx hdr hfull;go_wp2
      go_ret3
      exact⟨⟨_,_,_,rfl,by rw[←HX.out];exact⟨rfl,rfl,rfl⟩⟩,Qb hw1 hwr⟩
     ·rw[if_neg hfull] at hx;have HX:=Dh hx;have hf2:((ts.length:Int)==16384)=false:=by rw[beq_eq_false_iff_ne];omega
      have HFULL:=Dh hfull;clear hx hdr hfull;go_wp2_with (first|(at_builtin;refine wpList_append_own _ rfl _ _ 37 rfl w1.heap.size 46 i0 (.agg #[.int .i64 0,.string ⟨#[]⟩,.int .u64 0,.int .i64 0]) 4 40 Tryz.underlying37 HI.out hz0 hz1 hz2 rfl Dd _ _ _ rfl (hown.alloc _) ⟨wr.heap.size,0,none⟩ 1 1 (X5 (Z4 pos)) rfl rfl (Yw _ (Z4 pos) _) (Dy _) (by unfold maxLen;omega) Dw (by have:=hwr.size;simp;omega) ?_;intro v4 w4 hown4 hgrow4 hnil4;have hB4:Below w1.heap.size w1 w4:=Below.grown (hwr.alloc hwr.size _) hgrow4 (by have:=hwr.size;simp;omega) (fun j hj=>by have:=(hown.lt _ hj).1;omega);have hlen4:=Y9 hown4;clear hgrow4 hnil4))
      go_roundw
      case rel=>exact⟨ts++[Z4 pos],false,pos+1,rfl,by go_num,by omega,(by rw[List.length_append,Yf];exact hown4),hB4,by have:=HFULL.out;simp;omega,Dh (.inr ⟨by rw[HL.out,hend.out],by rw[←HX.out];rfl⟩)⟩
      case measure=>simp[intOf];omega
   ·have hlt:pos<s.size:=by omega
    have hq:((pos:Int)==(s.size:Int))=false:=by rw[beq_eq_false_iff_ne];omega
    have hlti:(pos:Int)<(s.size:Int):=by omega
    have hda:=drop_at s pos hlt;have B:=Dh (fun c n hn=>Qlw s[pos] c n hn);by_cases hb:s[pos]=10
    ·have hdr:(bl s).drop pos=10::(bl s).drop (pos+1):=by rw[hda,hb]
     have hq2:((s[pos].toNat:Int)==10)=true:=by rw[B.out 10 10 rfl,hb];rfl
     clear hda B hb hend0;rw[hdr,Qad] at hx;cases opn
     ·simp only[Bool.false_eq_true,if_false] at hx;have HX:=Dh hx;clear hx hdr;go_wp2
      go_roundw
      case rel=>exact⟨ts,false,pos+1,rfl,by go_num,by omega,hown,hwr,hts,Dh (.inl ⟨by rw[HL.out];omega,HX.out⟩)⟩
      case measure=>simp[intOf];omega
     ·simp only[if_true] at hx;by_cases hfull:16384≤ts.length
      ·rw[if_pos hfull] at hx;have HX:=Dh hx;have hf2:((ts.length:Int)==16384)=true:=by rw[beq_iff_eq];omega
       clear hx hdr hfull;go_wp2
       go_ret3
       exact⟨⟨_,_,_,rfl,by rw[←HX.out];exact⟨rfl,rfl,rfl⟩⟩,Qb hw1 hwr⟩
      ·rw[if_neg hfull] at hx;have HX:=Dh hx;have hf2:((ts.length:Int)==16384)=false:=by rw[beq_eq_false_iff_ne];omega
       have HFULL:=Dh hfull;clear hx hdr hfull;go_wp2_with (first|(at_builtin;refine wpList_append_own _ rfl _ _ 37 rfl w1.heap.size 46 i0 (.agg #[.int .i64 0,.string ⟨#[]⟩,.int .u64 0,.int .i64 0]) 4 40 Tryz.underlying37 HI.out hz0 hz1 hz2 rfl Dd _ _ _ rfl (hown.alloc _) ⟨wr.heap.size,0,none⟩ 1 1 (X5 (Z4 pos)) rfl rfl (Yw _ (Z4 pos) _) (Dy _) (by unfold maxLen;omega) Dw (by have:=hwr.size;simp;omega) ?_;intro v4 w4 hown4 hgrow4 hnil4;have hB4:Below w1.heap.size w1 w4:=Below.grown (hwr.alloc hwr.size _) hgrow4 (by have:=hwr.size;simp;omega) (fun j hj=>by have:=(hown.lt _ hj).1;omega);have hlen4:=Y9 hown4;clear hgrow4 hnil4))
       go_roundw
       case rel=>exact⟨ts++[Z4 pos],false,pos+1,rfl,by go_num,by omega,(by rw[List.length_append,Yf];exact hown4),hB4,by have:=HFULL.out;simp;omega,Dh (.inl ⟨by rw[HL.out];omega,by have h1:=HX.out;rw[G6] at h1;rw[List.length_append];exact h1⟩)⟩
       case measure=>simp[intOf];omega
    ·have hq2:((s[pos].toNat:Int)==10)=false:=by rw[B.out 10 10 rfl];simpa using hb
     cases hbk:V7 s[pos]
     ·have h9:((s[pos].toNat:Int)==9)=false:=by
       rw[B.out 9 9 rfl];unfold V7 at hbk;simp only[Bool.or_eq_false_iff] at hbk;exact hbk.1.1
      have h13:((s[pos].toNat:Int)==13)=false:=by
       rw[B.out 13 13 rfl];unfold V7 at hbk;simp only[Bool.or_eq_false_iff] at hbk;exact hbk.1.2
      have h32:((s[pos].toNat:Int)==32)=false:=by
       rw[B.out 32 32 rfl];unfold V7 at hbk;simp only[Bool.or_eq_false_iff] at hbk;exact hbk.2
      have hst:Ti ((bl s).drop pos)=false→starts ((bl s).drop pos)=true:=by
       intro hr;rw[hda] at hr ⊢;simp[starts,hb,hbk,hr]
      by_cases h47:s[pos]=47
      ·have h47b:((s[pos].toNat:Int)==47)=true:=by rw[B.out 47 47 rfl,h47];rfl
       by_cases hp1:pos+1<s.size
       ·have hda1:=drop_at s (pos+1) hp1;have hp1i:(pos:Int)+1<(s.size:Int):=by omega
        have hp1b:decide ((pos:Int)+1<(s.size:Int))=true:=decide_eq_true hp1i;have hp1n:((pos:Int)+1).toNat=pos+1:=by omega
        by_cases h472:s[pos+1]=47
        ·have h472b:((s[pos+1].toNat:Int)==47)=true:=by rw[Qlw s[pos+1] 47 47 rfl,h472];rfl
         have hrm:Ti ((bl s).drop pos)=true:=by rw[hda,hda1,h47,h472];rfl
         rw[Cb _ _ _ _ hrm,List.drop_drop] at hx;have hla:=line_at ((bl s).drop pos);have hle:=line_end ((bl s).drop pos);have hll:=Qk7 ((bl s).drop pos);rw[List.length_drop,HL.out] at hll hle;have hl2:0<Zv ((bl s).drop pos):=by rw[hda];exact F8 _ _ hb
         have HX:=Dh hx;have HLA:=Dh hla;have HLE:=Dh hle;clear hx hla hle hrm hda hda1 h472 h47 hb B hbk hst hend0;generalize hgl:Zv ((bl s).drop pos)=n at *;have HGL:=Dh hgl;clear hgl;go_wp2
         go_loopw [7] (fun a wi=>∃ j:Nat,j≤n∧a=.int .i64 ((pos+j:Nat):Int)∧wi=wr) (fun a _=>pos+n-(intOf a).toNat)
         case atStart=>exact⟨0,Nat.zero_le _,rfl,rfl⟩
         case round=>
          obtain⟨j,hj,rfl,rfl⟩:=hrel;obtain⟨q,hqj⟩:∃ q,q=pos+j:=⟨_,rfl⟩;rw[←hqj];by_cases hjn:j<n
          ·obtain⟨b,hb1,hb2⟩:=HLA.out j hjn;rw[List.getElem?_drop,←hqj] at hb1;have hqs:q<s.size:=by
            have:=(List.getElem?_eq_some_iff.1 hb1).1;rw[HL.out] at this;exact this
           rw[Rq s q hqs] at hb1;have hsb:s[q]=b:=Option.some.inj hb1;have hq10:((s[q].toNat:Int) != 10)=true:=by
            rw[bne_iff_ne];intro e;apply hb2;rw[←hsb];apply UInt8.toNat_inj.1;show _=10;omega
           have hqi:(q:Int)<(s.size:Int):=by omega
           have hqb:decide ((q:Int)<(s.size:Int))=true:=decide_eq_true hqi;have HQ:=Dh hqj;clear hb1 hb2 hsb hqj;go_wp2
           exact⟨⟨j+1,by omega,by rw[←Nat.add_assoc,←HQ.out];go_num,trivial⟩,by have:=HQ.out;simp[intOf];omega⟩
          ·obtain rfl:j=n:=by omega
           by_cases hqs:q<s.size
           ·have hq10:((s[q].toNat:Int) != 10)=false:=by
             rcases HLE.out with h|h
             ·omega
             ·rw[List.getElem?_drop,←hqj,Rq s q hqs] at h;have hsb:s[q]=10:=Option.some.inj h;rw[hsb];rfl
            have hqi:(q:Int)<(s.size:Int):=by omega
            have hqb:decide ((q:Int)<(s.size:Int))=true:=decide_eq_true hqi;have HQ:=Dh hqj;have hpq:pos<q:=by omega
            have hqle:q≤s.size:=by omega
            clear hqj;go_wp2
            exact⟨⟨ts,opn,q,rfl,rfl,by omega,hown,hwr,hts,Dh (.inl ⟨by rw[HL.out];omega,by rw[HQ.out];exact HX.out⟩)⟩,by simp[intOf];omega⟩
           ·have hqi:¬ (q:Int)<(s.size:Int):=by omega
            have hqb:decide ((q:Int)<(s.size:Int))=false:=decide_eq_false hqi;have HQ:=Dh hqj;have hpq:pos<q:=by omega
            have hqle:q≤s.size:=by omega
            clear hqj;go_wp2
            exact⟨⟨ts,opn,q,rfl,rfl,by omega,hown,hwr,hts,Dh (.inl ⟨by rw[HL.out];omega,by rw[HQ.out];exact HX.out⟩)⟩,by simp[intOf];omega⟩
        ·have h472b:((s[pos+1].toNat:Int)==47)=false:=by rw[Qlw s[pos+1] 47 47 rfl];simpa using h472
         have hst2:=hst (by rw[hda,hda1,h47];simp[Ti,List.isPrefixOf,Ne.symm h472]);clear hda1 h472;rw[F9 _ _ _ _ hst2] at hx;have ho:=Qdk s pos wr hs hlt;have hof:=Qcs ((bl s).drop pos) pos;rw[List.length_drop,HL.out] at hof;have hop:=one_pos ((bl s).drop pos) pos (by intro e;rw[e] at hst2;cases hst2);unfold Qc3 at ho;clear hda B hst hst2 hbk hb h47;generalize Ym ((bl s).drop pos) pos=r at *;obtain⟨t0,k,er⟩:=r;simp only[] at hx ho hof hop;have HO:=Dh ho;have HOP:=Dh hop;have HXX:=Dh hx;clear ho hop hx;go_wp2_with fail
         refine HO.out.mono ?_;rintro e w3 ⟨⟨t,en,rfl,hte⟩,hw3⟩;have hown3:=ownsRow_below hown hw3;have hB3:=Qb hwr hw3;have hB3s:=hB3.size;clear hown hw3 HO;by_cases her:er=0
         ·obtain⟨rfl,rfl⟩:=hte her;have hk1:=HOP.out her;have hx:=HXX.out;rw[if_neg (by rw[her];simp)] at hx;have herb:(er==0)=true:=by rw[her];rfl
          have herb2:(er != 0)=false:=by rw[her];rfl
          clear her hte HOP HXX;obtain⟨kind,text,num,place⟩:=t;unfold Qh0;by_cases hfull:16384≤ts.length
          ·rw[if_pos hfull] at hx;have HX:=Dh hx;have hf2:((ts.length:Int)==16384)=true:=by rw[beq_iff_eq];omega
           clear hx hfull;go_wp2
           go_ret3
           exact⟨⟨_,_,_,rfl,by rw[←HX.out];exact⟨rfl,rfl,rfl⟩⟩,Qb hw1 (hB3.alloc hB3.size _)⟩
          ·rw[if_neg hfull,G6] at hx;have HX:=Dh hx;have hf2:((ts.length:Int)==16384)=false:=by rw[beq_eq_false_iff_ne];omega
           have HFULL:=Dh hfull;clear hx hfull;go_wp2_with (first|(at_builtin;refine wpList_append_own _ rfl _ _ 37 rfl w1.heap.size 46 i0 (.agg #[.int .i64 0,.string ⟨#[]⟩,.int .u64 0,.int .i64 0]) 4 40 Tryz.underlying37 HI.out hz0 hz1 hz2 rfl Dd _ _ _ rfl ((hown3.alloc _).alloc _) ⟨w3.heap.size+1,0,none⟩ 1 1 (X5 ⟨kind,text,num,place⟩) rfl rfl (Py (w3.alloc _) _ Ds ⟨kind,text,num,place⟩ _) (Dy _) (by unfold maxLen;omega) Dw (by have:=hB3.size;simp;omega) ?_;intro v4 w4 hown4 hgrow4 hnil4;have hB4:Below w1.heap.size w1 w4:=Below.grown ((hB3.alloc hB3.size _).alloc (by have:=hB3.size;simp;omega) _) hgrow4 (by have:=hB3.size;simp;omega) (fun j hj=>by have:=(hown3.lt _ hj).1;omega);have hlen4:=Y9 hown4;have hnr:some w3.heap.size≠Value.ownBlock _:=(fun e=>absurd (hown3.lt _ e.symm).2 (Nat.lt_irrefl _));have k0:w4.cell? ⟨w3.heap.size,0,none⟩=some (.int .i64 kind):=hgrow4.cell (by go_simp) hnr;have k1:w4.cell? ⟨w3.heap.size,1,none⟩=some (.string ⟨text.toArray⟩):=hgrow4.cell (by go_simp) hnr;have k2:w4.cell? ⟨w3.heap.size,2,none⟩=some (.int .u64 num):=hgrow4.cell (by go_simp) hnr;have k3:w4.cell? ⟨w3.heap.size,3,none⟩=some (.int .i64 (place:Int)):=hgrow4.cell (by go_simp) hnr;clear hgrow4 hnil4 hnr))
           refine(En ⟨kind,text,num,place⟩ _).mono ?_;rintro e w5 ⟨rfl,hw5⟩;have hown5:=ownsRow_below hown4 hw5;have hB5:=Qb hB4 hw5;clear hown4 hw5 hB4 k0 k1 k2 k3;go_wp2
           go_roundw
           case rel=>exact⟨ts++[⟨kind,text,num,place⟩],Zw ⟨kind,text,num,place⟩,pos+k,rfl,by go_num,by omega,(by rw[List.length_append,Yf];exact hown5),hB5,by have:=HFULL.out;simp;omega,Dh (.inl ⟨by rw[HL.out];omega,by rw[List.length_append,←HX.out,List.drop_drop];rfl⟩)⟩
           case measure=>simp[intOf];omega
         ·have hx:=HXX.out;rw[if_pos her] at hx;have HX:=Dh hx;have herb:(er==0)=false:=by simpa using her
          have herb2:(er != 0)=true:=by simpa using her
          clear her hx hte HOP HXX;obtain⟨kind,text,num,place⟩:=t;unfold Qh0;go_wp2
          go_ret3
          exact⟨⟨_,_,_,rfl,by rw[←HX.out];exact⟨rfl,rfl,rfl⟩⟩,Qb hw1 (hB3.alloc hB3.size _)⟩
       ·have hp1i:¬ (pos:Int)+1<(s.size:Int):=by omega
        have hp1b:decide ((pos:Int)+1<(s.size:Int))=false:=decide_eq_false hp1i
        have hst2:=hst (by
         rw[hda,h47,show (bl s).drop (pos+1)=[] by rw[List.drop_eq_nil_iff,HL.out];omega];rfl)
        rw[F9 _ _ _ _ hst2] at hx;have ho:=Qdk s pos wr hs hlt;have hof:=Qcs ((bl s).drop pos) pos;rw[List.length_drop,HL.out] at hof;have hop:=one_pos ((bl s).drop pos) pos (by intro e;rw[e] at hst2;cases hst2);unfold Qc3 at ho;clear hda B hst hst2 hbk hb h47;generalize Ym ((bl s).drop pos) pos=r at *;obtain⟨t0,k,er⟩:=r;simp only[] at hx ho hof hop;have HO:=Dh ho;have HOP:=Dh hop;have HXX:=Dh hx;clear ho hop hx;go_wp2_with fail
        refine HO.out.mono ?_;rintro e w3 ⟨⟨t,en,rfl,hte⟩,hw3⟩;have hown3:=ownsRow_below hown hw3;have hB3:=Qb hwr hw3;have hB3s:=hB3.size;clear hown hw3 HO;by_cases her:er=0
        ·obtain⟨rfl,rfl⟩:=hte her;have hk1:=HOP.out her;have hx:=HXX.out;rw[if_neg (by rw[her];simp)] at hx;have herb:(er==0)=true:=by rw[her];rfl
         have herb2:(er != 0)=false:=by rw[her];rfl
         clear her hte HOP HXX;obtain⟨kind,text,num,place⟩:=t;unfold Qh0;by_cases hfull:16384≤ts.length
         ·rw[if_pos hfull] at hx;have HX:=Dh hx;have hf2:((ts.length:Int)==16384)=true:=by rw[beq_iff_eq];omega
          clear hx hfull;go_wp2
          go_ret3
          exact⟨⟨_,_,_,rfl,by rw[←HX.out];exact⟨rfl,rfl,rfl⟩⟩,Qb hw1 (hB3.alloc hB3.size _)⟩
         ·rw[if_neg hfull,G6] at hx;have HX:=Dh hx;have hf2:((ts.length:Int)==16384)=false:=by rw[beq_eq_false_iff_ne];omega
          have HFULL:=Dh hfull;clear hx hfull;go_wp2_with (first|(at_builtin;refine wpList_append_own _ rfl _ _ 37 rfl w1.heap.size 46 i0 (.agg #[.int .i64 0,.string ⟨#[]⟩,.int .u64 0,.int .i64 0]) 4 40 Tryz.underlying37 HI.out hz0 hz1 hz2 rfl Dd _ _ _ rfl ((hown3.alloc _).alloc _) ⟨w3.heap.size+1,0,none⟩ 1 1 (X5 ⟨kind,text,num,place⟩) rfl rfl (Py (w3.alloc _) _ Ds ⟨kind,text,num,place⟩ _) (Dy _) (by unfold maxLen;omega) Dw (by have:=hB3.size;simp;omega) ?_;intro v4 w4 hown4 hgrow4 hnil4;have hB4:Below w1.heap.size w1 w4:=Below.grown ((hB3.alloc hB3.size _).alloc (by have:=hB3.size;simp;omega) _) hgrow4 (by have:=hB3.size;simp;omega) (fun j hj=>by have:=(hown3.lt _ hj).1;omega);have hlen4:=Y9 hown4;have hnr:some w3.heap.size≠Value.ownBlock _:=(fun e=>absurd (hown3.lt _ e.symm).2 (Nat.lt_irrefl _));have k0:w4.cell? ⟨w3.heap.size,0,none⟩=some (.int .i64 kind):=hgrow4.cell (by go_simp) hnr;have k1:w4.cell? ⟨w3.heap.size,1,none⟩=some (.string ⟨text.toArray⟩):=hgrow4.cell (by go_simp) hnr;have k2:w4.cell? ⟨w3.heap.size,2,none⟩=some (.int .u64 num):=hgrow4.cell (by go_simp) hnr;have k3:w4.cell? ⟨w3.heap.size,3,none⟩=some (.int .i64 (place:Int)):=hgrow4.cell (by go_simp) hnr;clear hgrow4 hnil4 hnr))
          refine(En ⟨kind,text,num,place⟩ _).mono ?_;rintro e w5 ⟨rfl,hw5⟩;have hown5:=ownsRow_below hown4 hw5;have hB5:=Qb hB4 hw5;clear hown4 hw5 hB4 k0 k1 k2 k3;go_wp2
          go_roundw
          case rel=>exact⟨ts++[⟨kind,text,num,place⟩],Zw ⟨kind,text,num,place⟩,pos+k,rfl,by go_num,by omega,(by rw[List.length_append,Yf];exact hown5),hB5,by have:=HFULL.out;simp;omega,Dh (.inl ⟨by rw[HL.out];omega,by rw[List.length_append,←HX.out,List.drop_drop];rfl⟩)⟩
          case measure=>simp[intOf];omega
        ·have hx:=HXX.out;rw[if_pos her] at hx;have HX:=Dh hx;have herb:(er==0)=false:=by simpa using her
         have herb2:(er != 0)=true:=by simpa using her
         clear her hx hte HOP HXX;obtain⟨kind,text,num,place⟩:=t;unfold Qh0;go_wp2
         go_ret3
         exact⟨⟨_,_,_,rfl,by rw[←HX.out];exact⟨rfl,rfl,rfl⟩⟩,Qb hw1 (hB3.alloc hB3.size _)⟩
      ·have h47b:((s[pos].toNat:Int)==47)=false:=by rw[B.out 47 47 rfl];simpa using h47
       have hst2:=hst (by rw[hda];simp[Ti,List.isPrefixOf,Ne.symm h47]);rw[F9 _ _ _ _ hst2] at hx;have ho:=Qdk s pos wr hs hlt;have hof:=Qcs ((bl s).drop pos) pos;rw[List.length_drop,HL.out] at hof;have hop:=one_pos ((bl s).drop pos) pos (by intro e;rw[e] at hst2;cases hst2);unfold Qc3 at ho;clear hda B hst hst2 hbk hb h47;generalize Ym ((bl s).drop pos) pos=r at *;obtain⟨t0,k,er⟩:=r;simp only[] at hx ho hof hop;have HO:=Dh ho;have HOP:=Dh hop;have HXX:=Dh hx;clear ho hop hx;go_wp2_with fail
       refine HO.out.mono ?_;rintro e w3 ⟨⟨t,en,rfl,hte⟩,hw3⟩;have hown3:=ownsRow_below hown hw3;have hB3:=Qb hwr hw3;have hB3s:=hB3.size;clear hown hw3 HO;by_cases her:er=0
       ·obtain⟨rfl,rfl⟩:=hte her;have hk1:=HOP.out her;have hx:=HXX.out;rw[if_neg (by rw[her];simp)] at hx;have herb:(er==0)=true:=by rw[her];rfl
        have herb2:(er != 0)=false:=by rw[her];rfl
        clear her hte HOP HXX;obtain⟨kind,text,num,place⟩:=t;unfold Qh0;by_cases hfull:16384≤ts.length
        ·rw[if_pos hfull] at hx;have HX:=Dh hx;have hf2:((ts.length:Int)==16384)=true:=by rw[beq_iff_eq];omega
         clear hx hfull;go_wp2
         go_ret3
         exact⟨⟨_,_,_,rfl,by rw[←HX.out];exact⟨rfl,rfl,rfl⟩⟩,Qb hw1 (hB3.alloc hB3.size _)⟩
        ·rw[if_neg hfull,G6] at hx;have HX:=Dh hx;have hf2:((ts.length:Int)==16384)=false:=by rw[beq_eq_false_iff_ne];omega
         have HFULL:=Dh hfull;clear hx hfull;go_wp2_with (first|(at_builtin;refine wpList_append_own _ rfl _ _ 37 rfl w1.heap.size 46 i0 (.agg #[.int .i64 0,.string ⟨#[]⟩,.int .u64 0,.int .i64 0]) 4 40 Tryz.underlying37 HI.out hz0 hz1 hz2 rfl Dd _ _ _ rfl ((hown3.alloc _).alloc _) ⟨w3.heap.size+1,0,none⟩ 1 1 (X5 ⟨kind,text,num,place⟩) rfl rfl (Py (w3.alloc _) _ Ds ⟨kind,text,num,place⟩ _) (Dy _) (by unfold maxLen;omega) Dw (by have:=hB3.size;simp;omega) ?_;intro v4 w4 hown4 hgrow4 hnil4;have hB4:Below w1.heap.size w1 w4:=Below.grown ((hB3.alloc hB3.size _).alloc (by have:=hB3.size;simp;omega) _) hgrow4 (by have:=hB3.size;simp;omega) (fun j hj=>by have:=(hown3.lt _ hj).1;omega);have hlen4:=Y9 hown4;have hnr:some w3.heap.size≠Value.ownBlock _:=(fun e=>absurd (hown3.lt _ e.symm).2 (Nat.lt_irrefl _));have k0:w4.cell? ⟨w3.heap.size,0,none⟩=some (.int .i64 kind):=hgrow4.cell (by go_simp) hnr;have k1:w4.cell? ⟨w3.heap.size,1,none⟩=some (.string ⟨text.toArray⟩):=hgrow4.cell (by go_simp) hnr;have k2:w4.cell? ⟨w3.heap.size,2,none⟩=some (.int .u64 num):=hgrow4.cell (by go_simp) hnr;have k3:w4.cell? ⟨w3.heap.size,3,none⟩=some (.int .i64 (place:Int)):=hgrow4.cell (by go_simp) hnr;clear hgrow4 hnil4 hnr))
         refine(En ⟨kind,text,num,place⟩ _).mono ?_;rintro e w5 ⟨rfl,hw5⟩;have hown5:=ownsRow_below hown4 hw5;have hB5:=Qb hB4 hw5;clear hown4 hw5 hB4 k0 k1 k2 k3;go_wp2
         go_roundw
         case rel=>exact⟨ts++[⟨kind,text,num,place⟩],Zw ⟨kind,text,num,place⟩,pos+k,rfl,by go_num,by omega,(by rw[List.length_append,Yf];exact hown5),hB5,by have:=HFULL.out;simp;omega,Dh (.inl ⟨by rw[HL.out];omega,by rw[List.length_append,←HX.out,List.drop_drop];rfl⟩)⟩
         case measure=>simp[intOf];omega
       ·have hx:=HXX.out;rw[if_pos her] at hx;have HX:=Dh hx;have herb:(er==0)=false:=by simpa using her
        have herb2:(er != 0)=true:=by simpa using her
        clear her hx hte HOP HXX;obtain⟨kind,text,num,place⟩:=t;unfold Qh0;go_wp2
        go_ret3
        exact⟨⟨_,_,_,rfl,by rw[←HX.out];exact⟨rfl,rfl,rfl⟩⟩,Qb hw1 (hB3.alloc hB3.size _)⟩
     ·have hxb:s[pos]=9∨s[pos]=13∨s[pos]=32:=by
       unfold V7 at hbk;simp only[Bool.or_eq_true,beq_iff_eq] at hbk;rcases hbk with (h|h)|h
       ·exact .inl h
       ·exact .inr (.inl h)
       ·exact .inr (.inr h)
      rw[hda,Ws _ _ _ _ _ hbk] at hx;have HX:=Dh hx;clear hx;have e9:((s[pos].toNat:Int)==9)=(s[pos]==9):=B.out 9 9 rfl;have e13:((s[pos].toNat:Int)==13)=(s[pos]==13):=B.out 13 13 rfl;have e32:((s[pos].toNat:Int)==32)=(s[pos]==32):=B.out 32 32 rfl;have hd3:(((s[pos].toNat:Int)==9)=true)∨(((s[pos].toNat:Int)==9)=false∧((s[pos].toNat:Int)==13)=true)∨(((s[pos].toNat:Int)==9)=false∧((s[pos].toNat:Int)==13)=false∧((s[pos].toNat:Int)==32)=true):=by
       rw[e9,e13,e32];rcases hxb with h|h|h <;> rw[h] <;> decide
      clear e9 e13 e32 hxb B hda hbk hb;rcases hd3 with h9|⟨h9,h13⟩|⟨h9,h13,h32⟩;all_goals
       go_wp2
       go_roundw
       case rel=>exact⟨ts,opn,pos+1,rfl,by go_num,by omega,hown,hwr,hts,Dh (.inl ⟨by rw[HL.out];omega,HX.out⟩)⟩
       case measure=>simp[intOf];omega
  ·have hx:=lexS_out HLEX.out (by rw[HL.out];exact hin);have HX:=Dh hx;have hq0:¬ (pos:Int)≤(s.size:Int):=by omega
   have hq0b:decide ((pos:Int)≤(s.size:Int))=false:=decide_eq_false hq0;clear hx HLEX hin;go_wp2
   go_ret3
   exact⟨⟨_,_,_,rfl,by rw[HX.out];exact⟨rfl,rfl,ownsRow_base hown hw1.size⟩⟩,Qb hw1 hwr⟩
theorem Qki (s:ByteArray)(w:World)(hm:s.size≤maxLen):
  Calls Tryz.prog 15 #[.string s] w fun e w'=>RTok w.heap.size (X4 (bl s)) e w'∧Below w.heap.size w w':=by
 unfold maxLen at hm;by_cases hs:65536<s.size
 ·have hr:X4 (bl s)=.error (0,6):=by unfold X4;rw[Xg,if_pos hs]
  rw[hr];have hs1:(65536:Int)<(s.size:Int):=by omega
  clear hr;go_enter Tryz.func15,Tryz.ntmps15
  go_wp2
  go_ret3
  exact⟨⟨_,_,_,rfl,rfl,rfl,rfl⟩,Below.refl _ _⟩
 ·by_cases hv:Zp (bl s)<s.size
  ·have hr:X4 (bl s)=.error (Zp (bl s),3):=by unfold X4;rw[Xg,if_neg hs,if_pos hv]
   rw[hr];have hs1:¬ (65536:Int)<(s.size:Int):=by omega
   have hv1:(Zp (bl s):Int)<(s.size:Int):=by omega
   have HWH:=Dh (fun w1=>Qdm s w1 Dw);clear hr;generalize Zp (bl s)=n at *;go_enter Tryz.func15,Tryz.ntmps15
   go_wp2_with fail
   refine(HWH.out _).mono ?_;rintro e w1 ⟨rfl,hw1⟩;go_wp2_with fail
   refine(HWH.out _).mono ?_;rintro e w2 ⟨rfl,hw2⟩;go_wp2
   go_ret3
   exact⟨⟨_,_,_,rfl,rfl,rfl,rfl⟩,Qb hw1 hw2⟩
  ·have hr:X4 (bl s)=lex (bl s) 0 false 0:=by unfold X4;rw[Xg,if_neg hs,if_neg hv]
   rw[hr];have hle:=Qhy (bl s);rw[Xg] at hle;exact Qid s w Dw Dw
end Go.Proofs.YtcbkeecabcbogaaGreatDoor
