/- The walk of the law ParseLists. Printed by gen_lists.py. -/
import Derived.Test.YtcbkeecabcbogaaGreatDoorHbl
set_option linter.unusedSimpArgs false
set_option linter.unusedVariables false
namespace Go.Proofs.YtcbkeecabcbogaaGreatDoor
open Go.RowKit
namespace Prs
def StrsP (w:World)(b o:Nat)(L:List (List UInt8)):Prop:=∀ (i:Nat) (z:List UInt8),L[i]? = some z→w.cell? ⟨b,o+i,none⟩=some (.string ⟨z.toArray⟩)
theorem Qc5 {ops:Array Oper}{rest:List Oper}{o:Oper}{a:Act}{w:World}{Q:Exit→Act→World→Prop}(hgd:o.guard=none)(s x:Operand)(ho:o.op=.call { callee:=.builtin .append,args := #[s,x],argTypes := #[24,24] })
  {b:Nat} {S:Nat→Prop} {v:Value} {l l':List Tr} (hs:a.eval s=v) (hk:Kids b S w v l) {cs':List Value} {ad:Addr} {c:Nat} (hx:a.eval x=.slice (some ad) l'.length c)
  (hc':Vw (fun k=>S k∧some k≠v.ownBlock) w l' cs') (hcell:∀ j u,cs'[j]? = some u→w.cell? (ad.add j)=some u) (hn:l.length+l'.length≤1000000) (hb:b≤w.heap.size)
  (h:∀ v' w',Kids b S w' v' (l++l')→w.grownBy w' v.ownBlock→(v'.ownBlock=v.ownBlock∨v'.ownBlock=some w.heap.size)→wpList Tryz.prog ops Q rest (a.put o.dst v') w'):wpList Tryz.prog ops Q (o::rest) a w:=
 wpList_plain hgd fun _ hK=>wp_app s x ho hs hk hx hc' hcell hn hb fun v' w' h1 h2 h3=>hK _ _ (h v' w' h1 h2 h3)
theorem Uc.new_at {w w':World}{t:Tr}{e:Ending}(h:Uc w (.ok t) e w'):∃ v0 v1 v2 v3 v4,e=.returned (.tuple #[.agg #[v0,v1,v2,v3,v4],.int .i64 0,.int .i64 0])∧(#[v0,v1,v2,v3,v4]:Array Value).all (·.oneCell')=true∧Zh (w.heap.size ≤ ·) w' t (.agg #[v0,v1,v2,v3,v4])∧Below w.heap.size w w':=by
 obtain⟨v,rfl,hv,hb⟩:=h;obtain⟨v0,v1,v2,v3,v4,rfl,hone⟩:=hv.cells;exact⟨v0,v1,v2,v3,v4,rfl,hone,hv,hb⟩
theorem Zh.row {S:Nat→Prop}{w:World}{t:Tr}{v0 v1 v2 v3 v4:Value}(h:Zh S w t (.agg #[v0,v1,v2,v3,v4])):X7 S w t [v0,v1,v2,v3,v4]:=by
 obtain⟨cs,he,hc⟩:=h;have:cs=[v0,v1,v2,v3,v4]:=(congrArg Array.toList (congrArg Value.cells he)).symm;rwa [this] at hc
structure Args (L:List (List UInt8))(k:Nat)(xs:List Tr):Prop where
 len:xs.length=k
 arg:∀ (j:Nat) (l:List UInt8) (x:Tr),(L.take k)[j]? = some l→xs[j]? = some x→Arg l x∧l.length≤1000∧Xm x≤1000∧Ze x<64
theorem Args.more {L:List (List UInt8)}{k:Nat}{xs:List Tr}{l:List UInt8}{x:Tr}(h:Args L k xs)(hl:L[k]? = some l)(hx:Arg l x∧l.length≤1000∧Xm x≤1000∧Ze x<64):Args L (k+1) (xs++[x]):=by
 have hlen:=h.len;have hk:k<L.length:=(List.getElem?_eq_some_iff.1 hl).1;refine⟨by simp[hlen],fun j l' x' h1 h2=>?_⟩;rw[List.getElem?_take] at h1;split at h1
 ·rename_i hj;rcases Nat.lt_or_ge j k with h3|h3
  ·refine h.arg j l' x' (by rw[List.getElem?_take,if_pos h3];exact h1) ?_;rw[List.getElem?_append_left Dw] at h2;exact h2
  ·obtain rfl:j=k:=by omega
   rw[hl] at h1;cases h1;rw[List.getElem?_append_right Dw,hlen,Nat.sub_self] at h2;cases h2;exact hx
 ·cases h1
theorem Qji {L:List (List UInt8)}{k:Nat}{l:List UInt8}(hl:L[k]? = some l):Ci (L.take (k+1))=Ci (L.take k)++((if k=0 then [] else [44])++l):=by
 have hk:k<L.length:=(List.getElem?_eq_some_iff.1 hl).1;rw[List.take_add_one,hl];show Ci (L.take k++[l])=_
 rw[Qhd];congr 2
 by_cases h0:k=0
 ·subst h0;simp
 ·rw[if_neg h0,if_neg];intro e
  have:=congrArg List.length e;rw[List.length_take,List.length_nil] at this;omega
theorem Qo7 {w wr W:World}{vk:Value}{xs:List Tr}{x:Tr}{v0 v1 v2 v3 v4:Value}(hKd:Kids w.heap.size (w.heap.size ≤ ·) wr vk xs)(hsz:w.heap.size≤wr.heap.size)(h:X7 (wr.heap.size ≤ ·) W x [v0,v1,v2,v3,v4]):
  Vw (fun k=>w.heap.size≤k∧some k≠vk.ownBlock) W [x] [v0,v1,v2,v3,v4]:=by
 obtain⟨cs,hown,-⟩:=hKd;exact Vw.single (h.frame (fun k hk _=>⟨by have hk:wr.heap.size≤k:=hk;omega,fun e=>by have hk:wr.heap.size≤k:=hk;have:=(hown.lt k e.symm).2;omega⟩) fun _ _ _=>rfl)
theorem Kids.lt {b:Nat}{S:Nat→Prop}{w:World}{v:Value}{l:List Tr}(h:Kids b S w v l):∀ k,v.ownBlock=some k→b≤k∧k<w.heap.size:=by
 obtain⟨cs,hown,-⟩:=h;exact hown.lt
theorem Qk2 {o:Oper}{a:Act}{w:World}{K:Act→World→Prop}{Q:Exit→Act→World→Prop}(s x:Operand)(ho:o.op=.call { callee:=.builtin .append,args := #[s,x],argTypes := #[24,24] })
  {b:Nat} {v:Value} {l':List Tr} {kd nn pl:Nat} {y:List UInt8} (hs:a.eval s=.slice (some ⟨w.heap.size,0,none⟩) 1 1) (hx:a.eval x=v) (hk':Kids b (b ≤ ·) w v l') (hb:b≤w.heap.size) (hn:l'.length≤1000)
  {C:Array Value} (hC:C = #[.int .i64 (kd:Int),.string ⟨y.toArray⟩,.int .u64 (nn:Int),.int .i64 (pl:Int),.slice none 0 0])
  (h:∀ r w',Kids b (b ≤ ·) w' r (.mk kd y nn pl []::l')→(∀ k,k<w.heap.size→w'.heap[k]? = w.heap[k]?)→Below w.heap.size w w'→K (a.put o.dst r) w'):o.wp Tryz.prog a (w.alloc (.cells C 26)) K Q:=by
 subst hC;have hal:=(Below.refl w.heap.size w).alloc (Nat.le_refl _) (.cells #[.int .i64 (kd:Int),.string ⟨y.toArray⟩,.int .u64 (nn:Int),.int .i64 (pl:Int),.slice none 0 0] 26);have hnew:=Q4 w (.cells #[.int .i64 (kd:Int),.string ⟨y.toArray⟩,.int .u64 (nn:Int),.int .i64 (pl:Int),.slice none 0 0] 26);generalize hW:w.alloc (.cells #[.int .i64 (kd:Int),.string ⟨y.toArray⟩,.int .u64 (nn:Int),.int .i64 (pl:Int),.slice none 0 0] 26)=W at *;have hk:Kids b (b ≤ ·) W (.slice (some ⟨w.heap.size,0,none⟩) 1 1) [.mk kd y nn pl []]:=by
  refine⟨[.int .i64 (kd:Int),.string ⟨y.toArray⟩,.int .u64 (nn:Int),.int .i64 (pl:Int),.slice none 0 0],⟨rfl,.inr ⟨w.heap.size,1,_,rfl,hb,hnew,Nat.le_refl _,by decide,rfl,rfl⟩⟩,Vw.single ?_⟩;unfold X7;exact⟨none,0,rfl,.inl rfl⟩
 have hlt:=hk'.lt;obtain⟨cs',hown0,hcs0⟩:=hk';have hown':=ownsRow_below hown0 hal;rcases hown'.2 with ⟨rfl,h0⟩|⟨g,cp,cur,rfl,hbg,hg,-⟩
 ·have:l'=[]:=List.length_eq_zero_iff.1 h0;subst this;have H:=h _ W hk (fun k hk=>hal.block k hk) hal;have hr:(Builtin.append_ #[24,24] o.type #[.slice (some ⟨w.heap.size,0,none⟩) 1 1,.slice none 0 0]).run Tryz.prog W=.ok (.slice (some ⟨w.heap.size,0,none⟩) 1 1) W:=by go_simp
  unfold Oper.wp execOp;simp only[ho,resolve,invoke,builtin,Sem.run_bind,Sem.run_pure,Result.andThen_ok,List.map_toArray,List.map_cons,List.map_nil,hs,hx,hr];exact H
 ·refine wp_app s x ho hs hk (l':=l') (cs':=cs') (ad:=⟨g,0,none⟩) (c:=cp) hx ?_ (hown'.cells rfl) (by simp only[List.length_singleton];omega) (Nat.le_trans hb hal.size) fun r w' h1 h2 h3=>?_
  ·exact hcs0.frame (fun k hk hlt=>⟨hk.1,fun e=>by cases e;exact absurd hlt (Nat.lt_irrefl _)⟩) fun k _ hlt=>hal.block k hlt
  ·have hrow:∀ k,k<w.heap.size→w'.heap[k]? = w.heap[k]? := fun k hk=>(h2.block k (by have:=hal.size;omega) fun e=>by cases e;exact absurd hk (Nat.lt_irrefl _)).trans (hal.block k hk)
   exact h r w' h1 hrow ⟨h2.os.trans hal.os,h2.tape.trans hal.tape,h2.output.trans hal.output,Nat.le_trans hal.size h2.size,hrow⟩
set_option maxRecDepth 100000 in
set_option maxHeartbeats 8000000 in
theorem Qk3 (p:Option Addr)(cap:Nat)(L:List (List UInt8))(hL:L.length≤maxLen)(hz:∀ z∈L,z.length≤maxLen)(w:World){f:Where}(hf:P6 w f)(hA:L=[]∨∃ b o,p=some ⟨b,o,none⟩∧StrsP w b o L):
  Calls Tryz.prog 4 #[.slice p L.length cap] w fun e w'=>e=.returned (.bool true)∧Below w.heap.size w w':=by
 have HF:=Dh hf;have HZ:=Dh hz;have HSTR:=Dh hA;have HA:=Dh fun w1 h1=>Qp6 w1 (f:=f) h1
 have HL:=Dh hL;clear hf hz hA hL;go_enter Tryz.func4,Tryz.ntmps4
 go_wp2
 go_loopw [3,4,5] (fun s v i wr=>∃ (k:Nat) (sb:ByteArray) (xs:List Tr) (vk:Value),vk=v∧k≤L.length∧k≤16∧i=.int .i64 k∧s=.string sb∧sb.size≤2+1001*k∧Below w.heap.size w wr∧RowKit.Hid (sb.data.toList=[102,40]++Ci (L.take k))∧RowKit.Hid (Kids w.heap.size (w.heap.size ≤ ·) wr vk xs)∧RowKit.Hid (Args L k xs)) (fun _ _ i _=>L.length-(intOf i).toNat)
 case atStart=>
  refine⟨0,⟨#[102,40]⟩,[],.slice none 0 0,rfl,Nat.zero_le _,Nat.zero_le _,rfl,rfl,by decide,Below.refl _ _,Dh rfl,Dh (Kids.nil _ _ _),Dh ⟨rfl,fun j l x h=>by simp at h⟩⟩
 case round=>
  obtain⟨k,sb,xs,vk,rfl,hk,hk16,rfl,rfl,hsb,hBw,hsd,hKd,hAr⟩:=hrel;by_cases hlt:k<L.length∧k<16
  ·have hkl:=hlt.1;have hkk:=hlt.2;obtain⟨b,o,rfl,hS⟩:=HSTR.out.resolve_left (by rintro rfl;simp at hkl);obtain⟨l,hl⟩:∃ l,L[k]? = some l:=⟨_,List.getElem?_eq_getElem hkl⟩;have hll:=HZ.out l (List.mem_of_getElem? hl);obtain⟨lb,hlb⟩:∃ lb:ByteArray,lb=⟨l.toArray⟩:=⟨_,rfl⟩;have hbl:bl lb=l:=by rw[hlb];simp[bl]
   have hlz:lb.size=l.length:=by rw[←Zc,hbl]
   have q0:wr.cell? ⟨b,o+k,none⟩=some (.string lb):=by rw[hlb];exact bc hBw (hS k l hl)
   have hgb:=Dh hS;have hl:=Dh hl;clear hS hlb;obtain⟨r,hr,hc1⟩:=Qb8 lb wr (HF.out.below hBw) (by rw[hlz];exact hll);rw[show lb.data.toList=l from hbl] at hr;have HC1:=Dh hc1;have hbl:=Dh hbl;have hll:=Dh hll;have hlz:=Dh hlz;have hr:=Dh hr;have hsz0:=Dh hBw.size;clear hc1 hlt;have hq1:(k:Int)<(L.length:Int):=by omega
   have hq2:(k:Int)<16:=by omega
   have hix:k<L.length:=hkl;cases r with
   |error pc=>
    obtain⟨pe,ce⟩:=pc;have hce:=expr_err hr.out;go_wp2_with (first|(go_at_call 9;refine HC1.out.mono ?_;rintro e w1 ⟨rfl,hB⟩;have hB:=Dh hB)|((with_reducible refine Yu rfl _ _ rfl rfl (v0:=.int .i64 0) (v1:=.string ⟨#[]⟩) (v2:=.int .u64 0) (v3:=.int .i64 0) (v4:=.slice none 0 0) ?hx ?hy (by simp[Value.oneCell']) ?_);(case hx=>rfl);(case hy=>rfl);intro W1 hrw hB1;clear hrw;have hB1:=Dh hB1))
    have hW1:=Qi (Qi hBw hB.out) hB1.out;refine(HA.out _ (HF.out.below hW1)).mono ?_;rintro e w9 ⟨rfl,hw9⟩;go_wp2
    go_ret;exact⟨rfl,Qi hW1 hw9⟩
   |ok x=>
    go_wp2_with (first|(go_at_call 9;refine HC1.out.mono ?_;intro e w1 hp;obtain⟨v0,v1,v2,v3,v4,rfl,hone,hV,hB⟩:=hp.new_at;clear hp;have hone:=Dh hone;have hB:=Dh hB;have hV:=Dh hV)|((with_reducible refine Yu rfl _ _ rfl rfl (v0:=v0) (v1:=v1) (v2:=v2) (v3:=v3) (v4:=v4) ?hx ?hy hone.out ?_);(case hx=>rfl);(case hy=>rfl);intro W1 hrw hB1;have HRa:=Dh (show RowV w1.heap.size v0 v1 v2 v3 v4 W1 from hrw);clear hrw;have hB1:=Dh hB1;have q1:W1.cell? ⟨b,o+k,none⟩=some (.string lb):=bc hB1.out (bc hB.out q0);clear q0))
    have hW1:=Dh (Qi (Qi hBw hB.out) hB1.out);have hKr:=hKd;have hKd:=Dh ((hKd.out.below hB.out).below hB1.out);have hKd0:=Dh hKd.out.lt;have hV:=Dh (hV.out.below hB1.out);refine(remark_c lb (by rw[hlz.out];exact hll.out) W1).mono ?_;rintro e w2 ⟨rfl,rfl⟩;cases hrem:Qei (bl lb) with
    |true=>
     go_wp2_with fail
     refine(HA.out _ (HF.out.below hW1.out)).mono ?_;rintro e w9 ⟨rfl,hw9⟩;go_wp2
     go_ret;exact⟨rfl,Qi hW1.out hw9⟩
    |false=>
     by_cases h1000:1000<lb.size
     ·have hq3:(1000:Int)<(lb.size:Int):=by omega
      go_wp2_with fail
      refine(HA.out _ (HF.out.below hW1.out)).mono ?_;rintro e w9 ⟨rfl,hw9⟩;go_wp2
      go_ret;exact⟨rfl,Qi hW1.out hw9⟩
     have hq3:¬ (1000:Int)<(lb.size:Int):=by omega
     obtain⟨ea0,ea1,ea2,ea3,ea4,-⟩:=Zy HRa.out;obtain⟨cs,sm,-,-,-,-,-,hsz,hdp⟩:=Kw hr.out;have hsz:=Dh hsz;have hdp:=Dh hdp;go_wp2_with fail
     refine(rdepth_c 16384 x _ W1 (.agg #[v0,v1,v2,v3,v4]) hsz.out Dw hV.out).mono ?_;rintro e w3 ⟨rfl,hB3⟩;have q3:=bc hB3 q1;have HRa:=Dh (HRa.out.after hB3);have hW3:=Dh (Qi hW1.out hB3);have hKd:=Dh (hKd.out.below hB3);have hV:=Dh (hV.out.below hB3);clear ea0 ea1 ea2 ea3 ea4 q1 hB3;by_cases h64:Ze x=64
     ·have hq4:((Ze x:Int)==64)=true:=by rw[h64];rfl
      have h64:=Dh h64;go_wp2_with fail
      refine(HA.out _ (HF.out.below hW3.out)).mono ?_;rintro e w9 ⟨rfl,hw9⟩;go_wp2
      go_ret;exact⟨rfl,Qi hW3.out hw9⟩
     have hq4:((Ze x:Int)==64)=false:=beq_false_of_ne Dw;have h64:=Dh h64;obtain⟨ea0,ea1,ea2,ea3,ea4,-⟩:=Zy HRa.out;go_wp2_with fail
     refine(rsize_c 16384 x _ w3 (.agg #[v0,v1,v2,v3,v4]) hsz.out Dw hV.out).mono ?_;rintro e w4 ⟨rfl,hB4⟩;have q4:=bc hB4 q3;have HRa:=Dh (HRa.out.after hB4);have hW4:=Dh (Qi hW3.out hB4);have hKd:=Dh (hKd.out.below hB4);have hV:=Dh (hV.out.below hB4);clear ea0 ea1 ea2 ea3 ea4 q3 hB4 hq4 hW3 hW1;by_cases hs1:1000<Xm x
     ·have hq5:(1000:Int)<(Xm x:Int):=by omega
      go_wp2_with fail
      refine(HA.out _ (HF.out.below hW4.out)).mono ?_;rintro e w9 ⟨rfl,hw9⟩;go_wp2
      go_ret;exact⟨rfl,Qi hW4.out hw9⟩
     have hq5:¬ (1000:Int)<(Xm x:Int):=by omega
     go_wp2
     go_loopw [9] (fun i wr2=>∃ j:Nat,i=.int .i64 j∧j≤lb.size∧RowKit.Hid (∀ c∈(bl lb).take j,c≠10)∧w4=wr2) (fun i _=>lb.size-(intOf i).toNat)
     case atStart=>exact⟨0,rfl,Nat.zero_le _,Dh Ds,rfl⟩
     case round=>
     obtain⟨j,rfl,hj,hno,rfl⟩:=hrel;by_cases hlj:j<lb.size
     ·have t10:=Qfj lb[j] 10 10 Dd;have hlj1:(j:Int)<(lb.size:Int):=by omega
      cases b10:(lb[j]==10) with
      |true=>
       rw[b10] at t10;go_wp2_with fail
       refine(HA.out _ (HF.out.below hW4.out)).mono ?_;rintro e w9 ⟨rfl,hw9⟩;go_wp2
       go_ret;exact⟨rfl,Qi hW4.out hw9⟩
      |false=>
       rw[b10] at t10;go_wp2
       refine⟨⟨j+1,by go_num,hlj,Dh fun c hc=>?_,trivial⟩,by simp[intOf];omega⟩;rw[List.take_add_one,List.mem_append] at hc;rcases hc with hc|hc
       ·exact hno.out c hc
       ·have hj2:(bl lb)[j]? = some lb[j]:=by
         rw[List.getElem?_eq_getElem (by rw[Zc];exact hlj)];rfl
        rw[hj2] at hc;simp at hc;rw[hc];exact beq_eq_false_iff_ne.1 b10
     obtain rfl:j=lb.size:=by omega
     have hlj1:¬ (lb.size:Int)<(lb.size:Int):=by omega
     have hArg:RowKit.Hid (Arg l x∧l.length≤1000∧Xm x≤1000∧Ze x<64):=Dh (by
      have h10:=hno.out;rw[List.take_of_length_le (by rw[Zc];exact Nat.le_refl _),hbl.out] at h10;rw[hbl.out] at hrem;obtain⟨n1,n2⟩:=remB_no hrem
      refine⟨⟨hr.out,n1,fun c hc=>⟨h10 c hc,n2 c hc⟩⟩,by have:=hlz.out;omega,by omega,by have:=hdp.out;have:=h64.out;omega⟩)
     have hKc:=Dh (Qo7 (W:=w4.alloc (.cells #[v0,v1,v2,v3,v4] 26)) hKr.out hsz0.out ((hV.out.row).frame (fun _ h _=>h) fun k _ hk=>Below.heap_alloc _ _ _ hk));have hKa:=Dh (hKd.out.below ((Below.refl w4.heap.size w4).alloc (Nat.le_refl _) (.cells #[v0,v1,v2,v3,v4] 26)));obtain⟨ea0,ea1,ea2,ea3,ea4,-⟩:=Zy HRa.out;have hlb1:lb.size≤1000:=by omega
     by_cases hk0:k=0
     ·have hq9:decide ((0:Int)<(k:Int))=false:=decide_eq_false Dw;have hq8:decide (0<k)=false:=decide_eq_false Dw;have HK0:=Dh hk0;clear hk0;go_wp2_with ((at_builtin;refine Qc5 rfl _ _ rfl (b:=w.heap.size) (S:=(w.heap.size ≤ ·)) (l:=xs) (l':=[x]) rfl hKa.out (cs':=[v0,v1,v2,v3,v4]) (ad:=⟨w4.heap.size,0,none⟩) (c:=1) rfl hKc.out Qpx (by simp only[List.length_singleton];have:=hAr.out.len;omega) (by have:=hW4.out.size;simp;omega) ?_;intro v' w5 hK5 hgr hat;have hK5:=Dh hK5;have hB5:=Dh (Below.grown (hW4.out.alloc hW4.out.size _) hgr (by have:=hW4.out.size;simp;omega) fun k hk=>(hKd0.out k hk).1);clear hgr hat))
      exact⟨⟨k+1,sb++lb,xs++[x],_,rfl,hkl,hkk,by go_num,rfl,by simp only[ByteArray.size_append];omega,hB5.out,Dh (by rw[Qji hl.out,if_pos HK0.out];simp[hsd.out,show lb.data.toList=l from hbl.out]),Dh hK5.out,Dh (hAr.out.more hl.out hArg.out)⟩,by simp[intOf];omega⟩
     ·have hq9:decide ((0:Int)<(k:Int))=true:=decide_eq_true Dw;have hq8:decide (0<k)=true:=decide_eq_true Dw;have HK0:=Dh hk0;clear hk0;go_wp2_with ((at_builtin;refine Qc5 rfl _ _ rfl (b:=w.heap.size) (S:=(w.heap.size ≤ ·)) (l:=xs) (l':=[x]) rfl hKa.out (cs':=[v0,v1,v2,v3,v4]) (ad:=⟨w4.heap.size,0,none⟩) (c:=1) rfl hKc.out Qpx (by simp only[List.length_singleton];have:=hAr.out.len;omega) (by have:=hW4.out.size;simp;omega) ?_;intro v' w5 hK5 hgr hat;have hK5:=Dh hK5;have hB5:=Dh (Below.grown (hW4.out.alloc hW4.out.size _) hgr (by have:=hW4.out.size;simp;omega) fun k hk=>(hKd0.out k hk).1);clear hgr hat))
      exact⟨⟨k+1,sb++⟨#[44]⟩++lb,xs++[x],_,rfl,hkl,hkk,by go_num,rfl,by simp only[ByteArray.size_append];have:(⟨#[44]⟩:ByteArray).size=1:=rfl;omega,hB5.out,Dh (by rw[Qji hl.out,if_neg HK0.out];simp[hsd.out,show lb.data.toList=l from hbl.out]),Dh hK5.out,Dh (hAr.out.more hl.out hArg.out)⟩,by simp[intOf];omega⟩
  ·have hq:(decide ((k:Int)<(L.length:Int))=false)∨(decide ((k:Int)<(L.length:Int))=true∧decide ((k:Int)<16)=false):=by
    by_cases h1:k<L.length
    ·exact .inr ⟨decide_eq_true Dw,decide_eq_false Dw⟩
    ·exact .inl (decide_eq_false Dw)
   have hd1:(sb++⟨#[41]⟩:ByteArray).data.toList=H9 (L.take k):=by simp[H9,hsd.out]
   have hlx:(L.take k).length=xs.length:=by rw[List.length_take,hAr.out.len];omega
   have hat1:∀ x∈xs,Xm x≤1000∧Ze x<64:=fun x hx=>by
    obtain⟨i,hi,rfl⟩:=List.getElem_of_mem hx;exact(hAr.out.arg i ((L.take k)[i]'Dw) _ (List.getElem?_eq_getElem Dw) (List.getElem?_eq_getElem hi)).2.2
   have hat2:∀ l∈L.take k,l.length≤1000:=fun l hl=>by
    obtain⟨i,hi,rfl⟩:=List.getElem_of_mem hl;exact(hAr.out.arg i _ (xs[i]'Dw) (List.getElem?_eq_getElem hi) (List.getElem?_eq_getElem Dw)).2.1
   obtain⟨y,hy,hyk,hye⟩:=Qpz hlx (by rw[List.length_take];omega) hat2 (fun i l x h1 h2=>(hAr.out.arg i l x h1 h2).1) (fun x hx=>(hat1 x hx).1) fun x hx=>(hat1 x hx).2
   obtain⟨cs,sm,-,-,-,-,-,hsy,-⟩:=Kw hy;obtain⟨r,hr,hc1⟩:=Qb8 (sb++⟨#[41]⟩) wr (HF.out.below hBw) (by rw[ByteArray.size_append];show sb.size+1≤_;unfold maxLen;omega);rw[hd1,hy] at hr;cases hr;have HC1:=Dh hc1;have hye:=Dh hye;have hsy:=Dh hsy;have hyk:=Dh hyk;have hxn:=Dh (show xs.length≤1000 by have:=hAr.out.len;omega);clear hc1 hd1 hlx hat1 hat2 hy hAr hsd;rcases hq with hq1|⟨hq1,hq2⟩;all_goals
    go_wp2_with (first|(go_at_call 9;refine HC1.out.mono ?_;intro e w1 hp;obtain⟨y0,y1,y2,y3,y4,rfl,hone,hV,hB⟩:=hp.new_at;clear hp;have hone:=Dh hone;have hB:=Dh hB;have hV:=Dh hV)|((with_reducible refine Yu rfl _ _ rfl rfl (v0:=y0) (v1:=y1) (v2:=y2) (v3:=y3) (v4:=y4) ?hx ?hy hone.out ?_);(case hx=>rfl);(case hy=>rfl);intro W1 hrw hB1;have HRy:=Dh (show RowV w1.heap.size y0 y1 y2 y3 y4 W1 from hrw);clear hrw;have hB1:=Dh hB1))
    all_goals try (exfalso;have h9:=of_decide_eq_false hq1;omega)
    all_goals try (exfalso;have h9:=of_decide_eq_true hq1;omega)
    have hW1:=Dh (Qi (Qi hBw hB.out) hB1.out);have hKd:=Dh ((hKd.out.below hB.out).below hB1.out);have hV:=Dh (hV.out.below hB1.out).any;have hy0:y0=.int .i64 34:=by
     have:=hV.out.row;have hk:=hyk.out;cases y with
     |mk k9 x9 n9 p9 l9=>
     have hk:k9=34:=hk;unfold X7 at this;obtain⟨_,_,he,-⟩:=this;simp only[List.cons.injEq] at he;rw[he.1,hk];rfl
    subst hy0;refine wp_region_held_drew (S:=fun w'=>w'.rangeAt w1.heap.size 0 [.int .i64 34,y1,y2,y3,y4]∧w'.cell? ⟨w1.heap.size,0,none⟩=some (.int .i64 34)) Dk ⟨HRy.out.range,(Zy HRy.out).1⟩ (fun hHeld=>?_);have hV:=Dh (hV.out.below (Below.refl W1.heap.size W1).drew);have hKd:=Dh (hKd.out.below (Below.refl W1.heap.size W1).drew);have hB0:=Dh (Qi hW1.out (Below.refl W1.heap.size W1).drew);have hly:=Dh (show w1.heap.size<W1.drew.heap.size from (Array.getElem?_eq_some_iff.1 HRy.out).1);generalize W1.drew=W0 at *;refine Qpa 0 98 rfl rfl Dk Dk (fun K hK=>?_);go_simp;refine(HA.out W0 (HF.out.below hB0.out)).mono ?_;rintro e W2 ⟨rfl,hB2⟩;dsimp only;refine hK.out _ _ ⟨J8 hHeld.1 hB2,bc hB2 hHeld.2⟩ (fun hHeld2=>?_);clear hHeld hK K;have hHeld:=hHeld2;clear hHeld2;have hV:=Dh (hV.out.below hB2);have hKd:=Dh (hKd.out.below hB2);have hB3:=Dh (Qi hB0.out hB2);have hly:=Dh (Nat.lt_of_lt_of_le hly.out hB2.size);clear hB2;try simp only[Act.put,List.setIfInBounds_toArray,List.set_cons_zero,List.set_cons_succ]
    refine Ua 1 99 (v:=.bool true) rfl rfl Dk Dk Dk (fun _ _ _ h=>h) Dk Da ?_ ?_
    ·(intro w hSw;(try dsimp only at hSw);go_simp;try first|with_reducible rfl|rfl)
    try simp only[Act.put,List.setIfInBounds_toArray,List.set_cons_zero,List.set_cons_succ]
    refine Ua 2 100 (v:=.int .i64 0) rfl rfl Dk Dk Dk (fun _ _ _ h=>h) Dk Da ?_ ?_
    ·(intro w hSw;(try dsimp only at hSw);go_simp;try first|with_reducible rfl|rfl)
    try simp only[Act.put,List.setIfInBounds_toArray,List.set_cons_zero,List.set_cons_succ]
    refine Ua 3 101 (v:=.bool true) rfl rfl Dk Dk Dk (fun _ _ _ h=>h) Dk Da ?_ ?_
    ·(intro w hSw;(try dsimp only at hSw);go_simp;try first|with_reducible rfl|rfl)
    try simp only[Act.put,List.setIfInBounds_toArray,List.set_cons_zero,List.set_cons_succ]
    refine Ua 4 102 (v:=.bool true) rfl rfl Dk Dk Dk (fun _ _ _ h=>h) Dk Da ?_ ?_
    ·(intro w hSw;(try dsimp only at hSw);go_simp;try first|with_reducible rfl|rfl)
    try simp only[Act.put,List.setIfInBounds_toArray,List.set_cons_zero,List.set_cons_succ]
    refine Ua 5 103 (v:=.bool true) rfl rfl Dk Dk Dk (fun _ _ _ h=>h) Dk Da ?_ ?_
    ·(intro w hSw;(try dsimp only at hSw);go_simp;try first|with_reducible rfl|rfl)
    try simp only[Act.put,List.setIfInBounds_toArray,List.set_cons_zero,List.set_cons_succ]
    refine Ua 6 104 (v:=.pointer (some ⟨w1.heap.size,0,none⟩)) rfl rfl Dk Dk Dk (fun _ _ _ h=>h) Dk Da ?_ ?_
    ·(intro w hSw;(try dsimp only at hSw);go_simp;try first|with_reducible rfl|rfl)
    try simp only[Act.put,List.setIfInBounds_toArray,List.set_cons_zero,List.set_cons_succ]
    refine Ua 7 105 (v:=.int .i64 34) rfl rfl Dk Dk Dk (fun _ _ _ h=>h) Dk Da ?_ ?_
    ·(intro w hSw;(try dsimp only at hSw);obtain⟨hS1,hS2⟩:=hSw;go_simp;try first|with_reducible rfl|rfl)
    try simp only[Act.put,List.setIfInBounds_toArray,List.set_cons_zero,List.set_cons_succ]
    refine Ua 8 106 (v:=.bool true) rfl rfl Dk Dk Dk (fun _ _ _ h=>h) Dk Da ?_ ?_
    ·(intro w hSw;(try dsimp only at hSw);go_simp;try first|with_reducible rfl|rfl)
    try simp only[Act.put,List.setIfInBounds_toArray,List.set_cons_zero,List.set_cons_succ]
    refine Ua 9 107 (v:=.bool true) rfl rfl Dk Dk Dk (fun _ _ _ h=>h) Dk Da ?_ ?_
    ·(intro w hSw;(try dsimp only at hSw);go_simp;try first|with_reducible rfl|rfl)
    try simp only[Act.put,List.setIfInBounds_toArray,List.set_cons_zero,List.set_cons_succ]
    refine Ua 10 108 (v:=.bool true) rfl rfl Dk Dk Dk (fun _ _ _ h=>h) Dk Da ?_ ?_
    ·(intro w hSw;(try dsimp only at hSw);go_simp;try first|with_reducible rfl|rfl)
    try simp only[Act.put,List.setIfInBounds_toArray,List.set_cons_zero,List.set_cons_succ]
    refine Qo9 11 109 rfl rfl Dk Dk Dk (fun _ _ _ _ h=>h) Dk Da 26 _ rfl w1.heap.size 0 rfl [.int .i64 34,y1,y2,y3,y4] _ (fun w hSw=>hSw.1) Tryz.underlying26 rfl (Xk _ rfl) ?_;try simp only[Act.put,List.setIfInBounds_toArray,List.set_cons_zero,List.set_cons_succ]
    refine Ua 12 110 (v:=.agg #[.int .i64 30,.string ⟨#[102]⟩,.int .u64 0,.int .i64 0,.slice none 0 0]) rfl rfl Dk Dk Dk (fun _ _ _ h=>h) Dk Da ?_ ?_
    ·(intro w hSw;(try dsimp only at hSw);go_simp;try first|with_reducible rfl|rfl)
    try simp only[Act.put,List.setIfInBounds_toArray,List.set_cons_zero,List.set_cons_succ]
    refine Ua 14 112 (v:=vk) rfl rfl Dk Dk Dk (fun _ _ _ h=>h) Dk Da ?_ ?_
    ·(intro w hSw;(try dsimp only at hSw);go_simp;try first|with_reducible rfl|rfl)
    try simp only[Act.put,List.setIfInBounds_toArray,List.set_cons_zero,List.set_cons_succ]
    refine Be 13 rfl Dk Dk (fun K hK=>?_);refine Qht _ rfl rfl ?_;have hal:=(Below.refl W2.heap.size W2).alloc (Nat.le_refl _) (.cells #[.int .i64 30,.string ⟨#[102]⟩,.int .u64 0,.int .i64 0,.slice none 0 0] 26);refine hK.out _ _ ⟨J8 hHeld.1 hal,bc hal hHeld.2⟩ (fun hHeld2=>?_);clear hHeld hK K;have hHeld:=hHeld2;clear hHeld2;try simp only[Act.put,List.setIfInBounds_toArray,List.set_cons_zero,List.set_cons_succ]
    refine Be 15 rfl Dk Dk (fun K hK=>?_);refine Qk2 (.tmp 111) (.tmp 112) rfl (b:=w.heap.size) (v:=vk) (l':=xs) (kd:=30) (nn:=0) (pl:=0) (y:=[102]) rfl rfl hKd.out hB3.out.size hxn.out rfl fun r W4 hK4 hrow hB4=>?_
    have hfr:∀ {o:Nat} {cs:List Value},W2.rangeAt w1.heap.size o cs→W4.rangeAt w1.heap.size o cs:=fun hr j v hv=>Yb (hrow _ hly.out) (hr j v hv)
    obtain⟨ar,cr,hr,-⟩:=hK4.slice;generalize (Tr.mk 30 [102] 0 0 []::xs).length=N at hr;subst hr;have hV4:=Dh (hV.out.below hB4);have hK4:=Dh hK4;have hB5:=Dh (Qi hB3.out hB4);have hrg:W4.rangeAt w1.heap.size 0 [.int .i64 34,y1,y2,y3,y4]:=fun j v hv=>Yb (hrow _ hly.out) (Yb (hal.block _ hly.out).symm (hHeld.1 j v hv))
    refine hK.out _ _ ⟨hrg,hrg 0 _ rfl⟩ (fun hHeld2=>?_);clear hHeld hK K hfr hrg hrow hB4 hal;have hHeld:=hHeld2;clear hHeld2;try simp only[Act.put,List.setIfInBounds_toArray,List.set_cons_zero,List.set_cons_succ]
    refine Ua 16 114 (v:=.agg #[.int .i64 34,.string ⟨#[]⟩,.int .u64 0,.int .i64 0,.slice ar N cr]) rfl rfl Dk Dk Dk (fun _ _ _ h=>h) Dk Da ?_ ?_
    ·(intro w hSw;(try dsimp only at hSw);go_simp;try first|with_reducible rfl|rfl)
    try simp only[Act.put,List.setIfInBounds_toArray,List.set_cons_zero,List.set_cons_succ]
    refine Qpa 17 115 rfl rfl Dk Dk (fun K hK=>?_);go_simp;have hN4:Zh (fun _=>True) W4 (.mk 34 [] 0 0 (.mk 30 [102] 0 0 []::xs)) (.agg #[.int .i64 34,.string ⟨#[]⟩,.int .u64 0,.int .i64 0,.slice ar N cr]):=Zh.any ⟨_,rfl,hK4.out.node 34 [] 0 0⟩;refine(same_c 16384 y (.mk 34 [] 0 0 (.mk 30 [102] 0 0 []::xs)) (fun _=>True) W4 (.agg #[.int .i64 34,y1,y2,y3,y4]) (.agg #[.int .i64 34,.string ⟨#[]⟩,.int .u64 0,.int .i64 0,.slice ar N cr]) hsy.out Dw hV4.out hN4).mono ?_;rintro e W8 ⟨rfl,hB9⟩;dsimp only;rw[Qoa hye.out];refine hK.out _ _ ⟨J8 hHeld.1 hB9,bc hB9 hHeld.2⟩ (fun hHeld2=>?_);have hB10:=Dh (Qi hB5.out hB9);clear hK K hB9 hHeld;try simp only[Act.put,List.setIfInBounds_toArray,List.set_cons_zero,List.set_cons_succ]
    refine Ua 18 116 (v:=.bool true) rfl rfl Dk Dk Dk (fun _ _ _ h=>h) Dk Da ?_ ?_
    ·(intro w hSw;(try dsimp only at hSw);go_simp;try first|with_reducible rfl|rfl)
    try simp only[Act.put,List.setIfInBounds_toArray,List.set_cons_zero,List.set_cons_succ]
    refine Ua 19 2 (v:=.bool true) rfl rfl Dk Dk Dk (fun _ _ _ h=>h) Dk Da ?_ ?_
    ·(intro w hSw;(try dsimp only at hSw);go_simp;try first|with_reducible rfl|rfl)
    try simp only[Act.put,List.setIfInBounds_toArray,List.set_cons_zero,List.set_cons_succ]
    refine⟨by kernel_rfl,?_⟩;go_wp2
    go_ret;exact⟨rfl,hB10.out⟩
end Prs
def StrPA (w:World)(v:Value)(L:List (List UInt8)):Prop:=∃ p cap,v=.slice p L.length cap∧(L=[]∨∃ b o,p=some ⟨b,o,none⟩∧Prs.StrsP w b o L)
theorem Qk7 {H:Type}{enc:TypeId×Value→H}{w:World}{base:Nat}{sp:Nat→Bool}{held:Bool}{fuel:Nat}{v:Value}{x:DataW H×List MemPlace}(h:DataW.trod enc Tryz.prog w base sp held fuel 33 [v]=some x):
  ∃ L:List (List UInt8),StrPA w v L∧L.length≤maxLen∧∀ z∈L,z.length≤maxLen:=by
 rcases ChangeShapes.open_strings Tryz.underlying33 Tryz.underlying9 Dk h with ⟨h1,-⟩|⟨a,len,cap,ss,h1,-,hl,hm,hz,hx,hc,hw⟩
 ·obtain rfl:v=.slice none 0 0:=by simpa using h1
  exact⟨[],⟨none,0,rfl,.inl rfl⟩,by simp,by simp⟩
 ·obtain rfl:v=.slice (some a) len cap:=by simpa using h1
  have hzl:len≤ss.length:=by rw[hz];split <;> omega
  refine⟨(ss.take len).map (·.data.toList),⟨some a,cap,by simp[Nat.min_eq_left hzl],?_⟩,by rw[List.length_map,List.length_take];omega,fun z hz=>?_⟩
  ·by_cases h0:len=0
   ·left;subst h0;simp
   ·right;have hp:0<ss.length:=by omega
    have hc0:=hc 0 hp;have hspot:a.spot=none:=by
     rw[show a.add 0=a from rfl] at hc0;unfold World.cell? at hc0;cases hs:a.spot with
     |none=>rfl
     |some q=>
      rw[hs] at hc0;split at hc0
      ·simp at hc0
      ·cases hc0
    obtain⟨ab,ao,asp⟩:=a;dsimp only at hspot;subst hspot;refine⟨ab,ao,rfl,fun i z hz=>?_⟩;rw[List.getElem?_map,Option.map_eq_some_iff] at hz;obtain⟨s,hs,rfl⟩:=hz;have hi:i<len:=by
     have:=(List.getElem?_eq_some_iff.1 hs).1;rw[List.length_take] at this;omega
    rw[List.getElem?_take,if_pos hi] at hs;have h2:=hc i Dw;rw[List.getD_eq_getElem?_getD,hs,Addr.add_lit] at h2;rw[h2];simp
  ·obtain⟨s,hs,rfl⟩:=List.mem_map.1 hz
   have:=hw s (List.mem_of_mem_take hs);simpa using this
theorem walkParseLists (v:Value)(L:List (List UInt8))(hL:L.length≤maxLen)(hz:∀ z∈L,z.length≤maxLen)(w:World)(h:∃ f,Prs.P6 w f)(hv:StrPA w v L):
  Calls Tryz.prog 4 #[v] w fun e w'=>e=.returned (.bool true)∧Below w.heap.size w w':=by
 obtain⟨f,hf⟩:=h;obtain⟨p,cap,rfl,hA⟩:=hv;exact Prs.Qk3 p cap L hL hz w hf hA
end Go.Proofs.YtcbkeecabcbogaaGreatDoor
