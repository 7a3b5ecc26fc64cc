/- Contract of ParseUint, in tens and in sixteens, at digits. C -/
import Derived.Test.YtcbkeecabcbogaaGreatDoorSbh
import Derived.Lib.AtoiErrMem
import Derived.Laws.Rows
set_option maxRecDepth 100000
set_option maxHeartbeats 2000000
set_option linter.unusedSimpArgs false
set_option linter.unusedVariables false
namespace Go.Proofs.YtcbkeecabcbogaaGreatDoor
open Go.RowKit
theorem Cm (s:ByteArray)(w:World):∃ W1 cap,(convert 9 100 (.string s)).run Tryz.prog w=.ok (.slice (some ⟨w.heap.size,0,none⟩) s.size cap) W1∧
  (∀ j (h:j<s.size),W1.cell? ⟨w.heap.size,j,none⟩=some (.int .u8 (s[j].toNat:Int)))∧Below w.heap.size w W1:=by
 refine⟨_,_,Lib.run_convert_string_bytes w 9 100 5 s Tryz.underlying9 Tryz.underlying100 Tryz.underlying5,fun j h=>?_,Lib.bytesWorld_below w _ s⟩;rw[Lib.bytesWorld_cell w _ s j h];have e:=Rq s j h;unfold bl at e;simp[List.getD,e]
def puV (V:Nat):Value:=if V<18446744073709551616 then Value.tuple #[.int .u64 (V:Int),.nilIface] else .tuple #[.int .u64 18446744073709551615,.iface 114 (.int .i64 1)]
theorem Qmr:IntKind.u64.wrap (IntKind.u64.wrap 18446744073709551616-1)=18446744073709551615:=by decide
theorem Qsb:∀ x:Fin 256,(97≤x.val∧x.val≤102)∨(65≤x.val∧x.val≤70)→bits .or .u8 (x.val:Int) 32=((x.val % 32+96:Nat):Int):=by decide +kernel
theorem lower_c (c:UInt8)(w:World):Calls Tryz.prog 119 #[.int .u8 (c.toNat:Int)] w fun e w'=>e=.returned (.int .u8 (bits .or .u8 (c.toNat:Int) 32))∧w=w':=by
 go_enter Tryz.func119,Tryz.ntmps119
 go_wp2
 go_ret;exact⟨rfl,rfl⟩
theorem pu10 (s:ByteArray)(V:Nat)(w:World)(hs:s.size≤1073741824)(h0:s.size≠0)(hV:Xm false 0 (bl s)=some V):
  Calls Tryz.prog 113 #[.string s,.int .i64 10,.int .i64 64] w fun e w'=>e=.returned (puV V)∧Below w.heap.size w w':=by
 have e1:s.toList.isEmpty=false:=by
  rw[Ug,List.isEmpty_eq_false_iff];exact fun e=>h0 ((Vx s).1 e)
 obtain⟨W1,cap,hcv,hcell,hB⟩:=Cm s w;have hmx:=Qmr;have HV:=Dh hV;have HC:=Dh hcell;clear hV hcell;go_enter Tryz.func113,Tryz.ntmps113
 go_wp2
 clear hcv;go_loop [12,13,101] (fun us n i=>∃ k v:Nat,k≤s.size∧us=.bool false∧i=.int .i64 k∧n=.int .u64 v∧v<18446744073709551616∧Hid (Xm false 0 ((bl s).take k)=some v)) (fun _ _ i=>s.size-(intOf i).toNat)
 case atStart=>exact⟨0,0,by omega,rfl,rfl,rfl,by omega,Dh rfl⟩
 case round=>
  obtain⟨k,v,hk,rfl,rfl,rfl,hv,HK⟩:=hrel;by_cases hlt:k<s.size
  ·have hat:=Rq s k hlt;have hc1:=HC.out k hlt;have hlt1:(k:Int)<(s.size:Int):=by omega
   generalize hch:s[k]=ch at *;have HCH:=Dh hch;have hrest:∀ d,Zn false ch=some d→v*10+d≤V:=fun d hd=>by
    have h1:=Hg false (bl s) k v d ch hat HK.out hd;have h2:=HV.out;rw[←List.take_append_drop (k+1) (bl s),Gz,h1] at h2;exact Qa5 false _ _ _ h2
   cases hdv:Zn false ch with
   |none=>
    have:=Np false (bl s) k v ch hat HK.out hdv;rw[HV.out] at this;cases this
   |some d=>
    have hge:=hrest d hdv;have hdb:d<10:=Lm false ch d hdv;have hsn:Hid (Xm false 0 ((bl s).take (k+1))=some (v*10+d)):=Dh (Hg false (bl s) k v d ch hat HK.out hdv);have hcb:=ch.toNat_lt;obtain⟨hr1,hr2,hdd⟩:48≤ch.toNat∧ch.toNat≤57∧d=ch.toNat-48:=by
     unfold Zn at hdv;split at hdv
     ·rename_i h;exact⟨h.1,h.2,(Option.some.inj hdv).symm⟩
     ·simp at hdv
    have h95:((ch.toNat:Int)==95)=false:=by rw[beq_eq_false_iff_ne];omega
    clear hrest hat HCH hdv;have hd48:IntKind.u8.wrap ((ch.toNat:Int)-48)=(d:Int):=by rw[hdd];simp[IntKind.wrap,IntKind.signed,IntKind.bits];omega
    have HL:=Dh (lower_c ch);have hx1:(48:Int)≤(ch.toNat:Int):=by omega
    have hx2:(ch.toNat:Int)≤57:=by omega
    have hx3:¬ (10:Int)≤(d:Int):=by omega
    have hx4:(0:Int)≤(d:Int):=by omega
    clear hdd hcb;by_cases hcut:1844674407370955162≤v
    ·have HF:Hid (puV V=.tuple #[.int .u64 18446744073709551615,.iface 114 (.int .i64 1)]):=Dh (if_neg Dw);have hcut':decide ((1844674407370955162:Int)≤(v:Int))=true:=by rw[decide_eq_true_eq];omega
     go_wp2_with (first|(go_at_call 119;refine(HL.out _).mono ?_;rintro e w' ⟨rfl,rfl⟩))
     go_ret2
     exact⟨by rw[HF.out];rfl,hB⟩
    ·have hcut':decide ((1844674407370955162:Int)≤(v:Int))=false:=by rw[decide_eq_false_iff_not];omega
     by_cases hbig:18446744073709551616≤v*10+d
     ·have HF:Hid (puV V=.tuple #[.int .u64 18446744073709551615,.iface 114 (.int .i64 1)]):=Dh (if_neg Dw);have hw1:IntKind.u64.wrap ((v:Int)*10)=(v:Int)*10:=by rw[IntKind.wrap_u64];omega
      have hw2:IntKind.u64.wrap ((v:Int)*10+(d:Int))=(v:Int)*10+(d:Int)-18446744073709551616:=by rw[IntKind.wrap_u64];omega
      have hw3:decide ((v:Int)*10+(d:Int)-18446744073709551616<(v:Int)*10)=true:=by rw[decide_eq_true_eq];omega
      have HB:=Dh hbig;clear hbig hge hdb;go_wp2_with (first|(go_at_call 119;refine(HL.out _).mono ?_;rintro e w' ⟨rfl,rfl⟩))
      go_ret2
      exact⟨by rw[HF.out];rfl,hB⟩
     ·have hw1:IntKind.u64.wrap ((v:Int)*10)=(v:Int)*10:=by rw[IntKind.wrap_u64];omega
      have hw2:IntKind.u64.wrap ((v:Int)*10+(d:Int))=(v:Int)*10+(d:Int):=by rw[IntKind.wrap_u64];omega
      have hw3:decide ((v:Int)*10+(d:Int)<(v:Int)*10)=false:=by rw[decide_eq_false_iff_not];omega
      have hw4:decide (18446744073709551615<(v:Int)*10+(d:Int))=false:=by rw[decide_eq_false_iff_not];omega
      have HB:=Dh hbig;clear hbig hge hdb;go_wp2_with (first|(go_at_call 119;refine(HL.out _).mono ?_;rintro e w' ⟨rfl,rfl⟩))
      exact⟨⟨k+1,v*10+d,by omega,rfl,by go_num,by go_num,by have:=HB.out;omega,hsn⟩,by simp[intOf];omega⟩
  ·have hke:k=s.size:=by omega
   subst hke;have hvV:v=V:=by
    have h1:=HK.out;rw[List.take_of_length_le (by rw[Xg];exact Nat.le_refl _),HV.out] at h1;exact(Option.some.inj h1).symm
   subst hvV;have HF:Hid (puV v=.tuple #[.int .u64 (v:Int),.nilIface]):=Dh (if_pos hv);clear HC;go_wp2
   go_ret2
   exact⟨by rw[HF.out];rfl,hB⟩
theorem pu16 (s:ByteArray)(V:Nat)(w:World)(hs:s.size≤1073741824)(h0:s.size≠0)(hV:Xm true 0 (bl s)=some V):
  Calls Tryz.prog 113 #[.string s,.int .i64 16,.int .i64 64] w fun e w'=>e=.returned (puV V)∧Below w.heap.size w w':=by
 have e1:s.toList.isEmpty=false:=by
  rw[Ug,List.isEmpty_eq_false_iff];exact fun e=>h0 ((Vx s).1 e)
 obtain⟨W1,cap,hcv,hcell,hB⟩:=Cm s w;have hmx:=Qmr;have HV:=Dh hV;have HC:=Dh hcell;clear hV hcell;go_enter Tryz.func113,Tryz.ntmps113
 go_wp2
 clear hcv;go_loop [12,13,101] (fun us n i=>∃ k v:Nat,k≤s.size∧us=.bool false∧i=.int .i64 k∧n=.int .u64 v∧v<18446744073709551616∧Hid (Xm true 0 ((bl s).take k)=some v)) (fun _ _ i=>s.size-(intOf i).toNat)
 case atStart=>exact⟨0,0,by omega,rfl,rfl,rfl,by omega,Dh rfl⟩
 case round=>
  obtain⟨k,v,hk,rfl,rfl,rfl,hv,HK⟩:=hrel;by_cases hlt:k<s.size
  ·have hat:=Rq s k hlt;have hc1:=HC.out k hlt;have hlt1:(k:Int)<(s.size:Int):=by omega
   generalize hch:s[k]=ch at *;have HCH:=Dh hch;have hrest:∀ d,Zn true ch=some d→v*16+d≤V:=fun d hd=>by
    have h1:=Hg true (bl s) k v d ch hat HK.out hd;have h2:=HV.out;rw[←List.take_append_drop (k+1) (bl s),Gz,h1] at h2;exact Qa5 true _ _ _ h2
   cases hdv:Zn true ch with
   |none=>
    have:=Np true (bl s) k v ch hat HK.out hdv;rw[HV.out] at this;cases this
   |some d=>
    have hge:=hrest d hdv;have hdb:d<16:=Lm true ch d hdv;have hsn:Hid (Xm true 0 ((bl s).take (k+1))=some (v*16+d)):=Dh (Hg true (bl s) k v d ch hat HK.out hdv);have hcb:=ch.toNat_lt;have hcase:(48≤ch.toNat∧ch.toNat≤57∧d=ch.toNat-48)∨(((97≤ch.toNat∧ch.toNat≤102)∨(65≤ch.toNat∧ch.toNat≤70))∧d=ch.toNat % 32+9):=by
     unfold Zn at hdv;split at hdv
     ·rename_i h;exact .inl ⟨h.1,h.2,(Option.some.inj hdv).symm⟩
     ·split at hdv
      ·rename_i h;have:=Option.some.inj hdv;right;refine⟨.inl ⟨h.2.1,h.2.2⟩,?_⟩;omega
      ·split at hdv
       ·rename_i h;have:=Option.some.inj hdv;right;refine⟨.inr ⟨h.2.1,h.2.2⟩,?_⟩;omega
       ·cases hdv
    rcases hcase with ⟨hr1,hr2,hdd⟩|⟨hr,hdd⟩
    ·have h95:((ch.toNat:Int)==95)=false:=by rw[beq_eq_false_iff_ne];omega
     clear hrest hat HCH hdv;have hd48:IntKind.u8.wrap ((ch.toNat:Int)-48)=(d:Int):=by rw[hdd];simp[IntKind.wrap,IntKind.signed,IntKind.bits];omega
     have HL:=Dh (lower_c ch);have hx1:(48:Int)≤(ch.toNat:Int):=by omega
     have hx2:(ch.toNat:Int)≤57:=by omega
     have hx3:¬ (16:Int)≤(d:Int):=by omega
     have hx4:(0:Int)≤(d:Int):=by omega
     clear hdd hcb;by_cases hcut:1152921504606846976≤v
     ·have HF:Hid (puV V=.tuple #[.int .u64 18446744073709551615,.iface 114 (.int .i64 1)]):=Dh (if_neg Dw);have hcut':decide ((1152921504606846976:Int)≤(v:Int))=true:=by rw[decide_eq_true_eq];omega
      go_wp2_with (first|(go_at_call 119;refine(HL.out _).mono ?_;rintro e w' ⟨rfl,rfl⟩))
      go_ret2
      exact⟨by rw[HF.out];rfl,hB⟩
     ·have hcut':decide ((1152921504606846976:Int)≤(v:Int))=false:=by rw[decide_eq_false_iff_not];omega
      by_cases hbig:18446744073709551616≤v*16+d
      ·have HF:Hid (puV V=.tuple #[.int .u64 18446744073709551615,.iface 114 (.int .i64 1)]):=Dh (if_neg Dw);have hw1:IntKind.u64.wrap ((v:Int)*16)=(v:Int)*16:=by rw[IntKind.wrap_u64];omega
       have hw2:IntKind.u64.wrap ((v:Int)*16+(d:Int))=(v:Int)*16+(d:Int)-18446744073709551616:=by rw[IntKind.wrap_u64];omega
       have hw3:decide ((v:Int)*16+(d:Int)-18446744073709551616<(v:Int)*16)=true:=by rw[decide_eq_true_eq];omega
       have HB:=Dh hbig;clear hbig hge hdb;go_wp2_with (first|(go_at_call 119;refine(HL.out _).mono ?_;rintro e w' ⟨rfl,rfl⟩))
       go_ret2
       exact⟨by rw[HF.out];rfl,hB⟩
      ·have hw1:IntKind.u64.wrap ((v:Int)*16)=(v:Int)*16:=by rw[IntKind.wrap_u64];omega
       have hw2:IntKind.u64.wrap ((v:Int)*16+(d:Int))=(v:Int)*16+(d:Int):=by rw[IntKind.wrap_u64];omega
       have hw3:decide ((v:Int)*16+(d:Int)<(v:Int)*16)=false:=by rw[decide_eq_false_iff_not];omega
       have hw4:decide (18446744073709551615<(v:Int)*16+(d:Int))=false:=by rw[decide_eq_false_iff_not];omega
       have HB:=Dh hbig;clear hbig hge hdb;go_wp2_with (first|(go_at_call 119;refine(HL.out _).mono ?_;rintro e w' ⟨rfl,rfl⟩))
       exact⟨⟨k+1,v*16+d,by omega,rfl,by go_num,by go_num,by have:=HB.out;omega,hsn⟩,by simp[intOf];omega⟩
    ·have hl:=Qsb ⟨ch.toNat,hcb⟩ hr;simp only[] at hl;have h95:((ch.toNat:Int)==95)=false:=by rw[beq_eq_false_iff_ne];omega
     obtain⟨d0,rfl⟩:∃ d0,d=d0+10:=⟨d-10,by omega⟩;have hlc:=lower_c ch;rw[hl,show ((ch.toNat % 32+96:Nat):Int)=(d0:Int)+97 by omega] at hlc;have HL:=Dh hlc;have hx0:(48:Int)≤(ch.toNat:Int):=by omega
     have hx2:¬ (ch.toNat:Int)≤57:=by omega
     have hx3:¬ (16:Int)≤(d0:Int)+10:=by omega
     have hx5:(d0:Int)≤5:=by omega
     have hx4:(0:Int)≤(d0:Int):=by omega
     have hx6:(97:Int)≤(d0:Int)+97:=by omega
     have hx7:(d0:Int)+97≤122:=by omega
     clear hrest hat HCH hdv hl hlc hr hdd hcb;by_cases hcut:1152921504606846976≤v
     ·have HF:Hid (puV V=.tuple #[.int .u64 18446744073709551615,.iface 114 (.int .i64 1)]):=Dh (if_neg Dw);have hcut':decide ((1152921504606846976:Int)≤(v:Int))=true:=by rw[decide_eq_true_eq];omega
      go_wp2_with (first|(go_at_call 119;refine(HL.out _).mono ?_;rintro e w' ⟨rfl,rfl⟩))
      go_ret2
      exact⟨by rw[HF.out];rfl,hB⟩
     ·have hcut':decide ((1152921504606846976:Int)≤(v:Int))=false:=by rw[decide_eq_false_iff_not];omega
      by_cases hbig:18446744073709551616≤v*16+(d0+10)
      ·have HF:Hid (puV V=.tuple #[.int .u64 18446744073709551615,.iface 114 (.int .i64 1)]):=Dh (if_neg Dw);have hw1:IntKind.u64.wrap ((v:Int)*16)=(v:Int)*16:=by rw[IntKind.wrap_u64];omega
       have hw2:IntKind.u64.wrap ((v:Int)*16+((d0:Int)+10))=(v:Int)*16+((d0:Int)+10)-18446744073709551616:=by rw[IntKind.wrap_u64];omega
       have hw3:decide ((v:Int)*16+((d0:Int)+10)-18446744073709551616<(v:Int)*16)=true:=by rw[decide_eq_true_eq];omega
       have HB:=Dh hbig;clear hbig hge hdb;go_wp2_with (first|(go_at_call 119;refine(HL.out _).mono ?_;rintro e w' ⟨rfl,rfl⟩))
       go_ret2
       exact⟨by rw[HF.out];rfl,hB⟩
      ·have hw1:IntKind.u64.wrap ((v:Int)*16)=(v:Int)*16:=by rw[IntKind.wrap_u64];omega
       have hw2:IntKind.u64.wrap ((v:Int)*16+((d0:Int)+10))=(v:Int)*16+((d0:Int)+10):=by rw[IntKind.wrap_u64];omega
       have hw3:decide ((v:Int)*16+((d0:Int)+10)<(v:Int)*16)=false:=by rw[decide_eq_false_iff_not];omega
       have hw4:decide (18446744073709551615<(v:Int)*16+((d0:Int)+10))=false:=by rw[decide_eq_false_iff_not];omega
       have HB:=Dh hbig;clear hbig hge hdb;go_wp2_with (first|(go_at_call 119;refine(HL.out _).mono ?_;rintro e w' ⟨rfl,rfl⟩))
       exact⟨⟨k+1,v*16+(d0+10),by omega,rfl,by go_num,Uk Dw,by have:=HB.out;omega,hsn⟩,by simp[intOf];omega⟩
  ·have hke:k=s.size:=by omega
   subst hke;have hvV:v=V:=by
    have h1:=HK.out;rw[List.take_of_length_le (by rw[Xg];exact Nat.le_refl _),HV.out] at h1;exact(Option.some.inj h1).symm
   subst hvV;have HF:Hid (puV v=.tuple #[.int .u64 (v:Int),.nilIface]):=Dh (if_pos hv);clear HC;go_wp2
   go_ret2
   exact⟨by rw[HF.out];rfl,hB⟩
theorem Qmb (s:ByteArray)(V:Nat)(w:World)(hs:s.size≤1073741824)(h0:s.size≠0)(hV:Xm false 0 (bl s)=some V)(hlt:V<18446744073709551616):
  Calls Tryz.prog 108 #[.string s,.int .i64 10,.int .i64 64] w fun e w'=>e=.returned (.tuple #[.int .u64 (V:Int),.nilIface])∧Below w.heap.size w w':=by
 have hc:=pu10 s V w hs h0 hV;rw[show puV V=_ from if_pos hlt] at hc;have HC:=Dh hc;clear hc hV hlt h0;go_enter Tryz.func108,Tryz.ntmps108
 go_wp2_with fail
 refine HC.out.mono ?_;rintro e w1 ⟨rfl,hw⟩;go_wp2
 go_ret2
 exact⟨rfl,hw⟩
theorem Qdf (s:ByteArray)(V:Nat)(w:World)(h:Laid w)(hs:s.size≤1073741824)(h0:s.size≠0)(hV:Xm false 0 (bl s)=some V)(hlt:¬ V<18446744073709551616):
  Calls Tryz.prog 108 #[.string s,.int .i64 10,.int .i64 64] w fun e w'=>(∃ N:Nat,e=.returned (.tuple #[.int .u64 18446744073709551615,.iface 116 (.pointer (some ⟨N,0,none⟩))]))∧Below w.heap.size w w':=by
 have hc:=pu10 s V w hs h0 hV;rw[show puV V=_ from if_neg hlt] at hc;have HC:=Dh hc;clear hc hV hlt h0;go_enter Tryz.func108,Tryz.ntmps108
 go_wp2_with fail
 refine HC.out.mono ?_;rintro e w1 ⟨rfl,hw⟩;obtain⟨ev,hr,hev⟩:=(h.below hw).range;go_wp2_with fail
 refine(Tryz.strconv_toError_range _ s 10 64 _ w1 Dw hr hev).mono ?_;rintro e w2 ⟨N,rfl,-,-,hw2⟩;have hB:=Qb hw hw2;clear hw hw2 hr;go_wp2
 go_ret2
 exact⟨⟨N,rfl⟩,hB⟩
theorem spu16_ok (s:ByteArray)(V:Nat)(w:World)(hs:s.size≤1073741824)(h0:s.size≠0)(hV:Xm true 0 (bl s)=some V)(hlt:V<18446744073709551616):
  Calls Tryz.prog 108 #[.string s,.int .i64 16,.int .i64 64] w fun e w'=>e=.returned (.tuple #[.int .u64 (V:Int),.nilIface])∧Below w.heap.size w w':=by
 have hc:=pu16 s V w hs h0 hV;rw[show puV V=_ from if_pos hlt] at hc;have HC:=Dh hc;clear hc hV hlt h0;go_enter Tryz.func108,Tryz.ntmps108
 go_wp2_with fail
 refine HC.out.mono ?_;rintro e w1 ⟨rfl,hw⟩;go_wp2
 go_ret2
 exact⟨rfl,hw⟩
theorem Qkc (s:ByteArray)(V:Nat)(w:World)(h:Laid w)(hs:s.size≤1073741824)(h0:s.size≠0)(hV:Xm true 0 (bl s)=some V)(hlt:¬ V<18446744073709551616):
  Calls Tryz.prog 108 #[.string s,.int .i64 16,.int .i64 64] w fun e w'=>(∃ N:Nat,e=.returned (.tuple #[.int .u64 18446744073709551615,.iface 116 (.pointer (some ⟨N,0,none⟩))]))∧Below w.heap.size w w':=by
 have hc:=pu16 s V w hs h0 hV;rw[show puV V=_ from if_neg hlt] at hc;have HC:=Dh hc;clear hc hV hlt h0;go_enter Tryz.func108,Tryz.ntmps108
 go_wp2_with fail
 refine HC.out.mono ?_;rintro e w1 ⟨rfl,hw⟩;obtain⟨ev,hr,hev⟩:=(h.below hw).range;go_wp2_with fail
 refine(Tryz.strconv_toError_range _ s 16 64 _ w1 Dw hr hev).mono ?_;rintro e w2 ⟨N,rfl,-,-,hw2⟩;have hB:=Qb hw hw2;clear hw hw2 hr;go_wp2
 go_ret2
 exact⟨⟨N,rfl⟩,hB⟩
theorem Qkr (l:List UInt8):Qoa [48,120] l=Hz l:=by
 rw[Wv];unfold Qoa;match l with
 | []=>rfl
 | [a]=>simp[List.isPrefixOf]
 |a::b::m=>
  by_cases ha:a=48
  ·by_cases hb:b=120
   ·subst ha hb;simp[List.isPrefixOf]
   ·have hb1:(b==120)=false:=beq_eq_false_iff_ne.2 hb;have hb2:(120==b)=false:=beq_eq_false_iff_ne.2 (fun e=>hb e.symm);subst ha;simp[List.isPrefixOf,hb1,hb2]
  ·have ha1:(a==48)=false:=beq_eq_false_iff_ne.2 ha;have ha2:(48==a)=false:=beq_eq_false_iff_ne.2 (fun e=>ha e.symm);simp[List.isPrefixOf,ha1,ha2]
theorem Qs3 (c:UInt8):(Zn false c).isSome=Tv (c.toNat:Int):=by
 unfold Zn Tv;by_cases h:48≤c.toNat∧c.toNat≤57
 ·rw[if_pos h];simp;omega
 ·rw[if_neg h];simp;omega
theorem hexl_iff (c:UInt8):Qea c=decide ((97≤c.toNat∧c.toNat≤102)∨(65≤c.toNat∧c.toNat≤70)):=by
 have h:∀ x:Fin 256,Qea (UInt8.ofNat x.val)=decide ((97≤x.val∧x.val≤102)∨(65≤x.val∧x.val≤70)):=by decide +kernel
 have:=h ⟨c.toNat,c.toNat_lt⟩;simpa using this
theorem dig_hex (c:UInt8):(Zn true c).isSome=(Tv (c.toNat:Int)||Qea c):=by
 rw[hexl_iff];unfold Zn Tv;by_cases h:48≤c.toNat∧c.toNat≤57
 ·rw[if_pos h];simp;omega
 ·rw[if_neg h];by_cases h2:97≤c.toNat∧c.toNat≤102
  ·rw[if_pos ⟨rfl,h2⟩];simp;omega
  ·rw[if_neg (by simpa using h2)];by_cases h3:65≤c.toNat∧c.toNat≤70
   ·rw[if_pos ⟨rfl,h3⟩];simp;omega
   ·rw[if_neg (by simpa using h3)];simp;omega
theorem num_dec (s:ByteArray)(w:World)(h:Laid w)(hs:s.size≤1073741824)(hz:Kr (bl s)=false)(hx:Hz (bl s)=false):Calls Tryz.prog 95 #[.string s] w fun e w'=>e=.returned (.tuple #[.int .u64 ((Fq (bl s)).1:Int),.int .i64 (Fq (bl s)).2])∧Below w.heap.size w w':=by
 have hp:=fun w=>Ar s ⟨#[48,120]⟩ w
 rw[show bl ⟨#[48,120]⟩=[48,120] from rfl,Qkr,hx] at hp;have HP:=Dh hp;clear hp;have hD:digitsOf (bl s)=bl s:=by simp[digitsOf,hx]
 have hok:Hz (bl s)=true∨Kr (bl s)=false:=.inr hz;have HT:Hid (bl s=digitsOf (bl s)):=Dh hD.symm;have hL0:=h;have hB0:=Below.refl w.heap.size w;obtain⟨W1,cap,hcv,hcell,hB⟩:=Cm s w;have hts:=hs;have hnz:∀ h:2≤s.size,¬ ((s[0].toNat:Int)=48):=fun h e=>by
  rw[Jg,Rq s 0 Dw,Xg] at hz;have:s[0]=48:=by apply UInt8.toNat_inj.1;show _=48;omega
  rw[this] at hz;simp at hz;omega
 clear hz;have HCELL:=Dh hcell;have HX:=Dh hx;have HOK:=Dh hok;have hL1:=hL0.below hB;have hB1:Below w.heap.size w W1:=Qb hB0 hB;clear hcell hx hok hD h hB0;by_cases h2:2≤s.size
 ·have g0:=hnz h2;have g0':((s[0].toNat:Int)==48)=false:=by rw[beq_eq_false_iff_ne];exact g0
  have g2:(1:Int)<(s.size:Int):=by omega
  clear hnz g0;go_enter Tryz.func95,Tryz.ntmps95
  go_wp2_with fail
  refine(HP.out _).mono ?_;rintro e w' ⟨rfl,rfl⟩;go_wp2
  clear hcv g0' g2;go_loopw [26] (fun i wr=>∃ k v:Nat,k≤s.size∧i=.int .i64 k∧Below W1.heap.size W1 wr∧Hid (Xm false 0 ((bl s).take k)=some v)) (fun i _=>s.size-(intOf i).toNat)
  case atStart=>exact⟨0,0,by omega,rfl,Below.refl _ _,Dh rfl⟩
  case round=>
   obtain⟨k,v,hk,rfl,hwr,HK⟩:=hrel;by_cases hlt:k<s.size
   ·have hat:=Rq s k hlt;have hc1:=HCELL.out k hlt;have hc2:wr.cell? ⟨w.heap.size,k,none⟩=some (.int .u8 (s[k].toNat:Int)):=by
     rw[hwr.cell (p:=⟨w.heap.size,k,none⟩) (Lib.lt_of_cell hc1)];exact hc1
    have hlt1:(k:Int)<(s.size:Int):=by omega
    generalize hch:s[k]=ch at *;have HCH:=Dh hch;have hcb:=ch.toNat_lt;have hcb1:(ch.toNat:Int)<256:=by omega
    have hcb0:(0:Int)≤(ch.toNat:Int):=by omega
    have hw32:IntKind.i32.wrap (ch.toNat:Int)=(ch.toNat:Int):=by simp[IntKind.wrap,IntKind.signed,IntKind.bits];omega
    have hbad:Zn false ch=none→Fq (bl s)=(0,4):=fun hd=>Bq (bl s) (by rw[HX.out,←HT.out];exact Np false _ k v ch hat HK.out hd)
    have hgood:Zn false ch≠none→∃ v',Xm false 0 ((bl s).take (k+1))=some v':=fun hd=>by
     obtain⟨d,hd⟩:=Option.ne_none_iff_exists'.1 hd;exact⟨_,Hg false _ k v d ch hat HK.out hd⟩
    have hsome:=Qs3 ch;have HBAD:=Dh hbad;have HGOOD:=Dh hgood;clear hbad hgood hat hc1 hch HCH hcb;cases hd:Tv (ch.toNat:Int)
    ·have hr:=HBAD.out (by rw[hd] at hsome;simpa using hsome);have HR:=Dh hr;clear hr hsome;go_wp2_with (first|(go_at_call 94;refine(Yc _ _).mono ?_;rintro e w' ⟨rfl,rfl⟩))
     go_ret2
     exact⟨Un (Uk (by rw[HR.out];try rfl)) (Uk (by rw[HR.out];try rfl)),Qb hB1 hwr⟩
    ·obtain⟨v',hv'⟩:=HGOOD.out (by rw[hd] at hsome;intro hn;rw[hn] at hsome;cases hsome);have HV:=Dh hv';clear hv' hsome;go_wp2_with (first|(go_at_call 94;refine(Yc _ _).mono ?_;rintro e w' ⟨rfl,rfl⟩))
     exact⟨⟨k+1,v',by omega,by go_num,hwr,HV⟩,by simp[intOf];omega⟩
   ·have hke:k=s.size:=by omega
    subst hke;have hval:Xm false 0 (bl s)=some v:=by
     have h1:=HK.out;rwa [List.take_of_length_le (by rw[Xg];exact Nat.le_refl _)] at h1
    have hBw:Below w.heap.size w wr:=Qb hB1 hwr;have hLw:=hL1.below hwr;clear HK;by_cases h0:s.size=0
    ·have e1:s.toList=[]:=by rw[Ug];exact(Vx s).2 h0
     have hr:=Wn (bl s) (by rw[←HT.out];exact(Vx s).2 h0);have HR:=Dh hr;have hz0:¬ (((s.size:Nat):Int)<((s.size:Nat):Int)):=by omega
     clear hr hval hL1 hB hLw;go_wp2
     go_ret2
     exact⟨Un (Uk (by rw[HR.out];try rfl)) (Uk (by rw[HR.out];try rfl)),hBw⟩
    ·have e1:s.toList.isEmpty=false:=by
      rw[Ug,List.isEmpty_eq_false_iff];exact fun e=>h0 ((Vx s).1 e)
     have hr:=Qa9 (bl s) v (by rw[HX.out,←HT.out];exact hval) HOK.out (by rw[←HT.out];exact fun e=>h0 ((Vx s).1 e));by_cases hV:v<18446744073709551616
     ·rw[if_pos hV] at hr;have HR:=Dh hr;have HC:=Dh (Qmb s v wr hts h0 hval hV);clear hr hval hV;go_wp2_with fail
      refine HC.out.mono ?_;rintro e w4 ⟨rfl,hw4⟩;have hBe:=Qb hBw hw4;clear hw4 hBw HC;go_wp2
      go_ret2
      exact⟨Un (Uk (by rw[HR.out])) (Uk (by rw[HR.out])),hBe⟩
     ·rw[if_neg hV] at hr;have HR:=Dh hr;have HC:=Dh (Qdf s v wr hLw hts h0 hval hV);clear hr hval hV;go_wp2_with fail
      refine HC.out.mono ?_;rintro e w4 ⟨⟨N,rfl⟩,hw4⟩;have hBe:=Qb hBw hw4;clear hw4 hBw HC;go_wp2
      go_ret2
      exact⟨Un (Uk (by rw[HR.out];try rfl)) (Uk (by rw[HR.out])),hBe⟩
 ·have g2:¬ (1:Int)<(s.size:Int):=by omega
  clear hnz;go_enter Tryz.func95,Tryz.ntmps95
  go_wp2_with fail
  refine(HP.out _).mono ?_;rintro e w' ⟨rfl,rfl⟩;go_wp2
  clear hcv g2;go_loopw [26] (fun i wr=>∃ k v:Nat,k≤s.size∧i=.int .i64 k∧Below W1.heap.size W1 wr∧Hid (Xm false 0 ((bl s).take k)=some v)) (fun i _=>s.size-(intOf i).toNat)
  case atStart=>exact⟨0,0,by omega,rfl,Below.refl _ _,Dh rfl⟩
  case round=>
   obtain⟨k,v,hk,rfl,hwr,HK⟩:=hrel;by_cases hlt:k<s.size
   ·have hat:=Rq s k hlt;have hc1:=HCELL.out k hlt;have hc2:wr.cell? ⟨w.heap.size,k,none⟩=some (.int .u8 (s[k].toNat:Int)):=by
     rw[hwr.cell (p:=⟨w.heap.size,k,none⟩) (Lib.lt_of_cell hc1)];exact hc1
    have hlt1:(k:Int)<(s.size:Int):=by omega
    generalize hch:s[k]=ch at *;have HCH:=Dh hch;have hcb:=ch.toNat_lt;have hcb1:(ch.toNat:Int)<256:=by omega
    have hcb0:(0:Int)≤(ch.toNat:Int):=by omega
    have hw32:IntKind.i32.wrap (ch.toNat:Int)=(ch.toNat:Int):=by simp[IntKind.wrap,IntKind.signed,IntKind.bits];omega
    have hbad:Zn false ch=none→Fq (bl s)=(0,4):=fun hd=>Bq (bl s) (by rw[HX.out,←HT.out];exact Np false _ k v ch hat HK.out hd)
    have hgood:Zn false ch≠none→∃ v',Xm false 0 ((bl s).take (k+1))=some v':=fun hd=>by
     obtain⟨d,hd⟩:=Option.ne_none_iff_exists'.1 hd;exact⟨_,Hg false _ k v d ch hat HK.out hd⟩
    have hsome:=Qs3 ch;have HBAD:=Dh hbad;have HGOOD:=Dh hgood;clear hbad hgood hat hc1 hch HCH hcb;cases hd:Tv (ch.toNat:Int)
    ·have hr:=HBAD.out (by rw[hd] at hsome;simpa using hsome);have HR:=Dh hr;clear hr hsome;go_wp2_with (first|(go_at_call 94;refine(Yc _ _).mono ?_;rintro e w' ⟨rfl,rfl⟩))
     go_ret2
     exact⟨Un (Uk (by rw[HR.out];try rfl)) (Uk (by rw[HR.out];try rfl)),Qb hB1 hwr⟩
    ·obtain⟨v',hv'⟩:=HGOOD.out (by rw[hd] at hsome;intro hn;rw[hn] at hsome;cases hsome);have HV:=Dh hv';clear hv' hsome;go_wp2_with (first|(go_at_call 94;refine(Yc _ _).mono ?_;rintro e w' ⟨rfl,rfl⟩))
     exact⟨⟨k+1,v',by omega,by go_num,hwr,HV⟩,by simp[intOf];omega⟩
   ·have hke:k=s.size:=by omega
    subst hke;have hval:Xm false 0 (bl s)=some v:=by
     have h1:=HK.out;rwa [List.take_of_length_le (by rw[Xg];exact Nat.le_refl _)] at h1
    have hBw:Below w.heap.size w wr:=Qb hB1 hwr;have hLw:=hL1.below hwr;clear HK;by_cases h0:s.size=0
    ·have e1:s.toList=[]:=by rw[Ug];exact(Vx s).2 h0
     have hr:=Wn (bl s) (by rw[←HT.out];exact(Vx s).2 h0);have HR:=Dh hr;have hz0:¬ (((s.size:Nat):Int)<((s.size:Nat):Int)):=by omega
     clear hr hval hL1 hB hLw;go_wp2
     go_ret2
     exact⟨Un (Uk (by rw[HR.out];try rfl)) (Uk (by rw[HR.out];try rfl)),hBw⟩
    ·have e1:s.toList.isEmpty=false:=by
      rw[Ug,List.isEmpty_eq_false_iff];exact fun e=>h0 ((Vx s).1 e)
     have hr:=Qa9 (bl s) v (by rw[HX.out,←HT.out];exact hval) HOK.out (by rw[←HT.out];exact fun e=>h0 ((Vx s).1 e));by_cases hV:v<18446744073709551616
     ·rw[if_pos hV] at hr;have HR:=Dh hr;have HC:=Dh (Qmb s v wr hts h0 hval hV);clear hr hval hV;go_wp2_with fail
      refine HC.out.mono ?_;rintro e w4 ⟨rfl,hw4⟩;have hBe:=Qb hBw hw4;clear hw4 hBw HC;go_wp2
      go_ret2
      exact⟨Un (Uk (by rw[HR.out])) (Uk (by rw[HR.out])),hBe⟩
     ·rw[if_neg hV] at hr;have HR:=Dh hr;have HC:=Dh (Qdf s v wr hLw hts h0 hval hV);clear hr hval hV;go_wp2_with fail
      refine HC.out.mono ?_;rintro e w4 ⟨⟨N,rfl⟩,hw4⟩;have hBe:=Qb hBw hw4;clear hw4 hBw HC;go_wp2
      go_ret2
      exact⟨Un (Uk (by rw[HR.out];try rfl)) (Uk (by rw[HR.out])),hBe⟩
theorem num_hex (s:ByteArray)(w:World)(h:Laid w)(hs:s.size≤1073741824)(hx:Hz (bl s)=true):Calls Tryz.prog 95 #[.string s] w fun e w'=>e=.returned (.tuple #[.int .u64 ((Fq (bl s)).1:Int),.int .i64 (Fq (bl s)).2])∧Below w.heap.size w w':=by
 have hp:=fun w=>Ar s ⟨#[48,120]⟩ w
 rw[show bl ⟨#[48,120]⟩=[48,120] from rfl,Qkr,hx] at hp;have HP:=Dh hp;clear hp;have h2:2≤s.size:=by
  rw[Wv] at hx;simp at hx;rw[Xg] at hx;exact hx.1.1
 have g2:(2:Int)≤(s.size:Int):=by omega
 have hD:digitsOf (bl s)=(bl s).drop 2:=by simp[digitsOf,hx]
 have hok:Hz (bl s)=true∨Kr (bl s)=false:=.inl hx;have hbt:bl (s.extract 2 s.size)=digitsOf (bl s):=by rw[Lt,hD]
 go_enter Tryz.func95,Tryz.ntmps95
 go_wp2_with fail
 refine(HP.out _).mono ?_;rintro e w' ⟨rfl,rfl⟩;go_wp2_with fail
 go_quiet (fail)
 have hB0:=Zg (Below.refl w.heap.size w) nq;have hL0:=h.below hB0;generalize w.drewN nq=w0 at *;have hts:(s.extract 2 s.size).size≤1073741824:=by rw[Ak];omega
 generalize s.extract 2 s.size=t at *;obtain⟨W1,cap,hcv,hcell,hB⟩:=Cm t w0;have HT:=Dh hbt;clear hbt g2;have HCELL:=Dh hcell;have HX:=Dh hx;have HOK:=Dh hok;have hL1:=hL0.below hB;have hB1:Below w.heap.size w W1:=Qb hB0 hB;clear hcell hx hok hD h hB0;go_wp2
 clear hcv;go_loopw [26] (fun i wr=>∃ k v:Nat,k≤t.size∧i=.int .i64 k∧Below W1.heap.size W1 wr∧Hid (Xm true 0 ((bl t).take k)=some v)) (fun i _=>t.size-(intOf i).toNat)
 case atStart=>exact⟨0,0,by omega,rfl,Below.refl _ _,Dh rfl⟩
 case round=>
  obtain⟨k,v,hk,rfl,hwr,HK⟩:=hrel;by_cases hlt:k<t.size
  ·have hat:=Rq t k hlt;have hc1:=HCELL.out k hlt;have hc2:wr.cell? ⟨w0.heap.size,k,none⟩=some (.int .u8 (t[k].toNat:Int)):=by
    rw[hwr.cell (p:=⟨w0.heap.size,k,none⟩) (Lib.lt_of_cell hc1)];exact hc1
   have hlt1:(k:Int)<(t.size:Int):=by omega
   generalize hch:t[k]=ch at *;have HCH:=Dh hch;have hcb:=ch.toNat_lt;have hcb1:(ch.toNat:Int)<256:=by omega
   have hcb0:(0:Int)≤(ch.toNat:Int):=by omega
   have hw32:IntKind.i32.wrap (ch.toNat:Int)=(ch.toNat:Int):=by simp[IntKind.wrap,IntKind.signed,IntKind.bits];omega
   have hbad:Zn true ch=none→Fq (bl s)=(0,4):=fun hd=>Bq (bl s) (by rw[HX.out,←HT.out];exact Np true _ k v ch hat HK.out hd)
   have hgood:Zn true ch≠none→∃ v',Xm true 0 ((bl t).take (k+1))=some v':=fun hd=>by
    obtain⟨d,hd⟩:=Option.ne_none_iff_exists'.1 hd;exact⟨_,Hg true _ k v d ch hat HK.out hd⟩
   have hsome:=dig_hex ch;have HBAD:=Dh hbad;have HGOOD:=Dh hgood;clear hbad hgood hat hc1 hch HCH hcb;cases hd:Tv (ch.toNat:Int)
   ·have hcr:=Qsl ch wr;cases hl:Qea ch
    ·have hr:=HBAD.out (by rw[hd,hl] at hsome;simpa using hsome);have HR:=Dh hr;rw[hl] at hcr;have HCR:=Dh hcr;clear hr hsome hcr hl;go_wp2_with (first|(go_at_call 94;refine(Yc _ _).mono ?_;rintro e w' ⟨rfl,rfl⟩)|(go_at_call 104;refine HCR.out.mono ?_;rintro e w3 ⟨rfl,hw3⟩))
     go_ret2
     exact⟨Un (Uk (by rw[HR.out];try rfl)) (Uk (by rw[HR.out];try rfl)),Qb (Qb hB1 hwr) hw3⟩
    ·obtain⟨v',hv'⟩:=HGOOD.out (by rw[hd,hl] at hsome;intro hn;rw[hn] at hsome;cases hsome);have HV:=Dh hv';rw[hl] at hcr;have HCR:=Dh hcr;clear hv' hsome hcr hl;go_wp2_with (first|(go_at_call 94;refine(Yc _ _).mono ?_;rintro e w' ⟨rfl,rfl⟩)|(go_at_call 104;refine HCR.out.mono ?_;rintro e w3 ⟨rfl,hw3⟩))
     exact⟨⟨k+1,v',by omega,by go_num,Qb hwr hw3,HV⟩,by simp[intOf];omega⟩
   ·obtain⟨v',hv'⟩:=HGOOD.out (by rw[hd] at hsome;intro hn;rw[hn] at hsome;cases hsome);have HV:=Dh hv';clear hv' hsome;go_wp2_with (first|(go_at_call 94;refine(Yc _ _).mono ?_;rintro e w' ⟨rfl,rfl⟩))
    exact⟨⟨k+1,v',by omega,by go_num,hwr,HV⟩,by simp[intOf];omega⟩
  ·have hke:k=t.size:=by omega
   subst hke;have hval:Xm true 0 (bl t)=some v:=by
    have h1:=HK.out;rwa [List.take_of_length_le (by rw[Xg];exact Nat.le_refl _)] at h1
   have hBw:Below w.heap.size w wr:=Qb hB1 hwr;have hLw:=hL1.below hwr;clear HK;by_cases h0:t.size=0
   ·have e1:t.toList=[]:=by rw[Ug];exact(Vx t).2 h0
    have hr:=Wn (bl s) (by rw[←HT.out];exact(Vx t).2 h0);have HR:=Dh hr;have hz0:¬ (((t.size:Nat):Int)<((t.size:Nat):Int)):=by omega
    clear hr hval hL1 hB hLw;go_wp2
    go_ret2
    exact⟨Un (Uk (by rw[HR.out];try rfl)) (Uk (by rw[HR.out];try rfl)),hBw⟩
   ·have e1:t.toList.isEmpty=false:=by
     rw[Ug,List.isEmpty_eq_false_iff];exact fun e=>h0 ((Vx t).1 e)
    have hr:=Qa9 (bl s) v (by rw[HX.out,←HT.out];exact hval) HOK.out (by rw[←HT.out];exact fun e=>h0 ((Vx t).1 e));by_cases hV:v<18446744073709551616
    ·rw[if_pos hV] at hr;have HR:=Dh hr;have HC:=Dh (spu16_ok t v wr hts h0 hval hV);clear hr hval hV;go_wp2_with fail
     refine HC.out.mono ?_;rintro e w4 ⟨rfl,hw4⟩;have hBe:=Qb hBw hw4;clear hw4 hBw HC;go_wp2
     go_ret2
     exact⟨Un (Uk (by rw[HR.out])) (Uk (by rw[HR.out])),hBe⟩
    ·rw[if_neg hV] at hr;have HR:=Dh hr;have HC:=Dh (Qkc t v wr hLw hts h0 hval hV);clear hr hval hV;go_wp2_with fail
     refine HC.out.mono ?_;rintro e w4 ⟨⟨N,rfl⟩,hw4⟩;have hBe:=Qb hBw hw4;clear hw4 hBw HC;go_wp2
     go_ret2
     exact⟨Un (Uk (by rw[HR.out];try rfl)) (Uk (by rw[HR.out])),hBe⟩
theorem num_zero (s:ByteArray)(w:World)(hz:Kr (bl s)=true)(hx:Hz (bl s)=false):Calls Tryz.prog 95 #[.string s] w fun e w'=>e=.returned (.tuple #[.int .u64 ((Fq (bl s)).1:Int),.int .i64 (Fq (bl s)).2])∧w=w':=by
 have hp:=fun w=>Ar s ⟨#[48,120]⟩ w
 rw[show bl ⟨#[48,120]⟩=[48,120] from rfl,Qkr,hx] at hp;have HP:=Dh hp;have hr:=Qiq (bl s) hx hz;rw[hr];have h2:2≤s.size:=by rw[Jg] at hz;simp at hz;rw[Xg] at hz;exact hz.1
 have h0:s[0]=48:=by
  rw[Jg,Rq s 0 Dw] at hz;simp at hz;exact hz.2
 have g0:((s[0].toNat:Int)==48)=true:=by rw[h0];rfl
 have g2:(1:Int)<(s.size:Int):=by omega
 clear hp hr hz hx h0;go_enter Tryz.func95,Tryz.ntmps95
 go_wp2_with fail
 refine(HP.out _).mono ?_;rintro e w' ⟨rfl,rfl⟩;go_wp2
 go_ret2
 exact⟨rfl,rfl⟩
theorem number_c (s:ByteArray)(w:World)(h:Laid w)(hs:s.size≤1073741824):Calls Tryz.prog 95 #[.string s] w fun e w'=>e=.returned (.tuple #[.int .u64 ((Fq (bl s)).1:Int),.int .i64 (Fq (bl s)).2])∧Below w.heap.size w w':=by
 cases hx:Hz (bl s)
 ·cases hz:Kr (bl s)
  ·exact num_dec s w h hs hz hx
  ·exact(num_zero s w hz hx).mono fun _ _ ⟨h1,h2⟩=>⟨h1,h2 ▸ Below.refl _ _⟩
 ·exact num_hex s w h hs hx
def Qh0 (t:Tok):Value:=.agg #[.int .i64 t.kind,.string ⟨t.text.toArray⟩,.int .u64 t.num,.int .i64 (t.place:Int)]
theorem cut_to (s:ByteArray)(n:Nat):s.extract 0 n=⟨((bl s).take n).toArray⟩:=by
 apply bl_inj;rw[Qex];exact(Qhr _).symm
theorem sign_at:(k:Nat)→k<33→∀ w,(Instr.index 95 (.agg Qkd) (.int .i64 (k:Int))).run Tryz.prog w=.ok (.string ⟨(Vp.getD k []).toArray⟩) w
 |0,_,w=>by kernel_rfl
 |1,_,w=>by kernel_rfl
 |2,_,w=>by kernel_rfl
 |3,_,w=>by kernel_rfl
 |4,_,w=>by kernel_rfl
 |5,_,w=>by kernel_rfl
 |6,_,w=>by kernel_rfl
 |7,_,w=>by kernel_rfl
 |8,_,w=>by kernel_rfl
 |9,_,w=>by kernel_rfl
 |10,_,w=>by kernel_rfl
 |11,_,w=>by kernel_rfl
 |12,_,w=>by kernel_rfl
 |13,_,w=>by kernel_rfl
 |14,_,w=>by kernel_rfl
 |15,_,w=>by kernel_rfl
 |16,_,w=>by kernel_rfl
 |17,_,w=>by kernel_rfl
 |18,_,w=>by kernel_rfl
 |19,_,w=>by kernel_rfl
 |20,_,w=>by kernel_rfl
 |21,_,w=>by kernel_rfl
 |22,_,w=>by kernel_rfl
 |23,_,w=>by kernel_rfl
 |24,_,w=>by kernel_rfl
 |25,_,w=>by kernel_rfl
 |26,_,w=>by kernel_rfl
 |27,_,w=>by kernel_rfl
 |28,_,w=>by kernel_rfl
 |29,_,w=>by kernel_rfl
 |30,_,w=>by kernel_rfl
 |31,_,w=>by kernel_rfl
 |32,_,w=>by kernel_rfl
 |k+33,h,_=>absurd h Dw
theorem one_let (s:ByteArray)(p:Nat)(w:World)(h:Laid w)(hs:s.size≤1073741824)(h0:s.size≠0)(hL:isLet (Zl (bl s)).1=true):
  Calls Tryz.prog 63 #[.string s,.int .i64 p] w fun e w'=>e=.returned (.tuple #[Qh0 (Ym (bl s) p).1,.int .i64 ((Ym (bl s) p).2.1:Int),.int .i64 (Ym (bl s) p).2.2])∧Below w.heap.size w w':=by
 have hn:=Qa7 (bl s);rw[Xg] at hn;have hc:=Qcz s (w.alloc (.cells #[.int .i64 0,.string ⟨#[]⟩,.int .u64 0,.int .i64 0] 46)) (h.below ((Below.refl _ _).alloc (Nat.le_refl _) _)) h0;have HC:=Dh hc;clear hc;go_enter Tryz.func63,Tryz.ntmps63
 go_wp2_with fail
 refine HC.out.mono ?_;rintro e w1 ⟨rfl,hw1⟩;have kf:∀ o,w1.frozen? ⟨w.heap.size,o,none⟩=false:=fun o=>by rw[(H6 hw1).2 _ _ Ds];simp[go_sem]
 have kc:∀ o,w1.cell? ⟨w.heap.size,o,none⟩=(#[Value.int .i64 0,.string ⟨#[]⟩,.int .u64 0,.int .i64 0]:Array Value)[o]? := fun o=>by rw[(H6 hw1).1 _ _ Ds];simp[go_sem]
 have hz1:w.heap.size<w1.heap.size:=by have:=hw1.size;simp at this;omega
 have hb1:Below w.heap.size w w1:=Qb ((Below.refl _ _).alloc (Nat.le_refl _) _) hw1;have hl1:=h.below hb1;clear hw1 HC;go_wp2_with fail
 refine(run_any s _ hs).mono ?_;rintro e w2 ⟨rfl,hw2⟩;have kf2:∀ o,w2.frozen? ⟨w.heap.size,o,none⟩=false:=fun o=>by rw[(H6 hw2).2 _ _ hz1];exact kf o
 have kc2:∀ o,w2.cell? ⟨w.heap.size,o,none⟩=(#[Value.int .i64 0,.string ⟨#[]⟩,.int .u64 0,.int .i64 0]:Array Value)[o]? := fun o=>by rw[(H6 hw2).1 _ _ hz1];exact kc o
 have hz2:w.heap.size<w2.heap.size:=by have:=hw2.size;omega
 have hb2:Below w.heap.size w w2:=Qb hb1 hw2;have hl2:=hl1.below hw2;have h0':=h;clear hw2 kf kc hz1 hb1 hl1 h;have c0:=kc2 0;have c1:=kc2 1;have c2:=kc2 2;have c3:=kc2 3;have f0:=kf2 0;have f1:=kf2 1;have f2:=kf2 2;have f3:=kf2 3;simp at c0 c1 c2 c3;clear kc2 kf2;have hone:Ym (bl s) p=if 64<Um (bl s) then (⟨1,(bl s).take (Um (bl s)),0,p⟩,Um (bl s),6) else (⟨if isWord ((bl s).take (Um (bl s))) then 3 else 1,(bl s).take (Um (bl s)),0,p⟩,Um (bl s),0):=by
  unfold Ym;rw[hL];rfl
 have hcut:=cut_to s (Um (bl s));have hwd:=fun w hl=>word_c (s.extract 0 (Um (bl s))) w hl (by rw[←Xg,Qex,List.length_take];omega)
 rw[Qex] at hwd;have HWD:=Dh hwd;have HONE:=Dh hone;have HCUT:=Dh hcut;have hL':=Y2;clear hwd hone hcut;generalize hN:Um (bl s)=N at *;have hN1:(N:Int)≤(s.size:Int):=by omega
 clear hN;have hB3:=hb2.alloc hb2.size (.cells #[.int .i64 1,.string (s.extract 0 N),.int .u64 0,.int .i64 p] 46);have hl3:=h0'.below hB3;by_cases h64:64<N
 ·have h64':(64:Int)<(N:Int):=by omega
  go_wp2_with (first|(go_at_call 92;refine(Y2 _ _).mono ?_;rintro e w' ⟨rfl,rfl⟩))
  (try simp only[Exit.inBlock,Exit.then]);refine bodyPost_ret (by(simp[results,Tryz.results63,go_sem,c0,c1,c2,c3,f0,f1,f2,f3,hz2];try rfl)) rfl ?_
  refine⟨?_,(by repeat' (first|with_reducible assumption|with_reducible exact Below.refl _ _|with_reducible refine Below.setCell ?_ ?_ _|with_reducible refine Below.alloc ?_ ?_ _|with_reducible refine Below.drew ?_|with_reducible refine Zg ?_ _|refine Qb ?_ Da|omega|(simp;omega)|(simp;done)))⟩;rw[HONE.out,if_pos h64,HCUT.out];rfl
 ·have h64':¬ (64:Int)<(N:Int):=by omega
  cases hw:isWord ((bl s).take N)
  ·rw[hw] at HWD HONE;go_wp2_with (first|(go_at_call 92;refine(Y2 _ _).mono ?_;rintro e w' ⟨rfl,rfl⟩))
   refine(HWD.out _ hl3).mono ?_;rintro e w' ⟨rfl,rfl⟩;go_wp2
   (try simp only[Exit.inBlock,Exit.then]);refine bodyPost_ret (by(simp[results,Tryz.results63,go_sem,c0,c1,c2,c3,f0,f1,f2,f3,hz2];try rfl)) rfl ?_
   refine⟨?_,(by repeat' (first|with_reducible assumption|with_reducible exact Below.refl _ _|with_reducible refine Below.setCell ?_ ?_ _|with_reducible refine Below.alloc ?_ ?_ _|with_reducible refine Below.drew ?_|with_reducible refine Zg ?_ _|refine Qb ?_ Da|omega|(simp;omega)|(simp;done)))⟩;rw[HONE.out,if_neg h64,HCUT.out];rfl
  ·rw[hw] at HWD HONE;go_wp2_with (first|(go_at_call 92;refine(Y2 _ _).mono ?_;rintro e w' ⟨rfl,rfl⟩))
   refine(HWD.out _ hl3).mono ?_;rintro e w' ⟨rfl,rfl⟩;go_wp2
   (try simp only[Exit.inBlock,Exit.then]);refine bodyPost_ret (by(simp[results,Tryz.results63,go_sem,c0,c1,c2,c3,f0,f1,f2,f3,hz2];try rfl)) rfl ?_
   refine⟨?_,(by repeat' (first|with_reducible assumption|with_reducible exact Below.refl _ _|with_reducible refine Below.setCell ?_ ?_ _|with_reducible refine Below.alloc ?_ ?_ _|with_reducible refine Below.drew ?_|with_reducible refine Zg ?_ _|refine Qb ?_ Da|omega|(simp;omega)|(simp;done)))⟩;rw[HONE.out,if_neg h64,HCUT.out];rfl
end Go.Proofs.YtcbkeecabcbogaaGreatDoor
