/- Contract of strings.ContainsRune at the letters of digits in -/
import Derived.Test.YtcbkeecabcbogaaGreatDoorHbe
import Derived.Laws.Runes
import Derived.Lib.AtoiErrMem
set_option maxRecDepth 100000
set_option maxHeartbeats 2000000
set_option linter.unusedSimpArgs false
set_option linter.unusedVariables false
namespace Go.Proofs.YtcbkeecabcbogaaGreatDoor
open Go.RowKit
def Qdq:ByteArray:=⟨#[97,98,99,100,101,102,65,66,67,68,69,70]⟩
def Qb0 (c:UInt8):Bool:=Qdq.data.toList.contains c
theorem idx_none (l:List UInt8)(c:UInt8)(h:l.contains c=false):Lib.indexByte l c = -1:=by
 have h1:=Rt l c;rw[h] at h1;have h2:=Lib.indexByte_ge l c;simp at h1;omega
theorem Qpu (c:UInt8)(h:128≤c.toNat)(w:World):(convert 21 9 (.int .i32 (c.toNat:Int))).run Tryz.prog w=.ok (.string ⟨#[UInt8.ofNat (192+c.toNat / 64),UInt8.ofNat (128+c.toNat % 64)]⟩) w:=by
 have hc:=c.toNat_lt;rw[run_convert_int_string w _ _ _ _ Dk Dk];have e:Utf8.encode (c.toNat:Int)=⟨#[UInt8.ofNat (192+c.toNat / 64),UInt8.ofNat (128+c.toNat % 64)]⟩:=by
  unfold Utf8.encode;have hv:Utf8.valid (c.toNat:Int)=true:=by unfold Utf8.valid;simp;omega
  have h1:¬ (c.toNat:Int).toNat<128:=by omega
  have h2:(c.toNat:Int).toNat<2048:=by omega
  simp only[hv,if_true];rw[if_neg h1,if_pos h2];have e2:(c.toNat:Int).toNat=c.toNat:=by omega
  rw[e2]
 rw[e]
theorem Ql6 (c:UInt8)(h:128≤c.toNat)(w:World):Calls Tryz.prog 111 #[.string ⟨#[97,98,99,100,101,102,65,66,67,68,69,70]⟩,.int .i32 (c.toNat:Int)] w fun e w'=>e=.returned (.int .i64 (-1))∧Below w.heap.size w w':=by
 have hc:=c.toNat_lt;have hconv:=Qpu c h;obtain⟨b0,hb0⟩:∃ b0:UInt8,b0=UInt8.ofNat (192+c.toNat / 64):=⟨_,rfl⟩;obtain⟨b1,hb1⟩:∃ b1:UInt8,b1=UInt8.ofNat (128+c.toNat % 64):=⟨_,rfl⟩;rw[←hb0,←hb1] at hconv;have hb1':128≤b1.toNat:=by rw[hb1];simp;omega
 have hv:Lib.validRune (c.toNat:Int)=true:=by unfold Lib.validRune;simp;omega
 have hr:∀ w,Calls Tryz.prog 115 #[.int .i32 (c.toNat:Int)] w fun e w'=>e=.returned (.bool (Lib.validRune (c.toNat:Int)))∧w=w':=fun w=>(Tryz.utf8_ValidRune (c.toNat:Int) w).mono fun _ _ ⟨h1,h2⟩=>⟨h1,h2.symm⟩
 rw[hv] at hr;have HR:=Dh hr;clear hr hv hb0 hb1;obtain⟨x,hx⟩:∃ x:Int,x=(c.toNat:Int):=⟨_,rfl⟩;rw[←hx] at hconv HR ⊢;have hx0:128≤x:=by omega
 have hx1:x<256:=by omega
 clear hx h hc;have hidx:∀ w,Calls Tryz.prog 61 #[.string ⟨#[99,100,101,102,65,66,67,68,69,70]⟩,.int .u8 (b1.toNat:Int)] w fun e w'=>e=.returned (.int .i64 (-1))∧w=w':=fun w=>by
  refine(Tryz.strings_IndexByte _ _ w).mono fun _ _ ⟨h1,h2⟩=>⟨?_,h2.symm⟩
  rw[h1];have hn:([99,100,101,102,65,66,67,68,69,70]:List UInt8).contains (b1.toNat:Int).toNat.toUInt8=false:=by
   rw[Qkl,←Bool.not_eq_true,List.contains_iff_mem];intro hm;have hall:∀ c∈([99,100,101,102,65,66,67,68,69,70]:List UInt8),c.toNat<128:=by decide
   have:=hall b1 hm;omega
  exact congrArg _ (congrArg _ (idx_none _ _ hn))
 have hne:((((⟨#[97,98,99,100,101,102,65,66,67,68,69,70]⟩:ByteArray)[1]'Dd).toNat:Int) != (((⟨#[b0,b1]⟩:ByteArray)[1]'(by show 1<2;decide)).toNat:Int))=true:=by
  rw[bne_iff_ne];show (98:Int)≠(b1.toNat:Int);omega
 go_enter Tryz.func111,Tryz.ntmps111
 go_wp2_with (first|(go_at_call 115;refine(HR.out _).mono ?_;rintro e w' ⟨rfl,rfl⟩))
 go_step3
 go_wp2
 refine wp_loop_rounds 2 ?_;rw[rounds_succ];go_wp2
 go_step3
 go_wp2
 go_quiet (fail)
 have hB:=Uu (Below.refl w.heap.size w) nq;generalize w.drewN nq=W2 at *;go_wp2
 go_quiet ((go_at_call 61;exact quiet_eq (hidx _)))
 go_wp2
 repeat (first|rw[Exit.noGoto_ret]|simp only[Exit.inBlock,Exit.then])
 go_ret;exact⟨rfl,Uu hB _⟩
theorem Qo8 (c:UInt8)(w:World):Calls Tryz.prog 104 #[.string ⟨#[97,98,99,100,101,102,65,66,67,68,69,70]⟩,.int .i32 (c.toNat:Int)] w fun e w'=>e=.returned (.bool (Qb0 c))∧Below w.heap.size w w':=by
 by_cases h:c.toNat<128
 ·refine(Tryz.strings_ContainsRune_ascii _ _ w Dw Dw).mono fun e w' ⟨h1,h2⟩=>?_
  subst h2;refine⟨?_,Below.refl _ _⟩;rw[h1,Rt,Qkl];rfl
 ·have hi:=Ql6 c Dw w;have hr:Qb0 c=false:=by
   unfold Qb0;rw[←Bool.not_eq_true,List.contains_iff_mem];intro hm;have hall:∀ c∈Qdq.data.toList,c.toNat<128:=by decide
   exact h (hall c hm)
  rw[hr];have HI:=Dh hi;clear hi hr;go_enter Tryz.func104,Tryz.ntmps104
  go_wp2_with fail
  refine HI.out.mono ?_;rintro e w1 ⟨rfl,hw⟩;go_wp2
  go_ret;exact⟨rfl,hw⟩
theorem Pv (s:ByteArray)(w:World):∃ W1 cap,(convert 9 100 (.string s)).run Tryz.prog w=.ok (.slice (some ⟨w.heap.size,0,none⟩) s.size cap) W1∧
  (∀ j (h:j<s.size),W1.cell? ⟨w.heap.size,j,none⟩=some (.int .u8 (s[j].toNat:Int)))∧Below w.heap.size w W1:=by
 refine⟨_,_,Lib.run_convert_string_bytes w 9 100 5 s Tryz.underlying9 Tryz.underlying100 Tryz.underlying5,fun j h=>?_,Lib.bytesWorld_below w _ s⟩;rw[Lib.bytesWorld_cell w _ s j h];have e:=Qfk s j h;unfold bl at e;simp[List.getD,e]
def puV (V:Nat):Value:=if V<18446744073709551616 then Value.tuple #[.int .u64 (V:Int),.nilIface] else .tuple #[.int .u64 18446744073709551615,.iface 114 (.int .i64 1)]
theorem Qjy:IntKind.u64.wrap (IntKind.u64.wrap 18446744073709551616-1)=18446744073709551615:=by decide
theorem Qoy:∀ x:Fin 256,(97≤x.val∧x.val≤102)∨(65≤x.val∧x.val≤70)→bits .or .u8 (x.val:Int) 32=((x.val % 32+96:Nat):Int):=by decide +kernel
theorem lower_c (c:UInt8)(w:World):Calls Tryz.prog 119 #[.int .u8 (c.toNat:Int)] w fun e w'=>e=.returned (.int .u8 (bits .or .u8 (c.toNat:Int) 32))∧w=w':=by
 go_enter Tryz.func119,Tryz.ntmps119
 go_wp2
 go_ret;exact⟨rfl,rfl⟩
theorem pu10 (s:ByteArray)(V:Nat)(w:World)(hs:s.size≤1073741824)(h0:s.size≠0)(hV:Xy false 0 (bl s)=some V):
  Calls Tryz.prog 113 #[.string s,.int .i64 10,.int .i64 64] w fun e w'=>e=.returned (puV V)∧Below w.heap.size w w':=by
 have e1:s.toList.isEmpty=false:=by
  rw[Yh,List.isEmpty_eq_false_iff];exact fun e=>h0 ((Vt s).1 e)
 obtain⟨W1,cap,hcv,hcell,hB⟩:=Pv s w;have hmx:=Qjy;have HV:=Dh hV;have HC:=Dh hcell;clear hV hcell;go_enter Tryz.func113,Tryz.ntmps113
 go_wp2
 clear hcv;go_loop [12,13,101] (fun us n i=>∃ k v:Nat,k≤s.size∧us=.bool false∧i=.int .i64 k∧n=.int .u64 v∧v<18446744073709551616∧Hid (Xy false 0 ((bl s).take k)=some v)) (fun _ _ i=>s.size-(intOf i).toNat)
 case atStart=>exact⟨0,0,by omega,rfl,rfl,rfl,by omega,Dh rfl⟩
 case round=>
  obtain⟨k,v,hk,rfl,rfl,rfl,hv,HK⟩:=hrel;by_cases hlt:k<s.size
  ·have hat:=Qfk s k hlt;have hc1:=HC.out k hlt;have hlt1:(k:Int)<(s.size:Int):=by omega
   generalize hch:s[k]=ch at *;have HCH:=Dh hch;have hrest:∀ d,Uh false ch=some d→v*10+d≤V:=fun d hd=>by
    have h1:=G5 false (bl s) k v d ch hat HK.out hd;have h2:=HV.out;rw[←List.take_append_drop (k+1) (bl s),J5,h1] at h2;exact Ef false _ _ _ h2
   cases hdv:Uh false ch with
   |none=>
    have:=Qa0 false (bl s) k v ch hat HK.out hdv;rw[HV.out] at this;cases this
   |some d=>
    have hge:=hrest d hdv;have hdb:d<10:=Qg7 false ch d hdv;have hsn:Hid (Xy false 0 ((bl s).take (k+1))=some (v*10+d)):=Dh (G5 false (bl s) k v d ch hat HK.out hdv);have hcb:=ch.toNat_lt;obtain⟨hr1,hr2,hdd⟩:48≤ch.toNat∧ch.toNat≤57∧d=ch.toNat-48:=by
     unfold Uh at hdv;split at hdv
     ·rename_i h;exact⟨h.1,h.2,(Option.some.inj hdv).symm⟩
     ·simp at hdv
    have h95:((ch.toNat:Int)==95)=false:=by rw[beq_eq_false_iff_ne];omega
    clear hrest hat HCH hdv;have hd48:IntKind.u8.wrap ((ch.toNat:Int)-48)=(d:Int):=by rw[hdd];simp[IntKind.wrap,IntKind.signed,IntKind.bits];omega
    have HL:=Dh (lower_c ch);have hx1:(48:Int)≤(ch.toNat:Int):=by omega
    have hx2:(ch.toNat:Int)≤57:=by omega
    have hx3:¬ (10:Int)≤(d:Int):=by omega
    have hx4:(0:Int)≤(d:Int):=by omega
    clear hdd hcb;by_cases hcut:1844674407370955162≤v
    ·have HF:Hid (puV V=.tuple #[.int .u64 18446744073709551615,.iface 114 (.int .i64 1)]):=Dh (if_neg Dw);have hcut':decide ((1844674407370955162:Int)≤(v:Int))=true:=by rw[decide_eq_true_eq];omega
     go_wp2_with (first|(go_at_call 119;refine(HL.out _).mono ?_;rintro e w' ⟨rfl,rfl⟩))
     go_ret2
     exact⟨by rw[HF.out];rfl,hB⟩
    ·have hcut':decide ((1844674407370955162:Int)≤(v:Int))=false:=by rw[decide_eq_false_iff_not];omega
     by_cases hbig:18446744073709551616≤v*10+d
     ·have HF:Hid (puV V=.tuple #[.int .u64 18446744073709551615,.iface 114 (.int .i64 1)]):=Dh (if_neg Dw);have hw1:IntKind.u64.wrap ((v:Int)*10)=(v:Int)*10:=by rw[IntKind.wrap_u64];omega
      have hw2:IntKind.u64.wrap ((v:Int)*10+(d:Int))=(v:Int)*10+(d:Int)-18446744073709551616:=by rw[IntKind.wrap_u64];omega
      have hw3:decide ((v:Int)*10+(d:Int)-18446744073709551616<(v:Int)*10)=true:=by rw[decide_eq_true_eq];omega
      have HB:=Dh hbig;clear hbig hge hdb;go_wp2_with (first|(go_at_call 119;refine(HL.out _).mono ?_;rintro e w' ⟨rfl,rfl⟩))
      go_ret2
      exact⟨by rw[HF.out];rfl,hB⟩
     ·have hw1:IntKind.u64.wrap ((v:Int)*10)=(v:Int)*10:=by rw[IntKind.wrap_u64];omega
      have hw2:IntKind.u64.wrap ((v:Int)*10+(d:Int))=(v:Int)*10+(d:Int):=by rw[IntKind.wrap_u64];omega
      have hw3:decide ((v:Int)*10+(d:Int)<(v:Int)*10)=false:=by rw[decide_eq_false_iff_not];omega
      have hw4:decide (18446744073709551615<(v:Int)*10+(d:Int))=false:=by rw[decide_eq_false_iff_not];omega
      have HB:=Dh hbig;clear hbig hge hdb;go_wp2_with (first|(go_at_call 119;refine(HL.out _).mono ?_;rintro e w' ⟨rfl,rfl⟩))
      exact⟨⟨k+1,v*10+d,by omega,rfl,by go_num,by go_num,by have:=HB.out;omega,hsn⟩,by simp[intOf];omega⟩
  ·have hke:k=s.size:=by omega
   subst hke;have hvV:v=V:=by
    have h1:=HK.out;rw[List.take_of_length_le (by rw[Zc];exact Nat.le_refl _),HV.out] at h1;exact(Option.some.inj h1).symm
   subst hvV;have HF:Hid (puV v=.tuple #[.int .u64 (v:Int),.nilIface]):=Dh (if_pos hv);clear HC;go_wp2
   go_ret2
   exact⟨by rw[HF.out];rfl,hB⟩
theorem pu16 (s:ByteArray)(V:Nat)(w:World)(hs:s.size≤1073741824)(h0:s.size≠0)(hV:Xy true 0 (bl s)=some V):
  Calls Tryz.prog 113 #[.string s,.int .i64 16,.int .i64 64] w fun e w'=>e=.returned (puV V)∧Below w.heap.size w w':=by
 have e1:s.toList.isEmpty=false:=by
  rw[Yh,List.isEmpty_eq_false_iff];exact fun e=>h0 ((Vt s).1 e)
 obtain⟨W1,cap,hcv,hcell,hB⟩:=Pv s w;have hmx:=Qjy;have HV:=Dh hV;have HC:=Dh hcell;clear hV hcell;go_enter Tryz.func113,Tryz.ntmps113
 go_wp2
 clear hcv;go_loop [12,13,101] (fun us n i=>∃ k v:Nat,k≤s.size∧us=.bool false∧i=.int .i64 k∧n=.int .u64 v∧v<18446744073709551616∧Hid (Xy true 0 ((bl s).take k)=some v)) (fun _ _ i=>s.size-(intOf i).toNat)
 case atStart=>exact⟨0,0,by omega,rfl,rfl,rfl,by omega,Dh rfl⟩
 case round=>
  obtain⟨k,v,hk,rfl,rfl,rfl,hv,HK⟩:=hrel;by_cases hlt:k<s.size
  ·have hat:=Qfk s k hlt;have hc1:=HC.out k hlt;have hlt1:(k:Int)<(s.size:Int):=by omega
   generalize hch:s[k]=ch at *;have HCH:=Dh hch;have hrest:∀ d,Uh true ch=some d→v*16+d≤V:=fun d hd=>by
    have h1:=G5 true (bl s) k v d ch hat HK.out hd;have h2:=HV.out;rw[←List.take_append_drop (k+1) (bl s),J5,h1] at h2;exact Ef true _ _ _ h2
   cases hdv:Uh true ch with
   |none=>
    have:=Qa0 true (bl s) k v ch hat HK.out hdv;rw[HV.out] at this;cases this
   |some d=>
    have hge:=hrest d hdv;have hdb:d<16:=Qg7 true ch d hdv;have hsn:Hid (Xy true 0 ((bl s).take (k+1))=some (v*16+d)):=Dh (G5 true (bl s) k v d ch hat HK.out hdv);have hcb:=ch.toNat_lt;have hcase:(48≤ch.toNat∧ch.toNat≤57∧d=ch.toNat-48)∨(((97≤ch.toNat∧ch.toNat≤102)∨(65≤ch.toNat∧ch.toNat≤70))∧d=ch.toNat % 32+9):=by
     unfold Uh at hdv;split at hdv
     ·rename_i h;exact .inl ⟨h.1,h.2,(Option.some.inj hdv).symm⟩
     ·split at hdv
      ·rename_i h;have:=Option.some.inj hdv;right;refine⟨.inl ⟨h.2.1,h.2.2⟩,?_⟩;omega
      ·split at hdv
       ·rename_i h;have:=Option.some.inj hdv;right;refine⟨.inr ⟨h.2.1,h.2.2⟩,?_⟩;omega
       ·cases hdv
    rcases hcase with ⟨hr1,hr2,hdd⟩|⟨hr,hdd⟩
    ·have h95:((ch.toNat:Int)==95)=false:=by rw[beq_eq_false_iff_ne];omega
     clear hrest hat HCH hdv;have hd48:IntKind.u8.wrap ((ch.toNat:Int)-48)=(d:Int):=by rw[hdd];simp[IntKind.wrap,IntKind.signed,IntKind.bits];omega
     have HL:=Dh (lower_c ch);have hx1:(48:Int)≤(ch.toNat:Int):=by omega
     have hx2:(ch.toNat:Int)≤57:=by omega
     have hx3:¬ (16:Int)≤(d:Int):=by omega
     have hx4:(0:Int)≤(d:Int):=by omega
     clear hdd hcb;by_cases hcut:1152921504606846976≤v
     ·have HF:Hid (puV V=.tuple #[.int .u64 18446744073709551615,.iface 114 (.int .i64 1)]):=Dh (if_neg Dw);have hcut':decide ((1152921504606846976:Int)≤(v:Int))=true:=by rw[decide_eq_true_eq];omega
      go_wp2_with (first|(go_at_call 119;refine(HL.out _).mono ?_;rintro e w' ⟨rfl,rfl⟩))
      go_ret2
      exact⟨by rw[HF.out];rfl,hB⟩
     ·have hcut':decide ((1152921504606846976:Int)≤(v:Int))=false:=by rw[decide_eq_false_iff_not];omega
      by_cases hbig:18446744073709551616≤v*16+d
      ·have HF:Hid (puV V=.tuple #[.int .u64 18446744073709551615,.iface 114 (.int .i64 1)]):=Dh (if_neg Dw);have hw1:IntKind.u64.wrap ((v:Int)*16)=(v:Int)*16:=by rw[IntKind.wrap_u64];omega
       have hw2:IntKind.u64.wrap ((v:Int)*16+(d:Int))=(v:Int)*16+(d:Int)-18446744073709551616:=by rw[IntKind.wrap_u64];omega
       have hw3:decide ((v:Int)*16+(d:Int)-18446744073709551616<(v:Int)*16)=true:=by rw[decide_eq_true_eq];omega
       have HB:=Dh hbig;clear hbig hge hdb;go_wp2_with (first|(go_at_call 119;refine(HL.out _).mono ?_;rintro e w' ⟨rfl,rfl⟩))
       go_ret2
       exact⟨by rw[HF.out];rfl,hB⟩
      ·have hw1:IntKind.u64.wrap ((v:Int)*16)=(v:Int)*16:=by rw[IntKind.wrap_u64];omega
       have hw2:IntKind.u64.wrap ((v:Int)*16+(d:Int))=(v:Int)*16+(d:Int):=by rw[IntKind.wrap_u64];omega
       have hw3:decide ((v:Int)*16+(d:Int)<(v:Int)*16)=false:=by rw[decide_eq_false_iff_not];omega
       have hw4:decide (18446744073709551615<(v:Int)*16+(d:Int))=false:=by rw[decide_eq_false_iff_not];omega
       have HB:=Dh hbig;clear hbig hge hdb;go_wp2_with (first|(go_at_call 119;refine(HL.out _).mono ?_;rintro e w' ⟨rfl,rfl⟩))
       exact⟨⟨k+1,v*16+d,by omega,rfl,by go_num,by go_num,by have:=HB.out;omega,hsn⟩,by simp[intOf];omega⟩
    ·have hl:=Qoy ⟨ch.toNat,hcb⟩ hr;simp only[] at hl;have h95:((ch.toNat:Int)==95)=false:=by rw[beq_eq_false_iff_ne];omega
     obtain⟨d0,rfl⟩:∃ d0,d=d0+10:=⟨d-10,by omega⟩;have hlc:=lower_c ch;rw[hl,show ((ch.toNat % 32+96:Nat):Int)=(d0:Int)+97 by omega] at hlc;have HL:=Dh hlc;have hx0:(48:Int)≤(ch.toNat:Int):=by omega
     have hx2:¬ (ch.toNat:Int)≤57:=by omega
     have hx3:¬ (16:Int)≤(d0:Int)+10:=by omega
     have hx5:(d0:Int)≤5:=by omega
     have hx4:(0:Int)≤(d0:Int):=by omega
     have hx6:(97:Int)≤(d0:Int)+97:=by omega
     have hx7:(d0:Int)+97≤122:=by omega
     clear hrest hat HCH hdv hl hlc hr hdd hcb;by_cases hcut:1152921504606846976≤v
     ·have HF:Hid (puV V=.tuple #[.int .u64 18446744073709551615,.iface 114 (.int .i64 1)]):=Dh (if_neg Dw);have hcut':decide ((1152921504606846976:Int)≤(v:Int))=true:=by rw[decide_eq_true_eq];omega
      go_wp2_with (first|(go_at_call 119;refine(HL.out _).mono ?_;rintro e w' ⟨rfl,rfl⟩))
      go_ret2
      exact⟨by rw[HF.out];rfl,hB⟩
     ·have hcut':decide ((1152921504606846976:Int)≤(v:Int))=false:=by rw[decide_eq_false_iff_not];omega
      by_cases hbig:18446744073709551616≤v*16+(d0+10)
      ·have HF:Hid (puV V=.tuple #[.int .u64 18446744073709551615,.iface 114 (.int .i64 1)]):=Dh (if_neg Dw);have hw1:IntKind.u64.wrap ((v:Int)*16)=(v:Int)*16:=by rw[IntKind.wrap_u64];omega
       have hw2:IntKind.u64.wrap ((v:Int)*16+((d0:Int)+10))=(v:Int)*16+((d0:Int)+10)-18446744073709551616:=by rw[IntKind.wrap_u64];omega
       have hw3:decide ((v:Int)*16+((d0:Int)+10)-18446744073709551616<(v:Int)*16)=true:=by rw[decide_eq_true_eq];omega
       have HB:=Dh hbig;clear hbig hge hdb;go_wp2_with (first|(go_at_call 119;refine(HL.out _).mono ?_;rintro e w' ⟨rfl,rfl⟩))
       go_ret2
       exact⟨by rw[HF.out];rfl,hB⟩
      ·have hw1:IntKind.u64.wrap ((v:Int)*16)=(v:Int)*16:=by rw[IntKind.wrap_u64];omega
       have hw2:IntKind.u64.wrap ((v:Int)*16+((d0:Int)+10))=(v:Int)*16+((d0:Int)+10):=by rw[IntKind.wrap_u64];omega
       have hw3:decide ((v:Int)*16+((d0:Int)+10)<(v:Int)*16)=false:=by rw[decide_eq_false_iff_not];omega
       have hw4:decide (18446744073709551615<(v:Int)*16+((d0:Int)+10))=false:=by rw[decide_eq_false_iff_not];omega
       have HB:=Dh hbig;clear hbig hge hdb;go_wp2_with (first|(go_at_call 119;refine(HL.out _).mono ?_;rintro e w' ⟨rfl,rfl⟩))
       exact⟨⟨k+1,v*16+(d0+10),by omega,rfl,by go_num,Jc Dw,by have:=HB.out;omega,hsn⟩,by simp[intOf];omega⟩
  ·have hke:k=s.size:=by omega
   subst hke;have hvV:v=V:=by
    have h1:=HK.out;rw[List.take_of_length_le (by rw[Zc];exact Nat.le_refl _),HV.out] at h1;exact(Option.some.inj h1).symm
   subst hvV;have HF:Hid (puV v=.tuple #[.int .u64 (v:Int),.nilIface]):=Dh (if_pos hv);clear HC;go_wp2
   go_ret2
   exact⟨by rw[HF.out];rfl,hB⟩
theorem Qjk (s:ByteArray)(V:Nat)(w:World)(hs:s.size≤1073741824)(h0:s.size≠0)(hV:Xy false 0 (bl s)=some V)(hlt:V<18446744073709551616):
  Calls Tryz.prog 108 #[.string s,.int .i64 10,.int .i64 64] w fun e w'=>e=.returned (.tuple #[.int .u64 (V:Int),.nilIface])∧Below w.heap.size w w':=by
 have hc:=pu10 s V w hs h0 hV;rw[show puV V=_ from if_pos hlt] at hc;have HC:=Dh hc;clear hc hV hlt h0;go_enter Tryz.func108,Tryz.ntmps108
 go_wp2_with fail
 refine HC.out.mono ?_;rintro e w1 ⟨rfl,hw⟩;go_wp2
 go_ret2
 exact⟨rfl,hw⟩
theorem Qa4 (s:ByteArray)(V:Nat)(w:World)(h:Laid w)(hs:s.size≤1073741824)(h0:s.size≠0)(hV:Xy false 0 (bl s)=some V)(hlt:¬ V<18446744073709551616):
  Calls Tryz.prog 108 #[.string s,.int .i64 10,.int .i64 64] w fun e w'=>(∃ N:Nat,e=.returned (.tuple #[.int .u64 18446744073709551615,.iface 116 (.pointer (some ⟨N,0,none⟩))]))∧Below w.heap.size w w':=by
 have hc:=pu10 s V w hs h0 hV;rw[show puV V=_ from if_neg hlt] at hc;have HC:=Dh hc;clear hc hV hlt h0;go_enter Tryz.func108,Tryz.ntmps108
 go_wp2_with fail
 refine HC.out.mono ?_;rintro e w1 ⟨rfl,hw⟩;obtain⟨ev,hr,hev⟩:=(h.below hw).range;go_wp2_with fail
 refine(Tryz.strconv_toError_range _ s 10 64 _ w1 Dw hr hev).mono ?_;rintro e w2 ⟨N,rfl,-,-,hw2⟩;have hB:=Qi hw hw2;clear hw hw2 hr;go_wp2
 go_ret2
 exact⟨⟨N,rfl⟩,hB⟩
theorem spu16_ok (s:ByteArray)(V:Nat)(w:World)(hs:s.size≤1073741824)(h0:s.size≠0)(hV:Xy true 0 (bl s)=some V)(hlt:V<18446744073709551616):
  Calls Tryz.prog 108 #[.string s,.int .i64 16,.int .i64 64] w fun e w'=>e=.returned (.tuple #[.int .u64 (V:Int),.nilIface])∧Below w.heap.size w w':=by
 have hc:=pu16 s V w hs h0 hV;rw[show puV V=_ from if_pos hlt] at hc;have HC:=Dh hc;clear hc hV hlt h0;go_enter Tryz.func108,Tryz.ntmps108
 go_wp2_with fail
 refine HC.out.mono ?_;rintro e w1 ⟨rfl,hw⟩;go_wp2
 go_ret2
 exact⟨rfl,hw⟩
theorem Qh1 (s:ByteArray)(V:Nat)(w:World)(h:Laid w)(hs:s.size≤1073741824)(h0:s.size≠0)(hV:Xy true 0 (bl s)=some V)(hlt:¬ V<18446744073709551616):
  Calls Tryz.prog 108 #[.string s,.int .i64 16,.int .i64 64] w fun e w'=>(∃ N:Nat,e=.returned (.tuple #[.int .u64 18446744073709551615,.iface 116 (.pointer (some ⟨N,0,none⟩))]))∧Below w.heap.size w w':=by
 have hc:=pu16 s V w hs h0 hV;rw[show puV V=_ from if_neg hlt] at hc;have HC:=Dh hc;clear hc hV hlt h0;go_enter Tryz.func108,Tryz.ntmps108
 go_wp2_with fail
 refine HC.out.mono ?_;rintro e w1 ⟨rfl,hw⟩;obtain⟨ev,hr,hev⟩:=(h.below hw).range;go_wp2_with fail
 refine(Tryz.strconv_toError_range _ s 16 64 _ w1 Dw hr hev).mono ?_;rintro e w2 ⟨N,rfl,-,-,hw2⟩;have hB:=Qi hw hw2;clear hw hw2 hr;go_wp2
 go_ret2
 exact⟨⟨N,rfl⟩,hB⟩
theorem Qia (l:List UInt8):Qle [48,120] l=Rq l:=by
 rw[Qgy];unfold Qle;match l with
 | []=>rfl
 | [a]=>simp[List.isPrefixOf]
 |a::b::m=>
  by_cases ha:a=48
  ·by_cases hb:b=120
   ·subst ha hb;simp[List.isPrefixOf]
   ·have hb1:(b==120)=false:=beq_eq_false_iff_ne.2 hb;have hb2:(120==b)=false:=beq_eq_false_iff_ne.2 (fun e=>hb e.symm);subst ha;simp[List.isPrefixOf,hb1,hb2]
  ·have ha1:(a==48)=false:=beq_eq_false_iff_ne.2 ha;have ha2:(48==a)=false:=beq_eq_false_iff_ne.2 (fun e=>ha e.symm);simp[List.isPrefixOf,ha1,ha2]
theorem Qpr (c:UInt8):(Uh false c).isSome=Hg (c.toNat:Int):=by
 unfold Uh Hg;by_cases h:48≤c.toNat∧c.toNat≤57
 ·rw[if_pos h];simp;omega
 ·rw[if_neg h];simp;omega
theorem hexl_iff (c:UInt8):Qb0 c=decide ((97≤c.toNat∧c.toNat≤102)∨(65≤c.toNat∧c.toNat≤70)):=by
 have h:∀ x:Fin 256,Qb0 (UInt8.ofNat x.val)=decide ((97≤x.val∧x.val≤102)∨(65≤x.val∧x.val≤70)):=by decide +kernel
 have:=h ⟨c.toNat,c.toNat_lt⟩;simpa using this
theorem dig_hex (c:UInt8):(Uh true c).isSome=(Hg (c.toNat:Int)||Qb0 c):=by
 rw[hexl_iff];unfold Uh Hg;by_cases h:48≤c.toNat∧c.toNat≤57
 ·rw[if_pos h];simp;omega
 ·rw[if_neg h];by_cases h2:97≤c.toNat∧c.toNat≤102
  ·rw[if_pos ⟨rfl,h2⟩];simp;omega
  ·rw[if_neg (by simpa using h2)];by_cases h3:65≤c.toNat∧c.toNat≤70
   ·rw[if_pos ⟨rfl,h3⟩];simp;omega
   ·rw[if_neg (by simpa using h3)];simp;omega
theorem num_dec (s:ByteArray)(w:World)(h:Laid w)(hs:s.size≤1073741824)(hz:Jh (bl s)=false)(hx:Rq (bl s)=false):Calls Tryz.prog 95 #[.string s] w fun e w'=>e=.returned (.tuple #[.int .u64 ((Ej (bl s)).1:Int),.int .i64 (Ej (bl s)).2])∧Below w.heap.size w w':=by
 have hp:=fun w=>Ls s ⟨#[48,120]⟩ w
 rw[show bl ⟨#[48,120]⟩=[48,120] from rfl,Qia,hx] at hp;have HP:=Dh hp;clear hp;have hD:digitsOf (bl s)=bl s:=by simp[digitsOf,hx]
 have hok:Rq (bl s)=true∨Jh (bl s)=false:=.inr hz;have HT:Hid (bl s=digitsOf (bl s)):=Dh hD.symm;have hL0:=h;have hB0:=Below.refl w.heap.size w;obtain⟨W1,cap,hcv,hcell,hB⟩:=Pv s w;have hts:=hs;have hnz:∀ h:2≤s.size,¬ ((s[0].toNat:Int)=48):=fun h e=>by
  rw[N9,Qfk s 0 Dw,Zc] at hz;have:s[0]=48:=by apply UInt8.toNat_inj.1;show _=48;omega
  rw[this] at hz;simp at hz;omega
 clear hz;have HCELL:=Dh hcell;have HX:=Dh hx;have HOK:=Dh hok;have hL1:=hL0.below hB;have hB1:Below w.heap.size w W1:=Qi hB0 hB;clear hcell hx hok hD h hB0;by_cases h2:2≤s.size
 ·have g0:=hnz h2;have g0':((s[0].toNat:Int)==48)=false:=by rw[beq_eq_false_iff_ne];exact g0
  have g2:(1:Int)<(s.size:Int):=by omega
  clear hnz g0;go_enter Tryz.func95,Tryz.ntmps95
  go_wp2_with fail
  refine(HP.out _).mono ?_;rintro e w' ⟨rfl,rfl⟩;go_wp2
  clear hcv g0' g2;go_loopw [26] (fun i wr=>∃ k v:Nat,k≤s.size∧i=.int .i64 k∧Below W1.heap.size W1 wr∧Hid (Xy false 0 ((bl s).take k)=some v)) (fun i _=>s.size-(intOf i).toNat)
  case atStart=>exact⟨0,0,by omega,rfl,Below.refl _ _,Dh rfl⟩
  case round=>
   obtain⟨k,v,hk,rfl,hwr,HK⟩:=hrel;by_cases hlt:k<s.size
   ·have hat:=Qfk s k hlt;have hc1:=HCELL.out k hlt;have hc2:wr.cell? ⟨w.heap.size,k,none⟩=some (.int .u8 (s[k].toNat:Int)):=by
     rw[hwr.cell (p:=⟨w.heap.size,k,none⟩) (Lib.lt_of_cell hc1)];exact hc1
    have hlt1:(k:Int)<(s.size:Int):=by omega
    generalize hch:s[k]=ch at *;have HCH:=Dh hch;have hcb:=ch.toNat_lt;have hcb1:(ch.toNat:Int)<256:=by omega
    have hcb0:(0:Int)≤(ch.toNat:Int):=by omega
    have hw32:IntKind.i32.wrap (ch.toNat:Int)=(ch.toNat:Int):=by simp[IntKind.wrap,IntKind.signed,IntKind.bits];omega
    have hbad:Uh false ch=none→Ej (bl s)=(0,4):=fun hd=>Qeo (bl s) (by rw[HX.out,←HT.out];exact Qa0 false _ k v ch hat HK.out hd)
    have hgood:Uh false ch≠none→∃ v',Xy false 0 ((bl s).take (k+1))=some v':=fun hd=>by
     obtain⟨d,hd⟩:=Option.ne_none_iff_exists'.1 hd;exact⟨_,G5 false _ k v d ch hat HK.out hd⟩
    have hsome:=Qpr ch;have HBAD:=Dh hbad;have HGOOD:=Dh hgood;clear hbad hgood hat hc1 hch HCH hcb;cases hd:Hg (ch.toNat:Int)
    ·have hr:=HBAD.out (by rw[hd] at hsome;simpa using hsome);have HR:=Dh hr;clear hr hsome;go_wp2_with (first|(go_at_call 94;refine(U3 _ _).mono ?_;rintro e w' ⟨rfl,rfl⟩))
     go_ret2
     exact⟨Je (Jc (by rw[HR.out];try rfl)) (Jc (by rw[HR.out];try rfl)),Qi hB1 hwr⟩
    ·obtain⟨v',hv'⟩:=HGOOD.out (by rw[hd] at hsome;intro hn;rw[hn] at hsome;cases hsome);have HV:=Dh hv';clear hv' hsome;go_wp2_with (first|(go_at_call 94;refine(U3 _ _).mono ?_;rintro e w' ⟨rfl,rfl⟩))
     exact⟨⟨k+1,v',by omega,by go_num,hwr,HV⟩,by simp[intOf];omega⟩
   ·have hke:k=s.size:=by omega
    subst hke;have hval:Xy false 0 (bl s)=some v:=by
     have h1:=HK.out;rwa [List.take_of_length_le (by rw[Zc];exact Nat.le_refl _)] at h1
    have hBw:Below w.heap.size w wr:=Qi hB1 hwr;have hLw:=hL1.below hwr;clear HK;by_cases h0:s.size=0
    ·have e1:s.toList=[]:=by rw[Yh];exact(Vt s).2 h0
     have hr:=Ei (bl s) (by rw[←HT.out];exact(Vt s).2 h0);have HR:=Dh hr;have hz0:¬ (((s.size:Nat):Int)<((s.size:Nat):Int)):=by omega
     clear hr hval hL1 hB hLw;go_wp2
     go_ret2
     exact⟨Je (Jc (by rw[HR.out];try rfl)) (Jc (by rw[HR.out];try rfl)),hBw⟩
    ·have e1:s.toList.isEmpty=false:=by
      rw[Yh,List.isEmpty_eq_false_iff];exact fun e=>h0 ((Vt s).1 e)
     have hr:=Qid (bl s) v (by rw[HX.out,←HT.out];exact hval) HOK.out (by rw[←HT.out];exact fun e=>h0 ((Vt s).1 e));by_cases hV:v<18446744073709551616
     ·rw[if_pos hV] at hr;have HR:=Dh hr;have HC:=Dh (Qjk s v wr hts h0 hval hV);clear hr hval hV;go_wp2_with fail
      refine HC.out.mono ?_;rintro e w4 ⟨rfl,hw4⟩;have hBe:=Qi hBw hw4;clear hw4 hBw HC;go_wp2
      go_ret2
      exact⟨Je (Jc (by rw[HR.out])) (Jc (by rw[HR.out])),hBe⟩
     ·rw[if_neg hV] at hr;have HR:=Dh hr;have HC:=Dh (Qa4 s v wr hLw hts h0 hval hV);clear hr hval hV;go_wp2_with fail
      refine HC.out.mono ?_;rintro e w4 ⟨⟨N,rfl⟩,hw4⟩;have hBe:=Qi hBw hw4;clear hw4 hBw HC;go_wp2
      go_ret2
      exact⟨Je (Jc (by rw[HR.out];try rfl)) (Jc (by rw[HR.out])),hBe⟩
 ·have g2:¬ (1:Int)<(s.size:Int):=by omega
  clear hnz;go_enter Tryz.func95,Tryz.ntmps95
  go_wp2_with fail
  refine(HP.out _).mono ?_;rintro e w' ⟨rfl,rfl⟩;go_wp2
  clear hcv g2;go_loopw [26] (fun i wr=>∃ k v:Nat,k≤s.size∧i=.int .i64 k∧Below W1.heap.size W1 wr∧Hid (Xy false 0 ((bl s).take k)=some v)) (fun i _=>s.size-(intOf i).toNat)
  case atStart=>exact⟨0,0,by omega,rfl,Below.refl _ _,Dh rfl⟩
  case round=>
   obtain⟨k,v,hk,rfl,hwr,HK⟩:=hrel;by_cases hlt:k<s.size
   ·have hat:=Qfk s k hlt;have hc1:=HCELL.out k hlt;have hc2:wr.cell? ⟨w.heap.size,k,none⟩=some (.int .u8 (s[k].toNat:Int)):=by
     rw[hwr.cell (p:=⟨w.heap.size,k,none⟩) (Lib.lt_of_cell hc1)];exact hc1
    have hlt1:(k:Int)<(s.size:Int):=by omega
    generalize hch:s[k]=ch at *;have HCH:=Dh hch;have hcb:=ch.toNat_lt;have hcb1:(ch.toNat:Int)<256:=by omega
    have hcb0:(0:Int)≤(ch.toNat:Int):=by omega
    have hw32:IntKind.i32.wrap (ch.toNat:Int)=(ch.toNat:Int):=by simp[IntKind.wrap,IntKind.signed,IntKind.bits];omega
    have hbad:Uh false ch=none→Ej (bl s)=(0,4):=fun hd=>Qeo (bl s) (by rw[HX.out,←HT.out];exact Qa0 false _ k v ch hat HK.out hd)
    have hgood:Uh false ch≠none→∃ v',Xy false 0 ((bl s).take (k+1))=some v':=fun hd=>by
     obtain⟨d,hd⟩:=Option.ne_none_iff_exists'.1 hd;exact⟨_,G5 false _ k v d ch hat HK.out hd⟩
    have hsome:=Qpr ch;have HBAD:=Dh hbad;have HGOOD:=Dh hgood;clear hbad hgood hat hc1 hch HCH hcb;cases hd:Hg (ch.toNat:Int)
    ·have hr:=HBAD.out (by rw[hd] at hsome;simpa using hsome);have HR:=Dh hr;clear hr hsome;go_wp2_with (first|(go_at_call 94;refine(U3 _ _).mono ?_;rintro e w' ⟨rfl,rfl⟩))
     go_ret2
     exact⟨Je (Jc (by rw[HR.out];try rfl)) (Jc (by rw[HR.out];try rfl)),Qi hB1 hwr⟩
    ·obtain⟨v',hv'⟩:=HGOOD.out (by rw[hd] at hsome;intro hn;rw[hn] at hsome;cases hsome);have HV:=Dh hv';clear hv' hsome;go_wp2_with (first|(go_at_call 94;refine(U3 _ _).mono ?_;rintro e w' ⟨rfl,rfl⟩))
     exact⟨⟨k+1,v',by omega,by go_num,hwr,HV⟩,by simp[intOf];omega⟩
   ·have hke:k=s.size:=by omega
    subst hke;have hval:Xy false 0 (bl s)=some v:=by
     have h1:=HK.out;rwa [List.take_of_length_le (by rw[Zc];exact Nat.le_refl _)] at h1
    have hBw:Below w.heap.size w wr:=Qi hB1 hwr;have hLw:=hL1.below hwr;clear HK;by_cases h0:s.size=0
    ·have e1:s.toList=[]:=by rw[Yh];exact(Vt s).2 h0
     have hr:=Ei (bl s) (by rw[←HT.out];exact(Vt s).2 h0);have HR:=Dh hr;have hz0:¬ (((s.size:Nat):Int)<((s.size:Nat):Int)):=by omega
     clear hr hval hL1 hB hLw;go_wp2
     go_ret2
     exact⟨Je (Jc (by rw[HR.out];try rfl)) (Jc (by rw[HR.out];try rfl)),hBw⟩
    ·have e1:s.toList.isEmpty=false:=by
      rw[Yh,List.isEmpty_eq_false_iff];exact fun e=>h0 ((Vt s).1 e)
     have hr:=Qid (bl s) v (by rw[HX.out,←HT.out];exact hval) HOK.out (by rw[←HT.out];exact fun e=>h0 ((Vt s).1 e));by_cases hV:v<18446744073709551616
     ·rw[if_pos hV] at hr;have HR:=Dh hr;have HC:=Dh (Qjk s v wr hts h0 hval hV);clear hr hval hV;go_wp2_with fail
      refine HC.out.mono ?_;rintro e w4 ⟨rfl,hw4⟩;have hBe:=Qi hBw hw4;clear hw4 hBw HC;go_wp2
      go_ret2
      exact⟨Je (Jc (by rw[HR.out])) (Jc (by rw[HR.out])),hBe⟩
     ·rw[if_neg hV] at hr;have HR:=Dh hr;have HC:=Dh (Qa4 s v wr hLw hts h0 hval hV);clear hr hval hV;go_wp2_with fail
      refine HC.out.mono ?_;rintro e w4 ⟨⟨N,rfl⟩,hw4⟩;have hBe:=Qi hBw hw4;clear hw4 hBw HC;go_wp2
      go_ret2
      exact⟨Je (Jc (by rw[HR.out];try rfl)) (Jc (by rw[HR.out])),hBe⟩
theorem num_hex (s:ByteArray)(w:World)(h:Laid w)(hs:s.size≤1073741824)(hx:Rq (bl s)=true):Calls Tryz.prog 95 #[.string s] w fun e w'=>e=.returned (.tuple #[.int .u64 ((Ej (bl s)).1:Int),.int .i64 (Ej (bl s)).2])∧Below w.heap.size w w':=by
 have hp:=fun w=>Ls s ⟨#[48,120]⟩ w
 rw[show bl ⟨#[48,120]⟩=[48,120] from rfl,Qia,hx] at hp;have HP:=Dh hp;clear hp;have h2:2≤s.size:=by
  rw[Qgy] at hx;simp at hx;rw[Zc] at hx;exact hx.1.1
 have g2:(2:Int)≤(s.size:Int):=by omega
 have hD:digitsOf (bl s)=(bl s).drop 2:=by simp[digitsOf,hx]
 have hok:Rq (bl s)=true∨Jh (bl s)=false:=.inl hx;have hbt:bl (s.extract 2 s.size)=digitsOf (bl s):=by rw[N8,hD]
 go_enter Tryz.func95,Tryz.ntmps95
 go_wp2_with fail
 refine(HP.out _).mono ?_;rintro e w' ⟨rfl,rfl⟩;go_wp2_with fail
 go_quiet (fail)
 have hB0:=Uu (Below.refl w.heap.size w) nq;have hL0:=h.below hB0;generalize w.drewN nq=w0 at *;have hts:(s.extract 2 s.size).size≤1073741824:=by rw[Lh];omega
 generalize s.extract 2 s.size=t at *;obtain⟨W1,cap,hcv,hcell,hB⟩:=Pv t w0;have HT:=Dh hbt;clear hbt g2;have HCELL:=Dh hcell;have HX:=Dh hx;have HOK:=Dh hok;have hL1:=hL0.below hB;have hB1:Below w.heap.size w W1:=Qi hB0 hB;clear hcell hx hok hD h hB0;go_wp2
 clear hcv;go_loopw [26] (fun i wr=>∃ k v:Nat,k≤t.size∧i=.int .i64 k∧Below W1.heap.size W1 wr∧Hid (Xy true 0 ((bl t).take k)=some v)) (fun i _=>t.size-(intOf i).toNat)
 case atStart=>exact⟨0,0,by omega,rfl,Below.refl _ _,Dh rfl⟩
 case round=>
  obtain⟨k,v,hk,rfl,hwr,HK⟩:=hrel;by_cases hlt:k<t.size
  ·have hat:=Qfk t k hlt;have hc1:=HCELL.out k hlt;have hc2:wr.cell? ⟨w0.heap.size,k,none⟩=some (.int .u8 (t[k].toNat:Int)):=by
    rw[hwr.cell (p:=⟨w0.heap.size,k,none⟩) (Lib.lt_of_cell hc1)];exact hc1
   have hlt1:(k:Int)<(t.size:Int):=by omega
   generalize hch:t[k]=ch at *;have HCH:=Dh hch;have hcb:=ch.toNat_lt;have hcb1:(ch.toNat:Int)<256:=by omega
   have hcb0:(0:Int)≤(ch.toNat:Int):=by omega
   have hw32:IntKind.i32.wrap (ch.toNat:Int)=(ch.toNat:Int):=by simp[IntKind.wrap,IntKind.signed,IntKind.bits];omega
   have hbad:Uh true ch=none→Ej (bl s)=(0,4):=fun hd=>Qeo (bl s) (by rw[HX.out,←HT.out];exact Qa0 true _ k v ch hat HK.out hd)
   have hgood:Uh true ch≠none→∃ v',Xy true 0 ((bl t).take (k+1))=some v':=fun hd=>by
    obtain⟨d,hd⟩:=Option.ne_none_iff_exists'.1 hd;exact⟨_,G5 true _ k v d ch hat HK.out hd⟩
   have hsome:=dig_hex ch;have HBAD:=Dh hbad;have HGOOD:=Dh hgood;clear hbad hgood hat hc1 hch HCH hcb;cases hd:Hg (ch.toNat:Int)
   ·have hcr:=Qo8 ch wr;cases hl:Qb0 ch
    ·have hr:=HBAD.out (by rw[hd,hl] at hsome;simpa using hsome);have HR:=Dh hr;rw[hl] at hcr;have HCR:=Dh hcr;clear hr hsome hcr hl;go_wp2_with (first|(go_at_call 94;refine(U3 _ _).mono ?_;rintro e w' ⟨rfl,rfl⟩)|(go_at_call 104;refine HCR.out.mono ?_;rintro e w3 ⟨rfl,hw3⟩))
     go_ret2
     exact⟨Je (Jc (by rw[HR.out];try rfl)) (Jc (by rw[HR.out];try rfl)),Qi (Qi hB1 hwr) hw3⟩
    ·obtain⟨v',hv'⟩:=HGOOD.out (by rw[hd,hl] at hsome;intro hn;rw[hn] at hsome;cases hsome);have HV:=Dh hv';rw[hl] at hcr;have HCR:=Dh hcr;clear hv' hsome hcr hl;go_wp2_with (first|(go_at_call 94;refine(U3 _ _).mono ?_;rintro e w' ⟨rfl,rfl⟩)|(go_at_call 104;refine HCR.out.mono ?_;rintro e w3 ⟨rfl,hw3⟩))
     exact⟨⟨k+1,v',by omega,by go_num,Qi hwr hw3,HV⟩,by simp[intOf];omega⟩
   ·obtain⟨v',hv'⟩:=HGOOD.out (by rw[hd] at hsome;intro hn;rw[hn] at hsome;cases hsome);have HV:=Dh hv';clear hv' hsome;go_wp2_with (first|(go_at_call 94;refine(U3 _ _).mono ?_;rintro e w' ⟨rfl,rfl⟩))
    exact⟨⟨k+1,v',by omega,by go_num,hwr,HV⟩,by simp[intOf];omega⟩
  ·have hke:k=t.size:=by omega
   subst hke;have hval:Xy true 0 (bl t)=some v:=by
    have h1:=HK.out;rwa [List.take_of_length_le (by rw[Zc];exact Nat.le_refl _)] at h1
   have hBw:Below w.heap.size w wr:=Qi hB1 hwr;have hLw:=hL1.below hwr;clear HK;by_cases h0:t.size=0
   ·have e1:t.toList=[]:=by rw[Yh];exact(Vt t).2 h0
    have hr:=Ei (bl s) (by rw[←HT.out];exact(Vt t).2 h0);have HR:=Dh hr;have hz0:¬ (((t.size:Nat):Int)<((t.size:Nat):Int)):=by omega
    clear hr hval hL1 hB hLw;go_wp2
    go_ret2
    exact⟨Je (Jc (by rw[HR.out];try rfl)) (Jc (by rw[HR.out];try rfl)),hBw⟩
   ·have e1:t.toList.isEmpty=false:=by
     rw[Yh,List.isEmpty_eq_false_iff];exact fun e=>h0 ((Vt t).1 e)
    have hr:=Qid (bl s) v (by rw[HX.out,←HT.out];exact hval) HOK.out (by rw[←HT.out];exact fun e=>h0 ((Vt t).1 e));by_cases hV:v<18446744073709551616
    ·rw[if_pos hV] at hr;have HR:=Dh hr;have HC:=Dh (spu16_ok t v wr hts h0 hval hV);clear hr hval hV;go_wp2_with fail
     refine HC.out.mono ?_;rintro e w4 ⟨rfl,hw4⟩;have hBe:=Qi hBw hw4;clear hw4 hBw HC;go_wp2
     go_ret2
     exact⟨Je (Jc (by rw[HR.out])) (Jc (by rw[HR.out])),hBe⟩
    ·rw[if_neg hV] at hr;have HR:=Dh hr;have HC:=Dh (Qh1 t v wr hLw hts h0 hval hV);clear hr hval hV;go_wp2_with fail
     refine HC.out.mono ?_;rintro e w4 ⟨⟨N,rfl⟩,hw4⟩;have hBe:=Qi hBw hw4;clear hw4 hBw HC;go_wp2
     go_ret2
     exact⟨Je (Jc (by rw[HR.out];try rfl)) (Jc (by rw[HR.out])),hBe⟩
theorem num_zero (s:ByteArray)(w:World)(hz:Jh (bl s)=true)(hx:Rq (bl s)=false):Calls Tryz.prog 95 #[.string s] w fun e w'=>e=.returned (.tuple #[.int .u64 ((Ej (bl s)).1:Int),.int .i64 (Ej (bl s)).2])∧w=w':=by
 have hp:=fun w=>Ls s ⟨#[48,120]⟩ w
 rw[show bl ⟨#[48,120]⟩=[48,120] from rfl,Qia,hx] at hp;have HP:=Dh hp;have hr:=Qot (bl s) hx hz;rw[hr];have h2:2≤s.size:=by rw[N9] at hz;simp at hz;rw[Zc] at hz;exact hz.1
 have h0:s[0]=48:=by
  rw[N9,Qfk s 0 Dw] at hz;simp at hz;exact hz.2
 have g0:((s[0].toNat:Int)==48)=true:=by rw[h0];rfl
 have g2:(1:Int)<(s.size:Int):=by omega
 clear hp hr hz hx h0;go_enter Tryz.func95,Tryz.ntmps95
 go_wp2_with fail
 refine(HP.out _).mono ?_;rintro e w' ⟨rfl,rfl⟩;go_wp2
 go_ret2
 exact⟨rfl,rfl⟩
theorem number_c (s:ByteArray)(w:World)(h:Laid w)(hs:s.size≤1073741824):Calls Tryz.prog 95 #[.string s] w fun e w'=>e=.returned (.tuple #[.int .u64 ((Ej (bl s)).1:Int),.int .i64 (Ej (bl s)).2])∧Below w.heap.size w w':=by
 cases hx:Rq (bl s)
 ·cases hz:Jh (bl s)
  ·exact num_dec s w h hs hz hx
  ·exact(num_zero s w hz hx).mono fun _ _ ⟨h1,h2⟩=>⟨h1,h2 ▸ Below.refl _ _⟩
 ·exact num_hex s w h hs hx
end Go.Proofs.YtcbkeecabcbogaaGreatDoor
