/- Contracts of types.Name, scan.Word, scan.Name: which texts are names, and which are words of the language. Contract of strings.ContainsRune at the letters of digits in sixteens, at every byte. Cont -/
import Derived.Test.YtcbkeecabcbogaaGreatDoorGbh
import Derived.Lib.ValidU
import Derived.Laws.Runes
import Derived.Lib.AtoiErrMem
namespace Go.Proofs.YtcbkeecabcbogaaGreatDoor
open Go.RowKit
set_option linter.unusedSimpArgs false
set_option linter.unusedVariables false
theorem bl_append (a b:ByteArray):bl (a++b)=bl a++bl b:=by
 unfold bl;simp
theorem words_blank:∀ z∈wordList,z.contains 32=false:=by decide
theorem isWord_blank (l:List UInt8)(h:l.contains 32=true):isWord l=false:=by
 cases hw:isWord l with
 |false=>rfl
 |true=>
  have:=words_blank l (by simpa [isWord] using hw)
  rw[this] at h;cases h
theorem word_c (s:ByteArray)(w:World)(h:Laid w)(hs:s.size≤1073741824):Calls Tryz.prog 93 #[.string s] w fun e w'=>e = .returned (.bool (isWord (bl s)))∧w=w':=by
 by_cases h1:s.size=0
 ·have e1:s.toList=[]:=by rw[toList_bl];exact(bl_size0 s).2 h1
  have hr:isWord (bl s)=false:=by rw[(bl_size0 s).2 h1];decide
  rw[hr]
  clear hr
  go_enter Tryz.func93, Tryz.ntmps93
  go_wp2
  go_ret
  exact⟨rfl,rfl⟩
 ·have e1:s.toList.isEmpty=false:=by
   rw[toList_bl,List.isEmpty_eq_false_iff];exact fun e=>h1 ((bl_size0 s).1 e)
  have hc:=fun w=>has1_c s 32 w
  cases hb:hasB (bl s) 32
  ·have hr:=word_of (bl s) (fun e=>h1 ((bl_size0 s).1 e)) (by
    intro hm;have:(bl s).contains 32=true:=by rw[List.contains_iff_mem];exact hm
    rw[show (bl s).contains 32=false from hb] at this;cases this)
   rw[hb] at hc
   have HC:=Lib.hid hc
   have HR:=Lib.hid hr
   clear hc hr hb
   go_enter Tryz.func93, Tryz.ntmps93
   go_wp2_with fail
   refine(HC.out _).mono ?_
   rintro e w' ⟨rfl,rfl⟩
   go_wp2_with fail
   refine(has_c _ _ _ h (by decide)).mono ?_
   rintro e w' ⟨rfl,rfl⟩
   go_wp2
   go_ret
   exact⟨ret_bool (by rw[←HR.out];unfold hasL;rw[bl_append,bl_append];rfl),rfl⟩
  ·have hr:=isWord_blank (bl s) hb
   rw[hr]
   rw[hb] at hc
   have HC:=Lib.hid hc
   clear hc hr hb
   go_enter Tryz.func93, Tryz.ntmps93
   go_wp2_with fail
   refine(HC.out _).mono ?_
   rintro e w' ⟨rfl,rfl⟩
   go_wp2
   go_ret
   exact⟨rfl,rfl⟩
def hexLetters:ByteArray:=⟨#[97,98,99,100,101,102,65,66,67,68,69,70]⟩
def isHexL (c:UInt8):Bool:=hexLetters.data.toList.contains c
theorem idx_none (l:List UInt8)(c:UInt8)(h:l.contains c=false):Lib.indexByte l c = -1:=by
 have h1:=indexByte_neg l c
 rw[h] at h1
 have h2:=Lib.indexByte_ge l c
 simp at h1;omega
theorem conv_rune (c:UInt8)(h:128≤c.toNat)(w:World):(convert 21 9 (.int .i32 (c.toNat:Int))).run Tryz.prog w = .ok (.string ⟨#[UInt8.ofNat (192+c.toNat / 64),UInt8.ofNat (128+c.toNat % 64)]⟩) w:=by
 have hc:=c.toNat_lt
 rw[run_convert_int_string w _ _ _ _ (by kernel_rfl) (by kernel_rfl)]
 have e:Utf8.encode (c.toNat:Int)=⟨#[UInt8.ofNat (192+c.toNat / 64),UInt8.ofNat (128+c.toNat % 64)]⟩:=by
  unfold Utf8.encode
  have hv:Utf8.valid (c.toNat:Int)=true:=by unfold Utf8.valid;simp;omega
  have h1:¬ (c.toNat:Int).toNat<128:=by omega
  have h2:(c.toNat:Int).toNat<2048:=by omega
  simp only[hv,if_true]
  rw[if_neg h1,if_pos h2]
  have e2:(c.toNat:Int).toNat=c.toNat:=by omega
  rw[e2]
 rw[e]
set_option maxRecDepth 100000 in
set_option maxHeartbeats 1000000 in
theorem index_high (c:UInt8)(h:128≤c.toNat)(w:World):Calls Tryz.prog 111 #[.string ⟨#[97,98,99,100,101,102,65,66,67,68,69,70]⟩,.int .i32 (c.toNat:Int)] w fun e w'=>e = .returned (.int .i64 (-1))∧Below w.heap.size w w':=by
 have hc:=c.toNat_lt
 have hconv:=conv_rune c h
 obtain⟨b0,hb0⟩:∃ b0:UInt8,b0=UInt8.ofNat (192+c.toNat / 64):=⟨_,rfl⟩
 obtain⟨b1,hb1⟩:∃ b1:UInt8,b1=UInt8.ofNat (128+c.toNat % 64):=⟨_,rfl⟩
 rw[←hb0,←hb1] at hconv
 have hb1':128≤b1.toNat:=by rw[hb1];simp;omega
 have hv:Lib.validRune (c.toNat:Int)=true:=by unfold Lib.validRune;simp;omega
 have hr:∀ w,Calls Tryz.prog 115 #[.int .i32 (c.toNat:Int)] w fun e w'=>e = .returned (.bool (Lib.validRune (c.toNat:Int)))∧w=w':=fun w=>(Tryz.utf8_ValidRune (c.toNat:Int) w).mono fun _ _ ⟨h1,h2⟩=>⟨h1,h2.symm⟩
 rw[hv] at hr
 have HR:=Lib.hid hr
 clear hr hv hb0 hb1
 obtain⟨x,hx⟩:∃ x:Int,x=(c.toNat:Int):=⟨_,rfl⟩
 rw[←hx] at hconv HR ⊢
 have hx0:128≤x:=by omega
 have hx1:x<256:=by omega
 clear hx h hc
 have hidx:∀ w,Calls Tryz.prog 61 #[.string ⟨#[99,100,101,102,65,66,67,68,69,70]⟩,.int .u8 (b1.toNat:Int)] w fun e w'=>e = .returned (.int .i64 (-1))∧w=w':=fun w=>by
  refine(Tryz.strings_IndexByte _ _ w).mono fun _ _ ⟨h1,h2⟩=>⟨?_,h2.symm⟩
  rw[h1]
  have hn:([99,100,101,102,65,66,67,68,69,70]:List UInt8).contains (b1.toNat:Int).toNat.toUInt8=false:=by
   rw[byte_int,←Bool.not_eq_true,List.contains_iff_mem]
   intro hm
   have hall:∀ c∈([99,100,101,102,65,66,67,68,69,70]:List UInt8),c.toNat<128:=by decide
   have:=hall b1 hm
   omega
  exact congrArg _ (congrArg _ (idx_none _ _ hn))
 have hne:((((⟨#[97,98,99,100,101,102,65,66,67,68,69,70]⟩:ByteArray)[1]'(by decide)).toNat:Int) != (((⟨#[b0,b1]⟩:ByteArray)[1]'(by show 1<2;decide)).toNat:Int))=true:=by
  rw[bne_iff_ne];show (98:Int)≠(b1.toNat:Int);omega
 go_enter Tryz.func111, Tryz.ntmps111
 go_wp2_with (first|(go_at_call 115;refine(HR.out _).mono ?_;rintro e w' ⟨rfl,rfl⟩))
 go_step3
 go_wp2
 refine wp_loop_rounds 2 ?_
 rw[rounds_succ]
 go_wp2
 go_step3
 go_wp2
 go_quiet (fail)
 have hB:=below_dn (Below.refl w.heap.size w) nq
 generalize w.drewN nq=W2 at *
 go_wp2
 go_quiet ((go_at_call 61;exact quiet_eq (hidx _)))
 go_wp2
 repeat (first|rw[Exit.noGoto_ret]|simp only[Exit.inBlock,Exit.then])
 go_ret
 exact⟨rfl,below_dn hB _⟩
theorem hexrune_c (c:UInt8)(w:World):Calls Tryz.prog 104 #[.string ⟨#[97,98,99,100,101,102,65,66,67,68,69,70]⟩,.int .i32 (c.toNat:Int)] w fun e w'=>e = .returned (.bool (isHexL c))∧Below w.heap.size w w':=by
 by_cases h:c.toNat<128
 ·refine(Tryz.strings_ContainsRune_ascii _ _ w (by omega) (by omega)).mono fun e w' ⟨h1,h2⟩ => ?_
  subst h2
  refine⟨?_,Below.refl _ _⟩
  rw[h1,indexByte_neg,byte_int]
  rfl
 ·have hi:=index_high c (by omega) w
  have hr:isHexL c=false:=by
   unfold isHexL
   rw[←Bool.not_eq_true,List.contains_iff_mem]
   intro hm
   have hall:∀ c∈hexLetters.data.toList,c.toNat<128:=by decide
   exact h (hall c hm)
  rw[hr]
  have HI:=Lib.hid hi
  clear hi hr
  go_enter Tryz.func104, Tryz.ntmps104
  go_wp2_with fail
  refine HI.out.mono ?_
  rintro e w1 ⟨rfl,hw⟩
  go_wp2
  go_ret
  exact⟨rfl,hw⟩
theorem conv_bytes (s:ByteArray)(w:World):∃ W1 cap,(convert 9 100 (.string s)).run Tryz.prog w = .ok (.slice (some ⟨w.heap.size,0,none⟩) s.size cap) W1∧
  (∀ j (h:j<s.size),W1.cell? ⟨w.heap.size,j,none⟩=some (.int .u8 (s[j].toNat:Int)))∧Below w.heap.size w W1:=by
 refine⟨_,_,Lib.run_convert_string_bytes w 9 100 5 s Tryz.underlying9 Tryz.underlying100 Tryz.underlying5,fun j h => ?_,Lib.bytesWorld_below w _ s⟩
 rw[Lib.bytesWorld_cell w _ s j h]
 have e:=at_bl s j h
 unfold bl at e
 simp[List.getD,e]
def puV (V:Nat):Value:=if V<18446744073709551616 then Value.tuple #[.int .u64 (V:Int),.nilIface] else .tuple #[.int .u64 18446744073709551615,.iface 114 (.int .i64 1)]
theorem max_wrap:IntKind.u64.wrap (IntKind.u64.wrap 18446744073709551616 - 1)=18446744073709551615:=by decide
theorem lower_hex:∀ x:Fin 256,(97≤x.val∧x.val≤102)∨(65≤x.val∧x.val≤70)→bits .or .u8 (x.val:Int) 32=((x.val % 32+96:Nat):Int):=by decide +kernel
theorem lower_c (c:UInt8)(w:World):Calls Tryz.prog 119 #[.int .u8 (c.toNat:Int)] w fun e w'=>e = .returned (.int .u8 (bits .or .u8 (c.toNat:Int) 32))∧w=w':=by
 go_enter Tryz.func119, Tryz.ntmps119
 go_wp2
 go_ret
 exact⟨rfl,rfl⟩
set_option maxRecDepth 100000 in
set_option maxHeartbeats 2000000 in
theorem pu10 (s:ByteArray)(V:Nat)(w:World)(hs:s.size≤1073741824)(h0:s.size≠0)(hV:valFrom false 0 (bl s)=some V):
  Calls Tryz.prog 113 #[.string s,.int .i64 10,.int .i64 64] w fun e w'=>e = .returned (puV V)∧Below w.heap.size w w':=by
 have e1:s.toList.isEmpty=false:=by
  rw[toList_bl,List.isEmpty_eq_false_iff];exact fun e=>h0 ((bl_size0 s).1 e)
 obtain⟨W1,cap,hcv,hcell,hB⟩:=conv_bytes s w
 have hmx:=max_wrap
 have HV:=Lib.hid hV
 have HC:=Lib.hid hcell
 clear hV hcell
 go_enter Tryz.func113, Tryz.ntmps113
 go_wp2
 clear hcv
 go_loop [12,13,101] (fun us n i=>∃ k v:Nat,k≤s.size∧us = .bool false∧i = .int .i64 k∧n = .int .u64 v∧v<18446744073709551616∧Hid (valFrom false 0 ((bl s).take k)=some v)) (fun _ _ i=>s.size - (intOf i).toNat)
 case atStart=>exact⟨0,0,by omega,rfl,rfl,rfl,by omega,Lib.hid rfl⟩
 case round=>
  obtain⟨k,v,hk,rfl,rfl,rfl,hv,HK⟩:=hrel
  by_cases hlt:k<s.size
  ·have hat:=at_bl s k hlt
   have hc1:=HC.out k hlt
   have hlt1:(k:Int)<(s.size:Int):=by omega
   generalize hch:s[k]=ch at *
   have HCH:=Lib.hid hch
   have hrest:∀ d,digVal false ch=some d→v * 10+d≤V:=fun d hd=>by
    have h1:=val_snoc false (bl s) k v d ch hat HK.out hd
    have h2:=HV.out
    rw[←List.take_append_drop (k+1) (bl s),valFrom_app,h1] at h2
    exact valFrom_ge false _ _ _ h2
   cases hdv:digVal false ch with
   |none=>
    have:=val_bad false (bl s) k v ch hat HK.out hdv
    rw[HV.out] at this;cases this
   |some d=>
    have hge:=hrest d hdv
    have hdb:d<10:=digVal_lt false ch d hdv
    have hsn:Hid (valFrom false 0 ((bl s).take (k+1))=some (v * 10+d)):=Lib.hid (val_snoc false (bl s) k v d ch hat HK.out hdv)
    have hcb:=ch.toNat_lt
    obtain⟨hr1,hr2,hdd⟩:48≤ch.toNat∧ch.toNat≤57∧d=ch.toNat - 48:=by
     unfold digVal at hdv
     split at hdv
     ·rename_i h;exact⟨h.1,h.2,(Option.some.inj hdv).symm⟩
     ·simp at hdv
    have h95:((ch.toNat:Int)==95)=false:=by rw[beq_eq_false_iff_ne];omega
    clear hrest hat HCH hdv
    have hd48:IntKind.u8.wrap ((ch.toNat:Int) - 48)=(d:Int):=by rw[hdd];simp[IntKind.wrap,IntKind.signed,IntKind.bits];omega
    have HL:=Lib.hid (lower_c ch)
    have hx1:(48:Int)≤(ch.toNat:Int):=by omega
    have hx2:(ch.toNat:Int)≤57:=by omega
    have hx3:¬ (10:Int)≤(d:Int):=by omega
    have hx4:(0:Int)≤(d:Int):=by omega
    clear hdd hcb
    by_cases hcut:1844674407370955162≤v
    ·have HF:Hid (puV V = .tuple #[.int .u64 18446744073709551615,.iface 114 (.int .i64 1)]):=Lib.hid (if_neg (by omega))
     have hcut':decide ((1844674407370955162:Int)≤(v:Int))=true:=by rw[decide_eq_true_eq];omega
     go_wp2_with (first|(go_at_call 119; refine (HL.out _).mono ?_; rintro e w' ⟨rfl, rfl⟩))
     go_ret2
     exact⟨by rw[HF.out];rfl,hB⟩
    ·have hcut':decide ((1844674407370955162:Int)≤(v:Int))=false:=by rw[decide_eq_false_iff_not];omega
     by_cases hbig:18446744073709551616≤v * 10+d
     ·have HF:Hid (puV V = .tuple #[.int .u64 18446744073709551615,.iface 114 (.int .i64 1)]):=Lib.hid (if_neg (by omega))
      have hw1:IntKind.u64.wrap ((v:Int) * 10)=(v:Int) * 10:=by rw[IntKind.wrap_u64];omega
      have hw2:IntKind.u64.wrap ((v:Int) * 10+(d:Int))=(v:Int) * 10+(d:Int) - 18446744073709551616:=by rw[IntKind.wrap_u64];omega
      have hw3:decide ((v:Int) * 10+(d:Int) - 18446744073709551616<(v:Int) * 10)=true:=by rw[decide_eq_true_eq];omega
      have HB:=Lib.hid hbig
      clear hbig hge hdb
      go_wp2_with (first|(go_at_call 119; refine (HL.out _).mono ?_; rintro e w' ⟨rfl, rfl⟩))
      go_ret2
      exact⟨by rw[HF.out];rfl,hB⟩
     ·have hw1:IntKind.u64.wrap ((v:Int) * 10)=(v:Int) * 10:=by rw[IntKind.wrap_u64];omega
      have hw2:IntKind.u64.wrap ((v:Int) * 10+(d:Int))=(v:Int) * 10+(d:Int):=by rw[IntKind.wrap_u64];omega
      have hw3:decide ((v:Int) * 10+(d:Int)<(v:Int) * 10)=false:=by rw[decide_eq_false_iff_not];omega
      have hw4:decide (18446744073709551615<(v:Int) * 10+(d:Int))=false:=by rw[decide_eq_false_iff_not];omega
      have HB:=Lib.hid hbig
      clear hbig hge hdb
      go_wp2_with (first|(go_at_call 119; refine (HL.out _).mono ?_; rintro e w' ⟨rfl, rfl⟩))
      exact⟨⟨k+1,v * 10+d,by omega,rfl,by go_num,by go_num,by have:=HB.out;omega,hsn⟩,by simp[intOf];omega⟩
  ·have hke:k=s.size:=by omega
   subst hke
   have hvV:v=V:=by
    have h1:=HK.out
    rw[List.take_of_length_le (by rw[bl_len];exact Nat.le_refl _),HV.out] at h1
    exact(Option.some.inj h1).symm
   subst hvV
   have HF:Hid (puV v = .tuple #[.int .u64 (v:Int),.nilIface]):=Lib.hid (if_pos hv)
   clear HC
   go_wp2
   go_ret2
   exact⟨by rw[HF.out];rfl,hB⟩
set_option maxRecDepth 100000 in
set_option maxHeartbeats 2000000 in
theorem pu16 (s:ByteArray)(V:Nat)(w:World)(hs:s.size≤1073741824)(h0:s.size≠0)(hV:valFrom true 0 (bl s)=some V):
  Calls Tryz.prog 113 #[.string s,.int .i64 16,.int .i64 64] w fun e w'=>e = .returned (puV V)∧Below w.heap.size w w':=by
 have e1:s.toList.isEmpty=false:=by
  rw[toList_bl,List.isEmpty_eq_false_iff];exact fun e=>h0 ((bl_size0 s).1 e)
 obtain⟨W1,cap,hcv,hcell,hB⟩:=conv_bytes s w
 have hmx:=max_wrap
 have HV:=Lib.hid hV
 have HC:=Lib.hid hcell
 clear hV hcell
 go_enter Tryz.func113, Tryz.ntmps113
 go_wp2
 clear hcv
 go_loop [12,13,101] (fun us n i=>∃ k v:Nat,k≤s.size∧us = .bool false∧i = .int .i64 k∧n = .int .u64 v∧v<18446744073709551616∧Hid (valFrom true 0 ((bl s).take k)=some v)) (fun _ _ i=>s.size - (intOf i).toNat)
 case atStart=>exact⟨0,0,by omega,rfl,rfl,rfl,by omega,Lib.hid rfl⟩
 case round=>
  obtain⟨k,v,hk,rfl,rfl,rfl,hv,HK⟩:=hrel
  by_cases hlt:k<s.size
  ·have hat:=at_bl s k hlt
   have hc1:=HC.out k hlt
   have hlt1:(k:Int)<(s.size:Int):=by omega
   generalize hch:s[k]=ch at *
   have HCH:=Lib.hid hch
   have hrest:∀ d,digVal true ch=some d→v * 16+d≤V:=fun d hd=>by
    have h1:=val_snoc true (bl s) k v d ch hat HK.out hd
    have h2:=HV.out
    rw[←List.take_append_drop (k+1) (bl s),valFrom_app,h1] at h2
    exact valFrom_ge true _ _ _ h2
   cases hdv:digVal true ch with
   |none=>
    have:=val_bad true (bl s) k v ch hat HK.out hdv
    rw[HV.out] at this;cases this
   |some d=>
    have hge:=hrest d hdv
    have hdb:d<16:=digVal_lt true ch d hdv
    have hsn:Hid (valFrom true 0 ((bl s).take (k+1))=some (v * 16+d)):=Lib.hid (val_snoc true (bl s) k v d ch hat HK.out hdv)
    have hcb:=ch.toNat_lt
    have hcase:(48≤ch.toNat∧ch.toNat≤57∧d=ch.toNat - 48)∨(((97≤ch.toNat∧ch.toNat≤102)∨(65≤ch.toNat∧ch.toNat≤70))∧d=ch.toNat % 32+9):=by
     unfold digVal at hdv
     split at hdv
     ·rename_i h;exact .inl ⟨h.1,h.2,(Option.some.inj hdv).symm⟩
     ·split at hdv
      ·rename_i h;have:=Option.some.inj hdv;right;refine⟨.inl ⟨h.2.1,h.2.2⟩,?_⟩;omega
      ·split at hdv
       ·rename_i h;have:=Option.some.inj hdv;right;refine⟨.inr ⟨h.2.1,h.2.2⟩,?_⟩;omega
       ·cases hdv
    rcases hcase with ⟨hr1,hr2,hdd⟩|⟨hr,hdd⟩
    ·have h95:((ch.toNat:Int)==95)=false:=by rw[beq_eq_false_iff_ne];omega
     clear hrest hat HCH hdv
     have hd48:IntKind.u8.wrap ((ch.toNat:Int) - 48)=(d:Int):=by rw[hdd];simp[IntKind.wrap,IntKind.signed,IntKind.bits];omega
     have HL:=Lib.hid (lower_c ch)
     have hx1:(48:Int)≤(ch.toNat:Int):=by omega
     have hx2:(ch.toNat:Int)≤57:=by omega
     have hx3:¬ (16:Int)≤(d:Int):=by omega
     have hx4:(0:Int)≤(d:Int):=by omega
     clear hdd hcb
     by_cases hcut:1152921504606846976≤v
     ·have HF:Hid (puV V = .tuple #[.int .u64 18446744073709551615,.iface 114 (.int .i64 1)]):=Lib.hid (if_neg (by omega))
      have hcut':decide ((1152921504606846976:Int)≤(v:Int))=true:=by rw[decide_eq_true_eq];omega
      go_wp2_with (first|(go_at_call 119; refine (HL.out _).mono ?_; rintro e w' ⟨rfl, rfl⟩))
      go_ret2
      exact⟨by rw[HF.out];rfl,hB⟩
     ·have hcut':decide ((1152921504606846976:Int)≤(v:Int))=false:=by rw[decide_eq_false_iff_not];omega
      by_cases hbig:18446744073709551616≤v * 16+d
      ·have HF:Hid (puV V = .tuple #[.int .u64 18446744073709551615,.iface 114 (.int .i64 1)]):=Lib.hid (if_neg (by omega))
       have hw1:IntKind.u64.wrap ((v:Int) * 16)=(v:Int) * 16:=by rw[IntKind.wrap_u64];omega
       have hw2:IntKind.u64.wrap ((v:Int) * 16+(d:Int))=(v:Int) * 16+(d:Int) - 18446744073709551616:=by rw[IntKind.wrap_u64];omega
       have hw3:decide ((v:Int) * 16+(d:Int) - 18446744073709551616<(v:Int) * 16)=true:=by rw[decide_eq_true_eq];omega
       have HB:=Lib.hid hbig
       clear hbig hge hdb
       go_wp2_with (first|(go_at_call 119; refine (HL.out _).mono ?_; rintro e w' ⟨rfl, rfl⟩))
       go_ret2
       exact⟨by rw[HF.out];rfl,hB⟩
      ·have hw1:IntKind.u64.wrap ((v:Int) * 16)=(v:Int) * 16:=by rw[IntKind.wrap_u64];omega
       have hw2:IntKind.u64.wrap ((v:Int) * 16+(d:Int))=(v:Int) * 16+(d:Int):=by rw[IntKind.wrap_u64];omega
       have hw3:decide ((v:Int) * 16+(d:Int)<(v:Int) * 16)=false:=by rw[decide_eq_false_iff_not];omega
       have hw4:decide (18446744073709551615<(v:Int) * 16+(d:Int))=false:=by rw[decide_eq_false_iff_not];omega
       have HB:=Lib.hid hbig
       clear hbig hge hdb
       go_wp2_with (first|(go_at_call 119; refine (HL.out _).mono ?_; rintro e w' ⟨rfl, rfl⟩))
       exact⟨⟨k+1,v * 16+d,by omega,rfl,by go_num,by go_num,by have:=HB.out;omega,hsn⟩,by simp[intOf];omega⟩
    ·have hl:=lower_hex ⟨ch.toNat,hcb⟩ hr
     simp only[] at hl
     have h95:((ch.toNat:Int)==95)=false:=by rw[beq_eq_false_iff_ne];omega
     obtain⟨d0,rfl⟩:∃ d0,d=d0+10:=⟨d - 10,by omega⟩
     have hlc:=lower_c ch
     rw[hl,show ((ch.toNat % 32+96:Nat):Int)=(d0:Int)+97 by omega] at hlc
     have HL:=Lib.hid hlc
     have hx0:(48:Int)≤(ch.toNat:Int):=by omega
     have hx2:¬ (ch.toNat:Int)≤57:=by omega
     have hx3:¬ (16:Int)≤(d0:Int)+10:=by omega
     have hx5:(d0:Int)≤5:=by omega
     have hx4:(0:Int)≤(d0:Int):=by omega
     have hx6:(97:Int)≤(d0:Int)+97:=by omega
     have hx7:(d0:Int)+97≤122:=by omega
     clear hrest hat HCH hdv hl hlc hr hdd hcb
     by_cases hcut:1152921504606846976≤v
     ·have HF:Hid (puV V = .tuple #[.int .u64 18446744073709551615,.iface 114 (.int .i64 1)]):=Lib.hid (if_neg (by omega))
      have hcut':decide ((1152921504606846976:Int)≤(v:Int))=true:=by rw[decide_eq_true_eq];omega
      go_wp2_with (first|(go_at_call 119; refine (HL.out _).mono ?_; rintro e w' ⟨rfl, rfl⟩))
      go_ret2
      exact⟨by rw[HF.out];rfl,hB⟩
     ·have hcut':decide ((1152921504606846976:Int)≤(v:Int))=false:=by rw[decide_eq_false_iff_not];omega
      by_cases hbig:18446744073709551616≤v * 16+(d0+10)
      ·have HF:Hid (puV V = .tuple #[.int .u64 18446744073709551615,.iface 114 (.int .i64 1)]):=Lib.hid (if_neg (by omega))
       have hw1:IntKind.u64.wrap ((v:Int) * 16)=(v:Int) * 16:=by rw[IntKind.wrap_u64];omega
       have hw2:IntKind.u64.wrap ((v:Int) * 16+((d0:Int)+10))=(v:Int) * 16+((d0:Int)+10) - 18446744073709551616:=by rw[IntKind.wrap_u64];omega
       have hw3:decide ((v:Int) * 16+((d0:Int)+10) - 18446744073709551616<(v:Int) * 16)=true:=by rw[decide_eq_true_eq];omega
       have HB:=Lib.hid hbig
       clear hbig hge hdb
       go_wp2_with (first|(go_at_call 119; refine (HL.out _).mono ?_; rintro e w' ⟨rfl, rfl⟩))
       go_ret2
       exact⟨by rw[HF.out];rfl,hB⟩
      ·have hw1:IntKind.u64.wrap ((v:Int) * 16)=(v:Int) * 16:=by rw[IntKind.wrap_u64];omega
       have hw2:IntKind.u64.wrap ((v:Int) * 16+((d0:Int)+10))=(v:Int) * 16+((d0:Int)+10):=by rw[IntKind.wrap_u64];omega
       have hw3:decide ((v:Int) * 16+((d0:Int)+10)<(v:Int) * 16)=false:=by rw[decide_eq_false_iff_not];omega
       have hw4:decide (18446744073709551615<(v:Int) * 16+((d0:Int)+10))=false:=by rw[decide_eq_false_iff_not];omega
       have HB:=Lib.hid hbig
       clear hbig hge hdb
       go_wp2_with (first|(go_at_call 119; refine (HL.out _).mono ?_; rintro e w' ⟨rfl, rfl⟩))
       exact⟨⟨k+1,v * 16+(d0+10),by omega,rfl,by go_num,v_int (by omega),by have:=HB.out;omega,hsn⟩,by simp[intOf];omega⟩
  ·have hke:k=s.size:=by omega
   subst hke
   have hvV:v=V:=by
    have h1:=HK.out
    rw[List.take_of_length_le (by rw[bl_len];exact Nat.le_refl _),HV.out] at h1
    exact(Option.some.inj h1).symm
   subst hvV
   have HF:Hid (puV v = .tuple #[.int .u64 (v:Int),.nilIface]):=Lib.hid (if_pos hv)
   clear HC
   go_wp2
   go_ret2
   exact⟨by rw[HF.out];rfl,hB⟩
theorem spu10_ok (s:ByteArray)(V:Nat)(w:World)(hs:s.size≤1073741824)(h0:s.size≠0)(hV:valFrom false 0 (bl s)=some V)(hlt:V<18446744073709551616):
  Calls Tryz.prog 108 #[.string s,.int .i64 10,.int .i64 64] w fun e w'=>e = .returned (.tuple #[.int .u64 (V:Int),.nilIface])∧Below w.heap.size w w':=by
 have hc:=pu10 s V w hs h0 hV
 rw[show puV V=_ from if_pos hlt] at hc
 have HC:=Lib.hid hc
 clear hc hV hlt h0
 go_enter Tryz.func108, Tryz.ntmps108
 go_wp2_with fail
 refine HC.out.mono ?_
 rintro e w1 ⟨rfl,hw⟩
 go_wp2
 go_ret2
 exact⟨rfl,hw⟩
theorem spu10_range (s:ByteArray)(V:Nat)(w:World)(h:Laid w)(hs:s.size≤1073741824)(h0:s.size≠0)(hV:valFrom false 0 (bl s)=some V)(hlt:¬ V<18446744073709551616):
  Calls Tryz.prog 108 #[.string s,.int .i64 10,.int .i64 64] w fun e w'=>(∃ N:Nat,e = .returned (.tuple #[.int .u64 18446744073709551615,.iface 116 (.pointer (some ⟨N,0,none⟩))]))∧Below w.heap.size w w':=by
 have hc:=pu10 s V w hs h0 hV
 rw[show puV V=_ from if_neg hlt] at hc
 have HC:=Lib.hid hc
 clear hc hV hlt h0
 go_enter Tryz.func108, Tryz.ntmps108
 go_wp2_with fail
 refine HC.out.mono ?_
 rintro e w1 ⟨rfl,hw⟩
 obtain⟨ev,hr,hev⟩:=(h.below hw).range
 go_wp2_with fail
 refine(Tryz.strconv_toError_range _ s 10 64 _ w1 (by omega) hr hev).mono ?_
 rintro e w2 ⟨N,rfl,-,-,hw2⟩
 have hB:=below_two hw hw2
 clear hw hw2 hr
 go_wp2
 go_ret2
 exact⟨⟨N,rfl⟩,hB⟩
theorem spu16_ok (s:ByteArray)(V:Nat)(w:World)(hs:s.size≤1073741824)(h0:s.size≠0)(hV:valFrom true 0 (bl s)=some V)(hlt:V<18446744073709551616):
  Calls Tryz.prog 108 #[.string s,.int .i64 16,.int .i64 64] w fun e w'=>e = .returned (.tuple #[.int .u64 (V:Int),.nilIface])∧Below w.heap.size w w':=by
 have hc:=pu16 s V w hs h0 hV
 rw[show puV V=_ from if_pos hlt] at hc
 have HC:=Lib.hid hc
 clear hc hV hlt h0
 go_enter Tryz.func108, Tryz.ntmps108
 go_wp2_with fail
 refine HC.out.mono ?_
 rintro e w1 ⟨rfl,hw⟩
 go_wp2
 go_ret2
 exact⟨rfl,hw⟩
theorem spu16_range (s:ByteArray)(V:Nat)(w:World)(h:Laid w)(hs:s.size≤1073741824)(h0:s.size≠0)(hV:valFrom true 0 (bl s)=some V)(hlt:¬ V<18446744073709551616):
  Calls Tryz.prog 108 #[.string s,.int .i64 16,.int .i64 64] w fun e w'=>(∃ N:Nat,e = .returned (.tuple #[.int .u64 18446744073709551615,.iface 116 (.pointer (some ⟨N,0,none⟩))]))∧Below w.heap.size w w':=by
 have hc:=pu16 s V w hs h0 hV
 rw[show puV V=_ from if_neg hlt] at hc
 have HC:=Lib.hid hc
 clear hc hV hlt h0
 go_enter Tryz.func108, Tryz.ntmps108
 go_wp2_with fail
 refine HC.out.mono ?_
 rintro e w1 ⟨rfl,hw⟩
 obtain⟨ev,hr,hev⟩:=(h.below hw).range
 go_wp2_with fail
 refine(Tryz.strconv_toError_range _ s 16 64 _ w1 (by omega) hr hev).mono ?_
 rintro e w2 ⟨N,rfl,-,-,hw2⟩
 have hB:=below_two hw hw2
 clear hw hw2 hr
 go_wp2
 go_ret2
 exact⟨⟨N,rfl⟩,hB⟩
theorem pre_hex (l:List UInt8):preP [48,120] l=isHex l:=by
 rw[isHex_iff]
 unfold preP
 match l with
 | []=>rfl
 | [a]=>simp[List.isPrefixOf]
 |a :: b :: m=>
  by_cases ha:a=48
  ·by_cases hb:b=120
   ·subst ha hb;simp[List.isPrefixOf]
   ·have hb1:(b==120)=false:=beq_eq_false_iff_ne.2 hb
    have hb2:(120==b)=false:=beq_eq_false_iff_ne.2 (fun e=>hb e.symm)
    subst ha;simp[List.isPrefixOf,hb1,hb2]
  ·have ha1:(a==48)=false:=beq_eq_false_iff_ne.2 ha
   have ha2:(48==a)=false:=beq_eq_false_iff_ne.2 (fun e=>ha e.symm)
   simp[List.isPrefixOf,ha1,ha2]
theorem dig_dec (c:UInt8):(digVal false c).isSome=isDig (c.toNat:Int):=by
 unfold digVal isDig
 by_cases h:48≤c.toNat∧c.toNat≤57
 ·rw[if_pos h];simp;omega
 ·rw[if_neg h];simp;omega
theorem hexl_iff (c:UInt8):isHexL c=decide ((97≤c.toNat∧c.toNat≤102)∨(65≤c.toNat∧c.toNat≤70)):=by
 have h:∀ x:Fin 256,isHexL (UInt8.ofNat x.val)=decide ((97≤x.val∧x.val≤102)∨(65≤x.val∧x.val≤70)):=by decide +kernel
 have:=h ⟨c.toNat,c.toNat_lt⟩
 simpa using this
theorem dig_hex (c:UInt8):(digVal true c).isSome=(isDig (c.toNat:Int)||isHexL c):=by
 rw[hexl_iff]
 unfold digVal isDig
 by_cases h:48≤c.toNat∧c.toNat≤57
 ·rw[if_pos h];simp;omega
 ·rw[if_neg h]
  by_cases h2:97≤c.toNat∧c.toNat≤102
  ·rw[if_pos ⟨rfl,h2⟩];simp;omega
  ·rw[if_neg (by simpa using h2)]
   by_cases h3:65≤c.toNat∧c.toNat≤70
   ·rw[if_pos ⟨rfl,h3⟩];simp;omega
   ·rw[if_neg (by simpa using h3)];simp;omega
set_option maxRecDepth 100000 in
set_option maxHeartbeats 1000000 in
theorem num_dec (s:ByteArray)(w:World)(h:Laid w)(hs:s.size≤1073741824)(hz:badZero (bl s)=false)(hx:isHex (bl s)=false):Calls Tryz.prog 95 #[.string s] w fun e w'=>e = .returned (.tuple #[.int .u64 ((numP (bl s)).1:Int),.int .i64 (numP (bl s)).2])∧Below w.heap.size w w':=by
 have hp:=fun w=>prefix_c s ⟨#[48,120]⟩ w
 rw[show bl ⟨#[48,120]⟩=[48,120] from rfl,pre_hex,hx] at hp
 have HP:=Lib.hid hp
 clear hp
 have hD:digitsOf (bl s)=bl s:=by simp[digitsOf,hx]
 have hok:isHex (bl s)=true∨badZero (bl s)=false := .inr hz
 have HT:Hid (bl s=digitsOf (bl s)):=Lib.hid hD.symm
 have hL0:=h
 have hB0:=Below.refl w.heap.size w
 obtain⟨W1,cap,hcv,hcell,hB⟩:=conv_bytes s w
 have hts:=hs
 have hnz:∀ h:2≤s.size,¬ ((s[0].toNat:Int)=48):=fun h e=>by
  rw[badZero_iff,at_bl s 0 (by omega),bl_len] at hz
  have:s[0]=48:=by apply UInt8.toNat_inj.1;show _=48;omega
  rw[this] at hz
  simp at hz;omega
 clear hz
 have HCELL:=Lib.hid hcell
 have HX:=Lib.hid hx
 have HOK:=Lib.hid hok
 have hL1:=hL0.below hB
 have hB1:Below w.heap.size w W1:=below_two hB0 hB
 clear hcell hx hok hD h hB0
 by_cases h2:2≤s.size
 ·have g0:=hnz h2
  have g0':((s[0].toNat:Int)==48)=false:=by rw[beq_eq_false_iff_ne];exact g0
  have g2:(1:Int)<(s.size:Int):=by omega
  clear hnz g0
  go_enter Tryz.func95, Tryz.ntmps95
  go_wp2_with fail
  refine(HP.out _).mono ?_
  rintro e w' ⟨rfl,rfl⟩
  go_wp2
  clear hcv g0' g2
  go_loopw [26] (fun i wr=>∃ k v:Nat,k≤s.size∧i = .int .i64 k∧Below W1.heap.size W1 wr∧Hid (valFrom false 0 ((bl s).take k)=some v)) (fun i _=>s.size - (intOf i).toNat)
  case atStart=>exact⟨0,0,by omega,rfl,Below.refl _ _,Lib.hid rfl⟩
  case round=>
   obtain⟨k,v,hk,rfl,hwr,HK⟩:=hrel
   by_cases hlt:k<s.size
   ·have hat:=at_bl s k hlt
    have hc1:=HCELL.out k hlt
    have hc2:wr.cell? ⟨w.heap.size,k,none⟩=some (.int .u8 (s[k].toNat:Int)):=by
     rw[hwr.cell (p:=⟨w.heap.size,k,none⟩) (Lib.lt_of_cell hc1)];exact hc1
    have hlt1:(k:Int)<(s.size:Int):=by omega
    generalize hch:s[k]=ch at *
    have HCH:=Lib.hid hch
    have hcb:=ch.toNat_lt
    have hcb1:(ch.toNat:Int)<256:=by omega
    have hcb0:(0:Int)≤(ch.toNat:Int):=by omega
    have hw32:IntKind.i32.wrap (ch.toNat:Int)=(ch.toNat:Int):=by simp[IntKind.wrap,IntKind.signed,IntKind.bits];omega
    have hbad:digVal false ch=none→numP (bl s)=(0,4):=fun hd=>numP_bad (bl s) (by rw[HX.out,←HT.out];exact val_bad false _ k v ch hat HK.out hd)
    have hgood:digVal false ch≠none→∃ v',valFrom false 0 ((bl s).take (k+1))=some v':=fun hd=>by
     obtain⟨d,hd⟩:=Option.ne_none_iff_exists'.1 hd
     exact⟨_,val_snoc false _ k v d ch hat HK.out hd⟩
    have hsome:=dig_dec ch
    have HBAD:=Lib.hid hbad
    have HGOOD:=Lib.hid hgood
    clear hbad hgood hat hc1 hch HCH hcb
    cases hd:isDig (ch.toNat:Int)
    ·have hr:=HBAD.out (by rw[hd] at hsome;simpa using hsome)
     have HR:=Lib.hid hr
     clear hr hsome
     go_wp2_with (first|(go_at_call 94; refine (digit_any _ _).mono ?_; rintro e w' ⟨rfl, rfl⟩))
     go_ret2
     exact⟨ret_two (v_int (by rw[HR.out];try rfl)) (v_int (by rw[HR.out];try rfl)),below_two hB1 hwr⟩
    ·obtain⟨v',hv'⟩:=HGOOD.out (by rw[hd] at hsome;intro hn;rw[hn] at hsome;cases hsome)
     have HV:=Lib.hid hv'
     clear hv' hsome
     go_wp2_with (first|(go_at_call 94; refine (digit_any _ _).mono ?_; rintro e w' ⟨rfl, rfl⟩))
     exact⟨⟨k+1,v',by omega,by go_num,hwr,HV⟩,by simp[intOf];omega⟩
   ·have hke:k=s.size:=by omega
    subst hke
    have hval:valFrom false 0 (bl s)=some v:=by
     have h1:=HK.out
     rwa [List.take_of_length_le (by rw[bl_len];exact Nat.le_refl _)] at h1
    have hBw:Below w.heap.size w wr:=below_two hB1 hwr
    have hLw:=hL1.below hwr
    clear HK
    by_cases h0:s.size=0
    ·have e1:s.toList=[]:=by rw[toList_bl];exact(bl_size0 s).2 h0
     have hr:=numP_empty (bl s) (by rw[←HT.out];exact(bl_size0 s).2 h0)
     have HR:=Lib.hid hr
     have hz0:¬ (((s.size:Nat):Int)<((s.size:Nat):Int)):=by omega
     clear hr hval hL1 hB hLw
     go_wp2
     go_ret2
     exact⟨ret_two (v_int (by rw[HR.out];try rfl)) (v_int (by rw[HR.out];try rfl)),hBw⟩
    ·have e1:s.toList.isEmpty=false:=by
      rw[toList_bl,List.isEmpty_eq_false_iff];exact fun e=>h0 ((bl_size0 s).1 e)
     have hr:=numP_ok (bl s) v (by rw[HX.out,←HT.out];exact hval) HOK.out (by rw[←HT.out];exact fun e=>h0 ((bl_size0 s).1 e))
     by_cases hV:v<18446744073709551616
     ·rw[if_pos hV] at hr
      have HR:=Lib.hid hr
      have HC:=Lib.hid (spu10_ok s v wr hts h0 hval hV)
      clear hr hval hV
      go_wp2_with fail
      refine HC.out.mono ?_
      rintro e w4 ⟨rfl,hw4⟩
      have hBe:=below_two hBw hw4
      clear hw4 hBw HC
      go_wp2
      go_ret2
      exact⟨ret_two (v_int (by rw[HR.out])) (v_int (by rw[HR.out])),hBe⟩
     ·rw[if_neg hV] at hr
      have HR:=Lib.hid hr
      have HC:=Lib.hid (spu10_range s v wr hLw hts h0 hval hV)
      clear hr hval hV
      go_wp2_with fail
      refine HC.out.mono ?_
      rintro e w4 ⟨⟨N,rfl⟩,hw4⟩
      have hBe:=below_two hBw hw4
      clear hw4 hBw HC
      go_wp2
      go_ret2
      exact⟨ret_two (v_int (by rw[HR.out];try rfl)) (v_int (by rw[HR.out])),hBe⟩
 ·have g2:¬ (1:Int)<(s.size:Int):=by omega
  clear hnz
  go_enter Tryz.func95, Tryz.ntmps95
  go_wp2_with fail
  refine(HP.out _).mono ?_
  rintro e w' ⟨rfl,rfl⟩
  go_wp2
  clear hcv g2
  go_loopw [26] (fun i wr=>∃ k v:Nat,k≤s.size∧i = .int .i64 k∧Below W1.heap.size W1 wr∧Hid (valFrom false 0 ((bl s).take k)=some v)) (fun i _=>s.size - (intOf i).toNat)
  case atStart=>exact⟨0,0,by omega,rfl,Below.refl _ _,Lib.hid rfl⟩
  case round=>
   obtain⟨k,v,hk,rfl,hwr,HK⟩:=hrel
   by_cases hlt:k<s.size
   ·have hat:=at_bl s k hlt
    have hc1:=HCELL.out k hlt
    have hc2:wr.cell? ⟨w.heap.size,k,none⟩=some (.int .u8 (s[k].toNat:Int)):=by
     rw[hwr.cell (p:=⟨w.heap.size,k,none⟩) (Lib.lt_of_cell hc1)];exact hc1
    have hlt1:(k:Int)<(s.size:Int):=by omega
    generalize hch:s[k]=ch at *
    have HCH:=Lib.hid hch
    have hcb:=ch.toNat_lt
    have hcb1:(ch.toNat:Int)<256:=by omega
    have hcb0:(0:Int)≤(ch.toNat:Int):=by omega
    have hw32:IntKind.i32.wrap (ch.toNat:Int)=(ch.toNat:Int):=by simp[IntKind.wrap,IntKind.signed,IntKind.bits];omega
    have hbad:digVal false ch=none→numP (bl s)=(0,4):=fun hd=>numP_bad (bl s) (by rw[HX.out,←HT.out];exact val_bad false _ k v ch hat HK.out hd)
    have hgood:digVal false ch≠none→∃ v',valFrom false 0 ((bl s).take (k+1))=some v':=fun hd=>by
     obtain⟨d,hd⟩:=Option.ne_none_iff_exists'.1 hd
     exact⟨_,val_snoc false _ k v d ch hat HK.out hd⟩
    have hsome:=dig_dec ch
    have HBAD:=Lib.hid hbad
    have HGOOD:=Lib.hid hgood
    clear hbad hgood hat hc1 hch HCH hcb
    cases hd:isDig (ch.toNat:Int)
    ·have hr:=HBAD.out (by rw[hd] at hsome;simpa using hsome)
     have HR:=Lib.hid hr
     clear hr hsome
     go_wp2_with (first|(go_at_call 94; refine (digit_any _ _).mono ?_; rintro e w' ⟨rfl, rfl⟩))
     go_ret2
     exact⟨ret_two (v_int (by rw[HR.out];try rfl)) (v_int (by rw[HR.out];try rfl)),below_two hB1 hwr⟩
    ·obtain⟨v',hv'⟩:=HGOOD.out (by rw[hd] at hsome;intro hn;rw[hn] at hsome;cases hsome)
     have HV:=Lib.hid hv'
     clear hv' hsome
     go_wp2_with (first|(go_at_call 94; refine (digit_any _ _).mono ?_; rintro e w' ⟨rfl, rfl⟩))
     exact⟨⟨k+1,v',by omega,by go_num,hwr,HV⟩,by simp[intOf];omega⟩
   ·have hke:k=s.size:=by omega
    subst hke
    have hval:valFrom false 0 (bl s)=some v:=by
     have h1:=HK.out
     rwa [List.take_of_length_le (by rw[bl_len];exact Nat.le_refl _)] at h1
    have hBw:Below w.heap.size w wr:=below_two hB1 hwr
    have hLw:=hL1.below hwr
    clear HK
    by_cases h0:s.size=0
    ·have e1:s.toList=[]:=by rw[toList_bl];exact(bl_size0 s).2 h0
     have hr:=numP_empty (bl s) (by rw[←HT.out];exact(bl_size0 s).2 h0)
     have HR:=Lib.hid hr
     have hz0:¬ (((s.size:Nat):Int)<((s.size:Nat):Int)):=by omega
     clear hr hval hL1 hB hLw
     go_wp2
     go_ret2
     exact⟨ret_two (v_int (by rw[HR.out];try rfl)) (v_int (by rw[HR.out];try rfl)),hBw⟩
    ·have e1:s.toList.isEmpty=false:=by
      rw[toList_bl,List.isEmpty_eq_false_iff];exact fun e=>h0 ((bl_size0 s).1 e)
     have hr:=numP_ok (bl s) v (by rw[HX.out,←HT.out];exact hval) HOK.out (by rw[←HT.out];exact fun e=>h0 ((bl_size0 s).1 e))
     by_cases hV:v<18446744073709551616
     ·rw[if_pos hV] at hr
      have HR:=Lib.hid hr
      have HC:=Lib.hid (spu10_ok s v wr hts h0 hval hV)
      clear hr hval hV
      go_wp2_with fail
      refine HC.out.mono ?_
      rintro e w4 ⟨rfl,hw4⟩
      have hBe:=below_two hBw hw4
      clear hw4 hBw HC
      go_wp2
      go_ret2
      exact⟨ret_two (v_int (by rw[HR.out])) (v_int (by rw[HR.out])),hBe⟩
     ·rw[if_neg hV] at hr
      have HR:=Lib.hid hr
      have HC:=Lib.hid (spu10_range s v wr hLw hts h0 hval hV)
      clear hr hval hV
      go_wp2_with fail
      refine HC.out.mono ?_
      rintro e w4 ⟨⟨N,rfl⟩,hw4⟩
      have hBe:=below_two hBw hw4
      clear hw4 hBw HC
      go_wp2
      go_ret2
      exact⟨ret_two (v_int (by rw[HR.out];try rfl)) (v_int (by rw[HR.out])),hBe⟩
set_option maxRecDepth 100000 in
set_option maxHeartbeats 1000000 in
theorem num_hex (s:ByteArray)(w:World)(h:Laid w)(hs:s.size≤1073741824)(hx:isHex (bl s)=true):Calls Tryz.prog 95 #[.string s] w fun e w'=>e = .returned (.tuple #[.int .u64 ((numP (bl s)).1:Int),.int .i64 (numP (bl s)).2])∧Below w.heap.size w w':=by
 have hp:=fun w=>prefix_c s ⟨#[48,120]⟩ w
 rw[show bl ⟨#[48,120]⟩=[48,120] from rfl,pre_hex,hx] at hp
 have HP:=Lib.hid hp
 clear hp
 have h2:2≤s.size:=by
  rw[isHex_iff] at hx;simp at hx;rw[bl_len] at hx;exact hx.1.1
 have g2:(2:Int)≤(s.size:Int):=by omega
 have hD:digitsOf (bl s)=(bl s).drop 2:=by simp[digitsOf,hx]
 have hok:isHex (bl s)=true∨badZero (bl s)=false := .inl hx
 have hbt:bl (s.extract 2 s.size)=digitsOf (bl s):=by rw[bl_from,hD]
 go_enter Tryz.func95, Tryz.ntmps95
 go_wp2_with fail
 refine(HP.out _).mono ?_
 rintro e w' ⟨rfl,rfl⟩
 go_wp2_with fail
 go_quiet (fail)
 have hB0:=below_dn (Below.refl w.heap.size w) nq
 have hL0:=h.below hB0
 generalize w.drewN nq=w0 at *
 have hts:(s.extract 2 s.size).size≤1073741824:=by rw[size_from];omega
 generalize s.extract 2 s.size=t at *
 obtain⟨W1,cap,hcv,hcell,hB⟩:=conv_bytes t w0
 have HT:=Lib.hid hbt
 clear hbt g2
 have HCELL:=Lib.hid hcell
 have HX:=Lib.hid hx
 have HOK:=Lib.hid hok
 have hL1:=hL0.below hB
 have hB1:Below w.heap.size w W1:=below_two hB0 hB
 clear hcell hx hok hD h hB0
 go_wp2
 clear hcv
 go_loopw [26] (fun i wr=>∃ k v:Nat,k≤t.size∧i = .int .i64 k∧Below W1.heap.size W1 wr∧Hid (valFrom true 0 ((bl t).take k)=some v)) (fun i _=>t.size - (intOf i).toNat)
 case atStart=>exact⟨0,0,by omega,rfl,Below.refl _ _,Lib.hid rfl⟩
 case round=>
  obtain⟨k,v,hk,rfl,hwr,HK⟩:=hrel
  by_cases hlt:k<t.size
  ·have hat:=at_bl t k hlt
   have hc1:=HCELL.out k hlt
   have hc2:wr.cell? ⟨w0.heap.size,k,none⟩=some (.int .u8 (t[k].toNat:Int)):=by
    rw[hwr.cell (p:=⟨w0.heap.size,k,none⟩) (Lib.lt_of_cell hc1)];exact hc1
   have hlt1:(k:Int)<(t.size:Int):=by omega
   generalize hch:t[k]=ch at *
   have HCH:=Lib.hid hch
   have hcb:=ch.toNat_lt
   have hcb1:(ch.toNat:Int)<256:=by omega
   have hcb0:(0:Int)≤(ch.toNat:Int):=by omega
   have hw32:IntKind.i32.wrap (ch.toNat:Int)=(ch.toNat:Int):=by simp[IntKind.wrap,IntKind.signed,IntKind.bits];omega
   have hbad:digVal true ch=none→numP (bl s)=(0,4):=fun hd=>numP_bad (bl s) (by rw[HX.out,←HT.out];exact val_bad true _ k v ch hat HK.out hd)
   have hgood:digVal true ch≠none→∃ v',valFrom true 0 ((bl t).take (k+1))=some v':=fun hd=>by
    obtain⟨d,hd⟩:=Option.ne_none_iff_exists'.1 hd
    exact⟨_,val_snoc true _ k v d ch hat HK.out hd⟩
   have hsome:=dig_hex ch
   have HBAD:=Lib.hid hbad
   have HGOOD:=Lib.hid hgood
   clear hbad hgood hat hc1 hch HCH hcb
   cases hd:isDig (ch.toNat:Int)
   ·have hcr:=hexrune_c ch wr
    cases hl:isHexL ch
    ·have hr:=HBAD.out (by rw[hd,hl] at hsome;simpa using hsome)
     have HR:=Lib.hid hr
     rw[hl] at hcr
     have HCR:=Lib.hid hcr
     clear hr hsome hcr hl
     go_wp2_with (first|(go_at_call 94; refine (digit_any _ _).mono ?_; rintro e w' ⟨rfl, rfl⟩)|(go_at_call 104;refine HCR.out.mono ?_;rintro e w3 ⟨rfl,hw3⟩))
     go_ret2
     exact⟨ret_two (v_int (by rw[HR.out];try rfl)) (v_int (by rw[HR.out];try rfl)),below_two (below_two hB1 hwr) hw3⟩
    ·obtain⟨v',hv'⟩:=HGOOD.out (by rw[hd,hl] at hsome;intro hn;rw[hn] at hsome;cases hsome)
     have HV:=Lib.hid hv'
     rw[hl] at hcr
     have HCR:=Lib.hid hcr
     clear hv' hsome hcr hl
     go_wp2_with (first|(go_at_call 94; refine (digit_any _ _).mono ?_; rintro e w' ⟨rfl, rfl⟩)|(go_at_call 104;refine HCR.out.mono ?_;rintro e w3 ⟨rfl,hw3⟩))
     exact⟨⟨k+1,v',by omega,by go_num,below_two hwr hw3,HV⟩,by simp[intOf];omega⟩
   ·obtain⟨v',hv'⟩:=HGOOD.out (by rw[hd] at hsome;intro hn;rw[hn] at hsome;cases hsome)
    have HV:=Lib.hid hv'
    clear hv' hsome
    go_wp2_with (first|(go_at_call 94; refine (digit_any _ _).mono ?_; rintro e w' ⟨rfl, rfl⟩))
    exact⟨⟨k+1,v',by omega,by go_num,hwr,HV⟩,by simp[intOf];omega⟩
  ·have hke:k=t.size:=by omega
   subst hke
   have hval:valFrom true 0 (bl t)=some v:=by
    have h1:=HK.out
    rwa [List.take_of_length_le (by rw[bl_len];exact Nat.le_refl _)] at h1
   have hBw:Below w.heap.size w wr:=below_two hB1 hwr
   have hLw:=hL1.below hwr
   clear HK
   by_cases h0:t.size=0
   ·have e1:t.toList=[]:=by rw[toList_bl];exact(bl_size0 t).2 h0
    have hr:=numP_empty (bl s) (by rw[←HT.out];exact(bl_size0 t).2 h0)
    have HR:=Lib.hid hr
    have hz0:¬ (((t.size:Nat):Int)<((t.size:Nat):Int)):=by omega
    clear hr hval hL1 hB hLw
    go_wp2
    go_ret2
    exact⟨ret_two (v_int (by rw[HR.out];try rfl)) (v_int (by rw[HR.out];try rfl)),hBw⟩
   ·have e1:t.toList.isEmpty=false:=by
     rw[toList_bl,List.isEmpty_eq_false_iff];exact fun e=>h0 ((bl_size0 t).1 e)
    have hr:=numP_ok (bl s) v (by rw[HX.out,←HT.out];exact hval) HOK.out (by rw[←HT.out];exact fun e=>h0 ((bl_size0 t).1 e))
    by_cases hV:v<18446744073709551616
    ·rw[if_pos hV] at hr
     have HR:=Lib.hid hr
     have HC:=Lib.hid (spu16_ok t v wr hts h0 hval hV)
     clear hr hval hV
     go_wp2_with fail
     refine HC.out.mono ?_
     rintro e w4 ⟨rfl,hw4⟩
     have hBe:=below_two hBw hw4
     clear hw4 hBw HC
     go_wp2
     go_ret2
     exact⟨ret_two (v_int (by rw[HR.out])) (v_int (by rw[HR.out])),hBe⟩
    ·rw[if_neg hV] at hr
     have HR:=Lib.hid hr
     have HC:=Lib.hid (spu16_range t v wr hLw hts h0 hval hV)
     clear hr hval hV
     go_wp2_with fail
     refine HC.out.mono ?_
     rintro e w4 ⟨⟨N,rfl⟩,hw4⟩
     have hBe:=below_two hBw hw4
     clear hw4 hBw HC
     go_wp2
     go_ret2
     exact⟨ret_two (v_int (by rw[HR.out];try rfl)) (v_int (by rw[HR.out])),hBe⟩
theorem num_zero (s:ByteArray)(w:World)(hz:badZero (bl s)=true)(hx:isHex (bl s)=false):Calls Tryz.prog 95 #[.string s] w fun e w'=>e = .returned (.tuple #[.int .u64 ((numP (bl s)).1:Int),.int .i64 (numP (bl s)).2])∧w=w':=by
 have hp:=fun w=>prefix_c s ⟨#[48,120]⟩ w
 rw[show bl ⟨#[48,120]⟩=[48,120] from rfl,pre_hex,hx] at hp
 have HP:=Lib.hid hp
 have hr:=numP_zero (bl s) hx hz
 rw[hr]
 have h2:2≤s.size:=by rw[badZero_iff] at hz;simp at hz;rw[bl_len] at hz;exact hz.1
 have h0:s[0]=48:=by
  rw[badZero_iff,at_bl s 0 (by omega)] at hz;simp at hz;exact hz.2
 have g0:((s[0].toNat:Int)==48)=true:=by rw[h0];rfl
 have g2:(1:Int)<(s.size:Int):=by omega
 clear hp hr hz hx h0
 go_enter Tryz.func95, Tryz.ntmps95
 go_wp2_with fail
 refine(HP.out _).mono ?_
 rintro e w' ⟨rfl,rfl⟩
 go_wp2
 go_ret2
 exact⟨rfl,rfl⟩
theorem number_c (s:ByteArray)(w:World)(h:Laid w)(hs:s.size≤1073741824):Calls Tryz.prog 95 #[.string s] w fun e w'=>e = .returned (.tuple #[.int .u64 ((numP (bl s)).1:Int),.int .i64 (numP (bl s)).2])∧Below w.heap.size w w':=by
 cases hx:isHex (bl s)
 ·cases hz:badZero (bl s)
  ·exact num_dec s w h hs hz hx
  ·exact(num_zero s w hz hx).mono fun _ _ ⟨h1,h2⟩=>⟨h1,h2 ▸ Below.refl _ _⟩
 ·exact num_hex s w h hs hx
end Go.Proofs.YtcbkeecabcbogaaGreatDoor
