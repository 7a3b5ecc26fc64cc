/- Plain functions for the tokens of a text: characters, names, -/
import Derived.Laws.RangeAny
import Derived.Lib.IndexMore
import Derived.Lib.Hide
import Derived.KernelRfl
import Derived.Lib.Hide
set_option linter.unusedSimpArgs false
set_option linter.unusedVariables false
namespace Go.Proofs.YtcbkeecabcbogaaGreatDoor
theorem Dh {p : Prop} (h : p) : Go.RowKit.Hid p := Go.Lib.hid h
theorem Dd {p : Prop} (h : p := by decide) : p := h
theorem Dk {p : Prop} (h : p := by kernel_rfl) : p := h
theorem Dw {p : Prop} (h : p := by omega) : p := h
theorem Ds {p : Prop} (h : p := by simp) : p := h
theorem Da {p : Prop} (h : p := by assumption) : p := h
theorem Dx {p : Prop} (h : p := by intro _ hx; cases hx) : p := h
section
def Zl (l:List UInt8):Nat×Nat:=Utf8.decode ⟨l.toArray⟩ 0
theorem dec_drop (l:List UInt8)(i:Nat)(h:i<l.length):Utf8.decode ⟨l.toArray⟩ i=Zl (l.drop i):=by
 have g:∀ k,(⟨l.toArray⟩:ByteArray).get! (i+k)=(⟨(l.drop i).toArray⟩:ByteArray).get! (0+k):=by
  intro k;show l.toArray[i+k]! = (l.drop i).toArray[0+k]!
  simp[getElem!_def]
 have c:∀ k,(i+k<(⟨l.toArray⟩:ByteArray).size)=(0+k<(⟨(l.drop i).toArray⟩:ByteArray).size):=by
  intro k;show (i+k<l.toArray.size)=(0+k<(l.drop i).toArray.size)
  simp;omega
 unfold Zl Utf8.decode;simp only[g,c]
theorem Qcx (b:UInt8)(l:List UInt8):((⟨(b::l).toArray⟩:ByteArray).get! (0+0))=b:=by
 show (b::l).toArray[0+0]! = b
 simp
theorem Jr (b:UInt8)(l:List UInt8)(h:b.toNat<128):Zl (b::l)=(b.toNat,1):=by
 unfold Zl Utf8.decode;simp only[Qcx,h,if_true]
theorem Qm7 (b:UInt8)(l:List UInt8)(h:128≤b.toNat):128≤(Zl (b::l)).1∧1≤(Zl (b::l)).2:=by
 have hn:¬ b.toNat<128:=by omega
 unfold Zl;simp only[Utf8.decode,Qcx,hn,if_false];repeat' split
 all_goals simp_all [Utf8.runeError]
 all_goals omega
theorem Ri (b:UInt8)(l:List UInt8):1≤(Zl (b::l)).2:=by
 by_cases h:b.toNat<128
 ·rw[Jr b l h];exact Nat.le_refl _
 ·exact(Qm7 b l Dw).2
theorem Qaq (b:UInt8)(l:List UInt8):(Zl (b::l)).2≤(b::l).length:=by
 unfold Zl;have hs:(⟨(b::l).toArray⟩:ByteArray).size=l.length+1:=by show (b::l).toArray.size=_;simp
 simp only[Utf8.decode,hs];repeat' split
 all_goals simp_all
 all_goals omega
def isLet (r:Int):Bool:=(decide (65≤r)&&decide (r≤90))||(decide (97≤r)&&decide (r≤122))||r==95||(decide (192≤r)&&decide (r≤591)&&r != 215&&r != 247)
def Tv (r:Int):Bool:=decide (48≤r)&&decide (r≤57)
def Nk (r:Int):Bool:=isLet r||Tv r
theorem Qk8 {r:Int}(h:isLet r=true):Tv r=false:=by
 cases hd:Tv r with
 |false=>rfl
 |true=>
  simp[isLet,Tv] at h hd;omega
theorem Qm4 (b:UInt8)(l:List UInt8):(b::l).drop (Zl (b::l)).2=l.drop ((Zl (b::l)).2-1):=by
 have h:=Ri b l;obtain⟨k,hk⟩:∃ k,(Zl (b::l)).2=k+1:=⟨(Zl (b::l)).2-1,by omega⟩;rw[hk];rfl
def Um:List UInt8→Nat
 | []=>0
 |b::l=>if Nk (Zl (b::l)).1 then (Zl (b::l)).2+Um (l.drop ((Zl (b::l)).2-1)) else 0
termination_by l=>l.length
decreasing_by simp;omega
theorem Di:Um []=0:=by rw[Um]
theorem Hl (b:UInt8)(l:List UInt8)(h:Nk (Zl (b::l)).1=true):Um (b::l)=(Zl (b::l)).2+Um ((b::l).drop (Zl (b::l)).2):=by
 rw[Um,if_pos h,Qm4]
theorem Ej (b:UInt8)(l:List UInt8)(h:Nk (Zl (b::l)).1=false):Um (b::l)=0:=by
 rw[Um,h];rfl
theorem Qrl:∀ (n:Nat) (l:List UInt8),l.length≤n→Um l≤l.length
 |_,[],_=>by rw[Di];exact Nat.le_refl _
 |0,b::l,h=>by simp at h
 |n+1,b::l,h=>by
  cases hr:Nk (Zl (b::l)).1
  ·rw[Ej b l hr];exact Nat.zero_le _
  ·have hp:=Ri b l;have hf:=Qaq b l;rw[Hl b l hr];have ih:=Qrl n ((b::l).drop (Zl (b::l)).2) (by simp at h ⊢;omega);simp at ih hf ⊢;omega
theorem Qa7 (l:List UInt8):Um l≤l.length:=Qrl _ l (Nat.le_refl _)
theorem Qkh (l:List UInt8)(p:Nat)(h:p<l.length):Nk (Zl (l.drop p)).1=true→Um (l.drop p)=(Zl (l.drop p)).2+Um (l.drop (p+(Zl (l.drop p)).2)):=by
 intro hr;obtain⟨b,m,hm⟩:∃ b m,l.drop p=b::m:=by
  cases hd:l.drop p with
  |nil=>simp at hd;omega
  |cons b m=>exact⟨b,m,rfl⟩
 rw[hm] at hr;rw[hm,Hl b m hr,←hm,List.drop_drop]
def broken (l:List UInt8):Bool:=(Zl l).1==65533&&decide ((Zl l).2<2)
def Zp:List UInt8→Nat
 | []=>0
 |b::l=>if broken (b::l) then 0 else (Zl (b::l)).2+Zp (l.drop ((Zl (b::l)).2-1))
termination_by l=>l.length
decreasing_by simp;omega
theorem Gs:Zp []=0:=by rw[Zp]
theorem Qdb (b:UInt8)(l:List UInt8)(h:broken (b::l)=true):Zp (b::l)=0:=by rw[Zp,if_pos h]
theorem D9 (b:UInt8)(l:List UInt8)(h:broken (b::l)=false):Zp (b::l)=(Zl (b::l)).2+Zp ((b::l).drop (Zl (b::l)).2):=by
 rw[Zp,h,Qm4];rfl
theorem Qdc:∀ (n:Nat) (l:List UInt8),l.length≤n→Zp l≤l.length
 |_,[],_=>by rw[Gs];exact Nat.le_refl _
 |0,b::l,h=>by simp at h
 |n+1,b::l,h=>by
  cases hr:broken (b::l)
  ·have hp:=Ri b l;have hf:=Qaq b l;rw[D9 b l hr];have ih:=Qdc n ((b::l).drop (Zl (b::l)).2) (by simp at h ⊢;omega);simp at ih hf ⊢;omega
  ·rw[Qdb b l hr];exact Nat.zero_le _
theorem Qhy (l:List UInt8):Zp l≤l.length:=Qdc _ l (Nat.le_refl _)
theorem Cf (b:UInt8)(l:List UInt8)(k:Nat)(h:k<l.length):((⟨(b::l).toArray⟩:ByteArray).get! (0+(k+1)))=l[k]:=by
 show (b::l).toArray[0+(k+1)]! = l[k]
 simp[getElem!_def,h]
theorem Qh5 (b:UInt8)(l:List UInt8):(⟨(b::l).toArray⟩:ByteArray).size=l.length+1:=by show (b::l).toArray.size=_;simp
theorem Qpo (b:UInt8)(l:List UInt8)(h:(Zl (b::l)).1=65533):broken (b::l)=decide ((b::l).take 3≠[239,191,189]):=by
 have e:broken (b::l)=decide ((Zl (b::l)).2<2):=by unfold broken;rw[h];simp
 rw[e];by_cases ht:(b::l).take 3=[239,191,189]
 ·obtain⟨rfl,m,rfl⟩:b=239∧∃ m,l=191::189::m:=by
   match l,ht with
   |c::d::m,ht=>simp at ht;exact⟨ht.1,m,by rw[ht.2.1,ht.2.2]⟩
   | [c],ht=>simp at ht
   | [],ht=>simp at ht
  have e1:=Cf 239 (191::189::m) 0 Ds;have e2:=Cf 239 (191::189::m) 1 Ds;simp only[List.getElem_cons_zero,List.getElem_cons_succ] at e1 e2;have hs:=Qh5 239 (191::189::m);have hd:(Zl (239::191::189::m)).2=3:=by
   unfold Zl;simp only[Utf8.decode,Qcx,e1,e2,hs];simp[Utf8.valid]
  rw[hd];simp
 ·rw[decide_eq_decide];refine⟨fun _=>ht,fun _=>?_⟩;refine Nat.lt_of_not_le fun h2=>ht ?_
  obtain⟨k,hk⟩:∃ k,k=(Zl (b::l)).2:=⟨_,rfl⟩;rw[←hk] at h2;have hd:Zl (b::l)=(65533,k):=Prod.ext h hk.symm;clear h hk;unfold Zl at hd;have hs:=Qh5 b l;simp only[Utf8.decode,Qcx,hs,Utf8.runeError] at hd;have hb0:=b.toNat_lt;split at hd
  ·simp at hd;omega
  ·split at hd
   ·split at hd
    ·simp at hd;omega
    ·simp at hd;omega
   ·split at hd
    ·rename_i h3 h4 h5;simp only[Bool.and_eq_true,beq_iff_eq,decide_eq_true_eq] at h5;obtain⟨⟨g0,g1,g2⟩,g3,g4⟩:=h5;have l1:0<l.length:=by omega
     have l2:1<l.length:=by omega
     rw[Cf b l 0 l1] at g2;rw[Cf b l 1 l2] at g4;simp only[Cf b l 0 l1,Cf b l 1 l2] at hd;split at hd
     ·match l,l1,l2 with
      |c::d::m,_,_=>
       simp only[List.getElem_cons_zero,List.getElem_cons_succ] at g2 g4 hd;have hc:=c.toNat_lt;have hd':=d.toNat_lt;simp only[Prod.mk.injEq] at hd;have e1:b=239:=by apply UInt8.toNat_inj.1;show _=239;omega
       have e2:c=191:=by apply UInt8.toNat_inj.1;show _=191;omega
       have e3:d=189:=by apply UInt8.toNat_inj.1;show _=189;omega
       rw[e1,e2,e3];rfl
     ·simp at hd;omega
    ·split at hd
     ·split at hd
      ·rename_i h7;simp only[Bool.and_eq_true,decide_eq_true_eq] at h7;simp only[Prod.mk.injEq] at hd;omega
      ·simp at hd;omega
     ·simp at hd;omega
def Yl:List UInt8:=[32,102,117,110,99,32,116,121,112,101,32,115,116,114,117,99,116,32,105,102,32,101,108,115,101,32,102,111,114,32,98,114,101,97,107,32,99,111,110,116,105,110,117,101,32,114,101,116,117,114,110,32,103,111,32,100,101,102,101,114,32,115,101,108,101,99,116,32,99,97,115,101,32,100,101,102,97,117,108,116,32,99,104,97,110,32,118,97,114,32,116,114,117,101,32,102,97,108,115,101,32]
def Fe:List (List UInt8):=[[102,117,110,99],[116,121,112,101],[115,116,114,117,99,116],[105,102],[101,108,115,101],[102,111,114],[98,114,101,97,107],[99,111,110,116,105,110,117,101],[114,101,116,117,114,110],[103,111],[100,101,102,101,114],[115,101,108,101,99,116],[99,97,115,101],[100,101,102,97,117,108,116],[99,104,97,110],[118,97,114],[116,114,117,101],[102,97,108,115,101]]
def isWord (l:List UInt8):Bool:=Fe.contains l
theorem Qkq (l m:List UInt8)(h:32 ∉ l)(hp:(l++[32]).isPrefixOf m=true):l=m.takeWhile (· != 32):=by
 rw[List.isPrefixOf_iff_prefix] at hp;obtain⟨t,rfl⟩:=hp;rw[List.append_assoc,List.takeWhile_append_of_pos (fun x hx=>by simp;rintro rfl;exact h hx)];simp
theorem words_in:∀ l∈Fe,Lib.contains Yl ([32]++l++[32])=true:=by decide +kernel
theorem words_at:∀ j,j<120→Yl[j]? = some 32→isWord ((Yl.drop (j+1)).takeWhile (· != 32))=true∨(Yl.drop (j+1)).takeWhile (· != 32)=[]:=by decide +kernel
theorem word_of (l:List UInt8)(h1:l≠[])(h2:32 ∉ l):Lib.contains Yl ([32]++l++[32])=isWord l:=by
 cases hw:isWord l
 ·refine Bool.eq_false_iff.2 fun hc=>?_
  have hi:Lib.index Yl ([32]++l++[32]) ≠ -1:=by
   unfold Lib.contains at hc;simp only[decide_eq_true_eq] at hc;omega
  have hex:∃ j,j≤Yl.length∧Lib.occAt Yl ([32]++l++[32]) j=true:=by
   refine Classical.byContradiction fun hn=>hi (Lib.index_none fun j hj=>?_)
   cases ho:Lib.occAt Yl ([32]++l++[32]) j with
   |false=>rfl
   |true=>exact absurd ⟨j,hj,ho⟩ hn
  obtain⟨j,hj,ho⟩:=hex;have hl:Yl.length≤119:=by decide
  have h0:Yl[j]? = some 32:=Lib.occAt_head (t:=l++[32]) Ds ho;have hp:(l++[32]).isPrefixOf (Yl.drop (j+1))=true:=by
   unfold Lib.occAt at ho;have hlt:j<Yl.length:=by
    rcases Nat.lt_or_ge j Yl.length with h|h
    ·exact h
    ·rw[List.getElem?_eq_none h] at h0;cases h0
   rw[List.drop_eq_getElem_cons hlt,show [32]++l++[32]=32::(l++[32]) by simp,List.isPrefixOf_cons_cons,Bool.and_eq_true] at ho;exact ho.2
  have he:=Qkq l _ h2 hp;rcases words_at j Dw h0 with h|h
  ·rw[←he,hw] at h;cases h
  ·rw[←he] at h;exact h1 h
 ·exact words_in l (by simpa [isWord] using hw)
def Zn (hex:Bool)(c:UInt8):Option Nat:=
 if 48≤c.toNat∧c.toNat≤57 then some (c.toNat-48)
 else if hex∧97≤c.toNat∧c.toNat≤102 then some (c.toNat-87)
 else if hex∧65≤c.toNat∧c.toNat≤70 then some (c.toNat-55)
 else none
def Qfc (hex:Bool):Nat:=if hex then 16 else 10
def Xm (hex:Bool)(n:Nat):List UInt8→Option Nat
 | []=>some n
 |c::l=>match Zn hex c with
  |some d=>Xm hex (n*Qfc hex+d) l
  |none=>none
def Hz:List UInt8→Bool
 |48::120::_=>true
 |_=>false
def digitsOf (l:List UInt8):List UInt8:=if Hz l then l.drop 2 else l
def Kr:List UInt8→Bool
 |48::_::_=>true
 |_=>false
def Fq (l:List UInt8):Nat×Int:=
 if !Hz l&&Kr l then (0,4)
 else if digitsOf l=[] then (0,4)
 else match Xm (Hz l) 0 (digitsOf l) with
  |none=>(0,4)
  |some v=>if v<18446744073709551616 then (v,0) else (0,6)
structure Tok where
 kind:Int
 text:List UInt8
 num:Int
 place:Nat
def Vp:List (List UInt8):=[[60,60],[62,62],[38,94],[38,38],[124,124],[61,61],[33,61],[60,61],[62,61],[58,61],[60,45],[43],[45],[42],[47],[37],[38],[124],[94],[33],[60],[62],[61],[40],[41],[91],[93],[123],[125],[44],[46],[58],[59]]
def Ed (l:List UInt8):Option (List UInt8):=Vp.find? fun g=>g.isPrefixOf l
def Ym (l:List UInt8)(at_:Nat):Tok×Nat×Int:=
 if isLet (Zl l).1 then
  if 64<Um l then (⟨1,l.take (Um l),0,at_⟩,Um l,6)
  else (⟨if isWord (l.take (Um l)) then 3 else 1,l.take (Um l),0,at_⟩,Um l,0)
 else if Tv (Zl l).1 then (⟨2,l.take (Um l),(Fq (l.take (Um l))).1,at_⟩,Um l,(Fq (l.take (Um l))).2)
 else match Ed l with
  |some g=>(⟨if g=[59] then 5 else 4,g,0,at_⟩,g.length,0)
  |none=>(⟨0,[],0,0⟩,0,4)
def Jq:List (List UInt8):=[[98,114,101,97,107],[99,111,110,116,105,110,117,101],[114,101,116,117,114,110],[116,114,117,101],[102,97,108,115,101],[41],[93],[125]]
def Zw (t:Tok):Bool:=t.kind==1||t.kind==2||Jq.contains t.text
def Z4 (p:Nat):Tok:=⟨5,[],0,p⟩
def V7 (b:UInt8):Bool:=b==9||b==13||b==32
def Ti (l:List UInt8):Bool:=[47,47].isPrefixOf l
def Zv (l:List UInt8):Nat:=(l.takeWhile (· != 10)).length
abbrev Qpt:=Except (Nat×Int) (List Tok)
def Qer (t:Tok):Qpt→Qpt
 | .ok l => .ok (t::l)
 | .error e => .error e
def lex (l:List UInt8)(p:Nat)(opn:Bool)(cnt:Nat):Qpt:=
 match l with
 | []=>if opn then (if 16384≤cnt then .error (p,6) else .ok [Z4 p]) else .ok []
 |b::m=>
  if b==10 then
   if opn then (if 16384≤cnt then .error (p,6) else Qer (Z4 p) (lex m (p+1) false (cnt+1)))
   else lex m (p+1) false cnt
  else if V7 b then lex m (p+1) opn cnt
  else if Ti (b::m) then lex (m.drop (Zv (b::m)-1)) (p+Zv (b::m)) opn cnt
  else
   let r:=Ym (b::m) p
   if r.2.2≠0 then .error (p,r.2.2)
   else if 16384≤cnt then .error (p,6)
   else Qer r.1 (lex (m.drop (r.2.1-1)) (p+r.2.1) (Zw r.1) (cnt+1))
termination_by l.length
decreasing_by all_goals simp_all;try omega
def X4 (l:List UInt8):Qpt:=
 if 65536<l.length then .error (0,6)
 else if Zp l<l.length then .error (Zp l,3)
 else lex l 0 false 0
theorem N9 (p:Nat)(opn:Bool)(cnt:Nat):lex [] p opn cnt=if opn then (if 16384≤cnt then .error (p,6) else .ok [Z4 p]) else .ok []:=by rw[lex]
theorem Qad (m:List UInt8)(p:Nat)(opn:Bool)(cnt:Nat):lex (10::m) p opn cnt=if opn then (if 16384≤cnt then .error (p,6) else Qer (Z4 p) (lex m (p+1) false (cnt+1))) else lex m (p+1) false cnt:=by
 rw[lex];simp
theorem Ws (b:UInt8)(m:List UInt8)(p:Nat)(opn:Bool)(cnt:Nat)(h:V7 b=true):lex (b::m) p opn cnt=lex m (p+1) opn cnt:=by
 have hb:(b==10)=false:=by
  unfold V7 at h;simp at h ⊢;rintro rfl;simp at h
 rw[lex,hb,h];simp
theorem F8 (b:UInt8)(m:List UInt8)(h:b≠10):1≤Zv (b::m):=by
 unfold Zv;simp[List.takeWhile_cons,h]
theorem Qm3 {α:Type}(b:α)(m:List α)(k:Nat)(h:1≤k):m.drop (k-1)=(b::m).drop k:=by
 obtain⟨j,rfl⟩:∃ j,k=j+1:=⟨k-1,by omega⟩;rfl
theorem Cb (l:List UInt8)(p:Nat)(opn:Bool)(cnt:Nat)(h:Ti l=true):lex l p opn cnt=lex (l.drop (Zv l)) (p+Zv l) opn cnt:=by
 cases l with
 |nil=>simp[Ti] at h
 |cons b m=>
  have hb:b=47:=by simp[Ti] at h;exact h.1.symm
  have hb1:(b==10)=false:=by subst hb;decide
  have hb2:V7 b=false:=by subst hb;decide
  rw[lex,hb1,hb2,h,Qm3 b m _ (F8 b m (by subst hb;decide))];simp
def starts (l:List UInt8):Bool:=match l with
 | []=>false
 |b::_ => !(b==10) && !V7 b && !Ti l
theorem one_pos (l:List UInt8)(p:Nat)(hl:l≠[])(h:(Ym l p).2.2=0):1≤(Ym l p).2.1:=by
 obtain⟨b,m,rfl⟩:∃ b m,l=b::m:=by cases l with|nil=>exact absurd rfl hl|cons b m=>exact⟨b,m,rfl⟩
 have hp:=Ri b m;unfold Ym at h ⊢;cases hL:isLet (Zl (b::m)).1
 ·cases hD:Tv (Zl (b::m)).1
  ·simp only[hL,hD,Bool.false_eq_true,if_false] at h ⊢;split
   ·rename_i g hg;unfold Ed at hg
    have:=List.mem_of_find?_eq_some hg;show 1≤g.length
    have hall:∀ g∈Vp,1≤g.length:=by decide
    exact hall g this
   ·rename_i hg;rw[hg] at h;simp at h
  ·simp only[hL,hD,Bool.false_eq_true,if_false,if_true];have:Nk (Zl (b::m)).1=true:=by simp[Nk,hD]
   rw[Hl b m this];omega
 ·simp only[hL,if_true];have:Nk (Zl (b::m)).1=true:=by simp[Nk,hL]
  rw[Hl b m this];split <;> (simp only[];omega)
theorem F9 (l:List UInt8)(p:Nat)(opn:Bool)(cnt:Nat)(h:starts l=true):
  lex l p opn cnt=if (Ym l p).2.2≠0 then .error (p,(Ym l p).2.2) else if 16384≤cnt then .error (p,6) else Qer (Ym l p).1 (lex (l.drop (Ym l p).2.1) (p+(Ym l p).2.1) (Zw (Ym l p).1) (cnt+1)):=by
 cases l with
 |nil=>cases h
 |cons b m=>
  simp only[starts,Bool.and_eq_true,Bool.not_eq_true'] at h;rw[lex,h.1.1,h.1.2,h.2];simp only[Bool.false_eq_true,if_false];by_cases he:(Ym (b::m) p).2.2=0
  ·rw[Qm3 b m _ (one_pos (b::m) p Ds he)]
  ·simp only[ne_eq,he,not_false_eq_true,if_true]
end
section
namespace Prs
inductive Tr where
 |mk (kind:Nat) (text:List UInt8) (num:Nat) (place:Nat) (kids:List Tr)
def Tr.kind:Tr→Nat
 | .mk k _ _ _ _=>k
def Tr.kids:Tr→List Tr
 | .mk _ _ _ _ l=>l
abbrev R (α:Type):=Option (Except Nat (α×List Tok))
def ok {α:Type}(x:α)(l:List Tok):R α:=some (.ok (x,l))
def bad {α:Type}(p:Nat):R α:=some (.error p)
def andThen {α β:Type}(r:R α)(f:α→List Tok→R β):R β:=match r with
 |none=>none
 |some (.error p)=>some (.error p)
 |some (.ok (x,l))=>f x l
def V3:List UInt8:=[44]
def Zt:List UInt8:=[40]
def Q8:List UInt8:=[41]
def wSq:List UInt8:=[91]
def wQs:List UInt8:=[93]
def wCu:List UInt8:=[123]
def wUc:List UInt8:=[125]
def wDot:List UInt8:=[46]
def Qqr:List UInt8:=[58]
def Qgj:List UInt8:=[59]
def Gy:List UInt8:=[58,61]
def wEq:List UInt8:=[61]
def Xu:List UInt8:=[60,45]
def Ff:List UInt8:=[99,104,97,110]
def Tm:List UInt8:=[102,117,110,99]
def Qdd:List UInt8:=[116,121,112,101]
def Qj3:List UInt8:=[115,116,114,117,99,116]
def Qj4:List UInt8:=[101,108,115,101]
def wIf:List UInt8:=[105,102]
def Qe4:List UInt8:=[102,111,114]
def Qbq:List UInt8:=[118,97,114]
def Jw:List UInt8:=[98,114,101,97,107]
def Vf:List UInt8:=[99,111,110,116,105,110,117,101]
def Y7:List UInt8:=[114,101,116,117,114,110]
def wGo:List UInt8:=[103,111]
def P7:List UInt8:=[100,101,102,101,114]
def Qa4:List UInt8:=[115,101,108,101,99,116]
def Tn:List UInt8:=[99,97,115,101]
def Xh:List UInt8:=[100,101,102,97,117,108,116]
def Gh:List UInt8:=[116,114,117,101]
def Yt:List UInt8:=[102,97,108,115,101]
def Jt:List UInt8:=[109,97,107,101]
def H8:List UInt8:=[45]
def Ql7:List UInt8:=[94]
def Qpv:List UInt8:=[33]
def wAny:List UInt8:=[97,110,121]
def Jd:List UInt8:=[99,111,109,112,97,114,97,98,108,101]
def Ru:List UInt8:=[105,110,116,101,103,101,114]
def opsP:List (List (List UInt8)):=[[[42],[47],[37],[60,60],[62,62],[38],[38,94]],[[43],[45],[124],[94]],[[61,61],[33,61],[60],[60,61],[62],[62,61]],[[38,38]],[[124,124]]]
def Fa (s:List UInt8):List (List (List UInt8))→Nat
 | []=>0
 |l::ls=>if l.contains s then ls.length+1 else Fa s ls
def Z9 (s:List UInt8):Nat:=Fa s opsP
def Xn:List Tok→Int
 | []=>0
 |t::_=>t.kind
def Zo:List Tok→List UInt8
 | []=>[]
 |t::_=>t.text
def Jy:List Tok→Nat
 | []=>0
 |t::_=>t.place
def numP':List Tok→Nat
 | []=>0
 |t::_=>t.num.toNat
def Qmp:List Tok→Bool
 | []=>true
 |t::_=>decide (0≤t.num)
section
variable (e:Nat)
def atP:List Tok→Nat
 | []=>e
 |t::_=>t.place
def isP (w:List UInt8)(l:List Tok):Bool:=(Xn l==3||Xn l==4)&&Zo l==w
def Je (w:List UInt8):List Tok→Bool
 |_::t::_=>t.kind==4&&t.text==w
 |_=>false
def Ub (w:List UInt8)(l:List Tok):R Nat:=if isP w l then ok (atP e l) l.tail else bad (atP e l)
def U8 (l:List Tok):R (List UInt8×Nat):=if Xn l==1 then ok (Zo l,Jy l) l.tail else bad (atP e l)
def Qdh (w:List UInt8)(l:List Tok):R Unit:=if Xn l==5 then ok () l.tail else if isP w l then ok () l else bad (atP e l)
def Qgp (w:List UInt8)(l:List Tok):R Nat:=Ub e w (if Xn l==5&&Je w l then l.tail else l)
def Lu (l:List Tok):Bool:=Xn l==1||(isP wSq l||(isP Ff l||isP Tm l))
def Xx (shut:List UInt8)(one:List Tok→R Tr):Nat→List Tr→List Tok→R (List Tr)
 |0,_,_=>none
 |f+1,acc,l=>andThen (one l) fun x l=>if isP V3 l then Xx shut one f (acc++[x]) l.tail else andThen (Qgp e shut l) fun _ l=>ok (acc++[x]) l
def Yi (shut:List UInt8)(first:Bool)(one:List Tok→R Tr)(f:Nat)(l:List Tok):R (List Tr):=if !first&&isP shut l then ok [] l.tail else Xx e shut one f [] l
def Vh (l:List Tok):Nat:=if Xn l==1 then (if Zo l==wAny then 1 else if Zo l==Jd then 2 else if Zo l==Ru then 3 else 0) else 0
def Nq (l:List Tok):R Tr:=andThen (U8 e l) fun s l=>if Vh l==0 then bad (atP e l) else ok (.mk 8 s.1 (Vh l) s.2 []) l.tail
mutual
def Bc:Nat→List Tok→R Tr
 |0,_=>none
 |f+1,l=>
  if isP wSq l then andThen (Ub e wQs l.tail) fun _ k=>andThen (Bc f k) fun t m=>ok (.mk 11 [] 0 (atP e l) [t]) m
  else if isP Ff l then andThen (Bc f l.tail) fun t m=>ok (.mk 12 [] 0 (atP e l) [t]) m
  else if isP Tm l then andThen (Ub e Zt l.tail) fun _ k=>andThen (Yi e Q8 false (Bc f) f k) fun ts m=>
   if Lu m then andThen (Bc f m) fun t q=>ok (.mk 13 [] 1 (atP e l) (ts++[t])) q else ok (.mk 13 [] 0 (atP e l) ts) m
  else andThen (U8 e l) fun s k=>ok (.mk 10 s.1 0 (atP e l) []) k
def Jz:Nat→List Tok→R Tr
 |0,_=>none
 |f+1,l=>andThen (U8 e l) fun s k=>andThen (Bc f k) fun t m=>ok (.mk 5 s.1 0 s.2 [t]) m
def Qfj:Nat→List Tok→R (List Tr)
 |0,_=>none
 |f+1,l=>andThen (Ub e Zt l) fun p k=>andThen (Yi e Q8 false (Jz f) f k) fun ps m=>
  if Lu m then andThen (Bc f m) fun t q=>ok [.mk 6 [] 0 p ps,.mk 7 [] 0 (atP e m) [t]] q else ok [.mk 6 [] 0 p ps,.mk 7 [] 0 (atP e m) []] m
def U6:Nat→List Tok→R Tr
 |0,_=>none
 |f+1,l=>andThen (Ub e wCu l) fun p k=>andThen (Ui f [] k) fun xs m=>ok (.mk 20 [] 0 p xs) m
def Ui:Nat→List Tr→List Tok→R (List Tr)
 |0,_,_=>none
 |f+1,acc,l=>if isP wUc l then ok acc l.tail else andThen (We f false l) fun x k=>andThen (Qdh e wUc k) fun _ m=>Ui f (acc++[x]) m
def Kq:Nat→Nat→List Tok→R Tr
 |0,_,_=>none
 |f+1,p,l=>andThen (Xj f 1 true l) fun h k=>andThen (U6 f k) fun b m=>
  if isP Qj4 m then (if isP wIf m.tail then andThen (Kq f (atP e m.tail) m.tail.tail) fun x q=>ok (.mk 25 [] 0 p [h,b,x]) q
   else andThen (U6 f m.tail) fun x q=>ok (.mk 25 [] 0 p [h,b,x]) q)
  else ok (.mk 25 [] 0 p [h,b]) m
def We:Nat→Bool→List Tok→R Tr
 |0,_,_=>none
 |f+1,hd,l=>
  if isP wCu l then U6 f l
  else if isP Qbq l then andThen (U8 e l.tail) fun s k=>andThen (Bc f k) fun t m=>ok (.mk 22 s.1 0 (atP e l) [t]) m
  else if isP wIf l then Kq f (atP e l) l.tail
  else if isP Qe4 l then andThen (Xj f 1 true l.tail) fun h k=>andThen (U6 f k) fun b m=>ok (.mk 26 [] 0 (atP e l) [h,b]) m
  else if isP Jw l then ok (.mk 27 [] 0 (atP e l) []) l.tail
  else if isP Vf l then ok (.mk 27 [] 1 (atP e l) []) l.tail
  else if isP Y7 l then (if !(Xn l.tail==5) && !(isP wUc l.tail) then andThen (Xj f 1 hd l.tail) fun x k=>ok (.mk 28 [] 0 (atP e l) [x]) k else ok (.mk 28 [] 0 (atP e l) []) l.tail)
  else if isP wGo l||isP P7 l then andThen (Xj f 1 hd l.tail) fun c k=>if c.kind==34 then ok (.mk 29 [] (if isP wGo l then 0 else 1) (atP e l) [c]) k else bad (atP e l.tail)
  else if isP Qa4 l then V5 f (atP e l) l.tail
  else J7 f hd l
def J7:Nat→Bool→List Tok→R Tr
 |0,_,_=>none
 |f+1,hd,l=>
  if Xn l==1&&Je Gy l then andThen (U8 e l) fun s k=>andThen (Ub e Gy k) fun _ m=>andThen (Xj f 1 hd m) fun x q=>ok (.mk 21 s.1 0 (atP e l) [x]) q
  else andThen (Xj f 1 hd l) fun x k=>
   if isP wEq k then andThen (Xj f 1 hd k.tail) fun y m=>if x.kind==30||(x.kind==35||x.kind==36) then ok (.mk 23 [] 0 (atP e l) [x,y]) m else bad (atP e l)
   else if isP Xu k then andThen (Xj f 1 hd k.tail) fun y m=>ok (.mk 41 [] 0 (atP e k) [x,y]) m
   else if x.kind==34||x.kind==39 then ok (.mk 24 [] 0 (atP e l) [x]) k else bad (atP e l)
def Rj:Nat→Bool→List Tok→R Tr
 |0,_,_=>none
 |f+1,hd,l=>andThen (Ub e Qqr l) fun p k=>andThen (Y6 f hd [] k) fun xs m=>ok (.mk 20 [] 0 p xs) m
def Y6:Nat→Bool→List Tr→List Tok→R (List Tr)
 |0,_,_,_=>none
 |f+1,hd,acc,l=>if isP Tn l||(isP Xh l||isP wUc l) then ok acc l else andThen (We f hd l) fun x k=>
  if Xn k==5 then Y6 f hd (acc++[x]) k.tail else if isP wUc k then Y6 f hd (acc++[x]) k else bad (atP e k)
def Ux:Nat→Bool→Nat→List Tok→R (Tr×Nat)
 |0,_,_,_=>none
 |f+1,hd,d,l=>
  if isP Xh l then (if 0<d then bad (atP e l) else andThen (Rj f hd l.tail) fun b k=>ok (.mk 45 [] 0 (atP e l) [b],d+1) k)
  else andThen (Ub e Tn l) fun _ k=>
   if Xn k==1&&Je Gy k then andThen (U8 e k) fun s m=>andThen (Ub e Gy m) fun _ m=>andThen (Ub e Xu m) fun _ m=>andThen (Vg f hd m) fun u m=>andThen (Rj f hd m) fun b m=>ok (.mk 43 s.1 0 (atP e l) [u,b],d) m
   else andThen (Xj f 1 hd k) fun x m=>
    if x.kind==39 && !(isP Xu m) then (match x.kids with
     | []=>none
     |t::_=>andThen (Rj f hd m) fun b m=>ok (.mk 43 [] 0 (atP e l) [t,b],d) m)
    else andThen (Ub e Xu m) fun _ m=>andThen (Xj f 1 hd m) fun y m=>andThen (Rj f hd m) fun b m=>ok (.mk 44 [] 0 (atP e l) [x,y,b],d) m
def V5:Nat→Nat→List Tok→R Tr
 |0,_,_=>none
 |f+1,p,l=>andThen (Ub e wCu l) fun _ k=>andThen (J8 f [] 0 k) fun xs m=>ok (.mk 42 [] 0 p xs) m
def J8:Nat→List Tr→Nat→List Tok→R (List Tr)
 |0,_,_,_=>none
 |f+1,acc,d,l=>if isP wUc l then ok acc l.tail else andThen (Ux f false d l) fun x k=>J8 f (acc++[x.1]) x.2 k
def Xj:Nat→Nat→Bool→List Tok→R Tr
 |0,_,_,_=>none
 |f+1,least,hd,l=>andThen (Vg f hd l) fun x k=>Zi f least hd x k
def Zi:Nat→Nat→Bool→Tr→List Tok→R Tr
 |0,_,_,_,_=>none
 |f+1,least,hd,x,l=>if (if Xn l==4 then Z9 (Zo l) else 0)==0||decide ((if Xn l==4 then Z9 (Zo l) else 0)<least) then ok x l
  else andThen (Xj f (Z9 (Zo l)+1) hd l.tail) fun y k=>Zi f least hd (.mk 33 (Zo l) 0 (Jy l) [x,y]) k
def Vg:Nat→Bool→List Tok→R Tr
 |0,_,_=>none
 |f+1,hd,l=>
  if isP H8 l then andThen (Vg f hd l.tail) fun x k=>ok (.mk 33 H8 0 (Jy l) [x]) k
  else if isP Ql7 l then andThen (Vg f hd l.tail) fun x k=>ok (.mk 33 Ql7 0 (Jy l) [x]) k
  else if isP Qpv l then andThen (Vg f hd l.tail) fun x k=>ok (.mk 33 Qpv 0 (Jy l) [x]) k
  else if isP Xu l then andThen (Vg f hd l.tail) fun x k=>ok (.mk 39 [] 0 (Jy l) [x]) k
  else andThen (Tc f hd l) fun x k=>Jl f hd x k
def Jl:Nat→Bool→Tr→List Tok→R Tr
 |0,_,_,_=>none
 |f+1,hd,x,l=>
  if isP Zt l then andThen (Yi e Q8 false (Xj f 1 false) f l.tail) fun xs k=>Jl f hd (.mk 34 [] 0 (atP e l) (x::xs)) k
  else if isP wDot l then andThen (U8 e l.tail) fun s k=>Jl f hd (.mk 35 s.1 0 (atP e l) [x]) k
  else if isP wSq l then andThen (Yi e wQs true (Qlz f) f l.tail) fun xs k=>Jl f hd (.mk 36 [] 0 (atP e l) (x::xs)) k
  else ok x l
def Qlz:Nat→List Tok→R Tr
 |0,_=>none
 |f+1,l=>if isP wSq l||isP Ff l then Bc f l else Xj f 1 false l
def Tc:Nat→Bool→List Tok→R Tr
 |0,_,_=>none
 |f+1,hd,l=>
  if Xn l==2 then (if Qmp l then ok (.mk 31 [] (numP' l) (Jy l) []) l.tail else none)
  else if isP Gh l then ok (.mk 32 [] 1 (Jy l) []) l.tail
  else if isP Yt l then ok (.mk 32 [] 0 (Jy l) []) l.tail
  else if isP Zt l then andThen (Xj f 1 false l.tail) fun x k=>andThen (Qgp e Q8 k) fun _ m=>ok x m
  else if isP Tm l then andThen (Qfj f l.tail) fun sg k=>andThen (U6 f k) fun b m=>ok (.mk 38 [] 0 (Jy l) (sg++[b])) m
  else andThen (U8 e l) fun s k=>
   if s.1==Jt&&isP Zt k then andThen (Bc f k.tail) fun t m=>andThen (Ub e V3 m) fun _ m=>andThen (Xj f 1 false m) fun x m=>andThen (Qgp e Q8 m) fun _ m=>ok (.mk 40 [] 0 (Jy l) [t,x]) m
   else if !hd&&isP wCu k then andThen (Yi e wUc false (Xj f 1 false) f k.tail) fun xs m=>ok (.mk 37 s.1 0 (Jy l) xs) m
   else ok (.mk 30 s.1 0 (Jy l) []) k
end
def Kw (f:Nat)(p:Nat)(l:List Tok):R Tr:=andThen (U8 e l) fun s k=>
 andThen (if isP wSq k then Yi e wQs true (Nq e) f k.tail else ok [] k) fun tp m=>andThen (Qfj e f m) fun sg m=>andThen (U6 e f m) fun b m=>ok (.mk 3 s.1 0 p (.mk 4 [] 0 (atP e k) tp::(sg++[b]))) m
def U0:Nat→List Tr→List Tok→R (List Tr)
 |0,_,_=>none
 |f+1,acc,l=>if isP wUc l then ok acc l.tail else andThen (Jz e f l) fun x k=>andThen (Qdh e wUc k) fun _ m=>U0 f (acc++[x]) m
def Ye (f:Nat)(p:Nat)(l:List Tok):R Tr:=andThen (U8 e l) fun s k=>andThen (Ub e Qj3 k) fun _ m=>andThen (Ub e wCu m) fun _ m=>andThen (U0 e f [] m) fun xs m=>ok (.mk 2 s.1 0 p xs) m
def Y1:Nat→List Tr→List Tok→R (List Tr)
 |0,_,_=>none
 |f+1,acc,l=>match l with
  | []=>ok acc []
  |t::l'=>andThen (if isP Qdd (t::l') then Ye e f (atP e (t::l')) l' else if isP Tm (t::l') then Kw e f (atP e (t::l')) l' else bad (atP e (t::l'))) fun x k=>
   match k with
   | []=>Y1 f (acc++[x]) []
   |u::k'=>andThen (Qdh e Qgj (u::k')) fun _ m=>Y1 f (acc++[x]) m
def Jb (f:Nat)(l:List Tok):R Tr:=andThen (Y1 e f [] l) fun xs k=>ok (.mk 1 [] 0 0 xs) k
end
mutual
def Xf:Tr→Nat
 | .mk _ _ _ _ l=>1+Zh l
def Zh:List Tr→Nat
 | []=>0
 |t::l=>Xf t+Zh l
end
mutual
def U5:Tr→Nat
 | .mk _ _ _ _ l=>Dt l
def Dt:List Tr→Nat
 | []=>0
 |t::l=>max (1+U5 t) (Dt l)
end
end Prs
end
end Go.Proofs.YtcbkeecabcbogaaGreatDoor
