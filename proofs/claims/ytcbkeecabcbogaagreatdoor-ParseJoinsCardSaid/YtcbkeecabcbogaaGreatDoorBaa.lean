/- Plain functions for the tokens of a text: characters, names, -/
import Derived.Laws.RangeAny
import Derived.Lib.IndexMore
import Derived.Lib.Hide
import Derived.KernelRfl
import Derived.Lib.Hide
set_option linter.unusedSimpArgs false
set_option linter.unusedVariables false
namespace Go.Proofs.YtcbkeecabcbogaaGreatDoor
theorem Dh {p : Prop} (h : p) : Go.RowKit.Hid p := Go.Lib.hid h
theorem Dd {p : Prop} (h : p := by decide) : p := h
theorem Dk {p : Prop} (h : p := by kernel_rfl) : p := h
theorem Dw {p : Prop} (h : p := by omega) : p := h
theorem Ds {p : Prop} (h : p := by simp) : p := h
theorem Da {p : Prop} (h : p := by assumption) : p := h
theorem Dx {p : Prop} (h : p := by intro _ hx; cases hx) : p := h
section
def Vb (l:List UInt8):Nat×Nat:=Utf8.decode ⟨l.toArray⟩ 0
theorem dec_drop (l:List UInt8)(i:Nat)(h:i<l.length):Utf8.decode ⟨l.toArray⟩ i=Vb (l.drop i):=by
 have g:∀ k,(⟨l.toArray⟩:ByteArray).get! (i+k)=(⟨(l.drop i).toArray⟩:ByteArray).get! (0+k):=by
  intro k;show l.toArray[i+k]! = (l.drop i).toArray[0+k]!
  simp[getElem!_def]
 have c:∀ k,(i+k<(⟨l.toArray⟩:ByteArray).size)=(0+k<(⟨(l.drop i).toArray⟩:ByteArray).size):=by
  intro k;show (i+k<l.toArray.size)=(0+k<(l.drop i).toArray.size)
  simp;omega
 unfold Vb Utf8.decode;simp only[g,c]
theorem Qc1 (b:UInt8)(l:List UInt8):((⟨(b::l).toArray⟩:ByteArray).get! (0+0))=b:=by
 show (b::l).toArray[0+0]! = b
 simp
theorem Td (b:UInt8)(l:List UInt8)(h:b.toNat<128):Vb (b::l)=(b.toNat,1):=by
 unfold Vb Utf8.decode;simp only[Qc1,h,if_true]
theorem Qng (b:UInt8)(l:List UInt8)(h:128≤b.toNat):128≤(Vb (b::l)).1∧1≤(Vb (b::l)).2:=by
 have hn:¬ b.toNat<128:=by omega
 unfold Vb;simp only[Utf8.decode,Qc1,hn,if_false];repeat' split
 all_goals simp_all [Utf8.runeError]
 all_goals omega
theorem Wp (b:UInt8)(l:List UInt8):1≤(Vb (b::l)).2:=by
 by_cases h:b.toNat<128
 ·rw[Td b l h];exact Nat.le_refl _
 ·exact(Qng b l Dw).2
theorem Cf (b:UInt8)(l:List UInt8):(Vb (b::l)).2≤(b::l).length:=by
 unfold Vb;have hs:(⟨(b::l).toArray⟩:ByteArray).size=l.length+1:=by show (b::l).toArray.size=_;simp
 simp only[Utf8.decode,hs];repeat' split
 all_goals simp_all
 all_goals omega
def isLet (r:Int):Bool:=(decide (65≤r)&&decide (r≤90))||(decide (97≤r)&&decide (r≤122))||r==95||(decide (192≤r)&&decide (r≤591)&&r != 215&&r != 247)
def Y9 (r:Int):Bool:=decide (48≤r)&&decide (r≤57)
def Ei (r:Int):Bool:=isLet r||Y9 r
theorem Qlm {r:Int}(h:isLet r=true):Y9 r=false:=by
 cases hd:Y9 r with
 |false=>rfl
 |true=>
  simp[isLet,Y9] at h hd;omega
theorem Qnd (b:UInt8)(l:List UInt8):(b::l).drop (Vb (b::l)).2=l.drop ((Vb (b::l)).2-1):=by
 have h:=Wp b l;obtain⟨k,hk⟩:∃ k,(Vb (b::l)).2=k+1:=⟨(Vb (b::l)).2-1,by omega⟩;rw[hk];rfl
def Yr:List UInt8→Nat
 | []=>0
 |b::l=>if Ei (Vb (b::l)).1 then (Vb (b::l)).2+Yr (l.drop ((Vb (b::l)).2-1)) else 0
termination_by l=>l.length
decreasing_by simp;omega
theorem Dq:Yr []=0:=by rw[Yr]
theorem Gs (b:UInt8)(l:List UInt8)(h:Ei (Vb (b::l)).1=true):Yr (b::l)=(Vb (b::l)).2+Yr ((b::l).drop (Vb (b::l)).2):=by
 rw[Yr,if_pos h,Qnd]
theorem Nr (b:UInt8)(l:List UInt8)(h:Ei (Vb (b::l)).1=false):Yr (b::l)=0:=by
 rw[Yr,h];rfl
theorem Qrp:∀ (n:Nat) (l:List UInt8),l.length≤n→Yr l≤l.length
 |_,[],_=>by rw[Dq];exact Nat.le_refl _
 |0,b::l,h=>by simp at h
 |n+1,b::l,h=>by
  cases hr:Ei (Vb (b::l)).1
  ·rw[Nr b l hr];exact Nat.zero_le _
  ·have hp:=Wp b l;have hf:=Cf b l;rw[Gs b l hr];have ih:=Qrp n ((b::l).drop (Vb (b::l)).2) (by simp at h ⊢;omega);simp at ih hf ⊢;omega
theorem Qbe (l:List UInt8):Yr l≤l.length:=Qrp _ l (Nat.le_refl _)
theorem Qrq (l:List UInt8)(p:Nat)(h:p<l.length):Ei (Vb (l.drop p)).1=true→Yr (l.drop p)=(Vb (l.drop p)).2+Yr (l.drop (p+(Vb (l.drop p)).2)):=by
 intro hr;obtain⟨b,m,hm⟩:∃ b m,l.drop p=b::m:=by
  cases hd:l.drop p with
  |nil=>simp at hd;omega
  |cons b m=>exact⟨b,m,rfl⟩
 rw[hm] at hr;rw[hm,Gs b m hr,←hm,List.drop_drop]
def broken (l:List UInt8):Bool:=(Vb l).1==65533&&decide ((Vb l).2<2)
def Zr:List UInt8→Nat
 | []=>0
 |b::l=>if broken (b::l) then 0 else (Vb (b::l)).2+Zr (l.drop ((Vb (b::l)).2-1))
termination_by l=>l.length
decreasing_by simp;omega
theorem Gz:Zr []=0:=by rw[Zr]
theorem Qdf (b:UInt8)(l:List UInt8)(h:broken (b::l)=true):Zr (b::l)=0:=by rw[Zr,if_pos h]
theorem Gy (b:UInt8)(l:List UInt8)(h:broken (b::l)=false):Zr (b::l)=(Vb (b::l)).2+Zr ((b::l).drop (Vb (b::l)).2):=by
 rw[Zr,h,Qnd];rfl
theorem Qib:∀ (n:Nat) (l:List UInt8),l.length≤n→Zr l≤l.length
 |_,[],_=>by rw[Gz];exact Nat.le_refl _
 |0,b::l,h=>by simp at h
 |n+1,b::l,h=>by
  cases hr:broken (b::l)
  ·have hp:=Wp b l;have hf:=Cf b l;rw[Gy b l hr];have ih:=Qib n ((b::l).drop (Vb (b::l)).2) (by simp at h ⊢;omega);simp at ih hf ⊢;omega
  ·rw[Qdf b l hr];exact Nat.zero_le _
theorem Qdg (l:List UInt8):Zr l≤l.length:=Qib _ l (Nat.le_refl _)
theorem Cb (b:UInt8)(l:List UInt8)(k:Nat)(h:k<l.length):((⟨(b::l).toArray⟩:ByteArray).get! (0+(k+1)))=l[k]:=by
 show (b::l).toArray[0+(k+1)]! = l[k]
 simp[getElem!_def,h]
theorem Qih (b:UInt8)(l:List UInt8):(⟨(b::l).toArray⟩:ByteArray).size=l.length+1:=by show (b::l).toArray.size=_;simp
theorem Qpq (b:UInt8)(l:List UInt8)(h:(Vb (b::l)).1=65533):broken (b::l)=decide ((b::l).take 3≠[239,191,189]):=by
 have e:broken (b::l)=decide ((Vb (b::l)).2<2):=by unfold broken;rw[h];simp
 rw[e];by_cases ht:(b::l).take 3=[239,191,189]
 ·obtain⟨rfl,m,rfl⟩:b=239∧∃ m,l=191::189::m:=by
   match l,ht with
   |c::d::m,ht=>simp at ht;exact⟨ht.1,m,by rw[ht.2.1,ht.2.2]⟩
   | [c],ht=>simp at ht
   | [],ht=>simp at ht
  have e1:=Cb 239 (191::189::m) 0 Ds;have e2:=Cb 239 (191::189::m) 1 Ds;simp only[List.getElem_cons_zero,List.getElem_cons_succ] at e1 e2;have hs:=Qih 239 (191::189::m);have hd:(Vb (239::191::189::m)).2=3:=by
   unfold Vb;simp only[Utf8.decode,Qc1,e1,e2,hs];simp[Utf8.valid]
  rw[hd];simp
 ·rw[decide_eq_decide];refine⟨fun _=>ht,fun _=>?_⟩;refine Nat.lt_of_not_le fun h2=>ht ?_
  obtain⟨k,hk⟩:∃ k,k=(Vb (b::l)).2:=⟨_,rfl⟩;rw[←hk] at h2;have hd:Vb (b::l)=(65533,k):=Prod.ext h hk.symm;clear h hk;unfold Vb at hd;have hs:=Qih b l;simp only[Utf8.decode,Qc1,hs,Utf8.runeError] at hd;have hb0:=b.toNat_lt;split at hd
  ·simp at hd;omega
  ·split at hd
   ·split at hd
    ·simp at hd;omega
    ·simp at hd;omega
   ·split at hd
    ·rename_i h3 h4 h5;simp only[Bool.and_eq_true,beq_iff_eq,decide_eq_true_eq] at h5;obtain⟨⟨g0,g1,g2⟩,g3,g4⟩:=h5;have l1:0<l.length:=by omega
     have l2:1<l.length:=by omega
     rw[Cb b l 0 l1] at g2;rw[Cb b l 1 l2] at g4;simp only[Cb b l 0 l1,Cb b l 1 l2] at hd;split at hd
     ·match l,l1,l2 with
      |c::d::m,_,_=>
       simp only[List.getElem_cons_zero,List.getElem_cons_succ] at g2 g4 hd;have hc:=c.toNat_lt;have hd':=d.toNat_lt;simp only[Prod.mk.injEq] at hd;have e1:b=239:=by apply UInt8.toNat_inj.1;show _=239;omega
       have e2:c=191:=by apply UInt8.toNat_inj.1;show _=191;omega
       have e3:d=189:=by apply UInt8.toNat_inj.1;show _=189;omega
       rw[e1,e2,e3];rfl
     ·simp at hd;omega
    ·split at hd
     ·split at hd
      ·rename_i h7;simp only[Bool.and_eq_true,decide_eq_true_eq] at h7;simp only[Prod.mk.injEq] at hd;omega
      ·simp at hd;omega
     ·simp at hd;omega
def Yo:List UInt8:=[32,102,117,110,99,32,116,121,112,101,32,115,116,114,117,99,116,32,105,102,32,101,108,115,101,32,102,111,114,32,98,114,101,97,107,32,99,111,110,116,105,110,117,101,32,114,101,116,117,114,110,32,103,111,32,100,101,102,101,114,32,115,101,108,101,99,116,32,99,97,115,101,32,100,101,102,97,117,108,116,32,99,104,97,110,32,118,97,114,32,116,114,117,101,32,102,97,108,115,101,32]
def Fj:List (List UInt8):=[[102,117,110,99],[116,121,112,101],[115,116,114,117,99,116],[105,102],[101,108,115,101],[102,111,114],[98,114,101,97,107],[99,111,110,116,105,110,117,101],[114,101,116,117,114,110],[103,111],[100,101,102,101,114],[115,101,108,101,99,116],[99,97,115,101],[100,101,102,97,117,108,116],[99,104,97,110],[118,97,114],[116,114,117,101],[102,97,108,115,101]]
def isWord (l:List UInt8):Bool:=Fj.contains l
theorem Qk2 (l m:List UInt8)(h:32 ∉ l)(hp:(l++[32]).isPrefixOf m=true):l=m.takeWhile (· != 32):=by
 rw[List.isPrefixOf_iff_prefix] at hp;obtain⟨t,rfl⟩:=hp;rw[List.append_assoc,List.takeWhile_append_of_pos (fun x hx=>by simp;rintro rfl;exact h hx)];simp
theorem words_in:∀ l∈Fj,Lib.contains Yo ([32]++l++[32])=true:=by decide +kernel
theorem words_at:∀ j,j<120→Yo[j]? = some 32→isWord ((Yo.drop (j+1)).takeWhile (· != 32))=true∨(Yo.drop (j+1)).takeWhile (· != 32)=[]:=by decide +kernel
theorem word_of (l:List UInt8)(h1:l≠[])(h2:32 ∉ l):Lib.contains Yo ([32]++l++[32])=isWord l:=by
 cases hw:isWord l
 ·refine Bool.eq_false_iff.2 fun hc=>?_
  have hi:Lib.index Yo ([32]++l++[32]) ≠ -1:=by
   unfold Lib.contains at hc;simp only[decide_eq_true_eq] at hc;omega
  have hex:∃ j,j≤Yo.length∧Lib.occAt Yo ([32]++l++[32]) j=true:=by
   refine Classical.byContradiction fun hn=>hi (Lib.index_none fun j hj=>?_)
   cases ho:Lib.occAt Yo ([32]++l++[32]) j with
   |false=>rfl
   |true=>exact absurd ⟨j,hj,ho⟩ hn
  obtain⟨j,hj,ho⟩:=hex;have hl:Yo.length≤119:=by decide
  have h0:Yo[j]? = some 32:=Lib.occAt_head (t:=l++[32]) Ds ho;have hp:(l++[32]).isPrefixOf (Yo.drop (j+1))=true:=by
   unfold Lib.occAt at ho;have hlt:j<Yo.length:=by
    rcases Nat.lt_or_ge j Yo.length with h|h
    ·exact h
    ·rw[List.getElem?_eq_none h] at h0;cases h0
   rw[List.drop_eq_getElem_cons hlt,show [32]++l++[32]=32::(l++[32]) by simp,List.isPrefixOf_cons_cons,Bool.and_eq_true] at ho;exact ho.2
  have he:=Qk2 l _ h2 hp;rcases words_at j Dw h0 with h|h
  ·rw[←he,hw] at h;cases h
  ·rw[←he] at h;exact h1 h
 ·exact words_in l (by simpa [isWord] using hw)
def Zx (hex:Bool)(c:UInt8):Option Nat:=
 if 48≤c.toNat∧c.toNat≤57 then some (c.toNat-48)
 else if hex∧97≤c.toNat∧c.toNat≤102 then some (c.toNat-87)
 else if hex∧65≤c.toNat∧c.toNat≤70 then some (c.toNat-55)
 else none
def Qfg (hex:Bool):Nat:=if hex then 16 else 10
def Xt (hex:Bool)(n:Nat):List UInt8→Option Nat
 | []=>some n
 |c::l=>match Zx hex c with
  |some d=>Xt hex (n*Qfg hex+d) l
  |none=>none
def Gf:List UInt8→Bool
 |48::120::_=>true
 |_=>false
def digitsOf (l:List UInt8):List UInt8:=if Gf l then l.drop 2 else l
def Kv:List UInt8→Bool
 |48::_::_=>true
 |_=>false
def F7 (l:List UInt8):Nat×Int:=
 if !Gf l&&Kv l then (0,4)
 else if digitsOf l=[] then (0,4)
 else match Xt (Gf l) 0 (digitsOf l) with
  |none=>(0,4)
  |some v=>if v<18446744073709551616 then (v,0) else (0,6)
structure Tok where
 kind:Int
 text:List UInt8
 num:Int
 place:Nat
def Vy:List (List UInt8):=[[60,60],[62,62],[38,94],[38,38],[124,124],[61,61],[33,61],[60,61],[62,61],[58,61],[60,45],[43],[45],[42],[47],[37],[38],[124],[94],[33],[60],[62],[61],[40],[41],[91],[93],[123],[125],[44],[46],[58],[59]]
def Az (l:List UInt8):Option (List UInt8):=Vy.find? fun g=>g.isPrefixOf l
def Ui (l:List UInt8)(at_:Nat):Tok×Nat×Int:=
 if isLet (Vb l).1 then
  if 64<Yr l then (⟨1,l.take (Yr l),0,at_⟩,Yr l,6)
  else (⟨if isWord (l.take (Yr l)) then 3 else 1,l.take (Yr l),0,at_⟩,Yr l,0)
 else if Y9 (Vb l).1 then (⟨2,l.take (Yr l),(F7 (l.take (Yr l))).1,at_⟩,Yr l,(F7 (l.take (Yr l))).2)
 else match Az l with
  |some g=>(⟨if g=[59] then 5 else 4,g,0,at_⟩,g.length,0)
  |none=>(⟨0,[],0,0⟩,0,4)
def Yq:List (List UInt8):=[[98,114,101,97,107],[99,111,110,116,105,110,117,101],[114,101,116,117,114,110],[116,114,117,101],[102,97,108,115,101],[41],[93],[125]]
def Xl (t:Tok):Bool:=t.kind==1||t.kind==2||Yq.contains t.text
def Zj (p:Nat):Tok:=⟨5,[],0,p⟩
def V9 (b:UInt8):Bool:=b==9||b==13||b==32
def Z7 (l:List UInt8):Bool:=[47,47].isPrefixOf l
def X5 (l:List UInt8):Nat:=(l.takeWhile (· != 10)).length
abbrev Qkc:=Except (Nat×Int) (List Tok)
def Ee (t:Tok):Qkc→Qkc
 | .ok l => .ok (t::l)
 | .error e => .error e
def lex (l:List UInt8)(p:Nat)(opn:Bool)(cnt:Nat):Qkc:=
 match l with
 | []=>if opn then (if 16384≤cnt then .error (p,6) else .ok [Zj p]) else .ok []
 |b::m=>
  if b==10 then
   if opn then (if 16384≤cnt then .error (p,6) else Ee (Zj p) (lex m (p+1) false (cnt+1)))
   else lex m (p+1) false cnt
  else if V9 b then lex m (p+1) opn cnt
  else if Z7 (b::m) then lex (m.drop (X5 (b::m)-1)) (p+X5 (b::m)) opn cnt
  else
   let r:=Ui (b::m) p
   if r.2.2≠0 then .error (p,r.2.2)
   else if 16384≤cnt then .error (p,6)
   else Ee r.1 (lex (m.drop (r.2.1-1)) (p+r.2.1) (Xl r.1) (cnt+1))
termination_by l.length
decreasing_by all_goals simp_all;try omega
def Xk (l:List UInt8):Qkc:=
 if 65536<l.length then .error (0,6)
 else if Zr l<l.length then .error (Zr l,3)
 else lex l 0 false 0
theorem Jh (p:Nat)(opn:Bool)(cnt:Nat):lex [] p opn cnt=if opn then (if 16384≤cnt then .error (p,6) else .ok [Zj p]) else .ok []:=by rw[lex]
theorem Tn (m:List UInt8)(p:Nat)(opn:Bool)(cnt:Nat):lex (10::m) p opn cnt=if opn then (if 16384≤cnt then .error (p,6) else Ee (Zj p) (lex m (p+1) false (cnt+1))) else lex m (p+1) false cnt:=by
 rw[lex];simp
theorem U9 (b:UInt8)(m:List UInt8)(p:Nat)(opn:Bool)(cnt:Nat)(h:V9 b=true):lex (b::m) p opn cnt=lex m (p+1) opn cnt:=by
 have hb:(b==10)=false:=by
  unfold V9 at h;simp at h ⊢;rintro rfl;simp at h
 rw[lex,hb,h];simp
theorem Rl (b:UInt8)(m:List UInt8)(h:b≠10):1≤X5 (b::m):=by
 unfold X5;simp[List.takeWhile_cons,h]
theorem Qnc {α:Type}(b:α)(m:List α)(k:Nat)(h:1≤k):m.drop (k-1)=(b::m).drop k:=by
 obtain⟨j,rfl⟩:∃ j,k=j+1:=⟨k-1,by omega⟩;rfl
theorem Y7 (l:List UInt8)(p:Nat)(opn:Bool)(cnt:Nat)(h:Z7 l=true):lex l p opn cnt=lex (l.drop (X5 l)) (p+X5 l) opn cnt:=by
 cases l with
 |nil=>simp[Z7] at h
 |cons b m=>
  have hb:b=47:=by simp[Z7] at h;exact h.1.symm
  have hb1:(b==10)=false:=by subst hb;decide
  have hb2:V9 b=false:=by subst hb;decide
  rw[lex,hb1,hb2,h,Qnc b m _ (Rl b m (by subst hb;decide))];simp
def starts (l:List UInt8):Bool:=match l with
 | []=>false
 |b::_ => !(b==10) && !V9 b && !Z7 l
theorem one_pos (l:List UInt8)(p:Nat)(hl:l≠[])(h:(Ui l p).2.2=0):1≤(Ui l p).2.1:=by
 obtain⟨b,m,rfl⟩:∃ b m,l=b::m:=by cases l with|nil=>exact absurd rfl hl|cons b m=>exact⟨b,m,rfl⟩
 have hp:=Wp b m;unfold Ui at h ⊢;cases hL:isLet (Vb (b::m)).1
 ·cases hD:Y9 (Vb (b::m)).1
  ·simp only[hL,hD,Bool.false_eq_true,if_false] at h ⊢;split
   ·rename_i g hg;unfold Az at hg
    have:=List.mem_of_find?_eq_some hg;show 1≤g.length
    have hall:∀ g∈Vy,1≤g.length:=by decide
    exact hall g this
   ·rename_i hg;rw[hg] at h;simp at h
  ·simp only[hL,hD,Bool.false_eq_true,if_false,if_true];have:Ei (Vb (b::m)).1=true:=by simp[Ei,hD]
   rw[Gs b m this];omega
 ·simp only[hL,if_true];have:Ei (Vb (b::m)).1=true:=by simp[Ei,hL]
  rw[Gs b m this];split <;> (simp only[];omega)
theorem Kt (l:List UInt8)(p:Nat)(opn:Bool)(cnt:Nat)(h:starts l=true):
  lex l p opn cnt=if (Ui l p).2.2≠0 then .error (p,(Ui l p).2.2) else if 16384≤cnt then .error (p,6) else Ee (Ui l p).1 (lex (l.drop (Ui l p).2.1) (p+(Ui l p).2.1) (Xl (Ui l p).1) (cnt+1)):=by
 cases l with
 |nil=>cases h
 |cons b m=>
  simp only[starts,Bool.and_eq_true,Bool.not_eq_true'] at h;rw[lex,h.1.1,h.1.2,h.2];simp only[Bool.false_eq_true,if_false];by_cases he:(Ui (b::m) p).2.2=0
  ·rw[Qnc b m _ (one_pos (b::m) p Ds he)]
  ·simp only[ne_eq,he,not_false_eq_true,if_true]
end
section
namespace Prs
inductive Tr where
 |mk (kind:Nat) (text:List UInt8) (num:Nat) (place:Nat) (kids:List Tr)
def Tr.kind:Tr→Nat
 | .mk k _ _ _ _=>k
def Tr.kids:Tr→List Tr
 | .mk _ _ _ _ l=>l
abbrev R (α:Type):=Option (Except Nat (α×List Tok))
def ok {α:Type}(x:α)(l:List Tok):R α:=some (.ok (x,l))
def bad {α:Type}(p:Nat):R α:=some (.error p)
def andThen {α β:Type}(r:R α)(f:α→List Tok→R β):R β:=match r with
 |none=>none
 |some (.error p)=>some (.error p)
 |some (.ok (x,l))=>f x l
def Zu:List UInt8:=[44]
def Zz:List UInt8:=[40]
def Q4:List UInt8:=[41]
def wSq:List UInt8:=[91]
def wQs:List UInt8:=[93]
def wCu:List UInt8:=[123]
def wUc:List UInt8:=[125]
def wDot:List UInt8:=[46]
def Qqs:List UInt8:=[58]
def D6:List UInt8:=[59]
def Jp:List UInt8:=[58,61]
def wEq:List UInt8:=[61]
def Xy:List UInt8:=[60,45]
def Na:List UInt8:=[99,104,97,110]
def U6:List UInt8:=[102,117,110,99]
def Qa9:List UInt8:=[116,121,112,101]
def Qkm:List UInt8:=[115,116,114,117,99,116]
def Qkn:List UInt8:=[101,108,115,101]
def wIf:List UInt8:=[105,102]
def Qe7:List UInt8:=[102,111,114]
def Qbx:List UInt8:=[118,97,114]
def J6:List UInt8:=[98,114,101,97,107]
def Vp:List UInt8:=[99,111,110,116,105,110,117,101]
def Kr:List UInt8:=[114,101,116,117,114,110]
def wGo:List UInt8:=[103,111]
def P8:List UInt8:=[100,101,102,101,114]
def Qba:List UInt8:=[115,101,108,101,99,116]
def Tj:List UInt8:=[99,97,115,101]
def Xj:List UInt8:=[100,101,102,97,117,108,116]
def Gp:List UInt8:=[116,114,117,101]
def Yv:List UInt8:=[102,97,108,115,101]
def Jz:List UInt8:=[109,97,107,101]
def Gj:List UInt8:=[45]
def Qmc:List UInt8:=[94]
def Qpu:List UInt8:=[33]
def wAny:List UInt8:=[97,110,121]
def Jf:List UInt8:=[99,111,109,112,97,114,97,98,108,101]
def Df:List UInt8:=[105,110,116,101,103,101,114]
def opsP:List (List (List UInt8)):=[[[42],[47],[37],[60,60],[62,62],[38],[38,94]],[[43],[45],[124],[94]],[[61,61],[33,61],[60],[60,61],[62],[62,61]],[[38,38]],[[124,124]]]
def Lu (s:List UInt8):List (List (List UInt8))→Nat
 | []=>0
 |l::ls=>if l.contains s then ls.length+1 else Lu s ls
def Vs (s:List UInt8):Nat:=Lu s opsP
def Q9:List Tok→Int
 | []=>0
 |t::_=>t.kind
def Zl:List Tok→List UInt8
 | []=>[]
 |t::_=>t.text
def Hy:List Tok→Nat
 | []=>0
 |t::_=>t.place
def Qsd:List Tok→Nat
 | []=>0
 |t::_=>t.num.toNat
def Qdz:List Tok→Bool
 | []=>true
 |t::_=>decide (0≤t.num)
section
variable (e:Nat)
def atP:List Tok→Nat
 | []=>e
 |t::_=>t.place
def isP (w:List UInt8)(l:List Tok):Bool:=(Q9 l==3||Q9 l==4)&&Zl l==w
def Vh (w:List UInt8):List Tok→Bool
 |_::t::_=>t.kind==4&&t.text==w
 |_=>false
def Vw (w:List UInt8)(l:List Tok):R Nat:=if isP w l then ok (atP e l) l.tail else bad (atP e l)
def H8 (l:List Tok):R (List UInt8×Nat):=if Q9 l==1 then ok (Zl l,Hy l) l.tail else bad (atP e l)
def J3 (w:List UInt8)(l:List Tok):R Unit:=if Q9 l==5 then ok () l.tail else if isP w l then ok () l else bad (atP e l)
def Eb (w:List UInt8)(l:List Tok):R Nat:=Vw e w (if Q9 l==5&&Vh w l then l.tail else l)
def Wq (l:List Tok):Bool:=Q9 l==1||(isP wSq l||(isP Na l||isP U6 l))
def Xr (shut:List UInt8)(one:List Tok→R Tr):Nat→List Tr→List Tok→R (List Tr)
 |0,_,_=>none
 |f+1,acc,l=>andThen (one l) fun x l=>if isP Zu l then Xr shut one f (acc++[x]) l.tail else andThen (Eb e shut l) fun _ l=>ok (acc++[x]) l
def Yk (shut:List UInt8)(first:Bool)(one:List Tok→R Tr)(f:Nat)(l:List Tok):R (List Tr):=if !first&&isP shut l then ok [] l.tail else Xr e shut one f [] l
def Zv (l:List Tok):Nat:=if Q9 l==1 then (if Zl l==wAny then 1 else if Zl l==Jf then 2 else if Zl l==Df then 3 else 0) else 0
def Fq (l:List Tok):R Tr:=andThen (H8 e l) fun s l=>if Zv l==0 then bad (atP e l) else ok (.mk 8 s.1 (Zv l) s.2 []) l.tail
mutual
def Nk:Nat→List Tok→R Tr
 |0,_=>none
 |f+1,l=>
  if isP wSq l then andThen (Vw e wQs l.tail) fun _ k=>andThen (Nk f k) fun t m=>ok (.mk 11 [] 0 (atP e l) [t]) m
  else if isP Na l then andThen (Nk f l.tail) fun t m=>ok (.mk 12 [] 0 (atP e l) [t]) m
  else if isP U6 l then andThen (Vw e Zz l.tail) fun _ k=>andThen (Yk e Q4 false (Nk f) f k) fun ts m=>
   if Wq m then andThen (Nk f m) fun t q=>ok (.mk 13 [] 1 (atP e l) (ts++[t])) q else ok (.mk 13 [] 0 (atP e l) ts) m
  else andThen (H8 e l) fun s k=>ok (.mk 10 s.1 0 (atP e l) []) k
def Jj:Nat→List Tok→R Tr
 |0,_=>none
 |f+1,l=>andThen (H8 e l) fun s k=>andThen (Nk f k) fun t m=>ok (.mk 5 s.1 0 s.2 [t]) m
def Qe4:Nat→List Tok→R (List Tr)
 |0,_=>none
 |f+1,l=>andThen (Vw e Zz l) fun p k=>andThen (Yk e Q4 false (Jj f) f k) fun ps m=>
  if Wq m then andThen (Nk f m) fun t q=>ok [.mk 6 [] 0 p ps,.mk 7 [] 0 (atP e m) [t]] q else ok [.mk 6 [] 0 p ps,.mk 7 [] 0 (atP e m) []] m
def Ut:Nat→List Tok→R Tr
 |0,_=>none
 |f+1,l=>andThen (Vw e wCu l) fun p k=>andThen (V7 f [] k) fun xs m=>ok (.mk 20 [] 0 p xs) m
def V7:Nat→List Tr→List Tok→R (List Tr)
 |0,_,_=>none
 |f+1,acc,l=>if isP wUc l then ok acc l.tail else andThen (He f false l) fun x k=>andThen (J3 e wUc k) fun _ m=>V7 f (acc++[x]) m
def Yl:Nat→Nat→List Tok→R Tr
 |0,_,_=>none
 |f+1,p,l=>andThen (Xg f 1 true l) fun h k=>andThen (Ut f k) fun b m=>
  if isP Qkn m then (if isP wIf m.tail then andThen (Yl f (atP e m.tail) m.tail.tail) fun x q=>ok (.mk 25 [] 0 p [h,b,x]) q
   else andThen (Ut f m.tail) fun x q=>ok (.mk 25 [] 0 p [h,b,x]) q)
  else ok (.mk 25 [] 0 p [h,b]) m
def He:Nat→Bool→List Tok→R Tr
 |0,_,_=>none
 |f+1,hd,l=>
  if isP wCu l then Ut f l
  else if isP Qbx l then andThen (H8 e l.tail) fun s k=>andThen (Nk f k) fun t m=>ok (.mk 22 s.1 0 (atP e l) [t]) m
  else if isP wIf l then Yl f (atP e l) l.tail
  else if isP Qe7 l then andThen (Xg f 1 true l.tail) fun h k=>andThen (Ut f k) fun b m=>ok (.mk 26 [] 0 (atP e l) [h,b]) m
  else if isP J6 l then ok (.mk 27 [] 0 (atP e l) []) l.tail
  else if isP Vp l then ok (.mk 27 [] 1 (atP e l) []) l.tail
  else if isP Kr l then (if !(Q9 l.tail==5) && !(isP wUc l.tail) then andThen (Xg f 1 hd l.tail) fun x k=>ok (.mk 28 [] 0 (atP e l) [x]) k else ok (.mk 28 [] 0 (atP e l) []) l.tail)
  else if isP wGo l||isP P8 l then andThen (Xg f 1 hd l.tail) fun c k=>if c.kind==34 then ok (.mk 29 [] (if isP wGo l then 0 else 1) (atP e l) [c]) k else bad (atP e l.tail)
  else if isP Qba l then Vg f (atP e l) l.tail
  else Yw f hd l
def Yw:Nat→Bool→List Tok→R Tr
 |0,_,_=>none
 |f+1,hd,l=>
  if Q9 l==1&&Vh Jp l then andThen (H8 e l) fun s k=>andThen (Vw e Jp k) fun _ m=>andThen (Xg f 1 hd m) fun x q=>ok (.mk 21 s.1 0 (atP e l) [x]) q
  else andThen (Xg f 1 hd l) fun x k=>
   if isP wEq k then andThen (Xg f 1 hd k.tail) fun y m=>if x.kind==30||(x.kind==35||x.kind==36) then ok (.mk 23 [] 0 (atP e l) [x,y]) m else bad (atP e l)
   else if isP Xy k then andThen (Xg f 1 hd k.tail) fun y m=>ok (.mk 41 [] 0 (atP e k) [x,y]) m
   else if x.kind==34||x.kind==39 then ok (.mk 24 [] 0 (atP e l) [x]) k else bad (atP e l)
def Gg:Nat→Bool→List Tok→R Tr
 |0,_,_=>none
 |f+1,hd,l=>andThen (Vw e Qqs l) fun p k=>andThen (Tt f hd [] k) fun xs m=>ok (.mk 20 [] 0 p xs) m
def Tt:Nat→Bool→List Tr→List Tok→R (List Tr)
 |0,_,_,_=>none
 |f+1,hd,acc,l=>if isP Tj l||(isP Xj l||isP wUc l) then ok acc l else andThen (He f hd l) fun x k=>
  if Q9 k==5 then Tt f hd (acc++[x]) k.tail else if isP wUc k then Tt f hd (acc++[x]) k else bad (atP e k)
def Uj:Nat→Bool→Nat→List Tok→R (Tr×Nat)
 |0,_,_,_=>none
 |f+1,hd,d,l=>
  if isP Xj l then (if 0<d then bad (atP e l) else andThen (Gg f hd l.tail) fun b k=>ok (.mk 45 [] 0 (atP e l) [b],d+1) k)
  else andThen (Vw e Tj l) fun _ k=>
   if Q9 k==1&&Vh Jp k then andThen (H8 e k) fun s m=>andThen (Vw e Jp m) fun _ m=>andThen (Vw e Xy m) fun _ m=>andThen (Zy f hd m) fun u m=>andThen (Gg f hd m) fun b m=>ok (.mk 43 s.1 0 (atP e l) [u,b],d) m
   else andThen (Xg f 1 hd k) fun x m=>
    if x.kind==39 && !(isP Xy m) then (match x.kids with
     | []=>none
     |t::_=>andThen (Gg f hd m) fun b m=>ok (.mk 43 [] 0 (atP e l) [t,b],d) m)
    else andThen (Vw e Xy m) fun _ m=>andThen (Xg f 1 hd m) fun y m=>andThen (Gg f hd m) fun b m=>ok (.mk 44 [] 0 (atP e l) [x,y,b],d) m
def Vg:Nat→Nat→List Tok→R Tr
 |0,_,_=>none
 |f+1,p,l=>andThen (Vw e wCu l) fun _ k=>andThen (Jg f [] 0 k) fun xs m=>ok (.mk 42 [] 0 p xs) m
def Jg:Nat→List Tr→Nat→List Tok→R (List Tr)
 |0,_,_,_=>none
 |f+1,acc,d,l=>if isP wUc l then ok acc l.tail else andThen (Uj f false d l) fun x k=>Jg f (acc++[x.1]) x.2 k
def Xg:Nat→Nat→Bool→List Tok→R Tr
 |0,_,_,_=>none
 |f+1,least,hd,l=>andThen (Zy f hd l) fun x k=>Xv f least hd x k
def Xv:Nat→Nat→Bool→Tr→List Tok→R Tr
 |0,_,_,_,_=>none
 |f+1,least,hd,x,l=>if (if Q9 l==4 then Vs (Zl l) else 0)==0||decide ((if Q9 l==4 then Vs (Zl l) else 0)<least) then ok x l
  else andThen (Xg f (Vs (Zl l)+1) hd l.tail) fun y k=>Xv f least hd (.mk 33 (Zl l) 0 (Hy l) [x,y]) k
def Zy:Nat→Bool→List Tok→R Tr
 |0,_,_=>none
 |f+1,hd,l=>
  if isP Gj l then andThen (Zy f hd l.tail) fun x k=>ok (.mk 33 Gj 0 (Hy l) [x]) k
  else if isP Qmc l then andThen (Zy f hd l.tail) fun x k=>ok (.mk 33 Qmc 0 (Hy l) [x]) k
  else if isP Qpu l then andThen (Zy f hd l.tail) fun x k=>ok (.mk 33 Qpu 0 (Hy l) [x]) k
  else if isP Xy l then andThen (Zy f hd l.tail) fun x k=>ok (.mk 39 [] 0 (Hy l) [x]) k
  else andThen (Vm f hd l) fun x k=>V8 f hd x k
def V8:Nat→Bool→Tr→List Tok→R Tr
 |0,_,_,_=>none
 |f+1,hd,x,l=>
  if isP Zz l then andThen (Yk e Q4 false (Xg f 1 false) f l.tail) fun xs k=>V8 f hd (.mk 34 [] 0 (atP e l) (x::xs)) k
  else if isP wDot l then andThen (H8 e l.tail) fun s k=>V8 f hd (.mk 35 s.1 0 (atP e l) [x]) k
  else if isP wSq l then andThen (Yk e wQs true (Qj7 f) f l.tail) fun xs k=>V8 f hd (.mk 36 [] 0 (atP e l) (x::xs)) k
  else ok x l
def Qj7:Nat→List Tok→R Tr
 |0,_=>none
 |f+1,l=>if isP wSq l||isP Na l then Nk f l else Xg f 1 false l
def Vm:Nat→Bool→List Tok→R Tr
 |0,_,_=>none
 |f+1,hd,l=>
  if Q9 l==2 then (if Qdz l then ok (.mk 31 [] (Qsd l) (Hy l) []) l.tail else none)
  else if isP Gp l then ok (.mk 32 [] 1 (Hy l) []) l.tail
  else if isP Yv l then ok (.mk 32 [] 0 (Hy l) []) l.tail
  else if isP Zz l then andThen (Xg f 1 false l.tail) fun x k=>andThen (Eb e Q4 k) fun _ m=>ok x m
  else if isP U6 l then andThen (Qe4 f l.tail) fun sg k=>andThen (Ut f k) fun b m=>ok (.mk 38 [] 0 (Hy l) (sg++[b])) m
  else andThen (H8 e l) fun s k=>
   if s.1==Jz&&isP Zz k then andThen (Nk f k.tail) fun t m=>andThen (Vw e Zu m) fun _ m=>andThen (Xg f 1 false m) fun x m=>andThen (Eb e Q4 m) fun _ m=>ok (.mk 40 [] 0 (Hy l) [t,x]) m
   else if !hd&&isP wCu k then andThen (Yk e wUc false (Xg f 1 false) f k.tail) fun xs m=>ok (.mk 37 s.1 0 (Hy l) xs) m
   else ok (.mk 30 s.1 0 (Hy l) []) k
end
def Yd (f:Nat)(p:Nat)(l:List Tok):R Tr:=andThen (H8 e l) fun s k=>
 andThen (if isP wSq k then Yk e wQs true (Fq e) f k.tail else ok [] k) fun tp m=>andThen (Qe4 e f m) fun sg m=>andThen (Ut e f m) fun b m=>ok (.mk 3 s.1 0 p (.mk 4 [] 0 (atP e k) tp::(sg++[b]))) m
def Vx:Nat→List Tr→List Tok→R (List Tr)
 |0,_,_=>none
 |f+1,acc,l=>if isP wUc l then ok acc l.tail else andThen (Jj e f l) fun x k=>andThen (J3 e wUc k) fun _ m=>Vx f (acc++[x]) m
def Uo (f:Nat)(p:Nat)(l:List Tok):R Tr:=andThen (H8 e l) fun s k=>andThen (Vw e Qkm k) fun _ m=>andThen (Vw e wCu m) fun _ m=>andThen (Vx e f [] m) fun xs m=>ok (.mk 2 s.1 0 p xs) m
def Xh:Nat→List Tr→List Tok→R (List Tr)
 |0,_,_=>none
 |f+1,acc,l=>match l with
  | []=>ok acc []
  |t::l'=>andThen (if isP Qa9 (t::l') then Uo e f (atP e (t::l')) l' else if isP U6 (t::l') then Yd e f (atP e (t::l')) l' else bad (atP e (t::l'))) fun x k=>
   match k with
   | []=>Xh f (acc++[x]) []
   |u::k'=>andThen (J3 e D6 (u::k')) fun _ m=>Xh f (acc++[x]) m
def Hr (f:Nat)(l:List Tok):R Tr:=andThen (Xh e f [] l) fun xs k=>ok (.mk 1 [] 0 0 xs) k
end
mutual
def Xc:Tr→Nat
 | .mk _ _ _ _ l=>1+Zk l
def Zk:List Tr→Nat
 | []=>0
 |t::l=>Xc t+Zk l
end
mutual
def Zm:Tr→Nat
 | .mk _ _ _ _ l=>Ti l
def Ti:List Tr→Nat
 | []=>0
 |t::l=>max (1+Zm t) (Ti l)
end
end Prs
end
end Go.Proofs.YtcbkeecabcbogaaGreatDoor
