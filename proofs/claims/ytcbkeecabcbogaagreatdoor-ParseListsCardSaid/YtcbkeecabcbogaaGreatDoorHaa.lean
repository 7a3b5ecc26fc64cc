/- Plain functions for the tokens of a text: characters, names, -/
import Derived.Laws.RangeAny
import Derived.Lib.IndexMore
import Derived.Lib.Hide
import Derived.KernelRfl
import Derived.Lib.Hide
set_option linter.unusedSimpArgs false
set_option linter.unusedVariables false
namespace Go.Proofs.YtcbkeecabcbogaaGreatDoor
theorem Dh {p : Prop} (h : p) : Go.RowKit.Hid p := Go.Lib.hid h
theorem Dd {p : Prop} (h : p := by decide) : p := h
theorem Dk {p : Prop} (h : p := by kernel_rfl) : p := h
theorem Dw {p : Prop} (h : p := by omega) : p := h
theorem Ds {p : Prop} (h : p := by simp) : p := h
theorem Da {p : Prop} (h : p := by assumption) : p := h
theorem Dx {p : Prop} (h : p := by intro _ hx; cases hx) : p := h
section
def Vu (l:List UInt8):Nat×Nat:=Utf8.decode ⟨l.toArray⟩ 0
theorem dec_drop (l:List UInt8)(i:Nat)(h:i<l.length):Utf8.decode ⟨l.toArray⟩ i=Vu (l.drop i):=by
 have g:∀ k,(⟨l.toArray⟩:ByteArray).get! (i+k)=(⟨(l.drop i).toArray⟩:ByteArray).get! (0+k):=by
  intro k;show l.toArray[i+k]! = (l.drop i).toArray[0+k]!
  simp[getElem!_def]
 have c:∀ k,(i+k<(⟨l.toArray⟩:ByteArray).size)=(0+k<(⟨(l.drop i).toArray⟩:ByteArray).size):=by
  intro k;show (i+k<l.toArray.size)=(0+k<(l.drop i).toArray.size)
  simp;omega
 unfold Vu Utf8.decode;simp only[g,c]
theorem Qj7 (b:UInt8)(l:List UInt8):((⟨(b::l).toArray⟩:ByteArray).get! (0+0))=b:=by
 show (b::l).toArray[0+0]! = b
 simp
theorem Tq (b:UInt8)(l:List UInt8)(h:b.toNat<128):Vu (b::l)=(b.toNat,1):=by
 unfold Vu Utf8.decode;simp only[Qj7,h,if_true]
theorem dec_high (b:UInt8)(l:List UInt8)(h:128≤b.toNat):128≤(Vu (b::l)).1∧1≤(Vu (b::l)).2:=by
 have hn:¬ b.toNat<128:=by omega
 unfold Vu;simp only[Utf8.decode,Qj7,hn,if_false];repeat' split
 all_goals simp_all [Utf8.runeError]
 all_goals omega
theorem Di (b:UInt8)(l:List UInt8):1≤(Vu (b::l)).2:=by
 by_cases h:b.toNat<128
 ·rw[Tq b l h];exact Nat.le_refl _
 ·exact(dec_high b l Dw).2
theorem Pq (b:UInt8)(l:List UInt8):(Vu (b::l)).2≤(b::l).length:=by
 unfold Vu;have hs:(⟨(b::l).toArray⟩:ByteArray).size=l.length+1:=by show (b::l).toArray.size=_;simp
 simp only[Utf8.decode,hs];repeat' split
 all_goals simp_all
 all_goals omega
def isLet (r:Int):Bool:=(decide (65≤r)&&decide (r≤90))||(decide (97≤r)&&decide (r≤122))||r==95||(decide (192≤r)&&decide (r≤591)&&r != 215&&r != 247)
def Hg (r:Int):Bool:=decide (48≤r)&&decide (r≤57)
def Qbz (r:Int):Bool:=isLet r||Hg r
theorem Qkf (b:UInt8)(l:List UInt8):(b::l).drop (Vu (b::l)).2=l.drop ((Vu (b::l)).2-1):=by
 have h:=Di b l;obtain⟨k,hk⟩:∃ k,(Vu (b::l)).2=k+1:=⟨(Vu (b::l)).2-1,by omega⟩;rw[hk];rfl
def Y9:List UInt8→Nat
 | []=>0
 |b::l=>if Qbz (Vu (b::l)).1 then (Vu (b::l)).2+Y9 (l.drop ((Vu (b::l)).2-1)) else 0
termination_by l=>l.length
decreasing_by simp;omega
theorem G9:Y9 []=0:=by rw[Y9]
theorem Hz (b:UInt8)(l:List UInt8)(h:Qbz (Vu (b::l)).1=true):Y9 (b::l)=(Vu (b::l)).2+Y9 ((b::l).drop (Vu (b::l)).2):=by
 rw[Y9,if_pos h,Qkf]
theorem Nj (b:UInt8)(l:List UInt8)(h:Qbz (Vu (b::l)).1=false):Y9 (b::l)=0:=by
 rw[Y9,h];rfl
theorem Qof:∀ (n:Nat) (l:List UInt8),l.length≤n→Y9 l≤l.length
 |_,[],_=>by rw[G9];exact Nat.le_refl _
 |0,b::l,h=>by simp at h
 |n+1,b::l,h=>by
  cases hr:Qbz (Vu (b::l)).1
  ·rw[Nj b l hr];exact Nat.zero_le _
  ·have hp:=Di b l;have hf:=Pq b l;rw[Hz b l hr];have ih:=Qof n ((b::l).drop (Vu (b::l)).2) (by simp at h ⊢;omega);simp at ih hf ⊢;omega
theorem Qa7 (l:List UInt8):Y9 l≤l.length:=Qof _ l (Nat.le_refl _)
theorem runL_at (l:List UInt8)(p:Nat)(h:p<l.length):Qbz (Vu (l.drop p)).1=true→Y9 (l.drop p)=(Vu (l.drop p)).2+Y9 (l.drop (p+(Vu (l.drop p)).2)):=by
 intro hr;obtain⟨b,m,hm⟩:∃ b m,l.drop p=b::m:=by
  cases hd:l.drop p with
  |nil=>simp at hd;omega
  |cons b m=>exact⟨b,m,rfl⟩
 rw[hm] at hr;rw[hm,Hz b m hr,←hm,List.drop_drop]
def broken (l:List UInt8):Bool:=(Vu l).1==65533&&decide ((Vu l).2<2)
def Vd:List UInt8→Nat
 | []=>0
 |b::l=>if broken (b::l) then 0 else (Vu (b::l)).2+Vd (l.drop ((Vu (b::l)).2-1))
termination_by l=>l.length
decreasing_by simp;omega
theorem Gp:Vd []=0:=by rw[Vd]
theorem Qax (b:UInt8)(l:List UInt8)(h:broken (b::l)=true):Vd (b::l)=0:=by rw[Vd,if_pos h]
theorem Jv (b:UInt8)(l:List UInt8)(h:broken (b::l)=false):Vd (b::l)=(Vu (b::l)).2+Vd ((b::l).drop (Vu (b::l)).2):=by
 rw[Vd,h,Qkf];rfl
theorem Qfs:∀ (n:Nat) (l:List UInt8),l.length≤n→Vd l≤l.length
 |_,[],_=>by rw[Gp];exact Nat.le_refl _
 |0,b::l,h=>by simp at h
 |n+1,b::l,h=>by
  cases hr:broken (b::l)
  ·have hp:=Di b l;have hf:=Pq b l;rw[Jv b l hr];have ih:=Qfs n ((b::l).drop (Vu (b::l)).2) (by simp at h ⊢;omega);simp at ih hf ⊢;omega
  ·rw[Qax b l hr];exact Nat.zero_le _
theorem Qft (l:List UInt8):Vd l≤l.length:=Qfs _ l (Nat.le_refl _)
def Td:List UInt8:=[32,102,117,110,99,32,116,121,112,101,32,115,116,114,117,99,116,32,105,102,32,101,108,115,101,32,102,111,114,32,98,114,101,97,107,32,99,111,110,116,105,110,117,101,32,114,101,116,117,114,110,32,103,111,32,100,101,102,101,114,32,115,101,108,101,99,116,32,99,97,115,101,32,100,101,102,97,117,108,116,32,99,104,97,110,32,118,97,114,32,116,114,117,101,32,102,97,108,115,101,32]
def Qea:List (List UInt8):=[[102,117,110,99],[116,121,112,101],[115,116,114,117,99,116],[105,102],[101,108,115,101],[102,111,114],[98,114,101,97,107],[99,111,110,116,105,110,117,101],[114,101,116,117,114,110],[103,111],[100,101,102,101,114],[115,101,108,101,99,116],[99,97,115,101],[100,101,102,97,117,108,116],[99,104,97,110],[118,97,114],[116,114,117,101],[102,97,108,115,101]]
def isWord (l:List UInt8):Bool:=Qea.contains l
theorem Qh9 (l m:List UInt8)(h:32 ∉ l)(hp:(l++[32]).isPrefixOf m=true):l=m.takeWhile (· != 32):=by
 rw[List.isPrefixOf_iff_prefix] at hp;obtain⟨t,rfl⟩:=hp;rw[List.append_assoc,List.takeWhile_append_of_pos (fun x hx=>by simp;rintro rfl;exact h hx)];simp
theorem words_in:∀ l∈Qea,Lib.contains Td ([32]++l++[32])=true:=by decide +kernel
theorem words_at:∀ j,j<120→Td[j]? = some 32→isWord ((Td.drop (j+1)).takeWhile (· != 32))=true∨(Td.drop (j+1)).takeWhile (· != 32)=[]:=by decide +kernel
theorem word_of (l:List UInt8)(h1:l≠[])(h2:32 ∉ l):Lib.contains Td ([32]++l++[32])=isWord l:=by
 cases hw:isWord l
 ·refine Bool.eq_false_iff.2 fun hc=>?_
  have hi:Lib.index Td ([32]++l++[32]) ≠ -1:=by
   unfold Lib.contains at hc;simp only[decide_eq_true_eq] at hc;omega
  have hex:∃ j,j≤Td.length∧Lib.occAt Td ([32]++l++[32]) j=true:=by
   refine Classical.byContradiction fun hn=>hi (Lib.index_none fun j hj=>?_)
   cases ho:Lib.occAt Td ([32]++l++[32]) j with
   |false=>rfl
   |true=>exact absurd ⟨j,hj,ho⟩ hn
  obtain⟨j,hj,ho⟩:=hex;have hl:Td.length≤119:=by decide
  have h0:Td[j]? = some 32:=Lib.occAt_head (t:=l++[32]) Ds ho;have hp:(l++[32]).isPrefixOf (Td.drop (j+1))=true:=by
   unfold Lib.occAt at ho;have hlt:j<Td.length:=by
    rcases Nat.lt_or_ge j Td.length with h|h
    ·exact h
    ·rw[List.getElem?_eq_none h] at h0;cases h0
   rw[List.drop_eq_getElem_cons hlt,show [32]++l++[32]=32::(l++[32]) by simp,List.isPrefixOf_cons_cons,Bool.and_eq_true] at ho;exact ho.2
  have he:=Qh9 l _ h2 hp;rcases words_at j Dw h0 with h|h
  ·rw[←he,hw] at h;cases h
  ·rw[←he] at h;exact h1 h
 ·exact words_in l (by simpa [isWord] using hw)
def Uh (hex:Bool)(c:UInt8):Option Nat:=
 if 48≤c.toNat∧c.toNat≤57 then some (c.toNat-48)
 else if hex∧97≤c.toNat∧c.toNat≤102 then some (c.toNat-87)
 else if hex∧65≤c.toNat∧c.toNat≤70 then some (c.toNat-55)
 else none
def Qc2 (hex:Bool):Nat:=if hex then 16 else 10
def Xy (hex:Bool)(n:Nat):List UInt8→Option Nat
 | []=>some n
 |c::l=>match Uh hex c with
  |some d=>Xy hex (n*Qc2 hex+d) l
  |none=>none
def Rq:List UInt8→Bool
 |48::120::_=>true
 |_=>false
def digitsOf (l:List UInt8):List UInt8:=if Rq l then l.drop 2 else l
def Jh:List UInt8→Bool
 |48::_::_=>true
 |_=>false
def Ej (l:List UInt8):Nat×Int:=
 if !Rq l&&Jh l then (0,4)
 else if digitsOf l=[] then (0,4)
 else match Xy (Rq l) 0 (digitsOf l) with
  |none=>(0,4)
  |some v=>if v<18446744073709551616 then (v,0) else (0,6)
structure Tok where
 kind:Int
 text:List UInt8
 num:Int
 place:Nat
def Z8:List (List UInt8):=[[60,60],[62,62],[38,94],[38,38],[124,124],[61,61],[33,61],[60,61],[62,61],[58,61],[60,45],[43],[45],[42],[47],[37],[38],[124],[94],[33],[60],[62],[61],[40],[41],[91],[93],[123],[125],[44],[46],[58],[59]]
def Lj (l:List UInt8):Option (List UInt8):=Z8.find? fun g=>g.isPrefixOf l
def Un (l:List UInt8)(at_:Nat):Tok×Nat×Int:=
 if isLet (Vu l).1 then
  if 64<Y9 l then (⟨1,l.take (Y9 l),0,at_⟩,Y9 l,6)
  else (⟨if isWord (l.take (Y9 l)) then 3 else 1,l.take (Y9 l),0,at_⟩,Y9 l,0)
 else if Hg (Vu l).1 then (⟨2,l.take (Y9 l),(Ej (l.take (Y9 l))).1,at_⟩,Y9 l,(Ej (l.take (Y9 l))).2)
 else match Lj l with
  |some g=>(⟨if g=[59] then 5 else 4,g,0,at_⟩,g.length,0)
  |none=>(⟨0,[],0,0⟩,0,4)
def Ky:List (List UInt8):=[[98,114,101,97,107],[99,111,110,116,105,110,117,101],[114,101,116,117,114,110],[116,114,117,101],[102,97,108,115,101],[41],[93],[125]]
def X3 (t:Tok):Bool:=t.kind==1||t.kind==2||Ky.contains t.text
def Zf (p:Nat):Tok:=⟨5,[],0,p⟩
def Uo (b:UInt8):Bool:=b==9||b==13||b==32
def Vh (l:List UInt8):Bool:=[47,47].isPrefixOf l
def Za (l:List UInt8):Nat:=(l.takeWhile (· != 10)).length
abbrev Qkq:=Except (Nat×Int) (List Tok)
def Cb (t:Tok):Qkq→Qkq
 | .ok l => .ok (t::l)
 | .error e => .error e
def lex (l:List UInt8)(p:Nat)(opn:Bool)(cnt:Nat):Qkq:=
 match l with
 | []=>if opn then (if 16384≤cnt then .error (p,6) else .ok [Zf p]) else .ok []
 |b::m=>
  if b==10 then
   if opn then (if 16384≤cnt then .error (p,6) else Cb (Zf p) (lex m (p+1) false (cnt+1)))
   else lex m (p+1) false cnt
  else if Uo b then lex m (p+1) opn cnt
  else if Vh (b::m) then lex (m.drop (Za (b::m)-1)) (p+Za (b::m)) opn cnt
  else
   let r:=Un (b::m) p
   if r.2.2≠0 then .error (p,r.2.2)
   else if 16384≤cnt then .error (p,6)
   else Cb r.1 (lex (m.drop (r.2.1-1)) (p+r.2.1) (X3 r.1) (cnt+1))
termination_by l.length
decreasing_by all_goals simp_all;try omega
def X9 (l:List UInt8):Qkq:=
 if 65536<l.length then .error (0,6)
 else if Vd l<l.length then .error (Vd l,3)
 else lex l 0 false 0
theorem Jf (p:Nat)(opn:Bool)(cnt:Nat):lex [] p opn cnt=if opn then (if 16384≤cnt then .error (p,6) else .ok [Zf p]) else .ok []:=by rw[lex]
theorem Kq (m:List UInt8)(p:Nat)(opn:Bool)(cnt:Nat):lex (10::m) p opn cnt=if opn then (if 16384≤cnt then .error (p,6) else Cb (Zf p) (lex m (p+1) false (cnt+1))) else lex m (p+1) false cnt:=by
 rw[lex];simp
theorem Yv (b:UInt8)(m:List UInt8)(p:Nat)(opn:Bool)(cnt:Nat)(h:Uo b=true):lex (b::m) p opn cnt=lex m (p+1) opn cnt:=by
 have hb:(b==10)=false:=by
  unfold Uo at h;simp at h ⊢;rintro rfl;simp at h
 rw[lex,hb,h];simp
theorem Ro (b:UInt8)(m:List UInt8)(h:b≠10):1≤Za (b::m):=by
 unfold Za;simp[List.takeWhile_cons,h]
theorem Qke {α:Type}(b:α)(m:List α)(k:Nat)(h:1≤k):m.drop (k-1)=(b::m).drop k:=by
 obtain⟨j,rfl⟩:∃ j,k=j+1:=⟨k-1,by omega⟩;rfl
theorem Y6 (l:List UInt8)(p:Nat)(opn:Bool)(cnt:Nat)(h:Vh l=true):lex l p opn cnt=lex (l.drop (Za l)) (p+Za l) opn cnt:=by
 cases l with
 |nil=>simp[Vh] at h
 |cons b m=>
  have hb:b=47:=by simp[Vh] at h;exact h.1.symm
  have hb1:(b==10)=false:=by subst hb;decide
  have hb2:Uo b=false:=by subst hb;decide
  rw[lex,hb1,hb2,h,Qke b m _ (Ro b m (by subst hb;decide))];simp
def starts (l:List UInt8):Bool:=match l with
 | []=>false
 |b::_ => !(b==10) && !Uo b && !Vh l
theorem one_pos (l:List UInt8)(p:Nat)(hl:l≠[])(h:(Un l p).2.2=0):1≤(Un l p).2.1:=by
 obtain⟨b,m,rfl⟩:∃ b m,l=b::m:=by cases l with|nil=>exact absurd rfl hl|cons b m=>exact⟨b,m,rfl⟩
 have hp:=Di b m;unfold Un at h ⊢;cases hL:isLet (Vu (b::m)).1
 ·cases hD:Hg (Vu (b::m)).1
  ·simp only[hL,hD,Bool.false_eq_true,if_false] at h ⊢;split
   ·rename_i g hg;unfold Lj at hg
    have:=List.mem_of_find?_eq_some hg;show 1≤g.length
    have hall:∀ g∈Z8,1≤g.length:=by decide
    exact hall g this
   ·rename_i hg;rw[hg] at h;simp at h
  ·simp only[hL,hD,Bool.false_eq_true,if_false,if_true];have:Qbz (Vu (b::m)).1=true:=by simp[Qbz,hD]
   rw[Hz b m this];omega
 ·simp only[hL,if_true];have:Qbz (Vu (b::m)).1=true:=by simp[Qbz,hL]
  rw[Hz b m this];split <;> (simp only[];omega)
theorem He (l:List UInt8)(p:Nat)(opn:Bool)(cnt:Nat)(h:starts l=true):
  lex l p opn cnt=if (Un l p).2.2≠0 then .error (p,(Un l p).2.2) else if 16384≤cnt then .error (p,6) else Cb (Un l p).1 (lex (l.drop (Un l p).2.1) (p+(Un l p).2.1) (X3 (Un l p).1) (cnt+1)):=by
 cases l with
 |nil=>cases h
 |cons b m=>
  simp only[starts,Bool.and_eq_true,Bool.not_eq_true'] at h;rw[lex,h.1.1,h.1.2,h.2];simp only[Bool.false_eq_true,if_false];by_cases he:(Un (b::m) p).2.2=0
  ·rw[Qke b m _ (one_pos (b::m) p Ds he)]
  ·simp only[ne_eq,he,not_false_eq_true,if_true]
end
section
namespace Prs
inductive Tr where
 |mk (kind:Nat) (text:List UInt8) (num:Nat) (place:Nat) (kids:List Tr)
def Tr.kind:Tr→Nat
 | .mk k _ _ _ _=>k
def Tr.kids:Tr→List Tr
 | .mk _ _ _ _ l=>l
abbrev R (α:Type):=Option (Except Nat (α×List Tok))
def ok {α:Type}(x:α)(l:List Tok):R α:=some (.ok (x,l))
def bad {α:Type}(p:Nat):R α:=some (.error p)
def andThen {α β:Type}(r:R α)(f:α→List Tok→R β):R β:=match r with
 |none=>none
 |some (.error p)=>some (.error p)
 |some (.ok (x,l))=>f x l
def Zn:List UInt8:=[44]
def Zk:List UInt8:=[40]
def Qw:List UInt8:=[41]
def wSq:List UInt8:=[91]
def wQs:List UInt8:=[93]
def wCu:List UInt8:=[123]
def wUc:List UInt8:=[125]
def wDot:List UInt8:=[46]
def Qnh:List UInt8:=[58]
def Kr:List UInt8:=[58,61]
def wEq:List UInt8:=[61]
def Xp:List UInt8:=[60,45]
def Dv:List UInt8:=[99,104,97,110]
def Yg:List UInt8:=[102,117,110,99]
def Qhx:List UInt8:=[101,108,115,101]
def wIf:List UInt8:=[105,102]
def Qcs:List UInt8:=[102,111,114]
def Ac:List UInt8:=[118,97,114]
def Y1:List UInt8:=[98,114,101,97,107]
def Zx:List UInt8:=[99,111,110,116,105,110,117,101]
def Ye:List UInt8:=[114,101,116,117,114,110]
def wGo:List UInt8:=[103,111]
def Dq:List UInt8:=[100,101,102,101,114]
def Ee:List UInt8:=[115,101,108,101,99,116]
def Ul:List UInt8:=[99,97,115,101]
def Xf:List UInt8:=[100,101,102,97,117,108,116]
def Jp:List UInt8:=[116,114,117,101]
def Tj:List UInt8:=[102,97,108,115,101]
def Yy:List UInt8:=[109,97,107,101]
def Jj:List UInt8:=[45]
def Qjf:List UInt8:=[94]
def Qmn:List UInt8:=[33]
def opsP:List (List (List UInt8)):=[[[42],[47],[37],[60,60],[62,62],[38],[38,94]],[[43],[45],[124],[94]],[[61,61],[33,61],[60],[60,61],[62],[62,61]],[[38,38]],[[124,124]]]
def Fg (s:List UInt8):List (List (List UInt8))→Nat
 | []=>0
 |l::ls=>if l.contains s then ls.length+1 else Fg s ls
def Vg (s:List UInt8):Nat:=Fg s opsP
def Xg:List Tok→Int
 | []=>0
 |t::_=>t.kind
def Vm:List Tok→List UInt8
 | []=>[]
 |t::_=>t.text
def Kt:List Tok→Nat
 | []=>0
 |t::_=>t.place
def Qou:List Tok→Nat
 | []=>0
 |t::_=>t.num.toNat
def Qbk:List Tok→Bool
 | []=>true
 |t::_=>decide (0≤t.num)
section
variable (e:Nat)
def atP:List Tok→Nat
 | []=>e
 |t::_=>t.place
def isP (w:List UInt8)(l:List Tok):Bool:=(Xg l==3||Xg l==4)&&Vm l==w
def Zq (w:List UInt8):List Tok→Bool
 |_::t::_=>t.kind==4&&t.text==w
 |_=>false
def Vl (w:List UInt8)(l:List Tok):R Nat:=if isP w l then ok (atP e l) l.tail else bad (atP e l)
def Rk (l:List Tok):R (List UInt8×Nat):=if Xg l==1 then ok (Vm l,Kt l) l.tail else bad (atP e l)
def Qa6 (w:List UInt8)(l:List Tok):R Unit:=if Xg l==5 then ok () l.tail else if isP w l then ok () l else bad (atP e l)
def A8 (w:List UInt8)(l:List Tok):R Nat:=Vl e w (if Xg l==5&&Zq w l then l.tail else l)
def Gn (l:List Tok):Bool:=Xg l==1||(isP wSq l||(isP Dv l||isP Yg l))
def Xl (shut:List UInt8)(one:List Tok→R Tr):Nat→List Tr→List Tok→R (List Tr)
 |0,_,_=>none
 |f+1,acc,l=>andThen (one l) fun x l=>if isP Zn l then Xl shut one f (acc++[x]) l.tail else andThen (A8 e shut l) fun _ l=>ok (acc++[x]) l
def U7 (shut:List UInt8)(first:Bool)(one:List Tok→R Tr)(f:Nat)(l:List Tok):R (List Tr):=if !first&&isP shut l then ok [] l.tail else Xl e shut one f [] l
mutual
def D7:Nat→List Tok→R Tr
 |0,_=>none
 |f+1,l=>
  if isP wSq l then andThen (Vl e wQs l.tail) fun _ k=>andThen (D7 f k) fun t m=>ok (.mk 11 [] 0 (atP e l) [t]) m
  else if isP Dv l then andThen (D7 f l.tail) fun t m=>ok (.mk 12 [] 0 (atP e l) [t]) m
  else if isP Yg l then andThen (Vl e Zk l.tail) fun _ k=>andThen (U7 e Qw false (D7 f) f k) fun ts m=>
   if Gn m then andThen (D7 f m) fun t q=>ok (.mk 13 [] 1 (atP e l) (ts++[t])) q else ok (.mk 13 [] 0 (atP e l) ts) m
  else andThen (Rk e l) fun s k=>ok (.mk 10 s.1 0 (atP e l) []) k
def Jk:Nat→List Tok→R Tr
 |0,_=>none
 |f+1,l=>andThen (Rk e l) fun s k=>andThen (D7 f k) fun t m=>ok (.mk 5 s.1 0 s.2 [t]) m
def Qfn:Nat→List Tok→R (List Tr)
 |0,_=>none
 |f+1,l=>andThen (Vl e Zk l) fun p k=>andThen (U7 e Qw false (Jk f) f k) fun ps m=>
  if Gn m then andThen (D7 f m) fun t q=>ok [.mk 6 [] 0 p ps,.mk 7 [] 0 (atP e m) [t]] q else ok [.mk 6 [] 0 p ps,.mk 7 [] 0 (atP e m) []] m
def U5:Nat→List Tok→R Tr
 |0,_=>none
 |f+1,l=>andThen (Vl e wCu l) fun p k=>andThen (Vf f [] k) fun xs m=>ok (.mk 20 [] 0 p xs) m
def Vf:Nat→List Tr→List Tok→R (List Tr)
 |0,_,_=>none
 |f+1,acc,l=>if isP wUc l then ok acc l.tail else andThen (Gg f false l) fun x k=>andThen (Qa6 e wUc k) fun _ m=>Vf f (acc++[x]) m
def U8:Nat→Nat→List Tok→R Tr
 |0,_,_=>none
 |f+1,p,l=>andThen (Xc f 1 true l) fun h k=>andThen (U5 f k) fun b m=>
  if isP Qhx m then (if isP wIf m.tail then andThen (U8 f (atP e m.tail) m.tail.tail) fun x q=>ok (.mk 25 [] 0 p [h,b,x]) q
   else andThen (U5 f m.tail) fun x q=>ok (.mk 25 [] 0 p [h,b,x]) q)
  else ok (.mk 25 [] 0 p [h,b]) m
def Gg:Nat→Bool→List Tok→R Tr
 |0,_,_=>none
 |f+1,hd,l=>
  if isP wCu l then U5 f l
  else if isP Ac l then andThen (Rk e l.tail) fun s k=>andThen (D7 f k) fun t m=>ok (.mk 22 s.1 0 (atP e l) [t]) m
  else if isP wIf l then U8 f (atP e l) l.tail
  else if isP Qcs l then andThen (Xc f 1 true l.tail) fun h k=>andThen (U5 f k) fun b m=>ok (.mk 26 [] 0 (atP e l) [h,b]) m
  else if isP Y1 l then ok (.mk 27 [] 0 (atP e l) []) l.tail
  else if isP Zx l then ok (.mk 27 [] 1 (atP e l) []) l.tail
  else if isP Ye l then (if !(Xg l.tail==5) && !(isP wUc l.tail) then andThen (Xc f 1 hd l.tail) fun x k=>ok (.mk 28 [] 0 (atP e l) [x]) k else ok (.mk 28 [] 0 (atP e l) []) l.tail)
  else if isP wGo l||isP Dq l then andThen (Xc f 1 hd l.tail) fun c k=>if c.kind==34 then ok (.mk 29 [] (if isP wGo l then 0 else 1) (atP e l) [c]) k else bad (atP e l.tail)
  else if isP Ee l then Zp f (atP e l) l.tail
  else Ym f hd l
def Ym:Nat→Bool→List Tok→R Tr
 |0,_,_=>none
 |f+1,hd,l=>
  if Xg l==1&&Zq Kr l then andThen (Rk e l) fun s k=>andThen (Vl e Kr k) fun _ m=>andThen (Xc f 1 hd m) fun x q=>ok (.mk 21 s.1 0 (atP e l) [x]) q
  else andThen (Xc f 1 hd l) fun x k=>
   if isP wEq k then andThen (Xc f 1 hd k.tail) fun y m=>if x.kind==30||(x.kind==35||x.kind==36) then ok (.mk 23 [] 0 (atP e l) [x,y]) m else bad (atP e l)
   else if isP Xp k then andThen (Xc f 1 hd k.tail) fun y m=>ok (.mk 41 [] 0 (atP e k) [x,y]) m
   else if x.kind==34||x.kind==39 then ok (.mk 24 [] 0 (atP e l) [x]) k else bad (atP e l)
def Jg:Nat→Bool→List Tok→R Tr
 |0,_,_=>none
 |f+1,hd,l=>andThen (Vl e Qnh l) fun p k=>andThen (Ut f hd [] k) fun xs m=>ok (.mk 20 [] 0 p xs) m
def Ut:Nat→Bool→List Tr→List Tok→R (List Tr)
 |0,_,_,_=>none
 |f+1,hd,acc,l=>if isP Ul l||(isP Xf l||isP wUc l) then ok acc l else andThen (Gg f hd l) fun x k=>
  if Xg k==5 then Ut f hd (acc++[x]) k.tail else if isP wUc k then Ut f hd (acc++[x]) k else bad (atP e k)
def Vs:Nat→Bool→Nat→List Tok→R (Tr×Nat)
 |0,_,_,_=>none
 |f+1,hd,d,l=>
  if isP Xf l then (if 0<d then bad (atP e l) else andThen (Jg f hd l.tail) fun b k=>ok (.mk 45 [] 0 (atP e l) [b],d+1) k)
  else andThen (Vl e Ul l) fun _ k=>
   if Xg k==1&&Zq Kr k then andThen (Rk e k) fun s m=>andThen (Vl e Kr m) fun _ m=>andThen (Vl e Xp m) fun _ m=>andThen (Zg f hd m) fun u m=>andThen (Jg f hd m) fun b m=>ok (.mk 43 s.1 0 (atP e l) [u,b],d) m
   else andThen (Xc f 1 hd k) fun x m=>
    if x.kind==39 && !(isP Xp m) then (match x.kids with
     | []=>none
     |t::_=>andThen (Jg f hd m) fun b m=>ok (.mk 43 [] 0 (atP e l) [t,b],d) m)
    else andThen (Vl e Xp m) fun _ m=>andThen (Xc f 1 hd m) fun y m=>andThen (Jg f hd m) fun b m=>ok (.mk 44 [] 0 (atP e l) [x,y,b],d) m
def Zp:Nat→Nat→List Tok→R Tr
 |0,_,_=>none
 |f+1,p,l=>andThen (Vl e wCu l) fun _ k=>andThen (Yn f [] 0 k) fun xs m=>ok (.mk 42 [] 0 p xs) m
def Yn:Nat→List Tr→Nat→List Tok→R (List Tr)
 |0,_,_,_=>none
 |f+1,acc,d,l=>if isP wUc l then ok acc l.tail else andThen (Vs f false d l) fun x k=>Yn f (acc++[x.1]) x.2 k
def Xc:Nat→Nat→Bool→List Tok→R Tr
 |0,_,_,_=>none
 |f+1,least,hd,l=>andThen (Zg f hd l) fun x k=>Xu f least hd x k
def Xu:Nat→Nat→Bool→Tr→List Tok→R Tr
 |0,_,_,_,_=>none
 |f+1,least,hd,x,l=>if (if Xg l==4 then Vg (Vm l) else 0)==0||decide ((if Xg l==4 then Vg (Vm l) else 0)<least) then ok x l
  else andThen (Xc f (Vg (Vm l)+1) hd l.tail) fun y k=>Xu f least hd (.mk 33 (Vm l) 0 (Kt l) [x,y]) k
def Zg:Nat→Bool→List Tok→R Tr
 |0,_,_=>none
 |f+1,hd,l=>
  if isP Jj l then andThen (Zg f hd l.tail) fun x k=>ok (.mk 33 Jj 0 (Kt l) [x]) k
  else if isP Qjf l then andThen (Zg f hd l.tail) fun x k=>ok (.mk 33 Qjf 0 (Kt l) [x]) k
  else if isP Qmn l then andThen (Zg f hd l.tail) fun x k=>ok (.mk 33 Qmn 0 (Kt l) [x]) k
  else if isP Xp l then andThen (Zg f hd l.tail) fun x k=>ok (.mk 39 [] 0 (Kt l) [x]) k
  else andThen (Zw f hd l) fun x k=>Vp f hd x k
def Vp:Nat→Bool→Tr→List Tok→R Tr
 |0,_,_,_=>none
 |f+1,hd,x,l=>
  if isP Zk l then andThen (U7 e Qw false (Xc f 1 false) f l.tail) fun xs k=>Vp f hd (.mk 34 [] 0 (atP e l) (x::xs)) k
  else if isP wDot l then andThen (Rk e l.tail) fun s k=>Vp f hd (.mk 35 s.1 0 (atP e l) [x]) k
  else if isP wSq l then andThen (U7 e wQs true (Qhi f) f l.tail) fun xs k=>Vp f hd (.mk 36 [] 0 (atP e l) (x::xs)) k
  else ok x l
def Qhi:Nat→List Tok→R Tr
 |0,_=>none
 |f+1,l=>if isP wSq l||isP Dv l then D7 f l else Xc f 1 false l
def Zw:Nat→Bool→List Tok→R Tr
 |0,_,_=>none
 |f+1,hd,l=>
  if Xg l==2 then (if Qbk l then ok (.mk 31 [] (Qou l) (Kt l) []) l.tail else none)
  else if isP Jp l then ok (.mk 32 [] 1 (Kt l) []) l.tail
  else if isP Tj l then ok (.mk 32 [] 0 (Kt l) []) l.tail
  else if isP Zk l then andThen (Xc f 1 false l.tail) fun x k=>andThen (A8 e Qw k) fun _ m=>ok x m
  else if isP Yg l then andThen (Qfn f l.tail) fun sg k=>andThen (U5 f k) fun b m=>ok (.mk 38 [] 0 (Kt l) (sg++[b])) m
  else andThen (Rk e l) fun s k=>
   if s.1==Yy&&isP Zk k then andThen (D7 f k.tail) fun t m=>andThen (Vl e Zn m) fun _ m=>andThen (Xc f 1 false m) fun x m=>andThen (A8 e Qw m) fun _ m=>ok (.mk 40 [] 0 (Kt l) [t,x]) m
   else if !hd&&isP wCu k then andThen (U7 e wUc false (Xc f 1 false) f k.tail) fun xs m=>ok (.mk 37 s.1 0 (Kt l) xs) m
   else ok (.mk 30 s.1 0 (Kt l) []) k
end
end
mutual
def Xm:Tr→Nat
 | .mk _ _ _ _ l=>1+Vb l
def Vb:List Tr→Nat
 | []=>0
 |t::l=>Xm t+Vb l
end
mutual
def Ze:Tr→Nat
 | .mk _ _ _ _ l=>Tn l
def Tn:List Tr→Nat
 | []=>0
 |t::l=>max (1+Ze t) (Tn l)
end
end Prs
end
end Go.Proofs.YtcbkeecabcbogaaGreatDoor
