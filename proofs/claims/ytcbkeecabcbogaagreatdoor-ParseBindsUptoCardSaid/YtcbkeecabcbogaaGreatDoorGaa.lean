/- Plain functions for the tokens of a text: characters, names, words, numbers. No program in sight. Plain functions for the tokens of a text: numbers, signs, tokens. No program in sight. What package -/
import Derived.Laws.RangeAny
import Derived.Lib.IndexMore
import Derived.Lib.Hide
set_option linter.unusedSimpArgs false
set_option linter.unusedVariables false
namespace Go.Proofs.YtcbkeecabcbogaaGreatDoor
def decL (l:List UInt8):Nat×Nat:=Utf8.decode ⟨l.toArray⟩ 0
theorem dec_drop (l:List UInt8)(i:Nat)(h:i<l.length):Utf8.decode ⟨l.toArray⟩ i=decL (l.drop i):=by
 have g:∀ k,(⟨l.toArray⟩:ByteArray).get! (i+k)=(⟨(l.drop i).toArray⟩:ByteArray).get! (0+k):=by
  intro k
  show l.toArray[i+k]! = (l.drop i).toArray[0+k]!
  simp[getElem!_def]
 have c:∀ k,(i+k<(⟨l.toArray⟩:ByteArray).size)=(0+k<(⟨(l.drop i).toArray⟩:ByteArray).size):=by
  intro k
  show (i+k<l.toArray.size)=(0+k<(l.drop i).toArray.size)
  simp
  omega
 unfold decL Utf8.decode
 simp only[g,c]
theorem get_zero (b:UInt8)(l:List UInt8):((⟨(b :: l).toArray⟩:ByteArray).get! (0+0))=b:=by
 show (b :: l).toArray[0+0]! = b
 simp
theorem dec_ascii (b:UInt8)(l:List UInt8)(h:b.toNat<128):decL (b :: l)=(b.toNat,1):=by
 unfold decL Utf8.decode
 simp only[get_zero,h,if_true]
theorem dec_high (b:UInt8)(l:List UInt8)(h:128≤b.toNat):128≤(decL (b :: l)).1∧1≤(decL (b :: l)).2:=by
 have hn:¬ b.toNat<128:=by omega
 unfold decL
 simp only[Utf8.decode,get_zero,hn,if_false]
 repeat' split
 all_goals simp_all [Utf8.runeError]
 all_goals omega
theorem dec_pos (b:UInt8)(l:List UInt8):1≤(decL (b :: l)).2:=by
 by_cases h:b.toNat<128
 ·rw[dec_ascii b l h];exact Nat.le_refl _
 ·exact(dec_high b l (by omega)).2
theorem dec_fits (b:UInt8)(l:List UInt8):(decL (b :: l)).2≤(b :: l).length:=by
 unfold decL
 have hs:(⟨(b :: l).toArray⟩:ByteArray).size=l.length+1:=by show (b :: l).toArray.size=_;simp
 simp only[Utf8.decode,hs]
 repeat' split
 all_goals simp_all
 all_goals omega
def isLet (r:Int):Bool:=(decide (65≤r)&&decide (r≤90))||(decide (97≤r)&&decide (r≤122))||r==95||(decide (192≤r)&&decide (r≤591)&&r != 215&&r != 247)
def isDig (r:Int):Bool:=decide (48≤r)&&decide (r≤57)
def isLD (r:Int):Bool:=isLet r||isDig r
theorem drop_dec (b:UInt8)(l:List UInt8):(b :: l).drop (decL (b :: l)).2=l.drop ((decL (b :: l)).2 - 1):=by
 have h:=dec_pos b l
 obtain⟨k,hk⟩:∃ k,(decL (b :: l)).2=k+1:=⟨(decL (b :: l)).2 - 1,by omega⟩
 rw[hk];rfl
def runL:List UInt8→Nat
 | []=>0
 |b :: l=>if isLD (decL (b :: l)).1 then (decL (b :: l)).2+runL (l.drop ((decL (b :: l)).2 - 1)) else 0
termination_by l=>l.length
decreasing_by simp;omega
theorem runL_nil:runL []=0:=by rw[runL]
theorem runL_yes (b:UInt8)(l:List UInt8)(h:isLD (decL (b :: l)).1=true):runL (b :: l)=(decL (b :: l)).2+runL ((b :: l).drop (decL (b :: l)).2):=by
 rw[runL,if_pos h,drop_dec]
theorem runL_no (b:UInt8)(l:List UInt8)(h:isLD (decL (b :: l)).1=false):runL (b :: l)=0:=by
 rw[runL,h];rfl
theorem runL_le:∀ (n:Nat) (l:List UInt8),l.length≤n→runL l≤l.length
 |_,[],_=>by rw[runL_nil];exact Nat.le_refl _
 |0,b :: l,h=>by simp at h
 |n+1,b :: l,h=>by
  cases hr:isLD (decL (b :: l)).1
  ·rw[runL_no b l hr];exact Nat.zero_le _
  ·have hp:=dec_pos b l
   have hf:=dec_fits b l
   rw[runL_yes b l hr]
   have ih:=runL_le n ((b :: l).drop (decL (b :: l)).2) (by simp at h ⊢;omega)
   simp at ih hf ⊢
   omega
theorem runL_bd (l:List UInt8):runL l≤l.length:=runL_le _ l (Nat.le_refl _)
theorem runL_at (l:List UInt8)(p:Nat)(h:p<l.length):isLD (decL (l.drop p)).1=true→runL (l.drop p)=(decL (l.drop p)).2+runL (l.drop (p+(decL (l.drop p)).2)):=by
 intro hr
 obtain⟨b,m,hm⟩:∃ b m,l.drop p=b :: m:=by
  cases hd:l.drop p with
  |nil=>simp at hd;omega
  |cons b m=>exact⟨b,m,rfl⟩
 rw[hm] at hr
 rw[hm,runL_yes b m hr,←hm,List.drop_drop]
def broken (l:List UInt8):Bool:=(decL l).1==65533&&decide ((decL l).2<2)
def wholeL:List UInt8→Nat
 | []=>0
 |b :: l=>if broken (b :: l) then 0 else (decL (b :: l)).2+wholeL (l.drop ((decL (b :: l)).2 - 1))
termination_by l=>l.length
decreasing_by simp;omega
theorem wholeL_nil:wholeL []=0:=by rw[wholeL]
theorem wholeL_no (b:UInt8)(l:List UInt8)(h:broken (b :: l)=true):wholeL (b :: l)=0:=by rw[wholeL,if_pos h]
theorem wholeL_yes (b:UInt8)(l:List UInt8)(h:broken (b :: l)=false):wholeL (b :: l)=(decL (b :: l)).2+wholeL ((b :: l).drop (decL (b :: l)).2):=by
 rw[wholeL,h,drop_dec];rfl
theorem wholeL_le:∀ (n:Nat) (l:List UInt8),l.length≤n→wholeL l≤l.length
 |_,[],_=>by rw[wholeL_nil];exact Nat.le_refl _
 |0,b :: l,h=>by simp at h
 |n+1,b :: l,h=>by
  cases hr:broken (b :: l)
  ·have hp:=dec_pos b l
   have hf:=dec_fits b l
   rw[wholeL_yes b l hr]
   have ih:=wholeL_le n ((b :: l).drop (decL (b :: l)).2) (by simp at h ⊢;omega)
   simp at ih hf ⊢
   omega
  ·rw[wholeL_no b l hr];exact Nat.zero_le _
theorem wholeL_bd (l:List UInt8):wholeL l≤l.length:=wholeL_le _ l (Nat.le_refl _)
def wordsStr:List UInt8:=[32,102,117,110,99,32,116,121,112,101,32,115,116,114,117,99,116,32,105,102,32,101,108,115,101,32,102,111,114,32,98,114,101,97,107,32,99,111,110,116,105,110,117,101,32,114,101,116,117,114,110,32,103,111,32,100,101,102,101,114,32,115,101,108,101,99,116,32,99,97,115,101,32,100,101,102,97,117,108,116,32,99,104,97,110,32,118,97,114,32,116,114,117,101,32,102,97,108,115,101,32]
def wordList:List (List UInt8):=[[102,117,110,99],[116,121,112,101],[115,116,114,117,99,116],[105,102],[101,108,115,101],[102,111,114],[98,114,101,97,107],[99,111,110,116,105,110,117,101],[114,101,116,117,114,110],[103,111],[100,101,102,101,114],[115,101,108,101,99,116],[99,97,115,101],[100,101,102,97,117,108,116],[99,104,97,110],[118,97,114],[116,114,117,101],[102,97,108,115,101]]
def isWord (l:List UInt8):Bool:=wordList.contains l
theorem prefix_take (l m:List UInt8)(h:32 ∉ l)(hp:(l++[32]).isPrefixOf m=true):l=m.takeWhile (· != 32):=by
 rw[List.isPrefixOf_iff_prefix] at hp
 obtain⟨t,rfl⟩:=hp
 rw[List.append_assoc,List.takeWhile_append_of_pos (fun x hx=>by simp;rintro rfl;exact h hx)]
 simp
theorem words_in:∀ l∈wordList,Lib.contains wordsStr ([32]++l++[32])=true:=by decide +kernel
theorem words_at:∀ j,j<120→wordsStr[j]? = some 32→isWord ((wordsStr.drop (j+1)).takeWhile (· != 32))=true∨(wordsStr.drop (j+1)).takeWhile (· != 32)=[]:=by decide +kernel
theorem word_of (l:List UInt8)(h1:l≠[])(h2:32 ∉ l):Lib.contains wordsStr ([32]++l++[32])=isWord l:=by
 cases hw:isWord l
 ·refine Bool.eq_false_iff.2 fun hc => ?_
  have hi:Lib.index wordsStr ([32]++l++[32]) ≠ -1:=by
   unfold Lib.contains at hc;simp only[decide_eq_true_eq] at hc;omega
  have hex:∃ j,j≤wordsStr.length∧Lib.occAt wordsStr ([32]++l++[32]) j=true:=by
   refine Classical.byContradiction fun hn=>hi (Lib.index_none fun j hj => ?_)
   cases ho:Lib.occAt wordsStr ([32]++l++[32]) j with
   |false=>rfl
   |true=>exact absurd ⟨j,hj,ho⟩ hn
  obtain⟨j,hj,ho⟩:=hex
  have hl:wordsStr.length≤119:=by decide
  have h0:wordsStr[j]? = some 32:=Lib.occAt_head (t:=l++[32]) (by simp) ho
  have hp:(l++[32]).isPrefixOf (wordsStr.drop (j+1))=true:=by
   unfold Lib.occAt at ho
   have hlt:j<wordsStr.length:=by
    rcases Nat.lt_or_ge j wordsStr.length with h|h
    ·exact h
    ·rw[List.getElem?_eq_none h] at h0;cases h0
   rw[List.drop_eq_getElem_cons hlt,show [32]++l++[32]=32 :: (l++[32]) by simp,List.isPrefixOf_cons_cons,Bool.and_eq_true] at ho
   exact ho.2
  have he:=prefix_take l _ h2 hp
  rcases words_at j (by omega) h0 with h|h
  ·rw[←he,hw] at h;cases h
  ·rw[←he] at h;exact h1 h
 ·exact words_in l (by simpa [isWord] using hw)
def digVal (hex:Bool)(c:UInt8):Option Nat:=
 if 48≤c.toNat∧c.toNat≤57 then some (c.toNat - 48)
 else if hex∧97≤c.toNat∧c.toNat≤102 then some (c.toNat - 87)
 else if hex∧65≤c.toNat∧c.toNat≤70 then some (c.toNat - 55)
 else none
def baseN (hex:Bool):Nat:=if hex then 16 else 10
def valFrom (hex:Bool)(n:Nat):List UInt8→Option Nat
 | []=>some n
 |c :: l=>match digVal hex c with
  |some d=>valFrom hex (n * baseN hex+d) l
  |none=>none
def isHex:List UInt8→Bool
 |48 :: 120 :: _=>true
 |_=>false
def digitsOf (l:List UInt8):List UInt8:=if isHex l then l.drop 2 else l
def badZero:List UInt8→Bool
 |48 :: _ :: _=>true
 |_=>false
def numP (l:List UInt8):Nat×Int:=
 if !isHex l&&badZero l then (0,4)
 else if digitsOf l=[] then (0,4)
 else match valFrom (isHex l) 0 (digitsOf l) with
  |none=>(0,4)
  |some v=>if v<18446744073709551616 then (v,0) else (0,6)
structure Tok where
 kind:Int
 text:List UInt8
 num:Int
 place:Nat
def signList:List (List UInt8):=[[60,60],[62,62],[38,94],[38,38],[124,124],[61,61],[33,61],[60,61],[62,61],[58,61],[60,45],[43],[45],[42],[47],[37],[38],[124],[94],[33],[60],[62],[61],[40],[41],[91],[93],[123],[125],[44],[46],[58],[59]]
def signOf (l:List UInt8):Option (List UInt8):=signList.find? fun g=>g.isPrefixOf l
def oneP (l:List UInt8)(at_:Nat):Tok×Nat×Int:=
 if isLet (decL l).1 then
  if 64<runL l then (⟨1,l.take (runL l),0,at_⟩,runL l,6)
  else (⟨if isWord (l.take (runL l)) then 3 else 1,l.take (runL l),0,at_⟩,runL l,0)
 else if isDig (decL l).1 then (⟨2,l.take (runL l),(numP (l.take (runL l))).1,at_⟩,runL l,(numP (l.take (runL l))).2)
 else match signOf l with
  |some g=>(⟨if g=[59] then 5 else 4,g,0,at_⟩,g.length,0)
  |none=>(⟨0,[],0,0⟩,0,4)
def enders:List (List UInt8):=[[98,114,101,97,107],[99,111,110,116,105,110,117,101],[114,101,116,117,114,110],[116,114,117,101],[102,97,108,115,101],[41],[93],[125]]
def closesP (t:Tok):Bool:=t.kind==1||t.kind==2||enders.contains t.text
def semiTok (p:Nat):Tok:=⟨5,[],0,p⟩
def isBlank (b:UInt8):Bool:=b==9||b==13||b==32
def isRemark (l:List UInt8):Bool:=[47,47].isPrefixOf l
def lineLen (l:List UInt8):Nat:=(l.takeWhile (· != 10)).length
abbrev LexR:=Except (Nat×Int) (List Tok)
def consR (t:Tok):LexR→LexR
 | .ok l => .ok (t :: l)
 | .error e => .error e
def lex (l:List UInt8)(p:Nat)(opn:Bool)(cnt:Nat):LexR:=
 match l with
 | []=>if opn then (if 16384≤cnt then .error (p,6) else .ok [semiTok p]) else .ok []
 |b :: m=>
  if b==10 then
   if opn then (if 16384≤cnt then .error (p,6) else consR (semiTok p) (lex m (p+1) false (cnt+1)))
   else lex m (p+1) false cnt
  else if isBlank b then lex m (p+1) opn cnt
  else if isRemark (b :: m) then lex (m.drop (lineLen (b :: m) - 1)) (p+lineLen (b :: m)) opn cnt
  else
   let r:=oneP (b :: m) p
   if r.2.2≠0 then .error (p,r.2.2)
   else if 16384≤cnt then .error (p,6)
   else consR r.1 (lex (m.drop (r.2.1 - 1)) (p+r.2.1) (closesP r.1) (cnt+1))
termination_by l.length
decreasing_by all_goals simp_all;try omega
def tokensP (l:List UInt8):LexR:=
 if 65536<l.length then .error (0,6)
 else if wholeL l<l.length then .error (wholeL l,3)
 else lex l 0 false 0
theorem lex_nil (p:Nat)(opn:Bool)(cnt:Nat):lex [] p opn cnt=if opn then (if 16384≤cnt then .error (p,6) else .ok [semiTok p]) else .ok []:=by rw[lex]
theorem lex_line (m:List UInt8)(p:Nat)(opn:Bool)(cnt:Nat):lex (10 :: m) p opn cnt=if opn then (if 16384≤cnt then .error (p,6) else consR (semiTok p) (lex m (p+1) false (cnt+1))) else lex m (p+1) false cnt:=by
 rw[lex];simp
theorem lex_blank (b:UInt8)(m:List UInt8)(p:Nat)(opn:Bool)(cnt:Nat)(h:isBlank b=true):lex (b :: m) p opn cnt=lex m (p+1) opn cnt:=by
 have hb:(b==10)=false:=by
  unfold isBlank at h;simp at h ⊢;rintro rfl;simp at h
 rw[lex,hb,h];simp
theorem lineLen_pos (b:UInt8)(m:List UInt8)(h:b≠10):1≤lineLen (b :: m):=by
 unfold lineLen;simp[List.takeWhile_cons,h]
theorem drop_pos {α:Type}(b:α)(m:List α)(k:Nat)(h:1≤k):m.drop (k - 1)=(b :: m).drop k:=by
 obtain⟨j,rfl⟩:∃ j,k=j+1:=⟨k - 1,by omega⟩
 rfl
theorem lex_remark (l:List UInt8)(p:Nat)(opn:Bool)(cnt:Nat)(h:isRemark l=true):lex l p opn cnt=lex (l.drop (lineLen l)) (p+lineLen l) opn cnt:=by
 cases l with
 |nil=>simp[isRemark] at h
 |cons b m=>
  have hb:b=47:=by simp[isRemark] at h;exact h.1.symm
  have hb1:(b==10)=false:=by subst hb;decide
  have hb2:isBlank b=false:=by subst hb;decide
  rw[lex,hb1,hb2,h,drop_pos b m _ (lineLen_pos b m (by subst hb;decide))]
  simp
def starts (l:List UInt8):Bool:=match l with
 | []=>false
 |b :: _ => !(b==10) && !isBlank b && !isRemark l
theorem one_pos (l:List UInt8)(p:Nat)(hl:l≠[])(h:(oneP l p).2.2=0):1≤(oneP l p).2.1:=by
 obtain⟨b,m,rfl⟩:∃ b m,l=b :: m:=by cases l with|nil=>exact absurd rfl hl|cons b m=>exact⟨b,m,rfl⟩
 have hp:=dec_pos b m
 unfold oneP at h ⊢
 cases hL:isLet (decL (b :: m)).1
 ·cases hD:isDig (decL (b :: m)).1
  ·simp only[hL,hD,Bool.false_eq_true,if_false] at h ⊢
   split
   ·rename_i g hg
    unfold signOf at hg
    have:=List.mem_of_find?_eq_some hg
    show 1≤g.length
    have hall:∀ g∈signList,1≤g.length:=by decide
    exact hall g this
   ·rename_i hg;rw[hg] at h;simp at h
  ·simp only[hL,hD,Bool.false_eq_true,if_false,if_true]
   have:isLD (decL (b :: m)).1=true:=by simp[isLD,hD]
   rw[runL_yes b m this];omega
 ·simp only[hL,if_true]
  have:isLD (decL (b :: m)).1=true:=by simp[isLD,hL]
  rw[runL_yes b m this];split <;> (simp only[];omega)
theorem lex_tok (l:List UInt8)(p:Nat)(opn:Bool)(cnt:Nat)(h:starts l=true):
  lex l p opn cnt=if (oneP l p).2.2≠0 then .error (p,(oneP l p).2.2) else if 16384≤cnt then .error (p,6) else consR (oneP l p).1 (lex (l.drop (oneP l p).2.1) (p+(oneP l p).2.1) (closesP (oneP l p).1) (cnt+1)):=by
 cases l with
 |nil=>cases h
 |cons b m=>
  simp only[starts,Bool.and_eq_true,Bool.not_eq_true'] at h
  rw[lex,h.1.1,h.1.2,h.2]
  simp only[Bool.false_eq_true,if_false]
  by_cases he:(oneP (b :: m) p).2.2=0
  ·rw[drop_pos b m _ (one_pos (b :: m) p (by simp) he)]
  ·simp only[ne_eq,he,not_false_eq_true,if_true]
end Go.Proofs.YtcbkeecabcbogaaGreatDoor
namespace Go.Proofs.YtcbkeecabcbogaaGreatDoor
namespace Prs
inductive Tr where
 |mk (kind:Nat) (text:List UInt8) (num:Nat) (place:Nat) (kids:List Tr)
def Tr.kind:Tr→Nat
 | .mk k _ _ _ _=>k
def Tr.kids:Tr→List Tr
 | .mk _ _ _ _ l=>l
abbrev R (α:Type):=Option (Except Nat (α×List Tok))
def ok {α:Type}(x:α)(l:List Tok):R α:=some (.ok (x,l))
def bad {α:Type}(p:Nat):R α:=some (.error p)
def andThen {α β:Type}(r:R α)(f:α→List Tok→R β):R β:=match r with
 |none=>none
 |some (.error p)=>some (.error p)
 |some (.ok (x,l))=>f x l
def wComma:List UInt8:=[44]
def wOpen:List UInt8:=[40]
def wShut:List UInt8:=[41]
def wSq:List UInt8:=[91]
def wQs:List UInt8:=[93]
def wCu:List UInt8:=[123]
def wUc:List UInt8:=[125]
def wDot:List UInt8:=[46]
def wColon:List UInt8:=[58]
def wDef:List UInt8:=[58,61]
def wEq:List UInt8:=[61]
def wArrow:List UInt8:=[60,45]
def wChan:List UInt8:=[99,104,97,110]
def wFunc:List UInt8:=[102,117,110,99]
def wElse:List UInt8:=[101,108,115,101]
def wIf:List UInt8:=[105,102]
def wFor:List UInt8:=[102,111,114]
def wVar:List UInt8:=[118,97,114]
def wBreak:List UInt8:=[98,114,101,97,107]
def wContinue:List UInt8:=[99,111,110,116,105,110,117,101]
def wReturn:List UInt8:=[114,101,116,117,114,110]
def wGo:List UInt8:=[103,111]
def wDefer:List UInt8:=[100,101,102,101,114]
def wSelect:List UInt8:=[115,101,108,101,99,116]
def wCase:List UInt8:=[99,97,115,101]
def wDefault:List UInt8:=[100,101,102,97,117,108,116]
def wTrue:List UInt8:=[116,114,117,101]
def wFalse:List UInt8:=[102,97,108,115,101]
def wMake:List UInt8:=[109,97,107,101]
def wMinus:List UInt8:=[45]
def wHat:List UInt8:=[94]
def wNot:List UInt8:=[33]
def opsP:List (List (List UInt8)):=[[[42],[47],[37],[60,60],[62,62],[38],[38,94]],[[43],[45],[124],[94]],[[61,61],[33,61],[60],[60,61],[62],[62,61]],[[38,38]],[[124,124]]]
def bindsFrom (s:List UInt8):List (List (List UInt8))→Nat
 | []=>0
 |l :: ls=>if l.contains s then ls.length+1 else bindsFrom s ls
def bindsP (s:List UInt8):Nat:=bindsFrom s opsP
def kindP:List Tok→Int
 | []=>0
 |t :: _=>t.kind
def textP:List Tok→List UInt8
 | []=>[]
 |t :: _=>t.text
def placeP:List Tok→Nat
 | []=>0
 |t :: _=>t.place
def numP':List Tok→Nat
 | []=>0
 |t :: _=>t.num.toNat
def numOKP:List Tok→Bool
 | []=>true
 |t :: _=>decide (0≤t.num)
section
variable (e:Nat)
def atP:List Tok→Nat
 | []=>e
 |t :: _=>t.place
def isP (w:List UInt8)(l:List Tok):Bool:=(kindP l==3||kindP l==4)&&textP l==w
def secondP (w:List UInt8):List Tok→Bool
 |_ :: t :: _=>t.kind==4&&t.text==w
 |_=>false
def wantP (w:List UInt8)(l:List Tok):R Nat:=if isP w l then ok (atP e l) l.tail else bad (atP e l)
def nameP (l:List Tok):R (List UInt8×Nat):=if kindP l==1 then ok (textP l,placeP l) l.tail else bad (atP e l)
def semiP (w:List UInt8)(l:List Tok):R Unit:=if kindP l==5 then ok () l.tail else if isP w l then ok () l else bad (atP e l)
def shutP (w:List UInt8)(l:List Tok):R Nat:=wantP e w (if kindP l==5&&secondP w l then l.tail else l)
def beginsT (l:List Tok):Bool:=kindP l==1||(isP wSq l||(isP wChan l||isP wFunc l))
def manyLoop (shut:List UInt8)(one:List Tok→R Tr):Nat→List Tr→List Tok→R (List Tr)
 |0,_,_=>none
 |f+1,acc,l=>andThen (one l) fun x l=>if isP wComma l then manyLoop shut one f (acc++[x]) l.tail else andThen (shutP e shut l) fun _ l=>ok (acc++[x]) l
def manyP (shut:List UInt8)(first:Bool)(one:List Tok→R Tr)(f:Nat)(l:List Tok):R (List Tr):=if !first&&isP shut l then ok [] l.tail else manyLoop e shut one f [] l
mutual
def typP:Nat→List Tok→R Tr
 |0,_=>none
 |f+1,l=>
  if isP wSq l then andThen (wantP e wQs l.tail) fun _ k=>andThen (typP f k) fun t m=>ok (.mk 11 [] 0 (atP e l) [t]) m
  else if isP wChan l then andThen (typP f l.tail) fun t m=>ok (.mk 12 [] 0 (atP e l) [t]) m
  else if isP wFunc l then andThen (wantP e wOpen l.tail) fun _ k=>andThen (manyP e wShut false (typP f) f k) fun ts m=>
   if beginsT m then andThen (typP f m) fun t q=>ok (.mk 13 [] 1 (atP e l) (ts++[t])) q else ok (.mk 13 [] 0 (atP e l) ts) m
  else andThen (nameP e l) fun s k=>ok (.mk 10 s.1 0 (atP e l) []) k
def paramP:Nat→List Tok→R Tr
 |0,_=>none
 |f+1,l=>andThen (nameP e l) fun s k=>andThen (typP f k) fun t m=>ok (.mk 5 s.1 0 s.2 [t]) m
def sigP:Nat→List Tok→R (List Tr)
 |0,_=>none
 |f+1,l=>andThen (wantP e wOpen l) fun p k=>andThen (manyP e wShut false (paramP f) f k) fun ps m=>
  if beginsT m then andThen (typP f m) fun t q=>ok [.mk 6 [] 0 p ps,.mk 7 [] 0 (atP e m) [t]] q else ok [.mk 6 [] 0 p ps,.mk 7 [] 0 (atP e m) []] m
def blockP:Nat→List Tok→R Tr
 |0,_=>none
 |f+1,l=>andThen (wantP e wCu l) fun p k=>andThen (blockLoop f [] k) fun xs m=>ok (.mk 20 [] 0 p xs) m
def blockLoop:Nat→List Tr→List Tok→R (List Tr)
 |0,_,_=>none
 |f+1,acc,l=>if isP wUc l then ok acc l.tail else andThen (stmtP f false l) fun x k=>andThen (semiP e wUc k) fun _ m=>blockLoop f (acc++[x]) m
def branchP:Nat→Nat→List Tok→R Tr
 |0,_,_=>none
 |f+1,p,l=>andThen (exprP f 1 true l) fun h k=>andThen (blockP f k) fun b m=>
  if isP wElse m then (if isP wIf m.tail then andThen (branchP f (atP e m.tail) m.tail.tail) fun x q=>ok (.mk 25 [] 0 p [h,b,x]) q
   else andThen (blockP f m.tail) fun x q=>ok (.mk 25 [] 0 p [h,b,x]) q)
  else ok (.mk 25 [] 0 p [h,b]) m
def stmtP:Nat→Bool→List Tok→R Tr
 |0,_,_=>none
 |f+1,hd,l=>
  if isP wCu l then blockP f l
  else if isP wVar l then andThen (nameP e l.tail) fun s k=>andThen (typP f k) fun t m=>ok (.mk 22 s.1 0 (atP e l) [t]) m
  else if isP wIf l then branchP f (atP e l) l.tail
  else if isP wFor l then andThen (exprP f 1 true l.tail) fun h k=>andThen (blockP f k) fun b m=>ok (.mk 26 [] 0 (atP e l) [h,b]) m
  else if isP wBreak l then ok (.mk 27 [] 0 (atP e l) []) l.tail
  else if isP wContinue l then ok (.mk 27 [] 1 (atP e l) []) l.tail
  else if isP wReturn l then (if !(kindP l.tail==5) && !(isP wUc l.tail) then andThen (exprP f 1 hd l.tail) fun x k=>ok (.mk 28 [] 0 (atP e l) [x]) k else ok (.mk 28 [] 0 (atP e l) []) l.tail)
  else if isP wGo l||isP wDefer l then andThen (exprP f 1 hd l.tail) fun c k=>if c.kind==34 then ok (.mk 29 [] (if isP wGo l then 0 else 1) (atP e l) [c]) k else bad (atP e l.tail)
  else if isP wSelect l then selectionP f (atP e l) l.tail
  else simpleP f hd l
def simpleP:Nat→Bool→List Tok→R Tr
 |0,_,_=>none
 |f+1,hd,l=>
  if kindP l==1&&secondP wDef l then andThen (nameP e l) fun s k=>andThen (wantP e wDef k) fun _ m=>andThen (exprP f 1 hd m) fun x q=>ok (.mk 21 s.1 0 (atP e l) [x]) q
  else andThen (exprP f 1 hd l) fun x k=>
   if isP wEq k then andThen (exprP f 1 hd k.tail) fun y m=>if x.kind==30||(x.kind==35||x.kind==36) then ok (.mk 23 [] 0 (atP e l) [x,y]) m else bad (atP e l)
   else if isP wArrow k then andThen (exprP f 1 hd k.tail) fun y m=>ok (.mk 41 [] 0 (atP e k) [x,y]) m
   else if x.kind==34||x.kind==39 then ok (.mk 24 [] 0 (atP e l) [x]) k else bad (atP e l)
def bodyP:Nat→Bool→List Tok→R Tr
 |0,_,_=>none
 |f+1,hd,l=>andThen (wantP e wColon l) fun p k=>andThen (bodyLoop f hd [] k) fun xs m=>ok (.mk 20 [] 0 p xs) m
def bodyLoop:Nat→Bool→List Tr→List Tok→R (List Tr)
 |0,_,_,_=>none
 |f+1,hd,acc,l=>if isP wCase l||(isP wDefault l||isP wUc l) then ok acc l else andThen (stmtP f hd l) fun x k=>
  if kindP k==5 then bodyLoop f hd (acc++[x]) k.tail else if isP wUc k then bodyLoop f hd (acc++[x]) k else bad (atP e k)
def oneCaseP:Nat→Bool→Nat→List Tok→R (Tr×Nat)
 |0,_,_,_=>none
 |f+1,hd,d,l=>
  if isP wDefault l then (if 0<d then bad (atP e l) else andThen (bodyP f hd l.tail) fun b k=>ok (.mk 45 [] 0 (atP e l) [b],d+1) k)
  else andThen (wantP e wCase l) fun _ k=>
   if kindP k==1&&secondP wDef k then andThen (nameP e k) fun s m=>andThen (wantP e wDef m) fun _ m=>andThen (wantP e wArrow m) fun _ m=>andThen (unaryP f hd m) fun u m=>andThen (bodyP f hd m) fun b m=>ok (.mk 43 s.1 0 (atP e l) [u,b],d) m
   else andThen (exprP f 1 hd k) fun x m=>
    if x.kind==39 && !(isP wArrow m) then (match x.kids with
     | []=>none
     |t :: _=>andThen (bodyP f hd m) fun b m=>ok (.mk 43 [] 0 (atP e l) [t,b],d) m)
    else andThen (wantP e wArrow m) fun _ m=>andThen (exprP f 1 hd m) fun y m=>andThen (bodyP f hd m) fun b m=>ok (.mk 44 [] 0 (atP e l) [x,y,b],d) m
def selectionP:Nat→Nat→List Tok→R Tr
 |0,_,_=>none
 |f+1,p,l=>andThen (wantP e wCu l) fun _ k=>andThen (selLoop f [] 0 k) fun xs m=>ok (.mk 42 [] 0 p xs) m
def selLoop:Nat→List Tr→Nat→List Tok→R (List Tr)
 |0,_,_,_=>none
 |f+1,acc,d,l=>if isP wUc l then ok acc l.tail else andThen (oneCaseP f false d l) fun x k=>selLoop f (acc++[x.1]) x.2 k
def exprP:Nat→Nat→Bool→List Tok→R Tr
 |0,_,_,_=>none
 |f+1,least,hd,l=>andThen (unaryP f hd l) fun x k=>exprLoop f least hd x k
def exprLoop:Nat→Nat→Bool→Tr→List Tok→R Tr
 |0,_,_,_,_=>none
 |f+1,least,hd,x,l=>if (if kindP l==4 then bindsP (textP l) else 0)==0||decide ((if kindP l==4 then bindsP (textP l) else 0)<least) then ok x l
  else andThen (exprP f (bindsP (textP l)+1) hd l.tail) fun y k=>exprLoop f least hd (.mk 33 (textP l) 0 (placeP l) [x,y]) k
def unaryP:Nat→Bool→List Tok→R Tr
 |0,_,_=>none
 |f+1,hd,l=>
  if isP wMinus l then andThen (unaryP f hd l.tail) fun x k=>ok (.mk 33 wMinus 0 (placeP l) [x]) k
  else if isP wHat l then andThen (unaryP f hd l.tail) fun x k=>ok (.mk 33 wHat 0 (placeP l) [x]) k
  else if isP wNot l then andThen (unaryP f hd l.tail) fun x k=>ok (.mk 33 wNot 0 (placeP l) [x]) k
  else if isP wArrow l then andThen (unaryP f hd l.tail) fun x k=>ok (.mk 39 [] 0 (placeP l) [x]) k
  else andThen (operandP f hd l) fun x k=>sufLoop f hd x k
def sufLoop:Nat→Bool→Tr→List Tok→R Tr
 |0,_,_,_=>none
 |f+1,hd,x,l=>
  if isP wOpen l then andThen (manyP e wShut false (exprP f 1 false) f l.tail) fun xs k=>sufLoop f hd (.mk 34 [] 0 (atP e l) (x :: xs)) k
  else if isP wDot l then andThen (nameP e l.tail) fun s k=>sufLoop f hd (.mk 35 s.1 0 (atP e l) [x]) k
  else if isP wSq l then andThen (manyP e wQs true (argP f) f l.tail) fun xs k=>sufLoop f hd (.mk 36 [] 0 (atP e l) (x :: xs)) k
  else ok x l
def argP:Nat→List Tok→R Tr
 |0,_=>none
 |f+1,l=>if isP wSq l||isP wChan l then typP f l else exprP f 1 false l
def operandP:Nat→Bool→List Tok→R Tr
 |0,_,_=>none
 |f+1,hd,l=>
  if kindP l==2 then (if numOKP l then ok (.mk 31 [] (numP' l) (placeP l) []) l.tail else none)
  else if isP wTrue l then ok (.mk 32 [] 1 (placeP l) []) l.tail
  else if isP wFalse l then ok (.mk 32 [] 0 (placeP l) []) l.tail
  else if isP wOpen l then andThen (exprP f 1 false l.tail) fun x k=>andThen (shutP e wShut k) fun _ m=>ok x m
  else if isP wFunc l then andThen (sigP f l.tail) fun sg k=>andThen (blockP f k) fun b m=>ok (.mk 38 [] 0 (placeP l) (sg++[b])) m
  else andThen (nameP e l) fun s k=>
   if s.1==wMake&&isP wOpen k then andThen (typP f k.tail) fun t m=>andThen (wantP e wComma m) fun _ m=>andThen (exprP f 1 false m) fun x m=>andThen (shutP e wShut m) fun _ m=>ok (.mk 40 [] 0 (placeP l) [t,x]) m
   else if !hd&&isP wCu k then andThen (manyP e wUc false (exprP f 1 false) f k.tail) fun xs m=>ok (.mk 37 s.1 0 (placeP l) xs) m
   else ok (.mk 30 s.1 0 (placeP l) []) k
end
end
mutual
def sizeT:Tr→Nat
 | .mk _ _ _ _ l=>1+sizeL l
def sizeL:List Tr→Nat
 | []=>0
 |t :: l=>sizeT t+sizeL l
end
mutual
def depthT:Tr→Nat
 | .mk _ _ _ _ l=>depthL l
def depthL:List Tr→Nat
 | []=>0
 |t :: l=>max (1+depthT t) (depthL l)
end
end Prs
end Go.Proofs.YtcbkeecabcbogaaGreatDoor
