/- Contracts of the reference's value, in, Word, sign: what eac -/
import Derived.Test.YtcbkeecabcbogaaGreatDoorSbg
import Derived.Test.YtcbkeecabcbogaaGreatDoorSab
import Derived.Test.YtcbkeecabcbogaaGreatDoorSbf
import Derived.Lib.ValidU
import Derived.Laws.Runes
set_option maxRecDepth 100000
set_option maxHeartbeats 2000000
set_option linter.unusedSimpArgs false
set_option linter.unusedVariables false
namespace Go.Proofs.YtcbkeecabcbogaaGreatDoor
section
open Go.RowKit
def Qep (hex:Bool)(c:UInt8):Int:=match Zn hex c with|some d=>d|none => -1
theorem Dc (c:UInt8)(w:World):Calls Tryz.prog 67 #[.int .u8 (c.toNat:Int),.int .u64 10] w fun e w'=>e=.returned (.int .i64 (Qep false c))∧w=w':=by
 have hc:=c.toNat_lt;by_cases h:48≤c.toNat∧c.toNat≤57
 ·have e:Qep false c=(c.toNat:Int)-48:=by simp[Qep,Zn,h];omega
  obtain⟨h1,h2⟩:=h;have HE:=Dh e;clear e;go_enter Tryz.func67,Tryz.ntmps67
  go_wp2
  go_ret;exact⟨Yh HE.out.symm,rfl⟩
 ·have e:Qep false c = -1:=by simp[Qep,Zn,h]
  have h1:(c.toNat:Int)<48∨57<(c.toNat:Int):=by omega
  have HE:=Dh e;clear e h;rcases h1 with h1|h1;all_goals
   go_enter Tryz.func67,Tryz.ntmps67
   go_wp2
   go_ret;exact⟨Yh HE.out.symm,rfl⟩
theorem Qbu (c:UInt8)(w:World):Calls Tryz.prog 67 #[.int .u8 (c.toNat:Int),.int .u64 16] w fun e w'=>e=.returned (.int .i64 (Qep true c))∧w=w':=by
 have hc:=c.toNat_lt;obtain⟨x,hx⟩:∃ x:Int,x=(c.toNat:Int):=⟨_,rfl⟩;have hx0:0≤x:=by omega
 have hx1:x<256:=by omega
 have e:Qep true c=if 48≤x∧x≤57 then x-48 else if 97≤x∧x≤102 then x-87 else if 65≤x∧x≤70 then x-55 else -1:=by
  subst hx;by_cases h1:48≤c.toNat∧c.toNat≤57
  ·have:Zn true c=some (c.toNat-48):=by unfold Zn;rw[if_pos h1]
   rw[if_pos Dw,Qep,this];simp only[];omega
  ·by_cases h2:97≤c.toNat∧c.toNat≤102
   ·have:Zn true c=some (c.toNat-87):=by unfold Zn;rw[if_neg h1,if_pos (by simpa using h2)]
    rw[if_neg Dw,if_pos Dw,Qep,this];simp only[];omega
   ·by_cases h3:65≤c.toNat∧c.toNat≤70
    ·have:Zn true c=some (c.toNat-55):=by unfold Zn;rw[if_neg h1,if_neg (by simpa using h2),if_pos (by simpa using h3)]
     rw[if_neg Dw,if_neg Dw,if_pos Dw,Qep,this];simp only[];omega
    ·have:Zn true c=none:=by unfold Zn;rw[if_neg h1,if_neg (by simpa using h2),if_neg (by simpa using h3)]
     rw[if_neg Dw,if_neg Dw,if_neg Dw,Qep,this]
 have HE:=Dh e;rw[←hx];clear e hx hc;by_cases h1:x<48
 ·go_enter Tryz.func67,Tryz.ntmps67
  go_wp2
  go_ret;exact⟨Yh (by rw[HE.out,if_neg Dw,if_neg Dw,if_neg Dw]),rfl⟩
 ·by_cases h2:x≤57
  ·go_enter Tryz.func67,Tryz.ntmps67
   go_wp2
   go_ret;exact⟨Yh (by rw[HE.out,if_pos Dw]),rfl⟩
  ·by_cases h3:x<97
   ·by_cases h4:x<65
    ·go_enter Tryz.func67,Tryz.ntmps67
     go_wp2
     go_ret;exact⟨Yh (by rw[HE.out,if_neg Dw,if_neg Dw,if_neg Dw]),rfl⟩
    ·by_cases h5:x≤70
     ·go_enter Tryz.func67,Tryz.ntmps67
      go_wp2
      go_ret;exact⟨Yh (by rw[HE.out,if_neg Dw,if_neg Dw,if_pos Dw];omega),rfl⟩
     ·go_enter Tryz.func67,Tryz.ntmps67
      go_wp2
      go_ret;exact⟨Yh (by rw[HE.out,if_neg Dw,if_neg Dw,if_neg Dw]),rfl⟩
   ·by_cases h4:x≤102
    ·go_enter Tryz.func67,Tryz.ntmps67
     go_wp2
     go_ret;exact⟨Yh (by rw[HE.out,if_neg Dw,if_pos Dw];omega),rfl⟩
    ·go_enter Tryz.func67,Tryz.ntmps67
     go_wp2
     go_ret;exact⟨Yh (by rw[HE.out,if_neg Dw,if_neg Dw,if_neg Dw]),rfl⟩
def inP (zs:List (List UInt8))(s:ByteArray):Bool:=zs.contains (bl s)
theorem Fj (zs:List (List UInt8))(s:ByteArray)(b c:Nat)(w:World)(hn:zs.length≤1000)(hb:∀ j (h:j<zs.length),w.cell? ⟨b,j,none⟩=some (.string ⟨(zs[j]).toArray⟩)):
  Calls Tryz.prog 42 #[.slice (some ⟨b,0,none⟩) zs.length c,.string s] w fun e w'=>e=.returned (.bool (inP zs s))∧w=w':=by
 go_enter Tryz.func42,Tryz.ntmps42
 go_wp2
 go_loop [5] (fun i=>∃ k:Nat,k≤zs.length∧i=.int .i64 k∧Hid (∀ j (h:j<zs.length),j<k→zs[j]≠bl s)) (fun i=>zs.length-(intOf i).toNat)
 case atStart=>exact⟨0,by omega,rfl,Dh (fun j _ h=>absurd h Dw)⟩
 case round=>
  obtain⟨k,hk,rfl,HK⟩:=hrel;by_cases hlt:k<zs.length
  ·have hcell:=hb k hlt;have hlt2:(k:Int)<(zs.length:Int):=by omega
   clear hb;by_cases he:zs[k]=bl s
   ·have hr:inP zs s=true:=by unfold inP;rw[List.contains_iff_mem,←he];exact List.getElem_mem hlt
    have hq:(zs[k]==s.toList)=true:=by rw[Ug,he];simp
    have HR:=Dh hr;clear hr he;generalize zs[k]=z at *;go_wp2
    go_ret;exact⟨Vq HR.out.symm,rfl⟩
   ·have hq:(zs[k]==s.toList)=false:=by rw[Ug];simpa using he
    have HK2:Hid (∀ j (h:j<zs.length),j<k+1→zs[j]≠bl s):=Dh (fun j h hj=>by
     by_cases hjk:j=k
     ·subst hjk;exact he
     ·exact HK.out j h Dw)
    clear he;generalize zs[k]=z at *;go_wp2
    exact⟨⟨k+1,by omega,by go_num,HK2⟩,by simp[intOf];omega⟩
  ·have hr:inP zs s=false:=by
    unfold inP;cases hc:zs.contains (bl s) with
    |false=>rfl
    |true=>
     rw[List.contains_iff_mem] at hc;obtain⟨j,hj,e⟩:=List.getElem_of_mem hc;exact absurd e (HK.out j hj Dw)
   have HR:=Dh hr;clear hr hb;have hge:¬ (k:Int)<(zs.length:Int):=by omega
   go_wp2
   go_ret;exact⟨Vq HR.out.symm,rfl⟩
theorem Js (zs:List (List UInt8))(w:World)(C:Array Value)(t:TypeId)(hC:C=(zs.map fun z=>Value.string ⟨z.toArray⟩).toArray)(j:Nat)(h:j<zs.length):
  (w.alloc (.cells C t)).cell? ⟨w.heap.size,j,none⟩=some (.string ⟨(zs[j]).toArray⟩):=by
 rw[World.cell?_alloc_new,hC];simp[h]
theorem Qfl (s:ByteArray)(w:World):Calls Tryz.prog 40 #[.string s] w fun e w'=>e=.returned (.bool (inP Fe s))∧Below w.heap.size w w':=by
 go_enter Tryz.func40,Tryz.ntmps40
 go_wp2_with fail
 refine(Fj Fe s _ _ _ Dd (fun j h=>Js Fe w _ _ rfl j h)).mono ?_;rintro e w' ⟨rfl,rfl⟩;go_wp2
 go_ret;exact⟨rfl,(Below.refl _ _).alloc (Nat.le_refl _) _⟩
theorem Rq (s:ByteArray)(k:Nat)(h:k<s.size):(bl s)[k]? = some s[k]:=by
 unfold bl;rw[List.getElem?_eq_getElem (by simpa using h)];rfl
def Qax (lg:Bool)(m V:Nat):Prop:=(lg=false∧m=V∧V<18446744073709551616)∨(lg=true∧18446744073709551616≤V∧m<18446744073709551616)
theorem Qdu (b d V n:Nat)(large:Bool)(hb:b=10∨b=16)(hd:d<b)
  (hi:(large=false∧n=V∧V<18446744073709551616)∨(large=true∧18446744073709551616≤V∧n<18446744073709551616)):
  if (18446744073709551615-d) / b<n then
   (18446744073709551616≤V*b+d)∧d<18446744073709551616
  else n*b+d<18446744073709551616∧((large=false∧n*b+d=V*b+d∧V*b+d<18446744073709551616)∨(large=true∧18446744073709551616≤V*b+d)):=by
 rcases hb with rfl|rfl <;> split <;> rcases hi with ⟨h1,h2,h3⟩|⟨h1,h2,h3⟩ <;> (try subst h2) <;> refine⟨?_,?_⟩ <;> first|omega|(left;exact⟨h1,rfl,by omega⟩)|(right;exact⟨h1,by omega⟩)
theorem Qmi (s:ByteArray)(w:World)(hs:s.size≤1073741824)(hz:Kr (bl s)=false)(hx:Hz (bl s)=false):Calls Tryz.prog 39 #[.string s] w fun e w'=>e=.returned (.tuple #[.int .u64 ((Fq (bl s)).1:Int),.int .i64 (Fq (bl s)).2])∧w=w':=by
 have hx0:Hz (bl s)=false:=by
  exact hx
 have hD:digitsOf (bl s)=bl s:=by simp[digitsOf,hx0]
 have hok:Hz (bl s)=true∨Kr (bl s)=false:=.inr hz;have hnz:∀ h:2≤s.size,¬ ((s[0].toNat:Int)=48):=fun h e=>by
  rw[Jg,Rq s 0 Dw,Xg] at hz;have:s[0]=48:=by apply UInt8.toNat_inj.1;show _=48;omega
  rw[this] at hz;simp at hz;omega
 clear hz;by_cases he:s.size=0
 ·have hr:=Wn (bl s) (by rw[hD];exact(Vx s).2 he);rw[hr];have he':((0:Int)==(s.size:Int))=true:=by rw[he];rfl
  have g2:¬ (2:Int)≤(s.size:Int):=by omega
  clear hr hnz;go_enter Tryz.func39,Tryz.ntmps39
  go_wp2
  go_ret2
  exact⟨rfl,rfl⟩
 ·have he':((0:Int)==(s.size:Int))=false:=by rw[beq_eq_false_iff_ne];omega
  by_cases h2:2≤s.size
  ·have g0:=hnz h2;have g0':((s[0].toNat:Int)==48)=false:=by rw[beq_eq_false_iff_ne];exact g0
   have g2:(2:Int)≤(s.size:Int):=by omega
   clear hnz;go_enter Tryz.func39,Tryz.ntmps39
   go_wp2
   go_loop [6,7,8] (fun n large i=>∃ (j V m:Nat) (lg:Bool),j≤s.size∧i=.int .i64 ((j:Nat):Int)∧n=.int .u64 (m:Int)∧large=.bool lg∧Hid (Xm false 0 ((bl s).take j)=some V)∧Hid (Qax lg m V)) (fun _ _ i=>s.size-(intOf i).toNat)
   case atStart=>exact⟨0,0,0,false,by omega,rfl,rfl,rfl,Dh rfl,Dh (.inl ⟨rfl,rfl,by omega⟩)⟩
   case round=>
    obtain⟨j,V,m,lg,hj,rfl,rfl,rfl,HV,HI⟩:=hrel;have hm:m<18446744073709551616:=by rcases HI.out with h|h <;> omega
    by_cases hlt:j<s.size
    ·have hat:(bl s)[j]? = some s[j]:=by exact Rq s _ hlt
     generalize hch:s[j]=ch at *;have HCH:=Dh hch;cases hdv:Zn false ch with
     |none=>
      have hr:=Bq (bl s) (by rw[hx0,hD];exact Np false _ j V _ hat HV.out hdv);have hc:Qep false ch = -1:=by simp[Qep,hdv]
      have hcall:=Dh (fun w=>Dc ch w);rw[hc] at hcall;have HR:=Dh hr;clear hr hc hat hdv HCH;go_wp2_with (go_at_call 67;refine(hcall.out _).mono ?_;rintro e w' ⟨rfl,rfl⟩)
      go_ret2
      exact⟨Un (Uk (by rw[HR.out];try rfl)) (Uk (by rw[HR.out];try rfl)),rfl⟩
     |some d=>
      have hd:=Lm false _ d hdv;have hdb:d<10:=hd;have hV2:Hid (Xm false 0 ((bl s).take (j+1))=some (V*10+d)):=Dh (Hg false _ j V d _ hat HV.out hdv);have hc:Qep false ch=d:=by simp[Qep,hdv]
      have hcall:=Dh (fun w=>Dc ch w);rw[hc] at hcall;have hround:=Qdu 10 d V m lg Dw hdb HI.out;clear hc hat hdv hd HCH;by_cases hbig:(18446744073709551615-d) / 10<m
      ·rw[if_pos hbig] at hround;have hI2:Hid (Qax true d (V*10+d)):=Dh (.inr ⟨rfl,hround.1,hround.2⟩);clear hround;have hbig':(18446744073709551615-(d:Int)) / 10<(m:Int):=by omega
       clear hbig;go_wp2_with (go_at_call 67;refine(hcall.out _).mono ?_;rintro e w' ⟨rfl,rfl⟩)
       exact⟨⟨j+1,V*10+d,d,true,by omega,by go_num,rfl,rfl,hV2,hI2⟩,by simp[intOf];omega⟩
      ·rw[if_neg hbig] at hround;have hlt2:m*10+d<18446744073709551616:=hround.1
       have hI2:Hid (Qax lg (m*10+d) (V*10+d)):=Dh (by
        rcases hround.2 with h|h
        ·exact .inl h
        ·exact .inr ⟨h.1,h.2,hlt2⟩)
       clear hround;have hbig':¬ (18446744073709551615-(d:Int)) / 10<(m:Int):=by omega
       clear hbig;have hw1:IntKind.u64.wrap (IntKind.u64.wrap ((m:Int)*10)+(d:Int))=((m*10+d:Nat):Int):=by rw[IntKind.wrap_u64,IntKind.wrap_u64];omega
       go_wp2_with (go_at_call 67;refine(hcall.out _).mono ?_;rintro e w' ⟨rfl,rfl⟩)
       exact⟨⟨j+1,V*10+d,m*10+d,lg,by omega,by go_num,by go_num,rfl,hV2,hI2⟩,by simp[intOf];omega⟩
    ·have hend:Xm false 0 (bl s)=some V:=by
      have:=HV.out;rwa [List.take_of_length_le (by rw[Xg];omega)] at this
     have hr:=Qa9 (bl s) V (by rw[hx0,hD];exact hend) hok (by rw[hD];intro h;exact he (by rw[←Xg,h];rfl));cases lg
     ·have h1:m=V∧V<18446744073709551616:=by rcases HI.out with h|h;exact⟨h.2.1,h.2.2⟩;cases h.1
      rw[if_pos h1.2,←h1.1] at hr;have HR:=Dh hr;clear hr hend h1;go_wp2
      go_ret2
      exact⟨Un (Uk (by rw[HR.out];try rfl)) (Uk (by rw[HR.out];try rfl)),rfl⟩
     ·have h1:¬ V<18446744073709551616:=by rcases HI.out with h|h;cases h.1;omega
      rw[if_neg h1] at hr;have HR:=Dh hr;clear hr hend h1;go_wp2
      go_ret2
      exact⟨Un (Uk (by rw[HR.out];try rfl)) (Uk (by rw[HR.out];try rfl)),rfl⟩
  ·have g2:¬ (2:Int)≤(s.size:Int):=by omega
   clear hnz;go_enter Tryz.func39,Tryz.ntmps39
   go_wp2
   go_loop [6,7,8] (fun n large i=>∃ (j V m:Nat) (lg:Bool),j≤s.size∧i=.int .i64 ((j:Nat):Int)∧n=.int .u64 (m:Int)∧large=.bool lg∧Hid (Xm false 0 ((bl s).take j)=some V)∧Hid (Qax lg m V)) (fun _ _ i=>s.size-(intOf i).toNat)
   case atStart=>exact⟨0,0,0,false,by omega,rfl,rfl,rfl,Dh rfl,Dh (.inl ⟨rfl,rfl,by omega⟩)⟩
   case round=>
    obtain⟨j,V,m,lg,hj,rfl,rfl,rfl,HV,HI⟩:=hrel;have hm:m<18446744073709551616:=by rcases HI.out with h|h <;> omega
    by_cases hlt:j<s.size
    ·have hat:(bl s)[j]? = some s[j]:=by exact Rq s _ hlt
     generalize hch:s[j]=ch at *;have HCH:=Dh hch;cases hdv:Zn false ch with
     |none=>
      have hr:=Bq (bl s) (by rw[hx0,hD];exact Np false _ j V _ hat HV.out hdv);have hc:Qep false ch = -1:=by simp[Qep,hdv]
      have hcall:=Dh (fun w=>Dc ch w);rw[hc] at hcall;have HR:=Dh hr;clear hr hc hat hdv HCH;go_wp2_with (go_at_call 67;refine(hcall.out _).mono ?_;rintro e w' ⟨rfl,rfl⟩)
      go_ret2
      exact⟨Un (Uk (by rw[HR.out];try rfl)) (Uk (by rw[HR.out];try rfl)),rfl⟩
     |some d=>
      have hd:=Lm false _ d hdv;have hdb:d<10:=hd;have hV2:Hid (Xm false 0 ((bl s).take (j+1))=some (V*10+d)):=Dh (Hg false _ j V d _ hat HV.out hdv);have hc:Qep false ch=d:=by simp[Qep,hdv]
      have hcall:=Dh (fun w=>Dc ch w);rw[hc] at hcall;have hround:=Qdu 10 d V m lg Dw hdb HI.out;clear hc hat hdv hd HCH;by_cases hbig:(18446744073709551615-d) / 10<m
      ·rw[if_pos hbig] at hround;have hI2:Hid (Qax true d (V*10+d)):=Dh (.inr ⟨rfl,hround.1,hround.2⟩);clear hround;have hbig':(18446744073709551615-(d:Int)) / 10<(m:Int):=by omega
       clear hbig;go_wp2_with (go_at_call 67;refine(hcall.out _).mono ?_;rintro e w' ⟨rfl,rfl⟩)
       exact⟨⟨j+1,V*10+d,d,true,by omega,by go_num,rfl,rfl,hV2,hI2⟩,by simp[intOf];omega⟩
      ·rw[if_neg hbig] at hround;have hlt2:m*10+d<18446744073709551616:=hround.1
       have hI2:Hid (Qax lg (m*10+d) (V*10+d)):=Dh (by
        rcases hround.2 with h|h
        ·exact .inl h
        ·exact .inr ⟨h.1,h.2,hlt2⟩)
       clear hround;have hbig':¬ (18446744073709551615-(d:Int)) / 10<(m:Int):=by omega
       clear hbig;have hw1:IntKind.u64.wrap (IntKind.u64.wrap ((m:Int)*10)+(d:Int))=((m*10+d:Nat):Int):=by rw[IntKind.wrap_u64,IntKind.wrap_u64];omega
       go_wp2_with (go_at_call 67;refine(hcall.out _).mono ?_;rintro e w' ⟨rfl,rfl⟩)
       exact⟨⟨j+1,V*10+d,m*10+d,lg,by omega,by go_num,by go_num,rfl,hV2,hI2⟩,by simp[intOf];omega⟩
    ·have hend:Xm false 0 (bl s)=some V:=by
      have:=HV.out;rwa [List.take_of_length_le (by rw[Xg];omega)] at this
     have hr:=Qa9 (bl s) V (by rw[hx0,hD];exact hend) hok (by rw[hD];intro h;exact he (by rw[←Xg,h];rfl));cases lg
     ·have h1:m=V∧V<18446744073709551616:=by rcases HI.out with h|h;exact⟨h.2.1,h.2.2⟩;cases h.1
      rw[if_pos h1.2,←h1.1] at hr;have HR:=Dh hr;clear hr hend h1;go_wp2
      go_ret2
      exact⟨Un (Uk (by rw[HR.out];try rfl)) (Uk (by rw[HR.out];try rfl)),rfl⟩
     ·have h1:¬ V<18446744073709551616:=by rcases HI.out with h|h;cases h.1;omega
      rw[if_neg h1] at hr;have HR:=Dh hr;clear hr hend h1;go_wp2
      go_ret2
      exact⟨Un (Uk (by rw[HR.out];try rfl)) (Uk (by rw[HR.out];try rfl)),rfl⟩
theorem rnum_hex (s:ByteArray)(w:World)(hs:s.size≤1073741824)(h2:2≤s.size)(h0:s[0]=48)(h1:s[1]=120):Calls Tryz.prog 39 #[.string s] w fun e w'=>e=.returned (.tuple #[.int .u64 ((Fq (bl s)).1:Int),.int .i64 (Fq (bl s)).2])∧w=w':=by
 have hx0:Hz (bl s)=true:=by
  rw[Wv,Rq s 0 Dw,Rq s 1 Dw,h0,h1,Xg];simp;omega
 have hD:digitsOf (bl s)=(bl s).drop 2:=by simp[digitsOf,hx0]
 have hok:Hz (bl s)=true∨Kr (bl s)=false:=.inl hx0;have g0:(s[0].toNat:Int)=48:=by rw[h0];rfl
 have g1:(s[1].toNat:Int)=120:=by rw[h1];rfl
 have g2:(2:Int)≤(s.size:Int):=by omega
 clear h0 h1;by_cases he:s.size=2
 ·have hr:=Wn (bl s) (by rw[hD,List.drop_eq_nil_iff,Xg];omega);rw[hr];have he':((2:Int)==(s.size:Int))=true:=by rw[he];rfl
  clear hr;go_enter Tryz.func39,Tryz.ntmps39
  go_wp2
  go_ret2
  exact⟨rfl,rfl⟩
 ·have he':((2:Int)==(s.size:Int))=false:=by rw[beq_eq_false_iff_ne];omega
  go_enter Tryz.func39,Tryz.ntmps39
  go_wp2
  go_loop [6,7,8] (fun n large i=>∃ (j V m:Nat) (lg:Bool),2+j≤s.size∧i=.int .i64 ((2+j:Nat):Int)∧n=.int .u64 (m:Int)∧large=.bool lg∧Hid (Xm true 0 (((bl s).drop 2).take j)=some V)∧Hid (Qax lg m V)) (fun _ _ i=>s.size-(intOf i).toNat)
  case atStart=>exact⟨0,0,0,false,by omega,rfl,rfl,rfl,Dh rfl,Dh (.inl ⟨rfl,rfl,by omega⟩)⟩
  case round=>
   obtain⟨j,V,m,lg,hj,rfl,rfl,rfl,HV,HI⟩:=hrel;have hm:m<18446744073709551616:=by rcases HI.out with h|h <;> omega
   by_cases hlt:2+j<s.size
   ·have hat:((bl s).drop 2)[j]? = some s[2+j]:=by rw[List.getElem?_drop];exact Rq s _ hlt
    generalize hch:s[2+j]=ch at *;have HCH:=Dh hch;cases hdv:Zn true ch with
    |none=>
     have hr:=Bq (bl s) (by rw[hx0,hD];exact Np true _ j V _ hat HV.out hdv);have hc:Qep true ch = -1:=by simp[Qep,hdv]
     have hcall:=Dh (fun w=>Qbu ch w);rw[hc] at hcall;have HR:=Dh hr;clear hr hc hat hdv HCH;go_wp2_with (go_at_call 67;refine(hcall.out _).mono ?_;rintro e w' ⟨rfl,rfl⟩)
     go_ret2
     exact⟨Un (Uk (by rw[HR.out];try rfl)) (Uk (by rw[HR.out];try rfl)),rfl⟩
    |some d=>
     have hd:=Lm true _ d hdv;have hdb:d<16:=hd;have hV2:Hid (Xm true 0 (((bl s).drop 2).take (j+1))=some (V*16+d)):=Dh (Hg true _ j V d _ hat HV.out hdv);have hc:Qep true ch=d:=by simp[Qep,hdv]
     have hcall:=Dh (fun w=>Qbu ch w);rw[hc] at hcall;have hround:=Qdu 16 d V m lg Dw hdb HI.out;clear hc hat hdv hd HCH;by_cases hbig:(18446744073709551615-d) / 16<m
     ·rw[if_pos hbig] at hround;have hI2:Hid (Qax true d (V*16+d)):=Dh (.inr ⟨rfl,hround.1,hround.2⟩);clear hround;have hbig':(18446744073709551615-(d:Int)) / 16<(m:Int):=by omega
      clear hbig;go_wp2_with (go_at_call 67;refine(hcall.out _).mono ?_;rintro e w' ⟨rfl,rfl⟩)
      exact⟨⟨j+1,V*16+d,d,true,by omega,by go_num,rfl,rfl,hV2,hI2⟩,by simp[intOf];omega⟩
     ·rw[if_neg hbig] at hround;have hlt2:m*16+d<18446744073709551616:=hround.1
      have hI2:Hid (Qax lg (m*16+d) (V*16+d)):=Dh (by
       rcases hround.2 with h|h
       ·exact .inl h
       ·exact .inr ⟨h.1,h.2,hlt2⟩)
      clear hround;have hbig':¬ (18446744073709551615-(d:Int)) / 16<(m:Int):=by omega
      clear hbig;have hw1:IntKind.u64.wrap (IntKind.u64.wrap ((m:Int)*16)+(d:Int))=((m*16+d:Nat):Int):=by rw[IntKind.wrap_u64,IntKind.wrap_u64];omega
      go_wp2_with (go_at_call 67;refine(hcall.out _).mono ?_;rintro e w' ⟨rfl,rfl⟩)
      exact⟨⟨j+1,V*16+d,m*16+d,lg,by omega,by go_num,by go_num,rfl,hV2,hI2⟩,by simp[intOf];omega⟩
   ·have hend:Xm true 0 ((bl s).drop 2)=some V:=by
     have:=HV.out;rwa [List.take_of_length_le (by rw[List.length_drop,Xg];omega)] at this
    have hr:=Qa9 (bl s) V (by rw[hx0,hD];exact hend) hok (by rw[hD];intro h;rw[List.drop_eq_nil_iff,Xg] at h;omega);cases lg
    ·have h1:m=V∧V<18446744073709551616:=by rcases HI.out with h|h;exact⟨h.2.1,h.2.2⟩;cases h.1
     rw[if_pos h1.2,←h1.1] at hr;have HR:=Dh hr;clear hr hend h1;go_wp2
     go_ret2
     exact⟨Un (Uk (by rw[HR.out];try rfl)) (Uk (by rw[HR.out];try rfl)),rfl⟩
    ·have h1:¬ V<18446744073709551616:=by rcases HI.out with h|h;cases h.1;omega
     rw[if_neg h1] at hr;have HR:=Dh hr;clear hr hend h1;go_wp2
     go_ret2
     exact⟨Un (Uk (by rw[HR.out];try rfl)) (Uk (by rw[HR.out];try rfl)),rfl⟩
theorem Qrp (s:ByteArray)(w:World)(h2:2≤s.size)(h0:s[0]=48)(h1:¬ s[1]=120):Calls Tryz.prog 39 #[.string s] w fun e w'=>e=.returned (.tuple #[.int .u64 ((Fq (bl s)).1:Int),.int .i64 (Fq (bl s)).2])∧w=w':=by
 have hx:Hz (bl s)=false:=by rw[Wv,Rq s 0 Dw,Rq s 1 Dw];simp[h1]
 have hz:Kr (bl s)=true:=by rw[Jg,Rq s 0 Dw,h0,Xg];simp;omega
 rw[Qiq (bl s) hx hz];have g0:((s[0].toNat:Int)==48)=true:=by rw[h0];rfl
 have g1:((s[1].toNat:Int) != 120)=true:=by
  rw[bne_iff_ne];intro h;apply h1;apply UInt8.toNat_inj.1;show _=120;omega
 have g2:(2:Int)≤(s.size:Int):=by omega
 clear h0 h1 hx hz;go_enter Tryz.func39,Tryz.ntmps39
 go_wp2
 go_ret2
 exact⟨rfl,rfl⟩
theorem Qkk (s:ByteArray)(w:World)(hs:s.size≤1073741824):Calls Tryz.prog 39 #[.string s] w fun e w'=>e=.returned (.tuple #[.int .u64 ((Fq (bl s)).1:Int),.int .i64 (Fq (bl s)).2])∧w=w':=by
 by_cases h2:2≤s.size
 ·by_cases h0:s[0]=48
  ·by_cases h1:s[1]=120
   ·exact rnum_hex s w hs h2 h0 h1
   ·exact Qrp s w h2 h0 h1
  ·exact Qmi s w hs (by rw[Jg,Rq s 0 Dw];simp[h0]) (by rw[Wv,Rq s 0 Dw];simp[h0])
 ·exact Qmi s w hs (by rw[Jg,Xg];simp[h2]) (by rw[Wv,Xg];simp[h2])
def Qkd:Array Value:=(Vp.map fun z=>Value.string ⟨z.toArray⟩).toArray
structure Laid (w:World):Prop where
 size:10≤w.heap.size
 u8:Lib.Utf8Tabs 2 3 w
 most:∃ m,w.cell? ⟨4,0,none⟩=some (.int .i64 m)
 range:∃ ev,w.cell? ⟨6,0,none⟩=some ev∧(ev=.nilIface∨∃ te pe,ev=.iface te pe)
 signs:∃ t fr,w.heap[0]? = some (.cells Qkd t fr)
theorem Laid.below {w w':World}(h:Laid w)(hb:Below w.heap.size w w'):Laid w':=by
 have hs:=h.size;have hc:∀ b o,b<10→w'.cell? ⟨b,o,none⟩=w.cell? ⟨b,o,none⟩:=fun b o hlt=>hb.cell (p:=⟨b,o,none⟩) (Nat.lt_of_lt_of_le hlt hs)
 obtain⟨m,hm⟩:=h.most;obtain⟨ev,hr,hev⟩:=h.range;obtain⟨t,fr,hsg⟩:=h.signs;refine⟨Nat.le_trans hs hb.size,?_,⟨m,?_⟩,⟨ev,?_,hev⟩,⟨t,fr,?_⟩⟩
 ·obtain⟨h1,h2⟩:=h.u8;refine⟨?_,?_⟩
  ·intro x hx;rw[hc _ _ Dd];exact h1 x hx
  ·intro i hi;rw[hc _ _ Dd,hc _ _ Dd];exact h2 i hi
 ·rw[hc _ _ Dd];exact hm
 ·rw[hc _ _ Dd];exact hr
 ·rw[hb.block _ (Nat.lt_of_lt_of_le Dd hs)];exact hsg
def Qoa (p s:List UInt8):Bool:=p.isPrefixOf s
def hasB (s:List UInt8)(c:UInt8):Bool:=s.contains c
def hasL (s t:List UInt8):Bool:=Lib.contains s t
theorem Ar (s p:ByteArray)(w:World):Calls Tryz.prog 60 #[.string s,.string p] w fun e w'=>e=.returned (.bool (Qoa (bl p) (bl s)))∧w=w':=
 (Tryz.strings_HasPrefix s p w).mono fun _ _ ⟨h1,h2⟩=>⟨h1,h2.symm⟩
theorem Qcz (s:ByteArray)(w:World)(h:Laid w)(hs:s.size≠0):Calls Tryz.prog 83 #[.string s] w fun e w'=>e=.returned (.tuple #[.int .i32 ((Zl (bl s)).1:Int),.int .i64 ((Zl (bl s)).2:Int)])∧Below w.heap.size w w':=by
 have e:Lib.decodeGo s=Zl (bl s):=by
  unfold Lib.decodeGo;rw[if_neg hs,Qji s 0 Dw];rfl
 rw[←e];exact Tryz.utf8_DecodeRuneInString s w h.u8
theorem Ph (l:List UInt8)(c:UInt8):(decide (0≤Lib.indexByte l c))=l.contains c:=by
 induction l with
 |nil=>rfl
 |cons b l ih=>
  unfold Lib.indexByte;by_cases h:(b==c)=true
  ·have:b=c:=by simpa using h
   subst this;simp
  ·have hb:¬ c=b:=fun e=>h (by simp[e])
   rw[if_neg h];have hc:(b::l).contains c=l.contains c:=by simp[hb]
   rw[hc,←ih];split
   ·rename_i h2;simp at h2;simp[h2]
   ·rename_i h2;have hge : -1≤Lib.indexByte l c:=by
     clear ih h hb hc h2;induction l with
     |nil=>exact Int.le_refl _
     |cons a l ih=>unfold Lib.indexByte;split;omega;split <;> omega
    simp at h2;rw[decide_eq_decide];omega
theorem has1_c (s:ByteArray)(c:UInt8)(w:World):Calls Tryz.prog 107 #[.string s,.string ⟨#[c]⟩] w fun e w'=>e=.returned (.bool (hasB (bl s) c))∧w=w':=
 (Tryz.strings_Contains_one s c w).mono fun _ _ ⟨h1,h2⟩=>⟨by rw[h1,Ph];rfl,h2.symm⟩
theorem has_c (s t:ByteArray)(w:World)(h:Laid w)(hs:s.size≤1073741824):Calls Tryz.prog 107 #[.string s,.string t] w fun e w'=>e=.returned (.bool (hasL (bl s) (bl t)))∧w=w':=by
 obtain⟨m,hm⟩:=h.most;exact(Tryz.strings_Contains s t m w Dw hm).mono fun _ _ ⟨h1,h2⟩=>⟨h1,h2.symm⟩
theorem Qnb (c:UInt8):((c.toNat:Int)).toNat.toUInt8=c:=by
 simp
theorem index_c (s:ByteArray)(w:World):Calls Tryz.prog 61 #[.string s,.int .u8 10] w fun e w'=>e=.returned (.int .i64 (Lib.indexByte (bl s) 10))∧w=w':=
 (Tryz.strings_IndexByte s 10 w).mono fun _ _ ⟨h1,h2⟩=>⟨h1,h2.symm⟩
theorem trim_c (s:ByteArray)(w:World):Calls Tryz.prog 59 #[.string s,.string ⟨#[9,13,32]⟩] w fun e w'=>e=.returned (.string ⟨((bl s).dropWhile V7).toArray⟩)∧Below w.heap.size w w':=by
 have e:Lib.trimLeftS (bl s) [9,13,32]=(bl s).dropWhile V7:=by
  unfold Lib.trimLeftS;congr 1
  funext b
  rw[Bool.eq_iff_iff];simp[V7,or_assoc]
 rw[←e]
 exact Any.strings_TrimLeft_laid Tryz.lays161 Dk s ⟨#[9,13,32]⟩ w Dd (by
  intro j b h;have:b∈([9,13,32]:List UInt8):=List.mem_of_getElem? h;simp at this
  rcases this with rfl|rfl|rfl <;> decide)
end
section
open Go.RowKit
namespace Prs
def strV (l:List UInt8):Value:=.string ⟨l.toArray⟩
abbrev Where:=Nat→Nat×Nat×Nat
def opsAt (f:Where):List Value:=[.slice (some ⟨(f 0).1,(f 0).2.1,none⟩) 7 (f 0).2.2,.slice (some ⟨(f 1).1,(f 1).2.1,none⟩) 4 (f 1).2.2,.slice (some ⟨(f 2).1,(f 2).2.1,none⟩) 6 (f 2).2.2,.slice (some ⟨(f 3).1,(f 3).2.1,none⟩) 1 (f 3).2.2,.slice (some ⟨(f 4).1,(f 4).2.1,none⟩) 1 (f 4).2.2]
def Qsh:Nat→Nat
 |0=>7
 |1=>4
 |2=>6
 |_=>1
structure Ops (w:World)(f:Where):Prop where
 size:10≤w.heap.size
 ops:w.heap[1]? = some (.cells (opsAt f).toArray 96)
 room:∀ i,i<5→Qsh i≤(f i).2.2∧(f i).2.2≤maxLen
 cells:∀ (i:Nat) (z:List (List UInt8)),opsP[i]? = some z→∀ (j:Nat) (x:List UInt8),z[j]? = some x→w.cell? ⟨(f i).1,(f i).2.1+j,none⟩=some (strV x)
theorem contains_c {w:World}{f:Where}(h:Ops w f)(x:List UInt8){i:Nat}{z:List (List UInt8)}(hz:opsP[i]? = some z)(hl:z.length=Qsh i):Calls Tryz.prog 90 #[.slice (some ⟨(f i).1,(f i).2.1,none⟩) (Qsh i) (f i).2.2,.string ⟨x.toArray⟩] w fun e w2=>e=.returned (.bool (z.contains x))∧w2=w:=by
 have hc:=h.cells i z hz;have e1:Lib.containsS ((z.map fun y=>(⟨y.toArray⟩:ByteArray)).take (Qsh i)) ⟨x.toArray⟩=z.contains x:=by
  rw[←hl,←List.length_map (fun y=>(⟨y.toArray⟩:ByteArray)),List.take_length,Bool.eq_iff_iff,Lib.containsS_iff];simp
 rw[←e1];refine Tryz.slices_Contains_string _ _ _ _ _ _ _ (by simp[hl]) (by unfold Qsh;split <;> omega) fun j hj=>?_
 have hj':j<z.length:=by simpa using hj
 rw[hc j _ (List.getElem?_eq_getElem hj')];simp[strV,List.getD,List.getElem?_eq_getElem hj']
theorem binds_c (f:Where)(x:List UInt8)(w:World)(h:Ops w f):Calls Tryz.prog 65 #[.string ⟨x.toArray⟩] w fun e w2=>e=.returned (.int .i64 (Z9 x:Int))∧w2=w:=by
 have hb:=h.ops;have q0:w.cell? ⟨1,0,none⟩=some (.slice (some ⟨(f 0).1,(f 0).2.1,none⟩) 7 (f 0).2.2):=by unfold World.cell?;rw[hb];rfl
 have q1:w.cell? ⟨1,1,none⟩=some (.slice (some ⟨(f 1).1,(f 1).2.1,none⟩) 4 (f 1).2.2):=by unfold World.cell?;rw[hb];rfl
 have q2:w.cell? ⟨1,2,none⟩=some (.slice (some ⟨(f 2).1,(f 2).2.1,none⟩) 6 (f 2).2.2):=by unfold World.cell?;rw[hb];rfl
 have q3:w.cell? ⟨1,3,none⟩=some (.slice (some ⟨(f 3).1,(f 3).2.1,none⟩) 1 (f 3).2.2):=by unfold World.cell?;rw[hb];rfl
 have q4:w.cell? ⟨1,4,none⟩=some (.slice (some ⟨(f 4).1,(f 4).2.1,none⟩) 1 (f 4).2.2):=by unfold World.cell?;rw[hb];rfl
 have i0:∀ (a b c d e:Value) (W:World),(Instr.index 96 (.agg #[a,b,c,d,e]) (.int .i64 0)).run Tryz.prog W=.ok a W:=fun a b c d e W=>by kernel_rfl
 have i1:∀ (a b c d e:Value) (W:World),(Instr.index 96 (.agg #[a,b,c,d,e]) (.int .i64 1)).run Tryz.prog W=.ok b W:=fun a b c d e W=>by kernel_rfl
 have i2:∀ (a b c d e:Value) (W:World),(Instr.index 96 (.agg #[a,b,c,d,e]) (.int .i64 2)).run Tryz.prog W=.ok c W:=fun a b c d e W=>by kernel_rfl
 have i3:∀ (a b c d e:Value) (W:World),(Instr.index 96 (.agg #[a,b,c,d,e]) (.int .i64 3)).run Tryz.prog W=.ok d W:=fun a b c d e W=>by kernel_rfl
 have i4:∀ (a b c d e:Value) (W:World),(Instr.index 96 (.agg #[a,b,c,d,e]) (.int .i64 4)).run Tryz.prog W=.ok e W:=fun a b c d e W=>by kernel_rfl
 have C0:=contains_c h x (i:=0) rfl rfl;have C1:=contains_c h x (i:=1) rfl rfl;have C2:=contains_c h x (i:=2) rfl rfl;have C3:=contains_c h x (i:=3) rfl rfl;have C4:=contains_c h x (i:=4) rfl rfl;have hv:Z9 x=if ([[42],[47],[37],[60,60],[62,62],[38],[38,94]]:List (List UInt8)).contains x then 5 else if ([[43],[45],[124],[94]]:List (List UInt8)).contains x then 4 else if ([[61,61],[33,61],[60],[60,61],[62],[62,61]]:List (List UInt8)).contains x then 3 else if ([[38,38]]:List (List UInt8)).contains x then 2 else if ([[124,124]]:List (List UInt8)).contains x then 1 else 0:=rfl
 rw[hv];clear hv hb h;generalize ([[42],[47],[37],[60,60],[62,62],[38],[38,94]]:List (List UInt8)).contains x=b0 at *;generalize ([[43],[45],[124],[94]]:List (List UInt8)).contains x=b1 at *;generalize ([[61,61],[33,61],[60],[60,61],[62],[62,61]]:List (List UInt8)).contains x=b2 at *;generalize ([[38,38]]:List (List UInt8)).contains x=b3 at *;generalize ([[124,124]]:List (List UInt8)).contains x=b4 at *;have C0:=Dh C0;have C1:=Dh C1;have C2:=Dh C2;have C3:=Dh C3;have C4:=Dh C4;go_enter Tryz.func65,Tryz.ntmps65
 go_wp2
 refine wp_loop_rounds 6 ?_;cases b0;rotate_left
 ·rw[rounds_succ];go_wp2_with (go_at_call 90;refine C0.out.mono ?_;rintro e w2 ⟨rfl,rfl⟩)
  go_ret;exact⟨rfl,rfl⟩
 cases b1;rotate_left
 ·rw[rounds_succ];go_wp2_with (go_at_call 90;refine C0.out.mono ?_;rintro e w2 ⟨rfl,rfl⟩)
  rw[rounds_succ];go_wp2_with (go_at_call 90;refine C1.out.mono ?_;rintro e w2 ⟨rfl,rfl⟩)
  go_ret;exact⟨rfl,rfl⟩
 cases b2;rotate_left
 ·rw[rounds_succ];go_wp2_with (go_at_call 90;refine C0.out.mono ?_;rintro e w2 ⟨rfl,rfl⟩)
  rw[rounds_succ];go_wp2_with (go_at_call 90;refine C1.out.mono ?_;rintro e w2 ⟨rfl,rfl⟩)
  rw[rounds_succ];go_wp2_with (go_at_call 90;refine C2.out.mono ?_;rintro e w2 ⟨rfl,rfl⟩)
  go_ret;exact⟨rfl,rfl⟩
 cases b3;rotate_left
 ·rw[rounds_succ];go_wp2_with (go_at_call 90;refine C0.out.mono ?_;rintro e w2 ⟨rfl,rfl⟩)
  rw[rounds_succ];go_wp2_with (go_at_call 90;refine C1.out.mono ?_;rintro e w2 ⟨rfl,rfl⟩)
  rw[rounds_succ];go_wp2_with (go_at_call 90;refine C2.out.mono ?_;rintro e w2 ⟨rfl,rfl⟩)
  rw[rounds_succ];go_wp2_with (go_at_call 90;refine C3.out.mono ?_;rintro e w2 ⟨rfl,rfl⟩)
  go_ret;exact⟨rfl,rfl⟩
 cases b4;rotate_left
 ·rw[rounds_succ];go_wp2_with (go_at_call 90;refine C0.out.mono ?_;rintro e w2 ⟨rfl,rfl⟩)
  rw[rounds_succ];go_wp2_with (go_at_call 90;refine C1.out.mono ?_;rintro e w2 ⟨rfl,rfl⟩)
  rw[rounds_succ];go_wp2_with (go_at_call 90;refine C2.out.mono ?_;rintro e w2 ⟨rfl,rfl⟩)
  rw[rounds_succ];go_wp2_with (go_at_call 90;refine C3.out.mono ?_;rintro e w2 ⟨rfl,rfl⟩)
  rw[rounds_succ];go_wp2_with (go_at_call 90;refine C4.out.mono ?_;rintro e w2 ⟨rfl,rfl⟩)
  go_ret;exact⟨rfl,rfl⟩
 ·rw[rounds_succ];go_wp2_with (go_at_call 90;refine C0.out.mono ?_;rintro e w2 ⟨rfl,rfl⟩)
  rw[rounds_succ];go_wp2_with (go_at_call 90;refine C1.out.mono ?_;rintro e w2 ⟨rfl,rfl⟩)
  rw[rounds_succ];go_wp2_with (go_at_call 90;refine C2.out.mono ?_;rintro e w2 ⟨rfl,rfl⟩)
  rw[rounds_succ];go_wp2_with (go_at_call 90;refine C3.out.mono ?_;rintro e w2 ⟨rfl,rfl⟩)
  rw[rounds_succ];go_wp2_with (go_at_call 90;refine C4.out.mono ?_;rintro e w2 ⟨rfl,rfl⟩)
  rw[rounds_succ];go_wp2
  go_ret;exact⟨rfl,rfl⟩
end Prs
end
section
open Go.RowKit
theorem Ak (s:ByteArray)(p:Nat):(s.extract p s.size).size=s.size-p:=by rw[←Xg,Lt,List.length_drop,Xg]
theorem Qqo (s:ByteArray)(w:World)(h:Laid w)(hs:s.size≤1073741824):Calls Tryz.prog 58 #[.string s] w fun e w'=>e=.returned (.int .i64 (Zp (bl s)))∧Below w.heap.size w w':=by
 go_enter Tryz.func58,Tryz.ntmps58
 go_wp2
 go_loopw [3] (fun at_ wr=>∃ pos:Nat,at_=.int .i64 pos∧pos≤s.size∧Hid (Zp (bl s)=pos+Zp ((bl s).drop pos))∧Below w.heap.size w wr) (fun at_ _=>s.size-(intOf at_).toNat)
 case atStart=>exact⟨0,rfl,by omega,Dh Ds,Below.refl _ _⟩
 case round=>
  obtain⟨pos,rfl,hp,HR,hB⟩:=hrel;by_cases hlt:pos<s.size
  ·have hlt':pos<(bl s).length:=by rw[Xg];exact hlt
   have hst:=Qap hlt';rw[Xg] at hst;have hrs:=Dh (fun h=>Qda hlt' h);have hrn:=Dh (fun h=>Qc9 hlt' h);have hbk:Hid (broken ((bl s).drop pos)=((Zl ((bl s).drop pos)).1==65533&&decide ((Zl ((bl s).drop pos)).2<2))):=Dh rfl;have hcall:=Qcz (s.extract pos s.size) wr (h.below hB) (by rw[Ak];omega);rw[Lt] at hcall;have HC:=Dh hcall;clear hcall hlt';generalize hd:Zl ((bl s).drop pos)=d at *;obtain⟨r,k⟩:=d;have HD:=Dh hd;clear hd;simp only[] at hst;have hw1:(pos:Int)<(s.size:Int):=by omega
   by_cases hr:r=65533∧k<2
   ·have hb:broken ((bl s).drop pos)=true:=by rw[hbk.out];simp[hr.1,hr.2]
    have hy:=Dh (hrn.out hb);have hr1:(((r:Nat):Int)==65533)=true:=by simp[hr.1]
    have hk2:(k:Int)<2:=by omega
    clear hrs hrn hbk hb hr;go_wp2_with fail
    refine HC.out.mono ?_;rintro e w1 ⟨rfl,hw⟩;have hB2:=Qb hB hw;clear hw hB HC;go_wp2
    go_ret;exact⟨Yh (by have h1:=HR.out;have h2:=hy.out;omega),hB2⟩
   ·have hb:broken ((bl s).drop pos)=false:=by rw[hbk.out,Bool.and_eq_false_iff];simp;omega
    have hy:=Dh (hrs.out hb);have hr1:((((r:Nat):Int)==65533)=false)∨((((r:Nat):Int)==65533)=true∧¬ (k:Int)<2):=by
     by_cases h1:r=65533
     ·right;exact⟨by simp[h1],by omega⟩
     ·left;simp;omega
    clear hrs hrn hbk hb hr;rcases hr1 with hr1|⟨hr1,hr2⟩;all_goals
     go_wp2_with fail
     refine HC.out.mono ?_;rintro e w1 ⟨rfl,hw⟩;have hB2:=Qb hB hw;clear hw hB HC;go_wp2
     go_roundw
     case rel=>exact⟨pos+k,by go_num,hst.2,Dh (by rw[HR.out,hy.out];omega),hB2⟩
     case measure=>simp[intOf];omega
  ·have he:Zp (bl s)=s.size:=by
    rw[HR.out,drop_end (by rw[Xg];exact hlt),Gs];omega
   have hpe:pos=s.size:=by omega
   subst hpe;have HE:=Dh he;clear he;go_wp2
   go_ret;exact⟨Yh (by rw[HE.out]),hB⟩
theorem Qjo (a b:ByteArray):bl (a++b)=bl a++bl b:=by
 unfold bl;simp
theorem Qj2:∀ z∈Fe,z.contains 32=false:=by decide
theorem Qi7 (l:List UInt8)(h:l.contains 32=true):isWord l=false:=by
 cases hw:isWord l with
 |false=>rfl
 |true=>
  have:=Qj2 l (by simpa [isWord] using hw);rw[this] at h;cases h
theorem word_c (s:ByteArray)(w:World)(h:Laid w)(hs:s.size≤1073741824):Calls Tryz.prog 93 #[.string s] w fun e w'=>e=.returned (.bool (isWord (bl s)))∧w=w':=by
 by_cases h1:s.size=0
 ·have e1:s.toList=[]:=by rw[Ug];exact(Vx s).2 h1
  have hr:isWord (bl s)=false:=by rw[(Vx s).2 h1];decide
  rw[hr];clear hr;go_enter Tryz.func93,Tryz.ntmps93
  go_wp2
  go_ret;exact⟨rfl,rfl⟩
 ·have e1:s.toList.isEmpty=false:=by
   rw[Ug,List.isEmpty_eq_false_iff];exact fun e=>h1 ((Vx s).1 e)
  have hc:=fun w=>has1_c s 32 w
  cases hb:hasB (bl s) 32
  ·have hr:=word_of (bl s) (fun e=>h1 ((Vx s).1 e)) (by
    intro hm;have:(bl s).contains 32=true:=by rw[List.contains_iff_mem];exact hm
    rw[show (bl s).contains 32=false from hb] at this;cases this)
   rw[hb] at hc;have HC:=Dh hc;have HR:=Dh hr;clear hc hr hb;go_enter Tryz.func93,Tryz.ntmps93
   go_wp2_with fail
   refine(HC.out _).mono ?_;rintro e w' ⟨rfl,rfl⟩;go_wp2_with fail
   refine(has_c _ _ _ h Dd).mono ?_;rintro e w' ⟨rfl,rfl⟩;go_wp2
   go_ret;exact⟨Vq (by rw[←HR.out];unfold hasL;rw[Qjo,Qjo];rfl),rfl⟩
  ·have hr:=Qi7 (bl s) hb;rw[hr];rw[hb] at hc;have HC:=Dh hc;clear hc hr hb;go_enter Tryz.func93,Tryz.ntmps93
   go_wp2_with fail
   refine(HC.out _).mono ?_;rintro e w' ⟨rfl,rfl⟩;go_wp2
   go_ret;exact⟨rfl,rfl⟩
theorem rname_c (s:ByteArray)(w:World)(hs:s.size≤1073741824):Calls Tryz.prog 79 #[.string s] w fun e w'=>e=.returned (.bool (U8 (bl s) && !isWord (bl s)))∧Below w.heap.size w w':=by
 have hc:=Qn6 s w hs;cases hn:U8 (bl s)
 ·rw[hn] at hc;have HC:=Dh hc;clear hc hn;go_enter Tryz.func79,Tryz.ntmps79
  go_wp2_with fail
  refine HC.out.mono ?_;rintro e w1 ⟨rfl,hw⟩;go_wp2
  go_ret;exact⟨rfl,hw⟩
 ·rw[hn] at hc;have HC:=Dh hc;clear hc hn;go_enter Tryz.func79,Tryz.ntmps79
  go_wp2_with fail
  refine HC.out.mono ?_;rintro e w1 ⟨rfl,hw⟩;go_wp2_with fail
  refine(Qfl s _).mono ?_;rintro e w2 ⟨rfl,hw2⟩;have hB:=Qb hw hw2;clear hw hw2;go_wp2
  go_ret;exact⟨Vq (by simp[inP,isWord]),hB⟩
def Qf0:ByteArray:=⟨#[97,98,99,100,101,102,65,66,67,68,69,70]⟩
def Qea (c:UInt8):Bool:=Qf0.data.toList.contains c
theorem idx_none (l:List UInt8)(c:UInt8)(h:l.contains c=false):Lib.indexByte l c = -1:=by
 have h1:=Ph l c;rw[h] at h1;have h2:=Lib.indexByte_ge l c;simp at h1;omega
theorem Qs6 (c:UInt8)(h:128≤c.toNat)(w:World):(convert 21 9 (.int .i32 (c.toNat:Int))).run Tryz.prog w=.ok (.string ⟨#[UInt8.ofNat (192+c.toNat / 64),UInt8.ofNat (128+c.toNat % 64)]⟩) w:=by
 have hc:=c.toNat_lt;rw[run_convert_int_string w _ _ _ _ Dk Dk];have e:Utf8.encode (c.toNat:Int)=⟨#[UInt8.ofNat (192+c.toNat / 64),UInt8.ofNat (128+c.toNat % 64)]⟩:=by
  unfold Utf8.encode;have hv:Utf8.valid (c.toNat:Int)=true:=by unfold Utf8.valid;simp;omega
  have h1:¬ (c.toNat:Int).toNat<128:=by omega
  have h2:(c.toNat:Int).toNat<2048:=by omega
  simp only[hv,if_true];rw[if_neg h1,if_pos h2];have e2:(c.toNat:Int).toNat=c.toNat:=by omega
  rw[e2]
 rw[e]
theorem Qo4 (c:UInt8)(h:128≤c.toNat)(w:World):Calls Tryz.prog 111 #[.string ⟨#[97,98,99,100,101,102,65,66,67,68,69,70]⟩,.int .i32 (c.toNat:Int)] w fun e w'=>e=.returned (.int .i64 (-1))∧Below w.heap.size w w':=by
 have hc:=c.toNat_lt;have hconv:=Qs6 c h;obtain⟨b0,hb0⟩:∃ b0:UInt8,b0=UInt8.ofNat (192+c.toNat / 64):=⟨_,rfl⟩;obtain⟨b1,hb1⟩:∃ b1:UInt8,b1=UInt8.ofNat (128+c.toNat % 64):=⟨_,rfl⟩;rw[←hb0,←hb1] at hconv;have hb1':128≤b1.toNat:=by rw[hb1];simp;omega
 have hv:Lib.validRune (c.toNat:Int)=true:=by unfold Lib.validRune;simp;omega
 have hr:∀ w,Calls Tryz.prog 115 #[.int .i32 (c.toNat:Int)] w fun e w'=>e=.returned (.bool (Lib.validRune (c.toNat:Int)))∧w=w':=fun w=>(Tryz.utf8_ValidRune (c.toNat:Int) w).mono fun _ _ ⟨h1,h2⟩=>⟨h1,h2.symm⟩
 rw[hv] at hr;have HR:=Dh hr;clear hr hv hb0 hb1;obtain⟨x,hx⟩:∃ x:Int,x=(c.toNat:Int):=⟨_,rfl⟩;rw[←hx] at hconv HR ⊢;have hx0:128≤x:=by omega
 have hx1:x<256:=by omega
 clear hx h hc;have hidx:∀ w,Calls Tryz.prog 61 #[.string ⟨#[99,100,101,102,65,66,67,68,69,70]⟩,.int .u8 (b1.toNat:Int)] w fun e w'=>e=.returned (.int .i64 (-1))∧w=w':=fun w=>by
  refine(Tryz.strings_IndexByte _ _ w).mono fun _ _ ⟨h1,h2⟩=>⟨?_,h2.symm⟩
  rw[h1];have hn:([99,100,101,102,65,66,67,68,69,70]:List UInt8).contains (b1.toNat:Int).toNat.toUInt8=false:=by
   rw[Qnb,←Bool.not_eq_true,List.contains_iff_mem];intro hm;have hall:∀ c∈([99,100,101,102,65,66,67,68,69,70]:List UInt8),c.toNat<128:=by decide
   have:=hall b1 hm;omega
  exact congrArg _ (congrArg _ (idx_none _ _ hn))
 have hne:((((⟨#[97,98,99,100,101,102,65,66,67,68,69,70]⟩:ByteArray)[1]'Dd).toNat:Int) != (((⟨#[b0,b1]⟩:ByteArray)[1]'(by show 1<2;decide)).toNat:Int))=true:=by
  rw[bne_iff_ne];show (98:Int)≠(b1.toNat:Int);omega
 go_enter Tryz.func111,Tryz.ntmps111
 go_wp2_with (first|(go_at_call 115;refine(HR.out _).mono ?_;rintro e w' ⟨rfl,rfl⟩))
 go_step3
 go_wp2
 refine wp_loop_rounds 2 ?_;rw[rounds_succ];go_wp2
 go_step3
 go_wp2
 go_quiet (fail)
 have hB:=Zg (Below.refl w.heap.size w) nq;generalize w.drewN nq=W2 at *;go_wp2
 go_quiet ((go_at_call 61;exact quiet_eq (hidx _)))
 go_wp2
 repeat (first|rw[Exit.noGoto_ret]|simp only[Exit.inBlock,Exit.then])
 go_ret;exact⟨rfl,Zg hB _⟩
theorem Qsl (c:UInt8)(w:World):Calls Tryz.prog 104 #[.string ⟨#[97,98,99,100,101,102,65,66,67,68,69,70]⟩,.int .i32 (c.toNat:Int)] w fun e w'=>e=.returned (.bool (Qea c))∧Below w.heap.size w w':=by
 by_cases h:c.toNat<128
 ·refine(Tryz.strings_ContainsRune_ascii _ _ w Dw Dw).mono fun e w' ⟨h1,h2⟩=>?_
  subst h2;refine⟨?_,Below.refl _ _⟩;rw[h1,Ph,Qnb];rfl
 ·have hi:=Qo4 c Dw w;have hr:Qea c=false:=by
   unfold Qea;rw[←Bool.not_eq_true,List.contains_iff_mem];intro hm;have hall:∀ c∈Qf0.data.toList,c.toNat<128:=by decide
   exact h (hall c hm)
  rw[hr];have HI:=Dh hi;clear hi hr;go_enter Tryz.func104,Tryz.ntmps104
  go_wp2_with fail
  refine HI.out.mono ?_;rintro e w1 ⟨rfl,hw⟩;go_wp2
  go_ret;exact⟨rfl,hw⟩
end
end Go.Proofs.YtcbkeecabcbogaaGreatDoor
