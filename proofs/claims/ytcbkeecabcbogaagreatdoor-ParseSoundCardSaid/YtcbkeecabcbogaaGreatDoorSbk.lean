/- Contract of scan.Tokens: the tokens of a text, or its first -/
import Derived.Test.YtcbkeecabcbogaaGreatDoorSbj
import Derived.Test.YtcbkeecabcbogaaGreatDoorSbe
import Derived.Test.YtcbkeecabcbogaaGreatDoorSab
set_option linter.unusedSimpArgs false
set_option linter.unusedVariables false
namespace Go.Proofs.YtcbkeecabcbogaaGreatDoor
section
open Go.RowKit
def X5 (t:Tok):List Value:=[.int .i64 t.kind,.string ⟨t.text.toArray⟩,.int .u64 t.num,.int .i64 (t.place:Int)]
def Me (ts:List Tok):List Value:=ts.flatMap X5
theorem Yf (ts:List Tok)(t:Tok):Me (ts++[t])=Me ts++X5 t:=by unfold Me;simp
theorem Qcy:∀ (ts:List Tok) (k:Nat) (h:k<ts.length) (j:Nat),j<4→(Me ts)[k*4+j]? = (X5 ts[k])[j]?
 |t::ts,0,_,j,hj=>by
  have:Me (t::ts)=X5 t++Me ts:=by unfold Me;simp
  rw[this,List.getElem?_append_left (by simp[X5];omega)];simp
 |t::ts,k+1,h,j,hj=>by
  have:Me (t::ts)=X5 t++Me ts:=by unfold Me;simp
  rw[this,List.getElem?_append_right (by simp[X5];omega)];have e:(k+1)*4+j-(X5 t).length=k*4+j:=by simp[X5];omega
  rw[e];exact Qcy ts k (by simpa using h) j hj
theorem ownsRow_below {w w':World}{base:Nat}{e:TypeId}{size:Nat}{v:Value}{n:Nat}{xs:List Value}(h:w.ownsRow base e size v n xs)(hb:Below w.heap.size w w'):w'.ownsRow base e size v n xs:=by
 refine⟨h.1,?_⟩;rcases h.2 with h2|⟨g,cap,cur,a,b,c,d⟩
 ·exact .inl h2
 ·refine .inr ⟨g,cap,cur,a,b,?_,d⟩;rw[hb.block g (Array.getElem?_eq_some_iff.1 c).1];exact c
def P6 (base:Nat)(R:Qpt)(e:Ending)(w':World):Prop:=match R with
 | .ok ts=>∃ v,e=.returned (.tuple #[v,.int .i64 0,.int .i64 0])∧w'.ownsRow base 46 4 v ts.length (Me ts)∧∀ t∈ts,Qgz t
 | .error (p,c)=>e=.returned (.tuple #[.slice none 0 0,.int .i64 (p:Int),.int .i64 c])
theorem ownsRow_base {w:World}{b b':Nat}{e:TypeId}{size:Nat}{v:Value}{n:Nat}{xs:List Value}(h:w.ownsRow b e size v n xs)(hb:b'≤b):w.ownsRow b' e size v n xs:=by
 refine⟨h.1,?_⟩;rcases h.2 with h2|⟨g,cap,cur,a,b,c,d⟩
 ·exact .inl h2
 ·exact .inr ⟨g,cap,cur,a,Nat.le_trans hb b,c,d⟩
theorem Y9 {w:World}{b:Nat}{v:Value}{n:Nat}{xs:List Value}(h:w.ownsRow b 46 4 v n xs):∀ W,(Builtin.len_ #[37] 3 #[v]).run Tryz.prog W=.ok (.int .i64 (n:Int)) W:=by
 intro W;rcases h.2 with ⟨rfl,rfl⟩|⟨g,cap,cur,rfl,-⟩
 ·kernel_rfl
 ·go_simp
theorem Yw (W:World)(t:Tok)(ty:TypeId):∀ j u,(X5 t)[j]? = some u→(W.alloc (.cells #[.int .i64 t.kind,.string ⟨t.text.toArray⟩,.int .u64 t.num,.int .i64 (t.place:Int)] ty)).cell? ((⟨W.heap.size,0,none⟩:Addr).add j)=some u:=by
 intro j u hj;match j,hj with
 |0,hj=>simp[X5] at hj;subst hj;simp[Addr.add]
 |1,hj=>simp[X5] at hj;subst hj;simp[Addr.add]
 |2,hj=>simp[X5] at hj;subst hj;simp[Addr.add]
 |3,hj=>simp[X5] at hj;subst hj;simp[Addr.add]
 |j+4,hj=>simp[X5] at hj
theorem Py (W:World)(n:Nat)(hn:n=W.heap.size)(t:Tok)(ty:TypeId):∀ j u,(X5 t)[j]? = some u→(W.alloc (.cells #[.int .i64 t.kind,.string ⟨t.text.toArray⟩,.int .u64 t.num,.int .i64 (t.place:Int)] ty)).cell? ((⟨n,0,none⟩:Addr).add j)=some u:=by
 subst hn;exact Yw W t ty
theorem Dy (t:Tok):∀ u∈X5 t,u.oneCell'=true:=by
 intro u hu;simp[X5] at hu;rcases hu with rfl|rfl|rfl|rfl <;> rfl
theorem Ql8 {w:World}{b:Nat}{ts:List Tok}{n g cap:Nat}{last:Tok}(h:w.ownsRow b 46 4 (.slice (some ⟨g,0,none⟩) (n+1) cap) (n+1) (Me ts))(hn:ts.length=n+1)(hl:ts.getLast? = some last):
  w.cell? ⟨g,n*4,none⟩=some (.int .i64 last.kind)∧w.cell? ⟨g,n*4+1,none⟩=some (.string ⟨last.text.toArray⟩)∧w.cell? ⟨g,n*4+2,none⟩=some (.int .u64 last.num)∧w.cell? ⟨g,n*4+3,none⟩=some (.int .i64 (last.place:Int)):=by
 have hlt:n<ts.length:=by omega
 have he:ts[n]=last:=by
  rw[List.getLast?_eq_getElem?,hn] at hl;rw[List.getElem?_eq_getElem Dw] at hl;simpa using hl
 have hc:=h.cells (g:=g) rfl;have key:∀ j,j<4→w.cell? ⟨g,n*4+j,none⟩=(X5 last)[j]? := by
  intro j hj;have h1:=Qcy ts n hlt j hj;rw[he] at h1;have h2:∃ u,(X5 last)[j]? = some u:=⟨_,List.getElem?_eq_getElem (by simp[X5];omega)⟩;obtain⟨u,hu⟩:=h2;rw[hu] at h1 ⊢
  have:=hc _ _ h1;rw[Lib.add_plain] at this;simpa using this
 exact⟨key 0 Dw,key 1 Dw,key 2 Dw,key 3 Dw⟩
theorem Tryz.Qsk:((Tryz.prog).info? 46).map (fun i=>(i.zero,i.size,i.bytes))=some (some (.agg #[.int .i64 0,.string ⟨#[]⟩,.int .u64 0,.int .i64 0]),4,40):=by kernel_rfl
set_option maxRecDepth 100000 in
set_option maxHeartbeats 4000000 in
theorem Qj7 (s:ByteArray)(w:World)(h:Laid w)(hs:s.size≤65536)(hv:Zp (bl s)=s.size):
  Calls Tryz.prog 30 #[.string s] w fun e w'=>P6 w.heap.size (lex (bl s) 0 false 0) e w'∧Below w.heap.size w w':=by
 obtain⟨i0,hi,hz0,hz1,hz2⟩:=info_parts Tryz.Qsk;have hwh:=Qqo s w h Dw;rw[hv] at hwh;have HWH:=Dh hwh;have hs1:(s.size:Int)≤65536:=by omega
 have hs2:decide ((65536:Int)<(s.size:Int))=false:=by rw[decide_eq_false_iff_not];omega
 have HI:=Dh hi;clear hi;clear hwh hv;go_enter Tryz.func30,Tryz.ntmps30
 go_wp2_with fail
 refine HWH.out.mono ?_;rintro e w1 ⟨rfl,hw1⟩;have hl1:=h.below hw1;clear HWH;go_wp2
 go_loopw [6,7,8] (fun v line at_ wr=>∃ (ts:List Tok) (ln pos:Nat),line=.int .i64 ln∧at_=.int .i64 pos∧pos≤s.size∧ln≤ts.length∧wr.ownsRow w1.heap.size 46 4 v ts.length (Me ts)∧Below w1.heap.size w1 wr∧Hid (∀ t∈ts,Qgz t)∧ts.length≤16384∧Hid (Qdp ts (lex ((bl s).drop pos) pos (Rn ln ts) ts.length)=lex (bl s) 0 false 0)) (fun _ _ at_ _=>s.size+1-(intOf at_).toNat)
 case atStart=>exact⟨[],0,0,rfl,rfl,by omega,by simp,World.ownsRow_nil _ _ _ _,Below.refl _ _,Dh Ds,by simp,Dh (Qmk _)⟩
 case round=>
  obtain⟨ts,ln,pos,rfl,rfl,hpos,hln,hown,hwr,HOK,hts,HLEX⟩:=hrel;have hl2:=hl1.below hwr;have hpi:(pos:Int)≤(s.size:Int):=by omega
  have htr:=trim_c (s.extract pos s.size);rw[Lt] at htr;have HTR:=Dh htr;clear htr;have hbl:=Qtb ((bl s).drop pos);rw[List.length_drop,Xg] at hbl;obtain⟨p1,hp1⟩:∃ p1,p1=pos+He ((bl s).drop pos):=⟨_,rfl⟩;have hd1:((bl s).drop pos).dropWhile V7=(bl s).drop p1:=by rw[hp1,←List.drop_drop,Qli]
  have hlex1:Qdp ts (lex ((bl s).drop p1) p1 (Rn ln ts) ts.length)=lex (bl s) 0 false 0:=by
   rw[←HLEX.out,Qfx ((bl s).drop pos),List.drop_drop,←hp1]
  have hw8:IntKind.i64.wrap ((pos:Int)+IntKind.i64.wrap (((s.size-pos:Nat):Int)-((((bl s).drop pos).dropWhile V7).length:Int)))=(p1:Int):=by
   rw[hd1,List.length_drop,Xg,IntKind.wrap_i64,IntKind.wrap_i64];omega
  have hp1s:p1≤s.size:=by omega
  have hp1p:pos≤p1:=by omega
  have HW8:=Dh hw8;have HD1:=Dh hd1;have HLEX1:=Dh hlex1;clear hbl hp1 hd1 hlex1 hw8 HLEX;have hpx:=fun w=>Ar (s.extract p1 s.size) ⟨#[47,47]⟩ w
  rw[Lt,show bl ⟨#[47,47]⟩=[47,47] from rfl] at hpx;have HPX:=Dh hpx;clear hpx;go_wp2_with fail
  refine wp_region_noPanic ?_;refine wp_region_held_drew (S:=(fun w'=>Below wr.heap.size wr w')) Dk ?_ (fun hHeld=>?_)
  ·(try dsimp only);first|exact(Below.refl _ _).drew|exact Below.refl _ _
  refine Ko 0 23 (v := ?_) rfl rfl Dk Dk Dk (fun _ _ _ h=>h) Dk Da ?_ ?_;rotate_left 1
  ·(intro w hSw;(try dsimp only at hSw);go_simp;try with_reducible rfl)
  try simp only[Act.put,List.setIfInBounds_toArray,List.set_cons_zero,List.set_cons_succ]
  refine Ko 1 24 (v := ?_) rfl rfl Dk Dk Dk (fun _ _ _ h=>h) Dk Da ?_ ?_;rotate_left 1
  ·(intro w hSw;(try dsimp only at hSw);go_simp;try with_reducible rfl)
  try simp only[Act.put,List.setIfInBounds_toArray,List.set_cons_zero,List.set_cons_succ]
  refine Ko 2 25 (v := ?_) rfl rfl Dk Dk Dk (fun _ _ _ h=>h) Dk Da ?_ ?_;rotate_left 1
  ·(intro w hSw;(try dsimp only at hSw);go_simp;try with_reducible rfl)
  try simp only[Act.put,List.setIfInBounds_toArray,List.set_cons_zero,List.set_cons_succ]
  refine Ko 3 26 (v := ?_) rfl rfl Dk Dk Dk (fun _ _ _ h=>h) Dk Da ?_ ?_;rotate_left 1
  ·(intro w hSw;(try dsimp only at hSw);go_simp;try with_reducible rfl)
  try simp only[Act.put,List.setIfInBounds_toArray,List.set_cons_zero,List.set_cons_succ]
  refine Ko 4 27 (v := ?_) rfl rfl Dk Dk Dk (fun _ _ _ h=>h) Dk Da ?_ ?_;rotate_left 1
  ·(intro w hSw;(try dsimp only at hSw);go_simp;try with_reducible rfl)
  try simp only[Act.put,List.setIfInBounds_toArray,List.set_cons_zero,List.set_cons_succ]
  refine Ko 5 28 (v := ?_) rfl rfl Dk Dk Dk (fun _ _ _ h=>h) Dk Da ?_ ?_;rotate_left 1
  ·(intro w hSw;(try dsimp only at hSw);go_simp;try with_reducible rfl)
  try simp only[Act.put,List.setIfInBounds_toArray,List.set_cons_zero,List.set_cons_succ]
  refine Ko 6 29 (v := ?_) rfl rfl Dk Dk Dk (fun _ _ _ h=>h) Dk Da ?_ ?_;rotate_left 1
  ·(intro w hSw;(try dsimp only at hSw);go_simp;try with_reducible rfl)
  try simp only[Act.put,List.setIfInBounds_toArray,List.set_cons_zero,List.set_cons_succ]
  refine Ko 7 30 (v := ?_) rfl rfl Dk Dk Dk (fun _ _ _ h=>h) Dk Da ?_ ?_;rotate_left 1
  ·(intro w hSw;(try dsimp only at hSw);go_simp;try with_reducible rfl)
  try simp only[Act.put,List.setIfInBounds_toArray,List.set_cons_zero,List.set_cons_succ]
  refine Qeb 8 rfl Dk Dk (fun K hK=>?_);go_simp;refine(HTR.out _).mono ?_;rintro e w2 ⟨rfl,hw2⟩;have hk2:=Qb hHeld hw2;clear hw2;go_wp2_with fail
  refine hK.out _ _ ?_ (fun hHeld=>?_)
  ·(try dsimp only);exact hk2
  clear hK K;try simp only[Act.put,List.setIfInBounds_toArray,List.set_cons_zero,List.set_cons_succ]
  refine Ko 9 32 (v := ?_) rfl rfl Dk Dk Dk (fun _ _ _ h=>h) Dk Da ?_ ?_;rotate_left 1
  ·(intro w hSw;(try dsimp only at hSw);go_simp;try with_reducible rfl)
  try simp only[Act.put,List.setIfInBounds_toArray,List.set_cons_zero,List.set_cons_succ]
  refine Ko 10 33 (v := ?_) rfl rfl Dk Dk Dk (fun _ _ _ h=>h) Dk Da ?_ ?_;rotate_left 1
  ·(intro w hSw;(try dsimp only at hSw);go_simp;try with_reducible rfl)
  try simp only[Act.put,List.setIfInBounds_toArray,List.set_cons_zero,List.set_cons_succ]
  refine Ko 11 34 (v := ?_) rfl rfl Dk Dk Dk (fun _ _ _ h=>h) Dk Da ?_ ?_;rotate_left 1
  ·(intro w hSw;(try dsimp only at hSw);go_simp;try with_reducible rfl)
  try simp only[Act.put,List.setIfInBounds_toArray,List.set_cons_zero,List.set_cons_succ]
  refine Ko 12 8 (v := ?_) rfl rfl Dk Dk Dk (fun _ _ _ h=>h) Dk Da ?_ ?_;rotate_left 1
  ·(intro w hSw;(try dsimp only at hSw);go_simp;try with_reducible rfl)
  try simp only[Act.put,List.setIfInBounds_toArray,List.set_cons_zero,List.set_cons_succ]
  refine wpAnyH_done Dk ?_ _;refine NoPanic.normal ?_;rw[HW8.out];clear HW8 HTR;have hl3:=hl2.below hHeld;have hown2:=ownsRow_below hown hHeld;have hB2:Below w1.heap.size w1 w2:=Qb hwr hHeld;clear hown hwr hHeld hl2;have hp1i:(p1:Int)≤(s.size:Int):=by omega
  cases hR:Ti ((bl s).drop p1)
  ·have hpx0:=HPX.out;rw[show Qoa [47,47] ((bl s).drop p1)=Ti ((bl s).drop p1) from rfl,hR] at hpx0;have HP0:=Dh hpx0;have HRM:=Dh hR;have hnb:∀ b m,(bl s).drop p1=b::m→V7 b=false:=fun b m e=>Qhb _ ((bl s).drop pos) b m (by rw[HD1.out];exact e)
   have HNB:=Dh hnb;clear hpx0 HPX hR hnb;by_cases hend:p1=s.size
   ·have hdr:(bl s).drop p1=[]:=by rw[List.drop_eq_nil_iff,Xg];omega
    have hq:((p1:Int)==(s.size:Int))=true:=by rw[hend];simp
    have HEND:=Dh hend;clear hend;have hx:=HLEX1.out;rw[hdr,N9] at hx;have hlen:=Y9 hown2;by_cases hA:ln<ts.length
    ·obtain⟨n,hn⟩:∃ n,ts.length=n+1:=⟨ts.length-1,by omega⟩;obtain⟨last,hlast⟩:∃ t,ts.getLast? = some t:=by
      cases h:ts.getLast? with
      |none=>rw[List.getLast?_eq_none_iff] at h;rw[h] at hn;simp at hn
      |some t=>exact⟨t,rfl⟩
     have hopn:Rn ln ts=Zw last:=by unfold Rn;rw[hlast,decide_eq_true hA];rfl
     have hlok:Qgz last:=HOK.out last (List.mem_of_getLast? hlast);rw[hopn] at hx;have hown0:=hown2;rw[hn] at hown0;rcases hown0.2 with ⟨-,h0⟩|⟨g,cap,cur,rfl,-⟩
     ·exact absurd h0 Dw
     obtain⟨k0,k1,k2,k3⟩:=Ql8 hown0 hn hlast;have HN:=Dh hn;have hends:=fun w=>Qm2 last w hlok
     have hA1:(ln:Int)<((n+1:Nat):Int):=by omega
     have hn1:n+1≤16384:=by omega
     rw[hn] at hown2 hlen;have hlna:ln≤n+1:=by omega
     have HLN:=Dh hln;have HTS:=Dh hts;have HAA:=Dh hA;clear hown0 hn hlast hopn hln hts hA;cases hcl:Zw last
     ·rw[hcl] at hx hends;have HE:=Dh hends;have HX:=Dh hx;clear hends hx hcl hlok;go_wp2_with (first|(go_at_call 60;refine(HP0.out _).mono ?_;rintro e w' ⟨rfl,rfl⟩)|(go_at_call 62;refine(HE.out _).mono ?_;rintro e w3 ⟨rfl,hw3⟩;have hown3:=ownsRow_below hown2 hw3;have hB3:=Qb hB2 hw3;clear hown2 hw3 k0 k1 k2 k3))
      go_ret3
      refine⟨?_,Qb hw1 hB3⟩;rw[←HX.out];show P6 _ (Qdp ts (.ok [])) _ _
      rw[show Qdp ts (.ok [])=.ok ts by simp[Qdp]];exact⟨_,rfl,ownsRow_base (by rw[HN.out];exact hown3) hw1.size,HOK.out⟩
     ·rw[hcl] at hx hends;have HE:=Dh hends;clear hends hcl hlok;simp only[if_true] at hx;by_cases hfull:16384≤ts.length
      ·rw[if_pos hfull] at hx;have HX:=Dh hx;have hn2:((16384:Int)≤((n+1:Nat):Int)):=by have:=HN.out;omega
       clear hx hfull;go_wp2_with (first|(go_at_call 60;refine(HP0.out _).mono ?_;rintro e w' ⟨rfl,rfl⟩)|(go_at_call 62;refine(HE.out _).mono ?_;rintro e w3 ⟨rfl,hw3⟩;have hown3:=ownsRow_below hown2 hw3;have hB3:=Qb hB2 hw3;clear hown2 hw3 k0 k1 k2 k3))
       go_ret3
       exact⟨by rw[←HX.out];exact rfl,Qb hw1 hB3⟩
      ·rw[if_neg hfull] at hx;have HX:=Dh hx;have hn2:¬ ((16384:Int)≤((n+1:Nat):Int)):=by have:=HN.out;omega
       have HFULL:=Dh hfull;clear hx hfull;go_wp2_with (first|(go_at_call 60;refine(HP0.out _).mono ?_;rintro e w' ⟨rfl,rfl⟩)|(go_at_call 62;refine(HE.out _).mono ?_;rintro e w3 ⟨rfl,hw3⟩;have hown3:=ownsRow_below hown2 hw3;have hB3:=Qb hB2 hw3;clear hown2 hw3 k0 k1 k2 k3)|(at_builtin;refine wpList_append_own _ rfl _ _ 37 rfl w1.heap.size 46 i0 (.agg #[.int .i64 0,.string ⟨#[]⟩,.int .u64 0,.int .i64 0]) 4 40 Tryz.underlying37 HI.out hz0 hz1 hz2 rfl Dd _ _ _ rfl (hown3.alloc _) ⟨w3.heap.size,0,none⟩ 1 1 (X5 (Z4 p1)) rfl rfl (Yw _ (Z4 p1) _) (Dy _) (by unfold maxLen;omega) Dw (by have:=hB3.size;simp;omega) ?_;intro v4 w4 hown4 hgrow4 hnil4;have hB4:Below w1.heap.size w1 w4:=Below.grown (hB3.alloc hB3.size _) hgrow4 (by have:=hB3.size;simp;omega) (fun j hj=>by have:=(hown3.lt _ hj).1;omega);have hlen4:=Y9 hown4;clear hgrow4 hnil4))
       go_ret3
       refine⟨?_,Qb hw1 hB4⟩;rw[←HX.out];show P6 _ (Qdp ts (.ok [Z4 p1])) _ _
       refine⟨_,rfl,ownsRow_base (by rw[List.length_append,Yf,HN.out];exact hown4) hw1.size,?_⟩;intro t ht;rcases List.mem_append.1 ht with ht|ht
       ·exact HOK.out t ht
       ·rw[List.mem_singleton.1 ht];exact .inr ⟨rfl,(by decide:Jq.contains []=false)⟩
    ·have hopn:Rn ln ts=false:=by unfold Rn;rw[decide_eq_false hA];rfl
     rw[hopn] at hx;have HX:=Dh hx;have hA1:¬ (ln:Int)<(ts.length:Int):=by omega
     have hlnl:ln=ts.length:=by omega
     clear hx hopn hA;go_wp2_with (first|(go_at_call 60;refine(HP0.out _).mono ?_;rintro e w' ⟨rfl,rfl⟩))
     go_ret3
     refine⟨?_,Qb hw1 hB2⟩;rw[←HX.out];show P6 _ (Qdp ts (.ok [])) _ _
     rw[show Qdp ts (.ok [])=.ok ts by simp[Qdp]];exact⟨_,rfl,ownsRow_base hown2 hw1.size,HOK.out⟩
   ·have hlt:p1<s.size:=by omega
    by_cases hb:s[p1]=10
    ·have hdr:(bl s).drop p1=10::(bl s).drop (p1+1):=by
      rw[List.drop_eq_getElem_cons (by rw[Xg];exact hlt)];congr 1
     have hq:((p1:Int)==(s.size:Int))=false:=by rw[beq_eq_false_iff_ne];omega
     have hq2:((s[p1].toNat:Int)==10)=true:=by rw[hb];rfl
     have hlt1:(p1:Int)<(s.size:Int):=by omega
     clear hend hb;have hx:=HLEX1.out;rw[hdr,Qad] at hx;have hlen:=Y9 hown2;by_cases hA:ln<ts.length
     ·obtain⟨n,hn⟩:∃ n,ts.length=n+1:=⟨ts.length-1,by omega⟩;obtain⟨last,hlast⟩:∃ t,ts.getLast? = some t:=by
       cases h:ts.getLast? with
       |none=>rw[List.getLast?_eq_none_iff] at h;rw[h] at hn;simp at hn
       |some t=>exact⟨t,rfl⟩
      have hopn:Rn ln ts=Zw last:=by unfold Rn;rw[hlast,decide_eq_true hA];rfl
      have hlok:Qgz last:=HOK.out last (List.mem_of_getLast? hlast);rw[hopn] at hx;have hown0:=hown2;rw[hn] at hown0;rcases hown0.2 with ⟨-,h0⟩|⟨g,cap,cur,rfl,-⟩
      ·exact absurd h0 Dw
      obtain⟨k0,k1,k2,k3⟩:=Ql8 hown0 hn hlast;have HN:=Dh hn;have hends:=fun w=>Qm2 last w hlok
      have hA1:(ln:Int)<((n+1:Nat):Int):=by omega
      have hn1:n+1≤16384:=by omega
      rw[hn] at hown2 hlen;have hlna:ln≤n+1:=by omega
      have HLN:=Dh hln;have HTS:=Dh hts;have HAA:=Dh hA;clear hown0 hn hlast hopn hln hts hA;cases hcl:Zw last
      ·rw[hcl] at hx hends;have HE:=Dh hends;have HX:=Dh hx;clear hends hx hcl hlok;go_wp2_with (first|(go_at_call 60;refine(HP0.out _).mono ?_;rintro e w' ⟨rfl,rfl⟩)|(go_at_call 62;refine(HE.out _).mono ?_;rintro e w3 ⟨rfl,hw3⟩;have hown3:=ownsRow_below hown2 hw3;have hB3:=Qb hB2 hw3;clear hown2 hw3 k0 k1 k2 k3))
       go_roundw
       case rel=>exact⟨ts,ts.length,p1+1,by rw[HN.out];rfl,by go_num,by omega,Nat.le_refl _,(by rw[HN.out];exact hown3),hB3,HOK,HTS.out,Dh (by rw[Bo];exact HX.out)⟩
       case measure=>simp[intOf];omega
      ·rw[hcl] at hx hends;have HE:=Dh hends;clear hends hcl hlok;simp only[if_true] at hx;by_cases hfull:16384≤ts.length
       ·rw[if_pos hfull] at hx;have HX:=Dh hx;have hn2:((16384:Int)≤((n+1:Nat):Int)):=by have:=HN.out;omega
        clear hx hfull;go_wp2_with (first|(go_at_call 60;refine(HP0.out _).mono ?_;rintro e w' ⟨rfl,rfl⟩)|(go_at_call 62;refine(HE.out _).mono ?_;rintro e w3 ⟨rfl,hw3⟩;have hown3:=ownsRow_below hown2 hw3;have hB3:=Qb hB2 hw3;clear hown2 hw3 k0 k1 k2 k3))
        go_ret3
        exact⟨by rw[←HX.out];exact rfl,Qb hw1 hB3⟩
       ·rw[if_neg hfull] at hx;have HX:=Dh hx;have hn2:¬ ((16384:Int)≤((n+1:Nat):Int)):=by have:=HN.out;omega
        have HFULL:=Dh hfull;clear hx hfull;go_wp2_with (first|(go_at_call 60;refine(HP0.out _).mono ?_;rintro e w' ⟨rfl,rfl⟩)|(go_at_call 62;refine(HE.out _).mono ?_;rintro e w3 ⟨rfl,hw3⟩;have hown3:=ownsRow_below hown2 hw3;have hB3:=Qb hB2 hw3;clear hown2 hw3 k0 k1 k2 k3)|(at_builtin;refine wpList_append_own _ rfl _ _ 37 rfl w1.heap.size 46 i0 (.agg #[.int .i64 0,.string ⟨#[]⟩,.int .u64 0,.int .i64 0]) 4 40 Tryz.underlying37 HI.out hz0 hz1 hz2 rfl Dd _ _ _ rfl (hown3.alloc _) ⟨w3.heap.size,0,none⟩ 1 1 (X5 (Z4 p1)) rfl rfl (Yw _ (Z4 p1) _) (Dy _) (by unfold maxLen;omega) Dw (by have:=hB3.size;simp;omega) ?_;intro v4 w4 hown4 hgrow4 hnil4;have hB4:Below w1.heap.size w1 w4:=Below.grown (hB3.alloc hB3.size _) hgrow4 (by have:=hB3.size;simp;omega) (fun j hj=>by have:=(hown3.lt _ hj).1;omega);have hlen4:=Y9 hown4;clear hgrow4 hnil4))
        go_roundw
        case rel=>exact⟨ts++[Z4 p1],n+2,p1+1,by rfl,by go_num,by omega,by simp[HN.out],(by rw[List.length_append,Yf,HN.out];exact hown4),hB4,Dh (by
         intro t ht;rcases List.mem_append.1 ht with ht|ht
         ·exact HOK.out t ht
         ·rw[List.mem_singleton.1 ht];exact .inr ⟨rfl,(by decide:Jq.contains []=false)⟩),by have:=HFULL.out;simp;omega,Dh (by
         have h1:=HX.out;rw[G6] at h1;rw[show n+2=(ts++[Z4 p1]).length by simp[HN.out],Bo,List.length_append]
         exact h1)⟩
        case measure=>simp[intOf];omega
     ·have hopn:Rn ln ts=false:=by unfold Rn;rw[decide_eq_false hA];rfl
      rw[hopn] at hx;have HX:=Dh hx;have hA1:¬ (ln:Int)<(ts.length:Int):=by omega
      have hlnl:ln=ts.length:=by omega
      clear hx hopn hA;go_wp2_with (first|(go_at_call 60;refine(HP0.out _).mono ?_;rintro e w' ⟨rfl,rfl⟩))
      go_roundw
      case rel=>exact⟨ts,ts.length,p1+1,by rfl,by go_num,by omega,Nat.le_refl _,hown2,hB2,HOK,by omega,Dh (by rw[Bo];exact HX.out)⟩
      case measure=>simp[intOf];omega
    ·have hst:starts ((bl s).drop p1)=true:=by
      have hdr:(bl s).drop p1=s[p1]::(bl s).drop (p1+1):=by
       rw[List.drop_eq_getElem_cons (by rw[Xg];exact hlt)];congr 1
      have h1:=HRM.out;have h2:=HNB.out _ _ hdr;rw[hdr] at h1 ⊢;simp[starts,h1,h2,hb]
     have hq:((p1:Int)==(s.size:Int))=false:=by rw[beq_eq_false_iff_ne];omega
     have hq2:((s[p1].toNat:Int)==10)=false:=by
      rw[beq_eq_false_iff_ne];intro e;apply hb;apply UInt8.toNat_inj.1;show _=10;omega
     have hlt1:(p1:Int)<(s.size:Int):=by omega
     have hx:=HLEX1.out;rw[F9 _ _ _ _ hst] at hx;have ho:=one_c (s.extract p1 s.size) p1 w2 hl3 (by rw[Ak];omega) (by rw[Ak];omega);rw[Lt] at ho;have hof:=Qcs ((bl s).drop p1) p1;rw[List.length_drop,Xg] at hof;have hok1:=Qmo ((bl s).drop p1) p1;have hop:=one_pos ((bl s).drop p1) p1 (by intro e;rw[List.drop_eq_nil_iff,Xg] at e;omega);have hlen:=Y9 hown2;have HOKT:=Dh hok1;have HOP:=Dh hop;clear hend hb hst hok1 hop;generalize Ym ((bl s).drop p1) p1=r at *;obtain⟨t,k,er⟩:=r;simp only[] at hx ho hof;have HO:=Dh ho;clear ho;by_cases her:er=0
     ·have hk1:=HOP.out her;have hto:=HOKT.out her;simp only[] at hk1 hto;have HTO:=Dh hto;rw[if_neg (by rw[her];simp)] at hx;have herb:(er==0)=true:=by rw[her];rfl
      have herb2:(er != 0)=false:=by rw[her];rfl
      have HER:=Dh her;clear her HOP HOKT hto;obtain⟨kind,text,num,place⟩:=t;unfold Qh0 at HO;by_cases hfull:16384≤ts.length
      ·rw[if_pos hfull] at hx;have HX:=Dh hx;have hf2:(16384:Int)≤(ts.length:Int):=by omega
       clear hx;go_wp2_with (first|(go_at_call 60;refine(HP0.out _).mono ?_;rintro e w' ⟨rfl,rfl⟩)|(go_at_call 63;refine HO.out.mono ?_;rintro e w3 ⟨rfl,hw3⟩;have hown3:=ownsRow_below hown2 hw3;have hB3:=Qb hB2 hw3;clear hown2 hw3))
       go_ret3
       exact⟨by rw[←HX.out];exact rfl,Qb hw1 ((hB3.alloc hB3.size _))⟩
      ·rw[if_neg hfull,G6] at hx;have HX:=Dh hx;have hf2:¬ (16384:Int)≤(ts.length:Int):=by omega
       clear hx;go_wp2_with (first|(go_at_call 60;refine(HP0.out _).mono ?_;rintro e w' ⟨rfl,rfl⟩)|(go_at_call 63;refine HO.out.mono ?_;rintro e w3 ⟨rfl,hw3⟩;have hown3:=ownsRow_below hown2 hw3;have hB3:=Qb hB2 hw3;clear hown2 hw3)|(at_builtin;refine wpList_append_own _ rfl _ _ 37 rfl w1.heap.size 46 i0 (.agg #[.int .i64 0,.string ⟨#[]⟩,.int .u64 0,.int .i64 0]) 4 40 Tryz.underlying37 HI.out hz0 hz1 hz2 rfl Dd _ _ _ rfl ((hown3.alloc _).alloc _) ⟨w3.heap.size+1,0,none⟩ 1 1 (X5 ⟨kind,text,num,place⟩) rfl rfl (Py (w3.alloc _) _ Ds ⟨kind,text,num,place⟩ _) (Dy _) (by unfold maxLen;omega) Dw (by have:=hB3.size;simp;omega) ?_;intro v4 w4 hown4 hgrow4 hnil4;have hB4:Below w1.heap.size w1 w4:=Below.grown ((hB3.alloc hB3.size _).alloc (by have:=hB3.size;simp;omega) _) hgrow4 (by have:=hB3.size;simp;omega) (fun j hj=>by have:=(hown3.lt _ hj).1;omega);have hlen4:=Y9 hown4;clear hgrow4 hnil4))
       go_roundw
       case rel=>exact⟨ts++[⟨kind,text,num,place⟩],ln,p1+k,by rfl,by go_num,by omega,by simp;omega,(by rw[List.length_append,Yf];exact hown4),hB4,Dh (by
        intro t ht;rcases List.mem_append.1 ht with ht|ht
        ·exact HOK.out t ht
        ·rw[List.mem_singleton.1 ht];exact HTO.out),by simp;omega,Dh (by
        rw[opn_last ts _ ln hln,List.length_append,←HX.out,List.drop_drop];rfl)⟩
       case measure=>simp[intOf];omega
     ·rw[if_pos her] at hx;have HX:=Dh hx;have herb:(er==0)=false:=by simpa using her
      have herb2:(er != 0)=true:=by simpa using her
      clear her hx HOP HOKT;obtain⟨kind,text,num,place⟩:=t;unfold Qh0 at HO;go_wp2_with (first|(go_at_call 60;refine(HP0.out _).mono ?_;rintro e w' ⟨rfl,rfl⟩)|(go_at_call 63;refine HO.out.mono ?_;rintro e w3 ⟨rfl,hw3⟩;have hown3:=ownsRow_below hown2 hw3;have hB3:=Qb hB2 hw3;clear hown2 hw3))
      go_ret3
      exact⟨by rw[←HX.out];exact rfl,Qb hw1 ((hB3.alloc hB3.size _))⟩
  ·have hpx0:=HPX.out;rw[show Qoa [47,47] ((bl s).drop p1)=Ti ((bl s).drop p1) from rfl,hR] at hpx0;have HP0:=Dh hpx0;have hix:=fun w=>index_c (s.extract p1 s.size) w
   rw[Lt] at hix;have hil:=Qo3 ((bl s).drop p1);have hjl:=Qk7 ((bl s).drop p1);rw[List.length_drop,Xg] at hil hjl;have hlex2:=HLEX1.out;rw[Cb _ _ _ _ hR,List.drop_drop] at hlex2;obtain⟨j,hj⟩:∃ j,j=Zv ((bl s).drop p1):=⟨_,rfl⟩;rw[←hj] at hil hjl hlex2;obtain⟨p2,hp2⟩:∃ p2,p2=p1+j:=⟨_,rfl⟩;rw[←hp2] at hlex2;have HLEX2:=Dh hlex2;have hsum:(p1:Int)+(j:Int)=(p2:Int):=by omega
   have hp2s:p2≤s.size:=by omega
   have hp2p:pos≤p2:=by omega
   have hp2i:(p2:Int)≤(s.size:Int):=by omega
   have hj0:¬ (j:Int)<0:=by omega
   clear hpx0 HPX hR hlex2 hj HD1 HLEX1;by_cases hneg:Lib.indexByte ((bl s).drop p1) 10<0
   ·rw[if_pos hneg] at hil;have hend:p2=s.size:=by omega
    have hk:(s.size:Int)-(p1:Int)=(j:Int):=by omega
    have HIX:=Dh hix;clear hix hil hjl hp2;generalize Lib.indexByte ((bl s).drop p1) 10=x at *;have hdr:(bl s).drop p2=[]:=by rw[List.drop_eq_nil_iff,Xg];omega
    have hq:((p2:Int)==(s.size:Int))=true:=by rw[hend];simp
    have HEND:=Dh hend;clear hend;have hx:=HLEX2.out;rw[hdr,N9] at hx;have hlen:=Y9 hown2;by_cases hA:ln<ts.length
    ·obtain⟨n,hn⟩:∃ n,ts.length=n+1:=⟨ts.length-1,by omega⟩;obtain⟨last,hlast⟩:∃ t,ts.getLast? = some t:=by
      cases h:ts.getLast? with
      |none=>rw[List.getLast?_eq_none_iff] at h;rw[h] at hn;simp at hn
      |some t=>exact⟨t,rfl⟩
     have hopn:Rn ln ts=Zw last:=by unfold Rn;rw[hlast,decide_eq_true hA];rfl
     have hlok:Qgz last:=HOK.out last (List.mem_of_getLast? hlast);rw[hopn] at hx;have hown0:=hown2;rw[hn] at hown0;rcases hown0.2 with ⟨-,h0⟩|⟨g,cap,cur,rfl,-⟩
     ·exact absurd h0 Dw
     obtain⟨k0,k1,k2,k3⟩:=Ql8 hown0 hn hlast;have HN:=Dh hn;have hends:=fun w=>Qm2 last w hlok
     have hA1:(ln:Int)<((n+1:Nat):Int):=by omega
     have hn1:n+1≤16384:=by omega
     rw[hn] at hown2 hlen;have hlna:ln≤n+1:=by omega
     have HLN:=Dh hln;have HTS:=Dh hts;have HAA:=Dh hA;clear hown0 hn hlast hopn hln hts hA;cases hcl:Zw last
     ·rw[hcl] at hx hends;have HE:=Dh hends;have HX:=Dh hx;clear hends hx hcl hlok;go_wp2_with (first|(go_at_call 60;refine(HP0.out _).mono ?_;rintro e w' ⟨rfl,rfl⟩)|(go_at_call 61;refine(HIX.out _).mono ?_;rintro e w' ⟨rfl,rfl⟩)|(go_at_call 62;refine(HE.out _).mono ?_;rintro e w3 ⟨rfl,hw3⟩;have hown3:=ownsRow_below hown2 hw3;have hB3:=Qb hB2 hw3;clear hown2 hw3 k0 k1 k2 k3))
      go_ret3
      refine⟨?_,Qb hw1 hB3⟩;rw[←HX.out];show P6 _ (Qdp ts (.ok [])) _ _
      rw[show Qdp ts (.ok [])=.ok ts by simp[Qdp]];exact⟨_,rfl,ownsRow_base (by rw[HN.out];exact hown3) hw1.size,HOK.out⟩
     ·rw[hcl] at hx hends;have HE:=Dh hends;clear hends hcl hlok;simp only[if_true] at hx;by_cases hfull:16384≤ts.length
      ·rw[if_pos hfull] at hx;have HX:=Dh hx;have hn2:((16384:Int)≤((n+1:Nat):Int)):=by have:=HN.out;omega
       clear hx hfull;go_wp2_with (first|(go_at_call 60;refine(HP0.out _).mono ?_;rintro e w' ⟨rfl,rfl⟩)|(go_at_call 61;refine(HIX.out _).mono ?_;rintro e w' ⟨rfl,rfl⟩)|(go_at_call 62;refine(HE.out _).mono ?_;rintro e w3 ⟨rfl,hw3⟩;have hown3:=ownsRow_below hown2 hw3;have hB3:=Qb hB2 hw3;clear hown2 hw3 k0 k1 k2 k3))
       go_ret3
       exact⟨by rw[←HX.out];exact rfl,Qb hw1 hB3⟩
      ·rw[if_neg hfull] at hx;have HX:=Dh hx;have hn2:¬ ((16384:Int)≤((n+1:Nat):Int)):=by have:=HN.out;omega
       have HFULL:=Dh hfull;clear hx hfull;go_wp2_with (first|(go_at_call 60;refine(HP0.out _).mono ?_;rintro e w' ⟨rfl,rfl⟩)|(go_at_call 61;refine(HIX.out _).mono ?_;rintro e w' ⟨rfl,rfl⟩)|(go_at_call 62;refine(HE.out _).mono ?_;rintro e w3 ⟨rfl,hw3⟩;have hown3:=ownsRow_below hown2 hw3;have hB3:=Qb hB2 hw3;clear hown2 hw3 k0 k1 k2 k3)|(at_builtin;refine wpList_append_own _ rfl _ _ 37 rfl w1.heap.size 46 i0 (.agg #[.int .i64 0,.string ⟨#[]⟩,.int .u64 0,.int .i64 0]) 4 40 Tryz.underlying37 HI.out hz0 hz1 hz2 rfl Dd _ _ _ rfl (hown3.alloc _) ⟨w3.heap.size,0,none⟩ 1 1 (X5 (Z4 p2)) rfl rfl (Yw _ (Z4 p2) _) (Dy _) (by unfold maxLen;omega) Dw (by have:=hB3.size;simp;omega) ?_;intro v4 w4 hown4 hgrow4 hnil4;have hB4:Below w1.heap.size w1 w4:=Below.grown (hB3.alloc hB3.size _) hgrow4 (by have:=hB3.size;simp;omega) (fun j hj=>by have:=(hown3.lt _ hj).1;omega);have hlen4:=Y9 hown4;clear hgrow4 hnil4))
       go_ret3
       refine⟨?_,Qb hw1 hB4⟩;rw[←HX.out];show P6 _ (Qdp ts (.ok [Z4 p2])) _ _
       refine⟨_,rfl,ownsRow_base (by rw[List.length_append,Yf,HN.out];exact hown4) hw1.size,?_⟩;intro t ht;rcases List.mem_append.1 ht with ht|ht
       ·exact HOK.out t ht
       ·rw[List.mem_singleton.1 ht];exact .inr ⟨rfl,(by decide:Jq.contains []=false)⟩
    ·have hopn:Rn ln ts=false:=by unfold Rn;rw[decide_eq_false hA];rfl
     rw[hopn] at hx;have HX:=Dh hx;have hA1:¬ (ln:Int)<(ts.length:Int):=by omega
     have hlnl:ln=ts.length:=by omega
     clear hx hopn hA;go_wp2_with (first|(go_at_call 60;refine(HP0.out _).mono ?_;rintro e w' ⟨rfl,rfl⟩)|(go_at_call 61;refine(HIX.out _).mono ?_;rintro e w' ⟨rfl,rfl⟩))
     go_ret3
     refine⟨?_,Qb hw1 hB2⟩;rw[←HX.out];show P6 _ (Qdp ts (.ok [])) _ _
     rw[show Qdp ts (.ok [])=.ok ts by simp[Qdp]];exact⟨_,rfl,ownsRow_base hown2 hw1.size,HOK.out⟩
   ·rw[if_neg hneg] at hil;rw[hil] at hix;have HIX:=Dh hix;have hsome:=(Lib.indexByte_some (l:=(bl s).drop p1) (c:=10) (o:=j) hil).1;have hdr:(bl s).drop p2=10::(bl s).drop (p2+1):=by
     rw[List.getElem?_drop,←hp2] at hsome;obtain⟨h1,h2⟩:=List.getElem?_eq_some_iff.1 hsome;rw[List.drop_eq_getElem_cons h1,h2]
    have hlt:p2<s.size:=by
     rw[List.getElem?_drop,←hp2] at hsome;obtain⟨h1,h2⟩:=List.getElem?_eq_some_iff.1 hsome;rw[Xg] at h1;exact h1
    have hb:s[p2]=10:=by
     have h1:=Rq s p2 hlt;rw[List.getElem?_drop,←hp2,h1] at hsome;exact Option.some.inj hsome
    have hend:¬ p2=s.size:=by omega
    clear hix hil hjl hp2 hneg hsome;have hq:((p2:Int)==(s.size:Int))=false:=by rw[beq_eq_false_iff_ne];omega
    have hq2:((s[p2].toNat:Int)==10)=true:=by rw[hb];rfl
    have hlt1:(p2:Int)<(s.size:Int):=by omega
    clear hend hb;have hx:=HLEX2.out;rw[hdr,Qad] at hx;have hlen:=Y9 hown2;by_cases hA:ln<ts.length
    ·obtain⟨n,hn⟩:∃ n,ts.length=n+1:=⟨ts.length-1,by omega⟩;obtain⟨last,hlast⟩:∃ t,ts.getLast? = some t:=by
      cases h:ts.getLast? with
      |none=>rw[List.getLast?_eq_none_iff] at h;rw[h] at hn;simp at hn
      |some t=>exact⟨t,rfl⟩
     have hopn:Rn ln ts=Zw last:=by unfold Rn;rw[hlast,decide_eq_true hA];rfl
     have hlok:Qgz last:=HOK.out last (List.mem_of_getLast? hlast);rw[hopn] at hx;have hown0:=hown2;rw[hn] at hown0;rcases hown0.2 with ⟨-,h0⟩|⟨g,cap,cur,rfl,-⟩
     ·exact absurd h0 Dw
     obtain⟨k0,k1,k2,k3⟩:=Ql8 hown0 hn hlast;have HN:=Dh hn;have hends:=fun w=>Qm2 last w hlok
     have hA1:(ln:Int)<((n+1:Nat):Int):=by omega
     have hn1:n+1≤16384:=by omega
     rw[hn] at hown2 hlen;have hlna:ln≤n+1:=by omega
     have HLN:=Dh hln;have HTS:=Dh hts;have HAA:=Dh hA;clear hown0 hn hlast hopn hln hts hA;cases hcl:Zw last
     ·rw[hcl] at hx hends;have HE:=Dh hends;have HX:=Dh hx;clear hends hx hcl hlok;go_wp2_with (first|(go_at_call 60;refine(HP0.out _).mono ?_;rintro e w' ⟨rfl,rfl⟩)|(go_at_call 61;refine(HIX.out _).mono ?_;rintro e w' ⟨rfl,rfl⟩)|(go_at_call 62;refine(HE.out _).mono ?_;rintro e w3 ⟨rfl,hw3⟩;have hown3:=ownsRow_below hown2 hw3;have hB3:=Qb hB2 hw3;clear hown2 hw3 k0 k1 k2 k3))
      go_roundw
      case rel=>exact⟨ts,ts.length,p2+1,by rw[HN.out];rfl,by go_num,by omega,Nat.le_refl _,(by rw[HN.out];exact hown3),hB3,HOK,HTS.out,Dh (by rw[Bo];exact HX.out)⟩
      case measure=>simp[intOf];omega
     ·rw[hcl] at hx hends;have HE:=Dh hends;clear hends hcl hlok;simp only[if_true] at hx;by_cases hfull:16384≤ts.length
      ·rw[if_pos hfull] at hx;have HX:=Dh hx;have hn2:((16384:Int)≤((n+1:Nat):Int)):=by have:=HN.out;omega
       clear hx hfull;go_wp2_with (first|(go_at_call 60;refine(HP0.out _).mono ?_;rintro e w' ⟨rfl,rfl⟩)|(go_at_call 61;refine(HIX.out _).mono ?_;rintro e w' ⟨rfl,rfl⟩)|(go_at_call 62;refine(HE.out _).mono ?_;rintro e w3 ⟨rfl,hw3⟩;have hown3:=ownsRow_below hown2 hw3;have hB3:=Qb hB2 hw3;clear hown2 hw3 k0 k1 k2 k3))
       go_ret3
       exact⟨by rw[←HX.out];exact rfl,Qb hw1 hB3⟩
      ·rw[if_neg hfull] at hx;have HX:=Dh hx;have hn2:¬ ((16384:Int)≤((n+1:Nat):Int)):=by have:=HN.out;omega
       have HFULL:=Dh hfull;clear hx hfull;go_wp2_with (first|(go_at_call 60;refine(HP0.out _).mono ?_;rintro e w' ⟨rfl,rfl⟩)|(go_at_call 61;refine(HIX.out _).mono ?_;rintro e w' ⟨rfl,rfl⟩)|(go_at_call 62;refine(HE.out _).mono ?_;rintro e w3 ⟨rfl,hw3⟩;have hown3:=ownsRow_below hown2 hw3;have hB3:=Qb hB2 hw3;clear hown2 hw3 k0 k1 k2 k3)|(at_builtin;refine wpList_append_own _ rfl _ _ 37 rfl w1.heap.size 46 i0 (.agg #[.int .i64 0,.string ⟨#[]⟩,.int .u64 0,.int .i64 0]) 4 40 Tryz.underlying37 HI.out hz0 hz1 hz2 rfl Dd _ _ _ rfl (hown3.alloc _) ⟨w3.heap.size,0,none⟩ 1 1 (X5 (Z4 p2)) rfl rfl (Yw _ (Z4 p2) _) (Dy _) (by unfold maxLen;omega) Dw (by have:=hB3.size;simp;omega) ?_;intro v4 w4 hown4 hgrow4 hnil4;have hB4:Below w1.heap.size w1 w4:=Below.grown (hB3.alloc hB3.size _) hgrow4 (by have:=hB3.size;simp;omega) (fun j hj=>by have:=(hown3.lt _ hj).1;omega);have hlen4:=Y9 hown4;clear hgrow4 hnil4))
       go_roundw
       case rel=>exact⟨ts++[Z4 p2],n+2,p2+1,by rfl,by go_num,by omega,by simp[HN.out],(by rw[List.length_append,Yf,HN.out];exact hown4),hB4,Dh (by
        intro t ht;rcases List.mem_append.1 ht with ht|ht
        ·exact HOK.out t ht
        ·rw[List.mem_singleton.1 ht];exact .inr ⟨rfl,(by decide:Jq.contains []=false)⟩),by have:=HFULL.out;simp;omega,Dh (by
        have h1:=HX.out;rw[G6] at h1;rw[show n+2=(ts++[Z4 p2]).length by simp[HN.out],Bo,List.length_append]
        exact h1)⟩
       case measure=>simp[intOf];omega
    ·have hopn:Rn ln ts=false:=by unfold Rn;rw[decide_eq_false hA];rfl
     rw[hopn] at hx;have HX:=Dh hx;have hA1:¬ (ln:Int)<(ts.length:Int):=by omega
     have hlnl:ln=ts.length:=by omega
     clear hx hopn hA;go_wp2_with (first|(go_at_call 60;refine(HP0.out _).mono ?_;rintro e w' ⟨rfl,rfl⟩)|(go_at_call 61;refine(HIX.out _).mono ?_;rintro e w' ⟨rfl,rfl⟩))
     go_roundw
     case rel=>exact⟨ts,ts.length,p2+1,by rfl,by go_num,by omega,Nat.le_refl _,hown2,hB2,HOK,by omega,Dh (by rw[Bo];exact HX.out)⟩
     case measure=>simp[intOf];omega
theorem tokens_c (s:ByteArray)(w:World)(h:Laid w)(hm:s.size≤maxLen):
  Calls Tryz.prog 30 #[.string s] w fun e w'=>P6 w.heap.size (X4 (bl s)) e w'∧Below w.heap.size w w':=by
 unfold maxLen at hm;by_cases hs:65536<s.size
 ·have hr:X4 (bl s)=.error (0,6):=by unfold X4;rw[Xg,if_pos hs]
  rw[hr];have hs1:(65536:Int)<(s.size:Int):=by omega
  clear hr;go_enter Tryz.func30,Tryz.ntmps30
  go_wp2
  go_ret3
  exact⟨rfl,Below.refl _ _⟩
 ·by_cases hv:Zp (bl s)<s.size
  ·have hr:X4 (bl s)=.error (Zp (bl s),3):=by unfold X4;rw[Xg,if_neg hs,if_pos hv]
   rw[hr];have hs1:¬ (65536:Int)<(s.size:Int):=by omega
   have hv1:(Zp (bl s):Int)<(s.size:Int):=by omega
   have HWH:=Dh (Qqo s w h Dw);clear hr;generalize Zp (bl s)=n at *;go_enter Tryz.func30,Tryz.ntmps30
   go_wp2_with fail
   refine HWH.out.mono ?_;rintro e w1 ⟨rfl,hw1⟩;go_wp2
   go_ret3
   exact⟨rfl,hw1⟩
  ·have hr:X4 (bl s)=lex (bl s) 0 false 0:=by unfold X4;rw[Xg,if_neg hs,if_neg hv]
   rw[hr];have hle:=Qhy (bl s);rw[Xg] at hle;exact Qj7 s w h Dw Dw
end
section
def Y8:List (List UInt8):=[[60,60],[62,62],[38,94],[38,38],[124,124],[61,61],[33,61],[60,61],[62,61],[58,61],[60,45]]
def X9:List (List UInt8):=[[43],[45],[42],[47],[37],[38],[124],[94],[33],[60],[62],[61],[40],[41],[91],[93],[123],[125],[44],[46],[58],[59]]
def Hw (l:List UInt8):List UInt8:=
 if 2≤l.length∧Y8.contains (l.take 2)=true then l.take 2 else if X9.contains (l.take 1)=true then l.take 1 else []
theorem Qhe (k:Nat)(l:List UInt8):∀ (L:List (List UInt8)),(∀ g∈L,g.length=k)→
  L.find? (fun g=>g.isPrefixOf l)=if k≤l.length∧L.contains (l.take k)=true then some (l.take k) else none
 | [],_=>by simp
 |g::L,h=>by
  have hg:g.length=k:=h g Ds;have ih:=Qhe k l L (fun g hg=>h g (by simp[hg]));by_cases hp:g.isPrefixOf l=true
  ·have hpre:=List.isPrefixOf_iff_prefix.1 hp;have e:l.take k=g:=by rw[←hg];exact(List.prefix_iff_eq_take.1 hpre).symm
   have hle:=hpre.length_le;rw[List.find?_cons,hp,e,if_pos ⟨by omega,by simp⟩]
  ·have hp':g.isPrefixOf l=false:=Bool.eq_false_iff.2 hp;rw[List.find?_cons,hp',ih];have hne:k≤l.length→¬ l.take k=g:=fun hk e=>hp (by rw[List.isPrefixOf_iff_prefix,←e];exact List.take_prefix k l)
   by_cases hk:k≤l.length
   ·have hn:=hne hk;have:(g::L).contains (l.take k)=L.contains (l.take k):=by
     rw[List.contains_cons,beq_eq_false_iff_ne.2 hn,Bool.false_or]
    rw[this]
   ·rw[if_neg (by simp[hk]),if_neg (by simp[hk])]
theorem Qrc (l:List UInt8)(hl:l≠[]):Ed l=if Hw l=[] then none else some (Hw l):=by
 have h1:1≤l.length:=by
  cases l with
  |nil=>exact absurd rfl hl
  |cons b m=>simp
 have hs:Vp=Y8++X9:=rfl;unfold Ed;rw[hs,List.find?_append,Qhe 2 l Y8 Dd,Qhe 1 l X9 Dd];unfold Hw;by_cases ha:2≤l.length∧Y8.contains (l.take 2)=true
 ·rw[if_pos ha,if_pos ha];have hne:¬ l.take 2=[]:=by
   intro e
   have:=congrArg List.length e;rw[List.length_take,List.length_nil] at this;omega
  rw[if_neg hne];rfl
 ·rw[if_neg ha,if_neg ha];by_cases hb:X9.contains (l.take 1)=true
  ·have hne:¬ l.take 1=[]:=by
    intro e
    have:=congrArg List.length e;rw[List.length_take,List.length_nil] at this;omega
   rw[if_pos ⟨h1,hb⟩,if_pos hb,if_neg hne];rfl
  ·rw[if_neg (by intro h;exact hb h.2),if_neg hb,if_pos rfl];rfl
theorem dig_byte (b:UInt8)(m:List UInt8):Tv (Zl (b::m)).1=(decide (48≤b.toNat)&&decide (b.toNat≤57)):=by
 by_cases h:b.toNat<128
 ·rw[Jr b m h];unfold Tv;rw[Bool.eq_iff_iff];simp;omega
 ·have:=(Qm7 b m Dw).1;unfold Tv;rw[Bool.eq_iff_iff];simp;omega
theorem run_pos (b:UInt8)(m:List UInt8):0<Um (b::m)↔Nk (Zl (b::m)).1=true:=by
 constructor
 ·intro h;cases hr:Nk (Zl (b::m)).1 with
  |true=>rfl
  |false=>rw[Ej b m hr] at h;omega
 ·intro h;rw[Hl b m h]
  have:=Ri b m;omega
end
end Go.Proofs.YtcbkeecabcbogaaGreatDoor
