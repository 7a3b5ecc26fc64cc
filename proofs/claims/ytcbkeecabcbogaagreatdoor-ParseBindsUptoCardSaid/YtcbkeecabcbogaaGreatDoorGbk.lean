/- Contract of scan.Tokens: the tokens of a text, or its first fault. Contract of scan.Tokens at every text; and the laws' own fixed fact. Plain laws: the sign that a text begins with, by the referenc -/
import Derived.Test.YtcbkeecabcbogaaGreatDoorGbj
import Derived.Test.YtcbkeecabcbogaaGreatDoorGbf
import Derived.Test.YtcbkeecabcbogaaGreatDoorGab
set_option linter.unusedSimpArgs false
set_option linter.unusedVariables false
namespace Go.Proofs.YtcbkeecabcbogaaGreatDoor
open Go.RowKit
def tokCells (t:Tok):List Value:=[.int .i64 t.kind,.string ⟨t.text.toArray⟩,.int .u64 t.num,.int .i64 (t.place:Int)]
def flatT (ts:List Tok):List Value:=ts.flatMap tokCells
theorem flatT_snoc (ts:List Tok)(t:Tok):flatT (ts++[t])=flatT ts++tokCells t:=by unfold flatT;simp
theorem flatT_at:∀ (ts:List Tok) (k:Nat) (h:k<ts.length) (j:Nat),j<4→(flatT ts)[k * 4+j]? = (tokCells ts[k])[j]?
 |t :: ts,0,_,j,hj=>by
  have:flatT (t :: ts)=tokCells t++flatT ts:=by unfold flatT;simp
  rw[this,List.getElem?_append_left (by simp[tokCells];omega)];simp
 |t :: ts,k+1,h,j,hj=>by
  have:flatT (t :: ts)=tokCells t++flatT ts:=by unfold flatT;simp
  rw[this,List.getElem?_append_right (by simp[tokCells];omega)]
  have e:(k+1) * 4+j - (tokCells t).length=k * 4+j:=by simp[tokCells];omega
  rw[e]
  exact flatT_at ts k (by simpa using h) j hj
theorem ownsRow_below {w w':World}{base:Nat}{e:TypeId}{size:Nat}{v:Value}{n:Nat}{xs:List Value}(h:w.ownsRow base e size v n xs)(hb:Below w.heap.size w w'):w'.ownsRow base e size v n xs:=by
 refine⟨h.1,?_⟩
 rcases h.2 with h2|⟨g,cap,cur,a,b,c,d⟩
 ·exact .inl h2
 ·refine .inr ⟨g,cap,cur,a,b,?_,d⟩
  rw[hb.block g (Array.getElem?_eq_some_iff.1 c).1];exact c
def TokPost (base:Nat)(R:LexR)(e:Ending)(w':World):Prop:=match R with
 | .ok ts=>∃ v,e = .returned (.tuple #[v,.int .i64 0,.int .i64 0])∧w'.ownsRow base 46 4 v ts.length (flatT ts)∧∀ t∈ts,okTok t
 | .error (p,c)=>e = .returned (.tuple #[.slice none 0 0,.int .i64 (p:Int),.int .i64 c])
theorem ownsRow_base {w:World}{b b':Nat}{e:TypeId}{size:Nat}{v:Value}{n:Nat}{xs:List Value}(h:w.ownsRow b e size v n xs)(hb:b'≤b):w.ownsRow b' e size v n xs:=by
 refine⟨h.1,?_⟩
 rcases h.2 with h2|⟨g,cap,cur,a,b,c,d⟩
 ·exact .inl h2
 ·exact .inr ⟨g,cap,cur,a,Nat.le_trans hb b,c,d⟩
theorem len_own {w:World}{b:Nat}{v:Value}{n:Nat}{xs:List Value}(h:w.ownsRow b 46 4 v n xs):∀ W,(Builtin.len_ #[37] 3 #[v]).run Tryz.prog W = .ok (.int .i64 (n:Int)) W:=by
 intro W
 rcases h.2 with ⟨rfl,rfl⟩|⟨g,cap,cur,rfl,-⟩
 ·kernel_rfl
 ·go_simp
theorem cell_tok_new (W:World)(t:Tok)(ty:TypeId):∀ j u,(tokCells t)[j]? = some u→(W.alloc (.cells #[.int .i64 t.kind,.string ⟨t.text.toArray⟩,.int .u64 t.num,.int .i64 (t.place:Int)] ty)).cell? ((⟨W.heap.size,0,none⟩:Addr).add j)=some u:=by
 intro j u hj
 match j,hj with
 |0,hj=>simp[tokCells] at hj;subst hj;simp[Addr.add]
 |1,hj=>simp[tokCells] at hj;subst hj;simp[Addr.add]
 |2,hj=>simp[tokCells] at hj;subst hj;simp[Addr.add]
 |3,hj=>simp[tokCells] at hj;subst hj;simp[Addr.add]
 |j+4,hj=>simp[tokCells] at hj
theorem cell_tok_at (W:World)(n:Nat)(hn:n=W.heap.size)(t:Tok)(ty:TypeId):∀ j u,(tokCells t)[j]? = some u→(W.alloc (.cells #[.int .i64 t.kind,.string ⟨t.text.toArray⟩,.int .u64 t.num,.int .i64 (t.place:Int)] ty)).cell? ((⟨n,0,none⟩:Addr).add j)=some u:=by
 subst hn;exact cell_tok_new W t ty
theorem tok_one (t:Tok):∀ u∈tokCells t,u.oneCell'=true:=by
 intro u hu
 simp[tokCells] at hu
 rcases hu with rfl|rfl|rfl|rfl <;> rfl
theorem tok_at {w:World}{b:Nat}{ts:List Tok}{n g cap:Nat}{last:Tok}(h:w.ownsRow b 46 4 (.slice (some ⟨g,0,none⟩) (n+1) cap) (n+1) (flatT ts))(hn:ts.length=n+1)(hl:ts.getLast? = some last):
  w.cell? ⟨g,n * 4,none⟩=some (.int .i64 last.kind)∧w.cell? ⟨g,n * 4+1,none⟩=some (.string ⟨last.text.toArray⟩)∧w.cell? ⟨g,n * 4+2,none⟩=some (.int .u64 last.num)∧w.cell? ⟨g,n * 4+3,none⟩=some (.int .i64 (last.place:Int)):=by
 have hlt:n<ts.length:=by omega
 have he:ts[n]=last:=by
  rw[List.getLast?_eq_getElem?,hn] at hl
  rw[List.getElem?_eq_getElem (by omega)] at hl
  simpa using hl
 have hc:=h.cells (g:=g) rfl
 have key:∀ j,j<4→w.cell? ⟨g,n * 4+j,none⟩=(tokCells last)[j]? := by
  intro j hj
  have h1:=flatT_at ts n hlt j hj
  rw[he] at h1
  have h2:∃ u,(tokCells last)[j]? = some u:=⟨_,List.getElem?_eq_getElem (by simp[tokCells];omega)⟩
  obtain⟨u,hu⟩:=h2
  rw[hu] at h1 ⊢
  have:=hc _ _ h1
  rw[Lib.add_plain] at this
  simpa using this
 exact⟨key 0 (by omega),key 1 (by omega),key 2 (by omega),key 3 (by omega)⟩
theorem Tryz.infoTok:((Tryz.prog).info? 46).map (fun i=>(i.zero,i.size,i.bytes))=some (some (.agg #[.int .i64 0,.string ⟨#[]⟩,.int .u64 0,.int .i64 0]),4,40):=by kernel_rfl
set_option maxRecDepth 100000 in
set_option maxHeartbeats 4000000 in
theorem tokens_walk (s:ByteArray)(w:World)(h:Laid w)(hs:s.size≤65536)(hv:wholeL (bl s)=s.size):
  Calls Tryz.prog 30 #[.string s] w fun e w'=>TokPost w.heap.size (lex (bl s) 0 false 0) e w'∧Below w.heap.size w w':=by
 obtain⟨i0,hi,hz0,hz1,hz2⟩:=info_parts Tryz.infoTok
 have hwh:=whole_c s w h (by omega)
 rw[hv] at hwh
 have HWH:=Lib.hid hwh
 have hs1:(s.size:Int)≤65536:=by omega
 have hs2:decide ((65536:Int)<(s.size:Int))=false:=by rw[decide_eq_false_iff_not];omega
 have HI:=Lib.hid hi
 clear hi
 clear hwh hv
 go_enter Tryz.func30, Tryz.ntmps30
 go_wp2_with fail
 refine HWH.out.mono ?_
 rintro e w1 ⟨rfl,hw1⟩
 have hl1:=h.below hw1
 clear HWH
 go_wp2
 go_loopw [6,7,8] (fun v line at_ wr=>∃ (ts:List Tok) (ln pos:Nat),line = .int .i64 ln∧at_ = .int .i64 pos∧pos≤s.size∧ln≤ts.length∧wr.ownsRow w1.heap.size 46 4 v ts.length (flatT ts)∧Below w1.heap.size w1 wr∧Hid (∀ t∈ts,okTok t)∧ts.length≤16384∧Hid (preR ts (lex ((bl s).drop pos) pos (opnOf ln ts) ts.length)=lex (bl s) 0 false 0)) (fun _ _ at_ _=>s.size+1 - (intOf at_).toNat)
 case atStart=>exact⟨[],0,0,rfl,rfl,by omega,by simp,World.ownsRow_nil _ _ _ _,Below.refl _ _,Lib.hid (by simp),by simp,Lib.hid (preR_nil _)⟩
 case round=>
  obtain⟨ts,ln,pos,rfl,rfl,hpos,hln,hown,hwr,HOK,hts,HLEX⟩:=hrel
  have hl2:=hl1.below hwr
  have hpi:(pos:Int)≤(s.size:Int):=by omega
  have htr:=trim_c (s.extract pos s.size)
  rw[bl_from] at htr
  have HTR:=Lib.hid htr
  clear htr
  have hbl:=blanks_le ((bl s).drop pos)
  rw[List.length_drop,bl_len] at hbl
  obtain⟨p1,hp1⟩:∃ p1,p1=pos+blanksN ((bl s).drop pos):=⟨_,rfl⟩
  have hd1:((bl s).drop pos).dropWhile isBlank=(bl s).drop p1:=by rw[hp1,←List.drop_drop,drop_blanks]
  have hlex1:preR ts (lex ((bl s).drop p1) p1 (opnOf ln ts) ts.length)=lex (bl s) 0 false 0:=by
   rw[←HLEX.out,lex_blanks ((bl s).drop pos),List.drop_drop,←hp1]
  have hw8:IntKind.i64.wrap ((pos:Int)+IntKind.i64.wrap (((s.size - pos:Nat):Int) - ((((bl s).drop pos).dropWhile isBlank).length:Int)))=(p1:Int):=by
   rw[hd1,List.length_drop,bl_len,IntKind.wrap_i64,IntKind.wrap_i64];omega
  have hp1s:p1≤s.size:=by omega
  have hp1p:pos≤p1:=by omega
  have HW8:=Lib.hid hw8
  have HD1:=Lib.hid hd1
  have HLEX1:=Lib.hid hlex1
  clear hbl hp1 hd1 hlex1 hw8 HLEX
  have hpx:=fun w=>prefix_c (s.extract p1 s.size) ⟨#[47,47]⟩ w
  rw[bl_from,show bl ⟨#[47,47]⟩=[47,47] from rfl] at hpx
  have HPX:=Lib.hid hpx
  clear hpx
  go_wp2_with fail
  refine wp_region_noPanic ?_
  refine wp_region_held_drew (S:=(fun w'=>Below wr.heap.size wr w')) (by kernel_rfl) ?_ (fun hHeld => ?_)
  ·(try dsimp only);first|exact(Below.refl _ _).drew|exact Below.refl _ _
  refine h_yes 0 23 (v := ?_) rfl rfl (by kernel_rfl) (by kernel_rfl) (by kernel_rfl) (fun _ _ _ h=>h) (by kernel_rfl) (by assumption) ?_ ?_
  rotate_left 1
  ·(intro w hSw;(try dsimp only at hSw);go_simp;try with_reducible rfl)
  try simp only[Act.put,List.setIfInBounds_toArray,List.set_cons_zero,List.set_cons_succ]
  refine h_yes 1 24 (v := ?_) rfl rfl (by kernel_rfl) (by kernel_rfl) (by kernel_rfl) (fun _ _ _ h=>h) (by kernel_rfl) (by assumption) ?_ ?_
  rotate_left 1
  ·(intro w hSw;(try dsimp only at hSw);go_simp;try with_reducible rfl)
  try simp only[Act.put,List.setIfInBounds_toArray,List.set_cons_zero,List.set_cons_succ]
  refine h_yes 2 25 (v := ?_) rfl rfl (by kernel_rfl) (by kernel_rfl) (by kernel_rfl) (fun _ _ _ h=>h) (by kernel_rfl) (by assumption) ?_ ?_
  rotate_left 1
  ·(intro w hSw;(try dsimp only at hSw);go_simp;try with_reducible rfl)
  try simp only[Act.put,List.setIfInBounds_toArray,List.set_cons_zero,List.set_cons_succ]
  refine h_yes 3 26 (v := ?_) rfl rfl (by kernel_rfl) (by kernel_rfl) (by kernel_rfl) (fun _ _ _ h=>h) (by kernel_rfl) (by assumption) ?_ ?_
  rotate_left 1
  ·(intro w hSw;(try dsimp only at hSw);go_simp;try with_reducible rfl)
  try simp only[Act.put,List.setIfInBounds_toArray,List.set_cons_zero,List.set_cons_succ]
  refine h_yes 4 27 (v := ?_) rfl rfl (by kernel_rfl) (by kernel_rfl) (by kernel_rfl) (fun _ _ _ h=>h) (by kernel_rfl) (by assumption) ?_ ?_
  rotate_left 1
  ·(intro w hSw;(try dsimp only at hSw);go_simp;try with_reducible rfl)
  try simp only[Act.put,List.setIfInBounds_toArray,List.set_cons_zero,List.set_cons_succ]
  refine h_yes 5 28 (v := ?_) rfl rfl (by kernel_rfl) (by kernel_rfl) (by kernel_rfl) (fun _ _ _ h=>h) (by kernel_rfl) (by assumption) ?_ ?_
  rotate_left 1
  ·(intro w hSw;(try dsimp only at hSw);go_simp;try with_reducible rfl)
  try simp only[Act.put,List.setIfInBounds_toArray,List.set_cons_zero,List.set_cons_succ]
  refine h_yes 6 29 (v := ?_) rfl rfl (by kernel_rfl) (by kernel_rfl) (by kernel_rfl) (fun _ _ _ h=>h) (by kernel_rfl) (by assumption) ?_ ?_
  rotate_left 1
  ·(intro w hSw;(try dsimp only at hSw);go_simp;try with_reducible rfl)
  try simp only[Act.put,List.setIfInBounds_toArray,List.set_cons_zero,List.set_cons_succ]
  refine h_yes 7 30 (v := ?_) rfl rfl (by kernel_rfl) (by kernel_rfl) (by kernel_rfl) (fun _ _ _ h=>h) (by kernel_rfl) (by assumption) ?_ ?_
  rotate_left 1
  ·(intro w hSw;(try dsimp only at hSw);go_simp;try with_reducible rfl)
  try simp only[Act.put,List.setIfInBounds_toArray,List.set_cons_zero,List.set_cons_succ]
  refine h_step 8 rfl (by kernel_rfl) (by kernel_rfl) (fun K hK => ?_)
  go_simp
  refine(HTR.out _).mono ?_
  rintro e w2 ⟨rfl,hw2⟩
  have hk2:=below_two hHeld hw2
  clear hw2
  go_wp2_with fail
  refine hK.out _ _ ?_ (fun hHeld => ?_)
  ·(try dsimp only);exact hk2
  clear hK K
  try simp only[Act.put,List.setIfInBounds_toArray,List.set_cons_zero,List.set_cons_succ]
  refine h_yes 9 32 (v := ?_) rfl rfl (by kernel_rfl) (by kernel_rfl) (by kernel_rfl) (fun _ _ _ h=>h) (by kernel_rfl) (by assumption) ?_ ?_
  rotate_left 1
  ·(intro w hSw;(try dsimp only at hSw);go_simp;try with_reducible rfl)
  try simp only[Act.put,List.setIfInBounds_toArray,List.set_cons_zero,List.set_cons_succ]
  refine h_yes 10 33 (v := ?_) rfl rfl (by kernel_rfl) (by kernel_rfl) (by kernel_rfl) (fun _ _ _ h=>h) (by kernel_rfl) (by assumption) ?_ ?_
  rotate_left 1
  ·(intro w hSw;(try dsimp only at hSw);go_simp;try with_reducible rfl)
  try simp only[Act.put,List.setIfInBounds_toArray,List.set_cons_zero,List.set_cons_succ]
  refine h_yes 11 34 (v := ?_) rfl rfl (by kernel_rfl) (by kernel_rfl) (by kernel_rfl) (fun _ _ _ h=>h) (by kernel_rfl) (by assumption) ?_ ?_
  rotate_left 1
  ·(intro w hSw;(try dsimp only at hSw);go_simp;try with_reducible rfl)
  try simp only[Act.put,List.setIfInBounds_toArray,List.set_cons_zero,List.set_cons_succ]
  refine h_yes 12 8 (v := ?_) rfl rfl (by kernel_rfl) (by kernel_rfl) (by kernel_rfl) (fun _ _ _ h=>h) (by kernel_rfl) (by assumption) ?_ ?_
  rotate_left 1
  ·(intro w hSw;(try dsimp only at hSw);go_simp;try with_reducible rfl)
  try simp only[Act.put,List.setIfInBounds_toArray,List.set_cons_zero,List.set_cons_succ]
  refine wpAnyH_done (by kernel_rfl) ?_ _
  refine NoPanic.normal ?_
  rw[HW8.out]
  clear HW8 HTR
  have hl3:=hl2.below hHeld
  have hown2:=ownsRow_below hown hHeld
  have hB2:Below w1.heap.size w1 w2:=below_two hwr hHeld
  clear hown hwr hHeld hl2
  have hp1i:(p1:Int)≤(s.size:Int):=by omega
  cases hR:isRemark ((bl s).drop p1)
  ·have hpx0:=HPX.out
   rw[show preP [47,47] ((bl s).drop p1)=isRemark ((bl s).drop p1) from rfl,hR] at hpx0
   have HP0:=Lib.hid hpx0
   have HRM:=Lib.hid hR
   have hnb:∀ b m,(bl s).drop p1=b :: m→isBlank b=false:=fun b m e=>head_not _ ((bl s).drop pos) b m (by rw[HD1.out];exact e)
   have HNB:=Lib.hid hnb
   clear hpx0 HPX hR hnb
   by_cases hend:p1=s.size
   ·have hdr:(bl s).drop p1=[]:=by rw[List.drop_eq_nil_iff,bl_len];omega
    have hq:((p1:Int)==(s.size:Int))=true:=by rw[hend];simp
    have HEND:=Lib.hid hend
    clear hend
    have hx:=HLEX1.out
    rw[hdr,lex_nil] at hx
    have hlen:=len_own hown2
    by_cases hA:ln<ts.length
    ·obtain⟨n,hn⟩:∃ n,ts.length=n+1:=⟨ts.length - 1,by omega⟩
     obtain⟨last,hlast⟩:∃ t,ts.getLast? = some t:=by
      cases h:ts.getLast? with
      |none=>rw[List.getLast?_eq_none_iff] at h;rw[h] at hn;simp at hn
      |some t=>exact⟨t,rfl⟩
     have hopn:opnOf ln ts=closesP last:=by unfold opnOf;rw[hlast,decide_eq_true hA];rfl
     have hlok:okTok last:=HOK.out last (List.mem_of_getLast? hlast)
     rw[hopn] at hx
     have hown0:=hown2
     rw[hn] at hown0
     rcases hown0.2 with ⟨-,h0⟩|⟨g,cap,cur,rfl,-⟩
     ·exact absurd h0 (by omega)
     obtain⟨k0,k1,k2,k3⟩:=tok_at hown0 hn hlast
     have HN:=Lib.hid hn
     have hends:=fun w=>ends_c last w hlok
     have hA1:(ln:Int)<((n+1:Nat):Int):=by omega
     have hn1:n+1≤16384:=by omega
     rw[hn] at hown2 hlen
     have hlna:ln≤n+1:=by omega
     have HLN:=Lib.hid hln
     have HTS:=Lib.hid hts
     have HAA:=Lib.hid hA
     clear hown0 hn hlast hopn hln hts hA
     cases hcl:closesP last
     ·rw[hcl] at hx hends
      have HE:=Lib.hid hends
      have HX:=Lib.hid hx
      clear hends hx hcl hlok
      go_wp2_with (first|(go_at_call 60;refine(HP0.out _).mono ?_;rintro e w' ⟨rfl,rfl⟩)|(go_at_call 62;refine(HE.out _).mono ?_;rintro e w3 ⟨rfl,hw3⟩;have hown3:=ownsRow_below hown2 hw3;have hB3:=below_two hB2 hw3;clear hown2 hw3 k0 k1 k2 k3))
      go_ret3
      refine⟨?_,below_two hw1 hB3⟩
      rw[←HX.out]
      show TokPost _ (preR ts (.ok [])) _ _
      rw[show preR ts (.ok []) = .ok ts by simp[preR]]
      exact⟨_,rfl,ownsRow_base (by rw[HN.out];exact hown3) hw1.size,HOK.out⟩
     ·rw[hcl] at hx hends
      have HE:=Lib.hid hends
      clear hends hcl hlok
      simp only[if_true] at hx
      by_cases hfull:16384≤ts.length
      ·rw[if_pos hfull] at hx
       have HX:=Lib.hid hx
       have hn2:((16384:Int)≤((n+1:Nat):Int)):=by have:=HN.out;omega
       clear hx hfull
       go_wp2_with (first|(go_at_call 60;refine(HP0.out _).mono ?_;rintro e w' ⟨rfl,rfl⟩)|(go_at_call 62;refine(HE.out _).mono ?_;rintro e w3 ⟨rfl,hw3⟩;have hown3:=ownsRow_below hown2 hw3;have hB3:=below_two hB2 hw3;clear hown2 hw3 k0 k1 k2 k3))
       go_ret3
       exact⟨by rw[←HX.out];exact rfl,below_two hw1 hB3⟩
      ·rw[if_neg hfull] at hx
       have HX:=Lib.hid hx
       have hn2:¬ ((16384:Int)≤((n+1:Nat):Int)):=by have:=HN.out;omega
       have HFULL:=Lib.hid hfull
       clear hx hfull
       go_wp2_with (first|(go_at_call 60;refine(HP0.out _).mono ?_;rintro e w' ⟨rfl,rfl⟩)|(go_at_call 62;refine(HE.out _).mono ?_;rintro e w3 ⟨rfl,hw3⟩;have hown3:=ownsRow_below hown2 hw3;have hB3:=below_two hB2 hw3;clear hown2 hw3 k0 k1 k2 k3)|(at_builtin;refine wpList_append_own _ rfl _ _ 37 rfl w1.heap.size 46 i0 (.agg #[.int .i64 0,.string ⟨#[]⟩,.int .u64 0,.int .i64 0]) 4 40 Tryz.underlying37 HI.out hz0 hz1 hz2 rfl (by decide) _ _ _ rfl (hown3.alloc _) ⟨w3.heap.size,0,none⟩ 1 1 (tokCells (semiTok p1)) rfl rfl (cell_tok_new _ (semiTok p1) _) (tok_one _) (by unfold maxLen;omega) (by omega) (by have:=hB3.size;simp;omega) ?_;intro v4 w4 hown4 hgrow4 hnil4;have hB4:Below w1.heap.size w1 w4:=Below.grown (hB3.alloc hB3.size _) hgrow4 (by have:=hB3.size;simp;omega) (fun j hj=>by have:=(hown3.lt _ hj).1;omega);have hlen4:=len_own hown4;clear hgrow4 hnil4))
       go_ret3
       refine⟨?_,below_two hw1 hB4⟩
       rw[←HX.out]
       show TokPost _ (preR ts (.ok [semiTok p1])) _ _
       refine⟨_,rfl,ownsRow_base (by rw[List.length_append,flatT_snoc,HN.out];exact hown4) hw1.size,?_⟩
       intro t ht
       rcases List.mem_append.1 ht with ht|ht
       ·exact HOK.out t ht
       ·rw[List.mem_singleton.1 ht];exact .inr ⟨rfl,(by decide:enders.contains []=false)⟩
    ·have hopn:opnOf ln ts=false:=by unfold opnOf;rw[decide_eq_false hA];rfl
     rw[hopn] at hx
     have HX:=Lib.hid hx
     have hA1:¬ (ln:Int)<(ts.length:Int):=by omega
     have hlnl:ln=ts.length:=by omega
     clear hx hopn hA
     go_wp2_with (first|(go_at_call 60;refine(HP0.out _).mono ?_;rintro e w' ⟨rfl,rfl⟩))
     go_ret3
     refine⟨?_,below_two hw1 hB2⟩
     rw[←HX.out]
     show TokPost _ (preR ts (.ok [])) _ _
     rw[show preR ts (.ok []) = .ok ts by simp[preR]]
     exact⟨_,rfl,ownsRow_base hown2 hw1.size,HOK.out⟩
   ·have hlt:p1<s.size:=by omega
    by_cases hb:s[p1]=10
    ·have hdr:(bl s).drop p1=10 :: (bl s).drop (p1+1):=by
      rw[List.drop_eq_getElem_cons (by rw[bl_len];exact hlt)]
      congr 1
     have hq:((p1:Int)==(s.size:Int))=false:=by rw[beq_eq_false_iff_ne];omega
     have hq2:((s[p1].toNat:Int)==10)=true:=by rw[hb];rfl
     have hlt1:(p1:Int)<(s.size:Int):=by omega
     clear hend hb
     have hx:=HLEX1.out
     rw[hdr,lex_line] at hx
     have hlen:=len_own hown2
     by_cases hA:ln<ts.length
     ·obtain⟨n,hn⟩:∃ n,ts.length=n+1:=⟨ts.length - 1,by omega⟩
      obtain⟨last,hlast⟩:∃ t,ts.getLast? = some t:=by
       cases h:ts.getLast? with
       |none=>rw[List.getLast?_eq_none_iff] at h;rw[h] at hn;simp at hn
       |some t=>exact⟨t,rfl⟩
      have hopn:opnOf ln ts=closesP last:=by unfold opnOf;rw[hlast,decide_eq_true hA];rfl
      have hlok:okTok last:=HOK.out last (List.mem_of_getLast? hlast)
      rw[hopn] at hx
      have hown0:=hown2
      rw[hn] at hown0
      rcases hown0.2 with ⟨-,h0⟩|⟨g,cap,cur,rfl,-⟩
      ·exact absurd h0 (by omega)
      obtain⟨k0,k1,k2,k3⟩:=tok_at hown0 hn hlast
      have HN:=Lib.hid hn
      have hends:=fun w=>ends_c last w hlok
      have hA1:(ln:Int)<((n+1:Nat):Int):=by omega
      have hn1:n+1≤16384:=by omega
      rw[hn] at hown2 hlen
      have hlna:ln≤n+1:=by omega
      have HLN:=Lib.hid hln
      have HTS:=Lib.hid hts
      have HAA:=Lib.hid hA
      clear hown0 hn hlast hopn hln hts hA
      cases hcl:closesP last
      ·rw[hcl] at hx hends
       have HE:=Lib.hid hends
       have HX:=Lib.hid hx
       clear hends hx hcl hlok
       go_wp2_with (first|(go_at_call 60;refine(HP0.out _).mono ?_;rintro e w' ⟨rfl,rfl⟩)|(go_at_call 62;refine(HE.out _).mono ?_;rintro e w3 ⟨rfl,hw3⟩;have hown3:=ownsRow_below hown2 hw3;have hB3:=below_two hB2 hw3;clear hown2 hw3 k0 k1 k2 k3))
       go_roundw
       case rel=>exact⟨ts,ts.length,p1+1,by rw[HN.out];rfl,by go_num,by omega,Nat.le_refl _,(by rw[HN.out];exact hown3),hB3,HOK,HTS.out,Lib.hid (by rw[opn_none];exact HX.out)⟩
       case measure=>simp[intOf];omega
      ·rw[hcl] at hx hends
       have HE:=Lib.hid hends
       clear hends hcl hlok
       simp only[if_true] at hx
       by_cases hfull:16384≤ts.length
       ·rw[if_pos hfull] at hx
        have HX:=Lib.hid hx
        have hn2:((16384:Int)≤((n+1:Nat):Int)):=by have:=HN.out;omega
        clear hx hfull
        go_wp2_with (first|(go_at_call 60;refine(HP0.out _).mono ?_;rintro e w' ⟨rfl,rfl⟩)|(go_at_call 62;refine(HE.out _).mono ?_;rintro e w3 ⟨rfl,hw3⟩;have hown3:=ownsRow_below hown2 hw3;have hB3:=below_two hB2 hw3;clear hown2 hw3 k0 k1 k2 k3))
        go_ret3
        exact⟨by rw[←HX.out];exact rfl,below_two hw1 hB3⟩
       ·rw[if_neg hfull] at hx
        have HX:=Lib.hid hx
        have hn2:¬ ((16384:Int)≤((n+1:Nat):Int)):=by have:=HN.out;omega
        have HFULL:=Lib.hid hfull
        clear hx hfull
        go_wp2_with (first|(go_at_call 60;refine(HP0.out _).mono ?_;rintro e w' ⟨rfl,rfl⟩)|(go_at_call 62;refine(HE.out _).mono ?_;rintro e w3 ⟨rfl,hw3⟩;have hown3:=ownsRow_below hown2 hw3;have hB3:=below_two hB2 hw3;clear hown2 hw3 k0 k1 k2 k3)|(at_builtin;refine wpList_append_own _ rfl _ _ 37 rfl w1.heap.size 46 i0 (.agg #[.int .i64 0,.string ⟨#[]⟩,.int .u64 0,.int .i64 0]) 4 40 Tryz.underlying37 HI.out hz0 hz1 hz2 rfl (by decide) _ _ _ rfl (hown3.alloc _) ⟨w3.heap.size,0,none⟩ 1 1 (tokCells (semiTok p1)) rfl rfl (cell_tok_new _ (semiTok p1) _) (tok_one _) (by unfold maxLen;omega) (by omega) (by have:=hB3.size;simp;omega) ?_;intro v4 w4 hown4 hgrow4 hnil4;have hB4:Below w1.heap.size w1 w4:=Below.grown (hB3.alloc hB3.size _) hgrow4 (by have:=hB3.size;simp;omega) (fun j hj=>by have:=(hown3.lt _ hj).1;omega);have hlen4:=len_own hown4;clear hgrow4 hnil4))
        go_roundw
        case rel=>exact⟨ts++[semiTok p1],n+2,p1+1,by rfl,by go_num,by omega,by simp[HN.out],(by rw[List.length_append,flatT_snoc,HN.out];exact hown4),hB4,Lib.hid (by
         intro t ht
         rcases List.mem_append.1 ht with ht|ht
         ·exact HOK.out t ht
         ·rw[List.mem_singleton.1 ht];exact .inr ⟨rfl,(by decide:enders.contains []=false)⟩),by have:=HFULL.out;simp;omega,Lib.hid (by
         have h1:=HX.out
         rw[preR_cons] at h1
         rw[show n+2=(ts++[semiTok p1]).length by simp[HN.out],opn_none,List.length_append]
         exact h1)⟩
        case measure=>simp[intOf];omega
     ·have hopn:opnOf ln ts=false:=by unfold opnOf;rw[decide_eq_false hA];rfl
      rw[hopn] at hx
      have HX:=Lib.hid hx
      have hA1:¬ (ln:Int)<(ts.length:Int):=by omega
      have hlnl:ln=ts.length:=by omega
      clear hx hopn hA
      go_wp2_with (first|(go_at_call 60;refine(HP0.out _).mono ?_;rintro e w' ⟨rfl,rfl⟩))
      go_roundw
      case rel=>exact⟨ts,ts.length,p1+1,by rfl,by go_num,by omega,Nat.le_refl _,hown2,hB2,HOK,by omega,Lib.hid (by rw[opn_none];exact HX.out)⟩
      case measure=>simp[intOf];omega
    ·have hst:starts ((bl s).drop p1)=true:=by
      have hdr:(bl s).drop p1=s[p1] :: (bl s).drop (p1+1):=by
       rw[List.drop_eq_getElem_cons (by rw[bl_len];exact hlt)]
       congr 1
      have h1:=HRM.out
      have h2:=HNB.out _ _ hdr
      rw[hdr] at h1 ⊢
      simp[starts,h1,h2,hb]
     have hq:((p1:Int)==(s.size:Int))=false:=by rw[beq_eq_false_iff_ne];omega
     have hq2:((s[p1].toNat:Int)==10)=false:=by
      rw[beq_eq_false_iff_ne];intro e;apply hb;apply UInt8.toNat_inj.1;show _=10;omega
     have hlt1:(p1:Int)<(s.size:Int):=by omega
     have hx:=HLEX1.out
     rw[lex_tok _ _ _ _ hst] at hx
     have ho:=one_c (s.extract p1 s.size) p1 w2 hl3 (by rw[size_from];omega) (by rw[size_from];omega)
     rw[bl_from] at ho
     have hof:=one_fits ((bl s).drop p1) p1
     rw[List.length_drop,bl_len] at hof
     have hok1:=one_ok ((bl s).drop p1) p1
     have hop:=one_pos ((bl s).drop p1) p1 (by intro e;rw[List.drop_eq_nil_iff,bl_len] at e;omega)
     have hlen:=len_own hown2
     have HOKT:=Lib.hid hok1
     have HOP:=Lib.hid hop
     clear hend hb hst hok1 hop
     generalize oneP ((bl s).drop p1) p1=r at *
     obtain⟨t,k,er⟩:=r
     simp only[] at hx ho hof
     have HO:=Lib.hid ho
     clear ho
     by_cases her:er=0
     ·have hk1:=HOP.out her
      have hto:=HOKT.out her
      simp only[] at hk1 hto
      have HTO:=Lib.hid hto
      rw[if_neg (by rw[her];simp)] at hx
      have herb:(er==0)=true:=by rw[her];rfl
      have herb2:(er != 0)=false:=by rw[her];rfl
      have HER:=Lib.hid her
      clear her HOP HOKT hto
      obtain⟨kind,text,num,place⟩:=t
      unfold tokV at HO
      by_cases hfull:16384≤ts.length
      ·rw[if_pos hfull] at hx
       have HX:=Lib.hid hx
       have hf2:(16384:Int)≤(ts.length:Int):=by omega
       clear hx
       go_wp2_with (first|(go_at_call 60;refine(HP0.out _).mono ?_;rintro e w' ⟨rfl,rfl⟩)|(go_at_call 63;refine HO.out.mono ?_;rintro e w3 ⟨rfl,hw3⟩;have hown3:=ownsRow_below hown2 hw3;have hB3:=below_two hB2 hw3;clear hown2 hw3))
       go_ret3
       exact⟨by rw[←HX.out];exact rfl,below_two hw1 ((hB3.alloc hB3.size _))⟩
      ·rw[if_neg hfull,preR_cons] at hx
       have HX:=Lib.hid hx
       have hf2:¬ (16384:Int)≤(ts.length:Int):=by omega
       clear hx
       go_wp2_with (first|(go_at_call 60;refine(HP0.out _).mono ?_;rintro e w' ⟨rfl,rfl⟩)|(go_at_call 63;refine HO.out.mono ?_;rintro e w3 ⟨rfl,hw3⟩;have hown3:=ownsRow_below hown2 hw3;have hB3:=below_two hB2 hw3;clear hown2 hw3)|(at_builtin;refine wpList_append_own _ rfl _ _ 37 rfl w1.heap.size 46 i0 (.agg #[.int .i64 0,.string ⟨#[]⟩,.int .u64 0,.int .i64 0]) 4 40 Tryz.underlying37 HI.out hz0 hz1 hz2 rfl (by decide) _ _ _ rfl ((hown3.alloc _).alloc _) ⟨w3.heap.size+1,0,none⟩ 1 1 (tokCells ⟨kind,text,num,place⟩) rfl rfl (cell_tok_at (w3.alloc _) _ (by simp) ⟨kind,text,num,place⟩ _) (tok_one _) (by unfold maxLen;omega) (by omega) (by have:=hB3.size;simp;omega) ?_;intro v4 w4 hown4 hgrow4 hnil4;have hB4:Below w1.heap.size w1 w4:=Below.grown ((hB3.alloc hB3.size _).alloc (by have:=hB3.size;simp;omega) _) hgrow4 (by have:=hB3.size;simp;omega) (fun j hj=>by have:=(hown3.lt _ hj).1;omega);have hlen4:=len_own hown4;clear hgrow4 hnil4))
       go_roundw
       case rel=>exact⟨ts++[⟨kind,text,num,place⟩],ln,p1+k,by rfl,by go_num,by omega,by simp;omega,(by rw[List.length_append,flatT_snoc];exact hown4),hB4,Lib.hid (by
        intro t ht
        rcases List.mem_append.1 ht with ht|ht
        ·exact HOK.out t ht
        ·rw[List.mem_singleton.1 ht];exact HTO.out),by simp;omega,Lib.hid (by
        rw[opn_last ts _ ln hln,List.length_append,←HX.out,List.drop_drop];rfl)⟩
       case measure=>simp[intOf];omega
     ·rw[if_pos her] at hx
      have HX:=Lib.hid hx
      have herb:(er==0)=false:=by simpa using her
      have herb2:(er != 0)=true:=by simpa using her
      clear her hx HOP HOKT
      obtain⟨kind,text,num,place⟩:=t
      unfold tokV at HO
      go_wp2_with (first|(go_at_call 60;refine(HP0.out _).mono ?_;rintro e w' ⟨rfl,rfl⟩)|(go_at_call 63;refine HO.out.mono ?_;rintro e w3 ⟨rfl,hw3⟩;have hown3:=ownsRow_below hown2 hw3;have hB3:=below_two hB2 hw3;clear hown2 hw3))
      go_ret3
      exact⟨by rw[←HX.out];exact rfl,below_two hw1 ((hB3.alloc hB3.size _))⟩
  ·have hpx0:=HPX.out
   rw[show preP [47,47] ((bl s).drop p1)=isRemark ((bl s).drop p1) from rfl,hR] at hpx0
   have HP0:=Lib.hid hpx0
   have hix:=fun w=>index_c (s.extract p1 s.size) w
   rw[bl_from] at hix
   have hil:=index_line ((bl s).drop p1)
   have hjl:=line_le ((bl s).drop p1)
   rw[List.length_drop,bl_len] at hil hjl
   have hlex2:=HLEX1.out
   rw[lex_remark _ _ _ _ hR,List.drop_drop] at hlex2
   obtain⟨j,hj⟩:∃ j,j=lineLen ((bl s).drop p1):=⟨_,rfl⟩
   rw[←hj] at hil hjl hlex2
   obtain⟨p2,hp2⟩:∃ p2,p2=p1+j:=⟨_,rfl⟩
   rw[←hp2] at hlex2
   have HLEX2:=Lib.hid hlex2
   have hsum:(p1:Int)+(j:Int)=(p2:Int):=by omega
   have hp2s:p2≤s.size:=by omega
   have hp2p:pos≤p2:=by omega
   have hp2i:(p2:Int)≤(s.size:Int):=by omega
   have hj0:¬ (j:Int)<0:=by omega
   clear hpx0 HPX hR hlex2 hj HD1 HLEX1
   by_cases hneg:Lib.indexByte ((bl s).drop p1) 10<0
   ·rw[if_pos hneg] at hil
    have hend:p2=s.size:=by omega
    have hk:(s.size:Int) - (p1:Int)=(j:Int):=by omega
    have HIX:=Lib.hid hix
    clear hix hil hjl hp2
    generalize Lib.indexByte ((bl s).drop p1) 10=x at *
    have hdr:(bl s).drop p2=[]:=by rw[List.drop_eq_nil_iff,bl_len];omega
    have hq:((p2:Int)==(s.size:Int))=true:=by rw[hend];simp
    have HEND:=Lib.hid hend
    clear hend
    have hx:=HLEX2.out
    rw[hdr,lex_nil] at hx
    have hlen:=len_own hown2
    by_cases hA:ln<ts.length
    ·obtain⟨n,hn⟩:∃ n,ts.length=n+1:=⟨ts.length - 1,by omega⟩
     obtain⟨last,hlast⟩:∃ t,ts.getLast? = some t:=by
      cases h:ts.getLast? with
      |none=>rw[List.getLast?_eq_none_iff] at h;rw[h] at hn;simp at hn
      |some t=>exact⟨t,rfl⟩
     have hopn:opnOf ln ts=closesP last:=by unfold opnOf;rw[hlast,decide_eq_true hA];rfl
     have hlok:okTok last:=HOK.out last (List.mem_of_getLast? hlast)
     rw[hopn] at hx
     have hown0:=hown2
     rw[hn] at hown0
     rcases hown0.2 with ⟨-,h0⟩|⟨g,cap,cur,rfl,-⟩
     ·exact absurd h0 (by omega)
     obtain⟨k0,k1,k2,k3⟩:=tok_at hown0 hn hlast
     have HN:=Lib.hid hn
     have hends:=fun w=>ends_c last w hlok
     have hA1:(ln:Int)<((n+1:Nat):Int):=by omega
     have hn1:n+1≤16384:=by omega
     rw[hn] at hown2 hlen
     have hlna:ln≤n+1:=by omega
     have HLN:=Lib.hid hln
     have HTS:=Lib.hid hts
     have HAA:=Lib.hid hA
     clear hown0 hn hlast hopn hln hts hA
     cases hcl:closesP last
     ·rw[hcl] at hx hends
      have HE:=Lib.hid hends
      have HX:=Lib.hid hx
      clear hends hx hcl hlok
      go_wp2_with (first|(go_at_call 60;refine(HP0.out _).mono ?_;rintro e w' ⟨rfl,rfl⟩)|(go_at_call 61;refine(HIX.out _).mono ?_;rintro e w' ⟨rfl,rfl⟩)|(go_at_call 62;refine(HE.out _).mono ?_;rintro e w3 ⟨rfl,hw3⟩;have hown3:=ownsRow_below hown2 hw3;have hB3:=below_two hB2 hw3;clear hown2 hw3 k0 k1 k2 k3))
      go_ret3
      refine⟨?_,below_two hw1 hB3⟩
      rw[←HX.out]
      show TokPost _ (preR ts (.ok [])) _ _
      rw[show preR ts (.ok []) = .ok ts by simp[preR]]
      exact⟨_,rfl,ownsRow_base (by rw[HN.out];exact hown3) hw1.size,HOK.out⟩
     ·rw[hcl] at hx hends
      have HE:=Lib.hid hends
      clear hends hcl hlok
      simp only[if_true] at hx
      by_cases hfull:16384≤ts.length
      ·rw[if_pos hfull] at hx
       have HX:=Lib.hid hx
       have hn2:((16384:Int)≤((n+1:Nat):Int)):=by have:=HN.out;omega
       clear hx hfull
       go_wp2_with (first|(go_at_call 60;refine(HP0.out _).mono ?_;rintro e w' ⟨rfl,rfl⟩)|(go_at_call 61;refine(HIX.out _).mono ?_;rintro e w' ⟨rfl,rfl⟩)|(go_at_call 62;refine(HE.out _).mono ?_;rintro e w3 ⟨rfl,hw3⟩;have hown3:=ownsRow_below hown2 hw3;have hB3:=below_two hB2 hw3;clear hown2 hw3 k0 k1 k2 k3))
       go_ret3
       exact⟨by rw[←HX.out];exact rfl,below_two hw1 hB3⟩
      ·rw[if_neg hfull] at hx
       have HX:=Lib.hid hx
       have hn2:¬ ((16384:Int)≤((n+1:Nat):Int)):=by have:=HN.out;omega
       have HFULL:=Lib.hid hfull
       clear hx hfull
       go_wp2_with (first|(go_at_call 60;refine(HP0.out _).mono ?_;rintro e w' ⟨rfl,rfl⟩)|(go_at_call 61;refine(HIX.out _).mono ?_;rintro e w' ⟨rfl,rfl⟩)|(go_at_call 62;refine(HE.out _).mono ?_;rintro e w3 ⟨rfl,hw3⟩;have hown3:=ownsRow_below hown2 hw3;have hB3:=below_two hB2 hw3;clear hown2 hw3 k0 k1 k2 k3)|(at_builtin;refine wpList_append_own _ rfl _ _ 37 rfl w1.heap.size 46 i0 (.agg #[.int .i64 0,.string ⟨#[]⟩,.int .u64 0,.int .i64 0]) 4 40 Tryz.underlying37 HI.out hz0 hz1 hz2 rfl (by decide) _ _ _ rfl (hown3.alloc _) ⟨w3.heap.size,0,none⟩ 1 1 (tokCells (semiTok p2)) rfl rfl (cell_tok_new _ (semiTok p2) _) (tok_one _) (by unfold maxLen;omega) (by omega) (by have:=hB3.size;simp;omega) ?_;intro v4 w4 hown4 hgrow4 hnil4;have hB4:Below w1.heap.size w1 w4:=Below.grown (hB3.alloc hB3.size _) hgrow4 (by have:=hB3.size;simp;omega) (fun j hj=>by have:=(hown3.lt _ hj).1;omega);have hlen4:=len_own hown4;clear hgrow4 hnil4))
       go_ret3
       refine⟨?_,below_two hw1 hB4⟩
       rw[←HX.out]
       show TokPost _ (preR ts (.ok [semiTok p2])) _ _
       refine⟨_,rfl,ownsRow_base (by rw[List.length_append,flatT_snoc,HN.out];exact hown4) hw1.size,?_⟩
       intro t ht
       rcases List.mem_append.1 ht with ht|ht
       ·exact HOK.out t ht
       ·rw[List.mem_singleton.1 ht];exact .inr ⟨rfl,(by decide:enders.contains []=false)⟩
    ·have hopn:opnOf ln ts=false:=by unfold opnOf;rw[decide_eq_false hA];rfl
     rw[hopn] at hx
     have HX:=Lib.hid hx
     have hA1:¬ (ln:Int)<(ts.length:Int):=by omega
     have hlnl:ln=ts.length:=by omega
     clear hx hopn hA
     go_wp2_with (first|(go_at_call 60;refine(HP0.out _).mono ?_;rintro e w' ⟨rfl,rfl⟩)|(go_at_call 61;refine(HIX.out _).mono ?_;rintro e w' ⟨rfl,rfl⟩))
     go_ret3
     refine⟨?_,below_two hw1 hB2⟩
     rw[←HX.out]
     show TokPost _ (preR ts (.ok [])) _ _
     rw[show preR ts (.ok []) = .ok ts by simp[preR]]
     exact⟨_,rfl,ownsRow_base hown2 hw1.size,HOK.out⟩
   ·rw[if_neg hneg] at hil
    rw[hil] at hix
    have HIX:=Lib.hid hix
    have hsome:=(Lib.indexByte_some (l:=(bl s).drop p1) (c:=10) (o:=j) hil).1
    have hdr:(bl s).drop p2=10 :: (bl s).drop (p2+1):=by
     rw[List.getElem?_drop,←hp2] at hsome
     obtain⟨h1,h2⟩:=List.getElem?_eq_some_iff.1 hsome
     rw[List.drop_eq_getElem_cons h1,h2]
    have hlt:p2<s.size:=by
     rw[List.getElem?_drop,←hp2] at hsome
     obtain⟨h1,h2⟩:=List.getElem?_eq_some_iff.1 hsome
     rw[bl_len] at h1;exact h1
    have hb:s[p2]=10:=by
     have h1:=at_bl s p2 hlt
     rw[List.getElem?_drop,←hp2,h1] at hsome
     exact Option.some.inj hsome
    have hend:¬ p2=s.size:=by omega
    clear hix hil hjl hp2 hneg hsome
    have hq:((p2:Int)==(s.size:Int))=false:=by rw[beq_eq_false_iff_ne];omega
    have hq2:((s[p2].toNat:Int)==10)=true:=by rw[hb];rfl
    have hlt1:(p2:Int)<(s.size:Int):=by omega
    clear hend hb
    have hx:=HLEX2.out
    rw[hdr,lex_line] at hx
    have hlen:=len_own hown2
    by_cases hA:ln<ts.length
    ·obtain⟨n,hn⟩:∃ n,ts.length=n+1:=⟨ts.length - 1,by omega⟩
     obtain⟨last,hlast⟩:∃ t,ts.getLast? = some t:=by
      cases h:ts.getLast? with
      |none=>rw[List.getLast?_eq_none_iff] at h;rw[h] at hn;simp at hn
      |some t=>exact⟨t,rfl⟩
     have hopn:opnOf ln ts=closesP last:=by unfold opnOf;rw[hlast,decide_eq_true hA];rfl
     have hlok:okTok last:=HOK.out last (List.mem_of_getLast? hlast)
     rw[hopn] at hx
     have hown0:=hown2
     rw[hn] at hown0
     rcases hown0.2 with ⟨-,h0⟩|⟨g,cap,cur,rfl,-⟩
     ·exact absurd h0 (by omega)
     obtain⟨k0,k1,k2,k3⟩:=tok_at hown0 hn hlast
     have HN:=Lib.hid hn
     have hends:=fun w=>ends_c last w hlok
     have hA1:(ln:Int)<((n+1:Nat):Int):=by omega
     have hn1:n+1≤16384:=by omega
     rw[hn] at hown2 hlen
     have hlna:ln≤n+1:=by omega
     have HLN:=Lib.hid hln
     have HTS:=Lib.hid hts
     have HAA:=Lib.hid hA
     clear hown0 hn hlast hopn hln hts hA
     cases hcl:closesP last
     ·rw[hcl] at hx hends
      have HE:=Lib.hid hends
      have HX:=Lib.hid hx
      clear hends hx hcl hlok
      go_wp2_with (first|(go_at_call 60;refine(HP0.out _).mono ?_;rintro e w' ⟨rfl,rfl⟩)|(go_at_call 61;refine(HIX.out _).mono ?_;rintro e w' ⟨rfl,rfl⟩)|(go_at_call 62;refine(HE.out _).mono ?_;rintro e w3 ⟨rfl,hw3⟩;have hown3:=ownsRow_below hown2 hw3;have hB3:=below_two hB2 hw3;clear hown2 hw3 k0 k1 k2 k3))
      go_roundw
      case rel=>exact⟨ts,ts.length,p2+1,by rw[HN.out];rfl,by go_num,by omega,Nat.le_refl _,(by rw[HN.out];exact hown3),hB3,HOK,HTS.out,Lib.hid (by rw[opn_none];exact HX.out)⟩
      case measure=>simp[intOf];omega
     ·rw[hcl] at hx hends
      have HE:=Lib.hid hends
      clear hends hcl hlok
      simp only[if_true] at hx
      by_cases hfull:16384≤ts.length
      ·rw[if_pos hfull] at hx
       have HX:=Lib.hid hx
       have hn2:((16384:Int)≤((n+1:Nat):Int)):=by have:=HN.out;omega
       clear hx hfull
       go_wp2_with (first|(go_at_call 60;refine(HP0.out _).mono ?_;rintro e w' ⟨rfl,rfl⟩)|(go_at_call 61;refine(HIX.out _).mono ?_;rintro e w' ⟨rfl,rfl⟩)|(go_at_call 62;refine(HE.out _).mono ?_;rintro e w3 ⟨rfl,hw3⟩;have hown3:=ownsRow_below hown2 hw3;have hB3:=below_two hB2 hw3;clear hown2 hw3 k0 k1 k2 k3))
       go_ret3
       exact⟨by rw[←HX.out];exact rfl,below_two hw1 hB3⟩
      ·rw[if_neg hfull] at hx
       have HX:=Lib.hid hx
       have hn2:¬ ((16384:Int)≤((n+1:Nat):Int)):=by have:=HN.out;omega
       have HFULL:=Lib.hid hfull
       clear hx hfull
       go_wp2_with (first|(go_at_call 60;refine(HP0.out _).mono ?_;rintro e w' ⟨rfl,rfl⟩)|(go_at_call 61;refine(HIX.out _).mono ?_;rintro e w' ⟨rfl,rfl⟩)|(go_at_call 62;refine(HE.out _).mono ?_;rintro e w3 ⟨rfl,hw3⟩;have hown3:=ownsRow_below hown2 hw3;have hB3:=below_two hB2 hw3;clear hown2 hw3 k0 k1 k2 k3)|(at_builtin;refine wpList_append_own _ rfl _ _ 37 rfl w1.heap.size 46 i0 (.agg #[.int .i64 0,.string ⟨#[]⟩,.int .u64 0,.int .i64 0]) 4 40 Tryz.underlying37 HI.out hz0 hz1 hz2 rfl (by decide) _ _ _ rfl (hown3.alloc _) ⟨w3.heap.size,0,none⟩ 1 1 (tokCells (semiTok p2)) rfl rfl (cell_tok_new _ (semiTok p2) _) (tok_one _) (by unfold maxLen;omega) (by omega) (by have:=hB3.size;simp;omega) ?_;intro v4 w4 hown4 hgrow4 hnil4;have hB4:Below w1.heap.size w1 w4:=Below.grown (hB3.alloc hB3.size _) hgrow4 (by have:=hB3.size;simp;omega) (fun j hj=>by have:=(hown3.lt _ hj).1;omega);have hlen4:=len_own hown4;clear hgrow4 hnil4))
       go_roundw
       case rel=>exact⟨ts++[semiTok p2],n+2,p2+1,by rfl,by go_num,by omega,by simp[HN.out],(by rw[List.length_append,flatT_snoc,HN.out];exact hown4),hB4,Lib.hid (by
        intro t ht
        rcases List.mem_append.1 ht with ht|ht
        ·exact HOK.out t ht
        ·rw[List.mem_singleton.1 ht];exact .inr ⟨rfl,(by decide:enders.contains []=false)⟩),by have:=HFULL.out;simp;omega,Lib.hid (by
        have h1:=HX.out
        rw[preR_cons] at h1
        rw[show n+2=(ts++[semiTok p2]).length by simp[HN.out],opn_none,List.length_append]
        exact h1)⟩
       case measure=>simp[intOf];omega
    ·have hopn:opnOf ln ts=false:=by unfold opnOf;rw[decide_eq_false hA];rfl
     rw[hopn] at hx
     have HX:=Lib.hid hx
     have hA1:¬ (ln:Int)<(ts.length:Int):=by omega
     have hlnl:ln=ts.length:=by omega
     clear hx hopn hA
     go_wp2_with (first|(go_at_call 60;refine(HP0.out _).mono ?_;rintro e w' ⟨rfl,rfl⟩)|(go_at_call 61;refine(HIX.out _).mono ?_;rintro e w' ⟨rfl,rfl⟩))
     go_roundw
     case rel=>exact⟨ts,ts.length,p2+1,by rfl,by go_num,by omega,Nat.le_refl _,hown2,hB2,HOK,by omega,Lib.hid (by rw[opn_none];exact HX.out)⟩
     case measure=>simp[intOf];omega
theorem tokens_c (s:ByteArray)(w:World)(h:Laid w)(hm:s.size≤maxLen):
  Calls Tryz.prog 30 #[.string s] w fun e w'=>TokPost w.heap.size (tokensP (bl s)) e w'∧Below w.heap.size w w':=by
 unfold maxLen at hm
 by_cases hs:65536<s.size
 ·have hr:tokensP (bl s) = .error (0,6):=by unfold tokensP;rw[bl_len,if_pos hs]
  rw[hr]
  have hs1:(65536:Int)<(s.size:Int):=by omega
  clear hr
  go_enter Tryz.func30, Tryz.ntmps30
  go_wp2
  go_ret3
  exact⟨rfl,Below.refl _ _⟩
 ·by_cases hv:wholeL (bl s)<s.size
  ·have hr:tokensP (bl s) = .error (wholeL (bl s),3):=by unfold tokensP;rw[bl_len,if_neg hs,if_pos hv]
   rw[hr]
   have hs1:¬ (65536:Int)<(s.size:Int):=by omega
   have hv1:(wholeL (bl s):Int)<(s.size:Int):=by omega
   have HWH:=Lib.hid (whole_c s w h (by omega))
   clear hr
   generalize wholeL (bl s)=n at *
   go_enter Tryz.func30, Tryz.ntmps30
   go_wp2_with fail
   refine HWH.out.mono ?_
   rintro e w1 ⟨rfl,hw1⟩
   go_wp2
   go_ret3
   exact⟨rfl,hw1⟩
  ·have hr:tokensP (bl s)=lex (bl s) 0 false 0:=by unfold tokensP;rw[bl_len,if_neg hs,if_neg hv]
   rw[hr]
   have hle:=wholeL_bd (bl s)
   rw[bl_len] at hle
   exact tokens_walk s w h (by omega) (by omega)
end Go.Proofs.YtcbkeecabcbogaaGreatDoor
namespace Go.Proofs.YtcbkeecabcbogaaGreatDoor
end Go.Proofs.YtcbkeecabcbogaaGreatDoor
