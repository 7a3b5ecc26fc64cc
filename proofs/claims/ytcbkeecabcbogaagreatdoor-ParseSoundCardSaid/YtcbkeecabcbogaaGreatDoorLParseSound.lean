/- For every input the law ParseSound returns true and leaves its arguments as they were, where the listed tables hold what their initialisers lay; and the card that ties them to the program's text. N -/
import Derived.Test.YtcbkeecabcbogaaGreatDoorCards
import Derived.Test.YtcbkeecabcbogaaGreatDoorTie
import Derived.Test.YtcbkeecabcbogaaGreatDoorSbm
import Derived.Test.YtcbkeecabcbogaaGreatDoorCParseSound
import Derived.WalkKit
import Derived.ProofKit
import Derived.OpenShut
import Derived.ShutString
import Derived.ChangeOld
import Derived.Below
import Derived.Lib.SmallJoins
import Derived.Deep.DeepHandedRow
import Derived.Deep.DeepWitnessRowRef
import Derived.Lib.LaidTab
import Derived.LaidMore
import Derived.Lay
import Derived.MakeChecks
import Derived.Stop.LaidErr
set_option maxRecDepth 100000
set_option linter.unusedSimpArgs false
set_option linter.unusedVariables false
namespace Go.Proofs.YtcbkeecabcbogaaGreatDoor.parseSound
open Go.ChangeShapes Go.WideShapes Go.ChangeAt Go.RowKit Go.Joins
open Go.ChangeMaps (open_string shut_string)
theorem own:ownKnob Tryz.prog.godebug=none:=by kernel_rfl
theorem laidOut:laidOutB Tryz.prog=true:=by kernel_rfl
theorem contract (H:Type)(enc:TypeId×Value→H)(W:World)(base:Nat)(args:Array Value)(ds gs:List (DataW H))(before:List MemPlace)
  (hval0:∀ (j:Nat) t v,Tryz.f6.params[j]? = some t→args[j]? = some v→Value.okWide Tryz.prog W .any base t v)
  (hW:DataW.Whole enc Tryz.prog Tryz.f6.params.toList Rows.parseSoundSpec.vars false W args.toList ds gs before) (hre:(DataW.weightsEach Tryz.prog (Tryz.f6.params.toList++(OpenSpec.ofChange Rows.parseSoundSpec).bare.plain.varTypes Tryz.prog) (ds++gs)).all (· ≤ reachBytes)=true) (hL:laidMetH Tryz.prog Rows.parseSoundRow.laid W) (hsh:W.ShapedOpen Tryz.prog):
  Calls Tryz.prog 6 args W fun e W'=>∃ v,e=.returned v∧Rows.parseSoundSpec.post enc Tryz.prog Tryz.f6 false true false false W args v W':=by
 have hval:∀ (j:Nat) t v,Tryz.f6.params[j]? = some t→args[j]? = some v→Value.okWide Tryz.prog W .any base t v:=hval0;have hW':=hW;obtain⟨p,q,hA0,hV,rfl,hfz,hnd⟩:=hW;have hA:DataW.TrodAll enc Tryz.prog W 0 (fun _=>true) true Tryz.f6.params.toList args.toList ds p:=hA0;rw[Tryz.params6] at hA hval;obtain⟨v0,vs0,d0,ds0,p0,q0,hargs,rfl,rfl,h0,r0⟩:=trodAll_cons hA;obtain⟨rfl,rfl,rfl⟩:=trodAll_nil r0;obtain rfl:args = #[v0]:=by cases args;simp_all
 obtain⟨rfl,rfl⟩:=trodVars_none hV;have k0:=h0;have lt0:∀ x∈p0,x.block<W.heap.size:=by obtain⟨m,hm⟩:=k0;exact DataW.trod_lt m _ _ _ hm
 obtain⟨a0,rfl,rfl,rfl,w0⟩:=open_string Tryz.underlying9 (hval 0 9 v0 rfl rfl) h0;clear hA0 hval0;have hL2:laidMet Tryz.prog laidList W:=by
  rw[MakeChecks.laidMetH_plain _ _ _ Dk] at hL;rw[show Rows.parseSoundRow.laid=laidList by kernel_rfl] at hL;exact hL
 clear hL;refine(walkParseSound a0 w0 W (laid_of hL2 hsh)).mono fun e W' ⟨he,bel⟩=>?_
 subst he;exact⟨_,rfl,_,_,_,[],_,[],hW',trodAll_mk1 (shut_bool Tryz.underlying4 _),(trodAll_cons_mk (Below.trod laidOut Dk (of_decide_eq_true Dk) k0 bel lt0) trodAll_mk0),rfl,bel.frame _,fun h=>by cases h⟩
theorem laid_met (os:Os):laidMet Tryz.prog Rows.parseSoundRow.laid ((World.laidAll Tryz.prog os Rows.parseSoundRow.laid).forCall (fun _ _=>0) ⟨#[],#[.string ByteArray.empty],[]⟩).memory:=
 laidMet_laidAll _ Dk Dk
theorem reads (os:Os){H:Type}(enc:TypeId×Value→H):∃ places,DataW.whole enc Tryz.prog ((World.laidAll Tryz.prog os Rows.parseSoundRow.laid).forCall (fun _ _=>0) ⟨#[],#[.string ByteArray.empty],[]⟩).memory Tryz.f6.params.toList Rows.parseSoundSpec.vars false (#[.string ByteArray.empty]:Array Value).toList 8=some ([.lit (.string [])],[],places):=
 ⟨[],by kernel_rfl⟩
theorem lifted (os:Os)(started:os.Started)(H:Type)(enc:TypeId×Value→H)(F:Stop.Interp):
  ReturnsInHanded {} Tryz.checked os 6 .any ((OpenSpec.ofChange Rows.parseSoundSpec).preRow enc Tryz.prog Tryz.f6 Rows.parseSoundRow.domain false Rows.parseSoundRow.laid) (((OpenSpec.ofChange Rows.parseSoundSpec).at F).post enc Tryz.prog Tryz.f6 false true false false):=by
 obtain⟨places,hx⟩:=reads os enc;refine returnsInHanded_of_row (C:=Tryz.checked) (s:=OpenSpec.ofChange Rows.parseSoundSpec) own started Dk Tryz.func6
  (witness_row_atRef (enc:=enc) (C:=Tryz.checked) false (World.laidAll Tryz.prog os Rows.parseSoundRow.laid) #[.string ByteArray.empty] (World.laidAll_os _ _ _) Dk Dk Dk
   (OpenSpec.preRow_of_cond 8 hx Dk (fun k hk=>by cases hk) Dk (laid_met os))) ?_
 intro W base args ds gs before hval hW _ _ hre hL hsh _;exact contract H enc W base args ds gs before hval hW hre hL hsh
theorem said:Rows.ParseSoundSaid:=
 OpenClaim.holds_of_cond 6 Tryz.f6 rfl rfl rfl rfl rfl rfl rfl ⟨rfl,rfl,rfl,rfl,rfl⟩ rfl rfl rfl rfl rfl Dk Tryz.func6 Dk
  (of_decide_eq_true Dk) (by unfold Func.isWrapper;first|(rw[if_pos (by decide +kernel)];kernel_rfl)|(rw[if_neg (by decide +kernel)];exact⟨rfl,rfl⟩))
  (fun os started H enc _ F=>by rw[OpenClaim.pre_eq_preRow];exact lifted os started H enc F)
theorem plain (f:FuncId)(fn:Func)(hf:Tryz.pinned.checked.prog.funcNamed Rows.parseSoundRow.func=some f)(hfn:Tryz.pinned.checked.prog.funcs[f]? = some fn):
  true=Tryz.pinned.checked.prog.looks []∧∀ (j:Nat) t,fn.params[j]? = some t→Tryz.pinned.checked.prog.wantsStandIn t=false:=by
 obtain rfl:f=6:=Option.some.inj ((show Tryz.prog.funcNamed Rows.parseSoundRow.func=some 6 by kernel_rfl).symm.trans hf) |>.symm;obtain rfl:fn=Tryz.f6:=(Option.some.inj (Tryz.func6.symm.trans hfn)).symm;refine⟨by kernel_rfl,fun j t ht=>?_⟩;rw[Tryz.params6] at ht;have hm:=Array.mem_of_getElem? ht;have hall:∀ x ∈ #[9],Tryz.prog.wantsStandIn x=false:=by
  intro x hx;simp only[List.mem_toArray,List.mem_cons,List.mem_nil_iff,or_false] at hx;subst hx <;> kernel_rfl
 exact hall t hm
theorem proved:Rows.ParseSoundCardSaid:=
 Claim7.holds_tied_plain_at .later [] _ _ _ _ said (fun _ h=>by cases h) Dk (fun _ h=>by cases h) parseSound_row_tie rfl ⟨rfl,rfl⟩ Dk rfl plain Dk
#print axioms proved
end Go.Proofs.YtcbkeecabcbogaaGreatDoor.parseSound
