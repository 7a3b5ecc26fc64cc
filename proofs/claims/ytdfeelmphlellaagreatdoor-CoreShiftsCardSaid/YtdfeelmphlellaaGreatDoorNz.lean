/- A module's check by the evaluator, for the modules of the laws CoreShifts whose second function has a flag for a result; and for those with a number. From the rows' condition to what the walks of the core laws ask of the listed variables: the table of operators. The walk of the law CoreShifts: it returns true for every input within the range of its types. For the six kinds by the evaluator's answers on tokens, else by hand. For every input the law CoreShifts returns true and leaves its arguments as they were, where the listed tables hold what their initialisers lay; and the card that ties them to the program's text. No condition of mine. The walk stands in Nq. -/
import Derived.Test.YtdfeelmphlellaaGreatDoorNd
import Derived.KernelRfl
import Derived.Test.YtdfeelmphlellaaGreatDoorCards
import Derived.Lib.LaidU8
import Derived.Lib.LaidTab
import Derived.Shelf.Vars
import Derived.OpenShut
import Derived.ChangeSlices
import Derived.Test.YtdfeelmphlellaaGreatDoorNu
import Derived.Test.YtdfeelmphlellaaGreatDoorRa
import Derived.WalkKit
import Derived.Below
import Derived.Test.YtdfeelmphlellaaGreatDoorNp2u
import Derived.Test.YtdfeelmphlellaaGreatDoorNp2d
import Derived.Test.YtdfeelmphlellaaGreatDoorNp3u
import Derived.Test.YtdfeelmphlellaaGreatDoorNp3d
import Derived.Test.YtdfeelmphlellaaGreatDoorNp4u
import Derived.Test.YtdfeelmphlellaaGreatDoorNp4d
import Derived.Test.YtdfeelmphlellaaGreatDoorNp5u
import Derived.Test.YtdfeelmphlellaaGreatDoorNp5d
import Derived.Test.YtdfeelmphlellaaGreatDoorNp6u
import Derived.Test.YtdfeelmphlellaaGreatDoorNp6d
import Derived.Test.YtdfeelmphlellaaGreatDoorNp7u
import Derived.Test.YtdfeelmphlellaaGreatDoorNp7d
import Derived.Test.YtdfeelmphlellaaGreatDoorTie
import Derived.ProofKit
import Derived.ShutString
import Derived.ChangeOld
import Derived.Lib.SmallJoins
import Derived.Deep.DeepHandedRow
import Derived.LaidMore
import Derived.Lay
import Derived.MakeChecks
import Derived.Stop.LaidErr
namespace Go.Proofs.YtdfeelmphlellaaGreatDoor
open Go.RowKit
open Ev
set_option linter.unusedSimpArgs false
set_option linter.unusedVariables false

theorem check_21 : AskC 2 1 := by unfold AskC; kernel_rfl
theorem check_31 : AskC 3 1 := by unfold AskC; kernel_rfl
theorem check_41 : AskC 4 1 := by unfold AskC; kernel_rfl
theorem check_51 : AskC 5 1 := by unfold AskC; kernel_rfl
theorem check_61 : AskC 6 1 := by unfold AskC; kernel_rfl
theorem check_71 : AskC 7 1 := by unfold AskC; kernel_rfl
theorem check_22 : AskC 2 2 := by unfold AskC; kernel_rfl
theorem check_33 : AskC 3 3 := by unfold AskC; kernel_rfl
theorem check_44 : AskC 4 4 := by unfold AskC; kernel_rfl
theorem check_55 : AskC 5 5 := by unfold AskC; kernel_rfl
theorem check_77 : AskC 7 7 := by unfold AskC; kernel_rfl
end Go.Proofs.YtdfeelmphlellaaGreatDoor
namespace Go.Proofs.YtdfeelmphlellaaGreatDoor
open Go.RowKit
set_option linter.unusedSimpArgs false
set_option linter.unusedVariables false

theorem cells_of_strs {H : Type} {enc : TypeId × Value → H} {P : Program} {w : World} {base : Nat} {sp : Nat → Bool} {held : Bool} {fuel : Nat} {t e : TypeId} {n : Nat} {cs : List Value} {zs : List (List UInt8)} {p : List MemPlace}
    (ht : P.underlying t = some (.array n e)) (he : P.underlying e = some .string) (hce : P.cellsOf e = 1) (hct : P.cellsOf t = n)
    (h : DataW.trod enc P w base sp held fuel t cs = some (.agg (zs.map fun z => .lit (.string z)), p)) : cs = zs.map fun z => Value.string ⟨z.toArray⟩ := by
  obtain ⟨xs, m, rfl, hx, hl, hxl, hall⟩ := DataW.trod_array ht h
  have hxs : xs.map (·.1) = zs.map fun z => (DataW.lit (.string z) : DataW H) := by
    have := congrArg Prod.fst hx
    simpa using this.symm
  have hzl : zs.length = n := by
    have := congrArg List.length hxs
    simp at this; omega
  apply List.ext_getElem?
  intro i
  by_cases hi : i < n
  · have h1 := hall i hi
    rw [hce] at h1
    obtain ⟨b, hb⟩ : ∃ b, xs[i]? = some b := ⟨xs[i]'(by omega), List.getElem?_eq_getElem (by omega)⟩
    rw [hb] at h1
    obtain ⟨s, hcz, rfl, _⟩ := DataW.trod_string he h1
    have h2 : cs[i]? = some (.string s) := by
      have := congrArg (·[0]?) hcz
      simpa [List.getElem?_take, List.getElem?_drop] using this
    have h3 : (xs.map (·.1))[i]? = some (DataW.lit (.string s.data.toList) : DataW H) := by simp [hb]
    rw [hxs] at h3
    simp only [List.getElem?_map, Option.map_eq_some_iff, DataW.lit.injEq, Lit.string.injEq] at h3
    obtain ⟨z', hz', e'⟩ := h3
    rw [h2]
    simp only [List.getElem?_map, hz', Option.map_some, e']
  · rw [List.getElem?_eq_none (by omega), List.getElem?_eq_none (by simp; omega)]
theorem ops_row : ((((begin Tryz.prog (fun _ _ => 0) default).world.heap[0]?).bind Obj.row?).map (·.2)) = some 179 := by kernel_rfl
def laidList : List (String × DataW Unit) := [("math/bits.deBruijn32tab", Rows.laid_math_bits_deBruijn32tab), ("math/bits.deBruijn64tab", Rows.laid_math_bits_deBruijn64tab), ("internal/strconv.uint64pow10", Rows.laid_internal_strconv_uint64pow10), ("mullion/engine.ops", Rows.laid_mullion_engine_ops)]
theorem laid_of {W : World} (h : laidMet Tryz.prog laidList W) (hsh : W.ShapedOpen Tryz.prog) : Laid W := by
  have hr : ∀ n d, (n, d) ∈ laidList → Lib.VarReads Tryz.prog W n d := fun n d hm => Lib.laidMet.reads h hm
  refine ⟨?_⟩
  obtain ⟨g, t, cs, fuel, p, hg, hty, hvar, hd⟩ := hr "mullion/engine.ops" _ (by unfold laidList; repeat (first | exact List.Mem.head _ | apply List.Mem.tail))
  have hg' : (Tryz.prog).globalNamed "mullion/engine.ops" = some 0 := by kernel_rfl
  have ht' : ((Tryz.prog).globals[0]?).map (·.type) = some 179 := by kernel_rfl
  obtain rfl := Option.some.inj (hg'.symm.trans hg)
  obtain rfl := Option.some.inj (ht'.symm.trans hty)
  have hcs := cells_of_strs (zs := opsL) Tryz.underlying179 Tryz.underlying9 (by kernel_rfl) (by kernel_rfl) hd
  unfold World.var? at hvar
  rw [hg'] at hvar
  simp only [Option.bind_some] at hvar
  split at hvar
  · rename_i cs' t' fr' hh
    cases hvar
    cases hrow : ((begin Tryz.prog (fun _ _ => 0) default).world.heap[0]?).bind Obj.row? with
    | none => have := ops_row; rw [hrow] at this; cases this
    | some zt =>
      obtain ⟨zero, t0⟩ := zt
      have ht0 : t0 = 179 := by
        have := ops_row
        rw [hrow] at this
        exact Option.some.inj this
      obtain ⟨cs2, h1, -, -⟩ := hsh.1 0 zero t0 (by decide +kernel) hrow
      rw [h1] at hh ⊢
      simp only [Option.some.injEq, Obj.cells.injEq] at hh
      obtain ⟨e1, -, -⟩ := hh
      have e2 : cs2 = opsCells.toArray := by
        apply Array.toList_inj.1
        rw [e1, hcs]
        rfl
      rw [e2, ht0]
  · cases hvar
end Go.Proofs.YtdfeelmphlellaaGreatDoor
namespace Go.Proofs.YtdfeelmphlellaaGreatDoor
open Go.RowKit
open Ev
set_option linter.unusedSimpArgs false
set_option linter.unusedVariables false

theorem code_u : opCode ⟨(([60, 60] : List UInt8)).toArray⟩ = 10 := by decide +kernel
theorem code_d : opCode ⟨(([62, 62] : List UInt8)).toArray⟩ = 11 := by decide +kernel
theorem sErr (k a b : Int) (c : Nat) (hk : isW k = true) (hc : c = 10 ∨ c = 11) (ha : inW k a = true) (hb : inW k b = true) : shiftErr k c a k b = if sval k b < 0 then 19 else 0 := by
  unfold shiftErr
  rw [if_pos ⟨hc, hk, hk⟩, ha, hb]
  rfl
theorem neg_of (k n : Int) (h0 : 0 ≤ n) (h1 : n ≤ 18446744073709551615) : ofNeg k n = decide (sval k n < 0) := by
  unfold ofNeg sval
  cases sgnW k with
  | false => simp; omega
  | true => simp [wrap64]; omega
theorem sval_inj (k a b : Int) (ha : 0 ≤ a) (ha2 : a ≤ 18446744073709551615) (hb : 0 ≤ b) (hb2 : b ≤ 18446744073709551615) (h : sval k a = sval k b) : a = b := by
  unfold sval at h
  cases hs : sgnW k with
  | false => rw [hs] at h; simpa using h
  | true => rw [hs] at h; simp [wrap64] at h; omega
theorem uns (k n : Int) (hs : sgnW k = false) (h0 : 0 ≤ n) : ¬ sval k n < 0 := by
  unfold sval
  rw [hs]
  simp; omega
theorem kind_2u (x y : Int) (hx : 0 ≤ x) (hx2 : x ≤ 18446744073709551615) (hy : 0 ≤ y) (hy2 : y ≤ 18446744073709551615) (w : World) (hL : Laid w) :
    Calls Tryz.prog 4 #[.int .i64 2, .int .u64 x, .int .u64 y, .bool true] w fun e w' => e = .returned (.bool true) ∧ Below w.heap.size w w' := by
  have hk : isW 2 = true := by decide
  have he := sErr 2 (wrapW 2 x) (wrapW 2 y) (opCode ⟨(([60, 60] : List UInt8)).toArray⟩) hk (by rw [code_u]; omega) (inW_wrapW 2 x hk hx hx2) (inW_wrapW 2 y hk hy hy2)
  obtain ⟨ha, ha2⟩ := wrapW_bd 2 x hx hx2
  obtain ⟨hb, hb2⟩ := wrapW_bd 2 y hy hy2
  have hna := neg_of 2 (wrapW 2 x) ha ha2
  have hnb := neg_of 2 (wrapW 2 y) hb hb2
  by_cases hneg : sval 2 (wrapW 2 y) < 0
  · rw [if_pos hneg] at he
    exact shift_tok (er_2u (decide (sval 2 (wrapW 2 x) < sval 2 (wrapW 2 y))) (ofNeg 2 (wrapW 2 x)) (ofNeg 2 (wrapW 2 y))) check_22 check_21 hk x y hx hx2 hy hy2 he (fun h => by cases h) (fun h => by cases h) rfl rfl rfl w hL
  · rw [if_neg hneg] at he
    have hnb2 : ofNeg 2 (wrapW 2 y) = false := by rw [hnb]; simp [hneg]
    by_cases heq : sval 2 (wrapW 2 x) = sval 2 (wrapW 2 y)
    · have hab := sval_inj 2 _ _ ha ha2 hb hb2 heq
      exact shift_tok eq_2u check_22 check_21 hk x y hx hx2 hy hy2 he (fun _ => hab) (fun h => by cases h) (by rw [heq]; simp) (by rw [hab]; exact hnb2) hnb2 w hL
    · have hne : wrapW 2 x ≠ wrapW 2 y := fun h => heq (by rw [h])
      by_cases hlt : sval 2 (wrapW 2 x) < sval 2 (wrapW 2 y)
      · by_cases hn : sval 2 (wrapW 2 x) < 0
        · exact shift_tok ng_2u check_22 check_21 hk x y hx hx2 hy hy2 he (fun h => by cases h) (fun _ => hne) (by simp [hlt]) (by rw [hna]; simp [hn]) hnb2 w hL
        · exact shift_tok lt_2u check_22 check_21 hk x y hx hx2 hy hy2 he (fun h => by cases h) (fun _ => hne) (by simp [hlt]) (by rw [hna]; simp [hn]) hnb2 w hL
      · exact shift_tok gt_2u check_22 check_21 hk x y hx hx2 hy hy2 he (fun h => by cases h) (fun _ => hne) (by simp [hlt]) (by rw [hna]; simp; omega) hnb2 w hL
theorem kind_2d (x y : Int) (hx : 0 ≤ x) (hx2 : x ≤ 18446744073709551615) (hy : 0 ≤ y) (hy2 : y ≤ 18446744073709551615) (w : World) (hL : Laid w) :
    Calls Tryz.prog 4 #[.int .i64 2, .int .u64 x, .int .u64 y, .bool false] w fun e w' => e = .returned (.bool true) ∧ Below w.heap.size w w' := by
  have hk : isW 2 = true := by decide
  have he := sErr 2 (wrapW 2 x) (wrapW 2 y) (opCode ⟨(([62, 62] : List UInt8)).toArray⟩) hk (by rw [code_d]; omega) (inW_wrapW 2 x hk hx hx2) (inW_wrapW 2 y hk hy hy2)
  obtain ⟨ha, ha2⟩ := wrapW_bd 2 x hx hx2
  obtain ⟨hb, hb2⟩ := wrapW_bd 2 y hy hy2
  have hna := neg_of 2 (wrapW 2 x) ha ha2
  have hnb := neg_of 2 (wrapW 2 y) hb hb2
  by_cases hneg : sval 2 (wrapW 2 y) < 0
  · rw [if_pos hneg] at he
    exact shift_tok (er_2d (decide (sval 2 (wrapW 2 x) < sval 2 (wrapW 2 y))) (ofNeg 2 (wrapW 2 x)) (ofNeg 2 (wrapW 2 y))) check_22 check_21 hk x y hx hx2 hy hy2 he (fun h => by cases h) (fun h => by cases h) rfl rfl rfl w hL
  · rw [if_neg hneg] at he
    have hnb2 : ofNeg 2 (wrapW 2 y) = false := by rw [hnb]; simp [hneg]
    by_cases heq : sval 2 (wrapW 2 x) = sval 2 (wrapW 2 y)
    · have hab := sval_inj 2 _ _ ha ha2 hb hb2 heq
      exact shift_tok eq_2d check_22 check_21 hk x y hx hx2 hy hy2 he (fun _ => hab) (fun h => by cases h) (by rw [heq]; simp) (by rw [hab]; exact hnb2) hnb2 w hL
    · have hne : wrapW 2 x ≠ wrapW 2 y := fun h => heq (by rw [h])
      by_cases hlt : sval 2 (wrapW 2 x) < sval 2 (wrapW 2 y)
      · by_cases hn : sval 2 (wrapW 2 x) < 0
        · exact shift_tok ng_2d check_22 check_21 hk x y hx hx2 hy hy2 he (fun h => by cases h) (fun _ => hne) (by simp [hlt]) (by rw [hna]; simp [hn]) hnb2 w hL
        · exact shift_tok lt_2d check_22 check_21 hk x y hx hx2 hy hy2 he (fun h => by cases h) (fun _ => hne) (by simp [hlt]) (by rw [hna]; simp [hn]) hnb2 w hL
      · exact shift_tok gt_2d check_22 check_21 hk x y hx hx2 hy hy2 he (fun h => by cases h) (fun _ => hne) (by simp [hlt]) (by rw [hna]; simp; omega) hnb2 w hL
theorem kind_3u (x y : Int) (hx : 0 ≤ x) (hx2 : x ≤ 18446744073709551615) (hy : 0 ≤ y) (hy2 : y ≤ 18446744073709551615) (w : World) (hL : Laid w) :
    Calls Tryz.prog 4 #[.int .i64 3, .int .u64 x, .int .u64 y, .bool true] w fun e w' => e = .returned (.bool true) ∧ Below w.heap.size w w' := by
  have hk : isW 3 = true := by decide
  have he := sErr 3 (wrapW 3 x) (wrapW 3 y) (opCode ⟨(([60, 60] : List UInt8)).toArray⟩) hk (by rw [code_u]; omega) (inW_wrapW 3 x hk hx hx2) (inW_wrapW 3 y hk hy hy2)
  obtain ⟨ha, ha2⟩ := wrapW_bd 3 x hx hx2
  obtain ⟨hb, hb2⟩ := wrapW_bd 3 y hy hy2
  have hna := neg_of 3 (wrapW 3 x) ha ha2
  have hnb := neg_of 3 (wrapW 3 y) hb hb2
  have hs : sgnW 3 = false := by decide
  have hna2 : ofNeg 3 (wrapW 3 x) = false := by rw [hna]; simp [uns 3 _ hs ha]
  have hnb2 : ofNeg 3 (wrapW 3 y) = false := by rw [hnb]; simp [uns 3 _ hs hb]
  rw [if_neg (uns 3 _ hs hb)] at he
  by_cases heq : sval 3 (wrapW 3 x) = sval 3 (wrapW 3 y)
  · have hab := sval_inj 3 _ _ ha ha2 hb hb2 heq
    exact shift_tok eq_3u check_33 check_31 hk x y hx hx2 hy hy2 he (fun _ => hab) (fun h => by cases h) (by rw [heq]; simp) hna2 hnb2 w hL
  · have hne : wrapW 3 x ≠ wrapW 3 y := fun h => heq (by rw [h])
    by_cases hlt : sval 3 (wrapW 3 x) < sval 3 (wrapW 3 y)
    · exact shift_tok lt_3u check_33 check_31 hk x y hx hx2 hy hy2 he (fun h => by cases h) (fun _ => hne) (by simp [hlt]) hna2 hnb2 w hL
    · exact shift_tok gt_3u check_33 check_31 hk x y hx hx2 hy hy2 he (fun h => by cases h) (fun _ => hne) (by simp [hlt]) hna2 hnb2 w hL
theorem kind_3d (x y : Int) (hx : 0 ≤ x) (hx2 : x ≤ 18446744073709551615) (hy : 0 ≤ y) (hy2 : y ≤ 18446744073709551615) (w : World) (hL : Laid w) :
    Calls Tryz.prog 4 #[.int .i64 3, .int .u64 x, .int .u64 y, .bool false] w fun e w' => e = .returned (.bool true) ∧ Below w.heap.size w w' := by
  have hk : isW 3 = true := by decide
  have he := sErr 3 (wrapW 3 x) (wrapW 3 y) (opCode ⟨(([62, 62] : List UInt8)).toArray⟩) hk (by rw [code_d]; omega) (inW_wrapW 3 x hk hx hx2) (inW_wrapW 3 y hk hy hy2)
  obtain ⟨ha, ha2⟩ := wrapW_bd 3 x hx hx2
  obtain ⟨hb, hb2⟩ := wrapW_bd 3 y hy hy2
  have hna := neg_of 3 (wrapW 3 x) ha ha2
  have hnb := neg_of 3 (wrapW 3 y) hb hb2
  have hs : sgnW 3 = false := by decide
  have hna2 : ofNeg 3 (wrapW 3 x) = false := by rw [hna]; simp [uns 3 _ hs ha]
  have hnb2 : ofNeg 3 (wrapW 3 y) = false := by rw [hnb]; simp [uns 3 _ hs hb]
  rw [if_neg (uns 3 _ hs hb)] at he
  by_cases heq : sval 3 (wrapW 3 x) = sval 3 (wrapW 3 y)
  · have hab := sval_inj 3 _ _ ha ha2 hb hb2 heq
    exact shift_tok eq_3d check_33 check_31 hk x y hx hx2 hy hy2 he (fun _ => hab) (fun h => by cases h) (by rw [heq]; simp) hna2 hnb2 w hL
  · have hne : wrapW 3 x ≠ wrapW 3 y := fun h => heq (by rw [h])
    by_cases hlt : sval 3 (wrapW 3 x) < sval 3 (wrapW 3 y)
    · exact shift_tok lt_3d check_33 check_31 hk x y hx hx2 hy hy2 he (fun h => by cases h) (fun _ => hne) (by simp [hlt]) hna2 hnb2 w hL
    · exact shift_tok gt_3d check_33 check_31 hk x y hx hx2 hy hy2 he (fun h => by cases h) (fun _ => hne) (by simp [hlt]) hna2 hnb2 w hL
theorem kind_4u (x y : Int) (hx : 0 ≤ x) (hx2 : x ≤ 18446744073709551615) (hy : 0 ≤ y) (hy2 : y ≤ 18446744073709551615) (w : World) (hL : Laid w) :
    Calls Tryz.prog 4 #[.int .i64 4, .int .u64 x, .int .u64 y, .bool true] w fun e w' => e = .returned (.bool true) ∧ Below w.heap.size w w' := by
  have hk : isW 4 = true := by decide
  have he := sErr 4 (wrapW 4 x) (wrapW 4 y) (opCode ⟨(([60, 60] : List UInt8)).toArray⟩) hk (by rw [code_u]; omega) (inW_wrapW 4 x hk hx hx2) (inW_wrapW 4 y hk hy hy2)
  obtain ⟨ha, ha2⟩ := wrapW_bd 4 x hx hx2
  obtain ⟨hb, hb2⟩ := wrapW_bd 4 y hy hy2
  have hna := neg_of 4 (wrapW 4 x) ha ha2
  have hnb := neg_of 4 (wrapW 4 y) hb hb2
  by_cases hneg : sval 4 (wrapW 4 y) < 0
  · rw [if_pos hneg] at he
    exact shift_tok (er_4u (decide (sval 4 (wrapW 4 x) < sval 4 (wrapW 4 y))) (ofNeg 4 (wrapW 4 x)) (ofNeg 4 (wrapW 4 y))) check_44 check_41 hk x y hx hx2 hy hy2 he (fun h => by cases h) (fun h => by cases h) rfl rfl rfl w hL
  · rw [if_neg hneg] at he
    have hnb2 : ofNeg 4 (wrapW 4 y) = false := by rw [hnb]; simp [hneg]
    by_cases heq : sval 4 (wrapW 4 x) = sval 4 (wrapW 4 y)
    · have hab := sval_inj 4 _ _ ha ha2 hb hb2 heq
      exact shift_tok eq_4u check_44 check_41 hk x y hx hx2 hy hy2 he (fun _ => hab) (fun h => by cases h) (by rw [heq]; simp) (by rw [hab]; exact hnb2) hnb2 w hL
    · have hne : wrapW 4 x ≠ wrapW 4 y := fun h => heq (by rw [h])
      by_cases hlt : sval 4 (wrapW 4 x) < sval 4 (wrapW 4 y)
      · by_cases hn : sval 4 (wrapW 4 x) < 0
        · exact shift_tok ng_4u check_44 check_41 hk x y hx hx2 hy hy2 he (fun h => by cases h) (fun _ => hne) (by simp [hlt]) (by rw [hna]; simp [hn]) hnb2 w hL
        · exact shift_tok lt_4u check_44 check_41 hk x y hx hx2 hy hy2 he (fun h => by cases h) (fun _ => hne) (by simp [hlt]) (by rw [hna]; simp [hn]) hnb2 w hL
      · exact shift_tok gt_4u check_44 check_41 hk x y hx hx2 hy hy2 he (fun h => by cases h) (fun _ => hne) (by simp [hlt]) (by rw [hna]; simp; omega) hnb2 w hL
theorem kind_4d (x y : Int) (hx : 0 ≤ x) (hx2 : x ≤ 18446744073709551615) (hy : 0 ≤ y) (hy2 : y ≤ 18446744073709551615) (w : World) (hL : Laid w) :
    Calls Tryz.prog 4 #[.int .i64 4, .int .u64 x, .int .u64 y, .bool false] w fun e w' => e = .returned (.bool true) ∧ Below w.heap.size w w' := by
  have hk : isW 4 = true := by decide
  have he := sErr 4 (wrapW 4 x) (wrapW 4 y) (opCode ⟨(([62, 62] : List UInt8)).toArray⟩) hk (by rw [code_d]; omega) (inW_wrapW 4 x hk hx hx2) (inW_wrapW 4 y hk hy hy2)
  obtain ⟨ha, ha2⟩ := wrapW_bd 4 x hx hx2
  obtain ⟨hb, hb2⟩ := wrapW_bd 4 y hy hy2
  have hna := neg_of 4 (wrapW 4 x) ha ha2
  have hnb := neg_of 4 (wrapW 4 y) hb hb2
  by_cases hneg : sval 4 (wrapW 4 y) < 0
  · rw [if_pos hneg] at he
    exact shift_tok (er_4d (decide (sval 4 (wrapW 4 x) < sval 4 (wrapW 4 y))) (ofNeg 4 (wrapW 4 x)) (ofNeg 4 (wrapW 4 y))) check_44 check_41 hk x y hx hx2 hy hy2 he (fun h => by cases h) (fun h => by cases h) rfl rfl rfl w hL
  · rw [if_neg hneg] at he
    have hnb2 : ofNeg 4 (wrapW 4 y) = false := by rw [hnb]; simp [hneg]
    by_cases heq : sval 4 (wrapW 4 x) = sval 4 (wrapW 4 y)
    · have hab := sval_inj 4 _ _ ha ha2 hb hb2 heq
      exact shift_tok eq_4d check_44 check_41 hk x y hx hx2 hy hy2 he (fun _ => hab) (fun h => by cases h) (by rw [heq]; simp) (by rw [hab]; exact hnb2) hnb2 w hL
    · have hne : wrapW 4 x ≠ wrapW 4 y := fun h => heq (by rw [h])
      by_cases hlt : sval 4 (wrapW 4 x) < sval 4 (wrapW 4 y)
      · by_cases hn : sval 4 (wrapW 4 x) < 0
        · exact shift_tok ng_4d check_44 check_41 hk x y hx hx2 hy hy2 he (fun h => by cases h) (fun _ => hne) (by simp [hlt]) (by rw [hna]; simp [hn]) hnb2 w hL
        · exact shift_tok lt_4d check_44 check_41 hk x y hx hx2 hy hy2 he (fun h => by cases h) (fun _ => hne) (by simp [hlt]) (by rw [hna]; simp [hn]) hnb2 w hL
      · exact shift_tok gt_4d check_44 check_41 hk x y hx hx2 hy hy2 he (fun h => by cases h) (fun _ => hne) (by simp [hlt]) (by rw [hna]; simp; omega) hnb2 w hL
theorem kind_5u (x y : Int) (hx : 0 ≤ x) (hx2 : x ≤ 18446744073709551615) (hy : 0 ≤ y) (hy2 : y ≤ 18446744073709551615) (w : World) (hL : Laid w) :
    Calls Tryz.prog 4 #[.int .i64 5, .int .u64 x, .int .u64 y, .bool true] w fun e w' => e = .returned (.bool true) ∧ Below w.heap.size w w' := by
  have hk : isW 5 = true := by decide
  have he := sErr 5 (wrapW 5 x) (wrapW 5 y) (opCode ⟨(([60, 60] : List UInt8)).toArray⟩) hk (by rw [code_u]; omega) (inW_wrapW 5 x hk hx hx2) (inW_wrapW 5 y hk hy hy2)
  obtain ⟨ha, ha2⟩ := wrapW_bd 5 x hx hx2
  obtain ⟨hb, hb2⟩ := wrapW_bd 5 y hy hy2
  have hna := neg_of 5 (wrapW 5 x) ha ha2
  have hnb := neg_of 5 (wrapW 5 y) hb hb2
  have hs : sgnW 5 = false := by decide
  have hna2 : ofNeg 5 (wrapW 5 x) = false := by rw [hna]; simp [uns 5 _ hs ha]
  have hnb2 : ofNeg 5 (wrapW 5 y) = false := by rw [hnb]; simp [uns 5 _ hs hb]
  rw [if_neg (uns 5 _ hs hb)] at he
  by_cases heq : sval 5 (wrapW 5 x) = sval 5 (wrapW 5 y)
  · have hab := sval_inj 5 _ _ ha ha2 hb hb2 heq
    exact shift_tok eq_5u check_55 check_51 hk x y hx hx2 hy hy2 he (fun _ => hab) (fun h => by cases h) (by rw [heq]; simp) hna2 hnb2 w hL
  · have hne : wrapW 5 x ≠ wrapW 5 y := fun h => heq (by rw [h])
    by_cases hlt : sval 5 (wrapW 5 x) < sval 5 (wrapW 5 y)
    · exact shift_tok lt_5u check_55 check_51 hk x y hx hx2 hy hy2 he (fun h => by cases h) (fun _ => hne) (by simp [hlt]) hna2 hnb2 w hL
    · exact shift_tok gt_5u check_55 check_51 hk x y hx hx2 hy hy2 he (fun h => by cases h) (fun _ => hne) (by simp [hlt]) hna2 hnb2 w hL
theorem kind_5d (x y : Int) (hx : 0 ≤ x) (hx2 : x ≤ 18446744073709551615) (hy : 0 ≤ y) (hy2 : y ≤ 18446744073709551615) (w : World) (hL : Laid w) :
    Calls Tryz.prog 4 #[.int .i64 5, .int .u64 x, .int .u64 y, .bool false] w fun e w' => e = .returned (.bool true) ∧ Below w.heap.size w w' := by
  have hk : isW 5 = true := by decide
  have he := sErr 5 (wrapW 5 x) (wrapW 5 y) (opCode ⟨(([62, 62] : List UInt8)).toArray⟩) hk (by rw [code_d]; omega) (inW_wrapW 5 x hk hx hx2) (inW_wrapW 5 y hk hy hy2)
  obtain ⟨ha, ha2⟩ := wrapW_bd 5 x hx hx2
  obtain ⟨hb, hb2⟩ := wrapW_bd 5 y hy hy2
  have hna := neg_of 5 (wrapW 5 x) ha ha2
  have hnb := neg_of 5 (wrapW 5 y) hb hb2
  have hs : sgnW 5 = false := by decide
  have hna2 : ofNeg 5 (wrapW 5 x) = false := by rw [hna]; simp [uns 5 _ hs ha]
  have hnb2 : ofNeg 5 (wrapW 5 y) = false := by rw [hnb]; simp [uns 5 _ hs hb]
  rw [if_neg (uns 5 _ hs hb)] at he
  by_cases heq : sval 5 (wrapW 5 x) = sval 5 (wrapW 5 y)
  · have hab := sval_inj 5 _ _ ha ha2 hb hb2 heq
    exact shift_tok eq_5d check_55 check_51 hk x y hx hx2 hy hy2 he (fun _ => hab) (fun h => by cases h) (by rw [heq]; simp) hna2 hnb2 w hL
  · have hne : wrapW 5 x ≠ wrapW 5 y := fun h => heq (by rw [h])
    by_cases hlt : sval 5 (wrapW 5 x) < sval 5 (wrapW 5 y)
    · exact shift_tok lt_5d check_55 check_51 hk x y hx hx2 hy hy2 he (fun h => by cases h) (fun _ => hne) (by simp [hlt]) hna2 hnb2 w hL
    · exact shift_tok gt_5d check_55 check_51 hk x y hx hx2 hy hy2 he (fun h => by cases h) (fun _ => hne) (by simp [hlt]) hna2 hnb2 w hL
theorem kind_6u (x y : Int) (hx : 0 ≤ x) (hx2 : x ≤ 18446744073709551615) (hy : 0 ≤ y) (hy2 : y ≤ 18446744073709551615) (w : World) (hL : Laid w) :
    Calls Tryz.prog 4 #[.int .i64 6, .int .u64 x, .int .u64 y, .bool true] w fun e w' => e = .returned (.bool true) ∧ Below w.heap.size w w' := by
  have hk : isW 6 = true := by decide
  have he := sErr 6 (wrapW 6 x) (wrapW 6 y) (opCode ⟨(([60, 60] : List UInt8)).toArray⟩) hk (by rw [code_u]; omega) (inW_wrapW 6 x hk hx hx2) (inW_wrapW 6 y hk hy hy2)
  obtain ⟨ha, ha2⟩ := wrapW_bd 6 x hx hx2
  obtain ⟨hb, hb2⟩ := wrapW_bd 6 y hy hy2
  have hna := neg_of 6 (wrapW 6 x) ha ha2
  have hnb := neg_of 6 (wrapW 6 y) hb hb2
  by_cases hneg : sval 6 (wrapW 6 y) < 0
  · rw [if_pos hneg] at he
    exact shift_tok (er_6u (decide (sval 6 (wrapW 6 x) < sval 6 (wrapW 6 y))) (ofNeg 6 (wrapW 6 x)) (ofNeg 6 (wrapW 6 y))) check_66 check_61 hk x y hx hx2 hy hy2 he (fun h => by cases h) (fun h => by cases h) rfl rfl rfl w hL
  · rw [if_neg hneg] at he
    have hnb2 : ofNeg 6 (wrapW 6 y) = false := by rw [hnb]; simp [hneg]
    by_cases heq : sval 6 (wrapW 6 x) = sval 6 (wrapW 6 y)
    · have hab := sval_inj 6 _ _ ha ha2 hb hb2 heq
      exact shift_tok eq_6u check_66 check_61 hk x y hx hx2 hy hy2 he (fun _ => hab) (fun h => by cases h) (by rw [heq]; simp) (by rw [hab]; exact hnb2) hnb2 w hL
    · have hne : wrapW 6 x ≠ wrapW 6 y := fun h => heq (by rw [h])
      by_cases hlt : sval 6 (wrapW 6 x) < sval 6 (wrapW 6 y)
      · by_cases hn : sval 6 (wrapW 6 x) < 0
        · exact shift_tok ng_6u check_66 check_61 hk x y hx hx2 hy hy2 he (fun h => by cases h) (fun _ => hne) (by simp [hlt]) (by rw [hna]; simp [hn]) hnb2 w hL
        · exact shift_tok lt_6u check_66 check_61 hk x y hx hx2 hy hy2 he (fun h => by cases h) (fun _ => hne) (by simp [hlt]) (by rw [hna]; simp [hn]) hnb2 w hL
      · exact shift_tok gt_6u check_66 check_61 hk x y hx hx2 hy hy2 he (fun h => by cases h) (fun _ => hne) (by simp [hlt]) (by rw [hna]; simp; omega) hnb2 w hL
theorem kind_6d (x y : Int) (hx : 0 ≤ x) (hx2 : x ≤ 18446744073709551615) (hy : 0 ≤ y) (hy2 : y ≤ 18446744073709551615) (w : World) (hL : Laid w) :
    Calls Tryz.prog 4 #[.int .i64 6, .int .u64 x, .int .u64 y, .bool false] w fun e w' => e = .returned (.bool true) ∧ Below w.heap.size w w' := by
  have hk : isW 6 = true := by decide
  have he := sErr 6 (wrapW 6 x) (wrapW 6 y) (opCode ⟨(([62, 62] : List UInt8)).toArray⟩) hk (by rw [code_d]; omega) (inW_wrapW 6 x hk hx hx2) (inW_wrapW 6 y hk hy hy2)
  obtain ⟨ha, ha2⟩ := wrapW_bd 6 x hx hx2
  obtain ⟨hb, hb2⟩ := wrapW_bd 6 y hy hy2
  have hna := neg_of 6 (wrapW 6 x) ha ha2
  have hnb := neg_of 6 (wrapW 6 y) hb hb2
  by_cases hneg : sval 6 (wrapW 6 y) < 0
  · rw [if_pos hneg] at he
    exact shift_tok (er_6d (decide (sval 6 (wrapW 6 x) < sval 6 (wrapW 6 y))) (ofNeg 6 (wrapW 6 x)) (ofNeg 6 (wrapW 6 y))) check_66 check_61 hk x y hx hx2 hy hy2 he (fun h => by cases h) (fun h => by cases h) rfl rfl rfl w hL
  · rw [if_neg hneg] at he
    have hnb2 : ofNeg 6 (wrapW 6 y) = false := by rw [hnb]; simp [hneg]
    by_cases heq : sval 6 (wrapW 6 x) = sval 6 (wrapW 6 y)
    · have hab := sval_inj 6 _ _ ha ha2 hb hb2 heq
      exact shift_tok eq_6d check_66 check_61 hk x y hx hx2 hy hy2 he (fun _ => hab) (fun h => by cases h) (by rw [heq]; simp) (by rw [hab]; exact hnb2) hnb2 w hL
    · have hne : wrapW 6 x ≠ wrapW 6 y := fun h => heq (by rw [h])
      by_cases hlt : sval 6 (wrapW 6 x) < sval 6 (wrapW 6 y)
      · by_cases hn : sval 6 (wrapW 6 x) < 0
        · exact shift_tok ng_6d check_66 check_61 hk x y hx hx2 hy hy2 he (fun h => by cases h) (fun _ => hne) (by simp [hlt]) (by rw [hna]; simp [hn]) hnb2 w hL
        · exact shift_tok lt_6d check_66 check_61 hk x y hx hx2 hy hy2 he (fun h => by cases h) (fun _ => hne) (by simp [hlt]) (by rw [hna]; simp [hn]) hnb2 w hL
      · exact shift_tok gt_6d check_66 check_61 hk x y hx hx2 hy hy2 he (fun h => by cases h) (fun _ => hne) (by simp [hlt]) (by rw [hna]; simp; omega) hnb2 w hL
theorem kind_7u (x y : Int) (hx : 0 ≤ x) (hx2 : x ≤ 18446744073709551615) (hy : 0 ≤ y) (hy2 : y ≤ 18446744073709551615) (w : World) (hL : Laid w) :
    Calls Tryz.prog 4 #[.int .i64 7, .int .u64 x, .int .u64 y, .bool true] w fun e w' => e = .returned (.bool true) ∧ Below w.heap.size w w' := by
  have hk : isW 7 = true := by decide
  have he := sErr 7 (wrapW 7 x) (wrapW 7 y) (opCode ⟨(([60, 60] : List UInt8)).toArray⟩) hk (by rw [code_u]; omega) (inW_wrapW 7 x hk hx hx2) (inW_wrapW 7 y hk hy hy2)
  obtain ⟨ha, ha2⟩ := wrapW_bd 7 x hx hx2
  obtain ⟨hb, hb2⟩ := wrapW_bd 7 y hy hy2
  have hna := neg_of 7 (wrapW 7 x) ha ha2
  have hnb := neg_of 7 (wrapW 7 y) hb hb2
  have hs : sgnW 7 = false := by decide
  have hna2 : ofNeg 7 (wrapW 7 x) = false := by rw [hna]; simp [uns 7 _ hs ha]
  have hnb2 : ofNeg 7 (wrapW 7 y) = false := by rw [hnb]; simp [uns 7 _ hs hb]
  rw [if_neg (uns 7 _ hs hb)] at he
  by_cases heq : sval 7 (wrapW 7 x) = sval 7 (wrapW 7 y)
  · have hab := sval_inj 7 _ _ ha ha2 hb hb2 heq
    exact shift_tok eq_7u check_77 check_71 hk x y hx hx2 hy hy2 he (fun _ => hab) (fun h => by cases h) (by rw [heq]; simp) hna2 hnb2 w hL
  · have hne : wrapW 7 x ≠ wrapW 7 y := fun h => heq (by rw [h])
    by_cases hlt : sval 7 (wrapW 7 x) < sval 7 (wrapW 7 y)
    · exact shift_tok lt_7u check_77 check_71 hk x y hx hx2 hy hy2 he (fun h => by cases h) (fun _ => hne) (by simp [hlt]) hna2 hnb2 w hL
    · exact shift_tok gt_7u check_77 check_71 hk x y hx hx2 hy hy2 he (fun h => by cases h) (fun _ => hne) (by simp [hlt]) hna2 hnb2 w hL
theorem kind_7d (x y : Int) (hx : 0 ≤ x) (hx2 : x ≤ 18446744073709551615) (hy : 0 ≤ y) (hy2 : y ≤ 18446744073709551615) (w : World) (hL : Laid w) :
    Calls Tryz.prog 4 #[.int .i64 7, .int .u64 x, .int .u64 y, .bool false] w fun e w' => e = .returned (.bool true) ∧ Below w.heap.size w w' := by
  have hk : isW 7 = true := by decide
  have he := sErr 7 (wrapW 7 x) (wrapW 7 y) (opCode ⟨(([62, 62] : List UInt8)).toArray⟩) hk (by rw [code_d]; omega) (inW_wrapW 7 x hk hx hx2) (inW_wrapW 7 y hk hy hy2)
  obtain ⟨ha, ha2⟩ := wrapW_bd 7 x hx hx2
  obtain ⟨hb, hb2⟩ := wrapW_bd 7 y hy hy2
  have hna := neg_of 7 (wrapW 7 x) ha ha2
  have hnb := neg_of 7 (wrapW 7 y) hb hb2
  have hs : sgnW 7 = false := by decide
  have hna2 : ofNeg 7 (wrapW 7 x) = false := by rw [hna]; simp [uns 7 _ hs ha]
  have hnb2 : ofNeg 7 (wrapW 7 y) = false := by rw [hnb]; simp [uns 7 _ hs hb]
  rw [if_neg (uns 7 _ hs hb)] at he
  by_cases heq : sval 7 (wrapW 7 x) = sval 7 (wrapW 7 y)
  · have hab := sval_inj 7 _ _ ha ha2 hb hb2 heq
    exact shift_tok eq_7d check_77 check_71 hk x y hx hx2 hy hy2 he (fun _ => hab) (fun h => by cases h) (by rw [heq]; simp) hna2 hnb2 w hL
  · have hne : wrapW 7 x ≠ wrapW 7 y := fun h => heq (by rw [h])
    by_cases hlt : sval 7 (wrapW 7 x) < sval 7 (wrapW 7 y)
    · exact shift_tok lt_7d check_77 check_71 hk x y hx hx2 hy hy2 he (fun h => by cases h) (fun _ => hne) (by simp [hlt]) hna2 hnb2 w hL
    · exact shift_tok gt_7d check_77 check_71 hk x y hx hx2 hy hy2 he (fun h => by cases h) (fun _ => hne) (by simp [hlt]) hna2 hnb2 w hL
theorem lay_onS {w w' : World} (hL : Laid w) (h : Below w.heap.size w w') : Laid w' := ⟨by
  rw [h.block _ (Array.getElem?_eq_some_iff.1 hL.ops).1]
  exact hL.ops⟩
set_option maxRecDepth 100000 in
theorem walkCoreShifts (k x y : Int) (up : Bool) (h1 : -9223372036854775808 ≤ k) (h2 : k ≤ 9223372036854775807) (hx : 0 ≤ x) (hx2 : x ≤ 18446744073709551615) (hy : 0 ≤ y) (hy2 : y ≤ 18446744073709551615) (w : World) (hL : Laid w) :
    Calls Tryz.prog 4 #[.int .i64 k, .int .u64 x, .int .u64 y, .bool up] w fun e w' => e = .returned (.bool true) ∧ Below w.heap.size w w' := by
  cases hk : isW k with
  | false =>
    go_enter Tryz.func4, Tryz.ntmps4
    go_wp2_with (first | (go_at_call 5; refine (answers_c _ hL).mono ?_; rintro e w1 ⟨rfl, hb1⟩) | (go_at_call 5; refine (answers_c _ (lay_onS hL hb1)).mono ?_; rintro e w2 ⟨rfl, hb2⟩) | (go_at_call 6; refine (rwhole_any _ _).mono ?_; rintro e w' ⟨rfl, rfl⟩))
    go_ret; exact ⟨rfl, below_two hb1 hb2⟩
  | true =>
    have hkk : k = 2 ∨ k = 3 ∨ k = 4 ∨ k = 5 ∨ k = 6 ∨ k = 7 := by
      simp [isW] at hk
      omega
    cases up with
    | true =>
      rcases hkk with rfl | rfl | rfl | rfl | rfl | rfl
      · exact kind_2u x y hx hx2 hy hy2 w hL
      · exact kind_3u x y hx hx2 hy hy2 w hL
      · exact kind_4u x y hx hx2 hy hy2 w hL
      · exact kind_5u x y hx hx2 hy hy2 w hL
      · exact kind_6u x y hx hx2 hy hy2 w hL
      · exact kind_7u x y hx hx2 hy hy2 w hL
    | false =>
      rcases hkk with rfl | rfl | rfl | rfl | rfl | rfl
      · exact kind_2d x y hx hx2 hy hy2 w hL
      · exact kind_3d x y hx hx2 hy hy2 w hL
      · exact kind_4d x y hx hx2 hy hy2 w hL
      · exact kind_5d x y hx hx2 hy hy2 w hL
      · exact kind_6d x y hx hx2 hy hy2 w hL
      · exact kind_7d x y hx hx2 hy hy2 w hL
end Go.Proofs.YtdfeelmphlellaaGreatDoor
namespace Go.Proofs.YtdfeelmphlellaaGreatDoor.coreShifts
open Go.ChangeShapes Go.WideShapes Go.ChangeAt Go.RowKit Go.Joins
open Go.ChangeMaps (open_string shut_string)
set_option linter.unusedVariables false

theorem own : ownKnob Tryz.prog.godebug = none := by kernel_rfl
theorem laidOut : laidOutB Tryz.prog = true := by kernel_rfl
set_option maxRecDepth 100000 in
theorem contract (H : Type) (enc : TypeId × Value → H) (W : World) (base : Nat) (args : Array Value) (ds gs : List (DataW H)) (before : List MemPlace)
    (hval0 : ∀ (j : Nat) t v, Tryz.f4.params[j]? = some t → args[j]? = some v → Value.okWide Tryz.prog W .any base t v)
    (hW : DataW.Whole enc Tryz.prog Tryz.f4.params.toList Rows.coreShiftsSpec.vars false W args.toList ds gs before) (hre : (DataW.weightsEach Tryz.prog (Tryz.f4.params.toList ++ (OpenSpec.ofChange Rows.coreShiftsSpec).bare.plain.varTypes Tryz.prog) (ds ++ gs)).all (· ≤ reachBytes) = true) (hL : laidMetH Tryz.prog Rows.coreShiftsRow.laid W) (hsh : W.ShapedOpen Tryz.prog) :
    Calls Tryz.prog 4 args W fun e W' => ∃ v, e = .returned v ∧ Rows.coreShiftsSpec.post enc Tryz.prog Tryz.f4 false true false false W args v W' := by
  have hval : ∀ (j : Nat) t v, Tryz.f4.params[j]? = some t → args[j]? = some v → Value.okWide Tryz.prog W .any base t v := hval0
  have hW' := hW
  obtain ⟨p, q, hA0, hV, rfl, hfz, hnd⟩ := hW
  have hA : DataW.TrodAll enc Tryz.prog W 0 (fun _ => true) true Tryz.f4.params.toList args.toList ds p := hA0
  rw [Tryz.params4] at hA hval
  obtain ⟨v0, vs0, d0, ds0, p0, q0, hargs, rfl, rfl, h0, r0⟩ := trodAll_cons hA
  obtain ⟨v1, vs1, d1, ds1, p1, q1, rfl, rfl, rfl, h1, r1⟩ := trodAll_cons r0
  obtain ⟨v2, vs2, d2, ds2, p2, q2, rfl, rfl, rfl, h2, r2⟩ := trodAll_cons r1
  obtain ⟨v3, vs3, d3, ds3, p3, q3, rfl, rfl, rfl, h3, r3⟩ := trodAll_cons r2
  obtain ⟨rfl, rfl, rfl⟩ := trodAll_nil r3
  obtain rfl : args = #[v0, v1, v2, v3] := by cases args; simp_all
  obtain ⟨rfl, rfl⟩ := trodVars_none hV
  have k0 := h0
  have lt0 : ∀ x ∈ p0, x.block < W.heap.size := by obtain ⟨m, hm⟩ := k0; exact DataW.trod_lt m _ _ _ hm
  obtain ⟨a0, rfl, rfl, rfl, w0⟩ := open_int Tryz.underlying3 (hval 0 3 v0 rfl rfl) h0
  have k1 := h1
  have lt1 : ∀ x ∈ p1, x.block < W.heap.size := by obtain ⟨m, hm⟩ := k1; exact DataW.trod_lt m _ _ _ hm
  obtain ⟨a1, rfl, rfl, rfl, w1⟩ := open_int Tryz.underlying22 (hval 1 22 v1 rfl rfl) h1
  have k2 := h2
  have lt2 : ∀ x ∈ p2, x.block < W.heap.size := by obtain ⟨m, hm⟩ := k2; exact DataW.trod_lt m _ _ _ hm
  obtain ⟨a2, rfl, rfl, rfl, w2⟩ := open_int Tryz.underlying22 (hval 2 22 v2 rfl rfl) h2
  have k3 := h3
  have lt3 : ∀ x ∈ p3, x.block < W.heap.size := by obtain ⟨m, hm⟩ := k3; exact DataW.trod_lt m _ _ _ hm
  obtain ⟨a3, rfl, rfl, rfl⟩ := open_bool Tryz.underlying4 (hval 3 4 v3 rfl rfl) h3
  clear hA0 hval0
  have hL2 : laidMet Tryz.prog laidList W := by
    rw [MakeChecks.laidMetH_plain _ _ _ (by kernel_rfl)] at hL
    rw [show Rows.coreShiftsRow.laid = laidList by kernel_rfl] at hL
    exact hL
  clear hL
  refine (walkCoreShifts a0 a1 a2 a3 (bounds_i64 w0).1 (bounds_i64 w0).2 (bounds_u64 w1).1 (bounds_u64 w1).2 (bounds_u64 w2).1 (bounds_u64 w2).2 W (laid_of hL2 hsh)).mono fun e W' ⟨he, bel⟩ => ?_
  subst he
  exact ⟨_, rfl, _, _, _, [], _, [], hW', trodAll_mk1 (shut_bool Tryz.underlying4 _), (trodAll_cons_mk (Below.trod laidOut (by kernel_rfl) (of_decide_eq_true (by kernel_rfl)) k0 bel lt0) (trodAll_cons_mk (Below.trod laidOut (by kernel_rfl) (of_decide_eq_true (by kernel_rfl)) k1 bel lt1) (trodAll_cons_mk (Below.trod laidOut (by kernel_rfl) (of_decide_eq_true (by kernel_rfl)) k2 bel lt2) (trodAll_cons_mk (Below.trod laidOut (by kernel_rfl) (of_decide_eq_true (by kernel_rfl)) k3 bel lt3) trodAll_mk0)))), rfl, bel.frame _, fun h => by cases h⟩

/-- A WORLD FOR THE WITNESS: all the listed variables laid. -/
theorem laid_met (os : Os) : laidMet Tryz.prog Rows.coreShiftsRow.laid ((World.laidAll Tryz.prog os Rows.coreShiftsRow.laid).forCall (fun _ _ => 0) ⟨#[], #[.int .i64 0, .int .u64 0, .int .u64 0, .bool false], []⟩).memory :=
  laidMet_laidAll _ (by kernel_rfl) (by kernel_rfl)
theorem reads (os : Os) {H : Type} (enc : TypeId × Value → H) : ∃ places, DataW.whole enc Tryz.prog ((World.laidAll Tryz.prog os Rows.coreShiftsRow.laid).forCall (fun _ _ => 0) ⟨#[], #[.int .i64 0, .int .u64 0, .int .u64 0, .bool false], []⟩).memory Tryz.f4.params.toList Rows.coreShiftsSpec.vars false (#[.int .i64 0, .int .u64 0, .int .u64 0, .bool false] : Array Value).toList 8 = some ([.lit (.int .i64 0), .lit (.int .u64 0), .lit (.int .u64 0), .lit (.bool false)], [], places) :=
  ⟨[], by kernel_rfl⟩

set_option maxRecDepth 100000 in
theorem lifted (os : Os) (started : os.Started) (H : Type) (enc : TypeId × Value → H) (F : Stop.Interp) :
    ReturnsInHanded {} Tryz.checked os 4 .any ((OpenSpec.ofChange Rows.coreShiftsSpec).preRow enc Tryz.prog Tryz.f4 Rows.coreShiftsRow.domain false Rows.coreShiftsRow.laid) (((OpenSpec.ofChange Rows.coreShiftsSpec).at F).post enc Tryz.prog Tryz.f4 false true false false) := by
  obtain ⟨places, hx⟩ := reads os enc
  refine returnsInHanded_of_row (C := Tryz.checked) (s := OpenSpec.ofChange Rows.coreShiftsSpec) own started (by kernel_rfl) Tryz.func4
    (witness_row_at (enc := enc) (C := Tryz.checked) false (World.laidAll Tryz.prog os Rows.coreShiftsRow.laid) #[.int .i64 0, .int .u64 0, .int .u64 0, .bool false] (World.laidAll_os _ _ _) (by kernel_rfl) (by kernel_rfl) (by kernel_rfl)
      (OpenSpec.preRow_of_cond 8 hx (by kernel_rfl) (fun k hk => by cases hk) (by kernel_rfl) (laid_met os))) ?_
  intro W base args ds gs before hval hW _ _ hre hL hsh _
  exact contract H enc W base args ds gs before hval hW hre hL hsh

theorem said : Rows.CoreShiftsSaid :=
  OpenClaim.holds_of_cond 4 Tryz.f4 rfl rfl rfl rfl rfl rfl rfl ⟨rfl, rfl, rfl, rfl, rfl⟩ rfl rfl rfl rfl rfl (by kernel_rfl) Tryz.func4 (by kernel_rfl)
    (of_decide_eq_true (by kernel_rfl)) (by unfold Func.isWrapper; first | (rw [if_pos (by decide +kernel)]; kernel_rfl) | (rw [if_neg (by decide +kernel)]; exact ⟨rfl, rfl⟩))
    (fun os started H enc _ F => by rw [OpenClaim.pre_eq_preRow]; exact lifted os started H enc F)

/-- No parameter wants a stand-in; the program looks: what the card asks. -/
theorem plain (f : FuncId) (fn : Func) (hf : Tryz.pinned.checked.prog.funcNamed Rows.coreShiftsRow.func = some f) (hfn : Tryz.pinned.checked.prog.funcs[f]? = some fn) :
    true = Tryz.pinned.checked.prog.looks [] ∧ ∀ (j : Nat) t, fn.params[j]? = some t → Tryz.pinned.checked.prog.wantsStandIn t = false := by
  obtain rfl : f = 4 := Option.some.inj ((show Tryz.prog.funcNamed Rows.coreShiftsRow.func = some 4 by kernel_rfl).symm.trans hf) |>.symm
  obtain rfl : fn = Tryz.f4 := (Option.some.inj (Tryz.func4.symm.trans hfn)).symm
  refine ⟨by kernel_rfl, fun j t ht => ?_⟩
  rw [Tryz.params4] at ht
  have hm := Array.mem_of_getElem? ht
  have hall : ∀ x ∈ #[3, 22, 22, 4], Tryz.prog.wantsStandIn x = false := by
    intro x hx
    simp only [List.mem_toArray, List.mem_cons, List.mem_nil_iff, or_false] at hx
    rcases hx with rfl | rfl | rfl | rfl <;> kernel_rfl
  exact hall t hm

/-- The card. -/
theorem proved : Rows.CoreShiftsCardSaid :=
  Claim7.holds_tied_plain_at .later [] _ _ _ _ said (fun _ h => by cases h) (by kernel_rfl) (fun _ h => by cases h) coreShifts_row_tie rfl ⟨rfl, rfl⟩ (by kernel_rfl) rfl plain (by kernel_rfl)
#print axioms proved
end Go.Proofs.YtdfeelmphlellaaGreatDoor.coreShifts
