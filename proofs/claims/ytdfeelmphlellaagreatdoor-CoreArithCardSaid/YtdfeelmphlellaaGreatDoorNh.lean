/- From the rows' condition to what the walks of the core laws ask of the listed variables: the table of operators. -/
import Derived.Test.YtdfeelmphlellaaGreatDoorCards
import Derived.Test.YtdfeelmphlellaaGreatDoorNd
import Derived.Lib.LaidU8
import Derived.Lib.LaidTab
import Derived.Shelf.Vars
import Derived.OpenShut
import Derived.ChangeSlices
namespace Go.Proofs.YtdfeelmphlellaaGreatDoor
open Go.RowKit
set_option linter.unusedSimpArgs false
set_option linter.unusedVariables false

theorem cells_of_strs {H : Type} {enc : TypeId × Value → H} {P : Program} {w : World} {base : Nat} {sp : Nat → Bool} {held : Bool} {fuel : Nat} {t e : TypeId} {n : Nat} {cs : List Value} {zs : List (List UInt8)} {p : List MemPlace}
    (ht : P.underlying t = some (.array n e)) (he : P.underlying e = some .string) (hce : P.cellsOf e = 1) (hct : P.cellsOf t = n)
    (h : DataW.trod enc P w base sp held fuel t cs = some (.agg (zs.map fun z => .lit (.string z)), p)) : cs = zs.map fun z => Value.string ⟨z.toArray⟩ := by
  obtain ⟨xs, m, rfl, hx, hl, hxl, hall⟩ := DataW.trod_array ht h
  have hxs : xs.map (·.1) = zs.map fun z => (DataW.lit (.string z) : DataW H) := by
    have := congrArg Prod.fst hx
    simpa using this.symm
  have hzl : zs.length = n := by
    have := congrArg List.length hxs
    simp at this; omega
  apply List.ext_getElem?
  intro i
  by_cases hi : i < n
  · have h1 := hall i hi
    rw [hce] at h1
    obtain ⟨b, hb⟩ : ∃ b, xs[i]? = some b := ⟨xs[i]'(by omega), List.getElem?_eq_getElem (by omega)⟩
    rw [hb] at h1
    obtain ⟨s, hcz, rfl, _⟩ := DataW.trod_string he h1
    have h2 : cs[i]? = some (.string s) := by
      have := congrArg (·[0]?) hcz
      simpa [List.getElem?_take, List.getElem?_drop] using this
    have h3 : (xs.map (·.1))[i]? = some (DataW.lit (.string s.data.toList) : DataW H) := by simp [hb]
    rw [hxs] at h3
    simp only [List.getElem?_map, Option.map_eq_some_iff, DataW.lit.injEq, Lit.string.injEq] at h3
    obtain ⟨z', hz', e'⟩ := h3
    rw [h2]
    simp only [List.getElem?_map, hz', Option.map_some, e']
  · rw [List.getElem?_eq_none (by omega), List.getElem?_eq_none (by simp; omega)]
theorem ops_row : ((((begin Tryz.prog (fun _ _ => 0) default).world.heap[0]?).bind Obj.row?).map (·.2)) = some 179 := by kernel_rfl
def laidList : List (String × DataW Unit) := [("math/bits.deBruijn32tab", Rows.laid_math_bits_deBruijn32tab), ("math/bits.deBruijn64tab", Rows.laid_math_bits_deBruijn64tab), ("internal/strconv.uint64pow10", Rows.laid_internal_strconv_uint64pow10), ("mullion/engine.ops", Rows.laid_mullion_engine_ops)]
theorem laid_of {W : World} (h : laidMet Tryz.prog laidList W) (hsh : W.ShapedOpen Tryz.prog) : Laid W := by
  have hr : ∀ n d, (n, d) ∈ laidList → Lib.VarReads Tryz.prog W n d := fun n d hm => Lib.laidMet.reads h hm
  refine ⟨?_⟩
  obtain ⟨g, t, cs, fuel, p, hg, hty, hvar, hd⟩ := hr "mullion/engine.ops" _ (by unfold laidList; repeat (first | exact List.Mem.head _ | apply List.Mem.tail))
  have hg' : (Tryz.prog).globalNamed "mullion/engine.ops" = some 0 := by kernel_rfl
  have ht' : ((Tryz.prog).globals[0]?).map (·.type) = some 179 := by kernel_rfl
  obtain rfl := Option.some.inj (hg'.symm.trans hg)
  obtain rfl := Option.some.inj (ht'.symm.trans hty)
  have hcs := cells_of_strs (zs := opsL) Tryz.underlying179 Tryz.underlying9 (by kernel_rfl) (by kernel_rfl) hd
  unfold World.var? at hvar
  rw [hg'] at hvar
  simp only [Option.bind_some] at hvar
  split at hvar
  · rename_i cs' t' fr' hh
    cases hvar
    cases hrow : ((begin Tryz.prog (fun _ _ => 0) default).world.heap[0]?).bind Obj.row? with
    | none => have := ops_row; rw [hrow] at this; cases this
    | some zt =>
      obtain ⟨zero, t0⟩ := zt
      have ht0 : t0 = 179 := by
        have := ops_row
        rw [hrow] at this
        exact Option.some.inj this
      obtain ⟨cs2, h1, -, -⟩ := hsh.1 0 zero t0 (by decide +kernel) hrow
      rw [h1] at hh ⊢
      simp only [Option.some.injEq, Obj.cells.injEq] at hh
      obtain ⟨e1, -, -⟩ := hh
      have e2 : cs2 = opsCells.toArray := by
        apply Array.toList_inj.1
        rw [e1, hcs]
        rfl
      rw [e2, ht0]
  · cases hvar
end Go.Proofs.YtdfeelmphlellaaGreatDoor
