/- From the rows' condition to what the walks ask of the listed variables ('Laid'). -/
import Derived.Test.YtihdjofihdgigaaDoorCards
import Derived.Test.YtihdjofihdgigaaDoorUc
import Derived.Lib.LaidU8
import Derived.Shelf.Vars
import Derived.OpenShut
namespace Go.Proofs.YtihdjofihdgigaaDoor
open Go.RowKit
set_option linter.unusedSimpArgs false
set_option linter.unusedVariables false

theorem iface_cells {H : Type} {enc : TypeId × Value → H} {P : Program} {w : World} {base : Nat} {sp : Nat → Bool} {held : Bool} {fuel : Nat} {t : TypeId} {ms : Array (String × TypeId)} {cs : List Value} {x : DataW H × List MemPlace}
    (ht : P.underlying t = some (.interface ms)) (h : DataW.trod enc P w base sp held fuel t cs = some x) : ∃ ev, cs = [ev] ∧ (ev = .nilIface ∨ ∃ te pe, ev = .iface te pe) := by
  cases fuel with
  | zero => simp [DataW.trod] at h
  | succ n =>
    unfold DataW.trod at h
    rw [ht] at h
    rcases cs with _ | ⟨c, _ | ⟨d, r⟩⟩
    · simp at h
    · cases c <;> first | exact ⟨_, rfl, .inl rfl⟩ | exact ⟨_, rfl, .inr ⟨_, _, rfl⟩⟩ | (simp at h)
    · simp at h
/-- an array of texts that reads as these texts holds them, cell for cell -/
theorem cells_of_strs {H : Type} {enc : TypeId × Value → H} {P : Program} {w : World} {base : Nat} {sp : Nat → Bool} {held : Bool} {fuel : Nat} {t e : TypeId} {n : Nat} {cs : List Value} {zs : List (List UInt8)} {p : List MemPlace}
    (ht : P.underlying t = some (.array n e)) (he : P.underlying e = some .string) (hce : P.cellsOf e = 1) (hct : P.cellsOf t = n)
    (h : DataW.trod enc P w base sp held fuel t cs = some (.agg (zs.map fun z => .lit (.string z)), p)) : cs = zs.map fun z => Value.string ⟨z.toArray⟩ := by
  obtain ⟨xs, m, rfl, hx, hl, hxl, hall⟩ := DataW.trod_array ht h
  have hxs : xs.map (·.1) = zs.map fun z => (DataW.lit (.string z) : DataW H) := by
    have := congrArg Prod.fst hx
    simpa using this.symm
  have hzl : zs.length = n := by
    have := congrArg List.length hxs
    simp at this; omega
  apply List.ext_getElem?
  intro i
  by_cases hi : i < n
  · have h1 := hall i hi
    rw [hce] at h1
    obtain ⟨b, hb⟩ : ∃ b, xs[i]? = some b := ⟨xs[i]'(by omega), List.getElem?_eq_getElem (by omega)⟩
    rw [hb] at h1
    obtain ⟨s, hcz, rfl, _⟩ := DataW.trod_string he h1
    have h2 : cs[i]? = some (.string s) := by
      have := congrArg (·[0]?) hcz
      simpa [List.getElem?_take, List.getElem?_drop] using this
    have h3 : (xs.map (·.1))[i]? = some (DataW.lit (.string s.data.toList) : DataW H) := by simp [hb]
    rw [hxs] at h3
    simp only [List.getElem?_map, Option.map_eq_some_iff, DataW.lit.injEq, Lit.string.injEq] at h3
    obtain ⟨z', hz', e'⟩ := h3
    rw [h2]
    simp only [List.getElem?_map, hz', Option.map_some, e']
  · rw [List.getElem?_eq_none (by omega), List.getElem?_eq_none (by simp; omega)]
theorem u8extra : U8Extra Tryd.prog Tryd.lays260_ren := by
  constructor <;> kernel_rfl
def laidList : List (String × DataW Unit) := [("math/bits.deBruijn32tab", Rows.laid_math_bits_deBruijn32tab), ("math/bits.deBruijn64tab", Rows.laid_math_bits_deBruijn64tab), ("internal/strconv.uint64pow10", Rows.laid_internal_strconv_uint64pow10), ("unicode/utf8.acceptRanges", Rows.laid_unicode_utf8_acceptRanges), ("strconv.ErrRange", Rows.laid_strconv_ErrRange), ("strconv.ErrSyntax", Rows.laid_strconv_ErrSyntax), ("mullion/scan.signs", Rows.laid_mullion_scan_signs), ("unicode/utf8.first", Rows.laid_unicode_utf8_first)]
theorem laid_of {W : World} (h : laidMet Tryd.prog laidList W) (hsh : W.ShapedOpen Tryd.prog) : Laid W := by
  have hr : ∀ n d, (n, d) ∈ laidList → Lib.VarReads Tryd.prog W n d := fun n d hm => Lib.laidMet.reads h hm
  refine ⟨?_, ?_, ?_, ?_, ?_⟩
  · obtain ⟨g, t, cs, fuel, p, hg, hty, hvar, hd⟩ := hr "math/bits.deBruijn64tab" _ (by unfold laidList; repeat (first | exact List.Mem.head _ | apply List.Mem.tail))
    have hg' : (Tryd.prog).globalNamed "math/bits.deBruijn64tab" = some 8 := by kernel_rfl
    obtain rfl := Option.some.inj (hg'.symm.trans hg)
    unfold World.var? at hvar
    rw [hg'] at hvar
    rcases Nat.lt_or_ge 8 W.heap.size with h' | h'
    · exact h'
    · simp [Array.getElem?_eq_none h'] at hvar
  · have e1 : Rows.laid_unicode_utf8_first = Lib.firstData := by kernel_rfl
    have e2 : Rows.laid_unicode_utf8_acceptRanges = Lib.acceptData := by kernel_rfl
    have r1 := hr "unicode/utf8.first" Rows.laid_unicode_utf8_first (by unfold laidList; repeat (first | exact List.Mem.head _ | apply List.Mem.tail))
    have r2 := hr "unicode/utf8.acceptRanges" Rows.laid_unicode_utf8_acceptRanges (by unfold laidList; repeat (first | exact List.Mem.head _ | apply List.Mem.tail))
    rw [e1] at r1
    rw [e2] at r2
    exact utf8Tabs_of_reads Tryd.lays260 u8extra r1 r2
  · exact Tryd.laysM144.s1_3 W hsh
  · obtain ⟨g, t, cs, fuel, p, hg, hty, hvar, hd⟩ := hr "strconv.ErrRange" _ (by unfold laidList; repeat (first | exact List.Mem.head _ | apply List.Mem.tail))
    have hg' : (Tryd.prog).globalNamed "strconv.ErrRange" = some 5 := by kernel_rfl
    have ht' : ((Tryd.prog).globals[5]?).map (·.type) = some 53 := by kernel_rfl
    obtain rfl := Option.some.inj (hg'.symm.trans hg)
    obtain rfl := Option.some.inj (ht'.symm.trans hty)
    obtain ⟨ev, hcs, hev⟩ := iface_cells Tryd.underlying53 hd
    refine ⟨ev, ?_, hev⟩
    have h1 := World.var?_cell hg hvar 0
    rw [h1, ← Array.getElem?_toList, hcs]; rfl
  · obtain ⟨g, t, cs, fuel, p, hg, hty, hvar, hd⟩ := hr "mullion/scan.signs" _ (by unfold laidList; repeat (first | exact List.Mem.head _ | apply List.Mem.tail))
    have hg' : (Tryd.prog).globalNamed "mullion/scan.signs" = some 0 := by kernel_rfl
    have ht' : ((Tryd.prog).globals[0]?).map (·.type) = some 67 := by kernel_rfl
    obtain rfl := Option.some.inj (hg'.symm.trans hg)
    obtain rfl := Option.some.inj (ht'.symm.trans hty)
    have hcs := cells_of_strs (zs := signList) Tryd.underlying67 Tryd.underlying9 (by kernel_rfl) (by kernel_rfl) hd
    unfold World.var? at hvar
    rw [hg'] at hvar
    simp only [Option.bind_some] at hvar
    split at hvar
    · rename_i cs' t' fr' hh
      cases hvar
      refine ⟨t', fr', ?_⟩
      rw [hh]
      have : cs = signArr := by
        apply Array.toList_inj.1
        rw [hcs]; rfl
      rw [this]
    · cases hvar
end Go.Proofs.YtihdjofihdgigaaDoor
