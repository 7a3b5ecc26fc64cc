/- From the rows' condition to what the walks ask of the listed variables ('Laid'); a slice of uint16 that came in. -/
import Derived.Test.YthfnjphmodcnoaaDoorCards
import Derived.Test.YthfnjphmodcnoaaDoorBe
import Derived.Lib.LaidU8
import Derived.Lib.LaidTab
import Derived.Shelf.Vars
import Derived.OpenShut
import Derived.ChangeSlices
namespace Go.Proofs.YthfnjphmodcnoaaDoor
open Go.RowKit
set_option linter.unusedSimpArgs false
set_option linter.unusedVariables false

theorem iface_cells {H : Type} {enc : TypeId × Value → H} {P : Program} {w : World} {base : Nat} {sp : Nat → Bool} {held : Bool} {fuel : Nat} {t : TypeId} {ms : Array (String × TypeId)} {cs : List Value} {x : DataW H × List MemPlace}
    (ht : P.underlying t = some (.interface ms)) (h : DataW.trod enc P w base sp held fuel t cs = some x) : ∃ ev, cs = [ev] ∧ (ev = .nilIface ∨ ∃ te pe, ev = .iface te pe) := by
  cases fuel with
  | zero => simp [DataW.trod] at h
  | succ n =>
    unfold DataW.trod at h
    rw [ht] at h
    rcases cs with _ | ⟨c, _ | ⟨d, r⟩⟩
    · simp at h
    · cases c <;> first | exact ⟨_, rfl, .inl rfl⟩ | exact ⟨_, rfl, .inr ⟨_, _, rfl⟩⟩ | (simp at h)
    · simp at h
theorem cells_of_strs {H : Type} {enc : TypeId × Value → H} {P : Program} {w : World} {base : Nat} {sp : Nat → Bool} {held : Bool} {fuel : Nat} {t e : TypeId} {n : Nat} {cs : List Value} {zs : List (List UInt8)} {p : List MemPlace}
    (ht : P.underlying t = some (.array n e)) (he : P.underlying e = some .string) (hce : P.cellsOf e = 1) (hct : P.cellsOf t = n)
    (h : DataW.trod enc P w base sp held fuel t cs = some (.agg (zs.map fun z => .lit (.string z)), p)) : cs = zs.map fun z => Value.string ⟨z.toArray⟩ := by
  obtain ⟨xs, m, rfl, hx, hl, hxl, hall⟩ := DataW.trod_array ht h
  have hxs : xs.map (·.1) = zs.map fun z => (DataW.lit (.string z) : DataW H) := by
    have := congrArg Prod.fst hx
    simpa using this.symm
  have hzl : zs.length = n := by
    have := congrArg List.length hxs
    simp at this; omega
  apply List.ext_getElem?
  intro i
  by_cases hi : i < n
  · have h1 := hall i hi
    rw [hce] at h1
    obtain ⟨b, hb⟩ : ∃ b, xs[i]? = some b := ⟨xs[i]'(by omega), List.getElem?_eq_getElem (by omega)⟩
    rw [hb] at h1
    obtain ⟨s, hcz, rfl, _⟩ := DataW.trod_string he h1
    have h2 : cs[i]? = some (.string s) := by
      have := congrArg (·[0]?) hcz
      simpa [List.getElem?_take, List.getElem?_drop] using this
    have h3 : (xs.map (·.1))[i]? = some (DataW.lit (.string s.data.toList) : DataW H) := by simp [hb]
    rw [hxs] at h3
    simp only [List.getElem?_map, Option.map_eq_some_iff, DataW.lit.injEq, Lit.string.injEq] at h3
    obtain ⟨z', hz', e'⟩ := h3
    rw [h2]
    simp only [List.getElem?_map, hz', Option.map_some, e']
  · rw [List.getElem?_eq_none (by omega), List.getElem?_eq_none (by simp; omega)]
def laidList : List (String × DataW Unit) := [("math/bits.deBruijn32tab", Rows.laid_math_bits_deBruijn32tab), ("math/bits.deBruijn64tab", Rows.laid_math_bits_deBruijn64tab), ("internal/strconv.uint64pow10", Rows.laid_internal_strconv_uint64pow10), ("unicode/utf8.acceptRanges", Rows.laid_unicode_utf8_acceptRanges), ("strconv.ErrRange", Rows.laid_strconv_ErrRange), ("strconv.ErrSyntax", Rows.laid_strconv_ErrSyntax), ("mullion/script.endings", Rows.laid_mullion_script_endings), ("unicode/utf8.first", Rows.laid_unicode_utf8_first)]
theorem laid_of {W : World} (h : laidMet Tryd.prog laidList W) (hsh : W.ShapedOpen Tryd.prog) : Laid W := by
  have hr : ∀ n d, (n, d) ∈ laidList → Lib.VarReads Tryd.prog W n d := fun n d hm => Lib.laidMet.reads h hm
  refine ⟨?_, ?_, ?_, ?_, ?_, ?_⟩
  · obtain ⟨g, t, cs, fuel, p, hg, hty, hvar, hd⟩ := hr "math/bits.deBruijn64tab" _ (by unfold laidList; repeat (first | exact List.Mem.head _ | apply List.Mem.tail))
    have hg' : (Tryd.prog).globalNamed "math/bits.deBruijn64tab" = some 8 := by kernel_rfl
    obtain rfl := Option.some.inj (hg'.symm.trans hg)
    unfold World.var? at hvar
    rw [hg'] at hvar
    rcases Nat.lt_or_ge 8 W.heap.size with h' | h'
    · exact h'
    · simp [Array.getElem?_eq_none h'] at hvar
  · exact Go.Proofs.cell_of_shapedOpen_int (zero := #[.int .i64 0]) (t := 3) hsh (of_decide_eq_true (by kernel_rfl)) (by kernel_rfl) rfl (by kernel_rfl) (by kernel_rfl) Tryd.underlying3
  · obtain ⟨g, t, cs, fuel, p, hg, hty, hvar, hd⟩ := hr "strconv.ErrRange" _ (by unfold laidList; repeat (first | exact List.Mem.head _ | apply List.Mem.tail))
    have hg' : (Tryd.prog).globalNamed "strconv.ErrRange" = some 4 := by kernel_rfl
    have ht' : ((Tryd.prog).globals[4]?).map (·.type) = some 67 := by kernel_rfl
    obtain rfl := Option.some.inj (hg'.symm.trans hg)
    obtain rfl := Option.some.inj (ht'.symm.trans hty)
    obtain ⟨ev, hcs, hev⟩ := iface_cells Tryd.underlying67 hd
    refine ⟨ev, ?_, hev⟩
    have h1 := World.var?_cell hg hvar 0
    rw [h1, ← Array.getElem?_toList, hcs]; rfl
  · obtain ⟨g, t, cs, fuel, p, hg, hty, hvar, hd⟩ := hr "strconv.ErrSyntax" _ (by unfold laidList; repeat (first | exact List.Mem.head _ | apply List.Mem.tail))
    have hg' : (Tryd.prog).globalNamed "strconv.ErrSyntax" = some 3 := by kernel_rfl
    have ht' : ((Tryd.prog).globals[3]?).map (·.type) = some 67 := by kernel_rfl
    obtain rfl := Option.some.inj (hg'.symm.trans hg)
    obtain rfl := Option.some.inj (ht'.symm.trans hty)
    obtain ⟨ev, hcs, hev⟩ := iface_cells Tryd.underlying67 hd
    refine ⟨ev, ?_, hev⟩
    have h1 := World.var?_cell hg hvar 0
    rw [h1, ← Array.getElem?_toList, hcs]; rfl
  · obtain ⟨g, t, cs, fuel, p, hg, hty, hvar, hd⟩ := hr "internal/strconv.uint64pow10" _ (by unfold laidList; repeat (first | exact List.Mem.head _ | apply List.Mem.tail))
    have hg' : (Tryd.prog).globalNamed "internal/strconv.uint64pow10" = some 1 := by kernel_rfl
    have ht' : ((Tryd.prog).globals[1]?).map (·.type) = some 130 := by kernel_rfl
    obtain rfl := Option.some.inj (hg'.symm.trans hg)
    obtain rfl := Option.some.inj (ht'.symm.trans hty)
    have he : Rows.laid_internal_strconv_uint64pow10 = Lib.tabData (H := Unit) .u64 Lib.pow10Tab := by kernel_rfl
    rw [he] at hd
    unfold Lib.TabIs
    rw [hvar, ← Lib.cells_of_tab Tryd.underlying130 Tryd.underlying47 (by kernel_rfl) (by kernel_rfl) hd]
  · obtain ⟨g, t, cs, fuel, p, hg, hty, hvar, hd⟩ := hr "mullion/script.endings" _ (by unfold laidList; repeat (first | exact List.Mem.head _ | apply List.Mem.tail))
    have hg' : (Tryd.prog).globalNamed "mullion/script.endings" = some 0 := by kernel_rfl
    have ht' : ((Tryd.prog).globals[0]?).map (·.type) = some 83 := by kernel_rfl
    obtain rfl := Option.some.inj (hg'.symm.trans hg)
    obtain rfl := Option.some.inj (ht'.symm.trans hty)
    have hcs := cells_of_strs (zs := endList) Tryd.underlying83 Tryd.underlying9 (by kernel_rfl) (by kernel_rfl) hd
    unfold World.var? at hvar
    rw [hg'] at hvar
    simp only [Option.bind_some] at hvar
    split at hvar
    · rename_i cs' t' fr' hh
      cases hvar
      refine ⟨t', fr', ?_⟩
      rw [hh]
      have : cs = endArr := by
        apply Array.toList_inj.1
        rw [hcs]; rfl
      rw [this]
    · cases hvar
theorem u16a_open {H : Type} {enc : TypeId × Value → H} {w : World} {base : Nat} {sp : Nat → Bool} {held : Bool} {fuel : Nat} {v : Value} {x : DataW H × List MemPlace} (h : DataW.trod enc Tryd.prog w base sp held fuel 23 [v] = some x) :
    ∃ l : List Nat, U16a w v l ∧ (∀ v ∈ l, v ≤ 65535) ∧ l.length ≤ 9223372036854775807 := by
  rcases ChangeShapes.open_ints Tryd.underlying23 Tryd.underlying22 (by kernel_rfl) h with ⟨h1, -⟩ | ⟨a, len, cap, zs, h1, -, hl, hm, hz, -, hc, hw⟩
  · obtain rfl : v = .slice none 0 0 := by simpa using h1
    exact ⟨[], ⟨none, 0, rfl, .inl rfl⟩, by simp, by simp⟩
  · obtain rfl : v = .slice (some a) len cap := by simpa using h1
    have hzl : len ≤ zs.length := by rw [hz]; split <;> omega
    have hb : ∀ n ∈ zs, 0 ≤ n ∧ n ≤ 65535 := fun n hn => by
      have := bounds_u16 (hw n hn)
      omega
    refine ⟨(zs.take len).map Int.toNat, ⟨_, cap, by simp [Nat.min_eq_left hzl], .inr ⟨a, rfl, fun i u hu => ?_⟩⟩, fun u hu => ?_, by simp; unfold maxLen at hm; omega⟩
    · rw [List.getElem?_map, Option.map_eq_some_iff] at hu
      obtain ⟨n, hn, rfl⟩ := hu
      have hi : i < len := by
        have := (List.getElem?_eq_some_iff.1 hn).1
        rw [List.length_take] at this; omega
      rw [List.getElem?_take, if_pos hi] at hn
      have h2 := hc i (by omega)
      rw [List.getD_eq_getElem?_getD, hn] at h2
      have h3 := hb n (List.mem_of_getElem? hn)
      rw [h2]
      simp [Int.toNat_of_nonneg h3.1]
    · obtain ⟨n, hn, rfl⟩ := List.mem_map.1 hu
      have := hb n (List.mem_of_mem_take hn)
      omega
end Go.Proofs.YthfnjphmodcnoaaDoor
