/- Maps of whatever elements: made, asked, written; the closures of a script's words. -/
import Derived.Test.YthfnjphmodcnoaaDoorAc
import Derived.Test.YthfnjphmodcnoaaDoorH
import Derived.Maps.OwnSet
namespace Go.Proofs.YthfnjphmodcnoaaDoor
open Go.RowKit Go.Maps Go.WideShapes Go.ChangeShapes Go.WideMaps
set_option linter.unusedSimpArgs false
set_option linter.unusedVariables false

def RV (v : Value) : Option (DataW Value × List MemPlace) := some (.held v, [])
/-- block mb is a map that has just the keys and elements that G says -/
def FM (w : World) (mb : Nat) (z : Value) (nn : Nat) (G : List UInt8 → Option Value) : Prop :=
  ∃ D, w.ownsMap Tryd.prog 9 RV mb nn D ∧ IsMap D ∧ ∀ key, has D (.string key) = (G key).isSome ∧ D.atKey (.string key) (.held z) = .held ((G key).getD z)
theorem keyed : Keyed Tryd.prog 9 := string_keyed Tryd.underlying9
theorem fm_made (w : World) (z : Value) : FM (w.alloc (.map #[] 0)) w.heap.size z 0 (fun _ => none) :=
  ⟨.map [], World.ownsMap_made _ _ _ _, isMap_empty, fun key => ⟨rfl, rfl⟩⟩
theorem fm_same {w w' : World} {mb : Nat} {z : Value} {nn : Nat} {G : List UInt8 → Option Value} (h : FM w mb z nn G) (he : w'.heap[mb]? = w.heap[mb]?) : FM w' mb z nn G := by
  obtain ⟨D, ⟨es, clock, hb, F, hs, hD⟩, h2, h3⟩ := h
  exact ⟨D, ⟨es, clock, he.trans hb, F, hs, hD⟩, h2, h3⟩
theorem fm_lt {w : World} {mb : Nat} {z : Value} {nn : Nat} {G : List UInt8 → Option Value} (h : FM w mb z nn G) : mb < w.heap.size := by
  obtain ⟨D, h1, -⟩ := h; exact h1.lt
theorem fm_below {w w' : World} {mb : Nat} {z : Value} {nn : Nat} {G : List UInt8 → Option Value} (h : FM w mb z nn G) (hb : Below w.heap.size w w') : FM w' mb z nn G := fm_same h (hb.block _ (fm_lt h))
theorem fm_look {w : World} {mb : Nat} {z : Value} {nn : Nat} {G : List UInt8 → Option Value} (h : FM w mb z nn G) {T E : TypeId} (ht : (Tryd.prog).underlying T = some (.map 9 E)) (hz : ∀ w, (zeroValue E).run Tryd.prog w = .ok z w) (key : ByteArray) (hk : key.size ≤ maxLen) :
    (Instr.lookup T (.map (some mb)) (.string key) true).run Tryd.prog w = .ok (.tuple #[(G (bl key)).getD z, .bool (G (bl key)).isSome]) w ∧ (Instr.lookup T (.map (some mb)) (.string key) false).run Tryd.prog w = .ok ((G (bl key)).getD z) w := by
  obtain ⟨D, h1, -, h3⟩ := h
  have hkey : keyOf Tryd.prog 9 (.string key) = some (.string (bl key)) := keyOf_string_mk Tryd.underlying9 hk
  obtain ⟨a1, a2⟩ := h3 (bl key)
  obtain ⟨v, ps, hr, hv⟩ := h1.look_ok keyed ht (hz w) (zd := .held z) (zp := []) rfl hkey
  obtain ⟨v2, ps2, hr2, hv2⟩ := h1.lookup keyed ht (hz w) (zd := .held z) (zp := []) rfl hkey
  rw [a2] at hv hv2
  rw [a1] at hr
  simp only [RV, Option.some.injEq, Prod.mk.injEq, DataW.held.injEq] at hv hv2
  rw [hv.1] at hr
  rw [hv2.1] at hr2
  exact ⟨hr, hr2⟩
theorem fm_put {w : World} {mb : Nat} {z : Value} {nn : Nat} {G : List UInt8 → Option Value} (h : FM w mb z nn G) {T E : TypeId} (ht : (Tryd.prog).underlying T = some (.map 9 E)) (key : ByteArray) (hk : key.size ≤ maxLen) (hn : nn < maxLen) (val : Value) :
    ∃ w', (Instr.mapUpdate T (.map (some mb)) (.string key) val).run Tryd.prog w = .ok () w' ∧ FM w' mb z (nn + 1) (fun k => if k = bl key then some val else G k) ∧ w.grownBy w' (some mb) := by
  obtain ⟨D, h1, h2, h3⟩ := h
  have hkey : keyOf Tryd.prog 9 (.string key) = some (.string (bl key)) := keyOf_string_mk Tryd.underlying9 hk
  obtain ⟨w', hr, ho, hg⟩ := h1.update keyed ht hn (d := .held val) (ps := []) hkey rfl
  refine ⟨w', hr, ⟨_, ho, h2.put _ _, fun k => ?_⟩, hg⟩
  have hkl : WideAt.IsKeyLit (Lit.string (bl key)) := keyed.one.key (by exact ⟨_, hkey⟩)
  by_cases e : k = bl key
  · subst e
    simp only [if_true]
    exact ⟨has_put_same h2 hkl _, atKey_put_same h2 hkl _ _⟩
  · have hne : Lit.string k ≠ Lit.string (bl key) := fun h => e (Lit.string.inj h)
    simp only [if_neg e]
    exact ⟨(has_put_other hne _).trans (h3 k).1, (atKey_put_other hne _ _).trans (h3 k).2⟩
end Go.Proofs.YthfnjphmodcnoaaDoor
