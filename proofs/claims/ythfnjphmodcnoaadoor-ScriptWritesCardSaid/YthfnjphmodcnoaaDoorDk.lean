/- From a datum's reach to a list's length: a slice of uint16 in a struct that came in. -/
import Derived.Test.YthfnjphmodcnoaaDoorBk
import Derived.SizedLaws
import Derived.Lib.SmallJoins
namespace Go.Proofs.YthfnjphmodcnoaaDoor
open Go.RowKit
set_option linter.unusedSimpArgs false
set_option linter.unusedVariables false

theorem u16a_reach {H : Type} {enc : TypeId × Value → H} {w : World} {base : Nat} {sp : Nat → Bool} {held : Bool} {fuel : Nat} {v : Value} {x : DataW H × List MemPlace} (h : DataW.trod enc Tryd.prog w base sp held fuel 23 [v] = some x)
    (hre : ∀ n ∈ x.1.weights Tryd.prog 23, n ≤ reachBytes) : ∃ l : List Nat, U16a w v l ∧ (∀ v ∈ l, v ≤ 65535) ∧ l.length ≤ 70368744177664 := by
  obtain ⟨l, h1, h2, -⟩ := u16a_open h
  refine ⟨l, h1, h2, ?_⟩
  obtain ⟨p, cap, h3, h4⟩ := h1
  rcases ChangeShapes.open_ints Tryd.underlying23 Tryd.underlying22 (by kernel_rfl) h with ⟨h5, -⟩ | ⟨a, len, cap', zs, h5, -, hl, hm, hz, hx, hc, hw⟩
  · obtain rfl : v = .slice none 0 0 := by simpa using h5
    injection h3 with _ h3 _
    omega
  · obtain rfl : v = .slice (some a) len cap' := by simpa using h5
    injection h3 with _ h3 _
    subst hx
    have h6 := hre (((ChangeShapes.lits (H := H) .u16 (zs.take len)).length + (ChangeShapes.lits (H := H) .u16 (zs.drop len)).length) * (Tryd.prog).bytesOf 22) (by
      simp only [DataW.weights, show (Tryd.prog).underlying 23 = some (.slice 22) from Tryd.underlying23]
      exact List.mem_cons_self)
    have hb : (Tryd.prog).bytesOf 22 = 2 := by kernel_rfl
    have hzl : len ≤ zs.length := by rw [hz]; split <;> omega
    have hr : reachBytes < 140737488355328 := by decide
    rw [hb] at h6
    simp only [ChangeShapes.lits, List.length_map, List.length_take, List.length_drop] at h6
    omega
theorem weights_part {H : Type} {P : Program} {t : TypeId} {fs : Array Field} {parts : List (DataW H)} (ht : P.underlying t = some (.struct fs)) {j : Nat} {f : Field} {d : DataW H} (hf : fs[j]? = some f) (hd : parts[j]? = some d) {n : Nat} (hn : n ∈ d.weights P f.type) : n ∈ (DataW.agg parts).weights P t := by
  simp only [DataW.weights, ht]
  exact DataW.weights_mem_each (j := j) (t := f.type) (by rw [List.getElem?_map, Array.getElem?_toList, hf]; rfl) hd n hn
theorem reach_of {H : Type} {P : Program} {ts : List TypeId} {ds : List (DataW H)} (h : (DataW.weightsEach P ts ds).all (· ≤ reachBytes) = true) {j : Nat} {t : TypeId} {d : DataW H} (ht : ts[j]? = some t) (hd : ds[j]? = some d) : ∀ n ∈ d.weights P t, n ≤ reachBytes := fun n hn => by
  have := List.all_eq_true.1 h n (DataW.weights_mem_each ht hd n hn)
  simpa using this
end Go.Proofs.YthfnjphmodcnoaaDoor
