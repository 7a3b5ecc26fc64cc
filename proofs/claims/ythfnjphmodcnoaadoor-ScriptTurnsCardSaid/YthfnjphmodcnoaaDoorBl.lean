/- The walk of ScriptTurns, as its frame asks for it. -/
import Derived.Test.YthfnjphmodcnoaaDoorBg
namespace Go.Proofs.YthfnjphmodcnoaaDoor
open Go.RowKit
set_option linter.unusedSimpArgs false
set_option linter.unusedVariables false

theorem walkScriptTurns (a0 a1 a2 : Int) (v3 : Value) (l3 : List Nat) (a4 : Int) (h0 : 0 ≤ a0) (k0 : a0 ≤ 65535) (h1 : 0 ≤ a1) (k1 : a1 ≤ 65535) (h2 : 0 ≤ a2) (k2 : a2 ≤ 65535) (hl : ∀ v ∈ l3, v ≤ 65535) (hn : l3.length ≤ 9223372036854775807) (h4 : 0 ≤ a4) (k4 : a4 ≤ 255) (w : World) (h : Laid w) (hu : U16a w v3 l3) :
    Calls Tryd.prog 3 #[.int .u16 a0, .int .u16 a1, .int .u16 a2, v3, .int .u8 a4] w fun e w' => e = .returned (.bool true) ∧ Below w.heap.size w w' := by
  obtain ⟨f, rfl⟩ : ∃ f : Nat, a0 = (f : Int) := ⟨a0.toNat, by omega⟩
  obtain ⟨c, rfl⟩ : ∃ f : Nat, a1 = (f : Int) := ⟨a1.toNat, by omega⟩
  obtain ⟨e, rfl⟩ : ∃ f : Nat, a2 = (f : Int) := ⟨a2.toNat, by omega⟩
  obtain ⟨t, rfl⟩ : ∃ f : Nat, a4 = (f : Int) := ⟨a4.toNat, by omega⟩
  exact turns_walk f c e t (by omega) (by omega) (by omega) (by omega) v3 l3 hl hn w h hu
end Go.Proofs.YthfnjphmodcnoaaDoor
