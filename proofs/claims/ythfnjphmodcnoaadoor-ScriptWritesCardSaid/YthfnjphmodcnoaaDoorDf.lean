/- The walk of ScriptWrites, as its frame asks for it. -/
import Derived.Test.YthfnjphmodcnoaaDoorDe
namespace Go.Proofs.YthfnjphmodcnoaaDoor
open Go.RowKit
set_option linter.unusedSimpArgs false
set_option linter.unusedVariables false

theorem walkScriptWrites (v0 : Value) (b1 b2 b3 : Int) (l0 : List Nat) (hl : ∀ v ∈ l0, v ≤ 65535) (hn : l0.length ≤ 70368744177664) (w : World) (h : Laid w) (hu : U16a w v0 l0) :
    Calls Tryd.prog 4 #[.agg #[v0, .int .i64 b1, .int .i64 b2, .int .i64 b3]] w fun e w' => e = .returned (.bool true) ∧ Below w.heap.size w w' :=
  writes_walk v0 b1 b2 b3 l0 w h hu hl hn
end Go.Proofs.YthfnjphmodcnoaaDoor
