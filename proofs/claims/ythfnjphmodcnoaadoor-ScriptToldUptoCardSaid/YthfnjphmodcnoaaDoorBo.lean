/- Contract of the closure of script.Read that tells a line at fault. -/
import Derived.Test.YthfnjphmodcnoaaDoorBn
namespace Go.Proofs.YthfnjphmodcnoaaDoor
open Go.RowKit
set_option linter.unusedSimpArgs false
set_option linter.unusedVariables false

def repZ : Array Value := #[.slice none 0 0, .int .i64 0, .int .i64 0, .int .i64 0, .int .i64 0]
theorem repLoad (w : World) (g : Nat) (t : TypeId) (cs : Array Value) (fr : Nat × Nat) (hg : w.heap[g]? = some (.cells cs t fr)) (hs : cs.size = 5) : (loadVar 39 ⟨g, 0, none⟩).run Tryd.prog w = .ok (.agg cs) w :=
  run_loadVar_row w g t 39 cs fr _ hg (show (Tryd.prog).underlying 39 = some (.struct _) from Tryd.underlying39) rfl (by rw [hs]; kernel_rfl)
theorem bad_c (i : Nat) (hi : i ≤ 1073741824) (w : World) : Calls Tryd.prog 26 #[.int .i64 (i : Int)] w fun e w' => e = .returned (.tuple #[.agg repZ, .int .i64 ((i + 1 : Nat) : Int), .int .i64 5]) ∧ Below w.heap.size w w' := by
  have hw : IntKind.i64.wrap ((i : Int) + 1) = ((i + 1 : Nat) : Int) := by rw [IntKind.wrap_i64]; omega
  go_enter Tryd.func26, Tryd.ntmps26
  go_wp2
  refine bodyPost_ret (results_cell2 (show Tryd.f26.results = #[.cell 2 39, .tmp 3, .tmp 4] from rfl) _ _ w.heap.size repZ rfl (repLoad _ _ _ _ _ (heap_alloc_new w _) rfl)) rfl ?_
  exact ⟨rfl, (Below.refl _ _).alloc (Nat.le_refl _) _⟩
end Go.Proofs.YthfnjphmodcnoaaDoor
