/- Contracts of the reference's Told, ends. -/
import Derived.Test.YthfnjphmodcnoaaDoorEe
namespace Go.Proofs.YthfnjphmodcnoaaDoor
open Go.RowKit
set_option linter.unusedSimpArgs false
set_option linter.unusedVariables false

set_option maxRecDepth 20000 in
set_option maxHeartbeats 4000000 in
theorem rtold_c (s : ByteArray) (w : World) (hs : s.size ≤ 1073741824) : Calls Tryd.prog 31 #[.string s] w fun e w' => e = .returned (.bool (toldP (bl s))) ∧ Below w.heap.size w w' := by
  have hp : Hid (toldP (bl s) = ((signedQ (bl s)).isSome || s.toList == [116, 114, 117, 101] || s.toList == [102, 97, 108, 115, 101])) := Lib.hid (by rw [toldP_eq, toList_bl]; rfl)
  have HS := Lib.hid (signed_c s w hs)
  unfold SgnPost at HS
  obtain ⟨b, hb⟩ : ∃ b, (signedQ (bl s)).isSome = b := ⟨_, rfl⟩
  obtain ⟨t, ht⟩ : ∃ t, (s.toList == [116, 114, 117, 101]) = t := ⟨_, rfl⟩
  obtain ⟨f, hf⟩ : ∃ f, (s.toList == [102, 97, 108, 115, 101]) = f := ⟨_, rfl⟩
  rw [hb, ht, hf] at hp
  rw [hb] at HS
  clear hb
  cases b <;> cases t <;> cases f
  all_goals
    go_enter Tryd.func31, Tryd.ntmps31
    go_wp2_with (go_at_call 52; refine HS.out.mono ?_)
    rintro e W1 ⟨⟨neg, n, rfl, hn, -⟩, hB1⟩
    go_wp2
    go_ret
    exact ⟨by rw [hp.out]; rfl, hB1.alloc hB1.size _⟩
/-- the words of the endings -/
def endS (k : Nat) : ByteArray := endB.getD k ByteArray.empty
set_option maxRecDepth 20000 in
set_option maxHeartbeats 4000000 in
theorem ends_c (k : Nat) (hk : k ≤ 5) (w : World) : Calls Tryd.prog 39 #[.int .i64 (k : Int)] w fun e w' => e = .returned (.string (endS k)) ∧ Below w.heap.size w w' := by
  have hcs : k = 0 ∨ k = 1 ∨ k = 2 ∨ k = 3 ∨ k = 4 ∨ k = 5 := by omega
  rcases hcs with rfl | rfl | rfl | rfl | rfl | rfl
  all_goals
    go_enter Tryd.func39, Tryd.ntmps39
    go_wp2
    go_ret
    exact ⟨rfl, (Below.refl _ _).alloc (Nat.le_refl _) _⟩
end Go.Proofs.YthfnjphmodcnoaaDoor
