/- Contract of the laws' first question: what a program that does nothing does not answer. -/
import Derived.Test.YthfnjphmodcnoaaDoorAm
import Derived.Test.YthfnjphmodcnoaaDoorBc
namespace Go.Proofs.YthfnjphmodcnoaaDoor
open Go.RowKit
set_option linter.unusedSimpArgs false
set_option linter.unusedVariables false

def fuel5 : ByteArray := ⟨#[102, 117, 101, 108, 32, 53, 10]⟩
theorem go5 : goP (linesP (bl fuel5)).2 (linesP (bl fuel5)).1 0 st0 = .ok ⟨5, 10000, 0, [], true, false, false, false⟩ := by kernel_rfl
theorem parse5_c (w : World) (h : Laid w) : Calls Tryd.prog 8 #[.string ⟨#[102, 117, 101, 108, 32, 53, 10]⟩] w fun e w' =>
    (∃ a l c, e = .returned (.tuple #[.agg #[.slice a l c, .int .i64 5, .int .i64 10000, .int .i64 0], .int .i64 0, .int .i64 0])) ∧ Below w.heap.size w w' := by
  refine (parse_walk fuel5 w h (by decide)).mono ?_
  rintro e w' ⟨h1, h2⟩
  refine ⟨?_, h2⟩
  rw [go5] at h1
  obtain ⟨pv, rfl, hO⟩ := h1
  rcases hO.2 with ⟨rfl, -⟩ | ⟨g, c, -, rfl, -⟩
  · exact ⟨_, _, _, rfl⟩
  · exact ⟨_, _, _, rfl⟩
set_option maxHeartbeats 2000000 in
set_option maxRecDepth 20000 in
theorem answers_c (w : World) (h : Laid w) : Calls Tryd.prog 9 #[] w fun e w' => e = .returned (.bool true) ∧ Below w.heap.size w w' := by
  have HP := Lib.hid (parse5_c w h)
  go_enter Tryd.func9, Tryd.ntmps9
  go_wp2_with (go_at_call 8; refine HP.out.mono ?_)
  rintro e W1 ⟨⟨a, l, c, rfl⟩, hB1⟩
  have HB1 := Lib.hid hB1
  have HL1 := Lib.hid (h.below hB1)
  have hsz := hB1.size
  clear hB1 HP
  go_wp2_with fail
  obtain ⟨W2, hW2⟩ : ∃ W2, W2 = (W1.alloc (.cells #[.slice a l c, .int .i64 5, .int .i64 10000, .int .i64 0] 27)).alloc (.cells #[.string ⟨#[55]⟩] 9) := ⟨_, rfl⟩
  rw [← hW2]
  have hB2 : Below W1.heap.size W1 W2 := by rw [hW2]; exact ((Below.refl _ _).alloc (Nat.le_refl _) _).alloc (by simp) _
  have hz2 : W2.heap.size = W1.heap.size + 2 := by rw [hW2]; simp
  have h1 : W2.heap[W1.heap.size]? = some (.cells #[.slice a l c, .int .i64 5, .int .i64 10000, .int .i64 0] 27 (0, 0)) := by
    rw [hW2]
    show (((W1.heap.push _).push _))[W1.heap.size]? = _
    rw [Array.getElem?_push, if_neg (by simp), Array.getElem?_push_size]
  have h2 : W2.heap[W1.heap.size + 1]? = some (.cells #[.string ⟨#[55]⟩] 9 (0, 0)) := by
    rw [hW2]
    exact heap_alloc2_new W1 _ _
  have hc : W2.cell? ⟨W1.heap.size + 1, 0, none⟩ = some (.string ⟨#[55]⟩) := by unfold World.cell?; rw [h2]; rfl
  obtain ⟨b0, hb0⟩ : ∃ b0, W1.heap.size = b0 := ⟨_, rfl⟩
  have HB2 := Lib.hid (HB1.out.trans (hB2.mono hsz))
  have HL2 := Lib.hid (HL1.out.below hB2)
  clear hW2 hB2
  rw [hb0] at hz2 h1 hc hsz ⊢
  have HR := Lib.hid (rep_c (b0 + 1) W2 HL2.out hc)
  clear hc h2
  refine HR.out.mono ?_
  rintro e W3 ⟨rfl, hB3⟩
  have h3 := (hB3.block b0 (by omega)).trans h1
  have c1 : W3.cell? ⟨b0, 1, none⟩ = some (.int .i64 5) := by unfold World.cell?; rw [h3]; rfl
  have c2 : W3.cell? ⟨b0, 2, none⟩ = some (.int .i64 10000) := by unfold World.cell?; rw [h3]; rfl
  have HB3 := Lib.hid (HB2.out.trans (hB3.mono (by omega)))
  clear h3 h1 hB3
  go_wp2
  go_ret
  exact ⟨rfl, HB3.out⟩
end Go.Proofs.YthfnjphmodcnoaaDoor
