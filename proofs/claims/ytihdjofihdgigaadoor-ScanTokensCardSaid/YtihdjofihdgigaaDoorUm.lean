/- Contract of scan.Tokens at every text; and the laws' own fixed fact. -/
import Derived.Test.YtihdjofihdgigaaDoorUl
import Derived.Test.YtihdjofihdgigaaDoorTf
namespace Go.Proofs.YtihdjofihdgigaaDoor
open Go.RowKit
set_option linter.unusedSimpArgs false
set_option linter.unusedVariables false

theorem tokens_c (s : ByteArray) (w : World) (h : Laid w) (hm : s.size ≤ maxLen) :
    Calls Tryd.prog 10 #[.string s] w fun e w' => TokPost w.heap.size (tokensP (bl s)) e w' ∧ Below w.heap.size w w' := by
  unfold maxLen at hm
  by_cases hs : 65536 < s.size
  · have hr : tokensP (bl s) = .error (0, 6) := by unfold tokensP; rw [bl_len, if_pos hs]
    rw [hr]
    have hs1 : (65536 : Int) < (s.size : Int) := by omega
    clear hr
    go_enter Tryd.func10, Tryd.ntmps10
    go_wp2
    go_ret3
    exact ⟨rfl, Below.refl _ _⟩
  · by_cases hv : wholeL (bl s) < s.size
    · have hr : tokensP (bl s) = .error (wholeL (bl s), 3) := by unfold tokensP; rw [bl_len, if_neg hs, if_pos hv]
      rw [hr]
      have hs1 : ¬ (65536 : Int) < (s.size : Int) := by omega
      have hv1 : (wholeL (bl s) : Int) < (s.size : Int) := by omega
      have HWH := Lib.hid (whole_c s w h (by omega))
      clear hr
      generalize wholeL (bl s) = n at *
      go_enter Tryd.func10, Tryd.ntmps10
      go_wp2_with fail
      refine HWH.out.mono ?_
      rintro e w1 ⟨rfl, hw1⟩
      go_wp2
      go_ret3
      exact ⟨rfl, hw1⟩
    · have hr : tokensP (bl s) = lex (bl s) 0 false 0 := by unfold tokensP; rw [bl_len, if_neg hs, if_neg hv]
      rw [hr]
      have hle := wholeL_bd (bl s)
      rw [bl_len] at hle
      exact tokens_walk s w h (by omega) (by omega)
/-- a list of tokens in memory, at its cells -/
theorem own_cells {w : World} {b : Nat} {v : Value} {ts : List Tok} (h : w.ownsRow b 31 4 v ts.length (flatT ts)) (hne : ts ≠ []) :
    ∃ g cap, v = .slice (some ⟨g, 0, none⟩) ts.length cap ∧ b ≤ g ∧ g < w.heap.size ∧ ∀ (k : Nat) (hk : k < ts.length),
      w.cell? ⟨g, k * 4, none⟩ = some (.int .i64 (ts[k]).kind) ∧ w.cell? ⟨g, k * 4 + 1, none⟩ = some (.string ⟨(ts[k]).text.toArray⟩) ∧ w.cell? ⟨g, k * 4 + 2, none⟩ = some (.int .u64 (ts[k]).num) ∧ w.cell? ⟨g, k * 4 + 3, none⟩ = some (.int .i64 ((ts[k]).place : Int)) := by
  have hc := fun g hg => h.cells (g := g) hg
  rcases h.2 with ⟨-, h0⟩ | ⟨g, cap, cur, rfl, hbg, hg, -⟩
  · exact absurd (List.length_eq_zero_iff.1 h0) hne
  · refine ⟨g, cap, rfl, hbg, (Array.getElem?_eq_some_iff.1 hg).1, fun k hk => ?_⟩
    have key : ∀ j, j < 4 → w.cell? ⟨g, k * 4 + j, none⟩ = (tokCells ts[k])[j]? := by
      intro j hj
      have h1 := flatT_at ts k hk j hj
      obtain ⟨u, hu⟩ : ∃ u, (tokCells ts[k])[j]? = some u := ⟨_, List.getElem?_eq_getElem (show j < (tokCells ts[k]).length from hj)⟩
      rw [hu] at h1 ⊢
      have := hc g rfl _ _ h1
      rw [Lib.add_plain] at this
      simpa using this
    exact ⟨key 0 (by omega), key 1 (by omega), key 2 (by omega), key 3 (by omega)⟩
theorem answers_c (w : World) (h : Laid w) : Calls Tryd.prog 12 #[] w fun e w' => e = .returned (.bool true) ∧ Below w.heap.size w w' := by
  have ht := tokens_c ⟨#[120]⟩ w h (by decide)
  rw [show bl ⟨#[120]⟩ = [120] from rfl, tokens_x] at ht
  have hw := fun w hl => word_c ⟨#[102, 117, 110, 99]⟩ w hl (by decide)
  rw [show bl ⟨#[102, 117, 110, 99]⟩ = [102, 117, 110, 99] from rfl, show isWord [102, 117, 110, 99] = true by decide] at hw
  have HT := Lib.hid ht
  have HW := Lib.hid hw
  clear ht hw
  go_enter Tryd.func12, Tryd.ntmps12
  go_wp2_with fail
  refine HT.out.mono ?_
  rintro e w1 ⟨⟨v, rfl, hown, -⟩, hw1⟩
  obtain ⟨g, cap, rfl, -, -, hc⟩ := own_cells hown (by simp)
  have c1 := (hc 0 (by simp)).2.1
  simp only [List.getElem_cons_zero, Nat.zero_mul, Nat.zero_add] at c1
  have hl1 := h.below hw1
  clear hc hown h HT
  go_wp2_with (go_at_call 20; refine (HW.out _ hl1).mono ?_; rintro e w' ⟨rfl, rfl⟩)
  go_ret
  exact ⟨rfl, hw1⟩
end Go.Proofs.YtihdjofihdgigaaDoor
