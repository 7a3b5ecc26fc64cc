/- Contract of the reader's setters. -/
import Derived.Test.YthfnjphmodcnoaaDoorAe
namespace Go.Proofs.YthfnjphmodcnoaaDoor
open Go.RowKit Go.Maps
set_option linter.unusedSimpArgs false
set_option linter.unusedVariables false

def SetW (w0 : World) (w : World) (B rb mb : Nat) : Prop := ∃ (x1 x2 x3 : Value) (t nn : Nat), nn ≤ 26 ∧ B ≤ mb ∧ FM w mb .nilFunc nn (setG true true true true x1 x2 x3 (closP t)) ∧ CellAt w B x1 rb 1 ∧ CellAt w B x2 rb 2 ∧ CellAt w B x3 rb 3 ∧ B ≤ t ∧ w.heap[t]? = some (.cells #[.pointer (some ⟨rb, 0, none⟩)] 50 (0, 0))
set_option maxRecDepth 100000 in
set_option maxHeartbeats 2000000 in
theorem setters_c (rb : Nat) (w : World) : Calls Tryd.prog 20 #[.pointer (some ⟨rb, 0, none⟩)] w fun e w' => ∃ mb, e = .returned (.map (some mb)) ∧ SetW w w' w.heap.size rb mb ∧ Below w.heap.size w w' := by
  go_enter Tryd.func20, Tryd.ntmps20
  go_wp2_with fail
  refine wp_region_held_drew (S := fun w' => w'.heap[w.heap.size]? = some (.cells #[.pointer (some ⟨rb, 0, none⟩)] 50 (0, 0)) ∧ w'.cell? ⟨w.heap.size, 0, none⟩ = some (.pointer (some ⟨rb, 0, none⟩))) (by kernel_rfl) ?_ (fun hHeld => ?_)
  · have e : (w.alloc (.cells #[.pointer (some ⟨rb, 0, none⟩)] 50)).drew.heap[w.heap.size]? = some (.cells #[.pointer (some ⟨rb, 0, none⟩)] 50 (0, 0)) := by
      show (w.heap.push _)[w.heap.size]? = _
      rw [Array.getElem?_push_size]
    refine ⟨e, ?_⟩
    unfold World.cell?
    rw [e]; rfl
  refine h_yes 1 5 (v := .func (.func 41) #[] #[]) rfl rfl (by kernel_rfl) (by kernel_rfl) (by kernel_rfl) (fun _ _ _ h => h) (by kernel_rfl) (by assumption) ?_ ?_
  · (intro w hSw; (try dsimp only at hSw); obtain ⟨hS1, hS2⟩ := hSw; go_simp; try first | with_reducible rfl | rfl)
  try simp only [Act.put, List.setIfInBounds_toArray, List.set_cons_zero, List.set_cons_succ]
  refine h_yes 2 6 (v := .pointer (some ⟨rb, 0, none⟩)) rfl rfl (by kernel_rfl) (by kernel_rfl) (by kernel_rfl) (fun _ _ _ h => h) (by kernel_rfl) (by assumption) ?_ ?_
  · (intro w hSw; (try dsimp only at hSw); obtain ⟨hS1, hS2⟩ := hSw; go_simp; try first | with_reducible rfl | rfl)
  try simp only [Act.put, List.setIfInBounds_toArray, List.set_cons_zero, List.set_cons_succ]
  refine h_yes 3 7 (v := .pointer (some ⟨rb, 0, none⟩)) rfl rfl (by kernel_rfl) (by kernel_rfl) (by kernel_rfl) (fun _ _ _ h => h) (by kernel_rfl) (by assumption) ?_ ?_
  · (intro w hSw; (try dsimp only at hSw); obtain ⟨hS1, hS2⟩ := hSw; go_simp; try first | with_reducible rfl | rfl)
  try simp only [Act.put, List.setIfInBounds_toArray, List.set_cons_zero, List.set_cons_succ]
  refine h_yes 4 8 (v := .pointer (some ⟨rb, 0, none⟩)) rfl rfl (by kernel_rfl) (by kernel_rfl) (by kernel_rfl) (fun _ _ _ h => h) (by kernel_rfl) (by assumption) ?_ ?_
  · (intro w hSw; (try dsimp only at hSw); obtain ⟨hS1, hS2⟩ := hSw; go_simp; try first | with_reducible rfl | rfl)
  try simp only [Act.put, List.setIfInBounds_toArray, List.set_cons_zero, List.set_cons_succ]
  refine h_yes 5 9 (v := .pointer (some ⟨rb, 1, none⟩)) rfl rfl (by kernel_rfl) (by kernel_rfl) (by kernel_rfl) (fun _ _ _ h => h) (by kernel_rfl) (by assumption) ?_ ?_
  · (intro w hSw; (try dsimp only at hSw); obtain ⟨hS1, hS2⟩ := hSw; go_simp; try first | with_reducible rfl | rfl)
  try simp only [Act.put, List.setIfInBounds_toArray, List.set_cons_zero, List.set_cons_succ]
  refine h_yes 8 11 (v := .func (.func 41) #[] #[]) rfl rfl (by kernel_rfl) (by kernel_rfl) (by kernel_rfl) (fun _ _ _ h => h) (by kernel_rfl) (by assumption) ?_ ?_
  · (intro w hSw; (try dsimp only at hSw); obtain ⟨hS1, hS2⟩ := hSw; go_simp; try first | with_reducible rfl | rfl)
  try simp only [Act.put, List.setIfInBounds_toArray, List.set_cons_zero, List.set_cons_succ]
  refine h_yes 9 12 (v := .pointer (some ⟨rb, 0, none⟩)) rfl rfl (by kernel_rfl) (by kernel_rfl) (by kernel_rfl) (fun _ _ _ h => h) (by kernel_rfl) (by assumption) ?_ ?_
  · (intro w hSw; (try dsimp only at hSw); obtain ⟨hS1, hS2⟩ := hSw; go_simp; try first | with_reducible rfl | rfl)
  try simp only [Act.put, List.setIfInBounds_toArray, List.set_cons_zero, List.set_cons_succ]
  refine h_yes 10 13 (v := .pointer (some ⟨rb, 0, none⟩)) rfl rfl (by kernel_rfl) (by kernel_rfl) (by kernel_rfl) (fun _ _ _ h => h) (by kernel_rfl) (by assumption) ?_ ?_
  · (intro w hSw; (try dsimp only at hSw); obtain ⟨hS1, hS2⟩ := hSw; go_simp; try first | with_reducible rfl | rfl)
  try simp only [Act.put, List.setIfInBounds_toArray, List.set_cons_zero, List.set_cons_succ]
  refine h_yes 11 14 (v := .pointer (some ⟨rb, 0, none⟩)) rfl rfl (by kernel_rfl) (by kernel_rfl) (by kernel_rfl) (fun _ _ _ h => h) (by kernel_rfl) (by assumption) ?_ ?_
  · (intro w hSw; (try dsimp only at hSw); obtain ⟨hS1, hS2⟩ := hSw; go_simp; try first | with_reducible rfl | rfl)
  try simp only [Act.put, List.setIfInBounds_toArray, List.set_cons_zero, List.set_cons_succ]
  refine h_yes 12 15 (v := .pointer (some ⟨rb, 2, none⟩)) rfl rfl (by kernel_rfl) (by kernel_rfl) (by kernel_rfl) (fun _ _ _ h => h) (by kernel_rfl) (by assumption) ?_ ?_
  · (intro w hSw; (try dsimp only at hSw); obtain ⟨hS1, hS2⟩ := hSw; go_simp; try first | with_reducible rfl | rfl)
  try simp only [Act.put, List.setIfInBounds_toArray, List.set_cons_zero, List.set_cons_succ]
  refine h_yes 15 17 (v := .func (.func 41) #[] #[]) rfl rfl (by kernel_rfl) (by kernel_rfl) (by kernel_rfl) (fun _ _ _ h => h) (by kernel_rfl) (by assumption) ?_ ?_
  · (intro w hSw; (try dsimp only at hSw); obtain ⟨hS1, hS2⟩ := hSw; go_simp; try first | with_reducible rfl | rfl)
  try simp only [Act.put, List.setIfInBounds_toArray, List.set_cons_zero, List.set_cons_succ]
  refine h_yes 16 18 (v := .pointer (some ⟨rb, 0, none⟩)) rfl rfl (by kernel_rfl) (by kernel_rfl) (by kernel_rfl) (fun _ _ _ h => h) (by kernel_rfl) (by assumption) ?_ ?_
  · (intro w hSw; (try dsimp only at hSw); obtain ⟨hS1, hS2⟩ := hSw; go_simp; try first | with_reducible rfl | rfl)
  try simp only [Act.put, List.setIfInBounds_toArray, List.set_cons_zero, List.set_cons_succ]
  refine h_yes 17 19 (v := .pointer (some ⟨rb, 0, none⟩)) rfl rfl (by kernel_rfl) (by kernel_rfl) (by kernel_rfl) (fun _ _ _ h => h) (by kernel_rfl) (by assumption) ?_ ?_
  · (intro w hSw; (try dsimp only at hSw); obtain ⟨hS1, hS2⟩ := hSw; go_simp; try first | with_reducible rfl | rfl)
  try simp only [Act.put, List.setIfInBounds_toArray, List.set_cons_zero, List.set_cons_succ]
  refine h_yes 18 20 (v := .pointer (some ⟨rb, 0, none⟩)) rfl rfl (by kernel_rfl) (by kernel_rfl) (by kernel_rfl) (fun _ _ _ h => h) (by kernel_rfl) (by assumption) ?_ ?_
  · (intro w hSw; (try dsimp only at hSw); obtain ⟨hS1, hS2⟩ := hSw; go_simp; try first | with_reducible rfl | rfl)
  try simp only [Act.put, List.setIfInBounds_toArray, List.set_cons_zero, List.set_cons_succ]
  refine h_yes 19 21 (v := .pointer (some ⟨rb, 3, none⟩)) rfl rfl (by kernel_rfl) (by kernel_rfl) (by kernel_rfl) (fun _ _ _ h => h) (by kernel_rfl) (by assumption) ?_ ?_
  · (intro w hSw; (try dsimp only at hSw); obtain ⟨hS1, hS2⟩ := hSw; go_simp; try first | with_reducible rfl | rfl)
  try simp only [Act.put, List.setIfInBounds_toArray, List.set_cons_zero, List.set_cons_succ]
  refine h_yes 22 23 (v := closP w.heap.size) rfl rfl (by kernel_rfl) (by kernel_rfl) (by kernel_rfl) (fun _ _ _ h => h) (by kernel_rfl) (by assumption) ?_ ?_
  · (intro w hSw; (try dsimp only at hSw); obtain ⟨hS1, hS2⟩ := hSw; go_simp; try first | with_reducible rfl | rfl)
  try simp only [Act.put, List.setIfInBounds_toArray, List.set_cons_zero, List.set_cons_succ]
  refine set_loop (by kernel_rfl) _ _ (w.alloc (.cells #[.pointer (some ⟨rb, 0, none⟩)] 50)).drew rb w.heap.size (w.heap.size + 1) (by simp) (fun w2 hw2 => ?_) (fun x4 x10 x16 x22 w2 hw2 c1 c2 c3 hM => ?_) 10 false false false false false false false false undef undef undef undef _ rfl (Below.refl _ _) (by simp) (by simp) (by simp) (by simp) (by simp) (by simp) (by simp) (by simp)
  · have e := (hw2.block w.heap.size (by omega)).trans hHeld.1
    refine ⟨e, ?_⟩
    unfold World.cell?
    rw [e]; rfl
  · obtain ⟨nn, hn, mb, rfl, hmb, hM⟩ := hM
    have e := (hw2.block w.heap.size (by omega)).trans hHeld.1
    have hb : Below w.heap.size w w2 := (Below.drew ((Below.refl w.heap.size w).alloc (Nat.le_refl _) _)).trans (hw2.mono (by omega))
    have hsw : SetW w w2 w.heap.size rb mb := by
      obtain ⟨y1, e1, g1, k1⟩ := c1
      obtain ⟨y2, e2, g2, k2⟩ := c2
      obtain ⟨y3, e3, g3, k3⟩ := c3
      exact ⟨x10, x16, x22, w.heap.size, nn, hn, by omega, hM, ⟨y1, e1, by omega, k1⟩, ⟨y2, e2, by omega, k2⟩, ⟨y3, e3, by omega, k3⟩, Nat.le_refl _, e⟩
    clear hM c1 c2 c3 hHeld hw2 e
    unfold sact
    go_wp2
    go_ret
    exact ⟨mb, rfl, hsw, hb⟩
end Go.Proofs.YthfnjphmodcnoaaDoor
