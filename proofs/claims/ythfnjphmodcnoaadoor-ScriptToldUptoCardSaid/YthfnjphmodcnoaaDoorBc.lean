/- Contract of script.Report at the one report that the laws' first question asks. -/
import Derived.Test.YthfnjphmodcnoaaDoorBa
import Derived.Test.YthfnjphmodcnoaaDoorBb
import Derived.Test.YthfnjphmodcnoaaDoorAk
import Derived.Test.YthfnjphmodcnoaaDoorH
namespace Go.Proofs.YthfnjphmodcnoaaDoor
open Go.RowKit
set_option linter.unusedSimpArgs false
set_option linter.unusedVariables false

def sevenS : ByteArray := ⟨#[55]⟩
theorem told7 : toldP [55] = true := by decide +kernel
theorem told7_c (w : World) (h : Laid w) : Calls Tryd.prog 27 #[.string ⟨#[55]⟩] w fun e w' => e = .returned (.bool true) ∧ Below w.heap.size w w' := by
  have := told_c ⟨#[55]⟩ w h (by decide)
  rw [show bl (⟨#[55]⟩ : ByteArray) = [55] from rfl, told7] at this
  exact this
theorem rep1_c (w : World) (h : Laid w) : Calls Tryd.prog 37 #[.string ⟨#[55]⟩] w fun e w' => e = .returned (.bool false) ∧ Below w.heap.size w w' := by
  go_enter Tryd.func37, Tryd.ntmps37
  go_wp2_with (first | (go_at_call 27; refine (told7_c w h).mono ?_; rintro e W1 ⟨rfl, hB⟩))
  go_ret
  exact ⟨rfl, hB⟩
theorem idx_c (b cap : Nat) (w : World) (h : Laid w) (hc : w.cell? ⟨b, 0, none⟩ = some (.string ⟨#[55]⟩)) : Calls Tryd.prog 56 #[.slice (some ⟨b, 0, none⟩) 1 cap, .func (.func 37) #[] #[]] w fun e w' => e = .returned (.int .i64 (-1)) ∧ Below w.heap.size w w' := by
  go_enter Tryd.func56, Tryd.ntmps56
  go_wp2
  go_loopw [8] (fun i wr => (i = .int .i64 0 ∧ wr = w) ∨ (i = .int .i64 1 ∧ Below w.heap.size w wr)) (fun i _ => 1 - (intOf i).toNat)
  case atStart => exact .inl ⟨rfl, rfl⟩
  case round =>
    rcases hrel with ⟨rfl, rfl⟩ | ⟨rfl, hB⟩
    · go_wp2_with (first | (go_at_call 37; refine (rep1_c _ h).mono ?_; rintro e W1 ⟨rfl, hB⟩))
      go_roundw
      case rel => exact .inr ⟨rfl, hB⟩
      case measure => simp [intOf]
    · go_wp2
      go_ret
      exact ⟨rfl, hB⟩
theorem con_c (b cap : Nat) (w : World) (h : Laid w) (hc : w.cell? ⟨b, 0, none⟩ = some (.string ⟨#[55]⟩)) : Calls Tryd.prog 36 #[.slice (some ⟨b, 0, none⟩) 1 cap, .func (.func 37) #[] #[]] w fun e w' => e = .returned (.bool false) ∧ Below w.heap.size w w' := by
  go_enter Tryd.func36, Tryd.ntmps36
  go_wp2_with (first | (go_at_call 56; refine (idx_c b cap w h hc).mono ?_; rintro e W1 ⟨rfl, hB⟩))
  go_ret
  exact ⟨rfl, hB⟩
theorem ownsRow_below'' {w w' : World} {base : Nat} {e : TypeId} {size : Nat} {v : Value} {n : Nat} {xs : List Value} (h : w.ownsRow base e size v n xs) (hb : Below w.heap.size w w') : w'.ownsRow base e size v n xs := by
  refine ⟨h.1, ?_⟩
  rcases h.2 with h2 | ⟨g, cap, cur, a, b, c, d⟩
  · exact .inl h2
  · refine .inr ⟨g, cap, cur, a, b, ?_, d⟩
    rw [hb.block g (Array.getElem?_eq_some_iff.1 c).1]; exact c
def BldAt (bb : Nat) (W : World) (l : List UInt8) : Prop := Lib.IsBuilder 65 5 bb bb (Lib.byteCells l) W
theorem bldAt_below {bb : Nat} {W W' : World} {l : List UInt8} (h : BldAt bb W l) (hb : Below W.heap.size W W') : BldAt bb W' l := by
  have key : ∀ p, Lib.BuilderAt 65 5 bb bb p (Lib.byteCells l) W → Lib.BuilderAt 65 5 bb bb p (Lib.byteCells l) W' := by
    rintro p ⟨h1, v, h2, h3, h4⟩
    exact ⟨h1, v, (hb.block bb (Array.getElem?_eq_some_iff.1 h2).1).trans h2, ownsRow_below'' h3 hb, h4⟩
  exact h.imp (key _) (key _)
theorem wstr_c (bb : Nat) (l : List UInt8) (s : ByteArray) (W : World) (h : BldAt bb W l) (hl : l.length + s.size ≤ 140737488355328) (hB : bb ≤ W.heap.size) :
    Calls Tryd.prog 23 #[.pointer (some ⟨bb, 0, none⟩), .string s] W fun e w' => e = .returned (.tuple #[.int .i64 s.size, .nilIface]) ∧ BldAt bb w' (l ++ bl s) ∧ Below bb W w' := by
  refine (ws_c bb bb (Lib.byteCells l) s W h (by rw [Lib.byteCells_length]; exact hl) hB).mono ?_
  rintro e w' ⟨h1, h2, h3⟩
  refine ⟨h1, .inr ?_, h3⟩
  rw [show Lib.byteCells (l ++ bl s) = Lib.byteCells l ++ Lib.strCells s by simp [Lib.byteCells, Lib.strCells, bl]]
  exact h2
theorem bldAt_new (W : World) : BldAt W.heap.size (W.alloc (.cells #[.pointer none, .slice none 0 0] 65)) [] := Lib.fresh_isBuilder _ _ W
theorem itoa0_c (w : World) (h : Laid w) : Calls Tryd.prog 22 #[.int .i64 0] w fun e w' => e = .returned (.string ⟨#[48]⟩) ∧ Below w.heap.size w w' := by
  have := itoa_c 0 w h (by omega) (by omega)
  rw [show Lib.itoa 0 = [48] by decide +kernel] at this
  exact this
theorem below_tw {w0 w w' : World} {B : Nat} (h : Below B w0 w) (k : Below w.heap.size w w') (hB : B ≤ w.heap.size := by omega) : Below B w0 w' := h.trans (k.mono hB)
theorem laid_bb {bb : Nat} {W W' : World} (h : Laid W) (hb : Below bb W W') (h9 : 9 ≤ bb) : Laid W' :=
  laid_nine h (Nat.le_trans h.size hb.size) (fun k hk => hb.block k (by omega))
set_option maxRecDepth 20000 in
set_option maxHeartbeats 2000000 in
theorem rep_c (b : Nat) (w : World) (h : Laid w) (hc : w.cell? ⟨b, 0, none⟩ = some (.string ⟨#[55]⟩)) : Calls Tryd.prog 16 #[.agg #[.slice (some ⟨b, 0, none⟩) 1 1, .int .i64 1, .int .i64 0, .int .i64 0, .int .i64 0]] w fun e w' =>
    e = .returned (.tuple #[.string ⟨#[55, 10, 101, 120, 105, 116, 10, 115, 116, 101, 112, 115, 32, 48, 32, 112, 105, 99, 107, 115, 32, 48, 10]⟩, .int .i64 0]) ∧ Below w.heap.size w w' := by
  have hbw : b < w.heap.size := Lib.lt_of_cell hc
  have h9 := h.size
  go_enter Tryd.func16, Tryd.ntmps16
  go_wp2_with fail
  obtain ⟨W0, hW0⟩ : ∃ W0, W0 = w.alloc (.cells #[.slice (some ⟨b, 0, none⟩) 1 1, .int .i64 1, .int .i64 0, .int .i64 0, .int .i64 0] 39) := ⟨_, rfl⟩
  rw [← hW0]
  have hB0 : Below w.heap.size w W0 := by rw [hW0]; exact (Below.refl _ _).alloc (Nat.le_refl _) _
  have hz0 : W0.heap.size = w.heap.size + 1 := by rw [hW0]; simp
  have hr0 : W0.heap[w.heap.size]? = some (.cells #[.slice (some ⟨b, 0, none⟩) 1 1, .int .i64 1, .int .i64 0, .int .i64 0, .int .i64 0] 39 (0, 0)) := by
    rw [hW0]
    show (w.heap.push _)[w.heap.size]? = _
    rw [Array.getElem?_push_size]
  have hc0 : W0.cell? ⟨b, 0, none⟩ = some (.string ⟨#[55]⟩) := (hB0.cell (p := ⟨b, 0, none⟩) hbw).trans hc
  obtain ⟨q0, hq0⟩ : ∃ q0, w.heap.size = q0 := ⟨_, rfl⟩
  have HL0 := Lib.hid (h.below hB0)
  rw [hq0] at hB0 hz0 hr0 hbw h9 ⊢
  have Hq0 := Lib.hid hq0
  have HB0 := Lib.hid hB0
  clear hW0 hq0 h hc hB0
  refine (con_c b 1 W0 HL0.out hc0).mono ?_
  rintro e W1 ⟨rfl, hB1⟩
  have hr1 : W1.heap[q0]? = _ := (hB1.block q0 (by omega)).trans hr0
  have hz1 := hB1.size
  have hc1 : W1.cell? ⟨b, 0, none⟩ = some (.string ⟨#[55]⟩) := (hB1.cell (p := ⟨b, 0, none⟩) (by show b < _; omega)).trans hc0
  have HL1 := Lib.hid (HL0.out.below hB1)
  have HB1 := Lib.hid (HB0.out.trans (hB1.mono (by omega)))
  have hd : W1.cell? ⟨q0, 0, none⟩ = some (.slice (some ⟨b, 0, none⟩) 1 1) ∧ W1.cell? ⟨q0, 1, none⟩ = some (.int .i64 1) ∧ W1.cell? ⟨q0, 2, none⟩ = some (.int .i64 0) ∧ W1.cell? ⟨q0, 3, none⟩ = some (.int .i64 0) ∧ W1.cell? ⟨q0, 4, none⟩ = some (.int .i64 0) := by
    unfold World.cell?
    rw [hr1]
    exact ⟨rfl, rfl, rfl, rfl, rfl⟩
  obtain ⟨d0, d1, d2, d3, d4⟩ := hd
  have hbn := bldAt_new W1
  have hq1 : q0 < W1.heap.size := by omega
  have hbw1 : b < W1.heap.size := by omega
  clear hc0 hr0 hr1 hB1 hz0 hz1
  go_wp2
  obtain ⟨W2, hW2⟩ : ∃ W2, W2 = W1.alloc (.cells #[.pointer none, .slice none 0 0] 65) := ⟨_, rfl⟩
  rw [← hW2] at hbn ⊢
  have hBx : Below W1.heap.size W1 W2 := by rw [hW2]; exact (Below.refl _ _).alloc (Nat.le_refl _) _
  have hz2 : W2.heap.size = W1.heap.size + 1 := by rw [hW2]; simp
  obtain ⟨e0, e1, e2, e3, e4⟩ := And.intro ((hBx.cell (p := ⟨q0, 0, none⟩) hq1).trans d0) (And.intro ((hBx.cell (p := ⟨q0, 1, none⟩) hq1).trans d1) (And.intro ((hBx.cell (p := ⟨q0, 2, none⟩) hq1).trans d2) (And.intro ((hBx.cell (p := ⟨q0, 3, none⟩) hq1).trans d3) ((hBx.cell (p := ⟨q0, 4, none⟩) hq1).trans d4))))
  have ec := (hBx.cell (p := ⟨b, 0, none⟩) hbw1).trans hc1
  have HL2 := Lib.hid (HL1.out.below hBx)
  have HB2 := Lib.hid (HB1.out.trans (hBx.mono (by omega)))
  obtain ⟨bb, hbb⟩ : ∃ bb, W1.heap.size = bb := ⟨_, rfl⟩
  rw [hbb] at hbn hz2 hq1 hbw1 ⊢
  clear hW2 hBx d0 d1 d2 d3 d4 hc1 hbb
  have E0 := Lib.hid e0
  have E1 := Lib.hid e1
  have E2 := Lib.hid e2
  have E3 := Lib.hid e3
  have E4 := Lib.hid e4
  have EC := Lib.hid ec
  have HBN := Lib.hid hbn
  clear e0 e1 e2 e3 e4 ec hbn
  go_loopw [49] (fun i wr => (i = .int .i64 0 ∧ wr = W2) ∨ (i = .int .i64 1 ∧ BldAt bb wr [55, 10] ∧ Below bb W2 wr)) (fun i _ => 1 - (intOf i).toNat)
  case atStart => exact .inl ⟨rfl, rfl⟩
  case round =>
    rcases hrel with ⟨rfl, rfl⟩ | ⟨rfl, hbl, hBx⟩
    · have ec := EC.out
      have HW := Lib.hid (wstr_c bb [] (⟨#[55]⟩ ++ ⟨#[10]⟩) wr HBN.out (by decide) (by omega))
      go_wp2_with (first | (go_at_call 23; refine (HW.out).mono ?_; rintro e W3 ⟨rfl, hbl, hBx⟩))
      go_roundw
      case rel => exact .inr ⟨rfl, hbl, hBx⟩
      case measure => simp [intOf]
    · have e0 : wr.cell? ⟨q0, 0, none⟩ = some (.slice (some ⟨b, 0, none⟩) 1 1) := (hBx.cell (p := ⟨q0, 0, none⟩) hq1).trans E0.out
      have e1 : wr.cell? ⟨q0, 1, none⟩ = some (.int .i64 1) := (hBx.cell (p := ⟨q0, 1, none⟩) hq1).trans E1.out
      have e2 : wr.cell? ⟨q0, 2, none⟩ = some (.int .i64 0) := (hBx.cell (p := ⟨q0, 2, none⟩) hq1).trans E2.out
      have HLr := Lib.hid (laid_bb HL2.out hBx (by have := HL2.out.size; omega))
      obtain ⟨te, fe, hends⟩ := HLr.out.ends
      have hen : wr.cell? ⟨0, 1, none⟩ = some (.string ⟨#[101, 120, 105, 116]⟩) := by unfold World.cell?; rw [hends]; rfl
      have hsr := hBx.size
      have HBx := Lib.hid hBx
      have HBL := Lib.hid hbl
      clear hends hBx hbl
      have HW := Lib.hid (wstr_c bb [55, 10] ⟨#[101, 120, 105, 116]⟩ wr HBL.out (by decide) (by omega))
      go_wp2_with (go_at_call 23; refine HW.out.mono ?_)
      rintro e W3 ⟨rfl, hbl3, hB3⟩
      have hB23 := HBx.out.trans hB3
      have d1 : W3.cell? ⟨q0, 1, none⟩ = some (.int .i64 1) := (hB23.cell (p := ⟨q0, 1, none⟩) hq1).trans E1.out
      have HBL3 := Lib.hid hbl3
      have HB23 := Lib.hid hB23
      have hs3 := hB23.size
      clear hbl3 hB3 hB23 e0 e1 e2
      go_wp2_with fail
      refine wp_region_held_drew (S := (fun w' => Below bb W2 w' ∧ w'.cell? ⟨q0, 3, none⟩ = some (.int .i64 0) ∧ w'.cell? ⟨q0, 4, none⟩ = some (.int .i64 0))) (by kernel_rfl) ?_ (fun hHeld => ?_)
      · exact ⟨HB23.out.drew, (HB23.out.cell (p := ⟨q0, 3, none⟩) hq1).trans E3.out, (HB23.out.cell (p := ⟨q0, 4, none⟩) hq1).trans E4.out⟩
      have HBW4 := Lib.hid (show Below bb W2 W3.drew from HB23.out.drew)
      have HBLW4 : Hid (BldAt bb W3.drew _) := HBL3
      obtain ⟨W4, hW4⟩ : ∃ W4, W4 = W3.drew := ⟨_, rfl⟩
      rw [← hW4] at HBW4 HBLW4 hHeld ⊢
      clear hW4
      refine h_yes 0 70 (v := ?_) rfl rfl (by kernel_rfl) (by kernel_rfl) (by kernel_rfl) (fun _ _ _ h => h) (by kernel_rfl) (by assumption) ?_ ?_
      rotate_left 1
      · (intro w hSw; (try dsimp only at hSw); obtain ⟨hS1, hS2, hS3⟩ := hSw; go_simp; try with_reducible rfl)
      try simp only [Act.put, List.setIfInBounds_toArray, List.set_cons_zero, List.set_cons_succ]
      refine h_yes 1 71 (v := ?_) rfl rfl (by kernel_rfl) (by kernel_rfl) (by kernel_rfl) (fun _ _ _ h => h) (by kernel_rfl) (by assumption) ?_ ?_
      rotate_left 1
      · (intro w hSw; (try dsimp only at hSw); obtain ⟨hS1, hS2, hS3⟩ := hSw; go_simp; try with_reducible rfl)
      try simp only [Act.put, List.setIfInBounds_toArray, List.set_cons_zero, List.set_cons_succ]
      refine h_yes 5 75 (v := ?_) rfl rfl (by kernel_rfl) (by kernel_rfl) (by kernel_rfl) (fun _ _ _ h => h) (by kernel_rfl) (by assumption) ?_ ?_
      rotate_left 1
      · (intro w hSw; (try dsimp only at hSw); obtain ⟨hS1, hS2, hS3⟩ := hSw; go_simp; try with_reducible rfl)
      try simp only [Act.put, List.setIfInBounds_toArray, List.set_cons_zero, List.set_cons_succ]
      refine h_yes 6 76 (v := ?_) rfl rfl (by kernel_rfl) (by kernel_rfl) (by kernel_rfl) (fun _ _ _ h => h) (by kernel_rfl) (by assumption) ?_ ?_
      rotate_left 1
      · (intro w hSw; (try dsimp only at hSw); obtain ⟨hS1, hS2, hS3⟩ := hSw; go_simp; try with_reducible rfl)
      try simp only [Act.put, List.setIfInBounds_toArray, List.set_cons_zero, List.set_cons_succ]
      refine h_step 2 rfl (by kernel_rfl) (by kernel_rfl) (fun K hK => ?_)
      go_simp
      refine (itoa0_c W4 (laid_bb HL2.out HBW4.out (by omega))).mono ?_
      rintro e W5 ⟨rfl, hiW5⟩
      have hsW4 := HBW4.out.size
      have HBW5 := Lib.hid (below_tw HBW4.out hiW5)
      have HBLW5 := Lib.hid (bldAt_below HBLW4.out hiW5)
      clear hiW5
      refine hK.out _ _ ⟨HBW5.out, (HBW5.out.cell (p := ⟨q0, 3, none⟩) hq1).trans E3.out, (HBW5.out.cell (p := ⟨q0, 4, none⟩) hq1).trans E4.out⟩ (fun hHeld => ?_)
      clear hK K
      try simp only [Act.put, List.setIfInBounds_toArray, List.set_cons_zero, List.set_cons_succ]
      refine h_yes 3 73 (v := ?_) rfl rfl (by kernel_rfl) (by kernel_rfl) (by kernel_rfl) (fun _ _ _ h => h) (by kernel_rfl) (by assumption) ?_ ?_
      rotate_left 1
      · (intro w hSw; (try dsimp only at hSw); obtain ⟨hS1, hS2, hS3⟩ := hSw; go_simp; try with_reducible rfl)
      try simp only [Act.put, List.setIfInBounds_toArray, List.set_cons_zero, List.set_cons_succ]
      refine h_yes 4 74 (v := ?_) rfl rfl (by kernel_rfl) (by kernel_rfl) (by kernel_rfl) (fun _ _ _ h => h) (by kernel_rfl) (by assumption) ?_ ?_
      rotate_left 1
      · (intro w hSw; (try dsimp only at hSw); obtain ⟨hS1, hS2, hS3⟩ := hSw; go_simp; try with_reducible rfl)
      try simp only [Act.put, List.setIfInBounds_toArray, List.set_cons_zero, List.set_cons_succ]
      refine h_step 7 rfl (by kernel_rfl) (by kernel_rfl) (fun K hK => ?_)
      go_simp
      refine (itoa0_c W5 (laid_bb HL2.out HBW5.out (by omega))).mono ?_
      rintro e W6 ⟨rfl, hiW6⟩
      have hsW5 := HBW5.out.size
      have HBW6 := Lib.hid (below_tw HBW5.out hiW6)
      have HBLW6 := Lib.hid (bldAt_below HBLW5.out hiW6)
      clear hiW6
      refine hK.out _ _ ⟨HBW6.out, (HBW6.out.cell (p := ⟨q0, 3, none⟩) hq1).trans E3.out, (HBW6.out.cell (p := ⟨q0, 4, none⟩) hq1).trans E4.out⟩ (fun hHeld => ?_)
      clear hK K
      try simp only [Act.put, List.setIfInBounds_toArray, List.set_cons_zero, List.set_cons_succ]
      refine h_yes 8 78 (v := ?_) rfl rfl (by kernel_rfl) (by kernel_rfl) (by kernel_rfl) (fun _ _ _ h => h) (by kernel_rfl) (by assumption) ?_ ?_
      rotate_left 1
      · (intro w hSw; (try dsimp only at hSw); obtain ⟨hS1, hS2, hS3⟩ := hSw; go_simp; try with_reducible rfl)
      try simp only [Act.put, List.setIfInBounds_toArray, List.set_cons_zero, List.set_cons_succ]
      refine h_yes 9 79 (v := ?_) rfl rfl (by kernel_rfl) (by kernel_rfl) (by kernel_rfl) (fun _ _ _ h => h) (by kernel_rfl) (by assumption) ?_ ?_
      rotate_left 1
      · (intro w hSw; (try dsimp only at hSw); obtain ⟨hS1, hS2, hS3⟩ := hSw; go_simp; try with_reducible rfl)
      try simp only [Act.put, List.setIfInBounds_toArray, List.set_cons_zero, List.set_cons_succ]
      refine h_step 10 rfl (by kernel_rfl) (by kernel_rfl) (fun K hK => ?_)
      go_simp
      have hs6 := HBW6.out.size
      refine (wstr_c bb _ _ W6 HBLW6.out (by decide) (by omega)).mono ?_
      rintro e W7 ⟨rfl, hbl7, hB7⟩
      have HBW7 := Lib.hid (HBW6.out.trans hB7)
      have HBL7 := Lib.hid hbl7
      clear hbl7 hB7
      refine hK.out _ _ ⟨HBW7.out, (HBW7.out.cell (p := ⟨q0, 3, none⟩) hq1).trans E3.out, (HBW7.out.cell (p := ⟨q0, 4, none⟩) hq1).trans E4.out⟩ (fun hHeld => ?_)
      clear hK K
      try simp only [Act.put, List.setIfInBounds_toArray, List.set_cons_zero, List.set_cons_succ]
      refine wpAnyH_done (by kernel_rfl) ?_ _
      clear HBLW4 HBLW5 HBLW6 HW HBL3
      have HFIN : Hid (BldAt bb W7 [55, 10, 101, 120, 105, 116, 10, 115, 116, 101, 112, 115, 32, 48, 32, 112, 105, 99, 107, 115, 32, 48, 10]) := HBL7
      clear HBL7
      have hs7 := HBW7.out.size
      have HLEN := Lib.hid (Tryd.Builder_Len bb bb _ W7 HFIN.out)
      have HSTR := Lib.hid (Tryd.Builder_String_any bb bb _ W7 HFIN.out (by omega))
      go_wp2_with (first | (go_at_call 24; refine (HLEN.out).mono ?_; rintro e w' ⟨rfl, rfl⟩) | (go_at_call 25; refine (HSTR.out).mono ?_; rintro e W8 ⟨rfl, hB8⟩))
      go_ret2
      refine ⟨rfl, ?_⟩
      rw [Hq0.out]
      exact HB2.out.trans ((HBW7.out.trans hB8).mono (by omega))
end Go.Proofs.YthfnjphmodcnoaaDoor
