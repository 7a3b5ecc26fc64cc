/- The walk of script.Text. -/
import Derived.Test.YthfnjphmodcnoaaDoorDa
import Derived.Test.YthfnjphmodcnoaaDoorBc
import Derived.Test.YthfnjphmodcnoaaDoorBe
import Derived.Test.YthfnjphmodcnoaaDoorH
namespace Go.Proofs.YthfnjphmodcnoaaDoor
open Go.RowKit
set_option linter.unusedSimpArgs false
set_option linter.unusedVariables false

theorem itoaN_c (n : Nat) (hn : n ≤ 2147483647) (w : World) (h : Laid w) : Calls Tryd.prog 22 #[.int .i64 (n : Int)] w fun e w' => e = .returned (.string ⟨(Lib.decDigits n).toArray⟩) ∧ Below w.heap.size w w' := by
  have := itoa_c (n : Int) w h (by omega) (by omega)
  rw [show Lib.itoa (n : Int) = Lib.decDigits n by unfold Lib.itoa; rw [if_neg (by omega)]; simp] at this
  exact this
theorem laid_bb2 {bb : Nat} {W W' : World} (h : Laid W) (hb : Below bb W W') (h9 : 9 ≤ bb) : Laid W' := laid_bb h hb h9
theorem cat_le {a b : ByteArray} {m n : Nat} (ha : a.size ≤ m) (hb : b.size ≤ n) : (a ++ b).size ≤ m + n := by rw [ByteArray.size_append]; omega
theorem hy_cat {a : Act} {o : Oper} {w : World} {x y : Operand} {s1 s2 : ByteArray} (ho : o.op = .binOp .add 9 x y 9) (hx : a.eval x = .string s1) (hy : a.eval y = .string s2) (hl : s1.size + s2.size ≤ 9223372036854775807) : (execOp a.eval o).run Tryd.prog w = .ok (.value (.string (s1 ++ s2))) w := by
  have hl2 : ¬ (9223372036854775807 < s1.size + s2.size) := by omega
  unfold execOp
  simp only [ho, hx, hy]
  go_simp
  try omega
/-- the string that the first write gets -/
def headS (f c e : Nat) : ByteArray := ⟨(headT f c e).toArray⟩
theorem bl_head (f c e : Nat) : bl (headS f c e) = headT f c e := by simp [headS, bl]
theorem head_str (f c e : Nat) (s : ByteArray) (h : bl s = headT f c e) : s = headS f c e := by
  apply ByteArray.ext
  apply Array.toList_inj.1
  rw [show s.data.toList = bl s from rfl, h]; simp [headS]
set_option maxRecDepth 20000 in
set_option maxHeartbeats 4000000 in
theorem text_c (v : Value) (F C E : Int) (ps : List Nat) (w : World) (h : Laid w) (hv : U16s w v ps) (hl : ∀ p ∈ ps, p ≤ 65535) (hn : ps.length ≤ 140737488355328) :
    Calls Tryd.prog 11 #[.agg #[v, .int .i64 F, .int .i64 C, .int .i64 E]] w fun e w' => e = .returned (.tuple #[.string ⟨(textS F C E ps).1.toArray⟩, .int .i64 (textS F C E ps).2]) ∧ Below w.heap.size w w' := by
  obtain ⟨n, hN⟩ : ∃ n, ps.length = n := ⟨_, rfl⟩
  obtain ⟨p0, cap, rfl, hv⟩ := hv
  rw [hN] at hn ⊢
  have HV := Lib.hid hv
  have HN := Lib.hid hN
  have HP := Lib.hid hl
  have HLd := Lib.hid h
  have h9 := h.size
  clear hv hN hl h
  go_enter Tryd.func11, Tryd.ntmps11
  go_wp2_with fail
  obtain ⟨W1, hW1⟩ : ∃ W1, W1 = (w.alloc (.cells #[.slice p0 n cap, .int .i64 F, .int .i64 C, .int .i64 E] 27)).alloc (.cells #[.int .i64 F, .int .i64 C, .int .i64 E] 3) := ⟨_, rfl⟩
  try rw [← hW1]
  have hB1 : Below w.heap.size w W1 := by rw [hW1]; exact ((Below.refl _ _).alloc (Nat.le_refl _) _).alloc (by simp) _
  have hz1 : W1.heap.size = w.heap.size + 2 := by rw [hW1]; simp
  obtain ⟨q0, hq0⟩ : ∃ q0, w.heap.size = q0 := ⟨_, rfl⟩
  have hr0 : W1.heap[q0]? = some (.cells #[.slice p0 n cap, .int .i64 F, .int .i64 C, .int .i64 E] 27 (0, 0)) := by
    rw [hW1, ← hq0]
    show (((w.heap.push _).push _))[w.heap.size]? = _
    rw [Array.getElem?_push, if_neg (by simp), Array.getElem?_push_size]
  have hr1 : W1.heap[q0 + 1]? = some (.cells #[.int .i64 F, .int .i64 C, .int .i64 E] 3 (0, 0)) := by
    rw [hW1, ← hq0]; exact heap_alloc2_new w _ _
  have HL1 := Lib.hid (HLd.out.below hB1)
  have HB1 := Lib.hid hB1
  rw [hq0] at hz1 h9 hB1 ⊢
  have Hq0 := Lib.hid hq0
  have hd : W1.cell? ⟨q0 + 1, 0, none⟩ = some (.int .i64 F) ∧ W1.cell? ⟨q0 + 1, 1, none⟩ = some (.int .i64 C) ∧ W1.cell? ⟨q0 + 1, 2, none⟩ = some (.int .i64 E) := by
    unfold World.cell?; rw [hr1]; exact ⟨rfl, rfl, rfl⟩
  have hd' : W1.cell? ⟨q0, 0, none⟩ = some (.slice p0 n cap) ∧ W1.cell? ⟨q0, 1, none⟩ = some (.int .i64 F) ∧ W1.cell? ⟨q0, 2, none⟩ = some (.int .i64 C) ∧ W1.cell? ⟨q0, 3, none⟩ = some (.int .i64 E) := by
    unfold World.cell?; rw [hr0]; exact ⟨rfl, rfl, rfl, rfl⟩
  obtain ⟨g0, g1, g2⟩ := hd
  obtain ⟨d0, d1, d2, d3⟩ := hd'
  have HVV : Hid (ps = [] ∨ ∃ g o, p0 = some ⟨g, o, none⟩ ∧ ∀ (i : Nat) (v : Nat), ps[i]? = some v → W1.cell? ⟨g, o + i, none⟩ = some (.int .u16 (v : Int))) := Lib.hid (HV.out.imp id fun ⟨g, o, h3, h4⟩ => ⟨g, o, h3, fun i v hv => (HB1.out.cell (p := ⟨g, o + i, none⟩) (Lib.lt_of_cell (h4 i v hv))).trans (h4 i v hv)⟩)
  clear hr0 hr1 hB1 hW1 HV hq0
  go_loopw [18] (fun i wr => wr = W1 ∧ ((i = .int .i64 0) ∨ (i = .int .i64 1 ∧ Hid (inR F = true)) ∨ (i = .int .i64 2 ∧ Hid (inR F = true ∧ inR C = true)) ∨ (i = .int .i64 3 ∧ Hid (inR F = true ∧ inR C = true ∧ inR E = true)))) (fun i _ => 3 - (intOf i).toNat)
  case atStart => exact ⟨rfl, .inl rfl⟩
  case round =>
    obtain ⟨rfl, hc⟩ := hrel
    rcases hc with rfl | ⟨rfl, hc⟩ | ⟨rfl, hc⟩ | ⟨rfl, hc⟩
    · by_cases hlo : F < 0
      · have hts : textS F C E ps = ([], 1) := textS_bad F C E ps (by rw [inR_not (.inl hlo)]; simp)
        go_wp2
        go_ret2
        exact ⟨by first | rfl | (rw [hts]; rfl), HB1.out⟩
      by_cases hhi : 2147483647 < F
      · have hts : textS F C E ps = ([], 1) := textS_bad F C E ps (by rw [inR_not (.inr hhi)]; simp)
        go_wp2
        go_ret2
        exact ⟨by first | rfl | (rw [hts]; rfl), HB1.out⟩
      have hlo2 : 0 ≤ F := by omega
      have hhi2 : F ≤ 2147483647 := by omega
      go_wp2
      exact ⟨⟨by first | trivial | rfl, .inr (.inl ⟨rfl, Lib.hid (inR_of (by omega) (by omega))⟩)⟩, by simp [intOf]⟩
    · by_cases hlo : C < 0
      · have hts : textS F C E ps = ([], 1) := textS_bad F C E ps (by rw [inR_not (.inl hlo)]; simp)
        go_wp2
        go_ret2
        exact ⟨by first | rfl | (rw [hts]; rfl), HB1.out⟩
      by_cases hhi : 2147483647 < C
      · have hts : textS F C E ps = ([], 1) := textS_bad F C E ps (by rw [inR_not (.inr hhi)]; simp)
        go_wp2
        go_ret2
        exact ⟨by first | rfl | (rw [hts]; rfl), HB1.out⟩
      have hlo2 : 0 ≤ C := by omega
      have hhi2 : C ≤ 2147483647 := by omega
      go_wp2
      exact ⟨⟨by first | trivial | rfl, .inr (.inr (.inl ⟨rfl, Lib.hid (⟨hc.out, inR_of (by omega) (by omega)⟩)⟩))⟩, by simp [intOf]⟩
    · by_cases hlo : E < 0
      · have hts : textS F C E ps = ([], 1) := textS_bad F C E ps (by rw [inR_not (.inl hlo)]; simp)
        go_wp2
        go_ret2
        exact ⟨by first | rfl | (rw [hts]; rfl), HB1.out⟩
      by_cases hhi : 2147483647 < E
      · have hts : textS F C E ps = ([], 1) := textS_bad F C E ps (by rw [inR_not (.inr hhi)]; simp)
        go_wp2
        go_ret2
        exact ⟨by first | rfl | (rw [hts]; rfl), HB1.out⟩
      have hlo2 : 0 ≤ E := by omega
      have hhi2 : E ≤ 2147483647 := by omega
      go_wp2
      exact ⟨⟨by first | trivial | rfl, .inr (.inr (.inr ⟨rfl, Lib.hid (⟨hc.out.1, hc.out.2, inR_of (by omega) (by omega)⟩)⟩))⟩, by simp [intOf]⟩
    · obtain ⟨r1, r2, r3⟩ := hc.out
      simp only [inR, Bool.and_eq_true, decide_eq_true_eq] at r1 r2 r3
      obtain ⟨f, rfl⟩ : ∃ m : Nat, F = (m : Int) := ⟨F.toNat, by omega⟩
      obtain ⟨c, rfl⟩ : ∃ m : Nat, C = (m : Int) := ⟨C.toNat, by omega⟩
      obtain ⟨e, rfl⟩ : ∃ m : Nat, E = (m : Int) := ⟨E.toNat, by omega⟩
      have hf : f ≤ 2147483647 := by omega
      have hcc : c ≤ 2147483647 := by omega
      have he : e ≤ 2147483647 := by omega
      clear r1 r2 r3 hc
      have E0 := Lib.hid d0
      have E1 := Lib.hid d1
      have E2 := Lib.hid d2
      have E3 := Lib.hid d3
      clear d0 d1 d2 d3 g0 g1 g2
      go_wp2_with fail
      obtain ⟨W2, hW2⟩ : ∃ W2, W2 = wr := ⟨_, rfl⟩
      rw [← hW2] at E0 E1 E2 E3 HL1 HB1 hz1 HVV ⊢
      clear hW2
      obtain ⟨bb, hbb⟩ : ∃ bb, W2.heap.size = bb := ⟨_, rfl⟩
      have hq1 : q0 < bb := by omega
      have HL2 := HL1
      obtain ⟨sf, hsf⟩ : ∃ s : ByteArray, s = ⟨(Lib.decDigits f).toArray⟩ := ⟨_, rfl⟩
      obtain ⟨sc, hsc⟩ : ∃ s : ByteArray, s = ⟨(Lib.decDigits c).toArray⟩ := ⟨_, rfl⟩
      obtain ⟨se, hse⟩ : ∃ s : ByteArray, s = ⟨(Lib.decDigits e).toArray⟩ := ⟨_, rfl⟩
      have hzf : sf.size ≤ 20 := by rw [hsf]; have := dec_len f (by omega); simpa [ByteArray.size] using this
      have hzc : sc.size ≤ 20 := by rw [hsc]; have := dec_len c (by omega); simpa [ByteArray.size] using this
      have hze : se.size ≤ 20 := by rw [hse]; have := dec_len e (by omega); simpa [ByteArray.size] using this
      have HIf : Hid (∀ W, Laid W → Calls Tryd.prog 22 #[.int .i64 (f : Int)] W fun e w' => e = .returned (.string sf) ∧ Below W.heap.size W w') := Lib.hid (fun W hW => by rw [hsf]; exact itoaN_c f hf W hW)
      have HIc : Hid (∀ W, Laid W → Calls Tryd.prog 22 #[.int .i64 (c : Int)] W fun e w' => e = .returned (.string sc) ∧ Below W.heap.size W w') := Lib.hid (fun W hW => by rw [hsc]; exact itoaN_c c hcc W hW)
      have HIe : Hid (∀ W, Laid W → Calls Tryd.prog 22 #[.int .i64 (e : Int)] W fun e w' => e = .returned (.string se) ∧ Below W.heap.size W w') := Lib.hid (fun W hW => by rw [hse]; exact itoaN_c e he W hW)
      have Hsf := Lib.hid hsf
      have Hsc := Lib.hid hsc
      have Hse := Lib.hid hse
      clear hsf hsc hse
      have z1 : ((⟨#[102, 117, 101, 108, 32]⟩ : ByteArray) ++ sf).size ≤ 25 := cat_le (m := 5) (n := 20) (by decide) hzf
      have z2 : (((⟨#[102, 117, 101, 108, 32]⟩ : ByteArray) ++ sf) ++ (⟨#[10, 99, 101, 108, 108, 115, 32]⟩ : ByteArray)).size ≤ 32 := cat_le (m := 25) (n := 7) z1 (by decide)
      have z3 : ((((⟨#[102, 117, 101, 108, 32]⟩ : ByteArray) ++ sf) ++ (⟨#[10, 99, 101, 108, 108, 115, 32]⟩ : ByteArray)) ++ sc).size ≤ 52 := cat_le (m := 32) (n := 20) z2 hzc
      have z4 : (((((⟨#[102, 117, 101, 108, 32]⟩ : ByteArray) ++ sf) ++ (⟨#[10, 99, 101, 108, 108, 115, 32]⟩ : ByteArray)) ++ sc) ++ (⟨#[10, 101, 118, 101, 114, 121, 32]⟩ : ByteArray)).size ≤ 59 := cat_le (m := 52) (n := 7) z3 (by decide)
      have z5 : ((((((⟨#[102, 117, 101, 108, 32]⟩ : ByteArray) ++ sf) ++ (⟨#[10, 99, 101, 108, 108, 115, 32]⟩ : ByteArray)) ++ sc) ++ (⟨#[10, 101, 118, 101, 114, 121, 32]⟩ : ByteArray)) ++ se).size ≤ 79 := cat_le (m := 59) (n := 20) z4 hze
      have k1 : (⟨#[102, 117, 101, 108, 32]⟩ : ByteArray).size = 5 := by decide
      have k2 : (⟨#[10, 99, 101, 108, 108, 115, 32]⟩ : ByteArray).size = 7 := by decide
      have k3 : (⟨#[10, 101, 118, 101, 114, 121, 32]⟩ : ByteArray).size = 7 := by decide
      have k4 : (⟨#[10, 112, 105, 99, 107, 115]⟩ : ByteArray).size = 6 := by decide
      have hHD : (((((((⟨#[102, 117, 101, 108, 32]⟩ : ByteArray) ++ sf) ++ (⟨#[10, 99, 101, 108, 108, 115, 32]⟩ : ByteArray)) ++ sc) ++ (⟨#[10, 101, 118, 101, 114, 121, 32]⟩ : ByteArray)) ++ se) ++ (⟨#[10, 112, 105, 99, 107, 115]⟩ : ByteArray)) = headS f c e := head_str f c e _ (by simp [bl, Hsf.out, Hsc.out, Hse.out, headT])
      have Hz := Lib.hid (And.intro z1 (And.intro z2 (And.intro z3 (And.intro z4 (And.intro z5 (And.intro k1 (And.intro k2 (And.intro k3 k4))))))))
      have HHD := Lib.hid hHD
      clear z1 z2 z3 z4 z5 k1 k2 k3 k4 hHD
      refine wp_region_held_drew (S := (fun w' => Below bb W2 w' ∧ w'.cell? ⟨q0, 1, none⟩ = some (.int .i64 (f : Int)) ∧ w'.cell? ⟨q0, 2, none⟩ = some (.int .i64 (c : Int)) ∧ w'.cell? ⟨q0, 3, none⟩ = some (.int .i64 (e : Int)))) (by kernel_rfl) ?_ (fun hHeld => ?_)
      · exact ⟨(Below.refl _ _).drew, E1.out, E2.out, E3.out⟩
      have HBW4 := Lib.hid (show Below bb W2 W2.drew from (Below.refl _ _).drew)
      obtain ⟨W4, hW4⟩ : ∃ W4, W4 = W2.drew := ⟨_, rfl⟩
      rw [← hW4] at HBW4 hHeld ⊢
      clear hW4
      refine h_yes 0 29 (v := ?_) rfl rfl (by kernel_rfl) (by kernel_rfl) (by kernel_rfl) (fun _ _ _ h => h) (by kernel_rfl) (by assumption) ?_ ?_
      rotate_left 1
      · (intro w hSw; (try dsimp only at hSw); obtain ⟨hS1, hS2, hS3, hS4⟩ := hSw; go_simp; try with_reducible rfl)
      try simp only [Act.put, List.setIfInBounds_toArray, List.set_cons_zero, List.set_cons_succ]
      refine h_yes 1 30 (v := ?_) rfl rfl (by kernel_rfl) (by kernel_rfl) (by kernel_rfl) (fun _ _ _ h => h) (by kernel_rfl) (by assumption) ?_ ?_
      rotate_left 1
      · (intro w hSw; (try dsimp only at hSw); obtain ⟨hS1, hS2, hS3, hS4⟩ := hSw; go_simp; try with_reducible rfl)
      try simp only [Act.put, List.setIfInBounds_toArray, List.set_cons_zero, List.set_cons_succ]
      refine h_yes 5 34 (v := ?_) rfl rfl (by kernel_rfl) (by kernel_rfl) (by kernel_rfl) (fun _ _ _ h => h) (by kernel_rfl) (by assumption) ?_ ?_
      rotate_left 1
      · (intro w hSw; (try dsimp only at hSw); obtain ⟨hS1, hS2, hS3, hS4⟩ := hSw; go_simp; try with_reducible rfl)
      try simp only [Act.put, List.setIfInBounds_toArray, List.set_cons_zero, List.set_cons_succ]
      refine h_yes 6 35 (v := ?_) rfl rfl (by kernel_rfl) (by kernel_rfl) (by kernel_rfl) (fun _ _ _ h => h) (by kernel_rfl) (by assumption) ?_ ?_
      rotate_left 1
      · (intro w hSw; (try dsimp only at hSw); obtain ⟨hS1, hS2, hS3, hS4⟩ := hSw; go_simp; try with_reducible rfl)
      try simp only [Act.put, List.setIfInBounds_toArray, List.set_cons_zero, List.set_cons_succ]
      refine h_yes 10 39 (v := ?_) rfl rfl (by kernel_rfl) (by kernel_rfl) (by kernel_rfl) (fun _ _ _ h => h) (by kernel_rfl) (by assumption) ?_ ?_
      rotate_left 1
      · (intro w hSw; (try dsimp only at hSw); obtain ⟨hS1, hS2, hS3, hS4⟩ := hSw; go_simp; try with_reducible rfl)
      try simp only [Act.put, List.setIfInBounds_toArray, List.set_cons_zero, List.set_cons_succ]
      refine h_yes 11 40 (v := ?_) rfl rfl (by kernel_rfl) (by kernel_rfl) (by kernel_rfl) (fun _ _ _ h => h) (by kernel_rfl) (by assumption) ?_ ?_
      rotate_left 1
      · (intro w hSw; (try dsimp only at hSw); obtain ⟨hS1, hS2, hS3, hS4⟩ := hSw; go_simp; try with_reducible rfl)
      try simp only [Act.put, List.setIfInBounds_toArray, List.set_cons_zero, List.set_cons_succ]
      refine h_step 2 rfl (by kernel_rfl) (by kernel_rfl) (fun K hK => ?_)
      go_simp
      refine (HIf.out W4 (laid_bb HL2.out HBW4.out (by omega))).mono ?_
      rintro e_ W5 ⟨rfl, hiW5⟩
      have hsW4 := HBW4.out.size
      have HBW5 := Lib.hid (below_tw HBW4.out hiW5)
      clear hiW5
      refine hK.out _ _ ⟨HBW5.out, (HBW5.out.cell (p := ⟨q0, 1, none⟩) hq1).trans E1.out, (HBW5.out.cell (p := ⟨q0, 2, none⟩) hq1).trans E2.out, (HBW5.out.cell (p := ⟨q0, 3, none⟩) hq1).trans E3.out⟩ (fun hHeld => ?_)
      clear hK K
      try simp only [Act.put, List.setIfInBounds_toArray, List.set_cons_zero, List.set_cons_succ]
      refine h_yes 3 32 (v := .string ((⟨#[102, 117, 101, 108, 32]⟩ : ByteArray) ++ sf)) rfl rfl (by kernel_rfl) (by kernel_rfl) (by kernel_rfl) (fun _ _ _ h => h) (by kernel_rfl) (by assumption) (fun w _ => hy_cat rfl rfl rfl (by obtain ⟨z1, z2, z3, z4, z5, k1, k2, k3, k4⟩ := Hz.out; have := hzf; have := hzc; have := hze; omega)) ?_
      try simp only [Act.put, List.setIfInBounds_toArray, List.set_cons_zero, List.set_cons_succ]
      refine h_yes 4 33 (v := .string (((⟨#[102, 117, 101, 108, 32]⟩ : ByteArray) ++ sf) ++ (⟨#[10, 99, 101, 108, 108, 115, 32]⟩ : ByteArray))) rfl rfl (by kernel_rfl) (by kernel_rfl) (by kernel_rfl) (fun _ _ _ h => h) (by kernel_rfl) (by assumption) (fun w _ => hy_cat rfl rfl rfl (by obtain ⟨z1, z2, z3, z4, z5, k1, k2, k3, k4⟩ := Hz.out; have := hzf; have := hzc; have := hze; omega)) ?_
      try simp only [Act.put, List.setIfInBounds_toArray, List.set_cons_zero, List.set_cons_succ]
      refine h_step 7 rfl (by kernel_rfl) (by kernel_rfl) (fun K hK => ?_)
      go_simp
      refine (HIc.out W5 (laid_bb HL2.out HBW5.out (by omega))).mono ?_
      rintro e_ W6 ⟨rfl, hiW6⟩
      have hsW5 := HBW5.out.size
      have HBW6 := Lib.hid (below_tw HBW5.out hiW6)
      clear hiW6
      refine hK.out _ _ ⟨HBW6.out, (HBW6.out.cell (p := ⟨q0, 1, none⟩) hq1).trans E1.out, (HBW6.out.cell (p := ⟨q0, 2, none⟩) hq1).trans E2.out, (HBW6.out.cell (p := ⟨q0, 3, none⟩) hq1).trans E3.out⟩ (fun hHeld => ?_)
      clear hK K
      try simp only [Act.put, List.setIfInBounds_toArray, List.set_cons_zero, List.set_cons_succ]
      refine h_yes 8 37 (v := .string ((((⟨#[102, 117, 101, 108, 32]⟩ : ByteArray) ++ sf) ++ (⟨#[10, 99, 101, 108, 108, 115, 32]⟩ : ByteArray)) ++ sc)) rfl rfl (by kernel_rfl) (by kernel_rfl) (by kernel_rfl) (fun _ _ _ h => h) (by kernel_rfl) (by assumption) (fun w _ => hy_cat rfl rfl rfl (by obtain ⟨z1, z2, z3, z4, z5, k1, k2, k3, k4⟩ := Hz.out; have := hzf; have := hzc; have := hze; omega)) ?_
      try simp only [Act.put, List.setIfInBounds_toArray, List.set_cons_zero, List.set_cons_succ]
      refine h_yes 9 38 (v := .string (((((⟨#[102, 117, 101, 108, 32]⟩ : ByteArray) ++ sf) ++ (⟨#[10, 99, 101, 108, 108, 115, 32]⟩ : ByteArray)) ++ sc) ++ (⟨#[10, 101, 118, 101, 114, 121, 32]⟩ : ByteArray))) rfl rfl (by kernel_rfl) (by kernel_rfl) (by kernel_rfl) (fun _ _ _ h => h) (by kernel_rfl) (by assumption) (fun w _ => hy_cat rfl rfl rfl (by obtain ⟨z1, z2, z3, z4, z5, k1, k2, k3, k4⟩ := Hz.out; have := hzf; have := hzc; have := hze; omega)) ?_
      try simp only [Act.put, List.setIfInBounds_toArray, List.set_cons_zero, List.set_cons_succ]
      refine h_step 12 rfl (by kernel_rfl) (by kernel_rfl) (fun K hK => ?_)
      go_simp
      refine (HIe.out W6 (laid_bb HL2.out HBW6.out (by omega))).mono ?_
      rintro e_ W7 ⟨rfl, hiW7⟩
      have hsW6 := HBW6.out.size
      have HBW7 := Lib.hid (below_tw HBW6.out hiW7)
      clear hiW7
      refine hK.out _ _ ⟨HBW7.out, (HBW7.out.cell (p := ⟨q0, 1, none⟩) hq1).trans E1.out, (HBW7.out.cell (p := ⟨q0, 2, none⟩) hq1).trans E2.out, (HBW7.out.cell (p := ⟨q0, 3, none⟩) hq1).trans E3.out⟩ (fun hHeld => ?_)
      clear hK K
      try simp only [Act.put, List.setIfInBounds_toArray, List.set_cons_zero, List.set_cons_succ]
      refine h_yes 13 42 (v := .string ((((((⟨#[102, 117, 101, 108, 32]⟩ : ByteArray) ++ sf) ++ (⟨#[10, 99, 101, 108, 108, 115, 32]⟩ : ByteArray)) ++ sc) ++ (⟨#[10, 101, 118, 101, 114, 121, 32]⟩ : ByteArray)) ++ se)) rfl rfl (by kernel_rfl) (by kernel_rfl) (by kernel_rfl) (fun _ _ _ h => h) (by kernel_rfl) (by assumption) (fun w _ => hy_cat rfl rfl rfl (by obtain ⟨z1, z2, z3, z4, z5, k1, k2, k3, k4⟩ := Hz.out; have := hzf; have := hzc; have := hze; omega)) ?_
      try simp only [Act.put, List.setIfInBounds_toArray, List.set_cons_zero, List.set_cons_succ]
      refine h_yes 14 43 (v := .string (((((((⟨#[102, 117, 101, 108, 32]⟩ : ByteArray) ++ sf) ++ (⟨#[10, 99, 101, 108, 108, 115, 32]⟩ : ByteArray)) ++ sc) ++ (⟨#[10, 101, 118, 101, 114, 121, 32]⟩ : ByteArray)) ++ se) ++ (⟨#[10, 112, 105, 99, 107, 115]⟩ : ByteArray))) rfl rfl (by kernel_rfl) (by kernel_rfl) (by kernel_rfl) (fun _ _ _ h => h) (by kernel_rfl) (by assumption) (fun w _ => hy_cat rfl rfl rfl (by obtain ⟨z1, z2, z3, z4, z5, k1, k2, k3, k4⟩ := Hz.out; have := hzf; have := hzc; have := hze; omega)) ?_
      try simp only [Act.put, List.setIfInBounds_toArray, List.set_cons_zero, List.set_cons_succ]
      refine h_yes 15 6 (v := ?_) rfl rfl (by kernel_rfl) (by kernel_rfl) (by kernel_rfl) (fun _ _ _ h => h) (by kernel_rfl) (by assumption) ?_ ?_
      rotate_left 1
      · (intro w hSw; (try dsimp only at hSw); obtain ⟨hS1, hS2, hS3, hS4⟩ := hSw; go_simp; try with_reducible rfl)
      try simp only [Act.put, List.setIfInBounds_toArray, List.set_cons_zero, List.set_cons_succ]
      refine wpAnyH_done (by kernel_rfl) ?_ _
      rw [HHD.out]
      have hW27 := HBW7.out
      have hs7 := hW27.size
      have HL7 := Lib.hid (laid_bb HL2.out hW27 (by omega))
      have HB7 := Lib.hid (below_tw (B := w.heap.size) HB1.out (show Below W2.heap.size W2 W7 by rw [hbb]; exact hW27) (by have := Hq0.out; omega))
      have E0' : Hid (W7.cell? ⟨q0, 0, none⟩ = some (.slice p0 n cap)) := Lib.hid ((hW27.cell (p := ⟨q0, 0, none⟩) hq1).trans E0.out)
      have HV7 : Hid (ps = [] ∨ ∃ g o, p0 = some ⟨g, o, none⟩ ∧ ∀ (i : Nat) (v : Nat), ps[i]? = some v → W7.cell? ⟨g, o + i, none⟩ = some (.int .u16 (v : Int))) := Lib.hid (HVV.out.imp id fun ⟨g, o, h3, h4⟩ => ⟨g, o, h3, fun i v hv => (hW27.cell (p := ⟨g, o + i, none⟩) (by rw [← hbb]; exact Lib.lt_of_cell (h4 i v hv))).trans (h4 i v hv)⟩)
      clear HBW7 HBW6 HBW5 HBW4 hsW4 hsW5 hsW6 E0 E1 E2 E3 HVV HIf HIc HIe Hz HHD hzf hzc hze hW27 HL2 HL1 HLd hHeld
      have hhl := headT_len f c e hf hcc he
      go_wp2_with fail
      have hbn := bldAt_new W7
      obtain ⟨W8, hW8⟩ : ∃ W8, W8 = W7.alloc (.cells #[.pointer none, .slice none 0 0] 65) := ⟨_, rfl⟩
      rw [← hW8] at hbn ⊢
      have hB8 : Below W7.heap.size W7 W8 := by rw [hW8]; exact (Below.refl _ _).alloc (Nat.le_refl _) _
      have hz8 : W8.heap.size = W7.heap.size + 1 := by rw [hW8]; simp
      clear hW8
      obtain ⟨b8, hb8⟩ : ∃ b8, W7.heap.size = b8 := ⟨_, rfl⟩
      rw [hb8] at hbn hz8 hs7 hB8 ⊢
      have hq8 : q0 < b8 := by omega
      have HWS := Lib.hid (wstr_c b8 [] (headS f c e) W8 hbn (by rw [List.length_nil, Nat.zero_add, show (headS f c e).size = (headT f c e).length from by rw [← bl_len, bl_head]]; omega) (by omega))
      refine HWS.out.mono ?_
      rintro e_ W9 ⟨rfl, hbl9, hB9⟩
      rw [List.nil_append, bl_head] at hbl9
      have hB79 := hB8.trans hB9
      have hs9 := hB79.size
      have c0 : W9.cell? ⟨q0, 0, none⟩ = some (.slice p0 n cap) := (hB79.cell (p := ⟨q0, 0, none⟩) hq8).trans E0'.out
      have HL9 := Lib.hid (laid_bb HL7.out hB79 (by omega))
      have HB9 := Lib.hid (HB7.out.trans (hB79.mono (by have := Hq0.out; omega)))
      have HV9 : Hid (ps = [] ∨ ∃ g o, p0 = some ⟨g, o, none⟩ ∧ ∀ (i : Nat) (v : Nat), ps[i]? = some v → W9.cell? ⟨g, o + i, none⟩ = some (.int .u16 (v : Int)) ∧ g < b8) := Lib.hid (HV7.out.imp id fun ⟨g, o, h3, h4⟩ => ⟨g, o, h3, fun i v hv => ⟨(hB79.cell (p := ⟨g, o + i, none⟩) (by rw [← hb8]; exact Lib.lt_of_cell (h4 i v hv))).trans (h4 i v hv), by rw [← hb8]; exact Lib.lt_of_cell (h4 i v hv)⟩⟩)
      have HBL9 := Lib.hid hbl9
      clear hbl9 hB79 hB9 hB8 HWS HV7 E0' hbn HL7 HB7
      go_wp2_with fail
      go_loopw [49] (fun i wr => ∃ k : Nat, i = .int .i64 k ∧ k ≤ n ∧ Hid (BldAt b8 wr (headT f c e ++ picksT (ps.take k))) ∧ Hid ((headT f c e ++ picksT (ps.take k)).length ≤ 65536) ∧ Hid (Below b8 W9 wr)) (fun i _ => n - (intOf i).toNat)
      case atStart => exact ⟨0, rfl, by omega, Lib.hid (by simpa [picksT] using HBL9.out), Lib.hid (by simp [picksT]; omega), Lib.hid (Below.refl _ _)⟩
      case round =>
        obtain ⟨k, rfl, hk, hbl, hlen, hBr⟩ := hrel
        by_cases hlt : k < n
        · have hlti : (k : Int) < (n : Int) := by omega
          obtain ⟨v, hv⟩ : ∃ v, ps[k]? = some v := ⟨_, List.getElem?_eq_getElem (by rw [HN.out]; exact hlt)⟩
          have hvl := HP.out v (List.mem_of_getElem? hv)
          obtain ⟨g1, o1, rfl, hg1⟩ := HV9.out.resolve_left (fun e => by have := HN.out; rw [e] at this; simp at this; omega)
          obtain ⟨hc1, hg8⟩ := hg1 k v hv
          have q1 : wr.cell? ⟨g1, o1 + k, none⟩ = some (.int .u16 (v : Int)) := (hBr.out.cell (p := ⟨g1, o1 + k, none⟩) hg8).trans hc1
          have hwv : IntKind.i64.wrap (v : Int) = (v : Int) := by rw [IntKind.wrap_i64]; omega
          obtain ⟨sv, hsv⟩ : ∃ s : ByteArray, s = ⟨(Lib.decDigits v).toArray⟩ := ⟨_, rfl⟩
          have hzv : sv.size ≤ 20 := by rw [hsv]; have := dec_len v (by omega); simpa [ByteArray.size] using this
          have hLr := laid_bb HL9.out hBr.out (by omega)
          have HI := Lib.hid (itoaN_c v (by omega) wr hLr)
          rw [← hsv] at HI
          have hbl1 : bl ((⟨#[32]⟩ : ByteArray) ++ sv) = 32 :: Lib.decDigits v := by rw [hsv]; simp [bl]
          have hz32 : ((⟨#[32]⟩ : ByteArray) ++ sv).size ≤ 21 := cat_le (m := 1) (n := 20) (by decide) hzv
          have HX := Lib.hid (picksT_next ps k v hv)
          have Hz := Lib.hid hz32
          have Hb := Lib.hid hbl1
          have Hv := Lib.hid hv
          have hadd : ¬ (9223372036854775807 < 1 + sv.size) := by omega
          have hszr := hBr.out.size
          clear hv hsv hbl1 hz32 hg1 hc1 hLr hvl
          go_wp2_with (go_at_call 22; refine HI.out.mono ?_)
          rintro e_ Wa ⟨rfl, hBa⟩
          have hBLa := bldAt_below hbl.out hBa
          have hB9a := hBr.out.trans (hBa.mono (by omega))
          have hsza := hB9a.size
          obtain ⟨sp, hsp⟩ : ∃ s : ByteArray, s = (⟨#[32]⟩ : ByteArray) ++ sv := ⟨_, rfl⟩
          have HWS := Lib.hid (wstr_c b8 _ ((⟨#[32]⟩ : ByteArray) ++ sv) Wa hBLa (by have := hlen.out; have := Hz.out; omega) (by omega))
          have HB9a := Lib.hid hB9a
          clear hBa hBLa hB9a
          go_wp2_with (go_at_call 23; refine HWS.out.mono ?_)
          rintro e_ Wb ⟨rfl, hBLb, hBb⟩
          rw [Hb.out, List.append_assoc, ← HX.out] at hBLb
          have HB9b := Lib.hid (HB9a.out.trans hBb)
          have HBLb := Lib.hid hBLb
          obtain ⟨N, hN⟩ : ∃ N, (headT f c e ++ picksT (ps.take (k + 1))).length = N := ⟨_, rfl⟩
          have HLEN : Hid (Calls Tryd.prog 24 #[.pointer (some ⟨b8, 0, none⟩)] Wb fun e w' => e = .returned (.int .i64 (N : Int)) ∧ w' = Wb) := Lib.hid (by have := Tryd.Builder_Len b8 b8 _ Wb hBLb; rw [Lib.byteCells_length, hN] at this; exact this)
          have hN1 : N ≤ 65557 := by
            rw [← hN, HX.out, ← List.append_assoc, List.length_append]
            have h1 := hlen.out
            have h2 := Hz.out
            rw [← bl_len, Hb.out] at h2
            simp only [List.length_cons] at h2 ⊢
            omega
          have HNN := Lib.hid hN
          clear hBb hBLb hN HWS HI
          by_cases hgt : 65536 < N
          · have hgti : (65536 : Int) < (N : Int) := by omega
            have hts : textS (f : Int) (c : Int) (e : Int) ps = ([], 6) := textS_long f c e ps hf hcc he (by
              rw [fullT_len]
              have h1 := picksT_take ps (k + 1)
              have h2 := HNN.out
              rw [List.length_append] at h2
              omega)
            go_wp2_with (go_at_call 24; refine HLEN.out.mono ?_; rintro e_ w' ⟨rfl, rfl⟩)
            go_ret2
            exact ⟨by first | rfl | (rw [hts]; rfl), HB9.out.trans (HB9b.out.mono (by have := Hq0.out; omega))⟩
          · have hgti : ¬ (65536 : Int) < (N : Int) := by omega
            have hgti2 : (N : Int) ≤ (65536 : Int) := by omega
            go_wp2_with (go_at_call 24; refine HLEN.out.mono ?_; rintro e_ w' ⟨rfl, rfl⟩)
            exact ⟨⟨k + 1, by go_num, by omega, HBLb, Lib.hid (by rw [HNN.out]; omega), HB9b⟩, by simp [intOf]; omega⟩
        · obtain rfl : k = n := by omega
          have htk : ps.take k = ps := List.take_of_length_le (by rw [HN.out]; exact Nat.le_refl _)
          rw [htk] at hbl hlen
          have hszr := hBr.out.size
          have HWS := Lib.hid (wstr_c b8 _ (⟨#[10]⟩ : ByteArray) wr hbl.out (by have := hlen.out; have : (⟨#[10]⟩ : ByteArray).size = 1 := (by decide); omega) (by omega))
          clear htk
          go_wp2_with (go_at_call 23; refine HWS.out.mono ?_)
          rintro e_ Wb ⟨rfl, hBLb, hBb⟩
          rw [show bl (⟨#[10]⟩ : ByteArray) = [10] by decide] at hBLb
          have HB9b := Lib.hid (hBr.out.trans hBb)
          have hBLb2 : BldAt b8 Wb (fullT f c e ps) := hBLb
          have HBLb := Lib.hid hBLb2
          obtain ⟨N, hN⟩ : ∃ N, (fullT f c e ps).length = N := ⟨_, rfl⟩
          have HLEN : Hid (Calls Tryd.prog 24 #[.pointer (some ⟨b8, 0, none⟩)] Wb fun e w' => e = .returned (.int .i64 (N : Int)) ∧ w' = Wb) := Lib.hid (by have := Tryd.Builder_Len b8 b8 _ Wb hBLb2; rw [Lib.byteCells_length, hN] at this; exact this)
          have HNN := Lib.hid hN
          have hszb := HB9b.out.size
          have HSTR := Lib.hid (Tryd.Builder_String_any b8 b8 _ Wb hBLb2 (by omega))
          clear hBb hBLb hBLb2 hN HWS
          by_cases hgt : 65536 < N
          · have hgti : (65536 : Int) < (N : Int) := by omega
            have hts : textS (f : Int) (c : Int) (e : Int) ps = ([], 6) := textS_long f c e ps hf hcc he (by rw [HNN.out]; omega)
            go_wp2_with (go_at_call 24; refine HLEN.out.mono ?_; rintro e_ w' ⟨rfl, rfl⟩)
            go_ret2
            exact ⟨by first | rfl | (rw [hts]; rfl), HB9.out.trans (HB9b.out.mono (by have := Hq0.out; omega))⟩
          · have hgti : ¬ (65536 : Int) < (N : Int) := by omega
            have hgti2 : (N : Int) ≤ (65536 : Int) := by omega
            have hts : textS (f : Int) (c : Int) (e : Int) ps = (fullT f c e ps, 0) := textS_fit f c e ps hf hcc he (by rw [HNN.out]; omega)
            have Hts := Lib.hid hts
            clear hts
            go_wp2_with (first | (go_at_call 24; refine HLEN.out.mono ?_; rintro e_ w' ⟨rfl, rfl⟩) | (go_at_call 25; refine (HSTR.out).mono ?_; rintro e_ Wc ⟨rfl, hBc⟩))
            go_ret2
            exact ⟨by rw [Hts.out]; rfl, HB9.out.trans ((HB9b.out.trans hBc).mono (by have := Hq0.out; omega))⟩
end Go.Proofs.YthfnjphmodcnoaaDoor
