/- The walk of the reference's ScriptText. -/
import Derived.Test.YthfnjphmodcnoaaDoorDb
import Derived.Test.YthfnjphmodcnoaaDoorDx
namespace Go.Proofs.YthfnjphmodcnoaaDoor
open Go.RowKit
set_option linter.unusedSimpArgs false
set_option linter.unusedVariables false

theorem addb (a : Addr) (i : Nat) : (a.add i).block = a.block := by unfold Addr.add; split <;> rfl
set_option maxRecDepth 20000 in
set_option maxHeartbeats 4000000 in
theorem rtext_c (v : Value) (F C E : Int) (ps : List Nat) (w : World) (hv : U16a w v ps) (hl : ∀ p ∈ ps, p ≤ 65535) (hn : ps.length ≤ 9223372036854775807) :
    Calls Tryd.prog 12 #[.agg #[v, .int .i64 F, .int .i64 C, .int .i64 E]] w fun e w' => e = .returned (.tuple #[.string ⟨(textS F C E ps).1.toArray⟩, .int .i64 (textS F C E ps).2]) ∧ Below w.heap.size w w' := by
  obtain ⟨n, hN⟩ : ∃ n, ps.length = n := ⟨_, rfl⟩
  obtain ⟨p0, cap, rfl, hv⟩ := hv
  rw [hN] at hn ⊢
  have HV := Lib.hid hv
  have HN := Lib.hid hN
  have HP := Lib.hid hl
  clear hv hN hl
  by_cases h : F < 0
  · have hts : textS F C E ps = ([], 1) := textS_bad F C E ps (by rw [inR_not (.inl h)]; simp)
    go_enter Tryd.func12, Tryd.ntmps12
    go_wp2
    go_ret2
    exact ⟨by first | rfl | (rw [hts]; rfl), (Below.refl _ _).alloc (Nat.le_refl _) _⟩
  have F0 : 0 ≤ F := by omega
  clear h
  by_cases h : 2147483647 < F
  · have hts : textS F C E ps = ([], 1) := textS_bad F C E ps (by rw [inR_not (.inr h)]; simp)
    go_enter Tryd.func12, Tryd.ntmps12
    go_wp2
    go_ret2
    exact ⟨by first | rfl | (rw [hts]; rfl), (Below.refl _ _).alloc (Nat.le_refl _) _⟩
  have F1 : F ≤ 2147483647 := by omega
  clear h
  by_cases h : C < 0
  · have hts : textS F C E ps = ([], 1) := textS_bad F C E ps (by rw [inR_not (.inl h)]; simp)
    go_enter Tryd.func12, Tryd.ntmps12
    go_wp2
    go_ret2
    exact ⟨by first | rfl | (rw [hts]; rfl), (Below.refl _ _).alloc (Nat.le_refl _) _⟩
  have C0 : 0 ≤ C := by omega
  clear h
  by_cases h : 2147483647 < C
  · have hts : textS F C E ps = ([], 1) := textS_bad F C E ps (by rw [inR_not (.inr h)]; simp)
    go_enter Tryd.func12, Tryd.ntmps12
    go_wp2
    go_ret2
    exact ⟨by first | rfl | (rw [hts]; rfl), (Below.refl _ _).alloc (Nat.le_refl _) _⟩
  have C1 : C ≤ 2147483647 := by omega
  clear h
  by_cases h : E < 0
  · have hts : textS F C E ps = ([], 1) := textS_bad F C E ps (by rw [inR_not (.inl h)]; simp)
    go_enter Tryd.func12, Tryd.ntmps12
    go_wp2
    go_ret2
    exact ⟨by first | rfl | (rw [hts]; rfl), (Below.refl _ _).alloc (Nat.le_refl _) _⟩
  have E0 : 0 ≤ E := by omega
  clear h
  by_cases h : 2147483647 < E
  · have hts : textS F C E ps = ([], 1) := textS_bad F C E ps (by rw [inR_not (.inr h)]; simp)
    go_enter Tryd.func12, Tryd.ntmps12
    go_wp2
    go_ret2
    exact ⟨by first | rfl | (rw [hts]; rfl), (Below.refl _ _).alloc (Nat.le_refl _) _⟩
  have E1 : E ≤ 2147483647 := by omega
  clear h
  obtain ⟨f, rfl⟩ : ∃ m : Nat, F = (m : Int) := ⟨F.toNat, by omega⟩
  obtain ⟨c, rfl⟩ : ∃ m : Nat, C = (m : Int) := ⟨C.toNat, by omega⟩
  obtain ⟨e, rfl⟩ : ∃ m : Nat, E = (m : Int) := ⟨E.toNat, by omega⟩
  have hf : f ≤ 2147483647 := by omega
  have hcc : c ≤ 2147483647 := by omega
  have he : e ≤ 2147483647 := by omega
  by_cases hbig : 40000 < n
  · have hbi : (40000 : Int) < (n : Int) := by omega
    have hts : textS (f : Int) (c : Int) (e : Int) ps = ([], 6) := textS_long f c e ps hf hcc he (by
      rw [fullT_len]
      have := picksT_low ps
      rw [HN.out] at this
      omega)
    go_enter Tryd.func12, Tryd.ntmps12
    go_wp2
    go_ret2
    exact ⟨by first | rfl | (rw [hts]; rfl), (Below.refl _ _).alloc (Nat.le_refl _) _⟩
  have hbi : (n : Int) ≤ (40000 : Int) := by omega
  clear F0 F1 C0 C1 E0 E1
  have lf : decide ((f : Int) < 0) = false := by rw [decide_eq_false_iff_not]; omega
  have gf : decide ((2147483647 : Int) < (f : Int)) = false := by rw [decide_eq_false_iff_not]; omega
  have lc : decide ((c : Int) < 0) = false := by rw [decide_eq_false_iff_not]; omega
  have gc : decide ((2147483647 : Int) < (c : Int)) = false := by rw [decide_eq_false_iff_not]; omega
  have le : decide ((e : Int) < 0) = false := by rw [decide_eq_false_iff_not]; omega
  have ge : decide ((2147483647 : Int) < (e : Int)) = false := by rw [decide_eq_false_iff_not]; omega
  have hf1 : (f : Int) ≤ 2147483647 := by omega
  have hc1 : (c : Int) ≤ 2147483647 := by omega
  have he1 : (e : Int) ≤ 2147483647 := by omega
  go_enter Tryd.func12, Tryd.ntmps12
  go_wp2_with fail
  obtain ⟨W2, hW2⟩ : ∃ W2, W2 = w.alloc (.cells #[.slice p0 n cap, .int .i64 (f : Int), .int .i64 (c : Int), .int .i64 (e : Int)] 27) := ⟨_, rfl⟩
  rw [← hW2]
  obtain ⟨q0, hq0⟩ : ∃ q0, w.heap.size = q0 := ⟨_, rfl⟩
  have hB2 : Below w.heap.size w W2 := by rw [hW2]; exact (Below.refl _ _).alloc (Nat.le_refl _) _
  have hz2 : W2.heap.size = q0 + 1 := by rw [hW2, ← hq0]; simp
  have hd' : W2.cell? ⟨q0, 0, none⟩ = some (.slice p0 n cap) ∧ W2.cell? ⟨q0, 1, none⟩ = some (.int .i64 (f : Int)) ∧ W2.cell? ⟨q0, 2, none⟩ = some (.int .i64 (c : Int)) ∧ W2.cell? ⟨q0, 3, none⟩ = some (.int .i64 (e : Int)) := by
    rw [hW2, ← hq0]
    refine ⟨?_, ?_, ?_, ?_⟩ <;> (rw [World.cell?_alloc_new]; rfl)
  obtain ⟨d0, d1, d2, d3⟩ := hd'
  have HV2 : Hid (ps = [] ∨ ∃ a : Addr, p0 = some a ∧ ∀ (i : Nat) (v : Nat), ps[i]? = some v → W2.cell? (a.add i) = some (.int .u16 (v : Int)) ∧ a.block < q0) := Lib.hid (HV.out.imp id fun ⟨a, h3, h4⟩ => ⟨a, h3, fun i v hv => by
    have hlt : (a.add i).block < w.heap.size := Lib.lt_of_cell (h4 i v hv)
    have hb : (a.add i).block = a.block := by unfold Addr.add; split <;> rfl
    exact ⟨(hB2.cell (p := a.add i) hlt).trans (h4 i v hv), by rw [← hq0, ← hb]; exact hlt⟩⟩)
  have HB2 := Lib.hid hB2
  rw [hq0] at ⊢
  have Hq0 := Lib.hid hq0
  have E0 := Lib.hid d0
  have E1 := Lib.hid d1
  have E2 := Lib.hid d2
  have E3 := Lib.hid d3
  clear d0 d1 d2 d3 hW2 hB2 HV hq0
  obtain ⟨bb, hbb⟩ : ∃ bb, W2.heap.size = bb := ⟨_, rfl⟩
  have hq1 : q0 < bb := by omega
  obtain ⟨sf, hsf⟩ : ∃ s : ByteArray, s = ⟨(Lib.decDigits f).toArray⟩ := ⟨_, rfl⟩
  obtain ⟨sc, hsc⟩ : ∃ s : ByteArray, s = ⟨(Lib.decDigits c).toArray⟩ := ⟨_, rfl⟩
  obtain ⟨se, hse⟩ : ∃ s : ByteArray, s = ⟨(Lib.decDigits e).toArray⟩ := ⟨_, rfl⟩
  have hzf : sf.size ≤ 20 := by rw [hsf]; have := dec_len f (by omega); simpa [ByteArray.size] using this
  have hzc : sc.size ≤ 20 := by rw [hsc]; have := dec_len c (by omega); simpa [ByteArray.size] using this
  have hze : se.size ≤ 20 := by rw [hse]; have := dec_len e (by omega); simpa [ByteArray.size] using this
  have HIf : Hid (∀ W, Calls Tryd.prog 7 #[.int .i64 (f : Int)] W fun e w' => e = .returned (.string sf) ∧ Below W.heap.size W w') := Lib.hid (fun W => by rw [hsf]; exact rdig_c f (by omega) W)
  have HIc : Hid (∀ W, Calls Tryd.prog 7 #[.int .i64 (c : Int)] W fun e w' => e = .returned (.string sc) ∧ Below W.heap.size W w') := Lib.hid (fun W => by rw [hsc]; exact rdig_c c (by omega) W)
  have HIe : Hid (∀ W, Calls Tryd.prog 7 #[.int .i64 (e : Int)] W fun e w' => e = .returned (.string se) ∧ Below W.heap.size W w') := Lib.hid (fun W => by rw [hse]; exact rdig_c e (by omega) W)
  have Hsf := Lib.hid hsf
  have Hsc := Lib.hid hsc
  have Hse := Lib.hid hse
  clear hsf hsc hse
  have hhl := headT_len f c e hf hcc he
  have hHS : (headS f c e).size ≤ 100 := by rw [show (headS f c e).size = (headT f c e).length from by rw [← bl_len, bl_head]]; omega
  have z1 : ((⟨#[102, 117, 101, 108, 32]⟩ : ByteArray) ++ sf).size ≤ 25 := cat_le (m := 5) (n := 20) (by decide) hzf
  have z2 : (((⟨#[102, 117, 101, 108, 32]⟩ : ByteArray) ++ sf) ++ (⟨#[10, 99, 101, 108, 108, 115, 32]⟩ : ByteArray)).size ≤ 32 := cat_le (m := 25) (n := 7) z1 (by decide)
  have z3 : ((((⟨#[102, 117, 101, 108, 32]⟩ : ByteArray) ++ sf) ++ (⟨#[10, 99, 101, 108, 108, 115, 32]⟩ : ByteArray)) ++ sc).size ≤ 52 := cat_le (m := 32) (n := 20) z2 hzc
  have z4 : (((((⟨#[102, 117, 101, 108, 32]⟩ : ByteArray) ++ sf) ++ (⟨#[10, 99, 101, 108, 108, 115, 32]⟩ : ByteArray)) ++ sc) ++ (⟨#[10, 101, 118, 101, 114, 121, 32]⟩ : ByteArray)).size ≤ 59 := cat_le (m := 52) (n := 7) z3 (by decide)
  have z5 : ((((((⟨#[102, 117, 101, 108, 32]⟩ : ByteArray) ++ sf) ++ (⟨#[10, 99, 101, 108, 108, 115, 32]⟩ : ByteArray)) ++ sc) ++ (⟨#[10, 101, 118, 101, 114, 121, 32]⟩ : ByteArray)) ++ se).size ≤ 79 := cat_le (m := 59) (n := 20) z4 hze
  have k1 : (⟨#[102, 117, 101, 108, 32]⟩ : ByteArray).size = 5 := by decide
  have k2 : (⟨#[10, 99, 101, 108, 108, 115, 32]⟩ : ByteArray).size = 7 := by decide
  have k3 : (⟨#[10, 101, 118, 101, 114, 121, 32]⟩ : ByteArray).size = 7 := by decide
  have k4 : (⟨#[10, 112, 105, 99, 107, 115]⟩ : ByteArray).size = 6 := by decide
  have hHD : (((((((⟨#[102, 117, 101, 108, 32]⟩ : ByteArray) ++ sf) ++ (⟨#[10, 99, 101, 108, 108, 115, 32]⟩ : ByteArray)) ++ sc) ++ (⟨#[10, 101, 118, 101, 114, 121, 32]⟩ : ByteArray)) ++ se) ++ (⟨#[10, 112, 105, 99, 107, 115]⟩ : ByteArray)) = headS f c e := head_str f c e _ (by simp [bl, Hsf.out, Hsc.out, Hse.out, headT])
  have Hz := Lib.hid (And.intro z1 (And.intro z2 (And.intro z3 (And.intro z4 (And.intro z5 (And.intro k1 (And.intro k2 (And.intro k3 k4))))))))
  have HHD := Lib.hid hHD
  clear z1 z2 z3 z4 z5 k1 k2 k3 k4 hHD
  refine wp_region_held_drew (S := (fun w' => Below bb W2 w' ∧ w'.cell? ⟨q0, 1, none⟩ = some (.int .i64 (f : Int)) ∧ w'.cell? ⟨q0, 2, none⟩ = some (.int .i64 (c : Int)) ∧ w'.cell? ⟨q0, 3, none⟩ = some (.int .i64 (e : Int)))) (by kernel_rfl) ?_ (fun hHeld => ?_)
  · exact ⟨(Below.refl _ _).drew, E1.out, E2.out, E3.out⟩
  have HBW4 := Lib.hid (show Below bb W2 W2.drew from (Below.refl _ _).drew)
  obtain ⟨W4, hW4⟩ : ∃ W4, W4 = W2.drew := ⟨_, rfl⟩
  rw [← hW4] at HBW4 hHeld ⊢
  clear hW4
  refine h_yes 0 38 (v := ?_) rfl rfl (by kernel_rfl) (by kernel_rfl) (by kernel_rfl) (fun _ _ _ h => h) (by kernel_rfl) (by assumption) ?_ ?_
  rotate_left 1
  · (intro w hSw; (try dsimp only at hSw); obtain ⟨hS1, hS2, hS3, hS4⟩ := hSw; go_simp; try with_reducible rfl)
  try simp only [Act.put, List.setIfInBounds_toArray, List.set_cons_zero, List.set_cons_succ]
  refine h_yes 1 39 (v := ?_) rfl rfl (by kernel_rfl) (by kernel_rfl) (by kernel_rfl) (fun _ _ _ h => h) (by kernel_rfl) (by assumption) ?_ ?_
  rotate_left 1
  · (intro w hSw; (try dsimp only at hSw); obtain ⟨hS1, hS2, hS3, hS4⟩ := hSw; go_simp; try with_reducible rfl)
  try simp only [Act.put, List.setIfInBounds_toArray, List.set_cons_zero, List.set_cons_succ]
  refine h_yes 5 43 (v := ?_) rfl rfl (by kernel_rfl) (by kernel_rfl) (by kernel_rfl) (fun _ _ _ h => h) (by kernel_rfl) (by assumption) ?_ ?_
  rotate_left 1
  · (intro w hSw; (try dsimp only at hSw); obtain ⟨hS1, hS2, hS3, hS4⟩ := hSw; go_simp; try with_reducible rfl)
  try simp only [Act.put, List.setIfInBounds_toArray, List.set_cons_zero, List.set_cons_succ]
  refine h_yes 6 44 (v := ?_) rfl rfl (by kernel_rfl) (by kernel_rfl) (by kernel_rfl) (fun _ _ _ h => h) (by kernel_rfl) (by assumption) ?_ ?_
  rotate_left 1
  · (intro w hSw; (try dsimp only at hSw); obtain ⟨hS1, hS2, hS3, hS4⟩ := hSw; go_simp; try with_reducible rfl)
  try simp only [Act.put, List.setIfInBounds_toArray, List.set_cons_zero, List.set_cons_succ]
  refine h_yes 10 48 (v := ?_) rfl rfl (by kernel_rfl) (by kernel_rfl) (by kernel_rfl) (fun _ _ _ h => h) (by kernel_rfl) (by assumption) ?_ ?_
  rotate_left 1
  · (intro w hSw; (try dsimp only at hSw); obtain ⟨hS1, hS2, hS3, hS4⟩ := hSw; go_simp; try with_reducible rfl)
  try simp only [Act.put, List.setIfInBounds_toArray, List.set_cons_zero, List.set_cons_succ]
  refine h_yes 11 49 (v := ?_) rfl rfl (by kernel_rfl) (by kernel_rfl) (by kernel_rfl) (fun _ _ _ h => h) (by kernel_rfl) (by assumption) ?_ ?_
  rotate_left 1
  · (intro w hSw; (try dsimp only at hSw); obtain ⟨hS1, hS2, hS3, hS4⟩ := hSw; go_simp; try with_reducible rfl)
  try simp only [Act.put, List.setIfInBounds_toArray, List.set_cons_zero, List.set_cons_succ]
  refine h_step 2 rfl (by kernel_rfl) (by kernel_rfl) (fun K hK => ?_)
  go_simp
  refine (HIf.out W4).mono ?_
  rintro e_ W5 ⟨rfl, hiW5⟩
  have hsW4 := HBW4.out.size
  have HBW5 := Lib.hid (below_tw HBW4.out hiW5)
  clear hiW5
  refine hK.out _ _ ⟨HBW5.out, (HBW5.out.cell (p := ⟨q0, 1, none⟩) hq1).trans E1.out, (HBW5.out.cell (p := ⟨q0, 2, none⟩) hq1).trans E2.out, (HBW5.out.cell (p := ⟨q0, 3, none⟩) hq1).trans E3.out⟩ (fun hHeld => ?_)
  clear hK K
  try simp only [Act.put, List.setIfInBounds_toArray, List.set_cons_zero, List.set_cons_succ]
  refine h_yes 3 41 (v := .string ((⟨#[102, 117, 101, 108, 32]⟩ : ByteArray) ++ sf)) rfl rfl (by kernel_rfl) (by kernel_rfl) (by kernel_rfl) (fun _ _ _ h => h) (by kernel_rfl) (by assumption) (fun w _ => hy_cat rfl rfl rfl (by obtain ⟨z1, z2, z3, z4, z5, k1, k2, k3, k4⟩ := Hz.out; have := hzf; have := hzc; have := hze; omega)) ?_
  try simp only [Act.put, List.setIfInBounds_toArray, List.set_cons_zero, List.set_cons_succ]
  refine h_yes 4 42 (v := .string (((⟨#[102, 117, 101, 108, 32]⟩ : ByteArray) ++ sf) ++ (⟨#[10, 99, 101, 108, 108, 115, 32]⟩ : ByteArray))) rfl rfl (by kernel_rfl) (by kernel_rfl) (by kernel_rfl) (fun _ _ _ h => h) (by kernel_rfl) (by assumption) (fun w _ => hy_cat rfl rfl rfl (by obtain ⟨z1, z2, z3, z4, z5, k1, k2, k3, k4⟩ := Hz.out; have := hzf; have := hzc; have := hze; omega)) ?_
  try simp only [Act.put, List.setIfInBounds_toArray, List.set_cons_zero, List.set_cons_succ]
  refine h_step 7 rfl (by kernel_rfl) (by kernel_rfl) (fun K hK => ?_)
  go_simp
  refine (HIc.out W5).mono ?_
  rintro e_ W6 ⟨rfl, hiW6⟩
  have hsW5 := HBW5.out.size
  have HBW6 := Lib.hid (below_tw HBW5.out hiW6)
  clear hiW6
  refine hK.out _ _ ⟨HBW6.out, (HBW6.out.cell (p := ⟨q0, 1, none⟩) hq1).trans E1.out, (HBW6.out.cell (p := ⟨q0, 2, none⟩) hq1).trans E2.out, (HBW6.out.cell (p := ⟨q0, 3, none⟩) hq1).trans E3.out⟩ (fun hHeld => ?_)
  clear hK K
  try simp only [Act.put, List.setIfInBounds_toArray, List.set_cons_zero, List.set_cons_succ]
  refine h_yes 8 46 (v := .string ((((⟨#[102, 117, 101, 108, 32]⟩ : ByteArray) ++ sf) ++ (⟨#[10, 99, 101, 108, 108, 115, 32]⟩ : ByteArray)) ++ sc)) rfl rfl (by kernel_rfl) (by kernel_rfl) (by kernel_rfl) (fun _ _ _ h => h) (by kernel_rfl) (by assumption) (fun w _ => hy_cat rfl rfl rfl (by obtain ⟨z1, z2, z3, z4, z5, k1, k2, k3, k4⟩ := Hz.out; have := hzf; have := hzc; have := hze; omega)) ?_
  try simp only [Act.put, List.setIfInBounds_toArray, List.set_cons_zero, List.set_cons_succ]
  refine h_yes 9 47 (v := .string (((((⟨#[102, 117, 101, 108, 32]⟩ : ByteArray) ++ sf) ++ (⟨#[10, 99, 101, 108, 108, 115, 32]⟩ : ByteArray)) ++ sc) ++ (⟨#[10, 101, 118, 101, 114, 121, 32]⟩ : ByteArray))) rfl rfl (by kernel_rfl) (by kernel_rfl) (by kernel_rfl) (fun _ _ _ h => h) (by kernel_rfl) (by assumption) (fun w _ => hy_cat rfl rfl rfl (by obtain ⟨z1, z2, z3, z4, z5, k1, k2, k3, k4⟩ := Hz.out; have := hzf; have := hzc; have := hze; omega)) ?_
  try simp only [Act.put, List.setIfInBounds_toArray, List.set_cons_zero, List.set_cons_succ]
  refine h_step 12 rfl (by kernel_rfl) (by kernel_rfl) (fun K hK => ?_)
  go_simp
  refine (HIe.out W6).mono ?_
  rintro e_ W7 ⟨rfl, hiW7⟩
  have hsW6 := HBW6.out.size
  have HBW7 := Lib.hid (below_tw HBW6.out hiW7)
  clear hiW7
  refine hK.out _ _ ⟨HBW7.out, (HBW7.out.cell (p := ⟨q0, 1, none⟩) hq1).trans E1.out, (HBW7.out.cell (p := ⟨q0, 2, none⟩) hq1).trans E2.out, (HBW7.out.cell (p := ⟨q0, 3, none⟩) hq1).trans E3.out⟩ (fun hHeld => ?_)
  clear hK K
  try simp only [Act.put, List.setIfInBounds_toArray, List.set_cons_zero, List.set_cons_succ]
  refine h_yes 13 51 (v := .string ((((((⟨#[102, 117, 101, 108, 32]⟩ : ByteArray) ++ sf) ++ (⟨#[10, 99, 101, 108, 108, 115, 32]⟩ : ByteArray)) ++ sc) ++ (⟨#[10, 101, 118, 101, 114, 121, 32]⟩ : ByteArray)) ++ se)) rfl rfl (by kernel_rfl) (by kernel_rfl) (by kernel_rfl) (fun _ _ _ h => h) (by kernel_rfl) (by assumption) (fun w _ => hy_cat rfl rfl rfl (by obtain ⟨z1, z2, z3, z4, z5, k1, k2, k3, k4⟩ := Hz.out; have := hzf; have := hzc; have := hze; omega)) ?_
  try simp only [Act.put, List.setIfInBounds_toArray, List.set_cons_zero, List.set_cons_succ]
  refine h_yes 14 52 (v := .string (headS f c e)) rfl rfl (by kernel_rfl) (by kernel_rfl) (by kernel_rfl) (fun _ _ _ h => h) (by kernel_rfl) (by assumption) (fun w _ => by rw [← HHD.out]; exact hy_cat rfl rfl rfl (by obtain ⟨z1, z2, z3, z4, z5, k1, k2, k3, k4⟩ := Hz.out; have := hzf; have := hzc; have := hze; omega)) ?_
  try simp only [Act.put, List.setIfInBounds_toArray, List.set_cons_zero, List.set_cons_succ]
  obtain ⟨hs_, hhs⟩ : ∃ s, headS f c e = s := ⟨_, rfl⟩
  have hbh : bl hs_ = headT f c e := by rw [← hhs]; exact bl_head f c e
  rw [hhs] at hHS ⊢
  have hcv := Lib.run_convert_string_bytes (P := Tryd.prog) W7 9 63 5 hs_ (u := .string) Tryd.underlying9 Tryd.underlying63 Tryd.underlying5
  have hbuf := buf_conv W7 hs_ (by omega)
  rw [hbh] at hbuf
  have hB78 := Lib.bytesWorld_below W7 5 hs_
  obtain ⟨W8, hW8⟩ : ∃ W8, W8 = Lib.bytesWorld W7 5 hs_ := ⟨_, rfl⟩
  rw [← hW8] at hcv hbuf hB78
  obtain ⟨b8, hb8⟩ : ∃ b8, W7.heap.size = b8 := ⟨_, rfl⟩
  have hs7 := HBW7.out.size
  have hz8 := hB78.size
  rw [hb8] at hcv hbuf hB78 hs7 hz8
  have HB8 := Lib.hid (HBW7.out.trans (hB78.mono (by omega)))
  have HBUF := Lib.hid hbuf
  clear hW8 hbuf hB78
  obtain ⟨gc, hgc⟩ : ∃ gc, grownCap W7 hs_.size 0 5 = gc := ⟨_, rfl⟩
  obtain ⟨gs, hgs⟩ : ∃ gs, hs_.size = gs := ⟨_, rfl⟩
  rw [hgc, hgs] at hcv HBUF
  refine h_step 15 rfl (by kernel_rfl) (by kernel_rfl) (fun K hK => ?_)
  go_simp
  refine hK.out _ _ ⟨HB8.out, (HB8.out.cell (p := ⟨q0, 1, none⟩) hq1).trans E1.out, (HB8.out.cell (p := ⟨q0, 2, none⟩) hq1).trans E2.out, (HB8.out.cell (p := ⟨q0, 3, none⟩) hq1).trans E3.out⟩ (fun hHeld => ?_)
  clear hK K
  try simp only [Act.put, List.setIfInBounds_toArray, List.set_cons_zero, List.set_cons_succ]
  refine h_yes 16 4 (v := ?_) rfl rfl (by kernel_rfl) (by kernel_rfl) (by kernel_rfl) (fun _ _ _ h => h) (by kernel_rfl) (by assumption) ?_ ?_
  rotate_left 1
  · (intro w hSw; (try dsimp only at hSw); obtain ⟨hS1, hS2, hS3, hS4⟩ := hSw; go_simp; try with_reducible rfl)
  try simp only [Act.put, List.setIfInBounds_toArray, List.set_cons_zero, List.set_cons_succ]
  refine wpAnyH_done (by kernel_rfl) ?_ _
  have hgl : gs = (headT f c e).length := by rw [← hgs, ← hbh, bl_len]
  rw [hgl] at HBUF ⊢
  have c0 : Hid (W8.cell? ⟨q0, 0, none⟩ = some (.slice p0 n cap)) := Lib.hid ((HB8.out.cell (p := ⟨q0, 0, none⟩) hq1).trans E0.out)
  have HV8 : Hid (ps = [] ∨ ∃ a : Addr, p0 = some a ∧ ∀ (i : Nat) (v : Nat), ps[i]? = some v → W8.cell? (a.add i) = some (.int .u16 (v : Int)) ∧ a.block < q0) := Lib.hid (HV2.out.imp id fun ⟨a, h3, h4⟩ => ⟨a, h3, fun i v hv => ⟨(HB8.out.cell (p := a.add i) (by have h5 := (h4 i v hv).2; rw [addb]; omega)).trans (h4 i v hv).1, (h4 i v hv).2⟩⟩)
  clear hHeld hhs hbh hcv hgc hgs hgl HBW4 HBW5 HBW6 HBW7 hsW4 hsW5 hsW6 HIf HIc HIe Hsf Hsc Hse Hz HHD hzf hzc hze E0 E1 E2 E3 HV2 hHS
  obtain ⟨i0, hi, hz0, hz1, hz2⟩ := info_parts infoU8
  go_wp2_with fail
  go_loopw [4, 5] (fun v i wr => ∃ k : Nat, i = .int .i64 k ∧ k ≤ n ∧ Hid (Buf b8 wr v (headT f c e ++ picksT (ps.take k))) ∧ Hid (Below b8 W8 wr) ∧ (∃ a l c, v = .slice a l c)) (fun _ i _ => n - (intOf i).toNat)
  case atStart => exact ⟨0, rfl, by omega, Lib.hid (by simpa [picksT] using HBUF.out), Lib.hid (Below.refl _ _), ⟨_, _, _, rfl⟩⟩
  case round =>
    obtain ⟨k, rfl, hk, hbl, hBr, ⟨va, vl, vc, rfl⟩⟩ := hrel
    have c0r : wr.cell? ⟨q0, 0, none⟩ = some (.slice p0 n cap) := (hBr.out.cell (p := ⟨q0, 0, none⟩) (by show q0 < b8; omega)).trans c0.out
    have hszr := hBr.out.size
    by_cases hlt : k < n
    · have hlti : (k : Int) < (n : Int) := by omega
      obtain ⟨v, hv⟩ : ∃ v, ps[k]? = some v := ⟨_, List.getElem?_eq_getElem (by rw [HN.out]; exact hlt)⟩
      have hvl := HP.out v (List.mem_of_getElem? hv)
      obtain ⟨a1, rfl, hg1⟩ := HV8.out.resolve_left (fun e => by have := HN.out; rw [e] at this; simp at this; omega)
      obtain ⟨hc1, hg8⟩ := hg1 k v hv
      have q1 : wr.cell? (a1.add k) = some (.int .u16 (v : Int)) := (hBr.out.cell (p := a1.add k) (by rw [addb]; omega)).trans hc1
      have hwv : IntKind.i64.wrap (v : Int) = (v : Int) := by rw [IntKind.wrap_i64]; omega
      obtain ⟨sv, hsv⟩ : ∃ s : ByteArray, s = ⟨(Lib.decDigits v).toArray⟩ := ⟨_, rfl⟩
      have hzv : sv.size ≤ 20 := by rw [hsv]; have := dec_len v (by omega); simpa [ByteArray.size] using this
      have HI := Lib.hid (rdig_c v (by omega) wr)
      rw [← hsv] at HI
      have hbl1 : bl ((⟨#[32]⟩ : ByteArray) ++ sv) = 32 :: Lib.decDigits v := by rw [hsv]; simp [bl]
      have hz32 : ((⟨#[32]⟩ : ByteArray) ++ sv).size ≤ 21 := cat_le (m := 1) (n := 20) (by decide) hzv
      have HX := Lib.hid (picksT_next ps k v hv)
      have Hz := Lib.hid hz32
      have Hb := Lib.hid hbl1
      have hadd : ¬ (9223372036854775807 < 1 + sv.size) := by omega
      have hlenr : (headT f c e ++ picksT (ps.take k)).length ≤ 2000000 := by
        have h1 := picksT_len2 (ps.take k) (fun p hp => HP.out p (List.mem_of_mem_take hp))
        rw [List.length_append]
        have h2 := List.length_take_le k ps
        omega
      have HLr := Lib.hid hlenr
      clear hv hsv hbl1 hz32 hg1 hc1 hvl hlenr
      go_wp2_with (go_at_call 7; refine HI.out.mono ?_)
      rintro e_ Wa ⟨rfl, hBa⟩
      have hBufa := buf_below hbl.out hBa
      have hsrc := src_str Wa ((⟨#[32]⟩ : ByteArray) ++ sv)
      rw [Hb.out] at hsrc
      have HB8a := Lib.hid (hBr.out.trans (hBa.mono (by omega)))
      have hza := HB8a.out.size
      clear hBa
      go_wp2_with (at_builtin; refine wpList_buf rfl _ _ 63 9 rfl i0 Tryd.underlying63 hi hz0 hz1 hz2 b8 _ _ (32 :: Lib.decDigits v) rfl hBufa (by omega) _ rfl hsrc ?c1 ?_)
      case c1 => have h1 := HLr.out; have h2 := Hz.out; rw [← bl_len, Hb.out] at h2; omega
      intro v' Wb hbb_ hBb
      first | rw [List.append_assoc, ← HX.out] at hbb_ | rw [← HX.out] at hbb_
      have HB8b := Lib.hid (HB8a.out.trans hBb)
      have HBb := Lib.hid hbb_
      obtain ⟨gb, cb, rfl, -⟩ := hbb_
      clear hBb hBufa hsrc
      go_wp2
      exact ⟨⟨k + 1, by go_num, by omega, HBb, HB8b, ⟨_, _, _, rfl⟩⟩, by simp [intOf]; omega⟩
    · obtain rfl : k = n := by omega
      have htk : ps.take k = ps := List.take_of_length_le (by rw [HN.out]; exact Nat.le_refl _)
      rw [htk] at hbl
      have hlenr : (headT f c e ++ picksT ps).length ≤ 2000000 := by
        have h1 := picksT_len2 ps HP.out
        have h2 := HN.out
        rw [List.length_append]
        omega
      have HLr := Lib.hid hlenr
      clear htk hlenr
      have hBufa := buf_below (w' := wr.alloc (.cells #[.int .u8 10] 5)) hbl.out ((Below.refl _ _).alloc (Nat.le_refl _) _)
      have hB8a : Below b8 W8 (wr.alloc (.cells #[.int .u8 10] 5)) := hBr.out.alloc (by omega) _
      have hc10 : (wr.alloc (.cells #[.int .u8 10] 5)).cell? ⟨wr.heap.size, 0, none⟩ = some (.int .u8 10) := by rw [World.cell?_alloc_new]; rfl
      have hsrc := src_one (wr.alloc (.cells #[.int .u8 10] 5)) wr.heap.size 10 hc10 1
      have hzz : b8 ≤ (wr.alloc (.cells #[.int .u8 10] 5)).heap.size := by simp; omega
      go_wp2_with (at_builtin; refine wpList_buf rfl _ _ 63 63 rfl i0 Tryd.underlying63 hi hz0 hz1 hz2 b8 _ _ [10] rfl hBufa hzz _ rfl hsrc ?c1 ?_)
      case c1 => have h1 := HLr.out; simp only [List.length_singleton]; omega
      intro v' Wb hbb_ hBb
      have HB8b := Lib.hid (hB8a.trans hBb)
      have hfull : Buf b8 Wb v' (fullT f c e ps) := by unfold fullT; rw [List.append_assoc]; exact hbb_
      have HBb := Lib.hid hfull
      have hback := buf_back hfull
      obtain ⟨N, hN⟩ : ∃ N, (fullT f c e ps).length = N := ⟨_, rfl⟩
      have HNN := Lib.hid hN
      obtain ⟨gb, cb, rfl, -⟩ := hfull
      rw [hN] at hback ⊢
      clear hBb hBufa hsrc hbb_ hB8a hc10 hN
      by_cases hgt : 65536 < N
      · have hgti : (65536 : Int) < (N : Int) := by omega
        have hts : textS (f : Int) (c : Int) (e : Int) ps = ([], 6) := textS_long f c e ps hf hcc he (by rw [HNN.out]; omega)
        go_wp2
        go_ret2
        exact ⟨by first | rfl | (rw [hts]; rfl), HB2.out.trans ((HB8.out.trans (HB8b.out.mono (by omega))).mono (by have := Hq0.out; omega))⟩
      · have hgti : ¬ (65536 : Int) < (N : Int) := by omega
        have hgti2 : (N : Int) ≤ (65536 : Int) := by omega
        have Hts := Lib.hid (textS_fit f c e ps hf hcc he (by rw [HNN.out]; omega))
        go_wp2
        go_ret2
        exact ⟨by rw [Hts.out]; rfl, HB2.out.trans ((HB8.out.trans (HB8b.out.mono (by omega))).mono (by have := Hq0.out; omega))⟩
end Go.Proofs.YthfnjphmodcnoaaDoor
