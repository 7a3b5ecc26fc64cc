/- The walk of script.Report at a report whose ending is no panic. The walk of script.Report at a report whose ending is a panic. -/
import Derived.Test.YthfnjphmodcnoaaDoorGa
namespace Go.Proofs.YthfnjphmodcnoaaDoor
open Go.RowKit
set_option linter.unusedSimpArgs false
set_option linter.unusedVariables false
set_option maxRecDepth 20000 in
set_option maxHeartbeats 8000000 in
theorem rp_goodA (v : Value) (L : List (List UInt8)) (k : Nat) (st pk : Nat) (w : World) (h : Laid w) (hv : StrA w v L) (hn : L.length ≤ 1048576) (hz : ∀ x ∈ L, x.length ≤ 1048576) (h1 : 1 ≤ k) (h5 : k ≤ 5) (hk2 : k ≠ 2) (hs : st ≤ 2147483647) (hp : pk ≤ 2147483647) :
    Calls Tryd.prog 16 #[.agg #[v, .int .i64 (k : Int), .int .i64 0, .int .i64 (st : Int), .int .i64 (pk : Int)]] w (RP L k 0 st pk w) := by
  have HHD := Lib.hid (headOK_of (c := 0) h1 h5 (.inl rfl) hs hp)
  have lk : decide ((k : Int) < 1) = false := decide_eq_false (by omega)
  have gk : decide ((5 : Int) < (k : Int)) = false := decide_eq_false (by omega)
  have lk2 : ¬ (k : Int) < 1 := by omega
  have gk2 : ¬ (5 : Int) < (k : Int) := by omega
  have hst0 : (0 : Int) ≤ (st : Int) := by omega
  have hpk0 : (0 : Int) ≤ (pk : Int) := by omega
  have hst1 : (st : Int) ≤ 2147483647 := by omega
  have hpk1 : (pk : Int) ≤ 2147483647 := by omega
  have hmin : decide (min (st : Int) (pk : Int) < 0) = false := decide_eq_false (by omega)
  have hmax : decide ((2147483647 : Int) < max (st : Int) (pk : Int)) = false := decide_eq_false (by omega)
  have HX0 := Lib.hid hv
  obtain ⟨p0, cap, rfl, hv⟩ := hv
  obtain ⟨n, hN⟩ : ∃ n, L.length = n := ⟨_, rfl⟩
  have h9 := h.size
  have HN := Lib.hid hN
  have HLd := Lib.hid h
  have HZ := Lib.hid hz
  have HNL := Lib.hid hn
  rw [hN] at hn ⊢
  clear hv hN h hz
  go_enter Tryd.func16, Tryd.ntmps16
  go_wp2_with fail
  obtain ⟨W0, hW0⟩ : ∃ W0, W0 = w.alloc (.cells #[.slice p0 n cap, .int .i64 (k : Int), .int .i64 0, .int .i64 (st : Int), .int .i64 (pk : Int)] 39) := ⟨_, rfl⟩
  rw [← hW0]
  have hB0 : Below w.heap.size w W0 := by rw [hW0]; exact (Below.refl _ _).alloc (Nat.le_refl _) _
  have hz0 : W0.heap.size = w.heap.size + 1 := by rw [hW0]; simp
  have hr0 : W0.heap[w.heap.size]? = some (.cells #[.slice p0 n cap, .int .i64 (k : Int), .int .i64 0, .int .i64 (st : Int), .int .i64 (pk : Int)] 39 (0, 0)) := by
    rw [hW0]
    show (w.heap.push _)[w.heap.size]? = _
    rw [Array.getElem?_push_size]
  have HXA := Lib.hid (strA_below HX0.out hB0)
  rw [HN.out] at HXA
  obtain ⟨q0, hq0⟩ : ∃ q0, w.heap.size = q0 := ⟨_, rfl⟩
  have HL0 := Lib.hid (HLd.out.below hB0)
  rw [hq0] at hB0 hz0 hr0 h9 ⊢
  have Hq0 := Lib.hid hq0
  have HB0 := Lib.hid hB0
  have HCC := Lib.hid (cong_c (.slice p0 n cap) L W0 HL0.out (by rw [HN.out]; omega) (fun x hx => Nat.le_trans (HZ.out x hx) (by decide)) HXA.out)
  obtain ⟨t, ht⟩ : ∃ t, L.all toldP = t := ⟨_, rfl⟩
  rw [ht] at HCC
  have HALL := Lib.hid ht
  clear hW0 hq0 hB0 ht
  refine HCC.out.mono ?_
  rintro e_ W1 ⟨rfl, hB1⟩
  have hr1 : W1.heap[q0]? = _ := (hB1.block q0 (by omega)).trans hr0
  have hz1 := hB1.size
  have HL1 := Lib.hid (HL0.out.below hB1)
  have HX1 := Lib.hid (strA_below HXA.out hB1)
  have HB1 := Lib.hid (HB0.out.trans (hB1.mono (by omega)))
  have hd : W1.cell? ⟨q0, 0, none⟩ = some (.slice p0 n cap) ∧ W1.cell? ⟨q0, 1, none⟩ = some (.int .i64 (k : Int)) ∧ W1.cell? ⟨q0, 2, none⟩ = some (.int .i64 0) ∧ W1.cell? ⟨q0, 3, none⟩ = some (.int .i64 (st : Int)) ∧ W1.cell? ⟨q0, 4, none⟩ = some (.int .i64 (pk : Int)) := by
    unfold World.cell?
    rw [hr1]
    exact ⟨rfl, rfl, rfl, rfl, rfl⟩
  obtain ⟨d0, d1, d2, d3, d4⟩ := hd
  clear hr0 hr1 hB1 HCC
  cases t with
  | false =>
    go_wp2
    go_ret2
    refine ⟨by rw [repS_tr HALL.out]; try rfl, ?_⟩
    rw [Hq0.out]; exact HB1.out
  | true =>
    have hbn := bldAt_new W1
    have hq1 : q0 < W1.heap.size := by omega
    go_wp2_with fail
    obtain ⟨W2, hW2⟩ : ∃ W2, W2 = W1.alloc (.cells #[.pointer none, .slice none 0 0] 65) := ⟨_, rfl⟩
    rw [← hW2] at hbn ⊢
    have hBx : Below W1.heap.size W1 W2 := by rw [hW2]; exact (Below.refl _ _).alloc (Nat.le_refl _) _
    have hz2 : W2.heap.size = W1.heap.size + 1 := by rw [hW2]; simp
    obtain ⟨e0, e1, e2, e3, e4⟩ := And.intro ((hBx.cell (p := ⟨q0, 0, none⟩) hq1).trans d0) (And.intro ((hBx.cell (p := ⟨q0, 1, none⟩) hq1).trans d1) (And.intro ((hBx.cell (p := ⟨q0, 2, none⟩) hq1).trans d2) (And.intro ((hBx.cell (p := ⟨q0, 3, none⟩) hq1).trans d3) ((hBx.cell (p := ⟨q0, 4, none⟩) hq1).trans d4))))
    have HL2 := Lib.hid (HL1.out.below hBx)
    have HB2 := Lib.hid (HB1.out.trans (hBx.mono (by omega)))
    have HX2 : Hid (L = [] ∨ ∃ g o, p0 = some ⟨g, o, none⟩ ∧ ∀ (i : Nat) (z : List UInt8), L[i]? = some z → W2.cell? ⟨g, o + i, none⟩ = some (.string ⟨z.toArray⟩) ∧ g < W1.heap.size) := Lib.hid (by
      obtain ⟨p', c', he, h2⟩ := HX1.out
      injection he with he1 he2 he3
      subst he1
      refine h2.imp id ?_
      rintro ⟨g, o, h3, h4⟩
      exact ⟨g, o, h3, fun i z hz => ⟨(hBx.cell (p := ⟨g, o + i, none⟩) (Lib.lt_of_cell (h4 i z hz))).trans (h4 i z hz), Lib.lt_of_cell (h4 i z hz)⟩⟩)
    obtain ⟨bb, hbb⟩ : ∃ bb, W1.heap.size = bb := ⟨_, rfl⟩
    rw [hbb] at hbn hz2 hq1 HX2 ⊢
    clear hW2 hBx d0 d1 d2 d3 d4 hbb
    have E0 := Lib.hid e0
    have E1 := Lib.hid e1
    have E2 := Lib.hid e2
    have E3 := Lib.hid e3
    have E4 := Lib.hid e4
    have HBN := Lib.hid hbn
    clear e0 e1 e2 e3 e4 hbn
    go_loopw [49] (fun i wr => ∃ j : Nat, i = .int .i64 j ∧ j ≤ n ∧ Hid (BldAt bb wr (traceT (L.take j))) ∧ Hid (Below bb W2 wr)) (fun i _ => n - (intOf i).toNat)
    case atStart => exact ⟨0, rfl, by omega, Lib.hid (by simpa [traceT] using HBN.out), Lib.hid (Below.refl _ _)⟩
    case round =>
      obtain ⟨j, rfl, hj, hbl, hBr⟩ := hrel
      by_cases hlt : j < n
      · have hlti : (j : Int) < (n : Int) := by omega
        obtain ⟨x, hx⟩ : ∃ x, L[j]? = some x := ⟨_, List.getElem?_eq_getElem (by have := HN.out; omega)⟩
        obtain ⟨g1, o1, rfl, hg1⟩ := HX2.out.resolve_left (fun e => by have := HN.out; rw [e] at this; simp at this; omega)
        have qq := hg1 j x hx
        have q1 : wr.cell? ⟨g1, o1 + j, none⟩ = some (.string ⟨x.toArray⟩) := (hBr.out.cell (p := ⟨g1, o1 + j, none⟩) qq.2).trans qq.1
        have hxs : x.length ≤ 1048576 := HZ.out x (List.mem_of_getElem? hx)
        have hxs2 : (⟨x.toArray⟩ : ByteArray).size ≤ 1048576 := by rw [← bl_len, bl_mkx]; exact hxs
        have hcl : ((⟨x.toArray⟩ : ByteArray) ++ ⟨#[10]⟩).size ≤ 1048577 := cat_le (m := 1048576) (n := 1) hxs2 (by decide)
        have hadd : ¬ (9223372036854775807 < (⟨x.toArray⟩ : ByteArray).size + 1) := by omega
        have htl := traceT_len (L.take j) 1048576 (fun y hy => HZ.out y (List.mem_of_mem_take hy))
        rw [List.length_take, HN.out] at htl
        have htl2 : (traceT (L.take j)).length ≤ 1099512676352 := by
          have : (1048576 + 1) * min j n ≤ 1048577 * 1048576 := Nat.mul_le_mul_left _ (by omega)
          omega
        have HW := Lib.hid (wstr_c bb (traceT (L.take j)) ((⟨x.toArray⟩ : ByteArray) ++ ⟨#[10]⟩) wr hbl.out (by omega) (by have := hBr.out.size; omega))
        have HNX := Lib.hid (traceT_next L j x hx)
        clear hg1 qq hx hxs hcl htl htl2
        go_wp2_with (go_at_call 23; refine HW.out.mono ?_)
        rintro e_ W3 ⟨rfl, hbl3, hB3⟩
        have HBL3 : Hid (BldAt bb W3 (traceT (L.take (j + 1)))) := Lib.hid (by
          rw [HNX.out]
          have h7 : bl ((⟨x.toArray⟩ : ByteArray) ++ ⟨#[10]⟩) = x ++ [10] := by simp [bl]
          rw [← h7]
          exact hbl3)
        have HB3 := Lib.hid (hBr.out.trans hB3)
        clear hbl3 hB3 HW
        go_wp2
        exact ⟨⟨j + 1, by go_num, by omega, HBL3, HB3⟩, by simp [intOf]; omega⟩
      · obtain rfl : j = n := by omega
        have htk : L.take j = L := List.take_of_length_le (by rw [HN.out]; exact Nat.le_refl _)
        rw [htk] at hbl
        have htl := traceT_len L 1048576 HZ.out
        rw [HN.out] at htl
        have HTL : Hid ((traceT L).length ≤ 1099512676352) := Lib.hid (by
          have : (1048576 + 1) * j ≤ 1048577 * 1048576 := Nat.mul_le_mul_left _ (by omega)
          omega)
        have e0 : wr.cell? ⟨q0, 0, none⟩ = some (.slice p0 j cap) := (hBr.out.cell (p := ⟨q0, 0, none⟩) hq1).trans E0.out
        have e1 : wr.cell? ⟨q0, 1, none⟩ = some (.int .i64 (k : Int)) := (hBr.out.cell (p := ⟨q0, 1, none⟩) hq1).trans E1.out
        have HLr := Lib.hid (laid_bb HL2.out hBr.out (by have := HL2.out.size; omega))
        have hen := laid_end HLr.out k h5
        have hsr := hBr.out.size
        have hel := endS_len k h5
        rw [bl_len] at hel
        have hki : (k : Int) < 6 := by omega
        have hki0 : (0 : Int) ≤ (k : Int) := by omega
        have HW := Lib.hid (wstr_c bb (traceT L) (endS k) wr hbl.out (by have := HTL.out; omega) (by omega))
        obtain ⟨se, hse⟩ : ∃ s, endS k = s := ⟨_, rfl⟩
        rw [hse] at hen HW hel
        have HSE := Lib.hid hse
        have HEL := Lib.hid hel
        clear htk htl hse hel
        go_wp2_with (go_at_call 23; refine HW.out.mono ?_)
        rintro e_ W3 ⟨rfl, hbl3, hB3⟩
        have HB23 := Lib.hid (hBr.out.trans hB3)
        have HBL3 := Lib.hid hbl3
        have hs3 := HB23.out.size
        have d1 : W3.cell? ⟨q0, 1, none⟩ = some (.int .i64 (k : Int)) := (HB23.out.cell (p := ⟨q0, 1, none⟩) hq1).trans E1.out
        have d2 : W3.cell? ⟨q0, 2, none⟩ = some (.int .i64 0) := (HB23.out.cell (p := ⟨q0, 2, none⟩) hq1).trans E2.out
        clear hbl3 hB3 e0 e1 hen HW hBr hbl
        have hk2b : ((k : Int) == 2) = false := beq_eq_false_iff_ne.2 (by omega)
        obtain ⟨ss, hss⟩ : ∃ s : ByteArray, s = ⟨(Lib.decDigits st).toArray⟩ := ⟨_, rfl⟩
        obtain ⟨sp, hsp⟩ : ∃ s : ByteArray, s = ⟨(Lib.decDigits pk).toArray⟩ := ⟨_, rfl⟩
        have hzs : ss.size ≤ 20 := by rw [hss]; have := dec_len st (by omega); simpa [ByteArray.size] using this
        have hzp : sp.size ≤ 20 := by rw [hsp]; have := dec_len pk (by omega); simpa [ByteArray.size] using this
        have HIs : Hid (∀ W, Laid W → Calls Tryd.prog 22 #[.int .i64 (st : Int)] W fun e w' => e = .returned (.string ss) ∧ Below W.heap.size W w') := Lib.hid (fun W hW => by rw [hss]; exact itoaN_c st (by omega) W hW)
        have HIp : Hid (∀ W, Laid W → Calls Tryd.prog 22 #[.int .i64 (pk : Int)] W fun e w' => e = .returned (.string sp) ∧ Below W.heap.size W w') := Lib.hid (fun W hW => by rw [hsp]; exact itoaN_c pk (by omega) W hW)
        have z1 : ((⟨#[10, 115, 116, 101, 112, 115, 32]⟩ : ByteArray) ++ ss).size ≤ 27 := cat_le (m := 7) (n := 20) (by decide) hzs
        have z2 : (((⟨#[10, 115, 116, 101, 112, 115, 32]⟩ : ByteArray) ++ ss) ++ (⟨#[32, 112, 105, 99, 107, 115, 32]⟩ : ByteArray)).size ≤ 34 := cat_le (m := 27) (n := 7) z1 (by decide)
        have z3 : ((((⟨#[10, 115, 116, 101, 112, 115, 32]⟩ : ByteArray) ++ ss) ++ (⟨#[32, 112, 105, 99, 107, 115, 32]⟩ : ByteArray)) ++ sp).size ≤ 54 := cat_le (m := 34) (n := 20) z2 hzp
        have z4 : (((((⟨#[10, 115, 116, 101, 112, 115, 32]⟩ : ByteArray) ++ ss) ++ (⟨#[32, 112, 105, 99, 107, 115, 32]⟩ : ByteArray)) ++ sp) ++ (⟨#[10]⟩ : ByteArray)).size ≤ 55 := cat_le (m := 54) (n := 1) z3 (by decide)
        have k1 : (⟨#[10, 115, 116, 101, 112, 115, 32]⟩ : ByteArray).size = 7 := by decide
        have k2 : (⟨#[32, 112, 105, 99, 107, 115, 32]⟩ : ByteArray).size = 7 := by decide
        have k3 : (⟨#[10]⟩ : ByteArray).size = 1 := by decide
        have HTS : Hid (bl (((((⟨#[10, 115, 116, 101, 112, 115, 32]⟩ : ByteArray) ++ ss) ++ (⟨#[32, 112, 105, 99, 107, 115, 32]⟩ : ByteArray)) ++ sp) ++ (⟨#[10]⟩ : ByteArray)) = 10 :: (tailL st pk ++ [10]) ∧ (((((⟨#[10, 115, 116, 101, 112, 115, 32]⟩ : ByteArray) ++ ss) ++ (⟨#[32, 112, 105, 99, 107, 115, 32]⟩ : ByteArray)) ++ sp) ++ (⟨#[10]⟩ : ByteArray)).size ≤ 55) := Lib.hid ⟨by simp [bl, hss, hsp, tailL, stepsL, kPicks], z4⟩
        have Hz := Lib.hid (And.intro z1 (And.intro z2 (And.intro z3 (And.intro k1 (And.intro k2 k3)))))
        clear z1 z2 z3 z4 k1 k2 k3 hss hsp
        have HFUL : Hid ((traceT L ++ bl se) ++ (10 :: (tailL st pk ++ [10])) = repF L k 0 st pk) := Lib.hid (by unfold repF endL; rw [if_neg hk2, HSE.out]; simp)
        have HXL : Hid ((traceT L ++ bl se).length ≤ 1099512676400) := Lib.hid (by rw [List.length_append, bl_len]; have := HTL.out; have := HEL.out; omega)
        go_wp2_with fail
        refine wp_region_held_drew (S := (fun w' => Below bb W2 w' ∧ w'.cell? ⟨q0, 3, none⟩ = some (.int .i64 (st : Int)) ∧ w'.cell? ⟨q0, 4, none⟩ = some (.int .i64 (pk : Int)))) (by kernel_rfl) ?_ (fun hHeld => ?_)
        · exact ⟨HB23.out.drew, (HB23.out.cell (p := ⟨q0, 3, none⟩) hq1).trans E3.out, (HB23.out.cell (p := ⟨q0, 4, none⟩) hq1).trans E4.out⟩
        have HBW4 := Lib.hid (show Below bb W2 W3.drew from HB23.out.drew)
        have HBLW4 : Hid (BldAt bb W3.drew _) := HBL3
        obtain ⟨W4, hW4⟩ : ∃ W4, W4 = W3.drew := ⟨_, rfl⟩
        rw [← hW4] at HBW4 HBLW4 hHeld ⊢
        clear hW4
        refine h_yes 0 70 (v := ?_) rfl rfl (by kernel_rfl) (by kernel_rfl) (by kernel_rfl) (fun _ _ _ h => h) (by kernel_rfl) (by assumption) ?_ ?_
        rotate_left 1
        · (intro w hSw; (try dsimp only at hSw); obtain ⟨hS1, hS2, hS3⟩ := hSw; go_simp; try with_reducible rfl)
        try simp only [Act.put, List.setIfInBounds_toArray, List.set_cons_zero, List.set_cons_succ]
        refine h_yes 1 71 (v := ?_) rfl rfl (by kernel_rfl) (by kernel_rfl) (by kernel_rfl) (fun _ _ _ h => h) (by kernel_rfl) (by assumption) ?_ ?_
        rotate_left 1
        · (intro w hSw; (try dsimp only at hSw); obtain ⟨hS1, hS2, hS3⟩ := hSw; go_simp; try with_reducible rfl)
        try simp only [Act.put, List.setIfInBounds_toArray, List.set_cons_zero, List.set_cons_succ]
        refine h_yes 5 75 (v := ?_) rfl rfl (by kernel_rfl) (by kernel_rfl) (by kernel_rfl) (fun _ _ _ h => h) (by kernel_rfl) (by assumption) ?_ ?_
        rotate_left 1
        · (intro w hSw; (try dsimp only at hSw); obtain ⟨hS1, hS2, hS3⟩ := hSw; go_simp; try with_reducible rfl)
        try simp only [Act.put, List.setIfInBounds_toArray, List.set_cons_zero, List.set_cons_succ]
        refine h_yes 6 76 (v := ?_) rfl rfl (by kernel_rfl) (by kernel_rfl) (by kernel_rfl) (fun _ _ _ h => h) (by kernel_rfl) (by assumption) ?_ ?_
        rotate_left 1
        · (intro w hSw; (try dsimp only at hSw); obtain ⟨hS1, hS2, hS3⟩ := hSw; go_simp; try with_reducible rfl)
        try simp only [Act.put, List.setIfInBounds_toArray, List.set_cons_zero, List.set_cons_succ]
        refine h_step 2 rfl (by kernel_rfl) (by kernel_rfl) (fun K hK => ?_)
        go_simp
        refine (HIs.out W4 (laid_bb HL2.out HBW4.out (by omega))).mono ?_
        rintro e_ W5 ⟨rfl, hiW5⟩
        have hsW4 := HBW4.out.size
        have HBW5 := Lib.hid (below_tw HBW4.out hiW5)
        have HBLW5 := Lib.hid (bldAt_below HBLW4.out hiW5)
        clear hiW5
        refine hK.out _ _ ⟨HBW5.out, (HBW5.out.cell (p := ⟨q0, 3, none⟩) hq1).trans E3.out, (HBW5.out.cell (p := ⟨q0, 4, none⟩) hq1).trans E4.out⟩ (fun hHeld => ?_)
        clear hK K
        try simp only [Act.put, List.setIfInBounds_toArray, List.set_cons_zero, List.set_cons_succ]
        refine h_yes 3 73 (v := .string ((⟨#[10, 115, 116, 101, 112, 115, 32]⟩ : ByteArray) ++ ss)) rfl rfl (by kernel_rfl) (by kernel_rfl) (by kernel_rfl) (fun _ _ _ h => h) (by kernel_rfl) (by assumption) (fun w _ => hy_cat rfl rfl rfl (by obtain ⟨z1, z2, z3, k1, k2, k3⟩ := Hz.out; have := hzs; have := hzp; omega)) ?_
        try simp only [Act.put, List.setIfInBounds_toArray, List.set_cons_zero, List.set_cons_succ]
        refine h_yes 4 74 (v := .string (((⟨#[10, 115, 116, 101, 112, 115, 32]⟩ : ByteArray) ++ ss) ++ (⟨#[32, 112, 105, 99, 107, 115, 32]⟩ : ByteArray))) rfl rfl (by kernel_rfl) (by kernel_rfl) (by kernel_rfl) (fun _ _ _ h => h) (by kernel_rfl) (by assumption) (fun w _ => hy_cat rfl rfl rfl (by obtain ⟨z1, z2, z3, k1, k2, k3⟩ := Hz.out; have := hzs; have := hzp; omega)) ?_
        try simp only [Act.put, List.setIfInBounds_toArray, List.set_cons_zero, List.set_cons_succ]
        refine h_step 7 rfl (by kernel_rfl) (by kernel_rfl) (fun K hK => ?_)
        go_simp
        refine (HIp.out W5 (laid_bb HL2.out HBW5.out (by omega))).mono ?_
        rintro e_ W6 ⟨rfl, hiW6⟩
        have hsW5 := HBW5.out.size
        have HBW6 := Lib.hid (below_tw HBW5.out hiW6)
        have HBLW6 := Lib.hid (bldAt_below HBLW5.out hiW6)
        clear hiW6
        refine hK.out _ _ ⟨HBW6.out, (HBW6.out.cell (p := ⟨q0, 3, none⟩) hq1).trans E3.out, (HBW6.out.cell (p := ⟨q0, 4, none⟩) hq1).trans E4.out⟩ (fun hHeld => ?_)
        clear hK K
        try simp only [Act.put, List.setIfInBounds_toArray, List.set_cons_zero, List.set_cons_succ]
        refine h_yes 8 78 (v := .string ((((⟨#[10, 115, 116, 101, 112, 115, 32]⟩ : ByteArray) ++ ss) ++ (⟨#[32, 112, 105, 99, 107, 115, 32]⟩ : ByteArray)) ++ sp)) rfl rfl (by kernel_rfl) (by kernel_rfl) (by kernel_rfl) (fun _ _ _ h => h) (by kernel_rfl) (by assumption) (fun w _ => hy_cat rfl rfl rfl (by obtain ⟨z1, z2, z3, k1, k2, k3⟩ := Hz.out; have := hzs; have := hzp; omega)) ?_
        try simp only [Act.put, List.setIfInBounds_toArray, List.set_cons_zero, List.set_cons_succ]
        refine h_yes 9 79 (v := .string (((((⟨#[10, 115, 116, 101, 112, 115, 32]⟩ : ByteArray) ++ ss) ++ (⟨#[32, 112, 105, 99, 107, 115, 32]⟩ : ByteArray)) ++ sp) ++ (⟨#[10]⟩ : ByteArray))) rfl rfl (by kernel_rfl) (by kernel_rfl) (by kernel_rfl) (fun _ _ _ h => h) (by kernel_rfl) (by assumption) (fun w _ => hy_cat rfl rfl rfl (by obtain ⟨z1, z2, z3, k1, k2, k3⟩ := Hz.out; have := hzs; have := hzp; omega)) ?_
        try simp only [Act.put, List.setIfInBounds_toArray, List.set_cons_zero, List.set_cons_succ]
        refine h_step 10 rfl (by kernel_rfl) (by kernel_rfl) (fun K hK => ?_)
        go_simp
        have hs6 := HBW6.out.size
        refine (wstr_c bb _ _ W6 HBLW6.out (by have := HXL.out; have := HTS.out.2; omega) (by omega)).mono ?_
        rintro e_ W7 ⟨rfl, hbl7, hB7⟩
        rw [HTS.out.1, HFUL.out] at hbl7
        have HBW7 := Lib.hid (HBW6.out.trans hB7)
        have HBL7 := Lib.hid hbl7
        clear hbl7 hB7
        refine hK.out _ _ ⟨HBW7.out, (HBW7.out.cell (p := ⟨q0, 3, none⟩) hq1).trans E3.out, (HBW7.out.cell (p := ⟨q0, 4, none⟩) hq1).trans E4.out⟩ (fun hHeld => ?_)
        clear hK K
        try simp only [Act.put, List.setIfInBounds_toArray, List.set_cons_zero, List.set_cons_succ]
        refine wpAnyH_done (by kernel_rfl) ?_ _
        clear HBLW4 HBLW5 HBLW6 HBL3 HBW4 HBW5 HBW6 hsW4 hsW5 hHeld
        obtain ⟨N, hNN⟩ : ∃ N, (repF L k 0 st pk).length = N := ⟨_, rfl⟩
        have hs7 := HBW7.out.size
        have HLEN : Hid (Calls Tryd.prog 24 #[.pointer (some ⟨bb, 0, none⟩)] W7 fun e w' => e = .returned (.int .i64 (N : Int)) ∧ w' = W7) := Lib.hid (by have := Tryd.Builder_Len bb bb _ W7 HBL7.out; rw [Lib.byteCells_length, hNN] at this; exact this)
        have HSTR := Lib.hid (Tryd.Builder_String_any bb bb _ W7 HBL7.out (by omega))
        have HNN := Lib.hid hNN
        have hN64 : N ≤ 140737488355328 := by rw [← hNN, ← HFUL.out, List.length_append, ← HTS.out.1, bl_len]; have := HXL.out; have := HTS.out.2; omega
        clear hNN
        by_cases hgt : 65536 < N
        · have hgti : (65536 : Int) < (N : Int) := by omega
          have Hts : Hid (repS L k 0 st pk = ([], 6)) := Lib.hid (repS_long HHD.out HALL.out (by rw [HNN.out]; exact hgt))
          go_wp2_with (first | (go_at_call 24; refine (HLEN.out).mono ?_; rintro e_ w' ⟨rfl, rfl⟩))
          go_ret2
          refine ⟨by rw [Hts.out]; try rfl, ?_⟩
          rw [Hq0.out]
          exact HB2.out.trans (HBW7.out.mono (by omega))
        · have hgti : ¬ (65536 : Int) < (N : Int) := by omega
          have hgti2 : (N : Int) ≤ (65536 : Int) := by omega
          have Hts : Hid (repS L k 0 st pk = (repF L k 0 st pk, 0)) := Lib.hid (repS_fit HHD.out HALL.out (by rw [HNN.out]; omega))
          go_wp2_with (first | (go_at_call 24; refine (HLEN.out).mono ?_; rintro e_ w' ⟨rfl, rfl⟩) | (go_at_call 25; refine (HSTR.out).mono ?_; rintro e_ W8 ⟨rfl, hB8⟩))
          go_ret2
          refine ⟨by rw [Hts.out]; try rfl, ?_⟩
          rw [Hq0.out]
          exact HB2.out.trans ((HBW7.out.trans hB8).mono (by omega))
end Go.Proofs.YthfnjphmodcnoaaDoor
namespace Go.Proofs.YthfnjphmodcnoaaDoor
open Go.RowKit
set_option linter.unusedSimpArgs false
set_option linter.unusedVariables false
set_option maxRecDepth 20000 in
set_option maxHeartbeats 8000000 in
theorem rp_goodBT (v : Value) (L : List (List UInt8)) (c : Int) (st pk : Nat) (w : World) (h : Laid w) (hv : StrA w v L) (hn : L.length ≤ 1048576) (hz : ∀ x ∈ L, x.length ≤ 1048576) (hcz : (c != 0) = true) (hc0 : -9223372036854775808 ≤ c) (hc1 : c ≤ 9223372036854775807) (hs : st ≤ 2147483647) (hp : pk ≤ 2147483647) :
    Calls Tryd.prog 16 #[.agg #[v, .int .i64 (2 : Int), .int .i64 c, .int .i64 (st : Int), .int .i64 (pk : Int)]] w (RP L 2 c st pk w) := by
  have HHD := Lib.hid (headOK_of (k := 2) (c := c) (by omega) (by omega) (.inr rfl) hs hp)
  have lk : decide ((2 : Int) < 1) = false := decide_eq_false (by omega)
  have gk : decide ((5 : Int) < (2 : Int)) = false := decide_eq_false (by omega)
  have lk2 : ¬ (2 : Int) < 1 := by omega
  have gk2 : ¬ (5 : Int) < (2 : Int) := by omega
  have hst0 : (0 : Int) ≤ (st : Int) := by omega
  have hpk0 : (0 : Int) ≤ (pk : Int) := by omega
  have hst1 : (st : Int) ≤ 2147483647 := by omega
  have hpk1 : (pk : Int) ≤ 2147483647 := by omega
  have hmin : decide (min (st : Int) (pk : Int) < 0) = false := decide_eq_false (by omega)
  have hmax : decide ((2147483647 : Int) < max (st : Int) (pk : Int)) = false := decide_eq_false (by omega)
  have HX0 := Lib.hid hv
  obtain ⟨p0, cap, rfl, hv⟩ := hv
  obtain ⟨n, hN⟩ : ∃ n, L.length = n := ⟨_, rfl⟩
  have h9 := h.size
  have HN := Lib.hid hN
  have HLd := Lib.hid h
  have HZ := Lib.hid hz
  have HNL := Lib.hid hn
  rw [hN] at hn ⊢
  clear hv hN h hz
  go_enter Tryd.func16, Tryd.ntmps16
  go_wp2_with fail
  obtain ⟨W0, hW0⟩ : ∃ W0, W0 = w.alloc (.cells #[.slice p0 n cap, .int .i64 (2 : Int), .int .i64 c, .int .i64 (st : Int), .int .i64 (pk : Int)] 39) := ⟨_, rfl⟩
  rw [← hW0]
  have hB0 : Below w.heap.size w W0 := by rw [hW0]; exact (Below.refl _ _).alloc (Nat.le_refl _) _
  have hz0 : W0.heap.size = w.heap.size + 1 := by rw [hW0]; simp
  have hr0 : W0.heap[w.heap.size]? = some (.cells #[.slice p0 n cap, .int .i64 (2 : Int), .int .i64 c, .int .i64 (st : Int), .int .i64 (pk : Int)] 39 (0, 0)) := by
    rw [hW0]
    show (w.heap.push _)[w.heap.size]? = _
    rw [Array.getElem?_push_size]
  have HXA := Lib.hid (strA_below HX0.out hB0)
  rw [HN.out] at HXA
  obtain ⟨q0, hq0⟩ : ∃ q0, w.heap.size = q0 := ⟨_, rfl⟩
  have HL0 := Lib.hid (HLd.out.below hB0)
  rw [hq0] at hB0 hz0 hr0 h9 ⊢
  have Hq0 := Lib.hid hq0
  have HB0 := Lib.hid hB0
  have HCC := Lib.hid (cong_c (.slice p0 n cap) L W0 HL0.out (by rw [HN.out]; omega) (fun x hx => Nat.le_trans (HZ.out x hx) (by decide)) HXA.out)
  obtain ⟨t, ht⟩ : ∃ t, L.all toldP = t := ⟨_, rfl⟩
  rw [ht] at HCC
  have HALL := Lib.hid ht
  clear hW0 hq0 hB0 ht
  refine HCC.out.mono ?_
  rintro e_ W1 ⟨rfl, hB1⟩
  have hr1 : W1.heap[q0]? = _ := (hB1.block q0 (by omega)).trans hr0
  have hz1 := hB1.size
  have HL1 := Lib.hid (HL0.out.below hB1)
  have HX1 := Lib.hid (strA_below HXA.out hB1)
  have HB1 := Lib.hid (HB0.out.trans (hB1.mono (by omega)))
  have hd : W1.cell? ⟨q0, 0, none⟩ = some (.slice p0 n cap) ∧ W1.cell? ⟨q0, 1, none⟩ = some (.int .i64 (2 : Int)) ∧ W1.cell? ⟨q0, 2, none⟩ = some (.int .i64 c) ∧ W1.cell? ⟨q0, 3, none⟩ = some (.int .i64 (st : Int)) ∧ W1.cell? ⟨q0, 4, none⟩ = some (.int .i64 (pk : Int)) := by
    unfold World.cell?
    rw [hr1]
    exact ⟨rfl, rfl, rfl, rfl, rfl⟩
  obtain ⟨d0, d1, d2, d3, d4⟩ := hd
  clear hr0 hr1 hB1 HCC
  cases t with
  | false =>
    go_wp2
    go_ret2
    refine ⟨by rw [repS_tr HALL.out]; try rfl, ?_⟩
    rw [Hq0.out]; exact HB1.out
  | true =>
    have hbn := bldAt_new W1
    have hq1 : q0 < W1.heap.size := by omega
    go_wp2_with fail
    obtain ⟨W2, hW2⟩ : ∃ W2, W2 = W1.alloc (.cells #[.pointer none, .slice none 0 0] 65) := ⟨_, rfl⟩
    rw [← hW2] at hbn ⊢
    have hBx : Below W1.heap.size W1 W2 := by rw [hW2]; exact (Below.refl _ _).alloc (Nat.le_refl _) _
    have hz2 : W2.heap.size = W1.heap.size + 1 := by rw [hW2]; simp
    obtain ⟨e0, e1, e2, e3, e4⟩ := And.intro ((hBx.cell (p := ⟨q0, 0, none⟩) hq1).trans d0) (And.intro ((hBx.cell (p := ⟨q0, 1, none⟩) hq1).trans d1) (And.intro ((hBx.cell (p := ⟨q0, 2, none⟩) hq1).trans d2) (And.intro ((hBx.cell (p := ⟨q0, 3, none⟩) hq1).trans d3) ((hBx.cell (p := ⟨q0, 4, none⟩) hq1).trans d4))))
    have HL2 := Lib.hid (HL1.out.below hBx)
    have HB2 := Lib.hid (HB1.out.trans (hBx.mono (by omega)))
    have HX2 : Hid (L = [] ∨ ∃ g o, p0 = some ⟨g, o, none⟩ ∧ ∀ (i : Nat) (z : List UInt8), L[i]? = some z → W2.cell? ⟨g, o + i, none⟩ = some (.string ⟨z.toArray⟩) ∧ g < W1.heap.size) := Lib.hid (by
      obtain ⟨p', c', he, h2⟩ := HX1.out
      injection he with he1 he2 he3
      subst he1
      refine h2.imp id ?_
      rintro ⟨g, o, h3, h4⟩
      exact ⟨g, o, h3, fun i z hz => ⟨(hBx.cell (p := ⟨g, o + i, none⟩) (Lib.lt_of_cell (h4 i z hz))).trans (h4 i z hz), Lib.lt_of_cell (h4 i z hz)⟩⟩)
    obtain ⟨bb, hbb⟩ : ∃ bb, W1.heap.size = bb := ⟨_, rfl⟩
    rw [hbb] at hbn hz2 hq1 HX2 ⊢
    clear hW2 hBx d0 d1 d2 d3 d4 hbb
    have E0 := Lib.hid e0
    have E1 := Lib.hid e1
    have E2 := Lib.hid e2
    have E3 := Lib.hid e3
    have E4 := Lib.hid e4
    have HBN := Lib.hid hbn
    clear e0 e1 e2 e3 e4 hbn
    go_loopw [49] (fun i wr => ∃ j : Nat, i = .int .i64 j ∧ j ≤ n ∧ Hid (BldAt bb wr (traceT (L.take j))) ∧ Hid (Below bb W2 wr)) (fun i _ => n - (intOf i).toNat)
    case atStart => exact ⟨0, rfl, by omega, Lib.hid (by simpa [traceT] using HBN.out), Lib.hid (Below.refl _ _)⟩
    case round =>
      obtain ⟨j, rfl, hj, hbl, hBr⟩ := hrel
      by_cases hlt : j < n
      · have hlti : (j : Int) < (n : Int) := by omega
        obtain ⟨x, hx⟩ : ∃ x, L[j]? = some x := ⟨_, List.getElem?_eq_getElem (by have := HN.out; omega)⟩
        obtain ⟨g1, o1, rfl, hg1⟩ := HX2.out.resolve_left (fun e => by have := HN.out; rw [e] at this; simp at this; omega)
        have qq := hg1 j x hx
        have q1 : wr.cell? ⟨g1, o1 + j, none⟩ = some (.string ⟨x.toArray⟩) := (hBr.out.cell (p := ⟨g1, o1 + j, none⟩) qq.2).trans qq.1
        have hxs : x.length ≤ 1048576 := HZ.out x (List.mem_of_getElem? hx)
        have hxs2 : (⟨x.toArray⟩ : ByteArray).size ≤ 1048576 := by rw [← bl_len, bl_mkx]; exact hxs
        have hcl : ((⟨x.toArray⟩ : ByteArray) ++ ⟨#[10]⟩).size ≤ 1048577 := cat_le (m := 1048576) (n := 1) hxs2 (by decide)
        have hadd : ¬ (9223372036854775807 < (⟨x.toArray⟩ : ByteArray).size + 1) := by omega
        have htl := traceT_len (L.take j) 1048576 (fun y hy => HZ.out y (List.mem_of_mem_take hy))
        rw [List.length_take, HN.out] at htl
        have htl2 : (traceT (L.take j)).length ≤ 1099512676352 := by
          have : (1048576 + 1) * min j n ≤ 1048577 * 1048576 := Nat.mul_le_mul_left _ (by omega)
          omega
        have HW := Lib.hid (wstr_c bb (traceT (L.take j)) ((⟨x.toArray⟩ : ByteArray) ++ ⟨#[10]⟩) wr hbl.out (by omega) (by have := hBr.out.size; omega))
        have HNX := Lib.hid (traceT_next L j x hx)
        clear hg1 qq hx hxs hcl htl htl2
        go_wp2_with (go_at_call 23; refine HW.out.mono ?_)
        rintro e_ W3 ⟨rfl, hbl3, hB3⟩
        have HBL3 : Hid (BldAt bb W3 (traceT (L.take (j + 1)))) := Lib.hid (by
          rw [HNX.out]
          have h7 : bl ((⟨x.toArray⟩ : ByteArray) ++ ⟨#[10]⟩) = x ++ [10] := by simp [bl]
          rw [← h7]
          exact hbl3)
        have HB3 := Lib.hid (hBr.out.trans hB3)
        clear hbl3 hB3 HW
        go_wp2
        exact ⟨⟨j + 1, by go_num, by omega, HBL3, HB3⟩, by simp [intOf]; omega⟩
      · obtain rfl : j = n := by omega
        have htk : L.take j = L := List.take_of_length_le (by rw [HN.out]; exact Nat.le_refl _)
        rw [htk] at hbl
        have htl := traceT_len L 1048576 HZ.out
        rw [HN.out] at htl
        have HTL : Hid ((traceT L).length ≤ 1099512676352) := Lib.hid (by
          have : (1048576 + 1) * j ≤ 1048577 * 1048576 := Nat.mul_le_mul_left _ (by omega)
          omega)
        have e0 : wr.cell? ⟨q0, 0, none⟩ = some (.slice p0 j cap) := (hBr.out.cell (p := ⟨q0, 0, none⟩) hq1).trans E0.out
        have e1 : wr.cell? ⟨q0, 1, none⟩ = some (.int .i64 (2 : Int)) := (hBr.out.cell (p := ⟨q0, 1, none⟩) hq1).trans E1.out
        have HLr := Lib.hid (laid_bb HL2.out hBr.out (by have := HL2.out.size; omega))
        have hen := laid_end HLr.out 2 (by omega)
        have hsr := hBr.out.size
        have hel := endS_len 2 (by omega)
        rw [bl_len] at hel
        have hki : (2 : Int) < 6 := by omega
        have hki0 : (0 : Int) ≤ (2 : Int) := by omega
        have HW := Lib.hid (wstr_c bb (traceT L) (endS 2) wr hbl.out (by have := HTL.out; omega) (by omega))
        obtain ⟨se, hse⟩ : ∃ s, endS 2 = s := ⟨_, rfl⟩
        rw [hse] at hen HW hel
        have HSE := Lib.hid hse
        have HEL := Lib.hid hel
        clear htk htl hse hel
        go_wp2_with (go_at_call 23; refine HW.out.mono ?_)
        rintro e_ W3 ⟨rfl, hbl3, hB3⟩
        have HB23 := Lib.hid (hBr.out.trans hB3)
        have HBL3 := Lib.hid hbl3
        have hs3 := HB23.out.size
        have d1 : W3.cell? ⟨q0, 1, none⟩ = some (.int .i64 (2 : Int)) := (HB23.out.cell (p := ⟨q0, 1, none⟩) hq1).trans E1.out
        have d2 : W3.cell? ⟨q0, 2, none⟩ = some (.int .i64 c) := (HB23.out.cell (p := ⟨q0, 2, none⟩) hq1).trans E2.out
        clear hbl3 hB3 e0 e1 hen HW hBr hbl
        obtain ⟨sc, hsc⟩ : ∃ s : ByteArray, s = ⟨(Lib.itoa c).toArray⟩ := ⟨_, rfl⟩
        have hzc : sc.size ≤ 21 := by rw [hsc]; have := itoa_len20 c hc0 hc1; simpa [ByteArray.size] using this
        have HLa := Lib.hid (laid_bb HL2.out HB23.out (by have := HL2.out.size; omega))
        have HIc : Hid (Calls Tryd.prog 38 #[.int .i64 c, .int .i64 10] W3 fun e w' => e = .returned (.string sc) ∧ Below W3.heap.size W3 w') := Lib.hid (by rw [hsc]; exact fint_c c W3 HLa.out hc0 hc1)
        have hb1 : bl ((⟨#[32]⟩ : ByteArray) ++ sc) = 32 :: Lib.itoa c := by rw [hsc]; simp [bl]
        have hz32 : ((⟨#[32]⟩ : ByteArray) ++ sc).size ≤ 22 := cat_le (m := 1) (n := 21) (by decide) hzc
        have hadd : ¬ (9223372036854775807 < 1 + sc.size) := by omega
        have Hb1 := Lib.hid hb1
        have Hz32 := Lib.hid hz32
        clear hsc hb1 hz32
        go_wp2_with (go_at_call 38; refine HIc.out.mono ?_)
        rintro e_ Wa ⟨rfl, hBa⟩
        have hBLa := bldAt_below HBL3.out hBa
        have hBLl : (traceT L ++ bl se).length ≤ 1099512676400 := by rw [List.length_append, bl_len]; have := HTL.out; have := HEL.out; omega
        have HB2a := Lib.hid (below_tw HB23.out hBa)
        have hsa := HB2a.out.size
        have HWS := Lib.hid (wstr_c bb _ ((⟨#[32]⟩ : ByteArray) ++ sc) Wa hBLa (by have := Hz32.out; omega) (by omega))
        clear hBa hBLa d1 d2 HIc
        go_wp2_with (go_at_call 23; refine HWS.out.mono ?_)
        rintro e_ Wb ⟨rfl, hBLb, hBb⟩
        rw [Hb1.out] at hBLb
        have HBb := Lib.hid (HB2a.out.trans hBb)
        have HBLb := Lib.hid hBLb
        clear hBb hBLb HWS HB23 HBL3 hs3 HB2a hsa
        obtain ⟨W3, hW3⟩ : ∃ W3, Wb = W3 := ⟨_, rfl⟩
        rw [hW3] at HBb HBLb ⊢
        have HB23 := HBb
        have HBL3 := HBLb
        have hs3 := HB23.out.size
        clear HBb HBLb hW3
        obtain ⟨ss, hss⟩ : ∃ s : ByteArray, s = ⟨(Lib.decDigits st).toArray⟩ := ⟨_, rfl⟩
        obtain ⟨sp, hsp⟩ : ∃ s : ByteArray, s = ⟨(Lib.decDigits pk).toArray⟩ := ⟨_, rfl⟩
        have hzs : ss.size ≤ 20 := by rw [hss]; have := dec_len st (by omega); simpa [ByteArray.size] using this
        have hzp : sp.size ≤ 20 := by rw [hsp]; have := dec_len pk (by omega); simpa [ByteArray.size] using this
        have HIs : Hid (∀ W, Laid W → Calls Tryd.prog 22 #[.int .i64 (st : Int)] W fun e w' => e = .returned (.string ss) ∧ Below W.heap.size W w') := Lib.hid (fun W hW => by rw [hss]; exact itoaN_c st (by omega) W hW)
        have HIp : Hid (∀ W, Laid W → Calls Tryd.prog 22 #[.int .i64 (pk : Int)] W fun e w' => e = .returned (.string sp) ∧ Below W.heap.size W w') := Lib.hid (fun W hW => by rw [hsp]; exact itoaN_c pk (by omega) W hW)
        have z1 : ((⟨#[10, 115, 116, 101, 112, 115, 32]⟩ : ByteArray) ++ ss).size ≤ 27 := cat_le (m := 7) (n := 20) (by decide) hzs
        have z2 : (((⟨#[10, 115, 116, 101, 112, 115, 32]⟩ : ByteArray) ++ ss) ++ (⟨#[32, 112, 105, 99, 107, 115, 32]⟩ : ByteArray)).size ≤ 34 := cat_le (m := 27) (n := 7) z1 (by decide)
        have z3 : ((((⟨#[10, 115, 116, 101, 112, 115, 32]⟩ : ByteArray) ++ ss) ++ (⟨#[32, 112, 105, 99, 107, 115, 32]⟩ : ByteArray)) ++ sp).size ≤ 54 := cat_le (m := 34) (n := 20) z2 hzp
        have z4 : (((((⟨#[10, 115, 116, 101, 112, 115, 32]⟩ : ByteArray) ++ ss) ++ (⟨#[32, 112, 105, 99, 107, 115, 32]⟩ : ByteArray)) ++ sp) ++ (⟨#[10]⟩ : ByteArray)).size ≤ 55 := cat_le (m := 54) (n := 1) z3 (by decide)
        have k1 : (⟨#[10, 115, 116, 101, 112, 115, 32]⟩ : ByteArray).size = 7 := by decide
        have k2 : (⟨#[32, 112, 105, 99, 107, 115, 32]⟩ : ByteArray).size = 7 := by decide
        have k3 : (⟨#[10]⟩ : ByteArray).size = 1 := by decide
        have HTS : Hid (bl (((((⟨#[10, 115, 116, 101, 112, 115, 32]⟩ : ByteArray) ++ ss) ++ (⟨#[32, 112, 105, 99, 107, 115, 32]⟩ : ByteArray)) ++ sp) ++ (⟨#[10]⟩ : ByteArray)) = 10 :: (tailL st pk ++ [10]) ∧ (((((⟨#[10, 115, 116, 101, 112, 115, 32]⟩ : ByteArray) ++ ss) ++ (⟨#[32, 112, 105, 99, 107, 115, 32]⟩ : ByteArray)) ++ sp) ++ (⟨#[10]⟩ : ByteArray)).size ≤ 55) := Lib.hid ⟨by simp [bl, hss, hsp, tailL, stepsL, kPicks], z4⟩
        have Hz := Lib.hid (And.intro z1 (And.intro z2 (And.intro z3 (And.intro k1 (And.intro k2 k3)))))
        clear z1 z2 z3 z4 k1 k2 k3 hss hsp
        have HFUL : Hid (((traceT L ++ bl se) ++ 32 :: Lib.itoa c) ++ (10 :: (tailL st pk ++ [10])) = repF L 2 c st pk) := Lib.hid (by unfold repF endL; rw [if_pos rfl, HSE.out]; simp)
        have HXL : Hid (((traceT L ++ bl se) ++ 32 :: Lib.itoa c).length ≤ 1099512676500) := Lib.hid (by
          rw [List.length_append]
          have h7 : (32 :: Lib.itoa c).length = ((⟨#[32]⟩ : ByteArray) ++ sc).size := by rw [← Hb1.out, bl_len]
          have := Hz32.out
          omega)
        go_wp2_with fail
        refine wp_region_held_drew (S := (fun w' => Below bb W2 w' ∧ w'.cell? ⟨q0, 3, none⟩ = some (.int .i64 (st : Int)) ∧ w'.cell? ⟨q0, 4, none⟩ = some (.int .i64 (pk : Int)))) (by kernel_rfl) ?_ (fun hHeld => ?_)
        · exact ⟨HB23.out.drew, (HB23.out.cell (p := ⟨q0, 3, none⟩) hq1).trans E3.out, (HB23.out.cell (p := ⟨q0, 4, none⟩) hq1).trans E4.out⟩
        have HBW4 := Lib.hid (show Below bb W2 W3.drew from HB23.out.drew)
        have HBLW4 : Hid (BldAt bb W3.drew _) := HBL3
        obtain ⟨W4, hW4⟩ : ∃ W4, W4 = W3.drew := ⟨_, rfl⟩
        rw [← hW4] at HBW4 HBLW4 hHeld ⊢
        clear hW4
        refine h_yes 0 70 (v := ?_) rfl rfl (by kernel_rfl) (by kernel_rfl) (by kernel_rfl) (fun _ _ _ h => h) (by kernel_rfl) (by assumption) ?_ ?_
        rotate_left 1
        · (intro w hSw; (try dsimp only at hSw); obtain ⟨hS1, hS2, hS3⟩ := hSw; go_simp; try with_reducible rfl)
        try simp only [Act.put, List.setIfInBounds_toArray, List.set_cons_zero, List.set_cons_succ]
        refine h_yes 1 71 (v := ?_) rfl rfl (by kernel_rfl) (by kernel_rfl) (by kernel_rfl) (fun _ _ _ h => h) (by kernel_rfl) (by assumption) ?_ ?_
        rotate_left 1
        · (intro w hSw; (try dsimp only at hSw); obtain ⟨hS1, hS2, hS3⟩ := hSw; go_simp; try with_reducible rfl)
        try simp only [Act.put, List.setIfInBounds_toArray, List.set_cons_zero, List.set_cons_succ]
        refine h_yes 5 75 (v := ?_) rfl rfl (by kernel_rfl) (by kernel_rfl) (by kernel_rfl) (fun _ _ _ h => h) (by kernel_rfl) (by assumption) ?_ ?_
        rotate_left 1
        · (intro w hSw; (try dsimp only at hSw); obtain ⟨hS1, hS2, hS3⟩ := hSw; go_simp; try with_reducible rfl)
        try simp only [Act.put, List.setIfInBounds_toArray, List.set_cons_zero, List.set_cons_succ]
        refine h_yes 6 76 (v := ?_) rfl rfl (by kernel_rfl) (by kernel_rfl) (by kernel_rfl) (fun _ _ _ h => h) (by kernel_rfl) (by assumption) ?_ ?_
        rotate_left 1
        · (intro w hSw; (try dsimp only at hSw); obtain ⟨hS1, hS2, hS3⟩ := hSw; go_simp; try with_reducible rfl)
        try simp only [Act.put, List.setIfInBounds_toArray, List.set_cons_zero, List.set_cons_succ]
        refine h_step 2 rfl (by kernel_rfl) (by kernel_rfl) (fun K hK => ?_)
        go_simp
        refine (HIs.out W4 (laid_bb HL2.out HBW4.out (by omega))).mono ?_
        rintro e_ W5 ⟨rfl, hiW5⟩
        have hsW4 := HBW4.out.size
        have HBW5 := Lib.hid (below_tw HBW4.out hiW5)
        have HBLW5 := Lib.hid (bldAt_below HBLW4.out hiW5)
        clear hiW5
        refine hK.out _ _ ⟨HBW5.out, (HBW5.out.cell (p := ⟨q0, 3, none⟩) hq1).trans E3.out, (HBW5.out.cell (p := ⟨q0, 4, none⟩) hq1).trans E4.out⟩ (fun hHeld => ?_)
        clear hK K
        try simp only [Act.put, List.setIfInBounds_toArray, List.set_cons_zero, List.set_cons_succ]
        refine h_yes 3 73 (v := .string ((⟨#[10, 115, 116, 101, 112, 115, 32]⟩ : ByteArray) ++ ss)) rfl rfl (by kernel_rfl) (by kernel_rfl) (by kernel_rfl) (fun _ _ _ h => h) (by kernel_rfl) (by assumption) (fun w _ => hy_cat rfl rfl rfl (by obtain ⟨z1, z2, z3, k1, k2, k3⟩ := Hz.out; have := hzs; have := hzp; omega)) ?_
        try simp only [Act.put, List.setIfInBounds_toArray, List.set_cons_zero, List.set_cons_succ]
        refine h_yes 4 74 (v := .string (((⟨#[10, 115, 116, 101, 112, 115, 32]⟩ : ByteArray) ++ ss) ++ (⟨#[32, 112, 105, 99, 107, 115, 32]⟩ : ByteArray))) rfl rfl (by kernel_rfl) (by kernel_rfl) (by kernel_rfl) (fun _ _ _ h => h) (by kernel_rfl) (by assumption) (fun w _ => hy_cat rfl rfl rfl (by obtain ⟨z1, z2, z3, k1, k2, k3⟩ := Hz.out; have := hzs; have := hzp; omega)) ?_
        try simp only [Act.put, List.setIfInBounds_toArray, List.set_cons_zero, List.set_cons_succ]
        refine h_step 7 rfl (by kernel_rfl) (by kernel_rfl) (fun K hK => ?_)
        go_simp
        refine (HIp.out W5 (laid_bb HL2.out HBW5.out (by omega))).mono ?_
        rintro e_ W6 ⟨rfl, hiW6⟩
        have hsW5 := HBW5.out.size
        have HBW6 := Lib.hid (below_tw HBW5.out hiW6)
        have HBLW6 := Lib.hid (bldAt_below HBLW5.out hiW6)
        clear hiW6
        refine hK.out _ _ ⟨HBW6.out, (HBW6.out.cell (p := ⟨q0, 3, none⟩) hq1).trans E3.out, (HBW6.out.cell (p := ⟨q0, 4, none⟩) hq1).trans E4.out⟩ (fun hHeld => ?_)
        clear hK K
        try simp only [Act.put, List.setIfInBounds_toArray, List.set_cons_zero, List.set_cons_succ]
        refine h_yes 8 78 (v := .string ((((⟨#[10, 115, 116, 101, 112, 115, 32]⟩ : ByteArray) ++ ss) ++ (⟨#[32, 112, 105, 99, 107, 115, 32]⟩ : ByteArray)) ++ sp)) rfl rfl (by kernel_rfl) (by kernel_rfl) (by kernel_rfl) (fun _ _ _ h => h) (by kernel_rfl) (by assumption) (fun w _ => hy_cat rfl rfl rfl (by obtain ⟨z1, z2, z3, k1, k2, k3⟩ := Hz.out; have := hzs; have := hzp; omega)) ?_
        try simp only [Act.put, List.setIfInBounds_toArray, List.set_cons_zero, List.set_cons_succ]
        refine h_yes 9 79 (v := .string (((((⟨#[10, 115, 116, 101, 112, 115, 32]⟩ : ByteArray) ++ ss) ++ (⟨#[32, 112, 105, 99, 107, 115, 32]⟩ : ByteArray)) ++ sp) ++ (⟨#[10]⟩ : ByteArray))) rfl rfl (by kernel_rfl) (by kernel_rfl) (by kernel_rfl) (fun _ _ _ h => h) (by kernel_rfl) (by assumption) (fun w _ => hy_cat rfl rfl rfl (by obtain ⟨z1, z2, z3, k1, k2, k3⟩ := Hz.out; have := hzs; have := hzp; omega)) ?_
        try simp only [Act.put, List.setIfInBounds_toArray, List.set_cons_zero, List.set_cons_succ]
        refine h_step 10 rfl (by kernel_rfl) (by kernel_rfl) (fun K hK => ?_)
        go_simp
        have hs6 := HBW6.out.size
        refine (wstr_c bb _ _ W6 HBLW6.out (by have := HXL.out; have := HTS.out.2; omega) (by omega)).mono ?_
        rintro e_ W7 ⟨rfl, hbl7, hB7⟩
        rw [HTS.out.1, HFUL.out] at hbl7
        have HBW7 := Lib.hid (HBW6.out.trans hB7)
        have HBL7 := Lib.hid hbl7
        clear hbl7 hB7
        refine hK.out _ _ ⟨HBW7.out, (HBW7.out.cell (p := ⟨q0, 3, none⟩) hq1).trans E3.out, (HBW7.out.cell (p := ⟨q0, 4, none⟩) hq1).trans E4.out⟩ (fun hHeld => ?_)
        clear hK K
        try simp only [Act.put, List.setIfInBounds_toArray, List.set_cons_zero, List.set_cons_succ]
        refine wpAnyH_done (by kernel_rfl) ?_ _
        clear HBLW4 HBLW5 HBLW6 HBL3 HBW4 HBW5 HBW6 hsW4 hsW5 hHeld
        obtain ⟨N, hNN⟩ : ∃ N, (repF L 2 c st pk).length = N := ⟨_, rfl⟩
        have hs7 := HBW7.out.size
        have HLEN : Hid (Calls Tryd.prog 24 #[.pointer (some ⟨bb, 0, none⟩)] W7 fun e w' => e = .returned (.int .i64 (N : Int)) ∧ w' = W7) := Lib.hid (by have := Tryd.Builder_Len bb bb _ W7 HBL7.out; rw [Lib.byteCells_length, hNN] at this; exact this)
        have HSTR := Lib.hid (Tryd.Builder_String_any bb bb _ W7 HBL7.out (by omega))
        have HNN := Lib.hid hNN
        have hN64 : N ≤ 140737488355328 := by rw [← hNN, ← HFUL.out, List.length_append, ← HTS.out.1, bl_len]; have := HXL.out; have := HTS.out.2; omega
        clear hNN
        by_cases hgt : 65536 < N
        · have hgti : (65536 : Int) < (N : Int) := by omega
          have Hts : Hid (repS L 2 c st pk = ([], 6)) := Lib.hid (repS_long HHD.out HALL.out (by rw [HNN.out]; exact hgt))
          go_wp2_with (first | (go_at_call 24; refine (HLEN.out).mono ?_; rintro e_ w' ⟨rfl, rfl⟩))
          go_ret2
          refine ⟨by rw [Hts.out]; try rfl, ?_⟩
          rw [Hq0.out]
          exact HB2.out.trans (HBW7.out.mono (by omega))
        · have hgti : ¬ (65536 : Int) < (N : Int) := by omega
          have hgti2 : (N : Int) ≤ (65536 : Int) := by omega
          have Hts : Hid (repS L 2 c st pk = (repF L 2 c st pk, 0)) := Lib.hid (repS_fit HHD.out HALL.out (by rw [HNN.out]; omega))
          go_wp2_with (first | (go_at_call 24; refine (HLEN.out).mono ?_; rintro e_ w' ⟨rfl, rfl⟩) | (go_at_call 25; refine (HSTR.out).mono ?_; rintro e_ W8 ⟨rfl, hB8⟩))
          go_ret2
          refine ⟨by rw [Hts.out]; try rfl, ?_⟩
          rw [Hq0.out]
          exact HB2.out.trans ((HBW7.out.trans hB8).mono (by omega))
set_option maxRecDepth 20000 in
set_option maxHeartbeats 8000000 in
theorem rp_goodBF (v : Value) (L : List (List UInt8)) (c : Int) (st pk : Nat) (w : World) (h : Laid w) (hv : StrA w v L) (hn : L.length ≤ 1048576) (hz : ∀ x ∈ L, x.length ≤ 1048576) (hcz : (c != 0) = false) (hc0 : -9223372036854775808 ≤ c) (hc1 : c ≤ 9223372036854775807) (hs : st ≤ 2147483647) (hp : pk ≤ 2147483647) :
    Calls Tryd.prog 16 #[.agg #[v, .int .i64 (2 : Int), .int .i64 c, .int .i64 (st : Int), .int .i64 (pk : Int)]] w (RP L 2 c st pk w) := by
  have HHD := Lib.hid (headOK_of (k := 2) (c := c) (by omega) (by omega) (.inr rfl) hs hp)
  have lk : decide ((2 : Int) < 1) = false := decide_eq_false (by omega)
  have gk : decide ((5 : Int) < (2 : Int)) = false := decide_eq_false (by omega)
  have lk2 : ¬ (2 : Int) < 1 := by omega
  have gk2 : ¬ (5 : Int) < (2 : Int) := by omega
  have hst0 : (0 : Int) ≤ (st : Int) := by omega
  have hpk0 : (0 : Int) ≤ (pk : Int) := by omega
  have hst1 : (st : Int) ≤ 2147483647 := by omega
  have hpk1 : (pk : Int) ≤ 2147483647 := by omega
  have hmin : decide (min (st : Int) (pk : Int) < 0) = false := decide_eq_false (by omega)
  have hmax : decide ((2147483647 : Int) < max (st : Int) (pk : Int)) = false := decide_eq_false (by omega)
  have HX0 := Lib.hid hv
  obtain ⟨p0, cap, rfl, hv⟩ := hv
  obtain ⟨n, hN⟩ : ∃ n, L.length = n := ⟨_, rfl⟩
  have h9 := h.size
  have HN := Lib.hid hN
  have HLd := Lib.hid h
  have HZ := Lib.hid hz
  have HNL := Lib.hid hn
  rw [hN] at hn ⊢
  clear hv hN h hz
  go_enter Tryd.func16, Tryd.ntmps16
  go_wp2_with fail
  obtain ⟨W0, hW0⟩ : ∃ W0, W0 = w.alloc (.cells #[.slice p0 n cap, .int .i64 (2 : Int), .int .i64 c, .int .i64 (st : Int), .int .i64 (pk : Int)] 39) := ⟨_, rfl⟩
  rw [← hW0]
  have hB0 : Below w.heap.size w W0 := by rw [hW0]; exact (Below.refl _ _).alloc (Nat.le_refl _) _
  have hz0 : W0.heap.size = w.heap.size + 1 := by rw [hW0]; simp
  have hr0 : W0.heap[w.heap.size]? = some (.cells #[.slice p0 n cap, .int .i64 (2 : Int), .int .i64 c, .int .i64 (st : Int), .int .i64 (pk : Int)] 39 (0, 0)) := by
    rw [hW0]
    show (w.heap.push _)[w.heap.size]? = _
    rw [Array.getElem?_push_size]
  have HXA := Lib.hid (strA_below HX0.out hB0)
  rw [HN.out] at HXA
  obtain ⟨q0, hq0⟩ : ∃ q0, w.heap.size = q0 := ⟨_, rfl⟩
  have HL0 := Lib.hid (HLd.out.below hB0)
  rw [hq0] at hB0 hz0 hr0 h9 ⊢
  have Hq0 := Lib.hid hq0
  have HB0 := Lib.hid hB0
  have HCC := Lib.hid (cong_c (.slice p0 n cap) L W0 HL0.out (by rw [HN.out]; omega) (fun x hx => Nat.le_trans (HZ.out x hx) (by decide)) HXA.out)
  obtain ⟨t, ht⟩ : ∃ t, L.all toldP = t := ⟨_, rfl⟩
  rw [ht] at HCC
  have HALL := Lib.hid ht
  clear hW0 hq0 hB0 ht
  refine HCC.out.mono ?_
  rintro e_ W1 ⟨rfl, hB1⟩
  have hr1 : W1.heap[q0]? = _ := (hB1.block q0 (by omega)).trans hr0
  have hz1 := hB1.size
  have HL1 := Lib.hid (HL0.out.below hB1)
  have HX1 := Lib.hid (strA_below HXA.out hB1)
  have HB1 := Lib.hid (HB0.out.trans (hB1.mono (by omega)))
  have hd : W1.cell? ⟨q0, 0, none⟩ = some (.slice p0 n cap) ∧ W1.cell? ⟨q0, 1, none⟩ = some (.int .i64 (2 : Int)) ∧ W1.cell? ⟨q0, 2, none⟩ = some (.int .i64 c) ∧ W1.cell? ⟨q0, 3, none⟩ = some (.int .i64 (st : Int)) ∧ W1.cell? ⟨q0, 4, none⟩ = some (.int .i64 (pk : Int)) := by
    unfold World.cell?
    rw [hr1]
    exact ⟨rfl, rfl, rfl, rfl, rfl⟩
  obtain ⟨d0, d1, d2, d3, d4⟩ := hd
  clear hr0 hr1 hB1 HCC
  cases t with
  | false =>
    go_wp2
    go_ret2
    refine ⟨by rw [repS_tr HALL.out]; try rfl, ?_⟩
    rw [Hq0.out]; exact HB1.out
  | true =>
    have hbn := bldAt_new W1
    have hq1 : q0 < W1.heap.size := by omega
    go_wp2_with fail
    obtain ⟨W2, hW2⟩ : ∃ W2, W2 = W1.alloc (.cells #[.pointer none, .slice none 0 0] 65) := ⟨_, rfl⟩
    rw [← hW2] at hbn ⊢
    have hBx : Below W1.heap.size W1 W2 := by rw [hW2]; exact (Below.refl _ _).alloc (Nat.le_refl _) _
    have hz2 : W2.heap.size = W1.heap.size + 1 := by rw [hW2]; simp
    obtain ⟨e0, e1, e2, e3, e4⟩ := And.intro ((hBx.cell (p := ⟨q0, 0, none⟩) hq1).trans d0) (And.intro ((hBx.cell (p := ⟨q0, 1, none⟩) hq1).trans d1) (And.intro ((hBx.cell (p := ⟨q0, 2, none⟩) hq1).trans d2) (And.intro ((hBx.cell (p := ⟨q0, 3, none⟩) hq1).trans d3) ((hBx.cell (p := ⟨q0, 4, none⟩) hq1).trans d4))))
    have HL2 := Lib.hid (HL1.out.below hBx)
    have HB2 := Lib.hid (HB1.out.trans (hBx.mono (by omega)))
    have HX2 : Hid (L = [] ∨ ∃ g o, p0 = some ⟨g, o, none⟩ ∧ ∀ (i : Nat) (z : List UInt8), L[i]? = some z → W2.cell? ⟨g, o + i, none⟩ = some (.string ⟨z.toArray⟩) ∧ g < W1.heap.size) := Lib.hid (by
      obtain ⟨p', c', he, h2⟩ := HX1.out
      injection he with he1 he2 he3
      subst he1
      refine h2.imp id ?_
      rintro ⟨g, o, h3, h4⟩
      exact ⟨g, o, h3, fun i z hz => ⟨(hBx.cell (p := ⟨g, o + i, none⟩) (Lib.lt_of_cell (h4 i z hz))).trans (h4 i z hz), Lib.lt_of_cell (h4 i z hz)⟩⟩)
    obtain ⟨bb, hbb⟩ : ∃ bb, W1.heap.size = bb := ⟨_, rfl⟩
    rw [hbb] at hbn hz2 hq1 HX2 ⊢
    clear hW2 hBx d0 d1 d2 d3 d4 hbb
    have E0 := Lib.hid e0
    have E1 := Lib.hid e1
    have E2 := Lib.hid e2
    have E3 := Lib.hid e3
    have E4 := Lib.hid e4
    have HBN := Lib.hid hbn
    clear e0 e1 e2 e3 e4 hbn
    go_loopw [49] (fun i wr => ∃ j : Nat, i = .int .i64 j ∧ j ≤ n ∧ Hid (BldAt bb wr (traceT (L.take j))) ∧ Hid (Below bb W2 wr)) (fun i _ => n - (intOf i).toNat)
    case atStart => exact ⟨0, rfl, by omega, Lib.hid (by simpa [traceT] using HBN.out), Lib.hid (Below.refl _ _)⟩
    case round =>
      obtain ⟨j, rfl, hj, hbl, hBr⟩ := hrel
      by_cases hlt : j < n
      · have hlti : (j : Int) < (n : Int) := by omega
        obtain ⟨x, hx⟩ : ∃ x, L[j]? = some x := ⟨_, List.getElem?_eq_getElem (by have := HN.out; omega)⟩
        obtain ⟨g1, o1, rfl, hg1⟩ := HX2.out.resolve_left (fun e => by have := HN.out; rw [e] at this; simp at this; omega)
        have qq := hg1 j x hx
        have q1 : wr.cell? ⟨g1, o1 + j, none⟩ = some (.string ⟨x.toArray⟩) := (hBr.out.cell (p := ⟨g1, o1 + j, none⟩) qq.2).trans qq.1
        have hxs : x.length ≤ 1048576 := HZ.out x (List.mem_of_getElem? hx)
        have hxs2 : (⟨x.toArray⟩ : ByteArray).size ≤ 1048576 := by rw [← bl_len, bl_mkx]; exact hxs
        have hcl : ((⟨x.toArray⟩ : ByteArray) ++ ⟨#[10]⟩).size ≤ 1048577 := cat_le (m := 1048576) (n := 1) hxs2 (by decide)
        have hadd : ¬ (9223372036854775807 < (⟨x.toArray⟩ : ByteArray).size + 1) := by omega
        have htl := traceT_len (L.take j) 1048576 (fun y hy => HZ.out y (List.mem_of_mem_take hy))
        rw [List.length_take, HN.out] at htl
        have htl2 : (traceT (L.take j)).length ≤ 1099512676352 := by
          have : (1048576 + 1) * min j n ≤ 1048577 * 1048576 := Nat.mul_le_mul_left _ (by omega)
          omega
        have HW := Lib.hid (wstr_c bb (traceT (L.take j)) ((⟨x.toArray⟩ : ByteArray) ++ ⟨#[10]⟩) wr hbl.out (by omega) (by have := hBr.out.size; omega))
        have HNX := Lib.hid (traceT_next L j x hx)
        clear hg1 qq hx hxs hcl htl htl2
        go_wp2_with (go_at_call 23; refine HW.out.mono ?_)
        rintro e_ W3 ⟨rfl, hbl3, hB3⟩
        have HBL3 : Hid (BldAt bb W3 (traceT (L.take (j + 1)))) := Lib.hid (by
          rw [HNX.out]
          have h7 : bl ((⟨x.toArray⟩ : ByteArray) ++ ⟨#[10]⟩) = x ++ [10] := by simp [bl]
          rw [← h7]
          exact hbl3)
        have HB3 := Lib.hid (hBr.out.trans hB3)
        clear hbl3 hB3 HW
        go_wp2
        exact ⟨⟨j + 1, by go_num, by omega, HBL3, HB3⟩, by simp [intOf]; omega⟩
      · obtain rfl : j = n := by omega
        have htk : L.take j = L := List.take_of_length_le (by rw [HN.out]; exact Nat.le_refl _)
        rw [htk] at hbl
        have htl := traceT_len L 1048576 HZ.out
        rw [HN.out] at htl
        have HTL : Hid ((traceT L).length ≤ 1099512676352) := Lib.hid (by
          have : (1048576 + 1) * j ≤ 1048577 * 1048576 := Nat.mul_le_mul_left _ (by omega)
          omega)
        have e0 : wr.cell? ⟨q0, 0, none⟩ = some (.slice p0 j cap) := (hBr.out.cell (p := ⟨q0, 0, none⟩) hq1).trans E0.out
        have e1 : wr.cell? ⟨q0, 1, none⟩ = some (.int .i64 (2 : Int)) := (hBr.out.cell (p := ⟨q0, 1, none⟩) hq1).trans E1.out
        have HLr := Lib.hid (laid_bb HL2.out hBr.out (by have := HL2.out.size; omega))
        have hen := laid_end HLr.out 2 (by omega)
        have hsr := hBr.out.size
        have hel := endS_len 2 (by omega)
        rw [bl_len] at hel
        have hki : (2 : Int) < 6 := by omega
        have hki0 : (0 : Int) ≤ (2 : Int) := by omega
        have HW := Lib.hid (wstr_c bb (traceT L) (endS 2) wr hbl.out (by have := HTL.out; omega) (by omega))
        obtain ⟨se, hse⟩ : ∃ s, endS 2 = s := ⟨_, rfl⟩
        rw [hse] at hen HW hel
        have HSE := Lib.hid hse
        have HEL := Lib.hid hel
        clear htk htl hse hel
        go_wp2_with (go_at_call 23; refine HW.out.mono ?_)
        rintro e_ W3 ⟨rfl, hbl3, hB3⟩
        have HB23 := Lib.hid (hBr.out.trans hB3)
        have HBL3 := Lib.hid hbl3
        have hs3 := HB23.out.size
        have d1 : W3.cell? ⟨q0, 1, none⟩ = some (.int .i64 (2 : Int)) := (HB23.out.cell (p := ⟨q0, 1, none⟩) hq1).trans E1.out
        have d2 : W3.cell? ⟨q0, 2, none⟩ = some (.int .i64 c) := (HB23.out.cell (p := ⟨q0, 2, none⟩) hq1).trans E2.out
        clear hbl3 hB3 e0 e1 hen HW hBr hbl
        obtain ⟨sc, hsc⟩ : ∃ s : ByteArray, s = ⟨(Lib.itoa c).toArray⟩ := ⟨_, rfl⟩
        have hzc : sc.size ≤ 21 := by rw [hsc]; have := itoa_len20 c hc0 hc1; simpa [ByteArray.size] using this
        have HLa := Lib.hid (laid_bb HL2.out HB23.out (by have := HL2.out.size; omega))
        have HIc : Hid (Calls Tryd.prog 38 #[.int .i64 c, .int .i64 10] W3 fun e w' => e = .returned (.string sc) ∧ Below W3.heap.size W3 w') := Lib.hid (by rw [hsc]; exact fint_c c W3 HLa.out hc0 hc1)
        have hb1 : bl ((⟨#[32]⟩ : ByteArray) ++ sc) = 32 :: Lib.itoa c := by rw [hsc]; simp [bl]
        have hz32 : ((⟨#[32]⟩ : ByteArray) ++ sc).size ≤ 22 := cat_le (m := 1) (n := 21) (by decide) hzc
        have hadd : ¬ (9223372036854775807 < 1 + sc.size) := by omega
        have Hb1 := Lib.hid hb1
        have Hz32 := Lib.hid hz32
        clear hsc hb1 hz32
        go_wp2_with (go_at_call 38; refine HIc.out.mono ?_)
        rintro e_ Wa ⟨rfl, hBa⟩
        have hBLa := bldAt_below HBL3.out hBa
        have hBLl : (traceT L ++ bl se).length ≤ 1099512676400 := by rw [List.length_append, bl_len]; have := HTL.out; have := HEL.out; omega
        have HB2a := Lib.hid (below_tw HB23.out hBa)
        have hsa := HB2a.out.size
        have HWS := Lib.hid (wstr_c bb _ ((⟨#[32]⟩ : ByteArray) ++ sc) Wa hBLa (by have := Hz32.out; omega) (by omega))
        clear hBa hBLa d1 d2 HIc
        go_wp2_with (go_at_call 23; refine HWS.out.mono ?_)
        rintro e_ Wb ⟨rfl, hBLb, hBb⟩
        rw [Hb1.out] at hBLb
        have HBb := Lib.hid (HB2a.out.trans hBb)
        have HBLb := Lib.hid hBLb
        clear hBb hBLb HWS HB23 HBL3 hs3 HB2a hsa
        obtain ⟨W3, hW3⟩ : ∃ W3, Wb = W3 := ⟨_, rfl⟩
        rw [hW3] at HBb HBLb ⊢
        have HB23 := HBb
        have HBL3 := HBLb
        have hs3 := HB23.out.size
        clear HBb HBLb hW3
        obtain ⟨ss, hss⟩ : ∃ s : ByteArray, s = ⟨(Lib.decDigits st).toArray⟩ := ⟨_, rfl⟩
        obtain ⟨sp, hsp⟩ : ∃ s : ByteArray, s = ⟨(Lib.decDigits pk).toArray⟩ := ⟨_, rfl⟩
        have hzs : ss.size ≤ 20 := by rw [hss]; have := dec_len st (by omega); simpa [ByteArray.size] using this
        have hzp : sp.size ≤ 20 := by rw [hsp]; have := dec_len pk (by omega); simpa [ByteArray.size] using this
        have HIs : Hid (∀ W, Laid W → Calls Tryd.prog 22 #[.int .i64 (st : Int)] W fun e w' => e = .returned (.string ss) ∧ Below W.heap.size W w') := Lib.hid (fun W hW => by rw [hss]; exact itoaN_c st (by omega) W hW)
        have HIp : Hid (∀ W, Laid W → Calls Tryd.prog 22 #[.int .i64 (pk : Int)] W fun e w' => e = .returned (.string sp) ∧ Below W.heap.size W w') := Lib.hid (fun W hW => by rw [hsp]; exact itoaN_c pk (by omega) W hW)
        have z1 : ((⟨#[10, 115, 116, 101, 112, 115, 32]⟩ : ByteArray) ++ ss).size ≤ 27 := cat_le (m := 7) (n := 20) (by decide) hzs
        have z2 : (((⟨#[10, 115, 116, 101, 112, 115, 32]⟩ : ByteArray) ++ ss) ++ (⟨#[32, 112, 105, 99, 107, 115, 32]⟩ : ByteArray)).size ≤ 34 := cat_le (m := 27) (n := 7) z1 (by decide)
        have z3 : ((((⟨#[10, 115, 116, 101, 112, 115, 32]⟩ : ByteArray) ++ ss) ++ (⟨#[32, 112, 105, 99, 107, 115, 32]⟩ : ByteArray)) ++ sp).size ≤ 54 := cat_le (m := 34) (n := 20) z2 hzp
        have z4 : (((((⟨#[10, 115, 116, 101, 112, 115, 32]⟩ : ByteArray) ++ ss) ++ (⟨#[32, 112, 105, 99, 107, 115, 32]⟩ : ByteArray)) ++ sp) ++ (⟨#[10]⟩ : ByteArray)).size ≤ 55 := cat_le (m := 54) (n := 1) z3 (by decide)
        have k1 : (⟨#[10, 115, 116, 101, 112, 115, 32]⟩ : ByteArray).size = 7 := by decide
        have k2 : (⟨#[32, 112, 105, 99, 107, 115, 32]⟩ : ByteArray).size = 7 := by decide
        have k3 : (⟨#[10]⟩ : ByteArray).size = 1 := by decide
        have HTS : Hid (bl (((((⟨#[10, 115, 116, 101, 112, 115, 32]⟩ : ByteArray) ++ ss) ++ (⟨#[32, 112, 105, 99, 107, 115, 32]⟩ : ByteArray)) ++ sp) ++ (⟨#[10]⟩ : ByteArray)) = 10 :: (tailL st pk ++ [10]) ∧ (((((⟨#[10, 115, 116, 101, 112, 115, 32]⟩ : ByteArray) ++ ss) ++ (⟨#[32, 112, 105, 99, 107, 115, 32]⟩ : ByteArray)) ++ sp) ++ (⟨#[10]⟩ : ByteArray)).size ≤ 55) := Lib.hid ⟨by simp [bl, hss, hsp, tailL, stepsL, kPicks], z4⟩
        have Hz := Lib.hid (And.intro z1 (And.intro z2 (And.intro z3 (And.intro k1 (And.intro k2 k3)))))
        clear z1 z2 z3 z4 k1 k2 k3 hss hsp
        have HFUL : Hid (((traceT L ++ bl se) ++ 32 :: Lib.itoa c) ++ (10 :: (tailL st pk ++ [10])) = repF L 2 c st pk) := Lib.hid (by unfold repF endL; rw [if_pos rfl, HSE.out]; simp)
        have HXL : Hid (((traceT L ++ bl se) ++ 32 :: Lib.itoa c).length ≤ 1099512676500) := Lib.hid (by
          rw [List.length_append]
          have h7 : (32 :: Lib.itoa c).length = ((⟨#[32]⟩ : ByteArray) ++ sc).size := by rw [← Hb1.out, bl_len]
          have := Hz32.out
          omega)
        go_wp2_with fail
        refine wp_region_held_drew (S := (fun w' => Below bb W2 w' ∧ w'.cell? ⟨q0, 3, none⟩ = some (.int .i64 (st : Int)) ∧ w'.cell? ⟨q0, 4, none⟩ = some (.int .i64 (pk : Int)))) (by kernel_rfl) ?_ (fun hHeld => ?_)
        · exact ⟨HB23.out.drew, (HB23.out.cell (p := ⟨q0, 3, none⟩) hq1).trans E3.out, (HB23.out.cell (p := ⟨q0, 4, none⟩) hq1).trans E4.out⟩
        have HBW4 := Lib.hid (show Below bb W2 W3.drew from HB23.out.drew)
        have HBLW4 : Hid (BldAt bb W3.drew _) := HBL3
        obtain ⟨W4, hW4⟩ : ∃ W4, W4 = W3.drew := ⟨_, rfl⟩
        rw [← hW4] at HBW4 HBLW4 hHeld ⊢
        clear hW4
        refine h_yes 0 70 (v := ?_) rfl rfl (by kernel_rfl) (by kernel_rfl) (by kernel_rfl) (fun _ _ _ h => h) (by kernel_rfl) (by assumption) ?_ ?_
        rotate_left 1
        · (intro w hSw; (try dsimp only at hSw); obtain ⟨hS1, hS2, hS3⟩ := hSw; go_simp; try with_reducible rfl)
        try simp only [Act.put, List.setIfInBounds_toArray, List.set_cons_zero, List.set_cons_succ]
        refine h_yes 1 71 (v := ?_) rfl rfl (by kernel_rfl) (by kernel_rfl) (by kernel_rfl) (fun _ _ _ h => h) (by kernel_rfl) (by assumption) ?_ ?_
        rotate_left 1
        · (intro w hSw; (try dsimp only at hSw); obtain ⟨hS1, hS2, hS3⟩ := hSw; go_simp; try with_reducible rfl)
        try simp only [Act.put, List.setIfInBounds_toArray, List.set_cons_zero, List.set_cons_succ]
        refine h_yes 5 75 (v := ?_) rfl rfl (by kernel_rfl) (by kernel_rfl) (by kernel_rfl) (fun _ _ _ h => h) (by kernel_rfl) (by assumption) ?_ ?_
        rotate_left 1
        · (intro w hSw; (try dsimp only at hSw); obtain ⟨hS1, hS2, hS3⟩ := hSw; go_simp; try with_reducible rfl)
        try simp only [Act.put, List.setIfInBounds_toArray, List.set_cons_zero, List.set_cons_succ]
        refine h_yes 6 76 (v := ?_) rfl rfl (by kernel_rfl) (by kernel_rfl) (by kernel_rfl) (fun _ _ _ h => h) (by kernel_rfl) (by assumption) ?_ ?_
        rotate_left 1
        · (intro w hSw; (try dsimp only at hSw); obtain ⟨hS1, hS2, hS3⟩ := hSw; go_simp; try with_reducible rfl)
        try simp only [Act.put, List.setIfInBounds_toArray, List.set_cons_zero, List.set_cons_succ]
        refine h_step 2 rfl (by kernel_rfl) (by kernel_rfl) (fun K hK => ?_)
        go_simp
        refine (HIs.out W4 (laid_bb HL2.out HBW4.out (by omega))).mono ?_
        rintro e_ W5 ⟨rfl, hiW5⟩
        have hsW4 := HBW4.out.size
        have HBW5 := Lib.hid (below_tw HBW4.out hiW5)
        have HBLW5 := Lib.hid (bldAt_below HBLW4.out hiW5)
        clear hiW5
        refine hK.out _ _ ⟨HBW5.out, (HBW5.out.cell (p := ⟨q0, 3, none⟩) hq1).trans E3.out, (HBW5.out.cell (p := ⟨q0, 4, none⟩) hq1).trans E4.out⟩ (fun hHeld => ?_)
        clear hK K
        try simp only [Act.put, List.setIfInBounds_toArray, List.set_cons_zero, List.set_cons_succ]
        refine h_yes 3 73 (v := .string ((⟨#[10, 115, 116, 101, 112, 115, 32]⟩ : ByteArray) ++ ss)) rfl rfl (by kernel_rfl) (by kernel_rfl) (by kernel_rfl) (fun _ _ _ h => h) (by kernel_rfl) (by assumption) (fun w _ => hy_cat rfl rfl rfl (by obtain ⟨z1, z2, z3, k1, k2, k3⟩ := Hz.out; have := hzs; have := hzp; omega)) ?_
        try simp only [Act.put, List.setIfInBounds_toArray, List.set_cons_zero, List.set_cons_succ]
        refine h_yes 4 74 (v := .string (((⟨#[10, 115, 116, 101, 112, 115, 32]⟩ : ByteArray) ++ ss) ++ (⟨#[32, 112, 105, 99, 107, 115, 32]⟩ : ByteArray))) rfl rfl (by kernel_rfl) (by kernel_rfl) (by kernel_rfl) (fun _ _ _ h => h) (by kernel_rfl) (by assumption) (fun w _ => hy_cat rfl rfl rfl (by obtain ⟨z1, z2, z3, k1, k2, k3⟩ := Hz.out; have := hzs; have := hzp; omega)) ?_
        try simp only [Act.put, List.setIfInBounds_toArray, List.set_cons_zero, List.set_cons_succ]
        refine h_step 7 rfl (by kernel_rfl) (by kernel_rfl) (fun K hK => ?_)
        go_simp
        refine (HIp.out W5 (laid_bb HL2.out HBW5.out (by omega))).mono ?_
        rintro e_ W6 ⟨rfl, hiW6⟩
        have hsW5 := HBW5.out.size
        have HBW6 := Lib.hid (below_tw HBW5.out hiW6)
        have HBLW6 := Lib.hid (bldAt_below HBLW5.out hiW6)
        clear hiW6
        refine hK.out _ _ ⟨HBW6.out, (HBW6.out.cell (p := ⟨q0, 3, none⟩) hq1).trans E3.out, (HBW6.out.cell (p := ⟨q0, 4, none⟩) hq1).trans E4.out⟩ (fun hHeld => ?_)
        clear hK K
        try simp only [Act.put, List.setIfInBounds_toArray, List.set_cons_zero, List.set_cons_succ]
        refine h_yes 8 78 (v := .string ((((⟨#[10, 115, 116, 101, 112, 115, 32]⟩ : ByteArray) ++ ss) ++ (⟨#[32, 112, 105, 99, 107, 115, 32]⟩ : ByteArray)) ++ sp)) rfl rfl (by kernel_rfl) (by kernel_rfl) (by kernel_rfl) (fun _ _ _ h => h) (by kernel_rfl) (by assumption) (fun w _ => hy_cat rfl rfl rfl (by obtain ⟨z1, z2, z3, k1, k2, k3⟩ := Hz.out; have := hzs; have := hzp; omega)) ?_
        try simp only [Act.put, List.setIfInBounds_toArray, List.set_cons_zero, List.set_cons_succ]
        refine h_yes 9 79 (v := .string (((((⟨#[10, 115, 116, 101, 112, 115, 32]⟩ : ByteArray) ++ ss) ++ (⟨#[32, 112, 105, 99, 107, 115, 32]⟩ : ByteArray)) ++ sp) ++ (⟨#[10]⟩ : ByteArray))) rfl rfl (by kernel_rfl) (by kernel_rfl) (by kernel_rfl) (fun _ _ _ h => h) (by kernel_rfl) (by assumption) (fun w _ => hy_cat rfl rfl rfl (by obtain ⟨z1, z2, z3, k1, k2, k3⟩ := Hz.out; have := hzs; have := hzp; omega)) ?_
        try simp only [Act.put, List.setIfInBounds_toArray, List.set_cons_zero, List.set_cons_succ]
        refine h_step 10 rfl (by kernel_rfl) (by kernel_rfl) (fun K hK => ?_)
        go_simp
        have hs6 := HBW6.out.size
        refine (wstr_c bb _ _ W6 HBLW6.out (by have := HXL.out; have := HTS.out.2; omega) (by omega)).mono ?_
        rintro e_ W7 ⟨rfl, hbl7, hB7⟩
        rw [HTS.out.1, HFUL.out] at hbl7
        have HBW7 := Lib.hid (HBW6.out.trans hB7)
        have HBL7 := Lib.hid hbl7
        clear hbl7 hB7
        refine hK.out _ _ ⟨HBW7.out, (HBW7.out.cell (p := ⟨q0, 3, none⟩) hq1).trans E3.out, (HBW7.out.cell (p := ⟨q0, 4, none⟩) hq1).trans E4.out⟩ (fun hHeld => ?_)
        clear hK K
        try simp only [Act.put, List.setIfInBounds_toArray, List.set_cons_zero, List.set_cons_succ]
        refine wpAnyH_done (by kernel_rfl) ?_ _
        clear HBLW4 HBLW5 HBLW6 HBL3 HBW4 HBW5 HBW6 hsW4 hsW5 hHeld
        obtain ⟨N, hNN⟩ : ∃ N, (repF L 2 c st pk).length = N := ⟨_, rfl⟩
        have hs7 := HBW7.out.size
        have HLEN : Hid (Calls Tryd.prog 24 #[.pointer (some ⟨bb, 0, none⟩)] W7 fun e w' => e = .returned (.int .i64 (N : Int)) ∧ w' = W7) := Lib.hid (by have := Tryd.Builder_Len bb bb _ W7 HBL7.out; rw [Lib.byteCells_length, hNN] at this; exact this)
        have HSTR := Lib.hid (Tryd.Builder_String_any bb bb _ W7 HBL7.out (by omega))
        have HNN := Lib.hid hNN
        have hN64 : N ≤ 140737488355328 := by rw [← hNN, ← HFUL.out, List.length_append, ← HTS.out.1, bl_len]; have := HXL.out; have := HTS.out.2; omega
        clear hNN
        by_cases hgt : 65536 < N
        · have hgti : (65536 : Int) < (N : Int) := by omega
          have Hts : Hid (repS L 2 c st pk = ([], 6)) := Lib.hid (repS_long HHD.out HALL.out (by rw [HNN.out]; exact hgt))
          go_wp2_with (first | (go_at_call 24; refine (HLEN.out).mono ?_; rintro e_ w' ⟨rfl, rfl⟩))
          go_ret2
          refine ⟨by rw [Hts.out]; try rfl, ?_⟩
          rw [Hq0.out]
          exact HB2.out.trans (HBW7.out.mono (by omega))
        · have hgti : ¬ (65536 : Int) < (N : Int) := by omega
          have hgti2 : (N : Int) ≤ (65536 : Int) := by omega
          have Hts : Hid (repS L 2 c st pk = (repF L 2 c st pk, 0)) := Lib.hid (repS_fit HHD.out HALL.out (by rw [HNN.out]; omega))
          go_wp2_with (first | (go_at_call 24; refine (HLEN.out).mono ?_; rintro e_ w' ⟨rfl, rfl⟩) | (go_at_call 25; refine (HSTR.out).mono ?_; rintro e_ W8 ⟨rfl, hB8⟩))
          go_ret2
          refine ⟨by rw [Hts.out]; try rfl, ?_⟩
          rw [Hq0.out]
          exact HB2.out.trans ((HBW7.out.trans hB8).mono (by omega))
end Go.Proofs.YthfnjphmodcnoaaDoor
