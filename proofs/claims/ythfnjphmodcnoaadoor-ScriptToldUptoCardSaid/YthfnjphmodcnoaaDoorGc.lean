/- The walk of the reference's ReportText at a report whose ending is no panic. The walk of the reference's ReportText at a report whose ending is a panic. -/
import Derived.Test.YthfnjphmodcnoaaDoorGa
namespace Go.Proofs.YthfnjphmodcnoaaDoor
open Go.RowKit
set_option linter.unusedSimpArgs false
set_option linter.unusedVariables false
set_option maxRecDepth 20000 in
set_option maxHeartbeats 8000000 in
theorem rt_goodA (v : Value) (L : List (List UInt8)) (k : Nat) (st pk : Nat) (w : World) (hv : StrA w v L) (hn : L.length ≤ 1048576) (hz : ∀ x ∈ L, x.length ≤ 1048576) (h1 : 1 ≤ k) (h5 : k ≤ 5) (hk2 : k ≠ 2) (hs : st ≤ 2147483647) (hp : pk ≤ 2147483647) :
    Calls Tryd.prog 17 #[.agg #[v, .int .i64 (k : Int), .int .i64 0, .int .i64 (st : Int), .int .i64 (pk : Int)]] w (RP L k 0 st pk w) := by
  have HHD := Lib.hid (headOK_of (c := 0) h1 h5 (.inl rfl) hs hp)
  have lk : decide ((k : Int) < 1) = false := decide_eq_false (by omega)
  have gk : decide ((5 : Int) < (k : Int)) = false := decide_eq_false (by omega)
  have ls : decide ((st : Int) < 0) = false := decide_eq_false (by omega)
  have gs : decide ((2147483647 : Int) < (st : Int)) = false := decide_eq_false (by omega)
  have lp : decide ((pk : Int) < 0) = false := decide_eq_false (by omega)
  have gp : decide ((2147483647 : Int) < (pk : Int)) = false := decide_eq_false (by omega)
  have lk2 : ¬ (k : Int) < 1 := by omega
  have gk2 : ¬ (5 : Int) < (k : Int) := by omega
  have hst1 : (st : Int) ≤ 2147483647 := by omega
  have hpk1 : (pk : Int) ≤ 2147483647 := by omega
  have HX0 := Lib.hid hv
  obtain ⟨p0, cap, rfl, hv⟩ := hv
  obtain ⟨n, hN⟩ : ∃ n, L.length = n := ⟨_, rfl⟩
  have HN := Lib.hid hN
  have HZ := Lib.hid hz
  rw [hN] at hn ⊢
  clear hv hN hz
  go_enter Tryd.func17, Tryd.ntmps17
  go_wp2_with fail
  obtain ⟨W2, hW2⟩ : ∃ W2, W2 = w.alloc (.cells #[.slice p0 n cap, .int .i64 (k : Int), .int .i64 0, .int .i64 (st : Int), .int .i64 (pk : Int)] 39) := ⟨_, rfl⟩
  rw [← hW2]
  have hB0 : Below w.heap.size w W2 := by rw [hW2]; exact (Below.refl _ _).alloc (Nat.le_refl _) _
  have hz0 : W2.heap.size = w.heap.size + 1 := by rw [hW2]; simp
  have hr0 : W2.heap[w.heap.size]? = some (.cells #[.slice p0 n cap, .int .i64 (k : Int), .int .i64 0, .int .i64 (st : Int), .int .i64 (pk : Int)] 39 (0, 0)) := by
    rw [hW2]
    show (w.heap.push _)[w.heap.size]? = _
    rw [Array.getElem?_push_size]
  have HX2 : Hid (L = [] ∨ ∃ g o, p0 = some ⟨g, o, none⟩ ∧ ∀ (i : Nat) (z : List UInt8), L[i]? = some z → W2.cell? ⟨g, o + i, none⟩ = some (.string ⟨z.toArray⟩) ∧ g < w.heap.size + 1) := Lib.hid (by
    obtain ⟨p', c', he, h2⟩ := HX0.out
    injection he with he1 he2 he3
    subst he1
    refine h2.imp id ?_
    rintro ⟨g, o, h3, h4⟩
    exact ⟨g, o, h3, fun i z hz => ⟨(hB0.cell (p := ⟨g, o + i, none⟩) (Lib.lt_of_cell (h4 i z hz))).trans (h4 i z hz), Nat.lt_succ_of_lt (Lib.lt_of_cell (h4 i z hz))⟩⟩)
  obtain ⟨q0, hq0⟩ : ∃ q0, w.heap.size = q0 := ⟨_, rfl⟩
  have Hq0 := Lib.hid hq0
  have HB2 := Lib.hid hB0
  rw [hq0] at hz0 hr0 HX2
  obtain ⟨bb, hbb⟩ : ∃ bb, bb = q0 + 1 := ⟨_, rfl⟩
  rw [← hbb] at hz0 HX2
  have hq1 : q0 < bb := by omega
  obtain ⟨e0, e1, e2, e3, e4⟩ : W2.cell? ⟨q0, 0, none⟩ = some (.slice p0 n cap) ∧ W2.cell? ⟨q0, 1, none⟩ = some (.int .i64 (k : Int)) ∧ W2.cell? ⟨q0, 2, none⟩ = some (.int .i64 0) ∧ W2.cell? ⟨q0, 3, none⟩ = some (.int .i64 (st : Int)) ∧ W2.cell? ⟨q0, 4, none⟩ = some (.int .i64 (pk : Int)) := by
    unfold World.cell?
    rw [hr0]
    exact ⟨rfl, rfl, rfl, rfl, rfl⟩
  have E0 := Lib.hid e0
  have E1 := Lib.hid e1
  have E2 := Lib.hid e2
  have E3 := Lib.hid e3
  have E4 := Lib.hid e4
  rw [hq0]
  have HBQ := Lib.hid hbb
  clear e0 e1 e2 e3 e4 hr0 hW2 hB0 hq0 hbb
  go_loopw [4, 5] (fun b i wr => ∃ j : Nat, i = .int .i64 j ∧ j ≤ n ∧ Hid (BufN bb wr b (traceT (L.take j))) ∧ Hid (Below bb W2 wr) ∧ Hid (∀ z ∈ L.take j, toldP z = true) ∧ ∃ p m q, b = .slice p m q) (fun _ i _ => n - (intOf i).toNat)
  case atStart => exact ⟨0, rfl, by omega, Lib.hid (.inl ⟨by simp [traceT], rfl⟩), Lib.hid (Below.refl _ _), Lib.hid (by simp), _, _, _, rfl⟩
  case round =>
    obtain ⟨j, rfl, hj, hbl, hBr, hT, pb, mb, qb, rfl⟩ := hrel
    have c0 : wr.cell? ⟨q0, 0, none⟩ = some (.slice p0 n cap) := (hBr.out.cell (p := ⟨q0, 0, none⟩) hq1).trans E0.out
    have hszr : bb ≤ wr.heap.size := by rw [← hz0]; exact hBr.out.size
    by_cases hlt : j < n
    · have hlti : (j : Int) < (n : Int) := by omega
      obtain ⟨x, hx⟩ : ∃ x, L[j]? = some x := ⟨_, List.getElem?_eq_getElem (by have := HN.out; omega)⟩
      obtain ⟨g1, o1, rfl, hg1⟩ := HX2.out.resolve_left (fun e => by have := HN.out; rw [e] at this; simp at this; omega)
      have qq := hg1 j x hx
      have q1 : wr.cell? ⟨g1, o1 + j, none⟩ = some (.string ⟨x.toArray⟩) := (hBr.out.cell (p := ⟨g1, o1 + j, none⟩) qq.2).trans qq.1
      have hxs : x.length ≤ 1048576 := HZ.out x (List.mem_of_getElem? hx)
      have hxs2 : (⟨x.toArray⟩ : ByteArray).size ≤ 1048576 := by rw [← bl_len, bl_mkx]; exact hxs
      have hT1 := rtold_c ⟨x.toArray⟩ wr (by omega)
      rw [bl_mkx] at hT1
      obtain ⟨t, ht⟩ : ∃ t, toldP x = t := ⟨_, rfl⟩
      rw [ht] at hT1
      have HT1 := Lib.hid hT1
      have HX := Lib.hid hx
      have Ht := Lib.hid ht
      have HQ := Lib.hid qq
      clear hg1 hT1 qq hx ht
      go_wp2_with (go_at_call 31; refine HT1.out.mono ?_)
      rintro e_ W3 ⟨rfl, hB3⟩
      have HB3 := Lib.hid (hBr.out.trans (hB3.mono hszr))
      have HBL := Lib.hid (bufN_below hbl.out hB3)
      have hsz3 := HB3.out.size
      have c03 : W3.cell? ⟨q0, 0, none⟩ = some (.slice (some ⟨g1, o1, none⟩) n cap) := (HB3.out.cell (p := ⟨q0, 0, none⟩) hq1).trans E0.out
      have q13 : W3.cell? ⟨g1, o1 + j, none⟩ = some (.string ⟨x.toArray⟩) := (HB3.out.cell (p := ⟨g1, o1 + j, none⟩) HQ.out.2).trans HQ.out.1
      clear hB3 HT1 c0 q1
      cases t with
      | false =>
        have HF : Hid (L.all toldP = false) := Lib.hid (by
          cases hall : L.all toldP with
          | false => rfl
          | true => have h3 := List.all_eq_true.1 hall x (List.mem_of_getElem? HX.out); rw [Ht.out] at h3; cases h3)
        go_wp2
        go_ret2
        exact ⟨by rw [repS_tr HF.out]; try rfl, HB2.out.trans (HB3.out.mono (by have := Hq0.out; omega))⟩
      | true =>
        have hcl : ((⟨x.toArray⟩ : ByteArray) ++ ⟨#[10]⟩).size ≤ 1048577 := cat_le (m := 1048576) (n := 1) hxs2 (by decide)
        have hadd : ¬ (9223372036854775807 < (⟨x.toArray⟩ : ByteArray).size + 1) := by omega
        have htl := traceT_len (L.take j) 1048576 (fun y hy => HZ.out y (List.mem_of_mem_take hy))
        rw [List.length_take, HN.out] at htl
        have HTL : Hid ((traceT (L.take j)).length ≤ 1099512676352) := Lib.hid (by
          have : (1048576 + 1) * min j n ≤ 1048577 * 1048576 := Nat.mul_le_mul_left _ (by omega)
          omega)
        have HBS : Hid (bl ((⟨x.toArray⟩ : ByteArray) ++ ⟨#[10]⟩) = x ++ [10]) := Lib.hid (by simp [bl])
        have HXL : Hid ((x ++ [10]).length ≤ 1048577) := Lib.hid (by rw [← HBS.out, bl_len]; exact hcl)
        have HTJ : Hid (∀ z ∈ L.take (j + 1), toldP z = true) := Lib.hid (by
          rw [List.take_add_one, HX.out]
          intro z hz
          rcases List.mem_append.1 hz with hz | hz
          · exact hT.out z hz
          · simp only [Option.toList_some, List.mem_cons, List.not_mem_nil, or_false] at hz
            subst hz; exact Ht.out)
        clear htl hcl hxs hxs2
        go_wp2_with (at_builtin; refine wpList_bufN rfl _ _ _ rfl rfl bb _ (traceT (L.take j)) (x ++ [10]) rfl HBL.out (by simp) (by omega) _ rfl HBS.out ?c1 ?_)
        case c1 => have h1 := HTL.out; have h2 := HXL.out; omega
        intro v' Wb hbb_ hBb
        rw [← traceT_next L j x HX.out] at hbb_
        have HBb := Lib.hid (HB3.out.trans hBb)
        have HBB := Lib.hid (show BufN bb Wb v' (traceT (L.take (j + 1))) from .inr hbb_)
        obtain ⟨gb, cb, rfl, -⟩ := hbb_
        clear hBb
        go_wp2
        exact ⟨⟨j + 1, by go_num, by omega, HBB, HBb, HTJ, _, _, _, rfl⟩, by simp [intOf]; omega⟩
    · obtain rfl : j = n := by omega
      have htk : L.take j = L := List.take_of_length_le (by rw [HN.out]; exact Nat.le_refl _)
      have HALL := Lib.hid (all_take L j j HN.out (Nat.le_refl _) hT.out)
      rw [htk] at hbl
      have htl := traceT_len L 1048576 HZ.out
      rw [HN.out] at htl
      have HTL : Hid ((traceT L).length ≤ 1099512676352) := Lib.hid (by
        have : (1048576 + 1) * j ≤ 1048577 * 1048576 := Nat.mul_le_mul_left _ (by omega)
        omega)
      have e1 : wr.cell? ⟨q0, 1, none⟩ = some (.int .i64 (k : Int)) := (hBr.out.cell (p := ⟨q0, 1, none⟩) hq1).trans E1.out
      have hel := endS_len k h5
      have hep := endS_pos k h1 h5
      have HEN := Lib.hid (ends_c k h5 wr)
      obtain ⟨se, hse⟩ : ∃ s, endS k = s := ⟨_, rfl⟩
      rw [hse] at HEN hel hep
      have HSE := Lib.hid hse
      have HEL := Lib.hid hel
      have HEP := Lib.hid hep
      clear htk htl hse hel hep
      go_wp2_with (go_at_call 39; refine HEN.out.mono ?_)
      rintro e_ W3 ⟨rfl, hB3⟩
      have HB3 := Lib.hid (hBr.out.trans (hB3.mono hszr))
      have HBL := Lib.hid (bufN_below hbl.out hB3)
      have hsz3 := HB3.out.size
      clear hB3 HEN c0 e1
      have hsz3' : bb ≤ W3.heap.size := by omega
      go_wp2_with (at_builtin; refine wpList_bufN rfl _ _ _ rfl rfl bb _ (traceT L) (bl se) rfl HBL.out HEP.out hsz3' _ rfl rfl ?c1 ?_)
      case c1 => have h1 := HTL.out; have h2 := HEL.out; omega
      intro v' W4 hbb_ hBb
      have HB4 := Lib.hid (HB3.out.trans hBb)
      have HBL4 := Lib.hid hbb_
      have hsz4 := HB4.out.size
      obtain ⟨gb, cb, rfl, -⟩ := hbb_
      obtain ⟨N4, hN4⟩ : ∃ m, (traceT L ++ bl se).length = m := ⟨_, rfl⟩
      rw [hN4] at HBL4 ⊢
      have HN4 := Lib.hid hN4
      clear hN4
      have d1 : W4.cell? ⟨q0, 1, none⟩ = some (.int .i64 (k : Int)) := (HB4.out.cell (p := ⟨q0, 1, none⟩) hq1).trans E1.out
      have d2 : W4.cell? ⟨q0, 2, none⟩ = some (.int .i64 0) := (HB4.out.cell (p := ⟨q0, 2, none⟩) hq1).trans E2.out
      clear hBb hBr hbl HB3 HBL hsz3 hsz3'
      have hk2b : ((k : Int) == 2) = false := beq_eq_false_iff_ne.2 (by omega)
      obtain ⟨ss, hss⟩ : ∃ s : ByteArray, s = ⟨(Lib.decDigits st).toArray⟩ := ⟨_, rfl⟩
      obtain ⟨sp, hsp⟩ : ∃ s : ByteArray, s = ⟨(Lib.decDigits pk).toArray⟩ := ⟨_, rfl⟩
      have hzs : ss.size ≤ 20 := by rw [hss]; have := dec_len st (by omega); simpa [ByteArray.size] using this
      have hzp : sp.size ≤ 20 := by rw [hsp]; have := dec_len pk (by omega); simpa [ByteArray.size] using this
      have HIs : Hid (∀ W, Calls Tryd.prog 7 #[.int .i64 (st : Int)] W fun e w' => e = .returned (.string ss) ∧ Below W.heap.size W w') := Lib.hid (fun W => by rw [hss]; exact rdig_c st (by omega) W)
      have HIp : Hid (∀ W, Calls Tryd.prog 7 #[.int .i64 (pk : Int)] W fun e w' => e = .returned (.string sp) ∧ Below W.heap.size W w') := Lib.hid (fun W => by rw [hsp]; exact rdig_c pk (by omega) W)
      have z1 : ((⟨#[10, 115, 116, 101, 112, 115, 32]⟩ : ByteArray) ++ ss).size ≤ 27 := cat_le (m := 7) (n := 20) (by decide) hzs
      have z2 : (((⟨#[10, 115, 116, 101, 112, 115, 32]⟩ : ByteArray) ++ ss) ++ (⟨#[32, 112, 105, 99, 107, 115, 32]⟩ : ByteArray)).size ≤ 34 := cat_le (m := 27) (n := 7) z1 (by decide)
      have z3 : ((((⟨#[10, 115, 116, 101, 112, 115, 32]⟩ : ByteArray) ++ ss) ++ (⟨#[32, 112, 105, 99, 107, 115, 32]⟩ : ByteArray)) ++ sp).size ≤ 54 := cat_le (m := 34) (n := 20) z2 hzp
      have z4 : (((((⟨#[10, 115, 116, 101, 112, 115, 32]⟩ : ByteArray) ++ ss) ++ (⟨#[32, 112, 105, 99, 107, 115, 32]⟩ : ByteArray)) ++ sp) ++ (⟨#[10]⟩ : ByteArray)).size ≤ 55 := cat_le (m := 54) (n := 1) z3 (by decide)
      have k1 : (⟨#[10, 115, 116, 101, 112, 115, 32]⟩ : ByteArray).size = 7 := by decide
      have k2 : (⟨#[32, 112, 105, 99, 107, 115, 32]⟩ : ByteArray).size = 7 := by decide
      have k3 : (⟨#[10]⟩ : ByteArray).size = 1 := by decide
      have HTS : Hid (bl (((((⟨#[10, 115, 116, 101, 112, 115, 32]⟩ : ByteArray) ++ ss) ++ (⟨#[32, 112, 105, 99, 107, 115, 32]⟩ : ByteArray)) ++ sp) ++ (⟨#[10]⟩ : ByteArray)) = 10 :: (tailL st pk ++ [10]) ∧ (((((⟨#[10, 115, 116, 101, 112, 115, 32]⟩ : ByteArray) ++ ss) ++ (⟨#[32, 112, 105, 99, 107, 115, 32]⟩ : ByteArray)) ++ sp) ++ (⟨#[10]⟩ : ByteArray)).size ≤ 55) := Lib.hid ⟨by simp [bl, hss, hsp, tailL, stepsL, kPicks], z4⟩
      have Hz := Lib.hid (And.intro z1 (And.intro z2 (And.intro z3 (And.intro k1 (And.intro k2 k3)))))
      clear z1 z2 z3 z4 k1 k2 k3 hss hsp
      have HFUL : Hid ((traceT L ++ bl se) ++ (10 :: (tailL st pk ++ [10])) = repF L k 0 st pk) := Lib.hid (by unfold repF endL; rw [if_neg hk2, HSE.out]; simp)
      have HXL : Hid ((traceT L ++ bl se).length ≤ 1099512676400) := Lib.hid (by rw [List.length_append]; have := HTL.out; have := HEL.out; omega)
      have HB5 := HB4
      have HBL5 := HBL4
      go_wp2_with fail
      refine wp_region_held_drew (S := (fun w' => Below bb W2 w' ∧ w'.cell? ⟨q0, 3, none⟩ = some (.int .i64 (st : Int)) ∧ w'.cell? ⟨q0, 4, none⟩ = some (.int .i64 (pk : Int)))) (by kernel_rfl) ?_ (fun hHeld => ?_)
      · exact ⟨HB5.out.drew, (HB5.out.cell (p := ⟨q0, 3, none⟩) hq1).trans E3.out, (HB5.out.cell (p := ⟨q0, 4, none⟩) hq1).trans E4.out⟩
      have HBW6 := Lib.hid (show Below bb W2 W4.drew from HB5.out.drew)
      have HBLW6 := Lib.hid (buf_below HBL5.out ((Below.refl W4.heap.size W4).drew))
      obtain ⟨W6, hW6⟩ : ∃ W6, W6 = W4.drew := ⟨_, rfl⟩
      rw [← hW6] at HBW6 HBLW6 hHeld ⊢
      clear hW6
      refine h_yes 0 82 (v := ?_) rfl rfl (by kernel_rfl) (by kernel_rfl) (by kernel_rfl) (fun _ _ _ h => h) (by kernel_rfl) (by assumption) ?_ ?_
      rotate_left 1
      · (intro w hSw; (try dsimp only at hSw); obtain ⟨hS1, hS2, hS3⟩ := hSw; go_simp; try with_reducible rfl)
      try simp only [Act.put, List.setIfInBounds_toArray, List.set_cons_zero, List.set_cons_succ]
      refine h_yes 1 83 (v := ?_) rfl rfl (by kernel_rfl) (by kernel_rfl) (by kernel_rfl) (fun _ _ _ h => h) (by kernel_rfl) (by assumption) ?_ ?_
      rotate_left 1
      · (intro w hSw; (try dsimp only at hSw); obtain ⟨hS1, hS2, hS3⟩ := hSw; go_simp; try with_reducible rfl)
      try simp only [Act.put, List.setIfInBounds_toArray, List.set_cons_zero, List.set_cons_succ]
      refine h_yes 2 84 (v := ?_) rfl rfl (by kernel_rfl) (by kernel_rfl) (by kernel_rfl) (fun _ _ _ h => h) (by kernel_rfl) (by assumption) ?_ ?_
      rotate_left 1
      · (intro w hSw; (try dsimp only at hSw); obtain ⟨hS1, hS2, hS3⟩ := hSw; go_simp; try with_reducible rfl)
      try simp only [Act.put, List.setIfInBounds_toArray, List.set_cons_zero, List.set_cons_succ]
      refine h_yes 6 88 (v := ?_) rfl rfl (by kernel_rfl) (by kernel_rfl) (by kernel_rfl) (fun _ _ _ h => h) (by kernel_rfl) (by assumption) ?_ ?_
      rotate_left 1
      · (intro w hSw; (try dsimp only at hSw); obtain ⟨hS1, hS2, hS3⟩ := hSw; go_simp; try with_reducible rfl)
      try simp only [Act.put, List.setIfInBounds_toArray, List.set_cons_zero, List.set_cons_succ]
      refine h_yes 7 89 (v := ?_) rfl rfl (by kernel_rfl) (by kernel_rfl) (by kernel_rfl) (fun _ _ _ h => h) (by kernel_rfl) (by assumption) ?_ ?_
      rotate_left 1
      · (intro w hSw; (try dsimp only at hSw); obtain ⟨hS1, hS2, hS3⟩ := hSw; go_simp; try with_reducible rfl)
      try simp only [Act.put, List.setIfInBounds_toArray, List.set_cons_zero, List.set_cons_succ]
      refine h_step 3 rfl (by kernel_rfl) (by kernel_rfl) (fun K hK => ?_)
      go_simp
      refine (HIs.out W6).mono ?_
      rintro e_ W7 ⟨rfl, hiW7⟩
      have hsW6 := HBW6.out.size
      have HBW7 := Lib.hid (below_tw HBW6.out hiW7)
      have HBLW7 := Lib.hid (buf_below HBLW6.out hiW7)
      clear hiW7
      refine hK.out _ _ ⟨HBW7.out, (HBW7.out.cell (p := ⟨q0, 3, none⟩) hq1).trans E3.out, (HBW7.out.cell (p := ⟨q0, 4, none⟩) hq1).trans E4.out⟩ (fun hHeld => ?_)
      clear hK K
      try simp only [Act.put, List.setIfInBounds_toArray, List.set_cons_zero, List.set_cons_succ]
      refine h_yes 4 86 (v := .string ((⟨#[10, 115, 116, 101, 112, 115, 32]⟩ : ByteArray) ++ ss)) rfl rfl (by kernel_rfl) (by kernel_rfl) (by kernel_rfl) (fun _ _ _ h => h) (by kernel_rfl) (by assumption) (fun w _ => hy_cat rfl rfl rfl (by obtain ⟨z1, z2, z3, k1, k2, k3⟩ := Hz.out; have := hzs; have := hzp; omega)) ?_
      try simp only [Act.put, List.setIfInBounds_toArray, List.set_cons_zero, List.set_cons_succ]
      refine h_yes 5 87 (v := .string (((⟨#[10, 115, 116, 101, 112, 115, 32]⟩ : ByteArray) ++ ss) ++ (⟨#[32, 112, 105, 99, 107, 115, 32]⟩ : ByteArray))) rfl rfl (by kernel_rfl) (by kernel_rfl) (by kernel_rfl) (fun _ _ _ h => h) (by kernel_rfl) (by assumption) (fun w _ => hy_cat rfl rfl rfl (by obtain ⟨z1, z2, z3, k1, k2, k3⟩ := Hz.out; have := hzs; have := hzp; omega)) ?_
      try simp only [Act.put, List.setIfInBounds_toArray, List.set_cons_zero, List.set_cons_succ]
      refine h_step 8 rfl (by kernel_rfl) (by kernel_rfl) (fun K hK => ?_)
      go_simp
      refine (HIp.out W7).mono ?_
      rintro e_ W8 ⟨rfl, hiW8⟩
      have hsW7 := HBW7.out.size
      have HBW8 := Lib.hid (below_tw HBW7.out hiW8)
      have HBLW8 := Lib.hid (buf_below HBLW7.out hiW8)
      clear hiW8
      refine hK.out _ _ ⟨HBW8.out, (HBW8.out.cell (p := ⟨q0, 3, none⟩) hq1).trans E3.out, (HBW8.out.cell (p := ⟨q0, 4, none⟩) hq1).trans E4.out⟩ (fun hHeld => ?_)
      clear hK K
      try simp only [Act.put, List.setIfInBounds_toArray, List.set_cons_zero, List.set_cons_succ]
      refine h_yes 9 91 (v := .string ((((⟨#[10, 115, 116, 101, 112, 115, 32]⟩ : ByteArray) ++ ss) ++ (⟨#[32, 112, 105, 99, 107, 115, 32]⟩ : ByteArray)) ++ sp)) rfl rfl (by kernel_rfl) (by kernel_rfl) (by kernel_rfl) (fun _ _ _ h => h) (by kernel_rfl) (by assumption) (fun w _ => hy_cat rfl rfl rfl (by obtain ⟨z1, z2, z3, k1, k2, k3⟩ := Hz.out; have := hzs; have := hzp; omega)) ?_
      try simp only [Act.put, List.setIfInBounds_toArray, List.set_cons_zero, List.set_cons_succ]
      refine h_yes 10 92 (v := .string (((((⟨#[10, 115, 116, 101, 112, 115, 32]⟩ : ByteArray) ++ ss) ++ (⟨#[32, 112, 105, 99, 107, 115, 32]⟩ : ByteArray)) ++ sp) ++ (⟨#[10]⟩ : ByteArray))) rfl rfl (by kernel_rfl) (by kernel_rfl) (by kernel_rfl) (fun _ _ _ h => h) (by kernel_rfl) (by assumption) (fun w _ => hy_cat rfl rfl rfl (by obtain ⟨z1, z2, z3, k1, k2, k3⟩ := Hz.out; have := hzs; have := hzp; omega)) ?_
      try simp only [Act.put, List.setIfInBounds_toArray, List.set_cons_zero, List.set_cons_succ]
      refine h_step 11 rfl (by kernel_rfl) (by kernel_rfl) (fun K hK => ?_)
      have hs8 := HBW8.out.size
      refine wp_bufN _ _ _ rfl rfl bb _ _ (10 :: (tailL st pk ++ [10])) rfl (.inr HBLW8.out) (by simp) (by omega) _ rfl HTS.out.1 (by have := HXL.out; have h3 := HTS.out.2; rw [← bl_len, HTS.out.1] at h3; omega) ?_
      intro v9 W9 hbl9 hB9
      rw [HFUL.out] at hbl9
      have HBW9 := Lib.hid (HBW8.out.trans hB9)
      have HBL9 := Lib.hid hbl9
      have hback := buf_back hbl9
      obtain ⟨N, hNN⟩ : ∃ N, (repF L k 0 st pk).length = N := ⟨_, rfl⟩
      obtain ⟨gz, cz, rfl, -⟩ := hbl9
      rw [hNN] at hback
      have HBK := Lib.hid hback
      have HNN := Lib.hid hNN
      refine hK.out _ _ ⟨HBW9.out, (HBW9.out.cell (p := ⟨q0, 3, none⟩) hq1).trans E3.out, (HBW9.out.cell (p := ⟨q0, 4, none⟩) hq1).trans E4.out⟩ (fun hHeld => ?_)
      rw [hNN]
      clear hK K hB9 hback hNN
      try simp only [Act.put, List.setIfInBounds_toArray, List.set_cons_zero, List.set_cons_succ]
      refine h_yes 12 4 (v := ?_) rfl rfl (by kernel_rfl) (by kernel_rfl) (by kernel_rfl) (fun _ _ _ h => h) (by kernel_rfl) (by assumption) ?_ ?_
      rotate_left 1
      · (intro w hSw; go_simp; try with_reducible rfl)
      try simp only [Act.put, List.setIfInBounds_toArray, List.set_cons_zero, List.set_cons_succ]
      refine wpAnyH_done (by kernel_rfl) ?_ _
      clear HBLW6 HBLW7 HBLW8 HBL4 HBL5 HBW6 HBW7 HBW8 hsW6 hsW7 hHeld hs8
      have hs9 := HBW9.out.size
      have hback := HBK.out
      by_cases hgt : 65536 < N
      · have hgti : (65536 : Int) < (N : Int) := by omega
        have Hts : Hid (repS L k 0 st pk = ([], 6)) := Lib.hid (repS_long HHD.out HALL.out (by rw [HNN.out]; exact hgt))
        go_wp2
        go_ret2
        exact ⟨by rw [Hts.out]; try rfl, HB2.out.trans (HBW9.out.mono (by have := Hq0.out; omega))⟩
      · have hgti : ¬ (65536 : Int) < (N : Int) := by omega
        have hgti2 : (N : Int) ≤ (65536 : Int) := by omega
        have Hts : Hid (repS L k 0 st pk = (repF L k 0 st pk, 0)) := Lib.hid (repS_fit HHD.out HALL.out (by rw [HNN.out]; omega))
        go_wp2
        go_ret2
        exact ⟨by rw [Hts.out]; try rfl, HB2.out.trans (HBW9.out.mono (by have := Hq0.out; omega))⟩
end Go.Proofs.YthfnjphmodcnoaaDoor
namespace Go.Proofs.YthfnjphmodcnoaaDoor
open Go.RowKit
set_option linter.unusedSimpArgs false
set_option linter.unusedVariables false
set_option maxRecDepth 20000 in
set_option maxHeartbeats 8000000 in
theorem rt_goodBT (v : Value) (L : List (List UInt8)) (c : Int) (st pk : Nat) (w : World) (hv : StrA w v L) (hn : L.length ≤ 1048576) (hz : ∀ x ∈ L, x.length ≤ 1048576) (hcz : (c != 0) = true) (hc0 : -9223372036854775808 ≤ c) (hc1 : c ≤ 9223372036854775807) (hs : st ≤ 2147483647) (hp : pk ≤ 2147483647) :
    Calls Tryd.prog 17 #[.agg #[v, .int .i64 (2 : Int), .int .i64 c, .int .i64 (st : Int), .int .i64 (pk : Int)]] w (RP L 2 c st pk w) := by
  have HHD := Lib.hid (headOK_of (k := 2) (c := c) (by omega) (by omega) (.inr rfl) hs hp)
  have lk : decide ((2 : Int) < 1) = false := decide_eq_false (by omega)
  have gk : decide ((5 : Int) < (2 : Int)) = false := decide_eq_false (by omega)
  have ls : decide ((st : Int) < 0) = false := decide_eq_false (by omega)
  have gs : decide ((2147483647 : Int) < (st : Int)) = false := decide_eq_false (by omega)
  have lp : decide ((pk : Int) < 0) = false := decide_eq_false (by omega)
  have gp : decide ((2147483647 : Int) < (pk : Int)) = false := decide_eq_false (by omega)
  have lk2 : ¬ (2 : Int) < 1 := by omega
  have gk2 : ¬ (5 : Int) < (2 : Int) := by omega
  have hst1 : (st : Int) ≤ 2147483647 := by omega
  have hpk1 : (pk : Int) ≤ 2147483647 := by omega
  have HX0 := Lib.hid hv
  obtain ⟨p0, cap, rfl, hv⟩ := hv
  obtain ⟨n, hN⟩ : ∃ n, L.length = n := ⟨_, rfl⟩
  have HN := Lib.hid hN
  have HZ := Lib.hid hz
  rw [hN] at hn ⊢
  clear hv hN hz
  go_enter Tryd.func17, Tryd.ntmps17
  go_wp2_with fail
  obtain ⟨W2, hW2⟩ : ∃ W2, W2 = w.alloc (.cells #[.slice p0 n cap, .int .i64 (2 : Int), .int .i64 c, .int .i64 (st : Int), .int .i64 (pk : Int)] 39) := ⟨_, rfl⟩
  rw [← hW2]
  have hB0 : Below w.heap.size w W2 := by rw [hW2]; exact (Below.refl _ _).alloc (Nat.le_refl _) _
  have hz0 : W2.heap.size = w.heap.size + 1 := by rw [hW2]; simp
  have hr0 : W2.heap[w.heap.size]? = some (.cells #[.slice p0 n cap, .int .i64 (2 : Int), .int .i64 c, .int .i64 (st : Int), .int .i64 (pk : Int)] 39 (0, 0)) := by
    rw [hW2]
    show (w.heap.push _)[w.heap.size]? = _
    rw [Array.getElem?_push_size]
  have HX2 : Hid (L = [] ∨ ∃ g o, p0 = some ⟨g, o, none⟩ ∧ ∀ (i : Nat) (z : List UInt8), L[i]? = some z → W2.cell? ⟨g, o + i, none⟩ = some (.string ⟨z.toArray⟩) ∧ g < w.heap.size + 1) := Lib.hid (by
    obtain ⟨p', c', he, h2⟩ := HX0.out
    injection he with he1 he2 he3
    subst he1
    refine h2.imp id ?_
    rintro ⟨g, o, h3, h4⟩
    exact ⟨g, o, h3, fun i z hz => ⟨(hB0.cell (p := ⟨g, o + i, none⟩) (Lib.lt_of_cell (h4 i z hz))).trans (h4 i z hz), Nat.lt_succ_of_lt (Lib.lt_of_cell (h4 i z hz))⟩⟩)
  obtain ⟨q0, hq0⟩ : ∃ q0, w.heap.size = q0 := ⟨_, rfl⟩
  have Hq0 := Lib.hid hq0
  have HB2 := Lib.hid hB0
  rw [hq0] at hz0 hr0 HX2
  obtain ⟨bb, hbb⟩ : ∃ bb, bb = q0 + 1 := ⟨_, rfl⟩
  rw [← hbb] at hz0 HX2
  have hq1 : q0 < bb := by omega
  obtain ⟨e0, e1, e2, e3, e4⟩ : W2.cell? ⟨q0, 0, none⟩ = some (.slice p0 n cap) ∧ W2.cell? ⟨q0, 1, none⟩ = some (.int .i64 (2 : Int)) ∧ W2.cell? ⟨q0, 2, none⟩ = some (.int .i64 c) ∧ W2.cell? ⟨q0, 3, none⟩ = some (.int .i64 (st : Int)) ∧ W2.cell? ⟨q0, 4, none⟩ = some (.int .i64 (pk : Int)) := by
    unfold World.cell?
    rw [hr0]
    exact ⟨rfl, rfl, rfl, rfl, rfl⟩
  have E0 := Lib.hid e0
  have E1 := Lib.hid e1
  have E2 := Lib.hid e2
  have E3 := Lib.hid e3
  have E4 := Lib.hid e4
  rw [hq0]
  have HBQ := Lib.hid hbb
  clear e0 e1 e2 e3 e4 hr0 hW2 hB0 hq0 hbb
  go_loopw [4, 5] (fun b i wr => ∃ j : Nat, i = .int .i64 j ∧ j ≤ n ∧ Hid (BufN bb wr b (traceT (L.take j))) ∧ Hid (Below bb W2 wr) ∧ Hid (∀ z ∈ L.take j, toldP z = true) ∧ ∃ p m q, b = .slice p m q) (fun _ i _ => n - (intOf i).toNat)
  case atStart => exact ⟨0, rfl, by omega, Lib.hid (.inl ⟨by simp [traceT], rfl⟩), Lib.hid (Below.refl _ _), Lib.hid (by simp), _, _, _, rfl⟩
  case round =>
    obtain ⟨j, rfl, hj, hbl, hBr, hT, pb, mb, qb, rfl⟩ := hrel
    have c0 : wr.cell? ⟨q0, 0, none⟩ = some (.slice p0 n cap) := (hBr.out.cell (p := ⟨q0, 0, none⟩) hq1).trans E0.out
    have hszr : bb ≤ wr.heap.size := by rw [← hz0]; exact hBr.out.size
    by_cases hlt : j < n
    · have hlti : (j : Int) < (n : Int) := by omega
      obtain ⟨x, hx⟩ : ∃ x, L[j]? = some x := ⟨_, List.getElem?_eq_getElem (by have := HN.out; omega)⟩
      obtain ⟨g1, o1, rfl, hg1⟩ := HX2.out.resolve_left (fun e => by have := HN.out; rw [e] at this; simp at this; omega)
      have qq := hg1 j x hx
      have q1 : wr.cell? ⟨g1, o1 + j, none⟩ = some (.string ⟨x.toArray⟩) := (hBr.out.cell (p := ⟨g1, o1 + j, none⟩) qq.2).trans qq.1
      have hxs : x.length ≤ 1048576 := HZ.out x (List.mem_of_getElem? hx)
      have hxs2 : (⟨x.toArray⟩ : ByteArray).size ≤ 1048576 := by rw [← bl_len, bl_mkx]; exact hxs
      have hT1 := rtold_c ⟨x.toArray⟩ wr (by omega)
      rw [bl_mkx] at hT1
      obtain ⟨t, ht⟩ : ∃ t, toldP x = t := ⟨_, rfl⟩
      rw [ht] at hT1
      have HT1 := Lib.hid hT1
      have HX := Lib.hid hx
      have Ht := Lib.hid ht
      have HQ := Lib.hid qq
      clear hg1 hT1 qq hx ht
      go_wp2_with (go_at_call 31; refine HT1.out.mono ?_)
      rintro e_ W3 ⟨rfl, hB3⟩
      have HB3 := Lib.hid (hBr.out.trans (hB3.mono hszr))
      have HBL := Lib.hid (bufN_below hbl.out hB3)
      have hsz3 := HB3.out.size
      have c03 : W3.cell? ⟨q0, 0, none⟩ = some (.slice (some ⟨g1, o1, none⟩) n cap) := (HB3.out.cell (p := ⟨q0, 0, none⟩) hq1).trans E0.out
      have q13 : W3.cell? ⟨g1, o1 + j, none⟩ = some (.string ⟨x.toArray⟩) := (HB3.out.cell (p := ⟨g1, o1 + j, none⟩) HQ.out.2).trans HQ.out.1
      clear hB3 HT1 c0 q1
      cases t with
      | false =>
        have HF : Hid (L.all toldP = false) := Lib.hid (by
          cases hall : L.all toldP with
          | false => rfl
          | true => have h3 := List.all_eq_true.1 hall x (List.mem_of_getElem? HX.out); rw [Ht.out] at h3; cases h3)
        go_wp2
        go_ret2
        exact ⟨by rw [repS_tr HF.out]; try rfl, HB2.out.trans (HB3.out.mono (by have := Hq0.out; omega))⟩
      | true =>
        have hcl : ((⟨x.toArray⟩ : ByteArray) ++ ⟨#[10]⟩).size ≤ 1048577 := cat_le (m := 1048576) (n := 1) hxs2 (by decide)
        have hadd : ¬ (9223372036854775807 < (⟨x.toArray⟩ : ByteArray).size + 1) := by omega
        have htl := traceT_len (L.take j) 1048576 (fun y hy => HZ.out y (List.mem_of_mem_take hy))
        rw [List.length_take, HN.out] at htl
        have HTL : Hid ((traceT (L.take j)).length ≤ 1099512676352) := Lib.hid (by
          have : (1048576 + 1) * min j n ≤ 1048577 * 1048576 := Nat.mul_le_mul_left _ (by omega)
          omega)
        have HBS : Hid (bl ((⟨x.toArray⟩ : ByteArray) ++ ⟨#[10]⟩) = x ++ [10]) := Lib.hid (by simp [bl])
        have HXL : Hid ((x ++ [10]).length ≤ 1048577) := Lib.hid (by rw [← HBS.out, bl_len]; exact hcl)
        have HTJ : Hid (∀ z ∈ L.take (j + 1), toldP z = true) := Lib.hid (by
          rw [List.take_add_one, HX.out]
          intro z hz
          rcases List.mem_append.1 hz with hz | hz
          · exact hT.out z hz
          · simp only [Option.toList_some, List.mem_cons, List.not_mem_nil, or_false] at hz
            subst hz; exact Ht.out)
        clear htl hcl hxs hxs2
        go_wp2_with (at_builtin; refine wpList_bufN rfl _ _ _ rfl rfl bb _ (traceT (L.take j)) (x ++ [10]) rfl HBL.out (by simp) (by omega) _ rfl HBS.out ?c1 ?_)
        case c1 => have h1 := HTL.out; have h2 := HXL.out; omega
        intro v' Wb hbb_ hBb
        rw [← traceT_next L j x HX.out] at hbb_
        have HBb := Lib.hid (HB3.out.trans hBb)
        have HBB := Lib.hid (show BufN bb Wb v' (traceT (L.take (j + 1))) from .inr hbb_)
        obtain ⟨gb, cb, rfl, -⟩ := hbb_
        clear hBb
        go_wp2
        exact ⟨⟨j + 1, by go_num, by omega, HBB, HBb, HTJ, _, _, _, rfl⟩, by simp [intOf]; omega⟩
    · obtain rfl : j = n := by omega
      have htk : L.take j = L := List.take_of_length_le (by rw [HN.out]; exact Nat.le_refl _)
      have HALL := Lib.hid (all_take L j j HN.out (Nat.le_refl _) hT.out)
      rw [htk] at hbl
      have htl := traceT_len L 1048576 HZ.out
      rw [HN.out] at htl
      have HTL : Hid ((traceT L).length ≤ 1099512676352) := Lib.hid (by
        have : (1048576 + 1) * j ≤ 1048577 * 1048576 := Nat.mul_le_mul_left _ (by omega)
        omega)
      have e1 : wr.cell? ⟨q0, 1, none⟩ = some (.int .i64 (2 : Int)) := (hBr.out.cell (p := ⟨q0, 1, none⟩) hq1).trans E1.out
      have hel := endS_len 2 (by omega)
      have hep := endS_pos 2 (by omega) (by omega)
      have HEN := Lib.hid (ends_c 2 (by omega) wr)
      obtain ⟨se, hse⟩ : ∃ s, endS 2 = s := ⟨_, rfl⟩
      rw [hse] at HEN hel hep
      have HSE := Lib.hid hse
      have HEL := Lib.hid hel
      have HEP := Lib.hid hep
      clear htk htl hse hel hep
      go_wp2_with (go_at_call 39; refine HEN.out.mono ?_)
      rintro e_ W3 ⟨rfl, hB3⟩
      have HB3 := Lib.hid (hBr.out.trans (hB3.mono hszr))
      have HBL := Lib.hid (bufN_below hbl.out hB3)
      have hsz3 := HB3.out.size
      clear hB3 HEN c0 e1
      have hsz3' : bb ≤ W3.heap.size := by omega
      go_wp2_with (at_builtin; refine wpList_bufN rfl _ _ _ rfl rfl bb _ (traceT L) (bl se) rfl HBL.out HEP.out hsz3' _ rfl rfl ?c1 ?_)
      case c1 => have h1 := HTL.out; have h2 := HEL.out; omega
      intro v' W4 hbb_ hBb
      have HB4 := Lib.hid (HB3.out.trans hBb)
      have HBL4 := Lib.hid hbb_
      have hsz4 := HB4.out.size
      obtain ⟨gb, cb, rfl, -⟩ := hbb_
      obtain ⟨N4, hN4⟩ : ∃ m, (traceT L ++ bl se).length = m := ⟨_, rfl⟩
      rw [hN4] at HBL4 ⊢
      have HN4 := Lib.hid hN4
      clear hN4
      have d1 : W4.cell? ⟨q0, 1, none⟩ = some (.int .i64 (2 : Int)) := (HB4.out.cell (p := ⟨q0, 1, none⟩) hq1).trans E1.out
      have d2 : W4.cell? ⟨q0, 2, none⟩ = some (.int .i64 c) := (HB4.out.cell (p := ⟨q0, 2, none⟩) hq1).trans E2.out
      clear hBb hBr hbl HB3 HBL hsz3 hsz3'
      obtain ⟨sc, hsc⟩ : ∃ s : ByteArray, s = ⟨(Lib.itoa c).toArray⟩ := ⟨_, rfl⟩
      have hzc : sc.size ≤ 21 := by rw [hsc]; have := itoa_len20 c hc0 hc1; simpa [ByteArray.size] using this
      have HOF := Lib.hid (of6_c c hc0 hc1 W4)
      have HDG : Hid (∀ W, Calls Tryd.prog 18 #[.agg #[.bool (decide (c < 0)), .int .u64 ((c.natAbs : Nat) : Int)]] W fun e w' => e = .returned (.string sc) ∧ Below W.heap.size W w') := Lib.hid (fun W => by rw [hsc]; exact dig6_c c hc0 hc1 W)
      have HBS : Hid (bl ((⟨#[32]⟩ : ByteArray) ++ sc) = 32 :: Lib.itoa c) := Lib.hid (by rw [hsc]; simp [bl])
      have hz32 : ((⟨#[32]⟩ : ByteArray) ++ sc).size ≤ 22 := cat_le (m := 1) (n := 21) (by decide) hzc
      have hadd : ¬ (9223372036854775807 < 1 + sc.size) := by omega
      have HCL : Hid ((32 :: Lib.itoa c).length ≤ 22) := Lib.hid (by rw [← HBS.out, bl_len]; exact hz32)
      have HC0 := Lib.hid hc0
      have HC1 := Lib.hid hc1
      obtain ⟨u6, hu6⟩ : ∃ u, IntKind.u64.wrap c = u := ⟨_, rfl⟩
      rw [hu6] at HOF
      obtain ⟨nb, hnb⟩ : ∃ b, decide (c < 0) = b := ⟨_, rfl⟩
      rw [hnb] at HOF HDG
      obtain ⟨na, hna⟩ : ∃ b : Int, ((c.natAbs : Nat) : Int) = b := ⟨_, rfl⟩
      rw [hna] at HOF HDG
      clear hsc hz32 hc0 hc1 hnb hna
      go_wp2_with (go_at_call 40; refine HOF.out.mono ?_)
      rintro e_ Wa ⟨rfl, hBa⟩
      have HBLa := Lib.hid (buf_below HBL4.out hBa)
      have HBa := Lib.hid (below_tw HB4.out hBa)
      have hsa := HBa.out.size
      clear hBa d1 d2 HOF hu6
      go_wp2_with (go_at_call 18; refine (HDG.out _).mono ?_)
      rintro e_ Wc ⟨rfl, hBc⟩
      have HBLc := Lib.hid (buf_below HBLa.out hBc)
      have HBc := Lib.hid (below_tw HBa.out hBc)
      have hsc := HBc.out.size
      clear hBc HDG
      go_wp2_with (at_builtin; refine wpList_bufN rfl _ _ _ rfl rfl bb _ (traceT L ++ bl se) (32 :: Lib.itoa c) rfl (.inr HBLc.out) (by simp) (by omega) _ rfl HBS.out ?c1 ?_)
      case c1 => rw [List.length_append]; have h1 := HTL.out; have h2 := HEL.out; have h3 := HCL.out; omega
      intro v' W5 hbb_ hBb
      have HB5 := Lib.hid (HBc.out.trans hBb)
      try rw [List.append_assoc] at hbb_
      have HBL5 := Lib.hid hbb_
      have hsz5 := HB5.out.size
      obtain ⟨gb, cb, rfl, -⟩ := hbb_
      obtain ⟨N5, hN5⟩ : ∃ m, (traceT L ++ (bl se ++ 32 :: Lib.itoa c)).length = m := ⟨_, rfl⟩
      rw [hN5] at HBL5 ⊢
      have HN5 := Lib.hid hN5
      clear hN5
      clear hBb HBLa HBLc HBa HBc hsa hsc HB4 HBL4 hsz4
      have HBL4 := HBL5
      obtain ⟨ss, hss⟩ : ∃ s : ByteArray, s = ⟨(Lib.decDigits st).toArray⟩ := ⟨_, rfl⟩
      obtain ⟨sp, hsp⟩ : ∃ s : ByteArray, s = ⟨(Lib.decDigits pk).toArray⟩ := ⟨_, rfl⟩
      have hzs : ss.size ≤ 20 := by rw [hss]; have := dec_len st (by omega); simpa [ByteArray.size] using this
      have hzp : sp.size ≤ 20 := by rw [hsp]; have := dec_len pk (by omega); simpa [ByteArray.size] using this
      have HIs : Hid (∀ W, Calls Tryd.prog 7 #[.int .i64 (st : Int)] W fun e w' => e = .returned (.string ss) ∧ Below W.heap.size W w') := Lib.hid (fun W => by rw [hss]; exact rdig_c st (by omega) W)
      have HIp : Hid (∀ W, Calls Tryd.prog 7 #[.int .i64 (pk : Int)] W fun e w' => e = .returned (.string sp) ∧ Below W.heap.size W w') := Lib.hid (fun W => by rw [hsp]; exact rdig_c pk (by omega) W)
      have z1 : ((⟨#[10, 115, 116, 101, 112, 115, 32]⟩ : ByteArray) ++ ss).size ≤ 27 := cat_le (m := 7) (n := 20) (by decide) hzs
      have z2 : (((⟨#[10, 115, 116, 101, 112, 115, 32]⟩ : ByteArray) ++ ss) ++ (⟨#[32, 112, 105, 99, 107, 115, 32]⟩ : ByteArray)).size ≤ 34 := cat_le (m := 27) (n := 7) z1 (by decide)
      have z3 : ((((⟨#[10, 115, 116, 101, 112, 115, 32]⟩ : ByteArray) ++ ss) ++ (⟨#[32, 112, 105, 99, 107, 115, 32]⟩ : ByteArray)) ++ sp).size ≤ 54 := cat_le (m := 34) (n := 20) z2 hzp
      have z4 : (((((⟨#[10, 115, 116, 101, 112, 115, 32]⟩ : ByteArray) ++ ss) ++ (⟨#[32, 112, 105, 99, 107, 115, 32]⟩ : ByteArray)) ++ sp) ++ (⟨#[10]⟩ : ByteArray)).size ≤ 55 := cat_le (m := 54) (n := 1) z3 (by decide)
      have k1 : (⟨#[10, 115, 116, 101, 112, 115, 32]⟩ : ByteArray).size = 7 := by decide
      have k2 : (⟨#[32, 112, 105, 99, 107, 115, 32]⟩ : ByteArray).size = 7 := by decide
      have k3 : (⟨#[10]⟩ : ByteArray).size = 1 := by decide
      have HTS : Hid (bl (((((⟨#[10, 115, 116, 101, 112, 115, 32]⟩ : ByteArray) ++ ss) ++ (⟨#[32, 112, 105, 99, 107, 115, 32]⟩ : ByteArray)) ++ sp) ++ (⟨#[10]⟩ : ByteArray)) = 10 :: (tailL st pk ++ [10]) ∧ (((((⟨#[10, 115, 116, 101, 112, 115, 32]⟩ : ByteArray) ++ ss) ++ (⟨#[32, 112, 105, 99, 107, 115, 32]⟩ : ByteArray)) ++ sp) ++ (⟨#[10]⟩ : ByteArray)).size ≤ 55) := Lib.hid ⟨by simp [bl, hss, hsp, tailL, stepsL, kPicks], z4⟩
      have Hz := Lib.hid (And.intro z1 (And.intro z2 (And.intro z3 (And.intro k1 (And.intro k2 k3)))))
      clear z1 z2 z3 z4 k1 k2 k3 hss hsp
      have HFUL : Hid ((traceT L ++ (bl se ++ 32 :: Lib.itoa c)) ++ (10 :: (tailL st pk ++ [10])) = repF L 2 c st pk) := Lib.hid (by unfold repF endL; rw [if_pos rfl, HSE.out]; simp)
      have HXL : Hid ((traceT L ++ (bl se ++ 32 :: Lib.itoa c)).length ≤ 1099512676500) := Lib.hid (by rw [List.length_append, List.length_append]; have h1 := HTL.out; have h2 := HEL.out; have h3 := HCL.out; omega)
      go_wp2_with fail
      refine wp_region_held_drew (S := (fun w' => Below bb W2 w' ∧ w'.cell? ⟨q0, 3, none⟩ = some (.int .i64 (st : Int)) ∧ w'.cell? ⟨q0, 4, none⟩ = some (.int .i64 (pk : Int)))) (by kernel_rfl) ?_ (fun hHeld => ?_)
      · exact ⟨HB5.out.drew, (HB5.out.cell (p := ⟨q0, 3, none⟩) hq1).trans E3.out, (HB5.out.cell (p := ⟨q0, 4, none⟩) hq1).trans E4.out⟩
      have HBW6 := Lib.hid (show Below bb W2 W5.drew from HB5.out.drew)
      have HBLW6 := Lib.hid (buf_below HBL5.out ((Below.refl W5.heap.size W5).drew))
      obtain ⟨W6, hW6⟩ : ∃ W6, W6 = W5.drew := ⟨_, rfl⟩
      rw [← hW6] at HBW6 HBLW6 hHeld ⊢
      clear hW6
      refine h_yes 0 82 (v := ?_) rfl rfl (by kernel_rfl) (by kernel_rfl) (by kernel_rfl) (fun _ _ _ h => h) (by kernel_rfl) (by assumption) ?_ ?_
      rotate_left 1
      · (intro w hSw; (try dsimp only at hSw); obtain ⟨hS1, hS2, hS3⟩ := hSw; go_simp; try with_reducible rfl)
      try simp only [Act.put, List.setIfInBounds_toArray, List.set_cons_zero, List.set_cons_succ]
      refine h_yes 1 83 (v := ?_) rfl rfl (by kernel_rfl) (by kernel_rfl) (by kernel_rfl) (fun _ _ _ h => h) (by kernel_rfl) (by assumption) ?_ ?_
      rotate_left 1
      · (intro w hSw; (try dsimp only at hSw); obtain ⟨hS1, hS2, hS3⟩ := hSw; go_simp; try with_reducible rfl)
      try simp only [Act.put, List.setIfInBounds_toArray, List.set_cons_zero, List.set_cons_succ]
      refine h_yes 2 84 (v := ?_) rfl rfl (by kernel_rfl) (by kernel_rfl) (by kernel_rfl) (fun _ _ _ h => h) (by kernel_rfl) (by assumption) ?_ ?_
      rotate_left 1
      · (intro w hSw; (try dsimp only at hSw); obtain ⟨hS1, hS2, hS3⟩ := hSw; go_simp; try with_reducible rfl)
      try simp only [Act.put, List.setIfInBounds_toArray, List.set_cons_zero, List.set_cons_succ]
      refine h_yes 6 88 (v := ?_) rfl rfl (by kernel_rfl) (by kernel_rfl) (by kernel_rfl) (fun _ _ _ h => h) (by kernel_rfl) (by assumption) ?_ ?_
      rotate_left 1
      · (intro w hSw; (try dsimp only at hSw); obtain ⟨hS1, hS2, hS3⟩ := hSw; go_simp; try with_reducible rfl)
      try simp only [Act.put, List.setIfInBounds_toArray, List.set_cons_zero, List.set_cons_succ]
      refine h_yes 7 89 (v := ?_) rfl rfl (by kernel_rfl) (by kernel_rfl) (by kernel_rfl) (fun _ _ _ h => h) (by kernel_rfl) (by assumption) ?_ ?_
      rotate_left 1
      · (intro w hSw; (try dsimp only at hSw); obtain ⟨hS1, hS2, hS3⟩ := hSw; go_simp; try with_reducible rfl)
      try simp only [Act.put, List.setIfInBounds_toArray, List.set_cons_zero, List.set_cons_succ]
      refine h_step 3 rfl (by kernel_rfl) (by kernel_rfl) (fun K hK => ?_)
      go_simp
      refine (HIs.out W6).mono ?_
      rintro e_ W7 ⟨rfl, hiW7⟩
      have hsW6 := HBW6.out.size
      have HBW7 := Lib.hid (below_tw HBW6.out hiW7)
      have HBLW7 := Lib.hid (buf_below HBLW6.out hiW7)
      clear hiW7
      refine hK.out _ _ ⟨HBW7.out, (HBW7.out.cell (p := ⟨q0, 3, none⟩) hq1).trans E3.out, (HBW7.out.cell (p := ⟨q0, 4, none⟩) hq1).trans E4.out⟩ (fun hHeld => ?_)
      clear hK K
      try simp only [Act.put, List.setIfInBounds_toArray, List.set_cons_zero, List.set_cons_succ]
      refine h_yes 4 86 (v := .string ((⟨#[10, 115, 116, 101, 112, 115, 32]⟩ : ByteArray) ++ ss)) rfl rfl (by kernel_rfl) (by kernel_rfl) (by kernel_rfl) (fun _ _ _ h => h) (by kernel_rfl) (by assumption) (fun w _ => hy_cat rfl rfl rfl (by obtain ⟨z1, z2, z3, k1, k2, k3⟩ := Hz.out; have := hzs; have := hzp; omega)) ?_
      try simp only [Act.put, List.setIfInBounds_toArray, List.set_cons_zero, List.set_cons_succ]
      refine h_yes 5 87 (v := .string (((⟨#[10, 115, 116, 101, 112, 115, 32]⟩ : ByteArray) ++ ss) ++ (⟨#[32, 112, 105, 99, 107, 115, 32]⟩ : ByteArray))) rfl rfl (by kernel_rfl) (by kernel_rfl) (by kernel_rfl) (fun _ _ _ h => h) (by kernel_rfl) (by assumption) (fun w _ => hy_cat rfl rfl rfl (by obtain ⟨z1, z2, z3, k1, k2, k3⟩ := Hz.out; have := hzs; have := hzp; omega)) ?_
      try simp only [Act.put, List.setIfInBounds_toArray, List.set_cons_zero, List.set_cons_succ]
      refine h_step 8 rfl (by kernel_rfl) (by kernel_rfl) (fun K hK => ?_)
      go_simp
      refine (HIp.out W7).mono ?_
      rintro e_ W8 ⟨rfl, hiW8⟩
      have hsW7 := HBW7.out.size
      have HBW8 := Lib.hid (below_tw HBW7.out hiW8)
      have HBLW8 := Lib.hid (buf_below HBLW7.out hiW8)
      clear hiW8
      refine hK.out _ _ ⟨HBW8.out, (HBW8.out.cell (p := ⟨q0, 3, none⟩) hq1).trans E3.out, (HBW8.out.cell (p := ⟨q0, 4, none⟩) hq1).trans E4.out⟩ (fun hHeld => ?_)
      clear hK K
      try simp only [Act.put, List.setIfInBounds_toArray, List.set_cons_zero, List.set_cons_succ]
      refine h_yes 9 91 (v := .string ((((⟨#[10, 115, 116, 101, 112, 115, 32]⟩ : ByteArray) ++ ss) ++ (⟨#[32, 112, 105, 99, 107, 115, 32]⟩ : ByteArray)) ++ sp)) rfl rfl (by kernel_rfl) (by kernel_rfl) (by kernel_rfl) (fun _ _ _ h => h) (by kernel_rfl) (by assumption) (fun w _ => hy_cat rfl rfl rfl (by obtain ⟨z1, z2, z3, k1, k2, k3⟩ := Hz.out; have := hzs; have := hzp; omega)) ?_
      try simp only [Act.put, List.setIfInBounds_toArray, List.set_cons_zero, List.set_cons_succ]
      refine h_yes 10 92 (v := .string (((((⟨#[10, 115, 116, 101, 112, 115, 32]⟩ : ByteArray) ++ ss) ++ (⟨#[32, 112, 105, 99, 107, 115, 32]⟩ : ByteArray)) ++ sp) ++ (⟨#[10]⟩ : ByteArray))) rfl rfl (by kernel_rfl) (by kernel_rfl) (by kernel_rfl) (fun _ _ _ h => h) (by kernel_rfl) (by assumption) (fun w _ => hy_cat rfl rfl rfl (by obtain ⟨z1, z2, z3, k1, k2, k3⟩ := Hz.out; have := hzs; have := hzp; omega)) ?_
      try simp only [Act.put, List.setIfInBounds_toArray, List.set_cons_zero, List.set_cons_succ]
      refine h_step 11 rfl (by kernel_rfl) (by kernel_rfl) (fun K hK => ?_)
      have hs8 := HBW8.out.size
      refine wp_bufN _ _ _ rfl rfl bb _ _ (10 :: (tailL st pk ++ [10])) rfl (.inr HBLW8.out) (by simp) (by omega) _ rfl HTS.out.1 (by have := HXL.out; have h3 := HTS.out.2; rw [← bl_len, HTS.out.1] at h3; omega) ?_
      intro v9 W9 hbl9 hB9
      rw [HFUL.out] at hbl9
      have HBW9 := Lib.hid (HBW8.out.trans hB9)
      have HBL9 := Lib.hid hbl9
      have hback := buf_back hbl9
      obtain ⟨N, hNN⟩ : ∃ N, (repF L 2 c st pk).length = N := ⟨_, rfl⟩
      obtain ⟨gz, cz, rfl, -⟩ := hbl9
      rw [hNN] at hback
      have HBK := Lib.hid hback
      have HNN := Lib.hid hNN
      refine hK.out _ _ ⟨HBW9.out, (HBW9.out.cell (p := ⟨q0, 3, none⟩) hq1).trans E3.out, (HBW9.out.cell (p := ⟨q0, 4, none⟩) hq1).trans E4.out⟩ (fun hHeld => ?_)
      rw [hNN]
      clear hK K hB9 hback hNN
      try simp only [Act.put, List.setIfInBounds_toArray, List.set_cons_zero, List.set_cons_succ]
      refine h_yes 12 4 (v := ?_) rfl rfl (by kernel_rfl) (by kernel_rfl) (by kernel_rfl) (fun _ _ _ h => h) (by kernel_rfl) (by assumption) ?_ ?_
      rotate_left 1
      · (intro w hSw; go_simp; try with_reducible rfl)
      try simp only [Act.put, List.setIfInBounds_toArray, List.set_cons_zero, List.set_cons_succ]
      refine wpAnyH_done (by kernel_rfl) ?_ _
      clear HBLW6 HBLW7 HBLW8 HBL4 HBL5 HBW6 HBW7 HBW8 hsW6 hsW7 hHeld hs8
      have hs9 := HBW9.out.size
      have hback := HBK.out
      by_cases hgt : 65536 < N
      · have hgti : (65536 : Int) < (N : Int) := by omega
        have Hts : Hid (repS L 2 c st pk = ([], 6)) := Lib.hid (repS_long HHD.out HALL.out (by rw [HNN.out]; exact hgt))
        go_wp2
        go_ret2
        exact ⟨by rw [Hts.out]; try rfl, HB2.out.trans (HBW9.out.mono (by have := Hq0.out; omega))⟩
      · have hgti : ¬ (65536 : Int) < (N : Int) := by omega
        have hgti2 : (N : Int) ≤ (65536 : Int) := by omega
        have Hts : Hid (repS L 2 c st pk = (repF L 2 c st pk, 0)) := Lib.hid (repS_fit HHD.out HALL.out (by rw [HNN.out]; omega))
        go_wp2
        go_ret2
        exact ⟨by rw [Hts.out]; try rfl, HB2.out.trans (HBW9.out.mono (by have := Hq0.out; omega))⟩
set_option maxRecDepth 20000 in
set_option maxHeartbeats 8000000 in
theorem rt_goodBF (v : Value) (L : List (List UInt8)) (c : Int) (st pk : Nat) (w : World) (hv : StrA w v L) (hn : L.length ≤ 1048576) (hz : ∀ x ∈ L, x.length ≤ 1048576) (hcz : (c != 0) = false) (hc0 : -9223372036854775808 ≤ c) (hc1 : c ≤ 9223372036854775807) (hs : st ≤ 2147483647) (hp : pk ≤ 2147483647) :
    Calls Tryd.prog 17 #[.agg #[v, .int .i64 (2 : Int), .int .i64 c, .int .i64 (st : Int), .int .i64 (pk : Int)]] w (RP L 2 c st pk w) := by
  have HHD := Lib.hid (headOK_of (k := 2) (c := c) (by omega) (by omega) (.inr rfl) hs hp)
  have lk : decide ((2 : Int) < 1) = false := decide_eq_false (by omega)
  have gk : decide ((5 : Int) < (2 : Int)) = false := decide_eq_false (by omega)
  have ls : decide ((st : Int) < 0) = false := decide_eq_false (by omega)
  have gs : decide ((2147483647 : Int) < (st : Int)) = false := decide_eq_false (by omega)
  have lp : decide ((pk : Int) < 0) = false := decide_eq_false (by omega)
  have gp : decide ((2147483647 : Int) < (pk : Int)) = false := decide_eq_false (by omega)
  have lk2 : ¬ (2 : Int) < 1 := by omega
  have gk2 : ¬ (5 : Int) < (2 : Int) := by omega
  have hst1 : (st : Int) ≤ 2147483647 := by omega
  have hpk1 : (pk : Int) ≤ 2147483647 := by omega
  have HX0 := Lib.hid hv
  obtain ⟨p0, cap, rfl, hv⟩ := hv
  obtain ⟨n, hN⟩ : ∃ n, L.length = n := ⟨_, rfl⟩
  have HN := Lib.hid hN
  have HZ := Lib.hid hz
  rw [hN] at hn ⊢
  clear hv hN hz
  go_enter Tryd.func17, Tryd.ntmps17
  go_wp2_with fail
  obtain ⟨W2, hW2⟩ : ∃ W2, W2 = w.alloc (.cells #[.slice p0 n cap, .int .i64 (2 : Int), .int .i64 c, .int .i64 (st : Int), .int .i64 (pk : Int)] 39) := ⟨_, rfl⟩
  rw [← hW2]
  have hB0 : Below w.heap.size w W2 := by rw [hW2]; exact (Below.refl _ _).alloc (Nat.le_refl _) _
  have hz0 : W2.heap.size = w.heap.size + 1 := by rw [hW2]; simp
  have hr0 : W2.heap[w.heap.size]? = some (.cells #[.slice p0 n cap, .int .i64 (2 : Int), .int .i64 c, .int .i64 (st : Int), .int .i64 (pk : Int)] 39 (0, 0)) := by
    rw [hW2]
    show (w.heap.push _)[w.heap.size]? = _
    rw [Array.getElem?_push_size]
  have HX2 : Hid (L = [] ∨ ∃ g o, p0 = some ⟨g, o, none⟩ ∧ ∀ (i : Nat) (z : List UInt8), L[i]? = some z → W2.cell? ⟨g, o + i, none⟩ = some (.string ⟨z.toArray⟩) ∧ g < w.heap.size + 1) := Lib.hid (by
    obtain ⟨p', c', he, h2⟩ := HX0.out
    injection he with he1 he2 he3
    subst he1
    refine h2.imp id ?_
    rintro ⟨g, o, h3, h4⟩
    exact ⟨g, o, h3, fun i z hz => ⟨(hB0.cell (p := ⟨g, o + i, none⟩) (Lib.lt_of_cell (h4 i z hz))).trans (h4 i z hz), Nat.lt_succ_of_lt (Lib.lt_of_cell (h4 i z hz))⟩⟩)
  obtain ⟨q0, hq0⟩ : ∃ q0, w.heap.size = q0 := ⟨_, rfl⟩
  have Hq0 := Lib.hid hq0
  have HB2 := Lib.hid hB0
  rw [hq0] at hz0 hr0 HX2
  obtain ⟨bb, hbb⟩ : ∃ bb, bb = q0 + 1 := ⟨_, rfl⟩
  rw [← hbb] at hz0 HX2
  have hq1 : q0 < bb := by omega
  obtain ⟨e0, e1, e2, e3, e4⟩ : W2.cell? ⟨q0, 0, none⟩ = some (.slice p0 n cap) ∧ W2.cell? ⟨q0, 1, none⟩ = some (.int .i64 (2 : Int)) ∧ W2.cell? ⟨q0, 2, none⟩ = some (.int .i64 c) ∧ W2.cell? ⟨q0, 3, none⟩ = some (.int .i64 (st : Int)) ∧ W2.cell? ⟨q0, 4, none⟩ = some (.int .i64 (pk : Int)) := by
    unfold World.cell?
    rw [hr0]
    exact ⟨rfl, rfl, rfl, rfl, rfl⟩
  have E0 := Lib.hid e0
  have E1 := Lib.hid e1
  have E2 := Lib.hid e2
  have E3 := Lib.hid e3
  have E4 := Lib.hid e4
  rw [hq0]
  have HBQ := Lib.hid hbb
  clear e0 e1 e2 e3 e4 hr0 hW2 hB0 hq0 hbb
  go_loopw [4, 5] (fun b i wr => ∃ j : Nat, i = .int .i64 j ∧ j ≤ n ∧ Hid (BufN bb wr b (traceT (L.take j))) ∧ Hid (Below bb W2 wr) ∧ Hid (∀ z ∈ L.take j, toldP z = true) ∧ ∃ p m q, b = .slice p m q) (fun _ i _ => n - (intOf i).toNat)
  case atStart => exact ⟨0, rfl, by omega, Lib.hid (.inl ⟨by simp [traceT], rfl⟩), Lib.hid (Below.refl _ _), Lib.hid (by simp), _, _, _, rfl⟩
  case round =>
    obtain ⟨j, rfl, hj, hbl, hBr, hT, pb, mb, qb, rfl⟩ := hrel
    have c0 : wr.cell? ⟨q0, 0, none⟩ = some (.slice p0 n cap) := (hBr.out.cell (p := ⟨q0, 0, none⟩) hq1).trans E0.out
    have hszr : bb ≤ wr.heap.size := by rw [← hz0]; exact hBr.out.size
    by_cases hlt : j < n
    · have hlti : (j : Int) < (n : Int) := by omega
      obtain ⟨x, hx⟩ : ∃ x, L[j]? = some x := ⟨_, List.getElem?_eq_getElem (by have := HN.out; omega)⟩
      obtain ⟨g1, o1, rfl, hg1⟩ := HX2.out.resolve_left (fun e => by have := HN.out; rw [e] at this; simp at this; omega)
      have qq := hg1 j x hx
      have q1 : wr.cell? ⟨g1, o1 + j, none⟩ = some (.string ⟨x.toArray⟩) := (hBr.out.cell (p := ⟨g1, o1 + j, none⟩) qq.2).trans qq.1
      have hxs : x.length ≤ 1048576 := HZ.out x (List.mem_of_getElem? hx)
      have hxs2 : (⟨x.toArray⟩ : ByteArray).size ≤ 1048576 := by rw [← bl_len, bl_mkx]; exact hxs
      have hT1 := rtold_c ⟨x.toArray⟩ wr (by omega)
      rw [bl_mkx] at hT1
      obtain ⟨t, ht⟩ : ∃ t, toldP x = t := ⟨_, rfl⟩
      rw [ht] at hT1
      have HT1 := Lib.hid hT1
      have HX := Lib.hid hx
      have Ht := Lib.hid ht
      have HQ := Lib.hid qq
      clear hg1 hT1 qq hx ht
      go_wp2_with (go_at_call 31; refine HT1.out.mono ?_)
      rintro e_ W3 ⟨rfl, hB3⟩
      have HB3 := Lib.hid (hBr.out.trans (hB3.mono hszr))
      have HBL := Lib.hid (bufN_below hbl.out hB3)
      have hsz3 := HB3.out.size
      have c03 : W3.cell? ⟨q0, 0, none⟩ = some (.slice (some ⟨g1, o1, none⟩) n cap) := (HB3.out.cell (p := ⟨q0, 0, none⟩) hq1).trans E0.out
      have q13 : W3.cell? ⟨g1, o1 + j, none⟩ = some (.string ⟨x.toArray⟩) := (HB3.out.cell (p := ⟨g1, o1 + j, none⟩) HQ.out.2).trans HQ.out.1
      clear hB3 HT1 c0 q1
      cases t with
      | false =>
        have HF : Hid (L.all toldP = false) := Lib.hid (by
          cases hall : L.all toldP with
          | false => rfl
          | true => have h3 := List.all_eq_true.1 hall x (List.mem_of_getElem? HX.out); rw [Ht.out] at h3; cases h3)
        go_wp2
        go_ret2
        exact ⟨by rw [repS_tr HF.out]; try rfl, HB2.out.trans (HB3.out.mono (by have := Hq0.out; omega))⟩
      | true =>
        have hcl : ((⟨x.toArray⟩ : ByteArray) ++ ⟨#[10]⟩).size ≤ 1048577 := cat_le (m := 1048576) (n := 1) hxs2 (by decide)
        have hadd : ¬ (9223372036854775807 < (⟨x.toArray⟩ : ByteArray).size + 1) := by omega
        have htl := traceT_len (L.take j) 1048576 (fun y hy => HZ.out y (List.mem_of_mem_take hy))
        rw [List.length_take, HN.out] at htl
        have HTL : Hid ((traceT (L.take j)).length ≤ 1099512676352) := Lib.hid (by
          have : (1048576 + 1) * min j n ≤ 1048577 * 1048576 := Nat.mul_le_mul_left _ (by omega)
          omega)
        have HBS : Hid (bl ((⟨x.toArray⟩ : ByteArray) ++ ⟨#[10]⟩) = x ++ [10]) := Lib.hid (by simp [bl])
        have HXL : Hid ((x ++ [10]).length ≤ 1048577) := Lib.hid (by rw [← HBS.out, bl_len]; exact hcl)
        have HTJ : Hid (∀ z ∈ L.take (j + 1), toldP z = true) := Lib.hid (by
          rw [List.take_add_one, HX.out]
          intro z hz
          rcases List.mem_append.1 hz with hz | hz
          · exact hT.out z hz
          · simp only [Option.toList_some, List.mem_cons, List.not_mem_nil, or_false] at hz
            subst hz; exact Ht.out)
        clear htl hcl hxs hxs2
        go_wp2_with (at_builtin; refine wpList_bufN rfl _ _ _ rfl rfl bb _ (traceT (L.take j)) (x ++ [10]) rfl HBL.out (by simp) (by omega) _ rfl HBS.out ?c1 ?_)
        case c1 => have h1 := HTL.out; have h2 := HXL.out; omega
        intro v' Wb hbb_ hBb
        rw [← traceT_next L j x HX.out] at hbb_
        have HBb := Lib.hid (HB3.out.trans hBb)
        have HBB := Lib.hid (show BufN bb Wb v' (traceT (L.take (j + 1))) from .inr hbb_)
        obtain ⟨gb, cb, rfl, -⟩ := hbb_
        clear hBb
        go_wp2
        exact ⟨⟨j + 1, by go_num, by omega, HBB, HBb, HTJ, _, _, _, rfl⟩, by simp [intOf]; omega⟩
    · obtain rfl : j = n := by omega
      have htk : L.take j = L := List.take_of_length_le (by rw [HN.out]; exact Nat.le_refl _)
      have HALL := Lib.hid (all_take L j j HN.out (Nat.le_refl _) hT.out)
      rw [htk] at hbl
      have htl := traceT_len L 1048576 HZ.out
      rw [HN.out] at htl
      have HTL : Hid ((traceT L).length ≤ 1099512676352) := Lib.hid (by
        have : (1048576 + 1) * j ≤ 1048577 * 1048576 := Nat.mul_le_mul_left _ (by omega)
        omega)
      have e1 : wr.cell? ⟨q0, 1, none⟩ = some (.int .i64 (2 : Int)) := (hBr.out.cell (p := ⟨q0, 1, none⟩) hq1).trans E1.out
      have hel := endS_len 2 (by omega)
      have hep := endS_pos 2 (by omega) (by omega)
      have HEN := Lib.hid (ends_c 2 (by omega) wr)
      obtain ⟨se, hse⟩ : ∃ s, endS 2 = s := ⟨_, rfl⟩
      rw [hse] at HEN hel hep
      have HSE := Lib.hid hse
      have HEL := Lib.hid hel
      have HEP := Lib.hid hep
      clear htk htl hse hel hep
      go_wp2_with (go_at_call 39; refine HEN.out.mono ?_)
      rintro e_ W3 ⟨rfl, hB3⟩
      have HB3 := Lib.hid (hBr.out.trans (hB3.mono hszr))
      have HBL := Lib.hid (bufN_below hbl.out hB3)
      have hsz3 := HB3.out.size
      clear hB3 HEN c0 e1
      have hsz3' : bb ≤ W3.heap.size := by omega
      go_wp2_with (at_builtin; refine wpList_bufN rfl _ _ _ rfl rfl bb _ (traceT L) (bl se) rfl HBL.out HEP.out hsz3' _ rfl rfl ?c1 ?_)
      case c1 => have h1 := HTL.out; have h2 := HEL.out; omega
      intro v' W4 hbb_ hBb
      have HB4 := Lib.hid (HB3.out.trans hBb)
      have HBL4 := Lib.hid hbb_
      have hsz4 := HB4.out.size
      obtain ⟨gb, cb, rfl, -⟩ := hbb_
      obtain ⟨N4, hN4⟩ : ∃ m, (traceT L ++ bl se).length = m := ⟨_, rfl⟩
      rw [hN4] at HBL4 ⊢
      have HN4 := Lib.hid hN4
      clear hN4
      have d1 : W4.cell? ⟨q0, 1, none⟩ = some (.int .i64 (2 : Int)) := (HB4.out.cell (p := ⟨q0, 1, none⟩) hq1).trans E1.out
      have d2 : W4.cell? ⟨q0, 2, none⟩ = some (.int .i64 c) := (HB4.out.cell (p := ⟨q0, 2, none⟩) hq1).trans E2.out
      clear hBb hBr hbl HB3 HBL hsz3 hsz3'
      obtain ⟨sc, hsc⟩ : ∃ s : ByteArray, s = ⟨(Lib.itoa c).toArray⟩ := ⟨_, rfl⟩
      have hzc : sc.size ≤ 21 := by rw [hsc]; have := itoa_len20 c hc0 hc1; simpa [ByteArray.size] using this
      have HOF := Lib.hid (of6_c c hc0 hc1 W4)
      have HDG : Hid (∀ W, Calls Tryd.prog 18 #[.agg #[.bool (decide (c < 0)), .int .u64 ((c.natAbs : Nat) : Int)]] W fun e w' => e = .returned (.string sc) ∧ Below W.heap.size W w') := Lib.hid (fun W => by rw [hsc]; exact dig6_c c hc0 hc1 W)
      have HBS : Hid (bl ((⟨#[32]⟩ : ByteArray) ++ sc) = 32 :: Lib.itoa c) := Lib.hid (by rw [hsc]; simp [bl])
      have hz32 : ((⟨#[32]⟩ : ByteArray) ++ sc).size ≤ 22 := cat_le (m := 1) (n := 21) (by decide) hzc
      have hadd : ¬ (9223372036854775807 < 1 + sc.size) := by omega
      have HCL : Hid ((32 :: Lib.itoa c).length ≤ 22) := Lib.hid (by rw [← HBS.out, bl_len]; exact hz32)
      have HC0 := Lib.hid hc0
      have HC1 := Lib.hid hc1
      obtain ⟨u6, hu6⟩ : ∃ u, IntKind.u64.wrap c = u := ⟨_, rfl⟩
      rw [hu6] at HOF
      obtain ⟨nb, hnb⟩ : ∃ b, decide (c < 0) = b := ⟨_, rfl⟩
      rw [hnb] at HOF HDG
      obtain ⟨na, hna⟩ : ∃ b : Int, ((c.natAbs : Nat) : Int) = b := ⟨_, rfl⟩
      rw [hna] at HOF HDG
      clear hsc hz32 hc0 hc1 hnb hna
      go_wp2_with (go_at_call 40; refine HOF.out.mono ?_)
      rintro e_ Wa ⟨rfl, hBa⟩
      have HBLa := Lib.hid (buf_below HBL4.out hBa)
      have HBa := Lib.hid (below_tw HB4.out hBa)
      have hsa := HBa.out.size
      clear hBa d1 d2 HOF hu6
      go_wp2_with (go_at_call 18; refine (HDG.out _).mono ?_)
      rintro e_ Wc ⟨rfl, hBc⟩
      have HBLc := Lib.hid (buf_below HBLa.out hBc)
      have HBc := Lib.hid (below_tw HBa.out hBc)
      have hsc := HBc.out.size
      clear hBc HDG
      go_wp2_with (at_builtin; refine wpList_bufN rfl _ _ _ rfl rfl bb _ (traceT L ++ bl se) (32 :: Lib.itoa c) rfl (.inr HBLc.out) (by simp) (by omega) _ rfl HBS.out ?c1 ?_)
      case c1 => rw [List.length_append]; have h1 := HTL.out; have h2 := HEL.out; have h3 := HCL.out; omega
      intro v' W5 hbb_ hBb
      have HB5 := Lib.hid (HBc.out.trans hBb)
      try rw [List.append_assoc] at hbb_
      have HBL5 := Lib.hid hbb_
      have hsz5 := HB5.out.size
      obtain ⟨gb, cb, rfl, -⟩ := hbb_
      obtain ⟨N5, hN5⟩ : ∃ m, (traceT L ++ (bl se ++ 32 :: Lib.itoa c)).length = m := ⟨_, rfl⟩
      rw [hN5] at HBL5 ⊢
      have HN5 := Lib.hid hN5
      clear hN5
      clear hBb HBLa HBLc HBa HBc hsa hsc HB4 HBL4 hsz4
      have HBL4 := HBL5
      obtain ⟨ss, hss⟩ : ∃ s : ByteArray, s = ⟨(Lib.decDigits st).toArray⟩ := ⟨_, rfl⟩
      obtain ⟨sp, hsp⟩ : ∃ s : ByteArray, s = ⟨(Lib.decDigits pk).toArray⟩ := ⟨_, rfl⟩
      have hzs : ss.size ≤ 20 := by rw [hss]; have := dec_len st (by omega); simpa [ByteArray.size] using this
      have hzp : sp.size ≤ 20 := by rw [hsp]; have := dec_len pk (by omega); simpa [ByteArray.size] using this
      have HIs : Hid (∀ W, Calls Tryd.prog 7 #[.int .i64 (st : Int)] W fun e w' => e = .returned (.string ss) ∧ Below W.heap.size W w') := Lib.hid (fun W => by rw [hss]; exact rdig_c st (by omega) W)
      have HIp : Hid (∀ W, Calls Tryd.prog 7 #[.int .i64 (pk : Int)] W fun e w' => e = .returned (.string sp) ∧ Below W.heap.size W w') := Lib.hid (fun W => by rw [hsp]; exact rdig_c pk (by omega) W)
      have z1 : ((⟨#[10, 115, 116, 101, 112, 115, 32]⟩ : ByteArray) ++ ss).size ≤ 27 := cat_le (m := 7) (n := 20) (by decide) hzs
      have z2 : (((⟨#[10, 115, 116, 101, 112, 115, 32]⟩ : ByteArray) ++ ss) ++ (⟨#[32, 112, 105, 99, 107, 115, 32]⟩ : ByteArray)).size ≤ 34 := cat_le (m := 27) (n := 7) z1 (by decide)
      have z3 : ((((⟨#[10, 115, 116, 101, 112, 115, 32]⟩ : ByteArray) ++ ss) ++ (⟨#[32, 112, 105, 99, 107, 115, 32]⟩ : ByteArray)) ++ sp).size ≤ 54 := cat_le (m := 34) (n := 20) z2 hzp
      have z4 : (((((⟨#[10, 115, 116, 101, 112, 115, 32]⟩ : ByteArray) ++ ss) ++ (⟨#[32, 112, 105, 99, 107, 115, 32]⟩ : ByteArray)) ++ sp) ++ (⟨#[10]⟩ : ByteArray)).size ≤ 55 := cat_le (m := 54) (n := 1) z3 (by decide)
      have k1 : (⟨#[10, 115, 116, 101, 112, 115, 32]⟩ : ByteArray).size = 7 := by decide
      have k2 : (⟨#[32, 112, 105, 99, 107, 115, 32]⟩ : ByteArray).size = 7 := by decide
      have k3 : (⟨#[10]⟩ : ByteArray).size = 1 := by decide
      have HTS : Hid (bl (((((⟨#[10, 115, 116, 101, 112, 115, 32]⟩ : ByteArray) ++ ss) ++ (⟨#[32, 112, 105, 99, 107, 115, 32]⟩ : ByteArray)) ++ sp) ++ (⟨#[10]⟩ : ByteArray)) = 10 :: (tailL st pk ++ [10]) ∧ (((((⟨#[10, 115, 116, 101, 112, 115, 32]⟩ : ByteArray) ++ ss) ++ (⟨#[32, 112, 105, 99, 107, 115, 32]⟩ : ByteArray)) ++ sp) ++ (⟨#[10]⟩ : ByteArray)).size ≤ 55) := Lib.hid ⟨by simp [bl, hss, hsp, tailL, stepsL, kPicks], z4⟩
      have Hz := Lib.hid (And.intro z1 (And.intro z2 (And.intro z3 (And.intro k1 (And.intro k2 k3)))))
      clear z1 z2 z3 z4 k1 k2 k3 hss hsp
      have HFUL : Hid ((traceT L ++ (bl se ++ 32 :: Lib.itoa c)) ++ (10 :: (tailL st pk ++ [10])) = repF L 2 c st pk) := Lib.hid (by unfold repF endL; rw [if_pos rfl, HSE.out]; simp)
      have HXL : Hid ((traceT L ++ (bl se ++ 32 :: Lib.itoa c)).length ≤ 1099512676500) := Lib.hid (by rw [List.length_append, List.length_append]; have h1 := HTL.out; have h2 := HEL.out; have h3 := HCL.out; omega)
      go_wp2_with fail
      refine wp_region_held_drew (S := (fun w' => Below bb W2 w' ∧ w'.cell? ⟨q0, 3, none⟩ = some (.int .i64 (st : Int)) ∧ w'.cell? ⟨q0, 4, none⟩ = some (.int .i64 (pk : Int)))) (by kernel_rfl) ?_ (fun hHeld => ?_)
      · exact ⟨HB5.out.drew, (HB5.out.cell (p := ⟨q0, 3, none⟩) hq1).trans E3.out, (HB5.out.cell (p := ⟨q0, 4, none⟩) hq1).trans E4.out⟩
      have HBW6 := Lib.hid (show Below bb W2 W5.drew from HB5.out.drew)
      have HBLW6 := Lib.hid (buf_below HBL5.out ((Below.refl W5.heap.size W5).drew))
      obtain ⟨W6, hW6⟩ : ∃ W6, W6 = W5.drew := ⟨_, rfl⟩
      rw [← hW6] at HBW6 HBLW6 hHeld ⊢
      clear hW6
      refine h_yes 0 82 (v := ?_) rfl rfl (by kernel_rfl) (by kernel_rfl) (by kernel_rfl) (fun _ _ _ h => h) (by kernel_rfl) (by assumption) ?_ ?_
      rotate_left 1
      · (intro w hSw; (try dsimp only at hSw); obtain ⟨hS1, hS2, hS3⟩ := hSw; go_simp; try with_reducible rfl)
      try simp only [Act.put, List.setIfInBounds_toArray, List.set_cons_zero, List.set_cons_succ]
      refine h_yes 1 83 (v := ?_) rfl rfl (by kernel_rfl) (by kernel_rfl) (by kernel_rfl) (fun _ _ _ h => h) (by kernel_rfl) (by assumption) ?_ ?_
      rotate_left 1
      · (intro w hSw; (try dsimp only at hSw); obtain ⟨hS1, hS2, hS3⟩ := hSw; go_simp; try with_reducible rfl)
      try simp only [Act.put, List.setIfInBounds_toArray, List.set_cons_zero, List.set_cons_succ]
      refine h_yes 2 84 (v := ?_) rfl rfl (by kernel_rfl) (by kernel_rfl) (by kernel_rfl) (fun _ _ _ h => h) (by kernel_rfl) (by assumption) ?_ ?_
      rotate_left 1
      · (intro w hSw; (try dsimp only at hSw); obtain ⟨hS1, hS2, hS3⟩ := hSw; go_simp; try with_reducible rfl)
      try simp only [Act.put, List.setIfInBounds_toArray, List.set_cons_zero, List.set_cons_succ]
      refine h_yes 6 88 (v := ?_) rfl rfl (by kernel_rfl) (by kernel_rfl) (by kernel_rfl) (fun _ _ _ h => h) (by kernel_rfl) (by assumption) ?_ ?_
      rotate_left 1
      · (intro w hSw; (try dsimp only at hSw); obtain ⟨hS1, hS2, hS3⟩ := hSw; go_simp; try with_reducible rfl)
      try simp only [Act.put, List.setIfInBounds_toArray, List.set_cons_zero, List.set_cons_succ]
      refine h_yes 7 89 (v := ?_) rfl rfl (by kernel_rfl) (by kernel_rfl) (by kernel_rfl) (fun _ _ _ h => h) (by kernel_rfl) (by assumption) ?_ ?_
      rotate_left 1
      · (intro w hSw; (try dsimp only at hSw); obtain ⟨hS1, hS2, hS3⟩ := hSw; go_simp; try with_reducible rfl)
      try simp only [Act.put, List.setIfInBounds_toArray, List.set_cons_zero, List.set_cons_succ]
      refine h_step 3 rfl (by kernel_rfl) (by kernel_rfl) (fun K hK => ?_)
      go_simp
      refine (HIs.out W6).mono ?_
      rintro e_ W7 ⟨rfl, hiW7⟩
      have hsW6 := HBW6.out.size
      have HBW7 := Lib.hid (below_tw HBW6.out hiW7)
      have HBLW7 := Lib.hid (buf_below HBLW6.out hiW7)
      clear hiW7
      refine hK.out _ _ ⟨HBW7.out, (HBW7.out.cell (p := ⟨q0, 3, none⟩) hq1).trans E3.out, (HBW7.out.cell (p := ⟨q0, 4, none⟩) hq1).trans E4.out⟩ (fun hHeld => ?_)
      clear hK K
      try simp only [Act.put, List.setIfInBounds_toArray, List.set_cons_zero, List.set_cons_succ]
      refine h_yes 4 86 (v := .string ((⟨#[10, 115, 116, 101, 112, 115, 32]⟩ : ByteArray) ++ ss)) rfl rfl (by kernel_rfl) (by kernel_rfl) (by kernel_rfl) (fun _ _ _ h => h) (by kernel_rfl) (by assumption) (fun w _ => hy_cat rfl rfl rfl (by obtain ⟨z1, z2, z3, k1, k2, k3⟩ := Hz.out; have := hzs; have := hzp; omega)) ?_
      try simp only [Act.put, List.setIfInBounds_toArray, List.set_cons_zero, List.set_cons_succ]
      refine h_yes 5 87 (v := .string (((⟨#[10, 115, 116, 101, 112, 115, 32]⟩ : ByteArray) ++ ss) ++ (⟨#[32, 112, 105, 99, 107, 115, 32]⟩ : ByteArray))) rfl rfl (by kernel_rfl) (by kernel_rfl) (by kernel_rfl) (fun _ _ _ h => h) (by kernel_rfl) (by assumption) (fun w _ => hy_cat rfl rfl rfl (by obtain ⟨z1, z2, z3, k1, k2, k3⟩ := Hz.out; have := hzs; have := hzp; omega)) ?_
      try simp only [Act.put, List.setIfInBounds_toArray, List.set_cons_zero, List.set_cons_succ]
      refine h_step 8 rfl (by kernel_rfl) (by kernel_rfl) (fun K hK => ?_)
      go_simp
      refine (HIp.out W7).mono ?_
      rintro e_ W8 ⟨rfl, hiW8⟩
      have hsW7 := HBW7.out.size
      have HBW8 := Lib.hid (below_tw HBW7.out hiW8)
      have HBLW8 := Lib.hid (buf_below HBLW7.out hiW8)
      clear hiW8
      refine hK.out _ _ ⟨HBW8.out, (HBW8.out.cell (p := ⟨q0, 3, none⟩) hq1).trans E3.out, (HBW8.out.cell (p := ⟨q0, 4, none⟩) hq1).trans E4.out⟩ (fun hHeld => ?_)
      clear hK K
      try simp only [Act.put, List.setIfInBounds_toArray, List.set_cons_zero, List.set_cons_succ]
      refine h_yes 9 91 (v := .string ((((⟨#[10, 115, 116, 101, 112, 115, 32]⟩ : ByteArray) ++ ss) ++ (⟨#[32, 112, 105, 99, 107, 115, 32]⟩ : ByteArray)) ++ sp)) rfl rfl (by kernel_rfl) (by kernel_rfl) (by kernel_rfl) (fun _ _ _ h => h) (by kernel_rfl) (by assumption) (fun w _ => hy_cat rfl rfl rfl (by obtain ⟨z1, z2, z3, k1, k2, k3⟩ := Hz.out; have := hzs; have := hzp; omega)) ?_
      try simp only [Act.put, List.setIfInBounds_toArray, List.set_cons_zero, List.set_cons_succ]
      refine h_yes 10 92 (v := .string (((((⟨#[10, 115, 116, 101, 112, 115, 32]⟩ : ByteArray) ++ ss) ++ (⟨#[32, 112, 105, 99, 107, 115, 32]⟩ : ByteArray)) ++ sp) ++ (⟨#[10]⟩ : ByteArray))) rfl rfl (by kernel_rfl) (by kernel_rfl) (by kernel_rfl) (fun _ _ _ h => h) (by kernel_rfl) (by assumption) (fun w _ => hy_cat rfl rfl rfl (by obtain ⟨z1, z2, z3, k1, k2, k3⟩ := Hz.out; have := hzs; have := hzp; omega)) ?_
      try simp only [Act.put, List.setIfInBounds_toArray, List.set_cons_zero, List.set_cons_succ]
      refine h_step 11 rfl (by kernel_rfl) (by kernel_rfl) (fun K hK => ?_)
      have hs8 := HBW8.out.size
      refine wp_bufN _ _ _ rfl rfl bb _ _ (10 :: (tailL st pk ++ [10])) rfl (.inr HBLW8.out) (by simp) (by omega) _ rfl HTS.out.1 (by have := HXL.out; have h3 := HTS.out.2; rw [← bl_len, HTS.out.1] at h3; omega) ?_
      intro v9 W9 hbl9 hB9
      rw [HFUL.out] at hbl9
      have HBW9 := Lib.hid (HBW8.out.trans hB9)
      have HBL9 := Lib.hid hbl9
      have hback := buf_back hbl9
      obtain ⟨N, hNN⟩ : ∃ N, (repF L 2 c st pk).length = N := ⟨_, rfl⟩
      obtain ⟨gz, cz, rfl, -⟩ := hbl9
      rw [hNN] at hback
      have HBK := Lib.hid hback
      have HNN := Lib.hid hNN
      refine hK.out _ _ ⟨HBW9.out, (HBW9.out.cell (p := ⟨q0, 3, none⟩) hq1).trans E3.out, (HBW9.out.cell (p := ⟨q0, 4, none⟩) hq1).trans E4.out⟩ (fun hHeld => ?_)
      rw [hNN]
      clear hK K hB9 hback hNN
      try simp only [Act.put, List.setIfInBounds_toArray, List.set_cons_zero, List.set_cons_succ]
      refine h_yes 12 4 (v := ?_) rfl rfl (by kernel_rfl) (by kernel_rfl) (by kernel_rfl) (fun _ _ _ h => h) (by kernel_rfl) (by assumption) ?_ ?_
      rotate_left 1
      · (intro w hSw; go_simp; try with_reducible rfl)
      try simp only [Act.put, List.setIfInBounds_toArray, List.set_cons_zero, List.set_cons_succ]
      refine wpAnyH_done (by kernel_rfl) ?_ _
      clear HBLW6 HBLW7 HBLW8 HBL4 HBL5 HBW6 HBW7 HBW8 hsW6 hsW7 hHeld hs8
      have hs9 := HBW9.out.size
      have hback := HBK.out
      by_cases hgt : 65536 < N
      · have hgti : (65536 : Int) < (N : Int) := by omega
        have Hts : Hid (repS L 2 c st pk = ([], 6)) := Lib.hid (repS_long HHD.out HALL.out (by rw [HNN.out]; exact hgt))
        go_wp2
        go_ret2
        exact ⟨by rw [Hts.out]; try rfl, HB2.out.trans (HBW9.out.mono (by have := Hq0.out; omega))⟩
      · have hgti : ¬ (65536 : Int) < (N : Int) := by omega
        have hgti2 : (N : Int) ≤ (65536 : Int) := by omega
        have Hts : Hid (repS L 2 c st pk = (repF L 2 c st pk, 0)) := Lib.hid (repS_fit HHD.out HALL.out (by rw [HNN.out]; omega))
        go_wp2
        go_ret2
        exact ⟨by rw [Hts.out]; try rfl, HB2.out.trans (HBW9.out.mono (by have := Hq0.out; omega))⟩
end Go.Proofs.YthfnjphmodcnoaaDoor
