/- Contracts of the reference's Number and signed. -/
import Derived.Test.YthfnjphmodcnoaaDoorEc
import Derived.Test.YthfnjphmodcnoaaDoorEa
namespace Go.Proofs.YthfnjphmodcnoaaDoor
open Go.RowKit
set_option linter.unusedSimpArgs false
set_option linter.unusedVariables false

theorem dig_step (l : List UInt8) (k n : Nat) (c : UInt8) (hc : l[k]? = some c) (h : valFrom false 0 (l.take k) = some n) (hd : 48 ≤ c.toNat ∧ c.toNat ≤ 57) : valFrom false 0 (l.take (k + 1)) = some (10 * n + (c.toNat - 48)) := by
  rw [List.take_add_one, hc]
  simp only [Option.toList_some]
  rw [valFrom_app, h]
  show valFrom false n [c] = _
  rw [valFrom_some false n (c.toNat - 48) c [] (by unfold digVal; rw [if_pos hd])]
  simp [valFrom, baseN]; omega
theorem at_split {l : List UInt8} {k : Nat} {c : UInt8} (hc : l[k]? = some c) : l = l.take k ++ c :: l.drop (k + 1) := by
  obtain ⟨hlt, rfl⟩ := List.getElem?_eq_some_iff.1 hc
  rw [← List.drop_eq_getElem_cons hlt, List.take_append_drop]
theorem dig_stop (l : List UInt8) (k n : Nat) (c : UInt8) (hc : l[k]? = some c) (h : valFrom false 0 (l.take k) = some n) (hd : ¬ (48 ≤ c.toNat ∧ c.toNat ≤ 57)) : valFrom false 0 l = none := by
  rw [at_split hc, valFrom_app, h]
  show valFrom false n (c :: _) = none
  apply valFrom_none
  cases hv : digVal false c with
  | none => rfl
  | some d => exact absurd ⟨(digVal_inv c d hv).1, (digVal_inv c d hv).2.1⟩ hd
theorem val_big (l : List UInt8) (k n v : Nat) (h : valFrom false 0 (l.take k) = some n) (hv : valFrom false 0 l = some v) : n ≤ v := by
  rw [← List.take_append_drop k l, valFrom_app, h] at hv
  exact valFrom_ge false _ n v hv
theorem numQ_noval (l : List UInt8) (lim : Nat) (h : valFrom false 0 l = none) : numQ l lim = none := by unfold numQ; rw [h]
theorem numQ_fin (l : List UInt8) (lim n : Nat) (h : valFrom false 0 l = some n) (h0 : l ≠ []) (hz : badZero l = false) : numQ l lim = if n ≤ lim then some n else none := by
  unfold numQ
  rw [h]
  simp only []
  rw [dec_canon l l.length n (Nat.le_refl _) h h0 hz]
  simp
theorem numQ_zero (l : List UInt8) (lim : Nat) (h : badZero l = true) : numQ l lim = none := by
  cases hq : numQ l lim with
  | none => rfl
  | some v =>
    obtain ⟨rfl, -⟩ := (numQ_iff _ _ _).1 hq
    rw [dec_nz v] at h; cases h
theorem nDigits_lt : ∀ (k u : Nat), 1 ≤ k → u < 10 ^ k → Lib.nDigits u ≤ k
  | 0, _, h, _ => absurd h (by omega)
  | k + 1, u, _, h => by
    by_cases h10 : u < 10
    · rw [Lib.nDigits_small h10]; omega
    · rw [Lib.nDigits_big h10]
      rw [Nat.pow_succ] at h
      have hk : 1 ≤ k := by
        rcases Nat.eq_zero_or_pos k with rfl | hk
        · simp at h; omega
        · exact hk
      have := nDigits_lt k (u / 10) hk (by omega)
      omega
theorem numQ_len (l : List UInt8) (lim k : Nat) (hk : 1 ≤ k) (hlim : lim < 10 ^ k) (h : l.length < 1 ∨ k < l.length) : numQ l lim = none := by
  cases hq : numQ l lim with
  | none => rfl
  | some v =>
    obtain ⟨rfl, hv⟩ := (numQ_iff _ _ _).1 hq
    rw [Lib.decDigits_length] at h
    have h1 := Lib.nDigits_pos v
    have h2 := nDigits_lt k v hk (by omega)
    omega
theorem numQ_over (l : List UInt8) (lim k n : Nat) (c : UInt8) (hc : l[k]? = some c) (h : valFrom false 0 (l.take k) = some n) (hd : 48 ≤ c.toNat ∧ c.toNat ≤ 57) (hb : lim < 10 * n + (c.toNat - 48)) : numQ l lim = none := by
  cases hq : numQ l lim with
  | none => rfl
  | some v =>
    obtain ⟨hl, hv⟩ := (numQ_iff _ _ _).1 hq
    have h1 := val_big l (k + 1) _ v (dig_step l k n c hc h hd) (by rw [hl]; exact dec_val v)
    omega
theorem head_bl (s : ByteArray) (h : 0 < s.size) : (bl s)[0]? = some s[0] := at_bl s 0 h
theorem bz_of (s : ByteArray) (h : 0 < s.size) : badZero (bl s) = (decide (2 ≤ s.size) && s[0] == 48) := by
  rw [badZero_iff, bl_len, head_bl s h]; simp
set_option maxRecDepth 20000 in
set_option maxHeartbeats 2000000 in
theorem rnum_c (s : ByteArray) (lim : Nat) (hl : lim ≤ 2147483647) (w : World) : Calls Tryd.prog 34 #[.string s, .int .i64 (lim : Int)] w fun e w' =>
    (∃ V : Int, e = .returned (.tuple #[.int .i64 V, .bool (numQ (bl s) lim).isSome]) ∧ ∀ v, numQ (bl s) lim = some v → V = (v : Int)) ∧ w' = w := by
  have hll := bl_len s
  by_cases h0 : s.size < 1
  · have h0i : ((s.size : Int) < 1) := by omega
    have h0b : decide ((s.size : Int) < 1) = true := decide_eq_true h0i
    have HQ := Lib.hid (numQ_len (bl s) lim 10 (by decide) (by omega) (.inl (by omega)))
    clear hll
    go_enter Tryd.func34, Tryd.ntmps34
    go_wp2
    go_ret2
    exact ⟨⟨0, by rw [HQ.out]; rfl, fun v hv => by rw [HQ.out] at hv; cases hv⟩, rfl⟩
  have h0b : decide ((s.size : Int) < 1) = false := by rw [decide_eq_false_iff_not]; omega
  by_cases h10 : 10 < s.size
  · have h1b : decide ((10 : Int) < (s.size : Int)) = true := by rw [decide_eq_true_eq]; omega
    have h1i : (10 : Int) < (s.size : Int) := by omega
    have HQ := Lib.hid (numQ_len (bl s) lim 10 (by decide) (by omega) (.inr (by omega)))
    clear hll
    go_enter Tryd.func34, Tryd.ntmps34
    go_wp2
    go_ret2
    exact ⟨⟨0, by rw [HQ.out]; rfl, fun v hv => by rw [HQ.out] at hv; cases hv⟩, rfl⟩
  have h1b : decide ((10 : Int) < (s.size : Int)) = false := by rw [decide_eq_false_iff_not]; omega
  have hs0 : 0 < s.size := by omega
  have hbz := bz_of s hs0
  cases hz : badZero (bl s) with
  | true =>
    rw [hz] at hbz
    have hbz2 : 2 ≤ s.size ∧ s[0] = 48 := by simpa using hbz.symm
    have h2i : decide ((1 : Int) < (s.size : Int)) = true := by rw [decide_eq_true_eq]; omega
    have h2b : (((s[0]).toNat : Int) == 48) = true := by rw [hbz2.2]; rfl
    have HQ := Lib.hid (numQ_zero (bl s) lim hz)
    clear hll hz hbz hbz2
    go_enter Tryd.func34, Tryd.ntmps34
    go_wp2
    go_ret2
    exact ⟨⟨0, by rw [HQ.out]; rfl, fun v hv => by rw [HQ.out] at hv; cases hv⟩, rfl⟩
  | false =>
    rw [hz] at hbz
    have hor : decide ((1 : Int) < (s.size : Int)) = false ∨ (decide ((1 : Int) < (s.size : Int)) = true ∧ (((s[0]).toNat : Int) == 48) = false) := by
      by_cases h2 : 2 ≤ s.size
      · refine .inr ⟨by rw [decide_eq_true_eq]; omega, beq_eq_false_iff_ne.2 fun e => ?_⟩
        have : s[0] = 48 := UInt8.toNat_inj.1 (by have : (48 : UInt8).toNat = 48 := rfl; omega)
        rw [this] at hbz
        simp [h2] at hbz
      · exact .inl (by rw [decide_eq_false_iff_not]; omega)
    have HF := Lib.hid (fun n (h : valFrom false 0 (bl s) = some n) => numQ_fin (bl s) lim n h (fun e => by rw [e] at hll; simp at hll; omega) hz)
    have HLL := Lib.hid hll
    have hs10 : s.size ≤ 10 := by omega
    clear hll hz hbz
    rcases hor with hor | ⟨hor, hor2⟩
    all_goals
      go_enter Tryd.func34, Tryd.ntmps34
      go_wp2_with fail
      go_loop [6, 7] (fun nv i => ∃ (n k : Nat), nv = .int .i64 n ∧ i = .int .i64 k ∧ k ≤ s.size ∧ n < 10 ^ k ∧ Hid (valFrom false 0 ((bl s).take k) = some n)) (fun _ i => s.size - (intOf i).toNat)
      case atStart => exact ⟨0, 0, rfl, rfl, Nat.zero_le _, by decide, Lib.hid rfl⟩
      case round =>
        obtain ⟨n, k, rfl, rfl, hk, hn, HV⟩ := hrel
        have hn9 : n < 10000000000 := Nat.lt_of_lt_of_le hn (Nat.pow_le_pow_right (by decide) (show k ≤ 10 by omega))
        by_cases hlt : k < s.size
        · have hlti : (k : Int) < (s.size : Int) := by omega
          have HBB : Hid ((bl s)[k]? = some s[k]) := Lib.hid (at_bl s k hlt)
          by_cases c1 : (s[k]).toNat < 48
          · have c1b : decide (((s[k]).toNat : Int) < 48) = true := by rw [decide_eq_true_eq]; omega
            have c1i : ((s[k]).toNat : Int) < 48 := by omega
            have HQ := Lib.hid (numQ_noval (bl s) lim (dig_stop (bl s) k n _ HBB.out HV.out (by omega)))
            clear c1
            go_wp2
            go_ret2
            exact ⟨⟨0, by rw [HQ.out]; rfl, fun v hv => by rw [HQ.out] at hv; cases hv⟩, rfl⟩
          have c1b : decide (((s[k]).toNat : Int) < 48) = false := by rw [decide_eq_false_iff_not]; omega
          by_cases c2 : 57 < (s[k]).toNat
          · have c2b : decide ((57 : Int) < ((s[k]).toNat : Int)) = true := by rw [decide_eq_true_eq]; omega
            have HQ := Lib.hid (numQ_noval (bl s) lim (dig_stop (bl s) k n _ HBB.out HV.out (by omega)))
            clear c1 c2
            go_wp2
            go_ret2
            exact ⟨⟨0, by rw [HQ.out]; rfl, fun v hv => by rw [HQ.out] at hv; cases hv⟩, rfl⟩
          have c2b : decide ((57 : Int) < ((s[k]).toNat : Int)) = false := by rw [decide_eq_false_iff_not]; omega
          have HV2 := Lib.hid (dig_step (bl s) k n _ HBB.out HV.out (by omega))
          have hp : 10 * n + ((s[k]).toNat - 48) < 10 ^ (k + 1) := by rw [Nat.pow_succ]; omega
          have w1 : IntKind.i64.wrap (10 * (n : Int)) = 10 * (n : Int) := by rw [IntKind.wrap_i64]; omega
          have w2 : IntKind.u8.wrap (((s[k]).toNat : Int) - 48) = ((s[k]).toNat : Int) - 48 := by simp [IntKind.wrap, IntKind.signed, IntKind.bits]; omega
          have w3 : IntKind.i64.wrap (((s[k]).toNat : Int) - 48) = ((s[k]).toNat : Int) - 48 := by rw [IntKind.wrap_i64]; omega
          have w4 : IntKind.i64.wrap (10 * (n : Int) + (((s[k]).toNat : Int) - 48)) = 10 * (n : Int) + (((s[k]).toNat : Int) - 48) := by rw [IntKind.wrap_i64]; omega
          go_wp2
          refine ⟨⟨10 * n + ((s[k]).toNat - 48), k + 1, ?_, by go_num, by omega, hp, HV2⟩, by simp [intOf]; omega⟩
          · first | (congr 1; omega) | (simp; omega)
        · have hke : k = s.size := by omega
          subst hke
          have hV := HV.out
          rw [List.take_of_length_le (by rw [HLL.out]; exact Nat.le_refl _)] at hV
          have HQ := Lib.hid (HF.out n hV)
          clear hV
          by_cases hle : n ≤ lim
          · have hleb : decide ((n : Int) ≤ (lim : Int)) = true := by rw [decide_eq_true_eq]; omega
            have HQ2 : Hid (numQ (bl s) lim = some n) := Lib.hid (by rw [HQ.out, if_pos hle])
            go_wp2
            go_ret2
            exact ⟨⟨n, by rw [HQ2.out]; rfl, fun v hv => by rw [HQ2.out] at hv; cases hv; rfl⟩, rfl⟩
          · have hleb : decide ((n : Int) ≤ (lim : Int)) = false := by rw [decide_eq_false_iff_not]; omega
            have HQ2 : Hid (numQ (bl s) lim = none) := Lib.hid (by rw [HQ.out, if_neg hle])
            go_wp2
            go_ret2
            exact ⟨⟨n, by rw [HQ2.out]; rfl, fun v hv => by rw [HQ2.out] at hv; cases hv⟩, rfl⟩
end Go.Proofs.YthfnjphmodcnoaaDoor
