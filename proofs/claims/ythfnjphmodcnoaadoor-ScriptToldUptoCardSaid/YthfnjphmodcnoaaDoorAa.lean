/- Plain laws for scripts and reports: numbers as they are written, lines, words. No program in sight. -/
import Derived.Test.YthfnjphmodcnoaaDoorZa
import Derived.Test.YthfnjphmodcnoaaDoorTc
import Derived.Lib.ParseIntB
namespace Go.Proofs.YthfnjphmodcnoaaDoor
set_option linter.unusedSimpArgs false
set_option linter.unusedVariables false

/-! ### numbers -/
def numQ (l : List UInt8) (limit : Nat) : Option Nat := match valFrom false 0 l with
  | some v => if Lib.decDigits v = l ∧ v ≤ limit then some v else none
  | none => none
theorem numQ_iff (l : List UInt8) (limit v : Nat) : numQ l limit = some v ↔ (l = Lib.decDigits v ∧ v ≤ limit) := by
  unfold numQ
  constructor
  · intro h
    cases hv : valFrom false 0 l with
    | none => rw [hv] at h; cases h
    | some u =>
      rw [hv] at h
      simp only [] at h
      split at h
      · rename_i hh
        obtain rfl := Option.some.inj h
        exact ⟨hh.1.symm, hh.2⟩
      · cases h
  · rintro ⟨rfl, h⟩
    rw [dec_val]
    simp [h]
theorem digVal_inv (c : UInt8) (d : Nat) (h : digVal false c = some d) : 48 ≤ c.toNat ∧ c.toNat ≤ 57 ∧ d = c.toNat - 48 := by
  unfold digVal at h
  split at h
  · rename_i hh; exact ⟨hh.1, hh.2, (Option.some.inj h).symm⟩
  · simp at h
theorem digVal_no (c : UInt8) (h : digVal false c = none) : ¬ (48 ≤ c.toNat ∧ c.toNat ≤ 57) := by
  intro hh
  unfold digVal at h
  rw [if_pos hh] at h; cases h
theorem pm_ok (M : Nat) : ∀ (l : List UInt8) (acc u : Nat), Lib.parseUintM M acc l = .ok u → valFrom false acc l = some u ∧ (acc ≤ M → u ≤ M)
  | [], acc, u, h => by
    rw [Lib.parseUintM] at h
    cases h; exact ⟨rfl, id⟩
  | c :: l, acc, u, h => by
    rw [Lib.parseUintM] at h
    split at h
    · rename_i hd
      split at h
      · cases h
      · split at h
        · cases h
        · rename_i h2 h3
          have ih := pm_ok M l _ u h
          have hv : digVal false c = some (c.toNat - 48) := by unfold digVal; rw [if_pos hd]
          rw [valFrom_some _ _ _ _ _ hv]
          exact ⟨ih.1, fun _ => ih.2 (by omega)⟩
    · cases h
theorem pm_val (M : Nat) (hM : M < 18446744073709551616) : ∀ (l : List UInt8) (acc u : Nat), valFrom false acc l = some u → u ≤ M → Lib.parseUintM M acc l = .ok u
  | [], acc, u, h, _ => by
    cases h; rfl
  | c :: l, acc, u, h, hu => by
    cases hd : digVal false c with
    | none => rw [valFrom_none _ _ _ _ hd] at h; cases h
    | some d =>
      rw [valFrom_some _ _ _ _ _ hd] at h
      have hge := valFrom_ge false l _ u h
      obtain ⟨h1, h2, rfl⟩ := digVal_inv c d hd
      simp only [baseN, Bool.false_eq_true, if_false] at h hge
      rw [Lib.parseUintM, if_pos ⟨h1, h2⟩, if_neg (by omega), if_neg (by omega)]
      exact pm_val M hM l _ u h hu
theorem pb_ok (B : Nat) (l : List UInt8) (u : Nat) (h : Lib.parseUintB B l = .ok u) : valFrom false 0 l = some u ∧ u ≤ 2 ^ B - 1 ∧ l ≠ [] := by
  unfold Lib.parseUintB at h
  split at h
  · cases h
  · rename_i hl
    have := pm_ok _ l 0 u h
    exact ⟨this.1, this.2 (Nat.zero_le _), hl⟩
theorem pb_dec (B v : Nat) (hB : 2 ^ B - 1 < 18446744073709551616) (h : v ≤ 2 ^ B - 1) : Lib.parseUintB B (Lib.decDigits v) = .ok v := by
  unfold Lib.parseUintB
  rw [if_neg (dec_ne v)]
  exact pm_val _ hB _ _ _ (dec_val v) h
theorem numQ_ok (l : List UInt8) (limit u : Nat) (h : Lib.parseUintB 63 l = .ok u) : (numQ l limit).isSome = (Lib.decDigits u == l && decide (u ≤ limit)) ∧ (∀ v, numQ l limit = some v → v = u) := by
  have hv := (pb_ok _ _ _ h).1
  unfold numQ
  rw [hv]
  simp only []
  by_cases h1 : Lib.decDigits u = l
  · by_cases h2 : u ≤ limit
    · rw [if_pos ⟨h1, h2⟩]
      refine ⟨by simp [h1, h2], fun v e => (Option.some.inj e).symm⟩
    · rw [if_neg (fun h => h2 h.2)]
      exact ⟨by simp [h2], fun v e => by cases e⟩
  · rw [if_neg (fun h => h1 h.1)]
    exact ⟨by simp [h1], fun v e => by cases e⟩
theorem numQ_bad (l : List UInt8) (limit : Nat) (hl : limit ≤ 9223372036854775807) (h : ∀ u, Lib.parseUintB 63 l ≠ .ok u) : numQ l limit = none := by
  cases hq : numQ l limit with
  | none => rfl
  | some v =>
    obtain ⟨rfl, hv⟩ := (numQ_iff l limit v).1 hq
    exact absurd (pb_dec 63 v (by decide) (by omega)) (h v)
theorem dec_canon (l : List UInt8) : ∀ (k n : Nat), l.length ≤ k → valFrom false 0 l = some n → l ≠ [] → badZero l = false → Lib.decDigits n = l := by
  intro k
  induction k generalizing l with
  | zero => intro n hk _ hl _; exact absurd (List.length_eq_zero_iff.1 (by omega)) hl
  | succ k ih =>
    intro n hk hv hl hz
    obtain ⟨m, c, rfl⟩ : ∃ m c, l = m ++ [c] := ⟨l.dropLast, l.getLast hl, (List.dropLast_concat_getLast hl).symm⟩
    rw [valFrom_app] at hv
    cases hm : valFrom false 0 m with
    | none => rw [hm] at hv; cases hv
    | some a =>
      rw [hm] at hv
      have hv2 : valFrom false a [c] = some n := hv
      cases hd : digVal false c with
      | none => rw [valFrom_none _ _ _ _ hd] at hv2; cases hv2
      | some d =>
        rw [valFrom_some _ _ _ _ _ hd] at hv2
        obtain ⟨h1, h2, rfl⟩ := digVal_inv c d hd
        have hn : a * 10 + (c.toNat - 48) = n := by simpa [valFrom, baseN] using hv2
        have hc : UInt8.ofNat (48 + (c.toNat - 48)) = c := by
          rw [show 48 + (c.toNat - 48) = c.toNat by omega]; simp
        by_cases hm0 : m = []
        · subst hm0
          cases hm
          rw [Lib.decDigits_one (by omega), ← hn]
          simp [hc]
        · have hz2 : badZero m = false := by
            rw [badZero_iff] at hz ⊢
            have hlen : 2 ≤ (m ++ [c]).length := by
              have := List.length_pos_iff.2 hm0
              rw [List.length_append, List.length_singleton]; omega
            have h0 : (m ++ [c])[0]? = m[0]? := List.getElem?_append_left (List.length_pos_iff.2 hm0)
            rw [decide_eq_true hlen, h0] at hz
            simp only [Bool.true_and] at hz
            rw [hz, Bool.and_false]
          have hI := ih m a (by simp at hk; omega) hm hm0 hz2
          have ha : a ≠ 0 := by
            rintro rfl
            rw [Lib.decDigits_one (by omega)] at hI
            subst hI
            rw [badZero_iff] at hz
            simp at hz
          rw [decd_step (by omega), show n / 10 = a by omega, show n % 10 = c.toNat - 48 by omega, hI, hc]

/-! ### pieces of a text -/
def splitP (c : UInt8) : List UInt8 → List (List UInt8)
  | [] => [[]]
  | b :: m => if b = c then [] :: splitP c m else match splitP c m with
    | [] => [[b]]
    | h :: t => (b :: h) :: t
theorem splitP_ne (c : UInt8) (l : List UInt8) : splitP c l ≠ [] := by
  cases l with
  | nil => simp [splitP]
  | cons b m =>
    unfold splitP
    split
    · simp
    · split <;> simp
theorem splitP_none (c : UInt8) : ∀ (x : List UInt8), c ∉ x → splitP c x = [x]
  | [], _ => rfl
  | b :: m, h => by
    have hb : b ≠ c := fun e => h (by simp [e])
    have ih := splitP_none c m (fun hm => h (by simp [hm]))
    rw [splitP, if_neg hb, ih]
theorem splitP_app (c : UInt8) : ∀ (x y : List UInt8), c ∉ x → splitP c (x ++ c :: y) = x :: splitP c y
  | [], y, _ => by simp [splitP]
  | b :: m, y, h => by
    have hb : b ≠ c := fun e => h (by simp [e])
    have ih := splitP_app c m y (fun hm => h (by simp [hm]))
    rw [List.cons_append, splitP, if_neg hb, ih]
/-- the lines of a text, and whether the last one has its end -/
def linesP (l : List UInt8) : List (List UInt8) × Bool :=
  if l = [] then ([], true) else if (splitP 10 l).getLast? = some [] then ((splitP 10 l).dropLast, true) else (splitP 10 l, false)
end Go.Proofs.YthfnjphmodcnoaaDoor
