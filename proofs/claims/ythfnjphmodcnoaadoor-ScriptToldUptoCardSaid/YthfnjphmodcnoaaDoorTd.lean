/- Plain laws of numbers as they are read: digit by digit, and the sign that a text begins with. No program in sight. -/
import Derived.Test.YthfnjphmodcnoaaDoorTc
namespace Go.Proofs.YthfnjphmodcnoaaDoor
set_option linter.unusedSimpArgs false
set_option linter.unusedVariables false

theorem valFrom_none (hex : Bool) (n : Nat) (c : UInt8) (l : List UInt8) (h : digVal hex c = none) : valFrom hex n (c :: l) = none := by
  show (match digVal hex c with | some d => valFrom hex (n * baseN hex + d) l | none => none) = _
  rw [h]
theorem valFrom_some (hex : Bool) (n d : Nat) (c : UInt8) (l : List UInt8) (h : digVal hex c = some d) : valFrom hex n (c :: l) = valFrom hex (n * baseN hex + d) l := by
  show (match digVal hex c with | some d => valFrom hex (n * baseN hex + d) l | none => none) = _
  rw [h]
theorem valFrom_app (hex : Bool) : ∀ (a : List UInt8) (n : Nat) (b : List UInt8), valFrom hex n (a ++ b) = (valFrom hex n a).bind fun v => valFrom hex v b
  | [], n, b => rfl
  | c :: a, n, b => by
    cases hd : digVal hex c with
    | none => rw [List.cons_append, valFrom_none hex n c _ hd, valFrom_none hex n c _ hd]; rfl
    | some d => rw [List.cons_append, valFrom_some hex n d c _ hd, valFrom_some hex n d c _ hd]; exact valFrom_app hex a _ b
theorem valFrom_ge (hex : Bool) : ∀ (l : List UInt8) (n v : Nat), valFrom hex n l = some v → n ≤ v
  | [], n, v, h => by cases h; exact Nat.le_refl _
  | c :: l, n, v, h => by
    cases hd : digVal hex c with
    | none => rw [valFrom_none hex n c l hd] at h; cases h
    | some d =>
      rw [valFrom_some hex n d c l hd] at h
      have := valFrom_ge hex l _ _ h
      have hb : 1 ≤ baseN hex := by unfold baseN; split <;> decide
      have : n ≤ n * baseN hex := Nat.le_mul_of_pos_right n hb
      omega
theorem digVal_lt (hex : Bool) (c : UInt8) (d : Nat) (h : digVal hex c = some d) : d < baseN hex := by
  have hc := c.toNat_lt
  unfold digVal at h
  cases hex <;> simp [baseN] at h ⊢
  · omega
  · split at h
    · simp at h; omega
    · split at h
      · simp at h; omega
      · split at h
        · simp at h; omega
        · cases h
/-- one digit more, at a place -/
theorem val_snoc (hex : Bool) (l : List UInt8) (j : Nat) (v d : Nat) (c : UInt8) (hj : l[j]? = some c) (hv : valFrom hex 0 (l.take j) = some v) (hd : digVal hex c = some d) :
    valFrom hex 0 (l.take (j + 1)) = some (v * baseN hex + d) := by
  obtain ⟨h1, h2⟩ := List.getElem?_eq_some_iff.1 hj
  rw [List.take_succ_eq_append_getElem h1, h2, valFrom_app, hv]
  show valFrom hex v [c] = _
  rw [valFrom_some hex v d c [] hd]; rfl
theorem val_bad (hex : Bool) (l : List UInt8) (j : Nat) (v : Nat) (c : UInt8) (hj : l[j]? = some c) (hv : valFrom hex 0 (l.take j) = some v) (hd : digVal hex c = none) :
    valFrom hex 0 l = none := by
  obtain ⟨h1, h2⟩ := List.getElem?_eq_some_iff.1 hj
  have e : l = l.take j ++ c :: l.drop (j + 1) := by rw [← h2, ← List.drop_eq_getElem_cons h1, List.take_append_drop]
  rw [e, valFrom_app, hv]
  exact valFrom_none hex v c _ hd
/-! ### what a number is, case by case -/
theorem numP_zero (l : List UInt8) (h : isHex l = false) (hz : badZero l = true) : numP l = (0, 4) := by simp [numP, h, hz]
theorem numP_empty (l : List UInt8) (h : digitsOf l = []) : numP l = (0, 4) := by
  unfold numP
  simp [h]
theorem numP_bad (l : List UInt8) (h : valFrom (isHex l) 0 (digitsOf l) = none) : numP l = (0, 4) := by
  unfold numP; split
  · rfl
  · split
    · rfl
    · rw [h]
theorem numP_ok (l : List UInt8) (v : Nat) (h : valFrom (isHex l) 0 (digitsOf l) = some v) (hz : isHex l = true ∨ badZero l = false) (he : digitsOf l ≠ []) : numP l = if v < 18446744073709551616 then (v, 0) else (0, 6) := by
  unfold numP
  rw [if_neg (by rcases hz with hz | hz <;> simp [hz]), if_neg he, h]
theorem isHex_iff (l : List UInt8) : isHex l = (decide (2 ≤ l.length) && l[0]? == some 48 && l[1]? == some 120) := by
  match l with
  | [] => rfl
  | [a] => simp [isHex]
  | a :: b :: m =>
    by_cases ha : a = 48
    · by_cases hb : b = 120
      · subst ha hb; simp [isHex]
      · subst ha; simp [isHex, hb]
    · simp [isHex, ha]
theorem badZero_iff (l : List UInt8) : badZero l = (decide (2 ≤ l.length) && l[0]? == some 48) := by
  match l with
  | [] => rfl
  | [a] => simp [badZero]
  | a :: b :: m =>
    by_cases ha : a = 48
    · subst ha; simp [badZero]
    · simp [badZero, ha]
end Go.Proofs.YthfnjphmodcnoaaDoor
