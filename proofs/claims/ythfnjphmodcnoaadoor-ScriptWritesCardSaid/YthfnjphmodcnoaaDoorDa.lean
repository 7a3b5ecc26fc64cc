/- The plain law of ScriptWrites: the text of a script, and that it is read as the script. No program in sight. -/
import Derived.Test.YthfnjphmodcnoaaDoorBf
import Derived.Test.YthfnjphmodcnoaaDoorZc
namespace Go.Proofs.YthfnjphmodcnoaaDoor
set_option linter.unusedSimpArgs false
set_option linter.unusedVariables false

/-- the text up to the picks -/
def headT (f c e : Nat) : List UInt8 := [102, 117, 101, 108, 32] ++ Lib.decDigits f ++ [10, 99, 101, 108, 108, 115, 32] ++ Lib.decDigits c ++ [10, 101, 118, 101, 114, 121, 32] ++ Lib.decDigits e ++ [10, 112, 105, 99, 107, 115]
def fullT (f c e : Nat) (ps : List Nat) : List UInt8 := headT f c e ++ picksT ps ++ [10]
theorem full_text (f c e : Nat) (ps : List Nat) : fullT f c e ps = textT f c e ps [0, 1, 2, 3] := by
  simp [fullT, headT, textT, lineT, kFuel, kCells, kEvery, kPicks]
theorem numQ_most (v : Nat) (h : v ≤ 2147483647) : oneQ [Lib.decDigits v] = some v := by
  unfold oneQ; exact numQ_dec v _ (by unfold mostP; omega)
theorem go_full (f c e : Nat) (ps : List Nat) (hf : f ≤ 2147483647) (hc : c ≤ 2147483647) (he : e ≤ 2147483647) (hp : ∀ v ∈ ps, v ≤ 65535) :
    goP (linesP (fullT f c e ps)).2 (linesP (fullT f c e ps)).1 0 st0 = .ok ⟨f, c, e, ps, true, true, true, true⟩ := by
  rw [full_text, text_lines]
  have h0 := split_one kFuel f (by decide)
  have h1 := split_one kCells c (by decide)
  have h2 := split_one kEvery e (by decide)
  have h3 := split_picks ps kPicks (by decide)
  have n0 := numQ_most f hf
  have n1 := numQ_most c hc
  have n2 := numQ_most e he
  have n3 := pickL_dec ps hp
  show goP true [lineT f c e ps 0, lineT f c e ps 1, lineT f c e ps 2, lineT f c e ps 3] 0 st0 = _
  simp only [lineT]
  rw [goP, h0]
  simp only [List.headD_cons, List.tail_cons, show kwP kFuel = some 0 by decide, setQ, n0, Option.map_some, seenP, st0, List.isEmpty_cons, Bool.false_and, Bool.false_eq_true, if_false]
  rw [goP, h1]
  simp only [List.headD_cons, List.tail_cons, show kwP kCells = some 1 by decide, setQ, n1, Option.map_some, seenP, List.isEmpty_cons, Bool.false_and, Bool.false_eq_true, if_false]
  rw [goP, h2]
  simp only [List.headD_cons, List.tail_cons, show kwP kEvery = some 2 by decide, setQ, n2, Option.map_some, seenP, List.isEmpty_cons, Bool.false_and, Bool.false_eq_true, if_false]
  rw [goP, h3]
  simp only [List.headD_cons, List.tail_cons, show kwP kPicks = some 3 by decide, setQ, n3, Option.map_some, seenP, List.isEmpty_nil, Bool.not_true, Bool.and_false, Bool.false_eq_true, if_false, goP]
theorem dec_len1 (v : Nat) : 1 ≤ (Lib.decDigits v).length := by rw [Lib.decDigits_length]; exact Lib.nDigits_pos v
theorem picksT_low : ∀ (l : List Nat), 2 * l.length ≤ (picksT l).length
  | [] => by simp [picksT]
  | v :: l => by
    have ih := picksT_low l
    have := dec_len1 v
    simp [picksT]; omega
theorem picksT_len2 : ∀ (l : List Nat), (∀ v ∈ l, v ≤ 65535) → (picksT l).length ≤ 21 * l.length
  | [], _ => by simp [picksT]
  | v :: l, h => by
    have ih := picksT_len2 l (fun x hx => h x (by simp [hx]))
    have h1 := dec_len v (by have := h v (by simp); omega)
    simp [picksT]; omega
theorem picksT_app : ∀ (l m : List Nat), picksT (l ++ m) = picksT l ++ picksT m
  | [], m => by simp [picksT]
  | x :: l, m => by rw [List.cons_append, picksT, picksT, picksT_app l m]; simp
theorem picksT_take (l : List Nat) (k : Nat) : (picksT (l.take k)).length ≤ (picksT l).length := by
  conv => rhs; rw [← List.take_append_drop k l, picksT_app, List.length_append]
  omega
theorem picksT_next (l : List Nat) (k v : Nat) (h : l[k]? = some v) : picksT (l.take (k + 1)) = picksT (l.take k) ++ 32 :: Lib.decDigits v := by
  rw [List.take_add_one, h, picksT_app]
  simp [picksT]
/-- what script.Text answers -/
def inR (n : Int) : Bool := decide (0 ≤ n) && decide (n ≤ 2147483647)
def textS (f c e : Int) (ps : List Nat) : List UInt8 × Int :=
  if inR f && inR c && inR e then (if (fullT f.toNat c.toNat e.toNat ps).length ≤ 65536 then (fullT f.toNat c.toNat e.toNat ps, 0) else ([], 6)) else ([], 1)
theorem textS_bad (f c e : Int) (ps : List Nat) (h : ¬ (inR f && inR c && inR e) = true) : textS f c e ps = ([], 1) := by unfold textS; rw [if_neg h]
theorem inR_of {n : Int} (h0 : 0 ≤ n) (h1 : n ≤ 2147483647) : inR n = true := by unfold inR; simp [h0, h1]
theorem inR_not {n : Int} (h : n < 0 ∨ 2147483647 < n) : inR n = false := by
  unfold inR
  rcases h with h | h
  · rw [decide_eq_false (show ¬ (0 : Int) ≤ n by omega), Bool.false_and]
  · rw [decide_eq_false (show ¬ n ≤ (2147483647 : Int) by omega), Bool.and_false]
theorem textS_ok (f c e : Nat) (ps : List Nat) (hf : f ≤ 2147483647) (hc : c ≤ 2147483647) (he : e ≤ 2147483647) : textS f c e ps = if (fullT f c e ps).length ≤ 65536 then (fullT f c e ps, 0) else ([], 6) := by
  unfold textS
  rw [inR_of (by omega) (by omega), inR_of (by omega) (by omega), inR_of (by omega) (by omega)]
  rfl
theorem textS_long (f c e : Nat) (ps : List Nat) (hf : f ≤ 2147483647) (hc : c ≤ 2147483647) (he : e ≤ 2147483647) (h : 65536 < (fullT f c e ps).length) : textS f c e ps = ([], 6) := by
  rw [textS_ok f c e ps hf hc he, if_neg (by omega)]
theorem textS_fit (f c e : Nat) (ps : List Nat) (hf : f ≤ 2147483647) (hc : c ≤ 2147483647) (he : e ≤ 2147483647) (h : (fullT f c e ps).length ≤ 65536) : textS f c e ps = (fullT f c e ps, 0) := by
  rw [textS_ok f c e ps hf hc he, if_pos h]
theorem headT_len (f c e : Nat) (hf : f ≤ 2147483647) (hc : c ≤ 2147483647) (he : e ≤ 2147483647) : (headT f c e).length ≤ 100 := by
  have h1 := dec_len f (by omega)
  have h2 := dec_len c (by omega)
  have h3 := dec_len e (by omega)
  simp [headT]; omega
theorem fullT_len (f c e : Nat) (ps : List Nat) : (fullT f c e ps).length = (headT f c e).length + (picksT ps).length + 1 := by simp [fullT]; omega
theorem textS_cases (f c e : Int) (ps : List Nat) : (textS f c e ps = ([], 1)) ∨ (textS f c e ps = ([], 6)) ∨ (∃ f' c' e' : Nat, f = f' ∧ c = c' ∧ e = e' ∧ f' ≤ 2147483647 ∧ c' ≤ 2147483647 ∧ e' ≤ 2147483647 ∧ (fullT f' c' e' ps).length ≤ 65536 ∧ textS f c e ps = (fullT f' c' e' ps, 0)) := by
  by_cases h : (inR f && inR c && inR e) = true
  · simp only [Bool.and_eq_true, inR, decide_eq_true_eq] at h
    obtain ⟨⟨⟨h1, h2⟩, h3, h4⟩, h5, h6⟩ := h
    obtain ⟨f, rfl⟩ : ∃ n : Nat, f = (n : Int) := ⟨f.toNat, by omega⟩
    obtain ⟨c, rfl⟩ : ∃ n : Nat, c = (n : Int) := ⟨c.toNat, by omega⟩
    obtain ⟨e, rfl⟩ : ∃ n : Nat, e = (n : Int) := ⟨e.toNat, by omega⟩
    by_cases hl : (fullT f c e ps).length ≤ 65536
    · exact .inr (.inr ⟨f, c, e, rfl, rfl, rfl, by omega, by omega, by omega, hl, textS_fit f c e ps (by omega) (by omega) (by omega) hl⟩)
    · exact .inr (.inl (textS_long f c e ps (by omega) (by omega) (by omega) (by omega)))
  · exact .inl (textS_bad f c e ps h)
end Go.Proofs.YthfnjphmodcnoaaDoor
