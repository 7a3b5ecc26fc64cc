/- What script.Read answers behind its trace: plain. -/
import Derived.Test.YthfnjphmodcnoaaDoorEb
namespace Go.Proofs.YthfnjphmodcnoaaDoor
set_option linter.unusedSimpArgs false
set_option linter.unusedVariables false

section
variable {L : List (List UInt8)} {en : Bool} {i : Nat} {x y : List UInt8} {k v : Int}
theorem readP_bad1 (hi : i ≤ wholeN L en) (hall : ∀ z ∈ L.take i, toldP z = true) (hx : L[i]? = some x) (hf : toldP x = false) (h : endQ x = none ∨ i = wholeN L en) : readP L en = .error (i + 1) := by
  by_cases h1 : i = wholeN L en
  · exact readP_end L en i h1 hall
  · rcases h with h | h
    · exact readP_noend L en i (by omega) hall x hx hf h
    · exact absurd h h1
theorem readP_bad2 (hi : i < wholeN L en) (hall : ∀ z ∈ L.take i, toldP z = true) (hx : L[i]? = some x) (hf : toldP x = false) (h : endQ x = some (k, v)) (hy : L[i + 1]? = some y) (hq : numsQ y = none ∨ i + 1 = wholeN L en) : readP L en = .error (i + 2) := by
  by_cases h1 : i + 1 = wholeN L en
  · exact readP_short L en i hi hall x hx hf k v h h1
  · rcases hq with hq | hq
    · rw [readP_line L en i (by omega) hall x hx hf k v h y hy, hq]
    · exact absurd hq h1
theorem readP_more {s p : Nat} (hi : i + 1 < wholeN L en) (hall : ∀ z ∈ L.take i, toldP z = true) (hx : L[i]? = some x) (hf : toldP x = false) (h : endQ x = some (k, v)) (hy : L[i + 1]? = some y) (hq : numsQ y = some (s, p)) (hm : i + 2 < L.length) : readP L en = .error (i + 3) := by
  rw [readP_line L en i hi hall x hx hf k v h y hy, hq]
  simp only [if_pos hm]
theorem readP_good {s p : Nat} (hi : i + 1 < wholeN L en) (hall : ∀ z ∈ L.take i, toldP z = true) (hx : L[i]? = some x) (hf : toldP x = false) (h : endQ x = some (k, v)) (hy : L[i + 1]? = some y) (hq : numsQ y = some (s, p)) (hm : ¬ i + 2 < L.length) : readP L en = .ok ⟨L.take i, k, v, s, p⟩ := by
  rw [readP_line L en i hi hall x hx hf k v h y hy, hq]
  simp only [if_neg hm]
end
theorem numsQ_word {y d0 d1 d2 d3 : List UInt8} (h : splitP 32 y = [d0, d1, d2, d3]) (hb : d0 ≠ stepsL ∨ d2 ≠ kPicks) : numsQ y = none := by
  rw [numsQ_ok d1 d2 d0 d3 y h, if_neg (fun hh => hb.elim (fun g => g hh.1) (fun g => g hh.2))]
theorem numsQ_nums {y d0 d1 d2 d3 : List UInt8} (h : splitP 32 y = [d0, d1, d2, d3]) (h0 : d0 = stepsL) (h2 : d2 = kPicks) : numsQ y = match numQ d1 mostP, numQ d3 mostP with | some s, some p => some (s, p) | _, _ => none := by
  rw [numsQ_ok d1 d2 d0 d3 y h, if_pos ⟨h0, h2⟩]
  rfl
theorem numsQ_n1 {y d0 d1 d2 d3 : List UInt8} (h : splitP 32 y = [d0, d1, d2, d3]) (h0 : d0 = stepsL) (h2 : d2 = kPicks) (hq : numQ d1 mostP = none ∨ numQ d3 mostP = none) : numsQ y = none := by
  rw [numsQ_nums h h0 h2]
  rcases hq with hq | hq
  · rw [hq]
  · rw [hq]; split <;> simp_all
theorem numsQ_s {y d0 d1 d2 d3 : List UInt8} {s p : Nat} (h : splitP 32 y = [d0, d1, d2, d3]) (h0 : d0 = stepsL) (h2 : d2 = kPicks) (hq : numQ d1 mostP = some s) (hq2 : numQ d3 mostP = some p) : numsQ y = some (s, p) := by
  rw [numsQ_nums h h0 h2, hq, hq2]
theorem four_of {D : List (List UInt8)} (h : D.length = 4) : ∃ d0 d1 d2 d3, D = [d0, d1, d2, d3] := by
  match D, h with
  | [a, b, c, d], _ => exact ⟨a, b, c, d, rfl⟩
theorem mem4 {y d0 d1 d2 d3 : List UInt8} (h : splitP 32 y = [d0, d1, d2, d3]) {B : Nat} (hy : y.length ≤ B) (hsm : ∀ z ∈ splitP 32 y, z.length ≤ y.length) : d0.length ≤ B ∧ d1.length ≤ B ∧ d2.length ≤ B ∧ d3.length ≤ B := by
  rw [h] at hsm
  exact ⟨Nat.le_trans (hsm d0 (by simp)) hy, Nat.le_trans (hsm d1 (by simp)) hy, Nat.le_trans (hsm d2 (by simp)) hy, Nat.le_trans (hsm d3 (by simp)) hy⟩
end Go.Proofs.YthfnjphmodcnoaaDoor
