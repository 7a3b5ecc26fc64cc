/- Plain laws: the sign that a text begins with, by the reference's words; digits by their byte. No program in sight. -/
import Derived.Test.YtihdjofihdgigaaDoorTf
namespace Go.Proofs.YtihdjofihdgigaaDoor
set_option linter.unusedSimpArgs false
set_option linter.unusedVariables false

def twoList : List (List UInt8) := [[60, 60], [62, 62], [38, 94], [38, 38], [124, 124], [61, 61], [33, 61], [60, 61], [62, 61], [58, 61], [60, 45]]
def singleList : List (List UInt8) := [[43], [45], [42], [47], [37], [38], [124], [94], [33], [60], [62], [61], [40], [41], [91], [93], [123], [125], [44], [46], [58], [59]]
def signR (l : List UInt8) : List UInt8 :=
  if 2 ≤ l.length ∧ twoList.contains (l.take 2) = true then l.take 2 else if singleList.contains (l.take 1) = true then l.take 1 else []
theorem find_len (k : Nat) (l : List UInt8) : ∀ (L : List (List UInt8)), (∀ g ∈ L, g.length = k) →
    L.find? (fun g => g.isPrefixOf l) = if k ≤ l.length ∧ L.contains (l.take k) = true then some (l.take k) else none
  | [], _ => by simp
  | g :: L, h => by
    have hg : g.length = k := h g (by simp)
    have ih := find_len k l L (fun g hg => h g (by simp [hg]))
    by_cases hp : g.isPrefixOf l = true
    · have hpre := List.isPrefixOf_iff_prefix.1 hp
      have e : l.take k = g := by rw [← hg]; exact (List.prefix_iff_eq_take.1 hpre).symm
      have hle := hpre.length_le
      rw [List.find?_cons, hp, e, if_pos ⟨by omega, by simp⟩]
    · have hp' : g.isPrefixOf l = false := Bool.eq_false_iff.2 hp
      rw [List.find?_cons, hp', ih]
      have hne : k ≤ l.length → ¬ l.take k = g := fun hk e => hp (by rw [List.isPrefixOf_iff_prefix, ← e]; exact List.take_prefix k l)
      by_cases hk : k ≤ l.length
      · have hn := hne hk
        have : (g :: L).contains (l.take k) = L.contains (l.take k) := by
          rw [List.contains_cons, beq_eq_false_iff_ne.2 hn, Bool.false_or]
        rw [this]
      · rw [if_neg (by simp [hk]), if_neg (by simp [hk])]
theorem sign_eq (l : List UInt8) (hl : l ≠ []) : signOf l = if signR l = [] then none else some (signR l) := by
  have h1 : 1 ≤ l.length := by
    cases l with
    | nil => exact absurd rfl hl
    | cons b m => simp
  have hs : signList = twoList ++ singleList := rfl
  unfold signOf
  rw [hs, List.find?_append, find_len 2 l twoList (by decide), find_len 1 l singleList (by decide)]
  unfold signR
  by_cases ha : 2 ≤ l.length ∧ twoList.contains (l.take 2) = true
  · rw [if_pos ha, if_pos ha]
    have hne : ¬ l.take 2 = [] := by
      intro e
      have := congrArg List.length e
      rw [List.length_take, List.length_nil] at this; omega
    rw [if_neg hne]; rfl
  · rw [if_neg ha, if_neg ha]
    by_cases hb : singleList.contains (l.take 1) = true
    · have hne : ¬ l.take 1 = [] := by
        intro e
        have := congrArg List.length e
        rw [List.length_take, List.length_nil] at this; omega
      rw [if_pos ⟨h1, hb⟩, if_pos hb, if_neg hne]; rfl
    · rw [if_neg (by intro h; exact hb h.2), if_neg hb, if_pos rfl]; rfl
theorem dig_byte (b : UInt8) (m : List UInt8) : isDig (decL (b :: m)).1 = (decide (48 ≤ b.toNat) && decide (b.toNat ≤ 57)) := by
  by_cases h : b.toNat < 128
  · rw [dec_ascii b m h]; unfold isDig; rw [Bool.eq_iff_iff]; simp; omega
  · have := (dec_high b m (by omega)).1
    unfold isDig; rw [Bool.eq_iff_iff]; simp; omega
theorem run_pos (b : UInt8) (m : List UInt8) : 0 < runL (b :: m) ↔ isLD (decL (b :: m)).1 = true := by
  constructor
  · intro h
    cases hr : isLD (decL (b :: m)).1 with
    | true => rfl
    | false => rw [runL_no b m hr] at h; omega
  · intro h
    rw [runL_yes b m h]
    have := dec_pos b m
    omega
end Go.Proofs.YtihdjofihdgigaaDoor
