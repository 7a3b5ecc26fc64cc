/- Heaps of an evaluator of closed calls: a tree of numbered blocks; programs over them, what they read and write, and that nothing else matters to them. No program in sight. -/
import Derived.Calls
namespace Go.Proofs.YtlapjkgfjfajdaaGreatDoor
set_option linter.unusedSimpArgs false
set_option linter.unusedVariables false
namespace Ev

/-- a tree of numbered things: number 0 at the root, odd ones to the left, even ones to the right -/
inductive Tree (α : Type) where
  | leaf
  | node (v : Option α) (l r : Tree α)
namespace Tree
variable {α : Type}
def get : Tree α → Nat → Option α
  | leaf, _ => none
  | node v l r, n => match n with
    | 0 => v
    | m + 1 => if m % 2 = 0 then l.get (m / 2) else r.get (m / 2)
def setF : Nat → Tree α → Nat → Option α → Tree α
  | 0, t, _, _ => t
  | f + 1, leaf, n, x => match n with
    | 0 => node x leaf leaf
    | m + 1 => if m % 2 = 0 then node none (setF f leaf (m / 2) x) leaf else node none leaf (setF f leaf (m / 2) x)
  | f + 1, node v l r, n, x => match n with
    | 0 => node x l r
    | m + 1 => if m % 2 = 0 then node v (setF f l (m / 2) x) r else node v l (setF f r (m / 2) x)
def set (t : Tree α) (n : Nat) (x : Option α) : Tree α := setF (n + 1) t n x
theorem get_setF (x : Option α) : ∀ (f : Nat) (t : Tree α) (n k : Nat), n < f → (setF f t n x).get k = if k = n then x else t.get k
  | 0, _, _, _, h => absurd h (Nat.not_lt_zero _)
  | f + 1, leaf, 0, k, _ => by
    cases k <;> simp [setF, get]
  | f + 1, leaf, m + 1, k, h => by
    have ih := fun j => get_setF x f leaf (m / 2) j (by omega)
    cases k with
    | zero => unfold setF; dsimp only; split <;> simp [get]
    | succ k =>
      unfold setF
      dsimp only
      split
      · rename_i hm
        simp only [get]
        split
        · rename_i hk
          rw [ih]
          by_cases e : k / 2 = m / 2
          · rw [if_pos e, if_pos (by omega)]
          · rw [if_neg e, if_neg (by omega)]; simp [get]
        · rename_i hk
          rw [if_neg (by omega)]; try simp [get]
      · rename_i hm
        simp only [get]
        split
        · rename_i hk
          rw [if_neg (by omega)]; try simp [get]
        · rename_i hk
          rw [ih]
          by_cases e : k / 2 = m / 2
          · rw [if_pos e, if_pos (by omega)]
          · rw [if_neg e, if_neg (by omega)]; simp [get]
  | f + 1, node v l r, 0, k, _ => by
    cases k <;> simp [setF, get]
  | f + 1, node v l r, m + 1, k, h => by
    have ih := fun t j => get_setF x f t (m / 2) j (by omega)
    cases k with
    | zero => unfold setF; dsimp only; split <;> simp [get]
    | succ k =>
      unfold setF
      dsimp only
      split
      · rename_i hm
        simp only [get]
        split
        · rename_i hk
          rw [ih]
          by_cases e : k / 2 = m / 2
          · rw [if_pos e, if_pos (by omega)]
          · rw [if_neg e, if_neg (by omega)]
        · rename_i hk
          rw [if_neg (by omega)]
      · rename_i hm
        simp only [get]
        split
        · rename_i hk
          rw [if_neg (by omega)]
        · rename_i hk
          rw [ih]
          by_cases e : k / 2 = m / 2
          · rw [if_pos e, if_pos (by omega)]
          · rw [if_neg e, if_neg (by omega)]
theorem get_set (t : Tree α) (n k : Nat) (x : Option α) : (t.set n x).get k = if k = n then x else t.get k := get_setF x (n + 1) t n k (by omega)
end Tree

/-- what was touched: read (or written), written; as bits -/
structure Log where
  t : Nat
  w : Nat
def Log.no : Log := ⟨0, 0⟩
def Log.and (a b : Log) : Log := ⟨a.t ||| b.t, a.w ||| b.w⟩
/-- programs over a heap: the heap and the next number in; a result, the heap, the next number and what was touched out -/
abbrev M (α β : Type) := Tree α → Nat → Option (β × Tree α × Nat × Log)
namespace M
variable {α β γ : Type}
def pure (x : β) : M α β := fun h c => some (x, h, c, .no)
def bind (m : M α β) (f : β → M α γ) : M α γ := fun h c => match m h c with
  | none => none
  | some (x, h', c', l) => match f x h' c' with
    | none => none
    | some (y, h'', c'', l') => some (y, h'', c'', l.and l')
def fail : M α β := fun _ _ => none
def read (b : Nat) : M α α := fun h c => match h.get b with
  | none => none
  | some x => some (x, h, c, ⟨2 ^ b, 0⟩)
def write (b : Nat) (x : Option α) : M α Unit := fun h c => match h.get b with
  | none => none
  | some _ => some ((), h.set b x, c, ⟨2 ^ b, 2 ^ b⟩)
def new (x : α) : M α Nat := fun h c => some (c, h.set c (some x), c + 1, ⟨2 ^ c, 2 ^ c⟩)
/-- these numbers are not in use -/
def Rng (h : Tree α) (c c' : Nat) : Prop := ∀ b, c ≤ b → b < c' → h.get b = none
/-- what a run has shown of itself: nothing beside what it touched matters to it; its own new numbers are from c to c' -/
structure Shown (m : M α β) (h : Tree α) (c : Nat) (x : β) (h' : Tree α) (c' : Nat) (l : Log) : Prop where
  sub : ∀ b, l.w.testBit b = true → l.t.testBit b = true
  out : ∀ b, l.w.testBit b = false → h'.get b = h.get b
  fresh : ∀ b, c ≤ b → b < c' → l.w.testBit b = true
  free : ∀ b, (b < c ∨ c' ≤ b) → h.get b = none → h'.get b = none
  old : ∀ b, (b < c ∨ c' ≤ b) → l.t.testBit b = true → h.get b ≠ none
  move : ∀ g, Rng g c c' → (∀ b, (b < c ∨ c' ≤ b) → l.t.testBit b = true → g.get b = h.get b) → ∃ g', m g c = some (x, g', c', l) ∧ (∀ b, l.w.testBit b = true → g'.get b = h'.get b) ∧ (∀ b, l.w.testBit b = false → g'.get b = g.get b)
def Local (m : M α β) : Prop := ∀ h c x h' c' l, m h c = some (x, h', c', l) → c ≤ c' ∧ (Rng h c c' → Shown m h c x h' c' l)
theorem and_t (a b : Log) (i : Nat) : (a.and b).t.testBit i = (a.t.testBit i || b.t.testBit i) := Nat.testBit_or _ _ _
theorem and_w (a b : Log) (i : Nat) : (a.and b).w.testBit i = (a.w.testBit i || b.w.testBit i) := Nat.testBit_or _ _ _
theorem bit_self (b : Nat) : (2 ^ b).testBit b = true := Nat.testBit_two_pow_self
theorem bit_eq {b i : Nat} (h : (2 ^ b).testBit i = true) : b = i := by
  rw [Nat.testBit_two_pow] at h
  simpa using h
theorem bit_ne {b i : Nat} (h : (2 ^ b).testBit i = false) : i ≠ b := by
  rintro rfl
  rw [bit_self] at h; cases h
theorem local_pure (x : β) : Local (M.pure x : M α β) := by
  intro h c y h' c' l e
  cases e
  exact ⟨Nat.le_refl _, fun _ => ⟨by simp [Log.no], fun _ _ => rfl, fun b h1 h2 => by omega, fun _ _ h => h, by simp [Log.no], fun g _ _ => ⟨g, rfl, by simp [Log.no], fun _ _ => rfl⟩⟩⟩
theorem local_fail : Local (M.fail : M α β) := fun _ _ _ _ _ _ e => by cases e
theorem local_read (b : Nat) : Local (M.read b : M α α) := by
  intro h c y h' c' l e
  unfold M.read at e
  split at e
  · cases e
  · rename_i x hx
    cases e
    refine ⟨Nat.le_refl _, fun _ => ⟨by simp, fun _ _ => rfl, fun b h1 h2 => by omega, fun _ _ h => h, fun i _ hi => ?_, fun g _ hg => ⟨g, ?_, by simp, fun _ _ => rfl⟩⟩⟩
    · rw [← bit_eq hi, hx]; simp
    · unfold M.read
      rw [hg b (by omega) (bit_self b), hx]
theorem local_write (b : Nat) (x : Option α) : Local (M.write b x : M α Unit) := by
  intro h c y h' c' l e
  unfold M.write at e
  split at e
  · cases e
  · rename_i z hz
    cases e
    refine ⟨Nat.le_refl _, fun _ => ⟨fun i hi => hi, fun i hi => ?_, fun b h1 h2 => by omega, fun i _ hi => ?_, fun i _ hi => ?_, fun g _ hg => ⟨g.set b x, ?_, fun i hi => ?_, fun i hi => ?_⟩⟩⟩
    · rw [Tree.get_set, if_neg (bit_ne hi)]
    · rw [Tree.get_set]
      split
      · rename_i e; rw [e, hz] at hi; cases hi
      · exact hi
    · rw [← bit_eq hi, hz]; simp
    · unfold M.write
      rw [hg b (by omega) (bit_self b), hz]
    · rw [Tree.get_set, Tree.get_set, ← bit_eq hi, if_pos rfl, if_pos rfl]
    · rw [Tree.get_set, if_neg (bit_ne hi)]
theorem local_new (x : α) : Local (M.new x : M α Nat) := by
  intro h c y h' c' l e
  unfold M.new at e
  cases e
  refine ⟨by omega, fun _ => ⟨fun i hi => hi, fun i hi => ?_, fun b h1 h2 => ?_, fun i h1 h2 => ?_, fun i h1 h2 => ?_, fun g _ hg => ⟨g.set c (some x), rfl, fun i hi => ?_, fun i hi => ?_⟩⟩⟩
  · rw [Tree.get_set, if_neg (bit_ne hi)]
  · obtain rfl : b = c := by omega
    exact bit_self b
  · rw [Tree.get_set, if_neg (by omega)]; exact h2
  · have := bit_eq h2
    omega
  · rw [Tree.get_set, Tree.get_set, ← bit_eq hi, if_pos rfl, if_pos rfl]
  · rw [Tree.get_set, if_neg (bit_ne hi)]
theorem Rng.first {h : Tree α} {c c1 c2 : Nat} (hr : Rng h c c2) (h12 : c1 ≤ c2) : Rng h c c1 := fun b h1 h2 => hr b h1 (by omega)
theorem Shown.rest {m : M α β} {h h' : Tree α} {c c1 c2 : Nat} {x : β} {l : Log} (A : Shown m h c x h' c1 l) (hc : c ≤ c1) (hr : Rng h c c2) : Rng h' c1 c2 := fun b h1 h2 => A.free b (.inr h1) (hr b (by omega) h2)
theorem local_bind {m : M α β} {f : β → M α γ} (hm : Local m) (hf : ∀ x, Local (f x)) : Local (m.bind f) := by
  intro h c y h2 c2 l e
  unfold M.bind at e
  split at e
  · cases e
  · rename_i x h1 c1 l1 e1
    split at e
    · cases e
    · rename_i y' h2' c2' l2 e2
      cases e
      obtain ⟨hc1, A'⟩ := hm _ _ _ _ _ _ e1
      obtain ⟨hc2, B'⟩ := hf x _ _ _ _ _ _ e2
      refine ⟨by omega, fun hr => ?_⟩
      have A := A' (hr.first hc2)
      have hr1 := A.rest hc1 hr
      have B := B' hr1
      refine ⟨fun i hi => ?_, fun i hi => ?_, fun i h1' h2' => ?_, fun i hi hn => ?_, fun i hi ht hn => ?_, fun g hrg hg => ?_⟩
      · rw [and_w, Bool.or_eq_true] at hi
        rw [and_t, Bool.or_eq_true]
        exact hi.imp (A.sub i) (B.sub i)
      · rw [and_w, Bool.or_eq_false_iff] at hi
        rw [B.out i hi.2, A.out i hi.1]
      · rw [and_w, Bool.or_eq_true]
        by_cases hc : i < c1
        · exact .inl (A.fresh i h1' hc)
        · exact .inr (B.fresh i (by omega) h2')
      · exact B.free i (by omega) (A.free i (by omega) hn)
      · rw [and_t, Bool.or_eq_true] at ht
        rcases ht with ht | ht
        · exact A.old i (by omega) ht hn
        · exact B.old i (by omega) ht (A.free i (by omega) hn)
      · obtain ⟨g1, e3, k1, k2⟩ := A.move g (hrg.first hc2) (fun i hi ht => by
          by_cases hin : c1 ≤ i ∧ i < c2
          · rw [hrg i (by omega) hin.2, hr i (by omega) hin.2]
          · exact hg i (by omega) (by rw [and_t, ht]; rfl))
        have hrg1 : Rng g1 c1 c2 := fun i h1' h2' => by
          cases hw : l1.w.testBit i with
          | true => rw [k1 i hw]; exact hr1 i h1' h2'
          | false => rw [k2 i hw]; exact hrg i (by omega) h2'
        obtain ⟨g2, e4, k3, k4⟩ := B.move g1 hrg1 (fun i hc hi => by
          cases hw : l1.w.testBit i with
          | true => exact k1 i hw
          | false =>
            have hlt : i < c ∨ c2 ≤ i := by
              by_cases hin : c ≤ i ∧ i < c1
              · rw [A.fresh i hin.1 hin.2] at hw; cases hw
              · omega
            rw [k2 i hw, A.out i hw]
            exact hg i hlt (by rw [and_t, hi, Bool.or_true]))
        refine ⟨g2, ?_, fun i hi => ?_, fun i hi => ?_⟩
        · unfold M.bind
          rw [e3]
          dsimp only
          rw [e4]
        · cases hw : l2.w.testBit i with
          | true => exact k3 i hw
          | false =>
            rw [and_w, hw, Bool.or_false] at hi
            rw [k4 i hw, k1 i hi, B.out i hw]
        · rw [and_w, Bool.or_eq_false_iff] at hi
          rw [k4 i hi.2, k2 i hi.1]
end M
end Ev
end Go.Proofs.YtlapjkgfjfajdaaGreatDoor
