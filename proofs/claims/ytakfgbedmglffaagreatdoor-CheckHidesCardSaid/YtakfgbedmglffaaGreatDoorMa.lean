/- Heaps of an evaluator of closed calls: a tree of numbered blocks; programs over them, what they read and write, and that nothing else matters to them. No program in sight. -/
import Derived.Calls
namespace Go.Proofs.YtakfgbedmglffaaGreatDoor
set_option linter.unusedSimpArgs false
set_option linter.unusedVariables false
namespace Ev

/-- a tree of numbered things: number 0 at the root, odd ones to the left, even ones to the right -/
inductive Tree (α : Type) where
  | leaf
  | node (v : Option α) (l r : Tree α)
namespace Tree
variable {α : Type}
/-- by the recursors themselves: the kernel steps through them fastest -/
noncomputable def get (t : Tree α) : Nat → Option α :=
  Tree.rec (motive := fun _ => Nat → Option α) (fun _ => none)
    (fun v _ _ gl gr n => Bool.rec (Bool.rec (gr (Nat.div (Nat.sub n 1) 2)) (gl (Nat.div n 2)) (Nat.beq (Nat.land n 1) 1)) v (Nat.beq n 0)) t
noncomputable def setF (x : Option α) (f : Nat) : Tree α → Nat → Tree α :=
  Nat.rec (motive := fun _ => Tree α → Nat → Tree α) (fun t _ => t)
    (fun _ ih t n => Tree.rec (motive := fun _ => Tree α)
      (Bool.rec (Bool.rec (node none leaf (ih leaf (Nat.div (Nat.sub n 1) 2))) (node none (ih leaf (Nat.div n 2)) leaf) (Nat.beq (Nat.land n 1) 1)) (node x leaf leaf) (Nat.beq n 0))
      (fun v l r _ _ => Bool.rec (Bool.rec (node v l (ih r (Nat.div (Nat.sub n 1) 2))) (node v (ih l (Nat.div n 2)) r) (Nat.beq (Nat.land n 1) 1)) (node x l r) (Nat.beq n 0)) t) f
noncomputable def set (t : Tree α) (n : Nat) (x : Option α) : Tree α := setF x (Nat.succ n) t n
theorem sel_eq {β : Type} (n : Nat) (x y z : β) : (Bool.rec (Bool.rec z y (Nat.beq (Nat.land n 1) 1)) x (Nat.beq n 0) : β) = if n = 0 then x else if n % 2 = 1 then y else z := by
  have h1 : Nat.land n 1 = n % 2 := Nat.and_one_is_mod n
  rw [h1]
  cases hb : Nat.beq n 0 with
  | true => rw [if_pos (Nat.eq_of_beq_eq_true hb)]
  | false =>
    rw [if_neg (Nat.ne_of_beq_eq_false hb)]
    cases hc : Nat.beq (n % 2) 1 with
    | true => rw [if_pos (Nat.eq_of_beq_eq_true hc)]
    | false => rw [if_neg (Nat.ne_of_beq_eq_false hc)]
theorem get_leaf (n : Nat) : (leaf : Tree α).get n = none := rfl
theorem get_node (v : Option α) (l r : Tree α) (n : Nat) : (node v l r).get n = if n = 0 then v else if n % 2 = 1 then l.get (n / 2) else r.get ((n - 1) / 2) := by
  show (Bool.rec (Bool.rec (r.get (Nat.div (Nat.sub n 1) 2)) (l.get (Nat.div n 2)) (Nat.beq (Nat.land n 1) 1)) v (Nat.beq n 0) : Option α) = _
  rw [sel_eq]
  rfl
theorem setF_zero (x : Option α) (t : Tree α) (n : Nat) : setF x 0 t n = t := rfl
theorem setF_leaf (x : Option α) (f n : Nat) : setF x (f + 1) leaf n = if n = 0 then node x leaf leaf else if n % 2 = 1 then node none (setF x f leaf (n / 2)) leaf else node none leaf (setF x f leaf ((n - 1) / 2)) := by
  show (Bool.rec (Bool.rec (node none leaf (setF x f leaf (Nat.div (Nat.sub n 1) 2))) (node none (setF x f leaf (Nat.div n 2)) leaf) (Nat.beq (Nat.land n 1) 1)) (node x leaf leaf) (Nat.beq n 0) : Tree α) = _
  rw [sel_eq]
  rfl
theorem setF_node (x : Option α) (f : Nat) (v : Option α) (l r : Tree α) (n : Nat) : setF x (f + 1) (node v l r) n = if n = 0 then node x l r else if n % 2 = 1 then node v (setF x f l (n / 2)) r else node v l (setF x f r ((n - 1) / 2)) := by
  show (Bool.rec (Bool.rec (node v l (setF x f r (Nat.div (Nat.sub n 1) 2))) (node v (setF x f l (Nat.div n 2)) r) (Nat.beq (Nat.land n 1) 1)) (node x l r) (Nat.beq n 0) : Tree α) = _
  rw [sel_eq]
  rfl
theorem get_setF (x : Option α) : ∀ (f : Nat) (t : Tree α) (n k : Nat), n < f → (setF x f t n).get k = if k = n then x else t.get k
  | 0, _, _, _, h => absurd h (Nat.not_lt_zero _)
  | f + 1, leaf, n, k, h => by
    have ih := fun n k h => get_setF x f leaf n k h
    rw [setF_leaf]
    by_cases h0 : n = 0
    · rw [if_pos h0, get_node, h0]
      by_cases k0 : k = 0
      · rw [if_pos k0, if_pos k0]
      · rw [if_neg k0, if_neg k0]; split <;> rfl
    · rw [if_neg h0]
      by_cases hn : n % 2 = 1
      · rw [if_pos hn, get_node]
        by_cases k0 : k = 0
        · rw [if_pos k0, if_neg (by omega)]; rfl
        · rw [if_neg k0]
          by_cases hk : k % 2 = 1
          · rw [if_pos hk, ih _ _ (by omega)]
            by_cases e : k / 2 = n / 2
            · rw [if_pos e, if_pos (by omega)]
            · rw [if_neg e, if_neg (by rintro rfl; exact e rfl)]; rfl
          · rw [if_neg hk, if_neg (by rintro rfl; exact hk hn)]; rfl
      · rw [if_neg hn, get_node]
        by_cases k0 : k = 0
        · rw [if_pos k0, if_neg (by omega)]; rfl
        · rw [if_neg k0]
          by_cases hk : k % 2 = 1
          · rw [if_pos hk, if_neg (by rintro rfl; exact hn hk)]; rfl
          · rw [if_neg hk, ih _ _ (by omega)]
            by_cases e : (k - 1) / 2 = (n - 1) / 2
            · rw [if_pos e, if_pos (by omega)]
            · rw [if_neg e, if_neg (by rintro rfl; exact e rfl)]; rfl
  | f + 1, node v l r, n, k, h => by
    have ih := fun t n k h => get_setF x f t n k h
    rw [setF_node]
    by_cases h0 : n = 0
    · rw [if_pos h0, get_node, get_node, h0]
      by_cases k0 : k = 0
      · rw [if_pos k0, if_pos k0]
      · rw [if_neg k0, if_neg k0, if_neg k0]
    · rw [if_neg h0]
      by_cases hn : n % 2 = 1
      · rw [if_pos hn, get_node, get_node]
        by_cases k0 : k = 0
        · rw [if_pos k0, if_pos k0, if_neg (by omega)]
        · rw [if_neg k0, if_neg k0]
          by_cases hk : k % 2 = 1
          · rw [if_pos hk, if_pos hk, ih _ _ _ (by omega)]
            by_cases e : k / 2 = n / 2
            · rw [if_pos e, if_pos (by omega)]
            · rw [if_neg e, if_neg (by rintro rfl; exact e rfl)]
          · rw [if_neg hk, if_neg hk, if_neg (by rintro rfl; exact hk hn)]
      · rw [if_neg hn, get_node, get_node]
        by_cases k0 : k = 0
        · rw [if_pos k0, if_pos k0, if_neg (by omega)]
        · rw [if_neg k0, if_neg k0]
          by_cases hk : k % 2 = 1
          · rw [if_pos hk, if_pos hk, if_neg (by rintro rfl; exact hn hk)]
          · rw [if_neg hk, if_neg hk, ih _ _ _ (by omega)]
            by_cases e : (k - 1) / 2 = (n - 1) / 2
            · rw [if_pos e, if_pos (by omega)]
            · rw [if_neg e, if_neg (by rintro rfl; exact e rfl)]
theorem get_set (t : Tree α) (n k : Nat) (x : Option α) : (t.set n x).get k = if k = n then x else t.get k := get_setF x (n + 1) t n k (by omega)
end Tree

/-- what was touched: read (or written), written; as bits -/
structure Log where
  t : Nat
  w : Nat
def Log.no : Log := ⟨0, 0⟩
def Log.and (a b : Log) : Log := ⟨a.t ||| b.t, a.w ||| b.w⟩
/-- what a program comes to: nothing, or a result, the heap, the next number and what was touched -/
inductive Res (α β : Type) where
  | no
  | ok (x : β) (h : Tree α) (c : Nat) (l : Log)
/-- programs over a heap: the heap and the next number in -/
abbrev M (α β : Type) := Tree α → Nat → Res α β
namespace M
variable {α β γ : Type}
def pure (x : β) : M α β := fun h c => .ok x h c .no
noncomputable def bind (m : M α β) (f : β → M α γ) : M α γ := fun h c =>
  Res.rec (motive := fun _ => Res α γ) .no (fun x h' c' l => Res.rec (motive := fun _ => Res α γ) .no (fun y h'' c'' l' => .ok y h'' c'' (l.and l')) (f x h' c')) (m h c)
theorem bind_eq (m : M α β) (f : β → M α γ) (h : Tree α) (c : Nat) : M.bind m f h c = match m h c with
    | .no => .no
    | .ok x h' c' l => match f x h' c' with
      | .no => .no
      | .ok y h'' c'' l' => .ok y h'' c'' (l.and l') := by
  unfold bind
  cases m h c with
  | no => rfl
  | ok x h' c' l =>
    dsimp only
    cases f x h' c' <;> rfl
def fail : M α β := fun _ _ => .no
noncomputable def read (b : Nat) : M α α := fun h c => match h.get b with
  | none => .no
  | some x => .ok x h c ⟨2 ^ b, 0⟩
noncomputable def write (b : Nat) (x : Option α) : M α Unit := fun h c => match h.get b with
  | none => .no
  | some _ => .ok () (h.set b x) c ⟨2 ^ b, 2 ^ b⟩
noncomputable def new (x : α) : M α Nat := fun h c => .ok c (h.set c (some x)) (c + 1) ⟨2 ^ c, 2 ^ c⟩
/-- these numbers are not in use -/
def Rng (h : Tree α) (c c' : Nat) : Prop := ∀ b, c ≤ b → b < c' → h.get b = none
/-- what a run has shown of itself: nothing beside what it touched matters to it; its own new numbers are from c to c' -/
structure Shown (m : M α β) (h : Tree α) (c : Nat) (x : β) (h' : Tree α) (c' : Nat) (l : Log) : Prop where
  sub : ∀ b, l.w.testBit b = true → l.t.testBit b = true
  out : ∀ b, l.w.testBit b = false → h'.get b = h.get b
  fresh : ∀ b, c ≤ b → b < c' → l.w.testBit b = true
  free : ∀ b, (b < c ∨ c' ≤ b) → h.get b = none → h'.get b = none
  old : ∀ b, (b < c ∨ c' ≤ b) → l.t.testBit b = true → h.get b ≠ none
  move : ∀ g, Rng g c c' → (∀ b, (b < c ∨ c' ≤ b) → l.t.testBit b = true → g.get b = h.get b) → ∃ g', m g c = .ok x g' c' l ∧ (∀ b, l.w.testBit b = true → g'.get b = h'.get b) ∧ (∀ b, l.w.testBit b = false → g'.get b = g.get b)
def Local (m : M α β) : Prop := ∀ h c x h' c' l, m h c = .ok x h' c' l → c ≤ c' ∧ (Rng h c c' → Shown m h c x h' c' l)
theorem and_t (a b : Log) (i : Nat) : (a.and b).t.testBit i = (a.t.testBit i || b.t.testBit i) := Nat.testBit_or _ _ _
theorem and_w (a b : Log) (i : Nat) : (a.and b).w.testBit i = (a.w.testBit i || b.w.testBit i) := Nat.testBit_or _ _ _
theorem bit_self (b : Nat) : (2 ^ b).testBit b = true := Nat.testBit_two_pow_self
theorem bit_eq {b i : Nat} (h : (2 ^ b).testBit i = true) : b = i := by
  rw [Nat.testBit_two_pow] at h
  simpa using h
theorem bit_ne {b i : Nat} (h : (2 ^ b).testBit i = false) : i ≠ b := by
  rintro rfl
  rw [bit_self] at h; cases h
theorem local_pure (x : β) : Local (M.pure x : M α β) := by
  intro h c y h' c' l e
  cases e
  exact ⟨Nat.le_refl _, fun _ => ⟨by simp [Log.no], fun _ _ => rfl, fun b h1 h2 => by omega, fun _ _ h => h, by simp [Log.no], fun g _ _ => ⟨g, rfl, by simp [Log.no], fun _ _ => rfl⟩⟩⟩
theorem local_fail : Local (M.fail : M α β) := fun _ _ _ _ _ _ e => by cases e
theorem local_read (b : Nat) : Local (M.read b : M α α) := by
  intro h c y h' c' l e
  unfold M.read at e
  split at e
  · cases e
  · rename_i x hx
    cases e
    refine ⟨Nat.le_refl _, fun _ => ⟨by simp, fun _ _ => rfl, fun b h1 h2 => by omega, fun _ _ h => h, fun i _ hi => ?_, fun g _ hg => ⟨g, ?_, by simp, fun _ _ => rfl⟩⟩⟩
    · rw [← bit_eq hi, hx]; simp
    · unfold M.read
      rw [hg b (by omega) (bit_self b), hx]
theorem local_write (b : Nat) (x : Option α) : Local (M.write b x : M α Unit) := by
  intro h c y h' c' l e
  unfold M.write at e
  split at e
  · cases e
  · rename_i z hz
    cases e
    refine ⟨Nat.le_refl _, fun _ => ⟨fun i hi => hi, fun i hi => ?_, fun b h1 h2 => by omega, fun i _ hi => ?_, fun i _ hi => ?_, fun g _ hg => ⟨g.set b x, ?_, fun i hi => ?_, fun i hi => ?_⟩⟩⟩
    · rw [Tree.get_set, if_neg (bit_ne hi)]
    · rw [Tree.get_set]
      split
      · rename_i e; rw [e, hz] at hi; cases hi
      · exact hi
    · rw [← bit_eq hi, hz]; simp
    · unfold M.write
      rw [hg b (by omega) (bit_self b), hz]
    · rw [Tree.get_set, Tree.get_set, ← bit_eq hi, if_pos rfl, if_pos rfl]
    · rw [Tree.get_set, if_neg (bit_ne hi)]
theorem local_new (x : α) : Local (M.new x : M α Nat) := by
  intro h c y h' c' l e
  unfold M.new at e
  cases e
  refine ⟨by omega, fun _ => ⟨fun i hi => hi, fun i hi => ?_, fun b h1 h2 => ?_, fun i h1 h2 => ?_, fun i h1 h2 => ?_, fun g _ hg => ⟨g.set c (some x), rfl, fun i hi => ?_, fun i hi => ?_⟩⟩⟩
  · rw [Tree.get_set, if_neg (bit_ne hi)]
  · obtain rfl : b = c := by omega
    exact bit_self b
  · rw [Tree.get_set, if_neg (by omega)]; exact h2
  · have := bit_eq h2
    omega
  · rw [Tree.get_set, Tree.get_set, ← bit_eq hi, if_pos rfl, if_pos rfl]
  · rw [Tree.get_set, if_neg (bit_ne hi)]
theorem Rng.first {h : Tree α} {c c1 c2 : Nat} (hr : Rng h c c2) (h12 : c1 ≤ c2) : Rng h c c1 := fun b h1 h2 => hr b h1 (by omega)
theorem Shown.rest {m : M α β} {h h' : Tree α} {c c1 c2 : Nat} {x : β} {l : Log} (A : Shown m h c x h' c1 l) (hc : c ≤ c1) (hr : Rng h c c2) : Rng h' c1 c2 := fun b h1 h2 => A.free b (.inr h1) (hr b (by omega) h2)
theorem local_bind {m : M α β} {f : β → M α γ} (hm : Local m) (hf : ∀ x, Local (f x)) : Local (m.bind f) := by
  intro h c y h2 c2 l e
  rw [M.bind_eq] at e
  split at e
  · cases e
  · rename_i x h1 c1 l1 e1
    split at e
    · cases e
    · rename_i y' h2' c2' l2 e2
      cases e
      obtain ⟨hc1, A'⟩ := hm _ _ _ _ _ _ e1
      obtain ⟨hc2, B'⟩ := hf x _ _ _ _ _ _ e2
      refine ⟨by omega, fun hr => ?_⟩
      have A := A' (hr.first hc2)
      have hr1 := A.rest hc1 hr
      have B := B' hr1
      refine ⟨fun i hi => ?_, fun i hi => ?_, fun i h1' h2' => ?_, fun i hi hn => ?_, fun i hi ht hn => ?_, fun g hrg hg => ?_⟩
      · rw [and_w, Bool.or_eq_true] at hi
        rw [and_t, Bool.or_eq_true]
        exact hi.imp (A.sub i) (B.sub i)
      · rw [and_w, Bool.or_eq_false_iff] at hi
        rw [B.out i hi.2, A.out i hi.1]
      · rw [and_w, Bool.or_eq_true]
        by_cases hc : i < c1
        · exact .inl (A.fresh i h1' hc)
        · exact .inr (B.fresh i (by omega) h2')
      · exact B.free i (by omega) (A.free i (by omega) hn)
      · rw [and_t, Bool.or_eq_true] at ht
        rcases ht with ht | ht
        · exact A.old i (by omega) ht hn
        · exact B.old i (by omega) ht (A.free i (by omega) hn)
      · obtain ⟨g1, e3, k1, k2⟩ := A.move g (hrg.first hc2) (fun i hi ht => by
          by_cases hin : c1 ≤ i ∧ i < c2
          · rw [hrg i (by omega) hin.2, hr i (by omega) hin.2]
          · exact hg i (by omega) (by rw [and_t, ht]; rfl))
        have hrg1 : Rng g1 c1 c2 := fun i h1' h2' => by
          cases hw : l1.w.testBit i with
          | true => rw [k1 i hw]; exact hr1 i h1' h2'
          | false => rw [k2 i hw]; exact hrg i (by omega) h2'
        obtain ⟨g2, e4, k3, k4⟩ := B.move g1 hrg1 (fun i hc hi => by
          cases hw : l1.w.testBit i with
          | true => exact k1 i hw
          | false =>
            have hlt : i < c ∨ c2 ≤ i := by
              by_cases hin : c ≤ i ∧ i < c1
              · rw [A.fresh i hin.1 hin.2] at hw; cases hw
              · omega
            rw [k2 i hw, A.out i hw]
            exact hg i hlt (by rw [and_t, hi, Bool.or_true]))
        refine ⟨g2, ?_, fun i hi => ?_, fun i hi => ?_⟩
        · rw [M.bind_eq, e3]
          dsimp only
          rw [e4]
        · cases hw : l2.w.testBit i with
          | true => exact k3 i hw
          | false =>
            rw [and_w, hw, Bool.or_false] at hi
            rw [k4 i hw, k1 i hi, B.out i hw]
        · rw [and_w, Bool.or_eq_false_iff] at hi
          rw [k4 i hi.2, k2 i hi.1]
end M
end Ev
end Go.Proofs.YtakfgbedmglffaaGreatDoor
