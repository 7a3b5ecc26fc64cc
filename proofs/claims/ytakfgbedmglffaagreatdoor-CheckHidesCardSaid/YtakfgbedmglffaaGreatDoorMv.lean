/- The evaluator's regions that draw their order, held against the model's: whatever the order, it comes to what the text's order comes to. No program in sight. -/
import Derived.Test.YtakfgbedmglffaaGreatDoorMr
import Derived.Orders
namespace Go.Proofs.YtakfgbedmglffaaGreatDoor
set_option linter.unusedSimpArgs false
set_option linter.unusedVariables false
namespace Ev
open Go.RowKit

/-! ### what stands in a place behind those operations that have been done -/
def lastW {β : Type} (W : Nat → Option β) (D : Nat → Bool) (x : β) : Nat → β
  | 0 => x
  | n + 1 => if D n then (W n).getD (lastW W D x n) else lastW W D x n
theorem last_congr {β : Type} {W : Nat → Option β} {D : Nat → Bool} {x : β} : ∀ m : Nat, (∀ i, i < m → W i ≠ none → D i = true) → lastW W D x m = lastW W (fun _ => true) x m
  | 0, _ => rfl
  | m + 1, h => by
    have ih := last_congr (x := x) m fun i hi => h i (by omega)
    unfold lastW
    rw [ih, if_pos rfl]
    split
    · rfl
    · rename_i hd
      cases hw : W m with
      | none => rfl
      | some y => exact absurd (h m (by omega) (by rw [hw]; simp)) hd
theorem last_agree {β : Type} {W : Nat → Option β} {D : Nat → Bool} {x : β} {j : Nat} : ∀ n : Nat, j ≤ n → (∀ i, i < n → W i ≠ none → (D i = true ↔ i < j)) → lastW W D x n = lastW W (fun _ => true) x j
  | n, hj, h => by
    by_cases e : j = n
    · subst e
      exact last_congr j fun i hi hw => (h i hi hw).2 hi
    · cases n with
      | zero => omega
      | succ n =>
        have ih := last_agree (x := x) n (by omega : j ≤ n) fun i hi => h i (by omega)
        rw [← ih]
        conv => lhs; unfold lastW
        split
        · rename_i hd
          cases hw : W n with
          | none => rfl
          | some y =>
            have := (h n (by omega) (by rw [hw]; simp)).1 hd
            omega
        · rfl
theorem last_same {β : Type} {W : Nat → Option β} {D D' : Nat → Bool} {x : β} : ∀ n : Nat, (∀ i, i < n → D' i = D i) → lastW W D' x n = lastW W D x n
  | 0, _ => rfl
  | n + 1, h => by
    unfold lastW
    rw [last_same n fun i hi => h i (by omega), h n (by omega)]
theorem last_step {β : Type} {W : Nat → Option β} {D D' : Nat → Bool} {x : β} {j : Nat} (hD : ∀ i, i ≠ j → D' i = D i) (hj' : D' j = true) (hj : D j = false) : ∀ n : Nat, j < n → (∀ i, i < n → D i = true → W i ≠ none → W j ≠ none → i < j) →
    lastW W D' x n = (W j).getD (lastW W D x n)
  | 0, h, _ => by omega
  | n + 1, h, hi => by
    by_cases e : j = n
    · subst e
      unfold lastW
      rw [hj', hj, if_pos rfl, last_same j fun i hi => hD i (by omega)]
      rfl
    · have ih := last_step (x := x) hD hj' hj n (by omega) fun i h1 => hi i (by omega)
      unfold lastW
      rw [ih, hD n (by omega)]
      split
      · rename_i hd
        cases hw : W n with
        | none => rfl
        | some y =>
          cases hv : W j with
          | none => rfl
          | some z =>
            have := hi n (by omega) hd (by rw [hw]; simp) (by rw [hv]; simp)
            omega
      · rfl
/-! ### the static checks -/
theorem mask1_bit {T : Tree Nat} {i : Nat} : ∀ (es : List Edge) (m : Nat), (mask1 T es m).testBit i = true → m.testBit i = true ∨ ∃ e ∈ es, Region.binds .any e = true ∧ (e.on = i ∨ ∃ m', T.get e.on = some m' ∧ m'.testBit i = true)
  | [], m, h => .inl h
  | e :: es, m, h => by
    unfold mask1 at h
    split at h
    · rename_i hb
      rcases mask1_bit es _ h with h | ⟨e', h1, h2, h3⟩
      · rw [Nat.testBit_or, Nat.testBit_or, Bool.or_eq_true, Bool.or_eq_true] at h
        rcases h with (h | h) | h
        · exact .inl h
        · exact .inr ⟨e, by simp, hb, .inl (M.bit_eq h)⟩
        · cases hT : T.get e.on with
          | none => rw [hT] at h; simp at h
          | some m' => rw [hT] at h; exact .inr ⟨e, by simp, hb, .inr ⟨m', hT, h⟩⟩
      · exact .inr ⟨e', by simp [h1], h2, h3⟩
    · rcases mask1_bit es _ h with h | ⟨e', h1, h2, h3⟩
      · exact .inl h
      · exact .inr ⟨e', by simp [h1], h2, h3⟩
theorem masks_bit : ∀ (os : List Oper) (j : Nat) (T : Tree Nat) (pre : List Nat), pre.length = j → (∀ i, T.get i = if i < j then pre[i]? else none) →
    ∀ (k : Nat) (o : Oper) (m : Nat), os[k]? = some o → (masks os j T)[k]? = some m → ∀ i, m.testBit i = true → ∃ e ∈ o.after.toList, Region.binds .any e = true ∧ (e.on = i ∨ ∃ m', (pre ++ masks os j T)[e.on]? = some m' ∧ m'.testBit i = true)
  | [], _, _, _, _, _, k, o, m, h, _, _, _ => by simp at h
  | o0 :: os, j, T, pre, hl, hT, 0, o, m, h, hm, i, hi => by
    simp at h; subst h
    rw [masks, force_eq] at hm
    simp at hm; subst hm
    rcases mask1_bit _ _ hi with h | ⟨e, h1, h2, h3⟩
    · simp at h
    · refine ⟨e, h1, h2, h3.imp id ?_⟩
      rintro ⟨m', h4, h5⟩
      refine ⟨m', ?_, h5⟩
      rw [hT] at h4
      split at h4
      · rw [List.getElem?_append_left (by omega)]; exact h4
      · cases h4
  | o0 :: os, j, T, pre, hl, hT, k + 1, o, m, h, hm, i, hi => by
    simp only [List.getElem?_cons_succ] at h
    have e0 : masks (o0 :: os) j T = mask1 T o0.after.toList 0 :: masks os (j + 1) (T.set j (some (mask1 T o0.after.toList 0))) := by rw [masks, force_eq]
    rw [e0] at hm
    simp only [List.getElem?_cons_succ] at hm
    obtain ⟨e, h1, h2, h3⟩ := masks_bit os (j + 1) _ (pre ++ [mask1 T o0.after.toList 0]) (by simp [hl]) (fun x => by
      rw [Tree.get_set]
      by_cases hx : x = j
      · subst hx
        rw [if_pos rfl, if_pos (by omega), List.getElem?_append_right (by omega), hl]
        simp
      · rw [if_neg hx, hT]
        by_cases hx2 : x < j
        · rw [if_pos hx2, if_pos (by omega), List.getElem?_append_left (by omega)]
        · rw [if_neg hx2, if_neg (by omega)]) k o m h hm i hi
    refine ⟨e, h1, h2, h3.imp id ?_⟩
    rw [e0]
    simp [List.append_assoc]
theorem meets_false {ts us : List Nat} (h : meets ts us = false) : ∀ t, t ∈ ts → t ∉ us := by
  induction ts with
  | nil => intro t ht; simp at ht
  | cons a ts ih =>
    unfold meets at h
    rw [Bool.or_eq_false_iff] at h
    intro t ht hu
    rcases List.mem_cons.1 ht with rfl | ht
    · have := h.1
      rw [List.any_eq_false] at this
      exact this t hu (by simp)
    · exact ih h.2 t ht hu
def Apart0 (ops : Array Oper) (oi oj : Oper) : Prop := (∀ t, oi.dst = some t → t ∉ slotsOf ops oj) ∧ ∀ t, oj.dst = some t → t ∉ slotsOf ops oi
theorem apartAll_ok {ops : Array Oper} {j : Oper} {m : Nat} : ∀ (l : List Oper) (i : Nat), apartAll ops j m l i = true → ∀ (k : Nat) (o : Oper), l[k]? = some o → m.testBit (i + k) = true ∨ Apart0 ops o j
  | [], _, _, k, o, h => by simp at h
  | o0 :: os, i, h, k, o, hk => by
    unfold apartAll at h
    rw [Bool.and_eq_true] at h
    cases k with
    | zero =>
      simp at hk; subst hk
      have h1 := h.1
      simp only [Bool.or_eq_true, Bool.and_eq_true, Bool.not_eq_true'] at h1
      rcases h1 with h1 | ⟨h1, h2⟩
      · exact .inl h1
      · exact .inr ⟨fun t ht => meets_false h1 t (by simp [ht]), fun t ht => meets_false h2 t (by simp [ht])⟩
    | succ k =>
      rw [show i + (k + 1) = i + 1 + k by omega]
      exact apartAll_ok os (i + 1) h.2 k o (by simpa using hk)
theorem drawOKL_ok {ops : Array Oper} : ∀ (os : List Oper) (ms : List Nat) (j : Nat), drawOKL ops os ms j = true → ∀ (k : Nat) (o : Oper), os[k]? = some o →
    (∀ e ∈ o.after.toList, Region.binds .any e = true → e.on < j + k) ∧ ∃ m, ms[k]? = some m ∧ ∀ (i : Nat) (oi : Oper), i < j + k → ops[i]? = some oi → m.testBit i = true ∨ Apart0 ops oi o
  | [], _, _, _, k, o, h => by simp at h
  | _ :: _, [], _, h, _, _, _ => by unfold drawOKL at h; cases h
  | o0 :: os, m :: ms, j, h, k, o, hk => by
    unfold drawOKL at h
    simp only [Bool.and_eq_true] at h
    obtain ⟨h1, h2, h3⟩ := h
    cases k with
    | zero =>
      simp at hk; subst hk
      refine ⟨fun e he hb => ?_, m, by simp, fun i oi hi ho => ?_⟩
      · unfold edgesOK at h1
        have := List.all_eq_true.1 h1 e he
        simp only [hb, Bool.not_true, Bool.false_or] at this
        have h5 : e.on + 1 ≤ j := by simpa [Nat.blt] using this
        show e.on < j
        omega
      · have := apartAll_ok _ 0 h2 i oi (by rw [List.getElem?_take, if_pos (by omega)]; simpa using ho)
        simpa using this
    | succ k =>
      obtain ⟨g1, m', g2, g3⟩ := drawOKL_ok os ms (j + 1) h3 k o (by simpa using hk)
      refine ⟨fun e he hb => ?_, m', by simpa using g2, fun i oi hi ho => g3 i oi (by omega) ho⟩
      have := g1 e he hb
      omega
noncomputable def msOf (ops : Array Oper) : List Nat := masks ops.toList 0 .leaf
noncomputable def mk (ops : Array Oper) (k : Nat) : Nat := (msOf ops).getD k 0
theorem leaf_get {α : Type} (i : Nat) : (Tree.leaf : Tree α).get i = none := rfl
theorem mk_bit {ops : Array Oper} {k i : Nat} {o : Oper} (ho : ops[k]? = some o) (h : (mk ops k).testBit i = true) : ∃ e ∈ o.after.toList, Region.binds .any e = true ∧ (e.on = i ∨ (mk ops e.on).testBit i = true) := by
  unfold mk at h
  rw [List.getD_eq_getElem?_getD] at h
  cases hm : (msOf ops)[k]? with
  | none => rw [hm] at h; simp at h
  | some m =>
    rw [hm] at h
    obtain ⟨e, h1, h2, h3⟩ := masks_bit ops.toList 0 .leaf [] rfl (fun i => by rw [leaf_get]; simp) k o m (by simpa using ho) hm i h
    refine ⟨e, h1, h2, h3.imp id ?_⟩
    rintro ⟨m', h4, h5⟩
    unfold mk
    rw [List.getD_eq_getElem?_getD]
    have : (msOf ops)[e.on]? = some m' := by simpa [msOf] using h4
    rw [this]
    exact h5
theorem drawOK_ok {ops : Array Oper} (h : drawOK ops = true) {k : Nat} {o : Oper} (ho : ops[k]? = some o) :
    (∀ e ∈ o.after.toList, Region.binds .any e = true → e.on < k) ∧ (msOf ops)[k]? = some (mk ops k) ∧ ∀ (i : Nat) (oi : Oper), i < k → ops[i]? = some oi → (mk ops k).testBit i = true ∨ Apart0 ops oi o := by
  obtain ⟨h1, m, h2, h3⟩ := drawOKL_ok _ _ 0 h k o (by simpa using ho)
  have e : mk ops k = m := by
    unfold mk
    rw [List.getD_eq_getElem?_getD]
    show ((masks ops.toList 0 .leaf)[k]?).getD 0 = m
    rw [h2]; rfl
  refine ⟨fun e he hb => by have := h1 e he hb; omega, ?_, fun i oi hi hoi => ?_⟩
  · rw [e]; exact h2
  · rw [e]; exact h3 i oi (by omega) hoi
def NoClash (a b : Log) : Prop := (∀ i, a.w.testBit i = true → b.t.testBit i = true → False) ∧ ∀ i, a.t.testBit i = true → b.w.testBit i = true → False
theorem land_zero {a b : Nat} (h : Nat.beq (Nat.land a b) 0 = true) : ∀ i, a.testBit i = true → b.testBit i = true → False := fun i h1 h2 => by
  have h0 : a &&& b = 0 := Nat.eq_of_beq_eq_true h
  have : (a &&& b).testBit i = true := by rw [Nat.testBit_and, h1, h2]; rfl
  rw [h0] at this
  simp at this
theorem clash_false {m : Nat} {l : Log} : ∀ {d : List (Nat × Log)}, clash m l d = false → ∀ x ∈ d, m.testBit x.1 = false → NoClash x.2 l
  | [], _, x, hx, _ => by simp at hx
  | (i, k) :: d, h, x, hx, hm => by
    unfold clash at h
    rw [Bool.or_eq_false_iff] at h
    rcases List.mem_cons.1 hx with rfl | hx
    · have h1 := h.1
      rw [hm] at h1
      simp only [Bool.false_eq_true, if_false, Bool.not_eq_false', Bool.and_eq_true] at h1
      exact ⟨land_zero h1.1, land_zero h1.2⟩
    · exact clash_false h.2 x hx hm
theorem noClash_no (a : Log) : NoClash a .no ∧ NoClash .no a := by
  refine ⟨⟨fun i _ h => ?_, fun i _ h => ?_⟩, ⟨fun i h _ => ?_, fun i h _ => ?_⟩⟩ <;> simp [Log.no] at h
end Ev
end Go.Proofs.YtakfgbedmglffaaGreatDoor
