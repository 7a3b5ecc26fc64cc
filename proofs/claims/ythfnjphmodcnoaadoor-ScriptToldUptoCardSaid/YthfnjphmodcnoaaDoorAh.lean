/- Contract of script.number, of script.lines. -/
import Derived.Test.YthfnjphmodcnoaaDoorAg
namespace Go.Proofs.YthfnjphmodcnoaaDoor
open Go.RowKit
set_option linter.unusedSimpArgs false
set_option linter.unusedVariables false

theorem eg_nil (n : Nat) : ∀ w, (eqGuard .eql 67 (.tmp n) (.const .nilIface) .nilIface .nilIface).run Tryd.prog w = .ok () w := fun _ => rfl
theorem eg_held (n : Nat) : ∀ t p w, (eqGuard .eql 67 (.tmp n) (.const .nilIface) (.iface t p) .nilIface).run Tryd.prog w = .ok () w := fun _ _ _ => rfl
theorem el_nil : ∀ w, (binOp .eql 67 .nilIface .nilIface).run Tryd.prog w = .ok (.bool true) w := fun w => run_eql_nil_nil w _ (by kernel_rfl)
theorem el_held : ∀ t p w, (binOp .eql 67 (.iface t p) .nilIface).run Tryd.prog w = .ok (.bool false) w := fun t p w => run_eql_held_nil w _ t p (by kernel_rfl)
theorem grow_below {w w' : World} (h : ∃ k os, w' = Go.Sort.grow (w.drewN k) os) : Below w.heap.size w w' := by
  obtain ⟨k, os, rfl⟩ := h
  exact below_gr _ _ k os (Nat.le_refl _)
theorem beq_str (l : List UInt8) (s : ByteArray) : (decide ((⟨l.toArray⟩ : ByteArray) = s)) = (l == bl s) := by
  rw [Bool.eq_iff_iff, decide_eq_true_eq, beq_iff_eq]
  constructor
  · rintro rfl; simp [bl]
  · rintro rfl; simp [bl]
set_option maxHeartbeats 2000000 in
set_option maxRecDepth 20000 in
theorem number_c (s : ByteArray) (lim : Nat) (hl : lim ≤ 2147483647) (w : World) (h : Laid w) (hs : s.size ≤ 1073741824) : Calls Tryd.prog 29 #[.string s, .int .i64 (lim : Int)] w fun e w' =>
    (∃ V : Int, e = .returned (.tuple #[.int .i64 V, .bool (numQ (bl s) lim).isSome]) ∧ ∀ v, numQ (bl s) lim = some v → V = (v : Int)) ∧ Below w.heap.size w w' := by
  have hpu := Lib.hid (puint63_c s w h hs)
  go_enter Tryd.func29, Tryd.ntmps29
  go_wp2_with (first | (go_at_call 48; refine (hpu.out).mono ?_; rintro e W1 ⟨⟨V, ev, rfl, hcase⟩, hB⟩))
  clear hpu
  rcases hcase with ⟨hp, rfl⟩ | ⟨hn, hV, t, p, rfl⟩
  · obtain ⟨-, hV, -⟩ := pb_ok _ _ _ hp
    have hQ := Lib.hid (numQ_ok (bl s) lim V hp)
    have hV2 : V < 9223372036854775808 := by omega
    have hw : wrap64 (V : Int) = (V : Int) := by unfold wrap64; omega
    have hlim : IntKind.u64.wrap (lim : Int) = (lim : Int) := by rw [IntKind.wrap_u64]; omega
    have hfu := Lib.hid (fu_any V (by omega) W1 (h.below hB).tab)
    have hB2 := Lib.hid hB
    clear hp hV hV2 h hB hs
    rw [← toList_bl] at hQ
    by_cases hq : Lib.decDigits V = s.toList
    · by_cases hle : V ≤ lim
      · have hi : (V : Int) ≤ (lim : Int) := by omega
        have hf : (numQ s.toList lim).isSome = true := by rw [hQ.out.1]; simp [hq, hle]
        go_wp2_with (first | (rw [eg_nil]; go_simp; try rw [el_nil]) | (go_at_call 49; refine (hfu.out).mono ?_; rintro e W2 ⟨rfl, hW2⟩))
        go_ret2
        exact ⟨⟨V, by rw [← toList_bl, hf]; rfl, fun v hv => by rw [hQ.out.2 v (by rw [toList_bl]; exact hv)]⟩, hB2.out.trans ((grow_below hW2).mono hB2.out.size)⟩
      · have hi : ¬ (V : Int) ≤ (lim : Int) := by omega
        have hf : (numQ s.toList lim).isSome = false := by rw [hQ.out.1]; simp [hle]
        go_wp2_with (first | (rw [eg_nil]; go_simp; try rw [el_nil]) | (go_at_call 49; refine (hfu.out).mono ?_; rintro e W2 ⟨rfl, hW2⟩))
        go_ret2
        exact ⟨⟨V, by rw [← toList_bl, hf]; rfl, fun v hv => by rw [hQ.out.2 v (by rw [toList_bl]; exact hv)]⟩, hB2.out.trans ((grow_below hW2).mono hB2.out.size)⟩
    · have hf : (numQ s.toList lim).isSome = false := by rw [hQ.out.1]; simp [hq]
      go_wp2_with (first | (rw [eg_nil]; go_simp; try rw [el_nil]) | (go_at_call 49; refine (hfu.out).mono ?_; rintro e W2 ⟨rfl, hW2⟩))
      go_ret2
      exact ⟨⟨V, by rw [← toList_bl, hf]; rfl, fun v hv => by rw [hQ.out.2 v (by rw [toList_bl]; exact hv)]⟩, hB2.out.trans ((grow_below hW2).mono hB2.out.size)⟩
  · have hQ : numQ (bl s) lim = none := numQ_bad _ _ (by omega) hn
    go_wp2_with (first | (rw [eg_held]; go_simp; try rw [el_held]))
    go_ret2
    exact ⟨⟨_, by rw [hQ]; rfl, fun v hv => by rw [hQ] at hv; cases hv⟩, hB⟩

/-! ### lines -/
def Strs (w : World) (b o : Nat) (L : List (List UInt8)) : Prop := ∀ (i : Nat) (z : List UInt8), L[i]? = some z → w.cell? ⟨b, o + i, none⟩ = some (.string ⟨z.toArray⟩)
def strCells (L : List (List UInt8)) : Array Value := (L.map fun z => Value.string ⟨z.toArray⟩).toArray
theorem strs_alloc (w : World) (L : List (List UInt8)) (t : TypeId) : Strs (w.alloc (.cells (strCells L) t)) w.heap.size 0 L := by
  intro i z hz
  obtain ⟨hi, rfl⟩ := List.getElem?_eq_some_iff.1 hz
  have e : (w.alloc (.cells (strCells L) t)).heap[w.heap.size]? = some (.cells (strCells L) t) := by
    show (w.heap.push _)[w.heap.size]? = _
    rw [Array.getElem?_push_size]
  unfold World.cell?
  rw [e]
  simp [strCells, hi]
theorem strs_sub {w : World} {b o : Nat} {L M : List (List UInt8)} (h : Strs w b o L) (hM : ∀ (i : Nat) (z : List UInt8), M[i]? = some z → L[i]? = some z) : Strs w b o M := fun i z hz => h i z (hM i z hz)
theorem strs_same {w w' : World} {b o : Nat} {L : List (List UInt8)} (h : Strs w b o L) (hM : w'.heap[b]? = w.heap[b]?) : Strs w' b o L := fun i z hz => by
  have := h i z hz
  unfold World.cell? at *
  rw [hM]; exact this
theorem linesP_sub (l : List UInt8) : ∀ (i : Nat) (z : List UInt8), (linesP l).1[i]? = some z → (splitP 10 l)[i]? = some z := by
  intro i z hz
  unfold linesP at hz
  split at hz
  · simp at hz
  · split at hz
    · obtain ⟨hi, rfl⟩ := List.getElem?_eq_some_iff.1 hz
      simp only [List.getElem_dropLast]
      simp only [List.length_dropLast] at hi
      exact List.getElem?_eq_getElem (by omega)
    · exact hz
theorem split_len (c : UInt8) : ∀ (l : List UInt8), 1 ≤ (splitP c l).length ∧ (splitP c l).length ≤ l.length + 1
  | [] => by simp [splitP]
  | b :: m => by
    have ih := split_len c m
    unfold splitP
    split
    · simp; omega
    · split
      · rename_i h; rw [h] at ih; simp at ih
      · rename_i h t e; rw [e] at ih; simp at ih ⊢; omega
set_option maxHeartbeats 2000000 in
theorem lines_c (s : ByteArray) (w : World) (h : Laid w) (hs : s.size ≤ 1073741824) : Calls Tryd.prog 19 #[.string s] w fun e w' =>
    (bl s = [] ∧ e = .returned (.tuple #[.slice none 0 0, .bool true]) ∧ w' = w) ∨
    (bl s ≠ [] ∧ e = .returned (.tuple #[.slice (some ⟨w.heap.size, 0, none⟩) (linesP (bl s)).1.length (splitP 10 (bl s)).length, .bool (linesP (bl s)).2]) ∧ w' = w.alloc (.cells (strCells (splitP 10 (bl s))) 9)) := by
  have hsp := Lib.hid (split_c 10 s w h hs)
  by_cases h0 : s.size = 0
  · have ht : s = ⟨#[]⟩ := by
      apply ByteArray.ext
      exact Array.eq_empty_of_size_eq_zero h0
    subst ht
    clear hsp
    go_enter Tryd.func19, Tryd.ntmps19
    go_wp2
    go_ret2
    exact .inl ⟨rfl, rfl, rfl⟩
  · have hne : bl s ≠ [] := fun e => h0 ((bl_size0 s).1 e)
    have hs0 : s.toList.isEmpty = false := by rw [toList_bl, List.isEmpty_eq_false_iff]; exact hne
    obtain ⟨hl1, hl2⟩ := split_len 10 (bl s)
    rw [bl_len] at hl2
    have hcell := strs_alloc w (splitP 10 (bl s)) 9
    have hlast := List.getLast?_eq_getElem? (l := splitP 10 (bl s))
    have hP : Hid (linesP (bl s) = if (splitP 10 (bl s))[(splitP 10 (bl s)).length - 1]? = some [] then ((splitP 10 (bl s)).dropLast, true) else (splitP 10 (bl s), false)) := Lib.hid (by
      unfold linesP; rw [if_neg hne, hlast])
    clear hlast
    obtain ⟨n, hn⟩ : ∃ n, (splitP 10 (bl s)).length = n := ⟨_, rfl⟩
    rw [hn] at hl1 hl2 hP
    obtain ⟨W1, hW1⟩ : ∃ W1, W1 = w.alloc (.cells (strCells (splitP 10 (bl s))) 9) := ⟨_, rfl⟩
    rw [← hW1] at hcell ⊢
    have hsp : Hid (Calls Tryd.prog 21 #[.string s, .string ⟨#[10]⟩] w fun e w' => e = .returned (.slice (some ⟨w.heap.size, 0, none⟩) n n) ∧ w' = W1) := Lib.hid (hsp.out.mono fun e w' ⟨h1, h2⟩ => by rw [hn] at h1; exact ⟨h1, h2.trans hW1.symm⟩)
    clear hW1 h
    obtain ⟨z, hz⟩ : ∃ z, (splitP 10 (bl s))[n - 1]? = some z := ⟨_, List.getElem?_eq_getElem (by omega)⟩
    have hc := hcell _ _ hz
    rw [hz] at hP
    rw [Nat.zero_add] at hc
    have hwr : IntKind.i64.wrap ((n : Int) - 1) = ((n - 1 : Nat) : Int) := by rw [IntKind.wrap_i64]; omega
    clear hcell
    cases z with
    | nil =>
      have hP2 : Hid (linesP (bl s) = ((splitP 10 (bl s)).dropLast, true)) := Lib.hid (by rw [hP.out, if_pos rfl])
      have hlen : Hid ((splitP 10 (bl s)).dropLast.length = n - 1) := Lib.hid (by rw [List.length_dropLast, hn])
      have HN := Lib.hid hn
      have HNE := Lib.hid hne
      clear hP hz hn hne
      go_enter Tryd.func19, Tryd.ntmps19
      go_wp2_with (first | (go_at_call 21; refine (hsp.out).mono ?_; rintro e w' ⟨rfl, rfl⟩))
      go_ret2
      exact .inr ⟨HNE.out, by rw [hP2.out]; simp only [hlen.out, HN.out]; rfl, rfl⟩
    | cons b z =>
      have hP2 : Hid (linesP (bl s) = (splitP 10 (bl s), false)) := Lib.hid (by rw [hP.out, if_neg (by simp)])
      have hzz : (⟨(b :: z).toArray⟩ : ByteArray).toList = b :: z := by rw [toList_bl]; simp [bl]
      have HN := Lib.hid hn
      have HNE := Lib.hid hne
      clear hP hz hn hne
      go_enter Tryd.func19, Tryd.ntmps19
      go_wp2_with (first | (go_at_call 21; refine (hsp.out).mono ?_; rintro e w' ⟨rfl, rfl⟩))
      go_ret2
      exact .inr ⟨HNE.out, by rw [hP2.out]; simp only [HN.out]; rfl, rfl⟩
end Go.Proofs.YthfnjphmodcnoaaDoor
