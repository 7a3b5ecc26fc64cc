/- The reference's Digits and SameScript. -/
import Derived.Test.YthfnjphmodcnoaaDoorZc
import Derived.Test.YthfnjphmodcnoaaDoorAn
import Derived.BigQuiet
import Derived.Deep.QuietTactic
namespace Go.Proofs.YthfnjphmodcnoaaDoor
open Go.RowKit
set_option linter.unusedSimpArgs false
set_option linter.unusedVariables false

theorem rdig_c (n : Nat) (hn : n < 9223372036854775808) (w : World) : Calls Tryd.prog 7 #[.int .i64 (n : Int)] w fun e w' => e = .returned (.string ⟨(Lib.decDigits n).toArray⟩) ∧ Below w.heap.size w w' := by
  have hw : IntKind.u64.wrap (n : Int) = (n : Int) := by rw [IntKind.wrap_u64]; omega
  have HD := Lib.hid (rdigits_any false n (by omega) w)
  clear hn
  go_enter Tryd.func7, Tryd.ntmps7
  go_wp2_with (first | (go_at_call 18; refine (HD.out).mono ?_; rintro e W1 ⟨rfl, hB⟩))
  go_ret
  exact ⟨rfl, hB⟩
/-- a slice of uint16 that holds these numbers -/
def U16s (w : World) (pv : Value) (l : List Nat) : Prop := ∃ p cap, pv = .slice p l.length cap ∧ (l = [] ∨ ∃ g o, p = some ⟨g, o, none⟩ ∧ ∀ (i : Nat) (v : Nat), l[i]? = some v → w.cell? ⟨g, o + i, none⟩ = some (.int .u16 (v : Int)))
theorem u16s_own {w : World} {base : Nat} {pv : Value} {l : List Nat} (h : w.ownsRow base 22 1 pv l.length (pickV l)) : U16s w pv l := by
  rcases h.2 with ⟨rfl, h0⟩ | ⟨g, cap, cur, rfl, -, h3, h4, -, h5, h6⟩
  · obtain rfl : l = [] := List.length_eq_zero_iff.1 h0
    exact ⟨none, 0, rfl, .inl rfl⟩
  · refine ⟨_, cap, rfl, .inr ⟨g, 0, rfl, fun i v hv => ?_⟩⟩
    have hi := (List.getElem?_eq_some_iff.1 hv).1
    have h7 : (pickV l)[i]? = some (.int .u16 (v : Int)) := by unfold pickV; rw [List.getElem?_map, hv]; rfl
    rw [← h6, List.getElem?_take, if_pos (by omega)] at h7
    unfold World.cell?
    rw [h3, Nat.zero_add]
    simpa using h7
theorem u16s_below {w w' : World} {pv : Value} {l : List Nat} (h : U16s w pv l) (hb : Below w.heap.size w w') : U16s w' pv l := by
  obtain ⟨p, cap, h1, h2⟩ := h
  refine ⟨p, cap, h1, h2.imp id ?_⟩
  rintro ⟨g, o, h3, h4⟩
  exact ⟨g, o, h3, fun i v hv => (hb.cell (p := ⟨g, o + i, none⟩) (Lib.lt_of_cell (h4 i v hv))).trans (h4 i v hv)⟩
/-- a slice of uint16 that came in -/
def U16a (w : World) (pv : Value) (l : List Nat) : Prop := ∃ p cap, pv = .slice p l.length cap ∧ (l = [] ∨ ∃ a : Addr, p = some a ∧ ∀ (i : Nat) (v : Nat), l[i]? = some v → w.cell? (a.add i) = some (.int .u16 (v : Int)))
def sameS (f1 c1 e1 : Int) (l1 : List Nat) (f2 c2 e2 : Int) (l2 : List Nat) : Bool := f1 == f2 && c1 == c2 && e1 == e2 && l1 == l2
theorem list_neq {l1 l2 : List Nat} {k : Nat} {a b : Nat} (h1 : l1[k]? = some a) (h2 : l2[k]? = some b) (h : a ≠ b) : (l1 == l2) = false := by
  rw [beq_eq_false_iff_ne]
  rintro rfl
  rw [h1] at h2; exact h (Option.some.inj h2)
set_option maxRecDepth 20000 in
set_option maxHeartbeats 4000000 in
theorem same_c (v1 v2 : Value) (f1 c1 e1 f2 c2 e2 : Int) (l1 l2 : List Nat) (w : World) (hl1 : l1.length ≤ 1073741824) (hl2 : l2.length ≤ 1073741824) (h1 : U16s w v1 l1) (h2 : U16s w v2 l2) :
    Calls Tryd.prog 10 #[.agg #[v1, .int .i64 f1, .int .i64 c1, .int .i64 e1], .agg #[v2, .int .i64 f2, .int .i64 c2, .int .i64 e2]] w fun e w' => e = .returned (.bool (sameS f1 c1 e1 l1 f2 c2 e2 l2)) ∧ Below w.heap.size w w' := by
  obtain ⟨p1, k1, rfl, h1⟩ := h1
  obtain ⟨p2, k2, rfl, h2⟩ := h2
  by_cases hf : f1 = f2
  rotate_left
  · have hs : sameS f1 c1 e1 l1 f2 c2 e2 l2 = false := by unfold sameS; simp [hf]
    have hfb : (f1 == f2) = false := beq_eq_false_iff_ne.2 hf
    go_enter Tryd.func10, Tryd.ntmps10
    go_wp2
    go_ret
    exact ⟨by rw [hs]; rfl, ((Below.refl _ _).alloc (Nat.le_refl _) _).alloc (by simp) _⟩
  by_cases hc : c1 = c2
  rotate_left
  · have hs : sameS f1 c1 e1 l1 f2 c2 e2 l2 = false := by unfold sameS; simp [hc]
    have hfb : (c1 == c2) = false := beq_eq_false_iff_ne.2 hc
    subst hf
    go_enter Tryd.func10, Tryd.ntmps10
    go_wp2
    go_ret
    exact ⟨by rw [hs]; rfl, ((Below.refl _ _).alloc (Nat.le_refl _) _).alloc (by simp) _⟩
  by_cases he : e1 = e2
  rotate_left
  · have hs : sameS f1 c1 e1 l1 f2 c2 e2 l2 = false := by unfold sameS; simp [he]
    have hfb : (e1 == e2) = false := beq_eq_false_iff_ne.2 he
    subst hf hc
    go_enter Tryd.func10, Tryd.ntmps10
    go_wp2
    go_ret
    exact ⟨by rw [hs]; rfl, ((Below.refl _ _).alloc (Nat.le_refl _) _).alloc (by simp) _⟩
  obtain ⟨n1, hn1⟩ : ∃ n, l1.length = n := ⟨_, rfl⟩
  obtain ⟨n2, hn2⟩ : ∃ n, l2.length = n := ⟨_, rfl⟩
  rw [hn1] at hl1 ⊢
  rw [hn2] at hl2 ⊢
  subst hf hc he
  have hss : sameS f1 c1 e1 l1 f1 c1 e1 l2 = (l1 == l2) := by unfold sameS; simp
  by_cases hn : n1 = n2
  rotate_left
  · have hs : (l1 == l2) = false := by rw [beq_eq_false_iff_ne]; rintro rfl; exact hn (hn1.symm.trans hn2)
    have hfb : ((n1 : Int) == (n2 : Int)) = false := by rw [beq_eq_false_iff_ne]; omega
    have hfc : ¬ (n1 : Int) = (n2 : Int) := by omega
    go_enter Tryd.func10, Tryd.ntmps10
    go_wp2
    go_ret
    exact ⟨by rw [hss, hs]; rfl, ((Below.refl _ _).alloc (Nat.le_refl _) _).alloc (by simp) _⟩
  subst hn
  obtain ⟨W, hW⟩ : ∃ W, W = (w.alloc (.cells #[.slice p1 n1 k1, .int .i64 f1, .int .i64 c1, .int .i64 e1] 27)).alloc (.cells #[.slice p2 n1 k2, .int .i64 f1, .int .i64 c1, .int .i64 e1] 27) := ⟨_, rfl⟩
  have hB : Below w.heap.size w W := by rw [hW]; exact ((Below.refl _ _).alloc (Nat.le_refl _) _).alloc (by simp) _
  have HN1 := Lib.hid hn1
  have HN2 := Lib.hid hn2
  have HSS := Lib.hid hss
  have H1 : Hid (l1 = [] ∨ ∃ g o, p1 = some ⟨g, o, none⟩ ∧ ∀ (i : Nat) (v : Nat), l1[i]? = some v → W.cell? ⟨g, o + i, none⟩ = some (.int .u16 (v : Int))) := Lib.hid (h1.imp id fun ⟨g, o, h3, h4⟩ => ⟨g, o, h3, fun i v hv => (hB.cell (p := ⟨g, o + i, none⟩) (Lib.lt_of_cell (h4 i v hv))).trans (h4 i v hv)⟩)
  have H2 : Hid (l2 = [] ∨ ∃ g o, p2 = some ⟨g, o, none⟩ ∧ ∀ (i : Nat) (v : Nat), l2[i]? = some v → W.cell? ⟨g, o + i, none⟩ = some (.int .u16 (v : Int))) := Lib.hid (h2.imp id fun ⟨g, o, h3, h4⟩ => ⟨g, o, h3, fun i v hv => (hB.cell (p := ⟨g, o + i, none⟩) (Lib.lt_of_cell (h4 i v hv))).trans (h4 i v hv)⟩)
  have HB := Lib.hid hB
  clear h1 h2 hn1 hn2 hss hB
  go_enter Tryd.func10, Tryd.ntmps10
  go_wp2
  rw [← hW]
  have r1 : W.cell? ⟨w.heap.size, 0, none⟩ = some (.slice p1 n1 k1) := by
    have : W.heap[w.heap.size]? = some (.cells #[.slice p1 n1 k1, .int .i64 f1, .int .i64 c1, .int .i64 e1] 27 (0, 0)) := by
      rw [hW]
      show (((w.heap.push _).push _))[w.heap.size]? = _
      rw [Array.getElem?_push, if_neg (by simp), Array.getElem?_push_size]
    unfold World.cell?; rw [this]; rfl
  have r2 : W.cell? ⟨w.heap.size + 1, 0, none⟩ = some (.slice p2 n1 k2) := by
    have : W.heap[w.heap.size + 1]? = some (.cells #[.slice p2 n1 k2, .int .i64 f1, .int .i64 c1, .int .i64 e1] 27 (0, 0)) := by
      rw [hW]; exact heap_alloc2_new w _ _
    unfold World.cell?; rw [this]; rfl
  clear hW
  go_loopw [5] (fun i wr => ∃ (k q : Nat), i = .int .i64 k ∧ k ≤ n1 ∧ wr = W.drewN q ∧ Hid (l1.take k = l2.take k)) (fun i _ => n1 - (intOf i).toNat)
  case atStart => exact ⟨0, 0, rfl, by omega, by rw [World.drewN_zero], Lib.hid rfl⟩
  case round =>
    obtain ⟨k, q, rfl, hk, hwq, hT⟩ := hrel
    have r1 : wr.cell? ⟨w.heap.size, 0, none⟩ = some (.slice p1 n1 k1) := by rw [hwq, World.cell?_drewN]; exact r1
    have r2 : wr.cell? ⟨w.heap.size + 1, 0, none⟩ = some (.slice p2 n1 k2) := by rw [hwq, World.cell?_drewN]; exact r2
    have HBq : Hid (Below w.heap.size w wr) := Lib.hid (by rw [hwq]; exact below_dn HB.out q)
    have HWQ := Lib.hid hwq
    by_cases hlt : k < n1
    · have hlti : (k : Int) < (n1 : Int) := by omega
      obtain ⟨a, ha⟩ : ∃ a, l1[k]? = some a := ⟨_, List.getElem?_eq_getElem (by rw [HN1.out]; exact hlt)⟩
      obtain ⟨b, hb⟩ : ∃ b, l2[k]? = some b := ⟨_, List.getElem?_eq_getElem (by rw [HN2.out]; exact hlt)⟩
      obtain ⟨g1, o1, rfl, hg1⟩ := H1.out.resolve_left (fun e => by have := HN1.out; rw [e] at this; simp at this; omega)
      obtain ⟨g2, o2, rfl, hg2⟩ := H2.out.resolve_left (fun e => by have := HN2.out; rw [e] at this; simp at this; omega)
      have q1 : wr.cell? ⟨g1, o1 + k, none⟩ = some (.int .u16 (a : Int)) := by rw [hwq, World.cell?_drewN]; exact hg1 k a ha
      have q2 : wr.cell? ⟨g2, o2 + k, none⟩ = some (.int .u16 (b : Int)) := by rw [hwq, World.cell?_drewN]; exact hg2 k b hb
      clear hg1 hg2 hwq
      by_cases hab : a = b
      · subst hab
        have hT2 : Hid (l1.take (k + 1) = l2.take (k + 1)) := Lib.hid (by rw [List.take_add_one, List.take_add_one, hT.out, ha, hb])
        go_wp2
        go_quiet (fail)
        go_wp2
        exact ⟨⟨k + 1, q + nq, by go_num, by omega, by rw [HWQ.out]; first | rfl | rw [World.drewN_drewN] | simp, hT2⟩, by simp [intOf]; omega⟩
      · have hne : (l1 == l2) = false := list_neq ha hb hab
        have hab1 : ¬ (a : Int) = (b : Int) := by omega
        have hab2 : ((a : Int) == (b : Int)) = false := by rw [beq_eq_false_iff_ne]; exact hab1
        have hab3 : ((a : Int) != (b : Int)) = true := by rw [bne, hab2]; rfl
        go_wp2
        go_quiet (fail)
        go_wp2
        go_ret
        exact ⟨by rw [HSS.out, hne]; rfl, below_dn HBq.out _⟩
    · clear hwq
      have hke : k = n1 := by omega
      subst hke
      have heq : (l1 == l2) = true := by
        have := hT.out
        rw [List.take_of_length_le (by rw [HN1.out]; exact Nat.le_refl _), List.take_of_length_le (by rw [HN2.out]; exact Nat.le_refl _)] at this
        rw [this]; simp
      go_wp2
      go_ret
      exact ⟨by rw [HSS.out, heq]; rfl, HBq.out⟩
end Go.Proofs.YthfnjphmodcnoaaDoor
