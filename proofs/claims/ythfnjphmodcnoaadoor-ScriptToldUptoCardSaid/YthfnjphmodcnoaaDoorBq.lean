/- Contract of the reference's Begins. -/
import Derived.Test.YthfnjphmodcnoaaDoorBe
import Derived.Test.YthfnjphmodcnoaaDoorAh
import Derived.BigQuiet
import Derived.Deep.QuietTactic
namespace Go.Proofs.YthfnjphmodcnoaaDoor
open Go.RowKit
set_option linter.unusedSimpArgs false
set_option linter.unusedVariables false

/-- a slice of texts -/
def StrA (w : World) (v : Value) (L : List (List UInt8)) : Prop := ∃ p cap, v = .slice p L.length cap ∧ (L = [] ∨ ∃ b o, p = some ⟨b, o, none⟩ ∧ Strs w b o L)
theorem strA_below {w w' : World} {v : Value} {L : List (List UInt8)} (h : StrA w v L) (hb : Below w.heap.size w w') : StrA w' v L := by
  obtain ⟨p, cap, h1, h2⟩ := h
  refine ⟨p, cap, h1, h2.imp id ?_⟩
  rintro ⟨b, o, h3, h4⟩
  exact ⟨b, o, h3, fun i z hz => (hb.cell (p := ⟨b, o + i, none⟩) (Lib.lt_of_cell (h4 i z hz))).trans (h4 i z hz)⟩
def beginsP (A B : List (List UInt8)) : Bool := decide (A.length ≤ B.length) && A == B.take A.length
theorem begins_no {A B : List (List UInt8)} {k : Nat} {x y : List UInt8} (h1 : A[k]? = some x) (h2 : B[k]? = some y) (h : x ≠ y) : beginsP A B = false := by
  unfold beginsP
  have : (A == B.take A.length) = false := by
    rw [beq_eq_false_iff_ne]
    intro e
    have hk := (List.getElem?_eq_some_iff.1 h1).1
    rw [e, List.getElem?_take, if_pos hk, h2] at h1
    exact h (Option.some.inj h1).symm
  rw [this, Bool.and_false]
set_option maxRecDepth 20000 in
set_option maxHeartbeats 4000000 in
theorem begins_c (v1 v2 : Value) (A B : List (List UInt8)) (w : World) (hA : A.length ≤ 1073741824) (hB : B.length ≤ 1073741824) (h1 : StrA w v1 A) (h2 : StrA w v2 B) :
    Calls Tryd.prog 55 #[v1, v2] w fun e w' => e = .returned (.bool (beginsP A B)) ∧ ∃ q, w' = w.drewN q := by
  obtain ⟨p1, k1, rfl, h1⟩ := h1
  obtain ⟨p2, k2, rfl, h2⟩ := h2
  obtain ⟨n1, hn1⟩ : ∃ n, A.length = n := ⟨_, rfl⟩
  obtain ⟨n2, hn2⟩ : ∃ n, B.length = n := ⟨_, rfl⟩
  rw [hn1] at hA ⊢
  rw [hn2] at hB ⊢
  have HN1 := Lib.hid hn1
  have HN2 := Lib.hid hn2
  have H1 := Lib.hid h1
  have H2 := Lib.hid h2
  clear h1 h2 hn1 hn2
  go_enter Tryd.func55, Tryd.ntmps55
  go_wp2
  go_loopw [5] (fun i wr => ∃ (k q : Nat), i = .int .i64 k ∧ k ≤ n1 ∧ k ≤ n2 ∧ wr = w.drewN q ∧ Hid (A.take k = B.take k)) (fun i _ => n1 - (intOf i).toNat)
  case atStart => exact ⟨0, 0, rfl, by omega, by omega, by rw [World.drewN_zero], Lib.hid rfl⟩
  case round =>
    obtain ⟨k, q, rfl, hk, hk2, hwq, hT⟩ := hrel
    by_cases hlt : k < n1
    · have hlti : (k : Int) < (n1 : Int) := by omega
      by_cases hlt2 : k < n2
      · have hlti2 : (k : Int) < (n2 : Int) := by omega
        obtain ⟨a, ha⟩ : ∃ a, A[k]? = some a := ⟨_, List.getElem?_eq_getElem (by rw [HN1.out]; exact hlt)⟩
        obtain ⟨b, hb⟩ : ∃ b, B[k]? = some b := ⟨_, List.getElem?_eq_getElem (by rw [HN2.out]; exact hlt2)⟩
        obtain ⟨g1, o1, rfl, hg1⟩ := H1.out.resolve_left (fun e => by have := HN1.out; rw [e] at this; simp at this; omega)
        obtain ⟨g2, o2, rfl, hg2⟩ := H2.out.resolve_left (fun e => by have := HN2.out; rw [e] at this; simp at this; omega)
        have q1 : wr.cell? ⟨g1, o1 + k, none⟩ = some (.string ⟨a.toArray⟩) := by rw [hwq, World.cell?_drewN]; exact hg1 k a ha
        have q2 : wr.cell? ⟨g2, o2 + k, none⟩ = some (.string ⟨b.toArray⟩) := by rw [hwq, World.cell?_drewN]; exact hg2 k b hb
        have HWQ := Lib.hid hwq
        have HA := Lib.hid ha
        have HB := Lib.hid hb
        clear hg1 hg2 hwq ha hb
        by_cases hab : a = b
        · subst hab
          have hT2 : Hid (A.take (k + 1) = B.take (k + 1)) := Lib.hid (by rw [List.take_add_one, List.take_add_one, hT.out, HA.out, HB.out])
          go_wp2
          go_quiet (fail)
          go_wp2
          exact ⟨⟨k + 1, q + nq, by go_num, by omega, by omega, by rw [HWQ.out]; first | rfl | rw [World.drewN_drewN] | simp, hT2⟩, by simp [intOf]; omega⟩
        · have hne := begins_no HA.out HB.out hab
          have hab2 : (a == b) = false := beq_eq_false_iff_ne.2 hab
          have hab3 : (a != b) = true := by rw [bne, hab2]; rfl
          go_wp2
          go_quiet (fail)
          go_wp2
          go_ret
          exact ⟨by rw [hne]; rfl, q + nq, by rw [HWQ.out]; first | rfl | rw [World.drewN_drewN] | simp⟩
      · have hke : k = n2 := by omega
        subst hke
        have hle : decide ((n1 : Int) ≤ (k : Int)) = false := by rw [decide_eq_false_iff_not]; omega
        have hle2 : decide (n1 ≤ k) = false := by rw [decide_eq_false_iff_not]; omega
        have hf : beginsP A B = false := by unfold beginsP; rw [HN1.out, HN2.out, hle2]; rfl
        go_wp2
        go_ret
        exact ⟨by rw [hf]; rfl, q, by first | exact hwq | rfl⟩
    · have hke : k = n1 := by omega
      subst hke
      have hle2 : decide (k ≤ n2) = true := decide_eq_true hk2
      have hf : beginsP A B = true := by
        unfold beginsP
        have := hT.out
        rw [List.take_of_length_le (by rw [HN1.out]; exact Nat.le_refl _)] at this
        rw [HN1.out, HN2.out, hle2, ← this]; simp
      go_wp2
      go_ret
      exact ⟨by rw [hf]; rfl, q, by first | exact hwq | rfl⟩
end Go.Proofs.YthfnjphmodcnoaaDoor
