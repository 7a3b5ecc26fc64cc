/- Contracts of the reference's SameLists and SameReport at what is the same. -/
import Derived.Test.YthfnjphmodcnoaaDoorBq
namespace Go.Proofs.YthfnjphmodcnoaaDoor
open Go.RowKit
set_option linter.unusedSimpArgs false
set_option linter.unusedVariables false

theorem begins_self (A : List (List UInt8)) : beginsP A A = true := by unfold beginsP; simp
theorem strA_drewN {w : World} {v : Value} {L : List (List UInt8)} (h : StrA w v L) (n : Nat) : StrA (w.drewN n) v L := by
  obtain ⟨p, cap, h1, h2⟩ := h
  refine ⟨p, cap, h1, h2.imp id ?_⟩
  rintro ⟨b, o, h3, h4⟩
  exact ⟨b, o, h3, fun i z hz => by rw [World.cell?_drewN]; exact h4 i z hz⟩
theorem quiet_begins {v1 v2 : Value} {A : List (List UInt8)} {w : World} (hA : A.length ≤ 1073741824) (h1 : StrA w v1 A) (h2 : StrA w v2 A) (n : Nat) :
    Calls Tryd.prog 55 #[v1, v2] (w.drewN n) fun e w'' => e = .returned (.bool true) ∧ ∃ m, w'' = w.drewN m :=
  (begins_c v1 v2 A A (w.drewN n) hA hA (strA_drewN h1 n) (strA_drewN h2 n)).mono fun e w' ⟨he, q, hq⟩ => ⟨by rw [he, begins_self], n + q, by rw [hq]; first | rfl | rw [World.drewN_drewN] | simp⟩
set_option maxRecDepth 20000 in
set_option maxHeartbeats 4000000 in
theorem slists_c (b1 b2 : Nat) (v1 v2 : Value) (A : List (List UInt8)) (w : World) (hA : A.length ≤ 1073741824) (h1 : StrA w v1 A) (h2 : StrA w v2 A) (hc1 : w.cell? ⟨b1, 0, none⟩ = some v1) (hc2 : w.cell? ⟨b2, 0, none⟩ = some v2) :
    Calls Tryd.prog 35 #[.slice (some ⟨b1, 0, none⟩) 1 1, .slice (some ⟨b2, 0, none⟩) 1 1] w fun e w' => e = .returned (.bool true) ∧ ∃ q, w' = w.drewN q := by
  have HB1 := Lib.hid (fun (W : World) (q n : Nat) (hW : W = w.drewN q) => quiet_begins (w := W) hA (hW ▸ strA_drewN h1 q) (hW ▸ strA_drewN h2 q) n)
  have HB2 := Lib.hid (fun (W : World) (q n : Nat) (hW : W = w.drewN q) => quiet_begins (w := W) hA (hW ▸ strA_drewN h2 q) (hW ▸ strA_drewN h1 q) n)
  obtain ⟨p1, k1, rfl, -⟩ := h1
  obtain ⟨p2, k2, rfl, -⟩ := h2
  have HC1 := Lib.hid hc1
  have HC2 := Lib.hid hc2
  obtain ⟨n, hn⟩ : ∃ n, A.length = n := ⟨_, rfl⟩
  rw [hn] at hc1 hc2 HC1 HC2 HB1 HB2
  clear hn
  go_enter Tryd.func35, Tryd.ntmps35
  go_wp2_with fail
  go_loopw [5] (fun i wr => ∃ (k q : Nat), i = .int .i64 k ∧ k ≤ 1 ∧ wr = w.drewN q) (fun i _ => 1 - (intOf i).toNat)
  case atStart => exact ⟨0, 0, rfl, by omega, by rw [World.drewN_zero]⟩
  case round =>
    obtain ⟨k, q, rfl, hk, hwq⟩ := hrel
    by_cases hlt : k < 1
    · obtain rfl : k = 0 := by omega
      have q1 : wr.cell? ⟨b1, 0, none⟩ = some (.slice p1 n k1) := by rw [hwq, World.cell?_drewN]; exact HC1.out
      have q2 : wr.cell? ⟨b2, 0, none⟩ = some (.slice p2 n k2) := by rw [hwq, World.cell?_drewN]; exact HC2.out
      have HQ1 := Lib.hid (fun m => HB1.out wr q m hwq)
      have HQ2 := Lib.hid (fun m => HB2.out wr q m hwq)
      have HWQ := Lib.hid hwq
      clear hwq hc1 hc2
      go_wp2
      go_quiet (first | (go_at_call 55; with_reducible exact HQ1.out _) | (go_at_call 55; with_reducible exact HQ2.out _))
      go_wp2
      exact ⟨⟨1, q + nq, rfl, by omega, by rw [HWQ.out]; first | rfl | rw [World.drewN_drewN] | simp⟩, by simp [intOf]⟩
    · obtain rfl : k = 1 := by omega
      go_wp2
      go_ret
      exact ⟨rfl, q, by first | exact hwq | rfl⟩
set_option maxRecDepth 20000 in
set_option maxHeartbeats 4000000 in
theorem srep_c (v1 v2 : Value) (A : List (List UInt8)) (k c s p : Int) (w : World) (hA : A.length ≤ 1073741824) (h1 : StrA w v1 A) (h2 : StrA w v2 A) :
    Calls Tryd.prog 15 #[.agg #[v1, .int .i64 k, .int .i64 c, .int .i64 s, .int .i64 p], .agg #[v2, .int .i64 k, .int .i64 c, .int .i64 s, .int .i64 p]] w fun e w' => e = .returned (.bool true) ∧ Below w.heap.size w w' := by
  have HH1 := Lib.hid h1
  have HH2 := Lib.hid h2
  obtain ⟨p1, k1, rfl, -⟩ := h1
  obtain ⟨p2, k2, rfl, -⟩ := h2
  obtain ⟨W4, hW4⟩ : ∃ W4, W4 = ((((w.alloc (.cells #[.slice p1 A.length k1, .int .i64 k, .int .i64 c, .int .i64 s, .int .i64 p] 39)).alloc (.cells #[.slice p2 A.length k2, .int .i64 k, .int .i64 c, .int .i64 s, .int .i64 p] 39)).alloc (.cells #[.slice p1 A.length k1] 25)).alloc (.cells #[.slice p2 A.length k2] 25)) := ⟨_, rfl⟩
  have hB4 : Below w.heap.size w W4 := by rw [hW4]; exact ((((Below.refl w.heap.size w).alloc (Nat.le_refl _) _).alloc (by simp) _).alloc (by simp; omega) _).alloc (by simp; omega) _
  have hc2 : W4.cell? ⟨w.heap.size + 1 + 1 + 1, 0, none⟩ = some (.slice p2 A.length k2) := by
    rw [hW4]
    have := World.cell?_alloc_new (((w.alloc (.cells #[.slice p1 A.length k1, .int .i64 k, .int .i64 c, .int .i64 s, .int .i64 p] 39)).alloc (.cells #[.slice p2 A.length k2, .int .i64 k, .int .i64 c, .int .i64 s, .int .i64 p] 39)).alloc (.cells #[.slice p1 A.length k1] 25)) #[.slice p2 A.length k2] 25 0
    simpa using this
  have hc1 : W4.cell? ⟨w.heap.size + 1 + 1, 0, none⟩ = some (.slice p1 A.length k1) := by
    rw [hW4]
    have e := Below.heap_alloc (((w.alloc (.cells #[.slice p1 A.length k1, .int .i64 k, .int .i64 c, .int .i64 s, .int .i64 p] 39)).alloc (.cells #[.slice p2 A.length k2, .int .i64 k, .int .i64 c, .int .i64 s, .int .i64 p] 39)).alloc (.cells #[.slice p1 A.length k1] 25)) (.cells #[.slice p2 A.length k2] 25) (w.heap.size + 1 + 1) (by simp)
    rw [World.cell?_of_block (a := ⟨w.heap.size + 1 + 1, 0, none⟩) e]
    have := World.cell?_alloc_new ((w.alloc (.cells #[.slice p1 A.length k1, .int .i64 k, .int .i64 c, .int .i64 s, .int .i64 p] 39)).alloc (.cells #[.slice p2 A.length k2, .int .i64 k, .int .i64 c, .int .i64 s, .int .i64 p] 39)) #[.slice p1 A.length k1] 25 0
    simpa using this
  have HS := Lib.hid (slists_c _ _ _ _ A W4 hA (strA_below HH1.out hB4) (strA_below HH2.out hB4) hc1 hc2)
  have HB4 := Lib.hid hB4
  have HW := Lib.hid hW4
  clear hB4 hc1 hc2 hW4
  go_enter Tryd.func15, Tryd.ntmps15
  go_wp2_with fail
  rw [← HW.out]
  refine HS.out.mono ?_
  rintro e W5 ⟨rfl, q, hq⟩
  rw [HW.out] at hq
  subst hq
  go_wp2
  go_ret
  refine ⟨rfl, ?_⟩
  have := HB4.out
  rw [HW.out] at this
  exact below_dn this q
end Go.Proofs.YthfnjphmodcnoaaDoor
