/- Contract of scan.one: the token that a text begins with, a number or a sign; and all three together. -/
import Derived.Test.YtihdjofihdgigaaDoorUi
namespace Go.Proofs.YtihdjofihdgigaaDoor
open Go.RowKit
set_option linter.unusedSimpArgs false
set_option linter.unusedVariables false

set_option maxRecDepth 100000 in
set_option maxHeartbeats 2000000 in
theorem one_dig (s : ByteArray) (p : Nat) (w : World) (h : Laid w) (hs : s.size ≤ 1073741824) (h0 : s.size ≠ 0) (hL : isLet (decL (bl s)).1 = false) (hD : isDig (decL (bl s)).1 = true) :
    Calls Tryd.prog 27 #[.string s, .int .i64 p] w fun e w' => e = .returned (.tuple #[tokV (oneP (bl s) p).1, .int .i64 ((oneP (bl s) p).2.1 : Int), .int .i64 (oneP (bl s) p).2.2]) ∧ Below w.heap.size w w' := by
  have hn := runL_bd (bl s)
  rw [bl_len] at hn
  have hc := decode_c s (w.alloc (.cells #[.int .i64 0, .string ⟨#[]⟩, .int .u64 0, .int .i64 0] 31)) (h.below ((Below.refl _ _).alloc (Nat.le_refl _) _)) h0
  have HC := Lib.hid hc
  clear hc
  go_enter Tryd.func27, Tryd.ntmps27
  go_wp2_with fail
  refine HC.out.mono ?_
  rintro e w1 ⟨rfl, hw1⟩
  have kf : ∀ o, w1.frozen? ⟨w.heap.size, o, none⟩ = false := fun o => by rw [(bcell hw1).2 _ _ (by simp)]; simp [go_sem]
  have kc : ∀ o, w1.cell? ⟨w.heap.size, o, none⟩ = (#[Value.int .i64 0, .string ⟨#[]⟩, .int .u64 0, .int .i64 0] : Array Value)[o]? := fun o => by rw [(bcell hw1).1 _ _ (by simp)]; simp [go_sem]
  have hz1 : w.heap.size < w1.heap.size := by have := hw1.size; simp at this; omega
  have hb1 : Below w.heap.size w w1 := below_two ((Below.refl _ _).alloc (Nat.le_refl _) _) hw1
  have hl1 := h.below hb1
  clear hw1 HC
  go_wp2_with fail
  refine (run_any s _ hs).mono ?_
  rintro e w2 ⟨rfl, hw2⟩
  have kf2 : ∀ o, w2.frozen? ⟨w.heap.size, o, none⟩ = false := fun o => by rw [(bcell hw2).2 _ _ hz1]; exact kf o
  have kc2 : ∀ o, w2.cell? ⟨w.heap.size, o, none⟩ = (#[Value.int .i64 0, .string ⟨#[]⟩, .int .u64 0, .int .i64 0] : Array Value)[o]? := fun o => by rw [(bcell hw2).1 _ _ hz1]; exact kc o
  have hz2 : w.heap.size < w2.heap.size := by have := hw2.size; omega
  have hb2 : Below w.heap.size w w2 := below_two hb1 hw2
  have hl2 := hl1.below hw2
  have h0' := h
  clear hw2 kf kc hz1 hb1 hl1 h
  have c0 := kc2 0
  have c1 := kc2 1
  have c2 := kc2 2
  have c3 := kc2 3
  have f0 := kf2 0
  have f1 := kf2 1
  have f2 := kf2 2
  have f3 := kf2 3
  simp at c0 c1 c2 c3
  clear kc2 kf2
  have hone : oneP (bl s) p = (⟨2, (bl s).take (runL (bl s)), (numP ((bl s).take (runL (bl s)))).1, p⟩, runL (bl s), (numP ((bl s).take (runL (bl s)))).2) := by
    unfold oneP; rw [hL, hD]; rfl
  have hcut := cut_to s (runL (bl s))
  have hnum := number_c (s.extract 0 (runL (bl s))) w2 hl2 (by rw [← bl_len, bl_upto, List.length_take]; omega)
  rw [bl_upto] at hnum
  have HNUM := Lib.hid hnum
  have HONE := Lib.hid hone
  have HCUT := Lib.hid hcut
  clear hnum hone hcut h0'
  generalize hN : runL (bl s) = N at *
  have hN1 : (N : Int) ≤ (s.size : Int) := by omega
  clear hN
  generalize numP ((bl s).take N) = q at *
  obtain ⟨v, ev⟩ := q
  go_wp2_with (first | (go_at_call 48; refine (letter_any _ _).mono ?_; rintro e w' ⟨rfl, rfl⟩) | (go_at_call 31; refine (digit_any _ _).mono ?_; rintro e w' ⟨rfl, rfl⟩))
  refine HNUM.out.mono ?_
  rintro e w3 ⟨rfl, hw3⟩
  have d0 : w3.cell? ⟨w.heap.size, 0, none⟩ = some (.int .i64 0) := by rw [(bcell hw3).1 _ _ hz2]; exact c0
  have d1 : w3.cell? ⟨w.heap.size, 1, none⟩ = some (.string ⟨#[]⟩) := by rw [(bcell hw3).1 _ _ hz2]; exact c1
  have d2 : w3.cell? ⟨w.heap.size, 2, none⟩ = some (.int .u64 0) := by rw [(bcell hw3).1 _ _ hz2]; exact c2
  have d3 : w3.cell? ⟨w.heap.size, 3, none⟩ = some (.int .i64 0) := by rw [(bcell hw3).1 _ _ hz2]; exact c3
  have g0 : w3.frozen? ⟨w.heap.size, 0, none⟩ = false := by rw [(bcell hw3).2 _ _ hz2]; exact f0
  have g1 : w3.frozen? ⟨w.heap.size, 1, none⟩ = false := by rw [(bcell hw3).2 _ _ hz2]; exact f1
  have g2 : w3.frozen? ⟨w.heap.size, 2, none⟩ = false := by rw [(bcell hw3).2 _ _ hz2]; exact f2
  have g3 : w3.frozen? ⟨w.heap.size, 3, none⟩ = false := by rw [(bcell hw3).2 _ _ hz2]; exact f3
  have hb3 : Below w.heap.size w w3 := below_two hb2 hw3
  have hz3 : w.heap.size < w3.heap.size := by have := hw3.size; omega
  clear c0 c1 c2 c3 f0 f1 f2 f3 hw3 hb2 hz2 hl2 HNUM
  go_wp2
  (try simp only [Exit.inBlock, Exit.then]); refine bodyPost_ret (by (simp [results, Tryd.results27, go_sem, d0, d1, d2, d3, g0, g1, g2, g3, hz3]; try rfl)) rfl ?_
  refine ⟨?_, (by repeat' (first | with_reducible assumption | with_reducible exact Below.refl _ _ | with_reducible refine Below.setCell ?_ ?_ _ | with_reducible refine Below.alloc ?_ ?_ _ | with_reducible refine Below.drew ?_ | with_reducible refine below_dn ?_ _ | refine below_two ?_ (by assumption) | omega | (simp; omega) | (simp; done)))⟩
  rw [HONE.out, HCUT.out]; rfl
theorem sign_none {l : List UInt8} (h : ∀ j, j < 33 → preP (signList.getD j []) l = false) : signOf l = none := by
  unfold signOf
  rw [List.find?_eq_none]
  intro g hg
  obtain ⟨j, hj, e⟩ := List.getElem_of_mem hg
  have := h j hj
  rw [List.getD_eq_getElem?_getD, List.getElem?_eq_getElem hj, Option.getD_some, e] at this
  intro hx
  rw [show preP g l = g.isPrefixOf l from rfl, hx] at this
  cases this
theorem sign_some {l : List UInt8} {k : Nat} (hk : k < 33) (h : ∀ j, j < k → preP (signList.getD j []) l = false) (hy : preP (signList.getD k []) l = true) : signOf l = some (signList.getD k []) := by
  unfold signOf
  have hk' : k < signList.length := hk
  rw [List.find?_eq_some_iff_getElem]
  rw [List.getD_eq_getElem?_getD, List.getElem?_eq_getElem hk', Option.getD_some] at hy ⊢
  refine ⟨hy, k, hk', rfl, fun j hj => ?_⟩
  have := h j hj
  rw [List.getD_eq_getElem?_getD, List.getElem?_eq_getElem (by omega), Option.getD_some] at this
  simpa [preP] using this
set_option maxRecDepth 100000 in
set_option maxHeartbeats 2000000 in
theorem one_sign (s : ByteArray) (p : Nat) (w : World) (h : Laid w) (hs : s.size ≤ 1073741824) (h0 : s.size ≠ 0) (hL : isLet (decL (bl s)).1 = false) (hD : isDig (decL (bl s)).1 = false) :
    Calls Tryd.prog 27 #[.string s, .int .i64 p] w fun e w' => e = .returned (.tuple #[tokV (oneP (bl s) p).1, .int .i64 ((oneP (bl s) p).2.1 : Int), .int .i64 (oneP (bl s) p).2.2]) ∧ Below w.heap.size w w' := by
  have hn := runL_bd (bl s)
  rw [bl_len] at hn
  have hc := decode_c s (w.alloc (.cells #[.int .i64 0, .string ⟨#[]⟩, .int .u64 0, .int .i64 0] 31)) (h.below ((Below.refl _ _).alloc (Nat.le_refl _) _)) h0
  have HC := Lib.hid hc
  clear hc
  go_enter Tryd.func27, Tryd.ntmps27
  go_wp2_with fail
  refine HC.out.mono ?_
  rintro e w1 ⟨rfl, hw1⟩
  have kf : ∀ o, w1.frozen? ⟨w.heap.size, o, none⟩ = false := fun o => by rw [(bcell hw1).2 _ _ (by simp)]; simp [go_sem]
  have kc : ∀ o, w1.cell? ⟨w.heap.size, o, none⟩ = (#[Value.int .i64 0, .string ⟨#[]⟩, .int .u64 0, .int .i64 0] : Array Value)[o]? := fun o => by rw [(bcell hw1).1 _ _ (by simp)]; simp [go_sem]
  have hz1 : w.heap.size < w1.heap.size := by have := hw1.size; simp at this; omega
  have hb1 : Below w.heap.size w w1 := below_two ((Below.refl _ _).alloc (Nat.le_refl _) _) hw1
  have hl1 := h.below hb1
  clear hw1 HC
  go_wp2_with fail
  refine (run_any s _ hs).mono ?_
  rintro e w2 ⟨rfl, hw2⟩
  have kf2 : ∀ o, w2.frozen? ⟨w.heap.size, o, none⟩ = false := fun o => by rw [(bcell hw2).2 _ _ hz1]; exact kf o
  have kc2 : ∀ o, w2.cell? ⟨w.heap.size, o, none⟩ = (#[Value.int .i64 0, .string ⟨#[]⟩, .int .u64 0, .int .i64 0] : Array Value)[o]? := fun o => by rw [(bcell hw2).1 _ _ hz1]; exact kc o
  have hz2 : w.heap.size < w2.heap.size := by have := hw2.size; omega
  have hb2 : Below w.heap.size w w2 := below_two hb1 hw2
  have hl2 := hl1.below hw2
  have h0' := h
  clear hw2 kf kc hz1 hb1 hl1 h
  have c0 := kc2 0
  have c1 := kc2 1
  have c2 := kc2 2
  have c3 := kc2 3
  have f0 := kf2 0
  have f1 := kf2 1
  have f2 := kf2 2
  have f3 := kf2 3
  simp at c0 c1 c2 c3
  clear kc2 kf2
  have hone : oneP (bl s) p = match signOf (bl s) with
    | some g => (⟨if g = [59] then 5 else 4, g, 0, p⟩, g.length, 0)
    | none => (⟨0, [], 0, 0⟩, 0, 4) := by
    unfold oneP; rw [hL, hD]; rfl
  have HONE := Lib.hid hone
  have hsig := Lib.hid sign_at
  obtain ⟨tt, fr, hg1⟩ := hl2.signs
  clear hone h0'
  generalize hN : runL (bl s) = N at *
  clear hN
  go_wp2_with (first | (go_at_call 48; refine (letter_any _ _).mono ?_; rintro e w' ⟨rfl, rfl⟩) | (go_at_call 31; refine (digit_any _ _).mono ?_; rintro e w' ⟨rfl, rfl⟩) | (refine wpList_load_row rfl 67 _ rfl 0 rfl tt _ fr _ hg1 Tryd.underlying67 rfl (by kernel_rfl) ?_))
  clear hg1
  go_loop [60] (fun i => ∃ k : Nat, k ≤ 33 ∧ i = .int .i64 k ∧ Hid (∀ j, j < k → preP (signList.getD j []) (bl s) = false)) (fun i => 33 - (intOf i).toNat)
  case atStart => exact ⟨0, by omega, rfl, Lib.hid (fun j hj => absurd hj (by omega))⟩
  case round =>
    obtain ⟨k, hk, rfl, HK⟩ := hrel
    by_cases hlt : k < 33
    · have hlt1 : (k : Int) < 33 := by omega
      have hix := hsig.out k hlt
      have hpc := fun w => prefix_c s ⟨(signList.getD k []).toArray⟩ w
      rw [bl_mk] at hpc
      cases hp : preP (signList.getD k []) (bl s)
      · rw [hp] at hpc
        have HP := Lib.hid hpc
        have hnext : Hid (∀ j, j < k + 1 → preP (signList.getD j []) (bl s) = false) := Lib.hid (fun j hj => by
          by_cases hjk : j = k
          · subst hjk; exact hp
          · exact HK.out j (by omega))
        clear hpc hp
        generalize signList.getD k [] = g at *
        go_wp2_with (go_at_call 24; refine (HP.out _).mono ?_; rintro e w' ⟨rfl, rfl⟩)
        exact ⟨⟨k + 1, by omega, by go_num, hnext⟩, by simp [intOf]; omega⟩
      · rw [hp] at hpc
        have HP := Lib.hid hpc
        have hso := sign_some hlt HK.out hp
        have hr : oneP (bl s) p = (⟨if signList.getD k [] = [59] then 5 else 4, signList.getD k [], 0, p⟩, (signList.getD k []).length, 0) := by rw [HONE.out, hso]
        have HR := Lib.hid hr
        clear hpc hp hso hr
        generalize signList.getD k [] = g at *
        have hgl : (⟨g.toArray⟩ : ByteArray).size = g.length := by show g.toArray.size = _; simp
        by_cases hg : g = [59]
        · have hgb : (g == [59]) = true := by simp [hg]
          have HG := Lib.hid hg
          clear hg
          go_wp2_with (go_at_call 24; refine (HP.out _).mono ?_; rintro e w' ⟨rfl, rfl⟩)
          (try simp only [Exit.inBlock, Exit.then]); refine bodyPost_ret (by (simp [results, Tryd.results27, go_sem, c0, c1, c2, c3, f0, f1, f2, f3, hz2]; try rfl)) rfl ?_
          refine ⟨?_, (by repeat' (first | with_reducible assumption | with_reducible exact Below.refl _ _ | with_reducible refine Below.setCell ?_ ?_ _ | with_reducible refine Below.alloc ?_ ?_ _ | with_reducible refine Below.drew ?_ | with_reducible refine below_dn ?_ _ | refine below_two ?_ (by assumption) | omega | (simp; omega) | (simp; done)))⟩
          rw [HR.out, if_pos HG.out]; rfl
        · have hgb : (g == [59]) = false := by simpa using hg
          go_wp2_with (go_at_call 24; refine (HP.out _).mono ?_; rintro e w' ⟨rfl, rfl⟩)
          (try simp only [Exit.inBlock, Exit.then]); refine bodyPost_ret (by (simp [results, Tryd.results27, go_sem, c0, c1, c2, c3, f0, f1, f2, f3, hz2]; try rfl)) rfl ?_
          refine ⟨?_, (by repeat' (first | with_reducible assumption | with_reducible exact Below.refl _ _ | with_reducible refine Below.setCell ?_ ?_ _ | with_reducible refine Below.alloc ?_ ?_ _ | with_reducible refine Below.drew ?_ | with_reducible refine below_dn ?_ _ | refine below_two ?_ (by assumption) | omega | (simp; omega) | (simp; done)))⟩
          rw [HR.out, if_neg hg]; rfl
    · obtain rfl : k = 33 := by omega
      have hr : oneP (bl s) p = (⟨0, [], 0, 0⟩, 0, 4) := by rw [HONE.out, sign_none HK.out]
      have HR := Lib.hid hr
      clear hr
      go_wp2
      (try simp only [Exit.inBlock, Exit.then]); refine bodyPost_ret (by (simp [results, Tryd.results27, go_sem, c0, c1, c2, c3, f0, f1, f2, f3, hz2]; try rfl)) rfl ?_
      refine ⟨?_, (by repeat' (first | with_reducible assumption | with_reducible exact Below.refl _ _ | with_reducible refine Below.setCell ?_ ?_ _ | with_reducible refine Below.alloc ?_ ?_ _ | with_reducible refine Below.drew ?_ | with_reducible refine below_dn ?_ _ | refine below_two ?_ (by assumption) | omega | (simp; omega) | (simp; done)))⟩
      rw [HR.out]; rfl
theorem one_c (s : ByteArray) (p : Nat) (w : World) (h : Laid w) (hs : s.size ≤ 1073741824) (h0 : s.size ≠ 0) :
    Calls Tryd.prog 27 #[.string s, .int .i64 p] w fun e w' => e = .returned (.tuple #[tokV (oneP (bl s) p).1, .int .i64 ((oneP (bl s) p).2.1 : Int), .int .i64 (oneP (bl s) p).2.2]) ∧ Below w.heap.size w w' := by
  cases hL : isLet (decL (bl s)).1
  · cases hD : isDig (decL (bl s)).1
    · exact one_sign s p w h hs h0 hL hD
    · exact one_dig s p w h hs h0 hL hD
  · exact one_let s p w h hs h0 hL
end Go.Proofs.YtihdjofihdgigaaDoor
