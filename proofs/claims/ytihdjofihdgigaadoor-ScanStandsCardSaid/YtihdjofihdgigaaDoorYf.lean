/- The walk of the law ScanStands. -/
import Derived.Test.YtihdjofihdgigaaDoorYe
import Derived.Test.YtihdjofihdgigaaDoorYb
namespace Go.Proofs.YtihdjofihdgigaaDoor
open Go.RowKit
set_option linter.unusedSimpArgs false
set_option linter.unusedVariables false

set_option maxRecDepth 100000 in
set_option maxHeartbeats 2000000 in
theorem walkScanStands (s : ByteArray) (hs : s.size ≤ maxLen) (w : World) (h : Laid w) :
    Calls Tryd.prog 4 #[.string s] w fun e w' => e = .returned (.bool true) ∧ Below w.heap.size w w' := by
  have ht := tokens_c s w h hs
  have HA := Lib.hid (fun w1 h1 => answers_c w1 h1)
  cases hR : tokensP (bl s) with
  | error pc =>
    obtain ⟨p, c⟩ := pc
    rw [hR] at ht
    have hcb : (c != 0) = true := by simpa using tokens_err _ _ _ hR
    have HT := Lib.hid ht
    clear hR ht
    go_enter Tryd.func4, Tryd.ntmps4
    go_wp2_with fail
    refine HT.out.mono ?_
    rintro e w1 ⟨rfl, hw1⟩
    have hl1 := h.below hw1
    go_wp2_with fail
    refine (HA.out w1 hl1).mono ?_
    rintro e w2 ⟨rfl, hw2⟩
    have hB := below_two hw1 hw2
    have hl2 := hl1.below hw2
    clear hw1 hw2 hl1 HT h
    go_wp2_with fail
    refine (HA.out w2 hl2).mono ?_
    rintro e w3 ⟨rfl, hw3⟩
    go_wp2
    go_ret
    exact ⟨rfl, below_two hB hw3⟩
  | ok ts =>
    rw [hR] at ht
    have HST := Lib.hid (tokens_stand _ _ hR)
    have hsl := (tokens_lex _ _ hR).2.2
    rw [bl_len] at hsl
    have h16 := tokens_len _ ts hR
    have HT := Lib.hid ht
    clear hR ht hs
    go_enter Tryd.func4, Tryd.ntmps4
    go_wp2_with fail
    refine HT.out.mono ?_
    rintro e w1 ⟨⟨v, rfl, hown, -⟩, hw1⟩
    have hl1 := h.below hw1
    go_wp2_with fail
    refine (HA.out w1 hl1).mono ?_
    rintro e w2 ⟨rfl, hw2⟩
    have hown2 := ownsRow_below hown hw2
    have hB := below_two hw1 hw2
    have hlen := len_own hown2
    clear hown hl1 h HT hw1 hw2 HA
    go_wp2
    go_loopw [6, 7] (fun en i wr => ∃ k e : Nat, k ≤ ts.length ∧ i = .int .i64 k ∧ en = .int .i64 e ∧ e ≤ s.size ∧ Hid (Stand (bl s) e (ts.drop k)) ∧ Below w2.heap.size w2 wr) (fun _ i _ => ts.length - (intOf i).toNat)
    case atStart => exact ⟨0, 0, by omega, rfl, rfl, Nat.zero_le _, HST, Below.refl _ _⟩
    case round =>
      obtain ⟨k, e, hk, rfl, rfl, hes, HS, hwr⟩ := hrel
      by_cases hlt : k < ts.length
      · have hne : ts ≠ [] := by rintro rfl; simp at hlt
        obtain ⟨g, cap, rfl, -, hgs, hcell⟩ := own_cells hown2 hne
        have hk1 : (k : Int) < (ts.length : Int) := by omega
        obtain ⟨hwc, -⟩ := bcell hwr
        obtain ⟨a0, a1, a2, a3⟩ := hcell k hlt
        have e0 := (hwc _ (k * 4) hgs).trans a0
        have e1 := (hwc _ (k * 4 + 1) hgs).trans a1
        have e2 := (hwc _ (k * 4 + 2) hgs).trans a2
        have e3 := (hwc _ (k * 4 + 3) hgs).trans a3
        have hS := HS.out
        rw [List.drop_eq_getElem_cons hlt] at hS
        have hgw : g < wr.heap.size := Nat.lt_of_lt_of_le hgs hwr.size
        clear a0 a1 a2 a3 hcell hwc HS
        generalize ts[k] = t at *
        obtain ⟨kind, text, num, place⟩ := t
        obtain ⟨s1, s2, s3, s4, s5, s6⟩ := hS
        simp only [] at e0 e1 e2 e3 s1 s2 s3 s4 s5 s6
        rw [bl_len] at s2
        have hx : s.extract place (place + text.length) = ⟨text.toArray⟩ := by
          apply bl_inj
          rw [bl_extract, Nat.add_sub_cancel_left, s3]
          exact (bl_mk text).symm
        have hem : (runE false (bl (s.extract e place))).isSome = true := by rw [bl_extract]; exact s4
        have HEM := Lib.hid (fun w1 => empty_c (s.extract e place) (by unfold maxLen; rw [ByteArray.size_extract]; omega) w1 hem)
        have q1 : decide ((place : Int) < (e : Int)) = false := decide_eq_false (by omega)
        have q2 : decide ((s.size : Int) < (place : Int)) = false := decide_eq_false (by omega)
        have q3 : decide ((s.size : Int) - (place : Int) < (text.length : Int)) = false := decide_eq_false (by omega)
        have q4 : decide (place < e) = false := decide_eq_false (by omega)
        have q5 : decide (s.size < place) = false := decide_eq_false (by omega)
        have HS6 := Lib.hid s6
        have HS5 := Lib.hid s5
        clear hem s3 s4 s5 s6
        go_wp2
        have hBn : Below w2.heap.size w2 (wr.alloc (.cells #[.int .i64 kind, .string ⟨text.toArray⟩, .int .u64 num, .int .i64 (place : Int)] 31)) := Below.alloc hwr hwr.size _
        go_quiet ((go_at_call 14; exact quiet_eq (HEM.out _)))
        have hBq := below_dn hBn nq
        have z0 : (World.drewN (wr.alloc (.cells #[.int .i64 kind, .string ⟨text.toArray⟩, .int .u64 num, .int .i64 (place : Int)] 31)) nq).cell? ⟨wr.heap.size, 0, none⟩ = some (.int .i64 kind) := by go_simp
        have z1 : (World.drewN (wr.alloc (.cells #[.int .i64 kind, .string ⟨text.toArray⟩, .int .u64 num, .int .i64 (place : Int)] 31)) nq).cell? ⟨wr.heap.size, 1, none⟩ = some (.string ⟨text.toArray⟩) := by go_simp
        have z3 : (World.drewN (wr.alloc (.cells #[.int .i64 kind, .string ⟨text.toArray⟩, .int .u64 num, .int .i64 (place : Int)] 31)) nq).cell? ⟨wr.heap.size, 3, none⟩ = some (.int .i64 (place : Int)) := by go_simp
        generalize World.drewN _ nq = W9 at *
        clear hBn hgw e0 e1 e2 e3 q1 q2 q3 q4 q5 HEM
        have hwrap : (place : Int) + (text.length : Int) ≤ 65536 := by omega
        have s2' := Lib.hid s2
        by_cases hT : text = []
        · subst hT
          obtain ⟨rfl, h5⟩ := HS5.out rfl
          clear HS5 hx s2 hwrap
          by_cases hp : place < s.size
          · have h6 := h5 hp
            have h7 : s[place] = 10 := by
              have : (bl s)[place]? = some s[place] := by
                rw [List.getElem?_eq_getElem (by rw [bl_len]; exact hp)]; rfl
              rw [this] at h6
              exact Option.some.inj h6
            have t10 : (((s[place]).toNat : Int) == 10) = true := by rw [byte_is s[place] 10 10 (by decide)]; simp [h7]
            have hp1 : decide (place < s.size) = true := decide_eq_true hp
            clear h5 h6 h7
            go_wp2
            exact ⟨⟨k + 1, place, by omega, by go_num, rfl, s2'.out, Lib.hid HS6.out, hBq⟩, by simp [intOf]; omega⟩
          · have hp1 : decide (place < s.size) = false := decide_eq_false hp
            have hpl : (place : Int) ≤ 65536 := by
              have h8 : place + 0 ≤ s.size := s2'.out
              omega
            clear h5
            go_wp2
            exact ⟨⟨k + 1, place, by omega, by go_num, rfl, s2'.out, Lib.hid HS6.out, hBq⟩, by simp [intOf]; omega⟩
        · have hTe : text.isEmpty = false := by simpa using hT
          clear HS5 hx s2
          go_wp2
          exact ⟨⟨k + 1, place + text.length, by omega, by go_num, by go_num, s2'.out, HS6, hBq⟩, by simp [intOf]; omega⟩
      · obtain rfl : k = ts.length := by omega
        have hE : (runE false (bl (s.extract e s.size))).isSome = true := by
          have h1 := HS.out
          rw [List.drop_length] at h1
          rw [bl_from]; exact h1
        have HE := Lib.hid (fun w1 => empty_c (s.extract e s.size) (by unfold maxLen; rw [ByteArray.size_extract]; omega) w1 hE)
        clear hE HS
        go_wp2_with fail
        refine (HE.out _).mono ?_
        rintro e w' ⟨rfl, rfl⟩
        go_wp2
        go_ret
        exact ⟨rfl, below_two hB hwr⟩
end Go.Proofs.YtihdjofihdgigaaDoor
