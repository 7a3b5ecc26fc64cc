/- The walk of the law ScanCuts: it returns true for every input, where the listed variables hold what they are laid with. -/
import Derived.Test.YtihdjofihdgigaaDoorVg
import Derived.Test.YtihdjofihdgigaaDoorTl
namespace Go.Proofs.YtihdjofihdgigaaDoor
open Go.RowKit
set_option linter.unusedSimpArgs false
set_option linter.unusedVariables false

set_option maxRecDepth 100000 in
set_option maxHeartbeats 4000000 in
theorem walkScanCuts (s : ByteArray) (n0 : Int) (hs : s.size ≤ maxLen) (h0 : 0 ≤ n0) (h1 : n0 ≤ 65535) (w : World) (h : Laid w) :
    Calls Tryd.prog 5 #[.string s, .int .u16 n0] w fun e w' => e = .returned (.bool true) ∧ Below w.heap.size w w' := by
  obtain ⟨q, rfl⟩ : ∃ q : Nat, n0 = q := ⟨n0.toNat, by omega⟩
  have HA := Lib.hid (fun w1 h1 => answers_c w1 h1)
  have HT := Lib.hid (fun s w1 h1 => tokens_c s w1 h1)
  have T1 := Lib.hid (tokens_c s w h hs)
  have HC := Lib.hid (tokens_cut (bl s))
  have HPB := Lib.hid (tokens_pb (bl s))
  have HL := Lib.hid (bl_len s)
  go_enter Tryd.func5, Tryd.ntmps5
  go_wp2_with fail
  refine T1.out.mono ?_
  rintro e w1 ⟨hp, hw1⟩
  obtain ⟨v, i, c, rfl, hv⟩ := tok_open hp
  have hl1 := h.below hw1
  clear hp T1 h
  go_wp2_with fail
  refine (HA.out _ hl1).mono ?_
  rintro e w2 ⟨rfl, hw2⟩
  have hv2 := tokV_below hv hw2
  have hl2 := hl1.below hw2
  have hB2 := below_two hw1 hw2
  clear hv hw1 hw2 hl1
  cases hR : tokensP (bl s) with
  | error pc =>
    obtain ⟨p, cc⟩ := pc
    rw [hR] at hv2
    obtain ⟨rfl, rfl, rfl⟩ := hv2
    have hcb : (c != 0) = true := by simpa using tokens_err _ _ _ hR
    clear hR HC HT
    go_wp2_with fail
    refine (HA.out _ hl2).mono ?_
    rintro e w3 ⟨rfl, hw3⟩
    go_wp2
    go_ret
    exact ⟨rfl, below_two hB2 hw3⟩
  | ok ts =>
    rw [hR] at hv2
    obtain ⟨rfl, rfl, hown⟩ := hv2
    have h16 := tokens_len _ ts hR
    have hat := tokAt_of hown
    have hlen := len_own hown
    have HC1 := Lib.hid (HC.out ts hR)
    rw [hR] at HPB
    clear hown hR HC
    by_cases hn0 : ts.length = 0
    · have hb0 : ((ts.length : Int) == 0) = true := by rw [hn0]; rfl
      clear HC1 HT hat
      go_wp2_with fail
      refine (HA.out _ hl2).mono ?_
      rintro e w3 ⟨rfl, hw3⟩
      go_wp2
      go_ret
      exact ⟨rfl, below_two hB2 hw3⟩
    · have hb0 : ((ts.length : Int) == 0) = false := by rw [beq_eq_false_iff_ne]; omega
      rcases hat with ⟨rfl, -⟩ | ⟨g, cap, rfl, hcap, hgs, hcell⟩
      · exact absurd rfl hn0
      obtain ⟨k, hkq⟩ : ∃ k, k = q % ts.length := ⟨_, rfl⟩
      have hk : k < ts.length := by rw [hkq]; exact Nat.mod_lt _ (by omega)
      have hrem : ((q : Int).tmod (ts.length : Int)) = (k : Int) := by rw [hkq]; rfl
      have hrem2 : ((q : Int) % (ts.length : Int)) = (k : Int) := by rw [hkq]; rfl
      have hki : (k : Int) < (ts.length : Int) := by omega
      have hni : ¬ ((ts.length : Int) = 0) := by omega
      obtain ⟨-, c1, -, c3⟩ := hcell k hk
      clear hkq hn0 hlen
      by_cases hT : (ts[k]).text = []
      · rw [hT] at c1
        clear HC1 HT hcell hT
        generalize (ts[k]).place = P at *
        go_wp2
        go_ret
        exact ⟨rfl, hB2⟩
      · have hTe : ((ts[k]).text).isEmpty = false := by simpa using hT
        obtain ⟨hP, ⟨bs, hbs, hmap⟩, sem, hsem, hse⟩ := HC1.out k hk hT
        rw [HL.out] at hP
        have hlb : bs.length + k = ts.length := by
          have := congrArg List.length hmap
          rw [List.length_map, List.length_drop] at this; omega
        have hel : ∀ j (hj : j < bs.length), ts[k + j]'(by omega) = shT (ts[k]).place bs[j] := by
          intro j hj
          have e1 : (ts.drop k)[j]? = some (ts[k + j]'(by omega)) := by rw [List.getElem?_drop]; exact List.getElem?_eq_getElem _
          rw [← hmap, List.getElem?_map, List.getElem?_eq_getElem hj] at e1
          exact (Option.some.inj e1).symm
        have hpl : ∀ j (hj : j < bs.length), (bs[j]).place + (ts[k]).place ≤ 65536 := by
          intro j hj
          have h1 := HPB.out (ts[k + j]'(by omega)) (List.getElem_mem _)
          rw [hel j hj] at h1; exact h1
        have hat2 : TokAt w2 (.slice (some ⟨g, 0, none⟩) ts.length cap) ts := .inr ⟨g, cap, rfl, hcap, hgs, hcell⟩
        have HEL := Lib.hid hel
        have HPL := Lib.hid hpl
        clear hel hpl hmap HC1 HPB hT hcell
        generalize (ts[k]).place = P at *
        generalize (ts[k]).text = TX at *
        have zP : (s.extract P s.size).size ≤ maxLen := by rw [← bl_len, bl_from, List.length_drop, bl_len]; omega
        have z0 : (s.extract 0 P).size ≤ maxLen := by rw [← bl_len, bl_upto, List.length_take, bl_len]; omega
        have T8 := HT.out (s.extract P s.size) w2 hl2 zP
        rw [bl_from, hbs] at T8
        have T18 := fun W hW => HT.out (s.extract 0 P) W hW z0
        rw [bl_upto, hsem] at T18
        have H8 := Lib.hid T8
        have H18 := Lib.hid T18
        have hPi : (P : Int) ≤ (s.size : Int) := by omega
        clear T8 T18 zP z0 hbs hsem HT HL
        go_wp2_with fail
        refine H8.out.mono ?_
        rintro e w3 ⟨⟨vb, rfl, hob, -⟩, hw3⟩
        have hl3 := hl2.below hw3
        have hatb := tokAt_of hob
        have hat3 := tokAt_below hat2 hw3
        have hB3 := below_two hB2 hw3
        clear hob hat2 hw3 hl2 hB2 H8 c1 c3
        rcases hatb with ⟨rfl, -⟩ | ⟨gb, capb, rfl, hcapb, hgsb, hcellb⟩
        · simp at hlb; omega
        have hsub : (ts.length : Int) - (k : Int) = (bs.length : Int) := by omega
        have hbs16 : bs.length ≤ 16384 := by omega
        go_wp2
        go_loopw [13] (fun i wr => ∃ j : Nat, j ≤ bs.length ∧ i = .int .i64 ((k + j : Nat) : Int) ∧ Below w3.heap.size w3 wr) (fun i _ => ts.length - (intOf i).toNat)
        case atStart => exact ⟨0, by omega, rfl, Below.refl _ _⟩
        case round =>
          obtain ⟨j, hj, rfl, hwr⟩ := hrel
          by_cases hlt : j < bs.length
          · rcases hat3 with ⟨rfl, -⟩ | ⟨g', cap', heq, -, hg3, hcell3⟩
            · exact absurd hk (by simp)
            obtain ⟨rfl, rfl⟩ : g = g' ∧ cap = cap' := by cases heq; exact ⟨rfl, rfl⟩
            obtain ⟨a0, a1, a2, a3⟩ := hcell3 (k + j) (by omega)
            rw [HEL.out j hlt] at a0 a1 a2 a3
            obtain ⟨b0, b1, b2, b3⟩ := hcellb j hlt
            have hpl := HPL.out j hlt
            simp only [shT] at a0 a1 a2 a3
            obtain ⟨hwc, -⟩ := bcell hwr
            have e0 := (hwc _ ((k + j) * 4) hg3).trans a0
            have e1 := (hwc _ ((k + j) * 4 + 1) hg3).trans a1
            have e2 := (hwc _ ((k + j) * 4 + 2) hg3).trans a2
            have e3 := (hwc _ ((k + j) * 4 + 3) hg3).trans a3
            have f0 := (hwc _ (j * 4) hgsb).trans b0
            have f1 := (hwc _ (j * 4 + 1) hgsb).trans b1
            have f2 := (hwc _ (j * 4 + 2) hgsb).trans b2
            have f3 := (hwc _ (j * 4 + 3) hgsb).trans b3
            have hgw : g < wr.heap.size := Nat.lt_of_lt_of_le hg3 hwr.size
            have hgw3 : gb < wr.heap.size := Nat.lt_of_lt_of_le hgsb hwr.size
            clear a0 a1 a2 a3 b0 b1 b2 b3 hcell3 hcellb hwc HEL HPL heq
            generalize bs[j] = t at *
            obtain ⟨kind, text, num, place⟩ := t
            simp only [] at e0 e1 e2 e3 f0 f1 f2 f3 hpl
            obtain ⟨m, hm⟩ : ∃ m, m = k + j := ⟨_, rfl⟩
            rw [← hm] at e0 e1 e2 e3 ⊢
            have hmk : (m : Int) - (k : Int) = (j : Int) := by omega
            have hm1 : (m : Int) < (ts.length : Int) := by omega
            have hm16 : m ≤ 16384 := by omega
            have hj1 : (j : Int) < (bs.length : Int) := by omega
            have HM := Lib.hid hm
            clear hm
            go_wp2
            have hBn : Below w3.heap.size w3 (wr.alloc (.cells #[.int .i64 kind, .string ⟨text.toArray⟩, .int .u64 num, .int .i64 (place : Int)] 31)) := Below.alloc hwr hwr.size _
            go_quiet (fail)
            have hBq := below_dn hBn nq
            generalize World.drewN _ nq = W9 at *
            go_wp2
            exact ⟨⟨j + 1, by omega, by rw [← Nat.add_assoc, ← HM.out]; go_num, hBq⟩, by simp [intOf]; omega⟩
          · obtain rfl : j = bs.length := by omega
            have hend : k + bs.length = ts.length := by omega
            have hl4 := hl3.below hwr
            have hat4 := tokAt_below hat3 hwr
            have hB4 := below_two hB3 hwr
            clear hcellb hat3 HEL HPL hwr hlt hl3 hB3 hj
            rw [hend]
            have q1 : decide ((ts.length : Int) < (ts.length : Int)) = false := decide_eq_false (by omega)
            go_wp2_with fail
            refine (H18.out _ hl4).mono ?_
            rintro e w5 ⟨⟨va, rfl, hoa, -⟩, hw5⟩
            have hB5 := below_two hB4 hw5
            have hat5 := tokAt_cut (tokAt_below hat4 hw5) k (by omega)
            have hata := tokAt_of hoa
            have hlena := len_own hoa
            have hkt : (ts.take k).length = k := by rw [List.length_take]; omega
            clear hoa hw5 hat4 hl4 hB4 H18 hend
            have hkc : k ≤ cap := by omega
            have htk : (ts.take k ++ sem).take k = ts.take k := by rw [List.take_append_of_le_length (by omega), List.take_take, Nat.min_self]
            have hsl : sem.length ≤ 1 := by rcases hse with rfl | rfl <;> simp
            obtain ⟨va', hsa, hta⟩ := tokAt_slice hata k (by rw [List.length_append]; omega) (by rw [List.length_append]; omega)
            rw [htk] at hta
            have HS : Hid (∀ n, Calls Tryd.prog 13 #[va', .slice (some ⟨g, 0, none⟩) k cap] (w5.drewN n) fun e w'' => e = .returned (.bool true) ∧ ∃ m, w'' = w5.drewN m) :=
              Lib.hid (fun n => (rsame_any _ _ (ts.take k) _ (tokAt_drew hta n) (tokAt_drew hat5 n) (by omega)).mono fun e w'' ⟨e1, m, e2⟩ => ⟨e1, n + m, by rw [e2, World.drewN_drewN]⟩)
            have hk0 : k ≤ 16384 := by omega
            clear htk hta hat5 hsl
            rcases hse with rfl | rfl
            · rw [List.append_nil, hkt] at hlena
              have r1 : decide ((k : Int) < (k : Int)) = false := decide_eq_false (by omega)
              have r2 : decide ((k : Int) + 1 < (k : Int)) = false := decide_eq_false (by omega)
              clear hata hkt
              go_wp2
              go_quiet ((go_at_call 13; exact HS.out _))
              have hBq := below_dn hB5 nq
              go_wp2
              go_ret
              exact ⟨rfl, hBq⟩
            · rw [List.length_append, hkt, List.length_singleton] at hlena
              have r1 : decide (((k + 1 : Nat) : Int) < (k : Int)) = false := decide_eq_false (by omega)
              have r2 : decide ((k : Int) + 1 < ((k + 1 : Nat) : Int)) = false := decide_eq_false (by omega)
              have r4 : decide ((k : Int) + 1 < (k : Int)) = false := decide_eq_false (by omega)
              have r5 : decide (k + 1 < k) = false := decide_eq_false (by omega)
              have r6 : ¬ (k + 1 < k) := by omega
              have r3 : (((k + 1 : Nat) : Int) == (k : Int)) = false := by rw [beq_eq_false_iff_ne]; omega
              rcases hata with ⟨h, -⟩ | ⟨ga, capa, rfl, hca, hga, hcella⟩
              · exact absurd h (by simp)
              obtain ⟨s0, s1, s2, s3⟩ := hcella k (by rw [List.length_append, hkt, List.length_singleton]; omega)
              have hsk : (ts.take k ++ [semiTok P])[k]'(by rw [List.length_append, hkt, List.length_singleton]; omega) = semiTok P := by
                rw [List.getElem_append_right (by omega)]; simp [hkt]
              rw [hsk] at s0 s1 s2 s3
              simp only [semiTok] at s0 s1 s2 s3
              rw [List.length_append, hkt, List.length_singleton] at *
              clear hcella hsk hkt
              go_wp2
              go_quiet ((go_at_call 13; exact HS.out _))
              have hBq := below_dn hB5 nq
              go_wp2
              go_ret
              exact ⟨rfl, hBq⟩
end Go.Proofs.YtihdjofihdgigaaDoor
