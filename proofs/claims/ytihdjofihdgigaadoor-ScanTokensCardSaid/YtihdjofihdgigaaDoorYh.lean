/- The walk of the law ScanTokens: it returns true for every input, where the listed variables hold what they are laid with. -/
import Derived.Test.YtihdjofihdgigaaDoorVh
namespace Go.Proofs.YtihdjofihdgigaaDoor
open Go.RowKit
set_option linter.unusedSimpArgs false
set_option linter.unusedVariables false

set_option maxRecDepth 100000 in
set_option maxHeartbeats 2000000 in
theorem walkScanTokens (s : ByteArray) (hs : s.size ≤ maxLen) (w : World) (h : Laid w) :
    Calls Tryd.prog 3 #[.string s] w fun e w' => e = .returned (.bool true) ∧ Below w.heap.size w w' := by
  have T1 := Lib.hid (tokens_c s w h hs)
  have T2 := Lib.hid (fun w1 => rtokens_any s w1 hs)
  have HA := Lib.hid (fun w1 h1 => answers_c w1 h1)
  go_enter Tryd.func3, Tryd.ntmps3
  go_wp2_with fail
  refine T1.out.mono ?_
  rintro e w1 ⟨hp, hw1⟩
  obtain ⟨v, i, c, rfl, hv⟩ := tok_open hp
  have hl1 := h.below hw1
  clear hp T1 h
  go_wp2_with fail
  refine (T2.out _).mono ?_
  rintro e w2 ⟨⟨v2, i2, c2, rfl, hv2⟩, hw2⟩
  have hva := tokV_below hv hw2
  have hl2 := hl1.below hw2
  have hB2 := below_two hw1 hw2
  clear hv hw1 hw2 hl1 T2
  go_wp2_with fail
  refine (HA.out _ hl2).mono ?_
  rintro e w3 ⟨rfl, hw3⟩
  have hv3 := tokV_below hva hw3
  have hv4 := tokV_below hv2 hw3
  have hB3 := below_two hB2 hw3
  clear hva hv2 hw3 hl2 hB2 HA
  cases hR : tokensP (bl s) with
  | error pc =>
    obtain ⟨p, cc⟩ := pc
    rw [hR] at hv3 hv4
    obtain ⟨rfl, rfl, rfl⟩ := hv3
    obtain ⟨rfl, rfl, rfl⟩ := hv4
    clear hR
    go_wp2_with fail
    refine (rsame_any _ _ [] w3 (.inl ⟨rfl, rfl⟩) (.inl ⟨rfl, rfl⟩) (by simp)).mono ?_
    rintro e w4 ⟨rfl, n, rfl⟩
    go_wp2
    go_ret
    exact ⟨rfl, below_dn hB3 n⟩
  | ok ts =>
    rw [hR] at hv3 hv4
    obtain ⟨rfl, rfl, ho1⟩ := hv3
    obtain ⟨rfl, rfl, ho2⟩ := hv4
    have h16 := tokens_len _ ts hR
    clear hR
    go_wp2_with fail
    refine (rsame_any _ _ ts w3 (tokAt_of ho1) (tokAt_of ho2) h16).mono ?_
    rintro e w4 ⟨rfl, n, rfl⟩
    go_wp2
    go_ret
    exact ⟨rfl, below_dn hB3 n⟩
end Go.Proofs.YtihdjofihdgigaaDoor
