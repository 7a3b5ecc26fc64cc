/- Contract of the reference's SameTokens at two lists of the same tokens. -/
import Derived.Test.YtihdjofihdgigaaDoorUm
import Derived.Test.YtihdjofihdgigaaDoorYd
namespace Go.Proofs.YtihdjofihdgigaaDoor
open Go.RowKit
set_option linter.unusedSimpArgs false
set_option linter.unusedVariables false

/-- a list of tokens in memory: none, or its cells -/
def TokAt (w : World) (v : Value) (ts : List Tok) : Prop :=
  (ts = [] ∧ v = .slice none 0 0) ∨ ∃ g cap, v = .slice (some ⟨g, 0, none⟩) ts.length cap ∧ ts.length ≤ cap ∧ g < w.heap.size ∧ ∀ (k : Nat) (hk : k < ts.length),
    w.cell? ⟨g, k * 4, none⟩ = some (.int .i64 (ts[k]).kind) ∧ w.cell? ⟨g, k * 4 + 1, none⟩ = some (.string ⟨(ts[k]).text.toArray⟩) ∧ w.cell? ⟨g, k * 4 + 2, none⟩ = some (.int .u64 (ts[k]).num) ∧ w.cell? ⟨g, k * 4 + 3, none⟩ = some (.int .i64 ((ts[k]).place : Int))
theorem tokAt_len {w : World} {v : Value} {ts : List Tok} (h : TokAt w v ts) : ∀ W, (Builtin.len_ #[22] 3 #[v]).run Tryd.prog W = .ok (.int .i64 (ts.length : Int)) W := by
  intro W
  rcases h with ⟨rfl, rfl⟩ | ⟨g, cap, rfl, -⟩
  · kernel_rfl
  · go_simp
theorem tokAt_of {w : World} {b : Nat} {v : Value} {ts : List Tok} (h : w.ownsRow b 31 4 v ts.length (flatT ts)) : TokAt w v ts := by
  by_cases hne : ts = []
  · subst hne
    rcases h.2 with ⟨rfl, -⟩ | ⟨g, cap, cur, rfl, -, hg, -⟩
    · exact .inl ⟨rfl, rfl⟩
    · exact .inr ⟨g, cap, rfl, Nat.zero_le _, (Array.getElem?_eq_some_iff.1 hg).1, fun k hk => absurd hk (by simp)⟩
  · obtain ⟨g, cap, rfl, -, hgs, hc⟩ := own_cells h hne
    have : ts.length ≤ cap := by
      rcases h.2 with ⟨h1, -⟩ | ⟨g', cap', cur, h1, -, -, h2, -⟩
      · cases h1
      · cases h1; exact h2
    exact .inr ⟨g, cap, rfl, this, hgs, hc⟩
theorem tokAt_below {a b : World} {v : Value} {ts : List Tok} (h : TokAt a v ts) (hb : Below a.heap.size a b) : TokAt b v ts := by
  rcases h with h | ⟨g, cap, h1, h2, h3, h4⟩
  · exact .inl h
  · have hc := (bcell hb).1
    exact .inr ⟨g, cap, h1, h2, Nat.lt_of_lt_of_le h3 hb.size, fun k hk => ⟨(hc _ _ h3).trans (h4 k hk).1, (hc _ _ h3).trans (h4 k hk).2.1, (hc _ _ h3).trans (h4 k hk).2.2.1, (hc _ _ h3).trans (h4 k hk).2.2.2⟩⟩
theorem tokAt_drew {w : World} {v : Value} {ts : List Tok} (h : TokAt w v ts) (n : Nat) : TokAt (w.drewN n) v ts := tokAt_below h (below_dn (Below.refl _ _) n)
theorem tokAt_cut {w : World} {g n cap : Nat} {ts : List Tok} (h : TokAt w (.slice (some ⟨g, 0, none⟩) n cap) ts) (k : Nat) (hk : k ≤ ts.length) : TokAt w (.slice (some ⟨g, 0, none⟩) k cap) (ts.take k) := by
  rcases h with ⟨-, h⟩ | ⟨g2, cap2, h1, h2, h3, h4⟩
  · cases h
  · cases h1
    refine .inr ⟨g, cap, ?_, ?_, h3, ?_⟩
    · rw [List.length_take, Nat.min_eq_left hk]
    · rw [List.length_take]; omega
    · intro j hj
      rw [List.length_take] at hj
      have := h4 j (by omega)
      simpa only [List.getElem_take] using this
theorem tokAt_slice {w : World} {v : Value} {ts : List Tok} (h : TokAt w v ts) (k : Nat) (hk : k ≤ ts.length) (h16 : ts.length ≤ 16385) :
    ∃ v', (∀ W, (Instr.slice 22 v none (some (.int .i64 (k : Int))) none).run Tryd.prog W = .ok v' W) ∧ TokAt w v' (ts.take k) := by
  rcases h with ⟨rfl, rfl⟩ | ⟨g, cap, rfl, h2, h3, h4⟩
  · obtain rfl : k = 0 := by simpa using hk
    exact ⟨.slice none 0 0, fun W => by go_simp, .inl ⟨rfl, rfl⟩⟩
  · have hkc : k ≤ cap := Nat.le_trans hk h2
    refine ⟨.slice (some ⟨g, 0, none⟩) k cap, fun W => by go_simp, .inr ⟨g, cap, ?_, ?_, h3, ?_⟩⟩
    · rw [List.length_take, Nat.min_eq_left hk]
    · rw [List.length_take]; omega
    · intro j hj
      rw [List.length_take] at hj
      have := h4 j (by omega)
      simpa only [List.getElem_take] using this
set_option maxRecDepth 100000 in
set_option maxHeartbeats 1000000 in
theorem rsame_any (va vb : Value) (ts : List Tok) (w : World) (ha : TokAt w va ts) (hb : TokAt w vb ts) (h16 : ts.length ≤ 16384) :
    Calls Tryd.prog 13 #[va, vb] w fun e w' => e = .returned (.bool true) ∧ ∃ n, w' = w.drewN n := by
  have hla := tokAt_len ha
  have hlb := tokAt_len hb
  go_enter Tryd.func13, Tryd.ntmps13
  go_wp2
  go_loopw [5] (fun i wr => ∃ k n : Nat, k ≤ ts.length ∧ i = .int .i64 k ∧ wr = w.drewN n) (fun i _ => ts.length - (intOf i).toNat)
  case atStart => exact ⟨0, 0, Nat.zero_le _, rfl, (World.drewN_zero w).symm⟩
  case round =>
    obtain ⟨k, n, hk, rfl, rfl⟩ := hrel
    by_cases hlt : k < ts.length
    · rcases ha with ⟨rfl, -⟩ | ⟨g, cap, rfl, hcap, hgs, hcell⟩
      · simp at hlt
      rcases hb with ⟨rfl, -⟩ | ⟨g3, cap3, rfl, hcap3, hgs3, hcell3⟩
      · simp at hlt
      obtain ⟨e0, e1, e2, e3⟩ := hcell k hlt
      obtain ⟨f0, f1, f2, f3⟩ := hcell3 k hlt
      clear hcell hcell3
      generalize ts[k] = t at *
      obtain ⟨kind, text, num, place⟩ := t
      simp only [] at e0 e1 e2 e3 f0 f1 f2 f3
      have hq1 : (k : Int) < (ts.length : Int) := by omega
      have q1 : decide ((k : Int) < (ts.length : Int)) = true := decide_eq_true hq1
      have q2 : decide (k < ts.length) = true := decide_eq_true hlt
      go_wp2
      go_quiet (fail)
      go_wp2
      exact ⟨⟨k + 1, n + nq, by omega, by go_num, rfl⟩, by simp [intOf]; omega⟩
    · obtain rfl : k = ts.length := by omega
      have q1 : decide ((ts.length : Int) < (ts.length : Int)) = false := decide_eq_false (by omega)
      clear ha hb hlt hk
      go_wp2
      go_ret
      exact ⟨rfl, n, rfl⟩
end Go.Proofs.YtihdjofihdgigaaDoor
