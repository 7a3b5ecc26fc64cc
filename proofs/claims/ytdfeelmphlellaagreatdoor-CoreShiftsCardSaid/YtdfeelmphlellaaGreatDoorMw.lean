/- The evaluator's regions that draw their order: the run in the text's order, and that every other order comes to the same. No program in sight. -/
import Derived.Test.YtdfeelmphlellaaGreatDoorMv
namespace Go.Proofs.YtdfeelmphlellaaGreatDoor
set_option linter.unusedSimpArgs false
set_option linter.unusedVariables false
namespace Ev
open Go.RowKit

section
variable (P : Program) (K : Cfg)
/-- one step of the run in the text's order -/
def Step1 (F : Nat) (ops : Array Oper) (o : Oper) (s s' : Loc) (h h' : Tree AObj) (c c' : Nat) (l : Log) (v : Value) : Prop :=
  s' = s.put o.dst v ∧ ((Region.wanted o (yieldedX ops s) = true ∧ ∃ g, g < F ∧ evOp P K g o (envOf K s) h c = .ok (.val v) h' c' l) ∨
    (Region.wanted o (yieldedX ops s) = false ∧ v = undef ∧ h' = h ∧ c' = c ∧ l = .no))
structure Tr (F : Nat) (ops : Array Oper) (i : Nat) (done : List (Nat × Log)) (s s' : Loc) (h h' : Tree AObj) (c c' : Nat) (S : Nat → Loc) (H : Nat → Tree AObj) (C : Nat → Nat) (L : Nat → Log) (V : Nat → Value) : Prop where
  s0 : S i = s
  h0 : H i = h
  c0 : C i = c
  sn : S ops.size = s'
  hn : H ops.size = h'
  cn : C ops.size = c'
  step : ∀ k, i ≤ k → k < ops.size → ∃ o, ops[k]? = some o ∧ Step1 P K F ops o (S k) (S (k + 1)) (H k) (H (k + 1)) (C k) (C (k + 1)) (L k) (V k)
  old : ∀ k, i ≤ k → k < ops.size → ∀ x ∈ done, (mk ops k).testBit x.1 = false → NoClash x.2 (L k)
  new : ∀ j k, i ≤ j → j < k → k < ops.size → (mk ops k).testBit j = false → NoClash (L j) (L k)
theorem draw_trace {ops : Array Oper} (hok : drawOK ops = true) : ∀ (f : Nat) (os : List Oper) (ms : List Nat) (i : Nat) (done : List (Nat × Log)) (s : Loc) (h : Tree AObj) (c : Nat) (x : XE) (s' : Loc) (h' : Tree AObj) (c' : Nat) (l : Log),
    evDraw P K f ops os ms i done s h c = .ok (x, s') h' c' l → os = ops.toList.drop i → ms = (msOf ops).drop i → i ≤ ops.size →
    x = .normal ∧ ∃ S H C L V, Tr P K f ops i done s s' h h' c c' S H C L V
  | 0, _, _, _, _, _, _, _, _, _, _, _, _, e, _, _, _ => by unfold evDraw at e; cases e
  | f + 1, os, ms, i, done, s, h, c, x, s', h', c', l, e, hos, hms, hi => by
    unfold evDraw at e
    cases os with
    | nil =>
      obtain ⟨e3, rfl, rfl⟩ := pure_inv e
      cases e3
      have hz := list_end hos
      obtain rfl : i = ops.size := by omega
      exact ⟨rfl, fun _ => s, fun _ => h', fun _ => c', fun _ => .no, fun _ => undef, rfl, rfl, rfl, rfl, rfl, rfl, fun k h1 h2 => by omega, fun k h1 h2 => by omega, fun j k h1 h2 h3 => by omega⟩
    | cons o os =>
      obtain ⟨g1, g2, g3⟩ := list_split hos
      cases ms with
      | nil => cases e
      | cons m ms =>
        have hm : (msOf ops)[i]? = some m := by
          have := congrArg (·[0]?) hms
          simpa using this.symm
        have hmk : mk ops i = m := by
          unfold mk
          rw [List.getD_eq_getElem?_getD, hm]; rfl
        have hms' : ms = (msOf ops).drop (i + 1) := by
          have := congrArg List.tail hms
          simpa using this
        have build : ∀ (v : Value) (h1 : Tree AObj) (c1 : Nat) (l0 : Log) (done' : List (Nat × Log)) (hst : Step1 P K (f + 1) ops o s (s.put o.dst v) h h1 c c1 l0 v) (hsub : ∀ y ∈ done, y ∈ done') (hin : l0 = .no ∨ (i, l0) ∈ done') (hcl : ∀ y ∈ done, (mk ops i).testBit y.1 = false → NoClash y.2 l0)
            (hr : x = .normal ∧ ∃ S H C L V, Tr P K f ops (i + 1) done' (s.put o.dst v) s' h1 h' c1 c' S H C L V), x = .normal ∧ ∃ S H C L V, Tr P K (f + 1) ops i done s s' h h' c c' S H C L V := by
          rintro v h1 c1 l0 done' hst hsub hin hcl ⟨rfl, S, H, C, L, V, T⟩
          refine ⟨rfl, fun k => if k ≤ i then s else S k, fun k => if k ≤ i then h else H k, fun k => if k ≤ i then c else C k, fun k => if k ≤ i then l0 else L k, fun k => if k ≤ i then v else V k, ?_⟩
          have hn : ¬ ops.size ≤ i := by omega
          refine ⟨by simp, by simp, by simp, by simp only [if_neg hn]; exact T.sn, by simp only [if_neg hn]; exact T.hn, by simp only [if_neg hn]; exact T.cn, fun k h1' h2' => ?_, fun k h1' h2' y hy hb => ?_, fun j k h1' h2' h3' hb => ?_⟩
          · by_cases e : k = i
            · subst e
              refine ⟨o, g1, ?_⟩
              simp only [Nat.le_refl, if_true, if_neg (show ¬ k + 1 ≤ k by omega), T.s0, T.h0, T.c0]
              exact hst
            · obtain ⟨o', q1, q2, q3⟩ := T.step k (by omega) h2'
              refine ⟨o', q1, ?_⟩
              simp only [if_neg (show ¬ k ≤ i by omega), if_neg (show ¬ k + 1 ≤ i by omega)]
              exact ⟨q2, q3.imp (fun ⟨a, g, b, c⟩ => ⟨a, g, by omega, c⟩) id⟩
          · by_cases e : k = i
            · subst e
              simp only [Nat.le_refl, if_true]
              exact hcl y hy hb
            · simp only [if_neg (show ¬ k ≤ i by omega)]
              exact T.old k (by omega) h2' y (hsub y hy) hb
          · simp only [if_neg (show ¬ k ≤ i by omega)]
            by_cases e : j = i
            · subst e
              simp only [Nat.le_refl, if_true]
              rcases hin with rfl | hin
              · exact (noClash_no _).2
              · exact T.old k (by omega) h3' _ hin hb
            · simp only [if_neg (show ¬ j ≤ i by omega)]
              exact T.new j k (by omega) h2' h3' hb
        dsimp only at e
        by_cases hw : Region.wanted o (yieldedX ops s) = true
        · rw [hw] at e
          try dsimp only at e
          cases ev : evOp P K f o (envOf K s) h c with
          | no => rw [ev] at e; cases e
          | ok r h1 c1 l1 =>
            rw [ev] at e
            cases r with
            | val v =>
              dsimp only at e
              by_cases hc : clash m l1 done = true
              · rw [if_pos hc] at e; cases e
              · rw [if_neg hc] at e
                cases ed : evDraw P K f ops os ms (i + 1) ((i, l1) :: done) (s.put o.dst v) h1 c1 with
                | no => rw [ed] at e; cases e
                | ok q2 h2 c2 l2 =>
                  obtain ⟨x2, s2⟩ := q2
                  rw [ed] at e
                  cases e
                  exact build v h1 c1 l1 ((i, l1) :: done) ⟨rfl, .inl ⟨hw, f, by omega, ev⟩⟩ (fun y hy => by simp [hy]) (.inr (by simp)) (fun y hy hb => clash_false (by simpa using hc) y hy (by rw [← hmk]; exact hb))
                    (draw_trace hok f os ms (i + 1) _ _ _ _ _ _ _ _ _ ed g2 hms' (by omega))
            | _ => cases e
        · rw [show Region.wanted o (yieldedX ops s) = false by simpa using hw] at e
          try dsimp only at e
          exact build undef h c .no done ⟨rfl, .inr ⟨by simpa using hw, rfl, rfl, rfl, rfl⟩⟩ (fun y hy => hy) (.inl rfl) (fun y hy hb => (noClash_no _).1)
            (draw_trace hok f os ms (i + 1) _ _ _ _ _ _ _ _ _ e g2 hms' (by omega))
end
end Ev
end Go.Proofs.YtdfeelmphlellaaGreatDoor
