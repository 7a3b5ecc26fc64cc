/- The evaluator's regions that draw their order: the run in the text's order, and that every other order comes to the same. No program in sight. -/
import Derived.Test.YtakfgbedmglffaaGreatDoorMv
namespace Go.Proofs.YtakfgbedmglffaaGreatDoor
set_option linter.unusedSimpArgs false
set_option linter.unusedVariables false
namespace Ev
open Go.RowKit

section
variable (P : Program) (K : Cfg)
/-- one step of the run in the text's order -/
def Step1 (F : Nat) (ops : Array Oper) (o : Oper) (s s' : Loc) (h h' : Tree AObj) (c c' : Nat) (l : Log) (v : Value) : Prop :=
  s' = s.put o.dst v ∧ ((Region.wanted o (yieldedX ops s) = true ∧ ∃ g, g < F ∧ evOp P K g o (envOf K s) h c = .ok (.val v) h' c' l) ∨
    (Region.wanted o (yieldedX ops s) = false ∧ v = undef ∧ h' = h ∧ c' = c ∧ l = .no))
structure Tr (F : Nat) (ops : Array Oper) (N i : Nat) (done : List (Nat × Log)) (s : Loc) (h : Tree AObj) (c : Nat) (S : Nat → Loc) (H : Nat → Tree AObj) (C : Nat → Nat) (L : Nat → Log) (V : Nat → Value) : Prop where
  s0 : S i = s
  h0 : H i = h
  c0 : C i = c
  step : ∀ k, i ≤ k → k < N → ∃ o, ops[k]? = some o ∧ Step1 P K F ops o (S k) (S (k + 1)) (H k) (H (k + 1)) (C k) (C (k + 1)) (L k) (V k)
  old : ∀ k, i ≤ k → k < N → ∀ x ∈ done, (mk ops k).testBit x.1 = false → NoClash x.2 (L k)
  new : ∀ j k, i ≤ j → j < k → k < N → (mk ops k).testBit j = false → NoClash (L j) (L k)
/-- a wanted operation panics -/
structure PanAt (F : Nat) (ops : Array Oper) (N : Nat) (s : Loc) (h h' : Tree AObj) (c c' : Nat) (o : Oper) (v : Value) (l : Log) : Prop where
  lt : N < ops.size
  op : ops[N]? = some o
  wanted : Region.wanted o (yieldedX ops s) = true
  run : ∃ g, g < F ∧ evOp P K g o (envOf K s) h c = .ok (.pan v) h' c' l
  after : ∀ k, N < k → k < ops.size → (mk ops k).testBit N = true
def QuietTo (ops : Array Oper) (N i : Nat) (done : List (Nat × Log)) (L : Nat → Log) (l : Log) : Prop :=
  (∀ x ∈ done, (mk ops N).testBit x.1 = false → NoClash x.2 l ∧ x.2.w = 0) ∧ ∀ j, i ≤ j → j < N → (mk ops N).testBit j = false → NoClash (L j) l ∧ (L j).w = 0
/-- how the run in the text's order ends -/
def Fin1 (F : Nat) (ops : Array Oper) (N i : Nat) (done : List (Nat × Log)) (x : XE) (s' : Loc) (h' : Tree AObj) (c' : Nat) (S : Nat → Loc) (H : Nat → Tree AObj) (C : Nat → Nat) (L : Nat → Log) : Prop :=
  (N = ops.size ∧ x = .normal ∧ S N = s' ∧ H N = h' ∧ C N = c') ∨ ∃ o v l, x = .panic v (dstsOf ops) ∧ S N = s' ∧ PanAt P K F ops N (S N) (H N) h' (C N) c' o v l ∧ QuietTo ops N i done L l
theorem quietAll_ok {m : Nat} : ∀ {d : List (Nat × Log)}, quietAll m d = true → ∀ x ∈ d, m.testBit x.1 = false → x.2.w = 0
  | [], _, x, hx, _ => by simp at hx
  | (i, k) :: d, h, x, hx, hm => by
    unfold quietAll at h
    rw [Bool.and_eq_true] at h
    rcases List.mem_cons.1 hx with rfl | hx
    · have h1 := h.1
      rw [hm, Bool.false_or] at h1
      exact Nat.eq_of_beq_eq_true h1
    · exact quietAll_ok h.2 x hx hm
theorem draw_trace {ops : Array Oper} (hok : drawOK ops = true) : ∀ (f : Nat) (os : List Oper) (ms : List Nat) (i : Nat) (done : List (Nat × Log)) (s : Loc) (h : Tree AObj) (c : Nat) (x : XE) (s' : Loc) (h' : Tree AObj) (c' : Nat) (l : Log),
    evDraw P K f ops os ms i done s h c = .ok (x, s') h' c' l → os = ops.toList.drop i → ms = (msOf ops).drop i → i ≤ ops.size →
    ∃ N S H C L V, i ≤ N ∧ N ≤ ops.size ∧ Tr P K f ops N i done s h c S H C L V ∧ Fin1 P K f ops N i done x s' h' c' S H C L
  | 0, _, _, _, _, _, _, _, _, _, _, _, _, e, _, _, _ => by unfold evDraw at e; cases e
  | f + 1, os, ms, i, done, s, h, c, x, s', h', c', l, e, hos, hms, hi => by
    unfold evDraw at e
    cases os with
    | nil =>
      obtain ⟨e3, rfl, rfl⟩ := pure_inv e
      cases e3
      have hz := list_end hos
      obtain rfl : i = ops.size := by omega
      exact ⟨ops.size, fun _ => s, fun _ => h', fun _ => c', fun _ => .no, fun _ => undef, by omega, by omega, ⟨rfl, rfl, rfl, fun k h1 h2 => by omega, fun k h1 h2 => by omega, fun j k h1 h2 h3 => by omega⟩, .inl ⟨rfl, rfl, rfl, rfl, rfl⟩⟩
    | cons o os =>
      obtain ⟨g1, g2, g3⟩ := list_split hos
      have hisz : i < ops.size := (Array.getElem?_eq_some_iff.1 g1).1
      cases ms with
      | nil => cases e
      | cons m ms =>
        have hm : (msOf ops)[i]? = some m := by
          have := congrArg (·[0]?) hms
          simpa using this.symm
        have hmk : mk ops i = m := by
          unfold mk
          rw [List.getD_eq_getElem?_getD, hm]; rfl
        have hms' : ms = (msOf ops).drop (i + 1) := by
          have := congrArg List.tail hms
          simpa using this
        have build : ∀ (v : Value) (h1 : Tree AObj) (c1 : Nat) (l0 : Log) (done' : List (Nat × Log)) (hst : Step1 P K (f + 1) ops o s (s.put o.dst v) h h1 c c1 l0 v) (hsub : ∀ y ∈ done, y ∈ done') (hin : l0 = .no ∨ (i, l0) ∈ done') (hcl : ∀ y ∈ done, (mk ops i).testBit y.1 = false → NoClash y.2 l0)
            (hr : ∃ N S H C L V, i + 1 ≤ N ∧ N ≤ ops.size ∧ Tr P K f ops N (i + 1) done' (s.put o.dst v) h1 c1 S H C L V ∧ Fin1 P K f ops N (i + 1) done' x s' h' c' S H C L), ∃ N S H C L V, i ≤ N ∧ N ≤ ops.size ∧ Tr P K (f + 1) ops N i done s h c S H C L V ∧ Fin1 P K (f + 1) ops N i done x s' h' c' S H C L := by
          rintro v h1 c1 l0 done' hst hsub hin hcl ⟨N, S, H, C, L, V, hN1, hN2, T, E⟩
          refine ⟨N, fun k => if k ≤ i then s else S k, fun k => if k ≤ i then h else H k, fun k => if k ≤ i then c else C k, fun k => if k ≤ i then l0 else L k, fun k => if k ≤ i then v else V k, by omega, hN2, ?_, ?_⟩
          · refine ⟨by simp, by simp, by simp, fun k h1' h2' => ?_, fun k h1' h2' y hy hb => ?_, fun j k h1' h2' h3' hb => ?_⟩
            · by_cases e : k = i
              · subst e
                refine ⟨o, g1, ?_⟩
                simp only [Nat.le_refl, if_true, if_neg (show ¬ k + 1 ≤ k by omega), T.s0, T.h0, T.c0]
                exact hst
              · obtain ⟨o', q1, q2, q3⟩ := T.step k (by omega) h2'
                refine ⟨o', q1, ?_⟩
                simp only [if_neg (show ¬ k ≤ i by omega), if_neg (show ¬ k + 1 ≤ i by omega)]
                exact ⟨q2, q3.imp (fun ⟨a, g, b, c⟩ => ⟨a, g, by omega, c⟩) id⟩
            · by_cases e : k = i
              · subst e
                simp only [Nat.le_refl, if_true]
                exact hcl y hy hb
              · simp only [if_neg (show ¬ k ≤ i by omega)]
                exact T.old k (by omega) h2' y (hsub y hy) hb
            · simp only [if_neg (show ¬ k ≤ i by omega)]
              by_cases e : j = i
              · subst e
                simp only [Nat.le_refl, if_true]
                rcases hin with rfl | hin
                · exact (noClash_no _).2
                · exact T.old k (by omega) h3' _ hin hb
              · simp only [if_neg (show ¬ j ≤ i by omega)]
                exact T.new j k (by omega) h2' h3' hb
          · have hn : ¬ N ≤ i := by omega
            rcases E with ⟨q1, q2, q3, q4, q5⟩ | ⟨o', v', l', q1, q2, q3, q4, q5⟩
            · exact .inl ⟨q1, q2, by simp only [if_neg hn]; exact q3, by simp only [if_neg hn]; exact q4, by simp only [if_neg hn]; exact q5⟩
            · refine .inr ⟨o', v', l', q1, by simp only [if_neg hn]; exact q2, ?_, fun y hy hb => q4 y (hsub y hy) hb, fun j h1' h2' hb => ?_⟩
              · simp only [if_neg hn]
                obtain ⟨g, b1, b2⟩ := q3.run
                exact ⟨q3.lt, q3.op, q3.wanted, ⟨g, by omega, b2⟩, q3.after⟩
              · by_cases e : j = i
                · subst e
                  simp only [Nat.le_refl, if_true]
                  rcases hin with rfl | hin
                  · exact ⟨(noClash_no _).2, rfl⟩
                  · exact q4 _ hin hb
                · simp only [if_neg (show ¬ j ≤ i by omega)]
                  exact q5 j (by omega) h2' hb
        dsimp only at e
        by_cases hw : Region.wanted o (yieldedX ops s) = true
        · rw [hw] at e
          try dsimp only at e
          cases ev : evOp P K f o (envOf K s) h c with
          | no => rw [ev] at e; cases e
          | ok r h1 c1 l1 =>
            rw [ev] at e
            cases r with
            | val v =>
              dsimp only at e
              by_cases hc : clash m l1 done = true
              · rw [if_pos hc] at e; cases e
              · rw [if_neg hc] at e
                cases ed : evDraw P K f ops os ms (i + 1) ((i, l1) :: done) (s.put o.dst v) h1 c1 with
                | no => rw [ed] at e; cases e
                | ok q2 h2 c2 l2 =>
                  obtain ⟨x2, s2⟩ := q2
                  rw [ed] at e
                  cases e
                  exact build v h1 c1 l1 ((i, l1) :: done) ⟨rfl, .inl ⟨hw, f, by omega, ev⟩⟩ (fun y hy => by simp [hy]) (.inr (by simp)) (fun y hy hb => clash_false (by simpa using hc) y hy (by rw [← hmk]; exact hb))
                    (draw_trace hok f os ms (i + 1) _ _ _ _ _ _ _ _ _ ed g2 hms' (by omega))
            | pan v =>
              dsimp only at e
              by_cases hc : clash m l1 done = true
              · rw [if_pos hc] at e; cases e
              · rw [if_neg hc] at e
                by_cases hq : (quietAll m done && ms.all fun k => k.testBit i) = true
                · rw [if_pos hq] at e
                  cases e
                  rw [Bool.and_eq_true] at hq
                  refine ⟨i, fun _ => s, fun _ => h, fun _ => c, fun _ => .no, fun _ => undef, by omega, hi, ⟨rfl, rfl, rfl, fun k h1 h2 => by omega, fun k h1 h2 => by omega, fun j k h1 h2 h3 => by omega⟩, .inr ⟨o, v, l1, rfl, rfl, ⟨hisz, g1, hw, ⟨f, by omega, ev⟩, fun k h1' h2' => ?_⟩, fun y hy hb => ?_, fun j h1' h2' => by omega⟩⟩
                  · have h3 : mk ops k ∈ ms := by
                      rw [hms']
                      have hok' := (drawOK_ok hok (k := k) (o := ops[k]) (Array.getElem?_eq_getElem h2')).2.1
                      refine List.mem_of_getElem? (i := k - (i + 1)) ?_
                      rw [List.getElem?_drop, show i + 1 + (k - (i + 1)) = k by omega]
                      exact hok'
                    exact List.all_eq_true.1 hq.2 _ h3
                  · rw [hmk] at hb
                    exact ⟨clash_false (by simpa using hc) y hy hb, quietAll_ok hq.1 y hy hb⟩
                · rw [if_neg hq] at e; cases e
            | _ => cases e
        · rw [show Region.wanted o (yieldedX ops s) = false by simpa using hw] at e
          try dsimp only at e
          exact build undef h c .no done ⟨rfl, .inr ⟨by simpa using hw, rfl, rfl, rfl, rfl⟩⟩ (fun y hy => hy) (.inl rfl) (fun y hy hb => (noClash_no _).1)
            (draw_trace hok f os ms (i + 1) _ _ _ _ _ _ _ _ _ e g2 hms' (by omega))
end
end Ev
end Go.Proofs.YtakfgbedmglffaaGreatDoor
