/- A report's five cells, stored and loaded as a whole: laws that the walk takes in one step. -/
import Derived.Test.YthfnjphmodcnoaaDoorEk
namespace Go.Proofs.YthfnjphmodcnoaaDoor
open Go.RowKit
set_option linter.unusedSimpArgs false
set_option linter.unusedVariables false

def set5 (W : World) (b : Nat) (a0 a1 a2 a3 a4 : Value) : World := ((((W.setCell ⟨b, 0, none⟩ a0).setCell ⟨b, 1, none⟩ a1).setCell ⟨b, 2, none⟩ a2).setCell ⟨b, 3, none⟩ a3).setCell ⟨b, 4, none⟩ a4
section
variable {W : World} {b : Nat} {v0 v1 v2 v3 v4 : Value}
theorem RepB.set5 (h : RepB W b v0 v1 v2 v3 v4) (a0 a1 a2 a3 a4 : Value) : RepB (set5 W b a0 a1 a2 a3 a4) b a0 a1 a2 a3 a4 := h.set a0 a1 a2 a3 a4
theorem below_s5 {B : Nat} {w : World} (h : Below B w W) (hB : B ≤ b) (a0 a1 a2 a3 a4 : Value) : Below B w (set5 W b a0 a1 a2 a3 a4) := below_set5 h hB a0 a1 a2 a3 a4
theorem own_s5 {B : Nat} {v : Value} {L : List (List UInt8)} (h : OwnL B W v L) (hb : b < B) (a0 a1 a2 a3 a4 : Value) : OwnL B (set5 W b a0 a1 a2 a3 a4) v L :=
  have one : ∀ (W : World) (o : Nat) (a : Value), OwnL B W v L → OwnL B (W.setCell ⟨b, o, none⟩ a) v L := fun W o a h => own_grown h (set_grown W ⟨b, o, none⟩ a) (fun k' e => by cases e; exact hb)
  one _ _ _ (one _ _ _ (one _ _ _ (one _ _ _ (one _ _ _ h))))
end
set_option maxHeartbeats 1000000 in
theorem wpList_st5 {ops : Array Oper} {rest : List Oper} {ty : TypeId} {pos : String} {after : Array Edge} {x y : Nat} {a : Act} {Q : Exit → Act → World → Prop} {w : World} {b : Nat} {v0 v1 v2 v3 v4 : Value} {p : Option Addr} {n c : Nat} {i1 i2 i3 i4 : Int}
    (hR : RepB w b v0 v1 v2 v3 v4) (hx : a.eval (.tmp x) = .pointer (some ⟨b, 0, none⟩)) (hy : a.eval (.tmp y) = .agg #[.slice p n c, .int .i64 i1, .int .i64 i2, .int .i64 i3, .int .i64 i4])
    (h : wpList Tryd.prog ops Q rest a (set5 w b (.slice p n c) (.int .i64 i1) (.int .i64 i2) (.int .i64 i3) (.int .i64 i4))) : wpList Tryd.prog ops Q (⟨none, .store 39 (.tmp x) (.tmp y), ty, pos, after, none⟩ :: rest) a w := by
  refine wpList_plain rfl fun K hK => ?_
  obtain ⟨m0, m1, m2, m3, m4, n0, n1, n2, n3, n4⟩ := hR.facts
  unfold Oper.wp execOp
  simp only [hx, hy]
  go_simp
  exact hK _ _ h
set_option maxHeartbeats 1000000 in
theorem wpList_ld5 {ops : Array Oper} {rest : List Oper} {ty : TypeId} {pos : String} {after : Array Edge} {d x : Nat} {a : Act} {Q : Exit → Act → World → Prop} {w : World} {b : Nat} {v0 v1 v2 v3 v4 : Value}
    (hR : RepB w b v0 v1 v2 v3 v4) (hx : a.eval (.tmp x) = .pointer (some ⟨b, 0, none⟩))
    (h : wpList Tryd.prog ops Q rest (a.put (some d) (.agg #[v0, v1, v2, v3, v4])) w) : wpList Tryd.prog ops Q (⟨some d, .load 39 (.tmp x), ty, pos, after, none⟩ :: rest) a w := by
  refine wpList_plain rfl fun K hK => ?_
  obtain ⟨m0, m1, m2, m3, m4, n0, n1, n2, n3, n4⟩ := hR.facts
  unfold Oper.wp execOp
  simp only [hx]
  go_simp
  exact hK _ _ h
end Go.Proofs.YthfnjphmodcnoaaDoor
