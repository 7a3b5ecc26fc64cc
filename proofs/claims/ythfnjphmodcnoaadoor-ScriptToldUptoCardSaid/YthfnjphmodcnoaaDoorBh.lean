/- Steps of a drawn region over a frame that is a variable: each operation by what it does. -/
import Derived.Test.YthfnjphmodcnoaaDoorBd
import Derived.Test.YthfnjphmodcnoaaDoorBe
import Derived.Test.YthfnjphmodcnoaaDoorBf
import Derived.Test.YthfnjphmodcnoaaDoorH
namespace Go.Proofs.YthfnjphmodcnoaaDoor
open Go.RowKit
set_option linter.unusedSimpArgs false
set_option linter.unusedVariables false

theorem ev_put (a : Act) (d i : Nat) (v : Value) (hd : d < a.tmps.size) : (a.put (some d) v).eval (.tmp i) = if d = i then v else a.eval (.tmp i) := by
  show (a.tmps.setIfInBounds d v).getD i undef = if d = i then v else a.tmps.getD i undef
  simp only [Array.getD_eq_getD_getElem?, Array.getElem?_setIfInBounds]
  by_cases h : d = i
  · subst h; simp [hd]
  · simp [h]
theorem sz_put (a : Act) (d : Option Nat) (v : Value) : (a.put d v).tmps.size = a.tmps.size := by
  cases d with
  | none => rfl
  | some d => show (a.tmps.setIfInBounds d v).size = _; simp
theorem ev_none (a : Act) (v : Value) (x : Operand) : (a.put none v).eval x = a.eval x := rfl
section
variable {a : Act} {o : Oper} {w : World} {x y : Operand} {v : Value}
theorem hy_move (ho : o.op = .move x ∨ o.op = .assign x) (hx : a.eval x = v) : (execOp a.eval o).run Tryd.prog w = .ok (.value v) w := by
  rcases ho with ho | ho
  · unfold execOp; simp only [ho, hx]; rfl
  · unfold execOp; simp only [ho, hx]; rfl
theorem hy_ext {vs : Array Value} {i : Nat} (ho : o.op = .extract x i) (hx : a.eval x = .tuple vs) (hv : vs[i]? = some v) : (execOp a.eval o).run Tryd.prog w = .ok (.value v) w := by
  unfold execOp
  simp only [ho, hx, Instr.extract]
  simp [hv]
theorem hy_index {lb j : Nat} (ho : o.op = .indexAddr 25 x y) (hx : a.eval x = .slice (some ⟨lb, 0, none⟩) 4 4) (hy : a.eval y = .int .i64 (j : Int)) (hj : j < 4) : (execOp a.eval o).run Tryd.prog w = .ok (.value (.pointer (some ⟨lb, j, none⟩))) w := by
  have hj1 : (j : Int) < 4 := by omega
  unfold execOp
  simp only [ho, hx, hy]
  go_simp
  try simp [hj]
theorem hy_load {p : Addr} {s : ByteArray} (ho : o.op = .load 9 x) (hx : a.eval x = .pointer (some p)) (hc : w.cell? p = some (.string s)) : (execOp a.eval o).run Tryd.prog w = .ok (.value (.string s)) w := by
  unfold execOp
  simp only [ho, hx]
  go_simp
theorem hy_cat {s1 s2 : ByteArray} (ho : o.op = .binOp .add 9 x y 9) (hx : a.eval x = .string s1) (hy : a.eval y = .string s2) (hl : s1.size + s2.size ≤ 9223372036854775807) : (execOp a.eval o).run Tryd.prog w = .ok (.value (.string (s1 ++ s2))) w := by
  have hl2 : ¬ (9223372036854775807 < s1.size + s2.size) := by omega
  unfold execOp
  simp only [ho, hx, hy]
  go_simp
  try omega
theorem hy_add {n m : Nat} (ho : o.op = .binOp .add 3 x (.const (.int .i64 (m : Int))) 3) (hx : a.eval x = .int .i64 (n : Int)) (hn : n < 4) (hm : m < 4) : (execOp a.eval o).run Tryd.prog w = .ok (.value (.int .i64 ((n + m : Nat) : Int))) w := by
  have hw : IntKind.i64.wrap ((n : Int) + (m : Int)) = ((n + m : Nat) : Int) := by rw [IntKind.wrap_i64]; omega
  have hw2 : wrap64 ((n : Int) + (m : Int)) = ((n + m : Nat) : Int) := by unfold wrap64; omega
  unfold execOp
  simp only [ho, hx, show a.eval (.const (.int .i64 (m : Int))) = .int .i64 (m : Int) from rfl]
  go_simp
  try simp [hw, hw2]
theorem hy_rem {n : Nat} (ho : o.op = .binOp .rem 3 x (.const (.int .i64 4)) 3) (hx : a.eval x = .int .i64 (n : Int)) (hn : n < 8) : (execOp a.eval o).run Tryd.prog w = .ok (.value (.int .i64 ((n % 4 : Nat) : Int))) w := by
  have hw : IntKind.i64.wrap ((n : Int) % 4) = ((n % 4 : Nat) : Int) := by rw [IntKind.wrap_i64]; omega
  have hn0 : (0 : Int) ≤ (n : Int) := by omega
  unfold execOp
  simp only [ho, hx, show a.eval (.const (.int .i64 4)) = .int .i64 4 from rfl]
  go_simp
  try simp
  exact Int.tmod_eq_emod_of_nonneg hn0
theorem pcall : ∀ args w, (callFunc 8 args).run Tryd.prog w = .ok (.enter 8 args) w := enters_of Tryd.func8 (by kernel_rfl) rfl
set_option maxRecDepth 20000 in
theorem wpc_parse {K : Act → World → Prop} {Q : Exit → Act → World → Prop} (ho : o.op = .call { callee := .value (.func 8), args := #[x], argTypes := #[9] }) (hx : a.eval x = v)
    (h : Calls Tryd.prog 8 #[v] w fun e w' => ∃ r, e = .returned r ∧ K (a.put o.dst r) w') : o.wp Tryd.prog a w K Q := by
  unfold Oper.wp
  have he : (execOp a.eval o).run Tryd.prog w = .ok (.enter 8 #[v]) w := by
    unfold execOp
    have hm : Array.map a.eval #[x] = #[v] := by simp [hx]
    simp only [ho, resolve, hm]
    go_simp
  rw [he, Oper.upon_enter]
  refine h.mono ?_
  rintro e w' ⟨r, rfl, hK⟩
  exact hK
theorem wpa_sc {K : Act → World → Prop} {Q : Exit → Act → World → Prop} (ho : o.op = .alloc 27) (h : K (a.put o.dst (.pointer (some ⟨w.heap.size, 0, none⟩))) (w.alloc (.cells #[.slice none 0 0, .int .i64 0, .int .i64 0, .int .i64 0] 27))) : o.wp Tryd.prog a w K Q := by
  unfold Oper.wp execOp
  simp only [ho]
  go_simp
  exact h
theorem wps_sc {K : Act → World → Prop} {Q : Exit → Act → World → Prop} {b : Nat} {p : Option Addr} {n c : Nat} {f1 c1 e1 : Int} (ho : o.op = .store 27 x y) (hx : a.eval x = .pointer (some ⟨b, 0, none⟩)) (hy : a.eval y = .agg #[.slice p n c, .int .i64 f1, .int .i64 c1, .int .i64 e1]) (hR : R0 w b)
    (h : K (a.put o.dst undef) ((((w.setCell ⟨b, 0, none⟩ (.slice p n c)).setCell ⟨b, 1, none⟩ (.int .i64 f1)).setCell ⟨b, 2, none⟩ (.int .i64 c1)).setCell ⟨b, 3, none⟩ (.int .i64 e1))) : o.wp Tryd.prog a w K Q := by
  obtain ⟨q0, q1, q2, q3, g0, g1, g2, g3⟩ := hR.facts
  unfold Oper.wp execOp
  simp only [ho, hx, hy]
  go_simp
  exact h
end
theorem put_comm15 (d0 : Nat) (a : Act) (d : Nat) (p v : Value) (h : d ≠ d0) : (a.put (some d0) p).put (some d) v = (a.put (some d) v).put (some d0) p := by
  show (⟨(a.tmps.setIfInBounds d0 p).setIfInBounds d v, a.defers⟩ : Act) = ⟨(a.tmps.setIfInBounds d v).setIfInBounds d0 p, a.defers⟩
  congr 1
  apply Array.ext_getElem?
  intro i
  simp only [Array.getElem?_setIfInBounds, Array.size_setIfInBounds]
  by_cases h1 : d = i
  · subst h1
    have : ¬ d0 = d := fun e => h e.symm
    simp [this]
  · simp [h1]
theorem R0.new (w : World) : R0 (w.alloc (.cells #[.slice none 0 0, .int .i64 0, .int .i64 0, .int .i64 0] 27)) w.heap.size := by
  unfold R0
  show (w.heap.push _)[w.heap.size]? = _
  rw [Array.getElem?_push_size]
theorem h_step2 {P : Program} {ops : Array Oper} {Q : Exit → Act → World → Prop} {md : Region.Mode} {S : World → Prop} {fuel : Nat} {listed : Array Bool} {a : Act} {w : World} (i : Nat) (hr : Region.ready md ops listed = [i])
    (h : wpOp P ops Q i (fun a' w' => S w' ∧ wpAnyH P md ops Q S fuel (listed.setIfInBounds i true) a' w') a w) : wpAnyH P md ops Q S (fuel + 1) listed a w :=
  wpAnyH_ready hr (by simp) (fun j hj => by obtain rfl : j = i := by simpa using hj
                                            exact h)
theorem h_one {P : Program} {ops : Array Oper} {Q : Exit → Act → World → Prop} {md : Region.Mode} {S : World → Prop} {fuel : Nat} {listed : Array Bool} {a : Act} {w : World} {o : Oper} (i : Nat) (ho : ops[i]? = some o) (hg : o.guard = none) (hr : Region.ready md ops listed = [i])
    (h : ∀ K' : Act → World → Prop, (∀ a' w', S w' → wpAnyH P md ops Q S fuel (listed.setIfInBounds i true) a' w' → K' a' w') → Oper.wp P o a w K' Q) : wpAnyH P md ops Q S (fuel + 1) listed a w := by
  refine h_step2 i hr (wpOp_step ho (fun K' hK => ?_))
  rw [if_pos (by unfold Region.wanted; rw [hg])]
  exact h K' (fun a' w' h1 h2 => hK a' w' ⟨h1, h2⟩)
theorem wp_move {o : Oper} {a : Act} {w : World} {K : Act → World → Prop} {Q : Exit → Act → World → Prop} {x : Operand} {v : Value} (ho : o.op = .assign x) (hx : a.eval x = v) (h : K (a.put o.dst v) w) : o.wp Tryd.prog a w K Q := by
  unfold Oper.wp
  rw [hy_move (.inr ho) hx, Oper.upon_value]
  exact h
set_option maxHeartbeats 1000000 in
theorem tail3 {ops : Array Oper} {Q : Exit → Act → World → Prop} {S : World → Prop} {ls : Array Bool} {a : Act} {w : World} (i1 i2 i3 d2 d3 : Nat) {o1 o2 o3 : Oper} {x y x2 x3 : Operand} {b : Nat} {p : Option Addr} {n c : Nat} {f1 c1 e1 : Int} {v2 v3 : Value}
    (ho1 : ops[i1]? = some o1) (ho2 : ops[i2]? = some o2) (ho3 : ops[i3]? = some o3) (hp1 : o1.op = .store 27 x y) (hp2 : o2.op = .assign x2) (hp3 : o3.op = .assign x3) (hd1 : o1.dst = none) (hd2 : o2.dst = some d2) (hd3 : o3.dst = some d3) (hg1 : o1.guard = none) (hg2 : o2.guard = none) (hg3 : o3.guard = none)
    (hr1 : Region.ready .any ops ls = [i1]) (hr2 : Region.ready .any ops (ls.setIfInBounds i1 true) = [i2]) (hr3 : Region.ready .any ops ((ls.setIfInBounds i1 true).setIfInBounds i2 true) = [i3]) (hr4 : Region.ready .any ops (((ls.setIfInBounds i1 true).setIfInBounds i2 true).setIfInBounds i3 true) = [])
    (hx : a.eval x = .pointer (some ⟨b, 0, none⟩)) (hy : a.eval y = .agg #[.slice p n c, .int .i64 f1, .int .i64 c1, .int .i64 e1]) (h2 : a.eval x2 = v2) (h3 : (a.put (some d2) v2).eval x3 = v3) (hR : R0 w b)
    (hS : S ((((w.setCell ⟨b, 0, none⟩ (.slice p n c)).setCell ⟨b, 1, none⟩ (.int .i64 f1)).setCell ⟨b, 2, none⟩ (.int .i64 c1)).setCell ⟨b, 3, none⟩ (.int .i64 e1)))
    (h : Q .normal ((a.put (some d2) v2).put (some d3) v3) ((((w.setCell ⟨b, 0, none⟩ (.slice p n c)).setCell ⟨b, 1, none⟩ (.int .i64 f1)).setCell ⟨b, 2, none⟩ (.int .i64 c1)).setCell ⟨b, 3, none⟩ (.int .i64 e1))) :
    wpAnyH Tryd.prog .any ops Q S 3 ls a w := by
  refine h_one i1 ho1 hg1 hr1 (fun K' hK => wps_sc hp1 hx hy hR (hK _ _ hS ?_))
  rw [hd1]
  refine h_one i2 ho2 hg2 hr2 (fun K' hK => wp_move hp2 (show (a.put none undef).eval x2 = v2 from h2) (hK _ _ hS ?_))
  rw [hd2]
  refine h_one i3 ho3 hg3 hr3 (fun K' hK => wp_move hp3 (show ((a.put none undef).put (some d2) v2).eval x3 = v3 from h3) (hK _ _ hS ?_))
  rw [hd3]
  exact wpAnyH_done hr4 h _
noncomputable def opsT (n : Nat) : Array Oper := (regs (Tryd.f3.body.getD .skip)).getD n #[]
end Go.Proofs.YthfnjphmodcnoaaDoor
