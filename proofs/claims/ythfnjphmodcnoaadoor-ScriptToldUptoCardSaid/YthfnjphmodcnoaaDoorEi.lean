/- Helpers for the walks of script.Read and of the reference's Report: a report's block, what is answered. -/
import Derived.Test.YthfnjphmodcnoaaDoorEg
import Derived.Test.YthfnjphmodcnoaaDoorBd
import Derived.Test.YthfnjphmodcnoaaDoorBh
namespace Go.Proofs.YthfnjphmodcnoaaDoor
open Go.RowKit
set_option linter.unusedSimpArgs false
set_option linter.unusedVariables false

def RepB (W : World) (b : Nat) (v0 v1 v2 v3 v4 : Value) : Prop := W.heap[b]? = some (.cells #[v0, v1, v2, v3, v4] 39 (0, 0))
structure RepF (W : World) (b : Nat) (v0 v1 v2 v3 v4 : Value) : Prop where
  c0 : W.cell? ⟨b, 0, none⟩ = some v0
  c1 : W.cell? ⟨b, 1, none⟩ = some v1
  c2 : W.cell? ⟨b, 2, none⟩ = some v2
  c3 : W.cell? ⟨b, 3, none⟩ = some v3
  c4 : W.cell? ⟨b, 4, none⟩ = some v4
  f0 : W.frozen? ⟨b, 0, none⟩ = false
  f1 : W.frozen? ⟨b, 1, none⟩ = false
  f2 : W.frozen? ⟨b, 2, none⟩ = false
  f3 : W.frozen? ⟨b, 3, none⟩ = false
  f4 : W.frozen? ⟨b, 4, none⟩ = false
section
variable {W W' : World} {b : Nat} {v0 v1 v2 v3 v4 : Value}
theorem RepB.facts (h : RepB W b v0 v1 v2 v3 v4) : RepF W b v0 v1 v2 v3 v4 :=
  ⟨(blk_c h 0 _ rfl).1, (blk_c h 1 _ rfl).1, (blk_c h 2 _ rfl).1, (blk_c h 3 _ rfl).1, (blk_c h 4 _ rfl).1, (blk_c h 0 _ rfl).2, (blk_c h 1 _ rfl).2, (blk_c h 2 _ rfl).2, (blk_c h 3 _ rfl).2, (blk_c h 4 _ rfl).2⟩
theorem RepB.lt (h : RepB W b v0 v1 v2 v3 v4) : b < W.heap.size := (Array.getElem?_eq_some_iff.1 h).1
theorem RepB.set0 (h : RepB W b v0 v1 v2 v3 v4) (v : Value) : RepB (W.setCell ⟨b, 0, none⟩ v) b v v1 v2 v3 v4 := by
  unfold RepB at *; simp only [World.setCell, Array.getElem?_modify, if_true, h, Option.map_some]; rfl
theorem RepB.set1 (h : RepB W b v0 v1 v2 v3 v4) (v : Value) : RepB (W.setCell ⟨b, 1, none⟩ v) b v0 v v2 v3 v4 := by
  unfold RepB at *; simp only [World.setCell, Array.getElem?_modify, if_true, h, Option.map_some]; rfl
theorem RepB.set2 (h : RepB W b v0 v1 v2 v3 v4) (v : Value) : RepB (W.setCell ⟨b, 2, none⟩ v) b v0 v1 v v3 v4 := by
  unfold RepB at *; simp only [World.setCell, Array.getElem?_modify, if_true, h, Option.map_some]; rfl
theorem RepB.set3 (h : RepB W b v0 v1 v2 v3 v4) (v : Value) : RepB (W.setCell ⟨b, 3, none⟩ v) b v0 v1 v2 v v4 := by
  unfold RepB at *; simp only [World.setCell, Array.getElem?_modify, if_true, h, Option.map_some]; rfl
theorem RepB.set4 (h : RepB W b v0 v1 v2 v3 v4) (v : Value) : RepB (W.setCell ⟨b, 4, none⟩ v) b v0 v1 v2 v3 v := by
  unfold RepB at *; simp only [World.setCell, Array.getElem?_modify, if_true, h, Option.map_some]; rfl
theorem RepB.set (h : RepB W b v0 v1 v2 v3 v4) (a0 a1 a2 a3 a4 : Value) : RepB (((((W.setCell ⟨b, 0, none⟩ a0).setCell ⟨b, 1, none⟩ a1).setCell ⟨b, 2, none⟩ a2).setCell ⟨b, 3, none⟩ a3).setCell ⟨b, 4, none⟩ a4) b a0 a1 a2 a3 a4 :=
  ((((h.set0 a0).set1 a1).set2 a2).set3 a3).set4 a4
theorem RepB.below (h : RepB W b v0 v1 v2 v3 v4) (hb : Below W.heap.size W W') : RepB W' b v0 v1 v2 v3 v4 := (hb.block b h.lt).trans h
theorem RepB.new (W : World) : RepB (W.alloc (.cells #[.slice none 0 0, .int .i64 0, .int .i64 0, .int .i64 0, .int .i64 0] 39)) W.heap.size (.slice none 0 0) (.int .i64 0) (.int .i64 0) (.int .i64 0) (.int .i64 0) := heap_alloc_new W _
theorem below_set5 {B : Nat} {w : World} (h : Below B w W) (hB : B ≤ b) (a0 a1 a2 a3 a4 : Value) : Below B w (((((W.setCell ⟨b, 0, none⟩ a0).setCell ⟨b, 1, none⟩ a1).setCell ⟨b, 2, none⟩ a2).setCell ⟨b, 3, none⟩ a3).setCell ⟨b, 4, none⟩ a4) :=
  ((((h.setCell (p := ⟨b, 0, none⟩) hB _).setCell (p := ⟨b, 1, none⟩) hB _).setCell (p := ⟨b, 2, none⟩) hB _).setCell (p := ⟨b, 3, none⟩) hB _).setCell (p := ⟨b, 4, none⟩) hB _
end
theorem read_ret {Q : Ending → World → Prop} (tmps : Array Value) (W : World) (b : Nat) (v0 v1 v2 v3 v4 l e : Value) (hR : RepB W b v0 v1 v2 v3 v4) (h2 : tmps.getD 2 undef = .pointer (some ⟨b, 0, none⟩)) (h3 : tmps.getD 3 undef = l) (h4 : tmps.getD 4 undef = e)
    (h : Q (.returned (.tuple #[.agg #[v0, v1, v2, v3, v4], l, e])) W) : bodyPost Tryd.prog Tryd.f13 Q .ret ⟨tmps, []⟩ W := by
  refine bodyPost_ret (results_cell2 (show Tryd.f13.results = #[.cell 2 39, .tmp 3, .tmp 4] from rfl) tmps _ b _ h2 (repLoad _ _ _ _ _ hR rfl)) rfl ?_
  rw [h3, h4]
  exact h
theorem rrep_ret {Q : Ending → World → Prop} (tmps : Array Value) (W : World) (b : Nat) (v0 v1 v2 v3 v4 l e : Value) (hR : RepB W b v0 v1 v2 v3 v4) (h2 : tmps.getD 2 undef = .pointer (some ⟨b, 0, none⟩)) (h3 : tmps.getD 3 undef = l) (h4 : tmps.getD 4 undef = e)
    (h : Q (.returned (.tuple #[.agg #[v0, v1, v2, v3, v4], l, e])) W) : bodyPost Tryd.prog Tryd.f14 Q .ret ⟨tmps, []⟩ W := by
  refine bodyPost_ret (results_cell2 (show Tryd.f14.results = #[.cell 2 39, .tmp 3, .tmp 4] from rfl) tmps _ b _ h2 (repLoad _ _ _ _ _ hR rfl)) rfl ?_
  rw [h3, h4]
  exact h
/-- what is answered: a report that owns its trace, or the line at fault -/
def ReadPost (B : Nat) (r : Except (Nat × Nat) RepQ) (e : Ending) (w' : World) : Prop := match r with
  | .error (l, c) => e = .returned (.tuple #[.agg #[.slice none 0 0, .int .i64 0, .int .i64 0, .int .i64 0, .int .i64 0], .int .i64 (l : Int), .int .i64 (c : Int)])
  | .ok q => ∃ v, OwnL B w' v q.tr ∧ e = .returned (.tuple #[.agg #[v, .int .i64 q.k, .int .i64 q.v, .int .i64 (q.st : Int), .int .i64 (q.pk : Int)], .int .i64 0, .int .i64 0])
theorem readPost_err {B l : Nat} {w' : World} {lv : Int} {r : Except (Nat × Nat) RepQ} (hr : r = .error (l, 5)) (hv : lv = (l : Int)) : ReadPost B r (.returned (.tuple #[.agg #[.slice none 0 0, .int .i64 0, .int .i64 0, .int .i64 0, .int .i64 0], .int .i64 lv, .int .i64 5])) w' := by
  subst hr hv
  exact rfl
def readE (L : List (List UInt8)) (en : Bool) : Except (Nat × Nat) RepQ := match readP L en with
  | .error l => .error (l, 5)
  | .ok q => .ok q
theorem readE_err {L : List (List UInt8)} {en : Bool} {l : Nat} (h : readP L en = .error l) : readE L en = .error (l, 5) := by unfold readE; rw [h]
theorem readE_ok {L : List (List UInt8)} {en : Bool} {q : RepQ} (h : readP L en = .ok q) : readE L en = .ok q := by unfold readE; rw [h]
theorem readT_big {s : List UInt8} (h : 65536 < s.length) : readT s = .error (0, 6) := by unfold readT; rw [if_pos h]
theorem readT_small {s : List UInt8} (h : ¬ 65536 < s.length) : readT s = readE (linesP s).1 (linesP s).2 := by unfold readT readE; rw [if_neg h]; rfl
/-- the lines of a text, in one form -/
def LinA (B : Nat) (W : World) (p : Option Addr) (L : List (List UInt8)) : Prop := L = [] ∨ ∃ lb, p = some ⟨lb, 0, none⟩ ∧ Strs W lb 0 L ∧ lb < W.heap.size ∧ B ≤ lb
theorem lines_c2 (s : ByteArray) (w : World) (h : Laid w) (hs : s.size ≤ 1073741824) : Calls Tryd.prog 19 #[.string s] w fun e w' =>
    ∃ p cap, e = .returned (.tuple #[.slice p (linesP (bl s)).1.length cap, .bool (linesP (bl s)).2]) ∧ LinA w.heap.size w' p (linesP (bl s)).1 ∧ Below w.heap.size w w' := by
  refine (lines_c s w h hs).mono ?_
  rintro e w' (⟨h0, rfl, rfl⟩ | ⟨h0, rfl, rfl⟩)
  · have e1 : linesP (bl s) = ([], true) := by rw [h0]; rfl
    refine ⟨none, 0, by rw [e1]; rfl, .inl (by rw [e1]), Below.refl _ _⟩
  · exact ⟨_, _, rfl, .inr ⟨_, rfl, strs_sub (strs_alloc w _ _) (linesP_sub (bl s)), by simp, Nat.le_refl _⟩, (Below.refl _ _).alloc (Nat.le_refl _) _⟩
theorem ownL_lin {B : Nat} {w : World} {v : Value} {L : List (List UInt8)} (h : OwnL B w v L) : ∃ p cap, v = .slice p L.length cap ∧ LinA B w p L := by
  rcases h.2 with ⟨h1, h2⟩ | ⟨g, cap, cur, h1, h0, h3, h4, h7, h5, h6⟩
  · exact ⟨none, 0, by rw [h1, h2], .inl (List.length_eq_zero_iff.1 h2)⟩
  · refine ⟨_, cap, h1, .inr ⟨g, rfl, fun i z hz => ?_, (Array.getElem?_eq_some_iff.1 h3).1, h0⟩⟩
    have hi := (List.getElem?_eq_some_iff.1 hz).1
    have h8 : (strV L)[i]? = some (.string ⟨z.toArray⟩) := by unfold strV; rw [List.getElem?_map, hz]; rfl
    rw [← h6, List.getElem?_take, if_pos (by omega)] at h8
    unfold World.cell?
    rw [h3, Nat.zero_add]
    simpa using h8
theorem lin_at {B : Nat} {W : World} {p : Option Addr} {L : List (List UInt8)} {k : Nat} {x : List UInt8} (h : LinA B W p L) (hx : L[k]? = some x) : ∃ lb, p = some ⟨lb, 0, none⟩ ∧ Strs W lb 0 L ∧ lb < W.heap.size ∧ B ≤ lb := by
  rcases h with rfl | h
  · cases hx
  · exact h
theorem with_Q' {P : Program} {c : Code} {Q : Exit → Act → World → Prop} {a : Act} {w : World} (R : (Exit → Act → World → Prop) → Prop) (h1 : R Q) (h2 : R Q → c.wp P Q a w) : c.wp P Q a w := h2 h1
theorem hy_strld {a : Act} {o : Oper} {w : World} {x : Operand} {p : Addr} {s : ByteArray} (ho : o.op = .load 9 x) (hx : a.eval x = .pointer (some p)) (hc : w.cell? p = some (.string s)) : (execOp a.eval o).run Tryd.prog w = .ok (.value (.string s)) w := by
  unfold execOp
  simp only [ho, hx]
  go_simp
theorem hy_ix {a : Act} {o : Oper} {w : World} {x y : Operand} {lb n c j : Nat} (ho : o.op = .indexAddr 25 x y) (hx : a.eval x = .slice (some ⟨lb, 0, none⟩) n c) (hy : a.eval y = .int .i64 (j : Int)) (hj : j < n) : (execOp a.eval o).run Tryd.prog w = .ok (.value (.pointer (some ⟨lb, j, none⟩))) w := by
  have hj1 : (j : Int) < (n : Int) := by omega
  unfold execOp
  simp only [ho, hx, hy]
  go_simp
  try simp [hj]
theorem hy_fld {a : Act} {o : Oper} {w : World} {x : Operand} {b : Nat} (ho : o.op = .fieldAddr 39 x 0) (hx : a.eval x = .pointer (some ⟨b, 0, none⟩)) : (execOp a.eval o).run Tryd.prog w = .ok (.value (.pointer (some ⟨b, 0, none⟩))) w := by
  unfold execOp
  simp only [ho, hx]
  go_simp
  try rfl
theorem wp_ldsl {o : Oper} {a : Act} {w : World} {K : Act → World → Prop} {Q : Exit → Act → World → Prop} {x : Operand} {p : Option Addr} {n c : Nat} {q : Addr} (d : Option Tmp) (hd : o.dst = d) (ho : o.op = .load 25 x) (hx : a.eval x = .pointer (some q)) (hc : w.cell? q = some (.slice p n c)) (h : K (a.put d (.slice p n c)) w) : o.wp Tryd.prog a w K Q := by
  subst hd
  unfold Oper.wp execOp
  simp only [ho, hx]
  go_simp
  exact h
theorem wp_bs {o : Oper} {a : Act} {w : World} {K : Act → World → Prop} {Q : Exit → Act → World → Prop} {x : Operand} {z : ByteArray} (d : Option Tmp) (hd : o.dst = d) (ho : o.op = .buildSlice 25 1 #[(0, x)]) (hx : a.eval x = .string z) (h : K (a.put d (.slice (some ⟨w.heap.size, 0, none⟩) 1 1)) (w.alloc (.cells #[.string z] 9))) : o.wp Tryd.prog a w K Q := by
  subst hd
  unfold Oper.wp execOp
  simp [ho, hx]
  go_simp
  exact h
theorem wp_stsl {o : Oper} {a : Act} {w : World} {K : Act → World → Prop} {Q : Exit → Act → World → Prop} {x y : Operand} {p : Option Addr} {n c : Nat} {q : Addr} {old : Value} (hd : o.dst = none) (ho : o.op = .store 25 x y) (hx : a.eval x = .pointer (some q)) (hy : a.eval y = .slice p n c) (hc : w.cell? q = some old) (hf : w.frozen? q = false)
    (h : K a (w.setCell q (.slice p n c))) : o.wp Tryd.prog a w K Q := by
  unfold Oper.wp execOp
  simp only [ho, hx, hy]
  go_simp
  exact h
theorem wp_strapp' {o : Oper} {a : Act} {K : Act → World → Prop} {Q : Exit → Act → World → Prop} {w : World} (s x : Operand) (d : Option Tmp) (hd : o.dst = d)
    (ho : o.op = .call { callee := .builtin .append, args := #[s, x], argTypes := #[25, 25] })
    (B : Nat) (v : Value) (L : List (List UInt8)) (hs : a.eval s = v) (hown : OwnL B w v L) (g : Nat) (z : List UInt8) (hx : a.eval x = .slice (some ⟨g, 0, none⟩) 1 1) (hz : w.cell? ⟨g, 0, none⟩ = some (.string ⟨z.toArray⟩))
    (hlen : L.length ≤ 1099511627776) (hB : B ≤ w.heap.size)
    (h : ∀ v' w', OwnL B w' v' (L ++ [z]) → w.grownBy w' v.ownBlock → K (a.put d v') w') : o.wp Tryd.prog a w K Q := by
  subst hd
  exact wp_strapp s x ho B v L hs hown g z hx hz hlen hB h
end Go.Proofs.YthfnjphmodcnoaaDoor
