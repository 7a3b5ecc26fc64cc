/- Contract of the reader's setters: a map of the four words' closures, laid in whatever order. -/
import Derived.Test.YthfnjphmodcnoaaDoorAd
namespace Go.Proofs.YthfnjphmodcnoaaDoor
open Go.RowKit Go.Maps
set_option linter.unusedSimpArgs false
set_option linter.unusedVariables false

def kFuel : List UInt8 := [102, 117, 101, 108]
def kCells : List UInt8 := [99, 101, 108, 108, 115]
def kEvery : List UInt8 := [101, 118, 101, 114, 121]
def kPicks : List UInt8 := [112, 105, 99, 107, 115]
def clos (c : Nat) : Value := .func (.func 42) #[] #[.pointer (some ⟨c, 0, none⟩)]
def closP (t : Nat) : Value := .func (.func 43) #[] #[.pointer (some ⟨t, 0, none⟩)]
/-- the words' map: which are there already -/
def setG (i j k l : Bool) (x1 x2 x3 x4 : Value) (key : List UInt8) : Option Value :=
  if i && key == kFuel then some x1 else if j && key == kCells then some x2 else if k && key == kEvery then some x3 else if l && key == kPicks then some x4 else none
theorem set1_c (b o : Nat) (w : World) : Calls Tryd.prog 41 #[.pointer (some ⟨b, o, none⟩)] w fun e w' => e = .returned (clos w.heap.size) ∧ w' = w.alloc (.cells #[.pointer (some ⟨b, o, none⟩)] 87) := by
  go_enter Tryd.func41, Tryd.ntmps41
  go_wp2
  go_ret
  exact ⟨rfl, rfl⟩
def regs : Code → List (Array Oper)
  | .region _ ops _ => [ops]
  | .seq a b => regs a ++ regs b
  | .block _ b => regs b
  | .scope b => regs b
  | _ => []
def listedS (m a i b j c k l : Bool) : Array Bool := #[m, true, true, true, true, true, a, i, true, true, true, true, true, b, j, true, true, true, true, true, c, k, true, l, false, false]
theorem ready_set {ops : Array Oper} (h : ops = ((regs (Tryd.f20.body.getD .skip)).getD 2 #[])) : ∀ m a i b j c k l : Bool,
    (Region.ready .any ops (listedS m a i b j c k l)).all (fun n =>
      (n == 0 && !m) || (n == 6 && !a) || (n == 7 && (!i && m && a)) || (n == 13 && (!b && a)) || (n == 14 && (!j && m && b)) || (n == 20 && (!c && b)) || (n == 21 && (!k && m && c)) || (n == 23 && (!l && m)) || (n == 24 && (m && a && i && b && j && c && k && l))) = true
    ∧ (Region.ready .any ops (listedS m a i b j c k l)).isEmpty = false := by
  rw [h]
  decide +kernel

/-- the frame in the midst of the region -/
def sact (rb t : Nat) (x4 x10 x16 x22 x24 x2 : Value) : Act := ⟨#[.pointer (some ⟨rb, 0, none⟩), .pointer (some ⟨t, 0, none⟩), x2, .func (.func 41) #[] #[], x4,
  .func (.func 41) #[] #[], .pointer (some ⟨rb, 0, none⟩), .pointer (some ⟨rb, 0, none⟩), .pointer (some ⟨rb, 0, none⟩), .pointer (some ⟨rb, 1, none⟩), x10,
  .func (.func 41) #[] #[], .pointer (some ⟨rb, 0, none⟩), .pointer (some ⟨rb, 0, none⟩), .pointer (some ⟨rb, 0, none⟩), .pointer (some ⟨rb, 2, none⟩), x16,
  .func (.func 41) #[] #[], .pointer (some ⟨rb, 0, none⟩), .pointer (some ⟨rb, 0, none⟩), .pointer (some ⟨rb, 0, none⟩), .pointer (some ⟨rb, 3, none⟩), x22,
  closP t, x24], []⟩
def cntS (m a i b j c k l : Bool) : Nat := (!m).toNat + (!a).toNat + (!i).toNat + (!b).toNat + (!j).toNat + (!c).toNat + (!k).toNat + (!l).toNat
def CellAt (w : World) (B : Nat) (x : Value) (rb o : Nat) : Prop := ∃ c, x = clos c ∧ B ≤ c ∧ w.heap[c]? = some (.cells #[.pointer (some ⟨rb, o, none⟩)] 87 (0, 0))
theorem cellAt_keep {w w' : World} {B : Nat} {x : Value} {rb o : Nat} (h : CellAt w B x rb o) (hk : ∀ i, i < w.heap.size → ∀ v t f, w.heap[i]? = some (.cells v t f) → w'.heap[i]? = some (.cells v t f)) : CellAt w' B x rb o := by
  obtain ⟨c, h1, h2, h3⟩ := h
  exact ⟨c, h1, h2, hk c (Array.getElem?_eq_some_iff.1 h3).1 _ _ _ h3⟩
theorem cellAt_grown {w w' : World} {B : Nat} {x : Value} {rb o : Nat} {r : Option Nat} (h : CellAt w B x rb o) (hk : w.grownBy w' r) (hr : ∀ m, r = some m → ∀ v t f, w.heap[m]? ≠ some (.cells v t f)) : CellAt w' B x rb o := by
  obtain ⟨c, h1, h2, h3⟩ := h
  exact ⟨c, h1, h2, (hk.block c (Array.getElem?_eq_some_iff.1 h3).1 (fun e => hr c e.symm _ _ _ h3)).trans h3⟩
def MapAt (w : World) (B nn : Nat) (x : Value) (G : List UInt8 → Option Value) : Prop := ∃ mb, x = .map (some mb) ∧ B ≤ mb ∧ FM w mb .nilFunc nn G
theorem mapAt_alloc {w : World} {B nn : Nat} {x : Value} {G : List UInt8 → Option Value} (h : MapAt w B nn x G) (o : Obj) : MapAt (w.alloc o) B nn x G := by
  obtain ⟨mb, h1, h2, h3⟩ := h
  exact ⟨mb, h1, h2, fm_below h3 ((Below.refl _ _).alloc (Nat.le_refl _) o)⟩
theorem fm_nocells {w : World} {mb : Nat} {z : Value} {nn : Nat} {G : List UInt8 → Option Value} (h : FM w mb z nn G) : ∀ v t f, w.heap[mb]? ≠ some (.cells v t f) := by
  obtain ⟨D, ⟨es, clock, hb, -⟩, -⟩ := h
  intro v t f e
  rw [hb] at e; cases e
theorem grown_below {w0 w w' : World} {B mb : Nat} (h : w.grownBy w' (some mb)) (hb : Below B w0 w) (hB : w0.heap.size = B) (hm : B ≤ mb) : Below B w0 w' :=
  hb.trans ⟨h.os, h.tape, h.output, h.size, fun k hk => h.block k (by have := hb.size; omega) (fun e => by cases e; omega)⟩
theorem below_two2 {w0 w : World} {B : Nat} {o : Obj} (h : Below B w0 w) (hB : w0.heap.size = B) : Below B w0 (w.alloc o) := h.alloc (by have := h.size; omega) o
theorem cellAt_alloc {w : World} {B : Nat} {x : Value} {rb o : Nat} (h : CellAt w B x rb o) (ob : Obj) : CellAt (w.alloc ob) B x rb o :=
  cellAt_grown h (World.grownBy_alloc w ob none) (fun m e => by cases e)
theorem cellAt_new (w w0 : World) (B rb o : Nat) (h : Below B w0 w) (hB : w0.heap.size = B) : CellAt (w.alloc (.cells #[.pointer (some ⟨rb, o, none⟩)] 87)) B (clos w.heap.size) rb o := by
  refine ⟨_, rfl, by have := h.size; omega, ?_⟩
  show (w.heap.push _)[w.heap.size]? = _
  rw [Array.getElem?_push_size]
theorem upd_setG1 (j k l : Bool) (x1 x2 x3 x4 : Value) : (fun key => if key = kFuel then some x1 else setG false j k l x1 x2 x3 x4 key) = setG true j k l x1 x2 x3 x4 := by
  funext key
  unfold setG
  by_cases h : key = kFuel <;> simp [h]
theorem upd_setG2 (i k l : Bool) (x1 x2 x3 x4 : Value) : (fun key => if key = kCells then some x2 else setG i false k l x1 x2 x3 x4 key) = setG i true k l x1 x2 x3 x4 := by
  funext key
  unfold setG
  by_cases h : key = kCells
  · subst h
    have h1 : (kCells == kFuel) = false := by decide
    simp [h1]
  · simp [h]
theorem upd_setG3 (i j l : Bool) (x1 x2 x3 x4 : Value) : (fun key => if key = kEvery then some x3 else setG i j false l x1 x2 x3 x4 key) = setG i j true l x1 x2 x3 x4 := by
  funext key
  unfold setG
  by_cases h : key = kEvery
  · subst h
    have h1 : (kEvery == kFuel) = false := by decide
    have h2 : (kEvery == kCells) = false := by decide
    simp [h1, h2]
  · simp [h]
theorem upd_setG4 (i j k : Bool) (x1 x2 x3 x4 : Value) : (fun key => if key = kPicks then some x4 else setG i j k false x1 x2 x3 x4 key) = setG i j k true x1 x2 x3 x4 := by
  funext key
  unfold setG
  by_cases h : key = kPicks
  · subst h
    have h1 : (kPicks == kFuel) = false := by decide
    have h2 : (kPicks == kCells) = false := by decide
    have h3 : (kPicks == kEvery) = false := by decide
    simp [h1, h2, h3]
  · simp [h]
theorem new_setG1 (j k l : Bool) (x y x2 x3 x4 : Value) : setG false j k l x x2 x3 x4 = setG false j k l y x2 x3 x4 := by funext key; unfold setG; simp
theorem new_setG2 (i k l : Bool) (x y x1 x3 x4 : Value) : setG i false k l x1 x x3 x4 = setG i false k l x1 y x3 x4 := by funext key; unfold setG; simp
theorem new_setG3 (i j l : Bool) (x y x1 x2 x4 : Value) : setG i j false l x1 x2 x x4 = setG i j false l x1 x2 y x4 := by funext key; unfold setG; simp
theorem setT : (Tryd.prog).underlying 56 = some (.map 9 59) := by kernel_rfl
theorem lst0 (a i b j c k l : Bool) : (listedS false a i b j c k l).setIfInBounds 0 true = listedS true a i b j c k l := rfl
theorem lst6 (m i b j c k l : Bool) : (listedS m false i b j c k l).setIfInBounds 6 true = listedS m true i b j c k l := rfl
theorem lst7 (m a b j c k l : Bool) : (listedS m a false b j c k l).setIfInBounds 7 true = listedS m a true b j c k l := rfl
theorem lst13 (m a i j c k l : Bool) : (listedS m a i false j c k l).setIfInBounds 13 true = listedS m a i true j c k l := rfl
theorem lst14 (m a i b c k l : Bool) : (listedS m a i b false c k l).setIfInBounds 14 true = listedS m a i b true c k l := rfl
theorem lst20 (m a i b j k l : Bool) : (listedS m a i b j false k l).setIfInBounds 20 true = listedS m a i b j true k l := rfl
theorem lst21 (m a i b j c l : Bool) : (listedS m a i b j c false l).setIfInBounds 21 true = listedS m a i b j c true l := rfl
theorem lst23 (m a i b j c k : Bool) : (listedS m a i b j c k false).setIfInBounds 23 true = listedS m a i b j c k true := rfl
set_option maxRecDepth 100000 in
set_option maxHeartbeats 2000000 in
theorem set_loop {ops : Array Oper} (hops : ops = ((regs (Tryd.f20.body.getD .skip)).getD 2 #[])) (Q : Exit → Act → World → Prop) (S : World → Prop) (w0 : World) (rb t B : Nat) (hB : w0.heap.size = B)
    (hS : ∀ w, Below B w0 w → S w)
    (hQ : ∀ (x4 x10 x16 x22 : Value) (w : World), Below B w0 w → CellAt w B x10 rb 1 → CellAt w B x16 rb 2 → CellAt w B x22 rb 3 → (∃ nn, nn ≤ 26 ∧ MapAt w B nn x4 (setG true true true true x10 x16 x22 (closP t))) → Q .normal (sact rb t x4 x10 x16 x22 x4 x4) w) :
    ∀ (f : Nat) (m a i b j c k l : Bool) (x4 x10 x16 x22 : Value) (w : World), f = cntS m a i b j c k l + 2 →
      Below B w0 w → (a = true → CellAt w B x10 rb 1) → (b = true → CellAt w B x16 rb 2) → (c = true → CellAt w B x22 rb 3) →
      (m = true → ∃ nn, nn + f ≤ 26 ∧ MapAt w B nn x4 (setG i j k l x10 x16 x22 (closP t))) → (i = true → m = true ∧ a = true) → (j = true → m = true ∧ b = true) → (k = true → m = true ∧ c = true) → (l = true → m = true) →
      wpAnyH Tryd.prog .any ops Q S f (listedS m a i b j c k l) (sact rb t x4 x10 x16 x22 undef (.map none)) w := by
  subst hops
  intro f
  induction f with
  | zero => intro m a i b j c k l x4 x10 x16 x22 w hf; omega
  | succ f ih =>
    intro m a i b j c k l x4 x10 x16 x22 w hf hbw ha hb hc hm hi hj hk hl
    obtain ⟨r1, r2⟩ := ready_set rfl m a i b j c k l
    refine ⟨fun h0 => (by rw [h0] at r2; cases r2), fun q hq => ?_⟩
    have hr := List.all_eq_true.1 r1 q hq
    simp only [Bool.or_eq_true, Bool.and_eq_true, beq_iff_eq, Bool.not_eq_true'] at hr
    rcases hr with (((((((⟨rfl, rfl⟩ | ⟨rfl, rfl⟩) | ⟨rfl, ⟨rfl, rfl⟩, rfl⟩) | ⟨rfl, rfl, rfl⟩) | ⟨rfl, ⟨rfl, rfl⟩, rfl⟩) | ⟨rfl, rfl, rfl⟩) | ⟨rfl, ⟨rfl, rfl⟩, rfl⟩) | ⟨rfl, rfl, rfl⟩) | ⟨rfl, hall⟩
    · -- the map is made
      obtain ⟨⟨d, op, ty, ps, af, gd⟩, ho, h1, h2, h3⟩ : ∃ o : Oper, ((regs (Tryd.f20.body.getD .skip)).getD 2 #[])[0]? = some o ∧ o.op = Op.makeMap 56 none ∧ o.dst = some 4 ∧ o.guard = none := ⟨_, rfl, rfl, rfl, rfl⟩
      simp only at h1 h2 h3
      subst h1 h2 h3
      refine wpOp_step ho (fun K' hK => ?_)
      rw [if_pos (by kernel_rfl)]
      clear r1 r2 hq ho
      have he : (execOp (sact rb t x4 x10 x16 x22 undef (.map none)).eval ⟨some 4, Op.makeMap 56 none, ty, ps, af, none⟩).run Tryd.prog w = .ok (.value (.map (some w.heap.size))) (w.alloc (.map #[] 0)) := by kernel_rfl
      unfold Oper.wp
      rw [he, Oper.upon_value]
      refine hK _ _ ⟨hS _ (below_two2 hbw hB), ?_⟩
      rw [lst0]
      have hi' : i = false := Bool.eq_false_iff.2 fun e => by simpa using (hi e).1
      have hj' : j = false := Bool.eq_false_iff.2 fun e => by simpa using (hj e).1
      have hk' : k = false := Bool.eq_false_iff.2 fun e => by simpa using (hk e).1
      have hl' : l = false := Bool.eq_false_iff.2 fun e => by simpa using hl e
      subst hi' hj' hk' hl'
      refine ih true a false b false c false false (.map (some w.heap.size)) x10 x16 x22 _ (by simp [cntS] at hf ⊢; omega) (below_two2 hbw hB) (fun e => cellAt_alloc (ha e) _) (fun e => cellAt_alloc (hb e) _) (fun e => cellAt_alloc (hc e) _) (fun _ => ⟨0, by simp [cntS] at hf; cases a <;> cases b <;> cases c <;> simp at hf <;> omega, _, rfl, by have := hbw.size; omega, ?_⟩) (by simp) (by simp) (by simp) (by simp)
      have h := fm_made w .nilFunc
      have e : setG false false false false x10 x16 x22 (closP t) = fun _ => none := by funext key; simp [setG]
      rw [e]; exact h
    · -- a call
      obtain ⟨⟨d, op, ty, ps, af, gd⟩, ho, h1, h2, h3⟩ : ∃ o : Oper, ((regs (Tryd.f20.body.getD .skip)).getD 2 #[])[6]? = some o ∧ o.op = Op.call { callee := Callee.value (.tmp 5), args := #[.tmp 9], argTypes := #[87] } ∧ o.dst = some 10 ∧ o.guard = none := ⟨_, rfl, rfl, rfl, rfl⟩
      simp only at h1 h2 h3
      subst h1 h2 h3
      refine wpOp_step ho (fun K' hK => ?_)
      rw [if_pos (by kernel_rfl)]
      clear r1 r2 hq ho
      have he : (execOp (sact rb t x4 x10 x16 x22 undef (.map none)).eval ⟨some 10, Op.call { callee := Callee.value (.tmp 5), args := #[.tmp 9], argTypes := #[87] }, ty, ps, af, none⟩).run Tryd.prog w = .ok (.enter 41 #[.pointer (some ⟨rb, 1, none⟩)]) w := by kernel_rfl
      unfold Oper.wp
      rw [he, Oper.upon_enter]
      refine (set1_c rb 1 w).mono ?_
      rintro e w' ⟨rfl, rfl⟩
      refine hK _ _ ⟨hS _ (below_two2 hbw hB), ?_⟩
      rw [lst6]
      have hi' : i = false := Bool.eq_false_iff.2 fun e => by simpa using (hi e).2
      subst hi'
      refine ih m true false b j c k l x4 (clos w.heap.size) x16 x22 _ (by simp [cntS] at hf ⊢; omega) (below_two2 hbw hB) (fun _ => cellAt_new w w0 B rb 1 hbw hB) (fun e => cellAt_alloc (hb e) _) (fun e => cellAt_alloc (hc e) _) (fun e => ?_) (by simp) hj hk hl
      obtain ⟨nn, hn, hM⟩ := hm e
      rw [new_setG1 _ _ _ (clos w.heap.size) x10]
      exact ⟨nn, by omega, mapAt_alloc hM _⟩
    · -- an insert
      obtain ⟨⟨d, op, ty, ps, af, gd⟩, ho, h1, h2, h3⟩ : ∃ o : Oper, ((regs (Tryd.f20.body.getD .skip)).getD 2 #[])[7]? = some o ∧ o.op = Op.insert 56 (.tmp 4) (.const (.string ⟨#[102, 117, 101, 108]⟩)) (.tmp 10) ∧ o.dst = none ∧ o.guard = none := ⟨_, rfl, rfl, rfl, rfl⟩
      simp only at h1 h2 h3
      subst h1 h2 h3
      refine wpOp_step ho (fun K' hK => ?_)
      rw [if_pos (by kernel_rfl)]
      clear r1 r2 hq ho
      obtain ⟨nn, hn, mb, rfl, hmb, hM⟩ := hm rfl
      obtain ⟨w', hrun, hM2, hg⟩ := fm_put hM setT ⟨#[102, 117, 101, 108]⟩ (by decide) (by unfold maxLen; omega) x10
      have h0 : execOp (sact rb t (.map (some mb)) x10 x16 x22 undef (.map none)).eval ⟨none, Op.insert 56 (.tmp 4) (.const (.string ⟨#[102, 117, 101, 108]⟩)) (.tmp 10), ty, ps, af, none⟩ = (do Instr.mapUpdate 56 (.map (some mb)) (.string ⟨#[102, 117, 101, 108]⟩) x10; pure .skip) := by kernel_rfl
      have he : (execOp (sact rb t (.map (some mb)) x10 x16 x22 undef (.map none)).eval ⟨none, Op.insert 56 (.tmp 4) (.const (.string ⟨#[102, 117, 101, 108]⟩)) (.tmp 10), ty, ps, af, none⟩).run Tryd.prog w = .ok .skip w' := by rw [h0, Sem.run_bind, hrun]; rfl
      unfold Oper.wp
      rw [he, Oper.upon_skip]
      have hb' := grown_below hg hbw hB hmb
      refine hK _ _ ⟨hS _ hb', ?_⟩
      rw [lst7]
      have hno : ∀ m, some mb = some m → ∀ v t f, w.heap[m]? ≠ some (.cells v t f) := fun m e => by cases e; exact fm_nocells hM
      refine ih true true true b j c k l (.map (some mb)) x10 x16 x22 _ (by simp [cntS] at hf ⊢; omega) hb' (fun e => cellAt_grown (ha e) hg hno) (fun e => cellAt_grown (hb e) hg hno) (fun e => cellAt_grown (hc e) hg hno) (fun _ => ⟨nn + 1, by omega, mb, rfl, hmb, ?_⟩) (fun _ => ⟨rfl, rfl⟩) hj hk hl
      rw [← upd_setG1]
      exact hM2
    · -- a call
      obtain ⟨⟨d, op, ty, ps, af, gd⟩, ho, h1, h2, h3⟩ : ∃ o : Oper, ((regs (Tryd.f20.body.getD .skip)).getD 2 #[])[13]? = some o ∧ o.op = Op.call { callee := Callee.value (.tmp 11), args := #[.tmp 15], argTypes := #[87] } ∧ o.dst = some 16 ∧ o.guard = none := ⟨_, rfl, rfl, rfl, rfl⟩
      simp only at h1 h2 h3
      subst h1 h2 h3
      refine wpOp_step ho (fun K' hK => ?_)
      rw [if_pos (by kernel_rfl)]
      clear r1 r2 hq ho
      have he : (execOp (sact rb t x4 x10 x16 x22 undef (.map none)).eval ⟨some 16, Op.call { callee := Callee.value (.tmp 11), args := #[.tmp 15], argTypes := #[87] }, ty, ps, af, none⟩).run Tryd.prog w = .ok (.enter 41 #[.pointer (some ⟨rb, 2, none⟩)]) w := by kernel_rfl
      unfold Oper.wp
      rw [he, Oper.upon_enter]
      refine (set1_c rb 2 w).mono ?_
      rintro e w' ⟨rfl, rfl⟩
      refine hK _ _ ⟨hS _ (below_two2 hbw hB), ?_⟩
      rw [lst13]
      have hi' : j = false := Bool.eq_false_iff.2 fun e => by simpa using (hj e).2
      subst hi'
      refine ih m true i true false c k l x4 x10 (clos w.heap.size) x22 _ (by simp [cntS] at hf ⊢; omega) (below_two2 hbw hB) (fun e => cellAt_alloc (ha e) _) (fun _ => cellAt_new w w0 B rb 2 hbw hB) (fun e => cellAt_alloc (hc e) _) (fun e => ?_) hi (by simp) hk hl
      obtain ⟨nn, hn, hM⟩ := hm e
      rw [new_setG2 _ _ _ (clos w.heap.size) x16]
      exact ⟨nn, by omega, mapAt_alloc hM _⟩
    · -- an insert
      obtain ⟨⟨d, op, ty, ps, af, gd⟩, ho, h1, h2, h3⟩ : ∃ o : Oper, ((regs (Tryd.f20.body.getD .skip)).getD 2 #[])[14]? = some o ∧ o.op = Op.insert 56 (.tmp 4) (.const (.string ⟨#[99, 101, 108, 108, 115]⟩)) (.tmp 16) ∧ o.dst = none ∧ o.guard = none := ⟨_, rfl, rfl, rfl, rfl⟩
      simp only at h1 h2 h3
      subst h1 h2 h3
      refine wpOp_step ho (fun K' hK => ?_)
      rw [if_pos (by kernel_rfl)]
      clear r1 r2 hq ho
      obtain ⟨nn, hn, mb, rfl, hmb, hM⟩ := hm rfl
      obtain ⟨w', hrun, hM2, hg⟩ := fm_put hM setT ⟨#[99, 101, 108, 108, 115]⟩ (by decide) (by unfold maxLen; omega) x16
      have h0 : execOp (sact rb t (.map (some mb)) x10 x16 x22 undef (.map none)).eval ⟨none, Op.insert 56 (.tmp 4) (.const (.string ⟨#[99, 101, 108, 108, 115]⟩)) (.tmp 16), ty, ps, af, none⟩ = (do Instr.mapUpdate 56 (.map (some mb)) (.string ⟨#[99, 101, 108, 108, 115]⟩) x16; pure .skip) := by kernel_rfl
      have he : (execOp (sact rb t (.map (some mb)) x10 x16 x22 undef (.map none)).eval ⟨none, Op.insert 56 (.tmp 4) (.const (.string ⟨#[99, 101, 108, 108, 115]⟩)) (.tmp 16), ty, ps, af, none⟩).run Tryd.prog w = .ok .skip w' := by rw [h0, Sem.run_bind, hrun]; rfl
      unfold Oper.wp
      rw [he, Oper.upon_skip]
      have hb' := grown_below hg hbw hB hmb
      refine hK _ _ ⟨hS _ hb', ?_⟩
      rw [lst14]
      have hno : ∀ m, some mb = some m → ∀ v t f, w.heap[m]? ≠ some (.cells v t f) := fun m e => by cases e; exact fm_nocells hM
      refine ih true a i true true c k l (.map (some mb)) x10 x16 x22 _ (by simp [cntS] at hf ⊢; omega) hb' (fun e => cellAt_grown (ha e) hg hno) (fun e => cellAt_grown (hb e) hg hno) (fun e => cellAt_grown (hc e) hg hno) (fun _ => ⟨nn + 1, by omega, mb, rfl, hmb, ?_⟩) hi (fun _ => ⟨rfl, rfl⟩) hk hl
      rw [← upd_setG2]
      exact hM2
    · -- a call
      obtain ⟨⟨d, op, ty, ps, af, gd⟩, ho, h1, h2, h3⟩ : ∃ o : Oper, ((regs (Tryd.f20.body.getD .skip)).getD 2 #[])[20]? = some o ∧ o.op = Op.call { callee := Callee.value (.tmp 17), args := #[.tmp 21], argTypes := #[87] } ∧ o.dst = some 22 ∧ o.guard = none := ⟨_, rfl, rfl, rfl, rfl⟩
      simp only at h1 h2 h3
      subst h1 h2 h3
      refine wpOp_step ho (fun K' hK => ?_)
      rw [if_pos (by kernel_rfl)]
      clear r1 r2 hq ho
      have he : (execOp (sact rb t x4 x10 x16 x22 undef (.map none)).eval ⟨some 22, Op.call { callee := Callee.value (.tmp 17), args := #[.tmp 21], argTypes := #[87] }, ty, ps, af, none⟩).run Tryd.prog w = .ok (.enter 41 #[.pointer (some ⟨rb, 3, none⟩)]) w := by kernel_rfl
      unfold Oper.wp
      rw [he, Oper.upon_enter]
      refine (set1_c rb 3 w).mono ?_
      rintro e w' ⟨rfl, rfl⟩
      refine hK _ _ ⟨hS _ (below_two2 hbw hB), ?_⟩
      rw [lst20]
      have hi' : k = false := Bool.eq_false_iff.2 fun e => by simpa using (hk e).2
      subst hi'
      refine ih m a i true j true false l x4 x10 x16 (clos w.heap.size) _ (by simp [cntS] at hf ⊢; omega) (below_two2 hbw hB) (fun e => cellAt_alloc (ha e) _) (fun e => cellAt_alloc (hb e) _) (fun _ => cellAt_new w w0 B rb 3 hbw hB) (fun e => ?_) hi hj (by simp) hl
      obtain ⟨nn, hn, hM⟩ := hm e
      rw [new_setG3 _ _ _ (clos w.heap.size) x22]
      exact ⟨nn, by omega, mapAt_alloc hM _⟩
    · -- an insert
      obtain ⟨⟨d, op, ty, ps, af, gd⟩, ho, h1, h2, h3⟩ : ∃ o : Oper, ((regs (Tryd.f20.body.getD .skip)).getD 2 #[])[21]? = some o ∧ o.op = Op.insert 56 (.tmp 4) (.const (.string ⟨#[101, 118, 101, 114, 121]⟩)) (.tmp 22) ∧ o.dst = none ∧ o.guard = none := ⟨_, rfl, rfl, rfl, rfl⟩
      simp only at h1 h2 h3
      subst h1 h2 h3
      refine wpOp_step ho (fun K' hK => ?_)
      rw [if_pos (by kernel_rfl)]
      clear r1 r2 hq ho
      obtain ⟨nn, hn, mb, rfl, hmb, hM⟩ := hm rfl
      obtain ⟨w', hrun, hM2, hg⟩ := fm_put hM setT ⟨#[101, 118, 101, 114, 121]⟩ (by decide) (by unfold maxLen; omega) x22
      have h0 : execOp (sact rb t (.map (some mb)) x10 x16 x22 undef (.map none)).eval ⟨none, Op.insert 56 (.tmp 4) (.const (.string ⟨#[101, 118, 101, 114, 121]⟩)) (.tmp 22), ty, ps, af, none⟩ = (do Instr.mapUpdate 56 (.map (some mb)) (.string ⟨#[101, 118, 101, 114, 121]⟩) x22; pure .skip) := by kernel_rfl
      have he : (execOp (sact rb t (.map (some mb)) x10 x16 x22 undef (.map none)).eval ⟨none, Op.insert 56 (.tmp 4) (.const (.string ⟨#[101, 118, 101, 114, 121]⟩)) (.tmp 22), ty, ps, af, none⟩).run Tryd.prog w = .ok .skip w' := by rw [h0, Sem.run_bind, hrun]; rfl
      unfold Oper.wp
      rw [he, Oper.upon_skip]
      have hb' := grown_below hg hbw hB hmb
      refine hK _ _ ⟨hS _ hb', ?_⟩
      rw [lst21]
      have hno : ∀ m, some mb = some m → ∀ v t f, w.heap[m]? ≠ some (.cells v t f) := fun m e => by cases e; exact fm_nocells hM
      refine ih true a i b j true true l (.map (some mb)) x10 x16 x22 _ (by simp [cntS] at hf ⊢; omega) hb' (fun e => cellAt_grown (ha e) hg hno) (fun e => cellAt_grown (hb e) hg hno) (fun e => cellAt_grown (hc e) hg hno) (fun _ => ⟨nn + 1, by omega, mb, rfl, hmb, ?_⟩) hi hj (fun _ => ⟨rfl, rfl⟩) hl
      rw [← upd_setG3]
      exact hM2
    · -- an insert
      obtain ⟨⟨d, op, ty, ps, af, gd⟩, ho, h1, h2, h3⟩ : ∃ o : Oper, ((regs (Tryd.f20.body.getD .skip)).getD 2 #[])[23]? = some o ∧ o.op = Op.insert 56 (.tmp 4) (.const (.string ⟨#[112, 105, 99, 107, 115]⟩)) (.tmp 23) ∧ o.dst = none ∧ o.guard = none := ⟨_, rfl, rfl, rfl, rfl⟩
      simp only at h1 h2 h3
      subst h1 h2 h3
      refine wpOp_step ho (fun K' hK => ?_)
      rw [if_pos (by kernel_rfl)]
      clear r1 r2 hq ho
      obtain ⟨nn, hn, mb, rfl, hmb, hM⟩ := hm rfl
      obtain ⟨w', hrun, hM2, hg⟩ := fm_put hM setT ⟨#[112, 105, 99, 107, 115]⟩ (by decide) (by unfold maxLen; omega) (closP t)
      have h0 : execOp (sact rb t (.map (some mb)) x10 x16 x22 undef (.map none)).eval ⟨none, Op.insert 56 (.tmp 4) (.const (.string ⟨#[112, 105, 99, 107, 115]⟩)) (.tmp 23), ty, ps, af, none⟩ = (do Instr.mapUpdate 56 (.map (some mb)) (.string ⟨#[112, 105, 99, 107, 115]⟩) (closP t); pure .skip) := by kernel_rfl
      have he : (execOp (sact rb t (.map (some mb)) x10 x16 x22 undef (.map none)).eval ⟨none, Op.insert 56 (.tmp 4) (.const (.string ⟨#[112, 105, 99, 107, 115]⟩)) (.tmp 23), ty, ps, af, none⟩).run Tryd.prog w = .ok .skip w' := by rw [h0, Sem.run_bind, hrun]; rfl
      unfold Oper.wp
      rw [he, Oper.upon_skip]
      have hb' := grown_below hg hbw hB hmb
      refine hK _ _ ⟨hS _ hb', ?_⟩
      rw [lst23]
      have hno : ∀ m, some mb = some m → ∀ v t f, w.heap[m]? ≠ some (.cells v t f) := fun m e => by cases e; exact fm_nocells hM
      refine ih true a i b j c k true (.map (some mb)) x10 x16 x22 _ (by simp [cntS] at hf ⊢; omega) hb' (fun e => cellAt_grown (ha e) hg hno) (fun e => cellAt_grown (hb e) hg hno) (fun e => cellAt_grown (hc e) hg hno) (fun _ => ⟨nn + 1, by omega, mb, rfl, hmb, ?_⟩) hi hj hk (fun _ => rfl)
      rw [← upd_setG4]
      exact hM2
    · -- the end
      obtain ⟨⟨⟨⟨⟨⟨⟨rfl, rfl⟩, rfl⟩, rfl⟩, rfl⟩, rfl⟩, rfl⟩, rfl⟩ := hall
      obtain rfl : f = 1 := by simp [cntS] at hf; omega
      clear ih
      obtain ⟨⟨d, op, ty, ps, af, gd⟩, ho, h1, h2, h3⟩ : ∃ o : Oper, ((regs (Tryd.f20.body.getD .skip)).getD 2 #[])[24]? = some o ∧ o.op = Op.move (.tmp 4) ∧ o.dst = some 24 ∧ o.guard = none := ⟨_, rfl, rfl, rfl, rfl⟩
      simp only at h1 h2 h3
      subst h1 h2 h3
      refine wpOp_step ho (fun K' hK => ?_)
      rw [if_pos (by kernel_rfl)]
      clear r1 r2 hq ho
      have he : (execOp (sact rb t x4 x10 x16 x22 undef (.map none)).eval ⟨some 24, Op.move (.tmp 4), ty, ps, af, none⟩).run Tryd.prog w = .ok (.value x4) w := by kernel_rfl
      unfold Oper.wp
      rw [he, Oper.upon_value]
      refine hK _ _ ⟨hS _ hbw, ?_⟩
      have hr1 : Region.ready .any ((regs (Tryd.f20.body.getD .skip)).getD 2 #[]) ((listedS true true true true true true true true).setIfInBounds 24 true) = [25] := by kernel_rfl
      refine ⟨fun h0 => (by rw [hr1] at h0; cases h0), fun q hq => ?_⟩
      rw [hr1] at hq
      obtain rfl : q = 25 := by simpa using hq
      obtain ⟨⟨d, op, ty, ps, af, gd⟩, ho, h1, h2, h3⟩ : ∃ o : Oper, ((regs (Tryd.f20.body.getD .skip)).getD 2 #[])[25]? = some o ∧ o.op = Op.assign (.tmp 24) ∧ o.dst = some 2 ∧ o.guard = none := ⟨_, rfl, rfl, rfl, rfl⟩
      simp only at h1 h2 h3
      subst h1 h2 h3
      refine wpOp_step ho (fun K' hK => ?_)
      rw [if_pos (by kernel_rfl)]
      have he : (execOp (sact rb t x4 x10 x16 x22 x4 (.map none)).eval ⟨some 2, Op.assign (.tmp 24), ty, ps, af, none⟩).run Tryd.prog w = .ok (.value x4) w := by kernel_rfl
      unfold Oper.wp
      show Oper.upon _ _ _ _ _ ((execOp (sact rb t x4 x10 x16 x22 x4 (.map none)).eval ⟨some 2, Op.assign (.tmp 24), ty, ps, af, none⟩).run Tryd.prog w)
      rw [he, Oper.upon_value]
      refine hK _ _ ⟨hS _ hbw, by kernel_rfl, ?_⟩
      obtain ⟨nn, hn, hM⟩ := hm rfl
      exact hQ x4 x10 x16 x22 w hbw (ha rfl) (hb rfl) (hc rfl) ⟨nn, by omega, hM⟩
end Go.Proofs.YthfnjphmodcnoaaDoor
