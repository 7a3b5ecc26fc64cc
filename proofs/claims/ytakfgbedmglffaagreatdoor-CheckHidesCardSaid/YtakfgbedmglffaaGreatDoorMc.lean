/- When a heap of the evaluator's stands for the newer part of a world; loads, stores and new blocks. No program in sight. -/
import Derived.Test.YtakfgbedmglffaaGreatDoorMb
import Derived.Below
import Derived.Deep.MidRow
namespace Go.Proofs.YtakfgbedmglffaaGreatDoor
set_option linter.unusedSimpArgs false
set_option linter.unusedVariables false
namespace Ev
open Go.RowKit

/-- what a numbered block holds -/
inductive AObj where
  | row (cs : List Value) (t : TypeId) (sz : Nat)
  | map (es : List (Value × Value × Nat)) (clock : Nat)
  | siter (s : ByteArray) (pos : Nat)
/-- what the evaluator is told of a program: the numbers below n are read alone; those below g are its variables; tokens (words whose value is not known) that are unlike; what some functions come to; and what is known of the tokens -/
structure Cfg where
  n : Nat
  g : Nat
  dis : List (Nat × Nat)
  orc : FuncId → List Value → Option (M AObj Value)
  loc : ∀ f args m, orc f args = some m → M.Local m
  ax : Plan → Prop
  axm : ∀ p q : Plan, p.le q → ax p → ax q
def Dis (K : Cfg) (p : Plan) : Prop := (∀ x ∈ K.dis, ∃ s t, p x.1 = some s ∧ p x.2 = some t ∧ s.off ≠ t.off) ∧ K.ax p
theorem Dis.mono {K : Cfg} {p q : Plan} (hpq : p.le q) (h : Dis K p) : Dis K q := ⟨fun x hx => by
  obtain ⟨s, t, h1, h2, h3⟩ := h.1 x hx
  exact ⟨s, t, hpq _ _ h1, hpq _ _ h2, h3⟩, K.axm _ _ hpq h.2⟩
def MR (p : Plan) (e : Value × Value × Nat) (m : MapEntry) : Prop := VR p e.1 m.key ∧ VR p e.2.1 m.val ∧ e.2.2 = m.born
def MRs (p : Plan) : List (Value × Value × Nat) → List MapEntry → Prop
  | [], [] => True
  | e :: es, m :: ms => MR p e m ∧ MRs p es ms
  | _, _ => False
/-- a row of cells at a spot of a world -/
def ext (sz : Nat) : Nat := if sz = 1 then 0 else 1
structure RowAt (p : Plan) (w : World) (s : Spot) (cs : List Value) (t : TypeId) (sz : Nat) : Prop where
  esz : s.esz = sz
  at_ : ∃ (bs : Array Value) (fr : Nat × Nat), w.heap[s.blk]? = some (.cells bs t fr) ∧ bs.size = s.size ∧ s.off + cs.length ≤ bs.size ∧ VRs p cs ((bs.toList.drop s.off).take cs.length) ∧ ∀ j, j < bs.size + ext sz → (decide (fr.1 ≤ j) && decide (j < fr.2)) = false
def ObjAt (p : Plan) (w : World) (s : Spot) : AObj → Prop
  | .row cs t sz => RowAt p w s cs t sz
  | .map es clock => s.off = 0 ∧ ∃ ms : Array MapEntry, w.heap[s.blk]? = some (.map ms clock) ∧ MRs p es ms.toList
  | .siter str pos => s.off = 0 ∧ w.heap[s.blk]? = some (.stringIter str pos)
/-- numbers below K are the program's variables: they stay where they are, and are read alone; all others are blocks from 'base' on -/
structure Rel (K : Cfg) (base : Nat) (w0 : World) (p : Plan) (h : Tree AObj) (w : World) : Prop where
  below : Below base w0 w
  le : base ≤ w.heap.size
  glob : ∀ b, b < K.g → ∃ s, p b = some s ∧ s.blk = b ∧ s.off = 0
  dis : Dis K p
  at_ : ∀ b o, h.get b = some o → ∃ s, p b = some s ∧ (K.n ≤ b → base ≤ s.blk) ∧ s.blk < w.heap.size ∧ ObjAt p w s o
  one : ∀ b b' o o' s s', h.get b = some o → h.get b' = some o' → p b = some s → p b' = some s' → s.blk = s'.blk → b = b'
theorem MRs.mono {p q : Plan} (hpq : p.le q) : ∀ {es : List (Value × Value × Nat)} {ms : List MapEntry}, MRs p es ms → MRs q es ms
  | [], [], _ => trivial
  | _ :: _, _ :: _, ⟨⟨h1, h2, h3⟩, h4⟩ => ⟨⟨h1.mono hpq, h2.mono hpq, h3⟩, MRs.mono hpq h4⟩
  | [], _ :: _, h => h.elim
  | _ :: _, [], h => h.elim
theorem ObjAt.mono {p q : Plan} (hpq : p.le q) {w w' : World} {s : Spot} {o : AObj} (hw : w'.heap[s.blk]? = w.heap[s.blk]?) (h : ObjAt p w s o) : ObjAt q w' s o := by
  cases o with
  | row cs t sz =>
    obtain ⟨bs, fr, h1, h2, h3, h4, h5⟩ := h.at_
    exact ⟨h.esz, bs, fr, hw.trans h1, h2, h3, h4.mono hpq, h5⟩
  | map es clock =>
    obtain ⟨h0, ms, h1, h2⟩ := h
    exact ⟨h0, ms, hw.trans h1, h2.mono hpq⟩
  | siter str pos =>
    obtain ⟨h0, h1⟩ := h
    exact ⟨h0, hw.trans h1⟩
theorem RowAt.cell {p : Plan} {w : World} {s : Spot} {cs : List Value} {t : TypeId} {sz : Nat} (h : RowAt p w s cs t sz) {i : Nat} {v : Value} (hv : cs[i]? = some v) : ∃ v', w.cell? ⟨s.blk, s.off + i, none⟩ = some v' ∧ VR p v v' ∧ w.frozen? ⟨s.blk, s.off + i, none⟩ = false := by
  obtain ⟨bs, fr, h1, h2, h3, h4, hfr⟩ := h.at_
  have hi := (List.getElem?_eq_some_iff.1 hv).1
  obtain ⟨v', h5, h6⟩ := h4.get i v hv
  rw [List.getElem?_take, if_pos hi, List.getElem?_drop] at h5
  refine ⟨v', ?_, h6, ?_⟩
  · unfold World.cell?
    rw [h1]
    simpa using h5
  · unfold World.frozen?
    rw [h1]
    exact hfr (s.off + i) (by omega)
theorem RowAt.set {p : Plan} {w : World} {s : Spot} {cs : List Value} {t : TypeId} {sz : Nat} (h : RowAt p w s cs t sz) {i : Nat} (hi : i < cs.length) {v v' : Value} (hv : VR p v v') : RowAt p (w.setCell ⟨s.blk, s.off + i, none⟩ v') s (cs.set i v) t sz := by
  obtain ⟨bs, fr, h1, h2, h3, h4, hfr⟩ := h.at_
  refine ⟨h.esz, bs.setIfInBounds (s.off + i) v', fr, ?_, by simpa using h2, by simpa using h3, ?_, fun j hj => hfr j (by simpa using hj)⟩
  · simp only [World.setCell, Array.getElem?_modify, if_true, h1, Option.map_some]
    rfl
  · have := h4.set i hv
    rw [List.length_set]
    have e : ((bs.setIfInBounds (s.off + i) v').toList.drop s.off).take cs.length = ((bs.toList.drop s.off).take cs.length).set i v' := by
      apply List.ext_getElem?
      intro k
      rw [Array.toList_setIfInBounds]
      by_cases hk : k < cs.length
      · rw [List.getElem?_take, if_pos hk, List.getElem?_drop, List.getElem?_set, List.getElem?_set, List.getElem?_take, if_pos hk, List.getElem?_drop]
        by_cases e : i = k
        · subst e
          rw [if_pos rfl, if_pos rfl]
          have e1 : s.off + i < bs.toList.length := by simp; omega
          have e2 : i < ((bs.toList.drop s.off).take cs.length).length := by simp; omega
          rw [if_pos e1, if_pos e2]
        · rw [if_neg (by omega), if_neg e]
      · rw [List.getElem?_eq_none (by simp; omega), List.getElem?_eq_none (by simp; omega)]
    rw [e]
    exact this
theorem heap_setCell_other (w : World) (a : Addr) (u : Value) (k : Nat) (h : k ≠ a.block) : (w.setCell a u).heap[k]? = w.heap[k]? := Below.heap_setCell w a u k h
section
variable {K : Cfg} {base : Nat} {w0 w : World} {p : Plan} {h : Tree AObj}
theorem Rel.load (hr : Rel K base w0 p h w) {b i : Nat} {cs : List Value} {t : TypeId} {sz : Nat} {v : Value} (hb : h.get b = some (.row cs t sz)) (hv : cs[i]? = some v) {s : Spot} (hs : p b = some s) :
    ∃ v', w.cell? ⟨s.blk, s.off + i, none⟩ = some v' ∧ VR p v v' ∧ w.frozen? ⟨s.blk, s.off + i, none⟩ = false := by
  obtain ⟨s', h1, -, -, h2⟩ := hr.at_ b _ hb
  obtain rfl : s' = s := Option.some.inj (h1.symm.trans hs)
  exact RowAt.cell h2 hv
theorem Rel.store (hr : Rel K base w0 p h w) {b i : Nat} {cs : List Value} {t : TypeId} {sz : Nat} {v v' : Value} (hb : h.get b = some (.row cs t sz)) (hK : K.n ≤ b) (hi : i < cs.length) {s : Spot} (hs : p b = some s) (hv : VR p v v') :
    Rel K base w0 p (h.set b (some (.row (cs.set i v) t sz))) (w.setCell ⟨s.blk, s.off + i, none⟩ v') := by
  obtain ⟨s', h1, hB, hlt, h2⟩ := hr.at_ b _ hb
  obtain rfl : s' = s := Option.some.inj (h1.symm.trans hs)
  refine ⟨hr.below.setCell (hB hK) _, by simpa using hr.le, hr.glob, hr.dis, fun b' o' hb' => ?_, fun b1 b2 o1 o2 s1 s2 k1 k2 e1 e2 e => ?_⟩
  · rw [Tree.get_set] at hb'
    by_cases e : b' = b
    · subst e
      rw [if_pos rfl] at hb'
      cases hb'
      exact ⟨s', hs, hB, by simpa using hlt, RowAt.set h2 hi hv⟩
    · rw [if_neg e] at hb'
      obtain ⟨s2, k1, k2, k3, k4⟩ := hr.at_ b' o' hb'
      refine ⟨s2, k1, k2, by simpa using k3, k4.mono (Plan.le_refl _) (heap_setCell_other _ _ _ _ (fun e2 => e (hr.one b' b _ _ _ _ hb' hb k1 hs e2)))⟩
  · have key : ∀ x o, (h.set b (some (.row (cs.set i v) t sz))).get x = some o → ∃ o', h.get x = some o' := fun x o hx => by
      rw [Tree.get_set] at hx
      by_cases e : x = b
      · exact ⟨_, e ▸ hb⟩
      · rw [if_neg e] at hx; exact ⟨_, hx⟩
    obtain ⟨_, q1⟩ := key _ _ k1
    obtain ⟨_, q2⟩ := key _ _ k2
    exact hr.one _ _ _ _ _ _ q1 q2 e1 e2 e
/-- the plan with one spot more -/
def Plan.add (p : Plan) (c : Nat) (s : Spot) : Plan := fun b => if b = c then some s else p b
theorem Plan.le_add {p : Plan} {c : Nat} {s : Spot} (h : p c = none) : p.le (p.add c s) := fun b x e => by
  unfold Plan.add
  split
  · rename_i hb; subst hb; rw [h] at e; cases e
  · exact e
theorem Plan.add_self (p : Plan) (c : Nat) (s : Spot) : p.add c s c = some s := by unfold Plan.add; rw [if_pos rfl]
theorem heap_alloc_new' (w : World) (o : Obj) : (w.alloc o).heap[w.heap.size]? = some o := by
  show (w.heap.push o)[w.heap.size]? = _
  rw [Array.getElem?_push_size]
/-- a new block -/
theorem Rel.new (hr : Rel K base w0 p h w) {c : Nat} (hp : p c = none) (o : AObj) (ob : Obj) (s : Spot) (hs : s.blk = w.heap.size)
    (ho : ObjAt (p.add c s) (w.alloc ob) s o) : Rel K base w0 (p.add c s) (h.set c (some o)) (w.alloc ob) := by
  have hle := Plan.le_add (s := s) hp
  have hB := hr.le
  refine ⟨hr.below.alloc hB _, by simp; omega, fun b hb => (hr.glob b hb).imp fun s3 hs3 => ⟨hle _ _ hs3.1, hs3.2⟩, hr.dis.mono hle, fun b' o' hb' => ?_, fun b1 b2 o1 o2 s1 s2 k1 k2 e1 e2 e => ?_⟩
  · rw [Tree.get_set] at hb'
    by_cases e : b' = c
    · subst e
      rw [if_pos rfl] at hb'
      cases hb'
      exact ⟨s, Plan.add_self _ _ _, fun _ => by omega, by simp; omega, ho⟩
    · rw [if_neg e] at hb'
      obtain ⟨s2, k1, k2, k3, k4⟩ := hr.at_ b' o' hb'
      exact ⟨s2, hle _ _ k1, k2, by simp; omega, k4.mono hle (Below.heap_alloc _ _ _ k3)⟩
  · rw [Tree.get_set] at k1 k2
    by_cases f1 : b1 = c
    · by_cases f2 : b2 = c
      · rw [f1, f2]
      · rw [if_neg f2] at k2
        obtain ⟨s3, q1, -, q3, -⟩ := hr.at_ _ _ k2
        rw [f1, Plan.add_self] at e1
        rw [hle _ _ q1] at e2
        cases e1; cases e2; omega
    · rw [if_neg f1] at k1
      obtain ⟨s3, q1, -, q3, -⟩ := hr.at_ _ _ k1
      rw [hle _ _ q1] at e1
      cases e1
      by_cases f2 : b2 = c
      · rw [f2, Plan.add_self] at e2
        cases e2; omega
      · rw [if_neg f2] at k2
        obtain ⟨s4, q4, -, q6, -⟩ := hr.at_ _ _ k2
        rw [hle _ _ q4] at e2
        cases e2
        exact hr.one _ _ _ _ _ _ k1 k2 q1 q4 e
/-- a call that lets all be that was there lets the evaluator's be -/
theorem Rel.quiet {w' : World} (hr : Rel K base w0 p h w) (hb : Below w.heap.size w w') : Rel K base w0 p h w' := by
  have hsz := hb.size
  have hold : ∀ k, k < w.heap.size → w'.heap[k]? = w.heap[k]? := fun k hk => hb.block k hk
  exact ⟨hr.below.trans ⟨hb.os, hb.tape, hb.output, hsz, fun k hk => hold k (Nat.lt_of_lt_of_le hk hr.le)⟩, Nat.le_trans hr.le hsz, hr.glob, hr.dis, fun b o hb' => by
    obtain ⟨s, k1, k2, k3, k4⟩ := hr.at_ b o hb'
    exact ⟨s, k1, k2, by omega, k4.mono (Plan.le_refl _) (hold _ k3)⟩, hr.one⟩
/-- a new number for a block that came up below -/
theorem Rel.found {w' : World} {c : Nat} (hr : Rel K base w0 p h w) (hb : Below w.heap.size w w') (hp : p c = none) {s : Spot} (hs1 : w.heap.size ≤ s.blk) (hs2 : s.blk < w'.heap.size) (o : AObj) (ho : ObjAt (p.add c s) w' s o) :
    Rel K base w0 (p.add c s) (h.set c (some o)) w' := by
  have hq := hr.quiet hb
  have hle := Plan.le_add (s := s) hp
  refine ⟨hq.below, hq.le, fun b hb => (hr.glob b hb).imp fun s3 hs3 => ⟨hle _ _ hs3.1, hs3.2⟩, hr.dis.mono hle, fun b' o' hb' => ?_, fun b1 b2 o1 o2 s1 s2 k1 k2 e1 e2 e => ?_⟩
  · rw [Tree.get_set] at hb'
    by_cases e : b' = c
    · subst e
      rw [if_pos rfl] at hb'
      cases hb'
      exact ⟨s, Plan.add_self _ _ _, fun _ => Nat.le_trans hr.le hs1, hs2, ho⟩
    · rw [if_neg e] at hb'
      obtain ⟨s2, k1, k2, k3, k4⟩ := hq.at_ b' o' hb'
      exact ⟨s2, hle _ _ k1, k2, k3, k4.mono hle rfl⟩
  · have old : ∀ x o s', x ≠ c → (h.set c (some o)).get x = (h.get x) ∧ ((p.add c s) x = some s' → p x = some s') := fun x o s' hx => by
      refine ⟨by rw [Tree.get_set, if_neg hx], fun h => ?_⟩
      unfold Plan.add at h
      rw [if_neg hx] at h
      exact h
    by_cases f1 : b1 = c
    · by_cases f2 : b2 = c
      · rw [f1, f2]
      · rw [Tree.get_set, if_neg f2] at k2
        have q := (old b2 o s2 f2).2 e2
        obtain ⟨s4, q1, -, q3, -⟩ := hr.at_ _ _ k2
        rw [q1] at q
        cases q
        rw [f1, Plan.add_self] at e1
        cases e1
        omega
    · rw [Tree.get_set, if_neg f1] at k1
      have q := (old b1 o s1 f1).2 e1
      by_cases f2 : b2 = c
      · obtain ⟨s4, q1, -, q3, -⟩ := hr.at_ _ _ k1
        rw [q1] at q
        cases q
        rw [f2, Plan.add_self] at e2
        cases e2
        omega
      · rw [Tree.get_set, if_neg f2] at k2
        exact hr.one _ _ _ _ _ _ k1 k2 q ((old b2 o s2 f2).2 e2) e
theorem Rel.congr (hr : Rel K base w0 p h w) {h' : Tree AObj} (hh : ∀ b, h'.get b = h.get b) : Rel K base w0 p h' w :=
  ⟨hr.below, hr.le, hr.glob, hr.dis, fun b o hb => hr.at_ b o (hh b ▸ hb), fun b b' o o' s s' h1 h2 => hr.one b b' o o' s s' (hh b ▸ h1) (hh b' ▸ h2)⟩
/-- a draw turns nothing -/
theorem Rel.drew (hr : Rel K base w0 p h w) : Rel K base w0 p h w.drew :=
  ⟨hr.below.drew, hr.le, hr.glob, hr.dis, fun b o hb => (hr.at_ b o hb).imp fun s hs => ⟨hs.1, hs.2.1, hs.2.2.1, ObjAt.mono (w := w) (w' := w.drew) (Plan.le_refl _) rfl hs.2.2.2⟩, hr.one⟩
/-- a block is let go -/
theorem Rel.del (hr : Rel K base w0 p h w) (b : Nat) : Rel K base w0 p (h.set b none) w := by
  have key : ∀ x o, (h.set b none).get x = some o → h.get x = some o := fun x o hx => by
    rw [Tree.get_set] at hx
    split at hx
    · cases hx
    · exact hx
  exact ⟨hr.below, hr.le, hr.glob, hr.dis, fun x o hx => hr.at_ x o (key x o hx), fun x y o o' s s' h1 h2 => hr.one x y o o' s s' (key x o h1) (key y o' h2)⟩
/-- several cells at once -/
def putAll : List Value → Nat → List Value → List Value
  | cs, _, [] => cs
  | cs, o, v :: vs => putAll (cs.set o v) (o + 1) vs
theorem putAll_length : ∀ (vs cs : List Value) (o : Nat), (putAll cs o vs).length = cs.length
  | [], _, _ => rfl
  | v :: vs, cs, o => by rw [putAll, putAll_length vs]; simp
theorem Rel.stores : ∀ {vs vs' : List Value}, VRs p vs vs' → ∀ {h : Tree AObj} {w : World} {cs : List Value} {o : Nat}, Rel K base w0 p h w → ∀ {b : Nat} {t : TypeId} {sz : Nat}, h.get b = some (.row cs t sz) → K.n ≤ b → o + vs.length ≤ cs.length → ∀ {s : Spot}, p b = some s →
    Rel K base w0 p (h.set b (some (.row (putAll cs o vs) t sz))) (w.setCells s.blk (s.off + o) vs')
  | _, _, .nil, h, w, cs, o, hr, b, t, sz, hb, hK, hl, s, hs => by
    refine hr.congr fun x => ?_
    rw [Tree.get_set]
    split
    · rename_i e; rw [e, hb]; rfl
    · rfl
  | _, _, .cons (l := l) (m := m) hv hvs, h, w, cs, o, hr, b, t, sz, hb, hK, hl, s, hs => by
    simp only [List.length_cons] at hl
    have h1 := hr.store (i := o) hb hK (by omega) hs hv
    have h2 := Rel.stores hvs (o := o + 1) h1 (b := b) (t := t) (sz := sz) (cs := cs.set o _) (by rw [Tree.get_set, if_pos rfl]) hK (by simp; omega) hs
    rw [show s.off + (o + 1) = s.off + o + 1 by omega] at h2
    refine h2.congr fun x => ?_
    rw [Tree.get_set, Tree.get_set, Tree.get_set]
    split <;> rfl
end
end Ev
end Go.Proofs.YtakfgbedmglffaaGreatDoor
