/- The evaluator's operations over memory, each held against the model's: new blocks, loads, stores. No program in sight. -/
import Derived.Test.YtakfgbedmglffaaGreatDoorMc
import Derived.Laws.Sem
import Derived.Laws.Entries
namespace Go.Proofs.YtakfgbedmglffaaGreatDoor
set_option linter.unusedSimpArgs false
set_option linter.unusedVariables false
namespace Ev
open Go.RowKit

/-- what the evaluator is told of a type -/
structure TI where
  u : TypeDesc
  row : Bool
  size : Nat
  bytes : Nat
  zero : Value
structure TIOK (P : Program) (t : TypeId) (i : TI) : Prop where
  u : P.underlying t = some i.u
  row : i.row = i.u.isRow
  info : ∃ f, P.info? t = some f ∧ f.size = i.size ∧ f.bytes = i.bytes ∧ f.zero = some i.zero
  plain : plainF 9 i.zero = true
  zsize : i.zero.cells.size = i.size
  one : i.zero.cells.all (·.oneCell') = true
def tiOf (P : Program) (t : TypeId) : Option TI := match P.underlying t, P.info? t with
  | some u, some f => match f.zero with
    | some z => if plainF 9 z && z.cells.size == f.size && z.cells.all (·.oneCell') then some ⟨u, u.isRow, f.size, f.bytes, z⟩ else none
    | none => none
  | _, _ => none
theorem tiOf_ok {P : Program} {t : TypeId} {i : TI} (h : tiOf P t = some i) : TIOK P t i := by
  unfold tiOf at h
  split at h
  · rename_i u f hu hf
    split at h
    · rename_i z hz
      split at h
      · rename_i hc
        simp only [Bool.and_eq_true, beq_iff_eq] at hc
        cases h
        exact ⟨hu, rfl, ⟨f, hf, rfl, rfl, hz⟩, hc.1.1, hc.1.2, hc.2⟩
      · cases h
    · cases h
  · cases h
/-- what a piece of the model's code comes to that asks nothing of the world: a value, or a panic -/
def pureOf {α : Type} (P : Program) : Sem α → Option (Except Value α)
  | .pure a => some (.ok a)
  | .program k => pureOf P (k P)
  | .mark _ k => pureOf P k
  | .halt (.panic v) => some (.error v)
  | _ => none
theorem pureOf_ok {α : Type} {P : Program} : ∀ (s : Sem α) {a : α}, pureOf P s = some (.ok a) → ∀ w, s.run P w = .ok a w
  | .pure b, a, h, w => by simp only [pureOf, Option.some.injEq, Except.ok.injEq] at h; subst h; rfl
  | .program k, a, h, w => pureOf_ok (k P) (by simpa [pureOf] using h) w
  | .mark _ k, a, h, w => pureOf_ok k (by simpa [pureOf] using h) w
  | .halt x, a, h, w => by cases x <;> simp [pureOf] at h
  | .load .., _, h, _ | .store .., _, h, _ | .new .., _, h, _ | .shape .., _, h, _ | .freeze .., _, h, _ | .frozen .., _, h, _ | .getObj .., _, h, _ | .setObj .., _, h, _ | .choose .., _, h, _ | .sys .., _, h, _ => by simp [pureOf] at h
theorem pureOf_panic {α : Type} {P : Program} : ∀ (s : Sem α) {v : Value}, pureOf P s = some (.error v) → ∀ w, s.run P w = .halt (.panic v) w
  | .pure b, a, h, w => by simp [pureOf] at h
  | .program k, a, h, w => pureOf_panic (k P) (by simpa [pureOf] using h) w
  | .mark _ k, a, h, w => pureOf_panic k (by simpa [pureOf] using h) w
  | .halt x, a, h, w => by
    cases x <;> simp [pureOf] at h
    subst h; rfl
  | .load .., _, h, _ | .store .., _, h, _ | .new .., _, h, _ | .shape .., _, h, _ | .freeze .., _, h, _ | .frozen .., _, h, _ | .getObj .., _, h, _ | .setObj .., _, h, _ | .choose .., _, h, _ | .sys .., _, h, _ => by simp [pureOf] at h
/-- a run of the model's that stands for one of the evaluator's -/
def Gives {α β : Type} (P : Program) (K : Cfg) (base : Nat) (w0 : World) (p : Plan) (w : World) (c c' : Nat) (h' : Tree AObj) (R : Plan → α → β → Prop) (t : Sem β) (x : α) : Prop :=
  ∃ (p' : Plan) (w' : World) (y : β), t.run P w = .ok y w' ∧ R p' x y ∧ Rel K base w0 p' h' w' ∧ p.le p' ∧ ∀ b, (b < c ∨ c' ≤ b) → p' b = p b
theorem Gives.quiet {α β : Type} {P : Program} {K : Cfg} {base : Nat} {w0 w : World} {p : Plan} {h : Tree AObj} {c : Nat} {R : Plan → α → β → Prop} {t : Sem β} {x : α} {y : β}
    (hr : Rel K base w0 p h w) (ht : t.run P w = .ok y w) (hx : R p x y) : Gives P K base w0 p w c c h R t x :=
  ⟨p, w, y, ht, hx, hr, Plan.le_refl _, fun _ _ => rfl⟩
/-- free numbers -/
def Free (p : Plan) (c c' : Nat) : Prop := ∀ b, c ≤ b → b < c' → p b = none
def liftO {α β : Type} (o : Option β) : M α β := match o with
  | some x => M.pure x
  | none => M.fail
noncomputable def rdRow (b : Nat) : M AObj (List Value × TypeId × Nat) := M.bind (M.read b) fun
  | .row cs t sz => M.pure (cs, t, sz)
  | _ => M.fail
theorem local_liftO {α β : Type} (o : Option β) : M.Local (liftO o : M α β) := by
  unfold liftO; split
  · exact M.local_pure _
  · exact M.local_fail
theorem local_rdRow (b : Nat) : M.Local (rdRow b) := M.local_bind (M.local_read b) fun o => by
  split
  · exact M.local_pure _
  · exact M.local_fail
theorem bind_inv {α β γ : Type} {m : M α β} {f : β → M α γ} {h : Tree α} {c : Nat} {y : γ} {h2 : Tree α} {c2 : Nat} {l : Log} (e : M.bind m f h c = .ok y h2 c2 l) :
    ∃ x h1 c1 l1 l2, m h c = .ok x h1 c1 l1 ∧ f x h1 c1 = .ok y h2 c2 l2 := by
  rw [M.bind_eq] at e
  split at e
  · cases e
  · rename_i x h1 c1 l1 e1
    split at e
    · cases e
    · rename_i y' h2' c2' l2 e2
      cases e
      exact ⟨x, h1, c1, l1, l2, e1, e2⟩
theorem pure_inv {α β : Type} {x y : β} {h h2 : Tree α} {c c2 : Nat} {l : Log} (e : (M.pure x : M α β) h c = .ok y h2 c2 l) : y = x ∧ h2 = h ∧ c2 = c := by cases e; exact ⟨rfl, rfl, rfl⟩
theorem liftO_inv {α β : Type} {o : Option β} {y : β} {h h2 : Tree α} {c c2 : Nat} {l : Log} (e : (liftO o : M α β) h c = .ok y h2 c2 l) : o = some y ∧ h2 = h ∧ c2 = c := by
  unfold liftO at e
  split at e
  · cases e; exact ⟨rfl, rfl, rfl⟩
  · cases e
theorem read_inv {α : Type} {b : Nat} {y : α} {h h2 : Tree α} {c c2 : Nat} {l : Log} (e : M.read b h c = .ok y h2 c2 l) : h.get b = some y ∧ h2 = h ∧ c2 = c := by
  unfold M.read at e
  split at e
  · cases e
  · rename_i x hx
    cases e; exact ⟨hx, rfl, rfl⟩
theorem rdRow_inv {b : Nat} {y : List Value × TypeId × Nat} {h h2 : Tree AObj} {c c2 : Nat} {l : Log} (e : rdRow b h c = .ok y h2 c2 l) : h.get b = some (.row y.1 y.2.1 y.2.2) ∧ h2 = h ∧ c2 = c := by
  obtain ⟨o, h1, c1, l1, l2, e1, e2⟩ := bind_inv e
  obtain ⟨e3, rfl, rfl⟩ := read_inv e1
  split at e2
  · obtain ⟨rfl, rfl, rfl⟩ := pure_inv e2
    exact ⟨e3, rfl, rfl⟩
  · cases e2
theorem write_inv {α : Type} {b : Nat} {x : Option α} {y : Unit} {h h2 : Tree α} {c c2 : Nat} {l : Log} (e : M.write b x h c = .ok y h2 c2 l) : h2 = h.set b x ∧ c2 = c := by
  unfold M.write at e
  split at e
  · cases e
  · cases e; exact ⟨rfl, rfl⟩
theorem new_inv {α : Type} {x : α} {y : Nat} {h h2 : Tree α} {c c2 : Nat} {l : Log} (e : M.new x h c = .ok y h2 c2 l) : y = c ∧ h2 = h.set c (some x) ∧ c2 = c + 1 := by
  unfold M.new at e; cases e; exact ⟨rfl, rfl, rfl⟩
/-! ### a new row -/
noncomputable def newRowX (cs : List Value) (t : TypeId) (sz : Nat) : M AObj Nat := M.new (.row cs t sz)
theorem newRow_gives {P : Program} {K : Cfg} {base : Nat} {w0 w : World} {p : Plan} {h : Tree AObj} {c : Nat} (hr : Rel K base w0 p h w) (hp : p c = none) (cs : List Value) (cs' : Array Value) (t : TypeId) (esz : Nat) (hcs : VRs p cs cs'.toList) :
    (newRow t cs').run P w = .ok ⟨w.heap.size, 0, none⟩ (w.alloc (.cells cs' t)) ∧ Rel K base w0 (p.add c ⟨w.heap.size, 0, cs'.size, esz⟩) (h.set c (some (.row cs t esz))) (w.alloc (.cells cs' t)) := by
  have hle := Plan.le_add (s := ⟨w.heap.size, 0, cs'.size, esz⟩) hp
  refine ⟨rfl, hr.new hp _ _ _ rfl ?_⟩
  refine ⟨rfl, cs', (0, 0), heap_alloc_new' _ _, rfl, ?_, ?_, fun j _ => by simp⟩
  · have := hcs.len; simp at this ⊢; omega
  · have := hcs.len
    simp only [List.drop_zero]
    rw [List.take_of_length_le (by omega)]
    exact hcs.mono hle
theorem add_out {p : Plan} {c : Nat} {s : Spot} : ∀ b, (b < c ∨ c + 1 ≤ b) → (p.add c s) b = p b := fun b hb => by
  unfold Plan.add; rw [if_neg (by omega)]
/-! ### variables: new ones, boxes, loads, stores -/
theorem cells_vrs {p : Plan} {v v' : Value} (h : VR p v v') : VRs p v.cells.toList v'.cells.toList := by
  have h0 := h
  cases h with
  | agg h => exact h
  | _ => exact .cons h0 .nil
theorem run_zero {P : Program} {t : TypeId} {i : TI} (ht : TIOK P t i) (w : World) : (zeroValue t).run P w = .ok i.zero w := by
  obtain ⟨f, h1, h2, h3, h4⟩ := ht.info
  simp [zeroValue, typeInfo, h1, h4]
theorem run_sizeOf' {P : Program} {t : TypeId} {i : TI} (ht : TIOK P t i) (w : World) : (sizeOf t).run P w = .ok i.size w := by
  obtain ⟨f, h1, h2, h3, h4⟩ := ht.info
  simp [sizeOf, typeInfo, h1, h2]
section
variable {P : Program} {K : Cfg} {base : Nat} {w0 w : World} {p : Plan} {h h' : Tree AObj} {c c' : Nat} {l : Log}
noncomputable def xBox (t : TypeId) (v : Value) : M AObj Value := M.bind (newRowX v.cells.toList t v.cells.size) fun b => M.pure (.pointer (some ⟨b, 0, none⟩))
theorem xBox_ok {t : TypeId} {v v' r : Value} (e : xBox t v h c = .ok r h' c' l) (hv : VR p v v') (hr : Rel K base w0 p h w) (hf : Free p c c') : Gives P K base w0 p w c c' h' VR (Instr.box t v') r := by
  obtain ⟨b, h1, c1, l1, l2, e1, e2⟩ := bind_inv e
  obtain ⟨rfl, rfl, rfl⟩ := new_inv e1
  obtain ⟨rfl, rfl, rfl⟩ := pure_inv e2
  have hp := hf b (Nat.le_refl _) (by omega)
  obtain ⟨k1, k2⟩ := newRow_gives (P := P) hr hp _ v'.cells t v.cells.size (cells_vrs hv)
  refine ⟨_, _, .pointer (some ⟨w.heap.size, 0, none⟩), ?_, ?_, k2, Plan.le_add hp, add_out⟩
  · unfold Instr.box newVar
    rw [Sem.run_bind, k1]
    rfl
  · exact .ptr (s := ⟨w.heap.size, 0, _, _⟩) (Plan.add_self _ _ _)
noncomputable def xAlloc (P : Program) (t : TypeId) : M AObj Value := M.bind (liftO (tiOf P t)) fun i => xBox t i.zero
theorem xAlloc_ok {t : TypeId} {r : Value} (e : xAlloc P t h c = .ok r h' c' l) (hr : Rel K base w0 p h w) (hf : Free p c c') : Gives P K base w0 p w c c' h' VR (Instr.alloc t true (.tuple #[])) r := by
  obtain ⟨i, h1, c1, l1, l2, e1, e2⟩ := bind_inv e
  obtain ⟨e3, rfl, rfl⟩ := liftO_inv e1
  have ht := tiOf_ok e3
  obtain ⟨p', w', y, k1, k2⟩ := xBox_ok (P := P) e2 (plain_vr 9 _ ht.plain) hr hf
  refine ⟨p', w', y, ?_, k2⟩
  rw [← k1]
  unfold Instr.alloc Instr.box
  rw [Sem.run_bind, run_zero ht]
  rfl
/-- a load -/
noncomputable def xLoad (P : Program) (t : TypeId) (v : Value) : M AObj Value := match v with
  | .pointer (some ⟨b, o, none⟩) => M.bind (liftO (tiOf P t)) fun i => M.bind (rdRow b) fun r =>
    if i.row then (if ((r.1.drop o).take i.size).length = i.size then M.pure (.agg ((r.1.drop o).take i.size).toArray) else M.fail)
    else liftO r.1[o]?
  | _ => M.fail
theorem rows_range {s : Spot} {cs : List Value} {t : TypeId} {sz : Nat} (hr : Rel K base w0 p h w) {b : Nat} (hb : h.get b = some (.row cs t sz)) (hs : p b = some s) (o n : Nat) (hn : ((cs.drop o).take n).length = n) :
    ∃ vs : List Value, w.rangeAt s.blk (s.off + o) vs ∧ vs.length = n ∧ VRs p ((cs.drop o).take n) vs := by
  obtain ⟨s', h1, -, -, hR⟩ := hr.at_ b _ hb
  obtain rfl : s' = s := Option.some.inj (h1.symm.trans hs)
  obtain ⟨bs, fr, k1, k2, k3, k4, -⟩ := hR.at_
  have k5 := (k4.drop o).take n
  have hl := k5.len
  rw [hn] at hl
  refine ⟨_, fun j u hj => ?_, hl.symm, k5⟩
  unfold World.cell?
  rw [k1]
  rw [List.getElem?_take] at hj
  split at hj
  · rw [List.getElem?_drop, List.getElem?_take] at hj
    split at hj
    · rw [List.getElem?_drop] at hj
      simpa [Nat.add_assoc] using hj
    · cases hj
  · cases hj
theorem xLoad_quiet {t : TypeId} {v v' r : Value} (e : xLoad P t v h c = .ok r h' c' l) (hv : VR p v v') (hr : Rel K base w0 p h w) : h' = h ∧ c' = c ∧ ∃ y, (Instr.loadAt t v').run P w = .ok y w ∧ VR p r y := by
  unfold xLoad at e
  split at e
  · rename_i b o
    obtain ⟨i, h1, c1, l1, l2, e1, e2⟩ := bind_inv e
    obtain ⟨e3, rfl, rfl⟩ := liftO_inv e1
    obtain ⟨rr, h1, c1, l1, l2, e4, e5⟩ := bind_inv e2
    obtain ⟨e6, rfl, rfl⟩ := rdRow_inv e4
    have ht := tiOf_ok e3
    obtain ⟨f, hf1, hf2, hf3, hf4⟩ := ht.info
    cases hv with
    | ptr hs =>
      rename_i s
      split at e5
      · rename_i hrow
        split at e5
        · rename_i hlen
          obtain ⟨rfl, rfl, rfl⟩ := pure_inv e5
          obtain ⟨vs, g1, g2, g3⟩ := rows_range hr e6 hs o i.size hlen
          refine ⟨rfl, rfl, .agg vs.toArray, ?_, .agg (by simpa using g3)⟩
          exact run_loadAt_mid w s.blk (s.off + o) t vs i.u g1 ht.u (by rw [← ht.row]; exact hrow) (by rw [hf1, g2, ← hf2]; rfl)
        · cases e5
      · rename_i hrow
        obtain ⟨e7, rfl, rfl⟩ := liftO_inv e5
        obtain ⟨u, g1, g2, -⟩ := hr.load e6 e7 hs
        refine ⟨rfl, rfl, u, ?_, g2⟩
        have hna : (isAgg t).run P w = .ok false w := by
          unfold isAgg
          rw [Sem.run_bind, run_underlying ht.u w]
          have := ht.row
          cases hu : i.u <;> simp_all
        simp only [Instr.loadAt, Instr.sureAddr, loadVar, Sem.run_bind, Sem.run_pure, Result.andThen_ok, hna]
        simp [load, Sem.run, g1]
  · cases e
theorem xLoad_ok {t : TypeId} {v v' r : Value} (e : xLoad P t v h c = .ok r h' c' l) (hv : VR p v v') (hr : Rel K base w0 p h w) : Gives P K base w0 p w c c' h' VR (Instr.loadAt t v') r := by
  obtain ⟨rfl, rfl, y, h1, h2⟩ := xLoad_quiet (P := P) e hv hr
  exact Gives.quiet hr h1 h2
/-- a store -/
noncomputable def xStore (P : Program) (K : Cfg) (t : TypeId) (v x : Value) : M AObj Unit := match v with
  | .pointer (some ⟨b, o, none⟩) => M.bind (liftO (tiOf P t)) fun i => M.bind (rdRow b) fun r =>
    if K.n ≤ b ∧ x.cells.size = i.size ∧ o + x.cells.toList.length ≤ r.1.length ∧ x.cells.all (·.oneCell') = true then M.write b (some (.row (putAll r.1 o x.cells.toList) r.2.1 r.2.2)) else M.fail
  | _ => M.fail
theorem oneCell_vr {v v' : Value} (h : VR p v v') : v'.oneCell' = v.oneCell' := by cases h <;> rfl
theorem oneCells_vrs : ∀ {l m : List Value}, VRs p l m → (∀ v ∈ l, v.oneCell' = true) → ∀ v ∈ m, v.oneCell' = true
  | _, _, .nil, _, v, hv => by simp at hv
  | _, _, .cons h k, ha, v, hv => by
    rcases List.mem_cons.1 hv with rfl | hv
    · rw [oneCell_vr h]; exact ha _ (by simp)
    · exact oneCells_vrs k (fun x hx => ha x (by simp [hx])) v hv
theorem run_storeVar_cells (w : World) (b o : Nat) (ty : TypeId) (v : Value) (ht : w.there b o v.cells.size) (hi : (P.info? ty).map (·.size) = some v.cells.size) (h1 : v.cells.all (·.oneCell') = true) :
    (storeVar ty ⟨b, o, none⟩ v).run P w = .ok () (w.setCells b o v.cells.toList) := by
  have := run_storeCells_cells (P := P) b o v.cells.toList 0 w (fun j hj => by simpa using (ht j (by simpa using hj)).1) (fun j hj => by simpa using (ht j (by simpa using hj)).2)
    (fun x hx => (Array.all_eq_true_iff_forall_mem.1 h1) x (by simpa using hx))
  cases hq : P.info? ty with
  | none => simp [hq] at hi
  | some i =>
    have hs : v.cells.size = i.size := by simp [hq] at hi; omega
    simp only [Nat.add_zero] at this
    simp [storeVar, sizeOf, typeInfo, hq, hs, this]
theorem xStore_ok {t : TypeId} {v v' x x' : Value} {r : Unit} (e : xStore P K t v x h c = .ok r h' c' l) (hv : VR p v v') (hx : VR p x x') (hr : Rel K base w0 p h w) : Gives P K base w0 p w c c' h' (fun _ _ _ => True) (Instr.storeAt t v' x') r := by
  unfold xStore at e
  split at e
  · rename_i b o
    obtain ⟨i, h1, c1, l1, l2, e1, e2⟩ := bind_inv e
    obtain ⟨e3, rfl, rfl⟩ := liftO_inv e1
    obtain ⟨rr, h1, c1, l1, l2, e4, e5⟩ := bind_inv e2
    obtain ⟨e6, rfl, rfl⟩ := rdRow_inv e4
    have ht := tiOf_ok e3
    obtain ⟨f, hf1, hf2, hf3, hf4⟩ := ht.info
    split at e5
    · rename_i hc
      obtain ⟨hK, hsz, hlen, hone⟩ := hc
      obtain ⟨rfl, rfl⟩ := write_inv e5
      cases hv with
      | ptr hs =>
        rename_i s
        have hcs := cells_vrs hx
        have hl := hcs.len
        simp only [Array.length_toList] at hl hlen
        refine ⟨p, w.setCells s.blk (s.off + o) x'.cells.toList, (), ?_, trivial, hr.stores hcs e6 hK (by simpa using hlen) hs, Plan.le_refl _, fun _ _ => rfl⟩
        unfold Instr.storeAt Instr.sureAddr
        rw [Sem.run_bind, Sem.run_pure, Result.andThen_ok]
        refine run_storeVar_cells w s.blk (s.off + o) t x' (fun j hj => ?_) (by rw [hf1]; simp; omega) ?_
        · obtain ⟨u, hu⟩ : ∃ u, rr.1[o + j]? = some u := ⟨_, List.getElem?_eq_getElem (by omega)⟩
          obtain ⟨u', g1, -, g3⟩ := hr.load e6 hu hs
          rw [Nat.add_assoc]
          exact ⟨by rw [g1]; rfl, g3⟩
        · rw [Array.all_eq_true_iff_forall_mem]
          intro y hy
          exact oneCells_vrs hcs (fun z hz => (Array.all_eq_true_iff_forall_mem.1 hone) z (by simpa using hz)) y (by simpa using hy)
    · cases e5
  · cases e
end
end Ev
end Go.Proofs.YtakfgbedmglffaaGreatDoor
