/- The evaluator's regions that draw their order, held against the model's. No program in sight. -/
import Derived.Test.YtakfgbedmglffaaGreatDoorMw
namespace Go.Proofs.YtakfgbedmglffaaGreatDoor
set_option linter.unusedSimpArgs false
set_option linter.unusedVariables false
namespace Ev
open Go.RowKit

theorem Loc.rd_put (s : Loc) (d : Option Nat) (v : Value) (t : Nat) : (s.put d v).rd t = if d = some t ∧ t < s.n then v else s.rd t := by
  obtain ⟨tm, n, ds⟩ := s
  cases d with
  | none => simp [Loc.put]
  | some i =>
    unfold Loc.put
    dsimp only
    by_cases hi : i < n
    · rw [show Nat.ble (Nat.succ i) n = true from Nat.ble_eq_true_of_le hi]
      dsimp only
      show (((tm.set i (some v)).get t)).getD undef = _
      rw [Tree.get_set]
      by_cases e : t = i
      · subst e; rw [if_pos rfl, if_pos ⟨rfl, hi⟩]; rfl
      · rw [if_neg e, if_neg (by rintro ⟨h1, -⟩; exact e (Option.some.inj h1).symm)]; rfl
    · rw [show Nat.ble (Nat.succ i) n = false by cases hb : Nat.ble (Nat.succ i) n with | false => rfl | true => exact absurd (Nat.le_of_ble_eq_true hb) hi]
      dsimp only
      rw [if_neg]
      rintro ⟨h1, h2⟩
      have : i = t := Option.some.inj h1
      subst this
      exact hi h2
theorem Loc.n_put (s : Loc) (d : Option Nat) (v : Value) : (s.put d v).n = s.n := by
  obtain ⟨tm, n, ds⟩ := s
  cases d with
  | none => rfl
  | some i => unfold Loc.put; dsimp only; split <;> rfl
theorem Loc.ds_put (s : Loc) (d : Option Nat) (v : Value) : (s.put d v).ds = s.ds := by
  obtain ⟨tm, n, ds⟩ := s
  cases d with
  | none => rfl
  | some i => unfold Loc.put; dsimp only; split <;> rfl
theorem last_none {β : Type} {W : Nat → Option β} {D : Nat → Bool} {x : β} : ∀ n : Nat, (∀ i, i < n → D i = true → W i = none) → lastW W D x n = x
  | 0, _ => rfl
  | n + 1, h => by
    have ih := last_none (x := x) n fun i hi => h i (by omega)
    unfold lastW
    split
    · rename_i hd
      rw [h n (by omega) hd, ih]; rfl
    · exact ih
theorem NoClash.symm {a b : Log} (h : NoClash a b) : NoClash b a := ⟨fun i h1 h2 => h.2 i h2 h1, fun i h1 h2 => h.1 i h2 h1⟩
theorem Apart0.symm {ops : Array Oper} {a b : Oper} (h : Apart0 ops a b) : Apart0 ops b a := ⟨h.2, h.1⟩
/-- what a step has shown of itself -/
structure Sh (h h' : Tree AObj) (c c' : Nat) (l : Log) : Prop where
  sub : ∀ b, l.w.testBit b = true → l.t.testBit b = true
  out : ∀ b, l.w.testBit b = false → h'.get b = h.get b
  fresh : ∀ b, c ≤ b → b < c' → l.w.testBit b = true
  free : ∀ b, (b < c ∨ c' ≤ b) → h.get b = none → h'.get b = none
  old : ∀ b, (b < c ∨ c' ≤ b) → l.t.testBit b = true → h.get b ≠ none
section
variable {P : Program} {K : Cfg} {base : Nat} {w0 : World}
theorem step1_sh {F : Nat} {ops : Array Oper} {o : Oper} {s s' : Loc} {h h' : Tree AObj} {c c' : Nat} {l : Log} {v : Value} (hs : Step1 P K F ops o s s' h h' c c' l v) : c ≤ c' ∧ (M.Rng h c c' → Sh h h' c c' l) := by
  obtain ⟨-, ⟨-, g, -, e⟩ | ⟨-, -, rfl, rfl, rfl⟩⟩ := hs
  · obtain ⟨h1, h2⟩ := (all_local P K g).op _ _ _ _ _ _ _ _ e
    exact ⟨h1, fun hr => have A := h2 hr; ⟨A.sub, A.out, A.fresh, A.free, A.old⟩⟩
  · exact ⟨Nat.le_refl _, fun _ => ⟨by simp [Log.no], fun _ _ => rfl, fun b h1 h2 => by omega, fun _ _ h => h, by simp [Log.no]⟩⟩
theorem count_set : ∀ (l : List Bool) (j : Nat), l[j]? = some false → (l.set j true).count false + 1 = l.count false
  | [], j, h => by simp at h
  | b :: l, 0, h => by
    simp at h; subst h
    simp
  | b :: l, j + 1, h => by
    have ih := count_set l j (by simpa using h)
    simp only [List.set_cons_succ, List.count_cons]
    omega
theorem draw_any {F : Nat} (hop : ∀ g, g < F → OpOK P K base w0 g) {ops : Array Oper} {N : Nat} (hN : N ≤ ops.size) {x : XE} {s0 sn : Loc} {h0 hn : Tree AObj} {c0 cn : Nat} (hok : drawOK ops = true) (hd : M.Rng h0 c0 cn)
    {S : Nat → Loc} {H : Nat → Tree AObj} {C : Nat → Nat} {L : Nat → Log} {V : Nat → Value} (T : Tr P K F ops N 0 [] s0 h0 c0 S H C L V) (hfin : Fin1 P K F ops N 0 [] x sn hn cn S H C L)
    {p0 : Plan} {Q : Exit → Act → World → Prop} (hpost : Post K base w0 p0 c0 cn hn x sn Q) :
    ∀ (fuel : Nat) (listed : Array Bool) (p : Plan) (w : World) (a : Act) (s : Loc) (h : Tree AObj), listed.toList.count false ≤ fuel → listed.size = ops.size →
      (∀ i, listed.getD i false = true → i < N) →
      (∀ j o, listed.getD j false = true → ops[j]? = some o → ∀ e ∈ o.after, Region.binds .any e = true → listed.getD e.on false = true) →
      Rel K base w0 p h w → LocR p s a → s.n = s0.n → s.ds = s0.ds →
      (∀ t, s.rd t = lastW (fun i => match ops[i]? with | some o => if o.dst = some t ∧ t < s0.n then some (V i) else none | none => none) (fun i => listed.getD i false) (s0.rd t) N) →
      (∀ b, h.get b = lastW (fun i => if (L i).w.testBit b then some ((H (i + 1)).get b) else none) (fun i => listed.getD i false) (h0.get b) N) →
      p0.le p → Out p0 p c0 cn → (∀ i, i < N → listed.getD i false = false → Free p (C i) (C (i + 1))) → Free p (C N) cn → wpAny P .any ops Q fuel listed a w := by
  have sh1 : ∀ k, k < N → C k ≤ C (k + 1) ∧ (M.Rng (H k) (C k) (C (k + 1)) → Sh (H k) (H (k + 1)) (C k) (C (k + 1)) (L k)) := fun k hk => by
    obtain ⟨o, -, q⟩ := T.step k (by omega) hk
    exact step1_sh q
  have mono : ∀ i j, i ≤ j → j ≤ N → C i ≤ C j := by
    intro i j hij
    induction j with
    | zero =>
      intro _
      have : i = 0 := by omega
      rw [this]
      exact Nat.le_refl _
    | succ j ih =>
      intro hj
      by_cases e : i = j + 1
      · subst e; exact Nat.le_refl _
      · exact Nat.le_trans (ih (by omega) (by omega)) (sh1 j (by omega)).1
  have hCn : C N ≤ cn := by
    rcases hfin with ⟨-, -, -, -, h5⟩ | ⟨o, v, l, -, -, hp, -⟩
    · exact Nat.le_of_eq h5
    · obtain ⟨g, -, ev⟩ := hp.run
      exact ((all_local P K g).op _ _ _ _ _ _ _ _ ev).1
  have mon : ∀ k, k ≤ N → C k ≤ cn := fun k hk => Nat.le_trans (mono k N hk (Nat.le_refl _)) hCn
  have rng : ∀ k, k ≤ N → M.Rng (H k) (C k) cn := by
    intro k
    induction k with
    | zero => intro _; rw [T.h0, T.c0]; exact hd
    | succ k ih =>
      intro hk b h1 h2
      have hk' := ih (by omega)
      obtain ⟨hc, hsh⟩ := sh1 k (by omega)
      have A := hsh (hk'.first (mon _ hk))
      exact A.free b (.inr h1) (hk' b (by omega) h2)
  have sh : ∀ k, k < N → Sh (H k) (H (k + 1)) (C k) (C (k + 1)) (L k) := fun k hk => (sh1 k hk).2 ((rng k (by omega)).first (mon _ hk))
  have sn_ : ∀ k, k ≤ N → (S k).n = s0.n ∧ (S k).ds = s0.ds := by
    intro k
    induction k with
    | zero => intro _; rw [T.s0]; exact ⟨rfl, rfl⟩
    | succ k ih =>
      intro hk
      obtain ⟨o, -, q, -⟩ := T.step k (by omega) hk
      rw [q, Loc.n_put, Loc.ds_put]
      exact ih (by omega)
  have srd : ∀ t k, k ≤ N → (S k).rd t = lastW (fun i => match ops[i]? with | some o => if o.dst = some t ∧ t < s0.n then some (V i) else none | none => none) (fun _ => true) (s0.rd t) k := by
    intro t k
    induction k with
    | zero => intro _; rw [T.s0]; rfl
    | succ k ih =>
      intro hk
      obtain ⟨o, ho, q, -⟩ := T.step k (by omega) hk
      rw [q, Loc.rd_put, (sn_ k (by omega)).1, ih (by omega)]
      conv => rhs; unfold lastW
      rw [if_pos rfl]
      simp only [ho]
      split <;> rfl
  have hget : ∀ b k, k ≤ N → (H k).get b = lastW (fun i => if (L i).w.testBit b then some ((H (i + 1)).get b) else none) (fun _ => true) (h0.get b) k := by
    intro b k
    induction k with
    | zero => intro _; rw [T.h0]; rfl
    | succ k ih =>
      intro hk
      conv => rhs; unfold lastW
      rw [if_pos rfl]
      cases hw : (L k).w.testBit b with
      | true => rfl
      | false =>
        rw [(sh k (by omega)).out b hw, ih (by omega)]
        rfl
  have ap : ∀ i j oi oj, i < j → j < N → ops[i]? = some oi → ops[j]? = some oj → (mk ops j).testBit i = false → Apart0 ops oi oj ∧ NoClash (L i) (L j) := fun i j oi oj hij hjN hi hj hb => by
    refine ⟨?_, T.new i j (by omega) hij hjN hb⟩
    rcases (drawOK_ok hok hj).2.2 i oi hij hi with h1 | h1
    · rw [hb] at h1; cases h1
    · exact h1
  have atEnd : ∀ (listed : Array Bool) (p : Plan) (w : World) (a : Act) (s : Loc) (h : Tree AObj), (∀ i, i < ops.size → listed.getD i false = true) → (∀ i, listed.getD i false = true → i < N) →
      Rel K base w0 p h w → LocR p s a → s.n = s0.n → s.ds = s0.ds →
      (∀ t, s.rd t = lastW (fun i => match ops[i]? with | some o => if o.dst = some t ∧ t < s0.n then some (V i) else none | none => none) (fun i => listed.getD i false) (s0.rd t) N) →
      (∀ b, h.get b = lastW (fun i => if (L i).w.testBit b then some ((H (i + 1)).get b) else none) (fun i => listed.getD i false) (h0.get b) N) →
      p0.le p → Out p0 p c0 cn → Q .normal a w := by
    intro listed p w a s h hall hlt hr hs hsn hsds hrd hhg hle hout
    rcases hfin with ⟨hNs, rfl, rfl, rfl, -⟩ | ⟨o, v, l, -, -, hp, -⟩
    · refine hpost p w a hle hout (hr.congr fun b => ?_) ⟨fun t => ?_, ?_, ?_⟩
      · rw [hhg b, hget b _ (Nat.le_refl _)]
        exact (last_congr _ fun i hi _ => hall i (by omega)).symm
      · have e : (S N).rd t = s.rd t := by
          rw [hrd t, srd t _ (Nat.le_refl _)]
          exact (last_congr _ fun i hi _ => hall i (by omega)).symm
        rw [e]
        exact hs.tm t
      · rw [hs.n, hsn]; exact ((sn_ _ (Nat.le_refl _)).1).symm
      · have : (S N).ds = s.ds := by rw [hsds]; exact (sn_ _ (Nat.le_refl _)).2
        rw [this]; exact hs.ds
    · have := hlt N (hall N hp.lt)
      omega
  intro fuel
  induction fuel with
  | zero =>
    intro listed p w a s h hcnt hsz hlt hcl hr hs hsn hsds hrd hhg hle hout hfree hfreeN
    have hall : ∀ i, i < ops.size → listed.getD i false = true := by
      intro i hi
      have h0 : listed.toList.count false = 0 := by omega
      have h1 := List.count_eq_zero.1 h0
      cases hb : listed[i]? with
      | none => have := Array.getElem?_eq_none_iff.1 hb; omega
      | some b =>
        have hmem : b ∈ listed.toList := by
          have := Array.mem_of_getElem? hb
          simpa using this
        rw [Array.getD_eq_getD_getElem?, hb]
        cases b with
        | true => rfl
        | false => exact absurd hmem h1
    refine ⟨?_, ?_⟩
    · cases hrd' : Region.ready .any ops listed with
      | nil => rfl
      | cons j rest =>
        have hj : j ∈ Region.ready .any ops listed := by rw [hrd']; simp
        rw [mem_ready] at hj
        obtain ⟨hj0, o, ho, -⟩ := hj
        have hjn := (Array.getElem?_eq_some_iff.1 ho).1
        have := hall j hjn
        rw [Array.getD_eq_getD_getElem?] at this hj0
        cases hb : listed[j]? with
        | none => have := Array.getElem?_eq_none_iff.1 hb; omega
        | some b => rw [hb] at this hj0; simp at this hj0; rw [this] at hj0; cases hj0
    · exact atEnd listed p w a s h hall hlt hr hs hsn hsds hrd hhg hle hout
  | succ fuel ih =>
    intro listed p w a s h hcnt hsz hlt hcl hr hs hsn hsds hrd hhg hle hout hfree hfreeN
    have down : ∀ j o, ops[j]? = some o → (∀ e ∈ o.after, Region.binds .any e = true → listed.getD e.on false = true) → ∀ i, (mk ops j).testBit i = true → listed.getD i false = true := by
      intro j
      induction j using Nat.strongRecOn with
      | _ j ihj =>
        intro o ho hpre i hb
        obtain ⟨e, h1, h2, h3⟩ := mk_bit ho hb
        have he := hpre e (by simpa using h1) h2
        rcases h3 with rfl | h3
        · exact he
        · have hlt := (drawOK_ok hok ho).1 e h1 h2
          have hjn := (Array.getElem?_eq_some_iff.1 ho).1
          have hoe : ops[e.on]? = some (ops[e.on]'(by omega)) := Array.getElem?_eq_getElem (by omega)
          exact ihj e.on hlt _ hoe (hcl _ _ he hoe) i h3
    -- what an operation that is ready looks at is what it looked at in the text's order
    have gen : ∀ (j : Nat) (o : Oper) (lj : Log) (cj : Nat), j ≤ N → ops[j]? = some o → listed.getD j false = false → (∀ i oi, i ≠ j → i < N → ops[i]? = some oi → ¬(listed.getD i false = true ↔ i < j) → Apart0 ops oi o ∧ NoClash (L i) lj) →
        cj ≤ cn → (∀ b, C j ≤ b → b < cj → lj.t.testBit b = true) →
        (∀ b, lj.t.testBit b = true → h.get b = (H j).get b) ∧ (∀ x ∈ o.op.operands, envOf K s x = envOf K (S j) x) ∧ Region.wanted o (yieldedX ops s) = Region.wanted o (yieldedX ops (S j)) ∧ M.Rng h (C j) cj := by
      intro j o lj cj hjN ho hDj pair hcj hfr
      have agreeS : ∀ t, t ∈ slotsOf ops o → s.rd t = (S j).rd t := by
        intro t ht
        rw [hrd t, srd t j hjN]
        refine last_agree N hjN fun i hi hw => ?_
        by_cases e : i = j
        · subst e
          rw [hDj]; simp
        · try dsimp only at hw
          cases hoi : ops[i]? with
          | none => rw [hoi] at hw; exact absurd rfl hw
          | some oi =>
            rw [hoi] at hw
            dsimp only at hw
            split at hw
            · rename_i hdst
              by_cases hnot : (listed.getD i false = true ↔ i < j)
              · exact hnot
              · exact absurd ht ((pair i oi e hi hoi hnot).1.1 t hdst.1)
            · exact absurd rfl hw
      have agreeH : ∀ b, lj.t.testBit b = true → h.get b = (H j).get b := by
        intro b hb
        rw [hhg b, hget b j hjN]
        refine last_agree N hjN fun i hi hw => ?_
        by_cases e : i = j
        · subst e
          rw [hDj]; simp
        · try dsimp only at hw
          split at hw
          · rename_i hwb
            by_cases hnot : (listed.getD i false = true ↔ i < j)
            · exact hnot
            · exact ((pair i _ e hi (Array.getElem?_eq_getElem (by omega)) hnot).2.1 b hwb hb).elim
          · exact absurd rfl hw
      refine ⟨agreeH, fun x hx => ?_, ?_, ?_⟩
      · cases x with
        | tmp t =>
          show some (s.rd t) = some ((S j).rd t)
          rw [agreeS t]
          unfold slotsOf Oper.looksAt
          refine List.mem_append_right _ (List.mem_append_left _ (List.mem_filterMap.2 ⟨.tmp t, by simpa using hx, rfl⟩))
        | _ => rfl
      · unfold Region.wanted
        cases hg : o.guard with
        | none => rfl
        | some gw =>
          obtain ⟨g, want⟩ := gw
          have : yieldedX ops s g = yieldedX ops (S j) g := by
            unfold yieldedX
            cases hd : (ops[g]?).bind (·.dst) with
            | none => rfl
            | some d =>
              dsimp only
              rw [agreeS d]
              unfold slotsOf Oper.looksAt
              refine List.mem_append_right _ (List.mem_append_right _ ?_)
              rw [hg]
              simp [hd]
          simp only [this]
      · intro b h1 h2
        rw [hhg b, last_none]
        · have h3 := mono 0 j (by omega) hjN
          rw [T.c0] at h3
          exact hd b (by omega) (by omega)
        · intro i hi hDi
          cases hwi : (L i).w.testBit b with
          | false => rfl
          | true =>
            exfalso
            have e : i ≠ j := by rintro rfl; rw [hDj] at hDi; cases hDi
            by_cases hlt : i < j
            · have hi1 := mono (i + 1) j hlt hjN
              have hi2 := mono i j (by omega) hjN
              exact (sh i hi).old b (.inr (by omega)) ((sh i hi).sub b hwi) (rng i (by omega) b (by omega) (by omega))
            · exact (pair i _ e hi (Array.getElem?_eq_getElem (by omega)) (fun h => hlt (h.1 hDi))).2.1 b hwi (hfr b h1 h2)
    refine ⟨fun hnil => ?_, fun j hj => ?_⟩
    · have hall : ∀ i, i < ops.size → listed.getD i false = true := by
        intro i
        induction i using Nat.strongRecOn with
        | _ i ihi =>
          intro hi
          cases hb : listed.getD i false with
          | true => rfl
          | false =>
            have : i ∈ Region.ready .any ops listed := by
              rw [mem_ready]
              have ho : ops[i]? = some (ops[i]'hi) := Array.getElem?_eq_getElem hi
              refine ⟨?_, _, ho, fun e he hbd => ?_⟩
              · rw [Array.getD_eq_getD_getElem?] at hb ⊢
                cases hb' : listed[i]? with
                | none => have := Array.getElem?_eq_none_iff.1 hb'; omega
                | some b => rw [hb'] at hb; simpa using hb
              · have hlt := (drawOK_ok hok ho).1 e (by simpa using he) hbd
                exact ihi e.on hlt (by omega)
            rw [hnil] at this
            simp at this
      exact atEnd listed p w a s h hall hlt hr hs hsn hsds hrd hhg hle hout
    · rw [mem_ready] at hj
      obtain ⟨hj0, o, ho, hpre⟩ := hj
      have hjn : j < ops.size := (Array.getElem?_eq_some_iff.1 ho).1
      have hjl : listed[j]? = some false := by
        rw [Array.getD_eq_getD_getElem?] at hj0
        cases hb : listed[j]? with
        | none => have := Array.getElem?_eq_none_iff.1 hb; omega
        | some b => rw [hb] at hj0; simp at hj0; rw [hj0]
      have hDj : listed.getD j false = false := by rw [Array.getD_eq_getD_getElem?, hjl]; rfl
      by_cases hjN : j < N
      · -- those that are not as in the text are apart
        have pair : ∀ i oi, i ≠ j → i < N → ops[i]? = some oi → ¬(listed.getD i false = true ↔ i < j) → Apart0 ops oi o ∧ NoClash (L i) (L j) := by
          intro i oi hne hiN hoi hnot
          cases hDi : listed.getD i false with
          | true =>
            have hji : j < i := by
              have : ¬ i < j := fun h => hnot ⟨fun _ => h, fun _ => hDi⟩
              omega
            have hb : (mk ops i).testBit j = false := by
              cases hb : (mk ops i).testBit j with
              | false => rfl
              | true =>
                have := down i oi hoi (hcl i oi hDi hoi) j hb
                rw [hDj] at this; cases this
            obtain ⟨k1, k2⟩ := ap j i o oi hji hiN ho hoi hb
            exact ⟨k1.symm, k2.symm⟩
          | false =>
            have hij : i < j := by
              have : ¬ ¬ i < j := fun h => hnot ⟨fun h' => (by rw [hDi] at h'; cases h'), fun h' => absurd h' h⟩
              omega
            have hb : (mk ops j).testBit i = false := by
              cases hb : (mk ops j).testBit i with
              | false => rfl
              | true =>
                have := down j o ho hpre i hb
                rw [hDi] at this; cases this
            exact ap i j oi o hij hjN hoi ho hb
        have hcnt' : (listed.setIfInBounds j true).toList.count false ≤ fuel := by
          have := count_set listed.toList j (by simpa using hjl)
          rw [Array.toList_setIfInBounds]
          omega
        have hsz' : (listed.setIfInBounds j true).size = ops.size := by simpa using hsz
        have hD1 : ∀ i, i ≠ j → (listed.setIfInBounds j true).getD i false = listed.getD i false := fun i hi => getD_set_ne false (Ne.symm hi)
        have hD2 : (listed.setIfInBounds j true).getD j false = true := by
          rw [Array.getD_eq_getD_getElem?, Array.getElem?_setIfInBounds_self]
          have : j < listed.size := by omega
          simp [this]
        have hlt' : ∀ i, (listed.setIfInBounds j true).getD i false = true → i < N := by
          intro i hi
          by_cases e : i = j
          · subst e; exact hjN
          · rw [hD1 i e] at hi; exact hlt i hi
        have hcl' : ∀ j' o', (listed.setIfInBounds j true).getD j' false = true → ops[j']? = some o' → ∀ e ∈ o'.after, Region.binds .any e = true → (listed.setIfInBounds j true).getD e.on false = true := by
          intro j' o' h1 h2 e he hb
          by_cases e' : j' = j
          · subst e'
            obtain rfl : o = o' := Option.some.inj (ho.symm.trans h2)
            exact getD_set_true (hpre e he hb)
          · rw [hD1 j' e'] at h1
            exact getD_set_true (hcl j' o' h1 h2 e he hb)
        have stepS : ∀ t, (s.put o.dst (V j)).rd t = lastW (fun i => match ops[i]? with | some o => if o.dst = some t ∧ t < s0.n then some (V i) else none | none => none) (fun i => (listed.setIfInBounds j true).getD i false) (s0.rd t) N := by
          intro t
          rw [last_step (D := fun i => listed.getD i false) hD1 hD2 hDj N hjN (fun i hi hDi hwi hwj => ?_), ← hrd t, Loc.rd_put, hsn]
          · simp only [ho]
            split <;> rfl
          · try dsimp only at hwi hwj
            rw [ho] at hwj
            dsimp only at hwj
            split at hwj
            · rename_i hdj
              by_cases hlt : i < j
              · exact hlt
              · exfalso
                have e : i ≠ j := by rintro rfl; rw [hDj] at hDi; cases hDi
                have hisz : i < ops.size := by omega
                rw [Array.getElem?_eq_getElem hisz] at hwi
                dsimp only at hwi
                split at hwi
                · rename_i hdi
                  refine (pair i _ e hi (Array.getElem?_eq_getElem hisz) (fun h => hlt (h.1 hDi))).1.1 t hdi.1 ?_
                  unfold slotsOf
                  exact List.mem_append_left _ (by simp [hdj.1])
                · exact absurd rfl hwi
            · exact absurd rfl hwj
        have hsj := sh j hjN
        obtain ⟨agreeH, henv, hwant, hrj⟩ := gen j o (L j) (C (j + 1)) (by omega) ho hDj pair (mon _ hjN) (fun b h1 h2 => hsj.sub b (hsj.fresh b h1 h2))
        obtain ⟨o1, ho1, hput, hstep⟩ := T.step j (by omega) hjN
        obtain rfl : o = o1 := Option.some.inj (ho.symm.trans ho1)
        unfold wpOp
        rw [ho]
        dsimp only
        rw [← yieldedX_eq hs ops, hwant]
        rcases hstep with ⟨hw, g, hg, ev⟩ | ⟨hw, hv, hh, hc, hl⟩
        · rw [if_pos hw]
          refine .inl ?_
          have loc := ((all_local P K g).op o (envOf K (S j)) _ _ _ _ _ _ ev).2 ((rng j (by omega)).first (mon _ hjN))
          obtain ⟨g', ev', k1, k2⟩ := loc.move h hrj (fun b _ hb => agreeH b hb)
          rw [← evOp_congr P K o henv] at ev'
          have hfj := hfree j hjN hDj
          refine (hop g hg o (envOf K s) h (C j) _ g' (C (j + 1)) (L j) hrj ev' p w a hr (envR hr hs) hfj).2 (by simp) _ _ fun p' w' q1 q2 q3 v' q4 => ?_
          refine ih _ p' w' _ (s.put o.dst (V j)) g' hcnt' hsz' hlt' hcl' q3 ((hs.mono q1).put q4 _) (by rw [Loc.n_put]; exact hsn) (by rw [Loc.ds_put]; exact hsds) stepS (fun b => ?_) (Plan.le_trans hle q1) (fun b hb => ?_) (fun i hi hDi b h1 h2 => ?_) (fun b h1 h2 => ?_)
          · rw [last_step (D := fun i => listed.getD i false) hD1 hD2 hDj N hjN (fun i hi hDi hwi hwj => ?_), ← hhg b]
            · cases hwb : (L j).w.testBit b with
              | true => rw [k1 b hwb]; rfl
              | false => rw [k2 b hwb]; rfl
            · try dsimp only at hwi hwj
              split at hwj
              · rename_i hwbj
                split at hwi
                · rename_i hwbi
                  by_cases hlt : i < j
                  · exact hlt
                  · exfalso
                    have e : i ≠ j := by rintro rfl; rw [hDj] at hDi; cases hDi
                    exact (pair i _ e hi (Array.getElem?_eq_getElem (by omega)) (fun h => hlt (h.1 hDi))).2.1 b hwbi (hsj.sub b hwbj)
                · exact absurd rfl hwi
              · exact absurd rfl hwj
          · have hj1 := mono 0 j (by omega) (by omega)
            have hj2 := mon (j + 1) hjN
            rw [T.c0] at hj1
            rw [q2 b (by omega), hout b hb]
          · have e : i ≠ j := by rintro rfl; rw [hD2] at hDi; cases hDi
            rw [hD1 i e] at hDi
            rw [q2 b ?_]
            · exact hfree i hi hDi b h1 h2
            · by_cases hlt : i < j
              · have := mono (i + 1) j hlt (by omega); omega
              · have := mono (j + 1) i (by omega) (by omega); omega
          · have := mono (j + 1) N hjN (Nat.le_refl _)
            rw [q2 b (by omega)]
            exact hfreeN b h1 h2
        · rw [if_neg (by rw [hw]; simp)]
          refine ih _ p w _ (s.put o.dst undef) h hcnt' hsz' hlt' hcl' hr (hs.put undef_vr _) (by rw [Loc.n_put]; exact hsn) (by rw [Loc.ds_put]; exact hsds) (by rw [← hv]; exact stepS) (fun b => ?_) hle hout (fun i hi hDi => ?_) hfreeN
          · rw [last_step (D := fun i => listed.getD i false) hD1 hD2 hDj N hjN (fun i hi hDi hwi hwj => ?_), ← hhg b]
            · rw [hl]; simp [Log.no]
            · rw [hl] at hwj; simp [Log.no] at hwj
          · have e : i ≠ j := by rintro rfl; rw [hD2] at hDi; cases hDi
            rw [hD1 i e] at hDi
            exact hfree i hi hDi
      · -- the operation that panics
        rcases hfin with ⟨hNs, -⟩ | ⟨o1, v, l, rfl, rfl, hp, hq⟩
        · omega
        by_cases hjN2 : j = N
        · subst hjN2
          obtain rfl : o = o1 := Option.some.inj (ho.symm.trans hp.op)
          obtain ⟨g, hg, ev⟩ := hp.run
          have loc := ((all_local P K g).op o (envOf K (S j)) _ _ _ _ _ _ ev).2 (rng j (Nat.le_refl _))
          have unl : ∀ i, i < j → listed.getD i false = false → (mk ops j).testBit i = false := by
            intro i hi hDi
            cases hb : (mk ops j).testBit i with
            | false => rfl
            | true =>
              have := down j o ho hpre i hb
              rw [hDi] at this; cases this
          have pair : ∀ i oi, i ≠ j → i < j → ops[i]? = some oi → ¬(listed.getD i false = true ↔ i < j) → Apart0 ops oi o ∧ NoClash (L i) l := by
            intro i oi hne hij hoi hnot
            cases hDi : listed.getD i false with
            | true => exact absurd ⟨fun _ => hij, fun _ => hDi⟩ hnot
            | false =>
              have hb := unl i hij hDi
              refine ⟨?_, (hq.2 i (by omega) hij hb).1⟩
              rcases (drawOK_ok hok ho).2.2 i oi hij hoi with h1 | h1
              · rw [hb] at h1; cases h1
              · exact h1
          obtain ⟨agreeH, henv, hwant, hrj⟩ := gen j o l cn (Nat.le_refl _) ho hDj pair (Nat.le_refl _) (fun b h1 h2 => loc.sub b (loc.fresh b h1 h2))
          unfold wpOp
          rw [ho]
          dsimp only
          rw [← yieldedX_eq hs ops, hwant, if_pos hp.wanted]
          refine .inl ?_
          obtain ⟨g', ev', k1, k2⟩ := loc.move h hrj (fun b _ hb => agreeH b hb)
          rw [← evOp_congr P K o henv] at ev'
          refine (hop g hg o (envOf K s) h (C j) _ g' cn l hrj ev' p w a hr (envR hr hs) hfreeN).2 (by simp) _ _ fun p' w' q1 q2 q3 v' q4 => ?_
          refine hpost p' w' a (Plan.le_trans hle q1) (fun b hb => ?_) (q3.congr fun b => ?_) ⟨fun t ht => ?_, ?_, ?_⟩ v' q4
          · have hj1 := mono 0 j (by omega) (by omega)
            rw [T.c0] at hj1
            rw [q2 b (by omega), hout b hb]
          · cases hwb : l.w.testBit b with
            | true => rw [k1 b hwb]
            | false =>
              rw [k2 b hwb, loc.out b hwb, hhg b, hget b _ (Nat.le_refl _)]
              refine (last_congr _ fun i hi hw => ?_).symm
              cases hDi : listed.getD i false with
              | true => rfl
              | false =>
                have := (hq.2 i (by omega) hi (unl i hi hDi)).2
                try dsimp only at hw
                rw [this] at hw
                simp at hw
          · have hno : ∀ i, i < j → (match ops[i]? with | some o => if o.dst = some t ∧ t < s0.n then some (V i) else none | none => none) = none := by
              intro i hi
              cases hoi : ops[i]? with
              | none => rfl
              | some oi =>
                dsimp only
                rw [if_neg]
                rintro ⟨h1, -⟩
                exact ht (List.mem_filterMap.2 ⟨oi, by simpa using Array.mem_of_getElem? hoi, h1⟩)
            have e : (S j).rd t = s.rd t := by
              rw [hrd t, srd t _ (Nat.le_refl _), last_none _ fun i hi _ => hno i hi, last_none _ fun i hi _ => hno i hi]
            rw [e]
            exact (hs.tm t).mono q1
          · rw [hs.n, hsn]; exact ((sn_ _ (Nat.le_refl _)).1).symm
          · have : (S j).ds = s.ds := by rw [hsds]; exact (sn_ _ (Nat.le_refl _)).2
            rw [this]; exact hs.ds.mono q1
        · have := down j o ho hpre N (hp.after j (by omega) hjn)
          have := hlt N this
          omega
theorem draw_region {f : Nat} (hm : P.follows .mixedOrders = true) (hop : ∀ g, g < f → OpOK P K base w0 g) {id : Nat} {ops : Array Oper} {s : Loc} {h : Tree AObj} {c0 : Nat} {x : XE} {s' : Loc} {h' : Tree AObj} {c1 : Nat} {l : Log}
    (hok : drawOK ops = true) (hd : M.Rng h c0 c1) (e : evDraw P K f ops ops.toList (masks ops.toList 0 .leaf) 0 [] s h c0 = .ok (x, s') h' c1 l)
    {p : Plan} {w : World} {a : Act} {Q : Exit → Act → World → Prop} (hr : Rel K base w0 p h w) (hs : LocR p s a) (hf : Free p c0 c1) (hp : Post K base w0 p c0 c1 h' x s' Q) : (Code.region id ops true).wp P Q a w := by
  obtain ⟨N, S, H, C, L, V, -, hN, T, E⟩ := draw_trace P K hok f _ _ 0 [] s h c0 x s' h' c1 l e (by simp) (by simp [msOf]) (by omega)
  refine wp_region_any hm ?_
  have hD : ∀ i : Nat, (Array.replicate ops.size false).getD i false = false := fun i => by
    rw [Array.getD_eq_getD_getElem?, Array.getElem?_replicate]
    split <;> rfl
  have mono : ∀ i j, i ≤ j → j ≤ N → C i ≤ C j := by
    intro i j hij
    induction j with
    | zero =>
      intro _
      have : i = 0 := by omega
      rw [this]
      exact Nat.le_refl _
    | succ j ih =>
      intro hj
      by_cases e : i = j + 1
      · subst e; exact Nat.le_refl _
      · obtain ⟨o, -, q⟩ := T.step j (by omega) hj
        exact Nat.le_trans (ih (by omega) (by omega)) (step1_sh q).1
  have hCn : C N ≤ c1 := by
    rcases E with ⟨-, -, -, -, h5⟩ | ⟨o, v, l, -, -, hp, -⟩
    · exact Nat.le_of_eq h5
    · obtain ⟨g, -, ev⟩ := hp.run
      exact ((all_local P K g).op _ _ _ _ _ _ _ _ ev).1
  have h00 := mono 0 N (by omega) (Nat.le_refl _)
  rw [T.c0] at h00
  refine draw_any hop hN hok hd T E hp ops.size _ p w.drew a s h ?_ (by simp) (fun i hi => by rw [hD] at hi; cases hi) (fun j o hj => by rw [hD] at hj; cases hj) hr.drew hs rfl rfl (fun t => ?_) (fun b => ?_) (Plan.le_refl _) Out.rfl (fun i hi _ b h1 h2 => ?_) (fun b h1 h2 => hf b (by omega) (by omega))
  · simp
  · exact (last_none _ fun i hi h => by rw [hD] at h; cases h).symm
  · exact (last_none _ fun i hi h => by rw [hD] at h; cases h).symm
  · have h3 := mono 0 i (by omega) (by omega)
    have h4 := mono (i + 1) N hi (Nat.le_refl _)
    rw [T.c0] at h3
    exact hf b (by omega) (by omega)
end
end Ev
end Go.Proofs.YtakfgbedmglffaaGreatDoor
