/- What a function comes to on blocks of a given shape: shown once on a small heap of the evaluator's own, told wherever such blocks stand. No program in sight. -/
import Derived.Test.YtdfeelmphlellaaGreatDoorMz
namespace Go.Proofs.YtdfeelmphlellaaGreatDoor
set_option linter.unusedSimpArgs false
set_option linter.unusedVariables false
namespace Ev
open Go.RowKit

abbrev Ren := List (Nat × Nat)
def lk (n : Nat) : Ren → Option Nat
  | [] => none
  | x :: ρ => match Nat.beq x.1 n with
    | true => some x.2
    | false => lk n ρ
def bindN (ρ : Ren) (n b : Nat) : Option Ren := match lk n ρ with
  | some b' => match Nat.beq b' b with
    | true => some ρ
    | false => none
  | none => some ((n, b) :: ρ)
def Ext (ρ ρ' : Ren) : Prop := ∀ n b, lk n ρ = some b → lk n ρ' = some b
theorem Ext.refl (ρ : Ren) : Ext ρ ρ := fun _ _ h => h
theorem Ext.trans {a b c : Ren} (h : Ext a b) (k : Ext b c) : Ext a c := fun n x e => k n x (h n x e)
theorem bindN_ok {ρ ρ' : Ren} {n b : Nat} (e : bindN ρ n b = some ρ') : Ext ρ ρ' ∧ lk n ρ' = some b := by
  unfold bindN at e
  cases hl : lk n ρ with
  | some b' =>
    rw [hl] at e
    dsimp only at e
    cases hb : Nat.beq b' b with
    | true =>
      rw [hb] at e
      cases e
      rw [← Nat.eq_of_beq_eq_true hb]
      exact ⟨Ext.refl _, hl⟩
    | false => rw [hb] at e; cases e
  | none =>
    rw [hl] at e
    cases e
    refine ⟨fun m x hm => ?_, ?_⟩
    · unfold lk
      dsimp only
      cases hb : Nat.beq n m with
      | true => rw [Nat.eq_of_beq_eq_true hb, hm] at hl; cases hl
      | false => exact hm
    · unfold lk
      dsimp only
      rw [show Nat.beq n n = true from Nat.beq_refl n]
/-- a plan by other numbers -/
def Plan.by (p : Plan) (ρ : Ren) : Plan := fun n => match lk n ρ with
  | some b => p b
  | none => none
theorem Plan.by_at {p : Plan} {ρ : Ren} {n b : Nat} (h : lk n ρ = some b) : Plan.by p ρ n = p b := by unfold Plan.by; rw [h]
/-- does a cell fit a pattern's? the pattern's numbers are bound -/
def uniC (ρ : Ren) (v0 v : Value) : Option Ren := match v0 with
  | .bool a => match v with
    | .bool b => if a = b then some ρ else none
    | _ => none
  | .int k a => match v with
    | .int k' b => if k = k' ∧ a = b then some ρ else none
    | _ => none
  | .slice none 0 0 => match v with
    | .slice none 0 0 => some ρ
    | _ => none
  | .slice (some ⟨n, o, none⟩) l c => match v with
    | .slice (some ⟨b, o', none⟩) l' c' => if o = o' ∧ l = l' ∧ c = c' then bindN ρ n b else none
    | _ => none
  | _ => none
def Fits (ρ ρ' : Ren) (v0 v : Value) : Prop := Ext ρ ρ' ∧ ∀ ρ'', Ext ρ' ρ'' → ∀ (p : Plan) v', VR p v v' → VR (Plan.by p ρ'') v0 v'
theorem uniC_ok {ρ ρ' : Ren} {v0 v : Value} (e : uniC ρ v0 v = some ρ') : Fits ρ ρ' v0 v := by
  unfold uniC at e
  split at e
  · split at e
    · split at e
      · rename_i h; subst h; cases e
        refine ⟨Ext.refl _, fun ρ'' _ p v' hv => ?_⟩
        cases hv; exact .bool _
      · cases e
    · cases e
  · split at e
    · split at e
      · rename_i h; obtain ⟨rfl, rfl⟩ := h; cases e
        refine ⟨Ext.refl _, fun ρ'' _ p v' hv => ?_⟩
        cases hv; exact .int _ _
      · cases e
    · cases e
  · split at e
    · cases e
      refine ⟨Ext.refl _, fun ρ'' _ p v' hv => ?_⟩
      cases hv; exact .nilSlice
    · cases e
  · split at e
    · split at e
      · rename_i h; obtain ⟨rfl, rfl, rfl⟩ := h
        obtain ⟨h1, h2⟩ := bindN_ok e
        refine ⟨h1, fun ρ'' hx p v' hv => ?_⟩
        have h3 := hx _ _ h2
        cases hv with
        | slice hs a b => exact .slice ((Plan.by_at h3).trans hs) a b
        | sliceU hs a b c => exact .sliceU ((Plan.by_at h3).trans hs) a b c
        | sliceE hs a b => exact .sliceE ((Plan.by_at h3).trans hs) a b
      · cases e
    · cases e
  · cases e
def uniL (ρ : Ren) : List Value → List Value → Option Ren
  | [], [] => some ρ
  | v0 :: l0, v :: l => match uniC ρ v0 v with
    | some ρ' => uniL ρ' l0 l
    | none => none
  | _, _ => none
def FitsL (ρ ρ' : Ren) (l0 l : List Value) : Prop := Ext ρ ρ' ∧ ∀ ρ'', Ext ρ' ρ'' → ∀ (p : Plan) l', VRs p l l' → VRs (Plan.by p ρ'') l0 l'
theorem uniL_ok : ∀ {l0 l : List Value} {ρ ρ' : Ren}, uniL ρ l0 l = some ρ' → FitsL ρ ρ' l0 l
  | [], [], ρ, ρ', e => by
    cases e
    refine ⟨Ext.refl _, fun ρ'' _ p v' hv => ?_⟩
    cases hv; exact .nil
  | v0 :: l0, v :: l, ρ, ρ', e => by
    unfold uniL at e
    cases hc : uniC ρ v0 v with
    | none => rw [hc] at e; cases e
    | some ρ1 =>
      rw [hc] at e
      obtain ⟨a1, a2⟩ := uniC_ok hc
      obtain ⟨b1, b2⟩ := uniL_ok e
      refine ⟨a1.trans b1, fun ρ'' hx p l' hv => ?_⟩
      cases hv with
      | cons h1 h2 => exact .cons (a2 ρ'' (b1.trans hx) p _ h1) (b2 ρ'' hx p _ h2)
  | [], _ :: _, _, _, e => by cases e
  | _ :: _, [], _, _, e => by cases e
/-- arguments: a struct is met part by part -/
def uniA1 (ρ : Ren) (v0 v : Value) : Option Ren := match v0 with
  | .agg a => match v with
    | .agg b => uniL ρ a.toList b.toList
    | _ => none
  | v0 => uniC ρ v0 v
theorem uniA1_ok {ρ ρ' : Ren} {v0 v : Value} (e : uniA1 ρ v0 v = some ρ') : Fits ρ ρ' v0 v := by
  unfold uniA1 at e
  split at e
  · split at e
    · obtain ⟨h1, h2⟩ := uniL_ok e
      refine ⟨h1, fun ρ'' hx p v' hv => ?_⟩
      cases hv with
      | agg h => exact .agg (h2 ρ'' hx p _ h)
    · cases e
  · exact uniC_ok e
def uniA (ρ : Ren) : List Value → List Value → Option Ren
  | [], [] => some ρ
  | v0 :: l0, v :: l => match uniA1 ρ v0 v with
    | some ρ' => uniA ρ' l0 l
    | none => none
  | _, _ => none
theorem uniA_ok : ∀ {l0 l : List Value} {ρ ρ' : Ren}, uniA ρ l0 l = some ρ' → FitsL ρ ρ' l0 l
  | [], [], ρ, ρ', e => by
    cases e
    refine ⟨Ext.refl _, fun ρ'' _ p v' hv => ?_⟩
    cases hv; exact .nil
  | v0 :: l0, v :: l, ρ, ρ', e => by
    unfold uniA at e
    cases hc : uniA1 ρ v0 v with
    | none => rw [hc] at e; cases e
    | some ρ1 =>
      rw [hc] at e
      obtain ⟨a1, a2⟩ := uniA1_ok hc
      obtain ⟨b1, b2⟩ := uniA_ok e
      refine ⟨a1.trans b1, fun ρ'' hx p l' hv => ?_⟩
      cases hv with
      | cons h1 h2 => exact .cons (a2 ρ'' (b1.trans hx) p _ h1) (b2 ρ'' hx p _ h2)
  | [], _ :: _, _, _, e => by cases e
  | _ :: _, [], _, _, e => by cases e
abbrev Rw := List Value × TypeId × Nat
/-- the blocks of a pattern, one after the other -/
noncomputable def toldRows : List Rw → Nat → Ren → M AObj Ren
  | [], _, ρ => M.pure ρ
  | r0 :: l, i, ρ => match lk i ρ with
    | none => M.fail
    | some b => M.bind (rdRow b) fun r => if r.2.1 = r0.2.1 ∧ r.2.2 = r0.2.2 then (match uniL ρ r0.1 r.1 with
      | some ρ' => toldRows l (i + 1) ρ'
      | none => M.fail) else M.fail
theorem local_toldRows : ∀ (l : List Rw) (i : Nat) (ρ : Ren), M.Local (toldRows l i ρ)
  | [], _, _ => M.local_pure _
  | r0 :: l, i, ρ => by
    unfold toldRows
    split
    · exact M.local_fail
    · refine M.local_bind (local_rdRow _) fun r => ?_
      split
      · split
        · exact local_toldRows _ _ _
        · exact M.local_fail
      · exact M.local_fail
theorem toldRows_ok : ∀ {l : List Rw} {i : Nat} {ρ ρ' : Ren} {h h' : Tree AObj} {c c' : Nat} {lg : Log}, toldRows l i ρ h c = .ok ρ' h' c' lg → h' = h ∧ c' = c ∧ Ext ρ ρ' ∧
    ∀ j r0, l[j]? = some r0 → ∃ b cs, lk (i + j) ρ' = some b ∧ h.get b = some (.row cs r0.2.1 r0.2.2) ∧ ∀ ρ'', Ext ρ' ρ'' → ∀ (p : Plan) l', VRs p cs l' → VRs (Plan.by p ρ'') r0.1 l'
  | [], i, ρ, ρ', h, h', c, c', lg, e => by
    obtain ⟨rfl, rfl, rfl⟩ := pure_inv e
    exact ⟨rfl, rfl, Ext.refl _, fun j r0 hj => by simp at hj⟩
  | r0 :: l, i, ρ, ρ', h, h', c, c', lg, e => by
    unfold toldRows at e
    cases hl : lk i ρ with
    | none => rw [hl] at e; cases e
    | some b =>
      rw [hl] at e
      dsimp only at e
      obtain ⟨r, h1, c1, l1, l2, e1, e2⟩ := bind_inv e
      obtain ⟨e3, rfl, rfl⟩ := rdRow_inv e1
      split at e2
      · rename_i ht
        obtain ⟨ht1, ht2⟩ := ht
        cases hu : uniL ρ r0.1 r.1 with
        | none => rw [hu] at e2; cases e2
        | some ρ1 =>
          rw [hu] at e2
          obtain ⟨a1, a2⟩ := uniL_ok hu
          obtain ⟨rfl, rfl, b1, b2⟩ := toldRows_ok e2
          refine ⟨rfl, rfl, a1.trans b1, fun j r1 hj => ?_⟩
          cases j with
          | zero =>
            simp at hj
            subst hj
            refine ⟨b, r.1, b1 _ _ (a1 _ _ hl), by rw [← ht1, ← ht2]; exact e3, fun ρ'' hx p l' hv => a2 ρ'' (b1.trans hx) p l' hv⟩
          | succ j =>
            have := b2 j r1 (by simpa using hj)
            rw [show i + (j + 1) = i + 1 + j by omega]
            exact this
      · cases e2
noncomputable def rowsT : List Rw → Nat → Tree AObj → Tree AObj
  | [], _, t => t
  | r :: l, i, t => rowsT l (i + 1) (t.set i (some (.row r.1 r.2.1 r.2.2)))
theorem rowsT_get : ∀ (l : List Rw) (i : Nat) (t : Tree AObj) (k : Nat), (rowsT l i t).get k = if i ≤ k ∧ k < i + l.length then (l[k - i]?).map (fun r => .row r.1 r.2.1 r.2.2) else t.get k
  | [], i, t, k => by rw [rowsT, if_neg (by simp only [List.length_nil]; omega)]
  | r :: l, i, t, k => by
    rw [rowsT, rowsT_get l (i + 1), Tree.get_set]
    simp only [List.length_cons]
    by_cases h : i + 1 ≤ k ∧ k < i + 1 + l.length
    · rw [if_pos h, if_pos (by omega)]
      obtain ⟨m, rfl⟩ : ∃ m, k = i + 1 + m := ⟨k - (i + 1), by omega⟩
      rw [show i + 1 + m - (i + 1) = m by omega, show i + 1 + m - i = m + 1 by omega]
      rfl
    · rw [if_neg h]
      by_cases e : k = i
      · subst e
        rw [if_pos rfl, if_pos (by omega), Nat.sub_self]
        rfl
      · rw [if_neg e, if_neg (by omega)]
/-- the pattern's numbers are below n, and its blocks are different ones -/
def sound (ρ : Ren) (n m : Nat) : Bool := ρ.all (fun x => Nat.blt x.1 n) && ((List.range m).all fun i => (List.range i).all fun j => !(lk i ρ == lk j ρ)) && Nat.ble m n
def cfgT (n : Nat) : Cfg := ⟨n, 0, [], noOrc, fun _ _ _ h => (by cases h), fun _ => True, fun _ _ _ _ => trivial⟩
theorem lk_none {n b : Nat} : ∀ {ρ : Ren}, ρ.all (fun x => Nat.blt x.1 n) = true → n ≤ b → lk b ρ = none
  | [], _, _ => rfl
  | x :: ρ, h, hb => by
    rw [List.all_cons, Bool.and_eq_true] at h
    unfold lk
    cases hx : Nat.beq x.1 b with
    | true =>
      have h1 := Nat.eq_of_beq_eq_true hx
      have h2 : x.1 + 1 ≤ n := by have := h.1; simpa [Nat.blt] using this
      omega
    | false => exact lk_none h.2 hb
section
variable {P : Program} {K : Cfg} {base : Nat} {w0 : World}
theorem told_rel {l : List Rw} {n : Nat} {ρ ρ' : Ren} {h h' : Tree AObj} {c c' : Nat} {lg : Log} (e : toldRows l 0 ρ h c = .ok ρ' h' c' lg) (hs : sound ρ' n l.length = true) {p : Plan} {w : World} (hr : Rel K base w0 p h w) :
    Rel (cfgT n) w.heap.size w (Plan.by p ρ') (rowsT l 0 .leaf) w ∧ ∀ b, n ≤ b → Plan.by p ρ' b = none := by
  obtain ⟨-, -, -, hrows⟩ := toldRows_ok e
  unfold sound at hs
  simp only [Bool.and_eq_true] at hs
  obtain ⟨⟨h1, h2⟩, h3⟩ := hs
  have hle := Nat.le_of_ble_eq_true h3
  have content : ∀ k o, (rowsT l 0 .leaf).get k = some o → k < l.length ∧ ∃ r0 b cs, l[k]? = some r0 ∧ o = .row r0.1 r0.2.1 r0.2.2 ∧ lk k ρ' = some b ∧ h.get b = some (.row cs r0.2.1 r0.2.2) ∧ ∀ (p : Plan) l', VRs p cs l' → VRs (Plan.by p ρ') r0.1 l' := by
    intro k o hk
    rw [rowsT_get] at hk
    split at hk
    · rename_i hlt
      have hlt : k < l.length := by omega
      rw [Nat.sub_zero, List.getElem?_eq_getElem hlt] at hk
      simp at hk
      obtain ⟨b, cs, q1, q2, q3⟩ := hrows k l[k] (List.getElem?_eq_getElem hlt)
      rw [Nat.zero_add] at q1
      exact ⟨hlt, _, b, cs, List.getElem?_eq_getElem hlt, hk.symm, q1, q2, fun p l' hv => q3 ρ' (Ext.refl _) p l' hv⟩
    · cases hk
  have dist : ∀ i j, i < l.length → j < i → lk i ρ' ≠ lk j ρ' := fun i j hi hj => by
    have := List.all_eq_true.1 h2 i (List.mem_range.2 hi)
    have := List.all_eq_true.1 this j (List.mem_range.2 hj)
    simpa using this
  refine ⟨⟨Below.refl _ _, Nat.le_refl _, fun b hb => absurd hb (Nat.not_lt_zero _), ⟨fun x hx => (by cases hx), trivial⟩, fun k o hk => ?_, fun k k' o o' s s' hk hk' hp hp' hb => ?_⟩, fun b hb => ?_⟩
  · obtain ⟨hlt, r0, b, cs, -, rfl, q1, q2, q3⟩ := content k o hk
    obtain ⟨s, k1, k2, k3, k4⟩ := hr.at_ b _ q2
    refine ⟨s, (Plan.by_at q1).trans k1, fun hn => ?_, k3, ?_⟩
    · have : n ≤ k := hn
      omega
    · obtain ⟨bs, fr, a1, a2, a3, a4, a5⟩ := k4.at_
      have hl := (q3 p _ a4).len
      have hl2 := a4.len
      refine ⟨k4.esz, bs, fr, a1, a2, by omega, ?_, a5⟩
      have := q3 p _ a4
      rw [hl, ← hl2]
      exact this
  · obtain ⟨hlt, r0, b, cs, -, rfl, q1, q2, q3⟩ := content k o hk
    obtain ⟨hlt', r0', b', cs', -, rfl, q1', q2', q3'⟩ := content k' o' hk'
    rw [Plan.by_at q1] at hp
    rw [Plan.by_at q1'] at hp'
    have hbb := hr.one b b' _ _ _ _ q2 q2' hp hp' hb
    subst hbb
    rcases Nat.lt_trichotomy k k' with hlt2 | heq | hgt
    · exact absurd (q1'.trans q1.symm) (dist k' k hlt' hlt2)
    · exact heq
    · exact absurd (q1.trans q1'.symm) (dist k k' hlt hgt)
  · unfold Plan.by
    rw [lk_none h1 hb]
/-- what is told: a value without an address -/
noncomputable def toldPlain (l : List Rw) (n : Nat) (args0 : List Value) (res : Value) (args : List Value) : M AObj Value := match uniA [] args0 args with
  | none => M.fail
  | some ρ => M.bind (toldRows l 0 ρ) fun ρ' => if sound ρ' n l.length = true then M.pure res else M.fail
theorem local_toldPlain (l : List Rw) (n : Nat) (args0 : List Value) (res : Value) (args : List Value) : M.Local (toldPlain l n args0 res args) := by
  unfold toldPlain
  split
  · exact M.local_fail
  · refine M.local_bind (local_toldRows _ _ _) fun r => ?_
    split
    · exact M.local_pure _
    · exact M.local_fail
/-- what a call came to: a value -/
def retOf (r : Res AObj CR) : Option Value := match r with
  | .ok (.ret v) _ _ _ => some v
  | _ => none
theorem rowsT_none {l : List Rw} {n : Nat} (hn : l.length ≤ n) : ∀ b, n ≤ b → (rowsT l 0 .leaf).get b = none := fun b hb => by
  rw [rowsT_get, if_neg (by omega)]; rfl
theorem toldPlain_ok (hm : P.follows .mixedOrders = true) {f : Nat} {g : FuncId} {l : List Rw} {n : Nat} {args0 : List Value} {res : Value} (E : retOf (evCall P (cfgT n) f g args0 (rowsT l 0 .leaf) n) = some res) (hres : plainF 9 res = true)
    {args : List Value} {h h' : Tree AObj} {c c' : Nat} {v : Value} {lg : Log} (e : toldPlain l n args0 res args h c = .ok v h' c' lg) {p : Plan} {w : World} {args' : Array Value} (hr : Rel K base w0 p h w) (hv : VRs p args args'.toList) :
    Calls P g args' w fun e w' => ∃ p' v', e = .returned v' ∧ p.le p' ∧ Out p p' c c' ∧ Rel K base w0 p' h' w' ∧ VR p' v v' := by
  unfold toldPlain at e
  cases hu : uniA [] args0 args with
  | none => rw [hu] at e; cases e
  | some ρ =>
    rw [hu] at e
    dsimp only at e
    obtain ⟨ρ', h1, c1, l1, l2, e1, e2⟩ := bind_inv e
    have e1' := e1
    obtain ⟨rfl, rfl, hx, -⟩ := toldRows_ok e1
    split at e2
    · rename_i hs
      obtain ⟨rfl, rfl, rfl⟩ := pure_inv e2
      obtain ⟨hrel, hfree⟩ := told_rel e1' hs hr
      have hargs := (uniA_ok hu).2 ρ' hx p _ hv
      have hle : l.length ≤ n := by
        unfold sound at hs
        simp only [Bool.and_eq_true] at hs
        exact Nat.le_of_ble_eq_true hs.2
      unfold retOf at E
      split at E
      · rename_i v0 hh cc ll he
        cases E
        refine (ev_call hm (fun _ _ _ h => (by cases h)) he (fun b hb _ => rowsT_none hle b hb) hrel hargs (fun b hb _ => hfree b hb)).mono ?_
        rintro e w' ⟨p', -, -, hr', hc⟩
        cases e with
        | returned v' =>
          have hvr : VR p' v v' := hc
          refine ⟨p, v', rfl, Plan.le_refl _, Out.rfl, hr.quiet hr'.below, ?_⟩
          rw [plain_eq 9 _ _ hres hvr]
          exact plain_vr 9 _ hres
        | panicked => exact hc.elim
        | outgrown => exact hc.elim
      · cases E
    · cases e2
/-- a new number for a block that came up below -/
theorem Rel.found {p : Plan} {h : Tree AObj} {w w' : World} {c : Nat} (hr : Rel K base w0 p h w) (hb : Below w.heap.size w w') (hp : p c = none) {s : Spot} (hs1 : w.heap.size ≤ s.blk) (hs2 : s.blk < w'.heap.size) (o : AObj) (ho : ObjAt (p.add c s) w' s o) :
    Rel K base w0 (p.add c s) (h.set c (some o)) w' := by
  have hq := hr.quiet hb
  have hle := Plan.le_add (s := s) hp
  refine ⟨hq.below, hq.le, fun b hb => (hr.glob b hb).imp fun s3 hs3 => ⟨hle _ _ hs3.1, hs3.2⟩, hr.dis.mono hle, fun b' o' hb' => ?_, fun b1 b2 o1 o2 s1 s2 k1 k2 e1 e2 e => ?_⟩
  · rw [Tree.get_set] at hb'
    by_cases e : b' = c
    · subst e
      rw [if_pos rfl] at hb'
      cases hb'
      exact ⟨s, Plan.add_self _ _ _, fun _ => Nat.le_trans hr.le hs1, hs2, ho⟩
    · rw [if_neg e] at hb'
      obtain ⟨s2, k1, k2, k3, k4⟩ := hq.at_ b' o' hb'
      exact ⟨s2, hle _ _ k1, k2, k3, k4.mono hle rfl⟩
  · have old : ∀ x o s', x ≠ c → (h.set c (some o)).get x = (h.get x) ∧ ((p.add c s) x = some s' → p x = some s') := fun x o s' hx => by
      refine ⟨by rw [Tree.get_set, if_neg hx], fun h => ?_⟩
      unfold Plan.add at h
      rw [if_neg hx] at h
      exact h
    by_cases f1 : b1 = c
    · by_cases f2 : b2 = c
      · rw [f1, f2]
      · rw [Tree.get_set, if_neg f2] at k2
        have q := (old b2 o s2 f2).2 e2
        obtain ⟨s4, q1, -, q3, -⟩ := hr.at_ _ _ k2
        rw [q1] at q
        cases q
        rw [f1, Plan.add_self] at e1
        cases e1
        omega
    · rw [Tree.get_set, if_neg f1] at k1
      have q := (old b1 o s1 f1).2 e1
      by_cases f2 : b2 = c
      · obtain ⟨s4, q1, -, q3, -⟩ := hr.at_ _ _ k1
        rw [q1] at q
        cases q
        rw [f2, Plan.add_self] at e2
        cases e2
        omega
      · rw [Tree.get_set, if_neg f2] at k2
        exact hr.one _ _ _ _ _ _ k1 k2 q ((old b2 o s2 f2).2 e2) e
/-- what is told: a slice that was made by appending, of cells without addresses, and a truth value -/
noncomputable def toldSlice (l : List Rw) (n : Nat) (args0 : List Value) (row : Rw) (len : Nat) (b : Bool) (args : List Value) : M AObj Value := match uniA [] args0 args with
  | none => M.fail
  | some ρ => M.bind (toldRows l 0 ρ) fun ρ' => if sound ρ' n l.length = true then M.bind (M.new (.row row.1 row.2.1 row.2.2)) fun q => M.pure (.tuple #[.slice (some ⟨q, 0, none⟩) len unk, .bool b]) else M.fail
theorem local_toldSlice (l : List Rw) (n : Nat) (args0 : List Value) (row : Rw) (len : Nat) (b : Bool) (args : List Value) : M.Local (toldSlice l n args0 row len b args) := by
  unfold toldSlice
  split
  · exact M.local_fail
  · refine M.local_bind (local_toldRows _ _ _) fun r => ?_
    split
    · exact M.local_bind (M.local_new _) fun _ => M.local_pure _
    · exact M.local_fail
/-- what a call came to: a slice of unknown room in a new block, and a truth value -/
noncomputable def sliceOf (n : Nat) (r : Res AObj CR) : Option (Rw × Nat × Bool) := match r with
  | .ok (.ret (.tuple vs)) h _ _ => match vs.toList with
    | [.slice (some ⟨q, 0, none⟩) len cp, .bool b] => if cp = unk ∧ n ≤ q then match h.get q with
        | some (.row cs t sz) => some ((cs, t, sz), len, b)
        | _ => none
      else none
    | _ => none
  | _ => none
theorem toldSlice_ok (hm : P.follows .mixedOrders = true) {f : Nat} {g : FuncId} {l : List Rw} {n : Nat} {args0 : List Value} {row : Rw} {len : Nat} {bb : Bool} (E : sliceOf n (evCall P (cfgT n) f g args0 (rowsT l 0 .leaf) n) = some (row, len, bb)) (hrow : row.1.all (plainF 9) = true)
    {args : List Value} {h h' : Tree AObj} {c c' : Nat} {v : Value} {lg : Log} (e : toldSlice l n args0 row len bb args h c = .ok v h' c' lg) {p : Plan} {w : World} {args' : Array Value} (hr : Rel K base w0 p h w) (hv : VRs p args args'.toList) (hf : Free p c c') :
    Calls P g args' w fun e w' => ∃ p' v', e = .returned v' ∧ p.le p' ∧ Out p p' c c' ∧ Rel K base w0 p' h' w' ∧ VR p' v v' := by
  unfold toldSlice at e
  cases hu : uniA [] args0 args with
  | none => rw [hu] at e; cases e
  | some ρ =>
    rw [hu] at e
    dsimp only at e
    obtain ⟨ρ', h1, c1, l1, l2, e1, e2⟩ := bind_inv e
    have e1' := e1
    obtain ⟨rfl, rfl, hx, -⟩ := toldRows_ok e1
    split at e2
    · rename_i hs
      obtain ⟨q, h2, c2, l3, l4, e3, e4⟩ := bind_inv e2
      obtain ⟨rfl, rfl, rfl⟩ := new_inv e3
      obtain ⟨rfl, rfl, rfl⟩ := pure_inv e4
      have hpc : p q = none := hf q (Nat.le_refl _) (by omega)
      obtain ⟨hrel, hfree⟩ := told_rel e1' hs hr
      have hargs := (uniA_ok hu).2 ρ' hx p _ hv
      have hle : l.length ≤ n := by
        unfold sound at hs
        simp only [Bool.and_eq_true] at hs
        exact Nat.le_of_ble_eq_true hs.2
      unfold sliceOf at E
      split at E
      · rename_i vs hh cc ll he
        split at E
        · rename_i q0 len' cp b' hvs
          split at E
          · rename_i hcp
            obtain ⟨rfl, hnq⟩ := hcp
            cases hg : hh.get q0 with
            | none => rw [hg] at E; cases E
            | some o =>
              rw [hg] at E
              cases o with
              | row cs t sz =>
                simp only [Option.some.injEq, Prod.mk.injEq] at E
                obtain ⟨rfl, rfl, rfl⟩ := E
                obtain rfl : vs = #[.slice (some ⟨q0, 0, none⟩) len' unk, .bool b'] := Array.toList_inj.1 hvs
                refine (ev_call hm (fun _ _ _ h => (by cases h)) he (fun b hb _ => rowsT_none hle b hb) hrel hargs (fun b hb _ => hfree b hb)).mono ?_
                rintro e w' ⟨p', -, -, hr', hc⟩
                cases e with
                | returned v' =>
                  have hvr : VR p' (.tuple #[.slice (some ⟨q0, 0, none⟩) len' unk, .bool b']) v' := hc
                  cases hvr with
                  | tuple ht =>
                    rename_i vs'
                    obtain ⟨s, g1, g2, g3, g4⟩ := hr'.at_ q0 _ hg
                    have hblk := g2 hnq
                    have hob : ObjAt (p.add q s) w' s (.row cs t sz) := by
                      obtain ⟨bs, fr, a1, a2, a3, a4, a5⟩ := g4.at_
                      refine ⟨g4.esz, bs, fr, a1, a2, a3, ?_, a5⟩
                      rw [plains_eq (p := p') (fun v v' => plain_eq 9 v v') hrow a4]
                      exact VRs.of_all (fun v hv => plain_vr 9 v hv) _ hrow
                    refine ⟨p.add q s, .tuple vs', rfl, Plan.le_add hpc, add_out, hr.found hr'.below hpc hblk g3 _ hob, .tuple ?_⟩
                    cases hvl : vs'.toList with
                    | nil => rw [hvl] at ht; cases ht
                    | cons x1 m1 =>
                      rw [hvl] at ht
                      cases ht with
                      | cons ha hb =>
                        cases ha with
                        | sliceU k1 k2 k3 k4 =>
                          obtain rfl : s = _ := Option.some.inj (g1.symm.trans k1)
                          cases hb with
                          | cons hb1 hb2 =>
                            cases hb1
                            cases hb2
                            exact .cons (.sliceU (Plan.add_self _ _ _) k2 k3 k4) (.cons (.bool _) .nil)
                        | slice k1 k2 k3 => exact absurd k3 (by unfold unk maxLen; decide)
                | panicked => exact hc.elim
                | outgrown => exact hc.elim
              | _ => cases E
          · cases E
        · cases E
      · cases E
    · cases e2
end
end Ev
end Go.Proofs.YtdfeelmphlellaaGreatDoor
