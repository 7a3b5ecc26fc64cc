/- Told runs: what a call came to from a given number on, with the blocks that it read, is told wherever the same blocks stand under the same numbers. No program in sight. -/
import Derived.Test.YtakfgbedmglffaaGreatDoorMz
namespace Go.Proofs.YtakfgbedmglffaaGreatDoor
set_option linter.unusedSimpArgs false
set_option linter.unusedVariables false
namespace Ev
open Go.RowKit

/-! ### are two values the same? -/
def kindN : IntKind → Nat
  | .i8 => 0
  | .i16 => 1
  | .i32 => 2
  | .i64 => 3
  | .u8 => 4
  | .u16 => 5
  | .u32 => 6
  | .u64 => 7
theorem kindN_inj {a b : IntKind} (h : Nat.beq (kindN a) (kindN b) = true) : a = b := by
  cases a <;> cases b <;> first | rfl | (cases h)
def eqI (a b : Int) : Bool := match a with
  | .ofNat n => match b with
    | .ofNat m => Nat.beq n m
    | .negSucc _ => false
  | .negSucc n => match b with
    | .ofNat _ => false
    | .negSucc m => Nat.beq n m
theorem eqI_ok {a b : Int} (h : eqI a b = true) : a = b := by
  unfold eqI at h
  cases a <;> cases b <;> dsimp only at h
  · rw [Nat.eq_of_beq_eq_true h]
  · cases h
  · cases h
  · rw [Nat.eq_of_beq_eq_true h]
def eqBool (a b : Bool) : Bool := match a with
  | true => b
  | false => (match b with
    | true => false
    | false => true)
theorem eqBool_ok {a b : Bool} (h : eqBool a b = true) : a = b := by
  cases a <;> cases b <;> first | rfl | (exact absurd h (by decide))
def eqS (a b : ByteArray) : Bool := eqB a.data.toList b.data.toList
theorem eqS_ok {a b : ByteArray} (h : eqS a b = true) : a = b := by
  have := Array.toList_inj.1 (eqB_ok h)
  cases a; cases b; exact congrArg _ this
def eqA (a b : Option Addr) : Bool := match a with
  | none => match b with
    | none => true
    | some _ => false
  | some ⟨n, o, none⟩ => match b with
    | some ⟨n', o', none⟩ => Nat.beq n n' && Nat.beq o o'
    | _ => false
  | _ => false
theorem eqA_ok {a b : Option Addr} (h : eqA a b = true) : a = b := by
  unfold eqA at h
  split at h
  · split at h
    · rfl
    · cases h
  · split at h
    · rw [Bool.and_eq_true] at h
      rw [Nat.eq_of_beq_eq_true h.1, Nat.eq_of_beq_eq_true h.2]
    · cases h
  · cases h
def eqN (a b : Option Nat) : Bool := match a with
  | none => match b with
    | none => true
    | some _ => false
  | some n => match b with
    | some m => Nat.beq n m
    | none => false
theorem eqN_ok {a b : Option Nat} (h : eqN a b = true) : a = b := by
  unfold eqN at h
  cases a with
  | none => cases b with
    | none => rfl
    | some _ => cases h
  | some n => cases b with
    | none => cases h
    | some m => rw [Nat.eq_of_beq_eq_true h]
def eqL (f : Value → Value → Bool) : List Value → List Value → Bool
  | [], [] => true
  | a :: l, b :: m => f a b && eqL f l m
  | _, _ => false
theorem eqL_ok {f : Value → Value → Bool} (hf : ∀ {a b}, f a b = true → a = b) : ∀ {l m : List Value}, eqL f l m = true → l = m
  | [], [], _ => rfl
  | a :: l, b :: m, h => by
    unfold eqL at h
    rw [Bool.and_eq_true] at h
    rw [hf h.1, eqL_ok hf h.2]
  | [], _ :: _, h => by cases h
  | _ :: _, [], h => by cases h
def eqV : Nat → Value → Value → Bool
  | 0, _, _ => false
  | f + 1, a, b => match a with
    | .bool x => match b with
      | .bool y => eqBool x y
      | _ => false
    | .int k n => match b with
      | .int k' n' => Nat.beq (kindN k) (kindN k') && eqI n n'
      | _ => false
    | .string s => match b with
      | .string t => eqS s t
      | _ => false
    | .pointer x => match b with
      | .pointer y => eqA x y
      | _ => false
    | .slice x n c => match b with
      | .slice y n' c' => eqA x y && (Nat.beq n n' && Nat.beq c c')
      | _ => false
    | .map x => match b with
      | .map y => eqN x y
      | _ => false
    | .chan x => match b with
      | .chan y => eqN x y
      | _ => false
    | .func (.func g) x y => match b with
      | .func (.func g') x' y' => Nat.beq g g' && (eqL (eqV f) x.toList x'.toList && eqL (eqV f) y.toList y'.toList)
      | _ => false
    | .nilFunc => match b with
      | .nilFunc => true
      | _ => false
    | .iface t v => match b with
      | .iface t' v' => Nat.beq t t' && eqV f v v'
      | _ => false
    | .nilIface => match b with
      | .nilIface => true
      | _ => false
    | .agg x => match b with
      | .agg y => eqL (eqV f) x.toList y.toList
      | _ => false
    | .tuple x => match b with
      | .tuple y => eqL (eqV f) x.toList y.toList
      | _ => false
    | _ => false
theorem eqV_ok : ∀ {f : Nat} {a b : Value}, eqV f a b = true → a = b
  | 0, _, _, h => by cases h
  | f + 1, a, b, h => by
    have ih : ∀ {a b : Value}, eqV f a b = true → a = b := fun h => eqV_ok h
    unfold eqV at h
    split at h <;> (try (cases h; done)) <;> split at h <;> (try (cases h; done))
    · rw [eqBool_ok h]
    · rw [Bool.and_eq_true] at h
      rw [kindN_inj h.1, eqI_ok h.2]
    · rw [eqS_ok h]
    · rw [eqA_ok h]
    · rw [Bool.and_eq_true, Bool.and_eq_true] at h
      rw [eqA_ok h.1, Nat.eq_of_beq_eq_true h.2.1, Nat.eq_of_beq_eq_true h.2.2]
    · rw [eqN_ok h]
    · rw [eqN_ok h]
    · rw [Bool.and_eq_true, Bool.and_eq_true] at h
      rw [Nat.eq_of_beq_eq_true h.1, Array.toList_inj.1 (eqL_ok ih h.2.1), Array.toList_inj.1 (eqL_ok ih h.2.2)]
    · rfl
    · rw [Bool.and_eq_true] at h
      rw [Nat.eq_of_beq_eq_true h.1, ih h.2]
    · rfl
    · rw [Array.toList_inj.1 (eqL_ok ih h)]
    · rw [Array.toList_inj.1 (eqL_ok ih h)]
def eqM : List (Value × Value × Nat) → List (Value × Value × Nat) → Bool
  | [], [] => true
  | a :: l, b :: m => eqV 9 a.1 b.1 && (eqV 9 a.2.1 b.2.1 && (Nat.beq a.2.2 b.2.2 && eqM l m))
  | _, _ => false
theorem eqM_ok : ∀ {l m : List (Value × Value × Nat)}, eqM l m = true → l = m
  | [], [], _ => rfl
  | (a1, a2, a3) :: l, (b1, b2, b3) :: m, h => by
    unfold eqM at h
    simp only [Bool.and_eq_true] at h
    obtain ⟨h1, h2, h3, h4⟩ := h
    rw [eqV_ok h1, eqV_ok h2, Nat.eq_of_beq_eq_true h3, eqM_ok h4]
  | [], _ :: _, h => by cases h
  | _ :: _, [], h => by cases h
def eqO (a b : AObj) : Bool := match a with
  | .row cs t sz => match b with
    | .row cs' t' sz' => Nat.beq t t' && (Nat.beq sz sz' && eqL (eqV 9) cs cs')
    | _ => false
  | .map es n => match b with
    | .map es' n' => Nat.beq n n' && eqM es es'
    | _ => false
  | .siter s n => match b with
    | .siter s' n' => Nat.beq n n' && eqS s s'
    | _ => false
theorem eqO_ok {a b : AObj} (h : eqO a b = true) : a = b := by
  unfold eqO at h
  split at h <;> split at h <;> first | (cases h; done) | skip
  · rw [Bool.and_eq_true, Bool.and_eq_true] at h
    rw [Nat.eq_of_beq_eq_true h.1, Nat.eq_of_beq_eq_true h.2.1, eqL_ok (fun h => eqV_ok h) h.2.2]
  · rw [Bool.and_eq_true] at h
    rw [Nat.eq_of_beq_eq_true h.1, eqM_ok h.2]
  · rw [Bool.and_eq_true] at h
    rw [Nat.eq_of_beq_eq_true h.1, eqS_ok h.2]
/-! ### a run -/
/-- a call's arguments; its first number and the first behind it; the blocks that it read; what it leaves of new blocks and of old ones; its result -/
structure Run where
  args : List Value
  c0 : Nat
  c1 : Nat
  rd : List (Nat × AObj)
  nw : List (Nat × AObj)
  wr : List (Nat × Option AObj)
  res : Value
noncomputable def rowsR : List (Nat × AObj) → Tree AObj
  | [] => .leaf
  | x :: l => (rowsR l).set x.1 (some x.2)
theorem rowsR_some : ∀ {l : List (Nat × AObj)} {b : Nat} {o : AObj}, (rowsR l).get b = some o → (b, o) ∈ l
  | [], b, o, h => by cases h
  | x :: l, b, o, h => by
    unfold rowsR at h
    rw [Tree.get_set] at h
    split at h
    · rename_i e
      cases h
      rw [e]
      exact List.mem_cons_self
    · exact List.mem_cons_of_mem _ (rowsR_some h)
noncomputable def hasO (h : Tree AObj) (b : Nat) (o : AObj) : Bool := match h.get b with
  | some o' => eqO o' o
  | none => false
theorem hasO_ok {h : Tree AObj} {b : Nat} {o : AObj} (e : hasO h b o = true) : h.get b = some o := by
  unfold hasO at e
  split at e
  · rename_i o' ho
    rw [ho, eqO_ok e]
  · cases e
def wmask : List (Nat × Option AObj) → Nat
  | [] => 0
  | x :: l => wmask l ||| 2 ^ x.1
theorem wmask_bit : ∀ {l : List (Nat × Option AObj)} {b : Nat}, (wmask l).testBit b = true ↔ ∃ o, (b, o) ∈ l
  | [], b => by
    unfold wmask
    rw [Nat.zero_testBit]
    exact ⟨fun h => absurd h (by decide), fun h => by
      obtain ⟨_, h⟩ := h
      cases h⟩
  | x :: l, b => by
    unfold wmask
    rw [Nat.testBit_or, Bool.or_eq_true, wmask_bit]
    constructor
    · rintro (⟨o, h⟩ | h)
      · exact ⟨o, List.mem_cons_of_mem _ h⟩
      · refine ⟨x.2, ?_⟩
        rw [← M.bit_eq h]
        exact List.mem_cons_self
    · rintro ⟨o, h⟩
      cases h with
      | head => exact .inr (M.bit_self _)
      | tail _ h => exact .inl ⟨o, h⟩
noncomputable def wrOK (h : Tree AObj) (c0 : Nat) (x : Nat × Option AObj) : Bool := Nat.blt x.1 c0 && (match x.2 with
  | some o => hasO h x.1 o
  | none => true)
/-- does a call come to what the run says? -/
noncomputable def okRun (r : Run) (e : Res AObj CR) : Bool := match e with
  | .ok (.ret v) h c l => eqV 9 v r.res && (Nat.beq c r.c1 && (r.rd.all (fun x => Nat.blt x.1 r.c0) && (r.nw.all (fun x => hasO h x.1 x.2) && (r.wr.all (wrOK h r.c0) && Nat.beq (l.w % 2 ^ r.c0) (wmask r.wr)))))
  | _ => false
/-! ### told -/
noncomputable def checks : List (Nat × AObj) → M AObj Unit
  | [] => M.pure ()
  | x :: l => M.bind (M.read x.1) fun o => if eqO o x.2 = true then checks l else M.fail
theorem local_checks : ∀ l, M.Local (checks l)
  | [] => M.local_pure _
  | x :: l => by
    unfold checks
    refine M.local_bind (M.local_read _) fun o => ?_
    split
    · exact local_checks l
    · exact M.local_fail
theorem checks_inv : ∀ {l : List (Nat × AObj)} {u : Unit} {h h' : Tree AObj} {c c' : Nat} {lg : Log}, checks l h c = .ok u h' c' lg → h' = h ∧ c' = c ∧ ∀ x ∈ l, h.get x.1 = some x.2
  | [], u, h, h', c, c', lg, e => by
    obtain ⟨-, rfl, rfl⟩ := pure_inv e
    exact ⟨rfl, rfl, fun x hx => by cases hx⟩
  | x :: l, u, h, h', c, c', lg, e => by
    unfold checks at e
    obtain ⟨o, h1, c1, l1, l2, e1, e2⟩ := bind_inv e
    obtain ⟨e3, rfl, rfl⟩ := read_inv e1
    split at e2
    · rename_i heq
      obtain ⟨rfl, rfl, k⟩ := checks_inv e2
      refine ⟨rfl, rfl, fun y hy => ?_⟩
      cases hy with
      | head => rw [e3, eqO_ok heq]
      | tail _ hy => exact k y hy
    · cases e2
/-- on to number b: the numbers between are used up -/
noncomputable def skipTo (b : Nat) : M AObj Unit := fun h c => match Nat.ble c b with
  | true => .ok () h b ⟨2 ^ b - 2 ^ c, 2 ^ b - 2 ^ c⟩
  | false => .no
theorem skip_bit {c b i : Nat} (h : c ≤ b) : (2 ^ b - 2 ^ c).testBit i = (decide (c ≤ i) && decide (i < b)) := by
  obtain ⟨k, rfl⟩ : ∃ k, b = c + k := ⟨b - c, by omega⟩
  rw [show 2 ^ (c + k) - 2 ^ c = (2 ^ k - 1) * 2 ^ c by rw [Nat.sub_mul, Nat.pow_add, Nat.one_mul, Nat.mul_comm], Nat.testBit_mul_two_pow, Nat.testBit_two_pow_sub_one]
  by_cases h1 : c ≤ i
  · rw [decide_eq_true h1, Bool.true_and, Bool.true_and]
    exact decide_eq_decide.2 (by omega)
  · rw [decide_eq_false h1, Bool.false_and, Bool.false_and]
theorem local_skipTo (b : Nat) : M.Local (skipTo b) := by
  intro h c x h' c' l e
  unfold skipTo at e
  split at e
  · rename_i hb
    have hb := Nat.le_of_ble_eq_true hb
    cases e
    have bit : ∀ i, (2 ^ b - 2 ^ c).testBit i = true ↔ c ≤ i ∧ i < b := fun i => by
      rw [skip_bit hb, Bool.and_eq_true, decide_eq_true_iff, decide_eq_true_iff]
    refine ⟨hb, fun hr => ⟨fun i hi => hi, fun _ _ => rfl, fun i h1 h2 => (bit i).2 ⟨h1, h2⟩, fun _ _ hn => hn, fun i h1 h2 => ?_, fun g hg hgr => ⟨g, ?_, fun i hi => ?_, fun _ _ => rfl⟩⟩⟩
    · have := (bit i).1 h2
      omega
    · unfold skipTo
      rw [show Nat.ble c b = true from Nat.ble_eq_true_of_le hb]
    · have := (bit i).1 hi
      rw [hg i this.1 this.2, hr i this.1 this.2]
  · cases e
theorem skipTo_inv {b : Nat} {u : Unit} {h h' : Tree AObj} {c c' : Nat} {lg : Log} (e : skipTo b h c = .ok u h' c' lg) : h' = h ∧ c' = b ∧ c ≤ b := by
  unfold skipTo at e
  split at e
  · rename_i hb
    cases e
    exact ⟨rfl, rfl, Nat.le_of_ble_eq_true hb⟩
  · cases e
noncomputable def news (c1 : Nat) : List (Nat × AObj) → M AObj Unit
  | [] => skipTo c1
  | x :: l => M.bind (skipTo x.1) fun _ => M.bind (M.new x.2) fun _ => news c1 l
theorem local_news (c1 : Nat) : ∀ l, M.Local (news c1 l)
  | [] => local_skipTo _
  | x :: l => M.local_bind (local_skipTo _) fun _ => M.local_bind (M.local_new _) fun _ => local_news c1 l
theorem news_inv {c1 : Nat} : ∀ {l : List (Nat × AObj)} {u : Unit} {h h' : Tree AObj} {c c' : Nat} {lg : Log}, news c1 l h c = .ok u h' c' lg → c' = c1 ∧ c ≤ c1 ∧ ∀ b o, h'.get b = some o → (b, o) ∈ l ∧ c ≤ b ∧ b < c1 ∨ h.get b = some o
  | [], u, h, h', c, c', lg, e => by
    obtain ⟨rfl, rfl, hc⟩ := skipTo_inv e
    exact ⟨rfl, hc, fun b o hb => .inr hb⟩
  | x :: l, u, h, h', c, c', lg, e => by
    unfold news at e
    obtain ⟨_, h2, c2, l1, l2, e1, e2⟩ := bind_inv e
    obtain ⟨rfl, rfl, hc⟩ := skipTo_inv e1
    obtain ⟨_, h3, c3, l3, l4, e3, e4⟩ := bind_inv e2
    obtain ⟨-, rfl, rfl⟩ := new_inv e3
    obtain ⟨rfl, hc2, k⟩ := news_inv e4
    refine ⟨rfl, by omega, fun b o hb => ?_⟩
    rcases k b o hb with ⟨k1, k2, k3⟩ | k1
    · exact .inl ⟨List.mem_cons_of_mem _ k1, by omega, k3⟩
    · rw [Tree.get_set] at k1
      split at k1
      · rename_i hx
        cases k1
        rw [hx]
        exact .inl ⟨List.mem_cons_self, hc, by omega⟩
      · exact .inr k1
noncomputable def writes : List (Nat × Option AObj) → M AObj Unit
  | [] => M.pure ()
  | x :: l => M.bind (writes l) fun _ => M.write x.1 x.2
theorem local_writes : ∀ l, M.Local (writes l)
  | [] => M.local_pure _
  | x :: l => M.local_bind (local_writes l) fun _ => M.local_write _ _
theorem writes_inv : ∀ {l : List (Nat × Option AObj)} {u : Unit} {h h' : Tree AObj} {c c' : Nat} {lg : Log}, writes l h c = .ok u h' c' lg → c' = c ∧ ∀ b o, h'.get b = some o → (b, some o) ∈ l ∨ (h.get b = some o ∧ ∀ y, (b, y) ∉ l)
  | [], u, h, h', c, c', lg, e => by
    obtain ⟨-, rfl, rfl⟩ := pure_inv e
    exact ⟨rfl, fun b o hb => .inr ⟨hb, fun y hy => by cases hy⟩⟩
  | x :: l, u, h, h', c, c', lg, e => by
    unfold writes at e
    obtain ⟨_, h2, c2, l1, l2, e1, e2⟩ := bind_inv e
    obtain ⟨rfl, k⟩ := writes_inv e1
    obtain ⟨rfl, rfl⟩ := write_inv e2
    refine ⟨rfl, fun b o hb => ?_⟩
    rw [Tree.get_set] at hb
    split at hb
    · rename_i hx
      refine .inl ?_
      rw [hx, ← hb]
      exact List.mem_cons_self
    · rename_i hx
      rcases k b o hb with k | ⟨k1, k2⟩
      · exact .inl (List.mem_cons_of_mem _ k)
      · refine .inr ⟨k1, fun y hy => ?_⟩
        cases hy with
        | head => exact hx rfl
        | tail _ hy => exact k2 y hy
noncomputable def toldRun (r : Run) : M AObj Value := M.bind (checks r.rd) fun _ => M.bind (news r.c1 r.nw) fun _ => M.bind (writes r.wr) fun _ => M.pure r.res
theorem local_toldRun (r : Run) : M.Local (toldRun r) := M.local_bind (local_checks _) fun _ => M.local_bind (local_news _ _) fun _ => M.local_bind (local_writes _) fun _ => M.local_pure _
/-- the first run with these arguments from this number on -/
def pick (c : Nat) (args : List Value) : List Run → Option Run
  | [] => none
  | r :: l => match Nat.beq r.c0 c with
    | true => match eqL (eqV 9) args r.args with
      | true => some r
      | false => pick c args l
    | false => pick c args l
theorem pick_ok {c : Nat} {args : List Value} : ∀ {l : List Run} {r : Run}, pick c args l = some r → r ∈ l ∧ r.c0 = c ∧ args = r.args
  | [], r, e => by cases e
  | x :: l, r, e => by
    unfold pick at e
    split at e
    · rename_i h1
      split at e
      · rename_i h2
        cases e
        exact ⟨List.mem_cons_self, Nat.eq_of_beq_eq_true h1, eqL_ok (fun h => eqV_ok h) h2⟩
      · obtain ⟨k1, k2⟩ := pick_ok e
        exact ⟨List.mem_cons_of_mem _ k1, k2⟩
    · obtain ⟨k1, k2⟩ := pick_ok e
      exact ⟨List.mem_cons_of_mem _ k1, k2⟩
noncomputable def told (l : List Run) (args : List Value) : M AObj Value := fun h c => match pick c args l with
  | some r => toldRun r h c
  | none => .no
theorem local_told (l : List Run) (args : List Value) : M.Local (told l args) := by
  intro h c x h' c' lg e
  unfold told at e
  cases hp : pick c args l with
  | none => rw [hp] at e; cases e
  | some r =>
    rw [hp] at e
    obtain ⟨h1, h2⟩ := local_toldRun r h c x h' c' lg e
    refine ⟨h1, fun hr => ?_⟩
    have S := h2 hr
    refine ⟨S.sub, S.out, S.fresh, S.free, S.old, fun g hg hgr => ?_⟩
    obtain ⟨g', k1, k2⟩ := S.move g hg hgr
    refine ⟨g', ?_, k2⟩
    unfold told
    rw [hp]
    exact k1
section
variable {P : Program} {K : Cfg} {base : Nat} {w0 : World}
theorem Rel.sub {p : Plan} {h h' : Tree AObj} {w : World} (hr : Rel K base w0 p h w) (hs : ∀ b o, h'.get b = some o → h.get b = some o) : Rel K base w0 p h' w :=
  ⟨hr.below, hr.le, hr.glob, hr.dis, fun b o hb => hr.at_ b o (hs b o hb), fun b b' o o' s s' h1 h2 => hr.one b b' o o' s s' (hs _ _ h1) (hs _ _ h2)⟩
/-- the same, by another configuration that differs in what is told -/
theorem Rel.cfg {K' : Cfg} {p : Plan} {h : Tree AObj} {w : World} (hr : Rel K base w0 p h w) (hn : K'.n = K.n) (hg : K'.g = K.g) (hd : Dis K p → Dis K' p) : Rel K' base w0 p h w :=
  ⟨hr.below, hr.le, fun b hb => hr.glob b (hg ▸ hb), hd hr.dis, fun b o hb => by
    obtain ⟨s, k1, k2, k3, k4⟩ := hr.at_ b o hb
    exact ⟨s, k1, fun hh => k2 (hn ▸ hh), k3, k4⟩, hr.one⟩
theorem told_ok (hm : P.follows .mixedOrders = true) (horc : OrcOK P K base w0) {f : Nat} {g : FuncId} {r : Run} (E : okRun r (evCall P K f g r.args (rowsR r.rd) r.c0) = true)
    {h h' : Tree AObj} {c' : Nat} {v : Value} {lg : Log} (e : toldRun r h r.c0 = .ok v h' c' lg) {p : Plan} {w : World} {args' : Array Value} (hr : Rel K base w0 p h w) (hv : VRs p r.args args'.toList) (hf : Free p r.c0 c') :
    Calls P g args' w fun e w' => ∃ p' v', e = .returned v' ∧ p.le p' ∧ Out p p' r.c0 c' ∧ Rel K base w0 p' h' w' ∧ VR p' v v' := by
  unfold okRun at E
  split at E
  · rename_i v1 h1 c1 l1 E1
    simp only [Bool.and_eq_true] at E
    obtain ⟨hres, hc1, hrd, hnw, hwr, hmask⟩ := E
    have hres := eqV_ok hres
    have hc1 := Nat.eq_of_beq_eq_true hc1
    have hmask := Nat.eq_of_beq_eq_true hmask
    subst hres
    subst hc1
    unfold toldRun at e
    obtain ⟨_, h2, c2, l2, l3, e1, e2⟩ := bind_inv e
    obtain ⟨rfl, rfl, hin⟩ := checks_inv e1
    obtain ⟨_, h3, c3, l4, l5, e3, e4⟩ := bind_inv e2
    obtain ⟨rfl, hle, hn3⟩ := news_inv e3
    obtain ⟨_, h4, c4, l6, l7, e5, e6⟩ := bind_inv e4
    obtain ⟨rfl, hn4⟩ := writes_inv e5
    obtain ⟨rfl, rfl, rfl⟩ := pure_inv e6
    have hrdlt : ∀ x ∈ r.rd, x.1 < r.c0 := fun x hx => by
      have h1 : x.1 + 1 ≤ r.c0 := Nat.le_of_ble_eq_true (List.all_eq_true.1 hrd x hx)
      omega
    have hnone : ∀ b, r.c0 ≤ b → (rowsR r.rd).get b = none := fun b hb => by
      cases hg : (rowsR r.rd).get b with
      | none => rfl
      | some o =>
        have := hrdlt _ (rowsR_some hg)
        dsimp only at this
        omega
    have hrng : M.Rng h2 r.c0 r.c1 := fun b h5 h6 => by
      cases hg : h2.get b with
      | none => rfl
      | some o =>
        obtain ⟨s, k1, -⟩ := hr.at_ b o hg
        rw [hf b h5 h6] at k1
        cases k1
    obtain ⟨-, S'⟩ := (all_local P K f).call g r.args _ _ _ _ _ _ E1
    have S := S' (fun b h5 _ => hnone b h5)
    obtain ⟨g', m1, m2, m3⟩ := S.move h2 hrng (fun b hb ht => by
      have := S.old b hb ht
      cases hg : (rowsR r.rd).get b with
      | none => exact absurd hg this
      | some o => exact hin _ (rowsR_some hg))
    refine (ev_call hm horc m1 hrng hr hv hf).mono ?_
    rintro e w' ⟨p', hp, hout, hr', hc⟩
    cases e with
    | returned v' =>
      refine ⟨p', v', rfl, hp, hout, hr'.sub fun b o hb => ?_, hc⟩
      have wlt : ∀ b o, (b, o) ∈ r.wr → b < r.c0 := fun b o hbo => by
        have := List.all_eq_true.1 hwr _ hbo
        unfold wrOK at this
        rw [Bool.and_eq_true] at this
        have := Nat.le_of_ble_eq_true this.1
        dsimp only at this
        omega
      have wbit : ∀ b, b < r.c0 → (l1.w.testBit b = true ↔ ∃ o, (b, o) ∈ r.wr) := fun b hb => by
        rw [← wmask_bit, ← hmask, Nat.testBit_mod_two_pow, decide_eq_true hb, Bool.true_and]
      rcases hn4 b o hb with hw | ⟨hb3, hnot⟩
      · have hlt := wlt b _ hw
        have h5 := List.all_eq_true.1 hwr _ hw
        unfold wrOK at h5
        rw [Bool.and_eq_true] at h5
        rw [m2 b ((wbit b hlt).2 ⟨_, hw⟩)]
        exact hasO_ok h5.2
      · rcases hn3 b o hb3 with ⟨hmem, h5, h6⟩ | hold
        · rw [m2 b (S.fresh b h5 h6)]
          exact hasO_ok (List.all_eq_true.1 hnw _ hmem)
        · cases hw : l1.w.testBit b with
          | false => rw [m3 b hw]; exact hold
          | true =>
            by_cases hlt : b < r.c0
            · obtain ⟨y, hy⟩ := (wbit b hlt).1 hw
              exact absurd hy (hnot y)
            · by_cases hlt1 : b < r.c1
              · rw [hrng b (by omega) hlt1] at hold
                cases hold
              · have := S.old b (.inr (by omega)) (S.sub b hw)
                exact absurd (hnone b (by omega)) this
    | panicked => exact hc.elim
    | outgrown => exact hc.elim
  · cases E
/-! ### a configuration that is told runs of some functions besides -/
/-- the runs of a function, where it has some -/
def runsOf (g : FuncId) : List (FuncId × List Run) → Option (List Run)
  | [] => none
  | x :: l => match Nat.beq x.1 g with
    | true => some x.2
    | false => runsOf g l
theorem runsOf_ok {g : FuncId} : ∀ {l : List (FuncId × List Run)} {rs : List Run}, runsOf g l = some rs → (g, rs) ∈ l
  | [], rs, e => by cases e
  | x :: l, rs, e => by
    unfold runsOf at e
    split at e
    · rename_i h
      cases e
      rw [← Nat.eq_of_beq_eq_true h]
      exact List.mem_cons_self
    · exact List.mem_cons_of_mem _ (runsOf_ok e)
noncomputable def orcT (K : Cfg) (l : List (FuncId × List Run)) (g : FuncId) (args : List Value) : Option (M AObj Value) := match runsOf g l with
  | some rs => some (told rs args)
  | none => K.orc g args
theorem orcT_local (K : Cfg) (l : List (FuncId × List Run)) : ∀ g args m, orcT K l g args = some m → M.Local m := by
  intro g args m e
  unfold orcT at e
  split at e
  · cases e; exact local_told _ _
  · exact K.loc g args m e
noncomputable def Cfg.tell (K : Cfg) (l : List (FuncId × List Run)) : Cfg := ⟨K.n, K.g, K.dis, orcT K l, orcT_local K l, K.ax, K.axm⟩
/-- what a run says is so: shown by the evaluator, told of other runs -/
def RunOK (P : Program) (K : Cfg) (base : Nat) (w0 : World) (g : FuncId) (r : Run) : Prop := ∃ (l : List (FuncId × List Run)) (f : Nat), OrcOK P (K.tell l) base w0 ∧ okRun r (evCall P (K.tell l) f g r.args (rowsR r.rd) r.c0) = true
theorem orc_tell (hm : P.follows .mixedOrders = true) (horc : OrcOK P K base w0) {l : List (FuncId × List Run)} (hl : ∀ x ∈ l, ∀ r ∈ x.2, RunOK P K base w0 x.1 r) : OrcOK P (K.tell l) base w0 := by
  intro g args m e h c v h' c' lg em p w args' hr hv hf
  replace e : orcT K l g args = some m := e
  unfold orcT at e
  have hr0 : Rel K base w0 p h w := Rel.cfg (K := K.tell l) (K' := K) hr rfl rfl (fun h => h)
  split at e
  · rename_i rs hrs
    cases e
    unfold told at em
    cases hp : pick c args rs with
    | none => rw [hp] at em; cases em
    | some r =>
      rw [hp] at em
      obtain ⟨k1, rfl, rfl⟩ := pick_ok hp
      obtain ⟨l2, f, ho, E⟩ := hl _ (runsOf_ok hrs) r k1
      have hr2 : Rel (K.tell l2) base w0 p h w := Rel.cfg hr0 rfl rfl (fun h => h)
      refine (told_ok hm ho E em hr2 hv hf).mono ?_
      rintro e w' ⟨p', v', q1, q2, q3, q4, q5⟩
      exact ⟨p', v', q1, q2, q3, Rel.cfg (K := K.tell l2) q4 rfl rfl (fun h => h), q5⟩
  · refine (horc g args m e h c v h' c' lg em p w args' hr0 hv hf).mono ?_
    rintro e w' ⟨p', v', q1, q2, q3, q4, q5⟩
    exact ⟨p', v', q1, q2, q3, Rel.cfg (K := K) q4 rfl rfl (fun h => h), q5⟩
end
end Ev
end Go.Proofs.YtakfgbedmglffaaGreatDoor
