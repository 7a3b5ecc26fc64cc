/- Values of an evaluator of closed calls: the model's own values over numbered blocks of its own; when such a value stands for one of a world. No program in sight. -/
import Derived.Test.YtakfgbedmglffaaGreatDoorMa
import Derived.Calls
import Derived.Laws.World
import Derived.Laws.Slices
import Derived.RowKit3
namespace Go.Proofs.YtakfgbedmglffaaGreatDoor
set_option linter.unusedSimpArgs false
set_option linter.unusedVariables false
namespace Ev

/-- where one of the evaluator's blocks lies in a world: the block, the place in it, the block's size, and of how many cells an element of it is -/
structure Spot where
  blk : Nat
  off : Nat
  size : Nat
  esz : Nat
abbrev Plan := Nat → Option Spot
def Plan.le (p q : Plan) : Prop := ∀ b x, p b = some x → q b = some x
theorem Plan.le_refl (p : Plan) : p.le p := fun _ _ h => h
theorem Plan.le_trans {p q r : Plan} (h : p.le q) (k : q.le r) : p.le r := fun b x e => k b x (h b x e)
/-- the capacity of a slice of which just the length is known -/
def unk : Nat := 2 ^ 63
/-- the capacity of an empty slice of which the place is not known either -/
def unkE : Nat := 2 ^ 63 + 1
mutual
inductive VR (p : Plan) : Value → Value → Prop where
  | bool (b : Bool) : VR p (.bool b) (.bool b)
  | int (k : IntKind) (n : Int) : VR p (.int k n) (.int k n)
  | tok {b : Nat} {s : Spot} : p b = some s → VR p (.chan (some b)) (.int .u64 s.off)
  | string (s : ByteArray) : VR p (.string s) (.string s)
  | nilPtr : VR p (.pointer none) (.pointer none)
  | ptr {b o : Nat} {s : Spot} : p b = some s → VR p (.pointer (some ⟨b, o, none⟩)) (.pointer (some ⟨s.blk, s.off + o, none⟩))
  | nilSlice : VR p (.slice none 0 0) (.slice none 0 0)
  | slice {b o n c : Nat} {s : Spot} : p b = some s → n ≤ c → c ≤ maxLen → VR p (.slice (some ⟨b, o, none⟩) n c) (.slice (some ⟨s.blk, s.off + o, none⟩) n c)
  | sliceU {b o n c : Nat} {s : Spot} : p b = some s → n ≤ c → c ≤ maxLen → s.off + o + c * s.esz ≤ s.size → VR p (.slice (some ⟨b, o, none⟩) n unk) (.slice (some ⟨s.blk, s.off + o, none⟩) n c)
  | sliceE {b o O c : Nat} {s : Spot} : p b = some s → c ≤ maxLen → O + c * s.esz ≤ s.size → VR p (.slice (some ⟨b, o, none⟩) 0 unkE) (.slice (some ⟨s.blk, O, none⟩) 0 c)
  | nilMap : VR p (.map none) (.map none)
  | map {b : Nat} {s : Spot} : p b = some s → VR p (.map (some b)) (.map (some s.blk))
  | func (f : FuncId) {a b c d : Array Value} : VRs p a.toList b.toList → VRs p c.toList d.toList → VR p (.func (.func f) a c) (.func (.func f) b d)
  | nilFunc : VR p .nilFunc .nilFunc
  | iface (t : TypeId) {v w : Value} : VR p v w → VR p (.iface t v) (.iface t w)
  | nilIface : VR p .nilIface .nilIface
  | agg {a b : Array Value} : VRs p a.toList b.toList → VR p (.agg a) (.agg b)
  | tuple {a b : Array Value} : VRs p a.toList b.toList → VR p (.tuple a) (.tuple b)
inductive VRs (p : Plan) : List Value → List Value → Prop where
  | nil : VRs p [] []
  | cons {v w : Value} {l m : List Value} : VR p v w → VRs p l m → VRs p (v :: l) (w :: m)
end
mutual
theorem VR.mono {p q : Plan} (hpq : p.le q) : ∀ {v w : Value}, VR p v w → VR q v w
  | _, _, .bool b => .bool b
  | _, _, .int k n => .int k n
  | _, _, .tok h => .tok (hpq _ _ h)
  | _, _, .string s => .string s
  | _, _, .nilPtr => .nilPtr
  | _, _, .ptr h => .ptr (hpq _ _ h)
  | _, _, .nilSlice => .nilSlice
  | _, _, .slice h h1 h2 => .slice (hpq _ _ h) h1 h2
  | _, _, .sliceU h h1 h2 h3 => .sliceU (hpq _ _ h) h1 h2 h3
  | _, _, .sliceE h h1 h2 => .sliceE (hpq _ _ h) h1 h2
  | _, _, .nilMap => .nilMap
  | _, _, .map h => .map (hpq _ _ h)
  | _, _, .func f h k => .func f (VRs.mono hpq h) (VRs.mono hpq k)
  | _, _, .nilFunc => .nilFunc
  | _, _, .iface t h => .iface t (VR.mono hpq h)
  | _, _, .nilIface => .nilIface
  | _, _, .agg h => .agg (VRs.mono hpq h)
  | _, _, .tuple h => .tuple (VRs.mono hpq h)
theorem VRs.mono {p q : Plan} (hpq : p.le q) : ∀ {l m : List Value}, VRs p l m → VRs q l m
  | _, _, .nil => .nil
  | _, _, .cons h k => .cons (VR.mono hpq h) (VRs.mono hpq k)
end
theorem VRs.len {p : Plan} : ∀ {l m : List Value}, VRs p l m → l.length = m.length
  | _, _, .nil => rfl
  | _, _, .cons _ h => by simp [VRs.len h]
theorem VRs.get {p : Plan} : ∀ {l m : List Value}, VRs p l m → ∀ (i : Nat) (v : Value), l[i]? = some v → ∃ w, m[i]? = some w ∧ VR p v w
  | _, _, .nil, i, v, h => by simp at h
  | _, _, .cons h k, 0, v, e => by simp at e; subst e; exact ⟨_, by simp, h⟩
  | _, _, .cons h k, i + 1, v, e => by simpa using VRs.get k i v (by simpa using e)
theorem VRs.append {p : Plan} : ∀ {l m l' m' : List Value}, VRs p l m → VRs p l' m' → VRs p (l ++ l') (m ++ m')
  | _, _, _, _, .nil, h => h
  | _, _, _, _, .cons h k, h' => .cons h (VRs.append k h')
theorem VRs.take {p : Plan} : ∀ {l m : List Value}, VRs p l m → ∀ n, VRs p (l.take n) (m.take n)
  | _, _, .nil, n => by simpa using VRs.nil
  | _, _, .cons h k, 0 => .nil
  | _, _, .cons h k, n + 1 => .cons h (VRs.take k n)
theorem VRs.drop {p : Plan} : ∀ {l m : List Value}, VRs p l m → ∀ n, VRs p (l.drop n) (m.drop n)
  | _, _, .nil, n => by simpa using VRs.nil
  | _, _, .cons h k, 0 => .cons h k
  | _, _, .cons h k, n + 1 => VRs.drop k n
theorem VRs.set {p : Plan} : ∀ {l m : List Value}, VRs p l m → ∀ (i : Nat) {v w : Value}, VR p v w → VRs p (l.set i v) (m.set i w)
  | _, _, .nil, i, _, _, _ => .nil
  | _, _, .cons h k, 0, _, _, hv => .cons hv k
  | _, _, .cons h k, i + 1, _, _, hv => .cons h (VRs.set k i hv)
/-- a value without an address -/
def plainF : Nat → Value → Bool
  | 0, _ => false
  | n + 1, v => match v with
    | .bool _ | .int _ _ | .string _ | .pointer none | .slice none 0 0 | .map none | .nilFunc | .nilIface => true
    | .iface _ v => plainF n v
    | .agg cs => cs.toList.all (plainF n)
    | .tuple cs => cs.toList.all (plainF n)
    | _ => false
theorem VRs.of_all {p : Plan} {f : Value → Bool} (hf : ∀ v, f v = true → VR p v v) : ∀ l : List Value, l.all f = true → VRs p l l
  | [], _ => .nil
  | v :: l, h => by
    simp only [List.all_cons, Bool.and_eq_true] at h
    exact .cons (hf v h.1) (VRs.of_all hf l h.2)
theorem plain_vr {p : Plan} : ∀ (n : Nat) (v : Value), plainF n v = true → VR p v v
  | 0, _, h => by cases h
  | n + 1, v, h => by
    have ih := plain_vr (p := p) n
    unfold plainF at h
    split at h
    · exact .bool _
    · exact .int _ _
    · exact .string _
    · exact .nilPtr
    · exact .nilSlice
    · exact .nilMap
    · exact .nilFunc
    · exact .nilIface
    · exact .iface _ (ih _ h)
    · exact .agg (VRs.of_all ih _ h)
    · exact .tuple (VRs.of_all ih _ h)
    · cases h
/-! ### the same bytes? -/
def eqB : List UInt8 → List UInt8 → Bool
  | [], [] => true
  | a :: l, b :: m => Nat.beq a.toNat b.toNat && eqB l m
  | _, _ => false
theorem eqB_ok : ∀ {l m : List UInt8}, eqB l m = true → l = m
  | [], [], _ => rfl
  | a :: l, b :: m, h => by
    unfold eqB at h
    rw [Bool.and_eq_true] at h
    rw [UInt8.toNat_inj.1 (Nat.eq_of_beq_eq_true h.1), eqB_ok h.2]
  | [], _ :: _, h => by cases h
  | _ :: _, [], h => by cases h
theorem eqB_self : ∀ l : List UInt8, eqB l l = true
  | [] => rfl
  | a :: l => by unfold eqB; rw [eqB_self l, Bool.and_true]; exact Nat.beq_refl _
theorem eqB_beq (l m : List UInt8) : eqB l m = (l == m) := by
  rw [Bool.eq_iff_iff]
  constructor
  · intro h
    rw [eqB_ok h]
    exact beq_self_eq_true m
  · intro h
    rw [eq_of_beq h]
    exact eqB_self m
end Ev
end Go.Proofs.YtakfgbedmglffaaGreatDoor
