/- The evaluator's operations over values with addresses, each held against the model's: parts, places, slices. No program in sight. -/
import Derived.Test.YtakfgbedmglffaaGreatDoorMd
import Derived.ChangeKeysEq
namespace Go.Proofs.YtakfgbedmglffaaGreatDoor
set_option linter.unusedSimpArgs false
set_option linter.unusedVariables false
namespace Ev
open Go.RowKit

section
variable {P : Program} {K : Cfg} {base : Nat} {w0 w : World} {p : Plan} {h h' : Tree AObj} {c c' : Nat} {l : Log}
/-- a law on an operation that asks nothing of the heap -/
def Pures {β : Type} (P : Program) (p : Plan) (s : Sem β) (R : Plan → Value → β → Prop) (x : Value) : Prop := ∀ w : World, ∃ y, s.run P w = .ok y w ∧ R p x y
theorem Pures.gives {s : Sem Value} {x : Value} (hx : Pures P p s VR x) (hr : Rel K base w0 p h w) : Gives P K base w0 p w c c h VR s x := by
  obtain ⟨y, h1, h2⟩ := hx w
  exact Gives.quiet hr h1 h2
def xExtract (v : Value) (i : Nat) : Option Value := match v with
  | .tuple vs => vs[i]?
  | _ => none
theorem xExtract_ok {v v' x : Value} {i : Nat} (e : xExtract v i = some x) (hv : VR p v v') : Pures P p (Instr.extract v' i) VR x := by
  intro w
  unfold xExtract at e
  split at e
  · cases hv with
    | tuple hs =>
      rename_i vs'
      obtain ⟨y, h1, h2⟩ := hs.get i x (by simpa using e)
      refine ⟨y, ?_, h2⟩
      have h3 : vs'[i]? = some y := by simpa using h1
      simp [Instr.extract, h3]
  · cases e
def xMkIface (P : Program) (t : TypeId) (v : Value) : Option Value := match P.underlying t with
  | some (.interface _) => none
  | some _ => some (.iface t v)
  | none => none
theorem xMkIface_ok {t : TypeId} {v v' x : Value} (e : xMkIface P t v = some x) (hv : VR p v v') : Pures P p (Instr.makeInterface t v') VR x := by
  intro w
  unfold xMkIface at e
  split at e
  · cases e
  · rename_i u hni hu
    cases e
    refine ⟨.iface t v', ?_, .iface t hv⟩
    unfold Instr.makeInterface
    rw [Sem.run_bind, run_underlying hu w, Result.andThen_ok]
    split
    · rename_i ms; exact (hni ms rfl).elim
    · rfl
  · cases e
theorem run_isAgg {t : TypeId} {u : TypeDesc} (hu : P.underlying t = some u) (w : World) : (isAgg t).run P w = .ok u.isRow w := by
  unfold isAgg
  rw [Sem.run_bind, run_underlying hu w, Result.andThen_ok]
  cases u <;> rfl
theorem extract_list (cs : Array Value) (a n : Nat) : (cs.extract a (a + n)).toList = (cs.toList.drop a).take n := by
  simp [List.extract_eq_take_drop]
/-- a part of a struct or an array -/
def xPart (P : Program) (t : TypeId) (cs : List Value) (o : Nat) : Option Value := match tiOf P t with
  | some i => if i.row then some (.agg ((cs.drop o).take i.size).toArray) else cs[o]?
  | none => none
theorem xPart_ok {t : TypeId} {cs : List Value} {cs' : Array Value} {o : Nat} {x : Value} (e : xPart P t cs o = some x) (hv : VRs p cs cs'.toList) : Pures P p (part t cs' o) VR x := by
  intro w
  unfold xPart at e
  split at e
  · rename_i i hi
    have ht := tiOf_ok hi
    split at e
    · rename_i hrow
      cases e
      refine ⟨.agg (cs'.extract o (o + i.size)), ?_, .agg (by rw [extract_list]; simpa using (hv.drop o).take i.size)⟩
      unfold part
      rw [Sem.run_bind, run_isAgg ht.u w, Result.andThen_ok, ← ht.row, hrow]
      simp only [if_true]
      rw [Sem.run_bind, run_sizeOf' ht w]
      rfl
    · rename_i hrow
      obtain ⟨y, h1, h2⟩ := hv.get o x e
      refine ⟨y, ?_, h2⟩
      have h3 : cs'[o]? = some y := by simpa using h1
      unfold part
      rw [Sem.run_bind, run_isAgg ht.u w, Result.andThen_ok, ← ht.row]
      simp [hrow, h3]
  · cases e
def xField (P : Program) (t : TypeId) (v : Value) (i : Nat) : Option Value := match P.underlying t, v with
  | some (.struct fs), .agg cs => match fs[i]? with
    | some f => xPart P f.type cs.toList f.offset
    | none => none
  | _, _ => none
theorem xField_ok {t : TypeId} {v v' x : Value} {i : Nat} (e : xField P t v i = some x) (hv : VR p v v') : Pures P p (Instr.field t v' i) VR x := by
  intro w
  unfold xField at e
  split at e
  · rename_i fs cs hu
    split at e
    · rename_i f hf
      cases hv with
      | agg hs =>
        rename_i cs'
        obtain ⟨y, h1, h2⟩ := xPart_ok (P := P) e hs w
        refine ⟨y, ?_, h2⟩
        unfold Instr.field
        rw [Sem.run_bind, run_underlying hu w, Result.andThen_ok]
        simp only [hf, asAgg, Sem.run_bind, Sem.run_pure, Result.andThen_ok]
        exact h1
    · cases e
  · cases e
/-- an array's element -/
def xIndex (P : Program) (t : TypeId) (v x : Value) : Option Value := match P.underlying t, v, x with
  | some (.array n e), .agg cs, .int _ i => match tiOf P e with
    | some ti => if 0 ≤ i ∧ i < n then xPart P e cs.toList (i.toNat * ti.size) else none
    | none => none
  | _, _, _ => none
theorem xIndex_ok {t : TypeId} {v v' x x' r : Value} (e : xIndex P t v x = some r) (hv : VR p v v') (hx : VR p x x') : Pures P p (Instr.index t v' x') VR r := by
  intro w
  unfold xIndex at e
  split at e
  · rename_i n el cs k i hu
    split at e
    · rename_i ti hti
      split at e
      · rename_i hb
        cases hv with
        | agg hs =>
          rename_i cs'
          cases hx
          obtain ⟨y, h1, h2⟩ := xPart_ok (P := P) e hs w
          refine ⟨y, ?_, h2⟩
          unfold Instr.index
          simp only [asIntOf, Sem.run_bind, Sem.run_pure, Result.andThen_ok, run_underlying hu w]
          rw [if_pos hb, Sem.run_bind, run_sizeOf' (tiOf_ok hti) w, Result.andThen_ok]
          exact h1
      · cases e
    · cases e
  · cases e
/-! ### places -/
def xFieldAddr (P : Program) (t : TypeId) (v : Value) (i : Nat) : Option Value := match P.underlying t, v with
  | some (.struct fs), .pointer (some ⟨b, o, none⟩) => match fs[i]? with
    | some f => match P.info? f.type with
      | some g => if g.size = 0 then none else some (.pointer (some ⟨b, o + f.offset, none⟩))
      | none => none
    | none => none
  | _, _ => none
theorem xFieldAddr_ok {t : TypeId} {v v' x : Value} {i : Nat} (e : xFieldAddr P t v i = some x) (hv : VR p v v') : Pures P p (Instr.fieldAt t v' i) VR x := by
  intro w
  unfold xFieldAddr at e
  split at e
  · rename_i fs b o hu
    split at e
    · rename_i f hf
      split at e
      · rename_i g hg
        split at e
        · cases e
        · rename_i hsz
          cases e
          cases hv with
          | ptr hs =>
            rename_i s
            refine ⟨.pointer (some ⟨s.blk, s.off + (o + f.offset), none⟩), ?_, .ptr hs⟩
            unfold Instr.fieldAt fieldPlace
            rw [Sem.run_bind, run_underlying hu w, Result.andThen_ok]
            simp [hf, Instr.sureAddr, sizeOf, typeInfo, hg, hsz, Addr.add_mid, Nat.add_assoc]
      · cases e
    · cases e
  · cases e
def xIndexAddr (P : Program) (t : TypeId) (v x : Value) : Option Value := match P.underlying t, v, x with
  | some (.slice e), .slice (some ⟨b, o, none⟩) n c, .int _ i => match P.info? e with
    | some g => if 0 ≤ i ∧ i < n ∧ c ≠ unkE then some (.pointer (some ⟨b, o + i.toNat * g.size, none⟩)) else none
    | none => none
  | some (.array n e), .pointer (some ⟨b, o, none⟩), .int _ i => match P.info? e with
    | some g => if 0 ≤ i ∧ i < n then some (.pointer (some ⟨b, o + i.toNat * g.size, none⟩)) else none
    | none => none
  | _, _, _ => none
theorem xIndexAddr_ok {t : TypeId} {v v' x x' r : Value} (e : xIndexAddr P t v x = some r) (hv : VR p v v') (hx : VR p x x') : Pures P p (Instr.indexAt t v' x') VR r := by
  intro w
  unfold xIndexAddr at e
  split at e
  · rename_i el b o n cc k i hu
    split at e
    · rename_i g hg
      split at e
      · rename_i hb
        obtain ⟨hb1, hb2, hb3⟩ := hb
        cases e
        cases hx
        have key : ∀ (s : Spot) (n' cc' : Nat), p b = some s → n' = n → ∃ y, (Instr.indexAt t (.slice (some ⟨s.blk, s.off + o, none⟩) n' cc') (.int k i)).run P w = .ok y w ∧ VR p (.pointer (some ⟨b, o + i.toNat * g.size, none⟩)) y := by
          intro s n' cc' hs hn
          subst hn
          refine ⟨.pointer (some ⟨s.blk, s.off + (o + i.toNat * g.size), none⟩), ?_, .ptr hs⟩
          unfold Instr.indexAt
          simp only [asIntOf, Sem.run_bind, Sem.run_pure, Result.andThen_ok, run_underlying hu w]
          rw [if_pos ⟨hb1, hb2⟩]
          simp [sizeOf, typeInfo, hg, Addr.add_mid, Nat.add_assoc]
        cases hv with
        | slice hs _ _ => exact key _ _ _ hs rfl
        | sliceU hs _ _ _ => exact key _ _ _ hs rfl
        | sliceE => exact absurd rfl hb3
      · cases e
    · cases e
  · rename_i n el b o k i hu
    split at e
    · rename_i g hg
      split at e
      · rename_i hb
        cases e
        cases hx
        cases hv with
        | ptr hs =>
          rename_i s
          refine ⟨.pointer (some ⟨s.blk, s.off + (o + i.toNat * g.size), none⟩), ?_, .ptr hs⟩
          unfold Instr.indexAt
          simp only [asIntOf, Instr.sureAddr, Sem.run_bind, Sem.run_pure, Result.andThen_ok, run_underlying hu w]
          rw [if_pos hb]
          simp [sizeOf, typeInfo, hg, Addr.add_mid, Nat.add_assoc]
      · cases e
    · cases e
  · cases e
/-- is it surely no nil? -/
def xNilCheck (v : Value) : Option Value := match v with
  | .pointer (some _) | .slice _ _ _ | .map _ | .int _ _ | .string _ | .agg _ | .bool _ | .iface _ _ => some v
  | .func (.func _) _ _ => some v
  | _ => none
end
end Ev
end Go.Proofs.YtakfgbedmglffaaGreatDoor
