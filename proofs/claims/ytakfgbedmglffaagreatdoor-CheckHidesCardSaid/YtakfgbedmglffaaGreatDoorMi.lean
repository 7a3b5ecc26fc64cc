/- The evaluator's further operations, held against the model's: structs, arrays and slices built of parts, lengths, functions' values, nil. No program in sight. -/
import Derived.Test.YtakfgbedmglffaaGreatDoorMh
import Derived.Laws.Tables
import Derived.Laws.MakeOwn
namespace Go.Proofs.YtakfgbedmglffaaGreatDoor
set_option linter.unusedSimpArgs false
set_option linter.unusedVariables false
namespace Ev
open Go.RowKit

section
variable {P : Program} {K : Cfg} {base : Nat} {w0 w : World} {p : Plan} {h h' : Tree AObj} {c c' : Nat} {l : Log}
/-! ### parts -/
theorem foldl_putAll (off : Nat) : ∀ (l : List Value) (s : Nat) (cs : Array Value),
    ((l.zipIdx s).foldl (fun cs (x : Value × Nat) => cs.setIfInBounds (off + x.2) x.1) cs).toList = putAll cs.toList (off + s) l
  | [], s, cs => rfl
  | v :: l, s, cs => by
    simp only [List.zipIdx_cons, List.foldl_cons]
    rw [foldl_putAll off l (s + 1), putAll, Array.toList_setIfInBounds, Nat.add_assoc]
theorem putAll_vrs : ∀ {vs vs' : List Value}, VRs p vs vs' → ∀ {cs cs' : List Value} (o : Nat), VRs p cs cs' → VRs p (putAll cs o vs) (putAll cs' o vs')
  | _, _, .nil, _, _, _, h => h
  | _, _, .cons a b, _, _, o, h => putAll_vrs b (o + 1) (h.set o a)
def xFill (place : Nat → Option (Nat × Nat)) : List Value → List (Nat × Value) → Option (List Value)
  | cs, [] => some cs
  | cs, (i, v) :: l => match place i with
    | none => none
    | some (off, size) => if v.cells.toList.length = size ∧ off + v.cells.toList.length ≤ cs.length then xFill place (putAll cs off v.cells.toList) l else none
inductive PR (p : Plan) : List (Nat × Value) → List (Nat × Value) → Prop where
  | nil : PR p [] []
  | cons {i : Nat} {v w : Value} {l m : List (Nat × Value)} : VR p v w → PR p l m → PR p ((i, v) :: l) ((i, w) :: m)
theorem xFill_ok (place : Nat → Option (Nat × Nat)) : ∀ {ps ps' : List (Nat × Value)}, PR p ps ps' → ∀ {cs : List Value} {cs' : Array Value} {r : List Value}, xFill place cs ps = some r → VRs p cs cs'.toList →
    ∃ r', Instr.fill place cs' ps' = some r' ∧ VRs p r r'.toList
  | _, _, .nil, cs, cs', r, e, hc => by cases e; exact ⟨cs', rfl, hc⟩
  | _, _, .cons (i := i) (v := v) (w := w) hv ht, cs, cs', r, e, hc => by
    unfold xFill at e
    unfold Instr.fill
    cases hp : place i with
    | none => rw [hp] at e; cases e
    | some x =>
      obtain ⟨off, size⟩ := x
      rw [hp] at e
      dsimp only at e ⊢
      split at e
      · rename_i hb
        obtain ⟨hb1, hb2⟩ := hb
        have hvc := cells_vrs hv
        have hl := hvc.len
        have hl2 := hc.len
        simp only [Array.length_toList] at hl hl2 hb1 hb2
        rw [if_neg (by simp; omega)]
        refine xFill_ok place ht e ?_
        rw [← Array.foldl_toList, Array.toList_zipIdx, foldl_putAll off]
        exact putAll_vrs hvc _ hc
      · cases e
def placesOf (P : Program) : List Field → Option (List (Nat × Nat))
  | [] => some []
  | f :: fs => match P.info? f.type, placesOf P fs with
    | some i, some l => some ((f.offset, i.size) :: l)
    | _, _ => none
theorem placesOf_eq : ∀ fs : List Field, fs.mapM (fun f => (P.info? f.type).map fun i => (f.offset, i.size)) = placesOf P fs
  | [] => rfl
  | f :: fs => by
    rw [List.mapM_cons, placesOf_eq fs, placesOf]
    cases P.info? f.type <;> cases placesOf P fs <;> rfl
def xBuild (P : Program) (t : TypeId) (parts : List (Nat × Value)) : Option Value := match tiOf P t with
  | some i => match i.u with
    | .struct fs => match placesOf P fs.toList with
      | some pl => (xFill (fun k => pl[k]?) i.zero.cells.toList parts).map fun cs => .agg cs.toArray
      | none => none
    | .array _ e => match P.info? e with
      | some ie => (xFill (fun k => some (k * ie.size, ie.size)) i.zero.cells.toList parts).map fun cs => .agg cs.toArray
      | none => none
    | _ => none
  | none => none
theorem xBuild_ok {t : TypeId} {parts : List (Nat × Value)} {parts' : Array (Nat × Value)} {r : Value} (e : xBuild P t parts = some r) (hv : PR p parts parts'.toList) : Pures P p (Instr.build t parts') VR r := by
  intro w
  unfold xBuild at e
  cases hi : tiOf P t with
  | none => rw [hi] at e; cases e
  | some i =>
    rw [hi] at e
    have ht := tiOf_ok hi
    obtain ⟨f, hf1, hf2, hf3, hf4⟩ := ht.info
    have hz : VRs p i.zero.cells.toList i.zero.cells.toList := cells_vrs (plain_vr 9 _ ht.plain)
    dsimp only at e
    have hu := ht.u
    cases hd : i.u with
    | struct fs =>
      rw [hd] at e hu
      dsimp only at e
      cases hp : placesOf P fs.toList with
      | none => rw [hp] at e; cases e
      | some pl =>
        rw [hp] at e
        obtain ⟨cs, e1, rfl⟩ := Option.map_eq_some_iff.1 e
        obtain ⟨r', h1, h2⟩ := xFill_ok _ hv e1 hz
        refine ⟨.agg r', run_build w t parts' r' ?_, .agg (by simpa using h2)⟩
        unfold Program.built
        rw [hf1, hu]
        dsimp only
        rw [hf4, placesOf_eq, hp]
        dsimp only
        rw [← h1]
        congr 1
        funext k
        exact List.getElem?_toArray
    | array n el =>
      rw [hd] at e hu
      dsimp only at e
      cases hp : P.info? el with
      | none => rw [hp] at e; cases e
      | some ie =>
        rw [hp] at e
        obtain ⟨cs, e1, rfl⟩ := Option.map_eq_some_iff.1 e
        obtain ⟨r', h1, h2⟩ := xFill_ok _ hv e1 hz
        refine ⟨.agg r', run_build w t parts' r' ?_, .agg (by simpa using h2)⟩
        unfold Program.built
        rw [hf1, hu]
        dsimp only
        rw [hf4, hp]
        exact h1
    | _ => rw [hd] at e; cases e
/-! ### new slices -/
def tilesX (z : List Value) (n : Nat) : List Value := (List.range n).map fun k => (z[k % z.length]?).getD .nilIface
theorem tiles_vrs {z : List Value} {z' : Array Value} (hz : VRs p z z'.toList) {n : Nat} (hn : n = 0 ∨ 0 < z.length) : VRs p (tilesX z n) (madeCells z' n).toList := by
  have hl := hz.len
  simp only [Array.length_toList] at hl
  have key : ∀ l : List Nat, (0 < z.length) → VRs p (l.map fun k => (z[k % z.length]?).getD .nilIface) (l.map (z'[· % z'.size]!)) := by
    intro l h0
    induction l with
    | nil => exact .nil
    | cons k l ih =>
      refine .cons ?_ ih
      have hk : k % z.length < z.length := Nat.mod_lt _ h0
      obtain ⟨y, h1, h2⟩ := hz.get (k % z.length) z[k % z.length] (List.getElem?_eq_getElem hk)
      show VR p ((z[k % z.length]?).getD .nilIface) (z'[k % z'.size]!)
      rw [List.getElem?_eq_getElem hk, Option.getD_some]
      have h3 : z'[k % z'.size]! = y := by
        rw [← hl, getElem!_def]
        have : z'[k % z.length]? = some y := by simpa using h1
        rw [this]
      rw [h3]
      exact h2
  unfold tilesX madeCells
  rcases hn with rfl | h0
  · simpa using VRs.nil
  · have := key (List.range n) h0
    simpa using this
noncomputable def xMakeSlice (P : Program) (t : TypeId) (lv cv : Value) : M AObj Value := match P.underlying t with
  | some (.slice e) => match lv, cv with
   | .int _ a, .int _ b => M.bind (liftO (tiOf P e)) fun i =>
    if 0 ≤ a ∧ a ≤ b ∧ b.toNat ≤ maxLen ∧ (i.bytes : Int) * b ≤ 281474976710656 ∧ b.toNat * i.size ≤ 16777216 then
      M.bind (newRowX (tilesX i.zero.cells.toList (b.toNat * i.size)) e i.size) fun x => M.pure (.slice (some ⟨x, 0, none⟩) a.toNat b.toNat)
    else M.fail
   | _, _ => M.fail
  | _ => M.fail
theorem xMakeSlice_ok {t : TypeId} {lv lv' cv cv' r : Value} (e : xMakeSlice P t lv cv h c = .ok r h' c' l) (hl : VR p lv lv') (hc : VR p cv cv') (hr : Rel K base w0 p h w) (hf : Free p c c') : Gives P K base w0 p w c c' h' VR (Instr.makeSlice t lv' cv') r := by
  unfold xMakeSlice at e
  cases hu : P.underlying t with
  | none => rw [hu] at e; cases e
  | some d =>
    rw [hu] at e
    obtain ⟨el, rfl⟩ : ∃ el, d = .slice el := by cases d <;> first | exact ⟨_, rfl⟩ | cases e
    dsimp only at e
    split at e
    · rename_i k1 a k2 b
      cases hl
      cases hc
      obtain ⟨i, h1, c1, l1, l2, e1, e2⟩ := bind_inv e
      obtain ⟨e3, rfl, rfl⟩ := liftO_inv e1
      have ht := tiOf_ok e3
      obtain ⟨f, hf1, hf2, hf3, hf4⟩ := ht.info
      split at e2
      · rename_i hb
        obtain ⟨b1, b2, b3, b4, b5⟩ := hb
        obtain ⟨x, h1, c1, l1, l2, e4, e5⟩ := bind_inv e2
        obtain ⟨rfl, rfl, rfl⟩ := new_inv e4
        obtain ⟨rfl, rfl, rfl⟩ := pure_inv e5
        have hp := hf x (Nat.le_refl _) (by omega)
        have hz : VRs p i.zero.cells.toList i.zero.cells.toList := cells_vrs (plain_vr 9 _ ht.plain)
        have hzs := ht.zsize
        have ht0 := tiles_vrs hz (n := b.toNat * i.size) (by
          rcases Nat.eq_zero_or_pos i.size with h0 | h0
          · left; rw [h0]; omega
          · right; simp only [Array.length_toList]; omega)
        obtain ⟨q1, q2⟩ := newRow_gives (P := P) hr hp _ (madeCells i.zero.cells (b.toNat * i.size)) el i.size ht0
        have hmax : maxLen ≤ 9223372036854775807 := by decide
        refine ⟨_, _, .slice (some ⟨w.heap.size, 0, none⟩) a.toNat b.toNat, ?_, ?_, q2, Plan.le_add hp, add_out⟩
        · have := run_makeSlice (P := P) w t el f i.zero hu hf1 hf4 k1 k2 a b b1 b2 (by rw [hf2]; exact b5) (by rw [hf3]; exact b4) (by omega)
          rw [hf2] at this
          exact this
        · exact .slice (s := ⟨w.heap.size, 0, _, _⟩) (Plan.add_self _ _ _) (by omega) b3
      · cases e2
    · cases e
noncomputable def xBuildSlice (P : Program) (t : TypeId) (len : Nat) (parts : List (Nat × Value)) : M AObj Value := match P.underlying t with
  | some (.slice e) => M.bind (liftO (tiOf P e)) fun i =>
    if len * i.size ≤ 16777216 ∧ len ≤ maxLen then
      M.bind (liftO (xFill (fun k => some (k * i.size, i.size)) (tilesX i.zero.cells.toList (len * i.size)) parts)) fun cs =>
      M.bind (newRowX cs e i.size) fun x => M.pure (.slice (some ⟨x, 0, none⟩) len len)
    else M.fail
  | _ => M.fail
theorem xBuildSlice_ok {t : TypeId} {len : Nat} {parts : List (Nat × Value)} {parts' : Array (Nat × Value)} {r : Value} (e : xBuildSlice P t len parts h c = .ok r h' c' l) (hv : PR p parts parts'.toList) (hr : Rel K base w0 p h w) (hf : Free p c c') : Gives P K base w0 p w c c' h' VR (Instr.buildSlice t len parts') r := by
  unfold xBuildSlice at e
  cases hu : P.underlying t with
  | none => rw [hu] at e; cases e
  | some d =>
    rw [hu] at e
    cases d with
    | slice el =>
      dsimp only at e
      obtain ⟨i, h1, c1, l1, l2, e1, e2⟩ := bind_inv e
      obtain ⟨e3, rfl, rfl⟩ := liftO_inv e1
      have ht := tiOf_ok e3
      obtain ⟨f, hf1, hf2, hf3, hf4⟩ := ht.info
      split at e2
      · rename_i hb
        obtain ⟨b1, b2⟩ := hb
        obtain ⟨cs, h1, c1, l1, l2, e4, e5⟩ := bind_inv e2
        obtain ⟨e6, rfl, rfl⟩ := liftO_inv e4
        obtain ⟨x, h1, c1, l1, l2, e7, e8⟩ := bind_inv e5
        obtain ⟨rfl, rfl, rfl⟩ := new_inv e7
        obtain ⟨rfl, rfl, rfl⟩ := pure_inv e8
        have hp := hf x (Nat.le_refl _) (by omega)
        have hz : VRs p i.zero.cells.toList i.zero.cells.toList := cells_vrs (plain_vr 9 _ ht.plain)
        have hzs := ht.zsize
        have ht0 := tiles_vrs hz (n := len * i.size) (by
          rcases Nat.eq_zero_or_pos i.size with h0 | h0
          · left; rw [h0]; omega
          · right; simp only [Array.length_toList]; omega)
        obtain ⟨cs', q3, q4⟩ := xFill_ok _ hv e6 ht0
        obtain ⟨q1, q2⟩ := newRow_gives (P := P) hr hp _ cs' el i.size q4
        refine ⟨_, _, .slice (some ⟨w.heap.size, 0, none⟩) len len, ?_, ?_, q2, Plan.le_add hp, add_out⟩
        · have hq : (Array.range (len * i.size)).map ((if len * i.size = 0 then (#[] : Array Value) else i.zero.cells)[· % (if len * i.size = 0 then (#[] : Array Value) else i.zero.cells).size]!) = madeCells i.zero.cells (len * i.size) := by
            unfold madeCells
            split
            · rename_i h0; rw [h0]; simp
            · rfl
          unfold Instr.buildSlice
          rw [Sem.run_bind, run_underlying hu w, Result.andThen_ok]
          dsimp only
          rw [Sem.run_bind, run_sizeOf' ht w, Result.andThen_ok, if_neg (by omega)]
          by_cases h0 : len * i.size = 0
          · rw [if_pos h0] at hq ⊢
            simp only [Sem.run_bind, Sem.run_pure, Result.andThen_ok]
            rw [hq, q3]
            simp only [Sem.run_bind, q1, Result.andThen_ok]
            rfl
          · rw [if_neg h0] at hq ⊢
            simp only [Sem.run_bind, Sem.run_pure, run_zero ht, Result.andThen_ok]
            rw [hq, q3]
            simp only [Sem.run_bind, q1, Result.andThen_ok]
            rfl
        · exact .slice (s := ⟨w.heap.size, 0, _, _⟩) (Plan.add_self _ _ _) (by omega) b2
      · cases e2
    | _ => cases e
end
end Ev
end Go.Proofs.YtakfgbedmglffaaGreatDoor
