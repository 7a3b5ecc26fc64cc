/- The evaluator's further operations, held against the model's: maps whose keys are numbers, truth values or strings. No program in sight. -/
import Derived.Test.YtakfgbedmglffaaGreatDoorMj
import Derived.MapKept
namespace Go.Proofs.YtakfgbedmglffaaGreatDoor
set_option linter.unusedSimpArgs false
set_option linter.unusedVariables false
namespace Ev
open Go.RowKit

section
variable {P : Program} {K : Cfg} {base : Nat} {w0 w : World} {p : Plan} {h h' : Tree AObj} {c c' : Nat} {l : Log}
/-! ### maps -/
def isKeyB : TypeDesc → Value → Bool
  | .bool, .bool _ => true
  | .int k, .int k' _ => k' == k
  | .string, .string _ => true
  | _, _ => false
theorem isKeyB_ok {d : TypeDesc} {k : Value} (e : isKeyB d k = true) : MapKept.IsKey d k := by
  unfold isKeyB at e
  split at e
  · trivial
  · simpa [MapKept.IsKey] using e
  · trivial
  · cases e
theorem isKey_vr {d : TypeDesc} {k k' : Value} (e : isKeyB d k = true) (hv : VR p k k') : k' = k := by
  cases d <;> cases hv <;> first | rfl | cases e
/-- the entry of a key -/
def xFind (d : TypeDesc) (k : Value) : List (Value × Value × Nat) → Nat → Option (Option (Nat × Value))
  | [], _ => some none
  | e :: es, i => if isKeyB d e.1 then match Instr.sameNow d k e.1 with
    | some true => some (some (i, e.2.1))
    | some false => xFind d k es (i + 1)
    | none => none
    else none
def FR (p : Plan) : Option (Nat × Value) → Option (Nat × Value) → Prop
  | none, none => True
  | some a, some b => a.1 = b.1 ∧ VR p a.2 b.2
  | _, _ => False
theorem xFind_ok {d : TypeDesc} {k : Value} : ∀ {es : List (Value × Value × Nat)} {ms : List MapEntry} {i : Nat} {r : Option (Nat × Value)}, xFind d k es i = some r → MRs p es ms →
    ∃ r', Instr.findNow d k ms i = some r' ∧ FR p r r'
  | [], [], _, _, e, _ => by cases e; exact ⟨none, rfl, trivial⟩
  | e :: es, m :: ms, i, r, h, ⟨⟨h1, h2, h3⟩, h4⟩ => by
    unfold xFind at h
    split at h
    · rename_i hk
      have hm := isKey_vr hk h1
      split at h
      · rename_i hs
        cases h
        exact ⟨some (i, m.val), by simp [Instr.findNow, hm, hs], rfl, h2⟩
      · rename_i hs
        obtain ⟨r', q1, q2⟩ := xFind_ok h h4
        exact ⟨r', by simp [Instr.findNow, hm, hs, q1], q2⟩
      · cases h
    · cases h
  | [], _ :: _, _, _, _, h => h.elim
  | _ :: _, [], _, _, _, h => h.elim
/-! keys that are structs or arrays: the model's own comparison -/
def shapedKey : TypeDesc → Bool
  | .struct _ => true
  | .array _ _ => true
  | _ => false
def checksX (P : Program) (em : Bool) (kt : TypeId) (k : Value) : Bool := match pureOf P (Instr.checkKey em 10000 kt k) with
  | some (.ok _) => true
  | _ => false
def keyAsk (P : Program) (kt : TypeId) (d : TypeDesc) (em : Bool) (k : Value) : Bool := isKeyB d k || (shapedKey d && plainF 9 k && checksX P em kt k)
def xFindA (P : Program) (kt : TypeId) (k : Value) : List (Value × Value × Nat) → Nat → Option (Option (Nat × Value))
  | [], _ => some none
  | e :: es, i => if plainF 9 e.1 then match pureOf P (Op.equal kt k e.1) with
    | some (.ok true) => some (some (i, e.2.1))
    | some (.ok false) => xFindA P kt k es (i + 1)
    | _ => none
    else none
def findK (P : Program) (kt : TypeId) (d : TypeDesc) (k : Value) (es : List (Value × Value × Nat)) : Option (Option (Nat × Value)) :=
  if isKeyB d k then xFind d k es 0 else xFindA P kt k es 0
theorem xFindA_ok {kt : TypeId} {k : Value} : ∀ {es : List (Value × Value × Nat)} {ms : List MapEntry} {i : Nat} {r : Option (Nat × Value)}, xFindA P kt k es i = some r → MRs p es ms →
    ∃ r', (∀ w, (Instr.findAsking kt k ms i).run P w = .ok r' w) ∧ FR p r r'
  | [], [], _, _, e, _ => by cases e; exact ⟨none, fun _ => rfl, trivial⟩
  | e :: es, m :: ms, i, r, h, ⟨⟨h1, h2, h3⟩, h4⟩ => by
    unfold xFindA at h
    split at h
    · rename_i hk
      have hm := plain_eq 9 _ _ hk h1
      split at h
      · rename_i hs
        cases h
        refine ⟨some (i, m.val), fun w => ?_, rfl, h2⟩
        rw [Instr.findAsking, hm, Sem.run_bind, pureOf_ok _ hs w]
        rfl
      · rename_i hs
        obtain ⟨r', q1, q2⟩ := xFindA_ok h h4
        refine ⟨r', fun w => ?_, q2⟩
        rw [Instr.findAsking, hm, Sem.run_bind, pureOf_ok _ hs w]
        exact q1 w
      · cases h
    · cases h
  | [], _ :: _, _, _, _, h => h.elim
  | _ :: _, [], _, _, _, h => h.elim
theorem checksX_ok {em : Bool} {kt : TypeId} {k : Value} (h : checksX P em kt k = true) (w : World) : (Instr.checkKey em 10000 kt k).run P w = .ok () w := by
  unfold checksX at h
  split at h
  · rename_i u hu
    exact pureOf_ok _ hu w
  · cases h
theorem keyAsk_vr {kt : TypeId} {d : TypeDesc} {em : Bool} {k k' : Value} (e : keyAsk P kt d em k = true) (hv : VR p k k') : k' = k := by
  unfold keyAsk at e
  simp only [Bool.or_eq_true, Bool.and_eq_true] at e
  rcases e with e | ⟨⟨_, e⟩, _⟩
  · exact isKey_vr e hv
  · exact plain_eq 9 _ _ e hv
theorem keyAsk_check {kt : TypeId} {d : TypeDesc} {em : Bool} {k : Value} (hd : P.underlying kt = some d) (e : keyAsk P kt d em k = true) (w : World) : (Instr.checkKey em 10000 kt k).run P w = .ok () w := by
  unfold keyAsk at e
  simp only [Bool.or_eq_true, Bool.and_eq_true] at e
  rcases e with e | ⟨_, e⟩
  · exact MapKept.run_checkKey hd (isKeyB_ok e) em 9999
  · exact checksX_ok e w
theorem findK_ok {kt : TypeId} {d : TypeDesc} {em : Bool} {k : Value} (hd : P.underlying kt = some d) (e : keyAsk P kt d em k = true) {es : List (Value × Value × Nat)} {ms : List MapEntry} {r : Option (Nat × Value)} (h : findK P kt d k es = some r) (hm : MRs p es ms) :
    ∃ r', (∀ w, (Instr.findKey kt k ms).run P w = .ok r' w) ∧ FR p r r' := by
  unfold findK at h
  split at h
  · obtain ⟨r', q1, q2⟩ := xFind_ok h hm
    exact ⟨r', fun w => MapKept.run_findKey hd q1, q2⟩
  · rename_i hk
    unfold keyAsk at e
    simp only [Bool.or_eq_true, Bool.and_eq_true] at e
    rcases e with e | ⟨⟨e, _⟩, _⟩
    · exact absurd e hk
    · obtain ⟨r', q1, q2⟩ := xFindA_ok h hm
      refine ⟨r', fun w => ?_, q2⟩
      unfold Instr.findKey
      rw [Sem.run_bind, run_underlying hd w, Result.andThen_ok]
      cases ms with
      | nil =>
        have := q1 w
        rw [Instr.findAsking] at this
        exact this
      | cons m ms =>
        have : Instr.findNow d k (m :: ms) 0 = none := by
          unfold Instr.findNow
          have : Instr.sameNow d k m.key = none := by cases d <;> first | rfl | cases e
          rw [this]
        rw [this]
        exact q1 w
theorem MRs.len : ∀ {es : List (Value × Value × Nat)} {ms : List MapEntry}, MRs p es ms → es.length = ms.length
  | [], [], _ => rfl
  | _ :: _, _ :: _, ⟨_, h⟩ => by simp [MRs.len h]
  | [], _ :: _, h => h.elim
  | _ :: _, [], h => h.elim
theorem MRs.empty {es : List (Value × Value × Nat)} {ms : Array MapEntry} (h : MRs p es ms.toList) : ms.isEmpty = es.isEmpty := by
  have := h.len
  cases es with
  | nil => simp at this; simp [Array.isEmpty, this.symm]
  | cons => simp at this; simp [Array.isEmpty, ← this]
noncomputable def rdMap (b : Nat) : M AObj (List (Value × Value × Nat) × Nat) := M.bind (M.read b) fun
  | .map es clock => M.pure (es, clock)
  | _ => M.fail
theorem rdMap_inv {b : Nat} {y : List (Value × Value × Nat) × Nat} {h h2 : Tree AObj} {c c2 : Nat} {l : Log} (e : rdMap b h c = .ok y h2 c2 l) : h.get b = some (.map y.1 y.2) ∧ h2 = h ∧ c2 = c := by
  obtain ⟨o, h1, c1, l1, l2, e1, e2⟩ := bind_inv e
  obtain ⟨e3, rfl, rfl⟩ := read_inv e1
  split at e2
  · obtain ⟨rfl, rfl, rfl⟩ := pure_inv e2
    exact ⟨e3, rfl, rfl⟩
  · cases e2
theorem Rel.mapAt (hr : Rel K base w0 p h w) {b : Nat} {es : List (Value × Value × Nat)} {clock : Nat} (hb : h.get b = some (.map es clock)) {s : Spot} (hs : p b = some s) :
    s.off = 0 ∧ ∃ ms : Array MapEntry, w.heap[s.blk]? = some (.map ms clock) ∧ MRs p es ms.toList ∧ s.blk < w.heap.size ∧ (K.n ≤ b → base ≤ s.blk) := by
  obtain ⟨s', h1, hB, hlt, h2⟩ := hr.at_ b _ hb
  obtain rfl : s' = s := Option.some.inj (h1.symm.trans hs)
  obtain ⟨h0, ms, q1, q2⟩ := h2
  exact ⟨h0, ms, q1, q2, hlt, hB⟩
/-- a map written anew -/
theorem Rel.setMap (hr : Rel K base w0 p h w) {b : Nat} {es es' : List (Value × Value × Nat)} {clock clock' : Nat} {ms' : Array MapEntry} (hb : h.get b = some (.map es clock)) (hK : K.n ≤ b) {s : Spot} (hs : p b = some s) (hm : MRs p es' ms'.toList) :
    Rel K base w0 p (h.set b (some (.map es' clock'))) { w with heap := w.heap.setIfInBounds s.blk (.map ms' clock') } := by
  obtain ⟨h0, ms, q1, q2, hlt, hB⟩ := hr.mapAt hb hs
  have hB2 := hB hK
  have hoth : ∀ k, k ≠ s.blk → (w.heap.setIfInBounds s.blk (.map ms' clock'))[k]? = w.heap[k]? := fun k hk => by simp [Ne.symm hk]
  have hself : (w.heap.setIfInBounds s.blk (.map ms' clock'))[s.blk]? = some (.map ms' clock') := by simp [hlt]
  refine ⟨hr.below.trans ⟨rfl, rfl, rfl, by simp, fun k hk => hoth k (by omega)⟩, by simpa using hr.le, hr.glob, hr.dis, fun b' o' hb' => ?_, fun b1 b2 o1 o2 s1 s2 k1 k2 e1 e2 e => ?_⟩
  · rw [Tree.get_set] at hb'
    by_cases e : b' = b
    · subst e
      rw [if_pos rfl] at hb'
      cases hb'
      exact ⟨s, hs, fun _ => hB2, by simpa using hlt, h0, ms', hself, hm⟩
    · rw [if_neg e] at hb'
      obtain ⟨s2, k1, k2, k3, k4⟩ := hr.at_ b' o' hb'
      refine ⟨s2, k1, k2, by simpa using k3, k4.mono (Plan.le_refl _) (hoth _ (fun e2 => e (hr.one b' b _ _ _ _ hb' hb k1 hs e2)))⟩
  · have key : ∀ x o, (h.set b (some (.map es' clock'))).get x = some o → ∃ o', h.get x = some o' := fun x o hx => by
      rw [Tree.get_set] at hx
      by_cases e : x = b
      · exact ⟨_, e ▸ hb⟩
      · rw [if_neg e] at hx; exact ⟨_, hx⟩
    obtain ⟨_, q1⟩ := key _ _ k1
    obtain ⟨_, q2⟩ := key _ _ k2
    exact hr.one _ _ _ _ _ _ q1 q2 e1 e2 e
noncomputable def xMakeMap : M AObj Value := M.bind (M.new (.map [] 0)) fun b => M.pure (.map (some b))
theorem xMakeMap_ok {t : TypeId} {r : Value} (e : xMakeMap h c = .ok r h' c' l) (hr : Rel K base w0 p h w) (hf : Free p c c') : Gives P K base w0 p w c c' h' VR (Instr.makeMap t none) r := by
  obtain ⟨b, h1, c1, l1, l2, e1, e2⟩ := bind_inv e
  obtain ⟨rfl, rfl, rfl⟩ := new_inv e1
  obtain ⟨rfl, rfl, rfl⟩ := pure_inv e2
  have hp := hf b (Nat.le_refl _) (by omega)
  refine ⟨p.add b ⟨w.heap.size, 0, 0, 0⟩, w.alloc (.map #[] 0), .map (some w.heap.size), rfl, .map (s := ⟨w.heap.size, 0, 0, 0⟩) (Plan.add_self _ _ _), hr.new hp _ _ _ rfl ?_, Plan.le_add hp, add_out⟩
  exact ⟨rfl, #[], heap_alloc_new' _ _, trivial⟩
noncomputable def mapOf (v : Value) : M AObj (List (Value × Value × Nat)) := match v with
  | .map none => M.pure []
  | .map (some b) => M.bind (rdMap b) fun r => M.pure r.1
  | _ => M.fail
theorem mapOf_ok {v v' : Value} {es : List (Value × Value × Nat)} (e : mapOf v h c = .ok es h' c' l) (hv : VR p v v') (hr : Rel K base w0 p h w) :
    ∃ ms : Array MapEntry, ((v' = .map none ∧ ms = #[]) ∨ ∃ b clock, v' = .map (some b) ∧ w.heap[b]? = some (.map ms clock)) ∧ MRs p es ms.toList ∧ h' = h ∧ c' = c := by
  unfold mapOf at e
  split at e
  · obtain ⟨rfl, rfl, rfl⟩ := pure_inv e
    cases hv
    exact ⟨#[], .inl ⟨rfl, rfl⟩, trivial, rfl, rfl⟩
  · rename_i b
    obtain ⟨x, h1, c1, l1, l2, e1, e2⟩ := bind_inv e
    obtain ⟨e3, rfl, rfl⟩ := rdMap_inv e1
    obtain ⟨rfl, rfl, rfl⟩ := pure_inv e2
    cases hv with
    | map hs =>
      obtain ⟨h0, ms, q1, q2, -⟩ := hr.mapAt e3 hs
      exact ⟨ms, .inr ⟨_, _, rfl, q1⟩, q2, rfl, rfl⟩
  · cases e
noncomputable def xLookup (P : Program) (t : TypeId) (m k : Value) (ok : Bool) : M AObj Value := match P.underlying t with
  | some (.map kt et) => match P.underlying kt with
    | some d => M.bind (mapOf m) fun es => if keyAsk P kt d es.isEmpty k then M.bind (liftO (findK P kt d k es)) fun r => match r with
      | some (_, v) => M.pure (if ok then .tuple #[v, .bool true] else v)
      | none => M.bind (liftO (tiOf P et)) fun i => M.pure (if ok then .tuple #[i.zero, .bool false] else i.zero)
      else M.fail
    | none => M.fail
  | _ => M.fail
theorem xLookup_ok {t : TypeId} {m m' k k' r : Value} {ok : Bool} (e : xLookup P t m k ok h c = .ok r h' c' l) (hm : VR p m m') (hk : VR p k k') (hr : Rel K base w0 p h w) : Gives P K base w0 p w c c' h' VR (Instr.lookup t m' k' ok) r := by
  unfold xLookup at e
  cases hu : P.underlying t with
  | none => rw [hu] at e; cases e
  | some d =>
    rw [hu] at e
    obtain ⟨kt, et, rfl⟩ : ∃ kt et, d = .map kt et := by cases d <;> first | exact ⟨_, _, rfl⟩ | cases e
    dsimp only at e
    cases hk2 : P.underlying kt with
    | none => rw [hk2] at e; cases e
    | some d =>
      rw [hk2] at e
      dsimp only at e
      obtain ⟨es, h1, c1, l1, l2, e1, e2⟩ := bind_inv e
      obtain ⟨ms, q1, q2, rfl, rfl⟩ := mapOf_ok e1 hm hr
      split at e2
      · rename_i hkey
        obtain rfl := keyAsk_vr hkey hk
        rw [← q2.empty] at hkey
        have hck := keyAsk_check hk2 hkey w
        obtain ⟨f, h1, c1, l1, l2, e3, e4⟩ := bind_inv e2
        obtain ⟨e5, rfl, rfl⟩ := liftO_inv e3
        obtain ⟨f', q3, q4⟩ := findK_ok hk2 hkey e5 q2
        split at e4
        · rename_i j v
          obtain ⟨rfl, rfl, rfl⟩ := pure_inv e4
          obtain ⟨b, rfl⟩ : ∃ b, f' = some b := by cases f' with | none => exact q4.elim | some b => exact ⟨b, rfl⟩
          obtain ⟨j', v'⟩ := b
          refine Gives.quiet hr (y := if ok then .tuple #[v', .bool true] else v') ?_ ?_
          · rcases q1 with ⟨rfl, rfl⟩ | ⟨b, cl, rfl, hb⟩
            · simp only [Instr.lookup, Sem.run_bind, run_underlying hu w, Sem.run_pure, hck, q3, Result.andThen_ok]
            · simp only [Instr.lookup, Sem.run_bind, run_underlying hu w, Sem.run_pure, MapKept.run_getObj_map hb, hck, q3, Result.andThen_ok]
          cases ok
          · exact q4.2
          · exact .tuple (.cons q4.2 (.cons (.bool _) .nil))
        · obtain ⟨i, h1, c1, l1, l2, e6, e7⟩ := bind_inv e4
          obtain ⟨e8, rfl, rfl⟩ := liftO_inv e6
          obtain ⟨rfl, rfl, rfl⟩ := pure_inv e7
          obtain rfl : f' = none := by cases f' with | none => rfl | some b => exact q4.elim
          have ht := tiOf_ok e8
          refine Gives.quiet hr (y := if ok then .tuple #[i.zero, .bool false] else i.zero) ?_ ?_
          · rcases q1 with ⟨rfl, rfl⟩ | ⟨b, cl, rfl, hb⟩
            · simp only [Instr.lookup, Sem.run_bind, run_underlying hu w, Sem.run_pure, hck, q3, Result.andThen_ok, run_zero ht w]
            · simp only [Instr.lookup, Sem.run_bind, run_underlying hu w, Sem.run_pure, MapKept.run_getObj_map hb, hck, q3, Result.andThen_ok, run_zero ht w]
          · cases ok
            · exact plain_vr 9 _ ht.plain
            · exact .tuple (.cons (plain_vr 9 _ ht.plain) (.cons (.bool _) .nil))
      · cases e2
end
end Ev
end Go.Proofs.YtakfgbedmglffaaGreatDoor
