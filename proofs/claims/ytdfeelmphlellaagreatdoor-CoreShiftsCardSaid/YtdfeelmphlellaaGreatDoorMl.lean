/- The evaluator's further operations, held against the model's: writing to maps, lengths. No program in sight. -/
import Derived.Test.YtdfeelmphlellaaGreatDoorMk
import Derived.Lib.OthersKept
import Derived.Laws.RangeString
namespace Go.Proofs.YtdfeelmphlellaaGreatDoor
set_option linter.unusedSimpArgs false
set_option linter.unusedVariables false
namespace Ev
open Go.RowKit

section
variable {P : Program} {K : Cfg} {base : Nat} {w0 w : World} {p : Plan} {h h' : Tree AObj} {c c' : Nat} {l : Log}
theorem xFind_key {d : TypeDesc} {k : Value} : ∀ {es : List (Value × Value × Nat)} {i j : Nat} {v : Value}, xFind d k es i = some (some (j, v)) →
    ∃ i0 e, j = i + i0 ∧ es[i0]? = some e ∧ isKeyB d e.1 = true ∧ Instr.sameNow d k e.1 = some true
  | [], _, _, _, e => by cases e
  | e :: es, i, j, v, h => by
    unfold xFind at h
    split at h
    · rename_i hk
      split at h
      · rename_i hs
        cases h
        exact ⟨0, e, by omega, rfl, hk, hs⟩
      · obtain ⟨i0, e', q1, q2, q3, q4⟩ := xFind_key h
        exact ⟨i0 + 1, e', by omega, by simpa using q2, q3, q4⟩
      · cases h
    · cases h
theorem MRs.get : ∀ {es : List (Value × Value × Nat)} {ms : List MapEntry}, MRs p es ms → ∀ {i : Nat} {e : Value × Value × Nat}, es[i]? = some e → ∃ m, ms[i]? = some m ∧ MR p e m
  | [], [], _, i, e, h => by simp at h
  | _ :: _, m :: _, ⟨h1, _⟩, 0, e, h => by simp at h; subst h; exact ⟨m, by simp, h1⟩
  | _ :: _, _ :: _, ⟨_, h2⟩, i + 1, e, h => by simpa using MRs.get h2 (by simpa using h)
  | [], _ :: _, h, _, _, _ => h.elim
  | _ :: _, [], h, _, _, _ => h.elim
theorem MRs.push {e : Value × Value × Nat} {m : MapEntry} (hm : MR p e m) : ∀ {es : List (Value × Value × Nat)} {ms : List MapEntry}, MRs p es ms → MRs p (es ++ [e]) (ms ++ [m])
  | [], [], _ => ⟨hm, trivial⟩
  | _ :: _, _ :: _, ⟨h1, h2⟩ => ⟨h1, MRs.push hm h2⟩
  | [], _ :: _, h => h.elim
  | _ :: _, [], h => h.elim
def modX (k v : Value) : List (Value × Value × Nat) → Nat → List (Value × Value × Nat)
  | [], _ => []
  | e :: es, 0 => (k, v, e.2.2) :: es
  | e :: es, i + 1 => e :: modX k v es i
theorem MRs.mod {k k' v v' : Value} (hk : VR p k k') (hv : VR p v v') : ∀ {es : List (Value × Value × Nat)} {ms : List MapEntry}, MRs p es ms → ∀ i : Nat, MRs p (modX k v es i) (ms.modify i fun e => { e with key := k', val := v' })
  | [], [], _, i => by cases i <;> trivial
  | _ :: _, m :: _, ⟨⟨_, _, h3⟩, h2⟩, 0 => ⟨⟨hk, hv, h3⟩, h2⟩
  | _ :: _, _ :: _, ⟨h1, h2⟩, i + 1 => ⟨h1, MRs.mod hk hv h2 i⟩
  | [], _ :: _, h, _ => h.elim
  | _ :: _, [], h, _ => h.elim
theorem xFindA_at {kt : TypeId} {k : Value} : ∀ {es : List (Value × Value × Nat)} {i j : Nat} {v : Value}, xFindA P kt k es i = some (some (j, v)) → ∃ i0 e, j = i + i0 ∧ es[i0]? = some e
  | [], _, _, _, e => by cases e
  | e :: es, i, j, v, h => by
    unfold xFindA at h
    split at h
    · split at h
      · cases h
        exact ⟨0, e, by omega, rfl⟩
      · obtain ⟨i0, e', q1, q2⟩ := xFindA_at h
        exact ⟨i0 + 1, e', by omega, by simpa using q2⟩
      · cases h
    · cases h
/-- the key that an entry has behind a writing to it -/
def keyStays (P : Program) (d : TypeDesc) (old k : Value) : Option Value := if isKeyB d k then some k else if plainF 9 old then match pureOf P (Instr.keyThatStays old k) with
  | some (.ok kk) => if plainF 9 kk then some kk else none
  | _ => none
  else none
noncomputable def xMapUpdate (P : Program) (K : Cfg) (t : TypeId) (m k v : Value) : M AObj Unit := match P.underlying t with
  | some (.map kt _) => match P.underlying kt with
    | some d => match m with
     | .map (some b) => M.bind (rdMap b) fun r => if keyAsk P kt d false k ∧ K.n ≤ b then match findK P kt d k r.1 with
      | some (some (i, _)) => match r.1[i]? with
        | some e => match keyStays P d e.1 k with
          | some kk => M.write b (some (.map (modX kk v r.1 i) r.2))
          | none => M.fail
        | none => M.fail
      | some none => M.write b (some (.map (r.1 ++ [(k, v, r.2)]) (r.2 + 1)))
      | none => M.fail
      else M.fail
     | _ => M.fail
    | none => M.fail
  | _ => M.fail
theorem xMapUpdate_ok {t : TypeId} {m m' k k' v v' : Value} {r : Unit} (e : xMapUpdate P K t m k v h c = .ok r h' c' l) (hm : VR p m m') (hk : VR p k k') (hv : VR p v v') (hr : Rel K base w0 p h w) : Gives P K base w0 p w c c' h' (fun _ _ _ => True) (Instr.mapUpdate t m' k' v') r := by
  unfold xMapUpdate at e
  cases hu : P.underlying t with
  | none => rw [hu] at e; cases e
  | some d =>
    rw [hu] at e
    obtain ⟨kt, et, rfl⟩ : ∃ kt et, d = .map kt et := by cases d <;> first | exact ⟨_, _, rfl⟩ | cases e
    dsimp only at e
    cases hk2 : P.underlying kt with
    | none => rw [hk2] at e; cases e
    | some d =>
      rw [hk2] at e
      dsimp only at e
      split at e
      · rename_i b
        obtain ⟨x, h1, c1, l1, l2, e1, e2⟩ := bind_inv e
        obtain ⟨e3, rfl, rfl⟩ := rdMap_inv e1
        obtain ⟨es, clock⟩ := x
        dsimp only at e2 e3
        split at e2
        · rename_i hkey
          obtain ⟨hkey, hK⟩ := hkey
          obtain rfl := keyAsk_vr hkey hk
          have hck := keyAsk_check hk2 hkey w
          cases hm with
          | map hs =>
          rename_i s
          obtain ⟨h0, ms, q1, q2, -⟩ := hr.mapAt e3 hs
          cases hf : findK P kt d k' es with
          | none => rw [hf] at e2; cases e2
          | some ff =>
          rw [hf] at e2
          obtain ⟨f', q3, q4⟩ := findK_ok hk2 hkey hf q2
          cases ff with
          | some iu =>
            obtain ⟨i, u⟩ := iu
            dsimp only at e2
            cases hen : es[i]? with
            | none => rw [hen] at e2; cases e2
            | some en =>
            rw [hen] at e2
            dsimp only at e2
            cases hks : keyStays P d en.1 k' with
            | none => rw [hks] at e2; cases e2
            | some kk =>
            rw [hks] at e2
            obtain ⟨rfl, rfl⟩ := write_inv e2
            obtain ⟨b2, rfl⟩ : ∃ b, f' = some b := by cases f' with | none => exact q4.elim | some b => exact ⟨b, rfl⟩
            obtain ⟨i', u'⟩ := b2
            obtain ⟨q4, q5⟩ := q4
            dsimp only at q4
            subst q4
            obtain ⟨mm, g5, g6⟩ := q2.get hen
            have g11 : ms[i]? = some mm := by simpa using g5
            have stay : (Instr.keyThatStays mm.key k').run P w = .ok kk w ∧ VR p kk kk := by
              unfold keyStays at hks
              split at hks
              · rename_i hkB
                cases hks
                have hkey' := isKeyB_ok hkB
                unfold findK at hf
                rw [if_pos hkB] at hf
                obtain ⟨i0, en', g1, g2, g3, g4⟩ := xFind_key hf
                obtain rfl : i = i0 := by omega
                obtain rfl : en = en' := Option.some.inj (hen.symm.trans g2)
                have g7 := isKey_vr g3 g6.1
                have g8 : k' = en.1 := by
                  obtain ⟨rr, g9, g10⟩ := MapKept.sameNow_of_keys hkey' (isKeyB_ok g3)
                  rw [g9] at g4
                  exact g10.1 (Option.some.inj g4)
                have g12 : mm.key = k' := by rw [g7, g8]
                rw [g12]
                exact ⟨MapKept.run_keyThatStays hkey', hk⟩
              · split at hks
                · rename_i hpl
                  split at hks
                  · rename_i k2 hpo
                    split at hks
                    · rename_i hpk
                      cases hks
                      rw [plain_eq 9 _ _ hpl g6.1]
                      exact ⟨pureOf_ok _ hpo w, plain_vr 9 _ hpk⟩
                    · cases hks
                  · cases hks
                · cases hks
            refine ⟨p, _, (), ?_, trivial, hr.setMap (ms' := ms.modify i fun e => { e with key := kk, val := v' }) (clock' := clock) e3 hK hs ?_, Plan.le_refl _, fun _ _ => rfl⟩
            · simp only [Instr.mapUpdate, Sem.run_bind, run_underlying hu w, Result.andThen_ok, MapKept.run_getObj_map q1, hck, q3, g11, Option.map_some, Option.getD_some, stay.1, MapKept.run_setObj_map _ q1]
            · rw [Array.toList_modify]
              exact q2.mod stay.2 hv i
          | none =>
            dsimp only at e2
            obtain ⟨rfl, rfl⟩ := write_inv e2
            obtain rfl : f' = none := by cases f' with | none => rfl | some b => exact q4.elim
            refine ⟨p, _, (), ?_, trivial, hr.setMap (ms' := ms.push { key := k', val := v', born := clock }) (clock' := clock + 1) e3 hK hs ?_, Plan.le_refl _, fun _ _ => rfl⟩
            · simp only [Instr.mapUpdate, Sem.run_bind, run_underlying hu w, Result.andThen_ok, MapKept.run_getObj_map q1, hck, q3, MapKept.run_setObj_map _ q1]
            · rw [Array.toList_push]
              exact q2.push ⟨hk, hv, rfl⟩
        · cases e2
      · cases e
/-! ### a string's letters, one after the other -/
noncomputable def xRange (P : Program) (t : TypeId) (v : Value) : M AObj Value := match P.underlying t with
  | some .string => match v with
    | .string s => M.bind (M.new (.siter s 0)) fun b => M.pure (.pointer (some ⟨b, 0, none⟩))
    | _ => M.fail
  | _ => M.fail
noncomputable def rdIter (b : Nat) : M AObj (ByteArray × Nat) := M.bind (M.read b) fun
  | .siter s pos => M.pure (s, pos)
  | _ => M.fail
noncomputable def xNext (K : Cfg) (v : Value) (isString : Bool) : M AObj Value := match v with
  | .pointer (some ⟨b, 0, none⟩) => M.bind (rdIter b) fun r => if isString = true ∧ K.n ≤ b then
      (if r.2 < r.1.size then M.bind (M.write b (some (.siter r.1 (r.2 + (Utf8.decode r.1 r.2).2)))) fun _ => M.pure (.tuple #[.bool true, .int .i64 r.2, .int .i32 (Utf8.decode r.1 r.2).1])
      else M.pure (.tuple #[.bool false]))
    else M.fail
  | _ => M.fail
theorem rdIter_inv {b : Nat} {y : ByteArray × Nat} {h h2 : Tree AObj} {c c2 : Nat} {l : Log} (e : rdIter b h c = .ok y h2 c2 l) : h.get b = some (.siter y.1 y.2) ∧ h2 = h ∧ c2 = c := by
  obtain ⟨o, h1, c1, l1, l2, e1, e2⟩ := bind_inv e
  obtain ⟨e3, rfl, rfl⟩ := read_inv e1
  split at e2
  · obtain ⟨rfl, rfl, rfl⟩ := pure_inv e2
    exact ⟨e3, rfl, rfl⟩
  · cases e2
theorem xRange_ok {t : TypeId} {v v' r : Value} (e : xRange P t v h c = .ok r h' c' l) (hv : VR p v v') (hr : Rel K base w0 p h w) (hf : Free p c c') : Gives P K base w0 p w c c' h' VR (Instr.range t v') r := by
  unfold xRange at e
  cases hu : P.underlying t with
  | none => rw [hu] at e; cases e
  | some d =>
    rw [hu] at e
    obtain rfl : d = .string := by cases d <;> first | rfl | cases e
    dsimp only at e
    split at e
    · cases hv
      obtain ⟨b, h1, c1, l1, l2, e1, e2⟩ := bind_inv e
      obtain ⟨rfl, rfl, rfl⟩ := new_inv e1
      obtain ⟨rfl, rfl, rfl⟩ := pure_inv e2
      have hp := hf b (Nat.le_refl _) (by omega)
      rename_i s
      refine ⟨p.add b ⟨w.heap.size, 0, 0, 0⟩, w.alloc (.stringIter s 0), .pointer (some ⟨w.heap.size, 0, none⟩), run_range_string w t s hu, .ptr (s := ⟨w.heap.size, 0, 0, 0⟩) (Plan.add_self _ _ _), hr.new hp _ _ _ rfl ?_, Plan.le_add hp, add_out⟩
      exact ⟨rfl, heap_alloc_new' _ _⟩
    · cases e
theorem Rel.setIter (hr : Rel K base w0 p h w) {b : Nat} {str : ByteArray} {pos pos' : Nat} (hb : h.get b = some (.siter str pos)) (hK : K.n ≤ b) {s : Spot} (hs : p b = some s) :
    Rel K base w0 p (h.set b (some (.siter str pos'))) { w with heap := w.heap.setIfInBounds s.blk (.stringIter str pos') } := by
  obtain ⟨s', q1, hB, hlt, h0, q2⟩ := hr.at_ b _ hb
  obtain rfl : s' = s := Option.some.inj (q1.symm.trans hs)
  have hB2 := hB hK
  have hoth : ∀ k, k ≠ s'.blk → (w.heap.setIfInBounds s'.blk (.stringIter str pos'))[k]? = w.heap[k]? := fun k hk => by simp [Ne.symm hk]
  have hself : (w.heap.setIfInBounds s'.blk (.stringIter str pos'))[s'.blk]? = some (.stringIter str pos') := by simp [hlt]
  refine ⟨hr.below.trans ⟨rfl, rfl, rfl, by simp, fun k hk => hoth k (by omega)⟩, by simpa using hr.le, hr.glob, hr.dis, fun b' o' hb' => ?_, fun b1 b2 o1 o2 s1 s2 k1 k2 e1 e2 e => ?_⟩
  · rw [Tree.get_set] at hb'
    by_cases e : b' = b
    · subst e
      rw [if_pos rfl] at hb'
      cases hb'
      exact ⟨s', hs, fun _ => hB2, by simpa using hlt, h0, hself⟩
    · rw [if_neg e] at hb'
      obtain ⟨s2, k1, k2, k3, k4⟩ := hr.at_ b' o' hb'
      refine ⟨s2, k1, k2, by simpa using k3, k4.mono (Plan.le_refl _) (hoth _ (fun e2 => e (hr.one b' b _ _ _ _ hb' hb k1 hs e2)))⟩
  · have key : ∀ x o, (h.set b (some (.siter str pos'))).get x = some o → ∃ o', h.get x = some o' := fun x o hx => by
      rw [Tree.get_set] at hx
      by_cases e : x = b
      · exact ⟨_, e ▸ hb⟩
      · rw [if_neg e] at hx; exact ⟨_, hx⟩
    obtain ⟨_, q1⟩ := key _ _ k1
    obtain ⟨_, q2⟩ := key _ _ k2
    exact hr.one _ _ _ _ _ _ q1 q2 e1 e2 e
theorem xNext_ok {v v' r : Value} {is : Bool} {ty : TypeId} (e : xNext K v is h c = .ok r h' c' l) (hv : VR p v v') (hr : Rel K base w0 p h w) : Gives P K base w0 p w c c' h' VR (Instr.next v' is ty) r := by
  unfold xNext at e
  split at e
  · rename_i b
    obtain ⟨x, h1, c1, l1, l2, e1, e2⟩ := bind_inv e
    obtain ⟨e3, rfl, rfl⟩ := rdIter_inv e1
    obtain ⟨str, pos⟩ := x
    dsimp only at e2 e3
    split at e2
    · rename_i hc
      obtain ⟨rfl, hK⟩ := hc
      cases hv with
      | ptr hs =>
      rename_i s
      obtain ⟨s', q1, -, -, h0, q2⟩ := hr.at_ b _ e3
      obtain rfl : s' = s := Option.some.inj (q1.symm.trans hs)
      rw [h0]
      split at e2
      · rename_i hlt
        obtain ⟨u, h2, c2, l3, l4, e4, e5⟩ := bind_inv e2
        obtain ⟨rfl, rfl⟩ := write_inv e4
        obtain ⟨rfl, rfl, rfl⟩ := pure_inv e5
        exact ⟨p, _, _, Lib.run_next_any_at w s'.blk str pos ty q2 hlt, .tuple (.cons (.bool _) (.cons (.int _ _) (.cons (.int _ _) .nil))), hr.setIter e3 hK hs, Plan.le_refl _, fun _ _ => rfl⟩
      · rename_i hlt
        obtain ⟨rfl, rfl, rfl⟩ := pure_inv e2
        exact Gives.quiet hr (Lib.run_next_end_at w s'.blk str pos ty q2 hlt) (.tuple (.cons (.bool _) .nil))
    · cases e2
  · cases e
/-! ### lengths -/
noncomputable def xLen (P : Program) (t : TypeId) (v : Value) : M AObj Value := match P.underlying t with
  | some .string => match v with
    | .string s => M.pure (goInt s.size)
    | _ => M.fail
  | some (.slice _) => match v with
    | .slice _ n _ => M.pure (goInt n)
    | _ => M.fail
  | some (.array n _) => M.pure (goInt n)
  | some (.map _ _) => M.bind (mapOf v) fun es => M.pure (goInt es.length)
  | _ => M.fail
theorem xLen_ok {t : TypeId} {v v' r : Value} {ats : Array TypeId} {ty : TypeId} {args : Array Value} (e : xLen P t v h c = .ok r h' c' l) (ha : ats[0]? = some t) (hb : args[0]? = some v') (hv : VR p v v') (hr : Rel K base w0 p h w) : Gives P K base w0 p w c c' h' VR (Builtin.len_ ats ty args) r := by
  unfold xLen at e
  cases hu : P.underlying t with
  | none => rw [hu] at e; cases e
  | some d =>
    rw [hu] at e
    cases d with
    | string =>
      dsimp only at e
      split at e
      · obtain ⟨rfl, rfl, rfl⟩ := pure_inv e
        cases hv
        refine Gives.quiet hr ?_ (.int _ _)
        simp only [Builtin.len_, ha, hb, Sem.run_bind, run_underlying hu w, Result.andThen_ok, Sem.run_pure]
        rfl
      · cases e
    | slice =>
      dsimp only at e
      split at e
      · obtain ⟨rfl, rfl, rfl⟩ := pure_inv e
        cases hv <;>
        · refine Gives.quiet hr ?_ (.int _ _)
          simp only [Builtin.len_, ha, hb, Sem.run_bind, run_underlying hu w, Result.andThen_ok, Sem.run_pure]
          rfl
      · cases e
    | array n el =>
      obtain ⟨rfl, rfl, rfl⟩ := pure_inv e
      refine Gives.quiet hr ?_ (.int _ _)
      simp only [Builtin.len_, ha, hb, Sem.run_bind, run_underlying hu w, Result.andThen_ok, Sem.run_pure]
      rfl
    | map =>
      obtain ⟨es, h1, c1, l1, l2, e1, e2⟩ := bind_inv e
      obtain ⟨ms, q1, q2, rfl, rfl⟩ := mapOf_ok e1 hv hr
      obtain ⟨rfl, rfl, rfl⟩ := pure_inv e2
      have hl := q2.len
      refine Gives.quiet hr ?_ (.int _ _)
      rcases q1 with ⟨rfl, rfl⟩ | ⟨b, cl, rfl, hb2⟩
      · simp only [Builtin.len_, ha, hb, Sem.run_bind, run_underlying hu w, Result.andThen_ok, Sem.run_pure]
        rw [hl]
        rfl
      · simp only [Builtin.len_, ha, hb, Sem.run_bind, run_underlying hu w, Result.andThen_ok, Sem.run_pure, MapKept.run_getObj_map hb2]
        rw [hl]
        rfl
    | _ => cases e
end
end Ev
end Go.Proofs.YtdfeelmphlellaaGreatDoor
