/- The evaluator's further operations, held against the model's: what has no address at all, slices, new slices and maps. No program in sight. -/
import Derived.Test.YtakfgbedmglffaaGreatDoorMg
import Derived.Calls
namespace Go.Proofs.YtakfgbedmglffaaGreatDoor
set_option linter.unusedSimpArgs false
set_option linter.unusedVariables false
namespace Ev
open Go.RowKit

section
variable {P : Program} {K : Cfg} {base : Nat} {w0 w : World} {p : Plan} {h h' : Tree AObj} {c c' : Nat} {l : Log}
/-! ### values without an address -/
theorem plains_eq {p : Plan} {f : Value → Bool} (hf : ∀ v v', f v = true → VR p v v' → v' = v) : ∀ {l m : List Value}, l.all f = true → VRs p l m → m = l
  | _, _, _, .nil => rfl
  | v :: l, _, h, .cons (w := w') (m := m') k ks => by
    simp only [List.all_cons, Bool.and_eq_true] at h
    rw [hf v _ h.1 k, plains_eq hf h.2 ks]
theorem plain_eq {p : Plan} : ∀ (n : Nat) (v v' : Value), plainF n v = true → VR p v v' → v' = v
  | 0, _, _, h, _ => by cases h
  | n + 1, v, v', h, hv => by
    have ih := fun v v' => plain_eq (p := p) n v v'
    cases hv with
    | bool => rfl
    | int => rfl
    | tok => cases h
    | string => rfl
    | nilPtr => rfl
    | ptr => cases h
    | nilSlice => rfl
    | slice => cases h
    | sliceU => cases h
    | sliceE => cases h
    | nilMap => rfl
    | map => cases h
    | func => cases h
    | nilFunc => rfl
    | iface t k => rw [ih _ _ h k]
    | nilIface => rfl
    | agg k =>
      have := plains_eq (ih) (l := _) h k
      congr 1
      exact Array.toList_inj.1 this
    | tuple k =>
      have := plains_eq (ih) (l := _) h k
      congr 1
      exact Array.toList_inj.1 this
/-- a piece of the model's code over values without addresses -/
def xPure (P : Program) (s : Sem Value) : Option (Except Value Value) := match pureOf P s with
  | some (.ok v) => if plainF 9 v then some (.ok v) else none
  | some (.error v) => if plainF 9 v then some (.error v) else none
  | none => none
theorem xPure_ok {s : Sem Value} {v : Value} (e : xPure P s = some (.ok v)) (hr : Rel K base w0 p h w) : Gives P K base w0 p w c c h VR s v := by
  unfold xPure at e
  split at e
  · rename_i u hu
    split at e
    · rename_i hp
      cases e
      exact Gives.quiet hr (pureOf_ok s hu w) (plain_vr 9 _ hp)
    · cases e
  · split at e <;> cases e
  · cases e
theorem xPure_panic {s : Sem Value} {v : Value} (e : xPure P s = some (.error v)) : s.run P w = .halt (.panic v) w ∧ VR p v v := by
  unfold xPure at e
  split at e
  · split at e <;> cases e
  · rename_i u hu
    split at e
    · rename_i hp
      cases e
      exact ⟨pureOf_panic s hu w, plain_vr 9 _ hp⟩
    · cases e
  · cases e
/-! ### slices of slices -/
def optInt : Option Value → Option (Option Int)
  | none => some none
  | some (.int _ i) => some (some i)
  | _ => none
/-- the bounds of s[low:high:max], over so many places: none if one is out of range -/
def boundsX (len cap : Nat) (low high max : Option Value) : Option (Nat × Nat × Nat) :=
  match optInt low, optInt high, optInt max with
  | some lo, some hi, some mx =>
    let m := (mx.getD cap).toNat
    let hh := (hi.getD len).toNat
    let ll := (lo.getD 0).toNat
    if (0 : Int) ≤ mx.getD 0 ∧ (0 : Int) ≤ hi.getD 0 ∧ (0 : Int) ≤ lo.getD 0 ∧ ll ≤ hh ∧ hh ≤ m ∧ m ≤ cap ∧ (mx.isSome = true → hi.isSome = true) then some (ll, hh, m) else none
  | _, _, _ => none
theorem optInt_cases {o : Option Value} {r : Option Int} (e : optInt o = some r) : (o = none ∧ r = none) ∨ ∃ k i, o = some (.int k i) ∧ r = some i := by
  unfold optInt at e
  split at e
  · cases e; exact .inl ⟨rfl, rfl⟩
  · cases e; exact .inr ⟨_, _, rfl, rfl⟩
  · cases e
theorem run_sliceBound {k : IntKind} {i : Int} {y : Nat} {code : BoundsCode} (h0 : 0 ≤ i) (h1 : i.toNat ≤ y) (w : World) : (Instr.sliceBound (.int k i) y code).run P w = .ok i.toNat w := by
  unfold Instr.sliceBound
  simp only [asIntOf, Sem.run_bind, Sem.run_pure, Result.andThen_ok]
  rw [if_pos (by omega)]
  rfl
theorem run_bounds {isS : Bool} {len cap : Nat} {low high max : Option Value} {l' h' m' : Nat} (e : boundsX len cap low high max = some (l', h', m')) (w : World) :
    (Instr.sliceBounds isS len cap low high max).run P w = .ok (l', h', m') w ∧ l' ≤ h' ∧ h' ≤ m' ∧ m' ≤ cap := by
  unfold boundsX at e
  split at e
  · rename_i lo hi mx e1 e2 e3
    dsimp only at e
    split at e
    · rename_i hc
      obtain ⟨c1, c2, c3, c4, c5, c6, c7⟩ := hc
      simp only [Option.some.injEq, Prod.mk.injEq] at e
      obtain ⟨rfl, rfl, rfl⟩ := e
      refine ⟨?_, c4, c5, c6⟩
      rcases optInt_cases e1 with ⟨rfl, rfl⟩ | ⟨k1, i1, rfl, rfl⟩ <;> rcases optInt_cases e2 with ⟨rfl, rfl⟩ | ⟨k2, i2, rfl, rfl⟩ <;> rcases optInt_cases e3 with ⟨rfl, rfl⟩ | ⟨k3, i3, rfl, rfl⟩ <;>
        simp only [Option.getD_none, Option.getD_some, Option.isSome_none, Option.isSome_some, Int.toNat_natCast, Int.toNat_zero] at c1 c2 c3 c4 c5 c6 c7 ⊢ <;>
        first
          | (exfalso; revert c7; simp; done)
          | (simp [Instr.sliceBounds, run_sliceBound, c1, c2, c3, c4, c5, c6]; done)
          | skip
    · cases e
  · cases e
/-- a piece of a text -/
def xStr (P : Program) (t : TypeId) (v : Value) (lo hi mx : Option Value) : Option Value := match v with
  | .string s => match mx with
    | none => match P.underlying t with
      | some .string => match boundsX s.data.toList.length s.data.toList.length lo hi none with
        | some (l, h, _) => some (.string ⟨((s.data.toList.drop l).take (h - l)).toArray⟩)
        | none => none
      | _ => none
    | some _ => none
  | _ => none
theorem extract_piece (s : ByteArray) (a b : Nat) : s.extract a b = ⟨((s.data.toList.drop a).take (b - a)).toArray⟩ := by
  have : (s.extract a b).data.toList = (s.data.toList.drop a).take (b - a) := by
    simp [ByteArray.data_extract, List.extract_eq_take_drop]
  rw [← this]
theorem xStr_ok {t : TypeId} {v r : Value} {lo hi mx : Option Value} (e : xStr P t v lo hi mx = some r) (w : World) : (Instr.sliceAt t v lo hi mx).run P w = .ok r w ∧ plainF 9 r = true := by
  unfold xStr at e
  split at e
  · rename_i s
    split at e
    · split at e
      · rename_i hu
        split at e
        · rename_i l h m hb
          cases e
          refine ⟨?_, rfl⟩
          have hb' : boundsX s.size s.size lo hi none = some (l, h, m) := hb
          rw [run_sliceAt_string (h := hu)]
          unfold Instr.slice
          simp only [Sem.run_bind, run_underlying hu w, Result.andThen_ok, Option.isSome_none]
          rw [if_neg (by decide)]
          simp only [Sem.run_bind, Result.andThen_ok, (run_bounds (P := P) (isS := false) hb' w).1, extract_piece]
          rfl
        · cases e
      · cases e
    · cases e
  · cases e
/-- s[low:high:max] -/
noncomputable def xSlice (P : Program) (t : TypeId) (v : Value) (lo hi mx : Option Value) : M AObj Value := match P.underlying t with
  | some (.slice e) => M.bind (liftO (tiOf P e)) fun i => match v with
    | .slice none n cp => if n = 0 ∧ cp = 0 ∧ boundsX 0 0 lo hi mx = some (0, 0, 0) then M.pure v else M.fail
    | .slice (some ⟨b, o, none⟩) n cp =>
      if cp = unk then M.bind (rdRow b) fun r => if r.2.2 = i.size ∧ mx = none then (match boundsX n n lo hi none with
        | some (l, h, _) => if l = 0 ∨ l < n then M.pure (.slice (some ⟨b, o + l * i.size, none⟩) (h - l) unk) else
          M.pure (.slice (some ⟨b, o, none⟩) 0 unkE)
        | none => M.fail) else M.fail
      else if cp = unkE then M.fail
      else match boundsX n cp lo hi mx with
        | some (l, h, m) => M.pure (.slice (some ⟨b, if m = l then o else o + l * i.size, none⟩) (h - l) (m - l))
        | none => M.fail
    | _ => M.fail
  | some (.array n e) => M.bind (liftO (tiOf P e)) fun i => match v with
    | .pointer (some ⟨b, o, none⟩) => if n ≤ maxLen then (match boundsX n n lo hi mx with
        | some (l, h, m) => M.pure (.slice (some ⟨b, if m = l then o else o + l * i.size, none⟩) (h - l) (m - l))
        | none => M.fail) else M.fail
    | _ => M.fail
  | _ => M.fail
theorem bounds_more {n cp : Nat} {lo hi : Option Value} {l' h' m' : Nat} (e : boundsX n n lo hi none = some (l', h', m')) (hn : n ≤ cp) : boundsX n cp lo hi none = some (l', h', cp) ∧ l' ≤ h' ∧ h' ≤ n := by
  unfold boundsX at e ⊢
  have h0 : optInt none = some none := rfl
  rw [h0] at e ⊢
  split at e
  · rename_i lo' hi' mx' e1 e2 e3
    cases e3
    dsimp only [Option.getD_none, Int.toNat_natCast] at e ⊢
    split at e
    · rename_i hc
      obtain ⟨c1, c2, c3, c4, c5, c6, c7⟩ := hc
      simp only [Option.some.injEq, Prod.mk.injEq] at e
      obtain ⟨rfl, rfl, -⟩ := e
      refine ⟨?_, c4, c5⟩
      rw [if_pos ⟨c1, c2, c3, c4, by omega, by omega, c7⟩]
    · cases e
  · cases e
theorem xSlice_ok {t : TypeId} {v v' r : Value} {lo hi mx : Option Value} (e : xSlice P t v lo hi mx h c = .ok r h' c' l) (hv : VR p v v') (hr : Rel K base w0 p h w) : Gives P K base w0 p w c c' h' VR (Instr.sliceAt t v' lo hi mx) r := by
  unfold xSlice at e
  cases hu : P.underlying t with
  | none => rw [hu] at e; cases e
  | some d =>
  rw [hu] at e
  cases d with
  | array n el =>
    dsimp only at e
    obtain ⟨i, h1, c1, l1, l2, e1, e2⟩ := bind_inv e
    obtain ⟨e3, rfl, rfl⟩ := liftO_inv e1
    have hi' := tiOf_ok e3
    split at e2
    · rename_i b o
      split at e2
      · rename_i hm
        cases hb : boundsX n n lo hi mx with
        | none => rw [hb] at e2; cases e2
        | some x =>
          obtain ⟨l', h2, m'⟩ := x
          rw [hb] at e2
          obtain ⟨rfl, rfl, rfl⟩ := pure_inv e2
          cases hv with
          | ptr hs =>
          rename_i s
          obtain ⟨k1, k2, k3, k4⟩ := run_bounds (P := P) (isS := false) hb w
          refine Gives.quiet hr (y := .slice (some ⟨s.blk, s.off + (if m' = l' then o else o + l' * i.size), none⟩) (h2 - l') (m' - l')) ?_ (.slice hs (by omega) (by omega))
          unfold Instr.sliceAt
          simp only [Sem.run_bind, run_underlying hu w, Result.andThen_ok, k1, run_sizeOf' hi' w, Instr.sureAddr, Sem.run_pure]
          split <;> simp [Addr.add_mid, Nat.add_assoc]
      · cases e2
    · cases e2
  | slice el =>
    dsimp only at e
    have hat : ∀ x, (Instr.sliceAt t x lo hi mx).run P w = (Instr.slice t x lo hi mx).run P w := fun x => by
      unfold Instr.sliceAt
      rw [Sem.run_bind, run_underlying hu w]
      rfl
    obtain ⟨i, h1, c1, l1, l2, e1, e2⟩ := bind_inv e
    obtain ⟨e3, rfl, rfl⟩ := liftO_inv e1
    have hi' := tiOf_ok e3
    split at e2
    · rename_i n cp
      split at e2
      · rename_i hc
        obtain ⟨rfl, rfl, hb⟩ := hc
        obtain ⟨rfl, rfl, rfl⟩ := pure_inv e2
        cases hv
        refine Gives.quiet hr (y := .slice none 0 0) ?_ .nilSlice
        rw [hat]
        unfold Instr.slice
        simp only [Sem.run_bind, run_underlying hu w, Result.andThen_ok, (run_bounds (P := P) (isS := true) hb w).1, run_sizeOf' hi' w]
        rfl
      · cases e2
    · rename_i b o n cp
      obtain ⟨s, O, cc, hs, rfl, hn, hm, hO⟩ := slice_some hv
      have hub := unk_big
      have hrun : ∀ {l' h2 m' : Nat}, boundsX n cc lo hi mx = some (l', h2, m') → (Instr.sliceAt t (.slice (some ⟨s.blk, O, none⟩) n cc) lo hi mx).run P w = .ok (.slice (some (if m' = l' then ⟨s.blk, O, none⟩ else ⟨s.blk, O + l' * i.size, none⟩)) (h2 - l') (m' - l')) w := by
        intro l' h2 m' hb
        rw [hat]
        unfold Instr.slice
        simp only [Sem.run_bind, run_underlying hu w, Result.andThen_ok, (run_bounds (P := P) (isS := true) hb w).1, run_sizeOf' hi' w]
        split <;> simp [Addr.add_mid]
      split at e2
      · rename_i hcp
        obtain ⟨rr, h3, c3, l5, l6, e6, e7⟩ := bind_inv e2
        obtain ⟨e8, rfl, rfl⟩ := rdRow_inv e6
        split at e7
        · rename_i hc
          obtain ⟨hz, rfl⟩ := hc
          obtain ⟨hesz, -⟩ := row_there hr e8 hs
          obtain ⟨hOe, hOs⟩ : O = s.off + o ∧ O + cc * s.esz ≤ s.size := by
            rcases hO with h | h | h
            · omega
            · exact h.2
            · omega
          cases hb : boundsX n n lo hi none with
          | none => rw [hb] at e7; cases e7
          | some x =>
            obtain ⟨l', h2, m'⟩ := x
            rw [hb] at e7
            dsimp only at e7
            obtain ⟨k1, k2, k3⟩ := bounds_more hb hn
            have hr2 := hrun k1
            rw [hesz, hz] at hOs
            split at e7
            · rename_i hl
              obtain ⟨rfl, rfl, rfl⟩ := pure_inv e7
              refine Gives.quiet hr hr2 ?_
              have hle : O + l' * i.size + (cc - l') * i.size ≤ s.size := by
                rw [Nat.add_assoc, ← Nat.add_mul]
                rw [show l' + (cc - l') = cc by omega]; exact hOs
              have := VR.sliceU (p := p) (b := b) (o := o + l' * i.size) (n := h2 - l') (c := cc - l') hs (by omega) (by omega) (by rw [hesz, hz]; omega)
              rcases hl with rfl | hl
              · simp only [Nat.zero_mul, Nat.add_zero, ite_self] at this ⊢
                rw [hOe]; exact this
              · rw [if_neg (by omega), hOe, Nat.add_assoc]; exact this
            · rename_i hl
              obtain ⟨rfl, rfl, rfl⟩ := pure_inv e7
              obtain rfl : l' = n := by omega
              obtain rfl : h2 = l' := by omega
              refine Gives.quiet hr hr2 ?_
              rw [Nat.sub_self]
              split
              · rename_i e5
                exact .sliceE hs (by omega) (by rw [hesz, hz, e5, Nat.sub_self]; simp; have := Nat.zero_le (h2 * i.size); omega)
              · exact .sliceE hs (by omega) (by
                  rw [hesz, hz, Nat.add_assoc, ← Nat.add_mul, show h2 + (cc - h2) = cc by omega]; exact hOs)
        · cases e7
      · rename_i hcp
        split at e2
        · cases e2
        · rename_i hcp2
          obtain ⟨rfl, rfl⟩ : cp = cc ∧ O = s.off + o := by
            rcases hO with h | h | h
            · exact h
            · exact absurd h.1 hcp
            · exact absurd h.1 hcp2
          cases hb : boundsX n cp lo hi mx with
          | none => rw [hb] at e2; cases e2
          | some x =>
            obtain ⟨l', h2, m'⟩ := x
            rw [hb] at e2
            dsimp only at e2
            obtain ⟨rfl, rfl, rfl⟩ := pure_inv e2
            obtain ⟨-, q1, q2, q3⟩ := run_bounds (P := P) (isS := true) hb w
            refine Gives.quiet hr (hrun hb) ?_
            have := VR.slice (p := p) (b := b) (o := if m' = l' then o else o + l' * i.size) (n := h2 - l') (c := m' - l') hs (by omega) (by omega)
            split
            · rename_i e5; rw [if_pos e5] at this; exact this
            · rename_i e5; rw [if_neg e5] at this; rw [Nat.add_assoc]; exact this
    · cases e2
  | _ => cases e
end
end Ev
end Go.Proofs.YtakfgbedmglffaaGreatDoor
