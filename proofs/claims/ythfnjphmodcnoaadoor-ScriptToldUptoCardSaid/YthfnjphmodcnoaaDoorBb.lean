/- Contract of script.told. -/
import Derived.Test.YthfnjphmodcnoaaDoorAh
namespace Go.Proofs.YthfnjphmodcnoaaDoor
open Go.RowKit
set_option linter.unusedSimpArgs false
set_option linter.unusedVariables false

def truL : List UInt8 := [116, 114, 117, 101]
def falsL : List UInt8 := [102, 97, 108, 115, 101]
def toldI (l : List UInt8) : Bool := match Lib.parseIntB 64 l with
  | .ok v => Lib.itoa v == l
  | _ => false
def toldU (l : List UInt8) : Bool := match Lib.parseUintB 64 l with
  | .ok u => Lib.decDigits u == l
  | _ => false
def toldP (l : List UInt8) : Bool := l == truL || l == falsL || toldI l || toldU l
theorem int_bounds (l : List UInt8) (v : Int) (h : Lib.parseIntB 64 l = .ok v) : -9223372036854775808 ≤ v ∧ v ≤ 9223372036854775807 := by
  unfold Lib.parseIntB at h
  split at h
  · cases h
  · rename_i c r
    simp only at h
    split at h
    · cases h
    · cases h
    · rename_i u hu
      split at h
      · cases h
      · rename_i h1
        split at h
        · cases h
        · rename_i h2
          cases h
          by_cases hc : c.toNat = 45
          · simp only [hc, if_true] at h2 ⊢
            have : ¬ 2 ^ (64 - 1) < u := fun hh => h2 ⟨trivial, hh⟩
            have e : (2 : Nat) ^ (64 - 1) = 9223372036854775808 := by decide
            rw [e] at this
            omega
          · simp only [hc, if_false] at h1 ⊢
            have : ¬ 2 ^ (64 - 1) ≤ u := fun hh => h1 ⟨fun h => h, hh⟩
            have e : (2 : Nat) ^ (64 - 1) = 9223372036854775808 := by decide
            rw [e] at this
            omega
theorem toldI_ok {l : List UInt8} {v : Int} (h : Lib.parseIntB 64 l = .ok v) : toldI l = (Lib.itoa v == l) := by unfold toldI; rw [h]
theorem toldI_bad {l : List UInt8} (h : ∀ v, Lib.parseIntB 64 l ≠ .ok v) : toldI l = false := by
  unfold toldI
  split
  · rename_i v hv; exact absurd hv (h v)
  · rfl
theorem toldU_ok {l : List UInt8} {v : Nat} (h : Lib.parseUintB 64 l = .ok v) : toldU l = (Lib.decDigits v == l) := by unfold toldU; rw [h]
theorem toldU_bad {l : List UInt8} (h : ∀ v, Lib.parseUintB 64 l ≠ .ok v) : toldU l = false := by
  unfold toldU
  split
  · rename_i v hv; exact absurd hv (h v)
  · rfl
/-- the signed half: the number, its sign told again -/
def IntEnd (l : List UInt8) (e : Ending) : Prop := ∃ (V : Int) (ev : Value), e = .returned (.tuple #[.int .i64 V, ev]) ∧ ((ev = .nilIface ∧ toldI l = (Lib.itoa V == l) ∧ -9223372036854775808 ≤ V ∧ V ≤ 9223372036854775807) ∨ (toldI l = false ∧ ∃ t p, ev = .iface t (.pointer (some p))))
def UintEnd (l : List UInt8) (e : Ending) : Prop := ∃ (V : Nat) (ev : Value), e = .returned (.tuple #[.int .u64 (V : Int), ev]) ∧ ((ev = .nilIface ∧ toldU l = (Lib.decDigits V == l) ∧ V < 18446744073709551616) ∨ (toldU l = false ∧ ∃ t p, ev = .iface t (.pointer (some p))))
theorem pint_e (s : ByteArray) (w : World) (h : Laid w) (hs : s.size ≤ 1073741824) : Calls Tryd.prog 47 #[.string s, .int .i64 10, .int .i64 64] w fun e w' => IntEnd (bl s) e ∧ Below w.heap.size w w' := by
  refine (pint64_c s w h hs).mono ?_
  rintro e w' ⟨⟨V, ev, h1, h2⟩, hB⟩
  refine ⟨⟨V, ev, h1, ?_⟩, hB⟩
  rcases h2 with ⟨h2, h3⟩ | ⟨h2, h3⟩
  · exact .inl ⟨h3, toldI_ok h2, int_bounds _ _ h2⟩
  · exact .inr ⟨toldI_bad h2, h3⟩
theorem puint_e (s : ByteArray) (w : World) (h : Laid w) (hs : s.size ≤ 1073741824) : Calls Tryd.prog 48 #[.string s, .int .i64 10, .int .i64 64] w fun e w' => UintEnd (bl s) e ∧ Below w.heap.size w w' := by
  refine (puint64_c s w h hs).mono ?_
  rintro e w' ⟨⟨V, ev, h1, h2⟩, hB⟩
  refine ⟨⟨V, ev, h1, ?_⟩, hB⟩
  rcases h2 with ⟨h2, h3⟩ | ⟨h2, -, h3⟩
  · refine .inl ⟨h3, toldU_ok h2, ?_⟩
    have := (pb_ok _ _ _ h2).2.1
    have e : (2 : Nat) ^ 64 - 1 = 18446744073709551615 := by decide
    rw [e] at this
    omega
  · exact .inr ⟨toldU_bad h2, h3⟩
theorem eg_nil' : ∀ n w, (eqGuard .eql 67 (.tmp n) (.const .nilIface) .nilIface .nilIface).run Tryd.prog w = .ok () w := fun _ _ => rfl
theorem eg_held' : ∀ n t p w, (eqGuard .eql 67 (.tmp n) (.const .nilIface) (.iface t p) .nilIface).run Tryd.prog w = .ok () w := fun _ _ _ _ => rfl
set_option maxRecDepth 20000 in
set_option maxHeartbeats 2000000 in
theorem told_c (s : ByteArray) (w : World) (h : Laid w) (hs : s.size ≤ 1073741824) : Calls Tryd.prog 27 #[.string s] w fun e w' => e = .returned (.bool (toldP (bl s))) ∧ Below w.heap.size w w' := by
  by_cases h1 : s.toList = truL
  · have hp : toldP (bl s) = true := by rw [← toList_bl, h1]; rfl
    unfold truL at h1
    go_enter Tryd.func27, Tryd.ntmps27
    go_wp2
    go_ret
    exact ⟨by rw [hp]; rfl, Below.refl _ _⟩
  by_cases h2 : s.toList = falsL
  · have hp : toldP (bl s) = true := by rw [← toList_bl, h2]; rfl
    unfold falsL at h2
    unfold truL at h1
    go_enter Tryd.func27, Tryd.ntmps27
    go_wp2
    go_ret
    exact ⟨by rw [hp]; rfl, Below.refl _ _⟩
  have hp : toldP (bl s) = (toldI (bl s) || toldU (bl s)) := by
    unfold toldP
    rw [← toList_bl, show (s.toList == truL) = false from beq_eq_false_iff_ne.2 h1, show (s.toList == falsL) = false from beq_eq_false_iff_ne.2 h2]
    rfl
  have HP := Lib.hid hp
  have HL := Lib.hid h
  have HI := Lib.hid (pint_e s w h hs)
  clear hp h
  have b1 : (s.toList == [116, 114, 117, 101]) = false := beq_eq_false_iff_ne.2 h1
  have b2 : (s.toList == [102, 97, 108, 115, 101]) = false := beq_eq_false_iff_ne.2 h2
  clear h1 h2
  go_enter Tryd.func27, Tryd.ntmps27
  go_wp2_with (first | (go_at_call 47; refine HI.out.mono ?_))
  rintro e W1 ⟨⟨V, ev, rfl, hc⟩, hB1⟩
  have HL1 := Lib.hid (HL.out.below hB1)
  have HU := Lib.hid (puint_e s W1 HL1.out hs)
  have HB1 := Lib.hid hB1
  clear HI hB1
  rcases hc with ⟨rfl, hv, hv0, hv1⟩ | ⟨hv, t, p, rfl⟩
  · have HF := Lib.hid (fint_c V W1 HL1.out hv0 hv1)
    clear hv0 hv1
    by_cases hq : Lib.itoa V = s.toList
    · have hh : toldI (bl s) = true := by rw [hv, ← toList_bl]; simp [hq]
      clear hv
      go_wp2_with (first | (rw [eg_nil']; go_simp; try rw [el_nil]) | (go_at_call 38; refine (HF.out).mono ?_; rintro e W2 ⟨rfl, hB2⟩))
      go_ret
      exact ⟨by rw [HP.out, hh]; rfl, HB1.out.trans (hB2.mono HB1.out.size)⟩
    · have hh : toldI (bl s) = false := by rw [hv, ← toList_bl]; simp [hq]
      clear hv
      have hqb : (Lib.itoa V == s.toList) = false := beq_eq_false_iff_ne.2 hq
      go_wp2_with (first | (rw [eg_nil']; go_simp; try rw [el_nil]) | (go_at_call 38; refine (HF.out).mono ?_; rintro e W2 ⟨rfl, hB2⟩) | (go_at_call 48; refine (puint_e s _ (HL1.out.below (by assumption)) hs).mono ?_))
      rintro e W3 ⟨⟨U, ev, rfl, hc⟩, hB3⟩
      have HB3 := Lib.hid (HB1.out.trans ((hB2.trans (hB3.mono hB2.size)).mono HB1.out.size))
      have HL3 := Lib.hid ((HL1.out.below hB2).below hB3)
      clear hB2 hB3 hq
      rcases hc with ⟨rfl, hu, hu0⟩ | ⟨hu, t, p, rfl⟩
      · have HF3 := Lib.hid (fu_any U hu0 W3 HL3.out.tab)
        clear hu0
        by_cases hq2 : Lib.decDigits U = s.toList
        · have hh2 : toldU (bl s) = true := by rw [hu, ← toList_bl]; simp [hq2]
          clear hu
          go_wp2_with (first | (rw [eg_nil']; go_simp; try rw [el_nil]) | (go_at_call 49; refine (HF3.out).mono ?_; rintro e W4 ⟨rfl, hW4⟩))
          go_ret
          exact ⟨by rw [HP.out, hh, hh2]; rfl, HB3.out.trans ((grow_below hW4).mono HB3.out.size)⟩
        · have hh2 : toldU (bl s) = false := by rw [hu, ← toList_bl]; simp [hq2]
          have hqb2 : (Lib.decDigits U == s.toList) = false := beq_eq_false_iff_ne.2 hq2
          clear hu hq2
          go_wp2_with (first | (rw [eg_nil']; go_simp; try rw [el_nil]) | (go_at_call 49; refine (HF3.out).mono ?_; rintro e W4 ⟨rfl, hW4⟩))
          go_ret
          exact ⟨by rw [HP.out, hh, hh2]; rfl, HB3.out.trans ((grow_below hW4).mono HB3.out.size)⟩
      · go_wp2_with (first | (rw [eg_held']; go_simp; try rw [el_held]))
        go_ret
        exact ⟨by rw [HP.out, hh, hu]; rfl, HB3.out⟩
  · go_wp2_with (first | (rw [eg_held']; go_simp; try rw [el_held]) | (go_at_call 48; refine HU.out.mono ?_))
    rintro e W3 ⟨⟨U, ev, rfl, hc⟩, hB3⟩
    have HB3 := Lib.hid (HB1.out.trans (hB3.mono HB1.out.size))
    have HL3 := Lib.hid (HL1.out.below hB3)
    clear hB3
    rcases hc with ⟨rfl, hu, hu0⟩ | ⟨hu, t, p, rfl⟩
    · have HF3 := Lib.hid (fu_any U hu0 W3 HL3.out.tab)
      clear hu0
      by_cases hq2 : Lib.decDigits U = s.toList
      · have hh2 : toldU (bl s) = true := by rw [hu, ← toList_bl]; simp [hq2]
        clear hu
        go_wp2_with (first | (rw [eg_nil']; go_simp; try rw [el_nil]) | (go_at_call 49; refine (HF3.out).mono ?_; rintro e W4 ⟨rfl, hW4⟩))
        go_ret
        exact ⟨by rw [HP.out, hv, hh2]; rfl, HB3.out.trans ((grow_below hW4).mono HB3.out.size)⟩
      · have hh2 : toldU (bl s) = false := by rw [hu, ← toList_bl]; simp [hq2]
        have hqb2 : (Lib.decDigits U == s.toList) = false := beq_eq_false_iff_ne.2 hq2
        clear hu hq2
        go_wp2_with (first | (rw [eg_nil']; go_simp; try rw [el_nil]) | (go_at_call 49; refine (HF3.out).mono ?_; rintro e W4 ⟨rfl, hW4⟩))
        go_ret
        exact ⟨by rw [HP.out, hv, hh2]; rfl, HB3.out.trans ((grow_below hW4).mono HB3.out.size)⟩
    · go_wp2_with (first | (rw [eg_held']; go_simp; try rw [el_held]))
      go_ret
      exact ⟨by rw [HP.out, hv, hu]; rfl, HB3.out⟩
end Go.Proofs.YthfnjphmodcnoaaDoor
