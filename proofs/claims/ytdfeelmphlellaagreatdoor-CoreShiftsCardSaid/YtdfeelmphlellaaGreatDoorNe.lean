/- The law CoreArith: an answer of the evaluator on tokens is the law's answer for all words. -/
import Derived.Test.YtdfeelmphlellaaGreatDoorNd
import Derived.Test.YtdfeelmphlellaaGreatDoorPc
namespace Go.Proofs.YtdfeelmphlellaaGreatDoor
open Go.RowKit
open Ev
set_option linter.unusedSimpArgs false
set_option linter.unusedVariables false

theorem vr_two {p : Plan} {kk : IntKind} {n : Int} {i : Nat} {l : List Value} (h : VRs p [.int kk n, .chan (some i)] l) : ∃ s, p i = some s ∧ l = [.int kk n, .int .u64 s.off] := by
  cases h with
  | cons h1 h2 =>
    cases h1
    cases h2 with
    | cons h3 h4 =>
      cases h4
      cases h3 with
      | tok hs => exact ⟨_, hs, rfl⟩
theorem vr_four {p : Plan} {kk : IntKind} {n : Int} {b : ByteArray} {i j : Nat} {l : List Value} (h : VRs p [.int kk n, .string b, .chan (some i), .chan (some j)] l) : ∃ s t, p i = some s ∧ p j = some t ∧ l = [.int kk n, .string b, .int .u64 s.off, .int .u64 t.off] := by
  cases h with
  | cons h1 h2 =>
    cases h1
    cases h2 with
    | cons h3 h4 =>
      cases h3
      cases h4 with
      | cons h5 h6 =>
        cases h5 with
        | tok hs =>
        cases h6 with
        | cons h7 h8 =>
          cases h8
          cases h7 with
          | tok ht => exact ⟨_, _, hs, ht, rfl⟩
theorem opsCells_plain : opsCells.all (plainF 9) = true := by decide +kernel
theorem ones_plain : ones.1.all (plainF 9) = true := by decide +kernel
/-- the tables and tokens of a run -/
def planA (l : List Nat) : Plan := fun n => if n = 0 then some ⟨0, 0, 9, 1⟩ else if n < 4 then some ⟨n, 0, 0, 0⟩ else (l[n - 4]?).map fun v => ⟨0, v, 0, 0⟩
theorem heapA_get (b : Nat) : heapA.get b = if b = 0 then some (.row opsCells 179 1) else none := by
  unfold heapA
  rw [Tree.get_set]
  rfl
theorem relA {K : Cfg} (hn : 0 < K.n) (hg : K.g = 4) {l : List Nat} {w : World} (hL : Laid w) (hd : Dis K (planA l)) : Rel K w.heap.size w (planA l) heapA w := by
  refine ⟨Below.refl _ _, Nat.le_refl _, fun b hb => ?_, hd, fun b o h => ?_, fun b b' o o' s s' h h' => ?_⟩
  · rw [hg] at hb
    by_cases h0 : b = 0
    · subst h0; exact ⟨⟨0, 0, 9, 1⟩, rfl, rfl, rfl⟩
    · refine ⟨⟨b, 0, 0, 0⟩, ?_, rfl, rfl⟩
      unfold planA
      rw [if_neg h0, if_pos hb]
  · rw [heapA_get] at h
    split at h
    · rename_i h0
      subst h0
      cases h
      have hlt : 0 < w.heap.size := (Array.getElem?_eq_some_iff.1 hL.ops).1
      refine ⟨⟨0, 0, 9, 1⟩, rfl, fun hh => absurd hh (by omega), hlt, rfl, opsCells.toArray, (0, 0), hL.ops, rfl, by decide, ?_, fun j _ => by simp⟩
      exact VRs.of_all (fun v hv => plain_vr 9 v hv) _ opsCells_plain
    · cases h
  · rw [heapA_get] at h h'
    split at h
    · split at h'
      · rename_i h1 h2; intros; rw [h1, h2]
      · cases h'
    · cases h
theorem tell_measure {K : Cfg} {base : Nat} {w0 : World} {args : List Value} {h h' : Tree AObj} {c c' : Nat} {v : Value} {l : Log} (e : toldSlice [shapes] 2 margs ones 7 true args h c = .ok v h' c' l) {p : Plan} {w : World} {args' : Array Value} (hr : Rel K base w0 p h w) (hv : VRs p args args'.toList) (hf : Free p c c') :
    Calls Tryz.prog 45 args' w fun e w' => ∃ p' v', e = .returned v' ∧ p.le p' ∧ Out p p' c c' ∧ Rel K base w0 p' h' w' ∧ VR p' v v' :=
  toldSlice_ok follows measure_E ones_plain e hr hv hf
theorem tell_check {k res : Int} (hC : AskC k res) {K : Cfg} {base : Nat} {w0 : World} {args : List Value} {h h' : Tree AObj} {c c' : Nat} {v : Value} {l : Log} (e : toldPlain [shapes, funcs res, locals_ k] 5 margs (.int .i64 0) args h c = .ok v h' c' l) {p : Plan} {w : World} {args' : Array Value} (hr : Rel K base w0 p h w) (hv : VRs p args args'.toList) :
    Calls Tryz.prog 46 args' w fun e w' => ∃ p' v', e = .returned v' ∧ p.le p' ∧ Out p p' c c' ∧ Rel K base w0 p' h' w' ∧ VR p' v v' :=
  toldPlain_ok follows hC rfl e hr hv
/-! ### what a program that does nothing does not answer -/
noncomputable def orcB (g : FuncId) (args : List Value) : Option (M AObj Value) := match Nat.beq g 45 with
  | true => some (toldSlice [shapes] 2 margs ones 7 true args)
  | false => match Nat.beq g 46 with
    | true => some (toldPlain [shapes, funcs 6, locals_ 6] 5 margs (.int .i64 0) args)
    | false => none
theorem orcB_local : ∀ g args m, orcB g args = some m → M.Local m := by
  intro g args m e
  unfold orcB at e
  split at e
  · cases e; exact local_toldSlice _ _ _ _ _ _ _
  · split at e
    · cases e; exact local_toldPlain _ _ _ _ _
    · cases e
noncomputable def cfgB : Cfg := ⟨4, 4, [], orcB, orcB_local, fun _ => True, fun _ _ _ _ => trivial⟩
theorem check_66 : AskC 6 6 := by unfold AskC; kernel_rfl
theorem answers_E : saysTrue (evCall Tryz.prog cfgB 100000 5 [] heapA 4) = true := by kernel_rfl
theorem answers_c (w : World) (hL : Laid w) : Calls Tryz.prog 5 #[] w fun e w' => e = .returned (.bool true) ∧ Below w.heap.size w w' := by
  refine saysTrue_ok (K := cfgB) (base := w.heap.size) (w0 := w) (p := planA []) follows ?_ answers_E (fun b hb => by rw [heapA_get, if_neg (by omega)]) (relA (show 0 < 4 by omega) rfl hL ⟨fun x hx => (by cases hx), trivial⟩) (args' := #[]) .nil (fun b hb => by
    unfold planA
    rw [if_neg (by omega), if_neg (by omega)]
    simp)
  intro g args m e h c v h' c' l em p w' args' hr hv hf
  replace e : orcB g args = some m := e
  unfold orcB at e
  split at e
  · rename_i hg
    cases e
    rw [Nat.eq_of_beq_eq_true hg]
    exact tell_measure em hr hv hf
  · split at e
    · rename_i hg
      cases e
      rw [Nat.eq_of_beq_eq_true hg]
      exact tell_check check_66 em hr hv
    · cases e
/-! ### the law on tokens -/
def TellOK (g : FuncId) : Tell → Prop
  | .yes => g = 5
  | .wrap => g = 7
  | .is => g = 18
  | .arith => g = 84 ∨ g = 10
  | .measure => g = 45
  | .check => g = 46
  | .none => True
theorem tellA_ok (g : FuncId) : TellOK g (tellA g) := by
  unfold tellA
  cases h1 : Nat.beq g 5 with
  | true => exact Nat.eq_of_beq_eq_true h1
  | false =>
  cases h2 : Nat.beq g 7 with
  | true => exact Nat.eq_of_beq_eq_true h2
  | false =>
  cases h3 : Nat.beq g 18 with
  | true => exact Nat.eq_of_beq_eq_true h3
  | false =>
  cases h4 : Nat.beq g 84 with
  | true => exact .inl (Nat.eq_of_beq_eq_true h4)
  | false =>
  cases h5 : Nat.beq g 10 with
  | true => exact .inr (Nat.eq_of_beq_eq_true h5)
  | false =>
  cases h6 : Nat.beq g 45 with
  | true => exact Nat.eq_of_beq_eq_true h6
  | false =>
  cases h7 : Nat.beq g 46 with
  | true => exact Nat.eq_of_beq_eq_true h7
  | false => trivial
theorem arithW_range (k : Int) (c : Nat) (a b : Int) (ha : 0 ≤ a) (ha2 : a ≤ 18446744073709551615) (hb : 0 ≤ b) (hb2 : b ≤ 18446744073709551615) : 0 ≤ arithW k c a b ∧ arithW k c a b ≤ 18446744073709551615 := by
  unfold arithW resW
  split
  · rename_i h0
    have hc : 1 ≤ c ∧ c ≤ 9 := by
      unfold arithErr at h0
      split at h0
      · cases h0
      · omega
    have h1 := rRaw_bd k a b c hc.1 hc.2 ha ha2 hb hb2
    exact wrapW_bd k _ h1.1 h1.2
  · omega
theorem arith_tok {k o err : Int} {sg : List UInt8} (hE : AskA k o sg err) (hC : AskC k k) (hk : isW k = true) (x y : Int) (hx : 0 ≤ x) (hx2 : x ≤ 18446744073709551615) (hy : 0 ≤ y) (hy2 : y ≤ 18446744073709551615)
    (herr : arithErr k (opCode ⟨sg.toArray⟩) (wrapW k x) (wrapW k y) = err) (w : World) (hL : Laid w) :
    Calls Tryz.prog 3 #[.int .i64 k, .int .i64 o, .int .u64 x, .int .u64 y] w fun e w' => e = .returned (.bool true) ∧ Below w.heap.size w w' := by
  have hkb : -9223372036854775808 ≤ k ∧ k ≤ 9223372036854775807 := by
    simp [isW] at hk
    omega
  obtain ⟨hk1, hk2⟩ := hkb
  obtain ⟨ha, ha2⟩ := wrapW_bd k x hx hx2
  obtain ⟨hb, hb2⟩ := wrapW_bd k y hy hy2
  obtain ⟨hr, hr2⟩ := arithW_range k (opCode ⟨sg.toArray⟩) (wrapW k x) (wrapW k y) ha ha2 hb hb2
  generalize ea : wrapW k x = a at *
  generalize eb : wrapW k y = b at *
  generalize er : arithW k (opCode ⟨sg.toArray⟩) a b = r at *
  obtain ⟨X, rfl⟩ := Int.eq_ofNat_of_zero_le hx
  obtain ⟨Y, rfl⟩ := Int.eq_ofNat_of_zero_le hy
  obtain ⟨A, rfl⟩ := Int.eq_ofNat_of_zero_le ha
  obtain ⟨B, rfl⟩ := Int.eq_ofNat_of_zero_le hb
  obtain ⟨R, rfl⟩ := Int.eq_ofNat_of_zero_le hr
  have hax : Ax X Y A B R (planA [X, Y, A, B, R]) := ⟨rfl, rfl, rfl, rfl, rfl⟩
  have axm : ∀ p q : Plan, p.le q → Ax X Y A B R p → Ax X Y A B R q := fun p q hpq h => ⟨hpq _ _ h.x, hpq _ _ h.y, hpq _ _ h.a, hpq _ _ h.b, hpq _ _ h.r⟩
  have hinA : inW k A = true := by rw [← ea]; exact inW_wrapW k X hk hx hx2
  have hinB : inW k B = true := by rw [← eb]; exact inW_wrapW k Y hk hy hy2
  refine saysTrue_ok (K := cfgA k sg err (Ax X Y A B R) axm) (base := w.heap.size) (w0 := w) (p := planA [X, Y, A, B, R]) follows ?_ (hE (Ax X Y A B R) axm) (fun b hb => by rw [heapA_get, if_neg (by omega)]) (relA (show 0 < 4 by omega) rfl hL ⟨fun x hx => (by cases hx), hax⟩)
    (.cons (.int _ _) (.cons (.int _ _) (.cons (.tok hax.x) (.cons (.tok hax.y) .nil)))) (fun b hb => by
      unfold planA
      rw [if_neg (by omega), if_neg (by omega), List.getElem?_eq_none (by simp; omega)]
      rfl)
  intro g args m e h c v h' c' l em p w' args' hrel hv hf
  replace e : orcA k sg err g args = some m := e
  have hp : Ax X Y A B R p := hrel.dis.2
  have hto : ∀ {l : List Value}, args'.toList = l → args' = l.toArray := fun h => by rw [← h]
  unfold orcA at e
  cases ht : tellA g with
  | none => rw [ht] at e; cases e
  | yes =>
    rw [ht] at e
    cases e
    have hg : TellOK g _ := ht ▸ tellA_ok g
    unfold TellOK at hg
    dsimp only at hg
    subst hg
    unfold tYes at em
    split at em
    · obtain ⟨rfl, rfl, rfl⟩ := pure_inv em
      obtain rfl : args' = #[] := by cases hl : args'.toList with | nil => exact hto hl | cons => rw [hl] at hv; cases hv
      have hL' : Laid w' := ⟨by
        have := hrel.below.block 0 (Nat.lt_of_lt_of_le (Array.getElem?_eq_some_iff.1 hL.ops).1 (Nat.le_refl _))
        rw [this]; exact hL.ops⟩
      refine (answers_c w' hL').mono ?_
      rintro e w'' ⟨rfl, hb⟩
      exact ⟨p, _, rfl, Plan.le_refl _, Out.rfl, hrel.quiet hb, .bool _⟩
    · cases em
  | wrap =>
    rw [ht] at e
    cases e
    have hg : TellOK g _ := ht ▸ tellA_ok g
    unfold TellOK at hg
    dsimp only at hg
    subst hg
    unfold tWrap at em
    split at em
    · rename_i kk i
      split at em
      · rename_i hkk
        subst hkk
        obtain ⟨s, hs, hl⟩ := vr_two hv
        split at em
        · rename_i hi
          subst hi
          obtain ⟨rfl, rfl, rfl⟩ := pure_inv em
          obtain rfl : _ = s := Option.some.inj (hp.x.symm.trans hs)
          rw [hto hl]
          refine (rwrap_any kk X w' hk1 hk2 hx hx2).mono ?_
          rintro e w'' ⟨rfl, rfl⟩
          rw [rwrap_eq kk X hk hx hx2, ea]
          exact ⟨p, _, rfl, Plan.le_refl _, Out.rfl, hrel, .tok hp.a⟩
        · split at em
          · rename_i hi
            subst hi
            obtain ⟨rfl, rfl, rfl⟩ := pure_inv em
            obtain rfl : _ = s := Option.some.inj (hp.y.symm.trans hs)
            rw [hto hl]
            refine (rwrap_any kk Y w' hk1 hk2 hy hy2).mono ?_
            rintro e w'' ⟨rfl, rfl⟩
            rw [rwrap_eq kk Y hk hy hy2, eb]
            exact ⟨p, _, rfl, Plan.le_refl _, Out.rfl, hrel, .tok hp.b⟩
          · cases em
      · cases em
    · cases em
  | is =>
    rw [ht] at e
    cases e
    have hg : TellOK g _ := ht ▸ tellA_ok g
    unfold TellOK at hg
    dsimp only at hg
    subst hg
    unfold tIs at em
    split at em
    · rename_i kk i
      split at em
      · rename_i hkk
        obtain ⟨rfl, hi⟩ := hkk
        obtain ⟨s, hs, hl⟩ := vr_two hv
        obtain ⟨rfl, rfl, rfl⟩ := pure_inv em
        rw [hto hl]
        have hin : inW kk s.off = true := by
          rcases hi with rfl | rfl
          · obtain rfl : _ = s := Option.some.inj (hp.a.symm.trans hs)
            exact hinA
          · obtain rfl : _ = s := Option.some.inj (hp.b.symm.trans hs)
            exact hinB
        refine (is_any kk s.off w').mono ?_
        rintro e w'' ⟨rfl, rfl⟩
        rw [hin]
        exact ⟨p, _, rfl, Plan.le_refl _, Out.rfl, hrel, .bool _⟩
      · cases em
    · cases em
  | arith =>
    rw [ht] at e
    cases e
    have hg : TellOK g _ := ht ▸ tellA_ok g
    unfold TellOK at hg
    dsimp only at hg
    unfold tArith at em
    split at em
    · rename_i kk s i j
      split at em
      · rename_i hkk
        obtain ⟨rfl, rfl, rfl, rfl⟩ := hkk
        obtain ⟨s, t, hs, ht', hl⟩ := vr_four hv
        obtain ⟨rfl, rfl, rfl⟩ := pure_inv em
        obtain rfl : _ = s := Option.some.inj (hp.a.symm.trans hs)
        obtain rfl : _ = t := Option.some.inj (hp.b.symm.trans ht')
        rw [hto hl]
        rcases hg with rfl | rfl
        · refine (arith_any kk A B ⟨sg.toArray⟩ w' hk1 hk2 ha ha2 hb hb2).mono ?_
          rintro e w'' ⟨rfl, hbl⟩
          rw [herr, er]
          exact ⟨p, _, rfl, Plan.le_refl _, Out.rfl, hrel.quiet hbl, .tuple (.cons (.tok hp.r) (.cons (.int _ _) .nil))⟩
        · refine (rarith_any kk A B ⟨sg.toArray⟩ w' hk1 hk2 ha ha2 hb hb2).mono ?_
          rintro e w'' ⟨rfl, hbl⟩
          rw [arithErr_eq kk A B _ ha ha2 hb hb2, arithW_eq kk A B _ ha ha2 hb hb2, herr, er]
          exact ⟨p, _, rfl, Plan.le_refl _, Out.rfl, hrel.quiet hbl, .tuple (.cons (.tok hp.r) (.cons (.int _ _) .nil))⟩
      · cases em
    · cases em
  | measure =>
    rw [ht] at e
    cases e
    have hg : TellOK g _ := ht ▸ tellA_ok g
    unfold TellOK at hg
    dsimp only at hg
    subst hg
    exact tell_measure em hrel hv hf
  | check =>
    rw [ht] at e
    cases e
    have hg : TellOK g _ := ht ▸ tellA_ok g
    unfold TellOK at hg
    dsimp only at hg
    subst hg
    exact tell_check hC em hrel hv
end Go.Proofs.YtdfeelmphlellaaGreatDoor
