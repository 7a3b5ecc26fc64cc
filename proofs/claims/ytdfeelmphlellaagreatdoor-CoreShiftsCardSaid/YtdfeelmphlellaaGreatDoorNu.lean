/- The law CoreShifts: an answer of the evaluator on tokens is the law's answer for all words. -/
import Derived.Test.YtdfeelmphlellaaGreatDoorNs
import Derived.Test.YtdfeelmphlellaaGreatDoorPc
namespace Go.Proofs.YtdfeelmphlellaaGreatDoor
open Go.RowKit
open Ev
set_option linter.unusedSimpArgs false
set_option linter.unusedVariables false

theorem vr_three {p : Plan} {kk : IntKind} {n : Int} {i j : Nat} {l : List Value} (h : VRs p [.int kk n, .chan (some i), .chan (some j)] l) : ∃ s t, p i = some s ∧ p j = some t ∧ l = [.int kk n, .int .u64 s.off, .int .u64 t.off] := by
  cases h with
  | cons h1 h2 =>
    cases h1
    cases h2 with
    | cons h5 h6 =>
      cases h5 with
      | tok hs =>
      cases h6 with
      | cons h7 h8 =>
        cases h8
        cases h7 with
        | tok ht => exact ⟨_, _, hs, ht, rfl⟩
theorem vr_five {p : Plan} {kk : IntKind} {n n2 : Int} {b : ByteArray} {i j : Nat} {l : List Value} (h : VRs p [.int kk n, .string b, .chan (some i), .int kk n2, .chan (some j)] l) : ∃ s t, p i = some s ∧ p j = some t ∧ l = [.int kk n, .string b, .int .u64 s.off, .int kk n2, .int .u64 t.off] := by
  cases h with
  | cons h1 h2 =>
    cases h1
    cases h2 with
    | cons h3 h4 =>
      cases h3
      cases h4 with
      | cons h5 h6 =>
        cases h5 with
        | tok hs =>
        cases h6 with
        | cons h7 h8 =>
          cases h7
          cases h8 with
          | cons h9 h10 =>
            cases h10
            cases h9 with
            | tok ht => exact ⟨_, _, hs, ht, rfl⟩
theorem vr_num {p : Plan} {b : Bool} {i : Nat} {x : Array Value} {v : Value} (hx : x.toList = [.bool b, .chan (some i)]) (h : VR p (.agg x) v) : ∃ s, p i = some s ∧ v = .agg #[.bool b, .int .u64 s.off] := by
  cases h with
  | agg h =>
    rename_i y
    rw [hx] at h
    cases hy : y.toList with
    | nil => rw [hy] at h; cases h
    | cons z l =>
      rw [hy] at h
      cases h with
      | cons h1 h2 =>
        cases h1
        cases h2 with
        | cons h3 h4 =>
          cases h4
          cases h3 with
          | tok hs =>
            refine ⟨_, hs, ?_⟩
            congr 1
            exact Array.toList_inj.1 hy
theorem below_of' (k a b : Int) (ha : 0 ≤ a) (ha2 : a ≤ 18446744073709551615) (hb : 0 ≤ b) (hb2 : b ≤ 18446744073709551615) :
    rBelow (ofNeg k a) (ofN k a) (ofNeg k b) (ofN k b) = decide (sval k a < sval k b) := by
  have e1 := sval_neg k a ha ha2
  have e2 := sval_neg k b hb hb2
  have e3 := ofN_abs k a ha ha2
  have e4 := ofN_abs k b hb hb2
  rw [e1, e2, e3, e4]
  generalize sval k a = x
  generalize sval k b = y
  unfold rBelow
  by_cases hx : x < 0 <;> by_cases hy : y < 0 <;> simp [hx, hy] <;> omega
theorem ofN_pos' (k n : Int) (h : 0 ≤ n) : 0 ≤ ofN k n := by
  unfold ofN
  split
  · rw [IntKind.wrap_u64]; omega
  · exact h
theorem shiftR_pos (k : Int) (c : Nat) (a n e : Int) : 0 ≤ resW e (wrapW k (shiftRaw k c a n)) := by
  have h : 0 ≤ shiftRaw k c a n ∧ shiftRaw k c a n ≤ 18446744073709551615 := by
    unfold shiftRaw
    split <;> omega
  unfold resW
  split
  · exact (wrapW_bd k _ h.1 h.2).1
  · omega
theorem shift_tok {k : Int} {up : Bool} {c : Cs} (hE : AskS k up c) (hC : AskC k k) (hC1 : AskC k 1) (hk : isW k = true) (x y : Int) (hx : 0 ≤ x) (hx2 : x ≤ 18446744073709551615) (hy : 0 ≤ y) (hy2 : y ≤ 18446744073709551615)
    (herr : shiftErr k (opCode ⟨c.sg.toArray⟩) (wrapW k x) k (wrapW k y) = c.err) (heq : c.eq = true → wrapW k x = wrapW k y) (hne : c.ne = true → wrapW k x ≠ wrapW k y)
    (hless : decide (sval k (wrapW k x) < sval k (wrapW k y)) = c.less) (hna : ofNeg k (wrapW k x) = c.na) (hnb : ofNeg k (wrapW k y) = c.nb) (w : World) (hL : Laid w) :
    Calls Tryz.prog 4 #[.int .i64 k, .int .u64 x, .int .u64 y, .bool up] w fun e w' => e = .returned (.bool true) ∧ Below w.heap.size w w' := by
  have hkb : -9223372036854775808 ≤ k ∧ k ≤ 9223372036854775807 := by
    simp [isW] at hk
    omega
  obtain ⟨hk1, hk2⟩ := hkb
  obtain ⟨ha, ha2⟩ := wrapW_bd k x hx hx2
  obtain ⟨hb, hb2⟩ := wrapW_bd k y hy hy2
  have hinA := inW_wrapW k x hk hx hx2
  have hinB := inW_wrapW k y hk hy hy2
  have hr := shiftR_pos k (opCode ⟨c.sg.toArray⟩) (wrapW k x) (wrapW k y) (shiftErr k (opCode ⟨c.sg.toArray⟩) (wrapW k x) k (wrapW k y))
  have hfa := ofN_pos' k _ ha
  have hfb := ofN_pos' k _ hb
  have hbel := below_of' k _ _ ha ha2 hb hb2
  have hwx := rwrap_eq k x hk hx hx2
  have hwy := rwrap_eq k y hk hy hy2
  generalize ea : wrapW k x = a at *
  generalize eb : wrapW k y = b at *
  generalize er : resW (shiftErr k (opCode ⟨c.sg.toArray⟩) a k b) (wrapW k (shiftRaw k (opCode ⟨c.sg.toArray⟩) a b)) = r at *
  generalize efa : ofN k a = fa at *
  generalize efb : ofN k b = fb at *
  obtain ⟨X, rfl⟩ := Int.eq_ofNat_of_zero_le hx
  obtain ⟨Y, rfl⟩ := Int.eq_ofNat_of_zero_le hy
  obtain ⟨A, rfl⟩ := Int.eq_ofNat_of_zero_le ha
  obtain ⟨B, rfl⟩ := Int.eq_ofNat_of_zero_le hb
  obtain ⟨R, rfl⟩ := Int.eq_ofNat_of_zero_le hr
  obtain ⟨FA, rfl⟩ := Int.eq_ofNat_of_zero_le hfa
  obtain ⟨FB, rfl⟩ := Int.eq_ofNat_of_zero_le hfb
  have hax : AxS X Y A B R FA FB (planA [X, Y, A, B, R, FA, FB]) := ⟨rfl, rfl, rfl, rfl, rfl, rfl, rfl⟩
  have axm : ∀ p q : Plan, p.le q → AxS X Y A B R FA FB p → AxS X Y A B R FA FB q := fun p q hpq h => ⟨hpq _ _ h.x, hpq _ _ h.y, hpq _ _ h.a, hpq _ _ h.b, hpq _ _ h.r, hpq _ _ h.fa, hpq _ _ h.fb⟩
  have hdis : Dis (cfgS k c (AxS X Y A B R FA FB) axm) (planA [X, Y, A, B, R, FA, FB]) := by
    refine ⟨fun z hz => ?_, hax⟩
    replace hz : z ∈ (if c.ne then [(6, 7)] else [] : List (Nat × Nat)) := hz
    split at hz
    · rename_i hn
      have hz2 : z = (6, 7) := by simpa using hz
      subst hz2
      refine ⟨_, _, hax.a, hax.b, fun h => hne hn ?_⟩
      have : A = B := h
      rw [this]
    · cases hz
  refine saysTrue_ok (K := cfgS k c (AxS X Y A B R FA FB) axm) (base := w.heap.size) (w0 := w) (p := planA [X, Y, A, B, R, FA, FB]) follows ?_ (hE (AxS X Y A B R FA FB) axm) (fun b hb => by rw [heapA_get, if_neg (by omega)]) (relA (show 0 < 4 by omega) rfl hL hdis)
    (.cons (.int _ _) (.cons (.tok hax.x) (.cons (.tok hax.y) (.cons (.bool _) .nil)))) (fun b hb => by
      unfold planA
      rw [if_neg (by omega), if_neg (by omega), List.getElem?_eq_none (by simp; omega)]
      rfl)
  intro g args m e h cc v h' c' l em p w' args' hrel hv hf
  replace e : orcS k c g args = some m := e
  have hp : AxS X Y A B R FA FB p := hrel.dis.2
  have hto : ∀ {l : List Value}, args'.toList = l → args' = l.toArray := fun h => by rw [← h]
  have htb : ∀ {s : Spot}, p (if c.eq then 6 else 7) = some s → s.off = B := fun {s} hs => by
    split at hs
    · rename_i hq
      obtain rfl : _ = s := Option.some.inj (hp.a.symm.trans hs)
      have := heq hq
      show A = B
      omega
    · obtain rfl : _ = s := Option.some.inj (hp.b.symm.trans hs)
      rfl
  have htf : ∀ {s : Spot}, p (if c.eq then 9 else 10) = some s → s.off = FB := fun {s} hs => by
    split at hs
    · rename_i hq
      obtain rfl : _ = s := Option.some.inj (hp.fa.symm.trans hs)
      have h1 := heq hq
      rw [h1, efb] at efa
      show FA = FB
      omega
    · obtain rfl : _ = s := Option.some.inj (hp.fb.symm.trans hs)
      rfl
  unfold orcS at e
  cases ht : tellS g with
  | none => rw [ht] at e; cases e
  | yes =>
    rw [ht] at e
    cases e
    have hg : TellSOK g _ := ht ▸ tellS_ok g
    unfold TellSOK at hg
    dsimp only at hg
    subst hg
    unfold tYes at em
    split at em
    · obtain ⟨rfl, rfl, rfl⟩ := pure_inv em
      obtain rfl : args' = #[] := by cases hl : args'.toList with | nil => exact hto hl | cons => rw [hl] at hv; cases hv
      have hL' : Laid w' := ⟨by
        have := hrel.below.block 0 (Nat.lt_of_lt_of_le (Array.getElem?_eq_some_iff.1 hL.ops).1 (Nat.le_refl _))
        rw [this]; exact hL.ops⟩
      refine (answers_c w' hL').mono ?_
      rintro e w'' ⟨rfl, hb⟩
      exact ⟨p, _, rfl, Plan.le_refl _, Out.rfl, hrel.quiet hb, .bool _⟩
    · cases em
  | wrap =>
    rw [ht] at e
    cases e
    have hg : TellSOK g _ := ht ▸ tellS_ok g
    unfold TellSOK at hg
    dsimp only at hg
    subst hg
    unfold tWrapS at em
    split at em
    · rename_i kk i
      split at em
      · rename_i hkk
        subst hkk
        obtain ⟨s, hs, hl⟩ := vr_two hv
        split at em
        · rename_i hi
          subst hi
          obtain ⟨rfl, rfl, rfl⟩ := pure_inv em
          obtain rfl : _ = s := Option.some.inj (hp.x.symm.trans hs)
          rw [hto hl]
          refine (rwrap_any kk X w' hk1 hk2 hx hx2).mono ?_
          rintro e w'' ⟨rfl, rfl⟩
          rw [hwx]
          exact ⟨p, _, rfl, Plan.le_refl _, Out.rfl, hrel, .tok hp.a⟩
        · split at em
          · rename_i hi
            subst hi
            obtain ⟨rfl, rfl, rfl⟩ := pure_inv em
            obtain rfl : _ = s := Option.some.inj (hp.y.symm.trans hs)
            rw [hto hl]
            refine (rwrap_any kk Y w' hk1 hk2 hy hy2).mono ?_
            rintro e w'' ⟨rfl, rfl⟩
            rw [hwy]
            refine ⟨p, _, rfl, Plan.le_refl _, Out.rfl, hrel, ?_⟩
            cases hq : c.eq with
            | true =>
              have := heq hq
              rw [← this]
              exact .tok hp.a
            | false => exact .tok hp.b
          · cases em
      · cases em
    · cases em
  | is =>
    rw [ht] at e
    cases e
    have hg : TellSOK g _ := ht ▸ tellS_ok g
    unfold TellSOK at hg
    dsimp only at hg
    subst hg
    unfold tIs at em
    split at em
    · rename_i kk i
      split at em
      · rename_i hkk
        obtain ⟨rfl, hi⟩ := hkk
        obtain ⟨s, hs, hl⟩ := vr_two hv
        obtain ⟨rfl, rfl, rfl⟩ := pure_inv em
        rw [hto hl]
        have hin : inW kk s.off = true := by
          rcases hi with rfl | rfl
          · obtain rfl : _ = s := Option.some.inj (hp.a.symm.trans hs)
            exact hinA
          · obtain rfl : _ = s := Option.some.inj (hp.b.symm.trans hs)
            exact hinB
        refine (is_any kk s.off w').mono ?_
        rintro e w'' ⟨rfl, rfl⟩
        rw [hin]
        exact ⟨p, _, rfl, Plan.le_refl _, Out.rfl, hrel, .bool _⟩
      · cases em
    · cases em
  | shift =>
    rw [ht] at e
    cases e
    have hg : TellSOK g _ := ht ▸ tellS_ok g
    unfold TellSOK at hg
    dsimp only at hg
    unfold tShift at em
    generalize (if c.eq = true then 6 else 7) = tb at em htb
    split at em
    · rename_i kk s i k2 j
      split at em
      · rename_i hkk
        obtain ⟨h1, h2, h3, h4, h5⟩ := hkk
        subst h1 h2 h3 h4 h5
        obtain ⟨s, t, hs, ht', hl⟩ := vr_five hv
        obtain ⟨rfl, rfl, rfl⟩ := pure_inv em
        obtain rfl : _ = s := Option.some.inj (hp.a.symm.trans hs)
        rw [htb ht'] at hl
        rw [hto hl]
        rcases hg with rfl | rfl
        · refine (shift_any k2 A k2 B ⟨c.sg.toArray⟩ w' hk1 hk2 hk1 hk2 ha ha2 hb hb2).mono ?_
          rintro e w'' ⟨rfl, rfl⟩
          rw [er, herr]
          exact ⟨p, _, rfl, Plan.le_refl _, Out.rfl, hrel, .tuple (.cons (.tok hp.r) (.cons (.int _ _) .nil))⟩
        · refine (rshift_any k2 A k2 B ⟨c.sg.toArray⟩ w' hk1 hk2 hk1 hk2 ha ha2 hb hb2).mono ?_
          rintro e w'' ⟨rfl, hbl⟩
          rw [shiftErr_eq k2 A k2 B _ ha ha2 hb hb2, shiftW_eq k2 A k2 B _ ha ha2 hb hb2, er, herr]
          exact ⟨p, _, rfl, Plan.le_refl _, Out.rfl, hrel.quiet hbl, .tuple (.cons (.tok hp.r) (.cons (.int _ _) .nil))⟩
      · cases em
    · cases em
  | less =>
    rw [ht] at e
    cases e
    have hg : TellSOK g _ := ht ▸ tellS_ok g
    unfold TellSOK at hg
    dsimp only at hg
    subst hg
    unfold tLess at em
    generalize (if c.eq = true then 6 else 7) = tb at em htb
    split at em
    · rename_i kk i j
      split at em
      · rename_i hkk
        obtain ⟨h1, h2, h3⟩ := hkk
        subst h1 h2 h3
        obtain ⟨s, t, hs, ht', hl⟩ := vr_three hv
        obtain ⟨rfl, rfl, rfl⟩ := pure_inv em
        obtain rfl : _ = s := Option.some.inj (hp.a.symm.trans hs)
        rw [htb ht'] at hl
        rw [hto hl]
        refine (less_any kk A B w' hk1 hk2).mono ?_
        rintro e w'' ⟨rfl, hbl⟩
        have hck : checkW kk [(A : Int), (B : Int)] = 0 := checkW2.2 ⟨hinA, hinB⟩
        have hlw : lessW kk A B = c.less := by unfold lessW; rw [hck, ← hless]; simp
        rw [hlw, hck]
        exact ⟨p, _, rfl, Plan.le_refl _, Out.rfl, hrel.quiet hbl, .tuple (.cons (.bool _) (.cons (.int _ _) .nil))⟩
      · cases em
    · cases em
  | of_ =>
    rw [ht] at e
    cases e
    have hg : TellSOK g _ := ht ▸ tellS_ok g
    unfold TellSOK at hg
    dsimp only at hg
    subst hg
    unfold tOf at em
    split at em
    · rename_i kk i
      split at em
      · rename_i hkk
        subst hkk
        obtain ⟨s, hs, hl⟩ := vr_two hv
        split at em
        · rename_i hi
          subst hi
          obtain ⟨rfl, rfl, rfl⟩ := pure_inv em
          obtain rfl : _ = s := Option.some.inj (hp.a.symm.trans hs)
          rw [hto hl]
          refine (rof_any kk A w' hk1 hk2).mono ?_
          rintro e w'' ⟨rfl, hbl⟩
          rw [efa, hna]
          exact ⟨p, _, rfl, Plan.le_refl _, Out.rfl, hrel.quiet hbl, .agg (.cons (.bool _) (.cons (.tok hp.fa) .nil))⟩
        · split at em
          · rename_i hi
            subst hi
            obtain ⟨rfl, rfl, rfl⟩ := pure_inv em
            obtain rfl : _ = s := Option.some.inj (hp.b.symm.trans hs)
            rw [hto hl]
            refine (rof_any kk B w' hk1 hk2).mono ?_
            rintro e w'' ⟨rfl, hbl⟩
            rw [efb, hnb]
            exact ⟨p, _, rfl, Plan.le_refl _, Out.rfl, hrel.quiet hbl, .agg (.cons (.bool _) (.cons (.tok hp.fb) .nil))⟩
          · cases em
      · cases em
    · cases em
  | below =>
    rw [ht] at e
    cases e
    have hg : TellSOK g _ := ht ▸ tellS_ok g
    unfold TellSOK at hg
    dsimp only at hg
    subst hg
    unfold tBelow at em
    have hn : (if c.eq = true then c.na else c.nb) = ofNeg k B := by
      split
      · rename_i hq
        rw [← hna, heq hq]
      · rw [hnb]
    generalize (if c.eq = true then 9 else 10) = tf at em htf
    generalize (if c.eq = true then c.na else c.nb) = nn at em hn
    split at em
    · rename_i x1 y1
      generalize hx1 : x1.toList = lx at em
      generalize hy1 : y1.toList = ly at em
      split at em
      · rename_i n1 i
        split at em
        · rename_i n2 j
          split at em
          · rename_i hcond
            obtain ⟨q1, q2, q3, q4⟩ := hcond
            subst q1 q2 q3 q4
            obtain ⟨rfl, rfl, rfl⟩ := pure_inv em
            cases hvl : args'.toList with
            | nil => rw [hvl] at hv; cases hv
            | cons u1 l1 =>
              rw [hvl] at hv
              cases hv with
              | cons g1 g2 =>
                cases g2 with
                | cons g3 g4 =>
                  cases g4
                  obtain ⟨s, hs, rfl⟩ := vr_num hx1 g1
                  obtain ⟨t, ht', rfl⟩ := vr_num hy1 g3
                  obtain rfl : _ = s := Option.some.inj (hp.fa.symm.trans hs)
                  rw [htf ht'] at hvl
                  rw [hto hvl]
                  refine (rbelow_any _ _ FA FB w').mono ?_
                  rintro e w'' ⟨rfl, hbl⟩
                  rw [hn, ← hna, hbel, hless]
                  exact ⟨p, _, rfl, Plan.le_refl _, Out.rfl, hrel.quiet hbl, .bool _⟩
          · cases em
        · cases em
      · cases em
    · cases em
  | measure =>
    rw [ht] at e
    cases e
    have hg : TellSOK g _ := ht ▸ tellS_ok g
    unfold TellSOK at hg
    dsimp only at hg
    subst hg
    exact tell_measure em hrel hv hf
  | check =>
    rw [ht] at e
    cases e
    have hg : TellSOK g _ := ht ▸ tellS_ok g
    unfold TellSOK at hg
    dsimp only at hg
    subst hg
    unfold tCheck at em
    split at em
    · rename_i mm
      generalize mm.toList = lm at em
      split at em
      · obtain ⟨r, h1, c1, l1, l2, e1, e2⟩ := bind_inv em
        obtain ⟨-, rfl, rfl⟩ := rdRow_inv e1
        generalize r.1.drop 8 = lr at e2
        split at e2
        · split at e2
          · exact tell_check hC1 e2 hrel hv
          · exact tell_check hC e2 hrel hv
        · cases e2
      · cases em
    · cases em
end Go.Proofs.YtdfeelmphlellaaGreatDoor
