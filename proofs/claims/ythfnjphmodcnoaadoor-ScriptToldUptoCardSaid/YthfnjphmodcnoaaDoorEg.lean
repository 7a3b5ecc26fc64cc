/- Contract of the reference's ending. -/
import Derived.Test.YthfnjphmodcnoaaDoorEf
namespace Go.Proofs.YthfnjphmodcnoaaDoor
open Go.RowKit
set_option linter.unusedSimpArgs false
set_option linter.unusedVariables false

theorem endS_bl : bl (endS 1) = exitL ∧ bl (endS 3) = deadL ∧ bl (endS 4) = fuelL ∧ bl (endS 5) = roomL := by decide +kernel
theorem refE_word {l : List UInt8} {k : Nat} (h : k = 1 ∨ k = 3 ∨ k = 4 ∨ k = 5) (hl : l = bl (endS k)) : refE l = some ((k : Int), 0) := by
  obtain ⟨e1, e3, e4, e5⟩ := endS_bl
  subst hl
  rcases h with rfl | rfl | rfl | rfl
  · rw [e1]; decide +kernel
  · rw [e3]; decide +kernel
  · rw [e4]; decide +kernel
  · rw [e5]; decide +kernel
theorem refE_rest {l : List UInt8} (h : ∀ j, 1 ≤ j → j < 6 → j ≠ 2 → l ≠ bl (endS j)) : refE l = if l.length < 7 ∨ l.take 6 ≠ panicL ++ [32] then none else match signedQ (l.drop 6) with | some v => if in64 v then some ((2 : Int), v) else none | none => none := by
  obtain ⟨e1, e3, e4, e5⟩ := endS_bl
  have h1 := h 1 (by omega) (by omega) (by omega)
  have h3 := h 3 (by omega) (by omega) (by omega)
  have h4 := h 4 (by omega) (by omega) (by omega)
  have h5 := h 5 (by omega) (by omega) (by omega)
  rw [e1] at h1; rw [e3] at h3; rw [e4] at h4; rw [e5] at h5
  unfold refE
  rw [if_neg h1, if_neg h3, if_neg h4, if_neg h5]
  rfl
theorem endQ_pos {l : List UInt8} {k v : Int} (h : endQ l = some (k, v)) : 1 ≤ k ∧ k ≤ 5 := by
  have hr := endK_range l
  unfold endQ at h
  split at h
  · cases h
  · split at h
    · split at h
      · split at h
        · split at h
          · cases h; omega
          · cases h
        · cases h
      · cases h
    · split at h
      · cases h
      · cases h; omega
def EndPost (q : Option (Int × Int)) (e : Ending) : Prop := ∃ K V : Int, e = .returned (.tuple #[.int .i64 K, .int .i64 V]) ∧ (q = none → K = 0) ∧ ∀ k v, q = some (k, v) → K = k ∧ V = v
theorem endPost_none {q : Option (Int × Int)} (h : q = none) : EndPost q (.returned (.tuple #[.int .i64 0, .int .i64 0])) := ⟨0, 0, rfl, fun _ => rfl, fun k v hq => by rw [h] at hq; cases hq⟩
theorem endPost_some {q : Option (Int × Int)} {k v : Int} (h : q = some (k, v)) : EndPost q (.returned (.tuple #[.int .i64 k, .int .i64 v])) := ⟨k, v, rfl, fun h2 => (by rw [h] at h2; cases h2), fun k' v' hq => (by rw [h] at hq; cases hq; exact ⟨rfl, rfl⟩)⟩
set_option maxRecDepth 20000 in
set_option maxHeartbeats 4000000 in
theorem rending_c (s : ByteArray) (w : World) (hs : s.size ≤ 1073741824) : Calls Tryd.prog 32 #[.string s] w fun e w' => EndPost (endQ (bl s)) e ∧ Below w.heap.size w w' := by
  have HQ := Lib.hid (refE_eq (bl s))
  go_enter Tryd.func32, Tryd.ntmps32
  go_wp2_with fail
  go_loopw [4] (fun i wr => ∃ k : Nat, i = .int .i64 k ∧ 1 ≤ k ∧ k ≤ 6 ∧ Hid (∀ j, 1 ≤ j → j < k → j ≠ 2 → bl s ≠ bl (endS j)) ∧ Hid (Below w.heap.size w wr)) (fun i _ => 6 - (intOf i).toNat)
  case atStart => exact ⟨1, rfl, by omega, by omega, Lib.hid (fun j h1 h2 => by omega), Lib.hid (Below.refl _ _)⟩
  case round =>
    obtain ⟨k, rfl, hk1, hk6, HJ, HB⟩ := hrel
    have hsz := HB.out.size
    by_cases hlt : k ≤ 5
    · have hlti : (k : Int) ≤ 5 := by omega
      by_cases h2 : k = 2
      · subst h2
        have HJ2 : Hid (∀ j, 1 ≤ j → j < 3 → j ≠ 2 → bl s ≠ bl (endS j)) := Lib.hid (fun j h1 h3 h4 => HJ.out j h1 (by omega) h4)
        go_wp2
        exact ⟨⟨3, rfl, by omega, by omega, HJ2, HB⟩, by simp [intOf]⟩
      · obtain ⟨x, hx⟩ : ∃ x, x = endS k := ⟨_, rfl⟩
        have HE : Hid (Calls Tryd.prog 39 #[.int .i64 (k : Int)] wr fun e w' => e = .returned (.string x) ∧ Below wr.heap.size wr w') := Lib.hid (by rw [hx]; exact ends_c k hlt wr)
        have hk2 : ((k : Int) == 2) = false := beq_eq_false_iff_ne.2 (by omega)
        have hk2b : ((k : Int) != 2) = true := by rw [bne, hk2]; rfl
        obtain ⟨t, ht⟩ : ∃ t, (s.toList == x.toList) = t := ⟨_, rfl⟩
        have HT := Lib.hid ht
        have HX := Lib.hid hx
        have HK2 := Lib.hid h2
        clear hx h2
        cases t with
        | true =>
          have HW : Hid (endQ (bl s) = some ((k : Int), 0)) := Lib.hid (by
            rw [← HQ.out]
            refine refE_word (by have := HK2.out; omega) ?_
            have := HT.out
            rw [toList_bl, toList_bl, HX.out] at this
            exact beq_iff_eq.1 this)
          go_wp2_with (go_at_call 39; refine HE.out.mono ?_)
          rintro e W1 ⟨rfl, hB1⟩
          go_wp2
          go_ret2
          exact ⟨endPost_some HW.out, HB.out.trans (hB1.mono hsz)⟩
        | false =>
          have HJ2 : Hid (∀ j, 1 ≤ j → j < k + 1 → j ≠ 2 → bl s ≠ bl (endS j)) := Lib.hid (fun j h1 h3 h4 e => by
            by_cases hjk : j = k
            · have := HT.out
              rw [toList_bl, toList_bl, HX.out, ← hjk, ← e] at this
              simp at this
            · exact HJ.out j h1 (by omega) h4 e)
          go_wp2_with (go_at_call 39; refine HE.out.mono ?_)
          rintro e W1 ⟨rfl, hB1⟩
          have HB1 := Lib.hid (HB.out.trans (hB1.mono hsz))
          go_wp2
          exact ⟨⟨k + 1, by go_num, by omega, by omega, HJ2, HB1⟩, by simp [intOf]; omega⟩
    · have hke : k = 6 := by omega
      subst hke
      have HR := Lib.hid (refE_rest HJ.out)
      have hrl := bl_len s
      by_cases h7 : s.size < 7
      · have h7b : decide ((s.size : Int) < 7) = true := by rw [decide_eq_true_eq]; omega
        have HN : Hid (endQ (bl s) = none) := Lib.hid (by rw [← HQ.out, HR.out, if_pos (.inl (by omega))])
        clear hrl
        go_wp2
        go_ret2
        exact ⟨endPost_none HN.out, HB.out⟩
      have h7b : decide ((s.size : Int) < 7) = false := by rw [decide_eq_false_iff_not]; omega
      have h6 : (6 : Int) ≤ (s.size : Int) := by omega
      have hup : (s.extract 0 6).toList = (bl s).take 6 := by rw [toList_bl]; exact bl_upto s 6
      have hdr : bl (s.extract 6 s.size) = (bl s).drop 6 := bl_from s 6
      by_cases hp : (bl s).take 6 = panicL ++ [32]
      · have hpb : ((s.extract 0 6).toList == [112, 97, 110, 105, 99, 32]) = true := by rw [hup, hp]; rfl
        have HM : Hid (endQ (bl s) = match signedQ (bl (s.extract 6 s.size)) with | some v => if in64 v then some ((2 : Int), v) else none | none => none) := Lib.hid (by
          rw [← HQ.out, HR.out, if_neg (by rintro (h | h); omega; exact h hp), hdr])
        have hx7 : (s.extract 6 s.size).size ≤ 1073741824 := by
          have : (s.extract 6 s.size).size ≤ s.size := by simp
          omega
        have HS := Lib.hid (signed_c (s.extract 6 s.size) wr hx7)
        unfold SgnPost at HS
        obtain ⟨b, hb⟩ : ∃ b, (signedQ (bl (s.extract 6 s.size))).isSome = b := ⟨_, rfl⟩
        rw [hb] at HS
        have Hb := Lib.hid hb
        clear hb hup hdr hp hrl hx7
        go_wp2_with (go_at_call 52; refine HS.out.mono ?_)
        rintro e W1 ⟨⟨neg, n, rfl, hn, hv⟩, hB1⟩
        have HV := Lib.hid hv
        have HB1 := Lib.hid (HB.out.trans (hB1.mono hsz))
        have hsz1 := HB1.out.size
        clear hv hB1 HS
        cases b with
        | false =>
          have HN : Hid (endQ (bl s) = none) := Lib.hid (by
            rw [HM.out]
            have := Hb.out
            cases hq : signedQ (bl (s.extract 6 s.size)) with
            | none => rfl
            | some v => rw [hq] at this; cases this)
          go_wp2
          go_ret2
          exact ⟨endPost_none HN.out, HB1.out.alloc hsz1 _⟩
        | true =>
          obtain ⟨v, hq⟩ := Option.isSome_iff_exists.1 Hb.out
          have hvv := HV.out v hq
          have HIN := Lib.hid (fun W => rin6_c n neg W hn)
          have hin : in6 neg n = in64 v := by
            unfold in6 in64
            rw [hvv]
            cases neg
            · simp only [Bool.false_eq_true, if_false]
              by_cases h : n < 9223372036854775808
              · rw [decide_eq_true h, decide_eq_true (by omega : -9223372036854775808 ≤ (n : Int)), decide_eq_true (by omega : (n : Int) ≤ 9223372036854775807)]; rfl
              · rw [decide_eq_false h, decide_eq_false (by omega : ¬ (n : Int) ≤ 9223372036854775807), Bool.and_false]
            · simp only [if_true]
              by_cases h : n ≤ 9223372036854775808
              · rw [decide_eq_true h, decide_eq_true (by omega : -9223372036854775808 ≤ -(n : Int)), decide_eq_true (by omega : -(n : Int) ≤ 9223372036854775807)]; rfl
              · rw [decide_eq_false h, decide_eq_false (by omega : ¬ -9223372036854775808 ≤ -(n : Int)), Bool.false_and]
          obtain ⟨i6, hi6⟩ : ∃ i, in6 neg n = i := ⟨_, rfl⟩
          rw [hi6] at HIN hin
          have HQ2 : Hid (endQ (bl s) = if i6 then some (2, v) else none) := Lib.hid (by rw [HM.out, hq]; simp only []; rw [hin])
          have HVV := Lib.hid hvv
          have HI6 := Lib.hid hi6
          have HIN64 := Lib.hid hin
          clear hq hvv hin hi6
          cases i6 with
          | false =>
            go_wp2_with (go_at_call 53; refine (HIN.out _).mono ?_)
            rintro e W2 ⟨rfl, hB2⟩
            go_wp2
            go_ret2
            exact ⟨endPost_none (by rw [HQ2.out]; rfl), (HB1.out.alloc hsz1 _).trans (hB2.mono (by simp; omega))⟩
          | true =>
            go_wp2_with (go_at_call 53; refine (HIN.out _).mono ?_)
            rintro e W2 ⟨rfl, hB2⟩
            have hcz := bcell hB2
            have k0 : W2.cell? ⟨W1.heap.size, 0, none⟩ = some (.bool neg) := (hB2.cell (p := ⟨W1.heap.size, 0, none⟩) (by simp)).trans (by rw [World.cell?_alloc_new]; rfl)
            have k1 : W2.cell? ⟨W1.heap.size, 1, none⟩ = some (.int .u64 (n : Int)) := (hB2.cell (p := ⟨W1.heap.size, 1, none⟩) (by simp)).trans (by rw [World.cell?_alloc_new]; rfl)
            have HB2 := Lib.hid ((HB1.out.alloc hsz1 (.cells #[.bool neg, .int .u64 (n : Int)] 49)).trans (hB2.mono (by simp; omega)))
            have hsz2 := HB2.out.size
            clear hB2 hcz
            have hin := HIN64.out
            have u1 : IntKind.i64.wrap (wordN neg n) = v := by
              unfold in64 at hin
              have h1 : -9223372036854775808 ≤ v ∧ v ≤ 9223372036854775807 := by simpa using hin.symm
              rw [HVV.out] at h1 ⊢
              unfold wordN
              cases neg
              · simp only [Bool.false_eq_true, if_false] at h1 ⊢; rw [IntKind.wrap_i64]; omega
              · simp only [if_true] at h1 ⊢; rw [IntKind.wrap_u64, IntKind.wrap_i64]; omega
            clear hin
            go_wp2_with (go_at_call 54; refine (rword1_c _ _ _).mono ?_)
            rintro e W3 ⟨rfl, hB3⟩
            go_wp2
            go_ret2
            exact ⟨endPost_some (by rw [HQ2.out]; rfl), HB2.out.trans (hB3.mono hsz2)⟩
      · have hpb : ((s.extract 0 6).toList == [112, 97, 110, 105, 99, 32]) = false := beq_eq_false_iff_ne.2 (fun e => hp (by rw [← hup, e]; rfl))
        have hpb2 : ((s.extract 0 6).toList != [112, 97, 110, 105, 99, 32]) = true := by rw [bne, hpb]; rfl
        have HN : Hid (endQ (bl s) = none) := Lib.hid (by rw [← HQ.out, HR.out, if_pos (.inr hp)])
        clear hup hdr hp hrl
        go_wp2
        go_ret2
        exact ⟨endPost_none HN.out, HB.out⟩
end Go.Proofs.YthfnjphmodcnoaaDoor
