/- The walk of ScriptReports. -/
import Derived.Test.YthfnjphmodcnoaaDoorEj
import Derived.Test.YthfnjphmodcnoaaDoorEm
import Derived.Test.YthfnjphmodcnoaaDoorEh
import Derived.Test.YthfnjphmodcnoaaDoorBd
namespace Go.Proofs.YthfnjphmodcnoaaDoor
open Go.RowKit
set_option linter.unusedSimpArgs false
set_option linter.unusedVariables false

theorem readP_tr {L : List (List UInt8)} {en : Bool} {q : RepQ} (h : readP L en = .ok q) : q.tr.length ≤ L.length := by
  have h1 : ((wholeP L en).takeWhile toldP).length ≤ L.length := by
    refine Nat.le_trans (List.takeWhile_prefix toldP).length_le ?_
    rw [wholeP_len]; unfold wholeN; split <;> omega
  unfold readP at h
  dsimp only at h
  split at h
  · cases h
  · split at h
    · cases h
    · split at h
      · cases h
      · split at h
        · cases h
        · split at h
          · cases h
          · cases h; exact h1
theorem readT_tr {s : ByteArray} {q : RepQ} (h : readT (bl s) = .ok q) : q.tr.length ≤ 1073741824 := by
  unfold readT at h
  split at h
  · cases h
  · rename_i h6
    have hl := lines_len (bl s)
    split at h
    · cases h
    · rename_i q' hq
      cases h
      have := readP_tr hq
      omega
def rTr : Except (Nat × Nat) RepQ → List (List UInt8)
  | .error _ => []
  | .ok q => q.tr
def rInt : Except (Nat × Nat) RepQ → Int × Int × Int × Int × Int × Int
  | .error (l, c) => (0, 0, 0, 0, (l : Int), (c : Int))
  | .ok q => (q.k, q.v, (q.st : Int), (q.pk : Int), 0, 0)
theorem readPost_flat {B : Nat} {r : Except (Nat × Nat) RepQ} {e : Ending} {w' : World} (h : ReadPost B r e w') : ∃ p c, e = .returned (.tuple #[.agg #[.slice p (rTr r).length c, .int .i64 (rInt r).1, .int .i64 (rInt r).2.1, .int .i64 (rInt r).2.2.1, .int .i64 (rInt r).2.2.2.1], .int .i64 (rInt r).2.2.2.2.1, .int .i64 (rInt r).2.2.2.2.2]) ∧ OwnL B w' (.slice p (rTr r).length c) (rTr r) := by
  cases r with
  | error lc =>
    obtain ⟨l, c⟩ := lc
    exact ⟨none, 0, h, ownL_nil _ _⟩
  | ok q =>
    obtain ⟨v, ho, he⟩ := h
    obtain ⟨a, c, rfl⟩ := ownL_slice ho
    exact ⟨a, c, he, ho⟩
theorem read_all (s : ByteArray) (w : World) (h : Laid w) : Calls Tryd.prog 13 #[.string s] w fun e w' => ReadPost w.heap.size (readT (bl s)) e w' ∧ Below w.heap.size w w' := by
  by_cases h6 : 65536 < s.size
  · exact read_big s w h6
  · rw [readT_small (by rw [bl_len]; exact h6)]
    exact read_walk s w h (by omega)
theorem rrep_all (s : ByteArray) (w : World) : Calls Tryd.prog 14 #[.string s] w fun e w' => ReadPost w.heap.size (readT (bl s)) e w' ∧ Below w.heap.size w w' := by
  by_cases h6 : 65536 < s.size
  · exact rrep_big s w h6
  · rw [readT_small (by rw [bl_len]; exact h6)]
    exact rrep_walk s w (by omega)
set_option maxRecDepth 20000 in
set_option maxHeartbeats 4000000 in
theorem walkScriptReports (s : ByteArray) (hs : s.size ≤ maxLen) (w : World) (h : Laid w) : Calls Tryd.prog 5 #[.string s] w fun e w' => e = .returned (.bool true) ∧ Below w.heap.size w w' := by
  clear hs
  have hA := read_all s w h
  have hR := rrep_all s
  have hlen : (rTr (readT (bl s))).length ≤ 1073741824 := by
    cases hr : readT (bl s) with
    | error lc => exact Nat.zero_le _
    | ok q => exact readT_tr hr
  have hfl := fun (B : Nat) (e : Ending) (w' : World) => readPost_flat (B := B) (r := readT (bl s)) (e := e) (w' := w')
  obtain ⟨r, hr⟩ : ∃ r, readT (bl s) = r := ⟨_, rfl⟩
  rw [hr] at hA hR hlen hfl
  obtain ⟨T, hT⟩ : ∃ T, rTr r = T := ⟨_, rfl⟩
  obtain ⟨⟨K, C, S, Q, l, er⟩, hI⟩ : ∃ I, rInt r = I := ⟨_, rfl⟩
  rw [hT] at hlen hfl
  rw [hI] at hfl
  dsimp only at hfl
  have HA := Lib.hid hA
  have HR := Lib.hid hR
  have HF := Lib.hid hfl
  have HL := Lib.hid h
  have HLEN := Lib.hid hlen
  have hw9 := h.size
  clear hA hR hlen hfl hr hT hI h
  go_enter Tryd.func5, Tryd.ntmps5
  go_wp2_with (go_at_call 13; refine HA.out.mono ?_)
  rintro e_ W1 ⟨hp, hB1⟩
  obtain ⟨p1, c1, rfl, ho1⟩ := HF.out _ _ _ hp
  have HO1 := Lib.hid ho1
  have HB1 := Lib.hid hB1
  have hz1 := hB1.size
  clear hp ho1 hB1
  go_wp2_with (first | ((with_reducible refine wpList_st5 (p := p1) (n := T.length) (c := c1) (i1 := K) (i2 := C) (i3 := S) (i4 := Q) (RepB.new W1) ?hx ?hy ?_); (case hx => rfl); (case hy => rfl)) | (go_at_call 14; refine (HR.out _).mono ?_))
  rintro e_ W2 ⟨hp, hB2⟩
  have hBs1 := below_s5 ((Below.refl W1.heap.size W1).alloc (Nat.le_refl _) (.cells #[.slice none 0 0, .int .i64 0, .int .i64 0, .int .i64 0, .int .i64 0] 39)) (Nat.le_refl _) (.slice p1 T.length c1) (.int .i64 K) (.int .i64 C) (.int .i64 S) (.int .i64 Q)
  have hRs1 := (RepB.new W1).set5 (.slice p1 T.length c1) (.int .i64 K) (.int .i64 C) (.int .i64 S) (.int .i64 Q)
  obtain ⟨p2, c2, rfl, ho2⟩ := HF.out _ _ _ hp
  have HR2 := Lib.hid (hRs1.below hB2)
  have HB2 := Lib.hid (hBs1.trans (hB2.mono hBs1.size))
  have HO2 := Lib.hid ho2
  have hz2 := HB2.out.size
  clear hp ho2 hB2 hBs1 hRs1
  go_wp2_with (first | ((with_reducible refine wpList_st5 (p := p2) (n := T.length) (c := c2) (i1 := K) (i2 := C) (i3 := S) (i4 := Q) (RepB.new W2) ?hx ?hy ?_); (case hx => rfl); (case hy => rfl)) | (go_at_call 9; fail))
  have hB3 := below_s5 ((Below.refl W2.heap.size W2).alloc (Nat.le_refl _) (.cells #[.slice none 0 0, .int .i64 0, .int .i64 0, .int .i64 0, .int .i64 0] 39)) (Nat.le_refl _) (.slice p2 T.length c2) (.int .i64 K) (.int .i64 C) (.int .i64 S) (.int .i64 Q)
  have hR3 := (RepB.new W2).set5 (.slice p2 T.length c2) (.int .i64 K) (.int .i64 C) (.int .i64 S) (.int .i64 Q)
  obtain ⟨W3, hW3⟩ : ∃ W3, W3 = set5 (W2.alloc (.cells #[.slice none 0 0, .int .i64 0, .int .i64 0, .int .i64 0, .int .i64 0] 39)) W2.heap.size (.slice p2 T.length c2) (.int .i64 K) (.int .i64 C) (.int .i64 S) (.int .i64 Q) := ⟨_, rfl⟩
  rw [← hW3] at hB3 hR3 ⊢
  have hB13 := HB2.out.trans (hB3.mono hz2)
  have HAN := Lib.hid (answers_c W3 ((HL.out.below HB1.out).below hB13))
  have hRa3 := HR2.out.below hB3
  have HS1 := Lib.hid (strA_below (ownL_str HO1.out) hB13)
  have HS2 := Lib.hid (strA_below (ownL_str HO2.out) hB3)
  have HB3 : Hid (Below w.heap.size w W3) := Lib.hid (HB1.out.trans (hB13.mono hz1))
  have HRa3 := Lib.hid hRa3
  have HRb3 := Lib.hid hR3
  clear hW3 hB3 hR3 hRa3 hB13 HO1 HO2 HR2 HB2 HB1
  refine HAN.out.mono ?_
  rintro e_ W4 ⟨rfl, hB4⟩
  have hR1 := HRa3.out.below hB4
  have hR2 := HRb3.out.below hB4
  obtain ⟨m0, m1, m2, m3, m4, -, -, -, -, -⟩ := hR1.facts
  obtain ⟨n0, n1, n2, n3, n4, -, -, -, -, -⟩ := hR2.facts
  have HSR := Lib.hid (srep_c (.slice p1 T.length c1) (.slice p2 T.length c2) T K C S Q W4 HLEN.out (strA_below HS1.out hB4) (strA_below HS2.out hB4))
  have HB4 := Lib.hid (HB3.out.trans (hB4.mono HB3.out.size))
  clear hR1 hR2 hB4
  go_wp2_with (go_at_call 15; refine HSR.out.mono ?_)
  rintro e_ W5 ⟨rfl, hB5⟩
  have HB5 := Lib.hid (HB4.out.trans (hB5.mono HB4.out.size))
  clear hB5
  go_wp2
  go_ret
  exact ⟨rfl, HB5.out⟩
end Go.Proofs.YthfnjphmodcnoaaDoor
