/- Contracts of script.Report and of the reference's ReportText at any report. The walk of ScriptTold. -/
import Derived.Test.YthfnjphmodcnoaaDoorGb
import Derived.Test.YthfnjphmodcnoaaDoorGc
import Derived.Test.YthfnjphmodcnoaaDoorGa
import Derived.Test.YthfnjphmodcnoaaDoorGd
namespace Go.Proofs.YthfnjphmodcnoaaDoor
open Go.RowKit
set_option linter.unusedSimpArgs false
set_option linter.unusedVariables false

section
variable (v : Value) (L : List (List UInt8)) (k c st pk : Int) (w : World) (hv : StrA w v L) (hn : L.length ≤ 1048576) (hz : ∀ x ∈ L, x.length ≤ 1048576) (hc0 : -9223372036854775808 ≤ c) (hc1 : c ≤ 9223372036854775807)
include hv hn hz hc0 hc1
theorem report_c (h : Laid w) : Calls Tryd.prog 16 #[.agg #[v, .int .i64 k, .int .i64 c, .int .i64 st, .int .i64 pk]] w (RP L k c st pk w) := by
  obtain ⟨p0, cap, hve, -⟩ := id hv
  by_cases a1 : k < 1
  · rw [hve]; exact rp_bad1 _ _ _ L w k c st pk a1
  by_cases a2 : 5 < k
  · rw [hve]; exact rp_bad2 _ _ _ L w k c st pk a1 a2
  by_cases a3 : c ≠ 0 ∧ k ≠ 2
  · rw [hve]; exact rp_bad3 _ _ _ L w k c st pk a1 a2 a3.1 a3.2
  have h2 : (c != 0) = true → k = 2 := fun e => by
    have := bne_iff_ne.1 e
    exact Decidable.of_not_not fun e2 => a3 ⟨this, e2⟩
  by_cases a4 : min st pk < 0
  · rw [hve]; exact rp_bad4 _ _ _ L w k c st pk a1 a2 _ rfl h2 a4
  by_cases a5 : 2147483647 < max st pk
  · rw [hve]; exact rp_bad5 _ _ _ L w k c st pk a1 a2 _ rfl h2 a4 a5
  obtain ⟨k, rfl⟩ : ∃ m : Nat, k = (m : Int) := ⟨k.toNat, by omega⟩
  obtain ⟨st, rfl⟩ : ∃ m : Nat, st = (m : Int) := ⟨st.toNat, by omega⟩
  obtain ⟨pk, rfl⟩ : ∃ m : Nat, pk = (m : Int) := ⟨pk.toNat, by omega⟩
  by_cases a6 : k = 2
  · subst a6
    cases hd : (c != 0) with
    | true => exact rp_goodBT v L c st pk w h hv hn hz hd hc0 hc1 (by omega) (by omega)
    | false => exact rp_goodBF v L c st pk w h hv hn hz hd hc0 hc1 (by omega) (by omega)
  · have hcz : c = 0 := Decidable.of_not_not fun e => a3 ⟨e, by omega⟩
    subst hcz
    exact rp_goodA v L k st pk w h hv hn hz (by omega) (by omega) a6 (by omega) (by omega)
theorem rtxt_c : Calls Tryd.prog 17 #[.agg #[v, .int .i64 k, .int .i64 c, .int .i64 st, .int .i64 pk]] w (RP L k c st pk w) := by
  obtain ⟨p0, cap, hve, -⟩ := id hv
  by_cases a1 : k < 1
  · rw [hve]; exact rt_bad1 _ _ _ L w k c st pk a1
  by_cases a2 : 5 < k
  · rw [hve]; exact rt_bad2 _ _ _ L w k c st pk a1 a2
  by_cases a3 : c ≠ 0 ∧ k ≠ 2
  · rw [hve]; exact rt_bad3 _ _ _ L w k c st pk a1 a2 a3.1 a3.2
  have h2 : (c != 0) = true → k = 2 := fun e => by
    have := bne_iff_ne.1 e
    exact Decidable.of_not_not fun e2 => a3 ⟨this, e2⟩
  by_cases a4 : st < 0
  · rw [hve]; exact rt_bad4 _ _ _ L w k c st pk a1 a2 _ rfl h2 a4
  by_cases a5 : 2147483647 < st
  · rw [hve]; exact rt_bad5 _ _ _ L w k c st pk a1 a2 _ rfl h2 a4 a5
  by_cases a7 : pk < 0
  · rw [hve]; exact rt_bad6 _ _ _ L w k c st pk a1 a2 _ rfl h2 a4 a5 a7
  by_cases a8 : 2147483647 < pk
  · rw [hve]; exact rt_bad7 _ _ _ L w k c st pk a1 a2 _ rfl h2 a4 a5 a7 a8
  obtain ⟨k, rfl⟩ : ∃ m : Nat, k = (m : Int) := ⟨k.toNat, by omega⟩
  obtain ⟨st, rfl⟩ : ∃ m : Nat, st = (m : Int) := ⟨st.toNat, by omega⟩
  obtain ⟨pk, rfl⟩ : ∃ m : Nat, pk = (m : Int) := ⟨pk.toNat, by omega⟩
  by_cases a6 : k = 2
  · subst a6
    cases hd : (c != 0) with
    | true => exact rt_goodBT v L c st pk w hv hn hz hd hc0 hc1 (by omega) (by omega)
    | false => exact rt_goodBF v L c st pk w hv hn hz hd hc0 hc1 (by omega) (by omega)
  · have hcz : c = 0 := Decidable.of_not_not fun e => a3 ⟨e, by omega⟩
    subst hcz
    exact rt_goodA v L k st pk w hv hn hz (by omega) (by omega) a6 (by omega) (by omega)
end
end Go.Proofs.YthfnjphmodcnoaaDoor
namespace Go.Proofs.YthfnjphmodcnoaaDoor
open Go.RowKit
set_option linter.unusedSimpArgs false
set_option linter.unusedVariables false

theorem alloc3' (w : World) (a b c : Obj) : (((w.alloc a).alloc b).alloc c).heap[w.heap.size]? = some a ∧ (((w.alloc a).alloc b).alloc c).heap[w.heap.size + 1]? = some b ∧ (((w.alloc a).alloc b).alloc c).heap[w.heap.size + 1 + 1]? = some c ∧ Below w.heap.size w (((w.alloc a).alloc b).alloc c) := by
  refine ⟨?_, ?_, ?_, (((Below.refl w.heap.size w).alloc (Nat.le_refl _) _).alloc (by simp) _).alloc (by simp; omega) _⟩
  · show (((w.heap.push a).push b).push c)[w.heap.size]? = _
    rw [Array.getElem?_push, if_neg (by simp; omega), Array.getElem?_push, if_neg (by simp), Array.getElem?_push, if_pos rfl]
  · show (((w.heap.push a).push b).push c)[w.heap.size + 1]? = _
    rw [Array.getElem?_push, if_neg (by simp), Array.getElem?_push, if_pos (by simp)]
  · show (((w.heap.push a).push b).push c)[w.heap.size + 1 + 1]? = _
    rw [Array.getElem?_push, if_pos (by simp)]
set_option maxRecDepth 20000 in
set_option maxHeartbeats 8000000 in
theorem told_walk (v : Value) (K C S Q : Int) (L : List (List UInt8)) (w : World) (h : Laid w) (hv : StrA w v L) (hn : L.length ≤ 1048576) (hz : ∀ z ∈ L, z.length ≤ 1048576) (hc0 : -9223372036854775808 ≤ C) (hc1 : C ≤ 9223372036854775807) :
    Calls Tryd.prog 6 #[.agg #[v, .int .i64 K, .int .i64 C, .int .i64 S, .int .i64 Q]] w fun e w' => e = .returned (.bool true) ∧ Below w.heap.size w w' := by
  have HX0 := Lib.hid hv
  have HZ := Lib.hid hz
  have HNL := Lib.hid hn
  obtain ⟨p0, cap, rfl, -⟩ := hv
  obtain ⟨n, hN⟩ : ∃ n, L.length = n := ⟨_, rfl⟩
  rw [hN] at hn HX0 ⊢
  have HN := Lib.hid hN
  have HLd := Lib.hid h
  have hs9 := h.size
  have HC0 := Lib.hid hc0
  have HC1 := Lib.hid hc1
  clear hz hN h hc0 hc1
  go_enter Tryd.func6, Tryd.ntmps6
  go_wp2_with (first | ((with_reducible refine wpList_st5 (p := p0) (n := n) (c := cap) (i1 := K) (i2 := C) (i3 := S) (i4 := Q) (RepB.new _) ?hx ?hy ?_); (case hx => rfl); (case hy => rfl)) | (at_builtin; refine wpList_appS rfl _ _ rfl _ rfl ?hg (.slice p0 n cap) rfl L ?hh (by have := HNL.out; omega) ?hk))
  case hg => exact (alloc3' w _ _ _).2.2.1
  case hh => exact strA_below HX0.out (alloc3' w _ _ _).2.2.2
  case hk =>
    obtain ⟨W3, hW3⟩ : ∃ W3, W3 = (((w.alloc (.cells #[.slice p0 n cap, .int .i64 K, .int .i64 C, .int .i64 S, .int .i64 Q] 39)).alloc (.cells #[.slice p0 n cap, .int .i64 K, .int .i64 C, .int .i64 S, .int .i64 Q] 39)).alloc (.cells #[] 9)) := ⟨_, rfl⟩
    obtain ⟨r0, r1, -, hB3⟩ := alloc3' w (.cells #[.slice p0 n cap, .int .i64 K, .int .i64 C, .int .i64 S, .int .i64 Q] 39) (.cells #[.slice p0 n cap, .int .i64 K, .int .i64 C, .int .i64 S, .int .i64 Q] 39) (.cells #[] 9)
    have hz3 : W3.heap.size = w.heap.size + 1 + 1 + 1 := by rw [hW3]; simp
    rw [← hW3] at r0 r1 hB3
    rw [← hW3]
    clear hW3
    intro v' w4 hu4 hB4 x x1 hx hxx
    rw [HN.out] at hx
    subst hx
    obtain ⟨q0, hq0⟩ : ∃ q0, w.heap.size = q0 := ⟨_, rfl⟩
    rw [← hz3] at hB4
    have Hq0 := Lib.hid hq0
    rw [hq0] at hz3 r0 r1 ⊢
    have s0 := (hB4.block q0 (by omega)).trans r0
    have s1 := (hB4.block (q0 + 1) (by omega)).trans r1
    have hz4 := hB4.size
    have hB04 := Lib.hid (hB3.trans (hB4.mono (by omega)))
    have HL4 := Lib.hid (HLd.out.below hB04.out)
    obtain ⟨W5, hW5⟩ : ∃ W5, W5 = w4.setCell ⟨q0 + 1, 0, none⟩ (.slice x n x1) := ⟨_, rfl⟩
    have c1 : w4.cell? ⟨q0 + 1, 0, none⟩ = some (.slice p0 n cap) := by unfold World.cell?; rw [s1]; rfl
    have f1 : w4.frozen? ⟨q0 + 1, 0, none⟩ = false := by unfold World.frozen?; rw [s1]; simp
    have t1 : W5.heap[q0 + 1]? = some (.cells #[.slice x n x1, .int .i64 K, .int .i64 C, .int .i64 S, .int .i64 Q] 39 (0, 0)) := by
      rw [hW5]; simp only [World.setCell, Array.getElem?_modify, if_true, s1, Option.map_some]; rfl
    have hBs : ∀ B, B ≤ q0 + 1 → Below B w4 W5 := fun B hB => by rw [hW5]; exact (Below.refl _ _).setCell hB _
    have t0 : W5.heap[q0]? = some (.cells #[.slice p0 n cap, .int .i64 K, .int .i64 C, .int .i64 S, .int .i64 Q] 39 (0, 0)) := ((hBs (q0 + 1) (Nat.le_refl _)).block q0 (by omega)).trans s0
    have hB5 := Lib.hid (hB04.out.trans (hBs _ (by have := Hq0.out; omega)))
    obtain ⟨a1, a2, a3, a4⟩ : w4.cell? ⟨q0 + 1, 1, none⟩ = some (.int .i64 K) ∧ w4.cell? ⟨q0 + 1, 2, none⟩ = some (.int .i64 C) ∧ w4.cell? ⟨q0 + 1, 3, none⟩ = some (.int .i64 S) ∧ w4.cell? ⟨q0 + 1, 4, none⟩ = some (.int .i64 Q) := by unfold World.cell?; rw [s1]; exact ⟨rfl, rfl, rfl, rfl⟩
    have HL5 := Lib.hid (HLd.out.below hB5.out)
    have hU5 : StrA W5 (.slice x n x1) L := by
      obtain ⟨p, c, e1, e2⟩ := hu4
      refine ⟨p, c, e1, e2.imp id ?_⟩
      rintro ⟨g, o, e3, e4⟩
      refine ⟨g, o, e3, fun i v hv => ?_⟩
      have hne : g ≠ q0 + 1 := by
        rcases hxx with h | h
        · rw [h] at hv; simp at hv
        · injection e1 with e5
          rw [e5, e3] at h
          injection h with h
          injection h with h
          rw [h]; omega
      have := e4 i v hv
      rw [hW5]
      unfold World.cell? at this ⊢
      simp only [World.setCell, Array.getElem?_modify]
      rw [if_neg (fun h => hne h.symm)]
      exact this
    have hUa5 : StrA W5 (.slice p0 n cap) L := strA_below HX0.out hB5.out
    have hz5 : W5.heap.size = w4.heap.size := by rw [hW5]; simp [World.setCell]
    have HT := Lib.hid (report_c (.slice x n x1) L K C S Q W5 hU5 HNL.out HZ.out HC0.out HC1.out HL5.out)
    have HU5 := Lib.hid hU5
    have HUa5 := Lib.hid hUa5
    have T0 := Lib.hid t0
    have T1 := Lib.hid t1
    clear hU5 hUa5 hu4 hxx r0 r1 s0 t0 t1 hBs
    go_wp2_with fail
    rw [← hW5]
    clear hW5 s1 c1 f1 a1 a2 a3 a4 hB4
    refine HT.out.mono ?_
    rintro e_ W6 ⟨rfl, hB6⟩
    have hB06 := Lib.hid (hB5.out.trans (hB6.mono (by have := Hq0.out; omega)))
    have hz6 := hB6.size
    have T06 := (hB6.block q0 (by omega)).trans T0.out
    have T16 := (hB6.block (q0 + 1) (by omega)).trans T1.out
    have HUa6 := Lib.hid (strA_below HUa5.out hB6)
    have HU6 := Lib.hid (strA_below HU5.out hB6)
    have HR := Lib.hid (rtxt_c (.slice p0 n cap) L K C S Q W6 HUa6.out HNL.out HZ.out HC0.out HC1.out)
    obtain ⟨d0, d1, d2, d3, d4⟩ : W6.cell? ⟨q0, 0, none⟩ = some (.slice p0 n cap) ∧ W6.cell? ⟨q0, 1, none⟩ = some (.int .i64 K) ∧ W6.cell? ⟨q0, 2, none⟩ = some (.int .i64 C) ∧ W6.cell? ⟨q0, 3, none⟩ = some (.int .i64 S) ∧ W6.cell? ⟨q0, 4, none⟩ = some (.int .i64 Q) := by unfold World.cell?; rw [T06]; exact ⟨rfl, rfl, rfl, rfl, rfl⟩
    clear HT hB6
    obtain ⟨st, hst⟩ : ∃ st : ByteArray, st = ⟨(repS L K C S Q).1.toArray⟩ := ⟨_, rfl⟩
    obtain ⟨ec, hec⟩ : ∃ ec, ec = (repS L K C S Q).2 := ⟨_, rfl⟩
    unfold RP at HR
    rw [← hst, ← hec] at HR ⊢
    have Hst := Lib.hid hst
    have Hec := Lib.hid hec
    clear hst hec
    go_wp2_with (go_at_call 17; refine HR.out.mono ?_)
    rintro e_ W7 ⟨rfl, hB7⟩
    have hB07 := Lib.hid (hB06.out.trans (hB7.mono (by have := Hq0.out; omega)))
    have HL7 := Lib.hid (HLd.out.below hB07.out)
    have HA := Lib.hid (answers_c W7 HL7.out)
    have hz7 := hB7.size
    have T07 := (hB7.block q0 (by omega)).trans T06
    have T17 := (hB7.block (q0 + 1) (by omega)).trans T16
    have HUa7 := Lib.hid (strA_below HUa6.out hB7)
    have HU7 := Lib.hid (strA_below HU6.out hB7)
    clear HR hB7 d0 d1 d2 d3 d4
    go_wp2_with (go_at_call 9; refine HA.out.mono ?_)
    rintro e_ W8 ⟨rfl, hB8⟩
    have hB08 := Lib.hid (hB07.out.trans (hB8.mono (by have := Hq0.out; omega)))
    have HL8 := Lib.hid (HLd.out.below hB08.out)
    have hz8 := hB8.size
    have T08 := (hB8.block q0 (by omega)).trans T07
    have T18 := (hB8.block (q0 + 1) (by omega)).trans T17
    have HUa8 := Lib.hid (strA_below HUa7.out hB8)
    have HU8 := Lib.hid (strA_below HU7.out hB8)
    have HS := Lib.hid (srep_c (.slice x n x1) (.slice p0 n cap) L K C S Q W8 (by have := HNL.out; omega) HU8.out HUa8.out)
    obtain ⟨d0, d1, d2, d3, d4⟩ : W8.cell? ⟨q0, 0, none⟩ = some (.slice p0 n cap) ∧ W8.cell? ⟨q0, 1, none⟩ = some (.int .i64 K) ∧ W8.cell? ⟨q0, 2, none⟩ = some (.int .i64 C) ∧ W8.cell? ⟨q0, 3, none⟩ = some (.int .i64 S) ∧ W8.cell? ⟨q0, 4, none⟩ = some (.int .i64 Q) := by unfold World.cell?; rw [T08]; exact ⟨rfl, rfl, rfl, rfl, rfl⟩
    obtain ⟨b0, b1, b2, b3, b4⟩ : W8.cell? ⟨q0 + 1, 0, none⟩ = some (.slice x n x1) ∧ W8.cell? ⟨q0 + 1, 1, none⟩ = some (.int .i64 K) ∧ W8.cell? ⟨q0 + 1, 2, none⟩ = some (.int .i64 C) ∧ W8.cell? ⟨q0 + 1, 3, none⟩ = some (.int .i64 S) ∧ W8.cell? ⟨q0 + 1, 4, none⟩ = some (.int .i64 Q) := by unfold World.cell?; rw [T18]; exact ⟨rfl, rfl, rfl, rfl, rfl⟩
    clear hB8 HA
    by_cases h0 : ec = 0
    · subst h0
      go_wp2_with (go_at_call 15; refine HS.out.mono ?_)
      rintro e_ W9 ⟨rfl, hB9⟩
      obtain ⟨k, s, q, rfl, rfl, rfl, hk1, hk5, hcc, hs, hq, htr, hlen, hts⟩ : ∃ k' s' q' : Nat, K = k' ∧ S = s' ∧ Q = q' ∧ 1 ≤ k' ∧ k' ≤ 5 ∧ (C = 0 ∨ k' = 2) ∧ s' ≤ 2147483647 ∧ q' ≤ 2147483647 ∧ L.all toldP = true ∧ (repF L k' C s' q').length ≤ 65536 ∧ repS L K C S Q = (repF L k' C s' q', 0) := by
        have he0 := Hec.out
        rcases repS_cases L K C S Q with h | h | h
        · rw [h] at he0; cases he0
        · rw [h] at he0; cases he0
        · exact h
      have hbst : bl st = repF L k C s q := by rw [Hst.out, hts]; simp [bl]
      have hB09 := Lib.hid (hB08.out.trans (hB9.mono (by have := Hq0.out; omega)))
      have HL9 := Lib.hid (HLd.out.below hB09.out)
      have hz9 := hB9.size
      have T09 := (hB9.block q0 (by omega)).trans T08
      have HUa9 := Lib.hid (strA_below HUa8.out hB9)
      have hrd := read_all st W9 HL9.out
      rw [hbst, told_read L k C s q hk1 hk5 hcc HC0.out HC1.out hs hq htr hlen] at hrd
      have HPW := Lib.hid hrd
      clear hrd hB9 HS d0 d1 d2 d3 d4 b0 b1 b2 b3 b4 hbst hts hlen htr hcc
      go_wp2_with (go_at_call 13; refine HPW.out.mono ?_)
      rintro e_ Wa ⟨hpost, hBa⟩
      obtain ⟨pv, hO, rfl⟩ : ∃ v, OwnL W9.heap.size Wa v L ∧ e_ = .returned (.tuple #[.agg #[v, .int .i64 (k : Int), .int .i64 C, .int .i64 (s : Int), .int .i64 (q : Int)], .int .i64 0, .int .i64 0]) := hpost
      have hUx := ownL_str hO
      obtain ⟨pa, pc, rfl⟩ := ownL_slice hO
      rw [HN.out] at hUx ⊢
      have hB0a := Lib.hid (hB09.out.trans (hBa.mono (by have := Hq0.out; omega)))
      have hza := hBa.size
      have T0a := (hBa.block q0 (by omega)).trans T09
      have HUaa := Lib.hid (strA_below HUa9.out hBa)
      clear hBa hO
      obtain ⟨d0, d1, d2, d3, d4⟩ : Wa.cell? ⟨q0, 0, none⟩ = some (.slice p0 n cap) ∧ Wa.cell? ⟨q0, 1, none⟩ = some (.int .i64 (k : Int)) ∧ Wa.cell? ⟨q0, 2, none⟩ = some (.int .i64 C) ∧ Wa.cell? ⟨q0, 3, none⟩ = some (.int .i64 (s : Int)) ∧ Wa.cell? ⟨q0, 4, none⟩ = some (.int .i64 (q : Int)) := by unfold World.cell?; rw [T0a]; exact ⟨rfl, rfl, rfl, rfl, rfl⟩
      have hql : q0 < Wa.heap.size := by omega
      obtain ⟨Wb, hWb⟩ : ∃ Wb, Wb = Wa.alloc (.cells #[.slice pa n pc, .int .i64 (k : Int), .int .i64 C, .int .i64 (s : Int), .int .i64 (q : Int)] 39) := ⟨_, rfl⟩
      have hBb : Below Wa.heap.size Wa Wb := by rw [hWb]; exact (Below.refl _ _).alloc (Nat.le_refl _) _
      have hUxb := strA_below hUx hBb
      have hUab := strA_below HUaa.out hBb
      have HS2 := Lib.hid (srep_c (.slice pa n pc) (.slice p0 n cap) L (k : Int) C (s : Int) (q : Int) Wb (by have := HNL.out; omega) hUxb hUab)
      rw [hWb] at HS2
      have hB0b := Lib.hid (hB0a.out.trans (hBb.mono (by have := Hq0.out; omega)))
      rw [hWb] at hB0b
      have hzz := hB0b.out.size
      clear hBb hUxb hUab hWb
      go_wp2_with (go_at_call 15; refine HS2.out.mono ?_)
      rintro e_ Wc ⟨rfl, hBc⟩
      go_wp2
      go_ret
      exact ⟨rfl, hB0b.out.trans (hBc.mono hzz)⟩
    · have h0b : (ec == 0) = false := beq_eq_false_iff_ne.2 h0
      have h0c : (ec != 0) = true := by rw [bne, h0b]; rfl
      go_wp2_with (go_at_call 15; refine HS.out.mono ?_)
      rintro e_ W9 ⟨rfl, hB9⟩
      go_wp2
      go_ret
      exact ⟨rfl, hB08.out.trans (hB9.mono (by have := Hq0.out; omega))⟩
theorem walkScriptTold (v0 : Value) (b1 b2 b3 b4 : Int) (L0 : List (List UInt8)) (hn : L0.length ≤ 1048576) (hz : ∀ z ∈ L0, z.length ≤ 1048576) (hc0 : -9223372036854775808 ≤ b2) (hc1 : b2 ≤ 9223372036854775807) (w : World) (h : Laid w) (hu : StrA w v0 L0) :
    Calls Tryd.prog 6 #[.agg #[v0, .int .i64 b1, .int .i64 b2, .int .i64 b3, .int .i64 b4]] w fun e w' => e = .returned (.bool true) ∧ Below w.heap.size w w' :=
  told_walk v0 b1 b2 b3 b4 L0 w h hu hn hz hc0 hc1
end Go.Proofs.YthfnjphmodcnoaaDoor
