/- The walk of ScriptWrites. -/
import Derived.Test.YthfnjphmodcnoaaDoorDd
namespace Go.Proofs.YthfnjphmodcnoaaDoor
open Go.RowKit
set_option linter.unusedSimpArgs false
set_option linter.unusedVariables false

theorem alloc3 (w : World) (a b c : Obj) : (((w.alloc a).alloc b).alloc c).heap[w.heap.size]? = some a ∧ (((w.alloc a).alloc b).alloc c).heap[w.heap.size + 1]? = some b ∧ (((w.alloc a).alloc b).alloc c).heap[w.heap.size + 1 + 1]? = some c ∧ Below w.heap.size w (((w.alloc a).alloc b).alloc c) := by
  refine ⟨?_, ?_, ?_, (((Below.refl w.heap.size w).alloc (Nat.le_refl _) _).alloc (by simp) _).alloc (by simp; omega) _⟩
  · show (((w.heap.push a).push b).push c)[w.heap.size]? = _
    rw [Array.getElem?_push, if_neg (by simp; omega), Array.getElem?_push, if_neg (by simp), Array.getElem?_push, if_pos rfl]
  · show (((w.heap.push a).push b).push c)[w.heap.size + 1]? = _
    rw [Array.getElem?_push, if_neg (by simp), Array.getElem?_push, if_pos (by simp)]
  · show (((w.heap.push a).push b).push c)[w.heap.size + 1 + 1]? = _
    rw [Array.getElem?_push, if_pos (by simp)]
set_option maxRecDepth 20000 in
set_option maxHeartbeats 4000000 in
theorem writes_walk (v : Value) (F C E : Int) (ps : List Nat) (w : World) (h : Laid w) (hv : U16a w v ps) (hl : ∀ p ∈ ps, p ≤ 65535) (hn : ps.length ≤ 70368744177664) :
    Calls Tryd.prog 4 #[.agg #[v, .int .i64 F, .int .i64 C, .int .i64 E]] w fun e w' => e = .returned (.bool true) ∧ Below w.heap.size w w' := by
  obtain ⟨n, hN⟩ : ∃ n, ps.length = n := ⟨_, rfl⟩
  obtain ⟨p0, cap, rfl, hv⟩ := hv
  rw [hN] at hn ⊢
  have HV := Lib.hid hv
  have HN := Lib.hid hN
  have HP := Lib.hid hl
  have HLd := Lib.hid h
  have hs9 := h.size
  clear hv hN hl h
  go_enter Tryd.func4, Tryd.ntmps4
  go_wp2_with (at_builtin; refine wpList_app16 rfl _ _ rfl _ rfl ?hg _ _ _ rfl ps HN.out ?hh hn ?hk)
  case hg => exact (alloc3 w _ _ _).2.2.1
  case hh =>
    exact HV.out.imp id fun ⟨a, h3, h4⟩ => ⟨a, h3, fun i v hv => by
      have hlt : (a.add i).block < w.heap.size := Lib.lt_of_cell (h4 i v hv)
      exact ((alloc3 w _ _ _).2.2.2.cell (p := a.add i) hlt).trans (h4 i v hv)⟩
  case hk =>
    obtain ⟨W3, hW3⟩ : ∃ W3, W3 = (((w.alloc (.cells #[.slice p0 n cap, .int .i64 F, .int .i64 C, .int .i64 E] 27)).alloc (.cells #[.slice p0 n cap, .int .i64 F, .int .i64 C, .int .i64 E] 27)).alloc (.cells #[] 22)) := ⟨_, rfl⟩
    obtain ⟨r0, r1, -, hB3⟩ := alloc3 w (.cells #[.slice p0 n cap, .int .i64 F, .int .i64 C, .int .i64 E] 27) (.cells #[.slice p0 n cap, .int .i64 F, .int .i64 C, .int .i64 E] 27) (.cells #[] 22)
    have hz3 : W3.heap.size = w.heap.size + 1 + 1 + 1 := by rw [hW3]; simp
    rw [← hW3] at r0 r1 hB3
    rw [← hW3]
    clear hW3
    intro v' w4 hu4 hB4 x x1 hx hxx
    subst hx
    obtain ⟨q0, hq0⟩ : ∃ q0, w.heap.size = q0 := ⟨_, rfl⟩
    rw [← hz3] at hB4
    have Hq0 := Lib.hid hq0
    rw [hq0] at hz3 r0 r1 ⊢
    have s0 := (hB4.block q0 (by omega)).trans r0
    have s1 := (hB4.block (q0 + 1) (by omega)).trans r1
    have hz4 := hB4.size
    have hB04 := Lib.hid (hB3.trans (hB4.mono (by omega)))
    have HL4 := Lib.hid (HLd.out.below hB04.out)
    obtain ⟨W5, hW5⟩ : ∃ W5, W5 = w4.setCell ⟨q0 + 1, 0, none⟩ (.slice x n x1) := ⟨_, rfl⟩
    have c1 : w4.cell? ⟨q0 + 1, 0, none⟩ = some (.slice p0 n cap) := by unfold World.cell?; rw [s1]; rfl
    have f1 : w4.frozen? ⟨q0 + 1, 0, none⟩ = false := by unfold World.frozen?; rw [s1]; simp
    have t1 : W5.heap[q0 + 1]? = some (.cells #[.slice x n x1, .int .i64 F, .int .i64 C, .int .i64 E] 27 (0, 0)) := by
      rw [hW5]; simp only [World.setCell, Array.getElem?_modify, if_true, s1, Option.map_some]; rfl
    have hBs : ∀ B, B ≤ q0 + 1 → Below B w4 W5 := fun B hB => by rw [hW5]; exact (Below.refl _ _).setCell hB _
    have t0 : W5.heap[q0]? = some (.cells #[.slice p0 n cap, .int .i64 F, .int .i64 C, .int .i64 E] 27 (0, 0)) := ((hBs (q0 + 1) (Nat.le_refl _)).block q0 (by omega)).trans s0
    have hB5 := Lib.hid (hB04.out.trans (hBs _ (by have := Hq0.out; omega)))
    obtain ⟨a1, a2, a3⟩ : w4.cell? ⟨q0 + 1, 1, none⟩ = some (.int .i64 F) ∧ w4.cell? ⟨q0 + 1, 2, none⟩ = some (.int .i64 C) ∧ w4.cell? ⟨q0 + 1, 3, none⟩ = some (.int .i64 E) := by unfold World.cell?; rw [s1]; exact ⟨rfl, rfl, rfl⟩
    have HL5 := Lib.hid (HLd.out.below hB5.out)
    have hU5 : U16s W5 (.slice x n x1) ps := by
      obtain ⟨p, c, e1, e2⟩ := hu4
      refine ⟨p, c, e1, e2.imp id ?_⟩
      rintro ⟨g, o, e3, e4⟩
      refine ⟨g, o, e3, fun i v hv => ?_⟩
      have hne : g ≠ q0 + 1 := by
        rcases hxx with h | h
        · rw [h] at hv; simp at hv
        · injection e1 with e5
          rw [e5, e3] at h
          injection h with h
          injection h with h
          rw [h]; omega
      have := e4 i v hv
      rw [hW5]
      unfold World.cell? at this ⊢
      simp only [World.setCell, Array.getElem?_modify]
      rw [if_neg (fun h => hne h.symm)]
      exact this
    have hUa5 : U16a W5 (.slice p0 n cap) ps := ⟨p0, cap, by rw [HN.out], HV.out.imp id fun ⟨a, h3, h4⟩ => ⟨a, h3, fun i v hv => (hB5.out.cell (p := a.add i) (Lib.lt_of_cell (h4 i v hv))).trans (h4 i v hv)⟩⟩
    have hz5 : W5.heap.size = w4.heap.size := by rw [hW5]; simp [World.setCell]
    have HT := Lib.hid (text_c (.slice x n x1) F C E ps W5 HL5.out hU5 HP.out (by rw [HN.out]; omega))
    have HU5 := Lib.hid hU5
    have HUa5 := Lib.hid hUa5
    have T0 := Lib.hid t0
    have T1 := Lib.hid t1
    clear hU5 hUa5 hu4 hxx r0 r1 s0 t0 t1 hBs
    go_wp2_with fail
    rw [← hW5]
    clear hW5 s1 c1 f1 a1 a2 a3 hB4
    refine HT.out.mono ?_
    rintro e_ W6 ⟨rfl, hB6⟩
    have hB06 := Lib.hid (hB5.out.trans (hB6.mono (by have := Hq0.out; omega)))
    have hz6 := hB6.size
    have T06 := (hB6.block q0 (by omega)).trans T0.out
    have T16 := (hB6.block (q0 + 1) (by omega)).trans T1.out
    have HUa6 := Lib.hid (u16a_below HUa5.out hB6)
    have HU6 := Lib.hid (u16s_below HU5.out hB6)
    have HR := Lib.hid (rtext_c (.slice p0 n cap) F C E ps W6 HUa6.out HP.out (by rw [HN.out]; omega))
    obtain ⟨d0, d1, d2, d3⟩ : W6.cell? ⟨q0, 0, none⟩ = some (.slice p0 n cap) ∧ W6.cell? ⟨q0, 1, none⟩ = some (.int .i64 F) ∧ W6.cell? ⟨q0, 2, none⟩ = some (.int .i64 C) ∧ W6.cell? ⟨q0, 3, none⟩ = some (.int .i64 E) := by unfold World.cell?; rw [T06]; exact ⟨rfl, rfl, rfl, rfl⟩
    clear HT hB6
    obtain ⟨st, hst⟩ : ∃ st : ByteArray, st = ⟨(textS F C E ps).1.toArray⟩ := ⟨_, rfl⟩
    obtain ⟨ec, hec⟩ : ∃ ec, ec = (textS F C E ps).2 := ⟨_, rfl⟩
    rw [← hst, ← hec] at HR ⊢
    have Hst := Lib.hid hst
    have Hec := Lib.hid hec
    clear hst hec
    go_wp2_with (go_at_call 12; refine HR.out.mono ?_)
    rintro e_ W7 ⟨rfl, hB7⟩
    have hB07 := Lib.hid (hB06.out.trans (hB7.mono (by have := Hq0.out; omega)))
    have HL7 := Lib.hid (HLd.out.below hB07.out)
    have HA := Lib.hid (answers_c W7 HL7.out)
    have hz7 := hB7.size
    have T07 := (hB7.block q0 (by omega)).trans T06
    have T17 := (hB7.block (q0 + 1) (by omega)).trans T16
    have HUa7 := Lib.hid (u16a_below HUa6.out hB7)
    have HU7 := Lib.hid (u16s_below HU6.out hB7)
    clear HR hB7 d0 d1 d2 d3
    go_wp2_with (go_at_call 9; refine HA.out.mono ?_)
    rintro e_ W8 ⟨rfl, hB8⟩
    have hB08 := Lib.hid (hB07.out.trans (hB8.mono (by have := Hq0.out; omega)))
    have HL8 := Lib.hid (HLd.out.below hB08.out)
    have hz8 := hB8.size
    have T08 := (hB8.block q0 (by omega)).trans T07
    have T18 := (hB8.block (q0 + 1) (by omega)).trans T17
    have HUa8 := Lib.hid (u16a_below HUa7.out hB8)
    have HU8 := Lib.hid (u16s_below HU7.out hB8)
    have hsame : sameS F C E ps F C E ps = true := by unfold sameS; simp
    have HS := Lib.hid (same2_c (.slice x n x1) (.slice p0 n cap) F C E F C E ps ps W8 (by rw [HN.out]; omega) (by rw [HN.out]; omega) HU8.out HUa8.out)
    rw [hsame] at HS
    obtain ⟨d0, d1, d2, d3⟩ : W8.cell? ⟨q0, 0, none⟩ = some (.slice p0 n cap) ∧ W8.cell? ⟨q0, 1, none⟩ = some (.int .i64 F) ∧ W8.cell? ⟨q0, 2, none⟩ = some (.int .i64 C) ∧ W8.cell? ⟨q0, 3, none⟩ = some (.int .i64 E) := by unfold World.cell?; rw [T08]; exact ⟨rfl, rfl, rfl, rfl⟩
    obtain ⟨b0, b1, b2, b3⟩ : W8.cell? ⟨q0 + 1, 0, none⟩ = some (.slice x n x1) ∧ W8.cell? ⟨q0 + 1, 1, none⟩ = some (.int .i64 F) ∧ W8.cell? ⟨q0 + 1, 2, none⟩ = some (.int .i64 C) ∧ W8.cell? ⟨q0 + 1, 3, none⟩ = some (.int .i64 E) := by unfold World.cell?; rw [T18]; exact ⟨rfl, rfl, rfl, rfl⟩
    clear hB8 HA
    by_cases h0 : ec = 0
    · subst h0
      go_wp2_with (go_at_call 10; refine HS.out.mono ?_)
      rintro e_ W9 ⟨rfl, hB9⟩
      obtain ⟨f, c, e, rfl, rfl, rfl, hf, hc, he, hlen, hts⟩ : ∃ f' c' e' : Nat, F = f' ∧ C = c' ∧ E = e' ∧ f' ≤ 2147483647 ∧ c' ≤ 2147483647 ∧ e' ≤ 2147483647 ∧ (fullT f' c' e' ps).length ≤ 65536 ∧ textS F C E ps = (fullT f' c' e' ps, 0) := by
        have he0 := Hec.out
        rcases textS_cases F C E ps with h | h | h
        · rw [h] at he0; cases he0
        · rw [h] at he0; cases he0
        · exact h
      have hbst : bl st = fullT f c e ps := by rw [Hst.out, hts]; simp [bl]
      have hB09 := Lib.hid (hB08.out.trans (hB9.mono (by have := Hq0.out; omega)))
      have HL9 := Lib.hid (HLd.out.below hB09.out)
      have hz9 := hB9.size
      have T09 := (hB9.block q0 (by omega)).trans T08
      have HUa9 := Lib.hid (u16a_below HUa8.out hB9)
      have hpw := parse_walk st W9 HL9.out (by rw [← bl_len, hbst]; exact hlen)
      rw [hbst, go_full f c e ps hf hc he HP.out] at hpw
      have HPW := Lib.hid hpw
      clear hpw hB9 HS d0 d1 d2 d3 b0 b1 b2 b3 hbst hts hlen
      go_wp2_with (go_at_call 8; refine HPW.out.mono ?_)
      rintro e_ Wa ⟨⟨pv, rfl, hO⟩, hBa⟩
      have hUx := u16s_own hO
      obtain ⟨pa, pn, pc, rfl⟩ : ∃ a n c, pv = .slice a n c := by
        obtain ⟨p, c, h1, -⟩ := hUx
        exact ⟨_, _, _, h1⟩
      have hB0a := Lib.hid (hB09.out.trans (hBa.mono (by have := Hq0.out; omega)))
      have hza := hBa.size
      have T0a := (hBa.block q0 (by omega)).trans T09
      have HUaa := Lib.hid (u16a_below HUa9.out hBa)
      clear hBa hO
      obtain ⟨d0, d1, d2, d3⟩ : Wa.cell? ⟨q0, 0, none⟩ = some (.slice p0 n cap) ∧ Wa.cell? ⟨q0, 1, none⟩ = some (.int .i64 (f : Int)) ∧ Wa.cell? ⟨q0, 2, none⟩ = some (.int .i64 (c : Int)) ∧ Wa.cell? ⟨q0, 3, none⟩ = some (.int .i64 (e : Int)) := by unfold World.cell?; rw [T0a]; exact ⟨rfl, rfl, rfl, rfl⟩
      have hql : q0 < Wa.heap.size := by omega
      obtain ⟨Wb, hWb⟩ : ∃ Wb, Wb = Wa.alloc (.cells #[.slice pa pn pc, .int .i64 (f : Int), .int .i64 (c : Int), .int .i64 (e : Int)] 27) := ⟨_, rfl⟩
      have hBb : Below Wa.heap.size Wa Wb := by rw [hWb]; exact (Below.refl _ _).alloc (Nat.le_refl _) _
      have hUxb := u16s_below hUx hBb
      have hUab := u16a_below HUaa.out hBb
      have hpsl : ps.length ≤ 140737488355328 := by rw [HN.out]; omega
      have hsame2 : sameS (f : Int) (c : Int) (e : Int) ps (f : Int) (c : Int) (e : Int) ps = true := by unfold sameS; simp
      have HS2 := Lib.hid (same2_c (.slice pa pn pc) (.slice p0 n cap) (f : Int) (c : Int) (e : Int) (f : Int) (c : Int) (e : Int) ps ps Wb hpsl hpsl hUxb hUab)
      rw [hsame2, hWb] at HS2
      have hB0b := Lib.hid (hB0a.out.trans (hBb.mono (by have := Hq0.out; omega)))
      rw [hWb] at hB0b
      have hzz := hB0b.out.size
      clear hBb hUxb hUab hWb
      go_wp2_with (go_at_call 10; refine HS2.out.mono ?_)
      rintro e_ Wc ⟨rfl, hBc⟩
      go_wp2
      go_ret
      exact ⟨rfl, hB0b.out.trans (hBc.mono hzz)⟩
    · have h0b : (ec == 0) = false := beq_eq_false_iff_ne.2 h0
      have h0c : (ec != 0) = true := by rw [bne, h0b]; rfl
      go_wp2_with (go_at_call 10; refine HS.out.mono ?_)
      rintro e_ W9 ⟨rfl, hB9⟩
      go_wp2
      go_ret
      exact ⟨rfl, hB08.out.trans (hB9.mono (by have := Hq0.out; omega))⟩
end Go.Proofs.YthfnjphmodcnoaaDoor
