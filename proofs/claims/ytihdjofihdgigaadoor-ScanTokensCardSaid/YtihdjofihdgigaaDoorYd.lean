/- The walk of the law ScanBlanks. -/
import Derived.Test.YtihdjofihdgigaaDoorUm
import Derived.Test.YtihdjofihdgigaaDoorTi
import Derived.Test.YtihdjofihdgigaaDoorYb
namespace Go.Proofs.YtihdjofihdgigaaDoor
open Go.RowKit
set_option linter.unusedSimpArgs false
set_option linter.unusedVariables false

theorem cat_blank (m : Nat) (l : List UInt8) : ((⟨#[32]⟩ : ByteArray) ++ ⟨(List.replicate m 32 ++ l).toArray⟩) = ⟨(List.replicate (m + 1) 32 ++ l).toArray⟩ := by
  apply ByteArray.ext
  simp [List.replicate_succ]
/-- what Tokens hands back, its three values apart -/
def TokV (base : Nat) (R : LexR) (v : Value) (i c : Int) (w' : World) : Prop := match R with
  | .ok ts => i = 0 ∧ c = 0 ∧ w'.ownsRow base 31 4 v ts.length (flatT ts)
  | .error (p, e) => v = .slice none 0 0 ∧ i = p ∧ c = e
theorem tok_open {base : Nat} {R : LexR} {e : Ending} {w' : World} (h : TokPost base R e w') : ∃ v i c, e = .returned (.tuple #[v, .int .i64 i, .int .i64 c]) ∧ TokV base R v i c w' := by
  cases R with
  | ok ts =>
    obtain ⟨v, rfl, h1, -⟩ := h
    exact ⟨v, 0, 0, rfl, rfl, rfl, h1⟩
  | error pc =>
    obtain ⟨p, c⟩ := pc
    exact ⟨_, _, _, h, rfl, rfl, rfl⟩
theorem tokV_below {base : Nat} {R : LexR} {v : Value} {i c : Int} {a b : World} (h : TokV base R v i c a) (hb : Below a.heap.size a b) : TokV base R v i c b := by
  cases R with
  | ok ts => exact ⟨h.1, h.2.1, ownsRow_below h.2.2 hb⟩
  | error pc => exact h
set_option maxRecDepth 100000 in
set_option maxHeartbeats 2000000 in
theorem walkScanBlanks (s : ByteArray) (n0 : Int) (hs : s.size ≤ 1073741824) (h0 : 0 ≤ n0) (h255 : n0 ≤ 255) (w : World) (h : Laid w) :
    Calls Tryd.prog 8 #[.string s, .int .u8 n0] w fun e w' => e = .returned (.bool true) ∧ Below w.heap.size w w' := by
  obtain ⟨n, rfl⟩ : ∃ n : Nat, n0 = n := ⟨n0.toNat, by omega⟩
  have HA := Lib.hid (fun w1 h1 => answers_c w1 h1)
  have HT := Lib.hid (fun s w1 h1 => tokens_c s w1 h1)
  have HP := Lib.hid (tokens_pad (n % 9) (bl s))
  have HPB := Lib.hid (tokens_pb (bl s))
  have HL := Lib.hid (bl_len s)
  have HS := Lib.hid (mk_bl s)
  have hk9 : n % 9 < 9 := Nat.mod_lt _ (by omega)
  have T1 := Lib.hid (tokens_c s w h (by unfold maxLen; omega))
  go_enter Tryd.func8, Tryd.ntmps8
  go_wp2_with fail
  refine T1.out.mono ?_
  rintro e w1 ⟨hp, hw1⟩
  obtain ⟨v, i, c, rfl, hv⟩ := tok_open hp
  have hl1 := h.below hw1
  clear hp T1 h
  generalize hl : bl s = l at *
  generalize hkk : n % 9 = k at *
  have hkn : ((n : Int) % 9) = (k : Int) := by omega
  clear hkk
  have hls : l.length = s.size := HL.out
  have hst : s = ⟨(List.replicate 0 32 ++ l).toArray⟩ := HS.out.symm
  have HST := Lib.hid hst
  clear hst HL HS hl h0 h255
  go_wp2
  go_loopw [9, 10] (fun t j wr => ∃ m : Nat, m ≤ k ∧ j = .int .i64 m ∧ t = .string ⟨(List.replicate m 32 ++ l).toArray⟩ ∧ wr = w1) (fun _ j _ => k - (intOf j).toNat)
  case atStart => exact ⟨0, Nat.zero_le _, rfl, congrArg Value.string HST.out, rfl⟩
  case round =>
    obtain ⟨m, hm, rfl, rfl, rfl⟩ := hrel
    by_cases hlt : m < k
    · have HC := Lib.hid (cat_blank m l)
      have hlm : (List.replicate m (32 : UInt8) ++ l).length ≤ 1073741832 := by simp; omega
      generalize hg : (List.replicate m (32 : UInt8) ++ l) = lm at *
      clear hg
      go_wp2
      exact ⟨⟨m + 1, by omega, by go_num, by rw [HC.out], trivial⟩, by simp [intOf]; omega⟩
    · obtain rfl : m = k := by omega
      clear hlt hm
      have hlen : (List.replicate m (32 : UInt8) ++ l).length = m + l.length := by simp
      have HBL := Lib.hid (bl_mk (List.replicate m (32 : UInt8) ++ l))
      generalize (List.replicate m (32 : UInt8) ++ l) = lt at *
      go_wp2_with fail
      refine (HA.out _ hl1).mono ?_
      rintro e w2 ⟨rfl, hw2⟩
      have hl2 := hl1.below hw2
      have hv2 := tokV_below hv hw2
      have hB2 := below_two hw1 hw2
      clear hv hw1 hw2 hl1
      by_cases hbig : 65536 ≤ lt.length
      · have hb1 : decide ((65536 : Int) ≤ (lt.length : Int)) = true := decide_eq_true (by omega)
        clear hbig hlen hls hs hkn hk9
        go_wp2_with fail
        refine (HA.out _ hl2).mono ?_
        rintro e w3 ⟨rfl, hw3⟩
        go_wp2
        go_ret
        exact ⟨rfl, below_two hB2 hw3⟩
      · have hb1 : decide ((65536 : Int) ≤ (lt.length : Int)) = false := decide_eq_false (by omega)
        have HTT := Lib.hid (HT.out ⟨lt.toArray⟩ w2 hl2 (by show lt.toArray.size ≤ maxLen; unfold maxLen; simp; omega))
        have HSUM := Lib.hid (show l.length + m < 65536 by omega)
        clear hbig hlen hls hs
        go_wp2_with fail
        refine HTT.out.mono ?_
        rintro e w3 ⟨hp3, hw3⟩
        rw [HBL.out, HP.out HSUM.out] at hp3
        obtain ⟨v3, i3, c3, rfl, hv3⟩ := tok_open hp3
        have hv4 := tokV_below hv2 hw3
        have hB3 := below_two hB2 hw3
        clear hv2 hp3 HTT HT HA hB2 hw3
        cases hR : tokensP l with
        | error pc =>
          obtain ⟨p, cc⟩ := pc
          rw [hR] at hv4 hv3 HPB
          obtain ⟨rfl, rfl, rfl⟩ := hv4
          obtain ⟨rfl, rfl, rfl⟩ := hv3
          have hp : p ≤ 65536 := HPB.out
          have hcc : (c3 != 0) = true := by simpa using tokens_err _ _ _ hR
          clear hR HPB hb1
          go_wp2
          go_loopw [14] (fun j wr => j = .int .i64 0 ∧ Below w3.heap.size w3 wr) (fun _ _ => 0)
          case atStart => exact ⟨rfl, Below.refl _ _⟩
          case round =>
            obtain ⟨rfl, hwr⟩ := hrel
            go_wp2
            go_ret
            exact ⟨rfl, below_two hB3 hwr⟩
        | ok ts =>
          rw [hR] at hv4 hv3 HPB
          obtain ⟨rfl, rfl, ho1⟩ := hv4
          obtain ⟨rfl, rfl, ho3⟩ := hv3
          have hn1 := len_own ho1
          have hn3 := len_own ho3
          rw [List.length_map] at hn3
          have h16 := tokens_len _ ts hR
          clear hR hb1
          go_wp2
          go_loopw [14] (fun j wr => ∃ q : Nat, q ≤ ts.length ∧ j = .int .i64 q ∧ Below w3.heap.size w3 wr) (fun j _ => ts.length - (intOf j).toNat)
          case atStart => exact ⟨0, Nat.zero_le _, rfl, Below.refl _ _⟩
          case round =>
            obtain ⟨q, hq, rfl, hwr⟩ := hrel
            by_cases hlt : q < ts.length
            · have hne : ts ≠ [] := by rintro rfl; simp at hlt
              have hne3 : ts.map (shT m) ≠ [] := by simpa using hne
              obtain ⟨g, cap, rfl, -, hgs, hcell⟩ := own_cells ho1 hne
              obtain ⟨g3, cap3, rfl, -, hgs3, hcell3⟩ := own_cells ho3 hne3
              obtain ⟨a0, a1, a2, a3⟩ := hcell q hlt
              obtain ⟨b0, b1, b2, b3⟩ := hcell3 q (by simpa using hlt)
              simp only [List.getElem_map, shT] at b0 b1 b2 b3
              obtain ⟨hwc, -⟩ := bcell hwr
              have e0 := (hwc _ (q * 4) hgs).trans a0
              have e1 := (hwc _ (q * 4 + 1) hgs).trans a1
              have e2 := (hwc _ (q * 4 + 2) hgs).trans a2
              have e3 := (hwc _ (q * 4 + 3) hgs).trans a3
              have f0 := (hwc _ (q * 4) hgs3).trans b0
              have f1 := (hwc _ (q * 4 + 1) hgs3).trans b1
              have f2 := (hwc _ (q * 4 + 2) hgs3).trans b2
              have f3 := (hwc _ (q * 4 + 3) hgs3).trans b3
              have hpl : (ts[q]).place ≤ 65536 := HPB.out _ (List.getElem_mem hlt)
              have hgw : g < wr.heap.size := Nat.lt_of_lt_of_le hgs hwr.size
              have hgw3 : g3 < wr.heap.size := Nat.lt_of_lt_of_le hgs3 hwr.size
              clear a0 a1 a2 a3 b0 b1 b2 b3 hcell hcell3 hwc HPB hne hne3
              generalize ts[q] = t at *
              obtain ⟨kind, text, num, place⟩ := t
              simp only [] at e0 e1 e2 e3 f0 f1 f2 f3 hpl
              have hq1 : (q : Int) < (ts.length : Int) := by omega
              rw [List.length_map] at *
              go_wp2
              have hBn : Below w3.heap.size w3 (wr.alloc (.cells #[.int .i64 kind, .string ⟨text.toArray⟩, .int .u64 num, .int .i64 (place : Int)] 31)) := Below.alloc hwr hwr.size _
              go_quiet (fail)
              have hBq := below_dn hBn nq
              generalize World.drewN _ nq = W9 at *
              go_wp2
              exact ⟨⟨q + 1, by omega, by go_num, hBq⟩, by simp [intOf]; omega⟩
            · obtain rfl : q = ts.length := by omega
              go_wp2
              go_ret
              exact ⟨rfl, below_two hB3 hwr⟩
end Go.Proofs.YtihdjofihdgigaaDoor
