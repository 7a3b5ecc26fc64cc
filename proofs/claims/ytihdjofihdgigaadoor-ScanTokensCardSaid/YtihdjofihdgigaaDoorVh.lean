/- Contract of the reference's Tokens: the tokens of a text, or its first fault. -/
import Derived.Test.YtihdjofihdgigaaDoorVf
import Derived.Test.YtihdjofihdgigaaDoorVg
import Derived.Test.YtihdjofihdgigaaDoorYe
namespace Go.Proofs.YtihdjofihdgigaaDoor
open Go.RowKit
set_option linter.unusedSimpArgs false
set_option linter.unusedVariables false

theorem line_at (l : List UInt8) (j : Nat) (h : j < lineLen l) : ∃ b, l[j]? = some b ∧ b ≠ 10 := by
  unfold lineLen at h
  have hp : l.takeWhile (· != 10) <+: l := List.takeWhile_prefix _
  have hm := mem_tw (q := fun x => x != 10) l (List.getElem_mem h)
  refine ⟨(l.takeWhile (· != 10))[j], ?_, by simpa using hm⟩
  obtain ⟨t, ht⟩ := hp
  conv => lhs; rw [← ht]
  rw [List.getElem?_append_left h, List.getElem?_eq_getElem h]
theorem line_end (l : List UInt8) : lineLen l = l.length ∨ l[lineLen l]? = some 10 := by
  have hd := drop_line l
  cases h : l.drop (lineLen l) with
  | nil =>
    rw [List.drop_eq_nil_iff] at h
    have := line_le l
    exact .inl (by omega)
  | cons b m =>
    right
    rw [hd] at h
    have hb := head_not (fun x : UInt8 => x != 10) l b m h
    have hb10 : b = 10 := by simpa using hb
    rw [← hd] at h
    have : (l.drop (lineLen l))[0]? = some b := by rw [h]; rfl
    rw [List.getElem?_drop] at this
    rw [← hb10]; simpa using this
/-- where the reference stands in a text -/
def LexS (L : List UInt8) (pos : Nat) (opn : Bool) (ts : List Tok) : Prop := (pos ≤ L.length ∧ preR ts (lex (L.drop pos) pos opn ts.length) = lex L 0 false 0) ∨ (pos = L.length + 1 ∧ lex L 0 false 0 = .ok ts)
theorem lexS_in {L : List UInt8} {pos : Nat} {opn : Bool} {ts : List Tok} (h : LexS L pos opn ts) (hp : pos ≤ L.length) : preR ts (lex (L.drop pos) pos opn ts.length) = lex L 0 false 0 := by
  rcases h with h | h
  · exact h.2
  · omega
theorem lexS_out {L : List UInt8} {pos : Nat} {opn : Bool} {ts : List Tok} (h : LexS L pos opn ts) (hp : ¬ pos ≤ L.length) : lex L 0 false 0 = .ok ts := by
  rcases h with h | h
  · exact absurd h.1 hp
  · exact h.2
def RTok (base : Nat) (R : LexR) (e : Ending) (w' : World) : Prop := ∃ v i c, e = .returned (.tuple #[v, .int .i64 i, .int .i64 c]) ∧ TokV base R v i c w'
set_option maxRecDepth 100000 in
set_option maxHeartbeats 8000000 in
theorem rtokens_walk (s : ByteArray) (w : World) (hs : s.size ≤ 65536) (hv : wholeL (bl s) = s.size) :
    Calls Tryd.prog 11 #[.string s] w fun e w' => RTok w.heap.size (lex (bl s) 0 false 0) e w' ∧ Below w.heap.size w w' := by
  obtain ⟨i0, hi, hz0, hz1, hz2⟩ := info_parts Tryd.infoTok
  have hwh := rbroken_any s w (by omega)
  rw [hv] at hwh
  have HWH := Lib.hid hwh
  have hs1 : (s.size : Int) ≤ 65536 := by omega
  have hs2 : decide ((65536 : Int) < (s.size : Int)) = false := by rw [decide_eq_false_iff_not]; omega
  have HI := Lib.hid hi
  have HL := Lib.hid (bl_len s)
  clear hi hwh hv
  go_enter Tryd.func11, Tryd.ntmps11
  go_wp2_with fail
  refine HWH.out.mono ?_
  rintro e w1 ⟨rfl, hw1⟩
  clear HWH
  go_wp2
  go_loopw [5, 6, 7] (fun v op at_ wr => ∃ (ts : List Tok) (opn : Bool) (pos : Nat), op = .bool opn ∧ at_ = .int .i64 pos ∧ pos ≤ s.size + 1 ∧ wr.ownsRow w1.heap.size 31 4 v ts.length (flatT ts) ∧ Below w1.heap.size w1 wr ∧ ts.length ≤ 16384 ∧ Hid (LexS (bl s) pos opn ts)) (fun _ _ at_ _ => s.size + 2 - (intOf at_).toNat)
  case atStart => exact ⟨[], false, 0, rfl, rfl, by omega, World.ownsRow_nil _ _ _ _, Below.refl _ _, by simp, Lib.hid (.inl ⟨Nat.zero_le _, preR_nil _⟩)⟩
  case round =>
    obtain ⟨ts, opn, pos, rfl, rfl, hpos, hown, hwr, hts, HLEX⟩ := hrel
    have hlen := len_own hown
    by_cases hin : pos ≤ s.size
    · have hx := lexS_in HLEX.out (by rw [HL.out]; exact hin)
      have hq0 : (pos : Int) ≤ (s.size : Int) := by omega
      have hq0b : decide ((pos : Int) ≤ (s.size : Int)) = true := decide_eq_true hq0
      clear HLEX
      by_cases hend0 : pos = s.size
      · have hdr : (bl s).drop pos = [] := by rw [List.drop_eq_nil_iff, HL.out]; omega
        have hq : ((pos : Int) == (s.size : Int)) = true := by rw [hend0]; simp
        have hend := Lib.hid hend0
        clear hend0
        rw [hdr, lex_nil] at hx
        cases opn
        · simp only [Bool.false_eq_true, if_false] at hx
          have HX := Lib.hid hx
          clear hx hdr
          go_wp2
          go_roundw
          case rel => exact ⟨ts, false, pos + 1, rfl, by go_num, by omega, hown, hwr, hts, Lib.hid (.inr ⟨by rw [HL.out, hend.out], by rw [← HX.out]; simp [preR]⟩)⟩
          case measure => simp [intOf]; omega
        · simp only [if_true] at hx
          by_cases hfull : 16384 ≤ ts.length
          · rw [if_pos hfull] at hx
            have HX := Lib.hid hx
            have hf2 : ((ts.length : Int) == 16384) = true := by rw [beq_iff_eq]; omega
            clear hx hdr hfull
            go_wp2
            go_ret3
            exact ⟨⟨_, _, _, rfl, by rw [← HX.out]; exact ⟨rfl, rfl, rfl⟩⟩, below_two hw1 hwr⟩
          · rw [if_neg hfull] at hx
            have HX := Lib.hid hx
            have hf2 : ((ts.length : Int) == 16384) = false := by rw [beq_eq_false_iff_ne]; omega
            have HFULL := Lib.hid hfull
            clear hx hdr hfull
            go_wp2_with (first | (at_builtin; refine wpList_append_own _ rfl _ _ 22 rfl w1.heap.size 31 i0 (.agg #[.int .i64 0, .string ⟨#[]⟩, .int .u64 0, .int .i64 0]) 4 40 Tryd.underlying22 HI.out hz0 hz1 hz2 rfl (by decide) _ _ _ rfl (hown.alloc _) ⟨wr.heap.size, 0, none⟩ 1 1 (tokCells (semiTok pos)) rfl rfl (cell_tok_new _ (semiTok pos) _) (tok_one _) (by unfold maxLen; omega) (by omega) (by have := hwr.size; simp; omega) ?_; intro v4 w4 hown4 hgrow4 hnil4; have hB4 : Below w1.heap.size w1 w4 := Below.grown (hwr.alloc hwr.size _) hgrow4 (by have := hwr.size; simp; omega) (fun j hj => by have := (hown.lt _ hj).1; omega); have hlen4 := len_own hown4; clear hgrow4 hnil4))
            go_roundw
            case rel => exact ⟨ts ++ [semiTok pos], false, pos + 1, rfl, by go_num, by omega, (by rw [List.length_append, flatT_snoc]; exact hown4), hB4, by have := HFULL.out; simp; omega, Lib.hid (.inr ⟨by rw [HL.out, hend.out], by rw [← HX.out]; rfl⟩)⟩
            case measure => simp [intOf]; omega
      · have hlt : pos < s.size := by omega
        have hq : ((pos : Int) == (s.size : Int)) = false := by rw [beq_eq_false_iff_ne]; omega
        have hlti : (pos : Int) < (s.size : Int) := by omega
        have hda := drop_at s pos hlt
        have B := Lib.hid (fun c n hn => byte_is s[pos] c n hn)
        by_cases hb : s[pos] = 10
        · have hdr : (bl s).drop pos = 10 :: (bl s).drop (pos + 1) := by rw [hda, hb]
          have hq2 : ((s[pos].toNat : Int) == 10) = true := by rw [B.out 10 10 rfl, hb]; rfl
          clear hda B hb hend0
          rw [hdr, lex_line] at hx
          cases opn
          · simp only [Bool.false_eq_true, if_false] at hx
            have HX := Lib.hid hx
            clear hx hdr
            go_wp2
            go_roundw
            case rel => exact ⟨ts, false, pos + 1, rfl, by go_num, by omega, hown, hwr, hts, Lib.hid (.inl ⟨by rw [HL.out]; omega, HX.out⟩)⟩
            case measure => simp [intOf]; omega
          · simp only [if_true] at hx
            by_cases hfull : 16384 ≤ ts.length
            · rw [if_pos hfull] at hx
              have HX := Lib.hid hx
              have hf2 : ((ts.length : Int) == 16384) = true := by rw [beq_iff_eq]; omega
              clear hx hdr hfull
              go_wp2
              go_ret3
              exact ⟨⟨_, _, _, rfl, by rw [← HX.out]; exact ⟨rfl, rfl, rfl⟩⟩, below_two hw1 hwr⟩
            · rw [if_neg hfull] at hx
              have HX := Lib.hid hx
              have hf2 : ((ts.length : Int) == 16384) = false := by rw [beq_eq_false_iff_ne]; omega
              have HFULL := Lib.hid hfull
              clear hx hdr hfull
              go_wp2_with (first | (at_builtin; refine wpList_append_own _ rfl _ _ 22 rfl w1.heap.size 31 i0 (.agg #[.int .i64 0, .string ⟨#[]⟩, .int .u64 0, .int .i64 0]) 4 40 Tryd.underlying22 HI.out hz0 hz1 hz2 rfl (by decide) _ _ _ rfl (hown.alloc _) ⟨wr.heap.size, 0, none⟩ 1 1 (tokCells (semiTok pos)) rfl rfl (cell_tok_new _ (semiTok pos) _) (tok_one _) (by unfold maxLen; omega) (by omega) (by have := hwr.size; simp; omega) ?_; intro v4 w4 hown4 hgrow4 hnil4; have hB4 : Below w1.heap.size w1 w4 := Below.grown (hwr.alloc hwr.size _) hgrow4 (by have := hwr.size; simp; omega) (fun j hj => by have := (hown.lt _ hj).1; omega); have hlen4 := len_own hown4; clear hgrow4 hnil4))
              go_roundw
              case rel => exact ⟨ts ++ [semiTok pos], false, pos + 1, rfl, by go_num, by omega, (by rw [List.length_append, flatT_snoc]; exact hown4), hB4, by have := HFULL.out; simp; omega, Lib.hid (.inl ⟨by rw [HL.out]; omega, by have h1 := HX.out; rw [preR_cons] at h1; rw [List.length_append]; exact h1⟩)⟩
              case measure => simp [intOf]; omega
        · have hq2 : ((s[pos].toNat : Int) == 10) = false := by rw [B.out 10 10 rfl]; simpa using hb
          cases hbk : isBlank s[pos]
          · have h9 : ((s[pos].toNat : Int) == 9) = false := by
              rw [B.out 9 9 rfl]; unfold isBlank at hbk; simp only [Bool.or_eq_false_iff] at hbk; exact hbk.1.1
            have h13 : ((s[pos].toNat : Int) == 13) = false := by
              rw [B.out 13 13 rfl]; unfold isBlank at hbk; simp only [Bool.or_eq_false_iff] at hbk; exact hbk.1.2
            have h32 : ((s[pos].toNat : Int) == 32) = false := by
              rw [B.out 32 32 rfl]; unfold isBlank at hbk; simp only [Bool.or_eq_false_iff] at hbk; exact hbk.2
            have hst : isRemark ((bl s).drop pos) = false → starts ((bl s).drop pos) = true := by
              intro hr
              rw [hda] at hr ⊢
              simp [starts, hb, hbk, hr]
            by_cases h47 : s[pos] = 47
            · have h47b : ((s[pos].toNat : Int) == 47) = true := by rw [B.out 47 47 rfl, h47]; rfl
              by_cases hp1 : pos + 1 < s.size
              · have hda1 := drop_at s (pos + 1) hp1
                have hp1i : (pos : Int) + 1 < (s.size : Int) := by omega
                have hp1b : decide ((pos : Int) + 1 < (s.size : Int)) = true := decide_eq_true hp1i
                have hp1n : ((pos : Int) + 1).toNat = pos + 1 := by omega
                by_cases h472 : s[pos + 1] = 47
                · have h472b : ((s[pos + 1].toNat : Int) == 47) = true := by rw [byte_is s[pos + 1] 47 47 rfl, h472]; rfl
                  have hrm : isRemark ((bl s).drop pos) = true := by rw [hda, hda1, h47, h472]; rfl
                  rw [lex_remark _ _ _ _ hrm, List.drop_drop] at hx
                  have hla := line_at ((bl s).drop pos)
                  have hle := line_end ((bl s).drop pos)
                  have hll := line_le ((bl s).drop pos)
                  rw [List.length_drop, HL.out] at hll hle
                  have hl2 : 0 < lineLen ((bl s).drop pos) := by rw [hda]; exact lineLen_pos _ _ hb
                  have HX := Lib.hid hx
                  have HLA := Lib.hid hla
                  have HLE := Lib.hid hle
                  clear hx hla hle hrm hda hda1 h472 h47 hb B hbk hst hend0
                  generalize hgl : lineLen ((bl s).drop pos) = n at *
                  have HGL := Lib.hid hgl
                  clear hgl
                  go_wp2
                  go_loopw [7] (fun a wi => ∃ j : Nat, j ≤ n ∧ a = .int .i64 ((pos + j : Nat) : Int) ∧ wi = wr) (fun a _ => pos + n - (intOf a).toNat)
                  case atStart => exact ⟨0, Nat.zero_le _, rfl, rfl⟩
                  case round =>
                    obtain ⟨j, hj, rfl, rfl⟩ := hrel
                    obtain ⟨q, hqj⟩ : ∃ q, q = pos + j := ⟨_, rfl⟩
                    rw [← hqj]
                    by_cases hjn : j < n
                    · obtain ⟨b, hb1, hb2⟩ := HLA.out j hjn
                      rw [List.getElem?_drop, ← hqj] at hb1
                      have hqs : q < s.size := by
                        have := (List.getElem?_eq_some_iff.1 hb1).1; rw [HL.out] at this; exact this
                      rw [at_bl s q hqs] at hb1
                      have hsb : s[q] = b := Option.some.inj hb1
                      have hq10 : ((s[q].toNat : Int) != 10) = true := by
                        rw [bne_iff_ne]; intro e; apply hb2; rw [← hsb]; apply UInt8.toNat_inj.1; show _ = 10; omega
                      have hqi : (q : Int) < (s.size : Int) := by omega
                      have hqb : decide ((q : Int) < (s.size : Int)) = true := decide_eq_true hqi
                      have HQ := Lib.hid hqj
                      clear hb1 hb2 hsb hqj
                      go_wp2
                      exact ⟨⟨j + 1, by omega, by rw [← Nat.add_assoc, ← HQ.out]; go_num, trivial⟩, by have := HQ.out; simp [intOf]; omega⟩
                    · obtain rfl : j = n := by omega
                      by_cases hqs : q < s.size
                      · have hq10 : ((s[q].toNat : Int) != 10) = false := by
                          rcases HLE.out with h | h
                          · omega
                          · rw [List.getElem?_drop, ← hqj, at_bl s q hqs] at h
                            have hsb : s[q] = 10 := Option.some.inj h
                            rw [hsb]; rfl
                        have hqi : (q : Int) < (s.size : Int) := by omega
                        have hqb : decide ((q : Int) < (s.size : Int)) = true := decide_eq_true hqi
                        have HQ := Lib.hid hqj
                        have hpq : pos < q := by omega
                        have hqle : q ≤ s.size := by omega
                        clear hqj
                        go_wp2
                        exact ⟨⟨ts, opn, q, rfl, rfl, by omega, hown, hwr, hts, Lib.hid (.inl ⟨by rw [HL.out]; omega, by rw [HQ.out]; exact HX.out⟩)⟩, by simp [intOf]; omega⟩
                      · have hqi : ¬ (q : Int) < (s.size : Int) := by omega
                        have hqb : decide ((q : Int) < (s.size : Int)) = false := decide_eq_false hqi
                        have HQ := Lib.hid hqj
                        have hpq : pos < q := by omega
                        have hqle : q ≤ s.size := by omega
                        clear hqj
                        go_wp2
                        exact ⟨⟨ts, opn, q, rfl, rfl, by omega, hown, hwr, hts, Lib.hid (.inl ⟨by rw [HL.out]; omega, by rw [HQ.out]; exact HX.out⟩)⟩, by simp [intOf]; omega⟩
                · have h472b : ((s[pos + 1].toNat : Int) == 47) = false := by rw [byte_is s[pos + 1] 47 47 rfl]; simpa using h472
                  have hst2 := hst (by rw [hda, hda1, h47]; simp [isRemark, List.isPrefixOf, Ne.symm h472])
                  clear hda1 h472
                  rw [lex_tok _ _ _ _ hst2] at hx
                  have ho := rnext_any s pos wr hs hlt
                  have hof := one_fits ((bl s).drop pos) pos
                  rw [List.length_drop, HL.out] at hof
                  have hop := one_pos ((bl s).drop pos) pos (by intro e; rw [e] at hst2; cases hst2)
                  unfold NextPost at ho
                  clear hda B hst hst2 hbk hb h47
                  generalize oneP ((bl s).drop pos) pos = r at *
                  obtain ⟨t0, k, er⟩ := r
                  simp only [] at hx ho hof hop
                  have HO := Lib.hid ho
                  have HOP := Lib.hid hop
                  have HXX := Lib.hid hx
                  clear ho hop hx
                  go_wp2_with fail
                  refine HO.out.mono ?_
                  rintro e w3 ⟨⟨t, en, rfl, hte⟩, hw3⟩
                  have hown3 := ownsRow_below hown hw3
                  have hB3 := below_two hwr hw3
                  have hB3s := hB3.size
                  clear hown hw3 HO
                  by_cases her : er = 0
                  · obtain ⟨rfl, rfl⟩ := hte her
                    have hk1 := HOP.out her
                    have hx := HXX.out
                    rw [if_neg (by rw [her]; simp)] at hx
                    have herb : (er == 0) = true := by rw [her]; rfl
                    have herb2 : (er != 0) = false := by rw [her]; rfl
                    clear her hte HOP HXX
                    obtain ⟨kind, text, num, place⟩ := t
                    unfold tokV
                    by_cases hfull : 16384 ≤ ts.length
                    · rw [if_pos hfull] at hx
                      have HX := Lib.hid hx
                      have hf2 : ((ts.length : Int) == 16384) = true := by rw [beq_iff_eq]; omega
                      clear hx hfull
                      go_wp2
                      go_ret3
                      exact ⟨⟨_, _, _, rfl, by rw [← HX.out]; exact ⟨rfl, rfl, rfl⟩⟩, below_two hw1 (hB3.alloc hB3.size _)⟩
                    · rw [if_neg hfull, preR_cons] at hx
                      have HX := Lib.hid hx
                      have hf2 : ((ts.length : Int) == 16384) = false := by rw [beq_eq_false_iff_ne]; omega
                      have HFULL := Lib.hid hfull
                      clear hx hfull
                      go_wp2_with (first | (at_builtin; refine wpList_append_own _ rfl _ _ 22 rfl w1.heap.size 31 i0 (.agg #[.int .i64 0, .string ⟨#[]⟩, .int .u64 0, .int .i64 0]) 4 40 Tryd.underlying22 HI.out hz0 hz1 hz2 rfl (by decide) _ _ _ rfl ((hown3.alloc _).alloc _) ⟨w3.heap.size + 1, 0, none⟩ 1 1 (tokCells ⟨kind, text, num, place⟩) rfl rfl (cell_tok_at (w3.alloc _) _ (by simp) ⟨kind, text, num, place⟩ _) (tok_one _) (by unfold maxLen; omega) (by omega) (by have := hB3.size; simp; omega) ?_; intro v4 w4 hown4 hgrow4 hnil4; have hB4 : Below w1.heap.size w1 w4 := Below.grown ((hB3.alloc hB3.size _).alloc (by have := hB3.size; simp; omega) _) hgrow4 (by have := hB3.size; simp; omega) (fun j hj => by have := (hown3.lt _ hj).1; omega); have hlen4 := len_own hown4; have hnr : some w3.heap.size ≠ Value.ownBlock _ := (fun e => absurd (hown3.lt _ e.symm).2 (Nat.lt_irrefl _)); have k0 : w4.cell? ⟨w3.heap.size, 0, none⟩ = some (.int .i64 kind) := hgrow4.cell (by go_simp) hnr; have k1 : w4.cell? ⟨w3.heap.size, 1, none⟩ = some (.string ⟨text.toArray⟩) := hgrow4.cell (by go_simp) hnr; have k2 : w4.cell? ⟨w3.heap.size, 2, none⟩ = some (.int .u64 num) := hgrow4.cell (by go_simp) hnr; have k3 : w4.cell? ⟨w3.heap.size, 3, none⟩ = some (.int .i64 (place : Int)) := hgrow4.cell (by go_simp) hnr; clear hgrow4 hnil4 hnr))
                      refine (rcloses_any ⟨kind, text, num, place⟩ _).mono ?_
                      rintro e w5 ⟨rfl, hw5⟩
                      have hown5 := ownsRow_below hown4 hw5
                      have hB5 := below_two hB4 hw5
                      clear hown4 hw5 hB4 k0 k1 k2 k3
                      go_wp2
                      go_roundw
                      case rel => exact ⟨ts ++ [⟨kind, text, num, place⟩], closesP ⟨kind, text, num, place⟩, pos + k, rfl, by go_num, by omega, (by rw [List.length_append, flatT_snoc]; exact hown5), hB5, by have := HFULL.out; simp; omega, Lib.hid (.inl ⟨by rw [HL.out]; omega, by rw [List.length_append, ← HX.out, List.drop_drop]; rfl⟩)⟩
                      case measure => simp [intOf]; omega
                  · have hx := HXX.out
                    rw [if_pos her] at hx
                    have HX := Lib.hid hx
                    have herb : (er == 0) = false := by simpa using her
                    have herb2 : (er != 0) = true := by simpa using her
                    clear her hx hte HOP HXX
                    obtain ⟨kind, text, num, place⟩ := t
                    unfold tokV
                    go_wp2
                    go_ret3
                    exact ⟨⟨_, _, _, rfl, by rw [← HX.out]; exact ⟨rfl, rfl, rfl⟩⟩, below_two hw1 (hB3.alloc hB3.size _)⟩
              · have hp1i : ¬ (pos : Int) + 1 < (s.size : Int) := by omega
                have hp1b : decide ((pos : Int) + 1 < (s.size : Int)) = false := decide_eq_false hp1i
                have hst2 := hst (by
                  rw [hda, h47, show (bl s).drop (pos + 1) = [] by rw [List.drop_eq_nil_iff, HL.out]; omega]; rfl)
                rw [lex_tok _ _ _ _ hst2] at hx
                have ho := rnext_any s pos wr hs hlt
                have hof := one_fits ((bl s).drop pos) pos
                rw [List.length_drop, HL.out] at hof
                have hop := one_pos ((bl s).drop pos) pos (by intro e; rw [e] at hst2; cases hst2)
                unfold NextPost at ho
                clear hda B hst hst2 hbk hb h47
                generalize oneP ((bl s).drop pos) pos = r at *
                obtain ⟨t0, k, er⟩ := r
                simp only [] at hx ho hof hop
                have HO := Lib.hid ho
                have HOP := Lib.hid hop
                have HXX := Lib.hid hx
                clear ho hop hx
                go_wp2_with fail
                refine HO.out.mono ?_
                rintro e w3 ⟨⟨t, en, rfl, hte⟩, hw3⟩
                have hown3 := ownsRow_below hown hw3
                have hB3 := below_two hwr hw3
                have hB3s := hB3.size
                clear hown hw3 HO
                by_cases her : er = 0
                · obtain ⟨rfl, rfl⟩ := hte her
                  have hk1 := HOP.out her
                  have hx := HXX.out
                  rw [if_neg (by rw [her]; simp)] at hx
                  have herb : (er == 0) = true := by rw [her]; rfl
                  have herb2 : (er != 0) = false := by rw [her]; rfl
                  clear her hte HOP HXX
                  obtain ⟨kind, text, num, place⟩ := t
                  unfold tokV
                  by_cases hfull : 16384 ≤ ts.length
                  · rw [if_pos hfull] at hx
                    have HX := Lib.hid hx
                    have hf2 : ((ts.length : Int) == 16384) = true := by rw [beq_iff_eq]; omega
                    clear hx hfull
                    go_wp2
                    go_ret3
                    exact ⟨⟨_, _, _, rfl, by rw [← HX.out]; exact ⟨rfl, rfl, rfl⟩⟩, below_two hw1 (hB3.alloc hB3.size _)⟩
                  · rw [if_neg hfull, preR_cons] at hx
                    have HX := Lib.hid hx
                    have hf2 : ((ts.length : Int) == 16384) = false := by rw [beq_eq_false_iff_ne]; omega
                    have HFULL := Lib.hid hfull
                    clear hx hfull
                    go_wp2_with (first | (at_builtin; refine wpList_append_own _ rfl _ _ 22 rfl w1.heap.size 31 i0 (.agg #[.int .i64 0, .string ⟨#[]⟩, .int .u64 0, .int .i64 0]) 4 40 Tryd.underlying22 HI.out hz0 hz1 hz2 rfl (by decide) _ _ _ rfl ((hown3.alloc _).alloc _) ⟨w3.heap.size + 1, 0, none⟩ 1 1 (tokCells ⟨kind, text, num, place⟩) rfl rfl (cell_tok_at (w3.alloc _) _ (by simp) ⟨kind, text, num, place⟩ _) (tok_one _) (by unfold maxLen; omega) (by omega) (by have := hB3.size; simp; omega) ?_; intro v4 w4 hown4 hgrow4 hnil4; have hB4 : Below w1.heap.size w1 w4 := Below.grown ((hB3.alloc hB3.size _).alloc (by have := hB3.size; simp; omega) _) hgrow4 (by have := hB3.size; simp; omega) (fun j hj => by have := (hown3.lt _ hj).1; omega); have hlen4 := len_own hown4; have hnr : some w3.heap.size ≠ Value.ownBlock _ := (fun e => absurd (hown3.lt _ e.symm).2 (Nat.lt_irrefl _)); have k0 : w4.cell? ⟨w3.heap.size, 0, none⟩ = some (.int .i64 kind) := hgrow4.cell (by go_simp) hnr; have k1 : w4.cell? ⟨w3.heap.size, 1, none⟩ = some (.string ⟨text.toArray⟩) := hgrow4.cell (by go_simp) hnr; have k2 : w4.cell? ⟨w3.heap.size, 2, none⟩ = some (.int .u64 num) := hgrow4.cell (by go_simp) hnr; have k3 : w4.cell? ⟨w3.heap.size, 3, none⟩ = some (.int .i64 (place : Int)) := hgrow4.cell (by go_simp) hnr; clear hgrow4 hnil4 hnr))
                    refine (rcloses_any ⟨kind, text, num, place⟩ _).mono ?_
                    rintro e w5 ⟨rfl, hw5⟩
                    have hown5 := ownsRow_below hown4 hw5
                    have hB5 := below_two hB4 hw5
                    clear hown4 hw5 hB4 k0 k1 k2 k3
                    go_wp2
                    go_roundw
                    case rel => exact ⟨ts ++ [⟨kind, text, num, place⟩], closesP ⟨kind, text, num, place⟩, pos + k, rfl, by go_num, by omega, (by rw [List.length_append, flatT_snoc]; exact hown5), hB5, by have := HFULL.out; simp; omega, Lib.hid (.inl ⟨by rw [HL.out]; omega, by rw [List.length_append, ← HX.out, List.drop_drop]; rfl⟩)⟩
                    case measure => simp [intOf]; omega
                · have hx := HXX.out
                  rw [if_pos her] at hx
                  have HX := Lib.hid hx
                  have herb : (er == 0) = false := by simpa using her
                  have herb2 : (er != 0) = true := by simpa using her
                  clear her hx hte HOP HXX
                  obtain ⟨kind, text, num, place⟩ := t
                  unfold tokV
                  go_wp2
                  go_ret3
                  exact ⟨⟨_, _, _, rfl, by rw [← HX.out]; exact ⟨rfl, rfl, rfl⟩⟩, below_two hw1 (hB3.alloc hB3.size _)⟩
            · have h47b : ((s[pos].toNat : Int) == 47) = false := by rw [B.out 47 47 rfl]; simpa using h47
              have hst2 := hst (by rw [hda]; simp [isRemark, List.isPrefixOf, Ne.symm h47])
              rw [lex_tok _ _ _ _ hst2] at hx
              have ho := rnext_any s pos wr hs hlt
              have hof := one_fits ((bl s).drop pos) pos
              rw [List.length_drop, HL.out] at hof
              have hop := one_pos ((bl s).drop pos) pos (by intro e; rw [e] at hst2; cases hst2)
              unfold NextPost at ho
              clear hda B hst hst2 hbk hb h47
              generalize oneP ((bl s).drop pos) pos = r at *
              obtain ⟨t0, k, er⟩ := r
              simp only [] at hx ho hof hop
              have HO := Lib.hid ho
              have HOP := Lib.hid hop
              have HXX := Lib.hid hx
              clear ho hop hx
              go_wp2_with fail
              refine HO.out.mono ?_
              rintro e w3 ⟨⟨t, en, rfl, hte⟩, hw3⟩
              have hown3 := ownsRow_below hown hw3
              have hB3 := below_two hwr hw3
              have hB3s := hB3.size
              clear hown hw3 HO
              by_cases her : er = 0
              · obtain ⟨rfl, rfl⟩ := hte her
                have hk1 := HOP.out her
                have hx := HXX.out
                rw [if_neg (by rw [her]; simp)] at hx
                have herb : (er == 0) = true := by rw [her]; rfl
                have herb2 : (er != 0) = false := by rw [her]; rfl
                clear her hte HOP HXX
                obtain ⟨kind, text, num, place⟩ := t
                unfold tokV
                by_cases hfull : 16384 ≤ ts.length
                · rw [if_pos hfull] at hx
                  have HX := Lib.hid hx
                  have hf2 : ((ts.length : Int) == 16384) = true := by rw [beq_iff_eq]; omega
                  clear hx hfull
                  go_wp2
                  go_ret3
                  exact ⟨⟨_, _, _, rfl, by rw [← HX.out]; exact ⟨rfl, rfl, rfl⟩⟩, below_two hw1 (hB3.alloc hB3.size _)⟩
                · rw [if_neg hfull, preR_cons] at hx
                  have HX := Lib.hid hx
                  have hf2 : ((ts.length : Int) == 16384) = false := by rw [beq_eq_false_iff_ne]; omega
                  have HFULL := Lib.hid hfull
                  clear hx hfull
                  go_wp2_with (first | (at_builtin; refine wpList_append_own _ rfl _ _ 22 rfl w1.heap.size 31 i0 (.agg #[.int .i64 0, .string ⟨#[]⟩, .int .u64 0, .int .i64 0]) 4 40 Tryd.underlying22 HI.out hz0 hz1 hz2 rfl (by decide) _ _ _ rfl ((hown3.alloc _).alloc _) ⟨w3.heap.size + 1, 0, none⟩ 1 1 (tokCells ⟨kind, text, num, place⟩) rfl rfl (cell_tok_at (w3.alloc _) _ (by simp) ⟨kind, text, num, place⟩ _) (tok_one _) (by unfold maxLen; omega) (by omega) (by have := hB3.size; simp; omega) ?_; intro v4 w4 hown4 hgrow4 hnil4; have hB4 : Below w1.heap.size w1 w4 := Below.grown ((hB3.alloc hB3.size _).alloc (by have := hB3.size; simp; omega) _) hgrow4 (by have := hB3.size; simp; omega) (fun j hj => by have := (hown3.lt _ hj).1; omega); have hlen4 := len_own hown4; have hnr : some w3.heap.size ≠ Value.ownBlock _ := (fun e => absurd (hown3.lt _ e.symm).2 (Nat.lt_irrefl _)); have k0 : w4.cell? ⟨w3.heap.size, 0, none⟩ = some (.int .i64 kind) := hgrow4.cell (by go_simp) hnr; have k1 : w4.cell? ⟨w3.heap.size, 1, none⟩ = some (.string ⟨text.toArray⟩) := hgrow4.cell (by go_simp) hnr; have k2 : w4.cell? ⟨w3.heap.size, 2, none⟩ = some (.int .u64 num) := hgrow4.cell (by go_simp) hnr; have k3 : w4.cell? ⟨w3.heap.size, 3, none⟩ = some (.int .i64 (place : Int)) := hgrow4.cell (by go_simp) hnr; clear hgrow4 hnil4 hnr))
                  refine (rcloses_any ⟨kind, text, num, place⟩ _).mono ?_
                  rintro e w5 ⟨rfl, hw5⟩
                  have hown5 := ownsRow_below hown4 hw5
                  have hB5 := below_two hB4 hw5
                  clear hown4 hw5 hB4 k0 k1 k2 k3
                  go_wp2
                  go_roundw
                  case rel => exact ⟨ts ++ [⟨kind, text, num, place⟩], closesP ⟨kind, text, num, place⟩, pos + k, rfl, by go_num, by omega, (by rw [List.length_append, flatT_snoc]; exact hown5), hB5, by have := HFULL.out; simp; omega, Lib.hid (.inl ⟨by rw [HL.out]; omega, by rw [List.length_append, ← HX.out, List.drop_drop]; rfl⟩)⟩
                  case measure => simp [intOf]; omega
              · have hx := HXX.out
                rw [if_pos her] at hx
                have HX := Lib.hid hx
                have herb : (er == 0) = false := by simpa using her
                have herb2 : (er != 0) = true := by simpa using her
                clear her hx hte HOP HXX
                obtain ⟨kind, text, num, place⟩ := t
                unfold tokV
                go_wp2
                go_ret3
                exact ⟨⟨_, _, _, rfl, by rw [← HX.out]; exact ⟨rfl, rfl, rfl⟩⟩, below_two hw1 (hB3.alloc hB3.size _)⟩
          · have hxb : s[pos] = 9 ∨ s[pos] = 13 ∨ s[pos] = 32 := by
              unfold isBlank at hbk
              simp only [Bool.or_eq_true, beq_iff_eq] at hbk
              rcases hbk with (h | h) | h
              · exact .inl h
              · exact .inr (.inl h)
              · exact .inr (.inr h)
            rw [hda, lex_blank _ _ _ _ _ hbk] at hx
            have HX := Lib.hid hx
            clear hx
            have e9 : ((s[pos].toNat : Int) == 9) = (s[pos] == 9) := B.out 9 9 rfl
            have e13 : ((s[pos].toNat : Int) == 13) = (s[pos] == 13) := B.out 13 13 rfl
            have e32 : ((s[pos].toNat : Int) == 32) = (s[pos] == 32) := B.out 32 32 rfl
            have hd3 : (((s[pos].toNat : Int) == 9) = true) ∨ (((s[pos].toNat : Int) == 9) = false ∧ ((s[pos].toNat : Int) == 13) = true) ∨ (((s[pos].toNat : Int) == 9) = false ∧ ((s[pos].toNat : Int) == 13) = false ∧ ((s[pos].toNat : Int) == 32) = true) := by
              rw [e9, e13, e32]
              rcases hxb with h | h | h <;> rw [h] <;> decide
            clear e9 e13 e32 hxb B hda hbk hb
            rcases hd3 with h9 | ⟨h9, h13⟩ | ⟨h9, h13, h32⟩
            all_goals
              go_wp2
              go_roundw
              case rel => exact ⟨ts, opn, pos + 1, rfl, by go_num, by omega, hown, hwr, hts, Lib.hid (.inl ⟨by rw [HL.out]; omega, HX.out⟩)⟩
              case measure => simp [intOf]; omega
    · have hx := lexS_out HLEX.out (by rw [HL.out]; exact hin)
      have HX := Lib.hid hx
      have hq0 : ¬ (pos : Int) ≤ (s.size : Int) := by omega
      have hq0b : decide ((pos : Int) ≤ (s.size : Int)) = false := decide_eq_false hq0
      clear hx HLEX hin
      go_wp2
      go_ret3
      exact ⟨⟨_, _, _, rfl, by rw [HX.out]; exact ⟨rfl, rfl, ownsRow_base hown hw1.size⟩⟩, below_two hw1 hwr⟩
theorem rtokens_any (s : ByteArray) (w : World) (hm : s.size ≤ maxLen) :
    Calls Tryd.prog 11 #[.string s] w fun e w' => RTok w.heap.size (tokensP (bl s)) e w' ∧ Below w.heap.size w w' := by
  unfold maxLen at hm
  by_cases hs : 65536 < s.size
  · have hr : tokensP (bl s) = .error (0, 6) := by unfold tokensP; rw [bl_len, if_pos hs]
    rw [hr]
    have hs1 : (65536 : Int) < (s.size : Int) := by omega
    clear hr
    go_enter Tryd.func11, Tryd.ntmps11
    go_wp2
    go_ret3
    exact ⟨⟨_, _, _, rfl, rfl, rfl, rfl⟩, Below.refl _ _⟩
  · by_cases hv : wholeL (bl s) < s.size
    · have hr : tokensP (bl s) = .error (wholeL (bl s), 3) := by unfold tokensP; rw [bl_len, if_neg hs, if_pos hv]
      rw [hr]
      have hs1 : ¬ (65536 : Int) < (s.size : Int) := by omega
      have hv1 : (wholeL (bl s) : Int) < (s.size : Int) := by omega
      have HWH := Lib.hid (fun w1 => rbroken_any s w1 (by omega))
      clear hr
      generalize wholeL (bl s) = n at *
      go_enter Tryd.func11, Tryd.ntmps11
      go_wp2_with fail
      refine (HWH.out _).mono ?_
      rintro e w1 ⟨rfl, hw1⟩
      go_wp2_with fail
      refine (HWH.out _).mono ?_
      rintro e w2 ⟨rfl, hw2⟩
      go_wp2
      go_ret3
      exact ⟨⟨_, _, _, rfl, rfl, rfl, rfl⟩, below_two hw1 hw2⟩
    · have hr : tokensP (bl s) = lex (bl s) 0 false 0 := by unfold tokensP; rw [bl_len, if_neg hs, if_neg hv]
      rw [hr]
      have hle := wholeL_bd (bl s)
      rw [bl_len] at hle
      exact rtokens_walk s w (by omega) (by omega)
end Go.Proofs.YtihdjofihdgigaaDoor
