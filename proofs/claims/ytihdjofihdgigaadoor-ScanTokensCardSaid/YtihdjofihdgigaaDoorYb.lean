/- The walk of the law ScanSemis: it returns true for every input, where the listed variables hold what they are laid with. -/
import Derived.Test.YtihdjofihdgigaaDoorUm
import Derived.Test.YtihdjofihdgigaaDoorTh
namespace Go.Proofs.YtihdjofihdgigaaDoor
open Go.RowKit
set_option linter.unusedSimpArgs false
set_option linter.unusedVariables false

theorem semis_list (l : List UInt8) (ts : List Tok) (h : tokensP l = .ok ts) : ∀ i (hi : i < ts.length), (ts[i]).text = [] → ∃ h' : 0 < i, closesP (ts[i - 1]'(by omega)) = true := by
  have hl : lex l 0 false 0 = .ok ts := by
    unfold tokensP at h
    split at h
    · cases h
    · split at h
      · cases h
      · exact h
  intro i hi ht
  rcases semi_at false ts (lex_semi l 0 false 0 ts hl) i hi ht with ⟨_, h⟩ | h
  · cases h
  · exact h
theorem consR_okk {t : Tok} {r : LexR} {ts : List Tok} (h : consR t r = .ok ts) : ∃ us, r = .ok us ∧ ts = t :: us := by
  cases r with
  | error e => cases h
  | ok l => cases h; exact ⟨l, rfl, rfl⟩
theorem lex_len : ∀ (n : Nat) (l : List UInt8) (p : Nat) (opn : Bool) (cnt : Nat) (ts : List Tok), l.length ≤ n → cnt ≤ 16384 → lex l p opn cnt = .ok ts → ts.length + cnt ≤ 16384 := by
  intro n
  induction n with
  | zero =>
    intro l p opn cnt ts hl hc h
    have : l = [] := List.length_eq_zero_iff.1 (by omega)
    subst this
    rw [lex_nil] at h
    cases opn
    · cases h; simpa using hc
    · simp only [if_true] at h
      split at h
      · cases h
      · cases h; simp; omega
  | succ n ih =>
    intro l p opn cnt ts hl hc h
    cases l with
    | nil =>
      rw [lex_nil] at h
      cases opn
      · cases h; simpa using hc
      · simp only [if_true] at h
        split at h
        · cases h
        · cases h; simp; omega
    | cons b m =>
      have hm : m.length ≤ n := by simpa using hl
      by_cases hb : b = 10
      · subst hb
        rw [lex_line] at h
        cases opn
        · exact ih m _ _ _ _ hm hc h
        · simp only [if_true] at h
          split at h
          · cases h
          · obtain ⟨us, h1, rfl⟩ := consR_okk h
            have := ih m _ _ _ _ hm (by omega) h1
            simp; omega
      · cases hk : isBlank b
        · cases hr : isRemark (b :: m)
          · have hst : starts (b :: m) = true := by simp [starts, hb, hk, hr]
            rw [lex_tok _ _ _ _ hst] at h
            split at h
            · cases h
            · rename_i he
              split at h
              · cases h
              · have he' : (oneP (b :: m) p).2.2 = 0 := by simpa using he
                have hp := one_pos (b :: m) p (by simp) he'
                obtain ⟨us, h1, rfl⟩ := consR_okk h
                have := ih _ _ _ _ _ (by rw [List.length_drop]; simp at hl ⊢; omega) (by omega) h1
                simp; omega
          · rw [lex_remark _ _ _ _ hr] at h
            have hp := lineLen_pos b m hb
            exact ih _ _ _ _ _ (by rw [List.length_drop]; simp at hl ⊢; omega) hc h
        · rw [lex_blank b m p opn cnt hk] at h
          exact ih m _ _ _ _ hm hc h
theorem tokens_len (l : List UInt8) (ts : List Tok) (h : tokensP l = .ok ts) : ts.length ≤ 16384 := by
  have := lex_len l.length l 0 false 0 ts (Nat.le_refl _) (by omega) (tokens_lex l ts h).1
  omega
def enderTo (m : Nat) (x : List UInt8) : Bool := (enders.take m).contains x
theorem ender_to (m : Nat) (h : m < 8) (x : List UInt8) : enderTo (m + 1) x = (enderTo m x || (x == enders.getD m [])) := by
  unfold enderTo
  have hm : enders[m]? = some (enders.getD m []) := by
    rw [List.getD_eq_getElem?_getD]
    rw [List.getElem?_eq_getElem (show m < enders.length from h)]; rfl
  rw [List.take_add_one, hm, List.contains_eq_any_beq, List.any_append, ← List.contains_eq_any_beq]
  simp
theorem ender_at (j : Nat) (h : j < 8) (W : World) (n : Nat) (hn : n = W.heap.size) (t : TypeId) : (W.alloc (.cells ((enders.map fun z => Value.string ⟨z.toArray⟩).toArray) t)).cell? ⟨n, j, none⟩ = some (.string ⟨(enders.getD j []).toArray⟩) := by
  rw [World.cell?_alloc_at _ _ n j hn]
  rcases j with _ | _ | _ | _ | _ | _ | _ | _ | j
  all_goals first | rfl | (exfalso; omega)
set_option maxRecDepth 100000 in
set_option maxHeartbeats 2000000 in
theorem walkScanSemis (s : ByteArray) (hs : s.size ≤ maxLen) (w : World) (h : Laid w) :
    Calls Tryd.prog 7 #[.string s] w fun e w' => e = .returned (.bool true) ∧ Below w.heap.size w w' := by
  have ht := tokens_c s w h hs
  have hsl := semis_list (bl s)
  cases hR : tokensP (bl s) with
  | error pc =>
    obtain ⟨p, c⟩ := pc
    rw [hR] at ht
    have hc := tokens_err _ _ _ hR
    have HT := Lib.hid ht
    clear hR ht hsl
    · have hcb : (c != 0) = true := by simpa using hc
      go_enter Tryd.func7, Tryd.ntmps7
      go_wp2_with fail
      refine HT.out.mono ?_
      rintro e w1 ⟨rfl, hw1⟩
      have hl1 := h.below hw1
      go_wp2_with fail
      refine (answers_c w1 hl1).mono ?_
      rintro e w2 ⟨rfl, hw2⟩
      have hB := below_two hw1 hw2
      have hl2 := hl1.below hw2
      clear hw1 hw2 hl1 HT h
      go_wp2_with fail
      refine (answers_c w2 hl2).mono ?_
      rintro e w3 ⟨rfl, hw3⟩
      go_wp2
      go_ret
      exact ⟨rfl, below_two hB hw3⟩
  | ok ts =>
    rw [hR] at ht
    have HS := Lib.hid (hsl ts hR)
    have h16 := tokens_len _ ts hR
    have HT := Lib.hid ht
    clear hR ht hsl
    go_enter Tryd.func7, Tryd.ntmps7
    go_wp2_with fail
    refine HT.out.mono ?_
    rintro e w1 ⟨⟨v, rfl, hown, -⟩, hw1⟩
    have hl1 := h.below hw1
    go_wp2_with fail
    refine (answers_c w1 hl1).mono ?_
    rintro e w2 ⟨rfl, hw2⟩
    have hown2 := ownsRow_below hown hw2
    have hB := below_two hw1 hw2
    have hlen := len_own hown2
    clear hown hl1 h HT hw1 hw2 hs
    go_wp2
    go_loopw [6] (fun i wr => ∃ k : Nat, k ≤ ts.length ∧ i = .int .i64 k ∧ Below w2.heap.size w2 wr) (fun i _ => ts.length - (intOf i).toNat)
    case atStart => exact ⟨0, by omega, rfl, Below.refl _ _⟩
    case round =>
      obtain ⟨k, hk, rfl, hwr⟩ := hrel
      by_cases hlt : k < ts.length
      · have hne : ts ≠ [] := by rintro rfl; simp at hlt
        obtain ⟨g, cap, rfl, -, hgs, hcell⟩ := own_cells hown2 hne
        have hk1 : (k : Int) < (ts.length : Int) := by omega
        obtain ⟨hwc, -⟩ := bcell hwr
        have c1 := (hwc _ (k * 4 + 1) hgs).trans (hcell k hlt).2.1
        by_cases hT : (ts[k]).text = []
        · obtain ⟨h0, hcl⟩ := HS.out k hlt hT
          obtain ⟨j, rfl⟩ : ∃ j, k = j + 1 := ⟨k - 1, by omega⟩
          rw [hT] at c1
          have hlj : j < ts.length := by omega
          obtain ⟨d0, d1, d2, d3⟩ := hcell j hlj
          have e0 := (hwc _ (j * 4) hgs).trans d0
          have e1 := (hwc _ (j * 4 + 1) hgs).trans d1
          have e2 := (hwc _ (j * 4 + 2) hgs).trans d2
          have e3 := (hwc _ (j * 4 + 3) hgs).trans d3
          simp only [Nat.add_sub_cancel] at hcl
          have HNE := Lib.hid hT
          have hj1 : (j : Int) < (ts.length : Int) := by omega
          clear d0 d1 d2 d3 hcell hwc hT
          generalize htj : ts[j] = t at *
          have HTJ := Lib.hid htj
          clear htj
          obtain ⟨kind, text, num, place⟩ := t
          simp only [] at e0 e1 e2 e3
          have hgw : g < wr.heap.size := Nat.lt_of_lt_of_le hgs hwr.size
          have HCL := Lib.hid hcl
          clear hcl
          by_cases k1 : kind = 1
          · subst k1
            clear HCL
            have hWB : Below wr.heap.size wr ((wr.alloc (.cells #[.int .i64 1, .string ⟨text.toArray⟩, .int .u64 num, .int .i64 (place : Int)] 31)).alloc (.cells #[.string ⟨#[98, 114, 101, 97, 107]⟩, .string ⟨#[99, 111, 110, 116, 105, 110, 117, 101]⟩, .string ⟨#[114, 101, 116, 117, 114, 110]⟩, .string ⟨#[116, 114, 117, 101]⟩, .string ⟨#[102, 97, 108, 115, 101]⟩, .string ⟨#[41]⟩, .string ⟨#[93]⟩, .string ⟨#[125]⟩] 9)) := (by repeat' (first | with_reducible assumption | with_reducible exact Below.refl _ _ | with_reducible refine Below.setCell ?_ ?_ _ | with_reducible refine Below.alloc ?_ ?_ _ | with_reducible refine Below.drew ?_ | with_reducible refine below_dn ?_ _ | refine below_two ?_ (by assumption) | omega | (simp; omega) | (simp; done)))
            have hce : ∀ m, m < 8 → ((wr.alloc (.cells #[.int .i64 1, .string ⟨text.toArray⟩, .int .u64 num, .int .i64 (place : Int)] 31)).alloc (.cells #[.string ⟨#[98, 114, 101, 97, 107]⟩, .string ⟨#[99, 111, 110, 116, 105, 110, 117, 101]⟩, .string ⟨#[114, 101, 116, 117, 114, 110]⟩, .string ⟨#[116, 114, 117, 101]⟩, .string ⟨#[102, 97, 108, 115, 101]⟩, .string ⟨#[41]⟩, .string ⟨#[93]⟩, .string ⟨#[125]⟩] 9)).cell? ⟨wr.heap.size + 1, m, none⟩ = some (.string ⟨(enders.getD m []).toArray⟩) := fun m hm => ender_at m hm (wr.alloc (.cells #[.int .i64 1, .string ⟨text.toArray⟩, .int .u64 num, .int .i64 (place : Int)] 31)) _ (by simp) 9
            have hct : ((wr.alloc (.cells #[.int .i64 1, .string ⟨text.toArray⟩, .int .u64 num, .int .i64 (place : Int)] 31)).alloc (.cells #[.string ⟨#[98, 114, 101, 97, 107]⟩, .string ⟨#[99, 111, 110, 116, 105, 110, 117, 101]⟩, .string ⟨#[114, 101, 116, 117, 114, 110]⟩, .string ⟨#[116, 114, 117, 101]⟩, .string ⟨#[102, 97, 108, 115, 101]⟩, .string ⟨#[41]⟩, .string ⟨#[93]⟩, .string ⟨#[125]⟩] 9)).cell? ⟨wr.heap.size, 1, none⟩ = some (.string ⟨text.toArray⟩) := by go_simp
            have hd1 : decide ((j : Int) + 1 < (ts.length : Int)) = true := decide_eq_true (by omega)
            have hd2 : ((j : Int) + 1 == 0) = false := by simp; omega
            go_wp2
            generalize ((wr.alloc (.cells #[.int .i64 1, .string ⟨text.toArray⟩, .int .u64 num, .int .i64 (place : Int)] 31)).alloc (.cells #[.string ⟨#[98, 114, 101, 97, 107]⟩, .string ⟨#[99, 111, 110, 116, 105, 110, 117, 101]⟩, .string ⟨#[114, 101, 116, 117, 114, 110]⟩, .string ⟨#[116, 114, 117, 101]⟩, .string ⟨#[102, 97, 108, 115, 101]⟩, .string ⟨#[41]⟩, .string ⟨#[93]⟩, .string ⟨#[125]⟩] 9)) = WW at *
            go_loopw [8, 53] (fun e i wi => ∃ m : Nat, m ≤ 8 ∧ i = .int .i64 m ∧ e = .bool true ∧ wi = WW) (fun _ i _ => 8 - (intOf i).toNat)
            case atStart => exact ⟨0, by omega, rfl, rfl, rfl⟩
            case round =>
              obtain ⟨m, hm, rfl, rfl, rfl⟩ := hrel
              by_cases h8 : m < 8
              · have ce := hce m h8
                generalize (enders.getD m []) = T at *
                clear hce
                go_wp2
                exact ⟨⟨m + 1, by omega, by go_num, rfl, trivial⟩, by simp [intOf]; omega⟩
              · obtain rfl : m = 8 := by omega
                clear hce
                go_wp2
                exact ⟨⟨j + 2, by omega, by go_num, below_two hwr hWB⟩, by simp [intOf]; omega⟩
          · by_cases k2 : kind = 2
            · subst k2
              clear HCL
              have hWB : Below wr.heap.size wr ((wr.alloc (.cells #[.int .i64 2, .string ⟨text.toArray⟩, .int .u64 num, .int .i64 (place : Int)] 31)).alloc (.cells #[.string ⟨#[98, 114, 101, 97, 107]⟩, .string ⟨#[99, 111, 110, 116, 105, 110, 117, 101]⟩, .string ⟨#[114, 101, 116, 117, 114, 110]⟩, .string ⟨#[116, 114, 117, 101]⟩, .string ⟨#[102, 97, 108, 115, 101]⟩, .string ⟨#[41]⟩, .string ⟨#[93]⟩, .string ⟨#[125]⟩] 9)) := (by repeat' (first | with_reducible assumption | with_reducible exact Below.refl _ _ | with_reducible refine Below.setCell ?_ ?_ _ | with_reducible refine Below.alloc ?_ ?_ _ | with_reducible refine Below.drew ?_ | with_reducible refine below_dn ?_ _ | refine below_two ?_ (by assumption) | omega | (simp; omega) | (simp; done)))
              have hce : ∀ m, m < 8 → ((wr.alloc (.cells #[.int .i64 2, .string ⟨text.toArray⟩, .int .u64 num, .int .i64 (place : Int)] 31)).alloc (.cells #[.string ⟨#[98, 114, 101, 97, 107]⟩, .string ⟨#[99, 111, 110, 116, 105, 110, 117, 101]⟩, .string ⟨#[114, 101, 116, 117, 114, 110]⟩, .string ⟨#[116, 114, 117, 101]⟩, .string ⟨#[102, 97, 108, 115, 101]⟩, .string ⟨#[41]⟩, .string ⟨#[93]⟩, .string ⟨#[125]⟩] 9)).cell? ⟨wr.heap.size + 1, m, none⟩ = some (.string ⟨(enders.getD m []).toArray⟩) := fun m hm => ender_at m hm (wr.alloc (.cells #[.int .i64 2, .string ⟨text.toArray⟩, .int .u64 num, .int .i64 (place : Int)] 31)) _ (by simp) 9
              have hct : ((wr.alloc (.cells #[.int .i64 2, .string ⟨text.toArray⟩, .int .u64 num, .int .i64 (place : Int)] 31)).alloc (.cells #[.string ⟨#[98, 114, 101, 97, 107]⟩, .string ⟨#[99, 111, 110, 116, 105, 110, 117, 101]⟩, .string ⟨#[114, 101, 116, 117, 114, 110]⟩, .string ⟨#[116, 114, 117, 101]⟩, .string ⟨#[102, 97, 108, 115, 101]⟩, .string ⟨#[41]⟩, .string ⟨#[93]⟩, .string ⟨#[125]⟩] 9)).cell? ⟨wr.heap.size, 1, none⟩ = some (.string ⟨text.toArray⟩) := by go_simp
              have hd1 : decide ((j : Int) + 1 < (ts.length : Int)) = true := decide_eq_true (by omega)
              have hd2 : ((j : Int) + 1 == 0) = false := by simp; omega
              go_wp2
              generalize ((wr.alloc (.cells #[.int .i64 2, .string ⟨text.toArray⟩, .int .u64 num, .int .i64 (place : Int)] 31)).alloc (.cells #[.string ⟨#[98, 114, 101, 97, 107]⟩, .string ⟨#[99, 111, 110, 116, 105, 110, 117, 101]⟩, .string ⟨#[114, 101, 116, 117, 114, 110]⟩, .string ⟨#[116, 114, 117, 101]⟩, .string ⟨#[102, 97, 108, 115, 101]⟩, .string ⟨#[41]⟩, .string ⟨#[93]⟩, .string ⟨#[125]⟩] 9)) = WW at *
              go_loopw [8, 53] (fun e i wi => ∃ m : Nat, m ≤ 8 ∧ i = .int .i64 m ∧ e = .bool true ∧ wi = WW) (fun _ i _ => 8 - (intOf i).toNat)
              case atStart => exact ⟨0, by omega, rfl, rfl, rfl⟩
              case round =>
                obtain ⟨m, hm, rfl, rfl, rfl⟩ := hrel
                by_cases h8 : m < 8
                · have ce := hce m h8
                  generalize (enders.getD m []) = T at *
                  clear hce
                  go_wp2
                  exact ⟨⟨m + 1, by omega, by go_num, rfl, trivial⟩, by simp [intOf]; omega⟩
                · obtain rfl : m = 8 := by omega
                  clear hce
                  go_wp2
                  exact ⟨⟨j + 2, by omega, by go_num, below_two hwr hWB⟩, by simp [intOf]; omega⟩
            · have hcm : (enders.take 8).contains text = true := by
                have h1 := HCL.out
                unfold closesP at h1
                simp only [Bool.or_eq_true, beq_iff_eq] at h1
                rcases h1 with (h1 | h1) | h1
                · exact absurd h1 k1
                · exact absurd h1 k2
                · exact h1
              have HCM := Lib.hid hcm
              have kb1 : (kind == 1) = false := by simpa using k1
              have kb2 : (kind == 2) = false := by simpa using k2
              clear HCL hcm k1 k2
              have hWB : Below wr.heap.size wr ((wr.alloc (.cells #[.int .i64 kind, .string ⟨text.toArray⟩, .int .u64 num, .int .i64 (place : Int)] 31)).alloc (.cells #[.string ⟨#[98, 114, 101, 97, 107]⟩, .string ⟨#[99, 111, 110, 116, 105, 110, 117, 101]⟩, .string ⟨#[114, 101, 116, 117, 114, 110]⟩, .string ⟨#[116, 114, 117, 101]⟩, .string ⟨#[102, 97, 108, 115, 101]⟩, .string ⟨#[41]⟩, .string ⟨#[93]⟩, .string ⟨#[125]⟩] 9)) := (by repeat' (first | with_reducible assumption | with_reducible exact Below.refl _ _ | with_reducible refine Below.setCell ?_ ?_ _ | with_reducible refine Below.alloc ?_ ?_ _ | with_reducible refine Below.drew ?_ | with_reducible refine below_dn ?_ _ | refine below_two ?_ (by assumption) | omega | (simp; omega) | (simp; done)))
              have hce : ∀ m, m < 8 → ((wr.alloc (.cells #[.int .i64 kind, .string ⟨text.toArray⟩, .int .u64 num, .int .i64 (place : Int)] 31)).alloc (.cells #[.string ⟨#[98, 114, 101, 97, 107]⟩, .string ⟨#[99, 111, 110, 116, 105, 110, 117, 101]⟩, .string ⟨#[114, 101, 116, 117, 114, 110]⟩, .string ⟨#[116, 114, 117, 101]⟩, .string ⟨#[102, 97, 108, 115, 101]⟩, .string ⟨#[41]⟩, .string ⟨#[93]⟩, .string ⟨#[125]⟩] 9)).cell? ⟨wr.heap.size + 1, m, none⟩ = some (.string ⟨(enders.getD m []).toArray⟩) := fun m hm => ender_at m hm (wr.alloc (.cells #[.int .i64 kind, .string ⟨text.toArray⟩, .int .u64 num, .int .i64 (place : Int)] 31)) _ (by simp) 9
              have hct : ((wr.alloc (.cells #[.int .i64 kind, .string ⟨text.toArray⟩, .int .u64 num, .int .i64 (place : Int)] 31)).alloc (.cells #[.string ⟨#[98, 114, 101, 97, 107]⟩, .string ⟨#[99, 111, 110, 116, 105, 110, 117, 101]⟩, .string ⟨#[114, 101, 116, 117, 114, 110]⟩, .string ⟨#[116, 114, 117, 101]⟩, .string ⟨#[102, 97, 108, 115, 101]⟩, .string ⟨#[41]⟩, .string ⟨#[93]⟩, .string ⟨#[125]⟩] 9)).cell? ⟨wr.heap.size, 1, none⟩ = some (.string ⟨text.toArray⟩) := by go_simp
              have hd1 : decide ((j : Int) + 1 < (ts.length : Int)) = true := decide_eq_true (by omega)
              have hd2 : ((j : Int) + 1 == 0) = false := by simp; omega
              go_wp2
              generalize ((wr.alloc (.cells #[.int .i64 kind, .string ⟨text.toArray⟩, .int .u64 num, .int .i64 (place : Int)] 31)).alloc (.cells #[.string ⟨#[98, 114, 101, 97, 107]⟩, .string ⟨#[99, 111, 110, 116, 105, 110, 117, 101]⟩, .string ⟨#[114, 101, 116, 117, 114, 110]⟩, .string ⟨#[116, 114, 117, 101]⟩, .string ⟨#[102, 97, 108, 115, 101]⟩, .string ⟨#[41]⟩, .string ⟨#[93]⟩, .string ⟨#[125]⟩] 9)) = WW at *
              go_loopw [8, 53] (fun e i wi => ∃ m : Nat, m ≤ 8 ∧ i = .int .i64 m ∧ e = .bool (enderTo m text) ∧ wi = WW) (fun _ i _ => 8 - (intOf i).toNat)
              case atStart => exact ⟨0, by omega, rfl, rfl, rfl⟩
              case round =>
                obtain ⟨m, hm, rfl, rfl, rfl⟩ := hrel
                by_cases h8 : m < 8
                · have ce := hce m h8
                  have HTO := Lib.hid (ender_to m h8 text)
                  generalize (enders.getD m []) = T at *
                  clear hce
                  cases hto : enderTo m text with
                  | true =>
                    have HTO2 : enderTo (m + 1) text = true := by rw [HTO.out, hto]; rfl
                    have HH := Lib.hid HTO2
                    clear HTO HTO2 hto HCM
                    go_wp2
                    exact ⟨⟨m + 1, by omega, by go_num, by rw [HH.out], trivial⟩, by simp [intOf]; omega⟩
                  | false =>
                    have HTO2 : enderTo (m + 1) text = (text == T) := by rw [HTO.out, hto]; rfl
                    have HH := Lib.hid HTO2
                    clear HTO HTO2 hto HCM
                    go_wp2
                    exact ⟨⟨m + 1, by omega, by go_num, by rw [HH.out], trivial⟩, by simp [intOf]; omega⟩
                · obtain rfl : m = 8 := by omega
                  have hb8 : enderTo 8 text = true := HCM.out
                  rw [hb8]
                  clear hce
                  go_wp2
                  exact ⟨⟨j + 2, by omega, by go_num, below_two hwr hWB⟩, by simp [intOf]; omega⟩
        · have hTe : ((ts[k]).text).isEmpty = false := by simpa using hT
          clear hcell hwc
          generalize (ts[k]).text = T at *
          go_wp2
          exact ⟨⟨k + 1, by omega, by go_num, hwr⟩, by simp [intOf]; omega⟩
      · obtain rfl : k = ts.length := by omega
        go_wp2
        go_ret
        exact ⟨rfl, below_two hB hwr⟩
end Go.Proofs.YtihdjofihdgigaaDoor
