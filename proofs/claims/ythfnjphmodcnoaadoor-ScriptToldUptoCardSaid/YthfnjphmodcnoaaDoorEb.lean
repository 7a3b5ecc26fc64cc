/- Plain: the numbers that Print tells, and the ending of a report's line, as the reference says them. No program in sight. -/
import Derived.Test.YthfnjphmodcnoaaDoorBp
import Derived.Lib.ParseIntBCases
import Derived.Lib.IndexLaws
namespace Go.Proofs.YthfnjphmodcnoaaDoor
set_option linter.unusedSimpArgs false
set_option linter.unusedVariables false

def signedQ : List UInt8 → Option Int
  | [] => none
  | c :: d => if c = 45 then (match numQ d 9223372036854775808 with
      | some n => if n = 0 then none else some (-(n : Int))
      | none => none)
    else (numQ (c :: d) 18446744073709551615).map Int.ofNat
theorem signedQ_cons (c : UInt8) (d : List UInt8) : signedQ (c :: d) = if c = 45 then (match numQ d 9223372036854775808 with
      | some n => if n = 0 then none else some (-(n : Int))
      | none => none)
    else (numQ (c :: d) 18446744073709551615).map Int.ofNat := rfl
theorem dec_cons (u : Nat) : ∃ c d, Lib.decDigits u = c :: d ∧ c ≠ 45 ∧ 48 ≤ c.toNat := by
  cases h : Lib.decDigits u with
  | nil => exact absurd h (dec_ne u)
  | cons c d =>
    have := dec_digs u c (by rw [h]; exact List.mem_cons_self)
    refine ⟨c, d, rfl, ?_, this.1⟩
    rintro rfl; exact absurd this.1 (by decide)
theorem signedQ_iff (l : List UInt8) (v : Int) : signedQ l = some v ↔ (l = Lib.itoa v ∧ -9223372036854775808 ≤ v ∧ v ≤ 18446744073709551615) := by
  constructor
  · intro h
    cases l with
    | nil => cases h
    | cons c d =>
      rw [signedQ_cons] at h
      split at h
      · rename_i hc
        subst hc
        split at h
        · rename_i n hn
          obtain ⟨rfl, hle⟩ := (numQ_iff _ _ _).1 hn
          split at h
          · cases h
          · cases h
            exact ⟨(Lib.itoa_neg n (by omega)).symm, by omega, by omega⟩
        · cases h
      · obtain ⟨n, hn, rfl⟩ := Option.map_eq_some_iff.1 h
        obtain ⟨hd, hle⟩ := (numQ_iff _ _ _).1 hn
        refine ⟨by rw [hd]; exact (Lib.itoa_nonneg n).symm, ?_, ?_⟩
        · show -9223372036854775808 ≤ (n : Int); omega
        · show (n : Int) ≤ 18446744073709551615; omega
  · rintro ⟨rfl, h1, h2⟩
    by_cases hv : v < 0
    · obtain ⟨n, rfl⟩ : ∃ n : Nat, v = -(n : Int) := ⟨v.natAbs, by omega⟩
      rw [Lib.itoa_neg n (by omega)]
      rw [signedQ_cons, if_pos rfl, (numQ_iff _ _ n).2 ⟨rfl, by omega⟩]
      simp only []
      rw [if_neg (by omega)]
    · obtain ⟨n, rfl⟩ : ∃ n : Nat, v = (n : Int) := ⟨v.toNat, by omega⟩
      rw [Lib.itoa_nonneg]
      obtain ⟨c, d, hcd, h45, -⟩ := dec_cons n
      have hq := (numQ_iff (Lib.decDigits n) 18446744073709551615 n).2 ⟨rfl, by omega⟩
      rw [hcd] at hq ⊢
      rw [signedQ_cons, if_neg h45, hq]; rfl
theorem pint_itoa (v : Int) (h1 : -9223372036854775808 ≤ v) (h2 : v ≤ 9223372036854775807) : Lib.parseIntB 64 (Lib.itoa v) = .ok v := by
  have e63 : (2 : Nat) ^ (64 - 1) = 9223372036854775808 := by decide
  have e64 : (2 : Nat) ^ 64 - 1 = 18446744073709551615 := by decide
  by_cases hv : v < 0
  · obtain ⟨n, rfl⟩ : ∃ n : Nat, v = -(n : Int) := ⟨v.natAbs, by omega⟩
    rw [Lib.itoa_neg n (by omega), Lib.parseIntB_minus, pb_dec 64 n (by decide) (by rw [e64]; omega), e63]
    show (if _ < n then _ else _) = _
    rw [if_neg (by omega)]
  · obtain ⟨n, rfl⟩ : ∃ n : Nat, v = (n : Int) := ⟨v.toNat, by omega⟩
    rw [Lib.itoa_nonneg]
    obtain ⟨c, d, hcd, h45, h48⟩ := dec_cons n
    have hp := pb_dec 64 n (by decide) (by rw [e64]; omega)
    have hc45 : c.toNat ≠ 45 := by omega
    rw [hcd] at hp ⊢
    rw [Lib.parseIntB_plain 64 c d (by omega) hc45, hp, e63]
    show (if _ ≤ n then _ else _) = _
    rw [if_neg (by omega)]
theorem told_signed (l : List UInt8) : (toldI l || toldU l) = (signedQ l).isSome := by
  have e64 : (2 : Nat) ^ 64 - 1 = 18446744073709551615 := by decide
  rw [Bool.eq_iff_iff]
  constructor
  · intro h
    rcases (Bool.or_eq_true _ _).mp h with h | h
    · unfold toldI at h
      split at h
      · rename_i v hv
        have hb := int_bounds l v hv
        rw [(signedQ_iff l v).2 ⟨(beq_iff_eq.1 h).symm, by omega, by omega⟩]; rfl
      · cases h
    · unfold toldU at h
      split at h
      · rename_i u hu
        have hb := (pb_ok _ _ _ hu).2.1
        rw [e64] at hb
        rw [(signedQ_iff l (u : Int)).2 ⟨by rw [Lib.itoa_nonneg]; exact (beq_iff_eq.1 h).symm, by omega, by omega⟩]; rfl
      · cases h
  · intro h
    obtain ⟨v, hv⟩ := Option.isSome_iff_exists.1 h
    obtain ⟨rfl, h1, h2⟩ := (signedQ_iff l v).1 hv
    by_cases h3 : v ≤ 9223372036854775807
    · have : toldI (Lib.itoa v) = true := by rw [toldI_ok (pint_itoa v h1 h3)]; simp
      rw [this]; rfl
    · obtain ⟨n, rfl⟩ : ∃ n : Nat, v = (n : Int) := ⟨v.toNat, by omega⟩
      have : toldU (Lib.itoa (n : Int)) = true := by
        rw [Lib.itoa_nonneg, toldU_ok (pb_dec 64 n (by decide) (by rw [e64]; omega))]; simp
      rw [this, Bool.or_true]
theorem toldP_eq (l : List UInt8) : toldP l = ((signedQ l).isSome || l == truL || l == falsL) := by
  rw [← told_signed]
  unfold toldP
  cases (l == truL) <;> cases (l == falsL) <;> cases toldI l <;> cases toldU l <;> rfl
/-! ### the ending -/
def in64 (v : Int) : Bool := decide (-9223372036854775808 ≤ v) && decide (v ≤ 9223372036854775807)
theorem sig_int (b : List UInt8) : (match Lib.parseIntB 64 b with | .ok v => if Lib.itoa v = b then some ((2 : Int), v) else none | _ => none) = (match signedQ b with | some v => if in64 v then some ((2 : Int), v) else none | none => none) := by
  cases hs : signedQ b with
  | none =>
    simp only []
    split
    · rename_i v hv
      split
      · rename_i he
        have hb := int_bounds b v hv
        rw [(signedQ_iff b v).2 ⟨he.symm, by omega, by omega⟩] at hs; cases hs
      · rfl
    · rfl
  | some v =>
    obtain ⟨rfl, h1, h2⟩ := (signedQ_iff b v).1 hs
    simp only []
    by_cases h3 : v ≤ 9223372036854775807
    · have h4 : in64 v = true := by unfold in64; simp; omega
      rw [pint_itoa v h1 h3, if_pos h4]
      simp
    · have h4 : in64 v = false := by unfold in64; simp; omega
      rw [h4]
      simp only [Bool.false_eq_true, if_false]
      split
      · rename_i u hu
        have hb := int_bounds _ u hu
        split
        · rename_i he
          have e1 := (signedQ_iff (Lib.itoa v) u).2 ⟨he.symm, by omega, by omega⟩
          rw [hs] at e1
          cases e1
          omega
        · rfl
      · rfl
theorem byte_hit (a b : List UInt8) (c : UInt8) (h : c ∉ a) : Lib.indexByte (a ++ c :: b) c = a.length := by
  by_cases hm : Lib.indexByte (a ++ c :: b) c = -1
  · exact absurd (by simp) (Lib.indexByte_none hm a.length)
  · have hg := Lib.indexByte_ge (a ++ c :: b) c
    obtain ⟨o, ho⟩ : ∃ o : Nat, Lib.indexByte (a ++ c :: b) c = (o : Int) := ⟨(Lib.indexByte (a ++ c :: b) c).toNat, by omega⟩
    obtain ⟨h1, h2⟩ := Lib.indexByte_some ho
    rw [ho]
    have h3 : ¬ o < a.length := by
      intro hlt
      rw [List.getElem?_append_left hlt] at h1
      exact h (List.mem_of_getElem? h1)
    have h4 : ¬ a.length < o := fun hlt => h2 a.length hlt (by simp)
    omega
theorem cut_hit (a b : List UInt8) (h : (32 : UInt8) ∉ a) : Lib.cut (a ++ 32 :: b) [32] = (a, b, true) := by
  unfold Lib.cut
  rw [Lib.index_one, byte_hit a b 32 h, if_pos (by omega)]
  simp
theorem cut_no (l : List UInt8) (h : (32 : UInt8) ∉ l) : Lib.cut l [32] = (l, [], false) := by
  unfold Lib.cut
  rw [Lib.index_one]
  have hm : Lib.indexByte l 32 = -1 := by
    have hg := Lib.indexByte_ge l 32
    by_cases hm : Lib.indexByte l 32 = -1
    · exact hm
    · obtain ⟨o, ho⟩ : ∃ o : Nat, Lib.indexByte l 32 = (o : Int) := ⟨(Lib.indexByte l 32).toNat, by omega⟩
      exact absurd (List.mem_of_getElem? (Lib.indexByte_some ho).1) h
  rw [hm, if_neg (by omega)]
def exitL : List UInt8 := [101, 120, 105, 116]
def panicL : List UInt8 := [112, 97, 110, 105, 99]
def deadL : List UInt8 := [100, 101, 97, 100, 108, 111, 99, 107]
def fuelL : List UInt8 := [102, 117, 101, 108]
def roomL : List UInt8 := [114, 111, 111, 109]
theorem endList_eq : endList = [[], exitL, panicL, deadL, fuelL, roomL] := by decide
theorem idx_no (a : List UInt8) (h : a ∉ endList) : Lib.idxOfS endB ⟨a.toArray⟩ = -1 := by
  have := Lib.idxOfS_miss endB 6 ⟨a.toArray⟩ (fun j hj e => h (by
    have hj2 : j < endList.length := by rw [endList_eq]; exact hj
    have hj3 : j < endB.length := by simpa [endB] using hj2
    rw [List.getD_eq_getElem?_getD, List.getElem?_eq_getElem hj3] at e
    have e2 : (⟨(endList[j]).toArray⟩ : ByteArray) = ⟨a.toArray⟩ := by rw [← e]; simp [endB]; rfl
    have e3 : bl ⟨(endList[j]).toArray⟩ = bl ⟨a.toArray⟩ := by rw [e2]
    rw [bl_mk, bl_mk] at e3
    rw [← e3]; exact List.getElem_mem hj2))
  rw [show endB.take 6 = endB by decide +kernel] at this
  exact this
/-- the ending of a line, as the reference has it -/
def refE (l : List UInt8) : Option (Int × Int) :=
  if l = exitL then some (1, 0) else if l = deadL then some (3, 0) else if l = fuelL then some (4, 0) else if l = roomL then some (5, 0)
  else if l.length < 7 ∨ l.take 6 ≠ panicL ++ [32] then none
  else match signedQ (l.drop 6) with | some v => if in64 v then some (2, v) else none | none => none
theorem idx_two (a : List UInt8) (h : Lib.idxOfS endB ⟨a.toArray⟩ = 2) : a = panicL := by
  by_cases hm : a ∈ endList
  · rw [endList_eq] at hm
    simp only [List.mem_cons, List.not_mem_nil, or_false] at hm
    have k0 : Lib.idxOfS endB ⟨([] : List UInt8).toArray⟩ ≠ 2 := by decide +kernel
    have k1 : Lib.idxOfS endB ⟨exitL.toArray⟩ ≠ 2 := by decide +kernel
    have k3 : Lib.idxOfS endB ⟨deadL.toArray⟩ ≠ 2 := by decide +kernel
    have k4 : Lib.idxOfS endB ⟨fuelL.toArray⟩ ≠ 2 := by decide +kernel
    have k5 : Lib.idxOfS endB ⟨roomL.toArray⟩ ≠ 2 := by decide +kernel
    rcases hm with rfl | rfl | rfl | rfl | rfl | rfl
    · exact absurd h k0
    · exact absurd h k1
    · rfl
    · exact absurd h k3
    · exact absurd h k4
    · exact absurd h k5
  · rw [idx_no a hm] at h; omega
theorem refE_eq (l : List UInt8) : refE l = endQ l := by
  by_cases hsp : (32 : UInt8) ∈ l
  · obtain ⟨a, b, rfl, ha⟩ := List.eq_append_cons_of_mem hsp
    have hc := cut_hit a b ha
    have hW : endW (a ++ 32 :: b) = a := by unfold endW; rw [hc]
    have hC : endC (a ++ 32 :: b) = b := by unfold endC; rw [hc]
    have hH : endH (a ++ 32 :: b) = true := by unfold endH; rw [hc]
    have hK : endK (a ++ 32 :: b) = Lib.idxOfS endB ⟨a.toArray⟩ := by unfold endK; rw [hW]
    have n1 : a ++ 32 :: b ≠ exitL := fun e => absurd hsp (by rw [e]; decide)
    have n3 : a ++ 32 :: b ≠ deadL := fun e => absurd hsp (by rw [e]; decide)
    have n4 : a ++ 32 :: b ≠ fuelL := fun e => absurd hsp (by rw [e]; decide)
    have n5 : a ++ 32 :: b ≠ roomL := fun e => absurd hsp (by rw [e]; decide)
    unfold refE
    rw [if_neg n1, if_neg n3, if_neg n4, if_neg n5]
    by_cases hp : a = panicL
    · subst hp
      have hK2 : endK (panicL ++ 32 :: b) = 2 := by rw [hK]; decide +kernel
      rw [endQ_two hK2 hH, hC]
      have ht : (panicL ++ 32 :: b).take 6 = panicL ++ [32] := rfl
      have hd : (panicL ++ 32 :: b).drop 6 = b := rfl
      rw [ht, hd]
      have hlen : (panicL ++ 32 :: b).length = b.length + 6 := by simp [panicL]
      rw [hlen]
      by_cases hb : b = []
      · subst hb
        rw [if_pos (.inl (by simp))]
        rfl
      · have := List.length_pos_iff.2 hb
        rw [if_neg (by rintro (h | h); omega; exact h rfl)]; exact (sig_int b).symm
    · have hk : endK (a ++ 32 :: b) ≠ 2 := fun e => hp (idx_two a (by rw [← hK]; exact e))
      have hno : endQ (a ++ 32 :: b) = none := by
        by_cases h1 : endK (a ++ 32 :: b) < 1
        · exact endQ_lt h1
        · exact endQ_has h1 hk hH
      rw [hno]
      have : (a ++ 32 :: b).take 6 ≠ panicL ++ [32] := by
        intro e
        have e2 : a ++ 32 :: b = panicL ++ 32 :: ((a ++ 32 :: b).drop 6) := by
          conv => lhs; rw [← List.take_append_drop 6 (a ++ 32 :: b), e]
          simp
        have c2 := cut_hit panicL ((a ++ 32 :: b).drop 6) (by decide)
        rw [← e2, hc] at c2
        exact hp (congrArg Prod.fst c2)
      rw [if_pos (.inr this)]
  · have hc := cut_no l hsp
    have hW : endW l = l := by unfold endW; rw [hc]
    have hH : endH l = false := by unfold endH; rw [hc]
    have hK : endK l = Lib.idxOfS endB ⟨l.toArray⟩ := by unfold endK; rw [hW]
    by_cases hm : l ∈ endList
    · rw [endList_eq] at hm
      simp only [List.mem_cons, List.not_mem_nil, or_false] at hm
      rcases hm with rfl | rfl | rfl | rfl | rfl | rfl <;> decide +kernel
    · rw [endQ_lt (by rw [hK, idx_no l hm]; omega)]
      rw [endList_eq] at hm
      simp only [List.mem_cons, List.not_mem_nil, or_false, not_or] at hm
      unfold refE
      rw [if_neg hm.2.1, if_neg hm.2.2.2.1, if_neg hm.2.2.2.2.1, if_neg hm.2.2.2.2.2]
      have : l.take 6 ≠ panicL ++ [32] := fun e => hsp (List.mem_of_mem_take (i := 6) (by rw [e]; decide))
      rw [if_pos (.inr this)]
/-! ### what Read answers, case by case -/
def wholeN (L : List (List UInt8)) (en : Bool) : Nat := if en then L.length else L.length - 1
theorem wholeP_len (L : List (List UInt8)) (en : Bool) : (wholeP L en).length = wholeN L en := by
  unfold wholeP wholeN; split <;> simp
theorem wholeP_take (L : List (List UInt8)) (en : Bool) : wholeP L en = L.take (wholeN L en) := by
  unfold wholeP wholeN; split
  · simp
  · exact List.dropLast_eq_take
theorem tw_at (M : List (List UInt8)) (i : Nat) (hi : i ≤ M.length) (hall : ∀ z ∈ M.take i, toldP z = true) (hst : i = M.length ∨ ∃ x, M[i]? = some x ∧ toldP x = false) : M.takeWhile toldP = M.take i := by
  conv => lhs; rw [← List.take_append_drop i M]
  rw [List.takeWhile_append_of_pos hall]
  have : (M.drop i).takeWhile toldP = [] := by
    rcases hst with rfl | ⟨x, hx, hf⟩
    · simp
    · obtain ⟨hlt, rfl⟩ := List.getElem?_eq_some_iff.1 hx
      rw [List.drop_eq_getElem_cons hlt, List.takeWhile_cons_of_neg (by rw [hf]; simp)]
  rw [this, List.append_nil]
theorem whole_all {L : List (List UInt8)} {en : Bool} {i : Nat} (hi : i ≤ wholeN L en) (hall : ∀ z ∈ L.take i, toldP z = true) : ∀ z ∈ (wholeP L en).take i, toldP z = true := by
  rw [wholeP_take, List.take_take, Nat.min_eq_left hi]; exact hall
theorem readP_end (L : List (List UInt8)) (en : Bool) (i : Nat) (hi : i = wholeN L en) (hall : ∀ z ∈ L.take i, toldP z = true) : readP L en = .error (i + 1) := by
  have hl := wholeP_len L en
  have htw := tw_at (wholeP L en) i (by omega) (whole_all (by omega) hall) (.inl (by omega))
  unfold readP
  simp only []
  rw [htw]
  have hlen : ((wholeP L en).take i).length = i := by rw [List.length_take]; omega
  rw [hlen, List.drop_of_length_le (by omega)]
theorem readP_stop (L : List (List UInt8)) (en : Bool) (i : Nat) (hi : i < wholeN L en) (hall : ∀ z ∈ L.take i, toldP z = true) (x : List UInt8) (hx : L[i]? = some x) (hf : toldP x = false) :
    readP L en = match endQ x with
    | none => .error (i + 1)
    | some (k, v) => match (wholeP L en).drop (i + 1) with
      | [] => .error (i + 2)
      | y :: _ => match numsQ y with
        | none => .error (i + 2)
        | some (s, p) => if i + 2 < L.length then .error (i + 3) else .ok ⟨L.take i, k, v, s, p⟩ := by
  have hl := wholeP_len L en
  have hx2 : (wholeP L en)[i]? = some x := by rw [wholeP_take, List.getElem?_take, if_pos hi]; exact hx
  have htw := tw_at (wholeP L en) i (by omega) (whole_all (by omega) hall) (.inr ⟨x, hx2, hf⟩)
  unfold readP
  simp only []
  rw [htw]
  have hlen : ((wholeP L en).take i).length = i := by rw [List.length_take]; omega
  obtain ⟨hlt, hx3⟩ := List.getElem?_eq_some_iff.1 hx2
  have htk : (wholeP L en).take i = L.take i := by rw [wholeP_take, List.take_take, Nat.min_eq_left (by omega)]
  rw [hlen, List.drop_eq_getElem_cons hlt, hx3, htk]
  rfl
theorem readP_noend (L : List (List UInt8)) (en : Bool) (i : Nat) (hi : i < wholeN L en) (hall : ∀ z ∈ L.take i, toldP z = true) (x : List UInt8) (hx : L[i]? = some x) (hf : toldP x = false) (h : endQ x = none) : readP L en = .error (i + 1) := by
  rw [readP_stop L en i hi hall x hx hf, h]
theorem readP_short (L : List (List UInt8)) (en : Bool) (i : Nat) (hi : i < wholeN L en) (hall : ∀ z ∈ L.take i, toldP z = true) (x : List UInt8) (hx : L[i]? = some x) (hf : toldP x = false) (k v : Int) (h : endQ x = some (k, v)) (h2 : i + 1 = wholeN L en) : readP L en = .error (i + 2) := by
  rw [readP_stop L en i hi hall x hx hf, h]
  simp only []
  rw [List.drop_of_length_le (by rw [wholeP_len]; omega)]
theorem readP_line (L : List (List UInt8)) (en : Bool) (i : Nat) (hi : i + 1 < wholeN L en) (hall : ∀ z ∈ L.take i, toldP z = true) (x : List UInt8) (hx : L[i]? = some x) (hf : toldP x = false) (k v : Int) (h : endQ x = some (k, v)) (y : List UInt8) (hy : L[i + 1]? = some y) :
    readP L en = match numsQ y with
        | none => .error (i + 2)
        | some (s, p) => if i + 2 < L.length then .error (i + 3) else .ok ⟨L.take i, k, v, s, p⟩ := by
  rw [readP_stop L en i (by omega) hall x hx hf, h]
  simp only []
  have hx2 : (wholeP L en)[i + 1]? = some y := by rw [wholeP_take, List.getElem?_take, if_pos hi]; exact hy
  obtain ⟨hlt, hx3⟩ := List.getElem?_eq_some_iff.1 hx2
  rw [List.drop_eq_getElem_cons hlt, hx3]
end Go.Proofs.YthfnjphmodcnoaaDoor
