/- The plain law of ScriptWrites: the text of a script, and that it is read as the script. No program in sight. The plain law of ScriptTold: the text of a report, and that it is read as the report. No program in sight. Contracts: script.Report's closure, slices.IndexFunc and ContainsFunc with it, over any list of texts. The walk of script.Text. The walk of script.Report at any report. A buffer of bytes in new memory, told by its cells (also one that a conversion from a string has made): one law for appends of bytes. A buffer of bytes that may be nil yet; the reference's Of at the signed kind of 64 bits. A struct with a slice of texts that came in; a copy of a list of texts. -/
import Derived.Test.YthfnjphmodcnoaaDoorBf
import Derived.Test.YthfnjphmodcnoaaDoorZc
import Derived.Test.YthfnjphmodcnoaaDoorEl
import Derived.Test.YthfnjphmodcnoaaDoorEg
import Derived.Test.YthfnjphmodcnoaaDoorEi
import Derived.Test.YthfnjphmodcnoaaDoorBc
import Derived.Test.YthfnjphmodcnoaaDoorBq
import Derived.Test.YthfnjphmodcnoaaDoorBe
import Derived.Test.YthfnjphmodcnoaaDoorH
import Derived.Test.YthfnjphmodcnoaaDoorAb
import Derived.Lib.ConvBytes
import Derived.Deep.AppendSrc
import Derived.Laws.IdiomCopy
import Derived.Laws.IdiomStrings
import Derived.Test.YthfnjphmodcnoaaDoorEf
import Derived.Test.YthfnjphmodcnoaaDoorEc
import Derived.Test.YthfnjphmodcnoaaDoorBa
import Derived.Handy
import Derived.Test.YthfnjphmodcnoaaDoorBk
import Derived.Test.YthfnjphmodcnoaaDoorRows
import Derived.Test.YthfnjphmodcnoaaDoorEa
import Derived.SliceStrings
import Derived.SizedLaws
import Derived.Lib.SmallJoins
namespace Go.Proofs.YthfnjphmodcnoaaDoor
set_option linter.unusedSimpArgs false
set_option linter.unusedVariables false

/-- the text up to the picks -/
def headT (f c e : Nat) : List UInt8 := [102, 117, 101, 108, 32] ++ Lib.decDigits f ++ [10, 99, 101, 108, 108, 115, 32] ++ Lib.decDigits c ++ [10, 101, 118, 101, 114, 121, 32] ++ Lib.decDigits e ++ [10, 112, 105, 99, 107, 115]
def fullT (f c e : Nat) (ps : List Nat) : List UInt8 := headT f c e ++ picksT ps ++ [10]
theorem full_text (f c e : Nat) (ps : List Nat) : fullT f c e ps = textT f c e ps [0, 1, 2, 3] := by
  simp [fullT, headT, textT, lineT, kFuel, kCells, kEvery, kPicks]
theorem numQ_most (v : Nat) (h : v ≤ 2147483647) : oneQ [Lib.decDigits v] = some v := by
  unfold oneQ; exact numQ_dec v _ (by unfold mostP; omega)
theorem go_full (f c e : Nat) (ps : List Nat) (hf : f ≤ 2147483647) (hc : c ≤ 2147483647) (he : e ≤ 2147483647) (hp : ∀ v ∈ ps, v ≤ 65535) :
    goP (linesP (fullT f c e ps)).2 (linesP (fullT f c e ps)).1 0 st0 = .ok ⟨f, c, e, ps, true, true, true, true⟩ := by
  rw [full_text, text_lines]
  have h0 := split_one kFuel f (by decide)
  have h1 := split_one kCells c (by decide)
  have h2 := split_one kEvery e (by decide)
  have h3 := split_picks ps kPicks (by decide)
  have n0 := numQ_most f hf
  have n1 := numQ_most c hc
  have n2 := numQ_most e he
  have n3 := pickL_dec ps hp
  show goP true [lineT f c e ps 0, lineT f c e ps 1, lineT f c e ps 2, lineT f c e ps 3] 0 st0 = _
  simp only [lineT]
  rw [goP, h0]
  simp only [List.headD_cons, List.tail_cons, show kwP kFuel = some 0 by decide, setQ, n0, Option.map_some, seenP, st0, List.isEmpty_cons, Bool.false_and, Bool.false_eq_true, if_false]
  rw [goP, h1]
  simp only [List.headD_cons, List.tail_cons, show kwP kCells = some 1 by decide, setQ, n1, Option.map_some, seenP, List.isEmpty_cons, Bool.false_and, Bool.false_eq_true, if_false]
  rw [goP, h2]
  simp only [List.headD_cons, List.tail_cons, show kwP kEvery = some 2 by decide, setQ, n2, Option.map_some, seenP, List.isEmpty_cons, Bool.false_and, Bool.false_eq_true, if_false]
  rw [goP, h3]
  simp only [List.headD_cons, List.tail_cons, show kwP kPicks = some 3 by decide, setQ, n3, Option.map_some, seenP, List.isEmpty_nil, Bool.not_true, Bool.and_false, Bool.false_eq_true, if_false, goP]
theorem dec_len1 (v : Nat) : 1 ≤ (Lib.decDigits v).length := by rw [Lib.decDigits_length]; exact Lib.nDigits_pos v
theorem picksT_low : ∀ (l : List Nat), 2 * l.length ≤ (picksT l).length
  | [] => by simp [picksT]
  | v :: l => by
    have ih := picksT_low l
    have := dec_len1 v
    simp [picksT]; omega
theorem picksT_len2 : ∀ (l : List Nat), (∀ v ∈ l, v ≤ 65535) → (picksT l).length ≤ 21 * l.length
  | [], _ => by simp [picksT]
  | v :: l, h => by
    have ih := picksT_len2 l (fun x hx => h x (by simp [hx]))
    have h1 := dec_len v (by have := h v (by simp); omega)
    simp [picksT]; omega
theorem picksT_app : ∀ (l m : List Nat), picksT (l ++ m) = picksT l ++ picksT m
  | [], m => by simp [picksT]
  | x :: l, m => by rw [List.cons_append, picksT, picksT, picksT_app l m]; simp
theorem picksT_take (l : List Nat) (k : Nat) : (picksT (l.take k)).length ≤ (picksT l).length := by
  conv => rhs; rw [← List.take_append_drop k l, picksT_app, List.length_append]
  omega
theorem picksT_next (l : List Nat) (k v : Nat) (h : l[k]? = some v) : picksT (l.take (k + 1)) = picksT (l.take k) ++ 32 :: Lib.decDigits v := by
  rw [List.take_add_one, h, picksT_app]
  simp [picksT]
/-- what script.Text answers -/
def inR (n : Int) : Bool := decide (0 ≤ n) && decide (n ≤ 2147483647)
def textS (f c e : Int) (ps : List Nat) : List UInt8 × Int :=
  if inR f && inR c && inR e then (if (fullT f.toNat c.toNat e.toNat ps).length ≤ 65536 then (fullT f.toNat c.toNat e.toNat ps, 0) else ([], 6)) else ([], 1)
theorem textS_bad (f c e : Int) (ps : List Nat) (h : ¬ (inR f && inR c && inR e) = true) : textS f c e ps = ([], 1) := by unfold textS; rw [if_neg h]
theorem inR_of {n : Int} (h0 : 0 ≤ n) (h1 : n ≤ 2147483647) : inR n = true := by unfold inR; simp [h0, h1]
theorem inR_not {n : Int} (h : n < 0 ∨ 2147483647 < n) : inR n = false := by
  unfold inR
  rcases h with h | h
  · rw [decide_eq_false (show ¬ (0 : Int) ≤ n by omega), Bool.false_and]
  · rw [decide_eq_false (show ¬ n ≤ (2147483647 : Int) by omega), Bool.and_false]
theorem textS_ok (f c e : Nat) (ps : List Nat) (hf : f ≤ 2147483647) (hc : c ≤ 2147483647) (he : e ≤ 2147483647) : textS f c e ps = if (fullT f c e ps).length ≤ 65536 then (fullT f c e ps, 0) else ([], 6) := by
  unfold textS
  rw [inR_of (by omega) (by omega), inR_of (by omega) (by omega), inR_of (by omega) (by omega)]
  rfl
theorem textS_long (f c e : Nat) (ps : List Nat) (hf : f ≤ 2147483647) (hc : c ≤ 2147483647) (he : e ≤ 2147483647) (h : 65536 < (fullT f c e ps).length) : textS f c e ps = ([], 6) := by
  rw [textS_ok f c e ps hf hc he, if_neg (by omega)]
theorem textS_fit (f c e : Nat) (ps : List Nat) (hf : f ≤ 2147483647) (hc : c ≤ 2147483647) (he : e ≤ 2147483647) (h : (fullT f c e ps).length ≤ 65536) : textS f c e ps = (fullT f c e ps, 0) := by
  rw [textS_ok f c e ps hf hc he, if_pos h]
theorem headT_len (f c e : Nat) (hf : f ≤ 2147483647) (hc : c ≤ 2147483647) (he : e ≤ 2147483647) : (headT f c e).length ≤ 100 := by
  have h1 := dec_len f (by omega)
  have h2 := dec_len c (by omega)
  have h3 := dec_len e (by omega)
  simp [headT]; omega
theorem fullT_len (f c e : Nat) (ps : List Nat) : (fullT f c e ps).length = (headT f c e).length + (picksT ps).length + 1 := by simp [fullT]; omega
theorem textS_cases (f c e : Int) (ps : List Nat) : (textS f c e ps = ([], 1)) ∨ (textS f c e ps = ([], 6)) ∨ (∃ f' c' e' : Nat, f = f' ∧ c = c' ∧ e = e' ∧ f' ≤ 2147483647 ∧ c' ≤ 2147483647 ∧ e' ≤ 2147483647 ∧ (fullT f' c' e' ps).length ≤ 65536 ∧ textS f c e ps = (fullT f' c' e' ps, 0)) := by
  by_cases h : (inR f && inR c && inR e) = true
  · simp only [Bool.and_eq_true, inR, decide_eq_true_eq] at h
    obtain ⟨⟨⟨h1, h2⟩, h3, h4⟩, h5, h6⟩ := h
    obtain ⟨f, rfl⟩ : ∃ n : Nat, f = (n : Int) := ⟨f.toNat, by omega⟩
    obtain ⟨c, rfl⟩ : ∃ n : Nat, c = (n : Int) := ⟨c.toNat, by omega⟩
    obtain ⟨e, rfl⟩ : ∃ n : Nat, e = (n : Int) := ⟨e.toNat, by omega⟩
    by_cases hl : (fullT f c e ps).length ≤ 65536
    · exact .inr (.inr ⟨f, c, e, rfl, rfl, rfl, by omega, by omega, by omega, hl, textS_fit f c e ps (by omega) (by omega) (by omega) hl⟩)
    · exact .inr (.inl (textS_long f c e ps (by omega) (by omega) (by omega) (by omega)))
  · exact .inl (textS_bad f c e ps h)
end Go.Proofs.YthfnjphmodcnoaaDoor
namespace Go.Proofs.YthfnjphmodcnoaaDoor
set_option linter.unusedSimpArgs false
set_option linter.unusedVariables false

def endL (k : Nat) (c : Int) : List UInt8 := bl (endS k) ++ if k = 2 then 32 :: Lib.itoa c else []
def tailL (st pk : Nat) : List UInt8 := stepsL ++ 32 :: (Lib.decDigits st ++ 32 :: (kPicks ++ 32 :: Lib.decDigits pk))
def traceT (tr : List (List UInt8)) : List UInt8 := tr.flatMap (· ++ [10])
def repF (tr : List (List UInt8)) (k : Nat) (c : Int) (st pk : Nat) : List UInt8 := traceT tr ++ (endL k c ++ (10 :: (tailL st pk ++ [10])))
def headOK (k c st pk : Int) : Bool := decide (1 ≤ k) && decide (k ≤ 5) && (decide (c = 0) || decide (k = 2)) && inR st && inR pk
def repS (tr : List (List UInt8)) (k c st pk : Int) : List UInt8 × Int :=
  if headOK k c st pk && tr.all toldP then (if (repF tr k.toNat c st.toNat pk.toNat).length ≤ 65536 then (repF tr k.toNat c st.toNat pk.toNat, 0) else ([], 6)) else ([], 1)
theorem repF_lines (tr : List (List UInt8)) (k : Nat) (c : Int) (st pk : Nat) : repF tr k c st pk = (tr ++ [endL k c, tailL st pk]).flatMap (· ++ [10]) := by
  unfold repF traceT
  rw [List.flatMap_append]
  simp
theorem itoa_no (v : Int) (b : UInt8) (hb : b.toNat < 45) : b ∉ Lib.itoa v := by
  by_cases hv : v < 0
  · obtain ⟨n, rfl⟩ : ∃ n : Nat, v = -(n : Int) := ⟨v.natAbs, by omega⟩
    rw [Lib.itoa_neg n (by omega)]
    intro h
    rcases List.mem_cons.1 h with rfl | h
    · exact absurd hb (by decide)
    · exact dec_no n b (by omega) h
  · obtain ⟨n, rfl⟩ : ∃ n : Nat, v = (n : Int) := ⟨v.toNat, by omega⟩
    rw [Lib.itoa_nonneg]
    exact dec_no n b (by omega)
theorem told_no (x : List UInt8) (h : toldP x = true) (b : UInt8) (hb : b.toNat < 45) : b ∉ x := by
  rw [toldP_eq] at h
  simp only [Bool.or_eq_true, beq_iff_eq] at h
  rcases h with (h | h) | h
  · obtain ⟨v, hv⟩ := Option.isSome_iff_exists.1 h
    obtain ⟨rfl, -, -⟩ := (signedQ_iff x v).1 hv
    exact itoa_no v b hb
  · subst h
    intro h
    simp only [truL, List.mem_cons, List.not_mem_nil, or_false] at h
    rcases h with rfl | rfl | rfl | rfl <;> exact absurd hb (by decide)
  · subst h
    intro h
    simp only [falsL, List.mem_cons, List.not_mem_nil, or_false] at h
    rcases h with rfl | rfl | rfl | rfl | rfl <;> exact absurd hb (by decide)
theorem endS2 : bl (endS 2) = panicL := by decide +kernel
theorem endL_two (c : Int) : endL 2 c = panicL ++ 32 :: Lib.itoa c := by unfold endL; rw [endS2, if_pos rfl]
theorem endL_no10 (k : Nat) (hk : k ≤ 5) (c : Int) : (10 : UInt8) ∉ endL k c := by
  have hcs : k = 0 ∨ k = 1 ∨ k = 2 ∨ k = 3 ∨ k = 4 ∨ k = 5 := by omega
  rcases hcs with rfl | rfl | rfl | rfl | rfl | rfl
  · unfold endL; rw [if_neg (by decide), List.append_nil]; decide +kernel
  · unfold endL; rw [if_neg (by decide), List.append_nil]; decide +kernel
  · rw [endL_two]
    intro h
    rcases List.mem_append.1 h with h | h
    · exact absurd h (by decide)
    · rcases List.mem_cons.1 h with h | h
      · exact absurd h (by decide)
      · exact itoa_no c 10 (by decide) h
  · unfold endL; rw [if_neg (by decide), List.append_nil]; decide +kernel
  · unfold endL; rw [if_neg (by decide), List.append_nil]; decide +kernel
  · unfold endL; rw [if_neg (by decide), List.append_nil]; decide +kernel
theorem tail_split (st pk : Nat) : splitP 32 (tailL st pk) = [stepsL, Lib.decDigits st, kPicks, Lib.decDigits pk] := by
  unfold tailL
  rw [splitP_app 32 _ _ (by decide), splitP_app 32 _ _ (dec_no st 32 (by decide)), splitP_app 32 _ _ (by decide), splitP_none 32 _ (dec_no pk 32 (by decide))]
theorem tail_no10 (st pk : Nat) : (10 : UInt8) ∉ tailL st pk := by
  have h1 := dec_no st 10 (by decide)
  have h2 := dec_no pk 10 (by decide)
  unfold tailL
  simp [stepsL, kPicks, h1, h2]
theorem endL_untold (k : Nat) (h1 : 1 ≤ k) (h5 : k ≤ 5) (c : Int) : toldP (endL k c) = false := by
  have hcs : k = 1 ∨ k = 2 ∨ k = 3 ∨ k = 4 ∨ k = 5 := by omega
  rcases hcs with rfl | rfl | rfl | rfl | rfl
  · unfold endL; rw [if_neg (by decide), List.append_nil]; decide +kernel
  · cases h : toldP (endL 2 c) with
    | false => rfl
    | true => exact absurd (by rw [endL_two]; simp) (told_no _ h 32 (by decide))
  · unfold endL; rw [if_neg (by decide), List.append_nil]; decide +kernel
  · unfold endL; rw [if_neg (by decide), List.append_nil]; decide +kernel
  · unfold endL; rw [if_neg (by decide), List.append_nil]; decide +kernel
theorem itoa_pos (v : Int) : 1 ≤ (Lib.itoa v).length := by
  by_cases hv : v < 0
  · obtain ⟨n, rfl⟩ : ∃ n : Nat, v = -(n : Int) := ⟨v.natAbs, by omega⟩
    rw [Lib.itoa_neg n (by omega)]; simp
  · obtain ⟨n, rfl⟩ : ∃ n : Nat, v = (n : Int) := ⟨v.toNat, by omega⟩
    rw [Lib.itoa_nonneg]; exact dec_len1 n
theorem endQ_end (k : Nat) (h1 : 1 ≤ k) (h5 : k ≤ 5) (c : Int) (hc : c = 0 ∨ k = 2) (hl : -9223372036854775808 ≤ c) (hh : c ≤ 9223372036854775807) : endQ (endL k c) = some ((k : Int), c) := by
  rw [← refE_eq]
  have hcs : k = 2 ∨ (k = 1 ∨ k = 3 ∨ k = 4 ∨ k = 5) := by omega
  rcases hcs with rfl | hcs
  · rw [endL_two]
    have hsp : (32 : UInt8) ∈ panicL ++ 32 :: Lib.itoa c := by simp
    have n1 : panicL ++ 32 :: Lib.itoa c ≠ exitL := fun e => absurd hsp (by rw [e]; decide)
    have n3 : panicL ++ 32 :: Lib.itoa c ≠ deadL := fun e => absurd hsp (by rw [e]; decide)
    have n4 : panicL ++ 32 :: Lib.itoa c ≠ fuelL := fun e => absurd hsp (by rw [e]; decide)
    have n5 : panicL ++ 32 :: Lib.itoa c ≠ roomL := fun e => absurd hsp (by rw [e]; decide)
    have hlen : (panicL ++ 32 :: Lib.itoa c).length = (Lib.itoa c).length + 6 := by simp [panicL]
    have hp := itoa_pos c
    unfold refE
    rw [if_neg n1, if_neg n3, if_neg n4, if_neg n5, if_neg (by
      rintro (h | h)
      · omega
      · exact h rfl)]
    have hd : (panicL ++ 32 :: Lib.itoa c).drop 6 = Lib.itoa c := rfl
    rw [hd, (signedQ_iff _ c).2 ⟨rfl, hl, by omega⟩]
    have : in64 c = true := by unfold in64; simp [hl, hh]
    simp only [this, if_true]
    rfl
  · have hc0 : c = 0 := hc.resolve_right (by omega)
    subst hc0
    refine refE_word hcs ?_
    unfold endL
    rw [if_neg (by omega), List.append_nil]
theorem told_read (tr : List (List UInt8)) (k : Nat) (c : Int) (st pk : Nat) (h1 : 1 ≤ k) (h5 : k ≤ 5) (hc : c = 0 ∨ k = 2) (hl : -9223372036854775808 ≤ c) (hh : c ≤ 9223372036854775807) (hs : st ≤ 2147483647) (hp : pk ≤ 2147483647)
    (ht : tr.all toldP = true) (hlen : (repF tr k c st pk).length ≤ 65536) : readT (repF tr k c st pk) = .ok ⟨tr, k, c, st, pk⟩ := by
  have hta : ∀ z ∈ tr, toldP z = true := List.all_eq_true.1 ht
  have hL : linesP (repF tr k c st pk) = (tr ++ [endL k c, tailL st pk], true) := by
    rw [repF_lines]
    refine linesP_text _ (fun x hx => ?_)
    rcases List.mem_append.1 hx with hx | hx
    · exact told_no x (hta x hx) 10 (by decide)
    · simp only [List.mem_cons, List.not_mem_nil, or_false] at hx
      rcases hx with rfl | rfl
      · exact endL_no10 k h5 c
      · exact tail_no10 st pk
  rw [readT_small (by omega), hL]
  refine readE_ok ?_
  have hw : wholeN (tr ++ [endL k c, tailL st pk]) true = tr.length + 2 := by unfold wholeN; simp
  have hn : numsQ (tailL st pk) = some (st, pk) := numsQ_s (tail_split st pk) rfl rfl (numQ_dec st _ (by unfold mostP; omega)) (numQ_dec pk _ (by unfold mostP; omega))
  have htk : (tr ++ [endL k c, tailL st pk]).take tr.length = tr := List.take_left
  have := readP_good (L := tr ++ [endL k c, tailL st pk]) (en := true) (i := tr.length) (x := endL k c) (k := k) (v := c) (y := tailL st pk) (s := st) (p := pk) (by rw [hw]; omega) (by rw [htk]; exact hta)
    (by simp) (endL_untold k h1 h5 c) (endQ_end k h1 h5 c hc hl hh) (by rw [List.getElem?_append_right (by omega)]; simp) hn (by simp)
  rw [htk] at this
  exact this
theorem repS_cases (tr : List (List UInt8)) (k c st pk : Int) : repS tr k c st pk = ([], 1) ∨ repS tr k c st pk = ([], 6) ∨ (∃ k' st' pk' : Nat, k = k' ∧ st = st' ∧ pk = pk' ∧ 1 ≤ k' ∧ k' ≤ 5 ∧ (c = 0 ∨ k' = 2) ∧ st' ≤ 2147483647 ∧ pk' ≤ 2147483647 ∧ tr.all toldP = true ∧ (repF tr k' c st' pk').length ≤ 65536 ∧ repS tr k c st pk = (repF tr k' c st' pk', 0)) := by
  by_cases h : (headOK k c st pk && tr.all toldP) = true
  · have hc := h
    simp only [Bool.and_eq_true, Bool.or_eq_true, headOK, inR, decide_eq_true_eq] at hc
    obtain ⟨⟨⟨⟨⟨k1, k5⟩, hcc⟩, s0, s1⟩, p0, p1⟩, ht⟩ := hc
    obtain ⟨k, rfl⟩ : ∃ n : Nat, k = (n : Int) := ⟨k.toNat, by omega⟩
    obtain ⟨st, rfl⟩ : ∃ n : Nat, st = (n : Int) := ⟨st.toNat, by omega⟩
    obtain ⟨pk, rfl⟩ : ∃ n : Nat, pk = (n : Int) := ⟨pk.toNat, by omega⟩
    have hr : repS tr k c st pk = if (repF tr k c st pk).length ≤ 65536 then (repF tr k c st pk, 0) else ([], 6) := by unfold repS; rw [if_pos h]; rfl
    by_cases hl : (repF tr k c st pk).length ≤ 65536
    · exact .inr (.inr ⟨k, st, pk, rfl, rfl, rfl, by omega, by omega, by omega, by omega, by omega, ht, hl, by rw [hr, if_pos hl]⟩)
    · exact .inr (.inl (by rw [hr, if_neg hl]))
  · exact .inl (by unfold repS; rw [if_neg h])
theorem repS_head {tr : List (List UInt8)} {k c st pk : Int} (h : headOK k c st pk = false) : repS tr k c st pk = ([], 1) := by unfold repS; rw [h]; rfl
theorem repS_tr {tr : List (List UInt8)} {k c st pk : Int} (h : tr.all toldP = false) : repS tr k c st pk = ([], 1) := by unfold repS; rw [h, Bool.and_false]; rfl
theorem headOK_of {k : Nat} {c : Int} {st pk : Nat} (h1 : 1 ≤ k) (h5 : k ≤ 5) (hc : c = 0 ∨ k = 2) (hs : st ≤ 2147483647) (hp : pk ≤ 2147483647) : headOK k c st pk = true := by
  unfold headOK
  rw [inR_of (by omega) (by omega), inR_of (by omega) (by omega), decide_eq_true (show (1 : Int) ≤ k by omega), decide_eq_true (show (k : Int) ≤ 5 by omega)]
  rcases hc with rfl | rfl <;> simp
theorem repS_ok {tr : List (List UInt8)} {k : Nat} {c : Int} {st pk : Nat} (h : headOK k c st pk = true) (ht : tr.all toldP = true) : repS tr k c st pk = if (repF tr k c st pk).length ≤ 65536 then (repF tr k c st pk, 0) else ([], 6) := by
  unfold repS; rw [h, ht]; rfl
theorem repS_long {tr : List (List UInt8)} {k : Nat} {c : Int} {st pk : Nat} (h : headOK k c st pk = true) (ht : tr.all toldP = true) (hl : 65536 < (repF tr k c st pk).length) : repS tr k c st pk = ([], 6) := by rw [repS_ok h ht, if_neg (by omega)]
theorem repS_fit {tr : List (List UInt8)} {k : Nat} {c : Int} {st pk : Nat} (h : headOK k c st pk = true) (ht : tr.all toldP = true) (hl : (repF tr k c st pk).length ≤ 65536) : repS tr k c st pk = (repF tr k c st pk, 0) := by rw [repS_ok h ht, if_pos hl]
theorem traceT_next (l : List (List UInt8)) (i : Nat) (x : List UInt8) (h : l[i]? = some x) : traceT (l.take (i + 1)) = traceT (l.take i) ++ (x ++ [10]) := by
  unfold traceT
  rw [List.take_add_one, h, List.flatMap_append]
  simp
theorem traceT_len : ∀ (l : List (List UInt8)) (B : Nat), (∀ x ∈ l, x.length ≤ B) → (traceT l).length ≤ (B + 1) * l.length
  | [], B, _ => by simp [traceT]
  | x :: l, B, h => by
    have ih := traceT_len l B (fun y hy => h y (by simp [hy]))
    have h1 := h x (by simp)
    have : traceT (x :: l) = x ++ [10] ++ traceT l := by simp [traceT]
    rw [this, List.length_append, List.length_append, List.length_cons, List.length_cons, List.length_nil, Nat.mul_succ]
    omega
theorem endS_len (k : Nat) (hk : k ≤ 5) : (bl (endS k)).length ≤ 8 := by
  have hcs : k = 0 ∨ k = 1 ∨ k = 2 ∨ k = 3 ∨ k = 4 ∨ k = 5 := by omega
  rcases hcs with rfl | rfl | rfl | rfl | rfl | rfl <;> decide +kernel
theorem itoa_len20 (v : Int) (h1 : -9223372036854775808 ≤ v) (h2 : v ≤ 9223372036854775807) : (Lib.itoa v).length ≤ 21 := by
  by_cases hv : v < 0
  · obtain ⟨n, rfl⟩ : ∃ n : Nat, v = -(n : Int) := ⟨v.natAbs, by omega⟩
    rw [Lib.itoa_neg n (by omega), List.length_cons]
    have := dec_len n (by omega); omega
  · obtain ⟨n, rfl⟩ : ∃ n : Nat, v = (n : Int) := ⟨v.toNat, by omega⟩
    rw [Lib.itoa_nonneg]
    have := dec_len n (by omega); omega
end Go.Proofs.YthfnjphmodcnoaaDoor
namespace Go.Proofs.YthfnjphmodcnoaaDoor
open Go.RowKit
set_option linter.unusedSimpArgs false
set_option linter.unusedVariables false

theorem bl_mkx (x : List UInt8) : bl (⟨x.toArray⟩ : ByteArray) = x := by simp [bl]
theorem repc_c (s : ByteArray) (w : World) (h : Laid w) (hs : s.size ≤ 1073741824) : Calls Tryd.prog 37 #[.string s] w fun e w' => e = .returned (.bool (!toldP (bl s))) ∧ Below w.heap.size w w' := by
  have HT := Lib.hid (told_c s w h hs)
  obtain ⟨t, ht⟩ : ∃ t, toldP (bl s) = t := ⟨_, rfl⟩
  rw [ht] at HT ⊢
  clear h ht
  cases t
  all_goals
    go_enter Tryd.func37, Tryd.ntmps37
    go_wp2_with (first | (go_at_call 27; refine (HT.out).mono ?_; rintro e W1 ⟨rfl, hB⟩))
    go_ret
    exact ⟨rfl, hB⟩
def IdxPost (B : Nat) (w : World) (L : List (List UInt8)) (e : Ending) (w' : World) : Prop := (∃ r : Int, e = .returned (.int .i64 r) ∧ decide (0 ≤ r) = !(L.all toldP)) ∧ Below B w w'
theorem all_take (L : List (List UInt8)) (n k : Nat) (hn : L.length = n) (hk : n ≤ k) (h : ∀ z ∈ L.take k, toldP z = true) : L.all toldP = true := by
  rw [List.take_of_length_le (by omega)] at h
  exact List.all_eq_true.2 h
set_option maxRecDepth 20000 in
set_option maxHeartbeats 2000000 in
theorem idxg_c (v : Value) (L : List (List UInt8)) (w : World) (h : Laid w) (hn : L.length ≤ 1073741824) (hz : ∀ x ∈ L, x.length ≤ 1073741824) (hv : StrA w v L) :
    Calls Tryd.prog 56 #[v, .func (.func 37) #[] #[]] w (IdxPost w.heap.size w L) := by
  obtain ⟨p, cap, rfl, hv⟩ := hv
  obtain ⟨n, hn1⟩ : ∃ n, L.length = n := ⟨_, rfl⟩
  rw [hn1] at hn ⊢
  have HN := Lib.hid hn1
  have HV := Lib.hid hv
  have HZ := Lib.hid hz
  have HLd := Lib.hid h
  clear hv hn1 hz h
  go_enter Tryd.func56, Tryd.ntmps56
  go_wp2
  go_loopw [8] (fun i wr => ∃ k : Nat, i = .int .i64 k ∧ k ≤ n ∧ Hid (Below w.heap.size w wr) ∧ Hid (∀ z ∈ L.take k, toldP z = true)) (fun i _ => n - (intOf i).toNat)
  case atStart => exact ⟨0, rfl, by omega, Lib.hid (Below.refl _ _), Lib.hid (by simp)⟩
  case round =>
    obtain ⟨k, rfl, hk, hB, hT⟩ := hrel
    by_cases hlt : k < n
    · have hlti : (k : Int) < (n : Int) := by omega
      obtain ⟨x, hx⟩ : ∃ x, L[k]? = some x := ⟨_, List.getElem?_eq_getElem (by have := HN.out; omega)⟩
      obtain ⟨g1, o1, rfl, hg1⟩ := HV.out.resolve_left (fun e => by have := HN.out; rw [e] at this; simp at this; omega)
      have q0 := hg1 k x hx
      have q1 : wr.cell? ⟨g1, o1 + k, none⟩ = some (.string ⟨x.toArray⟩) := (hB.out.cell (p := ⟨g1, o1 + k, none⟩) (Lib.lt_of_cell q0)).trans q0
      have hxs : (⟨x.toArray⟩ : ByteArray).size ≤ 1073741824 := by rw [← bl_len, bl_mkx]; exact HZ.out x (List.mem_of_getElem? hx)
      have hR := repc_c ⟨x.toArray⟩ wr (HLd.out.below hB.out) hxs
      rw [bl_mkx] at hR
      have HX := Lib.hid hx
      cases ht : toldP x with
      | true =>
        rw [ht] at hR
        have HR := Lib.hid hR
        have HA : Hid (∀ z ∈ L.take (k + 1), toldP z = true) := Lib.hid (by
          rw [List.take_add_one, hx]
          intro z hz
          rcases List.mem_append.1 hz with hz | hz
          · exact hT.out z hz
          · simp only [Option.toList_some, List.mem_cons, List.not_mem_nil, or_false] at hz
            subst hz; exact ht)
        clear hg1 q0 hx hR ht hxs
        go_wp2_with (first | (go_at_call 37; refine HR.out.mono ?_))
        rintro e_ W1 ⟨rfl, hB1⟩
        have HB1 := Lib.hid (hB.out.trans (hB1.mono hB.out.size))
        clear hB1
        go_wp2
        exact ⟨⟨k + 1, by go_num, by omega, HB1, HA⟩, by simp [intOf]; omega⟩
      | false =>
        rw [ht] at hR
        have HR := Lib.hid hR
        have HF : Hid (L.all toldP = false) := Lib.hid (by
          cases hall : L.all toldP with
          | false => rfl
          | true => rw [List.all_eq_true.1 hall x (List.mem_of_getElem? hx)] at ht; cases ht)
        clear hg1 q0 hx hR ht hxs
        go_wp2_with (first | (go_at_call 37; refine HR.out.mono ?_))
        rintro e_ W1 ⟨rfl, hB1⟩
        have HB1 := Lib.hid (hB.out.trans (hB1.mono hB.out.size))
        clear hB1
        go_wp2
        go_ret
        exact ⟨⟨_, rfl, by rw [HF.out]; simp⟩, HB1.out⟩
    · have hke : n ≤ k := by omega
      have HF := Lib.hid (all_take L n k HN.out hke hT.out)
      obtain rfl : k = n := by omega
      go_wp2
      go_ret
      exact ⟨⟨_, rfl, by rw [HF.out]; rfl⟩, hB.out⟩
theorem cong_c (v : Value) (L : List (List UInt8)) (w : World) (h : Laid w) (hn : L.length ≤ 1073741824) (hz : ∀ x ∈ L, x.length ≤ 1073741824) (hv : StrA w v L) :
    Calls Tryd.prog 36 #[v, .func (.func 37) #[] #[]] w fun e w' => e = .returned (.bool (!(L.all toldP))) ∧ Below w.heap.size w w' := by
  have HI := Lib.hid (idxg_c v L w h hn hz hv)
  obtain ⟨t, ht⟩ : ∃ t, L.all toldP = t := ⟨_, rfl⟩
  unfold IdxPost at HI
  rw [ht] at HI ⊢
  obtain ⟨p, cap, rfl, -⟩ := hv
  clear h hn hz ht
  go_enter Tryd.func36, Tryd.ntmps36
  go_wp2_with (first | (go_at_call 56; refine HI.out.mono ?_))
  rintro e_ W1 ⟨⟨r, rfl, hr⟩, hB⟩
  cases t with
  | true =>
    have hr2 : ¬ (0 : Int) ≤ r := by simpa using hr
    clear hr
    go_wp2
    go_ret
    exact ⟨by first | rfl | simp [hr2], hB⟩
  | false =>
    have hr2 : (0 : Int) ≤ r := by simpa using hr
    clear hr
    go_wp2
    go_ret
    exact ⟨by first | rfl | simp [hr2], hB⟩
end Go.Proofs.YthfnjphmodcnoaaDoor
namespace Go.Proofs.YthfnjphmodcnoaaDoor
open Go.RowKit
set_option linter.unusedSimpArgs false
set_option linter.unusedVariables false

theorem itoaN_c (n : Nat) (hn : n ≤ 2147483647) (w : World) (h : Laid w) : Calls Tryd.prog 22 #[.int .i64 (n : Int)] w fun e w' => e = .returned (.string ⟨(Lib.decDigits n).toArray⟩) ∧ Below w.heap.size w w' := by
  have := itoa_c (n : Int) w h (by omega) (by omega)
  rw [show Lib.itoa (n : Int) = Lib.decDigits n by unfold Lib.itoa; rw [if_neg (by omega)]; simp] at this
  exact this
theorem laid_bb2 {bb : Nat} {W W' : World} (h : Laid W) (hb : Below bb W W') (h9 : 9 ≤ bb) : Laid W' := laid_bb h hb h9
theorem cat_le {a b : ByteArray} {m n : Nat} (ha : a.size ≤ m) (hb : b.size ≤ n) : (a ++ b).size ≤ m + n := by rw [ByteArray.size_append]; omega
/-- the string that the first write gets -/
def headS (f c e : Nat) : ByteArray := ⟨(headT f c e).toArray⟩
theorem bl_head (f c e : Nat) : bl (headS f c e) = headT f c e := by simp [headS, bl]
theorem head_str (f c e : Nat) (s : ByteArray) (h : bl s = headT f c e) : s = headS f c e := by
  apply ByteArray.ext
  apply Array.toList_inj.1
  rw [show s.data.toList = bl s from rfl, h]; simp [headS]
set_option maxRecDepth 20000 in
set_option maxHeartbeats 4000000 in
theorem text_c (v : Value) (F C E : Int) (ps : List Nat) (w : World) (h : Laid w) (hv : U16s w v ps) (hl : ∀ p ∈ ps, p ≤ 65535) (hn : ps.length ≤ 140737488355328) :
    Calls Tryd.prog 11 #[.agg #[v, .int .i64 F, .int .i64 C, .int .i64 E]] w fun e w' => e = .returned (.tuple #[.string ⟨(textS F C E ps).1.toArray⟩, .int .i64 (textS F C E ps).2]) ∧ Below w.heap.size w w' := by
  obtain ⟨n, hN⟩ : ∃ n, ps.length = n := ⟨_, rfl⟩
  obtain ⟨p0, cap, rfl, hv⟩ := hv
  rw [hN] at hn ⊢
  have HV := Lib.hid hv
  have HN := Lib.hid hN
  have HP := Lib.hid hl
  have HLd := Lib.hid h
  have h9 := h.size
  clear hv hN hl h
  go_enter Tryd.func11, Tryd.ntmps11
  go_wp2_with fail
  obtain ⟨W1, hW1⟩ : ∃ W1, W1 = (w.alloc (.cells #[.slice p0 n cap, .int .i64 F, .int .i64 C, .int .i64 E] 27)).alloc (.cells #[.int .i64 F, .int .i64 C, .int .i64 E] 3) := ⟨_, rfl⟩
  try rw [← hW1]
  have hB1 : Below w.heap.size w W1 := by rw [hW1]; exact ((Below.refl _ _).alloc (Nat.le_refl _) _).alloc (by simp) _
  have hz1 : W1.heap.size = w.heap.size + 2 := by rw [hW1]; simp
  obtain ⟨q0, hq0⟩ : ∃ q0, w.heap.size = q0 := ⟨_, rfl⟩
  have hr0 : W1.heap[q0]? = some (.cells #[.slice p0 n cap, .int .i64 F, .int .i64 C, .int .i64 E] 27 (0, 0)) := by
    rw [hW1, ← hq0]
    show (((w.heap.push _).push _))[w.heap.size]? = _
    rw [Array.getElem?_push, if_neg (by simp), Array.getElem?_push_size]
  have hr1 : W1.heap[q0 + 1]? = some (.cells #[.int .i64 F, .int .i64 C, .int .i64 E] 3 (0, 0)) := by
    rw [hW1, ← hq0]; exact heap_alloc2_new w _ _
  have HL1 := Lib.hid (HLd.out.below hB1)
  have HB1 := Lib.hid hB1
  rw [hq0] at hz1 h9 hB1 ⊢
  have Hq0 := Lib.hid hq0
  have hd : W1.cell? ⟨q0 + 1, 0, none⟩ = some (.int .i64 F) ∧ W1.cell? ⟨q0 + 1, 1, none⟩ = some (.int .i64 C) ∧ W1.cell? ⟨q0 + 1, 2, none⟩ = some (.int .i64 E) := by
    unfold World.cell?; rw [hr1]; exact ⟨rfl, rfl, rfl⟩
  have hd' : W1.cell? ⟨q0, 0, none⟩ = some (.slice p0 n cap) ∧ W1.cell? ⟨q0, 1, none⟩ = some (.int .i64 F) ∧ W1.cell? ⟨q0, 2, none⟩ = some (.int .i64 C) ∧ W1.cell? ⟨q0, 3, none⟩ = some (.int .i64 E) := by
    unfold World.cell?; rw [hr0]; exact ⟨rfl, rfl, rfl, rfl⟩
  obtain ⟨g0, g1, g2⟩ := hd
  obtain ⟨d0, d1, d2, d3⟩ := hd'
  have HVV : Hid (ps = [] ∨ ∃ g o, p0 = some ⟨g, o, none⟩ ∧ ∀ (i : Nat) (v : Nat), ps[i]? = some v → W1.cell? ⟨g, o + i, none⟩ = some (.int .u16 (v : Int))) := Lib.hid (HV.out.imp id fun ⟨g, o, h3, h4⟩ => ⟨g, o, h3, fun i v hv => (HB1.out.cell (p := ⟨g, o + i, none⟩) (Lib.lt_of_cell (h4 i v hv))).trans (h4 i v hv)⟩)
  clear hr0 hr1 hB1 hW1 HV hq0
  go_loopw [18] (fun i wr => wr = W1 ∧ ((i = .int .i64 0) ∨ (i = .int .i64 1 ∧ Hid (inR F = true)) ∨ (i = .int .i64 2 ∧ Hid (inR F = true ∧ inR C = true)) ∨ (i = .int .i64 3 ∧ Hid (inR F = true ∧ inR C = true ∧ inR E = true)))) (fun i _ => 3 - (intOf i).toNat)
  case atStart => exact ⟨rfl, .inl rfl⟩
  case round =>
    obtain ⟨rfl, hc⟩ := hrel
    rcases hc with rfl | ⟨rfl, hc⟩ | ⟨rfl, hc⟩ | ⟨rfl, hc⟩
    · by_cases hlo : F < 0
      · have hts : textS F C E ps = ([], 1) := textS_bad F C E ps (by rw [inR_not (.inl hlo)]; simp)
        go_wp2
        go_ret2
        exact ⟨by first | rfl | (rw [hts]; rfl), HB1.out⟩
      by_cases hhi : 2147483647 < F
      · have hts : textS F C E ps = ([], 1) := textS_bad F C E ps (by rw [inR_not (.inr hhi)]; simp)
        go_wp2
        go_ret2
        exact ⟨by first | rfl | (rw [hts]; rfl), HB1.out⟩
      have hlo2 : 0 ≤ F := by omega
      have hhi2 : F ≤ 2147483647 := by omega
      go_wp2
      exact ⟨⟨by first | trivial | rfl, .inr (.inl ⟨rfl, Lib.hid (inR_of (by omega) (by omega))⟩)⟩, by simp [intOf]⟩
    · by_cases hlo : C < 0
      · have hts : textS F C E ps = ([], 1) := textS_bad F C E ps (by rw [inR_not (.inl hlo)]; simp)
        go_wp2
        go_ret2
        exact ⟨by first | rfl | (rw [hts]; rfl), HB1.out⟩
      by_cases hhi : 2147483647 < C
      · have hts : textS F C E ps = ([], 1) := textS_bad F C E ps (by rw [inR_not (.inr hhi)]; simp)
        go_wp2
        go_ret2
        exact ⟨by first | rfl | (rw [hts]; rfl), HB1.out⟩
      have hlo2 : 0 ≤ C := by omega
      have hhi2 : C ≤ 2147483647 := by omega
      go_wp2
      exact ⟨⟨by first | trivial | rfl, .inr (.inr (.inl ⟨rfl, Lib.hid (⟨hc.out, inR_of (by omega) (by omega)⟩)⟩))⟩, by simp [intOf]⟩
    · by_cases hlo : E < 0
      · have hts : textS F C E ps = ([], 1) := textS_bad F C E ps (by rw [inR_not (.inl hlo)]; simp)
        go_wp2
        go_ret2
        exact ⟨by first | rfl | (rw [hts]; rfl), HB1.out⟩
      by_cases hhi : 2147483647 < E
      · have hts : textS F C E ps = ([], 1) := textS_bad F C E ps (by rw [inR_not (.inr hhi)]; simp)
        go_wp2
        go_ret2
        exact ⟨by first | rfl | (rw [hts]; rfl), HB1.out⟩
      have hlo2 : 0 ≤ E := by omega
      have hhi2 : E ≤ 2147483647 := by omega
      go_wp2
      exact ⟨⟨by first | trivial | rfl, .inr (.inr (.inr ⟨rfl, Lib.hid (⟨hc.out.1, hc.out.2, inR_of (by omega) (by omega)⟩)⟩))⟩, by simp [intOf]⟩
    · obtain ⟨r1, r2, r3⟩ := hc.out
      simp only [inR, Bool.and_eq_true, decide_eq_true_eq] at r1 r2 r3
      obtain ⟨f, rfl⟩ : ∃ m : Nat, F = (m : Int) := ⟨F.toNat, by omega⟩
      obtain ⟨c, rfl⟩ : ∃ m : Nat, C = (m : Int) := ⟨C.toNat, by omega⟩
      obtain ⟨e, rfl⟩ : ∃ m : Nat, E = (m : Int) := ⟨E.toNat, by omega⟩
      have hf : f ≤ 2147483647 := by omega
      have hcc : c ≤ 2147483647 := by omega
      have he : e ≤ 2147483647 := by omega
      clear r1 r2 r3 hc
      have E0 := Lib.hid d0
      have E1 := Lib.hid d1
      have E2 := Lib.hid d2
      have E3 := Lib.hid d3
      clear d0 d1 d2 d3 g0 g1 g2
      go_wp2_with fail
      obtain ⟨W2, hW2⟩ : ∃ W2, W2 = wr := ⟨_, rfl⟩
      rw [← hW2] at E0 E1 E2 E3 HL1 HB1 hz1 HVV ⊢
      clear hW2
      obtain ⟨bb, hbb⟩ : ∃ bb, W2.heap.size = bb := ⟨_, rfl⟩
      have hq1 : q0 < bb := by omega
      have HL2 := HL1
      obtain ⟨sf, hsf⟩ : ∃ s : ByteArray, s = ⟨(Lib.decDigits f).toArray⟩ := ⟨_, rfl⟩
      obtain ⟨sc, hsc⟩ : ∃ s : ByteArray, s = ⟨(Lib.decDigits c).toArray⟩ := ⟨_, rfl⟩
      obtain ⟨se, hse⟩ : ∃ s : ByteArray, s = ⟨(Lib.decDigits e).toArray⟩ := ⟨_, rfl⟩
      have hzf : sf.size ≤ 20 := by rw [hsf]; have := dec_len f (by omega); simpa [ByteArray.size] using this
      have hzc : sc.size ≤ 20 := by rw [hsc]; have := dec_len c (by omega); simpa [ByteArray.size] using this
      have hze : se.size ≤ 20 := by rw [hse]; have := dec_len e (by omega); simpa [ByteArray.size] using this
      have HIf : Hid (∀ W, Laid W → Calls Tryd.prog 22 #[.int .i64 (f : Int)] W fun e w' => e = .returned (.string sf) ∧ Below W.heap.size W w') := Lib.hid (fun W hW => by rw [hsf]; exact itoaN_c f hf W hW)
      have HIc : Hid (∀ W, Laid W → Calls Tryd.prog 22 #[.int .i64 (c : Int)] W fun e w' => e = .returned (.string sc) ∧ Below W.heap.size W w') := Lib.hid (fun W hW => by rw [hsc]; exact itoaN_c c hcc W hW)
      have HIe : Hid (∀ W, Laid W → Calls Tryd.prog 22 #[.int .i64 (e : Int)] W fun e w' => e = .returned (.string se) ∧ Below W.heap.size W w') := Lib.hid (fun W hW => by rw [hse]; exact itoaN_c e he W hW)
      have Hsf := Lib.hid hsf
      have Hsc := Lib.hid hsc
      have Hse := Lib.hid hse
      clear hsf hsc hse
      have z1 : ((⟨#[102, 117, 101, 108, 32]⟩ : ByteArray) ++ sf).size ≤ 25 := cat_le (m := 5) (n := 20) (by decide) hzf
      have z2 : (((⟨#[102, 117, 101, 108, 32]⟩ : ByteArray) ++ sf) ++ (⟨#[10, 99, 101, 108, 108, 115, 32]⟩ : ByteArray)).size ≤ 32 := cat_le (m := 25) (n := 7) z1 (by decide)
      have z3 : ((((⟨#[102, 117, 101, 108, 32]⟩ : ByteArray) ++ sf) ++ (⟨#[10, 99, 101, 108, 108, 115, 32]⟩ : ByteArray)) ++ sc).size ≤ 52 := cat_le (m := 32) (n := 20) z2 hzc
      have z4 : (((((⟨#[102, 117, 101, 108, 32]⟩ : ByteArray) ++ sf) ++ (⟨#[10, 99, 101, 108, 108, 115, 32]⟩ : ByteArray)) ++ sc) ++ (⟨#[10, 101, 118, 101, 114, 121, 32]⟩ : ByteArray)).size ≤ 59 := cat_le (m := 52) (n := 7) z3 (by decide)
      have z5 : ((((((⟨#[102, 117, 101, 108, 32]⟩ : ByteArray) ++ sf) ++ (⟨#[10, 99, 101, 108, 108, 115, 32]⟩ : ByteArray)) ++ sc) ++ (⟨#[10, 101, 118, 101, 114, 121, 32]⟩ : ByteArray)) ++ se).size ≤ 79 := cat_le (m := 59) (n := 20) z4 hze
      have k1 : (⟨#[102, 117, 101, 108, 32]⟩ : ByteArray).size = 5 := by decide
      have k2 : (⟨#[10, 99, 101, 108, 108, 115, 32]⟩ : ByteArray).size = 7 := by decide
      have k3 : (⟨#[10, 101, 118, 101, 114, 121, 32]⟩ : ByteArray).size = 7 := by decide
      have k4 : (⟨#[10, 112, 105, 99, 107, 115]⟩ : ByteArray).size = 6 := by decide
      have hHD : (((((((⟨#[102, 117, 101, 108, 32]⟩ : ByteArray) ++ sf) ++ (⟨#[10, 99, 101, 108, 108, 115, 32]⟩ : ByteArray)) ++ sc) ++ (⟨#[10, 101, 118, 101, 114, 121, 32]⟩ : ByteArray)) ++ se) ++ (⟨#[10, 112, 105, 99, 107, 115]⟩ : ByteArray)) = headS f c e := head_str f c e _ (by simp [bl, Hsf.out, Hsc.out, Hse.out, headT])
      have Hz := Lib.hid (And.intro z1 (And.intro z2 (And.intro z3 (And.intro z4 (And.intro z5 (And.intro k1 (And.intro k2 (And.intro k3 k4))))))))
      have HHD := Lib.hid hHD
      clear z1 z2 z3 z4 z5 k1 k2 k3 k4 hHD
      refine wp_region_held_drew (S := (fun w' => Below bb W2 w' ∧ w'.cell? ⟨q0, 1, none⟩ = some (.int .i64 (f : Int)) ∧ w'.cell? ⟨q0, 2, none⟩ = some (.int .i64 (c : Int)) ∧ w'.cell? ⟨q0, 3, none⟩ = some (.int .i64 (e : Int)))) (by kernel_rfl) ?_ (fun hHeld => ?_)
      · exact ⟨(Below.refl _ _).drew, E1.out, E2.out, E3.out⟩
      have HBW4 := Lib.hid (show Below bb W2 W2.drew from (Below.refl _ _).drew)
      obtain ⟨W4, hW4⟩ : ∃ W4, W4 = W2.drew := ⟨_, rfl⟩
      rw [← hW4] at HBW4 hHeld ⊢
      clear hW4
      refine h_yes 0 29 (v := ?_) rfl rfl (by kernel_rfl) (by kernel_rfl) (by kernel_rfl) (fun _ _ _ h => h) (by kernel_rfl) (by assumption) ?_ ?_
      rotate_left 1
      · (intro w hSw; (try dsimp only at hSw); obtain ⟨hS1, hS2, hS3, hS4⟩ := hSw; go_simp; try with_reducible rfl)
      try simp only [Act.put, List.setIfInBounds_toArray, List.set_cons_zero, List.set_cons_succ]
      refine h_yes 1 30 (v := ?_) rfl rfl (by kernel_rfl) (by kernel_rfl) (by kernel_rfl) (fun _ _ _ h => h) (by kernel_rfl) (by assumption) ?_ ?_
      rotate_left 1
      · (intro w hSw; (try dsimp only at hSw); obtain ⟨hS1, hS2, hS3, hS4⟩ := hSw; go_simp; try with_reducible rfl)
      try simp only [Act.put, List.setIfInBounds_toArray, List.set_cons_zero, List.set_cons_succ]
      refine h_yes 5 34 (v := ?_) rfl rfl (by kernel_rfl) (by kernel_rfl) (by kernel_rfl) (fun _ _ _ h => h) (by kernel_rfl) (by assumption) ?_ ?_
      rotate_left 1
      · (intro w hSw; (try dsimp only at hSw); obtain ⟨hS1, hS2, hS3, hS4⟩ := hSw; go_simp; try with_reducible rfl)
      try simp only [Act.put, List.setIfInBounds_toArray, List.set_cons_zero, List.set_cons_succ]
      refine h_yes 6 35 (v := ?_) rfl rfl (by kernel_rfl) (by kernel_rfl) (by kernel_rfl) (fun _ _ _ h => h) (by kernel_rfl) (by assumption) ?_ ?_
      rotate_left 1
      · (intro w hSw; (try dsimp only at hSw); obtain ⟨hS1, hS2, hS3, hS4⟩ := hSw; go_simp; try with_reducible rfl)
      try simp only [Act.put, List.setIfInBounds_toArray, List.set_cons_zero, List.set_cons_succ]
      refine h_yes 10 39 (v := ?_) rfl rfl (by kernel_rfl) (by kernel_rfl) (by kernel_rfl) (fun _ _ _ h => h) (by kernel_rfl) (by assumption) ?_ ?_
      rotate_left 1
      · (intro w hSw; (try dsimp only at hSw); obtain ⟨hS1, hS2, hS3, hS4⟩ := hSw; go_simp; try with_reducible rfl)
      try simp only [Act.put, List.setIfInBounds_toArray, List.set_cons_zero, List.set_cons_succ]
      refine h_yes 11 40 (v := ?_) rfl rfl (by kernel_rfl) (by kernel_rfl) (by kernel_rfl) (fun _ _ _ h => h) (by kernel_rfl) (by assumption) ?_ ?_
      rotate_left 1
      · (intro w hSw; (try dsimp only at hSw); obtain ⟨hS1, hS2, hS3, hS4⟩ := hSw; go_simp; try with_reducible rfl)
      try simp only [Act.put, List.setIfInBounds_toArray, List.set_cons_zero, List.set_cons_succ]
      refine h_step 2 rfl (by kernel_rfl) (by kernel_rfl) (fun K hK => ?_)
      go_simp
      refine (HIf.out W4 (laid_bb HL2.out HBW4.out (by omega))).mono ?_
      rintro e_ W5 ⟨rfl, hiW5⟩
      have hsW4 := HBW4.out.size
      have HBW5 := Lib.hid (below_tw HBW4.out hiW5)
      clear hiW5
      refine hK.out _ _ ⟨HBW5.out, (HBW5.out.cell (p := ⟨q0, 1, none⟩) hq1).trans E1.out, (HBW5.out.cell (p := ⟨q0, 2, none⟩) hq1).trans E2.out, (HBW5.out.cell (p := ⟨q0, 3, none⟩) hq1).trans E3.out⟩ (fun hHeld => ?_)
      clear hK K
      try simp only [Act.put, List.setIfInBounds_toArray, List.set_cons_zero, List.set_cons_succ]
      refine h_yes 3 32 (v := .string ((⟨#[102, 117, 101, 108, 32]⟩ : ByteArray) ++ sf)) rfl rfl (by kernel_rfl) (by kernel_rfl) (by kernel_rfl) (fun _ _ _ h => h) (by kernel_rfl) (by assumption) (fun w _ => hy_cat rfl rfl rfl (by obtain ⟨z1, z2, z3, z4, z5, k1, k2, k3, k4⟩ := Hz.out; have := hzf; have := hzc; have := hze; omega)) ?_
      try simp only [Act.put, List.setIfInBounds_toArray, List.set_cons_zero, List.set_cons_succ]
      refine h_yes 4 33 (v := .string (((⟨#[102, 117, 101, 108, 32]⟩ : ByteArray) ++ sf) ++ (⟨#[10, 99, 101, 108, 108, 115, 32]⟩ : ByteArray))) rfl rfl (by kernel_rfl) (by kernel_rfl) (by kernel_rfl) (fun _ _ _ h => h) (by kernel_rfl) (by assumption) (fun w _ => hy_cat rfl rfl rfl (by obtain ⟨z1, z2, z3, z4, z5, k1, k2, k3, k4⟩ := Hz.out; have := hzf; have := hzc; have := hze; omega)) ?_
      try simp only [Act.put, List.setIfInBounds_toArray, List.set_cons_zero, List.set_cons_succ]
      refine h_step 7 rfl (by kernel_rfl) (by kernel_rfl) (fun K hK => ?_)
      go_simp
      refine (HIc.out W5 (laid_bb HL2.out HBW5.out (by omega))).mono ?_
      rintro e_ W6 ⟨rfl, hiW6⟩
      have hsW5 := HBW5.out.size
      have HBW6 := Lib.hid (below_tw HBW5.out hiW6)
      clear hiW6
      refine hK.out _ _ ⟨HBW6.out, (HBW6.out.cell (p := ⟨q0, 1, none⟩) hq1).trans E1.out, (HBW6.out.cell (p := ⟨q0, 2, none⟩) hq1).trans E2.out, (HBW6.out.cell (p := ⟨q0, 3, none⟩) hq1).trans E3.out⟩ (fun hHeld => ?_)
      clear hK K
      try simp only [Act.put, List.setIfInBounds_toArray, List.set_cons_zero, List.set_cons_succ]
      refine h_yes 8 37 (v := .string ((((⟨#[102, 117, 101, 108, 32]⟩ : ByteArray) ++ sf) ++ (⟨#[10, 99, 101, 108, 108, 115, 32]⟩ : ByteArray)) ++ sc)) rfl rfl (by kernel_rfl) (by kernel_rfl) (by kernel_rfl) (fun _ _ _ h => h) (by kernel_rfl) (by assumption) (fun w _ => hy_cat rfl rfl rfl (by obtain ⟨z1, z2, z3, z4, z5, k1, k2, k3, k4⟩ := Hz.out; have := hzf; have := hzc; have := hze; omega)) ?_
      try simp only [Act.put, List.setIfInBounds_toArray, List.set_cons_zero, List.set_cons_succ]
      refine h_yes 9 38 (v := .string (((((⟨#[102, 117, 101, 108, 32]⟩ : ByteArray) ++ sf) ++ (⟨#[10, 99, 101, 108, 108, 115, 32]⟩ : ByteArray)) ++ sc) ++ (⟨#[10, 101, 118, 101, 114, 121, 32]⟩ : ByteArray))) rfl rfl (by kernel_rfl) (by kernel_rfl) (by kernel_rfl) (fun _ _ _ h => h) (by kernel_rfl) (by assumption) (fun w _ => hy_cat rfl rfl rfl (by obtain ⟨z1, z2, z3, z4, z5, k1, k2, k3, k4⟩ := Hz.out; have := hzf; have := hzc; have := hze; omega)) ?_
      try simp only [Act.put, List.setIfInBounds_toArray, List.set_cons_zero, List.set_cons_succ]
      refine h_step 12 rfl (by kernel_rfl) (by kernel_rfl) (fun K hK => ?_)
      go_simp
      refine (HIe.out W6 (laid_bb HL2.out HBW6.out (by omega))).mono ?_
      rintro e_ W7 ⟨rfl, hiW7⟩
      have hsW6 := HBW6.out.size
      have HBW7 := Lib.hid (below_tw HBW6.out hiW7)
      clear hiW7
      refine hK.out _ _ ⟨HBW7.out, (HBW7.out.cell (p := ⟨q0, 1, none⟩) hq1).trans E1.out, (HBW7.out.cell (p := ⟨q0, 2, none⟩) hq1).trans E2.out, (HBW7.out.cell (p := ⟨q0, 3, none⟩) hq1).trans E3.out⟩ (fun hHeld => ?_)
      clear hK K
      try simp only [Act.put, List.setIfInBounds_toArray, List.set_cons_zero, List.set_cons_succ]
      refine h_yes 13 42 (v := .string ((((((⟨#[102, 117, 101, 108, 32]⟩ : ByteArray) ++ sf) ++ (⟨#[10, 99, 101, 108, 108, 115, 32]⟩ : ByteArray)) ++ sc) ++ (⟨#[10, 101, 118, 101, 114, 121, 32]⟩ : ByteArray)) ++ se)) rfl rfl (by kernel_rfl) (by kernel_rfl) (by kernel_rfl) (fun _ _ _ h => h) (by kernel_rfl) (by assumption) (fun w _ => hy_cat rfl rfl rfl (by obtain ⟨z1, z2, z3, z4, z5, k1, k2, k3, k4⟩ := Hz.out; have := hzf; have := hzc; have := hze; omega)) ?_
      try simp only [Act.put, List.setIfInBounds_toArray, List.set_cons_zero, List.set_cons_succ]
      refine h_yes 14 43 (v := .string (((((((⟨#[102, 117, 101, 108, 32]⟩ : ByteArray) ++ sf) ++ (⟨#[10, 99, 101, 108, 108, 115, 32]⟩ : ByteArray)) ++ sc) ++ (⟨#[10, 101, 118, 101, 114, 121, 32]⟩ : ByteArray)) ++ se) ++ (⟨#[10, 112, 105, 99, 107, 115]⟩ : ByteArray))) rfl rfl (by kernel_rfl) (by kernel_rfl) (by kernel_rfl) (fun _ _ _ h => h) (by kernel_rfl) (by assumption) (fun w _ => hy_cat rfl rfl rfl (by obtain ⟨z1, z2, z3, z4, z5, k1, k2, k3, k4⟩ := Hz.out; have := hzf; have := hzc; have := hze; omega)) ?_
      try simp only [Act.put, List.setIfInBounds_toArray, List.set_cons_zero, List.set_cons_succ]
      refine h_yes 15 6 (v := ?_) rfl rfl (by kernel_rfl) (by kernel_rfl) (by kernel_rfl) (fun _ _ _ h => h) (by kernel_rfl) (by assumption) ?_ ?_
      rotate_left 1
      · (intro w hSw; (try dsimp only at hSw); obtain ⟨hS1, hS2, hS3, hS4⟩ := hSw; go_simp; try with_reducible rfl)
      try simp only [Act.put, List.setIfInBounds_toArray, List.set_cons_zero, List.set_cons_succ]
      refine wpAnyH_done (by kernel_rfl) ?_ _
      rw [HHD.out]
      have hW27 := HBW7.out
      have hs7 := hW27.size
      have HL7 := Lib.hid (laid_bb HL2.out hW27 (by omega))
      have HB7 := Lib.hid (below_tw (B := w.heap.size) HB1.out (show Below W2.heap.size W2 W7 by rw [hbb]; exact hW27) (by have := Hq0.out; omega))
      have E0' : Hid (W7.cell? ⟨q0, 0, none⟩ = some (.slice p0 n cap)) := Lib.hid ((hW27.cell (p := ⟨q0, 0, none⟩) hq1).trans E0.out)
      have HV7 : Hid (ps = [] ∨ ∃ g o, p0 = some ⟨g, o, none⟩ ∧ ∀ (i : Nat) (v : Nat), ps[i]? = some v → W7.cell? ⟨g, o + i, none⟩ = some (.int .u16 (v : Int))) := Lib.hid (HVV.out.imp id fun ⟨g, o, h3, h4⟩ => ⟨g, o, h3, fun i v hv => (hW27.cell (p := ⟨g, o + i, none⟩) (by rw [← hbb]; exact Lib.lt_of_cell (h4 i v hv))).trans (h4 i v hv)⟩)
      clear HBW7 HBW6 HBW5 HBW4 hsW4 hsW5 hsW6 E0 E1 E2 E3 HVV HIf HIc HIe Hz HHD hzf hzc hze hW27 HL2 HL1 HLd hHeld
      have hhl := headT_len f c e hf hcc he
      go_wp2_with fail
      have hbn := bldAt_new W7
      obtain ⟨W8, hW8⟩ : ∃ W8, W8 = W7.alloc (.cells #[.pointer none, .slice none 0 0] 65) := ⟨_, rfl⟩
      rw [← hW8] at hbn ⊢
      have hB8 : Below W7.heap.size W7 W8 := by rw [hW8]; exact (Below.refl _ _).alloc (Nat.le_refl _) _
      have hz8 : W8.heap.size = W7.heap.size + 1 := by rw [hW8]; simp
      clear hW8
      obtain ⟨b8, hb8⟩ : ∃ b8, W7.heap.size = b8 := ⟨_, rfl⟩
      rw [hb8] at hbn hz8 hs7 hB8 ⊢
      have hq8 : q0 < b8 := by omega
      have HWS := Lib.hid (wstr_c b8 [] (headS f c e) W8 hbn (by rw [List.length_nil, Nat.zero_add, show (headS f c e).size = (headT f c e).length from by rw [← bl_len, bl_head]]; omega) (by omega))
      refine HWS.out.mono ?_
      rintro e_ W9 ⟨rfl, hbl9, hB9⟩
      rw [List.nil_append, bl_head] at hbl9
      have hB79 := hB8.trans hB9
      have hs9 := hB79.size
      have c0 : W9.cell? ⟨q0, 0, none⟩ = some (.slice p0 n cap) := (hB79.cell (p := ⟨q0, 0, none⟩) hq8).trans E0'.out
      have HL9 := Lib.hid (laid_bb HL7.out hB79 (by omega))
      have HB9 := Lib.hid (HB7.out.trans (hB79.mono (by have := Hq0.out; omega)))
      have HV9 : Hid (ps = [] ∨ ∃ g o, p0 = some ⟨g, o, none⟩ ∧ ∀ (i : Nat) (v : Nat), ps[i]? = some v → W9.cell? ⟨g, o + i, none⟩ = some (.int .u16 (v : Int)) ∧ g < b8) := Lib.hid (HV7.out.imp id fun ⟨g, o, h3, h4⟩ => ⟨g, o, h3, fun i v hv => ⟨(hB79.cell (p := ⟨g, o + i, none⟩) (by rw [← hb8]; exact Lib.lt_of_cell (h4 i v hv))).trans (h4 i v hv), by rw [← hb8]; exact Lib.lt_of_cell (h4 i v hv)⟩⟩)
      have HBL9 := Lib.hid hbl9
      clear hbl9 hB79 hB9 hB8 HWS HV7 E0' hbn HL7 HB7
      go_wp2_with fail
      go_loopw [49] (fun i wr => ∃ k : Nat, i = .int .i64 k ∧ k ≤ n ∧ Hid (BldAt b8 wr (headT f c e ++ picksT (ps.take k))) ∧ Hid ((headT f c e ++ picksT (ps.take k)).length ≤ 65536) ∧ Hid (Below b8 W9 wr)) (fun i _ => n - (intOf i).toNat)
      case atStart => exact ⟨0, rfl, by omega, Lib.hid (by simpa [picksT] using HBL9.out), Lib.hid (by simp [picksT]; omega), Lib.hid (Below.refl _ _)⟩
      case round =>
        obtain ⟨k, rfl, hk, hbl, hlen, hBr⟩ := hrel
        by_cases hlt : k < n
        · have hlti : (k : Int) < (n : Int) := by omega
          obtain ⟨v, hv⟩ : ∃ v, ps[k]? = some v := ⟨_, List.getElem?_eq_getElem (by rw [HN.out]; exact hlt)⟩
          have hvl := HP.out v (List.mem_of_getElem? hv)
          obtain ⟨g1, o1, rfl, hg1⟩ := HV9.out.resolve_left (fun e => by have := HN.out; rw [e] at this; simp at this; omega)
          obtain ⟨hc1, hg8⟩ := hg1 k v hv
          have q1 : wr.cell? ⟨g1, o1 + k, none⟩ = some (.int .u16 (v : Int)) := (hBr.out.cell (p := ⟨g1, o1 + k, none⟩) hg8).trans hc1
          have hwv : IntKind.i64.wrap (v : Int) = (v : Int) := by rw [IntKind.wrap_i64]; omega
          obtain ⟨sv, hsv⟩ : ∃ s : ByteArray, s = ⟨(Lib.decDigits v).toArray⟩ := ⟨_, rfl⟩
          have hzv : sv.size ≤ 20 := by rw [hsv]; have := dec_len v (by omega); simpa [ByteArray.size] using this
          have hLr := laid_bb HL9.out hBr.out (by omega)
          have HI := Lib.hid (itoaN_c v (by omega) wr hLr)
          rw [← hsv] at HI
          have hbl1 : bl ((⟨#[32]⟩ : ByteArray) ++ sv) = 32 :: Lib.decDigits v := by rw [hsv]; simp [bl]
          have hz32 : ((⟨#[32]⟩ : ByteArray) ++ sv).size ≤ 21 := cat_le (m := 1) (n := 20) (by decide) hzv
          have HX := Lib.hid (picksT_next ps k v hv)
          have Hz := Lib.hid hz32
          have Hb := Lib.hid hbl1
          have Hv := Lib.hid hv
          have hadd : ¬ (9223372036854775807 < 1 + sv.size) := by omega
          have hszr := hBr.out.size
          clear hv hsv hbl1 hz32 hg1 hc1 hLr hvl
          go_wp2_with (go_at_call 22; refine HI.out.mono ?_)
          rintro e_ Wa ⟨rfl, hBa⟩
          have hBLa := bldAt_below hbl.out hBa
          have hB9a := hBr.out.trans (hBa.mono (by omega))
          have hsza := hB9a.size
          obtain ⟨sp, hsp⟩ : ∃ s : ByteArray, s = (⟨#[32]⟩ : ByteArray) ++ sv := ⟨_, rfl⟩
          have HWS := Lib.hid (wstr_c b8 _ ((⟨#[32]⟩ : ByteArray) ++ sv) Wa hBLa (by have := hlen.out; have := Hz.out; omega) (by omega))
          have HB9a := Lib.hid hB9a
          clear hBa hBLa hB9a
          go_wp2_with (go_at_call 23; refine HWS.out.mono ?_)
          rintro e_ Wb ⟨rfl, hBLb, hBb⟩
          rw [Hb.out, List.append_assoc, ← HX.out] at hBLb
          have HB9b := Lib.hid (HB9a.out.trans hBb)
          have HBLb := Lib.hid hBLb
          obtain ⟨N, hN⟩ : ∃ N, (headT f c e ++ picksT (ps.take (k + 1))).length = N := ⟨_, rfl⟩
          have HLEN : Hid (Calls Tryd.prog 24 #[.pointer (some ⟨b8, 0, none⟩)] Wb fun e w' => e = .returned (.int .i64 (N : Int)) ∧ w' = Wb) := Lib.hid (by have := Tryd.Builder_Len b8 b8 _ Wb hBLb; rw [Lib.byteCells_length, hN] at this; exact this)
          have hN1 : N ≤ 65557 := by
            rw [← hN, HX.out, ← List.append_assoc, List.length_append]
            have h1 := hlen.out
            have h2 := Hz.out
            rw [← bl_len, Hb.out] at h2
            simp only [List.length_cons] at h2 ⊢
            omega
          have HNN := Lib.hid hN
          clear hBb hBLb hN HWS HI
          by_cases hgt : 65536 < N
          · have hgti : (65536 : Int) < (N : Int) := by omega
            have hts : textS (f : Int) (c : Int) (e : Int) ps = ([], 6) := textS_long f c e ps hf hcc he (by
              rw [fullT_len]
              have h1 := picksT_take ps (k + 1)
              have h2 := HNN.out
              rw [List.length_append] at h2
              omega)
            go_wp2_with (go_at_call 24; refine HLEN.out.mono ?_; rintro e_ w' ⟨rfl, rfl⟩)
            go_ret2
            exact ⟨by first | rfl | (rw [hts]; rfl), HB9.out.trans (HB9b.out.mono (by have := Hq0.out; omega))⟩
          · have hgti : ¬ (65536 : Int) < (N : Int) := by omega
            have hgti2 : (N : Int) ≤ (65536 : Int) := by omega
            go_wp2_with (go_at_call 24; refine HLEN.out.mono ?_; rintro e_ w' ⟨rfl, rfl⟩)
            exact ⟨⟨k + 1, by go_num, by omega, HBLb, Lib.hid (by rw [HNN.out]; omega), HB9b⟩, by simp [intOf]; omega⟩
        · obtain rfl : k = n := by omega
          have htk : ps.take k = ps := List.take_of_length_le (by rw [HN.out]; exact Nat.le_refl _)
          rw [htk] at hbl hlen
          have hszr := hBr.out.size
          have HWS := Lib.hid (wstr_c b8 _ (⟨#[10]⟩ : ByteArray) wr hbl.out (by have := hlen.out; have : (⟨#[10]⟩ : ByteArray).size = 1 := (by decide); omega) (by omega))
          clear htk
          go_wp2_with (go_at_call 23; refine HWS.out.mono ?_)
          rintro e_ Wb ⟨rfl, hBLb, hBb⟩
          rw [show bl (⟨#[10]⟩ : ByteArray) = [10] by decide] at hBLb
          have HB9b := Lib.hid (hBr.out.trans hBb)
          have hBLb2 : BldAt b8 Wb (fullT f c e ps) := hBLb
          have HBLb := Lib.hid hBLb2
          obtain ⟨N, hN⟩ : ∃ N, (fullT f c e ps).length = N := ⟨_, rfl⟩
          have HLEN : Hid (Calls Tryd.prog 24 #[.pointer (some ⟨b8, 0, none⟩)] Wb fun e w' => e = .returned (.int .i64 (N : Int)) ∧ w' = Wb) := Lib.hid (by have := Tryd.Builder_Len b8 b8 _ Wb hBLb2; rw [Lib.byteCells_length, hN] at this; exact this)
          have HNN := Lib.hid hN
          have hszb := HB9b.out.size
          have HSTR := Lib.hid (Tryd.Builder_String_any b8 b8 _ Wb hBLb2 (by omega))
          clear hBb hBLb hBLb2 hN HWS
          by_cases hgt : 65536 < N
          · have hgti : (65536 : Int) < (N : Int) := by omega
            have hts : textS (f : Int) (c : Int) (e : Int) ps = ([], 6) := textS_long f c e ps hf hcc he (by rw [HNN.out]; omega)
            go_wp2_with (go_at_call 24; refine HLEN.out.mono ?_; rintro e_ w' ⟨rfl, rfl⟩)
            go_ret2
            exact ⟨by first | rfl | (rw [hts]; rfl), HB9.out.trans (HB9b.out.mono (by have := Hq0.out; omega))⟩
          · have hgti : ¬ (65536 : Int) < (N : Int) := by omega
            have hgti2 : (N : Int) ≤ (65536 : Int) := by omega
            have hts : textS (f : Int) (c : Int) (e : Int) ps = (fullT f c e ps, 0) := textS_fit f c e ps hf hcc he (by rw [HNN.out]; omega)
            have Hts := Lib.hid hts
            clear hts
            go_wp2_with (first | (go_at_call 24; refine HLEN.out.mono ?_; rintro e_ w' ⟨rfl, rfl⟩) | (go_at_call 25; refine (HSTR.out).mono ?_; rintro e_ Wc ⟨rfl, hBc⟩))
            go_ret2
            exact ⟨by rw [Hts.out]; rfl, HB9.out.trans ((HB9b.out.trans hBc).mono (by have := Hq0.out; omega))⟩
end Go.Proofs.YthfnjphmodcnoaaDoor
namespace Go.Proofs.YthfnjphmodcnoaaDoor
open Go.RowKit
set_option linter.unusedSimpArgs false
set_option linter.unusedVariables false

def RP (L : List (List UInt8)) (k c st pk : Int) (w : World) (e : Ending) (w' : World) : Prop := e = .returned (.tuple #[.string ⟨(repS L k c st pk).1.toArray⟩, .int .i64 (repS L k c st pk).2]) ∧ Below w.heap.size w w'
theorem laid_end {W : World} (h : Laid W) (k : Nat) (h5 : k ≤ 5) : W.cell? ⟨0, k, none⟩ = some (.string (endS k)) := by
  obtain ⟨te, fe, hends⟩ := h.ends
  have hcs : k = 0 ∨ k = 1 ∨ k = 2 ∨ k = 3 ∨ k = 4 ∨ k = 5 := by omega
  unfold World.cell?; rw [hends]
  rcases hcs with rfl | rfl | rfl | rfl | rfl | rfl <;> rfl
theorem rp_head {L : List (List UInt8)} {k c st pk : Int} {w w' : World} (h : headOK k c st pk = false) (hb : Below w.heap.size w w') : RP L k c st pk w (.returned (.tuple #[.string ⟨#[]⟩, .int .i64 1])) w' := ⟨by rw [repS_head h]; try rfl, hb⟩
theorem head1 {k c st pk : Int} (h : k < 1) : headOK k c st pk = false := by
  simp [headOK, show ¬ (1 : Int) ≤ k by omega]
theorem head2 {k c st pk : Int} (h : 5 < k) : headOK k c st pk = false := by
  unfold headOK; rw [decide_eq_false (show ¬ k ≤ (5 : Int) by omega), Bool.and_false]; first | rfl | simp
theorem head3 {k c st pk : Int} (h : c ≠ 0) (h2 : k ≠ 2) : headOK k c st pk = false := by
  unfold headOK; simp [h, h2]
theorem head4 {k c st pk : Int} (h : st < 0 ∨ 2147483647 < st) : headOK k c st pk = false := by
  simp [headOK, inR_not h]
theorem head5 {k c st pk : Int} (h : pk < 0 ∨ 2147483647 < pk) : headOK k c st pk = false := by
  simp [headOK, inR_not h]
section
variable (p0 : Option Addr) (n cap : Nat) (L : List (List UInt8)) (w : World)
set_option maxRecDepth 20000 in
set_option maxHeartbeats 1000000 in
theorem rp_bad1 (k c st pk : Int) (h : k < 1) : Calls Tryd.prog 16 #[.agg #[.slice p0 n cap, .int .i64 k, .int .i64 c, .int .i64 st, .int .i64 pk]] w (RP L k c st pk w) := by
  have HF := Lib.hid (head1 (c := c) (st := st) (pk := pk) h)
  have h1 : decide (k < 1) = true := decide_eq_true h
  go_enter Tryd.func16, Tryd.ntmps16
  go_wp2
  go_ret2
  exact rp_head HF.out ((Below.refl _ _).alloc (Nat.le_refl _) _)
set_option maxRecDepth 20000 in
set_option maxHeartbeats 1000000 in
theorem rp_bad2 (k c st pk : Int) (h0 : ¬ k < 1) (h : 5 < k) : Calls Tryd.prog 16 #[.agg #[.slice p0 n cap, .int .i64 k, .int .i64 c, .int .i64 st, .int .i64 pk]] w (RP L k c st pk w) := by
  have HF := Lib.hid (head2 (c := c) (st := st) (pk := pk) h)
  have h1 : decide (k < 1) = false := decide_eq_false h0
  have h2 : decide (5 < k) = true := decide_eq_true h
  go_enter Tryd.func16, Tryd.ntmps16
  go_wp2
  go_ret2
  exact rp_head HF.out ((Below.refl _ _).alloc (Nat.le_refl _) _)
set_option maxRecDepth 20000 in
set_option maxHeartbeats 1000000 in
theorem rp_bad3 (k c st pk : Int) (h0 : ¬ k < 1) (h00 : ¬ 5 < k) (h : c ≠ 0) (h2 : k ≠ 2) : Calls Tryd.prog 16 #[.agg #[.slice p0 n cap, .int .i64 k, .int .i64 c, .int .i64 st, .int .i64 pk]] w (RP L k c st pk w) := by
  have HF := Lib.hid (head3 (st := st) (pk := pk) h h2)
  have h1 : decide (k < 1) = false := decide_eq_false h0
  have h3 : decide (5 < k) = false := decide_eq_false h00
  have h4 : (c != 0) = true := bne_iff_ne.2 h
  have h5 : (k != 2) = true := bne_iff_ne.2 h2
  go_enter Tryd.func16, Tryd.ntmps16
  go_wp2
  go_ret2
  exact rp_head HF.out ((Below.refl _ _).alloc (Nat.le_refl _) _)
set_option maxRecDepth 20000 in
set_option maxHeartbeats 1000000 in
theorem rp_bad4 (k c st pk : Int) (h0 : ¬ k < 1) (h00 : ¬ 5 < k) (d : Bool) (hd : (c != 0) = d) (h2 : d = true → k = 2) (h : min st pk < 0) : Calls Tryd.prog 16 #[.agg #[.slice p0 n cap, .int .i64 k, .int .i64 c, .int .i64 st, .int .i64 pk]] w (RP L k c st pk w) := by
  have HF : Hid (headOK k c st pk = false) := Lib.hid (by
    by_cases hs : st < 0
    · exact head4 (.inl hs)
    · exact head5 (.inl (by omega)))
  have h1 : decide (k < 1) = false := decide_eq_false h0
  have h3 : decide (5 < k) = false := decide_eq_false h00
  have h4 : decide (min st pk < 0) = true := decide_eq_true h
  cases d with
  | false =>
    clear h2
    go_enter Tryd.func16, Tryd.ntmps16
    go_wp2
    go_ret2
    exact rp_head HF.out ((Below.refl _ _).alloc (Nat.le_refl _) _)
  | true =>
    obtain rfl := h2 rfl
    clear h2
    go_enter Tryd.func16, Tryd.ntmps16
    go_wp2
    go_ret2
    exact rp_head HF.out ((Below.refl _ _).alloc (Nat.le_refl _) _)
set_option maxRecDepth 20000 in
set_option maxHeartbeats 1000000 in
theorem rp_bad5 (k c st pk : Int) (h0 : ¬ k < 1) (h00 : ¬ 5 < k) (d : Bool) (hd : (c != 0) = d) (h2 : d = true → k = 2) (hm : ¬ min st pk < 0) (h : 2147483647 < max st pk) : Calls Tryd.prog 16 #[.agg #[.slice p0 n cap, .int .i64 k, .int .i64 c, .int .i64 st, .int .i64 pk]] w (RP L k c st pk w) := by
  have HF : Hid (headOK k c st pk = false) := Lib.hid (by
    by_cases hs : 2147483647 < st
    · exact head4 (.inr hs)
    · exact head5 (.inr (by omega)))
  have h1 : decide (k < 1) = false := decide_eq_false h0
  have h3 : decide (5 < k) = false := decide_eq_false h00
  have h4 : decide (min st pk < 0) = false := decide_eq_false hm
  have h5 : decide (2147483647 < max st pk) = true := decide_eq_true h
  clear hm
  cases d with
  | false =>
    clear h2
    go_enter Tryd.func16, Tryd.ntmps16
    go_wp2
    go_ret2
    exact rp_head HF.out ((Below.refl _ _).alloc (Nat.le_refl _) _)
  | true =>
    obtain rfl := h2 rfl
    clear h2
    go_enter Tryd.func16, Tryd.ntmps16
    go_wp2
    go_ret2
    exact rp_head HF.out ((Below.refl _ _).alloc (Nat.le_refl _) _)
end
section
variable (p0 : Option Addr) (n cap : Nat) (L : List (List UInt8)) (w : World) (k c st pk : Int)
set_option maxRecDepth 20000 in
set_option maxHeartbeats 1000000 in
theorem rt_bad1 (h : k < 1) : Calls Tryd.prog 17 #[.agg #[.slice p0 n cap, .int .i64 k, .int .i64 c, .int .i64 st, .int .i64 pk]] w (RP L k c st pk w) := by
  have HF : Hid (headOK k c st pk = false) := Lib.hid (head1 h)
  have h1 : decide (k < 1) = true := decide_eq_true h
  go_enter Tryd.func17, Tryd.ntmps17
  go_wp2
  go_ret2
  exact rp_head HF.out ((Below.refl _ _).alloc (Nat.le_refl _) _)
set_option maxRecDepth 20000 in
set_option maxHeartbeats 1000000 in
theorem rt_bad2 (h0 : ¬ k < 1) (h : 5 < k) : Calls Tryd.prog 17 #[.agg #[.slice p0 n cap, .int .i64 k, .int .i64 c, .int .i64 st, .int .i64 pk]] w (RP L k c st pk w) := by
  have HF : Hid (headOK k c st pk = false) := Lib.hid (head2 h)
  have h1 : decide (k < 1) = false := decide_eq_false h0
  have h2 : decide (5 < k) = true := decide_eq_true h
  go_enter Tryd.func17, Tryd.ntmps17
  go_wp2
  go_ret2
  exact rp_head HF.out ((Below.refl _ _).alloc (Nat.le_refl _) _)
set_option maxRecDepth 20000 in
set_option maxHeartbeats 1000000 in
theorem rt_bad3 (h0 : ¬ k < 1) (h00 : ¬ 5 < k) (h : c ≠ 0) (h2 : k ≠ 2) : Calls Tryd.prog 17 #[.agg #[.slice p0 n cap, .int .i64 k, .int .i64 c, .int .i64 st, .int .i64 pk]] w (RP L k c st pk w) := by
  have HF : Hid (headOK k c st pk = false) := Lib.hid (head3 h h2)
  have h1 : decide (k < 1) = false := decide_eq_false h0
  have h3 : decide (5 < k) = false := decide_eq_false h00
  have h4 : (c != 0) = true := bne_iff_ne.2 h
  have h5 : (k != 2) = true := bne_iff_ne.2 h2
  go_enter Tryd.func17, Tryd.ntmps17
  go_wp2
  go_ret2
  exact rp_head HF.out ((Below.refl _ _).alloc (Nat.le_refl _) _)
set_option maxRecDepth 20000 in
set_option maxHeartbeats 1000000 in
theorem rt_bad4 (h0 : ¬ k < 1) (h00 : ¬ 5 < k) (d : Bool) (hd : (c != 0) = d) (h2 : d = true → k = 2) (h : st < 0) : Calls Tryd.prog 17 #[.agg #[.slice p0 n cap, .int .i64 k, .int .i64 c, .int .i64 st, .int .i64 pk]] w (RP L k c st pk w) := by
  have HF : Hid (headOK k c st pk = false) := Lib.hid (head4 (.inl h))
  have h1 : decide (k < 1) = false := decide_eq_false h0
  have h3 : decide (5 < k) = false := decide_eq_false h00
  have h4 : decide (st < 0) = true := decide_eq_true h
  cases d with
  | false =>
    clear h2
    go_enter Tryd.func17, Tryd.ntmps17
    go_wp2
    go_ret2
    exact rp_head HF.out ((Below.refl _ _).alloc (Nat.le_refl _) _)
  | true =>
    obtain rfl := h2 rfl
    clear h2
    go_enter Tryd.func17, Tryd.ntmps17
    go_wp2
    go_ret2
    exact rp_head HF.out ((Below.refl _ _).alloc (Nat.le_refl _) _)
set_option maxRecDepth 20000 in
set_option maxHeartbeats 1000000 in
theorem rt_bad5 (h0 : ¬ k < 1) (h00 : ¬ 5 < k) (d : Bool) (hd : (c != 0) = d) (h2 : d = true → k = 2) (hs : ¬ st < 0) (h : 2147483647 < st) : Calls Tryd.prog 17 #[.agg #[.slice p0 n cap, .int .i64 k, .int .i64 c, .int .i64 st, .int .i64 pk]] w (RP L k c st pk w) := by
  have HF : Hid (headOK k c st pk = false) := Lib.hid (head4 (.inr h))
  have h1 : decide (k < 1) = false := decide_eq_false h0
  have h3 : decide (5 < k) = false := decide_eq_false h00
  have h4 : decide (st < 0) = false := decide_eq_false hs
  have h5 : decide (2147483647 < st) = true := decide_eq_true h
  cases d with
  | false =>
    clear h2
    go_enter Tryd.func17, Tryd.ntmps17
    go_wp2
    go_ret2
    exact rp_head HF.out ((Below.refl _ _).alloc (Nat.le_refl _) _)
  | true =>
    obtain rfl := h2 rfl
    clear h2
    go_enter Tryd.func17, Tryd.ntmps17
    go_wp2
    go_ret2
    exact rp_head HF.out ((Below.refl _ _).alloc (Nat.le_refl _) _)
set_option maxRecDepth 20000 in
set_option maxHeartbeats 1000000 in
theorem rt_bad6 (h0 : ¬ k < 1) (h00 : ¬ 5 < k) (d : Bool) (hd : (c != 0) = d) (h2 : d = true → k = 2) (hs : ¬ st < 0) (hs2 : ¬ 2147483647 < st) (h : pk < 0) : Calls Tryd.prog 17 #[.agg #[.slice p0 n cap, .int .i64 k, .int .i64 c, .int .i64 st, .int .i64 pk]] w (RP L k c st pk w) := by
  have HF : Hid (headOK k c st pk = false) := Lib.hid (head5 (.inl h))
  have h1 : decide (k < 1) = false := decide_eq_false h0
  have h3 : decide (5 < k) = false := decide_eq_false h00
  have h4 : decide (st < 0) = false := decide_eq_false hs
  have h5 : decide (2147483647 < st) = false := decide_eq_false hs2
  have h6 : decide (pk < 0) = true := decide_eq_true h
  cases d with
  | false =>
    clear h2
    go_enter Tryd.func17, Tryd.ntmps17
    go_wp2
    go_ret2
    exact rp_head HF.out ((Below.refl _ _).alloc (Nat.le_refl _) _)
  | true =>
    obtain rfl := h2 rfl
    clear h2
    go_enter Tryd.func17, Tryd.ntmps17
    go_wp2
    go_ret2
    exact rp_head HF.out ((Below.refl _ _).alloc (Nat.le_refl _) _)
set_option maxRecDepth 20000 in
set_option maxHeartbeats 1000000 in
theorem rt_bad7 (h0 : ¬ k < 1) (h00 : ¬ 5 < k) (d : Bool) (hd : (c != 0) = d) (h2 : d = true → k = 2) (hs : ¬ st < 0) (hs2 : ¬ 2147483647 < st) (hp : ¬ pk < 0) (h : 2147483647 < pk) : Calls Tryd.prog 17 #[.agg #[.slice p0 n cap, .int .i64 k, .int .i64 c, .int .i64 st, .int .i64 pk]] w (RP L k c st pk w) := by
  have HF : Hid (headOK k c st pk = false) := Lib.hid (head5 (.inr h))
  have h1 : decide (k < 1) = false := decide_eq_false h0
  have h3 : decide (5 < k) = false := decide_eq_false h00
  have h4 : decide (st < 0) = false := decide_eq_false hs
  have h5 : decide (2147483647 < st) = false := decide_eq_false hs2
  have h6 : decide (pk < 0) = false := decide_eq_false hp
  have h7 : decide (2147483647 < pk) = true := decide_eq_true h
  cases d with
  | false =>
    clear h2
    go_enter Tryd.func17, Tryd.ntmps17
    go_wp2
    go_ret2
    exact rp_head HF.out ((Below.refl _ _).alloc (Nat.le_refl _) _)
  | true =>
    obtain rfl := h2 rfl
    clear h2
    go_enter Tryd.func17, Tryd.ntmps17
    go_wp2
    go_ret2
    exact rp_head HF.out ((Below.refl _ _).alloc (Nat.le_refl _) _)
end
end Go.Proofs.YthfnjphmodcnoaaDoor
namespace Go.Proofs.YthfnjphmodcnoaaDoor
open Go.RowKit
set_option linter.unusedSimpArgs false
set_option linter.unusedVariables false

def bcells (l : List UInt8) : List Value := l.map fun b => Value.int .u8 (b.toNat : Int)
theorem bcells_len (l : List UInt8) : (bcells l).length = l.length := by simp [bcells]
theorem bcells_str (s : ByteArray) : byteCells s = bcells (bl s) := rfl
def Buf (B : Nat) (w : World) (v : Value) (l : List UInt8) : Prop :=
  ∃ g cap, v = .slice (some ⟨g, 0, none⟩) l.length cap ∧ B ≤ g ∧ l.length ≤ cap ∧ cap ≤ maxLen ∧ (∀ (j : Nat) (b : UInt8), l[j]? = some b → w.cell? ⟨g, j, none⟩ = some (.int .u8 (b.toNat : Int))) ∧
    (∀ j, j < cap → (w.cell? ⟨g, j, none⟩).isSome = true ∧ w.frozen? ⟨g, j, none⟩ = false)
theorem buf_lt {B : Nat} {w : World} {g cap : Nat} (h : ∀ j, j < cap → (w.cell? ⟨g, j, none⟩).isSome = true ∧ w.frozen? ⟨g, j, none⟩ = false) (hc : 0 < cap) : g < w.heap.size := by
  obtain ⟨v, hv⟩ := Option.isSome_iff_exists.1 (h 0 hc).1
  exact Lib.lt_of_cell hv
theorem buf_below {B : Nat} {w w' : World} {v : Value} {l : List UInt8} (h : Buf B w v l) (hb : Below w.heap.size w w') : Buf B w' v l := by
  obtain ⟨g, cap, h1, h2, h3, h4, h5, h6⟩ := h
  refine ⟨g, cap, h1, h2, h3, h4, fun j b hj => (hb.cell (p := ⟨g, j, none⟩) (Lib.lt_of_cell (h5 j b hj))).trans (h5 j b hj), fun j hj => ?_⟩
  have hg := buf_lt (B := B) h6 (by omega)
  have he : w'.heap[g]? = w.heap[g]? := hb.block g hg
  rw [World.cell?_of_block (a := ⟨g, j, none⟩) he, World.frozen?_of_block (a := ⟨g, j, none⟩) he]
  exact h6 j hj
theorem below_setCells {B g : Nat} (hg : B ≤ g) : ∀ (vs : List Value) (o : Nat) (w0 w : World), Below B w0 w → Below B w0 (w.setCells g o vs)
  | [], _, _, _, h => h
  | v :: vs, o, w0, w, h => below_setCells hg vs (o + 1) w0 _ (h.setCell (p := ⟨g, o, none⟩) hg v)
theorem buf_conv (w : World) (s : ByteArray) (hs : s.size ≤ 140737488355328) : Buf w.heap.size (Lib.bytesWorld w 5 s) (.slice (some ⟨w.heap.size, 0, none⟩) s.size (grownCap w s.size 0 5)) (bl s) := by
  have h1 := grownCap_ge w s.size 0 5
  have h2 := grownCap_le_maxLen w s.size 0 5 (by unfold maxLen; omega)
  have hn := Lib.bytesWorld_at_new w 5 s
  have hsz : (Lib.bytesCells w 5 s).size = grownCap w s.size 0 5 := by
    unfold Lib.bytesCells
    rw [Array.size_append, Array.size_map, Array.size_replicate]
    show s.size + _ = _
    omega
  refine ⟨w.heap.size, _, by rw [bl_len], Nat.le_refl _, by rw [bl_len]; exact h1, h2, fun j b hj => ?_, fun j hj => ⟨?_, ?_⟩⟩
  · have hj2 : j < s.size := by rw [← bl_len]; exact (List.getElem?_eq_some_iff.1 hj).1
    rw [Lib.bytesWorld_cell w _ s j hj2, List.getD_eq_getElem?_getD, show s.data.toList[j]? = some b from hj]
    rfl
  · unfold World.cell?
    rw [hn]
    simp [hsz, hj]
  · unfold World.frozen?
    rw [hn]
    simp only [hsz]
    simp; omega
theorem buf_append (t tx ty : TypeId) (i : TypeInfo) (ht : (Tryd.prog).underlying t = some (.slice 5)) (hi : (Tryd.prog).info? 5 = some i) (hz : i.zero = some (.int .u8 0)) (h1 : i.size = 1) (h2 : i.bytes = 1)
    (B : Nat) (w : World) (v : Value) (l m : List UInt8) (h : Buf B w v l) (hB : B ≤ w.heap.size) (xv : Value) (hs : Src Tryd.prog 1 tx xv m.length (bcells m) w) (hlen : l.length + m.length ≤ 140737488355328) :
    ∃ v' w', (Builtin.append_ #[t, tx] ty #[v, xv]).run Tryd.prog w = .ok v' w' ∧ Buf B w' v' (l ++ m) ∧ Below B w w' := by
  obtain ⟨g, cap, rfl, hg, hl, hc, hh, hf⟩ := h
  by_cases hroom : l.length + m.length ≤ cap
  · have hr := run_append_room_src (P := Tryd.prog) w t tx ty 5 i ht hi g 0 l.length cap xv m.length (bcells m) (by rw [h1]; exact hs) hroom
      (fun j hj => by rw [h1]; rw [bcells_len] at hj; exact (hf _ (by omega)).1) (fun j hj => by rw [h1]; rw [bcells_len] at hj; exact (hf _ (by omega)).2)
    rw [h1, Nat.mul_one, Nat.zero_add] at hr
    have hin := World.cell?_setCells_in g (bcells m) l.length w (fun j hj => by rw [bcells_len] at hj; exact (hf _ (by omega)).1)
    have hout := World.cell?_setCells_out g (bcells m) l.length w
    refine ⟨_, _, hr, ⟨g, cap, by rw [List.length_append], hg, by rw [List.length_append]; exact hroom, hc, fun j b hj => ?_, fun j hj => ⟨?_, ?_⟩⟩, below_setCells hg _ _ _ _ (Below.refl _ _)⟩
    · by_cases hj2 : j < l.length
      · rw [hout ⟨g, j, none⟩ (fun _ _ => .inl hj2)]
        rw [List.getElem?_append_left hj2] at hj
        exact hh j b hj
      · rw [List.getElem?_append_right (by omega)] at hj
        obtain ⟨hjm, hjb⟩ := List.getElem?_eq_some_iff.1 hj
        have := hin (j - l.length) (by rw [bcells_len]; exact hjm)
        rw [show l.length + (j - l.length) = j by omega] at this
        rw [this]
        simp [bcells, hjb]
    · by_cases hj2 : l.length ≤ j ∧ j < l.length + (bcells m).length
      · have := hin (j - l.length) (by omega)
        rw [show l.length + (j - l.length) = j by omega] at this
        rw [this]; rfl
      · rw [hout ⟨g, j, none⟩ (fun _ _ => show j < l.length ∨ l.length + (bcells m).length ≤ j by omega)]
        exact (hf j hj).1
    · rw [World.frozen?_setCells]
      exact (hf j hj).2
  · have hold : (Builtin.firstCells i.size l.length (.slice (some ⟨g, 0, none⟩) l.length cap)).run Tryd.prog w.drew = .ok (bcells l).toArray w.drew := by
      rw [h1]
      refine run_firstCells_some w.drew 1 l.length ⟨g, 0, none⟩ l.length cap (bcells l) (by rw [bcells_len, Nat.mul_one]) (fun j u hu => ?_)
      rw [Addr.add_lit, Nat.zero_add]
      simp only [bcells, List.getElem?_map, Option.map_eq_some_iff] at hu
      obtain ⟨b, hb, rfl⟩ := hu
      exact hh j b hb
    have hr := run_append_grow_src (P := Tryd.prog) w t tx ty 5 i (.int .u8 0) ht hi hz (some ⟨g, 0, none⟩) l.length cap (bcells l) hold xv m.length (bcells m) (by rw [h1]; exact hs) (by omega) (by omega) (growslice_fits (by omega) (by rw [h2]; omega))
    have hge := grownCap_ge w (l.length + m.length) cap 5
    have hle := grownCap_le_maxLen w (l.length + m.length) cap 5 (by unfold maxLen; omega)
    generalize hC : grownCap w (l.length + m.length) cap 5 = C at hr hge hle
    have hzc : (Builtin.zeroCells (Value.int .u8 0).cells (C - (l.length + m.length))) = Array.replicate (C - (l.length + m.length)) (.int .u8 0) := by
      simp [Builtin.zeroCells, Value.cells]
      apply Array.ext
      · simp
      · intro k h1 h2; simp [Nat.mod_one]
    rw [hzc] at hr
    have hcell : ∀ j, (w.drew.alloc (.cells ((bcells l ++ bcells m).toArray ++ Array.replicate (C - (l.length + m.length)) (.int .u8 0)) 5)).cell? ⟨w.heap.size, j, none⟩ = ((bcells l ++ bcells m).toArray ++ Array.replicate (C - (l.length + m.length)) (.int .u8 0))[j]? := fun j => World.cell?_alloc_new w.drew _ _ j
    refine ⟨_, _, hr, ⟨w.heap.size, C, by rw [List.length_append], hB, by rw [List.length_append]; exact hge, hle, fun j b hj => ?_, fun j hj => ⟨?_, ?_⟩⟩, ((Below.refl B w).drew).alloc hB _⟩
    · have hj2 := (List.getElem?_eq_some_iff.1 hj).1
      rw [List.length_append] at hj2
      rw [hcell, Array.getElem?_append_left (by simp [bcells_len]; exact hj2), List.getElem?_toArray, show bcells l ++ bcells m = bcells (l ++ m) by simp [bcells]]
      unfold bcells
      rw [List.getElem?_map, hj]; rfl
    · rw [hcell]
      rw [Array.getElem?_eq_getElem (by simp [bcells_len]; omega)]; rfl
    · unfold World.frozen?
      rw [show (w.drew.alloc (.cells ((bcells l ++ bcells m).toArray ++ Array.replicate (C - (l.length + m.length)) (.int .u8 0)) 5)).heap[w.heap.size]? = some (.cells ((bcells l ++ bcells m).toArray ++ Array.replicate (C - (l.length + m.length)) (.int .u8 0)) 5 (0, 0)) from by
        show (w.heap.push _)[w.heap.size]? = _
        rw [Array.getElem?_push_size]]
      simp
theorem src_str (w : World) (s : ByteArray) : Src Tryd.prog 1 9 (.string s) (bl s).length (bcells (bl s)) w := by
  have := Src.ofString (P := Tryd.prog) w (tx := 9) Tryd.underlying9 s
  rw [bcells_str, ← bl_len] at this
  exact this
theorem src_one (w : World) (g : Nat) (b : UInt8) (hg : w.cell? ⟨g, 0, none⟩ = some (.int .u8 (b.toNat : Int))) (c : Nat) : Src Tryd.prog 1 63 (.slice (some ⟨g, 0, none⟩) 1 c) [b].length (bcells [b]) w := by
  refine Src.ofSlice (P := Tryd.prog) w Tryd.underlying63 ⟨g, 0, none⟩ 1 c (bcells [b]) (by simp [bcells]) (fun j u hj => ?_) (fun u hu => by simp [bcells] at hu; subst hu; rfl)
  have hj1 := (List.getElem?_eq_some_iff.1 hj).1
  rw [bcells_len, List.length_singleton] at hj1
  obtain rfl : j = 0 := by omega
  simp [bcells] at hj
  subst hj
  rw [Addr.add_lit]
  exact hg
/-- the append of a walk -/
theorem wpList_buf {ops : Array Oper} {rest : List Oper} {o : Oper} {a : Act} {Q : Exit → Act → World → Prop} {w : World} (hgd : o.guard = none) (sl x : Operand) (t tx : TypeId)
    (ho : o.op = .call { callee := .builtin .append, args := #[sl, x], argTypes := #[t, tx] })
    (i : TypeInfo) (ht : (Tryd.prog).underlying t = some (.slice 5)) (hi : (Tryd.prog).info? 5 = some i) (hz : i.zero = some (.int .u8 0)) (h1 : i.size = 1) (h2 : i.bytes = 1)
    (B : Nat) (v : Value) (l m : List UInt8) (hv : a.eval sl = v) (h : Buf B w v l) (hB : B ≤ w.heap.size) (xv : Value) (hx : a.eval x = xv) (hs : Src Tryd.prog 1 tx xv m.length (bcells m) w) (hlen : l.length + m.length ≤ 140737488355328)
    (hK : ∀ v' w', Buf B w' v' (l ++ m) → Below B w w' → wpList Tryd.prog ops Q rest (a.put o.dst v') w') : wpList Tryd.prog ops Q (o :: rest) a w := by
  refine wpList_plain hgd fun K hK' => ?_
  obtain ⟨v', w', hr, h2, h3⟩ := buf_append t tx o.type i ht hi hz h1 h2 B w v l m h hB xv hs hlen
  unfold Oper.wp execOp
  simp only [ho, resolve, invoke, builtin, Sem.run_bind, Sem.run_pure, Result.andThen_ok, List.map_toArray, List.map_cons, List.map_nil, hv, hx, hr]
  exact hK' _ _ (hK v' w' h2 h3)
/-- back to a string -/
theorem buf_back {B : Nat} {w : World} {v : Value} {l : List UInt8} (h : Buf B w v l) : (convert 63 9 v).run Tryd.prog w = .ok (.string ⟨l.toArray⟩) w := by
  obtain ⟨g, cap, rfl, -, -, -, hh, -⟩ := h
  exact run_convert_bytes_back (P := Tryd.prog) w 63 9 5 ⟨g, 0, none⟩ cap l Tryd.underlying63 Tryd.underlying5 Tryd.underlying9 (fun j hj => by
    rw [Addr.add_lit, Nat.zero_add]
    exact hh j _ (List.getElem?_eq_getElem hj))
end Go.Proofs.YthfnjphmodcnoaaDoor
namespace Go.Proofs.YthfnjphmodcnoaaDoor
open Go.RowKit
set_option linter.unusedSimpArgs false
set_option linter.unusedVariables false

def BufN (B : Nat) (w : World) (v : Value) (l : List UInt8) : Prop := (l = [] ∧ v = .slice none 0 0) ∨ Buf B w v l
theorem bufN_below {B : Nat} {w w' : World} {v : Value} {l : List UInt8} (h : BufN B w v l) (hb : Below w.heap.size w w') : BufN B w' v l := h.imp id (fun h => buf_below h hb)
theorem bufN_slice {B : Nat} {w : World} {v : Value} {l : List UInt8} (h : BufN B w v l) : ∃ p c, v = .slice p l.length c := by
  rcases h with ⟨rfl, rfl⟩ | ⟨g, cap, rfl, -⟩
  · exact ⟨_, _, rfl⟩
  · exact ⟨_, _, rfl⟩
theorem bufN_append (t tx ty : TypeId) (i : TypeInfo) (ht : (Tryd.prog).underlying t = some (.slice 5)) (hi : (Tryd.prog).info? 5 = some i) (hz : i.zero = some (.int .u8 0)) (h1 : i.size = 1) (h2 : i.bytes = 1)
    (B : Nat) (w : World) (v : Value) (l m : List UInt8) (h : BufN B w v l) (hm : 1 ≤ m.length) (hB : B ≤ w.heap.size) (xv : Value) (hs : Src Tryd.prog 1 tx xv m.length (bcells m) w) (hlen : l.length + m.length ≤ 140737488355328) :
    ∃ v' w', (Builtin.append_ #[t, tx] ty #[v, xv]).run Tryd.prog w = .ok v' w' ∧ Buf B w' v' (l ++ m) ∧ Below B w w' := by
  rcases h with ⟨rfl, rfl⟩ | h
  · rw [List.length_nil, Nat.zero_add] at hlen
    have hold : (Builtin.firstCells i.size 0 (.slice none 0 0)).run Tryd.prog w.drew = .ok (bcells []).toArray w.drew := rfl
    have hr := run_append_grow_src (P := Tryd.prog) w t tx ty 5 i (.int .u8 0) ht hi hz none 0 0 (bcells []) hold xv m.length (bcells m) (by rw [h1]; exact hs) (by omega) (by omega) (growslice_fits (by omega) (by rw [h2]; omega))
    rw [Nat.zero_add] at hr
    have hge := grownCap_ge w m.length 0 5
    have hle := grownCap_le_maxLen w m.length 0 5 (by unfold maxLen; omega)
    generalize hC : grownCap w m.length 0 5 = C at hr hge hle
    have hzc : (Builtin.zeroCells (Value.int .u8 0).cells (C - m.length)) = Array.replicate (C - m.length) (.int .u8 0) := by
      simp [Builtin.zeroCells, Value.cells]
      apply Array.ext
      · simp
      · intro k h1 h2; simp [Nat.mod_one]
    rw [hzc, show bcells [] ++ bcells m = bcells m from rfl] at hr
    have hcell : ∀ j, (w.drew.alloc (.cells ((bcells m).toArray ++ Array.replicate (C - m.length) (.int .u8 0)) 5)).cell? ⟨w.heap.size, j, none⟩ = ((bcells m).toArray ++ Array.replicate (C - m.length) (.int .u8 0))[j]? := fun j => World.cell?_alloc_new w.drew _ _ j
    rw [List.nil_append]
    refine ⟨_, _, hr, ⟨w.heap.size, C, rfl, hB, hge, hle, fun j b hj => ?_, fun j hj => ⟨?_, ?_⟩⟩, ((Below.refl B w).drew).alloc hB _⟩
    · have hj2 := (List.getElem?_eq_some_iff.1 hj).1
      rw [hcell, Array.getElem?_append_left (by simp [bcells_len]; exact hj2), List.getElem?_toArray]
      unfold bcells
      rw [List.getElem?_map, hj]; rfl
    · rw [hcell]
      rw [Array.getElem?_eq_getElem (by simp [bcells_len]; omega)]; rfl
    · unfold World.frozen?
      rw [show (w.drew.alloc (.cells ((bcells m).toArray ++ Array.replicate (C - m.length) (.int .u8 0)) 5)).heap[w.heap.size]? = some (.cells ((bcells m).toArray ++ Array.replicate (C - m.length) (.int .u8 0)) 5 (0, 0)) from by
        show (w.heap.push _)[w.heap.size]? = _
        rw [Array.getElem?_push_size]]
      simp
  · exact buf_append t tx ty i ht hi hz h1 h2 B w v l m h hB xv hs hlen
/-- the append of a walk -/
theorem wp_bufN {o : Oper} {a : Act} {K : Act → World → Prop} {Q : Exit → Act → World → Prop} {w : World} (sl x : Operand) (d : Option Tmp) (hd : o.dst = d)
    (ho : o.op = .call { callee := .builtin .append, args := #[sl, x], argTypes := #[63, 9] })
    (B : Nat) (v : Value) (l m : List UInt8) (hv : a.eval sl = v) (h : BufN B w v l) (hm : 1 ≤ m.length) (hB : B ≤ w.heap.size) (s : ByteArray) (hx : a.eval x = .string s) (hs : bl s = m) (hlen : l.length + m.length ≤ 140737488355328)
    (hK : ∀ v' w', Buf B w' v' (l ++ m) → Below B w w' → K (a.put d v') w') : o.wp Tryd.prog a w K Q := by
  subst hd
  have hsrc := src_str w s
  rw [hs] at hsrc
  obtain ⟨i0, hi, hz0, hz1, hz2⟩ := info_parts infoU8
  obtain ⟨v', w', hr, h2, h3⟩ := bufN_append 63 9 o.type i0 Tryd.underlying63 hi hz0 hz1 hz2 B w v l m h hm hB _ hsrc hlen
  unfold Oper.wp execOp
  simp only [ho, resolve, invoke, builtin, Sem.run_bind, Sem.run_pure, Result.andThen_ok, List.map_toArray, List.map_cons, List.map_nil, hv, hx, hr]
  exact hK _ _ h2 h3
theorem wpList_bufN {ops : Array Oper} {rest : List Oper} {o : Oper} {a : Act} {Q : Exit → Act → World → Prop} {w : World} (hgd : o.guard = none) (sl x : Operand) (d : Option Tmp) (hd : o.dst = d)
    (ho : o.op = .call { callee := .builtin .append, args := #[sl, x], argTypes := #[63, 9] })
    (B : Nat) (v : Value) (l m : List UInt8) (hv : a.eval sl = v) (h : BufN B w v l) (hm : 1 ≤ m.length) (hB : B ≤ w.heap.size) (s : ByteArray) (hx : a.eval x = .string s) (hs : bl s = m) (hlen : l.length + m.length ≤ 140737488355328)
    (hK : ∀ v' w', Buf B w' v' (l ++ m) → Below B w w' → wpList Tryd.prog ops Q rest (a.put d v') w') : wpList Tryd.prog ops Q (o :: rest) a w :=
  wpList_plain hgd fun K hK' => wp_bufN sl x d hd ho B v l m hv h hm hB s hx hs hlen fun v' w' h2 h3 => by
    subst hd
    exact hK' _ _ (hK v' w' h2 h3)
theorem endS_pos (k : Nat) (h1 : 1 ≤ k) (h5 : k ≤ 5) : 1 ≤ (bl (endS k)).length := by
  have hcs : k = 1 ∨ k = 2 ∨ k = 3 ∨ k = 4 ∨ k = 5 := by omega
  rcases hcs with rfl | rfl | rfl | rfl | rfl <;> decide +kernel
theorem ret_agg2 {a b c d : Value} (h : a = c) (h2 : b = d) : Ending.returned (.agg #[a, b]) = .returned (.agg #[c, d]) := by rw [h, h2]
theorem v_intq {k : IntKind} {a b : Int} (h : a = b) : Value.int k a = .int k b := by rw [h]
theorem of6_c (c : Int) (h0 : -9223372036854775808 ≤ c) (h1 : c ≤ 9223372036854775807) (w : World) : Calls Tryd.prog 40 #[.int .i64 6, .int .u64 (IntKind.u64.wrap c)] w fun e w' => e = .returned (.agg #[.bool (decide (c < 0)), .int .u64 ((c.natAbs : Nat) : Int)]) ∧ Below w.heap.size w w' := by
  obtain ⟨m, hm⟩ : ∃ m, IntKind.u64.wrap c = m := ⟨_, rfl⟩
  rw [hm]
  rw [IntKind.wrap_u64] at hm
  by_cases hc : c < 0
  · have HM : Hid (m = c + 18446744073709551616) := Lib.hid (by omega)
    have h3 : decide ((9223372036854775808 : Int) ≤ m) = true := decide_eq_true (by omega)
    rw [decide_eq_true hc]
    have HC := Lib.hid hc
    have H0 := Lib.hid h0
    clear hm hc h0 h1
    go_enter Tryd.func40, Tryd.ntmps40
    go_wp2_with (first | (go_at_call 58; refine (sgn6 _).mono ?_; rintro e w' ⟨rfl, rfl⟩))
    go_returns
    exact ⟨ret_agg2 rfl (v_intq (by have := HM.out; have := HC.out; have := H0.out; (try rw [IntKind.wrap_u64]); omega)), (Below.refl _ _).alloc (Nat.le_refl _) _⟩
  · have HM : Hid (m = c) := Lib.hid (by omega)
    have h3 : decide ((9223372036854775808 : Int) ≤ m) = false := decide_eq_false (by omega)
    rw [decide_eq_false hc]
    have HC := Lib.hid hc
    clear hm hc h0 h1
    go_enter Tryd.func40, Tryd.ntmps40
    go_wp2_with (first | (go_at_call 58; refine (sgn6 _).mono ?_; rintro e w' ⟨rfl, rfl⟩))
    go_returns
    exact ⟨ret_agg2 rfl (v_intq (by have := HM.out; have := HC.out; omega)), (Below.refl _ _).alloc (Nat.le_refl _) _⟩
theorem digs_itoa (c : Int) : digsK (decide (c < 0)) c.natAbs = Lib.itoa c := by
  by_cases h : c < 0
  · obtain ⟨n, rfl⟩ : ∃ n : Nat, c = -(n : Int) := ⟨c.natAbs, by omega⟩
    rw [decide_eq_true h, Lib.itoa_neg n (by omega), show (-(n : Int)).natAbs = n by omega]; rfl
  · obtain ⟨n, rfl⟩ : ∃ n : Nat, c = (n : Int) := ⟨c.toNat, by omega⟩
    rw [decide_eq_false h, Lib.itoa_nonneg, show ((n : Int)).natAbs = n by omega]; rfl
theorem dig6_c (c : Int) (h0 : -9223372036854775808 ≤ c) (h1 : c ≤ 9223372036854775807) (w : World) : Calls Tryd.prog 18 #[.agg #[.bool (decide (c < 0)), .int .u64 ((c.natAbs : Nat) : Int)]] w fun e w' => e = .returned (.string ⟨(Lib.itoa c).toArray⟩) ∧ Below w.heap.size w w' := by
  have := rdigits_any (decide (c < 0)) c.natAbs (by omega) w
  rw [digs_itoa] at this
  exact this
end Go.Proofs.YthfnjphmodcnoaaDoor
namespace Go.Proofs.YthfnjphmodcnoaaDoor
open Go.RowKit
set_option linter.unusedSimpArgs false
set_option linter.unusedVariables false
namespace Opened
open Go.Joins Go.ChangeShapes Go.WideShapes Go.Deep
section
variable {H : Type} {enc : TypeId × Value → H} {P : Program} {w : World} {base : Nat} {spare : Nat → Bool} {held : Bool}
theorem open_agg5 {r : Reach} {b0 : Nat} {t : TypeId} {f0 f1 f2 f3 f4 : Field} {v : Value} {d : DataW H} {p : List MemPlace} (hs : P.underlying t = some (.struct #[f0, f1, f2, f3, f4])) (hone : oneCellFields P #[f0, f1, f2, f3, f4] = true) (hC : P.cellsOf t = 5)
    (hv : Value.okWide P w r b0 t v) (h : DataW.Trod enc P w base spare held t v d p) :
    ∃ (v0 v1 v2 v3 v4 : Value) (y0 y1 y2 y3 y4 : DataW H × List MemPlace) (n : Nat), v = .agg #[v0, v1, v2, v3, v4] ∧ d = .agg [y0.1, y1.1, y2.1, y3.1, y4.1] ∧ p = y0.2 ++ (y1.2 ++ (y2.2 ++ (y3.2 ++ y4.2))) ∧
      DataW.trod enc P w base spare held n f0.type [v0] = some y0 ∧ DataW.trod enc P w base spare held n f1.type [v1] = some y1 ∧ DataW.trod enc P w base spare held n f2.type [v2] = some y2 ∧ DataW.trod enc P w base spare held n f3.type [v3] = some y3 ∧ DataW.trod enc P w base spare held n f4.type [v4] = some y4 := by
  obtain ⟨cs, rfl, hsz⟩ := okWide_struct hs hv
  obtain ⟨l⟩ := cs
  match l, hsz.trans hC with
  | [c0, c1, c2, c3, c4], _ =>
    obtain ⟨fuel, hf⟩ := h
    obtain ⟨xs, n, _, hx, _, hlen, hg⟩ := DataW.trod_struct hs hf
    obtain ⟨o0, k0⟩ := hone_of hone 0 f0 rfl
    obtain ⟨o1, k1⟩ := hone_of hone 1 f1 rfl
    obtain ⟨o2, k2⟩ := hone_of hone 2 f2 rfl
    obtain ⟨o3, k3⟩ := hone_of hone 3 f3 rfl
    obtain ⟨o4, k4⟩ := hone_of hone 4 f4 rfl
    match xs, hlen with
    | [y0, y1, y2, y3, y4], _ =>
      simp only [Prod.mk.injEq] at hx
      exact ⟨c0, c1, c2, c3, c4, y0, y1, y2, y3, y4, n, rfl, by simpa using hx.1, by simpa using hx.2, by simpa [Value.cells, o0, k0] using hg 0 f0 rfl, by simpa [Value.cells, o1, k1] using hg 1 f1 rfl, by simpa [Value.cells, o2, k2] using hg 2 f2 rfl, by simpa [Value.cells, o3, k3] using hg 3 f3 rfl, by simpa [Value.cells, o4, k4] using hg 4 f4 rfl⟩

end
end Opened
theorem bulk_strs {H : Type} : ∀ l : List ByteArray, l.length ≤ Rows.uptoBulkAll (ChangeShapes.strs (H := H) l) ∧ ∀ s ∈ l, s.size ≤ Rows.uptoBulkAll (ChangeShapes.strs (H := H) l)
  | [] => ⟨by simp, by simp⟩
  | s :: l => by
    obtain ⟨h1, h2⟩ := bulk_strs (H := H) l
    have e : Rows.uptoBulkAll (ChangeShapes.strs (H := H) (s :: l)) = (s.size + 1) + Rows.uptoBulkAll (ChangeShapes.strs (H := H) l) := by
      simp only [ChangeShapes.strs, List.map_cons, Rows.uptoBulkAll, Rows.uptoBulk]
      have : s.data.toList.length = s.size := Array.length_toList
      omega
    rw [e]
    refine ⟨by simp; omega, fun x hx => ?_⟩
    rcases List.mem_cons.1 hx with rfl | hx
    · omega
    · have := h2 x hx; omega
theorem strA_open {H : Type} {enc : TypeId × Value → H} {w : World} {base : Nat} {sp : Nat → Bool} {held : Bool} {fuel : Nat} {v : Value} {x : DataW H × List MemPlace} (h : DataW.trod enc Tryd.prog w base sp held fuel 25 [v] = some x) :
    ∃ L : List (List UInt8), StrA w v L ∧ L.length ≤ Rows.uptoBulk x.1 ∧ ∀ z ∈ L, z.length ≤ Rows.uptoBulk x.1 := by
  rcases ChangeShapes.open_strings Tryd.underlying25 Tryd.underlying9 (by kernel_rfl) h with ⟨h1, -⟩ | ⟨a, len, cap, ss, h1, -, hl, hm, hz, hx, hc, hw⟩
  · obtain rfl : v = .slice none 0 0 := by simpa using h1
    exact ⟨[], ⟨none, 0, rfl, .inl rfl⟩, by simp, by simp⟩
  · obtain rfl : v = .slice (some a) len cap := by simpa using h1
    have hzl : len ≤ ss.length := by rw [hz]; split <;> omega
    have hb := bulk_strs (H := H) (ss.take len)
    have hbu : Rows.uptoBulkAll (ChangeShapes.strs (H := H) (ss.take len)) ≤ Rows.uptoBulk x.1 := by
      rw [hx]; simp only [Rows.uptoBulk]; omega
    refine ⟨(ss.take len).map bl, ⟨some a, cap, by simp [Nat.min_eq_left hzl], ?_⟩, by rw [List.length_map]; omega, fun z hz => ?_⟩
    · by_cases h0 : len = 0
      · left; subst h0; simp
      · right
        have hp : 0 < ss.length := by omega
        have hc0 := hc 0 hp
        have hspot : a.spot = none := by
          rw [show a.add 0 = a from rfl] at hc0
          unfold World.cell? at hc0
          cases hs : a.spot with
          | none => rfl
          | some q =>
            rw [hs] at hc0
            split at hc0
            · simp at hc0
            · cases hc0
        obtain ⟨ab, ao, asp⟩ := a
        dsimp only at hspot
        subst hspot
        refine ⟨ab, ao, rfl, fun i z hz => ?_⟩
        rw [List.getElem?_map, Option.map_eq_some_iff] at hz
        obtain ⟨s, hs, rfl⟩ := hz
        have hi : i < len := by
          have := (List.getElem?_eq_some_iff.1 hs).1
          rw [List.length_take] at this; omega
        rw [List.getElem?_take, if_pos hi] at hs
        have h2 := hc i (by omega)
        rw [List.getD_eq_getElem?_getD, hs, Addr.add_lit] at h2
        rw [h2]
        simp [bl]
    · obtain ⟨s, hs, rfl⟩ := List.mem_map.1 hz
      have := hb.2 s hs
      rw [bl_len]; omega
theorem srcS (w : World) (v : Value) (L : List (List UInt8)) (h : StrA w v L) : ∃ p cap, v = .slice p L.length cap ∧ Src Tryd.prog 1 25 v L.length (strV L) w := by
  obtain ⟨p, cap, rfl, h⟩ := h
  refine ⟨p, cap, rfl, ?_⟩
  by_cases hl : L = []
  · subst hl
    cases p with
    | none => exact Src.ofNil (P := Tryd.prog) w Tryd.underlying25 cap
    | some a => exact Src.ofSlice (P := Tryd.prog) w Tryd.underlying25 a 0 cap (strV []) (by simp [strV]) (fun j u hj => by simp [strV] at hj) (fun u hu => by simp [strV] at hu)
  · obtain ⟨g, o, rfl, hc⟩ := h.resolve_left hl
    refine Src.ofSlice (P := Tryd.prog) w Tryd.underlying25 ⟨g, o, none⟩ L.length cap (strV L) (by simp [strV]) (fun j u hj => ?_) (fun u hu => ?_)
    · simp only [strV, List.getElem?_map, Option.map_eq_some_iff] at hj
      obtain ⟨b, hb, rfl⟩ := hj
      rw [Addr.add_lit]
      exact hc j b hb
    · obtain ⟨b, -, rfl⟩ := List.mem_map.1 hu
      rfl
/-- append([]string{}, l...) -/
theorem appS (ty : TypeId) (w : World) (g : Nat) (hg : w.heap[g]? = some (.cells #[] 9 (0, 0))) (v : Value) (L : List (List UInt8)) (h : StrA w v L) (hb : L.length ≤ 1073741824) :
    ∃ v' w', (Builtin.append_ #[25, 25] ty #[.slice (some ⟨g, 0, none⟩) 0 0, v]).run Tryd.prog w = .ok v' w' ∧ StrA w' v' L ∧ Below w.heap.size w w' ∧ (∃ a c, v' = .slice a L.length c ∧ (L = [] ∨ a = some ⟨w.heap.size, 0, none⟩)) := by
  obtain ⟨i, hi, hz, h1, h2⟩ := info_parts infoStr
  obtain ⟨p, cap, rfl, hs⟩ := srcS w v L h
  by_cases h0 : L = []
  · subst h0
    have hr := run_append_room_src (P := Tryd.prog) w 25 25 ty 9 i Tryd.underlying25 hi g 0 0 0 _ 0 (strV []) (by rw [h1]; exact hs) (Nat.le_refl _) (fun j hj => by simp [strV] at hj) (fun j hj => by simp [strV] at hj)
    exact ⟨_, _, hr, ⟨_, 0, rfl, .inl rfl⟩, Below.refl _ _, ⟨_, _, rfl, .inl rfl⟩⟩
  · have hp : 0 < L.length := List.length_pos_iff.2 h0
    have hold : (Builtin.firstCells i.size 0 (.slice (some ⟨g, 0, none⟩) 0 0)).run Tryd.prog w.drew = .ok ([] : List Value).toArray w.drew := by
      rw [h1]
      exact run_firstCells_some w.drew 1 0 ⟨g, 0, none⟩ 0 0 [] rfl (fun j u hu => by simp at hu)
    have hr := run_append_grow_src (P := Tryd.prog) w 25 25 ty 9 i _ Tryd.underlying25 hi hz (some ⟨g, 0, none⟩) 0 0 [] hold _ L.length (strV L) (by rw [h1]; exact hs) (by omega) (by omega) (growslice_fits (by omega) (by rw [h2]; omega))
    refine ⟨_, _, hr, ⟨_, _, by rw [Nat.zero_add], .inr ⟨w.heap.size, 0, rfl, fun j z hv => ?_⟩⟩, ((Below.refl _ w).drew).alloc (Nat.le_refl _) _, ⟨_, _, by rw [Nat.zero_add], .inr rfl⟩⟩
    have e1 : ∀ (cs : Array Value) (t : TypeId), (w.drew.alloc (.cells cs t)).cell? ⟨w.heap.size, 0 + j, none⟩ = cs[0 + j]? := fun cs t => World.cell?_alloc_new w.drew _ _ _
    rw [e1, Nat.zero_add, List.nil_append, Array.getElem?_append_left (by have := (List.getElem?_eq_some_iff.1 hv).1; simp [strV]; exact this)]
    simp [strV, hv]
theorem wpList_appS {ops : Array Oper} {rest : List Oper} {o : Oper} {a : Act} {Q : Exit → Act → World → Prop} {w : World} (hgd : o.guard = none) (sl x : Operand)
    (ho : o.op = .call { callee := .builtin .append, args := #[sl, x], argTypes := #[25, 25] })
    (g : Nat) (hv : a.eval sl = .slice (some ⟨g, 0, none⟩) 0 0) (hg : w.heap[g]? = some (.cells #[] 9 (0, 0))) (v : Value) (hx : a.eval x = v) (L : List (List UInt8)) (h : StrA w v L) (hb : L.length ≤ 1073741824)
    (hK : ∀ v' w', StrA w' v' L → Below w.heap.size w w' → (∃ a c, v' = .slice a L.length c ∧ (L = [] ∨ a = some ⟨w.heap.size, 0, none⟩)) → wpList Tryd.prog ops Q rest (a.put o.dst v') w') : wpList Tryd.prog ops Q (o :: rest) a w := by
  refine wpList_plain hgd fun K hK' => ?_
  obtain ⟨v', w', hr, h2, h3, h4⟩ := appS o.type w g hg v L h hb
  unfold Oper.wp execOp
  simp only [ho, resolve, invoke, builtin, Sem.run_bind, Sem.run_pure, Result.andThen_ok, List.map_toArray, List.map_cons, List.map_nil, hv, hx, hr]
  exact hK' _ _ (hK v' w' h2 h3 h4)
end Go.Proofs.YthfnjphmodcnoaaDoor
