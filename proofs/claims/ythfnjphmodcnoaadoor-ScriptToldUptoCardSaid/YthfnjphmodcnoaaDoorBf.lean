/- The plain law of ScriptTurns: a script's lines in any order, one missing, one twice. No program in sight. -/
import Derived.Test.YthfnjphmodcnoaaDoorAl
namespace Go.Proofs.YthfnjphmodcnoaaDoor
set_option linter.unusedSimpArgs false
set_option linter.unusedVariables false

section
variable (f c e : Nat) (ps : List Nat)
def picksT : List Nat → List UInt8
  | [] => []
  | v :: l => 32 :: (Lib.decDigits v ++ picksT l)
/-- a line without its end -/
def lineT : Nat → List UInt8
  | 0 => kFuel ++ 32 :: Lib.decDigits f
  | 1 => kCells ++ 32 :: Lib.decDigits c
  | 2 => kEvery ++ 32 :: Lib.decDigits e
  | _ => kPicks ++ picksT ps
def stepT (st : PSt) : Nat → PSt
  | 0 => { st with f := f, s1 := true }
  | 1 => { st with c := c, s2 := true }
  | 2 => { st with e := e, s3 := true }
  | _ => { st with p := ps, s4 := true }
end
theorem dec_no (v : Nat) (b : UInt8) (hb : b.toNat < 48) : b ∉ Lib.decDigits v := fun h => by
  have := (dec_digs v b h).1; omega
theorem picksT_no (b : UInt8) (hb : b.toNat < 48) (h32 : b ≠ 32) : ∀ ps, b ∉ picksT ps
  | [] => by simp [picksT]
  | v :: l => by
    have ih := picksT_no b hb h32 l
    have := dec_no v b hb
    simp [picksT, h32, this, ih]
theorem lineT_no (f c e : Nat) (ps : List Nat) (j : Nat) : (10 : UInt8) ∉ lineT f c e ps j := by
  have h1 := fun v => dec_no v 10 (by decide)
  have h2 := picksT_no 10 (by decide) (by decide) ps
  match j with
  | 0 => simp [lineT, kFuel, h1]
  | 1 => simp [lineT, kCells, h1]
  | 2 => simp [lineT, kEvery, h1]
  | j + 3 => simp [lineT, kPicks, h2]
theorem split_lines : ∀ (Ls : List (List UInt8)), (∀ x ∈ Ls, (10 : UInt8) ∉ x) → splitP 10 (Ls.flatMap (· ++ [10])) = Ls ++ [[]]
  | [], _ => rfl
  | x :: Ls, h => by
    have ih := split_lines Ls (fun y hy => h y (by simp [hy]))
    rw [List.flatMap_cons, List.append_assoc]
    show splitP 10 (x ++ 10 :: Ls.flatMap (· ++ [10])) = _
    rw [splitP_app 10 x _ (h x (by simp)), ih]
    rfl
theorem linesP_text (Ls : List (List UInt8)) (h : ∀ x ∈ Ls, (10 : UInt8) ∉ x) : linesP (Ls.flatMap (· ++ [10])) = (Ls, true) := by
  unfold linesP
  rw [split_lines Ls h]
  cases Ls with
  | nil => rfl
  | cons x Ls =>
    rw [if_neg (by simp), List.getLast?_concat, if_pos rfl, List.dropLast_concat]
theorem split_picks : ∀ (ps : List Nat) (x : List UInt8), (32 : UInt8) ∉ x → splitP 32 (x ++ picksT ps) = x :: ps.map Lib.decDigits
  | [], x, h => by rw [picksT, List.append_nil, splitP_none 32 x h]; rfl
  | v :: l, x, h => by
    rw [picksT, splitP_app 32 x _ h, split_picks l (Lib.decDigits v) (dec_no v 32 (by decide))]
    rfl
theorem numQ_dec (v lim : Nat) (h : v ≤ lim) : numQ (Lib.decDigits v) lim = some v := (numQ_iff _ _ _).2 ⟨rfl, h⟩
theorem pickL_dec : ∀ (ps : List Nat), (∀ v ∈ ps, v ≤ 65535) → pickL (ps.map Lib.decDigits) = some ps
  | [], _ => rfl
  | v :: l, h => by
    have ih := pickL_dec l (fun x hx => h x (by simp [hx]))
    rw [List.map_cons, pickL, numQ_dec v 65535 (h v (by simp)), ih]
theorem split_one (w : List UInt8) (v : Nat) (h : (32 : UInt8) ∉ w) : splitP 32 (w ++ 32 :: Lib.decDigits v) = [w, Lib.decDigits v] := by
  rw [splitP_app 32 w _ h, splitP_none 32 _ (dec_no v 32 (by decide))]
theorem goP_nil (b : Bool) (i : Nat) (st : PSt) : goP b [] i st = .ok st := rfl
theorem go_line (f c e : Nat) (ps : List Nat) (hf : f ≤ 65535) (hc : c ≤ 65535) (he : e ≤ 65535) (hp : ∀ v ∈ ps, v ≤ 65535) (j : Nat) (hj : j < 4) (l : List (List UInt8)) (i : Nat) (st : PSt) :
    goP true (lineT f c e ps j :: l) i st = if seenP st j then .error (i + 1, 8) else goP true l (i + 1) (stepT f c e ps st j) := by
  match j, hj with
  | 0, _ =>
    have h1 := split_one kFuel f (by decide)
    rw [lineT, goP, h1]
    have : oneQ [Lib.decDigits f] = some f := by unfold oneQ; exact numQ_dec f _ (by unfold mostP; omega)
    simp [kwP, setQ, this, stepT, show ¬ kFuel = kCells by decide]
  | 1, _ =>
    have h1 := split_one kCells c (by decide)
    rw [lineT, goP, h1]
    have : oneQ [Lib.decDigits c] = some c := by unfold oneQ; exact numQ_dec c _ (by unfold mostP; omega)
    simp [kwP, setQ, this, stepT, show ¬ kCells = kFuel by decide]
  | 2, _ =>
    have h1 := split_one kEvery e (by decide)
    rw [lineT, goP, h1]
    have : oneQ [Lib.decDigits e] = some e := by unfold oneQ; exact numQ_dec e _ (by unfold mostP; omega)
    simp [kwP, setQ, this, stepT, show ¬ kEvery = kFuel by decide, show ¬ kEvery = kCells by decide]
  | 3, _ =>
    have h1 := split_picks ps kPicks (by decide)
    rw [lineT, goP, h1]
    have := pickL_dec ps hp
    simp [kwP, setQ, this, stepT, show ¬ kPicks = kFuel by decide, show ¬ kPicks = kCells by decide, show ¬ kPicks = kEvery by decide]
    all_goals (intro h0; cases h0)
/-- the text of some lines -/
def textT (f c e : Nat) (ps : List Nat) (js : List Nat) : List UInt8 := (js.map (lineT f c e ps)).flatMap (· ++ [10])
theorem text_lines (f c e : Nat) (ps : List Nat) (js : List Nat) : linesP (textT f c e ps js) = (js.map (lineT f c e ps), true) :=
  linesP_text _ (fun x hx => by
    obtain ⟨j, -, rfl⟩ := List.mem_map.1 hx
    exact lineT_no f c e ps j)
def goT (f c e : Nat) (ps : List Nat) (js : List Nat) : Except (Nat × Nat) PSt := goP (linesP (textT f c e ps js)).2 (linesP (textT f c e ps js)).1 0 st0
section
variable (f c e : Nat) (ps : List Nat) (hf : f ≤ 65535) (hc : c ≤ 65535) (he : e ≤ 65535) (hp : ∀ v ∈ ps, v ≤ 65535)
include hf hc he hp
theorem go_whole (k : Nat) (hk : k < 4) : goT f c e ps [k, (k + 1) % 4, (k + 2) % 4, (k + 3) % 4] = .ok ⟨f, c, e, ps, true, true, true, true⟩ := by
  unfold goT
  rw [text_lines]
  have h := go_line f c e ps hf hc he hp
  match k, hk with
  | 0, _ => simp [h, seenP, stepT, st0, goP_nil]
  | 1, _ => simp [h, seenP, stepT, st0, goP_nil]
  | 2, _ => simp [h, seenP, stepT, st0, goP_nil]
  | 3, _ => simp [h, seenP, stepT, st0, goP_nil]
theorem go_less (k : Nat) (hk : k < 4) : goT f c e ps [(k + 1) % 4, (k + 2) % 4, (k + 3) % 4] = .ok ⟨if k = 0 then 10000 else f, if k = 1 then 10000 else c, if k = 2 then 0 else e, if k = 3 then [] else ps, decide (k ≠ 0), decide (k ≠ 1), decide (k ≠ 2), decide (k ≠ 3)⟩ := by
  unfold goT
  rw [text_lines]
  have h := go_line f c e ps hf hc he hp
  match k, hk with
  | 0, _ => simp [h, seenP, stepT, st0, goP_nil]
  | 1, _ => simp [h, seenP, stepT, st0, goP_nil]
  | 2, _ => simp [h, seenP, stepT, st0, goP_nil]
  | 3, _ => simp [h, seenP, stepT, st0, goP_nil]
theorem go_twice (k : Nat) (hk : k < 4) : goT f c e ps [k, (k + 1) % 4, k] = .error (3, 8) := by
  unfold goT
  rw [text_lines]
  have h := go_line f c e ps hf hc he hp
  match k, hk with
  | 0, _ => simp [h, seenP, stepT, st0]
  | 1, _ => simp [h, seenP, stepT, st0]
  | 2, _ => simp [h, seenP, stepT, st0]
  | 3, _ => simp [h, seenP, stepT, st0]
end
end Go.Proofs.YthfnjphmodcnoaaDoor
