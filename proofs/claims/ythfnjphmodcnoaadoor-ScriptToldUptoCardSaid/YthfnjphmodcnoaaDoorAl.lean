/- What script.Parse answers, in plain Lean; frames with two rows. -/
import Derived.Test.YthfnjphmodcnoaaDoorAk
namespace Go.Proofs.YthfnjphmodcnoaaDoor
open Go.RowKit Go.Maps
set_option linter.unusedSimpArgs false
set_option linter.unusedVariables false

structure PSt where
  f : Nat
  c : Nat
  e : Nat
  p : List Nat
  s1 : Bool
  s2 : Bool
  s3 : Bool
  s4 : Bool
def mostP : Nat := 2147483647
def oneQ (args : List (List UInt8)) : Option Nat := match args with
  | [x] => numQ x mostP
  | _ => none
def kwP (x : List UInt8) : Option Nat := if x = kFuel then some 0 else if x = kCells then some 1 else if x = kEvery then some 2 else if x = kPicks then some 3 else none
def seenP (st : PSt) : Nat → Bool
  | 0 => st.s1
  | 1 => st.s2
  | 2 => st.s3
  | _ => st.s4
def setQ (st : PSt) (args : List (List UInt8)) : Nat → Option PSt
  | 0 => (oneQ args).map fun v => { st with f := v, s1 := true }
  | 1 => (oneQ args).map fun v => { st with c := v, s2 := true }
  | 2 => (oneQ args).map fun v => { st with e := v, s3 := true }
  | _ => (pickL args).map fun l => { st with p := l, s4 := true }
def goP (ended : Bool) : List (List UInt8) → Nat → PSt → Except (Nat × Nat) PSt
  | [], _, st => .ok st
  | x :: l, i, st => match kwP ((splitP 32 x).headD []) with
    | none => .error (i + 1, 5)
    | some k => if seenP st k then .error (i + 1, 8) else if l.isEmpty && !ended then .error (i + 1, 5) else match setQ st (splitP 32 x).tail k with
      | none => .error (i + 1, 5)
      | some st' => goP ended l (i + 1) st'
def st0 : PSt := ⟨10000, 10000, 0, [], false, false, false, false⟩
def parseP (s : List UInt8) : Except (Nat × Nat) PSt := if 65536 < s.length then .error (0, 6) else goP (linesP s).2 (linesP s).1 0 st0
def ParsePost (base : Nat) (R : Except (Nat × Nat) PSt) (e : Ending) (w' : World) : Prop := match R with
  | .error (l, c) => e = .returned (.tuple #[.agg #[.slice none 0 0, .int .i64 0, .int .i64 0, .int .i64 0], .int .i64 (l : Int), .int .i64 (c : Int)])
  | .ok st => ∃ pv, e = .returned (.tuple #[.agg #[pv, .int .i64 (st.f : Int), .int .i64 (st.c : Int), .int .i64 (st.e : Int)], .int .i64 0, .int .i64 0]) ∧ w'.ownsRow base 22 1 pv st.p.length (pickV st.p)

/-- only the rows rb and ms may have turned -/
structure Fr (rb ms : Nat) (w w' : World) : Prop where
  os : w'.os = w.os
  tape : w'.tape = w.tape
  output : w'.output = w.output
  size : w.heap.size ≤ w'.heap.size
  block : ∀ k, k < w.heap.size → k ≠ rb → k ≠ ms → w'.heap[k]? = w.heap[k]?
theorem Fr.refl (rb ms : Nat) (w : World) : Fr rb ms w w := ⟨rfl, rfl, rfl, Nat.le_refl _, fun _ _ _ _ => rfl⟩
theorem Fr.trans {rb ms : Nat} {a b c : World} (h : Fr rb ms a b) (k : Fr rb ms b c) : Fr rb ms a c :=
  ⟨k.os.trans h.os, k.tape.trans h.tape, k.output.trans h.output, Nat.le_trans h.size k.size, fun i hi h1 h2 => (k.block i (Nat.lt_of_lt_of_le hi h.size) h1 h2).trans (h.block i hi h1 h2)⟩
theorem Fr.below {rb ms : Nat} {w w' : World} (h : Below w.heap.size w w') : Fr rb ms w w' := ⟨h.os, h.tape, h.output, h.size, fun k hk _ _ => h.block k hk⟩
theorem Fr.rb {rb ms : Nat} {w w' : World} (h : w.grownBy w' (some rb)) : Fr rb ms w w' := ⟨h.os, h.tape, h.output, h.size, fun k hk h1 _ => h.block k hk (fun e => h1 (Option.some.inj e))⟩
theorem Fr.ms {rb ms : Nat} {w w' : World} (h : w.grownBy w' (some ms)) : Fr rb ms w w' := ⟨h.os, h.tape, h.output, h.size, fun k hk _ h2 => h.block k hk (fun e => h2 (Option.some.inj e))⟩
theorem Fr.to_below {rb ms : Nat} {w0 w w' : World} (h : Fr rb ms w w') (hb : Below w0.heap.size w0 w) (h1 : w0.heap.size ≤ rb) (h2 : w0.heap.size ≤ ms) : Below w0.heap.size w0 w' :=
  hb.trans ⟨h.os, h.tape, h.output, h.size, fun k hk => h.block k (Nat.lt_of_lt_of_le hk hb.size) (by omega) (by omega)⟩
theorem Fr.laid {rb ms : Nat} {w w' : World} (h : Fr rb ms w w') (hl : Laid w) (h1 : 9 ≤ rb) (h2 : 9 ≤ ms) : Laid w' :=
  laid_nine hl (Nat.le_trans hl.size h.size) (fun k hk => h.block k (Nat.lt_of_lt_of_le hk hl.size) (by omega) (by omega))
theorem setG_kw (x1 x2 x3 x4 : Value) (x : List UInt8) : setG true true true true x1 x2 x3 x4 x = (kwP x).map fun k => if k = 0 then x1 else if k = 1 then x2 else if k = 2 then x3 else x4 := by
  unfold setG kwP
  by_cases h1 : x = kFuel
  · simp [h1]
  · by_cases h2 : x = kCells
    · subst h2; rfl
    · by_cases h3 : x = kEvery
      · subst h3; rfl
      · by_cases h4 : x = kPicks
        · subst h4; rfl
        · simp [h1, h2, h3, h4]
def tv : Value := .bool true
def seenG (st : PSt) : List UInt8 → Option Value := setG st.s1 st.s2 st.s3 st.s4 tv tv tv tv
theorem seenG_kw (st : PSt) (x : List UInt8) (k : Nat) (h : kwP x = some k) : seenG st x = if seenP st k then some tv else none := by
  unfold kwP at h
  unfold seenG setG
  split at h
  · rename_i e; subst e; cases h
    cases hs : st.s1 <;> simp [seenP, hs, show (kFuel == kCells) = false by decide, show (kFuel == kEvery) = false by decide, show (kFuel == kPicks) = false by decide]
  · split at h
    · rename_i e; subst e; cases h
      cases hs : st.s2 <;> simp [seenP, hs, show (kCells == kFuel) = false by decide, show (kCells == kEvery) = false by decide, show (kCells == kPicks) = false by decide]
    · split at h
      · rename_i e; subst e; cases h
        cases hs : st.s3 <;> simp [seenP, hs, show (kEvery == kFuel) = false by decide, show (kEvery == kCells) = false by decide, show (kEvery == kPicks) = false by decide]
      · split at h
        · rename_i e; subst e; cases h
          cases hs : st.s4 <;> simp [seenP, hs, show (kPicks == kFuel) = false by decide, show (kPicks == kCells) = false by decide, show (kPicks == kEvery) = false by decide]
        · cases h
/-- behind a line that is read its word is seen -/
theorem seenG_put (st st' : PSt) (x : List UInt8) (k : Nat) (args : List (List UInt8)) (h : kwP x = some k) (hk : setQ st args k = some st') : (fun key => if key = x then some tv else seenG st key) = seenG st' := by
  unfold kwP at h
  split at h
  · rename_i e; subst e; cases h
    unfold setQ at hk
    cases ho : oneQ args with
    | none => rw [ho] at hk; cases hk
    | some v =>
      rw [ho] at hk; cases hk
      cases h1 : st.s1
      · have := upd_setG1 st.s2 st.s3 st.s4 tv tv tv tv; simp only [seenG, h1]; exact this
      · funext key; unfold seenG setG; by_cases e : key = kFuel <;> simp [e, h1]
  · split at h
    · rename_i e; subst e; cases h
      unfold setQ at hk
      cases ho : oneQ args with
      | none => rw [ho] at hk; cases hk
      | some v =>
        rw [ho] at hk; cases hk
        cases h1 : st.s2
        · have := upd_setG2 st.s1 st.s3 st.s4 tv tv tv tv; simp only [seenG, h1]; exact this
        · funext key; unfold seenG setG; by_cases e : key = kCells <;> simp [e, h1, show (kCells == kFuel) = false by decide]
    · split at h
      · rename_i e; subst e; cases h
        unfold setQ at hk
        cases ho : oneQ args with
        | none => rw [ho] at hk; cases hk
        | some v =>
          rw [ho] at hk; cases hk
          cases h1 : st.s3
          · have := upd_setG3 st.s1 st.s2 st.s4 tv tv tv tv; simp only [seenG, h1]; exact this
          · funext key; unfold seenG setG; by_cases e : key = kEvery <;> simp [e, h1, show (kEvery == kFuel) = false by decide, show (kEvery == kCells) = false by decide]
      · split at h
        · rename_i e; subst e; cases h
          unfold setQ at hk
          cases ho : pickL args with
          | none => rw [ho] at hk; cases hk
          | some v =>
            rw [ho] at hk; cases hk
            cases h1 : st.s4
            · have := upd_setG4 st.s1 st.s2 st.s3 tv tv tv tv; simp only [seenG, h1]; exact this
            · funext key; unfold seenG setG; by_cases e : key = kPicks <;> simp [e, h1, show (kPicks == kFuel) = false by decide, show (kPicks == kCells) = false by decide, show (kPicks == kEvery) = false by decide]
        · cases h
end Go.Proofs.YthfnjphmodcnoaaDoor
