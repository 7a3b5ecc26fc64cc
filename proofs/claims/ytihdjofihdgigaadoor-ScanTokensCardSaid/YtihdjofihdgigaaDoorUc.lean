/- What the listed variables give a walk ('Laid'), that it outlives what a call makes, and the library's contracts in this seat's words. -/
import Derived.Test.YtihdjofihdgigaaDoorSx
import Derived.Test.YtihdjofihdgigaaDoorVd
namespace Go.Proofs.YtihdjofihdgigaaDoor
open Go.RowKit
set_option linter.unusedSimpArgs false
set_option linter.unusedVariables false

def signArr : Array Value := (signList.map fun z => Value.string ⟨z.toArray⟩).toArray
/-- the listed variables hold what their initialisers lay -/
structure Laid (w : World) : Prop where
  size : 9 ≤ w.heap.size
  u8 : Lib.Utf8Tabs 1 2 w
  most : ∃ m, w.cell? ⟨3, 0, none⟩ = some (.int .i64 m)
  range : ∃ ev, w.cell? ⟨5, 0, none⟩ = some ev ∧ (ev = .nilIface ∨ ∃ te pe, ev = .iface te pe)
  signs : ∃ t fr, w.heap[0]? = some (.cells signArr t fr)
theorem Laid.below {w w' : World} (h : Laid w) (hb : Below w.heap.size w w') : Laid w' := by
  have hs := h.size
  have hc : ∀ b o, b < 9 → w'.cell? ⟨b, o, none⟩ = w.cell? ⟨b, o, none⟩ := fun b o hlt => hb.cell (p := ⟨b, o, none⟩) (Nat.lt_of_lt_of_le hlt hs)
  obtain ⟨m, hm⟩ := h.most
  obtain ⟨ev, hr, hev⟩ := h.range
  obtain ⟨t, fr, hsg⟩ := h.signs
  refine ⟨Nat.le_trans hs hb.size, ?_, ⟨m, ?_⟩, ⟨ev, ?_, hev⟩, ⟨t, fr, ?_⟩⟩
  · obtain ⟨h1, h2⟩ := h.u8
    refine ⟨?_, ?_⟩
    · intro x hx; rw [hc _ _ (by decide)]; exact h1 x hx
    · intro i hi; rw [hc _ _ (by decide), hc _ _ (by decide)]; exact h2 i hi
  · rw [hc _ _ (by decide)]; exact hm
  · rw [hc _ _ (by decide)]; exact hr
  · rw [hb.block _ (Nat.lt_of_lt_of_le (by decide) hs)]; exact hsg
/-! ### the library's contracts, in this seat's words -/
def preP (p s : List UInt8) : Bool := p.isPrefixOf s
def hasB (s : List UInt8) (c : UInt8) : Bool := s.contains c
def hasL (s t : List UInt8) : Bool := Lib.contains s t
theorem prefix_c (s p : ByteArray) (w : World) : Calls Tryd.prog 24 #[.string s, .string p] w fun e w' => e = .returned (.bool (preP (bl p) (bl s))) ∧ w = w' :=
  (Tryd.strings_HasPrefix s p w).mono fun _ _ ⟨h1, h2⟩ => ⟨h1, h2.symm⟩
theorem decode_c (s : ByteArray) (w : World) (h : Laid w) (hs : s.size ≠ 0) : Calls Tryd.prog 39 #[.string s] w fun e w' => e = .returned (.tuple #[.int .i32 ((decL (bl s)).1 : Int), .int .i64 ((decL (bl s)).2 : Int)]) ∧ Below w.heap.size w w' := by
  have e : Lib.decodeGo s = decL (bl s) := by
    unfold Lib.decodeGo
    rw [if_neg hs, dec_bl s 0 (by omega)]; rfl
  rw [← e]
  exact Tryd.utf8_DecodeRuneInString s w h.u8
theorem indexByte_neg (l : List UInt8) (c : UInt8) : (decide (0 ≤ Lib.indexByte l c)) = l.contains c := by
  induction l with
  | nil => rfl
  | cons b l ih =>
    unfold Lib.indexByte
    by_cases h : (b == c) = true
    · have : b = c := by simpa using h
      subst this; simp
    · have hb : ¬ c = b := fun e => h (by simp [e])
      rw [if_neg h]
      have hc : (b :: l).contains c = l.contains c := by simp [hb]
      rw [hc, ← ih]
      split
      · rename_i h2; simp at h2; simp [h2]
      · rename_i h2
        have hge : -1 ≤ Lib.indexByte l c := by
          clear ih h hb hc h2
          induction l with
          | nil => exact Int.le_refl _
          | cons a l ih => unfold Lib.indexByte; split; omega; split <;> omega
        simp at h2
        rw [decide_eq_decide]; omega
theorem has1_c (s : ByteArray) (c : UInt8) (w : World) : Calls Tryd.prog 37 #[.string s, .string ⟨#[c]⟩] w fun e w' => e = .returned (.bool (hasB (bl s) c)) ∧ w = w' :=
  (Tryd.strings_Contains_one s c w).mono fun _ _ ⟨h1, h2⟩ => ⟨by rw [h1, indexByte_neg]; rfl, h2.symm⟩
theorem has_c (s t : ByteArray) (w : World) (h : Laid w) (hs : s.size ≤ 1073741824) : Calls Tryd.prog 37 #[.string s, .string t] w fun e w' => e = .returned (.bool (hasL (bl s) (bl t))) ∧ w = w' := by
  obtain ⟨m, hm⟩ := h.most
  exact (Tryd.strings_Contains s t m w (by omega) hm).mono fun _ _ ⟨h1, h2⟩ => ⟨h1, h2.symm⟩
theorem byte_int (c : UInt8) : ((c.toNat : Int)).toNat.toUInt8 = c := by
  simp
theorem index_c (s : ByteArray) (w : World) : Calls Tryd.prog 25 #[.string s, .int .u8 10] w fun e w' => e = .returned (.int .i64 (Lib.indexByte (bl s) 10)) ∧ w = w' :=
  (Tryd.strings_IndexByte s 10 w).mono fun _ _ ⟨h1, h2⟩ => ⟨h1, h2.symm⟩
theorem trim_c (s : ByteArray) (w : World) : Calls Tryd.prog 23 #[.string s, .string ⟨#[9, 13, 32]⟩] w fun e w' => e = .returned (.string ⟨((bl s).dropWhile isBlank).toArray⟩) ∧ Below w.heap.size w w' := by
  have e : Lib.trimLeftS (bl s) [9, 13, 32] = (bl s).dropWhile isBlank := by
    unfold Lib.trimLeftS
    congr 1
    funext b
    rw [Bool.eq_iff_iff]
    simp [isBlank, or_assoc]
  rw [← e]
  exact Any.strings_TrimLeft_laid Tryd.lays161 (by kernel_rfl) s ⟨#[9, 13, 32]⟩ w (by decide) (by
    intro j b h
    have : b ∈ ([9, 13, 32] : List UInt8) := List.mem_of_getElem? h
    simp at this
    rcases this with rfl | rfl | rfl <;> decide)
theorem valid_c (s : ByteArray) (w : World) (h : Laid w) (hs : s.size ≤ 1073741824) : Calls Tryd.prog 54 #[.string s] w fun e w' => e = .returned (.bool (Lib.validD (bl s))) ∧ Below w.heap.size w w' :=
  Any.utf8_ValidString Tryd.lays196 s w (by omega) h.u8
end Go.Proofs.YtihdjofihdgigaaDoor
