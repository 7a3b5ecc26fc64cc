/- Contract of script.ending. -/
import Derived.Test.YthfnjphmodcnoaaDoorBb
import Derived.Test.YthfnjphmodcnoaaDoorBd
import Derived.Lib.SlicesS
namespace Go.Proofs.YthfnjphmodcnoaaDoor
open Go.RowKit
set_option linter.unusedSimpArgs false
set_option linter.unusedVariables false

def endB : List ByteArray := endList.map fun z => ⟨z.toArray⟩
def endW (l : List UInt8) : List UInt8 := (Lib.cut l [32]).1
def endC (l : List UInt8) : List UInt8 := (Lib.cut l [32]).2.1
def endH (l : List UInt8) : Bool := (Lib.cut l [32]).2.2
def endK (l : List UInt8) : Int := Lib.idxOfS endB ⟨(endW l).toArray⟩
/-- the ending of a line: which, and its code -/
def endQ (l : List UInt8) : Option (Int × Int) :=
  if endK l < 1 then none
  else if endH l then (if endK l = 2 then (match Lib.parseIntB 64 (endC l) with | .ok v => if Lib.itoa v = endC l then some (2, v) else none | _ => none) else none)
  else if endK l = 2 then none else some (endK l, 0)
theorem endK_range (l : List UInt8) : -1 ≤ endK l ∧ endK l ≤ 5 := by
  unfold endK
  by_cases h : (⟨(endW l).toArray⟩ : ByteArray) ∈ endB
  · obtain ⟨k, hk, he⟩ := List.getElem_of_mem h
    have hk6 : k < 6 := hk
    have key : ∀ j : Fin 6, -1 ≤ Lib.idxOfS endB (endB.getD j.val ByteArray.empty) ∧ Lib.idxOfS endB (endB.getD j.val ByteArray.empty) ≤ 5 := by decide +kernel
    have := key ⟨k, hk6⟩
    rw [← he]
    rw [List.getD_eq_getElem?_getD, List.getElem?_eq_getElem hk] at this
    exact this
  · have := Lib.idxOfS_miss endB 6 ⟨(endW l).toArray⟩ (fun j hj e => h (by
      have hj2 : j < endB.length := hj
      rw [← e, List.getD_eq_getElem?_getD, List.getElem?_eq_getElem hj2]
      exact List.getElem_mem hj2))
    rw [show endB.take 6 = endB by decide +kernel] at this
    rw [this]; omega
theorem cut_c (s : ByteArray) (w : World) (h : Laid w) (hs : s.size ≤ 1073741824) : Calls Tryd.prog 50 #[.string s, .string ⟨#[32]⟩] w fun e w' => e = .returned (.tuple #[.string ⟨(endW (bl s)).toArray⟩, .string ⟨(endC (bl s)).toArray⟩, .bool (endH (bl s))]) ∧ Below w.heap.size w w' := by
  obtain ⟨m, hm⟩ := h.most
  exact (Tryd.strings_Cut s ⟨#[32]⟩ m w (by omega) hm).mono fun e w' ⟨h1, n, h2⟩ => ⟨h1, h2 ▸ below_dn (Below.refl _ _) n⟩
theorem idx_end (x : List UInt8) (w : World) (h : Laid w) : Calls Tryd.prog 51 #[.slice (some ⟨0, 0, none⟩) 6 6, .string ⟨x.toArray⟩] w fun e w' => e = .returned (.int .i64 (Lib.idxOfS endB ⟨x.toArray⟩)) ∧ w' = w := by
  obtain ⟨t, fr, he⟩ := h.ends
  have hl : endB.length = 6 := by decide +kernel
  have := Tryd.slices_Index_string 0 0 6 6 endB ⟨x.toArray⟩ w (by rw [hl]; exact Nat.le_refl _) (by omega) (fun j hj => by
    rw [Nat.zero_add]
    unfold World.cell?
    rw [he]
    have hj2 : j < endList.length := by simpa [endB] using hj
    simp [endArr, endB, hj2])
  rw [show endB.take 6 = endB by decide +kernel] at this
  exact this
theorem endC_len (l : List UInt8) : (endC l).length ≤ l.length := by
  unfold endC Lib.cut
  split
  · simp
  · simp
end Go.Proofs.YthfnjphmodcnoaaDoor
