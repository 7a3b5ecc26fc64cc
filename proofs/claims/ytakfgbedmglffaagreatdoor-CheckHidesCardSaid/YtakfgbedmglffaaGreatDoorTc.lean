/- A text's bytes as a list, and what cuts of it are. No program in sight. -/
import Derived.Test.YtakfgbedmglffaaGreatDoorTb
import Derived.Laws.Strings
namespace Go.Proofs.YtakfgbedmglffaaGreatDoor
set_option linter.unusedSimpArgs false
set_option linter.unusedVariables false

/-- the bytes of a text -/
def bl (s : ByteArray) : List UInt8 := s.data.toList
theorem bl_len (s : ByteArray) : (bl s).length = s.size := by
  show s.data.toList.length = s.data.size
  simp
theorem bl_mk (l : List UInt8) : bl ⟨l.toArray⟩ = l := by simp [bl]
theorem mk_bl (s : ByteArray) : (⟨(bl s).toArray⟩ : ByteArray) = s := by simp [bl]
theorem bl_inj {s t : ByteArray} (h : bl s = bl t) : s = t := by rw [← mk_bl s, ← mk_bl t, h]
theorem bl_extract (s : ByteArray) (a b : Nat) : bl (s.extract a b) = ((bl s).drop a).take (b - a) := by
  unfold bl
  simp [ByteArray.data_extract, List.extract_eq_take_drop]
theorem bl_from (s : ByteArray) (a : Nat) : bl (s.extract a s.size) = (bl s).drop a := by
  rw [bl_extract, List.take_of_length_le]
  rw [List.length_drop, bl_len]; exact Nat.le_refl _
theorem bl_upto (s : ByteArray) (b : Nat) : bl (s.extract 0 b) = (bl s).take b := by
  rw [bl_extract]; simp
theorem dec_bl (s : ByteArray) (i : Nat) (h : i < s.size) : Utf8.decode s i = decL ((bl s).drop i) := by
  have e := dec_drop (bl s) i (by rw [bl_len]; exact h)
  rw [mk_bl] at e; exact e
theorem toList_bl (s : ByteArray) : s.toList = bl s := ByteArray.toList_eq s
theorem bl_size0 (s : ByteArray) : bl s = [] ↔ s.size = 0 := by rw [← bl_len]; exact List.length_eq_zero_iff.symm
end Go.Proofs.YtakfgbedmglffaaGreatDoor
