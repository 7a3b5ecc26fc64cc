/- The contract of the reference's Digits: the decimal numeral, with its sign. -/
import Derived.Test.YthfnjphmodcnoaaDoorZa
import Derived.Test.YthfnjphmodcnoaaDoorQ
import Derived.Test.YthfnjphmodcnoaaDoorChecked
import Derived.Lib.AppendIntMem
import Derived.Lib.Walk
import Derived.WalkKit
import Derived.BigCall
import Derived.BigGuard
namespace Go.Proofs.YthfnjphmodcnoaaDoor
open Go.RowKit
set_option linter.unusedSimpArgs false
set_option linter.unusedVariables false

def digsK (neg : Bool) (u : Nat) : List UInt8 := if neg then 45 :: Lib.decDigits u else Lib.decDigits u
theorem digit_wrap (u : Nat) : IntKind.u8.wrap (48 + ((u : Int) % 10)) = ((UInt8.ofNat (48 + u % 10)).toNat : Int) := by
  simp [IntKind.wrap, IntKind.signed, IntKind.bits]
theorem digit_nat (k : Nat) (h : k < 10) : ((UInt8.ofNat (48 + k)).toNat : Int) = 48 + (k : Int) := by
  have e : (UInt8.ofNat (48 + k)).toNat = (48 + k) % 256 := by simp
  rw [e]; omega
theorem str_cons (b : UInt8) (l : List UInt8) : ((⟨#[b]⟩ : ByteArray) ++ (⟨l.toArray⟩ : ByteArray)) = ⟨(b :: l).toArray⟩ := by
  apply ByteArray.ext
  simp
theorem conv_one (wr : World) (b : UInt8) (v : Int) (hv : v = (b.toNat : Int)) :
    (convert 63 9 (.slice (some ⟨wr.heap.size, 0, none⟩) 1 1)).run Tryd.prog (wr.alloc (.cells #[.int .u8 v] 5)) = .ok (.string ⟨#[b]⟩) (wr.alloc (.cells #[.int .u8 v] 5)) := by
  subst hv
  have h := run_convert_bytes_back (P := Tryd.prog) (wr.alloc (.cells #[.int .u8 b.toNat] 5)) 63 9 5 ⟨wr.heap.size, 0, none⟩ 1 [b] (by kernel_rfl) (by kernel_rfl) (by kernel_rfl) (fun j hj => by
    have hj0 : j = 0 := by simpa using hj
    subst hj0
    rw [Lib.add_plain, World.cell?_alloc_new]; rfl)
  exact h
theorem dec_len (u : Nat) (hu : u < 18446744073709551616) : (Lib.decDigits u).length ≤ 20 := by
  rw [Lib.decDigits_length]
  by_cases h0 : 1 ≤ u
  · have := Lib.numDigits_eq u h0 hu; split at this <;> omega
  · have : u = 0 := by omega
    subst this; rw [Lib.nDigits_small (by omega)]; omega
set_option maxRecDepth 100000 in
set_option maxHeartbeats 1000000 in
theorem rdigits_any (neg : Bool) (u : Nat) (hu : u < 18446744073709551616) (w : World) :
    Calls Tryd.prog 18 #[.agg #[.bool neg, .int .u64 u]] w fun e w' => e = .returned (.string ⟨(digsK neg u).toArray⟩) ∧ Below w.heap.size w w' := by
  have hn20 : Lib.nDigits u ≤ 20 := by
    rw [← Lib.decDigits_length]; exact dec_len u hu
  go_enter Tryd.func18, Tryd.ntmps18
  go_wp2
  go_loopw [3, 4] (fun n s wr => ∃ m l, m ≤ u ∧ n = .int .u64 (m : Nat) ∧ s = .string ⟨l.toArray⟩ ∧ Hid (Lib.decDigits m ++ l = Lib.decDigits u) ∧ Below (w.alloc (.cells #[.bool neg, .int .u64 u] 49)).heap.size (w.alloc (.cells #[.bool neg, .int .u64 u] 49)) wr) (fun n _ _ => (intOf n).toNat)
  case atStart => exact ⟨u, [], Nat.le_refl _, rfl, rfl, Lib.hid (by simp), Below.refl _ _⟩
  case round =>
    obtain ⟨m, l, hm, rfl, rfl, hd, hwr⟩ := hrel
    have hl : l.length ≤ 20 := by
      have h1 := congrArg List.length hd.out
      rw [List.length_append, Lib.decDigits_length, Lib.decDigits_length] at h1; omega
    have HM := Lib.hid hm
    have hq : IntKind.u64.wrap ((m : Int) / 10) = (m : Int) / 10 := by rw [IntKind.wrap_u64]; omega
    clear hu hm
    obtain ⟨hc1, hf1⟩ := bcell hwr
    have hz1 : w.heap.size < wr.heap.size := by have := hwr.size; simp at this; omega
    have hb0 : Below w.heap.size w wr := below_two (Below.alloc (Below.refl _ _) (Nat.le_refl _) _) hwr
    by_cases h : m < 10
    · have hc := conv_one wr (UInt8.ofNat (48 + m)) (48 + (m : Int)) (digit_nat m h).symm
      have hD : Hid (UInt8.ofNat (48 + m) :: l = Lib.decDigits u) := Lib.hid (by have h2 := hd.out; rw [Lib.decDigits_one h] at h2; exact h2)
      generalize UInt8.ofNat (48 + m) = b at *
      cases neg
      · go_wp2
        go_ret
        exact ⟨by rw [str_cons, hD.out]; rfl, Below.alloc hb0 hb0.size _⟩
      · go_wp2
        go_ret
        exact ⟨by rw [str_cons, str_cons, hD.out]; rfl, Below.alloc hb0 hb0.size _⟩
    · have hc := conv_one wr (UInt8.ofNat (48 + m % 10)) (48 + (m : Int) % 10) (by rw [digit_nat (m % 10) (by omega)]; omega)
      have hD : Hid (Lib.decDigits (m / 10) ++ (UInt8.ofNat (48 + m % 10) :: l) = Lib.decDigits u) := Lib.hid (by have h2 := hd.out; rw [decd_step h, List.append_assoc] at h2; exact h2)
      generalize UInt8.ofNat (48 + m % 10) = b at *
      go_wp2
      exact ⟨⟨m / 10, b :: l, by have := HM.out; omega, by go_num, by rw [str_cons], hD, Below.alloc hwr hwr.size _⟩, by simp [intOf]; omega⟩

end Go.Proofs.YthfnjphmodcnoaaDoor
