/- Contract of scan.ends: does a line that ends with a token end a statement? -/
import Derived.Test.YtihdjofihdgigaaDoorUj
import Derived.Test.YtihdjofihdgigaaDoorTe
namespace Go.Proofs.YtihdjofihdgigaaDoor
open Go.RowKit
set_option linter.unusedSimpArgs false
set_option linter.unusedVariables false

def enderP (z : List UInt8) : Bool := enders.contains z
def enderBs : List ByteArray := enders.map fun z => ⟨z.toArray⟩
theorem ender_has (z : List UInt8) : Lib.containsS enderBs ⟨z.toArray⟩ = enders.contains z := by
  rw [Bool.eq_iff_iff, Lib.containsS_iff, List.contains_iff_mem]
  unfold enderBs
  rw [List.mem_map]
  constructor
  · rintro ⟨y, hy, e⟩
    have := congrArg bl e
    rw [bl_mk, bl_mk] at this
    rw [← this]; exact hy
  · intro h; exact ⟨z, h, rfl⟩
theorem ender_cells (W : World) (n : Nat) (hn : n = W.heap.size) (t : TypeId) (x : List UInt8) :
    Calls Tryd.prog 46 #[.slice (some ⟨n, 0, none⟩) 8 8, .string ⟨x.toArray⟩] (W.alloc (.cells ((enders.map fun z => Value.string ⟨z.toArray⟩).toArray) t)) fun e w' => e = .returned (.bool (enderP x)) ∧ W.alloc (.cells ((enders.map fun z => Value.string ⟨z.toArray⟩).toArray) t) = w' := by
  refine (Tryd.slices_Contains_string n 0 8 8 enderBs ⟨x.toArray⟩ _ (by decide) (by decide) (fun j hj => ?_)).mono fun _ _ ⟨h1, h2⟩ => ⟨?_, h2.symm⟩
  · rw [Nat.zero_add, World.cell?_alloc_at _ _ n j hn]
    have hj' : j < 8 := hj
    rcases j with _ | _ | _ | _ | _ | _ | _ | _ | j
    all_goals first | rfl | (exfalso; omega)
  · rw [h1, show enderBs.take 8 = enderBs from rfl, ender_has]; rfl
set_option maxRecDepth 100000 in
theorem ends_c (t : Tok) (w : World) (h : okTok t) :
    Calls Tryd.prog 26 #[tokV t] w fun e w' => e = .returned (.bool (closesP t)) ∧ Below w.heap.size w w' := by
  unfold tokV
  obtain ⟨kind, text, num, place⟩ := t
  rcases h with (rfl | rfl | rfl | rfl) | ⟨h1, h2⟩
  · go_enter Tryd.func26, Tryd.ntmps26
    go_wp2
    go_ret
    exact ⟨rfl, (by repeat' (first | with_reducible assumption | with_reducible exact Below.refl _ _ | with_reducible refine Below.setCell ?_ ?_ _ | with_reducible refine Below.alloc ?_ ?_ _ | with_reducible refine Below.drew ?_ | with_reducible refine below_dn ?_ _ | refine below_two ?_ (by assumption) | omega | (simp; omega) | (simp; done)))⟩
  · go_enter Tryd.func26, Tryd.ntmps26
    go_wp2
    go_ret
    exact ⟨rfl, (by repeat' (first | with_reducible assumption | with_reducible exact Below.refl _ _ | with_reducible refine Below.setCell ?_ ?_ _ | with_reducible refine Below.alloc ?_ ?_ _ | with_reducible refine Below.drew ?_ | with_reducible refine below_dn ?_ _ | refine below_two ?_ (by assumption) | omega | (simp; omega) | (simp; done)))⟩
  · have hc : closesP ⟨3, text, num, place⟩ = enderP text := by simp only [closesP]; rfl
    have HC := Lib.hid hc
    clear hc
    go_enter Tryd.func26, Tryd.ntmps26
    go_wp2_with fail
    refine (ender_cells _ _ (by simp) _ text).mono ?_
    rintro e w' ⟨rfl, rfl⟩
    go_wp2
    go_ret
    exact ⟨ret_bool HC.out.symm, (by repeat' (first | with_reducible assumption | with_reducible exact Below.refl _ _ | with_reducible refine Below.setCell ?_ ?_ _ | with_reducible refine Below.alloc ?_ ?_ _ | with_reducible refine Below.drew ?_ | with_reducible refine below_dn ?_ _ | refine below_two ?_ (by assumption) | omega | (simp; omega) | (simp; done)))⟩
  · have hc : closesP ⟨4, text, num, place⟩ = enderP text := by simp only [closesP]; rfl
    have HC := Lib.hid hc
    clear hc
    go_enter Tryd.func26, Tryd.ntmps26
    go_wp2_with fail
    refine (ender_cells _ _ (by simp) _ text).mono ?_
    rintro e w' ⟨rfl, rfl⟩
    go_wp2
    go_ret
    exact ⟨ret_bool HC.out.symm, (by repeat' (first | with_reducible assumption | with_reducible exact Below.refl _ _ | with_reducible refine Below.setCell ?_ ?_ _ | with_reducible refine Below.alloc ?_ ?_ _ | with_reducible refine Below.drew ?_ | with_reducible refine below_dn ?_ _ | refine below_two ?_ (by assumption) | omega | (simp; omega) | (simp; done)))⟩
  · simp only at h1 h2
    subst h1
    have hc : closesP ⟨5, text, num, place⟩ = false := by simp only [closesP, h2]; rfl
    rw [hc]
    clear hc h2
    go_enter Tryd.func26, Tryd.ntmps26
    go_wp2
    go_ret
    exact ⟨rfl, (by repeat' (first | with_reducible assumption | with_reducible exact Below.refl _ _ | with_reducible refine Below.setCell ?_ ?_ _ | with_reducible refine Below.alloc ?_ ?_ _ | with_reducible refine Below.drew ?_ | with_reducible refine below_dn ?_ _ | refine below_two ?_ (by assumption) | omega | (simp; omega) | (simp; done)))⟩
end Go.Proofs.YtihdjofihdgigaaDoor
