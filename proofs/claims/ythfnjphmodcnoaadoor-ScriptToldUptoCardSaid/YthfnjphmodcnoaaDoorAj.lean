/- Contracts of the closures of a script's words. -/
import Derived.Test.YthfnjphmodcnoaaDoorAi
import Derived.Test.YthfnjphmodcnoaaDoorAh
namespace Go.Proofs.YthfnjphmodcnoaaDoor
open Go.RowKit Go.Maps
set_option linter.unusedSimpArgs false
set_option linter.unusedVariables false

/-- the reader's block -/
def RBlk (w : World) (rb : Nat) (pv : Value) (f c e : Int) : Prop := w.heap[rb]? = some (.cells #[pv, .int .i64 f, .int .i64 c, .int .i64 e] 52 (0, 0))
theorem RBlk.cell {w : World} {rb : Nat} {pv : Value} {f c e : Int} (h : RBlk w rb pv f c e) : w.cell? ⟨rb, 0, none⟩ = some pv ∧ w.cell? ⟨rb, 1, none⟩ = some (.int .i64 f) ∧ w.cell? ⟨rb, 2, none⟩ = some (.int .i64 c) ∧ w.cell? ⟨rb, 3, none⟩ = some (.int .i64 e) := by
  unfold RBlk at h
  unfold World.cell?
  rw [h]
  exact ⟨rfl, rfl, rfl, rfl⟩
theorem blk_cell (w : World) (rb off : Nat) (vs : Array Value) (T : TypeId) (hrv : w.heap[rb]? = some (.cells vs T (0, 0))) (hoff : off < vs.size) : ∃ old, w.cell? ⟨rb, off, none⟩ = some old ∧ w.frozen? ⟨rb, off, none⟩ = false := by
  refine ⟨vs[off], ?_, ?_⟩
  · unfold World.cell?
    rw [hrv]
    exact Array.getElem?_eq_getElem hoff
  · unfold World.frozen?
    rw [hrv]
    simp
set_option maxHeartbeats 2000000 in
theorem set11_c (b o cap c rb off : Nat) (ws : List (List UInt8)) (w : World) (h : Laid w) (hs : Strs w b o ws) (hl : ∀ x, ws[0]? = some x → x.length ≤ 1073741824) (hn : ws.length ≤ 1073741825)
    (hc : w.heap[c]? = some (.cells #[.pointer (some ⟨rb, off, none⟩)] 87 (0, 0))) (vs : Array Value) (T : TypeId) (hrv : w.heap[rb]? = some (.cells vs T (0, 0))) (hoff : off < vs.size) :
    Calls Tryd.prog 42 #[.slice (some ⟨b, o, none⟩) ws.length cap, .pointer (some ⟨c, 0, none⟩)] w fun e w' =>
      (ws.length ≠ 1 ∧ e = .returned (.bool false) ∧ w' = w) ∨
      (∃ x V w1, ws = [x] ∧ e = .returned (.bool (numQ x 2147483647).isSome) ∧ (∀ v, numQ x 2147483647 = some v → V = (v : Int)) ∧ Below w.heap.size w w1 ∧ w' = w1.setCell ⟨rb, off, none⟩ (.int .i64 V)) := by
  obtain ⟨old, hr, hfz⟩ := blk_cell w rb off vs T hrv hoff
  obtain ⟨n, hN⟩ : ∃ n, ws.length = n := ⟨_, rfl⟩
  rw [hN] at hn ⊢
  by_cases h1 : n = 1
  · subst h1
    obtain ⟨x, rfl⟩ : ∃ x, ws = [x] := List.length_eq_one_iff.1 hN
    have hx := hs 0 x rfl
    rw [Nat.add_zero] at hx
    have hxl := hl x rfl
    have hbl : bl ⟨x.toArray⟩ = x := by simp [bl]
    have hcc : w.cell? ⟨c, 0, none⟩ = some (.pointer (some ⟨rb, off, none⟩)) := by unfold World.cell?; rw [hc]; rfl
    have hcb := (Array.getElem?_eq_some_iff.1 hc).1
    have hrb : rb < w.heap.size := (Array.getElem?_eq_some_iff.1 hrv).1
    have hnum := Lib.hid ((number_c ⟨x.toArray⟩ 2147483647 (Nat.le_refl _) w h (show x.toArray.size ≤ _ by simpa using hxl)).mono (R' := fun e w' => (∃ V : Int, e = .returned (.tuple #[.int .i64 V, .bool (numQ x 2147483647).isSome]) ∧ ∀ v, numQ x 2147483647 = some v → V = (v : Int)) ∧ Below w.heap.size w w' ∧ w'.cell? ⟨c, 0, none⟩ = some (.pointer (some ⟨rb, off, none⟩)) ∧ w'.cell? ⟨rb, off, none⟩ = some old ∧ w'.frozen? ⟨rb, off, none⟩ = false)
      fun e w' h => by rw [hbl] at h; exact ⟨h.1, h.2, (h.2.cell (p := ⟨c, 0, none⟩) hcb).trans hcc, (h.2.cell (p := ⟨rb, off, none⟩) hrb).trans hr, (World.frozen?_of_block (a := ⟨rb, off, none⟩) (h.2.block rb hrb)).trans hfz⟩)
    clear hs hl hN hbl hxl hc h hcc hr hfz hcb hrb hrv hoff
    go_enter Tryd.func42, Tryd.ntmps42
    go_wp2_with (first | (go_at_call 29; refine (hnum.out).mono ?_; rintro e W1 ⟨⟨V, rfl, hV⟩, hB, hc1, hr1, hf1⟩))
    go_ret
    exact .inr ⟨x, V, W1, rfl, rfl, hV, hB, rfl⟩
  · have hni : ¬ (n : Int) = 1 := by omega
    go_enter Tryd.func42, Tryd.ntmps42
    go_wp2
    go_ret
    exact .inl ⟨h1, rfl, rfl⟩
end Go.Proofs.YthfnjphmodcnoaaDoor
