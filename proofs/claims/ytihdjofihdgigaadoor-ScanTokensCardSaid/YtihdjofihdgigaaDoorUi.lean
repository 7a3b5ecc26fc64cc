/- Contract of scan.one: the token that a text begins with. -/
import Derived.Test.YtihdjofihdgigaaDoorUh
import Derived.Laws.Rows
namespace Go.Proofs.YtihdjofihdgigaaDoor
open Go.RowKit
set_option linter.unusedSimpArgs false
set_option linter.unusedVariables false

def tokV (t : Tok) : Value := .agg #[.int .i64 t.kind, .string ⟨t.text.toArray⟩, .int .u64 t.num, .int .i64 (t.place : Int)]
theorem cut_to (s : ByteArray) (n : Nat) : s.extract 0 n = ⟨((bl s).take n).toArray⟩ := by
  apply bl_inj
  rw [bl_upto]
  exact (bl_mk _).symm
theorem sign_at : (k : Nat) → k < 33 → ∀ w, (Instr.index 67 (.agg signArr) (.int .i64 (k : Int))).run Tryd.prog w = .ok (.string ⟨(signList.getD k []).toArray⟩) w
  | 0, _, w => by kernel_rfl
  | 1, _, w => by kernel_rfl
  | 2, _, w => by kernel_rfl
  | 3, _, w => by kernel_rfl
  | 4, _, w => by kernel_rfl
  | 5, _, w => by kernel_rfl
  | 6, _, w => by kernel_rfl
  | 7, _, w => by kernel_rfl
  | 8, _, w => by kernel_rfl
  | 9, _, w => by kernel_rfl
  | 10, _, w => by kernel_rfl
  | 11, _, w => by kernel_rfl
  | 12, _, w => by kernel_rfl
  | 13, _, w => by kernel_rfl
  | 14, _, w => by kernel_rfl
  | 15, _, w => by kernel_rfl
  | 16, _, w => by kernel_rfl
  | 17, _, w => by kernel_rfl
  | 18, _, w => by kernel_rfl
  | 19, _, w => by kernel_rfl
  | 20, _, w => by kernel_rfl
  | 21, _, w => by kernel_rfl
  | 22, _, w => by kernel_rfl
  | 23, _, w => by kernel_rfl
  | 24, _, w => by kernel_rfl
  | 25, _, w => by kernel_rfl
  | 26, _, w => by kernel_rfl
  | 27, _, w => by kernel_rfl
  | 28, _, w => by kernel_rfl
  | 29, _, w => by kernel_rfl
  | 30, _, w => by kernel_rfl
  | 31, _, w => by kernel_rfl
  | 32, _, w => by kernel_rfl
  | k + 33, h, _ => absurd h (by omega)
set_option maxRecDepth 100000 in
set_option maxHeartbeats 2000000 in
theorem one_let (s : ByteArray) (p : Nat) (w : World) (h : Laid w) (hs : s.size ≤ 1073741824) (h0 : s.size ≠ 0) (hL : isLet (decL (bl s)).1 = true) :
    Calls Tryd.prog 27 #[.string s, .int .i64 p] w fun e w' => e = .returned (.tuple #[tokV (oneP (bl s) p).1, .int .i64 ((oneP (bl s) p).2.1 : Int), .int .i64 (oneP (bl s) p).2.2]) ∧ Below w.heap.size w w' := by
  have hn := runL_bd (bl s)
  rw [bl_len] at hn
  have hc := decode_c s (w.alloc (.cells #[.int .i64 0, .string ⟨#[]⟩, .int .u64 0, .int .i64 0] 31)) (h.below ((Below.refl _ _).alloc (Nat.le_refl _) _)) h0
  have HC := Lib.hid hc
  clear hc
  go_enter Tryd.func27, Tryd.ntmps27
  go_wp2_with fail
  refine HC.out.mono ?_
  rintro e w1 ⟨rfl, hw1⟩
  have kf : ∀ o, w1.frozen? ⟨w.heap.size, o, none⟩ = false := fun o => by rw [(bcell hw1).2 _ _ (by simp)]; simp [go_sem]
  have kc : ∀ o, w1.cell? ⟨w.heap.size, o, none⟩ = (#[Value.int .i64 0, .string ⟨#[]⟩, .int .u64 0, .int .i64 0] : Array Value)[o]? := fun o => by rw [(bcell hw1).1 _ _ (by simp)]; simp [go_sem]
  have hz1 : w.heap.size < w1.heap.size := by have := hw1.size; simp at this; omega
  have hb1 : Below w.heap.size w w1 := below_two ((Below.refl _ _).alloc (Nat.le_refl _) _) hw1
  have hl1 := h.below hb1
  clear hw1 HC
  go_wp2_with fail
  refine (run_any s _ hs).mono ?_
  rintro e w2 ⟨rfl, hw2⟩
  have kf2 : ∀ o, w2.frozen? ⟨w.heap.size, o, none⟩ = false := fun o => by rw [(bcell hw2).2 _ _ hz1]; exact kf o
  have kc2 : ∀ o, w2.cell? ⟨w.heap.size, o, none⟩ = (#[Value.int .i64 0, .string ⟨#[]⟩, .int .u64 0, .int .i64 0] : Array Value)[o]? := fun o => by rw [(bcell hw2).1 _ _ hz1]; exact kc o
  have hz2 : w.heap.size < w2.heap.size := by have := hw2.size; omega
  have hb2 : Below w.heap.size w w2 := below_two hb1 hw2
  have hl2 := hl1.below hw2
  have h0' := h
  clear hw2 kf kc hz1 hb1 hl1 h
  have c0 := kc2 0
  have c1 := kc2 1
  have c2 := kc2 2
  have c3 := kc2 3
  have f0 := kf2 0
  have f1 := kf2 1
  have f2 := kf2 2
  have f3 := kf2 3
  simp at c0 c1 c2 c3
  clear kc2 kf2
  have hone : oneP (bl s) p = if 64 < runL (bl s) then (⟨1, (bl s).take (runL (bl s)), 0, p⟩, runL (bl s), 6) else (⟨if isWord ((bl s).take (runL (bl s))) then 3 else 1, (bl s).take (runL (bl s)), 0, p⟩, runL (bl s), 0) := by
    unfold oneP; rw [hL]; rfl
  have hcut := cut_to s (runL (bl s))
  have hwd := fun w hl => word_c (s.extract 0 (runL (bl s))) w hl (by rw [← bl_len, bl_upto, List.length_take]; omega)
  rw [bl_upto] at hwd
  have HWD := Lib.hid hwd
  have HONE := Lib.hid hone
  have HCUT := Lib.hid hcut
  have hL' := letter_any
  clear hwd hone hcut
  generalize hN : runL (bl s) = N at *
  have hN1 : (N : Int) ≤ (s.size : Int) := by omega
  clear hN
  have hB3 := hb2.alloc hb2.size (.cells #[.int .i64 1, .string (s.extract 0 N), .int .u64 0, .int .i64 p] 31)
  have hl3 := h0'.below hB3
  by_cases h64 : 64 < N
  · have h64' : (64 : Int) < (N : Int) := by omega
    go_wp2_with (first | (go_at_call 48; refine (letter_any _ _).mono ?_; rintro e w' ⟨rfl, rfl⟩))
    (try simp only [Exit.inBlock, Exit.then]); refine bodyPost_ret (by (simp [results, Tryd.results27, go_sem, c0, c1, c2, c3, f0, f1, f2, f3, hz2]; try rfl)) rfl ?_
    refine ⟨?_, (by repeat' (first | with_reducible assumption | with_reducible exact Below.refl _ _ | with_reducible refine Below.setCell ?_ ?_ _ | with_reducible refine Below.alloc ?_ ?_ _ | with_reducible refine Below.drew ?_ | with_reducible refine below_dn ?_ _ | refine below_two ?_ (by assumption) | omega | (simp; omega) | (simp; done)))⟩
    rw [HONE.out, if_pos h64, HCUT.out]; rfl
  · have h64' : ¬ (64 : Int) < (N : Int) := by omega
    cases hw : isWord ((bl s).take N)
    · rw [hw] at HWD HONE
      go_wp2_with (first | (go_at_call 48; refine (letter_any _ _).mono ?_; rintro e w' ⟨rfl, rfl⟩))
      refine (HWD.out _ hl3).mono ?_
      rintro e w' ⟨rfl, rfl⟩
      go_wp2
      (try simp only [Exit.inBlock, Exit.then]); refine bodyPost_ret (by (simp [results, Tryd.results27, go_sem, c0, c1, c2, c3, f0, f1, f2, f3, hz2]; try rfl)) rfl ?_
      refine ⟨?_, (by repeat' (first | with_reducible assumption | with_reducible exact Below.refl _ _ | with_reducible refine Below.setCell ?_ ?_ _ | with_reducible refine Below.alloc ?_ ?_ _ | with_reducible refine Below.drew ?_ | with_reducible refine below_dn ?_ _ | refine below_two ?_ (by assumption) | omega | (simp; omega) | (simp; done)))⟩
      rw [HONE.out, if_neg h64, HCUT.out]; rfl
    · rw [hw] at HWD HONE
      go_wp2_with (first | (go_at_call 48; refine (letter_any _ _).mono ?_; rintro e w' ⟨rfl, rfl⟩))
      refine (HWD.out _ hl3).mono ?_
      rintro e w' ⟨rfl, rfl⟩
      go_wp2
      (try simp only [Exit.inBlock, Exit.then]); refine bodyPost_ret (by (simp [results, Tryd.results27, go_sem, c0, c1, c2, c3, f0, f1, f2, f3, hz2]; try rfl)) rfl ?_
      refine ⟨?_, (by repeat' (first | with_reducible assumption | with_reducible exact Below.refl _ _ | with_reducible refine Below.setCell ?_ ?_ _ | with_reducible refine Below.alloc ?_ ?_ _ | with_reducible refine Below.drew ?_ | with_reducible refine below_dn ?_ _ | refine below_two ?_ (by assumption) | omega | (simp; omega) | (simp; done)))⟩
      rw [HONE.out, if_neg h64, HCUT.out]; rfl
end Go.Proofs.YtihdjofihdgigaaDoor
