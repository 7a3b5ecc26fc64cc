/- Contracts of the reference's closes and next: the token that a text begins with at a place. -/
import Derived.Test.YtihdjofihdgigaaDoorVe
import Derived.Test.YtihdjofihdgigaaDoorUl
namespace Go.Proofs.YtihdjofihdgigaaDoor
open Go.RowKit
set_option linter.unusedSimpArgs false
set_option linter.unusedVariables false

theorem cell_strs_at (zs : List (List UInt8)) (w : World) (n : Nat) (hn : n = w.heap.size) (t : TypeId) (j : Nat) (h : j < zs.length) :
    (w.alloc (.cells (zs.map fun z => Value.string ⟨z.toArray⟩).toArray t)).cell? ⟨n, j, none⟩ = some (.string ⟨(zs[j]).toArray⟩) := by
  subst hn; exact cell_strs zs w _ t rfl j h
set_option maxRecDepth 100000 in
set_option maxHeartbeats 1000000 in
theorem rcloses_any (t : Tok) (w : World) : Calls Tryd.prog 30 #[tokV t] w fun e w' => e = .returned (.bool (closesP t)) ∧ Below w.heap.size w w' := by
  obtain ⟨kind, text, num, place⟩ := t
  unfold tokV
  by_cases k1 : kind = 1
  · subst k1
    rw [show closesP ⟨1, text, num, place⟩ = true from rfl]
    go_enter Tryd.func30, Tryd.ntmps30
    go_wp2
    go_ret
    exact ⟨rfl, (by repeat' (first | with_reducible assumption | with_reducible exact Below.refl _ _ | with_reducible refine Below.setCell ?_ ?_ _ | with_reducible refine Below.alloc ?_ ?_ _ | with_reducible refine Below.drew ?_ | with_reducible refine below_dn ?_ _ | refine below_two ?_ (by assumption) | omega | (simp; omega) | (simp; done)))⟩
  · by_cases k2 : kind = 2
    · subst k2
      rw [show closesP ⟨2, text, num, place⟩ = true from rfl]
      go_enter Tryd.func30, Tryd.ntmps30
      go_wp2
      go_ret
      exact ⟨rfl, (by repeat' (first | with_reducible assumption | with_reducible exact Below.refl _ _ | with_reducible refine Below.setCell ?_ ?_ _ | with_reducible refine Below.alloc ?_ ?_ _ | with_reducible refine Below.drew ?_ | with_reducible refine below_dn ?_ _ | refine below_two ?_ (by assumption) | omega | (simp; omega) | (simp; done)))⟩
    · have b1 : (kind == 1) = false := by simpa using k1
      have b2 : (kind == 2) = false := by simpa using k2
      have hR : closesP ⟨kind, text, num, place⟩ = enders.contains text := by simp [closesP, b1, b2]
      have hI : inP enders ⟨text.toArray⟩ = enders.contains text := by unfold inP; rw [bl_mk]
      rw [hR]
      clear hR k1 k2
      generalize enders.contains text = b at *
      have HI := Lib.hid hI
      clear hI
      go_enter Tryd.func30, Tryd.ntmps30
      go_wp2_with fail
      refine (rin_any enders ⟨text.toArray⟩ (w.heap.size + 1) 8 ((w.alloc (.cells #[.int .i64 kind, .string ⟨text.toArray⟩, .int .u64 num, .int .i64 (place : Int)] 31)).alloc (.cells (enders.map fun z => Value.string ⟨z.toArray⟩).toArray 9)) (by decide) (fun j h => cell_strs_at enders (w.alloc (.cells #[.int .i64 kind, .string ⟨text.toArray⟩, .int .u64 num, .int .i64 (place : Int)] 31)) (w.heap.size + 1) (by simp) 9 j h)).mono ?_
      rintro e w2 ⟨rfl, hw2⟩
      have hB2 : Below w.heap.size w w2 := hw2 ▸ (by repeat' (first | with_reducible assumption | with_reducible exact Below.refl _ _ | with_reducible refine Below.setCell ?_ ?_ _ | with_reducible refine Below.alloc ?_ ?_ _ | with_reducible refine Below.drew ?_ | with_reducible refine below_dn ?_ _ | refine below_two ?_ (by assumption) | omega | (simp; omega) | (simp; done)))
      clear hw2
      rw [HI.out]
      go_wp2
      go_ret
      exact ⟨rfl, hB2⟩

/-- the cells of the result that was laid first -/
theorem res_cells {w w1 : World} {t : TypeId} (hw1 : Below (w.alloc (.cells #[.int .i64 0, .string ⟨#[]⟩, .int .u64 0, .int .i64 0] t)).heap.size (w.alloc (.cells #[.int .i64 0, .string ⟨#[]⟩, .int .u64 0, .int .i64 0] t)) w1) :
    (w1.cell? ⟨w.heap.size, 0, none⟩ = some (.int .i64 0) ∧ w1.cell? ⟨w.heap.size, 1, none⟩ = some (.string ⟨#[]⟩) ∧ w1.cell? ⟨w.heap.size, 2, none⟩ = some (.int .u64 0) ∧ w1.cell? ⟨w.heap.size, 3, none⟩ = some (.int .i64 0)) ∧
    (w1.frozen? ⟨w.heap.size, 0, none⟩ = false ∧ w1.frozen? ⟨w.heap.size, 1, none⟩ = false ∧ w1.frozen? ⟨w.heap.size, 2, none⟩ = false ∧ w1.frozen? ⟨w.heap.size, 3, none⟩ = false) ∧ w.heap.size < w1.heap.size ∧ Below w.heap.size w w1 := by
  have kf : ∀ o, w1.frozen? ⟨w.heap.size, o, none⟩ = false := fun o => by rw [(bcell hw1).2 _ _ (by simp)]; simp [go_sem]
  have kc : ∀ o, w1.cell? ⟨w.heap.size, o, none⟩ = (#[Value.int .i64 0, .string ⟨#[]⟩, .int .u64 0, .int .i64 0] : Array Value)[o]? := fun o => by rw [(bcell hw1).1 _ _ (by simp)]; simp [go_sem]
  exact ⟨⟨kc 0, kc 1, kc 2, kc 3⟩, ⟨kf 0, kf 1, kf 2, kf 3⟩, by have := hw1.size; simp at this; omega, below_two ((Below.refl _ _).alloc (Nat.le_refl _) _) hw1⟩
/-- what the reference's next hands back -/
def NextPost (l : List UInt8) (p : Nat) (e : Ending) : Prop := ∃ (t : Tok) (en : Nat), e = .returned (.tuple #[tokV t, .int .i64 (en : Int), .int .i64 (oneP l p).2.2]) ∧ ((oneP l p).2.2 = 0 → t = (oneP l p).1 ∧ en = p + (oneP l p).2.1)
theorem rone_dig (l : List UInt8) (p : Nat) (hL : isLet (decL l).1 = false) (hD : isDig (decL l).1 = true) : oneP l p = (⟨2, l.take (runL l), (numP (l.take (runL l))).1, p⟩, runL l, (numP (l.take (runL l))).2) := by
  unfold oneP; rw [hL, hD]; rfl
theorem rone_let (l : List UInt8) (p : Nat) (hL : isLet (decL l).1 = true) : oneP l p = if 64 < runL l then (⟨1, l.take (runL l), 0, p⟩, runL l, 6) else (⟨if isWord (l.take (runL l)) then 3 else 1, l.take (runL l), 0, p⟩, runL l, 0) := by
  unfold oneP; rw [hL]; rfl
theorem rone_sign (l : List UInt8) (p : Nat) (hl : l ≠ []) (hL : isLet (decL l).1 = false) (hD : isDig (decL l).1 = false) : oneP l p = if signR l = [] then (⟨0, [], 0, 0⟩, 0, 4) else (⟨if signR l = [59] then 5 else 4, signR l, 0, p⟩, (signR l).length, 0) := by
  unfold oneP; rw [hL, hD, sign_eq l hl]
  simp only [Bool.false_eq_true, if_false]
  by_cases h : signR l = []
  · rw [if_pos h, if_pos h]
  · rw [if_neg h, if_neg h]
theorem signR_len (l : List UInt8) : (signR l).length ≤ 2 := by
  unfold signR
  split
  · rw [List.length_take]; omega
  · split
    · rw [List.length_take]; omega
    · simp
theorem cut_at (s : ByteArray) (p q : Nat) : s.extract p (p + q) = ⟨(((bl s).drop p).take q).toArray⟩ := by
  apply bl_inj
  rw [bl_extract, bl_mk]; congr 1; omega
set_option maxRecDepth 100000 in
set_option maxHeartbeats 4000000 in
theorem rnext_any (s : ByteArray) (p : Nat) (w : World) (hs : s.size ≤ 65536) (hp : p < s.size) :
    Calls Tryd.prog 29 #[.string s, .int .i64 p] w fun e w' => NextPost ((bl s).drop p) p e ∧ Below w.heap.size w w' := by
  have hn := runL_bd ((bl s).drop p)
  rw [List.length_drop, bl_len] at hn
  have hdr : (bl s).drop p = s[p] :: (bl s).drop (p + 1) := by
    rw [List.drop_eq_getElem_cons (by rw [bl_len]; exact hp)]
    congr 1
  have hdb := dig_byte s[p] ((bl s).drop (p + 1))
  have hrp := run_pos s[p] ((bl s).drop (p + 1))
  rw [← hdr] at hdb hrp
  have hne : (bl s).drop p ≠ [] := by rw [hdr]; simp
  obtain ⟨E, hE⟩ : ∃ E, E = p + runL ((bl s).drop p) := ⟨_, rfl⟩
  have C1 := fun w1 => rstretch_any s p w1 (by omega) (by omega)
  rw [← hE] at C1
  have hcut : s.extract p E = ⟨(((bl s).drop p).take (runL ((bl s).drop p))).toArray⟩ := by rw [hE]; exact cut_at s p _
  have hbl : bl (s.extract p E) = ((bl s).drop p).take (runL ((bl s).drop p)) := by rw [hcut, bl_mk]
  have C2 := fun w1 => rnumber_any (s.extract p E) w1 (by rw [← bl_len, hbl, List.length_take]; omega)
  have C3 := fun w1 => rword3_any (s.extract p E) w1
  rw [show inP wordList (s.extract p E) = isWord (bl (s.extract p E)) from rfl] at C3
  rw [hbl] at C2 C3
  have C4 := Lib.hid (fun w1 => rsign_any s p w1 (by omega) hp)
  have o1 := rone_dig ((bl s).drop p) p
  have o2 := rone_let ((bl s).drop p) p
  have o3 := rone_sign ((bl s).drop p) p hne
  have hsl := signR_len ((bl s).drop p)
  have hb8 : (s[p]).toNat < 256 := (s[p]).toNat_lt
  have hps : (p : Int) < (s.size : Int) := by omega
  have HCUT := Lib.hid hcut
  clear hdr hne hcut hbl
  generalize (bl s).drop p = l at *
  generalize hN : runL l = N at *
  generalize signR l = g at *
  generalize l.take N = tx at *
  have hEs : E ≤ s.size := by omega
  have hEi : (E : Int) ≤ (s.size : Int) := by omega
  have hEN : (E : Int) - (p : Int) = (N : Int) := by omega
  cases hD : isDig (decL l).1
  · cases hL : isLet (decL l).1
    · -- a sign
      have hN0 : N = 0 := by
        by_cases h : 0 < N
        · have := hrp.1 h; simp [isLD, hL, hD] at this
        · omega
      have HO := Lib.hid (o3 hL hD)
      obtain rfl : E = p := by omega
      have HC1 := Lib.hid C1
      clear o1 o2 o3 C1 C2 C3 hdb hrp hD hL hN HCUT hE hEN hN0 hn
      go_enter Tryd.func29, Tryd.ntmps29
      go_wp2_with fail
      refine (HC1.out _).mono ?_
      rintro e w1 ⟨rfl, hw1⟩
      obtain ⟨⟨c0, c1, c2, c3⟩, ⟨f0, f1, f2, f3⟩, hz1, hb1⟩ := res_cells hw1
      clear hw1 HC1
      go_wp2_with fail
      refine (C4.out _).mono ?_
      rintro e w2 ⟨rfl, hw2⟩
      obtain ⟨hwc2, hwf2⟩ := bcell hw2
      replace c0 := (hwc2 _ 0 hz1).trans c0
      replace c1 := (hwc2 _ 1 hz1).trans c1
      replace c2 := (hwc2 _ 2 hz1).trans c2
      replace c3 := (hwc2 _ 3 hz1).trans c3
      replace f0 := (hwf2 _ 0 hz1).trans f0
      replace f1 := (hwf2 _ 1 hz1).trans f1
      replace f2 := (hwf2 _ 2 hz1).trans f2
      replace f3 := (hwf2 _ 3 hz1).trans f3
      have hz2 : w.heap.size < w2.heap.size := by have := hw2.size; omega
      have hb2 : Below w.heap.size w w2 := below_two hb1 hw2
      clear hwc2 hwf2 hw2 hb1
      clear C4
      by_cases hg : g = []
      · subst hg
        go_wp2
        (try simp only [Exit.inBlock, Exit.then]); refine bodyPost_ret (by (simp [results, Tryd.results29, go_sem, c0, c1, c2, c3, f0, f1, f2, f3, hz2]; try rfl)) rfl ?_
        exact ⟨⟨⟨0, [], 0, 0⟩, E, by rw [HO.out]; rfl, fun h => by rw [HO.out] at h; simp at h⟩, (by repeat' (first | with_reducible assumption | with_reducible exact Below.refl _ _ | with_reducible refine Below.setCell ?_ ?_ _ | with_reducible refine Below.alloc ?_ ?_ _ | with_reducible refine Below.drew ?_ | with_reducible refine below_dn ?_ _ | refine below_two ?_ (by assumption) | omega | (simp; omega) | (simp; done)))⟩
      · have hge : g.isEmpty = false := by simpa using hg
        by_cases h59 : g = [59]
        · subst h59
          go_wp2
          (try simp only [Exit.inBlock, Exit.then]); refine bodyPost_ret (by (simp [results, Tryd.results29, go_sem, c0, c1, c2, c3, f0, f1, f2, f3, hz2]; try rfl)) rfl ?_
          exact ⟨⟨⟨5, [59], 0, E⟩, E + 1, by rw [HO.out]; rfl, fun _ => by rw [HO.out]; exact ⟨rfl, rfl⟩⟩, (by repeat' (first | with_reducible assumption | with_reducible exact Below.refl _ _ | with_reducible refine Below.setCell ?_ ?_ _ | with_reducible refine Below.alloc ?_ ?_ _ | with_reducible refine Below.drew ?_ | with_reducible refine below_dn ?_ _ | refine below_two ?_ (by assumption) | omega | (simp; omega) | (simp; done)))⟩
        · have hg9 : (g == [59]) = false := by simpa using h59
          have HG := Lib.hid hg
          have H5 := Lib.hid h59
          clear hg h59
          go_wp2
          (try simp only [Exit.inBlock, Exit.then]); refine bodyPost_ret (by (simp [results, Tryd.results29, go_sem, c0, c1, c2, c3, f0, f1, f2, f3, hz2]; try rfl)) rfl ?_
          exact ⟨⟨⟨4, g, 0, E⟩, E + g.length, by rw [HO.out, if_neg HG.out]; rfl, fun _ => by rw [HO.out, if_neg HG.out, if_neg H5.out]; exact ⟨rfl, rfl⟩⟩, (by repeat' (first | with_reducible assumption | with_reducible exact Below.refl _ _ | with_reducible refine Below.setCell ?_ ?_ _ | with_reducible refine Below.alloc ?_ ?_ _ | with_reducible refine Below.drew ?_ | with_reducible refine below_dn ?_ _ | refine below_two ?_ (by assumption) | omega | (simp; omega) | (simp; done)))⟩
    · -- a word
      have hN1 : 0 < N := hrp.2 (by simp [isLD, hL])
      have HO := Lib.hid (o2 hL)
      have HC1 := Lib.hid C1
      have HC3 := Lib.hid C3
      have hx : ¬ (48 ≤ (s[p]).toNat ∧ (s[p]).toNat ≤ 57) := by
        intro hh
        rw [hD] at hdb
        have := hdb.symm
        simp [hh.1, hh.2] at this
      have hpE : (p : Int) < (E : Int) := by omega
      have hpE2 : p < E := by omega
      clear o1 o2 o3 C1 C2 C3 hdb hrp hD hL hN hE hN1 hn C4 hsl
      have hxx : decide ((48 : Int) ≤ ((s[p]).toNat : Int)) = false ∨ (decide ((48 : Int) ≤ ((s[p]).toNat : Int)) = true ∧ decide (((s[p]).toNat : Int) ≤ 57) = false) := by
        by_cases h48 : 48 ≤ (s[p]).toNat
        · exact .inr ⟨decide_eq_true (by omega), decide_eq_false (by omega)⟩
        · exact .inl (decide_eq_false (by omega))
      clear hx hb8
      rcases hxx with hx1 | ⟨hx1, hx2⟩
      all_goals
        go_enter Tryd.func29, Tryd.ntmps29
        go_wp2_with fail
        refine (HC1.out _).mono ?_
        rintro e w1 ⟨rfl, hw1⟩
        obtain ⟨⟨c0, c1, c2, c3⟩, ⟨f0, f1, f2, f3⟩, hz1, hb1⟩ := res_cells hw1
        clear hw1 HC1
        by_cases h64 : 64 < N
        · rw [if_pos h64] at HO
          have h64i : (64 : Int) < (N : Int) := by omega
          have h64b : decide ((64 : Int) < (N : Int)) = true := decide_eq_true h64i
          clear h64
          go_wp2
          (try simp only [Exit.inBlock, Exit.then]); refine bodyPost_ret (by (simp [results, Tryd.results29, go_sem, c0, c1, c2, c3, f0, f1, f2, f3, hz1]; try rfl)) rfl ?_
          exact ⟨⟨⟨0, [], 0, 0⟩, E, by rw [HO.out]; rfl, fun h => by rw [HO.out] at h; simp at h⟩, (by repeat' (first | with_reducible assumption | with_reducible exact Below.refl _ _ | with_reducible refine Below.setCell ?_ ?_ _ | with_reducible refine Below.alloc ?_ ?_ _ | with_reducible refine Below.drew ?_ | with_reducible refine below_dn ?_ _ | refine below_two ?_ (by assumption) | omega | (simp; omega) | (simp; done)))⟩
        · rw [if_neg h64] at HO
          have h64i : ¬ (64 : Int) < (N : Int) := by omega
          have h64b : decide ((64 : Int) < (N : Int)) = false := decide_eq_false h64i
          clear h64
          cases hw : isWord tx
          · rw [hw] at HC3 HO
            go_wp2_with fail
            refine (HC3.out _).mono ?_
            rintro e w2 ⟨rfl, hw2⟩
            obtain ⟨hwc2, hwf2⟩ := bcell hw2
            replace c0 := (hwc2 _ 0 hz1).trans c0
            replace c1 := (hwc2 _ 1 hz1).trans c1
            replace c2 := (hwc2 _ 2 hz1).trans c2
            replace c3 := (hwc2 _ 3 hz1).trans c3
            replace f0 := (hwf2 _ 0 hz1).trans f0
            replace f1 := (hwf2 _ 1 hz1).trans f1
            replace f2 := (hwf2 _ 2 hz1).trans f2
            replace f3 := (hwf2 _ 3 hz1).trans f3
            have hz2 : w.heap.size < w2.heap.size := by have := hw2.size; omega
            have hb2 : Below w.heap.size w w2 := below_two hb1 hw2
            clear hwc2 hwf2 hw2 hb1
            go_wp2
            (try simp only [Exit.inBlock, Exit.then]); refine bodyPost_ret (by (simp [results, Tryd.results29, go_sem, c0, c1, c2, c3, f0, f1, f2, f3, hz2]; try rfl)) rfl ?_
            exact ⟨⟨⟨1, tx, 0, p⟩, E, by rw [HO.out, HCUT.out]; rfl, fun _ => by rw [HO.out]; exact ⟨rfl, by show E = p + N; omega⟩⟩, (by repeat' (first | with_reducible assumption | with_reducible exact Below.refl _ _ | with_reducible refine Below.setCell ?_ ?_ _ | with_reducible refine Below.alloc ?_ ?_ _ | with_reducible refine Below.drew ?_ | with_reducible refine below_dn ?_ _ | refine below_two ?_ (by assumption) | omega | (simp; omega) | (simp; done)))⟩
          · rw [hw] at HC3 HO
            go_wp2_with fail
            refine (HC3.out _).mono ?_
            rintro e w2 ⟨rfl, hw2⟩
            obtain ⟨hwc2, hwf2⟩ := bcell hw2
            replace c0 := (hwc2 _ 0 hz1).trans c0
            replace c1 := (hwc2 _ 1 hz1).trans c1
            replace c2 := (hwc2 _ 2 hz1).trans c2
            replace c3 := (hwc2 _ 3 hz1).trans c3
            replace f0 := (hwf2 _ 0 hz1).trans f0
            replace f1 := (hwf2 _ 1 hz1).trans f1
            replace f2 := (hwf2 _ 2 hz1).trans f2
            replace f3 := (hwf2 _ 3 hz1).trans f3
            have hz2 : w.heap.size < w2.heap.size := by have := hw2.size; omega
            have hb2 : Below w.heap.size w w2 := below_two hb1 hw2
            clear hwc2 hwf2 hw2 hb1
            go_wp2
            (try simp only [Exit.inBlock, Exit.then]); refine bodyPost_ret (by (simp [results, Tryd.results29, go_sem, c0, c1, c2, c3, f0, f1, f2, f3, hz2]; try rfl)) rfl ?_
            exact ⟨⟨⟨3, tx, 0, p⟩, E, by rw [HO.out, HCUT.out]; rfl, fun _ => by rw [HO.out]; exact ⟨rfl, by show E = p + N; omega⟩⟩, (by repeat' (first | with_reducible assumption | with_reducible exact Below.refl _ _ | with_reducible refine Below.setCell ?_ ?_ _ | with_reducible refine Below.alloc ?_ ?_ _ | with_reducible refine Below.drew ?_ | with_reducible refine below_dn ?_ _ | refine below_two ?_ (by assumption) | omega | (simp; omega) | (simp; done)))⟩
  · have hL : isLet (decL l).1 = false := by
      cases hL : isLet (decL l).1 with
      | false => rfl
      | true => rw [let_not_dig hL] at hD; cases hD
    have hN1 : 0 < N := hrp.2 (by simp [isLD, hD])
    have HO := Lib.hid (o1 hL hD)
    have HC1 := Lib.hid C1
    have hx : 48 ≤ (s[p]).toNat ∧ (s[p]).toNat ≤ 57 := by
      rw [hD] at hdb
      simpa using hdb.symm
    have hpE : (p : Int) < (E : Int) := by omega
    have hpE2 : p < E := by omega
    have hx1 : decide ((48 : Int) ≤ ((s[p]).toNat : Int)) = true := decide_eq_true (by omega)
    have hx2 : decide (((s[p]).toNat : Int) ≤ 57) = true := decide_eq_true (by omega)
    have hx3 : (48 : Int) ≤ ((s[p]).toNat : Int) := by omega
    have hx4 : ((s[p]).toNat : Int) ≤ 57 := by omega
    generalize (numP tx).1 = n1 at *
    generalize (numP tx).2 = n2 at *
    have HC2 := Lib.hid C2
    clear o1 o2 o3 C1 C2 C3 hdb hrp hD hL hN hE hN1 hn C4 hsl hx hb8
    go_enter Tryd.func29, Tryd.ntmps29
    go_wp2_with fail
    refine (HC1.out _).mono ?_
    rintro e w1 ⟨rfl, hw1⟩
    obtain ⟨⟨c0, c1, c2, c3⟩, ⟨f0, f1, f2, f3⟩, hz1, hb1⟩ := res_cells hw1
    clear hw1 HC1
    go_wp2_with fail
    refine (HC2.out _).mono ?_
    rintro e w2 ⟨rfl, rfl⟩
    go_wp2
    (try simp only [Exit.inBlock, Exit.then]); refine bodyPost_ret (by (simp [results, Tryd.results29, go_sem, c0, c1, c2, c3, f0, f1, f2, f3, hz1]; try rfl)) rfl ?_
    exact ⟨⟨⟨2, tx, n1, p⟩, E, by rw [HO.out, HCUT.out]; rfl, fun _ => by rw [HO.out]; exact ⟨rfl, by show E = p + N; omega⟩⟩, (by repeat' (first | with_reducible assumption | with_reducible exact Below.refl _ _ | with_reducible refine Below.setCell ?_ ?_ _ | with_reducible refine Below.alloc ?_ ?_ _ | with_reducible refine Below.drew ?_ | with_reducible refine below_dn ?_ _ | refine below_two ?_ (by assumption) | omega | (simp; omega) | (simp; done)))⟩
end Go.Proofs.YtihdjofihdgigaaDoor
