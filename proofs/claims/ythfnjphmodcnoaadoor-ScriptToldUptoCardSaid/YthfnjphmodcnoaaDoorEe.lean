/- Contract of the reference's signed. -/
import Derived.Test.YthfnjphmodcnoaaDoorEd
import Derived.Test.YthfnjphmodcnoaaDoorEb
namespace Go.Proofs.YthfnjphmodcnoaaDoor
open Go.RowKit
set_option linter.unusedSimpArgs false
set_option linter.unusedVariables false

theorem blk_c {W : World} {b : Nat} {cs : Array Value} {t : TypeId} (h : W.heap[b]? = some (.cells cs t (0, 0))) (i : Nat) (v : Value) (hv : cs[i]? = some v) : W.cell? ⟨b, i, none⟩ = some v ∧ W.frozen? ⟨b, i, none⟩ = false := by
  unfold World.cell? World.frozen?
  rw [h]
  exact ⟨hv, by simp⟩
def NumB (W : World) (b : Nat) (neg : Bool) (N : Int) : Prop := W.heap[b]? = some (.cells #[.bool neg, .int .u64 N] 49 (0, 0))
theorem NumB.facts {W : World} {b : Nat} {neg : Bool} {N : Int} (h : NumB W b neg N) : W.cell? ⟨b, 0, none⟩ = some (.bool neg) ∧ W.cell? ⟨b, 1, none⟩ = some (.int .u64 N) ∧ W.frozen? ⟨b, 0, none⟩ = false ∧ W.frozen? ⟨b, 1, none⟩ = false :=
  ⟨(blk_c h 0 _ rfl).1, (blk_c h 1 _ rfl).1, (blk_c h 0 _ rfl).2, (blk_c h 1 _ rfl).2⟩
theorem NumB.set0 {W : World} {b : Nat} {neg : Bool} {N : Int} (h : NumB W b neg N) (v : Bool) : NumB (W.setCell ⟨b, 0, none⟩ (.bool v)) b v N := by
  unfold NumB at *
  simp only [World.setCell, Array.getElem?_modify, if_true, h, Option.map_some]; rfl
theorem NumB.set1 {W : World} {b : Nat} {neg : Bool} {N : Int} (h : NumB W b neg N) (v : Int) : NumB (W.setCell ⟨b, 1, none⟩ (.int .u64 v)) b neg v := by
  unfold NumB at *
  simp only [World.setCell, Array.getElem?_modify, if_true, h, Option.map_some]; rfl
theorem NumB.other {W W' : World} {b : Nat} {neg : Bool} {N : Int} (h : NumB W b neg N) (hb : W'.heap[b]? = W.heap[b]?) : NumB W' b neg N := hb.trans h
theorem numB_two (w : World) : NumB ((w.alloc (.cells #[.bool false, .int .u64 0] 49)).alloc (.cells #[.bool false, .int .u64 0] 49)) w.heap.size false 0 ∧
    NumB ((w.alloc (.cells #[.bool false, .int .u64 0] 49)).alloc (.cells #[.bool false, .int .u64 0] 49)) (w.heap.size + 1) false 0 := by
  constructor
  · show ((w.heap.push _).push _)[w.heap.size]? = _
    rw [Array.getElem?_push, if_neg (by simp), Array.getElem?_push, if_pos rfl]
  · show ((w.heap.push _).push _)[w.heap.size + 1]? = _
    rw [Array.getElem?_push, if_pos (by simp)]
theorem numLoad (w : World) (g : Nat) (t : TypeId) (cs : Array Value) (fr : Nat × Nat) (hg : w.heap[g]? = some (.cells cs t fr)) (hs : cs.size = 2) : (loadVar 49 ⟨g, 0, none⟩).run Tryd.prog w = .ok (.agg cs) w :=
  run_loadVar_row w g t 49 cs fr _ hg (show (Tryd.prog).underlying 49 = some (.struct _) from Tryd.underlying49) rfl (by rw [hs]; kernel_rfl)
theorem results_cell1 {fn : Func} {p u : Tmp} {ty : TypeId} {P : Program} (h : fn.results = #[.cell p ty, .tmp u]) (tmps : Array Value) (w : World) (g : Nat) (cs : Array Value)
    (hp : tmps.getD p undef = .pointer (some ⟨g, 0, none⟩)) (hl : (loadVar ty ⟨g, 0, none⟩).run P w = .ok (.agg cs) w) :
    (results fn tmps).run P w = .ok (.tuple #[.agg cs, tmps.getD u undef]) w := by
  have hp' : tmps[p]?.getD undef = .pointer (some ⟨g, 0, none⟩) := by simpa using hp
  simp [results, h, hp', asAddr, hl]
theorem signed_ret {Q : Ending → World → Prop} (tmps : Array Value) (W : World) (q0 : Nat) (neg : Bool) (N : Int) (ok : Bool) (hR : NumB W q0 neg N) (h2 : tmps.getD 2 undef = .pointer (some ⟨q0, 0, none⟩)) (h3 : tmps.getD 3 undef = .bool ok)
    (h : Q (.returned (.tuple #[.agg #[.bool neg, .int .u64 N], .bool ok])) W) : bodyPost Tryd.prog Tryd.f52 Q .ret ⟨tmps, []⟩ W := by
  refine bodyPost_ret (results_cell1 (show Tryd.f52.results = #[.cell 2 49, .tmp 3] from rfl) tmps _ q0 _ h2 (numLoad _ _ _ _ _ hR rfl)) rfl ?_
  rw [h3]
  exact h
/-- the limit of a number with, or without, a sign -/
def sLim (neg : Bool) : Nat := if neg then 9223372036854775808 else 18446744073709551615
/-- a number's digits, by its sign -/
def sOf (neg : Bool) (d : List UInt8) : Option Int := if neg then (match numQ d 9223372036854775808 with
      | some n => if n = 0 then none else some (-(n : Int))
      | none => none) else (numQ d 18446744073709551615).map Int.ofNat
theorem sOf_none {neg : Bool} {d : List UInt8} (h : numQ d (sLim neg) = none) : sOf neg d = none := by
  unfold sOf
  cases neg
  · simp only [sLim, Bool.false_eq_true, if_false] at h ⊢; rw [h]; rfl
  · simp only [sLim, if_true] at h ⊢; rw [h]
theorem sOf_val {neg : Bool} {d : List UInt8} {n : Nat} (hn : n ≤ 18446744073709551615) (h : numQ d (sLim neg) = if n ≤ sLim neg then some n else none) : (sOf neg d).isSome = constN neg n ∧ ∀ v, sOf neg d = some v → v = if neg then -(n : Int) else (n : Int) := by
  unfold sOf constN
  cases neg
  · simp only [sLim, Bool.false_eq_true, if_false] at h ⊢
    rw [h, if_pos hn]
    exact ⟨rfl, fun v hv => by cases hv; rfl⟩
  · simp only [sLim, if_true] at h ⊢
    rw [h]
    by_cases h1 : n ≤ 9223372036854775808
    · rw [if_pos h1]
      by_cases h0 : n = 0
      · subst h0; simp
      · simp only [h0, if_false]
        refine ⟨?_, fun v hv => by cases hv; rfl⟩
        simp [h1]; omega
    · rw [if_neg h1]; simp [h1]
theorem signedQ_neg (l : List UInt8) (h : l[0]? = some 45) : signedQ l = sOf true (l.drop 1) := by
  match l, h with
  | c :: d, h =>
    simp at h; subst h
    rw [signedQ_cons, if_pos rfl]
    unfold sOf
    rw [if_pos rfl]
    rfl
theorem signedQ_pos (l : List UInt8) (h : l[0]? ≠ some 45) : signedQ l = sOf false l := by
  match l, h with
  | [], _ => rw [sOf_none (neg := false) (numQ_len [] 18446744073709551615 20 (by decide) (by decide) (.inl (by simp)))]; rfl
  | c :: d, h =>
    have hc : c ≠ 45 := by simpa using h
    rw [signedQ_cons, if_neg hc]
    unfold sOf
    rw [if_neg (by simp)]
def SgnPost (B : Nat) (w : World) (l : List UInt8) (e : Ending) (w' : World) : Prop := (∃ (neg : Bool) (n : Nat), e = .returned (.tuple #[.agg #[.bool neg, .int .u64 (n : Int)], .bool (signedQ l).isSome]) ∧ n ≤ 18446744073709551615 ∧ ∀ v, signedQ l = some v → v = if neg then -(n : Int) else (n : Int)) ∧ Below B w w'
theorem numB_at0 (w : World) (b : Bool) : NumB ((w.alloc (.cells #[.bool false, .int .u64 0] 49)).alloc (.cells #[.bool b, .int .u64 0] 49)) w.heap.size false 0 ∧
    NumB ((w.alloc (.cells #[.bool false, .int .u64 0] 49)).alloc (.cells #[.bool b, .int .u64 0] 49)) (w.heap.size + 1) b 0 := by
  constructor
  · show ((w.heap.push _).push _)[w.heap.size]? = _
    rw [Array.getElem?_push, if_neg (by simp), Array.getElem?_push, if_pos rfl]
  · show ((w.heap.push _).push _)[w.heap.size + 1]? = _
    rw [Array.getElem?_push, if_pos (by simp)]
theorem numB_at (w : World) (b : Bool) : NumB ((w.alloc (.cells #[.bool b, .int .u64 0] 49)).alloc (.cells #[.bool b, .int .u64 0] 49)) w.heap.size b 0 := by
  show ((w.heap.push _).push _)[w.heap.size]? = _
  rw [Array.getElem?_push, if_neg (by simp), Array.getElem?_push, if_pos rfl]
set_option maxRecDepth 20000 in
set_option maxHeartbeats 4000000 in
theorem signed_neg (s : ByteArray) (w : World) (hs : s.size ≤ 1073741824) (hh : (bl s)[0]? = some 45) : Calls Tryd.prog 52 #[.string s] w (SgnPost w.heap.size w (bl s)) := by
  have hs0 : 0 < s.size := by
    rw [← bl_len]
    exact List.length_pos_iff.2 (fun e => by rw [e] at hh; simp at hh)
  have hs0i : (0 : Int) < (s.size : Int) := by omega
  have hsb : decide ((0 : Int) < (s.size : Int)) = true := decide_eq_true hs0i
  have h45 : (((s[0]).toNat : Int) == 45) = true := by
    rw [head_bl s hs0] at hh
    have : s[0] = 45 := by simpa using hh
    rw [this]; rfl
  have HS := Lib.hid (signedQ_neg (bl s) hh)
  have hdl : bl (s.extract 1 s.size) = (bl s).drop 1 := bl_from s 1
  rw [← hdl] at HS
  clear hh hdl
  obtain ⟨m, hm⟩ : ∃ m, (s.extract 1 s.size).size = m := ⟨_, rfl⟩
  have hm30 : m ≤ 1073741824 := by
    have : (s.extract 1 s.size).size ≤ s.size := by simp
    omega
  have hbz := fun h => bz_of (s.extract 1 s.size) h
  have hhd : ∀ h : 0 < (s.extract 1 s.size).size, (bl (s.extract 1 s.size))[0]? = some (s.extract 1 s.size)[0] := fun h => head_bl (s.extract 1 s.size) h
  by_cases h1 : m < 1
  · have h1b : decide ((m : Int) < 1) = true := by rw [decide_eq_true_eq]; omega
    have HN := Lib.hid (sOf_none (neg := true) (numQ_len (bl (s.extract 1 s.size)) 9223372036854775808 20 (by decide) (by decide) (.inl (by rw [bl_len, hm]; exact h1))))
    clear hbz hhd
    go_enter Tryd.func52, Tryd.ntmps52
    go_wp2
    all_goals
      refine signed_ret _ _ w.heap.size true 0 false ?_ rfl rfl ⟨⟨true, 0, by rw [HS.out, HN.out]; rfl, by omega, fun v hv => by rw [HS.out, HN.out] at hv; cases hv⟩, (by repeat' (first | with_reducible assumption | with_reducible exact Below.refl _ _ | with_reducible refine Below.setCell ?_ ?_ _ | with_reducible refine Below.alloc ?_ ?_ _ | with_reducible refine Below.drew ?_ | with_reducible refine below_dn ?_ _ | refine below_two ?_ (by assumption) | omega | (simp; omega) | (simp; done)))⟩
      exact numB_at w true
  have h1b : decide ((m : Int) < 1) = false := by rw [decide_eq_false_iff_not]; omega
  by_cases h20 : 20 < m
  · have h20b : decide ((20 : Int) < (m : Int)) = true := by rw [decide_eq_true_eq]; omega
    have HN := Lib.hid (sOf_none (neg := true) (numQ_len (bl (s.extract 1 s.size)) 9223372036854775808 20 (by decide) (by decide) (.inr (by rw [bl_len, hm]; exact h20))))
    clear hbz hhd
    go_enter Tryd.func52, Tryd.ntmps52
    go_wp2
    all_goals
      refine signed_ret _ _ w.heap.size true 0 false ?_ rfl rfl ⟨⟨true, 0, by rw [HS.out, HN.out]; rfl, by omega, fun v hv => by rw [HS.out, HN.out] at hv; cases hv⟩, (by repeat' (first | with_reducible assumption | with_reducible exact Below.refl _ _ | with_reducible refine Below.setCell ?_ ?_ _ | with_reducible refine Below.alloc ?_ ?_ _ | with_reducible refine Below.drew ?_ | with_reducible refine below_dn ?_ _ | refine below_two ?_ (by assumption) | omega | (simp; omega) | (simp; done)))⟩
      exact numB_at w true
  have h20b : decide ((20 : Int) < (m : Int)) = false := by rw [decide_eq_false_iff_not]; omega
  have hd0 : 0 < (s.extract 1 s.size).size := by omega
  have hbz := hbz hd0
  have hhd := hhd hd0
  rw [hm] at hbz
  by_cases hz : (s.extract 1 s.size)[0] = 48
  · have hzb : ((((s.extract 1 s.size)[0]).toNat : Int) == 48) = true := by rw [hz]; rfl
    have HN : Hid (sOf true (bl (s.extract 1 s.size)) = none) := Lib.hid (by
      by_cases h2 : 2 ≤ m
      · exact sOf_none (neg := true) (numQ_zero _ _ (by rw [hbz, hz]; simp [h2]))
      · have e1 : bl (s.extract 1 s.size) = [48] := by
          have hl : (bl (s.extract 1 s.size)).length = 1 := by rw [bl_len, hm]; omega
          obtain ⟨a, ha⟩ := List.length_eq_one_iff.1 hl
          rw [ha] at hhd ⊢
          simp at hhd; rw [hhd, hz]
        rw [e1]; decide +kernel)
    clear hbz hhd hz
    go_enter Tryd.func52, Tryd.ntmps52
    go_wp2
    all_goals
      refine signed_ret _ _ w.heap.size true 0 false ?_ rfl rfl ⟨⟨true, 0, by rw [HS.out, HN.out]; rfl, by omega, fun v hv => by rw [HS.out, HN.out] at hv; cases hv⟩, (by repeat' (first | with_reducible assumption | with_reducible exact Below.refl _ _ | with_reducible refine Below.setCell ?_ ?_ _ | with_reducible refine Below.alloc ?_ ?_ _ | with_reducible refine Below.drew ?_ | with_reducible refine below_dn ?_ _ | refine below_two ?_ (by assumption) | omega | (simp; omega) | (simp; done)))⟩
      exact numB_at w true
  have hzb : ((((s.extract 1 s.size)[0]).toNat : Int) == 48) = false := beq_eq_false_iff_ne.2 (fun e => hz (UInt8.toNat_inj.1 (by have : (48 : UInt8).toNat = 48 := rfl; omega)))
  have hbz0 : badZero (bl (s.extract 1 s.size)) = false := by rw [hbz]; simp [hz]
  clear hbz hhd hz
  have HF := Lib.hid (fun n (h : valFrom false 0 (bl (s.extract 1 s.size)) = some n) => numQ_fin (bl (s.extract 1 s.size)) (sLim true) n h (fun e => by have := bl_len (s.extract 1 s.size); rw [e, hm] at this; simp at this; omega) hbz0)
  have HM := Lib.hid hm
  have hm20 : m ≤ 20 := by omega
  clear hbz0
  go_enter Tryd.func52, Tryd.ntmps52
  go_wp2_with fail
  go_loopw [6] (fun i wr => ∃ (k n : Nat), i = .int .i64 k ∧ k ≤ m ∧ n ≤ 18446744073709551615 ∧ Hid (valFrom false 0 ((bl (s.extract 1 s.size)).take k) = some n) ∧ Hid (NumB wr w.heap.size false 0) ∧ Hid (NumB wr (w.heap.size + 1) true n) ∧ Hid (Below w.heap.size w wr)) (fun i _ => m - (intOf i).toNat)
  case atStart => exact ⟨0, 0, rfl, Nat.zero_le _, by omega, Lib.hid rfl, Lib.hid (numB_at0 w true).1, Lib.hid (numB_at0 w true).2, Lib.hid (by repeat' (first | with_reducible assumption | with_reducible exact Below.refl _ _ | with_reducible refine Below.setCell ?_ ?_ _ | with_reducible refine Below.alloc ?_ ?_ _ | with_reducible refine Below.drew ?_ | with_reducible refine below_dn ?_ _ | refine below_two ?_ (by assumption) | omega | (simp; omega) | (simp; done)))⟩
  case round =>
    obtain ⟨k, n, rfl, hk, hn, HV, HA, HX, HB⟩ := hrel
    obtain ⟨x0, x1, x2, x3⟩ := HX.out.facts
    obtain ⟨a0, a1, a2, a3⟩ := HA.out.facts
    have hsz := HB.out.size
    by_cases hlt : k < m
    · have hlti : (k : Int) < (m : Int) := by omega
      have hks : k < (s.extract 1 s.size).size := by rw [HM.out]; exact hlt
      have HBB : Hid ((bl (s.extract 1 s.size))[k]? = some ((s.extract 1 s.size)[k])) := Lib.hid (at_bl (s.extract 1 s.size) k hks)
      by_cases c1 : ((s.extract 1 s.size)[k]).toNat < 48
      · have c1b : decide ((((s.extract 1 s.size)[k]).toNat : Int) < 48) = true := by rw [decide_eq_true_eq]; omega
        have HN := Lib.hid (sOf_none (neg := true) (numQ_noval (bl (s.extract 1 s.size)) (sLim true) (dig_stop (bl (s.extract 1 s.size)) k n _ HBB.out HV.out (by omega))))
        clear c1
        go_wp2
        refine signed_ret _ _ w.heap.size true n false ((HA.out.set0 true).set1 n) rfl rfl ⟨⟨true, n, by rw [HS.out, HN.out]; rfl, hn, fun v hv => by rw [HS.out, HN.out] at hv; cases hv⟩, (HB.out.setCell (Nat.le_refl _) _).setCell (Nat.le_refl _) _⟩
      have c1b : decide ((((s.extract 1 s.size)[k]).toNat : Int) < 48) = false := by rw [decide_eq_false_iff_not]; omega
      by_cases c2 : 57 < ((s.extract 1 s.size)[k]).toNat
      · have c2b : decide ((57 : Int) < (((s.extract 1 s.size)[k]).toNat : Int)) = true := by rw [decide_eq_true_eq]; omega
        have HN := Lib.hid (sOf_none (neg := true) (numQ_noval (bl (s.extract 1 s.size)) (sLim true) (dig_stop (bl (s.extract 1 s.size)) k n _ HBB.out HV.out (by omega))))
        clear c1 c2
        go_wp2
        refine signed_ret _ _ w.heap.size true n false ((HA.out.set0 true).set1 n) rfl rfl ⟨⟨true, n, by rw [HS.out, HN.out]; rfl, hn, fun v hv => by rw [HS.out, HN.out] at hv; cases hv⟩, (HB.out.setCell (Nat.le_refl _) _).setCell (Nat.le_refl _) _⟩
      have c2b : decide ((57 : Int) < (((s.extract 1 s.size)[k]).toNat : Int)) = false := by rw [decide_eq_false_iff_not]; omega
      obtain ⟨c, hc⟩ : ∃ c : Nat, ((s.extract 1 s.size)[k]).toNat - 48 = c := ⟨_, rfl⟩
      have hcn : (((s.extract 1 s.size)[k]).toNat : Int) = ((c + 48 : Nat) : Int) := by omega
      have hc9 : c ≤ 9 := by omega
      have u1 : IntKind.u64.wrap (((s.extract 1 s.size)[k]).toNat : Int) = (((s.extract 1 s.size)[k]).toNat : Int) := by rw [IntKind.wrap_u64]; omega
      clear hcn
      have u2 : IntKind.u64.wrap ((((s.extract 1 s.size)[k]).toNat : Int) - 48) = (c : Int) := by rw [IntKind.wrap_u64]; omega
      have u3 : IntKind.u64.wrap (18446744073709551615 - (c : Int)) = 18446744073709551615 - (c : Int) := by rw [IntKind.wrap_u64]; omega
      by_cases c3 : 18446744073709551615 < 10 * n + c
      · have c3b : decide ((18446744073709551615 - (c : Int)) / 10 < (n : Int)) = true := by rw [decide_eq_true_eq]; omega
        have HN := Lib.hid (sOf_none (neg := true) (numQ_over (bl (s.extract 1 s.size)) (sLim true) k n _ HBB.out HV.out (by omega) (by rw [hc]; simp [sLim]; omega)))
        clear c1 c2 hc
        go_wp2
        refine signed_ret _ _ w.heap.size true n false ((HA.out.set0 true).set1 n) rfl rfl ⟨⟨true, n, by rw [HS.out, HN.out]; rfl, hn, fun v hv => by rw [HS.out, HN.out] at hv; cases hv⟩, (HB.out.setCell (Nat.le_refl _) _).setCell (Nat.le_refl _) _⟩
      have c3b : decide ((18446744073709551615 - (c : Int)) / 10 < (n : Int)) = false := by rw [decide_eq_false_iff_not]; omega
      have HV2 := dig_step (bl (s.extract 1 s.size)) k n _ HBB.out HV.out (by omega)
      rw [hc] at HV2
      have HV2 := Lib.hid HV2
      have u4 : IntKind.u64.wrap (10 * (n : Int)) = 10 * (n : Int) := by rw [IntKind.wrap_u64]; omega
      have u5 : IntKind.u64.wrap (10 * (n : Int) + (c : Int)) = 10 * (n : Int) + (c : Int) := by rw [IntKind.wrap_u64]; omega
      clear c1 c2 hc
      go_wp2
      refine ⟨⟨k + 1, 10 * n + c, by go_num, by omega, by omega, HV2, Lib.hid (HA.out.other (Below.heap_setCell _ _ _ _ (by simp))), Lib.hid ?_, Lib.hid (HB.out.setCell (by simp) _)⟩, by simp [intOf]; omega⟩
      have := HX.out.set1 (10 * (n : Int) + (c : Int))
      simpa using this
    · have hke : k = m := by omega
      subst hke
      have hV := HV.out
      rw [List.take_of_length_le (by rw [bl_len, HM.out]; exact Nat.le_refl _)] at hV
      have HQ := Lib.hid (sOf_val (neg := true) hn (HF.out n hV))
      clear hV
      have hq1 : w.heap.size + 1 < wr.heap.size := (Array.getElem?_eq_some_iff.1 HX.out).1
      have hq1' : w.heap.size + 1 < wr.drew.heap.size := hq1
      have HBd : Hid (Below w.heap.size w wr.drew) := Lib.hid HB.out.drew
      go_wp2
      go_region_with (go_at_call 68; refine (rconst_c _ _ _).mono ?_; rintro e_ W1 ⟨rfl, hB1⟩; have HX1 := HX.out.other (hB1.block (w.heap.size + 1) (by first | exact hq1 | exact hq1')); have HA1 := HA.out.other (hB1.block w.heap.size (by first | exact Nat.lt_of_succ_lt hq1 | exact Nat.lt_of_succ_lt hq1')); obtain ⟨y0, y1, y2, y3⟩ := HX1.facts; obtain ⟨z0, z1, z2, z3⟩ := HA1.facts)
      all_goals
        go_wp2
        refine signed_ret _ _ w.heap.size true n (constN true n) ((HA1.set0 true).set1 n) rfl rfl ⟨⟨true, n, by rw [HS.out, HQ.out.1], hn, fun v hv => HQ.out.2 v (by rw [← HS.out]; exact hv)⟩, ((HBd.out.trans (hB1.mono hsz)).setCell (Nat.le_refl _) _).setCell (Nat.le_refl _) _⟩
set_option maxRecDepth 20000 in
set_option maxHeartbeats 4000000 in
theorem signed_pos (s : ByteArray) (w : World) (hs : s.size ≤ 1073741824) (hh : (bl s)[0]? ≠ some 45) : Calls Tryd.prog 52 #[.string s] w (SgnPost w.heap.size w (bl s)) := by
  have HS := Lib.hid (signedQ_pos (bl s) hh)
  obtain ⟨m, hm⟩ : ∃ m, s.size = m := ⟨_, rfl⟩
  by_cases h1 : m < 1
  · have hs0i : ¬ (0 : Int) < (m : Int) := by omega
    have hsb : decide ((0 : Int) < (m : Int)) = false := by rw [decide_eq_false_iff_not]; omega
    have h1b : decide ((m : Int) < 1) = true := by rw [decide_eq_true_eq]; omega
    have HN := Lib.hid (sOf_none (neg := false) (numQ_len (bl s) 18446744073709551615 20 (by decide) (by decide) (.inl (by rw [bl_len, hm]; exact h1))))
    clear hh
    go_enter Tryd.func52, Tryd.ntmps52
    go_wp2
    refine signed_ret _ _ w.heap.size false 0 false ?_ rfl rfl ⟨⟨false, 0, by rw [HS.out, HN.out]; rfl, by omega, fun v hv => by rw [HS.out, HN.out] at hv; cases hv⟩, (by repeat' (first | with_reducible assumption | with_reducible exact Below.refl _ _ | with_reducible refine Below.setCell ?_ ?_ _ | with_reducible refine Below.alloc ?_ ?_ _ | with_reducible refine Below.drew ?_ | with_reducible refine below_dn ?_ _ | refine below_two ?_ (by assumption) | omega | (simp; omega) | (simp; done)))⟩
    exact (numB_two w).1
  have hs0 : 0 < s.size := by omega
  have hs0i : (0 : Int) < (m : Int) := by omega
  have hsb : decide ((0 : Int) < (m : Int)) = true := decide_eq_true hs0i
  have h45 : (((s[0]).toNat : Int) == 45) = false := by
    rw [head_bl s hs0] at hh
    refine beq_eq_false_iff_ne.2 (fun e => hh ?_)
    have : s[0] = 45 := UInt8.toNat_inj.1 (by have : (45 : UInt8).toNat = 45 := rfl; omega)
    rw [this]
  clear hh
  have hbz := fun h => bz_of s h
  have hhd : ∀ h : 0 < s.size, (bl s)[0]? = some s[0] := fun h => head_bl s h
  have h1b : decide ((m : Int) < 1) = false := by rw [decide_eq_false_iff_not]; omega
  by_cases h20 : 20 < m
  · have h20b : decide ((20 : Int) < (m : Int)) = true := by rw [decide_eq_true_eq]; omega
    have HN := Lib.hid (sOf_none (neg := false) (numQ_len (bl s) 18446744073709551615 20 (by decide) (by decide) (.inr (by rw [bl_len, hm]; exact h20))))
    clear hbz hhd
    go_enter Tryd.func52, Tryd.ntmps52
    go_wp2
    all_goals
      refine signed_ret _ _ w.heap.size false 0 false ?_ rfl rfl ⟨⟨false, 0, by rw [HS.out, HN.out]; rfl, by omega, fun v hv => by rw [HS.out, HN.out] at hv; cases hv⟩, (by repeat' (first | with_reducible assumption | with_reducible exact Below.refl _ _ | with_reducible refine Below.setCell ?_ ?_ _ | with_reducible refine Below.alloc ?_ ?_ _ | with_reducible refine Below.drew ?_ | with_reducible refine below_dn ?_ _ | refine below_two ?_ (by assumption) | omega | (simp; omega) | (simp; done)))⟩
      exact numB_at w false
  have h20b : decide ((20 : Int) < (m : Int)) = false := by rw [decide_eq_false_iff_not]; omega
  have hd0 : 0 < s.size := by omega
  have hbz := hbz hd0
  have hhd := hhd hd0
  rw [hm] at hbz
  cases hz : badZero (bl s) with
  | true =>
    rw [hz] at hbz
    have hbz2 : 2 ≤ m ∧ s[0] = 48 := by simpa using hbz.symm
    have hzb : (((s[0]).toNat : Int) == 48) = true := by rw [hbz2.2]; rfl
    have hmb : decide ((1 : Int) < (m : Int)) = true := by rw [decide_eq_true_eq]; omega
    have HN := Lib.hid (sOf_none (neg := false) (numQ_zero (bl s) 18446744073709551615 hz))
    clear hbz hhd hz hbz2
    go_enter Tryd.func52, Tryd.ntmps52
    go_wp2
    all_goals
      refine signed_ret _ _ w.heap.size false 0 false ?_ rfl rfl ⟨⟨false, 0, by rw [HS.out, HN.out]; rfl, by omega, fun v hv => by rw [HS.out, HN.out] at hv; cases hv⟩, (by repeat' (first | with_reducible assumption | with_reducible exact Below.refl _ _ | with_reducible refine Below.setCell ?_ ?_ _ | with_reducible refine Below.alloc ?_ ?_ _ | with_reducible refine Below.drew ?_ | with_reducible refine below_dn ?_ _ | refine below_two ?_ (by assumption) | omega | (simp; omega) | (simp; done)))⟩
      exact numB_at w false
  | false =>
  have hbz0 := hz
  rw [hz] at hbz
  have hor : (((s[0]).toNat : Int) == 48) = false ∨ ((((s[0]).toNat : Int) == 48) = true ∧ decide ((1 : Int) < (m : Int)) = false) := by
    by_cases h4 : s[0] = 48
    · refine .inr ⟨by rw [h4]; rfl, ?_⟩
      rw [decide_eq_false_iff_not]
      intro h
      rw [h4] at hbz
      simp at hbz; omega
    · exact .inl (beq_eq_false_iff_ne.2 (fun e => h4 (UInt8.toNat_inj.1 (by have : (48 : UInt8).toNat = 48 := rfl; omega))))
  clear hbz hhd hz
  have HF := Lib.hid (fun n (h : valFrom false 0 (bl s) = some n) => numQ_fin (bl s) (sLim false) n h (fun e => by have := bl_len s; rw [e, hm] at this; simp at this; omega) hbz0)
  have HM := Lib.hid hm
  have hm20 : m ≤ 20 := by omega
  clear hbz0
  rcases hor with hzb | ⟨hzb, hmb⟩
  all_goals
    go_enter Tryd.func52, Tryd.ntmps52
    go_wp2_with fail
    go_loopw [6] (fun i wr => ∃ (k n : Nat), i = .int .i64 k ∧ k ≤ m ∧ n ≤ 18446744073709551615 ∧ Hid (valFrom false 0 ((bl s).take k) = some n) ∧ Hid (NumB wr w.heap.size false 0) ∧ Hid (NumB wr (w.heap.size + 1) false n) ∧ Hid (Below w.heap.size w wr)) (fun i _ => m - (intOf i).toNat)
    case atStart => exact ⟨0, 0, rfl, Nat.zero_le _, by omega, Lib.hid rfl, Lib.hid (numB_at0 w false).1, Lib.hid (numB_at0 w false).2, Lib.hid (by repeat' (first | with_reducible assumption | with_reducible exact Below.refl _ _ | with_reducible refine Below.setCell ?_ ?_ _ | with_reducible refine Below.alloc ?_ ?_ _ | with_reducible refine Below.drew ?_ | with_reducible refine below_dn ?_ _ | refine below_two ?_ (by assumption) | omega | (simp; omega) | (simp; done)))⟩
    case round =>
      obtain ⟨k, n, rfl, hk, hn, HV, HA, HX, HB⟩ := hrel
      obtain ⟨x0, x1, x2, x3⟩ := HX.out.facts
      obtain ⟨a0, a1, a2, a3⟩ := HA.out.facts
      have hsz := HB.out.size
      by_cases hlt : k < m
      · have hlti : (k : Int) < (m : Int) := by omega
        have hks : k < s.size := by rw [HM.out]; exact hlt
        have HBB : Hid ((bl s)[k]? = some (s[k])) := Lib.hid (at_bl s k hks)
        by_cases c1 : (s[k]).toNat < 48
        · have c1b : decide (((s[k]).toNat : Int) < 48) = true := by rw [decide_eq_true_eq]; omega
          have HN := Lib.hid (sOf_none (neg := false) (numQ_noval (bl s) (sLim false) (dig_stop (bl s) k n _ HBB.out HV.out (by omega))))
          clear c1
          go_wp2
          refine signed_ret _ _ w.heap.size false n false ((HA.out.set0 false).set1 n) rfl rfl ⟨⟨false, n, by rw [HS.out, HN.out]; rfl, hn, fun v hv => by rw [HS.out, HN.out] at hv; cases hv⟩, (HB.out.setCell (Nat.le_refl _) _).setCell (Nat.le_refl _) _⟩
        have c1b : decide (((s[k]).toNat : Int) < 48) = false := by rw [decide_eq_false_iff_not]; omega
        by_cases c2 : 57 < (s[k]).toNat
        · have c2b : decide ((57 : Int) < ((s[k]).toNat : Int)) = true := by rw [decide_eq_true_eq]; omega
          have HN := Lib.hid (sOf_none (neg := false) (numQ_noval (bl s) (sLim false) (dig_stop (bl s) k n _ HBB.out HV.out (by omega))))
          clear c1 c2
          go_wp2
          refine signed_ret _ _ w.heap.size false n false ((HA.out.set0 false).set1 n) rfl rfl ⟨⟨false, n, by rw [HS.out, HN.out]; rfl, hn, fun v hv => by rw [HS.out, HN.out] at hv; cases hv⟩, (HB.out.setCell (Nat.le_refl _) _).setCell (Nat.le_refl _) _⟩
        have c2b : decide ((57 : Int) < ((s[k]).toNat : Int)) = false := by rw [decide_eq_false_iff_not]; omega
        obtain ⟨c, hc⟩ : ∃ c : Nat, (s[k]).toNat - 48 = c := ⟨_, rfl⟩
        have hcn : ((s[k]).toNat : Int) = ((c + 48 : Nat) : Int) := by omega
        have hc9 : c ≤ 9 := by omega
        have u1 : IntKind.u64.wrap ((s[k]).toNat : Int) = ((s[k]).toNat : Int) := by rw [IntKind.wrap_u64]; omega
        clear hcn
        have u2 : IntKind.u64.wrap (((s[k]).toNat : Int) - 48) = (c : Int) := by rw [IntKind.wrap_u64]; omega
        have u3 : IntKind.u64.wrap (18446744073709551615 - (c : Int)) = 18446744073709551615 - (c : Int) := by rw [IntKind.wrap_u64]; omega
        by_cases c3 : 18446744073709551615 < 10 * n + c
        · have c3b : decide ((18446744073709551615 - (c : Int)) / 10 < (n : Int)) = true := by rw [decide_eq_true_eq]; omega
          have HN := Lib.hid (sOf_none (neg := false) (numQ_over (bl s) (sLim false) k n _ HBB.out HV.out (by omega) (by rw [hc]; simp [sLim]; omega)))
          clear c1 c2 hc
          go_wp2
          refine signed_ret _ _ w.heap.size false n false ((HA.out.set0 false).set1 n) rfl rfl ⟨⟨false, n, by rw [HS.out, HN.out]; rfl, hn, fun v hv => by rw [HS.out, HN.out] at hv; cases hv⟩, (HB.out.setCell (Nat.le_refl _) _).setCell (Nat.le_refl _) _⟩
        have c3b : decide ((18446744073709551615 - (c : Int)) / 10 < (n : Int)) = false := by rw [decide_eq_false_iff_not]; omega
        have HV2 := dig_step (bl s) k n _ HBB.out HV.out (by omega)
        rw [hc] at HV2
        have HV2 := Lib.hid HV2
        have u4 : IntKind.u64.wrap (10 * (n : Int)) = 10 * (n : Int) := by rw [IntKind.wrap_u64]; omega
        have u5 : IntKind.u64.wrap (10 * (n : Int) + (c : Int)) = 10 * (n : Int) + (c : Int) := by rw [IntKind.wrap_u64]; omega
        clear c1 c2 hc
        go_wp2
        refine ⟨⟨k + 1, 10 * n + c, by go_num, by omega, by omega, HV2, Lib.hid (HA.out.other (Below.heap_setCell _ _ _ _ (by simp))), Lib.hid ?_, Lib.hid (HB.out.setCell (by simp) _)⟩, by simp [intOf]; omega⟩
        have := HX.out.set1 (10 * (n : Int) + (c : Int))
        simpa using this
      · have hke : k = m := by omega
        subst hke
        have hV := HV.out
        rw [List.take_of_length_le (by rw [bl_len, HM.out]; exact Nat.le_refl _)] at hV
        have HQ := Lib.hid (sOf_val (neg := false) hn (HF.out n hV))
        clear hV
        have hq1 : w.heap.size + 1 < wr.heap.size := (Array.getElem?_eq_some_iff.1 HX.out).1
        have hq1' : w.heap.size + 1 < wr.drew.heap.size := hq1
        have HBd : Hid (Below w.heap.size w wr.drew) := Lib.hid HB.out.drew
        go_wp2
        go_region_with (go_at_call 68; refine (rconst_c _ _ _).mono ?_; rintro e_ W1 ⟨rfl, hB1⟩; have HX1 := HX.out.other (hB1.block (w.heap.size + 1) (by first | exact hq1 | exact hq1')); have HA1 := HA.out.other (hB1.block w.heap.size (by first | exact Nat.lt_of_succ_lt hq1 | exact Nat.lt_of_succ_lt hq1')); obtain ⟨y0, y1, y2, y3⟩ := HX1.facts; obtain ⟨z0, z1, z2, z3⟩ := HA1.facts)
        all_goals
          go_wp2
          refine signed_ret _ _ w.heap.size false n (constN false n) ((HA1.set0 false).set1 n) rfl rfl ⟨⟨false, n, by rw [HS.out, HQ.out.1], hn, fun v hv => HQ.out.2 v (by rw [← HS.out]; exact hv)⟩, ((HBd.out.trans (hB1.mono hsz)).setCell (Nat.le_refl _) _).setCell (Nat.le_refl _) _⟩
theorem signed_c (s : ByteArray) (w : World) (hs : s.size ≤ 1073741824) : Calls Tryd.prog 52 #[.string s] w (SgnPost w.heap.size w (bl s)) := by
  by_cases hh : (bl s)[0]? = some 45
  · exact signed_neg s w hs hh
  · exact signed_pos s w hs hh
end Go.Proofs.YthfnjphmodcnoaaDoor
