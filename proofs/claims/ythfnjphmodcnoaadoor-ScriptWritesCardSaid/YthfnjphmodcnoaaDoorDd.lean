/- The reference's SameScript where one list came in; a copy of a list of uint16. -/
import Derived.Test.YthfnjphmodcnoaaDoorDc
import Derived.Test.YthfnjphmodcnoaaDoorBd
import Derived.BigQuiet
import Derived.Deep.QuietTactic
namespace Go.Proofs.YthfnjphmodcnoaaDoor
open Go.RowKit
set_option linter.unusedSimpArgs false
set_option linter.unusedVariables false

theorem u16a_below {w w' : World} {pv : Value} {l : List Nat} (h : U16a w pv l) (hb : Below w.heap.size w w') : U16a w' pv l := by
  obtain ⟨p, cap, h1, h2⟩ := h
  refine ⟨p, cap, h1, h2.imp id ?_⟩
  rintro ⟨a, h3, h4⟩
  exact ⟨a, h3, fun i v hv => (hb.cell (p := a.add i) (Lib.lt_of_cell (h4 i v hv))).trans (h4 i v hv)⟩
theorem pickV_len (l : List Nat) : (pickV l).length = l.length := by simp [pickV]
theorem infoU16 : ((Tryd.prog).info? 22).map (fun i => (i.zero, i.size, i.bytes)) = some (some (.int .u16 0), 1, 2) := by kernel_rfl
theorem src16 (w : World) (p : Option Addr) (n cap : Nat) (l : List Nat) (hn : l.length = n) (h : l = [] ∨ ∃ a : Addr, p = some a ∧ ∀ (i : Nat) (v : Nat), l[i]? = some v → w.cell? (a.add i) = some (.int .u16 (v : Int))) :
    Src Tryd.prog 1 23 (.slice p n cap) n (pickV l) w := by
  by_cases hl : l = []
  · subst hl
    obtain rfl : n = 0 := by simpa using hn.symm
    cases p with
    | none => exact Src.ofNil (P := Tryd.prog) w Tryd.underlying23 cap
    | some a => exact Src.ofSlice (P := Tryd.prog) w Tryd.underlying23 a 0 cap (pickV []) (by simp [pickV]) (fun j u hj => by simp [pickV] at hj) (fun u hu => by simp [pickV] at hu)
  · obtain ⟨a, rfl, hc⟩ := h.resolve_left hl
    refine Src.ofSlice (P := Tryd.prog) w Tryd.underlying23 a n cap (pickV l) (by rw [pickV_len, hn, Nat.mul_one]) (fun j u hj => ?_) (fun u hu => ?_)
    · simp only [pickV, List.getElem?_map, Option.map_eq_some_iff] at hj
      obtain ⟨b, hb, rfl⟩ := hj
      exact hc j b hb
    · obtain ⟨b, -, rfl⟩ := List.mem_map.1 hu
      rfl
/-- append([]uint16{}, l...) -/
theorem app16 (ty : TypeId) (w : World) (g : Nat) (hg : w.heap[g]? = some (.cells #[] 22 (0, 0))) (p : Option Addr) (n cap : Nat) (l : List Nat) (hn : l.length = n) (h : l = [] ∨ ∃ a : Addr, p = some a ∧ ∀ (i : Nat) (v : Nat), l[i]? = some v → w.cell? (a.add i) = some (.int .u16 (v : Int)))
    (hb : n ≤ 70368744177664) : ∃ v' w', (Builtin.append_ #[23, 23] ty #[.slice (some ⟨g, 0, none⟩) 0 0, .slice p n cap]).run Tryd.prog w = .ok v' w' ∧ U16s w' v' l ∧ Below w.heap.size w w' ∧ (∃ a c, v' = .slice a n c ∧ (l = [] ∨ a = some ⟨w.heap.size, 0, none⟩)) := by
  obtain ⟨i, hi, hz, h1, h2⟩ := info_parts infoU16
  have hs := src16 w p n cap l hn h
  by_cases h0 : n = 0
  · subst h0
    obtain rfl : l = [] := List.length_eq_zero_iff.1 hn
    have hr := run_append_room_src (P := Tryd.prog) w 23 23 ty 22 i Tryd.underlying23 hi g 0 0 0 _ 0 (pickV []) (by rw [h1]; exact hs) (Nat.le_refl _) (fun j hj => by simp [pickV] at hj) (fun j hj => by simp [pickV] at hj)
    exact ⟨_, _, hr, ⟨_, 0, rfl, .inl rfl⟩, Below.refl _ _, ⟨_, _, rfl, .inl rfl⟩⟩
  · have hold : (Builtin.firstCells i.size 0 (.slice (some ⟨g, 0, none⟩) 0 0)).run Tryd.prog w.drew = .ok ([] : List Value).toArray w.drew := by
      rw [h1]
      exact run_firstCells_some w.drew 1 0 ⟨g, 0, none⟩ 0 0 [] rfl (fun j u hu => by simp at hu)
    have hr := run_append_grow_src (P := Tryd.prog) w 23 23 ty 22 i (.int .u16 0) Tryd.underlying23 hi hz (some ⟨g, 0, none⟩) 0 0 [] hold _ n (pickV l) (by rw [h1]; exact hs) (by omega) (by omega) (growslice_fits (by omega) (by rw [h2]; omega))
    refine ⟨_, _, hr, ⟨_, _, by rw [hn, Nat.zero_add], .inr ⟨w.heap.size, 0, rfl, fun j v hv => ?_⟩⟩, ((Below.refl _ w).drew).alloc (Nat.le_refl _) _, ⟨_, _, by rw [Nat.zero_add], .inr rfl⟩⟩
    have e1 : ∀ (cs : Array Value) (t : TypeId), (w.drew.alloc (.cells cs t)).cell? ⟨w.heap.size, 0 + j, none⟩ = cs[0 + j]? := fun cs t => World.cell?_alloc_new w.drew _ _ _
    rw [e1, Nat.zero_add, List.nil_append, Array.getElem?_append_left (by have := (List.getElem?_eq_some_iff.1 hv).1; simp [pickV]; exact this)]
    simp [pickV, hv]
theorem wpList_app16 {ops : Array Oper} {rest : List Oper} {o : Oper} {a : Act} {Q : Exit → Act → World → Prop} {w : World} (hgd : o.guard = none) (sl x : Operand)
    (ho : o.op = .call { callee := .builtin .append, args := #[sl, x], argTypes := #[23, 23] })
    (g : Nat) (hv : a.eval sl = .slice (some ⟨g, 0, none⟩) 0 0) (hg : w.heap[g]? = some (.cells #[] 22 (0, 0))) (p : Option Addr) (n cap : Nat) (hx : a.eval x = .slice p n cap) (l : List Nat) (hn : l.length = n)
    (h : l = [] ∨ ∃ a : Addr, p = some a ∧ ∀ (i : Nat) (v : Nat), l[i]? = some v → w.cell? (a.add i) = some (.int .u16 (v : Int))) (hb : n ≤ 70368744177664)
    (hK : ∀ v' w', U16s w' v' l → Below w.heap.size w w' → (∃ a c, v' = .slice a n c ∧ (l = [] ∨ a = some ⟨w.heap.size, 0, none⟩)) → wpList Tryd.prog ops Q rest (a.put o.dst v') w') : wpList Tryd.prog ops Q (o :: rest) a w := by
  refine wpList_plain hgd fun K hK' => ?_
  obtain ⟨v', w', hr, h2, h3, h4⟩ := app16 o.type w g hg p n cap l hn h hb
  unfold Oper.wp execOp
  simp only [ho, resolve, invoke, builtin, Sem.run_bind, Sem.run_pure, Result.andThen_ok, List.map_toArray, List.map_cons, List.map_nil, hv, hx, hr]
  exact hK' _ _ (hK v' w' h2 h3 h4)
set_option maxRecDepth 20000 in
set_option maxHeartbeats 4000000 in
theorem same2_c (v1 v2 : Value) (f1 c1 e1 f2 c2 e2 : Int) (l1 l2 : List Nat) (w : World) (hl1 : l1.length ≤ 140737488355328) (hl2 : l2.length ≤ 140737488355328) (h1 : U16s w v1 l1) (h2 : U16a w v2 l2) :
    Calls Tryd.prog 10 #[.agg #[v1, .int .i64 f1, .int .i64 c1, .int .i64 e1], .agg #[v2, .int .i64 f2, .int .i64 c2, .int .i64 e2]] w fun e w' => e = .returned (.bool (sameS f1 c1 e1 l1 f2 c2 e2 l2)) ∧ Below w.heap.size w w' := by
  obtain ⟨p1, k1, rfl, h1⟩ := h1
  obtain ⟨p2, k2, rfl, h2⟩ := h2
  by_cases hf : f1 = f2
  rotate_left
  · have hs : sameS f1 c1 e1 l1 f2 c2 e2 l2 = false := by unfold sameS; simp [hf]
    have hfb : (f1 == f2) = false := beq_eq_false_iff_ne.2 hf
    go_enter Tryd.func10, Tryd.ntmps10
    go_wp2
    go_ret
    exact ⟨by rw [hs]; rfl, ((Below.refl _ _).alloc (Nat.le_refl _) _).alloc (by simp) _⟩
  by_cases hc : c1 = c2
  rotate_left
  · have hs : sameS f1 c1 e1 l1 f2 c2 e2 l2 = false := by unfold sameS; simp [hc]
    have hfb : (c1 == c2) = false := beq_eq_false_iff_ne.2 hc
    subst hf
    go_enter Tryd.func10, Tryd.ntmps10
    go_wp2
    go_ret
    exact ⟨by rw [hs]; rfl, ((Below.refl _ _).alloc (Nat.le_refl _) _).alloc (by simp) _⟩
  by_cases he : e1 = e2
  rotate_left
  · have hs : sameS f1 c1 e1 l1 f2 c2 e2 l2 = false := by unfold sameS; simp [he]
    have hfb : (e1 == e2) = false := beq_eq_false_iff_ne.2 he
    subst hf hc
    go_enter Tryd.func10, Tryd.ntmps10
    go_wp2
    go_ret
    exact ⟨by rw [hs]; rfl, ((Below.refl _ _).alloc (Nat.le_refl _) _).alloc (by simp) _⟩
  obtain ⟨n1, hn1⟩ : ∃ n, l1.length = n := ⟨_, rfl⟩
  obtain ⟨n2, hn2⟩ : ∃ n, l2.length = n := ⟨_, rfl⟩
  rw [hn1] at hl1 ⊢
  rw [hn2] at hl2 ⊢
  subst hf hc he
  have hss : sameS f1 c1 e1 l1 f1 c1 e1 l2 = (l1 == l2) := by unfold sameS; simp
  by_cases hn : n1 = n2
  rotate_left
  · have hs : (l1 == l2) = false := by rw [beq_eq_false_iff_ne]; rintro rfl; exact hn (hn1.symm.trans hn2)
    have hfb : ((n1 : Int) == (n2 : Int)) = false := by rw [beq_eq_false_iff_ne]; omega
    have hfc : ¬ (n1 : Int) = (n2 : Int) := by omega
    go_enter Tryd.func10, Tryd.ntmps10
    go_wp2
    go_ret
    exact ⟨by rw [hss, hs]; rfl, ((Below.refl _ _).alloc (Nat.le_refl _) _).alloc (by simp) _⟩
  subst hn
  obtain ⟨W, hW⟩ : ∃ W, W = (w.alloc (.cells #[.slice p1 n1 k1, .int .i64 f1, .int .i64 c1, .int .i64 e1] 27)).alloc (.cells #[.slice p2 n1 k2, .int .i64 f1, .int .i64 c1, .int .i64 e1] 27) := ⟨_, rfl⟩
  have hB : Below w.heap.size w W := by rw [hW]; exact ((Below.refl _ _).alloc (Nat.le_refl _) _).alloc (by simp) _
  have HN1 := Lib.hid hn1
  have HN2 := Lib.hid hn2
  have HSS := Lib.hid hss
  have H1 : Hid (l1 = [] ∨ ∃ g o, p1 = some ⟨g, o, none⟩ ∧ ∀ (i : Nat) (v : Nat), l1[i]? = some v → W.cell? ⟨g, o + i, none⟩ = some (.int .u16 (v : Int))) := Lib.hid (h1.imp id fun ⟨g, o, h3, h4⟩ => ⟨g, o, h3, fun i v hv => (hB.cell (p := ⟨g, o + i, none⟩) (Lib.lt_of_cell (h4 i v hv))).trans (h4 i v hv)⟩)
  have H2 : Hid (l2 = [] ∨ ∃ a : Addr, p2 = some a ∧ ∀ (i : Nat) (v : Nat), l2[i]? = some v → W.cell? (a.add i) = some (.int .u16 (v : Int))) := Lib.hid (h2.imp id fun ⟨a, h3, h4⟩ => ⟨a, h3, fun i v hv => (hB.cell (p := a.add i) (Lib.lt_of_cell (h4 i v hv))).trans (h4 i v hv)⟩)
  have HB := Lib.hid hB
  clear h1 h2 hn1 hn2 hss hB
  go_enter Tryd.func10, Tryd.ntmps10
  go_wp2
  rw [← hW]
  have r1 : W.cell? ⟨w.heap.size, 0, none⟩ = some (.slice p1 n1 k1) := by
    have : W.heap[w.heap.size]? = some (.cells #[.slice p1 n1 k1, .int .i64 f1, .int .i64 c1, .int .i64 e1] 27 (0, 0)) := by
      rw [hW]
      show (((w.heap.push _).push _))[w.heap.size]? = _
      rw [Array.getElem?_push, if_neg (by simp), Array.getElem?_push_size]
    unfold World.cell?; rw [this]; rfl
  have r2 : W.cell? ⟨w.heap.size + 1, 0, none⟩ = some (.slice p2 n1 k2) := by
    have : W.heap[w.heap.size + 1]? = some (.cells #[.slice p2 n1 k2, .int .i64 f1, .int .i64 c1, .int .i64 e1] 27 (0, 0)) := by
      rw [hW]; exact heap_alloc2_new w _ _
    unfold World.cell?; rw [this]; rfl
  clear hW
  go_loopw [5] (fun i wr => ∃ (k q : Nat), i = .int .i64 k ∧ k ≤ n1 ∧ wr = W.drewN q ∧ Hid (l1.take k = l2.take k)) (fun i _ => n1 - (intOf i).toNat)
  case atStart => exact ⟨0, 0, rfl, by omega, by rw [World.drewN_zero], Lib.hid rfl⟩
  case round =>
    obtain ⟨k, q, rfl, hk, hwq, hT⟩ := hrel
    have r1 : wr.cell? ⟨w.heap.size, 0, none⟩ = some (.slice p1 n1 k1) := by rw [hwq, World.cell?_drewN]; exact r1
    have r2 : wr.cell? ⟨w.heap.size + 1, 0, none⟩ = some (.slice p2 n1 k2) := by rw [hwq, World.cell?_drewN]; exact r2
    have HBq : Hid (Below w.heap.size w wr) := Lib.hid (by rw [hwq]; exact below_dn HB.out q)
    have HWQ := Lib.hid hwq
    by_cases hlt : k < n1
    · have hlti : (k : Int) < (n1 : Int) := by omega
      obtain ⟨a, ha⟩ : ∃ a, l1[k]? = some a := ⟨_, List.getElem?_eq_getElem (by rw [HN1.out]; exact hlt)⟩
      obtain ⟨b, hb⟩ : ∃ b, l2[k]? = some b := ⟨_, List.getElem?_eq_getElem (by rw [HN2.out]; exact hlt)⟩
      obtain ⟨g1, o1, rfl, hg1⟩ := H1.out.resolve_left (fun e => by have := HN1.out; rw [e] at this; simp at this; omega)
      obtain ⟨a2, rfl, hg2⟩ := H2.out.resolve_left (fun e => by have := HN2.out; rw [e] at this; simp at this; omega)
      have q1 : wr.cell? ⟨g1, o1 + k, none⟩ = some (.int .u16 (a : Int)) := by rw [hwq, World.cell?_drewN]; exact hg1 k a ha
      have q2 : wr.cell? (a2.add k) = some (.int .u16 (b : Int)) := by rw [hwq, World.cell?_drewN]; exact hg2 k b hb
      clear hg1 hg2 hwq
      by_cases hab : a = b
      · subst hab
        have hT2 : Hid (l1.take (k + 1) = l2.take (k + 1)) := Lib.hid (by rw [List.take_add_one, List.take_add_one, hT.out, ha, hb])
        go_wp2
        go_quiet (fail)
        go_wp2
        exact ⟨⟨k + 1, q + nq, by go_num, by omega, by rw [HWQ.out]; first | rfl | rw [World.drewN_drewN] | simp, hT2⟩, by simp [intOf]; omega⟩
      · have hne : (l1 == l2) = false := list_neq ha hb hab
        have hab1 : ¬ (a : Int) = (b : Int) := by omega
        have hab2 : ((a : Int) == (b : Int)) = false := by rw [beq_eq_false_iff_ne]; exact hab1
        have hab3 : ((a : Int) != (b : Int)) = true := by rw [bne, hab2]; rfl
        go_wp2
        go_quiet (fail)
        go_wp2
        go_ret
        exact ⟨by rw [HSS.out, hne]; rfl, below_dn HBq.out _⟩
    · clear hwq
      have hke : k = n1 := by omega
      subst hke
      have heq : (l1 == l2) = true := by
        have := hT.out
        rw [List.take_of_length_le (by rw [HN1.out]; exact Nat.le_refl _), List.take_of_length_le (by rw [HN2.out]; exact Nat.le_refl _)] at this
        rw [this]; simp
      go_wp2
      go_ret
      exact ⟨by rw [HSS.out, heq]; rfl, HBq.out⟩
end Go.Proofs.YthfnjphmodcnoaaDoor
