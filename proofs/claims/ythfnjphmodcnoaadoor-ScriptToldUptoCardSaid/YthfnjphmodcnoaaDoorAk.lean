/- Contract of the closure that reads the picks of a script. -/
import Derived.Test.YthfnjphmodcnoaaDoorAj
namespace Go.Proofs.YthfnjphmodcnoaaDoor
open Go.RowKit Go.Maps
set_option linter.unusedSimpArgs false
set_option linter.unusedVariables false

/-- the picks of a line's words: all of them numbers up to 65535 -/
def pickL : List (List UInt8) → Option (List Nat)
  | [] => some []
  | x :: l => match numQ x 65535, pickL l with
    | some v, some m => some (v :: m)
    | _, _ => none
theorem pickL_app : ∀ (l : List (List UInt8)) (x : List UInt8), pickL (l ++ [x]) = match pickL l, numQ x 65535 with
    | some m, some v => some (m ++ [v])
    | _, _ => none
  | [], x => by
    show pickL [x] = _
    rw [pickL, pickL]
    cases numQ x 65535 <;> rfl
  | y :: l, x => by
    rw [List.cons_append, pickL, pickL_app l x, pickL]
    cases numQ y 65535 <;> cases pickL l <;> cases numQ x 65535 <;> rfl
theorem pickL_pre : ∀ (l m : List (List UInt8)), pickL l = none → pickL (l ++ m) = none
  | [], m, h => by cases h
  | x :: l, m, h => by
    rw [List.cons_append, pickL]
    rw [pickL] at h
    cases hx : numQ x 65535 with
    | none => rfl
    | some v =>
      rw [hx] at h
      cases hl : pickL l with
      | none => rw [pickL_pre l m hl]
      | some k => rw [hl] at h; cases h
theorem pickL_len : ∀ (l : List (List UInt8)) (m : List Nat), pickL l = some m → m.length = l.length
  | [], m, h => by cases h; rfl
  | x :: l, m, h => by
    rw [pickL] at h
    cases hx : numQ x 65535 with
    | none => rw [hx] at h; cases h
    | some v =>
      rw [hx] at h
      cases hl : pickL l with
      | none => rw [hl] at h; cases h
      | some k => rw [hl] at h; cases h; simp [pickL_len l k hl]
def pickV (l : List Nat) : List Value := l.map fun (v : Nat) => Value.int .u16 (v : Int)
theorem Tryd.infoU16 : ((Tryd.prog).info? 22).map (fun i => (i.zero, i.size, i.bytes)) = some (some (.int .u16 0), 1, 2) := by kernel_rfl
theorem RBlk.grown {w w' : World} {rb : Nat} {pv : Value} {f c e : Int} {r : Option Nat} (h : RBlk w rb pv f c e) (hg : w.grownBy w' r) (hr : some rb ≠ r) : RBlk w' rb pv f c e :=
  (hg.block rb (Array.getElem?_eq_some_iff.1 h).1 hr).trans h
theorem below_grown {w w' : World} (h : Below w.heap.size w w') (r : Option Nat) : w.grownBy w' r := ⟨h.os, h.tape, h.output, h.size, fun k hk _ => h.block k hk⟩
theorem RBlk.set0 {w : World} {rb : Nat} {pv : Value} {f c e : Int} (h : RBlk w rb pv f c e) (v : Value) : RBlk (w.setCell ⟨rb, 0, none⟩ v) rb v f c e := by
  unfold RBlk at *
  simp only [World.setCell, Array.getElem?_modify, if_true, h]
  rfl
theorem set_grown (w : World) (a : Addr) (v : Value) : w.grownBy (w.setCell a v) (some a.block) :=
  ⟨rfl, rfl, rfl, by simp [World.setCell], fun k hk hne => Below.heap_setCell w a v k (fun e => hne (by rw [e]))⟩
theorem own_grown {w w' : World} {base : Nat} {e : TypeId} {size : Nat} {v : Value} {n : Nat} {xs : List Value} {r : Option Nat} (h : w.ownsRow base e size v n xs) (hg : w.grownBy w' r) (hr : ∀ k, r = some k → k < base) : w'.ownsRow base e size v n xs := by
  refine ⟨h.1, ?_⟩
  rcases h.2 with h2 | ⟨g, cap, cur, a, b, c, d⟩
  · exact .inl h2
  · exact .inr ⟨g, cap, cur, a, b, (hg.block g (Array.getElem?_eq_some_iff.1 c).1 (fun e => by have := hr g e.symm; omega)).trans c, d⟩
theorem ownsRow_below' {w w' : World} {base : Nat} {e : TypeId} {size : Nat} {v : Value} {n : Nat} {xs : List Value} (h : w.ownsRow base e size v n xs) (hb : Below w.heap.size w w') : w'.ownsRow base e size v n xs := by
  refine ⟨h.1, ?_⟩
  rcases h.2 with h2 | ⟨g, cap, cur, a, b, c, d⟩
  · exact .inl h2
  · refine .inr ⟨g, cap, cur, a, b, ?_, d⟩
    rw [hb.block g (Array.getElem?_eq_some_iff.1 c).1]; exact c
theorem laid_nine {w w' : World} (h : Laid w) (hs : 9 ≤ w'.heap.size) (hb : ∀ k, k < 9 → w'.heap[k]? = w.heap[k]?) : Laid w' := by
  have hc : ∀ b o, b < 9 → w'.cell? ⟨b, o, none⟩ = w.cell? ⟨b, o, none⟩ := fun b o hlt => World.cell?_of_block (a := ⟨b, o, none⟩) (hb b hlt)
  obtain ⟨m, hm⟩ := h.most
  obtain ⟨ev, hr, hev⟩ := h.range
  obtain ⟨ev2, hr2, hev2⟩ := h.syn
  obtain ⟨t, fr, hsg⟩ := h.ends
  refine ⟨hs, ⟨m, ?_⟩, ⟨ev, ?_, hev⟩, ⟨ev2, ?_, hev2⟩, ?_, ⟨t, fr, ?_⟩⟩
  · rw [hc _ _ (by decide)]; exact hm
  · rw [hc _ _ (by decide)]; exact hr
  · rw [hc _ _ (by decide)]; exact hr2
  · have ht := h.tab
    unfold Lib.TabIs World.var? at *
    have hg : (Tryd.prog).globalNamed "internal/strconv.uint64pow10" = some 1 := by kernel_rfl
    rw [hg] at ht ⊢
    simp only [Option.bind_some] at ht ⊢
    rw [hb _ (by decide)]
    exact ht
  · rw [hb _ (by decide)]; exact hsg
theorem laid_grown {w w' : World} {rb : Nat} (h : Laid w) (hg : w.grownBy w' (some rb)) (hrb : 9 ≤ rb) : Laid w' :=
  laid_nine h (Nat.le_trans h.size hg.size) (fun k hk => hg.block k (Nat.lt_of_lt_of_le hk h.size) (fun e => by cases e; omega))
theorem own_below {w w1 w2 : World} {r : Option Nat} {rb : Nat} (h1 : w.grownBy w1 (some rb)) (h : w1.grownBy w2 r) (hr : ∀ k, r = some k → w.heap.size ≤ k) : w.grownBy w2 (some rb) :=
  ⟨h.os.trans h1.os, h.tape.trans h1.tape, h.output.trans h1.output, Nat.le_trans h1.size h.size, fun k hk hne => (h.block k (Nat.lt_of_lt_of_le hk h1.size) (fun e => by have := hr k e.symm; omega)).trans (h1.block k hk hne)⟩
theorem new_cell (W : World) (v : Nat) : ∀ j u, [Value.int .u16 (v : Int)][j]? = some u → (W.drew.alloc (.cells #[.int .u16 (v : Int)] 22)).cell? ((⟨W.heap.size, 0, none⟩ : Addr).add j) = some u := by
  intro j u hj
  match j, hj with
  | 0, hj =>
    simp at hj; subst hj
    have e : (W.drew.alloc (.cells #[.int .u16 (v : Int)] 22)).heap[W.heap.size]? = some (.cells #[.int .u16 (v : Int)] 22 (0, 0)) := by
      show (W.heap.push _)[W.heap.size]? = _
      rw [Array.getElem?_push_size]
    show World.cell? _ ⟨W.heap.size, 0, none⟩ = _
    unfold World.cell?
    rw [e]; rfl
  | j + 1, hj => simp at hj
set_option maxRecDepth 100000 in
set_option maxHeartbeats 4000000 in
theorem set2_c (b o cap t rb : Nat) (ws : List (List UInt8)) (w : World) (h : Laid w) (hrb9 : 9 ≤ rb) (hs : Strs w b o ws) (hb : b < w.heap.size) (hbr : b ≠ rb) (hl : ∀ (i : Nat) (x : List UInt8), ws[i]? = some x → x.length ≤ 1073741824) (hn : ws.length ≤ 1073741825) (f c e0 : Int)
    (ht : w.heap[t]? = some (.cells #[.pointer (some ⟨rb, 0, none⟩)] 50 (0, 0))) (htr : t ≠ rb) (hr : RBlk w rb (.slice none 0 0) f c e0) :
    Calls Tryd.prog 43 #[.slice (some ⟨b, o, none⟩) ws.length cap, .pointer (some ⟨t, 0, none⟩)] w fun e w' =>
      e = .returned (.bool (pickL ws).isSome) ∧ w.grownBy w' (some rb) ∧ ∃ pv, RBlk w' rb pv f c e0 ∧ ∀ l, pickL ws = some l → w'.ownsRow w.heap.size 22 1 pv l.length (pickV l) := by
  obtain ⟨i0, hi, hz0, hz1, hz2⟩ := info_parts Tryd.infoU16
  obtain ⟨n, hN⟩ : ∃ n, ws.length = n := ⟨_, rfl⟩
  rw [hN] at hn ⊢
  have htl : t < w.heap.size := (Array.getElem?_eq_some_iff.1 ht).1
  have hrl : rb < w.heap.size := (Array.getElem?_eq_some_iff.1 hr).1
  have HI := Lib.hid hi
  have HL := Lib.hid hl
  have HS := Lib.hid hs
  have HT := Lib.hid ht
  have HN := Lib.hid hN
  have HLd := Lib.hid h
  have HR := Lib.hid hr
  clear hi hl hs ht hN h hr
  go_enter Tryd.func43, Tryd.ntmps43
  go_wp2
  go_loopw [10] (fun i wr => ∃ (k : Nat) (m : List Nat) (pv : Value), i = .int .i64 k ∧ k ≤ n ∧ w.grownBy wr (some rb) ∧ Hid (RBlk wr rb pv f c e0) ∧ m.length = k ∧ wr.ownsRow w.heap.size 22 1 pv k (pickV m) ∧ Hid (pickL (ws.take k) = some m)) (fun i _ => n - (intOf i).toNat)
  case atStart => exact ⟨0, [], _, rfl, by omega, World.grownBy.refl _ _, HR, rfl, World.ownsRow_nil _ _ _ _, Lib.hid rfl⟩
  case round =>
    obtain ⟨k, m, pv, rfl, hk, hg, HB, hm, hown, HP⟩ := hrel
    have hsz := hg.size
    by_cases hlt : k < n
    · have hlti : (k : Int) < (n : Int) := by omega
      obtain ⟨x, hx⟩ : ∃ x, ws[k]? = some x := ⟨_, List.getElem?_eq_getElem (by have := HN.out; omega)⟩
      have hwb : wr.heap[b]? = w.heap[b]? := hg.block b hb (fun e => hbr (Option.some.inj e))
      have hcx : wr.cell? ⟨b, o + k, none⟩ = some (.string ⟨x.toArray⟩) := strs_same HS.out hwb k x hx
      have hct : wr.heap[t]? = some (.cells #[.pointer (some ⟨rb, 0, none⟩)] 50 (0, 0)) := (hg.block t htl (fun e => htr (Option.some.inj e))).trans HT.out
      have hLw : Laid wr := laid_grown HLd.out hg hrb9
      have hnum := (number_c ⟨x.toArray⟩ 65535 (by decide) wr hLw (show x.toArray.size ≤ _ by simpa using HL.out k x hx))
      have hbl : bl ⟨x.toArray⟩ = x := by simp [bl]
      rw [hbl] at hnum
      have hsnoc : ws.take (k + 1) = ws.take k ++ [x] := by rw [List.take_add_one, hx]; rfl
      have HSN := Lib.hid hsnoc
      have HNUM := Lib.hid hnum
      have HCT := Lib.hid hct
      clear hx hwb hct hLw hnum hbl hsnoc
      have HOWN := Lib.hid hown
      have HG := Lib.hid hg
      clear hown hg
      cases hq : numQ x 65535 with
      | none =>
        rw [hq] at HNUM
        have hfin : pickL ws = none := by
          have h1 := pickL_app (ws.take k) x
          rw [← HSN.out, HP.out, hq] at h1
          rw [← List.take_append_drop (k + 1) ws]
          exact pickL_pre _ _ h1
        go_wp2_with (first | (go_at_call 29; refine (HNUM.out).mono ?_; rintro e W1 ⟨⟨V, rfl, hV⟩, hB⟩))
        go_ret
        refine ⟨by rw [hfin]; rfl, HG.out.trans (below_grown hB _), pv, RBlk.grown HB.out (below_grown hB none) (by simp), fun l hl => ?_⟩
        rw [hfin] at hl; cases hl
      | some v =>
        have hv := ((numQ_iff _ _ _).1 hq).2
        rw [hq] at HNUM
        go_wp2_with (first | (go_at_call 29; refine (HNUM.out).mono ?_; rintro e W1 ⟨⟨V, rfl, hV⟩, hB⟩))
        obtain rfl := hV v rfl
        clear hV
        have hct1 := (hB.block t (by omega)).trans HCT.out
        have hcell1 : W1.cell? ⟨t, 0, none⟩ = some (.pointer (some ⟨rb, 0, none⟩)) := by unfold World.cell?; rw [hct1]; rfl
        have hB1 : RBlk W1 rb pv f c e0 := RBlk.grown HB.out (below_grown hB none) (by simp)
        have hp1 := hB1.cell.1
        have HG1 := Lib.hid (HG.out.trans (below_grown hB (some rb)))
        have hown1 := ownsRow_below' HOWN.out hB
        have hs1 : w.heap.size ≤ W1.heap.size := by have := hB.size; omega
        have hu16 : IntKind.u16.wrap (v : Int) = (v : Int) := by simp [IntKind.wrap, IntKind.signed, IntKind.bits]; omega
        have HB1 := Lib.hid hB1
        have HCT1 := Lib.hid hct1
        clear hB hct1 hB1 HCT HB HG HOWN HNUM
        refine wp_region_held_drew (S := (fun w' => w'.heap[t]? = some (.cells #[.pointer (some ⟨rb, 0, none⟩)] 50 (0, 0)) ∧ w'.cell? ⟨t, 0, none⟩ = some (.pointer (some ⟨rb, 0, none⟩)))) (by kernel_rfl) ?_ (fun hHeld => ?_)
        · exact ⟨HCT1.out, hcell1⟩
        refine h_yes 0 21 (v := .pointer (some ⟨rb, 0, none⟩)) rfl rfl (by kernel_rfl) (by kernel_rfl) (by kernel_rfl) (fun _ _ _ h => h) (by kernel_rfl) (by assumption) ?_ ?_
        · (intro w hSw; (try dsimp only at hSw); obtain ⟨hS1, hS2⟩ := hSw; go_simp; try first | with_reducible rfl | rfl)
        try simp only [Act.put, List.setIfInBounds_toArray, List.set_cons_zero, List.set_cons_succ]
        refine h_yes 1 22 (v := .pointer (some ⟨rb, 0, none⟩)) rfl rfl (by kernel_rfl) (by kernel_rfl) (by kernel_rfl) (fun _ _ _ h => h) (by kernel_rfl) (by assumption) ?_ ?_
        · (intro w hSw; (try dsimp only at hSw); obtain ⟨hS1, hS2⟩ := hSw; go_simp; try first | with_reducible rfl | rfl)
        try simp only [Act.put, List.setIfInBounds_toArray, List.set_cons_zero, List.set_cons_succ]
        refine h_yes 2 23 (v := .pointer (some ⟨rb, 0, none⟩)) rfl rfl (by kernel_rfl) (by kernel_rfl) (by kernel_rfl) (fun _ _ _ h => h) (by kernel_rfl) (by assumption) ?_ ?_
        · (intro w hSw; (try dsimp only at hSw); obtain ⟨hS1, hS2⟩ := hSw; go_simp; try first | with_reducible rfl | rfl)
        try simp only [Act.put, List.setIfInBounds_toArray, List.set_cons_zero, List.set_cons_succ]
        refine h_yes 3 24 (v := .pointer (some ⟨rb, 0, none⟩)) rfl rfl (by kernel_rfl) (by kernel_rfl) (by kernel_rfl) (fun _ _ _ h => h) (by kernel_rfl) (by assumption) ?_ ?_
        · (intro w hSw; (try dsimp only at hSw); obtain ⟨hS1, hS2⟩ := hSw; go_simp; try first | with_reducible rfl | rfl)
        try simp only [Act.put, List.setIfInBounds_toArray, List.set_cons_zero, List.set_cons_succ]
        refine h_yes 4 25 (v := .pointer (some ⟨rb, 0, none⟩)) rfl rfl (by kernel_rfl) (by kernel_rfl) (by kernel_rfl) (fun _ _ _ h => h) (by kernel_rfl) (by assumption) ?_ ?_
        · (intro w hSw; (try dsimp only at hSw); obtain ⟨hS1, hS2⟩ := hSw; go_simp; try first | with_reducible rfl | rfl)
        try simp only [Act.put, List.setIfInBounds_toArray, List.set_cons_zero, List.set_cons_succ]
        refine h_yes 6 27 (v := .int .i64 (v : Int)) rfl rfl (by kernel_rfl) (by kernel_rfl) (by kernel_rfl) (fun _ _ _ h => h) (by kernel_rfl) (by assumption) ?_ ?_
        · (intro w hSw; (try dsimp only at hSw); obtain ⟨hS1, hS2⟩ := hSw; go_simp; try first | with_reducible rfl | rfl)
        try simp only [Act.put, List.setIfInBounds_toArray, List.set_cons_zero, List.set_cons_succ]
        refine h_yes 7 28 (v := .int .u16 (v : Int)) rfl rfl (by kernel_rfl) (by kernel_rfl) (by kernel_rfl) (fun _ _ _ h => h) (by kernel_rfl) (by assumption) ?_ ?_
        · (intro w hSw; (try dsimp only at hSw); obtain ⟨hS1, hS2⟩ := hSw; go_simp; try first | with_reducible rfl | rfl)
        try simp only [Act.put, List.setIfInBounds_toArray, List.set_cons_zero, List.set_cons_succ]
        have hp1 : W1.drew.cell? ⟨rb, 0, none⟩ = some pv := hp1
        have hct1a : (W1.drew.alloc (.cells #[.int .u16 (v : Int)] 22)).heap[t]? = some (.cells #[.pointer (some ⟨rb, 0, none⟩)] 50 (0, 0)) := (Below.heap_alloc W1.drew _ t (show t < W1.heap.size by omega)).trans HCT1.out
        have hcell1a : (W1.drew.alloc (.cells #[.int .u16 (v : Int)] 22)).cell? ⟨t, 0, none⟩ = some (.pointer (some ⟨rb, 0, none⟩)) := by unfold World.cell?; rw [hct1a]; rfl
        refine wpAnyH_ready (rs := [5, 8]) (by kernel_rfl) (by simp) (AllReadyH.cons rfl (fun K hK => ?_) (AllReadyH.cons rfl (fun K hK => ?_) AllReadyH.nil))
        · rw [if_pos (by kernel_rfl)]
          go_simp
          refine hK.out _ _ hHeld (fun hHeld => ?_)
          clear hK K
          try simp only [Act.put, List.setIfInBounds_toArray, List.set_cons_zero, List.set_cons_succ]
          refine h_step 8 rfl (by kernel_rfl) (by kernel_rfl) (fun K hK => ?_)
          go_simp
          refine hK.out _ _ (by first | exact hHeld | exact ⟨hct1a, hcell1a⟩) (fun hHeld => ?_)
          clear hK K
          try simp only [Act.put, List.setIfInBounds_toArray, List.set_cons_zero, List.set_cons_succ]
          refine h_step 9 rfl (by kernel_rfl) (by kernel_rfl) (fun K hK => ?_)
          refine wp_append_own _ _ _ 23 rfl w.heap.size 22 i0 (.int .u16 0) 1 2 Tryd.underlying23 HI.out hz0 hz1 hz2 rfl (by decide) _ _ _ rfl (World.ownsRow.alloc (show W1.drew.ownsRow w.heap.size 22 1 pv k (pickV m) from hown1) _) ⟨W1.heap.size, 0, none⟩ 1 1 [.int .u16 (v : Int)] rfl rfl (fun j u hj => new_cell W1 v j u hj) (by simp [Value.oneCell']) (by unfold maxLen; omega) (by omega) (by simp; omega) ?_
          intro v4 w4 hown4 hgrow4 hnil4
          obtain ⟨g4, cap4, rfl⟩ : ∃ g c, v4 = .slice (some ⟨g, 0, none⟩) (k + 1) c := by
            rcases hown4.2 with ⟨-, h0⟩ | ⟨g, c, -, h0, -⟩
            · omega
            · exact ⟨g, c, h0⟩
          have hg4 : W1.grownBy w4 pv.ownBlock := (below_grown (Below.drew (Below.refl W1.heap.size W1)) _).trans ((World.grownBy_alloc W1.drew _ _).trans hgrow4)
          have hpb : ∀ k', pv.ownBlock = some k' → w.heap.size ≤ k' := fun k' hk' => (hown1.lt _ hk').1
          have hB4 : RBlk w4 rb pv f c e0 := HB1.out.grown hg4 (fun e => by have := hpb rb e.symm; omega)
          have hct4 : w4.heap[t]? = some (.cells #[.pointer (some ⟨rb, 0, none⟩)] 50 (0, 0)) := (hg4.block t (by omega) (fun e => by have := hpb t e.symm; omega)).trans HCT1.out
          have hcell4 : w4.cell? ⟨t, 0, none⟩ = some (.pointer (some ⟨rb, 0, none⟩)) := by unfold World.cell?; rw [hct4]; rfl
          refine hK.out _ _ ⟨hct4, hcell4⟩ (fun hHeld => ?_)
          clear hK K
          try simp only [Act.put, List.setIfInBounds_toArray, List.set_cons_zero, List.set_cons_succ]
          refine h_yes 10 31 (v := .pointer (some ⟨rb, 0, none⟩)) rfl rfl (by kernel_rfl) (by kernel_rfl) (by kernel_rfl) (fun _ _ _ h => h) (by kernel_rfl) (by assumption) ?_ ?_
          · (intro w hSw; (try dsimp only at hSw); obtain ⟨hS1, hS2⟩ := hSw; go_simp; try first | with_reducible rfl | rfl)
          try simp only [Act.put, List.setIfInBounds_toArray, List.set_cons_zero, List.set_cons_succ]
          refine h_yes 11 32 (v := .pointer (some ⟨rb, 0, none⟩)) rfl rfl (by kernel_rfl) (by kernel_rfl) (by kernel_rfl) (fun _ _ _ h => h) (by kernel_rfl) (by assumption) ?_ ?_
          · (intro w hSw; (try dsimp only at hSw); obtain ⟨hS1, hS2⟩ := hSw; go_simp; try first | with_reducible rfl | rfl)
          try simp only [Act.put, List.setIfInBounds_toArray, List.set_cons_zero, List.set_cons_succ]
          refine h_yes 12 33 (v := .pointer (some ⟨rb, 0, none⟩)) rfl rfl (by kernel_rfl) (by kernel_rfl) (by kernel_rfl) (fun _ _ _ h => h) (by kernel_rfl) (by assumption) ?_ ?_
          · (intro w hSw; (try dsimp only at hSw); obtain ⟨hS1, hS2⟩ := hSw; go_simp; try first | with_reducible rfl | rfl)
          try simp only [Act.put, List.setIfInBounds_toArray, List.set_cons_zero, List.set_cons_succ]
          obtain ⟨old, ho4, hf4⟩ := blk_cell w4 rb 0 _ _ hB4 (by simp)
          have HB4 := Lib.hid hB4
          have HOWN4 := Lib.hid hown4
          have HG4 := Lib.hid hg4
          clear hB4 hown4 hgrow4 hnil4 hg4
          refine h_step 13 rfl (by kernel_rfl) (by kernel_rfl) (fun K hK => ?_)
          go_simp
          refine hK.out _ _ ⟨?_, ?_⟩ (fun hHeld => ?_)
          · exact (Below.heap_setCell w4 _ _ t htr).trans hct4
          · exact (World.cell?_of_block (a := ⟨t, 0, none⟩) (Below.heap_setCell w4 _ _ t htr)).trans hcell4
          clear hK K
          refine wpAnyH_done (by kernel_rfl) ?_ _
          have HG5 := Lib.hid ((own_below HG1.out HG4.out hpb).trans (set_grown w4 ⟨rb, 0, none⟩ (.slice (some ⟨g4, 0, none⟩) (k + 1) cap4)))
          have HB5 := Lib.hid (HB4.out.set0 (.slice (some ⟨g4, 0, none⟩) (k + 1) cap4))
          have hown5 : (w4.setCell ⟨rb, 0, none⟩ (.slice (some ⟨g4, 0, none⟩) (k + 1) cap4)).ownsRow w.heap.size 22 1 (.slice (some ⟨g4, 0, none⟩) (k + 1) cap4) (k + 1) (pickV (m ++ [v])) := by
            have h5 := own_grown HOWN4.out (set_grown w4 ⟨rb, 0, none⟩ (.slice (some ⟨g4, 0, none⟩) (k + 1) cap4)) (fun k' e => by cases e; exact hrl)
            unfold pickV at *
            rw [List.map_append]; exact h5
          have HP5 : Hid (pickL (ws.take (k + 1)) = some (m ++ [v])) := Lib.hid (by rw [HSN.out, pickL_app, HP.out, hq])
          go_wp2
          go_roundw
          case rel => exact ⟨k + 1, m ++ [v], _, by go_num, by omega, HG5.out, HB5, by simp [hm], hown5, HP5⟩
          case measure => simp [intOf]; omega
        · rw [if_pos (by kernel_rfl)]
          go_simp
          refine hK.out _ _ ⟨hct1a, hcell1a⟩ (fun hHeld => ?_)
          clear hK K
          have hp1a : (W1.alloc (.cells #[.int .u16 (v : Int)] 22)).cell? ⟨rb, 0, none⟩ = some pv := (World.cell?_of_block (a := ⟨rb, 0, none⟩) (Below.heap_alloc W1.drew _ rb (show rb < W1.heap.size by omega))).trans hp1
          try simp only [Act.put, List.setIfInBounds_toArray, List.set_cons_zero, List.set_cons_succ]
          refine h_step 5 rfl (by kernel_rfl) (by kernel_rfl) (fun K hK => ?_)
          go_simp
          refine hK.out _ _ (by first | exact hHeld | exact ⟨hct1a, hcell1a⟩) (fun hHeld => ?_)
          clear hK K
          try simp only [Act.put, List.setIfInBounds_toArray, List.set_cons_zero, List.set_cons_succ]
          refine h_step 9 rfl (by kernel_rfl) (by kernel_rfl) (fun K hK => ?_)
          refine wp_append_own _ _ _ 23 rfl w.heap.size 22 i0 (.int .u16 0) 1 2 Tryd.underlying23 HI.out hz0 hz1 hz2 rfl (by decide) _ _ _ rfl (World.ownsRow.alloc (show W1.drew.ownsRow w.heap.size 22 1 pv k (pickV m) from hown1) _) ⟨W1.heap.size, 0, none⟩ 1 1 [.int .u16 (v : Int)] rfl rfl (fun j u hj => new_cell W1 v j u hj) (by simp [Value.oneCell']) (by unfold maxLen; omega) (by omega) (by simp; omega) ?_
          intro v4 w4 hown4 hgrow4 hnil4
          obtain ⟨g4, cap4, rfl⟩ : ∃ g c, v4 = .slice (some ⟨g, 0, none⟩) (k + 1) c := by
            rcases hown4.2 with ⟨-, h0⟩ | ⟨g, c, -, h0, -⟩
            · omega
            · exact ⟨g, c, h0⟩
          have hg4 : W1.grownBy w4 pv.ownBlock := (below_grown (Below.drew (Below.refl W1.heap.size W1)) _).trans ((World.grownBy_alloc W1.drew _ _).trans hgrow4)
          have hpb : ∀ k', pv.ownBlock = some k' → w.heap.size ≤ k' := fun k' hk' => (hown1.lt _ hk').1
          have hB4 : RBlk w4 rb pv f c e0 := HB1.out.grown hg4 (fun e => by have := hpb rb e.symm; omega)
          have hct4 : w4.heap[t]? = some (.cells #[.pointer (some ⟨rb, 0, none⟩)] 50 (0, 0)) := (hg4.block t (by omega) (fun e => by have := hpb t e.symm; omega)).trans HCT1.out
          have hcell4 : w4.cell? ⟨t, 0, none⟩ = some (.pointer (some ⟨rb, 0, none⟩)) := by unfold World.cell?; rw [hct4]; rfl
          refine hK.out _ _ ⟨hct4, hcell4⟩ (fun hHeld => ?_)
          clear hK K
          try simp only [Act.put, List.setIfInBounds_toArray, List.set_cons_zero, List.set_cons_succ]
          refine h_yes 10 31 (v := .pointer (some ⟨rb, 0, none⟩)) rfl rfl (by kernel_rfl) (by kernel_rfl) (by kernel_rfl) (fun _ _ _ h => h) (by kernel_rfl) (by assumption) ?_ ?_
          · (intro w hSw; (try dsimp only at hSw); obtain ⟨hS1, hS2⟩ := hSw; go_simp; try first | with_reducible rfl | rfl)
          try simp only [Act.put, List.setIfInBounds_toArray, List.set_cons_zero, List.set_cons_succ]
          refine h_yes 11 32 (v := .pointer (some ⟨rb, 0, none⟩)) rfl rfl (by kernel_rfl) (by kernel_rfl) (by kernel_rfl) (fun _ _ _ h => h) (by kernel_rfl) (by assumption) ?_ ?_
          · (intro w hSw; (try dsimp only at hSw); obtain ⟨hS1, hS2⟩ := hSw; go_simp; try first | with_reducible rfl | rfl)
          try simp only [Act.put, List.setIfInBounds_toArray, List.set_cons_zero, List.set_cons_succ]
          refine h_yes 12 33 (v := .pointer (some ⟨rb, 0, none⟩)) rfl rfl (by kernel_rfl) (by kernel_rfl) (by kernel_rfl) (fun _ _ _ h => h) (by kernel_rfl) (by assumption) ?_ ?_
          · (intro w hSw; (try dsimp only at hSw); obtain ⟨hS1, hS2⟩ := hSw; go_simp; try first | with_reducible rfl | rfl)
          try simp only [Act.put, List.setIfInBounds_toArray, List.set_cons_zero, List.set_cons_succ]
          obtain ⟨old, ho4, hf4⟩ := blk_cell w4 rb 0 _ _ hB4 (by simp)
          have HB4 := Lib.hid hB4
          have HOWN4 := Lib.hid hown4
          have HG4 := Lib.hid hg4
          clear hB4 hown4 hgrow4 hnil4 hg4
          refine h_step 13 rfl (by kernel_rfl) (by kernel_rfl) (fun K hK => ?_)
          go_simp
          refine hK.out _ _ ⟨?_, ?_⟩ (fun hHeld => ?_)
          · exact (Below.heap_setCell w4 _ _ t htr).trans hct4
          · exact (World.cell?_of_block (a := ⟨t, 0, none⟩) (Below.heap_setCell w4 _ _ t htr)).trans hcell4
          clear hK K
          refine wpAnyH_done (by kernel_rfl) ?_ _
          have HG5 := Lib.hid ((own_below HG1.out HG4.out hpb).trans (set_grown w4 ⟨rb, 0, none⟩ (.slice (some ⟨g4, 0, none⟩) (k + 1) cap4)))
          have HB5 := Lib.hid (HB4.out.set0 (.slice (some ⟨g4, 0, none⟩) (k + 1) cap4))
          have hown5 : (w4.setCell ⟨rb, 0, none⟩ (.slice (some ⟨g4, 0, none⟩) (k + 1) cap4)).ownsRow w.heap.size 22 1 (.slice (some ⟨g4, 0, none⟩) (k + 1) cap4) (k + 1) (pickV (m ++ [v])) := by
            have h5 := own_grown HOWN4.out (set_grown w4 ⟨rb, 0, none⟩ (.slice (some ⟨g4, 0, none⟩) (k + 1) cap4)) (fun k' e => by cases e; exact hrl)
            unfold pickV at *
            rw [List.map_append]; exact h5
          have HP5 : Hid (pickL (ws.take (k + 1)) = some (m ++ [v])) := Lib.hid (by rw [HSN.out, pickL_app, HP.out, hq])
          go_wp2
          go_roundw
          case rel => exact ⟨k + 1, m ++ [v], _, by go_num, by omega, HG5.out, HB5, by simp [hm], hown5, HP5⟩
          case measure => simp [intOf]; omega
    · have hke : k = n := by omega
      subst hke
      go_wp2
      go_ret
      have hp : pickL ws = some m := by
        have := HP.out
        rw [List.take_of_length_le (by have := HN.out; omega)] at this; exact this
      exact ⟨by rw [hp]; rfl, hg, pv, HB.out, fun l hl => by rw [hp] at hl; cases hl; rw [hm]; exact hown⟩
end Go.Proofs.YthfnjphmodcnoaaDoor

