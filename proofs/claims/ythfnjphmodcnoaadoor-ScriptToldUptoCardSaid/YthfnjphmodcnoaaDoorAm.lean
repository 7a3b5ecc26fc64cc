/- Contract of script.Parse. -/
import Derived.Test.YthfnjphmodcnoaaDoorAn
namespace Go.Proofs.YthfnjphmodcnoaaDoor
open Go.RowKit Go.Maps
set_option linter.unusedSimpArgs false
set_option linter.unusedVariables false

theorem split_mem (c : UInt8) : ∀ (l z : List UInt8), z ∈ splitP c l → z.length ≤ l.length
  | [], z, h => by simp [splitP] at h; subst h; simp
  | b :: m, z, h => by
    have ih := split_mem c m
    unfold splitP at h
    split at h
    · rcases List.mem_cons.1 h with rfl | h
      · simp
      · have := ih z h; simp; omega
    · split at h
      · simp at h; subst h; simp
      · rename_i h0 t e
        rw [e] at ih
        rcases List.mem_cons.1 h with rfl | h
        · have := ih h0 (by simp); simp; omega
        · have := ih z (by simp [h]); simp; omega
theorem lines_mem (l z : List UInt8) (h : z ∈ (linesP l).1) : z.length ≤ l.length := by
  obtain ⟨i, hi, rfl⟩ := List.getElem_of_mem h
  have := linesP_sub l i _ (List.getElem?_eq_getElem hi)
  exact split_mem 10 l _ (List.mem_of_getElem? this)
theorem lines_len (l : List UInt8) : (linesP l).1.length ≤ l.length + 1 := by
  have := (split_len 10 l).2
  unfold linesP
  split
  · simp
  · split
    · simp; omega
    · exact this
theorem zmap (w : World) : (zeroValue 59).run Tryd.prog w = .ok .nilFunc w := by kernel_rfl
theorem zbool (w : World) : (zeroValue 4).run Tryd.prog w = .ok (.bool false) w := by kernel_rfl
theorem cellAt_block {w w' : World} {B : Nat} {x : Value} {rb o : Nat} (h : CellAt w B x rb o) (hb : ∀ c, B ≤ c → c < w.heap.size → w'.heap[c]? = w.heap[c]?) : CellAt w' B x rb o := by
  obtain ⟨c, h1, h2, h3⟩ := h
  exact ⟨c, h1, h2, (hb c h2 (Array.getElem?_eq_some_iff.1 h3).1).trans h3⟩
theorem Fr.to_below' {rb ms r0 : Nat} {w0 w w' : World} (h : Fr rb ms w w') (hb : Below r0 w0 w) (h0 : r0 ≤ w.heap.size) (h1 : r0 ≤ rb) (h2 : r0 ≤ ms) : Below r0 w0 w' :=
  hb.trans ⟨h.os, h.tape, h.output, h.size, fun k hk => h.block k (by omega) (by omega) (by omega)⟩
theorem own_r0 {W : World} {r0 base n : Nat} {v : Value} {xs : List Value} (h : W.ownsRow base 22 1 v n xs) (hr : R0 W r0) (a b c d : Value) :
    World.ownsRow ((((W.setCell ⟨r0, 0, none⟩ a).setCell ⟨r0, 1, none⟩ b).setCell ⟨r0, 2, none⟩ c).setCell ⟨r0, 3, none⟩ d) base 22 1 v n xs := by
  refine ⟨h.1, ?_⟩
  rcases h.2 with h2 | ⟨g, cap, cur, e1, e2, e3, e4⟩
  · exact .inl h2
  · have hne : g ≠ r0 := by
      rintro rfl
      unfold R0 at hr
      rw [hr] at e3
      injection e3 with e3
      injection e3 with e3 e5
      exact absurd e5 (by decide)
    refine .inr ⟨g, cap, cur, e1, e2, ?_, e4⟩
    rw [Below.heap_setCell _ _ _ _ hne, Below.heap_setCell _ _ _ _ hne, Below.heap_setCell _ _ _ _ hne, Below.heap_setCell _ _ _ _ hne]
    exact e3
theorem kwP_lt {x : List UInt8} {q : Nat} (h : kwP x = some q) : q < 4 := by
  unfold kwP at h
  repeat' split at h
  all_goals first | (cases h; omega) | cases h
theorem own_nocells {w w' : World} {base m : Nat} {e : TypeId} {size : Nat} {v : Value} {n : Nat} {xs : List Value} (h : w.ownsRow base e size v n xs) (hg : w.grownBy w' (some m)) (hr : ∀ v t f, w.heap[m]? ≠ some (.cells v t f)) : w'.ownsRow base e size v n xs := by
  refine ⟨h.1, ?_⟩
  rcases h.2 with h2 | ⟨g, cap, cur, a, b, c, d⟩
  · exact .inl h2
  · exact .inr ⟨g, cap, cur, a, b, (hg.block g (Array.getElem?_eq_some_iff.1 c).1 (fun e => by cases e; exact hr _ _ _ c)).trans c, d⟩
theorem below_rb {w0 w w' : World} {r0 rb : Nat} (h : Below r0 w0 w) (hg : w.grownBy w' (some rb)) (h1 : r0 ≤ w.heap.size) (h2 : r0 ≤ rb) : Below r0 w0 w' :=
  h.grown hg h1 (fun k e => by cases e; exact h2)
set_option maxRecDepth 100000 in
set_option maxHeartbeats 8000000 in
theorem parse_walk (s : ByteArray) (w : World) (h : Laid w) (hs : s.size ≤ 65536) : Calls Tryd.prog 8 #[.string s] w fun e w' => ParsePost w.heap.size (goP (linesP (bl s)).2 (linesP (bl s)).1 0 st0) e w' ∧ Below w.heap.size w w' := by
  have hs1 : (s.size : Int) ≤ 65536 := by omega
  have hs2 : decide ((65536 : Int) < (s.size : Int)) = false := by rw [decide_eq_false_iff_not]; omega
  have HLd := Lib.hid h
  have hsz := h.size
  clear h
  go_enter Tryd.func8, Tryd.ntmps8
  go_wp2_with fail
  obtain ⟨W1, hW1⟩ : ∃ W1, W1 = (w.alloc (.cells #[.slice none 0 0, .int .i64 0, .int .i64 0, .int .i64 0] 27)).alloc (.cells #[.slice none 0 0, .int .i64 10000, .int .i64 10000, .int .i64 0] 52) := ⟨_, rfl⟩
  rw [← hW1]
  have hB1 : Below w.heap.size w W1 := by rw [hW1]; exact ((Below.refl _ _).alloc (Nat.le_refl _) _).alloc (by simp) _
  have hz1 : W1.heap.size = w.heap.size + 2 := by rw [hW1]; simp
  have hR1 : RBlk W1 (w.heap.size + 1) (.slice none 0 0) 10000 10000 0 := by
    unfold RBlk
    rw [hW1]
    show (((w.heap.push _).push _))[w.heap.size + 1]? = _
    rw [show w.heap.size + 1 = (w.heap.push (Obj.cells #[.slice none 0 0, .int .i64 0, .int .i64 0, .int .i64 0] 27 (0, 0))).size by simp]
    rw [Array.getElem?_push_size]
  have hr1 : W1.heap[w.heap.size]? = some (.cells #[.slice none 0 0, .int .i64 0, .int .i64 0, .int .i64 0] 27 (0, 0)) := by
    rw [hW1]
    show (((w.heap.push _).push _))[w.heap.size]? = _
    rw [Array.getElem?_push, if_neg (by simp), Array.getElem?_push_size]
  clear hW1
  have hLd1 := HLd.out.below hB1
  obtain ⟨r0, hr0⟩ : ∃ r0, w.heap.size = r0 := ⟨_, rfl⟩
  rw [hr0] at hB1 hz1 hR1 hr1 hsz ⊢
  obtain ⟨rb, hrb⟩ : ∃ rb, r0 + 1 = rb := ⟨_, rfl⟩
  rw [hrb] at hR1 ⊢
  have Hr0 := Lib.hid hr0
  clear hr0
  refine (lines_c s W1 hLd1 (by omega)).mono ?_
  intro e W2 hW2
  obtain ⟨L, hL⟩ : ∃ L, L = (linesP (bl s)).1 := ⟨_, rfl⟩
  obtain ⟨en, hen⟩ : ∃ en, en = (linesP (bl s)).2 := ⟨_, rfl⟩
  obtain ⟨n, hn⟩ : ∃ n, n = L.length := ⟨_, rfl⟩
  obtain ⟨p, cap, rfl, hp, hB2⟩ : ∃ p cap, e = .returned (.tuple #[.slice p n cap, .bool en]) ∧ (n = 0 ∨ ∃ lb, p = some ⟨lb, 0, none⟩ ∧ W1.heap.size ≤ lb ∧ lb < W2.heap.size ∧ Strs W2 lb 0 L) ∧ Below W1.heap.size W1 W2 := by
    rcases hW2 with ⟨h1, rfl, rfl⟩ | ⟨h1, rfl, rfl⟩
    · have hz : L = [] ∧ en = true := by rw [hL, hen, h1]; exact ⟨rfl, rfl⟩
      refine ⟨none, 0, ?_, .inl ?_, Below.refl _ _⟩
      · rw [hn, hz.1, hz.2]; rfl
      · rw [hn, hz.1]; rfl
    · refine ⟨_, _, by rw [hn, hL, hen], .inr ⟨_, rfl, Nat.le_refl _, by simp, ?_⟩, (Below.refl _ _).alloc (Nat.le_refl _) _⟩
      rw [hL]
      exact strs_sub (strs_alloc W1 _ _) (linesP_sub _)
  clear hW2
  have HL := Lib.hid hL
  have HEN := Lib.hid hen
  have HN := Lib.hid hn
  have hLl : ∀ z ∈ L, z.length ≤ 65536 := fun z hz => by have := lines_mem (bl s) z (hL ▸ hz); rw [bl_len] at this; omega
  have hnl : n ≤ 65537 := by have := lines_len (bl s); rw [bl_len, ← hL, ← hn] at this; omega
  have HLL := Lib.hid hLl
  have HP := Lib.hid hp
  clear hL hen hn hLl hp
  have hs12 := hB2.size
  obtain ⟨ms, hms⟩ : ∃ ms, ms = W2.heap.size := ⟨_, rfl⟩
  have hfm := fm_made W2 (.bool false)
  have HR2 : Hid (RBlk (W2.alloc (.map #[] 0)) rb (.slice none 0 0) 10000 10000 0) := Lib.hid ((hR1.grown (below_grown hB2 none) (by simp)).grown (World.grownBy_alloc W2 _ none) (by simp))
  have Hr2 : Hid ((W2.alloc (.map #[] 0)).heap[r0]? = some (.cells #[.slice none 0 0, .int .i64 0, .int .i64 0, .int .i64 0] 27 (0, 0))) := Lib.hid ((Below.heap_alloc W2 _ r0 (by omega)).trans ((hB2.block r0 (by omega)).trans hr1))
  have hmk : (Instr.makeMap 55 none).run Tryd.prog W2 = .ok (.map (some W2.heap.size)) (W2.alloc (.map #[] 0)) := by kernel_rfl
  obtain ⟨W3, hW3⟩ : ∃ W3, W2.alloc (.map #[] 0) = W3 := ⟨_, rfl⟩
  rw [hW3] at HR2 Hr2 hfm hmk
  rw [← hms] at hfm hmk
  go_wp2_with fail
  have hz3 : W3.heap.size = ms + 1 := by rw [← hW3, hms]; simp
  have hB3 : Below r0 w W3 := by
    rw [← hW3]
    refine (hB1.trans (hB2.mono (by omega))).alloc (by omega) _
  clear hR1 hr1 hB1 hB2
  refine (setters_c rb W3).mono ?_
  rintro e W4 ⟨mset, rfl, hset, hB4⟩
  go_wp2_with fail
  rw [← hms]
  have hz4 := hB4.size
  obtain ⟨x1, x2, x3, tb, nn4, hnn4, hmset, hFset, hc1, hc2, hc3, htb, htc⟩ := hset
  have HFS := Lib.hid hFset
  have HC1 := Lib.hid hc1
  have HC2 := Lib.hid hc2
  have HC3 := Lib.hid hc3
  have HTC := Lib.hid htc
  have hmsl := fm_lt hFset
  have htbl := (Array.getElem?_eq_some_iff.1 htc).1
  have HF4 : Hid (FM W4 ms (.bool false) 0 (seenG st0)) := Lib.hid (by
    have e : seenG st0 = fun _ => none := by funext key; simp [seenG, setG, st0]
    rw [e]; exact fm_below hfm hB4)
  have HR4 := Lib.hid (HR2.out.grown (below_grown hB4 none) (by simp))
  have Hr4 : Hid (W4.heap[r0]? = some (.cells #[.slice none 0 0, .int .i64 0, .int .i64 0, .int .i64 0] 27 (0, 0))) := Lib.hid ((hB4.block r0 (by omega)).trans Hr2.out)
  have HB4 : Hid (Below r0 w W4) := Lib.hid (hB3.trans (hB4.mono (by omega)))
  have HP4 : Hid (n = 0 ∨ ∃ lb, p = some ⟨lb, 0, none⟩ ∧ lb ≠ rb ∧ lb ≠ ms ∧ lb < W4.heap.size ∧ Strs W4 lb 0 L) := Lib.hid (by
    rcases HP.out with h0 | ⟨lb, h1, h2, h3, h4⟩
    · exact .inl h0
    · refine .inr ⟨lb, h1, by omega, by omega, by omega, strs_same h4 ?_⟩
      rw [hB4.block lb (by omega), ← hW3]
      exact Below.heap_alloc W2 _ lb h3)
  have HL4 := Lib.hid ((HLd.out.below (Hr0.out ▸ HB4.out)))
  have hz4' : ms + 1 ≤ W4.heap.size := by omega
  have hrm : rb < ms := by omega
  have hz4'' : r0 ≤ W4.heap.size := by omega
  have hr0ms : r0 < ms := by omega
  have HMS := Lib.hid hms
  clear hms
  clear hFset hc1 hc2 hc3 htc hfm Hr2 HR2 hW3 hmk hB3 hB4 HP hLd1
  obtain ⟨R, hR⟩ : ∃ R, R = goP en L 0 st0 := ⟨_, rfl⟩
  have HRR : Hid (R = goP (linesP (bl s)).2 (linesP (bl s)).1 0 st0) := Lib.hid (by rw [hR, HL.out, HEN.out])
  go_loopw [32] (fun i wr => ∃ (k : Nat) (st : PSt) (pv : Value) (nn : Nat), i = .int .i64 k ∧ k ≤ n ∧ nn ≤ k ∧ Hid (Fr rb ms W4 wr) ∧ Hid (RBlk wr rb pv (st.f : Int) (st.c : Int) (st.e : Int)) ∧ Hid (FM wr ms (.bool false) nn (seenG st)) ∧ Hid (wr.ownsRow r0 22 1 pv st.p.length (pickV st.p)) ∧ Hid (st.s4 = false → pv = .slice none 0 0) ∧ Hid (goP en (L.drop k) k st = R)) (fun i _ => n - (intOf i).toNat)
  case atStart => exact ⟨0, st0, _, 0, rfl, by omega, by omega, Lib.hid (Fr.refl _ _ _), HR4, HF4, Lib.hid (World.ownsRow_nil _ _ _ _), Lib.hid (fun _ => rfl), Lib.hid hR.symm⟩
  case round =>
    obtain ⟨k, st, pv, nn, rfl, hk, hnn, HFR, HRB, HFM, HOWN, HPV, HGO⟩ := hrel
    have hszr := HFR.out.size
    by_cases hlt : k < n
    · have hlti : (k : Int) < (n : Int) := by omega
      have HLr := Lib.hid (HFR.out.laid HL4.out (by omega) (by omega))
      obtain ⟨x, hx⟩ : ∃ x, L[k]? = some x := ⟨_, List.getElem?_eq_getElem (by have := HN.out; omega)⟩
      obtain ⟨lb, rfl, hlb1, hlb2, hlb3, hstr⟩ : ∃ lb, p = some ⟨lb, 0, none⟩ ∧ lb ≠ rb ∧ lb ≠ ms ∧ lb < W4.heap.size ∧ Strs W4 lb 0 L := by
        rcases HP4.out with h0 | h0
        · omega
        · exact h0
      have hcx : wr.cell? ⟨lb, k, none⟩ = some (.string ⟨x.toArray⟩) := by
        have := strs_same hstr (HFR.out.block lb hlb3 hlb1 hlb2) k x hx
        rw [Nat.zero_add] at this; exact this
      have hxl := HLL.out x (List.mem_of_getElem? hx)
      have hdrop : L.drop k = x :: L.drop (k + 1) := by
        obtain ⟨hi, rfl⟩ := List.getElem?_eq_some_iff.1 hx
        exact List.drop_eq_getElem_cons hi
      have hgo := HGO.out
      rw [hdrop] at hgo
      have hemp : (L.drop (k + 1)).isEmpty = (((k : Int) == IntKind.i64.wrap ((n : Int) - 1))) := by
        have hw : IntKind.i64.wrap ((n : Int) - 1) = (n : Int) - 1 := by rw [IntKind.wrap_i64]; omega
        rw [hw, Bool.eq_iff_iff, List.isEmpty_iff, List.drop_eq_nil_iff, beq_iff_eq]
        have := HN.out; omega
      have hbx : bl ⟨x.toArray⟩ = x := by simp [bl]
      have hsp := split_c 32 ⟨x.toArray⟩ wr HLr.out (show x.toArray.size ≤ _ by simp; omega)
      rw [hbx] at hsp
      obtain ⟨w0, rest, hws⟩ : ∃ w0 rest, splitP 32 x = w0 :: rest := by
        cases h : splitP 32 x with
        | nil => exact absurd h (splitP_ne _ _)
        | cons a b => exact ⟨a, b, rfl⟩
      have hwl : ∀ z ∈ w0 :: rest, z.length ≤ 65536 := fun z hz => by
        have := split_mem 32 x z (hws ▸ hz); omega
      have hwn : (w0 :: rest).length ≤ 65537 := by
        have := (split_len 32 x).2
        rw [hws] at this; omega
      unfold goP at hgo
      rw [hws] at hsp hgo
      simp only [List.headD_cons, List.tail_cons] at hgo
      have HSP := Lib.hid hsp
      have HWL := Lib.hid hwl
      clear hx hstr hdrop hbx hsp hws HGO hwl
      obtain ⟨W5, hW5⟩ : ∃ W5, W5 = wr.alloc (.cells (strCells (w0 :: rest)) 9) := ⟨_, rfl⟩
      have hB5 : Below wr.heap.size wr W5 := by rw [hW5]; exact (Below.refl _ _).alloc (Nat.le_refl _) _
      have hS5 : Strs W5 wr.heap.size 0 (w0 :: rest) := by rw [hW5]; exact strs_alloc _ _ _
      have hz5 : wr.heap.size < W5.heap.size := by rw [hW5]; simp
      have HSP : Hid (Calls Tryd.prog 21 #[.string ⟨x.toArray⟩, .string ⟨#[32]⟩] wr fun e w' => e = .returned (.slice (some ⟨wr.heap.size, 0, none⟩) (rest.length + 1) (rest.length + 1)) ∧ w' = W5) := Lib.hid (HSP.out.mono fun e w' ⟨h1, h2⟩ => ⟨h1, h2.trans hW5.symm⟩)
      have HFR5 := Lib.hid (HFR.out.trans (Fr.below (rb := rb) (ms := ms) hB5))
      have HRB5 := Lib.hid (HRB.out.grown (below_grown hB5 none) (by simp))
      have HFM5 := Lib.hid (fm_below HFM.out hB5)
      have HOWN5 := Lib.hid (ownsRow_below' HOWN.out hB5)
      have HL5 := Lib.hid (HLr.out.below hB5)
      have hc0 : W5.cell? ⟨wr.heap.size, 0, none⟩ = some (.string ⟨w0.toArray⟩) := hS5 0 w0 rfl
      have HS5 := Lib.hid hS5
      clear hW5 hB5 HFR HRB HFM HOWN HLr hS5
      have hkl : (⟨w0.toArray⟩ : ByteArray).size ≤ maxLen := by
        have h1 := HWL.out w0 (by simp)
        show w0.toArray.size ≤ maxLen
        simp [maxLen]; omega
      have hb0 : bl ⟨w0.toArray⟩ = w0 := by simp [bl]
      have hFs5 := fm_same HFS.out (HFR5.out.block mset hmsl (by omega) (by omega))
      have hl1 := (fm_look hFs5 setT zmap ⟨w0.toArray⟩ hkl).1
      have hl2 := (fm_look HFM5.out seenT zbool ⟨w0.toArray⟩ hkl).2
      rw [hb0, setG_kw] at hl1
      rw [hb0] at hl2
      clear hFs5 hb0
      cases hkw : kwP w0 with
      | none =>
        rw [hkw] at hgo hl1
        simp only [Option.map_none, Option.getD_none, Option.isSome_none] at hl1
        simp only [] at hgo
        clear hl2 hkl hc0
        have hgo := Lib.hid hgo
        have HR0 : Hid (R0 W5 r0) := Lib.hid ((HFR5.out.block r0 (by omega) (by omega) (by omega)).trans Hr4.out)
        have HBF := Lib.hid (HFR5.out.to_below' HB4.out hz4'' (by omega) (by omega))
        obtain ⟨c0, c1, c2, c3, f0, f1, f2, f3⟩ := HR0.out.facts
        have hc0 : W5.cell? ⟨wr.heap.size, 0, none⟩ = some (.string ⟨w0.toArray⟩) := HS5.out 0 w0 rfl
        have hkw1 : IntKind.i64.wrap ((k : Int) + 1) = ((k + 1 : Nat) : Int) := by rw [IntKind.wrap_i64]; omega
        go_wp2_with (first | (go_at_call 21; refine (HSP.out).mono ?_; rintro e w' ⟨rfl, rfl⟩))
        (try simp only [Exit.inBlock, Exit.then])
        refine parse_ret _ _ _ HR0.out _ _ _ _ _ _ rfl rfl rfl ?_
        rw [← HRR.out, ← hgo.out, Hr0.out]
        exact ⟨rfl, R0.below HBF.out _ _ _ _⟩
      | some q =>
        have hq4 := kwP_lt hkw
        rw [hkw] at hgo hl1
        rw [seenG_kw st w0 q hkw] at hl2
        simp only [Option.map_some, Option.getD_some, Option.isSome_some] at hl1
        simp only [] at hgo
        obtain ⟨gv, hgv⟩ : ∃ gv, gv = (if q = 0 then x1 else if q = 1 then x2 else if q = 2 then x3 else closP tb) := ⟨_, rfl⟩
        rw [← hgv] at hl1
        have HR0 : Hid (R0 W5 r0) := Lib.hid ((HFR5.out.block r0 (by omega) (by omega) (by omega)).trans Hr4.out)
        have HBF := Lib.hid (HFR5.out.to_below' HB4.out hz4'' (by omega) (by omega))
        have hc0 : W5.cell? ⟨wr.heap.size, 0, none⟩ = some (.string ⟨w0.toArray⟩) := HS5.out 0 w0 rfl
        have hkw1 : IntKind.i64.wrap ((k : Int) + 1) = ((k + 1 : Nat) : Int) := by rw [IntKind.wrap_i64]; omega
        have HKL := Lib.hid hkl
        have HGV := Lib.hid hgv
        have HKW := Lib.hid hkw
        clear hkl hgv hkw
        cases hsn : seenP st q with
        | true =>
          simp only [hsn, if_true, Option.getD_some, tv] at hl2
          rw [hsn, if_pos rfl] at hgo
          have hgo := Lib.hid hgo
          obtain ⟨c0, c1, c2, c3, f0, f1, f2, f3⟩ := HR0.out.facts
          clear hsn
          go_wp2_with (first | (go_at_call 21; refine (HSP.out).mono ?_; rintro e w' ⟨rfl, rfl⟩))
          (try simp only [Exit.inBlock, Exit.then])
          refine parse_ret _ _ _ HR0.out _ _ _ _ _ _ rfl rfl rfl ?_
          rw [← HRR.out, ← hgo.out, Hr0.out]
          exact ⟨rfl, R0.below HBF.out _ _ _ _⟩
        | false =>
          simp only [hsn, Bool.false_eq_true, if_false, Option.getD_none] at hl2
          rw [hsn, if_neg (by simp)] at hgo
          have hwn1 : IntKind.i64.wrap ((n : Int) - 1) = (n : Int) - 1 := by rw [IntKind.wrap_i64]; omega
          rw [hwn1] at hemp
          have HSN := Lib.hid hsn
          clear hsn
          cases hb1 : (L.drop (k + 1)).isEmpty && !en with
          | true =>
            rw [hb1, if_pos rfl] at hgo
            obtain ⟨hb2, hb3⟩ := Bool.and_eq_true_iff.1 hb1
            obtain rfl : en = false := by simpa using hb3
            have hkn : ((k : Int) == (n : Int) - 1) = true := hemp.symm.trans hb2
            obtain rfl : n = k + 1 := by have : (k : Int) = (n : Int) - 1 := by simpa using hkn
                                         omega
            clear hkn hwn1
            have hgo := Lib.hid hgo
            obtain ⟨c0, c1, c2, c3, f0, f1, f2, f3⟩ := HR0.out.facts
            clear hb1 hb2 hb3 hemp
            go_wp2_with (first | (go_at_call 21; refine (HSP.out).mono ?_; rintro e w' ⟨rfl, rfl⟩))
            (try simp only [Exit.inBlock, Exit.then])
            refine parse_ret _ _ _ HR0.out _ _ _ _ _ _ rfl rfl rfl ?_
            rw [← HRR.out, ← hgo.out, Hr0.out]
            exact ⟨rfl, R0.below HBF.out _ _ _ _⟩
          | false =>
            rw [hb1, if_neg (by simp)] at hgo
            have hr5 : r0 < W5.heap.size := (Array.getElem?_eq_some_iff.1 HR0.out).1
            have hms5 := fm_lt HFM5.out
            have hW4 : W4.heap.size ≤ W5.heap.size := by omega
            obtain ⟨off, hS1, hsl⟩ : ∃ off, Strs W5 wr.heap.size off rest ∧ (Instr.sliceAt 25 (.slice (some ⟨wr.heap.size, 0, none⟩) (rest.length + 1) (rest.length + 1)) (some (.int .i64 1)) none none).run Tryd.prog W5 = .ok (.slice (some ⟨wr.heap.size, off, none⟩) rest.length rest.length) W5 := by
              by_cases hr : rest.length = 0
              · obtain rfl : rest = [] := List.length_eq_zero_iff.1 hr
                exact ⟨0, fun i z hz => by simp at hz, by go_simp⟩
              · refine ⟨1, fun i z hz => ?_, ?_⟩
                · have := HS5.out (i + 1) z (by simpa using hz)
                  rw [show 1 + i = 0 + (i + 1) by omega]; exact this
                · have hr' : 0 < rest.length := by omega
                  go_simp
                  try simp [hr]
                  try (intro hlt0; exfalso; omega)
            have HS1 := Lib.hid hS1
            clear hS1
            by_cases hq3 : q < 3
            · obtain ⟨c, rfl, hcB, hcc⟩ : CellAt W5 W3.heap.size gv rb (q + 1) := by
                have key : ∀ x o, CellAt W4 W3.heap.size x rb o → CellAt W5 W3.heap.size x rb o := fun x o h => by
                  obtain ⟨c, h1, h2, h3⟩ := h
                  exact ⟨c, h1, h2, (HFR5.out.block c (Array.getElem?_eq_some_iff.1 h3).1 (by omega) (by omega)).trans h3⟩
                rw [HGV.out]
                match q, hq3 with
                | 0, _ => exact key _ _ HC1.out
                | 1, _ => exact key _ _ HC2.out
                | 2, _ => exact key _ _ HC3.out
              have HB := Lib.hid ((do1_c wr.heap.size off rest.length c rb r0 q st rest W5 HL5.out HS1.out (fun z hz => HWL.out z (by simp [hz])) (by simp at hwn; omega) hq3 hcc pv HRB5.out HOWN5.out HPV.out).mono fun e W6 h => behind h HR0.out (by omega) HFM5.out (by omega) hc0 (by omega) HKL.out (by unfold maxLen; omega))
              simp only [clos] at hl1
              clear hcc hq3
              cases hb2 : (L.drop (k + 1)).isEmpty with
              | true =>
                obtain rfl : en = true := by rw [hb2] at hb1; simpa using hb1
                have hkn : ((k : Int) == (n : Int) - 1) = true := hemp.symm.trans hb2
                have hnk : (n : Int) - 1 = (k : Int) := by have : (k : Int) = (n : Int) - 1 := by simpa using hkn
                                                           omega
                clear hkn hemp hb1 hb2
                cases hsq : setQ st rest q with
                | none =>
                  rw [hsq] at hgo HB
                  have hgo := Lib.hid hgo
                  clear hsq
                  have HB : Hid (Calls Tryd.prog 42 #[.slice (some ⟨wr.heap.size, off, none⟩) rest.length rest.length, .pointer (some ⟨c, 0, none⟩)] W5 fun e W6 => e = .returned (.bool false) ∧ Behind W5 W6 rb r0 ms wr.heap.size nn w0 st rest q) := HB
                  go_wp2_with (first | (go_at_call 21; refine (HSP.out).mono ?_; rintro e w' ⟨rfl, rfl⟩) | (go_at_call 42; refine (HB.out).mono ?_; rintro e W6 ⟨rfl, hg, c0, c1, c2, c3, f0, f1, f2, f3, hword, ⟨W7, hput, hF7, hg7⟩, hst⟩))
                  (try simp only [Exit.inBlock, Exit.then])
                  have HR6 : R0 W6 r0 := (hg.block r0 hr5 (fun e => by have := Option.some.inj e; omega)).trans HR0.out
                  have HB6 := Lib.hid (below_rb HBF.out hg (by omega) (by omega))
                  refine parse_ret _ _ _ HR6 _ _ _ _ _ _ rfl rfl rfl ?_
                  rw [← HRR.out, ← hgo.out, Hr0.out]
                  exact ⟨rfl, R0.below HB6.out _ _ _ _⟩
                | some st' =>
                  rw [hsq] at hgo HB
                  have hgo := Lib.hid hgo
                  have HSQ := Lib.hid hsq
                  clear hsq
                  have HB : Hid (Calls Tryd.prog 42 #[.slice (some ⟨wr.heap.size, off, none⟩) rest.length rest.length, .pointer (some ⟨c, 0, none⟩)] W5 fun e W6 => e = .returned (.bool true) ∧ Behind W5 W6 rb r0 ms wr.heap.size nn w0 st rest q) := HB
                  go_wp2_with (first | (go_at_call 21; refine (HSP.out).mono ?_; rintro e w' ⟨rfl, rfl⟩) | (go_at_call 42; refine (HB.out).mono ?_; rintro e W6 ⟨rfl, hg, c0, c1, c2, c3, f0, f1, f2, f3, hword, ⟨W7, hput, hF7, hg7⟩, hst⟩))
                  go_roundw
                  case rel =>
                    obtain ⟨pv', k1, k2, k3⟩ := hst st' HSQ.out
                    have hm6 := fm_same HFM5.out (hg.block ms hms5 (fun e => by have := Option.some.inj e; omega))
                    refine ⟨k + 1, st', pv', nn + 1, by go_num, by omega, by omega, Lib.hid ((HFR5.out.trans (Fr.rb hg)).trans (Fr.ms hg7)), Lib.hid (k1.grown hg7 (by simp; omega)), Lib.hid ?_, Lib.hid (own_nocells k2 hg7 (fm_nocells hm6)), Lib.hid k3, Lib.hid hgo.out⟩
                    rw [← seenG_put st st' w0 q rest HKW.out HSQ.out]; exact hF7
                  case measure => simp [intOf]; omega
              | false =>
                have hkn : ((k : Int) == (n : Int) - 1) = false := hemp.symm.trans hb2
                clear hemp hb1 hb2
                cases hsq : setQ st rest q with
                | none =>
                  rw [hsq] at hgo HB
                  have hgo := Lib.hid hgo
                  clear hsq
                  have HB : Hid (Calls Tryd.prog 42 #[.slice (some ⟨wr.heap.size, off, none⟩) rest.length rest.length, .pointer (some ⟨c, 0, none⟩)] W5 fun e W6 => e = .returned (.bool false) ∧ Behind W5 W6 rb r0 ms wr.heap.size nn w0 st rest q) := HB
                  go_wp2_with (first | (go_at_call 21; refine (HSP.out).mono ?_; rintro e w' ⟨rfl, rfl⟩) | (go_at_call 42; refine (HB.out).mono ?_; rintro e W6 ⟨rfl, hg, c0, c1, c2, c3, f0, f1, f2, f3, hword, ⟨W7, hput, hF7, hg7⟩, hst⟩))
                  (try simp only [Exit.inBlock, Exit.then])
                  have HR6 : R0 W6 r0 := (hg.block r0 hr5 (fun e => by have := Option.some.inj e; omega)).trans HR0.out
                  have HB6 := Lib.hid (below_rb HBF.out hg (by omega) (by omega))
                  refine parse_ret _ _ _ HR6 _ _ _ _ _ _ rfl rfl rfl ?_
                  rw [← HRR.out, ← hgo.out, Hr0.out]
                  exact ⟨rfl, R0.below HB6.out _ _ _ _⟩
                | some st' =>
                  rw [hsq] at hgo HB
                  have hgo := Lib.hid hgo
                  have HSQ := Lib.hid hsq
                  clear hsq
                  have HB : Hid (Calls Tryd.prog 42 #[.slice (some ⟨wr.heap.size, off, none⟩) rest.length rest.length, .pointer (some ⟨c, 0, none⟩)] W5 fun e W6 => e = .returned (.bool true) ∧ Behind W5 W6 rb r0 ms wr.heap.size nn w0 st rest q) := HB
                  go_wp2_with (first | (go_at_call 21; refine (HSP.out).mono ?_; rintro e w' ⟨rfl, rfl⟩) | (go_at_call 42; refine (HB.out).mono ?_; rintro e W6 ⟨rfl, hg, c0, c1, c2, c3, f0, f1, f2, f3, hword, ⟨W7, hput, hF7, hg7⟩, hst⟩))
                  go_roundw
                  case rel =>
                    obtain ⟨pv', k1, k2, k3⟩ := hst st' HSQ.out
                    have hm6 := fm_same HFM5.out (hg.block ms hms5 (fun e => by have := Option.some.inj e; omega))
                    refine ⟨k + 1, st', pv', nn + 1, by go_num, by omega, by omega, Lib.hid ((HFR5.out.trans (Fr.rb hg)).trans (Fr.ms hg7)), Lib.hid (k1.grown hg7 (by simp; omega)), Lib.hid ?_, Lib.hid (own_nocells k2 hg7 (fm_nocells hm6)), Lib.hid k3, Lib.hid hgo.out⟩
                    rw [← seenG_put st st' w0 q rest HKW.out HSQ.out]; exact hF7
                  case measure => simp [intOf]; omega
            · obtain rfl : q = 3 := by omega
              have htc5 : W5.heap[tb]? = some (.cells #[.pointer (some ⟨rb, 0, none⟩)] 50 (0, 0)) := (HFR5.out.block tb htbl (by omega) (by omega)).trans HTC.out
              obtain rfl := HPV.out HSN.out
              obtain rfl : gv = closP tb := HGV.out
              have HB := Lib.hid ((do2_c wr.heap.size off rest.length tb rb r0 st rest W5 HL5.out HS1.out hz5 (by omega) (fun z hz => HWL.out z (by simp [hz])) (by simp at hwn; omega) (by omega) (by omega) htc5 (by omega) HRB5.out).mono fun e W6 h => behind h HR0.out (by omega) HFM5.out (by omega) hc0 (by omega) HKL.out (by unfold maxLen; omega))
              simp only [closP] at hl1
              clear htc5 hq3
              cases hb2 : (L.drop (k + 1)).isEmpty with
              | true =>
                obtain rfl : en = true := by rw [hb2] at hb1; simpa using hb1
                have hkn : ((k : Int) == (n : Int) - 1) = true := hemp.symm.trans hb2
                have hnk : (n : Int) - 1 = (k : Int) := by have : (k : Int) = (n : Int) - 1 := by simpa using hkn
                                                           omega
                clear hkn hemp hb1 hb2
                cases hsq : setQ st rest 3 with
                | none =>
                  rw [hsq] at hgo HB
                  have hgo := Lib.hid hgo
                  clear hsq
                  have HB : Hid (Calls Tryd.prog 43 #[.slice (some ⟨wr.heap.size, off, none⟩) rest.length rest.length, .pointer (some ⟨tb, 0, none⟩)] W5 fun e W6 => e = .returned (.bool false) ∧ Behind W5 W6 rb r0 ms wr.heap.size nn w0 st rest 3) := HB
                  go_wp2_with (first | (go_at_call 21; refine (HSP.out).mono ?_; rintro e w' ⟨rfl, rfl⟩) | (go_at_call 43; refine (HB.out).mono ?_; rintro e W6 ⟨rfl, hg, c0, c1, c2, c3, f0, f1, f2, f3, hword, ⟨W7, hput, hF7, hg7⟩, hst⟩))
                  (try simp only [Exit.inBlock, Exit.then])
                  have HR6 : R0 W6 r0 := (hg.block r0 hr5 (fun e => by have := Option.some.inj e; omega)).trans HR0.out
                  have HB6 := Lib.hid (below_rb HBF.out hg (by omega) (by omega))
                  refine parse_ret _ _ _ HR6 _ _ _ _ _ _ rfl rfl rfl ?_
                  rw [← HRR.out, ← hgo.out, Hr0.out]
                  exact ⟨rfl, R0.below HB6.out _ _ _ _⟩
                | some st' =>
                  rw [hsq] at hgo HB
                  have hgo := Lib.hid hgo
                  have HSQ := Lib.hid hsq
                  clear hsq
                  have HB : Hid (Calls Tryd.prog 43 #[.slice (some ⟨wr.heap.size, off, none⟩) rest.length rest.length, .pointer (some ⟨tb, 0, none⟩)] W5 fun e W6 => e = .returned (.bool true) ∧ Behind W5 W6 rb r0 ms wr.heap.size nn w0 st rest 3) := HB
                  go_wp2_with (first | (go_at_call 21; refine (HSP.out).mono ?_; rintro e w' ⟨rfl, rfl⟩) | (go_at_call 43; refine (HB.out).mono ?_; rintro e W6 ⟨rfl, hg, c0, c1, c2, c3, f0, f1, f2, f3, hword, ⟨W7, hput, hF7, hg7⟩, hst⟩))
                  go_roundw
                  case rel =>
                    obtain ⟨pv', k1, k2, k3⟩ := hst st' HSQ.out
                    have hm6 := fm_same HFM5.out (hg.block ms hms5 (fun e => by have := Option.some.inj e; omega))
                    refine ⟨k + 1, st', pv', nn + 1, by go_num, by omega, by omega, Lib.hid ((HFR5.out.trans (Fr.rb hg)).trans (Fr.ms hg7)), Lib.hid (k1.grown hg7 (by simp; omega)), Lib.hid ?_, Lib.hid (own_nocells k2 hg7 (fm_nocells hm6)), Lib.hid k3, Lib.hid hgo.out⟩
                    rw [← seenG_put st st' w0 3 rest HKW.out HSQ.out]; exact hF7
                  case measure => simp [intOf]; omega
              | false =>
                have hkn : ((k : Int) == (n : Int) - 1) = false := hemp.symm.trans hb2
                clear hemp hb1 hb2
                cases hsq : setQ st rest 3 with
                | none =>
                  rw [hsq] at hgo HB
                  have hgo := Lib.hid hgo
                  clear hsq
                  have HB : Hid (Calls Tryd.prog 43 #[.slice (some ⟨wr.heap.size, off, none⟩) rest.length rest.length, .pointer (some ⟨tb, 0, none⟩)] W5 fun e W6 => e = .returned (.bool false) ∧ Behind W5 W6 rb r0 ms wr.heap.size nn w0 st rest 3) := HB
                  go_wp2_with (first | (go_at_call 21; refine (HSP.out).mono ?_; rintro e w' ⟨rfl, rfl⟩) | (go_at_call 43; refine (HB.out).mono ?_; rintro e W6 ⟨rfl, hg, c0, c1, c2, c3, f0, f1, f2, f3, hword, ⟨W7, hput, hF7, hg7⟩, hst⟩))
                  (try simp only [Exit.inBlock, Exit.then])
                  have HR6 : R0 W6 r0 := (hg.block r0 hr5 (fun e => by have := Option.some.inj e; omega)).trans HR0.out
                  have HB6 := Lib.hid (below_rb HBF.out hg (by omega) (by omega))
                  refine parse_ret _ _ _ HR6 _ _ _ _ _ _ rfl rfl rfl ?_
                  rw [← HRR.out, ← hgo.out, Hr0.out]
                  exact ⟨rfl, R0.below HB6.out _ _ _ _⟩
                | some st' =>
                  rw [hsq] at hgo HB
                  have hgo := Lib.hid hgo
                  have HSQ := Lib.hid hsq
                  clear hsq
                  have HB : Hid (Calls Tryd.prog 43 #[.slice (some ⟨wr.heap.size, off, none⟩) rest.length rest.length, .pointer (some ⟨tb, 0, none⟩)] W5 fun e W6 => e = .returned (.bool true) ∧ Behind W5 W6 rb r0 ms wr.heap.size nn w0 st rest 3) := HB
                  go_wp2_with (first | (go_at_call 21; refine (HSP.out).mono ?_; rintro e w' ⟨rfl, rfl⟩) | (go_at_call 43; refine (HB.out).mono ?_; rintro e W6 ⟨rfl, hg, c0, c1, c2, c3, f0, f1, f2, f3, hword, ⟨W7, hput, hF7, hg7⟩, hst⟩))
                  go_roundw
                  case rel =>
                    obtain ⟨pv', k1, k2, k3⟩ := hst st' HSQ.out
                    have hm6 := fm_same HFM5.out (hg.block ms hms5 (fun e => by have := Option.some.inj e; omega))
                    refine ⟨k + 1, st', pv', nn + 1, by go_num, by omega, by omega, Lib.hid ((HFR5.out.trans (Fr.rb hg)).trans (Fr.ms hg7)), Lib.hid (k1.grown hg7 (by simp; omega)), Lib.hid ?_, Lib.hid (own_nocells k2 hg7 (fm_nocells hm6)), Lib.hid k3, Lib.hid hgo.out⟩
                    rw [← seenG_put st st' w0 3 rest HKW.out HSQ.out]; exact hF7
                  case measure => simp [intOf]; omega
    · have hke : k = n := by omega
      subst hke
      have hgo := HGO.out
      rw [List.drop_of_length_le (by have := HN.out; omega)] at hgo
      unfold goP at hgo
      have HGO2 := Lib.hid hgo
      have HR0 : Hid (R0 wr r0) := Lib.hid ((HFR.out.block r0 (by omega) (by omega) (by omega)).trans Hr4.out)
      have HBF := Lib.hid (HFR.out.to_below' HB4.out hz4'' (by omega) (by omega))
      obtain ⟨c0, c1, c2, c3, f0, f1, f2, f3⟩ := HR0.out.facts
      obtain ⟨a, l, c, rfl⟩ : ∃ a l c, pv = .slice a l c := by
        rcases HOWN.out.2 with ⟨h1, -⟩ | ⟨g, c, -, h1, -⟩
        · exact ⟨_, _, _, h1⟩
        · exact ⟨_, _, _, h1⟩
      obtain ⟨d0, d1, d2, d3⟩ := HRB.out.cell
      clear hgo
      go_wp2
      (try simp only [Exit.inBlock, Exit.then])
      refine parse_ret _ _ _ HR0.out _ _ _ _ _ _ rfl rfl rfl ?_
      rw [← HRR.out, ← HGO2.out, Hr0.out]
      refine ⟨⟨_, rfl, ?_⟩, R0.below HBF.out _ _ _ _⟩
      exact own_r0 HOWN.out HR0.out _ _ _ _
end Go.Proofs.YthfnjphmodcnoaaDoor
