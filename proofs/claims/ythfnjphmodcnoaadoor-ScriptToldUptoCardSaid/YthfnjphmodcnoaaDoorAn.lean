/- What a line of a script does: the closures' contracts in one form. -/
import Derived.Test.YthfnjphmodcnoaaDoorAl
namespace Go.Proofs.YthfnjphmodcnoaaDoor
open Go.RowKit Go.Maps
set_option linter.unusedSimpArgs false
set_option linter.unusedVariables false

theorem ownsRow_base' {w : World} {b b' : Nat} {e : TypeId} {size : Nat} {v : Value} {n : Nat} {xs : List Value} (h : w.ownsRow b e size v n xs) (hb : b' ≤ b) : w.ownsRow b' e size v n xs := by
  refine ⟨h.1, ?_⟩
  rcases h.2 with h2 | ⟨g, cap, cur, a, b, c, d⟩
  · exact .inl h2
  · exact .inr ⟨g, cap, cur, a, Nat.le_trans hb b, c, d⟩
def DoPost (W5 : World) (rb r0 : Nat) (st : PSt) (rest : List (List UInt8)) (q : Nat) (e : Ending) (W6 : World) : Prop :=
  e = .returned (.bool (setQ st rest q).isSome) ∧ W5.grownBy W6 (some rb) ∧ ∀ st', setQ st rest q = some st' → ∃ pv', RBlk W6 rb pv' (st'.f : Int) (st'.c : Int) (st'.e : Int) ∧ W6.ownsRow r0 22 1 pv' st'.p.length (pickV st'.p) ∧ (st'.s4 = false → pv' = .slice none 0 0)
theorem own_kept {w w' : World} {base rb : Nat} {e : TypeId} {size : Nat} {v : Value} {n : Nat} {xs : List Value} (h : w.ownsRow base e size v n xs) (hg : w.grownBy w' (some rb)) (hr : v.ownBlock ≠ some rb) : w'.ownsRow base e size v n xs := by
  refine ⟨h.1, ?_⟩
  rcases h.2 with h2 | ⟨g, cap, cur, a, b, c, d⟩
  · exact .inl h2
  · refine .inr ⟨g, cap, cur, a, b, (hg.block g (Array.getElem?_eq_some_iff.1 c).1 (fun e => hr ?_)).trans c, d⟩
    rw [a, ← e]; rfl
/-- a row of numbers is not the reader's block -/
theorem own_not {w : World} {base rb : Nat} {e : TypeId} {size : Nat} {v : Value} {n : Nat} {xs : List Value} {pv : Value} {f c e0 : Int} (h : w.ownsRow base e size v n xs) (hr : RBlk w rb pv f c e0) (he : e ≠ 52) : v.ownBlock ≠ some rb := by
  rcases h.2 with ⟨rfl, -⟩ | ⟨g, cap, cur, rfl, -, h3, -⟩
  · simp [Value.ownBlock]
  · intro hh
    have : g = rb := Option.some.inj hh
    subst this
    unfold RBlk at hr
    rw [hr] at h3
    injection h3 with h3
    injection h3 with h3 h4
    exact he h4.symm
theorem RBlk.set1 {w : World} {rb : Nat} {pv : Value} {f c e : Int} (h : RBlk w rb pv f c e) (V : Int) : RBlk (w.setCell ⟨rb, 1, none⟩ (.int .i64 V)) rb pv V c e := by
  unfold RBlk at *
  simp only [World.setCell, Array.getElem?_modify, if_true, h]
  rfl
theorem RBlk.set2 {w : World} {rb : Nat} {pv : Value} {f c e : Int} (h : RBlk w rb pv f c e) (V : Int) : RBlk (w.setCell ⟨rb, 2, none⟩ (.int .i64 V)) rb pv f V e := by
  unfold RBlk at *
  simp only [World.setCell, Array.getElem?_modify, if_true, h]
  rfl
theorem RBlk.set3 {w : World} {rb : Nat} {pv : Value} {f c e : Int} (h : RBlk w rb pv f c e) (V : Int) : RBlk (w.setCell ⟨rb, 3, none⟩ (.int .i64 V)) rb pv f c V := by
  unfold RBlk at *
  simp only [World.setCell, Array.getElem?_modify, if_true, h]
  rfl
theorem do1_c (b o cap c rb r0 q : Nat) (st : PSt) (rest : List (List UInt8)) (w : World) (h : Laid w) (hs : Strs w b o rest) (hl : ∀ z ∈ rest, z.length ≤ 65536) (hn : rest.length ≤ 65537) (hq : q < 3)
    (hc : w.heap[c]? = some (.cells #[.pointer (some ⟨rb, q + 1, none⟩)] 87 (0, 0))) (pv : Value) (hR : RBlk w rb pv (st.f : Int) (st.c : Int) (st.e : Int)) (hO : w.ownsRow r0 22 1 pv st.p.length (pickV st.p)) (hpv : st.s4 = false → pv = .slice none 0 0) :
    Calls Tryd.prog 42 #[.slice (some ⟨b, o, none⟩) rest.length cap, .pointer (some ⟨c, 0, none⟩)] w (DoPost w rb r0 st rest q) := by
  refine (set11_c b o cap c rb (q + 1) rest w h hs (fun x hx => by have := hl x (List.mem_of_getElem? hx); omega) (by omega) hc _ _ hR (by simp; omega)).mono ?_
  rintro e w' (⟨h1, rfl, rfl⟩ | ⟨x, V, w1, rfl, rfl, hV, hB, rfl⟩)
  · have hz : setQ st rest q = none := by
      have : oneQ rest = none := by
        unfold oneQ
        match rest, h1 with
        | [], _ => rfl
        | [x], h1 => simp at h1
        | x :: y :: l, _ => rfl
      match q, hq with
      | 0, _ => simp [setQ, this]
      | 1, _ => simp [setQ, this]
      | 2, _ => simp [setQ, this]
    exact ⟨by rw [hz]; rfl, World.grownBy.refl _ _, fun st' h => by rw [hz] at h; cases h⟩
  · have hs1 : (setQ st [x] q).isSome = (numQ x 2147483647).isSome := by
      match q, hq with
      | 0, _ => simp [setQ, oneQ, mostP]
      | 1, _ => simp [setQ, oneQ, mostP]
      | 2, _ => simp [setQ, oneQ, mostP]
    have hR1 := hR.grown (below_grown hB none) (by simp)
    have hO1 := ownsRow_below' hO hB
    have hg1 := set_grown w1 ⟨rb, q + 1, none⟩ (.int .i64 V)
    refine ⟨by rw [hs1], (below_grown hB _).trans hg1, fun st' hst => ?_⟩
    have hO2 := own_kept hO1 hg1 (own_not hO1 hR1 (by decide))
    match q, hq with
    | 0, _ =>
      simp only [setQ, oneQ, mostP, Option.map_eq_some_iff] at hst
      obtain ⟨v, hv, rfl⟩ := hst
      obtain rfl := hV v hv
      exact ⟨pv, hR1.set1 _, hO2, hpv⟩
    | 1, _ =>
      simp only [setQ, oneQ, mostP, Option.map_eq_some_iff] at hst
      obtain ⟨v, hv, rfl⟩ := hst
      obtain rfl := hV v hv
      exact ⟨pv, hR1.set2 _, hO2, hpv⟩
    | 2, _ =>
      simp only [setQ, oneQ, mostP, Option.map_eq_some_iff] at hst
      obtain ⟨v, hv, rfl⟩ := hst
      obtain rfl := hV v hv
      exact ⟨pv, hR1.set3 _, hO2, hpv⟩
theorem do2_c (b o cap t rb r0 : Nat) (st : PSt) (rest : List (List UInt8)) (w : World) (h : Laid w) (hs : Strs w b o rest) (hb : b < w.heap.size) (hbr : b ≠ rb) (hl : ∀ z ∈ rest, z.length ≤ 65536) (hn : rest.length ≤ 65537) (hrb9 : 9 ≤ rb) (hr0 : r0 ≤ w.heap.size)
    (ht : w.heap[t]? = some (.cells #[.pointer (some ⟨rb, 0, none⟩)] 50 (0, 0))) (htr : t ≠ rb) (hR : RBlk w rb (.slice none 0 0) (st.f : Int) (st.c : Int) (st.e : Int)) :
    Calls Tryd.prog 43 #[.slice (some ⟨b, o, none⟩) rest.length cap, .pointer (some ⟨t, 0, none⟩)] w (DoPost w rb r0 st rest 3) := by
  refine (set2_c b o cap t rb rest w h hrb9 hs hb hbr (fun i x hx => by have := hl x (List.mem_of_getElem? hx); omega) (by omega) _ _ _ ht htr hR).mono ?_
  rintro e w' ⟨rfl, hg, pv, hR', hO⟩
  refine ⟨by simp [setQ], hg, fun st' hst => ?_⟩
  simp only [setQ, Option.map_eq_some_iff] at hst
  obtain ⟨l, hl, rfl⟩ := hst
  exact ⟨pv, hR', ownsRow_base' (hO l hl) hr0, fun e => by simp at e⟩
/-- the cells of the result's row -/
def R0 (W : World) (r0 : Nat) : Prop := W.heap[r0]? = some (.cells #[.slice none 0 0, .int .i64 0, .int .i64 0, .int .i64 0] 27 (0, 0))
theorem R0.facts {W : World} {r0 : Nat} (h : R0 W r0) : W.cell? ⟨r0, 0, none⟩ = some (.slice none 0 0) ∧ W.cell? ⟨r0, 1, none⟩ = some (.int .i64 0) ∧ W.cell? ⟨r0, 2, none⟩ = some (.int .i64 0) ∧ W.cell? ⟨r0, 3, none⟩ = some (.int .i64 0) ∧
    W.frozen? ⟨r0, 0, none⟩ = false ∧ W.frozen? ⟨r0, 1, none⟩ = false ∧ W.frozen? ⟨r0, 2, none⟩ = false ∧ W.frozen? ⟨r0, 3, none⟩ = false := by
  unfold R0 at h
  unfold World.cell? World.frozen?
  rw [h]
  refine ⟨rfl, rfl, rfl, rfl, ?_, ?_, ?_, ?_⟩ <;> simp
theorem R0.set {W : World} {r0 : Nat} (h : R0 W r0) (a b c d : Value) : ((((W.setCell ⟨r0, 0, none⟩ a).setCell ⟨r0, 1, none⟩ b).setCell ⟨r0, 2, none⟩ c).setCell ⟨r0, 3, none⟩ d).heap[r0]? = some (.cells #[a, b, c, d] 27 (0, 0)) := by
  unfold R0 at h
  simp only [World.setCell, Array.getElem?_modify, if_true, h, Option.map_some]
  rfl
theorem R0.below {w W : World} {r0 : Nat} (h : Below r0 w W) (a b c d : Value) : Below r0 w ((((W.setCell ⟨r0, 0, none⟩ a).setCell ⟨r0, 1, none⟩ b).setCell ⟨r0, 2, none⟩ c).setCell ⟨r0, 3, none⟩ d) :=
  (((h.setCell (Nat.le_refl _) _).setCell (Nat.le_refl _) _).setCell (Nat.le_refl _) _).setCell (Nat.le_refl _) _
theorem results_cell2 {fn : Func} {p u v : Tmp} {ty : TypeId} {P : Program} (h : fn.results = #[.cell p ty, .tmp u, .tmp v]) (tmps : Array Value) (w : World) (g : Nat) (cs : Array Value)
    (hp : tmps.getD p undef = .pointer (some ⟨g, 0, none⟩)) (hl : (loadVar ty ⟨g, 0, none⟩).run P w = .ok (.agg cs) w) :
    (results fn tmps).run P w = .ok (.tuple #[.agg cs, tmps.getD u undef, tmps.getD v undef]) w := by
  have hp' : tmps[p]?.getD undef = .pointer (some ⟨g, 0, none⟩) := by simpa using hp
  simp [results, h, hp', asAddr, hl]
theorem scLoad (w : World) (g : Nat) (t : TypeId) (cs : Array Value) (fr : Nat × Nat) (hg : w.heap[g]? = some (.cells cs t fr)) (hs : cs.size = 4) : (loadVar 27 ⟨g, 0, none⟩).run Tryd.prog w = .ok (.agg cs) w :=
  run_loadVar_row w g t 27 cs fr _ hg (show (Tryd.prog).underlying 27 = some (.struct _) from Tryd.underlying27) rfl (by rw [hs]; kernel_rfl)
theorem parse_ret {Q : Ending → World → Prop} (tmps : Array Value) (W : World) (r0 : Nat) (hR : R0 W r0) (a b c d l e : Value) (h2 : tmps.getD 2 undef = .pointer (some ⟨r0, 0, none⟩)) (h3 : tmps.getD 3 undef = l) (h4 : tmps.getD 4 undef = e)
    (h : Q (.returned (.tuple #[.agg #[a, b, c, d], l, e])) ((((W.setCell ⟨r0, 0, none⟩ a).setCell ⟨r0, 1, none⟩ b).setCell ⟨r0, 2, none⟩ c).setCell ⟨r0, 3, none⟩ d)) :
    bodyPost Tryd.prog Tryd.f8 Q .ret ⟨tmps, []⟩ ((((W.setCell ⟨r0, 0, none⟩ a).setCell ⟨r0, 1, none⟩ b).setCell ⟨r0, 2, none⟩ c).setCell ⟨r0, 3, none⟩ d) := by
  refine bodyPost_ret (results_cell2 (show Tryd.f8.results = #[.cell 2 27, .tmp 3, .tmp 4] from rfl) tmps _ r0 _ h2 (scLoad _ _ _ _ _ (hR.set a b c d) rfl)) rfl ?_
  rw [h3, h4]
  exact h
/-- what stands behind a line's word -/
structure Behind (W5 W6 : World) (rb r0 ms b nn : Nat) (w0 : List UInt8) (st : PSt) (rest : List (List UInt8)) (q : Nat) : Prop where
  g : W5.grownBy W6 (some rb)
  c0 : W6.cell? ⟨r0, 0, none⟩ = some (.slice none 0 0)
  c1 : W6.cell? ⟨r0, 1, none⟩ = some (.int .i64 0)
  c2 : W6.cell? ⟨r0, 2, none⟩ = some (.int .i64 0)
  c3 : W6.cell? ⟨r0, 3, none⟩ = some (.int .i64 0)
  f0 : W6.frozen? ⟨r0, 0, none⟩ = false
  f1 : W6.frozen? ⟨r0, 1, none⟩ = false
  f2 : W6.frozen? ⟨r0, 2, none⟩ = false
  f3 : W6.frozen? ⟨r0, 3, none⟩ = false
  word : W6.cell? ⟨b, 0, none⟩ = some (.string ⟨w0.toArray⟩)
  put : ∃ W7, (Instr.mapUpdate 55 (.map (some ms)) (.string ⟨w0.toArray⟩) (.bool true)).run Tryd.prog W6 = .ok () W7 ∧ FM W7 ms (.bool false) (nn + 1) (fun key => if key = w0 then some tv else seenG st key) ∧ W6.grownBy W7 (some ms)
  st' : ∀ st', setQ st rest q = some st' → ∃ pv', RBlk W6 rb pv' (st'.f : Int) (st'.c : Int) (st'.e : Int) ∧ W6.ownsRow r0 22 1 pv' st'.p.length (pickV st'.p) ∧ (st'.s4 = false → pv' = .slice none 0 0)
theorem seenT : (Tryd.prog).underlying 55 = some (.map 9 4) := by kernel_rfl
theorem behind {W5 W6 : World} {rb r0 ms b nn : Nat} {w0 : List UInt8} {st : PSt} {rest : List (List UInt8)} {q : Nat} {e : Ending} (h : DoPost W5 rb r0 st rest q e W6)
    (hr0 : R0 W5 r0) (h0 : r0 ≠ rb) (hm : FM W5 ms (.bool false) nn (seenG st)) (h1 : ms ≠ rb) (hw : W5.cell? ⟨b, 0, none⟩ = some (.string ⟨w0.toArray⟩)) (hb : b ≠ rb) (hkl : (⟨w0.toArray⟩ : ByteArray).size ≤ maxLen) (hnn : nn < maxLen) :
    e = .returned (.bool (setQ st rest q).isSome) ∧ Behind W5 W6 rb r0 ms b nn w0 st rest q := by
  obtain ⟨he, hg, hst⟩ := h
  have hr6 : R0 W6 r0 := (hg.block r0 (Array.getElem?_eq_some_iff.1 hr0).1 (fun e => h0 (Option.some.inj e))).trans hr0
  obtain ⟨c0, c1, c2, c3, f0, f1, f2, f3⟩ := hr6.facts
  have hm6 := fm_same hm (hg.block ms (fm_lt hm) (fun e => h1 (Option.some.inj e)))
  obtain ⟨W7, p1, p2, p3⟩ := fm_put hm6 seenT ⟨w0.toArray⟩ hkl hnn (.bool true)
  rw [show bl ⟨w0.toArray⟩ = w0 by simp [bl]] at p2
  exact ⟨he, hg, c0, c1, c2, c3, f0, f1, f2, f3, (World.cell?_of_block (a := ⟨b, 0, none⟩) (hg.block b (Lib.lt_of_cell hw) (fun e => hb (Option.some.inj e)))).trans hw, ⟨W7, p1, p2, p3⟩, hst⟩
end Go.Proofs.YthfnjphmodcnoaaDoor
