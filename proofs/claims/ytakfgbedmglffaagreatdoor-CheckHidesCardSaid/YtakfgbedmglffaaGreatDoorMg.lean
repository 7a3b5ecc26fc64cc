/- The evaluator's append, held against the model's. No program in sight. -/
import Derived.Test.YtakfgbedmglffaaGreatDoorMf
namespace Go.Proofs.YtakfgbedmglffaaGreatDoor
set_option linter.unusedSimpArgs false
set_option linter.unusedVariables false
namespace Ev
open Go.RowKit

def byteVals (s : ByteArray) : List Value := s.data.toList.map fun b => Value.int .u8 (b.toNat : Int)
section
variable {P : Program} {K : Cfg} {base : Nat} {w0 w : World} {p : Plan} {h h' : Tree AObj} {c c' : Nat} {l : Log}
/-- what an append takes: how many elements, and their cells -/
noncomputable def srcX (P : Program) (tx : TypeId) (sz : Nat) (x : Value) : M AObj (Nat × List Value) := match P.underlying tx with
  | some (.slice _) => match x with
    | .slice none n cp => if n = 0 ∧ cp = 0 then M.pure (0, []) else M.fail
    | .slice (some ⟨b, o, none⟩) n _ => if n = 0 then M.pure (0, []) else M.bind (rdRow b) fun r =>
      if ((r.1.drop o).take (n * sz)).length = n * sz ∧ ((r.1.drop o).take (n * sz)).all (·.oneCell') = true then M.pure (n, (r.1.drop o).take (n * sz)) else M.fail
    | _ => M.fail
  | some .string => match x with
    | .string s => if sz = 1 then M.pure (s.size, byteVals s) else M.fail
    | _ => M.fail
  | _ => M.fail
theorem slice_some {b o n cp : Nat} {v' : Value} (hv : VR p (.slice (some ⟨b, o, none⟩) n cp) v') : ∃ (s : Spot) (O cc : Nat), p b = some s ∧ v' = .slice (some ⟨s.blk, O, none⟩) n cc ∧ n ≤ cc ∧ cc ≤ maxLen ∧
    ((cp = cc ∧ O = s.off + o) ∨ (cp = unk ∧ O = s.off + o ∧ O + cc * s.esz ≤ s.size) ∨ (cp = unkE ∧ n = 0 ∧ O + cc * s.esz ≤ s.size)) := by
  cases hv with
  | slice h1 h2 h3 => exact ⟨_, _, _, h1, rfl, h2, h3, .inl ⟨rfl, rfl⟩⟩
  | sliceU h1 h2 h3 h4 => exact ⟨_, _, _, h1, rfl, h2, h3, .inr (.inl ⟨rfl, rfl, h4⟩)⟩
  | sliceE h1 h2 h3 => exact ⟨_, _, _, h1, rfl, Nat.zero_le _, h2, .inr (.inr ⟨rfl, rfl, h3⟩)⟩
theorem unk_big : unk > maxLen ∧ unkE > maxLen ∧ unk ≠ unkE := by unfold unk unkE maxLen; decide
theorem byteVals_vrs (s : ByteArray) : VRs p (byteVals s) (byteVals s) := by
  unfold byteVals
  induction s.data.toList with
  | nil => exact .nil
  | cons b l ih => exact .cons (.int _ _) ih
theorem srcX_ok {tx : TypeId} {sz : Nat} {x x' : Value} {y : Nat × List Value} (e : srcX P tx sz x h c = .ok y h' c' l) (hx : VR p x x') (hr : Rel K base w0 p h w) :
    h' = h ∧ c' = c ∧ ∃ news', Src P sz tx x' y.1 news' w ∧ VRs p y.2 news' := by
  unfold srcX at e
  cases hu : P.underlying tx with
  | none => rw [hu] at e; cases e
  | some d =>
  rw [hu] at e
  cases d with
  | slice el =>
    dsimp only at e
    split at e
    · rename_i n cp
      split at e
      · rename_i h0
        obtain ⟨rfl, rfl⟩ := h0
        obtain ⟨rfl, rfl, rfl⟩ := pure_inv e
        cases hx
        exact ⟨rfl, rfl, [], Src.ofNil w hu 0, .nil⟩
      · cases e
    · rename_i b o n cp
      obtain ⟨s, O, cc, hs, rfl, hn, hm, hO⟩ := slice_some hx
      split at e
      · rename_i h0
        obtain ⟨rfl, rfl, rfl⟩ := pure_inv e
        subst h0
        exact ⟨rfl, rfl, [], Src.ofSlice w hu _ 0 cc [] (by simp) (fun j u hj => by simp at hj) (fun u hu => by simp at hu), .nil⟩
      · rename_i h0
        obtain ⟨rr, h1, c1, l1, l2, e4, e5⟩ := bind_inv e
        obtain ⟨e6, rfl, rfl⟩ := rdRow_inv e4
        split at e5
        · rename_i hc
          obtain ⟨rfl, rfl, rfl⟩ := pure_inv e5
          have hOe : O = s.off + o := by
            rcases hO with h | h | h
            · exact h.2
            · exact h.2.1
            · exact absurd h.2.1 h0
          obtain ⟨vs, g1, g2, g3⟩ := rows_range hr e6 hs o (n * sz) hc.1
          refine ⟨rfl, rfl, vs, Src.ofSlice w hu _ n cc vs g2 (fun j u hj => ?_) (oneCells_vrs g3 (fun v hv => List.all_eq_true.1 hc.2 v hv)), g3⟩
          rw [Addr.add_mid, hOe]
          exact g1 j u hj
        · cases e5
    · cases e
  | string =>
    dsimp only at e
    split at e
    · rename_i s
      split at e
      · rename_i h1
        subst h1
        obtain ⟨rfl, rfl, rfl⟩ := pure_inv e
        cases hx
        exact ⟨rfl, rfl, byteVals s, Src.ofString w hu s, byteVals_vrs s⟩
      · cases e
    · cases e
  | _ => cases e
/-- a row grows: it is another one -/
theorem grow_gives {hh : Tree AObj} (hr : Rel K base w0 p hh w) (hp : p c = none) {t tx ty e : TypeId} {i : TI} (ht : P.underlying t = some (.slice e)) (hi : TIOK P e i) (ba : Option Addr) (n cp m : Nat) (olds olds' news news' : List Value) (x' : Value)
    (hold : (Builtin.firstCells i.size n (.slice ba n cp)).run P w.drew = .ok olds'.toArray w.drew) (hs : Src P i.size tx x' m news' w) (hg : cp < n + m) (h63 : n + m ≤ maxLen) (hb : (n + m) * i.bytes ≤ 140737488355328) (hol : olds'.length = n * i.size)
    (hov : VRs p olds olds') (hnv : VRs p news news') :
    ∃ (w' : World) (y : Value) (s : Spot), (Builtin.append_ #[t, tx] ty #[.slice ba n cp, x']).run P w = .ok y w' ∧ VR (p.add c s) (.slice (some ⟨c, 0, none⟩) (n + m) unk) y ∧ Rel K base w0 (p.add c s) (hh.set c (some (.row (olds ++ news) e i.size))) w' := by
  obtain ⟨f, hf1, hf2, hf3, hf4⟩ := hi.info
  have hzs := hi.zsize
  rw [← hf2] at hold hs hol hzs ⊢
  have h63' : ((n + m : Nat) : Int) ≤ 9223372036854775807 := by unfold maxLen at h63; omega
  have hrun := run_append_grow_src w t tx ty e f i.zero ht hf1 hf4 ba n cp olds' hold x' m news' hs hg h63' (growslice_fits hg (by rw [hf3]; exact hb))
  have hge := grownCap_ge w (n + m) cp e
  have hle := grownCap_le_maxLen w (n + m) cp e h63
  generalize grownCap w (n + m) cp e = C at hrun hge hle
  have hzc : (Builtin.zeroCells i.zero.cells (C - (n + m))).size = (C - (n + m)) * f.size := by simp [Builtin.zeroCells, hzs]
  have hnl := hs.newsLen
  have hsz : ((olds' ++ news').toArray ++ Builtin.zeroCells i.zero.cells (C - (n + m))).size = C * f.size := by
    rw [Array.size_append, hzc]
    simp only [List.size_toArray, List.length_append, hol, hnl, ← Nat.add_mul]
    congr 1; omega
  have hoa := hov.append hnv
  refine ⟨_, _, ⟨w.heap.size, 0, C * f.size, f.size⟩, hrun, ?_, ?_⟩
  · refine VR.sliceU (s := ⟨w.heap.size, 0, C * f.size, f.size⟩) (Plan.add_self _ _ _) hge hle ?_
    simp
  · refine (hr.drew).new hp _ _ _ rfl ⟨rfl, _, ((0, 0) : Nat × Nat), heap_alloc_new' _ _, hsz, ?_, ?_, fun j _ => by simp⟩
    · have := hoa.len
      rw [Array.size_append]
      simp only [List.size_toArray]
      omega
    · have := hoa.len
      have e1 : (((olds' ++ news').toArray ++ Builtin.zeroCells i.zero.cells (C - (n + m))).toList.drop 0).take (olds ++ news).length = olds' ++ news' := by
        rw [List.drop_zero, Array.toList_append, this]
        exact List.take_left' rfl
      rw [e1]
      exact hoa.mono (Plan.le_add hp)
def maxBytes : Nat := 140737488355328
/-- append -/
noncomputable def xAppend (P : Program) (K : Cfg) (t tx : TypeId) (s x : Value) : M AObj Value := match P.underlying t with
  | some (.slice e) => M.bind (liftO (tiOf P e)) fun i => M.bind (srcX P tx i.size x) fun y =>
    match s with
    | .slice none n cp => if n = 0 ∧ cp = 0 ∧ ¬ y.1 = 0 ∧ y.1 * i.bytes ≤ maxBytes ∧ y.1 ≤ maxLen then M.bind (newRowX y.2 e i.size) fun b => M.pure (.slice (some ⟨b, 0, none⟩) y.1 unk) else if n = 0 ∧ cp = 0 ∧ y.1 = 0 then M.pure s else M.fail
    | .slice (some ⟨b, o, none⟩) n cp =>
      if y.1 = 0 then M.pure s else
      if cp = unk then M.bind (rdRow b) fun r =>
        if K.n ≤ b ∧ r.2.1 = e ∧ r.2.2 = i.size ∧ ((r.1.drop o).take (n * i.size)).length = n * i.size ∧ (n + y.1) * i.bytes ≤ maxBytes ∧ n + y.1 ≤ maxLen then
          M.bind (M.write b none) fun _ => M.bind (newRowX ((r.1.drop o).take (n * i.size) ++ y.2) e i.size) fun q => M.pure (.slice (some ⟨q, 0, none⟩) (n + y.1) unk)
        else M.fail
      else if cp = unkE then M.fail
      else if n + y.1 ≤ cp then M.bind (rdRow b) fun r =>
        if K.n ≤ b ∧ o + n * i.size + y.2.length ≤ r.1.length then
          M.bind (M.write b (some (.row (putAll r.1 (o + n * i.size) y.2) r.2.1 r.2.2))) fun _ => M.pure (.slice (some ⟨b, o, none⟩) (n + y.1) cp)
        else M.fail
      else M.bind (rdRow b) fun r =>
        if ((r.1.drop o).take (n * i.size)).length = n * i.size ∧ (n + y.1) * i.bytes ≤ maxBytes ∧ n + y.1 ≤ maxLen then
          M.bind (newRowX ((r.1.drop o).take (n * i.size) ++ y.2) e i.size) fun q => M.pure (.slice (some ⟨q, 0, none⟩) (n + y.1) unk)
        else M.fail
    | _ => M.fail
  | _ => M.fail
theorem row_there {cs : List Value} {t : TypeId} {sz b : Nat} {s : Spot} (hr : Rel K base w0 p h w) (hb : h.get b = some (.row cs t sz)) (hs : p b = some s) : s.esz = sz ∧ (∀ q, q < s.size → (w.cell? ⟨s.blk, q, none⟩).isSome = true ∧ w.frozen? ⟨s.blk, q, none⟩ = false) := by
  obtain ⟨s', g1, -, -, hR⟩ := hr.at_ b _ hb
  obtain rfl : s' = s := Option.some.inj (g1.symm.trans hs)
  obtain ⟨bs, fr, k1, k2, -, -, kf⟩ := hR.at_
  refine ⟨hR.esz, fun q hq => ⟨?_, ?_⟩⟩
  · unfold World.cell?; rw [k1]
    simp; omega
  · unfold World.frozen?; rw [k1]; exact kf q (by omega)
theorem first_run {i : Nat} {vs : List Value} {B O n cc : Nat} (g : w.rangeAt B O vs) (hl : vs.length = n * i) : (Builtin.firstCells i n (.slice (some ⟨B, O, none⟩) n cc)).run P w.drew = .ok vs.toArray w.drew :=
  run_firstCells_some w.drew i n ⟨B, O, none⟩ n cc vs hl (fun j u hj => by
    rw [Addr.add_mid]
    exact g j u hj)
set_option maxHeartbeats 1000000 in
theorem xAppend_ok {t tx ty : TypeId} {s s' x x' r : Value} (e : xAppend P K t tx s x h c = .ok r h' c' l) (hs : VR p s s') (hx : VR p x x') (hr : Rel K base w0 p h w) (hf : Free p c c') :
    Gives P K base w0 p w c c' h' VR (Builtin.append_ #[t, tx] ty #[s', x']) r := by
  unfold xAppend at e
  cases hu : P.underlying t with
  | none => rw [hu] at e; cases e
  | some d =>
  rw [hu] at e
  cases d with
  | slice el =>
    dsimp only at e
    obtain ⟨i, h1, c1, l1, l2, e1, e2⟩ := bind_inv e
    obtain ⟨e3, rfl, rfl⟩ := liftO_inv e1
    have hi := tiOf_ok e3
    obtain ⟨y, h2, c2, l3, l4, e4, e5⟩ := bind_inv e2
    obtain ⟨rfl, rfl, news', hsrc, hnv⟩ := srcX_ok e4 hx hr
    have hnl := hnv.len
    have hnl2 := hsrc.newsLen
    clear e1 e2 e4
    split at e5
    · -- nil
      rename_i n cp
      split at e5
      · rename_i hb
        obtain ⟨rfl, rfl, h0, hb1, hb2⟩ := hb
        obtain ⟨q, h3, c3, l5, l6, e6, e7⟩ := bind_inv e5
        obtain ⟨rfl, rfl, rfl⟩ := new_inv e6
        obtain ⟨rfl, rfl, rfl⟩ := pure_inv e7
        cases hs
        have hp := hf q (Nat.le_refl _) (by omega)
        obtain ⟨w', v', sp, k1, k2, k3⟩ := grow_gives (ty := ty) hr hp hu hi none 0 0 y.1 [] [] y.2 news' x' (by rfl) hsrc (by omega) (by omega) (by rw [Nat.zero_add]; exact hb1) (by simp) .nil hnv
        rw [Nat.zero_add] at k2
        exact ⟨_, w', v', k1, k2, k3, Plan.le_add hp, add_out⟩
      · split at e5
        · rename_i hb
          obtain ⟨rfl, rfl, h0⟩ := hb
          obtain ⟨rfl, rfl, rfl⟩ := pure_inv e5
          cases hs
          obtain ⟨f, hf1, hf2, hf3, hf4⟩ := hi.info
          rw [← hf2, h0] at hsrc
          refine Gives.quiet hr (y := .slice none 0 0) ?_ .nilSlice
          rcases hsrc.kind with ⟨e', hk⟩ | hk <;> simp [Builtin.append_, run_underlying hu, run_underlying hk, sizeOf, typeInfo, hf1, hsrc.len, hsrc.cells]
        · cases e5
    · rename_i b o n cp
      obtain ⟨sp, O, cc, hsp, rfl, hn, hm, hO⟩ := slice_some hs
      have hub := unk_big
      split at e5
      · rename_i h0
        obtain ⟨rfl, rfl, rfl⟩ := pure_inv e5
        obtain ⟨f, hf1, hf2, hf3, hf4⟩ := hi.info
        rw [← hf2, h0] at hsrc
        have hn0 : news' = [] := List.length_eq_zero_iff.1 (by rw [hsrc.newsLen]; simp)
        subst hn0
        have hrun := run_append_room_src w t tx ty el f hu hf1 sp.blk O n cc x' 0 [] hsrc (by omega) (fun j hj => by simp at hj) (fun j hj => by simp at hj)
        exact Gives.quiet hr hrun hs
      · rename_i h0
        split at e5
        · -- the capacity is not known
          rename_i hcp
          obtain ⟨rr, h3, c3, l5, l6, e6, e7⟩ := bind_inv e5
          obtain ⟨e8, rfl, rfl⟩ := rdRow_inv e6
          split at e7
          · rename_i hc
            obtain ⟨hK, ht, hz, hlen, hb, h63⟩ := hc
            obtain ⟨u, h4, c4, l7, l8, e9, e10⟩ := bind_inv e7
            obtain ⟨rfl, rfl⟩ := write_inv e9
            obtain ⟨q, h5, c5, l9, l10, e11, e12⟩ := bind_inv e10
            obtain ⟨rfl, rfl, rfl⟩ := new_inv e11
            obtain ⟨rfl, rfl, rfl⟩ := pure_inv e12
            have hp := hf q (Nat.le_refl _) (by omega)
            have hqb : q ≠ b := fun e => by rw [e, hsp] at hp; cases hp
            obtain ⟨hOe, hOs⟩ : O = sp.off + o ∧ O + cc * sp.esz ≤ sp.size := by
              rcases hO with h | h | h
              · omega
              · exact h.2
              · omega
            obtain ⟨hesz, hth⟩ := row_there hr e8 hsp
            obtain ⟨vs, g1, g2, g3⟩ := rows_range hr e8 hsp o (n * i.size) hlen
            rw [hesz, hz] at hOs
            by_cases hroom : n + y.1 ≤ cc
            · -- in its own block
              obtain ⟨f, hf1, hf2, hf3, hf4⟩ := hi.info
              have hmul : (n + y.1) * i.size ≤ cc * i.size := Nat.mul_le_mul_right _ hroom
              rw [Nat.add_mul] at hmul
              have hrun := run_append_room_src w t tx ty el f hu hf1 sp.blk O n cc x' y.1 news' (by rw [hf2]; exact hsrc) hroom (fun j hj => (hth _ (by rw [hf2]; omega)).1) (fun j hj => (hth _ (by rw [hf2]; omega)).2)
              rw [hf2] at hrun
              have hgo := hr.goOn e8 hK hsp hp hqb (sp.off + o) ((rr.1.drop o).take (n * i.size)) vs y.2 news' (fun bs fr hbs hbsz => ?_) g3 hnv (by rw [hlen]; omega)
              · refine ⟨p.add q ⟨sp.blk, sp.off + o, sp.size, rr.2.2⟩, _, _, hrun, ?_, ?_, Plan.le_add hp, add_out⟩
                · have := VR.sliceU (p := p.add q ⟨sp.blk, sp.off + o, sp.size, rr.2.2⟩) (b := q) (o := 0) (n := n + y.1) (c := cc) (Plan.add_self _ _ _) hroom hm (by simp only [hz]; omega)
                  simp only [Nat.add_zero] at this
                  rw [hOe]; exact this
                · rw [hlen, ← hOe] at hgo
                  rw [ht, hz] at hgo
                  rw [hz, ← hOe]
                  exact hgo
              · rw [hlen]
                apply List.ext_getElem?
                intro j
                rw [List.getElem?_take, List.getElem?_drop]
                split
                · rename_i hj
                  obtain ⟨z, hz2⟩ : ∃ z, vs[j]? = some z := ⟨_, List.getElem?_eq_getElem (by omega)⟩
                  have h9 := g1 j z hz2
                  unfold World.cell? at h9
                  rw [hbs] at h9
                  rw [hz2]
                  simpa using h9
                · rename_i hj
                  rw [List.getElem?_eq_none (by omega)]
            · obtain ⟨w', v', s2, k1, k2, k3⟩ := grow_gives (ty := ty) (hr.del b) hp hu hi (some ⟨sp.blk, O, none⟩) n cc y.1 _ vs y.2 news' x' (first_run (hOe ▸ g1) g2) hsrc (by omega) h63 hb g2 g3 hnv
              exact ⟨_, w', v', k1, k2, k3, Plan.le_add hp, add_out⟩
          · cases e7
        · rename_i hcp
          split at e5
          · cases e5
          · rename_i hcp2
            obtain ⟨rfl, rfl⟩ : cp = cc ∧ O = sp.off + o := by
              rcases hO with h | h | h
              · exact h
              · exact absurd h.1 hcp
              · exact absurd h.1 hcp2
            split at e5
            · rename_i hroom
              obtain ⟨rr, h3, c3, l5, l6, e6, e7⟩ := bind_inv e5
              obtain ⟨e8, rfl, rfl⟩ := rdRow_inv e6
              split at e7
              · rename_i hc
                obtain ⟨hK, hlen⟩ := hc
                obtain ⟨u, h4, c4, l7, l8, e9, e10⟩ := bind_inv e7
                obtain ⟨rfl, rfl⟩ := write_inv e9
                obtain ⟨rfl, rfl, rfl⟩ := pure_inv e10
                obtain ⟨f, hf1, hf2, hf3, hf4⟩ := hi.info
                have key : ∀ j, j < news'.length → (w.cell? ⟨sp.blk, sp.off + o + n * i.size + j, none⟩).isSome = true ∧ w.frozen? ⟨sp.blk, sp.off + o + n * i.size + j, none⟩ = false := fun j hj => by
                  obtain ⟨u, hu'⟩ : ∃ u, rr.1[o + n * i.size + j]? = some u := ⟨_, List.getElem?_eq_getElem (by omega)⟩
                  obtain ⟨u', g1, -, g3⟩ := hr.load e8 hu' hsp
                  rw [show sp.off + o + n * i.size + j = sp.off + (o + n * i.size + j) by omega]
                  exact ⟨by rw [g1]; rfl, g3⟩
                have hrun := run_append_room_src w t tx ty el f hu hf1 sp.blk (sp.off + o) n cp x' y.1 news' (by rw [hf2]; exact hsrc) hroom (fun j hj => by rw [hf2]; exact (key j hj).1) (fun j hj => by rw [hf2]; exact (key j hj).2)
                rw [hf2, Nat.add_assoc sp.off] at hrun
                exact ⟨p, _, _, hrun, .slice hsp hroom hm, hr.stores hnv e8 hK (by omega) hsp, Plan.le_refl _, fun _ _ => rfl⟩
              · cases e7
            · rename_i hroom
              obtain ⟨rr, h3, c3, l5, l6, e6, e7⟩ := bind_inv e5
              obtain ⟨e8, rfl, rfl⟩ := rdRow_inv e6
              split at e7
              · rename_i hc
                obtain ⟨hlen, hb, h63⟩ := hc
                obtain ⟨q, h5, c5, l9, l10, e11, e12⟩ := bind_inv e7
                obtain ⟨rfl, rfl, rfl⟩ := new_inv e11
                obtain ⟨rfl, rfl, rfl⟩ := pure_inv e12
                have hp := hf q (Nat.le_refl _) (by omega)
                obtain ⟨vs, g1, g2, g3⟩ := rows_range hr e8 hsp o (n * i.size) hlen
                obtain ⟨w', v', s2, k1, k2, k3⟩ := grow_gives (ty := ty) hr hp hu hi (some ⟨sp.blk, sp.off + o, none⟩) n cp y.1 _ vs y.2 news' x' (first_run g1 g2) hsrc (by omega) h63 hb g2 g3 hnv
                exact ⟨_, w', v', k1, k2, k3, Plan.le_add hp, add_out⟩
              · cases e7
    · cases e5
  | _ => cases e
end
end Ev
end Go.Proofs.YtakfgbedmglffaaGreatDoor
