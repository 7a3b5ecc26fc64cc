/- Lists of texts that a call owns; the reference's Words and Lines. -/
import Derived.Test.YthfnjphmodcnoaaDoorBq
import Derived.Test.YthfnjphmodcnoaaDoorAk
namespace Go.Proofs.YthfnjphmodcnoaaDoor
open Go.RowKit
set_option linter.unusedSimpArgs false
set_option linter.unusedVariables false

def strV (L : List (List UInt8)) : List Value := L.map fun z => Value.string ⟨z.toArray⟩
/-- a slice of texts that lies in new memory and may be appended to -/
def OwnL (B : Nat) (w : World) (v : Value) (L : List (List UInt8)) : Prop := w.ownsRow B 9 1 v L.length (strV L)
theorem ownL_nil (B : Nat) (w : World) : OwnL B w (.slice none 0 0) [] := World.ownsRow_nil _ _ _ _
theorem ownL_below {B : Nat} {w w' : World} {v : Value} {L : List (List UInt8)} (h : OwnL B w v L) (hb : Below w.heap.size w w') : OwnL B w' v L := ownsRow_below' h hb
theorem ownL_base {B B' : Nat} {w : World} {v : Value} {L : List (List UInt8)} (h : OwnL B w v L) (hb : B' ≤ B) : OwnL B' w v L := ownsRow_base' h hb
theorem ownL_slice {B : Nat} {w : World} {v : Value} {L : List (List UInt8)} (h : OwnL B w v L) : ∃ a c, v = .slice a L.length c := by
  rcases h.2 with ⟨h1, h2⟩ | ⟨g, cap, cur, h1, -⟩
  · exact ⟨none, 0, by rw [h1, h2]⟩
  · exact ⟨_, _, h1⟩
theorem ownL_str {B : Nat} {w : World} {v : Value} {L : List (List UInt8)} (h : OwnL B w v L) : StrA w v L := by
  rcases h.2 with ⟨h1, h2⟩ | ⟨g, cap, cur, h1, -, h3, h4, -, h5, h6⟩
  · exact ⟨none, 0, by rw [h1, h2], .inl (List.length_eq_zero_iff.1 h2)⟩
  · refine ⟨_, cap, h1, .inr ⟨g, 0, rfl, fun i z hz => ?_⟩⟩
    have hi := (List.getElem?_eq_some_iff.1 hz).1
    have h7 : (strV L)[i]? = some (.string ⟨z.toArray⟩) := by unfold strV; rw [List.getElem?_map, hz]; rfl
    rw [← h6, List.getElem?_take, if_pos (by omega)] at h7
    unfold World.cell?
    rw [h3, Nat.zero_add]
    simpa using h7
theorem infoStr : ((Tryd.prog).info? 9).map (fun i => (i.zero, i.size, i.bytes)) = some (some (.string ⟨#[]⟩), 1, 16) := by kernel_rfl
/-- l = append(l, z): z lies in the block that was laid last -/
theorem wp_strapp {o : Oper} {a : Act} {K : Act → World → Prop} {Q : Exit → Act → World → Prop} {w : World} (s x : Operand)
    (ho : o.op = .call { callee := .builtin .append, args := #[s, x], argTypes := #[25, 25] })
    (B : Nat) (v : Value) (L : List (List UInt8)) (hs : a.eval s = v) (hown : OwnL B w v L) (g : Nat) (z : List UInt8) (hx : a.eval x = .slice (some ⟨g, 0, none⟩) 1 1) (hz : w.cell? ⟨g, 0, none⟩ = some (.string ⟨z.toArray⟩))
    (hlen : L.length ≤ 1099511627776) (hB : B ≤ w.heap.size)
    (h : ∀ v' w', OwnL B w' v' (L ++ [z]) → w.grownBy w' v.ownBlock → K (a.put o.dst v') w') : o.wp Tryd.prog a w K Q := by
  obtain ⟨i0, hi, hz0, hz1, hz2⟩ := info_parts infoStr
  refine wp_append_own _ _ _ 25 ho B 9 i0 (.string ⟨#[]⟩) 1 16 Tryd.underlying25 hi hz0 hz1 hz2 rfl (by decide) _ _ _ hs hown ⟨g, 0, none⟩ 1 1 [.string ⟨z.toArray⟩] hx rfl ?_ ?_ ?_ ?_ hB ?_
  · intro j u hj
    match j, hj with
    | 0, hj => simp at hj; subst hj; simp [Addr.add, hz]
    | (j + 1), hj => simp at hj
  · intro u hu; simp at hu; subst hu; rfl
  · unfold maxLen; omega
  · omega
  · intro v' w' h1 h2 _
    refine h v' w' ?_ h2
    unfold OwnL
    rw [List.length_append, List.length_singleton, show strV (L ++ [z]) = strV L ++ [.string ⟨z.toArray⟩] by simp [strV]]
    exact h1
theorem wpList_strapp {ops : Array Oper} {rest : List Oper} {o : Oper} {a : Act} {Q : Exit → Act → World → Prop} {w : World} (hgd : o.guard = none) (s x : Operand)
    (ho : o.op = .call { callee := .builtin .append, args := #[s, x], argTypes := #[25, 25] })
    (B : Nat) (v : Value) (L : List (List UInt8)) (hs : a.eval s = v) (hown : OwnL B w v L) (g : Nat) (z : List UInt8) (hx : a.eval x = .slice (some ⟨g, 0, none⟩) 1 1) (hz : w.cell? ⟨g, 0, none⟩ = some (.string ⟨z.toArray⟩))
    (hlen : L.length ≤ 1099511627776) (hB : B ≤ w.heap.size)
    (h : ∀ v' w', OwnL B w' v' (L ++ [z]) → Below B w w' → (∃ a c, v' = .slice a (L.length + 1) c) → wpList Tryd.prog ops Q rest (a.put o.dst v') w') : wpList Tryd.prog ops Q (o :: rest) a w :=
  wpList_plain hgd fun _ hK => wp_strapp s x ho B v L hs hown g z hx hz hlen hB fun v' w' h1 h2 => hK _ _ (h v' w' h1 ((Below.refl B w).grown h2 hB (fun k hk => (hown.lt k hk).1)) (by
    obtain ⟨a', c', h3⟩ := ownL_slice h1
    exact ⟨a', c', by rw [h3, List.length_append, List.length_singleton]⟩))
theorem split_step {c : UInt8} {l : List UInt8} {f k : Nat} (hfk : f ≤ k) (h : (c : UInt8) ∉ (l.drop f).take (k - f)) (hk : l[k]? = some c) : splitP c (l.drop f) = (l.drop f).take (k - f) :: splitP c (l.drop (k + 1)) := by
  have hlt := (List.getElem?_eq_some_iff.1 hk).1
  have e : l.drop f = (l.drop f).take (k - f) ++ c :: l.drop (k + 1) := by
    have h1 : (l.drop f).drop (k - f) = l.drop k := by rw [List.drop_drop]; congr 1; omega
    conv => lhs; rw [← List.take_append_drop (k - f) (l.drop f), h1]
    rw [List.drop_eq_getElem_cons hlt]
    rw [List.getElem?_eq_getElem hlt] at hk
    rw [Option.some.inj hk]
  conv => lhs; rw [e]
  exact splitP_app c _ _ h
theorem none_step {c d : UInt8} {l : List UInt8} {f k : Nat} (hfk : f ≤ k) (h : (c : UInt8) ∉ (l.drop f).take (k - f)) (hk : l[k]? = some d) (hd : d ≠ c) : (c : UInt8) ∉ (l.drop f).take (k + 1 - f) := by
  rw [show k + 1 - f = (k - f) + 1 by omega, List.take_add_one, List.getElem?_drop, show f + (k - f) = k by omega, hk]
  simp only [Option.toList_some, List.mem_append, List.mem_singleton, not_or]
  exact ⟨h, fun e => hd e.symm⟩
theorem end_step {c : UInt8} {l : List UInt8} {f : Nat} (h : (c : UInt8) ∉ (l.drop f).take (l.length - f)) : splitP c (l.drop f) = [l.drop f] := by
  rw [List.take_of_length_le (by rw [List.length_drop]; exact Nat.le_refl _)] at h
  exact splitP_none c _ h
theorem piece (s : ByteArray) (f k : Nat) : s.extract f k = ⟨(((bl s).drop f).take (k - f)).toArray⟩ := by
  apply ByteArray.ext
  apply Array.toList_inj.1
  have := bl_extract s f k
  simp [bl] at this ⊢
  try exact this
theorem at_bl (s : ByteArray) (k : Nat) (h : k < s.size) : (bl s)[k]? = some s[k] := by
  have : s.data.toList[k]? = some s.data[k] := by simp [h]
  exact this
theorem lines_end {l : List UInt8} {f : Nat} {L : List (List UInt8)} (h : splitP 10 l = L ++ [l.drop f]) (hf : f ≤ l.length) (hL : L.length ≤ f) : linesP l = if f < l.length then (L ++ [l.drop f], false) else (L, true) := by
  unfold linesP
  by_cases h0 : l = []
  · subst h0
    have hL0 : L = [] := List.length_eq_zero_iff.1 (by simp at hf; omega)
    subst hL0
    rw [if_pos rfl, if_neg (by simp)]
  · rw [if_neg h0, h]
    by_cases hlt : f < l.length
    · have hne : l.drop f ≠ [] := by
        intro e
        have := congrArg List.length e
        rw [List.length_drop] at this; simp at this; omega
      rw [if_pos hlt, if_neg (by simp [hne])]
    · have he : l.drop f = [] := List.drop_of_length_le (by omega)
      rw [if_neg hlt, he, if_pos (by simp)]
      simp
set_option maxRecDepth 20000 in
set_option maxHeartbeats 2000000 in
theorem rwords_c (s : ByteArray) (w : World) (hs : s.size ≤ 1073741824) : Calls Tryd.prog 33 #[.string s] w fun e w' => ∃ v, e = .returned v ∧ OwnL w.heap.size w' v (splitP 32 (bl s)) ∧ Below w.heap.size w w' := by
  obtain ⟨l, hl⟩ : ∃ l, bl s = l := ⟨_, rfl⟩
  have hll : l.length = s.size := by rw [← hl, bl_len]
  have HL := Lib.hid hl
  have HLL := Lib.hid hll
  rw [hl]
  clear hl hll
  go_enter Tryd.func33, Tryd.ntmps33
  go_wp2_with fail
  go_loopw [3, 4, 5] (fun v fv i wr => ∃ (f k : Nat) (L : List (List UInt8)), fv = .int .i64 f ∧ i = .int .i64 k ∧ f ≤ k ∧ k ≤ s.size ∧ Hid (OwnL w.heap.size wr v L) ∧ Hid (Below w.heap.size w wr) ∧ Hid (splitP 32 l = L ++ splitP 32 (l.drop f)) ∧ Hid ((32 : UInt8) ∉ (l.drop f).take (k - f)) ∧ L.length ≤ f ∧ (∃ a q, v = .slice a L.length q)) (fun _ _ i _ => s.size - (intOf i).toNat)
  case atStart => exact ⟨0, 0, [], rfl, rfl, Nat.le_refl _, Nat.zero_le _, Lib.hid (ownL_nil _ _), Lib.hid (Below.refl _ _), Lib.hid (by simp), Lib.hid (by simp), Nat.le_refl _, ⟨_, _, rfl⟩⟩
  case round =>
    obtain ⟨f, k, L, rfl, rfl, hfk, hk, hO, hB, hS, hno, hLf, ⟨va, vq, rfl⟩⟩ := hrel
    have hsz := hB.out.size
    by_cases hlt : k < s.size
    · have hlti : (k : Int) < (s.size : Int) := by omega
      have HBB : Hid (l[k]? = some s[k]) := Lib.hid (by rw [← HL.out]; exact at_bl s k hlt)
      by_cases hb : s[k] = 32
      · have hbi : ((s[k]).toNat : Int) = 32 := by rw [hb]; rfl
        have hbb : (((s[k]).toNat : Int) == 32) = true := by rw [hbi]; rfl
        have HB32 := Lib.hid hb
        clear hb hbi
        obtain ⟨z, hz⟩ : ∃ z, z = ((l.drop f).take (k - f)) := ⟨_, rfl⟩
        have hpc : s.extract f k = ⟨z.toArray⟩ := by rw [hz, ← HL.out]; exact piece s f k
        have hfk1 : (f : Int) ≤ (k : Int) := by omega
        have HZ := Lib.hid hz
        have hown' : OwnL w.heap.size (wr.alloc (.cells #[.string ⟨z.toArray⟩] 9)) (.slice va L.length vq) L := ownL_below hO.out ((Below.refl _ _).alloc (Nat.le_refl _) _)
        have hzc : (wr.alloc (.cells #[.string ⟨z.toArray⟩] 9)).cell? ⟨wr.heap.size, 0, none⟩ = some (.string ⟨z.toArray⟩) := by rw [World.cell?_alloc_new]; rfl
        have hBa := Lib.hid (hB.out.alloc (by omega) (.cells #[.string ⟨z.toArray⟩] 9))
        clear hz
        go_wp2_with (at_builtin; refine wpList_strapp rfl _ _ rfl w.heap.size _ L rfl hown' wr.heap.size z rfl hzc (by omega) (by simp; omega) ?_)
        intro v' w' hO' hB' a' c' hv'
        subst hv'
        have hS2 := Lib.hid (show splitP 32 l = (L ++ [z]) ++ splitP 32 (l.drop (k + 1)) by rw [hS.out, split_step hfk hno.out (by rw [HBB.out, HB32.out]), List.append_assoc, HZ.out]; rfl)
        have hB2 := Lib.hid (hBa.out.trans hB')
        have hO2 := Lib.hid hO'
        clear hO' hB'
        go_wp2
        exact ⟨⟨k + 1, k + 1, L ++ [z], by go_num, by go_num, Nat.le_refl _, by omega, hO2, hB2, hS2, Lib.hid (by simp), by simp; omega, ⟨a', c', by simp⟩⟩, by simp [intOf]; omega⟩
      · have hbb : (((s[k]).toNat : Int) == 32) = false := beq_eq_false_iff_ne.2 (fun e => hb (by
          apply UInt8.toNat_inj.1
          have : (32 : UInt8).toNat = 32 := rfl
          omega))
        have hno2 := Lib.hid (none_step hfk hno.out HBB.out hb)
        clear hb
        go_wp2
        exact ⟨⟨f, k + 1, L, by go_num, by go_num, by omega, by omega, hO, hB, hS, hno2, hLf, ⟨_, _, rfl⟩⟩, by simp [intOf]; omega⟩
    · have hke : k = s.size := by omega
      subst hke
      have hSE := Lib.hid (show splitP 32 l = L ++ [l.drop f] by rw [hS.out, end_step (f := f) (by rw [HLL.out]; exact hno.out)])
      obtain ⟨z, hz⟩ : ∃ z, z = l.drop f := ⟨_, rfl⟩
      have hpc : s.extract f s.size = ⟨z.toArray⟩ := by
        rw [hz, ← HL.out]
        have := bl_from s f
        rw [← this, mk_bl]
      have hfk1 : (f : Int) ≤ (s.size : Int) := by omega
      have HZ := Lib.hid hz
      have hown' : OwnL w.heap.size (wr.alloc (.cells #[.string ⟨z.toArray⟩] 9)) (.slice va L.length vq) L := ownL_below hO.out ((Below.refl _ _).alloc (Nat.le_refl _) _)
      have hzc : (wr.alloc (.cells #[.string ⟨z.toArray⟩] 9)).cell? ⟨wr.heap.size, 0, none⟩ = some (.string ⟨z.toArray⟩) := by rw [World.cell?_alloc_new]; rfl
      have hBa := Lib.hid (hB.out.alloc (by omega) (.cells #[.string ⟨z.toArray⟩] 9))
      clear hz
      go_wp2_with (at_builtin; refine wpList_strapp rfl _ _ rfl w.heap.size _ L rfl hown' wr.heap.size z rfl hzc (by omega) (by simp; omega) ?_)
      intro v' w' hO' hB' a' c' hv'
      subst hv'
      go_wp2
      go_ret
      exact ⟨_, rfl, by rw [hSE.out, ← HZ.out]; exact hO', hBa.out.trans hB'⟩
set_option maxRecDepth 20000 in
set_option maxHeartbeats 2000000 in
theorem rlines_c (s : ByteArray) (w : World) (hs : s.size ≤ 1073741824) : Calls Tryd.prog 30 #[.string s] w fun e w' => ∃ v, e = .returned (.tuple #[v, .bool (linesP (bl s)).2]) ∧ OwnL w.heap.size w' v (linesP (bl s)).1 ∧ Below w.heap.size w w' := by
  obtain ⟨l, hl⟩ : ∃ l, bl s = l := ⟨_, rfl⟩
  have hll : l.length = s.size := by rw [← hl, bl_len]
  have HL := Lib.hid hl
  have HLL := Lib.hid hll
  rw [hl]
  clear hl hll
  go_enter Tryd.func30, Tryd.ntmps30
  go_wp2_with fail
  go_loopw [4, 5, 6] (fun v fv i wr => ∃ (f k : Nat) (L : List (List UInt8)), fv = .int .i64 f ∧ i = .int .i64 k ∧ f ≤ k ∧ k ≤ s.size ∧ Hid (OwnL w.heap.size wr v L) ∧ Hid (Below w.heap.size w wr) ∧ Hid (splitP 10 l = L ++ splitP 10 (l.drop f)) ∧ Hid ((10 : UInt8) ∉ (l.drop f).take (k - f)) ∧ L.length ≤ f ∧ (∃ a q, v = .slice a L.length q)) (fun _ _ i _ => s.size - (intOf i).toNat)
  case atStart => exact ⟨0, 0, [], rfl, rfl, Nat.le_refl _, Nat.zero_le _, Lib.hid (ownL_nil _ _), Lib.hid (Below.refl _ _), Lib.hid (by simp), Lib.hid (by simp), Nat.le_refl _, ⟨_, _, rfl⟩⟩
  case round =>
    obtain ⟨f, k, L, rfl, rfl, hfk, hk, hO, hB, hS, hno, hLf, ⟨va, vq, rfl⟩⟩ := hrel
    have hsz := hB.out.size
    by_cases hlt : k < s.size
    · have hlti : (k : Int) < (s.size : Int) := by omega
      have HBB : Hid (l[k]? = some s[k]) := Lib.hid (by rw [← HL.out]; exact at_bl s k hlt)
      by_cases hb : s[k] = 10
      · have hbi : ((s[k]).toNat : Int) = 10 := by rw [hb]; rfl
        have hbb : (((s[k]).toNat : Int) == 10) = true := by rw [hbi]; rfl
        have HB32 := Lib.hid hb
        clear hb hbi
        obtain ⟨z, hz⟩ : ∃ z, z = ((l.drop f).take (k - f)) := ⟨_, rfl⟩
        have hpc : s.extract f k = ⟨z.toArray⟩ := by rw [hz, ← HL.out]; exact piece s f k
        have hfk1 : (f : Int) ≤ (k : Int) := by omega
        have HZ := Lib.hid hz
        have hown' : OwnL w.heap.size (wr.alloc (.cells #[.string ⟨z.toArray⟩] 9)) (.slice va L.length vq) L := ownL_below hO.out ((Below.refl _ _).alloc (Nat.le_refl _) _)
        have hzc : (wr.alloc (.cells #[.string ⟨z.toArray⟩] 9)).cell? ⟨wr.heap.size, 0, none⟩ = some (.string ⟨z.toArray⟩) := by rw [World.cell?_alloc_new]; rfl
        have hBa := Lib.hid (hB.out.alloc (by omega) (.cells #[.string ⟨z.toArray⟩] 9))
        clear hz
        go_wp2_with (at_builtin; refine wpList_strapp rfl _ _ rfl w.heap.size _ L rfl hown' wr.heap.size z rfl hzc (by omega) (by simp; omega) ?_)
        intro v' w' hO' hB' a' c' hv'
        subst hv'
        have hS2 := Lib.hid (show splitP 10 l = (L ++ [z]) ++ splitP 10 (l.drop (k + 1)) by rw [hS.out, split_step hfk hno.out (by rw [HBB.out, HB32.out]), List.append_assoc, HZ.out]; rfl)
        have hB2 := Lib.hid (hBa.out.trans hB')
        have hO2 := Lib.hid hO'
        clear hO' hB'
        go_wp2
        exact ⟨⟨k + 1, k + 1, L ++ [z], by go_num, by go_num, Nat.le_refl _, by omega, hO2, hB2, hS2, Lib.hid (by simp), by simp; omega, ⟨a', c', by simp⟩⟩, by simp [intOf]; omega⟩
      · have hbb : (((s[k]).toNat : Int) == 10) = false := beq_eq_false_iff_ne.2 (fun e => hb (by
          apply UInt8.toNat_inj.1
          have : (10 : UInt8).toNat = 10 := rfl
          omega))
        have hno2 := Lib.hid (none_step hfk hno.out HBB.out hb)
        clear hb
        go_wp2
        exact ⟨⟨f, k + 1, L, by go_num, by go_num, by omega, by omega, hO, hB, hS, hno2, hLf, ⟨_, _, rfl⟩⟩, by simp [intOf]; omega⟩
    · have hke : k = s.size := by omega
      subst hke
      have hSE := Lib.hid (show splitP 10 l = L ++ [l.drop f] by rw [hS.out, end_step (f := f) (by rw [HLL.out]; exact hno.out)])
      have hLE := Lib.hid (lines_end hSE.out (by rw [HLL.out]; exact hfk) hLf)
      by_cases hfe : f < s.size
      · have hfei : (f : Int) < (s.size : Int) := by omega
        have hLE2 : Hid (linesP l = (L ++ [l.drop f], false)) := Lib.hid (by rw [hLE.out, if_pos (by rw [HLL.out]; exact hfe)])
        obtain ⟨z, hz⟩ : ∃ z, z = l.drop f := ⟨_, rfl⟩
        have hpc : s.extract f s.size = ⟨z.toArray⟩ := by
          rw [hz, ← HL.out]
          have := bl_from s f
          rw [← this, mk_bl]
        have hfk1 : (f : Int) ≤ (s.size : Int) := by omega
        have HZ := Lib.hid hz
        have hown' : OwnL w.heap.size (wr.alloc (.cells #[.string ⟨z.toArray⟩] 9)) (.slice va L.length vq) L := ownL_below hO.out ((Below.refl _ _).alloc (Nat.le_refl _) _)
        have hzc : (wr.alloc (.cells #[.string ⟨z.toArray⟩] 9)).cell? ⟨wr.heap.size, 0, none⟩ = some (.string ⟨z.toArray⟩) := by rw [World.cell?_alloc_new]; rfl
        have hBa := Lib.hid (hB.out.alloc (by omega) (.cells #[.string ⟨z.toArray⟩] 9))
        clear hz
        go_wp2_with (at_builtin; refine wpList_strapp rfl _ _ rfl w.heap.size _ L rfl hown' wr.heap.size z rfl hzc (by omega) (by simp; omega) ?_)
        intro v' w' hO' hB' a' c' hv'
        subst hv'
        go_wp2
        go_ret2
        exact ⟨_, by rw [hLE2.out]; rfl, by rw [hLE2.out, ← HZ.out]; exact hO', hBa.out.trans hB'⟩
      · have hfei : ¬ (f : Int) < (s.size : Int) := by omega
        have hLE2 : Hid (linesP l = (L, true)) := Lib.hid (by rw [hLE.out, if_neg (by rw [HLL.out]; exact hfe)])
        go_wp2
        go_ret2
        exact ⟨_, by rw [hLE2.out]; rfl, by rw [hLE2.out]; exact hO.out, hB.out⟩
end Go.Proofs.YthfnjphmodcnoaaDoor
