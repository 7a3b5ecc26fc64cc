/- What the walks of scripts and reports ask of the listed variables; the library's contracts in this seat's words. -/
import Derived.Test.YthfnjphmodcnoaaDoorSy
import Derived.Test.YthfnjphmodcnoaaDoorChecked
import Derived.Test.YthfnjphmodcnoaaDoorAa
import Derived.Test.YthfnjphmodcnoaaDoorQ
import Derived.Lib.ItoaMem
import Derived.Lib.AtoiErrMem
import Derived.Lib.SplitLaws
namespace Go.Proofs.YthfnjphmodcnoaaDoor
open Go.RowKit
set_option linter.unusedSimpArgs false
set_option linter.unusedVariables false

def endList : List (List UInt8) := [[], [101, 120, 105, 116], [112, 97, 110, 105, 99], [100, 101, 97, 100, 108, 111, 99, 107], [102, 117, 101, 108], [114, 111, 111, 109]]
def endArr : Array Value := (endList.map fun z => Value.string ⟨z.toArray⟩).toArray
/-- the listed variables hold what their initialisers lay -/
structure Laid (w : World) : Prop where
  size : 9 ≤ w.heap.size
  most : ∃ m, w.cell? ⟨2, 0, none⟩ = some (.int .i64 m)
  range : ∃ ev, w.cell? ⟨4, 0, none⟩ = some ev ∧ (ev = .nilIface ∨ ∃ te pe, ev = .iface te pe)
  syn : ∃ ev, w.cell? ⟨3, 0, none⟩ = some ev ∧ (ev = .nilIface ∨ ∃ te pe, ev = .iface te pe)
  tab : Lib.TabIs Tryd.prog w "internal/strconv.uint64pow10" .u64 Lib.pow10Tab
  ends : ∃ t fr, w.heap[0]? = some (.cells endArr t fr)
theorem tab_below {w w' : World} {name : String} {k : IntKind} {zs : List Int} (h : Lib.TabIs Tryd.prog w name k zs) (hb : Below w.heap.size w w') : Lib.TabIs Tryd.prog w' name k zs := by
  unfold Lib.TabIs World.var? at *
  cases hg : (Tryd.prog).globalNamed name with
  | none => simp [hg] at h
  | some g =>
    simp only [hg, Option.bind_some] at h ⊢
    have hlt : g < w.heap.size := by
      rcases Nat.lt_or_ge g w.heap.size with h' | h'
      · exact h'
      · rw [Array.getElem?_eq_none h'] at h; simp at h
    rw [hb.block g hlt]
    exact h
theorem Laid.below {w w' : World} (h : Laid w) (hb : Below w.heap.size w w') : Laid w' := by
  have hs := h.size
  have hc : ∀ b o, b < 9 → w'.cell? ⟨b, o, none⟩ = w.cell? ⟨b, o, none⟩ := fun b o hlt => hb.cell (p := ⟨b, o, none⟩) (Nat.lt_of_lt_of_le hlt hs)
  obtain ⟨m, hm⟩ := h.most
  obtain ⟨ev, hr, hev⟩ := h.range
  obtain ⟨ev2, hr2, hev2⟩ := h.syn
  obtain ⟨t, fr, hsg⟩ := h.ends
  refine ⟨Nat.le_trans hs hb.size, ⟨m, ?_⟩, ⟨ev, ?_, hev⟩, ⟨ev2, ?_, hev2⟩, tab_below h.tab hb, ⟨t, fr, ?_⟩⟩
  · rw [hc _ _ (by decide)]; exact hm
  · rw [hc _ _ (by decide)]; exact hr
  · rw [hc _ _ (by decide)]; exact hr2
  · rw [hb.block _ (Nat.lt_of_lt_of_le (by decide) hs)]; exact hsg

open Go.Shelf Go.Lib Go.Sort in
theorem below_gr (B : Nat) (w : World) (q : Nat) (os : Array Obj) (hB : B ≤ w.heap.size) : RowKit.Below B w (grow (w.drewN q) os) :=
  ⟨rfl, rfl, rfl, by first | (simp [grow]; done) | (simp [grow]; omega), fun i hi => by
    show ((w.drewN q).heap ++ os)[i]? = _
    rw [Array.getElem?_append_left (by show i < w.heap.size; omega)]
    rfl⟩
theorem itoa_c (n : Int) (w : World) (h : Laid w) (h0 : -9223372036854775808 ≤ n) (h1 : n ≤ 9223372036854775807) : Calls Tryd.prog 22 #[.int .i64 n] w fun e w' => e = .returned (.string ⟨(Lib.itoa n).toArray⟩) ∧ Below w.heap.size w w' :=
  (Tryd.strconv_Itoa n h0 h1 w h.tab).mono fun e w' ⟨h1, q, os, h2⟩ => ⟨h1, h2 ▸ below_gr _ _ q os (Nat.le_refl _)⟩
theorem fint_c (n : Int) (w : World) (h : Laid w) (h0 : -9223372036854775808 ≤ n) (h1 : n ≤ 9223372036854775807) : Calls Tryd.prog 38 #[.int .i64 n, .int .i64 10] w fun e w' => e = .returned (.string ⟨(Lib.itoa n).toArray⟩) ∧ Below w.heap.size w w' :=
  (Tryd.strconv_FormatInt_10 n h0 h1 w h.tab).mono fun e w' ⟨h1, q, os, h2⟩ => ⟨h1, h2 ▸ below_gr _ _ q os (Nat.le_refl _)⟩
/-- ParseUint in tens: its number and no error, or an error -/
theorem puint64_c (s : ByteArray) (w : World) (h : Laid w) (hs : s.size ≤ 1073741824) : Calls Tryd.prog 48 #[.string s, .int .i64 10, .int .i64 64] w fun e w' =>
    (∃ (V : Nat) (ev : Value), e = .returned (.tuple #[.int .u64 (V : Int), ev]) ∧ ((Lib.parseUintB 64 (bl s) = .ok V ∧ ev = .nilIface) ∨ ((∀ u, Lib.parseUintB 64 (bl s) ≠ .ok u) ∧ V ≤ 18446744073709551615 ∧ ∃ t p, ev = .iface t (.pointer (some p))))) ∧ Below w.heap.size w w' := by
  obtain ⟨ev, hr, hev⟩ := h.range
  obtain ⟨ev2, hr2, hev2⟩ := h.syn
  cases hp : Lib.parseUintB 64 (bl s) with
  | ok u =>
    refine (Tryd.strconv_ParseUint_10_at64_ok s (by omega) u hp w).mono fun e w' ⟨h1, h2⟩ => ⟨⟨u, _, h1, .inl ⟨rfl, rfl⟩⟩, ?_⟩
    rcases h2 with rfl | rfl
    · exact Below.refl _ _
    · exact Lib.bytesWorld_below w _ s
  | range =>
    exact (Tryd.strconv_ParseUint_10_at64_range s (by omega) hp ev w hr hev).mono fun e w' ⟨N, h1, _, _, h4⟩ => ⟨⟨18446744073709551615, _, h1, .inr ⟨fun u hu => (by cases hu), Nat.le_refl _, _, _, rfl⟩⟩, h4⟩
  | _ =>
    exact (Any.strconv_ParseUint_10_at64_syntax Tryd.laysPu14 s (by omega) hp ev2 w hr2 hev2).mono fun e w' ⟨N, h1, _, _, h4⟩ => ⟨⟨0, _, h1, .inr ⟨fun u hu => (by cases hu), by omega, _, _, rfl⟩⟩, h4⟩
theorem pint64_c (s : ByteArray) (w : World) (h : Laid w) (hs : s.size ≤ 1073741824) : Calls Tryd.prog 47 #[.string s, .int .i64 10, .int .i64 64] w fun e w' =>
    (∃ (V : Int) (ev : Value), e = .returned (.tuple #[.int .i64 V, ev]) ∧ ((Lib.parseIntB 64 (bl s) = .ok V ∧ ev = .nilIface) ∨ ((∀ u, Lib.parseIntB 64 (bl s) ≠ .ok u) ∧ ∃ t p, ev = .iface t (.pointer (some p))))) ∧ Below w.heap.size w w' := by
  obtain ⟨ev, hr, hev⟩ := h.range
  obtain ⟨ev2, hr2, hev2⟩ := h.syn
  cases hp : Lib.parseIntB 64 (bl s) with
  | ok u =>
    refine (Tryd.strconv_ParseInt_10_at64_ok s (by omega) u hp w).mono fun e w' ⟨h1, h2⟩ => ⟨⟨u, _, h1, .inl ⟨rfl, rfl⟩⟩, ?_⟩
    rcases h2 with rfl | ⟨t, rfl⟩
    · exact Below.refl _ _
    · exact Lib.bytesWorld_below w _ t
  | range =>
    exact (Tryd.strconv_ParseInt_10_at64_range s (by omega) hp ev w hr hev).mono fun e w' ⟨N, h1, _, _, h4⟩ => ⟨⟨_, _, h1, .inr ⟨fun u hu => (by cases hu), _, _, rfl⟩⟩, h4⟩
  | _ =>
    exact (Any.strconv_ParseInt_10_at64_syntax Tryd.laysC174 s (by omega) hp ev2 w hr2 hev2).mono fun e w' ⟨N, h1, _, _, h4⟩ => ⟨⟨_, _, h1, .inr ⟨fun u hu => (by cases hu), _, _, rfl⟩⟩, h4⟩

/-! ### pieces -/
theorem splitK_P (c : UInt8) : ∀ (n : Nat) (l : List UInt8), l.length ≤ n → Lib.splitK [c] 0 (l.count c) l = splitP c l := by
  intro n
  induction n with
  | zero =>
    intro l hl
    have : l = [] := List.length_eq_zero_iff.1 (by omega)
    subst this
    rfl
  | succ n ih =>
    intro l hl
    by_cases hc : c ∈ l
    · have h1 : ¬ Lib.indexByte l c = -1 := by
        intro h
        obtain ⟨k, hk, hk2⟩ := List.getElem_of_mem hc
        exact Lib.indexByte_none h k (by rw [List.getElem?_eq_getElem hk, hk2])
      obtain ⟨o, ho⟩ : ∃ o : Nat, Lib.indexByte l c = (o : Int) := by
        have := Lib.indexByte_ge l c
        exact ⟨(Lib.indexByte l c).toNat, by omega⟩
      obtain ⟨h2, h3⟩ := Lib.indexByte_some ho
      have hol : o < l.length := (List.getElem?_eq_some_iff.1 h2).1
      have hoc : l[o] = c := by rw [List.getElem?_eq_getElem hol] at h2; exact Option.some.inj h2
      have hno : c ∉ l.take o := by
        intro h
        obtain ⟨k, hk, hk2⟩ := List.getElem_of_mem h
        rw [List.length_take] at hk
        rw [List.getElem_take] at hk2
        exact h3 k (by omega) (by rw [List.getElem?_eq_getElem (by omega), hk2])
      have hl2 : l = l.take o ++ c :: l.drop (o + 1) := by
        conv => lhs; rw [← List.take_append_drop o l]
        rw [List.drop_eq_getElem_cons hol, hoc]
      have hcnt : l.count c = (l.drop (o + 1)).count c + 1 := by
        conv => lhs; rw [hl2]
        rw [List.count_append, List.count_cons_self, List.count_eq_zero.2 hno]; omega
      have hix : Lib.index l [c] = (o : Int) := by rw [Lib.index_one]; exact ho
      rw [hcnt, Lib.splitK, hix]
      have hb : ((o : Int) == -1) = false := by rw [beq_eq_false_iff_ne]; omega
      rw [hb]
      simp only [Bool.false_eq_true, if_false, Int.toNat_natCast, Nat.add_zero, List.length_singleton]
      rw [ih _ (by rw [List.length_drop]; omega)]
      conv => rhs; rw [hl2, splitP_app c _ _ hno]
    · rw [List.count_eq_zero.2 hc, splitP_none c l hc]
      rfl
theorem splitB_P (c : UInt8) (s : ByteArray) : (Lib.splitB ⟨#[c]⟩ 0 (Lib.countB s ⟨#[c]⟩) s).map bl = splitP c (bl s) := by
  have h := Lib.splitB_data ⟨#[c]⟩ 0 (Lib.countB s ⟨#[c]⟩) s
  have hc : Lib.countB s ⟨#[c]⟩ = (bl s).count c := Lib.count_one c (bl s)
  rw [hc] at h ⊢
  exact h.trans (splitK_P c _ (bl s) (Nat.le_refl _))
theorem split_c (c : UInt8) (s : ByteArray) (w : World) (h : Laid w) (hs : s.size ≤ 1073741824) : Calls Tryd.prog 21 #[.string s, .string ⟨#[c]⟩] w fun e w' =>
    e = .returned (.slice (some ⟨w.heap.size, 0, none⟩) (splitP c (bl s)).length (splitP c (bl s)).length) ∧ w' = w.alloc (.cells ((splitP c (bl s)).map fun z => Value.string ⟨z.toArray⟩).toArray 9) := by
  obtain ⟨m, hm⟩ := h.most
  have hl : (splitP c (bl s)).length = Lib.countB s ⟨#[c]⟩ + 1 := by
    rw [← splitB_P, List.length_map]; exact Lib.splitB_all _ (show 1 ≤ (#[c] : Array UInt8).size from Nat.le_refl 1) 0 _ s rfl
  have hz : ((splitP c (bl s)).map fun z => Value.string ⟨z.toArray⟩) = (Lib.splitB ⟨#[c]⟩ 0 (Lib.countB s ⟨#[c]⟩) s).map Value.string := by
    rw [← splitB_P, List.map_map]
    refine List.map_congr_left fun x _ => ?_
    show Value.string ⟨(bl x).toArray⟩ = _
    rw [mk_bl]
  rw [hl, hz]
  exact Tryd.strings_Split s ⟨#[c]⟩ m w (by omega) hm (show 1 ≤ (#[c] : Array UInt8).size from Nat.le_refl 1)
end Go.Proofs.YthfnjphmodcnoaaDoor
