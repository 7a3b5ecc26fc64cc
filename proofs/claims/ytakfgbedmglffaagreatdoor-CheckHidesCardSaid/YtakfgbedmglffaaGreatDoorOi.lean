/- From the rows' condition to what the evaluator's runs ask of the listed variables ('Laid'): the tables of signs and of operators. -/
import Derived.Test.YtakfgbedmglffaaGreatDoorCards
import Derived.Test.YtakfgbedmglffaaGreatDoorOa
import Derived.Lib.LaidU8
import Derived.Lib.LaidTab
import Derived.Shelf.Vars
import Derived.OpenShut
import Derived.ChangeSlices
namespace Go.Proofs.YtakfgbedmglffaaGreatDoor
open Go.RowKit
set_option linter.unusedSimpArgs false
set_option linter.unusedVariables false

theorem cells_of_strs {H : Type} {enc : TypeId × Value → H} {P : Program} {w : World} {base : Nat} {sp : Nat → Bool} {held : Bool} {fuel : Nat} {t e : TypeId} {n : Nat} {cs : List Value} {zs : List (List UInt8)} {p : List MemPlace}
    (ht : P.underlying t = some (.array n e)) (he : P.underlying e = some .string) (hce : P.cellsOf e = 1) (hct : P.cellsOf t = n)
    (h : DataW.trod enc P w base sp held fuel t cs = some (.agg (zs.map fun z => .lit (.string z)), p)) : cs = zs.map fun z => Value.string ⟨z.toArray⟩ := by
  obtain ⟨xs, m, rfl, hx, hl, hxl, hall⟩ := DataW.trod_array ht h
  have hxs : xs.map (·.1) = zs.map fun z => (DataW.lit (.string z) : DataW H) := by
    have := congrArg Prod.fst hx
    simpa using this.symm
  have hzl : zs.length = n := by
    have := congrArg List.length hxs
    simp at this; omega
  apply List.ext_getElem?
  intro i
  by_cases hi : i < n
  · have h1 := hall i hi
    rw [hce] at h1
    obtain ⟨b, hb⟩ : ∃ b, xs[i]? = some b := ⟨xs[i]'(by omega), List.getElem?_eq_getElem (by omega)⟩
    rw [hb] at h1
    obtain ⟨s, hcz, rfl, _⟩ := DataW.trod_string he h1
    have h2 : cs[i]? = some (.string s) := by
      have := congrArg (·[0]?) hcz
      simpa [List.getElem?_take, List.getElem?_drop] using this
    have h3 : (xs.map (·.1))[i]? = some (DataW.lit (.string s.data.toList) : DataW H) := by simp [hb]
    rw [hxs] at h3
    simp only [List.getElem?_map, Option.map_eq_some_iff, DataW.lit.injEq, Lit.string.injEq] at h3
    obtain ⟨z', hz', e'⟩ := h3
    rw [h2]
    simp only [List.getElem?_map, hz', Option.map_some, e']
  · rw [List.getElem?_eq_none (by omega), List.getElem?_eq_none (by simp; omega)]
/-- a slice of texts that reads as these texts holds them -/
theorem slice_of_strs {H : Type} {enc : TypeId × Value → H} {P : Program} {w : World} {base : Nat} {sp : Nat → Bool} {held : Bool} {fuel : Nat} {t e : TypeId} {cs : List Value} {zs : List (List UInt8)} {r : List (DataW H)} {p : List MemPlace}
    (ht : P.underlying t = some (.slice e)) (he : P.underlying e = some .string) (hce : P.cellsOf e = 1) (hz : 0 < zs.length)
    (h : DataW.trod enc P w base sp held fuel t cs = some (.slice (zs.map fun z => .lit (.string z)) r, p)) :
    ∃ b o c, cs = [.slice (some ⟨b, o, none⟩) zs.length c] ∧ zs.length ≤ c ∧ c ≤ maxLen ∧ ∀ (j : Nat) (x : List UInt8), zs[j]? = some x → w.cell? ⟨b, o + j, none⟩ = some (strV x) := by
  rcases DataW.trod_slice ht h with ⟨-, h1⟩ | ⟨a, len, cap, elems, rest, n, rfl, rfl, hx, hb, hlc, hcm, hel, hat, -, -⟩
  · cases h1
  · have hes : elems.map (·.1) = zs.map fun z => (DataW.lit (.string z) : DataW H) := by
      have := congrArg Prod.fst hx
      simp only [DataW.slice.injEq] at this
      exact this.1.symm
    have hzl : zs.length = len := by
      have := congrArg List.length hes
      simp at this; omega
    have key : ∀ (i : Nat) (x : List UInt8), zs[i]? = some x → w.cell? (a.add i) = some (strV x) := fun i x hi => by
      have hlt : i < len := by
        have := (List.getElem?_eq_some_iff.1 hi).1
        omega
      have h1 := hat i hlt
      rw [hce, Nat.mul_one] at h1
      obtain ⟨el, hel'⟩ : ∃ el, elems[i]? = some el := ⟨elems[i]'(by omega), List.getElem?_eq_getElem (by omega)⟩
      rw [hel'] at h1
      obtain ⟨cs', hc1, hc2⟩ := Option.bind_eq_some_iff.1 h1
      obtain ⟨s, rfl, rfl, -⟩ := DataW.trod_string he hc2
      have h3 : (elems.map (·.1))[i]? = some (DataW.lit (.string s.data.toList) : DataW H) := by simp [hel']
      rw [hes] at h3
      simp only [List.getElem?_map, hi, Option.map_some, Option.some.injEq, DataW.lit.injEq, Lit.string.injEq] at h3
      rw [ChangeShapes.cell_of_cells?_one hc1]
      unfold strV
      rw [h3]
    have hsp : a.spot = none := by
      have h0 := key 0 zs[0] (List.getElem?_eq_getElem hz)
      rw [show a.add 0 = a from rfl] at h0
      unfold World.cell? at h0
      split at h0
      · split at h0
        · cases h0
        · rename_i hs
          cases hsp : a.spot with
          | none => rfl
          | some _ => rw [hsp] at hs; exact absurd rfl hs
      · cases h0
    obtain ⟨b, o, sp'⟩ := a
    dsimp only at hsp
    subst hsp
    refine ⟨b, o, cap, by rw [hzl], by omega, hcm, fun j x hj => ?_⟩
    have := key j x hj
    unfold Addr.add at this
    split at this
    · rename_i h0
      subst h0
      exact this
    · exact this
theorem array_of_slices {H : Type} {enc : TypeId × Value → H} {P : Program} {w : World} {base : Nat} {sp : Nat → Bool} {held : Bool} {fuel : Nat} {t u e : TypeId} {n : Nat} {cs : List Value} {zss : List (List (List UInt8))} {p : List MemPlace}
    (ht : P.underlying t = some (.array n u)) (hu : P.underlying u = some (.slice e)) (he : P.underlying e = some .string) (hce : P.cellsOf e = 1) (hcu : P.cellsOf u = 1) (hct : P.cellsOf t = n) (hz : ∀ zs ∈ zss, 0 < zs.length)
    (h : DataW.trod enc P w base sp held fuel t cs = some (.agg (zss.map fun zs => .slice (zs.map fun z => .lit (.string z)) []), p)) :
    cs.length = zss.length ∧ ∀ (i : Nat) (zs : List (List UInt8)), zss[i]? = some zs → ∃ b o c : Nat, cs[i]? = some (.slice (some ⟨b, o, none⟩) zs.length c) ∧ zs.length ≤ c ∧ c ≤ maxLen ∧ ∀ (j : Nat) (x : List UInt8), zs[j]? = some x → w.cell? ⟨b, o + j, none⟩ = some (strV x) := by
  obtain ⟨xs, m, rfl, hx, hl, hxl, hall⟩ := DataW.trod_array ht h
  have hxs : xs.map (·.1) = zss.map fun zs => (DataW.slice (zs.map fun z => .lit (.string z)) [] : DataW H) := by
    have := congrArg Prod.fst hx
    simpa using this.symm
  have hzl : zss.length = n := by
    have := congrArg List.length hxs
    simp at this; omega
  refine ⟨by omega, fun i zs hi => ?_⟩
  have hlt : i < n := by
    have := (List.getElem?_eq_some_iff.1 hi).1
    omega
  have h1 := hall i hlt
  rw [hcu] at h1
  obtain ⟨b, hb⟩ : ∃ b, xs[i]? = some b := ⟨xs[i]'(by omega), List.getElem?_eq_getElem (by omega)⟩
  rw [hb] at h1
  have h3 : (xs.map (·.1))[i]? = some b.1 := by simp [hb]
  rw [hxs] at h3
  simp only [List.getElem?_map, hi, Option.map_some, Option.some.injEq] at h3
  obtain ⟨b1, b2⟩ := b
  dsimp only at h3
  subst h3
  obtain ⟨b, o, c, k1, k2, k3, k4⟩ := slice_of_strs hu he hce (hz zs (List.mem_of_getElem? hi)) h1
  refine ⟨b, o, c, ?_, k2, k3, k4⟩
  have := congrArg (·[0]?) k1
  simpa [List.getElem?_take, List.getElem?_drop] using this
theorem signs_row : ((((begin Tryz.prog (fun _ _ => 0) default).world.heap[0]?).bind Obj.row?).map (·.2)) = some 130 := by kernel_rfl
theorem ops_row : ((((begin Tryz.prog (fun _ _ => 0) default).world.heap[4]?).bind Obj.row?).map (·.2)) = some 188 := by kernel_rfl
def laidList : List (String × DataW Unit) := [("math/bits.deBruijn32tab", Rows.laid_math_bits_deBruijn32tab), ("math/bits.deBruijn64tab", Rows.laid_math_bits_deBruijn64tab), ("internal/strconv.uint64pow10", Rows.laid_internal_strconv_uint64pow10), ("unicode/utf8.acceptRanges", Rows.laid_unicode_utf8_acceptRanges), ("strconv.ErrRange", Rows.laid_strconv_ErrRange), ("strconv.ErrSyntax", Rows.laid_strconv_ErrSyntax), ("mullion/scan.signs", Rows.laid_mullion_scan_signs), ("mullion/tree.Ops", Rows.laid_mullion_tree_Ops), ("unicode/utf8.first", Rows.laid_unicode_utf8_first)]
/-- a variable's block: of its type, nothing frozen -/
theorem whole_row {W : World} (hsh : W.ShapedOpen Tryz.prog) {g : Nat} {t : TypeId} {n : String} {cs : Array Value} (hrow : ((((begin Tryz.prog (fun _ _ => 0) default).world.heap[g]?).bind Obj.row?).map (·.2)) = some t) (hg : (Tryz.prog).globalNamed n = some g) (hgl : g < (Tryz.prog).globals.size) (hvar : W.var? Tryz.prog n = some cs) :
    W.heap[g]? = some (.cells cs t) := by
  unfold World.var? at hvar
  rw [hg] at hvar
  simp only [Option.bind_some] at hvar
  split at hvar
  · rename_i cs' t' fr' hh
    cases hvar
    cases hr : ((begin Tryz.prog (fun _ _ => 0) default).world.heap[g]?).bind Obj.row? with
    | none => rw [hr] at hrow; cases hrow
    | some zt =>
      obtain ⟨zero, t0⟩ := zt
      have ht0 : t0 = t := by
        rw [hr] at hrow
        exact Option.some.inj hrow
      obtain ⟨cs2, h1, -, -⟩ := hsh.1 g zero t0 hgl hr
      rw [h1] at hh ⊢
      simp only [Option.some.injEq, Obj.cells.injEq] at hh
      obtain ⟨e1, -, -⟩ := hh
      rw [e1, ht0]
  · cases hvar
theorem most_of : ∀ w : World, w.ShapedOpen Tryz.prog → ∃ m, w.cell? ⟨3, 0, none⟩ = some (.int .i64 m) := fun w h => Go.Proofs.cell_of_shapedOpen_int (zero := #[.int .i64 0]) (t := 3) h (of_decide_eq_true (by kernel_rfl)) (by kernel_rfl) rfl (by kernel_rfl) (by kernel_rfl) Tryz.underlying3
theorem laid_of {W : World} (h : laidMet Tryz.prog laidList W) (hsh : W.ShapedOpen Tryz.prog) : ∃ f, Laid W f := by
  have hr : ∀ n d, (n, d) ∈ laidList → Lib.VarReads Tryz.prog W n d := fun n d hm => Lib.laidMet.reads h hm
  have hsize : 10 ≤ W.heap.size := by
    obtain ⟨g, t, cs, fuel, p, hg, hty, hvar, hd⟩ := hr "math/bits.deBruijn64tab" _ (by unfold laidList; repeat (first | exact List.Mem.head _ | apply List.Mem.tail))
    have hg' : (Tryz.prog).globalNamed "math/bits.deBruijn64tab" = some 9 := by kernel_rfl
    obtain rfl := Option.some.inj (hg'.symm.trans hg)
    unfold World.var? at hvar
    rw [hg'] at hvar
    rcases Nat.lt_or_ge 9 W.heap.size with h' | h'
    · exact h'
    · simp [Array.getElem?_eq_none h'] at hvar
  have hsigns : W.heap[0]? = some (.cells signCells.toArray 130) := by
    obtain ⟨g, t, cs, fuel, p, hg, hty, hvar, hd⟩ := hr "mullion/scan.signs" _ (by unfold laidList; repeat (first | exact List.Mem.head _ | apply List.Mem.tail))
    have hg' : (Tryz.prog).globalNamed "mullion/scan.signs" = some 0 := by kernel_rfl
    have ht' : ((Tryz.prog).globals[0]?).map (·.type) = some 130 := by kernel_rfl
    obtain rfl := Option.some.inj (hg'.symm.trans hg)
    obtain rfl := Option.some.inj (ht'.symm.trans hty)
    have hcs := cells_of_strs (zs := signsL) Tryz.underlying130 Tryz.underlying9 (by kernel_rfl) (by kernel_rfl) hd
    rw [whole_row hsh signs_row hg' (by decide +kernel) hvar]
    congr 2
    apply Array.toList_inj.1
    rw [hcs]
    rfl
  obtain ⟨g, t, cs, fuel, p, hg, hty, hvar, hd⟩ := hr "mullion/tree.Ops" _ (by unfold laidList; repeat (first | exact List.Mem.head _ | apply List.Mem.tail))
  have hg' : (Tryz.prog).globalNamed "mullion/tree.Ops" = some 4 := by kernel_rfl
  have ht' : ((Tryz.prog).globals[4]?).map (·.type) = some 188 := by kernel_rfl
  obtain rfl := Option.some.inj (hg'.symm.trans hg)
  obtain rfl := Option.some.inj (ht'.symm.trans hty)
  obtain ⟨hlen, key⟩ := array_of_slices (zss := opsLL) Tryz.underlying188 Tryz.underlying22 Tryz.underlying9 (by kernel_rfl) (by kernel_rfl) (by kernel_rfl) (by decide) hd
  obtain ⟨b0, o0, c0, x0, y0, z0, q0⟩ := key 0 _ rfl
  obtain ⟨b1, o1, c1, x1, y1, z1, q1⟩ := key 1 _ rfl
  obtain ⟨b2, o2, c2, x2, y2, z2, q2⟩ := key 2 _ rfl
  obtain ⟨b3, o3, c3, x3, y3, z3, q3⟩ := key 3 _ rfl
  obtain ⟨b4, o4, c4, x4, y4, z4, q4⟩ := key 4 _ rfl
  let f : Where := fun i => match i with
    | 0 => (b0, o0, c0)
    | 1 => (b1, o1, c1)
    | 2 => (b2, o2, c2)
    | 3 => (b3, o3, c3)
    | _ => (b4, o4, c4)
  have hcs : cs.toList = opsAt f := by
    have hl5 : cs.toList.length = 5 := hlen
    match hm : cs.toList, hl5 with
    | [v0, v1, v2, v3, v4], _ =>
      rw [hm] at x0 x1 x2 x3 x4
      cases x0; cases x1; cases x2; cases x3; cases x4
      rfl
  refine ⟨f, hsize, ?_, hsigns, ?_, fun i hi => ?_, fun i z hz j x hx => ?_⟩
  · exact most_of W hsh
  · rw [whole_row hsh ops_row hg' (by decide +kernel) hvar]
    congr 2
    apply Array.toList_inj.1
    rw [hcs]
  · rcases (by omega : i = 0 ∨ i = 1 ∨ i = 2 ∨ i = 3 ∨ i = 4) with rfl | rfl | rfl | rfl | rfl
    · exact ⟨y0, z0⟩
    · exact ⟨y1, z1⟩
    · exact ⟨y2, z2⟩
    · exact ⟨y3, z3⟩
    · exact ⟨y4, z4⟩
  · have hi : i < 5 := (List.getElem?_eq_some_iff.1 hz).1
    rcases (by omega : i = 0 ∨ i = 1 ∨ i = 2 ∨ i = 3 ∨ i = 4) with rfl | rfl | rfl | rfl | rfl
    · cases hz; exact q0 j x hx
    · cases hz; exact q1 j x hx
    · cases hz; exact q2 j x hx
    · cases hz; exact q3 j x hx
    · cases hz; exact q4 j x hx
end Go.Proofs.YtakfgbedmglffaaGreatDoor
