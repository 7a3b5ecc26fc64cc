/- A buffer of bytes in new memory, told by its cells (also one that a conversion from a string has made): one law for appends of bytes. -/
import Derived.Test.YthfnjphmodcnoaaDoorAb
import Derived.Lib.ConvBytes
import Derived.Deep.AppendSrc
import Derived.Laws.IdiomCopy
import Derived.Laws.IdiomStrings
namespace Go.Proofs.YthfnjphmodcnoaaDoor
open Go.RowKit
set_option linter.unusedSimpArgs false
set_option linter.unusedVariables false

def bcells (l : List UInt8) : List Value := l.map fun b => Value.int .u8 (b.toNat : Int)
theorem bcells_len (l : List UInt8) : (bcells l).length = l.length := by simp [bcells]
theorem bcells_str (s : ByteArray) : byteCells s = bcells (bl s) := rfl
def Buf (B : Nat) (w : World) (v : Value) (l : List UInt8) : Prop :=
  ∃ g cap, v = .slice (some ⟨g, 0, none⟩) l.length cap ∧ B ≤ g ∧ l.length ≤ cap ∧ cap ≤ maxLen ∧ (∀ (j : Nat) (b : UInt8), l[j]? = some b → w.cell? ⟨g, j, none⟩ = some (.int .u8 (b.toNat : Int))) ∧
    (∀ j, j < cap → (w.cell? ⟨g, j, none⟩).isSome = true ∧ w.frozen? ⟨g, j, none⟩ = false)
theorem buf_lt {B : Nat} {w : World} {g cap : Nat} (h : ∀ j, j < cap → (w.cell? ⟨g, j, none⟩).isSome = true ∧ w.frozen? ⟨g, j, none⟩ = false) (hc : 0 < cap) : g < w.heap.size := by
  obtain ⟨v, hv⟩ := Option.isSome_iff_exists.1 (h 0 hc).1
  exact Lib.lt_of_cell hv
theorem buf_below {B : Nat} {w w' : World} {v : Value} {l : List UInt8} (h : Buf B w v l) (hb : Below w.heap.size w w') : Buf B w' v l := by
  obtain ⟨g, cap, h1, h2, h3, h4, h5, h6⟩ := h
  refine ⟨g, cap, h1, h2, h3, h4, fun j b hj => (hb.cell (p := ⟨g, j, none⟩) (Lib.lt_of_cell (h5 j b hj))).trans (h5 j b hj), fun j hj => ?_⟩
  have hg := buf_lt (B := B) h6 (by omega)
  have he : w'.heap[g]? = w.heap[g]? := hb.block g hg
  rw [World.cell?_of_block (a := ⟨g, j, none⟩) he, World.frozen?_of_block (a := ⟨g, j, none⟩) he]
  exact h6 j hj
theorem below_setCells {B g : Nat} (hg : B ≤ g) : ∀ (vs : List Value) (o : Nat) (w0 w : World), Below B w0 w → Below B w0 (w.setCells g o vs)
  | [], _, _, _, h => h
  | v :: vs, o, w0, w, h => below_setCells hg vs (o + 1) w0 _ (h.setCell (p := ⟨g, o, none⟩) hg v)
theorem buf_conv (w : World) (s : ByteArray) (hs : s.size ≤ 140737488355328) : Buf w.heap.size (Lib.bytesWorld w 5 s) (.slice (some ⟨w.heap.size, 0, none⟩) s.size (grownCap w s.size 0 5)) (bl s) := by
  have h1 := grownCap_ge w s.size 0 5
  have h2 := grownCap_le_maxLen w s.size 0 5 (by unfold maxLen; omega)
  have hn := Lib.bytesWorld_at_new w 5 s
  have hsz : (Lib.bytesCells w 5 s).size = grownCap w s.size 0 5 := by
    unfold Lib.bytesCells
    rw [Array.size_append, Array.size_map, Array.size_replicate]
    show s.size + _ = _
    omega
  refine ⟨w.heap.size, _, by rw [bl_len], Nat.le_refl _, by rw [bl_len]; exact h1, h2, fun j b hj => ?_, fun j hj => ⟨?_, ?_⟩⟩
  · have hj2 : j < s.size := by rw [← bl_len]; exact (List.getElem?_eq_some_iff.1 hj).1
    rw [Lib.bytesWorld_cell w _ s j hj2, List.getD_eq_getElem?_getD, show s.data.toList[j]? = some b from hj]
    rfl
  · unfold World.cell?
    rw [hn]
    simp [hsz, hj]
  · unfold World.frozen?
    rw [hn]
    simp only [hsz]
    simp; omega
theorem buf_append (t tx ty : TypeId) (i : TypeInfo) (ht : (Tryd.prog).underlying t = some (.slice 5)) (hi : (Tryd.prog).info? 5 = some i) (hz : i.zero = some (.int .u8 0)) (h1 : i.size = 1) (h2 : i.bytes = 1)
    (B : Nat) (w : World) (v : Value) (l m : List UInt8) (h : Buf B w v l) (hB : B ≤ w.heap.size) (xv : Value) (hs : Src Tryd.prog 1 tx xv m.length (bcells m) w) (hlen : l.length + m.length ≤ 140737488355328) :
    ∃ v' w', (Builtin.append_ #[t, tx] ty #[v, xv]).run Tryd.prog w = .ok v' w' ∧ Buf B w' v' (l ++ m) ∧ Below B w w' := by
  obtain ⟨g, cap, rfl, hg, hl, hc, hh, hf⟩ := h
  by_cases hroom : l.length + m.length ≤ cap
  · have hr := run_append_room_src (P := Tryd.prog) w t tx ty 5 i ht hi g 0 l.length cap xv m.length (bcells m) (by rw [h1]; exact hs) hroom
      (fun j hj => by rw [h1]; rw [bcells_len] at hj; exact (hf _ (by omega)).1) (fun j hj => by rw [h1]; rw [bcells_len] at hj; exact (hf _ (by omega)).2)
    rw [h1, Nat.mul_one, Nat.zero_add] at hr
    have hin := World.cell?_setCells_in g (bcells m) l.length w (fun j hj => by rw [bcells_len] at hj; exact (hf _ (by omega)).1)
    have hout := World.cell?_setCells_out g (bcells m) l.length w
    refine ⟨_, _, hr, ⟨g, cap, by rw [List.length_append], hg, by rw [List.length_append]; exact hroom, hc, fun j b hj => ?_, fun j hj => ⟨?_, ?_⟩⟩, below_setCells hg _ _ _ _ (Below.refl _ _)⟩
    · by_cases hj2 : j < l.length
      · rw [hout ⟨g, j, none⟩ (fun _ _ => .inl hj2)]
        rw [List.getElem?_append_left hj2] at hj
        exact hh j b hj
      · rw [List.getElem?_append_right (by omega)] at hj
        obtain ⟨hjm, hjb⟩ := List.getElem?_eq_some_iff.1 hj
        have := hin (j - l.length) (by rw [bcells_len]; exact hjm)
        rw [show l.length + (j - l.length) = j by omega] at this
        rw [this]
        simp [bcells, hjb]
    · by_cases hj2 : l.length ≤ j ∧ j < l.length + (bcells m).length
      · have := hin (j - l.length) (by omega)
        rw [show l.length + (j - l.length) = j by omega] at this
        rw [this]; rfl
      · rw [hout ⟨g, j, none⟩ (fun _ _ => show j < l.length ∨ l.length + (bcells m).length ≤ j by omega)]
        exact (hf j hj).1
    · rw [World.frozen?_setCells]
      exact (hf j hj).2
  · have hold : (Builtin.firstCells i.size l.length (.slice (some ⟨g, 0, none⟩) l.length cap)).run Tryd.prog w.drew = .ok (bcells l).toArray w.drew := by
      rw [h1]
      refine run_firstCells_some w.drew 1 l.length ⟨g, 0, none⟩ l.length cap (bcells l) (by rw [bcells_len, Nat.mul_one]) (fun j u hu => ?_)
      rw [Addr.add_lit, Nat.zero_add]
      simp only [bcells, List.getElem?_map, Option.map_eq_some_iff] at hu
      obtain ⟨b, hb, rfl⟩ := hu
      exact hh j b hb
    have hr := run_append_grow_src (P := Tryd.prog) w t tx ty 5 i (.int .u8 0) ht hi hz (some ⟨g, 0, none⟩) l.length cap (bcells l) hold xv m.length (bcells m) (by rw [h1]; exact hs) (by omega) (by omega) (growslice_fits (by omega) (by rw [h2]; omega))
    have hge := grownCap_ge w (l.length + m.length) cap 5
    have hle := grownCap_le_maxLen w (l.length + m.length) cap 5 (by unfold maxLen; omega)
    generalize hC : grownCap w (l.length + m.length) cap 5 = C at hr hge hle
    have hzc : (Builtin.zeroCells (Value.int .u8 0).cells (C - (l.length + m.length))) = Array.replicate (C - (l.length + m.length)) (.int .u8 0) := by
      simp [Builtin.zeroCells, Value.cells]
      apply Array.ext
      · simp
      · intro k h1 h2; simp [Nat.mod_one]
    rw [hzc] at hr
    have hcell : ∀ j, (w.drew.alloc (.cells ((bcells l ++ bcells m).toArray ++ Array.replicate (C - (l.length + m.length)) (.int .u8 0)) 5)).cell? ⟨w.heap.size, j, none⟩ = ((bcells l ++ bcells m).toArray ++ Array.replicate (C - (l.length + m.length)) (.int .u8 0))[j]? := fun j => World.cell?_alloc_new w.drew _ _ j
    refine ⟨_, _, hr, ⟨w.heap.size, C, by rw [List.length_append], hB, by rw [List.length_append]; exact hge, hle, fun j b hj => ?_, fun j hj => ⟨?_, ?_⟩⟩, ((Below.refl B w).drew).alloc hB _⟩
    · have hj2 := (List.getElem?_eq_some_iff.1 hj).1
      rw [List.length_append] at hj2
      rw [hcell, Array.getElem?_append_left (by simp [bcells_len]; exact hj2), List.getElem?_toArray, show bcells l ++ bcells m = bcells (l ++ m) by simp [bcells]]
      unfold bcells
      rw [List.getElem?_map, hj]; rfl
    · rw [hcell]
      rw [Array.getElem?_eq_getElem (by simp [bcells_len]; omega)]; rfl
    · unfold World.frozen?
      rw [show (w.drew.alloc (.cells ((bcells l ++ bcells m).toArray ++ Array.replicate (C - (l.length + m.length)) (.int .u8 0)) 5)).heap[w.heap.size]? = some (.cells ((bcells l ++ bcells m).toArray ++ Array.replicate (C - (l.length + m.length)) (.int .u8 0)) 5 (0, 0)) from by
        show (w.heap.push _)[w.heap.size]? = _
        rw [Array.getElem?_push_size]]
      simp
theorem src_str (w : World) (s : ByteArray) : Src Tryd.prog 1 9 (.string s) (bl s).length (bcells (bl s)) w := by
  have := Src.ofString (P := Tryd.prog) w (tx := 9) Tryd.underlying9 s
  rw [bcells_str, ← bl_len] at this
  exact this
theorem src_one (w : World) (g : Nat) (b : UInt8) (hg : w.cell? ⟨g, 0, none⟩ = some (.int .u8 (b.toNat : Int))) (c : Nat) : Src Tryd.prog 1 63 (.slice (some ⟨g, 0, none⟩) 1 c) [b].length (bcells [b]) w := by
  refine Src.ofSlice (P := Tryd.prog) w Tryd.underlying63 ⟨g, 0, none⟩ 1 c (bcells [b]) (by simp [bcells]) (fun j u hj => ?_) (fun u hu => by simp [bcells] at hu; subst hu; rfl)
  have hj1 := (List.getElem?_eq_some_iff.1 hj).1
  rw [bcells_len, List.length_singleton] at hj1
  obtain rfl : j = 0 := by omega
  simp [bcells] at hj
  subst hj
  rw [Addr.add_lit]
  exact hg
/-- the append of a walk -/
theorem wpList_buf {ops : Array Oper} {rest : List Oper} {o : Oper} {a : Act} {Q : Exit → Act → World → Prop} {w : World} (hgd : o.guard = none) (sl x : Operand) (t tx : TypeId)
    (ho : o.op = .call { callee := .builtin .append, args := #[sl, x], argTypes := #[t, tx] })
    (i : TypeInfo) (ht : (Tryd.prog).underlying t = some (.slice 5)) (hi : (Tryd.prog).info? 5 = some i) (hz : i.zero = some (.int .u8 0)) (h1 : i.size = 1) (h2 : i.bytes = 1)
    (B : Nat) (v : Value) (l m : List UInt8) (hv : a.eval sl = v) (h : Buf B w v l) (hB : B ≤ w.heap.size) (xv : Value) (hx : a.eval x = xv) (hs : Src Tryd.prog 1 tx xv m.length (bcells m) w) (hlen : l.length + m.length ≤ 140737488355328)
    (hK : ∀ v' w', Buf B w' v' (l ++ m) → Below B w w' → wpList Tryd.prog ops Q rest (a.put o.dst v') w') : wpList Tryd.prog ops Q (o :: rest) a w := by
  refine wpList_plain hgd fun K hK' => ?_
  obtain ⟨v', w', hr, h2, h3⟩ := buf_append t tx o.type i ht hi hz h1 h2 B w v l m h hB xv hs hlen
  unfold Oper.wp execOp
  simp only [ho, resolve, invoke, builtin, Sem.run_bind, Sem.run_pure, Result.andThen_ok, List.map_toArray, List.map_cons, List.map_nil, hv, hx, hr]
  exact hK' _ _ (hK v' w' h2 h3)
/-- back to a string -/
theorem buf_back {B : Nat} {w : World} {v : Value} {l : List UInt8} (h : Buf B w v l) : (convert 63 9 v).run Tryd.prog w = .ok (.string ⟨l.toArray⟩) w := by
  obtain ⟨g, cap, rfl, -, -, -, hh, -⟩ := h
  exact run_convert_bytes_back (P := Tryd.prog) w 63 9 5 ⟨g, 0, none⟩ cap l Tryd.underlying63 Tryd.underlying5 Tryd.underlying9 (fun j hj => by
    rw [Addr.add_lit, Nat.zero_add]
    exact hh j _ (List.getElem?_eq_getElem hj))
end Go.Proofs.YthfnjphmodcnoaaDoor
