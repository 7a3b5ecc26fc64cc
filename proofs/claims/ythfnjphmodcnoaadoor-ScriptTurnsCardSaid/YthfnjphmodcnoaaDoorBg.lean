/- The walk of ScriptTurns. -/
import Derived.Test.YthfnjphmodcnoaaDoorBd
import Derived.Test.YthfnjphmodcnoaaDoorBe
import Derived.Test.YthfnjphmodcnoaaDoorBf
import Derived.Test.YthfnjphmodcnoaaDoorBh
import Derived.Test.YthfnjphmodcnoaaDoorH
import Derived.Deep.CutBlock
import Derived.Deep.CutRange
import Derived.Deep.DeepCutAuto
namespace Go.Proofs.YthfnjphmodcnoaaDoor
open Go.RowKit
set_option linter.unusedSimpArgs false
set_option linter.unusedVariables false

theorem pv_slice {w : World} {base : Nat} {pv : Value} {l : List Nat} (h : w.ownsRow base 22 1 pv l.length (pickV l)) : ∃ a n c, pv = .slice a n c := by
  rcases h.2 with ⟨rfl, -⟩ | ⟨g, c, -, rfl, -⟩
  · exact ⟨_, _, _, rfl⟩
  · exact ⟨_, _, _, rfl⟩
theorem picksT_snoc : ∀ (l : List Nat) (v : Nat), picksT (l ++ [v]) = picksT l ++ 32 :: Lib.decDigits v
  | [], v => by simp [picksT]
  | x :: l, v => by rw [List.cons_append, picksT, picksT, picksT_snoc l v]; simp
theorem picksT_len : ∀ (l : List Nat), (∀ v ∈ l, v ≤ 65535) → (picksT l).length ≤ 21 * l.length
  | [], _ => by simp [picksT]
  | v :: l, h => by
    have ih := picksT_len l (fun x hx => h x (by simp [hx]))
    have h1 := dec_len v (by have := h v (by simp); omega)
    simp [picksT]; omega
/-- a line with its end, as a string -/
def lineS (f c e : Nat) (ps : List Nat) (j : Nat) : ByteArray := ⟨(lineT f c e ps j ++ [10]).toArray⟩
theorem lineS_bl (f c e : Nat) (ps : List Nat) (j : Nat) : bl (lineS f c e ps j) = lineT f c e ps j ++ [10] := by simp [lineS, bl]
theorem bl_app (a b : ByteArray) : bl (a ++ b) = bl a ++ bl b := by simp [bl]
theorem lineT_len (f c e : Nat) (ps : List Nat) (hf : f ≤ 65535) (hc : c ≤ 65535) (he : e ≤ 65535) (hp : ∀ v ∈ ps, v ≤ 65535) (hn : ps.length ≤ 200) (j : Nat) : (lineT f c e ps j).length ≤ 5000 := by
  have hd : ∀ v, v ≤ 65535 → (Lib.decDigits v).length ≤ 20 := fun v hv => dec_len v (by omega)
  have h1 := hd f hf
  have h2 := hd c hc
  have h3 := hd e he
  have h4 := picksT_len ps hp
  match j with
  | 0 => simp [lineT, kFuel]; omega
  | 1 => simp [lineT, kCells]; omega
  | 2 => simp [lineT, kEvery]; omega
  | j + 3 => simp [lineT, kPicks]; omega
theorem bl_size (s : ByteArray) : s.size = (bl s).length := (bl_len s).symm
/-- Parse at lines of a script, put together -/
theorem parse_t (f c e : Nat) (ps : List Nat) (hf : f ≤ 65535) (hc : c ≤ 65535) (he : e ≤ 65535) (hp : ∀ v ∈ ps, v ≤ 65535) (hn : ps.length ≤ 200) (js : List Nat) (hj : js.length ≤ 4) (s : ByteArray) (hs : bl s = textT f c e ps js) (w : World) (h : Laid w) :
    Calls Tryd.prog 8 #[.string s] w fun e' w' => ParsePost w.heap.size (goT f c e ps js) e' w' ∧ Below w.heap.size w w' := by
  have hlen : s.size ≤ 65536 := by
    rw [bl_size, hs]
    have : ∀ (ks : List Nat), (textT f c e ps ks).length ≤ 5001 * ks.length := by
      intro ks
      induction ks with
      | nil => simp [textT]
      | cons k ks ih =>
        have h1 := lineT_len f c e ps hf hc he hp hn k
        unfold textT at ih ⊢
        simp only [List.map_cons, List.flatMap_cons, List.length_append, List.length_cons, List.length_nil]
        omega
    have := this js
    omega
  have := parse_walk s w h hlen
  rw [hs] at this
  exact this
theorem with_Q {P : Program} {c : Code} {Q : Exit → Act → World → Prop} {a : Act} {w : World} (R : (Exit → Act → World → Prop) → Prop) (h1 : R Q) (h2 : R Q → c.wp P Q a w) : c.wp P Q a w := h2 h1
theorem pt_ok (f c e : Nat) (ps : List Nat) (hf : f ≤ 65535) (hc : c ≤ 65535) (he : e ≤ 65535) (hp : ∀ v ∈ ps, v ≤ 65535) (hn : ps.length ≤ 200) (js : List Nat) (hj : js.length ≤ 4) (s : ByteArray) (hs : bl s = textT f c e ps js) (st : PSt) (hst : goT f c e ps js = .ok st) (W' : World) (h : Laid W') :
    Calls Tryd.prog 8 #[.string s] W' fun e' w' => ∃ p n q, e' = .returned (.tuple #[.agg #[.slice p n q, .int .i64 (st.f : Int), .int .i64 (st.c : Int), .int .i64 (st.e : Int)], .int .i64 0, .int .i64 0]) ∧ w'.ownsRow W'.heap.size 22 1 (.slice p n q) st.p.length (pickV st.p) ∧ Below W'.heap.size W' w' := by
  refine (parse_t f c e ps hf hc he hp hn js hj s hs W' h).mono ?_
  rintro e' w' ⟨h1, h2⟩
  rw [hst] at h1
  obtain ⟨pv, rfl, hO⟩ := h1
  obtain ⟨a, n, q, rfl⟩ := pv_slice hO
  exact ⟨a, n, q, rfl, hO, h2⟩
theorem pt_bad (f c e : Nat) (ps : List Nat) (hf : f ≤ 65535) (hc : c ≤ 65535) (he : e ≤ 65535) (hp : ∀ v ∈ ps, v ≤ 65535) (hn : ps.length ≤ 200) (js : List Nat) (hj : js.length ≤ 4) (s : ByteArray) (hs : bl s = textT f c e ps js) (hst : goT f c e ps js = .error (3, 8)) (W' : World) (h : Laid W') :
    Calls Tryd.prog 8 #[.string s] W' fun e' w' => ∃ p n q, e' = .returned (.tuple #[.agg #[.slice p n q, .int .i64 0, .int .i64 0, .int .i64 0], .int .i64 3, .int .i64 8]) ∧ w'.ownsRow W'.heap.size 22 1 (.slice p n q) ([] : List Nat).length (pickV []) ∧ Below W'.heap.size W' w' := by
  refine (parse_t f c e ps hf hc he hp hn js hj s hs W' h).mono ?_
  rintro e' w' ⟨h1, h2⟩
  rw [hst] at h1
  exact ⟨none, 0, 0, h1, World.ownsRow_nil _ _ _ _, h2⟩
theorem below_nil {w : World} {B : Nat} {W W' : World} (h : Below B w W) (k : Below W.heap.size W W') (hB : B ≤ W.heap.size) : Below B w W' := h.trans (k.mono hB)
set_option maxRecDepth 100000 in
set_option maxHeartbeats 16000000 in
theorem turns_walk (f c e t : Nat) (hf : f ≤ 65535) (hc : c ≤ 65535) (he : e ≤ 65535) (ht : t ≤ 255) (pv : Value) (l : List Nat) (hl : ∀ v ∈ l, v ≤ 65535) (hn : l.length ≤ 9223372036854775807) (w : World) (h : Laid w) (h3 : U16a w pv l) :
    Calls Tryd.prog 3 #[.int .u16 (f : Int), .int .u16 (c : Int), .int .u16 (e : Int), pv, .int .u8 (t : Int)] w fun e w' => e = .returned (.bool true) ∧ Below w.heap.size w w' := by
  obtain ⟨n, hN⟩ : ∃ n, l.length = n := ⟨_, rfl⟩
  obtain ⟨p0, cap, rfl, h3⟩ := h3
  rw [hN] at hn ⊢
  have H3 := Lib.hid h3
  have HLd := Lib.hid h
  have HN := Lib.hid hN
  have HV := Lib.hid hl
  have hsz := h.size
  have HNN : Hid (n ≤ 9223372036854775807) := Lib.hid hn
  clear h3 h hN hl hn
  go_enter Tryd.func3, Tryd.ntmps3
  go_upto_block 0 with fail
  go_cut [11] from 12 (fun s11 wx => s11 = .string ⟨(kPicks ++ picksT (l.take 200)).toArray⟩ ∧ Below w.heap.size w wx)
  case first =>
    go_wp2_with fail
    go_loopw [11, 12] (fun p i wr => ∃ k : Nat, i = .int .i64 k ∧ k ≤ n ∧ k ≤ 200 ∧ p = .string ⟨(kPicks ++ picksT (l.take k)).toArray⟩ ∧ Hid (Below w.heap.size w wr)) (fun _ i _ => 200 - (intOf i).toNat)
    case atStart => exact ⟨0, rfl, by omega, by omega, rfl, Lib.hid (Below.refl _ _)⟩
    case round =>
      obtain ⟨k, rfl, hk, hk2, rfl, HB⟩ := hrel
      by_cases h1 : k < n
      · have hi1 : (k : Int) < (n : Int) := by omega
        by_cases h2 : k < 200
        · have hi2 : (k : Int) < 200 := by omega
          obtain ⟨v, hv⟩ : ∃ v, l[k]? = some v := ⟨_, List.getElem?_eq_getElem (by have := HN.out; omega)⟩
          obtain ⟨g, rfl, hg⟩ := H3.out.resolve_left (fun e => by have := HN.out; rw [e] at this; simp at this; omega)
          have hc0 := hg k v hv
          have hlt := Lib.lt_of_cell hc0
          have hc1 : wr.cell? (g.add k) = some (.int .u16 (v : Int)) := (HB.out.cell (p := g.add k) hlt).trans hc0
          have hv1 := HV.out v (List.mem_of_getElem? hv)
          have HD := Lib.hid (rdig_c v (by omega) wr)
          have hsn : Hid (picksT (l.take (k + 1)) = picksT (l.take k) ++ 32 :: Lib.decDigits v) := Lib.hid (by rw [List.take_add_one, hv]; exact picksT_snoc _ _)
          have hk5 : kPicks.length = 5 := rfl
          have hpl : (picksT (l.take k)).length ≤ 4200 := by
            have := picksT_len (l.take k) (fun x hx => HV.out x (List.mem_of_mem_take hx))
            rw [List.length_take] at this; omega
          have hdl := dec_len v (by omega)
          clear hc0 hg hv
          go_wp2_with (first | (go_at_call 7; refine (HD.out).mono ?_; rintro e W1 ⟨rfl, hB1⟩))
          go_roundw
          case rel =>
            refine ⟨k + 1, by go_num, by omega, by omega, ?_, Lib.hid (below_nil HB.out hB1 HB.out.size)⟩
            rw [hsn.out]
            congr 1
            apply ByteArray.ext
            simp
          case measure => simp [intOf]; omega
        · have hke : k = 200 := by omega
          subst hke
          go_wp2
          go_meet
          exact ⟨rfl, HB.out⟩
      · have hke : k = n := by omega
        subst hke
        go_wp2
        go_meet
        refine ⟨?_, HB.out⟩
        rw [List.take_of_length_le (by rw [HN.out]; exact Nat.le_refl _), List.take_of_length_le (by rw [HN.out]; omega)]
  case rest =>
    obtain ⟨rfl, hBc⟩ := hcut
    obtain ⟨ps, hps⟩ : ∃ ps, ps = l.take 200 := ⟨_, rfl⟩
    rw [← hps]
    have hp : ∀ v ∈ ps, v ≤ 65535 := fun v hv => HV.out v (List.mem_of_mem_take (hps ▸ hv))
    have hpn : ps.length ≤ 200 := by rw [hps, List.length_take]; omega
    have hk5 : kPicks.length = 5 := rfl
    have hpl : (picksT ps).length ≤ 4200 := by
      have := picksT_len ps hp; omega
    have HBc := Lib.hid hBc
    have hd0 := dec_len f (by omega)
    have hd1 := dec_len c (by omega)
    have hd2 := dec_len e (by omega)
    have HP := Lib.hid hp
    have D0 := Lib.hid (fun W => rdig_c f (by omega) W)
    have D1 := Lib.hid (fun W => rdig_c c (by omega) W)
    have D2 := Lib.hid (fun W => rdig_c e (by omega) W)
    clear hps H3 HV HN HNN hp hBc
    go_wp2_with fail
    refine (D0.out _).mono ?_
    rintro e' W1 ⟨rfl, hB1⟩
    go_wp2_with fail
    refine (D1.out _).mono ?_
    rintro e' W2 ⟨rfl, hB2⟩
    go_wp2_with fail
    refine (D2.out _).mono ?_
    rintro e' W3 ⟨rfl, hB3⟩
    have HB3 := Lib.hid (below_nil (below_nil (below_nil HBc.out hB1 HBc.out.size) hB2 (by have := HBc.out.size; have := hB1.size; omega)) hB3 (by have := HBc.out.size; have := hB1.size; have := hB2.size; omega))
    clear hB1 hB2 hB3 HBc
    obtain ⟨W4, hW4⟩ : ∃ W4, W4 = W3.alloc (.cells #[.string (⟨#[102, 117, 101, 108, 32]⟩ ++ ⟨(Lib.decDigits f).toArray⟩ ++ ⟨#[10]⟩), .string (⟨#[99, 101, 108, 108, 115, 32]⟩ ++ ⟨(Lib.decDigits c).toArray⟩ ++ ⟨#[10]⟩), .string (⟨#[101, 118, 101, 114, 121, 32]⟩ ++ ⟨(Lib.decDigits e).toArray⟩ ++ ⟨#[10]⟩), .string (⟨(kPicks ++ picksT ps).toArray⟩ ++ ⟨#[10]⟩)] 9) := ⟨_, rfl⟩
    go_wp2_with fail
    obtain ⟨k, hk⟩ : ∃ k, k = t % 4 := ⟨_, rfl⟩
    have hk4 : k < 4 := by omega
    have hkt : (t : Int) % 4 = (k : Int) := by omega
    simp only [hkt]
    rw [← hW4]
    have hz4 : W4.heap.size = W3.heap.size + 1 := by rw [hW4]; simp
    have hb4 : Below W3.heap.size W3 W4 := by rw [hW4]; exact (Below.refl _ _).alloc (Nat.le_refl _) _
    have hS : ∀ j, j < 4 → W4.cell? ⟨W3.heap.size, j, none⟩ = some (.string (lineS f c e ps j)) := by
      have hh : W4.heap[W3.heap.size]? = some (.cells #[.string (lineS f c e ps 0), .string (lineS f c e ps 1), .string (lineS f c e ps 2), .string (lineS f c e ps 3)] 9 (0, 0)) := by
        rw [hW4]
        show (W3.heap.push _)[W3.heap.size]? = _
        rw [Array.getElem?_push_size]
        have x0 : (⟨#[102, 117, 101, 108, 32]⟩ ++ ⟨(Lib.decDigits f).toArray⟩ ++ ⟨#[10]⟩ : ByteArray) = lineS f c e ps 0 := by apply ByteArray.ext; simp [lineS, lineT, kFuel]
        have x1 : (⟨#[99, 101, 108, 108, 115, 32]⟩ ++ ⟨(Lib.decDigits c).toArray⟩ ++ ⟨#[10]⟩ : ByteArray) = lineS f c e ps 1 := by apply ByteArray.ext; simp [lineS, lineT, kCells]
        have x2 : (⟨#[101, 118, 101, 114, 121, 32]⟩ ++ ⟨(Lib.decDigits e).toArray⟩ ++ ⟨#[10]⟩ : ByteArray) = lineS f c e ps 2 := by apply ByteArray.ext; simp [lineS, lineT, kEvery]
        have x3 : (⟨(kPicks ++ picksT ps).toArray⟩ ++ ⟨#[10]⟩ : ByteArray) = lineS f c e ps 3 := by apply ByteArray.ext; simp [lineS, lineT]
        rw [x0, x1, x2, x3]
      intro j hj
      unfold World.cell?
      rw [hh]
      match j, hj with
      | 0, _ => rfl
      | 1, _ => rfl
      | 2, _ => rfl
      | 3, _ => rfl
    obtain ⟨lb, hlb⟩ : ∃ lb, W3.heap.size = lb := ⟨_, rfl⟩
    rw [hlb] at hS hz4 hb4 ⊢
    have HS := Lib.hid hS
    have HB4 := Lib.hid (HB3.out.trans (hb4.mono (by have := HB3.out.size; omega)))
    have HL4 := Lib.hid (HLd.out.below HB4.out)
    have hwl : w.heap.size ≤ lb := by have := HB3.out.size; omega
    have hlz : ∀ j, (lineS f c e ps j).size ≤ 5001 := fun j => by
      rw [bl_size, lineS_bl, List.length_append]
      have := lineT_len f c e ps hf hc he HP.out hpn j
      simp; omega
    have HLZ := Lib.hid hlz
    clear hW4 hS hb4 hlz HB3 hlb D0 D1 D2 hd0 hd1 hd2 hpl hk5
    
    obtain ⟨T, hTd⟩ : ∃ T, T = lineS f c e ps := ⟨_, rfl⟩
    have hT : ∀ j, (T j).size ≤ 5001 := fun j => by rw [hTd]; exact HLZ.out j
    have hS : ∀ j, j < 4 → W4.cell? ⟨lb, j, none⟩ = some (.string (T j)) := fun j hj => by rw [hTd]; exact HS.out j hj
    have hlb : lb < W4.heap.size := by omega
    have HTd := Lib.hid hTd
    have HSS := Lib.hid hS
    have HTT := Lib.hid hT
    clear HS HLZ hTd hT hS hz4
    have HC8 : ∀ W', Below W4.heap.size W4 W' → Calls Tryd.prog 8 #[.string (((T (0) ++ T (1)) ++ T (2)) ++ T (3))] W' fun e' w' => ∃ p n q, e' = .returned (.tuple #[.agg #[.slice p n q, .int .i64 (f : Int), .int .i64 (c : Int), .int .i64 (e : Int)], .int .i64 0, .int .i64 0]) ∧ w'.ownsRow W'.heap.size 22 1 (.slice p n q) ps.length (pickV ps) ∧ Below W'.heap.size W' w' := fun W' hW' =>
      pt_ok f c e ps hf hc he HP.out hpn [0, 1, 2, 3] (by simp) _ (by rw [HTd.out]; simp [bl_app, lineS_bl, textT]) _ (go_whole f c e ps hf hc he HP.out 0 (by omega)) W' (HL4.out.below hW')
    go_upto_region 8 with fail
    generalize hA : (Act.mk _ _) = a
    have hsz : a.tmps.size = 223 := by rw [← hA]; rfl
    have h13 : a.eval (.tmp 13) = .slice (some ⟨lb, 0, none⟩) 4 4 := by rw [← hA]; rfl
    have h14 : a.eval (.tmp 14) = .int .i64 (k : Int) := by rw [← hA]; rfl
    have hS := HSS.out
    have hT := HTT.out
    refine with_Q (fun Q => ∀ p0 n0 q0 (b : Nat) (w9 : World), W4.heap.size ≤ b → Below W4.heap.size W4 w9 → w9.heap[b]? = some (.cells #[.slice p0 n0 q0, .int .i64 (f : Int), .int .i64 (c : Int), .int .i64 (e : Int)] 27 (0, 0)) → (∃ base, w9.ownsRow base 22 1 (.slice p0 n0 q0) ps.length (pickV ps)) → Q .normal (((((((((((((((((((((((a.put (some 69) (.slice (some ⟨lb, 0, none⟩) 4 4)).put (some 70) (.pointer (some ⟨lb, 0, none⟩))).put (some 71) (.string (T (0)))).put (some 72) (.slice (some ⟨lb, 0, none⟩) 4 4)).put (some 73) (.pointer (some ⟨lb, 1, none⟩))).put (some 74) (.string (T (1)))).put (some 75) (.string (T (0) ++ T (1)))).put (some 76) (.slice (some ⟨lb, 0, none⟩) 4 4)).put (some 77) (.pointer (some ⟨lb, 2, none⟩))).put (some 78) (.string (T (2)))).put (some 79) (.string ((T (0) ++ T (1)) ++ T (2)))).put (some 80) (.slice (some ⟨lb, 0, none⟩) 4 4)).put (some 81) (.pointer (some ⟨lb, 3, none⟩))).put (some 82) (.string (T (3)))).put (some 83) (.string (((T (0) ++ T (1)) ++ T (2)) ++ T (3)))).put (some 84) (.tuple #[.agg #[.slice p0 n0 q0, .int .i64 (f : Int), .int .i64 (c : Int), .int .i64 (e : Int)], .int .i64 0, .int .i64 0])).put (some 68) (.tuple #[.agg #[.slice p0 n0 q0, .int .i64 (f : Int), .int .i64 (c : Int), .int .i64 (e : Int)], .int .i64 0, .int .i64 0])).put (some 85) (.agg #[.slice p0 n0 q0, .int .i64 (f : Int), .int .i64 (c : Int), .int .i64 (e : Int)])).put (some 86) (.int .i64 0)).put (some 87) (.int .i64 0)).put (some 15) (.pointer (some ⟨b, 0, none⟩))).put (some 16) (.int .i64 0)).put (some 17) (.int .i64 0)) w9) ?_ (fun hQ => ?_)
    rotate_left 1
    · clear hA
      refine wp_region_held_drew (S := (fun w' => Below W4.heap.size W4 w' ∧ ∀ j, j < 4 → w'.cell? ⟨lb, j, none⟩ = some (.string (T j)))) (by kernel_rfl) ?_ (fun hHeld => ?_)
      · exact ⟨(Below.refl _ _).drew, hS⟩
      refine h_yes 0 69 (v := .slice (some ⟨lb, 0, none⟩) 4 4) rfl rfl (by kernel_rfl) (by kernel_rfl) (by kernel_rfl) (fun _ _ _ h => h) (by kernel_rfl) (by assumption) (fun w hSw => hy_move (.inl rfl) (by simp [ev_put, sz_put, hsz, h13, h14])) ?_
      refine h_yes 1 70 (v := .pointer (some ⟨lb, 0, none⟩)) rfl rfl (by kernel_rfl) (by kernel_rfl) (by kernel_rfl) (fun _ _ _ h => h) (by kernel_rfl) (by assumption) (fun w hSw => hy_index rfl (by simp [ev_put, sz_put, hsz, h13, h14]) rfl (by omega)) ?_
      refine h_yes 2 71 (v := .string (T (0))) rfl rfl (by kernel_rfl) (by kernel_rfl) (by kernel_rfl) (fun _ _ _ h => h) (by kernel_rfl) (by assumption) (fun w hSw => hy_load rfl (by simp [ev_put, sz_put, hsz, h13, h14]) (hSw.2 (0) (by omega))) ?_
      refine h_yes 3 72 (v := .slice (some ⟨lb, 0, none⟩) 4 4) rfl rfl (by kernel_rfl) (by kernel_rfl) (by kernel_rfl) (fun _ _ _ h => h) (by kernel_rfl) (by assumption) (fun w hSw => hy_move (.inl rfl) (by simp [ev_put, sz_put, hsz, h13, h14])) ?_
      refine h_yes 4 73 (v := .pointer (some ⟨lb, 1, none⟩)) rfl rfl (by kernel_rfl) (by kernel_rfl) (by kernel_rfl) (fun _ _ _ h => h) (by kernel_rfl) (by assumption) (fun w hSw => hy_index rfl (by simp [ev_put, sz_put, hsz, h13, h14]) rfl (by omega)) ?_
      refine h_yes 5 74 (v := .string (T (1))) rfl rfl (by kernel_rfl) (by kernel_rfl) (by kernel_rfl) (fun _ _ _ h => h) (by kernel_rfl) (by assumption) (fun w hSw => hy_load rfl (by simp [ev_put, sz_put, hsz, h13, h14]) (hSw.2 (1) (by omega))) ?_
      refine h_yes 6 75 (v := .string (T (0) ++ T (1))) rfl rfl (by kernel_rfl) (by kernel_rfl) (by kernel_rfl) (fun _ _ _ h => h) (by kernel_rfl) (by assumption) (fun w hSw => hy_cat rfl (by simp [ev_put, sz_put, hsz, h13, h14]) (by simp [ev_put, sz_put, hsz, h13, h14]) (by have z0 := hT (0); have z1 := hT (1); omega)) ?_
      refine h_yes 7 76 (v := .slice (some ⟨lb, 0, none⟩) 4 4) rfl rfl (by kernel_rfl) (by kernel_rfl) (by kernel_rfl) (fun _ _ _ h => h) (by kernel_rfl) (by assumption) (fun w hSw => hy_move (.inl rfl) (by simp [ev_put, sz_put, hsz, h13, h14])) ?_
      refine h_yes 8 77 (v := .pointer (some ⟨lb, 2, none⟩)) rfl rfl (by kernel_rfl) (by kernel_rfl) (by kernel_rfl) (fun _ _ _ h => h) (by kernel_rfl) (by assumption) (fun w hSw => hy_index rfl (by simp [ev_put, sz_put, hsz, h13, h14]) rfl (by omega)) ?_
      refine h_yes 9 78 (v := .string (T (2))) rfl rfl (by kernel_rfl) (by kernel_rfl) (by kernel_rfl) (fun _ _ _ h => h) (by kernel_rfl) (by assumption) (fun w hSw => hy_load rfl (by simp [ev_put, sz_put, hsz, h13, h14]) (hSw.2 (2) (by omega))) ?_
      refine h_yes 10 79 (v := .string ((T (0) ++ T (1)) ++ T (2))) rfl rfl (by kernel_rfl) (by kernel_rfl) (by kernel_rfl) (fun _ _ _ h => h) (by kernel_rfl) (by assumption) (fun w hSw => hy_cat rfl (by simp [ev_put, sz_put, hsz, h13, h14]) (by simp [ev_put, sz_put, hsz, h13, h14]) (by have z0 := hT (0); have z1 := hT (1); have z2 := hT (2); simp only [ByteArray.size_append]; omega)) ?_
      refine h_yes 11 80 (v := .slice (some ⟨lb, 0, none⟩) 4 4) rfl rfl (by kernel_rfl) (by kernel_rfl) (by kernel_rfl) (fun _ _ _ h => h) (by kernel_rfl) (by assumption) (fun w hSw => hy_move (.inl rfl) (by simp [ev_put, sz_put, hsz, h13, h14])) ?_
      refine h_yes 12 81 (v := .pointer (some ⟨lb, 3, none⟩)) rfl rfl (by kernel_rfl) (by kernel_rfl) (by kernel_rfl) (fun _ _ _ h => h) (by kernel_rfl) (by assumption) (fun w hSw => hy_index rfl (by simp [ev_put, sz_put, hsz, h13, h14]) rfl (by omega)) ?_
      refine h_yes 13 82 (v := .string (T (3))) rfl rfl (by kernel_rfl) (by kernel_rfl) (by kernel_rfl) (fun _ _ _ h => h) (by kernel_rfl) (by assumption) (fun w hSw => hy_load rfl (by simp [ev_put, sz_put, hsz, h13, h14]) (hSw.2 (3) (by omega))) ?_
      refine h_yes 14 83 (v := .string (((T (0) ++ T (1)) ++ T (2)) ++ T (3))) rfl rfl (by kernel_rfl) (by kernel_rfl) (by kernel_rfl) (fun _ _ _ h => h) (by kernel_rfl) (by assumption) (fun w hSw => hy_cat rfl (by simp [ev_put, sz_put, hsz, h13, h14]) (by simp [ev_put, sz_put, hsz, h13, h14]) (by have z0 := hT (0); have z1 := hT (1); have z2 := hT (2); have z3 := hT (3); simp only [ByteArray.size_append]; omega)) ?_
      refine wpAnyH_ready (rs := [15, 20]) (by kernel_rfl) (by simp) (AllReadyH.cons rfl (fun K hK => ?_) (AllReadyH.cons rfl (fun K hK => ?_) AllReadyH.nil))
      · rw [if_pos (by kernel_rfl)]
        refine wpc_parse (v := .string ((((T (0) ++ T (1)) ++ T (2)) ++ T (3)))) rfl (by simp [ev_put, sz_put, hsz, h13, h14]) ((HC8 _ hHeld.1).mono ?_)
        rintro e' w6 ⟨p0, n0, q0, rfl, hown, hB6⟩
        refine ⟨_, rfl, ?_⟩
        have hS6 : Below W4.heap.size W4 w6 ∧ ∀ j, j < 4 → w6.cell? ⟨lb, j, none⟩ = some (.string (T j)) := ⟨hHeld.1.trans (hB6.mono hHeld.1.size), fun j hj => (hB6.cell (p := ⟨lb, j, none⟩) (Lib.lt_of_cell (hHeld.2 j hj))).trans (hHeld.2 j hj)⟩
        refine hK.out _ _ hS6 (fun hHeld => ?_)
        clear hK K
        refine h_yes 16 68 (v := .tuple #[.agg #[.slice p0 n0 q0, .int .i64 (f : Int), .int .i64 (c : Int), .int .i64 (e : Int)], .int .i64 0, .int .i64 0]) rfl rfl (by kernel_rfl) (by kernel_rfl) (by kernel_rfl) (fun _ _ _ h => h) (by kernel_rfl) (by assumption) (fun w hSw => hy_move (.inl rfl) (by simp [ev_put, sz_put, hsz, h13, h14])) ?_
        refine h_yes 17 85 (v := .agg #[.slice p0 n0 q0, .int .i64 (f : Int), .int .i64 (c : Int), .int .i64 (e : Int)]) rfl rfl (by kernel_rfl) (by kernel_rfl) (by kernel_rfl) (fun _ _ _ h => h) (by kernel_rfl) (by assumption) (fun w hSw => hy_ext (vs := #[.agg #[.slice p0 n0 q0, .int .i64 (f : Int), .int .i64 (c : Int), .int .i64 (e : Int)], .int .i64 0, .int .i64 0]) (i := 0) rfl (by simp [ev_put, sz_put, hsz, h13, h14]) rfl) ?_
        refine h_yes 18 86 (v := .int .i64 0) rfl rfl (by kernel_rfl) (by kernel_rfl) (by kernel_rfl) (fun _ _ _ h => h) (by kernel_rfl) (by assumption) (fun w hSw => hy_ext (vs := #[.agg #[.slice p0 n0 q0, .int .i64 (f : Int), .int .i64 (c : Int), .int .i64 (e : Int)], .int .i64 0, .int .i64 0]) (i := 1) rfl (by simp [ev_put, sz_put, hsz, h13, h14]) rfl) ?_
        refine h_yes 19 87 (v := .int .i64 0) rfl rfl (by kernel_rfl) (by kernel_rfl) (by kernel_rfl) (fun _ _ _ h => h) (by kernel_rfl) (by assumption) (fun w hSw => hy_ext (vs := #[.agg #[.slice p0 n0 q0, .int .i64 (f : Int), .int .i64 (c : Int), .int .i64 (e : Int)], .int .i64 0, .int .i64 0]) (i := 2) rfl (by simp [ev_put, sz_put, hsz, h13, h14]) rfl) ?_
        refine h_step 20 rfl (by kernel_rfl) (by kernel_rfl) (fun K hK => ?_)
        refine wpa_sc rfl ?_
        obtain ⟨b, hb⟩ : ∃ b, w6.heap.size = b := ⟨_, rfl⟩
        have hR := R0.new w6
        have hS9 : Below W4.heap.size W4 (w6.alloc (.cells #[.slice none 0 0, .int .i64 0, .int .i64 0, .int .i64 0] 27)) ∧ ∀ j, j < 4 → (w6.alloc (.cells #[.slice none 0 0, .int .i64 0, .int .i64 0, .int .i64 0] 27)).cell? ⟨lb, j, none⟩ = some (.string (T j)) :=
          ⟨hS6.1.alloc hS6.1.size _, fun j hj => (World.cell?_of_block (a := ⟨lb, j, none⟩) (Below.heap_alloc w6 _ lb (by have := hS6.1.size; omega))).trans (hS6.2 j hj)⟩
        have hbW : W4.heap.size ≤ b := by have := hS6.1.size; omega
        have hO := hown.alloc (.cells #[.slice none 0 0, .int .i64 0, .int .i64 0, .int .i64 0] 27)
        rw [hb] at hR ⊢
        refine hK.out _ _ hS9 (fun hHeld => ?_)
        clear hK K
        have hHeld : Below W4.heap.size W4 (((((w6.alloc (.cells #[.slice none 0 0, .int .i64 0, .int .i64 0, .int .i64 0] 27)).setCell ⟨b, 0, none⟩ (.slice p0 n0 q0)).setCell ⟨b, 1, none⟩ (.int .i64 (f : Int))).setCell ⟨b, 2, none⟩ (.int .i64 (c : Int))).setCell ⟨b, 3, none⟩ (.int .i64 (e : Int))) ∧ ∀ j, j < 4 → (((((w6.alloc (.cells #[.slice none 0 0, .int .i64 0, .int .i64 0, .int .i64 0] 27)).setCell ⟨b, 0, none⟩ (.slice p0 n0 q0)).setCell ⟨b, 1, none⟩ (.int .i64 (f : Int))).setCell ⟨b, 2, none⟩ (.int .i64 (c : Int))).setCell ⟨b, 3, none⟩ (.int .i64 (e : Int))).cell? ⟨lb, j, none⟩ = some (.string (T j)) := by
          refine ⟨(((hS9.1.setCell (p := ⟨b, 0, none⟩) hbW (.slice p0 n0 q0)).setCell (p := ⟨b, 1, none⟩) hbW (.int .i64 (f : Int))).setCell (p := ⟨b, 2, none⟩) hbW (.int .i64 (c : Int))).setCell (p := ⟨b, 3, none⟩) hbW (.int .i64 (e : Int)), fun j hj => ?_⟩
          have hne : lb ≠ b := by omega
          exact (World.cell?_of_block (a := ⟨lb, j, none⟩) (by rw [Below.heap_setCell _ _ _ _ hne, Below.heap_setCell _ _ _ _ hne, Below.heap_setCell _ _ _ _ hne, Below.heap_setCell _ _ _ _ hne])).trans (hS9.2 j hj)
        have hB9 := hHeld.1
        have hO9 := own_r0 hO hR (.slice p0 n0 q0) (.int .i64 (f : Int)) (.int .i64 (c : Int)) (.int .i64 (e : Int))
        have hR9 := hR.set (.slice p0 n0 q0) (.int .i64 (f : Int)) (.int .i64 (c : Int)) (.int .i64 (e : Int))
        refine tail3 21 22 23 16 17 (b := b) (p := p0) (n := n0) (c := q0) (f1 := (f : Int)) (c1 := (c : Int)) (e1 := (e : Int)) (v2 := .int .i64 0) (v3 := .int .i64 0) rfl rfl rfl rfl rfl rfl rfl rfl rfl rfl rfl rfl (by kernel_rfl) (by kernel_rfl) (by kernel_rfl) (by kernel_rfl) (by simp [ev_put, sz_put, hsz, h13, h14]) (by simp [ev_put, sz_put, hsz, h13, h14]) (by simp [ev_put, sz_put, hsz, h13, h14]) (by simp [ev_put, sz_put, hsz, h13, h14]) hR hHeld ?_
        exact hQ p0 n0 q0 b _ hbW hB9 hR9 ⟨_, hO9⟩
      · rw [if_pos (by kernel_rfl)]
        refine wpa_sc rfl ?_
        obtain ⟨b, hb⟩ : ∃ b, W4.drew.heap.size = b := ⟨_, rfl⟩
        have hR5 := R0.new W4.drew
        have hbW : W4.heap.size ≤ b := by rw [← hb]; exact Nat.le_refl _
        have hS5 : Below W4.heap.size W4 (W4.drew.alloc (.cells #[.slice none 0 0, .int .i64 0, .int .i64 0, .int .i64 0] 27)) ∧ ∀ j, j < 4 → (W4.drew.alloc (.cells #[.slice none 0 0, .int .i64 0, .int .i64 0, .int .i64 0] 27)).cell? ⟨lb, j, none⟩ = some (.string (T j)) :=
          ⟨(Below.drew (Below.refl _ _)).alloc (Nat.le_refl _) _, fun j hj => (World.cell?_of_block (a := ⟨lb, j, none⟩) (Below.heap_alloc W4.drew _ lb hlb)).trans (hS j hj)⟩
        rw [hb] at hR5 ⊢
        refine hK.out _ _ hS5 (fun hHeld => ?_)
        clear hK K
        refine h_step 15 rfl (by kernel_rfl) (by kernel_rfl) (fun K hK => ?_)
        refine wpc_parse (v := .string ((((T (0) ++ T (1)) ++ T (2)) ++ T (3)))) rfl (by simp [ev_put, sz_put, hsz, h13, h14]) ((HC8 _ hHeld.1).mono ?_)
        rintro e' w6 ⟨p0, n0, q0, rfl, hown, hB6⟩
        refine ⟨_, rfl, ?_⟩
        have hS6 : Below W4.heap.size W4 w6 ∧ ∀ j, j < 4 → w6.cell? ⟨lb, j, none⟩ = some (.string (T j)) := ⟨hHeld.1.trans (hB6.mono hHeld.1.size), fun j hj => (hB6.cell (p := ⟨lb, j, none⟩) (Lib.lt_of_cell (hHeld.2 j hj))).trans (hHeld.2 j hj)⟩
        refine hK.out _ _ hS6 (fun hHeld => ?_)
        clear hK K
        refine h_yes 16 68 (v := .tuple #[.agg #[.slice p0 n0 q0, .int .i64 (f : Int), .int .i64 (c : Int), .int .i64 (e : Int)], .int .i64 0, .int .i64 0]) rfl rfl (by kernel_rfl) (by kernel_rfl) (by kernel_rfl) (fun _ _ _ h => h) (by kernel_rfl) (by assumption) (fun w hSw => hy_move (.inl rfl) (by simp [ev_put, sz_put, hsz, h13, h14])) ?_
        refine h_yes 17 85 (v := .agg #[.slice p0 n0 q0, .int .i64 (f : Int), .int .i64 (c : Int), .int .i64 (e : Int)]) rfl rfl (by kernel_rfl) (by kernel_rfl) (by kernel_rfl) (fun _ _ _ h => h) (by kernel_rfl) (by assumption) (fun w hSw => hy_ext (vs := #[.agg #[.slice p0 n0 q0, .int .i64 (f : Int), .int .i64 (c : Int), .int .i64 (e : Int)], .int .i64 0, .int .i64 0]) (i := 0) rfl (by simp [ev_put, sz_put, hsz, h13, h14]) rfl) ?_
        refine h_yes 18 86 (v := .int .i64 0) rfl rfl (by kernel_rfl) (by kernel_rfl) (by kernel_rfl) (fun _ _ _ h => h) (by kernel_rfl) (by assumption) (fun w hSw => hy_ext (vs := #[.agg #[.slice p0 n0 q0, .int .i64 (f : Int), .int .i64 (c : Int), .int .i64 (e : Int)], .int .i64 0, .int .i64 0]) (i := 1) rfl (by simp [ev_put, sz_put, hsz, h13, h14]) rfl) ?_
        refine h_yes 19 87 (v := .int .i64 0) rfl rfl (by kernel_rfl) (by kernel_rfl) (by kernel_rfl) (fun _ _ _ h => h) (by kernel_rfl) (by assumption) (fun w hSw => hy_ext (vs := #[.agg #[.slice p0 n0 q0, .int .i64 (f : Int), .int .i64 (c : Int), .int .i64 (e : Int)], .int .i64 0, .int .i64 0]) (i := 2) rfl (by simp [ev_put, sz_put, hsz, h13, h14]) rfl) ?_
        have hR : R0 w6 b := (hB6.block b (Array.getElem?_eq_some_iff.1 hR5).1).trans hR5
        have hS9 := hS6
        have hO := hown
        have hHeld : Below W4.heap.size W4 ((((w6.setCell ⟨b, 0, none⟩ (.slice p0 n0 q0)).setCell ⟨b, 1, none⟩ (.int .i64 (f : Int))).setCell ⟨b, 2, none⟩ (.int .i64 (c : Int))).setCell ⟨b, 3, none⟩ (.int .i64 (e : Int))) ∧ ∀ j, j < 4 → ((((w6.setCell ⟨b, 0, none⟩ (.slice p0 n0 q0)).setCell ⟨b, 1, none⟩ (.int .i64 (f : Int))).setCell ⟨b, 2, none⟩ (.int .i64 (c : Int))).setCell ⟨b, 3, none⟩ (.int .i64 (e : Int))).cell? ⟨lb, j, none⟩ = some (.string (T j)) := by
          refine ⟨(((hS9.1.setCell (p := ⟨b, 0, none⟩) hbW (.slice p0 n0 q0)).setCell (p := ⟨b, 1, none⟩) hbW (.int .i64 (f : Int))).setCell (p := ⟨b, 2, none⟩) hbW (.int .i64 (c : Int))).setCell (p := ⟨b, 3, none⟩) hbW (.int .i64 (e : Int)), fun j hj => ?_⟩
          have hne : lb ≠ b := by omega
          exact (World.cell?_of_block (a := ⟨lb, j, none⟩) (by rw [Below.heap_setCell _ _ _ _ hne, Below.heap_setCell _ _ _ _ hne, Below.heap_setCell _ _ _ _ hne, Below.heap_setCell _ _ _ _ hne])).trans (hS9.2 j hj)
        have hB9 := hHeld.1
        have hO9 := own_r0 hO hR (.slice p0 n0 q0) (.int .i64 (f : Int)) (.int .i64 (c : Int)) (.int .i64 (e : Int))
        have hR9 := hR.set (.slice p0 n0 q0) (.int .i64 (f : Int)) (.int .i64 (c : Int)) (.int .i64 (e : Int))
        refine tail3 21 22 23 16 17 (b := b) (p := p0) (n := n0) (c := q0) (f1 := (f : Int)) (c1 := (c : Int)) (e1 := (e : Int)) (v2 := .int .i64 0) (v3 := .int .i64 0) rfl rfl rfl rfl rfl rfl rfl rfl rfl rfl rfl rfl (by kernel_rfl) (by kernel_rfl) (by kernel_rfl) (by kernel_rfl) (by simp [ev_put, sz_put, hsz, h13, h14]) (by simp [ev_put, sz_put, hsz, h13, h14]) (by simp [ev_put, sz_put, hsz, h13, h14]) (by simp [ev_put, sz_put, hsz, h13, h14]) hR hHeld ?_
        have hq := hQ p0 n0 q0 b _ hbW hB9 hR9 ⟨_, hO9⟩
        rw [← put_comm15 15 _ 87 _ _ (by decide), ← put_comm15 15 _ 86 _ _ (by decide), ← put_comm15 15 _ 85 _ _ (by decide), ← put_comm15 15 _ 68 _ _ (by decide), ← put_comm15 15 _ 84 _ _ (by decide)] at hq
        exact hq
    intro p8 n8 q8 b8 W5 hb8 hB8 hR8 hO8
    subst hA
    have HB8 := Lib.hid hB8
    have HR8 := Lib.hid hR8
    have HO8 := Lib.hid hO8
    have hz8 := hB8.size
    have HSS : Hid (∀ j, j < 4 → W5.cell? ⟨lb, j, none⟩ = some (.string (T j))) := Lib.hid (fun j hj => (HB8.out.cell (p := ⟨lb, j, none⟩) hlb).trans (HSS.out j hj))
    have hlb : lb < W5.heap.size := by omega
    have HL4 := Lib.hid (HL4.out.below HB8.out)
    have hbl8 : b8 < W5.heap.size := (Array.getElem?_eq_some_iff.1 HR8.out).1
    clear hB8 hR8 hO8 HC8 hS hT hsz h13 h14
    simp (config := { maxSteps := 10000000 }) only [Act.put, List.setIfInBounds_toArray, List.set_cons_zero, List.set_cons_succ]
    have HC9 : ∀ W', Below W5.heap.size W5 W' → Calls Tryd.prog 8 #[.string (((T (k) ++ T (((k + 1) % 4))) ++ T (((k + 2) % 4))) ++ T (((k + 3) % 4)))] W' fun e' w' => ∃ p n q, e' = .returned (.tuple #[.agg #[.slice p n q, .int .i64 (f : Int), .int .i64 (c : Int), .int .i64 (e : Int)], .int .i64 0, .int .i64 0]) ∧ w'.ownsRow W'.heap.size 22 1 (.slice p n q) ps.length (pickV ps) ∧ Below W'.heap.size W' w' := fun W' hW' =>
      pt_ok f c e ps hf hc he HP.out hpn [k, (k + 1) % 4, (k + 2) % 4, (k + 3) % 4] (by simp) _ (by rw [HTd.out]; simp [bl_app, lineS_bl, textT]) _ (go_whole f c e ps hf hc he HP.out k hk4) W' (HL4.out.below hW')
    go_upto_region 9 with fail
    generalize hA : (Act.mk _ _) = a
    have hsz : a.tmps.size = 223 := by rw [← hA]; rfl
    have h13 : a.eval (.tmp 13) = .slice (some ⟨lb, 0, none⟩) 4 4 := by rw [← hA]; rfl
    have h14 : a.eval (.tmp 14) = .int .i64 (k : Int) := by rw [← hA]; rfl
    have hS := HSS.out
    have hT := HTT.out
    refine with_Q (fun Q => ∀ p0 n0 q0 (b : Nat) (w9 : World), W5.heap.size ≤ b → Below W5.heap.size W5 w9 → w9.heap[b]? = some (.cells #[.slice p0 n0 q0, .int .i64 (f : Int), .int .i64 (c : Int), .int .i64 (e : Int)] 27 (0, 0)) → (∃ base, w9.ownsRow base 22 1 (.slice p0 n0 q0) ps.length (pickV ps)) → Q .normal (((((((((((((((((((((((((((((((((a.put (some 89) (.slice (some ⟨lb, 0, none⟩) 4 4)).put (some 90) (.int .i64 ((k : Nat) : Int))).put (some 91) (.pointer (some ⟨lb, k, none⟩))).put (some 92) (.string (T (k)))).put (some 93) (.slice (some ⟨lb, 0, none⟩) 4 4)).put (some 94) (.int .i64 ((k : Nat) : Int))).put (some 95) (.int .i64 (((k + 1) : Nat) : Int))).put (some 96) (.int .i64 ((((k + 1) % 4) : Nat) : Int))).put (some 97) (.pointer (some ⟨lb, ((k + 1) % 4), none⟩))).put (some 98) (.string (T (((k + 1) % 4))))).put (some 99) (.string (T (k) ++ T (((k + 1) % 4))))).put (some 100) (.slice (some ⟨lb, 0, none⟩) 4 4)).put (some 101) (.int .i64 ((k : Nat) : Int))).put (some 102) (.int .i64 (((k + 2) : Nat) : Int))).put (some 103) (.int .i64 ((((k + 2) % 4) : Nat) : Int))).put (some 104) (.pointer (some ⟨lb, ((k + 2) % 4), none⟩))).put (some 105) (.string (T (((k + 2) % 4))))).put (some 106) (.string ((T (k) ++ T (((k + 1) % 4))) ++ T (((k + 2) % 4))))).put (some 107) (.slice (some ⟨lb, 0, none⟩) 4 4)).put (some 108) (.int .i64 ((k : Nat) : Int))).put (some 109) (.int .i64 (((k + 3) : Nat) : Int))).put (some 110) (.int .i64 ((((k + 3) % 4) : Nat) : Int))).put (some 111) (.pointer (some ⟨lb, ((k + 3) % 4), none⟩))).put (some 112) (.string (T (((k + 3) % 4))))).put (some 113) (.string (((T (k) ++ T (((k + 1) % 4))) ++ T (((k + 2) % 4))) ++ T (((k + 3) % 4))))).put (some 114) (.tuple #[.agg #[.slice p0 n0 q0, .int .i64 (f : Int), .int .i64 (c : Int), .int .i64 (e : Int)], .int .i64 0, .int .i64 0])).put (some 88) (.tuple #[.agg #[.slice p0 n0 q0, .int .i64 (f : Int), .int .i64 (c : Int), .int .i64 (e : Int)], .int .i64 0, .int .i64 0])).put (some 115) (.agg #[.slice p0 n0 q0, .int .i64 (f : Int), .int .i64 (c : Int), .int .i64 (e : Int)])).put (some 116) (.int .i64 0)).put (some 117) (.int .i64 0)).put (some 18) (.pointer (some ⟨b, 0, none⟩))).put (some 19) (.int .i64 0)).put (some 20) (.int .i64 0)) w9) ?_ (fun hQ => ?_)
    rotate_left 1
    · clear hA
      refine wp_region_held_drew (S := (fun w' => Below W5.heap.size W5 w' ∧ ∀ j, j < 4 → w'.cell? ⟨lb, j, none⟩ = some (.string (T j)))) (by kernel_rfl) ?_ (fun hHeld => ?_)
      · exact ⟨(Below.refl _ _).drew, hS⟩
      refine h_yes 0 89 (v := .slice (some ⟨lb, 0, none⟩) 4 4) rfl rfl (by kernel_rfl) (by kernel_rfl) (by kernel_rfl) (fun _ _ _ h => h) (by kernel_rfl) (by assumption) (fun w hSw => hy_move (.inl rfl) (by simp [ev_put, sz_put, hsz, h13, h14])) ?_
      refine h_yes 1 90 (v := .int .i64 ((k : Nat) : Int)) rfl rfl (by kernel_rfl) (by kernel_rfl) (by kernel_rfl) (fun _ _ _ h => h) (by kernel_rfl) (by assumption) (fun w hSw => hy_move (.inl rfl) (by simp [ev_put, sz_put, hsz, h13, h14])) ?_
      refine h_yes 2 91 (v := .pointer (some ⟨lb, k, none⟩)) rfl rfl (by kernel_rfl) (by kernel_rfl) (by kernel_rfl) (fun _ _ _ h => h) (by kernel_rfl) (by assumption) (fun w hSw => hy_index rfl (by simp [ev_put, sz_put, hsz, h13, h14]) (by simp [ev_put, sz_put, hsz, h13, h14]) (by omega)) ?_
      refine h_yes 3 92 (v := .string (T (k))) rfl rfl (by kernel_rfl) (by kernel_rfl) (by kernel_rfl) (fun _ _ _ h => h) (by kernel_rfl) (by assumption) (fun w hSw => hy_load rfl (by simp [ev_put, sz_put, hsz, h13, h14]) (hSw.2 (k) (by omega))) ?_
      refine h_yes 4 93 (v := .slice (some ⟨lb, 0, none⟩) 4 4) rfl rfl (by kernel_rfl) (by kernel_rfl) (by kernel_rfl) (fun _ _ _ h => h) (by kernel_rfl) (by assumption) (fun w hSw => hy_move (.inl rfl) (by simp [ev_put, sz_put, hsz, h13, h14])) ?_
      refine h_yes 5 94 (v := .int .i64 ((k : Nat) : Int)) rfl rfl (by kernel_rfl) (by kernel_rfl) (by kernel_rfl) (fun _ _ _ h => h) (by kernel_rfl) (by assumption) (fun w hSw => hy_move (.inl rfl) (by simp [ev_put, sz_put, hsz, h13, h14])) ?_
      refine h_yes 6 95 (v := .int .i64 (((k + 1) : Nat) : Int)) rfl rfl (by kernel_rfl) (by kernel_rfl) (by kernel_rfl) (fun _ _ _ h => h) (by kernel_rfl) (by assumption) (fun w hSw => hy_add (n := k) (m := 1) rfl (by simp [ev_put, sz_put, hsz, h13, h14]) (by omega) (by omega)) ?_
      refine h_yes 7 96 (v := .int .i64 ((((k + 1) % 4) : Nat) : Int)) rfl rfl (by kernel_rfl) (by kernel_rfl) (by kernel_rfl) (fun _ _ _ h => h) (by kernel_rfl) (by assumption) (fun w hSw => hy_rem (n := (k + 1)) rfl (by simp [ev_put, sz_put, hsz, h13, h14]) (by omega)) ?_
      refine h_yes 8 97 (v := .pointer (some ⟨lb, ((k + 1) % 4), none⟩)) rfl rfl (by kernel_rfl) (by kernel_rfl) (by kernel_rfl) (fun _ _ _ h => h) (by kernel_rfl) (by assumption) (fun w hSw => hy_index rfl (by simp [ev_put, sz_put, hsz, h13, h14]) (by simp [ev_put, sz_put, hsz, h13, h14]) (by omega)) ?_
      refine h_yes 9 98 (v := .string (T (((k + 1) % 4)))) rfl rfl (by kernel_rfl) (by kernel_rfl) (by kernel_rfl) (fun _ _ _ h => h) (by kernel_rfl) (by assumption) (fun w hSw => hy_load rfl (by simp [ev_put, sz_put, hsz, h13, h14]) (hSw.2 (((k + 1) % 4)) (by omega))) ?_
      refine h_yes 10 99 (v := .string (T (k) ++ T (((k + 1) % 4)))) rfl rfl (by kernel_rfl) (by kernel_rfl) (by kernel_rfl) (fun _ _ _ h => h) (by kernel_rfl) (by assumption) (fun w hSw => hy_cat rfl (by simp [ev_put, sz_put, hsz, h13, h14]) (by simp [ev_put, sz_put, hsz, h13, h14]) (by have z0 := hT (k); have z1 := hT (((k + 1) % 4)); omega)) ?_
      refine h_yes 11 100 (v := .slice (some ⟨lb, 0, none⟩) 4 4) rfl rfl (by kernel_rfl) (by kernel_rfl) (by kernel_rfl) (fun _ _ _ h => h) (by kernel_rfl) (by assumption) (fun w hSw => hy_move (.inl rfl) (by simp [ev_put, sz_put, hsz, h13, h14])) ?_
      refine h_yes 12 101 (v := .int .i64 ((k : Nat) : Int)) rfl rfl (by kernel_rfl) (by kernel_rfl) (by kernel_rfl) (fun _ _ _ h => h) (by kernel_rfl) (by assumption) (fun w hSw => hy_move (.inl rfl) (by simp [ev_put, sz_put, hsz, h13, h14])) ?_
      refine h_yes 13 102 (v := .int .i64 (((k + 2) : Nat) : Int)) rfl rfl (by kernel_rfl) (by kernel_rfl) (by kernel_rfl) (fun _ _ _ h => h) (by kernel_rfl) (by assumption) (fun w hSw => hy_add (n := k) (m := 2) rfl (by simp [ev_put, sz_put, hsz, h13, h14]) (by omega) (by omega)) ?_
      refine h_yes 14 103 (v := .int .i64 ((((k + 2) % 4) : Nat) : Int)) rfl rfl (by kernel_rfl) (by kernel_rfl) (by kernel_rfl) (fun _ _ _ h => h) (by kernel_rfl) (by assumption) (fun w hSw => hy_rem (n := (k + 2)) rfl (by simp [ev_put, sz_put, hsz, h13, h14]) (by omega)) ?_
      refine h_yes 15 104 (v := .pointer (some ⟨lb, ((k + 2) % 4), none⟩)) rfl rfl (by kernel_rfl) (by kernel_rfl) (by kernel_rfl) (fun _ _ _ h => h) (by kernel_rfl) (by assumption) (fun w hSw => hy_index rfl (by simp [ev_put, sz_put, hsz, h13, h14]) (by simp [ev_put, sz_put, hsz, h13, h14]) (by omega)) ?_
      refine h_yes 16 105 (v := .string (T (((k + 2) % 4)))) rfl rfl (by kernel_rfl) (by kernel_rfl) (by kernel_rfl) (fun _ _ _ h => h) (by kernel_rfl) (by assumption) (fun w hSw => hy_load rfl (by simp [ev_put, sz_put, hsz, h13, h14]) (hSw.2 (((k + 2) % 4)) (by omega))) ?_
      refine h_yes 17 106 (v := .string ((T (k) ++ T (((k + 1) % 4))) ++ T (((k + 2) % 4)))) rfl rfl (by kernel_rfl) (by kernel_rfl) (by kernel_rfl) (fun _ _ _ h => h) (by kernel_rfl) (by assumption) (fun w hSw => hy_cat rfl (by simp [ev_put, sz_put, hsz, h13, h14]) (by simp [ev_put, sz_put, hsz, h13, h14]) (by have z0 := hT (k); have z1 := hT (((k + 1) % 4)); have z2 := hT (((k + 2) % 4)); simp only [ByteArray.size_append]; omega)) ?_
      refine h_yes 18 107 (v := .slice (some ⟨lb, 0, none⟩) 4 4) rfl rfl (by kernel_rfl) (by kernel_rfl) (by kernel_rfl) (fun _ _ _ h => h) (by kernel_rfl) (by assumption) (fun w hSw => hy_move (.inl rfl) (by simp [ev_put, sz_put, hsz, h13, h14])) ?_
      refine h_yes 19 108 (v := .int .i64 ((k : Nat) : Int)) rfl rfl (by kernel_rfl) (by kernel_rfl) (by kernel_rfl) (fun _ _ _ h => h) (by kernel_rfl) (by assumption) (fun w hSw => hy_move (.inl rfl) (by simp [ev_put, sz_put, hsz, h13, h14])) ?_
      refine h_yes 20 109 (v := .int .i64 (((k + 3) : Nat) : Int)) rfl rfl (by kernel_rfl) (by kernel_rfl) (by kernel_rfl) (fun _ _ _ h => h) (by kernel_rfl) (by assumption) (fun w hSw => hy_add (n := k) (m := 3) rfl (by simp [ev_put, sz_put, hsz, h13, h14]) (by omega) (by omega)) ?_
      refine h_yes 21 110 (v := .int .i64 ((((k + 3) % 4) : Nat) : Int)) rfl rfl (by kernel_rfl) (by kernel_rfl) (by kernel_rfl) (fun _ _ _ h => h) (by kernel_rfl) (by assumption) (fun w hSw => hy_rem (n := (k + 3)) rfl (by simp [ev_put, sz_put, hsz, h13, h14]) (by omega)) ?_
      refine h_yes 22 111 (v := .pointer (some ⟨lb, ((k + 3) % 4), none⟩)) rfl rfl (by kernel_rfl) (by kernel_rfl) (by kernel_rfl) (fun _ _ _ h => h) (by kernel_rfl) (by assumption) (fun w hSw => hy_index rfl (by simp [ev_put, sz_put, hsz, h13, h14]) (by simp [ev_put, sz_put, hsz, h13, h14]) (by omega)) ?_
      refine h_yes 23 112 (v := .string (T (((k + 3) % 4)))) rfl rfl (by kernel_rfl) (by kernel_rfl) (by kernel_rfl) (fun _ _ _ h => h) (by kernel_rfl) (by assumption) (fun w hSw => hy_load rfl (by simp [ev_put, sz_put, hsz, h13, h14]) (hSw.2 (((k + 3) % 4)) (by omega))) ?_
      refine h_yes 24 113 (v := .string (((T (k) ++ T (((k + 1) % 4))) ++ T (((k + 2) % 4))) ++ T (((k + 3) % 4)))) rfl rfl (by kernel_rfl) (by kernel_rfl) (by kernel_rfl) (fun _ _ _ h => h) (by kernel_rfl) (by assumption) (fun w hSw => hy_cat rfl (by simp [ev_put, sz_put, hsz, h13, h14]) (by simp [ev_put, sz_put, hsz, h13, h14]) (by have z0 := hT (k); have z1 := hT (((k + 1) % 4)); have z2 := hT (((k + 2) % 4)); have z3 := hT (((k + 3) % 4)); simp only [ByteArray.size_append]; omega)) ?_
      refine wpAnyH_ready (rs := [25, 30]) (by kernel_rfl) (by simp) (AllReadyH.cons rfl (fun K hK => ?_) (AllReadyH.cons rfl (fun K hK => ?_) AllReadyH.nil))
      · rw [if_pos (by kernel_rfl)]
        refine wpc_parse (v := .string ((((T (k) ++ T (((k + 1) % 4))) ++ T (((k + 2) % 4))) ++ T (((k + 3) % 4))))) rfl (by simp [ev_put, sz_put, hsz, h13, h14]) ((HC9 _ hHeld.1).mono ?_)
        rintro e' w6 ⟨p0, n0, q0, rfl, hown, hB6⟩
        refine ⟨_, rfl, ?_⟩
        have hS6 : Below W5.heap.size W5 w6 ∧ ∀ j, j < 4 → w6.cell? ⟨lb, j, none⟩ = some (.string (T j)) := ⟨hHeld.1.trans (hB6.mono hHeld.1.size), fun j hj => (hB6.cell (p := ⟨lb, j, none⟩) (Lib.lt_of_cell (hHeld.2 j hj))).trans (hHeld.2 j hj)⟩
        refine hK.out _ _ hS6 (fun hHeld => ?_)
        clear hK K
        refine h_yes 26 88 (v := .tuple #[.agg #[.slice p0 n0 q0, .int .i64 (f : Int), .int .i64 (c : Int), .int .i64 (e : Int)], .int .i64 0, .int .i64 0]) rfl rfl (by kernel_rfl) (by kernel_rfl) (by kernel_rfl) (fun _ _ _ h => h) (by kernel_rfl) (by assumption) (fun w hSw => hy_move (.inl rfl) (by simp [ev_put, sz_put, hsz, h13, h14])) ?_
        refine h_yes 27 115 (v := .agg #[.slice p0 n0 q0, .int .i64 (f : Int), .int .i64 (c : Int), .int .i64 (e : Int)]) rfl rfl (by kernel_rfl) (by kernel_rfl) (by kernel_rfl) (fun _ _ _ h => h) (by kernel_rfl) (by assumption) (fun w hSw => hy_ext (vs := #[.agg #[.slice p0 n0 q0, .int .i64 (f : Int), .int .i64 (c : Int), .int .i64 (e : Int)], .int .i64 0, .int .i64 0]) (i := 0) rfl (by simp [ev_put, sz_put, hsz, h13, h14]) rfl) ?_
        refine h_yes 28 116 (v := .int .i64 0) rfl rfl (by kernel_rfl) (by kernel_rfl) (by kernel_rfl) (fun _ _ _ h => h) (by kernel_rfl) (by assumption) (fun w hSw => hy_ext (vs := #[.agg #[.slice p0 n0 q0, .int .i64 (f : Int), .int .i64 (c : Int), .int .i64 (e : Int)], .int .i64 0, .int .i64 0]) (i := 1) rfl (by simp [ev_put, sz_put, hsz, h13, h14]) rfl) ?_
        refine h_yes 29 117 (v := .int .i64 0) rfl rfl (by kernel_rfl) (by kernel_rfl) (by kernel_rfl) (fun _ _ _ h => h) (by kernel_rfl) (by assumption) (fun w hSw => hy_ext (vs := #[.agg #[.slice p0 n0 q0, .int .i64 (f : Int), .int .i64 (c : Int), .int .i64 (e : Int)], .int .i64 0, .int .i64 0]) (i := 2) rfl (by simp [ev_put, sz_put, hsz, h13, h14]) rfl) ?_
        refine h_step 30 rfl (by kernel_rfl) (by kernel_rfl) (fun K hK => ?_)
        refine wpa_sc rfl ?_
        obtain ⟨b, hb⟩ : ∃ b, w6.heap.size = b := ⟨_, rfl⟩
        have hR := R0.new w6
        have hS9 : Below W5.heap.size W5 (w6.alloc (.cells #[.slice none 0 0, .int .i64 0, .int .i64 0, .int .i64 0] 27)) ∧ ∀ j, j < 4 → (w6.alloc (.cells #[.slice none 0 0, .int .i64 0, .int .i64 0, .int .i64 0] 27)).cell? ⟨lb, j, none⟩ = some (.string (T j)) :=
          ⟨hS6.1.alloc hS6.1.size _, fun j hj => (World.cell?_of_block (a := ⟨lb, j, none⟩) (Below.heap_alloc w6 _ lb (by have := hS6.1.size; omega))).trans (hS6.2 j hj)⟩
        have hbW : W5.heap.size ≤ b := by have := hS6.1.size; omega
        have hO := hown.alloc (.cells #[.slice none 0 0, .int .i64 0, .int .i64 0, .int .i64 0] 27)
        rw [hb] at hR ⊢
        refine hK.out _ _ hS9 (fun hHeld => ?_)
        clear hK K
        have hHeld : Below W5.heap.size W5 (((((w6.alloc (.cells #[.slice none 0 0, .int .i64 0, .int .i64 0, .int .i64 0] 27)).setCell ⟨b, 0, none⟩ (.slice p0 n0 q0)).setCell ⟨b, 1, none⟩ (.int .i64 (f : Int))).setCell ⟨b, 2, none⟩ (.int .i64 (c : Int))).setCell ⟨b, 3, none⟩ (.int .i64 (e : Int))) ∧ ∀ j, j < 4 → (((((w6.alloc (.cells #[.slice none 0 0, .int .i64 0, .int .i64 0, .int .i64 0] 27)).setCell ⟨b, 0, none⟩ (.slice p0 n0 q0)).setCell ⟨b, 1, none⟩ (.int .i64 (f : Int))).setCell ⟨b, 2, none⟩ (.int .i64 (c : Int))).setCell ⟨b, 3, none⟩ (.int .i64 (e : Int))).cell? ⟨lb, j, none⟩ = some (.string (T j)) := by
          refine ⟨(((hS9.1.setCell (p := ⟨b, 0, none⟩) hbW (.slice p0 n0 q0)).setCell (p := ⟨b, 1, none⟩) hbW (.int .i64 (f : Int))).setCell (p := ⟨b, 2, none⟩) hbW (.int .i64 (c : Int))).setCell (p := ⟨b, 3, none⟩) hbW (.int .i64 (e : Int)), fun j hj => ?_⟩
          have hne : lb ≠ b := by omega
          exact (World.cell?_of_block (a := ⟨lb, j, none⟩) (by rw [Below.heap_setCell _ _ _ _ hne, Below.heap_setCell _ _ _ _ hne, Below.heap_setCell _ _ _ _ hne, Below.heap_setCell _ _ _ _ hne])).trans (hS9.2 j hj)
        have hB9 := hHeld.1
        have hO9 := own_r0 hO hR (.slice p0 n0 q0) (.int .i64 (f : Int)) (.int .i64 (c : Int)) (.int .i64 (e : Int))
        have hR9 := hR.set (.slice p0 n0 q0) (.int .i64 (f : Int)) (.int .i64 (c : Int)) (.int .i64 (e : Int))
        refine tail3 31 32 33 19 20 (b := b) (p := p0) (n := n0) (c := q0) (f1 := (f : Int)) (c1 := (c : Int)) (e1 := (e : Int)) (v2 := .int .i64 0) (v3 := .int .i64 0) rfl rfl rfl rfl rfl rfl rfl rfl rfl rfl rfl rfl (by kernel_rfl) (by kernel_rfl) (by kernel_rfl) (by kernel_rfl) (by simp [ev_put, sz_put, hsz, h13, h14]) (by simp [ev_put, sz_put, hsz, h13, h14]) (by simp [ev_put, sz_put, hsz, h13, h14]) (by simp [ev_put, sz_put, hsz, h13, h14]) hR hHeld ?_
        exact hQ p0 n0 q0 b _ hbW hB9 hR9 ⟨_, hO9⟩
      · rw [if_pos (by kernel_rfl)]
        refine wpa_sc rfl ?_
        obtain ⟨b, hb⟩ : ∃ b, W5.drew.heap.size = b := ⟨_, rfl⟩
        have hR5 := R0.new W5.drew
        have hbW : W5.heap.size ≤ b := by rw [← hb]; exact Nat.le_refl _
        have hS5 : Below W5.heap.size W5 (W5.drew.alloc (.cells #[.slice none 0 0, .int .i64 0, .int .i64 0, .int .i64 0] 27)) ∧ ∀ j, j < 4 → (W5.drew.alloc (.cells #[.slice none 0 0, .int .i64 0, .int .i64 0, .int .i64 0] 27)).cell? ⟨lb, j, none⟩ = some (.string (T j)) :=
          ⟨(Below.drew (Below.refl _ _)).alloc (Nat.le_refl _) _, fun j hj => (World.cell?_of_block (a := ⟨lb, j, none⟩) (Below.heap_alloc W5.drew _ lb hlb)).trans (hS j hj)⟩
        rw [hb] at hR5 ⊢
        refine hK.out _ _ hS5 (fun hHeld => ?_)
        clear hK K
        refine h_step 25 rfl (by kernel_rfl) (by kernel_rfl) (fun K hK => ?_)
        refine wpc_parse (v := .string ((((T (k) ++ T (((k + 1) % 4))) ++ T (((k + 2) % 4))) ++ T (((k + 3) % 4))))) rfl (by simp [ev_put, sz_put, hsz, h13, h14]) ((HC9 _ hHeld.1).mono ?_)
        rintro e' w6 ⟨p0, n0, q0, rfl, hown, hB6⟩
        refine ⟨_, rfl, ?_⟩
        have hS6 : Below W5.heap.size W5 w6 ∧ ∀ j, j < 4 → w6.cell? ⟨lb, j, none⟩ = some (.string (T j)) := ⟨hHeld.1.trans (hB6.mono hHeld.1.size), fun j hj => (hB6.cell (p := ⟨lb, j, none⟩) (Lib.lt_of_cell (hHeld.2 j hj))).trans (hHeld.2 j hj)⟩
        refine hK.out _ _ hS6 (fun hHeld => ?_)
        clear hK K
        refine h_yes 26 88 (v := .tuple #[.agg #[.slice p0 n0 q0, .int .i64 (f : Int), .int .i64 (c : Int), .int .i64 (e : Int)], .int .i64 0, .int .i64 0]) rfl rfl (by kernel_rfl) (by kernel_rfl) (by kernel_rfl) (fun _ _ _ h => h) (by kernel_rfl) (by assumption) (fun w hSw => hy_move (.inl rfl) (by simp [ev_put, sz_put, hsz, h13, h14])) ?_
        refine h_yes 27 115 (v := .agg #[.slice p0 n0 q0, .int .i64 (f : Int), .int .i64 (c : Int), .int .i64 (e : Int)]) rfl rfl (by kernel_rfl) (by kernel_rfl) (by kernel_rfl) (fun _ _ _ h => h) (by kernel_rfl) (by assumption) (fun w hSw => hy_ext (vs := #[.agg #[.slice p0 n0 q0, .int .i64 (f : Int), .int .i64 (c : Int), .int .i64 (e : Int)], .int .i64 0, .int .i64 0]) (i := 0) rfl (by simp [ev_put, sz_put, hsz, h13, h14]) rfl) ?_
        refine h_yes 28 116 (v := .int .i64 0) rfl rfl (by kernel_rfl) (by kernel_rfl) (by kernel_rfl) (fun _ _ _ h => h) (by kernel_rfl) (by assumption) (fun w hSw => hy_ext (vs := #[.agg #[.slice p0 n0 q0, .int .i64 (f : Int), .int .i64 (c : Int), .int .i64 (e : Int)], .int .i64 0, .int .i64 0]) (i := 1) rfl (by simp [ev_put, sz_put, hsz, h13, h14]) rfl) ?_
        refine h_yes 29 117 (v := .int .i64 0) rfl rfl (by kernel_rfl) (by kernel_rfl) (by kernel_rfl) (fun _ _ _ h => h) (by kernel_rfl) (by assumption) (fun w hSw => hy_ext (vs := #[.agg #[.slice p0 n0 q0, .int .i64 (f : Int), .int .i64 (c : Int), .int .i64 (e : Int)], .int .i64 0, .int .i64 0]) (i := 2) rfl (by simp [ev_put, sz_put, hsz, h13, h14]) rfl) ?_
        have hR : R0 w6 b := (hB6.block b (Array.getElem?_eq_some_iff.1 hR5).1).trans hR5
        have hS9 := hS6
        have hO := hown
        have hHeld : Below W5.heap.size W5 ((((w6.setCell ⟨b, 0, none⟩ (.slice p0 n0 q0)).setCell ⟨b, 1, none⟩ (.int .i64 (f : Int))).setCell ⟨b, 2, none⟩ (.int .i64 (c : Int))).setCell ⟨b, 3, none⟩ (.int .i64 (e : Int))) ∧ ∀ j, j < 4 → ((((w6.setCell ⟨b, 0, none⟩ (.slice p0 n0 q0)).setCell ⟨b, 1, none⟩ (.int .i64 (f : Int))).setCell ⟨b, 2, none⟩ (.int .i64 (c : Int))).setCell ⟨b, 3, none⟩ (.int .i64 (e : Int))).cell? ⟨lb, j, none⟩ = some (.string (T j)) := by
          refine ⟨(((hS9.1.setCell (p := ⟨b, 0, none⟩) hbW (.slice p0 n0 q0)).setCell (p := ⟨b, 1, none⟩) hbW (.int .i64 (f : Int))).setCell (p := ⟨b, 2, none⟩) hbW (.int .i64 (c : Int))).setCell (p := ⟨b, 3, none⟩) hbW (.int .i64 (e : Int)), fun j hj => ?_⟩
          have hne : lb ≠ b := by omega
          exact (World.cell?_of_block (a := ⟨lb, j, none⟩) (by rw [Below.heap_setCell _ _ _ _ hne, Below.heap_setCell _ _ _ _ hne, Below.heap_setCell _ _ _ _ hne, Below.heap_setCell _ _ _ _ hne])).trans (hS9.2 j hj)
        have hB9 := hHeld.1
        have hO9 := own_r0 hO hR (.slice p0 n0 q0) (.int .i64 (f : Int)) (.int .i64 (c : Int)) (.int .i64 (e : Int))
        have hR9 := hR.set (.slice p0 n0 q0) (.int .i64 (f : Int)) (.int .i64 (c : Int)) (.int .i64 (e : Int))
        refine tail3 31 32 33 19 20 (b := b) (p := p0) (n := n0) (c := q0) (f1 := (f : Int)) (c1 := (c : Int)) (e1 := (e : Int)) (v2 := .int .i64 0) (v3 := .int .i64 0) rfl rfl rfl rfl rfl rfl rfl rfl rfl rfl rfl rfl (by kernel_rfl) (by kernel_rfl) (by kernel_rfl) (by kernel_rfl) (by simp [ev_put, sz_put, hsz, h13, h14]) (by simp [ev_put, sz_put, hsz, h13, h14]) (by simp [ev_put, sz_put, hsz, h13, h14]) (by simp [ev_put, sz_put, hsz, h13, h14]) hR hHeld ?_
        have hq := hQ p0 n0 q0 b _ hbW hB9 hR9 ⟨_, hO9⟩
        rw [← put_comm15 18 _ 117 _ _ (by decide), ← put_comm15 18 _ 116 _ _ (by decide), ← put_comm15 18 _ 115 _ _ (by decide), ← put_comm15 18 _ 88 _ _ (by decide), ← put_comm15 18 _ 114 _ _ (by decide)] at hq
        exact hq
    intro p9 n9 q9 b9 W6 hb9 hB9 hR9 hO9
    subst hA
    have HB9 := Lib.hid hB9
    have HR9 := Lib.hid hR9
    have HO9 := Lib.hid hO9
    have hz9 := hB9.size
    have HSS : Hid (∀ j, j < 4 → W6.cell? ⟨lb, j, none⟩ = some (.string (T j))) := Lib.hid (fun j hj => (HB9.out.cell (p := ⟨lb, j, none⟩) hlb).trans (HSS.out j hj))
    have hlb : lb < W6.heap.size := by omega
    have HL4 := Lib.hid (HL4.out.below HB9.out)
    have hbl9 : b9 < W6.heap.size := (Array.getElem?_eq_some_iff.1 HR9.out).1
    clear hB9 hR9 hO9 HC9 hS hT hsz h13 h14
    simp (config := { maxSteps := 10000000 }) only [Act.put, List.setIfInBounds_toArray, List.set_cons_zero, List.set_cons_succ]
    have HC10 : ∀ W', Below W6.heap.size W6 W' → Calls Tryd.prog 8 #[.string ((T (((k + 1) % 4)) ++ T (((k + 2) % 4))) ++ T (((k + 3) % 4)))] W' fun e' w' => ∃ p n q, e' = .returned (.tuple #[.agg #[.slice p n q, .int .i64 ((if k = 0 then 10000 else f : Nat) : Int), .int .i64 ((if k = 1 then 10000 else c : Nat) : Int), .int .i64 ((if k = 2 then 0 else e : Nat) : Int)], .int .i64 0, .int .i64 0]) ∧ w'.ownsRow W'.heap.size 22 1 (.slice p n q) (if k = 3 then ([] : List Nat) else ps).length (pickV (if k = 3 then ([] : List Nat) else ps)) ∧ Below W'.heap.size W' w' := fun W' hW' =>
      pt_ok f c e ps hf hc he HP.out hpn [(k + 1) % 4, (k + 2) % 4, (k + 3) % 4] (by simp) _ (by rw [HTd.out]; simp [bl_app, lineS_bl, textT]) _ (go_less f c e ps hf hc he HP.out k hk4) W' (HL4.out.below hW')
    go_upto_region 10 with fail
    generalize hA : (Act.mk _ _) = a
    have hsz : a.tmps.size = 223 := by rw [← hA]; rfl
    have h13 : a.eval (.tmp 13) = .slice (some ⟨lb, 0, none⟩) 4 4 := by rw [← hA]; rfl
    have h14 : a.eval (.tmp 14) = .int .i64 (k : Int) := by rw [← hA]; rfl
    have hS := HSS.out
    have hT := HTT.out
    refine with_Q (fun Q => ∀ p0 n0 q0 (b : Nat) (w9 : World), W6.heap.size ≤ b → Below W6.heap.size W6 w9 → w9.heap[b]? = some (.cells #[.slice p0 n0 q0, .int .i64 ((if k = 0 then 10000 else f : Nat) : Int), .int .i64 ((if k = 1 then 10000 else c : Nat) : Int), .int .i64 ((if k = 2 then 0 else e : Nat) : Int)] 27 (0, 0)) → (∃ base, w9.ownsRow base 22 1 (.slice p0 n0 q0) (if k = 3 then ([] : List Nat) else ps).length (pickV (if k = 3 then ([] : List Nat) else ps))) → Q .normal ((((((((((((((((((((((((((((a.put (some 119) (.slice (some ⟨lb, 0, none⟩) 4 4)).put (some 120) (.int .i64 ((k : Nat) : Int))).put (some 121) (.int .i64 (((k + 1) : Nat) : Int))).put (some 122) (.int .i64 ((((k + 1) % 4) : Nat) : Int))).put (some 123) (.pointer (some ⟨lb, ((k + 1) % 4), none⟩))).put (some 124) (.string (T (((k + 1) % 4))))).put (some 125) (.slice (some ⟨lb, 0, none⟩) 4 4)).put (some 126) (.int .i64 ((k : Nat) : Int))).put (some 127) (.int .i64 (((k + 2) : Nat) : Int))).put (some 128) (.int .i64 ((((k + 2) % 4) : Nat) : Int))).put (some 129) (.pointer (some ⟨lb, ((k + 2) % 4), none⟩))).put (some 130) (.string (T (((k + 2) % 4))))).put (some 131) (.string (T (((k + 1) % 4)) ++ T (((k + 2) % 4))))).put (some 132) (.slice (some ⟨lb, 0, none⟩) 4 4)).put (some 133) (.int .i64 ((k : Nat) : Int))).put (some 134) (.int .i64 (((k + 3) : Nat) : Int))).put (some 135) (.int .i64 ((((k + 3) % 4) : Nat) : Int))).put (some 136) (.pointer (some ⟨lb, ((k + 3) % 4), none⟩))).put (some 137) (.string (T (((k + 3) % 4))))).put (some 138) (.string ((T (((k + 1) % 4)) ++ T (((k + 2) % 4))) ++ T (((k + 3) % 4))))).put (some 139) (.tuple #[.agg #[.slice p0 n0 q0, .int .i64 ((if k = 0 then 10000 else f : Nat) : Int), .int .i64 ((if k = 1 then 10000 else c : Nat) : Int), .int .i64 ((if k = 2 then 0 else e : Nat) : Int)], .int .i64 0, .int .i64 0])).put (some 118) (.tuple #[.agg #[.slice p0 n0 q0, .int .i64 ((if k = 0 then 10000 else f : Nat) : Int), .int .i64 ((if k = 1 then 10000 else c : Nat) : Int), .int .i64 ((if k = 2 then 0 else e : Nat) : Int)], .int .i64 0, .int .i64 0])).put (some 140) (.agg #[.slice p0 n0 q0, .int .i64 ((if k = 0 then 10000 else f : Nat) : Int), .int .i64 ((if k = 1 then 10000 else c : Nat) : Int), .int .i64 ((if k = 2 then 0 else e : Nat) : Int)])).put (some 141) (.int .i64 0)).put (some 142) (.int .i64 0)).put (some 21) (.pointer (some ⟨b, 0, none⟩))).put (some 22) (.int .i64 0)).put (some 23) (.int .i64 0)) w9) ?_ (fun hQ => ?_)
    rotate_left 1
    · clear hA
      refine wp_region_held_drew (S := (fun w' => Below W6.heap.size W6 w' ∧ ∀ j, j < 4 → w'.cell? ⟨lb, j, none⟩ = some (.string (T j)))) (by kernel_rfl) ?_ (fun hHeld => ?_)
      · exact ⟨(Below.refl _ _).drew, hS⟩
      refine h_yes 0 119 (v := .slice (some ⟨lb, 0, none⟩) 4 4) rfl rfl (by kernel_rfl) (by kernel_rfl) (by kernel_rfl) (fun _ _ _ h => h) (by kernel_rfl) (by assumption) (fun w hSw => hy_move (.inl rfl) (by simp [ev_put, sz_put, hsz, h13, h14])) ?_
      refine h_yes 1 120 (v := .int .i64 ((k : Nat) : Int)) rfl rfl (by kernel_rfl) (by kernel_rfl) (by kernel_rfl) (fun _ _ _ h => h) (by kernel_rfl) (by assumption) (fun w hSw => hy_move (.inl rfl) (by simp [ev_put, sz_put, hsz, h13, h14])) ?_
      refine h_yes 2 121 (v := .int .i64 (((k + 1) : Nat) : Int)) rfl rfl (by kernel_rfl) (by kernel_rfl) (by kernel_rfl) (fun _ _ _ h => h) (by kernel_rfl) (by assumption) (fun w hSw => hy_add (n := k) (m := 1) rfl (by simp [ev_put, sz_put, hsz, h13, h14]) (by omega) (by omega)) ?_
      refine h_yes 3 122 (v := .int .i64 ((((k + 1) % 4) : Nat) : Int)) rfl rfl (by kernel_rfl) (by kernel_rfl) (by kernel_rfl) (fun _ _ _ h => h) (by kernel_rfl) (by assumption) (fun w hSw => hy_rem (n := (k + 1)) rfl (by simp [ev_put, sz_put, hsz, h13, h14]) (by omega)) ?_
      refine h_yes 4 123 (v := .pointer (some ⟨lb, ((k + 1) % 4), none⟩)) rfl rfl (by kernel_rfl) (by kernel_rfl) (by kernel_rfl) (fun _ _ _ h => h) (by kernel_rfl) (by assumption) (fun w hSw => hy_index rfl (by simp [ev_put, sz_put, hsz, h13, h14]) (by simp [ev_put, sz_put, hsz, h13, h14]) (by omega)) ?_
      refine h_yes 5 124 (v := .string (T (((k + 1) % 4)))) rfl rfl (by kernel_rfl) (by kernel_rfl) (by kernel_rfl) (fun _ _ _ h => h) (by kernel_rfl) (by assumption) (fun w hSw => hy_load rfl (by simp [ev_put, sz_put, hsz, h13, h14]) (hSw.2 (((k + 1) % 4)) (by omega))) ?_
      refine h_yes 6 125 (v := .slice (some ⟨lb, 0, none⟩) 4 4) rfl rfl (by kernel_rfl) (by kernel_rfl) (by kernel_rfl) (fun _ _ _ h => h) (by kernel_rfl) (by assumption) (fun w hSw => hy_move (.inl rfl) (by simp [ev_put, sz_put, hsz, h13, h14])) ?_
      refine h_yes 7 126 (v := .int .i64 ((k : Nat) : Int)) rfl rfl (by kernel_rfl) (by kernel_rfl) (by kernel_rfl) (fun _ _ _ h => h) (by kernel_rfl) (by assumption) (fun w hSw => hy_move (.inl rfl) (by simp [ev_put, sz_put, hsz, h13, h14])) ?_
      refine h_yes 8 127 (v := .int .i64 (((k + 2) : Nat) : Int)) rfl rfl (by kernel_rfl) (by kernel_rfl) (by kernel_rfl) (fun _ _ _ h => h) (by kernel_rfl) (by assumption) (fun w hSw => hy_add (n := k) (m := 2) rfl (by simp [ev_put, sz_put, hsz, h13, h14]) (by omega) (by omega)) ?_
      refine h_yes 9 128 (v := .int .i64 ((((k + 2) % 4) : Nat) : Int)) rfl rfl (by kernel_rfl) (by kernel_rfl) (by kernel_rfl) (fun _ _ _ h => h) (by kernel_rfl) (by assumption) (fun w hSw => hy_rem (n := (k + 2)) rfl (by simp [ev_put, sz_put, hsz, h13, h14]) (by omega)) ?_
      refine h_yes 10 129 (v := .pointer (some ⟨lb, ((k + 2) % 4), none⟩)) rfl rfl (by kernel_rfl) (by kernel_rfl) (by kernel_rfl) (fun _ _ _ h => h) (by kernel_rfl) (by assumption) (fun w hSw => hy_index rfl (by simp [ev_put, sz_put, hsz, h13, h14]) (by simp [ev_put, sz_put, hsz, h13, h14]) (by omega)) ?_
      refine h_yes 11 130 (v := .string (T (((k + 2) % 4)))) rfl rfl (by kernel_rfl) (by kernel_rfl) (by kernel_rfl) (fun _ _ _ h => h) (by kernel_rfl) (by assumption) (fun w hSw => hy_load rfl (by simp [ev_put, sz_put, hsz, h13, h14]) (hSw.2 (((k + 2) % 4)) (by omega))) ?_
      refine h_yes 12 131 (v := .string (T (((k + 1) % 4)) ++ T (((k + 2) % 4)))) rfl rfl (by kernel_rfl) (by kernel_rfl) (by kernel_rfl) (fun _ _ _ h => h) (by kernel_rfl) (by assumption) (fun w hSw => hy_cat rfl (by simp [ev_put, sz_put, hsz, h13, h14]) (by simp [ev_put, sz_put, hsz, h13, h14]) (by have z0 := hT (((k + 1) % 4)); have z1 := hT (((k + 2) % 4)); omega)) ?_
      refine h_yes 13 132 (v := .slice (some ⟨lb, 0, none⟩) 4 4) rfl rfl (by kernel_rfl) (by kernel_rfl) (by kernel_rfl) (fun _ _ _ h => h) (by kernel_rfl) (by assumption) (fun w hSw => hy_move (.inl rfl) (by simp [ev_put, sz_put, hsz, h13, h14])) ?_
      refine h_yes 14 133 (v := .int .i64 ((k : Nat) : Int)) rfl rfl (by kernel_rfl) (by kernel_rfl) (by kernel_rfl) (fun _ _ _ h => h) (by kernel_rfl) (by assumption) (fun w hSw => hy_move (.inl rfl) (by simp [ev_put, sz_put, hsz, h13, h14])) ?_
      refine h_yes 15 134 (v := .int .i64 (((k + 3) : Nat) : Int)) rfl rfl (by kernel_rfl) (by kernel_rfl) (by kernel_rfl) (fun _ _ _ h => h) (by kernel_rfl) (by assumption) (fun w hSw => hy_add (n := k) (m := 3) rfl (by simp [ev_put, sz_put, hsz, h13, h14]) (by omega) (by omega)) ?_
      refine h_yes 16 135 (v := .int .i64 ((((k + 3) % 4) : Nat) : Int)) rfl rfl (by kernel_rfl) (by kernel_rfl) (by kernel_rfl) (fun _ _ _ h => h) (by kernel_rfl) (by assumption) (fun w hSw => hy_rem (n := (k + 3)) rfl (by simp [ev_put, sz_put, hsz, h13, h14]) (by omega)) ?_
      refine h_yes 17 136 (v := .pointer (some ⟨lb, ((k + 3) % 4), none⟩)) rfl rfl (by kernel_rfl) (by kernel_rfl) (by kernel_rfl) (fun _ _ _ h => h) (by kernel_rfl) (by assumption) (fun w hSw => hy_index rfl (by simp [ev_put, sz_put, hsz, h13, h14]) (by simp [ev_put, sz_put, hsz, h13, h14]) (by omega)) ?_
      refine h_yes 18 137 (v := .string (T (((k + 3) % 4)))) rfl rfl (by kernel_rfl) (by kernel_rfl) (by kernel_rfl) (fun _ _ _ h => h) (by kernel_rfl) (by assumption) (fun w hSw => hy_load rfl (by simp [ev_put, sz_put, hsz, h13, h14]) (hSw.2 (((k + 3) % 4)) (by omega))) ?_
      refine h_yes 19 138 (v := .string ((T (((k + 1) % 4)) ++ T (((k + 2) % 4))) ++ T (((k + 3) % 4)))) rfl rfl (by kernel_rfl) (by kernel_rfl) (by kernel_rfl) (fun _ _ _ h => h) (by kernel_rfl) (by assumption) (fun w hSw => hy_cat rfl (by simp [ev_put, sz_put, hsz, h13, h14]) (by simp [ev_put, sz_put, hsz, h13, h14]) (by have z0 := hT (((k + 1) % 4)); have z1 := hT (((k + 2) % 4)); have z2 := hT (((k + 3) % 4)); simp only [ByteArray.size_append]; omega)) ?_
      refine wpAnyH_ready (rs := [20, 25]) (by kernel_rfl) (by simp) (AllReadyH.cons rfl (fun K hK => ?_) (AllReadyH.cons rfl (fun K hK => ?_) AllReadyH.nil))
      · rw [if_pos (by kernel_rfl)]
        refine wpc_parse (v := .string (((T (((k + 1) % 4)) ++ T (((k + 2) % 4))) ++ T (((k + 3) % 4))))) rfl (by simp [ev_put, sz_put, hsz, h13, h14]) ((HC10 _ hHeld.1).mono ?_)
        rintro e' w6 ⟨p0, n0, q0, rfl, hown, hB6⟩
        refine ⟨_, rfl, ?_⟩
        have hS6 : Below W6.heap.size W6 w6 ∧ ∀ j, j < 4 → w6.cell? ⟨lb, j, none⟩ = some (.string (T j)) := ⟨hHeld.1.trans (hB6.mono hHeld.1.size), fun j hj => (hB6.cell (p := ⟨lb, j, none⟩) (Lib.lt_of_cell (hHeld.2 j hj))).trans (hHeld.2 j hj)⟩
        refine hK.out _ _ hS6 (fun hHeld => ?_)
        clear hK K
        refine h_yes 21 118 (v := .tuple #[.agg #[.slice p0 n0 q0, .int .i64 ((if k = 0 then 10000 else f : Nat) : Int), .int .i64 ((if k = 1 then 10000 else c : Nat) : Int), .int .i64 ((if k = 2 then 0 else e : Nat) : Int)], .int .i64 0, .int .i64 0]) rfl rfl (by kernel_rfl) (by kernel_rfl) (by kernel_rfl) (fun _ _ _ h => h) (by kernel_rfl) (by assumption) (fun w hSw => hy_move (.inl rfl) (by simp [ev_put, sz_put, hsz, h13, h14])) ?_
        refine h_yes 22 140 (v := .agg #[.slice p0 n0 q0, .int .i64 ((if k = 0 then 10000 else f : Nat) : Int), .int .i64 ((if k = 1 then 10000 else c : Nat) : Int), .int .i64 ((if k = 2 then 0 else e : Nat) : Int)]) rfl rfl (by kernel_rfl) (by kernel_rfl) (by kernel_rfl) (fun _ _ _ h => h) (by kernel_rfl) (by assumption) (fun w hSw => hy_ext (vs := #[.agg #[.slice p0 n0 q0, .int .i64 ((if k = 0 then 10000 else f : Nat) : Int), .int .i64 ((if k = 1 then 10000 else c : Nat) : Int), .int .i64 ((if k = 2 then 0 else e : Nat) : Int)], .int .i64 0, .int .i64 0]) (i := 0) rfl (by simp [ev_put, sz_put, hsz, h13, h14]) rfl) ?_
        refine h_yes 23 141 (v := .int .i64 0) rfl rfl (by kernel_rfl) (by kernel_rfl) (by kernel_rfl) (fun _ _ _ h => h) (by kernel_rfl) (by assumption) (fun w hSw => hy_ext (vs := #[.agg #[.slice p0 n0 q0, .int .i64 ((if k = 0 then 10000 else f : Nat) : Int), .int .i64 ((if k = 1 then 10000 else c : Nat) : Int), .int .i64 ((if k = 2 then 0 else e : Nat) : Int)], .int .i64 0, .int .i64 0]) (i := 1) rfl (by simp [ev_put, sz_put, hsz, h13, h14]) rfl) ?_
        refine h_yes 24 142 (v := .int .i64 0) rfl rfl (by kernel_rfl) (by kernel_rfl) (by kernel_rfl) (fun _ _ _ h => h) (by kernel_rfl) (by assumption) (fun w hSw => hy_ext (vs := #[.agg #[.slice p0 n0 q0, .int .i64 ((if k = 0 then 10000 else f : Nat) : Int), .int .i64 ((if k = 1 then 10000 else c : Nat) : Int), .int .i64 ((if k = 2 then 0 else e : Nat) : Int)], .int .i64 0, .int .i64 0]) (i := 2) rfl (by simp [ev_put, sz_put, hsz, h13, h14]) rfl) ?_
        refine h_step 25 rfl (by kernel_rfl) (by kernel_rfl) (fun K hK => ?_)
        refine wpa_sc rfl ?_
        obtain ⟨b, hb⟩ : ∃ b, w6.heap.size = b := ⟨_, rfl⟩
        have hR := R0.new w6
        have hS9 : Below W6.heap.size W6 (w6.alloc (.cells #[.slice none 0 0, .int .i64 0, .int .i64 0, .int .i64 0] 27)) ∧ ∀ j, j < 4 → (w6.alloc (.cells #[.slice none 0 0, .int .i64 0, .int .i64 0, .int .i64 0] 27)).cell? ⟨lb, j, none⟩ = some (.string (T j)) :=
          ⟨hS6.1.alloc hS6.1.size _, fun j hj => (World.cell?_of_block (a := ⟨lb, j, none⟩) (Below.heap_alloc w6 _ lb (by have := hS6.1.size; omega))).trans (hS6.2 j hj)⟩
        have hbW : W6.heap.size ≤ b := by have := hS6.1.size; omega
        have hO := hown.alloc (.cells #[.slice none 0 0, .int .i64 0, .int .i64 0, .int .i64 0] 27)
        rw [hb] at hR ⊢
        refine hK.out _ _ hS9 (fun hHeld => ?_)
        clear hK K
        have hHeld : Below W6.heap.size W6 (((((w6.alloc (.cells #[.slice none 0 0, .int .i64 0, .int .i64 0, .int .i64 0] 27)).setCell ⟨b, 0, none⟩ (.slice p0 n0 q0)).setCell ⟨b, 1, none⟩ (.int .i64 ((if k = 0 then 10000 else f : Nat) : Int))).setCell ⟨b, 2, none⟩ (.int .i64 ((if k = 1 then 10000 else c : Nat) : Int))).setCell ⟨b, 3, none⟩ (.int .i64 ((if k = 2 then 0 else e : Nat) : Int))) ∧ ∀ j, j < 4 → (((((w6.alloc (.cells #[.slice none 0 0, .int .i64 0, .int .i64 0, .int .i64 0] 27)).setCell ⟨b, 0, none⟩ (.slice p0 n0 q0)).setCell ⟨b, 1, none⟩ (.int .i64 ((if k = 0 then 10000 else f : Nat) : Int))).setCell ⟨b, 2, none⟩ (.int .i64 ((if k = 1 then 10000 else c : Nat) : Int))).setCell ⟨b, 3, none⟩ (.int .i64 ((if k = 2 then 0 else e : Nat) : Int))).cell? ⟨lb, j, none⟩ = some (.string (T j)) := by
          refine ⟨(((hS9.1.setCell (p := ⟨b, 0, none⟩) hbW (.slice p0 n0 q0)).setCell (p := ⟨b, 1, none⟩) hbW (.int .i64 ((if k = 0 then 10000 else f : Nat) : Int))).setCell (p := ⟨b, 2, none⟩) hbW (.int .i64 ((if k = 1 then 10000 else c : Nat) : Int))).setCell (p := ⟨b, 3, none⟩) hbW (.int .i64 ((if k = 2 then 0 else e : Nat) : Int)), fun j hj => ?_⟩
          have hne : lb ≠ b := by omega
          exact (World.cell?_of_block (a := ⟨lb, j, none⟩) (by rw [Below.heap_setCell _ _ _ _ hne, Below.heap_setCell _ _ _ _ hne, Below.heap_setCell _ _ _ _ hne, Below.heap_setCell _ _ _ _ hne])).trans (hS9.2 j hj)
        have hB9 := hHeld.1
        have hO9 := own_r0 hO hR (.slice p0 n0 q0) (.int .i64 ((if k = 0 then 10000 else f : Nat) : Int)) (.int .i64 ((if k = 1 then 10000 else c : Nat) : Int)) (.int .i64 ((if k = 2 then 0 else e : Nat) : Int))
        have hR9 := hR.set (.slice p0 n0 q0) (.int .i64 ((if k = 0 then 10000 else f : Nat) : Int)) (.int .i64 ((if k = 1 then 10000 else c : Nat) : Int)) (.int .i64 ((if k = 2 then 0 else e : Nat) : Int))
        refine tail3 26 27 28 22 23 (b := b) (p := p0) (n := n0) (c := q0) (f1 := ((if k = 0 then 10000 else f : Nat) : Int)) (c1 := ((if k = 1 then 10000 else c : Nat) : Int)) (e1 := ((if k = 2 then 0 else e : Nat) : Int)) (v2 := .int .i64 0) (v3 := .int .i64 0) rfl rfl rfl rfl rfl rfl rfl rfl rfl rfl rfl rfl (by kernel_rfl) (by kernel_rfl) (by kernel_rfl) (by kernel_rfl) (by simp [ev_put, sz_put, hsz, h13, h14]) (by simp [ev_put, sz_put, hsz, h13, h14]) (by simp [ev_put, sz_put, hsz, h13, h14]) (by simp [ev_put, sz_put, hsz, h13, h14]) hR hHeld ?_
        exact hQ p0 n0 q0 b _ hbW hB9 hR9 ⟨_, hO9⟩
      · rw [if_pos (by kernel_rfl)]
        refine wpa_sc rfl ?_
        obtain ⟨b, hb⟩ : ∃ b, W6.drew.heap.size = b := ⟨_, rfl⟩
        have hR5 := R0.new W6.drew
        have hbW : W6.heap.size ≤ b := by rw [← hb]; exact Nat.le_refl _
        have hS5 : Below W6.heap.size W6 (W6.drew.alloc (.cells #[.slice none 0 0, .int .i64 0, .int .i64 0, .int .i64 0] 27)) ∧ ∀ j, j < 4 → (W6.drew.alloc (.cells #[.slice none 0 0, .int .i64 0, .int .i64 0, .int .i64 0] 27)).cell? ⟨lb, j, none⟩ = some (.string (T j)) :=
          ⟨(Below.drew (Below.refl _ _)).alloc (Nat.le_refl _) _, fun j hj => (World.cell?_of_block (a := ⟨lb, j, none⟩) (Below.heap_alloc W6.drew _ lb hlb)).trans (hS j hj)⟩
        rw [hb] at hR5 ⊢
        refine hK.out _ _ hS5 (fun hHeld => ?_)
        clear hK K
        refine h_step 20 rfl (by kernel_rfl) (by kernel_rfl) (fun K hK => ?_)
        refine wpc_parse (v := .string (((T (((k + 1) % 4)) ++ T (((k + 2) % 4))) ++ T (((k + 3) % 4))))) rfl (by simp [ev_put, sz_put, hsz, h13, h14]) ((HC10 _ hHeld.1).mono ?_)
        rintro e' w6 ⟨p0, n0, q0, rfl, hown, hB6⟩
        refine ⟨_, rfl, ?_⟩
        have hS6 : Below W6.heap.size W6 w6 ∧ ∀ j, j < 4 → w6.cell? ⟨lb, j, none⟩ = some (.string (T j)) := ⟨hHeld.1.trans (hB6.mono hHeld.1.size), fun j hj => (hB6.cell (p := ⟨lb, j, none⟩) (Lib.lt_of_cell (hHeld.2 j hj))).trans (hHeld.2 j hj)⟩
        refine hK.out _ _ hS6 (fun hHeld => ?_)
        clear hK K
        refine h_yes 21 118 (v := .tuple #[.agg #[.slice p0 n0 q0, .int .i64 ((if k = 0 then 10000 else f : Nat) : Int), .int .i64 ((if k = 1 then 10000 else c : Nat) : Int), .int .i64 ((if k = 2 then 0 else e : Nat) : Int)], .int .i64 0, .int .i64 0]) rfl rfl (by kernel_rfl) (by kernel_rfl) (by kernel_rfl) (fun _ _ _ h => h) (by kernel_rfl) (by assumption) (fun w hSw => hy_move (.inl rfl) (by simp [ev_put, sz_put, hsz, h13, h14])) ?_
        refine h_yes 22 140 (v := .agg #[.slice p0 n0 q0, .int .i64 ((if k = 0 then 10000 else f : Nat) : Int), .int .i64 ((if k = 1 then 10000 else c : Nat) : Int), .int .i64 ((if k = 2 then 0 else e : Nat) : Int)]) rfl rfl (by kernel_rfl) (by kernel_rfl) (by kernel_rfl) (fun _ _ _ h => h) (by kernel_rfl) (by assumption) (fun w hSw => hy_ext (vs := #[.agg #[.slice p0 n0 q0, .int .i64 ((if k = 0 then 10000 else f : Nat) : Int), .int .i64 ((if k = 1 then 10000 else c : Nat) : Int), .int .i64 ((if k = 2 then 0 else e : Nat) : Int)], .int .i64 0, .int .i64 0]) (i := 0) rfl (by simp [ev_put, sz_put, hsz, h13, h14]) rfl) ?_
        refine h_yes 23 141 (v := .int .i64 0) rfl rfl (by kernel_rfl) (by kernel_rfl) (by kernel_rfl) (fun _ _ _ h => h) (by kernel_rfl) (by assumption) (fun w hSw => hy_ext (vs := #[.agg #[.slice p0 n0 q0, .int .i64 ((if k = 0 then 10000 else f : Nat) : Int), .int .i64 ((if k = 1 then 10000 else c : Nat) : Int), .int .i64 ((if k = 2 then 0 else e : Nat) : Int)], .int .i64 0, .int .i64 0]) (i := 1) rfl (by simp [ev_put, sz_put, hsz, h13, h14]) rfl) ?_
        refine h_yes 24 142 (v := .int .i64 0) rfl rfl (by kernel_rfl) (by kernel_rfl) (by kernel_rfl) (fun _ _ _ h => h) (by kernel_rfl) (by assumption) (fun w hSw => hy_ext (vs := #[.agg #[.slice p0 n0 q0, .int .i64 ((if k = 0 then 10000 else f : Nat) : Int), .int .i64 ((if k = 1 then 10000 else c : Nat) : Int), .int .i64 ((if k = 2 then 0 else e : Nat) : Int)], .int .i64 0, .int .i64 0]) (i := 2) rfl (by simp [ev_put, sz_put, hsz, h13, h14]) rfl) ?_
        have hR : R0 w6 b := (hB6.block b (Array.getElem?_eq_some_iff.1 hR5).1).trans hR5
        have hS9 := hS6
        have hO := hown
        have hHeld : Below W6.heap.size W6 ((((w6.setCell ⟨b, 0, none⟩ (.slice p0 n0 q0)).setCell ⟨b, 1, none⟩ (.int .i64 ((if k = 0 then 10000 else f : Nat) : Int))).setCell ⟨b, 2, none⟩ (.int .i64 ((if k = 1 then 10000 else c : Nat) : Int))).setCell ⟨b, 3, none⟩ (.int .i64 ((if k = 2 then 0 else e : Nat) : Int))) ∧ ∀ j, j < 4 → ((((w6.setCell ⟨b, 0, none⟩ (.slice p0 n0 q0)).setCell ⟨b, 1, none⟩ (.int .i64 ((if k = 0 then 10000 else f : Nat) : Int))).setCell ⟨b, 2, none⟩ (.int .i64 ((if k = 1 then 10000 else c : Nat) : Int))).setCell ⟨b, 3, none⟩ (.int .i64 ((if k = 2 then 0 else e : Nat) : Int))).cell? ⟨lb, j, none⟩ = some (.string (T j)) := by
          refine ⟨(((hS9.1.setCell (p := ⟨b, 0, none⟩) hbW (.slice p0 n0 q0)).setCell (p := ⟨b, 1, none⟩) hbW (.int .i64 ((if k = 0 then 10000 else f : Nat) : Int))).setCell (p := ⟨b, 2, none⟩) hbW (.int .i64 ((if k = 1 then 10000 else c : Nat) : Int))).setCell (p := ⟨b, 3, none⟩) hbW (.int .i64 ((if k = 2 then 0 else e : Nat) : Int)), fun j hj => ?_⟩
          have hne : lb ≠ b := by omega
          exact (World.cell?_of_block (a := ⟨lb, j, none⟩) (by rw [Below.heap_setCell _ _ _ _ hne, Below.heap_setCell _ _ _ _ hne, Below.heap_setCell _ _ _ _ hne, Below.heap_setCell _ _ _ _ hne])).trans (hS9.2 j hj)
        have hB9 := hHeld.1
        have hO9 := own_r0 hO hR (.slice p0 n0 q0) (.int .i64 ((if k = 0 then 10000 else f : Nat) : Int)) (.int .i64 ((if k = 1 then 10000 else c : Nat) : Int)) (.int .i64 ((if k = 2 then 0 else e : Nat) : Int))
        have hR9 := hR.set (.slice p0 n0 q0) (.int .i64 ((if k = 0 then 10000 else f : Nat) : Int)) (.int .i64 ((if k = 1 then 10000 else c : Nat) : Int)) (.int .i64 ((if k = 2 then 0 else e : Nat) : Int))
        refine tail3 26 27 28 22 23 (b := b) (p := p0) (n := n0) (c := q0) (f1 := ((if k = 0 then 10000 else f : Nat) : Int)) (c1 := ((if k = 1 then 10000 else c : Nat) : Int)) (e1 := ((if k = 2 then 0 else e : Nat) : Int)) (v2 := .int .i64 0) (v3 := .int .i64 0) rfl rfl rfl rfl rfl rfl rfl rfl rfl rfl rfl rfl (by kernel_rfl) (by kernel_rfl) (by kernel_rfl) (by kernel_rfl) (by simp [ev_put, sz_put, hsz, h13, h14]) (by simp [ev_put, sz_put, hsz, h13, h14]) (by simp [ev_put, sz_put, hsz, h13, h14]) (by simp [ev_put, sz_put, hsz, h13, h14]) hR hHeld ?_
        have hq := hQ p0 n0 q0 b _ hbW hB9 hR9 ⟨_, hO9⟩
        rw [← put_comm15 21 _ 142 _ _ (by decide), ← put_comm15 21 _ 141 _ _ (by decide), ← put_comm15 21 _ 140 _ _ (by decide), ← put_comm15 21 _ 118 _ _ (by decide), ← put_comm15 21 _ 139 _ _ (by decide)] at hq
        exact hq
    intro p10 n10 q10 b10 W7 hb10 hB10 hR10 hO10
    subst hA
    have HB10 := Lib.hid hB10
    have HR10 := Lib.hid hR10
    have HO10 := Lib.hid hO10
    have hz10 := hB10.size
    have HSS : Hid (∀ j, j < 4 → W7.cell? ⟨lb, j, none⟩ = some (.string (T j))) := Lib.hid (fun j hj => (HB10.out.cell (p := ⟨lb, j, none⟩) hlb).trans (HSS.out j hj))
    have hlb : lb < W7.heap.size := by omega
    have HL4 := Lib.hid (HL4.out.below HB10.out)
    have hbl10 : b10 < W7.heap.size := (Array.getElem?_eq_some_iff.1 HR10.out).1
    clear hB10 hR10 hO10 HC10 hS hT hsz h13 h14
    simp (config := { maxSteps := 10000000 }) only [Act.put, List.setIfInBounds_toArray, List.set_cons_zero, List.set_cons_succ]
    have HC11 : ∀ W', Below W7.heap.size W7 W' → Calls Tryd.prog 8 #[.string ((T (k) ++ T (((k + 1) % 4))) ++ T (k))] W' fun e' w' => ∃ p n q, e' = .returned (.tuple #[.agg #[.slice p n q, .int .i64 0, .int .i64 0, .int .i64 0], .int .i64 3, .int .i64 8]) ∧ w'.ownsRow W'.heap.size 22 1 (.slice p n q) ([] : List Nat).length (pickV ([] : List Nat)) ∧ Below W'.heap.size W' w' := fun W' hW' =>
      pt_bad f c e ps hf hc he HP.out hpn [k, (k + 1) % 4, k] (by simp) _ (by rw [HTd.out]; simp [bl_app, lineS_bl, textT]) (go_twice f c e ps hf hc he HP.out k hk4) W' (HL4.out.below hW')
    go_upto_region 11 with fail
    generalize hA : (Act.mk _ _) = a
    have hsz : a.tmps.size = 223 := by rw [← hA]; rfl
    have h13 : a.eval (.tmp 13) = .slice (some ⟨lb, 0, none⟩) 4 4 := by rw [← hA]; rfl
    have h14 : a.eval (.tmp 14) = .int .i64 (k : Int) := by rw [← hA]; rfl
    have hS := HSS.out
    have hT := HTT.out
    refine with_Q (fun Q => ∀ p0 n0 q0 (b : Nat) (w9 : World), W7.heap.size ≤ b → Below W7.heap.size W7 w9 → w9.heap[b]? = some (.cells #[.slice p0 n0 q0, .int .i64 0, .int .i64 0, .int .i64 0] 27 (0, 0)) → (∃ base, w9.ownsRow base 22 1 (.slice p0 n0 q0) ([] : List Nat).length (pickV ([] : List Nat))) → Q .normal ((((((((((((((((((((((((a.put (some 144) (.slice (some ⟨lb, 0, none⟩) 4 4)).put (some 145) (.int .i64 ((k : Nat) : Int))).put (some 146) (.pointer (some ⟨lb, k, none⟩))).put (some 147) (.string (T (k)))).put (some 148) (.slice (some ⟨lb, 0, none⟩) 4 4)).put (some 149) (.int .i64 ((k : Nat) : Int))).put (some 150) (.int .i64 (((k + 1) : Nat) : Int))).put (some 151) (.int .i64 ((((k + 1) % 4) : Nat) : Int))).put (some 152) (.pointer (some ⟨lb, ((k + 1) % 4), none⟩))).put (some 153) (.string (T (((k + 1) % 4))))).put (some 154) (.string (T (k) ++ T (((k + 1) % 4))))).put (some 155) (.slice (some ⟨lb, 0, none⟩) 4 4)).put (some 156) (.int .i64 ((k : Nat) : Int))).put (some 157) (.pointer (some ⟨lb, k, none⟩))).put (some 158) (.string (T (k)))).put (some 159) (.string ((T (k) ++ T (((k + 1) % 4))) ++ T (k)))).put (some 160) (.tuple #[.agg #[.slice p0 n0 q0, .int .i64 0, .int .i64 0, .int .i64 0], .int .i64 3, .int .i64 8])).put (some 143) (.tuple #[.agg #[.slice p0 n0 q0, .int .i64 0, .int .i64 0, .int .i64 0], .int .i64 3, .int .i64 8])).put (some 161) (.agg #[.slice p0 n0 q0, .int .i64 0, .int .i64 0, .int .i64 0])).put (some 162) (.int .i64 3)).put (some 163) (.int .i64 8)).put (some 24) (.pointer (some ⟨b, 0, none⟩))).put (some 25) (.int .i64 3)).put (some 26) (.int .i64 8)) w9) ?_ (fun hQ => ?_)
    rotate_left 1
    · clear hA
      refine wp_region_held_drew (S := (fun w' => Below W7.heap.size W7 w' ∧ ∀ j, j < 4 → w'.cell? ⟨lb, j, none⟩ = some (.string (T j)))) (by kernel_rfl) ?_ (fun hHeld => ?_)
      · exact ⟨(Below.refl _ _).drew, hS⟩
      refine h_yes 0 144 (v := .slice (some ⟨lb, 0, none⟩) 4 4) rfl rfl (by kernel_rfl) (by kernel_rfl) (by kernel_rfl) (fun _ _ _ h => h) (by kernel_rfl) (by assumption) (fun w hSw => hy_move (.inl rfl) (by simp [ev_put, sz_put, hsz, h13, h14])) ?_
      refine h_yes 1 145 (v := .int .i64 ((k : Nat) : Int)) rfl rfl (by kernel_rfl) (by kernel_rfl) (by kernel_rfl) (fun _ _ _ h => h) (by kernel_rfl) (by assumption) (fun w hSw => hy_move (.inl rfl) (by simp [ev_put, sz_put, hsz, h13, h14])) ?_
      refine h_yes 2 146 (v := .pointer (some ⟨lb, k, none⟩)) rfl rfl (by kernel_rfl) (by kernel_rfl) (by kernel_rfl) (fun _ _ _ h => h) (by kernel_rfl) (by assumption) (fun w hSw => hy_index rfl (by simp [ev_put, sz_put, hsz, h13, h14]) (by simp [ev_put, sz_put, hsz, h13, h14]) (by omega)) ?_
      refine h_yes 3 147 (v := .string (T (k))) rfl rfl (by kernel_rfl) (by kernel_rfl) (by kernel_rfl) (fun _ _ _ h => h) (by kernel_rfl) (by assumption) (fun w hSw => hy_load rfl (by simp [ev_put, sz_put, hsz, h13, h14]) (hSw.2 (k) (by omega))) ?_
      refine h_yes 4 148 (v := .slice (some ⟨lb, 0, none⟩) 4 4) rfl rfl (by kernel_rfl) (by kernel_rfl) (by kernel_rfl) (fun _ _ _ h => h) (by kernel_rfl) (by assumption) (fun w hSw => hy_move (.inl rfl) (by simp [ev_put, sz_put, hsz, h13, h14])) ?_
      refine h_yes 5 149 (v := .int .i64 ((k : Nat) : Int)) rfl rfl (by kernel_rfl) (by kernel_rfl) (by kernel_rfl) (fun _ _ _ h => h) (by kernel_rfl) (by assumption) (fun w hSw => hy_move (.inl rfl) (by simp [ev_put, sz_put, hsz, h13, h14])) ?_
      refine h_yes 6 150 (v := .int .i64 (((k + 1) : Nat) : Int)) rfl rfl (by kernel_rfl) (by kernel_rfl) (by kernel_rfl) (fun _ _ _ h => h) (by kernel_rfl) (by assumption) (fun w hSw => hy_add (n := k) (m := 1) rfl (by simp [ev_put, sz_put, hsz, h13, h14]) (by omega) (by omega)) ?_
      refine h_yes 7 151 (v := .int .i64 ((((k + 1) % 4) : Nat) : Int)) rfl rfl (by kernel_rfl) (by kernel_rfl) (by kernel_rfl) (fun _ _ _ h => h) (by kernel_rfl) (by assumption) (fun w hSw => hy_rem (n := (k + 1)) rfl (by simp [ev_put, sz_put, hsz, h13, h14]) (by omega)) ?_
      refine h_yes 8 152 (v := .pointer (some ⟨lb, ((k + 1) % 4), none⟩)) rfl rfl (by kernel_rfl) (by kernel_rfl) (by kernel_rfl) (fun _ _ _ h => h) (by kernel_rfl) (by assumption) (fun w hSw => hy_index rfl (by simp [ev_put, sz_put, hsz, h13, h14]) (by simp [ev_put, sz_put, hsz, h13, h14]) (by omega)) ?_
      refine h_yes 9 153 (v := .string (T (((k + 1) % 4)))) rfl rfl (by kernel_rfl) (by kernel_rfl) (by kernel_rfl) (fun _ _ _ h => h) (by kernel_rfl) (by assumption) (fun w hSw => hy_load rfl (by simp [ev_put, sz_put, hsz, h13, h14]) (hSw.2 (((k + 1) % 4)) (by omega))) ?_
      refine h_yes 10 154 (v := .string (T (k) ++ T (((k + 1) % 4)))) rfl rfl (by kernel_rfl) (by kernel_rfl) (by kernel_rfl) (fun _ _ _ h => h) (by kernel_rfl) (by assumption) (fun w hSw => hy_cat rfl (by simp [ev_put, sz_put, hsz, h13, h14]) (by simp [ev_put, sz_put, hsz, h13, h14]) (by have z0 := hT (k); have z1 := hT (((k + 1) % 4)); omega)) ?_
      refine h_yes 11 155 (v := .slice (some ⟨lb, 0, none⟩) 4 4) rfl rfl (by kernel_rfl) (by kernel_rfl) (by kernel_rfl) (fun _ _ _ h => h) (by kernel_rfl) (by assumption) (fun w hSw => hy_move (.inl rfl) (by simp [ev_put, sz_put, hsz, h13, h14])) ?_
      refine h_yes 12 156 (v := .int .i64 ((k : Nat) : Int)) rfl rfl (by kernel_rfl) (by kernel_rfl) (by kernel_rfl) (fun _ _ _ h => h) (by kernel_rfl) (by assumption) (fun w hSw => hy_move (.inl rfl) (by simp [ev_put, sz_put, hsz, h13, h14])) ?_
      refine h_yes 13 157 (v := .pointer (some ⟨lb, k, none⟩)) rfl rfl (by kernel_rfl) (by kernel_rfl) (by kernel_rfl) (fun _ _ _ h => h) (by kernel_rfl) (by assumption) (fun w hSw => hy_index rfl (by simp [ev_put, sz_put, hsz, h13, h14]) (by simp [ev_put, sz_put, hsz, h13, h14]) (by omega)) ?_
      refine h_yes 14 158 (v := .string (T (k))) rfl rfl (by kernel_rfl) (by kernel_rfl) (by kernel_rfl) (fun _ _ _ h => h) (by kernel_rfl) (by assumption) (fun w hSw => hy_load rfl (by simp [ev_put, sz_put, hsz, h13, h14]) (hSw.2 (k) (by omega))) ?_
      refine h_yes 15 159 (v := .string ((T (k) ++ T (((k + 1) % 4))) ++ T (k))) rfl rfl (by kernel_rfl) (by kernel_rfl) (by kernel_rfl) (fun _ _ _ h => h) (by kernel_rfl) (by assumption) (fun w hSw => hy_cat rfl (by simp [ev_put, sz_put, hsz, h13, h14]) (by simp [ev_put, sz_put, hsz, h13, h14]) (by have z0 := hT (k); have z1 := hT (((k + 1) % 4)); have z2 := hT (k); simp only [ByteArray.size_append]; omega)) ?_
      refine wpAnyH_ready (rs := [16, 21]) (by kernel_rfl) (by simp) (AllReadyH.cons rfl (fun K hK => ?_) (AllReadyH.cons rfl (fun K hK => ?_) AllReadyH.nil))
      · rw [if_pos (by kernel_rfl)]
        refine wpc_parse (v := .string (((T (k) ++ T (((k + 1) % 4))) ++ T (k)))) rfl (by simp [ev_put, sz_put, hsz, h13, h14]) ((HC11 _ hHeld.1).mono ?_)
        rintro e' w6 ⟨p0, n0, q0, rfl, hown, hB6⟩
        refine ⟨_, rfl, ?_⟩
        have hS6 : Below W7.heap.size W7 w6 ∧ ∀ j, j < 4 → w6.cell? ⟨lb, j, none⟩ = some (.string (T j)) := ⟨hHeld.1.trans (hB6.mono hHeld.1.size), fun j hj => (hB6.cell (p := ⟨lb, j, none⟩) (Lib.lt_of_cell (hHeld.2 j hj))).trans (hHeld.2 j hj)⟩
        refine hK.out _ _ hS6 (fun hHeld => ?_)
        clear hK K
        refine h_yes 17 143 (v := .tuple #[.agg #[.slice p0 n0 q0, .int .i64 0, .int .i64 0, .int .i64 0], .int .i64 3, .int .i64 8]) rfl rfl (by kernel_rfl) (by kernel_rfl) (by kernel_rfl) (fun _ _ _ h => h) (by kernel_rfl) (by assumption) (fun w hSw => hy_move (.inl rfl) (by simp [ev_put, sz_put, hsz, h13, h14])) ?_
        refine h_yes 18 161 (v := .agg #[.slice p0 n0 q0, .int .i64 0, .int .i64 0, .int .i64 0]) rfl rfl (by kernel_rfl) (by kernel_rfl) (by kernel_rfl) (fun _ _ _ h => h) (by kernel_rfl) (by assumption) (fun w hSw => hy_ext (vs := #[.agg #[.slice p0 n0 q0, .int .i64 0, .int .i64 0, .int .i64 0], .int .i64 3, .int .i64 8]) (i := 0) rfl (by simp [ev_put, sz_put, hsz, h13, h14]) rfl) ?_
        refine h_yes 19 162 (v := .int .i64 3) rfl rfl (by kernel_rfl) (by kernel_rfl) (by kernel_rfl) (fun _ _ _ h => h) (by kernel_rfl) (by assumption) (fun w hSw => hy_ext (vs := #[.agg #[.slice p0 n0 q0, .int .i64 0, .int .i64 0, .int .i64 0], .int .i64 3, .int .i64 8]) (i := 1) rfl (by simp [ev_put, sz_put, hsz, h13, h14]) rfl) ?_
        refine h_yes 20 163 (v := .int .i64 8) rfl rfl (by kernel_rfl) (by kernel_rfl) (by kernel_rfl) (fun _ _ _ h => h) (by kernel_rfl) (by assumption) (fun w hSw => hy_ext (vs := #[.agg #[.slice p0 n0 q0, .int .i64 0, .int .i64 0, .int .i64 0], .int .i64 3, .int .i64 8]) (i := 2) rfl (by simp [ev_put, sz_put, hsz, h13, h14]) rfl) ?_
        refine h_step 21 rfl (by kernel_rfl) (by kernel_rfl) (fun K hK => ?_)
        refine wpa_sc rfl ?_
        obtain ⟨b, hb⟩ : ∃ b, w6.heap.size = b := ⟨_, rfl⟩
        have hR := R0.new w6
        have hS9 : Below W7.heap.size W7 (w6.alloc (.cells #[.slice none 0 0, .int .i64 0, .int .i64 0, .int .i64 0] 27)) ∧ ∀ j, j < 4 → (w6.alloc (.cells #[.slice none 0 0, .int .i64 0, .int .i64 0, .int .i64 0] 27)).cell? ⟨lb, j, none⟩ = some (.string (T j)) :=
          ⟨hS6.1.alloc hS6.1.size _, fun j hj => (World.cell?_of_block (a := ⟨lb, j, none⟩) (Below.heap_alloc w6 _ lb (by have := hS6.1.size; omega))).trans (hS6.2 j hj)⟩
        have hbW : W7.heap.size ≤ b := by have := hS6.1.size; omega
        have hO := hown.alloc (.cells #[.slice none 0 0, .int .i64 0, .int .i64 0, .int .i64 0] 27)
        rw [hb] at hR ⊢
        refine hK.out _ _ hS9 (fun hHeld => ?_)
        clear hK K
        have hHeld : Below W7.heap.size W7 (((((w6.alloc (.cells #[.slice none 0 0, .int .i64 0, .int .i64 0, .int .i64 0] 27)).setCell ⟨b, 0, none⟩ (.slice p0 n0 q0)).setCell ⟨b, 1, none⟩ (.int .i64 0)).setCell ⟨b, 2, none⟩ (.int .i64 0)).setCell ⟨b, 3, none⟩ (.int .i64 0)) ∧ ∀ j, j < 4 → (((((w6.alloc (.cells #[.slice none 0 0, .int .i64 0, .int .i64 0, .int .i64 0] 27)).setCell ⟨b, 0, none⟩ (.slice p0 n0 q0)).setCell ⟨b, 1, none⟩ (.int .i64 0)).setCell ⟨b, 2, none⟩ (.int .i64 0)).setCell ⟨b, 3, none⟩ (.int .i64 0)).cell? ⟨lb, j, none⟩ = some (.string (T j)) := by
          refine ⟨(((hS9.1.setCell (p := ⟨b, 0, none⟩) hbW (.slice p0 n0 q0)).setCell (p := ⟨b, 1, none⟩) hbW (.int .i64 0)).setCell (p := ⟨b, 2, none⟩) hbW (.int .i64 0)).setCell (p := ⟨b, 3, none⟩) hbW (.int .i64 0), fun j hj => ?_⟩
          have hne : lb ≠ b := by omega
          exact (World.cell?_of_block (a := ⟨lb, j, none⟩) (by rw [Below.heap_setCell _ _ _ _ hne, Below.heap_setCell _ _ _ _ hne, Below.heap_setCell _ _ _ _ hne, Below.heap_setCell _ _ _ _ hne])).trans (hS9.2 j hj)
        have hB9 := hHeld.1
        have hO9 := own_r0 hO hR (.slice p0 n0 q0) (.int .i64 0) (.int .i64 0) (.int .i64 0)
        have hR9 := hR.set (.slice p0 n0 q0) (.int .i64 0) (.int .i64 0) (.int .i64 0)
        refine tail3 22 23 24 25 26 (b := b) (p := p0) (n := n0) (c := q0) (f1 := 0) (c1 := 0) (e1 := 0) (v2 := .int .i64 3) (v3 := .int .i64 8) rfl rfl rfl rfl rfl rfl rfl rfl rfl rfl rfl rfl (by kernel_rfl) (by kernel_rfl) (by kernel_rfl) (by kernel_rfl) (by simp [ev_put, sz_put, hsz, h13, h14]) (by simp [ev_put, sz_put, hsz, h13, h14]) (by simp [ev_put, sz_put, hsz, h13, h14]) (by simp [ev_put, sz_put, hsz, h13, h14]) hR hHeld ?_
        exact hQ p0 n0 q0 b _ hbW hB9 hR9 ⟨_, hO9⟩
      · rw [if_pos (by kernel_rfl)]
        refine wpa_sc rfl ?_
        obtain ⟨b, hb⟩ : ∃ b, W7.drew.heap.size = b := ⟨_, rfl⟩
        have hR5 := R0.new W7.drew
        have hbW : W7.heap.size ≤ b := by rw [← hb]; exact Nat.le_refl _
        have hS5 : Below W7.heap.size W7 (W7.drew.alloc (.cells #[.slice none 0 0, .int .i64 0, .int .i64 0, .int .i64 0] 27)) ∧ ∀ j, j < 4 → (W7.drew.alloc (.cells #[.slice none 0 0, .int .i64 0, .int .i64 0, .int .i64 0] 27)).cell? ⟨lb, j, none⟩ = some (.string (T j)) :=
          ⟨(Below.drew (Below.refl _ _)).alloc (Nat.le_refl _) _, fun j hj => (World.cell?_of_block (a := ⟨lb, j, none⟩) (Below.heap_alloc W7.drew _ lb hlb)).trans (hS j hj)⟩
        rw [hb] at hR5 ⊢
        refine hK.out _ _ hS5 (fun hHeld => ?_)
        clear hK K
        refine h_step 16 rfl (by kernel_rfl) (by kernel_rfl) (fun K hK => ?_)
        refine wpc_parse (v := .string (((T (k) ++ T (((k + 1) % 4))) ++ T (k)))) rfl (by simp [ev_put, sz_put, hsz, h13, h14]) ((HC11 _ hHeld.1).mono ?_)
        rintro e' w6 ⟨p0, n0, q0, rfl, hown, hB6⟩
        refine ⟨_, rfl, ?_⟩
        have hS6 : Below W7.heap.size W7 w6 ∧ ∀ j, j < 4 → w6.cell? ⟨lb, j, none⟩ = some (.string (T j)) := ⟨hHeld.1.trans (hB6.mono hHeld.1.size), fun j hj => (hB6.cell (p := ⟨lb, j, none⟩) (Lib.lt_of_cell (hHeld.2 j hj))).trans (hHeld.2 j hj)⟩
        refine hK.out _ _ hS6 (fun hHeld => ?_)
        clear hK K
        refine h_yes 17 143 (v := .tuple #[.agg #[.slice p0 n0 q0, .int .i64 0, .int .i64 0, .int .i64 0], .int .i64 3, .int .i64 8]) rfl rfl (by kernel_rfl) (by kernel_rfl) (by kernel_rfl) (fun _ _ _ h => h) (by kernel_rfl) (by assumption) (fun w hSw => hy_move (.inl rfl) (by simp [ev_put, sz_put, hsz, h13, h14])) ?_
        refine h_yes 18 161 (v := .agg #[.slice p0 n0 q0, .int .i64 0, .int .i64 0, .int .i64 0]) rfl rfl (by kernel_rfl) (by kernel_rfl) (by kernel_rfl) (fun _ _ _ h => h) (by kernel_rfl) (by assumption) (fun w hSw => hy_ext (vs := #[.agg #[.slice p0 n0 q0, .int .i64 0, .int .i64 0, .int .i64 0], .int .i64 3, .int .i64 8]) (i := 0) rfl (by simp [ev_put, sz_put, hsz, h13, h14]) rfl) ?_
        refine h_yes 19 162 (v := .int .i64 3) rfl rfl (by kernel_rfl) (by kernel_rfl) (by kernel_rfl) (fun _ _ _ h => h) (by kernel_rfl) (by assumption) (fun w hSw => hy_ext (vs := #[.agg #[.slice p0 n0 q0, .int .i64 0, .int .i64 0, .int .i64 0], .int .i64 3, .int .i64 8]) (i := 1) rfl (by simp [ev_put, sz_put, hsz, h13, h14]) rfl) ?_
        refine h_yes 20 163 (v := .int .i64 8) rfl rfl (by kernel_rfl) (by kernel_rfl) (by kernel_rfl) (fun _ _ _ h => h) (by kernel_rfl) (by assumption) (fun w hSw => hy_ext (vs := #[.agg #[.slice p0 n0 q0, .int .i64 0, .int .i64 0, .int .i64 0], .int .i64 3, .int .i64 8]) (i := 2) rfl (by simp [ev_put, sz_put, hsz, h13, h14]) rfl) ?_
        have hR : R0 w6 b := (hB6.block b (Array.getElem?_eq_some_iff.1 hR5).1).trans hR5
        have hS9 := hS6
        have hO := hown
        have hHeld : Below W7.heap.size W7 ((((w6.setCell ⟨b, 0, none⟩ (.slice p0 n0 q0)).setCell ⟨b, 1, none⟩ (.int .i64 0)).setCell ⟨b, 2, none⟩ (.int .i64 0)).setCell ⟨b, 3, none⟩ (.int .i64 0)) ∧ ∀ j, j < 4 → ((((w6.setCell ⟨b, 0, none⟩ (.slice p0 n0 q0)).setCell ⟨b, 1, none⟩ (.int .i64 0)).setCell ⟨b, 2, none⟩ (.int .i64 0)).setCell ⟨b, 3, none⟩ (.int .i64 0)).cell? ⟨lb, j, none⟩ = some (.string (T j)) := by
          refine ⟨(((hS9.1.setCell (p := ⟨b, 0, none⟩) hbW (.slice p0 n0 q0)).setCell (p := ⟨b, 1, none⟩) hbW (.int .i64 0)).setCell (p := ⟨b, 2, none⟩) hbW (.int .i64 0)).setCell (p := ⟨b, 3, none⟩) hbW (.int .i64 0), fun j hj => ?_⟩
          have hne : lb ≠ b := by omega
          exact (World.cell?_of_block (a := ⟨lb, j, none⟩) (by rw [Below.heap_setCell _ _ _ _ hne, Below.heap_setCell _ _ _ _ hne, Below.heap_setCell _ _ _ _ hne, Below.heap_setCell _ _ _ _ hne])).trans (hS9.2 j hj)
        have hB9 := hHeld.1
        have hO9 := own_r0 hO hR (.slice p0 n0 q0) (.int .i64 0) (.int .i64 0) (.int .i64 0)
        have hR9 := hR.set (.slice p0 n0 q0) (.int .i64 0) (.int .i64 0) (.int .i64 0)
        refine tail3 22 23 24 25 26 (b := b) (p := p0) (n := n0) (c := q0) (f1 := 0) (c1 := 0) (e1 := 0) (v2 := .int .i64 3) (v3 := .int .i64 8) rfl rfl rfl rfl rfl rfl rfl rfl rfl rfl rfl rfl (by kernel_rfl) (by kernel_rfl) (by kernel_rfl) (by kernel_rfl) (by simp [ev_put, sz_put, hsz, h13, h14]) (by simp [ev_put, sz_put, hsz, h13, h14]) (by simp [ev_put, sz_put, hsz, h13, h14]) (by simp [ev_put, sz_put, hsz, h13, h14]) hR hHeld ?_
        have hq := hQ p0 n0 q0 b _ hbW hB9 hR9 ⟨_, hO9⟩
        rw [← put_comm15 24 _ 163 _ _ (by decide), ← put_comm15 24 _ 162 _ _ (by decide), ← put_comm15 24 _ 161 _ _ (by decide), ← put_comm15 24 _ 143 _ _ (by decide), ← put_comm15 24 _ 160 _ _ (by decide)] at hq
        exact hq
    intro p11 n11 q11 b11 W8 hb11 hB11 hR11 hO11
    subst hA
    have HB11 := Lib.hid hB11
    have HR11 := Lib.hid hR11
    have HO11 := Lib.hid hO11
    have hz11 := hB11.size
    have HSS : Hid (∀ j, j < 4 → W8.cell? ⟨lb, j, none⟩ = some (.string (T j))) := Lib.hid (fun j hj => (HB11.out.cell (p := ⟨lb, j, none⟩) hlb).trans (HSS.out j hj))
    have hlb : lb < W8.heap.size := by omega
    have HL4 := Lib.hid (HL4.out.below HB11.out)
    have hbl11 : b11 < W8.heap.size := (Array.getElem?_eq_some_iff.1 HR11.out).1
    clear hB11 hR11 hO11 HC11 hS hT hsz h13 h14
    simp (config := { maxSteps := 10000000 }) only [Act.put, List.setIfInBounds_toArray, List.set_cons_zero, List.set_cons_succ]
    
    have HK8 : Hid (W8.heap[b8]? = some (.cells #[.slice p8 n8 q8, .int .i64 (f : Int), .int .i64 (c : Int), .int .i64 (e : Int)] 27 (0, 0))) := Lib.hid ((HB11.out.block b8 (by omega)).trans ((HB10.out.block b8 (by omega)).trans ((HB9.out.block b8 hbl8).trans HR8.out)))
    have HK9 : Hid (W8.heap[b9]? = some (.cells #[.slice p9 n9 q9, .int .i64 (f : Int), .int .i64 (c : Int), .int .i64 (e : Int)] 27 (0, 0))) := Lib.hid ((HB11.out.block b9 (by omega)).trans ((HB10.out.block b9 hbl9).trans HR9.out))
    have HK10 := Lib.hid ((HB11.out.block b10 hbl10).trans HR10.out)
    have HU8 : Hid (U16s W8 (.slice p8 n8 q8) ps) := Lib.hid (by obtain ⟨B, h⟩ := HO8.out; exact u16s_below (u16s_below (u16s_below (u16s_own h) HB9.out) HB10.out) HB11.out)
    have HU9 : Hid (U16s W8 (.slice p9 n9 q9) ps) := Lib.hid (by obtain ⟨B, h⟩ := HO9.out; exact u16s_below (u16s_below (u16s_own h) HB10.out) HB11.out)
    have HU10 : Hid (U16s W8 (.slice p10 n10 q10) (if k = 3 then ([] : List Nat) else ps)) := Lib.hid (by obtain ⟨B, h⟩ := HO10.out; exact u16s_below (u16s_own h) HB11.out)
    have HBT : Hid (Below w.heap.size w W8) := Lib.hid (HB4.out.trans (((HB8.out.mono (by have := HB4.out.size; omega)).trans (HB9.out.mono (by have := HB4.out.size; omega))).trans ((HB10.out.mono (by have := HB4.out.size; omega)).trans (HB11.out.mono (by have := HB4.out.size; omega)))))
    have hwz : w.heap.size ≤ W8.heap.size := HBT.out.size
    have hbb8 : b8 < W8.heap.size := by omega
    have hbb9 : b9 < W8.heap.size := by omega
    have hbb10 : b10 < W8.heap.size := by omega
    clear HB8 HB9 HB10 HB11 HR8 HR9 HR10 HR11 HO8 HO9 HO10 HO11 HSS HTT HTd HB4
    have g8 : W8.cell? ⟨b8, 0, none⟩ = some (.slice p8 n8 q8) ∧ W8.cell? ⟨b8, 1, none⟩ = some (.int .i64 (f : Int)) ∧ W8.cell? ⟨b8, 2, none⟩ = some (.int .i64 (c : Int)) ∧ W8.cell? ⟨b8, 3, none⟩ = some (.int .i64 (e : Int)) := by
      unfold World.cell?; rw [HK8.out]; exact ⟨rfl, rfl, rfl, rfl⟩
    obtain ⟨g80, g81, g82, g83⟩ := g8
    clear hk hkt
    match k, hk4 with
    | 0, _ =>
      go_wp2_with fail
      have HK10' : Hid (W8.heap[b10]? = some (.cells #[.slice p10 n10 q10, .int .i64 10000, .int .i64 (c : Int), .int .i64 (e : Int)] 27 (0, 0))) := Lib.hid (by simpa using HK10.out)
      have HU10' : Hid (U16s W8 (.slice p10 n10 q10) ps) := Lib.hid (by simpa using HU10.out)
      obtain ⟨W9, hW9⟩ : ∃ W9, W9 = W8.alloc (.cells #[.slice p8 n8 q8, .int .i64 10000, .int .i64 (c : Int), .int .i64 (e : Int)] 27) := ⟨_, rfl⟩
      rw [← hW9]
      have hB89 : Below W8.heap.size W8 W9 := by rw [hW9]; exact (Below.refl _ _).alloc (Nat.le_refl _) _
      have hz9 : W9.heap.size = W8.heap.size + 1 := by rw [hW9]; simp
      have hkw : W9.heap[W8.heap.size]? = some (.cells #[.slice p8 n8 q8, .int .i64 10000, .int .i64 (c : Int), .int .i64 (e : Int)] 27 (0, 0)) := by rw [hW9]; exact heap_alloc_new W8 _
      refine (answers_c W9 (HL4.out.below hB89)).mono ?_
      rintro e' Wa ⟨rfl, hBa⟩
      obtain ⟨bw, hbw⟩ : ∃ bw, W8.heap.size = bw := ⟨_, rfl⟩
      have x8 := (hBa.block b8 (by omega)).trans ((hB89.block b8 hbb8).trans HK8.out)
      have x9 := (hBa.block b9 (by omega)).trans ((hB89.block b9 hbb9).trans HK9.out)
      have x10 := (hBa.block b10 (by omega)).trans ((hB89.block b10 hbb10).trans HK10'.out)
      have xw := (hBa.block W8.heap.size (by omega)).trans hkw
      have v8 := u16s_below (u16s_below HU8.out hB89) hBa
      have v9 := u16s_below (u16s_below HU9.out hB89) hBa
      have v10 := u16s_below (u16s_below HU10'.out hB89) hBa
      have HBa := Lib.hid (HBT.out.trans ((hB89.mono hwz).trans (hBa.mono (by omega))))
      have vw : U16s Wa (.slice p8 n8 q8) ps := v8
      rw [hbw] at xw ⊢
      clear hW9 hkw hB89 hBa hz9 hbw
      obtain ⟨y80, y81, y82, y83⟩ : Wa.cell? ⟨b8, 0, none⟩ = some (.slice p8 n8 q8) ∧ Wa.cell? ⟨b8, 1, none⟩ = some (.int .i64 (f : Int)) ∧ Wa.cell? ⟨b8, 2, none⟩ = some (.int .i64 (c : Int)) ∧ Wa.cell? ⟨b8, 3, none⟩ = some (.int .i64 (e : Int)) := by
        unfold World.cell?; rw [x8]; exact ⟨rfl, rfl, rfl, rfl⟩
      obtain ⟨y90, y91, y92, y93⟩ : Wa.cell? ⟨b9, 0, none⟩ = some (.slice p9 n9 q9) ∧ Wa.cell? ⟨b9, 1, none⟩ = some (.int .i64 (f : Int)) ∧ Wa.cell? ⟨b9, 2, none⟩ = some (.int .i64 (c : Int)) ∧ Wa.cell? ⟨b9, 3, none⟩ = some (.int .i64 (e : Int)) := by
        unfold World.cell?; rw [x9]; exact ⟨rfl, rfl, rfl, rfl⟩
      have HA1 := Lib.hid ((same_c (.slice p8 n8 q8) (.slice p9 n9 q9) f c e f c e ps ps Wa (by omega) (by omega) v8 v9).mono (R' := fun e' w' => e' = .returned (.bool true) ∧ Below Wa.heap.size Wa w' ∧ w'.cell? ⟨b10, 0, none⟩ = some (.slice p10 n10 q10) ∧ w'.cell? ⟨b10, 1, none⟩ = some (.int .i64 10000) ∧ w'.cell? ⟨b10, 2, none⟩ = some (.int .i64 (c : Int)) ∧ w'.cell? ⟨b10, 3, none⟩ = some (.int .i64 (e : Int)) ∧ w'.cell? ⟨bw, 0, none⟩ = some (.slice p8 n8 q8) ∧ w'.cell? ⟨bw, 1, none⟩ = some (.int .i64 10000) ∧ w'.cell? ⟨bw, 2, none⟩ = some (.int .i64 (c : Int)) ∧ w'.cell? ⟨bw, 3, none⟩ = some (.int .i64 (e : Int))) (fun e' w' h => by
        obtain ⟨h1, h2⟩ := h
        have z10 := (h2.block b10 (Array.getElem?_eq_some_iff.1 x10).1).trans x10
        have zw := (h2.block bw (Array.getElem?_eq_some_iff.1 xw).1).trans xw
        refine ⟨by rw [h1]; simp [sameS], h2, ?_⟩
        unfold World.cell?
        rw [z10, zw]
        exact ⟨rfl, rfl, rfl, rfl, rfl, rfl, rfl, rfl⟩))
      have HA2 : Hid (∀ Wb, Below Wa.heap.size Wa Wb → Calls Tryd.prog 10 #[.agg #[.slice p10 n10 q10, .int .i64 10000, .int .i64 (c : Int), .int .i64 (e : Int)], .agg #[.slice p8 n8 q8, .int .i64 10000, .int .i64 (c : Int), .int .i64 (e : Int)]] Wb fun e' w' => e' = .returned (.bool true) ∧ Below Wb.heap.size Wb w') := Lib.hid (fun Wb hWb =>
        (same_c (.slice p10 n10 q10) (.slice p8 n8 q8) 10000 (c : Int) (e : Int) 10000 (c : Int) (e : Int) ps ps Wb (by omega) (by omega) (u16s_below v10 hWb) (u16s_below vw hWb)).mono (fun e' w' h => ⟨by rw [h.1]; simp [sameS], h.2⟩))
      clear x8 x9 x10 xw v8 v9 v10 vw HK8 HK9 HK10 HK10' HU8 HU9 HU10 HU10' g80 g81 g82 g83
      have has := HBa.out.size
      go_wp2_with (go_at_call 10; refine HA1.out.mono ?_)
      rintro e' Wb ⟨rfl, hBb, m0, m1, m2, m3, o0, o1, o2, o3⟩
      have HBb := Lib.hid (HBa.out.trans (hBb.mono has))
      have hbs := hBb.size
      have HA3 := Lib.hid (HA2.out Wb hBb)
      clear HA1 HA2 hBb y80 y81 y82 y83 y90 y91 y92 y93
      go_wp2_with (go_at_call 10; refine HA3.out.mono ?_)
      rintro e' Wc ⟨rfl, hBc⟩
      have HBc := Lib.hid (HBb.out.trans (hBc.mono (by omega)))
      clear HA3 hBc m0 m1 m2 m3 o0 o1 o2 o3
      go_wp2
      go_ret
      exact ⟨rfl, HBc.out⟩
    | 1, _ =>
      go_wp2_with fail
      have HK10' : Hid (W8.heap[b10]? = some (.cells #[.slice p10 n10 q10, .int .i64 (f : Int), .int .i64 10000, .int .i64 (e : Int)] 27 (0, 0))) := Lib.hid (by simpa using HK10.out)
      have HU10' : Hid (U16s W8 (.slice p10 n10 q10) ps) := Lib.hid (by simpa using HU10.out)
      obtain ⟨W9, hW9⟩ : ∃ W9, W9 = W8.alloc (.cells #[.slice p8 n8 q8, .int .i64 (f : Int), .int .i64 10000, .int .i64 (e : Int)] 27) := ⟨_, rfl⟩
      rw [← hW9]
      have hB89 : Below W8.heap.size W8 W9 := by rw [hW9]; exact (Below.refl _ _).alloc (Nat.le_refl _) _
      have hz9 : W9.heap.size = W8.heap.size + 1 := by rw [hW9]; simp
      have hkw : W9.heap[W8.heap.size]? = some (.cells #[.slice p8 n8 q8, .int .i64 (f : Int), .int .i64 10000, .int .i64 (e : Int)] 27 (0, 0)) := by rw [hW9]; exact heap_alloc_new W8 _
      refine (answers_c W9 (HL4.out.below hB89)).mono ?_
      rintro e' Wa ⟨rfl, hBa⟩
      obtain ⟨bw, hbw⟩ : ∃ bw, W8.heap.size = bw := ⟨_, rfl⟩
      have x8 := (hBa.block b8 (by omega)).trans ((hB89.block b8 hbb8).trans HK8.out)
      have x9 := (hBa.block b9 (by omega)).trans ((hB89.block b9 hbb9).trans HK9.out)
      have x10 := (hBa.block b10 (by omega)).trans ((hB89.block b10 hbb10).trans HK10'.out)
      have xw := (hBa.block W8.heap.size (by omega)).trans hkw
      have v8 := u16s_below (u16s_below HU8.out hB89) hBa
      have v9 := u16s_below (u16s_below HU9.out hB89) hBa
      have v10 := u16s_below (u16s_below HU10'.out hB89) hBa
      have HBa := Lib.hid (HBT.out.trans ((hB89.mono hwz).trans (hBa.mono (by omega))))
      have vw : U16s Wa (.slice p8 n8 q8) ps := v8
      rw [hbw] at xw ⊢
      clear hW9 hkw hB89 hBa hz9 hbw
      obtain ⟨y80, y81, y82, y83⟩ : Wa.cell? ⟨b8, 0, none⟩ = some (.slice p8 n8 q8) ∧ Wa.cell? ⟨b8, 1, none⟩ = some (.int .i64 (f : Int)) ∧ Wa.cell? ⟨b8, 2, none⟩ = some (.int .i64 (c : Int)) ∧ Wa.cell? ⟨b8, 3, none⟩ = some (.int .i64 (e : Int)) := by
        unfold World.cell?; rw [x8]; exact ⟨rfl, rfl, rfl, rfl⟩
      obtain ⟨y90, y91, y92, y93⟩ : Wa.cell? ⟨b9, 0, none⟩ = some (.slice p9 n9 q9) ∧ Wa.cell? ⟨b9, 1, none⟩ = some (.int .i64 (f : Int)) ∧ Wa.cell? ⟨b9, 2, none⟩ = some (.int .i64 (c : Int)) ∧ Wa.cell? ⟨b9, 3, none⟩ = some (.int .i64 (e : Int)) := by
        unfold World.cell?; rw [x9]; exact ⟨rfl, rfl, rfl, rfl⟩
      have HA1 := Lib.hid ((same_c (.slice p8 n8 q8) (.slice p9 n9 q9) f c e f c e ps ps Wa (by omega) (by omega) v8 v9).mono (R' := fun e' w' => e' = .returned (.bool true) ∧ Below Wa.heap.size Wa w' ∧ w'.cell? ⟨b10, 0, none⟩ = some (.slice p10 n10 q10) ∧ w'.cell? ⟨b10, 1, none⟩ = some (.int .i64 (f : Int)) ∧ w'.cell? ⟨b10, 2, none⟩ = some (.int .i64 10000) ∧ w'.cell? ⟨b10, 3, none⟩ = some (.int .i64 (e : Int)) ∧ w'.cell? ⟨bw, 0, none⟩ = some (.slice p8 n8 q8) ∧ w'.cell? ⟨bw, 1, none⟩ = some (.int .i64 (f : Int)) ∧ w'.cell? ⟨bw, 2, none⟩ = some (.int .i64 10000) ∧ w'.cell? ⟨bw, 3, none⟩ = some (.int .i64 (e : Int))) (fun e' w' h => by
        obtain ⟨h1, h2⟩ := h
        have z10 := (h2.block b10 (Array.getElem?_eq_some_iff.1 x10).1).trans x10
        have zw := (h2.block bw (Array.getElem?_eq_some_iff.1 xw).1).trans xw
        refine ⟨by rw [h1]; simp [sameS], h2, ?_⟩
        unfold World.cell?
        rw [z10, zw]
        exact ⟨rfl, rfl, rfl, rfl, rfl, rfl, rfl, rfl⟩))
      have HA2 : Hid (∀ Wb, Below Wa.heap.size Wa Wb → Calls Tryd.prog 10 #[.agg #[.slice p10 n10 q10, .int .i64 (f : Int), .int .i64 10000, .int .i64 (e : Int)], .agg #[.slice p8 n8 q8, .int .i64 (f : Int), .int .i64 10000, .int .i64 (e : Int)]] Wb fun e' w' => e' = .returned (.bool true) ∧ Below Wb.heap.size Wb w') := Lib.hid (fun Wb hWb =>
        (same_c (.slice p10 n10 q10) (.slice p8 n8 q8) (f : Int) 10000 (e : Int) (f : Int) 10000 (e : Int) ps ps Wb (by omega) (by omega) (u16s_below v10 hWb) (u16s_below vw hWb)).mono (fun e' w' h => ⟨by rw [h.1]; simp [sameS], h.2⟩))
      clear x8 x9 x10 xw v8 v9 v10 vw HK8 HK9 HK10 HK10' HU8 HU9 HU10 HU10' g80 g81 g82 g83
      have has := HBa.out.size
      go_wp2_with (go_at_call 10; refine HA1.out.mono ?_)
      rintro e' Wb ⟨rfl, hBb, m0, m1, m2, m3, o0, o1, o2, o3⟩
      have HBb := Lib.hid (HBa.out.trans (hBb.mono has))
      have hbs := hBb.size
      have HA3 := Lib.hid (HA2.out Wb hBb)
      clear HA1 HA2 hBb y80 y81 y82 y83 y90 y91 y92 y93
      go_wp2_with (go_at_call 10; refine HA3.out.mono ?_)
      rintro e' Wc ⟨rfl, hBc⟩
      have HBc := Lib.hid (HBb.out.trans (hBc.mono (by omega)))
      clear HA3 hBc m0 m1 m2 m3 o0 o1 o2 o3
      go_wp2
      go_ret
      exact ⟨rfl, HBc.out⟩
    | 2, _ =>
      go_wp2_with fail
      have HK10' : Hid (W8.heap[b10]? = some (.cells #[.slice p10 n10 q10, .int .i64 (f : Int), .int .i64 (c : Int), .int .i64 0] 27 (0, 0))) := Lib.hid (by simpa using HK10.out)
      have HU10' : Hid (U16s W8 (.slice p10 n10 q10) ps) := Lib.hid (by simpa using HU10.out)
      obtain ⟨W9, hW9⟩ : ∃ W9, W9 = W8.alloc (.cells #[.slice p8 n8 q8, .int .i64 (f : Int), .int .i64 (c : Int), .int .i64 0] 27) := ⟨_, rfl⟩
      rw [← hW9]
      have hB89 : Below W8.heap.size W8 W9 := by rw [hW9]; exact (Below.refl _ _).alloc (Nat.le_refl _) _
      have hz9 : W9.heap.size = W8.heap.size + 1 := by rw [hW9]; simp
      have hkw : W9.heap[W8.heap.size]? = some (.cells #[.slice p8 n8 q8, .int .i64 (f : Int), .int .i64 (c : Int), .int .i64 0] 27 (0, 0)) := by rw [hW9]; exact heap_alloc_new W8 _
      refine (answers_c W9 (HL4.out.below hB89)).mono ?_
      rintro e' Wa ⟨rfl, hBa⟩
      obtain ⟨bw, hbw⟩ : ∃ bw, W8.heap.size = bw := ⟨_, rfl⟩
      have x8 := (hBa.block b8 (by omega)).trans ((hB89.block b8 hbb8).trans HK8.out)
      have x9 := (hBa.block b9 (by omega)).trans ((hB89.block b9 hbb9).trans HK9.out)
      have x10 := (hBa.block b10 (by omega)).trans ((hB89.block b10 hbb10).trans HK10'.out)
      have xw := (hBa.block W8.heap.size (by omega)).trans hkw
      have v8 := u16s_below (u16s_below HU8.out hB89) hBa
      have v9 := u16s_below (u16s_below HU9.out hB89) hBa
      have v10 := u16s_below (u16s_below HU10'.out hB89) hBa
      have HBa := Lib.hid (HBT.out.trans ((hB89.mono hwz).trans (hBa.mono (by omega))))
      have vw : U16s Wa (.slice p8 n8 q8) ps := v8
      rw [hbw] at xw ⊢
      clear hW9 hkw hB89 hBa hz9 hbw
      obtain ⟨y80, y81, y82, y83⟩ : Wa.cell? ⟨b8, 0, none⟩ = some (.slice p8 n8 q8) ∧ Wa.cell? ⟨b8, 1, none⟩ = some (.int .i64 (f : Int)) ∧ Wa.cell? ⟨b8, 2, none⟩ = some (.int .i64 (c : Int)) ∧ Wa.cell? ⟨b8, 3, none⟩ = some (.int .i64 (e : Int)) := by
        unfold World.cell?; rw [x8]; exact ⟨rfl, rfl, rfl, rfl⟩
      obtain ⟨y90, y91, y92, y93⟩ : Wa.cell? ⟨b9, 0, none⟩ = some (.slice p9 n9 q9) ∧ Wa.cell? ⟨b9, 1, none⟩ = some (.int .i64 (f : Int)) ∧ Wa.cell? ⟨b9, 2, none⟩ = some (.int .i64 (c : Int)) ∧ Wa.cell? ⟨b9, 3, none⟩ = some (.int .i64 (e : Int)) := by
        unfold World.cell?; rw [x9]; exact ⟨rfl, rfl, rfl, rfl⟩
      have HA1 := Lib.hid ((same_c (.slice p8 n8 q8) (.slice p9 n9 q9) f c e f c e ps ps Wa (by omega) (by omega) v8 v9).mono (R' := fun e' w' => e' = .returned (.bool true) ∧ Below Wa.heap.size Wa w' ∧ w'.cell? ⟨b10, 0, none⟩ = some (.slice p10 n10 q10) ∧ w'.cell? ⟨b10, 1, none⟩ = some (.int .i64 (f : Int)) ∧ w'.cell? ⟨b10, 2, none⟩ = some (.int .i64 (c : Int)) ∧ w'.cell? ⟨b10, 3, none⟩ = some (.int .i64 0) ∧ w'.cell? ⟨bw, 0, none⟩ = some (.slice p8 n8 q8) ∧ w'.cell? ⟨bw, 1, none⟩ = some (.int .i64 (f : Int)) ∧ w'.cell? ⟨bw, 2, none⟩ = some (.int .i64 (c : Int)) ∧ w'.cell? ⟨bw, 3, none⟩ = some (.int .i64 0)) (fun e' w' h => by
        obtain ⟨h1, h2⟩ := h
        have z10 := (h2.block b10 (Array.getElem?_eq_some_iff.1 x10).1).trans x10
        have zw := (h2.block bw (Array.getElem?_eq_some_iff.1 xw).1).trans xw
        refine ⟨by rw [h1]; simp [sameS], h2, ?_⟩
        unfold World.cell?
        rw [z10, zw]
        exact ⟨rfl, rfl, rfl, rfl, rfl, rfl, rfl, rfl⟩))
      have HA2 : Hid (∀ Wb, Below Wa.heap.size Wa Wb → Calls Tryd.prog 10 #[.agg #[.slice p10 n10 q10, .int .i64 (f : Int), .int .i64 (c : Int), .int .i64 0], .agg #[.slice p8 n8 q8, .int .i64 (f : Int), .int .i64 (c : Int), .int .i64 0]] Wb fun e' w' => e' = .returned (.bool true) ∧ Below Wb.heap.size Wb w') := Lib.hid (fun Wb hWb =>
        (same_c (.slice p10 n10 q10) (.slice p8 n8 q8) (f : Int) (c : Int) 0 (f : Int) (c : Int) 0 ps ps Wb (by omega) (by omega) (u16s_below v10 hWb) (u16s_below vw hWb)).mono (fun e' w' h => ⟨by rw [h.1]; simp [sameS], h.2⟩))
      clear x8 x9 x10 xw v8 v9 v10 vw HK8 HK9 HK10 HK10' HU8 HU9 HU10 HU10' g80 g81 g82 g83
      have has := HBa.out.size
      go_wp2_with (go_at_call 10; refine HA1.out.mono ?_)
      rintro e' Wb ⟨rfl, hBb, m0, m1, m2, m3, o0, o1, o2, o3⟩
      have HBb := Lib.hid (HBa.out.trans (hBb.mono has))
      have hbs := hBb.size
      have HA3 := Lib.hid (HA2.out Wb hBb)
      clear HA1 HA2 hBb y80 y81 y82 y83 y90 y91 y92 y93
      go_wp2_with (go_at_call 10; refine HA3.out.mono ?_)
      rintro e' Wc ⟨rfl, hBc⟩
      have HBc := Lib.hid (HBb.out.trans (hBc.mono (by omega)))
      clear HA3 hBc m0 m1 m2 m3 o0 o1 o2 o3
      go_wp2
      go_ret
      exact ⟨rfl, HBc.out⟩
    | 3, _ =>
      go_wp2_with fail
      have HK10' : Hid (W8.heap[b10]? = some (.cells #[.slice p10 n10 q10, .int .i64 (f : Int), .int .i64 (c : Int), .int .i64 (e : Int)] 27 (0, 0))) := Lib.hid (by simpa using HK10.out)
      have HU10' : Hid (U16s W8 (.slice p10 n10 q10) ([] : List Nat)) := Lib.hid (by simpa using HU10.out)
      obtain ⟨W9, hW9⟩ : ∃ W9, W9 = W8.alloc (.cells #[.slice none 0 0, .int .i64 (f : Int), .int .i64 (c : Int), .int .i64 (e : Int)] 27) := ⟨_, rfl⟩
      rw [← hW9]
      have hB89 : Below W8.heap.size W8 W9 := by rw [hW9]; exact (Below.refl _ _).alloc (Nat.le_refl _) _
      have hz9 : W9.heap.size = W8.heap.size + 1 := by rw [hW9]; simp
      have hkw : W9.heap[W8.heap.size]? = some (.cells #[.slice none 0 0, .int .i64 (f : Int), .int .i64 (c : Int), .int .i64 (e : Int)] 27 (0, 0)) := by rw [hW9]; exact heap_alloc_new W8 _
      refine (answers_c W9 (HL4.out.below hB89)).mono ?_
      rintro e' Wa ⟨rfl, hBa⟩
      obtain ⟨bw, hbw⟩ : ∃ bw, W8.heap.size = bw := ⟨_, rfl⟩
      have x8 := (hBa.block b8 (by omega)).trans ((hB89.block b8 hbb8).trans HK8.out)
      have x9 := (hBa.block b9 (by omega)).trans ((hB89.block b9 hbb9).trans HK9.out)
      have x10 := (hBa.block b10 (by omega)).trans ((hB89.block b10 hbb10).trans HK10'.out)
      have xw := (hBa.block W8.heap.size (by omega)).trans hkw
      have v8 := u16s_below (u16s_below HU8.out hB89) hBa
      have v9 := u16s_below (u16s_below HU9.out hB89) hBa
      have v10 := u16s_below (u16s_below HU10'.out hB89) hBa
      have HBa := Lib.hid (HBT.out.trans ((hB89.mono hwz).trans (hBa.mono (by omega))))
      have vw : U16s Wa (.slice none 0 0) ([] : List Nat) := ⟨none, 0, rfl, .inl rfl⟩
      rw [hbw] at xw ⊢
      clear hW9 hkw hB89 hBa hz9 hbw
      obtain ⟨y80, y81, y82, y83⟩ : Wa.cell? ⟨b8, 0, none⟩ = some (.slice p8 n8 q8) ∧ Wa.cell? ⟨b8, 1, none⟩ = some (.int .i64 (f : Int)) ∧ Wa.cell? ⟨b8, 2, none⟩ = some (.int .i64 (c : Int)) ∧ Wa.cell? ⟨b8, 3, none⟩ = some (.int .i64 (e : Int)) := by
        unfold World.cell?; rw [x8]; exact ⟨rfl, rfl, rfl, rfl⟩
      obtain ⟨y90, y91, y92, y93⟩ : Wa.cell? ⟨b9, 0, none⟩ = some (.slice p9 n9 q9) ∧ Wa.cell? ⟨b9, 1, none⟩ = some (.int .i64 (f : Int)) ∧ Wa.cell? ⟨b9, 2, none⟩ = some (.int .i64 (c : Int)) ∧ Wa.cell? ⟨b9, 3, none⟩ = some (.int .i64 (e : Int)) := by
        unfold World.cell?; rw [x9]; exact ⟨rfl, rfl, rfl, rfl⟩
      have HA1 := Lib.hid ((same_c (.slice p8 n8 q8) (.slice p9 n9 q9) f c e f c e ps ps Wa (by omega) (by omega) v8 v9).mono (R' := fun e' w' => e' = .returned (.bool true) ∧ Below Wa.heap.size Wa w' ∧ w'.cell? ⟨b10, 0, none⟩ = some (.slice p10 n10 q10) ∧ w'.cell? ⟨b10, 1, none⟩ = some (.int .i64 (f : Int)) ∧ w'.cell? ⟨b10, 2, none⟩ = some (.int .i64 (c : Int)) ∧ w'.cell? ⟨b10, 3, none⟩ = some (.int .i64 (e : Int)) ∧ w'.cell? ⟨bw, 0, none⟩ = some (.slice none 0 0) ∧ w'.cell? ⟨bw, 1, none⟩ = some (.int .i64 (f : Int)) ∧ w'.cell? ⟨bw, 2, none⟩ = some (.int .i64 (c : Int)) ∧ w'.cell? ⟨bw, 3, none⟩ = some (.int .i64 (e : Int))) (fun e' w' h => by
        obtain ⟨h1, h2⟩ := h
        have z10 := (h2.block b10 (Array.getElem?_eq_some_iff.1 x10).1).trans x10
        have zw := (h2.block bw (Array.getElem?_eq_some_iff.1 xw).1).trans xw
        refine ⟨by rw [h1]; simp [sameS], h2, ?_⟩
        unfold World.cell?
        rw [z10, zw]
        exact ⟨rfl, rfl, rfl, rfl, rfl, rfl, rfl, rfl⟩))
      have HA2 : Hid (∀ Wb, Below Wa.heap.size Wa Wb → Calls Tryd.prog 10 #[.agg #[.slice p10 n10 q10, .int .i64 (f : Int), .int .i64 (c : Int), .int .i64 (e : Int)], .agg #[.slice none 0 0, .int .i64 (f : Int), .int .i64 (c : Int), .int .i64 (e : Int)]] Wb fun e' w' => e' = .returned (.bool true) ∧ Below Wb.heap.size Wb w') := Lib.hid (fun Wb hWb =>
        (same_c (.slice p10 n10 q10) (.slice none 0 0) (f : Int) (c : Int) (e : Int) (f : Int) (c : Int) (e : Int) ([] : List Nat) ([] : List Nat) Wb (by simp) (by simp) (u16s_below v10 hWb) (u16s_below vw hWb)).mono (fun e' w' h => ⟨by rw [h.1]; simp [sameS], h.2⟩))
      clear x8 x9 x10 xw v8 v9 v10 vw HK8 HK9 HK10 HK10' HU8 HU9 HU10 HU10' g80 g81 g82 g83
      have has := HBa.out.size
      go_wp2_with (go_at_call 10; refine HA1.out.mono ?_)
      rintro e' Wb ⟨rfl, hBb, m0, m1, m2, m3, o0, o1, o2, o3⟩
      have HBb := Lib.hid (HBa.out.trans (hBb.mono has))
      have hbs := hBb.size
      have HA3 := Lib.hid (HA2.out Wb hBb)
      clear HA1 HA2 hBb y80 y81 y82 y83 y90 y91 y92 y93
      go_wp2_with (go_at_call 10; refine HA3.out.mono ?_)
      rintro e' Wc ⟨rfl, hBc⟩
      have HBc := Lib.hid (HBb.out.trans (hBc.mono (by omega)))
      clear HA3 hBc m0 m1 m2 m3 o0 o1 o2 o3
      go_wp2
      go_ret
      exact ⟨rfl, HBc.out⟩
end Go.Proofs.YthfnjphmodcnoaaDoor

