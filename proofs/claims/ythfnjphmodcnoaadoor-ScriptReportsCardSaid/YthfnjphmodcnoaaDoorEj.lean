/- The walk of script.Read. -/
import Derived.Test.YthfnjphmodcnoaaDoorEn
import Derived.Test.YthfnjphmodcnoaaDoorEl
namespace Go.Proofs.YthfnjphmodcnoaaDoor
open Go.RowKit
set_option linter.unusedSimpArgs false
set_option linter.unusedVariables false

theorem readbad_c (i : Nat) (hi : i ≤ 1073741824) (w : World) : Calls Tryd.prog 26 #[.int .i64 (i : Int)] w fun e w' => e = .returned (.tuple #[.agg #[.slice none 0 0, .int .i64 0, .int .i64 0, .int .i64 0, .int .i64 0], .int .i64 ((i + 1 : Nat) : Int), .int .i64 5]) ∧ Below w.heap.size w w' := bad_c i hi w
set_option maxRecDepth 100000 in
set_option maxHeartbeats 2000000 in
theorem read_big (s : ByteArray) (w : World) (hs : 65536 < s.size) : Calls Tryd.prog 13 #[.string s] w fun e w' => ReadPost w.heap.size (readT (bl s)) e w' ∧ Below w.heap.size w w' := by
  have HT := Lib.hid (readT_big (s := bl s) (by rw [bl_len]; exact hs))
  have hi : (65536 : Int) < (s.size : Int) := by omega
  go_enter Tryd.func13, Tryd.ntmps13
  go_wp2
  refine read_ret _ _ w.heap.size _ _ _ _ _ _ _ (RepB.new w) rfl rfl rfl ⟨by rw [HT.out]; rfl, (Below.refl _ _).alloc (Nat.le_refl _) _⟩
theorem below_grow {B : Nat} {w W0 wr : World} (h : Below B w W0) (hg : W0.grownBy wr (some B)) (hB : B ≤ W0.heap.size) : Below B w wr :=
  h.trans ⟨hg.os, hg.tape, hg.output, hg.size, fun k hk => hg.block k (Nat.lt_of_lt_of_le hk hB) (fun e => by cases e; omega)⟩
set_option maxRecDepth 100000 in
set_option maxHeartbeats 8000000 in
theorem read_walk (s : ByteArray) (w : World) (h : Laid w) (hs : s.size ≤ 65536) : Calls Tryd.prog 13 #[.string s] w fun e w' => ReadPost w.heap.size (readE (linesP (bl s)).1 (linesP (bl s)).2) e w' ∧ Below w.heap.size w w' := by
  obtain ⟨i0, hi0, hz0, hz1, hz2⟩ := info_parts infoStr
  have HI0 := Lib.hid hi0
  have hi : ¬ (65536 : Int) < (s.size : Int) := by omega
  have hw9 := h.size
  obtain ⟨b, hb⟩ : ∃ b, w.heap.size = b := ⟨_, rfl⟩
  have hb9 : 9 ≤ b := by omega
  have HLd := Lib.hid h
  have hlm : ∀ z ∈ (linesP (bl s)).1, z.length ≤ 65536 := fun z hz => by
    have := lines_mem (bl s) z hz
    rw [bl_len] at this; omega
  have hln := lines_len (bl s)
  rw [bl_len] at hln
  have HB1 : Hid (Below b w (w.alloc (.cells #[.slice none 0 0, .int .i64 0, .int .i64 0, .int .i64 0, .int .i64 0] 39))) := Lib.hid (by rw [← hb]; exact (Below.refl _ _).alloc (Nat.le_refl _) _)
  have HR1 : Hid (RepB (w.alloc (.cells #[.slice none 0 0, .int .i64 0, .int .i64 0, .int .i64 0, .int .i64 0] 39)) b (.slice none 0 0) (.int .i64 0) (.int .i64 0) (.int .i64 0) (.int .i64 0)) := Lib.hid (by rw [← hb]; exact RepB.new w)
  have hz1' : (w.alloc (.cells #[.slice none 0 0, .int .i64 0, .int .i64 0, .int .i64 0, .int .i64 0] 39)).heap.size = b + 1 := by rw [← hb]; simp
  obtain ⟨Wa, hWa⟩ : ∃ Wa, Wa = w.alloc (.cells #[.slice none 0 0, .int .i64 0, .int .i64 0, .int .i64 0, .int .i64 0] 39) := ⟨_, rfl⟩
  rw [← hWa] at HB1 HR1 hz1'
  have HLa := Lib.hid (HLd.out.below (hb.symm ▸ HB1.out))
  have HLC := Lib.hid (lines_c2 s Wa HLa.out (by omega))
  obtain ⟨L, hL⟩ : ∃ L, (linesP (bl s)).1 = L := ⟨_, rfl⟩
  obtain ⟨en, hen⟩ : ∃ en, (linesP (bl s)).2 = en := ⟨_, rfl⟩
  rw [hL] at hlm hln HLC ⊢
  rw [hen] at HLC ⊢
  obtain ⟨n, hn⟩ : ∃ n, L.length = n := ⟨_, rfl⟩
  rw [hn] at hln HLC
  have HN := Lib.hid hn
  have HLM := Lib.hid hlm
  have HWa := Lib.hid hWa
  have Hb := Lib.hid hb
  clear h hi0 hz0 hL hen hn hlm hWa
  rw [hb]
  clear hb
  go_enter Tryd.func13, Tryd.ntmps13
  go_wp2_with fail
  rw [Hb.out, ← HWa.out]
  refine HLC.out.mono ?_
  rintro e_ W0 ⟨p, cap, rfl, hlin, hB0⟩
  have HLIN := Lib.hid hlin
  have HB0 := Lib.hid (HB1.out.trans (hB0.mono (by omega)))
  have HR0 := Lib.hid (HR1.out.below hB0)
  have hz0' := hB0.size
  have hbW0 : b ≤ W0.heap.size := by omega
  have hbW : b < W0.heap.size := HR0.out.lt
  clear hB0 hlin HLC
  obtain ⟨m, hm⟩ : ∃ m, wholeN L en = m := ⟨_, rfl⟩
  have hmt : en = true → m = n := fun e => by rw [← hm, e]; exact HN.out
  have hmf : en = false → m = n - 1 := fun e => by rw [← hm, e, ← HN.out]; rfl
  have hmn : m ≤ n := by cases en; have := hmf rfl; omega; have := hmt rfl; omega
  have HM := Lib.hid hm
  have HMT := Lib.hid hmt
  have HMF := Lib.hid hmf
  clear hm hmt hmf
  have HWN : Hid (n = 0 ∨ IntKind.i64.wrap ((n : Int) - 1) = ((n - 1 : Nat) : Int)) := Lib.hid (by
    by_cases h0 : n = 0
    · exact .inl h0
    · exact .inr (by rw [IntKind.wrap_i64]; omega))
  go_wp2_with fail
  go_loopw [8] (fun i wr => ∃ (k : Nat) (v : Value), i = .int .i64 k ∧ k ≤ m ∧ Hid (W0.grownBy wr (some b)) ∧ Hid (RepB wr b v (.int .i64 0) (.int .i64 0) (.int .i64 0) (.int .i64 0)) ∧ Hid (OwnL W0.heap.size wr v (L.take k)) ∧ Hid (∀ z ∈ L.take k, toldP z = true)) (fun i _ => n - (intOf i).toNat)
  case atStart => exact ⟨0, _, rfl, Nat.zero_le _, Lib.hid (World.grownBy.refl _ _), HR0, Lib.hid (ownL_nil _ _), Lib.hid (by simp)⟩
  case round =>
    obtain ⟨k, v, rfl, hk, HG, HR, HO, HA⟩ := hrel
    have hsz := HG.out.size
    have HLr := Lib.hid (laid_grown (HLd.out.below (Hb.out.symm ▸ HB0.out)) HG.out hb9)
    have HBr : Hid (Below b w wr) := Lib.hid (below_grow HB0.out HG.out hbW0)
    by_cases hlt : k < n
    · have hlti : (k : Int) < (n : Int) := by omega
      obtain ⟨x, hx⟩ : ∃ x, L[k]? = some x := ⟨_, List.getElem?_eq_getElem (by have := HN.out; omega)⟩
      obtain ⟨lb, rfl, hst, hlb, hlb2⟩ := lin_at HLIN.out hx
      have hlbb : lb ≠ b := by omega
      have hwb : wr.heap[lb]? = W0.heap[lb]? := HG.out.block lb hlb (fun e => hlbb (Option.some.inj e))
      have HST := Lib.hid (strs_same hst hwb)
      have hcx := HST.out k x hx
      rw [Nat.zero_add] at hcx
      have hx6 : x.length ≤ 65536 := HLM.out x (List.mem_of_getElem? hx)
      have hxb : bl ⟨x.toArray⟩ = x := by simp [bl]
      have hxs : (⟨x.toArray⟩ : ByteArray).size ≤ 1073741824 := by rw [← bl_len, hxb]; omega
      have hT := told_c ⟨x.toArray⟩ wr HLr.out hxs
      rw [hxb] at hT
      obtain ⟨t, ht⟩ : ∃ t, toldP x = t := ⟨_, rfl⟩
      rw [ht] at hT
      have HT := Lib.hid hT
      have Ht := Lib.hid ht
      have Hx := Lib.hid hx
      have Hxb := Lib.hid hxb
      have HXS := Lib.hid hxs
      have HLB := Lib.hid hlb
      clear hT ht hx hst hwb hxb hxs hlb
      have hn0 : IntKind.i64.wrap ((n : Int) - 1) = ((n - 1 : Nat) : Int) := HWN.out.resolve_left (by omega)
      go_wp2_with (go_at_call 27; refine HT.out.mono ?_)
      rintro e_ W3 ⟨rfl, hB3⟩
      have HG3 : Hid (W0.grownBy W3 (some b)) := Lib.hid (HG.out.trans (below_grown hB3 _))
      have HR3 := Lib.hid (HR.out.below hB3)
      have HO3 := Lib.hid (ownL_below HO.out hB3)
      have HL3 := Lib.hid (HLr.out.below hB3)
      have HBw3 : Hid (Below b w W3) := Lib.hid (below_grow HB0.out HG3.out hbW0)
      have hwb : W3.heap[lb]? = wr.heap[lb]? := hB3.block lb (Nat.lt_of_lt_of_le HLB.out hsz)
      have HST3 := Lib.hid (strs_same HST.out hwb)
      have hcx3 := HST3.out k x Hx.out
      rw [Nat.zero_add] at hcx3
      have hsz3 : W0.heap.size ≤ W3.heap.size := HG3.out.size
      clear hB3 hwb HT hcx HST HG HR HO HLr HBr
      cases t with
      | true =>
        by_cases hlast : k = n - 1
        · have hlb1 : ((k : Int) == ((n - 1 : Nat) : Int)) = true := by rw [hlast]; simp
          cases en with
          | false =>
            have hkm := Lib.hid (show k = wholeN L false by rw [HM.out, HMF.out rfl]; exact hlast)
            clear hlast
            have HER := Lib.hid (readE_err (readP_end L false k hkm.out HA.out))
            go_wp2_with (go_at_call 26; refine (readbad_c (k) (by omega) _).mono ?_)
            first | rintro e_ Wz rfl hBz | rintro e_ Wz ⟨rfl, hBz⟩
            have hRz := Lib.hid (RepB.below (HR3.out) hBz)
            have hBz2 := Lib.hid ((HBw3.out).trans (hBz.mono (Nat.le_of_lt (HR3.out).lt)))
            clear hBz
            go_wp2_with (first | ((with_reducible refine wpList_st5 (p := none) (n := 0) (c := 0) (i1 := 0) (i2 := 0) (i3 := 0) (i4 := 0) hRz.out ?hx ?hy ?_); (case hx => rfl); (case hy => rfl)) | ((first | (with_reducible refine id (?_ : Exit.then _ _ Exit.ret _ _)) | (with_reducible refine id (?_ : Exit.inBlock _ _ Exit.ret _ _)) | (with_reducible refine id (?_ : bodyPost _ _ _ Exit.ret _ _))); (try simp only [Exit.inBlock, Exit.then]); refine read_ret _ _ b _ _ _ _ _ _ _ (hRz.out.set5 _ _ _ _ _) rfl rfl rfl ⟨readPost_err HER.out (by first | rfl | (simp; done) | (simp; omega) | omega), below_s5 hBz2.out (Nat.le_refl _) _ _ _ _ _⟩))
          | true =>
            have hkm := Lib.hid (show k + 1 ≤ m by rw [HMT.out rfl]; omega)
            clear hlast
            go_upto_region 10 with fail
            obtain ⟨va, vq, rfl⟩ := ownL_slice HO3.out
            refine app_read (W0 := W0) (b := b) (lb := lb) (n := n) (cap := cap) (k := k) (x := x) (T := L.take k) (va := va) (vq := vq) ⟨by kernel_rfl, rfl, rfl, rfl, rfl, rfl, rfl, rfl, rfl, rfl, rfl, rfl, rfl, rfl, rfl, rfl, rfl, rfl, rfl, rfl, rfl, rfl, rfl, rfl, rfl, rfl, rfl, rfl, rfl, rfl, rfl, rfl, rfl, rfl, rfl, rfl, rfl, rfl, rfl, rfl, rfl, rfl, by kernel_rfl, by kernel_rfl, by kernel_rfl, by kernel_rfl, by kernel_rfl, by kernel_rfl, by kernel_rfl, by kernel_rfl, by kernel_rfl, by kernel_rfl, by kernel_rfl, by kernel_rfl, by kernel_rfl, by kernel_rfl, by kernel_rfl, by kernel_rfl, by kernel_rfl, by kernel_rfl, by kernel_rfl, by kernel_rfl, by kernel_rfl, by kernel_rfl, by kernel_rfl⟩ rfl rfl rfl rfl hlt (by rw [List.length_take]; omega) HG3.out HR3.out HO3.out hbW HLB.out hlbb hcx3 (fun _ _ _ _ _ h => h) (fun va' vq' w9 hG9 hR9 hO9 => ?_)
            have HG9 := Lib.hid hG9
            have HR9 := Lib.hid hR9
            have HO9 := Lib.hid hO9
            have HA9 : Hid (∀ z ∈ L.take (k + 1), toldP z = true) := Lib.hid (by
              rw [List.take_add_one, Hx.out]
              intro z hz
              rcases List.mem_append.1 hz with hz | hz
              · exact HA.out z hz
              · have : z = x := by simpa using hz
                rw [this]; exact Ht.out)
            have HTK := Lib.hid (show L.take (k + 1) = L.take k ++ [x] by rw [List.take_add_one, Hx.out]; rfl)
            clear hG9 hR9 hO9
            simp (config := { maxSteps := 10000000 }) only [Act.put, List.setIfInBounds_toArray, List.set_cons_zero, List.set_cons_succ]
            go_wp2
            exact ⟨⟨k + 1, _, by go_num, hkm.out, HG9, HR9, Lib.hid (by rw [HTK.out]; exact HO9.out), HA9⟩, by simp [intOf]; omega⟩
        · have hlb1 : ((k : Int) == ((n - 1 : Nat) : Int)) = false := beq_eq_false_iff_ne.2 (by omega)
          have hkm := Lib.hid (show k + 1 ≤ m by cases en; have := HMF.out rfl; omega; have := HMT.out rfl; omega)
          clear hlast
          go_upto_region 10 with fail
          obtain ⟨va, vq, rfl⟩ := ownL_slice HO3.out
          refine app_read (W0 := W0) (b := b) (lb := lb) (n := n) (cap := cap) (k := k) (x := x) (T := L.take k) (va := va) (vq := vq) ⟨by kernel_rfl, rfl, rfl, rfl, rfl, rfl, rfl, rfl, rfl, rfl, rfl, rfl, rfl, rfl, rfl, rfl, rfl, rfl, rfl, rfl, rfl, rfl, rfl, rfl, rfl, rfl, rfl, rfl, rfl, rfl, rfl, rfl, rfl, rfl, rfl, rfl, rfl, rfl, rfl, rfl, rfl, rfl, by kernel_rfl, by kernel_rfl, by kernel_rfl, by kernel_rfl, by kernel_rfl, by kernel_rfl, by kernel_rfl, by kernel_rfl, by kernel_rfl, by kernel_rfl, by kernel_rfl, by kernel_rfl, by kernel_rfl, by kernel_rfl, by kernel_rfl, by kernel_rfl, by kernel_rfl, by kernel_rfl, by kernel_rfl, by kernel_rfl, by kernel_rfl, by kernel_rfl, by kernel_rfl⟩ rfl rfl rfl rfl hlt (by rw [List.length_take]; omega) HG3.out HR3.out HO3.out hbW HLB.out hlbb hcx3 (fun _ _ _ _ _ h => h) (fun va' vq' w9 hG9 hR9 hO9 => ?_)
          have HG9 := Lib.hid hG9
          have HR9 := Lib.hid hR9
          have HO9 := Lib.hid hO9
          have HA9 : Hid (∀ z ∈ L.take (k + 1), toldP z = true) := Lib.hid (by
            rw [List.take_add_one, Hx.out]
            intro z hz
            rcases List.mem_append.1 hz with hz | hz
            · exact HA.out z hz
            · have : z = x := by simpa using hz
              rw [this]; exact Ht.out)
          have HTK := Lib.hid (show L.take (k + 1) = L.take k ++ [x] by rw [List.take_add_one, Hx.out]; rfl)
          clear hG9 hR9 hO9
          simp (config := { maxSteps := 10000000 }) only [Act.put, List.setIfInBounds_toArray, List.set_cons_zero, List.set_cons_succ]
          go_wp2
          exact ⟨⟨k + 1, _, by go_num, hkm.out, HG9, HR9, Lib.hid (by rw [HTK.out]; exact HO9.out), HA9⟩, by simp [intOf]; omega⟩
      | false =>
        have hE := ending_c ⟨x.toArray⟩ W3 HL3.out HXS.out
        rw [Hxb.out] at hE
        obtain ⟨q, hq⟩ : ∃ q, endQ x = q := ⟨_, rfl⟩
        rw [hq] at hE
        have HE := Lib.hid hE
        have HQ := Lib.hid hq
        clear hE hq
        go_wp2_with (go_at_call 28; refine HE.out.mono ?_)
        rintro e_ W4 ⟨⟨K, V, rfl, hKV⟩, hB4⟩
        have HKV := Lib.hid hKV
        have HR4 := HR3.out.below hB4
        obtain ⟨m0, m1, m2, m3, m4, n0, n1, n2, n3, n4⟩ := HR4.facts
        go_upto_region 15 with fail
        clear m0 m1 m2 m3 m4 n0 n1 n2 n3 n4
        have hR5 := (HR4.set1 (.int .i64 K)).set2 (.int .i64 V)
        have hG5 := ((HG3.out.trans (below_grown hB4 _)).trans (set_grown W4 ⟨b, 1, none⟩ (.int .i64 K))).trans (set_grown (W4.setCell ⟨b, 1, none⟩ (.int .i64 K)) ⟨b, 2, none⟩ (.int .i64 V))
        have hO5 : OwnL W0.heap.size ((W4.setCell ⟨b, 1, none⟩ (.int .i64 K)).setCell ⟨b, 2, none⟩ (.int .i64 V)) v (L.take k) := own_grown (own_grown (ownL_below HO3.out hB4) (set_grown W4 ⟨b, 1, none⟩ (.int .i64 K)) (fun k' e => by cases e; exact hbW)) (set_grown (W4.setCell ⟨b, 1, none⟩ (.int .i64 K)) ⟨b, 2, none⟩ (.int .i64 V)) (fun k' e => by cases e; exact hbW)
        obtain ⟨W5, hW5⟩ : ∃ W5, W5 = (W4.setCell ⟨b, 1, none⟩ (.int .i64 K)).setCell ⟨b, 2, none⟩ (.int .i64 V) := ⟨_, rfl⟩
        rw [← hW5] at hR5 hG5 hO5 ⊢
        have HR5 := Lib.hid hR5
        have HO5 := Lib.hid hO5
        have HL5 := Lib.hid (laid_grown (HLd.out.below (Hb.out.symm ▸ HB0.out)) hG5 hb9)
        have HB5 : Hid (Below b w W5) := Lib.hid (below_grow HB0.out hG5 hbW0)
        have HST5 := Lib.hid (strs_same HST3.out ((hG5.block lb HLB.out (fun e => hlbb (Option.some.inj e))).trans (HG3.out.block lb HLB.out (fun e => hlbb (Option.some.inj e))).symm))
        have hsz5 : W0.heap.size ≤ W5.heap.size := hG5.size
        clear hW5 hR5 hG5 hO5 HR4 hB4 hKV
        cases q with
        | none =>
          have hrp : Hid (readP L en = .error (k + 1)) := Lib.hid (readP_bad1 (by rw [HM.out]; exact hk) HA.out Hx.out Ht.out (.inl HQ.out))
          have HER := Lib.hid (readE_err (hrp.out))
          go_wp2_with (go_at_call 26; refine (readbad_c (k) (by omega) _).mono ?_)
          first | rintro e_ Wz rfl hBz | rintro e_ Wz ⟨rfl, hBz⟩
          have hRz := Lib.hid (RepB.below (HR5.out) hBz)
          have hBz2 := Lib.hid ((HB5.out).trans (hBz.mono (Nat.le_of_lt (HR5.out).lt)))
          clear hBz
          go_wp2_with (first | ((with_reducible refine wpList_st5 (p := none) (n := 0) (c := 0) (i1 := 0) (i2 := 0) (i3 := 0) (i4 := 0) hRz.out ?hx ?hy ?_); (case hx => rfl); (case hy => rfl)) | ((first | (with_reducible refine id (?_ : Exit.then _ _ Exit.ret _ _)) | (with_reducible refine id (?_ : Exit.inBlock _ _ Exit.ret _ _)) | (with_reducible refine id (?_ : bodyPost _ _ _ Exit.ret _ _))); (try simp only [Exit.inBlock, Exit.then]); refine read_ret _ _ b _ _ _ _ _ _ _ (hRz.out.set5 _ _ _ _ _) rfl rfl rfl ⟨readPost_err HER.out (by first | rfl | (simp; done) | (simp; omega) | omega), below_s5 hBz2.out (Nat.le_refl _) _ _ _ _ _⟩))
        | some kv =>
          obtain ⟨kk, vv⟩ := kv
          obtain ⟨rfl, rfl⟩ := HKV.out kk vv rfl
          by_cases hlast : k = n - 1
          · have hlb1 : ((k : Int) == ((n - 1 : Nat) : Int)) = true := by rw [hlast]; simp
            cases en with
            | false =>
              have hrp : Hid (readP L false = .error (k + 1)) := Lib.hid (readP_bad1 (by rw [HM.out]; exact hk) HA.out Hx.out Ht.out (.inr (by rw [HM.out, HMF.out rfl]; exact hlast)))
              clear hlast
              have HER := Lib.hid (readE_err (hrp.out))
              go_wp2_with (go_at_call 26; refine (readbad_c (k) (by omega) _).mono ?_)
              first | rintro e_ Wz rfl hBz | rintro e_ Wz ⟨rfl, hBz⟩
              have hRz := Lib.hid (RepB.below (HR5.out) hBz)
              have hBz2 := Lib.hid ((HB5.out).trans (hBz.mono (Nat.le_of_lt (HR5.out).lt)))
              clear hBz
              go_wp2_with (first | ((with_reducible refine wpList_st5 (p := none) (n := 0) (c := 0) (i1 := 0) (i2 := 0) (i3 := 0) (i4 := 0) hRz.out ?hx ?hy ?_); (case hx => rfl); (case hy => rfl)) | ((first | (with_reducible refine id (?_ : Exit.then _ _ Exit.ret _ _)) | (with_reducible refine id (?_ : Exit.inBlock _ _ Exit.ret _ _)) | (with_reducible refine id (?_ : bodyPost _ _ _ Exit.ret _ _))); (try simp only [Exit.inBlock, Exit.then]); refine read_ret _ _ b _ _ _ _ _ _ _ (hRz.out.set5 _ _ _ _ _) rfl rfl rfl ⟨readPost_err HER.out (by first | rfl | (simp; done) | (simp; omega) | omega), below_s5 hBz2.out (Nat.le_refl _) _ _ _ _ _⟩))
            | true =>
              obtain ⟨k2, hk2⟩ : ∃ k2, k2 = k + 1 := ⟨_, rfl⟩
              have hw2 : IntKind.i64.wrap ((k : Int) + 1) = (k2 : Int) := by rw [IntKind.wrap_i64]; omega
              have hge2 : (n : Int) ≤ (k2 : Int) := by omega
              have hk2n : k2 ≤ n := by omega
              have hrp : Hid (readP L true = .error (k2 + 1)) := Lib.hid (by
                rw [hk2]
                exact readP_short L true k (by rw [HM.out, HMT.out rfl]; exact hlt) HA.out x Hx.out Ht.out _ _ HQ.out (by rw [HM.out, HMT.out rfl]; omega))
              clear hlast hk2
              have HER := Lib.hid (readE_err (hrp.out))
              go_wp2_with (go_at_call 26; refine (readbad_c (k2) (by omega) _).mono ?_)
              first | rintro e_ Wz rfl hBz | rintro e_ Wz ⟨rfl, hBz⟩
              have hRz := Lib.hid (RepB.below (HR5.out) hBz)
              have hBz2 := Lib.hid ((HB5.out).trans (hBz.mono (Nat.le_of_lt (HR5.out).lt)))
              clear hBz
              go_wp2_with (first | ((with_reducible refine wpList_st5 (p := none) (n := 0) (c := 0) (i1 := 0) (i2 := 0) (i3 := 0) (i4 := 0) hRz.out ?hx ?hy ?_); (case hx => rfl); (case hy => rfl)) | ((first | (with_reducible refine id (?_ : Exit.then _ _ Exit.ret _ _)) | (with_reducible refine id (?_ : Exit.inBlock _ _ Exit.ret _ _)) | (with_reducible refine id (?_ : bodyPost _ _ _ Exit.ret _ _))); (try simp only [Exit.inBlock, Exit.then]); refine read_ret _ _ b _ _ _ _ _ _ _ (hRz.out.set5 _ _ _ _ _) rfl rfl rfl ⟨readPost_err HER.out (by first | rfl | (simp; done) | (simp; omega) | omega), below_s5 hBz2.out (Nat.le_refl _) _ _ _ _ _⟩))
          · have hlb1 : ((k : Int) == ((n - 1 : Nat) : Int)) = false := beq_eq_false_iff_ne.2 (by omega)
            obtain ⟨k2, hk2⟩ : ∃ k2, k2 = k + 1 := ⟨_, rfl⟩
            have hw2 : IntKind.i64.wrap ((k : Int) + 1) = (k2 : Int) := by rw [IntKind.wrap_i64]; omega
            have hlt2 : k2 < n := by omega
            have hlt2i : (k2 : Int) < (n : Int) := by omega
            have hkm : Hid (k < m) := Lib.hid (by cases en; have := HMF.out rfl; omega; have := HMT.out rfl; omega)
            obtain ⟨y, hy⟩ : ∃ y, L[k2]? = some y := ⟨_, List.getElem?_eq_getElem (by have := HN.out; omega)⟩
            have hcy := HST5.out k2 y hy
            rw [Nat.zero_add] at hcy
            have hy6 : y.length ≤ 65536 := HLM.out y (List.mem_of_getElem? hy)
            have hyb : bl ⟨y.toArray⟩ = y := by simp [bl]
            have hys : (⟨y.toArray⟩ : ByteArray).size ≤ 1073741824 := by rw [← bl_len, hyb]; omega
            have hS := split_c 32 ⟨y.toArray⟩ W5 HL5.out hys
            rw [hyb] at hS
            have HY1 : Hid (L[k + 1]? = some y) := Lib.hid (by rw [← hk2]; exact hy)
            have HK2 := Lib.hid hk2
            have hsm := split_mem 32 y
            obtain ⟨D, hD⟩ : ∃ D, splitP 32 y = D := ⟨_, rfl⟩
            have hmm : ∀ d0 d1 d2 d3 : List UInt8, D = [d0, d1, d2, d3] → d0.length ≤ 65536 ∧ d1.length ≤ 65536 ∧ d2.length ≤ 65536 ∧ d3.length ≤ 65536 := fun d0 d1 d2 d3 e => mem4 (hD.trans e) hy6 hsm
            rw [hD] at hS
            have HS := Lib.hid hS
            have HD := Lib.hid hD
            have HMM := Lib.hid hmm
            clear hlast hk2 hy hy6 hyb hys hS hsm hD hmm
            have hrn : Hid (numsQ y = none → readP L en = .error (k2 + 1)) := Lib.hid (fun hq => by
              rw [HK2.out]
              exact readP_bad2 (by rw [HM.out]; exact hkm.out) HA.out Hx.out Ht.out HQ.out HY1.out (.inl hq))
            go_wp2_with (go_at_call 21; refine HS.out.mono ?_)
            rintro e_ W6 ⟨rfl, hW6⟩
            have hB6 : Below W5.heap.size W5 W6 := by rw [hW6]; exact (Below.refl _ _).alloc (Nat.le_refl _) _
            have hS6 : Strs W6 W5.heap.size 0 D := by rw [hW6]; exact strs_alloc W5 D _
            have HR6 := Lib.hid (HR5.out.below hB6)
            have HB6 : Hid (Below b w W6) := Lib.hid (HB5.out.trans (hB6.mono (Nat.le_of_lt HR5.out.lt)))
            have HO6 := Lib.hid (ownL_below HO5.out hB6)
            have HL6 := Lib.hid (HL5.out.below hB6)
            have hsz6 := hB6.size
            obtain ⟨sb, hsb⟩ : ∃ sb, W5.heap.size = sb := ⟨_, rfl⟩
            rw [hsb] at hS6 ⊢
            have HS6 := Lib.hid hS6
            have hsb6 : sb < W6.heap.size := by rw [← hsb, hW6]; simp
            clear hW6 hB6 hS6 HS hcy hsb
            by_cases hd4 : D.length = 4
            · obtain ⟨d0, d1, d2, d3, rfl⟩ := four_of hd4
              clear hd4
              have hc0 : W6.cell? ⟨sb, 0, none⟩ = some (.string ⟨d0.toArray⟩) := HS6.out 0 d0 rfl
              have hc1 : W6.cell? ⟨sb, 1, none⟩ = some (.string ⟨d1.toArray⟩) := HS6.out 1 d1 rfl
              have hc2 : W6.cell? ⟨sb, 2, none⟩ = some (.string ⟨d2.toArray⟩) := HS6.out 2 d2 rfl
              have hc3 : W6.cell? ⟨sb, 3, none⟩ = some (.string ⟨d3.toArray⟩) := HS6.out 3 d3 rfl
              obtain ⟨q0, q1, q2, q3⟩ := HMM.out d0 d1 d2 d3 rfl
              have hb1 : bl ⟨d1.toArray⟩ = d1 := by simp [bl]
              have hb3 : bl ⟨d3.toArray⟩ = d3 := by simp [bl]
              have hs1 : (⟨d1.toArray⟩ : ByteArray).size ≤ 1073741824 := by rw [← bl_len, hb1]; omega
              have hs3 : (⟨d3.toArray⟩ : ByteArray).size ≤ 1073741824 := by rw [← bl_len, hb3]; omega
              have hN1 := number_c ⟨d1.toArray⟩ 2147483647 (by decide) W6 HL6.out hs1
              rw [hb1] at hN1
              have HN1 := Lib.hid hN1
              have Hb3 := Lib.hid hb3
              have Hs3 := Lib.hid hs3
              clear q0 q1 q2 q3 hb1 hb3 hs1 hs3 hN1
              by_cases h0 : d0 = stepsL
              · have h0b : (d0 == [115, 116, 101, 112, 115]) = true := by rw [h0]; rfl
                by_cases h2 : d2 = kPicks
                · have h2b : (d2 == [112, 105, 99, 107, 115]) = true := by rw [h2]; rfl
                  have H0 := Lib.hid h0
                  have H2 := Lib.hid h2
                  clear h0 h2
                  by_cases hl2 : k2 = n - 1 ∧ en = false
                  · obtain ⟨hl3, rfl⟩ := hl2
                    have hlb2 : ((k2 : Int) == ((n - 1 : Nat) : Int)) = true := by rw [hl3]; simp
                    have hrp : Hid (readP L false = .error (k2 + 1)) := Lib.hid (by
                      have e1 : k + 1 = wholeN L false := by rw [HM.out, HMF.out rfl, ← HK2.out]; exact hl3
                      rw [HK2.out]
                      exact readP_bad2 (by rw [HM.out]; exact hkm.out) HA.out Hx.out Ht.out HQ.out HY1.out (.inr e1))
                    clear hl3
                    have HER := Lib.hid (readE_err (hrp.out))
                    go_wp2_with (go_at_call 26; refine (readbad_c (k2) (by omega) _).mono ?_)
                    first | rintro e_ Wz rfl hBz | rintro e_ Wz ⟨rfl, hBz⟩
                    have hRz := Lib.hid (RepB.below (HR6.out) hBz)
                    have hBz2 := Lib.hid ((HB6.out).trans (hBz.mono (Nat.le_of_lt (HR6.out).lt)))
                    clear hBz
                    go_wp2_with (first | ((with_reducible refine wpList_st5 (p := none) (n := 0) (c := 0) (i1 := 0) (i2 := 0) (i3 := 0) (i4 := 0) hRz.out ?hx ?hy ?_); (case hx => rfl); (case hy => rfl)) | ((first | (with_reducible refine id (?_ : Exit.then _ _ Exit.ret _ _)) | (with_reducible refine id (?_ : Exit.inBlock _ _ Exit.ret _ _)) | (with_reducible refine id (?_ : bodyPost _ _ _ Exit.ret _ _))); (try simp only [Exit.inBlock, Exit.then]); refine read_ret _ _ b _ _ _ _ _ _ _ (hRz.out.set5 _ _ _ _ _) rfl rfl rfl ⟨readPost_err HER.out (by first | rfl | (simp; done) | (simp; omega) | omega), below_s5 hBz2.out (Nat.le_refl _) _ _ _ _ _⟩))
                  · have hkm2 : Hid (k + 1 < m) := Lib.hid (by
                      have := HK2.out
                      cases en
                      · have := HMF.out rfl
                        have : k2 ≠ n - 1 := fun e => hl2 ⟨e, rfl⟩
                        omega
                      · have := HMT.out rfl; omega)
                    obtain ⟨lq, hlq⟩ : ∃ lq, ((k2 : Int) == ((n - 1 : Nat) : Int)) = lq := ⟨_, rfl⟩
                    have hle : (lq && !en) = false := by
                      cases en
                      · have : k2 ≠ n - 1 := fun e => hl2 ⟨e, rfl⟩
                        rw [← hlq, beq_eq_false_iff_ne.2 (show (k2 : Int) ≠ ((n - 1 : Nat) : Int) by omega)]; rfl
                      · simp
                    clear hl2
                    go_upto_region 21 with fail
                    go_cut [143] from 15 (fun s143 w' => s143 = .bool false ∧ W6 = w')
                    case first =>
                      cases lq
                      · go_wp2
                        go_meet
                        exact ⟨rfl, rfl⟩
                      · have hen : en = true := by cases en; cases hle; rfl
                        subst hen
                        go_wp2
                        go_meet
                        exact ⟨rfl, rfl⟩
                    case rest =>
                      obtain ⟨rfl, rfl⟩ := hcut
                      clear hle hlq
                      go_wp2_with (go_at_call 29; refine HN1.out.mono ?_)
                      rintro e_ W7 ⟨⟨V1, rfl, hv1⟩, hB7⟩
                      have HV1 := Lib.hid hv1
                      have hc3' := (World.cell?_of_block (a := ⟨sb, 3, none⟩) (hB7.block sb hsb6)).trans hc3
                      have HR7 := Lib.hid (HR6.out.below hB7)
                      have HB7 := Lib.hid (HB6.out.trans (hB7.mono (Nat.le_of_lt HR6.out.lt)))
                      have HO7 := Lib.hid (ownL_below HO6.out hB7)
                      have hN3 := number_c ⟨d3.toArray⟩ 2147483647 (by decide) W7 (HL6.out.below hB7) Hs3.out
                      rw [Hb3.out] at hN3
                      have HN3 := Lib.hid hN3
                      clear hN3 hv1 hB7 hc3 hc2 hc1 hc0 HN1
                      go_wp2_with (go_at_call 29; refine HN3.out.mono ?_)
                      rintro e_ W8 ⟨⟨V3, rfl, hv3⟩, hB8⟩
                      have HV3 := Lib.hid hv3
                      have HR8 := Lib.hid (HR7.out.below hB8)
                      have HB8 := Lib.hid (HB7.out.trans (hB8.mono (Nat.le_of_lt HR7.out.lt)))
                      have HO8 := Lib.hid (ownL_below HO7.out hB8)
                      clear hv3 hB8 hc3' HN3 HR7 HB7 HO7
                      obtain ⟨o1, ho1⟩ : ∃ o1, numQ d1 2147483647 = o1 := ⟨_, rfl⟩
                      obtain ⟨o3, ho3⟩ : ∃ o3, numQ d3 2147483647 = o3 := ⟨_, rfl⟩
                      rw [ho1] at HV1 ⊢
                      rw [ho3] at HV3 ⊢
                      have HO1 := Lib.hid ho1
                      have HO3 := Lib.hid ho3
                      clear ho1 ho3
                      cases o1 with
                      | none =>
                        have hrp := Lib.hid (hrn.out (numsQ_n1 HD.out H0.out H2.out (.inl HO1.out)))
                        have HER := Lib.hid (readE_err (hrp.out))
                        go_wp2_with (go_at_call 26; refine (readbad_c (k2) (by omega) _).mono ?_)
                        first | rintro e_ Wz rfl hBz | rintro e_ Wz ⟨rfl, hBz⟩
                        have hRz := Lib.hid (RepB.below (HR8.out) hBz)
                        have hBz2 := Lib.hid ((HB8.out).trans (hBz.mono (Nat.le_of_lt (HR8.out).lt)))
                        clear hBz
                        go_wp2_with (first | ((with_reducible refine wpList_st5 (p := none) (n := 0) (c := 0) (i1 := 0) (i2 := 0) (i3 := 0) (i4 := 0) hRz.out ?hx ?hy ?_); (case hx => rfl); (case hy => rfl)) | ((first | (with_reducible refine id (?_ : Exit.then _ _ Exit.ret _ _)) | (with_reducible refine id (?_ : Exit.inBlock _ _ Exit.ret _ _)) | (with_reducible refine id (?_ : bodyPost _ _ _ Exit.ret _ _))); (try simp only [Exit.inBlock, Exit.then]); refine read_ret _ _ b _ _ _ _ _ _ _ (hRz.out.set5 _ _ _ _ _) rfl rfl rfl ⟨readPost_err HER.out (by first | rfl | (simp; done) | (simp; omega) | omega), below_s5 hBz2.out (Nat.le_refl _) _ _ _ _ _⟩))
                      | some s1 =>
                        cases o3 with
                        | none =>
                          have hrp := Lib.hid (hrn.out (numsQ_n1 HD.out H0.out H2.out (.inr HO3.out)))
                          have HER := Lib.hid (readE_err (hrp.out))
                          go_wp2_with (go_at_call 26; refine (readbad_c (k2) (by omega) _).mono ?_)
                          first | rintro e_ Wz rfl hBz | rintro e_ Wz ⟨rfl, hBz⟩
                          have hRz := Lib.hid (RepB.below (HR8.out) hBz)
                          have hBz2 := Lib.hid ((HB8.out).trans (hBz.mono (Nat.le_of_lt (HR8.out).lt)))
                          clear hBz
                          go_wp2_with (first | ((with_reducible refine wpList_st5 (p := none) (n := 0) (c := 0) (i1 := 0) (i2 := 0) (i3 := 0) (i4 := 0) hRz.out ?hx ?hy ?_); (case hx => rfl); (case hy => rfl)) | ((first | (with_reducible refine id (?_ : Exit.then _ _ Exit.ret _ _)) | (with_reducible refine id (?_ : Exit.inBlock _ _ Exit.ret _ _)) | (with_reducible refine id (?_ : bodyPost _ _ _ Exit.ret _ _))); (try simp only [Exit.inBlock, Exit.then]); refine read_ret _ _ b _ _ _ _ _ _ _ (hRz.out.set5 _ _ _ _ _) rfl rfl rfl ⟨readPost_err HER.out (by first | rfl | (simp; done) | (simp; omega) | omega), below_s5 hBz2.out (Nat.le_refl _) _ _ _ _ _⟩))
                        | some s3 =>
                          have hqs := Lib.hid (numsQ_s HD.out H0.out H2.out HO1.out HO3.out)
                          obtain rfl := HV1.out s1 rfl
                          obtain rfl := HV3.out s3 rfl
                          obtain ⟨k3, hk3⟩ : ∃ k3, k3 = k2 + 1 := ⟨_, rfl⟩
                          have hw3 : IntKind.i64.wrap ((k2 : Int) + 1) = (k3 : Int) := by rw [IntKind.wrap_i64]; omega
                          have hkw : Hid (k + 1 < wholeN L en) := Lib.hid (by rw [HM.out]; exact hkm2.out)
                          by_cases hm3 : k3 < n
                          · have hm3i : (k3 : Int) < (n : Int) := by omega
                            have hrp : Hid (readP L en = .error (k3 + 1)) := Lib.hid (by
                              rw [hk3, HK2.out]
                              exact readP_more hkw.out HA.out Hx.out Ht.out HQ.out HY1.out hqs.out (by rw [HN.out]; have := HK2.out; omega))
                            clear hk3
                            have HER := Lib.hid (readE_err (hrp.out))
                            go_wp2_with (go_at_call 26; refine (readbad_c (k3) (by omega) _).mono ?_)
                            first | rintro e_ Wz rfl hBz | rintro e_ Wz ⟨rfl, hBz⟩
                            have hRz := Lib.hid (RepB.below (HR8.out) hBz)
                            have hBz2 := Lib.hid ((HB8.out).trans (hBz.mono (Nat.le_of_lt (HR8.out).lt)))
                            clear hBz
                            go_wp2_with (first | ((with_reducible refine wpList_st5 (p := none) (n := 0) (c := 0) (i1 := 0) (i2 := 0) (i3 := 0) (i4 := 0) hRz.out ?hx ?hy ?_); (case hx => rfl); (case hy => rfl)) | ((first | (with_reducible refine id (?_ : Exit.then _ _ Exit.ret _ _)) | (with_reducible refine id (?_ : Exit.inBlock _ _ Exit.ret _ _)) | (with_reducible refine id (?_ : bodyPost _ _ _ Exit.ret _ _))); (try simp only [Exit.inBlock, Exit.then]); refine read_ret _ _ b _ _ _ _ _ _ _ (hRz.out.set5 _ _ _ _ _) rfl rfl rfl ⟨readPost_err HER.out (by first | rfl | (simp; done) | (simp; omega) | omega), below_s5 hBz2.out (Nat.le_refl _) _ _ _ _ _⟩))
                          · have hm3i : (n : Int) ≤ (k3 : Int) := by omega
                            have hrp : Hid (readP L en = .ok ⟨L.take k, K, V, s1, s3⟩) := Lib.hid
                              (readP_good hkw.out HA.out Hx.out Ht.out HQ.out HY1.out hqs.out (by rw [HN.out]; have := HK2.out; omega))
                            clear hk3
                            obtain ⟨m0, m1, m2, m3, m4, n0, n1, n2, n3, n4⟩ := HR8.out.facts
                            go_upto_region 30 with fail
                            clear m0 m1 m2 m3 m4 n0 n1 n2 n3 n4
                            have HR9 := (HR8.out.set3 (.int .i64 (s1 : Int))).set4 (.int .i64 (s3 : Int))
                            have hB9 : Below b w ((W8.setCell ⟨b, 3, none⟩ (.int .i64 (s1 : Int))).setCell ⟨b, 4, none⟩ (.int .i64 (s3 : Int))) := (HB8.out.setCell (p := ⟨b, 3, none⟩) (Nat.le_refl _) _).setCell (p := ⟨b, 4, none⟩) (Nat.le_refl _) _
                            have hO9 : OwnL W0.heap.size ((W8.setCell ⟨b, 3, none⟩ (.int .i64 (s1 : Int))).setCell ⟨b, 4, none⟩ (.int .i64 (s3 : Int))) v (L.take k) := own_grown (own_grown HO8.out (set_grown W8 ⟨b, 3, none⟩ (.int .i64 (s1 : Int))) (fun k' e => by cases e; exact hbW)) (set_grown (W8.setCell ⟨b, 3, none⟩ (.int .i64 (s1 : Int))) ⟨b, 4, none⟩ (.int .i64 (s3 : Int))) (fun k' e => by cases e; exact hbW)
                            obtain ⟨W9, hW9⟩ : ∃ W9, W9 = (W8.setCell ⟨b, 3, none⟩ (.int .i64 (s1 : Int))).setCell ⟨b, 4, none⟩ (.int .i64 (s3 : Int)) := ⟨_, rfl⟩
                            rw [← hW9] at HR9 hB9 hO9 ⊢
                            clear hW9
                            obtain ⟨va, vq, hv⟩ := ownL_slice hO9
                            rw [List.length_take, Nat.min_eq_left (show k ≤ L.length by rw [HN.out]; omega)] at hv
                            subst hv
                            have HB9 := Lib.hid hB9
                            have HO9 := Lib.hid hO9
                            have HR9 := Lib.hid HR9
                            clear hB9 hO9
                            refine wp_region_lit (wpList_ld5 HR9.out rfl ?_)
                            have hre := readE_ok hrp.out
                            have HFIN : Hid (∀ w' e, e = Ending.returned (.tuple #[.agg #[.slice va k vq, .int .i64 K, .int .i64 V, .int .i64 (s1 : Int), .int .i64 (s3 : Int)], .int .i64 0, .int .i64 0]) → OwnL b w' (.slice va k vq) (L.take k) → ReadPost b (readE L en) e w') := Lib.hid (fun w' e he ho => by
                              rw [hre, he]
                              exact ⟨_, ho, rfl⟩)
                            clear hre
                            go_wp2_with (first | ((with_reducible refine wpList_st5 (p := va) (n := k) (c := vq) (i1 := K) (i2 := V) (i3 := (s1 : Int)) (i4 := (s3 : Int)) HR9.out ?hx ?hy ?_); (case hx => rfl); (case hy => rfl)) | ((first | (with_reducible refine id (?_ : Exit.then _ _ Exit.ret _ _)) | (with_reducible refine id (?_ : Exit.inBlock _ _ Exit.ret _ _)) | (with_reducible refine id (?_ : bodyPost _ _ _ Exit.ret _ _))); (try simp only [Exit.inBlock, Exit.then]); refine read_ret _ _ b _ _ _ _ _ _ _ (HR9.out.set5 _ _ _ _ _) rfl rfl rfl ⟨HFIN.out _ _ rfl (ownL_base (own_s5 HO9.out hbW _ _ _ _ _) hbW0), below_s5 HB9.out (Nat.le_refl _) _ _ _ _ _⟩))
                · have h2b : (d2 == [112, 105, 99, 107, 115]) = false := beq_eq_false_iff_ne.2 h2
                  have hrp := Lib.hid (hrn.out (numsQ_word HD.out (.inr h2)))
                  clear h2 h0
                  have HER := Lib.hid (readE_err (hrp.out))
                  go_wp2_with (go_at_call 26; refine (readbad_c (k2) (by omega) _).mono ?_)
                  first | rintro e_ Wz rfl hBz | rintro e_ Wz ⟨rfl, hBz⟩
                  have hRz := Lib.hid (RepB.below (HR6.out) hBz)
                  have hBz2 := Lib.hid ((HB6.out).trans (hBz.mono (Nat.le_of_lt (HR6.out).lt)))
                  clear hBz
                  go_wp2_with (first | ((with_reducible refine wpList_st5 (p := none) (n := 0) (c := 0) (i1 := 0) (i2 := 0) (i3 := 0) (i4 := 0) hRz.out ?hx ?hy ?_); (case hx => rfl); (case hy => rfl)) | ((first | (with_reducible refine id (?_ : Exit.then _ _ Exit.ret _ _)) | (with_reducible refine id (?_ : Exit.inBlock _ _ Exit.ret _ _)) | (with_reducible refine id (?_ : bodyPost _ _ _ Exit.ret _ _))); (try simp only [Exit.inBlock, Exit.then]); refine read_ret _ _ b _ _ _ _ _ _ _ (hRz.out.set5 _ _ _ _ _) rfl rfl rfl ⟨readPost_err HER.out (by first | rfl | (simp; done) | (simp; omega) | omega), below_s5 hBz2.out (Nat.le_refl _) _ _ _ _ _⟩))
              · have h0b : (d0 == [115, 116, 101, 112, 115]) = false := beq_eq_false_iff_ne.2 h0
                have hrp := Lib.hid (hrn.out (numsQ_word HD.out (.inl h0)))
                clear h0
                have HER := Lib.hid (readE_err (hrp.out))
                go_wp2_with (go_at_call 26; refine (readbad_c (k2) (by omega) _).mono ?_)
                first | rintro e_ Wz rfl hBz | rintro e_ Wz ⟨rfl, hBz⟩
                have hRz := Lib.hid (RepB.below (HR6.out) hBz)
                have hBz2 := Lib.hid ((HB6.out).trans (hBz.mono (Nat.le_of_lt (HR6.out).lt)))
                clear hBz
                go_wp2_with (first | ((with_reducible refine wpList_st5 (p := none) (n := 0) (c := 0) (i1 := 0) (i2 := 0) (i3 := 0) (i4 := 0) hRz.out ?hx ?hy ?_); (case hx => rfl); (case hy => rfl)) | ((first | (with_reducible refine id (?_ : Exit.then _ _ Exit.ret _ _)) | (with_reducible refine id (?_ : Exit.inBlock _ _ Exit.ret _ _)) | (with_reducible refine id (?_ : bodyPost _ _ _ Exit.ret _ _))); (try simp only [Exit.inBlock, Exit.then]); refine read_ret _ _ b _ _ _ _ _ _ _ (hRz.out.set5 _ _ _ _ _) rfl rfl rfl ⟨readPost_err HER.out (by first | rfl | (simp; done) | (simp; omega) | omega), below_s5 hBz2.out (Nat.le_refl _) _ _ _ _ _⟩))
            · have hrp := Lib.hid (hrn.out (numsQ_len y (by rw [HD.out]; exact hd4)))
              obtain ⟨nd, hnd⟩ : ∃ nd, D.length = nd := ⟨_, rfl⟩
              rw [hnd] at hd4 ⊢
              have hd4b : ((nd : Int) == 4) = false := beq_eq_false_iff_ne.2 (by omega)
              have hd4c : ((nd : Int) != 4) = true := by rw [bne, hd4b]; rfl
              clear hd4 hnd
              have HER := Lib.hid (readE_err (hrp.out))
              go_wp2_with (go_at_call 26; refine (readbad_c (k2) (by omega) _).mono ?_)
              first | rintro e_ Wz rfl hBz | rintro e_ Wz ⟨rfl, hBz⟩
              have hRz := Lib.hid (RepB.below (HR6.out) hBz)
              have hBz2 := Lib.hid ((HB6.out).trans (hBz.mono (Nat.le_of_lt (HR6.out).lt)))
              clear hBz
              go_wp2_with (first | ((with_reducible refine wpList_st5 (p := none) (n := 0) (c := 0) (i1 := 0) (i2 := 0) (i3 := 0) (i4 := 0) hRz.out ?hx ?hy ?_); (case hx => rfl); (case hy => rfl)) | ((first | (with_reducible refine id (?_ : Exit.then _ _ Exit.ret _ _)) | (with_reducible refine id (?_ : Exit.inBlock _ _ Exit.ret _ _)) | (with_reducible refine id (?_ : bodyPost _ _ _ Exit.ret _ _))); (try simp only [Exit.inBlock, Exit.then]); refine read_ret _ _ b _ _ _ _ _ _ _ (hRz.out.set5 _ _ _ _ _) rfl rfl rfl ⟨readPost_err HER.out (by first | rfl | (simp; done) | (simp; omega) | omega), below_s5 hBz2.out (Nat.le_refl _) _ _ _ _ _⟩))
    · have hkn : k = n := by omega
      have hge : (n : Int) ≤ (k : Int) := by omega
      have hkm := Lib.hid (show k = wholeN L en by rw [HM.out]; omega)
      clear hkn
      have HER := Lib.hid (readE_err (readP_end L en k hkm.out HA.out))
      go_wp2_with (go_at_call 26; refine (readbad_c (k) (by omega) _).mono ?_)
      first | rintro e_ Wz rfl hBz | rintro e_ Wz ⟨rfl, hBz⟩
      have hRz := Lib.hid (RepB.below (HR.out) hBz)
      have hBz2 := Lib.hid ((HBr.out).trans (hBz.mono (Nat.le_of_lt (HR.out).lt)))
      clear hBz
      go_wp2_with (first | ((with_reducible refine wpList_st5 (p := none) (n := 0) (c := 0) (i1 := 0) (i2 := 0) (i3 := 0) (i4 := 0) hRz.out ?hx ?hy ?_); (case hx => rfl); (case hy => rfl)) | ((first | (with_reducible refine id (?_ : Exit.then _ _ Exit.ret _ _)) | (with_reducible refine id (?_ : Exit.inBlock _ _ Exit.ret _ _)) | (with_reducible refine id (?_ : bodyPost _ _ _ Exit.ret _ _))); (try simp only [Exit.inBlock, Exit.then]); refine read_ret _ _ b _ _ _ _ _ _ _ (hRz.out.set5 _ _ _ _ _) rfl rfl rfl ⟨readPost_err HER.out (by first | rfl | (simp; done) | (simp; omega) | omega), below_s5 hBz2.out (Nat.le_refl _) _ _ _ _ _⟩))
end Go.Proofs.YthfnjphmodcnoaaDoor