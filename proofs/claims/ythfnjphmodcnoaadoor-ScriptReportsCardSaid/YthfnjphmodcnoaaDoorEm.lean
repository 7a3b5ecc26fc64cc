/- The walk of the reference's Report. -/
import Derived.Test.YthfnjphmodcnoaaDoorEn
import Derived.Test.YthfnjphmodcnoaaDoorEl
namespace Go.Proofs.YthfnjphmodcnoaaDoor
open Go.RowKit
set_option linter.unusedSimpArgs false
set_option linter.unusedVariables false

theorem below_grow3 {B b : Nat} {w W0 wr : World} (h : Below B w W0) (hg : W0.grownBy wr (some b)) (hB : B ≤ b) (hb : b ≤ W0.heap.size) : Below B w wr :=
  h.trans ⟨hg.os, hg.tape, hg.output, hg.size, fun k hk => hg.block k (by omega) (fun e => by cases e; omega)⟩
theorem lines_en {l : List UInt8} (h : (linesP l).2 = false) : 1 ≤ (linesP l).1.length := by
  unfold linesP at *
  split at h
  · cases h
  · split at h
    · cases h
    · rename_i h1 h2
      rw [if_neg h1, if_neg h2]
      exact (split_len 10 l).1
abbrev RepZ (W : World) (b : Nat) : Prop := RepB W b (.slice none 0 0) (.int .i64 0) (.int .i64 0) (.int .i64 0) (.int .i64 0)
set_option maxRecDepth 100000 in
set_option maxHeartbeats 2000000 in
theorem rrep_big (s : ByteArray) (w : World) (hs : 65536 < s.size) : Calls Tryd.prog 14 #[.string s] w fun e w' => ReadPost w.heap.size (readT (bl s)) e w' ∧ Below w.heap.size w w' := by
  have HT := Lib.hid (readT_big (s := bl s) (by rw [bl_len]; exact hs))
  have hi : (65536 : Int) < (s.size : Int) := by omega
  go_enter Tryd.func14, Tryd.ntmps14
  go_wp2
  refine rrep_ret _ _ w.heap.size _ _ _ _ _ (.int .i64 0) (.int .i64 6) (RepB.new w) rfl rfl rfl ⟨?_, (Below.refl _ _).alloc (Nat.le_refl _) _⟩
  rw [HT.out]
  exact rfl
set_option maxRecDepth 100000 in
set_option maxHeartbeats 8000000 in
theorem rrep_walk (s : ByteArray) (w : World) (hs : s.size ≤ 65536) : Calls Tryd.prog 14 #[.string s] w fun e w' => ReadPost w.heap.size (readE (linesP (bl s)).1 (linesP (bl s)).2) e w' ∧ Below w.heap.size w w' := by
  have hi : ¬ (65536 : Int) < (s.size : Int) := by omega
  obtain ⟨r, hr⟩ : ∃ r, w.heap.size = r := ⟨_, rfl⟩
  have hlm : ∀ z ∈ (linesP (bl s)).1, z.length ≤ 65536 := fun z hz => by
    have := lines_mem (bl s) z hz
    rw [bl_len] at this; omega
  have hln := lines_len (bl s)
  rw [bl_len] at hln
  have hlp := lines_en (l := bl s)
  have HB1 : Hid (Below r w (w.alloc (.cells #[.slice none 0 0, .int .i64 0, .int .i64 0, .int .i64 0, .int .i64 0] 39))) := Lib.hid (by rw [← hr]; exact (Below.refl _ _).alloc (Nat.le_refl _) _)
  have HR1 : Hid (RepZ (w.alloc (.cells #[.slice none 0 0, .int .i64 0, .int .i64 0, .int .i64 0, .int .i64 0] 39)) r) := Lib.hid (by rw [← hr]; exact RepB.new w)
  have hz1' : (w.alloc (.cells #[.slice none 0 0, .int .i64 0, .int .i64 0, .int .i64 0, .int .i64 0] 39)).heap.size = r + 1 := by rw [← hr]; simp
  obtain ⟨Wa, hWa⟩ : ∃ Wa, Wa = w.alloc (.cells #[.slice none 0 0, .int .i64 0, .int .i64 0, .int .i64 0, .int .i64 0] 39) := ⟨_, rfl⟩
  rw [← hWa] at HB1 HR1 hz1'
  have HLC := Lib.hid (rlines_c s Wa (by omega))
  obtain ⟨L, hL⟩ : ∃ L, (linesP (bl s)).1 = L := ⟨_, rfl⟩
  obtain ⟨en, hen⟩ : ∃ en, (linesP (bl s)).2 = en := ⟨_, rfl⟩
  rw [hL] at hlm hln HLC hlp ⊢
  rw [hen] at HLC hlp ⊢
  obtain ⟨n, hn⟩ : ∃ n, L.length = n := ⟨_, rfl⟩
  rw [hn] at hln hlp
  have HN := Lib.hid hn
  have HLM := Lib.hid hlm
  have HWa := Lib.hid hWa
  have Hr := Lib.hid hr
  obtain ⟨m, hm⟩ : ∃ m, wholeN L en = m := ⟨_, rfl⟩
  have hmt : en = true → m = n := fun e => by rw [← hm, e]; exact HN.out
  have hmf : en = false → m = n - 1 := fun e => by rw [← hm, e, ← HN.out]; rfl
  have hmn : m ≤ n := by cases en; have := hmf rfl; omega; have := hmt rfl; omega
  have HM := Lib.hid hm
  have HMT := Lib.hid hmt
  have HMF := Lib.hid hmf
  have HLP := Lib.hid hlp
  clear hL hen hn hlm hWa hm hmt hmf hlp
  rw [hr]
  clear hr
  go_enter Tryd.func14, Tryd.ntmps14
  go_wp2_with (go_at_call 30; fail)
  rw [Hr.out, ← HWa.out]
  refine HLC.out.mono ?_
  rintro e_ Wl ⟨vl, rfl, hown, hBl⟩
  obtain ⟨p, cap, rfl, hlin⟩ := ownL_lin hown
  rw [HN.out]
  have HLIN := Lib.hid hlin
  have HBl := Lib.hid (HB1.out.trans (hBl.mono (by omega)))
  have HRl : Hid (RepZ Wl r) := Lib.hid (HR1.out.below hBl)
  have hzl := hBl.size
  clear hBl hlin hown HLC HR1 HB1
  go_upto_if 27 with fail
  go_cut [7] from 15 (fun s7 w' => s7 = .int .i64 (m : Int) ∧ Wl = w')
  case first =>
    cases en with
    | true =>
      have hmm := Lib.hid (HMT.out rfl)
      go_wp2
      go_meet
      exact ⟨by rw [hmm.out], rfl⟩
    | false =>
      have hn1 := HLP.out rfl
      have hw1 : IntKind.i64.wrap ((n : Int) - 1) = (m : Int) := by rw [IntKind.wrap_i64]; have := HMF.out rfl; omega
      go_wp2
      go_meet
      exact ⟨rfl, rfl⟩
  case rest =>
  obtain ⟨rfl, rfl⟩ := hcut
  go_upto_region 8 with fail
  obtain ⟨b, hb⟩ : ∃ b, Wl.heap.size = b := ⟨_, rfl⟩
  have hRb : RepZ (Wl.alloc (.cells #[.slice none 0 0, .int .i64 0, .int .i64 0, .int .i64 0, .int .i64 0] 39)) b := by rw [← hb]; exact RepB.new Wl
  have hBb : Below b Wl (Wl.alloc (.cells #[.slice none 0 0, .int .i64 0, .int .i64 0, .int .i64 0, .int .i64 0] 39)) := by rw [← hb]; exact (Below.refl _ _).alloc (Nat.le_refl _) _
  obtain ⟨W0, hW0⟩ : ∃ W0, W0 = Wl.alloc (.cells #[.slice none 0 0, .int .i64 0, .int .i64 0, .int .i64 0, .int .i64 0] 39) := ⟨_, rfl⟩
  rw [hb, ← hW0]
  rw [← hW0] at hRb hBb
  clear hW0
  have HB0 := Lib.hid (HBl.out.trans (hBb.mono (by omega)))
  have HR0 : Hid (RepZ W0 b) := Lib.hid hRb
  have hbW : b < W0.heap.size := hRb.lt
  have hrb : r < b := by omega
  have HRr : Hid (RepZ W0 r) := Lib.hid ((hBb.block r hrb).trans HRl.out)
  have HLIN0 : Hid (∀ k x, L[k]? = some x → ∃ lb, p = some ⟨lb, 0, none⟩ ∧ Strs W0 lb 0 L ∧ lb < b) := Lib.hid (fun k x hx => by
    obtain ⟨lb, h1, h2, h3, h4⟩ := lin_at HLIN.out hx
    exact ⟨lb, h1, strs_same h2 (hBb.block lb (by omega)), by omega⟩)
  clear hRb hBb hb HLIN HBl HRl
  go_wp2_with fail
  go_loopw [9] (fun i wr => ∃ (k : Nat) (v : Value), i = .int .i64 k ∧ k ≤ m ∧ Hid (W0.grownBy wr (some b)) ∧ Hid (RepB wr b v (.int .i64 0) (.int .i64 0) (.int .i64 0) (.int .i64 0)) ∧ Hid (OwnL W0.heap.size wr v (L.take k)) ∧ Hid (∀ z ∈ L.take k, toldP z = true)) (fun i _ => m - (intOf i).toNat)
  case atStart => exact ⟨0, _, rfl, Nat.zero_le _, Lib.hid (World.grownBy.refl _ _), HR0, Lib.hid (ownL_nil _ _), Lib.hid (by simp)⟩
  case round =>
    obtain ⟨k, v, rfl, hk, HG, HR, HO, HA⟩ := hrel
    have hsz := HG.out.size
    have hwk : IntKind.i64.wrap ((k : Int) + 1) = ((k + 1 : Nat) : Int) := by rw [IntKind.wrap_i64]; omega
    by_cases hltm : k < m
    · have hltmi : (k : Int) < (m : Int) := by omega
      have hlt : k < n := by omega
      obtain ⟨x, hx⟩ : ∃ x, L[k]? = some x := ⟨_, List.getElem?_eq_getElem (by have := HN.out; omega)⟩
      obtain ⟨lb, rfl, hst, hlb⟩ := HLIN0.out k x hx
      have hlbb : lb ≠ b := by omega
      have hlbW : lb < W0.heap.size := by omega
      have hwb : wr.heap[lb]? = W0.heap[lb]? := HG.out.block lb hlbW (fun e => hlbb (Option.some.inj e))
      have HST := Lib.hid (strs_same hst hwb)
      have hcx := HST.out k x hx
      rw [Nat.zero_add] at hcx
      have hx6 : x.length ≤ 65536 := HLM.out x (List.mem_of_getElem? hx)
      have hxb : bl ⟨x.toArray⟩ = x := by simp [bl]
      have hxs : (⟨x.toArray⟩ : ByteArray).size ≤ 1073741824 := by rw [← bl_len, hxb]; omega
      have hT := rtold_c ⟨x.toArray⟩ wr hxs
      rw [hxb] at hT
      obtain ⟨t, ht⟩ : ∃ t, toldP x = t := ⟨_, rfl⟩
      rw [ht] at hT
      have HT := Lib.hid hT
      have Ht := Lib.hid ht
      have Hx := Lib.hid hx
      have Hxb := Lib.hid hxb
      have HXS := Lib.hid hxs
      have HLB := Lib.hid hlbW
      clear hT ht hx hst hwb hxb hxs hlbW
      go_wp2_with (go_at_call 31; refine HT.out.mono ?_)
      rintro e_ W3 ⟨rfl, hB3⟩
      have HG3 : Hid (W0.grownBy W3 (some b)) := Lib.hid (HG.out.trans (below_grown hB3 _))
      have HR3 := Lib.hid (HR.out.below hB3)
      have HO3 := Lib.hid (ownL_below HO.out hB3)
      have hwb : W3.heap[lb]? = wr.heap[lb]? := hB3.block lb (Nat.lt_of_lt_of_le HLB.out hsz)
      have HST3 := Lib.hid (strs_same HST.out hwb)
      have hcx3 := HST3.out k x Hx.out
      rw [Nat.zero_add] at hcx3
      have hsz3 : W0.heap.size ≤ W3.heap.size := HG3.out.size
      clear hB3 hwb HT hcx HST HG HR HO
      cases t with
      | true =>
        go_upto_region 10 with fail
        obtain ⟨va, vq, rfl⟩ := ownL_slice HO3.out
        refine app_rep (W0 := W0) (b := b) (lb := lb) (n := n) (cap := cap) (k := k) (x := x) (T := L.take k) (va := va) (vq := vq) ⟨by kernel_rfl, rfl, rfl, rfl, rfl, rfl, rfl, rfl, rfl, rfl, rfl, rfl, rfl, rfl, rfl, rfl, rfl, rfl, rfl, rfl, rfl, rfl, rfl, rfl, rfl, rfl, rfl, rfl, rfl, rfl, rfl, rfl, rfl, rfl, rfl, rfl, rfl, rfl, rfl, rfl, rfl, rfl, by kernel_rfl, by kernel_rfl, by kernel_rfl, by kernel_rfl, by kernel_rfl, by kernel_rfl, by kernel_rfl, by kernel_rfl, by kernel_rfl, by kernel_rfl, by kernel_rfl, by kernel_rfl, by kernel_rfl, by kernel_rfl, by kernel_rfl, by kernel_rfl, by kernel_rfl, by kernel_rfl, by kernel_rfl, by kernel_rfl, by kernel_rfl, by kernel_rfl, by kernel_rfl⟩ rfl rfl rfl rfl hlt (by rw [List.length_take]; omega) HG3.out HR3.out HO3.out hbW HLB.out hlbb hcx3 (fun _ _ _ _ _ h => h) (fun va' vq' w9 hG9 hR9 hO9 => ?_)
        have HG9 := Lib.hid hG9
        have HR9 := Lib.hid hR9
        have HO9 := Lib.hid hO9
        have HA9 : Hid (∀ z ∈ L.take (k + 1), toldP z = true) := Lib.hid (by
          rw [List.take_add_one, Hx.out]
          intro z hz
          rcases List.mem_append.1 hz with hz | hz
          · exact HA.out z hz
          · have : z = x := by simpa using hz
            rw [this]; exact Ht.out)
        have HTK := Lib.hid (show L.take (k + 1) = L.take k ++ [x] by rw [List.take_add_one, Hx.out]; rfl)
        clear hG9 hR9 hO9
        simp (config := { maxSteps := 10000000 }) only [Act.put, List.setIfInBounds_toArray, List.set_cons_zero, List.set_cons_succ]
        go_wp2
        exact ⟨⟨k + 1, _, by go_num, hltm, HG9, HR9, Lib.hid (by rw [HTK.out]; exact HO9.out), HA9⟩, by simp [intOf]; omega⟩
      | false =>
        have hE := rending_c ⟨x.toArray⟩ W3 HXS.out
        rw [Hxb.out] at hE
        obtain ⟨q, hq⟩ : ∃ q, endQ x = q := ⟨_, rfl⟩
        rw [hq] at hE
        have HE := Lib.hid hE
        have HQ := Lib.hid hq
        clear hE hq
        go_wp2_with (go_at_call 32; refine HE.out.mono ?_)
        rintro e_ W4 ⟨⟨K, V, rfl, hKN, hKV⟩, hB4⟩
        have HKV := Lib.hid hKV
        have HKN := Lib.hid hKN
        have HR4 := HR3.out.below hB4
        obtain ⟨m0, m1, m2, m3, m4, n0, n1, n2, n3, n4⟩ := HR4.facts
        go_upto_region 15 with fail
        clear m0 m1 m2 m3 m4 n0 n1 n2 n3 n4
        have hR5 := (HR4.set1 (.int .i64 K)).set2 (.int .i64 V)
        have hG5 := ((HG3.out.trans (below_grown hB4 _)).trans (set_grown W4 ⟨b, 1, none⟩ (.int .i64 K))).trans (set_grown (W4.setCell ⟨b, 1, none⟩ (.int .i64 K)) ⟨b, 2, none⟩ (.int .i64 V))
        have hO5 : OwnL W0.heap.size ((W4.setCell ⟨b, 1, none⟩ (.int .i64 K)).setCell ⟨b, 2, none⟩ (.int .i64 V)) v (L.take k) := own_grown (own_grown (ownL_below HO3.out hB4) (set_grown W4 ⟨b, 1, none⟩ (.int .i64 K)) (fun k' e => by cases e; exact hbW)) (set_grown (W4.setCell ⟨b, 1, none⟩ (.int .i64 K)) ⟨b, 2, none⟩ (.int .i64 V)) (fun k' e => by cases e; exact hbW)
        obtain ⟨W5, hW5⟩ : ∃ W5, W5 = (W4.setCell ⟨b, 1, none⟩ (.int .i64 K)).setCell ⟨b, 2, none⟩ (.int .i64 V) := ⟨_, rfl⟩
        rw [← hW5] at hR5 hG5 hO5 ⊢
        have HR5 := Lib.hid hR5
        have HO5 := Lib.hid hO5
        have HR15 : Hid (RepZ W5 r) := Lib.hid ((hG5.block r (by omega) (fun e => by cases e; omega)).trans HRr.out)
        have HB5 : Hid (Below r w W5) := Lib.hid (below_grow3 HB0.out hG5 (by omega) (by omega))
        have HST5 := Lib.hid (strs_same HST3.out ((hG5.block lb HLB.out (fun e => hlbb (Option.some.inj e))).trans (HG3.out.block lb HLB.out (fun e => hlbb (Option.some.inj e))).symm))
        have hsz5 : W0.heap.size ≤ W5.heap.size := hG5.size
        have hc51 : W5.cell? ⟨b, 1, none⟩ = some (.int .i64 K) := hR5.facts.c1
        clear hW5 hR5 hG5 hO5 HR4 hB4 hKV hKN hcx3
        cases q with
        | none =>
          obtain rfl := HKN.out rfl
          have hrp : Hid (readP L en = .error (k + 1)) := Lib.hid (readP_bad1 (by rw [HM.out]; exact hk) HA.out Hx.out Ht.out (.inl HQ.out))
          have HER := Lib.hid (readE_err (hrp.out))
          go_wp2_with (first | ((with_reducible refine wpList_st5 (p := none) (n := 0) (c := 0) (i1 := 0) (i2 := 0) (i3 := 0) (i4 := 0) (HR15.out) ?hx ?hy ?_); (case hx => rfl); (case hy => rfl)) | ((first | (with_reducible refine id (?_ : Exit.then _ _ Exit.ret _ _)) | (with_reducible refine id (?_ : Exit.inBlock _ _ Exit.ret _ _)) | (with_reducible refine id (?_ : bodyPost _ _ _ Exit.ret _ _))); (try simp only [Exit.inBlock, Exit.then]); refine rrep_ret _ _ r _ _ _ _ _ _ _ ((HR15.out).set5 _ _ _ _ _) rfl rfl rfl ⟨readPost_err HER.out (by first | rfl | (simp; done) | (simp; omega) | omega), below_s5 (HB5.out) (Nat.le_refl _) _ _ _ _ _⟩))
        | some kv =>
          obtain ⟨kk, vv⟩ := kv
          obtain ⟨rfl, rfl⟩ := HKV.out kk vv rfl
          obtain ⟨hp1, hp2⟩ := endQ_pos HQ.out
          have hK0 : (K == 0) = false := beq_eq_false_iff_ne.2 (by omega)
          obtain ⟨k2, hk2⟩ : ∃ k2, k2 = k + 1 := ⟨_, rfl⟩
          have hwk2 : IntKind.i64.wrap ((k : Int) + 1) = (k2 : Int) := by rw [hk2]; exact hwk
          clear hwk hp1 hp2
          by_cases hltk : k2 < m
          · have hltki : (k2 : Int) < (m : Int) := by omega
            have hlt2 : k2 < n := by omega
            have hlt2i : (k2 : Int) < (n : Int) := by omega
            obtain ⟨k3, hk3⟩ : ∃ k3, k3 = k2 + 1 := ⟨_, rfl⟩
            have hwk3 : IntKind.i64.wrap ((k2 : Int) + 1) = (k3 : Int) := by rw [hk3, IntKind.wrap_i64]; omega
            obtain ⟨y, hy⟩ : ∃ y, L[k2]? = some y := ⟨_, List.getElem?_eq_getElem (by have := HN.out; omega)⟩
            have hcy := HST5.out k2 y hy
            rw [Nat.zero_add] at hcy
            have hy6 : y.length ≤ 65536 := HLM.out y (List.mem_of_getElem? hy)
            have hyb : bl ⟨y.toArray⟩ = y := by simp [bl]
            have hys : (⟨y.toArray⟩ : ByteArray).size ≤ 1073741824 := by rw [← bl_len, hyb]; omega
            have hS := rwords_c ⟨y.toArray⟩ W5 hys
            rw [hyb] at hS
            have HY1 : Hid (L[k + 1]? = some y) := Lib.hid (by rw [← hk2]; exact hy)
            have HK2 := Lib.hid hk2
            have HK3 := Lib.hid hk3
            have hsm := split_mem 32 y
            obtain ⟨D, hD⟩ : ∃ D, splitP 32 y = D := ⟨_, rfl⟩
            have hmm : ∀ d0 d1 d2 d3 : List UInt8, D = [d0, d1, d2, d3] → d0.length ≤ 65536 ∧ d1.length ≤ 65536 ∧ d2.length ≤ 65536 ∧ d3.length ≤ 65536 := fun d0 d1 d2 d3 e => mem4 (hD.trans e) hy6 hsm
            rw [hD] at hS
            have HS := Lib.hid hS
            have HD := Lib.hid hD
            have HMM := Lib.hid hmm
            clear hk2 hk3 hy hy6 hyb hys hS hsm hD hmm
            have hrn : Hid (numsQ y = none → readP L en = .error k3) := Lib.hid (fun hq => by
              rw [HK3.out, HK2.out]
              exact readP_bad2 (by rw [HM.out]; exact hltm) HA.out Hx.out Ht.out HQ.out HY1.out (.inl hq))
            have hkw : Hid (k + 1 < wholeN L en) := Lib.hid (by rw [HM.out, ← HK2.out]; exact hltk)
            go_wp2_with (go_at_call 33; refine HS.out.mono ?_)
            rintro e_ W6 ⟨vd, rfl, hown6, hB6⟩
            obtain ⟨p6, c6, rfl, hlin6⟩ := ownL_lin hown6
            have HR6 := Lib.hid (HR5.out.below hB6)
            have HR16 : Hid (RepZ W6 r) := Lib.hid (HR15.out.below hB6)
            have HB6 : Hid (Below r w W6) := Lib.hid (HB5.out.trans (hB6.mono (by omega)))
            have HO6 := Lib.hid (ownL_below HO5.out hB6)
            have hsz6 := hB6.size
            have HLIN6 := Lib.hid hlin6
            clear hB6 hown6 hlin6 HS hcy
            by_cases hd4 : D.length = 4
            · obtain ⟨d0, d1, d2, d3, rfl⟩ := four_of hd4
              clear hd4
              obtain ⟨sb, rfl, hS6, hsb6, hsb7⟩ := lin_at HLIN6.out (show [d0, d1, d2, d3][0]? = some d0 from rfl)
              have hc0 : W6.cell? ⟨sb, 0, none⟩ = some (.string ⟨d0.toArray⟩) := hS6 0 d0 rfl
              have hc1 : W6.cell? ⟨sb, 1, none⟩ = some (.string ⟨d1.toArray⟩) := hS6 1 d1 rfl
              have hc2 : W6.cell? ⟨sb, 2, none⟩ = some (.string ⟨d2.toArray⟩) := hS6 2 d2 rfl
              have hc3 : W6.cell? ⟨sb, 3, none⟩ = some (.string ⟨d3.toArray⟩) := hS6 3 d3 rfl
              obtain ⟨q0, q1, q2, q3⟩ := HMM.out d0 d1 d2 d3 rfl
              have hb1 : bl ⟨d1.toArray⟩ = d1 := by simp [bl]
              have hb3 : bl ⟨d3.toArray⟩ = d3 := by simp [bl]
              have hN1 := rnum_c ⟨d1.toArray⟩ 2147483647 (by decide) W6
              have hN3 := rnum_c ⟨d3.toArray⟩ 2147483647 (by decide) W6
              rw [hb1] at hN1
              rw [hb3] at hN3
              obtain ⟨o1, ho1⟩ : ∃ o1, numQ d1 2147483647 = o1 := ⟨_, rfl⟩
              obtain ⟨o3, ho3⟩ : ∃ o3, numQ d3 2147483647 = o3 := ⟨_, rfl⟩
              rw [ho1] at hN1
              rw [ho3] at hN3
              have HO1 := Lib.hid ho1
              have HO3 := Lib.hid ho3
              have HN1 := Lib.hid hN1
              have HN3 := Lib.hid hN3
              clear q0 q1 q2 q3 hb1 hb3 hN1 hN3 ho1 ho3 hS6
              by_cases h0 : d0 = stepsL
              · have h0b : (d0 == [115, 116, 101, 112, 115]) = true := by rw [h0]; rfl
                by_cases h2 : d2 = kPicks
                · have h2b : (d2 == [112, 105, 99, 107, 115]) = true := by rw [h2]; rfl
                  have H0 := Lib.hid h0
                  have H2 := Lib.hid h2
                  clear h0 h2
                  go_wp2_with (go_at_call 34; refine HN1.out.mono ?_)
                  rintro e_ W7 ⟨⟨V1, rfl, hv1⟩, hW7⟩
                  obtain rfl := hW7.symm
                  have HV1 := Lib.hid hv1
                  clear hv1
                  go_wp2_with (go_at_call 34; refine HN3.out.mono ?_)
                  rintro e_ W7 ⟨⟨V3, rfl, hv3⟩, hW7⟩
                  obtain rfl := hW7.symm
                  have HV3 := Lib.hid hv3
                  clear hv3 hc0 hc1 hc2 hc3 HN1 HN3
                  cases o1 with
                  | none =>
                    have hrp := Lib.hid (hrn.out (numsQ_n1 HD.out H0.out H2.out (.inl HO1.out)))
                    have HER := Lib.hid (readE_err (hrp.out))
                    go_wp2_with (first | ((with_reducible refine wpList_st5 (p := none) (n := 0) (c := 0) (i1 := 0) (i2 := 0) (i3 := 0) (i4 := 0) (HR16.out) ?hx ?hy ?_); (case hx => rfl); (case hy => rfl)) | ((first | (with_reducible refine id (?_ : Exit.then _ _ Exit.ret _ _)) | (with_reducible refine id (?_ : Exit.inBlock _ _ Exit.ret _ _)) | (with_reducible refine id (?_ : bodyPost _ _ _ Exit.ret _ _))); (try simp only [Exit.inBlock, Exit.then]); refine rrep_ret _ _ r _ _ _ _ _ _ _ ((HR16.out).set5 _ _ _ _ _) rfl rfl rfl ⟨readPost_err HER.out (by first | rfl | (simp; done) | (simp; omega) | omega), below_s5 (HB6.out) (Nat.le_refl _) _ _ _ _ _⟩))
                  | some s1 =>
                    cases o3 with
                    | none =>
                      have hrp := Lib.hid (hrn.out (numsQ_n1 HD.out H0.out H2.out (.inr HO3.out)))
                      have HER := Lib.hid (readE_err (hrp.out))
                      go_wp2_with (first | ((with_reducible refine wpList_st5 (p := none) (n := 0) (c := 0) (i1 := 0) (i2 := 0) (i3 := 0) (i4 := 0) (HR16.out) ?hx ?hy ?_); (case hx => rfl); (case hy => rfl)) | ((first | (with_reducible refine id (?_ : Exit.then _ _ Exit.ret _ _)) | (with_reducible refine id (?_ : Exit.inBlock _ _ Exit.ret _ _)) | (with_reducible refine id (?_ : bodyPost _ _ _ Exit.ret _ _))); (try simp only [Exit.inBlock, Exit.then]); refine rrep_ret _ _ r _ _ _ _ _ _ _ ((HR16.out).set5 _ _ _ _ _) rfl rfl rfl ⟨readPost_err HER.out (by first | rfl | (simp; done) | (simp; omega) | omega), below_s5 (HB6.out) (Nat.le_refl _) _ _ _ _ _⟩))
                    | some s3 =>
                      have hqs := Lib.hid (numsQ_s HD.out H0.out H2.out HO1.out HO3.out)
                      obtain rfl := HV1.out s1 rfl
                      obtain rfl := HV3.out s3 rfl
                      by_cases hm3 : k3 < n
                      · have hm3i : (k3 : Int) < (n : Int) := by omega
                        have hwk4 : IntKind.i64.wrap ((k2 : Int) + 2) = ((k3 + 1 : Nat) : Int) := by rw [IntKind.wrap_i64]; have := HK3.out; omega
                        have hrp : Hid (readP L en = .error (k3 + 1)) := Lib.hid (by
                          rw [HK3.out, HK2.out]
                          exact readP_more hkw.out HA.out Hx.out Ht.out HQ.out HY1.out hqs.out (by rw [HN.out]; have := HK2.out; have := HK3.out; omega))
                        have HER := Lib.hid (readE_err (hrp.out))
                        go_wp2_with (first | ((with_reducible refine wpList_st5 (p := none) (n := 0) (c := 0) (i1 := 0) (i2 := 0) (i3 := 0) (i4 := 0) (HR16.out) ?hx ?hy ?_); (case hx => rfl); (case hy => rfl)) | ((first | (with_reducible refine id (?_ : Exit.then _ _ Exit.ret _ _)) | (with_reducible refine id (?_ : Exit.inBlock _ _ Exit.ret _ _)) | (with_reducible refine id (?_ : bodyPost _ _ _ Exit.ret _ _))); (try simp only [Exit.inBlock, Exit.then]); refine rrep_ret _ _ r _ _ _ _ _ _ _ ((HR16.out).set5 _ _ _ _ _) rfl rfl rfl ⟨readPost_err HER.out (by first | rfl | (simp; done) | (simp; omega) | omega), below_s5 (HB6.out) (Nat.le_refl _) _ _ _ _ _⟩))
                      · have hm3i : (n : Int) ≤ (k3 : Int) := by omega
                        have hrp : Hid (readP L en = .ok ⟨L.take k, K, V, s1, s3⟩) := Lib.hid
                          (readP_good hkw.out HA.out Hx.out Ht.out HQ.out HY1.out hqs.out (by rw [HN.out]; have := HK2.out; have := HK3.out; omega))
                        obtain ⟨m0, m1, m2, m3, m4, n0, n1, n2, n3, n4⟩ := HR6.out.facts
                        go_upto_region 31 with fail
                        clear m0 m1 m2 m3 m4 n0 n1 n2 n3 n4
                        have HR9 := (HR6.out.set3 (.int .i64 (s1 : Int))).set4 (.int .i64 (s3 : Int))
                        have hG9 : W6.grownBy ((W6.setCell ⟨b, 3, none⟩ (.int .i64 (s1 : Int))).setCell ⟨b, 4, none⟩ (.int .i64 (s3 : Int))) (some b) := (set_grown W6 ⟨b, 3, none⟩ (.int .i64 (s1 : Int))).trans (set_grown (W6.setCell ⟨b, 3, none⟩ (.int .i64 (s1 : Int))) ⟨b, 4, none⟩ (.int .i64 (s3 : Int)))
                        have hB9 : Below r w ((W6.setCell ⟨b, 3, none⟩ (.int .i64 (s1 : Int))).setCell ⟨b, 4, none⟩ (.int .i64 (s3 : Int))) := (HB6.out.setCell (p := ⟨b, 3, none⟩) (Nat.le_of_lt hrb) _).setCell (p := ⟨b, 4, none⟩) (Nat.le_of_lt hrb) _
                        have hO9 : OwnL W0.heap.size ((W6.setCell ⟨b, 3, none⟩ (.int .i64 (s1 : Int))).setCell ⟨b, 4, none⟩ (.int .i64 (s3 : Int))) v (L.take k) := own_grown HO6.out hG9 (fun k' e => by cases e; exact hbW)
                        obtain ⟨W9, hW9⟩ : ∃ W9, W9 = (W6.setCell ⟨b, 3, none⟩ (.int .i64 (s1 : Int))).setCell ⟨b, 4, none⟩ (.int .i64 (s3 : Int)) := ⟨_, rfl⟩
                        rw [← hW9] at HR9 hB9 hO9 hG9 ⊢
                        clear hW9
                        have hR19 : RepZ W9 r := (hG9.block r (by omega) (fun e => by cases e; omega)).trans HR16.out
                        obtain ⟨va, vq, hv⟩ := ownL_slice hO9
                        rw [List.length_take, Nat.min_eq_left (show k ≤ L.length by rw [HN.out]; omega)] at hv
                        subst hv
                        have HB9 := Lib.hid hB9
                        have HO9 := Lib.hid hO9
                        have HR19 := Lib.hid hR19
                        have HR9 := Lib.hid HR9
                        clear hB9 hO9 hG9 hR19
                        refine wp_region_lit (wpList_ld5 HR9.out rfl ?_)
                        have hre := readE_ok hrp.out
                        have HFIN : Hid (∀ w' e, e = Ending.returned (.tuple #[.agg #[.slice va k vq, .int .i64 K, .int .i64 V, .int .i64 (s1 : Int), .int .i64 (s3 : Int)], .int .i64 0, .int .i64 0]) → OwnL r w' (.slice va k vq) (L.take k) → ReadPost r (readE L en) e w') := Lib.hid (fun w' e he ho => by
                          rw [hre, he]
                          exact ⟨_, ho, rfl⟩)
                        clear hre
                        go_wp2_with (first | ((with_reducible refine wpList_st5 (p := va) (n := k) (c := vq) (i1 := K) (i2 := V) (i3 := (s1 : Int)) (i4 := (s3 : Int)) HR19.out ?hx ?hy ?_); (case hx => rfl); (case hy => rfl)) | ((first | (with_reducible refine id (?_ : Exit.then _ _ Exit.ret _ _)) | (with_reducible refine id (?_ : Exit.inBlock _ _ Exit.ret _ _)) | (with_reducible refine id (?_ : bodyPost _ _ _ Exit.ret _ _))); (try simp only [Exit.inBlock, Exit.then]); refine rrep_ret _ _ r _ _ _ _ _ _ _ (HR19.out.set5 _ _ _ _ _) rfl rfl rfl ⟨HFIN.out _ _ rfl (ownL_base (own_s5 HO9.out (by omega) _ _ _ _ _) (by omega)), below_s5 HB9.out (Nat.le_refl _) _ _ _ _ _⟩))
                · have h2b : (d2 == [112, 105, 99, 107, 115]) = false := beq_eq_false_iff_ne.2 h2
                  have hrp := Lib.hid (hrn.out (numsQ_word HD.out (.inr h2)))
                  clear h2 h0
                  have HER := Lib.hid (readE_err (hrp.out))
                  go_wp2_with (first | ((with_reducible refine wpList_st5 (p := none) (n := 0) (c := 0) (i1 := 0) (i2 := 0) (i3 := 0) (i4 := 0) (HR16.out) ?hx ?hy ?_); (case hx => rfl); (case hy => rfl)) | ((first | (with_reducible refine id (?_ : Exit.then _ _ Exit.ret _ _)) | (with_reducible refine id (?_ : Exit.inBlock _ _ Exit.ret _ _)) | (with_reducible refine id (?_ : bodyPost _ _ _ Exit.ret _ _))); (try simp only [Exit.inBlock, Exit.then]); refine rrep_ret _ _ r _ _ _ _ _ _ _ ((HR16.out).set5 _ _ _ _ _) rfl rfl rfl ⟨readPost_err HER.out (by first | rfl | (simp; done) | (simp; omega) | omega), below_s5 (HB6.out) (Nat.le_refl _) _ _ _ _ _⟩))
              · have h0b : (d0 == [115, 116, 101, 112, 115]) = false := beq_eq_false_iff_ne.2 h0
                have hrp := Lib.hid (hrn.out (numsQ_word HD.out (.inl h0)))
                clear h0
                have HER := Lib.hid (readE_err (hrp.out))
                go_wp2_with (first | ((with_reducible refine wpList_st5 (p := none) (n := 0) (c := 0) (i1 := 0) (i2 := 0) (i3 := 0) (i4 := 0) (HR16.out) ?hx ?hy ?_); (case hx => rfl); (case hy => rfl)) | ((first | (with_reducible refine id (?_ : Exit.then _ _ Exit.ret _ _)) | (with_reducible refine id (?_ : Exit.inBlock _ _ Exit.ret _ _)) | (with_reducible refine id (?_ : bodyPost _ _ _ Exit.ret _ _))); (try simp only [Exit.inBlock, Exit.then]); refine rrep_ret _ _ r _ _ _ _ _ _ _ ((HR16.out).set5 _ _ _ _ _) rfl rfl rfl ⟨readPost_err HER.out (by first | rfl | (simp; done) | (simp; omega) | omega), below_s5 (HB6.out) (Nat.le_refl _) _ _ _ _ _⟩))
            · have hrp := Lib.hid (hrn.out (numsQ_len y (by rw [HD.out]; exact hd4)))
              obtain ⟨nd, hnd⟩ : ∃ nd, D.length = nd := ⟨_, rfl⟩
              rw [hnd] at hd4 ⊢
              have hd4b : ((nd : Int) == 4) = false := beq_eq_false_iff_ne.2 (by omega)
              have hd4c : ((nd : Int) != 4) = true := by rw [bne, hd4b]; rfl
              clear hd4 hnd
              have HER := Lib.hid (readE_err (hrp.out))
              go_wp2_with (first | ((with_reducible refine wpList_st5 (p := none) (n := 0) (c := 0) (i1 := 0) (i2 := 0) (i3 := 0) (i4 := 0) (HR16.out) ?hx ?hy ?_); (case hx => rfl); (case hy => rfl)) | ((first | (with_reducible refine id (?_ : Exit.then _ _ Exit.ret _ _)) | (with_reducible refine id (?_ : Exit.inBlock _ _ Exit.ret _ _)) | (with_reducible refine id (?_ : bodyPost _ _ _ Exit.ret _ _))); (try simp only [Exit.inBlock, Exit.then]); refine rrep_ret _ _ r _ _ _ _ _ _ _ ((HR16.out).set5 _ _ _ _ _) rfl rfl rfl ⟨readPost_err HER.out (by first | rfl | (simp; done) | (simp; omega) | omega), below_s5 (HB6.out) (Nat.le_refl _) _ _ _ _ _⟩))
          · have hge2 : (m : Int) ≤ (k2 : Int) := by omega
            have hwk3 : IntKind.i64.wrap ((k2 : Int) + 1) = ((k2 + 1 : Nat) : Int) := by rw [IntKind.wrap_i64]; omega
            have hrp : Hid (readP L en = .error (k2 + 1)) := Lib.hid (by
              rw [hk2]
              exact readP_short L en k (by rw [HM.out]; exact hltm) HA.out x Hx.out Ht.out _ _ HQ.out (by rw [HM.out]; omega))
            clear hk2
            have HER := Lib.hid (readE_err (hrp.out))
            go_wp2_with (first | ((with_reducible refine wpList_st5 (p := none) (n := 0) (c := 0) (i1 := 0) (i2 := 0) (i3 := 0) (i4 := 0) (HR15.out) ?hx ?hy ?_); (case hx => rfl); (case hy => rfl)) | ((first | (with_reducible refine id (?_ : Exit.then _ _ Exit.ret _ _)) | (with_reducible refine id (?_ : Exit.inBlock _ _ Exit.ret _ _)) | (with_reducible refine id (?_ : bodyPost _ _ _ Exit.ret _ _))); (try simp only [Exit.inBlock, Exit.then]); refine rrep_ret _ _ r _ _ _ _ _ _ _ ((HR15.out).set5 _ _ _ _ _) rfl rfl rfl ⟨readPost_err HER.out (by first | rfl | (simp; done) | (simp; omega) | omega), below_s5 (HB5.out) (Nat.le_refl _) _ _ _ _ _⟩))
    · have hge : (m : Int) ≤ (k : Int) := by omega
      have hkm := Lib.hid (show k = wholeN L en by rw [HM.out]; omega)
      have hR1 : Hid (RepZ wr r) := Lib.hid ((HG.out.block r (by omega) (fun e => by cases e; omega)).trans HRr.out)
      have hBr : Hid (Below r w wr) := Lib.hid (below_grow3 HB0.out HG.out (by omega) (by omega))
      have HER := Lib.hid (readE_err (readP_end L en k hkm.out HA.out))
      go_wp2_with (first | ((with_reducible refine wpList_st5 (p := none) (n := 0) (c := 0) (i1 := 0) (i2 := 0) (i3 := 0) (i4 := 0) (hR1.out) ?hx ?hy ?_); (case hx => rfl); (case hy => rfl)) | ((first | (with_reducible refine id (?_ : Exit.then _ _ Exit.ret _ _)) | (with_reducible refine id (?_ : Exit.inBlock _ _ Exit.ret _ _)) | (with_reducible refine id (?_ : bodyPost _ _ _ Exit.ret _ _))); (try simp only [Exit.inBlock, Exit.then]); refine rrep_ret _ _ r _ _ _ _ _ _ _ ((hR1.out).set5 _ _ _ _ _) rfl rfl rfl ⟨readPost_err HER.out (by first | rfl | (simp; done) | (simp; omega) | omega), below_s5 (hBr.out) (Nat.le_refl _) _ _ _ _ _⟩))
end Go.Proofs.YthfnjphmodcnoaaDoor
