/- The drawn region `r.Trace = append(r.Trace, l[i])` over a frame that is a variable (printed by gen_ek.py). -/
import Derived.Test.YthfnjphmodcnoaaDoorEi
namespace Go.Proofs.YthfnjphmodcnoaaDoor
open Go.RowKit
set_option linter.unusedSimpArgs false
set_option linter.unusedVariables false

structure AppOps (ops : Array Oper) (c P0 LS IS : Nat) (o0 o1 o2 o3 o4 o5 o6 o7 o8 o9 : Oper) : Prop where
  hs : Region.noSelect ops = true
  hz : ops.size = 10
  h0 : ops[0]? = some o0
  h1 : ops[1]? = some o1
  h2 : ops[2]? = some o2
  h3 : ops[3]? = some o3
  h4 : ops[4]? = some o4
  h5 : ops[5]? = some o5
  h6 : ops[6]? = some o6
  h7 : ops[7]? = some o7
  h8 : ops[8]? = some o8
  h9 : ops[9]? = some o9
  g0 : o0.guard = none
  g1 : o1.guard = none
  g2 : o2.guard = none
  g3 : o3.guard = none
  g4 : o4.guard = none
  g5 : o5.guard = none
  g6 : o6.guard = none
  g7 : o7.guard = none
  g8 : o8.guard = none
  g9 : o9.guard = none
  d0 : o0.dst = some (c)
  d1 : o1.dst = some (c + 1)
  d2 : o2.dst = some (c + 2)
  d3 : o3.dst = some (c + 3)
  d4 : o4.dst = some (c + 4)
  d5 : o5.dst = some (c + 5)
  d6 : o6.dst = some (c + 6)
  d7 : o7.dst = some (c + 7)
  d8 : o8.dst = some (c + 8)
  d9 : o9.dst = none
  p0 : o0.op = .fieldAddr 39 (.tmp P0) 0
  p1 : o1.op = .load 25 (.tmp c)
  p2 : o2.op = .move (.tmp LS)
  p3 : o3.op = .move (.tmp IS)
  p4 : o4.op = .indexAddr 25 (.tmp (c + 2)) (.tmp (c + 3))
  p5 : o5.op = .load 9 (.tmp (c + 4))
  p6 : o6.op = .buildSlice 25 1 #[(0, .tmp (c + 5))]
  p7 : o7.op = .call { callee := .builtin .append, args := #[.tmp (c + 1), .tmp (c + 6)], argTypes := #[25, 25] }
  p8 : o8.op = .fieldAddr 39 (.tmp P0) 0
  p9 : o9.op = .store 25 (.tmp (c + 8)) (.tmp (c + 7))
  fy0 : Region.free .any ops (Array.replicate 10 false) 0 = true
  cy0 : (Region.ready .any ops (Array.replicate 10 false)).contains 0 = true
  fy2 : Region.free .any ops ((Array.replicate 10 false).setIfInBounds 0 true) 2 = true
  cy2 : (Region.ready .any ops ((Array.replicate 10 false).setIfInBounds 0 true)).contains 2 = true
  fy3 : Region.free .any ops (((Array.replicate 10 false).setIfInBounds 0 true).setIfInBounds 2 true) 3 = true
  cy3 : (Region.ready .any ops (((Array.replicate 10 false).setIfInBounds 0 true).setIfInBounds 2 true)).contains 3 = true
  fy4 : Region.free .any ops ((((Array.replicate 10 false).setIfInBounds 0 true).setIfInBounds 2 true).setIfInBounds 3 true) 4 = true
  cy4 : (Region.ready .any ops ((((Array.replicate 10 false).setIfInBounds 0 true).setIfInBounds 2 true).setIfInBounds 3 true)).contains 4 = true
  fy5 : Region.free .any ops (((((Array.replicate 10 false).setIfInBounds 0 true).setIfInBounds 2 true).setIfInBounds 3 true).setIfInBounds 4 true) 5 = true
  cy5 : (Region.ready .any ops (((((Array.replicate 10 false).setIfInBounds 0 true).setIfInBounds 2 true).setIfInBounds 3 true).setIfInBounds 4 true)).contains 5 = true
  rrr : Region.ready .any ops ((((((Array.replicate 10 false).setIfInBounds 0 true).setIfInBounds 2 true).setIfInBounds 3 true).setIfInBounds 4 true).setIfInBounds 5 true) = [1, 6]
  rAs : Region.ready .any ops (((((((Array.replicate 10 false).setIfInBounds 0 true).setIfInBounds 2 true).setIfInBounds 3 true).setIfInBounds 4 true).setIfInBounds 5 true).setIfInBounds 1 true) = [6]
  rA7 : Region.ready .any ops ((((((((Array.replicate 10 false).setIfInBounds 0 true).setIfInBounds 2 true).setIfInBounds 3 true).setIfInBounds 4 true).setIfInBounds 5 true).setIfInBounds 1 true).setIfInBounds 6 true) = [7]
  fA8 : Region.free .any ops (((((((((Array.replicate 10 false).setIfInBounds 0 true).setIfInBounds 2 true).setIfInBounds 3 true).setIfInBounds 4 true).setIfInBounds 5 true).setIfInBounds 1 true).setIfInBounds 6 true).setIfInBounds 7 true) 8 = true
  cA8 : (Region.ready .any ops (((((((((Array.replicate 10 false).setIfInBounds 0 true).setIfInBounds 2 true).setIfInBounds 3 true).setIfInBounds 4 true).setIfInBounds 5 true).setIfInBounds 1 true).setIfInBounds 6 true).setIfInBounds 7 true)).contains 8 = true
  rA9 : Region.ready .any ops ((((((((((Array.replicate 10 false).setIfInBounds 0 true).setIfInBounds 2 true).setIfInBounds 3 true).setIfInBounds 4 true).setIfInBounds 5 true).setIfInBounds 1 true).setIfInBounds 6 true).setIfInBounds 7 true).setIfInBounds 8 true) = [9]
  rAz : Region.ready .any ops (((((((((((Array.replicate 10 false).setIfInBounds 0 true).setIfInBounds 2 true).setIfInBounds 3 true).setIfInBounds 4 true).setIfInBounds 5 true).setIfInBounds 1 true).setIfInBounds 6 true).setIfInBounds 7 true).setIfInBounds 8 true).setIfInBounds 9 true) = []
  rBs : Region.ready .any ops (((((((Array.replicate 10 false).setIfInBounds 0 true).setIfInBounds 2 true).setIfInBounds 3 true).setIfInBounds 4 true).setIfInBounds 5 true).setIfInBounds 6 true) = [1]
  rB7 : Region.ready .any ops ((((((((Array.replicate 10 false).setIfInBounds 0 true).setIfInBounds 2 true).setIfInBounds 3 true).setIfInBounds 4 true).setIfInBounds 5 true).setIfInBounds 6 true).setIfInBounds 1 true) = [7]
  fB8 : Region.free .any ops (((((((((Array.replicate 10 false).setIfInBounds 0 true).setIfInBounds 2 true).setIfInBounds 3 true).setIfInBounds 4 true).setIfInBounds 5 true).setIfInBounds 6 true).setIfInBounds 1 true).setIfInBounds 7 true) 8 = true
  cB8 : (Region.ready .any ops (((((((((Array.replicate 10 false).setIfInBounds 0 true).setIfInBounds 2 true).setIfInBounds 3 true).setIfInBounds 4 true).setIfInBounds 5 true).setIfInBounds 6 true).setIfInBounds 1 true).setIfInBounds 7 true)).contains 8 = true
  rB9 : Region.ready .any ops ((((((((((Array.replicate 10 false).setIfInBounds 0 true).setIfInBounds 2 true).setIfInBounds 3 true).setIfInBounds 4 true).setIfInBounds 5 true).setIfInBounds 6 true).setIfInBounds 1 true).setIfInBounds 7 true).setIfInBounds 8 true) = [9]
  rBz : Region.ready .any ops (((((((((((Array.replicate 10 false).setIfInBounds 0 true).setIfInBounds 2 true).setIfInBounds 3 true).setIfInBounds 4 true).setIfInBounds 5 true).setIfInBounds 6 true).setIfInBounds 1 true).setIfInBounds 7 true).setIfInBounds 8 true).setIfInBounds 9 true) = []
theorem wanted_none {o : Oper} {y : Nat → Option Bool} (h : o.guard = none) : Region.wanted o y = true := by unfold Region.wanted; rw [h]
set_option maxRecDepth 20000 in
set_option maxHeartbeats 1000000 in
theorem app_read {ops : Array Oper} {o0 o1 o2 o3 o4 o5 o6 o7 o8 o9 : Oper} {id : Nat} {Q : Exit → Act → World → Prop} {a : Act} {W0 W3 : World} {b lb n cap k : Nat} {x : List UInt8} {T : List (List UInt8)} {va : Option Addr} {vq : Nat} {v1 v2 v3 v4 : Value}
    (H : AppOps ops 52 2 5 8 o0 o1 o2 o3 o4 o5 o6 o7 o8 o9) (hsz : a.tmps.size = 193) (hp2 : a.eval (.tmp 2) = .pointer (some ⟨b, 0, none⟩)) (hp5 : a.eval (.tmp 5) = .slice (some ⟨lb, 0, none⟩) n cap) (hp8 : a.eval (.tmp 8) = .int .i64 (k : Int))
    (hlt : k < n) (hTl : T.length ≤ 1099511627776) (hG3 : W0.grownBy W3 (some b)) (hR3 : RepB W3 b (.slice va T.length vq) v1 v2 v3 v4) (hO3 : OwnL W0.heap.size W3 (.slice va T.length vq) T) (hbW : b < W0.heap.size) (hlb : lb < W0.heap.size) (hlbb : lb ≠ b) (hcx : W3.cell? ⟨lb, k, none⟩ = some (.string ⟨x.toArray⟩))
    (hPn : ∀ (c : _) (d : Nat) (v : Value) (a : Act) (w : World), Q (.panic c) (a.put (some d) v) w → Q (.panic c) a w)
    (hQ : ∀ (va' : Option Addr) (vq' : Nat) (w9 : World), W0.grownBy w9 (some b) → RepB w9 b (.slice va' (T ++ [x]).length vq') v1 v2 v3 v4 → OwnL W0.heap.size w9 (.slice va' (T ++ [x]).length vq') (T ++ [x]) → Q .normal (((((((((a.put (some 52) (.pointer (some ⟨b, 0, none⟩))).put (some 54) (.slice (some ⟨lb, 0, none⟩) n cap)).put (some 55) (.int .i64 (k : Int))).put (some 56) (.pointer (some ⟨lb, k, none⟩))).put (some 57) (.string ⟨x.toArray⟩)).put (some 53) (.slice va T.length vq)).put (some 58) (.slice (some ⟨W3.heap.size, 0, none⟩) 1 1)).put (some 59) (.slice va' (T ++ [x]).length vq')).put (some 60) (.pointer (some ⟨b, 0, none⟩))) w9) :
    (Code.region id ops true).wp Tryd.prog Q a W3 := by
  have hsz3 : W0.heap.size ≤ W3.heap.size := hG3.size
  have hownA : OwnL W0.heap.size (World.alloc W3.drew (.cells #[.string ⟨x.toArray⟩] 9)) (.slice va T.length vq) T := ownL_below hO3 ((Below.drew (Below.refl _ _)).alloc (Nat.le_refl _) _)
  have hnewA : (World.alloc W3.drew (.cells #[.string ⟨x.toArray⟩] 9)).cell? ⟨W3.heap.size, 0, none⟩ = some (.string ⟨x.toArray⟩) := World.cell?_alloc_new W3.drew #[.string ⟨x.toArray⟩] 9 0
  have hcD : W3.drew.cell? ⟨lb, k, none⟩ = some (.string ⟨x.toArray⟩) := (World.cell?_of_block (a := ⟨lb, k, none⟩) (show W3.drew.heap[lb]? = W3.heap[lb]? from rfl)).trans hcx
  have hcA : (World.alloc W3.drew (.cells #[.string ⟨x.toArray⟩] 9)).cell? ⟨lb, k, none⟩ = some (.string ⟨x.toArray⟩) := (World.cell?_of_block (a := ⟨lb, k, none⟩) (Below.heap_alloc W3.drew _ lb (Lib.lt_of_cell hcx))).trans hcD
  refine wp_region_held_drew (S := (fun w' => w'.cell? ⟨lb, k, none⟩ = some (.string ⟨x.toArray⟩))) (by kernel_rfl) hcD (fun hSc => ?_)
  rw [H.hz]
  refine h_yes 0 52 (v := .pointer (some ⟨b, 0, none⟩)) H.h0 H.d0 H.hs H.fy0 H.cy0 (fun _ _ _ h => by rw [H.d0] at h; exact hPn _ _ _ _ _ h) (wanted_none H.g0) hSc (fun w hSw => hy_fld H.p0 (by simp [ev_put, sz_put, hsz, hp2, hp5, hp8])) ?_
  refine h_yes 2 54 (v := .slice (some ⟨lb, 0, none⟩) n cap) H.h2 H.d2 H.hs H.fy2 H.cy2 (fun _ _ _ h => by rw [H.d2] at h; exact hPn _ _ _ _ _ h) (wanted_none H.g2) hSc (fun w hSw => hy_move (.inl H.p2) (by simp [ev_put, sz_put, hsz, hp2, hp5, hp8])) ?_
  refine h_yes 3 55 (v := .int .i64 (k : Int)) H.h3 H.d3 H.hs H.fy3 H.cy3 (fun _ _ _ h => by rw [H.d3] at h; exact hPn _ _ _ _ _ h) (wanted_none H.g3) hSc (fun w hSw => hy_move (.inl H.p3) (by simp [ev_put, sz_put, hsz, hp2, hp5, hp8])) ?_
  refine h_yes 4 56 (v := .pointer (some ⟨lb, k, none⟩)) H.h4 H.d4 H.hs H.fy4 H.cy4 (fun _ _ _ h => by rw [H.d4] at h; exact hPn _ _ _ _ _ h) (wanted_none H.g4) hSc (fun w hSw => hy_ix (n := n) (c := cap) H.p4 (by simp [ev_put, sz_put, hsz, hp2, hp5, hp8]) (by simp [ev_put, sz_put, hsz, hp2, hp5, hp8]) hlt) ?_
  refine h_yes 5 57 (v := .string ⟨x.toArray⟩) H.h5 H.d5 H.hs H.fy5 H.cy5 (fun _ _ _ h => by rw [H.d5] at h; exact hPn _ _ _ _ _ h) (wanted_none H.g5) hSc (fun w hSw => hy_strld H.p5 (by simp [ev_put, sz_put, hsz, hp2, hp5, hp8]) hSw) ?_
  refine wpAnyH_ready (rs := [1, 6]) H.rrr (by simp) (AllReadyH.cons H.h1 (fun K hK => ?_) (AllReadyH.cons H.h6 (fun K hK => ?_) AllReadyH.nil))
  · rw [if_pos (wanted_none H.g1)]
    refine wp_ldsl (some 53) H.d1 H.p1 (by simp [ev_put, sz_put, hsz, hp2, hp5, hp8]) (show W3.drew.cell? ⟨b, 0, none⟩ = some (.slice va T.length vq) from hR3.facts.c0) (hK.out _ _ hSc (fun hHeld => ?_))
    clear hK K
    refine h_step 6 H.h6 H.rAs (wanted_none H.g6) (fun K hK => ?_)
    refine wp_bs (some 58) H.d6 H.p6 (by simp [ev_put, sz_put, hsz, hp2, hp5, hp8]) (hK.out _ _ hcA (fun hHeld => ?_))
    clear hK K
    refine h_step 7 H.h7 H.rA7 (wanted_none H.g7) (fun K hK => ?_)
    refine wp_strapp' _ _ (some 59) H.d7 H.p7 W0.heap.size (.slice va T.length vq) T (by simp [ev_put, sz_put, hsz, hp2, hp5, hp8]) hownA W3.heap.size x (by simp [ev_put, sz_put, hsz, hp2, hp5, hp8]) hnewA hTl (by simp; omega) ?_
    intro v' w4 hown4 hgrow4
    obtain ⟨va', vq', rfl⟩ := ownL_slice hown4
    have hgw : World.grownBy W3 w4 (Value.ownBlock (.slice va T.length vq)) := (below_grown (Below.drew (Below.refl W3.heap.size W3)) _).trans ((World.grownBy_alloc W3.drew _ _).trans hgrow4)
    have hpb : ∀ k', Value.ownBlock (.slice va T.length vq) = some k' → W0.heap.size ≤ k' := fun k' hk' => (hownA.lt _ hk').1
    have hR4 : RepB w4 b (.slice va T.length vq) v1 v2 v3 v4 := (hgw.block b hR3.lt (fun e => by have := hpb b e.symm; omega)).trans hR3
    have hc4 : w4.cell? ⟨lb, k, none⟩ = some (.string ⟨x.toArray⟩) := (World.cell?_of_block (a := ⟨lb, k, none⟩) (hgw.block lb (Lib.lt_of_cell hcx) (fun e => by have := hpb lb e.symm; omega))).trans hcx
    refine hK.out _ _ hc4 (fun hHeld => ?_)
    clear hK K
    refine h_yes 8 60 (v := .pointer (some ⟨b, 0, none⟩)) H.h8 H.d8 H.hs H.fA8 H.cA8 (fun _ _ _ h => by rw [H.d8] at h; exact hPn _ _ _ _ _ h) (wanted_none H.g8) hHeld (fun w hSw => hy_fld H.p8 (by simp [ev_put, sz_put, hsz, hp2, hp5, hp8])) ?_
    obtain ⟨f0, -, -, -, -, g0, -, -, -, -⟩ := hR4.facts
    refine h_step 9 H.h9 H.rA9 (wanted_none H.g9) (fun K hK => ?_)
    refine wp_stsl (p := va') (n := (T ++ [x]).length) (c := vq') H.d9 H.p9 (by simp [ev_put, sz_put, hsz, hp2, hp5, hp8]) (by simp [ev_put, sz_put, hsz, hp2, hp5, hp8]) f0 g0 (hK.out _ _ ?_ (fun hHeld => ?_))
    · exact (World.cell?_of_block (a := ⟨lb, k, none⟩) (Below.heap_setCell w4 _ _ lb hlbb)).trans hc4
    clear hK K
    have hG5 := (own_below (rb := b) hG3 hgw hpb).trans (set_grown w4 ⟨b, 0, none⟩ (.slice va' (T ++ [x]).length vq'))
    have hO5 : OwnL W0.heap.size (w4.setCell ⟨b, 0, none⟩ (.slice va' (T ++ [x]).length vq')) (.slice va' (T ++ [x]).length vq') (T ++ [x]) := own_grown hown4 (set_grown w4 ⟨b, 0, none⟩ (.slice va' (T ++ [x]).length vq')) (fun k' e => by cases e; omega)
    exact wpAnyH_done H.rAz (hQ _ _ _ hG5 (hR4.set0 _) hO5) _
  · rw [if_pos (wanted_none H.g6)]
    refine wp_bs (some 58) H.d6 H.p6 (by simp [ev_put, sz_put, hsz, hp2, hp5, hp8]) (hK.out _ _ hcA (fun hHeld => ?_))
    clear hK K
    refine h_step 1 H.h1 H.rBs (wanted_none H.g1) (fun K hK => ?_)
    refine wp_ldsl (some 53) H.d1 H.p1 (by simp [ev_put, sz_put, hsz, hp2, hp5, hp8]) (show (World.alloc W3.drew (.cells #[.string ⟨x.toArray⟩] 9)).cell? ⟨b, 0, none⟩ = some (.slice va T.length vq) from (World.cell?_of_block (a := ⟨b, 0, none⟩) (Below.heap_alloc W3.drew _ b hR3.lt)).trans hR3.facts.c0) (hK.out _ _ hHeld (fun hHeld => ?_))
    clear hK K
    refine h_step 7 H.h7 H.rB7 (wanted_none H.g7) (fun K hK => ?_)
    refine wp_strapp' _ _ (some 59) H.d7 H.p7 W0.heap.size (.slice va T.length vq) T (by simp [ev_put, sz_put, hsz, hp2, hp5, hp8]) hownA W3.heap.size x (by simp [ev_put, sz_put, hsz, hp2, hp5, hp8]) hnewA hTl (by simp; omega) ?_
    intro v' w4 hown4 hgrow4
    obtain ⟨va', vq', rfl⟩ := ownL_slice hown4
    have hgw : World.grownBy W3 w4 (Value.ownBlock (.slice va T.length vq)) := (below_grown (Below.drew (Below.refl W3.heap.size W3)) _).trans ((World.grownBy_alloc W3.drew _ _).trans hgrow4)
    have hpb : ∀ k', Value.ownBlock (.slice va T.length vq) = some k' → W0.heap.size ≤ k' := fun k' hk' => (hownA.lt _ hk').1
    have hR4 : RepB w4 b (.slice va T.length vq) v1 v2 v3 v4 := (hgw.block b hR3.lt (fun e => by have := hpb b e.symm; omega)).trans hR3
    have hc4 : w4.cell? ⟨lb, k, none⟩ = some (.string ⟨x.toArray⟩) := (World.cell?_of_block (a := ⟨lb, k, none⟩) (hgw.block lb (Lib.lt_of_cell hcx) (fun e => by have := hpb lb e.symm; omega))).trans hcx
    refine hK.out _ _ hc4 (fun hHeld => ?_)
    clear hK K
    refine h_yes 8 60 (v := .pointer (some ⟨b, 0, none⟩)) H.h8 H.d8 H.hs H.fB8 H.cB8 (fun _ _ _ h => by rw [H.d8] at h; exact hPn _ _ _ _ _ h) (wanted_none H.g8) hHeld (fun w hSw => hy_fld H.p8 (by simp [ev_put, sz_put, hsz, hp2, hp5, hp8])) ?_
    obtain ⟨f0, -, -, -, -, g0, -, -, -, -⟩ := hR4.facts
    refine h_step 9 H.h9 H.rB9 (wanted_none H.g9) (fun K hK => ?_)
    refine wp_stsl (p := va') (n := (T ++ [x]).length) (c := vq') H.d9 H.p9 (by simp [ev_put, sz_put, hsz, hp2, hp5, hp8]) (by simp [ev_put, sz_put, hsz, hp2, hp5, hp8]) f0 g0 (hK.out _ _ ?_ (fun hHeld => ?_))
    · exact (World.cell?_of_block (a := ⟨lb, k, none⟩) (Below.heap_setCell w4 _ _ lb hlbb)).trans hc4
    clear hK K
    have hG5 := (own_below (rb := b) hG3 hgw hpb).trans (set_grown w4 ⟨b, 0, none⟩ (.slice va' (T ++ [x]).length vq'))
    have hO5 : OwnL W0.heap.size (w4.setCell ⟨b, 0, none⟩ (.slice va' (T ++ [x]).length vq')) (.slice va' (T ++ [x]).length vq') (T ++ [x]) := own_grown hown4 (set_grown w4 ⟨b, 0, none⟩ (.slice va' (T ++ [x]).length vq')) (fun k' e => by cases e; omega)
    have hq := hQ _ _ _ hG5 (hR4.set0 _) hO5
    rw [put_comm15 53 _ 58 _ _ (by decide)] at hq
    exact wpAnyH_done H.rBz hq _
set_option maxRecDepth 20000 in
set_option maxHeartbeats 1000000 in
theorem app_rep {ops : Array Oper} {o0 o1 o2 o3 o4 o5 o6 o7 o8 o9 : Oper} {id : Nat} {Q : Exit → Act → World → Prop} {a : Act} {W0 W3 : World} {b lb n cap k : Nat} {x : List UInt8} {T : List (List UInt8)} {va : Option Addr} {vq : Nat} {v1 v2 v3 v4 : Value}
    (H : AppOps ops 41 8 5 9 o0 o1 o2 o3 o4 o5 o6 o7 o8 o9) (hsz : a.tmps.size = 141) (hp2 : a.eval (.tmp 8) = .pointer (some ⟨b, 0, none⟩)) (hp5 : a.eval (.tmp 5) = .slice (some ⟨lb, 0, none⟩) n cap) (hp8 : a.eval (.tmp 9) = .int .i64 (k : Int))
    (hlt : k < n) (hTl : T.length ≤ 1099511627776) (hG3 : W0.grownBy W3 (some b)) (hR3 : RepB W3 b (.slice va T.length vq) v1 v2 v3 v4) (hO3 : OwnL W0.heap.size W3 (.slice va T.length vq) T) (hbW : b < W0.heap.size) (hlb : lb < W0.heap.size) (hlbb : lb ≠ b) (hcx : W3.cell? ⟨lb, k, none⟩ = some (.string ⟨x.toArray⟩))
    (hPn : ∀ (c : _) (d : Nat) (v : Value) (a : Act) (w : World), Q (.panic c) (a.put (some d) v) w → Q (.panic c) a w)
    (hQ : ∀ (va' : Option Addr) (vq' : Nat) (w9 : World), W0.grownBy w9 (some b) → RepB w9 b (.slice va' (T ++ [x]).length vq') v1 v2 v3 v4 → OwnL W0.heap.size w9 (.slice va' (T ++ [x]).length vq') (T ++ [x]) → Q .normal (((((((((a.put (some 41) (.pointer (some ⟨b, 0, none⟩))).put (some 43) (.slice (some ⟨lb, 0, none⟩) n cap)).put (some 44) (.int .i64 (k : Int))).put (some 45) (.pointer (some ⟨lb, k, none⟩))).put (some 46) (.string ⟨x.toArray⟩)).put (some 42) (.slice va T.length vq)).put (some 47) (.slice (some ⟨W3.heap.size, 0, none⟩) 1 1)).put (some 48) (.slice va' (T ++ [x]).length vq')).put (some 49) (.pointer (some ⟨b, 0, none⟩))) w9) :
    (Code.region id ops true).wp Tryd.prog Q a W3 := by
  have hsz3 : W0.heap.size ≤ W3.heap.size := hG3.size
  have hownA : OwnL W0.heap.size (World.alloc W3.drew (.cells #[.string ⟨x.toArray⟩] 9)) (.slice va T.length vq) T := ownL_below hO3 ((Below.drew (Below.refl _ _)).alloc (Nat.le_refl _) _)
  have hnewA : (World.alloc W3.drew (.cells #[.string ⟨x.toArray⟩] 9)).cell? ⟨W3.heap.size, 0, none⟩ = some (.string ⟨x.toArray⟩) := World.cell?_alloc_new W3.drew #[.string ⟨x.toArray⟩] 9 0
  have hcD : W3.drew.cell? ⟨lb, k, none⟩ = some (.string ⟨x.toArray⟩) := (World.cell?_of_block (a := ⟨lb, k, none⟩) (show W3.drew.heap[lb]? = W3.heap[lb]? from rfl)).trans hcx
  have hcA : (World.alloc W3.drew (.cells #[.string ⟨x.toArray⟩] 9)).cell? ⟨lb, k, none⟩ = some (.string ⟨x.toArray⟩) := (World.cell?_of_block (a := ⟨lb, k, none⟩) (Below.heap_alloc W3.drew _ lb (Lib.lt_of_cell hcx))).trans hcD
  refine wp_region_held_drew (S := (fun w' => w'.cell? ⟨lb, k, none⟩ = some (.string ⟨x.toArray⟩))) (by kernel_rfl) hcD (fun hSc => ?_)
  rw [H.hz]
  refine h_yes 0 41 (v := .pointer (some ⟨b, 0, none⟩)) H.h0 H.d0 H.hs H.fy0 H.cy0 (fun _ _ _ h => by rw [H.d0] at h; exact hPn _ _ _ _ _ h) (wanted_none H.g0) hSc (fun w hSw => hy_fld H.p0 (by simp [ev_put, sz_put, hsz, hp2, hp5, hp8])) ?_
  refine h_yes 2 43 (v := .slice (some ⟨lb, 0, none⟩) n cap) H.h2 H.d2 H.hs H.fy2 H.cy2 (fun _ _ _ h => by rw [H.d2] at h; exact hPn _ _ _ _ _ h) (wanted_none H.g2) hSc (fun w hSw => hy_move (.inl H.p2) (by simp [ev_put, sz_put, hsz, hp2, hp5, hp8])) ?_
  refine h_yes 3 44 (v := .int .i64 (k : Int)) H.h3 H.d3 H.hs H.fy3 H.cy3 (fun _ _ _ h => by rw [H.d3] at h; exact hPn _ _ _ _ _ h) (wanted_none H.g3) hSc (fun w hSw => hy_move (.inl H.p3) (by simp [ev_put, sz_put, hsz, hp2, hp5, hp8])) ?_
  refine h_yes 4 45 (v := .pointer (some ⟨lb, k, none⟩)) H.h4 H.d4 H.hs H.fy4 H.cy4 (fun _ _ _ h => by rw [H.d4] at h; exact hPn _ _ _ _ _ h) (wanted_none H.g4) hSc (fun w hSw => hy_ix (n := n) (c := cap) H.p4 (by simp [ev_put, sz_put, hsz, hp2, hp5, hp8]) (by simp [ev_put, sz_put, hsz, hp2, hp5, hp8]) hlt) ?_
  refine h_yes 5 46 (v := .string ⟨x.toArray⟩) H.h5 H.d5 H.hs H.fy5 H.cy5 (fun _ _ _ h => by rw [H.d5] at h; exact hPn _ _ _ _ _ h) (wanted_none H.g5) hSc (fun w hSw => hy_strld H.p5 (by simp [ev_put, sz_put, hsz, hp2, hp5, hp8]) hSw) ?_
  refine wpAnyH_ready (rs := [1, 6]) H.rrr (by simp) (AllReadyH.cons H.h1 (fun K hK => ?_) (AllReadyH.cons H.h6 (fun K hK => ?_) AllReadyH.nil))
  · rw [if_pos (wanted_none H.g1)]
    refine wp_ldsl (some 42) H.d1 H.p1 (by simp [ev_put, sz_put, hsz, hp2, hp5, hp8]) (show W3.drew.cell? ⟨b, 0, none⟩ = some (.slice va T.length vq) from hR3.facts.c0) (hK.out _ _ hSc (fun hHeld => ?_))
    clear hK K
    refine h_step 6 H.h6 H.rAs (wanted_none H.g6) (fun K hK => ?_)
    refine wp_bs (some 47) H.d6 H.p6 (by simp [ev_put, sz_put, hsz, hp2, hp5, hp8]) (hK.out _ _ hcA (fun hHeld => ?_))
    clear hK K
    refine h_step 7 H.h7 H.rA7 (wanted_none H.g7) (fun K hK => ?_)
    refine wp_strapp' _ _ (some 48) H.d7 H.p7 W0.heap.size (.slice va T.length vq) T (by simp [ev_put, sz_put, hsz, hp2, hp5, hp8]) hownA W3.heap.size x (by simp [ev_put, sz_put, hsz, hp2, hp5, hp8]) hnewA hTl (by simp; omega) ?_
    intro v' w4 hown4 hgrow4
    obtain ⟨va', vq', rfl⟩ := ownL_slice hown4
    have hgw : World.grownBy W3 w4 (Value.ownBlock (.slice va T.length vq)) := (below_grown (Below.drew (Below.refl W3.heap.size W3)) _).trans ((World.grownBy_alloc W3.drew _ _).trans hgrow4)
    have hpb : ∀ k', Value.ownBlock (.slice va T.length vq) = some k' → W0.heap.size ≤ k' := fun k' hk' => (hownA.lt _ hk').1
    have hR4 : RepB w4 b (.slice va T.length vq) v1 v2 v3 v4 := (hgw.block b hR3.lt (fun e => by have := hpb b e.symm; omega)).trans hR3
    have hc4 : w4.cell? ⟨lb, k, none⟩ = some (.string ⟨x.toArray⟩) := (World.cell?_of_block (a := ⟨lb, k, none⟩) (hgw.block lb (Lib.lt_of_cell hcx) (fun e => by have := hpb lb e.symm; omega))).trans hcx
    refine hK.out _ _ hc4 (fun hHeld => ?_)
    clear hK K
    refine h_yes 8 49 (v := .pointer (some ⟨b, 0, none⟩)) H.h8 H.d8 H.hs H.fA8 H.cA8 (fun _ _ _ h => by rw [H.d8] at h; exact hPn _ _ _ _ _ h) (wanted_none H.g8) hHeld (fun w hSw => hy_fld H.p8 (by simp [ev_put, sz_put, hsz, hp2, hp5, hp8])) ?_
    obtain ⟨f0, -, -, -, -, g0, -, -, -, -⟩ := hR4.facts
    refine h_step 9 H.h9 H.rA9 (wanted_none H.g9) (fun K hK => ?_)
    refine wp_stsl (p := va') (n := (T ++ [x]).length) (c := vq') H.d9 H.p9 (by simp [ev_put, sz_put, hsz, hp2, hp5, hp8]) (by simp [ev_put, sz_put, hsz, hp2, hp5, hp8]) f0 g0 (hK.out _ _ ?_ (fun hHeld => ?_))
    · exact (World.cell?_of_block (a := ⟨lb, k, none⟩) (Below.heap_setCell w4 _ _ lb hlbb)).trans hc4
    clear hK K
    have hG5 := (own_below (rb := b) hG3 hgw hpb).trans (set_grown w4 ⟨b, 0, none⟩ (.slice va' (T ++ [x]).length vq'))
    have hO5 : OwnL W0.heap.size (w4.setCell ⟨b, 0, none⟩ (.slice va' (T ++ [x]).length vq')) (.slice va' (T ++ [x]).length vq') (T ++ [x]) := own_grown hown4 (set_grown w4 ⟨b, 0, none⟩ (.slice va' (T ++ [x]).length vq')) (fun k' e => by cases e; omega)
    exact wpAnyH_done H.rAz (hQ _ _ _ hG5 (hR4.set0 _) hO5) _
  · rw [if_pos (wanted_none H.g6)]
    refine wp_bs (some 47) H.d6 H.p6 (by simp [ev_put, sz_put, hsz, hp2, hp5, hp8]) (hK.out _ _ hcA (fun hHeld => ?_))
    clear hK K
    refine h_step 1 H.h1 H.rBs (wanted_none H.g1) (fun K hK => ?_)
    refine wp_ldsl (some 42) H.d1 H.p1 (by simp [ev_put, sz_put, hsz, hp2, hp5, hp8]) (show (World.alloc W3.drew (.cells #[.string ⟨x.toArray⟩] 9)).cell? ⟨b, 0, none⟩ = some (.slice va T.length vq) from (World.cell?_of_block (a := ⟨b, 0, none⟩) (Below.heap_alloc W3.drew _ b hR3.lt)).trans hR3.facts.c0) (hK.out _ _ hHeld (fun hHeld => ?_))
    clear hK K
    refine h_step 7 H.h7 H.rB7 (wanted_none H.g7) (fun K hK => ?_)
    refine wp_strapp' _ _ (some 48) H.d7 H.p7 W0.heap.size (.slice va T.length vq) T (by simp [ev_put, sz_put, hsz, hp2, hp5, hp8]) hownA W3.heap.size x (by simp [ev_put, sz_put, hsz, hp2, hp5, hp8]) hnewA hTl (by simp; omega) ?_
    intro v' w4 hown4 hgrow4
    obtain ⟨va', vq', rfl⟩ := ownL_slice hown4
    have hgw : World.grownBy W3 w4 (Value.ownBlock (.slice va T.length vq)) := (below_grown (Below.drew (Below.refl W3.heap.size W3)) _).trans ((World.grownBy_alloc W3.drew _ _).trans hgrow4)
    have hpb : ∀ k', Value.ownBlock (.slice va T.length vq) = some k' → W0.heap.size ≤ k' := fun k' hk' => (hownA.lt _ hk').1
    have hR4 : RepB w4 b (.slice va T.length vq) v1 v2 v3 v4 := (hgw.block b hR3.lt (fun e => by have := hpb b e.symm; omega)).trans hR3
    have hc4 : w4.cell? ⟨lb, k, none⟩ = some (.string ⟨x.toArray⟩) := (World.cell?_of_block (a := ⟨lb, k, none⟩) (hgw.block lb (Lib.lt_of_cell hcx) (fun e => by have := hpb lb e.symm; omega))).trans hcx
    refine hK.out _ _ hc4 (fun hHeld => ?_)
    clear hK K
    refine h_yes 8 49 (v := .pointer (some ⟨b, 0, none⟩)) H.h8 H.d8 H.hs H.fB8 H.cB8 (fun _ _ _ h => by rw [H.d8] at h; exact hPn _ _ _ _ _ h) (wanted_none H.g8) hHeld (fun w hSw => hy_fld H.p8 (by simp [ev_put, sz_put, hsz, hp2, hp5, hp8])) ?_
    obtain ⟨f0, -, -, -, -, g0, -, -, -, -⟩ := hR4.facts
    refine h_step 9 H.h9 H.rB9 (wanted_none H.g9) (fun K hK => ?_)
    refine wp_stsl (p := va') (n := (T ++ [x]).length) (c := vq') H.d9 H.p9 (by simp [ev_put, sz_put, hsz, hp2, hp5, hp8]) (by simp [ev_put, sz_put, hsz, hp2, hp5, hp8]) f0 g0 (hK.out _ _ ?_ (fun hHeld => ?_))
    · exact (World.cell?_of_block (a := ⟨lb, k, none⟩) (Below.heap_setCell w4 _ _ lb hlbb)).trans hc4
    clear hK K
    have hG5 := (own_below (rb := b) hG3 hgw hpb).trans (set_grown w4 ⟨b, 0, none⟩ (.slice va' (T ++ [x]).length vq'))
    have hO5 : OwnL W0.heap.size (w4.setCell ⟨b, 0, none⟩ (.slice va' (T ++ [x]).length vq')) (.slice va' (T ++ [x]).length vq') (T ++ [x]) := own_grown hown4 (set_grown w4 ⟨b, 0, none⟩ (.slice va' (T ++ [x]).length vq')) (fun k' e => by cases e; omega)
    have hq := hQ _ _ _ hG5 (hR4.set0 _) hO5
    rw [put_comm15 42 _ 47 _ _ (by decide)] at hq
    exact wpAnyH_done H.rBz hq _
end Go.Proofs.YthfnjphmodcnoaaDoor
