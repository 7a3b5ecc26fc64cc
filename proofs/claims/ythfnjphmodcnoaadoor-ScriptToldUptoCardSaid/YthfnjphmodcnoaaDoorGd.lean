/- The drawn region `r.Trace = append(r.Trace, l[i])` over a frame that is a variable (printed by gen_ek.py). A report's five cells, stored and loaded as a whole: laws that the walk takes in one step. The walk of script.Read. The walk of the reference's Report. Contracts of the reference's SameLists and SameReport at what is the same. The walk of ScriptReports. -/
import Derived.Test.YthfnjphmodcnoaaDoorEi
import Derived.Test.YthfnjphmodcnoaaDoorEl
import Derived.Test.YthfnjphmodcnoaaDoorBq
import Derived.Test.YthfnjphmodcnoaaDoorBd
namespace Go.Proofs.YthfnjphmodcnoaaDoor
open Go.RowKit
set_option linter.unusedSimpArgs false
set_option linter.unusedVariables false

structure AppOps (ops : Array Oper) (c P0 LS IS : Nat) (o0 o1 o2 o3 o4 o5 o6 o7 o8 o9 : Oper) : Prop where
  hs : Region.noSelect ops = true
  hz : ops.size = 10
  h0 : ops[0]? = some o0
  h1 : ops[1]? = some o1
  h2 : ops[2]? = some o2
  h3 : ops[3]? = some o3
  h4 : ops[4]? = some o4
  h5 : ops[5]? = some o5
  h6 : ops[6]? = some o6
  h7 : ops[7]? = some o7
  h8 : ops[8]? = some o8
  h9 : ops[9]? = some o9
  g0 : o0.guard = none
  g1 : o1.guard = none
  g2 : o2.guard = none
  g3 : o3.guard = none
  g4 : o4.guard = none
  g5 : o5.guard = none
  g6 : o6.guard = none
  g7 : o7.guard = none
  g8 : o8.guard = none
  g9 : o9.guard = none
  d0 : o0.dst = some (c)
  d1 : o1.dst = some (c + 1)
  d2 : o2.dst = some (c + 2)
  d3 : o3.dst = some (c + 3)
  d4 : o4.dst = some (c + 4)
  d5 : o5.dst = some (c + 5)
  d6 : o6.dst = some (c + 6)
  d7 : o7.dst = some (c + 7)
  d8 : o8.dst = some (c + 8)
  d9 : o9.dst = none
  p0 : o0.op = .fieldAddr 39 (.tmp P0) 0
  p1 : o1.op = .load 25 (.tmp c)
  p2 : o2.op = .move (.tmp LS)
  p3 : o3.op = .move (.tmp IS)
  p4 : o4.op = .indexAddr 25 (.tmp (c + 2)) (.tmp (c + 3))
  p5 : o5.op = .load 9 (.tmp (c + 4))
  p6 : o6.op = .buildSlice 25 1 #[(0, .tmp (c + 5))]
  p7 : o7.op = .call { callee := .builtin .append, args := #[.tmp (c + 1), .tmp (c + 6)], argTypes := #[25, 25] }
  p8 : o8.op = .fieldAddr 39 (.tmp P0) 0
  p9 : o9.op = .store 25 (.tmp (c + 8)) (.tmp (c + 7))
  fy0 : Region.free .any ops (Array.replicate 10 false) 0 = true
  cy0 : (Region.ready .any ops (Array.replicate 10 false)).contains 0 = true
  fy2 : Region.free .any ops ((Array.replicate 10 false).setIfInBounds 0 true) 2 = true
  cy2 : (Region.ready .any ops ((Array.replicate 10 false).setIfInBounds 0 true)).contains 2 = true
  fy3 : Region.free .any ops (((Array.replicate 10 false).setIfInBounds 0 true).setIfInBounds 2 true) 3 = true
  cy3 : (Region.ready .any ops (((Array.replicate 10 false).setIfInBounds 0 true).setIfInBounds 2 true)).contains 3 = true
  fy4 : Region.free .any ops ((((Array.replicate 10 false).setIfInBounds 0 true).setIfInBounds 2 true).setIfInBounds 3 true) 4 = true
  cy4 : (Region.ready .any ops ((((Array.replicate 10 false).setIfInBounds 0 true).setIfInBounds 2 true).setIfInBounds 3 true)).contains 4 = true
  fy5 : Region.free .any ops (((((Array.replicate 10 false).setIfInBounds 0 true).setIfInBounds 2 true).setIfInBounds 3 true).setIfInBounds 4 true) 5 = true
  cy5 : (Region.ready .any ops (((((Array.replicate 10 false).setIfInBounds 0 true).setIfInBounds 2 true).setIfInBounds 3 true).setIfInBounds 4 true)).contains 5 = true
  rrr : Region.ready .any ops ((((((Array.replicate 10 false).setIfInBounds 0 true).setIfInBounds 2 true).setIfInBounds 3 true).setIfInBounds 4 true).setIfInBounds 5 true) = [1, 6]
  rAs : Region.ready .any ops (((((((Array.replicate 10 false).setIfInBounds 0 true).setIfInBounds 2 true).setIfInBounds 3 true).setIfInBounds 4 true).setIfInBounds 5 true).setIfInBounds 1 true) = [6]
  rA7 : Region.ready .any ops ((((((((Array.replicate 10 false).setIfInBounds 0 true).setIfInBounds 2 true).setIfInBounds 3 true).setIfInBounds 4 true).setIfInBounds 5 true).setIfInBounds 1 true).setIfInBounds 6 true) = [7]
  fA8 : Region.free .any ops (((((((((Array.replicate 10 false).setIfInBounds 0 true).setIfInBounds 2 true).setIfInBounds 3 true).setIfInBounds 4 true).setIfInBounds 5 true).setIfInBounds 1 true).setIfInBounds 6 true).setIfInBounds 7 true) 8 = true
  cA8 : (Region.ready .any ops (((((((((Array.replicate 10 false).setIfInBounds 0 true).setIfInBounds 2 true).setIfInBounds 3 true).setIfInBounds 4 true).setIfInBounds 5 true).setIfInBounds 1 true).setIfInBounds 6 true).setIfInBounds 7 true)).contains 8 = true
  rA9 : Region.ready .any ops ((((((((((Array.replicate 10 false).setIfInBounds 0 true).setIfInBounds 2 true).setIfInBounds 3 true).setIfInBounds 4 true).setIfInBounds 5 true).setIfInBounds 1 true).setIfInBounds 6 true).setIfInBounds 7 true).setIfInBounds 8 true) = [9]
  rAz : Region.ready .any ops (((((((((((Array.replicate 10 false).setIfInBounds 0 true).setIfInBounds 2 true).setIfInBounds 3 true).setIfInBounds 4 true).setIfInBounds 5 true).setIfInBounds 1 true).setIfInBounds 6 true).setIfInBounds 7 true).setIfInBounds 8 true).setIfInBounds 9 true) = []
  rBs : Region.ready .any ops (((((((Array.replicate 10 false).setIfInBounds 0 true).setIfInBounds 2 true).setIfInBounds 3 true).setIfInBounds 4 true).setIfInBounds 5 true).setIfInBounds 6 true) = [1]
  rB7 : Region.ready .any ops ((((((((Array.replicate 10 false).setIfInBounds 0 true).setIfInBounds 2 true).setIfInBounds 3 true).setIfInBounds 4 true).setIfInBounds 5 true).setIfInBounds 6 true).setIfInBounds 1 true) = [7]
  fB8 : Region.free .any ops (((((((((Array.replicate 10 false).setIfInBounds 0 true).setIfInBounds 2 true).setIfInBounds 3 true).setIfInBounds 4 true).setIfInBounds 5 true).setIfInBounds 6 true).setIfInBounds 1 true).setIfInBounds 7 true) 8 = true
  cB8 : (Region.ready .any ops (((((((((Array.replicate 10 false).setIfInBounds 0 true).setIfInBounds 2 true).setIfInBounds 3 true).setIfInBounds 4 true).setIfInBounds 5 true).setIfInBounds 6 true).setIfInBounds 1 true).setIfInBounds 7 true)).contains 8 = true
  rB9 : Region.ready .any ops ((((((((((Array.replicate 10 false).setIfInBounds 0 true).setIfInBounds 2 true).setIfInBounds 3 true).setIfInBounds 4 true).setIfInBounds 5 true).setIfInBounds 6 true).setIfInBounds 1 true).setIfInBounds 7 true).setIfInBounds 8 true) = [9]
  rBz : Region.ready .any ops (((((((((((Array.replicate 10 false).setIfInBounds 0 true).setIfInBounds 2 true).setIfInBounds 3 true).setIfInBounds 4 true).setIfInBounds 5 true).setIfInBounds 6 true).setIfInBounds 1 true).setIfInBounds 7 true).setIfInBounds 8 true).setIfInBounds 9 true) = []
theorem wanted_none {o : Oper} {y : Nat → Option Bool} (h : o.guard = none) : Region.wanted o y = true := by unfold Region.wanted; rw [h]
set_option maxRecDepth 20000 in
set_option maxHeartbeats 1000000 in
theorem app_read {ops : Array Oper} {o0 o1 o2 o3 o4 o5 o6 o7 o8 o9 : Oper} {id : Nat} {Q : Exit → Act → World → Prop} {a : Act} {W0 W3 : World} {b lb n cap k : Nat} {x : List UInt8} {T : List (List UInt8)} {va : Option Addr} {vq : Nat} {v1 v2 v3 v4 : Value}
    (H : AppOps ops 52 2 5 8 o0 o1 o2 o3 o4 o5 o6 o7 o8 o9) (hsz : a.tmps.size = 193) (hp2 : a.eval (.tmp 2) = .pointer (some ⟨b, 0, none⟩)) (hp5 : a.eval (.tmp 5) = .slice (some ⟨lb, 0, none⟩) n cap) (hp8 : a.eval (.tmp 8) = .int .i64 (k : Int))
    (hlt : k < n) (hTl : T.length ≤ 1099511627776) (hG3 : W0.grownBy W3 (some b)) (hR3 : RepB W3 b (.slice va T.length vq) v1 v2 v3 v4) (hO3 : OwnL W0.heap.size W3 (.slice va T.length vq) T) (hbW : b < W0.heap.size) (hlb : lb < W0.heap.size) (hlbb : lb ≠ b) (hcx : W3.cell? ⟨lb, k, none⟩ = some (.string ⟨x.toArray⟩))
    (hPn : ∀ (c : _) (d : Nat) (v : Value) (a : Act) (w : World), Q (.panic c) (a.put (some d) v) w → Q (.panic c) a w)
    (hQ : ∀ (va' : Option Addr) (vq' : Nat) (w9 : World), W0.grownBy w9 (some b) → RepB w9 b (.slice va' (T ++ [x]).length vq') v1 v2 v3 v4 → OwnL W0.heap.size w9 (.slice va' (T ++ [x]).length vq') (T ++ [x]) → Q .normal (((((((((a.put (some 52) (.pointer (some ⟨b, 0, none⟩))).put (some 54) (.slice (some ⟨lb, 0, none⟩) n cap)).put (some 55) (.int .i64 (k : Int))).put (some 56) (.pointer (some ⟨lb, k, none⟩))).put (some 57) (.string ⟨x.toArray⟩)).put (some 53) (.slice va T.length vq)).put (some 58) (.slice (some ⟨W3.heap.size, 0, none⟩) 1 1)).put (some 59) (.slice va' (T ++ [x]).length vq')).put (some 60) (.pointer (some ⟨b, 0, none⟩))) w9) :
    (Code.region id ops true).wp Tryd.prog Q a W3 := by
  have hsz3 : W0.heap.size ≤ W3.heap.size := hG3.size
  have hownA : OwnL W0.heap.size (World.alloc W3.drew (.cells #[.string ⟨x.toArray⟩] 9)) (.slice va T.length vq) T := ownL_below hO3 ((Below.drew (Below.refl _ _)).alloc (Nat.le_refl _) _)
  have hnewA : (World.alloc W3.drew (.cells #[.string ⟨x.toArray⟩] 9)).cell? ⟨W3.heap.size, 0, none⟩ = some (.string ⟨x.toArray⟩) := World.cell?_alloc_new W3.drew #[.string ⟨x.toArray⟩] 9 0
  have hcD : W3.drew.cell? ⟨lb, k, none⟩ = some (.string ⟨x.toArray⟩) := (World.cell?_of_block (a := ⟨lb, k, none⟩) (show W3.drew.heap[lb]? = W3.heap[lb]? from rfl)).trans hcx
  have hcA : (World.alloc W3.drew (.cells #[.string ⟨x.toArray⟩] 9)).cell? ⟨lb, k, none⟩ = some (.string ⟨x.toArray⟩) := (World.cell?_of_block (a := ⟨lb, k, none⟩) (Below.heap_alloc W3.drew _ lb (Lib.lt_of_cell hcx))).trans hcD
  refine wp_region_held_drew (S := (fun w' => w'.cell? ⟨lb, k, none⟩ = some (.string ⟨x.toArray⟩))) (by kernel_rfl) hcD (fun hSc => ?_)
  rw [H.hz]
  refine h_yes 0 52 (v := .pointer (some ⟨b, 0, none⟩)) H.h0 H.d0 H.hs H.fy0 H.cy0 (fun _ _ _ h => by rw [H.d0] at h; exact hPn _ _ _ _ _ h) (wanted_none H.g0) hSc (fun w hSw => hy_fld H.p0 (by simp [ev_put, sz_put, hsz, hp2, hp5, hp8])) ?_
  refine h_yes 2 54 (v := .slice (some ⟨lb, 0, none⟩) n cap) H.h2 H.d2 H.hs H.fy2 H.cy2 (fun _ _ _ h => by rw [H.d2] at h; exact hPn _ _ _ _ _ h) (wanted_none H.g2) hSc (fun w hSw => hy_move (.inl H.p2) (by simp [ev_put, sz_put, hsz, hp2, hp5, hp8])) ?_
  refine h_yes 3 55 (v := .int .i64 (k : Int)) H.h3 H.d3 H.hs H.fy3 H.cy3 (fun _ _ _ h => by rw [H.d3] at h; exact hPn _ _ _ _ _ h) (wanted_none H.g3) hSc (fun w hSw => hy_move (.inl H.p3) (by simp [ev_put, sz_put, hsz, hp2, hp5, hp8])) ?_
  refine h_yes 4 56 (v := .pointer (some ⟨lb, k, none⟩)) H.h4 H.d4 H.hs H.fy4 H.cy4 (fun _ _ _ h => by rw [H.d4] at h; exact hPn _ _ _ _ _ h) (wanted_none H.g4) hSc (fun w hSw => hy_ix (n := n) (c := cap) H.p4 (by simp [ev_put, sz_put, hsz, hp2, hp5, hp8]) (by simp [ev_put, sz_put, hsz, hp2, hp5, hp8]) hlt) ?_
  refine h_yes 5 57 (v := .string ⟨x.toArray⟩) H.h5 H.d5 H.hs H.fy5 H.cy5 (fun _ _ _ h => by rw [H.d5] at h; exact hPn _ _ _ _ _ h) (wanted_none H.g5) hSc (fun w hSw => hy_strld H.p5 (by simp [ev_put, sz_put, hsz, hp2, hp5, hp8]) hSw) ?_
  refine wpAnyH_ready (rs := [1, 6]) H.rrr (by simp) (AllReadyH.cons H.h1 (fun K hK => ?_) (AllReadyH.cons H.h6 (fun K hK => ?_) AllReadyH.nil))
  · rw [if_pos (wanted_none H.g1)]
    refine wp_ldsl (some 53) H.d1 H.p1 (by simp [ev_put, sz_put, hsz, hp2, hp5, hp8]) (show W3.drew.cell? ⟨b, 0, none⟩ = some (.slice va T.length vq) from hR3.facts.c0) (hK.out _ _ hSc (fun hHeld => ?_))
    clear hK K
    refine h_step 6 H.h6 H.rAs (wanted_none H.g6) (fun K hK => ?_)
    refine wp_bs (some 58) H.d6 H.p6 (by simp [ev_put, sz_put, hsz, hp2, hp5, hp8]) (hK.out _ _ hcA (fun hHeld => ?_))
    clear hK K
    refine h_step 7 H.h7 H.rA7 (wanted_none H.g7) (fun K hK => ?_)
    refine wp_strapp' _ _ (some 59) H.d7 H.p7 W0.heap.size (.slice va T.length vq) T (by simp [ev_put, sz_put, hsz, hp2, hp5, hp8]) hownA W3.heap.size x (by simp [ev_put, sz_put, hsz, hp2, hp5, hp8]) hnewA hTl (by simp; omega) ?_
    intro v' w4 hown4 hgrow4
    obtain ⟨va', vq', rfl⟩ := ownL_slice hown4
    have hgw : World.grownBy W3 w4 (Value.ownBlock (.slice va T.length vq)) := (below_grown (Below.drew (Below.refl W3.heap.size W3)) _).trans ((World.grownBy_alloc W3.drew _ _).trans hgrow4)
    have hpb : ∀ k', Value.ownBlock (.slice va T.length vq) = some k' → W0.heap.size ≤ k' := fun k' hk' => (hownA.lt _ hk').1
    have hR4 : RepB w4 b (.slice va T.length vq) v1 v2 v3 v4 := (hgw.block b hR3.lt (fun e => by have := hpb b e.symm; omega)).trans hR3
    have hc4 : w4.cell? ⟨lb, k, none⟩ = some (.string ⟨x.toArray⟩) := (World.cell?_of_block (a := ⟨lb, k, none⟩) (hgw.block lb (Lib.lt_of_cell hcx) (fun e => by have := hpb lb e.symm; omega))).trans hcx
    refine hK.out _ _ hc4 (fun hHeld => ?_)
    clear hK K
    refine h_yes 8 60 (v := .pointer (some ⟨b, 0, none⟩)) H.h8 H.d8 H.hs H.fA8 H.cA8 (fun _ _ _ h => by rw [H.d8] at h; exact hPn _ _ _ _ _ h) (wanted_none H.g8) hHeld (fun w hSw => hy_fld H.p8 (by simp [ev_put, sz_put, hsz, hp2, hp5, hp8])) ?_
    obtain ⟨f0, -, -, -, -, g0, -, -, -, -⟩ := hR4.facts
    refine h_step 9 H.h9 H.rA9 (wanted_none H.g9) (fun K hK => ?_)
    refine wp_stsl (p := va') (n := (T ++ [x]).length) (c := vq') H.d9 H.p9 (by simp [ev_put, sz_put, hsz, hp2, hp5, hp8]) (by simp [ev_put, sz_put, hsz, hp2, hp5, hp8]) f0 g0 (hK.out _ _ ?_ (fun hHeld => ?_))
    · exact (World.cell?_of_block (a := ⟨lb, k, none⟩) (Below.heap_setCell w4 _ _ lb hlbb)).trans hc4
    clear hK K
    have hG5 := (own_below (rb := b) hG3 hgw hpb).trans (set_grown w4 ⟨b, 0, none⟩ (.slice va' (T ++ [x]).length vq'))
    have hO5 : OwnL W0.heap.size (w4.setCell ⟨b, 0, none⟩ (.slice va' (T ++ [x]).length vq')) (.slice va' (T ++ [x]).length vq') (T ++ [x]) := own_grown hown4 (set_grown w4 ⟨b, 0, none⟩ (.slice va' (T ++ [x]).length vq')) (fun k' e => by cases e; omega)
    exact wpAnyH_done H.rAz (hQ _ _ _ hG5 (hR4.set0 _) hO5) _
  · rw [if_pos (wanted_none H.g6)]
    refine wp_bs (some 58) H.d6 H.p6 (by simp [ev_put, sz_put, hsz, hp2, hp5, hp8]) (hK.out _ _ hcA (fun hHeld => ?_))
    clear hK K
    refine h_step 1 H.h1 H.rBs (wanted_none H.g1) (fun K hK => ?_)
    refine wp_ldsl (some 53) H.d1 H.p1 (by simp [ev_put, sz_put, hsz, hp2, hp5, hp8]) (show (World.alloc W3.drew (.cells #[.string ⟨x.toArray⟩] 9)).cell? ⟨b, 0, none⟩ = some (.slice va T.length vq) from (World.cell?_of_block (a := ⟨b, 0, none⟩) (Below.heap_alloc W3.drew _ b hR3.lt)).trans hR3.facts.c0) (hK.out _ _ hHeld (fun hHeld => ?_))
    clear hK K
    refine h_step 7 H.h7 H.rB7 (wanted_none H.g7) (fun K hK => ?_)
    refine wp_strapp' _ _ (some 59) H.d7 H.p7 W0.heap.size (.slice va T.length vq) T (by simp [ev_put, sz_put, hsz, hp2, hp5, hp8]) hownA W3.heap.size x (by simp [ev_put, sz_put, hsz, hp2, hp5, hp8]) hnewA hTl (by simp; omega) ?_
    intro v' w4 hown4 hgrow4
    obtain ⟨va', vq', rfl⟩ := ownL_slice hown4
    have hgw : World.grownBy W3 w4 (Value.ownBlock (.slice va T.length vq)) := (below_grown (Below.drew (Below.refl W3.heap.size W3)) _).trans ((World.grownBy_alloc W3.drew _ _).trans hgrow4)
    have hpb : ∀ k', Value.ownBlock (.slice va T.length vq) = some k' → W0.heap.size ≤ k' := fun k' hk' => (hownA.lt _ hk').1
    have hR4 : RepB w4 b (.slice va T.length vq) v1 v2 v3 v4 := (hgw.block b hR3.lt (fun e => by have := hpb b e.symm; omega)).trans hR3
    have hc4 : w4.cell? ⟨lb, k, none⟩ = some (.string ⟨x.toArray⟩) := (World.cell?_of_block (a := ⟨lb, k, none⟩) (hgw.block lb (Lib.lt_of_cell hcx) (fun e => by have := hpb lb e.symm; omega))).trans hcx
    refine hK.out _ _ hc4 (fun hHeld => ?_)
    clear hK K
    refine h_yes 8 60 (v := .pointer (some ⟨b, 0, none⟩)) H.h8 H.d8 H.hs H.fB8 H.cB8 (fun _ _ _ h => by rw [H.d8] at h; exact hPn _ _ _ _ _ h) (wanted_none H.g8) hHeld (fun w hSw => hy_fld H.p8 (by simp [ev_put, sz_put, hsz, hp2, hp5, hp8])) ?_
    obtain ⟨f0, -, -, -, -, g0, -, -, -, -⟩ := hR4.facts
    refine h_step 9 H.h9 H.rB9 (wanted_none H.g9) (fun K hK => ?_)
    refine wp_stsl (p := va') (n := (T ++ [x]).length) (c := vq') H.d9 H.p9 (by simp [ev_put, sz_put, hsz, hp2, hp5, hp8]) (by simp [ev_put, sz_put, hsz, hp2, hp5, hp8]) f0 g0 (hK.out _ _ ?_ (fun hHeld => ?_))
    · exact (World.cell?_of_block (a := ⟨lb, k, none⟩) (Below.heap_setCell w4 _ _ lb hlbb)).trans hc4
    clear hK K
    have hG5 := (own_below (rb := b) hG3 hgw hpb).trans (set_grown w4 ⟨b, 0, none⟩ (.slice va' (T ++ [x]).length vq'))
    have hO5 : OwnL W0.heap.size (w4.setCell ⟨b, 0, none⟩ (.slice va' (T ++ [x]).length vq')) (.slice va' (T ++ [x]).length vq') (T ++ [x]) := own_grown hown4 (set_grown w4 ⟨b, 0, none⟩ (.slice va' (T ++ [x]).length vq')) (fun k' e => by cases e; omega)
    have hq := hQ _ _ _ hG5 (hR4.set0 _) hO5
    rw [put_comm15 53 _ 58 _ _ (by decide)] at hq
    exact wpAnyH_done H.rBz hq _
set_option maxRecDepth 20000 in
set_option maxHeartbeats 1000000 in
theorem app_rep {ops : Array Oper} {o0 o1 o2 o3 o4 o5 o6 o7 o8 o9 : Oper} {id : Nat} {Q : Exit → Act → World → Prop} {a : Act} {W0 W3 : World} {b lb n cap k : Nat} {x : List UInt8} {T : List (List UInt8)} {va : Option Addr} {vq : Nat} {v1 v2 v3 v4 : Value}
    (H : AppOps ops 41 8 5 9 o0 o1 o2 o3 o4 o5 o6 o7 o8 o9) (hsz : a.tmps.size = 141) (hp2 : a.eval (.tmp 8) = .pointer (some ⟨b, 0, none⟩)) (hp5 : a.eval (.tmp 5) = .slice (some ⟨lb, 0, none⟩) n cap) (hp8 : a.eval (.tmp 9) = .int .i64 (k : Int))
    (hlt : k < n) (hTl : T.length ≤ 1099511627776) (hG3 : W0.grownBy W3 (some b)) (hR3 : RepB W3 b (.slice va T.length vq) v1 v2 v3 v4) (hO3 : OwnL W0.heap.size W3 (.slice va T.length vq) T) (hbW : b < W0.heap.size) (hlb : lb < W0.heap.size) (hlbb : lb ≠ b) (hcx : W3.cell? ⟨lb, k, none⟩ = some (.string ⟨x.toArray⟩))
    (hPn : ∀ (c : _) (d : Nat) (v : Value) (a : Act) (w : World), Q (.panic c) (a.put (some d) v) w → Q (.panic c) a w)
    (hQ : ∀ (va' : Option Addr) (vq' : Nat) (w9 : World), W0.grownBy w9 (some b) → RepB w9 b (.slice va' (T ++ [x]).length vq') v1 v2 v3 v4 → OwnL W0.heap.size w9 (.slice va' (T ++ [x]).length vq') (T ++ [x]) → Q .normal (((((((((a.put (some 41) (.pointer (some ⟨b, 0, none⟩))).put (some 43) (.slice (some ⟨lb, 0, none⟩) n cap)).put (some 44) (.int .i64 (k : Int))).put (some 45) (.pointer (some ⟨lb, k, none⟩))).put (some 46) (.string ⟨x.toArray⟩)).put (some 42) (.slice va T.length vq)).put (some 47) (.slice (some ⟨W3.heap.size, 0, none⟩) 1 1)).put (some 48) (.slice va' (T ++ [x]).length vq')).put (some 49) (.pointer (some ⟨b, 0, none⟩))) w9) :
    (Code.region id ops true).wp Tryd.prog Q a W3 := by
  have hsz3 : W0.heap.size ≤ W3.heap.size := hG3.size
  have hownA : OwnL W0.heap.size (World.alloc W3.drew (.cells #[.string ⟨x.toArray⟩] 9)) (.slice va T.length vq) T := ownL_below hO3 ((Below.drew (Below.refl _ _)).alloc (Nat.le_refl _) _)
  have hnewA : (World.alloc W3.drew (.cells #[.string ⟨x.toArray⟩] 9)).cell? ⟨W3.heap.size, 0, none⟩ = some (.string ⟨x.toArray⟩) := World.cell?_alloc_new W3.drew #[.string ⟨x.toArray⟩] 9 0
  have hcD : W3.drew.cell? ⟨lb, k, none⟩ = some (.string ⟨x.toArray⟩) := (World.cell?_of_block (a := ⟨lb, k, none⟩) (show W3.drew.heap[lb]? = W3.heap[lb]? from rfl)).trans hcx
  have hcA : (World.alloc W3.drew (.cells #[.string ⟨x.toArray⟩] 9)).cell? ⟨lb, k, none⟩ = some (.string ⟨x.toArray⟩) := (World.cell?_of_block (a := ⟨lb, k, none⟩) (Below.heap_alloc W3.drew _ lb (Lib.lt_of_cell hcx))).trans hcD
  refine wp_region_held_drew (S := (fun w' => w'.cell? ⟨lb, k, none⟩ = some (.string ⟨x.toArray⟩))) (by kernel_rfl) hcD (fun hSc => ?_)
  rw [H.hz]
  refine h_yes 0 41 (v := .pointer (some ⟨b, 0, none⟩)) H.h0 H.d0 H.hs H.fy0 H.cy0 (fun _ _ _ h => by rw [H.d0] at h; exact hPn _ _ _ _ _ h) (wanted_none H.g0) hSc (fun w hSw => hy_fld H.p0 (by simp [ev_put, sz_put, hsz, hp2, hp5, hp8])) ?_
  refine h_yes 2 43 (v := .slice (some ⟨lb, 0, none⟩) n cap) H.h2 H.d2 H.hs H.fy2 H.cy2 (fun _ _ _ h => by rw [H.d2] at h; exact hPn _ _ _ _ _ h) (wanted_none H.g2) hSc (fun w hSw => hy_move (.inl H.p2) (by simp [ev_put, sz_put, hsz, hp2, hp5, hp8])) ?_
  refine h_yes 3 44 (v := .int .i64 (k : Int)) H.h3 H.d3 H.hs H.fy3 H.cy3 (fun _ _ _ h => by rw [H.d3] at h; exact hPn _ _ _ _ _ h) (wanted_none H.g3) hSc (fun w hSw => hy_move (.inl H.p3) (by simp [ev_put, sz_put, hsz, hp2, hp5, hp8])) ?_
  refine h_yes 4 45 (v := .pointer (some ⟨lb, k, none⟩)) H.h4 H.d4 H.hs H.fy4 H.cy4 (fun _ _ _ h => by rw [H.d4] at h; exact hPn _ _ _ _ _ h) (wanted_none H.g4) hSc (fun w hSw => hy_ix (n := n) (c := cap) H.p4 (by simp [ev_put, sz_put, hsz, hp2, hp5, hp8]) (by simp [ev_put, sz_put, hsz, hp2, hp5, hp8]) hlt) ?_
  refine h_yes 5 46 (v := .string ⟨x.toArray⟩) H.h5 H.d5 H.hs H.fy5 H.cy5 (fun _ _ _ h => by rw [H.d5] at h; exact hPn _ _ _ _ _ h) (wanted_none H.g5) hSc (fun w hSw => hy_strld H.p5 (by simp [ev_put, sz_put, hsz, hp2, hp5, hp8]) hSw) ?_
  refine wpAnyH_ready (rs := [1, 6]) H.rrr (by simp) (AllReadyH.cons H.h1 (fun K hK => ?_) (AllReadyH.cons H.h6 (fun K hK => ?_) AllReadyH.nil))
  · rw [if_pos (wanted_none H.g1)]
    refine wp_ldsl (some 42) H.d1 H.p1 (by simp [ev_put, sz_put, hsz, hp2, hp5, hp8]) (show W3.drew.cell? ⟨b, 0, none⟩ = some (.slice va T.length vq) from hR3.facts.c0) (hK.out _ _ hSc (fun hHeld => ?_))
    clear hK K
    refine h_step 6 H.h6 H.rAs (wanted_none H.g6) (fun K hK => ?_)
    refine wp_bs (some 47) H.d6 H.p6 (by simp [ev_put, sz_put, hsz, hp2, hp5, hp8]) (hK.out _ _ hcA (fun hHeld => ?_))
    clear hK K
    refine h_step 7 H.h7 H.rA7 (wanted_none H.g7) (fun K hK => ?_)
    refine wp_strapp' _ _ (some 48) H.d7 H.p7 W0.heap.size (.slice va T.length vq) T (by simp [ev_put, sz_put, hsz, hp2, hp5, hp8]) hownA W3.heap.size x (by simp [ev_put, sz_put, hsz, hp2, hp5, hp8]) hnewA hTl (by simp; omega) ?_
    intro v' w4 hown4 hgrow4
    obtain ⟨va', vq', rfl⟩ := ownL_slice hown4
    have hgw : World.grownBy W3 w4 (Value.ownBlock (.slice va T.length vq)) := (below_grown (Below.drew (Below.refl W3.heap.size W3)) _).trans ((World.grownBy_alloc W3.drew _ _).trans hgrow4)
    have hpb : ∀ k', Value.ownBlock (.slice va T.length vq) = some k' → W0.heap.size ≤ k' := fun k' hk' => (hownA.lt _ hk').1
    have hR4 : RepB w4 b (.slice va T.length vq) v1 v2 v3 v4 := (hgw.block b hR3.lt (fun e => by have := hpb b e.symm; omega)).trans hR3
    have hc4 : w4.cell? ⟨lb, k, none⟩ = some (.string ⟨x.toArray⟩) := (World.cell?_of_block (a := ⟨lb, k, none⟩) (hgw.block lb (Lib.lt_of_cell hcx) (fun e => by have := hpb lb e.symm; omega))).trans hcx
    refine hK.out _ _ hc4 (fun hHeld => ?_)
    clear hK K
    refine h_yes 8 49 (v := .pointer (some ⟨b, 0, none⟩)) H.h8 H.d8 H.hs H.fA8 H.cA8 (fun _ _ _ h => by rw [H.d8] at h; exact hPn _ _ _ _ _ h) (wanted_none H.g8) hHeld (fun w hSw => hy_fld H.p8 (by simp [ev_put, sz_put, hsz, hp2, hp5, hp8])) ?_
    obtain ⟨f0, -, -, -, -, g0, -, -, -, -⟩ := hR4.facts
    refine h_step 9 H.h9 H.rA9 (wanted_none H.g9) (fun K hK => ?_)
    refine wp_stsl (p := va') (n := (T ++ [x]).length) (c := vq') H.d9 H.p9 (by simp [ev_put, sz_put, hsz, hp2, hp5, hp8]) (by simp [ev_put, sz_put, hsz, hp2, hp5, hp8]) f0 g0 (hK.out _ _ ?_ (fun hHeld => ?_))
    · exact (World.cell?_of_block (a := ⟨lb, k, none⟩) (Below.heap_setCell w4 _ _ lb hlbb)).trans hc4
    clear hK K
    have hG5 := (own_below (rb := b) hG3 hgw hpb).trans (set_grown w4 ⟨b, 0, none⟩ (.slice va' (T ++ [x]).length vq'))
    have hO5 : OwnL W0.heap.size (w4.setCell ⟨b, 0, none⟩ (.slice va' (T ++ [x]).length vq')) (.slice va' (T ++ [x]).length vq') (T ++ [x]) := own_grown hown4 (set_grown w4 ⟨b, 0, none⟩ (.slice va' (T ++ [x]).length vq')) (fun k' e => by cases e; omega)
    exact wpAnyH_done H.rAz (hQ _ _ _ hG5 (hR4.set0 _) hO5) _
  · rw [if_pos (wanted_none H.g6)]
    refine wp_bs (some 47) H.d6 H.p6 (by simp [ev_put, sz_put, hsz, hp2, hp5, hp8]) (hK.out _ _ hcA (fun hHeld => ?_))
    clear hK K
    refine h_step 1 H.h1 H.rBs (wanted_none H.g1) (fun K hK => ?_)
    refine wp_ldsl (some 42) H.d1 H.p1 (by simp [ev_put, sz_put, hsz, hp2, hp5, hp8]) (show (World.alloc W3.drew (.cells #[.string ⟨x.toArray⟩] 9)).cell? ⟨b, 0, none⟩ = some (.slice va T.length vq) from (World.cell?_of_block (a := ⟨b, 0, none⟩) (Below.heap_alloc W3.drew _ b hR3.lt)).trans hR3.facts.c0) (hK.out _ _ hHeld (fun hHeld => ?_))
    clear hK K
    refine h_step 7 H.h7 H.rB7 (wanted_none H.g7) (fun K hK => ?_)
    refine wp_strapp' _ _ (some 48) H.d7 H.p7 W0.heap.size (.slice va T.length vq) T (by simp [ev_put, sz_put, hsz, hp2, hp5, hp8]) hownA W3.heap.size x (by simp [ev_put, sz_put, hsz, hp2, hp5, hp8]) hnewA hTl (by simp; omega) ?_
    intro v' w4 hown4 hgrow4
    obtain ⟨va', vq', rfl⟩ := ownL_slice hown4
    have hgw : World.grownBy W3 w4 (Value.ownBlock (.slice va T.length vq)) := (below_grown (Below.drew (Below.refl W3.heap.size W3)) _).trans ((World.grownBy_alloc W3.drew _ _).trans hgrow4)
    have hpb : ∀ k', Value.ownBlock (.slice va T.length vq) = some k' → W0.heap.size ≤ k' := fun k' hk' => (hownA.lt _ hk').1
    have hR4 : RepB w4 b (.slice va T.length vq) v1 v2 v3 v4 := (hgw.block b hR3.lt (fun e => by have := hpb b e.symm; omega)).trans hR3
    have hc4 : w4.cell? ⟨lb, k, none⟩ = some (.string ⟨x.toArray⟩) := (World.cell?_of_block (a := ⟨lb, k, none⟩) (hgw.block lb (Lib.lt_of_cell hcx) (fun e => by have := hpb lb e.symm; omega))).trans hcx
    refine hK.out _ _ hc4 (fun hHeld => ?_)
    clear hK K
    refine h_yes 8 49 (v := .pointer (some ⟨b, 0, none⟩)) H.h8 H.d8 H.hs H.fB8 H.cB8 (fun _ _ _ h => by rw [H.d8] at h; exact hPn _ _ _ _ _ h) (wanted_none H.g8) hHeld (fun w hSw => hy_fld H.p8 (by simp [ev_put, sz_put, hsz, hp2, hp5, hp8])) ?_
    obtain ⟨f0, -, -, -, -, g0, -, -, -, -⟩ := hR4.facts
    refine h_step 9 H.h9 H.rB9 (wanted_none H.g9) (fun K hK => ?_)
    refine wp_stsl (p := va') (n := (T ++ [x]).length) (c := vq') H.d9 H.p9 (by simp [ev_put, sz_put, hsz, hp2, hp5, hp8]) (by simp [ev_put, sz_put, hsz, hp2, hp5, hp8]) f0 g0 (hK.out _ _ ?_ (fun hHeld => ?_))
    · exact (World.cell?_of_block (a := ⟨lb, k, none⟩) (Below.heap_setCell w4 _ _ lb hlbb)).trans hc4
    clear hK K
    have hG5 := (own_below (rb := b) hG3 hgw hpb).trans (set_grown w4 ⟨b, 0, none⟩ (.slice va' (T ++ [x]).length vq'))
    have hO5 : OwnL W0.heap.size (w4.setCell ⟨b, 0, none⟩ (.slice va' (T ++ [x]).length vq')) (.slice va' (T ++ [x]).length vq') (T ++ [x]) := own_grown hown4 (set_grown w4 ⟨b, 0, none⟩ (.slice va' (T ++ [x]).length vq')) (fun k' e => by cases e; omega)
    have hq := hQ _ _ _ hG5 (hR4.set0 _) hO5
    rw [put_comm15 42 _ 47 _ _ (by decide)] at hq
    exact wpAnyH_done H.rBz hq _
end Go.Proofs.YthfnjphmodcnoaaDoor
namespace Go.Proofs.YthfnjphmodcnoaaDoor
open Go.RowKit
set_option linter.unusedSimpArgs false
set_option linter.unusedVariables false

def set5 (W : World) (b : Nat) (a0 a1 a2 a3 a4 : Value) : World := ((((W.setCell ⟨b, 0, none⟩ a0).setCell ⟨b, 1, none⟩ a1).setCell ⟨b, 2, none⟩ a2).setCell ⟨b, 3, none⟩ a3).setCell ⟨b, 4, none⟩ a4
section
variable {W : World} {b : Nat} {v0 v1 v2 v3 v4 : Value}
theorem RepB.set5 (h : RepB W b v0 v1 v2 v3 v4) (a0 a1 a2 a3 a4 : Value) : RepB (set5 W b a0 a1 a2 a3 a4) b a0 a1 a2 a3 a4 := h.set a0 a1 a2 a3 a4
theorem below_s5 {B : Nat} {w : World} (h : Below B w W) (hB : B ≤ b) (a0 a1 a2 a3 a4 : Value) : Below B w (set5 W b a0 a1 a2 a3 a4) := below_set5 h hB a0 a1 a2 a3 a4
theorem own_s5 {B : Nat} {v : Value} {L : List (List UInt8)} (h : OwnL B W v L) (hb : b < B) (a0 a1 a2 a3 a4 : Value) : OwnL B (set5 W b a0 a1 a2 a3 a4) v L :=
  have one : ∀ (W : World) (o : Nat) (a : Value), OwnL B W v L → OwnL B (W.setCell ⟨b, o, none⟩ a) v L := fun W o a h => own_grown h (set_grown W ⟨b, o, none⟩ a) (fun k' e => by cases e; exact hb)
  one _ _ _ (one _ _ _ (one _ _ _ (one _ _ _ (one _ _ _ h))))
end
set_option maxHeartbeats 1000000 in
theorem wpList_st5 {ops : Array Oper} {rest : List Oper} {ty : TypeId} {pos : String} {after : Array Edge} {x y : Nat} {a : Act} {Q : Exit → Act → World → Prop} {w : World} {b : Nat} {v0 v1 v2 v3 v4 : Value} {p : Option Addr} {n c : Nat} {i1 i2 i3 i4 : Int}
    (hR : RepB w b v0 v1 v2 v3 v4) (hx : a.eval (.tmp x) = .pointer (some ⟨b, 0, none⟩)) (hy : a.eval (.tmp y) = .agg #[.slice p n c, .int .i64 i1, .int .i64 i2, .int .i64 i3, .int .i64 i4])
    (h : wpList Tryd.prog ops Q rest a (set5 w b (.slice p n c) (.int .i64 i1) (.int .i64 i2) (.int .i64 i3) (.int .i64 i4))) : wpList Tryd.prog ops Q (⟨none, .store 39 (.tmp x) (.tmp y), ty, pos, after, none⟩ :: rest) a w := by
  refine wpList_plain rfl fun K hK => ?_
  obtain ⟨m0, m1, m2, m3, m4, n0, n1, n2, n3, n4⟩ := hR.facts
  unfold Oper.wp execOp
  simp only [hx, hy]
  go_simp
  exact hK _ _ h
set_option maxHeartbeats 1000000 in
theorem wpList_ld5 {ops : Array Oper} {rest : List Oper} {ty : TypeId} {pos : String} {after : Array Edge} {d x : Nat} {a : Act} {Q : Exit → Act → World → Prop} {w : World} {b : Nat} {v0 v1 v2 v3 v4 : Value}
    (hR : RepB w b v0 v1 v2 v3 v4) (hx : a.eval (.tmp x) = .pointer (some ⟨b, 0, none⟩))
    (h : wpList Tryd.prog ops Q rest (a.put (some d) (.agg #[v0, v1, v2, v3, v4])) w) : wpList Tryd.prog ops Q (⟨some d, .load 39 (.tmp x), ty, pos, after, none⟩ :: rest) a w := by
  refine wpList_plain rfl fun K hK => ?_
  obtain ⟨m0, m1, m2, m3, m4, n0, n1, n2, n3, n4⟩ := hR.facts
  unfold Oper.wp execOp
  simp only [hx]
  go_simp
  exact hK _ _ h
end Go.Proofs.YthfnjphmodcnoaaDoor
namespace Go.Proofs.YthfnjphmodcnoaaDoor
open Go.RowKit
set_option linter.unusedSimpArgs false
set_option linter.unusedVariables false

theorem readbad_c (i : Nat) (hi : i ≤ 1073741824) (w : World) : Calls Tryd.prog 26 #[.int .i64 (i : Int)] w fun e w' => e = .returned (.tuple #[.agg #[.slice none 0 0, .int .i64 0, .int .i64 0, .int .i64 0, .int .i64 0], .int .i64 ((i + 1 : Nat) : Int), .int .i64 5]) ∧ Below w.heap.size w w' := bad_c i hi w
set_option maxRecDepth 100000 in
set_option maxHeartbeats 2000000 in
theorem read_big (s : ByteArray) (w : World) (hs : 65536 < s.size) : Calls Tryd.prog 13 #[.string s] w fun e w' => ReadPost w.heap.size (readT (bl s)) e w' ∧ Below w.heap.size w w' := by
  have HT := Lib.hid (readT_big (s := bl s) (by rw [bl_len]; exact hs))
  have hi : (65536 : Int) < (s.size : Int) := by omega
  go_enter Tryd.func13, Tryd.ntmps13
  go_wp2
  refine read_ret _ _ w.heap.size _ _ _ _ _ _ _ (RepB.new w) rfl rfl rfl ⟨by rw [HT.out]; rfl, (Below.refl _ _).alloc (Nat.le_refl _) _⟩
theorem below_grow {B : Nat} {w W0 wr : World} (h : Below B w W0) (hg : W0.grownBy wr (some B)) (hB : B ≤ W0.heap.size) : Below B w wr :=
  h.trans ⟨hg.os, hg.tape, hg.output, hg.size, fun k hk => hg.block k (Nat.lt_of_lt_of_le hk hB) (fun e => by cases e; omega)⟩
set_option maxRecDepth 100000 in
set_option maxHeartbeats 8000000 in
theorem read_walk (s : ByteArray) (w : World) (h : Laid w) (hs : s.size ≤ 65536) : Calls Tryd.prog 13 #[.string s] w fun e w' => ReadPost w.heap.size (readE (linesP (bl s)).1 (linesP (bl s)).2) e w' ∧ Below w.heap.size w w' := by
  obtain ⟨i0, hi0, hz0, hz1, hz2⟩ := info_parts infoStr
  have HI0 := Lib.hid hi0
  have hi : ¬ (65536 : Int) < (s.size : Int) := by omega
  have hw9 := h.size
  obtain ⟨b, hb⟩ : ∃ b, w.heap.size = b := ⟨_, rfl⟩
  have hb9 : 9 ≤ b := by omega
  have HLd := Lib.hid h
  have hlm : ∀ z ∈ (linesP (bl s)).1, z.length ≤ 65536 := fun z hz => by
    have := lines_mem (bl s) z hz
    rw [bl_len] at this; omega
  have hln := lines_len (bl s)
  rw [bl_len] at hln
  have HB1 : Hid (Below b w (w.alloc (.cells #[.slice none 0 0, .int .i64 0, .int .i64 0, .int .i64 0, .int .i64 0] 39))) := Lib.hid (by rw [← hb]; exact (Below.refl _ _).alloc (Nat.le_refl _) _)
  have HR1 : Hid (RepB (w.alloc (.cells #[.slice none 0 0, .int .i64 0, .int .i64 0, .int .i64 0, .int .i64 0] 39)) b (.slice none 0 0) (.int .i64 0) (.int .i64 0) (.int .i64 0) (.int .i64 0)) := Lib.hid (by rw [← hb]; exact RepB.new w)
  have hz1' : (w.alloc (.cells #[.slice none 0 0, .int .i64 0, .int .i64 0, .int .i64 0, .int .i64 0] 39)).heap.size = b + 1 := by rw [← hb]; simp
  obtain ⟨Wa, hWa⟩ : ∃ Wa, Wa = w.alloc (.cells #[.slice none 0 0, .int .i64 0, .int .i64 0, .int .i64 0, .int .i64 0] 39) := ⟨_, rfl⟩
  rw [← hWa] at HB1 HR1 hz1'
  have HLa := Lib.hid (HLd.out.below (hb.symm ▸ HB1.out))
  have HLC := Lib.hid (lines_c2 s Wa HLa.out (by omega))
  obtain ⟨L, hL⟩ : ∃ L, (linesP (bl s)).1 = L := ⟨_, rfl⟩
  obtain ⟨en, hen⟩ : ∃ en, (linesP (bl s)).2 = en := ⟨_, rfl⟩
  rw [hL] at hlm hln HLC ⊢
  rw [hen] at HLC ⊢
  obtain ⟨n, hn⟩ : ∃ n, L.length = n := ⟨_, rfl⟩
  rw [hn] at hln HLC
  have HN := Lib.hid hn
  have HLM := Lib.hid hlm
  have HWa := Lib.hid hWa
  have Hb := Lib.hid hb
  clear h hi0 hz0 hL hen hn hlm hWa
  rw [hb]
  clear hb
  go_enter Tryd.func13, Tryd.ntmps13
  go_wp2_with fail
  rw [Hb.out, ← HWa.out]
  refine HLC.out.mono ?_
  rintro e_ W0 ⟨p, cap, rfl, hlin, hB0⟩
  have HLIN := Lib.hid hlin
  have HB0 := Lib.hid (HB1.out.trans (hB0.mono (by omega)))
  have HR0 := Lib.hid (HR1.out.below hB0)
  have hz0' := hB0.size
  have hbW0 : b ≤ W0.heap.size := by omega
  have hbW : b < W0.heap.size := HR0.out.lt
  clear hB0 hlin HLC
  obtain ⟨m, hm⟩ : ∃ m, wholeN L en = m := ⟨_, rfl⟩
  have hmt : en = true → m = n := fun e => by rw [← hm, e]; exact HN.out
  have hmf : en = false → m = n - 1 := fun e => by rw [← hm, e, ← HN.out]; rfl
  have hmn : m ≤ n := by cases en; have := hmf rfl; omega; have := hmt rfl; omega
  have HM := Lib.hid hm
  have HMT := Lib.hid hmt
  have HMF := Lib.hid hmf
  clear hm hmt hmf
  have HWN : Hid (n = 0 ∨ IntKind.i64.wrap ((n : Int) - 1) = ((n - 1 : Nat) : Int)) := Lib.hid (by
    by_cases h0 : n = 0
    · exact .inl h0
    · exact .inr (by rw [IntKind.wrap_i64]; omega))
  go_wp2_with fail
  go_loopw [8] (fun i wr => ∃ (k : Nat) (v : Value), i = .int .i64 k ∧ k ≤ m ∧ Hid (W0.grownBy wr (some b)) ∧ Hid (RepB wr b v (.int .i64 0) (.int .i64 0) (.int .i64 0) (.int .i64 0)) ∧ Hid (OwnL W0.heap.size wr v (L.take k)) ∧ Hid (∀ z ∈ L.take k, toldP z = true)) (fun i _ => n - (intOf i).toNat)
  case atStart => exact ⟨0, _, rfl, Nat.zero_le _, Lib.hid (World.grownBy.refl _ _), HR0, Lib.hid (ownL_nil _ _), Lib.hid (by simp)⟩
  case round =>
    obtain ⟨k, v, rfl, hk, HG, HR, HO, HA⟩ := hrel
    have hsz := HG.out.size
    have HLr := Lib.hid (laid_grown (HLd.out.below (Hb.out.symm ▸ HB0.out)) HG.out hb9)
    have HBr : Hid (Below b w wr) := Lib.hid (below_grow HB0.out HG.out hbW0)
    by_cases hlt : k < n
    · have hlti : (k : Int) < (n : Int) := by omega
      obtain ⟨x, hx⟩ : ∃ x, L[k]? = some x := ⟨_, List.getElem?_eq_getElem (by have := HN.out; omega)⟩
      obtain ⟨lb, rfl, hst, hlb, hlb2⟩ := lin_at HLIN.out hx
      have hlbb : lb ≠ b := by omega
      have hwb : wr.heap[lb]? = W0.heap[lb]? := HG.out.block lb hlb (fun e => hlbb (Option.some.inj e))
      have HST := Lib.hid (strs_same hst hwb)
      have hcx := HST.out k x hx
      rw [Nat.zero_add] at hcx
      have hx6 : x.length ≤ 65536 := HLM.out x (List.mem_of_getElem? hx)
      have hxb : bl ⟨x.toArray⟩ = x := by simp [bl]
      have hxs : (⟨x.toArray⟩ : ByteArray).size ≤ 1073741824 := by rw [← bl_len, hxb]; omega
      have hT := told_c ⟨x.toArray⟩ wr HLr.out hxs
      rw [hxb] at hT
      obtain ⟨t, ht⟩ : ∃ t, toldP x = t := ⟨_, rfl⟩
      rw [ht] at hT
      have HT := Lib.hid hT
      have Ht := Lib.hid ht
      have Hx := Lib.hid hx
      have Hxb := Lib.hid hxb
      have HXS := Lib.hid hxs
      have HLB := Lib.hid hlb
      clear hT ht hx hst hwb hxb hxs hlb
      have hn0 : IntKind.i64.wrap ((n : Int) - 1) = ((n - 1 : Nat) : Int) := HWN.out.resolve_left (by omega)
      go_wp2_with (go_at_call 27; refine HT.out.mono ?_)
      rintro e_ W3 ⟨rfl, hB3⟩
      have HG3 : Hid (W0.grownBy W3 (some b)) := Lib.hid (HG.out.trans (below_grown hB3 _))
      have HR3 := Lib.hid (HR.out.below hB3)
      have HO3 := Lib.hid (ownL_below HO.out hB3)
      have HL3 := Lib.hid (HLr.out.below hB3)
      have HBw3 : Hid (Below b w W3) := Lib.hid (below_grow HB0.out HG3.out hbW0)
      have hwb : W3.heap[lb]? = wr.heap[lb]? := hB3.block lb (Nat.lt_of_lt_of_le HLB.out hsz)
      have HST3 := Lib.hid (strs_same HST.out hwb)
      have hcx3 := HST3.out k x Hx.out
      rw [Nat.zero_add] at hcx3
      have hsz3 : W0.heap.size ≤ W3.heap.size := HG3.out.size
      clear hB3 hwb HT hcx HST HG HR HO HLr HBr
      cases t with
      | true =>
        by_cases hlast : k = n - 1
        · have hlb1 : ((k : Int) == ((n - 1 : Nat) : Int)) = true := by rw [hlast]; simp
          cases en with
          | false =>
            have hkm := Lib.hid (show k = wholeN L false by rw [HM.out, HMF.out rfl]; exact hlast)
            clear hlast
            have HER := Lib.hid (readE_err (readP_end L false k hkm.out HA.out))
            go_wp2_with (go_at_call 26; refine (readbad_c (k) (by omega) _).mono ?_)
            first | rintro e_ Wz rfl hBz | rintro e_ Wz ⟨rfl, hBz⟩
            have hRz := Lib.hid (RepB.below (HR3.out) hBz)
            have hBz2 := Lib.hid ((HBw3.out).trans (hBz.mono (Nat.le_of_lt (HR3.out).lt)))
            clear hBz
            go_wp2_with (first | ((with_reducible refine wpList_st5 (p := none) (n := 0) (c := 0) (i1 := 0) (i2 := 0) (i3 := 0) (i4 := 0) hRz.out ?hx ?hy ?_); (case hx => rfl); (case hy => rfl)) | ((first | (with_reducible refine id (?_ : Exit.then _ _ Exit.ret _ _)) | (with_reducible refine id (?_ : Exit.inBlock _ _ Exit.ret _ _)) | (with_reducible refine id (?_ : bodyPost _ _ _ Exit.ret _ _))); (try simp only [Exit.inBlock, Exit.then]); refine read_ret _ _ b _ _ _ _ _ _ _ (hRz.out.set5 _ _ _ _ _) rfl rfl rfl ⟨readPost_err HER.out (by first | rfl | (simp; done) | (simp; omega) | omega), below_s5 hBz2.out (Nat.le_refl _) _ _ _ _ _⟩))
          | true =>
            have hkm := Lib.hid (show k + 1 ≤ m by rw [HMT.out rfl]; omega)
            clear hlast
            go_upto_region 10 with fail
            obtain ⟨va, vq, rfl⟩ := ownL_slice HO3.out
            refine app_read (W0 := W0) (b := b) (lb := lb) (n := n) (cap := cap) (k := k) (x := x) (T := L.take k) (va := va) (vq := vq) ⟨by kernel_rfl, rfl, rfl, rfl, rfl, rfl, rfl, rfl, rfl, rfl, rfl, rfl, rfl, rfl, rfl, rfl, rfl, rfl, rfl, rfl, rfl, rfl, rfl, rfl, rfl, rfl, rfl, rfl, rfl, rfl, rfl, rfl, rfl, rfl, rfl, rfl, rfl, rfl, rfl, rfl, rfl, rfl, by kernel_rfl, by kernel_rfl, by kernel_rfl, by kernel_rfl, by kernel_rfl, by kernel_rfl, by kernel_rfl, by kernel_rfl, by kernel_rfl, by kernel_rfl, by kernel_rfl, by kernel_rfl, by kernel_rfl, by kernel_rfl, by kernel_rfl, by kernel_rfl, by kernel_rfl, by kernel_rfl, by kernel_rfl, by kernel_rfl, by kernel_rfl, by kernel_rfl, by kernel_rfl⟩ rfl rfl rfl rfl hlt (by rw [List.length_take]; omega) HG3.out HR3.out HO3.out hbW HLB.out hlbb hcx3 (fun _ _ _ _ _ h => h) (fun va' vq' w9 hG9 hR9 hO9 => ?_)
            have HG9 := Lib.hid hG9
            have HR9 := Lib.hid hR9
            have HO9 := Lib.hid hO9
            have HA9 : Hid (∀ z ∈ L.take (k + 1), toldP z = true) := Lib.hid (by
              rw [List.take_add_one, Hx.out]
              intro z hz
              rcases List.mem_append.1 hz with hz | hz
              · exact HA.out z hz
              · have : z = x := by simpa using hz
                rw [this]; exact Ht.out)
            have HTK := Lib.hid (show L.take (k + 1) = L.take k ++ [x] by rw [List.take_add_one, Hx.out]; rfl)
            clear hG9 hR9 hO9
            simp (config := { maxSteps := 10000000 }) only [Act.put, List.setIfInBounds_toArray, List.set_cons_zero, List.set_cons_succ]
            go_wp2
            exact ⟨⟨k + 1, _, by go_num, hkm.out, HG9, HR9, Lib.hid (by rw [HTK.out]; exact HO9.out), HA9⟩, by simp [intOf]; omega⟩
        · have hlb1 : ((k : Int) == ((n - 1 : Nat) : Int)) = false := beq_eq_false_iff_ne.2 (by omega)
          have hkm := Lib.hid (show k + 1 ≤ m by cases en; have := HMF.out rfl; omega; have := HMT.out rfl; omega)
          clear hlast
          go_upto_region 10 with fail
          obtain ⟨va, vq, rfl⟩ := ownL_slice HO3.out
          refine app_read (W0 := W0) (b := b) (lb := lb) (n := n) (cap := cap) (k := k) (x := x) (T := L.take k) (va := va) (vq := vq) ⟨by kernel_rfl, rfl, rfl, rfl, rfl, rfl, rfl, rfl, rfl, rfl, rfl, rfl, rfl, rfl, rfl, rfl, rfl, rfl, rfl, rfl, rfl, rfl, rfl, rfl, rfl, rfl, rfl, rfl, rfl, rfl, rfl, rfl, rfl, rfl, rfl, rfl, rfl, rfl, rfl, rfl, rfl, rfl, by kernel_rfl, by kernel_rfl, by kernel_rfl, by kernel_rfl, by kernel_rfl, by kernel_rfl, by kernel_rfl, by kernel_rfl, by kernel_rfl, by kernel_rfl, by kernel_rfl, by kernel_rfl, by kernel_rfl, by kernel_rfl, by kernel_rfl, by kernel_rfl, by kernel_rfl, by kernel_rfl, by kernel_rfl, by kernel_rfl, by kernel_rfl, by kernel_rfl, by kernel_rfl⟩ rfl rfl rfl rfl hlt (by rw [List.length_take]; omega) HG3.out HR3.out HO3.out hbW HLB.out hlbb hcx3 (fun _ _ _ _ _ h => h) (fun va' vq' w9 hG9 hR9 hO9 => ?_)
          have HG9 := Lib.hid hG9
          have HR9 := Lib.hid hR9
          have HO9 := Lib.hid hO9
          have HA9 : Hid (∀ z ∈ L.take (k + 1), toldP z = true) := Lib.hid (by
            rw [List.take_add_one, Hx.out]
            intro z hz
            rcases List.mem_append.1 hz with hz | hz
            · exact HA.out z hz
            · have : z = x := by simpa using hz
              rw [this]; exact Ht.out)
          have HTK := Lib.hid (show L.take (k + 1) = L.take k ++ [x] by rw [List.take_add_one, Hx.out]; rfl)
          clear hG9 hR9 hO9
          simp (config := { maxSteps := 10000000 }) only [Act.put, List.setIfInBounds_toArray, List.set_cons_zero, List.set_cons_succ]
          go_wp2
          exact ⟨⟨k + 1, _, by go_num, hkm.out, HG9, HR9, Lib.hid (by rw [HTK.out]; exact HO9.out), HA9⟩, by simp [intOf]; omega⟩
      | false =>
        have hE := ending_c ⟨x.toArray⟩ W3 HL3.out HXS.out
        rw [Hxb.out] at hE
        obtain ⟨q, hq⟩ : ∃ q, endQ x = q := ⟨_, rfl⟩
        rw [hq] at hE
        have HE := Lib.hid hE
        have HQ := Lib.hid hq
        clear hE hq
        go_wp2_with (go_at_call 28; refine HE.out.mono ?_)
        rintro e_ W4 ⟨⟨K, V, rfl, hKV⟩, hB4⟩
        have HKV := Lib.hid hKV
        have HR4 := HR3.out.below hB4
        obtain ⟨m0, m1, m2, m3, m4, n0, n1, n2, n3, n4⟩ := HR4.facts
        go_upto_region 15 with fail
        clear m0 m1 m2 m3 m4 n0 n1 n2 n3 n4
        have hR5 := (HR4.set1 (.int .i64 K)).set2 (.int .i64 V)
        have hG5 := ((HG3.out.trans (below_grown hB4 _)).trans (set_grown W4 ⟨b, 1, none⟩ (.int .i64 K))).trans (set_grown (W4.setCell ⟨b, 1, none⟩ (.int .i64 K)) ⟨b, 2, none⟩ (.int .i64 V))
        have hO5 : OwnL W0.heap.size ((W4.setCell ⟨b, 1, none⟩ (.int .i64 K)).setCell ⟨b, 2, none⟩ (.int .i64 V)) v (L.take k) := own_grown (own_grown (ownL_below HO3.out hB4) (set_grown W4 ⟨b, 1, none⟩ (.int .i64 K)) (fun k' e => by cases e; exact hbW)) (set_grown (W4.setCell ⟨b, 1, none⟩ (.int .i64 K)) ⟨b, 2, none⟩ (.int .i64 V)) (fun k' e => by cases e; exact hbW)
        obtain ⟨W5, hW5⟩ : ∃ W5, W5 = (W4.setCell ⟨b, 1, none⟩ (.int .i64 K)).setCell ⟨b, 2, none⟩ (.int .i64 V) := ⟨_, rfl⟩
        rw [← hW5] at hR5 hG5 hO5 ⊢
        have HR5 := Lib.hid hR5
        have HO5 := Lib.hid hO5
        have HL5 := Lib.hid (laid_grown (HLd.out.below (Hb.out.symm ▸ HB0.out)) hG5 hb9)
        have HB5 : Hid (Below b w W5) := Lib.hid (below_grow HB0.out hG5 hbW0)
        have HST5 := Lib.hid (strs_same HST3.out ((hG5.block lb HLB.out (fun e => hlbb (Option.some.inj e))).trans (HG3.out.block lb HLB.out (fun e => hlbb (Option.some.inj e))).symm))
        have hsz5 : W0.heap.size ≤ W5.heap.size := hG5.size
        clear hW5 hR5 hG5 hO5 HR4 hB4 hKV
        cases q with
        | none =>
          have hrp : Hid (readP L en = .error (k + 1)) := Lib.hid (readP_bad1 (by rw [HM.out]; exact hk) HA.out Hx.out Ht.out (.inl HQ.out))
          have HER := Lib.hid (readE_err (hrp.out))
          go_wp2_with (go_at_call 26; refine (readbad_c (k) (by omega) _).mono ?_)
          first | rintro e_ Wz rfl hBz | rintro e_ Wz ⟨rfl, hBz⟩
          have hRz := Lib.hid (RepB.below (HR5.out) hBz)
          have hBz2 := Lib.hid ((HB5.out).trans (hBz.mono (Nat.le_of_lt (HR5.out).lt)))
          clear hBz
          go_wp2_with (first | ((with_reducible refine wpList_st5 (p := none) (n := 0) (c := 0) (i1 := 0) (i2 := 0) (i3 := 0) (i4 := 0) hRz.out ?hx ?hy ?_); (case hx => rfl); (case hy => rfl)) | ((first | (with_reducible refine id (?_ : Exit.then _ _ Exit.ret _ _)) | (with_reducible refine id (?_ : Exit.inBlock _ _ Exit.ret _ _)) | (with_reducible refine id (?_ : bodyPost _ _ _ Exit.ret _ _))); (try simp only [Exit.inBlock, Exit.then]); refine read_ret _ _ b _ _ _ _ _ _ _ (hRz.out.set5 _ _ _ _ _) rfl rfl rfl ⟨readPost_err HER.out (by first | rfl | (simp; done) | (simp; omega) | omega), below_s5 hBz2.out (Nat.le_refl _) _ _ _ _ _⟩))
        | some kv =>
          obtain ⟨kk, vv⟩ := kv
          obtain ⟨rfl, rfl⟩ := HKV.out kk vv rfl
          by_cases hlast : k = n - 1
          · have hlb1 : ((k : Int) == ((n - 1 : Nat) : Int)) = true := by rw [hlast]; simp
            cases en with
            | false =>
              have hrp : Hid (readP L false = .error (k + 1)) := Lib.hid (readP_bad1 (by rw [HM.out]; exact hk) HA.out Hx.out Ht.out (.inr (by rw [HM.out, HMF.out rfl]; exact hlast)))
              clear hlast
              have HER := Lib.hid (readE_err (hrp.out))
              go_wp2_with (go_at_call 26; refine (readbad_c (k) (by omega) _).mono ?_)
              first | rintro e_ Wz rfl hBz | rintro e_ Wz ⟨rfl, hBz⟩
              have hRz := Lib.hid (RepB.below (HR5.out) hBz)
              have hBz2 := Lib.hid ((HB5.out).trans (hBz.mono (Nat.le_of_lt (HR5.out).lt)))
              clear hBz
              go_wp2_with (first | ((with_reducible refine wpList_st5 (p := none) (n := 0) (c := 0) (i1 := 0) (i2 := 0) (i3 := 0) (i4 := 0) hRz.out ?hx ?hy ?_); (case hx => rfl); (case hy => rfl)) | ((first | (with_reducible refine id (?_ : Exit.then _ _ Exit.ret _ _)) | (with_reducible refine id (?_ : Exit.inBlock _ _ Exit.ret _ _)) | (with_reducible refine id (?_ : bodyPost _ _ _ Exit.ret _ _))); (try simp only [Exit.inBlock, Exit.then]); refine read_ret _ _ b _ _ _ _ _ _ _ (hRz.out.set5 _ _ _ _ _) rfl rfl rfl ⟨readPost_err HER.out (by first | rfl | (simp; done) | (simp; omega) | omega), below_s5 hBz2.out (Nat.le_refl _) _ _ _ _ _⟩))
            | true =>
              obtain ⟨k2, hk2⟩ : ∃ k2, k2 = k + 1 := ⟨_, rfl⟩
              have hw2 : IntKind.i64.wrap ((k : Int) + 1) = (k2 : Int) := by rw [IntKind.wrap_i64]; omega
              have hge2 : (n : Int) ≤ (k2 : Int) := by omega
              have hk2n : k2 ≤ n := by omega
              have hrp : Hid (readP L true = .error (k2 + 1)) := Lib.hid (by
                rw [hk2]
                exact readP_short L true k (by rw [HM.out, HMT.out rfl]; exact hlt) HA.out x Hx.out Ht.out _ _ HQ.out (by rw [HM.out, HMT.out rfl]; omega))
              clear hlast hk2
              have HER := Lib.hid (readE_err (hrp.out))
              go_wp2_with (go_at_call 26; refine (readbad_c (k2) (by omega) _).mono ?_)
              first | rintro e_ Wz rfl hBz | rintro e_ Wz ⟨rfl, hBz⟩
              have hRz := Lib.hid (RepB.below (HR5.out) hBz)
              have hBz2 := Lib.hid ((HB5.out).trans (hBz.mono (Nat.le_of_lt (HR5.out).lt)))
              clear hBz
              go_wp2_with (first | ((with_reducible refine wpList_st5 (p := none) (n := 0) (c := 0) (i1 := 0) (i2 := 0) (i3 := 0) (i4 := 0) hRz.out ?hx ?hy ?_); (case hx => rfl); (case hy => rfl)) | ((first | (with_reducible refine id (?_ : Exit.then _ _ Exit.ret _ _)) | (with_reducible refine id (?_ : Exit.inBlock _ _ Exit.ret _ _)) | (with_reducible refine id (?_ : bodyPost _ _ _ Exit.ret _ _))); (try simp only [Exit.inBlock, Exit.then]); refine read_ret _ _ b _ _ _ _ _ _ _ (hRz.out.set5 _ _ _ _ _) rfl rfl rfl ⟨readPost_err HER.out (by first | rfl | (simp; done) | (simp; omega) | omega), below_s5 hBz2.out (Nat.le_refl _) _ _ _ _ _⟩))
          · have hlb1 : ((k : Int) == ((n - 1 : Nat) : Int)) = false := beq_eq_false_iff_ne.2 (by omega)
            obtain ⟨k2, hk2⟩ : ∃ k2, k2 = k + 1 := ⟨_, rfl⟩
            have hw2 : IntKind.i64.wrap ((k : Int) + 1) = (k2 : Int) := by rw [IntKind.wrap_i64]; omega
            have hlt2 : k2 < n := by omega
            have hlt2i : (k2 : Int) < (n : Int) := by omega
            have hkm : Hid (k < m) := Lib.hid (by cases en; have := HMF.out rfl; omega; have := HMT.out rfl; omega)
            obtain ⟨y, hy⟩ : ∃ y, L[k2]? = some y := ⟨_, List.getElem?_eq_getElem (by have := HN.out; omega)⟩
            have hcy := HST5.out k2 y hy
            rw [Nat.zero_add] at hcy
            have hy6 : y.length ≤ 65536 := HLM.out y (List.mem_of_getElem? hy)
            have hyb : bl ⟨y.toArray⟩ = y := by simp [bl]
            have hys : (⟨y.toArray⟩ : ByteArray).size ≤ 1073741824 := by rw [← bl_len, hyb]; omega
            have hS := split_c 32 ⟨y.toArray⟩ W5 HL5.out hys
            rw [hyb] at hS
            have HY1 : Hid (L[k + 1]? = some y) := Lib.hid (by rw [← hk2]; exact hy)
            have HK2 := Lib.hid hk2
            have hsm := split_mem 32 y
            obtain ⟨D, hD⟩ : ∃ D, splitP 32 y = D := ⟨_, rfl⟩
            have hmm : ∀ d0 d1 d2 d3 : List UInt8, D = [d0, d1, d2, d3] → d0.length ≤ 65536 ∧ d1.length ≤ 65536 ∧ d2.length ≤ 65536 ∧ d3.length ≤ 65536 := fun d0 d1 d2 d3 e => mem4 (hD.trans e) hy6 hsm
            rw [hD] at hS
            have HS := Lib.hid hS
            have HD := Lib.hid hD
            have HMM := Lib.hid hmm
            clear hlast hk2 hy hy6 hyb hys hS hsm hD hmm
            have hrn : Hid (numsQ y = none → readP L en = .error (k2 + 1)) := Lib.hid (fun hq => by
              rw [HK2.out]
              exact readP_bad2 (by rw [HM.out]; exact hkm.out) HA.out Hx.out Ht.out HQ.out HY1.out (.inl hq))
            go_wp2_with (go_at_call 21; refine HS.out.mono ?_)
            rintro e_ W6 ⟨rfl, hW6⟩
            have hB6 : Below W5.heap.size W5 W6 := by rw [hW6]; exact (Below.refl _ _).alloc (Nat.le_refl _) _
            have hS6 : Strs W6 W5.heap.size 0 D := by rw [hW6]; exact strs_alloc W5 D _
            have HR6 := Lib.hid (HR5.out.below hB6)
            have HB6 : Hid (Below b w W6) := Lib.hid (HB5.out.trans (hB6.mono (Nat.le_of_lt HR5.out.lt)))
            have HO6 := Lib.hid (ownL_below HO5.out hB6)
            have HL6 := Lib.hid (HL5.out.below hB6)
            have hsz6 := hB6.size
            obtain ⟨sb, hsb⟩ : ∃ sb, W5.heap.size = sb := ⟨_, rfl⟩
            rw [hsb] at hS6 ⊢
            have HS6 := Lib.hid hS6
            have hsb6 : sb < W6.heap.size := by rw [← hsb, hW6]; simp
            clear hW6 hB6 hS6 HS hcy hsb
            by_cases hd4 : D.length = 4
            · obtain ⟨d0, d1, d2, d3, rfl⟩ := four_of hd4
              clear hd4
              have hc0 : W6.cell? ⟨sb, 0, none⟩ = some (.string ⟨d0.toArray⟩) := HS6.out 0 d0 rfl
              have hc1 : W6.cell? ⟨sb, 1, none⟩ = some (.string ⟨d1.toArray⟩) := HS6.out 1 d1 rfl
              have hc2 : W6.cell? ⟨sb, 2, none⟩ = some (.string ⟨d2.toArray⟩) := HS6.out 2 d2 rfl
              have hc3 : W6.cell? ⟨sb, 3, none⟩ = some (.string ⟨d3.toArray⟩) := HS6.out 3 d3 rfl
              obtain ⟨q0, q1, q2, q3⟩ := HMM.out d0 d1 d2 d3 rfl
              have hb1 : bl ⟨d1.toArray⟩ = d1 := by simp [bl]
              have hb3 : bl ⟨d3.toArray⟩ = d3 := by simp [bl]
              have hs1 : (⟨d1.toArray⟩ : ByteArray).size ≤ 1073741824 := by rw [← bl_len, hb1]; omega
              have hs3 : (⟨d3.toArray⟩ : ByteArray).size ≤ 1073741824 := by rw [← bl_len, hb3]; omega
              have hN1 := number_c ⟨d1.toArray⟩ 2147483647 (by decide) W6 HL6.out hs1
              rw [hb1] at hN1
              have HN1 := Lib.hid hN1
              have Hb3 := Lib.hid hb3
              have Hs3 := Lib.hid hs3
              clear q0 q1 q2 q3 hb1 hb3 hs1 hs3 hN1
              by_cases h0 : d0 = stepsL
              · have h0b : (d0 == [115, 116, 101, 112, 115]) = true := by rw [h0]; rfl
                by_cases h2 : d2 = kPicks
                · have h2b : (d2 == [112, 105, 99, 107, 115]) = true := by rw [h2]; rfl
                  have H0 := Lib.hid h0
                  have H2 := Lib.hid h2
                  clear h0 h2
                  by_cases hl2 : k2 = n - 1 ∧ en = false
                  · obtain ⟨hl3, rfl⟩ := hl2
                    have hlb2 : ((k2 : Int) == ((n - 1 : Nat) : Int)) = true := by rw [hl3]; simp
                    have hrp : Hid (readP L false = .error (k2 + 1)) := Lib.hid (by
                      have e1 : k + 1 = wholeN L false := by rw [HM.out, HMF.out rfl, ← HK2.out]; exact hl3
                      rw [HK2.out]
                      exact readP_bad2 (by rw [HM.out]; exact hkm.out) HA.out Hx.out Ht.out HQ.out HY1.out (.inr e1))
                    clear hl3
                    have HER := Lib.hid (readE_err (hrp.out))
                    go_wp2_with (go_at_call 26; refine (readbad_c (k2) (by omega) _).mono ?_)
                    first | rintro e_ Wz rfl hBz | rintro e_ Wz ⟨rfl, hBz⟩
                    have hRz := Lib.hid (RepB.below (HR6.out) hBz)
                    have hBz2 := Lib.hid ((HB6.out).trans (hBz.mono (Nat.le_of_lt (HR6.out).lt)))
                    clear hBz
                    go_wp2_with (first | ((with_reducible refine wpList_st5 (p := none) (n := 0) (c := 0) (i1 := 0) (i2 := 0) (i3 := 0) (i4 := 0) hRz.out ?hx ?hy ?_); (case hx => rfl); (case hy => rfl)) | ((first | (with_reducible refine id (?_ : Exit.then _ _ Exit.ret _ _)) | (with_reducible refine id (?_ : Exit.inBlock _ _ Exit.ret _ _)) | (with_reducible refine id (?_ : bodyPost _ _ _ Exit.ret _ _))); (try simp only [Exit.inBlock, Exit.then]); refine read_ret _ _ b _ _ _ _ _ _ _ (hRz.out.set5 _ _ _ _ _) rfl rfl rfl ⟨readPost_err HER.out (by first | rfl | (simp; done) | (simp; omega) | omega), below_s5 hBz2.out (Nat.le_refl _) _ _ _ _ _⟩))
                  · have hkm2 : Hid (k + 1 < m) := Lib.hid (by
                      have := HK2.out
                      cases en
                      · have := HMF.out rfl
                        have : k2 ≠ n - 1 := fun e => hl2 ⟨e, rfl⟩
                        omega
                      · have := HMT.out rfl; omega)
                    obtain ⟨lq, hlq⟩ : ∃ lq, ((k2 : Int) == ((n - 1 : Nat) : Int)) = lq := ⟨_, rfl⟩
                    have hle : (lq && !en) = false := by
                      cases en
                      · have : k2 ≠ n - 1 := fun e => hl2 ⟨e, rfl⟩
                        rw [← hlq, beq_eq_false_iff_ne.2 (show (k2 : Int) ≠ ((n - 1 : Nat) : Int) by omega)]; rfl
                      · simp
                    clear hl2
                    go_upto_region 21 with fail
                    go_cut [143] from 15 (fun s143 w' => s143 = .bool false ∧ W6 = w')
                    case first =>
                      cases lq
                      · go_wp2
                        go_meet
                        exact ⟨rfl, rfl⟩
                      · have hen : en = true := by cases en; cases hle; rfl
                        subst hen
                        go_wp2
                        go_meet
                        exact ⟨rfl, rfl⟩
                    case rest =>
                      obtain ⟨rfl, rfl⟩ := hcut
                      clear hle hlq
                      go_wp2_with (go_at_call 29; refine HN1.out.mono ?_)
                      rintro e_ W7 ⟨⟨V1, rfl, hv1⟩, hB7⟩
                      have HV1 := Lib.hid hv1
                      have hc3' := (World.cell?_of_block (a := ⟨sb, 3, none⟩) (hB7.block sb hsb6)).trans hc3
                      have HR7 := Lib.hid (HR6.out.below hB7)
                      have HB7 := Lib.hid (HB6.out.trans (hB7.mono (Nat.le_of_lt HR6.out.lt)))
                      have HO7 := Lib.hid (ownL_below HO6.out hB7)
                      have hN3 := number_c ⟨d3.toArray⟩ 2147483647 (by decide) W7 (HL6.out.below hB7) Hs3.out
                      rw [Hb3.out] at hN3
                      have HN3 := Lib.hid hN3
                      clear hN3 hv1 hB7 hc3 hc2 hc1 hc0 HN1
                      go_wp2_with (go_at_call 29; refine HN3.out.mono ?_)
                      rintro e_ W8 ⟨⟨V3, rfl, hv3⟩, hB8⟩
                      have HV3 := Lib.hid hv3
                      have HR8 := Lib.hid (HR7.out.below hB8)
                      have HB8 := Lib.hid (HB7.out.trans (hB8.mono (Nat.le_of_lt HR7.out.lt)))
                      have HO8 := Lib.hid (ownL_below HO7.out hB8)
                      clear hv3 hB8 hc3' HN3 HR7 HB7 HO7
                      obtain ⟨o1, ho1⟩ : ∃ o1, numQ d1 2147483647 = o1 := ⟨_, rfl⟩
                      obtain ⟨o3, ho3⟩ : ∃ o3, numQ d3 2147483647 = o3 := ⟨_, rfl⟩
                      rw [ho1] at HV1 ⊢
                      rw [ho3] at HV3 ⊢
                      have HO1 := Lib.hid ho1
                      have HO3 := Lib.hid ho3
                      clear ho1 ho3
                      cases o1 with
                      | none =>
                        have hrp := Lib.hid (hrn.out (numsQ_n1 HD.out H0.out H2.out (.inl HO1.out)))
                        have HER := Lib.hid (readE_err (hrp.out))
                        go_wp2_with (go_at_call 26; refine (readbad_c (k2) (by omega) _).mono ?_)
                        first | rintro e_ Wz rfl hBz | rintro e_ Wz ⟨rfl, hBz⟩
                        have hRz := Lib.hid (RepB.below (HR8.out) hBz)
                        have hBz2 := Lib.hid ((HB8.out).trans (hBz.mono (Nat.le_of_lt (HR8.out).lt)))
                        clear hBz
                        go_wp2_with (first | ((with_reducible refine wpList_st5 (p := none) (n := 0) (c := 0) (i1 := 0) (i2 := 0) (i3 := 0) (i4 := 0) hRz.out ?hx ?hy ?_); (case hx => rfl); (case hy => rfl)) | ((first | (with_reducible refine id (?_ : Exit.then _ _ Exit.ret _ _)) | (with_reducible refine id (?_ : Exit.inBlock _ _ Exit.ret _ _)) | (with_reducible refine id (?_ : bodyPost _ _ _ Exit.ret _ _))); (try simp only [Exit.inBlock, Exit.then]); refine read_ret _ _ b _ _ _ _ _ _ _ (hRz.out.set5 _ _ _ _ _) rfl rfl rfl ⟨readPost_err HER.out (by first | rfl | (simp; done) | (simp; omega) | omega), below_s5 hBz2.out (Nat.le_refl _) _ _ _ _ _⟩))
                      | some s1 =>
                        cases o3 with
                        | none =>
                          have hrp := Lib.hid (hrn.out (numsQ_n1 HD.out H0.out H2.out (.inr HO3.out)))
                          have HER := Lib.hid (readE_err (hrp.out))
                          go_wp2_with (go_at_call 26; refine (readbad_c (k2) (by omega) _).mono ?_)
                          first | rintro e_ Wz rfl hBz | rintro e_ Wz ⟨rfl, hBz⟩
                          have hRz := Lib.hid (RepB.below (HR8.out) hBz)
                          have hBz2 := Lib.hid ((HB8.out).trans (hBz.mono (Nat.le_of_lt (HR8.out).lt)))
                          clear hBz
                          go_wp2_with (first | ((with_reducible refine wpList_st5 (p := none) (n := 0) (c := 0) (i1 := 0) (i2 := 0) (i3 := 0) (i4 := 0) hRz.out ?hx ?hy ?_); (case hx => rfl); (case hy => rfl)) | ((first | (with_reducible refine id (?_ : Exit.then _ _ Exit.ret _ _)) | (with_reducible refine id (?_ : Exit.inBlock _ _ Exit.ret _ _)) | (with_reducible refine id (?_ : bodyPost _ _ _ Exit.ret _ _))); (try simp only [Exit.inBlock, Exit.then]); refine read_ret _ _ b _ _ _ _ _ _ _ (hRz.out.set5 _ _ _ _ _) rfl rfl rfl ⟨readPost_err HER.out (by first | rfl | (simp; done) | (simp; omega) | omega), below_s5 hBz2.out (Nat.le_refl _) _ _ _ _ _⟩))
                        | some s3 =>
                          have hqs := Lib.hid (numsQ_s HD.out H0.out H2.out HO1.out HO3.out)
                          obtain rfl := HV1.out s1 rfl
                          obtain rfl := HV3.out s3 rfl
                          obtain ⟨k3, hk3⟩ : ∃ k3, k3 = k2 + 1 := ⟨_, rfl⟩
                          have hw3 : IntKind.i64.wrap ((k2 : Int) + 1) = (k3 : Int) := by rw [IntKind.wrap_i64]; omega
                          have hkw : Hid (k + 1 < wholeN L en) := Lib.hid (by rw [HM.out]; exact hkm2.out)
                          by_cases hm3 : k3 < n
                          · have hm3i : (k3 : Int) < (n : Int) := by omega
                            have hrp : Hid (readP L en = .error (k3 + 1)) := Lib.hid (by
                              rw [hk3, HK2.out]
                              exact readP_more hkw.out HA.out Hx.out Ht.out HQ.out HY1.out hqs.out (by rw [HN.out]; have := HK2.out; omega))
                            clear hk3
                            have HER := Lib.hid (readE_err (hrp.out))
                            go_wp2_with (go_at_call 26; refine (readbad_c (k3) (by omega) _).mono ?_)
                            first | rintro e_ Wz rfl hBz | rintro e_ Wz ⟨rfl, hBz⟩
                            have hRz := Lib.hid (RepB.below (HR8.out) hBz)
                            have hBz2 := Lib.hid ((HB8.out).trans (hBz.mono (Nat.le_of_lt (HR8.out).lt)))
                            clear hBz
                            go_wp2_with (first | ((with_reducible refine wpList_st5 (p := none) (n := 0) (c := 0) (i1 := 0) (i2 := 0) (i3 := 0) (i4 := 0) hRz.out ?hx ?hy ?_); (case hx => rfl); (case hy => rfl)) | ((first | (with_reducible refine id (?_ : Exit.then _ _ Exit.ret _ _)) | (with_reducible refine id (?_ : Exit.inBlock _ _ Exit.ret _ _)) | (with_reducible refine id (?_ : bodyPost _ _ _ Exit.ret _ _))); (try simp only [Exit.inBlock, Exit.then]); refine read_ret _ _ b _ _ _ _ _ _ _ (hRz.out.set5 _ _ _ _ _) rfl rfl rfl ⟨readPost_err HER.out (by first | rfl | (simp; done) | (simp; omega) | omega), below_s5 hBz2.out (Nat.le_refl _) _ _ _ _ _⟩))
                          · have hm3i : (n : Int) ≤ (k3 : Int) := by omega
                            have hrp : Hid (readP L en = .ok ⟨L.take k, K, V, s1, s3⟩) := Lib.hid
                              (readP_good hkw.out HA.out Hx.out Ht.out HQ.out HY1.out hqs.out (by rw [HN.out]; have := HK2.out; omega))
                            clear hk3
                            obtain ⟨m0, m1, m2, m3, m4, n0, n1, n2, n3, n4⟩ := HR8.out.facts
                            go_upto_region 30 with fail
                            clear m0 m1 m2 m3 m4 n0 n1 n2 n3 n4
                            have HR9 := (HR8.out.set3 (.int .i64 (s1 : Int))).set4 (.int .i64 (s3 : Int))
                            have hB9 : Below b w ((W8.setCell ⟨b, 3, none⟩ (.int .i64 (s1 : Int))).setCell ⟨b, 4, none⟩ (.int .i64 (s3 : Int))) := (HB8.out.setCell (p := ⟨b, 3, none⟩) (Nat.le_refl _) _).setCell (p := ⟨b, 4, none⟩) (Nat.le_refl _) _
                            have hO9 : OwnL W0.heap.size ((W8.setCell ⟨b, 3, none⟩ (.int .i64 (s1 : Int))).setCell ⟨b, 4, none⟩ (.int .i64 (s3 : Int))) v (L.take k) := own_grown (own_grown HO8.out (set_grown W8 ⟨b, 3, none⟩ (.int .i64 (s1 : Int))) (fun k' e => by cases e; exact hbW)) (set_grown (W8.setCell ⟨b, 3, none⟩ (.int .i64 (s1 : Int))) ⟨b, 4, none⟩ (.int .i64 (s3 : Int))) (fun k' e => by cases e; exact hbW)
                            obtain ⟨W9, hW9⟩ : ∃ W9, W9 = (W8.setCell ⟨b, 3, none⟩ (.int .i64 (s1 : Int))).setCell ⟨b, 4, none⟩ (.int .i64 (s3 : Int)) := ⟨_, rfl⟩
                            rw [← hW9] at HR9 hB9 hO9 ⊢
                            clear hW9
                            obtain ⟨va, vq, hv⟩ := ownL_slice hO9
                            rw [List.length_take, Nat.min_eq_left (show k ≤ L.length by rw [HN.out]; omega)] at hv
                            subst hv
                            have HB9 := Lib.hid hB9
                            have HO9 := Lib.hid hO9
                            have HR9 := Lib.hid HR9
                            clear hB9 hO9
                            refine wp_region_lit (wpList_ld5 HR9.out rfl ?_)
                            have hre := readE_ok hrp.out
                            have HFIN : Hid (∀ w' e, e = Ending.returned (.tuple #[.agg #[.slice va k vq, .int .i64 K, .int .i64 V, .int .i64 (s1 : Int), .int .i64 (s3 : Int)], .int .i64 0, .int .i64 0]) → OwnL b w' (.slice va k vq) (L.take k) → ReadPost b (readE L en) e w') := Lib.hid (fun w' e he ho => by
                              rw [hre, he]
                              exact ⟨_, ho, rfl⟩)
                            clear hre
                            go_wp2_with (first | ((with_reducible refine wpList_st5 (p := va) (n := k) (c := vq) (i1 := K) (i2 := V) (i3 := (s1 : Int)) (i4 := (s3 : Int)) HR9.out ?hx ?hy ?_); (case hx => rfl); (case hy => rfl)) | ((first | (with_reducible refine id (?_ : Exit.then _ _ Exit.ret _ _)) | (with_reducible refine id (?_ : Exit.inBlock _ _ Exit.ret _ _)) | (with_reducible refine id (?_ : bodyPost _ _ _ Exit.ret _ _))); (try simp only [Exit.inBlock, Exit.then]); refine read_ret _ _ b _ _ _ _ _ _ _ (HR9.out.set5 _ _ _ _ _) rfl rfl rfl ⟨HFIN.out _ _ rfl (ownL_base (own_s5 HO9.out hbW _ _ _ _ _) hbW0), below_s5 HB9.out (Nat.le_refl _) _ _ _ _ _⟩))
                · have h2b : (d2 == [112, 105, 99, 107, 115]) = false := beq_eq_false_iff_ne.2 h2
                  have hrp := Lib.hid (hrn.out (numsQ_word HD.out (.inr h2)))
                  clear h2 h0
                  have HER := Lib.hid (readE_err (hrp.out))
                  go_wp2_with (go_at_call 26; refine (readbad_c (k2) (by omega) _).mono ?_)
                  first | rintro e_ Wz rfl hBz | rintro e_ Wz ⟨rfl, hBz⟩
                  have hRz := Lib.hid (RepB.below (HR6.out) hBz)
                  have hBz2 := Lib.hid ((HB6.out).trans (hBz.mono (Nat.le_of_lt (HR6.out).lt)))
                  clear hBz
                  go_wp2_with (first | ((with_reducible refine wpList_st5 (p := none) (n := 0) (c := 0) (i1 := 0) (i2 := 0) (i3 := 0) (i4 := 0) hRz.out ?hx ?hy ?_); (case hx => rfl); (case hy => rfl)) | ((first | (with_reducible refine id (?_ : Exit.then _ _ Exit.ret _ _)) | (with_reducible refine id (?_ : Exit.inBlock _ _ Exit.ret _ _)) | (with_reducible refine id (?_ : bodyPost _ _ _ Exit.ret _ _))); (try simp only [Exit.inBlock, Exit.then]); refine read_ret _ _ b _ _ _ _ _ _ _ (hRz.out.set5 _ _ _ _ _) rfl rfl rfl ⟨readPost_err HER.out (by first | rfl | (simp; done) | (simp; omega) | omega), below_s5 hBz2.out (Nat.le_refl _) _ _ _ _ _⟩))
              · have h0b : (d0 == [115, 116, 101, 112, 115]) = false := beq_eq_false_iff_ne.2 h0
                have hrp := Lib.hid (hrn.out (numsQ_word HD.out (.inl h0)))
                clear h0
                have HER := Lib.hid (readE_err (hrp.out))
                go_wp2_with (go_at_call 26; refine (readbad_c (k2) (by omega) _).mono ?_)
                first | rintro e_ Wz rfl hBz | rintro e_ Wz ⟨rfl, hBz⟩
                have hRz := Lib.hid (RepB.below (HR6.out) hBz)
                have hBz2 := Lib.hid ((HB6.out).trans (hBz.mono (Nat.le_of_lt (HR6.out).lt)))
                clear hBz
                go_wp2_with (first | ((with_reducible refine wpList_st5 (p := none) (n := 0) (c := 0) (i1 := 0) (i2 := 0) (i3 := 0) (i4 := 0) hRz.out ?hx ?hy ?_); (case hx => rfl); (case hy => rfl)) | ((first | (with_reducible refine id (?_ : Exit.then _ _ Exit.ret _ _)) | (with_reducible refine id (?_ : Exit.inBlock _ _ Exit.ret _ _)) | (with_reducible refine id (?_ : bodyPost _ _ _ Exit.ret _ _))); (try simp only [Exit.inBlock, Exit.then]); refine read_ret _ _ b _ _ _ _ _ _ _ (hRz.out.set5 _ _ _ _ _) rfl rfl rfl ⟨readPost_err HER.out (by first | rfl | (simp; done) | (simp; omega) | omega), below_s5 hBz2.out (Nat.le_refl _) _ _ _ _ _⟩))
            · have hrp := Lib.hid (hrn.out (numsQ_len y (by rw [HD.out]; exact hd4)))
              obtain ⟨nd, hnd⟩ : ∃ nd, D.length = nd := ⟨_, rfl⟩
              rw [hnd] at hd4 ⊢
              have hd4b : ((nd : Int) == 4) = false := beq_eq_false_iff_ne.2 (by omega)
              have hd4c : ((nd : Int) != 4) = true := by rw [bne, hd4b]; rfl
              clear hd4 hnd
              have HER := Lib.hid (readE_err (hrp.out))
              go_wp2_with (go_at_call 26; refine (readbad_c (k2) (by omega) _).mono ?_)
              first | rintro e_ Wz rfl hBz | rintro e_ Wz ⟨rfl, hBz⟩
              have hRz := Lib.hid (RepB.below (HR6.out) hBz)
              have hBz2 := Lib.hid ((HB6.out).trans (hBz.mono (Nat.le_of_lt (HR6.out).lt)))
              clear hBz
              go_wp2_with (first | ((with_reducible refine wpList_st5 (p := none) (n := 0) (c := 0) (i1 := 0) (i2 := 0) (i3 := 0) (i4 := 0) hRz.out ?hx ?hy ?_); (case hx => rfl); (case hy => rfl)) | ((first | (with_reducible refine id (?_ : Exit.then _ _ Exit.ret _ _)) | (with_reducible refine id (?_ : Exit.inBlock _ _ Exit.ret _ _)) | (with_reducible refine id (?_ : bodyPost _ _ _ Exit.ret _ _))); (try simp only [Exit.inBlock, Exit.then]); refine read_ret _ _ b _ _ _ _ _ _ _ (hRz.out.set5 _ _ _ _ _) rfl rfl rfl ⟨readPost_err HER.out (by first | rfl | (simp; done) | (simp; omega) | omega), below_s5 hBz2.out (Nat.le_refl _) _ _ _ _ _⟩))
    · have hkn : k = n := by omega
      have hge : (n : Int) ≤ (k : Int) := by omega
      have hkm := Lib.hid (show k = wholeN L en by rw [HM.out]; omega)
      clear hkn
      have HER := Lib.hid (readE_err (readP_end L en k hkm.out HA.out))
      go_wp2_with (go_at_call 26; refine (readbad_c (k) (by omega) _).mono ?_)
      first | rintro e_ Wz rfl hBz | rintro e_ Wz ⟨rfl, hBz⟩
      have hRz := Lib.hid (RepB.below (HR.out) hBz)
      have hBz2 := Lib.hid ((HBr.out).trans (hBz.mono (Nat.le_of_lt (HR.out).lt)))
      clear hBz
      go_wp2_with (first | ((with_reducible refine wpList_st5 (p := none) (n := 0) (c := 0) (i1 := 0) (i2 := 0) (i3 := 0) (i4 := 0) hRz.out ?hx ?hy ?_); (case hx => rfl); (case hy => rfl)) | ((first | (with_reducible refine id (?_ : Exit.then _ _ Exit.ret _ _)) | (with_reducible refine id (?_ : Exit.inBlock _ _ Exit.ret _ _)) | (with_reducible refine id (?_ : bodyPost _ _ _ Exit.ret _ _))); (try simp only [Exit.inBlock, Exit.then]); refine read_ret _ _ b _ _ _ _ _ _ _ (hRz.out.set5 _ _ _ _ _) rfl rfl rfl ⟨readPost_err HER.out (by first | rfl | (simp; done) | (simp; omega) | omega), below_s5 hBz2.out (Nat.le_refl _) _ _ _ _ _⟩))
end Go.Proofs.YthfnjphmodcnoaaDoor
namespace Go.Proofs.YthfnjphmodcnoaaDoor
open Go.RowKit
set_option linter.unusedSimpArgs false
set_option linter.unusedVariables false

theorem below_grow3 {B b : Nat} {w W0 wr : World} (h : Below B w W0) (hg : W0.grownBy wr (some b)) (hB : B ≤ b) (hb : b ≤ W0.heap.size) : Below B w wr :=
  h.trans ⟨hg.os, hg.tape, hg.output, hg.size, fun k hk => hg.block k (by omega) (fun e => by cases e; omega)⟩
theorem lines_en {l : List UInt8} (h : (linesP l).2 = false) : 1 ≤ (linesP l).1.length := by
  unfold linesP at *
  split at h
  · cases h
  · split at h
    · cases h
    · rename_i h1 h2
      rw [if_neg h1, if_neg h2]
      exact (split_len 10 l).1
abbrev RepZ (W : World) (b : Nat) : Prop := RepB W b (.slice none 0 0) (.int .i64 0) (.int .i64 0) (.int .i64 0) (.int .i64 0)
set_option maxRecDepth 100000 in
set_option maxHeartbeats 2000000 in
theorem rrep_big (s : ByteArray) (w : World) (hs : 65536 < s.size) : Calls Tryd.prog 14 #[.string s] w fun e w' => ReadPost w.heap.size (readT (bl s)) e w' ∧ Below w.heap.size w w' := by
  have HT := Lib.hid (readT_big (s := bl s) (by rw [bl_len]; exact hs))
  have hi : (65536 : Int) < (s.size : Int) := by omega
  go_enter Tryd.func14, Tryd.ntmps14
  go_wp2
  refine rrep_ret _ _ w.heap.size _ _ _ _ _ (.int .i64 0) (.int .i64 6) (RepB.new w) rfl rfl rfl ⟨?_, (Below.refl _ _).alloc (Nat.le_refl _) _⟩
  rw [HT.out]
  exact rfl
set_option maxRecDepth 100000 in
set_option maxHeartbeats 8000000 in
theorem rrep_walk (s : ByteArray) (w : World) (hs : s.size ≤ 65536) : Calls Tryd.prog 14 #[.string s] w fun e w' => ReadPost w.heap.size (readE (linesP (bl s)).1 (linesP (bl s)).2) e w' ∧ Below w.heap.size w w' := by
  have hi : ¬ (65536 : Int) < (s.size : Int) := by omega
  obtain ⟨r, hr⟩ : ∃ r, w.heap.size = r := ⟨_, rfl⟩
  have hlm : ∀ z ∈ (linesP (bl s)).1, z.length ≤ 65536 := fun z hz => by
    have := lines_mem (bl s) z hz
    rw [bl_len] at this; omega
  have hln := lines_len (bl s)
  rw [bl_len] at hln
  have hlp := lines_en (l := bl s)
  have HB1 : Hid (Below r w (w.alloc (.cells #[.slice none 0 0, .int .i64 0, .int .i64 0, .int .i64 0, .int .i64 0] 39))) := Lib.hid (by rw [← hr]; exact (Below.refl _ _).alloc (Nat.le_refl _) _)
  have HR1 : Hid (RepZ (w.alloc (.cells #[.slice none 0 0, .int .i64 0, .int .i64 0, .int .i64 0, .int .i64 0] 39)) r) := Lib.hid (by rw [← hr]; exact RepB.new w)
  have hz1' : (w.alloc (.cells #[.slice none 0 0, .int .i64 0, .int .i64 0, .int .i64 0, .int .i64 0] 39)).heap.size = r + 1 := by rw [← hr]; simp
  obtain ⟨Wa, hWa⟩ : ∃ Wa, Wa = w.alloc (.cells #[.slice none 0 0, .int .i64 0, .int .i64 0, .int .i64 0, .int .i64 0] 39) := ⟨_, rfl⟩
  rw [← hWa] at HB1 HR1 hz1'
  have HLC := Lib.hid (rlines_c s Wa (by omega))
  obtain ⟨L, hL⟩ : ∃ L, (linesP (bl s)).1 = L := ⟨_, rfl⟩
  obtain ⟨en, hen⟩ : ∃ en, (linesP (bl s)).2 = en := ⟨_, rfl⟩
  rw [hL] at hlm hln HLC hlp ⊢
  rw [hen] at HLC hlp ⊢
  obtain ⟨n, hn⟩ : ∃ n, L.length = n := ⟨_, rfl⟩
  rw [hn] at hln hlp
  have HN := Lib.hid hn
  have HLM := Lib.hid hlm
  have HWa := Lib.hid hWa
  have Hr := Lib.hid hr
  obtain ⟨m, hm⟩ : ∃ m, wholeN L en = m := ⟨_, rfl⟩
  have hmt : en = true → m = n := fun e => by rw [← hm, e]; exact HN.out
  have hmf : en = false → m = n - 1 := fun e => by rw [← hm, e, ← HN.out]; rfl
  have hmn : m ≤ n := by cases en; have := hmf rfl; omega; have := hmt rfl; omega
  have HM := Lib.hid hm
  have HMT := Lib.hid hmt
  have HMF := Lib.hid hmf
  have HLP := Lib.hid hlp
  clear hL hen hn hlm hWa hm hmt hmf hlp
  rw [hr]
  clear hr
  go_enter Tryd.func14, Tryd.ntmps14
  go_wp2_with (go_at_call 30; fail)
  rw [Hr.out, ← HWa.out]
  refine HLC.out.mono ?_
  rintro e_ Wl ⟨vl, rfl, hown, hBl⟩
  obtain ⟨p, cap, rfl, hlin⟩ := ownL_lin hown
  rw [HN.out]
  have HLIN := Lib.hid hlin
  have HBl := Lib.hid (HB1.out.trans (hBl.mono (by omega)))
  have HRl : Hid (RepZ Wl r) := Lib.hid (HR1.out.below hBl)
  have hzl := hBl.size
  clear hBl hlin hown HLC HR1 HB1
  go_upto_if 27 with fail
  go_cut [7] from 15 (fun s7 w' => s7 = .int .i64 (m : Int) ∧ Wl = w')
  case first =>
    cases en with
    | true =>
      have hmm := Lib.hid (HMT.out rfl)
      go_wp2
      go_meet
      exact ⟨by rw [hmm.out], rfl⟩
    | false =>
      have hn1 := HLP.out rfl
      have hw1 : IntKind.i64.wrap ((n : Int) - 1) = (m : Int) := by rw [IntKind.wrap_i64]; have := HMF.out rfl; omega
      go_wp2
      go_meet
      exact ⟨rfl, rfl⟩
  case rest =>
  obtain ⟨rfl, rfl⟩ := hcut
  go_upto_region 8 with fail
  obtain ⟨b, hb⟩ : ∃ b, Wl.heap.size = b := ⟨_, rfl⟩
  have hRb : RepZ (Wl.alloc (.cells #[.slice none 0 0, .int .i64 0, .int .i64 0, .int .i64 0, .int .i64 0] 39)) b := by rw [← hb]; exact RepB.new Wl
  have hBb : Below b Wl (Wl.alloc (.cells #[.slice none 0 0, .int .i64 0, .int .i64 0, .int .i64 0, .int .i64 0] 39)) := by rw [← hb]; exact (Below.refl _ _).alloc (Nat.le_refl _) _
  obtain ⟨W0, hW0⟩ : ∃ W0, W0 = Wl.alloc (.cells #[.slice none 0 0, .int .i64 0, .int .i64 0, .int .i64 0, .int .i64 0] 39) := ⟨_, rfl⟩
  rw [hb, ← hW0]
  rw [← hW0] at hRb hBb
  clear hW0
  have HB0 := Lib.hid (HBl.out.trans (hBb.mono (by omega)))
  have HR0 : Hid (RepZ W0 b) := Lib.hid hRb
  have hbW : b < W0.heap.size := hRb.lt
  have hrb : r < b := by omega
  have HRr : Hid (RepZ W0 r) := Lib.hid ((hBb.block r hrb).trans HRl.out)
  have HLIN0 : Hid (∀ k x, L[k]? = some x → ∃ lb, p = some ⟨lb, 0, none⟩ ∧ Strs W0 lb 0 L ∧ lb < b) := Lib.hid (fun k x hx => by
    obtain ⟨lb, h1, h2, h3, h4⟩ := lin_at HLIN.out hx
    exact ⟨lb, h1, strs_same h2 (hBb.block lb (by omega)), by omega⟩)
  clear hRb hBb hb HLIN HBl HRl
  go_wp2_with fail
  go_loopw [9] (fun i wr => ∃ (k : Nat) (v : Value), i = .int .i64 k ∧ k ≤ m ∧ Hid (W0.grownBy wr (some b)) ∧ Hid (RepB wr b v (.int .i64 0) (.int .i64 0) (.int .i64 0) (.int .i64 0)) ∧ Hid (OwnL W0.heap.size wr v (L.take k)) ∧ Hid (∀ z ∈ L.take k, toldP z = true)) (fun i _ => m - (intOf i).toNat)
  case atStart => exact ⟨0, _, rfl, Nat.zero_le _, Lib.hid (World.grownBy.refl _ _), HR0, Lib.hid (ownL_nil _ _), Lib.hid (by simp)⟩
  case round =>
    obtain ⟨k, v, rfl, hk, HG, HR, HO, HA⟩ := hrel
    have hsz := HG.out.size
    have hwk : IntKind.i64.wrap ((k : Int) + 1) = ((k + 1 : Nat) : Int) := by rw [IntKind.wrap_i64]; omega
    by_cases hltm : k < m
    · have hltmi : (k : Int) < (m : Int) := by omega
      have hlt : k < n := by omega
      obtain ⟨x, hx⟩ : ∃ x, L[k]? = some x := ⟨_, List.getElem?_eq_getElem (by have := HN.out; omega)⟩
      obtain ⟨lb, rfl, hst, hlb⟩ := HLIN0.out k x hx
      have hlbb : lb ≠ b := by omega
      have hlbW : lb < W0.heap.size := by omega
      have hwb : wr.heap[lb]? = W0.heap[lb]? := HG.out.block lb hlbW (fun e => hlbb (Option.some.inj e))
      have HST := Lib.hid (strs_same hst hwb)
      have hcx := HST.out k x hx
      rw [Nat.zero_add] at hcx
      have hx6 : x.length ≤ 65536 := HLM.out x (List.mem_of_getElem? hx)
      have hxb : bl ⟨x.toArray⟩ = x := by simp [bl]
      have hxs : (⟨x.toArray⟩ : ByteArray).size ≤ 1073741824 := by rw [← bl_len, hxb]; omega
      have hT := rtold_c ⟨x.toArray⟩ wr hxs
      rw [hxb] at hT
      obtain ⟨t, ht⟩ : ∃ t, toldP x = t := ⟨_, rfl⟩
      rw [ht] at hT
      have HT := Lib.hid hT
      have Ht := Lib.hid ht
      have Hx := Lib.hid hx
      have Hxb := Lib.hid hxb
      have HXS := Lib.hid hxs
      have HLB := Lib.hid hlbW
      clear hT ht hx hst hwb hxb hxs hlbW
      go_wp2_with (go_at_call 31; refine HT.out.mono ?_)
      rintro e_ W3 ⟨rfl, hB3⟩
      have HG3 : Hid (W0.grownBy W3 (some b)) := Lib.hid (HG.out.trans (below_grown hB3 _))
      have HR3 := Lib.hid (HR.out.below hB3)
      have HO3 := Lib.hid (ownL_below HO.out hB3)
      have hwb : W3.heap[lb]? = wr.heap[lb]? := hB3.block lb (Nat.lt_of_lt_of_le HLB.out hsz)
      have HST3 := Lib.hid (strs_same HST.out hwb)
      have hcx3 := HST3.out k x Hx.out
      rw [Nat.zero_add] at hcx3
      have hsz3 : W0.heap.size ≤ W3.heap.size := HG3.out.size
      clear hB3 hwb HT hcx HST HG HR HO
      cases t with
      | true =>
        go_upto_region 10 with fail
        obtain ⟨va, vq, rfl⟩ := ownL_slice HO3.out
        refine app_rep (W0 := W0) (b := b) (lb := lb) (n := n) (cap := cap) (k := k) (x := x) (T := L.take k) (va := va) (vq := vq) ⟨by kernel_rfl, rfl, rfl, rfl, rfl, rfl, rfl, rfl, rfl, rfl, rfl, rfl, rfl, rfl, rfl, rfl, rfl, rfl, rfl, rfl, rfl, rfl, rfl, rfl, rfl, rfl, rfl, rfl, rfl, rfl, rfl, rfl, rfl, rfl, rfl, rfl, rfl, rfl, rfl, rfl, rfl, rfl, by kernel_rfl, by kernel_rfl, by kernel_rfl, by kernel_rfl, by kernel_rfl, by kernel_rfl, by kernel_rfl, by kernel_rfl, by kernel_rfl, by kernel_rfl, by kernel_rfl, by kernel_rfl, by kernel_rfl, by kernel_rfl, by kernel_rfl, by kernel_rfl, by kernel_rfl, by kernel_rfl, by kernel_rfl, by kernel_rfl, by kernel_rfl, by kernel_rfl, by kernel_rfl⟩ rfl rfl rfl rfl hlt (by rw [List.length_take]; omega) HG3.out HR3.out HO3.out hbW HLB.out hlbb hcx3 (fun _ _ _ _ _ h => h) (fun va' vq' w9 hG9 hR9 hO9 => ?_)
        have HG9 := Lib.hid hG9
        have HR9 := Lib.hid hR9
        have HO9 := Lib.hid hO9
        have HA9 : Hid (∀ z ∈ L.take (k + 1), toldP z = true) := Lib.hid (by
          rw [List.take_add_one, Hx.out]
          intro z hz
          rcases List.mem_append.1 hz with hz | hz
          · exact HA.out z hz
          · have : z = x := by simpa using hz
            rw [this]; exact Ht.out)
        have HTK := Lib.hid (show L.take (k + 1) = L.take k ++ [x] by rw [List.take_add_one, Hx.out]; rfl)
        clear hG9 hR9 hO9
        simp (config := { maxSteps := 10000000 }) only [Act.put, List.setIfInBounds_toArray, List.set_cons_zero, List.set_cons_succ]
        go_wp2
        exact ⟨⟨k + 1, _, by go_num, hltm, HG9, HR9, Lib.hid (by rw [HTK.out]; exact HO9.out), HA9⟩, by simp [intOf]; omega⟩
      | false =>
        have hE := rending_c ⟨x.toArray⟩ W3 HXS.out
        rw [Hxb.out] at hE
        obtain ⟨q, hq⟩ : ∃ q, endQ x = q := ⟨_, rfl⟩
        rw [hq] at hE
        have HE := Lib.hid hE
        have HQ := Lib.hid hq
        clear hE hq
        go_wp2_with (go_at_call 32; refine HE.out.mono ?_)
        rintro e_ W4 ⟨⟨K, V, rfl, hKN, hKV⟩, hB4⟩
        have HKV := Lib.hid hKV
        have HKN := Lib.hid hKN
        have HR4 := HR3.out.below hB4
        obtain ⟨m0, m1, m2, m3, m4, n0, n1, n2, n3, n4⟩ := HR4.facts
        go_upto_region 15 with fail
        clear m0 m1 m2 m3 m4 n0 n1 n2 n3 n4
        have hR5 := (HR4.set1 (.int .i64 K)).set2 (.int .i64 V)
        have hG5 := ((HG3.out.trans (below_grown hB4 _)).trans (set_grown W4 ⟨b, 1, none⟩ (.int .i64 K))).trans (set_grown (W4.setCell ⟨b, 1, none⟩ (.int .i64 K)) ⟨b, 2, none⟩ (.int .i64 V))
        have hO5 : OwnL W0.heap.size ((W4.setCell ⟨b, 1, none⟩ (.int .i64 K)).setCell ⟨b, 2, none⟩ (.int .i64 V)) v (L.take k) := own_grown (own_grown (ownL_below HO3.out hB4) (set_grown W4 ⟨b, 1, none⟩ (.int .i64 K)) (fun k' e => by cases e; exact hbW)) (set_grown (W4.setCell ⟨b, 1, none⟩ (.int .i64 K)) ⟨b, 2, none⟩ (.int .i64 V)) (fun k' e => by cases e; exact hbW)
        obtain ⟨W5, hW5⟩ : ∃ W5, W5 = (W4.setCell ⟨b, 1, none⟩ (.int .i64 K)).setCell ⟨b, 2, none⟩ (.int .i64 V) := ⟨_, rfl⟩
        rw [← hW5] at hR5 hG5 hO5 ⊢
        have HR5 := Lib.hid hR5
        have HO5 := Lib.hid hO5
        have HR15 : Hid (RepZ W5 r) := Lib.hid ((hG5.block r (by omega) (fun e => by cases e; omega)).trans HRr.out)
        have HB5 : Hid (Below r w W5) := Lib.hid (below_grow3 HB0.out hG5 (by omega) (by omega))
        have HST5 := Lib.hid (strs_same HST3.out ((hG5.block lb HLB.out (fun e => hlbb (Option.some.inj e))).trans (HG3.out.block lb HLB.out (fun e => hlbb (Option.some.inj e))).symm))
        have hsz5 : W0.heap.size ≤ W5.heap.size := hG5.size
        have hc51 : W5.cell? ⟨b, 1, none⟩ = some (.int .i64 K) := hR5.facts.c1
        clear hW5 hR5 hG5 hO5 HR4 hB4 hKV hKN hcx3
        cases q with
        | none =>
          obtain rfl := HKN.out rfl
          have hrp : Hid (readP L en = .error (k + 1)) := Lib.hid (readP_bad1 (by rw [HM.out]; exact hk) HA.out Hx.out Ht.out (.inl HQ.out))
          have HER := Lib.hid (readE_err (hrp.out))
          go_wp2_with (first | ((with_reducible refine wpList_st5 (p := none) (n := 0) (c := 0) (i1 := 0) (i2 := 0) (i3 := 0) (i4 := 0) (HR15.out) ?hx ?hy ?_); (case hx => rfl); (case hy => rfl)) | ((first | (with_reducible refine id (?_ : Exit.then _ _ Exit.ret _ _)) | (with_reducible refine id (?_ : Exit.inBlock _ _ Exit.ret _ _)) | (with_reducible refine id (?_ : bodyPost _ _ _ Exit.ret _ _))); (try simp only [Exit.inBlock, Exit.then]); refine rrep_ret _ _ r _ _ _ _ _ _ _ ((HR15.out).set5 _ _ _ _ _) rfl rfl rfl ⟨readPost_err HER.out (by first | rfl | (simp; done) | (simp; omega) | omega), below_s5 (HB5.out) (Nat.le_refl _) _ _ _ _ _⟩))
        | some kv =>
          obtain ⟨kk, vv⟩ := kv
          obtain ⟨rfl, rfl⟩ := HKV.out kk vv rfl
          obtain ⟨hp1, hp2⟩ := endQ_pos HQ.out
          have hK0 : (K == 0) = false := beq_eq_false_iff_ne.2 (by omega)
          obtain ⟨k2, hk2⟩ : ∃ k2, k2 = k + 1 := ⟨_, rfl⟩
          have hwk2 : IntKind.i64.wrap ((k : Int) + 1) = (k2 : Int) := by rw [hk2]; exact hwk
          clear hwk hp1 hp2
          by_cases hltk : k2 < m
          · have hltki : (k2 : Int) < (m : Int) := by omega
            have hlt2 : k2 < n := by omega
            have hlt2i : (k2 : Int) < (n : Int) := by omega
            obtain ⟨k3, hk3⟩ : ∃ k3, k3 = k2 + 1 := ⟨_, rfl⟩
            have hwk3 : IntKind.i64.wrap ((k2 : Int) + 1) = (k3 : Int) := by rw [hk3, IntKind.wrap_i64]; omega
            obtain ⟨y, hy⟩ : ∃ y, L[k2]? = some y := ⟨_, List.getElem?_eq_getElem (by have := HN.out; omega)⟩
            have hcy := HST5.out k2 y hy
            rw [Nat.zero_add] at hcy
            have hy6 : y.length ≤ 65536 := HLM.out y (List.mem_of_getElem? hy)
            have hyb : bl ⟨y.toArray⟩ = y := by simp [bl]
            have hys : (⟨y.toArray⟩ : ByteArray).size ≤ 1073741824 := by rw [← bl_len, hyb]; omega
            have hS := rwords_c ⟨y.toArray⟩ W5 hys
            rw [hyb] at hS
            have HY1 : Hid (L[k + 1]? = some y) := Lib.hid (by rw [← hk2]; exact hy)
            have HK2 := Lib.hid hk2
            have HK3 := Lib.hid hk3
            have hsm := split_mem 32 y
            obtain ⟨D, hD⟩ : ∃ D, splitP 32 y = D := ⟨_, rfl⟩
            have hmm : ∀ d0 d1 d2 d3 : List UInt8, D = [d0, d1, d2, d3] → d0.length ≤ 65536 ∧ d1.length ≤ 65536 ∧ d2.length ≤ 65536 ∧ d3.length ≤ 65536 := fun d0 d1 d2 d3 e => mem4 (hD.trans e) hy6 hsm
            rw [hD] at hS
            have HS := Lib.hid hS
            have HD := Lib.hid hD
            have HMM := Lib.hid hmm
            clear hk2 hk3 hy hy6 hyb hys hS hsm hD hmm
            have hrn : Hid (numsQ y = none → readP L en = .error k3) := Lib.hid (fun hq => by
              rw [HK3.out, HK2.out]
              exact readP_bad2 (by rw [HM.out]; exact hltm) HA.out Hx.out Ht.out HQ.out HY1.out (.inl hq))
            have hkw : Hid (k + 1 < wholeN L en) := Lib.hid (by rw [HM.out, ← HK2.out]; exact hltk)
            go_wp2_with (go_at_call 33; refine HS.out.mono ?_)
            rintro e_ W6 ⟨vd, rfl, hown6, hB6⟩
            obtain ⟨p6, c6, rfl, hlin6⟩ := ownL_lin hown6
            have HR6 := Lib.hid (HR5.out.below hB6)
            have HR16 : Hid (RepZ W6 r) := Lib.hid (HR15.out.below hB6)
            have HB6 : Hid (Below r w W6) := Lib.hid (HB5.out.trans (hB6.mono (by omega)))
            have HO6 := Lib.hid (ownL_below HO5.out hB6)
            have hsz6 := hB6.size
            have HLIN6 := Lib.hid hlin6
            clear hB6 hown6 hlin6 HS hcy
            by_cases hd4 : D.length = 4
            · obtain ⟨d0, d1, d2, d3, rfl⟩ := four_of hd4
              clear hd4
              obtain ⟨sb, rfl, hS6, hsb6, hsb7⟩ := lin_at HLIN6.out (show [d0, d1, d2, d3][0]? = some d0 from rfl)
              have hc0 : W6.cell? ⟨sb, 0, none⟩ = some (.string ⟨d0.toArray⟩) := hS6 0 d0 rfl
              have hc1 : W6.cell? ⟨sb, 1, none⟩ = some (.string ⟨d1.toArray⟩) := hS6 1 d1 rfl
              have hc2 : W6.cell? ⟨sb, 2, none⟩ = some (.string ⟨d2.toArray⟩) := hS6 2 d2 rfl
              have hc3 : W6.cell? ⟨sb, 3, none⟩ = some (.string ⟨d3.toArray⟩) := hS6 3 d3 rfl
              obtain ⟨q0, q1, q2, q3⟩ := HMM.out d0 d1 d2 d3 rfl
              have hb1 : bl ⟨d1.toArray⟩ = d1 := by simp [bl]
              have hb3 : bl ⟨d3.toArray⟩ = d3 := by simp [bl]
              have hN1 := rnum_c ⟨d1.toArray⟩ 2147483647 (by decide) W6
              have hN3 := rnum_c ⟨d3.toArray⟩ 2147483647 (by decide) W6
              rw [hb1] at hN1
              rw [hb3] at hN3
              obtain ⟨o1, ho1⟩ : ∃ o1, numQ d1 2147483647 = o1 := ⟨_, rfl⟩
              obtain ⟨o3, ho3⟩ : ∃ o3, numQ d3 2147483647 = o3 := ⟨_, rfl⟩
              rw [ho1] at hN1
              rw [ho3] at hN3
              have HO1 := Lib.hid ho1
              have HO3 := Lib.hid ho3
              have HN1 := Lib.hid hN1
              have HN3 := Lib.hid hN3
              clear q0 q1 q2 q3 hb1 hb3 hN1 hN3 ho1 ho3 hS6
              by_cases h0 : d0 = stepsL
              · have h0b : (d0 == [115, 116, 101, 112, 115]) = true := by rw [h0]; rfl
                by_cases h2 : d2 = kPicks
                · have h2b : (d2 == [112, 105, 99, 107, 115]) = true := by rw [h2]; rfl
                  have H0 := Lib.hid h0
                  have H2 := Lib.hid h2
                  clear h0 h2
                  go_wp2_with (go_at_call 34; refine HN1.out.mono ?_)
                  rintro e_ W7 ⟨⟨V1, rfl, hv1⟩, hW7⟩
                  obtain rfl := hW7.symm
                  have HV1 := Lib.hid hv1
                  clear hv1
                  go_wp2_with (go_at_call 34; refine HN3.out.mono ?_)
                  rintro e_ W7 ⟨⟨V3, rfl, hv3⟩, hW7⟩
                  obtain rfl := hW7.symm
                  have HV3 := Lib.hid hv3
                  clear hv3 hc0 hc1 hc2 hc3 HN1 HN3
                  cases o1 with
                  | none =>
                    have hrp := Lib.hid (hrn.out (numsQ_n1 HD.out H0.out H2.out (.inl HO1.out)))
                    have HER := Lib.hid (readE_err (hrp.out))
                    go_wp2_with (first | ((with_reducible refine wpList_st5 (p := none) (n := 0) (c := 0) (i1 := 0) (i2 := 0) (i3 := 0) (i4 := 0) (HR16.out) ?hx ?hy ?_); (case hx => rfl); (case hy => rfl)) | ((first | (with_reducible refine id (?_ : Exit.then _ _ Exit.ret _ _)) | (with_reducible refine id (?_ : Exit.inBlock _ _ Exit.ret _ _)) | (with_reducible refine id (?_ : bodyPost _ _ _ Exit.ret _ _))); (try simp only [Exit.inBlock, Exit.then]); refine rrep_ret _ _ r _ _ _ _ _ _ _ ((HR16.out).set5 _ _ _ _ _) rfl rfl rfl ⟨readPost_err HER.out (by first | rfl | (simp; done) | (simp; omega) | omega), below_s5 (HB6.out) (Nat.le_refl _) _ _ _ _ _⟩))
                  | some s1 =>
                    cases o3 with
                    | none =>
                      have hrp := Lib.hid (hrn.out (numsQ_n1 HD.out H0.out H2.out (.inr HO3.out)))
                      have HER := Lib.hid (readE_err (hrp.out))
                      go_wp2_with (first | ((with_reducible refine wpList_st5 (p := none) (n := 0) (c := 0) (i1 := 0) (i2 := 0) (i3 := 0) (i4 := 0) (HR16.out) ?hx ?hy ?_); (case hx => rfl); (case hy => rfl)) | ((first | (with_reducible refine id (?_ : Exit.then _ _ Exit.ret _ _)) | (with_reducible refine id (?_ : Exit.inBlock _ _ Exit.ret _ _)) | (with_reducible refine id (?_ : bodyPost _ _ _ Exit.ret _ _))); (try simp only [Exit.inBlock, Exit.then]); refine rrep_ret _ _ r _ _ _ _ _ _ _ ((HR16.out).set5 _ _ _ _ _) rfl rfl rfl ⟨readPost_err HER.out (by first | rfl | (simp; done) | (simp; omega) | omega), below_s5 (HB6.out) (Nat.le_refl _) _ _ _ _ _⟩))
                    | some s3 =>
                      have hqs := Lib.hid (numsQ_s HD.out H0.out H2.out HO1.out HO3.out)
                      obtain rfl := HV1.out s1 rfl
                      obtain rfl := HV3.out s3 rfl
                      by_cases hm3 : k3 < n
                      · have hm3i : (k3 : Int) < (n : Int) := by omega
                        have hwk4 : IntKind.i64.wrap ((k2 : Int) + 2) = ((k3 + 1 : Nat) : Int) := by rw [IntKind.wrap_i64]; have := HK3.out; omega
                        have hrp : Hid (readP L en = .error (k3 + 1)) := Lib.hid (by
                          rw [HK3.out, HK2.out]
                          exact readP_more hkw.out HA.out Hx.out Ht.out HQ.out HY1.out hqs.out (by rw [HN.out]; have := HK2.out; have := HK3.out; omega))
                        have HER := Lib.hid (readE_err (hrp.out))
                        go_wp2_with (first | ((with_reducible refine wpList_st5 (p := none) (n := 0) (c := 0) (i1 := 0) (i2 := 0) (i3 := 0) (i4 := 0) (HR16.out) ?hx ?hy ?_); (case hx => rfl); (case hy => rfl)) | ((first | (with_reducible refine id (?_ : Exit.then _ _ Exit.ret _ _)) | (with_reducible refine id (?_ : Exit.inBlock _ _ Exit.ret _ _)) | (with_reducible refine id (?_ : bodyPost _ _ _ Exit.ret _ _))); (try simp only [Exit.inBlock, Exit.then]); refine rrep_ret _ _ r _ _ _ _ _ _ _ ((HR16.out).set5 _ _ _ _ _) rfl rfl rfl ⟨readPost_err HER.out (by first | rfl | (simp; done) | (simp; omega) | omega), below_s5 (HB6.out) (Nat.le_refl _) _ _ _ _ _⟩))
                      · have hm3i : (n : Int) ≤ (k3 : Int) := by omega
                        have hrp : Hid (readP L en = .ok ⟨L.take k, K, V, s1, s3⟩) := Lib.hid
                          (readP_good hkw.out HA.out Hx.out Ht.out HQ.out HY1.out hqs.out (by rw [HN.out]; have := HK2.out; have := HK3.out; omega))
                        obtain ⟨m0, m1, m2, m3, m4, n0, n1, n2, n3, n4⟩ := HR6.out.facts
                        go_upto_region 31 with fail
                        clear m0 m1 m2 m3 m4 n0 n1 n2 n3 n4
                        have HR9 := (HR6.out.set3 (.int .i64 (s1 : Int))).set4 (.int .i64 (s3 : Int))
                        have hG9 : W6.grownBy ((W6.setCell ⟨b, 3, none⟩ (.int .i64 (s1 : Int))).setCell ⟨b, 4, none⟩ (.int .i64 (s3 : Int))) (some b) := (set_grown W6 ⟨b, 3, none⟩ (.int .i64 (s1 : Int))).trans (set_grown (W6.setCell ⟨b, 3, none⟩ (.int .i64 (s1 : Int))) ⟨b, 4, none⟩ (.int .i64 (s3 : Int)))
                        have hB9 : Below r w ((W6.setCell ⟨b, 3, none⟩ (.int .i64 (s1 : Int))).setCell ⟨b, 4, none⟩ (.int .i64 (s3 : Int))) := (HB6.out.setCell (p := ⟨b, 3, none⟩) (Nat.le_of_lt hrb) _).setCell (p := ⟨b, 4, none⟩) (Nat.le_of_lt hrb) _
                        have hO9 : OwnL W0.heap.size ((W6.setCell ⟨b, 3, none⟩ (.int .i64 (s1 : Int))).setCell ⟨b, 4, none⟩ (.int .i64 (s3 : Int))) v (L.take k) := own_grown HO6.out hG9 (fun k' e => by cases e; exact hbW)
                        obtain ⟨W9, hW9⟩ : ∃ W9, W9 = (W6.setCell ⟨b, 3, none⟩ (.int .i64 (s1 : Int))).setCell ⟨b, 4, none⟩ (.int .i64 (s3 : Int)) := ⟨_, rfl⟩
                        rw [← hW9] at HR9 hB9 hO9 hG9 ⊢
                        clear hW9
                        have hR19 : RepZ W9 r := (hG9.block r (by omega) (fun e => by cases e; omega)).trans HR16.out
                        obtain ⟨va, vq, hv⟩ := ownL_slice hO9
                        rw [List.length_take, Nat.min_eq_left (show k ≤ L.length by rw [HN.out]; omega)] at hv
                        subst hv
                        have HB9 := Lib.hid hB9
                        have HO9 := Lib.hid hO9
                        have HR19 := Lib.hid hR19
                        have HR9 := Lib.hid HR9
                        clear hB9 hO9 hG9 hR19
                        refine wp_region_lit (wpList_ld5 HR9.out rfl ?_)
                        have hre := readE_ok hrp.out
                        have HFIN : Hid (∀ w' e, e = Ending.returned (.tuple #[.agg #[.slice va k vq, .int .i64 K, .int .i64 V, .int .i64 (s1 : Int), .int .i64 (s3 : Int)], .int .i64 0, .int .i64 0]) → OwnL r w' (.slice va k vq) (L.take k) → ReadPost r (readE L en) e w') := Lib.hid (fun w' e he ho => by
                          rw [hre, he]
                          exact ⟨_, ho, rfl⟩)
                        clear hre
                        go_wp2_with (first | ((with_reducible refine wpList_st5 (p := va) (n := k) (c := vq) (i1 := K) (i2 := V) (i3 := (s1 : Int)) (i4 := (s3 : Int)) HR19.out ?hx ?hy ?_); (case hx => rfl); (case hy => rfl)) | ((first | (with_reducible refine id (?_ : Exit.then _ _ Exit.ret _ _)) | (with_reducible refine id (?_ : Exit.inBlock _ _ Exit.ret _ _)) | (with_reducible refine id (?_ : bodyPost _ _ _ Exit.ret _ _))); (try simp only [Exit.inBlock, Exit.then]); refine rrep_ret _ _ r _ _ _ _ _ _ _ (HR19.out.set5 _ _ _ _ _) rfl rfl rfl ⟨HFIN.out _ _ rfl (ownL_base (own_s5 HO9.out (by omega) _ _ _ _ _) (by omega)), below_s5 HB9.out (Nat.le_refl _) _ _ _ _ _⟩))
                · have h2b : (d2 == [112, 105, 99, 107, 115]) = false := beq_eq_false_iff_ne.2 h2
                  have hrp := Lib.hid (hrn.out (numsQ_word HD.out (.inr h2)))
                  clear h2 h0
                  have HER := Lib.hid (readE_err (hrp.out))
                  go_wp2_with (first | ((with_reducible refine wpList_st5 (p := none) (n := 0) (c := 0) (i1 := 0) (i2 := 0) (i3 := 0) (i4 := 0) (HR16.out) ?hx ?hy ?_); (case hx => rfl); (case hy => rfl)) | ((first | (with_reducible refine id (?_ : Exit.then _ _ Exit.ret _ _)) | (with_reducible refine id (?_ : Exit.inBlock _ _ Exit.ret _ _)) | (with_reducible refine id (?_ : bodyPost _ _ _ Exit.ret _ _))); (try simp only [Exit.inBlock, Exit.then]); refine rrep_ret _ _ r _ _ _ _ _ _ _ ((HR16.out).set5 _ _ _ _ _) rfl rfl rfl ⟨readPost_err HER.out (by first | rfl | (simp; done) | (simp; omega) | omega), below_s5 (HB6.out) (Nat.le_refl _) _ _ _ _ _⟩))
              · have h0b : (d0 == [115, 116, 101, 112, 115]) = false := beq_eq_false_iff_ne.2 h0
                have hrp := Lib.hid (hrn.out (numsQ_word HD.out (.inl h0)))
                clear h0
                have HER := Lib.hid (readE_err (hrp.out))
                go_wp2_with (first | ((with_reducible refine wpList_st5 (p := none) (n := 0) (c := 0) (i1 := 0) (i2 := 0) (i3 := 0) (i4 := 0) (HR16.out) ?hx ?hy ?_); (case hx => rfl); (case hy => rfl)) | ((first | (with_reducible refine id (?_ : Exit.then _ _ Exit.ret _ _)) | (with_reducible refine id (?_ : Exit.inBlock _ _ Exit.ret _ _)) | (with_reducible refine id (?_ : bodyPost _ _ _ Exit.ret _ _))); (try simp only [Exit.inBlock, Exit.then]); refine rrep_ret _ _ r _ _ _ _ _ _ _ ((HR16.out).set5 _ _ _ _ _) rfl rfl rfl ⟨readPost_err HER.out (by first | rfl | (simp; done) | (simp; omega) | omega), below_s5 (HB6.out) (Nat.le_refl _) _ _ _ _ _⟩))
            · have hrp := Lib.hid (hrn.out (numsQ_len y (by rw [HD.out]; exact hd4)))
              obtain ⟨nd, hnd⟩ : ∃ nd, D.length = nd := ⟨_, rfl⟩
              rw [hnd] at hd4 ⊢
              have hd4b : ((nd : Int) == 4) = false := beq_eq_false_iff_ne.2 (by omega)
              have hd4c : ((nd : Int) != 4) = true := by rw [bne, hd4b]; rfl
              clear hd4 hnd
              have HER := Lib.hid (readE_err (hrp.out))
              go_wp2_with (first | ((with_reducible refine wpList_st5 (p := none) (n := 0) (c := 0) (i1 := 0) (i2 := 0) (i3 := 0) (i4 := 0) (HR16.out) ?hx ?hy ?_); (case hx => rfl); (case hy => rfl)) | ((first | (with_reducible refine id (?_ : Exit.then _ _ Exit.ret _ _)) | (with_reducible refine id (?_ : Exit.inBlock _ _ Exit.ret _ _)) | (with_reducible refine id (?_ : bodyPost _ _ _ Exit.ret _ _))); (try simp only [Exit.inBlock, Exit.then]); refine rrep_ret _ _ r _ _ _ _ _ _ _ ((HR16.out).set5 _ _ _ _ _) rfl rfl rfl ⟨readPost_err HER.out (by first | rfl | (simp; done) | (simp; omega) | omega), below_s5 (HB6.out) (Nat.le_refl _) _ _ _ _ _⟩))
          · have hge2 : (m : Int) ≤ (k2 : Int) := by omega
            have hwk3 : IntKind.i64.wrap ((k2 : Int) + 1) = ((k2 + 1 : Nat) : Int) := by rw [IntKind.wrap_i64]; omega
            have hrp : Hid (readP L en = .error (k2 + 1)) := Lib.hid (by
              rw [hk2]
              exact readP_short L en k (by rw [HM.out]; exact hltm) HA.out x Hx.out Ht.out _ _ HQ.out (by rw [HM.out]; omega))
            clear hk2
            have HER := Lib.hid (readE_err (hrp.out))
            go_wp2_with (first | ((with_reducible refine wpList_st5 (p := none) (n := 0) (c := 0) (i1 := 0) (i2 := 0) (i3 := 0) (i4 := 0) (HR15.out) ?hx ?hy ?_); (case hx => rfl); (case hy => rfl)) | ((first | (with_reducible refine id (?_ : Exit.then _ _ Exit.ret _ _)) | (with_reducible refine id (?_ : Exit.inBlock _ _ Exit.ret _ _)) | (with_reducible refine id (?_ : bodyPost _ _ _ Exit.ret _ _))); (try simp only [Exit.inBlock, Exit.then]); refine rrep_ret _ _ r _ _ _ _ _ _ _ ((HR15.out).set5 _ _ _ _ _) rfl rfl rfl ⟨readPost_err HER.out (by first | rfl | (simp; done) | (simp; omega) | omega), below_s5 (HB5.out) (Nat.le_refl _) _ _ _ _ _⟩))
    · have hge : (m : Int) ≤ (k : Int) := by omega
      have hkm := Lib.hid (show k = wholeN L en by rw [HM.out]; omega)
      have hR1 : Hid (RepZ wr r) := Lib.hid ((HG.out.block r (by omega) (fun e => by cases e; omega)).trans HRr.out)
      have hBr : Hid (Below r w wr) := Lib.hid (below_grow3 HB0.out HG.out (by omega) (by omega))
      have HER := Lib.hid (readE_err (readP_end L en k hkm.out HA.out))
      go_wp2_with (first | ((with_reducible refine wpList_st5 (p := none) (n := 0) (c := 0) (i1 := 0) (i2 := 0) (i3 := 0) (i4 := 0) (hR1.out) ?hx ?hy ?_); (case hx => rfl); (case hy => rfl)) | ((first | (with_reducible refine id (?_ : Exit.then _ _ Exit.ret _ _)) | (with_reducible refine id (?_ : Exit.inBlock _ _ Exit.ret _ _)) | (with_reducible refine id (?_ : bodyPost _ _ _ Exit.ret _ _))); (try simp only [Exit.inBlock, Exit.then]); refine rrep_ret _ _ r _ _ _ _ _ _ _ ((hR1.out).set5 _ _ _ _ _) rfl rfl rfl ⟨readPost_err HER.out (by first | rfl | (simp; done) | (simp; omega) | omega), below_s5 (hBr.out) (Nat.le_refl _) _ _ _ _ _⟩))
end Go.Proofs.YthfnjphmodcnoaaDoor
namespace Go.Proofs.YthfnjphmodcnoaaDoor
open Go.RowKit
set_option linter.unusedSimpArgs false
set_option linter.unusedVariables false

theorem begins_self (A : List (List UInt8)) : beginsP A A = true := by unfold beginsP; simp
theorem strA_drewN {w : World} {v : Value} {L : List (List UInt8)} (h : StrA w v L) (n : Nat) : StrA (w.drewN n) v L := by
  obtain ⟨p, cap, h1, h2⟩ := h
  refine ⟨p, cap, h1, h2.imp id ?_⟩
  rintro ⟨b, o, h3, h4⟩
  exact ⟨b, o, h3, fun i z hz => by rw [World.cell?_drewN]; exact h4 i z hz⟩
theorem quiet_begins {v1 v2 : Value} {A : List (List UInt8)} {w : World} (hA : A.length ≤ 1073741824) (h1 : StrA w v1 A) (h2 : StrA w v2 A) (n : Nat) :
    Calls Tryd.prog 55 #[v1, v2] (w.drewN n) fun e w'' => e = .returned (.bool true) ∧ ∃ m, w'' = w.drewN m :=
  (begins_c v1 v2 A A (w.drewN n) hA hA (strA_drewN h1 n) (strA_drewN h2 n)).mono fun e w' ⟨he, q, hq⟩ => ⟨by rw [he, begins_self], n + q, by rw [hq]; first | rfl | rw [World.drewN_drewN] | simp⟩
set_option maxRecDepth 20000 in
set_option maxHeartbeats 4000000 in
theorem slists_c (b1 b2 : Nat) (v1 v2 : Value) (A : List (List UInt8)) (w : World) (hA : A.length ≤ 1073741824) (h1 : StrA w v1 A) (h2 : StrA w v2 A) (hc1 : w.cell? ⟨b1, 0, none⟩ = some v1) (hc2 : w.cell? ⟨b2, 0, none⟩ = some v2) :
    Calls Tryd.prog 35 #[.slice (some ⟨b1, 0, none⟩) 1 1, .slice (some ⟨b2, 0, none⟩) 1 1] w fun e w' => e = .returned (.bool true) ∧ ∃ q, w' = w.drewN q := by
  have HB1 := Lib.hid (fun (W : World) (q n : Nat) (hW : W = w.drewN q) => quiet_begins (w := W) hA (hW ▸ strA_drewN h1 q) (hW ▸ strA_drewN h2 q) n)
  have HB2 := Lib.hid (fun (W : World) (q n : Nat) (hW : W = w.drewN q) => quiet_begins (w := W) hA (hW ▸ strA_drewN h2 q) (hW ▸ strA_drewN h1 q) n)
  obtain ⟨p1, k1, rfl, -⟩ := h1
  obtain ⟨p2, k2, rfl, -⟩ := h2
  have HC1 := Lib.hid hc1
  have HC2 := Lib.hid hc2
  obtain ⟨n, hn⟩ : ∃ n, A.length = n := ⟨_, rfl⟩
  rw [hn] at hc1 hc2 HC1 HC2 HB1 HB2
  clear hn
  go_enter Tryd.func35, Tryd.ntmps35
  go_wp2_with fail
  go_loopw [5] (fun i wr => ∃ (k q : Nat), i = .int .i64 k ∧ k ≤ 1 ∧ wr = w.drewN q) (fun i _ => 1 - (intOf i).toNat)
  case atStart => exact ⟨0, 0, rfl, by omega, by rw [World.drewN_zero]⟩
  case round =>
    obtain ⟨k, q, rfl, hk, hwq⟩ := hrel
    by_cases hlt : k < 1
    · obtain rfl : k = 0 := by omega
      have q1 : wr.cell? ⟨b1, 0, none⟩ = some (.slice p1 n k1) := by rw [hwq, World.cell?_drewN]; exact HC1.out
      have q2 : wr.cell? ⟨b2, 0, none⟩ = some (.slice p2 n k2) := by rw [hwq, World.cell?_drewN]; exact HC2.out
      have HQ1 := Lib.hid (fun m => HB1.out wr q m hwq)
      have HQ2 := Lib.hid (fun m => HB2.out wr q m hwq)
      have HWQ := Lib.hid hwq
      clear hwq hc1 hc2
      go_wp2
      go_quiet (first | (go_at_call 55; with_reducible exact HQ1.out _) | (go_at_call 55; with_reducible exact HQ2.out _))
      go_wp2
      exact ⟨⟨1, q + nq, rfl, by omega, by rw [HWQ.out]; first | rfl | rw [World.drewN_drewN] | simp⟩, by simp [intOf]⟩
    · obtain rfl : k = 1 := by omega
      go_wp2
      go_ret
      exact ⟨rfl, q, by first | exact hwq | rfl⟩
set_option maxRecDepth 20000 in
set_option maxHeartbeats 4000000 in
theorem srep_c (v1 v2 : Value) (A : List (List UInt8)) (k c s p : Int) (w : World) (hA : A.length ≤ 1073741824) (h1 : StrA w v1 A) (h2 : StrA w v2 A) :
    Calls Tryd.prog 15 #[.agg #[v1, .int .i64 k, .int .i64 c, .int .i64 s, .int .i64 p], .agg #[v2, .int .i64 k, .int .i64 c, .int .i64 s, .int .i64 p]] w fun e w' => e = .returned (.bool true) ∧ Below w.heap.size w w' := by
  have HH1 := Lib.hid h1
  have HH2 := Lib.hid h2
  obtain ⟨p1, k1, rfl, -⟩ := h1
  obtain ⟨p2, k2, rfl, -⟩ := h2
  obtain ⟨W4, hW4⟩ : ∃ W4, W4 = ((((w.alloc (.cells #[.slice p1 A.length k1, .int .i64 k, .int .i64 c, .int .i64 s, .int .i64 p] 39)).alloc (.cells #[.slice p2 A.length k2, .int .i64 k, .int .i64 c, .int .i64 s, .int .i64 p] 39)).alloc (.cells #[.slice p1 A.length k1] 25)).alloc (.cells #[.slice p2 A.length k2] 25)) := ⟨_, rfl⟩
  have hB4 : Below w.heap.size w W4 := by rw [hW4]; exact ((((Below.refl w.heap.size w).alloc (Nat.le_refl _) _).alloc (by simp) _).alloc (by simp; omega) _).alloc (by simp; omega) _
  have hc2 : W4.cell? ⟨w.heap.size + 1 + 1 + 1, 0, none⟩ = some (.slice p2 A.length k2) := by
    rw [hW4]
    have := World.cell?_alloc_new (((w.alloc (.cells #[.slice p1 A.length k1, .int .i64 k, .int .i64 c, .int .i64 s, .int .i64 p] 39)).alloc (.cells #[.slice p2 A.length k2, .int .i64 k, .int .i64 c, .int .i64 s, .int .i64 p] 39)).alloc (.cells #[.slice p1 A.length k1] 25)) #[.slice p2 A.length k2] 25 0
    simpa using this
  have hc1 : W4.cell? ⟨w.heap.size + 1 + 1, 0, none⟩ = some (.slice p1 A.length k1) := by
    rw [hW4]
    have e := Below.heap_alloc (((w.alloc (.cells #[.slice p1 A.length k1, .int .i64 k, .int .i64 c, .int .i64 s, .int .i64 p] 39)).alloc (.cells #[.slice p2 A.length k2, .int .i64 k, .int .i64 c, .int .i64 s, .int .i64 p] 39)).alloc (.cells #[.slice p1 A.length k1] 25)) (.cells #[.slice p2 A.length k2] 25) (w.heap.size + 1 + 1) (by simp)
    rw [World.cell?_of_block (a := ⟨w.heap.size + 1 + 1, 0, none⟩) e]
    have := World.cell?_alloc_new ((w.alloc (.cells #[.slice p1 A.length k1, .int .i64 k, .int .i64 c, .int .i64 s, .int .i64 p] 39)).alloc (.cells #[.slice p2 A.length k2, .int .i64 k, .int .i64 c, .int .i64 s, .int .i64 p] 39)) #[.slice p1 A.length k1] 25 0
    simpa using this
  have HS := Lib.hid (slists_c _ _ _ _ A W4 hA (strA_below HH1.out hB4) (strA_below HH2.out hB4) hc1 hc2)
  have HB4 := Lib.hid hB4
  have HW := Lib.hid hW4
  clear hB4 hc1 hc2 hW4
  go_enter Tryd.func15, Tryd.ntmps15
  go_wp2_with fail
  rw [← HW.out]
  refine HS.out.mono ?_
  rintro e W5 ⟨rfl, q, hq⟩
  rw [HW.out] at hq
  subst hq
  go_wp2
  go_ret
  refine ⟨rfl, ?_⟩
  have := HB4.out
  rw [HW.out] at this
  exact below_dn this q
end Go.Proofs.YthfnjphmodcnoaaDoor
namespace Go.Proofs.YthfnjphmodcnoaaDoor
open Go.RowKit
set_option linter.unusedSimpArgs false
set_option linter.unusedVariables false

theorem readP_tr {L : List (List UInt8)} {en : Bool} {q : RepQ} (h : readP L en = .ok q) : q.tr.length ≤ L.length := by
  have h1 : ((wholeP L en).takeWhile toldP).length ≤ L.length := by
    refine Nat.le_trans (List.takeWhile_prefix toldP).length_le ?_
    rw [wholeP_len]; unfold wholeN; split <;> omega
  unfold readP at h
  dsimp only at h
  split at h
  · cases h
  · split at h
    · cases h
    · split at h
      · cases h
      · split at h
        · cases h
        · split at h
          · cases h
          · cases h; exact h1
theorem readT_tr {s : ByteArray} {q : RepQ} (h : readT (bl s) = .ok q) : q.tr.length ≤ 1073741824 := by
  unfold readT at h
  split at h
  · cases h
  · rename_i h6
    have hl := lines_len (bl s)
    split at h
    · cases h
    · rename_i q' hq
      cases h
      have := readP_tr hq
      omega
def rTr : Except (Nat × Nat) RepQ → List (List UInt8)
  | .error _ => []
  | .ok q => q.tr
def rInt : Except (Nat × Nat) RepQ → Int × Int × Int × Int × Int × Int
  | .error (l, c) => (0, 0, 0, 0, (l : Int), (c : Int))
  | .ok q => (q.k, q.v, (q.st : Int), (q.pk : Int), 0, 0)
theorem readPost_flat {B : Nat} {r : Except (Nat × Nat) RepQ} {e : Ending} {w' : World} (h : ReadPost B r e w') : ∃ p c, e = .returned (.tuple #[.agg #[.slice p (rTr r).length c, .int .i64 (rInt r).1, .int .i64 (rInt r).2.1, .int .i64 (rInt r).2.2.1, .int .i64 (rInt r).2.2.2.1], .int .i64 (rInt r).2.2.2.2.1, .int .i64 (rInt r).2.2.2.2.2]) ∧ OwnL B w' (.slice p (rTr r).length c) (rTr r) := by
  cases r with
  | error lc =>
    obtain ⟨l, c⟩ := lc
    exact ⟨none, 0, h, ownL_nil _ _⟩
  | ok q =>
    obtain ⟨v, ho, he⟩ := h
    obtain ⟨a, c, rfl⟩ := ownL_slice ho
    exact ⟨a, c, he, ho⟩
theorem read_all (s : ByteArray) (w : World) (h : Laid w) : Calls Tryd.prog 13 #[.string s] w fun e w' => ReadPost w.heap.size (readT (bl s)) e w' ∧ Below w.heap.size w w' := by
  by_cases h6 : 65536 < s.size
  · exact read_big s w h6
  · rw [readT_small (by rw [bl_len]; exact h6)]
    exact read_walk s w h (by omega)
theorem rrep_all (s : ByteArray) (w : World) : Calls Tryd.prog 14 #[.string s] w fun e w' => ReadPost w.heap.size (readT (bl s)) e w' ∧ Below w.heap.size w w' := by
  by_cases h6 : 65536 < s.size
  · exact rrep_big s w h6
  · rw [readT_small (by rw [bl_len]; exact h6)]
    exact rrep_walk s w (by omega)
set_option maxRecDepth 20000 in
set_option maxHeartbeats 4000000 in
theorem walkScriptReports (s : ByteArray) (hs : s.size ≤ maxLen) (w : World) (h : Laid w) : Calls Tryd.prog 5 #[.string s] w fun e w' => e = .returned (.bool true) ∧ Below w.heap.size w w' := by
  clear hs
  have hA := read_all s w h
  have hR := rrep_all s
  have hlen : (rTr (readT (bl s))).length ≤ 1073741824 := by
    cases hr : readT (bl s) with
    | error lc => exact Nat.zero_le _
    | ok q => exact readT_tr hr
  have hfl := fun (B : Nat) (e : Ending) (w' : World) => readPost_flat (B := B) (r := readT (bl s)) (e := e) (w' := w')
  obtain ⟨r, hr⟩ : ∃ r, readT (bl s) = r := ⟨_, rfl⟩
  rw [hr] at hA hR hlen hfl
  obtain ⟨T, hT⟩ : ∃ T, rTr r = T := ⟨_, rfl⟩
  obtain ⟨⟨K, C, S, Q, l, er⟩, hI⟩ : ∃ I, rInt r = I := ⟨_, rfl⟩
  rw [hT] at hlen hfl
  rw [hI] at hfl
  dsimp only at hfl
  have HA := Lib.hid hA
  have HR := Lib.hid hR
  have HF := Lib.hid hfl
  have HL := Lib.hid h
  have HLEN := Lib.hid hlen
  have hw9 := h.size
  clear hA hR hlen hfl hr hT hI h
  go_enter Tryd.func5, Tryd.ntmps5
  go_wp2_with (go_at_call 13; refine HA.out.mono ?_)
  rintro e_ W1 ⟨hp, hB1⟩
  obtain ⟨p1, c1, rfl, ho1⟩ := HF.out _ _ _ hp
  have HO1 := Lib.hid ho1
  have HB1 := Lib.hid hB1
  have hz1 := hB1.size
  clear hp ho1 hB1
  go_wp2_with (first | ((with_reducible refine wpList_st5 (p := p1) (n := T.length) (c := c1) (i1 := K) (i2 := C) (i3 := S) (i4 := Q) (RepB.new W1) ?hx ?hy ?_); (case hx => rfl); (case hy => rfl)) | (go_at_call 14; refine (HR.out _).mono ?_))
  rintro e_ W2 ⟨hp, hB2⟩
  have hBs1 := below_s5 ((Below.refl W1.heap.size W1).alloc (Nat.le_refl _) (.cells #[.slice none 0 0, .int .i64 0, .int .i64 0, .int .i64 0, .int .i64 0] 39)) (Nat.le_refl _) (.slice p1 T.length c1) (.int .i64 K) (.int .i64 C) (.int .i64 S) (.int .i64 Q)
  have hRs1 := (RepB.new W1).set5 (.slice p1 T.length c1) (.int .i64 K) (.int .i64 C) (.int .i64 S) (.int .i64 Q)
  obtain ⟨p2, c2, rfl, ho2⟩ := HF.out _ _ _ hp
  have HR2 := Lib.hid (hRs1.below hB2)
  have HB2 := Lib.hid (hBs1.trans (hB2.mono hBs1.size))
  have HO2 := Lib.hid ho2
  have hz2 := HB2.out.size
  clear hp ho2 hB2 hBs1 hRs1
  go_wp2_with (first | ((with_reducible refine wpList_st5 (p := p2) (n := T.length) (c := c2) (i1 := K) (i2 := C) (i3 := S) (i4 := Q) (RepB.new W2) ?hx ?hy ?_); (case hx => rfl); (case hy => rfl)) | (go_at_call 9; fail))
  have hB3 := below_s5 ((Below.refl W2.heap.size W2).alloc (Nat.le_refl _) (.cells #[.slice none 0 0, .int .i64 0, .int .i64 0, .int .i64 0, .int .i64 0] 39)) (Nat.le_refl _) (.slice p2 T.length c2) (.int .i64 K) (.int .i64 C) (.int .i64 S) (.int .i64 Q)
  have hR3 := (RepB.new W2).set5 (.slice p2 T.length c2) (.int .i64 K) (.int .i64 C) (.int .i64 S) (.int .i64 Q)
  obtain ⟨W3, hW3⟩ : ∃ W3, W3 = set5 (W2.alloc (.cells #[.slice none 0 0, .int .i64 0, .int .i64 0, .int .i64 0, .int .i64 0] 39)) W2.heap.size (.slice p2 T.length c2) (.int .i64 K) (.int .i64 C) (.int .i64 S) (.int .i64 Q) := ⟨_, rfl⟩
  rw [← hW3] at hB3 hR3 ⊢
  have hB13 := HB2.out.trans (hB3.mono hz2)
  have HAN := Lib.hid (answers_c W3 ((HL.out.below HB1.out).below hB13))
  have hRa3 := HR2.out.below hB3
  have HS1 := Lib.hid (strA_below (ownL_str HO1.out) hB13)
  have HS2 := Lib.hid (strA_below (ownL_str HO2.out) hB3)
  have HB3 : Hid (Below w.heap.size w W3) := Lib.hid (HB1.out.trans (hB13.mono hz1))
  have HRa3 := Lib.hid hRa3
  have HRb3 := Lib.hid hR3
  clear hW3 hB3 hR3 hRa3 hB13 HO1 HO2 HR2 HB2 HB1
  refine HAN.out.mono ?_
  rintro e_ W4 ⟨rfl, hB4⟩
  have hR1 := HRa3.out.below hB4
  have hR2 := HRb3.out.below hB4
  obtain ⟨m0, m1, m2, m3, m4, -, -, -, -, -⟩ := hR1.facts
  obtain ⟨n0, n1, n2, n3, n4, -, -, -, -, -⟩ := hR2.facts
  have HSR := Lib.hid (srep_c (.slice p1 T.length c1) (.slice p2 T.length c2) T K C S Q W4 HLEN.out (strA_below HS1.out hB4) (strA_below HS2.out hB4))
  have HB4 := Lib.hid (HB3.out.trans (hB4.mono HB3.out.size))
  clear hR1 hR2 hB4
  go_wp2_with (go_at_call 15; refine HSR.out.mono ?_)
  rintro e_ W5 ⟨rfl, hB5⟩
  have HB5 := Lib.hid (HB4.out.trans (hB5.mono HB4.out.size))
  clear hB5
  go_wp2
  go_ret
  exact ⟨rfl, HB5.out⟩
end Go.Proofs.YthfnjphmodcnoaaDoor
