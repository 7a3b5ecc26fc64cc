/- The law CheckHides: the tables as the evaluator's first heap; a call of check.Source out of its pieces; answers returns true. -/
import Derived.Test.YtakfgbedmglffaaGreatDoorOb
namespace Go.Proofs.YtakfgbedmglffaaGreatDoor
open Go.RowKit
open Ev
set_option linter.unusedSimpArgs false
set_option linter.unusedVariables false

/-- where the evaluator's first numbers lie -/
def planO (f : Where) : Plan := fun b => if b = 0 then some ⟨0, 0, 33, 1⟩ else if b = 4 then some ⟨4, 0, 5, 1⟩ else if b < 10 then some ⟨b, 0, 0, 0⟩ else if b < 15 then some ⟨(f (b - 10)).1, (f (b - 10)).2.1, (f (b - 10)).2.1 + (f (b - 10)).2.2, 1⟩ else none
theorem planO_at (f : Where) {i : Nat} (hi : i < 5) : planO f (10 + i) = some ⟨(f i).1, (f i).2.1, (f i).2.1 + (f i).2.2, 1⟩ := by
  unfold planO
  rw [if_neg (by omega), if_neg (by omega), if_neg (by omega), if_pos (by omega), show 10 + i - 10 = i by omega]
theorem planO_ax (f : Where) : Ax f (planO f) := ⟨fun _ hi => ⟨_, planO_at f hi, Nat.le_refl _⟩⟩
theorem heapO_get (b : Nat) : heapO.get b = if b = 0 then some rowSigns else if b = 4 then some rowOps else none := by
  unfold heapO rowsR
  rw [Tree.get_set]
  unfold rowsR
  rw [Tree.get_set]
  rfl
theorem signs_plain : signCells.all (plainF 9) = true := by decide +kernel
theorem ops_vr {w : World} {f : Where} (hL : Laid w f) : VRs (planO f) opsCells (opsAt f) := by
  have one : ∀ i, i < 5 → VR (planO f) (.slice (some ⟨10 + i, 0, none⟩) (lenAt i) unk) (.slice (some ⟨(f i).1, (f i).2.1, none⟩) (lenAt i) (f i).2.2) := fun i hi =>
    .sliceU (s := ⟨(f i).1, (f i).2.1, (f i).2.1 + (f i).2.2, 1⟩) (o := 0) (planO_at f hi) (hL.room i hi).1 (hL.room i hi).2 (by simp)
  exact .cons (one 0 (by decide)) (.cons (one 1 (by decide)) (.cons (one 2 (by decide)) (.cons (one 3 (by decide)) (.cons (one 4 (by decide)) .nil))))
theorem relO {K : Cfg} (hn : K.n = 15) (hg : K.g = 10) {f : Where} {w : World} (hL : Laid w f) (hd : Dis K (planO f)) : Rel K w.heap.size w (planO f) heapO w := by
  refine ⟨Below.refl _ _, Nat.le_refl _, fun b hb => ?_, hd, fun b o h => ?_, fun b b' o o' s s' h h' e e' hs => ?_⟩
  · rw [hg] at hb
    unfold planO
    by_cases h0 : b = 0
    · subst h0; exact ⟨_, rfl, rfl, rfl⟩
    · by_cases h4 : b = 4
      · subst h4; exact ⟨_, rfl, rfl, rfl⟩
      · rw [if_neg h0, if_neg h4, if_pos hb]
        exact ⟨_, rfl, rfl, rfl⟩
  · rw [heapO_get] at h
    split at h
    · rename_i h0
      subst h0
      cases h
      have hlt : 0 < w.heap.size := Nat.lt_of_lt_of_le (by decide) hL.size
      refine ⟨⟨0, 0, 33, 1⟩, rfl, fun hh => absurd hh (by omega), hlt, rfl, signCells.toArray, (0, 0), hL.signs, rfl, by decide, ?_, fun j _ => by simp⟩
      exact VRs.of_all (fun v hv => plain_vr 9 v hv) _ signs_plain
    · split at h
      · rename_i h0 h4
        subst h4
        cases h
        have hlt : 4 < w.heap.size := Nat.lt_of_lt_of_le (by decide) hL.size
        exact ⟨⟨4, 0, 5, 1⟩, rfl, fun hh => absurd hh (by omega), hlt, rfl, (opsAt f).toArray, (0, 0), hL.ops, rfl, by simp [opsCells, opsAt], ops_vr hL, fun j _ => by simp⟩
      · cases h
  · have key : ∀ {b o}, heapO.get b = some o → b = 0 ∨ b = 4 := fun {b o} h => by
      rw [heapO_get] at h
      split at h
      · rename_i hb; exact .inl hb
      · split at h
        · rename_i _ hb; exact .inr hb
        · cases h
    rcases key h with rfl | rfl <;> rcases key h' with rfl | rfl
    · rfl
    · cases e; cases e'; cases hs
    · cases e; cases e'; cases hs
    · rfl
section
variable {K : Cfg} {base : Nat} {w0 : World}
theorem runs_nil {g : FuncId} : ∀ x ∈ ([] : List (FuncId × List Run)), ∀ r ∈ x.2, RunOK Tryz.prog K base w0 x.1 r := fun x hx => by cases hx
theorem runs_one {g : FuncId} {r : Run} (h : RunOK Tryz.prog K base w0 g r) : ∀ x ∈ [(g, [r])], ∀ r ∈ x.2, RunOK Tryz.prog K base w0 x.1 r := fun x hx r' hr => by
  obtain rfl := List.mem_singleton.1 hx
  obtain rfl := List.mem_singleton.1 hr
  exact h
theorem runs_two {g g' : FuncId} {r r' : Run} (h : RunOK Tryz.prog K base w0 g r) (h' : RunOK Tryz.prog K base w0 g' r') : ∀ x ∈ [(g, [r]), (g', [r'])], ∀ r ∈ x.2, RunOK Tryz.prog K base w0 x.1 r := fun x hx r1 hr => by
  rcases List.mem_cons.1 hx with rfl | hx
  · obtain rfl := List.mem_singleton.1 hr
    exact h
  · obtain rfl := List.mem_singleton.1 hx
    obtain rfl := List.mem_singleton.1 hr
    exact h'
theorem runs_list {g : FuncId} {l : List Run} (h : ∀ r ∈ l, RunOK Tryz.prog K base w0 g r) : ∀ x ∈ [(g, l)], ∀ r ∈ x.2, RunOK Tryz.prog K base w0 x.1 r := fun x hx r' hr => by
  obtain rfl := List.mem_singleton.1 hx
  exact h r' hr
/-- a call of check.Source out of its pieces -/
theorem source_ok (horc : OrcOK Tryz.prog K base w0) {ones : List Run} {tok par chk prg sou : Run} {f : Nat}
    (e0 : (ones.all fun r => okRun r (evCall Tryz.prog (K.tell []) f 39 r.args (rowsR r.rd) r.c0)) = true)
    (e1 : okRun tok (evCall Tryz.prog (K.tell [(39, ones)]) f 14 tok.args (rowsR tok.rd) tok.c0) = true)
    (e2 : okRun par (evCall Tryz.prog (K.tell [(14, [tok])]) f 6 par.args (rowsR par.rd) par.c0) = true)
    (e3 : okRun chk (evCall Tryz.prog (K.tell []) f 10 chk.args (rowsR chk.rd) chk.c0) = true)
    (e4 : okRun prg (evCall Tryz.prog (K.tell [(10, [chk])]) f 7 prg.args (rowsR prg.rd) prg.c0) = true)
    (e5 : okRun sou (evCall Tryz.prog (K.tell [(6, [par]), (7, [prg])]) f 4 sou.args (rowsR sou.rd) sou.c0) = true) :
    RunOK Tryz.prog K base w0 4 sou := by
  have h0 := orc_tell follows horc (runs_nil (K := K) (base := base) (w0 := w0) (g := 0))
  have r1 : RunOK Tryz.prog K base w0 14 tok := ⟨_, f, orc_tell follows horc (runs_list fun r hr => ⟨[], f, h0, List.all_eq_true.1 e0 r hr⟩), e1⟩
  have r2 : RunOK Tryz.prog K base w0 6 par := ⟨_, f, orc_tell follows horc (runs_one r1), e2⟩
  have r3 : RunOK Tryz.prog K base w0 10 chk := ⟨[], f, h0, e3⟩
  have r4 : RunOK Tryz.prog K base w0 7 prg := ⟨_, f, orc_tell follows horc (runs_one r3), e4⟩
  exact ⟨_, f, orc_tell follows horc (runs_two r2 r4), e5⟩
end
theorem answers_E : ∀ ax axm, saysTrue (evCall Tryz.prog ((cfgO ax axm).tell [(4, [souA, souB])]) 100000 5 [] heapO 15) = true := fun _ _ => by kernel_rfl
theorem answers_c (f : Where) (w : World) (hL : Laid w f) : Calls Tryz.prog 5 #[] w fun e w' => e = .returned (.bool true) ∧ Below w.heap.size w w' := by
  have horc := orcO_ok hL
  have hA := source_ok horc (one_EA _ _) (tok_EA _ _) (par_EA _ _) (chk_EA _ _) (prg_EA _ _) (sou_EA _ _)
  have hB := source_ok horc (one_EB _ _) (tok_EB _ _) (par_EB _ _) (chk_EB _ _) (prg_EB _ _) (sou_EB _ _)
  have horc2 := orc_tell (l := [(4, [souA, souB])]) follows horc (fun x hx r hr => by
    obtain rfl := List.mem_singleton.1 hx
    rcases List.mem_cons.1 hr with rfl | hr
    · exact hA
    · obtain rfl := List.mem_singleton.1 hr
      exact hB)
  refine saysTrue_ok (base := w.heap.size) (w0 := w) (p := planO f) follows horc2 (answers_E (Ax f) Ax.mono) (fun b hb => by rw [heapO_get, if_neg (by omega), if_neg (by omega)]) (relO rfl rfl hL ⟨fun x hx => (by cases hx), planO_ax f⟩) (args' := #[]) .nil (fun b hb => ?_)
  unfold planO
  rw [if_neg (by omega), if_neg (by omega), if_neg (by omega), if_neg (by omega)]
end Go.Proofs.YtakfgbedmglffaaGreatDoor
