/- The law CheckHides: short names for values; the configuration that is told of answers besides. -/
import Derived.Test.YtakfgbedmglffaaGreatDoorOa
namespace Go.Proofs.YtakfgbedmglffaaGreatDoor
open Go.RowKit
open Ev
set_option linter.unusedSimpArgs false
set_option linter.unusedVariables false

abbrev vB (b : Bool) : Value := .bool b
abbrev vI (n : Int) : Value := .int .i64 n
abbrev vU (n : Int) : Value := .int .u64 n
abbrev vS (l : List UInt8) : Value := strV l
abbrev vP (b o : Nat) : Value := .pointer (some ⟨b, o, none⟩)
abbrev vN : Value := .slice none 0 0
abbrev vL (b o n c : Nat) : Value := .slice (some ⟨b, o, none⟩) n c
noncomputable def orcH (g : FuncId) (args : List Value) : Option (M AObj Value) := match Nat.beq g 5 with
  | true => match args with
    | [] => some (M.pure (.bool true))
    | _ => none
  | false => orcO g args
theorem orcH_local : ∀ g args m, orcH g args = some m → M.Local m := by
  intro g args m e
  unfold orcH at e
  split at e
  · split at e <;> cases e
    exact M.local_pure _
  · exact orcO_local g args m e
noncomputable def cfgH (ax : Plan → Prop) (axm : ∀ p q : Plan, p.le q → ax p → ax q) : Cfg := ⟨15, 10, [], orcH, orcH_local, ax, axm⟩
theorem all_app {α : Type} {p : α → Bool} {l m : List α} (h : l.all p = true) (k : m.all p = true) : (l ++ m).all p = true := by rw [List.all_append, h, k]; rfl
theorem Rel.same {K K' : Cfg} {base : Nat} {w0 : World} {p : Plan} {h : Tree AObj} {w : World} (hr : Rel K base w0 p h w) (hn : K'.n = K.n) (hg : K'.g = K.g) (hd : Dis K p → Dis K' p) : Rel K' base w0 p h w := Rel.cfg hr hn hg hd
theorem orcH_ok {w0 : World} {f : Where} (hL : Laid w0 f) (hA : ∀ w, Laid w f → Calls Tryz.prog 5 #[] w fun e w' => e = .returned (.bool true) ∧ Below w.heap.size w w') : OrcOK Tryz.prog (cfgH (Ax f) Ax.mono) w0.heap.size w0 := by
  intro g args m e h c v h' c' lg em p w args' hr hv hf
  have e' : orcH g args = some m := e
  have hr0 : Rel (cfgO (Ax f) Ax.mono) w0.heap.size w0 p h w := Rel.cfg hr rfl rfl (fun h => h)
  unfold orcH at e'
  split at e'
  · rename_i hg
    split at e'
    · cases e'
      obtain ⟨rfl, rfl, rfl⟩ := pure_inv em
      have ha : args' = #[] := by
        apply Array.toList_inj.1
        cases hal : args'.toList with
        | nil => rfl
        | cons v1 m1 => rw [hal] at hv; cases hv
      rw [ha, Nat.eq_of_beq_eq_true hg]
      refine (hA w (hL.below hr.below)).mono ?_
      rintro e w' ⟨rfl, hb⟩
      exact ⟨p, _, rfl, Plan.le_refl _, Out.rfl, hr.quiet hb, .bool _⟩
    · cases e'
  · refine (orcO_ok hL g args m e' h c v h' c' lg em p w args' hr0 hv hf).mono ?_
    rintro e w' ⟨p', v', q1, q2, q3, q4, q5⟩
    exact ⟨p', v', q1, q2, q3, Rel.cfg q4 rfl rfl (fun h => h), q5⟩
end Go.Proofs.YtakfgbedmglffaaGreatDoor
