/- The evaluator's append, held against the model's: whatever capacity a slice has come to. No program in sight. -/
import Derived.Test.YtakfgbedmglffaaGreatDoorMe
import Derived.Deep.AppendSrc
import Derived.Deep.Upon
import Derived.Lib.SlBuf
namespace Go.Proofs.YtakfgbedmglffaaGreatDoor
set_option linter.unusedSimpArgs false
set_option linter.unusedVariables false
namespace Ev
open Go.RowKit

theorem putAll_eq : ∀ (vs cs : List Value) (o : Nat), o + vs.length ≤ cs.length → putAll cs o vs = cs.take o ++ vs ++ cs.drop (o + vs.length)
  | [], cs, o, h => by simp [putAll]
  | v :: vs, cs, o, h => by
    simp only [List.length_cons] at h
    rw [putAll, putAll_eq vs _ _ (by simp; omega)]
    apply List.ext_getElem?
    intro k
    simp only [List.getElem?_append, List.length_append, List.length_take, List.length_set, List.length_cons, List.getElem?_take, List.getElem?_drop, List.getElem?_set, List.getElem?_cons]
    repeat' split
    all_goals first | rfl | omega | (exfalso; omega) | (congr 1; omega) | skip
    all_goals simp_all
    all_goals first | omega | (congr 1; omega) | skip
theorem heap_setCells (g : Nat) (t : TypeId) (fr : Nat × Nat) : ∀ (vs : List Value) (o : Nat) (w : World) (bs : Array Value), w.heap[g]? = some (.cells bs t fr) → (w.setCells g o vs).heap[g]? = some (.cells (putAll bs.toList o vs).toArray t fr)
  | [], o, w, bs, h => h
  | v :: vs, o, w, bs, h => by
    have h1 : (w.setCell ⟨g, o, none⟩ v).heap[g]? = some (.cells (bs.setIfInBounds o v) t fr) := by
      simp only [World.setCell, Array.getElem?_modify, if_true, h, Option.map_some]
      rfl
    have := heap_setCells g t fr vs (o + 1) _ _ h1
    rw [Array.toList_setIfInBounds] at this
    exact this
theorem size_setCells (g : Nat) : ∀ (vs : List Value) (o : Nat) (w : World), (w.setCells g o vs).heap.size = w.heap.size
  | [], _, _ => rfl
  | v :: vs, o, w => (size_setCells g vs (o + 1) (w.setCell ⟨g, o, none⟩ v)).trans (by simp)
section
variable {P : Program} {K : Cfg} {base : Nat} {w0 w : World} {p : Plan} {h h' : Tree AObj} {c c' : Nat} {l : Log}
/-- a row goes on, in its own block, behind a part of itself: under a new number -/
theorem Rel.goOn (hr : Rel K base w0 p h w) {b : Nat} {cs : List Value} {t : TypeId} {sz : Nat} (hb : h.get b = some (.row cs t sz)) (hK : K.n ≤ b) {s : Spot} (hs : p b = some s) (hp : p c = none) (hcb : c ≠ b)
    (O : Nat) (olds olds' news news' : List Value) (hO : ∀ (bs : Array Value) (fr : Nat × Nat), w.heap[s.blk]? = some (.cells bs t fr) → bs.size = s.size → (bs.toList.drop O).take olds.length = olds') (hov : VRs p olds olds') (hnv : VRs p news news')
    (hfit : O + olds.length + news.length ≤ s.size) :
    Rel K base w0 (p.add c ⟨s.blk, O, s.size, sz⟩) ((h.set b none).set c (some (.row (olds ++ news) t sz))) (w.setCells s.blk (O + olds.length) news') := by
  obtain ⟨s', g1, hB, hlt, hR⟩ := hr.at_ b _ hb
  obtain rfl : s' = s := Option.some.inj (g1.symm.trans hs)
  obtain ⟨bs, fr, k1, k2, k3, k4, kf⟩ := hR.at_
  have hle := Plan.le_add (s := ⟨s'.blk, O, s'.size, sz⟩) hp
  have hnl := hnv.len
  have hol := hov.len
  have hoe := hO bs fr k1 k2
  have hother : ∀ x o, x ≠ c → ((h.set b none).set c (some (.row (olds ++ news) t sz))).get x = some o → x ≠ b ∧ h.get x = some o := fun x o hx hg => by
    rw [Tree.get_set, if_neg hx, Tree.get_set] at hg
    split at hg
    · cases hg
    · rename_i e; exact ⟨e, hg⟩
  refine ⟨RowKit.Below.trans hr.below ?_, by rw [size_setCells]; exact hr.le, fun x hx => (hr.glob x hx).imp fun s3 hs3 => ⟨hle _ _ hs3.1, hs3.2⟩, hr.dis.mono hle, fun x o hx => ?_, fun x y o o2 s1 s2 h1 h2 e1 e2 e => ?_⟩
  · exact Lib.below_setCells _ (hB hK) _ _ (Below.refl _ _)
  · by_cases e : x = c
    · subst e
      rw [Tree.get_set, if_pos rfl] at hx
      cases hx
      refine ⟨_, Plan.add_self _ _ _, fun _ => hB hK, by rw [size_setCells]; exact hlt, rfl, (putAll bs.toList (O + olds.length) news').toArray, fr, heap_setCells _ _ _ _ _ _ _ k1, by simp [putAll_length, k2], ?_, ?_, fun j hj => kf j (by simpa [putAll_length] using hj)⟩
      · simp [putAll_length, k2]; omega
      · have e1 : ((putAll bs.toList (O + olds.length) news').toArray.toList.drop O).take (olds ++ news).length = olds' ++ news' := by
          rw [putAll_eq _ _ _ (by simp [k2]; omega)]
          have e2 : bs.toList.take (O + olds.length) = bs.toList.take O ++ olds' := by
            rw [← hoe, List.take_add]
          simp only [e2, List.append_assoc]
          have e3 : (bs.toList.take O).length = O := by simp [k2]; omega
          rw [List.drop_append_of_le_length (by omega), List.drop_of_length_le (by omega), List.nil_append, ← List.append_assoc, List.take_append_of_le_length (by simp; omega), List.take_of_length_le (by simp; omega)]
        rw [e1]
        exact (hov.append hnv).mono hle
    · obtain ⟨e1, e2⟩ := hother x o e hx
      obtain ⟨s2, q1, q2, q3, q4⟩ := hr.at_ x o e2
      refine ⟨s2, hle _ _ q1, q2, by rw [size_setCells]; exact q3, q4.mono hle (World.heap_setCells_other _ _ _ _ q3 fun e3 => e1 (hr.one x b _ _ _ _ e2 hb q1 hs e3))⟩
  · have spot : ∀ x o s, ((h.set b none).set c (some (.row (olds ++ news) t sz))).get x = some o → (p.add c ⟨s'.blk, O, s'.size, sz⟩) x = some s → x ≠ c → ∃ o', x ≠ b ∧ h.get x = some o' ∧ p x = some s := fun x o s hx hsx hxc => by
      obtain ⟨f1, f2⟩ := hother x o hxc hx
      refine ⟨o, f1, f2, ?_⟩
      rw [Plan.add, if_neg hxc] at hsx; exact hsx
    by_cases ex : x = c
    · by_cases ey : y = c
      · rw [ex, ey]
      · obtain ⟨o', f1, f2, f3⟩ := spot y o2 s2 h2 e2 ey
        rw [ex, Plan.add_self] at e1
        cases e1
        exact absurd (hr.one y b _ _ _ _ f2 hb f3 hs e.symm) f1
    · obtain ⟨o', f1, f2, f3⟩ := spot x o s1 h1 e1 ex
      by_cases ey : y = c
      · rw [ey, Plan.add_self] at e2
        cases e2
        exact absurd (hr.one x b _ _ _ _ f2 hb f3 hs e) f1
      · obtain ⟨o3, f4, f5, f6⟩ := spot y o2 s2 h2 e2 ey
        exact hr.one _ _ _ _ _ _ f2 f5 f3 f6 e
end
end Ev
end Go.Proofs.YtakfgbedmglffaaGreatDoor
