/- The law CheckHides: what the evaluator is told of the library: the beginning of a text, blanks ahead, what is in a text, letters, what is in a list of operators; the tables of signs and operators. -/
import Derived.Test.YtakfgbedmglffaaGreatDoorNr
import Derived.Test.YtakfgbedmglffaaGreatDoorOs
import Derived.Test.YtakfgbedmglffaaGreatDoorQ
import Derived.Test.YtakfgbedmglffaaGreatDoorPa
import Derived.Test.YtakfgbedmglffaaGreatDoorTc
import Derived.Test.YtakfgbedmglffaaGreatDoorChecked
import Derived.KernelRfl
import Derived.Shelf.Strings.SlTrimAscii
namespace Go.Proofs.YtakfgbedmglffaaGreatDoor
open Go.RowKit
open Ev
set_option linter.unusedSimpArgs false
set_option linter.unusedVariables false

def strV (l : List UInt8) : Value := .string ⟨l.toArray⟩
def signsL : List (List UInt8) := [[60, 60], [62, 62], [38, 94], [38, 38], [124, 124], [61, 61], [33, 61], [60, 61], [62, 61], [58, 61], [60, 45], [43], [45], [42], [47], [37], [38], [124], [94], [33], [60], [62], [61], [40], [41], [91], [93], [123], [125], [44], [46], [58], [59]]
def signCells : List Value := signsL.map strV
def opsLL : List (List (List UInt8)) := [[[42], [47], [37], [60, 60], [62, 62], [38], [38, 94]], [[43], [45], [124], [94]], [[61, 61], [33, 61], [60], [60, 61], [62], [62, 61]], [[38, 38]], [[124, 124]]]
/-- where the lists of operators lie: block, place, room -/
abbrev Where := Nat → Nat × Nat × Nat
def opsAt (f : Where) : List Value := [.slice (some ⟨(f 0).1, (f 0).2.1, none⟩) 7 (f 0).2.2, .slice (some ⟨(f 1).1, (f 1).2.1, none⟩) 4 (f 1).2.2, .slice (some ⟨(f 2).1, (f 2).2.1, none⟩) 6 (f 2).2.2, .slice (some ⟨(f 3).1, (f 3).2.1, none⟩) 1 (f 3).2.2, .slice (some ⟨(f 4).1, (f 4).2.1, none⟩) 1 (f 4).2.2]
def lenAt : Nat → Nat
  | 0 => 7
  | 1 => 4
  | 2 => 6
  | _ => 1
structure Laid (w : World) (f : Where) : Prop where
  size : 10 ≤ w.heap.size
  most : ∃ m, w.cell? ⟨3, 0, none⟩ = some (.int .i64 m)
  signs : w.heap[0]? = some (.cells signCells.toArray 130)
  ops : w.heap[4]? = some (.cells (opsAt f).toArray 188)
  room : ∀ i, i < 5 → lenAt i ≤ (f i).2.2 ∧ (f i).2.2 ≤ maxLen
  cells : ∀ (i : Nat) (z : List (List UInt8)), opsLL[i]? = some z → ∀ (j : Nat) (x : List UInt8), z[j]? = some x → w.cell? ⟨(f i).1, (f i).2.1 + j, none⟩ = some (strV x)
theorem cell_lt {w : World} {b o : Nat} {v : Value} (h : w.cell? ⟨b, o, none⟩ = some v) : b < w.heap.size := by
  unfold World.cell? at h
  dsimp only at h
  rcases Nat.lt_or_ge b w.heap.size with h1 | h1
  · exact h1
  · rw [Array.getElem?_eq_none h1] at h
    cases h
theorem Laid.below {w w' : World} {f : Where} (h : Laid w f) (hb : Below w.heap.size w w') : Laid w' f := by
  have hs := h.size
  obtain ⟨m, hm⟩ := h.most
  refine ⟨Nat.le_trans hs hb.size, ⟨m, ?_⟩, ?_, ?_, h.room, fun i z hz j x hx => ?_⟩
  · rw [hb.cell (p := ⟨_, 0, none⟩) (Nat.lt_of_lt_of_le (by decide) hs)]; exact hm
  · rw [hb.block _ (Nat.lt_of_lt_of_le (by decide) hs)]; exact h.signs
  · rw [hb.block _ (Nat.lt_of_lt_of_le (by decide) hs)]; exact h.ops
  · have := h.cells i z hz j x hx
    rw [hb.cell (p := ⟨_, _, none⟩) (cell_lt this)]; exact this
theorem Laid.same {w w' : World} {f : Where} (h : Laid w f) (e : w' = w) : Laid w' f := e ▸ h
theorem follows : (Tryz.prog).follows .mixedOrders = true := by kernel_rfl
theorem letter_any (r : Int) (w : World) : Calls Tryz.prog 65 #[.int .i32 r] w fun e w' => e = .returned (.bool (isLet r)) ∧ w = w' := by
  go_enter Tryz.func65, Tryz.ntmps65
  go_wp2
  all_goals (go_ret; refine ⟨ret_bool ?_, rfl⟩; first | (simp [isLet]; done) | (rw [Bool.eq_iff_iff]; simp [isLet]; omega) | (simp_all [isLet]; omega) | (rw [Bool.eq_iff_iff]; simp_all [isLet]; try omega))
/-! ### plain functions for the kernel -/
def preN : List UInt8 → List UInt8 → Bool
  | [], _ => true
  | _ :: _, [] => false
  | a :: p, b :: s => Nat.beq a.toNat b.toNat && preN p s
theorem byte_beq (a b : UInt8) : Nat.beq a.toNat b.toNat = (a == b) := by
  rw [Bool.eq_iff_iff]
  constructor
  · intro h
    rw [UInt8.toNat_inj.1 (Nat.eq_of_beq_eq_true h)]
    exact beq_self_eq_true b
  · intro h
    have : a = b := by simpa using h
    rw [this]
    exact Nat.beq_refl _
theorem preN_eq : ∀ p s : List UInt8, preN p s = p.isPrefixOf s
  | [], s => by unfold preN; rfl
  | _ :: _, [] => by unfold preN; rfl
  | a :: p, b :: s => by
    unfold preN
    rw [byte_beq, preN_eq p s]
    rfl
def blankN (b : UInt8) : Bool := Nat.beq b.toNat 9 || (Nat.beq b.toNat 13 || Nat.beq b.toNat 32)
def trimN : List UInt8 → List UInt8
  | [] => []
  | b :: l => match blankN b with
    | true => trimN l
    | false => b :: l
theorem trimN_eq : ∀ l : List UInt8, trimN l = Lib.trimLeftS l [9, 13, 32]
  | [] => rfl
  | b :: l => by
    have hb : blankN b = ([9, 13, 32] : List UInt8).contains b := by
      unfold blankN
      rw [show (9 : Nat) = (9 : UInt8).toNat from rfl, show (13 : Nat) = (13 : UInt8).toNat from rfl, show (32 : Nat) = (32 : UInt8).toNat from rfl, byte_beq, byte_beq, byte_beq]
      simp only [List.contains, List.elem]
      cases b == 9 <;> cases b == 13 <;> cases b == 32 <;> rfl
    unfold trimN Lib.trimLeftS
    rw [List.dropWhile_cons, ← hb]
    cases h : blankN b with
    | true => rw [if_pos rfl]; exact trimN_eq l
    | false => rw [if_neg (by decide)]
def findN (p : List UInt8) : List UInt8 → Bool
  | [] => preN p []
  | b :: s => preN p (b :: s) || findN p s
theorem findN_iff (p : List UInt8) : ∀ s, findN p s = true ↔ ∃ a, p.isPrefixOf (s.drop a) = true
  | [] => by
    unfold findN
    rw [preN_eq]
    exact ⟨fun h => ⟨0, h⟩, fun ⟨a, h⟩ => by simpa using h⟩
  | b :: s => by
    unfold findN
    rw [Bool.or_eq_true, preN_eq, findN_iff p s]
    constructor
    · rintro (h | ⟨a, h⟩)
      · exact ⟨0, h⟩
      · exact ⟨a + 1, h⟩
    · rintro ⟨a, h⟩
      cases a with
      | zero => exact .inl h
      | succ a => exact .inr ⟨a, h⟩
theorem contains_iff' (s sub : List UInt8) : (∃ a, sub.isPrefixOf (s.drop a) = true) ↔ Lib.contains s sub = true := by
  unfold Lib.contains
  rw [decide_eq_true_iff]
  rcases Lib.index_spec s sub with ⟨h1, h2⟩ | ⟨i, h1, h2, h3, h4⟩
  · refine ⟨fun ⟨a, ha⟩ => ?_, fun h => by omega⟩
    rcases Nat.lt_or_ge s.length a with hlt | hle
    · have := h2 s.length (Nat.le_refl _)
      unfold Lib.occAt at this
      rw [List.drop_eq_nil_of_le (by omega)] at ha
      rw [List.drop_eq_nil_of_le (Nat.le_refl _), ha] at this
      cases this
    · have := h2 a hle
      unfold Lib.occAt at this
      rw [ha] at this
      cases this
  · refine ⟨fun _ => by omega, fun _ => ⟨i, ?_⟩⟩
    unfold Lib.occAt at h3
    exact h3
def inN (x : List UInt8) : List (List UInt8) → Bool
  | [] => false
  | z :: l => eqB x z || inN x l
theorem inN_iff (x : List UInt8) : ∀ l, inN x l = true ↔ x ∈ l
  | [] => by unfold inN; simp
  | z :: l => by
    unfold inN
    rw [Bool.or_eq_true, inN_iff x l, List.mem_cons]
    exact ⟨fun h => h.imp eqB_ok id, fun h => h.imp (fun e => by rw [← e]; exact eqB_self x) id⟩
/-! ### what is told -/
inductive Tell where
  | pre
  | trim
  | has
  | letter
  | inOps
  | none
def tellO (g : FuncId) : Tell := match Nat.beq g 36 with
  | true => .pre
  | false => match Nat.beq g 65 with
    | true => .letter
    | false => match Nat.beq g 35 with
      | true => .trim
      | false => match Nat.beq g 98 with
        | true => .has
        | false => match Nat.beq g 51 with
          | true => .inOps
          | false => .none
def tPre (args : List Value) : Option (M AObj Value) := match args with
  | [.string s, .string p] => some (M.pure (.bool (preN p.data.toList s.data.toList)))
  | _ => none
def tTrim (args : List Value) : Option (M AObj Value) := match args with
  | [.string s, .string c] => match eqB c.data.toList [9, 13, 32] with
    | true => some (M.pure (.string ⟨(trimN s.data.toList).toArray⟩))
    | false => none
  | _ => none
def tHas (args : List Value) : Option (M AObj Value) := match args with
  | [.string s, .string p] => match Nat.ble s.data.toList.length 1073741824 with
    | true => some (M.pure (.bool (findN p.data.toList s.data.toList)))
    | false => none
  | _ => none
def tLetter (args : List Value) : Option (M AObj Value) := match args with
  | [.int .i32 n] => some (M.pure (.bool (isLet n)))
  | _ => none
def tOps (args : List Value) : Option (M AObj Value) := match args with
  | [.slice (some ⟨b, 0, none⟩) n _, .string x] => match Nat.ble 10 b with
    | true => match opsLL[b - 10]? with
      | some z => match Nat.beq n z.length with
        | true => some (M.pure (.bool (inN x.data.toList z)))
        | false => none
      | none => none
    | false => none
  | _ => none
def orcO (g : FuncId) (args : List Value) : Option (M AObj Value) := match tellO g with
  | .pre => tPre args
  | .trim => tTrim args
  | .has => tHas args
  | .letter => tLetter args
  | .inOps => tOps args
  | .none => none
theorem orcO_local : ∀ g args m, orcO g args = some m → M.Local m := by
  intro g args m e
  unfold orcO at e
  split at e
  · unfold tPre at e
    split at e <;> cases e
    exact M.local_pure _
  · unfold tTrim at e
    repeat' split at e
    all_goals cases e
    exact M.local_pure _
  · unfold tHas at e
    repeat' split at e
    all_goals cases e
    exact M.local_pure _
  · unfold tLetter at e
    split at e <;> cases e
    exact M.local_pure _
  · unfold tOps at e
    repeat' split at e
    all_goals cases e
    exact M.local_pure _
  · cases e
/-- where the numbers of the lists of operators lie -/
structure Ax (f : Where) (p : Plan) : Prop where
  at_ : ∀ i, i < 5 → ∃ z, p (10 + i) = some ⟨(f i).1, (f i).2.1, z, 1⟩ ∧ (f i).2.1 + (f i).2.2 ≤ z
theorem Ax.mono {f : Where} (p q : Plan) (h : p.le q) (k : Ax f p) : Ax f q := ⟨fun i hi => by
  obtain ⟨z, h1, h2⟩ := k.at_ i hi
  exact ⟨z, h _ _ h1, h2⟩⟩
noncomputable def cfgO (ax : Plan → Prop) (axm : ∀ p q : Plan, p.le q → ax p → ax q) : Cfg := ⟨15, 10, [], orcO, orcO_local, ax, axm⟩
def opsCells : List Value := [.slice (some ⟨10, 0, none⟩) 7 unk, .slice (some ⟨11, 0, none⟩) 4 unk, .slice (some ⟨12, 0, none⟩) 6 unk, .slice (some ⟨13, 0, none⟩) 1 unk, .slice (some ⟨14, 0, none⟩) 1 unk]
def rowSigns : AObj := .row signCells 130 1
def rowOps : AObj := .row opsCells 188 1
noncomputable def heapO : Tree AObj := rowsR [(0, rowSigns), (4, rowOps)]
/-! ### it is so -/
theorem vr_str1 {p : Plan} {s : ByteArray} {v : Value} (h : VR p (.string s) v) : v = .string s := by cases h; rfl
theorem orcO_ok {w0 : World} {f : Where} (hL : Laid w0 f) : OrcOK Tryz.prog (cfgO (Ax f) Ax.mono) w0.heap.size w0 := by
  intro g args m e h c v h' c' lg em p w args' hr hv hf
  replace e : orcO g args = some m := e
  have hLw : Laid w f := hL.below hr.below
  unfold orcO at e
  have done : ∀ {g0 : FuncId} {a0 : Array Value} {u : Value}, plainF 9 u = true → m = M.pure u → (Calls Tryz.prog g0 a0 w fun e w' => e = .returned u ∧ Below w.heap.size w w') →
      Calls Tryz.prog g0 a0 w fun e w' => ∃ p' v', e = .returned v' ∧ p.le p' ∧ Out p p' c c' ∧ Rel (cfgO (Ax f) Ax.mono) w0.heap.size w0 p' h' w' ∧ VR p' v v' := fun hu hm hc => by
    rw [hm] at em
    obtain ⟨rfl, rfl, rfl⟩ := pure_inv em
    refine hc.mono ?_
    rintro e w' ⟨rfl, hb⟩
    exact ⟨p, _, rfl, Plan.le_refl _, Out.rfl, hr.quiet hb, plain_vr 9 _ hu⟩
  have two : ∀ {s t : ByteArray}, args = [.string s, .string t] → args' = #[.string s, .string t] := fun he => by
    subst he
    apply Array.toList_inj.1
    cases hal : args'.toList with
    | nil => rw [hal] at hv; cases hv
    | cons v1 m1 =>
      rw [hal] at hv
      cases hv with
      | cons h1 h2 =>
        cases h2 with
        | cons h3 h4 =>
          cases h4
          rw [vr_str1 h1, vr_str1 h3]
  cases ht : tellO g with
  | pre =>
    rw [ht] at e
    have hg : g = 36 := by
      unfold tellO at ht
      split at ht
      · rename_i hh; exact Nat.eq_of_beq_eq_true hh
      · repeat' split at ht
        all_goals cases ht
    dsimp only at e
    unfold tPre at e
    split at e
    · rename_i s t
      cases e
      rw [two rfl, hg]
      refine done rfl rfl ((Tryz.strings_HasPrefix s t w).mono ?_)
      rintro e w' ⟨rfl, rfl⟩
      exact ⟨by rw [preN_eq]; rfl, Below.refl _ _⟩
    · cases e
  | letter =>
    rw [ht] at e
    have hg : g = 65 := by
      unfold tellO at ht
      split at ht
      · cases ht
      · split at ht
        · rename_i hh; exact Nat.eq_of_beq_eq_true hh
        · repeat' split at ht
          all_goals cases ht
    dsimp only at e
    unfold tLetter at e
    split at e
    · rename_i n
      cases e
      have ha : args' = #[.int .i32 n] := by
        apply Array.toList_inj.1
        cases hal : args'.toList with
        | nil => rw [hal] at hv; cases hv
        | cons v1 m1 =>
          rw [hal] at hv
          cases hv with
          | cons h1 h2 =>
            cases h2
            cases h1
            rfl
      rw [ha, hg]
      refine done rfl rfl ((letter_any n w).mono ?_)
      rintro e w' ⟨rfl, rfl⟩
      exact ⟨rfl, Below.refl _ _⟩
    · cases e
  | trim =>
    rw [ht] at e
    have hg : g = 35 := by
      unfold tellO at ht
      split at ht
      · cases ht
      · split at ht
        · cases ht
        · split at ht
          · rename_i hh; exact Nat.eq_of_beq_eq_true hh
          · repeat' split at ht
            all_goals cases ht
    dsimp only at e
    unfold tTrim at e
    split at e
    · rename_i s t
      split at e
      · rename_i hcs
        cases e
        have hcs : t = ⟨#[9, 13, 32]⟩ := by
          have := eqB_ok hcs
          cases t
          exact congrArg _ (Array.toList_inj.1 this)
        rw [two rfl, hg, hcs]
        refine done rfl rfl ?_
        rw [trimN_eq]
        exact Any.strings_TrimLeft_laid Tryz.lays161 (by kernel_rfl) s ⟨#[9, 13, 32]⟩ w (by decide) (by
          intro j b h
          have : b ∈ ([9, 13, 32] : List UInt8) := List.mem_of_getElem? h
          simp at this
          rcases this with rfl | rfl | rfl <;> decide)
      · cases e
    · cases e
  | has =>
    rw [ht] at e
    have hg : g = 98 := by
      unfold tellO at ht
      split at ht
      · cases ht
      · split at ht
        · cases ht
        · split at ht
          · cases ht
          · split at ht
            · rename_i hh; exact Nat.eq_of_beq_eq_true hh
            · repeat' split at ht
              all_goals cases ht
    dsimp only at e
    unfold tHas at e
    split at e
    · rename_i s t
      split at e
      · rename_i hsz
        cases e
        have hsz := Nat.le_of_ble_eq_true hsz
        rw [two rfl, hg]
        obtain ⟨mm, hm⟩ := hLw.most
        refine done rfl rfl ((Tryz.strings_Contains s t mm w (by
          have : s.size = s.data.toList.length := rfl
          omega) hm).mono ?_)
        rintro e w' ⟨rfl, rfl⟩
        refine ⟨?_, Below.refl _ _⟩
        congr 2
        rw [Bool.eq_iff_iff, findN_iff]
        exact (contains_iff' _ _).symm
      · cases e
    · cases e
  | inOps =>
    rw [ht] at e
    have hg : g = 51 := by
      unfold tellO at ht
      split at ht
      · cases ht
      · split at ht
        · cases ht
        · split at ht
          · cases ht
          · split at ht
            · cases ht
            · split at ht
              · rename_i hh; exact Nat.eq_of_beq_eq_true hh
              · cases ht
    dsimp only at e
    unfold tOps at e
    split at e
    · rename_i b n cp x
      split at e
      · rename_i hb
        have hb := Nat.le_of_ble_eq_true hb
        obtain ⟨i, rfl⟩ : ∃ i, b = 10 + i := ⟨b - 10, by omega⟩
        rw [show 10 + i - 10 = i by omega] at e
        split at e
        · rename_i z hz
          split at e
          · rename_i hn
            cases e
            have hn := Nat.eq_of_beq_eq_true hn
            have hi : i < 5 := (List.getElem?_eq_some_iff.1 hz).1
            obtain ⟨sz, hp, -⟩ := hr.dis.2.at_ i hi
            have ha : ∃ cc, args' = #[.slice (some ⟨(f i).1, (f i).2.1, none⟩) n cc, .string x] := by
              cases hal : args'.toList with
              | nil => rw [hal] at hv; cases hv
              | cons v1 m1 =>
                rw [hal] at hv
                cases hv with
                | cons h1 h2 =>
                  cases h2 with
                  | cons h3 h4 =>
                    cases h4
                    rw [vr_str1 h3] at hal
                    have hz0 : 0 < z.length := by
                      rcases (by omega : i = 0 ∨ i = 1 ∨ i = 2 ∨ i = 3 ∨ i = 4) with rfl | rfl | rfl | rfl | rfl <;> (cases hz; decide)
                    cases h1 with
                    | slice k1 k2 k3 =>
                      obtain rfl := Option.some.inj (hp.symm.trans k1)
                      exact ⟨_, Array.toList_inj.1 (by rw [hal]; rfl)⟩
                    | sliceU k1 k2 k3 k4 =>
                      obtain rfl := Option.some.inj (hp.symm.trans k1)
                      exact ⟨_, Array.toList_inj.1 (by rw [hal]; rfl)⟩
                    | sliceE k1 k2 k3 => omega
            obtain ⟨cc, ha⟩ := ha
            rw [ha, hg]
            have hc := hLw.cells i z hz
            have hz5 : z.length ≤ 7 := by
              rcases (by omega : i = 0 ∨ i = 1 ∨ i = 2 ∨ i = 3 ∨ i = 4) with rfl | rfl | rfl | rfl | rfl <;> (cases hz; decide)
            refine done rfl rfl ((Tryz.slices_Contains_string (f i).1 (f i).2.1 n cc (z.map fun l => ⟨l.toArray⟩) x w (by simp; omega) (by omega) (fun j hj => ?_)).mono ?_)
            · have hj' : j < z.length := by simpa using hj
              rw [hc j z[j] (List.getElem?_eq_getElem hj')]
              simp [strV, List.getD, hj']
            · rintro e w' ⟨rfl, rfl⟩
              refine ⟨?_, Below.refl _ _⟩
              congr 2
              rw [Bool.eq_iff_iff, inN_iff, Lib.containsS_iff, List.take_of_length_le (by simp; omega)]
              rw [List.mem_map]
              constructor
              · rintro ⟨a, h1, rfl⟩
                simpa using h1
              · intro h1
                exact ⟨_, h1, by cases x; simp⟩
          · cases e
        · cases e
      · cases e
    · cases e
  | none =>
    rw [ht] at e
    cases e
end Go.Proofs.YtakfgbedmglffaaGreatDoor
