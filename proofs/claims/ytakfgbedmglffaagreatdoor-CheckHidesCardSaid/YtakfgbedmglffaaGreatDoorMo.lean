/- The evaluator's operations: which is which, and that each stands for the model's. No program in sight. -/
import Derived.Test.YtakfgbedmglffaaGreatDoorMm
namespace Go.Proofs.YtakfgbedmglffaaGreatDoor
set_option linter.unusedSimpArgs false
set_option linter.unusedVariables false
namespace Ev
open Go.RowKit

def evalI (ρ : Env) : Option Operand → Option (Option Value)
  | none => some none
  | some x => match ρ x with
    | some (.int k i) => some (some (.int k i))
    | _ => none
theorem evalI_ok {p : Plan} {ρ : Env} {ρ' : Operand → Value} (hρ : EnvR p ρ ρ') {o : Option Operand} {r : Option Value} (e : evalI ρ o = some r) : o.map ρ' = r := by
  cases o with
  | none => cases e; rfl
  | some x =>
    unfold evalI at e
    dsimp only at e
    cases hx : ρ x with
    | none => rw [hx] at e; cases e
    | some v =>
      rw [hx] at e
      have := hρ x v hx
      cases v <;> cases e
      cases hv : ρ' x <;> rw [hv] at this <;> cases this
      simp [hv]
section
variable {P : Program} {K : Cfg} {base : Nat} {w0 w : World} {p : Plan} {h h' : Tree AObj} {c c' : Nat} {l : Log}
/-- the common operations on two numbers -/
def intFast (op : BinOp) (k : IntKind) (a b : Int) : Option Value := match op with
  | .add => some (.int k (k.wrap (a + b)))
  | .sub => some (.int k (k.wrap (a - b)))
  | .mul => some (.int k (k.wrap (a * b)))
  | .eql => some (.bool (a == b))
  | .neq => some (.bool (a != b))
  | .lss => some (.bool (a < b))
  | .leq => some (.bool (a ≤ b))
  | .gtr => some (.bool (a > b))
  | .geq => some (.bool (a ≥ b))
  | _ => none
theorem intFast_ok {op : BinOp} {k : IntKind} {a b : Int} {v : Value} (e : intFast op k a b = some v) (t : TypeId) (x y : Operand) : (do eqGuard op t x y (.int k a) (.int k b); binOp op t (.int k a) (.int k b) : Sem Value) = pure v ∧ (∃ q, v = .bool q) ∨ (do eqGuard op t x y (.int k a) (.int k b); binOp op t (.int k a) (.int k b) : Sem Value) = pure v ∧ (∃ n, v = .int k n) := by
  cases op <;> cases e <;> first
    | (refine .inl ⟨?_, _, rfl⟩; simp [eqGuard_at_int, binOp, Op.intCmp]; rfl)
    | (refine .inr ⟨?_, _, rfl⟩; simp [eqGuard_at_int, binOp, Op.intArith]; rfl)
    | (refine .inl ⟨?_, _, rfl⟩; simp [eqGuard_at_int, binOp, Op.intCmp]; done)
    | (refine .inr ⟨?_, _, rfl⟩; simp [eqGuard_at_int, binOp, Op.intArith]; done)
/-- the common operations on two texts -/
def strFast (op : BinOp) (a b : ByteArray) : Option Value := match op with
  | .add => match Nat.ble (a.data.toList.length + b.data.toList.length) 9223372036854775807 with
    | true => some (.string ⟨(a.data.toList ++ b.data.toList).toArray⟩)
    | false => none
  | .eql => some (.bool (eqB a.data.toList b.data.toList))
  | .neq => some (.bool (!(eqB a.data.toList b.data.toList)))
  | _ => none
theorem strFast_ok {op : BinOp} {a b : ByteArray} {v : Value} (e : strFast op a b = some v) (t : TypeId) (x y : Operand) (w : World) : (do eqGuard op t x y (.string a) (.string b); binOp op t (.string a) (.string b) : Sem Value).run P w = .ok v w ∧ plainF 9 v = true := by
  unfold strFast at e
  split at e
  · split at e
    · rename_i hl
      cases e
      have hl := Nat.le_of_ble_eq_true hl
      refine ⟨?_, rfl⟩
      have h1 : (⟨(a.data.toList ++ b.data.toList).toArray⟩ : ByteArray) = a ++ b := by
        have : (a ++ b).data.toList = a.data.toList ++ b.data.toList := by simp
        rw [← this]
      have h2 : ¬ (((a.size + b.size : Nat) : Int) > IntKind.i64.max) := by
        have h3 : a.size = a.data.toList.length := rfl
        have h4 : b.size = b.data.toList.length := rfl
        have h5 : IntKind.i64.max = 9223372036854775807 := by decide
        rw [h3, h4, h5]
        omega
      rw [h1, eqGuard_at_string]
      simp only [binOp, Op.stringOp]
      rw [if_neg h2]
      rfl
    · cases e
  · cases e
    refine ⟨?_, rfl⟩
    rw [eqGuard_at_string, eqB_beq]
    simp only [binOp, Op.stringOp, ByteArray.toList_eq]
    rfl
  · cases e
    refine ⟨?_, rfl⟩
    rw [eqGuard_at_string, eqB_beq]
    simp only [binOp, Op.stringOp, ByteArray.toList_eq]
    rfl
  · cases e
noncomputable def xBinSlow (P : Program) (op : BinOp) (t : TypeId) (x y : Operand) (a b : Value) : M AObj OR :=
  if plainF 9 a && plainF 9 b then plainO P (do eqGuard op t x y a b; binOp op t a b) else ofV (optV (xNils P op t a b))
noncomputable def xBinInt (P : Program) (op : BinOp) (t : TypeId) (x y : Operand) (k k' : IntKind) (a b : Int) : M AObj OR := if k = k' then match intFast op k a b with
    | some v => M.pure (.val v)
    | none => xBinSlow P op t x y (.int k a) (.int k' b)
  else xBinSlow P op t x y (.int k a) (.int k' b)
noncomputable def xBinStr (P : Program) (op : BinOp) (t : TypeId) (x y : Operand) (a b : ByteArray) : M AObj OR := match strFast op a b with
  | some v => M.pure (.val v)
  | none => xBinSlow P op t x y (.string a) (.string b)
/-- are two tokens the same word? -/
def tokEq (K : Cfg) (i j : Nat) : Option Bool := if i = j then some true else if K.dis.any (fun x => (Nat.beq x.1 i && Nat.beq x.2 j) || (Nat.beq x.1 j && Nat.beq x.2 i)) then some false else none
def xBinTok (K : Cfg) (op : BinOp) (i j : Nat) : M AObj OR := match tokEq K i j with
  | some r => match op with
    | .eql => M.pure (.val (.bool r))
    | .neq => M.pure (.val (.bool (!r)))
    | _ => M.fail
  | none => M.fail
/-- are two addresses the same? -/
noncomputable def ptrEq (b o b' o' : Nat) : M AObj Bool := if b = b' then M.pure (o == o') else M.bind (rdRow b) fun r => M.bind (rdRow b') fun r' =>
  if o < r.1.length ∧ o' < r'.1.length ∧ ¬ r.2.2 = 1 then M.pure false else M.fail
noncomputable def xBinPtr (P : Program) (op : BinOp) (t : TypeId) (b o b' o' : Nat) : M AObj OR := match P.underlying t with
  | some (.pointer te) => match P.info? te with
    | some f => if f.size = 0 then M.fail else M.bind (ptrEq b o b' o') fun r => match op with
      | .eql => M.pure (.val (.bool r))
      | .neq => M.pure (.val (.bool (!r)))
      | _ => M.fail
    | none => M.fail
  | _ => M.fail
theorem ptrEq_ok {b o b' o' : Nat} {r : Bool} (e : ptrEq b o b' o' h c = .ok r h' c' l) {s s' : Spot} (hs : p b = some s) (hs' : p b' = some s') (hr : Rel K base w0 p h w) :
    h' = h ∧ c' = c ∧ (sameAddr ⟨s.blk, s.off + o, none⟩ ⟨s'.blk, s'.off + o', none⟩).run P w = .ok r w := by
  unfold ptrEq at e
  split at e
  · rename_i hb
    subst hb
    obtain rfl : s = s' := Option.some.inj (hs.symm.trans hs')
    obtain ⟨rfl, rfl, rfl⟩ := pure_inv e
    refine ⟨rfl, rfl, ?_⟩
    by_cases ho : o = o'
    · subst ho
      simp [sameAddr]
    · have h1 : (o == o') = false := by simpa using ho
      have h2 : ((⟨s.blk, s.off + o, none⟩ : Addr) == ⟨s.blk, s.off + o', none⟩) = false := by
        rw [beq_eq_false_iff_ne]
        intro hq
        injection hq with _ q2
        omega
      simp only [sameAddr, beq_self_eq_true, if_true, h1, h2, Sem.run_pure]
  · rename_i hb
    obtain ⟨r1, h1, c1, l1, l2, e1, e2⟩ := bind_inv e
    obtain ⟨e3, rfl, rfl⟩ := rdRow_inv e1
    obtain ⟨r2, h2, c2, l3, l4, e4, e5⟩ := bind_inv e2
    obtain ⟨e6, rfl, rfl⟩ := rdRow_inv e4
    split at e5
    · rename_i hc
      obtain ⟨k1, k2, k3⟩ := hc
      obtain ⟨rfl, rfl, rfl⟩ := pure_inv e5
      refine ⟨rfl, rfl, ?_⟩
      obtain ⟨t1, a1, -, -, A⟩ := hr.at_ _ _ e3
      obtain ⟨t2, b1, -, -, B⟩ := hr.at_ _ _ e6
      obtain rfl : t1 = s := Option.some.inj (a1.symm.trans hs)
      obtain rfl : t2 = s' := Option.some.inj (b1.symm.trans hs')
      have hne : t1.blk ≠ t2.blk := fun q => hb (hr.one _ _ _ _ _ _ e3 e6 hs hs' q)
      obtain ⟨bs, fr, A1, A2, A3, A4, A5⟩ := A.at_
      obtain ⟨bs', fr', B1, B2, B3, B4, B5⟩ := B.at_
      have hx : ext r1.2.2 = 1 := by unfold ext; rw [if_neg k3]
      rw [hx] at A5
      have f1 : w.frozen? ⟨t1.blk, t1.off + o, none⟩ = false := by
        unfold World.frozen?; rw [A1]; exact A5 (t1.off + o) (by omega)
      have f2 : w.frozen? ⟨t2.blk, t2.off + o', none⟩ = false := by
        unfold World.frozen?; rw [B1]; exact B5 (t2.off + o') (by omega)
      have f3 : w.frozen? ⟨t1.blk, bs.size, none⟩ = false := by
        unfold World.frozen?; rw [A1]; exact A5 bs.size (by omega)
      have hz : bs'.size ≠ 0 := by omega
      have hbe : (t1.blk == t2.blk) = false := by rw [beq_eq_false_iff_ne]; exact hne
      simp [sameAddr, hne, f1, f2, f3, A1, B1, noView, viewAt, World.shape?, mayBeOne, stringish, hz]
    · cases e5
theorem xBinPtr_ok {op : BinOp} {t : TypeId} {x y : Operand} {b o b' o' : Nat} {a1 a2 : Value} {r : OR} (e : xBinPtr P op t b o b' o' h c = .ok r h' c' l) (ha : VR p (.pointer (some ⟨b, o, none⟩)) a1) (hb : VR p (.pointer (some ⟨b', o', none⟩)) a2) (hr : Rel K base w0 p h w) :
    GivesO P K base w0 p w c c' h' (do pure (.value (← (do eqGuard op t x y a1 a2; binOp op t a1 a2)))) r := by
  cases ha with
  | ptr hs =>
  cases hb with
  | ptr hs' =>
  unfold xBinPtr at e
  cases hu : P.underlying t with
  | none => rw [hu] at e; cases e
  | some d =>
  rw [hu] at e
  cases d with
  | pointer te =>
    dsimp only at e
    cases hf : P.info? te with
    | none => rw [hf] at e; cases e
    | some f =>
      rw [hf] at e
      dsimp only at e
      by_cases hsz : f.size = 0
      · rw [if_pos hsz] at e; cases e
      · rw [if_neg hsz] at e
        obtain ⟨q, h1, c1, l1, l2, e1, e2⟩ := bind_inv e
        obtain ⟨rfl, rfl, hrun⟩ := ptrEq_ok (P := P) e1 hs hs' hr
        have heq : ∀ X Y : Addr, (sameAddr X Y).run P w = .ok q w → (Op.equal t (.pointer (some X)) (.pointer (some Y))).run P w = .ok q w := by
          intro X Y hrun
          unfold Op.equal Op.maxDepth Op.equalIn
          rw [Sem.run_bind, run_underlying hu w, Result.andThen_ok]
          dsimp only
          rw [Sem.run_bind]
          have : (sizeOf te).run P w = .ok f.size w := by simp [sizeOf, typeInfo, hf]
          rw [this, Result.andThen_ok, if_pos hsz]
          exact hrun
        have heq := heq _ _ hrun
        have hg : ∀ X Y, eqGuard op t x y (.pointer X) (.pointer Y) = pure () := fun _ _ => by cases op <;> rfl
        cases op with
        | eql =>
          obtain ⟨rfl, rfl, rfl⟩ := pure_inv e2
          refine Gives.quiet hr (y := .value (.bool q)) ?_ ⟨_, rfl, .bool _⟩
          rw [hg _ _]
          simp only [binOp, Sem.run_bind, Sem.run_pure, Result.andThen_ok, heq]
        | neq =>
          obtain ⟨rfl, rfl, rfl⟩ := pure_inv e2
          refine Gives.quiet hr (y := .value (.bool (!q))) ?_ ⟨_, rfl, .bool _⟩
          rw [hg _ _]
          simp only [binOp, Sem.run_bind, Sem.run_pure, Result.andThen_ok, heq]
        | _ => cases e2
  | _ => cases e
noncomputable def xBin (P : Program) (K : Cfg) (op : BinOp) (t : TypeId) (x y : Operand) (a b : Value) : M AObj OR := match a with
  | .int k n => match b with
    | .int k' n' => xBinInt P op t x y k k' n n'
    | _ => xBinSlow P op t x y a b
  | .chan (some i) => match b with
    | .chan (some j) => xBinTok K op i j
    | _ => xBinSlow P op t x y a b
  | .pointer (some ⟨i, o, none⟩) => match b with
    | .pointer (some ⟨j, o', none⟩) => xBinPtr P op t i o j o'
    | _ => xBinSlow P op t x y a b
  | .string s => match b with
    | .string s' => xBinStr P op t x y s s'
    | _ => xBinSlow P op t x y a b
  | _ => xBinSlow P op t x y a b
theorem xBinSlow_ok {op : BinOp} {t : TypeId} {x y : Operand} {a b a' b' : Value} {r : OR} (e : xBinSlow P op t x y a b h c = .ok r h' c' l) (ha : VR p a a') (hb : VR p b b') (hr : Rel K base w0 p h w) :
    GivesO P K base w0 p w c c' h' (do pure (.value (← (do eqGuard op t x y a' b'; binOp op t a' b')))) r := by
  unfold xBinSlow at e
  split at e
  · rename_i hp
    simp only [Bool.and_eq_true] at hp
    rw [plain_eq 9 _ _ hp.1 ha, plain_eq 9 _ _ hp.2 hb]
    exact plainO_ok e hr
  · exact ofV_ok e (optV_ok hr fun v hv => xNils_ok hv ha hb)
theorem tokEq_ok {i j : Nat} {s t : Spot} {r : Bool} (e : tokEq K i j = some r) (hi : p i = some s) (hj : p j = some t) (hd : Dis K p) : ((s.off : Int) == (t.off : Int)) = r := by
  unfold tokEq at e
  split at e
  · rename_i hij
    subst hij
    cases e
    obtain rfl : s = t := Option.some.inj (hi.symm.trans hj)
    simp
  · split at e
    · rename_i hany
      cases e
      obtain ⟨x, hx, hb⟩ := List.any_eq_true.1 hany
      obtain ⟨s', t', q1, q2, q3⟩ := hd.1 x hx
      simp only [Bool.or_eq_true, Bool.and_eq_true] at hb
      rcases hb with ⟨h1, h2⟩ | ⟨h1, h2⟩
      · rw [Nat.eq_of_beq_eq_true h1] at q1
        rw [Nat.eq_of_beq_eq_true h2] at q2
        obtain rfl : s' = s := Option.some.inj (q1.symm.trans hi)
        obtain rfl : t' = t := Option.some.inj (q2.symm.trans hj)
        simp; omega
      · rw [Nat.eq_of_beq_eq_true h1] at q1
        rw [Nat.eq_of_beq_eq_true h2] at q2
        obtain rfl : s' = t := Option.some.inj (q1.symm.trans hj)
        obtain rfl : t' = s := Option.some.inj (q2.symm.trans hi)
        simp; omega
    · cases e
theorem xBinTok_ok {op : BinOp} {t : TypeId} {x y : Operand} {i j : Nat} {a' b' : Value} {r : OR} (e : xBinTok K op i j h c = .ok r h' c' l) (ha : VR p (.chan (some i)) a') (hb : VR p (.chan (some j)) b') (hr : Rel K base w0 p h w) :
    GivesO P K base w0 p w c c' h' (do pure (.value (← (do eqGuard op t x y a' b'; binOp op t a' b')))) r := by
  cases ha with
  | tok hi =>
  cases hb with
  | tok hj =>
  unfold xBinTok at e
  cases hq : tokEq K i j with
  | none => rw [hq] at e; cases e
  | some q =>
    rw [hq] at e
    have hv := tokEq_ok hq hi hj hr.dis
    cases op with
    | eql =>
      obtain ⟨rfl, rfl, rfl⟩ := pure_inv e
      rcases intFast_ok (op := .eql) (k := .u64) rfl t x y with ⟨h1, -⟩ | ⟨h1, n, hn⟩
      · rw [h1, hv]; exact Gives.quiet hr rfl ⟨_, rfl, .bool _⟩
      · cases hn
    | neq =>
      obtain ⟨rfl, rfl, rfl⟩ := pure_inv e
      rcases intFast_ok (op := .neq) (k := .u64) rfl t x y with ⟨h1, -⟩ | ⟨h1, n, hn⟩
      · rw [h1, bne, hv]; exact Gives.quiet hr rfl ⟨_, rfl, .bool _⟩
      · cases hn
    | _ => cases e
theorem xBin_ok {op : BinOp} {t : TypeId} {x y : Operand} {a b a' b' : Value} {r : OR} (e : xBin P K op t x y a b h c = .ok r h' c' l) (ha : VR p a a') (hb : VR p b b') (hr : Rel K base w0 p h w) :
    GivesO P K base w0 p w c c' h' (do pure (.value (← (do eqGuard op t x y a' b'; binOp op t a' b')))) r := by
  cases a with
  | int k n =>
    cases b with
    | int k' n' =>
      replace e : xBinInt P op t x y k k' n n' h c = .ok r h' c' l := e
      unfold xBinInt at e
      split at e
      · rename_i hk
        subst hk
        cases hi : intFast op k n n' with
        | none => rw [hi] at e; exact xBinSlow_ok e ha hb hr
        | some v =>
          rw [hi] at e
          obtain ⟨rfl, rfl, rfl⟩ := pure_inv e
          cases ha
          cases hb
          rcases intFast_ok hi t x y with ⟨h1, q, rfl⟩ | ⟨h1, q, rfl⟩
          · rw [h1]; exact Gives.quiet hr rfl ⟨_, rfl, .bool _⟩
          · rw [h1]; exact Gives.quiet hr rfl ⟨_, rfl, .int _ _⟩
      · exact xBinSlow_ok e ha hb hr
    | _ => exact xBinSlow_ok e ha hb hr
  | chan ci =>
    cases ci with
    | none => exact xBinSlow_ok e ha hb hr
    | some i =>
      cases b with
      | chan cj =>
        cases cj with
        | none => exact xBinSlow_ok e ha hb hr
        | some j => exact xBinTok_ok e ha hb hr
      | _ => exact xBinSlow_ok e ha hb hr
  | pointer pi =>
    cases pi with
    | none => exact xBinSlow_ok e ha hb hr
    | some ai =>
      obtain ⟨i, o, sp⟩ := ai
      cases sp with
      | some => exact xBinSlow_ok e ha hb hr
      | none =>
        cases b with
        | pointer pj =>
          cases pj with
          | none => exact xBinSlow_ok e ha hb hr
          | some aj =>
            obtain ⟨j, o', sp'⟩ := aj
            cases sp' with
            | some => exact xBinSlow_ok e ha hb hr
            | none => exact xBinPtr_ok e ha hb hr
        | _ => exact xBinSlow_ok e ha hb hr
  | string s =>
    cases b with
    | string s' =>
      replace e : xBinStr P op t x y s s' h c = .ok r h' c' l := e
      unfold xBinStr at e
      cases hi : strFast op s s' with
      | none => rw [hi] at e; exact xBinSlow_ok e ha hb hr
      | some v =>
        rw [hi] at e
        cases ha
        cases hb
        exact val_ok (strFast_ok hi t x y w).1 (strFast_ok (P := P) hi t x y w).2 e hr
    | _ => exact xBinSlow_ok e ha hb hr
  | _ => exact xBinSlow_ok e ha hb hr
/-- the model's own code on one value without an address -/
def plain1 (P : Program) (f : Value → Sem Value) (a : Value) : M AObj OR := if plainF 9 a then plainO P (f a) else M.fail
theorem plain1_ok {f : Value → Sem Value} {a a' : Value} {r : OR} (e : plain1 P f a h c = .ok r h' c' l) (ha : VR p a a') (hr : Rel K base w0 p h w) :
    GivesO P K base w0 p w c c' h' (do pure (.value (← f a'))) r := by
  unfold plain1 at e
  split at e
  · rename_i hp
    rw [plain_eq 9 _ _ hp ha]
    exact plainO_ok e hr
  · cases e
def xNilO (v : Value) : M AObj OR := match xNilCheck v with
  | some v => M.pure (.val v)
  | none => M.fail
theorem xNilO_ok {v v' : Value} {r : OR} (e : xNilO v h c = .ok r h' c' l) (hv : VR p v v') (hr : Rel K base w0 p h w) {o : Oper} {x : Operand} {ρ' : Operand → Value} (ho : o.op = .nilCheck x) (hx : ρ' x = v') :
    GivesO P K base w0 p w c c' h' (execOp ρ' o) r := by
  have key : ∀ u, xNilCheck v = some u → u = v ∧ execOp ρ' o = pure (.value v') := by
    intro u hu
    unfold execOp
    rw [ho]
    dsimp only
    rw [hx]
    unfold xNilCheck at hu
    split at hu <;> first
      | (cases hu; cases hv <;> exact ⟨rfl, rfl⟩)
      | cases hu
  unfold xNilO at e
  cases hn : xNilCheck v with
  | none => rw [hn] at e; cases e
  | some u =>
    rw [hn] at e
    obtain ⟨rfl, k⟩ := key u hn
    obtain ⟨rfl, rfl, rfl⟩ := pure_inv e
    rw [k]
    exact Gives.quiet hr rfl ⟨v', rfl, hv⟩
/-! ### what an interface's value is -/
def okV (ok : Bool) (v : Value) : Value := if ok then .tuple #[v, .bool true] else v
def noV (P : Program) (ok : Bool) (t : TypeId) : Option Value := if ok then match tiOf P t with
  | some i => some (.tuple #[i.zero, .bool false])
  | none => none
  else none
def xAssert (P : Program) (v : Value) (t : TypeId) (ok : Bool) : Option Value := match v with
  | .iface d u => match P.underlying t with
    | some (.interface want) => match P.info? d with
      | some i => match Instr.missingMethod want i.methods with
        | none => some (okV ok (.iface d u))
        | some _ => noV P ok t
      | none => none
    | some _ => if d = t then some (okV ok u) else noV P ok t
    | none => none
  | _ => none
theorem okV_vr {ok : Bool} {v v' : Value} (h : VR p v v') : VR p (okV ok v) (okV ok v') := by
  unfold okV
  split
  · exact .tuple (.cons h (.cons (.bool _) .nil))
  · exact h
theorem noV_ok {ok : Bool} {t : TypeId} {r : Value} (e : noV P ok t = some r) : ok = true ∧ ∃ z, r = .tuple #[z, .bool false] ∧ VR p z z ∧ ∀ w, (zeroValue t).run P w = .ok z w := by
  unfold noV at e
  split at e
  · rename_i ho
    cases hi : tiOf P t with
    | none => rw [hi] at e; cases e
    | some i =>
      rw [hi] at e
      cases e
      have ht := tiOf_ok hi
      exact ⟨ho, i.zero, rfl, plain_vr 9 _ ht.plain, fun w => run_zero ht w⟩
  · cases e
theorem xAssert_ok {v v' r : Value} {xT t : TypeId} {ok : Bool} (e : xAssert P v t ok = some r) (hv : VR p v v') : Pures P p (Instr.typeAssert v' xT t ok) VR r := by
  intro w
  unfold xAssert at e
  cases v with
  | iface d u =>
    cases hv with
    | iface _ hu =>
    rename_i u'
    dsimp only at e
    cases hd : P.underlying t with
    | none => rw [hd] at e; cases e
    | some td =>
      rw [hd] at e
      have conc : (if d = t then some (okV ok u) else noV P ok t) = some r → (∀ ms, td ≠ .interface ms) → ∃ y, (Instr.typeAssert (.iface d u') xT t ok).run P w = .ok y w ∧ VR p r y := by
        intro e hni
        have run : (Instr.typeAssert (.iface d u') xT t ok).run P w = (if d = t then pure (okV ok u') else if ok then do pure (.tuple #[← zeroValue t, .bool false]) else runtimePanic (.typeAssertion (some xT) (some d) t "") : Sem Value).run P w := by
          unfold Instr.typeAssert
          rw [Sem.run_bind, run_underlying hd w, Result.andThen_ok]
          cases td <;> first
            | rfl
            | exact absurd rfl (hni _)
        rw [run]
        split at e
        · rename_i hdt
          cases e
          rw [if_pos hdt]
          exact ⟨_, rfl, okV_vr hu⟩
        · rename_i hdt
          obtain ⟨rfl, z, rfl, hz, hrun⟩ := noV_ok (p := p) e
          rw [if_neg hdt, if_pos rfl, Sem.run_bind, hrun, Result.andThen_ok]
          exact ⟨_, rfl, .tuple (.cons hz (.cons (.bool _) .nil))⟩
      cases td with
      | interface want =>
        dsimp only at e
        cases hi : P.info? d with
        | none => rw [hi] at e; cases e
        | some i =>
          rw [hi] at e
          dsimp only at e
          have hti : (typeInfo d).run P w = .ok i w := by simp [typeInfo, hi]
          cases hm : Instr.missingMethod want i.methods with
          | none =>
            rw [hm] at e
            cases e
            refine ⟨okV ok (.iface d u'), ?_, okV_vr (.iface d hu)⟩
            unfold Instr.typeAssert
            simp only [Sem.run_bind, run_underlying hd w, Result.andThen_ok, hti, hm]
            rfl
          | some m =>
            rw [hm] at e
            obtain ⟨rfl, z, rfl, hz, hrun⟩ := noV_ok (p := p) e
            refine ⟨.tuple #[z, .bool false], ?_, .tuple (.cons hz (.cons (.bool _) .nil))⟩
            unfold Instr.typeAssert
            simp only [Sem.run_bind, run_underlying hd w, Result.andThen_ok, hti, hm, if_true, hrun]
            rfl
      | _ => exact conc e (fun ms hms => by cases hms)
  | _ => cases e
/-! ### calls -/
def goBody (P : Program) (g : FuncId) : Bool := match P.funcs[g]? with
  | some fn => !(fn.name == "runtime.NumGoroutine") && fn.body.isSome
  | none => false
theorem run_callFunc {g : FuncId} (hg : goBody P g = true) (args : Array Value) (w : World) : (callFunc g args).run P w = .ok (.enter g args) w := by
  unfold goBody at hg
  cases hf : P.funcs[g]? with
  | none => rw [hf] at hg; cases hg
  | some fn =>
    rw [hf] at hg
    simp only [Bool.and_eq_true, Bool.not_eq_true'] at hg
    unfold callFunc
    rw [Sem.run_bind]
    show Result.andThen (.ok P w) _ = _
    rw [Result.andThen_ok, hf]
    dsimp only
    rw [if_neg (by rw [hg.1]; simp), if_neg (by cases hb : fn.body <;> simp_all)]
    rfl
/-- a function's value that is called: which, and with what -/
def xCallee (P : Program) (fv : Value) (vs : List Value) : Option (FuncId × List Value) := match fv with
  | .func (.func g) first captured => if goBody P g then some (g, first.toList ++ vs ++ captured.toList) else none
  | _ => none
theorem xCallee_ok {fv fv' : Value} {vs : List Value} {vs' : Array Value} {g : FuncId} {args : List Value} (e : xCallee P fv vs = some (g, args)) (hf : VR p fv fv') (hv : VRs p vs vs'.toList) :
    goBody P g = true ∧ ∃ first captured, fv' = .func (.func g) first captured ∧ VRs p args ((first ++ vs') ++ captured).toList := by
  unfold xCallee at e
  split at e
  · split at e
    · rename_i hg
      cases e
      cases hf with
      | func _ h1 h2 =>
        refine ⟨hg, _, _, rfl, ?_⟩
        simp only [Array.toList_append]
        exact (h1.append hv).append h2
    · cases e
  · cases e
noncomputable def xBuiltin (P : Program) (K : Cfg) (b : Builtin) (ats : Array TypeId) (ty : TypeId) (args : List Value) : M AObj OR := match b with
  | .append => match ats.toList with
    | [t, tx] => match args with
      | [s, x] => match x with
        | .int _ _ => ofV (xAppendZ P t tx s x)
        | _ => ofV (xAppend P K t tx s x)
      | _ => M.fail
    | _ => M.fail
  | .len => match ats[0]? with
    | some t => match args with
      | v :: _ => ofV (xLen P t v)
      | [] => M.fail
    | none => M.fail
  | .cap => match ats[0]? with
    | some t => match args with
      | v :: _ => ofV (xCap P t v)
      | [] => M.fail
    | none => M.fail
  | .copy => match ats.toList with
    | [t, tx] => match args with
      | [d, x] => ofV (xCopy P K t d x)
      | _ => M.fail
    | _ => M.fail
  | .max => if args.all (plainF 9) then plainO P (Builtin.max_ ats ty args.toArray) else M.fail
  | .min => if args.all (plainF 9) then plainO P (Builtin.min_ ats ty args.toArray) else M.fail
  | .recover => M.pure .recover
  | _ => M.fail
theorem xBuiltin_ok {b : Builtin} {ats : Array TypeId} {ty : TypeId} {consts : Array Bool} {args : List Value} {args' : Array Value} {r : OR} (e : xBuiltin P K b ats ty args h c = .ok r h' c' l) (ha : VRs p args args'.toList) (hr : Rel K base w0 p h w) (hf : Free p c c') :
    GivesO P K base w0 p w c c' h' (builtin b ats ty consts args') r := by
  unfold xBuiltin at e
  have hall : ∀ s : Array Value → Sem Value, (if args.all (plainF 9) then plainO P (s args.toArray) else M.fail) h c = .ok r h' c' l → GivesO P K base w0 p w c c' h' (do pure (.value (← s args'))) r := by
    intro s es
    split at es
    · rename_i hp
      have : args' = args.toArray := by
        have := plains_eq (p := p) (fun v v' => plain_eq 9 v v') hp ha
        apply Array.toList_inj.1
        rw [this]
      rw [this]
      exact plainO_ok es hr
    · cases es
  cases b with
  | append =>
    dsimp only at e
    cases hl : ats.toList with
    | nil => rw [hl] at e; cases e
    | cons t l1 =>
      cases l1 with
      | nil => rw [hl] at e; cases e
      | cons tx l2 =>
        cases l2 with
        | cons => rw [hl] at e; cases e
        | nil =>
          rw [hl] at e
          dsimp only at e
          obtain rfl : ats = #[t, tx] := Array.toList_inj.1 hl
          cases ha' : args'.toList with
          | nil => rw [ha'] at ha; cases ha; cases e
          | cons s' m1 =>
            rw [ha'] at ha
            cases ha with
            | cons hs hm =>
              cases hm with
              | nil => cases e
              | cons hx hn =>
                cases hn with
                | cons => cases e
                | nil =>
                  obtain rfl : args' = #[_, _] := Array.toList_inj.1 ha'
                  dsimp only at e
                  split at e
                  · exact ofV_ok e fun v l' ev => xAppendZ_ok ev hs hx hr hf
                  · exact ofV_ok e fun v l' ev => xAppend_ok ev hs hx hr hf
  | len =>
    dsimp only at e
    cases ht : ats[0]? with
    | none => rw [ht] at e; cases e
    | some t =>
      rw [ht] at e
      cases ha' : args'.toList with
      | nil => rw [ha'] at ha; cases ha; cases e
      | cons s' m1 =>
        rw [ha'] at ha
        cases ha with
        | cons hs hm =>
          have h0 : args'[0]? = some s' := by
            have : args'.toList[0]? = some s' := by rw [ha']; rfl
            simpa using this
          exact ofV_ok e fun v l' ev => xLen_ok ev ht h0 hs hr
  | cap =>
    dsimp only at e
    cases ht : ats[0]? with
    | none => rw [ht] at e; cases e
    | some t =>
      rw [ht] at e
      cases ha' : args'.toList with
      | nil => rw [ha'] at ha; cases ha; cases e
      | cons s' m1 =>
        rw [ha'] at ha
        cases ha with
        | cons hs hm =>
          have h0 : args'[0]? = some s' := by
            have : args'.toList[0]? = some s' := by rw [ha']; rfl
            simpa using this
          exact ofV_ok e fun v l' ev => xCap_ok ev ht h0 hs hr
  | copy =>
    dsimp only at e
    cases hl : ats.toList with
    | nil => rw [hl] at e; cases e
    | cons t l1 =>
      cases l1 with
      | nil => rw [hl] at e; cases e
      | cons tx l2 =>
        cases l2 with
        | cons => rw [hl] at e; cases e
        | nil =>
          rw [hl] at e
          dsimp only at e
          obtain rfl : ats = #[t, tx] := Array.toList_inj.1 hl
          cases ha' : args'.toList with
          | nil => rw [ha'] at ha; cases ha; cases e
          | cons s' m1 =>
            rw [ha'] at ha
            cases ha with
            | cons hs hm =>
              cases hm with
              | nil => cases e
              | cons hx hn =>
                cases hn with
                | cons => cases e
                | nil =>
                  obtain rfl : args' = #[_, _] := Array.toList_inj.1 ha'
                  exact ofV_ok e fun v l' ev => xCopy_ok ev hs hx hr
  | max => exact hall _ e
  | min => exact hall _ e
  | recover =>
    obtain ⟨rfl, rfl, rfl⟩ := pure_inv e
    exact Gives.quiet (R := fun _ (_ : Unit) n => n = Next.recover) (x := ()) hr (y := Next.recover) rfl rfl
  | _ => cases e
end
end Ev
end Go.Proofs.YtakfgbedmglffaaGreatDoor
