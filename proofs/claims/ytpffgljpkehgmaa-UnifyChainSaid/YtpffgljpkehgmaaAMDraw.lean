/-
  Regions that draw their order: whichever order is drawn, what comes of it is what the text's order gives.
-/
import Derived.Test.YtpffgljpkehgmaaAMExec
set_option linter.unusedVariables false
set_option linter.unusedSimpArgs false
namespace Go.AM
open Go
set_option linter.unusedSimpArgs false
set_option linter.unusedVariables false
mutual
theorem same_eq : ∀ {a b : AV}, AV.same a b = true → a = b
  | .undef, .undef, _ => rfl
  | .bool a, .bool b, h => by simp only [AV.same, beq_iff_eq] at h; rw [h]
  | .int k a, .int k' b, h => by simp only [AV.same, Bool.and_eq_true, beq_iff_eq] at h; rw [h.1, h.2]
  | .str a, .str b, h => by
    simp only [AV.same, beq_iff_eq] at h
    obtain ⟨⟨a⟩⟩ := a
    obtain ⟨⟨b⟩⟩ := b
    simp only at h
    rw [h]
  | .nilp, .nilp, _ => rfl
  | .ptr o v f, .ptr o' v' f', h => by simp only [AV.same, Bool.and_eq_true, beq_iff_eq] at h; rw [h.1.1, h.1.2, h.2]
  | .pim a, .pim b, h => by simp only [AV.same] at h; rw [sameL_eq h]
  | .nils, .nils, _ => rfl
  | .sl t a, .sl t' b, h => by simp only [AV.same, Bool.and_eq_true, beq_iff_eq] at h; rw [h.1, sameL_eq h.2]
  | .ms o v f l z, .ms o' v' f' l' z', h => by simp only [AV.same, Bool.and_eq_true, beq_iff_eq] at h; rw [h.1.1.1.1, h.1.1.1.2, h.1.1.2, h.1.2, h.2]
  | .nilm, .nilm, _ => rfl
  | .map a, .map b, h => by simp only [AV.same, beq_iff_eq] at h; rw [h]
  | .nilf, .nilf, _ => rfl
  | .fn f a b, .fn g c d, h => by simp only [AV.same, Bool.and_eq_true, beq_iff_eq] at h; rw [h.1.1, sameL_eq h.1.2, sameL_eq h.2]
  | .yld a, .yld b, h => by simp only [AV.same, beq_iff_eq] at h; rw [h]
  | .nili, .nili, _ => rfl
  | .iface t a, .iface u b, h => by simp only [AV.same, Bool.and_eq_true, beq_iff_eq] at h; rw [h.1, same_eq h.2]
  | .agg a, .agg b, h => by simp only [AV.same] at h; rw [sameL_eq h]
  | .tup a, .tup b, h => by simp only [AV.same] at h; rw [sameL_eq h]
theorem sameL_eq : ∀ {a b : List AV}, AV.sameL a b = true → a = b
  | [], [], _ => rfl
  | a :: x, b :: y, h => by simp only [AV.sameL, Bool.and_eq_true] at h; rw [same_eq h.1, sameL_eq h.2]
end
def lastv {α : Type} (S t : Nat → Bool) (snap : Nat → α) : Nat → α
  | 0 => snap 0
  | n + 1 => if S n && t n then snap (n + 1) else lastv S t snap n
theorem lastv_none {α : Type} {S t : Nat → Bool} {snap : Nat → α} : ∀ {n : Nat}, (∀ k, k < n → t k = true → S k = false) → lastv S t snap n = snap 0
  | 0, _ => rfl
  | n + 1, h => by
    simp only [lastv]
    have : (S n && t n) = false := by
      cases ht : t n with
      | false => simp
      | true => simp [h n (Nat.lt_succ_self n) ht]
    rw [this]
    exact lastv_none fun k hk => h k (by omega)
/-- all that touched it ahead of j has been done, and nothing behind -/
theorem lastv_at {α : Type} {S t : Nat → Bool} {snap : Nat → α} : ∀ {n : Nat}, (∀ k, k < n → t k = false → snap (k + 1) = snap k) → ∀ {j : Nat}, j ≤ n → (∀ k, k < j → t k = true → S k = true) →
    (∀ k, j ≤ k → k < n → t k = true → S k = false) → lastv S t snap n = snap j
  | 0, _, j, hj, _, _ => by have : j = 0 := by omega
                            subst this; rfl
  | n + 1, h, j, hj, h1, h2 => by
    simp only [lastv]
    rcases Nat.lt_or_ge j (n + 1) with hlt | hge
    · have : (S n && t n) = false := by
        cases ht : t n with
        | false => simp
        | true => simp [h2 n (by omega) (Nat.lt_succ_self n) ht]
      rw [this]
      exact lastv_at (fun k hk => h k (by omega)) (by omega) h1 (fun k h3 h4 => h2 k h3 (by omega))
    · have : j = n + 1 := by omega
      subst this
      cases ht : t n with
      | true => simp [h1 n (Nat.lt_succ_self n) ht]
      | false =>
        simp only [ht, Bool.and_false, Bool.false_eq_true, if_false]
        rw [h n (Nat.lt_succ_self n) ht]
        exact lastv_at (fun k hk => h k (by omega)) (Nat.le_refl n) (fun k hk => h1 k (by omega)) (fun k h3 h4 => by omega)
theorem lastv_congr {α : Type} {S S' t : Nat → Bool} {snap : Nat → α} : ∀ {n : Nat}, (∀ k, k < n → t k = true → S k = S' k) → lastv S t snap n = lastv S' t snap n
  | 0, _ => rfl
  | n + 1, h => by
    simp only [lastv]
    rw [lastv_congr fun k hk => h k (by omega)]
    cases ht : t n with
    | false => simp
    | true => rw [h n (Nat.lt_succ_self n) ht]
/-- one more has been done, that touched it, and nothing behind it -/
theorem lastv_add {α : Type} {S S' t : Nat → Bool} {snap : Nat → α} {j : Nat} (hS : S' j = true) (hS' : ∀ k, k ≠ j → S' k = S k) (ht : t j = true) : ∀ {n : Nat}, j < n →
    (∀ k, j < k → k < n → t k = true → S k = false) → lastv S' t snap n = snap (j + 1)
  | 0, hj, _ => by omega
  | n + 1, hj, h => by
    simp only [lastv]
    rcases Nat.lt_or_ge j n with hlt | hge
    · have : (S' n && t n) = false := by
        cases ht : t n with
        | false => simp
        | true => rw [hS' n (by omega), h n hlt (Nat.lt_succ_self n) ht]; rfl
      rw [this]
      exact lastv_add hS hS' ht hlt (fun k h1 h2 => h k h1 (by omega))
    · have : j = n := by omega
      subst this
      simp [hS, ht]
def isEff (md : Nat) (o : Op) : Bool :=
  match o with
  | .move _ | .assign _ => md / 2 == 1
  | .buildSlice .. => md % 2 == 1
  | .load .. | .lookup .. | .alloc _ | .box .. | .makeMap .. | .makeSlice .. => false
  | .pick .. | .build .. | .nilCheck _ | .binOp .. | .unOp .. | .convert .. | .makeInterface .. | .makeFunc .. | .slice .. | .fieldAddr .. | .field .. | .indexAddr .. | .index .. | .typeAssert .. | .extract .. => false
  | .call c => match c.callee with
    | .builtin .len | .builtin .min | .builtin .max => false
    | _ => true
  | _ => true
def mapLen (T : TypeId → Option AT) (c : Call) : Bool :=
  match c.argTypes.toList with
  | [t] => match aD T t with
    | some (.map _ _) => true
    | _ => false
  | _ => false
def isReader (T : TypeId → Option AT) (o : Op) : Bool :=
  match o with
  | .load .. | .lookup .. => true
  | .call c => match c.callee with
    | .builtin .len => mapLen T c
    | _ => false
  | _ => false
def isAlloc (o : Op) : Bool :=
  match o with
  | .alloc _ | .box .. | .makeMap .. | .makeSlice .. => true
  | _ => false
def maskOf (tab : List Nat) (o : Oper) : Nat :=
  o.after.toList.foldl (fun acc e => if Region.binds .any e then acc ||| (1 <<< e.on ||| tab.getD e.on 0) else acc) 0
/-- for each operation the set of those that come ahead of it in every order -/
def ancs : List Oper → List Nat → List Nat
  | [], tab => tab
  | o :: os, tab => ancs os (tab ++ [maskOf tab o])
def needs (tab : List Nat) (j i : Nat) : Bool := (tab.getD j 0).testBit i
structure OpFacts where
  eff : Bool
  reader : Bool
  alloc : Bool
  dst : Option Nat
  looks : List Nat
def factsOf (T : TypeId → Option AT) (md : Nat → Nat) (ops : Array Oper) : Nat → List Oper → List OpFacts
  | _, [] => []
  | i, o :: os => ⟨isEff (md i) o.op, isReader T o.op, isAlloc o.op, o.dst, o.looksAt ops⟩ :: factsOf T md ops (i + 1) os
/-- of two operations, i ahead of j in the text -/
def pairOk (tab : List Nat) (chk : List (Nat × Nat)) (i j : Nat) (x y : OpFacts) : Bool :=
  needs tab j i ||
    (!(x.eff && y.eff) && !(x.alloc && y.eff) && (!(x.reader && y.eff) || chk.contains (i, j)) && (!(x.eff && y.reader) || chk.contains (j, i)) &&
      (match x.dst with | some t => !y.looks.contains t && y.dst != some t | none => true) && (match y.dst with | some t => !x.looks.contains t | none => true))
def rowOk (tab : List Nat) (chk : List (Nat × Nat)) (i : Nat) (x : OpFacts) : Nat → List OpFacts → Bool
  | _, [] => true
  | j, y :: ys => pairOk tab chk i j x y && rowOk tab chk i x (j + 1) ys
def rowsOk (tab : List Nat) (chk : List (Nat × Nat)) : Nat → List OpFacts → Bool
  | _, [] => true
  | i, x :: xs => rowOk tab chk i x (i + 1) xs && rowsOk tab chk (i + 1) xs
def backOk : Nat → List Oper → Bool
  | _, [] => true
  | i, o :: os => o.after.toList.all (fun e => !Region.binds .any e || e.on < i) && backOk (i + 1) os
def drawOkB (T : TypeId → Option AT) (md : Nat → Nat) (chk : List (Nat × Nat)) (ops : Array Oper) : Bool :=
  backOk 0 ops.toList && rowsOk (ancs ops.toList []) chk 0 (factsOf T md ops 0 ops.toList)
theorem factsOf_get {T : TypeId → Option AT} {md : Nat → Nat} {ops : Array Oper} : ∀ (l : List Oper) (i j : Nat) (o : Oper), l[j]? = some o → (factsOf T md ops i l)[j]? = some ⟨isEff (md (i + j)) o.op, isReader T o.op, isAlloc o.op, o.dst, o.looksAt ops⟩
  | [], i, j, o, h => by simp at h
  | x :: l, i, 0, o, h => by simp at h; subst h; rfl
  | x :: l, i, j + 1, o, h => by
    have := factsOf_get (T := T) (md := md) (ops := ops) l (i + 1) j o (by simpa using h)
    rw [show i + (j + 1) = i + 1 + j by omega]
    simpa [factsOf] using this
theorem rowOk_get {tab : List Nat} {chk : List (Nat × Nat)} {i : Nat} {x : OpFacts} : ∀ (l : List OpFacts) (b : Nat), rowOk tab chk i x b l = true → ∀ (j : Nat) y, l[j]? = some y → pairOk tab chk i (b + j) x y = true
  | [], b, h, j, y, hy => by simp at hy
  | z :: l, b, h, 0, y, hy => by simp at hy; subst hy; simp only [rowOk, Bool.and_eq_true] at h; exact h.1
  | z :: l, b, h, j + 1, y, hy => by
    simp only [rowOk, Bool.and_eq_true] at h
    have := rowOk_get l (b + 1) h.2 j y (by simpa using hy)
    rwa [show b + (j + 1) = b + 1 + j by omega]
theorem rowsOk_get {tab : List Nat} {chk : List (Nat × Nat)} : ∀ (l : List OpFacts) (b : Nat), rowsOk tab chk b l = true → ∀ (i j : Nat) x y, i < j → l[i]? = some x → l[j]? = some y → pairOk tab chk (b + i) (b + j) x y = true
  | [], b, h, i, j, x, y, hij, hx, hy => by simp at hx
  | z :: l, b, h, 0, j + 1, x, y, hij, hx, hy => by
    simp at hx; subst hx
    simp only [rowsOk, Bool.and_eq_true] at h
    have := rowOk_get l (b + 1) h.1 j y (by simpa using hy)
    rwa [show b + (j + 1) = b + 1 + j by omega]
  | z :: l, b, h, i + 1, j + 1, x, y, hij, hx, hy => by
    simp only [rowsOk, Bool.and_eq_true] at h
    have := rowsOk_get l (b + 1) h.2 i j x y (by omega) (by simpa using hx) (by simpa using hy)
    rwa [show b + (j + 1) = b + 1 + j by omega, show b + (i + 1) = b + 1 + i by omega]
theorem backOk_get : ∀ (l : List Oper) (b : Nat), backOk b l = true → ∀ (j : Nat) o, l[j]? = some o → ∀ e ∈ o.after, Region.binds .any e = true → e.on < b + j
  | [], b, h, j, o, ho => by simp at ho
  | z :: l, b, h, 0, o, ho => by
    simp at ho; subst ho
    intro e he hb
    simp only [backOk, Bool.and_eq_true, List.all_eq_true] at h
    have := h.1 e (by simpa using he)
    simpa [hb] using this
  | z :: l, b, h, j + 1, o, ho => by
    intro e he hb
    simp only [backOk, Bool.and_eq_true] at h
    have := backOk_get l (b + 1) h.2 j o (by simpa using ho) e he hb
    omega
/-- a set of operations that has with each one all that its edges name -/
def Down (ops : Array Oper) (S : Nat → Bool) : Prop := ∀ (j : Nat) o, ops[j]? = some o → S j = true → ∀ e ∈ o.after, Region.binds .any e = true → S e.on = true
theorem testBit_shift (i j : Nat) : (1 <<< i).testBit j = decide (i = j) := by
  rw [Nat.one_shiftLeft, Nat.testBit_two_pow]
theorem mask_sound {tab : List Nat} {S : Nat → Bool} (ht : ∀ j i, S j = true → (tab.getD j 0).testBit i = true → S i = true) : ∀ (l : List Edge) (acc : Nat), (∀ e ∈ l, Region.binds .any e = true → S e.on = true) →
    (∀ i, acc.testBit i = true → S i = true) → ∀ i, (l.foldl (fun acc e => if Region.binds .any e then acc ||| (1 <<< e.on ||| tab.getD e.on 0) else acc) acc).testBit i = true → S i = true
  | [], acc, _, h, i, hi => h i hi
  | e :: l, acc, he, h, i, hi => by
    simp only [List.foldl_cons] at hi
    refine mask_sound ht l _ (fun e' he' => he e' (List.mem_cons_of_mem _ he')) ?_ i hi
    intro k hk
    split at hk
    · rename_i hb
      have hs := he e List.mem_cons_self hb
      rw [Nat.testBit_or, Nat.testBit_or, testBit_shift] at hk
      simp only [Bool.or_eq_true, decide_eq_true_eq] at hk
      rcases hk with hk | rfl | hk
      · exact h k hk
      · exact hs
      · exact ht _ k hs hk
    · exact h k hk
theorem ancs_sound {ops : Array Oper} {S : Nat → Bool} (hS : Down ops S) : ∀ (l : List Oper) (tab : List Nat), ops.toList.drop tab.length = l → (∀ j i, S j = true → (tab.getD j 0).testBit i = true → S i = true) →
    ∀ j i, S j = true → needs (ancs l tab) j i = true → S i = true
  | [], tab, _, ht, j, i, hj, hi => ht j i hj hi
  | o :: l, tab, hd, ht, j, i, hj, hi => by
    simp only [ancs] at hi
    have ho : ops[tab.length]? = some o := by
      have : (ops.toList.drop tab.length)[0]? = some o := by rw [hd]; rfl
      simpa using this
    refine ancs_sound hS l (tab ++ [maskOf tab o]) (by rw [List.length_append, List.length_singleton, ← List.drop_drop, hd]; rfl) ?_ j i hj hi
    intro j i hj hi
    rcases Nat.lt_trichotomy j tab.length with h | h | h
    · rw [List.getD, List.getElem?_append_left h] at hi
      exact ht j i hj hi
    · subst h
      rw [List.getD, List.getElem?_append_right (Nat.le_refl _)] at hi
      simp only [Nat.sub_self, List.getElem?_cons_zero, Option.getD_some] at hi
      exact mask_sound ht o.after.toList 0 (fun e he hb => hS _ o ho hj e (by simpa using he) hb) (fun i hi => by simp at hi) i hi
    · rw [List.getD, List.getElem?_eq_none (by simp; omega)] at hi
      simp at hi
theorem needs_down {ops : Array Oper} {S : Nat → Bool} (hS : Down ops S) {j i : Nat} (hj : S j = true) (h : needs (ancs ops.toList []) j i = true) : S i = true :=
  ancs_sound hS ops.toList [] rfl (fun j i _ h => by simp at h) j i hj h
theorem aOp_congr {T : TypeId → Option AT} {md : Nat} {ty : TypeId} {ρ ρ' : Operand → AV} {m : Mem} {o : Op} (h : ∀ x ∈ o.operands, ρ x = ρ' x) : aOp T md ty ρ m o = aOp T md ty ρ' m o := by
  have pairs : ∀ ps : Array (Nat × Operand), (∀ x ∈ ps.map (·.2), ρ x = ρ' x) → (ps.toList.map fun p => (p.1, ρ p.2)) = (ps.toList.map fun p => (p.1, ρ' p.2)) := fun ps hp =>
    List.map_congr_left fun p hm => by
      obtain ⟨i, x⟩ := p
      simp only [hp x (Array.mem_map.2 ⟨(i, x), by simpa using hm, rfl⟩)]
  cases o <;> simp only [Op.operands] at h <;> simp only [aOp]
  case build t ps => rw [pairs ps fun x hx => h x (by simpa using hx)]
  case buildSlice t n ps => rw [pairs ps fun x hx => h x (by simpa using hx)]
  case makeFunc fn first captured =>
    have e1 : first.toList.map ρ = first.toList.map ρ' := List.map_congr_left fun x hx => h x (by simp at hx; simp [hx])
    have e2 : captured.toList.map ρ = captured.toList.map ρ' := List.map_congr_left fun x hx => h x (by simp at hx; simp [hx])
    cases fn <;> simp only [e1, e2]
  case makeMap t z => cases z <;> rfl
  case slice t x lo hi mx => cases lo <;> cases hi <;> cases mx <;> simp_all
  all_goals (first | rfl | (simp_all; done))
theorem aOper_congr {X : Ctx} {call : CallV} {f r i : Nat} {o : Oper} {a a' : AAct} {m : Mem} (h : ∀ x ∈ o.op.operands, a.eval x = a'.eval x) : aOper X call f r i o a m = aOper X call f r i o a' m := by
  unfold aOper
  split
  · rename_i c hc
    rw [hc] at h
    have hargs : c.args.toList.map a.eval = c.args.toList.map a'.eval := List.map_congr_left fun x hx => h x (by simp only [Op.operands, Call.operands]; simp at hx; simp [hx])
    split
    · rw [hargs]
    · rename_i g hg
      have hge : a.eval g = a'.eval g := h g (by simp [Op.operands, Call.operands, hg])
      rw [hargs, hge]
    · rfl
  · rename_i x hx
    rw [hx] at h
    rw [h x (by simp [Op.operands])]
  · rw [aOp_congr h]
/-- does a value name an object's number? -/
def names : AV → Nat → Prop
  | .ptr o _ _, i => o = i
  | .map o, i => o = i
  | _, _ => False
theorem aLoad_at {T : TypeId → Option AT} {m m2 : Mem} {t : TypeId} {p v : AV} (h : aLoad T m t p = some v) (hm : ∀ o, m.obj o ≠ none → names p o → m2.obj o = m.obj o) : aLoad T m2 t p = some v := by
  simp only [aLoad, Option.bind_eq_some_iff] at h ⊢
  obtain ⟨i, hi, h⟩ := h
  refine ⟨i, hi, ?_⟩
  cases p <;> simp only [] at h ⊢ <;> try exact h
  rename_i o ver off
  simp only [Option.bind_eq_some_iff] at h ⊢
  obtain ⟨cs, hcs, h⟩ := h
  refine ⟨cs, ?_, h⟩
  unfold Mem.cells at hcs ⊢
  rw [hm o (fun e => by rw [e] at hcs; cases hcs) rfl]
  exact hcs
theorem mapEntries_at {m m2 : Mem} {x : AV} {es : List (AV × AV)} (h : mapEntries m x = some es) (hm : ∀ o, m.obj o ≠ none → names x o → m2.obj o = m.obj o) : mapEntries m2 x = some es := by
  unfold mapEntries at h ⊢
  split at h
  · exact h
  · rename_i o
    rw [hm o (fun e => by rw [e] at h; cases h) rfl]
    exact h
  · cases h
theorem aLen_at {T : TypeId → Option AT} {m m2 : Mem} {t : TypeId} {x v : AV} (h : aLen T m t x = some v) (hm : ∀ o, m.obj o ≠ none → names x o → m2.obj o = m.obj o) : aLen T m2 t x = some v := by
  unfold aLen at h ⊢
  split at h <;> simp_all
  rename_i o _
  rw [hm o (fun e => by rw [e] at h; cases h) rfl]
  exact h
theorem aLookup_at {T : TypeId → Option AT} {m m2 : Mem} {t : TypeId} {x k v : AV} {ok : Bool} (h : aLookup T m t x k ok = some v) (hm : ∀ o, m.obj o ≠ none → names x o → m2.obj o = m.obj o) : aLookup T m2 t x k ok = some v := by
  unfold aLookup at h ⊢
  split at h
  · simp only [Option.bind_eq_some_iff] at h ⊢
    obtain ⟨ik, hik, ie, hie, h⟩ := h
    refine ⟨ik, hik, ie, hie, ?_⟩
    split at h
    · cases h
    · rename_i hk
      rw [if_neg hk]
      simp only [Option.bind_eq_some_iff] at h ⊢
      obtain ⟨es, hes, h⟩ := h
      exact ⟨es, mapEntries_at hes hm, h⟩
  · cases h
theorem reader_op {X : Ctx} {call call' : CallV} {f r i : Nat} {o : Oper} {a : AAct} {m m' : Mem} {out : AOut} (hk : isReader X.T o.op = true) (h : aOper X call f r i o a m = some (out, m')) :
    m' = m ∧ ∀ m2, (∀ x ∈ o.op.operands, ∀ q, m.obj q ≠ none → names (a.eval x) q → m2.obj q = m.obj q) → aOper X call' f r i o a m2 = some (out, m2) := by
  unfold isReader at hk
  split at hk
  · rename_i t x ho
    simp only [aOper, ho, aOp, Option.map_eq_some_iff] at h
    obtain ⟨⟨v, m1⟩, ⟨u, hu, hv⟩, h⟩ := h
    cases hv; cases h
    refine ⟨rfl, fun m2 hm => ?_⟩
    simp only [aOper, ho, aOp]
    rw [aLoad_at hu (hm x (by simp [ho, Op.operands]))]
    rfl
  · rename_i t x k ok ho
    simp only [aOper, ho, aOp, Option.map_eq_some_iff] at h
    obtain ⟨⟨v, m1⟩, ⟨u, hu, hv⟩, h⟩ := h
    cases hv; cases h
    refine ⟨rfl, fun m2 hm => ?_⟩
    simp only [aOper, ho, aOp]
    rw [aLookup_at hu (hm x (by simp [ho, Op.operands]))]
    rfl
  · rename_i c ho
    split at hk
    · rename_i hc
      clear hk
      simp only [aOper, ho, hc, Option.map_eq_some_iff] at h
      obtain ⟨⟨v, m1⟩, hb, h⟩ := h
      cases h
      have hl : ∃ t y, c.argTypes.toList = [t] ∧ c.args.toList = [y] := by
        generalize c.argTypes.toList = ts at hb
        cases hargs : c.args.toList with
        | nil => rw [hargs] at hb; unfold aBuiltin at hb; split at hb <;> simp_all
        | cons y l =>
          rw [hargs] at hb
          match ts, l, hb with
          | [t], [], _ => exact ⟨t, y, rfl, rfl⟩
          | [], _, hb => simp [aBuiltin] at hb
          | _ :: _ :: _, _, hb => simp [aBuiltin] at hb
          | [t], _ :: _, hb => simp [aBuiltin] at hb
      obtain ⟨t, y, h1, h2⟩ := hl
      simp only [h1, h2, List.map_cons, List.map_nil, aBuiltin, Option.map_eq_some_iff] at hb
      obtain ⟨u, hu, hv⟩ := hb
      cases hv
      refine ⟨rfl, fun m2 hm => ?_⟩
      simp only [aOper, ho, hc, h1, h2, List.map_cons, List.map_nil, aBuiltin]
      rw [aLen_at hu (hm y (by
        have : y ∈ c.args := by
          have : y ∈ c.args.toList := by rw [h2]; simp
          simpa using this
        simp [ho, Op.operands, Call.operands, this]))]
      rfl
    · cases hk
  · cases hk
theorem aBuiltin_min {T : TypeId → Option AT} {md : Nat} {m m' : Mem} {ts : List TypeId} {args : List AV} {v : AV} (h : aBuiltin T md m .min ts args = some (v, m')) : m' = m ∧ ∀ m2, aBuiltin T md m2 .min ts args = some (v, m2) := by
  cases args with
  | nil => simp [aBuiltin] at h
  | cons x r =>
    simp only [aBuiltin, Option.map_eq_some_iff] at h ⊢
    obtain ⟨y, hu, h⟩ := h
    cases h
    exact ⟨rfl, fun m2 => ⟨_, hu, rfl⟩⟩
theorem aBuiltin_max {T : TypeId → Option AT} {md : Nat} {m m' : Mem} {ts : List TypeId} {args : List AV} {v : AV} (h : aBuiltin T md m .max ts args = some (v, m')) : m' = m ∧ ∀ m2, aBuiltin T md m2 .max ts args = some (v, m2) := by
  cases args with
  | nil => simp [aBuiltin] at h
  | cons x r =>
    simp only [aBuiltin, Option.map_eq_some_iff] at h ⊢
    obtain ⟨y, hu, h⟩ := h
    cases h
    exact ⟨rfl, fun m2 => ⟨_, hu, rfl⟩⟩
theorem aBuiltin_len {T : TypeId → Option AT} {md : Nat} {m m' : Mem} {c : Call} {args : List AV} {v : AV} (hk : mapLen T c = false) (h : aBuiltin T md m .len c.argTypes.toList args = some (v, m')) :
    m' = m ∧ ∀ m2, aBuiltin T md m2 .len c.argTypes.toList args = some (v, m2) := by
  unfold mapLen at hk
  generalize c.argTypes.toList = ts at *
  have hl : ∃ t y, ts = [t] ∧ args = [y] := by
    match ts, args, h with
    | [t], [y], _ => exact ⟨t, y, rfl, rfl⟩
    | [], _, h => simp [aBuiltin] at h
    | _ :: _ :: _, _, h => simp [aBuiltin] at h
    | [t], [], h => simp [aBuiltin] at h
    | [t], _ :: _ :: _, h => simp [aBuiltin] at h
  obtain ⟨t, y, rfl, rfl⟩ := hl
  simp only [aBuiltin, Option.map_eq_some_iff] at h ⊢
  obtain ⟨u, hu, h⟩ := h
  cases h
  refine ⟨rfl, fun m2 => ⟨_, ?_, rfl⟩⟩
  unfold aLen at hu ⊢
  simp only [] at hk
  split at hu <;> simp_all
theorem aBox_local {m m' : Mem} {v p : AV} (h : aBox m v = some (p, m')) : ∃ x, m' = m.alloc x ∧ ∀ m2 : Mem, m2.next = m.next → aBox m2 v = some (p, m2.alloc x) := by
  simp only [aBox, Option.map_eq_some_iff] at h ⊢
  obtain ⟨vs, hvs, h⟩ := h
  cases h
  exact ⟨_, rfl, fun m2 hm => ⟨vs, hvs, by rw [hm]⟩⟩
theorem aMakeSlice_local {T : TypeId → Option AT} {md : Nat} {m m' : Mem} {t : TypeId} {l c v : AV} (h : aMakeSlice T md m t l c = some (v, m')) :
    (m' = m ∧ ∀ m2 : Mem, m2.next = m.next → aMakeSlice T md m2 t l c = some (v, m2)) ∨ ∃ x, m' = m.alloc x ∧ ∀ m2 : Mem, m2.next = m.next → aMakeSlice T md m2 t l c = some (v, m2.alloc x) := by
  unfold aMakeSlice at h ⊢
  split at h
  · simp only [Option.bind_eq_some_iff] at h
    obtain ⟨ie, hie, z, hz, h⟩ := h
    simp only [hie, hz, Option.bind_some]
    split at h
    · rename_i hc
      simp only [hc, and_self, if_true, true_and, not_false_eq_true, ne_eq]
      split at h
      · split at h
        · cases h; exact .inr ⟨_, rfl, fun m2 hm => by simp_all⟩
        · cases h; exact .inl ⟨rfl, fun m2 hm => by simp_all⟩
      · cases h; exact .inr ⟨_, rfl, fun m2 hm => by simp_all⟩
    · cases h
  · cases h
theorem local_op {X : Ctx} {call : CallV} {f r i : Nat} {o : Oper} {a : AAct} {m m' : Mem} {v : AV} (he : isEff (X.md f r i) o.op = false) (hk : isReader X.T o.op = false) (h : aOper X call f r i o a m = some (.ret v, m')) :
    (m' = m ∧ ∀ m2 : Mem, m2.next = m.next → aOper X call f r i o a m2 = some (.ret v, m2)) ∨
    (isAlloc o.op = true ∧ ∃ x, m' = m.alloc x ∧ ∀ m2 : Mem, m2.next = m.next → aOper X call f r i o a m2 = some (.ret v, m2.alloc x)) := by
  cases ho : o.op <;> rw [ho] at he hk <;> simp only [isEff, isReader] at he hk <;> (try (cases he; done)) <;> (try (cases hk; done)) <;> simp only [aOper, ho, isAlloc] at h ⊢
  case call c =>
    split at he
    · rename_i hc
      left
      simp only [hc] at hk
      simp only [hc, Option.map_eq_some_iff] at h ⊢
      obtain ⟨⟨u, m1⟩, hb, h⟩ := h
      cases h
      obtain ⟨h1, h2⟩ := aBuiltin_len hk hb
      exact ⟨h1, fun m2 _ => ⟨_, h2 m2, rfl⟩⟩
    · rename_i hc
      left
      simp only [hc, Option.map_eq_some_iff] at h ⊢
      obtain ⟨⟨u, m1⟩, hb, h⟩ := h
      cases h
      obtain ⟨h1, h2⟩ := aBuiltin_min hb
      exact ⟨h1, fun m2 _ => ⟨_, h2 m2, rfl⟩⟩
    · rename_i hc
      left
      simp only [hc, Option.map_eq_some_iff] at h ⊢
      obtain ⟨⟨u, m1⟩, hb, h⟩ := h
      cases h
      obtain ⟨h1, h2⟩ := aBuiltin_max hb
      exact ⟨h1, fun m2 _ => ⟨_, h2 m2, rfl⟩⟩
    · cases he
  all_goals
    simp only [Option.map_eq_some_iff, aOp] at h ⊢
    obtain ⟨⟨u, m1⟩, hb, h⟩ := h
    cases h
  case alloc e =>
    right
    simp only [Option.bind_eq_some_iff] at hb
    obtain ⟨ie, hie, hb⟩ := hb
    obtain ⟨x, h1, h2⟩ := aBox_local hb
    exact ⟨trivial, x, h1, fun m2 hm => ⟨_, by rw [hie, Option.bind_some, h2 m2 hm], rfl⟩⟩
  case box e y =>
    right
    obtain ⟨x, h1, h2⟩ := aBox_local hb
    exact ⟨trivial, x, h1, fun m2 hm => ⟨_, h2 m2 hm, rfl⟩⟩
  case makeMap t z =>
    right
    cases z with
    | none => simp only [] at hb ⊢; cases hb; exact ⟨trivial, _, rfl, fun m2 hm => ⟨_, rfl, by rw [hm]⟩⟩
    | some z => cases hb
  case makeSlice t l c =>
    rcases aMakeSlice_local hb with ⟨h1, h2⟩ | ⟨x, h1, h2⟩
    · exact .inl ⟨h1, fun m2 hm => ⟨_, h2 m2 hm, rfl⟩⟩
    · exact .inr ⟨trivial, x, h1, fun m2 hm => ⟨_, h2 m2 hm, rfl⟩⟩
  case move y =>
    left
    have hmd : ¬ X.md f r i / 2 = 1 := by simpa using he
    rw [if_neg hmd] at hb
    cases hb
    exact ⟨rfl, fun m2 _ => ⟨(_, m2), by rw [if_neg hmd], rfl⟩⟩
  case assign y =>
    left
    have hmd : ¬ X.md f r i / 2 = 1 := by simpa using he
    rw [if_neg hmd] at hb
    cases hb
    exact ⟨rfl, fun m2 _ => ⟨(_, m2), by rw [if_neg hmd], rfl⟩⟩
  case buildSlice t n ps =>
    left
    have hmd : ¬ X.md f r i % 2 = 1 := by simpa using he
    rw [if_neg hmd] at hb
    simp only [Option.map_eq_some_iff] at hb
    obtain ⟨y, hy, hb⟩ := hb
    cases hb
    exact ⟨rfl, fun m2 _ => ⟨(_, m2), by rw [if_neg hmd, hy]; rfl, rfl⟩⟩
  case pick c y z => left; split at hb <;> cases hb <;> exact ⟨rfl, fun m2 _ => ⟨_, rfl, rfl⟩⟩
  case nilCheck y => left; split at hb <;> cases hb <;> exact ⟨rfl, fun m2 _ => ⟨_, rfl, rfl⟩⟩
  case makeInterface t y => left; split at hb <;> cases hb <;> exact ⟨rfl, fun m2 _ => ⟨_, rfl, rfl⟩⟩
  case makeFunc fn y z => left; cases fn <;> simp only [] at hb <;> cases hb <;> exact ⟨rfl, fun m2 _ => ⟨_, rfl, rfl⟩⟩
  all_goals
    left
    simp only [Option.map_eq_some_iff] at hb ⊢
    obtain ⟨y, hy, hb⟩ := hb
    cases hb
    exact ⟨rfl, fun m2 _ => ⟨_, ⟨_, hy, rfl⟩, rfl⟩⟩
def aWant (all : List Oper) (o : Oper) (a : AAct) : Option Bool :=
  match o.guard with
  | none => some true
  | some (j, want) => match (all[j]?).bind (·.dst) with
    | none => none
    | some t => match a.tmps.getD t .undef with
      | .bool true => some want
      | .bool false => some (!want)
      | .tup [] => some false
      | _ => none
theorem set_same {l : List AV} {t : Nat} {v : AV} (h : l.getD t .undef = v) (hv : v ≠ .undef) : l.set t v = l := by
  rcases Nat.lt_or_ge t l.length with hlt | hge
  · have : l[t] = v := by simpa [List.getD, hlt] using h
    rw [← this, List.set_getElem_self]
  · simp [List.getD, List.getElem?_eq_none hge] at h
    exact absurd h.symm hv
theorem aGuard_want {α : Type} {all : List Oper} {o : Oper} {a : AAct} {k : Bool → AAct → α} {z : α} : aGuard all o a k z = match aWant all o a with | some wd => k wd a | none => z := by
  unfold aGuard aWant
  cases o.guard with
  | none => rfl
  | some jw =>
    obtain ⟨j, want⟩ := jw
    simp only []
    cases (all[j]?).bind (·.dst) with
    | none => rfl
    | some t =>
      simp only []
      split
      · rename_i h
        rw [set_same h (by simp), h]
      · rename_i h
        rw [set_same h (by simp), h]
      · rename_i h
        rw [set_same h (by simp), h]
      · split
        · rename_i heq; split at heq <;> simp_all
        · rfl
theorem aWant_congr {ops : Array Oper} {o : Oper} {a a' : AAct} (h : ∀ t ∈ o.looksAt ops, a.tmps.getD t .undef = a'.tmps.getD t .undef) : aWant ops.toList o a = aWant ops.toList o a' := by
  unfold aWant
  cases hg : o.guard with
  | none => rfl
  | some jw =>
    obtain ⟨j, want⟩ := jw
    simp only []
    cases ht : (ops.toList[j]?).bind (·.dst) with
    | none => rfl
    | some t =>
      have ht' : (ops[j]?).bind (·.dst) = some t := by simpa using ht
      simp only []
      rw [h t (by simp [Oper.looksAt, hg, ht'])]
theorem eval_congr {ops : Array Oper} {o : Oper} {a a' : AAct} (h : ∀ t ∈ o.looksAt ops, a.tmps.getD t .undef = a'.tmps.getD t .undef) : ∀ x ∈ o.op.operands, a.eval x = a'.eval x := by
  intro x hx
  cases x with
  | tmp t =>
    simp only [AAct.eval]
    refine h t ?_
    unfold Oper.looksAt
    exact List.mem_append_left _ (List.mem_filterMap.2 ⟨.tmp t, by simpa using hx, rfl⟩)
  | _ => rfl
theorem want_run {Γ : Gh} {ops : Array Oper} {o : Oper} {a : AAct} {b : Act} {wd : Bool} (ha : ActRel Γ a b) (h : aWant ops.toList o a = some wd) : Region.wanted o (yielded ops b.tmps) = wd := by
  have : aGuard ops.toList o a (fun w a => some w) none = some wd := by rw [aGuard_want, h]
  obtain ⟨wd', a2, h1, _, h2⟩ := guard_run ha this
  cases h2
  simpa using h1
theorem getD_put {a : AAct} {d : Nat} {v : AV} {t : Nat} : (a.put (some d) v).tmps.getD t .undef = if t = d ∧ d < a.tmps.length then v else a.tmps.getD t .undef := by
  simp only [AAct.put, List.getD, List.getElem?_set]
  by_cases h : d = t
  · subst h
    by_cases h2 : d < a.tmps.length
    · simp [h2]
    · simp [h2]
  · rw [if_neg h, if_neg (fun e => h e.1.symm)]
theorem put_len (a : AAct) (d : Option Nat) (v : AV) : (a.put d v).tmps.length = a.tmps.length := by cases d <;> simp [AAct.put]
theorem put_defs (a : AAct) (d : Option Nat) (v : AV) : (a.put d v).defers = a.defers := by cases d <;> rfl
theorem Rel.sub {Γ : Gh} {M m : Mem} {w : World} (h : Rel Γ M w) (hs : ∀ o x, m.obj o = some x → M.obj o = some x) (ha : ∀ o, m.next ≤ o → m.obj o = none) : Rel Γ m w :=
  ⟨h.bound, h.known, h.cells, h.rows, h.maps, fun o x hx => h.objs o x (hs o x hx), ha⟩
theorem graft {Γ0 Γ Γ' : Gh} {m0 M m m' M' : Mem} {w0 w w' : World} (hr0 : Rel Γ0 m0 w0) (hf0 : Fresh Γ0 m0.next M.next) (p : Post Γ0 m0 w0 Γ M w) (hs : ∀ o x, m.obj o = some x → M.obj o = some x)
    (q : Post Γ m w Γ' m' w') (h0 : m0.next ≤ m.next) (h1 : m'.next ≤ M.next) (hn : M'.next = M.next) (g1 : ∀ o x, m'.obj o = some x → M'.obj o = some x) (g2 : ∀ o, m'.obj o = none → M'.obj o = M.obj o) :
    Post Γ0 m0 w0 Γ' M' w' := by
  have hmn : ∀ o, M.obj o = none → m.obj o = none := fun o ho => by
    cases hx : m.obj o with
    | none => rfl
    | some x => rw [hs o x hx] at ho; cases ho
  have hmm : ∀ o, m'.obj o = none → m.obj o = none := fun o ho => by
    cases hx : m.obj o with
    | none => rfl
    | some x => exact absurd ho (q.mem.some o (by rw [hx]; simp))
  have hup : ∀ o, m'.obj o ≠ none → M'.obj o ≠ none := fun o ho => by
    cases hx : m'.obj o with
    | none => exact absurd hx ho
    | some x => rw [g1 o x hx]; simp
  have hMM : ∀ o, M.obj o ≠ none → M'.obj o ≠ none := fun o ho => by
    cases hx : m'.obj o with
    | none => rw [g2 o hx]; exact ho
    | some x => rw [g1 o x hx]; simp
  have idne : ∀ {b o}, (Γ.role b).id = some o → b < w.heap.size := fun {b o} h => p.rel.bound b (fun e => by rw [e] at h; cases h)
  have still : ∀ b o, (Γ'.role b).id = some o → m'.obj o = none → (Γ.role b).id = some o ∧ Γ'.role b = Γ.role b := fun b o hid hno => by
    rcases q.ids.role b o hid with h | h | h
    · exact ⟨h, q.keep b o h (hmm o hno)⟩
    · exact absurd hno h.2.2.2
    · exact absurd (hmm o hno) h.2
  have hM0 : ∀ o, m0.obj o = none → (∀ b, (Γ0.role b).id = some o → M.obj o = none) := fun o ho b hb => by
    rcases Nat.lt_or_ge o m0.next with hlt | hge
    · exact p.mem.none o hlt ho
    · exact p.rel.above o (by rcases Nat.lt_or_ge o M.next with h | h; exact absurd ⟨hge, h⟩ (hf0.role b o hb); exact h)
  refine ⟨p.le.trans q.le, ⟨q.rel.bound, q.rel.known, q.rel.cells, q.rel.rows, q.rel.maps, ?_, ?_⟩, ⟨Nat.le_trans p.frame.size q.frame.size, q.frame.os.trans p.frame.os, q.frame.tape.trans p.frame.tape, q.frame.output.trans p.frame.output, ?_⟩, ⟨?_, ?_, ?_⟩, ⟨?_, ?_, ?_⟩, ?_, ?_⟩
  · intro o x hx
    cases hy : m'.obj o with
    | some y =>
      rw [g1 o y hy] at hx
      cases hx
      exact q.rel.objs o _ hy
    | none =>
      rw [g2 o hy] at hx
      refine ORel.keep (p.rel.objs o x hx) q.le (fun b hb => ?_) (fun b v n hrow => ?_) (fun b hb => q.keep b o hb (hmm o hy)) (fun y hty => ?_)
      · refine q.frame.block b (idne hb) (id_lit hb) (fun o' ho' => ?_)
        have := owner_id ho'
        rw [hb] at this
        cases this
        exact hmm o hy
      · obtain ⟨h2, h3⟩ := still b o (isRow_id hrow) hy
        rwa [h3] at hrow
      · rw [q.keepTok o (by rw [hty]; simp) (hmm o hy)]; exact hty
  · intro o ho
    rw [hn] at ho
    rw [g2 o (q.rel.above o (Nat.le_trans h1 ho))]
    exact p.rel.above o ho
  · intro b hb hl hown
    rw [q.frame.block b (Nat.lt_of_lt_of_le hb p.frame.size) (by rcases le_lit (p.le.1 b) hl with e | e; rw [p.ids.free b hb e]; rfl; exact e) (fun o ho => ?_), p.frame.block b hb hl hown]
    rcases le_owner (p.le.1 b) ho with hfree | h
    · have := p.ids.free b hb hfree
      rw [this] at ho; cases ho
    · exact hmn o (hM0 o (hown o h) b (owner_id h))
  · intro b o hid
    rcases q.ids.role b o hid with h | h | h
    · rcases p.ids.role b o h with h2 | h2 | h2
      · exact .inl h2
      · exact .inr (.inl ⟨h2.1, by rw [hn]; exact h2.2.1, h2.2.2.1, hMM o h2.2.2.2⟩)
      · exact .inr (.inr h2)
    · exact .inr (.inl ⟨Nat.le_trans h0 h.1, by rw [hn]; exact Nat.lt_of_lt_of_le h.2.1 h1, Nat.le_trans p.frame.size h.2.2.1, hup o h.2.2.2⟩)
    · have hMo : M.obj o ≠ none := fun e => h.2 (hmn o e)
      cases hx : m0.obj o with
      | some x => exact .inr (.inr ⟨Nat.le_trans p.frame.size h.1, by simp⟩)
      | none =>
        refine .inr (.inl ⟨?_, ?_, Nat.le_trans p.frame.size h.1, hMM o hMo⟩)
        · rcases Nat.lt_or_ge o m0.next with h3 | h3
          · exact absurd (p.mem.none o h3 hx) hMo
          · exact h3
        · rw [hn]
          rcases Nat.lt_or_ge o M.next with h3 | h3
          · exact h3
          · exact absurd (p.rel.above o h3) hMo
  · intro t ht
    rcases q.ids.tok t ht with h | h
    · rcases p.ids.tok t h with h2 | h2
      · exact .inl h2
      · exact .inr ⟨h2.1, by rw [hn]; exact h2.2.1, hMM t h2.2.2⟩
    · exact .inr ⟨Nat.le_trans h0 h.1, by rw [hn]; exact Nat.lt_of_lt_of_le h.2.1 h1, hup t h.2.2⟩
  · intro b hb hfr
    exact q.ids.free b (Nat.lt_of_lt_of_le hb p.frame.size) (p.ids.free b hb hfr)
  · rw [hn]; exact p.mem.next
  · intro o ho hno
    have h2 : m.obj o = none := hmn o (p.mem.none o ho hno)
    rw [g2 o (q.mem.none o (Nat.lt_of_lt_of_le ho h0) h2)]
    exact p.mem.none o ho hno
  · intro o ho
    exact hMM o (p.mem.some o ho)
  · intro b o hb hno
    have h2 := hM0 o hno b hb
    have h3 := p.keep b o hb hno
    rw [q.keep b o (by rw [h3]; exact hb) (hmn o h2), h3]
  · intro t ht hno
    have h2 : M.obj t = none := by
      rcases Nat.lt_or_ge t m0.next with hlt | hge
      · exact p.mem.none t hlt hno
      · exact p.rel.above t (by rcases Nat.lt_or_ge t M.next with h | h; exact absurd ⟨hge, h⟩ (hf0.tok t ht); exact h)
    have h3 := p.keepTok t ht hno
    rw [q.keepTok t (by rw [h3]; exact ht) (hmn t h2), h3]
structure Tr (X : Ctx) (call : CallV) (f r : Nat) (ops : Array Oper) (tr : Nat → AAct × Mem) : Prop where
  step : ∀ j o, ops[j]? = some o → ∃ wd, aWant ops.toList o (tr j).1 = some wd ∧ (wd = true → ∃ v, aOper X call f r j o (tr j).1 (tr j).2 = some (.ret v, (tr (j + 1)).2) ∧ (tr (j + 1)).1 = (tr j).1.put o.dst v) ∧
    (wd = false → (tr (j + 1)).1 = (tr j).1.put o.dst (.tup []) ∧ (tr (j + 1)).2 = (tr j).2)
  zero : ∀ o, (tr 0).2.next ≤ o → (tr 0).2.obj o = none
def effAt (X : Ctx) (f r : Nat) (ops : Array Oper) (k : Nat) : Bool := match ops[k]? with | some o => isEff (X.md f r k) o.op | none => false
def allocAt (ops : Array Oper) (k : Nat) : Bool := match ops[k]? with | some o => isAlloc o.op | none => false
def readAt (X : Ctx) (ops : Array Oper) (k : Nat) : Bool := match ops[k]? with | some o => isReader X.T o.op | none => false
def wr (ops : Array Oper) (t k : Nat) : Bool := match ops[k]? with | some o => o.dst == some t | none => false
def lk (ops : Array Oper) (t k : Nat) : Bool := match ops[k]? with | some o => (o.looksAt ops).contains t | none => false
def touch (X : Ctx) (f r : Nat) (ops : Array Oper) (tr : Nat → AAct × Mem) (q k : Nat) : Bool := decide (q < (tr (k + 1)).2.next) && (effAt X f r ops k || decide ((tr k).2.next ≤ q))
/-- what is known of a region's order -/
structure Sorted (X : Ctx) (f r : Nat) (ops : Array Oper) (N : Nat → Nat → Bool) : Prop where
  down : ∀ S, Down ops S → ∀ j i, S j = true → N j i = true → S i = true
  back : ∀ j o, ops[j]? = some o → ∀ e ∈ o.after, Region.binds .any e = true → e.on < j
  ee : ∀ i j, i < j → effAt X f r ops i = true → effAt X f r ops j = true → N j i = true
  ae : ∀ i j, i < j → allocAt ops i = true → effAt X f r ops j = true → N j i = true
  re : ∀ i j, i < j → readAt X ops i = true → effAt X f r ops j = true → N j i = true ∨ (i, j) ∈ X.chk f r
  er : ∀ i j, i < j → effAt X f r ops i = true → readAt X ops j = true → N j i = true ∨ (j, i) ∈ X.chk f r
  wl : ∀ t i j, i < j → wr ops t i = true → lk ops t j = true → N j i = true
  ww : ∀ t i j, i < j → wr ops t i = true → wr ops t j = true → N j i = true
  lw : ∀ t i j, i < j → lk ops t i = true → wr ops t j = true → N j i = true
theorem sorted_of {X : Ctx} {f r : Nat} {ops : Array Oper} (h : drawOkB X.T (X.md f r) (X.chk f r) ops = true) : Sorted X f r ops (needs (ancs ops.toList [])) := by
  simp only [drawOkB, Bool.and_eq_true] at h
  have pair : ∀ i j, i < j → ∀ x y, ops[i]? = some x → ops[j]? = some y →
      pairOk (ancs ops.toList []) (X.chk f r) i j ⟨isEff (X.md f r i) x.op, isReader X.T x.op, isAlloc x.op, x.dst, x.looksAt ops⟩ ⟨isEff (X.md f r j) y.op, isReader X.T y.op, isAlloc y.op, y.dst, y.looksAt ops⟩ = true := by
    intro i j hij x y hx hy
    have h1 := factsOf_get (T := X.T) (md := X.md f r) (ops := ops) ops.toList 0 i x (by simpa using hx)
    have h2 := factsOf_get (T := X.T) (md := X.md f r) (ops := ops) ops.toList 0 j y (by simpa using hy)
    have := rowsOk_get _ 0 h.2 i j _ _ hij h1 h2
    simpa using this
  have get : ∀ {k : Nat} {p : Oper → Bool}, (match ops[k]? with | some o => p o | none => false) = true → ∃ o, ops[k]? = some o ∧ p o = true := by
    intro k p hk
    cases ho : ops[k]? with
    | none => rw [ho] at hk; cases hk
    | some o => rw [ho] at hk; exact ⟨o, rfl, hk⟩
  refine ⟨fun S hS j i hj hi => needs_down hS hj hi, fun j o ho e he hb => by simpa using backOk_get ops.toList 0 h.1 j o (by simpa using ho) e he hb, ?_, ?_, ?_, ?_, ?_, ?_, ?_⟩
  · intro i j hij hi hj
    obtain ⟨x, hx, hi⟩ := get (p := fun o => isEff (X.md f r i) o.op) hi
    obtain ⟨y, hy, hj⟩ := get (p := fun o => isEff (X.md f r j) o.op) hj
    have := pair i j hij x y hx hy
    simp only [pairOk, hi, hj] at this
    simpa using this
  · intro i j hij hi hj
    obtain ⟨x, hx, hi⟩ := get (p := fun o => isAlloc o.op) hi
    obtain ⟨y, hy, hj⟩ := get (p := fun o => isEff (X.md f r j) o.op) hj
    have := pair i j hij x y hx hy
    simp only [pairOk, hi, hj] at this
    simpa using this
  · intro i j hij hi hj
    obtain ⟨x, hx, hi⟩ := get (p := fun o => isReader X.T o.op) hi
    obtain ⟨y, hy, hj⟩ := get (p := fun o => isEff (X.md f r j) o.op) hj
    have := pair i j hij x y hx hy
    simp only [pairOk, hi, hj, Bool.or_eq_true, Bool.and_eq_true] at this
    rcases this with h | h
    · exact .inl h
    · have := h.1.1.1.2; right; simpa using this
  · intro i j hij hi hj
    obtain ⟨x, hx, hi⟩ := get (p := fun o => isEff (X.md f r i) o.op) hi
    obtain ⟨y, hy, hj⟩ := get (p := fun o => isReader X.T o.op) hj
    have := pair i j hij x y hx hy
    simp only [pairOk, hi, hj, Bool.or_eq_true, Bool.and_eq_true] at this
    rcases this with h | h
    · exact .inl h
    · have := h.1.1.2; right; simpa using this
  · intro t i j hij hi hj
    obtain ⟨x, hx, hi⟩ := get (p := fun o => o.dst == some t) hi
    obtain ⟨y, hy, hj⟩ := get (p := fun o => (o.looksAt ops).contains t) hj
    have := pair i j hij x y hx hy
    have hi : x.dst = some t := by simpa using hi
    simp only [pairOk, hi, Bool.or_eq_true, Bool.and_eq_true] at this
    rcases this with h | h
    · exact h
    · have := h.1.2.1; simp only [hj] at this; cases this
  · intro t i j hij hi hj
    obtain ⟨x, hx, hi⟩ := get (p := fun o => o.dst == some t) hi
    obtain ⟨y, hy, hj⟩ := get (p := fun o => o.dst == some t) hj
    have := pair i j hij x y hx hy
    have hi : x.dst = some t := by simpa using hi
    have hj : y.dst = some t := by simpa using hj
    simp only [pairOk, hi, Bool.or_eq_true, Bool.and_eq_true] at this
    rcases this with h | h
    · exact h
    · have := h.1.2.2; simp [hj] at this
  · intro t i j hij hi hj
    obtain ⟨x, hx, hi⟩ := get (p := fun o => (o.looksAt ops).contains t) hi
    obtain ⟨y, hy, hj⟩ := get (p := fun o => o.dst == some t) hj
    have := pair i j hij x y hx hy
    have hj : y.dst = some t := by simpa using hj
    simp only [pairOk, hj, Bool.or_eq_true, Bool.and_eq_true] at this
    rcases this with h | h
    · exact h
    · have := h.2; simp only [hi] at this; cases this
section
variable {X : Ctx} {call : CallV} {f r : Nat} {ops : Array Oper} {tr : Nat → AAct × Mem} {N : Nat → Nat → Bool}
theorem Tr.stepM (h : Tr X call f r ops tr) (hM : CallMono call) {j : Nat} (hj : j < ops.size) : Step (tr j).2 (tr (j + 1)).2 := by
  obtain ⟨wd, _, h1, h2⟩ := h.step j ops[j] (Array.getElem?_eq_getElem hj)
  cases wd with
  | true => obtain ⟨v, hv, _⟩ := h1 rfl; exact aOper_next hM hv
  | false => rw [(h2 rfl).2]; exact .refl _
theorem Tr.above (h : Tr X call f r ops tr) (hM : CallMono call) : ∀ {j : Nat}, j ≤ ops.size → ∀ o, (tr j).2.next ≤ o → (tr j).2.obj o = none
  | 0, _ => h.zero
  | j + 1, hj => (h.stepM hM (by omega) (h.above hM (j := j) (by omega))).2
theorem Tr.le (h : Tr X call f r ops tr) (hM : CallMono call) {i : Nat} : ∀ {j : Nat}, i ≤ j → j ≤ ops.size → (tr i).2.le (tr j).2
  | 0, hi, hj => by have : i = 0 := by omega
                    subst this; exact .refl _
  | j + 1, hi, hj => by
    rcases Nat.lt_or_ge i (j + 1) with hlt | hge
    · exact (h.le hM (j := j) (by omega) (by omega)).trans (h.stepM hM (by omega) (h.above hM (by omega))).1
    · have : i = j + 1 := by omega
      subst this; exact .refl _
theorem Tr.nx (h : Tr X call f r ops tr) (hM : CallMono call) {i j : Nat} (hi : i ≤ j) (hj : j ≤ ops.size) : (tr i).2.next ≤ (tr j).2.next := (h.le hM hi hj).next
theorem Tr.len (h : Tr X call f r ops tr) : ∀ {j : Nat}, j ≤ ops.size → (tr j).1.tmps.length = (tr 0).1.tmps.length
  | 0, _ => rfl
  | j + 1, hj => by
    obtain ⟨wd, _, h1, h2⟩ := h.step j ops[j] (Array.getElem?_eq_getElem (by omega))
    rw [← h.len (j := j) (by omega)]
    cases wd with
    | true => obtain ⟨v, _, hv⟩ := h1 rfl; rw [hv, put_len]
    | false => rw [(h2 rfl).1, put_len]
theorem Tr.defs (h : Tr X call f r ops tr) : ∀ {j : Nat}, j ≤ ops.size → (tr j).1.defers = (tr 0).1.defers
  | 0, _ => rfl
  | j + 1, hj => by
    obtain ⟨wd, _, h1, h2⟩ := h.step j ops[j] (Array.getElem?_eq_getElem (by omega))
    rw [← h.defs (j := j) (by omega)]
    cases wd with
    | true => obtain ⟨v, _, hv⟩ := h1 rfl; rw [hv, put_defs]
    | false => rw [(h2 rfl).1, put_defs]
theorem Tr.unwr (h : Tr X call f r ops tr) {j : Nat} (hj : j < ops.size) {t : Nat} (hw : wr ops t j = false) : (tr (j + 1)).1.tmps.getD t .undef = (tr j).1.tmps.getD t .undef := by
  have ho := Array.getElem?_eq_getElem hj
  obtain ⟨wd, _, h1, h2⟩ := h.step j ops[j] ho
  have key : ∀ v, ((tr j).1.put ops[j].dst v).tmps.getD t .undef = (tr j).1.tmps.getD t .undef := by
    intro v
    simp only [wr, ho] at hw
    cases hd : ops[j].dst with
    | none => rfl
    | some d =>
      rw [getD_put, if_neg]
      rintro ⟨rfl, _⟩
      simp [hd] at hw
  cases wd with
  | true => obtain ⟨v, _, hv⟩ := h1 rfl; rw [hv, key]
  | false => rw [(h2 rfl).1, key]
/-- what grows is an effect or an allocation, and what is neither leaves the memory -/
theorem Tr.kinds (h : Tr X call f r ops tr) {j : Nat} (hj : j < ops.size) (he : effAt X f r ops j = false) :
    (tr (j + 1)).2 = (tr j).2 ∨ allocAt ops j = true ∧ ∃ x, (tr (j + 1)).2 = (tr j).2.alloc x := by
  have ho := Array.getElem?_eq_getElem hj
  obtain ⟨wd, _, h1, h2⟩ := h.step j ops[j] ho
  cases wd with
  | false => exact .inl (h2 rfl).2
  | true =>
    obtain ⟨v, hv, _⟩ := h1 rfl
    simp only [effAt, ho] at he
    cases hr : isReader X.T ops[j].op with
    | true => exact .inl (reader_op (call' := call) hr hv).1
    | false =>
      rcases local_op he hr hv with ⟨h3, _⟩ | ⟨h3, x, h4, _⟩
      · exact .inl h3
      · exact .inr ⟨by simp only [allocAt, ho]; exact h3, x, h4⟩
theorem Tr.untouched (h : Tr X call f r ops tr) (hM : CallMono call) {j q : Nat} (hj : j < ops.size) (ht : touch X f r ops tr q j = false) : (tr (j + 1)).2.obj q = (tr j).2.obj q := by
  simp only [touch, Bool.and_eq_false_iff, decide_eq_false_iff_not, Bool.or_eq_false_iff] at ht
  rcases ht with ht | ⟨he, hq⟩
  · rw [h.above hM (by omega) q (by omega), h.above hM (by omega) q (by have := h.nx hM (i := j) (j := j + 1) (by omega) (by omega); omega)]
  · rcases h.kinds hj he with h1 | ⟨_, x, h1⟩
    · rw [h1]
    · rw [h1]; simp only [Mem.alloc]; rw [if_neg (by omega)]
/-- touched, and the number is one that came to be here: an effect or an allocation -/
theorem Tr.grows (h : Tr X call f r ops tr) {j q : Nat} (hj : j < ops.size) (h1 : (tr j).2.next ≤ q) (h2 : q < (tr (j + 1)).2.next) : effAt X f r ops j = true ∨ allocAt ops j = true := by
  cases he : effAt X f r ops j with
  | true => exact .inl rfl
  | false =>
    rcases h.kinds hj he with h3 | ⟨h3, _⟩
    · rw [h3] at h2; omega
    · exact .inr h3
end
/-- what stands when the set S has been done -/
structure Inv (X : Ctx) (f r : Nat) (ops : Array Oper) (tr : Nat → AAct × Mem) (Γ0 : Gh) (w0 : World) (S : Nat → Bool) (Γ : Gh) (M : Mem) (w : World) (aS : AAct) (b : Act) : Prop where
  post : Post Γ0 (tr 0).2 w0 Γ M w
  next : M.next = (tr ops.size).2.next
  objs : ∀ q, M.obj q = lastv S (touch X f r ops tr q) (fun k => (tr k).2.obj q) ops.size
  act : ActRel Γ aS b
  len : aS.tmps.length = (tr 0).1.tmps.length
  defs : aS.defers = (tr 0).1.defers
  tmps : ∀ t, aS.tmps.getD t .undef = lastv S (wr ops t) (fun k => (tr k).1.tmps.getD t .undef) ops.size
def add (S : Nat → Bool) (j : Nat) : Nat → Bool := fun k => k == j || S k
theorem add_self (S : Nat → Bool) (j : Nat) : add S j j = true := by simp [add]
theorem add_ne (S : Nat → Bool) {j k : Nat} (h : k ≠ j) : add S j k = S k := by simp [add, h]
theorem add_down {ops : Array Oper} {S : Nat → Bool} (hS : Down ops S) {j : Nat} {o : Oper} (ho : ops[j]? = some o) (hr : ∀ e ∈ o.after, Region.binds .any e = true → S e.on = true) : Down ops (add S j) := by
  intro k o' ho' hk e he hb
  by_cases h : k = j
  · subst h
    rw [ho] at ho'; cases ho'
    simp [add, hr e he hb]
  · rw [add_ne S h] at hk
    simp [add, hS k o' ho' hk e he hb]
theorem least {p : Nat → Prop} : ∀ (n : Nat), (∃ e, e < n ∧ p e) → ∃ e, e < n ∧ p e ∧ ∀ k, k < e → ¬ p k
  | 0, ⟨e, h, _⟩ => by omega
  | n + 1, ⟨e, h, hp⟩ => by
    by_cases hq : ∃ e, e < n ∧ p e
    · obtain ⟨e', h1, h2, h3⟩ := least n hq
      exact ⟨e', by omega, h2, h3⟩
    · exact ⟨e, h, hp, fun k hk hpk => hq ⟨k, by omega, hpk⟩⟩
theorem greatest {p : Nat → Prop} : ∀ (n : Nat), (∃ e, e < n ∧ p e) → ∃ e, e < n ∧ p e ∧ ∀ k, e < k → k < n → ¬ p k
  | 0, ⟨e, h, _⟩ => by omega
  | n + 1, ⟨e, h, hp⟩ => by
    by_cases hn : p n
    · exact ⟨n, by omega, hn, fun k h1 h2 => by omega⟩
    · have hne : e ≠ n := fun h => hn (h ▸ hp)
      obtain ⟨e', h1, h2, h3⟩ := greatest n ⟨e, by omega, hp⟩
      exact ⟨e', by omega, h2, fun k h4 h5 => by
        rcases Nat.lt_or_ge k n with h6 | h6
        · exact h3 k h4 h6
        · have : k = n := by omega
          subst this; exact hn⟩
section
variable {P : Program} {X : Ctx} {call : CallV} {f r : Nat} {ops : Array Oper} {tr : Nat → AAct × Mem} {N : Nat → Nat → Bool} {Γ0 : Gh} {w0 : World}
/-- a number that comes to be at an operation that has not been done is nobody's -/
theorem Inv.vacant (ht : Tr X call f r ops tr) (hM : CallMono call) (hN : Sorted X f r ops N) {S : Nat → Bool} (hS : Down ops S) {Γ : Gh} {M : Mem} {w : World} {aS : AAct} {b : Act} (hI : Inv X f r ops tr Γ0 w0 S Γ M w aS b)
    {j q : Nat} (hj : j < ops.size) (hSj : S j = false) (h1 : (tr j).2.next ≤ q) (h2 : q < (tr (j + 1)).2.next) : M.obj q = none := by
  have hg := ht.grows hj h1 h2
  rw [hI.objs, lastv_none]
  · exact ht.zero q (by have := ht.nx hM (i := 0) (j := j) (by omega) (by omega); omega)
  · intro k hk htk
    simp only [touch, Bool.and_eq_true, decide_eq_true_eq, Bool.or_eq_true] at htk
    rcases Nat.lt_trichotomy k j with h | h | h
    · have := ht.nx hM (i := k + 1) (j := j) (by omega) (by omega); omega
    · rw [h]; exact hSj
    · have hek : effAt X f r ops k = true := by
        rcases htk.2 with h3 | h3
        · exact h3
        · have := ht.nx hM (i := j + 1) (j := k) (by omega) (by omega); omega
      have hn : N k j = true := by
        rcases hg with h3 | h3
        · exact hN.ee j k h h3 hek
        · exact hN.ae j k h h3 hek
      cases hSk : S k with
      | false => rfl
      | true => rw [hN.down S hS k j hSk hn] at hSj; cases hSj
/-- between two effects the memory is the text's, as far as it is there -/
theorem Inv.same (ht : Tr X call f r ops tr) (hM : CallMono call) (hN : Sorted X f r ops N) {S : Nat → Bool} (hS : Down ops S) {Γ : Gh} {M : Mem} {w : World} {aS : AAct} {b : Act} (hI : Inv X f r ops tr Γ0 w0 S Γ M w aS b)
    {k : Nat} (hk : k ≤ ops.size) (h1 : ∀ e, e < k → effAt X f r ops e = true → S e = true) (h2 : ∀ e, k ≤ e → e < ops.size → effAt X f r ops e = true → S e = false) {q : Nat}
    (hq : M.obj q ≠ none) (hq2 : (tr k).2.obj q ≠ none) : M.obj q = (tr k).2.obj q := by
  have hlt : q < (tr k).2.next := by
    rcases Nat.lt_or_ge q (tr k).2.next with h | h
    · exact h
    · exact absurd (ht.above hM hk q h) hq2
  rw [hI.objs]
  refine lastv_at (fun e he hte => ht.untouched hM he hte) hk (fun e he hte => ?_) (fun e he hen hte => ?_)
  · simp only [touch, Bool.and_eq_true, decide_eq_true_eq, Bool.or_eq_true] at hte
    rcases hte.2 with h3 | h3
    · exact h1 e he h3
    · cases hSe : S e with
      | true => rfl
      | false => exact absurd (hI.vacant ht hM hN hS (by omega) hSe h3 hte.1) hq
  · simp only [touch, Bool.and_eq_true, decide_eq_true_eq, Bool.or_eq_true] at hte
    rcases hte.2 with h3 | h3
    · exact h2 e he hen h3
    · have := ht.nx hM (i := k) (j := e) he (by omega); omega
theorem Inv.fresh (ht : Tr X call f r ops tr) (hM : CallMono call) (hN : Sorted X f r ops N) {S : Nat → Bool} (hS : Down ops S) {Γ : Gh} {M : Mem} {w : World} {aS : AAct} {b : Act} (hI : Inv X f r ops tr Γ0 w0 S Γ M w aS b)
    (hf : Fresh Γ0 (tr 0).2.next (tr ops.size).2.next) {j : Nat} (hj : j < ops.size) (hSj : S j = false) : Fresh Γ (tr j).2.next (tr (j + 1)).2.next := by
  have n0 := ht.nx hM (i := 0) (j := j) (by omega) (by omega)
  have n1 := ht.nx hM (i := j + 1) (j := ops.size) (by omega) (by omega)
  constructor
  · intro b q hid hh
    have hv := hI.vacant ht hM hN hS hj hSj hh.1 hh.2
    rcases hI.post.ids.role b q hid with h | h | h
    · exact hf.role b q h ⟨by omega, by omega⟩
    · exact h.2.2.2 hv
    · exact h.2 (ht.zero q (by omega))
  · intro t hid hh
    have hv := hI.vacant ht hM hN hS hj hSj hh.1 hh.2
    rcases hI.post.ids.tok t hid with h | h
    · exact hf.tok t h ⟨by omega, by omega⟩
    · exact h.2.2 hv
/-- what the memory is behind one more operation -/
theorem Inv.add (ht : Tr X call f r ops tr) (hM : CallMono call) (hN : Sorted X f r ops N) {S : Nat → Bool} (hS : Down ops S) {Γ : Gh} {M : Mem} {w : World} {aS : AAct} {b : Act} (hI : Inv X f r ops tr Γ0 w0 S Γ M w aS b)
    {j : Nat} (hj : j < ops.size) (hSj : S j = false) (q : Nat) : lastv (AM.add S j) (touch X f r ops tr q) (fun k => (tr k).2.obj q) ops.size = if touch X f r ops tr q j then (tr (j + 1)).2.obj q else M.obj q := by
  cases htj : touch X f r ops tr q j with
  | false =>
    simp only [Bool.false_eq_true, if_false]
    rw [hI.objs]
    refine lastv_congr fun k hk htk => add_ne S ?_
    rintro rfl
    rw [htj] at htk; cases htk
  | true =>
    simp only [if_true]
    refine lastv_add (add_self S j) (fun k hk => add_ne S hk) htj hj (fun k hjk hkn htk => ?_)
    simp only [touch, Bool.and_eq_true, decide_eq_true_eq, Bool.or_eq_true] at htk htj
    have n1 := ht.nx hM (i := j + 1) (j := k) (by omega) (by omega)
    have hek : effAt X f r ops k = true := by
      rcases htk.2 with h3 | h3
      · exact h3
      · omega
    have hn : N k j = true := by
      rcases htj.2 with h3 | h3
      · exact hN.ee j k hjk h3 hek
      · rcases ht.grows hj h3 htj.1 with h4 | h4
        · exact hN.ee j k hjk h4 hek
        · exact hN.ae j k hjk h4 hek
    cases hSk : S k with
    | false => rfl
    | true => rw [hN.down S hS k j hSk hn] at hSj; cases hSj
/-- ahead of a ready effect the memory is the text's -/
theorem Inv.home0 (ht : Tr X call f r ops tr) (hM : CallMono call) (hN : Sorted X f r ops N) {S : Nat → Bool} (hS : Down ops S) {Γ : Gh} {M : Mem} {w : World} {aS : AAct} {b : Act} (hI : Inv X f r ops tr Γ0 w0 S Γ M w aS b)
    {j : Nat} {o : Oper} (ho : ops[j]? = some o) (hSj : S j = false) (hr : ∀ e ∈ o.after, Region.binds .any e = true → S e.on = true) (hej : effAt X f r ops j = true) {q : Nat} (hq : q < (tr j).2.next) : M.obj q = (tr j).2.obj q := by
  have hj : j < ops.size := (Array.getElem?_eq_some_iff.1 ho).1
  rw [hI.objs]
  refine lastv_at (fun e he hte => ht.untouched hM he hte) (by omega) (fun k hkj htk => ?_) (fun k hjk hkn htk => ?_)
  · simp only [touch, Bool.and_eq_true, decide_eq_true_eq, Bool.or_eq_true] at htk
    have hn : N j k = true := by
      rcases htk.2 with h5 | h5
      · exact hN.ee k j hkj h5 hej
      · rcases ht.grows (by omega) h5 htk.1 with h6 | h6
        · exact hN.ee k j hkj h6 hej
        · exact hN.ae k j hkj h6 hej
    have := hN.down (AM.add S j) (add_down hS ho hr) j k (add_self S j) hn
    rwa [add_ne S (by omega)] at this
  · simp only [touch, Bool.and_eq_true, decide_eq_true_eq, Bool.or_eq_true] at htk
    rcases Nat.lt_or_ge j k with h5 | h5
    · have hek : effAt X f r ops k = true := by
        rcases htk.2 with h6 | h6
        · exact h6
        · have := ht.nx hM (i := j) (j := k) (by omega) (by omega); omega
      cases hSk : S k with
      | false => rfl
      | true => rw [hN.down S hS k j hSk (hN.ee j k h5 hej hek)] at hSj; cases hSj
    · have : k = j := by omega
      rw [this]; exact hSj
/-- whose number an object has, it is there, if the text knows it -/
theorem Inv.there (ht : Tr X call f r ops tr) (hM : CallMono call) {S : Nat → Bool} {Γ : Gh} {M : Mem} {w : World} {aS : AAct} {b : Act} (hI : Inv X f r ops tr Γ0 w0 S Γ M w aS b)
    (hf : Fresh Γ0 (tr 0).2.next (tr ops.size).2.next) {c q k : Nat} (hk : k ≤ ops.size) (hid : (Γ.role c).id = some q) (hq : (tr k).2.obj q ≠ none) : M.obj q ≠ none := by
  rcases hI.post.ids.role c q hid with h | h | h
  · have h1 : q < (tr k).2.next := by
      rcases Nat.lt_or_ge q (tr k).2.next with h | h
      · exact h
      · exact absurd (ht.above hM hk q h) hq
    have n1 := ht.nx hM (i := k) (j := ops.size) hk (by omega)
    have h2 : q < (tr 0).2.next := by
      rcases Nat.lt_or_ge q (tr 0).2.next with h2 | h2
      · exact h2
      · exact absurd ⟨h2, by omega⟩ (hf.role c q h)
    exact hI.post.mem.some q (fun e => hq ((ht.le hM (i := 0) (j := k) (by omega) hk).none q h2 e))
  · exact h.2.2.2
  · exact hI.post.mem.some q h.2
/-- what a ready operation finds in its temporaries -/
theorem Inv.look (ht : Tr X call f r ops tr) (hN : Sorted X f r ops N) {S : Nat → Bool} (hS : Down ops S) {Γ : Gh} {M : Mem} {w : World} {aS : AAct} {b : Act} (hI : Inv X f r ops tr Γ0 w0 S Γ M w aS b)
    {j : Nat} {o : Oper} (ho : ops[j]? = some o) (hSj : S j = false) (hr : ∀ e ∈ o.after, Region.binds .any e = true → S e.on = true) : ∀ t ∈ o.looksAt ops, aS.tmps.getD t .undef = (tr j).1.tmps.getD t .undef := by
  intro t hlt
  have hj : j < ops.size := (Array.getElem?_eq_some_iff.1 ho).1
  have hl : lk ops t j = true := by simp only [lk, ho]; simpa using hlt
  rw [hI.tmps]
  refine lastv_at (fun k hk hw => ht.unwr hk hw) (by omega) (fun k hk hw => ?_) (fun k hk hkn hw => ?_)
  · have := hN.down (AM.add S j) (add_down hS ho hr) j k (add_self S j) (hN.wl t k j hk hw hl)
    rwa [add_ne S (by omega)] at this
  · rcases Nat.lt_or_ge j k with h | h
    · cases hSk : S k with
      | false => rfl
      | true => rw [hN.down S hS k j hSk (hN.lw t j k h hl hw)] at hSj; cases hSj
    · have : k = j := by omega
      rw [this]; exact hSj
theorem Inv.put (ht : Tr X call f r ops tr) (hN : Sorted X f r ops N) {S : Nat → Bool} (hS : Down ops S) {Γ : Gh} {M : Mem} {w : World} {aS : AAct} {b : Act} (hI : Inv X f r ops tr Γ0 w0 S Γ M w aS b)
    {j : Nat} {o : Oper} (ho : ops[j]? = some o) (hSj : S j = false) {v : AV} (hv : ∀ d, o.dst = some d → d < (tr j).1.tmps.length → (tr (j + 1)).1.tmps.getD d .undef = v) (t : Nat) :
    (aS.put o.dst v).tmps.getD t .undef = lastv (AM.add S j) (wr ops t) (fun k => (tr k).1.tmps.getD t .undef) ops.size := by
  have hj : j < ops.size := (Array.getElem?_eq_some_iff.1 ho).1
  cases hw : wr ops t j with
  | false =>
    have e1 : (aS.put o.dst v).tmps.getD t .undef = aS.tmps.getD t .undef := by
      simp only [wr, ho] at hw
      cases hd : o.dst with
      | none => rfl
      | some d =>
        rw [getD_put, if_neg]
        rintro ⟨rfl, _⟩
        simp [hd] at hw
    rw [e1, hI.tmps]
    refine (lastv_congr fun k hk htk => add_ne S ?_).symm
    rintro rfl
    rw [hw] at htk; cases htk
  | true =>
    have hd : o.dst = some t := by simpa [wr, ho] using hw
    rw [lastv_add (add_self S j) (fun k hk => add_ne S hk) hw hj (fun k hjk hkn htk => by
      cases hSk : S k with
      | false => rfl
      | true => rw [hN.down S hS k j hSk (hN.ww t j k hjk hw htk)] at hSj; cases hSj)]
    rw [hd, getD_put, hI.len]
    have hlen := ht.len (j := j) (by omega)
    by_cases hlt : t < (tr 0).1.tmps.length
    · rw [if_pos ⟨rfl, hlt⟩, hv t hd (by rw [hlen]; exact hlt)]
    · rw [if_neg (fun h => hlt h.2)]
      have h1 := ht.len (j := j + 1) (by omega)
      have h2 := hI.len
      have e1 : aS.tmps[t]? = none := List.getElem?_eq_none (by omega)
      have e2 : (tr (j + 1)).1.tmps[t]? = none := List.getElem?_eq_none (by omega)
      simp only [List.getD, e1, e2]
/-- what the checked reads say -/
def ChkOk (X : Ctx) (f r : Nat) (ops : Array Oper) (tr : Nat → AAct × Mem) : Prop := ∀ i e, (i, e) ∈ X.chk f r → i < ops.size → ∀ o, ops[i]? = some o → aWant ops.toList o (tr i).1 = some true →
  ∃ v m2 d, aOper X (fun _ _ _ => none) f r i o (tr i).1 (tr (if e < i then e else e + 1)).2 = some (.ret v, m2) ∧ o.dst = some d ∧ v = (tr (i + 1)).1.tmps.getD d .undef
theorem readAt_not_eff {X : Ctx} {f r j : Nat} {o : Oper} (h : isReader X.T o.op = true) : isEff (X.md f r j) o.op = false := by
  unfold isReader at h
  unfold isEff
  split at h
  · rename_i heq; rw [heq]
  · rename_i heq; rw [heq]
  · rename_i heq
    rw [heq]
    split at h
    · rename_i hc; simp [hc]
    · cases h
  · cases h
/-- where in the text a reader finds what it finds now -/
theorem Inv.home (hN : Sorted X f r ops N) {S : Nat → Bool} (hS : Down ops S) {j : Nat} {o : Oper} (ho : ops[j]? = some o) (hSj : S j = false) (hr : ∀ e ∈ o.after, Region.binds .any e = true → S e.on = true) (hrd : isReader X.T o.op = true) :
    ∃ k, k ≤ ops.size ∧ (∀ e, e < k → effAt X f r ops e = true → S e = true) ∧ (∀ e, k ≤ e → e < ops.size → effAt X f r ops e = true → S e = false) ∧
      (k = j ∨ ∃ e, (j, e) ∈ X.chk f r ∧ k = if e < j then e else e + 1) := by
  have hj : j < ops.size := (Array.getElem?_eq_some_iff.1 ho).1
  have hrj : readAt X ops j = true := by simp only [readAt, ho]; exact hrd
  have hnj : effAt X f r ops j = false := by simp only [effAt, ho]; exact readAt_not_eff hrd
  have below : ∀ {k e}, e < k → effAt X f r ops e = true → effAt X f r ops k = true → S k = true → S e = true := fun {k e} h h1 h2 h3 => hN.down S hS k e h3 (hN.ee e k h h1 h2)
  by_cases hb : ∃ e, e < j ∧ (effAt X f r ops e = true ∧ S e = false)
  · obtain ⟨e, hej, ⟨hee, hSe⟩, hmin⟩ := least j hb
    refine ⟨e, by omega, fun e' he' hee' => ?_, fun e' he' hen' hee' => ?_, .inr ⟨e, ?_, by rw [if_pos hej]⟩⟩
    · cases hSe' : S e' with
      | true => rfl
      | false => exact absurd ⟨hee', hSe'⟩ (hmin e' he')
    · rcases Nat.lt_or_ge e e' with h | h
      · cases hSe' : S e' with
        | false => rfl
        | true => rw [below h hee hee' hSe'] at hSe; cases hSe
      · have : e' = e := by omega
        rw [this]; exact hSe
    · rcases hN.er e j hej hee hrj with h | h
      · have := hN.down (AM.add S j) (add_down hS ho hr) j e (add_self S j) h
        rw [add_ne S (by omega), hSe] at this; cases this
      · exact h
  · have hb' : ∀ e, e < j → effAt X f r ops e = true → S e = true := fun e he hee => by
      cases hSe : S e with
      | true => rfl
      | false => exact absurd ⟨e, he, hee, hSe⟩ hb
    by_cases hc : ∃ e, e < ops.size ∧ (j < e ∧ effAt X f r ops e = true ∧ S e = true)
    · obtain ⟨e, hen, ⟨hje, hee, hSe⟩, hmax⟩ := greatest ops.size hc
      refine ⟨e + 1, by omega, fun e' he' hee' => ?_, fun e' he' hen' hee' => ?_, .inr ⟨e, ?_, by rw [if_neg (by omega)]⟩⟩
      · rcases Nat.lt_or_ge e' e with h | h
        · exact below h hee' hee hSe
        · have : e' = e := by omega
          rw [this]; exact hSe
      · cases hSe' : S e' with
        | false => rfl
        | true => exact absurd ⟨by omega, hee', hSe'⟩ (hmax e' (by omega) hen')
      · rcases hN.re j e hje hrj hee with h | h
        · rw [hN.down S hS e j hSe h] at hSj; cases hSj
        · exact h
    · refine ⟨j, by omega, hb', fun e' he' hen' hee' => ?_, .inl rfl⟩
      rcases Nat.lt_or_ge j e' with h | h
      · cases hSe' : S e' with
        | false => rfl
        | true => exact absurd ⟨e', hen', h, hee', hSe'⟩ hc
      · have : e' = j := by omega
        rw [this, hnj] at hee'; cases hee'
end
section
variable {P : Program} {X : Ctx} (hT : TOk P X.T) {call : CallV} (hC : CallsOk P call) (hM : CallMono call) {f r : Nat} {ops : Array Oper} {tr : Nat → AAct × Mem} {N : Nat → Nat → Bool} {Γ0 : Gh} {w0 : World}
include hT hC hM
/-- ONE MORE OPERATION, whichever is ready. -/
theorem inv_step (hall : ops.toList.all (fun o => callOk o.op) = true) (ht : Tr X call f r ops tr) (hN : Sorted X f r ops N) (hchk : ChkOk X f r ops tr) (hr0 : Rel Γ0 (tr 0).2 w0)
    (hf : Fresh Γ0 (tr 0).2.next (tr ops.size).2.next) {S : Nat → Bool} (hS : Down ops S) {Γ : Gh} {M : Mem} {w : World} {aS : AAct} {b : Act} (hI : Inv X f r ops tr Γ0 w0 S Γ M w aS b)
    {j : Nat} {o : Oper} (ho : ops[j]? = some o) (hSj : S j = false) (hr : ∀ e ∈ o.after, Region.binds .any e = true → S e.on = true) {Q : Exit → Act → World → Prop} {K : Act → World → Prop}
    (hK : ∀ Γ' M' w' aS' b', Inv X f r ops tr Γ0 w0 (AM.add S j) Γ' M' w' aS' b' → K b' w') : wpOp P ops Q j K b w := by
  have hj : j < ops.size := (Array.getElem?_eq_some_iff.1 ho).1
  have hk : callOk o.op = true := List.all_eq_true.1 hall o (by have := Array.mem_of_getElem? ho; simpa using this)
  have hlook := hI.look ht hN hS ho hSj hr
  have hev := eval_congr hlook
  obtain ⟨wd, hwd, h1, h2⟩ := ht.step j o ho
  have hwant := want_run hI.act (by rw [aWant_congr hlook]; exact hwd)
  have n0 := ht.nx hM (i := 0) (j := j) (by omega) (by omega)
  have n1 := ht.nx hM (i := j) (j := j + 1) (by omega) (by omega)
  have n2 := ht.nx hM (i := j + 1) (j := ops.size) (by omega) (by omega)
  have done : ∀ {Γ' : Gh} {M' : Mem} {w' : World} {v : AV} {u : Value}, Post Γ0 (tr 0).2 w0 Γ' M' w' → Γ.le Γ' → M'.next = M.next → (∀ q, M'.obj q = if touch X f r ops tr q j then (tr (j + 1)).2.obj q else M.obj q) → VRel Γ' v u →
      (∀ d, o.dst = some d → d < (tr j).1.tmps.length → (tr (j + 1)).1.tmps.getD d .undef = v) → K (b.put o.dst u) w' := by
    intro Γ' M' w' v u hp hle hn hobj hv hd
    refine hK Γ' M' w' (aS.put o.dst v) _ ⟨hp, hn.trans hI.next, fun q => ?_, (hI.act.mono hle).put o.dst hv, (put_len _ _ _).trans hI.len, (put_defs _ _ _).trans hI.defs, hI.put ht hN hS ho hSj hd⟩
    rw [hI.add ht hM hN hS hj hSj q]
    exact hobj q
  unfold wpOp
  rw [ho]
  simp only [hwant]
  cases wd with
  | false =>
    simp only [Bool.false_eq_true, if_false]
    obtain ⟨h3, h4⟩ := h2 rfl
    refine done hI.post (.refl _) rfl (fun q => ?_) undefRel (fun d hd hlt => by rw [h3, hd, getD_put, if_pos ⟨rfl, hlt⟩])
    split
    · rename_i htj
      simp only [touch, Bool.and_eq_true, decide_eq_true_eq, Bool.or_eq_true] at htj
      rw [h4] at htj ⊢
      have hej : effAt X f r ops j = true := by
        rcases htj.2 with h5 | h5
        · exact h5
        · omega
      exact hI.home0 ht hM hN hS ho hSj hr hej htj.1
    · rfl
  | true =>
    simp only [if_true]
    left
    obtain ⟨v, hv, hv'⟩ := h1 rfl
    have hdv : ∀ d, o.dst = some d → d < (tr j).1.tmps.length → (tr (j + 1)).1.tmps.getD d .undef = v := fun d hd hlt => by rw [hv', hd, getD_put, if_pos ⟨rfl, hlt⟩]
    rw [← aOper_congr hev] at hv
    -- in a part of the memory
    have part : ∀ {m m' : Mem} {v2 : AV}, (∀ q x, m.obj q = some x → M.obj q = some x) → (∀ q, m.next ≤ q → m.obj q = none) → (tr 0).2.next ≤ m.next → m'.next ≤ M.next → aOper X call f r j o aS m = some (.ret v2, m') → Fresh Γ m.next m'.next →
        (∀ q, (match m'.obj q with | some x => some x | none => M.obj q) = if touch X f r ops tr q j then (tr (j + 1)).2.obj q else M.obj q) →
        (∀ d, o.dst = some d → d < (tr j).1.tmps.length → (tr (j + 1)).1.tmps.getD d .undef = v2) → o.wp P b w K Q := by
      intro m m' v2 hs ha h0 h1 hop hfr hob hd2
      refine aOper_run hT hC (hI.post.rel.sub hs ha) hI.act hk hop hfr (fun u hu Γ' x w' hp hvr => ?_) (fun u hu => by cases hu)
      cases hu
      have hg := graft (M' := ⟨M.next, fun q => match m'.obj q with | some x => some x | none => M.obj q⟩) hr0 (by rw [hI.next]; exact hf) hI.post hs hp h0 h1 rfl (fun q x hx => by simp [hx]) (fun q hx => by simp [hx])
      exact done hg hp.le rfl hob hvr hd2
    have hMn := hI.next
    cases hrd : isReader X.T o.op with
    | true =>
      obtain ⟨k, hkn, hk1, hk2, hk3⟩ := Inv.home (X := X) hN hS ho hSj hr hrd
      -- what is read there
      have hread : ∃ v2 m2, aOper X (fun _ _ _ => none) f r j o aS (tr k).2 = some (.ret v2, m2) ∧ ∀ d, o.dst = some d → d < (tr j).1.tmps.length → (tr (j + 1)).1.tmps.getD d .undef = v2 := by
        rcases hk3 with rfl | ⟨e, hce, rfl⟩
        · exact ⟨v, _, (reader_op (call' := fun _ _ _ => none) hrd hv).2 _ (fun _ _ _ _ _ => rfl), hdv⟩
        · obtain ⟨v2, m2, d, h5, h6, h7⟩ := hchk j e hce hj o ho hwd
          refine ⟨v2, m2, by rw [aOper_congr hev]; exact h5, fun d' hd' _ => ?_⟩
          rw [h6] at hd'; cases hd'
          exact h7.symm
      obtain ⟨v2, m2, h5, h6⟩ := hread
      obtain ⟨rfl, h7⟩ := reader_op (call' := call) hrd h5
      have htj : ∀ q, touch X f r ops tr q j = false := fun q => by
        have : effAt X f r ops j = false := by simp only [effAt, ho]; exact readAt_not_eff hrd
        have e := (reader_op (call' := call) hrd hv).1
        simp only [touch, this, Bool.false_or, Bool.and_eq_false_iff, decide_eq_false_iff_not, e]
        omega
      refine part (m := ⟨M.next, fun q => if M.obj q = none then none else (tr k).2.obj q⟩) (m' := ⟨M.next, fun q => if M.obj q = none then none else (tr k).2.obj q⟩) (v2 := v2) ?_ ?_ ?_ (Nat.le_refl _) ?_ ?_ ?_ h6
      · intro q x hx
        simp only at hx
        split at hx
        · cases hx
        · rename_i hne
          rw [hI.same ht hM hN hS hkn hk1 hk2 hne (by rw [hx]; simp), hx]
      · intro q hq
        simp only
        rw [if_pos (hI.post.rel.above q hq)]
      · simp only; omega
      · refine h7 _ (fun x hx q hq hnm => ?_)
        have hox : opOk x = true := by
          have : o.op.operands.all opOk = true := by
            unfold isReader at hrd
            split at hrd
            · rename_i heq; rw [heq] at hk ⊢; simpa [callOk, opsOk] using hk
            · rename_i heq; rw [heq] at hk ⊢; simpa [callOk, opsOk] using hk
            · rename_i heq; rw [heq] at hk ⊢; simpa [callOk, Op.operands] using hk
            · cases hrd
          exact Array.all_eq_true_iff_forall_mem.1 this x hx
        have hvr := hI.act.eval x hox
        have hid : ∃ c, (Γ.role c).id = some q := by
          generalize aS.eval x = y at hnm hvr
          generalize b.eval x = z at hvr
          cases hvr <;> simp only [names] at hnm
          · rename_i h; subst hnm; exact ⟨_, isRow_id h⟩
          · rename_i h; subst hnm; exact ⟨_, by rw [h]; rfl⟩
        obtain ⟨c, hid⟩ := hid
        simp only
        rw [if_neg (hI.there ht hM hf hkn hid hq)]
      · exact ⟨fun c q _ hh => by simp only at hh; omega, fun t _ hh => by simp only at hh; omega⟩
      · intro q
        simp only [htj q, Bool.false_eq_true, if_false]
        by_cases hMq : M.obj q = none
        · simp [hMq]
        · simp only [hMq, if_false]
          cases hx : (tr k).2.obj q with
          | none => rfl
          | some x => simp only; rw [hI.same ht hM hN hS hkn hk1 hk2 hMq (by rw [hx]; simp), hx]
    | false =>
      have hfr := hI.fresh ht hM hN hS hf hj hSj
      cases hej : effAt X f r ops j with
      | true =>
        refine part (m := (tr j).2) (m' := (tr (j + 1)).2) (v2 := v) (fun q x hx => ?_) (ht.above hM (by omega)) n0 (by omega) hv hfr (fun q => ?_) hdv
        · have hlt : q < (tr j).2.next := by
            rcases Nat.lt_or_ge q (tr j).2.next with h | h
            · exact h
            · rw [ht.above hM (by omega) q h] at hx; cases hx
          rw [hI.home0 ht hM hN hS ho hSj hr hej hlt, hx]
        · cases hx : (tr (j + 1)).2.obj q with
          | some x =>
            have hlt : q < (tr (j + 1)).2.next := by
              rcases Nat.lt_or_ge q (tr (j + 1)).2.next with h | h
              · exact h
              · rw [ht.above hM (by omega) q h] at hx; cases hx
            simp [touch, hej, hlt]
          | none =>
            show M.obj q = _
            cases htj : touch X f r ops tr q j with
            | false => simp
            | true =>
              simp only [if_true]
              simp only [touch, Bool.and_eq_true, decide_eq_true_eq, Bool.or_eq_true] at htj
              rcases Nat.lt_or_ge q (tr j).2.next with h | h
              · rw [hI.home0 ht hM hN hS ho hSj hr hej h]
                cases hy : (tr j).2.obj q with
                | none => rfl
                | some y => exact absurd hx ((ht.stepM hM hj (ht.above hM (by omega))).1.some q (by rw [hy]; simp))
              · exact hI.vacant ht hM hN hS hj hSj h htj.1
      | false =>
        have he : isEff (X.md f r j) o.op = false := by simpa [effAt, ho] using hej
        rcases local_op he hrd hv with ⟨h3, h4⟩ | ⟨h3, x, h4, h5⟩
        · have htj : ∀ q, touch X f r ops tr q j = false := fun q => by
            simp only [touch, hej, Bool.false_or, Bool.and_eq_false_iff, decide_eq_false_iff_not, h3]
            omega
          refine part (m := ⟨(tr j).2.next, fun _ => none⟩) (m' := ⟨(tr j).2.next, fun _ => none⟩) (v2 := v) (fun q x hx => by cases hx) (fun q hq => rfl) n0 (by simp only; omega) (h4 _ rfl) ?_ (fun q => ?_) hdv
          · exact ⟨fun c q _ hh => by simp only at hh; omega, fun t _ hh => by simp only at hh; omega⟩
          · simp [htj q]
        · have hnx : (tr (j + 1)).2.next = (tr j).2.next + 1 := by rw [h4]; rfl
          refine part (m := ⟨(tr j).2.next, fun _ => none⟩) (m' := (⟨(tr j).2.next, fun _ => none⟩ : Mem).alloc x) (v2 := v) (fun q x hx => by cases hx) (fun q hq => rfl) n0 (by simp only [Mem.alloc]; omega) (h5 _ rfl) ?_ (fun q => ?_) hdv
          · simp only [Mem.alloc]; rw [hnx] at hfr; exact hfr
          · simp only [Mem.alloc, touch, hej, Bool.false_or, hnx]
            by_cases hq : q = (tr j).2.next
            · subst hq
              simp only [if_true, h4, Mem.alloc]
              rw [if_pos (by simp)]
            · rw [if_neg hq, if_neg (by simp only [Bool.and_eq_true, decide_eq_true_eq]; omega)]
end
section
variable {P : Program} {X : Ctx} (hT : TOk P X.T) {call : CallV} (hC : CallsOk P call) (hM : CallMono call) {f r : Nat} {ops : Array Oper} {tr : Nat → AAct × Mem} {N : Nat → Nat → Bool} {Γ0 : Gh} {w0 : World}
include hT hC hM
theorem inv_all (hall : ops.toList.all (fun o => callOk o.op) = true) (ht : Tr X call f r ops tr) (hN : Sorted X f r ops N) (hchk : ChkOk X f r ops tr) (hr0 : Rel Γ0 (tr 0).2 w0)
    (hf : Fresh Γ0 (tr 0).2.next (tr ops.size).2.next) {Q : Exit → Act → World → Prop} (hQ : ∀ Γ w b, Post Γ0 (tr 0).2 w0 Γ (tr ops.size).2 w → ActRel Γ (tr ops.size).1 b → Q .normal b w) :
    ∀ (fuel : Nat) (listed : Array Bool), listed.size = ops.size → listed.count false ≤ fuel → Down ops (fun k => listed.getD k false) → ∀ {Γ : Gh} {M : Mem} {w : World} {aS : AAct} {b : Act},
      Inv X f r ops tr Γ0 w0 (fun k => listed.getD k false) Γ M w aS b → wpAny P .any ops Q fuel listed b w := by
  have fin : ∀ (listed : Array Bool), listed.size = ops.size → (∀ k, k < ops.size → listed.getD k false = true) → ∀ {Γ : Gh} {M : Mem} {w : World} {aS : AAct} {b : Act},
      Inv X f r ops tr Γ0 w0 (fun k => listed.getD k false) Γ M w aS b → Q .normal b w := by
    intro listed hs hl Γ M w aS b hI
    have hMm : M = (tr ops.size).2 := by
      have h1 := hI.next
      have h2 : M.obj = (tr ops.size).2.obj := funext fun q => by
        rw [hI.objs]
        exact lastv_at (fun e he hte => ht.untouched hM he hte) (Nat.le_refl _) (fun k hk _ => hl k hk) (fun k h3 h4 => by omega)
      cases M
      generalize tr ops.size = y at h1 h2 ⊢
      obtain ⟨y1, ⟨y2, y3⟩⟩ := y
      simp only at h1 h2
      subst h1; subst h2; rfl
    have ha : aS = (tr ops.size).1 := by
      have h1 : aS.tmps = (tr ops.size).1.tmps := by
        refine List.ext_getElem ?_ (fun t h1 h2 => ?_)
        · rw [hI.len, ht.len (Nat.le_refl _)]
        · have := hI.tmps t
          rw [lastv_at (fun e he hw => ht.unwr he hw) (Nat.le_refl _) (fun k hk _ => hl k hk) (fun k h3 h4 => by omega)] at this
          simpa [List.getD, h1, h2] using this
      have h2 : aS.defers = (tr ops.size).1.defers := by rw [hI.defs, ht.defs (Nat.le_refl _)]
      cases aS
      generalize (tr ops.size).1 = y at h1 h2 ⊢
      cases y
      simp only at h1 h2
      rw [h1, h2]
    exact hQ Γ w b (hMm ▸ hI.post) (ha ▸ hI.act)
  have stuck : ∀ (listed : Array Bool), listed.size = ops.size → Region.ready .any ops listed = [] → ∀ k, k < ops.size → listed.getD k false = true := by
    intro listed hs hr k
    induction k using Nat.strongRecOn with
    | ind k ih =>
      intro hk
      cases hl : listed.getD k false with
      | true => rfl
      | false =>
        have : k ∈ Region.ready .any ops listed := by
          rw [mem_ready]
          refine ⟨?_, ops[k], Array.getElem?_eq_getElem hk, fun e he hb => ?_⟩
          · have : k < listed.size := by omega
            simpa [Array.getD, this] using hl
          · have hlt := hN.back k ops[k] (Array.getElem?_eq_getElem hk) e he hb
            exact ih e.on hlt (by omega)
        rw [hr] at this
        cases this
  intro fuel
  induction fuel with
  | zero =>
    intro listed hs hc hD Γ M w aS b hI
    have hall : ∀ k, k < ops.size → listed.getD k false = true := fun k hk => by
      have h0 : listed.count false = 0 := by omega
      have hlt : k < listed.size := by omega
      have := Array.count_eq_zero.1 h0
      cases hv : listed[k] with
      | true => simp [Array.getD, hlt, hv]
      | false => exact absurd (hv ▸ Array.getElem_mem hlt) this
    refine ⟨?_, fin listed hs hall hI⟩
    cases hr : Region.ready .any ops listed with
    | nil => rfl
    | cons i l =>
      have hi : i ∈ Region.ready .any ops listed := by rw [hr]; simp
      obtain ⟨h1, o, ho, _⟩ := mem_ready.1 hi
      have hlt : i < ops.size := (Array.getElem?_eq_some_iff.1 ho).1
      have := hall i hlt
      have hlt' : i < listed.size := by omega
      simp [Array.getD, hlt'] at this h1
      rw [this] at h1; cases h1
  | succ fuel ih =>
    intro listed hs hc hD Γ M w aS b hI
    refine ⟨fun hr => fin listed hs (stuck listed hs hr) hI, fun j hj => ?_⟩
    obtain ⟨h1, o, ho, hrd⟩ := mem_ready.1 hj
    have hlt : j < ops.size := (Array.getElem?_eq_some_iff.1 ho).1
    have hlt' : j < listed.size := by omega
    have hv : listed[j] = false := by simpa [Array.getD, hlt'] using h1
    have e : (fun k => (listed.setIfInBounds j true).getD k false) = AM.add (fun k => listed.getD k false) j := by
      funext k
      simp only [AM.add]
      by_cases hk : k = j
      · subst hk; simp [hlt']
      · rw [getD_set_ne false (fun h => hk h.symm)]; simp [hk]
    refine inv_step hT hC hM hall ht hN hchk hr0 hf hD hI ho (by simp [Array.getD, hlt', hv]) hrd (fun Γ' M' w' aS' b' hI' => ?_)
    refine ih (listed.setIfInBounds j true) (by simp [hs]) ?_ ?_ (e ▸ hI')
    · have hcs : (listed.set j true).count false = listed.count false - (if listed[j] == false then 1 else 0) + if true == false then 1 else 0 := Array.count_set hlt'
      rw [Array.setIfInBounds_def, dif_pos hlt', hcs, hv]
      simp
      omega
    · rw [e]
      exact add_down hD ho hrd
end
def StepAt (X : Ctx) (call : CallV) (f r : Nat) (all : List Oper) (j : Nat) (o : Oper) (p q : AAct × Mem) : Prop :=
  ∃ wd, aWant all o p.1 = some wd ∧ (wd = true → ∃ v, aOper X call f r j o p.1 p.2 = some (.ret v, q.2) ∧ q.1 = p.1.put o.dst v) ∧ (wd = false → q.1 = p.1.put o.dst (.tup []) ∧ q.2 = p.2)
theorem trace_ok {X : Ctx} {call : CallV} {f r : Nat} {all : List Oper} : ∀ (os : List Oper) (i : Nat) {a a' : AAct} {m m' : Mem}, aOps X call f r all i os a m = some (.normal, a', m') →
    (aTrace X call f r all i os a m)[0]? = some (a, m) ∧ (aTrace X call f r all i os a m)[os.length]? = some (a', m') ∧ ∀ (j : Nat) o, os[j]? = some o →
      ∃ p q, (aTrace X call f r all i os a m)[j]? = some p ∧ (aTrace X call f r all i os a m)[j + 1]? = some q ∧ StepAt X call f r all (i + j) o p q
  | [], i, a, a', m, m', h => by cases h; exact ⟨rfl, rfl, fun j o ho => by simp at ho⟩
  | o :: os, i, a, a', m, m', h => by
    simp only [aOps, aGuard_want] at h
    cases hw : aWant all o a with
    | none => rw [hw] at h; cases h
    | some wd =>
      rw [hw] at h
      simp only [] at h
      have key : ∀ a1 m1, aOps X call f r all (i + 1) os a1 m1 = some (.normal, a', m') → aTrace X call f r all i (o :: os) a m = (a, m) :: aTrace X call f r all (i + 1) os a1 m1 → StepAt X call f r all i o (a, m) (a1, m1) →
          (aTrace X call f r all i (o :: os) a m)[0]? = some (a, m) ∧ (aTrace X call f r all i (o :: os) a m)[(o :: os).length]? = some (a', m') ∧ ∀ (j : Nat) o', (o :: os)[j]? = some o' →
            ∃ p q, (aTrace X call f r all i (o :: os) a m)[j]? = some p ∧ (aTrace X call f r all i (o :: os) a m)[j + 1]? = some q ∧ StepAt X call f r all (i + j) o' p q := by
        intro a1 m1 h1 h2 h3
        obtain ⟨i1, i2, i3⟩ := trace_ok os (i + 1) h1
        rw [h2]
        refine ⟨rfl, by simpa using i2, fun j o' ho' => ?_⟩
        cases j with
        | zero =>
          simp at ho'; subst ho'
          exact ⟨_, _, rfl, by simpa using i1, h3⟩
        | succ j =>
          obtain ⟨p, q, h4, h5, h6⟩ := i3 j o' (by simpa using ho')
          exact ⟨p, q, by simpa using h4, by simpa using h5, by rw [show i + (j + 1) = i + 1 + j by omega]; exact h6⟩
      cases wd with
      | false =>
        simp only [Bool.false_eq_true, if_false] at h
        refine key _ _ h ?_ ⟨false, hw, fun e => (by cases e), fun _ => ⟨rfl, rfl⟩⟩
        simp only [aTrace, aGuard_want, hw, Bool.false_eq_true, if_false]
      | true =>
        simp only [if_true, Option.bind_eq_some_iff] at h
        obtain ⟨⟨out, m1⟩, ho, h⟩ := h
        cases out with
        | pan v => cases h
        | ret v =>
          simp only [] at h
          refine key _ _ h ?_ ⟨true, hw, fun _ => ⟨v, ho, rfl⟩, fun e => (by cases e)⟩
          simp only [aTrace, aGuard_want, hw, if_true, ho]
theorem holds_ok {X : Ctx} {f r : Nat} {ops : List Oper} {L : List (AAct × Mem)} {i e : Nat} (h : aHolds X f r ops L (i, e) = true) {o : Oper} (ho : ops[i]? = some o) :
    ∃ p q s, L[i]? = some p ∧ L[i + 1]? = some q ∧ L[if e < i then e else e + 1]? = some s ∧
      (aWant ops o p.1 = some true → ∃ v m2 d, aOper X (fun _ _ _ => none) f r i o p.1 s.2 = some (.ret v, m2) ∧ o.dst = some d ∧ v = q.1.tmps.getD d .undef) := by
  unfold aHolds at h
  simp only [] at h
  split at h
  · rename_i o' p q s h1 h2 h3 h4
    rw [ho] at h1; cases h1
    refine ⟨p, q, s, h2, h3, h4, fun hw => ?_⟩
    rw [aGuard_want, hw] at h
    simp only [Bool.not_true, Bool.false_or] at h
    split at h
    · rename_i v m2 d h5 h6
      exact ⟨v, m2, d, h5, h6, same_eq h⟩
    · cases h
  · cases h
/-- A REGION THAT DRAWS ITS ORDER. -/
theorem drawSim {P : Program} {X : Ctx} (hT : TOk P X.T) (hm : P.follows .mixedOrders = true) {call : CallV} (hC : CallsOk P call) (hM : CallMono call) (f : Nat) :
    DrawSim P X call f (fun r ops => drawOkB X.T (X.md f r) (X.chk f r) ops) := by
  intro r ops hd hall Γ m m' w a a' b e hr ha h hf
  simp only [aRegion, Option.bind_eq_some_iff] at h
  obtain ⟨⟨e1, a1, m1⟩, ho, h⟩ := h
  cases e1 with
  | normal =>
    simp only [] at h
    have hk : a' = killed (X.kill f r) a1 ∧ m' = m1 ∧ e = .normal ∧ ∀ p ∈ X.chk f r, aHolds X f r ops.toList (aTrace X call f r ops.toList 0 ops.toList a m) p = true := by
      split at h
      · split at h
        · rename_i hc
          cases h
          exact ⟨rfl, rfl, rfl, fun p hp => List.all_eq_true.1 hc p hp⟩
        · cases h
      · rename_i hc
        cases h
        refine ⟨rfl, rfl, rfl, fun p hp => ?_⟩
        have : X.chk f r = [] := by simpa using hc
        rw [this] at hp; cases hp
    obtain ⟨rfl, rfl, rfl, hch⟩ := hk
    obtain ⟨t0, tn, ts⟩ := trace_ok ops.toList 0 ho
    let L := aTrace X call f r ops.toList 0 ops.toList a m
    let tr : Nat → AAct × Mem := fun k => (L[k]?).getD (a, m)
    have tr0 : tr 0 = (a, m) := by simp only [tr]; rw [t0]; rfl
    have trn : tr ops.size = (a1, m') := by
      have : L[ops.size]? = some (a1, m') := by simpa using tn
      simp only [tr]; rw [this]; rfl
    have ht : Tr X call f r ops tr := by
      refine ⟨fun j o hoj => ?_, fun q hq => ?_⟩
      · obtain ⟨p, q, h1, h2, h3⟩ := ts j o (by simpa using hoj)
        have e1 : tr j = p := by simp only [tr]; rw [h1]; rfl
        have e2 : tr (j + 1) = q := by simp only [tr]; rw [h2]; rfl
        rw [e1, e2]
        rw [Nat.zero_add] at h3
        exact h3
      · rw [tr0] at hq ⊢; exact hr.above q hq
    have hchk : ChkOk X f r ops tr := by
      intro i e hie hi o hoi hw
      obtain ⟨p, q, s, h1, h2, h3, h4⟩ := holds_ok (hch (i, e) hie) (o := o) (by simpa using hoi)
      have e1 : tr i = p := by simp only [tr]; rw [h1]; rfl
      have e2 : tr (i + 1) = q := by simp only [tr]; rw [h2]; rfl
      have e3 : tr (if e < i then e else e + 1) = s := by simp only [tr]; rw [h3]; rfl
      rw [e1] at hw ⊢
      rw [e2, e3]
      exact h4 hw
    have hr0 : Rel Γ (tr 0).2 { w with drawn := w.drawn + 1 } := by rw [tr0]; exact ⟨hr.bound, hr.known, hr.cells, hr.rows, hr.maps, hr.objs, hr.above⟩
    have hf0 : Fresh Γ (tr 0).2.next (tr ops.size).2.next := by rw [tr0, trn]; exact hf
    have hS0 : (fun k => (Array.replicate ops.size false).getD k false) = fun _ => false := by
      funext k
      by_cases hk : k < ops.size <;> simp [Array.getD, hk]
    have nn := ht.nx hM (i := 0) (j := ops.size) (by omega) (by omega)
    refine wp_region_any hm (inv_all hT hC hM hall ht (sorted_of hd) hchk hr0 hf0 (Q := QPost Γ m w .normal (killed (X.kill f r) a1) m') ?_ ops.size _ (by simp) (by simp) ?_ (M := ⟨(tr ops.size).2.next, (tr 0).2.obj⟩) (aS := a) (Γ := Γ) ?_)
    · intro Γ' w' b' hp hact
      rw [trn] at hp hact
      rw [tr0] at hp
      refine ⟨Γ', ⟨hp.le, hp.rel, ⟨hp.frame.size, hp.frame.os, hp.frame.tape, hp.frame.output, hp.frame.block⟩, ⟨hp.ids.role, hp.ids.tok, hp.ids.free⟩, hp.mem, hp.keep, hp.keepTok⟩, .normal, hact.killed _⟩
    · rw [hS0]
      intro k o _ h
      cases h
    · rw [hS0]
      refine ⟨⟨.refl _, ⟨hr0.bound, hr0.known, hr0.cells, hr0.rows, hr0.maps, hr0.objs, fun q hq => hr0.above q (by simp only at hq; omega)⟩, ⟨Nat.le_refl _, rfl, rfl, rfl, fun _ _ _ _ => rfl⟩, ⟨fun _ _ h => .inl h, fun _ h => .inl h, fun _ _ h => h⟩, ⟨nn, fun _ _ h => h, fun _ h => h⟩, fun _ _ _ _ => rfl, fun _ _ _ => rfl⟩, rfl, fun q => ?_, ha, by rw [tr0], by rw [tr0], fun t => ?_⟩
      · rw [lastv_none (fun _ _ _ => rfl)]
      · rw [lastv_none (fun _ _ _ => rfl), tr0]
  | exit id => simp only [if_true] at h; cases h
  | ret => simp only [if_true] at h; cases h
  | panic v => simp only [if_true] at h; cases h
end Go.AM
