/-
  What a context says of a program, checked by Bool functions.
-/
import Derived.Test.YtpffgljpkehgmaaAMK
set_option linter.unusedVariables false
set_option linter.unusedSimpArgs false
namespace Go.AM
open Go
set_option linter.unusedSimpArgs false
set_option linter.unusedVariables false
def tyOkB (P : Program) (t : TypeId) (i : AT) : Bool :=
  (match P.info? t with
    | some inf => inf.size == i.size && inf.bytes == i.bytes && inf.comparable == i.comparable && (match inf.zero with
      | some z => AV.same i.zero (absC z) && zOk z
      | none => false)
    | none => false) &&
  (match P.underlying t with | some d => dOk d i.d | none => false) && (P.eqGuardType P.depth t == i.guarded) && (!i.d.isStrct || !P.stoodInHeld t)
theorem tyOk_of {P : Program} {t : TypeId} {i : AT} (h : tyOkB P t i = true) : TyOk P t i := by
  simp only [tyOkB, Bool.and_eq_true, Bool.or_eq_true, beq_iff_eq, Bool.not_eq_true'] at h
  obtain ⟨⟨⟨h1, h2⟩, h3⟩, h4⟩ := h
  refine ⟨?_, ?_, h3, fun hs => ?_⟩
  · split at h1
    · rename_i inf hinf
      simp only [Bool.and_eq_true, beq_iff_eq] at h1
      obtain ⟨⟨⟨a1, a2⟩, a3⟩, a4⟩ := h1
      split at a4
      · rename_i z hz
        simp only [Bool.and_eq_true] at a4
        exact ⟨inf, z, hinf, a1, a2, a3, hz, same_eq a4.1, a4.2⟩
      · cases a4
    · cases h1
  · split at h2
    · rename_i d hd; exact ⟨d, hd, h2⟩
    · cases h2
  · rcases h4 with h4 | h4
    · rw [hs] at h4; cases h4
    · exact h4
/-- a table of types, up to a bound -/
def tabOkB (P : Program) (T : TypeId → Option AT) : Nat → Bool
  | 0 => true
  | n + 1 => (match T n with | none => true | some i => tyOkB P n i) && tabOkB P T n
def below (n : Nat) (T : TypeId → Option AT) (t : TypeId) : Option AT := bif Nat.blt t n then T t else none
theorem tOk_of {P : Program} {T : TypeId → Option AT} {n : Nat} (h : tabOkB P (below n T) n = true) : TOk P (below n T) := by
  have : ∀ k, k ≤ n → tabOkB P (below n T) k = true → ∀ t, t < k → ∀ i, below n T t = some i → TyOk P t i := by
    intro k
    induction k with
    | zero => intro _ _ t ht; omega
    | succ k ih =>
      intro hk hb t ht i hi
      simp only [tabOkB, Bool.and_eq_true] at hb
      rcases Nat.lt_or_ge t k with h1 | h1
      · exact ih (by omega) hb.2 t h1 i hi
      · have : t = k := by omega
        subst this
        rw [hi] at hb
        exact tyOk_of hb.1
  intro t i hi
  refine this n (Nat.le_refl n) h t ?_ i hi
  unfold below at hi
  cases hb : Nat.blt t n with
  | true => simpa [Nat.blt, Nat.lt_iff_add_one_le] using hb
  | false => rw [hb] at hi; cases hi
def fnOkB (X : Ctx) (f : FuncId) (fn : Func) : Bool := (!(fn.name == "runtime.NumGoroutine")) && match fn.body with
  | none => true
  | some c => codeOk (fun r ops => drawOkB X.T (X.md f r) (X.chk f r) ops) c
def fnsOkB (X : Ctx) : Nat → Bool
  | 0 => true
  | n + 1 => (match X.look n with | none => true | some fn => fnOkB X n fn) && fnsOkB X n
def belowF (n : Nat) (L : FuncId → Option Func) (f : FuncId) : Option Func := bif Nat.blt f n then L f else none
theorem ctx_of {P : Program} {X : Ctx} {n nf : Nat} {T : TypeId → Option AT} {L : FuncId → Option Func} (hm : P.follows .mixedOrders = true) (hXT : X.T = below n T) (hT : tabOkB P X.T n = true) (hXL : X.look = belowF nf L)
    (hL : ∀ f, f < nf → ∀ fn, X.look f = some fn → P.funcs[f]? = some fn) (hF : fnsOkB X nf = true) (hmono : PrimMono X)
    (hprim : ∀ f p, X.prim f = some p → Callable P f ∧ ∀ args m o m', p args m = some (o, m') → ∀ Γ w vs, Rel Γ m w → Fresh Γ m.next m'.next → ArgsRel Γ args vs → Calls P f vs w fun e w' => ∃ Γ', Post Γ m w Γ' m' w' ∧ OutRel Γ' o e) :
    CtxOk P X (fun f r ops => drawOkB X.T (X.md f r) (X.chk f r) ops) := by
  have hTok : TOk P X.T := by rw [hXT] at hT ⊢; exact tOk_of hT
  have hlt : ∀ f fn, X.look f = some fn → f < nf := by
    intro f fn h
    rw [hXL] at h
    unfold belowF at h
    cases hb : Nat.blt f nf with
    | true => simpa [Nat.blt, Nat.lt_iff_add_one_le] using hb
    | false => rw [hb] at h; cases h
  have hall : ∀ k, fnsOkB X k = true → ∀ f, f < k → ∀ fn, X.look f = some fn → fnOkB X f fn = true := by
    intro k
    induction k with
    | zero => intro _ f hf; omega
    | succ k ih =>
      intro hk f hf fn hfn
      simp only [fnsOkB, Bool.and_eq_true] at hk
      rcases Nat.lt_or_ge f k with h1 | h1
      · exact ih hk.2 f h1 fn hfn
      · have : f = k := by omega
        subst this
        rw [hfn] at hk
        exact hk.1
  refine ⟨hTok, fun f fn hfn => ?_, hmono, hprim, fun call hC hM f => drawSim hTok hm hC hM f⟩
  have h1 := hlt f fn hfn
  have h2 := hall nf hF f h1 fn hfn
  simp only [fnOkB, Bool.and_eq_true, Bool.not_eq_true'] at h2
  refine ⟨hL f h1 fn hfn, h2.1, fun c hc => ?_⟩
  rw [hc] at h2
  exact h2.2
theorem look_of {P : Program} {X : Ctx} {nf : Nat} (h : (List.range nf).map X.look = (List.range nf).map fun f => P.funcs[f]?) : ∀ f, f < nf → ∀ fn, X.look f = some fn → P.funcs[f]? = some fn := by
  intro f hf fn hfn
  have := List.map_inj_left.1 h f (List.mem_range.2 hf)
  rw [← this]; exact hfn
theorem prim_pure {P : Program} {f : FuncId} {p : List AV → Mem → Option (AOut × Mem)} (h : ∀ args m o m', p args m = some (o, m') → m' = m ∧ ∃ v, o = .ret v ∧ ∀ Γ w vs, ArgsRel Γ args vs → Calls P f vs w fun e w' => ∃ u, e = .returned u ∧ w' = w ∧ VRel Γ v u) :
    ∀ args m o m', p args m = some (o, m') → ∀ Γ w vs, Rel Γ m w → Fresh Γ m.next m'.next → ArgsRel Γ args vs → Calls P f vs w fun e w' => ∃ Γ', Post Γ m w Γ' m' w' ∧ OutRel Γ' o e := by
  intro args m o m' hp Γ w vs hr hf ha
  obtain ⟨rfl, v, rfl, hc⟩ := h args m o m' hp
  refine (hc Γ w vs ha).mono ?_
  rintro e w' ⟨u, rfl, rfl, hv⟩
  exact ⟨Γ, .refl hr, .ret hv⟩
end Go.AM
