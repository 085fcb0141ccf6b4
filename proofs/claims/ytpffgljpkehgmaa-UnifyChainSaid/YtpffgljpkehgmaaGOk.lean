/-
  A part of the proof: equations or tables of the program over the abstract machine, printed by a program of this proof's own.
-/
import Derived.Test.YtpffgljpkehgmaaGCtx
import Derived.WalkKit
set_option linter.unusedVariables false
set_option linter.unusedSimpArgs false
namespace Go.AM
open Go.Proofs Go.RowKit Go.Lib
set_option maxRecDepth 100000
set_option linter.unusedVariables false
set_option maxHeartbeats 1000000 in
theorem ixb97 (s : ByteArray) (c : Int) (w : World) :
    Calls Try.prog 97 #[.string s, .int .u8 c] w fun e w' => e = .returned (.int .i64 (Lib.indexByte s.data.toList c.toNat.toUInt8)) ∧ w' = w := by
  go_enter Try.func97, Try.ntmps97
  go_wp2
  rw [run_callFunc_extern Try.func99 (by kernel_rfl) (by kernel_rfl) (by kernel_rfl) (e := Extern.BytealgIndexByte.indexByte) (by kernel_rfl), Lib.run_indexByteString]
  simp only [Result.andThen]
  rw [Oper.upon_value]
  go_wp2
  go_ret
  exact ⟨rfl, rfl⟩
theorem ctxTypes : tabOkB Try.prog X.T 148 = true := by kernel_rfl
theorem ctxFns : fnsOkB X 117 = true := by kernel_rfl
theorem ctxLook : (List.range 117).map X.look = (List.range 117).map fun f => Try.prog.funcs[f]? := by kernel_rfl
theorem ctxMixed : Try.prog.follows .mixedOrders = true := by kernel_rfl
theorem ctxMono : PrimMono X := by
  intro f p hp args m o m' h
  simp only [X, primT] at hp
  cases hb : Nat.beq f 97 with
  | false => rw [hb] at hp; cases hp
  | true =>
    rw [hb] at hp
    cases hp
    unfold primIndexByte at h
    split at h
    · cases h; exact .refl _
    · cases h
theorem ctxPrim : ∀ f p, X.prim f = some p → Callable Try.prog f ∧ ∀ args m o m', p args m = some (o, m') → ∀ Γ w vs, Rel Γ m w → Fresh Γ m.next m'.next → ArgsRel Γ args vs →
    Calls Try.prog f vs w fun e w' => ∃ Γ', Post Γ m w Γ' m' w' ∧ OutRel Γ' o e := by
  intro f p hp
  simp only [X, primT] at hp
  cases hb : Nat.beq f 97 with
  | false => rw [hb] at hp; cases hp
  | true =>
    have : f = 97 := Nat.eq_of_beq_eq_true hb
    subst this
    rw [hb] at hp
    cases hp
    refine ⟨⟨Try.f97, Try.func97, by kernel_rfl, by kernel_rfl⟩, prim_pure fun args m o m' h => ?_⟩
    unfold primIndexByte at h
    split at h
    · rename_i s c
      cases h
      refine ⟨rfl, _, rfl, fun Γ w vs ha => ?_⟩
      obtain ⟨x, y, rfl⟩ := arr2 ha.1
      have h0 := ha.2 0 _ _ rfl rfl
      have h1 := ha.2 1 _ _ rfl rfl
      cases h0
      cases h1
      refine (ixb97 s c w).mono ?_
      rintro e w' ⟨rfl, rfl⟩
      exact ⟨_, rfl, rfl, .int _ _⟩
    · cases h
theorem ctxOk : CtxOk Try.prog X (fun f r ops => drawOkB X.T (X.md f r) (X.chk f r) ops) := ctx_of ctxMixed rfl ctxTypes rfl (look_of ctxLook) ctxFns ctxMono ctxPrim
end Go.AM
