/-
  'parlancelaw13.UnifyGreat' (statement UnifyGreat) answers true for every input, and its arguments read behind the call as they did: no condition beside the row's own.
-/
import Derived.Test.YtpffgljpkehgmaaRows
import Derived.Test.YtpffgljpkehgmaaGOk
import Derived.Test.YtpffgljpkehgmaaAMLaw
import Derived.Test.YtpffgljpkehgmaaAMOpen
import Derived.Test.YtpffgljpkehgmaaUniM12
namespace Go.Proofs.Ytpffgljpkehgmaa
open Go.ChangeShapes Go.WideShapes Go.ChangeAt Go.RowKit Go.AM Go.ChangeMaps
set_option linter.unusedVariables false
set_option linter.unusedSimpArgs false
theorem Try.own : ownKnob Try.prog.godebug = none := by kernel_rfl
theorem Try.laidOut : laidOutB Try.prog = true := by kernel_rfl
theorem seatOk : CallsOk Try.prog (aW X) := aW_ok ctxOk
set_option maxRecDepth 100000 in
theorem unifyGreat_lifted (os : Os) (started : os.Started) (H : Type) (enc : TypeId × Value → H) :
    ReturnsInHanded {} Try.checked os 7 .any (Rows.unifyGreatSpec.pre6 enc Try.prog Try.f7 Rows.unifyGreatRow.domain false) (Rows.unifyGreatSpec.post enc Try.prog Try.f7 false true false false) := by
  refine lifted_w (C := Try.checked) Try.own started (by kernel_rfl) Try.func7 rfl
    (ChangeSpec.witness6 (enc := enc) (C := Try.checked) false ⟨#[], #[.int .i64 0], []⟩ 8 (by kernel_rfl) (by kernel_rfl) (by kernel_rfl) (by kernel_rfl)) ?_
  intro W base args ds p hval0 hW hA0 hcnd hwt0
  have hval : ∀ (j : Nat) t v, Try.f7.params[j]? = some t → args[j]? = some v → Value.okWide Try.prog W .any base t v := hval0
  have hwt : (DataW.weightsEach Try.prog Try.f7.params.toList ds).all (· ≤ reachBytes) = true := hwt0
  have hA : DataW.TrodAll enc Try.prog W 0 (fun _ => true) true Try.f7.params.toList args.toList ds p := hA0
  rw [Try.params7] at hA hval hwt
  obtain ⟨v0, d0, rfl, rfl, h0⟩ := trodAll_one hA
  obtain ⟨a0, rfl, rfl, rfl, b0⟩ := open_int (k := .i64) (by kernel_rfl) (hval 0 _ v0 rfl rfl) h0
  obtain ⟨m', hrun⟩ := unifyGreat_plain a0  
  refine (law_calls seatOk hrun W (vs := #[.int .i64 a0]) ⟨rfl, ?_⟩).mono fun e W' ⟨he, hb⟩ => ?_
  · intro i x v hx hv
    match i with
    | 0 => cases hx; cases hv; exact .int _ _
  subst he
  exact ⟨_, rfl, law_post Try.laidOut hW rfl ⟨rfl, rfl, rfl⟩ (by kernel_rfl) rfl (by kernel_rfl) hb⟩
theorem unifyGreat_holds : Rows.UnifyGreatSaid :=
  OpenClaim.holds_of_wide 7 Try.f7 rfl rfl rfl rfl rfl rfl rfl ⟨rfl, rfl, rfl, rfl, rfl⟩ rfl rfl rfl rfl rfl (by kernel_rfl) Try.func7 (by kernel_rfl)
    (of_decide_eq_true (by kernel_rfl)) (by unfold Func.isWrapper; first | (rw [if_pos (by decide +kernel)]; kernel_rfl) | (rw [if_neg (by decide +kernel)]; exact ⟨rfl, rfl⟩))
    (fun os started H enc _ => unifyGreat_lifted os started H enc)
end Go.Proofs.Ytpffgljpkehgmaa
