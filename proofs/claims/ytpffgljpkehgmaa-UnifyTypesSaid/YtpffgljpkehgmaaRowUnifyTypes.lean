/-
  'parlancelaw13.UnifyTypes' (statement UnifyTypes) answers true for every input, and its arguments read behind the call as they did: no condition beside the row's own.
-/
import Derived.Test.YtpffgljpkehgmaaRows
import Derived.Test.YtpffgljpkehgmaaGOk
import Derived.Test.YtpffgljpkehgmaaAMLaw
import Derived.Test.YtpffgljpkehgmaaAMOpen
import Derived.Test.YtpffgljpkehgmaaUniR1
import Derived.Test.YtpffgljpkehgmaaUniDec
set_option linter.unusedVariables false
set_option linter.unusedSimpArgs false
namespace Go.Proofs.Ytpffgljpkehgmaa
open Go.ChangeShapes Go.WideShapes Go.ChangeAt Go.RowKit Go.AM Go.ChangeMaps
set_option linter.unusedVariables false
set_option linter.unusedSimpArgs false
theorem Try.own : ownKnob Try.prog.godebug = none := by kernel_rfl
theorem Try.laidOut : laidOutB Try.prog = true := by kernel_rfl
theorem seatOk : CallsOk Try.prog (aW X) := aW_ok ctxOk
set_option maxRecDepth 100000 in
theorem unifyTypes_lifted (os : Os) (started : os.Started) (H : Type) (enc : TypeId × Value → H) :
    ReturnsInHanded {} Try.checked os 5 .any (Rows.unifyTypesSpec.pre6 enc Try.prog Try.f5 Rows.unifyTypesRow.domain false) (Rows.unifyTypesSpec.post enc Try.prog Try.f5 false true false false) := by
  refine lifted_w (C := Try.checked) Try.own started (by kernel_rfl) Try.func5 rfl
    (ChangeSpec.witness6 (enc := enc) (C := Try.checked) false ⟨#[], #[.slice none 0 0, .slice none 0 0], []⟩ 8 (by kernel_rfl) (by kernel_rfl) (by kernel_rfl) (by kernel_rfl)) ?_
  intro W base args ds p hval0 hW hA0 hcnd hwt0
  have hval : ∀ (j : Nat) t v, Try.f5.params[j]? = some t → args[j]? = some v → Value.okWide Try.prog W .any base t v := hval0
  have hwt : (DataW.weightsEach Try.prog Try.f5.params.toList ds).all (· ≤ reachBytes) = true := hwt0
  have hA : DataW.TrodAll enc Try.prog W 0 (fun _ => true) true Try.f5.params.toList args.toList ds p := hA0
  rw [Try.params5] at hA hval hwt
  obtain ⟨v0, v1, d0, d1, p0, p1, rfl, rfl, rfl, h0, h1⟩ := trodAll_two hA
  obtain ⟨x0, r0, c0⟩ := open_cv_slice (S := [28, 74, 3, 9, 35]) (by kernel_rfl) (by kernel_rfl) (by kernel_rfl) (hval 0 _ v0 rfl rfl) h0 (weightsEach_get hwt 0 _ _ rfl rfl)
  obtain ⟨vs0, os0, s0, p0, q0⟩ := cv_ops (e := 74) (int := 3) (str := 9) (sl := 35) (by kernel_rfl) (by kernel_rfl) (by kernel_rfl) (by kernel_rfl) (by kernel_rfl) (by kernel_rfl) (by kernel_rfl) (by kernel_rfl) (by kernel_rfl) (by kernel_rfl) c0
  obtain ⟨x1, r1, c1⟩ := open_cv_slice (S := [35, 3]) (by kernel_rfl) (by kernel_rfl) (by kernel_rfl) (hval 1 _ v1 rfl rfl) h1 (weightsEach_get hwt 1 _ _ rfl rfl)
  obtain ⟨l1, s1, b1, z1⟩ := CV.ints (e := 3) (by kernel_rfl) (by kernel_rfl) c1
  obtain ⟨m', hrun⟩ := unifyTypes_plain s0 p0 q0 s1   
  refine (law_calls seatOk hrun W (vs := #[v0, v1]) ⟨rfl, ?_⟩).mono fun e W' ⟨he, hb⟩ => ?_
  · intro i x v hx hv
    match i with
    | 0 => cases hx; cases hv; exact r0
    | 1 => cases hx; cases hv; exact r1
  subst he
  exact ⟨_, rfl, law_post Try.laidOut hW rfl ⟨rfl, rfl, rfl⟩ (by kernel_rfl) rfl (by kernel_rfl) hb⟩
theorem unifyTypes_holds : Rows.UnifyTypesSaid :=
  OpenClaim.holds_of_wide 5 Try.f5 rfl rfl rfl rfl rfl rfl rfl ⟨rfl, rfl, rfl, rfl, rfl⟩ rfl rfl rfl rfl rfl (by kernel_rfl) Try.func5 (by kernel_rfl)
    (of_decide_eq_true (by kernel_rfl)) (by unfold Func.isWrapper; first | (rw [if_pos (by decide +kernel)]; kernel_rfl) | (rw [if_neg (by decide +kernel)]; exact ⟨rfl, rfl⟩))
    (fun os started H enc _ => unifyTypes_lifted os started H enc)
end Go.Proofs.Ytpffgljpkehgmaa
