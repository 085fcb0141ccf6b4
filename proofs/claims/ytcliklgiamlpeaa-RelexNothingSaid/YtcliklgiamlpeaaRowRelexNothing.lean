/-
  'parlancelaw09.RelexNothing' (statement RelexNothing) answers true for every input, and its arguments read behind the call as they did: no condition beside the row's own.
-/
import Derived.Test.YtcliklgiamlpeaaRows
import Derived.Test.YtcliklgiamlpeaaR1Ok
import Derived.Test.YtcliklgiamlpeaaAMLaw
import Derived.Test.YtcliklgiamlpeaaAMOpen
import Derived.Test.YtcliklgiamlpeaaRelexNothing
namespace Go.Proofs.Ytcliklgiamlpeaa
open Go.ChangeShapes Go.WideShapes Go.ChangeAt Go.RowKit Go.AM Go.ChangeMaps
set_option linter.unusedVariables false
set_option linter.unusedSimpArgs false

theorem Try.own : ownKnob Try.prog.godebug = none := by kernel_rfl
theorem Try.laidOut : laidOutB Try.prog = true := by kernel_rfl
theorem seatOk : CallsOk Try.prog (aW X) := aW_ok ctxOk

set_option maxRecDepth 100000 in
theorem relexNothing_lifted (os : Os) (started : os.Started) (H : Type) (enc : TypeId × Value → H) :
    ReturnsInHanded {} Try.checked os 9 .any (Rows.relexNothingSpec.pre6 enc Try.prog Try.f9 Rows.relexNothingRow.domain false) (Rows.relexNothingSpec.post enc Try.prog Try.f9 false true false false) := by
  refine lifted_w (C := Try.checked) Try.own started (by kernel_rfl) Try.func9 rfl
    (ChangeSpec.witness6 (enc := enc) (C := Try.checked) false ⟨#[], #[.string .empty, .int .i64 0, .int .i64 0], []⟩ 8 (by kernel_rfl) (by kernel_rfl) (by kernel_rfl) (by kernel_rfl)) ?_
  intro W base args ds p hval0 hW hA0 hcnd hwt0
  have hval : ∀ (j : Nat) t v, Try.f9.params[j]? = some t → args[j]? = some v → Value.okWide Try.prog W .any base t v := hval0
  have hwt : (DataW.weightsEach Try.prog Try.f9.params.toList ds).all (· ≤ reachBytes) = true := hwt0
  have hA : DataW.TrodAll enc Try.prog W 0 (fun _ => true) true Try.f9.params.toList args.toList ds p := hA0
  rw [Try.params9] at hA hval hwt
  obtain ⟨v0, v1, v2, d0, d1, d2, p0, p1, p2, rfl, rfl, rfl, h0, h1, h2⟩ := trodAll_three hA
  obtain ⟨a0, rfl, rfl, rfl, b0⟩ := open_string (by kernel_rfl) (hval 0 _ v0 rfl rfl) h0
  obtain ⟨a1, rfl, rfl, rfl, b1⟩ := open_int (k := .i64) (by kernel_rfl) (hval 1 _ v1 rfl rfl) h1
  obtain ⟨a2, rfl, rfl, rfl, b2⟩ := open_int (k := .i64) (by kernel_rfl) (hval 2 _ v2 rfl rfl) h2
  have L0 : a0.data.toList.length ≤ 140737488351232 := weights_str hwt 0 _ (by decide) rfl
  obtain ⟨m', hrun⟩ := relexNothing_plain a0.data.toList a1 a2 (by omega)   Mem.zero
  simp only [bs_data] at hrun
  refine (law_calls seatOk hrun W (vs := #[.string a0, .int .i64 a1, .int .i64 a2]) ⟨rfl, ?_⟩).mono fun e W' ⟨he, hb⟩ => ?_
  · intro i x v hx hv
    match i with
    | 0 => cases hx; cases hv; exact .str a0
    | 1 => cases hx; cases hv; exact .int _ _
    | 2 => cases hx; cases hv; exact .int _ _
  subst he
  exact ⟨_, rfl, law_post Try.laidOut hW rfl ⟨rfl, rfl, rfl⟩ (by kernel_rfl) rfl (by kernel_rfl) hb⟩

theorem relexNothing_holds : Rows.RelexNothingSaid :=
  OpenClaim.holds_of_wide 9 Try.f9 rfl rfl rfl rfl rfl rfl rfl ⟨rfl, rfl, rfl, rfl, rfl⟩ rfl rfl rfl rfl rfl (by kernel_rfl) Try.func9 (by kernel_rfl)
    (of_decide_eq_true (by kernel_rfl)) (by unfold Func.isWrapper; first | (rw [if_pos (by decide +kernel)]; kernel_rfl) | (rw [if_neg (by decide +kernel)]; exact ⟨rfl, rfl⟩))
    (fun os started H enc _ => relexNothing_lifted os started H enc)
end Go.Proofs.Ytcliklgiamlpeaa
