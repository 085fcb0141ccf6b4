/-
  'parlancelaw09.RelexSpans' (statement RelexSpans) answers true for every input, and its arguments read behind the call as they did: no condition beside the row's own.
-/
import Derived.Test.YtcliklgiamlpeaaRows
import Derived.Test.YtcliklgiamlpeaaR1Ok
import Derived.Test.YtcliklgiamlpeaaAMLaw
import Derived.Test.YtcliklgiamlpeaaAMOpen
import Derived.Test.YtcliklgiamlpeaaRelexSpans
namespace Go.Proofs.Ytcliklgiamlpeaa
open Go.ChangeShapes Go.WideShapes Go.ChangeAt Go.RowKit Go.AM Go.ChangeMaps
set_option linter.unusedVariables false
set_option linter.unusedSimpArgs false

theorem Try.own : ownKnob Try.prog.godebug = none := by kernel_rfl
theorem Try.laidOut : laidOutB Try.prog = true := by kernel_rfl
theorem seatOk : CallsOk Try.prog (aW X) := aW_ok ctxOk

set_option maxRecDepth 100000 in
theorem relexSpans_lifted (os : Os) (started : os.Started) (H : Type) (enc : TypeId × Value → H) :
    ReturnsInHanded {} Try.checked os 10 .any (Rows.relexSpansSpec.pre6 enc Try.prog Try.f10 Rows.relexSpansRow.domain false) (Rows.relexSpansSpec.post enc Try.prog Try.f10 false true false false) := by
  refine lifted_w (C := Try.checked) Try.own started (by kernel_rfl) Try.func10 rfl
    (ChangeSpec.witness6 (enc := enc) (C := Try.checked) false ⟨#[], #[.string .empty, .slice none 0 0], []⟩ 8 (by kernel_rfl) (by kernel_rfl) (by kernel_rfl) (by kernel_rfl)) ?_
  intro W base args ds p hval0 hW hA0 hcnd hwt0
  have hval : ∀ (j : Nat) t v, Try.f10.params[j]? = some t → args[j]? = some v → Value.okWide Try.prog W .any base t v := hval0
  have hwt : (DataW.weightsEach Try.prog Try.f10.params.toList ds).all (· ≤ reachBytes) = true := hwt0
  have hA : DataW.TrodAll enc Try.prog W 0 (fun _ => true) true Try.f10.params.toList args.toList ds p := hA0
  rw [Try.params10] at hA hval hwt
  obtain ⟨v0, v1, d0, d1, p0, p1, rfl, rfl, rfl, h0, h1⟩ := trodAll_two hA
  obtain ⟨a0, rfl, rfl, rfl, b0⟩ := open_string (by kernel_rfl) (hval 0 _ v0 rfl rfl) h0
  obtain ⟨x1, cs1, r1, s1, g1, l1⟩ := open_slice_flat 5 (ks := [.int .i64, .int .i64, .int .i64]) (by kernel_rfl) (by kernel_rfl) true (by decide) (by kernel_rfl) (hval 1 _ v1 rfl rfl) h1
  obtain ⟨a1, e1, b1⟩ := decode_list tiAV TI.ok ti_fits cs1 g1
  have hl1 : a1.length = cs1.length := by simpa using (congrArg List.length e1).symm
  rw [e1] at s1
  rw [← hl1] at l1
  have L0 : a0.data.toList.length ≤ 140737488351232 := weights_str hwt 0 _ (by decide) rfl
  obtain ⟨m', hrun⟩ := relexSpans_plain a0.data.toList x1 a1 s1 b1 l1 (by omega)  Mem.zero
  simp only [bs_data] at hrun
  refine (law_calls seatOk hrun W (vs := #[.string a0, v1]) ⟨rfl, ?_⟩).mono fun e W' ⟨he, hb⟩ => ?_
  · intro i x v hx hv
    match i with
    | 0 => cases hx; cases hv; exact .str a0
    | 1 => cases hx; cases hv; exact r1
  subst he
  exact ⟨_, rfl, law_post Try.laidOut hW rfl ⟨rfl, rfl, rfl⟩ (by kernel_rfl) rfl (by kernel_rfl) hb⟩

theorem relexSpans_holds : Rows.RelexSpansSaid :=
  OpenClaim.holds_of_wide 10 Try.f10 rfl rfl rfl rfl rfl rfl rfl ⟨rfl, rfl, rfl, rfl, rfl⟩ rfl rfl rfl rfl rfl (by kernel_rfl) Try.func10 (by kernel_rfl)
    (of_decide_eq_true (by kernel_rfl)) (by unfold Func.isWrapper; first | (rw [if_pos (by decide +kernel)]; kernel_rfl) | (rw [if_neg (by decide +kernel)]; exact ⟨rfl, rfl⟩))
    (fun os started H enc _ => relexSpans_lifted os started H enc)
end Go.Proofs.Ytcliklgiamlpeaa
