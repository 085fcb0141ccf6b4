/-
  'parlancelaw08.LexMoved' answers true for every input, and its arguments read behind the call as they did: no condition beside the row's own.
-/
import Derived.Test.YtcliklgiamlpeaaRows
import Derived.Test.YtcliklgiamlpeaaR1Ok
import Derived.Test.YtcliklgiamlpeaaAMLaw
import Derived.Test.YtcliklgiamlpeaaLexMoved
namespace Go.Proofs.Ytcliklgiamlpeaa
open Go.ChangeShapes Go.WideShapes Go.ChangeAt Go.RowKit Go.AM Go.ChangeMaps

theorem Try.own : ownKnob Try.prog.godebug = none := by kernel_rfl
theorem Try.laidOut : laidOutB Try.prog = true := by kernel_rfl
theorem seatOk : CallsOk Try.prog (aW X) := aW_ok ctxOk

set_option maxRecDepth 100000 in
theorem lexMoved_lifted (os : Os) (started : os.Started) (H : Type) (enc : TypeId × Value → H) :
    ReturnsInHanded {} Try.checked os 3 .any (Rows.lexMovedSpec.pre6 enc Try.prog Try.f3 Rows.lexMovedRow.domain false) (Rows.lexMovedSpec.post enc Try.prog Try.f3 false true false false) := by
  refine returnsInHanded_of_change (C := Try.checked) Try.own started (by kernel_rfl) Try.func3
    (ChangeSpec.witness6 (enc := enc) (C := Try.checked) false ⟨#[], #[.string .empty, .int .i64 0], []⟩ 8 (by kernel_rfl) (by kernel_rfl) (by kernel_rfl) (by kernel_rfl)) ?_
  intro W base args ds gs before hval0 hW hcnd _
  have hval : ∀ (j : Nat) t v, Try.f3.params[j]? = some t → args[j]? = some v → Value.okWide Try.prog W .any base t v := hval0
  have hW' := hW
  obtain ⟨p, q, hA0, hV, rfl, hfz, hnd⟩ := hW
  have hA : DataW.TrodAll enc Try.prog W 0 (fun _ => true) true Try.f3.params.toList args.toList ds p := hA0
  rw [Try.params3] at hA hval
  obtain ⟨v0, v1, d0, d1, p0, p1, rfl, rfl, rfl, h0, h1⟩ := trodAll_two hA
  obtain ⟨rfl, rfl⟩ := trodVars_none hV
  obtain ⟨a, rfl, rfl, rfl, wa⟩ := open_string (by kernel_rfl) (hval 0 _ v0 rfl rfl) h0
  obtain ⟨b, rfl, rfl, rfl, wb⟩ := open_int (k := .i64) (by kernel_rfl) (hval 1 _ v1 rfl rfl) h1
  obtain ⟨m', hrun⟩ := lexMoved_plain a.data.toList b (by have := len_le wa; omega) Mem.zero
  rw [bs_data] at hrun
  refine (law_calls seatOk hrun W (vs := #[.string a, .int .i64 b]) ⟨rfl, ?_⟩).mono fun e W' ⟨he, hb⟩ => ?_
  · intro i x v hx hv
    match i with
    | 0 => cases hx; cases hv; exact .str a
    | 1 => cases hx; cases hv; exact .int _ _
  subst he
  exact ⟨_, rfl, law_post Try.laidOut hW' rfl ⟨rfl, rfl, rfl⟩ (by kernel_rfl) rfl (by kernel_rfl) hb⟩

theorem lexMoved_holds : Rows.LexMovedSaid :=
  OpenClaim.holds_of_wide 3 Try.f3 rfl rfl rfl rfl rfl rfl rfl ⟨rfl, rfl, rfl, rfl, rfl⟩ rfl rfl rfl rfl rfl (by kernel_rfl) Try.func3 (by kernel_rfl)
    (of_decide_eq_true (by kernel_rfl)) (by unfold Func.isWrapper; first | (rw [if_pos (by decide +kernel)]; kernel_rfl) | (rw [if_neg (by decide +kernel)]; exact ⟨rfl, rfl⟩))
    (fun os started H enc _ => lexMoved_lifted os started H enc)
end Go.Proofs.Ytcliklgiamlpeaa
