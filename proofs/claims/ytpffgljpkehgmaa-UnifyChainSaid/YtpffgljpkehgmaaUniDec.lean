/-
  Scripts as arguments.
-/
import Derived.Test.YtpffgljpkehgmaaAMOpen2
import Derived.Test.YtpffgljpkehgmaaUniR1
set_option linter.unusedVariables false
set_option linter.unusedSimpArgs false
namespace Go.AM
open Go Go.Proofs
theorem cv_ops {P : Program} {t e sl int str : TypeId} {x : AV} (Us : P.underlying t = some (.slice e)) (Ue : fieldsAt P e = [(int, 0), (str, 1), (sl, 2)]) (hag : aggB P e = true) (hc : P.cellsOf e = 3) (c1 : P.cellsOf int = 1) (c2 : P.cellsOf str = 1) (c3 : P.cellsOf sl = 1)
    (U1 : P.underlying int = some (.int .i64)) (U2 : P.underlying str = some .string) (U3 : P.underlying sl = some (.slice int)) (h : CV P t [x]) :
    ∃ vs os, HSl x vs ∧ OpL vs os ∧ ∀ o ∈ os, o.args.length ≤ 140737488355328 ∧ o.name.length ≤ 140737488355328 := by
  obtain ⟨v, xs, hv, h1, h2, h3⟩ := h.inv_slice Us
  cases hv
  rw [hag] at h1
  have hr : Go.reachBytes ≤ 140737488355328 := by decide
  have key : ∀ xs : List (List AV), (∀ x ∈ xs, CV P e x) → ∃ os, OpL (xs.map (wrapE true)) os ∧ ∀ o ∈ os, o.args.length ≤ 140737488355328 ∧ o.name.length ≤ 140737488355328 := by
    intro xs
    induction xs with
    | nil => exact fun _ => ⟨[], .nil, by simp⟩
    | cons a xs ih =>
      intro h
      obtain ⟨l, hf⟩ := (h a (by simp)).inv_fields Ue (by simp)
      rw [hc] at l
      match a, l with
      | [y0, y1, y2], _ =>
        have f0 := hf (int, 0) (by simp)
        have f1 := hf (str, 1) (by simp)
        have f2 := hf (sl, 2) (by simp)
        rw [c1] at f0
        rw [c2] at f1
        rw [c3] at f2
        obtain ⟨n, e0, _⟩ := f0.inv_int U1
        obtain ⟨s, e1, s1⟩ := f1.inv_str U2
        obtain ⟨l, l1, l2, _⟩ := CV.ints U3 U1 (x := y2) f2
        simp at e0 e1
        subst e0
        subst e1
        obtain ⟨os, o1, o2⟩ := ih fun x hx => h x (by simp [hx])
        refine ⟨⟨n, s, l⟩ :: os, OpL.cons (o := ⟨n, s, l⟩) l1 o1, fun o ho => ?_⟩
        rcases List.mem_cons.1 ho with rfl | ho
        · exact ⟨Nat.le_trans l2 hr, Nat.le_trans s1 hr⟩
        · exact o2 o ho
  obtain ⟨os, o1, o2⟩ := key xs h2
  exact ⟨_, os, h1, o1, o2⟩
end Go.AM
