/-
  Unification in plain Lean: what a run that is not rigid tells of two nodes that stand for the same.
-/
import Derived.Test.YtpffgljpkehgmaaUni1
set_option linter.unusedVariables false
set_option linter.unusedSimpArgs false
namespace Uni
theorem te_eqv {ns : List Nd} : Eqv (fun x y => Sim ns x y ∨ Te ns x y) := ⟨fun i => .inl (.refl i), fun h => h.elim (fun h => .inl h.symm) fun ⟨t, h1, h2⟩ => .inr ⟨t, h2, h1⟩, fun h h' => by
  rcases h with h | ⟨t, h1, h2⟩ <;> rcases h' with h' | ⟨t', h3, h4⟩
  · exact .inl (h.trans h')
  · exact .inr ⟨t', h3.alike h.symm, h4⟩
  · exact .inr ⟨t, h1, h2.alike h'⟩
  · cases h2.inj h3
    exact .inr ⟨t, h1, h4⟩⟩
theorem te_clo {ns : List Nd} (g : Good ns) : Clo ns (fun x y => Sim ns x y ∨ Te ns x y) := by
  have hcs := cm_clo g.cm
  have hE := te_eqv (ns := ns)
  refine ⟨hE, fun {x y} h hx hy => ?_⟩
  rcases h with h | ⟨t, h1, h2⟩
  · exact (hcs.meet h hx hy).mono fun h => .inl h
  · cases h1 with
    | v a1 a2 a3 => exact absurd a2 (cm_root g.cm a1 hx).1
    | c a1 a2 a3 a4 =>
      generalize hq : Fo.c _ _ _ _ = t at h2
      cases h2 with
      | v => cases hq
      | c b1 b2 b3 b4 =>
        injection hq with e1 e2 e3 e4
        subst e3
        obtain ⟨z1, z2⟩ := te_zip a3 b3
        have m1 := (cm_root g.cm a1 hx).2.mono (F := fun x y => Sim ns x y ∨ Te ns x y) fun h => .inl h
        have m2 := (cm_root g.cm b1 hy).2.mono (F := fun x y => Sim ns x y ∨ Te ns x y) fun h => .inl h
        exact Meet.trans hE (Meet.trans hE m1 ⟨e1, e2, z1, fun p hp => .inr (z2 p hp)⟩) (Meet.symm hE m2)
end Uni
