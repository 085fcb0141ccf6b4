/-
  Unification in plain Lean: what a run that is not rigid tells of two nodes that stand for the same.
-/
import Derived.Test.YtpffgljpkehgmaaUni1
namespace Uni
theorem Wk.keepUp {rg : Bool} {ns ns' : List Nd} {todo : List (Nat × Nat)} {ok : Bool} (h : Wk rg ns todo ok ns') : ∀ {i j : Nat}, upOf ns i = some j → upOf ns' i = some j := by
  have one : ∀ {ns : List Nd} {x y i j : Nat}, Rt ns x x → upOf ns i = some j → upOf (setUp ns x (some y)) i = some j := by
    intro ns x y i j hx hi
    rw [setUp_up, if_neg]
    · exact hi
    · rintro ⟨rfl, _⟩
      rw [hx.is.2] at hi; cases hi
  induction h with
  | nil => exact id
  | same _ _ _ ih => exact ih
  | varl _ ha _ _ _ _ ih => exact fun h => ih (one ha.self h)
  | varr _ _ hb _ _ _ _ ih => exact fun h => ih (one hb.self h)
  | rigid => exact id
  | clash => exact id
  | args ha _ _ _ _ _ _ _ ih => exact fun h => ih (one ha.self h)
theorem te_eqv {ns : List Nd} : Eqv (fun x y => Sim ns x y ∨ Te ns x y) := ⟨fun i => .inl (.refl i), fun h => h.elim (fun h => .inl h.symm) fun ⟨t, h1, h2⟩ => .inr ⟨t, h2, h1⟩, fun h h' => by
  rcases h with h | ⟨t, h1, h2⟩ <;> rcases h' with h' | ⟨t', h3, h4⟩
  · exact .inl (h.trans h')
  · exact .inr ⟨t', h3.alike h.symm, h4⟩
  · exact .inr ⟨t, h1, h2.alike h'⟩
  · cases h2.inj h3
    exact .inr ⟨t, h1, h4⟩⟩
theorem te_clo {ns : List Nd} (g : Good ns) : Clo ns (fun x y => Sim ns x y ∨ Te ns x y) := by
  have hcs := cm_clo g.cm
  have hE := te_eqv (ns := ns)
  refine ⟨hE, fun {x y} h hx hy => ?_⟩
  rcases h with h | ⟨t, h1, h2⟩
  · exact (hcs.meet h hx hy).mono fun h => .inl h
  · cases h1 with
    | v a1 a2 a3 => exact absurd a2 (cm_root g.cm a1 hx).1
    | c a1 a2 a3 a4 =>
      generalize hq : Fo.c _ _ _ _ = t at h2
      cases h2 with
      | v => cases hq
      | c b1 b2 b3 b4 =>
        injection hq with e1 e2 e3 e4
        subst e3
        obtain ⟨z1, z2⟩ := te_zip a3 b3
        have m1 := (cm_root g.cm a1 hx).2.mono (F := fun x y => Sim ns x y ∨ Te ns x y) fun h => .inl h
        have m2 := (cm_root g.cm b1 hy).2.mono (F := fun x y => Sim ns x y ∨ Te ns x y) fun h => .inl h
        exact Meet.trans hE (Meet.trans hE m1 ⟨e1, e2, z1, fun p hp => .inr (z2 p hp)⟩) (Meet.symm hE m2)
/-- WHAT A RUN TELLS that may make variables something: whether it made none. -/
theorem Wk.tellsF {ns ns' : List Nd} {a b : Nat} {ok : Bool} (h : Wk false ns [(a, b)] ok ns') (g : Good ns) (ha : a < ns.length) (hb : b < ns.length) : (ok = true ∧ ∀ i, kOf ns i = 1 → upOf ns i = none → upOf ns' i = none) ↔ Te ns a b := by
  constructor
  · rintro ⟨rfl, hno⟩
    have hc := cm_clo (h.clo g.cm)
    have hab : Sim ns' a b := h.does rfl (a, b) (by simp)
    have rig : ∀ {x y : Nat}, Rt ns x x → Rt ns y y → kOf ns x = 1 → Sim ns' x y → x = y := by
      intro x y hx hy hk hs
      have hx' : Rt ns' x x := .root (by rw [h.sd.len]; exact hx.is.1) (hno x hk hx.is.2)
      have hyx := hs.root hx'
      by_cases hxy : x = y
      · exact hxy
      · exfalso
        by_cases hky : kOf ns y = 1
        · have hy' : Rt ns' y y := .root (by rw [h.sd.len]; exact hy.is.1) (hno y hky hy.is.2)
          exact hxy (hyx.inj hy')
        · have := (cm_root (h.clo g.cm) hyx (by rw [h.sd.k]; exact hky)).1
          rw [h.sd.k] at this
          exact this hk
    have key : ∀ x, Fin ns (Sim ns) x → ∀ y, x < ns.length → y < ns.length → Sim ns' x y → Te ns x y := by
      intro x hf
      induction hf with
      | @mk x _ ih =>
        intro y hx hy hxy
        obtain ⟨r, hr⟩ := g.lk x hx
        obtain ⟨s, hs⟩ := g.lk y hy
        have hrs : Sim ns' r s := ((h.mono hr.sim).symm.trans hxy).trans (h.mono hs.sim)
        by_cases hk : kOf ns r = 1
        · have := rig hr.self hs.self hk hrs
          subst this
          exact ⟨_, .v hr hk .nil, .v hs hk .nil⟩
        · by_cases hk2 : kOf ns s = 1
          · have := rig hs.self hr.self hk2 hrs.symm
            subst this
            exact absurd hk2 hk
          · have hm := hc.meet hrs (by rw [h.sd.k]; exact hk) (by rw [h.sd.k]; exact hk2)
            unfold Meet at hm
            rw [h.sd.k, h.sd.k, h.sd.nm, h.sd.nm, h.sd.args, h.sd.args] at hm
            obtain ⟨m1, m2, m3, m4⟩ := hm
            obtain ⟨t, t1, t2⟩ := zip_te (ns := ns) m3 fun p hp => by
              obtain ⟨p1, p2⟩ := p
              have h5 := List.of_mem_zip hp
              exact ih r p1 hr.sim h5.1 p2 (g.av r p1 h5.1) (g.av s p2 h5.2) (m4 _ hp)
            exact ⟨_, .c hr hk t1 .nil, by rw [m1, m2]; exact .c hs hk2 t2 .nil⟩
    exact key a (g.fin a) b ha hb hab
  · intro ht
    obtain ⟨g1, g2⟩ := h.least g.lk (te_clo g) (fun h => .inl h) fun p hp => by
      rw [List.mem_singleton] at hp; subst hp; exact .inr ht
    have hok : ok = true := by
      cases ok with
      | true => rfl
      | false => have := (g2 rfl).1; cases this
    subst hok
    refine ⟨rfl, fun i hk hu => ?_⟩
    cases hui : upOf ns' i with
    | none => rfl
    | some j =>
      exfalso
      have hil : i < ns.length := by
        rcases Nat.lt_or_ge i ns.length with h1 | h1
        · exact h1
        · unfold upOf at hui; rw [List.getElem?_eq_none (by rw [h.sd.len]; exact h1)] at hui; cases hui
      have hri : Rt ns i i := .root hil hu
      obtain ⟨y, hy⟩ := h.lk g.lk i (by rw [h.sd.len]; exact hil)
      have hne : y ≠ i := by
        rintro rfl
        rw [hy.is.2] at hui; cases hui
      have hyr : Rt ns y i := by
        rcases g1 hy.sim with h1 | ⟨t, h1, h2⟩
        · exact h1.root hri
        · cases h1 with
          | v a1 a2 a3 =>
            cases a1.inj hri
            cases h2 with
            | v b1 b2 b3 => exact b1
          | c a1 a2 => rw [a1.inj hri] at a2; exact absurd hk a2
      cases hyr with
      | root => exact hne rfl
      | step e _ =>
        have := h.keepUp e
        rw [hy.is.2] at this; cases this
end Uni
