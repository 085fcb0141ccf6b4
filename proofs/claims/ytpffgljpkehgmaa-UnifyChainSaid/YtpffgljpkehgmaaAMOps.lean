/-
  One operation that calls no function.
-/
import Derived.Test.YtpffgljpkehgmaaAMMem4
set_option linter.unusedVariables false
set_option linter.unusedSimpArgs false
namespace Go.AM
open Go
set_option linter.unusedSimpArgs false
set_option linter.unusedVariables false
/-- an operation has answered: what its destination holds, the world, the ghost -/
def OpDone (P : Program) (Γ : Gh) (m : Mem) (w : World) (s : Sem Next) (v : AV) (m' : Mem) : Prop :=
  ∃ nx u w' Γ', s.run P w = .ok nx w' ∧ (nx = .value u ∨ (nx = .skip ∧ u = Go.undef)) ∧ VRel Γ' v u ∧ Post Γ m w Γ' m' w'
def opsOk (o : Op) : Bool := o.operands.all opOk
section
variable {P : Program} {T : TypeId → Option AT} (hT : TOk P T)
theorem OpDone.of {Γ : Gh} {m m' : Mem} {w : World} {s : Sem Value} {v : AV} (h : OpPost P Γ m w s v m') : OpDone P Γ m w (do pure (.value (← s))) v m' := by
  obtain ⟨u, w', Γ', h1, h2, h3⟩ := h
  exact ⟨.value u, u, w', Γ', by simp [h1], .inl rfl, h2, h3⟩
theorem OpDone.ofU {Γ : Gh} {m m' : Mem} {w : World} {s : Sem Unit} (h : OpPostU P Γ m w s m') : OpDone P Γ m w (do s; pure .skip) .undef m' := by
  obtain ⟨w', Γ', h1, h2⟩ := h
  exact ⟨.skip, Go.undef, w', Γ', by simp [h1], .inr ⟨rfl, rfl⟩, .undef _, h2⟩
theorem OpDone.value {Γ : Gh} {m : Mem} {w : World} (hr : Rel Γ m w) {v : AV} {u : Value} (h : VRel Γ v u) : OpDone P Γ m w (pure (.value u)) v m :=
  ⟨.value u, u, w, Γ, rfl, .inl rfl, h, .refl hr⟩
theorem mapRel {Γ : Gh} {a : AAct} {b : Act} (ha : ActRel Γ a b) : ∀ (xs : List Operand), xs.all opOk = true → ∀ (i : Nat) x u, (xs.map a.eval)[i]? = some x → (xs.map b.eval)[i]? = some u → VRel Γ x u
  | [], _, i, x, u, h, _ => by simp at h
  | y :: xs, hk, i, x, u, h, h' => by
    simp only [List.all_cons, Bool.and_eq_true] at hk
    cases i with
    | zero => simp at h h'; subst h; subst h'; exact ha.eval y hk.1
    | succ i => exact mapRel ha xs hk.2 i x u (by simpa using h) (by simpa using h')
include hT
set_option maxHeartbeats 1000000 in
theorem aOp_run {Γ : Gh} {m m' : Mem} {w : World} (hr : Rel Γ m w) {a : AAct} {b : Act} (ha : ActRel Γ a b) {o : Oper} {md : Nat} {v : AV} (hk : opsOk o.op = true)
    (h : aOp T md o.type a.eval m o.op = some (v, m')) (hf : Fresh Γ m.next m'.next) : OpDone P Γ m w (execOp b.eval o) v m' := by
  obtain ⟨dst, op, type, pos, after, guard⟩ := o
  have ev : ∀ x, x ∈ op.operands → VRel Γ (a.eval x) (b.eval x) := fun x hx => ha.eval x (by
    have := hk
    simp only [opsOk, Array.all_eq_true_iff_forall_mem] at this
    exact this x hx)
  have mv : ∀ x, x ∈ op.operands → aOp T md type a.eval m (.move x) = some (v, m') → OpDone P Γ m w (pure (.value (b.eval x))) v m' := fun x hx h => by
    simp only [aOp] at h
    split at h
    · obtain ⟨Γ', h1, h2⟩ := aFreeze_run hr h (ev x hx)
      exact ⟨_, _, w, Γ', rfl, .inl rfl, h1, h2⟩
    · cases h; exact .value hr (ev x hx)
  cases op <;> simp only [aOp] at h <;> simp only [execOp] <;> try (cases h; done)
  case move x => exact mv x (by simp [Op.operands]) (by simpa only [aOp] using h)
  case assign x => exact mv x (by simp [Op.operands]) (by simpa only [aOp] using h)
  case pick c x y =>
    have hc := ev c (by simp [Op.operands])
    have hx := ev x (by simp [Op.operands])
    have hy := ev y (by simp [Op.operands])
    generalize a.eval c = vc at *
    generalize b.eval c = uc at *
    split at h
    · cases hc; cases h
      simpa [asBool] using OpDone.value (P := P) hr hx
    · cases hc; cases h
      simpa [asBool] using OpDone.value (P := P) hr hy
    · cases h
  case alloc e =>
    simp only [Option.bind_eq_some_iff] at h
    obtain ⟨i, hi, h⟩ := h
    exact .of (aAlloc_run hT hr hi h hf)
  case box e x => exact .of (aBox_run hr h (ev x (by simp [Op.operands])) hf)
  case build t ps =>
    simp only [Option.map_eq_some_iff] at h
    obtain ⟨u, hu, h⟩ := h
    cases h
    refine .of (.pure hr (aBuild_run hT hu (by simp) (fun j x y hx hy => ?_) w))
    rw [List.getElem?_map] at hx
    simp only [Array.toList_map, List.getElem?_map] at hy
    cases hp : ps.toList[j]? with
    | none => rw [hp] at hx; cases hx
    | some p =>
      rw [hp] at hx hy
      cases hx; cases hy
      exact ev p.2 (by
        simp only [Op.operands, List.mem_toArray, List.mem_map]
        exact ⟨p, List.mem_of_getElem? hp, rfl⟩)
  case buildSlice t n ps =>
    have hvs : ∀ (j : Nat) x y, (ps.toList.map fun p => (p.1, a.eval p.2))[j]? = some x → ((ps.map fun p => (p.1, b.eval p.2)).toList)[j]? = some y → VRel Γ x.2 y.2 := fun j x y hx hy => by
      rw [List.getElem?_map] at hx
      simp only [Array.toList_map, List.getElem?_map] at hy
      cases hp : ps.toList[j]? with
      | none => rw [hp] at hx; cases hx
      | some p =>
        rw [hp] at hx hy
        cases hx; cases hy
        exact ev p.2 (by
          simp only [Op.operands, List.mem_toArray, List.mem_map]
          exact ⟨p, List.mem_of_getElem? hp, rfl⟩)
    split at h
    · exact .of (aRowSlice_run hT hr h (by simp) hvs hf)
    · simp only [Option.map_eq_some_iff] at h
      obtain ⟨u, hu, h⟩ := h
      cases h
      exact .of (aBuildSlice_run hT hr hu (by simp) hvs)
  case insert t x k y =>
    simp only [Option.map_eq_some_iff] at h
    obtain ⟨u, hu, h⟩ := h
    cases h
    exact .ofU (aMapUpdate_run hT hr hu (ev x (by simp [Op.operands])) (ev k (by simp [Op.operands])) (ev y (by simp [Op.operands])))
  case load t x =>
    simp only [Option.map_eq_some_iff] at h
    obtain ⟨u, hu, h⟩ := h
    cases h
    exact .of (.pure hr (aLoad_run hT hr hu (ev x (by simp [Op.operands]))))
  case store t x y =>
    simp only [Option.map_eq_some_iff] at h
    obtain ⟨u, hu, h⟩ := h
    cases h
    exact .ofU (aStore_run hT hr hu (ev x (by simp [Op.operands])) (ev y (by simp [Op.operands])))
  case nilCheck x =>
    have hx := ev x (by simp [Op.operands])
    generalize a.eval x = vx at *
    generalize b.eval x = ux at *
    split at h <;> first | (cases h; done) | skip
    · cases h; cases hx with | ptr hrow => exact .value hr (.ptr hrow)
    · cases h; cases hx with | pim fs hl him hv hc => exact .value hr (.pim fs hl him hv hc)
    · cases h; cases hx with | fn h1 h2 h3 h4 => exact .value hr (.fn h1 h2 h3 h4)
    · cases hx
  case binOp op t x y yt =>
    simp only [Option.map_eq_some_iff] at h
    obtain ⟨u, hu, h⟩ := h
    cases h
    exact .of (.pure hr (aBin_run hT hr hu (ev x (by simp [Op.operands])) (ev y (by simp [Op.operands]))))
  case unOp op t x =>
    simp only [Option.map_eq_some_iff] at h
    obtain ⟨u, hu, h⟩ := h
    cases h
    exact .of (.pure hr (aUn_run hu (ev x (by simp [Op.operands])) w))
  case convert s d x =>
    simp only [Option.map_eq_some_iff] at h
    obtain ⟨u, hu, h⟩ := h
    cases h
    have hx := ev x (by simp [Op.operands])
    unfold aConvert at hu
    split at hu
    · rename_i hsd
      subst hsd
      exact .of (aLit_run hT hr hu hx)
    cases hd : aD T d with
    | none =>
      unfold aConv at hu
      rw [hd] at hu
      split at hu <;> simp_all
    | some D =>
      cases hm : convMakes (a.eval x) D with
      | true => exact .of (aConvBytes_run hT hr hu hx hd hm)
      | false => exact .of (.pure hr (aConv_run hT hr hu hx (fun D' hD' => by rw [hd] at hD'; cases hD'; exact hm)))
  case makeInterface t x =>
    have hx := ev x (by simp [Op.operands])
    split at h
    · cases h
    · cases h
    · rename_i hn1 hn2
      cases h
      cases hd : aD T t with
      | none => exact absurd hd hn2
      | some D => exact .of (.pure hr (aMakeInterface_run hT hd (fun bb e => hn1 bb (by rw [hd, e])) hx w))
  case makeFunc fn first cap =>
    cases fn <;> simp only [] at h <;> try (cases h; done)
    cases h
    refine .of (.pure hr ⟨_, rfl, .fn (by simp) (by simp) (fun i x u hx hu => ?_) (fun i x u hx hu => ?_)⟩)
    · exact mapRel ha first.toList (by
        have := hk
        simp only [opsOk, Op.operands, Array.all_append, Bool.and_eq_true] at this
        simpa using this.1) i x u hx (by simpa [← Array.getElem?_toList] using hu)
    · exact mapRel ha cap.toList (by
        have := hk
        simp only [opsOk, Op.operands, Array.all_append, Bool.and_eq_true] at this
        simpa using this.2) i x u hx (by simpa [← Array.getElem?_toList] using hu)
  case makeMap t r =>
    cases r <;> simp only [] at h <;> try (cases h; done)
    cases h
    obtain ⟨Γ', hp, hrole⟩ := post_map hr (w' := { w with heap := w.heap.push (.map #[] 0) }) hf rfl rfl rfl rfl
    exact .of ⟨.map (some w.heap.size), _, Γ', by simp [Instr.makeMap], .map hrole, hp⟩
  case makeSlice t l c => exact .of (aMakeSlice_run hT hr h (ev l (by simp [Op.operands])) (ev c (by simp [Op.operands])) hf)
  case slice t x lo hi mx =>
    simp only [Option.map_eq_some_iff] at h
    obtain ⟨u, hu, h⟩ := h
    cases h
    refine .of (.pure hr (aSlice_run hT hu (ev x (by simp [Op.operands])) (by cases lo <;> rfl) (by cases hi <;> rfl) (by cases mx <;> rfl) (fun p q hp hq => ?_) (fun p q hp hq => ?_) w))
    · cases lo with
      | none => cases hp
      | some y => cases hp; cases hq; exact ev y (by simp [Op.operands])
    · cases hi with
      | none => cases hp
      | some y => cases hp; cases hq; exact ev y (by simp [Op.operands])
  case fieldAddr t x f =>
    simp only [Option.map_eq_some_iff] at h
    obtain ⟨u, hu, h⟩ := h
    cases h
    exact .of (.pure hr (aFieldAddr_run hT hu (ev x (by simp [Op.operands])) w))
  case field t x f =>
    simp only [Option.map_eq_some_iff] at h
    obtain ⟨u, hu, h⟩ := h
    cases h
    exact .of (.pure hr (aField_run hT hu (ev x (by simp [Op.operands])) w))
  case indexAddr t x i =>
    simp only [Option.map_eq_some_iff] at h
    obtain ⟨u, hu, h⟩ := h
    cases h
    exact .of (.pure hr (aIndexAddr_run hT hu (ev x (by simp [Op.operands])) (ev i (by simp [Op.operands])) w))
  case index t x i =>
    simp only [Option.map_eq_some_iff] at h
    obtain ⟨u, hu, h⟩ := h
    cases h
    exact .of (.pure hr (aIndex_run hT hu (ev x (by simp [Op.operands])) (ev i (by simp [Op.operands])) w))
  case lookup t x k ok =>
    simp only [Option.map_eq_some_iff] at h
    obtain ⟨u, hu, h⟩ := h
    cases h
    exact .of (.pure hr (aLookup_run hT hr hu (ev x (by simp [Op.operands])) (ev k (by simp [Op.operands]))))
  case mapUpdate t x k y =>
    simp only [Option.map_eq_some_iff] at h
    obtain ⟨u, hu, h⟩ := h
    cases h
    exact .ofU (aMapUpdate_run hT hr hu (ev x (by simp [Op.operands])) (ev k (by simp [Op.operands])) (ev y (by simp [Op.operands])))
  case typeAssert x xt t ok =>
    simp only [Option.map_eq_some_iff] at h
    obtain ⟨u, hu, h⟩ := h
    cases h
    exact .of (.pure hr (aTypeAssert_run hT hu (ev x (by simp [Op.operands])) w))
  case extract x i =>
    simp only [Option.map_eq_some_iff] at h
    obtain ⟨u, hu, h⟩ := h
    cases h
    exact .of (.pure hr (aExtract_run hu (ev x (by simp [Op.operands])) w))
end
end Go.AM
