/-
  More operations that change nothing.
-/
import Derived.Test.YtpffgljpkehgmaaAMPure
import Derived.Laws.BytesString
set_option linter.unusedVariables false
set_option linter.unusedSimpArgs false
namespace Go.AM
open Go
set_option linter.unusedSimpArgs false
set_option linter.unusedVariables false
theorem addr_add (b off n : Nat) : (⟨b, off, none⟩ : Addr).add n = ⟨b, off + n, none⟩ := by
  unfold Addr.add
  split
  · rename_i h; subst h; rfl
  · rfl
theorem cell_im {Γ : Gh} {m : Mem} {w : World} (hr : Rel Γ m w) {b off : Nat} {v : Value} (h : im Γ b off = some v) : w.cell? ⟨b, off, none⟩ = some v := by
  have hne : (Γ.role b).known ≠ [] := fun e => by simp [im, e] at h
  obtain ⟨c, e, fz, hc, hk⟩ := hr.known b hne
  have := hk off v h
  simp [World.cell?, hc, this]
/-- the cells that a pointer can read: they begin at base -/
theorem cells_at {Γ : Gh} {m : Mem} {w : World} (hr : Rel Γ m w) {o v n b : Nat} {cs : List AV} (hp : (Γ.role b).isRow o v n) (hc : m.cells o v = some cs) :
    ∃ us, CRel Γ cs us ∧ ∀ (j : Nat) u, us[j]? = some u → w.cell? ⟨b, j, none⟩ = some u := by
  unfold Mem.cells at hc
  split at hc
  · rename_i cs' ver ho
    split at hc
    · rename_i hv
      subst hv
      cases hc
      obtain ⟨b', c, e, lo, hrole, hlo, hheap, hle, hrel, _⟩ := hr.objs o _ ho
      obtain rfl := hr.rows b b' o ver n c.size hp (.inl ⟨lo, ver, hrole, hlo, Nat.le_refl _⟩)
      refine ⟨_, hrel, fun j u hu => ?_⟩
      rw [List.getElem?_take] at hu
      split at hu
      · simp [World.cell?, hheap]; simpa using hu
      · cases hu
    · cases hc
  · rename_i cs' ver ho
    split at hc
    · rename_i hv
      subst hv
      cases hc
      obtain ⟨b', n', vs, lo, hrole, hlo, hrel⟩ := hr.objs o _ ho
      obtain rfl := hr.rows b b' o ver n n' hp (.inr ⟨lo, ver, vs, hrole, hlo, Nat.le_refl _⟩)
      exact ⟨vs, hrel, fun j u hu => cell_im hr (by simp [im, hrole, Role.known, hu])⟩
    · cases hc
  · cases hc
section
variable {P : Program} {T : TypeId → Option AT} (hT : TOk P T)
include hT
theorem partLoad {Γ : Gh} {w : World} {b base : Nat} {cs : List AV} {us : List Value} (hc : CRel Γ cs us) (hcell : ∀ (j : Nat) u, us[j]? = some u → w.cell? ⟨b, base + j, none⟩ = some u)
    {t : TypeId} {i : AT} (hi : T t = some i) {off : Nat} {v : AV} (hp : partOf i.d.isAgg i.size cs off = some v) :
    ∃ u, (loadVar t ⟨b, base + off, none⟩).run P w = .ok u w ∧ VRel Γ v u := by
  unfold partOf at hp
  simp only [loadVar, Sem.run_bind, run_isAgg_T hT hi, Result.andThen_ok]
  cases ha : i.d.isAgg with
  | true =>
    rw [ha] at hp
    simp only [if_true] at hp ⊢
    split at hp
    · rename_i hle
      simp only [Option.some.injEq] at hp
      subst hp
      have k := (hc.drop off).take i.size
      have hlen : ((us.drop off).take i.size).length = i.size := by simp [hc.len]; omega
      have hload := run_loadCells_list (P := P) w ⟨b, base + off, none⟩ ((us.drop off).take i.size) (fun j u hu => by
        rw [List.getElem?_take] at hu
        split at hu
        · rw [List.getElem?_drop] at hu
          rw [addr_add, show base + off + j = base + (off + j) by omega]
          exact hcell _ u hu
        · cases hu)
      rw [hlen] at hload
      simp only [Sem.run_bind, run_sizeOf_T hT hi, Result.andThen_ok, hload, Sem.run_pure]
      refine ⟨_, rfl, .agg ?_ (fun j a u h1 h2 => ?_) (fun u hu => k.cell u (by simpa using hu))⟩
      · simpa using k.len
      · exact k.rel j a u h1 (by simpa using h2)
    · cases hp
  | false =>
    rw [ha] at hp
    simp only [Bool.false_eq_true, if_false] at hp ⊢
    obtain ⟨u, hu, hv, _⟩ := hc.get hp
    exact ⟨u, by simp [hcell off u hu], hv⟩
theorem aLoad_run {Γ : Gh} {m : Mem} {w : World} (hr : Rel Γ m w) {t : TypeId} {p v : AV} {p' : Value} (h : aLoad T m t p = some v) (hp : VRel Γ p p') :
    ∃ u, (Instr.loadAt t p').run P w = .ok u w ∧ VRel Γ v u := by
  unfold aLoad at h
  simp only [Option.bind_eq_some_iff] at h
  obtain ⟨i, hi, h⟩ := h
  split at h
  · cases hp with
    | pim fs hl him hv hc =>
      rename_i cs b off
      obtain ⟨u, hu, hrel⟩ := partLoad hT (w := w) (b := b) (base := off) (cs := cs) (us := fs) ⟨hl, hv, hc⟩ (fun j u hu => cell_im hr (him j u hu)) hi h
      exact ⟨u, by simpa [Instr.loadAt, Instr.sureAddr] using hu, hrel⟩
  · cases hp with
    | ptr hrow =>
      rename_i o v' off n b
      simp only [Option.bind_eq_some_iff] at h
      obtain ⟨cs, hcs, h⟩ := h
      obtain ⟨us, hrel, hcell⟩ := cells_at hr hrow hcs
      obtain ⟨u, hu, hv⟩ := partLoad hT (w := w) (b := b) (base := 0) hrel (fun j u hu => by simpa using hcell j u hu) hi h
      exact ⟨u, by simpa [Instr.loadAt, Instr.sureAddr] using hu, hv⟩
  · cases h
omit hT in
theorem aUn_run {Γ : Gh} {op : UnOp} {x v : AV} {x' : Value} (h : aUn op x = some v) (hx : VRel Γ x x') (w : World) : ∃ u, (Op.unary op x').run P w = .ok u w ∧ VRel Γ v u := by
  unfold aUn at h
  split at h
  · cases hx; cases h; exact ⟨_, rfl, .int _ _⟩
  · cases hx; cases h; exact ⟨_, rfl, .bool _⟩
  · cases h
theorem aField_run {Γ : Gh} {t : TypeId} {x v : AV} {x' : Value} {f : Nat} (h : aField T t x f = some v) (hx : VRel Γ x x') (w : World) :
    ∃ u, (Instr.field t x' f).run P w = .ok u w ∧ VRel Γ v u := by
  unfold aField at h
  split at h
  · rename_i fs cs ht
    obtain ⟨D, hD, hu, hk⟩ := run_underlying_T hT ht w
    cases D <;> first | (simp [dOk] at hk; done) | skip
    rename_i fields
    have hk' : (fields.toList.map fun f => (f.offset, f.type, f.name != "_")) = fs := by simpa [dOk] using hk
    subst hk'
    cases hx with
    | agg hl hr hc =>
      rename_i vs
      simp only [Option.bind_eq_some_iff] at h
      obtain ⟨⟨off, ft, nm⟩, hf, i, hi, hp⟩ := h
      rw [List.getElem?_map] at hf
      cases hff : fields.toList[f]? with
      | none => rw [hff] at hf; cases hf
      | some F =>
        rw [hff] at hf
        simp only [Option.map_some, Option.some.injEq, Prod.mk.injEq] at hf
        obtain ⟨rfl, rfl, _⟩ := hf
        obtain ⟨u, hu', hv⟩ := run_part_T hT hi (cs := cs) (vs := vs) ⟨by simpa using hl, fun i a u ha hu => hr i a u ha (by simpa using hu), hc⟩ hp w
        refine ⟨u, ?_, hv⟩
        have hff' : fields[f]? = some F := by simpa using hff
        simp [Instr.field, hD, hff', asAgg, hu']
  · cases h
omit hT in
theorem aExtract_run {Γ : Gh} {x v : AV} {x' : Value} {n : Nat} (h : aExtract x n = some v) (hx : VRel Γ x x') (w : World) : ∃ u, (Instr.extract x' n).run P w = .ok u w ∧ VRel Γ v u := by
  unfold aExtract at h
  split at h
  · cases hx with
    | tup hl hr =>
      rename_i vs us
      have hn : n < us.size := by rw [hl]; exact (List.getElem?_eq_some_iff.1 h).1
      exact ⟨us[n], by simp [Instr.extract, hn], hr n _ _ h (Array.getElem?_eq_getElem hn)⟩
  · cases h
theorem aIndex_run {Γ : Gh} {t : TypeId} {x ix v : AV} {x' ix' : Value} (h : aIndex T t x ix = some v) (hx : VRel Γ x x') (hix : VRel Γ ix ix') (w : World) :
    ∃ u, (Instr.index t x' ix').run P w = .ok u w ∧ VRel Γ v u := by
  unfold aIndex at h
  split at h
  · rename_i n e cs k i ht
    obtain ⟨D, hD, hu, hk⟩ := run_underlying_T hT ht w
    cases D <;> first | (simp [dOk] at hk; done) | skip
    simp only [dOk, Bool.and_eq_true, beq_iff_eq] at hk
    obtain ⟨rfl, rfl⟩ := hk
    cases hix
    cases hx with
    | agg hl hr hc =>
      rename_i vs
      split at h
      · rename_i hb
        simp only [Option.bind_eq_some_iff] at h
        obtain ⟨ie, hie, hp⟩ := h
        obtain ⟨u, hu', hv⟩ := run_part_T hT hie (cs := cs) (vs := vs) ⟨by simpa using hl, fun i a u ha hu => hr i a u ha (by simpa using hu), hc⟩ hp w
        exact ⟨u, by simp [Instr.index, asIntOf, hD, hb, run_sizeOf_T hT hie, hu'], hv⟩
      · cases h
  · rename_i s k i ht
    obtain ⟨D, hD, hu, hk⟩ := run_underlying_T hT ht w
    cases D <;> first | (simp [dOk] at hk; done) | skip
    cases hix
    cases hx
    split at h
    · rename_i hb
      simp only [Option.map_eq_some_iff] at h
      obtain ⟨c, hc, rfl⟩ := h
      refine ⟨.int .u8 c.toNat, ?_, .int _ _⟩
      have : s[i.toNat]? = some c := by
        have hlt := (Array.getElem?_eq_some_iff.1 hc).1
        have hlt' : i.toNat < s.size := hlt
        rw [getElem?_pos s i.toNat hlt']
        have := (Array.getElem?_eq_some_iff.1 hc).2
        exact congrArg some this
      simp [Instr.index, asIntOf, hD, hb, this]
    · cases h
  · cases h
theorem aFieldAddr_run {Γ : Gh} {t : TypeId} {p v : AV} {p' : Value} {f : Nat} (h : aFieldAddr T t p f = some v) (hp : VRel Γ p p') (w : World) :
    ∃ u, (Instr.fieldAt t p' f).run P w = .ok u w ∧ VRel Γ v u := by
  unfold aFieldAddr at h
  split at h
  · rename_i fs ht
    obtain ⟨D, hD, hu, hk⟩ := run_underlying_T hT ht w
    cases D <;> first | (simp [dOk] at hk; done) | skip
    rename_i fields
    have hk' : (fields.toList.map fun f => (f.offset, f.type, f.name != "_")) = fs := by simpa [dOk] using hk
    subst hk'
    simp only [Option.bind_eq_some_iff] at h
    obtain ⟨⟨off, ft, nm⟩, hf, i, hi, h⟩ := h
    rw [List.getElem?_map] at hf
    cases hff : fields.toList[f]? with
    | none => rw [hff] at hf; cases hf
    | some F =>
      rw [hff] at hf
      simp only [Option.map_some, Option.some.injEq, Prod.mk.injEq] at hf
      obtain ⟨rfl, rfl, _⟩ := hf
      have hff' : fields[f]? = some F := by simpa using hff
      split at h
      · cases h
      · rename_i hs
        split at h
        · cases h
          cases hp with
          | ptr hrow =>
            rename_i o v' off n b
            exact ⟨.pointer (some ⟨b, off + F.offset, none⟩), by simp [Instr.fieldAt, hD, hff', Instr.sureAddr, fieldPlace, run_sizeOf_T hT hi, hs, addr_add], .ptr hrow⟩
        · cases h
          cases hp with
          | pim gs hl him hv hc =>
            rename_i cs b off
            refine ⟨.pointer (some ⟨b, off + F.offset, none⟩), by simp [Instr.fieldAt, hD, hff', Instr.sureAddr, fieldPlace, run_sizeOf_T hT hi, hs, addr_add],
              .pim (gs.drop F.offset) (by simp [hl]) (fun j v hj => ?_) (fun j a u ha hu => ?_) (fun v hv' => hc v (List.mem_of_mem_drop hv'))⟩
            · rw [List.getElem?_drop] at hj; rw [Nat.add_assoc]; exact him _ v hj
            · rw [List.getElem?_drop] at ha hu; exact hv _ a u ha hu
        · cases h
  · cases h
omit hT in
theorem flat_get {gs : List Value} {sz : Nat} (hsz : ∀ u ∈ gs, u.cells.size = sz) : ∀ (i : Nat) (g : Value), gs[i]? = some g → ∀ (j : Nat) (v : Value), g.cells[j]? = some v →
    (gs.flatMap fun u => u.cells.toList)[i * sz + j]? = some v := by
  induction gs with
  | nil => intro i g h; simp at h
  | cons a gs ih =>
    intro i g h j v hv
    have ha : a.cells.size = sz := hsz a (by simp)
    cases i with
    | zero =>
      simp only [List.getElem?_cons_zero, Option.some.injEq] at h
      subst h
      have hj : j < a.cells.size := (Array.getElem?_eq_some_iff.1 hv).1
      rw [List.flatMap_cons, Nat.zero_mul, Nat.zero_add, List.getElem?_append_left (by simpa using hj)]
      simpa using hv
    | succ i =>
      rw [List.getElem?_cons_succ] at h
      have := ih (fun u hu => hsz u (by simp [hu])) i g h j v hv
      rw [List.flatMap_cons, List.getElem?_append_right (by simp [ha]; rw [Nat.succ_mul]; omega)]
      rw [show (i + 1) * sz + j - a.cells.toList.length = i * sz + j by simp [ha, Nat.succ_mul]; omega]
      exact this
omit hT in
theorem flat_len {gs : List Value} {sz : Nat} (hsz : ∀ u ∈ gs, u.cells.size = sz) : (gs.flatMap fun u => u.cells.toList).length = gs.length * sz := by
  induction gs with
  | nil => simp
  | cons a gs ih =>
    rw [List.flatMap_cons, List.length_append, ih (fun u hu => hsz u (by simp [hu])), List.length_cons, Nat.succ_mul]
    have := hsz a (by simp)
    simp [this, Nat.add_comm]
omit hT in
theorem flat_drop {gs : List Value} {sz : Nat} (hsz : ∀ u ∈ gs, u.cells.size = sz) : ∀ n, ((gs.drop n).flatMap fun u => u.cells.toList) = (gs.flatMap fun u => u.cells.toList).drop (n * sz) := by
  induction gs with
  | nil => intro n; simp
  | cons a gs ih =>
    intro n
    cases n with
    | zero => simp
    | succ n =>
      have ha := hsz a (by simp)
      rw [List.drop_succ_cons, ih (fun u hu => hsz u (by simp [hu])), List.flatMap_cons, Nat.succ_mul, List.drop_append]
      have : a.cells.toList.drop (n * sz + sz) = [] := by apply List.drop_eq_nil_of_le; simp [ha]
      rw [this, List.nil_append]
      congr 1
      simp [ha]
theorem aIndexAddr_run {Γ : Gh} {t : TypeId} {x ix v : AV} {x' ix' : Value} (h : aIndexAddr T t x ix = some v) (hx : VRel Γ x x') (hix : VRel Γ ix ix') (w : World) :
    ∃ u, (Instr.indexAt t x' ix').run P w = .ok u w ∧ VRel Γ v u := by
  unfold aIndexAddr at h
  split at h
  · rename_i n e o ver a k i ht
    obtain ⟨D, hD, hu, hk⟩ := run_underlying_T hT ht w
    cases D <;> first | (simp [dOk] at hk; done) | skip
    simp only [dOk, Bool.and_eq_true, beq_iff_eq] at hk
    obtain ⟨rfl, rfl⟩ := hk
    cases hix
    cases hx with
    | ptr hrow =>
      rename_i n' b
      split at h
      · rename_i hb
        simp only [Option.map_eq_some_iff] at h
        obtain ⟨ie, hie, rfl⟩ := h
        exact ⟨.pointer (some ⟨b, a + i.toNat * ie.size, none⟩), by simp [Instr.indexAt, asIntOf, hD, hb, Instr.sureAddr, run_sizeOf_T hT hie, addr_add], .ptr hrow⟩
      · cases h
  · rename_i n e cs k i ht
    obtain ⟨D, hD, hu, hk⟩ := run_underlying_T hT ht w
    cases D <;> first | (simp [dOk] at hk; done) | skip
    simp only [dOk, Bool.and_eq_true, beq_iff_eq] at hk
    obtain ⟨rfl, rfl⟩ := hk
    cases hix
    cases hx with
    | pim gs hl him hv hc =>
      rename_i b off
      split at h
      · rename_i hb
        simp only [Option.map_eq_some_iff] at h
        obtain ⟨ie, hie, rfl⟩ := h
        refine ⟨.pointer (some ⟨b, off + i.toNat * ie.size, none⟩), by simp [Instr.indexAt, asIntOf, hD, hb, Instr.sureAddr, run_sizeOf_T hT hie, addr_add],
          .pim (gs.drop (i.toNat * ie.size)) (by simp [hl]) (fun j v hj => ?_) (fun j a u ha hu => ?_) (fun v hv' => hc v (List.mem_of_mem_drop hv'))⟩
        · rw [List.getElem?_drop] at hj; rw [Nat.add_assoc]; exact him _ v hj
        · rw [List.getElem?_drop] at ha hu; exact hv _ a u ha hu
      · cases h
  · rename_i e tk xs k i ht
    obtain ⟨D, hD, hu, hk⟩ := run_underlying_T hT ht w
    cases D <;> first | (simp [dOk] at hk; done) | skip
    simp only [dOk, beq_iff_eq] at hk
    subst hk
    cases hix
    cases hx with
    | sl gs sz hl hlen hsz him hv hc hcap htk hsp =>
      rename_i b off len cap sp
      split at h
      · rename_i hi0
        simp only [Option.bind_eq_some_iff] at h
        obtain ⟨ie, hie, x, hx, cs, hcs, h⟩ := h
        obtain rfl : sp = none := hsp.resolve_right fun e => by rw [e.1] at hx; simp at hx
        split at h
        · rename_i hcl
          cases h
          have hlt : i.toNat < xs.length := (List.getElem?_eq_some_iff.1 hx).1
          have hg : gs[i.toNat]? = some gs[i.toNat] := List.getElem?_eq_getElem (by rw [hl]; exact hlt)
          have hmem : gs[i.toNat]'(by rw [hl]; exact hlt) ∈ gs := List.getElem_mem _
          have hcr := cells_rel (hv _ _ _ hx hg) hcs
          have hsz' : sz = ie.size := by
            have h1 := hsz _ hmem
            have h2 := hcr.len
            simp at h2
            omega
          subst hlen
          have hb : 0 ≤ i ∧ i < (xs.length : Int) := by omega
          refine ⟨.pointer (some ⟨b, off + i.toNat * ie.size, none⟩), by simp [Instr.indexAt, asIntOf, hD, hb, run_sizeOf_T hT hie, addr_add],
            .pim _ hcr.len (fun j v hj => ?_) hcr.rel hcr.cell⟩
          have := flat_get hsz i.toNat _ hg j v (by simpa using hj)
          rw [hsz'] at this
          rw [Nat.add_assoc]
          exact him _ v this
        · cases h
      · cases h
  · rename_i e o ver off len sz k i ht
    obtain ⟨D, hD, hu, hk⟩ := run_underlying_T hT ht w
    cases D <;> first | (simp [dOk] at hk; done) | skip
    simp only [dOk, beq_iff_eq] at hk
    subst hk
    cases hix
    cases hx with
    | ms hrow h1 h0 hcap =>
      rename_i b aoff cap n
      split at h
      · rename_i hb
        simp only [Option.bind_eq_some_iff] at h
        obtain ⟨ie, hie, h⟩ := h
        split at h
        · rename_i hs
          cases h
          obtain rfl := h1 (by omega)
          exact ⟨.pointer (some ⟨b, aoff + i.toNat * ie.size, none⟩), by simp [Instr.indexAt, asIntOf, hD, hb, run_sizeOf_T hT hie, addr_add], by rw [hs]; exact .ptr hrow⟩
        · cases h
      · cases h
  · cases h
omit hT in
theorem aBounds_run {Γ : Gh} {isSlice : Bool} {n c : Nat} (hc : n ≤ c) {lo hi : Option AV} {lo' hi' : Option Value} {l h : Nat} (hb : aBounds n lo hi = some (l, h))
    (hlo : lo.isSome = lo'.isSome) (hhi : hi.isSome = hi'.isSome) (rlo : ∀ a v, lo = some a → lo' = some v → VRel Γ a v) (rhi : ∀ a v, hi = some a → hi' = some v → VRel Γ a v) (w : World) :
    (Instr.sliceBounds isSlice n c lo' hi' none).run P w = .ok (l, h, c) w ∧ l ≤ h ∧ h ≤ n := by
  unfold aBounds at hb
  simp only [Option.bind_eq_some_iff] at hb
  obtain ⟨h', hh, l', hl, he⟩ := hb
  simp only [Option.some.injEq, Prod.mk.injEq] at he
  obtain ⟨rfl, rfl⟩ := he
  have hH : h' ≤ n ∧ ((match hi' with | some v => (Instr.sliceBound v c (if isSlice then .sliceAcap else .sliceAlen) : Sem Nat) | none => pure n).run P w = .ok h' w) := by
    cases hi with
    | none =>
      cases hi' with
      | none => cases hh; exact ⟨Nat.le_refl _, rfl⟩
      | some v => cases hhi
    | some a =>
      cases hi' with
      | none => cases hhi
      | some v =>
        have := rhi a v rfl rfl
        cases a <;> simp only [] at hh <;> first | (cases hh; done) | skip
        cases this
        split at hh
        · rename_i k i hb
          cases hh
          have hc' : i ≤ (c : Int) := by omega
          exact ⟨by omega, by simp [Instr.sliceBound, asIntOf, hb.1, hc']⟩
        · cases hh
  have hL : l' ≤ h' ∧ ((match lo' with | some v => (Instr.sliceBound v h' .sliceB : Sem Nat) | none => pure 0).run P w = .ok l' w) := by
    cases lo with
    | none =>
      cases lo' with
      | none => cases hl; exact ⟨Nat.zero_le _, rfl⟩
      | some v => cases hlo
    | some a =>
      cases lo' with
      | none => cases hlo
      | some v =>
        have := rlo a v rfl rfl
        cases a <;> simp only [] at hl <;> first | (cases hl; done) | skip
        cases this
        split at hl
        · rename_i hb
          cases hl
          exact ⟨by omega, by simp [Instr.sliceBound, asIntOf, hb.1, hb.2]⟩
        · cases hl
  refine ⟨?_, hL.1, hH.1⟩
  unfold Instr.sliceBounds
  cases hi' with
  | none =>
    cases lo' with
    | none =>
      have h1 := hH.2; have h2 := hL.2
      simp only [Sem.run_pure, Result.ok.injEq, and_true] at h1 h2
      subst h1; subst h2
      rfl
    | some v =>
      have h1 := hH.2; have h2 := hL.2
      simp only [Sem.run_pure, Result.ok.injEq, and_true] at h1
      subst h1
      simp only [Sem.run_bind, Sem.run_pure, Result.andThen_ok, Option.isSome_none, Bool.false_eq_true, if_false]
      simp only [] at h2
      rw [h2]
      rfl
  | some u =>
    have h1 := hH.2; have h2 := hL.2
    simp only [] at h1
    cases lo' with
    | none =>
      simp only [Sem.run_pure, Result.ok.injEq, and_true] at h2
      subst h2
      simp only [Sem.run_bind, Sem.run_pure, Result.andThen_ok, h1]
    | some v =>
      simp only [] at h2
      simp only [Sem.run_bind, Sem.run_pure, Result.andThen_ok, h1, Option.isSome_none, Bool.false_eq_true, if_false, h2]
omit hT in
theorem sized_get {size : Nat} : ∀ {xs : List AV}, sized size xs = true → ∀ {i : Nat} {x : AV}, xs[i]? = some x → ∃ c, x.cells? = some c ∧ c.length = size
  | [], _, i, x, h => by simp at h
  | y :: xs, h, i, x, hx => by
    simp only [sized, Bool.and_eq_true] at h
    cases i with
    | zero =>
      simp only [List.getElem?_cons_zero, Option.some.injEq] at hx
      subst hx
      cases hc : y.cells? with
      | none => rw [hc] at h; simp at h
      | some c => rw [hc] at h; exact ⟨c, rfl, by simpa using h.1⟩
    | succ i => exact sized_get h.2 (by simpa using hx)
omit hT in
theorem sized_cells {Γ : Gh} {size : Nat} {xs : List AV} {gs : List Value} (hs : sized size xs = true) (hl : gs.length = xs.length)
    (hv : ∀ (j : Nat) a u, xs[j]? = some a → gs[j]? = some u → VRel Γ a u) : ∀ u ∈ gs, u.cells.size = size := by
  intro u hu
  obtain ⟨j, hj, rfl⟩ := List.getElem_of_mem hu
  have hx : xs[j]? = some (xs[j]'(by rw [← hl]; exact hj)) := List.getElem?_eq_getElem _
  obtain ⟨c, hc, hcl⟩ := sized_get hs hx
  have := (cells_rel (hv j _ _ hx (List.getElem?_eq_getElem hj)) hc).len
  simp at this
  omega
theorem aSlice_run {Γ : Gh} {t : TypeId} {x v : AV} {lo hi mx : Option AV} {x' : Value} {lo' hi' mx' : Option Value} (h : aSlice T t x lo hi mx = some v) (hx : VRel Γ x x')
    (hlo : lo.isSome = lo'.isSome) (hhi : hi.isSome = hi'.isSome) (hmx : mx.isSome = mx'.isSome) (rlo : ∀ a v, lo = some a → lo' = some v → VRel Γ a v) (rhi : ∀ a v, hi = some a → hi' = some v → VRel Γ a v) (w : World) :
    ∃ u, (Instr.sliceAt t x' lo' hi' mx').run P w = .ok u w ∧ VRel Γ v u := by
  unfold aSlice at h
  split at h
  · rename_i s ht
    obtain ⟨D, hD, hu, hk⟩ := run_underlying_T hT ht w
    cases D <;> first | (simp [dOk] at hk; done) | skip
    cases mx' with
    | some _ => cases hmx
    | none =>
      cases hx
      simp only [Option.map_eq_some_iff] at h
      obtain ⟨⟨l, hh⟩, hb, rfl⟩ := h
      obtain ⟨hr, h1, h2⟩ := aBounds_run (isSlice := false) (Nat.le_refl _) hb hlo hhi rlo rhi w (P := P)
      exact ⟨_, by simp [Instr.sliceAt, Instr.slice, hD, hr], .str _⟩
  · rename_i e ht
    obtain ⟨D, hD, hu, hk⟩ := run_underlying_T hT ht w
    cases D <;> first | (simp [dOk] at hk; done) | skip
    cases mx' with
    | some _ => cases hmx
    | none =>
      cases hx
      simp only [Option.bind_eq_some_iff, Option.map_eq_some_iff] at h
      obtain ⟨ie, hie, ⟨l, hh⟩, hb, rfl⟩ := h
      obtain ⟨hr, h1, h2⟩ := aBounds_run (isSlice := true) (Nat.le_refl 0) hb hlo hhi rlo rhi w (P := P)
      obtain rfl : hh = 0 := by omega
      obtain rfl : l = 0 := by omega
      simp only [dOk, beq_iff_eq] at hk
      subst hk
      have hs := run_sizeOf_T hT hie w
      exact ⟨_, by simp only [Instr.sliceAt, Instr.slice, Sem.run_bind, hD, Result.andThen_ok, hr, hs, Sem.run_pure, Option.map_none, if_true], .nils⟩
  · rename_i e tk xs ht
    obtain ⟨D, hD, hu, hk⟩ := run_underlying_T hT ht w
    cases D <;> first | (simp [dOk] at hk; done) | skip
    simp only [dOk, beq_iff_eq] at hk
    subst hk
    cases mx' with
    | some _ => cases hmx
    | none =>
      cases hx with
      | sl gs sz hl hlen hsz him hv hc hcap htk hsp =>
        rename_i b off len cap sp
        simp only [Option.bind_eq_some_iff] at h
        obtain ⟨ie, hie, ⟨l, hh⟩, hb, h⟩ := h
        split at h
        · rename_i hs
          cases h
          subst hlen
          obtain ⟨hr, h1, h2⟩ := aBounds_run (isSlice := true) hcap hb hlo hhi rlo rhi w (P := P)
          by_cases hsn : sp = none
          case neg =>
            obtain ⟨hxs, htf⟩ := hsp.resolve_left hsn
            subst hxs
            subst htf
            obtain rfl : hh = 0 := by simpa using h2
            obtain rfl : l = 0 := by omega
            have hrun : (Instr.sliceAt t (.slice (some ⟨b, off, sp⟩) ([] : List AV).length cap) lo' hi' none).run P w = .ok (.slice (some ⟨b, off, sp⟩) 0 cap) w := by
              simp only [Instr.sliceAt, Instr.slice, Sem.run_bind, hD, Result.andThen_ok, hr, run_sizeOf_T hT hie, Sem.run_pure, Option.map_some]
              unfold Addr.add
              simp
            refine ⟨_, hrun, ?_⟩
            simp only [List.length_nil, if_true, true_or, List.drop_nil, List.take_nil]
            have hg : gs = [] := List.eq_nil_of_length_eq_zero (by simpa using hl)
            subst hg
            exact .sl [] sz rfl rfl (by simp) (by simp) (by simp) (by simp) (by omega) htk (.inr ⟨rfl, rfl⟩)
          subst hsn
          have hrun : (Instr.sliceAt t (.slice (some ⟨b, off, none⟩) xs.length cap) lo' hi' none).run P w =
              .ok (.slice (some ⟨b, if cap = l then off else off + l * ie.size, none⟩) (hh - l) (cap - l)) w := by
            simp only [Instr.sliceAt, Instr.slice, Sem.run_bind, hD, Result.andThen_ok, hr, run_sizeOf_T hT hie, Sem.run_pure, Option.map_some, addr_add]
            split <;> rfl
          refine ⟨_, hrun, ?_⟩
          refine .sl ((gs.drop l).take (hh - l)) sz (by simp [hl]) (by simp [Nat.min_eq_left (show hh - l ≤ xs.length - l by omega)]) (fun u hu => hsz u (List.mem_of_mem_drop (List.mem_of_mem_take hu))) ?_ ?_ ?_ (by omega) ?_ (.inl rfl)
          · intro j v hj
            have hpos : 0 < hh - l := by
              rcases Nat.eq_zero_or_pos (hh - l) with h0 | h0
              · rw [h0] at hj; simp at hj
              · exact h0
            have hlt : l < gs.length := by omega
            have hj' : ((gs.drop l).flatMap fun u => u.cells.toList)[j]? = some v := by
              rw [← List.take_append_drop (hh - l) (gs.drop l), List.flatMap_append, List.getElem?_append_left (List.getElem?_eq_some_iff.1 hj).1]
              exact hj
            rw [flat_drop hsz, List.getElem?_drop] at hj'
            have hcl : cap ≠ l := by omega
            rw [if_neg hcl]
            have := him _ v hj'
            have he : l * sz = l * ie.size := by
              rcases hs with h0 | hs
              · have h0' : l = 0 := h0
                rw [h0']; simp
              · have h1 := hsz _ (List.getElem_mem hlt)
                have h2 := sized_cells hs hl hv _ (List.getElem_mem hlt)
                rw [← h1, h2]
            rw [he] at this
            rw [Nat.add_assoc]
            exact this
          · intro j a u ha hu
            rw [List.getElem?_take] at ha hu
            split at ha
            · rename_i hjl
              rw [if_pos hjl] at hu
              rw [List.getElem?_drop] at ha hu
              exact hv _ a u ha hu
            · cases ha
          · intro u hu
            obtain ⟨g, hg, hu⟩ := List.mem_flatMap.1 hu
            exact hc u (List.mem_flatMap.2 ⟨g, List.mem_of_mem_drop (List.mem_of_mem_take hg), hu⟩)
          · split
            · rename_i hhx
              split
              · rename_i h3
                rcases h3 with h3 | h3
                · obtain rfl : l = 0 := h3
                  have e1 : (if cap = 0 then off else off + 0 * ie.size) = off := by split <;> simp
                  have hhx' : hh = xs.length := hhx
                  rw [e1, Nat.sub_zero, Nat.sub_zero, hhx']
                  exact htk
                · have hhx' : hh = xs.length := hhx
                  cases tk with
                  | full =>
                    have : cap = xs.length := htk
                    show cap - l = hh - l
                    omega
                  | lit =>
                    have : cap = xs.length := htk.1
                    exact ⟨by show cap - l = hh - l; omega, htk.2⟩
                  | _ => simp [Tk.norm] at h3
              · trivial
            · trivial
        · cases h
  · rename_i e o ver off len sz ht
    obtain ⟨D, hD, hu, hk⟩ := run_underlying_T hT ht w
    cases D <;> first | (simp [dOk] at hk; done) | skip
    simp only [dOk, beq_iff_eq] at hk
    subst hk
    cases mx' with
    | some _ => cases hmx
    | none =>
      cases hx with
      | ms hrow q1 q0 hcap =>
        rename_i b aoff cap n
        simp only [Option.bind_eq_some_iff] at h
        obtain ⟨ie, hie, ⟨l, hh⟩, hb, h⟩ := h
        split at h
        · rename_i hs
          cases h
          obtain ⟨hr, h1, h2⟩ := aBounds_run (isSlice := true) hcap hb hlo hhi rlo rhi w (P := P)
          have hrun : (Instr.sliceAt t (.slice (some ⟨b, aoff, none⟩) len cap) lo' hi' none).run P w =
              .ok (.slice (some ⟨b, if cap = l then aoff else aoff + l * ie.size, none⟩) (hh - l) (cap - l)) w := by
            simp only [Instr.sliceAt, Instr.slice, Sem.run_bind, hD, Result.andThen_ok, hr, run_sizeOf_T hT hie, Sem.run_pure, Option.map_some, addr_add]
            split <;> rfl
          refine ⟨_, hrun, .ms hrow (fun h3 => ?_) (fun h3 => ?_) (by omega)⟩
          · rw [if_neg (by omega), q1 (by omega), hs]
          · have h4 : off = 0 := Nat.eq_zero_of_add_eq_zero_right h3
            have h5 : l * sz = 0 := Nat.eq_zero_of_add_eq_zero_left h3
            obtain ⟨rfl, q⟩ := q0 h4
            rw [hs, h5]
            refine ⟨by split <;> rfl, ?_⟩
            rw [Nat.sub_mul, h5, Nat.sub_zero]
            exact q
        · cases h
  · cases h
end
end Go.AM
