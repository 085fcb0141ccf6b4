/-
  Building, asserting, looking up, converting: operations that change nothing.
-/
import Derived.Test.YtpffgljpkehgmaaAMPure2
import Derived.Laws.BytesArg
set_option linter.unusedVariables false
set_option linter.unusedSimpArgs false
namespace Go.AM
open Go
set_option linter.unusedSimpArgs false
set_option linter.unusedVariables false
theorem foldl_set (off : Nat) : ∀ (vs : List Value) (k : Nat) (cs : Array Value), off + k + vs.length ≤ cs.size →
    ((vs.zipIdx k).foldl (fun cs (p : Value × Nat) => cs.setIfInBounds (off + p.2) p.1) cs).toList = cs.toList.take (off + k) ++ vs ++ cs.toList.drop (off + k + vs.length)
  | [], k, cs, h => by simp
  | v :: vs, k, cs, h => by
    simp only [List.length_cons] at h
    simp only [List.zipIdx_cons, List.foldl_cons]
    have := foldl_set off vs (k + 1) (cs.setIfInBounds (off + k) v) (by simp; omega)
    rw [this]
    apply List.ext_getElem?
    intro i
    simp only [Array.toList_setIfInBounds, List.length_cons, List.append_assoc, List.getElem?_append, List.length_take, List.length_set, Array.length_toList, List.getElem?_take, List.getElem?_set, List.getElem?_drop, List.length_append]
    rcases Nat.lt_trichotomy i (off + k) with hi | hi | hi
    · have e1 : i < off + (k + 1) := by omega
      have e2 : i < min (off + (k + 1)) cs.size := by omega
      have e3 : i < min (off + k) cs.size := by omega
      have e4 : ¬ off + k = i := by omega
      simp [e1, e2, e3, hi, e4]
    · subst hi
      have e2 : off + k < min (off + (k + 1)) cs.size := by omega
      have e3 : ¬ off + k < min (off + k) cs.size := by omega
      have e5 : off + k - min (off + k) cs.size = 0 := by omega
      have e6 : off + k < cs.size := by omega
      simp [e2, e3, e5, e6]
    · have e2 : ¬ i < min (off + (k + 1)) cs.size := by omega
      have e3 : ¬ i < min (off + k) cs.size := by omega
      have e4 : ¬ off + k = i := by omega
      obtain ⟨j, rfl⟩ : ∃ j, i = off + k + 1 + j := ⟨i - (off + k + 1), by omega⟩
      have e5 : off + k + 1 + j - min (off + (k + 1)) cs.size = j := by omega
      have e6 : off + k + 1 + j - min (off + k) cs.size = j + 1 := by omega
      simp only [e2, e3, if_false, e5, e6, List.getElem?_cons_succ, List.length_cons]
      by_cases hj : j < vs.length
      · have e7 : j + 1 < vs.length + 1 := by omega
        simp [hj, e7]
      · have e7 : ¬ j + 1 < vs.length + 1 := by omega
        simp only [hj, e7, if_false]
        have e8 : ¬ off + k = off + (k + 1) + vs.length + (j - vs.length) := by omega
        rw [if_neg e8]
        congr 1
        omega
theorem zipIdx_foldl (off : Nat) (v : Value) (cs : Array Value) (h : off + v.cells.size ≤ cs.size) :
    (v.cells.zipIdx.foldl (fun cs (p : Value × Nat) => cs.setIfInBounds (off + p.2) p.1) cs).toList = cs.toList.take off ++ v.cells.toList ++ cs.toList.drop (off + v.cells.size) := by
  rw [← Array.foldl_toList, Array.toList_zipIdx]
  have := foldl_set off v.cells.toList 0 cs (by simpa using h)
  simpa using this
/-- laying cells in place -/
theorem CRel.splice {Γ : Gh} {cs vs cs' : List AV} {us ws : List Value} (h : CRel Γ cs us) (k : CRel Γ vs ws) {off : Nat} (hp : putCells cs off vs = some cs') :
    CRel Γ cs' (us.take off ++ ws ++ us.drop (off + ws.length)) ∧ cs'.length = cs.length := by
  unfold putCells at hp
  split at hp
  · rename_i hle
    cases hp
    unfold AM.splice
    refine ⟨((h.take off).append k).append ?_, by simp; omega⟩
    rw [k.len]
    exact h.drop _
  · cases hp
section
variable {P : Program} {T : TypeId → Option AT} (hT : TOk P T)
theorem fill_run {Γ : Gh} {place : Nat → Option (Nat × Nat)} : ∀ (ps : List (Nat × AV)) (qs : List (Nat × Value)) (cs cs' : List AV) (us : Array Value), CRel Γ cs us.toList →
    qs.map (·.1) = ps.map (·.1) → (∀ (j : Nat) a u, ps[j]? = some a → qs[j]? = some u → VRel Γ a.2 u.2) → aBuildParts place ps cs = some cs' →
    ∃ us', Instr.fill place us qs = some us' ∧ CRel Γ cs' us'.toList
  | [], qs, cs, cs', us, hr, hm, hv, h => by
    cases qs with
    | nil => cases h; exact ⟨us, rfl, hr⟩
    | cons q qs => simp at hm
  | (i, v) :: ps, qs, cs, cs', us, hr, hm, hv, h => by
    cases qs with
    | nil => simp at hm
    | cons q qs =>
      obtain ⟨i', u⟩ := q
      simp only [List.map_cons, List.cons.injEq] at hm
      obtain ⟨rfl, hm⟩ := hm
      simp only [aBuildParts, Option.bind_eq_some_iff] at h
      obtain ⟨⟨off, size⟩, hp, vs, hvs, h⟩ := h
      split at h
      · rename_i hsz
        simp only [Option.bind_eq_some_iff] at h
        obtain ⟨cs1, hput, h⟩ := h
        have hc := cells_rel (hv 0 (i', v) (i', u) rfl rfl) hvs
        have hlen := hc.len
        simp only [Array.length_toList] at hlen
        have hput' := hput
        unfold putCells at hput'
        split at hput'
        · rename_i hle
          have hul := hr.len
          simp only [Array.length_toList] at hul
          have hle' : off + u.cells.size ≤ us.size := by omega
          have hsz' : u.cells.size = size := by omega
          have key := zipIdx_foldl off u us hle'
          have hr1 := (hr.splice hc hput).1
          simp only [Array.length_toList] at hr1
          rw [← key] at hr1
          obtain ⟨us', h1, h2⟩ := fill_run ps qs cs1 cs' _ hr1 hm (fun j a u ha hu => hv (j + 1) a u (by simpa using ha) (by simpa using hu)) h
          refine ⟨us', ?_, h2⟩
          simp only [Instr.fill, hp]
          rw [if_neg]
          · exact h1
          · simp only [Bool.or_eq_true, decide_eq_true_eq, bne_iff_ne, ne_eq, not_or, Decidable.not_not]
            exact ⟨hsz', by omega⟩
        · cases hput'
      · cases h
include hT
theorem run_places {w : World} : ∀ (fs : List Field), (∀ f ∈ fs, ∃ i, T f.type = some i) →
    (fs.mapM (m := Sem) fun f => do pure (f.offset, ← sizeOf f.type)).run P w = .ok (fs.map fun f => (f.offset, ((T f.type).map AT.size).getD 0)) w
  | [], _ => by simp
  | f :: fs, h => by
    obtain ⟨i, hi⟩ := h f (by simp)
    simp only [List.mapM_cons, Sem.run_bind, run_sizeOf_T hT hi, Result.andThen_ok, Sem.run_pure, run_places fs (fun f hf => h f (by simp [hf])), List.map_cons, hi, Option.map_some, Option.getD_some]
theorem aBuild_run {Γ : Gh} {t : TypeId} {ps : List (Nat × AV)} {qs : Array (Nat × Value)} {v : AV} (h : aBuild T t ps = some v) (hm : qs.toList.map (·.1) = ps.map (·.1))
    (hv : ∀ (j : Nat) a u, ps[j]? = some a → qs.toList[j]? = some u → VRel Γ a.2 u.2) (w : World) : ∃ u, (Instr.build t qs).run P w = .ok u w ∧ VRel Γ v u := by
  unfold aBuild at h
  simp only [Option.bind_eq_some_iff] at h
  obtain ⟨i, hi, z, hz, h⟩ := h
  obtain ⟨zv, hzr, hzv, hzo⟩ := run_zero_T hT Γ hi w
  have hzc := cells_rel hzv hz
  have hD0 : aD T t = some i.d := by simp [aD, hi]
  obtain ⟨D, hD, hu, hk⟩ := run_underlying_T hT hD0 w
  split at h
  · rename_i fs hd
    rw [hd] at hk
    cases D <;> first | (simp [dOk] at hk; done) | skip
    rename_i fields
    have hk' : (fields.toList.map fun f => (f.offset, f.type, f.name != "_")) = fs := by simpa [dOk] using hk
    subst hk'
    split at h
    · rename_i hall
      simp only [Option.map_eq_some_iff] at h
      obtain ⟨cs, hcs, rfl⟩ := h
      have hall' : ∀ f ∈ fields.toList, ∃ i, T f.type = some i := by
        intro f hf
        simp only [List.all_map, List.all_eq_true] at hall
        have := hall f hf
        exact Option.isSome_iff_exists.1 (by simpa using this)
      have hpl := run_places hT (w := w) fields.toList hall'
      obtain ⟨us', hf, hr⟩ := fill_run (Γ := Γ) (place := fun j => (fields.toList.map fun f => (f.offset, ((T f.type).map AT.size).getD 0)).toArray[j]?) ps qs.toList z cs zv.cells hzc hm hv (by
        rw [← hcs]
        congr 1
        funext j
        simp only [List.getElem?_toArray, List.getElem?_map, Option.map_map]
        rfl)
      refine ⟨.agg us', ?_, .agg (by simpa using hr.len) (fun j a u ha hu => hr.rel j a u ha (by simpa using hu)) hr.cell⟩
      simp only [Instr.build, Sem.run_bind, hzr, hD, Result.andThen_ok, Array.mapM_eq_mapM_toList, Sem.run_map, hpl, hf, Sem.run_pure]
    · cases h
  · rename_i n e hd
    rw [hd] at hk
    cases D <;> first | (simp [dOk] at hk; done) | skip
    simp only [dOk, Bool.and_eq_true, beq_iff_eq] at hk
    obtain ⟨rfl, rfl⟩ := hk
    simp only [Option.bind_eq_some_iff, Option.map_eq_some_iff] at h
    obtain ⟨ie, hie, cs, hcs, rfl⟩ := h
    obtain ⟨us', hf, hr⟩ := fill_run (Γ := Γ) ps qs.toList z cs zv.cells hzc hm hv hcs
    refine ⟨.agg us', ?_, .agg (by simpa using hr.len) (fun j a u ha hu => hr.rel j a u ha (by simpa using hu)) hr.cell⟩
    simp only [Instr.build, Sem.run_bind, hzr, hD, Result.andThen_ok, run_sizeOf_T hT hie, hf, Sem.run_pure]
  · cases h
theorem aTypeAssert_run {Γ : Gh} {x v : AV} {x' : Value} {xt t : TypeId} {ok : Bool} (h : aTypeAssert T x t ok = some v) (hx : VRel Γ x x') (w : World) :
    ∃ u, (Instr.typeAssert x' xt t ok).run P w = .ok u w ∧ VRel Γ v u := by
  unfold aTypeAssert at h
  simp only [Option.bind_eq_some_iff] at h
  obtain ⟨i, hi, h⟩ := h
  have hD0 : aD T t = some i.d := by simp [aD, hi]
  obtain ⟨D, hD, hu, hk⟩ := run_underlying_T hT hD0 w
  obtain ⟨z, hz, hzv, _⟩ := run_zero_T hT Γ hi w
  have two : ∀ {a : AV} {b : Value} (c : Bool), VRel Γ a b → VRel Γ (.tup [a, .bool c]) (.tuple #[b, .bool c]) := fun {a b} c hab => by
    refine .tup rfl (fun j y u hy hu => ?_)
    match j, hy, hu with
    | 0, hy, hu => cases hy; cases hu; exact hab
    | 1, hy, hu => cases hy; cases hu; exact .bool c
    | j + 2, hy, _ => simp at hy
  have nif : (∀ b, i.d ≠ .iface b) → ∀ ms, D ≠ .interface ms := fun hne ms e => by
    subst e
    cases hd : i.d <;> rw [hd] at hk <;> simp [dOk] at hk
    exact hne _ hd
  split at h
  · cases h
  · rename_i a b hnif
    have hne := nif (fun b hb => hnif b hb)
    cases hx with
    | iface hr =>
      rename_i t' y u
      split at h
      · rename_i he
        subst he
        cases ok
        · cases h
          refine ⟨u, ?_, hr⟩
          simp only [Instr.typeAssert, Sem.run_bind, hD, Result.andThen_ok]
          cases D <;> first | (exact absurd rfl (hne _)) | simp
        · cases h
          refine ⟨_, ?_, two true hr⟩
          simp only [Instr.typeAssert, Sem.run_bind, hD, Result.andThen_ok]
          cases D <;> first | (exact absurd rfl (hne _)) | simp
      · rename_i he
        split at h
        · rename_i ho
          cases h
          refine ⟨_, ?_, two false hzv⟩
          simp only [Instr.typeAssert, Sem.run_bind, hD, Result.andThen_ok]
          cases D <;> first | (exact absurd rfl (hne _)) | simp [he, ho, hz]
        · cases h
  · rename_i a hnif
    have hne := nif (fun b hb => hnif b hb)
    cases hx with
    | nili =>
      split at h
      · rename_i ho
        cases h
        refine ⟨_, ?_, two false hzv⟩
        simp only [Instr.typeAssert, Sem.run_bind, hD, Result.andThen_ok]
        cases D <;> first | (exact absurd rfl (hne _)) | simp [ho, hz]
      · cases h
  · cases h
theorem aMakeInterface_run {Γ : Gh} {x : AV} {x' : Value} {t : TypeId} {d : AD} (h : aD T t = some d) (hd : ∀ b, d ≠ .iface b) (hx : VRel Γ x x') (w : World) :
    ∃ u, (Instr.makeInterface t x').run P w = .ok u w ∧ VRel Γ (.iface t x) u := by
  obtain ⟨D, hD, hu, hk⟩ := run_underlying_T hT h w
  refine ⟨.iface t x', ?_, .iface hx⟩
  simp only [Instr.makeInterface, Sem.run_bind, hD, Result.andThen_ok]
  cases D <;> first | rfl | skip
  cases d <;> simp [dOk] at hk
  exact absurd rfl (hd _)
omit hT in
theorem aMin_run {Γ : Gh} {w : World} : ∀ (r : List AV) (r' : List Value) (x v : AV) (x' : Value), aMin x r = some v → VRel Γ x x' → r.length = r'.length → (∀ (j : Nat) a u, r[j]? = some a → r'[j]? = some u → VRel Γ a u) →
    ∃ u, (r'.foldlM (m := Sem) Builtin.min2 x').run P w = .ok u w ∧ VRel Γ v u
  | [], r', x, v, x', h, hx, hl, _ => by
    cases r' with
    | nil => simp only [aMin, Option.some.injEq] at h; subst h; exact ⟨x', rfl, hx⟩
    | cons => simp at hl
  | y :: r, r', x, v, x', h, hx, hl, hr => by
    cases r' with
    | nil => simp at hl
    | cons y' r' =>
      unfold aMin at h
      split at h
      · rename_i heq; cases heq
      · rename_i k a k' b r2 heq
        cases heq
        split at h
        · rename_i hk
          subst hk
          have hy := hr 0 _ _ rfl rfl
          cases hx; cases hy
          obtain ⟨u, hu, hv⟩ := aMin_run r r' _ v (.int k (if b < a then b else a)) h (.int _ _) (by simpa using hl) (fun j a u ha hu => hr (j + 1) a u (by simpa using ha) (by simpa using hu))
          exact ⟨u, by simpa [List.foldlM_cons, Builtin.min2] using hu, hv⟩
        · cases h
      · cases h
omit hT in
theorem aMax_run {Γ : Gh} {w : World} : ∀ (r : List AV) (r' : List Value) (x v : AV) (x' : Value), aMax x r = some v → VRel Γ x x' → r.length = r'.length → (∀ (j : Nat) a u, r[j]? = some a → r'[j]? = some u → VRel Γ a u) →
    ∃ u, (r'.foldlM (m := Sem) Builtin.max2 x').run P w = .ok u w ∧ VRel Γ v u
  | [], r', x, v, x', h, hx, hl, _ => by
    cases r' with
    | nil => simp only [aMax, Option.some.injEq] at h; subst h; exact ⟨x', rfl, hx⟩
    | cons => simp at hl
  | y :: r, r', x, v, x', h, hx, hl, hr => by
    cases r' with
    | nil => simp at hl
    | cons y' r' =>
      unfold aMax at h
      split at h
      · rename_i heq; cases heq
      · rename_i k a k' b r2 heq
        cases heq
        split at h
        · rename_i hk
          subst hk
          have hy := hr 0 _ _ rfl rfl
          cases hx; cases hy
          obtain ⟨u, hu, hv⟩ := aMax_run r r' _ v (.int k (if a < b then b else a)) h (.int _ _) (by simpa using hl) (fun j a u ha hu => hr (j + 1) a u (by simpa using ha) (by simpa using hu))
          exact ⟨u, by simpa [List.foldlM_cons, Builtin.max2] using hu, hv⟩
        · cases h
      · cases h
theorem aLen_run {Γ : Gh} {m : Mem} {w : World} (hr : Rel Γ m w) {t ty : TypeId} {x v : AV} {x' : Value} (h : aLen T m t x = some v) (hx : VRel Γ x x') :
    ∃ u, (Builtin.len_ #[t] ty #[x']).run P w = .ok u w ∧ VRel Γ v u := by
  unfold aLen at h
  split at h
  · rename_i s ht
    obtain ⟨D, hD, hu, hk⟩ := run_underlying_T hT ht w
    cases D <;> first | (simp [dOk] at hk; done) | skip
    cases hx; cases h
    exact ⟨_, by simp [Builtin.len_, hD, goInt], .int _ _⟩
  · rename_i n e ht
    obtain ⟨D, hD, hu, hk⟩ := run_underlying_T hT ht w
    cases D <;> first | (simp [dOk] at hk; done) | skip
    simp only [dOk, Bool.and_eq_true, beq_iff_eq] at hk
    obtain ⟨rfl, rfl⟩ := hk
    cases h
    exact ⟨_, by simp [Builtin.len_, hD, goInt], .int _ _⟩
  · rename_i e ht
    obtain ⟨D, hD, hu, hk⟩ := run_underlying_T hT ht w
    cases D <;> first | (simp [dOk] at hk; done) | skip
    cases hx; cases h
    exact ⟨_, by simp [Builtin.len_, hD, goInt], .int _ _⟩
  · rename_i e tk xs ht
    obtain ⟨D, hD, hu, hk⟩ := run_underlying_T hT ht w
    cases D <;> first | (simp [dOk] at hk; done) | skip
    cases hx with
    | sl gs sz hl hlen => cases h; subst hlen; exact ⟨_, by simp [Builtin.len_, hD, goInt], .int _ _⟩
  · rename_i ht
    obtain ⟨D, hD, hu, hk⟩ := run_underlying_T hT ht w
    cases D <;> first | (simp [dOk] at hk; done) | skip
    cases hx; cases h
    exact ⟨_, by simp [Builtin.len_, hD, goInt], .int _ _⟩
  · rename_i ht
    obtain ⟨D, hD, hu, hk⟩ := run_underlying_T hT ht w
    cases D <;> first | (simp [dOk] at hk; done) | skip
    cases hx; cases h
    exact ⟨_, by simp [Builtin.len_, hD, goInt], .int _ _⟩
  · rename_i k e o ht
    obtain ⟨D, hD, hu, hk⟩ := run_underlying_T hT ht w
    cases D <;> first | (simp [dOk] at hk; done) | skip
    cases hx with
    | map hb =>
      rename_i b
      split at h
      · rename_i es ho
        cases h
        obtain ⟨b', entries, clock, hb', hh, hsz, _⟩ := hr.objs o _ ho
        obtain rfl := hr.maps b b' o hb hb'
        have hg : (getObj b).run P w = .ok (.map entries clock) w := by simp [getObj, Sem.run, hh]
        exact ⟨_, by simp [Builtin.len_, hD, hg, hsz, goInt], .int _ _⟩
      · cases h
  · cases h
omit hT in
theorem fitKey_rel {Γ : Gh} {D : TypeDesc} {d : AD} {k : AV} {k' : Value} (hk : dOk D d = true) (hf : fitKey d k = true) (hr : VRel Γ k k') :
    (∃ K n, D = .int K ∧ k = .int K n ∧ k' = .int K n) ∨ (∃ s, D = .string ∧ k = .str s ∧ k' = .string s) ∨ (∃ b, D = .bool ∧ k = .bool b ∧ k' = .bool b) := by
  unfold fitKey at hf
  split at hf
  · rename_i K K' n
    have : K = K' := by simpa using hf
    subst this
    cases hr
    cases D <;> simp [dOk] at hk
    subst hk
    exact .inl ⟨_, _, rfl, rfl, rfl⟩
  · cases hr
    cases D <;> simp [dOk] at hk
    exact .inr (.inl ⟨_, rfl, rfl, rfl⟩)
  · cases hr
    cases D <;> simp [dOk] at hk
    exact .inr (.inr ⟨_, rfl, rfl, rfl⟩)
  · cases hf
omit hT in
theorem checkKey_run {Γ : Gh} {w : World} {t : TypeId} {D : TypeDesc} {d : AD} {k : AV} {k' : Value} {em : Bool} (hD : (underlying t).run P w = .ok D w) (hk : dOk D d = true) (hf : fitKey d k = true) (hr : VRel Γ k k') :
    (Instr.checkKey em 10000 t k').run P w = .ok () w := by
  show (Instr.checkKey em (9999 + 1) t k').run P w = .ok () w
  rcases fitKey_rel hk hf hr with ⟨K, n, rfl, rfl, rfl⟩ | ⟨s, rfl, rfl, rfl⟩ | ⟨b, rfl, rfl, rfl⟩ <;>
    (unfold Instr.checkKey; simp only [Sem.run_bind, hD, Result.andThen_ok]; rfl)
omit hT in
theorem findNow_run {Γ : Gh} {D : TypeDesc} {d : AD} {k : AV} {k' : Value} (hk : dOk D d = true) (hf : fitKey d k = true) (hr : VRel Γ k k') :
    ∀ (es : List (AV × AV)) (xs : List MapEntry) (n : Nat) r, es.length = xs.length → (∀ (i : Nat) a v x, es[i]? = some (a, v) → xs[i]? = some x → VRel Γ a x.key ∧ VRel Γ v x.val) →
      mapFind k es n = some r → ∃ r', Instr.findNow D k' xs n = some r' ∧ (r = none → r' = none) ∧ (∀ i v, r = some (i, v) → ∃ u x, r' = some (i, u) ∧ VRel Γ v u ∧ n ≤ i ∧ i - n < xs.length ∧ es[i - n]? = some (x, v) ∧ keyEq k x = some true)
  | [], xs, n, r, hl, hx, h => by
    cases xs with
    | nil => simp only [mapFind, Option.some.injEq] at h; subst h; exact ⟨none, rfl, fun _ => rfl, fun i v h => by cases h⟩
    | cons => simp at hl
  | (a, v) :: es, xs, n, r, hl, hx, h => by
    cases xs with
    | nil => simp at hl
    | cons x xs =>
      obtain ⟨hak, hav⟩ := hx 0 a v x rfl rfl
      simp only [mapFind, Option.bind_eq_some_iff] at h
      obtain ⟨b, hb, h⟩ := h
      have hs : Instr.sameNow D k' x.key = some b := by
        rcases fitKey_rel hk hf hr with ⟨K, m, rfl, rfl, rfl⟩ | ⟨s, rfl, rfl, rfl⟩ | ⟨c, rfl, rfl, rfl⟩
        · cases a <;> simp [keyEq] at hb
          generalize x.key = y at *
          cases hak
          obtain ⟨hkk, rfl⟩ := hb
          simp [Instr.sameNow, hkk]
        · cases a <;> simp [keyEq] at hb
          generalize x.key = y at *
          cases hak
          subst hb
          simp [Instr.sameNow]
        · cases a <;> simp [keyEq] at hb
          generalize x.key = y at *
          cases hak
          subst hb
          simp [Instr.sameNow]
      simp only [Instr.findNow, hs]
      cases b with
      | true =>
        simp only [if_true, Option.some.injEq] at h
        subst h
        refine ⟨some (n, x.val), rfl, (fun h => by cases h), (fun i u h => ?_)⟩
        cases h
        exact ⟨x.val, a, rfl, hav, Nat.le_refl _, by simp, by simp, hb⟩
      | false =>
        simp only [Bool.false_eq_true, if_false] at h
        obtain ⟨r', h1, h2, h3⟩ := findNow_run hk hf hr es xs (n + 1) r (by simpa using hl) (fun i a v x ha hu => hx (i + 1) a v x (by simpa using ha) (by simpa using hu)) h
        refine ⟨r', h1, h2, fun i v hi => ?_⟩
        obtain ⟨u, y, e1, e2, e3, e4, e5, e6⟩ := h3 i v hi
        refine ⟨u, y, e1, e2, by omega, by simp; omega, ?_, e6⟩
        rw [show i - n = (i - (n + 1)) + 1 by omega, List.getElem?_cons_succ]
        exact e5
theorem aLookup_run {Γ : Gh} {m : Mem} {w : World} (hr : Rel Γ m w) {t : TypeId} {x k v : AV} {x' k' : Value} {ok : Bool} (h : aLookup T m t x k ok = some v) (hx : VRel Γ x x') (hkr : VRel Γ k k') :
    ∃ u, (Instr.lookup t x' k' ok).run P w = .ok u w ∧ VRel Γ v u := by
  unfold aLookup at h
  split at h
  · rename_i kt et ht
    obtain ⟨D, hD, hu, hk⟩ := run_underlying_T hT ht w
    cases D <;> first | (simp [dOk] at hk; done) | skip
    rename_i K E
    simp only [dOk, Bool.and_eq_true, beq_iff_eq] at hk
    obtain ⟨rfl, rfl⟩ := hk
    simp only [Option.bind_eq_some_iff] at h
    obtain ⟨ik, hik, ie, hie, h⟩ := h
    split at h
    · cases h
    · rename_i hf
      have hf : fitKey ik.d k = true := by simpa using hf
      simp only [Option.bind_eq_some_iff, Option.map_eq_some_iff] at h
      obtain ⟨es, hes, r, hfind, rfl⟩ := h
      obtain ⟨DK, hDK, huK, hkK⟩ := run_underlying_T hT (t := K) (d := ik.d) (by simp [aD, hik]) w
      obtain ⟨z, hz, hzv, _⟩ := run_zero_T hT Γ hie w
      have two : ∀ {a : AV} {b : Value} (c : Bool), VRel Γ a b → VRel Γ (.tup [a, .bool c]) (.tuple #[b, .bool c]) := fun {a b} c hab => by
        refine .tup rfl (fun j y u hy hu => ?_)
        match j, hy, hu with
        | 0, hy, hu => cases hy; cases hu; exact hab
        | 1, hy, hu => cases hy; cases hu; exact .bool c
        | j + 2, hy, _ => simp at hy
      have tail : ∀ (xs : Array MapEntry), es.length = xs.toList.length → (∀ (i : Nat) a v x, es[i]? = some (a, v) → xs.toList[i]? = some x → VRel Γ a x.key ∧ VRel Γ v x.val) →
          ∃ u, (do
            Instr.checkKey xs.isEmpty 10000 K k'
            let __do_lift ← Instr.findKey K k' xs.toList
            match __do_lift with
              | some (fst, v) => do
                let __x ← pure (v, true)
                pure (if ok = true then Value.tuple #[__x.fst, Value.bool __x.snd] else __x.fst)
              | none => do
                let __do_lift ← zeroValue E
                let __x ← pure (__do_lift, false)
                pure (if ok = true then Value.tuple #[__x.fst, Value.bool __x.snd] else __x.fst) : Sem Value).run P w = .ok u w ∧ VRel Γ (found ok ie.zero r) u := by
        intro xs hxl hxp
        obtain ⟨r', hr1, hr2, hr3⟩ := findNow_run hkK hf hkr es xs.toList 0 r hxl hxp hfind
        have hfk : (Instr.findKey K k' xs.toList).run P w = .ok r' w := by simp [Instr.findKey, hDK, hr1]
        rw [Sem.run_bind, checkKey_run hDK hkK hf hkr, Result.andThen_ok, Sem.run_bind, hfk, Result.andThen_ok]
        cases r with
        | none =>
          obtain rfl := hr2 rfl
          simp only [Sem.run_bind, hz, Result.andThen_ok, Sem.run_pure]
          cases ok
          · exact ⟨_, rfl, hzv⟩
          · exact ⟨_, rfl, two false hzv⟩
        | some p =>
          obtain ⟨i, v⟩ := p
          obtain ⟨u, y, rfl, huv, _⟩ := hr3 i v rfl
          simp only [Sem.run_bind, Result.andThen_ok, Sem.run_pure]
          cases ok
          · exact ⟨_, rfl, huv⟩
          · exact ⟨_, rfl, two true huv⟩
      unfold mapEntries at hes
      split at hes
      · cases hx; cases hes
        obtain ⟨u, h1, h2⟩ := tail #[] rfl (fun i a v x h => by simp at h)
        refine ⟨u, ?_, h2⟩
        unfold Instr.lookup
        rw [Sem.run_bind, hD]
        simp only [Result.andThen_ok]
        exact h1
      · cases hx with
        | map hb =>
          rename_i o b
          split at hes
          · rename_i es' ho
            cases hes
            obtain ⟨b', entries, clock, hb', hh, hsz, hpt⟩ := hr.objs o _ ho
            obtain rfl := hr.maps b b' o hb hb'
            have hg : (getObj b).run P w = .ok (.map entries clock) w := by simp [getObj, Sem.run, hh]
            obtain ⟨u, h1, h2⟩ := tail entries (by simp [hsz]) (fun i a v x ha hx => hpt i a v x ha (by simpa using hx))
            refine ⟨u, ?_, h2⟩
            unfold Instr.lookup
            rw [Sem.run_bind, hD]
            simp only [Result.andThen_ok]
            rw [Sem.run_bind, hg]
            simp only [Result.andThen_ok]
            exact h1
          · cases hes
      · cases hes
  · cases h
omit hT in
theorem bytesOf_spec : ∀ {xs : List AV} {l : List UInt8}, bytesOf? xs = some l → ∃ ns : List Int, xs = ns.map (AV.int .u8) ∧ l = ns.map fun n => UInt8.ofNat n.toNat
  | [], l, h => by cases h; exact ⟨[], rfl, rfl⟩
  | x :: xs, l, h => by
    simp only [bytesOf?, Option.bind_eq_some_iff, Option.map_eq_some_iff] at h
    obtain ⟨b, hb, l', hl, rfl⟩ := h
    obtain ⟨ns, rfl, rfl⟩ := bytesOf_spec hl
    unfold asByte at hb
    split at hb
    · rename_i n
      cases hb
      exact ⟨n :: ns, rfl, rfl⟩
    · cases hb
omit hT in
theorem flat_ints (k : IntKind) : ∀ (ns : List Int), ((ns.map (Value.int k)).flatMap fun u => u.cells.toList) = ns.map (Value.int k)
  | [] => rfl
  | n :: ns => by simp only [List.map_cons, List.flatMap_cons, flat_ints k ns]; rfl
def convMakes : AV → AD → Bool
  | .str _, .slice _ => true
  | _, _ => false
theorem aConv_run {Γ : Gh} {m : Mem} {w : World} (hr : Rel Γ m w) {src dst : TypeId} {x v : AV} {x' : Value} (h : aConv T src dst x = some v) (hx : VRel Γ x x')
    (hn : ∀ d, aD T dst = some d → convMakes x d = false) : ∃ u, (convert src dst x').run P w = .ok u w ∧ VRel Γ v u := by
  unfold aConv at h
  split at h
  · rename_i d k k0 n hs hd
    obtain ⟨E, hE, huE, hkE⟩ := run_underlying_T hT hs w
    obtain ⟨D, hD, hu, hk⟩ := run_underlying_T hT hd w
    cases D <;> first | (simp [dOk] at hk; done) | skip
    simp only [dOk, beq_iff_eq] at hk
    subst hk
    cases hx; cases h
    exact ⟨_, by simp [convert, hE, hD, Conv.intToInt], .int _ _⟩
  · rename_i d s hs hd
    obtain ⟨E, hE, huE, hkE⟩ := run_underlying_T hT hs w
    obtain ⟨D, hD, hu, hk⟩ := run_underlying_T hT hd w
    cases D <;> first | (simp [dOk] at hk; done) | skip
    cases hx; cases h
    refine ⟨.string s, ?_, .str s⟩
    simp only [convert, Sem.run_bind, hE, hD, Result.andThen_ok]
    cases E <;> rfl
  · rename_i e s hs hd
    exact absurd (hn _ hd) (by simp [convMakes])
  · rename_i e hs hd
    obtain ⟨E, hE, huE, hkE⟩ := run_underlying_T hT hs w
    obtain ⟨D, hD, hu, hk⟩ := run_underlying_T hT hd w
    cases D <;> first | (simp [dOk] at hk; done) | skip
    cases E <;> first | (simp [dOk] at hkE; done) | skip
    simp only [dOk, beq_iff_eq] at hkE
    subst hkE
    split at h
    · rename_i he
      obtain ⟨F, hF, huF, hkF⟩ := run_underlying_T hT he w
      cases F <;> first | (simp [dOk] at hkF; done) | skip
      simp only [dOk, beq_iff_eq] at hkF
      subst hkF
      cases hx; cases h
      exact ⟨_, by simp [convert, hE, hD, hF, Conv.bytesToString], .str _⟩
    · cases h
  · rename_i e tk xs hs hd
    obtain ⟨E, hE, huE, hkE⟩ := run_underlying_T hT hs w
    obtain ⟨D, hD, hu, hk⟩ := run_underlying_T hT hd w
    cases D <;> first | (simp [dOk] at hk; done) | skip
    cases E <;> first | (simp [dOk] at hkE; done) | skip
    simp only [dOk, beq_iff_eq] at hkE
    subst hkE
    split at h
    · rename_i he
      obtain ⟨F, hF, huF, hkF⟩ := run_underlying_T hT he w
      cases F <;> first | (simp [dOk] at hkF; done) | skip
      simp only [dOk, beq_iff_eq] at hkF
      subst hkF
      simp only [Option.map_eq_some_iff] at h
      obtain ⟨l, hl, rfl⟩ := h
      obtain ⟨ns, rfl, rfl⟩ := bytesOf_spec hl
      cases hx with
      | sl gs sz hgl hlen hsz him hv hc hcap htk hsp =>
        rename_i b off len cap sp
        have hgs : gs = ns.map (Value.int .u8) := by
          apply List.ext_getElem?
          intro j
          by_cases hj : j < gs.length
          · have hj' : j < ns.length := by simpa [hgl] using hj
            have hg : gs[j]? = some gs[j] := List.getElem?_eq_getElem hj
            have := hv j (.int .u8 ns[j]) gs[j] (by simp [hj']) hg
            rw [hg]
            generalize gs[j] = g at *
            cases this
            simp [hj']
          · have hj' : ¬ j < ns.length := by simpa [hgl] using hj
            simp [List.getElem?_eq_none (Nat.le_of_not_lt hj), List.getElem?_eq_none (Nat.le_of_not_lt hj')]
        have hfl : (gs.flatMap fun u => u.cells.toList) = ns.map (Value.int .u8) := by
          rw [hgs]
          exact flat_ints _ _
        have hload := run_loadCells_list (P := P) w ⟨b, off, sp⟩ (ns.map (Value.int .u8)) (fun j u hu => by
          rcases hsp with rfl | ⟨he, _⟩
          · rw [addr_add]
            rw [← hfl] at hu
            exact cell_im hr (him j u hu)
          · simp only [List.map_eq_nil_iff] at he
            rw [he] at hu; simp at hu)
        have hln : (ns.map (Value.int .u8)).length = len := by rw [hlen]; simp
        rw [hln] at hload
        refine ⟨_, ?_, .str _⟩
        rw [run_convert_bytes_string w src dst _ _ _ _ huE huF hu, run_bytesToString w ⟨b, off, sp⟩ len cap ns hload, foldl_push_bytes]
        simp
    · cases h
  · cases h
end
end Go.AM
