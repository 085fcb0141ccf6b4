/-
  Making slices, freezing, maps, bytes of strings.
-/
import Derived.Test.YtpffgljpkehgmaaAMMem3
import Derived.Laws.MakeOwn
set_option linter.unusedVariables false
set_option linter.unusedSimpArgs false
namespace Go.AM
open Go
set_option linter.unusedSimpArgs false
set_option linter.unusedVariables false
theorem bytes_beq {a b : ByteArray} (h : (a == b) = true) : a = b := by
  rw [beq_toListBytes, ByteArray.toList_eq, ByteArray.toList_eq] at h
  obtain ⟨⟨a⟩⟩ := a
  obtain ⟨⟨b⟩⟩ := b
  have := eq_of_beq h
  simp only at this
  rw [this]
theorem repl_rel {Γ : Gh} {zc : List AV} {us : List Value} (h : CRel Γ zc us) : ∀ n, CRel Γ (repl n zc) (List.replicate n us).flatten
  | 0 => .nil Γ
  | n + 1 => by
    have e1 : repl (n + 1) zc = zc ++ repl n zc := by simp [repl, List.replicate_succ]
    have e2 : (List.replicate (n + 1) us).flatten = us ++ (List.replicate n us).flatten := by simp [List.replicate_succ]
    rw [e1, e2]
    exact h.append (repl_rel h n)
theorem flatten_take {us : List Value} : ∀ (l c : Nat), l ≤ c → ((List.replicate c us).flatten).take (l * us.length) = (List.replicate l us).flatten := by
  intro l c h
  obtain ⟨k, rfl⟩ : ∃ k, c = l + k := ⟨c - l, by omega⟩
  rw [← List.replicate_append_replicate, List.flatten_append, List.take_append_of_le_length (by simp), List.take_of_length_le (by simp)]
section
variable {P : Program} {T : TypeId → Option AT} (hT : TOk P T)
include hT
theorem aMakeSlice_run {Γ : Gh} {m m' : Mem} {w : World} (hr : Rel Γ m w) {t : TypeId} {l c v : AV} {l' c' : Value} {md : Nat} (h : aMakeSlice T md m t l c = some (v, m')) (hl : VRel Γ l l') (hc : VRel Γ c c') (hf : Fresh Γ m.next m'.next) :
    OpPost P Γ m w (Instr.makeSlice t l' c') v m' := by
  unfold aMakeSlice at h
  split at h
  · rename_i e l c ht
    obtain ⟨D, hD, hu, hk⟩ := run_underlying_T hT ht w
    cases D <;> first | (simp [dOk] at hk; done) | skip
    simp only [dOk, beq_iff_eq] at hk
    subst hk
    cases hl; cases hc
    simp only [Option.bind_eq_some_iff] at h
    obtain ⟨ie, hie, zc, hzc, h⟩ := h
    obtain ⟨inf, z, hi, hsz, hby, h3, hz, hza, hzo⟩ := (hT _ ie hie).info
    have hzv : VRel Γ ie.zero z := hza ▸ absC_rel Γ z (.inl hzo)
    have hzr := cells_rel hzv hzc
    split at h
    · rename_i hb
      obtain ⟨h0, hlc, hb1, hb2, hs0, hzl⟩ := hb
      have hzs : z.cells.size = ie.size := by have := hzr.len; simp at this; omega
      have hrun := run_make (P := P) w t _ inf z hu hi hz .i64 .i64 l c h0 hlc (by rw [hby]; omega) (by omega)
      have hcs : (madeCells z.cells (c.toNat * inf.size)).size = c.toNat * ie.size := by rw [size_madeCells, hsz]
      have hlist : (madeCells z.cells (c.toNat * inf.size)).toList = (List.replicate c.toNat z.cells.toList).flatten := by
        unfold madeCells
        rw [hsz, ← hzs]
        exact range_mod z.cells c.toNat (by omega)
      split at h
      · split at h
        · rename_i hl0
          cases h
          subst hl0
          obtain ⟨Γ', hp, him, htk⟩ := post_tok hr (w' := w.alloc (.cells (madeCells z.cells (c.toNat * inf.size)) _)) [] (fun i v h => by simp at h) (tip := 0) (cap := c.toNat) (sz := ie.size) (by simp) hcs (Nat.zero_le _) (Nat.pos_of_ne_zero hs0) hf rfl rfl rfl rfl
          exact ⟨_, _, Γ', hrun, .sl [] ie.size rfl rfl (fun u h => by simp at h) (fun j v h => by simp at h) (fun j a u h => by simp at h) (fun v h => by simp at h) (Nat.zero_le _) ⟨_, _, _, htk, Nat.le_refl _, fun _ => ⟨rfl, rfl, rfl⟩⟩ (.inl rfl), hp⟩
        · cases h
          have hgf : ((List.replicate l.toNat z).flatMap fun u => u.cells.toList) = (List.replicate l.toNat z.cells.toList).flatten := flat_replicate z l.toNat
          obtain ⟨Γ', hp, him⟩ := post_imm hr (w' := w.alloc (.cells (madeCells z.cells (c.toNat * inf.size)) _)) rfl rfl rfl rfl ((List.replicate l.toNat z).flatMap fun u => u.cells.toList) (fun i v hv => by
            rw [← Array.getElem?_toList, hlist]
            rw [hgf, ← flatten_take l.toNat c.toNat (by omega), List.getElem?_take] at hv
            split at hv
            · exact hv
            · cases hv)
          refine ⟨_, _, Γ', hrun, .sl (List.replicate l.toNat z) ie.size (by simp) (by simp) (fun u hu => by rw [(List.mem_replicate.1 hu).2]; exact hzs) him (fun j a u ha hu => ?_) (fun v hv => ?_) (by omega) trivial (.inl rfl), hp⟩
          · have e1 := (List.mem_replicate.1 (List.mem_of_getElem? ha)).2
            have e2 := (List.mem_replicate.1 (List.mem_of_getElem? hu)).2
            rw [e1, e2]; exact hzv.mono hp.le
          · obtain ⟨u, hu, hv⟩ := List.mem_flatMap.1 hv
            rw [(List.mem_replicate.1 hu).2] at hv
            exact hzr.cell v hv
      · cases h
        have hrl : (repl l.toNat zc).length = l.toNat * ie.size := by simp [repl, hzl]
        obtain ⟨Γ', hp, hrole⟩ := post_row hr (cs := repl l.toNat zc) (c := madeCells z.cells (c.toNat * inf.size)) (w' := w.alloc (.cells (madeCells z.cells (c.toNat * inf.size)) _)) (by
            rw [hlist, hrl]
            have := flatten_take (us := z.cells.toList) l.toNat c.toNat (by omega)
            rw [Array.length_toList, hzs] at this
            rw [this]
            exact repl_rel hzr l.toNat) (by rw [hrl, hcs]; exact Nat.mul_le_mul_right _ (by omega)) hf rfl rfl rfl rfl
        exact ⟨_, _, Γ', hrun, .ms (.inl ⟨0, 0, hrole, Nat.le_refl _, Nat.le_refl _⟩) (fun _ => rfl) (fun _ => ⟨rfl, hcs.symm⟩) (by omega), hp⟩
    · cases h
  · cases h
theorem aRowSlice_run {Γ : Gh} {m m' : Mem} {w : World} (hr : Rel Γ m w) {t : TypeId} {len : Nat} {ps : List (Nat × AV)} {qs : Array (Nat × Value)} {v : AV} (h : aRowSlice T m t len ps = some (v, m')) (hm : qs.toList.map (·.1) = ps.map (·.1))
    (hv : ∀ (j : Nat) a u, ps[j]? = some a → qs.toList[j]? = some u → VRel Γ a.2 u.2) (hf : Fresh Γ m.next m'.next) : OpPost P Γ m w (Instr.buildSlice t len qs) v m' := by
  unfold aRowSlice at h
  split at h
  · rename_i e ht
    obtain ⟨D, hD, hu, hk⟩ := run_underlying_T hT ht w
    cases D <;> first | (simp [dOk] at hk; done) | skip
    rename_i E
    simp only [dOk, beq_iff_eq] at hk
    subst hk
    simp only [Option.bind_eq_some_iff] at h
    obtain ⟨ie, hie, h⟩ := h
    split at h
    · cases h
    · rename_i hb
      simp only [not_or, Nat.not_lt, Bool.not_eq_false] at hb
      obtain ⟨hb1, hb2, hb3⟩ := hb
      simp only [Option.bind_eq_some_iff, Option.map_eq_some_iff] at h
      obtain ⟨xs', hxs, zs, hzs, h⟩ := h
      cases h
      obtain ⟨z, hz, hzv, hzo⟩ := run_zero_T hT Γ hie w
      obtain ⟨zc, hzc, hzl⟩ := sized_get hb3 (i := 0) rfl
      have hzr := cells_rel hzv hzc
      have hzs2 : z.cells.size = ie.size := by have := hzr.len; simp at this; omega
      obtain ⟨gs', h1, h2, h3, h4, h5⟩ := parts_rel (size := ie.size) ps qs.toList (List.replicate len ie.zero) xs' (List.replicate len z) (by simp) (fun j a u ha hu => by
          have := (List.mem_replicate.1 (List.mem_of_getElem? ha)).2
          have := (List.mem_replicate.1 (List.mem_of_getElem? hu)).2
          subst_vars; exact hzv) (fun u hu => by
          have := (List.mem_replicate.1 hu).2
          subst this; exact ⟨hzs2, hzr.cell⟩) hm hv hxs
      simp only [List.length_replicate] at h2
      let zero : Array Value := if len * ie.size = 0 then #[] else z.cells
      have hcells : ((Array.range (len * ie.size)).map (fun i => zero[i % zero.size]!)).toList = (List.replicate len z).flatMap (fun u => u.cells.toList) := by
        rw [flat_replicate]
        by_cases h0 : len * ie.size = 0
        · have : len = 0 := by rcases Nat.mul_eq_zero.1 h0 with h | h; exact h; exact absurd h hb2
          subst this
          simp
        · have : zero = z.cells := by simp [zero, h0]
          rw [this, ← hzs2]
          exact range_mod z.cells len (by omega)
      obtain ⟨cells', h6, h7⟩ := h5 _ hcells
      have hrun : (Instr.buildSlice t len qs).run P w = .ok (.slice (some ⟨w.heap.size, 0, none⟩) len len) { w with heap := w.heap.push (.cells cells' E (0, 0)) } := by
        unfold Instr.buildSlice
        simp only [Sem.run_bind, hD, Result.andThen_ok, run_sizeOf_T hT hie]
        rw [if_neg (by omega)]
        by_cases h0 : len * ie.size = 0
        · have hz0 : zero = #[] := by simp [zero, h0]
          rw [hz0] at h6
          rw [if_pos h0]
          simp only [Sem.run_bind, Sem.run_pure, Result.andThen_ok, h6, newRow, run_newObj]
        · have hz0 : zero = z.cells := by simp [zero, h0]
          rw [hz0] at h6
          rw [if_neg h0]
          simp only [Sem.run_bind, hz, Sem.run_pure, Result.andThen_ok, h6, newRow, run_newObj]
      have hzr2 := flat_rel hzs h1 h3
      rw [← h7] at hzr2
      have hl1 := hzr2.len
      have hl2 : cells'.size = len * ie.size := by
        have e2 := flat_len (gs := gs') (sz := ie.size) fun u hu => (h4 u hu).1
        rw [← h7, h1, h2] at e2
        simpa using e2
      obtain ⟨Γ', hp, hrole⟩ := post_row hr (cs := zs) (c := cells') (w' := { w with heap := w.heap.push (.cells cells' E (0, 0)) }) (by rw [List.take_of_length_le (by omega)]; exact hzr2) (by simp at hl1; omega) hf rfl rfl rfl rfl
      exact ⟨_, _, Γ', hrun, .ms (.inl ⟨0, 0, hrole, Nat.le_refl _, Nat.le_refl _⟩) (fun _ => rfl) (fun _ => ⟨rfl, hl2.symm⟩) (Nat.le_refl _), hp⟩
  · cases h
omit hT in
theorem aFreeze_run {Γ : Gh} {m m' : Mem} {w : World} (hr : Rel Γ m w) {t : TypeId} {x v : AV} {x' : Value} (h : aFreeze T m t x = some (v, m')) (hx : VRel Γ x x') : ∃ Γ', VRel Γ' v x' ∧ Post Γ m w Γ' m' w := by
  unfold aFreeze at h
  split at h
  · rename_i e o ver off len sz ht
    simp only [Option.bind_eq_some_iff] at h
    obtain ⟨ie, hie, h⟩ := h
    split at h
    · cases h
    · rename_i hc
      simp only [not_or, Decidable.not_not] at hc
      obtain ⟨rfl, hs0, hag⟩ := hc
      have hsz2 : ie.d.isAgg = true ∨ ie.size = 1 := by
        cases ha : ie.d.isAgg with
        | true => exact .inl rfl
        | false => rw [ha] at hag; right; simpa using hag
      cases hx with
      | ms hrow q1 q0 hcap =>
        rename_i b aoff cap n
        have fin : ∀ (Γ' : Gh) (cs : List AV) (us : List Value), Γ.le Γ' → CRel Γ cs us → off + len * ie.size ≤ cs.length → (∀ (j : Nat) v, us[j]? = some v → im Γ' b j = some v) →
            VRel Γ' (.sl .foreign (group ie.d.isAgg ie.size len (cs.drop off))) (.slice (some ⟨b, aoff, none⟩) len cap) := by
          intro Γ' cs us hle hrel hfit him
          obtain ⟨i1, i2, i3, i4, i5⟩ := group_rel hsz2 len (cs.drop off) (us.drop off) (hrel.drop off) (by simp; omega)
          refine .sl (groupV ie.d.isAgg ie.size len (us.drop off)) ie.size (by rw [i1, i2]) i2.symm (fun u hu => (i4 u hu).1) (fun j v hj => ?_) (fun j a u ha hu => (i3 j a u ha hu).mono hle) (fun v hv => ?_) hcap trivial (.inl rfl)
          · have hl0 : 0 < len := by
              rcases Nat.eq_zero_or_pos len with h | h
              · subst h; simp [groupV] at hj
              · exact h
            rw [i5, List.getElem?_take] at hj
            split at hj
            · rw [List.getElem?_drop] at hj
              rw [q1 hl0]
              exact him _ v hj
            · cases hj
          · obtain ⟨u, hu, hv⟩ := List.mem_flatMap.1 hv
            exact (i4 u hu).2 v hv
        split at h
        · rename_i cs wv hobj
          split at h
          · rename_i hcond
            obtain ⟨rfl, hfit⟩ := hcond
            cases h
            obtain ⟨b', c, e0, lo, hrole, hlo, hheap, hle, hrel, hmax⟩ := hr.objs o _ hobj
            obtain rfl := hr.rows b b' o wv n c.size hrow (.inl ⟨lo, wv, hrole, hlo, Nat.le_refl _⟩)
            have hler : Role.le (Γ.role b) (.fix o lo wv c.size (c.toList.take cs.length)) := by rw [hrole]; exact .fix _ _ _ _ _ _ (Nat.le_refl _)
            have hle' : Γ.le ⟨fun b' => if b' = b then .fix o lo wv c.size (c.toList.take cs.length) else Γ.role b', Γ.tok⟩ := ⟨fun b' => by
              simp only
              split
              · rename_i e; subst e; exact hler
              · exact .refl _, fun t x h => ⟨x, h, .inl rfl⟩⟩
            have hkn : ∀ (i : Nat) v, (c.toList.take cs.length)[i]? = some v → c[i]? = some v := fun i v hi => by
              rw [List.getElem?_take] at hi
              split at hi
              · simpa using hi
              · cases hi
            have hp : Post Γ m w ⟨fun b' => if b' = b then .fix o lo wv c.size (c.toList.take cs.length) else Γ.role b', Γ.tok⟩ (m.set o (.fixed cs wv)) w := by
              refine post_upd (r := .fix o lo wv c.size (c.toList.take cs.length)) (b := b) (o := o) hr (by rw [hrole]; rfl) (by rw [hobj]; simp) rfl (fun b' hb' => rfl) hheap rfl rfl rfl (fun b' => rfl) hler (fun t _ => rfl) (fun x hx => ⟨x, hx, .inl rfl⟩) (fun h => h)
                (fun _ => ⟨c, e0, _, rfl, hkn⟩) (fun o' v n h => ?_) (fun v n h => ?_) ?_
              · rcases h with ⟨_, _, h, _⟩ | ⟨_, _, _, h, _⟩ <;> cases h
                exact ⟨c, e0, rfl, rfl⟩
              · rcases h with ⟨_, _, h, _⟩ | ⟨_, _, _, h, h1, h2⟩ <;> cases h
                exact .inl ⟨c.size, .inl ⟨lo, wv, hrole, h1, h2⟩⟩
              · exact ⟨b, c.size, _, lo, if_pos rfl, hlo, CRel.mono (Γ' := ⟨fun b' => if b' = b then .fix o lo wv c.size (c.toList.take cs.length) else Γ.role b', Γ.tok⟩) hle' hrel⟩
            exact ⟨_, fin _ cs _ hle' hrel hfit (fun j v hj => by simp only [im, if_true, Role.known]; exact hj), hp⟩
          · cases h
        · rename_i cs wv hobj
          split at h
          · rename_i hcond
            obtain ⟨rfl, hfit⟩ := hcond
            cases h
            obtain ⟨b', n', vs, lo, hrole, hlo, hrel⟩ := hr.objs o _ hobj
            obtain rfl := hr.rows b b' o wv n n' hrow (.inr ⟨lo, wv, vs, hrole, hlo, Nat.le_refl _⟩)
            exact ⟨Γ, fin Γ cs vs (.refl Γ) hrel hfit (fun j v hj => by simp only [im, hrole, Role.known]; exact hj), .refl hr⟩
          · cases h
        · cases h
  · cases h; exact ⟨Γ, hx, .refl hr⟩
  · cases h; exact ⟨Γ, hx, .refl hr⟩
  · cases h
omit hT in
theorem run_markStringish (P : Program) (w : World) (b off : Nat) : ∃ w' : World, (markStringish ⟨b, off, none⟩).run P w = .ok () w' ∧ w'.os = w.os ∧ w'.tape = w.tape ∧ w'.output = w.output ∧ w'.heap.size = w.heap.size ∧
    (∀ b', b' ≠ b → w'.heap[b']? = w.heap[b']?) ∧ ∀ c e fz, w.heap[b]? = some (.cells c e fz) → ∃ fz', w'.heap[b]? = some (.cells c e fz') := by
  cases hs : w.shape? b with
  | none =>
    refine ⟨w, by simp [markStringish, hs], rfl, rfl, rfl, rfl, fun _ _ => rfl, fun c e fz h => ⟨fz, h⟩⟩
  | some p =>
    obtain ⟨e0, n⟩ := p
    refine ⟨w.freeze ⟨b, n, none⟩ 1, by simp [markStringish, hs], rfl, rfl, rfl, ?_, fun b' hb' => ?_, fun c e fz h => ?_⟩
    · simp [World.freeze]
    · simp only [World.freeze]
      rw [if_neg (by decide)]
      simp only [Array.getElem?_modify]
      rw [if_neg (fun h => hb' h.symm)]
    · obtain ⟨lo, hi⟩ := fz
      refine ⟨if lo == hi then (n, n + 1) else (min lo n, max hi (n + 1)), ?_⟩
      simp only [World.freeze]
      rw [if_neg (by decide)]
      simp only [Array.getElem?_modify, if_true, h, Option.map_some]
/-- a text's row of bytes gets its mark -/
theorem aLit_run {Γ : Gh} {m : Mem} {w : World} (hr : Rel Γ m w) {t : TypeId} {x v : AV} {x' : Value} (h : aLit T t x = some v) (hx : VRel Γ x x') : OpPost P Γ m w (convert t t x') v m := by
  unfold aLit at h
  split at h
  · rename_i tk xs
    split at h
    · rename_i hc
      simp only [Bool.and_eq_true] at hc
      obtain ⟨hl, hb⟩ := hc
      cases h
      have htk : tk = .lit := by cases tk <;> simp_all [Tk.isLit]
      subst htk
      unfold isBytes at hb
      split at hb
      · rename_i e ht
        obtain ⟨D, hD, hu, hk⟩ := run_underlying_T hT ht w
        cases D <;> first | (simp [dOk] at hk; done) | skip
        simp only [dOk, beq_iff_eq] at hk
        subst hk
        cases hx with
        | sl gs sz hgl hlen hsz him hv hc hcap htk hsp =>
          rename_i E b off len cap sp
          have hu8 : aD T E = some (.int .u8) := by
            cases he : aD T E with
            | none => rw [he] at hb; cases hb
            | some d =>
              rw [he] at hb
              simp only [isU8] at hb
              unfold AD.isU8 at hb
              split at hb
              · rfl
              · cases hb
          obtain ⟨F, hF, huF, hkF⟩ := run_underlying_T hT hu8 w
          cases F <;> first | (simp [dOk] at hkF; done) | skip
          simp only [dOk, beq_iff_eq] at hkF
          subst hkF
          have hlit : ∃ cs, Γ.role b = .lit cs := by
            have h2 := htk.2
            cases hr2 : Γ.role b <;> rw [hr2] at h2 <;> simp [Role.isLit] at h2
            exact ⟨_, rfl⟩
          obtain ⟨cs, hrole⟩ := hlit
          obtain rfl : sp = none := by
            rcases hsp with h1 | ⟨_, h1⟩
            · exact h1
            · cases h1
          obtain ⟨w', hrun, hos, htape, hout, hsize, hother, hthis⟩ := run_markStringish P w b off
          refine ⟨.slice (some ⟨b, off, none⟩) len cap, w', Γ, ?_, .sl gs sz hgl hlen hsz him hv hc hcap htk (.inl rfl), .refl _, ⟨?_, ?_, ?_, hr.rows, hr.maps, ?_, hr.above⟩, ⟨by omega, hos, htape, hout, fun b' hb' hl _ => ?_⟩, ⟨fun _ _ h => .inl h, fun _ h => .inl h, fun _ _ h => h⟩, .refl _, fun _ _ _ _ => rfl, fun _ _ _ => rfl⟩
          · simp [convert, hD, hF, hrun]
          · intro b' hb'; rw [hsize]; exact hr.bound b' hb'
          · intro b' hb'
            obtain ⟨c, e, fz, h1, h2⟩ := hr.known b' hb'
            by_cases hbb : b' = b
            · subst hbb
              obtain ⟨fz', h3⟩ := hthis c e fz h1
              exact ⟨c, e, fz', h3, h2⟩
            · exact ⟨c, e, fz, by rw [hother b' hbb]; exact h1, h2⟩
          · intro b' o v n hrow
            rw [hother b' (fun e => by subst e; have := isRow_id hrow; rw [hrole] at this; cases this)]
            exact hr.cells b' o v n hrow
          · intro o x hx
            refine ORel.keep (hr.objs o x hx) (.refl _) (fun b' hb' => hother b' (fun e => by subst e; rw [hrole] at hb'; cases hb')) (fun b' v n h => h) (fun b' _ => rfl) (fun y h => h)
          · exact hother b' (fun e => by subst e; rw [hrole] at hl; cases hl)
      · cases hb
    · cases h
  · cases h
theorem aConvBytes_run {Γ : Gh} {m : Mem} {w : World} (hr : Rel Γ m w) {src dst : TypeId} {x v : AV} {x' : Value} (h : aConv T src dst x = some v) (hx : VRel Γ x x') {d : AD} (hd : aD T dst = some d) (hm : convMakes x d = true) :
    OpPost P Γ m w (convert src dst x') v m := by
  cases x <;> simp only [convMakes] at hm <;> try (cases hm; done)
  rename_i s
  cases d <;> simp only [] at hm <;> try (cases hm; done)
  rename_i e
  unfold aConv at h
  rw [hd] at h
  cases hs : aD T src with
  | none => rw [hs] at h; cases h
  | some ds =>
    rw [hs] at h
    obtain ⟨E, hE, huE, hkE⟩ := run_underlying_T hT hs w
    obtain ⟨D, hD, hu, hk⟩ := run_underlying_T hT hd w
    cases D <;> first | (simp [dOk] at hk; done) | skip
    rename_i E2
    simp only [dOk, beq_iff_eq] at hk
    subst hk
    cases hx
    cases ds <;> simp only [] at h <;> try (cases h; done)
    split at h
    · rename_i he
      obtain ⟨F, hF, huF, hkF⟩ := run_underlying_T hT he w
      cases F <;> first | (simp [dOk] at hkF; done) | skip
      simp only [dOk, beq_iff_eq] at hkF
      subst hkF
      cases h
      have hrun := Lib.run_convert_string_bytes (P := P) w src dst E2 s huE hu huF
      have hheap : (Lib.bytesWorld w E2 s).heap = w.heap.push (.cells (Lib.bytesCells w E2 s) E2 ((Lib.bytesCells w E2 s).size, (Lib.bytesCells w E2 s).size + 1)) := by
        apply Array.ext_getElem?
        intro i
        rcases Nat.lt_trichotomy i w.heap.size with h | h | h
        · rw [Lib.bytesWorld_at_old w E2 s i h, Array.getElem?_push, if_neg (by omega)]
        · subst h; rw [Lib.bytesWorld_at_new]; simp
        · rw [Array.getElem?_eq_none (by rw [Lib.bytesWorld_size]; omega), Array.getElem?_eq_none (by simp; omega)]
      obtain ⟨Γ', hp, him⟩ := post_imm hr (w' := Lib.bytesWorld w E2 s) hheap rfl rfl rfl (s.data.toList.map fun b => Value.int .u8 b.toNat) (fun i v hv => by
        rw [List.getElem?_map] at hv
        have hi : i < s.data.size := by
          rcases Nat.lt_or_ge i s.data.size with h | h
          · exact h
          · rw [List.getElem?_eq_none (by simpa using h)] at hv; cases hv
        simp only [Lib.bytesCells]
        rw [Array.getElem?_append_left (by simpa using hi)]
        simpa using hv)
      have e2 : ((s.data.toList.map fun b => Value.int .u8 b.toNat).flatMap fun u => u.cells.toList) = s.data.toList.map fun b => Value.int .u8 b.toNat := by
        have := flat_ints .u8 (s.data.toList.map fun b => (b.toNat : Int))
        rw [List.map_map] at this
        exact this
      refine ⟨_, _, Γ', hrun, .sl (s.data.toList.map fun b => Value.int .u8 b.toNat) 1 (by simp [byteAVs]) (by simp [byteAVs]) (fun u hu => ?_) (by rw [e2]; exact him) (fun j a u ha hu => ?_) (fun v hv => ?_) (grownCap_ge w s.size 0 E2) trivial (.inl rfl), hp⟩
      · obtain ⟨b, _, rfl⟩ := List.mem_map.1 hu; rfl
      · simp only [byteAVs, List.getElem?_map] at ha hu
        cases hb : s.data.toList[j]? with
        | none => rw [hb] at ha; cases ha
        | some b => rw [hb] at ha hu; cases ha; cases hu; exact .int _ _
      · rw [e2] at hv
        obtain ⟨b, _, rfl⟩ := List.mem_map.1 hv; trivial
    · cases h
omit hT in
theorem sameBits_key {Γ : Gh} {D : TypeDesc} {d : AD} {k a : AV} {k' a' : Value} (hk : dOk D d = true) (hf : fitKey d k = true) (hr : VRel Γ k k') (ha : VRel Γ a a') (he : keyEq k a = some true) : Instr.sameBits 10000 a' k' = true ∧ k = a := by
  rcases fitKey_rel hk hf hr with ⟨K, n, rfl, rfl, rfl⟩ | ⟨s, rfl, rfl, rfl⟩ | ⟨b, rfl, rfl, rfl⟩
  · cases a <;> simp [keyEq] at he
    obtain ⟨rfl, rfl⟩ := he
    cases ha
    exact ⟨by simp [Instr.sameBits], rfl⟩
  · cases a <;> simp [keyEq] at he
    have he := bytes_beq he
    subst he
    cases ha
    exact ⟨by simp [Instr.sameBits, beq_toListBytes], rfl⟩
  · cases a <;> simp [keyEq] at he
    subst he
    cases ha
    exact ⟨by simp [Instr.sameBits], rfl⟩
omit hT in
theorem run_setObj {w : World} {b : Nat} {es : Array MapEntry} {c : Nat} {o : Obj} (h : w.heap[b]? = some (.map es c)) : (setObj b o).run P w = .ok () { w with heap := w.heap.setIfInBounds b o } := by
  simp [setObj, Sem.run, h]
omit hT in
/-- a map is written -/
theorem post_mapset {Γ : Gh} {m : Mem} {w : World} (hr : Rel Γ m w) {b o : Nat} {es es' : List (AV × AV)} {xs xs' : Array MapEntry} {c c' : Nat} (hrole : Γ.role b = .mp o) (hobj : m.obj o = some (.map es)) (hheap : w.heap[b]? = some (.map xs c))
    (hsz : xs'.size = es'.length) (hpt : ∀ (i : Nat) k v x, es'[i]? = some (k, v) → xs'[i]? = some x → VRel Γ k x.key ∧ VRel Γ v x.val) :
    Post Γ m w Γ (m.set o (.map es')) { w with heap := w.heap.setIfInBounds b (.map xs' c') } := by
  have hlt : b < w.heap.size := (Array.getElem?_eq_some_iff.1 hheap).1
  refine post_upd (Γ' := Γ) (r := .mp o) (b := b) (o := o) (ob := .map xs' c') hr (by rw [hrole]; rfl) (by rw [hobj]; simp) (by simp) (fun b' hb' => by simp [Array.getElem?_setIfInBounds, Ne.symm hb']) (by simp [hlt]) rfl rfl rfl
    (fun b' => by split <;> simp_all) (by rw [hrole]; exact .refl _) (fun t _ => rfl) (fun x hx => ⟨x, hx, .inl rfl⟩) (fun h => h) (fun h => absurd rfl h) (fun o v n h => by rcases h with ⟨_, _, h, _⟩ | ⟨_, _, _, h, _⟩ <;> cases h)
    (fun v n h => by rcases h with ⟨_, _, h, _⟩ | ⟨_, _, _, h, _⟩ <;> cases h) ⟨b, xs', c', hrole, by simp [hlt], hsz, hpt⟩
theorem aMapUpdate_run {Γ : Gh} {m m' : Mem} {w : World} (hr : Rel Γ m w) {t : TypeId} {x k v : AV} {x' k' v' : Value} (h : aMapUpdate T m t x k v = some m') (hx : VRel Γ x x') (hkr : VRel Γ k k') (hvr : VRel Γ v v') :
    OpPostU P Γ m w (Instr.mapUpdate t x' k' v') m' := by
  unfold aMapUpdate at h
  split at h
  · rename_i kt et o ht
    obtain ⟨D, hD, hu, hk⟩ := run_underlying_T hT ht w
    cases D <;> first | (simp [dOk] at hk; done) | skip
    rename_i K E
    simp only [dOk, Bool.and_eq_true, beq_iff_eq] at hk
    obtain ⟨rfl, rfl⟩ := hk
    simp only [Option.bind_eq_some_iff] at h
    obtain ⟨ik, hik, h⟩ := h
    split at h
    · cases h
    · rename_i hf
      have hf : fitKey ik.d k = true := by simpa using hf
      obtain ⟨DK, hDK, huK, hkK⟩ := run_underlying_T hT (t := K) (d := ik.d) (by simp [aD, hik]) w
      cases hx with
      | map hb =>
        rename_i b
        split at h
        · rename_i es ho
          simp only [Option.map_eq_some_iff] at h
          obtain ⟨r, hfind, h⟩ := h
          obtain ⟨b', xs, clock, hb', hh, hsz, hpt⟩ := hr.objs o _ ho
          obtain rfl := hr.maps b b' o hb hb'
          have hg : (getObj b).run P w = .ok (.map xs clock) w := by simp [getObj, Sem.run, hh]
          obtain ⟨r', hr1, hr2, hr3⟩ := findNow_run hkK hf hkr es xs.toList 0 r (by simp [hsz]) (fun i a v x ha hx => hpt i a v x ha (by simpa using hx)) hfind
          have hfk : (Instr.findKey K k' xs.toList).run P w = .ok r' w := by simp [Instr.findKey, hDK, hr1]
          cases r with
          | none =>
            obtain rfl := hr2 rfl
            subst h
            refine ⟨_, Γ, ?_, post_mapset hr hb ho hh (xs' := xs.push { key := k', val := v', born := clock }) (c' := clock + 1) (by simp [hsz]) (fun i a u y ha hy => ?_)⟩
            · unfold Instr.mapUpdate
              rw [Sem.run_bind, hD]
              simp only [Result.andThen_ok]
              rw [Sem.run_bind, hg]
              simp only [Result.andThen_ok]
              rw [Sem.run_bind, checkKey_run hDK hkK hf hkr]
              simp only [Result.andThen_ok]
              rw [Sem.run_bind, hfk]
              simp only [Result.andThen_ok]
              exact run_setObj hh
            · rcases Nat.lt_trichotomy i es.length with hi | hi | hi
              · rw [List.getElem?_append_left hi] at ha
                rw [Array.getElem?_push, if_neg (by omega)] at hy
                exact hpt i a u y ha hy
              · subst hi
                rw [List.getElem?_append_right (Nat.le_refl _)] at ha
                rw [Array.getElem?_push, if_pos hsz.symm] at hy
                simp at ha
                cases hy
                obtain ⟨rfl, rfl⟩ := ha
                exact ⟨hkr, hvr⟩
              · rw [List.getElem?_eq_none (by simp; omega)] at ha; cases ha
          | some p =>
            obtain ⟨i, pv⟩ := p
            obtain ⟨u, y, rfl, huv, hni, hlt, hey, heq⟩ := hr3 i pv rfl
            simp only [Nat.sub_zero, Array.length_toList] at hlt hey
            subst h
            have hxi : xs[i]? = some xs[i] := Array.getElem?_eq_getElem hlt
            obtain ⟨hka, _⟩ := hpt i y pv xs[i] hey hxi
            obtain ⟨hsb, rfl⟩ := sameBits_key hkK hf hkr hka heq
            refine ⟨_, Γ, ?_, post_mapset hr hb ho hh (xs' := xs.modify i fun e => { e with key := k', val := v' }) (c' := clock) (by simp [hsz]) (fun j a u y ha hy => ?_)⟩
            · unfold Instr.mapUpdate
              rw [Sem.run_bind, hD]
              simp only [Result.andThen_ok]
              rw [Sem.run_bind, hg]
              simp only [Result.andThen_ok]
              rw [Sem.run_bind, checkKey_run hDK hkK hf hkr]
              simp only [Result.andThen_ok]
              rw [Sem.run_bind, hfk]
              simp only [Result.andThen_ok, Instr.keyThatStays, hxi, Option.map_some, Option.getD_some, hsb, if_true, Sem.run_bind, Sem.run_pure]
              exact run_setObj hh
            · rw [List.getElem?_set] at ha
              rw [Array.getElem?_modify] at hy
              split at ha
              · rename_i e
                subst e
                rw [if_pos rfl, hxi] at hy
                split at ha
                · cases ha; cases hy; exact ⟨hkr, hvr⟩
                · cases ha
              · rename_i e
                rw [if_neg e] at hy
                exact hpt j a u y ha hy
        · cases h
  · cases h
theorem aDelete_run {Γ : Gh} {m m' : Mem} {w : World} (hr : Rel Γ m w) {t t2 ty : TypeId} {x k : AV} {x' k' : Value} (h : aDelete T m t x k = some m') (hx : VRel Γ x x') (hkr : VRel Γ k k') :
    OpPost P Γ m w (Builtin.delete_ #[t, t2] ty #[x', k']) (.tup []) m' := by
  have htup : ∀ Γ', VRel Γ' (.tup []) (.tuple #[]) := fun Γ' => .tup rfl (fun i a v h => by simp at h)
  unfold aDelete at h
  split at h
  · rename_i kt et ht
    obtain ⟨D, hD, hu, hk⟩ := run_underlying_T hT ht w
    cases D <;> first | (simp [dOk] at hk; done) | skip
    rename_i K E
    simp only [dOk, Bool.and_eq_true, beq_iff_eq] at hk
    obtain ⟨rfl, rfl⟩ := hk
    simp only [Option.bind_eq_some_iff] at h
    obtain ⟨ik, hik, h⟩ := h
    split at h
    · cases h
    · rename_i hf
      have hf : fitKey ik.d k = true := by simpa using hf
      obtain ⟨DK, hDK, huK, hkK⟩ := run_underlying_T hT (t := K) (d := ik.d) (by simp [aD, hik]) w
      split at h
      · cases h
        cases hx
        refine .pure hr ⟨.tuple #[], ?_, htup Γ⟩
        unfold Builtin.delete_
        simp only [List.getElem?_toArray, List.getElem?_cons_zero, List.getElem?_cons_succ]
        rw [Sem.run_bind, hD]
        simp only [Result.andThen_ok]
        rw [Sem.run_bind, checkKey_run hDK hkK hf hkr]
        rfl
      · rename_i o
        cases hx with
        | map hb =>
          rename_i b
          split at h
          · rename_i es ho
            simp only [Option.map_eq_some_iff] at h
            obtain ⟨r, hfind, h⟩ := h
            obtain ⟨b', xs, clock, hb', hh, hsz, hpt⟩ := hr.objs o _ ho
            obtain rfl := hr.maps b b' o hb hb'
            have hg : (getObj b).run P w = .ok (.map xs clock) w := by simp [getObj, Sem.run, hh]
            obtain ⟨r', hr1, hr2, hr3⟩ := findNow_run hkK hf hkr es xs.toList 0 r (by simp [hsz]) (fun i a v x ha hx => hpt i a v x ha (by simpa using hx)) hfind
            have hfk : (Instr.findKey K k' xs.toList).run P w = .ok r' w := by simp [Instr.findKey, hDK, hr1]
            cases r with
            | none =>
              obtain rfl := hr2 rfl
              subst h
              refine ⟨.tuple #[], _, Γ, ?_, htup Γ, post_mapset hr hb ho hh (xs' := xs) (c' := clock) hsz hpt⟩
              unfold Builtin.delete_
              simp only [List.getElem?_toArray, List.getElem?_cons_zero, List.getElem?_cons_succ]
              rw [Sem.run_bind, hD]
              simp only [Result.andThen_ok]
              rw [Sem.run_bind, hg]
              simp only [Result.andThen_ok]
              rw [Sem.run_bind, checkKey_run hDK hkK hf hkr]
              simp only [Result.andThen_ok]
              rw [Sem.run_bind, hfk]
              simp only [Result.andThen_ok]
              rw [Sem.run_bind, run_setObj hh]
              rfl
            | some p =>
              obtain ⟨i, pv⟩ := p
              obtain ⟨u, y, rfl, huv, hni, hlt, hey, heq⟩ := hr3 i pv rfl
              simp only [Nat.sub_zero, Array.length_toList] at hlt hey
              subst h
              have hle : i < es.length := by omega
              have herase : (xs.eraseIdxIfInBounds i).toList = xs.toList.eraseIdx i := by simp [Array.eraseIdxIfInBounds, hlt]
              refine ⟨.tuple #[], _, Γ, ?_, htup Γ, post_mapset hr hb ho hh (xs' := xs.eraseIdxIfInBounds i) (c' := clock) (by rw [← Array.length_toList, herase, List.length_eraseIdx, List.length_eraseIdx]; simp [hlt, hle, hsz]) (fun j a u y ha hy => ?_)⟩
              · unfold Builtin.delete_
                simp only [List.getElem?_toArray, List.getElem?_cons_zero, List.getElem?_cons_succ]
                rw [Sem.run_bind, hD]
                simp only [Result.andThen_ok]
                rw [Sem.run_bind, hg]
                simp only [Result.andThen_ok]
                rw [Sem.run_bind, checkKey_run hDK hkK hf hkr]
                simp only [Result.andThen_ok]
                rw [Sem.run_bind, hfk]
                simp only [Result.andThen_ok]
                rw [Sem.run_bind, run_setObj hh]
                rfl
              · rw [← Array.getElem?_toList, herase, List.getElem?_eraseIdx] at hy
                rw [List.getElem?_eraseIdx] at ha
                split at ha
                · rename_i hj
                  rw [if_pos hj] at hy
                  exact hpt _ a u y ha (by simpa using hy)
                · rename_i hj
                  rw [if_neg hj] at hy
                  exact hpt _ a u y ha (by simpa using hy)
          · cases h
      · cases h
  · cases h
end
end Go.AM
