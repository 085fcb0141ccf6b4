/-
  Operations that make or change memory, one by one.
-/
import Derived.Test.YtpffgljpkehgmaaAMMem
import Derived.Laws.CopyRow
import Derived.Laws.Append
import Derived.Laws.AppendOwn
set_option linter.unusedVariables false
set_option linter.unusedSimpArgs false
namespace Go.AM
open Go
set_option linter.unusedSimpArgs false
set_option linter.unusedVariables false
def OpPost (P : Program) (Γ : Gh) (m : Mem) (w : World) (s : Sem Value) (v : AV) (m' : Mem) : Prop :=
  ∃ u w' Γ', s.run P w = .ok u w' ∧ VRel Γ' v u ∧ Post Γ m w Γ' m' w'
def OpPostU (P : Program) (Γ : Gh) (m : Mem) (w : World) (s : Sem Unit) (m' : Mem) : Prop :=
  ∃ w' Γ', s.run P w = .ok () w' ∧ Post Γ m w Γ' m' w'
theorem OpPost.pure {P : Program} {Γ : Gh} {m : Mem} {w : World} {s : Sem Value} {v : AV} (hr : Rel Γ m w) (h : ∃ u, s.run P w = .ok u w ∧ VRel Γ v u) : OpPost P Γ m w s v m := by
  obtain ⟨u, h1, h2⟩ := h
  exact ⟨u, w, Γ, h1, h2, .refl hr⟩
theorem CRel.all {Γ : Gh} {as : List AV} {c : Array Value} (h : CRel Γ as c.toList) : CRel Γ as (c.toList.take as.length) ∧ as.length ≤ c.size := by
  have hl := h.len
  simp only [Array.length_toList] at hl
  refine ⟨?_, by omega⟩
  rw [List.take_of_length_le (by simp; omega)]
  exact h
theorem splice_take (c vs : List Value) (off k : Nat) (h : off + vs.length ≤ k) (hk : k ≤ c.length) :
    (c.take k).take off ++ vs ++ (c.take k).drop (off + vs.length) = (c.take off ++ vs ++ c.drop (off + vs.length)).take k := by
  rw [List.take_append, List.take_of_length_le (l := c.take off ++ vs) (by simp; omega), List.take_take, Nat.min_eq_left (by omega), List.drop_take]
  congr 2
  simp
  omega
section
variable {P : Program} {T : TypeId → Option AT} (hT : TOk P T)
theorem aBox_run {Γ : Gh} {m m' : Mem} {w : World} (hr : Rel Γ m w) {v p : AV} {v' : Value} {e : TypeId} (h : aBox m v = some (p, m')) (hv : VRel Γ v v') (hf : Fresh Γ m.next m'.next) :
    OpPost P Γ m w (Instr.box e v') p m' := by
  unfold aBox at h
  simp only [Option.map_eq_some_iff] at h
  obtain ⟨vs, hvs, h⟩ := h
  cases h
  obtain ⟨hc, hle⟩ := (cells_rel hv hvs).all
  obtain ⟨Γ', hp, hrole⟩ := post_row hr hc hle hf (w' := { w with heap := w.heap.push (.cells v'.cells e (0, 0)) }) rfl rfl rfl rfl
  exact ⟨.pointer (some ⟨w.heap.size, 0, none⟩), _, Γ', by simp [Instr.box, newVar, newRow], .ptr (.inl ⟨0, 0, hrole, Nat.le_refl _, Nat.le_refl _⟩), hp⟩
include hT
theorem aAlloc_run {Γ : Gh} {m m' : Mem} {w : World} (hr : Rel Γ m w) {p : AV} {e : TypeId} {i : AT} (hi : T e = some i) (h : aBox m i.zero = some (p, m')) (hf : Fresh Γ m.next m'.next) :
    OpPost P Γ m w (Instr.alloc e true (.tuple #[])) p m' := by
  obtain ⟨z, hz, hzv, _⟩ := run_zero_T hT Γ hi w
  obtain ⟨u, w', Γ', h1, h2⟩ := aBox_run (P := P) (e := e) hr h hzv hf
  refine ⟨u, w', Γ', ?_, h2⟩
  rw [← h1]
  simp [Instr.alloc, hz, Instr.box]
omit hT in
theorem oneCell_of {v : Value} (h : Cellish v) : v.oneCell' = true := by cases v <;> first | rfl | exact h.elim
theorem aStore_run {Γ : Gh} {m m' : Mem} {w : World} (hr : Rel Γ m w) {t : TypeId} {p v : AV} {p' v' : Value} (h : aStore T m t p v = some m') (hp : VRel Γ p p') (hv : VRel Γ v v') :
    OpPostU P Γ m w (Instr.storeAt t p' v') m' := by
  unfold aStore at h
  simp only [Option.bind_eq_some_iff] at h
  obtain ⟨i, hi, vs, hvs, h⟩ := h
  split at h
  · rename_i hlen
    split at h
    · rename_i o ver off
      split at h
      · rename_i cs wv ho
        split at h
        · rename_i hw
          subst hw
          simp only [Option.map_eq_some_iff] at h
          obtain ⟨cs', hput, rfl⟩ := h
          cases hp with
          | ptr hrow =>
            rename_i n b
            obtain ⟨b', c, e, lo, hrole, hlo, hheap, hle, hrel, hmax⟩ := hr.objs o _ ho
            obtain rfl := hr.rows b b' o wv n c.size hrow (.inl ⟨lo, wv, hrole, hlo, Nat.le_refl _⟩)
            have hvc := cells_rel hv hvs
            have hvl := hvc.len
            simp only [Array.length_toList] at hvl
            have hput' := hput
            unfold putCells at hput'
            split at hput'
            · rename_i hfit
              have hst := run_storeCells_at (P := P) b off e v'.cells.toList 0 c w hheap (by simp; omega) (fun u hu => oneCell_of (hvc.cell u hu))
              simp only [Nat.add_zero] at hst
              have hrun : (Instr.storeAt t (.pointer (some ⟨b, off, none⟩)) v').run P w = .ok () (w.setRow b (c.toList.take off ++ v'.cells.toList ++ c.toList.drop (off + v'.cells.toList.length)).toArray) := by
                simp only [Instr.storeAt, Instr.sureAddr, storeVar, Sem.run_bind, Sem.run_pure, Result.andThen_ok, run_sizeOf_T hT hi]
                rw [if_neg (by simp; omega)]
                exact hst
              refine ⟨_, Γ, hrun, ?_⟩
              have hsp := (hrel.splice hvc hput)
              refine post_upd (Γ' := Γ) (r := .row o lo wv c.size) (b := b) (o := o) hr (by rw [hrole]; rfl) (by rw [ho]; simp) (by simp) (fun b' hb' => setRow_other w b b' _ hb') (setRow_heap w b c _ e (0, 0) hheap)
                rfl rfl rfl (fun b' => by split <;> simp_all) (by rw [hrole]; exact .refl _) (fun t _ => rfl) (fun x hx => ⟨x, hx, .inl rfl⟩) (fun h => h) (fun h => absurd rfl h) (fun o' v n h => ?_) (fun v n h => .inl ⟨n, by rw [hrole]; exact h⟩) ?_
              · rcases h with ⟨_, _, h, _⟩ | ⟨_, _, _, h, _⟩ <;> cases h
                exact ⟨_, e, rfl, by simp; omega⟩
              · have hsz : (c.toList.take off ++ v'.cells.toList ++ c.toList.drop (off + v'.cells.toList.length)).length = c.size := by simp; omega
                refine ⟨b, (c.toList.take off ++ v'.cells.toList ++ c.toList.drop (off + v'.cells.toList.length)).toArray, e, lo, by simp only [List.size_toArray]; rw [hsz]; exact hrole, hlo, setRow_heap w b c _ e (0, 0) hheap, by simp only [List.size_toArray]; rw [hsz]; omega, ?_, hmax⟩
                have e1 : (c.toList.take cs.length).take off ++ v'.cells.toList ++ (c.toList.take cs.length).drop (off + v'.cells.toList.length) =
                    ((c.toList.take off ++ v'.cells.toList ++ c.toList.drop (off + v'.cells.toList.length)).toArray.toList).take cs'.length := by
                  rw [hsp.2]
                  exact splice_take c.toList v'.cells.toList off cs.length (by simp; omega) (by simpa using hle)
                rw [← e1]
                exact hsp.1
            · cases hput'
        · cases h
      · cases h
    · cases h
  · cases h
omit hT in
theorem flat_take {gs : List Value} {sz : Nat} (hsz : ∀ u ∈ gs, u.cells.size = sz) : ∀ n, ((gs.take n).flatMap fun u => u.cells.toList) = (gs.flatMap fun u => u.cells.toList).take (n * sz) := by
  induction gs with
  | nil => intro n; simp
  | cons a gs ih =>
    intro n
    cases n with
    | zero => simp
    | succ n =>
      have ha := hsz a (by simp)
      rw [List.take_succ_cons, List.flatMap_cons, ih (fun u hu => hsz u (by simp [hu])), List.flatMap_cons, Nat.succ_mul, List.take_append]
      have : a.cells.toList.take (n * sz + sz) = a.cells.toList := by apply List.take_of_length_le; simp [ha]
      rw [this]
      congr 2
      simp [ha]
omit hT in
theorem parts_rel {Γ : Gh} {size : Nat} : ∀ (ps : List (Nat × AV)) (qs : List (Nat × Value)) (xs xs' : List AV) (gs : List Value), xs.length = gs.length → (∀ (j : Nat) a u, xs[j]? = some a → gs[j]? = some u → VRel Γ a u) → (∀ u ∈ gs, u.cells.size = size ∧ ∀ v ∈ u.cells.toList, Cellish v) →
    qs.map (·.1) = ps.map (·.1) → (∀ (j : Nat) a u, ps[j]? = some a → qs[j]? = some u → VRel Γ a.2 u.2) → aBuildElems size ps xs = some xs' →
    ∃ gs' : List Value, gs'.length = xs'.length ∧ xs'.length = xs.length ∧ (∀ (j : Nat) a u, xs'[j]? = some a → gs'[j]? = some u → VRel Γ a u) ∧ (∀ u ∈ gs', u.cells.size = size ∧ ∀ v ∈ u.cells.toList, Cellish v) ∧
      ∀ cells : Array Value, cells.toList = gs.flatMap (fun u => u.cells.toList) → ∃ cells' : Array Value, Instr.fill (fun i => some (i * size, size)) cells qs = some cells' ∧ cells'.toList = gs'.flatMap (fun u => u.cells.toList)
  | [], qs, xs, xs', gs, hl, hx, hg, hm, hv, h => by
    cases qs with
    | nil => cases h; exact ⟨gs, hl.symm, rfl, hx, hg, fun cells hc => ⟨cells, rfl, hc⟩⟩
    | cons => simp at hm
  | (i, v) :: ps, qs, xs, xs', gs, hl, hx, hg, hm, hv, h => by
    cases qs with
    | nil => simp at hm
    | cons q qs =>
      obtain ⟨i', u⟩ := q
      simp only [List.map_cons, List.cons.injEq] at hm
      obtain ⟨rfl, hm⟩ := hm
      simp only [aBuildElems, Option.bind_eq_some_iff] at h
      obtain ⟨vs, hvs, h⟩ := h
      split at h
      · rename_i hc
        have hu := hv 0 (i', v) (i', u) rfl rfl
        have hcr := cells_rel hu hvs
        have husz : u.cells.size = size := by have := hcr.len; simp at this; omega
        have hi : i' < gs.length := by omega
        obtain ⟨gs', h1, h2, h3, h4, h5⟩ := parts_rel ps qs (xs.set i' v) xs' (gs.set i' u) (by simp [hl]) (fun j a y ha hy => by
            rw [List.getElem?_set] at ha hy
            split at ha
            · rename_i e; subst e
              rw [if_pos rfl] at hy
              rw [if_pos hc.2] at ha
              rw [if_pos hi] at hy
              cases ha; cases hy; exact hu
            · rename_i e
              rw [if_neg e] at hy
              exact hx j a y ha hy) (fun y hy => by
            rcases List.mem_or_eq_of_mem_set hy with hy | rfl
            · exact hg y hy
            · exact ⟨husz, hcr.cell⟩) hm (fun j a y ha hy => hv (j + 1) a y (by simpa using ha) (by simpa using hy)) h
        refine ⟨gs', h1, by simpa using h2, h3, h4, fun cells hcells => ?_⟩
        have hgs : ∀ y ∈ gs, y.cells.size = size := fun y hy => (hg y hy).1
        have hfit : i' * size + u.cells.size ≤ cells.size := by
          have : cells.size = gs.length * size := by rw [← Array.length_toList, hcells, flat_len hgs]
          rw [this, husz, ← Nat.succ_mul]
          exact Nat.mul_le_mul_right _ hi
        have key := zipIdx_foldl (i' * size) u cells hfit
        have hset : ((gs.set i' u).flatMap fun u => u.cells.toList) = (gs.flatMap fun u => u.cells.toList).take (i' * size) ++ u.cells.toList ++ (gs.flatMap fun u => u.cells.toList).drop (i' * size + u.cells.size) := by
          rw [List.set_eq_take_append_cons_drop, if_pos hi, List.flatMap_append, List.flatMap_cons, flat_drop hgs, flat_take hgs, husz, ← Nat.succ_mul, List.append_assoc]
        obtain ⟨cells', h6, h7⟩ := h5 _ (by rw [key, hset, hcells])
        refine ⟨cells', ?_, h7⟩
        simp only [Instr.fill]
        rw [if_neg]
        · exact h6
        · simp only [Bool.or_eq_true, decide_eq_true_eq, bne_iff_ne, ne_eq, not_or, Decidable.not_not]
          exact ⟨husz, by omega⟩
      · cases h
omit hT in
theorem flat_replicate (z : Value) : ∀ n, ((List.replicate n z).flatMap fun u => u.cells.toList) = (List.replicate n z.cells.toList).flatten
  | 0 => rfl
  | n + 1 => by simp [List.replicate_succ, flat_replicate z n]
omit hT in
theorem range_mod (z : Array Value) (n : Nat) (hz : 0 < z.size) : ((Array.range (n * z.size)).map (fun i => z[i % z.size]!)).toList = (List.replicate n z.toList).flatten := by
  simp only [Array.toList_map, Array.toList_range]
  induction n with
  | zero => simp
  | succ n ih =>
    rw [Nat.succ_mul, List.range_add, List.map_append, ih, List.replicate_succ', List.flatten_append]
    congr 1
    simp only [List.flatten_cons, List.flatten_nil, List.append_nil, List.map_map]
    apply List.ext_getElem?
    intro j
    rw [List.getElem?_map]
    by_cases hj : j < z.size
    · rw [List.getElem?_range hj, Array.getElem?_toList, Array.getElem?_eq_getElem hj]
      simp only [Option.map_some, Function.comp, Nat.mul_add_mod_self_right, Nat.mod_eq_of_lt hj]
      simp [hj]
    · rw [List.getElem?_eq_none (by simp; omega), List.getElem?_eq_none (by simp; omega)]
      rfl
theorem aBuildSlice_run {Γ : Gh} {m : Mem} {w : World} (hr : Rel Γ m w) {t : TypeId} {len : Nat} {ps : List (Nat × AV)} {qs : Array (Nat × Value)} {v : AV} (h : aBuildSlice T t len ps = some v) (hm : qs.toList.map (·.1) = ps.map (·.1))
    (hv : ∀ (j : Nat) a u, ps[j]? = some a → qs.toList[j]? = some u → VRel Γ a.2 u.2) : OpPost P Γ m w (Instr.buildSlice t len qs) v m := by
  unfold aBuildSlice at h
  split at h
  · rename_i e ht
    obtain ⟨D, hD, hu, hk⟩ := run_underlying_T hT ht w
    cases D <;> first | (simp [dOk] at hk; done) | skip
    rename_i E
    simp only [dOk, beq_iff_eq] at hk
    subst hk
    simp only [Option.bind_eq_some_iff] at h
    obtain ⟨ie, hie, h⟩ := h
    split at h
    · cases h
    · rename_i hb
      simp only [not_or, Nat.not_lt, Bool.not_eq_false] at hb
      obtain ⟨hb1, hb2, hb3⟩ := hb
      simp only [Option.map_eq_some_iff] at h
      obtain ⟨xs', hxs, rfl⟩ := h
      obtain ⟨z, hz, hzv, hzo⟩ := run_zero_T hT Γ hie w
      obtain ⟨zc, hzc, hzl⟩ := sized_get hb3 (i := 0) rfl
      have hzr := cells_rel hzv hzc
      have hzs : z.cells.size = ie.size := by have := hzr.len; simp at this; omega
      obtain ⟨gs', h1, h2, h3, h4, h5⟩ := parts_rel (size := ie.size) ps qs.toList (List.replicate len ie.zero) xs' (List.replicate len z) (by simp) (fun j a u ha hu => by
          have := (List.mem_replicate.1 (List.mem_of_getElem? ha)).2
          have := (List.mem_replicate.1 (List.mem_of_getElem? hu)).2
          subst_vars; exact hzv) (fun u hu => by
          have := (List.mem_replicate.1 hu).2
          subst this; exact ⟨hzs, hzr.cell⟩) hm hv hxs
      simp only [List.length_replicate] at h2
      let zero : Array Value := if len * ie.size = 0 then #[] else z.cells
      have hcells : ((Array.range (len * ie.size)).map (fun i => zero[i % zero.size]!)).toList = (List.replicate len z).flatMap (fun u => u.cells.toList) := by
        rw [flat_replicate]
        by_cases h0 : len * ie.size = 0
        · have : len = 0 := by rcases Nat.mul_eq_zero.1 h0 with h | h; exact h; exact absurd h hb2
          subst this
          simp
        · have : zero = z.cells := by simp [zero, h0]
          rw [this, ← hzs]
          exact range_mod z.cells len (by omega)
      obtain ⟨cells', h6, h7⟩ := h5 _ hcells
      have hrun : (Instr.buildSlice t len qs).run P w = .ok (.slice (some ⟨w.heap.size, 0, none⟩) len len) { w with heap := w.heap.push (.cells cells' E (0, 0)) } := by
        unfold Instr.buildSlice
        simp only [Sem.run_bind, hD, Result.andThen_ok, run_sizeOf_T hT hie]
        rw [if_neg (by omega)]
        by_cases h0 : len * ie.size = 0
        · have hz0 : zero = #[] := by simp [zero, h0]
          rw [hz0] at h6
          rw [if_pos h0]
          simp only [Sem.run_bind, Sem.run_pure, Result.andThen_ok, h6, newRow, run_newObj]
        · have hz0 : zero = z.cells := by simp [zero, h0]
          rw [hz0] at h6
          rw [if_neg h0]
          simp only [Sem.run_bind, hz, Sem.run_pure, Result.andThen_ok, h6, newRow, run_newObj]
      obtain ⟨Γ', hp, him, hlit⟩ := post_lit (w' := { w with heap := w.heap.push (.cells cells' E (0, 0)) }) hr rfl rfl rfl rfl cells'.toList (fun i v h => by simpa using h)
      refine ⟨_, _, Γ', hrun, ?_, hp⟩
      refine .sl gs' ie.size h1 (by omega) (fun u hu => (h4 u hu).1) (fun j v hj => him j v (by rw [h7]; exact hj)) (fun j a u ha hu => (h3 j a u ha hu).mono hp.le) (fun v hv' => ?_) (Nat.le_refl _) (by split; exact ⟨rfl, hlit⟩; rfl) (.inl rfl)
      obtain ⟨u, hu, hv'⟩ := List.mem_flatMap.1 hv'
      exact (h4 u hu).2 v hv'
  · cases h
end
end Go.AM
