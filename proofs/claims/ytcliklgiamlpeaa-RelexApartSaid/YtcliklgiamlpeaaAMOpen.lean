/-
  A law's arguments as the machine's values: numbers, bools, texts, structs of these, slices of these.
-/
import Derived.Test.YtcliklgiamlpeaaAMLaw
import Derived.Test.YtcliklgiamlpeaaAMS
import Derived.ChangeArms
namespace Go.AM
open Go Go.RowKit Go.WideShapes Go.ChangeShapes
set_option linter.unusedSimpArgs false
set_option linter.unusedVariables false

inductive Kd where
  | int (k : IntKind) | bool | str
  deriving DecidableEq

def flatFields (P : Program) (F : TypeId → Option (List Kd)) : List Field → Nat → Option (List Kd)
  | [], _ => some []
  | f :: fs, off => if f.offset = off then (F f.type).bind fun ks => if ks.length = P.cellsOf f.type then (flatFields P F fs (off + ks.length)).map (ks ++ ·) else none else none
def flatK (P : Program) : Nat → TypeId → Option (List Kd)
  | 0, _ => none
  | n + 1, t => match P.underlying t with
    | some .bool => some [.bool]
    | some (.int k) => some [.int k]
    | some .string => some [.str]
    | some (.struct fs) => (flatFields P (flatK P n) fs.toList 0).bind fun ks => if ks.length = P.cellsOf t then some ks else none
    | _ => none

def KdFits : Kd → AV → Prop
  | .int k, .int k' n => k' = k ∧ k.min ≤ n ∧ n ≤ k.max
  | .bool, .bool _ => True
  | .str, .str s => s.size ≤ maxLen
  | _, _ => False
def FlatFits : List Kd → List AV → Prop
  | [], [] => True
  | k :: ks, a :: as => KdFits k a ∧ FlatFits ks as
  | _, _ => False
theorem FlatFits.append : ∀ {ks ls : List Kd} {as bs : List AV}, FlatFits ks as → FlatFits ls bs → FlatFits (ks ++ ls) (as ++ bs)
  | [], _, [], _, _, h => h
  | k :: ks, _, a :: as, _, h, h' => ⟨h.1, FlatFits.append h.2 h'⟩
  | [], _, _ :: _, _, h, _ => h.elim
  | _ :: _, _, [], _, h, _ => h.elim

section
variable {H : Type} {enc : TypeId × Value → H} {P : Program}

theorem flat_fields {W : World} {sp : Nat → Bool} {held : Bool} {F : TypeId → Option (List Kd)} {n : Nat}
    (ih : ∀ t ks, F t = some ks → ∀ cs x, DataW.trod enc P W 0 sp held n t cs = some x → ∃ as, CRel (gh0 W) as cs ∧ FlatFits ks as) (cs : List Value) :
    ∀ (fs : List Field) (off : Nat) (ks : List Kd), flatFields P F fs off = some ks → (∀ f ∈ fs, ∃ x, DataW.trod enc P W 0 sp held n f.type ((cs.drop f.offset).take (P.cellsOf f.type)) = some x) → off + ks.length ≤ cs.length →
      ∃ as, CRel (gh0 W) as ((cs.drop off).take ks.length) ∧ FlatFits ks as
  | [], off, ks, h, _, _ => by
    simp only [flatFields, Option.some.injEq] at h
    subst h
    exact ⟨[], by simpa using CRel.nil _, trivial⟩
  | f :: fs, off, ks, h, hx, hl => by
    simp only [flatFields] at h
    split at h
    · rename_i ho
      simp only [Option.bind_eq_some_iff] at h
      obtain ⟨k1, hk1, h⟩ := h
      split at h
      · rename_i hlen
        simp only [Option.map_eq_some_iff] at h
        obtain ⟨k2, hk2, rfl⟩ := h
        obtain ⟨x, hx1⟩ := hx f (by simp)
        obtain ⟨as, ha1, ha2⟩ := ih f.type k1 hk1 _ x hx1
        obtain ⟨bs, hb1, hb2⟩ := flat_fields ih cs fs (off + k1.length) k2 hk2 (fun g hg => hx g (by simp [hg])) (by simp at hl; omega)
        refine ⟨as ++ bs, ?_, ha2.append hb2⟩
        have := ha1.append hb1
        rw [ho, ← hlen] at this
        have e : (cs.drop off).take (k1 ++ k2).length = (cs.drop off).take k1.length ++ ((cs.drop (off + k1.length)).take k2.length) := by
          rw [List.length_append, List.take_add, List.drop_drop]
        rw [e]; exact this
      · cases h
    · cases h

theorem flat_open {W : World} {sp : Nat → Bool} {held : Bool} : ∀ (n : Nat) (t : TypeId) (ks : List Kd), flatK P n t = some ks → ∀ (fuel : Nat) (cs : List Value) (x : DataW H × List MemPlace), DataW.trod enc P W 0 sp held fuel t cs = some x →
    ∃ as, CRel (gh0 W) as cs ∧ FlatFits ks as := by
  intro n
  induction n with
  | zero => intro t ks h; cases h
  | succ n ih =>
    intro t ks h fuel cs x hx
    unfold flatK at h
    split at h
    · rename_i ht
      cases h
      have ⟨b, hb⟩ : ∃ b, cs = [.bool b] := by
        cases fuel with
        | zero => simp [DataW.trod] at hx
        | succ m =>
          unfold DataW.trod at hx
          rw [ht] at hx
          split at hx <;> simp_all
      subst hb
      exact ⟨[.bool b], CRel.one (.bool b) trivial, trivial, trivial⟩
    · rename_i k ht
      cases h
      obtain ⟨n', rfl, _, hw⟩ := DataW.trod_int ht hx
      simp only [Lit.wf, Bool.and_eq_true, decide_eq_true_eq] at hw
      exact ⟨[.int k n'], CRel.one (.int k n') trivial, ⟨rfl, hw.1, hw.2⟩, trivial⟩
    · rename_i ht
      cases h
      obtain ⟨s, rfl, _, hs⟩ := DataW.trod_string ht hx
      exact ⟨[.str s], CRel.one (.str s) trivial, hs, trivial⟩
    · rename_i fs ht
      simp only [Option.bind_eq_some_iff] at h
      obtain ⟨ks', hks, h⟩ := h
      split at h
      · rename_i hlen
        cases h
        obtain ⟨xs, m, rfl, _, hcl, hxl, hf⟩ := DataW.trod_struct ht hx
        obtain ⟨as, h1, h2⟩ := flat_fields (enc := enc) (W := W) (sp := sp) (held := held) (n := m) (fun t ks hk cs x hx => ih t ks hk m cs x hx) cs fs.toList 0 ks hks (fun f hf' => by
          obtain ⟨i, hi, hfi⟩ := List.getElem_of_mem hf'
          have hi' : i < fs.size := by simpa using hi
          have := hf i f (by rw [Array.getElem?_eq_getElem hi']; simpa using hfi)
          rw [List.getElem?_eq_getElem (by omega)] at this
          exact ⟨_, this⟩) (by omega)
        refine ⟨as, ?_, h2⟩
        rw [List.drop_zero, hlen, ← hcl, List.take_length] at h1
        exact h1
      · cases h
    · cases h

theorem fits_len : ∀ {ks : List Kd} {as : List AV}, FlatFits ks as → as.length = ks.length
  | [], [], _ => rfl
  | k :: ks, a :: as, h => by simp [fits_len h.2]
  | [], _ :: _, h => h.elim
  | _ :: _, [], h => h.elim

def isStructB (P : Program) (t : TypeId) : Bool := match P.underlying t with
  | some (.struct _) => true
  | _ => false
def elemT (P : Program) (t : TypeId) : TypeId := match P.underlying t with
  | some (.slice e) => e
  | _ => 0
def isSliceB (P : Program) (t : TypeId) : Bool := match P.underlying t with
  | some (.slice _) => true
  | _ => false
theorem isSlice_of {P : Program} {t : TypeId} (h : isSliceB P t = true) : P.underlying t = some (.slice (elemT P t)) := by
  unfold isSliceB at h
  unfold elemT
  split at h
  · rename_i e he; simp only [he]
  · cases h
/-- a struct's value -/
theorem open_flat {W : World} {t : TypeId} {v : Value} {d : DataW H} {ps : List MemPlace} {ks : List Kd} (n : Nat) (hk : flatK P n t = some ks) {r : Reach} {b0 : Nat} (hts : isStructB P t = true) (hval : Value.okWide P W r b0 t v)
    (hd : DataW.Trod enc P W 0 (fun _ => true) true t v d ps) : ∃ as, VRel (gh0 W) (.agg as) v ∧ FlatFits ks as := by
  have ⟨fs, ht⟩ : ∃ fs, P.underlying t = some (.struct fs) := by
    unfold isStructB at hts
    split at hts
    · rename_i fs h; exact ⟨fs, h⟩
    · cases hts
  obtain ⟨cs, rfl, _⟩ := okWide_struct ht hval
  obtain ⟨fuel, hf⟩ := hd
  obtain ⟨as, h1, h2⟩ := flat_open n t ks hk fuel _ _ hf
  simp only [Value.cells] at h1
  exact ⟨as, .agg (by simpa using h1.len) (fun i a v ha hv => h1.rel i a v ha (by simpa using hv)) h1.cell, h2⟩

def wrapE (agg : Bool) (cs : List AV) : AV := if agg then .agg cs else cs.headD .undef
def wrapV (agg : Bool) (cs : List Value) : Value := if agg then .agg cs.toArray else cs.headD Go.undef

theorem wrapV_cells {agg : Bool} {cs : List Value} {Γ : Gh} {as : List AV} (h : CRel Γ as cs) (h1 : agg = false → cs.length = 1) : (wrapV agg cs).cells.toList = cs := by
  cases agg with
  | true => simp [wrapV, Value.cells]
  | false =>
    match cs, h1 rfl with
    | [c], _ =>
      have := h.cell c (by simp)
      cases c <;> simp_all [wrapV, Value.cells, Cellish]
theorem wrap_rel {agg : Bool} {cs : List Value} {Γ : Gh} {as : List AV} (h : CRel Γ as cs) (h1 : agg = false → cs.length = 1) : VRel Γ (wrapE agg as) (wrapV agg cs) := by
  cases agg with
  | true => exact .agg (by simpa using h.len) (fun i a v ha hv => h.rel i a v ha (by simpa using hv)) (by simpa using h.cell)
  | false =>
    match cs, as, h1 rfl, h.len with
    | [c], [a], _, _ => exact h.rel 0 a c rfl rfl

theorem mapM_range_get {β : Type} {f : Nat → Option β} {n : Nat} {l : List β} (h : (List.range n).mapM f = some l) : l.length = n ∧ ∀ j, j < n → f j = l[j]? :=
  ⟨by simpa using mapM_some_length h, fun j hj => mapM_some_get h j j (by simp [hj])⟩

theorem cells_get {W : World} {a : Addr} {n : Nat} {cs : List Value} (h : W.cells? 0 a n = some cs) (hs : a.spot = none) : cs.length = n ∧ ∀ j v, cs[j]? = some v → im (gh0 W) a.block (a.off + j) = some v := by
  unfold World.cells? at h
  rw [if_pos (Nat.zero_le _)] at h
  obtain ⟨h1, h2⟩ := mapM_range_get h
  refine ⟨h1, fun j v hj => ?_⟩
  have hjn : j < n := by rw [← h1]; exact (List.getElem?_eq_some_iff.1 hj).1
  have := h2 j hjn
  rw [hj] at this
  unfold im
  simp only [gh0, role0]
  unfold World.cell? at this
  have hb : (a.add j).block = a.block := by unfold Addr.add; split <;> rfl
  have ho : (a.add j).off = a.off + j := by unfold Addr.add; split <;> simp_all
  rw [hb, ho] at this
  cases hh : W.heap[a.block]? with
  | none => rw [hh] at this; cases this
  | some o =>
    rw [hh] at this
    cases o with
    | cells c e f =>
      simp only [Role.known] at this ⊢
      split at this
      · cases this
      · simpa using this
    | _ => cases this

theorem flat_get2 {gs : List Value} {sz : Nat} (hsz : ∀ u ∈ gs, u.cells.size = sz) : ∀ (i j : Nat) (u : Value) (v : Value), gs[i]? = some u → u.cells.toList[j]? = some v → (gs.flatMap fun u => u.cells.toList)[i * sz + j]? = some v := by
  induction gs with
  | nil => intro i j u v h; simp at h
  | cons g gs ih =>
    intro i j u v hu hv
    have hg := hsz g (by simp)
    rw [List.flatMap_cons]
    cases i with
    | zero =>
      simp at hu; subst hu
      rw [Nat.zero_mul, Nat.zero_add, List.getElem?_append_left (List.getElem?_eq_some_iff.1 hv).1]; exact hv
    | succ i =>
      have := ih (fun u hu => hsz u (by simp [hu])) i j u v (by simpa using hu) hv
      rw [List.getElem?_append_right (by simp [hg, Nat.succ_mul]; omega)]
      rw [← this]; congr 1; simp [hg, Nat.succ_mul]; omega
theorem flat_of {gs : List Value} {sz : Nat} (hsz : ∀ u ∈ gs, u.cells.size = sz) : ∀ (k : Nat) (v : Value), (gs.flatMap fun u => u.cells.toList)[k]? = some v → ∃ i j u, k = i * sz + j ∧ gs[i]? = some u ∧ u.cells.toList[j]? = some v := by
  induction gs with
  | nil => intro k v h; simp at h
  | cons g gs ih =>
    intro k v h
    have hg := hsz g (by simp)
    rw [List.flatMap_cons] at h
    by_cases hk : k < sz
    · rw [List.getElem?_append_left (by simp [hg]; omega)] at h
      exact ⟨0, k, g, by omega, rfl, h⟩
    · rw [List.getElem?_append_right (by simp [hg]; omega)] at h
      obtain ⟨i, j, u, h1, h2, h3⟩ := ih (fun u hu => hsz u (by simp [hu])) _ v h
      refine ⟨i + 1, j, u, ?_, by simpa using h2, h3⟩
      simp [hg] at h1
      rw [Nat.succ_mul]; omega

/-- a slice of flat elements -/
theorem open_slice_flat0 {W : World} {t e : TypeId} {v : Value} {d : DataW H} {ps : List MemPlace} {ks : List Kd} (n : Nat) (ht : P.underlying t = some (.slice e)) (hk : flatK P n e = some ks) (agg : Bool) (h1 : agg = false → ks.length = 1) (hsz : P.cellsOf e = ks.length) {r : Reach} {b0 : Nat}
    (hval : Value.okWide P W r b0 t v) (hd : DataW.Trod enc P W 0 (fun _ => true) true t v d ps) : ∃ (x : AV) (xs : List (List AV)), VRel (gh0 W) x v ∧ HSl x (xs.map (wrapE agg)) ∧ (∀ as ∈ xs, FlatFits ks as) ∧ xs.length ≤ maxLen := by
  obtain ⟨fuel, hf⟩ := hd
  obtain ⟨a', len', cap', rfl⟩ := okWide_slice ht hval
  simp only [Value.cells] at hf
  rcases DataW.trod_slice ht hf with ⟨h0, _⟩ | ⟨a, len, cap, elems, rest, m, hm, hc, _, _, hlc, hcap, hel, hget, _⟩
  · simp at h0
    obtain ⟨rfl, rfl, rfl⟩ := h0
    exact ⟨.nils, [], .nils, .nil, fun as h => (by cases h), Nat.zero_le _⟩
  · simp at hc
    obtain ⟨rfl, rfl, rfl⟩ := hc
    have hspot : a.spot = none := by
      simp only [Value.okWide, ht, Cell.okWide, Cell.ok] at hval
      exact hval.2.2.2.1
    have key : ∀ i, i < len' → ∃ cs as, W.cells? 0 (a.add (i * ks.length)) ks.length = some cs ∧ CRel (gh0 W) as cs ∧ FlatFits ks as := by
      intro i hi
      have := hget i hi
      rw [List.getElem?_eq_getElem (by omega), Option.bind_eq_some_iff, hsz] at this
      obtain ⟨cs, hcs, hx⟩ := this
      obtain ⟨as, h2, h3⟩ := flat_open n e ks hk m cs _ hx
      exact ⟨cs, as, hcs, h2, h3⟩
    have ⟨cf, hcf⟩ : ∃ cf : Nat → List Value, ∀ i, i < len' → ∃ as, W.cells? 0 (a.add (i * ks.length)) ks.length = some (cf i) ∧ CRel (gh0 W) as (cf i) ∧ FlatFits ks as := by
      refine ⟨fun i => (W.cells? 0 (a.add (i * ks.length)) ks.length).getD [], fun i hi => ?_⟩
      obtain ⟨cs, as, h2, h3, h4⟩ := key i hi
      exact ⟨as, by simp [h2], by simpa [h2] using h3, h4⟩
    have ⟨af, haf⟩ : ∃ af : Nat → List AV, ∀ i, i < len' → W.cells? 0 (a.add (i * ks.length)) ks.length = some (cf i) ∧ CRel (gh0 W) (af i) (cf i) ∧ FlatFits ks (af i) := by
      open Classical in
      refine ⟨fun i => if h : i < len' then Classical.choose (hcf i h) else [], fun i hi => ?_⟩
      simp only [hi, dif_pos]
      exact Classical.choose_spec (hcf i hi)
    have hspot2 : ∀ i, (a.add i).spot = none := by intro i; unfold Addr.add; split; exact hspot; rfl
    have hblk : ∀ i, (a.add i).block = a.block := by intro i; unfold Addr.add; split <;> rfl
    have hoff : ∀ i, (a.add i).off = a.off + i := by intro i; unfold Addr.add; split <;> simp_all
    have hcl : ∀ i, i < len' → (cf i).length = ks.length := fun i hi => (cells_get (haf i hi).1 (hspot2 _)).1
    have hone : ∀ i, i < len' → agg = false → (cf i).length = 1 := fun i hi ha => by rw [hcl i hi]; exact h1 ha
    have hgcell : ∀ i, i < len' → (wrapV agg (cf i)).cells.toList = cf i := fun i hi => wrapV_cells (haf i hi).2.1 (hone i hi)
    have hsz' : ∀ u ∈ (List.range len').map fun i => wrapV agg (cf i), u.cells.size = ks.length := by
      intro u hu
      simp only [List.mem_map, List.mem_range] at hu
      obtain ⟨i, hi, rfl⟩ := hu
      have := congrArg List.length (hgcell i hi)
      rw [hcl i hi] at this
      simpa using this
    have hgi : ∀ i u, ((List.range len').map fun i => wrapV agg (cf i))[i]? = some u → i < len' ∧ u = wrapV agg (cf i) := by
      intro i u hu
      rw [List.getElem?_map, Option.map_eq_some_iff] at hu
      obtain ⟨j, hj, rfl⟩ := hu
      have hi : i < len' := by have := (List.getElem?_eq_some_iff.1 hj).1; simpa using this
      rw [List.getElem?_range hi] at hj
      cases hj
      exact ⟨hi, rfl⟩
    refine ⟨.sl .foreign (((List.range len').map af).map (wrapE agg)), (List.range len').map af, ?_, .sl _ _, ?_, by simp; omega⟩
    · obtain ⟨b, off, spot⟩ := a
      simp only at hspot hblk hoff
      subst hspot
      refine .sl ((List.range len').map fun i => wrapV agg (cf i)) ks.length (by simp) (by simp) hsz' ?_ ?_ ?_ hlc trivial
      · intro k v hv
        obtain ⟨i, j, u, rfl, hu, huv⟩ := flat_of hsz' k v hv
        obtain ⟨hi, rfl⟩ := hgi i u hu
        rw [hgcell i hi] at huv
        have := (cells_get (haf i hi).1 (hspot2 _)).2 j v huv
        rw [hblk, hoff] at this
        rw [← Nat.add_assoc]; exact this
      · intro j x u hx hu
        obtain ⟨hi, rfl⟩ := hgi j u hu
        simp only [List.map_map, List.getElem?_map, Option.map_eq_some_iff] at hx
        obtain ⟨j', hj', rfl⟩ := hx
        rw [List.getElem?_range hi] at hj'
        cases hj'
        exact wrap_rel (haf _ hi).2.1 (hone _ hi)
      · intro v hv
        obtain ⟨k, hk, hkv⟩ := List.getElem_of_mem hv
        obtain ⟨i, j, u, _, hu, huv⟩ := flat_of hsz' k v (by rw [List.getElem?_eq_getElem hk, hkv])
        obtain ⟨hi, rfl⟩ := hgi i u hu
        rw [hgcell i hi] at huv
        exact (haf i hi).2.1.cell v (List.mem_of_getElem? huv)
    · intro as has
      simp only [List.mem_map, List.mem_range] at has
      obtain ⟨i, hi, rfl⟩ := has
      exact (haf i hi).2.2
theorem open_slice_flat {W : World} {t : TypeId} {v : Value} {d : DataW H} {ps : List MemPlace} {ks : List Kd} (n : Nat) (ht : isSliceB P t = true) (hk : flatK P n (elemT P t) = some ks) (agg : Bool) (h1 : agg = false → ks.length = 1) (hsz : P.cellsOf (elemT P t) = ks.length) {r : Reach} {b0 : Nat}
    (hval : Value.okWide P W r b0 t v) (hd : DataW.Trod enc P W 0 (fun _ => true) true t v d ps) : ∃ (x : AV) (xs : List (List AV)), VRel (gh0 W) x v ∧ HSl x (xs.map (wrapE agg)) ∧ (∀ as ∈ xs, FlatFits ks as) ∧ xs.length ≤ maxLen :=
  open_slice_flat0 n (isSlice_of ht) hk agg h1 hsz hval hd
theorem decode_list {ks : List Kd} {agg : Bool} {D : Type} (encD : D → AV) (GoodD : D → Prop) (dec : ∀ as, FlatFits ks as → ∃ x, wrapE agg as = encD x ∧ GoodD x) : ∀ xs : List (List AV), (∀ as ∈ xs, FlatFits ks as) → ∃ l : List D, xs.map (wrapE agg) = l.map encD ∧ ∀ x ∈ l, GoodD x
  | [], _ => ⟨[], rfl, by simp⟩
  | as :: xs, h => by
    obtain ⟨x, hx, hg⟩ := dec as (h as (by simp))
    obtain ⟨l, hl, hgl⟩ := decode_list encD GoodD dec xs (fun as ha => h as (by simp [ha]))
    exact ⟨x :: l, by simp [hx, hl], fun y hy => by
      rcases List.mem_cons.1 hy with rfl | hy
      · exact hg
      · exact hgl y hy⟩
end
end Go.AM
