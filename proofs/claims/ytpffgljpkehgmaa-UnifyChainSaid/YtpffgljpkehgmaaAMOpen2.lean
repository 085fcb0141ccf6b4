/-
  A law's arguments as the machine's values: data of any depth (numbers, bools, texts, structs, slices, also of themselves).
-/
import Derived.Test.YtpffgljpkehgmaaAMOpen
set_option linter.unusedVariables false
set_option linter.unusedSimpArgs false
namespace Go.AM
open Go Go.RowKit Go.WideShapes Go.ChangeShapes
set_option linter.unusedSimpArgs false
set_option linter.unusedVariables false
def aggB (P : Program) (t : TypeId) : Bool := match P.underlying t with
  | some (.struct _) | some (.array _ _) => true
  | _ => false
def tiles (P : Program) : List Field → Nat → Bool
  | [], _ => true
  | f :: fs, off => f.offset == off && tiles P fs (off + P.cellsOf f.type)
def tilesLen (P : Program) : List Field → Nat
  | [] => 0
  | f :: fs => P.cellsOf f.type + tilesLen P fs
/-- all types that data of these types is made of -/
def closedB (P : Program) (S : List TypeId) : Bool := S.all fun t => match P.underlying t with
  | some .bool | some (.int _) | some .string => P.cellsOf t == 1
  | some (.slice e) => P.cellsOf t == 1 && S.contains e && decide (0 < P.cellsOf e) && decide (0 < P.bytesOf e) && (aggB P e || P.cellsOf e == 1)
  | some (.struct fs) => tiles P fs.toList 0 && tilesLen P fs.toList == P.cellsOf t && fs.toList.all fun f => S.contains f.type
  | _ => false
/-- cells that hold data of a type -/
inductive CV (P : Program) : TypeId → List AV → Prop
  | bool {t : TypeId} {b : Bool} : P.underlying t = some .bool → CV P t [.bool b]
  | int {t : TypeId} {k : IntKind} {n : Int} : P.underlying t = some (.int k) → k.min ≤ n → n ≤ k.max → CV P t [.int k n]
  | str {t : TypeId} {s : ByteArray} : P.underlying t = some .string → s.size ≤ reachBytes → CV P t [.str s]
  | nils {t e : TypeId} : P.underlying t = some (.slice e) → CV P t [.nils]
  | sl {t e : TypeId} {xs : List (List AV)} : P.underlying t = some (.slice e) → (∀ x ∈ xs, CV P e x) → xs.length ≤ reachBytes → CV P t [.sl .foreign (xs.map (wrapE (aggB P e)))]
  | strct {t : TypeId} {fs : Array Field} {cs : List AV} : P.underlying t = some (.struct fs) → (∀ (i : Nat) (f : Field), fs[i]? = some f → CV P f.type ((cs.drop f.offset).take (P.cellsOf f.type))) → cs.length = P.cellsOf t → CV P t cs
section
variable {H : Type} {enc : TypeId × Value → H} {P : Program}
theorem weightsAll_mem {p : Nat → Bool} {e : TypeId} : ∀ {l : List (DataW H)}, (DataW.weightsAll P e l).all p = true → ∀ d ∈ l, (d.weights P e).all p = true
  | [], _, d, h => by simp at h
  | a :: l, h, d, hd => by
    simp only [DataW.weightsAll, List.all_append, Bool.and_eq_true] at h
    rcases List.mem_cons.1 hd with rfl | hd
    · exact h.1
    · exact weightsAll_mem h.2 d hd
theorem weightsEach_get {p : Nat → Bool} : ∀ {ts : List TypeId} {ds : List (DataW H)}, (DataW.weightsEach P ts ds).all p = true → ∀ (i : Nat) (t : TypeId) (d : DataW H), ts[i]? = some t → ds[i]? = some d → (d.weights P t).all p = true
  | [], _, _, i, t, d, ht, _ => by simp at ht
  | _ :: _, [], _, i, t, d, _, hd => by simp at hd
  | a :: ts, b :: ds, h, i, t, d, ht, hd => by
    simp only [DataW.weightsEach, List.all_append, Bool.and_eq_true] at h
    cases i with
    | zero => simp at ht hd; subst ht; subst hd; exact h.1
    | succ i => exact weightsEach_get h.2 i t d (by simpa using ht) (by simpa using hd)
theorem tiles_open {W : World} (cs : List Value) : ∀ (fs : List Field) (off : Nat), tiles P fs off = true → (∀ f ∈ fs, ∃ as, CRel (gh0 W) as ((cs.drop f.offset).take (P.cellsOf f.type)) ∧ CV P f.type as) → off + tilesLen P fs ≤ cs.length →
    ∃ as, CRel (gh0 W) as ((cs.drop off).take (tilesLen P fs)) ∧ ∀ f ∈ fs, off ≤ f.offset ∧ CV P f.type ((as.drop (f.offset - off)).take (P.cellsOf f.type))
  | [], off, _, _, _ => ⟨[], by simpa [tilesLen] using CRel.nil _, by simp⟩
  | f :: fs, off, ht, hx, hl => by
    simp only [tiles, Bool.and_eq_true, beq_iff_eq] at ht
    simp only [tilesLen] at hl ⊢
    obtain ⟨ho, ht⟩ := ht
    obtain ⟨a1, h1, h2⟩ := hx f (by simp)
    obtain ⟨a2, h3, h4⟩ := tiles_open cs fs (off + P.cellsOf f.type) ht (fun g hg => hx g (by simp [hg])) (by omega)
    have hlen : a1.length = P.cellsOf f.type := by
      have := h1.len
      rw [← this]; simp; omega
    rw [ho] at h1
    refine ⟨a1 ++ a2, ?_, fun g hg => ?_⟩
    · have := h1.append h3
      have e : (cs.drop off).take (P.cellsOf f.type + tilesLen P fs) = (cs.drop off).take (P.cellsOf f.type) ++ ((cs.drop (off + P.cellsOf f.type)).take (tilesLen P fs)) := by
        rw [List.take_add, List.drop_drop]
      rw [e]; exact this
    · rcases List.mem_cons.1 hg with rfl | hg
      · refine ⟨by omega, ?_⟩
        rw [ho, Nat.sub_self, List.drop_zero, ← hlen, List.take_left]
        exact h2
      · obtain ⟨h5, h6⟩ := h4 g hg
        refine ⟨by omega, ?_⟩
        have : g.offset - off = a1.length + (g.offset - (off + P.cellsOf f.type)) := by omega
        have hd : a1.drop (a1.length + (g.offset - (off + P.cellsOf f.type))) = [] := List.drop_of_length_le (by omega)
        rw [this, List.drop_append, hd, List.nil_append, Nat.add_sub_cancel_left]
        exact h6
theorem cells_spot {W : World} {a : Addr} {n : Nat} {cs : List Value} (h : W.cells? 0 a n = some cs) (hn : 0 < n) : a.spot = none := by
  unfold World.cells? at h
  rw [if_pos (Nat.zero_le _)] at h
  obtain ⟨h1, h2⟩ := mapM_range_get h
  have := h2 0 hn
  have hz : a.add 0 = a := by unfold Addr.add; simp
  rw [hz, List.getElem?_eq_getElem (by omega)] at this
  unfold World.cell? at this
  split at this
  · cases hs : a.spot with
    | none => rfl
    | some s => rw [hs] at this; simp at this
  · cases this
theorem open_cv {W : World} {held : Bool} {S : List TypeId} (hS : closedB P S = true) (fuel : Nat) : ∀ (t : TypeId) (cs : List Value) (x : DataW H × List MemPlace), t ∈ S → DataW.trod enc P W 0 (fun _ => true) held fuel t cs = some x → (x.1.weights P t).all (· ≤ reachBytes) = true →
    ∃ as, CRel (gh0 W) as cs ∧ CV P t as := by
  induction fuel with
  | zero => intro t cs x _ h; simp [DataW.trod] at h
  | succ n ih =>
    intro t cs x ht hx hw
    have hc := List.all_eq_true.1 hS t ht
    split at hc
    · rename_i hu
      obtain ⟨b, rfl, _⟩ := DataW.trod_bool hu hx
      exact ⟨[.bool b], CRel.one (.bool b) trivial, .bool hu⟩
    · rename_i k hu
      obtain ⟨n', rfl, _, hwf⟩ := DataW.trod_int hu hx
      simp only [Lit.wf, Bool.and_eq_true, decide_eq_true_eq] at hwf
      exact ⟨[.int k n'], CRel.one (.int k n') trivial, .int hu hwf.1 hwf.2⟩
    · rename_i hu
      obtain ⟨s, rfl, rfl, hs⟩ := DataW.trod_string hu hx
      refine ⟨[.str s], CRel.one (.str s) trivial, .str hu ?_⟩
      simp only [DataW.weights, List.all_cons, Bool.and_eq_true, decide_eq_true_eq] at hw
      have : s.data.toList.length = s.size := Array.length_toList
      omega
    · rename_i e hu
      simp only [Bool.and_eq_true, decide_eq_true_eq, Bool.or_eq_true, beq_iff_eq, List.contains_iff_mem] at hc
      obtain ⟨⟨⟨⟨hc1, heS⟩, hce⟩, hbe⟩, hag⟩ := hc
      have h1 : aggB P e = false → P.cellsOf e = 1 := fun h => by
        rcases hag with h' | h'
        · rw [h] at h'; cases h'
        · exact h'
      rcases DataW.trod_slice hu hx with ⟨rfl, _⟩ | ⟨a, len, cap, elems, rest, m, hm, rfl, rfl, _, hlc, hcap, hel, hget, _⟩
      · exact ⟨[.nils], CRel.one .nils trivial, .nils hu⟩
      · have hmn : m = n := by omega
        subst hmn
        simp only [DataW.weights, hu, List.all_cons, List.all_append, Bool.and_eq_true, decide_eq_true_eq] at hw
        obtain ⟨hw0, hw1, _⟩ := hw
        rw [List.length_map, List.length_map] at hw0
        have hlr : len ≤ reachBytes := by
          have h1 : elems.length * 1 ≤ (elems.length + rest.length) * P.bytesOf e := Nat.mul_le_mul (by omega) hbe
          omega
        have key : ∀ i, i < len → ∃ cs as, W.cells? 0 (a.add (i * P.cellsOf e)) (P.cellsOf e) = some cs ∧ CRel (gh0 W) as cs ∧ CV P e as := by
          intro i hi
          have := hget i hi
          rw [List.getElem?_eq_getElem (by omega), Option.bind_eq_some_iff] at this
          obtain ⟨cs, hcs, hx⟩ := this
          obtain ⟨as, h2, h3⟩ := ih e cs _ heS hx (weightsAll_mem hw1 _ (List.mem_map.2 ⟨_, List.getElem_mem (by omega), rfl⟩))
          exact ⟨cs, as, hcs, h2, h3⟩
        by_cases hl0 : len = 0
        · subst hl0
          obtain ⟨b, off, spot⟩ := a
          refine ⟨[.sl .foreign []], CRel.one ?_ trivial, ?_⟩
          · exact .sl [] (P.cellsOf e) rfl rfl (by simp) (by simp) (by simp) (by simp) (Nat.zero_le _) trivial (.inr ⟨rfl, rfl⟩)
          · exact CV.sl (xs := []) hu (by simp) (Nat.zero_le _)
        have hspot : a.spot = none := by
          obtain ⟨cs, as, h2, _⟩ := key 0 (by omega)
          have h3 := cells_spot h2 hce
          have hz : a.add (0 * P.cellsOf e) = a := by unfold Addr.add; simp
          rwa [hz] at h3
        have ⟨cf, hcf⟩ : ∃ cf : Nat → List Value, ∀ i, i < len → ∃ as, W.cells? 0 (a.add (i * P.cellsOf e)) (P.cellsOf e) = some (cf i) ∧ CRel (gh0 W) as (cf i) ∧ CV P e as := by
          refine ⟨fun i => (W.cells? 0 (a.add (i * P.cellsOf e)) (P.cellsOf e)).getD [], fun i hi => ?_⟩
          obtain ⟨cs, as, h2, h3, h4⟩ := key i hi
          exact ⟨as, by simp [h2], by simpa [h2] using h3, h4⟩
        have ⟨af, haf⟩ : ∃ af : Nat → List AV, ∀ i, i < len → W.cells? 0 (a.add (i * P.cellsOf e)) (P.cellsOf e) = some (cf i) ∧ CRel (gh0 W) (af i) (cf i) ∧ CV P e (af i) := by
          open Classical in
          refine ⟨fun i => if h : i < len then Classical.choose (hcf i h) else [], fun i hi => ?_⟩
          simp only [hi, dif_pos]
          exact Classical.choose_spec (hcf i hi)
        have hspot2 : ∀ i, (a.add i).spot = none := by intro i; unfold Addr.add; split; exact hspot; rfl
        have hblk : ∀ i, (a.add i).block = a.block := by intro i; unfold Addr.add; split <;> rfl
        have hoff : ∀ i, (a.add i).off = a.off + i := by intro i; unfold Addr.add; split <;> simp_all
        have hcl : ∀ i, i < len → (cf i).length = P.cellsOf e := fun i hi => (cells_get (haf i hi).1 (hspot2 _)).1
        have hone : ∀ i, i < len → aggB P e = false → (cf i).length = 1 := fun i hi ha => by rw [hcl i hi]; exact h1 ha
        have hgcell : ∀ i, i < len → (wrapV (aggB P e) (cf i)).cells.toList = cf i := fun i hi => wrapV_cells (haf i hi).2.1 (hone i hi)
        have hsz' : ∀ u ∈ (List.range len).map fun i => wrapV (aggB P e) (cf i), u.cells.size = P.cellsOf e := by
          intro u hu
          simp only [List.mem_map, List.mem_range] at hu
          obtain ⟨i, hi, rfl⟩ := hu
          have := congrArg List.length (hgcell i hi)
          rw [hcl i hi] at this
          simpa using this
        have hgi : ∀ i u, ((List.range len).map fun i => wrapV (aggB P e) (cf i))[i]? = some u → i < len ∧ u = wrapV (aggB P e) (cf i) := by
          intro i u hu
          rw [List.getElem?_map, Option.map_eq_some_iff] at hu
          obtain ⟨j, hj, rfl⟩ := hu
          have hi : i < len := by have := (List.getElem?_eq_some_iff.1 hj).1; simpa using this
          rw [List.getElem?_range hi] at hj
          cases hj
          exact ⟨hi, rfl⟩
        refine ⟨[.sl .foreign (((List.range len).map af).map (wrapE (aggB P e)))], CRel.one ?_ trivial, .sl hu ?_ (by simp; omega)⟩
        · obtain ⟨b, off, spot⟩ := a
          simp only at hspot hblk hoff
          subst hspot
          refine .sl ((List.range len).map fun i => wrapV (aggB P e) (cf i)) (P.cellsOf e) (by simp) (by simp) hsz' ?_ ?_ ?_ hlc trivial (.inl rfl)
          · intro k v hv
            obtain ⟨i, j, u, rfl, hu, huv⟩ := flat_of hsz' k v hv
            obtain ⟨hi, rfl⟩ := hgi i u hu
            rw [hgcell i hi] at huv
            have := (cells_get (haf i hi).1 (hspot2 _)).2 j v huv
            rw [hblk, hoff] at this
            rw [← Nat.add_assoc]; exact this
          · intro j x u hx hu
            obtain ⟨hi, rfl⟩ := hgi j u hu
            simp only [List.map_map, List.getElem?_map, Option.map_eq_some_iff] at hx
            obtain ⟨j', hj', rfl⟩ := hx
            rw [List.getElem?_range hi] at hj'
            cases hj'
            exact wrap_rel (haf _ hi).2.1 (hone _ hi)
          · intro v hv
            obtain ⟨k, hk, hkv⟩ := List.getElem_of_mem hv
            obtain ⟨i, j, u, _, hu, huv⟩ := flat_of hsz' k v (by rw [List.getElem?_eq_getElem hk, hkv])
            obtain ⟨hi, rfl⟩ := hgi i u hu
            rw [hgcell i hi] at huv
            exact (haf i hi).2.1.cell v (List.mem_of_getElem? huv)
        · intro as has
          simp only [List.mem_map, List.mem_range] at has
          obtain ⟨i, hi, rfl⟩ := has
          exact (haf i hi).2.2
    · rename_i fs hu
      simp only [Bool.and_eq_true, beq_iff_eq, List.all_eq_true, List.contains_iff_mem] at hc
      obtain ⟨⟨htl, htn⟩, hfS⟩ := hc
      obtain ⟨xs, m, hm, rfl, hcl, hxl, hf⟩ := DataW.trod_struct hu hx
      have hmn : m = n := by omega
      subst hmn
      simp only [DataW.weights, hu] at hw
      obtain ⟨as, h1, h2⟩ := tiles_open (W := W) cs fs.toList 0 htl (fun f hf' => by
        obtain ⟨i, hi, hfi⟩ := List.getElem_of_mem hf'
        have hi' : i < fs.size := by simpa using hi
        have hfi' : fs[i]? = some f := by rw [Array.getElem?_eq_getElem hi']; simpa using hfi
        have h3 := hf i f hfi'
        rw [List.getElem?_eq_getElem (by omega)] at h3
        have h4 := weightsEach_get hw i f.type xs[i].1 (by rw [List.getElem?_map]; simp [hfi']) (by rw [List.getElem?_map, List.getElem?_eq_getElem (by omega)]; rfl)
        obtain ⟨as, q1, q2⟩ := ih f.type _ _ (hfS f hf') h3 h4
        exact ⟨as, q1, q2⟩) (by omega)
      rw [List.drop_zero, htn, ← hcl, List.take_length] at h1
      refine ⟨as, h1, .strct hu (fun i f hfi => ?_) (by have := h1.len; omega)⟩
      have := (h2 f (by
        have := Array.mem_of_getElem? hfi
        simpa using this)).2
      rwa [Nat.sub_zero] at this
    · cases hc
/-- a slice -/
theorem open_cv_slice {W : World} {S : List TypeId} (hS : closedB P S = true) {t : TypeId} {v : Value} {d : DataW H} {ps : List MemPlace} (ht : S.contains t = true) (hts : isSliceB P t = true) {r : Reach} {b0 : Nat}
    (hval : Value.okWide P W r b0 t v) (hd : DataW.Trod enc P W 0 (fun _ => true) true t v d ps) (hw : (d.weights P t).all (· ≤ reachBytes) = true) : ∃ x, VRel (gh0 W) x v ∧ CV P t [x] := by
  obtain ⟨fuel, hf⟩ := hd
  obtain ⟨a', len', cap', rfl⟩ := okWide_slice (isSlice_of hts) hval
  obtain ⟨as, h1, h2⟩ := open_cv hS fuel t _ _ (by simpa using ht) hf hw
  simp only [Value.cells] at h1
  have hl := h1.len
  simp at hl
  match as, hl with
  | [x], _ =>
    exact ⟨x, h1.rel 0 x _ rfl (by simp), h2⟩
variable {t e : TypeId} {as : List AV}
theorem CV.inv_slice (U : P.underlying t = some (.slice e)) (h : CV P t as) : ∃ (v : AV) (xs : List (List AV)), as = [v] ∧ HSl v (xs.map (wrapE (aggB P e))) ∧ (∀ x ∈ xs, CV P e x) ∧ xs.length ≤ reachBytes := by
  cases h with
  | bool h => rw [U] at h; cases h
  | int h => rw [U] at h; cases h
  | str h => rw [U] at h; cases h
  | nils h => exact ⟨.nils, [], rfl, .nil, by simp, Nat.zero_le _⟩
  | sl h h1 h2 =>
    rw [U] at h
    cases h
    exact ⟨_, _, rfl, .sl _ _, h1, h2⟩
  | strct h => rw [U] at h; cases h
theorem CV.inv_int {k : IntKind} (U : P.underlying t = some (.int k)) (h : CV P t as) : ∃ n, as = [.int k n] ∧ k.min ≤ n ∧ n ≤ k.max := by
  cases h with
  | bool h => rw [U] at h; cases h
  | int h h1 h2 => rw [U] at h; cases h; exact ⟨_, rfl, h1, h2⟩
  | str h => rw [U] at h; cases h
  | nils h => rw [U] at h; cases h
  | sl h => rw [U] at h; cases h
  | strct h => rw [U] at h; cases h
theorem CV.inv_str (U : P.underlying t = some .string) (h : CV P t as) : ∃ l : List UInt8, as = [.str (bs l)] ∧ l.length ≤ reachBytes := by
  cases h with
  | bool h => rw [U] at h; cases h
  | int h h1 h2 => rw [U] at h; cases h
  | @str _ s h h1 =>
    refine ⟨s.data.toList, by rw [bs_data], ?_⟩
    have : s.data.toList.length = s.size := Array.length_toList
    omega
  | nils h => rw [U] at h; cases h
  | sl h => rw [U] at h; cases h
  | strct h => rw [U] at h; cases h
theorem CV.inv_struct {fs : Array Field} (U : P.underlying t = some (.struct fs)) (h : CV P t as) : as.length = P.cellsOf t ∧ ∀ (i : Nat) (f : Field), fs[i]? = some f → CV P f.type ((as.drop f.offset).take (P.cellsOf f.type)) := by
  cases h with
  | bool h => rw [U] at h; cases h
  | int h h1 h2 => rw [U] at h; cases h
  | str h => rw [U] at h; cases h
  | nils h => rw [U] at h; cases h
  | sl h => rw [U] at h; cases h
  | strct h h1 h2 => rw [U] at h; cases h; exact ⟨h2, h1⟩
/-- a struct's fields: types and places -/
def fieldsAt (P : Program) (t : TypeId) : List (TypeId × Nat) := match P.underlying t with
  | some (.struct fs) => fs.toList.map fun f => (f.type, f.offset)
  | _ => []
theorem CV.inv_fields {l : List (TypeId × Nat)} (U : fieldsAt P t = l) (hl : l ≠ []) (h : CV P t as) : as.length = P.cellsOf t ∧ ∀ p ∈ l, CV P p.1 ((as.drop p.2).take (P.cellsOf p.1)) := by
  unfold fieldsAt at U
  split at U
  · rename_i fs hu
    obtain ⟨h1, h2⟩ := h.inv_struct hu
    refine ⟨h1, fun p hp => ?_⟩
    rw [← U] at hp
    obtain ⟨f, hf, rfl⟩ := List.mem_map.1 hp
    obtain ⟨i, hi, hfi⟩ := List.getElem_of_mem hf
    have hi' : i < fs.size := by simpa using hi
    exact h2 i f (by rw [Array.getElem?_eq_getElem hi']; simpa using hfi)
  · exact absurd U.symm hl
abbrev its0 (l : List Int) : List AV := l.map fun n => .int .i64 n
/-- a slice of numbers -/
theorem CV.ints {x : AV} (Us : P.underlying t = some (.slice e)) (Ue : P.underlying e = some (.int .i64)) (h : CV P t [x]) : ∃ l : List Int, HSl x (its0 l) ∧ l.length ≤ reachBytes ∧ ∀ n ∈ l, IntKind.i64.min ≤ n ∧ n ≤ IntKind.i64.max := by
  obtain ⟨v, xs, hv, h1, h2, h3⟩ := h.inv_slice Us
  cases hv
  have hag : aggB P e = false := by unfold aggB; rw [Ue]
  rw [hag] at h1
  have key : ∀ xs : List (List AV), (∀ x ∈ xs, CV P e x) → ∃ l : List Int, xs.map (wrapE false) = its0 l ∧ l.length = xs.length ∧ ∀ n ∈ l, IntKind.i64.min ≤ n ∧ n ≤ IntKind.i64.max := by
    intro xs
    induction xs with
    | nil => exact fun _ => ⟨[], rfl, rfl, by simp⟩
    | cons a xs ih =>
      intro h
      obtain ⟨n, rfl, n1, n2⟩ := (h a (by simp)).inv_int Ue
      obtain ⟨l, l1, l2, l3⟩ := ih fun x hx => h x (by simp [hx])
      exact ⟨n :: l, by simp [wrapE, l1, its0], by simp [l2], fun m hm => by
        rcases List.mem_cons.1 hm with rfl | hm
        · exact ⟨n1, n2⟩
        · exact l3 m hm⟩
  obtain ⟨l, l1, l2, l3⟩ := key xs h2
  rw [l1] at h1
  exact ⟨l, h1, by omega, l3⟩
end
end Go.AM
