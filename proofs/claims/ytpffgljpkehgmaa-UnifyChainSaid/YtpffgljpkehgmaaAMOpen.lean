/-
  A law's arguments as the machine's values: numbers, bools, texts, structs of these, slices of these.
-/
import Derived.Test.YtpffgljpkehgmaaAMLaw
import Derived.Test.YtpffgljpkehgmaaAMS
import Derived.ChangeArms
set_option linter.unusedVariables false
set_option linter.unusedSimpArgs false
namespace Go.AM
open Go Go.RowKit Go.WideShapes Go.ChangeShapes
set_option linter.unusedSimpArgs false
set_option linter.unusedVariables false
inductive Kd where
  | int (k : IntKind) | bool | str
  deriving DecidableEq
def flatFields (P : Program) (F : TypeId → Option (List Kd)) : List Field → Nat → Option (List Kd)
  | [], _ => some []
  | f :: fs, off => if f.offset = off then (F f.type).bind fun ks => if ks.length = P.cellsOf f.type then (flatFields P F fs (off + ks.length)).map (ks ++ ·) else none else none
def flatK (P : Program) : Nat → TypeId → Option (List Kd)
  | 0, _ => none
  | n + 1, t => match P.underlying t with
    | some .bool => some [.bool]
    | some (.int k) => some [.int k]
    | some .string => some [.str]
    | some (.struct fs) => (flatFields P (flatK P n) fs.toList 0).bind fun ks => if ks.length = P.cellsOf t then some ks else none
    | _ => none
def KdFits : Kd → AV → Prop
  | .int k, .int k' n => k' = k ∧ k.min ≤ n ∧ n ≤ k.max
  | .bool, .bool _ => True
  | .str, .str s => s.size ≤ maxLen
  | _, _ => False
def FlatFits : List Kd → List AV → Prop
  | [], [] => True
  | k :: ks, a :: as => KdFits k a ∧ FlatFits ks as
  | _, _ => False
theorem FlatFits.append : ∀ {ks ls : List Kd} {as bs : List AV}, FlatFits ks as → FlatFits ls bs → FlatFits (ks ++ ls) (as ++ bs)
  | [], _, [], _, _, h => h
  | k :: ks, _, a :: as, _, h, h' => ⟨h.1, FlatFits.append h.2 h'⟩
  | [], _, _ :: _, _, h, _ => h.elim
  | _ :: _, _, [], _, h, _ => h.elim
section
variable {H : Type} {enc : TypeId × Value → H} {P : Program}
def elemT (P : Program) (t : TypeId) : TypeId := match P.underlying t with
  | some (.slice e) => e
  | _ => 0
def isSliceB (P : Program) (t : TypeId) : Bool := match P.underlying t with
  | some (.slice _) => true
  | _ => false
theorem isSlice_of {P : Program} {t : TypeId} (h : isSliceB P t = true) : P.underlying t = some (.slice (elemT P t)) := by
  unfold isSliceB at h
  unfold elemT
  split at h
  · rename_i e he; simp only [he]
  · cases h
def wrapE (agg : Bool) (cs : List AV) : AV := if agg then .agg cs else cs.headD .undef
def wrapV (agg : Bool) (cs : List Value) : Value := if agg then .agg cs.toArray else cs.headD Go.undef
theorem wrapV_cells {agg : Bool} {cs : List Value} {Γ : Gh} {as : List AV} (h : CRel Γ as cs) (h1 : agg = false → cs.length = 1) : (wrapV agg cs).cells.toList = cs := by
  cases agg with
  | true => simp [wrapV, Value.cells]
  | false =>
    match cs, h1 rfl with
    | [c], _ =>
      have := h.cell c (by simp)
      cases c <;> simp_all [wrapV, Value.cells, Cellish]
theorem wrap_rel {agg : Bool} {cs : List Value} {Γ : Gh} {as : List AV} (h : CRel Γ as cs) (h1 : agg = false → cs.length = 1) : VRel Γ (wrapE agg as) (wrapV agg cs) := by
  cases agg with
  | true => exact .agg (by simpa using h.len) (fun i a v ha hv => h.rel i a v ha (by simpa using hv)) (by simpa using h.cell)
  | false =>
    match cs, as, h1 rfl, h.len with
    | [c], [a], _, _ => exact h.rel 0 a c rfl rfl
theorem mapM_range_get {β : Type} {f : Nat → Option β} {n : Nat} {l : List β} (h : (List.range n).mapM f = some l) : l.length = n ∧ ∀ j, j < n → f j = l[j]? :=
  ⟨by simpa using mapM_some_length h, fun j hj => mapM_some_get h j j (by simp [hj])⟩
theorem cells_get {W : World} {a : Addr} {n : Nat} {cs : List Value} (h : W.cells? 0 a n = some cs) (hs : a.spot = none) : cs.length = n ∧ ∀ j v, cs[j]? = some v → im (gh0 W) a.block (a.off + j) = some v := by
  unfold World.cells? at h
  rw [if_pos (Nat.zero_le _)] at h
  obtain ⟨h1, h2⟩ := mapM_range_get h
  refine ⟨h1, fun j v hj => ?_⟩
  have hjn : j < n := by rw [← h1]; exact (List.getElem?_eq_some_iff.1 hj).1
  have := h2 j hjn
  rw [hj] at this
  unfold im
  simp only [gh0, role0]
  unfold World.cell? at this
  have hb : (a.add j).block = a.block := by unfold Addr.add; split <;> rfl
  have ho : (a.add j).off = a.off + j := by unfold Addr.add; split <;> simp_all
  rw [hb, ho] at this
  cases hh : W.heap[a.block]? with
  | none => rw [hh] at this; cases this
  | some o =>
    rw [hh] at this
    cases o with
    | cells c e f =>
      simp only [Role.known] at this ⊢
      split at this
      · cases this
      · simpa using this
    | _ => cases this
theorem flat_of {gs : List Value} {sz : Nat} (hsz : ∀ u ∈ gs, u.cells.size = sz) : ∀ (k : Nat) (v : Value), (gs.flatMap fun u => u.cells.toList)[k]? = some v → ∃ i j u, k = i * sz + j ∧ gs[i]? = some u ∧ u.cells.toList[j]? = some v := by
  induction gs with
  | nil => intro k v h; simp at h
  | cons g gs ih =>
    intro k v h
    have hg := hsz g (by simp)
    rw [List.flatMap_cons] at h
    by_cases hk : k < sz
    · rw [List.getElem?_append_left (by simp [hg]; omega)] at h
      exact ⟨0, k, g, by omega, rfl, h⟩
    · rw [List.getElem?_append_right (by simp [hg]; omega)] at h
      obtain ⟨i, j, u, h1, h2, h3⟩ := ih (fun u hu => hsz u (by simp [hu])) _ v h
      refine ⟨i + 1, j, u, ?_, by simpa using h2, h3⟩
      simp [hg] at h1
      rw [Nat.succ_mul]; omega
end
end Go.AM
