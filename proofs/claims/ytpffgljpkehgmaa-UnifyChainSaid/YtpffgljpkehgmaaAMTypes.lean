/-
  What the table of types must say of a program, and the first operations: those that only reckon.
-/
import Derived.Test.YtpffgljpkehgmaaAMRel
import Derived.Laws.Sem
import Derived.Laws.Cells
import Derived.Laws.Entries
set_option linter.unusedVariables false
set_option linter.unusedSimpArgs false
namespace Go.AM
open Go
set_option linter.unusedSimpArgs false
set_option linter.unusedVariables false
def dOk : TypeDesc → AD → Bool
  | .bool, .bool => true
  | .int k, .int k' => k == k'
  | .string, .str => true
  | .pointer e, .ptr e' => e == e'
  | .slice e, .slice e' => e == e'
  | .array n e, .arr n' e' => n == n' && e == e'
  | .map k e, .map k' e' => k == k' && e == e'
  | .struct fs, .strct gs => (fs.toList.map fun f => (f.offset, f.type, f.name != "_")) == gs
  | .interface ms, .iface b => ms.isEmpty == b
  | .func _ _ _, .func => true
  | _, _ => false
def cellishB : Value → Bool
  | .agg _ => false
  | .tuple _ => false
  | _ => true
def zOk : Value → Bool
  | .agg cs => cs.toList.all cellishB
  | .tuple _ => false
  | _ => true
def AD.isStrct : AD → Bool
  | .strct _ => true
  | _ => false
structure TyOk (P : Program) (t : TypeId) (i : AT) : Prop where
  info : ∃ inf z, P.info? t = some inf ∧ inf.size = i.size ∧ inf.bytes = i.bytes ∧ inf.comparable = i.comparable ∧ inf.zero = some z ∧ i.zero = absC z ∧ zOk z = true
  desc : ∃ d, P.underlying t = some d ∧ dOk d i.d = true
  guarded : P.eqGuardType P.depth t = i.guarded
  stood : i.d.isStrct = true → P.stoodInHeld t = false
def TOk (P : Program) (T : TypeId → Option AT) : Prop := ∀ t i, T t = some i → TyOk P t i
theorem cellish_of_B {v : Value} (h : cellishB v = true) : Cellish v := by cases v <;> simp_all [cellishB, Cellish]
theorem absS_rel (Γ : Gh) (v : Value) : VRel Γ (absS v) v := by
  unfold absS
  split <;> first
    | exact .bool _ | exact .int _ _ | exact .str _ | exact .nilp | exact .nils | exact .nilm | exact .nilf | exact .nili | exact .undef _
theorem absC_rel (Γ : Gh) (v : Value) (h : zOk v = true ∨ cellishB v = true ∨ ∃ vs, v = .tuple vs) : VRel Γ (absC v) v := by
  unfold absC
  split
  · rename_i cs
    rcases h with h | h | ⟨vs, h⟩
    · refine .agg (by simp) (fun i a u ha hu => ?_) (fun u hu => ?_)
      · rw [List.getElem?_map] at ha
        rw [← Array.getElem?_toList] at hu
        rw [hu] at ha
        simp only [Option.map_some, Option.some.injEq] at ha
        subst ha
        exact absS_rel Γ u
      · simp only [zOk, List.all_eq_true] at h
        exact cellish_of_B (h u hu)
    · simp [cellishB] at h
    · cases h
  · exact absS_rel Γ v
section
variable {P : Program} {T : TypeId → Option AT} (hT : TOk P T)
include hT
theorem run_typeInfo_T {t : TypeId} {i : AT} (h : T t = some i) (w : World) : ∃ inf z, (typeInfo t).run P w = .ok inf w ∧ inf.size = i.size ∧ inf.bytes = i.bytes ∧ inf.comparable = i.comparable ∧ inf.zero = some z ∧ i.zero = absC z ∧ zOk z = true := by
  obtain ⟨inf, z, hi, h1, h2, h3, h4⟩ := (hT t i h).info
  exact ⟨inf, z, by simp [typeInfo, hi], h1, h2, h3, h4⟩
theorem run_sizeOf_T {t : TypeId} {i : AT} (h : T t = some i) (w : World) : (sizeOf t).run P w = .ok i.size w := by
  obtain ⟨inf, z, hr, h1, _⟩ := run_typeInfo_T hT h w
  simp [sizeOf, hr, h1]
theorem run_zero_T (Γ : Gh) {t : TypeId} {i : AT} (h : T t = some i) (w : World) : ∃ z, (zeroValue t).run P w = .ok z w ∧ VRel Γ i.zero z ∧ zOk z = true := by
  obtain ⟨inf, z, hr, _, _, _, hz, ha, hk⟩ := run_typeInfo_T hT h w
  exact ⟨z, by simp [zeroValue, hr, hz], ha ▸ absC_rel Γ z (.inl hk), hk⟩
theorem run_underlying_T {t : TypeId} {d : AD} (h : aD T t = some d) (w : World) : ∃ D, (underlying t).run P w = .ok D w ∧ P.underlying t = some D ∧ dOk D d = true := by
  unfold aD at h
  cases ht : T t with
  | none => rw [ht] at h; cases h
  | some i =>
    rw [ht] at h
    simp only [Option.map_some, Option.some.injEq] at h
    subst h
    obtain ⟨D, hD, hk⟩ := (hT t i ht).desc
    exact ⟨D, run_underlying hD w, hD, hk⟩
theorem run_isAgg_T {t : TypeId} {i : AT} (h : T t = some i) (w : World) : (isAgg t).run P w = .ok i.d.isAgg w := by
  obtain ⟨D, hD, hu, hk⟩ := run_underlying_T hT (t := t) (d := i.d) (by simp [aD, h]) w
  simp only [isAgg, Sem.run_bind, hD, Result.andThen_ok]
  cases D <;> cases hd : i.d <;> simp_all [dOk, AD.isAgg]
theorem run_part_T {Γ : Gh} {t : TypeId} {i : AT} (h : T t = some i) {cs : List AV} {vs : Array Value} (hr : CRel Γ cs vs.toList) {off : Nat} {v : AV}
    (hp : partOf i.d.isAgg i.size cs off = some v) (w : World) : ∃ u, (part t vs off).run P w = .ok u w ∧ VRel Γ v u := by
  unfold partOf at hp
  simp only [part, Sem.run_bind, run_isAgg_T hT h, Result.andThen_ok]
  cases ha : i.d.isAgg with
  | true =>
    rw [ha] at hp
    simp only [if_true] at hp
    split at hp
    · rename_i hle
      simp only [Option.some.injEq] at hp
      subst hp
      simp only [if_true, Sem.run_bind, run_sizeOf_T hT h, Result.andThen_ok, Sem.run_pure]
      refine ⟨_, rfl, ?_⟩
      have k := (hr.drop off).take i.size
      have e : (vs.extract off (off + i.size)).toList = (vs.toList.drop off).take i.size := by
        simp [Array.toList_extract, List.extract_eq_take_drop, List.extract]
      refine .agg ?_ (fun j a u h1 h2 => ?_) (fun u hu => ?_)
      · rw [← Array.length_toList, e]; exact k.len
      · rw [← Array.getElem?_toList, e] at h2; exact k.rel j a u h1 h2
      · rw [e] at hu; exact k.cell u hu
    · cases hp
  | false =>
    rw [ha] at hp
    simp only [Bool.false_eq_true, if_false] at hp ⊢
    obtain ⟨u, hu, hv, _⟩ := hr.get hp
    rw [Array.getElem?_toList] at hu
    exact ⟨u, by simp [hu], hv⟩
end
structure ActRel (Γ : Gh) (a : AAct) (b : Act) : Prop where
  len : b.tmps.size = a.tmps.length
  rel : ∀ (t : Nat) x v, a.tmps[t]? = some x → b.tmps[t]? = some v → VRel Γ x v
  defers : a.defers = [] → b.defers = []
theorem ActRel.mono {Γ Γ' : Gh} (h : Γ.le Γ') {a : AAct} {b : Act} (k : ActRel Γ a b) : ActRel Γ' a b :=
  ⟨k.len, fun t x v hx hv => (k.rel t x v hx hv).mono h, k.defers⟩
theorem ActRel.tmp {Γ : Gh} {a : AAct} {b : Act} (k : ActRel Γ a b) (t : Nat) : VRel Γ (a.tmps.getD t .undef) (b.tmps.getD t Go.undef) := by
  rcases Nat.lt_or_ge t a.tmps.length with h | h
  · have h' : t < b.tmps.size := by rw [k.len]; exact h
    have := k.rel t a.tmps[t] b.tmps[t] (List.getElem?_eq_getElem h) (Array.getElem?_eq_getElem h')
    simpa [List.getD, h, Array.getD, h'] using this
  · have h' : ¬ t < b.tmps.size := by rw [k.len]; omega
    have e : a.tmps.getD t .undef = .undef := by simp [List.getD, List.getElem?_eq_none h]
    rw [e]
    exact .undef _
/-- the operand can be told -/
def opOk : Operand → Bool
  | .const v => zOk v || cellishB v || (match v with | .tuple _ => true | _ => false)
  | _ => true
theorem ActRel.eval {Γ : Gh} {a : AAct} {b : Act} (k : ActRel Γ a b) (x : Operand) (hx : opOk x = true) : VRel Γ (a.eval x) (b.eval x) := by
  cases x with
  | tmp t => exact k.tmp t
  | const v =>
    refine absC_rel Γ v ?_
    simp only [opOk, Bool.or_eq_true] at hx
    rcases hx with (h | h) | h
    · exact .inl h
    · exact .inr (.inl h)
    · cases v <;> first | (simp at h; done) | exact .inr (.inr ⟨_, rfl⟩)
  | global g => exact .undef _
  | func f => exact .fn (by simp) (by simp) (fun i a v h => by simp at h) (fun i a v h => by simp at h)
theorem ActRel.put {Γ : Gh} {a : AAct} {b : Act} (k : ActRel Γ a b) (d : Option Tmp) {x : AV} {v : Value} (h : VRel Γ x v) : ActRel Γ (a.put d x) (b.put d v) := by
  cases d with
  | none => exact k
  | some t =>
    refine ⟨by simp [AAct.put, Act.put, k.len], fun s y u hy hu => ?_, k.defers⟩
    simp only [AAct.put, Act.put] at hy hu
    rw [List.getElem?_set] at hy
    rw [Array.getElem?_setIfInBounds] at hu
    split at hy
    · rename_i e
      subst e
      simp only [if_true] at hu
      split at hy
      · split at hu
        · cases hy; cases hu; exact h
        · cases hu
      · cases hy
    · rename_i e
      rw [if_neg e] at hu
      exact k.rel s y u hy hu
end Go.AM
