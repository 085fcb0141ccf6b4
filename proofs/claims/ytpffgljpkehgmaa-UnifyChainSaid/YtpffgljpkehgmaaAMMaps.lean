/-
  Maps with int keys over the machine.
-/
import Derived.Test.YtpffgljpkehgmaaAMS
set_option linter.unusedVariables false
set_option linter.unusedSimpArgs false
namespace Go.AM
open Go
set_option linter.unusedSimpArgs false
abbrev iks (l : List (Int × AV)) : List (AV × AV) := l.map fun e => (.int .i64 e.1, e.2)
def mget : List (Int × AV) → Int → Option AV
  | [], _ => none
  | e :: l, k => if e.1 = k then some e.2 else mget l k
def mput : List (Int × AV) → Int → AV → List (Int × AV)
  | [], k, v => [(k, v)]
  | e :: l, k, v => if e.1 = k then (k, v) :: l else e :: mput l k v
theorem mget_put : ∀ (l : List (Int × AV)) (k : Int) (v : AV) (j : Int), mget (mput l k v) j = if j = k then some v else mget l j
  | [], k, v, j => by
    simp only [mput, mget]
    by_cases h : k = j
    · subst h; simp
    · rw [if_neg h, if_neg (Ne.symm h)]
  | e :: l, k, v, j => by
    simp only [mput]
    by_cases h : e.1 = k
    · rw [if_pos h]
      simp only [mget]
      by_cases h2 : k = j
      · subst h2; simp
      · rw [if_neg h2, if_neg (Ne.symm h2), if_neg (by omega)]
    · rw [if_neg h]
      simp only [mget, mget_put l k v j]
      by_cases h2 : e.1 = j
      · rw [if_pos h2, if_pos h2, if_neg (by omega)]
      · rw [if_neg h2, if_neg h2]
theorem mput_new : ∀ {l : List (Int × AV)} {k : Int} {v : AV}, mget l k = none → (mput l k v).length = l.length + 1
  | [], k, v, _ => rfl
  | e :: l, k, v, h => by
    simp only [mget] at h
    by_cases hk : e.1 = k
    · rw [if_pos hk] at h; cases h
    · rw [if_neg hk] at h
      simp only [mput, if_neg hk, List.length_cons, mput_new h]
theorem mapFind_iks (k : Int) : ∀ (l : List (Int × AV)) (i : Nat), (∃ j v, mapFind (.int .i64 k) (iks l) i = some (some (i + j, v)) ∧ mget l k = some v ∧ ∀ w, (iks l).set j (.int .i64 k, w) = iks (mput l k w)) ∨
    (mapFind (.int .i64 k) (iks l) i = some none ∧ mget l k = none ∧ ∀ w, iks l ++ [(.int .i64 k, w)] = iks (mput l k w))
  | [], i => .inr ⟨rfl, rfl, fun _ => rfl⟩
  | e :: l, i => by
    have hk : keyEq (.int .i64 k) (.int .i64 e.1) = some (k == e.1) := by simp [keyEq]
    by_cases h : e.1 = k
    · left
      refine ⟨0, e.2, ?_, by simp only [mget, if_pos h], fun w => by simp only [mput, if_pos h, List.map_cons, List.set_cons_zero]⟩
      simp only [List.map_cons, mapFind, hk, Option.bind_some]
      rw [if_pos (by simp [h])]; rfl
    · have hb : (k == e.1) = false := by simpa using Ne.symm h
      have hf : mapFind (.int .i64 k) (iks (e :: l)) i = mapFind (.int .i64 k) (iks l) (i + 1) := by
        simp only [List.map_cons, mapFind, hk, Option.bind_some, hb]
        rw [if_neg (by simp)]
      rcases mapFind_iks k l (i + 1) with ⟨j, v, h1, h2, h3⟩ | ⟨h1, h2, h3⟩
      · left
        refine ⟨j + 1, v, by rw [hf, h1, show i + 1 + j = i + (j + 1) by omega], by simp only [mget, if_neg h, h2], fun w => ?_⟩
        simp only [mput, if_neg h, List.map_cons, List.set_cons_succ]
        exact congrArg _ (h3 w)
      · right
        refine ⟨by rw [hf, h1], by simp only [mget, if_neg h, h2], fun w => ?_⟩
        simp only [mput, if_neg h, List.map_cons, List.cons_append]
        exact congrArg _ (h3 w)
theorem lookup_iks {m : Mem} {o : Nat} {l : List (Int × AV)} (h : m.obj o = some (.map (iks l))) {K A : AT} (hK : fitKey K.d (.int .i64 0) = true) (k : Int) :
    rLookup K A m (.map o) (.int .i64 k) true = some (match mget l k with | some v => .tup [v, .bool true] | none => .tup [A.zero, .bool false]) := by
  have hK' : fitKey K.d (.int .i64 k) = true := by
    cases hd : K.d <;> rw [hd] at hK <;> simp [fitKey] at hK ⊢ <;> assumption
  unfold rLookup
  rw [if_neg (by simp [hK'])]
  simp only [mapEntries, h, Option.bind_some]
  rcases mapFind_iks k l 0 with ⟨j, v, h1, h2, h3⟩ | ⟨h1, h2, h3⟩
  · rw [h1, h2]; rfl
  · rw [h1, h2]; rfl
theorem update_iks {m : Mem} {o : Nat} {l : List (Int × AV)} (h : m.obj o = some (.map (iks l))) {K : AT} (hK : fitKey K.d (.int .i64 0) = true) (k : Int) (v : AV) :
    rMapUpdate K m (.map o) (.int .i64 k) v = some (m.set o (.map (iks (mput l k v)))) := by
  have hK' : fitKey K.d (.int .i64 k) = true := by
    cases hd : K.d <;> rw [hd] at hK <;> simp [fitKey] at hK ⊢ <;> assumption
  unfold rMapUpdate
  simp only [hK', h]
  rw [if_neg (by simp)]
  rcases mapFind_iks k l 0 with ⟨j, w, h1, h2, h3⟩ | ⟨h1, h2, h3⟩
  · rw [h1, ← h3 v]; simp
  · rw [h1, ← h3 v]; rfl
end Go.AM
