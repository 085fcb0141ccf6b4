/-
  The abstract memory's numbers only grow.
-/
import Derived.Test.YtpffgljpkehgmaaAMCore
set_option linter.unusedVariables false
set_option linter.unusedSimpArgs false
namespace Go.AM
open Go
set_option linter.unusedSimpArgs false
set_option linter.unusedVariables false
@[simp] theorem next_alloc (m : Mem) (x : AO) : (m.alloc x).next = m.next + 1 := rfl
@[simp] theorem next_set (m : Mem) (i : Nat) (x : AO) : (m.set i x).next = m.next := rfl
/-- a memory of which nothing lies at or above the next number stays so, and what it has it keeps -/
def Step (m m' : Mem) : Prop := (∀ o, m.next ≤ o → m.obj o = none) → m.le m' ∧ ∀ o, m'.next ≤ o → m'.obj o = none
theorem Step.refl (m : Mem) : Step m m := fun h => ⟨.refl m, h⟩
theorem Step.trans {a b c : Mem} (h : Step a b) (k : Step b c) : Step a c := fun ha => ⟨(h ha).1.trans (k (h ha).2).1, (k (h ha).2).2⟩
theorem Step.alloc (m : Mem) (x : AO) : Step m (m.alloc x) := fun h =>
  ⟨Mem.le_alloc x (h _ (Nat.le_refl _)), fun o ho => by simp only [Mem.alloc] at ho ⊢; rw [if_neg (by omega)]; exact h o (by omega)⟩
theorem Step.set {m : Mem} {i : Nat} {y : AO} (x : AO) (hi : m.obj i = some y) : Step m (m.set i x) := fun h =>
  ⟨Mem.le_set m i x (by rw [hi]; simp), fun o ho => by
    simp only [Mem.set] at ho ⊢
    split
    · subst_vars; rw [h _ ho] at hi; cases hi
    · exact h o ho⟩
theorem Step.nx {m m1 m' : Mem} (h : Step m m1) (k : Step m1 m') (ha : ∀ o, m.next ≤ o → m.obj o = none) : m1.next ≤ m'.next := (k (h ha).2).1.next
theorem Step.up {m m' : Mem} (h : Step m m') (ha : ∀ o, m.next ≤ o → m.obj o = none) : m.next ≤ m'.next := (h ha).1.next
theorem aBox_next {m m' : Mem} {v p : AV} (h : aBox m v = some (p, m')) : Step m m' := by
  simp only [aBox, Option.map_eq_some_iff] at h
  obtain ⟨vs, _, h⟩ := h
  cases h; (first | exact .refl _ | exact .alloc _ _ | exact .set _ ‹_›)
theorem aFreeze_next {T : TypeId → Option AT} {m m' : Mem} {t : TypeId} {x v : AV} (h : aFreeze T m t x = some (v, m')) : Step m m' := by
  unfold aFreeze at h
  split at h
  · simp only [Option.bind_eq_some_iff] at h
    obtain ⟨ie, _, h⟩ := h
    split at h
    · cases h
    · split at h
      · split at h
        · cases h; (first | exact .refl _ | exact .alloc _ _ | exact .set _ ‹_›)
        · cases h
      · split at h
        · cases h; (first | exact .refl _ | exact .alloc _ _ | exact .set _ ‹_›)
        · cases h
      · cases h
  · cases h; (first | exact .refl _ | exact .alloc _ _ | exact .set _ ‹_›)
  · cases h; (first | exact .refl _ | exact .alloc _ _ | exact .set _ ‹_›)
  · cases h
theorem aStore_next {T : TypeId → Option AT} {m m' : Mem} {t : TypeId} {p v : AV} (h : aStore T m t p v = some m') : Step m m' := by
  simp only [aStore, Option.bind_eq_some_iff] at h
  obtain ⟨i, _, vs, _, h⟩ := h
  split at h
  · split at h
    · split at h
      · split at h
        · simp only [Option.map_eq_some_iff] at h
          obtain ⟨cs, _, rfl⟩ := h
          first | exact .refl _ | exact .alloc _ _ | exact .set _ ‹_›
        · cases h
      · cases h
    · cases h
  · cases h
theorem aMapUpdate_next {T : TypeId → Option AT} {m m' : Mem} {t : TypeId} {x k v : AV} (h : aMapUpdate T m t x k v = some m') : Step m m' := by
  unfold aMapUpdate at h
  split at h
  · simp only [Option.bind_eq_some_iff] at h
    obtain ⟨ik, _, h⟩ := h
    split at h
    · cases h
    · split at h
      · simp only [Option.map_eq_some_iff] at h
        obtain ⟨r, _, rfl⟩ := h
        split <;> (first | exact .refl _ | exact .alloc _ _ | exact .set _ ‹_›)
      · cases h
  · cases h
theorem aDelete_next {T : TypeId → Option AT} {m m' : Mem} {t : TypeId} {x k : AV} (h : aDelete T m t x k = some m') : Step m m' := by
  unfold aDelete at h
  split at h
  · simp only [Option.bind_eq_some_iff] at h
    obtain ⟨ik, _, h⟩ := h
    split at h
    · cases h
    · split at h
      · cases h; (first | exact .refl _ | exact .alloc _ _ | exact .set _ ‹_›)
      · split at h
        · simp only [Option.map_eq_some_iff] at h
          obtain ⟨r, _, rfl⟩ := h
          split <;> (first | exact .refl _ | exact .alloc _ _ | exact .set _ ‹_›)
        · cases h
      · cases h
  · cases h
theorem aMakeSlice_next {T : TypeId → Option AT} {md : Nat} {m m' : Mem} {t : TypeId} {l c v : AV} (h : aMakeSlice T md m t l c = some (v, m')) : Step m m' := by
  unfold aMakeSlice at h
  split at h
  · simp only [Option.bind_eq_some_iff] at h
    obtain ⟨ie, _, z, _, h⟩ := h
    split at h
    · split at h
      · split at h <;> cases h <;> (first | exact .refl _ | exact .alloc _ _ | exact .set _ ‹_›)
      · cases h; (first | exact .refl _ | exact .alloc _ _ | exact .set _ ‹_›)
    · cases h
  · cases h
theorem aAppend2_next {md : Nat} {m m' : Mem} {ie : AT} {s v : AV} {ys : List AV} (h : aAppend2 md m ie s ys = some (v, m')) : Step m m' := by
  unfold aAppend2 at h
  split at h
  · split at h
    · cases h
    · split at h
      · cases h; (first | exact .refl _ | exact .alloc _ _ | exact .set _ ‹_›)
      · split at h
        · simp only [Option.map_eq_some_iff] at h
          obtain ⟨cs, _, h⟩ := h
          cases h; (first | exact .refl _ | exact .alloc _ _ | exact .set _ ‹_›)
        · cases h; (first | exact .refl _ | exact .alloc _ _ | exact .set _ ‹_›)
  · split at h
    · cases h
    · split at h
      · cases h; (first | exact .refl _ | exact .alloc _ _ | exact .set _ ‹_›)
      · split at h
        · cases h
        · split at h
          · split at h
            · simp only [Option.map_eq_some_iff] at h
              obtain ⟨cs, _, h⟩ := h
              cases h; (first | exact .refl _ | exact .alloc _ _ | exact .set _ ‹_›)
            · cases h; (first | exact .refl _ | exact .alloc _ _ | exact .set _ ‹_›)
          · split at h
            · split at h
              · cases h; (first | exact .refl _ | exact .alloc _ _ | exact .set _ ‹_›)
              · cases h
            · cases h
          · cases h
          · cases h
  · split at h
    · cases h
    · split at h
      · cases h
      · split at h
        · cases h; (first | exact .refl _ | exact .alloc _ _ | exact .set _ ‹_›)
        · split at h
          · split at h
            · cases h
            · simp only [Option.bind_eq_some_iff] at h
              obtain ⟨zs, _, h⟩ := h
              split at h <;> cases h <;> (first | exact .refl _ | exact .alloc _ _ | exact .set _ ‹_›)
          · cases h
  · cases h
theorem aAppend_next {T : TypeId → Option AT} {md : Nat} {m m' : Mem} {st xt : TypeId} {s x v : AV} (h : aAppend T md m st xt s x = some (v, m')) : Step m m' := by
  unfold aAppend at h
  split at h
  · cases h
  · simp only [Option.bind_eq_some_iff] at h
    obtain ⟨ie, _, ys, _, h⟩ := h
    split at h
    · cases h
    · exact aAppend2_next h
  · cases h
theorem aRowSlice_next {T : TypeId → Option AT} {m m' : Mem} {t : TypeId} {n : Nat} {ps : List (Nat × AV)} {v : AV} (h : aRowSlice T m t n ps = some (v, m')) : Step m m' := by
  unfold aRowSlice at h
  split at h
  · simp only [Option.bind_eq_some_iff] at h
    obtain ⟨ie, _, h⟩ := h
    split at h
    · cases h
    · simp only [Option.bind_eq_some_iff, Option.map_eq_some_iff] at h
      obtain ⟨xs, _, cs, _, h⟩ := h
      cases h
      exact .alloc _ _
  · cases h
theorem aOp_next {T : TypeId → Option AT} {md : Nat} {ty : TypeId} {ρ : Operand → AV} {m m' : Mem} {o : Op} {v : AV} (h : aOp T md ty ρ m o = some (v, m')) : Step m m' := by
  cases o <;> simp only [aOp] at h
  case move x =>
    split at h
    · exact aFreeze_next h
    · cases h; (first | exact .refl _ | exact .alloc _ _ | exact .set _ ‹_›)
  case assign x =>
    split at h
    · exact aFreeze_next h
    · cases h; (first | exact .refl _ | exact .alloc _ _ | exact .set _ ‹_›)
  case alloc e =>
    simp only [Option.bind_eq_some_iff] at h
    obtain ⟨i, _, h⟩ := h
    exact aBox_next h
  case box e x => exact aBox_next h
  case store t x y =>
    simp only [Option.map_eq_some_iff] at h
    obtain ⟨m1, hm, h⟩ := h
    cases h; exact aStore_next hm
  case insert t x k y =>
    simp only [Option.map_eq_some_iff] at h
    obtain ⟨m1, hm, h⟩ := h
    cases h; exact aMapUpdate_next hm
  case mapUpdate t x k y =>
    simp only [Option.map_eq_some_iff] at h
    obtain ⟨m1, hm, h⟩ := h
    cases h; exact aMapUpdate_next hm
  case makeMap t r => cases r <;> simp only [] at h <;> cases h; (first | exact .refl _ | exact .alloc _ _ | exact .set _ ‹_›)
  case makeSlice t l c => exact aMakeSlice_next h
  case buildSlice t n ps =>
    split at h
    · exact aRowSlice_next h
    · simp only [Option.map_eq_some_iff] at h; obtain ⟨u, _, h⟩ := h; cases h; exact .refl _
  case pick c x y => split at h <;> cases h <;> (first | exact .refl _ | exact .alloc _ _ | exact .set _ ‹_›)
  case nilCheck x => split at h <;> cases h <;> (first | exact .refl _ | exact .alloc _ _ | exact .set _ ‹_›)
  case makeInterface t x => split at h <;> cases h; (first | exact .refl _ | exact .alloc _ _ | exact .set _ ‹_›)
  case makeFunc fn x y => cases fn <;> simp only [] at h <;> cases h; (first | exact .refl _ | exact .alloc _ _ | exact .set _ ‹_›)
  all_goals first
    | (cases h; done)
    | (simp only [Option.map_eq_some_iff] at h; obtain ⟨u, _, h⟩ := h; cases h; (first | exact .refl _ | exact .alloc _ _ | exact .set _ ‹_›))
theorem aBuiltin_next {T : TypeId → Option AT} {md : Nat} {m m' : Mem} {b : Builtin} {ts : List TypeId} {args : List AV} {v : AV} (h : aBuiltin T md m b ts args = some (v, m')) : Step m m' := by
  unfold aBuiltin at h
  split at h
  · simp only [Option.map_eq_some_iff] at h; obtain ⟨u, _, h⟩ := h; cases h; (first | exact .refl _ | exact .alloc _ _ | exact .set _ ‹_›)
  · exact aAppend_next h
  · simp only [Option.map_eq_some_iff] at h; obtain ⟨u, hu, h⟩ := h; cases h; exact aDelete_next hu
  · simp only [Option.map_eq_some_iff] at h; obtain ⟨u, _, h⟩ := h; cases h; (first | exact .refl _ | exact .alloc _ _ | exact .set _ ‹_›)
  · simp only [Option.map_eq_some_iff] at h; obtain ⟨u, _, h⟩ := h; cases h; (first | exact .refl _ | exact .alloc _ _ | exact .set _ ‹_›)
  · cases h
def CallMono (call : CallV) : Prop := ∀ f args m o m', call f args m = some (o, m') → Step m m'
section
variable {X : Ctx} {call : CallV} (hM : CallMono call)
include hM
theorem aOper_next {f r i : Nat} {o : Oper} {a : AAct} {m m' : Mem} {out : AOut} (h : aOper X call f r i o a m = some (out, m')) : Step m m' := by
  unfold aOper at h
  split at h
  · split at h
    · simp only [Option.map_eq_some_iff] at h; obtain ⟨u, hu, h⟩ := h; cases h; exact aBuiltin_next hu
    · split at h
      · exact hM _ _ _ _ _ h
      · cases h
    · cases h
  · split at h <;> cases h; (first | exact .refl _ | exact .alloc _ _ | exact .set _ ‹_›)
  · simp only [Option.map_eq_some_iff] at h; obtain ⟨u, hu, h⟩ := h; cases h; exact aOp_next hu
omit hM in
theorem aGuard_some {α : Type} {all : List Oper} {o : Oper} {a : AAct} {k : Bool → AAct → Option α} {r : α} (h : aGuard all o a k none = some r) : ∃ wd a2, k wd a2 = some r := by
  unfold aGuard at h
  split at h
  · exact ⟨_, _, h⟩
  · split at h
    · cases h
    · split at h
      · exact ⟨_, _, h⟩
      · exact ⟨_, _, h⟩
      · exact ⟨_, _, h⟩
      · cases h
theorem aOps_next {f r : Nat} {all : List Oper} : ∀ (ops : List Oper) (i : Nat) {a a' : AAct} {m m' : Mem} {e : AExit}, aOps X call f r all i ops a m = some (e, a', m') → Step m m'
  | [], i, a, a', m, m', e, h => by cases h; exact Step.refl _
  | o :: ops, i, a, a', m, m', e, h => by
    simp only [aOps] at h
    obtain ⟨wd, a2, h⟩ := aGuard_some h
    split at h
    · simp only [Option.bind_eq_some_iff] at h
      obtain ⟨⟨out, m1⟩, ho, h⟩ := h
      have h1 := aOper_next hM ho
      cases out with
      | ret v => exact Step.trans h1 (aOps_next ops (i + 1) h)
      | pan v => cases h; exact h1
    · exact aOps_next ops (i + 1) h
theorem aRegion_next {f r : Nat} {ops : List Oper} {draw : Bool} {a a' : AAct} {m m' : Mem} {e : AExit} (h : aRegion X call f r ops draw a m = some (e, a', m')) : Step m m' := by
  simp only [aRegion, Option.bind_eq_some_iff] at h
  obtain ⟨⟨e1, a1, m1⟩, ho, h⟩ := h
  have h1 := aOps_next hM ops 0 ho
  cases e1 with
  | normal =>
    simp only [] at h
    split at h
    · split at h
      · cases h; exact h1
      · cases h
    · cases h; exact h1
  | _ =>
    simp only [] at h
    split at h
    · cases h
    · cases h; exact h1
omit hM in
theorem aLoop_next {ks : List Nat} {body : AAct → Mem → Option (AExit × AAct × Mem)} (hb : ∀ a m e a' m', body a m = some (e, a', m') → Step m m') : ∀ (n : Nat) {a a' : AAct} {m m' : Mem} {e : AExit}, aLoop ks body n a m = some (e, a', m') → Step m m'
  | 0, a, a', m, m', e, h => by cases h
  | n + 1, a, a', m, m', e, h => by
    simp only [aLoop, Option.bind_eq_some_iff] at h
    obtain ⟨⟨e1, a1, m1⟩, ho, h⟩ := h
    have h1 := hb _ _ _ _ _ ho
    cases e1 with
    | normal => exact Step.trans h1 (aLoop_next hb n h)
    | _ => cases h; exact h1
theorem aExec_next {n f : Nat} : ∀ (c : Code) (bid : Nat) {a a' : AAct} {m m' : Mem} {e : AExit}, aExec X call n f bid c a m = some (e, a', m') → Step m m' := by
  intro c
  induction c with
  | skip => intro bid a a' m m' e h; cases h; exact Step.refl _
  | label l => intro bid a a' m m' e h; cases h; exact Step.refl _
  | region id ops draw => intro bid a a' m m' e h; exact aRegion_next hM h
  | seq x y ihx ihy =>
    intro bid a a' m m' e h
    simp only [aExec, Option.bind_eq_some_iff] at h
    obtain ⟨⟨e1, a1, m1⟩, ho, h⟩ := h
    have h1 := ihx bid ho
    cases e1 with
    | normal => exact Step.trans h1 (ihy bid h)
    | _ => cases h; exact h1
  | cond c x y ihx ihy =>
    intro bid a a' m m' e h
    cases c with
    | tmp t =>
      simp only [aExec] at h
      split at h
      · exact ihx bid h
      · exact ihy bid h
      · cases h
    | const v =>
      cases v <;> simp only [aExec] at h <;> try (cases h; done)
      split at h
      · exact ihx bid h
      · exact ihy bid h
    | _ => simp only [aExec] at h; cases h
  | block id c ih =>
    intro bid a a' m m' e h
    simp only [aExec, Option.bind_eq_some_iff] at h
    obtain ⟨⟨e1, a1, m1⟩, ho, h⟩ := h
    have h1 := ih id ho
    cases e1 with
    | exit id' => simp only [] at h; split at h <;> cases h <;> exact h1
    | _ => cases h; exact h1
  | loop c ih =>
    intro bid a a' m m' e h
    exact aLoop_next (fun a m e a' m' h => ih bid h) n h
  | scope c ih => intro bid a a' m m' e h; exact ih bid h
  | exit id => intro bid a a' m m' e h; cases h; exact Step.refl _
  | ret => intro bid a a' m m' e h; cases h; exact Step.refl _
  | rangeFunc f p x y _ _ => intro bid a a' m m' e h; cases h
  | goto l => intro bid a a' m m' e h; cases h
  | refuse w => intro bid a a' m m' e h; cases h
theorem aBody_next {n f : Nat} {fn : Func} {args : List AV} {m m' : Mem} {o : AOut} (h : aBody X call n f fn args m = some (o, m')) : Step m m' := by
  unfold aBody at h
  split at h
  · cases h
  · simp only [Option.bind_eq_some_iff] at h
    obtain ⟨⟨e, a, m1⟩, ho, h⟩ := h
    have h1 := aExec_next hM _ _ ho
    unfold aFinish at h
    split at h
    · split at h
      · simp only [Option.map_eq_some_iff] at h; obtain ⟨u, _, h⟩ := h; cases h; exact h1
      · simp only [Option.map_eq_some_iff] at h; obtain ⟨u, _, h⟩ := h; cases h; exact h1
      · cases h; exact h1
      · cases h
    · cases h
end
def PrimMono (X : Ctx) : Prop := ∀ f p, X.prim f = some p → ∀ args m o m', p args m = some (o, m') → Step m m'
theorem aCall_mono {X : Ctx} (hP : PrimMono X) : ∀ n, CallMono (aCall X n)
  | 0 => fun f args m o m' h => by cases h
  | n + 1 => fun f args m o m' h => by
    simp only [aCall] at h
    split at h
    · exact hP f _ ‹_› args m o m' h
    · split at h
      · exact aBody_next (aCall_mono hP n) h
      · cases h
end Go.AM
