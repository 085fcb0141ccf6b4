/-
  The abstract machine without fuel: the limit of its runs.
-/
import Derived.Test.YtpffgljpkehgmaaAMDraw
set_option linter.unusedVariables false
set_option linter.unusedSimpArgs false
namespace Go.AM
open Go
set_option linter.unusedSimpArgs false
set_option linter.unusedVariables false
open Classical in
noncomputable def lim {α : Type} (s : Nat → Option α) : Option α := if h : ∃ r, ∃ n, s n = some r then some (Classical.choose h) else none
def Mono {α : Type} (s : Nat → Option α) : Prop := ∀ n n' r, n ≤ n' → s n = some r → s n' = some r
theorem lim_some {α : Type} {s : Nat → Option α} (hs : Mono s) {n : Nat} {r : α} (h : s n = some r) : lim s = some r := by
  unfold lim
  have hx : ∃ r, ∃ n, s n = some r := ⟨r, n, h⟩
  rw [dif_pos hx]
  obtain ⟨k, hk⟩ := Classical.choose_spec hx
  have h1 := hs n (max n k) r (Nat.le_max_left _ _) h
  have h2 := hs k (max n k) _ (Nat.le_max_right _ _) hk
  rw [h1] at h2
  exact h2.symm
theorem of_lim {α : Type} {s : Nat → Option α} {r : α} (h : lim s = some r) : ∃ n, s n = some r := by
  unfold lim at h
  split at h
  · rename_i hx
    cases h
    exact Classical.choose_spec hx
  · cases h
def CallLe (c c' : CallV) : Prop := ∀ f args m r, c f args m = some r → c' f args m = some r
section
variable {X : Ctx} {c c' : CallV} (hc : CallLe c c')
include hc
theorem aOper_le {f r i : Nat} {o : Oper} {a : AAct} {m : Mem} {p : AOut × Mem} (h : aOper X c f r i o a m = some p) : aOper X c' f r i o a m = some p := by
  unfold aOper at h ⊢
  split at h
  · rename_i cl hcl
    split at h
    · exact h
    · rename_i g hcal
      split at h
      · exact hc _ _ _ _ h
      · cases h
    · cases h
  · exact h
  · exact h
theorem aOps_le {f r : Nat} {all : List Oper} : ∀ (os : List Oper) (i : Nat) {a : AAct} {m : Mem} {p : AExit × AAct × Mem}, aOps X c f r all i os a m = some p → aOps X c' f r all i os a m = some p
  | [], i, a, m, p, h => h
  | o :: os, i, a, m, p, h => by
    simp only [aOps, aGuard_want] at h ⊢
    cases hw : aWant all o a with
    | none => rw [hw] at h; cases h
    | some wd =>
      rw [hw] at h
      simp only [] at h ⊢
      cases wd with
      | false => simp only [Bool.false_eq_true, if_false] at h ⊢; exact aOps_le os (i + 1) h
      | true =>
        simp only [if_true, Option.bind_eq_some_iff] at h ⊢
        obtain ⟨q, hq, h⟩ := h
        refine ⟨q, aOper_le hc hq, ?_⟩
        obtain ⟨out, m1⟩ := q
        cases out with
        | ret v => exact aOps_le os (i + 1) h
        | pan v => exact h
theorem aTrace_le {f r : Nat} {all : List Oper} : ∀ (os : List Oper) (i : Nat) {a : AAct} {m : Mem} {p : AAct × Mem}, aOps X c f r all i os a m = some (.normal, p) → aTrace X c f r all i os a m = aTrace X c' f r all i os a m
  | [], i, a, m, p, h => rfl
  | o :: os, i, a, m, p, h => by
    simp only [aOps, aTrace, aGuard_want] at h ⊢
    cases hw : aWant all o a with
    | none => rfl
    | some wd =>
      rw [hw] at h
      simp only [] at h ⊢
      cases wd with
      | false => simp only [Bool.false_eq_true, if_false] at h ⊢; rw [aTrace_le os (i + 1) h]
      | true =>
        simp only [if_true, Option.bind_eq_some_iff] at h ⊢
        obtain ⟨q, hq, h⟩ := h
        rw [hq, aOper_le hc hq]
        obtain ⟨out, m1⟩ := q
        cases out with
        | ret v => simp only [] at h ⊢; rw [aTrace_le os (i + 1) h]
        | pan v => rfl
theorem aRegion_le {f r : Nat} {ops : List Oper} {draw : Bool} {a : AAct} {m : Mem} {p : AExit × AAct × Mem} (h : aRegion X c f r ops draw a m = some p) : aRegion X c' f r ops draw a m = some p := by
  simp only [aRegion, Option.bind_eq_some_iff] at h ⊢
  obtain ⟨q, hq, h⟩ := h
  refine ⟨q, aOps_le hc ops 0 hq, ?_⟩
  obtain ⟨e, q⟩ := q
  cases e with
  | normal => rw [← aTrace_le hc ops 0 hq]; exact h
  | _ => exact h
end
theorem aLoop_le {ks : List Nat} {body body' : AAct → Mem → Option (AExit × AAct × Mem)} (hb : ∀ a m p, body a m = some p → body' a m = some p) : ∀ {n n' : Nat} {a : AAct} {m : Mem} {p : AExit × AAct × Mem}, n ≤ n' →
    aLoop ks body n a m = some p → aLoop ks body' n' a m = some p
  | 0, _, a, m, p, _, h => by cases h
  | n + 1, 0, a, m, p, hn, h => by omega
  | n + 1, n' + 1, a, m, p, hn, h => by
    simp only [aLoop, Option.bind_eq_some_iff] at h ⊢
    obtain ⟨q, hq, h⟩ := h
    refine ⟨q, hb _ _ _ hq, ?_⟩
    obtain ⟨e, q⟩ := q
    cases e with
    | normal => exact aLoop_le hb (by omega) h
    | _ => exact h
theorem aExec_le {X : Ctx} {c c' : CallV} (hc : CallLe c c') {n n' : Nat} (hn : n ≤ n') {f : Nat} : ∀ (code : Code) (b : Nat) {a : AAct} {m : Mem} {p : AExit × AAct × Mem}, aExec X c n f b code a m = some p → aExec X c' n' f b code a m = some p := by
  intro code
  induction code with
  | skip => intro b a m p h; exact h
  | label l => intro b a m p h; exact h
  | region id ops draw => intro b a m p h; exact aRegion_le hc h
  | seq x y ihx ihy =>
    intro b a m p h
    simp only [aExec, Option.bind_eq_some_iff] at h ⊢
    obtain ⟨q, hq, h⟩ := h
    refine ⟨q, ihx b hq, ?_⟩
    obtain ⟨e, q⟩ := q
    cases e with
    | normal => exact ihy b h
    | _ => exact h
  | cond cnd x y ihx ihy =>
    intro b a m p h
    cases cnd with
    | tmp t =>
      simp only [aExec] at h ⊢
      split at h
      · rename_i hc2; first | exact ihx b h | (simp only [hc2]; exact ihx b h)
      · rename_i hc2; first | exact ihy b h | (simp only [hc2]; exact ihy b h)
      · cases h
    | const v =>
      cases v <;> simp only [aExec] at h ⊢ <;> try (cases h; done)
      split at h
      · rename_i hc2; rw [if_pos hc2]; exact ihx b h
      · rename_i hc2; rw [if_neg hc2]; exact ihy b h
    | _ => simp only [aExec] at h; cases h
  | block id cd ih =>
    intro b a m p h
    simp only [aExec, Option.bind_eq_some_iff] at h ⊢
    obtain ⟨q, hq, h⟩ := h
    exact ⟨q, ih id hq, h⟩
  | loop cd ih => intro b a m p h; exact aLoop_le (fun a m p h => ih b h) hn h
  | scope cd ih => intro b a m p h; exact ih b h
  | exit id => intro b a m p h; exact h
  | ret => intro b a m p h; exact h
  | rangeFunc f p x y _ _ => intro b a m p h; cases h
  | goto l => intro b a m p h; cases h
  | refuse w => intro b a m p h; cases h
theorem aBody_le {X : Ctx} {c c' : CallV} (hc : CallLe c c') {n n' : Nat} (hn : n ≤ n') {f : Nat} {fn : Func} {args : List AV} {m : Mem} {p : AOut × Mem} (h : aBody X c n f fn args m = some p) : aBody X c' n' f fn args m = some p := by
  unfold aBody at h ⊢
  split at h
  · cases h
  · rename_i cd hcd
    simp only [Option.bind_eq_some_iff] at h ⊢
    obtain ⟨q, hq, h⟩ := h
    exact ⟨q, aExec_le hc hn cd 0 hq, h⟩
theorem aCall_le {X : Ctx} : ∀ (n n' : Nat), n ≤ n' → CallLe (aCall X n) (aCall X n')
  | 0, _, _ => fun f args m r h => by cases h
  | n + 1, 0, hn => by omega
  | n + 1, n' + 1, hn => fun f args m r h => by
    simp only [aCall] at h ⊢
    split at h
    · exact h
    · split at h
      · exact aBody_le (aCall_le n n' (by omega)) (by omega) h
      · cases h
/-- THE MACHINE's CALLS, WITHOUT FUEL -/
noncomputable def aW (X : Ctx) : CallV := fun f args m => lim fun n => aCall X n f args m
theorem aCall_Mono (X : Ctx) (f : FuncId) (args : List AV) (m : Mem) : Mono fun n => aCall X n f args m := fun n n' r hn h => aCall_le n n' hn f args m r h
theorem aW_of {X : Ctx} {f : FuncId} {args : List AV} {m : Mem} {r : AOut × Mem} {n : Nat} (h : aCall X n f args m = some r) : aW X f args m = some r := lim_some (aCall_Mono X f args m) h
theorem of_aW {X : Ctx} {f : FuncId} {args : List AV} {m : Mem} {r : AOut × Mem} (h : aW X f args m = some r) : ∃ n, aCall X n f args m = some r := of_lim h
theorem aCall_leW (X : Ctx) (n : Nat) : CallLe (aCall X n) (aW X) := fun f args m r h => aW_of h
/-- the limit's calls are the model's -/
theorem aW_ok {P : Program} {X : Ctx} {drawOk : FuncId → Nat → Array Oper → Bool} (hX : CtxOk P X drawOk) : CallsOk P (aW X) := fun f args m o m' h => by
  obtain ⟨n, hn⟩ := of_aW h
  exact aCall_ok hX n f args m o m' hn
noncomputable def loopW (ks : List Nat) (body : AAct → Mem → Option (AExit × AAct × Mem)) (a : AAct) (m : Mem) : Option (AExit × AAct × Mem) := lim fun n => aLoop ks body n a m
noncomputable def aExecW (X : Ctx) (f : Nat) : (bid : Nat) → Code → AAct → Mem → Option (AExit × AAct × Mem)
  | _, .skip, a, m => some (.normal, a, m)
  | _, .label _, a, m => some (.normal, a, m)
  | _, .region id ops draw, a, m => aRegion X (aW X) f id ops.toList draw a m
  | b, .seq x y, a, m => (aExecW X f b x a m).bind fun p => match p.1 with
    | .normal => aExecW X f b y p.2.1 p.2.2
    | e => some (e, p.2.1, p.2.2)
  | b, .cond (.tmp t) x y, a, m => match a.tmps.getD t .undef with
    | .bool true => aExecW X f b x { a with tmps := a.tmps.set t .undef } m
    | .bool false => aExecW X f b y { a with tmps := a.tmps.set t .undef } m
    | _ => none
  | b, .cond (.const (.bool c)) x y, a, m => if c then aExecW X f b x a m else aExecW X f b y a m
  | _, .block id c, a, m => (aExecW X f id c a m).bind fun p => match p.1 with
    | .exit id' => if id' = id then some (.normal, p.2.1, p.2.2) else some (.exit id', p.2.1, p.2.2)
    | e => some (e, p.2.1, p.2.2)
  | b, .loop c, a, m => loopW (X.lk f b) (aExecW X f b c) a m
  | b, .scope c, a, m => aExecW X f b c a m
  | _, .exit id, a, m => some (.exit id, a, m)
  | _, .ret, a, m => some (.ret, a, m)
  | _, _, _, _ => none
theorem loopW_eq (ks : List Nat) (body : AAct → Mem → Option (AExit × AAct × Mem)) (a : AAct) (m : Mem) :
    loopW ks body a m = (body (killed ks a) m).bind fun p => match p.1 with | .normal => loopW ks body p.2.1 p.2.2 | e => some (e, p.2.1, p.2.2) := by
  have mono : ∀ a m, Mono fun n => aLoop ks body n a m := fun a m n n' r hn h => aLoop_le (fun _ _ _ h => h) hn h
  cases hb : body (killed ks a) m with
  | none =>
    cases hl : loopW ks body a m with
    | none => rfl
    | some r =>
      obtain ⟨n, hn⟩ := of_lim hl
      cases n with
      | zero => cases hn
      | succ n => simp only [aLoop, hb, Option.bind_none] at hn; cases hn
  | some p =>
    obtain ⟨e, a1, m1⟩ := p
    have key : ∀ r, loopW ks body a m = some r ↔ ∃ n, aLoop ks body (n + 1) a m = some r := by
      intro r
      constructor
      · intro h
        obtain ⟨n, hn⟩ := of_lim h
        cases n with
        | zero => cases hn
        | succ n => exact ⟨n, hn⟩
      · rintro ⟨n, hn⟩
        exact lim_some (mono a m) hn
    cases e with
    | normal =>
      simp only [Option.bind_some]
      have key2 : ∀ r, loopW ks body a m = some r ↔ loopW ks body a1 m1 = some r := by
        intro r
        rw [key]
        simp only [aLoop, hb, Option.bind_some]
        constructor
        · rintro ⟨n, hn⟩; exact lim_some (mono a1 m1) hn
        · intro h; exact of_lim h
      cases hl : loopW ks body a m with
      | some r => exact ((key2 r).1 hl).symm
      | none =>
        cases hl2 : loopW ks body a1 m1 with
        | none => rfl
        | some r => rw [(key2 r).2 hl2] at hl; cases hl
    | _ =>
      simp only [Option.bind_some]
      refine (key _).2 ⟨0, ?_⟩
      simp only [aLoop, hb, Option.bind_some]
/-- true from some fuel on -/
def Ev (p : Nat → Prop) : Prop := ∃ n0, ∀ n, n0 ≤ n → p n
theorem Ev.and {p q : Nat → Prop} (h : Ev p) (k : Ev q) : Ev fun n => p n ∧ q n := by
  obtain ⟨a, ha⟩ := h
  obtain ⟨b, hb⟩ := k
  exact ⟨max a b, fun n hn => ⟨ha n (by omega), hb n (by omega)⟩⟩
theorem Ev.mono {p q : Nat → Prop} (h : Ev p) (k : ∀ n, p n → q n) : Ev q := by
  obtain ⟨a, ha⟩ := h
  exact ⟨a, fun n hn => k n (ha n hn)⟩
theorem Ev.all {p : Nat → Prop} (h : ∀ n, p n) : Ev p := ⟨0, fun n _ => h n⟩
theorem aOper_W {X : Ctx} {f r i : Nat} {o : Oper} {a : AAct} {m : Mem} {p : AOut × Mem} (h : aOper X (aW X) f r i o a m = some p) : Ev fun n => aOper X (aCall X n) f r i o a m = some p := by
  unfold aOper at h ⊢
  split at h
  · rename_i cl hcl
    split at h
    · exact .all fun _ => h
    · rename_i g hcal
      split at h
      · obtain ⟨n, hn⟩ := of_aW h
        exact ⟨n, fun n' hn' => aCall_le n n' hn' _ _ _ _ hn⟩
      · cases h
    · cases h
  · exact .all fun _ => h
  · exact .all fun _ => h
theorem aOps_W {X : Ctx} {f r : Nat} {all : List Oper} : ∀ (os : List Oper) (i : Nat) {a : AAct} {m : Mem} {p : AExit × AAct × Mem}, aOps X (aW X) f r all i os a m = some p → Ev fun n => aOps X (aCall X n) f r all i os a m = some p
  | [], i, a, m, p, h => .all fun _ => h
  | o :: os, i, a, m, p, h => by
    simp only [aOps, aGuard_want] at h ⊢
    cases hw : aWant all o a with
    | none => rw [hw] at h; cases h
    | some wd =>
      rw [hw] at h
      simp only [] at h ⊢
      cases wd with
      | false => simp only [Bool.false_eq_true, if_false] at h ⊢; exact aOps_W os (i + 1) h
      | true =>
        simp only [if_true, Option.bind_eq_some_iff] at h ⊢
        obtain ⟨q, hq, h⟩ := h
        obtain ⟨out, m1⟩ := q
        cases out with
        | ret v => exact ((aOper_W hq).and (aOps_W os (i + 1) h)).mono fun n hn => ⟨_, hn.1, hn.2⟩
        | pan v => exact (aOper_W hq).mono fun n hn => ⟨_, hn, h⟩
theorem aRegion_W {X : Ctx} {f r : Nat} {ops : List Oper} {draw : Bool} {a : AAct} {m : Mem} {p : AExit × AAct × Mem} (h : aRegion X (aW X) f r ops draw a m = some p) : Ev fun n => aRegion X (aCall X n) f r ops draw a m = some p := by
  simp only [aRegion, Option.bind_eq_some_iff] at h ⊢
  obtain ⟨q, hq, h⟩ := h
  refine (aOps_W ops 0 hq).mono fun n hn => ⟨q, hn, ?_⟩
  obtain ⟨e, q⟩ := q
  cases e with
  | normal => rw [aTrace_le (aCall_leW X n) ops 0 hn]; exact h
  | _ => exact h
theorem aLoop_W {ks : List Nat} {body : AAct → Mem → Option (AExit × AAct × Mem)} {bodyN : Nat → AAct → Mem → Option (AExit × AAct × Mem)} (hb : ∀ a m p, body a m = some p → Ev fun n => bodyN n a m = some p) : ∀ {k : Nat} {a : AAct} {m : Mem} {p : AExit × AAct × Mem},
    aLoop ks body k a m = some p → Ev fun n => aLoop ks (bodyN n) k a m = some p
  | 0, a, m, p, h => by cases h
  | k + 1, a, m, p, h => by
    simp only [aLoop, Option.bind_eq_some_iff] at h ⊢
    obtain ⟨q, hq, h⟩ := h
    obtain ⟨e, q⟩ := q
    cases e with
    | normal => exact ((hb _ _ _ hq).and (aLoop_W hb h)).mono fun n hn => ⟨_, hn.1, hn.2⟩
    | _ => exact (hb _ _ _ hq).mono fun n hn => ⟨_, hn, h⟩
theorem aExec_W {X : Ctx} {f : Nat} : ∀ (code : Code) (b : Nat) {a : AAct} {m : Mem} {p : AExit × AAct × Mem}, aExecW X f b code a m = some p → Ev fun n => aExec X (aCall X n) n f b code a m = some p := by
  intro code
  induction code with
  | skip => intro b a m p h; exact .all fun _ => h
  | label l => intro b a m p h; exact .all fun _ => h
  | region id ops draw => intro b a m p h; exact aRegion_W h
  | seq x y ihx ihy =>
    intro b a m p h
    simp only [aExec, aExecW, Option.bind_eq_some_iff] at h ⊢
    obtain ⟨q, hq, h⟩ := h
    obtain ⟨e, q⟩ := q
    cases e with
    | normal => exact ((ihx b hq).and (ihy b h)).mono fun n hn => ⟨_, hn.1, hn.2⟩
    | _ => exact (ihx b hq).mono fun n hn => ⟨_, hn, h⟩
  | cond cnd x y ihx ihy =>
    intro b a m p h
    cases cnd with
    | tmp t =>
      simp only [aExec, aExecW] at h ⊢
      split at h
      · rename_i hc2; first | exact ihx b h | (simp only [hc2]; exact ihx b h)
      · rename_i hc2; first | exact ihy b h | (simp only [hc2]; exact ihy b h)
      · cases h
    | const v =>
      cases v <;> simp only [aExec, aExecW] at h ⊢ <;> try (cases h; done)
      split at h
      · rename_i hc2; simp only [hc2, if_true]; exact ihx b h
      · rename_i hc2; simp only [hc2]; exact ihy b h
    | _ => simp only [aExecW] at h; cases h
  | block id cd ih =>
    intro b a m p h
    simp only [aExec, aExecW, Option.bind_eq_some_iff] at h ⊢
    obtain ⟨q, hq, h⟩ := h
    exact (ih id hq).mono fun n hn => ⟨q, hn, h⟩
  | loop cd ih =>
    intro b a m p h
    simp only [aExecW, loopW] at h
    obtain ⟨k, hk⟩ := of_lim h
    obtain ⟨n0, h0⟩ := aLoop_W (bodyN := fun n => aExec X (aCall X n) n f b cd) (fun a m p h => ih b h) hk
    refine ⟨max n0 k, fun n hn => ?_⟩
    simp only [aExec]
    exact aLoop_le (fun _ _ _ h => h) (by omega) (h0 n (by omega))
  | scope cd ih => intro b a m p h; exact ih b h
  | exit id => intro b a m p h; exact .all fun _ => h
  | ret => intro b a m p h; exact .all fun _ => h
  | rangeFunc f p x y _ _ => intro b a m p h; cases h
  | goto l => intro b a m p h; cases h
  | refuse w => intro b a m p h; cases h
theorem aExec_toW {X : Ctx} {f n : Nat} : ∀ (code : Code) (b : Nat) {a : AAct} {m : Mem} {p : AExit × AAct × Mem}, aExec X (aCall X n) n f b code a m = some p → aExecW X f b code a m = some p := by
  intro code
  induction code with
  | skip => intro b a m p h; exact h
  | label l => intro b a m p h; exact h
  | region id ops draw => intro b a m p h; exact aRegion_le (aCall_leW X n) h
  | seq x y ihx ihy =>
    intro b a m p h
    simp only [aExec, aExecW, Option.bind_eq_some_iff] at h ⊢
    obtain ⟨q, hq, h⟩ := h
    refine ⟨q, ihx b hq, ?_⟩
    obtain ⟨e, q⟩ := q
    cases e with
    | normal => exact ihy b h
    | _ => exact h
  | cond cnd x y ihx ihy =>
    intro b a m p h
    cases cnd with
    | tmp t =>
      simp only [aExec, aExecW] at h ⊢
      split at h
      · rename_i hc2; first | exact ihx b h | (simp only [hc2]; exact ihx b h)
      · rename_i hc2; first | exact ihy b h | (simp only [hc2]; exact ihy b h)
      · cases h
    | const v =>
      cases v <;> simp only [aExec, aExecW] at h ⊢ <;> try (cases h; done)
      split at h
      · rename_i hc2; rw [if_pos hc2]; exact ihx b h
      · rename_i hc2; rw [if_neg hc2]; exact ihy b h
    | _ => simp only [aExec] at h; cases h
  | block id cd ih =>
    intro b a m p h
    simp only [aExec, aExecW, Option.bind_eq_some_iff] at h ⊢
    obtain ⟨q, hq, h⟩ := h
    exact ⟨q, ih id hq, h⟩
  | loop cd ih =>
    intro b a m p h
    simp only [aExec] at h
    simp only [aExecW, loopW]
    exact lim_some (fun n n' r hn h => aLoop_le (fun _ _ _ h => h) hn h) (aLoop_le (fun a m p h => ih b h) (Nat.le_refl n) h)
  | scope cd ih => intro b a m p h; exact ih b h
  | exit id => intro b a m p h; exact h
  | ret => intro b a m p h; exact h
  | rangeFunc f p x y _ _ => intro b a m p h; cases h
  | goto l => intro b a m p h; cases h
  | refuse w => intro b a m p h; cases h
/-- A CALL IS ITS BODY. -/
theorem aW_eq {X : Ctx} {f : FuncId} {fn : Func} {c : Code} (hp : X.prim f = none) (hl : X.look f = some fn) (hb : fn.body = some c) (args : List AV) (m : Mem) :
    aW X f args m = (aExecW X f 0 c ⟨args ++ List.replicate (fn.ntmps - args.length) .undef, []⟩ m).bind (aFinish X.T fn) := by
  have key : ∀ r, aW X f args m = some r ↔ (aExecW X f 0 c ⟨args ++ List.replicate (fn.ntmps - args.length) .undef, []⟩ m).bind (aFinish X.T fn) = some r := by
    intro r
    constructor
    · intro h
      obtain ⟨n, hn⟩ := of_aW h
      cases n with
      | zero => cases hn
      | succ n =>
        simp only [aCall, hp, hl, aBody, hb, Option.bind_eq_some_iff] at hn
        obtain ⟨q, hq, hn⟩ := hn
        rw [aExec_toW c 0 hq, Option.bind_some, hn]
    · intro h
      simp only [Option.bind_eq_some_iff] at h
      obtain ⟨q, hq, h⟩ := h
      obtain ⟨n0, h0⟩ := aExec_W c 0 hq
      refine aW_of (n := n0 + 1) ?_
      simp only [aCall, hp, hl, aBody, hb, h0 n0 (Nat.le_refl _), Option.bind_some, h]
  cases hl1 : aW X f args m with
  | some r => exact ((key r).1 hl1).symm
  | none =>
    cases hl2 : (aExecW X f 0 c ⟨args ++ List.replicate (fn.ntmps - args.length) .undef, []⟩ m).bind (aFinish X.T fn) with
    | none => rfl
    | some r => rw [(key r).2 hl2] at hl1; cases hl1
end Go.AM
