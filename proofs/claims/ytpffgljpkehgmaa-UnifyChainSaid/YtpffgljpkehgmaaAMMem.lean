/-
  Operations that make or change memory.
-/
import Derived.Test.YtpffgljpkehgmaaAMPure3
set_option linter.unusedVariables false
set_option linter.unusedSimpArgs false
namespace Go.AM
open Go
set_option linter.unusedSimpArgs false
set_option linter.unusedVariables false
theorem ORel.keep {Γ Γ' : Gh} {w w' : World} {o : Nat} {x : AO} (h : ORel Γ w o x) (hle : Γ.le Γ') (hb : ∀ b, (Γ.role b).id = some o → w'.heap[b]? = w.heap[b]?)
    (hrow : ∀ b v n, (Γ'.role b).isRow o v n → (Γ.role b).isRow o v n) (hrole : ∀ b, (Γ.role b).id = some o → Γ'.role b = Γ.role b) (htok : ∀ y, Γ.tok o = some y → Γ'.tok o = some y) :
    ORel Γ' w' o x := by
  cases x with
  | row cs ver =>
    obtain ⟨b, c, e, lo, h1, hlo, h2, h3, h4, h5⟩ := h
    have hid : (Γ.role b).id = some o := by rw [h1]; rfl
    exact ⟨b, c, e, lo, by rw [hrole b hid, h1], hlo, by rw [hb b hid, h2], h3, h4.mono hle, fun b' v' n' hh => h5 b' v' n' (hrow b' v' n' hh)⟩
  | fixed cs ver =>
    obtain ⟨b, n, vs, lo, h1, hlo, h2⟩ := h
    have hid : (Γ.role b).id = some o := by rw [h1]; rfl
    exact ⟨b, n, vs, lo, by rw [hrole b hid, h1], hlo, h2.mono hle⟩
  | tok tip sz =>
    obtain ⟨b, cs, c, e, cap, h1, h2, h3, h4, h5, h6, h7⟩ := h
    have hid : (Γ.role b).id = some o := by rw [h2]; rfl
    exact ⟨b, cs, c, e, cap, htok _ h1, by rw [hrole b hid, h2], by rw [hb b hid, h3], h4, h5, h6, h7⟩
  | map es =>
    obtain ⟨b, entries, clock, h1, h2, h3, h4⟩ := h
    have hid : (Γ.role b).id = some o := by rw [h1]; rfl
    exact ⟨b, entries, clock, by rw [hrole b hid, h1], by rw [hb b hid, h2], h3, fun i k v x hk hx => ⟨(h4 i k v x hk hx).1.mono hle, (h4 i k v x hk hx).2.mono hle⟩⟩
theorem role_new {Γ : Gh} {m : Mem} {w : World} (hr : Rel Γ m w) : Γ.role w.heap.size = .free := by
  cases hh : Γ.role w.heap.size with
  | free => rfl
  | _ => exact absurd (hr.bound _ (by rw [hh]; simp)) (Nat.lt_irrefl _)
theorem le_new {Γ Γ' : Gh} {m : Mem} {w : World} (hr : Rel Γ m w) (r : Role) (h : ∀ b, Γ'.role b = if b = w.heap.size then r else Γ.role b) (ht : ∀ t x, Γ.tok t = some x → Γ'.tok t = some x) : Γ.le Γ' := by
  refine ⟨fun b => ?_, fun t x hx => ⟨x, ht t x hx, .inl rfl⟩⟩
  rw [h]
  split
  · rename_i e; subst e; rw [role_new hr]; exact .free _
  · exact .refl _
theorem isRow_id {r : Role} {o v n : Nat} (h : r.isRow o v n) : r.id = some o := by rcases h with ⟨_, _, h, _⟩ | ⟨_, _, _, h, _⟩ <;> rw [h] <;> rfl
theorem Mem.obj_lt {Γ : Gh} {m : Mem} {w : World} (hr : Rel Γ m w) {o : Nat} {x : AO} (h : m.obj o = some x) : o < m.next := by
  rcases Nat.lt_or_ge o m.next with h' | h'
  · exact h'
  · rw [hr.above o h'] at h; cases h
/-- A NEW BLOCK. -/
theorem post_new {Γ Γ' : Gh} {m m' : Mem} {w w' : World} {ob : Obj} {r : Role} (hr : Rel Γ m w) (hheap : w'.heap = w.heap.push ob) (hos : w'.os = w.os) (htape : w'.tape = w.tape) (hout : w'.output = w.output)
    (hf : Fresh Γ m.next m'.next) (hrole : ∀ b, Γ'.role b = if b = w.heap.size then r else Γ.role b)
    (htok : ∀ t x, Γ.tok t = some x → Γ'.tok t = some x) (htok' : ∀ t, Γ'.tok t ≠ none → Γ.tok t ≠ none ∨ (m.next ≤ t ∧ t < m'.next ∧ m'.obj t ≠ none))
    (hm : m' = m ∨ ∃ x, m' = m.alloc x) (hid : ∀ o, r.id = some o → o = m.next ∧ ∃ x, m' = m.alloc x)
    (hknown : r.known ≠ [] → ∃ c e fz, ob = .cells c e fz ∧ ∀ (i : Nat) v, r.known[i]? = some v → c[i]? = some v)
    (hcells : ∀ o v n, r.isRow o v n → ∃ c e, ob = .cells c e (0, 0) ∧ c.size = n)
    (hobj : ∀ x, m'.obj m.next = some x → ORel Γ' w' m.next x) : Post Γ m w Γ' m' w' := by
  have hfree : Γ.role w.heap.size = .free := by
    cases hh : Γ.role w.heap.size with
    | free => rfl
    | _ => exact absurd (hr.bound _ (by rw [hh]; simp)) (Nat.lt_irrefl _)
  have hle : Γ.le Γ' := by
    refine ⟨fun b => ?_, fun t x h => ⟨x, htok t x h, .inl rfl⟩⟩
    rw [hrole]
    split
    · rename_i e; subst e; rw [hfree]; exact .free _
    · exact .refl _
  have hmle : m.le m' := by
    rcases hm with rfl | ⟨x, rfl⟩
    · exact .refl _
    · exact Mem.le_alloc x (hr.above _ (Nat.le_refl _))
  have hold : ∀ b, b < w.heap.size → w'.heap[b]? = w.heap[b]? := fun b hb => by rw [hheap, Array.getElem?_push, if_neg (by omega)]
  have hnew : w'.heap[w.heap.size]? = some ob := by rw [hheap]; simp
  have hsize : w'.heap.size = w.heap.size + 1 := by rw [hheap]; simp
  have hlt : ∀ b, Γ.role b ≠ .free → b ≠ w.heap.size := fun b hb e => by subst e; exact hb hfree
  have hnofresh : ∀ b, (Γ.role b).id = some m.next → ∀ x, m' = m.alloc x → False := fun b hb x hx => by
    subst hx
    exact hf.role b m.next hb ⟨Nat.le_refl _, by simp [Mem.alloc]⟩
  have idne : ∀ {b o}, (Γ.role b).id = some o → b < w.heap.size := fun {b o} h => hr.bound b (fun e => by rw [e] at h; cases h)
  refine ⟨hle, ⟨?_, ?_, ?_, ?_, ?_, ?_, ?_⟩, ⟨by omega, hos, htape, hout, fun b hb _ _ => hold b hb⟩, ⟨?_, htok', ?_⟩, hmle, fun b o ho _ => by rw [hrole, if_neg]; have := idne ho; omega, fun t ht _ => by
    cases h : Γ.tok t with
    | none => exact absurd h ht
    | some x => exact htok t x h⟩
  · intro b hb
    rw [hrole] at hb
    split at hb
    · omega
    · have := hr.bound b hb; omega
  · intro b hb
    rw [hrole] at hb ⊢
    split at hb
    · rename_i e
      subst e
      obtain ⟨c, e, fz, rfl, hc⟩ := hknown hb
      rw [if_pos rfl]
      exact ⟨c, e, fz, hnew, hc⟩
    · rename_i e
      rw [if_neg e]
      have hb' := hr.bound b (fun h => hb (by rw [h]; rfl))
      rw [hold b hb']
      exact hr.known b hb
  · intro b o v n hb
    rw [hrole] at hb
    split at hb
    · rename_i e
      subst e
      obtain ⟨c, e, rfl, hc⟩ := hcells o v n hb
      exact ⟨c, e, hnew, hc⟩
    · rw [hold b (idne (isRow_id hb))]
      exact hr.cells b o v n hb
  · intro b b' o v n n' hb hb'
    rw [hrole] at hb hb'
    split at hb <;> split at hb'
    · rename_i e e'; rw [e, e']
    · obtain ⟨rfl, x, hx⟩ := hid o (isRow_id hb)
      exact (hnofresh b' (isRow_id hb') x hx).elim
    · obtain ⟨rfl, x, hx⟩ := hid o (isRow_id hb')
      exact (hnofresh b (isRow_id hb) x hx).elim
    · exact hr.rows b b' o v n n' hb hb'
  · intro b b' o hb hb'
    rw [hrole] at hb hb'
    split at hb <;> split at hb'
    · rename_i e e'; rw [e, e']
    · obtain ⟨rfl, x, hx⟩ := hid o (by rw [hb]; rfl)
      exact (hnofresh b' (by rw [hb']; rfl) x hx).elim
    · obtain ⟨rfl, x, hx⟩ := hid o (by rw [hb']; rfl)
      exact (hnofresh b (by rw [hb]; rfl) x hx).elim
    · exact hr.maps b b' o hb hb'
  · intro o x hx
    by_cases ho : o = m.next
    · subst ho; exact hobj x hx
    · have hx' : m.obj o = some x := by
        rcases hm with rfl | ⟨y, rfl⟩
        · exact hx
        · simpa [Mem.alloc, ho] using hx
      have hlt' := Mem.obj_lt hr hx'
      refine (hr.objs o x hx').keep hle (fun b hb => hold b (idne hb)) (fun b v n hb => ?_) (fun b hb => ?_) (fun y hy => htok o y hy)
      · rw [hrole] at hb
        split at hb
        · obtain ⟨rfl, _⟩ := hid o (isRow_id hb); exact absurd rfl ho
        · exact hb
      · rw [hrole, if_neg]
        have := idne hb; omega
  · intro o ho
    rcases hm with rfl | ⟨y, rfl⟩
    · exact hr.above o ho
    · simp only [Mem.alloc] at ho ⊢
      rw [if_neg (by omega)]
      exact hr.above o (by omega)
  · intro b o hb
    rw [hrole] at hb
    split at hb
    · rename_i e
      obtain ⟨rfl, x, rfl⟩ := hid o hb
      exact .inr (.inl ⟨Nat.le_refl _, by simp [Mem.alloc], by omega, by simp [Mem.alloc]⟩)
    · exact .inl hb
  · intro b hb hfr
    rw [hrole, if_neg (by omega), hfr]
/-- a new block that is never written -/
theorem post_imm {Γ : Gh} {m : Mem} {w w' : World} (hr : Rel Γ m w) {c : Array Value} {e : TypeId} {fz : Nat × Nat} (hheap : w'.heap = w.heap.push (.cells c e fz)) (hos : w'.os = w.os) (htape : w'.tape = w.tape) (hout : w'.output = w.output)
    (cs : List Value) (hcs : ∀ (i : Nat) v, cs[i]? = some v → c[i]? = some v) :
    ∃ Γ' : Gh, Post Γ m w Γ' m w' ∧ ∀ (j : Nat) v, cs[j]? = some v → im Γ' w.heap.size (0 + j) = some v := by
  refine ⟨⟨fun b => if b = w.heap.size then .imm cs else Γ.role b, Γ.tok⟩, post_new (r := .imm cs) hr hheap hos htape hout ⟨fun b o _ => by omega, fun t _ => by omega⟩ (fun b => rfl) (fun t x h => h) (fun t h => .inl h) (.inl rfl)
    (fun o h => by cases h) (fun _ => ⟨c, e, fz, rfl, hcs⟩) (fun o v n h => by rcases h with ⟨_, _, h, _⟩ | ⟨_, _, _, h, _⟩ <;> cases h) (fun x hx => ?_), fun j v hj => ?_⟩
  · rw [hr.above m.next (Nat.le_refl _)] at hx; cases hx
  · simp [im, Role.known, hj]
theorem post_lit {Γ : Gh} {m : Mem} {w w' : World} (hr : Rel Γ m w) {c : Array Value} {e : TypeId} {fz : Nat × Nat} (hheap : w'.heap = w.heap.push (.cells c e fz)) (hos : w'.os = w.os) (htape : w'.tape = w.tape) (hout : w'.output = w.output)
    (cs : List Value) (hcs : ∀ (i : Nat) v, cs[i]? = some v → c[i]? = some v) :
    ∃ Γ' : Gh, Post Γ m w Γ' m w' ∧ (∀ (j : Nat) v, cs[j]? = some v → im Γ' w.heap.size (0 + j) = some v) ∧ (Γ'.role w.heap.size).isLit = true := by
  refine ⟨⟨fun b => if b = w.heap.size then .lit cs else Γ.role b, Γ.tok⟩, post_new (r := .lit cs) hr hheap hos htape hout ⟨fun b o _ => by omega, fun t _ => by omega⟩ (fun b => rfl) (fun t x h => h) (fun t h => .inl h) (.inl rfl)
    (fun o h => by cases h) (fun _ => ⟨c, e, fz, rfl, hcs⟩) (fun o v n h => by rcases h with ⟨_, _, h, _⟩ | ⟨_, _, _, h, _⟩ <;> cases h) (fun x hx => ?_), fun j v hj => ?_, by simp [Role.isLit]⟩
  · rw [hr.above m.next (Nat.le_refl _)] at hx; cases hx
  · simp [im, Role.known, hj]
/-- a new row -/
theorem post_row {Γ : Gh} {m : Mem} {w w' : World} (hr : Rel Γ m w) {c : Array Value} {e : TypeId} {cs : List AV} (hc : CRel Γ cs (c.toList.take cs.length)) (hle : cs.length ≤ c.size) (hf : Fresh Γ m.next (m.next + 1))
    (hheap : w'.heap = w.heap.push (.cells c e (0, 0))) (hos : w'.os = w.os) (htape : w'.tape = w.tape) (hout : w'.output = w.output) :
    ∃ Γ' : Gh, Post Γ m w Γ' (m.alloc (.row cs 0)) w' ∧ Γ'.role w.heap.size = .row m.next 0 0 c.size := by
  have hp : Post Γ m w ⟨fun b => if b = w.heap.size then .row m.next 0 0 c.size else Γ.role b, Γ.tok⟩ (m.alloc (.row cs 0)) w' := by
    refine post_new (r := .row m.next 0 0 c.size) hr hheap hos htape hout hf (fun b => rfl) (fun t x h => h) (fun t h => .inl h) (.inr ⟨_, rfl⟩) (fun o h => ?_) (fun h => absurd rfl h) (fun o v n h => ?_) (fun x hx => ?_)
    · cases h; exact ⟨rfl, _, rfl⟩
    · rcases h with ⟨_, _, h, _⟩ | ⟨_, _, _, h, _⟩ <;> cases h
      exact ⟨c, e, rfl, rfl⟩
    · simp only [Mem.alloc, if_true, Option.some.injEq] at hx
      subst hx
      refine ⟨w.heap.size, c, e, 0, by simp, Nat.le_refl _, by rw [hheap]; simp, hle, CRel.mono (Γ' := ⟨fun b => if b = w.heap.size then .row m.next 0 0 c.size else Γ.role b, Γ.tok⟩) (le_new hr (.row m.next 0 0 c.size) (fun b => rfl) (fun t x h => h)) hc, fun b' v' n' h => ?_⟩
      · simp only at h
        split at h
        · rcases h with ⟨_, _, h, h1, h2⟩ | ⟨_, _, _, h, _⟩ <;> cases h
          exact h2
        · exact absurd ⟨Nat.le_refl _, Nat.lt_succ_self _⟩ (hf.role b' m.next (isRow_id h))
  exact ⟨_, hp, by simp⟩
/-- a new row of elements whose tip is known -/
theorem post_tok {Γ : Gh} {m : Mem} {w w' : World} (hr : Rel Γ m w) {c : Array Value} {e : TypeId} (cs : List Value) (hcs : ∀ (i : Nat) v, cs[i]? = some v → c[i]? = some v) {tip cap sz : Nat} (hl : cs.length = tip * sz) (hsz : c.size = cap * sz)
    (hle : tip ≤ cap) (h0 : 0 < sz) (hf : Fresh Γ m.next (m.next + 1)) (hheap : w'.heap = w.heap.push (.cells c e (0, 0))) (hos : w'.os = w.os) (htape : w'.tape = w.tape) (hout : w'.output = w.output) :
    ∃ Γ' : Gh, Post Γ m w Γ' (m.alloc (.tok tip sz)) w' ∧ (∀ (j : Nat) v, cs[j]? = some v → im Γ' w.heap.size (0 + j) = some v) ∧ Γ'.tok m.next = some (tip, w.heap.size, cap) := by
  have hnone : Γ.tok m.next = none := by
    cases h : Γ.tok m.next with
    | none => rfl
    | some x => exact absurd ⟨Nat.le_refl _, Nat.lt_succ_self _⟩ (hf.tok m.next (by rw [h]; simp))
  refine ⟨⟨fun b => if b = w.heap.size then .tk m.next cs else Γ.role b, fun t => if t = m.next then some (tip, w.heap.size, cap) else Γ.tok t⟩,
    post_new (r := .tk m.next cs) hr hheap hos htape hout hf (fun b => rfl) (fun t x h => ?_) (fun t h => ?_) (.inr ⟨_, rfl⟩) (fun o h => ?_) (fun _ => ⟨c, e, _, rfl, hcs⟩) (fun o v n h => ?_) (fun x hx => ?_), fun j v hj => ?_, by simp⟩
  · simp only
    rw [if_neg]
    · exact h
    · rintro rfl; rw [hnone] at h; cases h
  · simp only at h
    split at h
    · rename_i e; subst e; exact .inr ⟨Nat.le_refl _, by simp [Mem.alloc], by simp [Mem.alloc]⟩
    · exact .inl h
  · cases h; exact ⟨rfl, _, rfl⟩
  · rcases h with ⟨_, _, h, _⟩ | ⟨_, _, _, h, _⟩ <;> cases h
  · simp only [Mem.alloc, if_true, Option.some.injEq] at hx
    subst hx
    exact ⟨w.heap.size, cs, c, e, cap, by simp, by simp, by rw [hheap]; simp, hl, hsz, hle, h0⟩
  · simp [im, Role.known, hj]
/-- a new map -/
theorem post_map {Γ : Gh} {m : Mem} {w w' : World} (hr : Rel Γ m w) (hf : Fresh Γ m.next (m.next + 1)) (hheap : w'.heap = w.heap.push (.map #[] 0)) (hos : w'.os = w.os) (htape : w'.tape = w.tape) (hout : w'.output = w.output) :
    ∃ Γ' : Gh, Post Γ m w Γ' (m.alloc (.map [])) w' ∧ Γ'.role w.heap.size = .mp m.next := by
  refine ⟨⟨fun b => if b = w.heap.size then .mp m.next else Γ.role b, Γ.tok⟩, post_new (r := .mp m.next) hr hheap hos htape hout hf (fun b => rfl) (fun t x h => h) (fun t h => .inl h) (.inr ⟨_, rfl⟩) (fun o h => ?_) (fun h => absurd rfl h) (fun o v n h => ?_) (fun x hx => ?_), by simp⟩
  · cases h; exact ⟨rfl, _, rfl⟩
  · rcases h with ⟨_, _, h, _⟩ | ⟨_, _, _, h, _⟩ <;> cases h
  · simp only [Mem.alloc, if_true, Option.some.injEq] at hx
    subst hx
    exact ⟨w.heap.size, #[], 0, by simp, by rw [hheap]; simp, by simp, fun i k v x h => by simp at h⟩
/-- AN OBJECT IS WRITTEN. -/
theorem post_upd {Γ Γ' : Gh} {m : Mem} {w w' : World} {ob : Obj} {r : Role} {b o : Nat} {x : AO} (hr : Rel Γ m w) (hown : (Γ.role b).owner = some o) (hmo : m.obj o ≠ none)
    (hsize : w'.heap.size = w.heap.size) (hother : ∀ b', b' ≠ b → w'.heap[b']? = w.heap[b']?) (hb : w'.heap[b]? = some ob) (hos : w'.os = w.os) (htape : w'.tape = w.tape) (hout : w'.output = w.output)
    (hrole : ∀ b', Γ'.role b' = if b' = b then r else Γ.role b') (hler : Role.le (Γ.role b) r)
    (htok : ∀ t, t ≠ o → Γ'.tok t = Γ.tok t) (htoko : ∀ x, Γ.tok o = some x → ∃ y, Γ'.tok o = some y ∧ (y = x ∨ x.1 < y.1)) (htokn : Γ'.tok o ≠ none → Γ.tok o ≠ none)
    (hknown : r.known ≠ [] → ∃ c e fz, ob = .cells c e fz ∧ ∀ (i : Nat) v, r.known[i]? = some v → c[i]? = some v)
    (hcells : ∀ o v n, r.isRow o v n → ∃ c e, ob = .cells c e (0, 0) ∧ c.size = n) (hvers : ∀ v n, r.isRow o v n → (∃ n', (Γ.role b).isRow o v n') ∨ ∀ b' n', ¬ (Γ.role b').isRow o v n')
    (hobj : ORel Γ' w' o x) : Post Γ m w Γ' (m.set o x) w' := by
  have hid : (Γ.role b).id = some o := owner_id hown
  have hnf : Γ.role b ≠ .free := fun e => by rw [e] at hown; cases hown
  have hrid : r.id = some o := le_id hler hid
  have hle : Γ.le Γ' := by
    refine ⟨fun b' => ?_, fun t y h => ?_⟩
    · rw [hrole]
      split
      · rename_i e; subst e; exact hler
      · exact .refl _
    · by_cases ht : t = o
      · subst ht; exact htoko y h
      · exact ⟨y, by rw [htok t ht, h], .inl rfl⟩
  have hrm : ∀ o', r = .mp o' → Γ.role b = .mp o' := by
    intro o' h
    revert h hler hown
    generalize Γ.role b = q
    intro hown hler h
    cases hler with
    | refl => exact h
    | free => cases hown
    | tk => cases h
    | row => cases h
    | fix => cases h
  have hmp' : ∀ b' o', Γ'.role b' = .mp o' → Γ.role b' = .mp o' := by
    intro b' o' h
    rw [hrole] at h
    split at h
    · rename_i e; subst e; exact hrm _ h
    · exact h
  refine ⟨hle, ⟨?_, ?_, ?_, ?_, ?_, ?_, ?_⟩, ⟨by omega, hos, htape, hout, fun b' hb' _ hn => ?_⟩, ⟨?_, ?_, ?_⟩, Mem.le_set m o x hmo, fun b' o' h hn => ?_, fun t ht hn => ?_⟩
  · intro b' hb'
    rw [hrole] at hb'
    split at hb'
    · rename_i e; subst e; rw [hsize]; exact hr.bound _ hnf
    · rw [hsize]; exact hr.bound _ hb'
  · intro b' hb'
    rw [hrole] at hb' ⊢
    split at hb'
    · rename_i e
      subst e
      obtain ⟨c, e, fz, rfl, hc⟩ := hknown hb'
      rw [if_pos rfl]
      exact ⟨c, e, fz, hb, hc⟩
    · rename_i e
      rw [if_neg e, hother b' e]
      exact hr.known b' hb'
  · intro b' o' v n h
    by_cases e : b' = b
    · subst e
      rw [hrole, if_pos rfl] at h
      obtain ⟨c, e, rfl, hc⟩ := hcells o' v n h
      exact ⟨c, e, hb, hc⟩
    · rw [hother b' e]
      rw [hrole, if_neg e] at h
      exact hr.cells b' o' v n h
  · intro b1 b2 o' v n n' h1 h2
    have key : ∀ b' n n', r.isRow o' v n → (Γ.role b').isRow o' v n' → b' = b := by
      intro b' n n' h h'
      have : o' = o := by have := isRow_id h; rw [hrid] at this; cases this; rfl
      subst this
      rcases hvers v n h with ⟨n2, h2⟩ | h2
      · exact hr.rows b' b o' v n' n2 h' h2
      · exact (h2 b' n' h').elim
    rw [hrole] at h1 h2
    split at h1 <;> split at h2
    · rename_i e e'; rw [e, e']
    · rename_i e e'; rw [e]; exact (key b2 n n' h1 h2).symm
    · rename_i e e'; rw [e']; exact key b1 n' n h2 h1
    · exact hr.rows b1 b2 o' v n n' h1 h2
  · intro b1 b2 o' h1 h2
    exact hr.maps b1 b2 o' (hmp' _ _ h1) (hmp' _ _ h2)
  · intro o' y hy
    by_cases ho : o' = o
    · subst ho
      simp only [Mem.set, if_true, Option.some.injEq] at hy
      subst hy
      exact hobj
    · have hy' : m.obj o' = some y := by simpa [Mem.set, ho] using hy
      have hne : ∀ b', (Γ.role b').id = some o' → b' ≠ b := fun b' h e => by subst e; rw [hid] at h; cases h; exact ho rfl
      exact (hr.objs o' y hy').keep hle (fun b' h => hother b' (hne b' h)) (fun b' v n h => by
        rw [hrole] at h
        split at h
        · have := isRow_id h; rw [hrid] at this; cases this; exact absurd rfl ho
        · exact h) (fun b' h => by rw [hrole, if_neg (hne b' h)]) (fun y hy => by rw [htok o' ho]; exact hy)
  · intro o' ho'
    have ho' : m.next ≤ o' := ho'
    simp only [Mem.set]
    rw [if_neg]
    · exact hr.above o' ho'
    · rintro rfl; exact hmo (hr.above _ ho')
  · refine hother b' (fun e => ?_)
    subst e
    exact hmo (hn o hown)
  · intro b' o' h
    rw [hrole] at h
    split at h
    · rename_i e; subst e; rw [hrid] at h; cases h; exact .inl hid
    · exact .inl h
  · intro t ht
    by_cases h : t = o
    · subst h; exact .inl (htokn ht)
    · rw [htok t h] at ht; exact .inl ht
  · intro b' hb' hf
    rw [hrole, if_neg]
    · exact hf
    · rintro rfl; exact hnf hf
  · rw [hrole, if_neg]
    rintro rfl
    rw [hid] at h
    cases h
    exact hmo hn
  · exact htok t (fun e => hmo (e ▸ hn))
/-- AN OBJECT MOVES: a new block for it. -/
theorem post_move {Γ Γ' : Gh} {m : Mem} {w w' : World} {ob : Obj} {r : Role} {o : Nat} {x : AO} (hr : Rel Γ m w) (hmo : m.obj o ≠ none) (hheap : w'.heap = w.heap.push ob) (hos : w'.os = w.os) (htape : w'.tape = w.tape) (hout : w'.output = w.output)
    (hrole : ∀ b, Γ'.role b = if b = w.heap.size then r else Γ.role b) (hid : r.id = some o)
    (htok : ∀ t, t ≠ o → Γ'.tok t = Γ.tok t) (htoko : ∀ x, Γ.tok o = some x → ∃ y, Γ'.tok o = some y ∧ (y = x ∨ x.1 < y.1)) (htokn : Γ'.tok o ≠ none → Γ.tok o ≠ none)
    (hknown : r.known ≠ [] → ∃ c e fz, ob = .cells c e fz ∧ ∀ (i : Nat) v, r.known[i]? = some v → c[i]? = some v)
    (hcells : ∀ o v n, r.isRow o v n → ∃ c e, ob = .cells c e (0, 0) ∧ c.size = n) (hnew : ∀ v n, r.isRow o v n → ∀ b n', ¬ (Γ.role b).isRow o v n') (hnm : ∀ o, r ≠ .mp o)
    (hobj : ORel Γ' w' o x) : Post Γ m w Γ' (m.set o x) w' := by
  have hfree := role_new hr
  have hle : Γ.le Γ' := by
    refine ⟨fun b' => ?_, fun t y h => ?_⟩
    · rw [hrole]
      split
      · rename_i e; subst e; rw [hfree]; exact .free _
      · exact .refl _
    · by_cases ht : t = o
      · subst ht; exact htoko y h
      · exact ⟨y, by rw [htok t ht, h], .inl rfl⟩
  have hold : ∀ b, b < w.heap.size → w'.heap[b]? = w.heap[b]? := fun b hb => by rw [hheap, Array.getElem?_push, if_neg (by omega)]
  have hnewb : w'.heap[w.heap.size]? = some ob := by rw [hheap]; simp
  have hsize : w'.heap.size = w.heap.size + 1 := by rw [hheap]; simp
  have idne : ∀ {b o}, (Γ.role b).id = some o → b < w.heap.size := fun {b o} h => hr.bound b (fun e => by rw [e] at h; cases h)
  refine ⟨hle, ⟨?_, ?_, ?_, ?_, ?_, ?_, ?_⟩, ⟨by omega, hos, htape, hout, fun b hb _ _ => hold b hb⟩, ⟨?_, ?_, ?_⟩, Mem.le_set m o x hmo, fun b' o' h hn => by rw [hrole, if_neg]; have := idne h; omega, fun t ht hn => htok t (fun e => hmo (e ▸ hn))⟩
  · intro b hb
    rw [hrole] at hb
    split at hb
    · omega
    · have := hr.bound b hb; omega
  · intro b hb
    rw [hrole] at hb ⊢
    split at hb
    · rename_i e
      subst e
      obtain ⟨c, e, fz, rfl, hc⟩ := hknown hb
      rw [if_pos rfl]
      exact ⟨c, e, fz, hnewb, hc⟩
    · rename_i e
      rw [if_neg e]
      have hb' := hr.bound b (fun h => hb (by rw [h]; rfl))
      rw [hold b hb']
      exact hr.known b hb
  · intro b o v n hb
    rw [hrole] at hb
    split at hb
    · rename_i e
      subst e
      obtain ⟨c, e, rfl, hc⟩ := hcells o v n hb
      exact ⟨c, e, hnewb, hc⟩
    · rw [hold b (idne (isRow_id hb))]
      exact hr.cells b o v n hb
  · intro b b' o' v n n' hb hb'
    rw [hrole] at hb hb'
    split at hb <;> split at hb'
    · rename_i e e'; rw [e, e']
    · have : o' = o := by have := isRow_id hb; rw [hid] at this; cases this; rfl
      subst this
      exact (hnew v n hb b' n' hb').elim
    · have : o' = o := by have := isRow_id hb'; rw [hid] at this; cases this; rfl
      subst this
      exact (hnew v n' hb' b n hb).elim
    · exact hr.rows b b' o' v n n' hb hb'
  · intro b b' o' hb hb'
    rw [hrole] at hb hb'
    split at hb <;> split at hb'
    · rename_i e e'; rw [e, e']
    · exact absurd hb (hnm _)
    · exact absurd hb' (hnm _)
    · exact hr.maps b b' o' hb hb'
  · intro o' y hy
    by_cases ho : o' = o
    · subst ho
      simp only [Mem.set, if_true, Option.some.injEq] at hy
      subst hy
      exact hobj
    · have hy' : m.obj o' = some y := by simpa [Mem.set, ho] using hy
      refine (hr.objs o' y hy').keep hle (fun b hb => hold b (idne hb)) (fun b v n hb => ?_) (fun b hb => ?_) (fun y hy => by rw [htok o' ho]; exact hy)
      · rw [hrole] at hb
        split at hb
        · have := isRow_id hb; rw [hid] at this; cases this; exact absurd rfl ho
        · exact hb
      · rw [hrole, if_neg]
        have := idne hb; omega
  · intro o' ho'
    have ho' : m.next ≤ o' := ho'
    simp only [Mem.set]
    rw [if_neg]
    · exact hr.above o' ho'
    · rintro rfl; exact hmo (hr.above _ ho')
  · intro b o' hb
    rw [hrole] at hb
    split at hb
    · rename_i e
      rw [hid] at hb
      cases hb
      exact .inr (.inr ⟨by omega, hmo⟩)
    · exact .inl hb
  · intro t ht
    by_cases h : t = o
    · subst h; exact .inl (htokn ht)
    · rw [htok t h] at ht; exact .inl ht
  · intro b hb hf
    rw [hrole, if_neg (by omega), hf]
end Go.AM
