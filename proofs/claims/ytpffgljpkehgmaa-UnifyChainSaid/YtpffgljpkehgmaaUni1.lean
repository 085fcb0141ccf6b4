/-
  Unification in plain Lean: nodes with links, and what making them alike comes to.
-/
import Derived.Test.YtpffgljpkehgmaaGCtx
import Derived.Test.YtpffgljpkehgmaaGE2
import Derived.Test.YtpffgljpkehgmaaGE4
import Derived.Test.YtpffgljpkehgmaaGE6
import Derived.Test.YtpffgljpkehgmaaGE7
import Derived.Test.YtpffgljpkehgmaaGE8
import Derived.Test.YtpffgljpkehgmaaGE10
import Derived.Test.YtpffgljpkehgmaaGE12
import Derived.Test.YtpffgljpkehgmaaAMS
set_option linter.unusedVariables false
set_option linter.unusedSimpArgs false
namespace Uni
structure Nd where
  k : Int
  nm : List UInt8
  args : List Nat
  up : Option Nat
  deriving Inhabited
def upOf (ns : List Nd) (i : Nat) : Option Nat := (ns[i]?).bind (·.up)
def kOf (ns : List Nd) (i : Nat) : Int := ((ns[i]?).map (·.k)).getD 1
def nmOf (ns : List Nd) (i : Nat) : List UInt8 := ((ns[i]?).map (·.nm)).getD []
def argsOf (ns : List Nd) (i : Nat) : List Nat := ((ns[i]?).map (·.args)).getD []
def setUp (ns : List Nd) (a : Nat) (b : Option Nat) : List Nd := ns.modify a fun n => { n with up := b }
section
variable (ns : List Nd) (a b : Nat) (o : Option Nat)
@[simp] theorem setUp_length : (setUp ns a o).length = ns.length := by simp [setUp]
theorem setUp_get (i : Nat) : (setUp ns a o)[i]? = if a = i then (ns[i]?).map fun n => { n with up := o } else ns[i]? := by
  unfold setUp; rw [List.getElem?_modify]; split <;> simp [*]
@[simp] theorem setUp_k (i : Nat) : kOf (setUp ns a o) i = kOf ns i := by
  unfold kOf; rw [setUp_get]; split <;> cases ns[i]? <;> rfl
@[simp] theorem setUp_nm (i : Nat) : nmOf (setUp ns a o) i = nmOf ns i := by
  unfold nmOf; rw [setUp_get]; split <;> cases ns[i]? <;> rfl
@[simp] theorem setUp_args (i : Nat) : argsOf (setUp ns a o) i = argsOf ns i := by
  unfold argsOf; rw [setUp_get]; split <;> cases ns[i]? <;> rfl
theorem setUp_up (i : Nat) : upOf (setUp ns a o) i = if a = i ∧ i < ns.length then o else upOf ns i := by
  unfold upOf; rw [setUp_get]
  by_cases h : a = i
  · subst h
    by_cases h2 : a < ns.length
    · simp [h2]
    · simp [h2, List.getElem?_eq_none (Nat.not_lt.1 h2)]
  · simp [h]
end
/-- the root that links lead to -/
inductive Rt (ns : List Nd) : Nat → Nat → Prop
  | root {i : Nat} : i < ns.length → upOf ns i = none → Rt ns i i
  | step {i j r : Nat} : upOf ns i = some j → Rt ns j r → Rt ns i r
section
variable {ns : List Nd}
theorem Rt.is {i r : Nat} (h : Rt ns i r) : r < ns.length ∧ upOf ns r = none := by
  induction h with
  | root h1 h2 => exact ⟨h1, h2⟩
  | step _ _ ih => exact ih
theorem Rt.self {i r : Nat} (h : Rt ns i r) : Rt ns r r := .root h.is.1 h.is.2
theorem Rt.inj {i r r' : Nat} (h : Rt ns i r) (h' : Rt ns i r') : r = r' := by
  induction h with
  | root h1 h2 =>
    cases h' with
    | root => rfl
    | step e => rw [h2] at e; cases e
  | step e _ ih =>
    cases h' with
    | root _ h2 => rw [h2] at e; cases e
    | step e' h'' => rw [e] at e'; cases e'; exact ih h''
theorem Rt.lt {i r : Nat} (h : Rt ns i r) : i < ns.length := by
  cases h with
  | root h1 => exact h1
  | step e =>
    unfold upOf at e
    rcases Nat.lt_or_ge i ns.length with h | h
    · exact h
    · rw [List.getElem?_eq_none h] at e; cases e
def Lk (ns : List Nd) : Prop := ∀ i, i < ns.length → ∃ r, Rt ns i r
def Sim (ns : List Nd) (i j : Nat) : Prop := i = j ∨ ∃ r, Rt ns i r ∧ Rt ns j r
theorem Sim.refl (i : Nat) : Sim ns i i := .inl rfl
theorem Sim.symm {i j : Nat} (h : Sim ns i j) : Sim ns j i := by
  rcases h with rfl | ⟨r, h1, h2⟩
  · exact .inl rfl
  · exact .inr ⟨r, h2, h1⟩
theorem Sim.trans {i j k : Nat} (h : Sim ns i j) (h' : Sim ns j k) : Sim ns i k := by
  rcases h with rfl | ⟨r, h1, h2⟩
  · exact h'
  · rcases h' with rfl | ⟨r', h3, h4⟩
    · exact .inr ⟨r, h1, h2⟩
    · rw [h2.inj h3] at h1; exact .inr ⟨r', h1, h4⟩
theorem Rt.sim {i r : Nat} (h : Rt ns i r) : Sim ns i r := .inr ⟨r, h, h.self⟩
theorem Sim.root {i j r : Nat} (h : Sim ns i j) (hi : Rt ns i r) : Rt ns j r := by
  rcases h with rfl | ⟨r', h1, h2⟩
  · exact hi
  · rw [hi.inj h1]; exact h2
/-- linking a root to another one -/
theorem link_rt {a b : Nat} (ha : Rt ns a a) (hb : Rt ns b b) (hab : a ≠ b) {i r : Nat} (h : Rt ns i r) : Rt (setUp ns a (some b)) i (if r = a then b else r) := by
  have hrb : Rt (setUp ns a (some b)) b b := .root (by simpa using hb.is.1) (by rw [setUp_up, if_neg (by omega)]; exact hb.is.2)
  induction h with
  | @root i h1 h2 =>
    by_cases hi : i = a
    · subst hi
      rw [if_pos rfl]
      exact .step (by rw [setUp_up, if_pos ⟨rfl, h1⟩]) hrb
    · rw [if_neg hi]
      exact .root (by simpa using h1) (by rw [setUp_up, if_neg (by omega)]; exact h2)
  | @step i j r e _ ih =>
    have : i ≠ a := by rintro rfl; rw [ha.is.2] at e; cases e
    exact .step (by rw [setUp_up, if_neg (by omega)]; exact e) ih
theorem link_lk (hl : Lk ns) {a b : Nat} (ha : Rt ns a a) (hb : Rt ns b b) (hab : a ≠ b) : Lk (setUp ns a (some b)) := fun i hi => by
  obtain ⟨r, hr⟩ := hl i (by simpa using hi)
  exact ⟨_, link_rt ha hb hab hr⟩
theorem link_back (hl : Lk ns) {a b : Nat} (ha : Rt ns a a) (hb : Rt ns b b) (hab : a ≠ b) {i r : Nat} (h : Rt (setUp ns a (some b)) i r) : ∃ r0, Rt ns i r0 ∧ r = if r0 = a then b else r0 := by
  obtain ⟨r0, hr0⟩ := hl i (by simpa using h.lt)
  exact ⟨r0, hr0, h.inj (link_rt ha hb hab hr0)⟩
theorem link_mono {a b : Nat} (ha : Rt ns a a) (hb : Rt ns b b) (hab : a ≠ b) {i j : Nat} (h : Sim ns i j) : Sim (setUp ns a (some b)) i j := by
  rcases h with rfl | ⟨r, h1, h2⟩
  · exact .inl rfl
  · exact .inr ⟨_, link_rt ha hb hab h1, link_rt ha hb hab h2⟩
theorem link_new {a b : Nat} (ha : Rt ns a a) (hb : Rt ns b b) (hab : a ≠ b) : Sim (setUp ns a (some b)) a b := by
  have h1 := link_rt ha hb hab ha
  have h2 := link_rt ha hb hab hb
  rw [if_pos rfl] at h1
  rw [if_neg (Ne.symm hab)] at h2
  exact .inr ⟨_, h1, h2⟩
theorem link_sim (hl : Lk ns) {a b : Nat} (ha : Rt ns a a) (hb : Rt ns b b) (hab : a ≠ b) {i j : Nat} (h : Sim (setUp ns a (some b)) i j) : Sim ns i j ∨ (Sim ns i a ∧ Sim ns j b) ∨ (Sim ns i b ∧ Sim ns j a) := by
  rcases h with rfl | ⟨r, h1, h2⟩
  · exact .inl (.inl rfl)
  · obtain ⟨x, hx, ex⟩ := link_back hl ha hb hab h1
    obtain ⟨y, hy, ey⟩ := link_back hl ha hb hab h2
    by_cases h3 : x = a <;> by_cases h4 : y = a
    · subst h3; subst h4; exact .inl (.inr ⟨_, hx, hy⟩)
    · subst h3
      rw [if_pos rfl] at ex
      rw [if_neg h4] at ey
      right; left
      refine ⟨hx.sim, ?_⟩
      have : y = b := by omega
      subst this; exact hy.sim
    · subst h4
      rw [if_pos rfl] at ey
      rw [if_neg h3] at ex
      right; right
      refine ⟨?_, hy.sim⟩
      have : x = b := by omega
      subst this; exact hx.sim
    · rw [if_neg h3] at ex
      rw [if_neg h4] at ey
      have : x = y := by omega
      subst this; exact .inl (.inr ⟨_, hx, hy⟩)
end
structure Eqv (E : Nat → Nat → Prop) : Prop where
  refl : ∀ i, E i i
  symm : ∀ {i j}, E i j → E j i
  trans : ∀ {i j k}, E i j → E j k → E i k
theorem sim_eqv (ns : List Nd) : Eqv (Sim ns) := ⟨Sim.refl, Sim.symm, Sim.trans⟩
/-- two nodes' heads are the same, and their parts are E -/
def Meet (ns : List Nd) (E : Nat → Nat → Prop) (x y : Nat) : Prop :=
  kOf ns x = kOf ns y ∧ nmOf ns x = nmOf ns y ∧ (argsOf ns x).length = (argsOf ns y).length ∧ ∀ p ∈ (argsOf ns x).zip (argsOf ns y), E p.1 p.2
structure Clo (ns : List Nd) (E : Nat → Nat → Prop) : Prop extends Eqv E where
  meet : ∀ {x y}, E x y → kOf ns x ≠ 1 → kOf ns y ≠ 1 → Meet ns E x y
theorem Meet.mono {ns : List Nd} {E F : Nat → Nat → Prop} {x y : Nat} (h : Meet ns E x y) (hEF : ∀ {i j}, E i j → F i j) : Meet ns F x y :=
  ⟨h.1, h.2.1, h.2.2.1, fun p hp => hEF (h.2.2.2 p hp)⟩
theorem zip_trans {E : Nat → Nat → Prop} (hE : Eqv E) : ∀ {l m n : List Nat}, l.length = m.length → (∀ p ∈ l.zip m, E p.1 p.2) → (∀ p ∈ m.zip n, E p.1 p.2) → ∀ p ∈ l.zip n, E p.1 p.2
  | [], m, n, _, _, _ => by simp
  | a :: l, [], n, h, _, _ => by simp at h
  | a :: l, b :: m, [], h, _, _ => by simp
  | a :: l, b :: m, c :: n, h, h1, h2 => by
    intro p hp
    rw [List.zip_cons_cons, List.mem_cons] at hp
    rcases hp with rfl | hp
    · exact hE.trans (h1 (a, b) (by simp)) (h2 (b, c) (by simp))
    · exact zip_trans hE (by simpa using h) (fun p hp => h1 p (by simp [hp])) (fun p hp => h2 p (by simp [hp])) p hp
theorem zip_symm {E : Nat → Nat → Prop} (hE : Eqv E) : ∀ {l m : List Nat}, (∀ p ∈ l.zip m, E p.1 p.2) → ∀ p ∈ m.zip l, E p.1 p.2
  | [], m, _ => by cases m <;> simp
  | a :: l, [], _ => by simp
  | a :: l, b :: m, h => by
    intro p hp
    rw [List.zip_cons_cons, List.mem_cons] at hp
    rcases hp with rfl | hp
    · exact hE.symm (h (a, b) (by simp))
    · exact zip_symm hE (fun p hp => h p (by simp [hp])) p hp
theorem Meet.trans {ns : List Nd} {E : Nat → Nat → Prop} (hE : Eqv E) {x y z : Nat} (h : Meet ns E x y) (h' : Meet ns E y z) : Meet ns E x z :=
  ⟨h.1.trans h'.1, h.2.1.trans h'.2.1, h.2.2.1.trans h'.2.2.1, zip_trans hE h.2.2.1 h.2.2.2 h'.2.2.2⟩
theorem Meet.symm {ns : List Nd} {E : Nat → Nat → Prop} (hE : Eqv E) {x y : Nat} (h : Meet ns E x y) : Meet ns E y x :=
  ⟨h.1.symm, h.2.1.symm, h.2.2.1.symm, zip_symm hE h.2.2.2⟩
theorem zip_refl {E : Nat → Nat → Prop} (hE : Eqv E) : ∀ (l : List Nat), ∀ p ∈ l.zip l, E p.1 p.2
  | [] => by simp
  | a :: l => by
    intro p hp
    rw [List.zip_cons_cons, List.mem_cons] at hp
    rcases hp with rfl | hp
    · exact hE.refl _
    · exact zip_refl hE l p hp
theorem Meet.refl {ns : List Nd} {E : Nat → Nat → Prop} (hE : Eqv E) (x : Nat) : Meet ns E x x := ⟨rfl, rfl, rfl, zip_refl hE _⟩
def headsB (ns : List Nd) (x y : Nat) : Bool := decide (kOf ns x = kOf ns y) && decide (nmOf ns x = nmOf ns y) && decide ((argsOf ns x).length = (argsOf ns y).length)
inductive Wk (rg : Bool) : List Nd → List (Nat × Nat) → Bool → List Nd → Prop
  | nil (ns : List Nd) : Wk rg ns [] true ns
  | same {ns ns' : List Nd} {a b r : Nat} {rest : List (Nat × Nat)} {ok : Bool} : Rt ns a r → Rt ns b r → Wk rg ns rest ok ns' → Wk rg ns ((a, b) :: rest) ok ns'
  | varl {ns ns' : List Nd} {a b x y : Nat} {rest : List (Nat × Nat)} {ok : Bool} : rg = false → Rt ns a x → Rt ns b y → x ≠ y → kOf ns x = 1 → Wk rg (setUp ns x (some y)) rest ok ns' → Wk rg ns ((a, b) :: rest) ok ns'
  | varr {ns ns' : List Nd} {a b x y : Nat} {rest : List (Nat × Nat)} {ok : Bool} : rg = false → Rt ns a x → Rt ns b y → x ≠ y → kOf ns x ≠ 1 → kOf ns y = 1 → Wk rg (setUp ns y (some x)) rest ok ns' → Wk rg ns ((a, b) :: rest) ok ns'
  | rigid {ns : List Nd} {a b x y : Nat} {rest : List (Nat × Nat)} : rg = true → Rt ns a x → Rt ns b y → x ≠ y → (kOf ns x = 1 ∨ kOf ns y = 1) → Wk rg ns ((a, b) :: rest) false ns
  | clash {ns : List Nd} {a b x y : Nat} {rest : List (Nat × Nat)} : Rt ns a x → Rt ns b y → x ≠ y → kOf ns x ≠ 1 → kOf ns y ≠ 1 → headsB ns x y = false → Wk rg ns ((a, b) :: rest) false ns
  | args {ns ns' : List Nd} {a b x y : Nat} {rest new : List (Nat × Nat)} {ok : Bool} : Rt ns a x → Rt ns b y → x ≠ y → kOf ns x ≠ 1 → kOf ns y ≠ 1 → headsB ns x y = true → (∀ p, p ∈ new ↔ p ∈ (argsOf ns x).zip (argsOf ns y)) →
      Wk rg (setUp ns x (some y)) (new ++ rest) ok ns' → Wk rg ns ((a, b) :: rest) ok ns'
/-- nodes with the same data -/
structure Sd (ns ns' : List Nd) : Prop where
  len : ns'.length = ns.length
  k : ∀ i, kOf ns' i = kOf ns i
  nm : ∀ i, nmOf ns' i = nmOf ns i
  args : ∀ i, argsOf ns' i = argsOf ns i
theorem Sd.refl (ns : List Nd) : Sd ns ns := ⟨rfl, fun _ => rfl, fun _ => rfl, fun _ => rfl⟩
theorem Sd.set (ns : List Nd) (a : Nat) (o : Option Nat) : Sd ns (setUp ns a o) := ⟨by simp, fun _ => by simp, fun _ => by simp, fun _ => by simp⟩
theorem Sd.trans {a b c : List Nd} (h : Sd a b) (h' : Sd b c) : Sd a c := ⟨h'.len.trans h.len, fun i => (h'.k i).trans (h.k i), fun i => (h'.nm i).trans (h.nm i), fun i => (h'.args i).trans (h.args i)⟩
theorem Sd.symm {a b : List Nd} (h : Sd a b) : Sd b a := ⟨h.len.symm, fun i => (h.k i).symm, fun i => (h.nm i).symm, fun i => (h.args i).symm⟩
theorem Meet.sd {a b : List Nd} (h : Sd a b) {E : Nat → Nat → Prop} {x y : Nat} (m : Meet a E x y) : Meet b E x y := by
  unfold Meet at *; rw [h.k, h.k, h.nm, h.nm, h.args, h.args]; exact m
theorem Clo.sd {a b : List Nd} (h : Sd a b) {E : Nat → Nat → Prop} (c : Clo a E) : Clo b E :=
  ⟨c.toEqv, fun hE h1 h2 => (c.meet hE (by rw [← h.k]; exact h1) (by rw [← h.k]; exact h2)).sd h⟩
theorem Wk.sd {rg : Bool} {ns ns' : List Nd} {todo : List (Nat × Nat)} {ok : Bool} (h : Wk rg ns todo ok ns') : Sd ns ns' := by
  induction h with
  | nil => exact .refl _
  | same _ _ _ ih => exact ih
  | varl _ _ _ _ _ _ ih => exact (Sd.set ..).trans ih
  | varr _ _ _ _ _ _ _ ih => exact (Sd.set ..).trans ih
  | rigid => exact .refl _
  | clash => exact .refl _
  | args _ _ _ _ _ _ _ _ ih => exact (Sd.set ..).trans ih
theorem headsB_iff {ns : List Nd} {x y : Nat} : headsB ns x y = true ↔ kOf ns x = kOf ns y ∧ nmOf ns x = nmOf ns y ∧ (argsOf ns x).length = (argsOf ns y).length := by
  unfold headsB; simp [and_assoc]
theorem Wk.lk {rg : Bool} {ns ns' : List Nd} {todo : List (Nat × Nat)} {ok : Bool} (h : Wk rg ns todo ok ns') (hl : Lk ns) : Lk ns' := by
  induction h with
  | nil => exact hl
  | same _ _ _ ih => exact ih hl
  | varl _ ha hb hne _ _ ih => exact ih (link_lk hl ha.self hb.self hne)
  | varr _ ha hb hne _ _ _ ih => exact ih (link_lk hl hb.self ha.self (Ne.symm hne))
  | rigid => exact hl
  | clash => exact hl
  | args ha hb hne _ _ _ _ _ ih => exact ih (link_lk hl ha.self hb.self hne)
theorem Wk.mono {rg : Bool} {ns ns' : List Nd} {todo : List (Nat × Nat)} {ok : Bool} (h : Wk rg ns todo ok ns') : ∀ {i j}, Sim ns i j → Sim ns' i j := by
  induction h with
  | nil => exact id
  | same _ _ _ ih => exact ih
  | varl _ ha hb hne _ _ ih => exact fun h => ih (link_mono ha.self hb.self hne h)
  | varr _ ha hb hne _ _ _ ih => exact fun h => ih (link_mono hb.self ha.self (Ne.symm hne) h)
  | rigid => exact id
  | clash => exact id
  | args ha hb hne _ _ _ _ _ ih => exact fun h => ih (link_mono ha.self hb.self hne h)
/-- all pairs are alike behind a run that went well -/
theorem Wk.does {rg : Bool} {ns ns' : List Nd} {todo : List (Nat × Nat)} {ok : Bool} (h : Wk rg ns todo ok ns') (hok : ok = true) : ∀ p ∈ todo, Sim ns' p.1 p.2 := by
  induction h with
  | nil => simp
  | same ha hb hw ih =>
    intro p hp
    rcases List.mem_cons.1 hp with rfl | hp
    · exact hw.mono (.inr ⟨_, ha, hb⟩)
    · exact ih hok p hp
  | varl _ ha hb hne _ hw ih =>
    intro p hp
    rcases List.mem_cons.1 hp with rfl | hp
    · exact ((hw.mono (link_mono ha.self hb.self hne ha.sim)).trans (hw.mono (link_new ha.self hb.self hne))).trans (hw.mono (link_mono ha.self hb.self hne hb.sim)).symm
    · exact ih hok p hp
  | varr _ ha hb hne _ _ hw ih =>
    intro p hp
    rcases List.mem_cons.1 hp with rfl | hp
    · exact ((hw.mono (link_mono hb.self ha.self (Ne.symm hne) ha.sim)).trans (hw.mono (link_new hb.self ha.self (Ne.symm hne))).symm).trans (hw.mono (link_mono hb.self ha.self (Ne.symm hne) hb.sim)).symm
    · exact ih hok p hp
  | rigid => cases hok
  | clash => cases hok
  | args ha hb hne _ _ _ _ hw ih =>
    intro p hp
    rcases List.mem_cons.1 hp with rfl | hp
    · exact ((hw.mono (link_mono ha.self hb.self hne ha.sim)).trans (hw.mono (link_new ha.self hb.self hne))).trans (hw.mono (link_mono ha.self hb.self hne hb.sim)).symm
    · exact ih hok p (List.mem_append_right _ hp)
theorem sim_sub {ns : List Nd} {E : Nat → Nat → Prop} (hE : Eqv E) (hl : Lk ns) {a b : Nat} (ha : Rt ns a a) (hb : Rt ns b b) (hab : a ≠ b) (hs : ∀ {i j}, Sim ns i j → E i j) (he : E a b) : ∀ {i j}, Sim (setUp ns a (some b)) i j → E i j := by
  intro i j h
  rcases link_sim hl ha hb hab h with h | ⟨h1, h2⟩ | ⟨h1, h2⟩
  · exact hs h
  · exact hE.trans (hE.trans (hs h1) he) (hE.symm (hs h2))
  · exact hE.trans (hE.trans (hs h1) (hE.symm he)) (hE.symm (hs h2))
/-- a run stays within each closed relation that has the pairs; and it fails only if there is none -/
theorem Wk.least {rg : Bool} {ns ns' : List Nd} {todo : List (Nat × Nat)} {ok : Bool} (h : Wk rg ns todo ok ns') (hl : Lk ns) {E : Nat → Nat → Prop} (hE : Clo ns E) (hs : ∀ {i j}, Sim ns i j → E i j) (ht : ∀ p ∈ todo, E p.1 p.2) :
    (∀ {i j}, Sim ns' i j → E i j) ∧ (ok = false → rg = true ∧ ∃ x y, Rt ns x x ∧ Rt ns y y ∧ x ≠ y ∧ kOf ns x = 1 ∧ E x y) := by
  induction h with
  | nil => exact ⟨hs, fun h => by cases h⟩
  | same _ _ _ ih => exact ih hl hE hs fun p hp => ht p (List.mem_cons_of_mem _ hp)
  | varl hr ha hb hne _ _ ih =>
    have he := hE.trans (hE.trans (hE.symm (hs ha.sim)) (ht _ (List.mem_cons_self ..))) (hs hb.sim)
    obtain ⟨h1, h2⟩ := ih (link_lk hl ha.self hb.self hne) (hE.sd (Sd.set ..)) (sim_sub hE.toEqv hl ha.self hb.self hne hs he) fun p hp => ht p (List.mem_cons_of_mem _ hp)
    exact ⟨h1, fun h => by have := (h2 h).1; rw [hr] at this; cases this⟩
  | varr hr ha hb hne _ _ _ ih =>
    have he := hE.trans (hE.trans (hE.symm (hs ha.sim)) (ht _ (List.mem_cons_self ..))) (hs hb.sim)
    obtain ⟨h1, h2⟩ := ih (link_lk hl hb.self ha.self (Ne.symm hne)) (hE.sd (Sd.set ..)) (sim_sub hE.toEqv hl hb.self ha.self (Ne.symm hne) hs (hE.symm he)) fun p hp => ht p (List.mem_cons_of_mem _ hp)
    exact ⟨h1, fun h => by have := (h2 h).1; rw [hr] at this; cases this⟩
  | rigid hr ha hb hne hv =>
    have he := hE.trans (hE.trans (hE.symm (hs ha.sim)) (ht _ (List.mem_cons_self ..))) (hs hb.sim)
    refine ⟨hs, fun _ => ⟨hr, ?_⟩⟩
    rcases hv with hv | hv
    · exact ⟨_, _, ha.self, hb.self, hne, hv, he⟩
    · exact ⟨_, _, hb.self, ha.self, Ne.symm hne, hv, hE.symm he⟩
  | clash ha hb hne h1 h2 h3 =>
    have he := hE.trans (hE.trans (hE.symm (hs ha.sim)) (ht _ (List.mem_cons_self ..))) (hs hb.sim)
    have := hE.meet he h1 h2
    have : headsB _ _ _ = true := headsB_iff.2 ⟨this.1, this.2.1, this.2.2.1⟩
    rw [h3] at this; cases this
  | @args ns ns' a b x y rest new ok ha hb hne h1 h2 h3 hn _ ih =>
    have he := hE.trans (hE.trans (hE.symm (hs ha.sim)) (ht _ (List.mem_cons_self ..))) (hs hb.sim)
    have hm := hE.meet he h1 h2
    obtain ⟨g1, g2⟩ := ih (link_lk hl ha.self hb.self hne) (hE.sd (Sd.set ..)) (sim_sub hE.toEqv hl ha.self hb.self hne hs he) fun p hp => by
      rcases List.mem_append.1 hp with hp | hp
      · exact hm.2.2.2 p ((hn p).1 hp)
      · exact ht p (List.mem_cons_of_mem _ hp)
    refine ⟨g1, fun h => ?_⟩
    obtain ⟨hr, u, v, hu, hv, huv, hk, huE⟩ := g2 h
    refine ⟨hr, u, v, ?_, ?_, huv, by simpa using hk, huE⟩
    · obtain ⟨r0, q1, q2⟩ := link_back hl ha.self hb.self hne hu
      by_cases hx : r0 = x
      · subst hx
        rw [if_pos rfl] at q2
        subst q2
        exact hb.self
      · rw [if_neg hx] at q2; subst q2; exact q1
    · obtain ⟨r0, q1, q2⟩ := link_back hl ha.self hb.self hne hv
      by_cases hx : r0 = x
      · subst hx
        rw [if_pos rfl] at q2
        subst q2
        exact hb.self
      · rw [if_neg hx] at q2; subst q2; exact q1
end Uni
namespace Uni
/-- links keep heads, and parts but for what is still to be done -/
def Cm (ns : List Nd) (todo : List (Nat × Nat)) : Prop := ∀ x y, upOf ns x = some y → kOf ns x ≠ 1 →
  kOf ns y ≠ 1 ∧ headsB ns x y = true ∧ ∀ E, Eqv E → (∀ {i j}, Sim ns i j → E i j) → (∀ p ∈ todo, E p.1 p.2) → ∀ p ∈ (argsOf ns x).zip (argsOf ns y), E p.1 p.2
theorem headsB_set {ns : List Nd} {a : Nat} {o : Option Nat} {x y : Nat} : headsB (setUp ns a o) x y = headsB ns x y := by unfold headsB; simp
theorem cm_link {ns : List Nd} {todo todo' : List (Nat × Nat)} (h : Cm ns todo) {a b : Nat} (ha : Rt ns a a) (hb : Rt ns b b) (hab : a ≠ b) (hk : kOf ns a ≠ 1 → kOf ns b ≠ 1 ∧ headsB ns a b = true ∧ ∀ p ∈ (argsOf ns a).zip (argsOf ns b), p ∈ todo')
    (ht : ∀ E, Eqv E → (∀ {i j}, Sim (setUp ns a (some b)) i j → E i j) → (∀ p ∈ todo', E p.1 p.2) → ∀ p ∈ todo, E p.1 p.2) : Cm (setUp ns a (some b)) todo' := by
  intro x y hx hkx
  rw [setUp_up] at hx
  simp only [setUp_k, headsB_set, setUp_args] at *
  split at hx
  · rename_i h1
    obtain ⟨rfl, _⟩ := h1
    cases hx
    obtain ⟨q1, q2, q3⟩ := hk hkx
    exact ⟨q1, q2, fun E hE hs hd p hp => hd p (q3 p hp)⟩
  · obtain ⟨q1, q2, q3⟩ := h x y hx hkx
    exact ⟨q1, q2, fun E hE hs hd => q3 E hE (fun h => hs (link_mono ha hb hab h)) (ht E hE hs hd)⟩
theorem Wk.cm {rg : Bool} {ns ns' : List Nd} {todo : List (Nat × Nat)} {ok : Bool} (h : Wk rg ns todo ok ns') (hok : ok = true) (hc : Cm ns todo) : Cm ns' [] := by
  induction h with
  | nil => exact hc
  | same ha hb _ ih =>
    refine ih hok fun x y hx hk => ?_
    obtain ⟨q1, q2, q3⟩ := hc x y hx hk
    refine ⟨q1, q2, fun E hE hs hd => q3 E hE hs fun p hp => ?_⟩
    rcases List.mem_cons.1 hp with rfl | hp
    · exact hs (.inr ⟨_, ha, hb⟩)
    · exact hd p hp
  | varl _ ha hb hne hk _ ih =>
    refine ih hok (cm_link hc ha.self hb.self hne (fun h => absurd hk h) fun E hE hs hd p hp => ?_)
    rcases List.mem_cons.1 hp with rfl | hp
    · exact hE.trans (hE.trans (hs (link_mono ha.self hb.self hne ha.sim)) (hs (link_new ha.self hb.self hne))) (hE.symm (hs (link_mono ha.self hb.self hne hb.sim)))
    · exact hd p hp
  | varr _ ha hb hne _ hk _ ih =>
    refine ih hok (cm_link hc hb.self ha.self (Ne.symm hne) (fun h => absurd hk h) fun E hE hs hd p hp => ?_)
    rcases List.mem_cons.1 hp with rfl | hp
    · exact hE.trans (hE.trans (hs (link_mono hb.self ha.self (Ne.symm hne) ha.sim)) (hE.symm (hs (link_new hb.self ha.self (Ne.symm hne))))) (hE.symm (hs (link_mono hb.self ha.self (Ne.symm hne) hb.sim)))
    · exact hd p hp
  | rigid => cases hok
  | clash => cases hok
  | args ha hb hne h1 h2 h3 hn _ ih =>
    refine ih hok (cm_link hc ha.self hb.self hne (fun _ => ⟨h2, h3, fun p hp => List.mem_append_left _ ((hn p).2 hp)⟩) fun E hE hs hd p hp => ?_)
    rcases List.mem_cons.1 hp with rfl | hp
    · exact hE.trans (hE.trans (hs (link_mono ha.self hb.self hne ha.sim)) (hs (link_new ha.self hb.self hne))) (hE.symm (hs (link_mono ha.self hb.self hne hb.sim)))
    · exact hd p (List.mem_append_right _ hp)
theorem cm_root {ns : List Nd} (hc : Cm ns []) {x r : Nat} (h : Rt ns x r) (hk : kOf ns x ≠ 1) : kOf ns r ≠ 1 ∧ Meet ns (Sim ns) x r := by
  induction h with
  | root => exact ⟨hk, Meet.refl (sim_eqv ns) _⟩
  | step e _ ih =>
    obtain ⟨q1, q2, q3⟩ := hc _ _ e hk
    obtain ⟨q4, q5⟩ := ih q1
    have hh := headsB_iff.1 q2
    exact ⟨q4, Meet.trans (sim_eqv ns) ⟨hh.1, hh.2.1, hh.2.2, q3 _ (sim_eqv ns) id (by simp)⟩ q5⟩
theorem cm_clo {ns : List Nd} (hc : Cm ns []) : Clo ns (Sim ns) := ⟨sim_eqv ns, fun {x y} h hx hy => by
  rcases h with rfl | ⟨r, h1, h2⟩
  · exact Meet.refl (sim_eqv ns) _
  · exact Meet.trans (sim_eqv ns) (cm_root hc h1 hx).2 (Meet.symm (sim_eqv ns) (cm_root hc h2 hy).2)⟩
/-- a rigid run makes no variable something else -/
theorem Wk.rig {rg : Bool} {ns ns' : List Nd} {todo : List (Nat × Nat)} {ok : Bool} (h : Wk rg ns todo ok ns') (hr : rg = true) (hok : ok = true) : ∀ {x y}, Rt ns x x → Rt ns y y → kOf ns x = 1 → Sim ns' x y → x = y := by
  induction h with
  | nil =>
    intro x y hx hy _ h
    exact hx.inj (h.symm.root hy) ▸ rfl
  | same _ _ _ ih => exact ih hok
  | varl h => rw [hr] at h; cases h
  | varr h => rw [hr] at h; cases h
  | rigid => cases hok
  | clash => cases hok
  | @args ns ns' a b x0 y0 rest new ok ha hb hne h1 h2 h3 hn hw ih =>
    intro x y hx hy hk h
    have keep : ∀ {z}, Rt ns z z → z ≠ x0 → Rt (setUp ns x0 (some y0)) z z := fun {z} hz hne2 => by
      have := link_rt ha.self hb.self hne hz
      rwa [if_neg hne2] at this
    have hx0 : x ≠ x0 := by rintro rfl; exact h1 hk
    by_cases hy0 : y = x0
    · subst hy0
      have h4 : Sim ns' x y0 := h.trans (hw.mono (link_new ha.self hb.self hne))
      have h5 := ih hok (keep hx hx0) (keep hb.self (Ne.symm hne)) (by simpa using hk) h4
      subst h5
      exact absurd hk h2
    · exact ih hok (keep hx hx0) (keep hy hy0) (by simpa using hk) h
inductive Rch (ns : List Nd) (E : Nat → Nat → Prop) (a : Nat) : Nat → Prop
  | base {x : Nat} : E a x → Rch ns E a x
  | step {y z w : Nat} : Rch ns E a y → z ∈ argsOf ns y → E z w → Rch ns E a w
theorem Rch.trans {ns : List Nd} {E : Nat → Nat → Prop} (hE : Eqv E) {a b x : Nat} (h : Rch ns E a b) (h' : Rch ns E b x) : Rch ns E a x := by
  induction h' with
  | base e =>
    cases h with
    | base e' => exact .base (hE.trans e' e)
    | step h1 h2 h3 => exact .step h1 h2 (hE.trans h3 e)
  | step _ h2 h3 ih => exact .step ih h2 h3
theorem Rch.sd {ns ns' : List Nd} (h : Sd ns ns') {E : Nat → Nat → Prop} {a x : Nat} (r : Rch ns E a x) : Rch ns' E a x := by
  induction r with
  | base e => exact .base e
  | step _ h2 h3 ih => exact .step ih (by rw [h.args]; exact h2) h3
theorem zip_left {l m : List Nat} {p : Nat × Nat} (h : p ∈ l.zip m) : p.1 ∈ l := by
  obtain ⟨a, b⟩ := p; exact (List.of_mem_zip h).1
theorem Wk.touch {rg : Bool} {ns ns' : List Nd} {todo : List (Nat × Nat)} {ok : Bool} (h : Wk rg ns todo ok ns') (hl : Lk ns) {E : Nat → Nat → Prop} (hE : Eqv E) (hs : ∀ {i j}, Sim ns' i j → E i j) : ∀ {x y}, Sim ns' x y → Sim ns x y ∨ ∃ p ∈ todo, Rch ns E p.1 x := by
  induction h with
  | nil => exact fun h => .inl h
  | same _ _ _ ih =>
    intro x y h
    rcases ih hl hs h with h | ⟨p, hp, h⟩
    · exact .inl h
    · exact .inr ⟨p, List.mem_cons_of_mem _ hp, h⟩
  | varl _ ha hb hne _ hw ih =>
    intro x y h
    have up : ∀ {i j}, Sim _ i j → E i j := fun h => hs (hw.mono (link_mono ha.self hb.self hne h))
    have hab := hs (hw.mono (link_new ha.self hb.self hne))
    rcases ih (link_lk hl ha.self hb.self hne) hs h with h | ⟨p, hp, h⟩
    · rcases link_sim hl ha.self hb.self hne h with h | ⟨h1, _⟩ | ⟨h1, _⟩
      · exact .inl h
      · exact .inr ⟨_, List.mem_cons_self .., .base (hE.trans (up ha.sim) (hE.symm (up h1)))⟩
      · exact .inr ⟨_, List.mem_cons_self .., .base (hE.trans (hE.trans (up ha.sim) hab) (hE.symm (up h1)))⟩
    · exact .inr ⟨p, List.mem_cons_of_mem _ hp, h.sd (Sd.set ..).symm⟩
  | varr _ ha hb hne _ _ hw ih =>
    intro x y h
    have up : ∀ {i j}, Sim _ i j → E i j := fun h => hs (hw.mono (link_mono hb.self ha.self (Ne.symm hne) h))
    have hab := hs (hw.mono (link_new hb.self ha.self (Ne.symm hne)))
    rcases ih (link_lk hl hb.self ha.self (Ne.symm hne)) hs h with h | ⟨p, hp, h⟩
    · rcases link_sim hl hb.self ha.self (Ne.symm hne) h with h | ⟨h1, _⟩ | ⟨h1, _⟩
      · exact .inl h
      · exact .inr ⟨_, List.mem_cons_self .., .base (hE.trans (hE.trans (up ha.sim) (hE.symm hab)) (hE.symm (up h1)))⟩
      · exact .inr ⟨_, List.mem_cons_self .., .base (hE.trans (up ha.sim) (hE.symm (up h1)))⟩
    · exact .inr ⟨p, List.mem_cons_of_mem _ hp, h.sd (Sd.set ..).symm⟩
  | rigid => exact fun h => .inl h
  | clash => exact fun h => .inl h
  | args ha hb hne _ _ _ hn hw ih =>
    intro x y h
    have up : ∀ {i j}, Sim _ i j → E i j := fun h => hs (hw.mono (link_mono ha.self hb.self hne h))
    have hab := hs (hw.mono (link_new ha.self hb.self hne))
    rcases ih (link_lk hl ha.self hb.self hne) hs h with h | ⟨p, hp, h⟩
    · rcases link_sim hl ha.self hb.self hne h with h | ⟨h1, _⟩ | ⟨h1, _⟩
      · exact .inl h
      · exact .inr ⟨_, List.mem_cons_self .., .base (hE.trans (up ha.sim) (hE.symm (up h1)))⟩
      · exact .inr ⟨_, List.mem_cons_self .., .base (hE.trans (hE.trans (up ha.sim) hab) (hE.symm (up h1)))⟩
    · rcases List.mem_append.1 hp with hp | hp
      · exact .inr ⟨_, List.mem_cons_self .., Rch.trans hE (.step (.base (up ha.sim)) (zip_left ((hn p).1 hp)) (hE.refl _)) (h.sd (Sd.set ..).symm)⟩
      · exact .inr ⟨p, List.mem_cons_of_mem _ hp, h.sd (Sd.set ..).symm⟩
inductive Fin (ns : List Nd) (E : Nat → Nat → Prop) : Nat → Prop
  | mk {x : Nat} : (∀ y z, E x y → z ∈ argsOf ns y → Fin ns E z) → Fin ns E x
theorem Fin.alike {ns : List Nd} {E : Nat → Nat → Prop} (hE : Eqv E) {x y : Nat} (h : Fin ns E x) (e : E x y) : Fin ns E y := by
  cases h with
  | mk h => exact .mk fun u z h1 h2 => h u z (hE.trans e h1) h2
theorem Fin.arg {ns : List Nd} {E : Nat → Nat → Prop} (hE : Eqv E) {x z : Nat} (h : Fin ns E x) (hz : z ∈ argsOf ns x) : Fin ns E z := by
  cases h with
  | mk h => exact h x z (hE.refl _) hz
theorem Fin.within {ns : List Nd} {E : Nat → Nat → Prop} (hE : Eqv E) {a x : Nat} (h : Fin ns E a) (r : Rch ns E a x) : Fin ns E x := by
  induction r with
  | base e => exact h.alike hE e
  | step _ h2 h3 ih => exact (ih.arg hE h2).alike hE h3
theorem Fin.sd {ns ns' : List Nd} (h : Sd ns ns') {E : Nat → Nat → Prop} {x : Nat} (f : Fin ns E x) : Fin ns' E x := by
  induction f with
  | mk _ ih => exact .mk fun y z h1 h2 => ih y z h1 (by rw [← h.args]; exact h2)
theorem Wk.fin {rg : Bool} {ns ns' : List Nd} {a b : Nat} {ok : Bool} (h : Wk rg ns [(a, b)] ok ns') (hl : Lk ns) (hf : ∀ x, Fin ns (Sim ns) x) (ha : Fin ns' (Sim ns') a) (x : Nat) : Fin ns' (Sim ns') x := by
  have h0 := hf x
  induction h0 with
  | @mk x _ ih =>
    by_cases hr : Rch ns' (Sim ns') a x
    · exact ha.within (sim_eqv ns') hr
    · refine .mk fun y z h1 h2 => ?_
      rcases h.touch hl (sim_eqv ns') (fun h => h) h1 with h3 | ⟨p, hp, h3⟩
      · exact ih y z h3 (by rw [← h.sd.args]; exact h2)
      · rw [List.mem_singleton] at hp
        subst hp
        exact absurd (h3.sd h.sd) hr
inductive Fo where
  | nil
  | v (n : Nat) (rest : Fo)
  | c (k : Int) (nm : List UInt8) (aa rest : Fo)
  deriving DecidableEq
inductive St (ns : List Nd) : List Nat → Fo → Prop
  | nil : St ns [] .nil
  | v {x r : Nat} {xs : List Nat} {t : Fo} : Rt ns x r → kOf ns r = 1 → St ns xs t → St ns (x :: xs) (.v r t)
  | c {x r : Nat} {xs : List Nat} {aa t : Fo} : Rt ns x r → kOf ns r ≠ 1 → St ns (argsOf ns r) aa → St ns xs t → St ns (x :: xs) (.c (kOf ns r) (nmOf ns r) aa t)
theorem St.inj {ns : List Nd} {l : List Nat} {t t' : Fo} (h : St ns l t) (h' : St ns l t') : t = t' := by
  induction h generalizing t' with
  | nil => cases h'; rfl
  | v h1 h2 _ ih =>
    cases h' with
    | v g1 g2 g3 => rw [h1.inj g1, ih g3]
    | c g1 g2 => rw [h1.inj g1] at h2; exact absurd h2 g2
  | c h1 h2 _ _ ih1 ih2 =>
    cases h' with
    | v g1 g2 => rw [h1.inj g1] at h2; exact absurd g2 h2
    | c g1 g2 g3 g4 =>
      cases h1.inj g1
      rw [ih1 g3, ih2 g4]
theorem St.alike {ns : List Nd} {x y : Nat} {xs : List Nat} {t : Fo} (h : St ns (x :: xs) t) (e : Sim ns x y) : St ns (y :: xs) t := by
  cases h with
  | v h1 h2 h3 => exact .v (e.root h1) h2 h3
  | c h1 h2 h3 h4 => exact .c (e.root h1) h2 h3 h4
/-- all parts are nodes -/
def Av (ns : List Nd) : Prop := ∀ i, ∀ a ∈ argsOf ns i, a < ns.length
theorem Av.sd {ns ns' : List Nd} (h : Sd ns ns') (a : Av ns) : Av ns' := fun i x hx => by rw [h.len]; exact a i x (by rw [← h.args]; exact hx)
theorem st_rows {ns : List Nd} : ∀ {l : List Nat}, (∀ x ∈ l, ∃ t, St ns [x] t) → ∃ t, St ns l t
  | [], _ => ⟨_, .nil⟩
  | x :: l, h => by
    obtain ⟨t, ht⟩ := h x (List.mem_cons_self ..)
    obtain ⟨t', ht'⟩ := st_rows (l := l) fun y hy => h y (List.mem_cons_of_mem _ hy)
    cases ht with
    | v h1 h2 _ => exact ⟨_, .v h1 h2 ht'⟩
    | c h1 h2 h3 _ => exact ⟨_, .c h1 h2 h3 ht'⟩
theorem st_fin {ns : List Nd} (hl : Lk ns) (ha : Av ns) {x : Nat} (hf : Fin ns (Sim ns) x) (hx : x < ns.length) : ∃ t, St ns [x] t := by
  induction hf with
  | @mk x _ ih =>
    obtain ⟨r, hr⟩ := hl x hx
    by_cases hk : kOf ns r = 1
    · exact ⟨_, .v hr hk .nil⟩
    · obtain ⟨t, ht⟩ := st_rows (ns := ns) (l := argsOf ns r) fun z hz => ih r z hr.sim hz (ha r z hz)
      exact ⟨_, .c hr hk ht .nil⟩
/-- two nodes stand for the same -/
def Te (ns : List Nd) (x y : Nat) : Prop := ∃ t, St ns [x] t ∧ St ns [y] t
theorem te_zip {ns : List Nd} : ∀ {l m : List Nat} {t : Fo}, St ns l t → St ns m t → l.length = m.length ∧ ∀ p ∈ l.zip m, Te ns p.1 p.2
  | [], m, t, h, h' => by cases h; cases h'; simp
  | x :: l, m, t, h, h' => by
    cases h with
    | v h1 h2 h3 =>
      cases h' with
      | v g1 g2 g3 =>
        obtain ⟨q1, q2⟩ := te_zip h3 g3
        refine ⟨by simp [q1], fun p hp => ?_⟩
        rw [List.zip_cons_cons, List.mem_cons] at hp
        rcases hp with rfl | hp
        · exact ⟨_, .v h1 h2 .nil, .v g1 g2 .nil⟩
        · exact q2 p hp
    | c h1 h2 h3 h4 =>
      generalize ht : Fo.c _ _ _ _ = t at h'
      cases h' with
      | nil => cases ht
      | v => cases ht
      | c g1 g2 g3 g4 =>
        injection ht with e1 e2 e3 e4
        subst e3; subst e4
        obtain ⟨q1, q2⟩ := te_zip h4 g4
        refine ⟨by simp [q1], fun p hp => ?_⟩
        rw [List.zip_cons_cons, List.mem_cons] at hp
        rcases hp with rfl | hp
        · exact ⟨_, .c h1 h2 h3 .nil, by rw [e1, e2]; exact .c g1 g2 g3 .nil⟩
        · exact q2 p hp
theorem zip_te {ns : List Nd} : ∀ {l m : List Nat}, l.length = m.length → (∀ p ∈ l.zip m, Te ns p.1 p.2) → ∃ t, St ns l t ∧ St ns m t
  | [], [], _, _ => ⟨_, .nil, .nil⟩
  | [], _ :: _, h, _ => by simp at h
  | _ :: _, [], h, _ => by simp at h
  | x :: l, y :: m, h, hp => by
    obtain ⟨t, h1, h2⟩ := hp (x, y) (by simp)
    obtain ⟨u, h3, h4⟩ := zip_te (l := l) (m := m) (by simpa using h) fun p hq => hp p (by simp [hq])
    cases h1 with
    | v a1 a2 a3 =>
      cases h2 with
      | v b1 b2 b3 => exact ⟨_, .v a1 a2 h3, .v b1 b2 h4⟩
    | c a1 a2 a3 a4 =>
      generalize ht : Fo.c _ _ _ _ = t at h2
      cases h2 with
      | v => cases ht
      | c b1 b2 b3 b4 =>
        injection ht with e1 e2 e3 e4
        subst e3
        exact ⟨_, .c a1 a2 a3 h3, by rw [e1, e2]; exact .c b1 b2 b3 h4⟩
structure Good (ns : List Nd) : Prop where
  lk : Lk ns
  av : Av ns
  cm : Cm ns []
  fin : ∀ x, Fin ns (Sim ns) x
/-- WHAT A RIGID RUN TELLS: whether the two nodes stand for the same. -/
theorem Wk.tells {ns ns' : List Nd} {a b : Nat} {ok : Bool} (h : Wk true ns [(a, b)] ok ns') (g : Good ns) (ha : a < ns.length) (hb : b < ns.length) : ok = true ↔ Te ns a b := by
  constructor
  · intro hok
    have hc := cm_clo (h.cm hok fun x y hx hk => by
      obtain ⟨q1, q2, q3⟩ := g.cm x y hx hk
      exact ⟨q1, q2, fun E hE hs _ => q3 E hE hs (by simp)⟩)
    have hab : Sim ns' a b := h.does hok (a, b) (by simp)
    have key : ∀ x, Fin ns (Sim ns) x → ∀ y, x < ns.length → y < ns.length → Sim ns' x y → Te ns x y := by
      intro x hf
      induction hf with
      | @mk x _ ih =>
        intro y hx hy hxy
        obtain ⟨r, hr⟩ := g.lk x hx
        obtain ⟨s, hs⟩ := g.lk y hy
        have hrs : Sim ns' r s := ((h.mono hr.sim).symm.trans hxy).trans (h.mono hs.sim)
        by_cases hk : kOf ns r = 1
        · have := h.rig rfl hok hr.self hs.self hk hrs
          subst this
          exact ⟨_, .v hr hk .nil, .v hs hk .nil⟩
        · by_cases hk2 : kOf ns s = 1
          · have := h.rig rfl hok hs.self hr.self hk2 hrs.symm
            subst this
            exact absurd hk2 hk
          · have hm := hc.meet hrs (by rw [h.sd.k]; exact hk) (by rw [h.sd.k]; exact hk2)
            unfold Meet at hm
            rw [h.sd.k, h.sd.k, h.sd.nm, h.sd.nm, h.sd.args, h.sd.args] at hm
            obtain ⟨m1, m2, m3, m4⟩ := hm
            obtain ⟨t, t1, t2⟩ := zip_te (ns := ns) m3 fun p hp => by
              obtain ⟨p1, p2⟩ := p
              have h5 := List.of_mem_zip hp
              exact ih r p1 hr.sim h5.1 p2 (g.av r p1 h5.1) (g.av s p2 h5.2) (m4 _ hp)
            exact ⟨_, .c hr hk t1 .nil, by rw [m1, m2]; exact .c hs hk2 t2 .nil⟩
    exact key a (g.fin a) b ha hb hab
  · intro ht
    have hcs := cm_clo g.cm
    have hE : Eqv (fun x y => Sim ns x y ∨ Te ns x y) := ⟨fun i => .inl (.refl i), fun h => h.elim (fun h => .inl h.symm) fun ⟨t, h1, h2⟩ => .inr ⟨t, h2, h1⟩, fun h h' => by
      rcases h with h | ⟨t, h1, h2⟩ <;> rcases h' with h' | ⟨t', h3, h4⟩
      · exact .inl (h.trans h')
      · exact .inr ⟨t', h3.alike h.symm, h4⟩
      · exact .inr ⟨t, h1, h2.alike h'⟩
      · cases h2.inj h3
        exact .inr ⟨t, h1, h4⟩⟩
    have hC : Clo ns (fun x y => Sim ns x y ∨ Te ns x y) := ⟨hE, fun {x y} h hx hy => by
      rcases h with h | ⟨t, h1, h2⟩
      · exact (hcs.meet h hx hy).mono fun h => .inl h
      · cases h1 with
        | v a1 a2 a3 => exact absurd a2 (cm_root g.cm a1 hx).1
        | c a1 a2 a3 a4 =>
          generalize hq : Fo.c _ _ _ _ = t at h2
          cases h2 with
          | v => cases hq
          | c b1 b2 b3 b4 =>
            injection hq with e1 e2 e3 e4
            subst e3
            obtain ⟨z1, z2⟩ := te_zip a3 b3
            have m1 := (cm_root g.cm a1 hx).2.mono (F := fun x y => Sim ns x y ∨ Te ns x y) fun h => .inl h
            have m2 := (cm_root g.cm b1 hy).2.mono (F := fun x y => Sim ns x y ∨ Te ns x y) fun h => .inl h
            exact Meet.trans hE (Meet.trans hE m1 ⟨e1, e2, z1, fun p hp => .inr (z2 p hp)⟩) (Meet.symm hE m2)⟩
    obtain ⟨_, g2⟩ := h.least g.lk hC (fun h => .inl h) fun p hp => by
      rw [List.mem_singleton] at hp; subst hp; exact .inr ht
    cases ok with
    | true => rfl
    | false =>
      obtain ⟨_, x, y, hx, hy, hne, hk, he⟩ := g2 rfl
      rcases he with he | ⟨t, h1, h2⟩
      · exact absurd (hx.inj (he.symm.root hy)) hne
      · cases h1 with
        | v a1 a2 a3 =>
          cases hx.inj a1
          cases h2 with
          | v b1 b2 b3 => exact absurd (b1.inj hy) hne
        | c a1 a2 =>
          cases hx.inj a1
          exact absurd hk a2
end Uni
namespace Uni
/-- two stores say the same -/
structure Sm (p r : List Nd) : Prop where
  sd : Sd p r
  sim : ∀ i j, Sim p i j ↔ Sim r i j
theorem Sm.refl (p : List Nd) : Sm p p := ⟨.refl p, fun _ _ => .rfl⟩
theorem Sm.symm {p r : List Nd} (h : Sm p r) : Sm r p := ⟨h.sd.symm, fun i j => (h.sim i j).symm⟩
theorem Sm.trans {p q r : List Nd} (h : Sm p q) (h' : Sm q r) : Sm p r := ⟨h.sd.trans h'.sd, fun i j => (h.sim i j).trans (h'.sim i j)⟩
theorem Fin.same {ns ns' : List Nd} (h : Sd ns ns') {E F : Nat → Nat → Prop} (hEF : ∀ i j, E i j ↔ F i j) {x : Nat} (f : Fin ns E x) : Fin ns' F x := by
  induction f with
  | mk _ ih => exact .mk fun y z h1 h2 => ih y z ((hEF _ _).2 h1) (by rw [← h.args]; exact h2)
theorem Sm.fin {p r : List Nd} (h : Sm p r) {x : Nat} (f : Fin p (Sim p) x) : Fin r (Sim r) x := f.same h.sd h.sim
theorem cm_nil {ns : List Nd} (h : Cm ns []) (todo : List (Nat × Nat)) : Cm ns todo := fun x y hx hk => by
  obtain ⟨q1, q2, q3⟩ := h x y hx hk
  exact ⟨q1, q2, fun E hE hs _ => q3 E hE hs (by simp)⟩
theorem Wk.clo {rg : Bool} {ns ns' : List Nd} {todo : List (Nat × Nat)} (h : Wk rg ns todo true ns') (hc : Cm ns []) : Cm ns' [] := h.cm rfl (cm_nil hc todo)
/-- two runs of the same equations, each in its own order, over stores that say the same -/
theorem Wk.both {p p' r r' : List Nd} {todo todo' : List (Nat × Nat)} {ok ok' : Bool} (hp : Wk false p todo ok p') (hr : Wk false r todo' ok' r') (hpl : Lk p) (hrl : Lk r) (hpc : Cm p []) (hrc : Cm r []) (h : Sm p r)
    (ht : ∀ E, Eqv E → ((∀ q ∈ todo, E q.1 q.2) ↔ ∀ q ∈ todo', E q.1 q.2)) : ok = ok' ∧ (ok = true → Sm p' r') := by
  have one : ∀ {p p' r r' : List Nd} {todo todo' : List (Nat × Nat)} {ok' : Bool}, Wk false p todo true p' → Wk false r todo' ok' r' → Lk r → Cm p [] → Sm p r → (∀ E, Eqv E → ((∀ q ∈ todo, E q.1 q.2) ↔ ∀ q ∈ todo', E q.1 q.2)) → ok' = true ∧ ∀ {i j}, Sim r' i j → Sim p' i j := by
    intro p p' r r' todo todo' ok' hp hr hrl hpc h ht
    have hC : Clo r (Sim p') := (cm_clo (hp.clo hpc)).sd (hp.sd.symm.trans h.sd)
    obtain ⟨g1, g2⟩ := hr.least hrl hC (fun h' => hp.mono ((h.sim _ _).2 h')) ((ht _ (sim_eqv p')).1 (hp.does rfl))
    refine ⟨?_, g1⟩
    cases ok' with
    | true => rfl
    | false => have := (g2 rfl).1; cases this
  cases ok with
  | true =>
    obtain ⟨rfl, h1⟩ := one hp hr hrl hpc h ht
    obtain ⟨_, h2⟩ := one hr hp hpl hrc h.symm fun E hE => (ht E hE).symm
    exact ⟨rfl, fun _ => ⟨hp.sd.symm.trans (h.sd.trans hr.sd), fun i j => ⟨h2, h1⟩⟩⟩
  | false =>
    cases ok' with
    | false => exact ⟨rfl, fun h => by cases h⟩
    | true =>
      obtain ⟨h1, _⟩ := one hr hp hpl hrc h.symm fun E hE => (ht E hE).symm
      cases h1
theorem Good.next {ns ns' : List Nd} {a b : Nat} (g : Good ns) (h : Wk false ns [(a, b)] true ns') (hf : Fin ns' (Sim ns') a) : Good ns' :=
  ⟨h.lk g.lk, g.av.sd h.sd, h.clo g.cm, h.fin g.lk g.fin hf⟩
def upd (col : Nat → Nat) (r v : Nat) : Nat → Nat := fun i => if i = r then v else col i
inductive Dfs (ns : List Nd) : List Nat → (Nat → Nat) → Bool → (Nat → Nat) → Prop
  | nil {col} : Dfs ns [] col false col
  | black {x r xs col res col'} : Rt ns x r → col r = 2 → Dfs ns xs col res col' → Dfs ns (x :: xs) col res col'
  | gray {x r xs col} : Rt ns x r → col r = 1 → Dfs ns (x :: xs) col true col
  | down {x r xs col res c1 c2} : Rt ns x r → col r = 0 → Dfs ns (argsOf ns r) (upd col r 1) false c1 → Dfs ns xs (upd c1 r 2) res c2 → Dfs ns (x :: xs) col res c2
  | stop {x r xs col c1} : Rt ns x r → col r = 0 → Dfs ns (argsOf ns r) (upd col r 1) true c1 → Dfs ns (x :: xs) col true c1
/-- variables have no parts -/
def Vn (ns : List Nd) : Prop := ∀ i, kOf ns i = 1 → argsOf ns i = []
theorem Vn.sd {ns ns' : List Nd} (h : Sd ns ns') (v : Vn ns) : Vn ns' := fun i hi => by rw [h.args]; exact v i (by rw [← h.k]; exact hi)
theorem zip_mem : ∀ {l m : List Nat} {E : Nat → Nat → Prop}, l.length = m.length → (∀ p ∈ l.zip m, E p.1 p.2) → ∀ z ∈ l, ∃ w ∈ m, E z w
  | [], _, _, _, _ => by simp
  | _ :: _, [], _, h, _ => by simp at h
  | a :: l, b :: m, E, h, hp => by
    intro z hz
    rcases List.mem_cons.1 hz with rfl | hz
    · exact ⟨b, by simp, hp (z, b) (by simp)⟩
    · obtain ⟨w, hw, he⟩ := zip_mem (l := l) (m := m) (by simpa using h) (fun p hq => hp p (by simp [hq])) z hz
      exact ⟨w, by simp [hw], he⟩
theorem fin_root {ns : List Nd} (hc : Cm ns []) (hv : Vn ns) {r : Nat} (hr : Rt ns r r) (h : ∀ z ∈ argsOf ns r, Fin ns (Sim ns) z) : Fin ns (Sim ns) r := by
  refine .mk fun y z h1 h2 => ?_
  have hy : Rt ns y r := h1.root hr
  by_cases hk : kOf ns y = 1
  · rw [hv y hk] at h2; simp at h2
  · obtain ⟨w, hw, he⟩ := zip_mem (cm_root hc hy hk).2.2.2.1 (cm_root hc hy hk).2.2.2.2 z h2
    exact (h w hw).alike (sim_eqv ns) he.symm
theorem Dfs.fine {ns : List Nd} (hc : Cm ns []) (hv : Vn ns) {l : List Nat} {col col' : Nat → Nat} {res : Bool} (h : Dfs ns l col res col') (hres : res = false) (hb : ∀ b, Rt ns b b → col b = 2 → Fin ns (Sim ns) b) :
    (∀ b, Rt ns b b → col' b = 2 → Fin ns (Sim ns) b) ∧ ∀ x ∈ l, Fin ns (Sim ns) x := by
  induction h with
  | nil => exact ⟨hb, by simp⟩
  | black hr hc2 _ ih =>
    obtain ⟨h1, h2⟩ := ih hres hb
    refine ⟨h1, fun x hx => ?_⟩
    rcases List.mem_cons.1 hx with rfl | hx
    · exact (hb _ hr.self hc2).alike (sim_eqv ns) hr.sim.symm
    · exact h2 x hx
  | gray => cases hres
  | @down x r xs col res c1 c2 hr h0 _ _ ih1 ih2 =>
    obtain ⟨h1, h2⟩ := ih1 rfl fun b hbr hcb => hb b hbr (by
      unfold upd at hcb
      split at hcb
      · cases hcb
      · exact hcb)
    have hfr := fin_root hc hv hr.self h2
    obtain ⟨h3, h4⟩ := ih2 hres fun b hbr hcb => by
      unfold upd at hcb
      split at hcb
      · rename_i he; subst he; exact hfr
      · exact h1 b hbr hcb
    refine ⟨h3, fun y hy => ?_⟩
    rcases List.mem_cons.1 hy with rfl | hy
    · exact hfr.alike (sim_eqv ns) hr.sim.symm
    · exact h4 y hy
  | stop => cases hres
theorem Rch.head {ns : List Nd} {E : Nat → Nat → Prop} {a x : Nat} (h : Rch ns E a x) : E a x ∨ ∃ y w, E a y ∧ w ∈ argsOf ns y ∧ Rch ns E w x := by
  induction h with
  | base e => exact .inl e
  | step _ h2 h3 ih =>
    rcases ih with e | ⟨y, w, e, hw, hr⟩
    · exact .inr ⟨_, _, e, h2, .base h3⟩
    · exact .inr ⟨y, w, e, hw, .step hr h2 h3⟩
/-- properly within -/
def Pr (ns : List Nd) (E : Nat → Nat → Prop) (g x : Nat) : Prop := ∃ y z, E g y ∧ z ∈ argsOf ns y ∧ Rch ns E z x
theorem Fin.not_pr {ns : List Nd} {E : Nat → Nat → Prop} (hE : Eqv E) {x : Nat} (h : Fin ns E x) : ¬ Pr ns E x x := by
  induction h with
  | @mk x _ ih =>
    rintro ⟨y0, z0, e0, hz0, hr⟩
    refine ih y0 z0 e0 hz0 ?_
    rcases hr.head with e | ⟨y, w, e, hw, hr2⟩
    · exact ⟨y0, z0, hE.trans e e0, hz0, .base (hE.refl _)⟩
    · exact ⟨y, w, e, hw, Rch.trans hE hr2 (.step (.base e0) hz0 (hE.refl _))⟩
theorem Dfs.circle {ns : List Nd} {l : List Nat} {col col' : Nat → Nat} {res : Bool} (h : Dfs ns l col res col') :
    (∀ r, Rt ns r r → (col' r = 1 → col r = 1 ∨ res = true)) ∧ ((∀ g, Rt ns g g → col g = 1 → ∀ x ∈ l, Pr ns (Sim ns) g x) → res = true → ∃ x ∈ l, ¬ Fin ns (Sim ns) x) := by
  have hE := sim_eqv ns
  induction h with
  | nil => exact ⟨fun r _ h => .inl h, fun _ h => by cases h⟩
  | black hr hc2 _ ih =>
    refine ⟨ih.1, fun hg hres => ?_⟩
    obtain ⟨x, hx, hn⟩ := ih.2 (fun g hgr hgc y hy => hg g hgr hgc y (List.mem_cons_of_mem _ hy)) hres
    exact ⟨x, List.mem_cons_of_mem _ hx, hn⟩
  | @gray x r xs col hr h1 =>
    refine ⟨fun r _ h => .inl h, fun hg _ => ⟨x, List.mem_cons_self .., fun hf => ?_⟩⟩
    obtain ⟨y, z, e, hz, hrc⟩ := hg r hr.self h1 x (List.mem_cons_self ..)
    exact (hf.alike hE hr.sim).not_pr hE ⟨y, z, e, hz, Rch.trans hE hrc (.base hr.sim)⟩
  | @down x r xs col res c1 c2 hr h0 _ _ ih1 ih2 =>
    have back : ∀ g, Rt ns g g → upd c1 r 2 g = 1 → col g = 1 := fun g hgr hgc => by
      unfold upd at hgc
      split at hgc
      · cases hgc
      · rename_i hne
        rcases ih1.1 g hgr hgc with h | h
        · unfold upd at h; rw [if_neg hne] at h; exact h
        · cases h
    refine ⟨fun g hgr hgc => ?_, fun hg hres => ?_⟩
    · rcases ih2.1 g hgr hgc with h | h
      · exact .inl (back g hgr h)
      · exact .inr h
    · obtain ⟨y, hy, hn⟩ := ih2.2 (fun g hgr hgc y hy => hg g hgr (back g hgr hgc) y (List.mem_cons_of_mem _ hy)) hres
      exact ⟨y, List.mem_cons_of_mem _ hy, hn⟩
  | @stop x r xs col c1 hr h0 _ ih =>
    refine ⟨fun g _ _ => .inr rfl, fun hg _ => ?_⟩
    obtain ⟨y, hy, hn⟩ := ih.2 (fun g hgr hgc y hy => by
      unfold upd at hgc
      split at hgc
      · rename_i he; subst he; exact ⟨g, y, hE.refl _, hy, .base (hE.refl _)⟩
      · obtain ⟨u, z, e, hz, hrc⟩ := hg g hgr hgc x (List.mem_cons_self ..)
        exact ⟨u, z, e, hz, Rch.trans hE hrc (.step (.base hr.sim) hy (hE.refl _))⟩) rfl
    exact ⟨x, List.mem_cons_self .., fun hf => hn ((hf.alike hE hr.sim).arg hE hy)⟩
/-- WHAT THE LOOK TELLS -/
theorem Dfs.tells {ns : List Nd} (hc : Cm ns []) (hv : Vn ns) {a : Nat} {col' : Nat → Nat} {res : Bool} (h : Dfs ns [a] (fun _ => 0) res col') : res = false ↔ Fin ns (Sim ns) a := by
  constructor
  · intro hr
    exact (h.fine hc hv hr (fun b _ h => by cases h)).2 a (by simp)
  · intro hf
    cases res with
    | false => rfl
    | true =>
      obtain ⟨x, hx, hn⟩ := h.circle.2 (fun g _ h => by cases h) rfl
      rw [List.mem_singleton] at hx
      subst hx
      exact absurd hf hn
def fsz : Nat → Fo → Nat
  | k, .nil => k
  | k, .v _ rest => fsz (min (k + 1) 301) rest
  | k, .c _ _ aa rest => fsz (min (k + fsz 1 aa) 301) rest
def ren (f : Nat → Nat) : Fo → Fo
  | .nil => .nil
  | .v n rest => .v (f n) (ren f rest)
  | .c k nm aa rest => .c k nm (ren f aa) (ren f rest)
theorem fsz_ren (f : Nat → Nat) : ∀ (t : Fo) (k : Nat), fsz k (ren f t) = fsz k t
  | .nil, k => rfl
  | .v n rest, k => by simp only [ren, fsz]; exact fsz_ren f rest _
  | .c a b aa rest, k => by simp only [ren, fsz, fsz_ren f aa]; exact fsz_ren f rest _
theorem fsz_le : ∀ (t : Fo) (k : Nat), k ≤ 301 → fsz k t ≤ 301
  | .nil, k, h => h
  | .v n rest, k, h => fsz_le rest _ (Nat.min_le_right _ _)
  | .c a b aa rest, k, h => fsz_le rest _ (Nat.min_le_right _ _)
def leaves : Fo → List Nat
  | .nil => []
  | .v n rest => n :: leaves rest
  | .c _ _ aa rest => leaves aa ++ leaves rest
/-- variables in the order in which they are met -/
def met (l : List Nat) (n : Nat) : List Nat := if n ∈ l then l else l ++ [n]
def mets : List Nat → Fo → List Nat
  | l, .nil => l
  | l, .v n rest => mets (met l n) rest
  | l, .c _ _ aa rest => mets (mets l aa) rest
def num : List Nat → Fo → Fo
  | _, .nil => .nil
  | l, .v n rest => .v ((met l n).idxOf n) (num (met l n) rest)
  | l, .c k nm aa rest => .c k nm (num l aa) (num (mets l aa) rest)
theorem met_mem (l : List Nat) (n : Nat) : n ∈ met l n := by unfold met; split <;> simp [*]
theorem met_sub (l : List Nat) (n x : Nat) : x ∈ met l n ↔ x ∈ l ∨ x = n := by
  unfold met; split
  · rename_i h; exact ⟨.inl, fun h' => h'.elim id fun e => e ▸ h⟩
  · simp
theorem mets_sub : ∀ (t : Fo) (l : List Nat) (x : Nat), x ∈ mets l t ↔ x ∈ l ∨ x ∈ leaves t
  | .nil, l, x => by simp [mets, leaves]
  | .v n rest, l, x => by simp only [mets, leaves, mets_sub rest, met_sub, List.mem_cons, or_assoc]
  | .c _ _ aa rest, l, x => by simp only [mets, leaves, mets_sub rest, mets_sub aa, List.mem_append, or_assoc]
theorem met_map {f : Nat → Nat} {l : List Nat} {n : Nat} (hi : ∀ x ∈ l, f x = f n → x = n) : met (l.map f) (f n) = (met l n).map f := by
  unfold met
  by_cases h : n ∈ l
  · rw [if_pos h, if_pos (List.mem_map.2 ⟨n, h, rfl⟩)]
  · rw [if_neg h, if_neg]
    · simp
    · intro h2
      obtain ⟨x, hx, e⟩ := List.mem_map.1 h2
      have := hi x hx e
      subst this
      exact h hx
theorem idx_map {f : Nat → Nat} : ∀ {l : List Nat} {n : Nat}, n ∈ l → (∀ x ∈ l, f x = f n → x = n) → (l.map f).idxOf (f n) = l.idxOf n
  | x :: l, n, h, hi => by
    rw [List.map_cons, List.idxOf_cons, List.idxOf_cons]
    by_cases e : x = n
    · subst e; simp
    · have e2 : f x ≠ f n := fun e2 => e (hi x (by simp) e2)
      have h' : n ∈ l := by
        rcases List.mem_cons.1 h with h | h
        · exact absurd h.symm e
        · exact h
      have h1 : (x == n) = false := by simpa using e
      have h2 : (f x == f n) = false := by simpa using e2
      rw [h1, h2]
      simp only [cond_false]
      rw [idx_map h' fun y hy => hi y (by simp [hy])]
theorem num_ren {f : Nat → Nat} : ∀ (t : Fo) (l : List Nat), (∀ x y, (x ∈ l ∨ x ∈ leaves t) → (y ∈ l ∨ y ∈ leaves t) → f x = f y → x = y) → num (l.map f) (ren f t) = num l t ∧ mets (l.map f) (ren f t) = (mets l t).map f
  | .nil, l, h => ⟨rfl, rfl⟩
  | .v n rest, l, h => by
    have hn : ∀ x ∈ l, f x = f n → x = n := fun x hx => h x n (.inl hx) (.inr (by simp [leaves]))
    have hm := met_map hn
    have hix := idx_map (met_mem l n) fun x hx e => by
      rcases (met_sub l n x).1 hx with hx | hx
      · exact hn x hx e
      · exact hx
    obtain ⟨g1, g2⟩ := num_ren rest (met l n) fun x y hx hy => h x y (by
      rw [met_sub] at hx; simp only [leaves, List.mem_cons]; rcases hx with (hx | hx) | hx <;> simp [hx]) (by
      rw [met_sub] at hy; simp only [leaves, List.mem_cons]; rcases hy with (hy | hy) | hy <;> simp [hy])
    simp only [num, mets, ren, hm, hix, g1, g2, and_self]
  | .c k nm aa rest, l, h => by
    obtain ⟨g1, g2⟩ := num_ren aa l fun x y hx hy => h x y (by simp only [leaves, List.mem_append]; rcases hx with hx | hx <;> simp [hx]) (by simp only [leaves, List.mem_append]; rcases hy with hy | hy <;> simp [hy])
    obtain ⟨g3, g4⟩ := num_ren rest (mets l aa) fun x y hx hy => h x y (by
      rw [mets_sub] at hx; simp only [leaves, List.mem_append]; rcases hx with (hx | hx) | hx <;> simp [hx]) (by
      rw [mets_sub] at hy; simp only [leaves, List.mem_append]; rcases hy with (hy | hy) | hy <;> simp [hy])
    simp only [num, mets, ren, g1, g2, g3, g4, and_self]
/-- the numbers are those of the whole row -/
theorem met_pre (l : List Nat) (n : Nat) : l <+: met l n := by unfold met; split; exact List.prefix_refl _; exact List.prefix_append _ _
theorem mets_pre : ∀ (t : Fo) (l : List Nat), l <+: mets l t
  | .nil, l => List.prefix_refl _
  | .v n rest, l => (met_pre l n).trans (mets_pre rest _)
  | .c _ _ aa rest, l => (mets_pre aa l).trans (mets_pre rest _)
theorem idx_pre {l m : List Nat} (h : l <+: m) {n : Nat} (hn : n ∈ l) : m.idxOf n = l.idxOf n := by
  obtain ⟨k, rfl⟩ := h
  rw [List.idxOf_append, if_pos hn]
theorem num_last : ∀ (t : Fo) (l m : List Nat), mets l t <+: m → num l t = ren (fun n => m.idxOf n) t
  | .nil, l, m, _ => rfl
  | .v n rest, l, m, h => by
    have h1 := num_last rest (met l n) m h
    have h2 := idx_pre ((mets_pre rest _).trans h) (met_mem l n)
    simp only [num, ren, h1, h2]
  | .c k nm aa rest, l, m, h => by
    have h1 := num_last aa l m ((mets_pre rest _).trans h)
    have h2 := num_last rest (mets l aa) m h
    simp only [num, ren, h1, h2]
/-- stores that say the same: the same trees but for the names of variables -/
theorem St.other {p r : List Nd} (h : Sm p r) (hlr : Lk r) (hc : Cm p []) (hcr : Cm r []) (hav : Av r) {f : Nat → Nat} (hf : ∀ x y, Rt p x x → Rt r x y → f x = y) {l : List Nat} {t : Fo} (ht : St p l t) :
    ∀ {m : List Nat}, l.length = m.length → (∀ q ∈ l.zip m, Sim p q.1 q.2) → (∀ x ∈ m, x < r.length) → St r m (ren f t) := by
  induction ht with
  | nil =>
    intro m hm _ _
    have : m = [] := List.eq_nil_of_length_eq_zero (by simpa using hm.symm)
    subst this
    exact .nil
  | @v x a xs t h1 h2 _ ih =>
    intro m hm hz hlt
    cases m with
    | nil => simp at hm
    | cons y m =>
      have hxy : Sim p x y := hz (x, y) (by simp)
      obtain ⟨s, hs⟩ := hlr y (hlt y (by simp))
      have hsa : Sim p a s := (h1.sim.symm.trans hxy).trans ((h.sim _ _).2 hs.sim)
      have has : Rt r a s := ((h.sim _ _).1 hsa).symm.root hs.self
      have hks : kOf r s = 1 := by
        rw [h.sd.k]
        rcases Decidable.em (kOf p s = 1) with hk | hk
        · exact hk
        · exact absurd h2 (cm_root hc (hsa.root h1.self) hk).1
      rw [ren, hf a s h1.self has]
      exact .v hs hks (ih (by simpa using hm) (fun q hq => hz q (by simp [hq])) fun z hz' => hlt z (by simp [hz']))
  | @c x a xs aa t h1 h2 _ _ ih1 ih2 =>
    intro m hm hz hlt
    cases m with
    | nil => simp at hm
    | cons y m =>
      have hxy : Sim p x y := hz (x, y) (by simp)
      obtain ⟨s, hs⟩ := hlr y (hlt y (by simp))
      have hsa : Sim p a s := (h1.sim.symm.trans hxy).trans ((h.sim _ _).2 hs.sim)
      have hps : Rt p s a := hsa.root h1.self
      have hras : Rt r a s := ((h.sim _ _).1 hsa).symm.root hs.self
      have hks : kOf r s ≠ 1 := (cm_root hcr hras (by rw [h.sd.k]; exact h2)).1
      obtain ⟨_, m1, m2, m3, m4⟩ := cm_root hc hps (by rw [← h.sd.k]; exact hks)
      have q1 := ih1 (m := argsOf r s) (by rw [h.sd.args]; exact m3.symm) (by rw [h.sd.args]; exact zip_symm (sim_eqv p) m4) (hav s)
      have q2 := ih2 (m := m) (by simpa using hm) (fun q hq => hz q (by simp [hq])) fun z hz' => hlt z (by simp [hz'])
      rw [ren, ← m1, ← m2, ← h.sd.k, ← h.sd.nm]
      exact .c hs hks q1 q2
end Uni
namespace Uni
def addN (ns : List Nd) (k : Int) (nm : List UInt8) (args : List Nat) : List Nd := ns ++ [⟨k, nm, args, none⟩]
section
variable {ns : List Nd} {k : Int} {nm : List UInt8} {args : List Nat}
@[simp] theorem addN_len : (addN ns k nm args).length = ns.length + 1 := by simp [addN]
theorem addN_get (i : Nat) : (addN ns k nm args)[i]? = if i < ns.length then ns[i]? else if i = ns.length then some ⟨k, nm, args, none⟩ else none := by
  unfold addN
  rw [List.getElem?_append]
  split
  · rfl
  · split
    · rename_i h1 h2; subst h2; simp
    · rw [List.getElem?_eq_none]; simp; omega
theorem addN_up (i : Nat) : upOf (addN ns k nm args) i = upOf ns i := by
  unfold upOf
  rw [addN_get]
  by_cases h : i < ns.length
  · rw [if_pos h]
  · rw [if_neg h, List.getElem?_eq_none (by omega)]
    split <;> rfl
theorem addN_k (i : Nat) : kOf (addN ns k nm args) i = if i = ns.length then k else kOf ns i := by
  unfold kOf
  rw [addN_get]
  by_cases h : i < ns.length
  · rw [if_pos h, if_neg (by omega)]
  · rw [if_neg h, List.getElem?_eq_none (l := ns) (by omega)]
    split <;> rfl
theorem addN_nm (i : Nat) : nmOf (addN ns k nm args) i = if i = ns.length then nm else nmOf ns i := by
  unfold nmOf
  rw [addN_get]
  by_cases h : i < ns.length
  · rw [if_pos h, if_neg (by omega)]
  · rw [if_neg h, List.getElem?_eq_none (l := ns) (by omega)]
    split <;> rfl
theorem addN_args (i : Nat) : argsOf (addN ns k nm args) i = if i = ns.length then args else argsOf ns i := by
  unfold argsOf
  rw [addN_get]
  by_cases h : i < ns.length
  · rw [if_pos h, if_neg (by omega)]
  · rw [if_neg h, List.getElem?_eq_none (l := ns) (by omega)]
    split <;> rfl
theorem addN_rt {i r : Nat} (h : Rt ns i r) : Rt (addN ns k nm args) i r := by
  induction h with
  | root h1 h2 => exact .root (by simp; omega) (by rw [addN_up]; exact h2)
  | step e _ ih => exact .step (by rw [addN_up]; exact e) ih
theorem addN_rt_new : Rt (addN ns k nm args) ns.length ns.length := .root (by simp) (by
  rw [addN_up]; unfold upOf; rw [List.getElem?_eq_none (Nat.le_refl _)]; rfl)
theorem addN_rt_back {i r : Nat} (h : Rt (addN ns k nm args) i r) (hl : Lk ns) : Rt ns i r ∨ (i = ns.length ∧ r = ns.length) := by
  rcases Nat.lt_or_ge i ns.length with h1 | h1
  · obtain ⟨r', hr⟩ := hl i h1
    rw [h.inj (addN_rt hr)]; exact .inl hr
  · have := h.lt
    simp at this
    have : i = ns.length := by omega
    subst this
    exact .inr ⟨rfl, h.inj addN_rt_new⟩
theorem addN_sim (hl : Lk ns) (i j : Nat) : Sim (addN ns k nm args) i j ↔ Sim ns i j := by
  constructor
  · rintro (rfl | ⟨r, h1, h2⟩)
    · exact .inl rfl
    · rcases addN_rt_back h1 hl with h1 | ⟨rfl, rfl⟩
      · rcases addN_rt_back h2 hl with h2 | ⟨rfl, rfl⟩
        · exact .inr ⟨r, h1, h2⟩
        · exact absurd h1.is.1 (Nat.lt_irrefl _)
      · rcases addN_rt_back h2 hl with h2 | ⟨rfl, _⟩
        · exact absurd h2.is.1 (Nat.lt_irrefl _)
        · exact .inl rfl
  · rintro (rfl | ⟨r, h1, h2⟩)
    · exact .inl rfl
    · exact .inr ⟨r, addN_rt h1, addN_rt h2⟩
theorem addN_lk (hl : Lk ns) : Lk (addN ns k nm args) := fun i hi => by
  simp at hi
  by_cases h : i = ns.length
  · subst h; exact ⟨_, addN_rt_new⟩
  · obtain ⟨r, hr⟩ := hl i (by omega)
    exact ⟨r, addN_rt hr⟩
theorem argsOf_out {i : Nat} (h : ns.length ≤ i) : argsOf ns i = [] := by unfold argsOf; rw [List.getElem?_eq_none h]; rfl
theorem sim_out {i j : Nat} (h : Sim ns i j) (hi : ns.length ≤ i) : j = i := by
  rcases h with rfl | ⟨r, h1, _⟩
  · rfl
  · exact absurd h1.lt (by omega)
theorem Good.add (g : Good ns) (ha : ∀ a ∈ args, a < ns.length) : Good (addN ns k nm args) := by
  have hsim := @addN_sim ns k nm args g.lk
  have hav : Av (addN ns k nm args) := fun i a hia => by
    rw [addN_args] at hia
    simp only [addN_len]
    split at hia
    · have := ha a hia; omega
    · have := g.av i a hia; omega
  have hold : ∀ x, x < ns.length → Fin (addN ns k nm args) (Sim (addN ns k nm args)) x := by
    intro x hx
    have hf := g.fin x
    induction hf with
    | @mk x _ ih =>
      refine .mk fun y z h1 h2 => ?_
      have h1' := (hsim x y).1 h1
      have hy : y < ns.length := by
        rcases h1' with rfl | ⟨r, q1, q2⟩
        · exact hx
        · exact q2.lt
      rw [addN_args, if_neg (by omega)] at h2
      exact ih y z h1' h2 (g.av y z h2)
  refine ⟨addN_lk g.lk, hav, fun x y hx hk => ?_, fun x => ?_⟩
  · rw [addN_up] at hx
    have hxl : x < ns.length := by
      rcases Nat.lt_or_ge x ns.length with h | h
      · exact h
      · unfold upOf at hx; rw [List.getElem?_eq_none h] at hx; cases hx
    obtain ⟨r, hr⟩ := g.lk x hxl
    have hyl : y < ns.length := by
      cases hr with
      | root _ h2 => rw [hx] at h2; cases h2
      | step e h2 => rw [hx] at e; cases e; exact h2.lt
    rw [addN_k, if_neg (by omega)] at hk
    obtain ⟨q1, q2, q3⟩ := g.cm x y hx hk
    refine ⟨by rw [addN_k, if_neg (by omega)]; exact q1, ?_, fun E hE hs _ => ?_⟩
    · unfold headsB
      rw [addN_k, addN_k, addN_nm, addN_nm, addN_args, addN_args, if_neg (by omega), if_neg (by omega), if_neg (by omega), if_neg (by omega), if_neg (by omega), if_neg (by omega)]
      exact q2
    · rw [addN_args, addN_args, if_neg (by omega), if_neg (by omega)]
      exact q3 E hE (fun h => hs ((hsim _ _).2 h)) (by simp)
  · rcases Nat.lt_trichotomy x ns.length with h | h | h
    · exact hold x h
    · subst h
      refine .mk fun y z h1 h2 => ?_
      have := sim_out ((hsim _ _).1 h1) (Nat.le_refl _)
      subst this
      rw [addN_args, if_pos rfl] at h2
      exact hold z (ha z h2)
    · refine .mk fun y z h1 h2 => ?_
      have := sim_out ((hsim _ _).1 h1) (by omega)
      subst this
      rw [addN_args, if_neg (by omega), argsOf_out (by omega)] at h2
      simp at h2
theorem Sm.add {p r : List Nd} (h : Sm p r) (hp : Lk p) (hr : Lk r) : Sm (addN p k nm args) (addN r k nm args) :=
  ⟨⟨by simp [h.sd.len], fun i => by rw [addN_k, addN_k, h.sd.len, h.sd.k], fun i => by rw [addN_nm, addN_nm, h.sd.len, h.sd.nm], fun i => by rw [addN_args, addN_args, h.sd.len, h.sd.args]⟩,
   fun i j => by rw [addN_sim hp, addN_sim hr]; exact h.sim i j⟩
theorem Vn.add (v : Vn ns) (h : k = 1 → args = []) : Vn (addN ns k nm args) := fun i hi => by
  rw [addN_k] at hi
  rw [addN_args]
  split
  · rename_i e; rw [if_pos e] at hi; exact h hi
  · rename_i e; rw [if_neg e] at hi; exact v i hi
theorem good_nil : Good [] := ⟨fun i h => by simp at h, fun i a h => by simp [argsOf] at h, fun x y h => by simp [upOf] at h, fun x => .mk fun y z _ h => by simp [argsOf] at h⟩
theorem vn_nil : Vn [] := fun i _ => by simp [argsOf]
end
end Uni
namespace Go.AM
open Go Go.Proofs Uni
set_option linter.unusedSimpArgs false
set_option linter.unusedVariables false
abbrev its (l : List Int) : List AV := l.map fun n => .int .i64 n
def nts (l : List Nat) : List AV := its (l.map fun n : Nat => (n : Int))
def upI (o : Option Nat) : Int := match o with | none => -1 | some j => j
inductive NC : List Nd → List AV → Prop
  | nil : NC [] []
  | cons {n : Nd} {ns : List Nd} {av : AV} {cs : List AV} : HSl av (nts n.args) → NC ns cs → NC (n :: ns) (.int .i64 n.k :: .str (bs n.nm) :: av :: .int .i64 (upI n.up) :: cs)
theorem NC.len {ns : List Nd} {cs : List AV} (h : NC ns cs) : cs.length = ns.length * 4 := by
  induction h with
  | nil => rfl
  | cons _ _ ih => simp only [List.length_cons, ih]; omega
theorem NC.get {ns : List Nd} {cs : List AV} (h : NC ns cs) : ∀ {i : Nat} (hi : i < ns.length), ∃ av, HSl av (nts ns[i].args) ∧ cs.drop (i * 4) = .int .i64 ns[i].k :: .str (bs ns[i].nm) :: av :: .int .i64 (upI ns[i].up) :: cs.drop ((i + 1) * 4) := by
  induction h with
  | nil => intro i hi; simp at hi
  | @cons n ns av cs ha _ ih =>
    intro i hi
    cases i with
    | zero => exact ⟨av, ha, rfl⟩
    | succ i =>
      obtain ⟨av', h1, h2⟩ := ih (i := i) (by simpa using hi)
      refine ⟨av', h1, ?_⟩
      rw [Nat.succ_mul, Nat.succ_mul]
      simp only [List.drop_succ_cons, List.getElem_cons_succ]
      exact h2
theorem NC.append {ns ms : List Nd} {cs ds : List AV} (h : NC ns cs) (h' : NC ms ds) : NC (ns ++ ms) (cs ++ ds) := by
  induction h with
  | nil => exact h'
  | cons ha _ ih => exact .cons ha ih
theorem NC.setUp {ns : List Nd} {cs : List AV} (h : NC ns cs) (o : Option Nat) : ∀ {i : Nat}, i < ns.length → ∃ cs', putCells cs (i * 4 + 3) [.int .i64 (upI o)] = some cs' ∧ NC (Uni.setUp ns i o) cs' := by
  induction h with
  | nil => intro i hi; simp at hi
  | @cons n ns av cs ha hr ih =>
    intro i hi
    cases i with
    | zero =>
      refine ⟨_, rfl, ?_⟩
      exact NC.cons (n := { n with up := o }) ha hr
    | succ i =>
      obtain ⟨cs', h1, h2⟩ := ih (i := i) (by simpa using hi)
      refine ⟨.int .i64 n.k :: .str (bs n.nm) :: av :: .int .i64 (upI n.up) :: cs', ?_, ?_⟩
      · unfold putCells at h1 ⊢
        rw [Nat.succ_mul]
        split at h1
        · rename_i hle
          cases h1
          rw [if_pos (by simp only [List.length_cons] at hle ⊢; simp at hle ⊢; omega)]
          unfold splice
          have e1 : i * 4 + 4 + 3 = (i * 4 + 3) + 1 + 1 + 1 + 1 := by omega
          have e2 : (i * 4 + 3) + 1 + 1 + 1 + 1 + [AV.int .i64 (upI o)].length = (i * 4 + 3 + [AV.int .i64 (upI o)].length) + 1 + 1 + 1 + 1 := by simp
          rw [e1, e2]
          simp only [List.take_succ_cons, List.drop_succ_cons, List.cons_append]
        · cases h1
      · have : Uni.setUp (n :: ns) (i + 1) o = n :: Uni.setUp ns i o := rfl
        rw [this]
        exact .cons ha h2
/-- the row of nodes -/
inductive NV (m : Mem) (p : Nat) : Option Nat → AV → List Nd → Prop
  | nil : NV m p none .nils []
  | row (o ver : Nat) (cs : List AV) (ns : List Nd) : o < m.next → o ≠ p → m.obj o = some (.row cs ver) → NC ns cs → NV m p (some o) (.ms o ver 0 ns.length 4) ns
structure US (m : Mem) (p : Nat) (o : Option Nat) (ns : List Nd) (tv : AV) : Prop where
  lt : p < m.next
  ex : ∃ nv, m.obj p = some (.row [nv, tv] 0) ∧ NV m p o nv ns
/-- what else there is stays -/
structure Fr (p : Nat) (o : Option Nat) (m m' : Mem) : Prop where
  next : m.next ≤ m'.next
  obj : ∀ j, j < m.next → j ≠ p → some j ≠ o → m'.obj j = m.obj j
theorem Fr.refl (p : Nat) (o : Option Nat) (m : Mem) : Fr p o m m := ⟨Nat.le_refl _, fun _ _ _ _ => rfl⟩
theorem Fr.trans {p : Nat} {o : Option Nat} {m1 m2 m3 : Mem} (h : Fr p o m1 m2) (h' : Fr p o m2 m3) : Fr p o m1 m3 :=
  ⟨Nat.le_trans h.next h'.next, fun j h1 h2 h3 => (h'.obj j (Nat.lt_of_lt_of_le h1 h.next) h2 h3).trans (h.obj j h1 h2 h3)⟩
theorem Kept.fr {m m' : Mem} (h : Kept m m') (p : Nat) (o : Option Nat) : Fr p o m m' := ⟨h.next, fun j h1 _ _ => h.obj j h1⟩
theorem NV.kept {m m' : Mem} {p : Nat} {o : Option Nat} {nv : AV} {ns : List Nd} (h : NV m p o nv ns) (k : Kept m m') : NV m' p o nv ns := by
  cases h with
  | nil => exact .nil
  | row o ver cs ns h1 h2 h3 h4 => exact .row o ver cs ns (Nat.lt_of_lt_of_le h1 k.next) h2 ((k.obj o h1).trans h3) h4
theorem US.kept {m m' : Mem} {p : Nat} {o : Option Nat} {ns : List Nd} {tv : AV} (h : US m p o ns tv) (k : Kept m m') : US m' p o ns tv := by
  obtain ⟨nv, h1, h2⟩ := h.ex
  exact ⟨Nat.lt_of_lt_of_le h.lt k.next, nv, (k.obj p h.lt).trans h1, h2.kept k⟩
theorem NV.len {m : Mem} {p : Nat} {o : Option Nat} {nv : AV} {ns : List Nd} (h : NV m p o nv ns) : rLenSl nv = some (.int .i64 ns.length) := by cases h <;> rfl
/-- one node -/
theorem NV.node {m : Mem} {p : Nat} {o : Option Nat} {nv : AV} {ns : List Nd} (h : NV m p o nv ns) {i : Nat} (hi : i < ns.length) : ∃ oo ver av, rIxAddrSl 4 nv (.int .i64 i) = some (.ptr oo ver (i * 4)) ∧ HSl av (nts ns[i].args) ∧
    rLoad false 1 m (.ptr oo ver (i * 4 + 0)) = some (.int .i64 ns[i].k) ∧ rLoad false 1 m (.ptr oo ver (i * 4 + 1)) = some (.str (bs ns[i].nm)) ∧ rLoad false 1 m (.ptr oo ver (i * 4 + 2)) = some av ∧ rLoad false 1 m (.ptr oo ver (i * 4 + 3)) = some (.int .i64 (upI ns[i].up)) ∧
    rLoad true 4 m (.ptr oo ver (i * 4)) = some (.agg [.int .i64 ns[i].k, .str (bs ns[i].nm), av, .int .i64 (upI ns[i].up)]) := by
  cases h with
  | nil => simp at hi
  | row o ver cs ns h1 h2 h3 h4 =>
    obtain ⟨av, a1, a2⟩ := h4.get hi
    have hl := h4.len
    have g : ∀ j, cs[i * 4 + j]? = (cs.drop (i * 4))[j]? := fun j => List.getElem?_drop.symm
    refine ⟨o, ver, av, ?_, a1, ?_, ?_, ?_, ?_, ?_⟩
    · simp [rIxAddrSl]; omega
    all_goals rw [rLoad_ptr, cells_of h3, Option.bind_some]
    · rw [partOf_cell, g, a2]; rfl
    · rw [partOf_cell, g, a2]; rfl
    · rw [partOf_cell, g, a2]; rfl
    · rw [partOf_cell, g, a2]; rfl
    · rw [partOf_agg, if_pos (by omega), a2]; rfl
theorem US.load {m : Mem} {p : Nat} {o : Option Nat} {ns : List Nd} {tv : AV} (h : US m p o ns tv) : ∃ nv, rLoad false 1 m (.ptr p 0 (0 + 0)) = some nv ∧ rLoad false 1 m (.ptr p 0 (0 + 1)) = some tv ∧ m.obj p = some (.row [nv, tv] 0) ∧ NV m p o nv ns := by
  obtain ⟨nv, h1, h2⟩ := h.ex
  refine ⟨nv, ?_, ?_, h1, h2⟩ <;> rw [rLoad_ptr, cells_of h1] <;> rfl
theorem find_s {m : Mem} {p : Nat} {o : Option Nat} {ns : List Nd} {tv : AV} (h : US m p o ns tv) {i r : Nat} (hr : Rt ns i r) : w_f82 (.ptr p 0 0) (.int .i64 i) m = some (.ret (.int .i64 r), m) := by
  rw [e_f82]
  obtain ⟨nv, l1, _, _, l4⟩ := h.load
  induction hr with
  | @root i h1 h2 =>
    obtain ⟨oo, ver, av, a1, a2, a3, a4, a5, a6, a7⟩ := l4.node h1
    have hu : upI ns[i].up = -1 := by
      unfold upOf at h2; rw [List.getElem?_eq_getElem h1] at h2; simp at h2; rw [h2]; rfl
    rw [l_f82_0_eq]
    simp only [nilK_ptr, rFieldAddr_ptr, bnd_some, l1, a1, a6, hu, aBin_neq]
    rw [decide_eq_false (by simp), onBool_false, k_f82_0_eq]
  | @step i j r e hr ih =>
    have hi : i < ns.length := (Rt.step e hr).lt
    obtain ⟨oo, ver, av, a1, a2, a3, a4, a5, a6, a7⟩ := l4.node hi
    have hu : upI ns[i].up = j := by
      unfold upOf at e; rw [List.getElem?_eq_getElem hi] at e; simp at e; rw [e]; rfl
    rw [l_f82_0_eq]
    simp only [nilK_ptr, rFieldAddr_ptr, bnd_some, l1, a1, a6, hu, aBin_neq]
    rw [decide_eq_true (by omega), onBool_true, k_f82_1_eq]
    simp only [nilK_ptr, rFieldAddr_ptr, bnd_some, l1, a1, a6, hu]
    exact ih
def inB (n : Nat) (x : Int) : Bool := decide (0 ≤ x ∧ x < n)
theorem there1_s {m : Mem} {p : Nat} {o : Option Nat} {ns : List Nd} {tv : AV} (h : US m p o ns tv) {b : Nat} (hb : m.obj b = some (.row [.ptr p 0 0] 0)) (x : Int) : w_f81 (.int .i64 x) (.ptr b 0 0) m = some (.ret (.bool (!inB ns.length x)), m) := by
  obtain ⟨nv, l1, _, _, l4⟩ := h.load
  have hl : rLoad false 1 m (.ptr b 0 0) = some (.ptr p 0 0) := by rw [rLoad_ptr, cells_of hb]; rfl
  rw [e_f81]
  simp only [aBin_lss, bnd_some]
  unfold inB
  by_cases h0 : x < 0
  · rw [decide_eq_true h0, onWant_true, decide_eq_false (by omega)]; rfl
  · rw [decide_eq_false h0, onWant_false]
    simp only [hl, bnd_some, nilK_ptr, rFieldAddr_ptr, l1, l4.len, aBin_geq]
    by_cases h1 : x < ns.length
    · rw [decide_eq_false (by omega), decide_eq_true (by omega)]; rfl
    · rw [decide_eq_true (by omega), decide_eq_false (by omega)]; rfl
theorem idx_loop {m : Mem} {p : Nat} {o : Option Nat} {ns : List Nd} {tv : AV} (h : US m p o ns tv) {b : Nat} (hb : m.obj b = some (.row [.ptr p 0 0] 0)) {v : AV} {l : List Int} (hv : HSl v (its l)) (hl : l.length ≤ 1000000000) : ∀ (k i : Nat), l.length - i = k → i ≤ l.length →
    ∃ j : Int, l_f96_0 v (.fn F_f81 [] [.ptr b 0 0]) (.int .i64 l.length) (.int .i64 i) m = some (.ret (.int .i64 j), m) ∧ (0 ≤ j ↔ ∃ x ∈ l.drop i, inB ns.length x = false)
  | 0, i, hk, hi => by
    have : i = l.length := by omega
    subst this
    rw [l_f96_0_eq]
    simp only [aBin_lss, bnd_some, Int.lt_irrefl, decide_false, onBool_false, k_f96_0_eq]
    exact ⟨-1, rfl, by simp⟩
  | k + 1, i, hk, hi => by
    have hlt : i < l.length := by omega
    have hd : l.drop i = l[i] :: l.drop (i + 1) := List.drop_eq_getElem_cons hlt
    have hx : rIxAddrSl 1 v (.int .i64 i) = some (.pim [.int .i64 l[i]]) := hv.ix (x := .int .i64 l[i]) (by simp [hlt]) rfl rfl
    rw [l_f96_0_eq]
    simp only [aBin_lss, bnd_some]
    rw [decide_eq_true (by omega), onBool_true, k_f96_1_eq, hx, bnd_some, rLoad_pimc, List.getElem?_cons_zero, bnd_some, fnK_fn]
    have ht : aW X F_f81 ([] ++ [.int .i64 l[i]] ++ [.ptr b 0 0]) m = some (.ret (.bool (!inB ns.length l[i])), m) := there1_s h hb l[i]
    rw [ht, retK_ret]
    cases hI : inB ns.length l[i] with
    | false =>
      rw [Bool.not_false, onBool_true]
      exact ⟨i, rfl, fun _ => ⟨l[i], by rw [hd]; exact List.mem_cons_self .., hI⟩, fun _ => by omega⟩
    | true =>
      rw [Bool.not_true, onBool_false, k_f96_2_eq]
      simp only [aBin_add, bnd_some]
      rw [wrap64 (by omega) (by omega)]
      obtain ⟨j, h1, h2⟩ := idx_loop h hb hv hl k (i + 1) (by omega) (by omega)
      refine ⟨j, h1, h2.trans ?_⟩
      rw [hd]
      constructor
      · rintro ⟨x, hx, h3⟩; exact ⟨x, List.mem_cons_of_mem _ hx, h3⟩
      · rintro ⟨x, hx, h3⟩
        rcases List.mem_cons.1 hx with rfl | hx
        · rw [hI] at h3; cases h3
        · exact ⟨x, hx, h3⟩
theorem there_s {m : Mem} {p : Nat} {o : Option Nat} {ns : List Nd} {tv : AV} (h : US m p o ns tv) {v : AV} {l : List Int} (hv : HSl v (its l)) (hl : l.length ≤ 1000000000) : ∃ m', w_f50 (.ptr p 0 0) v m = some (.ret (.bool (l.all (inB ns.length))), m') ∧ Kept m m' := by
  have hk : Kept m (m.alloc (.row [.ptr p 0 0] 0)) := Kept.alloc m _
  have hb : (m.alloc (.row [.ptr p 0 0] 0)).obj m.next = some (.row [.ptr p 0 0] 0) := by simp
  obtain ⟨j, h1, h2⟩ := idx_loop (h.kept hk) hb hv hl _ 0 rfl (Nat.zero_le _)
  refine ⟨m.alloc (.row [.ptr p 0 0] 0), ?_, hk⟩
  rw [e_f50, aBox_eq, cells_ptr, Option.map_some, memK_some, e_f80, e_f96, hv.len, bnd_some, List.length_map]
  have h1' : l_f96_0 v (.fn F_f81 [] [.ptr m.next 0 0]) (.int .i64 l.length) (.int .i64 0) (m.alloc (.row [.ptr p 0 0] 0)) = some (.ret (.int .i64 j), m.alloc (.row [.ptr p 0 0] 0)) := h1
  rw [h1', retK_ret, aBin_geq, bnd_some, retK_ret, aUn_not, bnd_some]
  rw [List.drop_zero] at h2
  have : (!decide ((0 : Int) ≤ j)) = l.all (inB ns.length) := by
    rw [Bool.eq_iff_iff]
    simp only [Bool.not_eq_true', decide_eq_false_iff_not, List.all_eq_true, h2]
    constructor
    · intro h3 x hx
      cases hi : inB ns.length x with
      | true => rfl
      | false => exact absurd ⟨x, hx, hi⟩ h3
    · rintro h3 ⟨x, hx, h4⟩
      rw [h3 x hx] at h4; cases h4
  rw [this]
end Go.AM
namespace Go.AM
open Go Go.Proofs Uni
set_option linter.unusedSimpArgs false
set_option linter.unusedVariables false
theorem slIntNil (tk : Tk) (xs : List AV) : aBin X.T .eql T_Sl_int false true (.sl tk xs) .nils = some (.bool false) := by kernel_rfl
theorem nilIntNil : aBin X.T .eql T_Sl_int false true .nils .nils = some (.bool true) := by kernel_rfl
theorem its_sized (l : List Int) : sized 1 (its l) = true := by
  induction l with
  | nil => rfl
  | cons a l ih => simp only [List.map_cons, sized, cells_int, List.length_cons, List.length_nil]; simpa using ih
theorem cloneI_s {v : AV} {l : List Int} (h : HSl v (its l)) (hl : l.length ≤ 1000000000) (m : Mem) : ∃ v' m', w_f86 v m = some (.ret v', m') ∧ App m.next 1 m' v' (its l) ∧ Kept m m' := by
  rw [e_f86]
  have key : ∃ v' m', k_f86_0 v m = some (.ret v', m') ∧ App m.next 1 m' v' (its l) ∧ Kept m m' := by
    obtain ⟨v', m', h1, h2, h3, _⟩ := App.append (A := A_int) (b := m.next) (m := m) (v := .sl .full []) (xs := []) (ys := its l) (.full [] rfl) (Nat.le_refl _) h (its_sized l) ⟨by decide, rfl⟩ (by simp only [List.length_map, List.length_nil, A_int]; omega) (by simp; omega)
    have e : rBuildSlice A_int 0 [] = some (.sl .full []) := rfl
    refine ⟨v', m', ?_, h2, h3⟩
    rw [k_f86_0_eq, e, bnd_some, h1, memK_some]
  generalize hxs : its l = xs at h
  cases h with
  | nil =>
    rw [nilIntNil, bnd_some, onBool_true]
    exact ⟨_, _, rfl, .nil, .refl _ _⟩
  | sl tk xs =>
    rw [slIntNil, bnd_some, onBool_false]
    subst hxs
    exact key
theorem NV.push {m m1 : Mem} {p : Nat} {o : Option Nat} {nv tv : AV} {ns : List Nd} (h : NV m p o nv ns) (hk : Kept m m1) (hp : p < m.next) (hpo : m.obj p = some (.row [nv, tv] 0)) (hl : ns.length ≤ 1000000) {k : Int} {nm : List UInt8} {args : List Nat} {av : AV} (ha : HSl av (nts args)) :
    ∃ o' v' m', rAppend A_unify_node 1 m1 nv (.sl .full [.agg [.int .i64 k, .str (bs nm), av, .int .i64 (-1)]]) = some (v', m') ∧ m'.obj p = some (.row [nv, tv] 0) ∧ Fr p o m m' ∧ NV m' p (some o') v' (addN ns k nm args) ∧ (o = none → m.next ≤ o') ∧ (∀ j, o = some j → o' = j) := by
  have hpk := (hk.obj p hp).trans hpo
  have hne := hk.next
  cases h with
  | nil =>
    have e : rAppend A_unify_node 1 m1 .nils (.sl .full [.agg [.int .i64 k, .str (bs nm), av, .int .i64 (-1)]]) = some (.ms m1.next 0 0 1 4, m1.alloc (.row [.int .i64 k, .str (bs nm), av, .int .i64 (-1)] 0)) := rfl
    refine ⟨m1.next, _, _, e, ?_, ?_, ?_, fun _ => hne, fun j h => by cases h⟩
    · rw [alloc_obj, if_neg (by omega)]; exact hpk
    · exact ⟨by simp; omega, fun j h1 _ _ => by rw [alloc_obj, if_neg (by omega)]; exact hk.obj j h1⟩
    · exact NV.row (m := m1.alloc _) (p := p) m1.next 0 [.int .i64 k, .str (bs nm), av, .int .i64 (-1)] (addN [] k nm args) (by simp) (by omega) (by simp) (NC.cons (n := ⟨k, nm, args, none⟩) ha .nil)
  | row oo ver cs ns h1 h2 h3 h4 =>
    have ho := (hk.obj oo h1).trans h3
    have hlen := h4.len
    have e : rAppend A_unify_node 1 m1 (.ms oo ver 0 ns.length 4) (.sl .full [.agg [.int .i64 k, .str (bs nm), av, .int .i64 (-1)]]) = some (.ms oo (ver + 1) 0 (ns.length + 1) 4, m1.set oo (.row (cs ++ [.int .i64 k, .str (bs nm), av, .int .i64 (-1)]) (ver + 1))) := by
      have e1 : rAppend A_unify_node 1 m1 (.ms oo ver 0 ns.length 4) (.sl .full [.agg [.int .i64 k, .str (bs nm), av, .int .i64 (-1)]]) = aAppend2 1 m1 A_unify_node (.ms oo ver 0 ns.length 4) [.agg [.int .i64 k, .str (bs nm), av, .int .i64 (-1)]] := rfl
      have e2 : A_unify_node.size = 4 := rfl
      have e3 : A_unify_node.bytes = 56 := rfl
      have e4 : flat? [AV.agg [.int .i64 k, .str (bs nm), av, .int .i64 (-1)]] = some [.int .i64 k, .str (bs nm), av, .int .i64 (-1)] := rfl
      rw [e1]
      simp only [aAppend2, e2, e3, List.length_cons, List.length_nil, ho]
      rw [if_neg (by omega), if_neg (by simp), if_neg (by simp), if_neg (by simp [hlen]), e4, Option.bind_some, if_neg (by omega), ← hlen, List.take_length]
    have hlen2 : ns.length + 1 = (addN ns k nm args).length := by simp
    rw [e]
    refine ⟨oo, _, _, rfl, ?_, ?_, ?_, (fun h => nomatch h), (fun j h => Option.some.inj h)⟩
    · rw [set_obj, if_neg (Ne.symm h2)]; exact hpk
    · exact ⟨by simp; omega, fun j g1 g2 g3 => by rw [set_obj, if_neg (by rintro rfl; exact g3 rfl)]; exact hk.obj j g1⟩
    · rw [hlen2]
      exact .row oo (ver + 1) _ _ (by simp; omega) h2 (by rw [set_obj, if_pos rfl]; rfl) (h4.append (NC.cons (n := ⟨k, nm, args, none⟩) ha .nil))
theorem add_s {m : Mem} {p : Nat} {o : Option Nat} {ns : List Nd} {tv : AV} (h : US m p o ns tv) (hl : ns.length ≤ 1000000) {v : AV} {args : List Nat} (hv : HSl v (nts args)) (hal : args.length ≤ 1000000) (k : Int) (nm : List UInt8) :
    ∃ o' m', w_f62 (.ptr p 0 0) (.int .i64 k) (.str (bs nm)) v m = some (.ret (.int .i64 ns.length), m') ∧ US m' p (some o') (addN ns k nm args) tv ∧ Fr p o m m' ∧ (o = none → m.next ≤ o') ∧ (∀ j, o = some j → o' = j) := by
  obtain ⟨nv, l1, l2, l3, l4⟩ := h.load
  obtain ⟨v17, m1, c1, c2, c3⟩ := cloneI_s hv (by simp; omega) m
  obtain ⟨o', v', m2, p1, p2, p3, p4, p5, p6⟩ := l4.push c3 h.lt l3 hl (k := k) (nm := nm) c2.hsl
  have eb : rBuild [.int .i64 0, .str (bs []), .nils, .int .i64 0] [(0, 1, .int .i64 k), (1, 1, .str (bs nm)), (2, 1, v17), (3, 1, .int .i64 (-1))] = some (.agg [.int .i64 k, .str (bs nm), v17, .int .i64 (-1)]) := by
    have := c2.hsl.cells
    simp [this, putCells, splice]
  have es : rBuildSlice A_unify_node 1 [(0, .agg [.int .i64 k, .str (bs nm), v17, .int .i64 (-1)])] = some (.sl .full [.agg [.int .i64 k, .str (bs nm), v17, .int .i64 (-1)]]) := rfl
  have hp2 : p < m2.next := Nat.lt_of_lt_of_le h.lt p3.next
  have hv'c : v'.cells? = some [v'] := by cases p4; rfl
  have st : rStore 1 m2 (.ptr p 0 (0 + 0)) v' = some (m2.set p (.row [v', tv] 0)) := rStore_ptr p2 hv'c rfl rfl
  have ld1 : rLoad false 1 m1 (.ptr p 0 (0 + 0)) = some nv := by rw [rLoad_ptr, cells_of ((c3.obj p h.lt).trans l3)]; rfl
  have o3 : (m2.set p (.row [v', tv] 0)).obj p = some (.row [v', tv] 0) := by simp
  have ld3 : rLoad false 1 (m2.set p (.row [v', tv] 0)) (.ptr p 0 (0 + 0)) = some v' := by rw [rLoad_ptr, cells_of o3]; rfl
  have hfr : Fr p o m (m2.set p (.row [v', tv] 0)) := p3.trans ⟨by simp, fun j _ g2 _ => by rw [set_obj, if_neg g2]⟩
  have hus : US (m2.set p (.row [v', tv] 0)) p (some o') (addN ns k nm args) tv := by
    refine ⟨by simpa using hp2, v', o3, ?_⟩
    cases p4 with
    | row _ ver cs _ h1 h2 h3 h4 => exact .row _ ver cs _ (by simpa using h1) h2 (by rw [set_obj, if_neg h2]; exact h3) h4
  refine ⟨o', _, ?_, hus, hfr, p5, p6⟩
  rw [e_f62]
  simp only [nilK_ptr, rFieldAddr_ptr, bnd_some]
  rw [l1, bnd_some, c1, retK_ret, eb, bnd_some, es, bnd_some, p1, memK_some]
  try simp only [nilK_ptr, rFieldAddr_ptr, bnd_some]
  rw [st, bnd_some, ld1, bnd_some, sameK_self, ld3, bnd_some, p4.len, bnd_some, aBin_sub, bnd_some, addN_len, wrap64 (by omega) (by omega)]
  simp
theorem new_s (m : Mem) : ∃ p m', w_f33 m = some (.ret (.ptr p 0 0), m') ∧ US m' p none [] .nils ∧ Kept m m' ∧ m.next ≤ p := by
  refine ⟨m.next, m.alloc (.row [.nils, .nils] 0), ?_, ⟨by simp, .nils, by simp, .nil⟩, Kept.alloc m _, Nat.le_refl _⟩
  rw [e_f33, rBuild_nil, bnd_some, aBox_eq, cells_agg, Option.map_some, memK_some]
theorem var_s {m : Mem} {p : Nat} {o : Option Nat} {ns : List Nd} {tv : AV} (h : US m p o ns tv) (hl : ns.length ≤ 1000000) :
    ∃ o' m', w_f34 (.ptr p 0 0) m = some (.ret (.int .i64 ns.length), m') ∧ US m' p (some o') (addN ns 1 [] []) tv ∧ Fr p o m m' ∧ (o = none → m.next ≤ o') ∧ (∀ j, o = some j → o' = j) := by
  obtain ⟨o', m', h1, h2⟩ := add_s h hl (v := .nils) (args := []) .nil (by simp) 1 []
  refine ⟨o', m', ?_, h2⟩
  rw [e_f34, h1, retK_ret]
theorem len_s {m : Mem} {p : Nat} {o : Option Nat} {ns : List Nd} {tv : AV} (h : US m p o ns tv) : w_f45 (.ptr p 0 0) m = some (.ret (.int .i64 ns.length), m) := by
  obtain ⟨nv, l1, l2, l3, l4⟩ := h.load
  rw [e_f45]
  simp only [nilK_ptr, rFieldAddr_ptr, bnd_some, l1, l4.len]
end Go.AM
namespace Go.AM
open Go Go.Proofs Uni
set_option linter.unusedSimpArgs false
set_option linter.unusedVariables false
structure FrB (b p o : Nat) (m m' : Mem) : Prop where
  next : m.next ≤ m'.next
  obj : ∀ j, j < b → j ≠ p → j ≠ o → m'.obj j = m.obj j
theorem FrB.refl (b p o : Nat) (m : Mem) : FrB b p o m m := ⟨Nat.le_refl _, fun _ _ _ _ => rfl⟩
theorem FrB.trans {b p o : Nat} {m1 m2 m3 : Mem} (h : FrB b p o m1 m2) (h' : FrB b p o m2 m3) : FrB b p o m1 m3 :=
  ⟨Nat.le_trans h.next h'.next, fun j h1 h2 h3 => (h'.obj j h1 h2 h3).trans (h.obj j h1 h2 h3)⟩
theorem App.move {b size : Nat} {m m' : Mem} {v : AV} {xs : List AV} (h : App b size m v xs) (hn : m.next ≤ m'.next) (hk : ∀ j, b ≤ j → j < m.next → m'.obj j = m.obj j) : App b size m' v xs := by
  cases h with
  | nil => exact .nil
  | full _ h => exact .full _ h
  | lit _ h => exact .lit _ h
  | own t _ h1 h2 h3 h4 => exact .own t _ h1 (Nat.lt_of_lt_of_le h2 hn) ((hk t h1 h2).trans h3) h4
/-- the store while nodes are made alike: b: what there was ahead -/
structure MS (b : Nat) (m : Mem) (p o : Nat) (ns : List Nd) (tr : List Nat) : Prop where
  ex : ∃ tv, US m p (some o) ns tv ∧ App b 1 m tv (nts tr)
  pb : p < b
  ob : o < b
  bm : b ≤ m.next
theorem MS.link {b : Nat} {m : Mem} {p o : Nat} {ns : List Nd} {tr : List Nat} (h : MS b m p o ns tr) {x y : Nat} (hx : x < ns.length) (ht : tr.length ≤ 1000000) :
    ∃ m', w_f84 (.ptr p 0 0) (.int .i64 x) (.int .i64 y) m = some (.ret (.tup []), m') ∧ MS b m' p o (setUp ns x (some y)) (tr ++ [x]) ∧ FrB b p o m m' := by
  obtain ⟨tv, hu, ha⟩ := h.ex
  obtain ⟨nv, l1, l2, l3, l4⟩ := hu.load
  have pb := h.pb; have ob := h.ob; have bm := h.bm
  cases l4 with
  | row _ ver cs _ h1 h2 h3 h4 =>
    obtain ⟨cs', g1, g2⟩ := h4.setUp (some y) hx
    have hix : rIxAddrSl 4 (.ms o ver 0 ns.length 4) (.int .i64 x) = some (.ptr o ver (x * 4)) := by
      simp [rIxAddrSl]; omega
    have st1 : rStore 1 m (.ptr o ver (x * 4 + 3)) (.int .i64 y) = some (m.set o (.row cs' ver)) := rStore_ptr h3 rfl rfl g1
    have p1 : (m.set o (.row cs' ver)).obj p = some (.row [.ms o ver 0 ns.length 4, tv] 0) := by rw [set_obj, if_neg (Ne.symm h2)]; exact l3
    have ld : rLoad false 1 (m.set o (.row cs' ver)) (.ptr p 0 (0 + 1)) = some tv := by rw [rLoad_ptr, cells_of p1]; rfl
    have ha1 : App b 1 (m.set o (.row cs' ver)) tv (nts tr) := ha.move (by simp) fun j q1 _ => by rw [set_obj, if_neg (by omega)]
    have es : rBuildSlice A_int 1 [(0, .int .i64 (x : Int))] = some (.sl .full [.int .i64 (x : Int)]) := rfl
    obtain ⟨tv', m2, k1, k2, k3, k4⟩ := App.append (A := A_int) ha1 (by simpa using bm) (w := .sl .full [.int .i64 (x : Int)]) (ys := [.int .i64 (x : Int)]) (.sl _ _) rfl ⟨by decide, rfl⟩ (by simp [nts, A_int]; omega) (by simp [nts]; omega)
    have p2 : m2.obj p = some (.row [.ms o ver 0 ns.length 4, tv] 0) := (k3.obj p pb).trans p1
    have o2 : m2.obj o = some (.row cs' ver) := (k3.obj o ob).trans (by simp)
    have tvc : tv'.cells? = some [tv'] := k2.hsl.cells
    have st2 : rStore 1 m2 (.ptr p 0 (0 + 1)) tv' = some (m2.set p (.row [.ms o ver 0 ns.length 4, tv'] 0)) := rStore_ptr p2 tvc rfl rfl
    have hn2 : m.next ≤ m2.next := by have := k3.next; simpa using this
    refine ⟨m2.set p (.row [.ms o ver 0 ns.length 4, tv'] 0), ?_, ⟨⟨tv', ⟨by simp; omega, .ms o ver 0 ns.length 4, by simp, ?_⟩, ?_⟩, pb, ob, by simp; omega⟩, ⟨by simpa using hn2, fun j q1 q2 q3 => ?_⟩⟩
    · rw [e_f84]
      simp only [nilK_ptr, rFieldAddr_ptr, bnd_some]
      rw [l1, bnd_some, hix, bnd_some, rFieldAddr_ptr, bnd_some, st1, bnd_some]
      try simp only [nilK_ptr, rFieldAddr_ptr, bnd_some]
      rw [ld, bnd_some, es, bnd_some, k1, memK_some]
      try simp only [nilK_ptr, rFieldAddr_ptr, bnd_some]
      rw [st2, bnd_some]
    · have hl : ns.length = (setUp ns x (some y)).length := by simp
      rw [hl]
      exact .row o ver cs' _ (by simp; omega) h2 (by rw [set_obj, if_neg h2]; exact o2) g2
    · have : nts (tr ++ [x]) = nts tr ++ [.int .i64 (x : Int)] := by simp [nts]
      rw [this]
      exact k2.move (by simp) fun j q1 _ => by rw [set_obj, if_neg (by omega)]
    · rw [set_obj, if_neg q2, k3.obj j q1, set_obj, if_neg q3]
/-- links taken away -/
def clear (ns : List Nd) (l : List Nat) : List Nd := l.foldl (fun s x => setUp s x none) ns
theorem clear_get : ∀ (l : List Nat) (ns : List Nd) (i : Nat), (clear ns l)[i]? = if i ∈ l then (ns[i]?).map fun n => { n with up := none } else ns[i]?
  | [], ns, i => by simp [clear]
  | x :: l, ns, i => by
    show (clear (setUp ns x none) l)[i]? = _
    rw [clear_get l, setUp_get]
    by_cases h : x = i
    · subst h
      rw [if_pos rfl, if_pos (List.mem_cons_self ..)]
      split <;> cases ns[x]? <;> rfl
    · rw [if_neg h]
      have : (i ∈ x :: l) ↔ i ∈ l := by simp [Ne.symm h]
      simp only [this]
theorem clear_link {ns : List Nd} {l : List Nat} {x : Nat} {o : Option Nat} (h : upOf ns x = none) : clear (setUp ns x o) (l ++ [x]) = clear ns l := by
  apply List.ext_getElem?
  intro i
  rw [clear_get, clear_get, setUp_get]
  by_cases hi : x = i
  · subst hi
    rw [if_pos (by simp), if_pos rfl]
    have hn : (ns[x]?).map (fun n => { n with up := none }) = ns[x]? := by
      unfold upOf at h
      cases hq : ns[x]? with
      | none => rfl
      | some n => rw [hq] at h; simp at h; cases n; simp_all
    rw [hn, ite_self, Option.map_map]
    exact hn
  · rw [if_neg hi]
    have : (i ∈ l ++ [x]) ↔ i ∈ l := by simp [Ne.symm hi]
    simp only [this]
theorem US.unlink {m : Mem} {p o : Nat} {ns : List Nd} {tv : AV} (h : US m p (some o) ns tv) {x : Nat} (hx : x < ns.length) : ∃ nv oo ver m', rLoad false 1 m (.ptr p 0 (0 + 0)) = some nv ∧ rIxAddrSl 4 nv (.int .i64 x) = some (.ptr oo ver (x * 4)) ∧ rStore 1 m (.ptr oo ver (x * 4 + 3)) (.int .i64 (-1)) = some m' ∧ US m' p (some o) (setUp ns x none) tv ∧ m'.next = m.next ∧ ∀ j, j ≠ o → m'.obj j = m.obj j := by
  obtain ⟨nv, l1, l2, l3, l4⟩ := h.load
  cases l4 with
  | row _ ver cs _ h1 h2 h3 h4 =>
    obtain ⟨cs', g1, g2⟩ := h4.setUp none hx
    have st1 : rStore 1 m (.ptr o ver (x * 4 + 3)) (.int .i64 (-1)) = some (m.set o (.row cs' ver)) := rStore_ptr h3 rfl rfl g1
    refine ⟨_, o, ver, _, l1, by simp [rIxAddrSl]; omega, st1, ⟨by simpa using h.lt, .ms o ver 0 ns.length 4, by rw [set_obj, if_neg (Ne.symm h2)]; exact l3, ?_⟩, by simp, fun j q => by rw [set_obj, if_neg q]⟩
    have hl : ns.length = (setUp ns x none).length := by simp
    rw [hl]
    exact .row o ver cs' _ (by simpa using h1) h2 (by simp) g2
theorem undo_loop {p o : Nat} {tv : AV} {tr : List Nat} (ht : HSl tv (nts tr)) (hl : tr.length ≤ 1000000000) : ∀ (k i : Nat) (ns : List Nd) (m : Mem), tr.length - i = k → i ≤ tr.length → US m p (some o) ns tv → (∀ x ∈ tr, x < ns.length) →
    ∃ m', l_f59_0 (.ptr p 0 0) tv (.int .i64 tr.length) (.int .i64 i) m = some (.ret (.tup []), m') ∧ US m' p (some o) (clear ns (tr.drop i)) tv ∧ m'.next = m.next ∧ ∀ j, j ≠ o → m'.obj j = m.obj j
  | 0, i, ns, m, hk, hi, hu, hx => by
    have : i = tr.length := by omega
    subst this
    rw [l_f59_0_eq]
    simp only [aBin_lss, bnd_some, Int.lt_irrefl, decide_false, onBool_false]
    exact ⟨m, rfl, by rw [List.drop_length]; exact hu, rfl, fun _ _ => rfl⟩
  | k + 1, i, ns, m, hk, hi, hu, hx => by
    have hlt : i < tr.length := by omega
    have hd : tr.drop i = tr[i] :: tr.drop (i + 1) := List.drop_eq_getElem_cons hlt
    have hix : rIxAddrSl 1 tv (.int .i64 i) = some (.pim [.int .i64 (tr[i] : Nat)]) := ht.ix (x := .int .i64 (tr[i] : Nat)) (by simp [nts, hlt]) rfl rfl
    obtain ⟨nv, oo, ver, m1, a1, a2, a3, a4, a5, a6⟩ := hu.unlink (hx tr[i] (List.getElem_mem hlt))
    obtain ⟨m2, b1, b2, b3, b4⟩ := undo_loop ht hl k (i + 1) _ m1 (by omega) (by omega) a4 fun x h => by simpa using hx x h
    refine ⟨m2, ?_, by rw [hd]; exact b2, b3.trans a5, fun j hj => (b4 j hj).trans (a6 j hj)⟩
    rw [l_f59_0_eq]
    simp only [aBin_lss, bnd_some]
    rw [decide_eq_true (by omega), onBool_true, k_f59_0_eq, hix, bnd_some, rLoad_pimc, List.getElem?_cons_zero, bnd_some]
    simp only [nilK_ptr, rFieldAddr_ptr, bnd_some]
    rw [a1, bnd_some, a2, bnd_some]
    simp only [rFieldAddr_ptr, bnd_some]
    rw [a3, bnd_some, k_f59_1_eq]
    simp only [aBin_add, bnd_some]
    rw [wrap64 (by omega) (by omega)]
    exact b1
theorem MS.undo {b : Nat} {m : Mem} {p o : Nat} {ns : List Nd} {tr : List Nat} (h : MS b m p o ns tr) (ht : tr.length ≤ 1000000) (hx : ∀ x ∈ tr, x < ns.length) :
    ∃ m', w_f59 (.ptr p 0 0) m = some (.ret (.tup []), m') ∧ MS b m' p o (clear ns tr) tr ∧ FrB b p o m m' := by
  obtain ⟨tv, hu, ha⟩ := h.ex
  have pb := h.pb; have ob := h.ob; have bm := h.bm
  obtain ⟨nv, l1, l2, l3, l4⟩ := hu.load
  obtain ⟨m', b1, b2, b3, b4⟩ := undo_loop ha.hsl (by omega) _ 0 ns m rfl (Nat.zero_le _) hu hx
  refine ⟨m', ?_, ⟨⟨tv, b2, ha.move (by omega) fun j q1 _ => b4 j (by omega)⟩, pb, ob, by omega⟩, ⟨by omega, fun j _ _ q => b4 j q⟩⟩
  rw [e_f59]
  simp only [nilK_ptr, rFieldAddr_ptr, bnd_some]
  rw [l2, bnd_some, ha.hsl.len, bnd_some]
  have : (nts tr).length = tr.length := by simp [nts]
  rw [this]
  exact b1
end Go.AM
namespace Go.AM
open Go Go.Proofs Uni
set_option linter.unusedSimpArgs false
set_option linter.unusedVariables false
theorem kOf_get {ns : List Nd} {i : Nat} (h : i < ns.length) : kOf ns i = ns[i].k := by unfold kOf; rw [List.getElem?_eq_getElem h]; rfl
theorem nmOf_get {ns : List Nd} {i : Nat} (h : i < ns.length) : nmOf ns i = ns[i].nm := by unfold nmOf; rw [List.getElem?_eq_getElem h]; rfl
theorem argsOf_get {ns : List Nd} {i : Nat} (h : i < ns.length) : argsOf ns i = ns[i].args := by unfold argsOf; rw [List.getElem?_eq_getElem h]; rfl
theorem heads_s {m : Mem} {p : Nat} {o : Option Nat} {ns : List Nd} {tv : AV} (h : US m p o ns tv) {a b : Nat} (ha : a < ns.length) (hb : b < ns.length) : ∃ m', w_f85 (.ptr p 0 0) (.int .i64 a) (.int .i64 b) m = some (.ret (.bool (headsB ns a b)), m') ∧ Kept m m' := by
  obtain ⟨nv, l1, l2, l3, l4⟩ := h.load
  obtain ⟨oo, ver, av, a1, a2, a3, a4, a5, a6, a7⟩ := l4.node ha
  obtain ⟨oo', ver', bv, b1, b2, b3, b4, b5, b6, b7⟩ := l4.node hb
  have bx : ∀ m : Mem, aBox m (.agg [.int .i64 0, .str (bs []), .nils, .int .i64 0]) = some (.ptr m.next 0 0, m.alloc (.row [.int .i64 0, .str (bs []), .nils, .int .i64 0] 0)) := fun m => rfl
  obtain ⟨m2, hm2⟩ : ∃ m2, m2 = (m.alloc (.row [.int .i64 0, .str (bs []), .nils, .int .i64 0] 0)).alloc (.row [.int .i64 0, .str (bs []), .nils, .int .i64 0] 0) := ⟨_, rfl⟩
  have ca : (AV.agg [.int .i64 ns[a].k, .str (bs ns[a].nm), av, .int .i64 (upI ns[a].up)]).cells? = some [.int .i64 ns[a].k, .str (bs ns[a].nm), av, .int .i64 (upI ns[a].up)] := rfl
  have q1 : m2.obj m.next = some (.row [.int .i64 0, .str (bs []), .nils, .int .i64 0] 0) := by subst hm2; simp
  have st1 : rStore 4 m2 (.ptr m.next 0 0) (.agg [.int .i64 ns[a].k, .str (bs ns[a].nm), av, .int .i64 (upI ns[a].up)]) = some (m2.set m.next (.row [.int .i64 ns[a].k, .str (bs ns[a].nm), av, .int .i64 (upI ns[a].up)] 0)) := rStore_ptr q1 rfl rfl rfl
  obtain ⟨m3, hm3⟩ : ∃ m3, m3 = m2.set m.next (.row [.int .i64 ns[a].k, .str (bs ns[a].nm), av, .int .i64 (upI ns[a].up)] 0) := ⟨_, rfl⟩
  have q2 : m3.obj (m.next + 1) = some (.row [.int .i64 0, .str (bs []), .nils, .int .i64 0] 0) := by subst hm3; subst hm2; simp
  have st2 : rStore 4 m3 (.ptr (m.next + 1) 0 0) (.agg [.int .i64 ns[b].k, .str (bs ns[b].nm), bv, .int .i64 (upI ns[b].up)]) = some (m3.set (m.next + 1) (.row [.int .i64 ns[b].k, .str (bs ns[b].nm), bv, .int .i64 (upI ns[b].up)] 0)) := rStore_ptr q2 rfl rfl rfl
  obtain ⟨m4, hm4⟩ : ∃ m4, m4 = m3.set (m.next + 1) (.row [.int .i64 ns[b].k, .str (bs ns[b].nm), bv, .int .i64 (upI ns[b].up)] 0) := ⟨_, rfl⟩
  have k3 : Kept m m3 := by
    subst hm3; subst hm2
    exact (Kept.set ((Kept.alloc m _).trans (Kept.alloc _ _)) (Nat.le_refl _) _)
  have k4 : Kept m m4 := by subst hm4; exact Kept.set k3 (by omega) _
  have r1 : m4.obj m.next = some (.row [.int .i64 ns[a].k, .str (bs ns[a].nm), av, .int .i64 (upI ns[a].up)] 0) := by subst hm4; subst hm3; simp
  have r2 : m4.obj (m.next + 1) = some (.row [.int .i64 ns[b].k, .str (bs ns[b].nm), bv, .int .i64 (upI ns[b].up)] 0) := by subst hm4; simp
  have ld : ∀ {m : Mem} {o : Nat} {x y z w : AV}, m.obj o = some (.row [x, y, z, w] 0) → rLoad false 1 m (.ptr o 0 (0 + 0)) = some x ∧ rLoad false 1 m (.ptr o 0 (0 + 1)) = some y ∧ rLoad false 1 m (.ptr o 0 (0 + 2)) = some z := fun h => by
    refine ⟨?_, ?_, ?_⟩ <;> rw [rLoad_ptr, cells_of h] <;> rfl
  obtain ⟨c1, c2, c3⟩ := ld r1
  obtain ⟨d1, d2, d3⟩ := ld r2
  obtain ⟨nv', l1', _, l3', l4'⟩ := (h.kept k3).load
  have hnv : nv' = nv := by
    have := (k3.obj p h.lt).trans l3
    rw [this] at l3'; injection l3' with e; injection e with e; injection e with e; exact e.symm
  subst hnv
  obtain ⟨oo2, ver2, bv2, e1, e2, e3, e4, e5, e6, e7⟩ := l4'.node hb
  rw [b1] at e1
  injection e1 with e1; injection e1 with e1 e1'
  subst e1; subst e1'
  have hbv : rLoad true 4 m3 (.ptr oo' ver' (b * 4)) = some (.agg [.int .i64 ns[b].k, .str (bs ns[b].nm), bv, .int .i64 (upI ns[b].up)]) := by
    have : rLoad false 1 m3 (.ptr oo' ver' (b * 4 + 2)) = rLoad false 1 m (.ptr oo' ver' (b * 4 + 2)) := by
      rw [rLoad_ptr, rLoad_ptr]
      cases l4 with
      | nil => simp at hb
      | row o2 ver3 cs _ h1 h2 h3 h4 =>
        have hx : rIxAddrSl 4 (.ms o2 ver3 0 ns.length 4) (.int .i64 b) = some (.ptr o2 ver3 (b * 4)) := by simp [rIxAddrSl]; omega
        rw [hx] at b1
        injection b1 with b1; injection b1 with b1 b1'
        subst b1; subst b1'
        rw [cells_of h3, cells_of ((k3.obj _ h1).trans h3)]
    rw [e5, b5] at this
    injection this with this
    rw [e7, this]
  refine ⟨m4, ?_, k4⟩
  rw [e_f85]
  simp only [nilK_ptr, rFieldAddr_ptr, bnd_some]
  rw [l1, bnd_some, a1, bnd_some, a7, bnd_some]
  try simp only [nilK_ptr, rFieldAddr_ptr, bnd_some]
  rw [b1, bnd_some, b7, bnd_some, bx, memK_some, bx, memK_some, ← hm2, st1, bnd_some, ← hm3]
  have hn : (m.alloc (.row [.int .i64 0, .str (bs []), .nils, .int .i64 0] 0)).next = m.next + 1 := rfl
  rw [hn, st2, bnd_some, ← hm4, l1', bnd_some, sameK_self, hbv, bnd_some, sameK_self]
  simp only [nilK_ptr, rFieldAddr_ptr, bnd_some]
  rw [c1, bnd_some, d1, bnd_some, aBin_eql, bnd_some]
  have hh : headsB ns a b = (decide (ns[a].k = ns[b].k) && decide (ns[a].nm = ns[b].nm) && decide (ns[a].args.length = ns[b].args.length)) := by
    unfold headsB; rw [kOf_get ha, kOf_get hb, nmOf_get ha, nmOf_get hb, argsOf_get ha, argsOf_get hb]
  rw [hh]
  by_cases hk : ns[a].k = ns[b].k
  · rw [decide_eq_true hk, onWant_true]
    try simp only [nilK_ptr, rFieldAddr_ptr, bnd_some]
    rw [c2, bnd_some, d2, bnd_some, aBin_streq, bnd_some]
    by_cases hn2 : ns[a].nm = ns[b].nm
    · rw [decide_eq_true hn2, onWant_true]
      try simp only [nilK_ptr, rFieldAddr_ptr, bnd_some]
      rw [c3, bnd_some, a2.len, bnd_some, d3, bnd_some, b2.len, bnd_some, aBin_eql, bnd_some]
      simp [nts]; omega
    · rw [decide_eq_false hn2, onWant_false]; simp
  · rw [decide_eq_false hk, onWant_false]; simp
end Go.AM
namespace Go.AM
open Go Go.Proofs Uni
set_option linter.unusedSimpArgs false
set_option linter.unusedVariables false
def cnt (ns : List Nd) : Nat := ns.countP fun n => n.up.isNone
theorem cnt_set : ∀ {ns : List Nd} {x : Nat} {y : Nat}, x < ns.length → upOf ns x = none → cnt (setUp ns x (some y)) + 1 = cnt ns
  | [], x, y, h, _ => by simp at h
  | n :: ns, 0, y, h, hu => by
    have hn : n.up = none := by simpa [upOf] using hu
    show cnt ({ n with up := some y } :: ns) + 1 = cnt (n :: ns)
    unfold cnt
    simp [List.countP_cons, hn]
  | n :: ns, x + 1, y, h, hu => by
    have ih := cnt_set (ns := ns) (x := x) (y := y) (by simpa using h) (by simpa [upOf] using hu)
    show cnt (n :: setUp ns x (some y)) + 1 = cnt (n :: ns)
    unfold cnt at *
    simp only [List.countP_cons]
    omega
theorem cnt_le (ns : List Nd) : cnt ns ≤ ns.length := List.countP_le_length
structure MR (b p o : Nat) (rg : Bool) (m : Mem) (ns : List Nd) (tr : List Nat) (ps : List (Nat × Nat)) (ok : Bool) (m' : Mem) (ns' : List Nd) (tr' : List Nat) : Prop where
  ms : MS b m' p o ns' tr'
  fr : FrB b p o m m'
  lk : Lk ns'
  sd : Sd ns ns'
  ct : cnt ns' + tr'.length = cnt ns + tr.length
  le : cnt ns' ≤ cnt ns
  cl : clear ns' tr' = clear ns tr
  tl : (∀ x ∈ tr, x < ns.length) → ∀ x ∈ tr', x < ns.length
  wk : if ok = true then ∀ rest ok' ns2, Wk rg ns' rest ok' ns2 → Wk rg ns (ps ++ rest) ok' ns2 else ∀ rest, Wk rg ns (ps ++ rest) false ns'
theorem MR.nil {b p o : Nat} {rg : Bool} {m : Mem} {ns : List Nd} {tr : List Nat} (h : MS b m p o ns tr) (hl : Lk ns) : MR b p o rg m ns tr [] true m ns tr :=
  ⟨h, .refl .., hl, .refl _, rfl, Nat.le_refl _, rfl, id, by rw [if_pos rfl]; exact fun rest ok' ns2 h => h⟩
theorem MR.seq {b p o : Nat} {rg ok : Bool} {m m1 m2 : Mem} {ns ns1 ns2 : List Nd} {tr tr1 tr2 : List Nat} {ps qs : List (Nat × Nat)} (h : MR b p o rg m ns tr ps true m1 ns1 tr1) (h' : MR b p o rg m1 ns1 tr1 qs ok m2 ns2 tr2) : MR b p o rg m ns tr (ps ++ qs) ok m2 ns2 tr2 :=
  ⟨h'.ms, h.fr.trans h'.fr, h'.lk, h.sd.trans h'.sd, h'.ct.trans h.ct, Nat.le_trans h'.le h.le, h'.cl.trans h.cl, fun ht x hx => by rw [← h.sd.len]; exact h'.tl (fun y hy => by rw [h.sd.len]; exact h.tl ht y hy) x hx, by
    have w := h.wk
    have w' := h'.wk
    rw [if_pos rfl] at w
    cases ok with
    | true =>
      rw [if_pos rfl] at w' ⊢
      intro rest ok' ns3 h3
      rw [List.append_assoc]
      exact w _ _ _ (w' _ _ _ h3)
    | false =>
      rw [if_neg (by simp)] at w' ⊢
      intro rest
      rw [List.append_assoc]
      exact w _ _ _ (w' _)⟩
theorem MR.stop {b p o : Nat} {rg : Bool} {m m1 : Mem} {ns ns1 : List Nd} {tr tr1 : List Nat} {ps : List (Nat × Nat)} (h : MR b p o rg m ns tr ps false m1 ns1 tr1) (qs : List (Nat × Nat)) : MR b p o rg m ns tr (ps ++ qs) false m1 ns1 tr1 :=
  ⟨h.ms, h.fr, h.lk, h.sd, h.ct, h.le, h.cl, h.tl, by
    have w := h.wk
    rw [if_neg (by simp)] at w ⊢
    intro rest
    rw [List.append_assoc]
    exact w _⟩
/-- one link -/
theorem MS.linked {b p o : Nat} {rg : Bool} {m : Mem} {ns : List Nd} {tr : List Nat} (h : MS b m p o ns tr) (hl : Lk ns) {x y : Nat} (hx : Rt ns x x) (hy : Rt ns y y) (hne : x ≠ y) (ht : cnt ns + tr.length ≤ 1000000) {ps : List (Nat × Nat)}
    (hw : ∀ rest ok' ns2, Wk rg (setUp ns x (some y)) rest ok' ns2 → Wk rg ns (ps ++ rest) ok' ns2) :
    ∃ m', w_f84 (.ptr p 0 0) (.int .i64 x) (.int .i64 y) m = some (.ret (.tup []), m') ∧ MR b p o rg m ns tr ps true m' (setUp ns x (some y)) (tr ++ [x]) := by
  obtain ⟨m', h1, h2, h3⟩ := h.link hx.is.1 (by omega) (y := y)
  have hc := cnt_set (y := y) hx.is.1 hx.is.2
  exact ⟨m', h1, h2, h3, link_lk hl hx hy hne, Sd.set .., by simp; omega, by omega, clear_link hx.is.2, fun ht z hz => by
    rcases List.mem_append.1 hz with hz | hz
    · exact ht z hz
    · rw [List.mem_singleton] at hz; subst hz; exact hx.is.1, by rw [if_pos rfl]; exact hw⟩
end Go.AM
namespace Go.AM
open Go Go.Proofs Uni
set_option linter.unusedSimpArgs false
set_option linter.unusedVariables false
theorem merge_s (b p o : Nat) (rg : Bool) (n : Nat) : ∀ (m : Mem) (ns : List Nd) (tr : List Nat) (a c : Nat), cnt ns = n → MS b m p o ns tr → Lk ns → Av ns → a < ns.length → c < ns.length → cnt ns + tr.length ≤ 1000000 → (∀ i, (argsOf ns i).length ≤ 1000000) →
    ∃ ok m' ns' tr', w_f58 (.ptr p 0 0) (.int .i64 a) (.int .i64 c) (.bool rg) m = some (.ret (.bool ok), m') ∧ MR b p o rg m ns tr [(a, c)] ok m' ns' tr' := by
  induction n using Nat.strongRecOn with
  | _ n ih =>
  intro m ns tr a c hn hM hl hav ha hc ht hal
  obtain ⟨tv, hu, happ⟩ := hM.ex
  obtain ⟨x, hx⟩ := hl a ha
  obtain ⟨y, hy⟩ := hl c hc
  rw [e_f58, find_s hu hx, retK_ret, find_s hu hy, retK_ret, aBin_eql, bnd_some]
  by_cases hxy : x = y
  · subst hxy
    rw [decide_eq_true rfl, onBool_true]
    refine ⟨true, m, ns, tr, rfl, hM, .refl .., hl, .refl _, rfl, Nat.le_refl _, rfl, id, ?_⟩
    rw [if_pos rfl]
    exact fun rest ok' ns2 h => .same hx hy h
  · rw [decide_eq_false (by omega), onBool_false]
    obtain ⟨nv, l1, l2, l3, l4⟩ := hu.load
    obtain ⟨oo, ver, av, a1, a2, a3, a4, a5, a6, a7⟩ := l4.node hx.is.1
    obtain ⟨oo', ver', bv, b1, b2, b3, b4, b5, b6, b7⟩ := l4.node hy.is.1
    rw [← kOf_get hx.is.1] at a3
    rw [← kOf_get hy.is.1] at b3
    -- a variable is there
    have k3 : ∀ {u v : Nat}, Rt ns u u → Rt ns v v → u ≠ v → (kOf ns x = 1 ∨ kOf ns y = 1) → (rg = false → ∀ rest ok' ns2, Wk rg (setUp ns u (some v)) rest ok' ns2 → Wk rg ns ((a, c) :: rest) ok' ns2) →
        ∃ ok m' ns' tr', k_f58_3 (.ptr p 0 0) (.int .i64 u) (.int .i64 v) (.bool rg) m = some (.ret (.bool ok), m') ∧ MR b p o rg m ns tr [(a, c)] ok m' ns' tr' := by
      intro u v hu1 hv1 huv hku hw
      rw [k_f58_3_eq, aUn_not, bnd_some]
      cases rg with
      | false =>
        obtain ⟨m', h1, h2⟩ := hM.linked (rg := false) hl hu1 hv1 huv ht (ps := [(a, c)]) (hw rfl)
        rw [Bool.not_false, onBool_true, h1, retK_ret, k_f58_5_eq]
        exact ⟨true, m', _, _, rfl, h2⟩
      | true =>
        rw [Bool.not_true, onBool_false, k_f58_5_eq]
        refine ⟨false, m, ns, tr, rfl, hM, .refl .., hl, .refl _, rfl, Nat.le_refl _, rfl, id, ?_⟩
        rw [if_neg (by simp)]
        intro rest
        exact .rigid rfl hx hy hxy hku
    have ld0 : rLoad false 1 m (.ptr oo ver (x * 4 + 0)) = some (.int .i64 (kOf ns x)) := a3
    have k1 : (kOf ns x = 1 ∨ kOf ns y = 1) → ∃ ok m' ns' tr', k_f58_1 (.ptr p 0 0) (.int .i64 x) (.int .i64 y) (.bool rg) (.bool true) m = some (.ret (.bool ok), m') ∧ MR b p o rg m ns tr [(a, c)] ok m' ns' tr' := by
      intro hk
      rw [k_f58_1_eq, onBool_true]
      simp only [nilK_ptr, rFieldAddr_ptr, bnd_some]
      rw [l1, bnd_some, a1, bnd_some]
      simp only [nilK_ptr, rFieldAddr_ptr, bnd_some]
      rw [ld0, bnd_some, aBin_neq, bnd_some]
      by_cases h1 : kOf ns x = 1
      · rw [decide_eq_false (by omega), onBool_false]
        exact k3 hx.self hy.self hxy hk fun hr rest ok' ns2 h => .varl hr hx hy hxy h1 h
      · rw [decide_eq_true h1, onBool_true]
        exact k3 hy.self hx.self (Ne.symm hxy) hk fun hr rest ok' ns2 h => .varr hr hx hy hxy h1 (hk.resolve_left h1) h
    simp only [nilK_ptr, rFieldAddr_ptr, bnd_some]
    rw [l1, bnd_some, a1, bnd_some]
    simp only [nilK_ptr, rFieldAddr_ptr, bnd_some]
    rw [ld0, bnd_some, aBin_eql, bnd_some]
    by_cases h1 : kOf ns x = 1
    · rw [decide_eq_true h1, onWant_true]
      exact k1 (.inl h1)
    rw [decide_eq_false h1, onWant_false]
    try simp only [nilK_ptr, rFieldAddr_ptr, bnd_some]
    rw [b1, bnd_some]
    try simp only [nilK_ptr, rFieldAddr_ptr, bnd_some]
    rw [b3, bnd_some, aBin_eql, bnd_some]
    by_cases h2 : kOf ns y = 1
    · rw [decide_eq_true h2]
      exact k1 (.inr h2)
    rw [decide_eq_false h2, k_f58_1_eq, onBool_false]
    obtain ⟨m1, hh, hkept⟩ := heads_s hu hx.is.1 hy.is.1
    rw [hh, retK_ret, aUn_not, bnd_some]
    have hM1 : MS b m1 p o ns tr := ⟨⟨tv, hu.kept hkept, happ.kept hkept⟩, hM.pb, hM.ob, Nat.le_trans hM.bm hkept.next⟩
    have hfr1 : FrB b p o m m1 := ⟨hkept.next, fun j hj _ _ => hkept.obj j (Nat.lt_of_lt_of_le hj hM.bm)⟩
    cases hB : headsB ns x y with
    | false =>
      rw [Bool.not_false, onBool_true]
      refine ⟨false, m1, ns, tr, rfl, hM1, hfr1, hl, .refl _, rfl, Nat.le_refl _, rfl, id, ?_⟩
      rw [if_neg (by simp)]
      exact fun rest => .clash hx hy hxy h1 h2 hB
    | true =>
      rw [Bool.not_true, onBool_false, k_f58_0_eq]
      have hlen := (headsB_iff.1 hB).2.2
      obtain ⟨m2, g1, g2, g3⟩ := hM1.link hx.is.1 (by omega) (y := y)
      have hct := cnt_set (y := y) hx.is.1 hx.is.2
      have hl2 : Lk (setUp ns x (some y)) := link_lk hl hx.self hy.self hxy
      have loop : ∀ (k i : Nat) (m3 : Mem) (ns3 : List Nd) (tr3 : List Nat) (v78 : AV), (argsOf ns x).length - i = k → i ≤ (argsOf ns x).length → MS b m3 p o ns3 tr3 → Lk ns3 → Sd ns ns3 → cnt ns3 < n → cnt ns3 + tr3.length ≤ 1000000 → HSl v78 (nts (argsOf ns x)) →
          ∃ ok m' ns' tr', l_f58_1 (.ptr p 0 0) (.int .i64 y) (.bool rg) v78 (.int .i64 (argsOf ns x).length) (.int .i64 i) m3 = some (.ret (.bool ok), m') ∧ MR b p o rg m3 ns3 tr3 (((argsOf ns x).drop i).zip ((argsOf ns y).drop i)) ok m' ns' tr' := by
        intro k
        induction k with
        | zero =>
          intro i m3 ns3 tr3 v78 hk hi hM3 hl3 hsd3 hc3 ht3 hv
          have hi2 : i = (argsOf ns x).length := by omega
          subst hi2
          rw [l_f58_1_eq]
          simp only [aBin_lss, bnd_some, Int.lt_irrefl, decide_false, onBool_false, k_f58_2_eq]
          refine ⟨true, m3, ns3, tr3, rfl, ?_⟩
          rw [List.drop_length, List.zip_nil_left]
          exact .nil hM3 hl3
        | succ k ihk =>
          intro i m3 ns3 tr3 v78 hk hi hM3 hl3 hsd3 hc3 ht3 hv
          have hlt : i < (argsOf ns x).length := by omega
          have hlty : i < (argsOf ns y).length := by omega
          obtain ⟨tv3, hu3, _⟩ := hM3.ex
          obtain ⟨nv3, q1, _, _, q4⟩ := hu3.load
          have hy3 : y < ns3.length := by rw [hsd3.len]; exact hy.is.1
          obtain ⟨oo3, ver3, cv, c1, c2, _, _, c5, _, _⟩ := q4.node hy3
          rw [← argsOf_get hy3, hsd3.args] at c2
          have hixx : rIxAddrSl 1 v78 (.int .i64 i) = some (.pim [.int .i64 ((argsOf ns x)[i] : Nat)]) := hv.ix (x := .int .i64 ((argsOf ns x)[i] : Nat)) (by simp [nts, hlt]) rfl rfl
          have hixy : rIxAddrSl 1 cv (.int .i64 i) = some (.pim [.int .i64 ((argsOf ns y)[i] : Nat)]) := c2.ix (x := .int .i64 ((argsOf ns y)[i] : Nat)) (by simp [nts, hlty]) rfl rfl
          obtain ⟨ok, m4, ns4, tr4, r1, r2⟩ := ih (cnt ns3) hc3 m3 ns3 tr3 (argsOf ns x)[i] (argsOf ns y)[i] rfl hM3 hl3 (hav.sd hsd3) (by rw [hsd3.len]; exact hav x _ (List.getElem_mem hlt)) (by rw [hsd3.len]; exact hav y _ (List.getElem_mem hlty)) ht3 (fun j => by rw [hsd3.args]; exact hal j)
          have hz : ((argsOf ns x).drop i).zip ((argsOf ns y).drop i) = [((argsOf ns x)[i], (argsOf ns y)[i])] ++ ((argsOf ns x).drop (i + 1)).zip ((argsOf ns y).drop (i + 1)) := by
            rw [List.drop_eq_getElem_cons hlt, List.drop_eq_getElem_cons hlty, List.zip_cons_cons]; rfl
          rw [l_f58_1_eq]
          simp only [aBin_lss, bnd_some]
          rw [decide_eq_true (by omega), onBool_true, k_f58_4_eq, hixx, bnd_some, rLoad_pimc, List.getElem?_cons_zero, bnd_some]
          simp only [nilK_ptr, rFieldAddr_ptr, bnd_some]
          rw [q1, bnd_some, c1, bnd_some]
          simp only [nilK_ptr, rFieldAddr_ptr, bnd_some]
          rw [c5, bnd_some, hixy, bnd_some, rLoad_pimc, List.getElem?_cons_zero, bnd_some, r1, retK_ret, aUn_not, bnd_some, hz]
          cases ok with
          | false =>
            rw [Bool.not_false, onBool_true]
            exact ⟨false, m4, ns4, tr4, rfl, r2.stop _⟩
          | true =>
            rw [Bool.not_true, onBool_false, k_f58_6_eq]
            simp only [aBin_add, bnd_some]
            have := hal x
            rw [wrap64 (by omega) (by omega)]
            obtain ⟨ok2, m5, ns5, tr5, s1, s2⟩ := ihk (i + 1) m4 ns4 tr4 v78 (by omega) (by omega) r2.ms r2.lk (hsd3.trans r2.sd) (by have := r2.le; omega) (by have := r2.ct; omega) hv
            exact ⟨ok2, m5, ns5, tr5, s1, r2.seq s2⟩
      obtain ⟨tv2, hu2, _⟩ := g2.ex
      obtain ⟨nv2, q1, _, _, q4⟩ := hu2.load
      have hx2 : x < (setUp ns x (some y)).length := by simpa using hx.is.1
      obtain ⟨oo2, ver2, dv, d1, d2, _, _, d5, _, _⟩ := q4.node hx2
      rw [← argsOf_get hx2, setUp_args] at d2
      obtain ⟨ok, m', ns', tr', s1, L⟩ := loop _ 0 m2 (setUp ns x (some y)) (tr ++ [x]) dv rfl (Nat.zero_le _) g2 hl2 (Sd.set ..) (by omega) (by simp; omega) d2
      rw [g1, retK_ret]
      simp only [nilK_ptr, rFieldAddr_ptr, bnd_some]
      rw [q1, bnd_some, d1, bnd_some]
      simp only [nilK_ptr, rFieldAddr_ptr, bnd_some]
      have hdl : (nts (argsOf ns x)).length = (argsOf ns x).length := by simp [nts]
      rw [d5, bnd_some, d2.len, bnd_some, hdl]
      refine ⟨ok, m', ns', tr', s1, L.ms, (hfr1.trans g3).trans L.fr, L.lk, (Sd.set ..).trans L.sd, ?_, ?_, L.cl.trans (clear_link hx.is.2), ?_, ?_⟩
      · have := L.ct; simp at this; omega
      · have := L.le; omega
      · intro ht0 z hz
        have := L.tl (fun w hw => by
          rcases List.mem_append.1 hw with hw | hw
          · simpa using ht0 w hw
          · rw [List.mem_singleton] at hw; subst hw; exact hx2) z hz
        simpa using this
      · have w := L.wk
        rw [List.drop_zero, List.drop_zero] at w
        cases ok with
        | true =>
          rw [if_pos rfl] at w ⊢
          exact fun rest ok' ns2 h => .args hx hy hxy h1 h2 hB (fun _ => .rfl) (w rest ok' ns2 h)
        | false =>
          rw [if_neg (by simp)] at w ⊢
          exact fun rest => .args hx hy hxy h1 h2 hB (fun _ => .rfl) (w rest)
end Go.AM
