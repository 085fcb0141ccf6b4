/-
  How the abstract machine's values and memory stand for the model's.
-/
import Derived.Test.YtpffgljpkehgmaaAMCore
set_option linter.unusedVariables false
set_option linter.unusedSimpArgs false
namespace Go.AM
open Go
inductive Role where
  | free
  | imm (cs : List Value)
  | lit (cs : List Value)
  | tk (t : Nat) (cs : List Value)
  | row (o lo hi n : Nat)
  | fix (o lo hi n : Nat) (cs : List Value)
  | mp (o : Nat)
def Role.known : Role → List Value
  | .imm cs => cs
  | .lit cs => cs
  | .tk _ cs => cs
  | .fix _ _ _ _ cs => cs
  | _ => []
def Role.isRow (r : Role) (o ver n : Nat) : Prop := (∃ lo hi, r = .row o lo hi n ∧ lo ≤ ver ∧ ver ≤ hi) ∨ ∃ lo hi cs, r = .fix o lo hi n cs ∧ lo ≤ ver ∧ ver ≤ hi
def Role.isLit : Role → Bool
  | .lit _ => true
  | _ => false
def Role.id : Role → Option Nat
  | .tk t _ => some t
  | .row o _ _ _ => some o
  | .fix o _ _ _ _ => some o
  | .mp o => some o
  | _ => none
def Role.owner : Role → Option Nat
  | .tk t _ => some t
  | .row o _ _ _ => some o
  | .mp o => some o
  | _ => none
inductive Role.le : Role → Role → Prop
  | refl (r : Role) : Role.le r r
  | free (r : Role) : Role.le .free r
  | tk (t : Nat) (cs ds : List Value) : Role.le (.tk t cs) (.tk t (cs ++ ds))
  | row (o lo hi hi' n : Nat) (h : hi ≤ hi') : Role.le (.row o lo hi n) (.row o lo hi' n)
  | fix (o lo hi hi' n : Nat) (cs : List Value) (h : hi ≤ hi') : Role.le (.row o lo hi n) (.fix o lo hi' n cs)
theorem Role.le.trans {a b c : Role} (h : Role.le a b) (k : Role.le b c) : Role.le a c := by
  cases h with
  | refl => exact k
  | free => exact .free _
  | tk t cs ds =>
    cases k with
    | refl => exact .tk _ _ _
    | tk _ _ es => rw [List.append_assoc]; exact .tk _ _ _
  | row o lo hi hi' n h =>
    cases k with
    | refl => exact .row _ _ _ _ _ h
    | row _ _ _ hi2 _ h2 => exact .row _ _ _ _ _ (Nat.le_trans h h2)
    | fix _ _ _ hi2 _ cs h2 => exact .fix _ _ _ _ _ _ (Nat.le_trans h h2)
  | fix o lo hi hi' n cs h => cases k with | refl => exact .fix _ _ _ _ _ _ h
structure Gh where
  role : Nat → Role
  tok : Nat → Option (Nat × Nat × Nat)
def Gh.le (Γ Γ' : Gh) : Prop :=
  (∀ b, Role.le (Γ.role b) (Γ'.role b)) ∧ ∀ t x, Γ.tok t = some x → ∃ y, Γ'.tok t = some y ∧ (y = x ∨ x.1 < y.1)
theorem Gh.le.refl (Γ : Gh) : Γ.le Γ := ⟨fun _ => .refl _, fun _ x h => ⟨x, h, .inl rfl⟩⟩
theorem Gh.le.trans {a b c : Gh} (h : a.le b) (k : b.le c) : a.le c := by
  refine ⟨fun x => (h.1 x).trans (k.1 x), fun t x hx => ?_⟩
  obtain ⟨y, hy, e⟩ := h.2 t x hx
  obtain ⟨z, hz, e'⟩ := k.2 t y hy
  refine ⟨z, hz, ?_⟩
  rcases e with rfl | e <;> rcases e' with rfl | e'
  · exact .inl rfl
  · exact .inr e'
  · exact .inr e
  · exact .inr (Nat.lt_trans e e')
def im (Γ : Gh) (b off : Nat) : Option Value := (Γ.role b).known[off]?
theorem im_mono {Γ Γ' : Gh} (h : Γ.le Γ') {b off : Nat} {v : Value} (hv : im Γ b off = some v) : im Γ' b off = some v := by
  unfold im at *
  have hb := h.1 b
  generalize Γ.role b = r at *
  generalize Γ'.role b = r' at *
  cases hb with
  | refl => exact hv
  | free => simp [Role.known] at hv
  | tk t cs ds =>
    simp only [Role.known] at *
    rw [List.getElem?_append_left]
    · exact hv
    · exact (List.getElem?_eq_some_iff.1 hv).1
  | row => simp [Role.known] at hv
  | fix => simp [Role.known] at hv
theorem isRow_mono {Γ Γ' : Gh} (h : Γ.le Γ') {b o ver n : Nat} (hr : (Γ.role b).isRow o ver n) : (Γ'.role b).isRow o ver n := by
  have hb := h.1 b
  rcases hr with ⟨lo, hi, hr, h1, h2⟩ | ⟨lo, hi, cs, hr, h1, h2⟩ <;> rw [hr] at hb
  · generalize Γ'.role b = r' at *
    cases hb with
    | refl => exact .inl ⟨lo, hi, rfl, h1, h2⟩
    | row _ _ _ hi' _ h3 => exact .inl ⟨lo, hi', rfl, h1, Nat.le_trans h2 h3⟩
    | fix _ _ _ hi' _ cs h3 => exact .inr ⟨lo, hi', cs, rfl, h1, Nat.le_trans h2 h3⟩
  · generalize Γ'.role b = r' at *
    cases hb with
    | refl => exact .inr ⟨lo, hi, cs, rfl, h1, h2⟩
theorem mp_mono {Γ Γ' : Gh} (h : Γ.le Γ') {b o : Nat} (hr : Γ.role b = .mp o) : Γ'.role b = .mp o := by
  have hb := h.1 b
  rw [hr] at hb
  generalize Γ'.role b = r' at *
  cases hb with
  | refl => rfl
/-- A value that one cell can hold. -/
def Cellish : Value → Prop
  | .agg _ => False
  | .tuple _ => False
  | _ => True
def TkOk (Γ : Gh) (tk : Tk) (len b off cap : Nat) : Prop :=
  match tk with
  | .full => cap = len
  | .lit => cap = len ∧ (Γ.role b).isLit = true
  | .own t => ∃ tip blk c, Γ.tok t = some (tip, blk, c) ∧ len ≤ tip ∧ (len = tip → b = blk ∧ off = 0 ∧ cap = c)
  | .foreign => True
theorem TkOk.mono {Γ Γ' : Gh} (h : Γ.le Γ') {tk : Tk} {len b off cap : Nat} (k : TkOk Γ tk len b off cap) : TkOk Γ' tk len b off cap := by
  cases tk with
  | full => exact k
  | lit =>
    refine ⟨k.1, ?_⟩
    have hb := h.1 b
    have hl := k.2
    generalize Γ.role b = r at *
    generalize Γ'.role b = r' at *
    cases hb with
    | refl => exact hl
    | _ => simp [Role.isLit] at hl
  | foreign => trivial
  | own t =>
    obtain ⟨tip, blk, c, ht, hl, he⟩ := k
    obtain ⟨⟨tip', blk', c'⟩, ht', e⟩ := h.2 t _ ht
    rcases e with e | e
    · cases e; exact ⟨tip, blk, c, ht', hl, he⟩
    · refine ⟨tip', blk', c', ht', by simp only [] at e; omega, fun h => ?_⟩
      simp only [] at e; omega
inductive VRel (Γ : Gh) : AV → Value → Prop
  | undef (v : Value) : VRel Γ .undef v
  | bool (b : Bool) : VRel Γ (.bool b) (.bool b)
  | int (k : IntKind) (n : Int) : VRel Γ (.int k n) (.int k n)
  | str (s : ByteArray) : VRel Γ (.str s) (.string s)
  | nilp : VRel Γ .nilp (.pointer none)
  | ptr {o ver n off b : Nat} (h : (Γ.role b).isRow o ver n) : VRel Γ (.ptr o ver off) (.pointer (some ⟨b, off, none⟩))
  | pim {cs : List AV} {b off : Nat} (fs : List Value) (hl : fs.length = cs.length) (him : ∀ (j : Nat) v, fs[j]? = some v → im Γ b (off + j) = some v)
      (hv : ∀ (j : Nat) a u, cs[j]? = some a → fs[j]? = some u → VRel Γ a u) (hc : ∀ v ∈ fs, Cellish v) : VRel Γ (.pim cs) (.pointer (some ⟨b, off, none⟩))
  | nils : VRel Γ .nils (.slice none 0 0)
  | sl {tk : Tk} {xs : List AV} {b off len cap : Nat} {sp : Option Nat} (gs : List Value) (sz : Nat) (hl : gs.length = xs.length) (hlen : len = xs.length) (hsz : ∀ u ∈ gs, u.cells.size = sz)
      (him : ∀ (j : Nat) v, (gs.flatMap fun u => u.cells.toList)[j]? = some v → im Γ b (off + j) = some v)
      (hv : ∀ (j : Nat) a u, xs[j]? = some a → gs[j]? = some u → VRel Γ a u) (hc : ∀ v ∈ (gs.flatMap fun u => u.cells.toList), Cellish v)
      (hcap : len ≤ cap) (htk : TkOk Γ tk len b off cap) (hsp : sp = none ∨ (xs = [] ∧ tk = .foreign)) : VRel Γ (.sl tk xs) (.slice (some ⟨b, off, sp⟩) len cap)
  | ms {o ver off len sz b aoff cap n : Nat} (h : (Γ.role b).isRow o ver n) (h1 : 0 < len → aoff = off) (h0 : off = 0 → aoff = 0 ∧ cap * sz = n) (hcap : len ≤ cap) :
      VRel Γ (.ms o ver off len sz) (.slice (some ⟨b, aoff, none⟩) len cap)
  | nilm : VRel Γ .nilm (.map none)
  | map {o b : Nat} (h : Γ.role b = .mp o) : VRel Γ (.map o) (.map (some b))
  | nilf : VRel Γ .nilf .nilFunc
  | fn {f : FuncId} {first cap : List AV} {fs cs : Array Value} (hf : fs.size = first.length) (hc : cs.size = cap.length)
      (h1 : ∀ (i : Nat) a v, first[i]? = some a → fs[i]? = some v → VRel Γ a v) (h2 : ∀ (i : Nat) a v, cap[i]? = some a → cs[i]? = some v → VRel Γ a v) :
      VRel Γ (.fn f first cap) (.func (.func f) fs cs)
  | nili : VRel Γ .nili .nilIface
  | iface {t : TypeId} {v : AV} {u : Value} (h : VRel Γ v u) : VRel Γ (.iface t v) (.iface t u)
  | agg {cs : List AV} {vs : Array Value} (hl : vs.size = cs.length) (h : ∀ (i : Nat) a v, cs[i]? = some a → vs[i]? = some v → VRel Γ a v)
      (hc : ∀ v ∈ vs.toList, Cellish v) : VRel Γ (.agg cs) (.agg vs)
  | tup {cs : List AV} {vs : Array Value} (hl : vs.size = cs.length) (h : ∀ (i : Nat) a v, cs[i]? = some a → vs[i]? = some v → VRel Γ a v) : VRel Γ (.tup cs) (.tuple vs)
theorem VRel.mono {Γ Γ' : Gh} (h : Γ.le Γ') {a : AV} {v : Value} (k : VRel Γ a v) : VRel Γ' a v := by
  induction k with
  | undef v => exact .undef v
  | bool b => exact .bool b
  | int k n => exact .int k n
  | str s => exact .str s
  | nilp => exact .nilp
  | ptr hr => exact .ptr (isRow_mono h hr)
  | pim fs hl him hv hc ih => exact .pim fs hl (fun j v hj => im_mono h (him j v hj)) ih hc
  | nils => exact .nils
  | sl gs sz hl hlen hsz him hv hc hcap htk hsp ih => exact .sl gs sz hl hlen hsz (fun j v hj => im_mono h (him j v hj)) ih hc hcap (htk.mono h) hsp
  | ms hr h1 h0 hcap => exact .ms (isRow_mono h hr) h1 h0 hcap
  | nilm => exact .nilm
  | map hr => exact .map (mp_mono h hr)
  | nilf => exact .nilf
  | fn hf hc _ _ i1 i2 => exact .fn hf hc i1 i2
  | nili => exact .nili
  | iface _ ih => exact .iface ih
  | agg hl _ hc ih => exact .agg hl ih hc
  | tup hl _ ih => exact .tup hl ih
/-- cells: pointwise, each such as one cell can hold -/
structure CRel (Γ : Gh) (as : List AV) (cs : List Value) : Prop where
  len : cs.length = as.length
  rel : ∀ (i : Nat) a u, as[i]? = some a → cs[i]? = some u → VRel Γ a u
  cell : ∀ v ∈ cs, Cellish v
theorem CRel.mono {Γ Γ' : Gh} (h : Γ.le Γ') {as : List AV} {cs : List Value} (k : CRel Γ as cs) : CRel Γ' as cs :=
  ⟨k.len, fun i a u ha hu => (k.rel i a u ha hu).mono h, k.cell⟩
theorem CRel.nil (Γ : Gh) : CRel Γ [] [] := ⟨rfl, fun i a u h => by simp at h, fun v h => by simp at h⟩
theorem CRel.one {Γ : Gh} {a : AV} {v : Value} (h : VRel Γ a v) (hc : Cellish v) : CRel Γ [a] [v] :=
  ⟨rfl, fun i x u hx hu => by cases i with | zero => simp at hx hu; subst hx; subst hu; exact h | succ i => simp at hx, fun u hu => by simp at hu; subst hu; exact hc⟩
theorem CRel.append {Γ : Gh} {as bs : List AV} {cs ds : List Value} (h : CRel Γ as cs) (k : CRel Γ bs ds) : CRel Γ (as ++ bs) (cs ++ ds) := by
  refine ⟨by simp [h.len, k.len], fun i a u ha hu => ?_, fun v hv => ?_⟩
  · rcases Nat.lt_or_ge i as.length with hi | hi
    · rw [List.getElem?_append_left hi] at ha
      rw [List.getElem?_append_left (by rw [h.len]; exact hi)] at hu
      exact h.rel i a u ha hu
    · rw [List.getElem?_append_right hi] at ha
      rw [List.getElem?_append_right (by rw [h.len]; exact hi), h.len] at hu
      exact k.rel _ a u ha hu
  · rcases List.mem_append.1 hv with hv | hv
    · exact h.cell v hv
    · exact k.cell v hv
theorem CRel.take {Γ : Gh} {as : List AV} {cs : List Value} (h : CRel Γ as cs) (n : Nat) : CRel Γ (as.take n) (cs.take n) := by
  refine ⟨by simp [h.len], fun i a u ha hu => ?_, fun v hv => h.cell v (List.mem_of_mem_take hv)⟩
  rw [List.getElem?_take] at ha hu
  split at ha
  · rename_i hi; rw [if_pos hi] at hu; exact h.rel i a u ha hu
  · cases ha
theorem CRel.drop {Γ : Gh} {as : List AV} {cs : List Value} (h : CRel Γ as cs) (n : Nat) : CRel Γ (as.drop n) (cs.drop n) := by
  refine ⟨by simp [h.len], fun i a u ha hu => ?_, fun v hv => h.cell v (List.mem_of_mem_drop hv)⟩
  rw [List.getElem?_drop] at ha hu
  exact h.rel _ a u ha hu
theorem CRel.get {Γ : Gh} {as : List AV} {cs : List Value} (h : CRel Γ as cs) {i : Nat} {a : AV} (ha : as[i]? = some a) : ∃ u, cs[i]? = some u ∧ VRel Γ a u ∧ Cellish u := by
  have hi : i < cs.length := by rw [h.len]; exact (List.getElem?_eq_some_iff.1 ha).1
  exact ⟨cs[i], List.getElem?_eq_getElem hi, h.rel i a _ ha (List.getElem?_eq_getElem hi), h.cell _ (List.getElem_mem hi)⟩
/-- what stands for cells that can be told has these cells -/
theorem cells_rel {Γ : Gh} {v : AV} {u : Value} (h : VRel Γ v u) {vs : List AV} (hv : v.cells? = some vs) : CRel Γ vs u.cells.toList := by
  cases h with
  | undef => simp [AV.cells?] at hv
  | tup => simp [AV.cells?] at hv
  | agg hl hr hc =>
    simp only [AV.cells?, Option.some.injEq] at hv
    subst hv
    exact ⟨by simpa [Value.cells] using hl, fun i a u ha hu => hr i a u ha (by simpa [Value.cells] using hu), by simpa [Value.cells] using hc⟩
  | bool b => simp only [AV.cells?, Option.some.injEq] at hv; subst hv; exact .one (.bool b) trivial
  | int k n => simp only [AV.cells?, Option.some.injEq] at hv; subst hv; exact .one (.int k n) trivial
  | str s => simp only [AV.cells?, Option.some.injEq] at hv; subst hv; exact .one (.str s) trivial
  | nilp => simp only [AV.cells?, Option.some.injEq] at hv; subst hv; exact .one .nilp trivial
  | ptr hr => simp only [AV.cells?, Option.some.injEq] at hv; subst hv; exact .one (.ptr hr) trivial
  | pim fs hl him hx hc => simp only [AV.cells?, Option.some.injEq] at hv; subst hv; exact .one (.pim fs hl him hx hc) trivial
  | nils => simp only [AV.cells?, Option.some.injEq] at hv; subst hv; exact .one .nils trivial
  | sl gs sz hl hlen hsz him hx hc hcap htk hsp => simp only [AV.cells?, Option.some.injEq] at hv; subst hv; exact .one (.sl gs sz hl hlen hsz him hx hc hcap htk hsp) trivial
  | ms hr h1 h0 hcap => simp only [AV.cells?, Option.some.injEq] at hv; subst hv; exact .one (.ms hr h1 h0 hcap) trivial
  | nilm => simp only [AV.cells?, Option.some.injEq] at hv; subst hv; exact .one .nilm trivial
  | map hr => simp only [AV.cells?, Option.some.injEq] at hv; subst hv; exact .one (.map hr) trivial
  | nilf => simp only [AV.cells?, Option.some.injEq] at hv; subst hv; exact .one .nilf trivial
  | fn hf hc h1 h2 => simp only [AV.cells?, Option.some.injEq] at hv; subst hv; exact .one (.fn hf hc h1 h2) trivial
  | nili => simp only [AV.cells?, Option.some.injEq] at hv; subst hv; exact .one .nili trivial
  | iface hx => simp only [AV.cells?, Option.some.injEq] at hv; subst hv; exact .one (.iface hx) trivial
def ORel (Γ : Gh) (w : World) (o : Nat) : AO → Prop
  | .row cs ver => ∃ b c e lo, Γ.role b = .row o lo ver c.size ∧ lo ≤ ver ∧ w.heap[b]? = some (.cells c e (0, 0)) ∧ cs.length ≤ c.size ∧ CRel Γ cs (c.toList.take cs.length) ∧
      ∀ b' v' n', (Γ.role b').isRow o v' n' → v' ≤ ver
  | .fixed cs ver => ∃ b n vs lo, Γ.role b = .fix o lo ver n vs ∧ lo ≤ ver ∧ CRel Γ cs vs
  | .tok tip sz => ∃ b cs c e cap, Γ.tok o = some (tip, b, cap) ∧ Γ.role b = .tk o cs ∧ w.heap[b]? = some (.cells c e (0, 0)) ∧ cs.length = tip * sz ∧ c.size = cap * sz ∧ tip ≤ cap ∧ 0 < sz
  | .map es => ∃ b entries clock, Γ.role b = .mp o ∧ w.heap[b]? = some (.map entries clock) ∧ entries.size = es.length ∧
      ∀ (i : Nat) k v x, es[i]? = some (k, v) → entries[i]? = some x → VRel Γ k x.key ∧ VRel Γ v x.val
structure Rel (Γ : Gh) (m : Mem) (w : World) : Prop where
  bound : ∀ b, Γ.role b ≠ .free → b < w.heap.size
  known : ∀ b, (Γ.role b).known ≠ [] → ∃ c e fz, w.heap[b]? = some (.cells c e fz) ∧ ∀ (i : Nat) v, (Γ.role b).known[i]? = some v → c[i]? = some v
  cells : ∀ b o v n, (Γ.role b).isRow o v n → ∃ c e, w.heap[b]? = some (.cells c e (0, 0)) ∧ c.size = n
  rows : ∀ b b' o v n n', (Γ.role b).isRow o v n → (Γ.role b').isRow o v n' → b = b'
  maps : ∀ b b' o, Γ.role b = .mp o → Γ.role b' = .mp o → b = b'
  objs : ∀ o x, m.obj o = some x → ORel Γ w o x
  above : ∀ o, m.next ≤ o → m.obj o = none
/-- what a step may turn in the world -/
structure Frame0 (Γ : Gh) (m : Mem) (w w' : World) : Prop where
  size : w.heap.size ≤ w'.heap.size
  os : w'.os = w.os
  tape : w'.tape = w.tape
  output : w'.output = w.output
  block : ∀ b, b < w.heap.size → (Γ.role b).isLit = false → (∀ o, (Γ.role b).owner = some o → m.obj o = none) → w'.heap[b]? = w.heap[b]?
/-- which numbers come to be -/
structure NewIds (Γ Γ' : Gh) (m m' : Mem) (w : World) : Prop where
  role : ∀ b o, (Γ'.role b).id = some o → (Γ.role b).id = some o ∨ (m.next ≤ o ∧ o < m'.next ∧ w.heap.size ≤ b ∧ m'.obj o ≠ none) ∨ (w.heap.size ≤ b ∧ m.obj o ≠ none)
  tok : ∀ t, Γ'.tok t ≠ none → Γ.tok t ≠ none ∨ (m.next ≤ t ∧ t < m'.next ∧ m'.obj t ≠ none)
  free : ∀ b, b < w.heap.size → Γ.role b = .free → Γ'.role b = .free
structure Post (Γ : Gh) (m : Mem) (w : World) (Γ' : Gh) (m' : Mem) (w' : World) : Prop where
  le : Γ.le Γ'
  rel : Rel Γ' m' w'
  frame : Frame0 Γ m w w'
  ids : NewIds Γ Γ' m m' w
  mem : m.le m'
  keep : ∀ b o, (Γ.role b).id = some o → m.obj o = none → Γ'.role b = Γ.role b
  keepTok : ∀ t, Γ.tok t ≠ none → m.obj t = none → Γ'.tok t = Γ.tok t
/-- no block bears one of these numbers -/
structure Fresh (Γ : Gh) (lo hi : Nat) : Prop where
  role : ∀ b o, (Γ.role b).id = some o → ¬ (lo ≤ o ∧ o < hi)
  tok : ∀ t, Γ.tok t ≠ none → ¬ (lo ≤ t ∧ t < hi)
theorem Post.refl {Γ : Gh} {m : Mem} {w : World} (h : Rel Γ m w) : Post Γ m w Γ m w :=
  ⟨.refl _, h, ⟨Nat.le_refl _, rfl, rfl, rfl, fun _ _ _ _ => rfl⟩, ⟨fun _ _ h => .inl h, fun _ h => .inl h, fun _ _ h => h⟩, .refl _, fun _ _ _ _ => rfl, fun _ _ _ => rfl⟩
theorem owner_id {r : Role} {o : Nat} (h : r.owner = some o) : r.id = some o := by cases r <;> simp_all [Role.owner, Role.id]
theorem le_id {r r' : Role} (h : Role.le r r') {o : Nat} (ho : r.id = some o) : r'.id = some o := by
  cases h <;> simp_all [Role.id]
theorem le_lit {r r' : Role} (h : Role.le r r') (hn : r.isLit = false) : r = .free ∨ r'.isLit = false := by
  cases h <;> simp_all [Role.isLit]
theorem id_lit {r : Role} {o : Nat} (h : r.id = some o) : r.isLit = false := by cases r <;> simp_all [Role.id, Role.isLit]
theorem le_owner {r r' : Role} (h : Role.le r r') {o : Nat} (ho : r'.owner = some o) : r = .free ∨ r.owner = some o := by
  cases h <;> simp_all [Role.owner]
theorem Fresh.later {Γ Γ' : Gh} {m m' : Mem} {w w' : World} {hi : Nat} (h : Fresh Γ m.next hi) (p : Post Γ m w Γ' m' w') (hr : Rel Γ m w) : Fresh Γ' m'.next hi := by
  constructor
  · intro b o ho hh
    rcases p.ids.role b o ho with h1 | h1 | h1
    · exact h.role b o h1 ⟨Nat.le_trans p.mem.next hh.1, hh.2⟩
    · omega
    · exact h1.2 (hr.above o (Nat.le_trans p.mem.next hh.1))
  · intro t ht hh
    rcases p.ids.tok t ht with h1 | h1
    · exact h.tok t h1 ⟨Nat.le_trans p.mem.next hh.1, hh.2⟩
    · omega
theorem Fresh.less {Γ : Gh} {lo hi hi' : Nat} (h : Fresh Γ lo hi) (k : hi' ≤ hi) : Fresh Γ lo hi' :=
  ⟨fun b o ho hh => h.role b o ho ⟨hh.1, by omega⟩, fun t ht hh => h.tok t ht ⟨hh.1, by omega⟩⟩
end Go.AM
