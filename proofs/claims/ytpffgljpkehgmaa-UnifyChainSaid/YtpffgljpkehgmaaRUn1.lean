/-
  The document's store over the machine: reading, new nodes.
-/
import Derived.Test.YtpffgljpkehgmaaUniM12
import Derived.Test.YtpffgljpkehgmaaLexR
set_option linter.unusedVariables false
set_option linter.unusedSimpArgs false
namespace Go.AM
open Go Go.Proofs Uni
set_option linter.unusedSimpArgs false
set_option linter.unusedVariables false
inductive RV (m : Mem) : Option Nat → AV → List Nd → Prop
  | nil : RV m none .nils []
  | row (o ver : Nat) (cs : List AV) (ns : List Nd) : o < m.next → m.obj o = some (.row cs ver) → NC ns cs → RV m (some o) (.ms o ver 0 ns.length 4) ns
/-- all but the row stays -/
structure RF (o : Option Nat) (m m' : Mem) : Prop where
  next : m.next ≤ m'.next
  obj : ∀ j, j < m.next → some j ≠ o → m'.obj j = m.obj j
theorem RF.trans {o : Option Nat} {m1 m2 m3 : Mem} (h : RF o m1 m2) (h' : RF o m2 m3) : RF o m1 m3 := ⟨Nat.le_trans h.next h'.next, fun j h1 h2 => (h'.obj j (Nat.lt_of_lt_of_le h1 h.next) h2).trans (h.obj j h1 h2)⟩
theorem Kept.rf {m m' : Mem} (h : Kept m m') (o : Option Nat) : RF o m m' := ⟨h.next, fun j h1 _ => h.obj j h1⟩
theorem RV.nv {m : Mem} {o : Option Nat} {nv : AV} {ns : List Nd} (h : RV m o nv ns) : ∃ p, NV m p o nv ns := by
  cases h with
  | nil => exact ⟨0, .nil⟩
  | row o ver cs ns h1 h2 h3 => exact ⟨o + 1, .row o ver cs ns h1 (by omega) h2 h3⟩
theorem RV.len {m : Mem} {o : Option Nat} {nv : AV} {ns : List Nd} (h : RV m o nv ns) : rLenSl nv = some (.int .i64 ns.length) := by
  obtain ⟨p, h⟩ := h.nv; exact h.len
theorem RV.cells {m : Mem} {o : Option Nat} {nv : AV} {ns : List Nd} (h : RV m o nv ns) : nv.cells? = some [nv] := by cases h <;> rfl
theorem RV.move {m m' : Mem} {o : Option Nat} {nv : AV} {ns : List Nd} (h : RV m o nv ns) (hn : m.next ≤ m'.next) (ho : ∀ j, o = some j → m'.obj j = m.obj j) : RV m' o nv ns := by
  cases h with
  | nil => exact .nil
  | row o ver cs ns h1 h2 h3 => exact .row o ver cs ns (Nat.lt_of_lt_of_le h1 hn) ((ho o rfl).trans h2) h3
theorem RV.oo {m : Mem} {o : Option Nat} {nv : AV} {ns : List Nd} (h : RV m o nv ns) : ∀ j, o = some j → j < m.next := by
  cases h with
  | nil => exact fun j e => nomatch e
  | row o ver cs ns h1 => exact fun j e => by cases e; exact h1
theorem RV.kept {m m' : Mem} {o : Option Nat} {nv : AV} {ns : List Nd} (h : RV m o nv ns) (k : Kept m m') : RV m' o nv ns := h.move k.next fun j e => k.obj j (h.oo j e)
theorem box1 (m : Mem) (v : AV) : aBox m (.agg [v]) = some (.ptr m.next 0 0, m.alloc (.row [v] 0)) := rfl
theorem row1 {m : Mem} {o : Nat} {v : AV} (h : m.obj o = some (.row [v] 0)) : rLoad true 1 m (.ptr o 0 0) = some (.agg [v]) ∧ rLoad false 1 m (.ptr o 0 (0 + 0)) = some v := by
  constructor <;> rw [rLoad_ptr, cells_of h] <;> rfl
theorem put1 {m : Mem} {o : Nat} {v w : AV} (h : m.obj o = some (.row [v] 0)) : rStore 1 m (.ptr o 0 0) (.agg [w]) = some (m.set o (.row [w] 0)) := rStore_ptr h rfl rfl rfl
theorem put1f {m : Mem} {o : Nat} {v w : AV} (h : m.obj o = some (.row [v] 0)) (hw : w.cells? = some [w]) : rStore 1 m (.ptr o 0 (0 + 0)) w = some (m.set o (.row [w] 0)) := rStore_ptr h hw rfl rfl
theorem rsis_s {m : Mem} {o : Option Nat} {nv : AV} {ns : List Nd} (h : RV m o nv ns) (x : Int) : ∃ m', w_f52 (.agg [nv]) (.int .i64 x) m = some (.ret (.bool (inB ns.length x)), m') ∧ Kept m m' := by
  have hk : Kept m (m.alloc (.row [nv] 0)) := Kept.alloc m _
  have ho : (m.alloc (.row [nv] 0)).obj m.next = some (.row [nv] 0) := by simp
  refine ⟨_, ?_, hk⟩
  rw [e_f52, box1, memK_some, aBin_geq, bnd_some]
  unfold inB
  by_cases h0 : 0 ≤ x
  · rw [decide_eq_true h0, onWant_true]
    simp only [rFieldAddr_ptr, bnd_some, (row1 ho).2, h.len, aBin_lss]
    by_cases h1 : x < ns.length
    · rw [decide_eq_true h1, decide_eq_true ⟨h0, h1⟩]
    · rw [decide_eq_false h1, decide_eq_false fun h => h1 h.2]
  · rw [decide_eq_false h0, onWant_false, decide_eq_false fun h => h0 h.1]
theorem rfind_s {m : Mem} {o : Option Nat} {nv : AV} {ns : List Nd} (h : RV m o nv ns) {i r : Nat} (hr : Rt ns i r) : ∃ m', w_f83 (.agg [nv]) (.int .i64 i) m = some (.ret (.int .i64 r), m') ∧ Kept m m' := by
  have hk : Kept m (m.alloc (.row [nv] 0)) := Kept.alloc m _
  have ho : (m.alloc (.row [nv] 0)).obj m.next = some (.row [nv] 0) := by simp
  refine ⟨_, ?_, hk⟩
  rw [e_f83, box1, memK_some]
  have h := h.kept hk
  generalize m.alloc (.row [nv] 0) = m1 at h ho
  generalize m.next = b at ho
  obtain ⟨p, l4⟩ := h.nv
  have l1 := (row1 ho).2
  induction hr with
  | @root i h1 h2 =>
    obtain ⟨oo, ver, av, a1, a2, a3, a4, a5, a6, a7⟩ := l4.node h1
    have hu : upI ns[i].up = -1 := by
      unfold upOf at h2; rw [List.getElem?_eq_getElem h1] at h2; simp at h2; rw [h2]; rfl
    rw [l_f83_0_eq]
    simp only [rFieldAddr_ptr, bnd_some, l1, a1, a6, hu, aBin_geq]
    rw [decide_eq_false (by simp), onBool_false, k_f83_0_eq]
  | @step i j r e hr ih =>
    have hi : i < ns.length := (Rt.step e hr).lt
    obtain ⟨oo, ver, av, a1, a2, a3, a4, a5, a6, a7⟩ := l4.node hi
    have hu : upI ns[i].up = j := by
      unfold upOf at e; rw [List.getElem?_eq_getElem hi] at e; simp at e; rw [e]; rfl
    rw [l_f83_0_eq]
    simp only [rFieldAddr_ptr, bnd_some, l1, a1, a6, hu, aBin_geq]
    rw [decide_eq_true (by omega), onBool_true, k_f83_1_eq]
    simp only [rFieldAddr_ptr, bnd_some, l1, a1, a6, hu]
    exact ih
theorem copyInts_s {v : AV} {l : List Int} (h : HSl v (its l)) (hl : l.length ≤ 1000000000) (m : Mem) : ∃ v' m', w_f24 v m = some (.ret v', m') ∧ App m.next 1 m' v' (its l) ∧ Kept m m' := by
  obtain ⟨v', m', h1, h2, h3, _⟩ := App.append (A := A_int) (b := m.next) (m := m) (v := .sl .full []) (xs := []) (ys := its l) (.full [] rfl) (Nat.le_refl _) h (its_sized l) ⟨by decide, rfl⟩ (by simp only [List.length_map, List.length_nil, A_int]; omega) (by simp; omega)
  have e : rBuildSlice A_int 0 [] = some (.sl .full []) := rfl
  exact ⟨v', m', by rw [e_f24, e, bnd_some, h1, memK_some], h2, h3⟩
theorem RV.push {m : Mem} {o : Option Nat} {nv : AV} {ns : List Nd} (h : RV m o nv ns) (hl : ns.length ≤ 1000000) {k : Int} {nm : List UInt8} {args : List Nat} {av : AV} (ha : HSl av (nts args)) :
    ∃ o' v' m', rAppend A_r13_Node 1 m nv (.sl .full [.agg [.int .i64 k, .str (bs nm), av, .int .i64 (-1)]]) = some (v', m') ∧ RV m' (some o') v' (addN ns k nm args) ∧ RF o m m' ∧ (o = none → m.next ≤ o') ∧ (∀ j, o = some j → o' = j) := by
  cases h with
  | nil =>
    have e : rAppend A_r13_Node 1 m .nils (.sl .full [.agg [.int .i64 k, .str (bs nm), av, .int .i64 (-1)]]) = some (.ms m.next 0 0 1 4, m.alloc (.row [.int .i64 k, .str (bs nm), av, .int .i64 (-1)] 0)) := rfl
    refine ⟨m.next, _, _, e, ?_, ?_, fun _ => Nat.le_refl _, fun j h => by cases h⟩
    · exact RV.row (m := m.alloc _) m.next 0 [.int .i64 k, .str (bs nm), av, .int .i64 (-1)] (addN [] k nm args) (by simp) (by simp) (NC.cons (n := ⟨k, nm, args, none⟩) ha .nil)
    · exact ⟨by simp, fun j h1 _ => by rw [alloc_obj, if_neg (by omega)]⟩
  | row oo ver cs ns h1 h3 h4 =>
    have hlen := h4.len
    have e : rAppend A_r13_Node 1 m (.ms oo ver 0 ns.length 4) (.sl .full [.agg [.int .i64 k, .str (bs nm), av, .int .i64 (-1)]]) = some (.ms oo (ver + 1) 0 (ns.length + 1) 4, m.set oo (.row (cs ++ [.int .i64 k, .str (bs nm), av, .int .i64 (-1)]) (ver + 1))) := by
      have e1 : rAppend A_r13_Node 1 m (.ms oo ver 0 ns.length 4) (.sl .full [.agg [.int .i64 k, .str (bs nm), av, .int .i64 (-1)]]) = aAppend2 1 m A_r13_Node (.ms oo ver 0 ns.length 4) [.agg [.int .i64 k, .str (bs nm), av, .int .i64 (-1)]] := rfl
      have e2 : A_r13_Node.size = 4 := rfl
      have e3 : A_r13_Node.bytes = 56 := rfl
      have e4 : flat? [AV.agg [.int .i64 k, .str (bs nm), av, .int .i64 (-1)]] = some [.int .i64 k, .str (bs nm), av, .int .i64 (-1)] := rfl
      rw [e1]
      simp only [aAppend2, e2, e3, List.length_cons, List.length_nil, h3]
      rw [if_neg (by omega), if_neg (by simp), if_neg (by simp), if_neg (by simp [hlen]), e4, Option.bind_some, if_neg (by omega), ← hlen, List.take_length]
    have hlen2 : ns.length + 1 = (addN ns k nm args).length := by simp
    rw [e]
    refine ⟨oo, _, _, rfl, ?_, ?_, (fun h => nomatch h), (fun j h => Option.some.inj h)⟩
    · rw [hlen2]
      exact .row oo (ver + 1) _ _ (by simpa using h1) (by rw [set_obj, if_pos rfl]; rfl) (h4.append (NC.cons (n := ⟨k, nm, args, none⟩) ha .nil))
    · exact ⟨by simp, fun j g1 g3 => by rw [set_obj, if_neg (by rintro rfl; exact g3 rfl)]⟩
theorem row4f {m : Mem} {o : Nat} {x y z w : AV} (h : m.obj o = some (.row [x, y, z, w] 0)) : (∀ v : AV, v.cells? = some [v] → rStore 1 m (.ptr o 0 (0 + 3)) v = some (m.set o (.row [x, y, z, v] 0))) ∧ ∀ v : AV, v.cells? = some [v] → rStore 1 m (.ptr o 0 (0 + 2)) v = some (m.set o (.row [x, y, v, w] 0)) :=
  ⟨fun v hv => rStore_ptr h hv rfl rfl, fun v hv => rStore_ptr h hv rfl rfl⟩
theorem radd_s {m : Mem} {o : Option Nat} {nv : AV} {ns : List Nd} (h : RV m o nv ns) (hl : ns.length ≤ 1000000) {v : AV} {args : List Nat} (hv : HSl v (nts args)) (hal : args.length ≤ 1000000) (k : Int) (nm : List UInt8) (u : AV) :
    ∃ nv' o' m', w_f78 (.agg [nv]) (.agg [.int .i64 k, .str (bs nm), v, u]) m = some (.ret (.tup [.agg [nv'], .int .i64 ns.length]), m') ∧ RV m' (some o') nv' (addN ns k nm args) ∧ RF o m m' ∧ (o = none → m.next ≤ o') ∧ (∀ j, o = some j → o' = j) := by
  have e3 : aBox (m.alloc (.row [nv] 0)) (.agg [.int .i64 k, .str (bs nm), v, u]) = some (.ptr (m.next + 1) 0 0, (m.alloc (.row [nv] 0)).alloc (.row [.int .i64 k, .str (bs nm), v, u] 0)) := rfl
  generalize hm3 : ((m.alloc (.row [nv] 0)).alloc (.row [.int .i64 k, .str (bs nm), v, u] 0)).alloc (.row [.nils] 0) = m3
  have e4 : aBox ((m.alloc (.row [nv] 0)).alloc (.row [.int .i64 k, .str (bs nm), v, u] 0)) (.agg [.nils]) = some (.ptr (m.next + 2) 0 0, m3) := by rw [← hm3]; rfl
  have n3 : m3.next = m.next + 3 := by rw [← hm3]; simp
  have o2 : m3.obj m.next = some (.row [nv] 0) := by rw [← hm3]; simp only [alloc_obj, alloc_next]; rw [if_neg (by omega), if_neg (by omega), if_pos trivial]
  have o3 : m3.obj (m.next + 1) = some (.row [.int .i64 k, .str (bs nm), v, u] 0) := by rw [← hm3]; simp
  have o4 : m3.obj (m.next + 2) = some (.row [.nils] 0) := by rw [← hm3]; simp
  have k3 : ∀ j, j < m.next → m3.obj j = m.obj j := fun j hj => by rw [← hm3]; simp only [alloc_obj, alloc_next]; rw [if_neg (by omega), if_neg (by omega), if_neg (by omega)]
  have s4 := (row4f o3).1 (.int .i64 (-1)) rfl
  generalize hm4 : m3.set (m.next + 1) (.row [.int .i64 k, .str (bs nm), v, .int .i64 (-1)] 0) = m4 at s4
  have n4 : m4.next = m.next + 3 := by rw [← hm4]; exact n3
  have o34 : m4.obj (m.next + 1) = some (.row [.int .i64 k, .str (bs nm), v, .int .i64 (-1)] 0) := by rw [← hm4]; simp
  have k4 : ∀ j, j ≠ m.next + 1 → m4.obj j = m3.obj j := fun j hj => by rw [← hm4, set_obj, if_neg hj]
  obtain ⟨v', m5, c1, c2, c3⟩ := copyInts_s (l := args.map fun n : Nat => (n : Int)) hv (by simp; omega) m4
  have hv' := c2.hsl
  have o35 := (c3.obj _ (by omega)).trans o34
  have s6 := (row4f o35).2 v' hv'.cells
  generalize hm6 : m5.set (m.next + 1) (.row [.int .i64 k, .str (bs nm), v', .int .i64 (-1)] 0) = m6 at s6
  have n5 := c3.next
  have n6 : m6.next = m5.next := by rw [← hm6]; rfl
  have k6 : ∀ j, j < m.next + 3 → j ≠ m.next + 1 → m6.obj j = m3.obj j := fun j h1 h2 => by rw [← hm6, set_obj, if_neg h2, c3.obj j (by omega), k4 j h2]
  have o36 : m6.obj (m.next + 1) = some (.row [.int .i64 k, .str (bs nm), v', .int .i64 (-1)] 0) := by rw [← hm6]; simp
  have o26 := (k6 m.next (by omega) (by omega)).trans o2
  have hR6 : RV m6 o nv ns := h.move (by omega) fun j e => by have := h.oo j e; rw [k6 j (by omega) (by omega), k3 j this]
  have hoo := h.oo
  obtain ⟨o', v7, m7, p1, p2, p3, p4, p5⟩ := hR6.push hl hv' (k := k) (nm := nm)
  have n7 := p3.next
  have o27 := (p3.obj m.next (by omega) (fun e => by have := hoo m.next e.symm; omega)).trans o26
  have o47 := (p3.obj (m.next + 2) (by omega) (fun e => by have := hoo _ e.symm; omega)).trans ((k6 _ (by omega) (by omega)).trans o4)
  have s8 := put1f o27 p2.cells
  generalize hm8 : m7.set m.next (.row [v7] 0) = m8 at s8
  have o28 : m8.obj m.next = some (.row [v7] 0) := by rw [← hm8]; simp
  have o48 : m8.obj (m.next + 2) = some (.row [.nils] 0) := by rw [← hm8, set_obj, if_neg (by omega)]; exact o47
  have s9 := put1 (w := v7) o48
  generalize hm9 : m8.set (m.next + 2) (.row [v7] 0) = m9 at s9
  have o29 : m9.obj m.next = some (.row [v7] 0) := by rw [← hm9, set_obj, if_neg (by omega)]; exact o28
  have o49 : m9.obj (m.next + 2) = some (.row [v7] 0) := by rw [← hm9]; simp
  have n9 : m9.next = m7.next := by rw [← hm9, ← hm8]; rfl
  have ho'lt : o' ≠ m.next ∧ o' ≠ m.next + 2 := by
    cases o with
    | none => have := p4 rfl; omega
    | some j => have := p5 j rfl; have := hoo j rfl; omega
  have es : rBuildSlice A_r13_Node 1 [(0, .agg [.int .i64 k, .str (bs nm), v', .int .i64 (-1)])] = some (.sl .full [.agg [.int .i64 k, .str (bs nm), v', .int .i64 (-1)]]) := rfl
  refine ⟨v7, o', m9, ?_, p2.move (by omega) (fun j e => by cases e; rw [← hm9, ← hm8, set_obj, if_neg ho'lt.2, set_obj, if_neg ho'lt.1]), ⟨by omega, fun j j1 j2 => ?_⟩, fun e => by have := p4 e; omega, p5⟩
  · rw [e_f78, box1, memK_some, e3, memK_some, e4, memK_some]
    simp only [rFieldAddr_ptr, bnd_some]
    rw [s4, bnd_some, (row4 o34).2.2.1, bnd_some, c1, retK_ret]
    try simp only [rFieldAddr_ptr, bnd_some]
    rw [s6, bnd_some]
    try simp only [rFieldAddr_ptr, bnd_some]
    rw [(row1 o26).2, bnd_some, (row4 o36).2.2.2.2, bnd_some, es, bnd_some, p1, memK_some]
    try simp only [rFieldAddr_ptr, bnd_some]
    rw [s8, bnd_some, (row1 o28).1, bnd_some]
    try simp only [rFieldAddr_ptr, bnd_some]
    rw [(row1 o28).2, bnd_some, p2.len, bnd_some, aBin_sub, bnd_some, addN_len, wrap64 (by omega) (by omega), s9, bnd_some, (row1 o29).2, bnd_some, sameK_self, (row1 o49).1, bnd_some]
    simp
  · rw [← hm9, ← hm8, set_obj, if_neg (by omega), set_obj, if_neg (by omega), p3.obj j (by omega) j2, k6 j (by omega) (by omega), k3 j j1]
theorem rvar_s {m : Mem} {o : Option Nat} {nv : AV} {ns : List Nd} (h : RV m o nv ns) (hl : ns.length ≤ 1000000) :
    ∃ nv' o' m', w_f47 (.agg [nv]) m = some (.ret (.tup [.agg [nv'], .int .i64 ns.length]), m') ∧ RV m' (some o') nv' (addN ns 1 [] []) ∧ RF o m m' ∧ (o = none → m.next ≤ o') ∧ (∀ j, o = some j → o' = j) := by
  have e3 : aBox (m.alloc (.row [nv] 0)) (.agg [.nils]) = some (.ptr (m.next + 1) 0 0, (m.alloc (.row [nv] 0)).alloc (.row [.nils] 0)) := rfl
  generalize hm2 : (m.alloc (.row [nv] 0)).alloc (.row [.nils] 0) = m2 at e3
  have n2 : m2.next = m.next + 2 := by rw [← hm2]; simp
  have o1 : m2.obj m.next = some (.row [nv] 0) := by rw [← hm2]; simp
  have o2 : m2.obj (m.next + 1) = some (.row [.nils] 0) := by rw [← hm2]; simp
  have k2 : Kept m m2 := by rw [← hm2]; exact (Kept.alloc m _).trans (Kept.alloc _ _)
  have hoo := h.oo
  obtain ⟨nv', o', m3, a1, a2, a3, a4, a5⟩ := radd_s (h.kept k2) hl (v := .nils) (args := []) .nil (by simp) 1 [] (.int .i64 0)
  have o23 := (a3.obj (m.next + 1) (by omega) (fun e => by have := hoo _ e.symm; omega)).trans o2
  have ho'lt : o' ≠ m.next + 1 := by
    cases o with
    | none => have := a4 rfl; omega
    | some j => have := a5 j rfl; have := hoo j rfl; omega
  have s4 := put1 (w := nv') o23
  have n3 := a3.next
  have eb : rBuild [.int .i64 0, .str (bs []), .nils, .int .i64 0] [(0, 1, .int .i64 1)] = some (.agg [.int .i64 1, .str (bs []), .nils, .int .i64 0]) := rfl
  have o44 : (m3.set (m.next + 1) (.row [nv'] 0)).obj (m.next + 1) = some (.row [nv'] 0) := by simp
  refine ⟨nv', o', m3.set (m.next + 1) (.row [nv'] 0), ?_, a2.move (by simp) (fun j e => by cases e; rw [set_obj, if_neg ho'lt]), ⟨by simp; omega, fun j j1 j2 => by rw [set_obj, if_neg (by omega), a3.obj j (by omega) j2, k2.obj j j1]⟩, fun e => by have := a4 e; omega, a5⟩
  rw [e_f47, box1, memK_some, e3, memK_some, (row1 o1).1, bnd_some, eb, bnd_some, a1, retK_ret]
  simp only [aExtract_tup, List.getElem?_cons_zero, List.getElem?_cons_succ, bnd_some]
  rw [s4, bnd_some, (row1 o44).1, bnd_some]
/-- what the document's Make comes to -/
def RkP (ns : List Nd) (m : Mem) (o : Option Nat) (nv : AV) (m' : Mem) (k : Int) (nm : List UInt8) (l : List Int) (bad : Bool) (n e : Int) (nv' : AV) (o' : Option Nat) (ns' : List Nd) : Prop :=
  RV m' o' nv' ns' ∧ RF o m m' ∧ (∀ j, o = some j → o' = some j) ∧ (o = none → ∀ j, o' = some j → m.next ≤ j) ∧
  ((l.all (inB ns.length) = false ∧ n = 0 ∧ e = 221 ∧ ns' = ns) ∨ (l.all (inB ns.length) = true ∧ bad = true ∧ n = 0 ∧ e = 120 ∧ ns' = ns) ∨
   (bad = false ∧ ∃ xs : List Nat, l = xs.map (fun x : Nat => (x : Int)) ∧ (∀ x ∈ xs, x < ns.length) ∧ n = ns.length ∧ e = 0 ∧ ns' = addN ns k nm xs ∧ ∃ j, o' = some j))
theorem rmake_loop {o : Option Nat} {nv : AV} {ns : List Nd} {b4 b8 : Nat} {v : AV} {l : List Int} (hv : HSl v (its l)) (hl : l.length ≤ 1000000) (k : Int) (nm : List UInt8) : ∀ (j i : Nat) (m : Mem), l.length - i = j → i ≤ l.length → RV m o nv ns → m.obj b4 = some (.row [nv] 0) → b4 < m.next → b8 < m.next → m.obj b8 = some (.row [.nils] 0) →
    ∃ m', Kept m m' ∧ ((l.drop i).all (inB ns.length) = true ∧ l_f48_0 (.int .i64 k) (.str (bs nm)) v (.ptr b4 0 0) (.ptr b8 0 0) (.int .i64 i) m = k_f48_0 (.int .i64 k) (.str (bs nm)) v (.ptr b4 0 0) (.ptr b8 0 0) (.int .i64 l.length) m' ∨
      (l.drop i).all (inB ns.length) = false ∧ l_f48_0 (.int .i64 k) (.str (bs nm)) v (.ptr b4 0 0) (.ptr b8 0 0) (.int .i64 i) m = some (.ret (.tup [.agg [nv], .int .i64 0, .int .i64 221]), m'.set b8 (.row [nv] 0))) := by
  intro j
  induction j with
  | zero =>
    intro i m hj hi hR h4 h4l h8l h8
    have : i = l.length := by omega
    subst this
    refine ⟨m, .refl .., .inl ⟨by rw [List.drop_length]; rfl, ?_⟩⟩
    rw [l_f48_0_eq, hv.len, bnd_some, List.length_map]
    simp only [aBin_lss, bnd_some, Int.lt_irrefl, decide_false, onBool_false]
  | succ j ihj =>
    intro i m hj hi hR h4 h4l h8l h8
    have hlt : i < l.length := by omega
    have hd : l.drop i = l[i] :: l.drop (i + 1) := List.drop_eq_getElem_cons hlt
    have hix : rIxAddrSl 1 v (.int .i64 i) = some (.pim [.int .i64 l[i]]) := hv.ix (x := .int .i64 l[i]) (by simp [hlt]) rfl rfl
    obtain ⟨m1, a1, a2⟩ := rsis_s hR l[i]
    rw [l_f48_0_eq, hv.len, bnd_some, List.length_map]
    simp only [aBin_lss, bnd_some]
    rw [decide_eq_true (by omega), onBool_true, k_f48_3_eq, (row1 h4).1, bnd_some, hix, bnd_some, rLoad_pimc, List.getElem?_cons_zero, bnd_some, a1, retK_ret, aUn_not, bnd_some, hd]
    have h41 := (a2.obj b4 h4l).trans h4
    have h81 := (a2.obj b8 h8l).trans h8
    cases hI : inB ns.length l[i] with
    | false =>
      rw [Bool.not_false, onBool_true, (row1 h41).1, bnd_some, put1 h81, bnd_some]
      refine ⟨m1, a2, .inr ⟨by rw [List.all_cons, hI]; rfl, ?_⟩⟩
      rw [(row1 (v := nv) (by simp)).1, bnd_some]
    | true =>
      rw [Bool.not_true, onBool_false, k_f48_4_eq]
      simp only [aBin_add, bnd_some]
      rw [wrap64 (by omega) (by omega)]
      obtain ⟨m2, c1, c2⟩ := ihj (i + 1) m1 (by omega) (by omega) (hR.kept a2) h41 (by have := a2.next; omega) (by have := a2.next; omega) h81
      refine ⟨m2, a2.trans c1, ?_⟩
      rw [List.all_cons, hI, Bool.true_and]
      exact c2
theorem rmake_s {m : Mem} {o : Option Nat} {nv : AV} {ns : List Nd} (h : RV m o nv ns) (hn : ns.length ≤ 1000000) (k : Int) (nm : List UInt8) (hnm : nm.length ≤ 1000000000) {v : AV} {l : List Int} (hv : HSl v (its l)) (hl : l.length ≤ 1000000) :
    ∃ n e m' nv' o' ns', w_f48 (.agg [nv]) (.int .i64 k) (.str (bs nm)) v m = some (.ret (.tup [.agg [nv'], .int .i64 n, .int .i64 e]), m') ∧ RkP ns m o nv m' k nm l ((decide (k = 2) && decide (Lx.kindS nm ≠ 1)) || (decide (k = 3) && decide (l.length < 2))) n e nv' o' ns' := by
  have e3 : aBox (m.alloc (.row [nv] 0)) (.agg [.nils]) = some (.ptr (m.next + 1) 0 0, (m.alloc (.row [nv] 0)).alloc (.row [.nils] 0)) := rfl
  generalize hm2 : (m.alloc (.row [nv] 0)).alloc (.row [.nils] 0) = m2 at e3
  have n2 : m2.next = m.next + 2 := by rw [← hm2]; simp
  have o1 : m2.obj m.next = some (.row [nv] 0) := by rw [← hm2]; simp
  have o2 : m2.obj (m.next + 1) = some (.row [.nils] 0) := by rw [← hm2]; simp
  have k2 : Kept m m2 := by rw [← hm2]; exact (Kept.alloc m _).trans (Kept.alloc _ _)
  have hoo := h.oo
  have hR2 := h.kept k2
  obtain ⟨m3, a1, a2⟩ := rmake_loop (b4 := m.next) (b8 := m.next + 1) hv hl k nm _ 0 m2 rfl (Nat.zero_le _) hR2 o1 (by omega) (by omega) o2
  rw [e_f48, box1, memK_some, e3, memK_some]
  have hk3 := k2.trans a1
  have n3 := a1.next
  rw [List.drop_zero] at a2
  have stay : ∀ (m4 : Mem), Kept m3 m4 → Kept m (m4.set (m.next + 1) (.row [nv] 0)) := fun m4 h4 => by
    have := h4.next
    exact ⟨by simp; omega, fun j hj => by rw [set_obj, if_neg (by omega), h4.obj j (by omega), hk3.obj j hj]⟩
  rcases a2 with ⟨hI, a2⟩ | ⟨hI, a2⟩
  · have a2' : l_f48_0 (.int .i64 k) (.str (bs nm)) v (.ptr m.next 0 0) (.ptr (m.next + 1) 0 0) (.int .i64 0) m2 = _ := a2
    rw [a2', k_f48_0_eq, aBin_eql, bnd_some]
    -- the ends
    have bad : ∀ m4, Kept m3 m4 → ∃ m' nv' o' ns', k_f48_2 (.int .i64 k) (.str (bs nm)) v (.ptr m.next 0 0) (.ptr (m.next + 1) 0 0) (.bool true) m4 = some (.ret (.tup [.agg [nv'], .int .i64 0, .int .i64 120]), m') ∧ RkP ns m o nv m' k nm l true 0 120 nv' o' ns' := by
      intro m4 h4
      have o14 := (h4.obj m.next (by omega)).trans ((a1.obj m.next (by omega)).trans o1)
      have o24 := (h4.obj (m.next + 1) (by omega)).trans ((a1.obj (m.next + 1) (by omega)).trans o2)
      refine ⟨m4.set (m.next + 1) (.row [nv] 0), nv, o, ns, ?_, h.kept (stay m4 h4), (stay m4 h4).rf o, fun j e => e, fun e j e' => (by rw [e] at e'; cases e'), .inr (.inl ⟨hI, rfl, rfl, rfl, rfl⟩)⟩
      rw [k_f48_2_eq, onBool_true, (row1 o14).1, bnd_some, put1 o24, bnd_some, (row1 (v := nv) (by simp)).1, bnd_some]
    have good : ∀ m4, Kept m3 m4 → ∃ m' nv' o' ns', k_f48_2 (.int .i64 k) (.str (bs nm)) v (.ptr m.next 0 0) (.ptr (m.next + 1) 0 0) (.bool false) m4 = some (.ret (.tup [.agg [nv'], .int .i64 ns.length, .int .i64 0]), m') ∧ RkP ns m o nv m' k nm l false ns.length 0 nv' o' ns' := by
      intro m4 h4
      have o14 := (h4.obj m.next (by omega)).trans ((a1.obj m.next (by omega)).trans o1)
      have o24 := (h4.obj (m.next + 1) (by omega)).trans ((a1.obj (m.next + 1) (by omega)).trans o2)
      have hkm4 := hk3.trans h4
      have n4 := h4.next
      obtain ⟨xs, e1, e2, e3⟩ := nts_of hI
      have hvx := hv
      rw [e1] at hvx
      have hlen : xs.length = l.length := by rw [e3]; simp
      obtain ⟨nv', o', m5, b1, b2, b3, b4, b5⟩ := radd_s (h.kept hkm4) hn hvx (by omega) k nm (.int .i64 0)
      have n5 := b3.next
      have eb : rBuild [.int .i64 0, .str (bs []), .nils, .int .i64 0] [(0, 1, .int .i64 k), (1, 1, .str (bs nm)), (2, 1, v)] = some (.agg [.int .i64 k, .str (bs nm), v, .int .i64 0]) := by
        have := hv.cells
        simp [this, putCells, splice]
      have o25 := (b3.obj (m.next + 1) (by omega) (fun e => by have := hoo _ e.symm; omega)).trans o24
      have ho'lt : o' ≠ m.next + 1 := by
        cases o with
        | none => have := b4 rfl; omega
        | some j => have := b5 j rfl; have := hoo j rfl; omega
      have eb5 : aBox m5 (.agg [.nils]) = some (.ptr m5.next 0 0, m5.alloc (.row [.nils] 0)) := rfl
      have o12 : (m5.alloc (.row [.nils] 0)).obj m5.next = some (.row [.nils] 0) := by simp
      have o12' : ((m5.alloc (.row [.nils] 0)).set m5.next (.row [nv'] 0)).obj m5.next = some (.row [nv'] 0) := by simp
      have o27 : ((m5.alloc (.row [.nils] 0)).set m5.next (.row [nv'] 0)).obj (m.next + 1) = some (.row [.nils] 0) := by
        rw [set_obj, if_neg (by omega), alloc_obj, if_neg (by omega)]; exact o25
      refine ⟨((m5.alloc (.row [.nils] 0)).set m5.next (.row [nv'] 0)).set (m.next + 1) (.row [nv'] 0), nv', some o', addN ns k nm xs, ?_, ?_, ?_, fun j e => by rw [b5 j e], fun e j e' => ?_, .inr (.inr ⟨rfl, xs, e3, e2, rfl, rfl, rfl, o', rfl⟩)⟩
      · rw [k_f48_2_eq, onBool_false, k_f48_1_eq, (row1 o14).1, bnd_some, eb, bnd_some, b1, retK_ret]
        simp only [aExtract_tup, List.getElem?_cons_zero, List.getElem?_cons_succ, bnd_some]
        rw [eb5, memK_some, put1 o12, bnd_some, (row1 o12').1, bnd_some, put1 o27, bnd_some, (row1 (v := nv') (by simp)).1, bnd_some]
      · have := b2.oo o' rfl
        refine b2.move (by simp) fun j e => ?_
        cases e
        rw [set_obj, if_neg ho'lt, set_obj, if_neg (by omega), alloc_obj, if_neg (by omega)]
      · exact ⟨by simp; omega, fun j j1 j2 => by
          rw [set_obj, if_neg (by omega), set_obj, if_neg (by omega), alloc_obj, if_neg (by omega), b3.obj j (by omega) j2, hkm4.obj j j1]⟩
      · cases e'
        have := b4 e
        omega
    have fin : ∀ (c : Bool) m4, Kept m3 m4 → ∃ n e m' nv' o' ns', k_f48_2 (.int .i64 k) (.str (bs nm)) v (.ptr m.next 0 0) (.ptr (m.next + 1) 0 0) (.bool c) m4 = some (.ret (.tup [.agg [nv'], .int .i64 n, .int .i64 e]), m') ∧ RkP ns m o nv m' k nm l c n e nv' o' ns' := by
      intro c m4 h4
      cases c with
      | true => obtain ⟨m', nv', o', ns', q⟩ := bad m4 h4; exact ⟨_, _, m', nv', o', ns', q⟩
      | false => obtain ⟨m', nv', o', ns', q⟩ := good m4 h4; exact ⟨_, _, m', nv', o', ns', q⟩
    by_cases h2 : k = 2
    · subst h2
      rw [decide_eq_true rfl, onWant_true]
      obtain ⟨m4, g1, g2⟩ := rkind_s nm hnm m3
      rw [g1, retK_ret, aBin_neq, bnd_some]
      by_cases hk : Lx.kindS nm ≠ 1
      · rw [decide_eq_true (show ((Lx.kindS nm : Nat) : Int) ≠ 1 by omega), onWant_true, decide_eq_true hk]
        exact fin true m4 g2
      · rw [decide_eq_false (show ¬ ((Lx.kindS nm : Nat) : Int) ≠ 1 by omega), onWant_false, decide_eq_false hk, aBin_eql, bnd_some, decide_eq_false (by decide), onWant_false]
        exact fin false m4 g2
    · rw [decide_eq_false h2, onWant_false, aBin_eql, bnd_some]
      by_cases h3 : k = 3
      · subst h3
        rw [decide_eq_true rfl, onWant_true, hv.len, bnd_some, List.length_map, aBin_lss, bnd_some]
        have : decide ((l.length : Int) < 2) = decide (l.length < 2) := by
          by_cases h : l.length < 2
          · rw [decide_eq_true h, decide_eq_true (by omega)]
          · rw [decide_eq_false h, decide_eq_false (by omega)]
        rw [this]
        exact fin _ m3 (.refl ..)
      · rw [decide_eq_false h3, onWant_false]
        exact fin false m3 (.refl ..)
  · have a2' : l_f48_0 (.int .i64 k) (.str (bs nm)) v (.ptr m.next 0 0) (.ptr (m.next + 1) 0 0) (.int .i64 0) m2 = _ := a2
    rw [a2']
    exact ⟨0, 221, _, nv, o, ns, rfl, h.kept (stay m3 (.refl ..)), (stay m3 (.refl ..)).rf o, fun j e => e, fun e j e' => (by rw [e] at e'; cases e'), .inl ⟨hI, rfl, rfl, rfl⟩⟩
end Go.AM
namespace Go.AM
open Go Go.Proofs Uni
set_option linter.unusedSimpArgs false
set_option linter.unusedVariables false
theorem group4 : ∀ {ns : List Nd} {cs : List AV}, NC ns cs → flat? (group true 4 ns.length cs) = some cs ∧ sized 4 (group true 4 ns.length cs) = true ∧ (group true 4 ns.length cs).length = ns.length := by
  intro ns cs h
  induction h with
  | nil => exact ⟨rfl, rfl, rfl⟩
  | @cons n ns av cs ha _ ih =>
    obtain ⟨h1, h2, h3⟩ := ih
    have e : group true 4 (n :: ns).length (.int .i64 n.k :: .str (bs n.nm) :: av :: .int .i64 (upI n.up) :: cs) = .agg [.int .i64 n.k, .str (bs n.nm), av, .int .i64 (upI n.up)] :: group true 4 ns.length cs := rfl
    rw [e]
    refine ⟨?_, ?_, ?_⟩
    · simp only [flat?, cells_agg, Option.bind_some, h1, Option.map_some]; rfl
    · simp only [AM.sized, cells_agg, h2]; rfl
    · simp [h3]
/-- a copy of the nodes -/
theorem RV.copy {m : Mem} {o : Option Nat} {nv : AV} {ns : List Nd} (h : RV m o nv ns) (hl : ns.length ≤ 1000000) {c : Nat} (hc : c < m.next) (hcr : m.obj c = some (.row [] 0)) (hne : some c ≠ o) :
    ∃ v' m', rAppend A_r13_Node 1 m (.ms c 0 0 0 4) nv = some (v', m') ∧ RV m' (some c) v' ns ∧ m'.next = m.next ∧ ∀ j, j ≠ c → m'.obj j = m.obj j := by
  cases h with
  | nil =>
    refine ⟨.ms c 0 0 0 4, m, rfl, ?_, rfl, fun _ _ => rfl⟩
    exact RV.row (m := m) c 0 [] [] hc hcr .nil
  | row oo ver cs ns h1 h3 h4 =>
    obtain ⟨g1, g2, g3⟩ := group4 h4
    have hlen := h4.len
    have ee : rElems A_r13_Node m (.ms oo ver 0 ns.length 4) = some (group true 4 ns.length cs) := by
      have : rElems A_r13_Node m (.ms oo ver 0 ns.length 4) = (m.cells oo ver).bind fun cs => if A_r13_Node.size = 4 ∧ 0 + ns.length * 4 ≤ cs.length then some (group A_r13_Node.d.isAgg A_r13_Node.size ns.length (cs.drop 0)) else none := rfl
      rw [this, cells_of h3, Option.bind_some, if_pos ⟨rfl, by omega⟩]
      rfl
    have e1 : rAppend A_r13_Node 1 m (.ms c 0 0 0 4) (.ms oo ver 0 ns.length 4) = aAppend2 1 m A_r13_Node (.ms c 0 0 0 4) (group true 4 ns.length cs) := by
      simp only [rAppend, ee, Option.bind_some]
      have z1 : A_r13_Node.size = 4 := rfl
      have z2 : sized A_r13_Node.size [A_r13_Node.zero] = true := rfl
      rw [if_neg (by rw [z2, z1, g2]; simp)]
    rw [e1]
    have e2 : A_r13_Node.size = 4 := rfl
    have e3 : A_r13_Node.bytes = 56 := rfl
    simp only [aAppend2, e2, e3, g3, hcr]
    rw [if_neg (by omega), if_neg (by simp)]
    by_cases h0 : ns.length = 0
    · have : ns = [] := List.eq_nil_of_length_eq_zero h0
      subst this
      rw [if_pos (show ([] : List Nd).length = 0 from rfl)]
      exact ⟨_, m, rfl, RV.row (m := m) c 0 [] [] hc hcr .nil, rfl, fun _ _ => rfl⟩
    · rw [if_neg h0, if_neg (by simp), g1, Option.bind_some, if_neg (by simp; omega)]
      refine ⟨_, _, rfl, ?_, rfl, fun j hj => by rw [set_obj, if_neg hj]⟩
      have : 0 + ns.length = ns.length := by omega
      rw [this]
      exact RV.row (m := m.set c _) c 1 cs ns hc (by simp) h4
theorem RV.link {m : Mem} {o : Nat} {nv : AV} {ns : List Nd} (h : RV m (some o) nv ns) {i : Nat} (hi : i < ns.length) (y : Nat) : ∃ oo ver m', rIxAddrSl 4 nv (.int .i64 i) = some (.ptr oo ver (i * 4)) ∧ rStore 1 m (.ptr oo ver (i * 4 + 3)) (.int .i64 y) = some m' ∧ RV m' (some o) nv (setUp ns i (some y)) ∧ m'.next = m.next ∧ ∀ j, j ≠ o → m'.obj j = m.obj j := by
  cases h with
  | row _ ver cs ns h1 h2 h3 =>
    obtain ⟨cs', g1, g2⟩ := h3.setUp (some y) hi
    have e : (setUp ns i (some y)).length = ns.length := by simp
    refine ⟨o, ver, m.set o (.row cs' ver), ?_, rStore_ptr h2 rfl rfl g1, ?_, rfl, fun j hj => by rw [set_obj, if_neg hj]⟩
    · simp [rIxAddrSl]; omega
    · rw [← e]
      exact .row o ver cs' _ h1 (by simp) g2
/-- pairs that are to be done -/
def tdF : List (Nat × Nat) → List AV
  | [] => []
  | p :: l => .int .i64 p.1 :: .int .i64 p.2 :: tdF l
theorem tdF_len : ∀ l : List (Nat × Nat), (tdF l).length = l.length * 2
  | [] => rfl
  | p :: l => by simp only [tdF, List.length_cons, tdF_len l]; omega
theorem tdF_append : ∀ l k : List (Nat × Nat), tdF (l ++ k) = tdF l ++ tdF k
  | [], k => rfl
  | p :: l, k => by simp only [tdF, List.cons_append, tdF_append l k]
inductive TD (m : Mem) (t : Nat) : AV → List (Nat × Nat) → Prop
  | mk (ver : Nat) (cs : List AV) (l : List (Nat × Nat)) : m.obj t = some (.row (tdF l ++ cs) ver) → TD m t (.ms t ver 0 l.length 2) l
theorem TD.move {m m' : Mem} {t : Nat} {v : AV} {l : List (Nat × Nat)} (h : TD m t v l) (e : m'.obj t = m.obj t) : TD m' t v l := by
  cases h with
  | mk ver cs l h => exact .mk ver cs l (e.trans h)
theorem TD.len {m : Mem} {t : Nat} {v : AV} {l : List (Nat × Nat)} (h : TD m t v l) : rLenSl v = some (.int .i64 l.length) := by cases h; rfl
theorem TD.pop {m : Mem} {t : Nat} {v : AV} {l : List (Nat × Nat)} {p : Nat × Nat} (h : TD m t v (l ++ [p])) : ∃ ver v', rIxAddrSl 2 v (.int .i64 l.length) = some (.ptr t ver (l.length * 2)) ∧ rLoad false 1 m (.ptr t ver (l.length * 2)) = some (.int .i64 p.1) ∧ rLoad false 1 m (.ptr t ver (l.length * 2 + 1)) = some (.int .i64 p.2) ∧
    rSliceSl 2 v none (some (.int .i64 l.length)) = some v' ∧ TD m t v' l := by
  generalize hq : l ++ [p] = q at h
  cases h with
  | mk ver cs q h =>
    subst hq
    have g : tdF (l ++ [p]) ++ cs = tdF l ++ (.int .i64 p.1 :: .int .i64 p.2 :: cs) := by rw [tdF_append, List.append_assoc]; rfl
    rw [g] at h
    have hl := tdF_len l
    refine ⟨ver, .ms t ver 0 l.length 2, ?_, ?_, ?_, ?_, .mk ver _ l h⟩
    · simp [rIxAddrSl]; omega
    · rw [rLoad_ptr, cells_of h, Option.bind_some, partOf_cell, List.getElem?_append_right (by omega), hl]
      simp
    · rw [rLoad_ptr, cells_of h, Option.bind_some, partOf_cell, List.getElem?_append_right (by omega), hl]
      have : l.length * 2 + 1 - l.length * 2 = 1 := by omega
      rw [this]; rfl
    · simp only [rSliceSl, aBounds]
      rw [if_pos (by simp; omega)]
      simp
theorem TD.push {m : Mem} {t : Nat} {v : AV} {l : List (Nat × Nat)} (h : TD m t v l) (ht : t < m.next) (hl : l.length ≤ 2000000000000) (a c : Nat) :
    ∃ v1 m1 v' m', rRowSlice A_Ar2_int m 1 [(0, .agg [.int .i64 a, .int .i64 c])] = some (v1, m1) ∧ rAppend A_Ar2_int 1 m1 v v1 = some (v', m') ∧ TD m' t v' (l ++ [(a, c)]) ∧ m.next ≤ m'.next ∧ ∀ j, j < m.next → j ≠ t → m'.obj j = m.obj j := by
  cases h with
  | mk ver cs l h =>
    have e0 : rRowSlice A_Ar2_int m 1 [(0, .agg [.int .i64 a, .int .i64 c])] = some (.ms m.next 0 0 1 2, m.alloc (.row [.int .i64 a, .int .i64 c] 0)) := rfl
    have h' : (m.alloc (.row [.int .i64 a, .int .i64 c] 0)).obj t = some (.row (tdF l ++ cs) ver) := by rw [alloc_obj, if_neg (by omega)]; exact h
    have ee : rElems A_Ar2_int (m.alloc (.row [.int .i64 a, .int .i64 c] 0)) (.ms m.next 0 0 1 2) = some [.agg [.int .i64 a, .int .i64 c]] := by
      have : rElems A_Ar2_int (m.alloc (.row [.int .i64 a, .int .i64 c] 0)) (.ms m.next 0 0 1 2) = ((m.alloc (.row [.int .i64 a, .int .i64 c] 0)).cells m.next 0).bind fun cs => if A_Ar2_int.size = 2 ∧ 0 + 1 * 2 ≤ cs.length then some (group A_Ar2_int.d.isAgg A_Ar2_int.size 1 (cs.drop 0)) else none := rfl
      rw [this, cells_alloc]; rfl
    have e1 : rAppend A_Ar2_int 1 (m.alloc (.row [.int .i64 a, .int .i64 c] 0)) (.ms t ver 0 l.length 2) (.ms m.next 0 0 1 2) = aAppend2 1 (m.alloc (.row [.int .i64 a, .int .i64 c] 0)) A_Ar2_int (.ms t ver 0 l.length 2) [.agg [.int .i64 a, .int .i64 c]] := by
      simp only [rAppend, ee, Option.bind_some]; rfl
    have e2 : A_Ar2_int.size = 2 := rfl
    have e3 : A_Ar2_int.bytes = 16 := rfl
    have e4 : flat? [AV.agg [.int .i64 a, .int .i64 c]] = some [.int .i64 a, .int .i64 c] := rfl
    have hln := tdF_len l
    have hla : (l ++ [(a, c)]).length = l.length + 1 := by simp
    have key : ∃ v' m', aAppend2 1 (m.alloc (.row [.int .i64 a, .int .i64 c] 0)) A_Ar2_int (.ms t ver 0 l.length 2) [.agg [.int .i64 a, .int .i64 c]] = some (v', m') ∧ TD m' t v' (l ++ [(a, c)]) ∧ m.next ≤ m'.next ∧ ∀ j, j < m.next → j ≠ t → m'.obj j = m.obj j := by
      simp only [aAppend2, e2, e3, List.length_cons, List.length_nil, h']
      rw [if_neg (by omega), if_neg (by simp), if_neg (by simp), if_neg (by simp; omega), e4, Option.bind_some]
      by_cases hr : (l.length + (0 + 1)) * 2 ≤ (tdF l ++ cs).length
      · rw [if_pos hr]
        refine ⟨_, _, rfl, ?_, by simp, fun j j1 j2 => by rw [set_obj, if_neg j2, alloc_obj, if_neg (by omega)]⟩
        rw [show l.length + (0 + 1) = (l ++ [(a, c)]).length by simp]
        refine .mk ver (cs.drop 2) _ ?_
        rw [set_obj, if_pos rfl, tdF_append]
        congr 2
        unfold splice
        rw [← hln, List.take_left, List.append_assoc, List.append_assoc]
        congr 1
        show [AV.int .i64 a, .int .i64 c] ++ _ = [AV.int .i64 a, .int .i64 c] ++ _
        congr 1
        simp [List.drop_append]
      · rw [if_neg hr]
        refine ⟨_, _, rfl, ?_, by simp, fun j j1 j2 => by rw [set_obj, if_neg j2, alloc_obj, if_neg (by omega)]⟩
        rw [show l.length + (0 + 1) = (l ++ [(a, c)]).length by simp]
        refine .mk (ver + 1) [] _ ?_
        rw [set_obj, if_pos rfl, tdF_append, List.append_nil]
        congr 2
        rw [← hln, List.take_left]; rfl
    obtain ⟨v', m', k1, k2⟩ := key
    exact ⟨_, _, v', m', e0, by rw [e1]; exact k1, k2⟩
end Go.AM
namespace Go.AM
open Go Go.Proofs Uni
set_option linter.unusedSimpArgs false
set_option linter.unusedVariables false
/-- the state of a run: boxes b3 and b6, nodes at o, what is to be done at t -/
structure MG (b b3 b6 o t : Nat) (m : Mem) (nv v : AV) (ns : List Nd) (todo : List (Nat × Nat)) : Prop where
  lt : b ≤ b3 ∧ b3 < b6 ∧ b6 < o ∧ o < t ∧ t < m.next
  h3 : m.obj b3 = some (.row [nv] 0)
  h6 : m.obj b6 = some (.row [.nils] 0)
  rv : RV m (some o) nv ns
  td : TD m t v todo
theorem MG.kept {b b3 b6 o t : Nat} {m m' : Mem} {nv v : AV} {ns : List Nd} {todo : List (Nat × Nat)} (h : MG b b3 b6 o t m nv v ns todo) (k : Kept m m') : MG b b3 b6 o t m' nv v ns todo := by
  obtain ⟨⟨h1, h2, h3, h4, h5⟩, h6, h7, h8, h9⟩ := h
  have := k.next
  exact ⟨⟨h1, h2, h3, h4, by omega⟩, (k.obj _ (by omega)).trans h6, (k.obj _ (by omega)).trans h7, h8.kept k, h9.move (k.obj _ (by omega))⟩
/-- what is below b stays -/
abbrev KB (b : Nat) (m m' : Mem) : Prop := Keeps b m m'
theorem MG.linked {b b3 b6 o t : Nat} {m : Mem} {nv v : AV} {ns : List Nd} {todo : List (Nat × Nat)} (h : MG b b3 b6 o t m nv v ns todo) {i : Nat} (hi : i < ns.length) (y : Nat) : ∃ oo ver m', rIxAddrSl 4 nv (.int .i64 i) = some (.ptr oo ver (i * 4)) ∧ rStore 1 m (.ptr oo ver (i * 4 + 3)) (.int .i64 y) = some m' ∧ MG b b3 b6 o t m' nv v (setUp ns i (some y)) todo ∧ KB b m m' ∧ m'.next = m.next ∧ ∀ j, j ≠ o → m'.obj j = m.obj j := by
  obtain ⟨⟨h1, h2, h3, h4, h5⟩, h6, h7, h8, h9⟩ := h
  obtain ⟨oo, ver, m', a1, a2, a3, a4, a5⟩ := h8.link hi y
  exact ⟨oo, ver, m', a1, a2, ⟨⟨h1, h2, h3, h4, by omega⟩, (a5 _ (by omega)).trans h6, (a5 _ (by omega)).trans h7, a3, h9.move (a5 _ (by omega))⟩, ⟨by omega, fun j hj => a5 j (by omega)⟩, a4, a5⟩
theorem rargs_loop {b b3 b6 o t c d : Nat} {nv : AV} {ns : List Nd} {xa ya : AV} {xs ys : List Nat} {kx ky : Int} {nx ny : List UInt8} {ux uy : AV} (hx : HSl xa (nts xs)) (hy : HSl ya (nts ys)) (hlen : xs.length = ys.length) (hal : xs.length ≤ 1000000) : ∀ (k i : Nat) (m : Mem) (v : AV) (todo : List (Nat × Nat)), xs.length - i = k → i ≤ xs.length → MG b b3 b6 o t m nv v ns todo → t < c → c < m.next → t < d → d < m.next → m.obj c = some (.row [.int .i64 kx, .str (bs nx), xa, ux] 0) → m.obj d = some (.row [.int .i64 ky, .str (bs ny), ya, uy] 0) → todo.length + (xs.length - i) ≤ 1100000000000 →
    ∃ v' m', l_f60_2 (.ptr b3 0 0) (.ptr b6 0 0) v (.ptr c 0 0) (.ptr d 0 0) (.int .i64 i) m = l_f60_0 (.ptr b3 0 0) (.ptr b6 0 0) v' m' ∧ MG b b3 b6 o t m' nv v' ns (todo ++ (xs.zip ys).drop i) ∧ KB b m m' := by
  intro k
  induction k with
  | zero =>
    intro i m v todo hk hi hM h1 h2 h3 h4 hc hd hb
    have : i = xs.length := by omega
    subst this
    rw [l_f60_2_eq]
    simp only [rFieldAddr_ptr, bnd_some]
    rw [(row4 hc).2.2.1, bnd_some, hx.len, bnd_some]
    have : (nts xs).length = xs.length := by simp [nts]
    rw [this, aBin_lss, bnd_some, decide_eq_false (by omega), onBool_false]
    refine ⟨v, m, rfl, ?_, .refl ..⟩
    rw [List.drop_of_length_le (by rw [List.length_zip]; omega), List.append_nil]
    exact hM
  | succ k ih =>
    intro i m v todo hk hi hM h1 h2 h3 h4 hc hd hb
    have hxi : i < xs.length := by omega
    have hyi : i < ys.length := by omega
    have ix : rIxAddrSl 1 xa (.int .i64 i) = some (.pim [.int .i64 (xs[i] : Nat)]) := hx.ix (x := .int .i64 (xs[i] : Nat)) (by simp [nts, hxi]) rfl rfl
    have iy : rIxAddrSl 1 ya (.int .i64 i) = some (.pim [.int .i64 (ys[i] : Nat)]) := hy.ix (x := .int .i64 (ys[i] : Nat)) (by simp [nts, hyi]) rfl rfl
    obtain ⟨⟨g1, g2, g3, g4, g5⟩, g6, g7, g8, g9⟩ := hM
    obtain ⟨v1, m1, v2, m2, p1, p2, p3, p4, p5⟩ := g9.push g5 (by omega) xs[i] ys[i]
    have hz : (xs.zip ys).drop i = (xs[i], ys[i]) :: (xs.zip ys).drop (i + 1) := by
      rw [List.drop_eq_getElem_cons (by simp; omega), List.getElem_zip]
    have eb : rBuild [.int .i64 0, .int .i64 0] [(0, 1, .int .i64 (xs[i] : Nat)), (1, 1, .int .i64 (ys[i] : Nat))] = some (.agg [.int .i64 (xs[i] : Nat), .int .i64 (ys[i] : Nat)]) := rfl
    have hM2 : MG b b3 b6 o t m2 nv v2 ns (todo ++ [(xs[i], ys[i])]) := ⟨⟨g1, g2, g3, g4, by omega⟩, (p5 _ (by omega) (by omega)).trans g6, (p5 _ (by omega) (by omega)).trans g7, g8.move p4 (fun j e => by cases e; exact p5 _ (by omega) (by omega)), p3⟩
    obtain ⟨v', m', q1, q2, q3⟩ := ih (i + 1) m2 v2 (todo ++ [(xs[i], ys[i])]) (by omega) (by omega) hM2 h1 (by omega) h3 (by omega) ((p5 _ h2 (by omega)).trans hc) ((p5 _ h4 (by omega)).trans hd) (by simp; omega)
    refine ⟨v', m', ?_, by rw [hz]; simpa using q2, Keeps.trans ⟨p4, fun j hj => p5 j (by omega) (by omega)⟩ q3⟩
    rw [l_f60_2_eq]
    simp only [rFieldAddr_ptr, bnd_some]
    rw [(row4 hc).2.2.1, bnd_some, hx.len, bnd_some]
    have : (nts xs).length = xs.length := by simp [nts]
    rw [this, aBin_lss, bnd_some, decide_eq_true (by omega), onBool_true, k_f60_7_eq]
    simp only [rFieldAddr_ptr, bnd_some]
    rw [(row4 hc).2.2.1, bnd_some, ix, bnd_some, rLoad_pimc, List.getElem?_cons_zero, bnd_some]
    try simp only [rFieldAddr_ptr, bnd_some]
    rw [(row4 hd).2.2.1, bnd_some, iy, bnd_some, rLoad_pimc, List.getElem?_cons_zero, bnd_some, eb, bnd_some, p1, memK_some, p2, memK_some, k_f60_8_eq]
    simp only [aBin_add, bnd_some]
    rw [wrap64 (by omega) (by omega), ← q1]
    rfl
theorem arrA0 (o v a : Nat) : rIxAddrArr 2 1 (.ptr o v a) (.int .i64 0) = some (.ptr o v a) := by
  have := rIxAddrArr_ptr 2 1 o v a .i64 0
  rw [if_pos (by decide)] at this
  exact this
theorem arrA1 (o v a : Nat) : rIxAddrArr 2 1 (.ptr o v a) (.int .i64 1) = some (.ptr o v (a + 1)) := by
  have := rIxAddrArr_ptr 2 1 o v a .i64 1
  rw [if_pos (by decide)] at this
  exact this
theorem bd1 {r c c' A B : Nat} (h : r + c * A ≤ B) (h' : c' + 1 = c) : r + c' * A ≤ B := by
  subst h'
  rw [Nat.add_mul] at h
  omega
theorem bd2 {r c c' z A B : Nat} (h : r + c * A ≤ B) (h' : c' + 1 = c) (hz : z ≤ A) : r + z + c' * A ≤ B := by
  subst h'
  rw [Nat.add_mul, Nat.one_mul] at h
  omega
theorem rmerged_loop {b b3 b6 o t : Nat} (n : Nat) : ∀ (k : Nat) (m : Mem) (nv v : AV) (ns : List Nd) (todo : List (Nat × Nat)), cnt ns = n → todo.length = k → MG b b3 b6 o t m nv v ns todo → Lk ns → Av ns → (∀ p ∈ todo, p.1 < ns.length ∧ p.2 < ns.length) → (∀ i, (argsOf ns i).length ≤ 1000000) → cnt ns ≤ 1000000 → todo.length + cnt ns * 1000000 ≤ 1100000000000 →
    ∃ ok ns' nv' m', l_f60_0 (.ptr b3 0 0) (.ptr b6 0 0) v m = some (.ret (.tup [.agg [nv'], .bool ok]), m') ∧ Wk false ns todo.reverse ok ns' ∧ RV m' (some o) nv' ns' ∧ KB b m m' := by
  induction n using Nat.strongRecOn with
  | _ n ihn =>
  intro k
  induction k with
  | zero =>
    intro m nv v ns todo hn hk hM hl hav ht hal hcn hbd
    have : todo = [] := List.eq_nil_of_length_eq_zero hk
    subst this
    obtain ⟨⟨g1, g2, g3, g4, g5⟩, g6, g7, g8, g9⟩ := hM
    refine ⟨true, ns, nv, m.set b6 (.row [nv] 0), ?_, .nil _, g8.move (by simp) (fun j e => by cases e; rw [set_obj, if_neg (by omega)]), ⟨by simp, fun j hj => by rw [set_obj, if_neg (by omega)]⟩⟩
    rw [l_f60_0_eq, g9.len, bnd_some, aBin_gtr, bnd_some, decide_eq_false (by simp), onBool_false, k_f60_0_eq, (row1 g6).1, bnd_some, put1 g7, bnd_some, (row1 (v := nv) (by simp)).1, bnd_some]
  | succ k ihk =>
    intro m nv v ns todo hn hk hM hl hav ht hal hcn hbd
    obtain ⟨rest, p, rfl⟩ : ∃ rest p, todo = rest ++ [p] := ⟨todo.dropLast, todo.getLast (fun e => by rw [e] at hk; simp at hk), (List.dropLast_concat_getLast _).symm⟩
    obtain ⟨a, c⟩ := p
    have hrl : rest.length = k := by simpa using hk
    obtain ⟨hpa, hpc⟩ := ht (a, c) (by simp)
    obtain ⟨x, hx⟩ := hl a hpa
    obtain ⟨y, hy⟩ := hl c hpc
    obtain ⟨ver, v', t1, t2, t3, t4, t5⟩ := hM.td.pop
    obtain ⟨m1, f1, f2⟩ := rfind_s hM.rv hx
    have hM1 := hM.kept f2
    obtain ⟨m2, f3, f4⟩ := rfind_s hM1.rv hy
    have hM2 := hM1.kept f4
    have hMr : MG b b3 b6 o t m2 nv v' ns rest := ⟨hM2.lt, hM2.h3, hM2.h6, hM2.rv, (t5.move (f2.obj _ hM.lt.2.2.2.2)).move (f4.obj _ hM1.lt.2.2.2.2)⟩
    have t3' : rLoad false 1 m1 (.ptr t ver (rest.length * 2 + 1)) = some (.int .i64 c) := by
      have := f2.obj t hM.lt.2.2.2.2
      rw [rLoad_ptr, Mem.cells, this] 
      rw [rLoad_ptr, Mem.cells] at t3
      exact t3
    have kb2 : KB b m m2 := (Keeps.less (f2.trans f4) (by have := hM.lt; omega))
    have hrt : ∀ p ∈ rest, p.1 < ns.length ∧ p.2 < ns.length := fun p hp => ht p (by simp [hp])
    have hsub : (IntKind.i64.wrap (((rest ++ [(a, c)]).length : Int) - 1)) = rest.length := by
      have hrb : rest.length ≤ 1100000000000 := by simp at hbd; omega
      rw [wrap64 (by simp <;> omega) (by simp <;> omega)]; simp
    -- the head of the round
    have head : l_f60_0 (.ptr b3 0 0) (.ptr b6 0 0) v m = onBool (.bool (decide ((x : Int) = y))) (l_f60_0 (.ptr b3 0 0) (.ptr b6 0 0) v' m2) (k_f60_2 (.ptr b3 0 0) (.ptr b6 0 0) v' (.int .i64 x) (.int .i64 y) m2) := by
      rw [l_f60_0_eq, hM.td.len, bnd_some, aBin_gtr, bnd_some, decide_eq_true (by simp <;> omega), onBool_true, k_f60_1_eq]
      simp only [(row1 hM.h3).1, bnd_some, hM.td.len, aBin_sub, hsub, t1, arrA0, t2, f1, retK_ret, (row1 hM1.h3).1, arrA1, t3', f3, t4, aBin_eql]
    have hrev : (rest ++ [(a, c)]).reverse = (a, c) :: rest.reverse := by simp
    rw [head, hrev]
    have hbr : rest.length + cnt ns * 1000000 ≤ 1100000000000 := by simp at hbd; omega
    by_cases hxy : x = y
    · subst hxy
      rw [decide_eq_true rfl, onBool_true]
      obtain ⟨ok, ns', nv', m', q1, q2, q3, q4⟩ := ihk m2 nv v' ns rest hn hrl hMr hl hav hrt hal hcn hbr
      exact ⟨ok, ns', nv', m', q1, .same hx hy q2, q3, kb2.trans q4⟩
    rw [decide_eq_false (by omega), onBool_false, k_f60_2_eq]
    have hxl := hx.is.1
    have hyl := hy.is.1
    obtain ⟨p0, hNV⟩ := hMr.rv.nv
    obtain ⟨ox, vx, avx, x1, x2, x3, x4, x5, x6, x7⟩ := hNV.node hxl
    obtain ⟨oy, vy, avy, y1, y2, y3, y4, y5, y6, y7⟩ := hNV.node hyl
    rw [← kOf_get hxl] at x3
    rw [← kOf_get hyl] at y3
    simp only [rFieldAddr_ptr, bnd_some]
    rw [(row1 hMr.h3).2, bnd_some, x1, bnd_some]
    simp only [rFieldAddr_ptr, bnd_some]
    rw [x3, bnd_some, aBin_eql, bnd_some]
    have small : ∀ {i j : Nat}, Rt ns i i → Rt ns j j → i ≠ j → cnt (setUp ns i (some j)) < n ∧ cnt (setUp ns i (some j)) + 1 = cnt ns := fun {i j} hi hj hne => by
      have := cnt_set (y := j) hi.is.1 hi.is.2
      omega
    by_cases hkx : kOf ns x = 1
    · rw [decide_eq_true hkx, onBool_true]
      obtain ⟨oo, ver2, m3, l1, l2, l3, l4, l5, l6⟩ := hMr.linked hxl y
      simp only [rFieldAddr_ptr, bnd_some, (row1 hMr.h3).2, l1, l2]
      obtain ⟨s1, s2⟩ := small hx.self hy.self hxy
      obtain ⟨ok, ns', nv', m', q1, q2, q3, q4⟩ := ihn _ s1 _ m3 nv v' _ rest rfl rfl l3 (link_lk hl hx.self hy.self hxy) (hav.sd (Sd.set ..)) (fun p hp => by rw [setUp_length]; exact hrt p hp) (fun i => by rw [setUp_args]; exact hal i) (by omega) (bd1 hbr s2)
      exact ⟨ok, ns', nv', m', q1, .varl rfl hx hy hxy hkx q2, q3, kb2.trans (l4.trans q4)⟩
    rw [decide_eq_false hkx, onBool_false, k_f60_3_eq]
    simp only [rFieldAddr_ptr, bnd_some, (row1 hMr.h3).2, y1, y3, aBin_eql]
    by_cases hky : kOf ns y = 1
    · rw [decide_eq_true hky, onBool_true]
      obtain ⟨oo, ver2, m3, l1, l2, l3, l4, l5, l6⟩ := hMr.linked hyl x
      obtain ⟨rfl, rfl⟩ : oo = oy ∧ ver2 = vy := by
        have e := l1.symm.trans y1
        simp at e; exact e
      rw [l2, bnd_some]
      obtain ⟨s1, s2⟩ := small hy.self hx.self (Ne.symm hxy)
      obtain ⟨ok, ns', nv', m', q1, q2, q3, q4⟩ := ihn _ s1 _ m3 nv v' _ rest rfl rfl l3 (link_lk hl hy.self hx.self (Ne.symm hxy)) (hav.sd (Sd.set ..)) (fun p hp => by rw [setUp_length]; exact hrt p hp) (fun i => by rw [setUp_args]; exact hal i) (by omega) (bd1 hbr s2)
      exact ⟨ok, ns', nv', m', q1, .varr rfl hx hy hxy hkx hky q2, q3, kb2.trans (l4.trans q4)⟩
    rw [decide_eq_false hky, onBool_false, k_f60_4_eq]
    rw [← argsOf_get hxl] at x2
    rw [← argsOf_get hyl] at y2
    rw [← kOf_get hxl, ← nmOf_get hxl] at x7
    generalize upI (ns[x]'hxl).up = ux at x7
    -- the first copy
    generalize hm3 : (m2.alloc (.row [.int .i64 0, .str (bs []), .nils, .int .i64 0] 0)).set m2.next (.row [.int .i64 (kOf ns x), .str (bs (nmOf ns x)), avx, .int .i64 ux] 0) = m3
    have sx : rStore 4 (m2.alloc (.row [.int .i64 0, .str (bs []), .nils, .int .i64 0] 0)) (.ptr m2.next 0 0) (.agg [.int .i64 (kOf ns x), .str (bs (nmOf ns x)), avx, .int .i64 ux]) = some m3 := by
      rw [← hm3]; exact put4 (x := .int .i64 0) (y := .str (bs [])) (z := .nils) (w := .int .i64 0) (by simp)
    have n3 : m3.next = m2.next + 1 := by rw [← hm3]; rfl
    have k3 : Kept m2 m3 := by rw [← hm3]; exact (Kept.alloc m2 _).set (Nat.le_refl _) _
    have ocx : m3.obj m2.next = some (.row [.int .i64 (kOf ns x), .str (bs (nmOf ns x)), avx, .int .i64 ux] 0) := by rw [← hm3]; simp
    have hM3 := hMr.kept k3
    obtain ⟨p3, hNV3⟩ := hM3.rv.nv
    obtain ⟨oy3, vy3, avy3, z1, z2, z3, z4, z5, z6, z7⟩ := hNV3.node hyl
    rw [← argsOf_get hyl] at z2
    rw [← kOf_get hyl, ← nmOf_get hyl] at z7
    generalize upI (ns[y]'hyl).up = uy at z7
    generalize hm4 : (m3.alloc (.row [.int .i64 0, .str (bs []), .nils, .int .i64 0] 0)).set m3.next (.row [.int .i64 (kOf ns y), .str (bs (nmOf ns y)), avy3, .int .i64 uy] 0) = m4
    have sy : rStore 4 (m3.alloc (.row [.int .i64 0, .str (bs []), .nils, .int .i64 0] 0)) (.ptr m3.next 0 0) (.agg [.int .i64 (kOf ns y), .str (bs (nmOf ns y)), avy3, .int .i64 uy]) = some m4 := by
      rw [← hm4]; exact put4 (x := .int .i64 0) (y := .str (bs [])) (z := .nils) (w := .int .i64 0) (by simp)
    have n4 : m4.next = m3.next + 1 := by rw [← hm4]; rfl
    have k4 : Kept m3 m4 := by rw [← hm4]; exact (Kept.alloc m3 _).set (Nat.le_refl _) _
    have ocy : m4.obj m3.next = some (.row [.int .i64 (kOf ns y), .str (bs (nmOf ns y)), avy3, .int .i64 uy] 0) := by rw [← hm4]; simp
    have ocx4 := (k4.obj m2.next (by omega)).trans ocx
    have hM4 := hM3.kept k4
    have kb4 : KB b m2 m4 := Keeps.less (k3.trans k4) (by have := hMr.lt; omega)
    have ndb : ∀ m : Mem, aBox m (.agg [.int .i64 0, .str (bs []), .nils, .int .i64 0]) = some (.ptr m.next 0 0, m.alloc (.row [.int .i64 0, .str (bs []), .nils, .int .i64 0] 0)) := fun _ => rfl
    simp only [rFieldAddr_ptr, bnd_some]
    rw [(row1 hMr.h3).2, bnd_some, x1, bnd_some, x7, bnd_some, ndb, memK_some, sx, bnd_some]
    try simp only [rFieldAddr_ptr, bnd_some]
    rw [(row1 hM3.h3).2, bnd_some, z1, bnd_some, z7, bnd_some, ndb, memK_some, sy, bnd_some]
    try simp only [rFieldAddr_ptr, bnd_some]
    rw [(row4 ocx4).1, bnd_some]
    try simp only [rFieldAddr_ptr, bnd_some]
    rw [(row4 ocy).1, bnd_some, aBin_neq, bnd_some]
    have clash : headsB ns x y = false → ∃ ok ns' nv' m', k_f60_6 (.ptr b3 0 0) (.ptr b6 0 0) v' (.int .i64 x) (.int .i64 y) (.ptr m2.next 0 0) (.ptr m3.next 0 0) (.bool true) m4 = some (.ret (.tup [.agg [nv'], .bool ok]), m') ∧ Wk false ns ((a, c) :: rest.reverse) ok ns' ∧ RV m' (some o) nv' ns' ∧ KB b m m' := by
      intro hh
      have hlt := hM4.lt
      refine ⟨false, ns, nv, m4.set b6 (.row [nv] 0), ?_, .clash hx hy hxy hkx hky hh, hM4.rv.move (by simp) (fun j e => by cases e; rw [set_obj, if_neg (by omega)]), kb2.trans (kb4.trans ⟨by simp, fun j hj => by rw [set_obj, if_neg (by omega)]⟩)⟩
      rw [k_f60_6_eq, onBool_true, (row1 hM4.h3).1, bnd_some, put1 hM4.h6, bnd_some, (row1 (v := nv) (by simp)).1, bnd_some]
    by_cases hk1 : kOf ns x = kOf ns y
    · rw [decide_eq_false (by simp [hk1]), onWant_false]
      try simp only [rFieldAddr_ptr, bnd_some]
      rw [(row4 ocx4).2.1, bnd_some]
      try simp only [rFieldAddr_ptr, bnd_some]
      rw [(row4 ocy).2.1, bnd_some, aBin_strneq, bnd_some]
      by_cases hk2 : nmOf ns x = nmOf ns y
      · rw [decide_eq_false (by simp [hk2]), onWant_false]
        try simp only [rFieldAddr_ptr, bnd_some]
        rw [(row4 ocx4).2.2.1, bnd_some, x2.len, bnd_some]
        try simp only [rFieldAddr_ptr, bnd_some]
        rw [(row4 ocy).2.2.1, bnd_some, z2.len, bnd_some, aBin_neq, bnd_some]
        have hnx : (nts (argsOf ns x)).length = (argsOf ns x).length := by simp [nts]
        have hny : (nts (argsOf ns y)).length = (argsOf ns y).length := by simp [nts]
        rw [hnx, hny]
        by_cases hk3 : (argsOf ns x).length = (argsOf ns y).length
        · rw [decide_eq_false (by simp [hk3]), k_f60_6_eq, onBool_false, k_f60_5_eq]
          obtain ⟨oo, ver2, m5, l1, l2, l3, l4, l5, l6⟩ := hM4.linked hxl y
          have hlt4 := hM4.lt
          simp only [rFieldAddr_ptr, bnd_some, (row1 hM4.h3).2, l1, l2]
          obtain ⟨s1, s2⟩ := small hx.self hy.self hxy
          have hax := hal x
          have hltr := hMr.lt
          obtain ⟨v7, m7, q1, q2, q3⟩ := rargs_loop (b := b) (b3 := b3) (b6 := b6) (o := o) (t := t) (c := m2.next) (d := m3.next) x2 z2 hk3 hax _ 0 m5 v' rest rfl (Nat.zero_le _) l3 (by omega) (by omega) (by omega) (by omega) ((l6 _ (by omega)).trans ocx4) ((l6 _ (by omega)).trans ocy) (by omega)
          rw [List.drop_zero] at q2
          have hq : l_f60_2 (.ptr b3 0 0) (.ptr b6 0 0) v' (.ptr m2.next 0 0) (.ptr m3.next 0 0) (.int .i64 0) m5 = _ := q1
          rw [hq]
          have hzl : ((argsOf ns x).zip (argsOf ns y)).length ≤ 1000000 := by simp; omega
          obtain ⟨ok, ns', nv', m', w1, w2, w3, w4⟩ := ihn _ s1 _ m7 nv v7 _ (rest ++ (argsOf ns x).zip (argsOf ns y)) rfl rfl q2 (link_lk hl hx.self hy.self hxy) (hav.sd (Sd.set ..)) (fun p hp => by
              rw [setUp_length]
              rcases List.mem_append.1 hp with hp | hp
              · exact hrt p hp
              · obtain ⟨p1, p2⟩ := p
                have := List.of_mem_zip hp
                exact ⟨hav x p1 this.1, hav y p2 this.2⟩) (fun i => by rw [setUp_args]; exact hal i) (by omega) (by rw [List.length_append]; exact bd2 hbr s2 hzl)
          refine ⟨ok, ns', nv', m', w1, .args (new := ((argsOf ns x).zip (argsOf ns y)).reverse) hx hy hxy hkx hky (headsB_iff.2 ⟨hk1, hk2, hk3⟩) (fun p => by simp) (by rw [List.reverse_append] at w2; exact w2), w3, kb2.trans (kb4.trans (l4.trans (q3.trans w4)))⟩
        · rw [decide_eq_true (by omega)]
          exact clash (by unfold headsB; simp [hk3])
      · rw [decide_eq_true hk2, onWant_true]
        exact clash (by unfold headsB; simp [hk2])
    · rw [decide_eq_true hk1, onWant_true]
      exact clash (by unfold headsB; simp [hk1])
theorem rmerged_s {m : Mem} {oo : Option Nat} {nv : AV} {ns : List Nd} (h : RV m oo nv ns) (hl : Lk ns) (hav : Av ns) (hn : ns.length ≤ 1000000) (hal : ∀ i, (argsOf ns i).length ≤ 1000000) {a c : Nat} (ha : a < ns.length) (hc : c < ns.length) :
    ∃ ok ns' nv' o' m', w_f60 (.agg [nv]) (.int .i64 a) (.int .i64 c) m = some (.ret (.tup [.agg [nv'], .bool ok]), m') ∧ Wk false ns [(a, c)] ok ns' ∧ RV m' (some o') nv' ns' ∧ Kept m m' ∧ m.next ≤ o' := by
  generalize hm2 : (m.alloc (.row [nv] 0)).alloc (.row [.nils] 0) = m2
  have n2 : m2.next = m.next + 2 := by rw [← hm2]; simp
  have e6 : aBox (m.alloc (.row [nv] 0)) (.agg [.nils]) = some (.ptr (m.next + 1) 0 0, m2) := by rw [← hm2]; rfl
  have k2 : Kept m m2 := by rw [← hm2]; exact (Kept.alloc m _).trans (Kept.alloc _ _)
  have o3 : m2.obj m.next = some (.row [nv] 0) := by rw [← hm2]; simp only [alloc_obj, alloc_next]; rw [if_neg (by omega), if_pos trivial]
  have o6 : m2.obj (m.next + 1) = some (.row [.nils] 0) := by rw [← hm2]; simp
  have e15 : rRowSlice A_r13_Node m2 0 [] = some (.ms m2.next 0 0 0 4, m2.alloc (.row [] 0)) := rfl
  have k3 : Kept m2 (m2.alloc (.row [] 0)) := Kept.alloc _ _
  have hR3 := (h.kept k2).kept k3
  have hoo := h.oo
  obtain ⟨v18, m4, c1, c2, c3, c4⟩ := hR3.copy hn (c := m2.next) (by simp) (by simp) (fun e => by have := hoo _ e.symm; omega)
  have o34 : m4.obj m.next = some (.row [nv] 0) := by rw [c4 _ (by omega), k3.obj _ (by omega)]; exact o3
  have o64 : m4.obj (m.next + 1) = some (.row [.nils] 0) := by rw [c4 _ (by omega), k3.obj _ (by omega)]; exact o6
  have s5 := put1f o34 c2.cells
  have n4 : m4.next = m.next + 3 := by rw [c3]; simp [n2]
  generalize hm5 : m4.set m.next (.row [v18] 0) = m5 at s5
  have n5 : m5.next = m.next + 3 := by rw [← hm5]; exact n4
  have o35 : m5.obj m.next = some (.row [v18] 0) := by rw [← hm5]; simp
  have k5 : ∀ j, j ≠ m.next → m5.obj j = m4.obj j := fun j hj => by rw [← hm5, set_obj, if_neg hj]
  have eb : rBuild [.int .i64 0, .int .i64 0] [(0, 1, .int .i64 a), (1, 1, .int .i64 c)] = some (.agg [.int .i64 a, .int .i64 c]) := rfl
  have e24 : rRowSlice A_Ar2_int m5 1 [(0, .agg [.int .i64 a, .int .i64 c])] = some (.ms m5.next 0 0 1 2, m5.alloc (.row [.int .i64 a, .int .i64 c] 0)) := rfl
  have k6 : Kept m5 (m5.alloc (.row [.int .i64 a, .int .i64 c] 0)) := Kept.alloc _ _
  have hM : MG m.next m.next (m.next + 1) m2.next m5.next (m5.alloc (.row [.int .i64 a, .int .i64 c] 0)) v18 (.ms m5.next 0 0 1 2) ns [(a, c)] := by
    refine ⟨⟨Nat.le_refl _, by omega, by omega, by omega, by simp⟩, (k6.obj _ (by omega)).trans o35, (k6.obj _ (by omega)).trans ((k5 _ (by omega)).trans o64), RV.kept (c2.move (by omega) fun j e => by cases e; exact k5 _ (by omega)) k6, ?_⟩
    exact TD.mk 0 [] [(a, c)] (by simp [tdF])
  have hcl := cnt_le ns
  obtain ⟨ok, ns', nv', m', q1, q2, q3, q4⟩ := rmerged_loop _ _ _ v18 _ ns [(a, c)] rfl rfl hM hl hav (by simp; exact ⟨ha, hc⟩) hal (by omega) (by simp; omega)
  have kk : KB m.next m (m5.alloc (.row [.int .i64 a, .int .i64 c] 0)) := ⟨by simp; omega, fun j hj => by rw [k6.obj j (by omega), k5 j (by omega), c4 j (by omega), k3.obj j (by omega)]; exact k2.obj j hj⟩
  refine ⟨ok, ns', nv', m2.next, m', ?_, by simpa using q2, q3, kk.trans q4, by omega⟩
  rw [e_f60, box1, memK_some, e6, memK_some, e15, memK_some]
  simp only [rFieldAddr_ptr, bnd_some]
  rw [(row1 ((k3.obj _ (by omega)).trans o3)).2, bnd_some, c1, memK_some]
  try simp only [rFieldAddr_ptr, bnd_some]
  rw [s5, bnd_some, eb, bnd_some, e24, memK_some, q1]
end Go.AM
namespace Go.AM
open Go Go.Proofs Uni
set_option linter.unusedSimpArgs false
set_option linter.unusedVariables false
/-- a row of numbers -/
structure IRw (m : Mem) (q : Nat) (f : Nat → Int) (n : Nat) : Prop where
  ex : ∃ cs, m.obj q = some (.row cs 0) ∧ cs.length = n ∧ ∀ i, i < n → cs[i]? = some (.int .i64 (f i))
def updI (f : Nat → Int) (i : Nat) (x : Int) : Nat → Int := fun j => if j = i then x else f j
theorem IRw.move {m m' : Mem} {q n : Nat} {f : Nat → Int} (h : IRw m q f n) (e : m'.obj q = m.obj q) : IRw m' q f n := by
  obtain ⟨cs, h1, h2⟩ := h.ex
  exact ⟨cs, e.trans h1, h2⟩
theorem IRw.at {m : Mem} {q n : Nat} {f : Nat → Int} (h : IRw m q f n) {i : Nat} (hi : i < n) : rIxAddrSl 1 (.ms q 0 0 n 1) (.int .i64 i) = some (.ptr q 0 i) ∧ rLoad false 1 m (.ptr q 0 i) = some (.int .i64 (f i)) ∧
    ∀ x : Int, ∃ m', rStore 1 m (.ptr q 0 i) (.int .i64 x) = some m' ∧ IRw m' q (updI f i x) n ∧ On q m m' := by
  obtain ⟨cs, h1, h2, h3⟩ := h.ex
  refine ⟨?_, ?_, fun x => ?_⟩
  · simp [rIxAddrSl]; omega
  · rw [rLoad_ptr, cells_of h1, Option.bind_some, partOf_cell, h3 i hi]
  · have hp : putCells cs i [.int .i64 x] = some (splice cs i [.int .i64 x]) := by
      unfold putCells; rw [if_pos (by simp; omega)]
    refine ⟨_, rStore_ptr h1 rfl rfl hp, ⟨splice cs i [.int .i64 x], by simp, ?_, fun j hj => ?_⟩, ⟨by simp, fun j hj => by rw [set_obj, if_neg hj]⟩⟩
    · unfold splice; simp; omega
    · unfold splice updI
      by_cases hji : j = i
      · subst hji
        rw [if_pos rfl, List.append_assoc, List.getElem?_append_right (by simp; omega)]
        have : j - (List.take j cs).length = 0 := by simp; omega
        rw [this]; rfl
      · rw [if_neg hji, List.append_assoc]
        rcases Nat.lt_or_ge j i with hlt | hge
        · rw [List.getElem?_append_left (by simp; omega), List.getElem?_take, if_pos hlt]; exact h3 j hj
        · rw [List.getElem?_append_right (by simp; omega)]
          have e1 : j - (List.take i cs).length = (j - i - 1) + 1 := by simp; omega
          rw [e1, List.cons_append, List.nil_append, List.getElem?_cons_succ, List.getElem?_drop]
          have e2 : i + [AV.int .i64 x].length + (j - i - 1) = j := by simp; omega
          rw [e2]; exact h3 j hj
theorem irw_new (m : Mem) {n : Nat} (hn : n ≤ 1000000) : rMakeSlice A_int 0 m (.int .i64 n) (.int .i64 n) = some (.ms m.next 0 0 n 1, m.alloc (.row (repl n [.int .i64 0]) 0)) ∧ IRw (m.alloc (.row (repl n [.int .i64 0]) 0)) m.next (fun _ => 0) n := by
  have hr : repl n [AV.int .i64 0] = List.replicate n (.int .i64 0) := by
    unfold repl; induction n with
    | zero => rfl
    | succ n ih => rw [List.replicate_succ, List.flatten_cons, ih (by omega)]; rfl
  constructor
  · have e1 : A_int.bytes = 8 := rfl
    have e2 : A_int.size = 1 := rfl
    have e3 : A_int.zero.cells? = some [.int .i64 0] := rfl
    simp only [rMakeSlice, e1, e2, e3, Option.bind_some]
    rw [if_pos ⟨by omega, by omega, by omega, by omega, by decide, rfl⟩, if_neg (by decide)]
    simp
  · refine ⟨repl n [.int .i64 0], by simp, ?_, fun i hi => ?_⟩
    · rw [hr]; simp
    · rw [hr, List.getElem?_replicate, if_pos hi]
/-- one node by way of a box -/
theorem rnode {m : Mem} {b : Nat} {o : Option Nat} {nv : AV} {ns : List Nd} (hb : m.obj b = some (.row [nv] 0)) (h : RV m o nv ns) {r : Nat} (hr : r < ns.length) : ∃ oo ver av ux, rLoad false 1 m (.ptr b 0 (0 + 0)) = some nv ∧ rLoad true 1 m (.ptr b 0 0) = some (.agg [nv]) ∧ rIxAddrSl 4 nv (.int .i64 r) = some (.ptr oo ver (r * 4)) ∧ rLoad false 1 m (.ptr oo ver (r * 4 + 2)) = some av ∧ HSl av (nts (argsOf ns r)) ∧ rLoad true 4 m (.ptr oo ver (r * 4)) = some (.agg [.int .i64 (kOf ns r), .str (bs (nmOf ns r)), av, ux]) := by
  obtain ⟨p, l4⟩ := h.nv
  obtain ⟨oo, ver, av, a1, a2, a3, a4, a5, a6, a7⟩ := l4.node hr
  rw [← argsOf_get hr] at a2
  rw [← kOf_get hr, ← nmOf_get hr] at a7
  exact ⟨oo, ver, av, _, (row1 hb).2, (row1 hb).1, a1, a5, a2, a7⟩
theorem OnK.kept {q : Nat} {m m' : Mem} (h : OnK q m m') {b : Nat} (hb : b < m.next) (hq : b ≠ q) : m'.obj b = m.obj b := h.obj b hb hq
theorem RV.onK {m m' : Mem} {o : Option Nat} {nv : AV} {ns : List Nd} {q : Nat} (h : RV m o nv ns) (k : OnK q m m') (hq : some q ≠ o) : RV m' o nv ns := h.move k.next fun j e => k.obj j (h.oo j e) (fun e' => hq (by rw [e, e']))
theorem rrounds_s {o : Option Nat} {nv : AV} {ns : List Nd} {q : Nat} (hqo : some q ≠ o) (hl : Lk ns) (hav : Av ns) (hal : ∀ i, (argsOf ns i).length ≤ 1000000) (n : Nat) : ∀ (m : Mem) (col : Nat → Nat) (x : Nat), unc ns.length col = n → RV m o nv ns → IRw m q (fun i => (col i : Nat)) ns.length → (∀ i, col i ≤ 2) → q < m.next → x < ns.length →
    ∃ res col' m', w_f79 (.agg [nv]) (.int .i64 x) (.ms q 0 0 ns.length 1) m = some (.ret (.bool res), m') ∧ Dfs ns [x] col res col' ∧ IRw m' q (fun i => (col' i : Nat)) ns.length ∧ (∀ i, col' i ≤ 2) ∧ OnK q m m' ∧ ∀ i, col i ≠ 0 → col' i ≠ 0 := by
  induction n using Nat.strongRecOn with
  | _ n ih =>
  intro m col x hn hR hI hc2 hq hx
  obtain ⟨r, hr⟩ := hl x hx
  have k1 : Kept m (m.alloc (.row [nv] 0)) := Kept.alloc m _
  have ob : (m.alloc (.row [nv] 0)).obj m.next = some (.row [nv] 0) := by simp
  obtain ⟨m2, f1, f2⟩ := rfind_s (hR.kept k1) hr
  have kk : Kept m m2 := k1.trans f2
  have n2 := f2.next
  have ob2 := (f2.obj m.next (by simp)).trans ob
  have hI2 := hI.move (kk.obj q hq)
  obtain ⟨i1, i2, i3⟩ := hI2.at hr.is.1
  rw [e_f79, box1, memK_some, (row1 ob).1, bnd_some, f1, retK_ret, i1, bnd_some, i2, bnd_some, aBin_gtr, bnd_some]
  rcases hcr : col r with _ | _ | k
  · rw [decide_eq_false (by simp), onBool_false, k_f79_0_eq, i1, bnd_some]
    obtain ⟨m3, s1, s2, s3⟩ := i3 1
    have n3 := s3.next
    rw [s1, bnd_some]
    have hu1 : ∀ i, updI (fun i => (col i : Nat)) r 1 i = ((upd col r 1 i : Nat) : Int) := fun i => by unfold updI upd; split <;> rfl
    have hI3 : IRw m3 q (fun i => (upd col r 1 i : Nat)) ns.length := by
      have := s2; rw [show updI (fun i => (col i : Nat)) r 1 = fun i => ((upd col r 1 i : Nat) : Int) from funext hu1] at this; exact this
    have hR3 : RV m3 o nv ns := ((hR.kept kk).onK s3.onK hqo)
    have ob3 : m3.obj m.next = some (.row [nv] 0) := (s3.obj _ (by omega)).trans ob2
    have hlt := unc_lt (c := col) hr.is.1 hcr
    have hu2 : ∀ i, upd col r 1 i ≤ 2 := fun i => by unfold upd; split; omega; exact hc2 i
    have loop : ∀ (k i : Nat) (m2 : Mem) (c2 : Nat → Nat), (argsOf ns r).length - i = k → i ≤ (argsOf ns r).length → RV m2 o nv ns → IRw m2 q (fun i => (c2 i : Nat)) ns.length → (∀ i, c2 i ≤ 2) → unc ns.length c2 < n → m2.obj m.next = some (.row [nv] 0) → m.next < m2.next →
        ∃ res c3 m3, l_f79_0 (.int .i64 r) (.ms q 0 0 ns.length 1) (.ptr m.next 0 0) (.int .i64 i) m2 = (if res = true then some (.ret (.bool true), m3) else k_f79_1 (.int .i64 r) (.ms q 0 0 ns.length 1) (.ptr m.next 0 0) (.int .i64 (argsOf ns r).length) m3) ∧
          Dfs ns ((argsOf ns r).drop i) c2 res c3 ∧ IRw m3 q (fun i => (c3 i : Nat)) ns.length ∧ (∀ i, c3 i ≤ 2) ∧ OnK q m2 m3 ∧ ∀ j, c2 j ≠ 0 → c3 j ≠ 0 := by
      intro k
      induction k with
      | zero =>
        intro i m2 c2 hk hi hR2 hI2 hcc _ hb2 hn2
        have : i = (argsOf ns r).length := by omega
        subst this
        obtain ⟨oo, ver, av, ux, a1, a2, a3, a4, a5, a6⟩ := rnode hb2 hR2 hr.is.1
        have hlen : (nts (argsOf ns r)).length = (argsOf ns r).length := by simp [nts]
        rw [l_f79_0_eq]
        simp only [rFieldAddr_ptr, bnd_some, a1, a3, a4, a5.len, hlen, aBin_lss, Int.lt_irrefl, decide_false, onBool_false]
        exact ⟨false, c2, m2, by rw [if_neg (by simp)], by rw [List.drop_length]; exact .nil, hI2, hcc, .refl .., fun _ h => h⟩
      | succ k ihk =>
        intro i m2 c2 hk hi hR2 hI2 hcc hun hb2 hn2
        have hilt : i < (argsOf ns r).length := by omega
        have hd : (argsOf ns r).drop i = (argsOf ns r)[i] :: (argsOf ns r).drop (i + 1) := List.drop_eq_getElem_cons hilt
        obtain ⟨oo, ver, av, ux, a1, a2, a3, a4, a5, a6⟩ := rnode hb2 hR2 hr.is.1
        have hlen : (nts (argsOf ns r)).length = (argsOf ns r).length := by simp [nts]
        have hix : rIxAddrSl 1 av (.int .i64 i) = some (.pim [.int .i64 ((argsOf ns r)[i] : Nat)]) := a5.ix (x := .int .i64 ((argsOf ns r)[i] : Nat)) (by simp [nts, hilt]) rfl rfl
        obtain ⟨res, c3, m3, d1, d2, d3, d4, d5, d6⟩ := ih _ hun m2 c2 (argsOf ns r)[i] rfl hR2 hI2 hcc (by omega) (hav r _ (List.getElem_mem hilt))
        rw [l_f79_0_eq]
        simp only [rFieldAddr_ptr, bnd_some, a1, a3, a4, a5.len, hlen, aBin_lss]
        rw [decide_eq_true (by omega), onBool_true, k_f79_2_eq]
        simp only [rFieldAddr_ptr, bnd_some, a1, a2, a3, a4, hix, rLoad_pimc, List.getElem?_cons_zero, d1, retK_ret]
        rw [hd]
        have n3 := d5.next
        cases res with
        | true =>
          rw [onBool_true]
          refine ⟨true, c3, m3, by rw [if_pos rfl], ?_, d3, d4, d5, d6⟩
          cases d2 with
          | black q1 q2 q3 => cases q3
          | gray q1 q2 => exact .gray q1 q2
          | down q1 q2 q3 q4 => cases q4
          | stop q1 q2 q3 => exact .stop q1 q2 q3
        | false =>
          rw [onBool_false, k_f79_3_eq]
          simp only [aBin_add, bnd_some]
          have := hal r
          rw [wrap64 (by omega) (by omega)]
          obtain ⟨res, c4, m4, e1, e2, e3, e4, e5, e6⟩ := ihk (i + 1) m3 c3 (by omega) (by omega) (hR2.onK d5 hqo) d3 d4 (Nat.lt_of_le_of_lt (unc_le d6) hun) ((d5.obj _ (by omega) (by omega)).trans hb2) (by omega)
          refine ⟨res, c4, m4, e1, ?_, e3, e4, d5.trans e5, fun j hj => e6 j (d6 j hj)⟩
          cases d2 with
          | black q1 q2 q3 => cases q3; exact .black q1 q2 e2
          | down q1 q2 q3 q4 => cases q4; exact .down q1 q2 q3 e2
    obtain ⟨res, c3, m4, d1, d2, d3, d4, d5, d6⟩ := loop _ 0 m3 _ rfl (Nat.zero_le _) hR3 hI3 hu2 (by omega) ob3 (by simp at n2; omega)
    have d1' : l_f79_0 (.int .i64 r) (.ms q 0 0 ns.length 1) (.ptr m.next 0 0) (.int .i64 0) m3 = _ := d1
    have up0 : ∀ i, col i ≠ 0 → upd col r 1 i ≠ 0 := fun i hi => by unfold upd; split <;> simp [hi]
    have hO3 : OnK q m m4 := ((kk.onK q).trans s3.onK).trans d5
    rw [d1']
    cases res with
    | true =>
      rw [if_pos rfl]
      exact ⟨true, c3, m4, rfl, .stop hr hcr (by simpa using d2), d3, d4, hO3, fun i hi => d6 i (up0 i hi)⟩
    | false =>
      rw [if_neg (by simp), k_f79_1_eq]
      obtain ⟨j1, j2, j3⟩ := d3.at hr.is.1
      obtain ⟨m5, w1, w2, w3⟩ := j3 2
      rw [j1, bnd_some, w1, bnd_some]
      have hu3 : ∀ i, updI (fun i => (c3 i : Nat)) r 2 i = ((upd c3 r 2 i : Nat) : Int) := fun i => by unfold updI upd; split <;> rfl
      have w2' : IRw m5 q (fun i => (upd c3 r 2 i : Nat)) ns.length := by
        have := w2; rw [show updI (fun i => (c3 i : Nat)) r 2 = fun i => ((upd c3 r 2 i : Nat) : Int) from funext hu3] at this; exact this
      exact ⟨false, _, m5, rfl, .down hr hcr (by simpa using d2) .nil, w2', fun i => by unfold upd; split; omega; exact d4 i, hO3.trans w3.onK, fun i hi => by
        unfold upd; split
        · simp
        · exact d6 i (up0 i hi)⟩
  · rw [decide_eq_true (by simp), onBool_true]
    simp only [bnd_some, i2, aBin_eql]
    have hO := kk.onK q
    refine ⟨true, col, m2, ?_, .gray hr hcr, hI2, hc2, hO, fun _ h => h⟩
    have : decide (((col r : Nat) : Int) = 1) = true := decide_eq_true (by rw [hcr]; rfl)
    simp only [hcr] at this ⊢
    rw [this]
  · rw [decide_eq_true (by omega), onBool_true]
    simp only [bnd_some, i2, aBin_eql]
    have := hc2 r
    have hO := kk.onK q
    refine ⟨false, col, m2, ?_, .black hr (by omega) .nil, hI2, hc2, hO, fun _ h => h⟩
    have : decide (((col r : Nat) : Int) = 1) = false := decide_eq_false (by omega)
    rw [this]
theorem runify_s {m : Mem} {oo : Option Nat} {nv : AV} {ns : List Nd} (h : RV m oo nv ns) (g : Uni.Good ns) (hv : Vn ns) (hn : ns.length ≤ 1000000) (hal : ∀ i, (argsOf ns i).length ≤ 1000000) (a c : Int) :
    ∃ e nv' o' ns' m', w_f49 (.agg [nv]) (.int .i64 a) (.int .i64 c) m = some (.ret (.tup [.agg [nv'], .int .i64 e]), m') ∧ RV m' o' nv' ns' ∧ Kept m m' ∧ ((o' = oo) ∨ ∃ j, o' = some j ∧ m.next ≤ j) ∧
      (((inB ns.length a && inB ns.length c) = false ∧ e = 221 ∧ ns' = ns) ∨ ((inB ns.length a && inB ns.length c) = true ∧ UnP ns a.toNat c.toNat e ns')) := by
  generalize hm2 : (m.alloc (.row [nv] 0)).alloc (.row [.nils] 0) = m2
  have n2 : m2.next = m.next + 2 := by rw [← hm2]; simp
  have e6 : aBox (m.alloc (.row [nv] 0)) (.agg [.nils]) = some (.ptr (m.next + 1) 0 0, m2) := by rw [← hm2]; rfl
  have k2 : Kept m m2 := by rw [← hm2]; exact (Kept.alloc m _).trans (Kept.alloc _ _)
  have o3 : m2.obj m.next = some (.row [nv] 0) := by rw [← hm2]; simp only [alloc_obj, alloc_next]; rw [if_neg (by omega), if_pos trivial]
  have o6 : m2.obj (m.next + 1) = some (.row [.nils] 0) := by rw [← hm2]; simp
  have hR2 := h.kept k2
  obtain ⟨m3, a1, a2⟩ := rsis_s hR2 a
  have n3 := a2.next
  have o33 := (a2.obj m.next (by omega)).trans o3
  have o63 := (a2.obj (m.next + 1) (by omega)).trans o6
  -- the store itself goes back
  have back : ∀ (m4 : Mem) (e : Int), Keeps (m.next + 2) m2 m4 → (bnd (rLoad true 1 m4 (.ptr m.next 0 0)) fun v20 => bnd (rStore 1 m4 (.ptr (m.next + 1) 0 0) v20) fun m1 => bnd (rLoad true 1 m1 (.ptr (m.next + 1) 0 0)) fun vr0 => some (AOut.ret (.tup [vr0, .int .i64 e]), m1)) = some (.ret (.tup [.agg [nv], .int .i64 e]), m4.set (m.next + 1) (.row [nv] 0)) ∧ RV (m4.set (m.next + 1) (.row [nv] 0)) oo nv ns ∧ Kept m (m4.set (m.next + 1) (.row [nv] 0)) := by
    intro m4 e h4
    have q1 := (h4.obj m.next (by omega)).trans o3
    have q2 := (h4.obj (m.next + 1) (by omega)).trans o6
    have n4 := h4.next
    have hK : Kept m (m4.set (m.next + 1) (.row [nv] 0)) := ⟨by simp; omega, fun j hj => by rw [set_obj, if_neg (by omega), h4.obj j (by omega), k2.obj j hj]⟩
    refine ⟨?_, h.kept hK, hK⟩
    rw [(row1 q1).1, bnd_some, put1 q2, bnd_some, (row1 (v := nv) (by simp)).1, bnd_some]
  have none_ : ∀ m4, Keeps (m.next + 2) m2 m4 → (inB ns.length a && inB ns.length c) = false → ∃ e nv' o' ns' m', k_f49_1 (.int .i64 a) (.int .i64 c) (.ptr m.next 0 0) (.ptr (m.next + 1) 0 0) (.bool true) m4 = some (.ret (.tup [.agg [nv'], .int .i64 e]), m') ∧ RV m' o' nv' ns' ∧ Kept m m' ∧ ((o' = oo) ∨ ∃ j, o' = some j ∧ m.next ≤ j) ∧
      (((inB ns.length a && inB ns.length c) = false ∧ e = 221 ∧ ns' = ns) ∨ ((inB ns.length a && inB ns.length c) = true ∧ UnP ns a.toNat c.toNat e ns')) := by
    intro m4 h4 hI
    obtain ⟨q1, q2, q3⟩ := back m4 221 h4
    exact ⟨221, nv, oo, ns, _, by rw [k_f49_1_eq, onBool_true]; exact q1, q2, q3, .inl rfl, .inl ⟨hI, rfl, rfl⟩⟩
  have a2' : Keeps (m.next + 2) m2 m3 := by rw [← n2]; exact a2
  rw [e_f49, box1, memK_some, e6, memK_some, (row1 o3).1, bnd_some, a1, retK_ret, aUn_not, bnd_some]
  cases hIa : inB ns.length a with
  | false =>
    rw [Bool.not_false, onWant_true]
    have := none_ m3 a2' (by rw [hIa]; rfl)
    rw [hIa] at this; exact this
  | true =>
    rw [Bool.not_true, onWant_false, (row1 o33).1, bnd_some]
    obtain ⟨m4, b1, b2⟩ := rsis_s (hR2.kept a2) c
    have n4 := b2.next
    have k24 : Keeps (m.next + 2) m2 m4 := by rw [← n2]; exact a2.trans b2
    rw [b1, retK_ret, aUn_not, bnd_some]
    cases hIc : inB ns.length c with
    | false =>
      rw [Bool.not_false]
      have := none_ m4 k24 (by rw [hIc]; simp)
      rw [hIa, hIc] at this; exact this
    | true =>
      have o34 := (k24.obj m.next (by omega)).trans o3
      have o64 := (k24.obj (m.next + 1) (by omega)).trans o6
      unfold inB at hIa hIc
      simp only [decide_eq_true_eq] at hIa hIc
      obtain ⟨ha0, ha1⟩ := hIa
      obtain ⟨hc0, hc1⟩ := hIc
      obtain ⟨a, rfl⟩ := Int.eq_ofNat_of_zero_le ha0
      obtain ⟨c, rfl⟩ := Int.eq_ofNat_of_zero_le hc0
      have hR4 := (hR2.kept a2).kept b2
      obtain ⟨ok, ns1, nv1, o1, m5, c1, c2, c3, c4, c5⟩ := rmerged_s hR4 g.lk g.av hn hal (a := a) (c := c) (by omega) (by omega)
      have n5 := c4.next
      have k25 : Keeps (m.next + 2) m2 m5 := k24.trans (c4.less (by omega))
      have eb : aBox m5 (.agg [.nils]) = some (.ptr m5.next 0 0, m5.alloc (.row [.nils] 0)) := rfl
      have ob : (m5.alloc (.row [.nils] 0)).obj m5.next = some (.row [.nils] 0) := by simp
      generalize hm6 : (m5.alloc (.row [.nils] 0)).set m5.next (.row [nv1] 0) = m6
      have s6 : rStore 1 (m5.alloc (.row [.nils] 0)) (.ptr m5.next 0 0) (.agg [nv1]) = some m6 := by rw [← hm6]; exact put1 ob
      have n6 : m6.next = m5.next + 1 := by rw [← hm6]; rfl
      have ob6 : m6.obj m5.next = some (.row [nv1] 0) := by rw [← hm6]; simp
      have k56 : Kept m5 m6 := by rw [← hm6]; exact (Kept.alloc m5 _).set (Nat.le_refl _) _
      have k26 : Keeps (m.next + 2) m2 m6 := k25.trans (k56.less (by omega))
      rw [Bool.not_true, k_f49_1_eq, onBool_false, k_f49_0_eq, (row1 o34).1, bnd_some]
      have c1' : w_f60 (.agg [nv]) (.int .i64 (Int.ofNat a)) (.int .i64 (Int.ofNat c)) m4 = some (.ret (.tup [.agg [nv1], .bool ok]), m5) := c1
      first | rw [c1, retK_ret] | rw [c1', retK_ret]
      simp only [aExtract_tup, List.getElem?_cons_zero, List.getElem?_cons_succ, bnd_some]
      rw [eb, memK_some, s6, bnd_some, aUn_not, bnd_some]
      cases ok with
      | false =>
        obtain ⟨q1, q2, q3⟩ := back m6 131 k26
        rw [Bool.not_false, onBool_true]
        exact ⟨131, nv, oo, ns, _, q1, q2, q3, .inl rfl, .inr ⟨rfl, false, ns1, c2, .inl ⟨rfl, rfl, rfl⟩⟩⟩
      | true =>
        have hR6 := c3.kept k56
        have hl1 : ns1.length = ns.length := c2.sd.len
        obtain ⟨w1, w2⟩ := irw_new m6 (n := ns1.length) (by omega)
        have k67 : Kept m6 (m6.alloc (.row (repl ns1.length [.int .i64 0]) 0)) := Kept.alloc m6 _
        have ho1 := c3.oo o1 rfl
        obtain ⟨res, col', m8, d1, d2, d3, d4, d5, _⟩ := rrounds_s (q := m6.next) (o := some o1) (nv := nv1) (ns := ns1) (by simp; omega) (c2.lk g.lk) (g.av.sd c2.sd) (fun i => by rw [c2.sd.args]; exact hal i) _ (m6.alloc (.row (repl ns1.length [.int .i64 0]) 0)) (fun _ => 0) a rfl (hR6.kept k67) w2 (fun _ => by omega) (by simp) (by omega)
        have htell := d2.tells (c2.clo g.cm) (hv.sd c2.sd)
        have n8 : m6.next + 1 ≤ m8.next := d5.next
        have k28 : Keeps (m.next + 2) m2 m8 := ⟨by omega, fun j hj => by rw [d5.obj j (by simp; omega) (by omega), k67.obj j (by omega)]; exact k26.obj j hj⟩
        rw [Bool.not_true, onBool_false, k_f49_2_eq, (row1 ob6).1, bnd_some]
        simp only [rFieldAddr_ptr, bnd_some]
        rw [(row1 ob6).2, bnd_some, hR6.len, bnd_some, w1, memK_some]
        have d1' : w_f79 (.agg [nv1]) (.int .i64 (Int.ofNat a)) (.ms m6.next 0 0 ns1.length 1) (m6.alloc (.row (repl ns1.length [.int .i64 0]) 0)) = some (.ret (.bool res), m8) := d1
        first | rw [d1, retK_ret] | rw [d1', retK_ret]
        cases res with
        | true =>
          obtain ⟨q1, q2, q3⟩ := back m8 130 k28
          rw [onBool_true]
          exact ⟨130, nv, oo, ns, _, q1, q2, q3, .inl rfl, .inr ⟨rfl, true, ns1, c2, .inr (.inl ⟨rfl, (fun hf => nomatch htell.2 hf), rfl, rfl⟩)⟩⟩
        | false =>
          rw [onBool_false, k_f49_3_eq]
          have ob8 : m8.obj m5.next = some (.row [nv1] 0) := (d5.obj _ (by simp; omega) (by omega)).trans ((k67.obj _ (by omega)).trans ob6)
          have o68 := (k28.obj (m.next + 1) (by omega)).trans o6
          have hR8 : RV m8 (some o1) nv1 ns1 := (hR6.kept k67).onK d5 (by simp; omega)
          rw [(row1 ob8).1, bnd_some, put1 o68, bnd_some, (row1 (v := nv1) (by simp)).1, bnd_some]
          refine ⟨0, nv1, some o1, ns1, _, rfl, hR8.move (by simp) (fun j e => by cases e; rw [set_obj, if_neg (by omega)]), ⟨by simp; omega, fun j hj => by rw [set_obj, if_neg (by omega), k28.obj j (by omega), k2.obj j hj]⟩, .inr ⟨o1, rfl, by omega⟩, .inr ⟨rfl, true, ns1, c2, .inr (.inr ⟨rfl, htell.1 rfl, rfl, rfl⟩)⟩⟩
end Go.AM
