/-
  The document's store over the machine: sizes, types.
-/
import Derived.Test.YtpffgljpkehgmaaRUn1
import Derived.Test.YtpffgljpkehgmaaUni5
set_option linter.unusedVariables false
set_option linter.unusedSimpArgs false
namespace Go.AM
open Go Go.Proofs Uni
set_option linter.unusedSimpArgs false
set_option linter.unusedVariables false
/-- sizes that are known -/
structure KI (ns : List Nd) (m : Mem) (q : Nat) : Prop where
  ex : ∃ f, IRw m q f ns.length ∧ ∀ r t, St ns [r] t → 0 < f r → f r = (fsz 0 t : Nat)
theorem KI.move {ns : List Nd} {m m' : Mem} {q : Nat} (h : KI ns m q) (e : m'.obj q = m.obj q) : KI ns m' q := by
  obtain ⟨f, h1, h2⟩ := h.ex
  exact ⟨f, h1.move e, h2⟩
theorem ki_new {ns : List Nd} (m : Mem) (hn : ns.length ≤ 1000000) : rMakeSlice A_int 0 m (.int .i64 ns.length) (.int .i64 ns.length) = some (.ms m.next 0 0 ns.length 1, m.alloc (.row (repl ns.length [.int .i64 0]) 0)) ∧ KI ns (m.alloc (.row (repl ns.length [.int .i64 0]) 0)) m.next := by
  obtain ⟨h1, h2⟩ := irw_new m hn
  exact ⟨h1, ⟨_, h2, fun r t _ h => absurd h (by simp)⟩⟩
theorem rsize_s {o : Option Nat} {nv : AV} {ns : List Nd} {q : Nat} (hqo : some q ≠ o) (g : Uni.Good ns) (hv : Vn ns) (hal : ∀ i, (argsOf ns i).length ≤ 1000000) {x : Nat} (hf : Uni.Fin ns (Sim ns) x) : ∀ (m : Mem) (t : Fo), RV m o nv ns → KI ns m q → q < m.next → St ns [x] t →
    ∃ m', w_f53 (.agg [nv]) (.int .i64 x) (.ms q 0 0 ns.length 1) m = some (.ret (.int .i64 (fsz 0 t : Nat)), m') ∧ KI ns m' q ∧ OnK q m m' := by
  induction hf with
  | @mk x _ ih =>
  intro m t hR hK hq ht
  obtain ⟨r, hr⟩ : ∃ r, Rt ns x r := by cases ht with | v h1 => exact ⟨_, h1⟩ | c h1 => exact ⟨_, h1⟩
  have htr : St ns [r] t := ht.alike hr.sim
  have k1 : Kept m (m.alloc (.row [nv] 0)) := Kept.alloc m _
  have ob : (m.alloc (.row [nv] 0)).obj m.next = some (.row [nv] 0) := by simp
  obtain ⟨m2, f1, f2⟩ := rfind_s (hR.kept k1) hr
  have kk : Kept m m2 := k1.trans f2
  have n2 : m.next + 1 ≤ m2.next := f2.next
  have ob2 := (f2.obj m.next (by simp)).trans ob
  obtain ⟨f, hI, hf2⟩ := hK.ex
  have hI2 := hI.move (kk.obj q hq)
  obtain ⟨i1, i2, i3⟩ := hI2.at hr.is.1
  rw [e_f53, box1, memK_some, (row1 ob).1, bnd_some, f1, retK_ret, i1, bnd_some, i2, bnd_some, aBin_gtr, bnd_some]
  by_cases hp : 0 < f r
  · rw [decide_eq_true hp, onBool_true]
    simp only [bnd_some, i2]
    exact ⟨m2, by rw [hf2 r t htr hp], ⟨f, hI2, hf2⟩, kk.onK q⟩
  rw [decide_eq_false hp, onBool_false, k_f53_0_eq]
  have loop : ∀ (j i k : Nat) (m3 : Mem) (u : Fo), (argsOf ns r).length - i = j → i ≤ (argsOf ns r).length → k ≤ 301 → RV m3 o nv ns → KI ns m3 q → m.next < m3.next → m3.obj m.next = some (.row [nv] 0) → St ns ((argsOf ns r).drop i) u →
      ∃ m4, l_f53_0 (.int .i64 r) (.ms q 0 0 ns.length 1) (.ptr m.next 0 0) (.int .i64 k) (.int .i64 i) m3 = k_f53_1 (.int .i64 r) (.ms q 0 0 ns.length 1) (.ptr m.next 0 0) (.int .i64 (fsz k u : Nat)) (.int .i64 (argsOf ns r).length) m4 ∧ KI ns m4 q ∧ OnK q m3 m4 := by
    intro j
    induction j with
    | zero =>
      intro i k m3 u hj hi hk hR3 hK3 hn3 hb3 hst
      have : i = (argsOf ns r).length := by omega
      subst this
      rw [List.drop_length] at hst
      cases hst
      obtain ⟨oo, ver, av, ux, a1, a2, a3, a4, a5, a6⟩ := rnode hb3 hR3 hr.is.1
      have hlen : (nts (argsOf ns r)).length = (argsOf ns r).length := by simp [nts]
      rw [l_f53_0_eq]
      simp only [rFieldAddr_ptr, bnd_some, a1, a3, a4, a5.len, hlen, aBin_lss, Int.lt_irrefl, decide_false, onBool_false]
      exact ⟨m3, rfl, hK3, .refl ..⟩
    | succ j ihj =>
      intro i k m3 u hj hi hk hR3 hK3 hn3 hb3 hst
      have hilt : i < (argsOf ns r).length := by omega
      have hd : (argsOf ns r).drop i = (argsOf ns r)[i] :: (argsOf ns r).drop (i + 1) := List.drop_eq_getElem_cons hilt
      obtain ⟨oo, ver, av, ux, a1, a2, a3, a4, a5, a6⟩ := rnode hb3 hR3 hr.is.1
      have hlen : (nts (argsOf ns r)).length = (argsOf ns r).length := by simp [nts]
      have hix : rIxAddrSl 1 av (.int .i64 i) = some (.pim [.int .i64 ((argsOf ns r)[i] : Nat)]) := a5.ix (x := .int .i64 ((argsOf ns r)[i] : Nat)) (by simp [nts, hilt]) rfl rfl
      rw [hd] at hst
      obtain ⟨tz, rest, z1, z2, z3⟩ := st_split hst
      obtain ⟨m4, c1, c2, c3⟩ := ih r _ hr.sim (List.getElem_mem hilt) m3 tz hR3 hK3 (by omega) z1
      have n4 := c3.next
      have hsz := fsz_le tz 0 (by omega)
      obtain ⟨m5, e1, e2, e3⟩ := ihj (i + 1) (min (k + fsz 0 tz) 301) m4 rest (by omega) (by omega) (by omega) (hR3.onK c3 hqo) c2 (by omega) ((c3.obj _ (by omega) (by omega)).trans hb3) z2
      refine ⟨m5, ?_, e2, c3.trans e3⟩
      rw [l_f53_0_eq]
      simp only [rFieldAddr_ptr, bnd_some, a1, a3, a4, a5.len, hlen, aBin_lss]
      have hal' := hal r
      have hw : IntKind.i64.wrap ((k : Int) + (fsz 0 tz : Nat)) = ((k + fsz 0 tz : Nat) : Int) := by rw [wrap64 (by omega) (by omega)]; simp
      rw [decide_eq_true (by omega), onBool_true, k_f53_2_eq]
      simp only [rFieldAddr_ptr, bnd_some, a1, a2, a3, a4, hix, rLoad_pimc, List.getElem?_cons_zero, c1, retK_ret, aBin_add, hw, aBin_gtr]
      have next : ∀ z : Int, z = (min (k + fsz 0 tz) 301 : Nat) → k_f53_3 (.int .i64 r) (.ms q 0 0 ns.length 1) (.ptr m.next 0 0) (.int .i64 z) (.int .i64 i) m4 = k_f53_1 (.int .i64 r) (.ms q 0 0 ns.length 1) (.ptr m.next 0 0) (.int .i64 (fsz k u : Nat)) (.int .i64 (argsOf ns r).length) m5 := by
        intro z hz
        subst hz
        rw [k_f53_3_eq]
        simp only [aBin_add, bnd_some]
        rw [wrap64 (by omega) (by omega), z3 k, ← e1]
        rfl
      by_cases h3 : (301 : Int) < (k + fsz 0 tz : Nat)
      · rw [decide_eq_true h3, onBool_true]
        exact next _ (by rw [Nat.min_eq_right (by omega)]; rfl)
      · rw [decide_eq_false h3, onBool_false]
        exact next _ (by rw [Nat.min_eq_left (by omega)])
  have hu' : ∃ u, St ns (argsOf ns r) u ∧ fsz 1 u = fsz 0 t := by
    cases htr with
    | v h1 h2 h3 =>
      cases h1.inj hr.self
      cases h3
      exact ⟨.nil, by rw [hv r h2]; exact .nil, rfl⟩
    | @c _ _ _ aa _ h1 h2 h3 h4 =>
      cases h1.inj hr.self
      cases h4
      refine ⟨_, h3, ?_⟩
      have := fsz_le aa 1 (by omega)
      simp only [fsz]; omega
  obtain ⟨u, u1, u2⟩ := hu'
  obtain ⟨m3, d1, d2, d3⟩ := loop _ 0 1 m2 u rfl (Nat.zero_le _) (by omega) (hR.kept kk) ⟨f, hI2, hf2⟩ (by omega) ob2 (by simpa using u1)
  obtain ⟨f', hI3, hf3⟩ := d2.ex
  obtain ⟨j1, j2, j3⟩ := hI3.at hr.is.1
  obtain ⟨m4, s1, s2, s3⟩ := j3 (fsz 0 t : Nat)
  have d1' : l_f53_0 (.int .i64 r) (.ms q 0 0 ns.length 1) (.ptr m.next 0 0) (.int .i64 1) (.int .i64 0) m2 = _ := d1
  refine ⟨m4, ?_, ⟨_, s2, fun r' t' ht' hp' => ?_⟩, ((kk.onK q).trans d3).trans s3.onK⟩
  · rw [d1', k_f53_1_eq, u2, j1, bnd_some, s1, bnd_some]
  · unfold updI at hp' ⊢
    by_cases he : r' = r
    · subst he
      rw [if_pos rfl, htr.inj ht']
    · rw [if_neg he] at hp' ⊢
      exact hf3 r' t' ht' hp'
theorem rSize_s {m : Mem} {o : Option Nat} {nv : AV} {ns : List Nd} (h : RV m o nv ns) (g : Uni.Good ns) (hv : Vn ns) (hn : ns.length ≤ 1000000) (hal : ∀ i, (argsOf ns i).length ≤ 1000000) (x : Int) :
    ∃ n m', w_f22 (.agg [nv]) (.int .i64 x) m = some (.ret (.int .i64 (n : Nat)), m') ∧ Kept m m' ∧ ((inB ns.length x = false ∧ n = 0) ∨ (inB ns.length x = true ∧ ∃ t, St ns [x.toNat] t ∧ n = fsz 0 t)) := by
  have k1 : Kept m (m.alloc (.row [nv] 0)) := Kept.alloc m _
  have ob : (m.alloc (.row [nv] 0)).obj m.next = some (.row [nv] 0) := by simp
  obtain ⟨m2, a1, a2⟩ := rsis_s (h.kept k1) x
  have kk := k1.trans a2
  have n2 : m.next + 1 ≤ m2.next := a2.next
  have ob2 := (a2.obj m.next (by simp)).trans ob
  rw [e_f22, box1, memK_some, (row1 ob).1, bnd_some, a1, retK_ret, aUn_not, bnd_some]
  cases hI : inB ns.length x with
  | false =>
    rw [Bool.not_false, onBool_true]
    exact ⟨0, m2, rfl, kk, .inl ⟨rfl, rfl⟩⟩
  | true =>
    unfold inB at hI
    simp only [decide_eq_true_eq] at hI
    obtain ⟨n, rfl⟩ := Int.eq_ofNat_of_zero_le hI.1
    obtain ⟨t, ht⟩ := st_fin g.lk g.av (g.fin n) (by omega)
    have hR2 := h.kept kk
    obtain ⟨w1, w2⟩ := ki_new (ns := ns) m2 hn
    have k3 : Kept m2 (m2.alloc (.row (repl ns.length [.int .i64 0]) 0)) := Kept.alloc m2 _
    have hoo := h.oo
    obtain ⟨m4, s1, s2, s3⟩ := rsize_s (q := m2.next) (o := o) (nv := nv) (fun e => by have := hoo _ e.symm; omega) g hv hal (g.fin n) _ t (hR2.kept k3) w2 (by simp) ht
    have n4 : m2.next + 1 ≤ m4.next := s3.next
    rw [Bool.not_true, onBool_false, k_f22_0_eq, (row1 ob2).1, bnd_some]
    simp only [rFieldAddr_ptr, bnd_some]
    rw [(row1 ob2).2, bnd_some, hR2.len, bnd_some, w1, memK_some]
    refine ⟨fsz 0 t, m4, ?_, ⟨by omega, fun j hj => ?_⟩, .inr ⟨trivial, t, ht, rfl⟩⟩
    · have s1' : w_f53 (.agg [nv]) (.int .i64 (Int.ofNat n)) (.ms m2.next 0 0 ns.length 1) (m2.alloc (.row (repl ns.length [.int .i64 0]) 0)) = some (.ret (.int .i64 (fsz 0 t : Nat)), m4) := s1
      first | rw [s1, retK_ret] | rw [s1', retK_ret]
    · rw [s3.obj j (by simp; omega) (by omega), k3.obj j (by omega)]; exact kk.obj j hj
theorem rtyp_s {o : Option Nat} {nv : AV} {ns : List Nd} (g : Uni.Good ns) (hal : ∀ i, (argsOf ns i).length ≤ 1000000) {x : Nat} (hf : Uni.Fin ns (Sim ns) x) : ∀ (m : Mem) (t : Fo), RV m o nv ns → St ns [x] t →
    ∃ v m', w_f55 (.agg [nv]) (.int .i64 x) m = some (.ret v, m') ∧ TyL t [v] ∧ Kept m m' := by
  induction hf with
  | @mk x _ ih =>
  intro m t hR ht
  obtain ⟨r, hr⟩ : ∃ r, Rt ns x r := by cases ht with | v h1 => exact ⟨_, h1⟩ | c h1 => exact ⟨_, h1⟩
  -- boxes: m.next the store, m.next + 1 what goes back, then the node
  generalize hm2 : (m.alloc (.row [nv] 0)).alloc (.row tyZero 0) = m2
  have e2 : aBox (m.alloc (.row [nv] 0)) (.agg [.int .i64 0, .int .i64 0, .str (bs []), .nils]) = some (.ptr (m.next + 1) 0 0, m2) := by rw [← hm2]; rfl
  have n2 : m2.next = m.next + 2 := by rw [← hm2]; simp
  have k2 : Kept m m2 := by rw [← hm2]; exact (Kept.alloc m _).trans (Kept.alloc _ _)
  have o3 : m2.obj m.next = some (.row [nv] 0) := by rw [← hm2]; simp only [alloc_obj, alloc_next]; rw [if_neg (by omega), if_pos trivial]
  have o4 : m2.obj (m.next + 1) = some (.row tyZero 0) := by rw [← hm2]; simp
  obtain ⟨m3, f1, f2⟩ := rfind_s (hR.kept k2) hr
  have n3 := f2.next
  have o33 := (f2.obj m.next (by omega)).trans o3
  have o43 := (f2.obj (m.next + 1) (by omega)).trans o4
  have hR3 := (hR.kept k2).kept f2
  obtain ⟨oo, ver, av, ux, a1, a2, a3, a4, a5, a6⟩ := rnode o33 hR3 hr.is.1
  generalize hm5 : (m3.alloc (.row [.int .i64 0, .str (bs []), .nils, .int .i64 0] 0)).set m3.next (.row [.int .i64 (kOf ns r), .str (bs (nmOf ns r)), av, ux] 0) = m5
  have ndb : aBox m3 (.agg [.int .i64 0, .str (bs []), .nils, .int .i64 0]) = some (.ptr m3.next 0 0, m3.alloc (.row [.int .i64 0, .str (bs []), .nils, .int .i64 0] 0)) := rfl
  have s5 : rStore 4 (m3.alloc (.row [.int .i64 0, .str (bs []), .nils, .int .i64 0] 0)) (.ptr m3.next 0 0) (.agg [.int .i64 (kOf ns r), .str (bs (nmOf ns r)), av, ux]) = some m5 := by
    rw [← hm5]; exact put4 (x := .int .i64 0) (y := .str (bs [])) (z := .nils) (w := .int .i64 0) (by simp)
  have n5 : m5.next = m3.next + 1 := by rw [← hm5]; rfl
  have k35 : Kept m3 m5 := by rw [← hm5]; exact (Kept.alloc m3 _).set (Nat.le_refl _) _
  have o5 : m5.obj m3.next = some (.row [.int .i64 (kOf ns r), .str (bs (nmOf ns r)), av, ux] 0) := by rw [← hm5]; simp
  have o35 := (k35.obj m.next (by omega)).trans o33
  have o45 := (k35.obj (m.next + 1) (by omega)).trans o43
  have kk5 : Kept m m5 := (k2.trans f2).trans k35
  obtain ⟨d1, d2, d3, d4, d5⟩ := row4 o5
  rw [e_f55, box1, memK_some, e2, memK_some, (row1 o3).1, bnd_some, f1, retK_ret]
  simp only [rFieldAddr_ptr, bnd_some]
  rw [a1, bnd_some, a3, bnd_some, a6, bnd_some, ndb, memK_some, s5, bnd_some]
  try simp only [rFieldAddr_ptr, bnd_some]
  rw [d1, bnd_some, aBin_eql, bnd_some]
  have fin : ∀ (m6 : Mem) (x y z w : AV), Keeps (m.next + 2) m5 m6 → x.cells? = some [x] → y.cells? = some [y] → z.cells? = some [z] → w.cells? = some [w] → rStore 4 m6 (.ptr (m.next + 1) 0 0) (.agg [x, y, z, w]) = some (m6.set (m.next + 1) (.row [x, y, z, w] 0)) ∧ rLoad true 4 (m6.set (m.next + 1) (.row [x, y, z, w] 0)) (.ptr (m.next + 1) 0 0) = some (.agg [x, y, z, w]) ∧ Kept m (m6.set (m.next + 1) (.row [x, y, z, w] 0)) := by
    intro m6 x y z w h6 _ _ _ _
    have q := (h6.obj (m.next + 1) (by omega)).trans o45
    have n6 := h6.next
    refine ⟨put4 q, (row4 (by simp)).2.2.2.2, ⟨by simp; omega, fun j hj => by rw [set_obj, if_neg (by omega), h6.obj j (by omega)]; exact kk5.obj j hj⟩⟩
  cases ht with
  | v h1 h2 h3 =>
    cases h1.inj hr
    cases h3
    have eb : rBuild [.int .i64 0, .int .i64 0, .str (bs []), .nils] [(0, 1, .int .i64 1), (1, 1, .int .i64 (r : Nat))] = some (.agg [.int .i64 1, .int .i64 r, .str (bs []), .nils]) := rfl
    obtain ⟨q1, q2, q3⟩ := fin m5 (.int .i64 1) (.int .i64 r) (.str (bs [])) .nils (.refl ..) rfl rfl rfl rfl
    rw [h2, decide_eq_true rfl, onBool_true, eb, bnd_some, q1, bnd_some, q2, bnd_some]
    exact ⟨_, _, rfl, .v .nil, q3⟩
  | @c _ _ _ aa _ h1 h2 h3 h4 =>
    cases h1.inj hr
    cases h4
    rw [decide_eq_false h2, onBool_false, k_f55_0_eq]
    have eb : rBuild [.int .i64 0, .int .i64 0, .str (bs []), .nils] [(0, 1, .int .i64 (kOf ns r)), (2, 1, .str (bs (nmOf ns r)))] = some (.agg [.int .i64 (kOf ns r), .int .i64 0, .str (bs (nmOf ns r)), .nils]) := rfl
    simp only [rFieldAddr_ptr, bnd_some, d1, d2, eb]
    rw [tyBox, memK_some]
    generalize hm6 : (m5.alloc (.row tyZero 0)).set m5.next (.row [.int .i64 (kOf ns r), .int .i64 0, .str (bs (nmOf ns r)), .nils] 0) = m6
    have st6 : rStore 4 (m5.alloc (.row tyZero 0)) (.ptr m5.next 0 0) (.agg [.int .i64 (kOf ns r), .int .i64 0, .str (bs (nmOf ns r)), .nils]) = some m6 := by
      rw [← hm6]; exact put4 (x := .int .i64 0) (y := .int .i64 0) (z := .str (bs [])) (w := .nils) (by simp)
    have n6 : m6.next = m5.next + 1 := by rw [← hm6]; rfl
    have k56 : Kept m5 m6 := by rw [← hm6]; exact (Kept.alloc m5 _).set (Nat.le_refl _) _
    have o10 : m6.obj m5.next = some (.row [.int .i64 (kOf ns r), .int .i64 0, .str (bs (nmOf ns r)), .nils] 0) := by rw [← hm6]; simp
    rw [st6, bnd_some]
    have hlen : (nts (argsOf ns r)).length = (argsOf ns r).length := by simp [nts]
    have loop : ∀ (j i : Nat) (m7 : Mem) (u : Fo) (w : AV) (ys : List AV), (argsOf ns r).length - i = j → i ≤ (argsOf ns r).length → RV m7 o nv ns → m5.next < m7.next → Keeps m5.next m5 m7 → m7.obj m5.next = some (.row [.int .i64 (kOf ns r), .int .i64 0, .str (bs (nmOf ns r)), w] 0) →
        App (m5.next + 1) 4 m7 w ys → ys.length = i → St ns ((argsOf ns r).drop i) u →
        ∃ w' zs m8, l_f55_0 (.ptr m.next 0 0) (.ptr (m.next + 1) 0 0) (.ptr m3.next 0 0) (.ptr m5.next 0 0) (.int .i64 i) m7 = k_f55_1 (.ptr m.next 0 0) (.ptr (m.next + 1) 0 0) (.ptr m3.next 0 0) (.ptr m5.next 0 0) (.int .i64 (argsOf ns r).length) m8 ∧
          m8.obj m5.next = some (.row [.int .i64 (kOf ns r), .int .i64 0, .str (bs (nmOf ns r)), w'] 0) ∧ HSl w' (ys ++ zs) ∧ TyL u zs ∧ Keeps m5.next m5 m8 ∧ m5.next < m8.next := by
      intro j
      induction j with
      | zero =>
        intro i m7 u w ys hj hi hR7 hn7 hK7 hb hA hy hst
        have : i = (argsOf ns r).length := by omega
        subst this
        rw [List.drop_length] at hst
        cases hst
        have o57 := (hK7.obj m3.next (by omega)).trans o5
        rw [l_f55_0_eq]
        simp only [rFieldAddr_ptr, bnd_some, (row4 o57).2.2.1, a5.len, hlen, aBin_lss, Int.lt_irrefl, decide_false, onBool_false]
        exact ⟨w, [], m7, rfl, hb, by simpa using hA.hsl, .nil, hK7, hn7⟩
      | succ j ihj =>
        intro i m7 u w ys hj hi hR7 hn7 hK7 hb hA hy hst
        have hilt : i < (argsOf ns r).length := by omega
        have hd : (argsOf ns r).drop i = (argsOf ns r)[i] :: (argsOf ns r).drop (i + 1) := List.drop_eq_getElem_cons hilt
        have hix : rIxAddrSl 1 av (.int .i64 i) = some (.pim [.int .i64 ((argsOf ns r)[i] : Nat)]) := a5.ix (x := .int .i64 ((argsOf ns r)[i] : Nat)) (by simp [nts, hilt]) rfl rfl
        have o57 := (hK7.obj m3.next (by omega)).trans o5
        have o37 := (hK7.obj m.next (by omega)).trans o35
        rw [hd] at hst
        have hst' : ∃ tz rest, St ns [(argsOf ns r)[i]] tz ∧ St ns ((argsOf ns r).drop (i + 1)) rest ∧ ∀ v zs', TyL tz [v] → TyL rest zs' → TyL u (v :: zs') := by
          cases hst with
          | v h1 h2 h3 => exact ⟨_, _, .v h1 h2 .nil, h3, fun v zs' g1 g2 => by cases g1; exact .v g2⟩
          | c h1 h2 h3 h4 => exact ⟨_, _, .c h1 h2 h3 .nil, h4, fun v zs' g1 g2 => by cases g1 with | c a1 a2 _ => exact .c a1 a2 g2⟩
        obtain ⟨tz, rest, z1, z2, z3⟩ := hst'
        obtain ⟨v, m8, c1, c2, c4⟩ := ih r _ hr.sim (List.getElem_mem hilt) m7 tz hR7 z1
        obtain ⟨va, vb, vc, vd, rfl⟩ := c2.one
        have n8 := c4.next
        have hb8 := (c4.obj m5.next hn7).trans hb
        have hA8 : App (m5.next + 1) 4 m8 w ys := hA.kept c4
        have hal' := hal r
        have hbytes : A_api_Type.bytes = 56 := rfl
        obtain ⟨w5, m9, p1, p2, p3, _⟩ := App.append (A := A_api_Type) (b := m5.next + 1) (m := m8) (v := w) (w := .sl .full [.agg [va, vb, vc, vd]]) (xs := ys) (ys := [.agg [va, vb, vc, vd]]) hA8 (by omega) (.sl _ _) rfl ⟨by decide, rfl⟩ (by rw [hbytes]; simp only [List.length_cons, List.length_nil]; omega) (by simp only [List.length_cons, List.length_nil]; omega)
        have p2' : App (m5.next + 1) 4 m9 w5 (ys ++ [.agg [va, vb, vc, vd]]) := p2
        have hb9 := (p3.obj m5.next (by omega)).trans hb8
        have n9 := p3.next
        have st9 := (row4f hb9).1 w5 p2.hsl.cells
        have hK9 : Keeps m5.next m5 (m9.set m5.next (.row [.int .i64 (kOf ns r), .int .i64 0, .str (bs (nmOf ns r)), w5] 0)) := ⟨by simp; omega, fun j' hj' => by rw [set_obj, if_neg (by omega), p3.obj j' (by omega), c4.obj j' (by omega)]; exact hK7.obj j' hj'⟩
        have hR9 : RV (m9.set m5.next (.row [.int .i64 (kOf ns r), .int .i64 0, .str (bs (nmOf ns r)), w5] 0)) o nv ns := hR.move (by simp; omega) fun j' e => by have := hR.oo j' e; rw [hK9.obj j' (by omega)]; exact kk5.obj j' this
        obtain ⟨w', zs, m10, e1, e2, e3, e4, e5, e6⟩ := ihj (i + 1) _ rest w5 (ys ++ [.agg [va, vb, vc, vd]]) (by omega) (by omega) hR9 (by simp; omega) hK9 (by simp) (p2'.move (by simp) fun j' j1 j2 => by rw [set_obj, if_neg (by omega)]) (by simp [hy]) z2
        refine ⟨w', .agg [va, vb, vc, vd] :: zs, m10, ?_, e2, by simpa using e3, z3 _ _ c2 e4, e5, e6⟩
        have es : rBuildSlice A_api_Type 1 [(0, .agg [va, vb, vc, vd])] = some (.sl .full [.agg [va, vb, vc, vd]]) := rfl
        rw [l_f55_0_eq]
        simp only [rFieldAddr_ptr, bnd_some, (row4 o57).2.2.1, a5.len, hlen, aBin_lss]
        rw [decide_eq_true (by omega), onBool_true, k_f55_2_eq]
        simp only [rFieldAddr_ptr, bnd_some, (row4 hb).2.2.2.1, (row1 o37).1, (row4 o57).2.2.1, hix, rLoad_pimc, List.getElem?_cons_zero, c1, retK_ret, es, p1, memK_some, st9, (row4 hb8).2.2.2.1, sameK_self, k_f55_3_eq, aBin_add]
        rw [wrap64 (by omega) (by omega), ← e1]
        rfl
    obtain ⟨w', zs, m8, e1, e2, e3, e4, e5, e6⟩ := loop _ 0 m6 aa .nils [] rfl (Nat.zero_le _) (hR.kept (kk5.trans k56)) (by omega) k56 o10 .nil rfl (by simpa using h3)
    have e1' : l_f55_0 (.ptr m.next 0 0) (.ptr (m.next + 1) 0 0) (.ptr m3.next 0 0) (.ptr m5.next 0 0) (.int .i64 0) m6 = _ := e1
    rw [List.nil_append] at e3
    obtain ⟨q1, q2, q3⟩ := fin m8 (.int .i64 (kOf ns r)) (.int .i64 0) (.str (bs (nmOf ns r))) w' (e5.less (by omega)) rfl rfl rfl e3.cells
    rw [e1', k_f55_1_eq, (row4 e2).2.2.2.2, bnd_some, q1, bnd_some, q2, bnd_some]
    exact ⟨_, _, rfl, .c e3 e4 .nil, q3⟩
end Go.AM
namespace Go.AM
open Go Go.Proofs Uni
set_option linter.unusedSimpArgs false
set_option linter.unusedVariables false
theorem nts_append (l k : List Nat) : nts (l ++ k) = nts l ++ nts k := by simp [nts]
theorem nts_len (l : List Nat) : (nts l).length = l.length := by simp [nts]
theorem nts_get {l : List Nat} {i : Nat} (h : i < l.length) : (nts l)[i]? = some (.int .i64 (l[i] : Nat)) := by simp [nts, h]
/-- boxes and rows stay -/
structure KR (m m' : Mem) : Prop where
  next : m.next ≤ m'.next
  obj : ∀ j cs ver, j < m.next → m.obj j = some (.row cs ver) → m'.obj j = some (.row cs ver)
theorem KR.refl (m : Mem) : KR m m := ⟨Nat.le_refl _, fun _ _ _ _ h => h⟩
theorem KR.trans {m1 m2 m3 : Mem} (h : KR m1 m2) (h' : KR m2 m3) : KR m1 m3 := ⟨Nat.le_trans h.next h'.next, fun j cs ver h1 h2 => h'.obj j cs ver (Nat.lt_of_lt_of_le h1 h.next) (h.obj j cs ver h1 h2)⟩
theorem Kept.kr {m m' : Mem} (h : Kept m m') : KR m m' := ⟨h.next, fun j _ _ h1 h2 => (h.obj j h1).trans h2⟩
def tipOf : AV → Option Nat
  | .sl (.own t) _ => some t
  | _ => none
/-- what a slice's growing changes -/
structure AF (v : AV) (m : Mem) (v' : AV) (m' : Mem) : Prop where
  next : m.next ≤ m'.next
  obj : ∀ j, j < m.next → tipOf v ≠ some j → m'.obj j = m.obj j
  tip : tipOf v' = tipOf v ∨ ∃ t, m.next ≤ t ∧ tipOf v' = some t
theorem AF.refl (v : AV) (m : Mem) : AF v m v m := ⟨Nat.le_refl _, fun _ _ _ => rfl, .inl rfl⟩
theorem Kept.af {m m' : Mem} (h : Kept m m') (v : AV) : AF v m v m' := ⟨h.next, fun j h1 _ => h.obj j h1, .inl rfl⟩
theorem AF.trans {v v' v'' : AV} {m m' m'' : Mem} (h : AF v m v' m') (h' : AF v' m' v'' m'') : AF v m v'' m'' := by
  refine ⟨Nat.le_trans h.next h'.next, fun j h1 h2 => ?_, ?_⟩
  · rw [h'.obj j (Nat.lt_of_lt_of_le h1 h.next), h.obj j h1 h2]
    rcases h.tip with e | ⟨t, e1, e2⟩
    · rw [e]; exact h2
    · rw [e2]; intro e; cases e; omega
  · rcases h'.tip with e | ⟨t, e1, e2⟩
    · rw [e]; exact h.tip
    · exact .inr ⟨t, Nat.le_trans h.next e1, e2⟩
theorem App.tips {b size : Nat} {m : Mem} {v : AV} {xs : List AV} (h : App b size m v xs) {t : Nat} (ht : tipOf v = some t) : b ≤ t ∧ t < m.next ∧ m.obj t = some (.tok xs.length size) := by
  cases h with
  | nil => cases ht
  | full => cases ht
  | lit => cases ht
  | own t _ h1 h2 h3 h4 => cases ht; exact ⟨h1, h2, h3⟩
theorem App.tmove {b size : Nat} {m m' : Mem} {v : AV} {xs : List AV} (h : App b size m v xs) (hn : m.next ≤ m'.next) (hk : ∀ t, tipOf v = some t → m'.obj t = m.obj t) : App b size m' v xs := by
  cases h with
  | nil => exact .nil
  | full _ h => exact .full _ h
  | lit _ h => exact .lit _ h
  | own t _ h1 h2 h3 h4 => exact .own t _ h1 (Nat.lt_of_lt_of_le h2 hn) ((hk t rfl).trans h3) h4
theorem AF.kr {b size : Nat} {m m' : Mem} {v v' : AV} {xs : List AV} (h : App b size m v xs) (k : AF v m v' m') : KR m m' := ⟨k.next, fun j cs ver h1 h2 => by
  rw [k.obj j h1]
  · exact h2
  · intro e
    rw [(h.tips e).2.2] at h2; cases h2⟩
theorem AF.keeps {b size : Nat} {m m' : Mem} {v v' : AV} {xs : List AV} (h : App b size m v xs) (hb : b ≤ m.next) (k : AF v m v' m') : Keeps b m m' := ⟨k.next, fun j h1 => k.obj j (by omega) fun e => by have := (h.tips e).1; omega⟩
theorem App.appendT {b : Nat} {A : AT} {m : Mem} {v w : AV} {xs ys : List AV} (h : App b A.size m v xs) (hb : b ≤ m.next) (hw : HSl w ys) (hy : sized A.size ys = true) (hz : A.size ≠ 0 ∧ sized A.size [A.zero] = true)
    (hl : (xs.length + ys.length) * A.bytes ≤ 2 ^ 47) (hl2 : xs.length + ys.length ≤ 2 ^ 47) : ∃ v' m', rAppend A 0 m v w = some (v', m') ∧ App b A.size m' v' (xs ++ ys) ∧ AF v m v' m' := by
  obtain ⟨v', m', h1, h2, h3, _⟩ := h.append hb hw hy hz hl hl2
  refine ⟨v', m', h1, h2, ?_⟩
  have e : rAppend A 0 m v w = aAppend2 0 m A v ys := by
    simp only [rAppend, hw.elems A m, Option.bind_some, hy, hz.2]
    rw [if_neg (by simp [hz.1])]
  rw [e] at h1
  clear h2 h3
  have halloc : ∀ (v : AV) o xs, AF v m (.sl (.own m.next) xs) (m.alloc o) := fun v o xs => ⟨by simp, fun j h1 _ => by rw [alloc_obj, if_neg (by omega)], .inr ⟨m.next, Nat.le_refl _, rfl⟩⟩
  cases h with
  | nil =>
    simp only [List.length_nil, Nat.zero_add] at hl hl2
    simp only [aAppend2] at h1
    rw [if_neg (by omega)] at h1
    split at h1
    · cases h1; exact .refl ..
    · cases h1; exact halloc ..
  | full _ hx =>
    simp only [aAppend2] at h1
    rw [if_neg (by omega)] at h1
    split at h1
    · cases h1; exact .refl ..
    · rw [if_neg (by simp [hx])] at h1
      cases h1; exact halloc ..
  | lit _ hx =>
    simp only [aAppend2] at h1
    rw [if_neg (by omega)] at h1
    split at h1
    · cases h1; exact .refl ..
    · rw [if_neg (by simp [hx])] at h1
      cases h1; exact halloc ..
  | own t _ g1 g2 g3 hx =>
    simp only [aAppend2] at h1
    rw [if_neg (by omega)] at h1
    split at h1
    · cases h1; exact .refl ..
    · rw [if_neg (by simp [hx])] at h1
      simp only [Tk.norm, g3, and_self, if_true] at h1
      cases h1
      exact ⟨by simp, fun j j1 j2 => by
        rw [set_obj, if_neg]
        rintro rfl; exact j2 rfl, .inl rfl⟩
theorem App.appendR {b : Nat} {A : AT} {m : Mem} {v w : AV} {xs ys : List AV} (h : App b A.size m v xs) (hb : b ≤ m.next) (hw : HSl w ys) (hy : sized A.size ys = true) (hz : A.size ≠ 0 ∧ sized A.size [A.zero] = true)
    (hl : (xs.length + ys.length) * A.bytes ≤ 2 ^ 47) (hl2 : xs.length + ys.length ≤ 2 ^ 47) : ∃ v' m', rAppend A 0 m v w = some (v', m') ∧ App b A.size m' v' (xs ++ ys) ∧ Keeps b m m' ∧ KR m m' := by
  obtain ⟨v', m', h1, h2, h3⟩ := h.appendT hb hw hy hz hl hl2
  exact ⟨v', m', h1, h2, h3.keeps h hb, h3.kr h⟩
/-- is the number among those that were met? -/
theorem rvars_find {b3 n : Nat} {z w : AV} {v0 : AV} {l : List Nat} (hv : HSl v0 (nts l)) (hl : l.length ≤ 1000000000) : ∀ (k j : Nat) (m : Mem), l.length - j = k → j ≤ l.length → m.obj b3 = some (.row [.int .i64 1, .int .i64 n, z, w] 0) →
    l_f56_0 v0 (.ptr b3 0 0) (.int .i64 j) m = if n ∈ l.drop j then some (.ret v0, m) else k_f56_1 v0 (.ptr b3 0 0) (.int .i64 l.length) m := by
  intro k
  induction k with
  | zero =>
    intro j m hk hj hb
    have : j = l.length := by omega
    subst this
    rw [l_f56_0_eq, hv.len, bnd_some, nts_len, aBin_lss, bnd_some, decide_eq_false (by omega), onBool_false, List.drop_length, if_neg (by simp)]
  | succ k ih =>
    intro j m hk hj hb
    have hlt : j < l.length := by omega
    have hd : l.drop j = l[j] :: l.drop (j + 1) := List.drop_eq_getElem_cons hlt
    have hix : rIxAddrSl 1 v0 (.int .i64 j) = some (.pim [.int .i64 (l[j] : Nat)]) := hv.ix (nts_get hlt) rfl rfl
    rw [l_f56_0_eq, hv.len, bnd_some, nts_len, aBin_lss, bnd_some, decide_eq_true (by omega), onBool_true, k_f56_3_eq, hix, bnd_some, rLoad_pimc, List.getElem?_cons_zero, bnd_some]
    simp only [rFieldAddr_ptr, bnd_some, (row4 hb).2.1, aBin_eql]
    by_cases he : l[j] = n
    · rw [decide_eq_true (by omega), onBool_true, hd, if_pos (by rw [he]; simp)]
    · rw [decide_eq_false (by omega), onBool_false, k_f56_5_eq]
      simp only [aBin_add, bnd_some]
      rw [wrap64 (by omega) (by omega)]
      have := ih (j + 1) m (by omega) (by omega) hb
      have h2 : (n ∈ l.drop j) ↔ (n ∈ l.drop (j + 1)) := by
        rw [hd, List.mem_cons]; exact ⟨fun h => h.resolve_left fun e => he e.symm, .inr⟩
      rw [show ((j : Int) + 1) = ((j + 1 : Nat) : Int) by omega, this]
      by_cases hm : n ∈ l.drop (j + 1)
      · rw [if_pos hm, if_pos (by rw [h2]; exact hm)]
      · rw [if_neg hm, if_neg (by rw [h2]; exact hm)]
theorem rvars_one {b : Nat} {m : Mem} {v0 : AV} {l : List Nat} (hA : App b 1 m v0 (nts l)) (hb : b ≤ m.next) (hl : l.length ≤ 1000000000) (n : Nat) : ∃ v' m', w_f56 v0 (.agg [.int .i64 1, .int .i64 n, .str (bs []), .nils]) m = some (.ret v', m') ∧ App b 1 m' v' (nts (met l n)) ∧ AF v0 m v' m' := by
  have k1 : Kept m (m.alloc (.row [.int .i64 1, .int .i64 n, .str (bs []), .nils] 0)) := Kept.alloc m _
  have ob : (m.alloc (.row [.int .i64 1, .int .i64 n, .str (bs []), .nils] 0)).obj m.next = some (.row [.int .i64 1, .int .i64 n, .str (bs []), .nils] 0) := by simp
  have e1 : aBox m (.agg [.int .i64 1, .int .i64 n, .str (bs []), .nils]) = some (.ptr m.next 0 0, m.alloc (.row [.int .i64 1, .int .i64 n, .str (bs []), .nils] 0)) := rfl
  have hA1 := hA.kept k1
  rw [e_f56, e1, memK_some]
  simp only [rFieldAddr_ptr, bnd_some, (row4 ob).1, aBin_eql, decide_true, onBool_true]
  have hf := rvars_find (b3 := m.next) (n := n) hA1.hsl hl _ 0 _ rfl (Nat.zero_le _) ob
  have hf' : l_f56_0 v0 (.ptr m.next 0 0) (.int .i64 0) (m.alloc (.row [.int .i64 1, .int .i64 n, .str (bs []), .nils] 0)) = _ := hf
  rw [hf', List.drop_zero]
  unfold met
  by_cases hm : n ∈ l
  · rw [if_pos hm, if_pos hm]
    exact ⟨v0, _, rfl, hA1, k1.af v0⟩
  · rw [if_neg hm, if_neg hm, k_f56_1_eq]
    have es : rBuildSlice A_int 1 [(0, .int .i64 n)] = some (.sl .full [.int .i64 n]) := rfl
    have hb8 : A_int.bytes = 8 := rfl
    obtain ⟨v', m', h1, h2, h3⟩ := App.appendT (A := A_int) (b := b) (w := .sl .full [.int .i64 n]) (ys := [.int .i64 n]) hA1 (by simp; omega) (.sl _ _) rfl ⟨by decide, rfl⟩ (by rw [hb8, nts_len]; simp only [List.length_cons, List.length_nil]; omega) (by rw [nts_len]; simp only [List.length_cons, List.length_nil]; omega)
    simp only [rFieldAddr_ptr, bnd_some, (row4 ob).2.1, es, h1, memK_some]
    exact ⟨v', m', rfl, by rw [nts_append]; exact h2, (k1.af v0).trans h3⟩
end Go.AM
namespace Uni
/-- no kind is a variable's, rows are not too long -/
def Fo.ok : Fo → Prop
  | .nil => True
  | .v _ rest => Fo.ok rest
  | .c k _ aa rest => k ≠ 1 ∧ Fo.ok aa ∧ Fo.ok rest
def Fo.wid : Fo → Nat
  | .nil => 0
  | .v _ rest => rest.wid + 1
  | .c _ _ _ rest => rest.wid + 1
def Fo.nar : Fo → Prop
  | .nil => True
  | .v _ rest => Fo.nar rest
  | .c _ _ aa rest => aa.wid ≤ 1000000 ∧ Fo.nar aa ∧ Fo.nar rest
theorem St.wid {ns : List Nd} {l : List Nat} {u : Fo} (h : St ns l u) : u.wid = l.length := by
  induction h with
  | nil => rfl
  | v _ _ _ ih => simp [Fo.wid, ih]
  | c _ _ _ _ _ ih => simp [Fo.wid, ih]
theorem St.ok {ns : List Nd} {l : List Nat} {u : Fo} (h : St ns l u) : u.ok := by
  induction h with
  | nil => trivial
  | v _ _ _ ih => exact ih
  | c _ h _ _ ih1 ih2 => exact ⟨h, ih1, ih2⟩
theorem St.nar {ns : List Nd} (hal : ∀ i, (argsOf ns i).length ≤ 1000000) {l : List Nat} {u : Fo} (h : St ns l u) : u.nar := by
  induction h with
  | nil => trivial
  | v _ _ _ ih => exact ih
  | c _ _ h _ ih1 ih2 => exact ⟨by rw [h.wid]; exact hal _, ih1, ih2⟩
theorem St.leaves {ns : List Nd} {l : List Nat} {u : Fo} (h : St ns l u) : ∀ x ∈ leaves u, Rt ns x x ∧ kOf ns x = 1 := by
  induction h with
  | nil => simp [Uni.leaves]
  | v h1 h2 _ ih =>
    intro x hx
    rcases List.mem_cons.1 hx with rfl | hx
    · exact ⟨h1.self, h2⟩
    · exact ih x hx
  | c _ _ _ _ ih1 ih2 =>
    intro x hx
    rcases List.mem_append.1 hx with hx | hx
    · exact ih1 x hx
    · exact ih2 x hx
end Uni
namespace Go.AM
open Go Go.Proofs Uni
theorem TyL.wid {u : Fo} {vs : List AV} (h : TyL u vs) : vs.length = u.wid := by
  induction h with
  | nil => rfl
  | v _ ih => simp [Uni.Fo.wid, ih]
  | c _ _ _ _ ih => simp [Uni.Fo.wid, ih]
theorem rvars_loop {b b3 : Nat} (u : Fo) : ∀ (k : Int) (nm : List UInt8) (w : AV) (all vs : List AV) (i : Nat) (m : Mem) (l : List Nat) (v0 : AV), u.ok → u.nar → HSl w all → all.drop i = vs → all.length ≤ 1000000 → TyL u vs → m.obj b3 = some (.row [.int .i64 k, .int .i64 0, .str (bs nm), w] 0) → b3 < m.next → b ≤ m.next → App b 1 m v0 (nts l) → (mets l u).length ≤ 1000000000 →
    ∃ v' m', l_f56_2 v0 (.ptr b3 0 0) (.int .i64 i) m = some (.ret v', m') ∧ App b 1 m' v' (nts (mets l u)) ∧ AF v0 m v' m' := by
  induction u generalizing b b3 with
  | nil =>
    intro k nm w all vs i m l v0 ho hna hw hdr hal ht hb hbb hbm hA hml
    cases ht
    have hi : all.length ≤ i := by
      have := congrArg List.length hdr
      simp at this; omega
    rw [l_f56_2_eq]
    simp only [rFieldAddr_ptr, bnd_some, (row4 hb).2.2.2.1, hw.len, aBin_lss]
    rw [decide_eq_false (by omega), onBool_false, k_f56_2_eq]
    exact ⟨v0, m, rfl, hA, .refl ..⟩
  | v n rest ih =>
    intro k nm w all vs i m l v0 ho hna hw hdr hal ht hb hbb hbm hA hml
    cases ht with
    | @v _ _ xs hr =>
    have hi : i < all.length := by
      rcases Nat.lt_or_ge i all.length with h | h
      · exact h
      · rw [List.drop_of_length_le h] at hdr; cases hdr
    have hget : all[i]? = some (.agg [.int .i64 1, .int .i64 n, .str (bs []), .nils]) := by
      have := congrArg (fun l => l[0]?) hdr
      simpa using this
    have hix : rIxAddrSl 4 w (.int .i64 i) = some (.pim [.int .i64 1, .int .i64 n, .str (bs []), .nils]) := hw.ix hget rfl rfl
    have hld : rLoad true 4 m (.pim [.int .i64 1, .int .i64 n, .str (bs []), .nils]) = some (.agg [.int .i64 1, .int .i64 n, .str (bs []), .nils]) := rfl
    have hpre := (mets_pre rest (met l n)).length_le
    have hmet : l.length ≤ (met l n).length := by unfold met; split <;> simp
    simp only [mets] at hml
    obtain ⟨v1, m1, a1, a2, a4⟩ := rvars_one hA hbm (by omega) n
    have a3 := a4.next
    obtain ⟨v2, m2, b1, b2, b4⟩ := ih k nm w all xs (i + 1) m1 (met l n) v1 ho hna hw (by rw [← List.drop_drop, hdr]; rfl) hal hr ((a4.kr hA).obj b3 _ _ hbb hb) (by omega) (by omega) a2 hml
    refine ⟨v2, m2, ?_, b2, a4.trans b4⟩
    rw [l_f56_2_eq]
    simp only [rFieldAddr_ptr, bnd_some, (row4 hb).2.2.2.1, hw.len, aBin_lss]
    rw [decide_eq_true (by omega), onBool_true, k_f56_4_eq]
    simp only [rFieldAddr_ptr, bnd_some, (row4 hb).2.2.2.1, hix, hld, a1, retK_ret, k_f56_6_eq, aBin_add]
    rw [wrap64 (by omega) (by omega), ← b1]
    rfl
  | c kk nn aa rest ih1 ih2 =>
    intro k nm w all vs i m l v0 ho hna hw hdr hal ht hb hbb hbm hA hml
    cases ht with
    | @c _ _ _ _ w2 ys xs hw2 hta hr =>
    have hi : i < all.length := by
      rcases Nat.lt_or_ge i all.length with h | h
      · exact h
      · rw [List.drop_of_length_le h] at hdr; cases hdr
    have hget : all[i]? = some (.agg [.int .i64 kk, .int .i64 0, .str (bs nn), w2]) := by
      have := congrArg (fun l => l[0]?) hdr
      simpa using this
    have hix : rIxAddrSl 4 w (.int .i64 i) = some (.pim [.int .i64 kk, .int .i64 0, .str (bs nn), w2]) := hw.ix hget rfl rfl
    have hld : rLoad true 4 m (.pim [.int .i64 kk, .int .i64 0, .str (bs nn), w2]) = some (.agg [.int .i64 kk, .int .i64 0, .str (bs nn), w2]) := rfl
    simp only [mets] at hml
    have hpre := (mets_pre rest (mets l aa)).length_le
    obtain ⟨ho1, ho2, ho3⟩ := ho
    obtain ⟨hna1, hna2, hna3⟩ := hna
    -- the call at the element
    have one : ∃ v' m', w_f56 v0 (.agg [.int .i64 kk, .int .i64 0, .str (bs nn), w2]) m = some (.ret v', m') ∧ App b 1 m' v' (nts (mets l aa)) ∧ AF v0 m v' m' := by
      have k1 : Kept m (m.alloc (.row [.int .i64 kk, .int .i64 0, .str (bs nn), w2] 0)) := Kept.alloc m _
      have ob : (m.alloc (.row [.int .i64 kk, .int .i64 0, .str (bs nn), w2] 0)).obj m.next = some (.row [.int .i64 kk, .int .i64 0, .str (bs nn), w2] 0) := by simp
      have e1 : aBox m (.agg [.int .i64 kk, .int .i64 0, .str (bs nn), w2]) = some (.ptr m.next 0 0, m.alloc (.row [.int .i64 kk, .int .i64 0, .str (bs nn), w2] 0)) := by
        have := hw2.cells
        simp [this]
      have hA1 := hA.kept k1
      obtain ⟨v', m', c1, c2, c4⟩ := ih1 (b := b) (b3 := m.next) kk nn w2 ys ys 0 _ l v0 ho2 hna2 hw2 rfl (by rw [hta.wid]; exact hna1) hta ob (by simp) (by simp; omega) hA1 (by omega)
      refine ⟨v', m', ?_, c2, (k1.af v0).trans c4⟩
      have c1' : l_f56_2 v0 (.ptr m.next 0 0) (.int .i64 0) (m.alloc (.row [.int .i64 kk, .int .i64 0, .str (bs nn), w2] 0)) = _ := c1
      rw [e_f56, e1, memK_some]
      simp only [rFieldAddr_ptr, bnd_some, (row4 ob).1, aBin_eql]
      rw [decide_eq_false ho1, onBool_false, k_f56_0_eq, c1']
    obtain ⟨v1, m1, a1, a2, a4⟩ := one
    have a3 := a4.next
    obtain ⟨v2, m2, b1, b2, b4⟩ := ih2 k nm w all xs (i + 1) m1 (mets l aa) v1 ho3 hna3 hw (by rw [← List.drop_drop, hdr]; rfl) hal hr ((a4.kr hA).obj b3 _ _ hbb hb) (by omega) (by omega) a2 hml
    refine ⟨v2, m2, ?_, b2, a4.trans b4⟩
    rw [l_f56_2_eq]
    simp only [rFieldAddr_ptr, bnd_some, (row4 hb).2.2.2.1, hw.len, aBin_lss]
    rw [decide_eq_true (by omega), onBool_true, k_f56_4_eq]
    simp only [rFieldAddr_ptr, bnd_some, (row4 hb).2.2.2.1, hix, hld, a1, retK_ret, k_f56_6_eq, aBin_add]
    rw [wrap64 (by omega) (by omega), ← b1]
    rfl
end Go.AM
namespace Go.AM
open Go Go.Proofs Uni
set_option linter.unusedSimpArgs false
set_option linter.unusedVariables false
theorem IRw.kr {m m' : Mem} {q n : Nat} {f : Nat → Int} (h : IRw m q f n) (hq : q < m.next) (k : KR m m') : IRw m' q f n := by
  obtain ⟨cs, h1, h2⟩ := h.ex
  exact ⟨cs, k.obj q _ _ hq h1, h2⟩
/-- one type whose variables are numbered anew: what the call at it does -/
def NumOne (f : Nat → Nat) (n : Nat) (u : Fo) : Prop := ∀ (v : AV) (m : Mem) (q : Nat), TyL u [v] → IRw m q (fun i => (f i : Nat)) n → q < m.next → ∃ v' m', w_f57 v (.ms q 0 0 n 1) m = some (.ret v', m') ∧ TyL (ren f u) [v'] ∧ Kept m m'
theorem rnum_var (f : Nat → Nat) {n x : Nat} (hx : x < n) : NumOne f n (.v x .nil) := by
  intro v m q ht hI hq
  cases ht
  generalize hm2 : (m.alloc (.row [.int .i64 1, .int .i64 x, .str (bs []), .nils] 0)).alloc (.row tyZero 0) = m2
  have e1 : aBox m (.agg [.int .i64 1, .int .i64 x, .str (bs []), .nils]) = some (.ptr m.next 0 0, m.alloc (.row [.int .i64 1, .int .i64 x, .str (bs []), .nils] 0)) := rfl
  have e2 : aBox (m.alloc (.row [.int .i64 1, .int .i64 x, .str (bs []), .nils] 0)) (.agg [.int .i64 0, .int .i64 0, .str (bs []), .nils]) = some (.ptr (m.next + 1) 0 0, m2) := by rw [← hm2]; rfl
  have n2 : m2.next = m.next + 2 := by rw [← hm2]; simp
  have k2 : Kept m m2 := by rw [← hm2]; exact (Kept.alloc m _).trans (Kept.alloc _ _)
  have o1 : m2.obj m.next = some (.row [.int .i64 1, .int .i64 x, .str (bs []), .nils] 0) := by rw [← hm2]; simp only [alloc_obj, alloc_next]; rw [if_neg (by omega), if_pos trivial]
  have o2 : m2.obj (m.next + 1) = some (.row tyZero 0) := by rw [← hm2]; simp
  obtain ⟨i1, i2, _⟩ := (hI.move (k2.obj q hq)).at hx
  have eb : rBuild [.int .i64 0, .int .i64 0, .str (bs []), .nils] [(0, 1, .int .i64 1), (1, 1, .int .i64 (f x : Nat))] = some (.agg [.int .i64 1, .int .i64 (f x : Nat), .str (bs []), .nils]) := rfl
  have o3 : (m2.set (m.next + 1) (.row [.int .i64 1, .int .i64 (f x : Nat), .str (bs []), .nils] 0)).obj (m.next + 1) = some (.row [.int .i64 1, .int .i64 (f x : Nat), .str (bs []), .nils] 0) := by simp
  refine ⟨.agg [.int .i64 1, .int .i64 (f x : Nat), .str (bs []), .nils], m2.set (m.next + 1) (.row [.int .i64 1, .int .i64 (f x : Nat), .str (bs []), .nils] 0), ?_, .v .nil, ⟨by simp; omega, fun j hj => by rw [set_obj, if_neg (by omega), k2.obj j hj]⟩⟩
  rw [e_f57, e1, memK_some, e2, memK_some]
  simp only [rFieldAddr_ptr, bnd_some, (row4 o1).1, aBin_eql, decide_true, onBool_true, (row4 o1).2.1, i1, i2, eb]
  rw [put4 o2, bnd_some, (row4 o3).2.2.2.2, bnd_some]
theorem rnum_loop (f : Nat → Nat) {n : Nat} (u : Fo) : ∀ (b b2 b4 q : Nat) (k : Int) (nm : List UInt8) (w : AV) (all vs : List AV) (i : Nat) (m : Mem) (w5 : AV) (ys : List AV), (∀ x ∈ leaves u, x < n) → u.ok → u.nar → HSl w all → all.drop i = vs → all.length ≤ 1000000 → TyL u vs → m.obj b2 = some (.row [.int .i64 k, .int .i64 0, .str (bs nm), w] 0) → b2 < m.next → b ≤ m.next → App b 4 m w5 ys → ys.length = i → IRw m q (fun i => (f i : Nat)) n → q < m.next →
    ∃ w6 zs m', l_f57_0 (.ms q 0 0 n 1) (.ptr b2 0 0) (.ptr b4 0 0) w5 (.int .i64 i) m = k_f57_1 (.ms q 0 0 n 1) (.ptr b2 0 0) (.ptr b4 0 0) w6 (.int .i64 all.length) m' ∧ HSl w6 (ys ++ zs) ∧ TyL (ren f u) zs ∧ Keeps b m m' ∧ KR m m' := by
  have step : ∀ (b b2 b4 q : Nat) (k : Int) (nm : List UInt8) (w : AV) (all : List AV) (i : Nat) (m : Mem) (w5 : AV) (ys : List AV) (v : AV) (u1 : Fo), NumOne f n u1 → TyL u1 [v] → (hi : i < all.length) → all[i] = v → HSl w all → all.length ≤ 1000000 → m.obj b2 = some (.row [.int .i64 k, .int .i64 0, .str (bs nm), w] 0) → b2 < m.next → b ≤ m.next → App b 4 m w5 ys → ys.length = i → IRw m q (fun i => (f i : Nat)) n → q < m.next →
      ∃ w6 v' m', l_f57_0 (.ms q 0 0 n 1) (.ptr b2 0 0) (.ptr b4 0 0) w5 (.int .i64 i) m = l_f57_0 (.ms q 0 0 n 1) (.ptr b2 0 0) (.ptr b4 0 0) w6 (.int .i64 (i + 1 : Nat)) m' ∧ App b 4 m' w6 (ys ++ [v']) ∧ TyL (ren f u1) [v'] ∧ Keeps b m m' ∧ KR m m' := by
    intro b b2 b4 q k nm w all i m w5 ys v u1 h1 ht hi hv hw hal hb hbl hbm hA hy hI hq
    obtain ⟨va, vb, vc, vd, rfl⟩ := ht.one
    obtain ⟨v', m1, a1, a2, a3⟩ := h1 _ m q ht hI hq
    obtain ⟨ua, ub, uc, ud, rfl⟩ := a2.one
    have hix : rIxAddrSl 4 w (.int .i64 i) = some (.pim [va, vb, vc, vd]) := hw.ix (x := .agg [va, vb, vc, vd]) (by rw [List.getElem?_eq_getElem hi, hv]) rfl rfl
    have hld : rLoad true 4 m (.pim [va, vb, vc, vd]) = some (.agg [va, vb, vc, vd]) := rfl
    have hA1 : App b 4 m1 w5 ys := hA.kept a3
    have hbytes : A_api_Type.bytes = 56 := rfl
    have n1 := a3.next
    obtain ⟨w6, m2, p1, p2, p3, p4⟩ := App.appendR (A := A_api_Type) (b := b) (m := m1) (v := w5) (w := .sl .full [.agg [ua, ub, uc, ud]]) (xs := ys) (ys := [.agg [ua, ub, uc, ud]]) hA1 (by omega) (.sl _ _) rfl ⟨by decide, rfl⟩ (by rw [hbytes]; simp only [List.length_cons, List.length_nil]; omega) (by simp only [List.length_cons, List.length_nil]; omega)
    have es : rBuildSlice A_api_Type 1 [(0, .agg [ua, ub, uc, ud])] = some (.sl .full [.agg [ua, ub, uc, ud]]) := rfl
    refine ⟨w6, _, m2, ?_, p2, a2, Keeps.trans (a3.less hbm) p3, a3.kr.trans p4⟩
    rw [l_f57_0_eq]
    simp only [rFieldAddr_ptr, bnd_some, (row4 hb).2.2.2.1, hw.len, aBin_lss]
    rw [decide_eq_true (by omega), onBool_true, k_f57_2_eq]
    simp only [rFieldAddr_ptr, bnd_some, (row4 hb).2.2.2.1, hix, hld, a1, retK_ret, es, p1, memK_some, k_f57_3_eq, aBin_add]
    rw [wrap64 (by omega) (by omega)]
    rfl
  induction u with
  | nil =>
    intro b b2 b4 q k nm w all vs i m w5 ys hlv ho hna hw hdr hal ht hb hbl hbm hA hy hI hq
    cases ht
    have hi : all.length ≤ i := by
      have := congrArg List.length hdr
      simp at this; omega
    have hi2 : i ≤ all.length ∨ all.length < i := by omega
    rw [l_f57_0_eq]
    simp only [rFieldAddr_ptr, bnd_some, (row4 hb).2.2.2.1, hw.len, aBin_lss]
    rw [decide_eq_false (by omega), onBool_false]
    refine ⟨w5, [], m, ?_, by simpa using hA.hsl, .nil, .refl .., .refl _⟩
    rw [k_f57_1_eq, k_f57_1_eq]
  | v x rest ih =>
    intro b b2 b4 q k nm w all vs i m w5 ys hlv ho hna hw hdr hal ht hb hbl hbm hA hy hI hq
    cases ht with
    | @v _ _ xs hr =>
    have hi : i < all.length := by
      rcases Nat.lt_or_ge i all.length with h | h
      · exact h
      · rw [List.drop_of_length_le h] at hdr; cases hdr
    have hget : all[i] = .agg [.int .i64 1, .int .i64 x, .str (bs []), .nils] := by
      rw [List.drop_eq_getElem_cons hi] at hdr
      exact (List.cons.inj hdr).1
    obtain ⟨w6, v', m1, s1, s2, s3, s4, s5⟩ := step b b2 b4 q k nm w all i m w5 ys _ (.v x .nil) (rnum_var f (hlv x (by simp [leaves]))) (.v .nil) hi hget hw hal hb hbl hbm hA hy hI hq
    have n1 := s5.next
    obtain ⟨w7, zs, m2, t1, t2, t3, t4, t5⟩ := ih b b2 b4 q k nm w all xs (i + 1) m1 w6 (ys ++ [v']) (fun y hy => hlv y (by simp [leaves, hy])) ho hna hw (by rw [← List.drop_drop, hdr]; rfl) hal hr (s5.obj _ _ _ hbl hb) (by omega) (by omega) s2 (by simp [hy]) (hI.kr hq s5) (by omega)
    refine ⟨w7, v' :: zs, m2, by rw [s1, t1], by simpa using t2, ?_, s4.trans t4, s5.trans t5⟩
    cases s3
    exact .v t3
  | c kk nn aa rest ih1 ih2 =>
    intro b b2 b4 q k nm w all vs i m w5 ys hlv ho hna hw hdr hal ht hb hbl hbm hA hy hI hq
    cases ht with
    | @c _ _ _ _ w2 zs2 xs hw2 hta hr =>
    obtain ⟨ho1, ho2, ho3⟩ := ho
    obtain ⟨hna1, hna2, hna3⟩ := hna
    have hi : i < all.length := by
      rcases Nat.lt_or_ge i all.length with h | h
      · exact h
      · rw [List.drop_of_length_le h] at hdr; cases hdr
    have hget : all[i] = .agg [.int .i64 kk, .int .i64 0, .str (bs nn), w2] := by
      rw [List.drop_eq_getElem_cons hi] at hdr
      exact (List.cons.inj hdr).1
    have one : NumOne f n (.c kk nn aa .nil) := by
      intro v m q ht hI hq
      cases ht with
      | @c _ _ _ _ w2 zs2 xs hw2 hta hr =>
      cases hr
      generalize hm2 : (m.alloc (.row [.int .i64 kk, .int .i64 0, .str (bs nn), w2] 0)).alloc (.row tyZero 0) = m2
      have e1 : aBox m (.agg [.int .i64 kk, .int .i64 0, .str (bs nn), w2]) = some (.ptr m.next 0 0, m.alloc (.row [.int .i64 kk, .int .i64 0, .str (bs nn), w2] 0)) := rfl
      have e2 : aBox (m.alloc (.row [.int .i64 kk, .int .i64 0, .str (bs nn), w2] 0)) (.agg [.int .i64 0, .int .i64 0, .str (bs []), .nils]) = some (.ptr (m.next + 1) 0 0, m2) := by rw [← hm2]; rfl
      have n2 : m2.next = m.next + 2 := by rw [← hm2]; simp
      have k2 : Kept m m2 := by rw [← hm2]; exact (Kept.alloc m _).trans (Kept.alloc _ _)
      have o1 : m2.obj m.next = some (.row [.int .i64 kk, .int .i64 0, .str (bs nn), w2] 0) := by rw [← hm2]; simp only [alloc_obj, alloc_next]; rw [if_neg (by omega), if_pos trivial]
      have o2 : m2.obj (m.next + 1) = some (.row tyZero 0) := by rw [← hm2]; simp
      have es : rBuildSlice A_api_Type 0 [] = some (.sl .full []) := rfl
      obtain ⟨w7, zs, m3, t1, t2, t3, t4, t5⟩ := ih1 m2.next m.next (m.next + 1) q kk nn w2 zs2 zs2 0 m2 (.sl .full []) [] (fun y hy => hlv y (by simp [leaves, hy])) ho2 hna2 hw2 rfl (by rw [hta.wid]; exact hna1) hta o1 (by omega) (Nat.le_refl _) (.full [] rfl) rfl (hI.move (k2.obj q hq)) (by omega)
      rw [List.nil_append] at t2
      have o13 := t5.obj _ _ _ (show m.next < m2.next by omega) o1
      have o23 := t5.obj _ _ _ (show m.next + 1 < m2.next by omega) o2
      have s4 := (row4f o13).1 w7 t2.cells
      generalize hm4 : m3.set m.next (.row [.int .i64 kk, .int .i64 0, .str (bs nn), w7] 0) = m4 at s4
      have o14 : m4.obj m.next = some (.row [.int .i64 kk, .int .i64 0, .str (bs nn), w7] 0) := by rw [← hm4]; simp
      have o24 : m4.obj (m.next + 1) = some (.row tyZero 0) := by rw [← hm4, set_obj, if_neg (by omega)]; exact o23
      have n4 : m4.next = m3.next := by rw [← hm4]; rfl
      have n3 := t5.next
      have o25 : (m4.set (m.next + 1) (.row [.int .i64 kk, .int .i64 0, .str (bs nn), w7] 0)).obj (m.next + 1) = some (.row [.int .i64 kk, .int .i64 0, .str (bs nn), w7] 0) := by simp
      refine ⟨.agg [.int .i64 kk, .int .i64 0, .str (bs nn), w7], m4.set (m.next + 1) (.row [.int .i64 kk, .int .i64 0, .str (bs nn), w7] 0), ?_, .c t2 t3 .nil, ⟨by simp; omega, fun j hj => by rw [set_obj, if_neg (by omega), ← hm4, set_obj, if_neg (by omega), t4.obj j (by omega), k2.obj j hj]⟩⟩
      have t1' : l_f57_0 (.ms q 0 0 n 1) (.ptr m.next 0 0) (.ptr (m.next + 1) 0 0) (.sl .full []) (.int .i64 0) m2 = _ := t1
      rw [e_f57, e1, memK_some, e2, memK_some]
      simp only [rFieldAddr_ptr, bnd_some, (row4 o1).1, aBin_eql]
      rw [decide_eq_false ho1, onBool_false, k_f57_0_eq, es, bnd_some, t1', k_f57_1_eq]
      simp only [rFieldAddr_ptr, bnd_some, s4, (row4 o14).2.2.2.2]
      rw [put4 o24, bnd_some, (row4 o25).2.2.2.2, bnd_some]
    obtain ⟨w6, v', m1, s1, s2, s3, s4, s5⟩ := step b b2 b4 q k nm w all i m w5 ys _ (.c kk nn aa .nil) one (.c hw2 hta .nil) hi hget hw hal hb hbl hbm hA hy hI hq
    have n1 := s5.next
    obtain ⟨w7, zs, m2, t1, t2, t3, t4, t5⟩ := ih2 b b2 b4 q k nm w all xs (i + 1) m1 w6 (ys ++ [v']) (fun y hy => hlv y (by simp [leaves, hy])) ho3 hna3 hw (by rw [← List.drop_drop, hdr]; rfl) hal hr (s5.obj _ _ _ hbl hb) (by omega) (by omega) s2 (by simp [hy]) (hI.kr hq s5) (by omega)
    refine ⟨w7, v' :: zs, m2, by rw [s1, t1], by simpa using t2, ?_, s4.trans t4, s5.trans t5⟩
    cases s3 with
    | c g1 g2 _ => exact .c g1 g2 t3
end Go.AM
namespace Uni
theorem met_nodup {l : List Nat} (h : l.Nodup) (n : Nat) : (met l n).Nodup := by
  unfold met; split
  · exact h
  · rename_i hn
    rw [List.nodup_append]
    refine ⟨h, by simp, fun a ha b hb => ?_⟩
    simp at hb; subst hb
    rintro rfl; exact hn ha
theorem mets_nodup : ∀ (t : Fo) {l : List Nat}, l.Nodup → (mets l t).Nodup
  | .nil, l, h => h
  | .v n rest, l, h => mets_nodup rest (met_nodup h n)
  | .c _ _ aa rest, l, h => mets_nodup rest (mets_nodup aa h)
theorem nodup_lt : ∀ (n : Nat) (l : List Nat), l.Nodup → (∀ x ∈ l, x < n) → l.length ≤ n
  | 0, l, _, h => by
    cases l with
    | nil => exact Nat.le_refl _
    | cons a l => exact absurd (h a (by simp)) (by omega)
  | n + 1, l, hn, h => by
    by_cases hm : n ∈ l
    · have h1 := nodup_lt n (l.erase n) (hn.erase n) fun x hx => by
        have := (hn.mem_erase_iff).1 hx
        have := h x this.2
        omega
      rw [List.length_erase_of_mem hm] at h1
      omega
    · exact Nat.le_trans (nodup_lt n l hn fun x hx => by
        have := h x hx
        rcases Nat.lt_or_ge x n with h2 | h2
        · exact h2
        · have : x = n := by omega
          subst this; exact absurd hx hm) (Nat.le_succ n)
theorem ren_congr {f g : Nat → Nat} : ∀ (t : Fo), (∀ x ∈ leaves t, f x = g x) → ren f t = ren g t
  | .nil, _ => rfl
  | .v n rest, h => by
    simp only [ren]
    rw [h n (by simp [leaves]), ren_congr rest fun x hx => h x (by simp [leaves, hx])]
  | .c k nm aa rest, h => by
    simp only [ren]
    rw [ren_congr aa fun x hx => h x (by simp [leaves, hx]), ren_congr rest fun x hx => h x (by simp [leaves, hx])]
theorem St.join {ns : List Nd} {z : Nat} {zs : List Nat} {tz rest : Fo} (h : St ns [z] tz) (h' : St ns zs rest) : ∃ u, St ns (z :: zs) u ∧ ∀ l, mets l u = mets (mets l tz) rest := by
  cases h with
  | v h1 h2 h3 => cases h3; exact ⟨_, .v h1 h2 h', fun l => rfl⟩
  | c h1 h2 h3 h4 => cases h4; exact ⟨_, .c h1 h2 h3 h', fun l => rfl⟩
end Uni
namespace Go.AM
open Go Go.Proofs Uni
set_option linter.unusedSimpArgs false
set_option linter.unusedVariables false
theorem TyL.join {ns : List Nd} {z : Nat} {zs : List Nat} {tz rest u : Fo} (h : St ns [z] tz) (h' : St ns zs rest) (hu : St ns (z :: zs) u) {v : AV} {vs : List AV} (g : TyL tz [v]) (g' : TyL rest vs) : TyL u (v :: vs) := by
  cases h with
  | v h1 h2 h3 =>
    have := hu.inj (.v h1 h2 h')
    subst this
    cases g
    exact .v g'
  | c h1 h2 h3 h4 =>
    have := hu.inj (.c h1 h2 h3 h')
    subst this
    cases g with
    | c a1 a2 _ => exact .c a1 a2 g'
theorem rvars_s {b : Nat} {m : Mem} {v0 v : AV} {l : List Nat} {u : Fo} (ht : TyL u [v]) (ho : u.ok) (hna : u.nar) (hA : App b 1 m v0 (nts l)) (hbm : b ≤ m.next) (hml : (mets l u).length ≤ 1000000000) :
    ∃ v' m', w_f56 v0 v m = some (.ret v', m') ∧ App b 1 m' v' (nts (mets l u)) ∧ AF v0 m v' m' := by
  cases ht with
  | @v n _ _ hr =>
    cases hr
    have hmet : l.length ≤ (met l n).length := by unfold met; split <;> simp
    simp only [mets] at hml ⊢
    exact rvars_one hA hbm (by omega) n
  | @c kk nn aa _ w2 ys _ hw2 hta hr =>
    cases hr
    obtain ⟨ho1, ho2, ho3⟩ := ho
    obtain ⟨hna1, hna2, hna3⟩ := hna
    simp only [mets] at hml ⊢
    have k1 : Kept m (m.alloc (.row [.int .i64 kk, .int .i64 0, .str (bs nn), w2] 0)) := Kept.alloc m _
    have ob : (m.alloc (.row [.int .i64 kk, .int .i64 0, .str (bs nn), w2] 0)).obj m.next = some (.row [.int .i64 kk, .int .i64 0, .str (bs nn), w2] 0) := by simp
    have e1 : aBox m (.agg [.int .i64 kk, .int .i64 0, .str (bs nn), w2]) = some (.ptr m.next 0 0, m.alloc (.row [.int .i64 kk, .int .i64 0, .str (bs nn), w2] 0)) := rfl
    have hA1 := hA.kept k1
    obtain ⟨v', m', c1, c2, c4⟩ := rvars_loop (b := b) (b3 := m.next) aa kk nn w2 ys ys 0 _ l v0 ho2 hna2 hw2 rfl (by rw [hta.wid]; exact hna1) hta ob (by simp) (by simp; omega) hA1 hml
    refine ⟨v', m', ?_, c2, (k1.af v0).trans c4⟩
    have c1' : l_f56_2 v0 (.ptr m.next 0 0) (.int .i64 0) (m.alloc (.row [.int .i64 kk, .int .i64 0, .str (bs nn), w2] 0)) = _ := c1
    rw [e_f56, e1, memK_some]
    simp only [rFieldAddr_ptr, bnd_some, (row4 ob).1, aBin_eql]
    rw [decide_eq_false ho1, onBool_false, k_f56_0_eq, c1']
theorem num_one (f : Nat → Nat) {n : Nat} {u : Fo} (hlv : ∀ x ∈ leaves u, x < n) (ho : u.ok) (hna : u.nar) : NumOne f n u := by
  intro v m q ht hI hq
  cases ht with
  | @v x _ _ hr =>
    cases hr
    exact rnum_var f (hlv x (by simp [leaves])) _ m q (.v .nil) hI hq
  | @c kk nn aa _ w2 zs2 _ hw2 hta hr =>
    cases hr
    obtain ⟨ho1, ho2, ho3⟩ := ho
    obtain ⟨hna1, hna2, hna3⟩ := hna
    generalize hm2 : (m.alloc (.row [.int .i64 kk, .int .i64 0, .str (bs nn), w2] 0)).alloc (.row tyZero 0) = m2
    have e1 : aBox m (.agg [.int .i64 kk, .int .i64 0, .str (bs nn), w2]) = some (.ptr m.next 0 0, m.alloc (.row [.int .i64 kk, .int .i64 0, .str (bs nn), w2] 0)) := rfl
    have e2 : aBox (m.alloc (.row [.int .i64 kk, .int .i64 0, .str (bs nn), w2] 0)) (.agg [.int .i64 0, .int .i64 0, .str (bs []), .nils]) = some (.ptr (m.next + 1) 0 0, m2) := by rw [← hm2]; rfl
    have n2 : m2.next = m.next + 2 := by rw [← hm2]; simp
    have k2 : Kept m m2 := by rw [← hm2]; exact (Kept.alloc m _).trans (Kept.alloc _ _)
    have o1 : m2.obj m.next = some (.row [.int .i64 kk, .int .i64 0, .str (bs nn), w2] 0) := by rw [← hm2]; simp only [alloc_obj, alloc_next]; rw [if_neg (by omega), if_pos trivial]
    have o2 : m2.obj (m.next + 1) = some (.row tyZero 0) := by rw [← hm2]; simp
    have es : rBuildSlice A_api_Type 0 [] = some (.sl .full []) := rfl
    obtain ⟨w7, zs, m3, t1, t2, t3, t4, t5⟩ := rnum_loop f aa m2.next m.next (m.next + 1) q kk nn w2 zs2 zs2 0 m2 (.sl .full []) [] (fun y hy => hlv y (by simp [leaves, hy])) ho2 hna2 hw2 rfl (by rw [hta.wid]; exact hna1) hta o1 (by omega) (Nat.le_refl _) (.full [] rfl) rfl (hI.move (k2.obj q hq)) (by omega)
    rw [List.nil_append] at t2
    have o13 := t5.obj _ _ _ (show m.next < m2.next by omega) o1
    have o23 := t5.obj _ _ _ (show m.next + 1 < m2.next by omega) o2
    have s4 := (row4f o13).1 w7 t2.cells
    generalize hm4 : m3.set m.next (.row [.int .i64 kk, .int .i64 0, .str (bs nn), w7] 0) = m4 at s4
    have o14 : m4.obj m.next = some (.row [.int .i64 kk, .int .i64 0, .str (bs nn), w7] 0) := by rw [← hm4]; simp
    have o24 : m4.obj (m.next + 1) = some (.row tyZero 0) := by rw [← hm4, set_obj, if_neg (by omega)]; exact o23
    have n4 : m4.next = m3.next := by rw [← hm4]; rfl
    have n3 := t5.next
    have o25 : (m4.set (m.next + 1) (.row [.int .i64 kk, .int .i64 0, .str (bs nn), w7] 0)).obj (m.next + 1) = some (.row [.int .i64 kk, .int .i64 0, .str (bs nn), w7] 0) := by simp
    refine ⟨.agg [.int .i64 kk, .int .i64 0, .str (bs nn), w7], m4.set (m.next + 1) (.row [.int .i64 kk, .int .i64 0, .str (bs nn), w7] 0), ?_, .c t2 t3 .nil, ⟨by simp; omega, fun j hj => by rw [set_obj, if_neg (by omega), ← hm4, set_obj, if_neg (by omega), t4.obj j (by omega), k2.obj j hj]⟩⟩
    have t1' : l_f57_0 (.ms q 0 0 n 1) (.ptr m.next 0 0) (.ptr (m.next + 1) 0 0) (.sl .full []) (.int .i64 0) m2 = _ := t1
    rw [e_f57, e1, memK_some, e2, memK_some]
    simp only [rFieldAddr_ptr, bnd_some, (row4 o1).1, aBin_eql]
    rw [decide_eq_false ho1, onBool_false, k_f57_0_eq, es, bnd_some, t1', k_f57_1_eq]
    simp only [rFieldAddr_ptr, bnd_some, s4, (row4 o14).2.2.2.2]
    rw [put4 o24, bnd_some, (row4 o25).2.2.2.2, bnd_some]
/-- are all there? -/
theorem rty_there {o : Option Nat} {nv : AV} {ns : List Nd} {b2 : Nat} {v : AV} {l : List Int} (hv : HSl v (its l)) (hl : l.length ≤ 1000000) : ∀ (j i : Nat) (m : Mem), l.length - i = j → i ≤ l.length → RV m o nv ns → m.obj b2 = some (.row [nv] 0) → b2 < m.next →
    ∃ m', Kept m m' ∧ ((l.drop i).all (inB ns.length) = true ∧ l_f25_0 v (.ptr b2 0 0) (.int .i64 i) m = k_f25_0 v (.ptr b2 0 0) (.int .i64 l.length) m' ∨
      (l.drop i).all (inB ns.length) = false ∧ l_f25_0 v (.ptr b2 0 0) (.int .i64 i) m = some (.ret (.tup [.nils, .int .i64 221]), m')) := by
  intro j
  induction j with
  | zero =>
    intro i m hj hi hR h2 h2l
    have : i = l.length := by omega
    subst this
    refine ⟨m, .refl .., .inl ⟨by rw [List.drop_length]; rfl, ?_⟩⟩
    rw [l_f25_0_eq, hv.len, bnd_some, List.length_map]
    simp only [aBin_lss, bnd_some, Int.lt_irrefl, decide_false, onBool_false]
  | succ j ihj =>
    intro i m hj hi hR h2 h2l
    have hlt : i < l.length := by omega
    have hd : l.drop i = l[i] :: l.drop (i + 1) := List.drop_eq_getElem_cons hlt
    have hix : rIxAddrSl 1 v (.int .i64 i) = some (.pim [.int .i64 l[i]]) := hv.ix (x := .int .i64 l[i]) (by simp [hlt]) rfl rfl
    obtain ⟨m1, a1, a2⟩ := rsis_s hR l[i]
    rw [l_f25_0_eq, hv.len, bnd_some, List.length_map]
    simp only [aBin_lss, bnd_some]
    rw [decide_eq_true (by omega), onBool_true, k_f25_2_eq, (row1 h2).1, bnd_some, hix, bnd_some, rLoad_pimc, List.getElem?_cons_zero, bnd_some, a1, retK_ret, aUn_not, bnd_some, hd]
    have h21 := (a2.obj b2 h2l).trans h2
    cases hI : inB ns.length l[i] with
    | false =>
      rw [Bool.not_false, onBool_true]
      exact ⟨m1, a2, .inr ⟨by rw [List.all_cons, hI]; rfl, rfl⟩⟩
    | true =>
      rw [Bool.not_true, onBool_false, k_f25_5_eq]
      simp only [aBin_add, bnd_some]
      rw [wrap64 (by omega) (by omega)]
      obtain ⟨m2, c1, c2⟩ := ihj (i + 1) m1 (by omega) (by omega) (hR.kept a2) h21 (by have := a2.next; omega)
      refine ⟨m2, a2.trans c1, ?_⟩
      rw [List.all_cons, hI, Bool.true_and]
      exact c2
theorem AF.row {b size : Nat} {m m' : Mem} {v v' : AV} {xs : List AV} (k : AF v m v' m') (h : App b size m v xs) {j : Nat} {cs : List AV} {ver : Nat} (hj : j < m.next) (ho : m.obj j = some (.row cs ver)) : m'.obj j = some (.row cs ver) := (k.kr h).obj j cs ver hj ho
/-- sizes, raw types, variables -/
theorem rty_raw {o : Option Nat} {nv : AV} {ns : List Nd} {b2 q b : Nat} (hqo : some q ≠ o) (g : Uni.Good ns) (hvn : Vn ns) (hn : ns.length ≤ 1000000) (hal : ∀ i, (argsOf ns i).length ≤ 1000000) {v : AV} {xs : List Nat} (hx : HSl v (nts xs)) (hlt : ∀ x ∈ xs, x < ns.length) (hl : xs.length ≤ 1000000)
    (hoo : ∀ j, o = some j → j < b) (hb2 : b2 < b) (hq : q < b) (hbq : b2 ≠ q) : ∀ (j i : Nat) (m : Mem) (l : List Nat) (v8 v9 : AV) (ys : List AV), xs.length - i = j → i ≤ xs.length → RV m o nv ns → KI ns m q → m.obj b2 = some (.row [nv] 0) → b ≤ m.next → App b 1 m v8 (nts l) → App b 4 m v9 ys → (∀ t, tipOf v8 = some t → tipOf v9 ≠ some t) → ys.length = i → l.Nodup → (∀ x ∈ l, x < ns.length) →
    ∃ m', (m.next ≤ m'.next ∧ ∀ j', j' < b → j' ≠ q → m'.obj j' = m.obj j') ∧ ((∃ x ∈ xs.drop i, ∃ t, St ns [x] t ∧ 300 < fsz 0 t) ∧ l_f25_2 v (.ptr b2 0 0) (.ms q 0 0 ns.length 1) v8 v9 (.int .i64 i) m = some (.ret (.tup [.nils, .int .i64 120]), m') ∨
      ∃ u zs v8' v9', St ns (xs.drop i) u ∧ (∀ x ∈ xs.drop i, ∀ t, St ns [x] t → fsz 0 t ≤ 300) ∧ App b 1 m' v8' (nts (mets l u)) ∧ HSl v9' (ys ++ zs) ∧ TyL u zs ∧ RV m' o nv ns ∧ m'.obj b2 = some (.row [nv] 0) ∧
        l_f25_2 v (.ptr b2 0 0) (.ms q 0 0 ns.length 1) v8 v9 (.int .i64 i) m = k_f25_1 v (.ptr b2 0 0) (.ms q 0 0 ns.length 1) v8' v9' (.int .i64 xs.length) m') := by
  intro j
  induction j with
  | zero =>
    intro i m l v8 v9 ys hj hi hR hK h2 hbm hA8 hA9 htip hy hnd hlt2
    have : i = xs.length := by omega
    subst this
    refine ⟨m, ⟨Nat.le_refl _, fun _ _ _ => rfl⟩, .inr ⟨.nil, [], v8, v9, by rw [List.drop_length]; exact .nil, by simp, hA8, by simpa using hA9.hsl, .nil, hR, h2, ?_⟩⟩
    rw [l_f25_2_eq, hx.len, bnd_some, nts_len]
    simp only [aBin_lss, bnd_some, Int.lt_irrefl, decide_false, onBool_false]
  | succ j ihj =>
    intro i m l v8 v9 ys hj hi hR hK h2 hbm hA8 hA9 htip hy hnd hlt2
    have hilt : i < xs.length := by omega
    have hd : xs.drop i = xs[i] :: xs.drop (i + 1) := List.drop_eq_getElem_cons hilt
    have hxlt := hlt _ (List.getElem_mem hilt)
    have hix : rIxAddrSl 1 v (.int .i64 i) = some (.pim [.int .i64 (xs[i] : Nat)]) := hx.ix (nts_get hilt) rfl rfl
    obtain ⟨t, ht⟩ := st_fin g.lk g.av (g.fin xs[i]) hxlt
    obtain ⟨m1, s1, s2, s3⟩ := rsize_s hqo g hvn hal (g.fin xs[i]) m t hR hK (by omega) ht
    have n1 := s3.next
    have h21 : m1.obj b2 = some (.row [nv] 0) := (s3.obj b2 (by omega) hbq).trans h2
    have hR1 := hR.onK s3 hqo
    have hA81 : App b 1 m1 v8 (nts l) := hA8.tmove n1 fun t ht => by have := hA8.tips ht; exact s3.obj t (by omega) (by omega)
    have hA91 : App b 4 m1 v9 ys := hA9.tmove n1 fun t ht => by have := hA9.tips ht; exact s3.obj t (by omega) (by omega)
    rw [l_f25_2_eq, hx.len, bnd_some, nts_len]
    simp only [aBin_lss, bnd_some]
    rw [decide_eq_true (by omega), onBool_true, k_f25_4_eq]
    simp only [(row1 h2).1, bnd_some, hix, rLoad_pimc, List.getElem?_cons_zero, s1, retK_ret, aBin_gtr]
    by_cases hs : 300 < fsz 0 t
    · rw [decide_eq_true (by omega), onBool_true]
      exact ⟨m1, ⟨by omega, fun j' h1 h2 => s3.obj j' (by omega) h2⟩, .inl ⟨⟨xs[i], by rw [hd]; exact List.mem_cons_self .., t, ht, hs⟩, rfl⟩⟩
    rw [decide_eq_false (by omega), onBool_false, k_f25_9_eq]
    obtain ⟨vt, m2, t1, t2, t3⟩ := rtyp_s g hal (g.fin xs[i]) m1 t hR1 ht
    obtain ⟨va, vb, vc, vd, rfl⟩ := t2.one
    have n2 := t3.next
    have hA82 := hA81.kept t3
    have hA92 := hA91.kept t3
    have h22 := (t3.obj b2 (by omega)).trans h21
    -- the box of the type
    generalize hm3 : (m2.alloc (.row tyZero 0)).set m2.next (.row [va, vb, vc, vd] 0) = m3
    have st3 : rStore 4 (m2.alloc (.row tyZero 0)) (.ptr m2.next 0 0) (.agg [va, vb, vc, vd]) = some m3 := by
      rw [← hm3]; exact put4 (x := .int .i64 0) (y := .int .i64 0) (z := .str (bs [])) (w := .nils) (by simp)
    have n3 : m3.next = m2.next + 1 := by rw [← hm3]; rfl
    have k23 : Kept m2 m3 := by rw [← hm3]; exact (Kept.alloc m2 _).set (Nat.le_refl _) _
    have o3 : m3.obj m2.next = some (.row [va, vb, vc, vd] 0) := by rw [← hm3]; simp
    have hA83 := hA82.kept k23
    have hA93 := hA92.kept k23
    have hmlen : (mets l t).length ≤ 1000000000 := by
      have h1 : (mets l t).Nodup := mets_nodup t hnd
      have h2 : ∀ x ∈ mets l t, x < ns.length := fun x hx => by
        rcases (mets_sub t l x).1 hx with h | h
        · exact hlt2 x h
        · exact (ht.leaves x h).1.is.1
      have h3 := nodup_lt _ _ h1 h2
      omega
    obtain ⟨v8', m4, w1, w2, w3⟩ := rvars_s t2 ht.ok (ht.nar hal) hA83 (by omega) hmlen
    have n4 := w3.next
    have o34 := w3.row hA83 (by omega) o3
    have hA94 : App b 4 m4 v9 ys := hA93.tmove n4 fun t ht => w3.obj t (hA93.tips ht).2.1 fun e => htip t e ht
    have hbytes : A_api_Type.bytes = 56 := rfl
    obtain ⟨v9', m5, p1, p2, p3⟩ := App.appendT (A := A_api_Type) (b := b) (m := m4) (v := v9) (w := .sl .full [.agg [va, vb, vc, vd]]) (xs := ys) (ys := [.agg [va, vb, vc, vd]]) hA94 (by omega) (.sl _ _) rfl ⟨by decide, rfl⟩ (by rw [hbytes]; simp only [List.length_cons, List.length_nil]; omega) (by simp only [List.length_cons, List.length_nil]; omega)
    have n5 := p3.next
    have p2' : App b 4 m5 v9' (ys ++ [.agg [va, vb, vc, vd]]) := p2
    have tip84 : ∀ t, tipOf v8' = some t → tipOf v9 ≠ some t := fun t ht => by
      rcases w3.tip with e | ⟨t', e1, e2⟩
      · rw [e] at ht; exact htip t ht
      · rw [e2] at ht; cases ht
        intro e
        have := (hA93.tips e).2.1
        omega
    have hA85 : App b 1 m5 v8' (nts (mets l t)) := w2.tmove n5 fun t ht => p3.obj t (w2.tips ht).2.1 (tip84 t ht)
    have tip95 : ∀ t, tipOf v8' = some t → tipOf v9' ≠ some t := fun t ht => by
      rcases p3.tip with e | ⟨t', e1, e2⟩
      · rw [e]; exact tip84 t ht
      · rw [e2]; intro e; cases e
        have := (w2.tips ht).2.1
        omega
    have keep : ∀ j', j' < b → m5.obj j' = m1.obj j' := fun j' hj' => by
      rw [(p3.keeps hA94 (by omega)).obj j' hj', (w3.keeps hA83 (by omega)).obj j' hj', k23.obj j' (by omega), t3.obj j' (by omega)]
    have hR5 : RV m5 o nv ns := hR1.move (by omega) fun j' e => keep j' (hoo j' e)
    obtain ⟨m6, q1, q2⟩ := ihj (i + 1) m5 (mets l t) v8' v9' (ys ++ [.agg [va, vb, vc, vd]]) (by omega) (by omega) hR5 (s2.move (keep q hq)) ((keep b2 hb2).trans h21) (by omega) hA85 p2' tip95 (by simp [hy]) (mets_nodup t hnd) (fun x hx => by
        rcases (mets_sub t l x).1 hx with h | h
        · exact hlt2 x h
        · exact (ht.leaves x h).1.is.1)
    have es : rBuildSlice A_api_Type 1 [(0, .agg [va, vb, vc, vd])] = some (.sl .full [.agg [va, vb, vc, vd]]) := rfl
    simp only [(row1 h21).1, bnd_some, hix, rLoad_pimc, List.getElem?_cons_zero, t1, retK_ret, tyBox, memK_some, st3, (row4 o3).2.2.2.2, w1, (row4 o34).2.2.2.2, es, p1, k_f25_8_eq, aBin_add]
    rw [wrap64 (by omega) (by omega)]
    refine ⟨m6, ⟨by omega, fun j' h1 h2 => by rw [q1.2 j' h1 h2, keep j' h1, s3.obj j' (by omega) h2]⟩, ?_⟩
    rw [hd]
    rcases q2 with ⟨⟨x, hx1, t', ht', hx2⟩, q3⟩ | ⟨u, zs, v8'', v9'', q3, q4, q5, q6, q7, q8, q9, q10⟩
    · exact .inl ⟨⟨x, List.mem_cons_of_mem _ hx1, t', ht', hx2⟩, q3⟩
    · obtain ⟨u', hu', hmu⟩ := St.join ht q3
      refine .inr ⟨u', .agg [va, vb, vc, vd] :: zs, v8'', v9'', hu', fun x hx t' ht' => ?_, by rw [hmu]; exact q5, by simpa using q6, TyL.join ht q3 hu' t2 q7, q8, q9, q10⟩
      rcases List.mem_cons.1 hx with rfl | hx
      · rw [ht'.inj ht]; omega
      · exact q4 x hx t' ht'
/-- the numbers -/
theorem rty_nums {q n : Nat} {v8 v9 : AV} {l : List Nat} (h8 : HSl v8 (nts l)) (hnd : l.Nodup) (hlt : ∀ x ∈ l, x < n) (hl : l.length ≤ 1000000000) : ∀ (j i : Nat) (m : Mem) (f : Nat → Nat), l.length - i = j → i ≤ l.length → IRw m q (fun i => (f i : Nat)) n → (∀ k (hk : k < l.length), k < i → f l[k] = k) →
    ∃ (m' : Mem) (f' : Nat → Nat), l_f25_4 v8 v9 (.ms q 0 0 n 1) (.int .i64 i) m = k_f25_3 v8 v9 (.ms q 0 0 n 1) (.int .i64 l.length) m' ∧ IRw m' q (fun i => (f' i : Nat)) n ∧ (∀ x ∈ l, f' x = l.idxOf x) ∧ On q m m' := by
  intro j
  induction j with
  | zero =>
    intro i m f hj hi hI hf
    have : i = l.length := by omega
    subst this
    refine ⟨m, f, ?_, hI, fun x hx => ?_, .refl ..⟩
    · rw [l_f25_4_eq, h8.len, bnd_some, nts_len]
      simp only [aBin_lss, bnd_some, Int.lt_irrefl, decide_false, onBool_false]
    · have h1 := List.idxOf_lt_length_of_mem hx
      have h2 := hf (l.idxOf x) h1 h1
      rw [List.getElem_idxOf] at h2
      exact h2
  | succ j ih =>
    intro i m f hj hi hI hf
    have hilt : i < l.length := by omega
    have hix : rIxAddrSl 1 v8 (.int .i64 i) = some (.pim [.int .i64 (l[i] : Nat)]) := h8.ix (nts_get hilt) rfl rfl
    obtain ⟨i1, i2, i3⟩ := hI.at (hlt _ (List.getElem_mem hilt))
    obtain ⟨m1, s1, s2, s3⟩ := i3 (i : Nat)
    have hu : ∀ k, updI (fun i => (f i : Nat)) l[i] (i : Nat) k = ((upd f l[i] i k : Nat) : Int) := fun k => by unfold updI upd; split <;> rfl
    have s2' : IRw m1 q (fun k => (upd f l[i] i k : Nat)) n := by
      have := s2; rw [show updI (fun i => (f i : Nat)) l[i] (i : Nat) = fun k => ((upd f l[i] i k : Nat) : Int) from funext hu] at this; exact this
    obtain ⟨m2, f', t1, t2, t3, t4⟩ := ih (i + 1) m1 (upd f l[i] i) (by omega) (by omega) s2' (fun k hk hki => by
      unfold upd
      by_cases he : l[k] = l[i]
      · rw [if_pos he]
        exact ((List.getElem_inj hnd).1 he).symm
      · rw [if_neg he]
        refine hf k hk ?_
        rcases Nat.lt_or_ge k i with h | h
        · exact h
        · have : k = i := by omega
          subst this; exact absurd rfl he)
    refine ⟨m2, f', ?_, t2, t3, s3.trans t4⟩
    rw [l_f25_4_eq, h8.len, bnd_some, nts_len]
    simp only [aBin_lss, bnd_some]
    rw [decide_eq_true (by omega), onBool_true, k_f25_7_eq]
    simp only [hix, bnd_some, rLoad_pimc, List.getElem?_cons_zero, i1, s1, k_f25_11_eq, aBin_add]
    rw [wrap64 (by omega) (by omega), ← t1]
    rfl
theorem rty_out (f : Nat → Nat) {n q : Nat} {v9 : AV} {all : List AV} (h9 : HSl v9 all) (hal : all.length ≤ 1000000) (u : Fo) : ∀ (b i : Nat) (vs : List AV) (m : Mem) (w : AV) (ys : List AV), (∀ x ∈ leaves u, x < n) → u.ok → u.nar → all.drop i = vs → TyL u vs → b ≤ m.next → App b 4 m w ys → ys.length = i → IRw m q (fun i => (f i : Nat)) n → q < m.next →
    ∃ w' zs m', l_f25_6 v9 (.ms q 0 0 n 1) w (.int .i64 i) m = some (.ret (.tup [w', .int .i64 0]), m') ∧ HSl w' (ys ++ zs) ∧ TyL (ren f u) zs ∧ Keeps b m m' := by
  have step : ∀ (b i : Nat) (m : Mem) (w : AV) (ys : List AV) (v : AV) (u1 : Fo), NumOne f n u1 → TyL u1 [v] → (hi : i < all.length) → all[i] = v → b ≤ m.next → App b 4 m w ys → ys.length = i → IRw m q (fun i => (f i : Nat)) n → q < m.next →
      ∃ w6 v' m', l_f25_6 v9 (.ms q 0 0 n 1) w (.int .i64 i) m = l_f25_6 v9 (.ms q 0 0 n 1) w6 (.int .i64 (i + 1 : Nat)) m' ∧ App b 4 m' w6 (ys ++ [v']) ∧ TyL (ren f u1) [v'] ∧ Keeps b m m' ∧ KR m m' := by
    intro b i m w ys v u1 h1 ht hi hv hbm hA hy hI hq
    obtain ⟨va, vb, vc, vd, rfl⟩ := ht.one
    obtain ⟨v', m1, a1, a2, a3⟩ := h1 _ m q ht hI hq
    obtain ⟨ua, ub, uc, ud, rfl⟩ := a2.one
    have hix : rIxAddrSl 4 v9 (.int .i64 i) = some (.pim [va, vb, vc, vd]) := h9.ix (x := .agg [va, vb, vc, vd]) (by rw [List.getElem?_eq_getElem hi, hv]) rfl rfl
    have hld : rLoad true 4 m (.pim [va, vb, vc, vd]) = some (.agg [va, vb, vc, vd]) := rfl
    have hA1 : App b 4 m1 w ys := hA.kept a3
    have hbytes : A_api_Type.bytes = 56 := rfl
    have n1 := a3.next
    obtain ⟨w6, m2, p1, p2, p3, p4⟩ := App.appendR (A := A_api_Type) (b := b) (m := m1) (v := w) (w := .sl .full [.agg [ua, ub, uc, ud]]) (xs := ys) (ys := [.agg [ua, ub, uc, ud]]) hA1 (by omega) (.sl _ _) rfl ⟨by decide, rfl⟩ (by rw [hbytes]; simp only [List.length_cons, List.length_nil]; omega) (by simp only [List.length_cons, List.length_nil]; omega)
    have es : rBuildSlice A_api_Type 1 [(0, .agg [ua, ub, uc, ud])] = some (.sl .full [.agg [ua, ub, uc, ud]]) := rfl
    refine ⟨w6, _, m2, ?_, p2, a2, Keeps.trans (a3.less hbm) p3, a3.kr.trans p4⟩
    rw [l_f25_6_eq, h9.len, bnd_some]
    simp only [aBin_lss, bnd_some]
    rw [decide_eq_true (by omega), onBool_true, k_f25_10_eq]
    simp only [hix, bnd_some, hld, a1, retK_ret, es, p1, memK_some, k_f25_12_eq, aBin_add]
    rw [wrap64 (by omega) (by omega)]
    rfl
  have one : ∀ {u1 rest : Fo} {v : AV} {xs : List AV} {i : Nat}, all.drop i = v :: xs → ∃ hi : i < all.length, all[i] = v ∧ all.drop (i + 1) = xs := by
    intro u1 rest v xs i hdr
    have hi : i < all.length := by
      rcases Nat.lt_or_ge i all.length with h | h
      · exact h
      · rw [List.drop_of_length_le h] at hdr; cases hdr
    rw [List.drop_eq_getElem_cons hi] at hdr
    exact ⟨hi, (List.cons.inj hdr).1, (List.cons.inj hdr).2⟩
  induction u with
  | nil =>
    intro b i vs m w ys hlv ho hna hdr ht hbm hA hy hI hq
    cases ht
    have hi : all.length ≤ i := by
      have := congrArg List.length hdr
      simp at this; omega
    rw [l_f25_6_eq, h9.len, bnd_some]
    simp only [aBin_lss, bnd_some]
    rw [decide_eq_false (by omega), onBool_false, k_f25_6_eq]
    exact ⟨w, [], m, rfl, by simpa using hA.hsl, .nil, .refl ..⟩
  | v x rest ih =>
    intro b i vs m w ys hlv ho hna hdr ht hbm hA hy hI hq
    cases ht with
    | @v _ _ xs hr =>
    obtain ⟨hi, hget, hdr2⟩ := one (u1 := .nil) (rest := .nil) hdr
    obtain ⟨w6, v', m1, s1, s2, s3, s4, s5⟩ := step b i m w ys _ (.v x .nil) (rnum_var f (hlv x (by simp [leaves]))) (.v .nil) hi hget hbm hA hy hI hq
    have n1 := s5.next
    obtain ⟨w7, zs, m2, t1, t2, t3, t4⟩ := ih b (i + 1) xs m1 w6 (ys ++ [v']) (fun y hy => hlv y (by simp [leaves, hy])) ho hna hdr2 hr (by omega) s2 (by simp [hy]) (hI.kr hq s5) (by omega)
    refine ⟨w7, v' :: zs, m2, by rw [s1, t1], by simpa using t2, ?_, s4.trans t4⟩
    cases s3
    exact .v t3
  | c kk nn aa rest ih1 ih2 =>
    intro b i vs m w ys hlv ho hna hdr ht hbm hA hy hI hq
    cases ht with
    | @c _ _ _ _ w2 zs2 xs hw2 hta hr =>
    obtain ⟨ho1, ho2, ho3⟩ := ho
    obtain ⟨hna1, hna2, hna3⟩ := hna
    obtain ⟨hi, hget, hdr2⟩ := one (u1 := .nil) (rest := .nil) hdr
    obtain ⟨w6, v', m1, s1, s2, s3, s4, s5⟩ := step b i m w ys _ (.c kk nn aa .nil) (num_one f (fun y hy => hlv y (by simp [leaves] at hy ⊢; exact .inl hy)) ⟨ho1, ho2, trivial⟩ ⟨hna1, hna2, trivial⟩) (.c hw2 hta .nil) hi hget hbm hA hy hI hq
    have n1 := s5.next
    obtain ⟨w7, zs, m2, t1, t2, t3, t4⟩ := ih2 b (i + 1) xs m1 w6 (ys ++ [v']) (fun y hy => hlv y (by simp [leaves, hy])) ho3 hna3 hdr2 hr (by omega) s2 (by simp [hy]) (hI.kr hq s5) (by omega)
    refine ⟨w7, v' :: zs, m2, by rw [s1, t1], by simpa using t2, ?_, s4.trans t4⟩
    cases s3 with
    | c g1 g2 _ => exact .c g1 g2 t3
theorem rTypes_s {m : Mem} {o : Option Nat} {nv : AV} {ns : List Nd} (h : RV m o nv ns) (g : Uni.Good ns) (hv : Vn ns) (hn : ns.length ≤ 1000000) (hal : ∀ i, (argsOf ns i).length ≤ 1000000) {v : AV} {l : List Int} (hx : HSl v (its l)) (hl : l.length ≤ 1000000) :
    ∃ w e m', w_f25 (.agg [nv]) v m = some (.ret (.tup [w, .int .i64 e]), m') ∧ Kept m m' ∧ ((l.all (inB ns.length) = false ∧ e = 221 ∧ w = .nils) ∨ (l.all (inB ns.length) = true ∧ ∃ xs : List Nat, l = xs.map (fun x : Nat => (x : Int)) ∧ (∀ x ∈ xs, x < ns.length) ∧ TysP ns xs e w [] [])) := by
  have k1 : Kept m (m.alloc (.row [nv] 0)) := Kept.alloc m _
  have ob : (m.alloc (.row [nv] 0)).obj m.next = some (.row [nv] 0) := by simp
  obtain ⟨m2, a1, a2⟩ := rty_there (b2 := m.next) hx hl _ 0 _ rfl (Nat.zero_le _) (h.kept k1) ob (by simp)
  have kk := k1.trans a1
  have n2 : m.next + 1 ≤ m2.next := a1.next
  have ob2 := (a1.obj m.next (by simp)).trans ob
  have hoo := h.oo
  rw [List.drop_zero] at a2
  rw [e_f25, box1, memK_some]
  rcases a2 with ⟨hI, a2⟩ | ⟨hI, a2⟩
  · have a2' : l_f25_0 v (.ptr m.next 0 0) (.int .i64 0) (m.alloc (.row [nv] 0)) = _ := a2
    have hR2 := h.kept kk
    obtain ⟨w1, w2⟩ := ki_new (ns := ns) m2 hn
    have k3 : Kept m2 (m2.alloc (.row (repl ns.length [.int .i64 0]) 0)) := Kept.alloc m2 _
    obtain ⟨xs, e1, e2, e3⟩ := nts_of hI
    have hx' := hx
    rw [e1] at hx'
    have hlen : xs.length = l.length := by rw [e3]; simp
    have es1 : rBuildSlice A_int 0 [] = some (.sl .full []) := rfl
    have es2 : rBuildSlice A_api_Type 0 [] = some (.sl .full []) := rfl
    obtain ⟨m4, q1, q2⟩ := rty_raw (o := o) (nv := nv) (b2 := m.next) (q := m2.next) (b := m2.next + 1) (fun e => by have := hoo _ e.symm; omega) g hv hn hal hx' e2 (by omega) (fun j e => by have := hoo j e; omega) (by omega) (by omega) (by omega)
      _ 0 (m2.alloc (.row (repl ns.length [.int .i64 0]) 0)) [] (.sl .full []) (.sl .full []) [] rfl (Nat.zero_le _) (hR2.kept k3) w2 ((k3.obj _ (by omega)).trans ob2) (by simp) (.full [] rfl) (.full [] rfl) (fun t h => by cases h) rfl List.nodup_nil (by simp)
    have n4 : m2.next + 1 ≤ m4.next := q1.1
    have k24 : Kept m m4 := ⟨by omega, fun j hj => by rw [q1.2 j (by omega) (by omega), k3.obj j (by omega)]; exact kk.obj j hj⟩
    rw [a2', k_f25_0_eq]
    simp only [rFieldAddr_ptr, bnd_some]
    rw [(row1 ob2).2, bnd_some, hR2.len, bnd_some, w1, memK_some, es1, bnd_some, es2, bnd_some]
    rw [List.drop_zero] at q2
    rcases q2 with ⟨hbig, q2⟩ | ⟨u, zs, v8, v9, q2, q3, q4, q5, q6, q7, q8, q9⟩
    · have q2' : l_f25_2 v (.ptr m.next 0 0) (.ms m2.next 0 0 ns.length 1) (.sl .full []) (.sl .full []) (.int .i64 0) (m2.alloc (.row (repl ns.length [.int .i64 0]) 0)) = _ := q2
      rw [q2']
      exact ⟨.nils, 120, m4, rfl, k24, .inr ⟨hI, xs, e3, e2, .inr ⟨hbig, rfl, rfl⟩⟩⟩
    · have q9' : l_f25_2 v (.ptr m.next 0 0) (.ms m2.next 0 0 ns.length 1) (.sl .full []) (.sl .full []) (.int .i64 0) (m2.alloc (.row (repl ns.length [.int .i64 0]) 0)) = _ := q9
      rw [q9', k_f25_1_eq]
      simp only [rFieldAddr_ptr, bnd_some]
      obtain ⟨z1, z2⟩ := irw_new m4 hn
      have k45 : Kept m4 (m4.alloc (.row (repl ns.length [.int .i64 0]) 0)) := Kept.alloc m4 _
      have hlv : ∀ x ∈ mets [] u, x < ns.length := fun x hx => by
        rcases (mets_sub u [] x).1 hx with h | h
        · simp at h
        · exact (q2.leaves x h).1.is.1
      have hndm : (mets [] u).Nodup := mets_nodup u List.nodup_nil
      have hml : (mets [] u).length ≤ 1000000000 := by
        have h3 := nodup_lt _ _ hndm hlv
        omega
      have h8 := (q4.kept k45).hsl
      obtain ⟨m6, f', f1, f2, f3, f4⟩ := rty_nums (v9 := v9) (q := m4.next) h8 hndm hlv hml _ 0 _ (fun _ => 0) rfl (Nat.zero_le _) z2 (fun k _ h => by omega)
      have n6 : m6.next = m4.next + 1 := f4.next
      rw [List.nil_append] at q5
      have hzl : zs.length = xs.length := by rw [q6.wid, q2.wid]
      obtain ⟨w', outs, m7, g1, g2, g3, g4⟩ := rty_out f' (q := m4.next) (n := ns.length) q5 (by omega) u m6.next 0 zs m6 (.sl .full []) [] (fun x hx => (q2.leaves x hx).1.is.1) q2.ok (q2.nar hal) rfl q6 (Nat.le_refl _) (.full [] rfl) rfl f2 (by omega)
      have f1' : l_f25_4 v8 v9 (.ms m4.next 0 0 ns.length 1) (.int .i64 0) (m4.alloc (.row (repl ns.length [.int .i64 0]) 0)) = _ := f1
      have g1' : l_f25_6 v9 (.ms m4.next 0 0 ns.length 1) (.sl .full []) (.int .i64 0) m6 = _ := g1
      rw [(row1 q8).2, bnd_some, q7.len, bnd_some, z1, memK_some, f1', k_f25_3_eq, es2, bnd_some, g1']
      have hren : ren f' u = num [] u := by
        rw [num_last u [] (mets [] u) (List.prefix_refl _)]
        exact ren_congr u fun x hx => f3 x ((mets_sub u [] x).2 (.inr hx))
      have n7 := g4.next
      refine ⟨w', 0, m7, rfl, ⟨by omega, fun j hj => by rw [g4.obj j (by omega), f4.obj j (by omega), k45.obj j (by omega)]; exact k24.obj j hj⟩, .inr ⟨hI, xs, e3, e2, .inl ⟨u, outs, q2, q3, rfl, g2, by rw [← hren]; exact g3⟩⟩⟩
  · have a2' : l_f25_0 v (.ptr m.next 0 0) (.int .i64 0) (m.alloc (.row [nv] 0)) = _ := a2
    rw [a2']
    exact ⟨.nils, 221, m2, rfl, kk, .inl ⟨hI, rfl, rfl⟩⟩
end Go.AM
namespace Go.AM
open Go Go.Proofs Uni
set_option linter.unusedSimpArgs false
set_option linter.unusedVariables false
theorem Te.sm {ns ns2 : List Nd} (h : Sm ns ns2) (g : Uni.Good ns) (g2 : Uni.Good ns2) {a c : Nat} (ha : a < ns.length) (hc : c < ns.length) : Te ns a c ↔ Te ns2 a c := by
  have one : ∀ {p r : List Nd}, Sm p r → Uni.Good p → Uni.Good r → ∀ {a c : Nat}, a < p.length → c < p.length → Te p a c → Te r a c := by
    intro p r h g g2 a c ha hc ⟨t, h1, h2⟩
    have hex : ∀ x, ∃ y, x < r.length → Rt r x y := fun x => by
      by_cases hx : x < r.length
      · obtain ⟨y, hy⟩ := g2.lk x hx; exact ⟨y, fun _ => hy⟩
      · exact ⟨0, fun h => absurd h hx⟩
    have hlt : ∀ x, x < p.length → x < r.length := fun x hx => by rw [h.sd.len]; exact hx
    let f := fun x => Classical.choose (hex x)
    have hf : ∀ x y, Rt p x x → Rt r x y → f x = y := fun x y h1 h2 => (Classical.choose_spec (hex x) (hlt x h1.is.1)).inj h2
    refine ⟨ren f t, St.other h g2.lk g.cm g2.cm g2.av hf h1 (m := [a]) rfl (by simp; exact Sim.refl a) (by simp; exact hlt a ha), St.other h g2.lk g.cm g2.cm g2.av hf h2 (m := [c]) rfl (by simp; exact Sim.refl c) (by simp; exact hlt c hc)⟩
  exact ⟨one h g g2 ha hc, fun ht => one h.symm g2 g (by rw [h.sd.len]; exact ha) (by rw [h.sd.len]; exact hc) ht⟩
/-- trees of two such stores: the same but for the names of variables, so of the same size and the same numbers -/
theorem St.sm {ns ns2 : List Nd} (h : Sm ns ns2) (g : Uni.Good ns) (g2 : Uni.Good ns2) {l : List Nat} (hl : ∀ x ∈ l, x < ns.length) {t u : Fo} (ht : St ns l t) (hu : St ns2 l u) : num [] t = num [] u ∧ ∀ k, fsz k t = fsz k u := by
  have hex : ∀ x, ∃ y, x < ns2.length → Rt ns2 x y := fun x => by
    by_cases hx : x < ns2.length
    · obtain ⟨y, hy⟩ := g2.lk x hx; exact ⟨y, fun _ => hy⟩
    · exact ⟨0, fun h => absurd h hx⟩
  have hlt : ∀ x, x < ns.length → x < ns2.length := fun x hx => by rw [h.sd.len]; exact hx
  let f := fun x => Classical.choose (hex x)
  have hf : ∀ x y, Rt ns x x → Rt ns2 x y → f x = y := fun x y h1 h2 => (Classical.choose_spec (hex x) (hlt x h1.is.1)).inj h2
  have := St.other h g2.lk g.cm g2.cm g2.av hf ht (m := l) rfl (fun q hq => zip_refl (sim_eqv ns) l q hq) (fun x hx => hlt x (hl x hx))
  have hr := this.inj hu
  have hinj : ∀ x y, (x ∈ ([] : List Nat) ∨ x ∈ leaves t) → (y ∈ ([] : List Nat) ∨ y ∈ leaves t) → f x = f y → x = y := by
    intro x y hx hy e
    have hx' : x ∈ leaves t := hx.resolve_left (by simp)
    have hy' : y ∈ leaves t := hy.resolve_left (by simp)
    obtain ⟨x1, _⟩ := ht.leaves x hx'
    obtain ⟨y1, _⟩ := ht.leaves y hy'
    have rx := Classical.choose_spec (hex x) (hlt x x1.is.1)
    have ry := Classical.choose_spec (hex y) (hlt y y1.is.1)
    have e' : Classical.choose (hex x) = Classical.choose (hex y) := e
    rw [← e'] at ry
    have hs : Sim ns x y := (h.sim x y).2 (.inr ⟨_, rx, ry⟩)
    exact (y1.inj (hs.root x1)).symm
  refine ⟨?_, fun k => ?_⟩
  · rw [← hr]
    exact (num_ren (f := f) t [] hinj).1.symm
  · rw [← hr, fsz_ren]
end Go.AM
