/-
  Spans: rows of pairs that are written in place; the program's and the document's Spans over the machine.
-/
import Derived.Test.YtcliklgiamlpeaaRelexEdits
namespace Go.AM
open Go Go.Proofs Lx
set_option linter.unusedSimpArgs false
set_option linter.unusedVariables false

def spFlat : List (Int × Int) → List AV
  | [] => []
  | p :: l => .int .i64 p.1 :: .int .i64 p.2 :: spFlat l
def spAV (p : Int × Int) : AV := .agg [.int .i64 p.1, .int .i64 p.2]
theorem spFlat_len : ∀ L : List (Int × Int), (spFlat L).length = L.length * 2
  | [] => rfl
  | p :: l => by simp [spFlat, spFlat_len l]; omega
theorem spFlat_append : ∀ (L M : List (Int × Int)), spFlat (L ++ M) = spFlat L ++ spFlat M
  | [], M => rfl
  | p :: l, M => by simp [spFlat, spFlat_append l M]
theorem spFlat_drop : ∀ (L : List (Int × Int)) (i : Nat) (h : i < L.length), (spFlat L).drop (i * 2) = .int .i64 L[i].1 :: .int .i64 L[i].2 :: spFlat (L.drop (i + 1))
  | p :: l, 0, h => rfl
  | p :: l, i + 1, h => by
    rw [Nat.succ_mul]
    simp only [spFlat, List.drop_succ_cons, List.getElem_cons_succ]
    exact spFlat_drop l i (by simpa using h)

inductive Sp (b : Nat) (m : Mem) : AV → List (Int × Int) → Prop
  | nil : Sp b m .nils []
  | full : Sp b m (.sl .full []) []
  | row (o ver : Nat) (L : List (Int × Int)) : b ≤ o → o < m.next → m.obj o = some (.row (spFlat L) ver) → Sp b m (.ms o ver 0 L.length 2) L
theorem Sp.kept {b : Nat} {m m' : Mem} {v : AV} {L : List (Int × Int)} (h : Sp b m v L) (k : Kept m m') : Sp b m' v L := by
  cases h with
  | nil => exact .nil
  | full => exact .full
  | row o ver _ h1 h2 h3 => exact .row o ver _ h1 (Nat.lt_of_lt_of_le h2 k.next) ((k.obj o h2).trans h3)
theorem Sp.len {b : Nat} {m : Mem} {v : AV} {L : List (Int × Int)} (h : Sp b m v L) : rLenSl v = some (.int .i64 L.length) := by
  cases h <;> rfl

theorem Sp.push {b : Nat} {m0 m : Mem} {v : AV} {L : List (Int × Int)} (h : Sp b m0 v L) (k : Kept m0 m) (hb : b ≤ m0.next) (hl : L.length ≤ 1000000000) (a c : Int) :
    ∃ v' m', rAppend A_Ar2_int 1 m v (.sl .full [spAV (a, c)]) = some (v', m') ∧ Sp b m' v' (L ++ [(a, c)]) ∧ Keeps b m m' ∧ ∀ j, m0.next ≤ j → j < m.next → m'.obj j = m.obj j := by
  have hk := k.next
  cases h with
  | nil =>
    have e : rAppend A_Ar2_int 1 m .nils (.sl .full [spAV (a, c)]) = some (.ms m.next 0 0 1 2, m.alloc (.row (spFlat [(a, c)]) 0)) := rfl
    refine ⟨_, _, e, .row m.next 0 [(a, c)] (by omega) (by simp) (by simp), (Keeps.refl b m).alloc (by omega) _, fun j _ h2 => ?_⟩
    rw [alloc_obj, if_neg (by omega)]
  | full =>
    have e : rAppend A_Ar2_int 1 m (.sl .full []) (.sl .full [spAV (a, c)]) = some (.ms m.next 0 0 1 2, m.alloc (.row (spFlat [(a, c)]) 0)) := rfl
    refine ⟨_, _, e, .row m.next 0 [(a, c)] (by omega) (by simp) (by simp), (Keeps.refl b m).alloc (by omega) _, fun j _ h2 => ?_⟩
    rw [alloc_obj, if_neg (by omega)]
  | row o ver _ h1 h2 h3 =>
    have ho := (k.obj o h2).trans h3
    have hlen := spFlat_len L
    have e : rAppend A_Ar2_int 1 m (.ms o ver 0 L.length 2) (.sl .full [spAV (a, c)]) = some (.ms o (ver + 1) 0 (L.length + 1) 2, m.set o (.row (spFlat (L ++ [(a, c)])) (ver + 1))) := by
      have e1 : rAppend A_Ar2_int 1 m (.ms o ver 0 L.length 2) (.sl .full [spAV (a, c)]) = aAppend2 1 m A_Ar2_int (.ms o ver 0 L.length 2) [spAV (a, c)] := rfl
      have e2 : A_Ar2_int.size = 2 := rfl
      have e3 : A_Ar2_int.bytes = 16 := rfl
      have e4 : flat? [spAV (a, c)] = some (spFlat [(a, c)]) := rfl
      rw [e1]
      simp only [aAppend2, e2, e3, List.length_cons, List.length_nil, ho]
      rw [if_neg (by omega), if_neg (by simp), if_neg (by simp), if_neg (by simp [hlen]), e4, Option.bind_some, if_neg (by omega), ← hlen, List.take_length, spFlat_append]
    have hlen2 : L.length + 1 = (L ++ [(a, c)]).length := by simp
    rw [e]
    refine ⟨_, _, rfl, ?_, (Keeps.refl b m).set h1 _, fun j h4 _ => ?_⟩
    · rw [hlen2]
      exact .row o (ver + 1) _ h1 (by simp; omega) (by simp)
    · rw [set_obj, if_neg (by omega)]

theorem Sp.setLast {b : Nat} {m : Mem} {v : AV} {L : List (Int × Int)} {p : Int × Int} (h : Sp b m v (L ++ [p])) (x : Int) :
    ∃ q, rIxAddrSl 2 v (.int .i64 L.length) = some q ∧ ∃ r, rIxAddrArr 2 1 q (.int .i64 1) = some r ∧ ∃ m', rStore 1 m r (.int .i64 x) = some m' ∧ Sp b m' v (L ++ [(p.1, x)]) ∧ Keeps b m m' := by
  generalize hM : L ++ [p] = M at h
  cases h with
  | nil => simp at hM
  | full => simp at hM
  | row o ver _ h1 h2 h3 =>
    subst hM
    refine ⟨.ptr o ver (L.length * 2), ?_, .ptr o ver (L.length * 2 + 1), rfl, m.set o (.row (spFlat (L ++ [(p.1, x)])) ver), ?_, ?_, (Keeps.refl b m).set h1 _⟩
    · simp [rIxAddrSl]
      omega
    · refine rStore_ptr h3 rfl rfl ?_
      have e1 : spFlat (L ++ [p]) = spFlat L ++ [.int .i64 p.1, .int .i64 p.2] := by rw [spFlat_append]; rfl
      have e2 : spFlat (L ++ [(p.1, x)]) = spFlat L ++ [.int .i64 p.1, .int .i64 x] := by rw [spFlat_append]; rfl
      rw [e1, e2]
      have hl := spFlat_len L
      unfold putCells splice
      rw [if_pos (by simp [hl])]
      have t1 : (spFlat L ++ [AV.int .i64 p.1, AV.int .i64 p.2]).take (L.length * 2 + 1) = spFlat L ++ [AV.int .i64 p.1] := by
        rw [← hl, List.take_length_add_append]; rfl
      have t2 : (spFlat L ++ [AV.int .i64 p.1, AV.int .i64 p.2]).drop (L.length * 2 + 1 + [AV.int .i64 x].length) = [] := List.drop_eq_nil_of_le (by simp [hl])
      rw [t1, t2]; simp
    · have : (L ++ [p]).length = (L ++ [(p.1, x)]).length := by simp
      rw [this]
      exact .row o ver _ h1 h2 (by simp)

theorem Sp.get {b : Nat} {m : Mem} {v : AV} {L : List (Int × Int)} (h : Sp b m v L) {i : Nat} (hi : i < L.length) :
    ∃ q, rIxAddrSl 2 v (.int .i64 i) = some q ∧ rLoad true 2 m q = some (spAV L[i]) ∧ ∃ r0 r1, rIxAddrArr 2 1 q (.int .i64 0) = some r0 ∧ rLoad false 1 m r0 = some (.int .i64 L[i].1) ∧ rIxAddrArr 2 1 q (.int .i64 1) = some r1 ∧ rLoad false 1 m r1 = some (.int .i64 L[i].2) := by
  cases h with
  | nil => simp at hi
  | full => simp at hi
  | row o ver _ h1 h2 h3 =>
    have hd := spFlat_drop L i hi
    have hl := spFlat_len L
    have g0 : (spFlat L)[i * 2]? = some (.int .i64 L[i].1) := by
      have e : ((spFlat L).drop (i * 2))[0]? = (spFlat L)[i * 2 + 0]? := List.getElem?_drop
      rw [hd] at e; exact e.symm
    have g1 : (spFlat L)[i * 2 + 1]? = some (.int .i64 L[i].2) := by
      have e : ((spFlat L).drop (i * 2))[1]? = (spFlat L)[i * 2 + 1]? := List.getElem?_drop
      rw [hd] at e; exact e.symm
    refine ⟨.ptr o ver (i * 2), ?_, ?_, .ptr o ver (i * 2), .ptr o ver (i * 2 + 1), rfl, ?_, rfl, ?_⟩
    · simp [rIxAddrSl]; omega
    · rw [rLoad_ptr, cells_of h3, Option.bind_some, partOf_agg, if_pos (by omega), hd]; rfl
    · rw [rLoad_ptr, cells_of h3, Option.bind_some, partOf_cell, g0]
    · rw [rLoad_ptr, cells_of h3, Option.bind_some, partOf_cell, g1]

theorem spNeq (p q : Int × Int) : aBin X.T .neq T_Ar2_int false false (spAV p) (spAV q) = some (.bool (decide (p ≠ q))) := by
  have h : ∀ a b a' b' : Int, aBin X.T .neq T_Ar2_int false false (.agg [.int .i64 a, .int .i64 b]) (.agg [.int .i64 a', .int .i64 b']) =
    (if (a == a') = true then (if (b == b') = true then some true else some false) else some false).map fun b => .bool !b := by intro a b a' b'; kernel_rfl
  obtain ⟨a, b⟩ := p
  obtain ⟨c, d⟩ := q
  unfold spAV
  rw [h]
  by_cases h1 : a = c <;> by_cases h2 : b = d <;> simp [h1, h2]

/-! ### what both compute -/
def setLast (L : List (Int × Int)) (x : Int) : List (Int × Int) := match L.getLast? with
  | none => []
  | some p => L.dropLast ++ [(p.1, x)]
theorem setLast_append (L : List (Int × Int)) (p : Int × Int) (x : Int) : setLast (L ++ [p]) x = L ++ [(p.1, x)] := by simp [setLast]
def spGo (s : List UInt8) : List TI → Bool → List (Int × Int) → List (Int × Int)
  | [], _, L => L
  | t :: ts, up, L => if isS s t [59, 59] then spGo s ts false L else spGo s ts true (if up then setLast L t.t else L ++ [(t.f, t.t)])

theorem tiBoxed (t : TI) (m : Mem) : ∃ m2, memK (aBox m (.agg [.int .i64 0, .int .i64 0, .int .i64 0])) (fun v m1 => (rStore 3 m1 v (tiAV t)).map fun m2 => (v, m2)) = some (.ptr m.next 0 0, m2) ∧ m2.obj m.next = some (tiRow t) ∧ m2.next = m.next + 1 ∧ Kept m m2 := by
  rw [tiBox, memK_some]
  have o1 : (m.alloc (tiRow ⟨0, 0, 0⟩)).obj m.next = some (tiRow ⟨0, 0, 0⟩) := by simp
  rw [tiStore t o1]
  exact ⟨_, rfl, by simp, by simp, (Kept.alloc m _).set (Nat.le_refl _) _⟩
theorem tiGetT {m : Mem} {o : Nat} {t : TI} (h : m.obj o = some (tiRow t)) : rLoad false 1 m (.ptr o 0 (0 + 2)) = some (.int .i64 t.t) := by rw [rLoad_ptr, cells_of h]; rfl

theorem spans_loop (s : List UInt8) {v9 : AV} {ts : List TI} (h9 : HSl v9 (tis ts)) (hl : ts.length ≤ 1000000000) : ∀ (k i : Nat) (up : Bool) (v : AV) (L : List (Int × Int)) (b : Nat) (m : Mem), ts.length - i = k → i ≤ ts.length → Sp b m v L → b ≤ m.next → (up = true → L ≠ []) → L.length ≤ i →
    ∃ v' m', l_relex_Spans_0 (.str (bs s)) v (.bool up) v9 (.int .i64 ts.length) (.int .i64 i) m = some (.ret v', m') ∧ Sp b m' v' (spGo s (ts.drop i) up L) ∧ Keeps b m m' := by
  intro k
  induction k with
  | zero =>
    intro i up v L b m hk hi hS hb hu hL
    have : i = ts.length := by omega
    subst this
    rw [l_relex_Spans_0_eq]
    simp only [aBin_lss, bnd_some, Int.lt_irrefl, decide_false, onBool_false, k_relex_Spans_0_eq, List.drop_length, spGo]
    exact ⟨_, _, rfl, hS, .refl _ _⟩
  | succ k ih =>
    intro i up v L b m hk hi hS hb hu hL
    have hlt : i < ts.length := by omega
    have hd : decide ((i : Int) < (ts.length : Nat)) = true := decide_eq_true (by omega)
    have hdr : ts.drop i = ts[i] :: ts.drop (i + 1) := List.drop_eq_getElem_cons hlt
    obtain ⟨t, ht⟩ : ∃ t, ts[i] = t := ⟨_, rfl⟩
    have hx := ti_ix h9 (k := .i64) hlt
    rw [ht] at hx hdr
    rw [l_relex_Spans_0_eq]
    simp only [aBin_lss, bnd_some, hd, onBool_true]
    rw [k_relex_Spans_1_eq, hx, bnd_some, ti_load, bnd_some, tiBox, memK_some]
    have o1 : (m.alloc (tiRow ⟨0, 0, 0⟩)).obj m.next = some (tiRow ⟨0, 0, 0⟩) := by simp
    rw [tiStore t o1, bnd_some]
    have o2 : ((m.alloc (tiRow ⟨0, 0, 0⟩)).set m.next (tiRow t)).obj m.next = some (tiRow t) := by simp
    have n2 : m.next < ((m.alloc (tiRow ⟨0, 0, 0⟩)).set m.next (tiRow t)).next := by simp
    have k2 : Kept m ((m.alloc (tiRow ⟨0, 0, 0⟩)).set m.next (tiRow t)) := (Kept.alloc m _).set (Nat.le_refl _) _
    generalize (m.alloc (tiRow ⟨0, 0, 0⟩)).set m.next (tiRow t) = m2 at *
    obtain ⟨m3, q1, q2⟩ := is_s s t [59, 59] m2
    have o3 : m3.obj m.next = some (tiRow t) := (q2.obj _ n2).trans o2
    have n3 : m.next < m3.next := Nat.lt_of_lt_of_le n2 q2.next
    have k3 : Kept m m3 := k2.trans q2
    have kb : Keeps b m m3 := k3.less hb
    have step : ∀ (up' : Bool) (v' : AV) (L' : List (Int × Int)) (m' : Mem), Sp b m' v' L' → b ≤ m'.next → (up' = true → L' ≠ []) → L'.length ≤ i + 1 → Keeps b m m' → spGo s (ts.drop i) up L = spGo s (ts.drop (i + 1)) up' L' →
        ∃ v'' m'', k_relex_Spans_2 (.str (bs s)) v' (.bool up') v9 (.int .i64 ts.length) (.int .i64 i) m' = some (.ret v'', m'') ∧ Sp b m'' v'' (spGo s (ts.drop i) up L) ∧ Keeps b m m'' := by
      intro up' v' L' m' h1 h2 h3 h4 h5 h6
      rw [k_relex_Spans_2_eq]
      simp only [aBin_add, bnd_some]
      rw [wrap64 (by omega) (by omega), h6]
      obtain ⟨v'', m'', g1, g2, g3⟩ := ih (i + 1) up' v' L' b m' (by omega) (by omega) h1 h2 h3 h4
      exact ⟨v'', m'', g1, g2, h5.trans g3⟩
    rw [tiGet o2, bnd_some, q1, retK_ret]
    cases hI : isS s t [59, 59] with
    | true =>
      rw [onBool_true]
      refine step false v L m3 (hS.kept k3) (Nat.le_trans hb k3.next) (by simp) (by omega) kb ?_
      rw [hdr, spGo, if_pos hI]
    | false =>
      rw [onBool_false, aUn_not, bnd_some]
      have k3s : ∀ (v' : AV) (L' : List (Int × Int)) (p : Int × Int) (m' : Mem), Sp b m' v' (L' ++ [p]) → b ≤ m'.next → L'.length ≤ i → Keeps b m m' → m'.obj m.next = some (tiRow t) → spGo s (ts.drop i) up L = spGo s (ts.drop (i + 1)) true (L' ++ [(p.1, t.t)]) →
          ∃ v'' m'', k_relex_Spans_3 (.str (bs s)) v' (.bool true) (.ptr m.next 0 0) v9 (.int .i64 ts.length) (.int .i64 i) m' = some (.ret v'', m'') ∧ Sp b m'' v'' (spGo s (ts.drop i) up L) ∧ Keeps b m m'' := by
        intro v' L' p m' h1 h2 h3 h4 h5 h6
        rw [k_relex_Spans_3_eq, h1.len, bnd_some, aBin_sub, bnd_some, wrap64 (by simp; try omega) (by simp; try omega), rFieldAddr_ptr, bnd_some, tiGetT h5, bnd_some]
        obtain ⟨q, e1, r, e2, m'', e3, e4, e5⟩ := h1.setLast t.t
        have hh : (((L' ++ [p]).length : Nat) : Int) - 1 = (L'.length : Nat) := by simp
        rw [hh, e1, bnd_some, e2, bnd_some, e3, bnd_some]
        exact step true v' _ m'' e4 (Nat.le_trans h2 e5.next) (by simp) (by simp; omega) (h4.trans e5) h6
      cases up with
      | false =>
        rw [Bool.not_false, onBool_true]
        simp only [rFieldAddr_ptr, bnd_some]
        rw [tiGetF o3, bnd_some, tiGetT o3, bnd_some]
        have eb : rBuild [.int .i64 0, .int .i64 0] [(0, 1, .int .i64 t.f), (1, 1, .int .i64 t.t)] = some (spAV (t.f, t.t)) := rfl
        have es : rBuildSlice A_Ar2_int 1 [(0, spAV (t.f, t.t))] = some (.sl .full [spAV (t.f, t.t)]) := rfl
        obtain ⟨v4, m4, p1, p2, p3, p4⟩ := hS.push k3 hb (by omega) t.f t.t
        rw [eb, bnd_some, es, bnd_some, p1, memK_some]
        refine k3s v4 L (t.f, t.t) m4 p2 (Nat.le_trans (Nat.le_trans hb k3.next) p3.next) (by omega) (kb.trans p3) ((p4 _ (Nat.le_refl _) n3).trans o3) ?_
        rw [hdr, spGo, if_neg (by simp [hI])]
        simp
      | true =>
        rw [Bool.not_true, onBool_false]
        have hne := hu rfl
        have hdl := List.dropLast_concat_getLast hne
        have hlen : L.dropLast.length ≤ i := by simp; omega
        rw [← hdl] at hS
        refine k3s v L.dropLast (L.getLast hne) m3 (hS.kept k3) (Nat.le_trans hb k3.next) hlen kb o3 ?_
        rw [hdr, spGo, if_neg (by simp [hI])]
        rw [if_pos rfl]
        conv => lhs; rw [← hdl, setLast_append]

theorem spans_s (s : List UInt8) {v : AV} {ts : List TI} (h : HSl v (tis ts)) (hl : ts.length ≤ 1000000000) (m : Mem) : ∃ v' m', w_relex_Spans (.str (bs s)) v m = some (.ret v', m') ∧ Sp m.next m' v' (spGo s ts false []) ∧ Kept m m' := by
  rw [e_relex_Spans, h.len, bnd_some, List.length_map]
  exact spans_loop s h hl _ 0 false .nils [] m.next m rfl (Nat.zero_le _) .nil (Nat.le_refl _) (by simp) (Nat.le_refl _)

theorem rspans_loop (s : List UInt8) {v9 : AV} {ts : List TI} (h9 : HSl v9 (tis ts)) (hl : ts.length ≤ 1000000000) : ∀ (k i : Nat) (up : Bool) (v : AV) (L : List (Int × Int)) (b : Nat) (m : Mem), ts.length - i = k → i ≤ ts.length → Sp b m v L → b ≤ m.next → (up = true → L ≠ []) → L.length ≤ i →
    ∃ v' m', l_r09_Spans_0 (.str (bs s)) v9 v (.bool up) (.int .i64 i) m = some (.ret v', m') ∧ Sp b m' v' (spGo s (ts.drop i) up L) ∧ Keeps b m m' := by
  intro k
  induction k with
  | zero =>
    intro i up v L b m hk hi hS hb hu hL
    have : i = ts.length := by omega
    subst this
    rw [l_r09_Spans_0_eq, h9.len]
    simp only [List.length_map, aBin_lss, bnd_some, Int.lt_irrefl, decide_false, onBool_false, k_r09_Spans_0_eq, List.drop_length, spGo]
    exact ⟨_, _, rfl, hS, .refl _ _⟩
  | succ k ih =>
    intro i up v L b m hk hi hS hb hu hL
    have hlt : i < ts.length := by omega
    have hd : decide ((i : Int) < (ts.length : Nat)) = true := decide_eq_true (by omega)
    have hdr : ts.drop i = ts[i] :: ts.drop (i + 1) := List.drop_eq_getElem_cons hlt
    obtain ⟨t, ht⟩ : ∃ t, ts[i] = t := ⟨_, rfl⟩
    have hx := ti_ix h9 (k := .i64) hlt
    rw [ht] at hx hdr
    rw [l_r09_Spans_0_eq, h9.len]
    simp only [List.length_map, aBin_lss, bnd_some, hd, onBool_true]
    rw [k_r09_Spans_1_eq, hx, bnd_some, ti_load, bnd_some, tiBox, memK_some]
    have o1 : (m.alloc (tiRow ⟨0, 0, 0⟩)).obj m.next = some (tiRow ⟨0, 0, 0⟩) := by simp
    rw [tiStore t o1, bnd_some]
    have o2 : ((m.alloc (tiRow ⟨0, 0, 0⟩)).set m.next (tiRow t)).obj m.next = some (tiRow t) := by simp
    have n2 : m.next < ((m.alloc (tiRow ⟨0, 0, 0⟩)).set m.next (tiRow t)).next := by simp
    have k2 : Kept m ((m.alloc (tiRow ⟨0, 0, 0⟩)).set m.next (tiRow t)) := (Kept.alloc m _).set (Nat.le_refl _) _
    generalize (m.alloc (tiRow ⟨0, 0, 0⟩)).set m.next (tiRow t) = m2 at *
    obtain ⟨m3, q1, q2⟩ := ris_s s t [59, 59] m2
    have o3 : m3.obj m.next = some (tiRow t) := (q2.obj _ n2).trans o2
    have n3 : m.next < m3.next := Nat.lt_of_lt_of_le n2 q2.next
    have k3 : Kept m m3 := k2.trans q2
    have kb : Keeps b m m3 := k3.less hb
    have step : ∀ (up' : Bool) (v' : AV) (L' : List (Int × Int)) (m' : Mem), Sp b m' v' L' → b ≤ m'.next → (up' = true → L' ≠ []) → L'.length ≤ i + 1 → Keeps b m m' → spGo s (ts.drop i) up L = spGo s (ts.drop (i + 1)) up' L' →
        ∃ v'' m'', k_r09_Spans_2 (.str (bs s)) v9 v' (.bool up') (.int .i64 i) m' = some (.ret v'', m'') ∧ Sp b m'' v'' (spGo s (ts.drop i) up L) ∧ Keeps b m m'' := by
      intro up' v' L' m' h1 h2 h3 h4 h5 h6
      rw [k_r09_Spans_2_eq]
      simp only [aBin_add, bnd_some]
      rw [wrap64 (by omega) (by omega), h6]
      obtain ⟨v'', m'', g1, g2, g3⟩ := ih (i + 1) up' v' L' b m' (by omega) (by omega) h1 h2 h3 h4
      exact ⟨v'', m'', g1, g2, h5.trans g3⟩
    rw [tiGet o2, bnd_some, q1, retK_ret]
    cases hI : isS s t [59, 59] with
    | true =>
      rw [onBool_true]
      refine step false v L m3 (hS.kept k3) (Nat.le_trans hb k3.next) (by simp) (by omega) kb ?_
      rw [hdr, spGo, if_pos hI]
    | false =>
      rw [onBool_false, k_r09_Spans_3_eq, aUn_not, bnd_some]
      have k3s : ∀ (v' : AV) (L' : List (Int × Int)) (p : Int × Int) (m' : Mem), Sp b m' v' (L' ++ [p]) → b ≤ m'.next → L'.length ≤ i → Keeps b m m' → m'.obj m.next = some (tiRow t) → spGo s (ts.drop i) up L = spGo s (ts.drop (i + 1)) true (L' ++ [(p.1, t.t)]) →
          ∃ v'' m'', k_r09_Spans_4 (.str (bs s)) v9 v' (.bool true) (.int .i64 i) (.ptr m.next 0 0) m' = some (.ret v'', m'') ∧ Sp b m'' v'' (spGo s (ts.drop i) up L) ∧ Keeps b m m'' := by
        intro v' L' p m' h1 h2 h3 h4 h5 h6
        rw [k_r09_Spans_4_eq, h1.len, bnd_some, aBin_sub, bnd_some, wrap64 (by simp; try omega) (by simp; try omega), rFieldAddr_ptr, bnd_some, tiGetT h5, bnd_some]
        obtain ⟨q, e1, r, e2, m'', e3, e4, e5⟩ := h1.setLast t.t
        have hh : (((L' ++ [p]).length : Nat) : Int) - 1 = (L'.length : Nat) := by simp
        rw [hh, e1, bnd_some, e2, bnd_some, e3, bnd_some]
        exact step true v' _ m'' e4 (Nat.le_trans h2 e5.next) (by simp) (by simp; omega) (h4.trans e5) h6
      cases up with
      | false =>
        rw [Bool.not_false, onBool_true]
        simp only [rFieldAddr_ptr, bnd_some]
        rw [tiGetF o3, bnd_some, tiGetT o3, bnd_some]
        have eb : rBuild [.int .i64 0, .int .i64 0] [(0, 1, .int .i64 t.f), (1, 1, .int .i64 t.t)] = some (spAV (t.f, t.t)) := rfl
        have es : rBuildSlice A_Ar2_int 1 [(0, spAV (t.f, t.t))] = some (.sl .full [spAV (t.f, t.t)]) := rfl
        obtain ⟨v4, m4, p1, p2, p3, p4⟩ := hS.push k3 hb (by omega) t.f t.t
        rw [eb, bnd_some, es, bnd_some, p1, memK_some]
        refine k3s v4 L (t.f, t.t) m4 p2 (Nat.le_trans (Nat.le_trans hb k3.next) p3.next) (by omega) (kb.trans p3) ((p4 _ (Nat.le_refl _) n3).trans o3) ?_
        rw [hdr, spGo, if_neg (by simp [hI])]
        simp
      | true =>
        rw [Bool.not_true, onBool_false]
        have hne := hu rfl
        have hdl := List.dropLast_concat_getLast hne
        have hlen : L.dropLast.length ≤ i := by simp; omega
        rw [← hdl] at hS
        refine k3s v L.dropLast (L.getLast hne) m3 (hS.kept k3) (Nat.le_trans hb k3.next) hlen kb o3 ?_
        rw [hdr, spGo, if_neg (by simp [hI])]
        rw [if_pos rfl]
        conv => lhs; rw [← hdl, setLast_append]

theorem rspans_s (s : List UInt8) {v : AV} {ts : List TI} (h : HSl v (tis ts)) (hl : ts.length ≤ 1000000000) (m : Mem) : ∃ v' m', w_r09_Spans (.str (bs s)) v m = some (.ret v', m') ∧ Sp m.next m' v' (spGo s ts false []) ∧ Kept m m' := by
  have e : rBuildSlice A_Ar2_int 0 [] = some (.sl .full []) := rfl
  rw [e_r09_Spans, e, bnd_some]
  exact rspans_loop s h hl _ 0 false (.sl .full []) [] m.next m rfl (Nat.zero_le _) .full (Nat.le_refl _) (by simp) (Nat.le_refl _)
end Go.AM
