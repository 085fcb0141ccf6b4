/-
  Tokens are compared; words; kinds.
-/
import Derived.Test.YtcliklgiamlpeaaLexB
namespace Go.AM
open Go Go.Proofs Lx
set_option linter.unusedSimpArgs false
set_option linter.unusedVariables false

structure TI where
  k : Int
  f : Int
  t : Int
  deriving DecidableEq, Inhabited
def tiAV (t : TI) : AV := .agg [.int .i64 t.k, .int .i64 t.f, .int .i64 t.t]
def Tok.ti (t : Tok) : TI := ⟨t.k, t.f, t.t⟩
theorem tok_ti (t : Tok) : tokAV t = tiAV (Tok.ti t) := (rfl)
theorem ti_inj {a b : Tok} (h : Tok.ti a = Tok.ti b) : a = b := by
  cases a; cases b; simp [Tok.ti] at h ⊢; omega
abbrev tis (l : List TI) : List AV := l.map tiAV
theorem toks_tis (l : List Tok) : toks l = tis (l.map Tok.ti) := by simp [toks, tis, tok_ti]
theorem map_ti_inj : ∀ {a b : List Tok}, a.map Tok.ti = b.map Tok.ti ↔ a = b := by
  intro a b
  exact ⟨fun h => List.map_inj_right (fun _ _ => ti_inj) |>.1 h, fun h => by rw [h]⟩

theorem tokEq (a b c a' b' c' : Int) : aBin X.T .eql T_api_Token false false (.agg [.int .i64 a, .int .i64 b, .int .i64 c]) (.agg [.int .i64 a', .int .i64 b', .int .i64 c']) = some (.bool (decide ((⟨a, b, c⟩ : TI) = ⟨a', b', c'⟩))) := by
  have h : aBin X.T .eql T_api_Token false false (.agg [.int .i64 a, .int .i64 b, .int .i64 c]) (.agg [.int .i64 a', .int .i64 b', .int .i64 c']) =
    (if (a == a') = true then (if (b == b') = true then (if (c == c') = true then some true else some false) else some false) else some false).map AV.bool := by kernel_rfl
  rw [h]
  by_cases h1 : a = a' <;> by_cases h2 : b = b' <;> by_cases h3 : c = c' <;> simp [h1, h2, h3]
theorem tokNeq (a b c a' b' c' : Int) : aBin X.T .neq T_api_Token false false (.agg [.int .i64 a, .int .i64 b, .int .i64 c]) (.agg [.int .i64 a', .int .i64 b', .int .i64 c']) = some (.bool (decide ((⟨a, b, c⟩ : TI) ≠ ⟨a', b', c'⟩))) := by
  have h : aBin X.T .neq T_api_Token false false (.agg [.int .i64 a, .int .i64 b, .int .i64 c]) (.agg [.int .i64 a', .int .i64 b', .int .i64 c']) =
    (if (a == a') = true then (if (b == b') = true then (if (c == c') = true then some true else some false) else some false) else some false).map fun b => .bool !b := by kernel_rfl
  rw [h]
  by_cases h1 : a = a' <;> by_cases h2 : b = b' <;> by_cases h3 : c = c' <;> simp [h1, h2, h3]
theorem tiNeq (x y : TI) : aBin X.T .neq T_api_Token false false (tiAV x) (tiAV y) = some (.bool (decide (x ≠ y))) := tokNeq _ _ _ _ _ _
theorem tiEq (x y : TI) : aBin X.T .eql T_api_Token false false (tiAV x) (tiAV y) = some (.bool (decide (x = y))) := tokEq _ _ _ _ _ _

theorem ti_ix {v : AV} {xs : List TI} (h : HSl v (tis xs)) {n : Nat} {k : IntKind} (hn : n < xs.length) : rIxAddrSl 3 v (.int k n) = some (.pim [.int .i64 xs[n].k, .int .i64 xs[n].f, .int .i64 xs[n].t]) :=
  h.ix (x := tiAV xs[n]) (by simp [hn]) rfl rfl
theorem ti_load (t : TI) (m : Mem) : rLoad true 3 m (.pim [.int .i64 t.k, .int .i64 t.f, .int .i64 t.t]) = some (tiAV t) := (rfl)

theorem same_loop {v w : AV} {xs ys : List TI} (hv : HSl v (tis xs)) (hw : HSl w (tis ys)) (hl : xs.length = ys.length) (hb : xs.length ≤ 4611686018427387904) (m : Mem) : ∀ (k n : Nat), xs.length - n = k → n ≤ xs.length →
    l_r00_SameTokens_0 v w (.int .i64 n) m = some (.ret (.bool (decide (xs.drop n = ys.drop n))), m)
  | 0, n, hk, hn => by
    have : n = xs.length := by omega
    subst this
    rw [l_r00_SameTokens_0_eq, hv.len]
    simp [k_r00_SameTokens_1_eq, hl]
  | k + 1, n, hk, hn => by
    have hlt : n < xs.length := by omega
    have hlt' : n < ys.length := by omega
    have hd : xs.drop n = xs[n] :: xs.drop (n + 1) := List.drop_eq_getElem_cons hlt
    have hd' : ys.drop n = ys[n] :: ys.drop (n + 1) := List.drop_eq_getElem_cons hlt'
    have hc : decide ((n : Int) < ((tis xs).length : Nat)) = true := decide_eq_true (by simp; omega)
    rw [l_r00_SameTokens_0_eq, hv.len]
    simp only [bnd_some, aBin_lss, hc, onBool_true, k_r00_SameTokens_2_eq, ti_ix hv hlt, ti_ix hw hlt', ti_load, tiNeq]
    by_cases he : xs[n] = ys[n]
    · simp only [he, ne_eq, not_true_eq_false, decide_false, onBool_false, k_r00_SameTokens_3_eq, aBin_add, bnd_some]
      simp (disch := omega) only [wrap64]
      refine Eq.trans (same_loop hv hw hl hb m k (n + 1) (by omega) (by omega)) ?_
      rw [hd, hd', he]
      by_cases h2 : xs.drop (n + 1) = ys.drop (n + 1) <;> simp only [h2, decide_true, List.cons.injEq, true_and]
    · simp only [he, ne_eq, not_false_eq_true, decide_true, onBool_true]
      have : ¬ xs.drop n = ys.drop n := by rw [hd, hd']; intro h; injection h with h1 h2; exact he h1
      simp only [this, decide_false]

theorem same_s {v w : AV} {xs ys : List TI} (hv : HSl v (tis xs)) (hw : HSl w (tis ys)) (hb : xs.length ≤ 4611686018427387904) (m : Mem) : w_r00_SameTokens v w m = some (.ret (.bool (decide (xs = ys))), m) := by
  rw [e_r00_SameTokens, hv.len, hw.len]
  simp only [bnd_some, aBin_neq]
  by_cases h : xs.length = ys.length
  · have : decide ((((tis xs).length : Nat) : Int) ≠ ((tis ys).length : Nat)) = false := decide_eq_false (by simp [h])
    simp only [this, onBool_false, k_r00_SameTokens_0_eq]
    have := same_loop hv hw h hb m _ 0 rfl (Nat.zero_le _)
    simpa using this
  · have : decide ((((tis xs).length : Nat) : Int) ≠ ((tis ys).length : Nat)) = true := decide_eq_true (by simp; omega)
    have h2 : ¬ xs = ys := fun e => h (by rw [e])
    simp only [this, onBool_true, h2, decide_false]

def wordS (s : List UInt8) (t : TI) : List UInt8 := if t.f < 0 ∨ t.t < t.f ∨ (s.length : Int) < t.t then [] else (s.take t.t.toNat).drop t.f.toNat

theorem word_s (s : List UInt8) (t : TI) (m : Mem) : w_lex_Word (.str (bs s)) (tiAV t) m = some (.ret (.str (bs (wordS s t))), m.alloc (.row [.int .i64 t.k, .int .i64 t.f, .int .i64 t.t] 0)) := by
  rw [e_lex_Word]
  simp only [tiAV, aBox_eq, cells_agg, Option.map_some, memK_some, rFieldAddr_ptr, bnd_some, rLoad_ptr, cells_alloc, Option.bind_some, partOf_cell, Nat.zero_add, List.getElem?_cons_succ, List.getElem?_cons_zero, aBin_lss, rLenStr_bs, aBin_gtr, k_lex_Word_1_eq, k_lex_Word_0_eq, onBool_true]
  unfold wordS
  by_cases h1 : t.f < 0
  · simp [h1]
  · by_cases h2 : t.t < t.f
    · simp [h1, h2]
    · by_cases h3 : (s.length : Int) < t.t
      · simp [h1, h2, h3]
      · simp only [h1, h2, h3, decide_false, onWant_false, onBool_false, or_self, if_false, rSliceStr_int (by omega : 0 ≤ t.f) (by omega : t.f ≤ t.t) (by omega : t.t ≤ s.length), bnd_some]

theorem rword_s (s : List UInt8) (t : TI) (m : Mem) : w_r08_Word (.str (bs s)) (tiAV t) m = some (.ret (.str (bs (wordS s t))), m.alloc (.row [.int .i64 t.k, .int .i64 t.f, .int .i64 t.t] 0)) := by
  rw [e_r08_Word]
  simp only [tiAV, aBox_eq, cells_agg, Option.map_some, memK_some, rFieldAddr_ptr, bnd_some, rLoad_ptr, cells_alloc, Option.bind_some, partOf_cell, Nat.zero_add, List.getElem?_cons_succ, List.getElem?_cons_zero, aBin_lss, rLenStr_bs, aBin_gtr, k_r08_Word_1_eq, k_r08_Word_0_eq, onBool_true]
  unfold wordS
  by_cases h1 : t.f < 0
  · simp [h1]
  · by_cases h2 : t.t < t.f
    · simp [h1, h2]
    · by_cases h3 : (s.length : Int) < t.t
      · simp [h1, h2, h3]
      · simp only [h1, h2, h3, decide_false, onWant_false, onBool_false, or_self, if_false, rSliceStr_int (by omega : 0 ≤ t.f) (by omega : t.f ≤ t.t) (by omega : t.t ≤ s.length), bnd_some]

def isS (s : List UInt8) (t : TI) (w : List UInt8) : Bool := (decide (t.k = 5) || decide (t.k = 6)) && decide (wordS s t = w)

theorem tiLoadBox (t : TI) (m : Mem) (o : Nat) (h : m.cells o 0 = some [.int .i64 t.k, .int .i64 t.f, .int .i64 t.t]) : rLoad true 3 m (.ptr o 0 0) = some (tiAV t) := by rw [rLoad_ptr, h]; rfl

theorem is_s (s : List UInt8) (t : TI) (w : List UInt8) (m : Mem) : ∃ m', w_lex_Is (.str (bs s)) (tiAV t) (.str (bs w)) m = some (.ret (.bool (isS s t w)), m') ∧ Kept m m' := by
  have hk : Kept m (m.alloc (.row [.int .i64 t.k, .int .i64 t.f, .int .i64 t.t] 0)) := .alloc m _
  have hl := tiLoadBox t (m.alloc (.row [.int .i64 t.k, .int .i64 t.f, .int .i64 t.t] 0)) m.next (cells_alloc _ _)
  have h0 : rLoad false 1 (m.alloc (.row [.int .i64 t.k, .int .i64 t.f, .int .i64 t.t] 0)) (.ptr m.next 0 (0 + 0)) = some (.int .i64 t.k) := by rw [rLoad_ptr, cells_alloc]; rfl
  rw [e_lex_Is]
  have e : aBox m (tiAV t) = some (.ptr m.next 0 0, m.alloc (.row [.int .i64 t.k, .int .i64 t.f, .int .i64 t.t] 0)) := rfl
  simp only [e, memK_some, rFieldAddr_ptr, bnd_some, h0, aBin_eql, hl, word_s, retK_ret, aBin_streq]
  unfold isS
  by_cases h5 : t.k = 5
  · simp only [decide_eq_true h5, onWant_true, hl, bnd_some, word_s, retK_ret, aBin_streq, Bool.true_or, Bool.true_and]
    exact ⟨_, rfl, hk.trans (.alloc _ _)⟩
  · simp only [decide_eq_false h5, onWant_false, Bool.false_or]
    by_cases h6 : t.k = 6
    · simp only [decide_eq_true h6, onWant_true, onBool_true, hl, bnd_some, word_s, retK_ret, aBin_streq, Bool.true_and]
      exact ⟨_, rfl, hk.trans (.alloc _ _)⟩
    · simp only [decide_eq_false h6, onWant_false, onBool_false, Bool.false_and]
      exact ⟨_, rfl, hk⟩
theorem ris_s (s : List UInt8) (t : TI) (w : List UInt8) (m : Mem) : ∃ m', w_r08_Is (.str (bs s)) (tiAV t) (.str (bs w)) m = some (.ret (.bool (isS s t w)), m') ∧ Kept m m' := by
  have hk : Kept m (m.alloc (.row [.int .i64 t.k, .int .i64 t.f, .int .i64 t.t] 0)) := .alloc m _
  have hl := tiLoadBox t (m.alloc (.row [.int .i64 t.k, .int .i64 t.f, .int .i64 t.t] 0)) m.next (cells_alloc _ _)
  have h0 : rLoad false 1 (m.alloc (.row [.int .i64 t.k, .int .i64 t.f, .int .i64 t.t] 0)) (.ptr m.next 0 (0 + 0)) = some (.int .i64 t.k) := by rw [rLoad_ptr, cells_alloc]; rfl
  rw [e_r08_Is]
  have e : aBox m (tiAV t) = some (.ptr m.next 0 0, m.alloc (.row [.int .i64 t.k, .int .i64 t.f, .int .i64 t.t] 0)) := rfl
  simp only [e, memK_some, rFieldAddr_ptr, bnd_some, h0, aBin_eql, hl, rword_s, retK_ret, aBin_streq]
  unfold isS
  by_cases h5 : t.k = 5
  · simp only [decide_eq_true h5, onWant_true, hl, bnd_some, rword_s, retK_ret, aBin_streq, Bool.true_or, Bool.true_and]
    exact ⟨_, rfl, hk.trans (.alloc _ _)⟩
  · simp only [decide_eq_false h5, onWant_false, Bool.false_or]
    by_cases h6 : t.k = 6
    · simp only [decide_eq_true h6, onWant_true, onBool_true, hl, bnd_some, rword_s, retK_ret, aBin_streq, Bool.true_and]
      exact ⟨_, rfl, hk.trans (.alloc _ _)⟩
    · simp only [decide_eq_false h6, onWant_false, onBool_false, Bool.false_and]
      exact ⟨_, rfl, hk⟩

def Lx.kindS (w : List UInt8) : Nat := if w = [] ∨ [40, 42] <+: w then 0 else if (one w).2 = w.length then (one w).1 else 0

theorem kind_s (w : List UInt8) (hl : w.length ≤ 4611686018427387904) (m : Mem) : w_lex_Kind (.str (bs w)) m = some (.ret (.int .i64 (kindS w)), m) := by
  rw [e_lex_Kind]
  simp only [aBin_streq, bnd_some]
  unfold kindS
  cases w with
  | nil => simp [k_lex_Kind_1_eq]
  | cons c r =>
    have : ¬ (c :: r = []) := by simp
    simp only [this, decide_false, onWant_false, hasPrefix_s, retK_ret, k_lex_Kind_1_eq, false_or]
    by_cases ho : [40, 42] <+: c :: r
    · simp [ho]
    · simp only [ho, decide_false, onBool_false, k_lex_Kind_0_eq, one_s c r m hl, retK_ret, aExtract_tup, List.getElem?_cons_zero, List.getElem?_cons_succ, bnd_some, rLenStr_bs, aBin_neq, if_false]
      by_cases he : (one (c :: r)).2 = (c :: r).length
      · have : decide ((((one (c :: r)).2 : Nat) : Int) ≠ ((c :: r).length : Nat)) = false := decide_eq_false (by omega)
        simp only [this, onBool_false, k_lex_Kind_2_eq]; rw [if_pos he]
      · have : decide ((((one (c :: r)).2 : Nat) : Int) ≠ ((c :: r).length : Nat)) = true := decide_eq_true (by omega)
        simp only [this, onBool_true]; rw [if_neg he]; rfl

end Go.AM
