/-
  RelexSpans over the machine.
-/
import Derived.Test.YtcliklgiamlpeaaSpans
import Derived.Test.YtcliklgiamlpeaaLexWords
namespace Go.AM
open Go Go.Proofs Lx
set_option linter.unusedSimpArgs false
set_option linter.unusedVariables false

theorem sameSp_loop {v w : AV} {L M : List (Int × Int)} {b b' : Nat} {m : Mem} (hv : Sp b m v L) (hw : Sp b' m w M) (hl : L.length = M.length) (hb : L.length ≤ 1000000000) : ∀ (k n : Nat), L.length - n = k → n ≤ L.length →
    l_l09_sameSpans_0 v w (.int .i64 n) m = some (.ret (.bool (decide (L.drop n = M.drop n))), m)
  | 0, n, hk, hn => by
    have : n = L.length := by omega
    subst this
    rw [l_l09_sameSpans_0_eq, hv.len]
    simp only [bnd_some, aBin_lss, Int.lt_irrefl, decide_false, onBool_false, k_l09_sameSpans_1_eq]
    rw [hl, List.drop_length, ← hl, List.drop_length]; simp
  | k + 1, n, hk, hn => by
    have hlt : n < L.length := by omega
    have hlt' : n < M.length := by omega
    have hd : L.drop n = L[n] :: L.drop (n + 1) := List.drop_eq_getElem_cons hlt
    have hd' : M.drop n = M[n] :: M.drop (n + 1) := List.drop_eq_getElem_cons hlt'
    obtain ⟨q, q1, q2, _⟩ := hv.get hlt
    obtain ⟨r, r1, r2, _⟩ := hw.get hlt'
    rw [l_l09_sameSpans_0_eq, hv.len]
    simp only [bnd_some, aBin_lss]
    rw [decide_eq_true (by omega), onBool_true, k_l09_sameSpans_2_eq, q1, bnd_some, q2, bnd_some, r1, bnd_some, r2, bnd_some, spNeq, bnd_some]
    by_cases he : L[n] = M[n]
    · rw [decide_eq_false (by simp [he]), onBool_false, k_l09_sameSpans_3_eq]
      simp only [aBin_add, bnd_some]
      rw [wrap64 (by omega) (by omega)]
      refine Eq.trans (sameSp_loop hv hw hl hb k (n + 1) (by omega) (by omega)) ?_
      rw [hd, hd', he]
      by_cases h2 : L.drop (n + 1) = M.drop (n + 1) <;> simp only [h2, decide_true, List.cons.injEq, true_and]
    · rw [decide_eq_true he, onBool_true]
      have : ¬ L.drop n = M.drop n := by rw [hd, hd']; intro h; injection h with h1 h2; exact he h1
      simp only [this, decide_false]

theorem sameSp_s {v w : AV} {L : List (Int × Int)} {b b' : Nat} {m : Mem} (hv : Sp b m v L) (hw : Sp b' m w L) (hb : L.length ≤ 1000000000) : w_l09_sameSpans v w m = some (.ret (.bool true), m) := by
  rw [e_l09_sameSpans, hv.len, hw.len]
  simp only [bnd_some, aBin_neq]
  rw [decide_eq_false (by simp), onBool_false, k_l09_sameSpans_0_eq]
  have := sameSp_loop hv hw rfl hb _ 0 rfl (Nat.zero_le _)
  simpa using this

theorem setLast_len (L : List (Int × Int)) (x : Int) : (setLast L x).length ≤ L.length := by
  rcases L.eq_nil_or_concat with rfl | ⟨l, p, rfl⟩
  · simp [setLast]
  · simp only [List.concat_eq_append, setLast_append]; simp
theorem spGo_len (s : List UInt8) : ∀ (ts : List TI) (up : Bool) (L : List (Int × Int)), (spGo s ts up L).length ≤ L.length + ts.length
  | [], _, L => by simp [spGo]
  | t :: ts, up, L => by
    rw [spGo]
    split
    · have := spGo_len s ts false L
      simp only [List.length_cons]; omega
    · have := spGo_len s ts true (if up = true then setLast L t.t else L ++ [(t.f, t.t)])
      have h2 : (if up = true then setLast L t.t else L ++ [(t.f, t.t)]).length ≤ L.length + 1 := by
        split
        · have := setLast_len L t.t; omega
        · simp
      simp only [List.length_cons]; omega

theorem relexSpans_plain (s : List UInt8) (v1 : AV) (ts : List TI) (h1 : HSl v1 (ts.map tiAV)) (_h : ∀ c ∈ ts, c.ok) (_hl : ts.length ≤ maxLen) (hs : s.length ≤ 140737488351232) (m : Mem) : ∃ m', w_l09_RelexSpans (.str (bs s)) v1 m = some (.ret (.bool true), m') := by
  obtain ⟨m1, h2, h3⟩ := alive9_s m
  rw [e_l09_RelexSpans, h2, retK_ret, aUn_not, bnd_some, Bool.not_true, onBool_false, k_l09_RelexSpans_0_eq]
  simp only [rLenStr_bs, bnd_some, aBin_gtr, h1.len, List.length_map, k_l09_RelexSpans_2_eq, onBool_true]
  by_cases a1 : (20000 : Int) < (s.length : Nat)
  · rw [decide_eq_true a1, onWant_true]; exact ⟨_, rfl⟩
  · rw [decide_eq_false a1, onWant_false]
    by_cases a2 : (5000 : Int) < (ts.length : Nat)
    · rw [decide_eq_true a2, onBool_true]; exact ⟨_, rfl⟩
    · rw [decide_eq_false a2, onBool_false, k_l09_RelexSpans_1_eq]
      obtain ⟨v17, m2, b1, b2, b3⟩ := copy_s h1 (by omega) m1
      obtain ⟨v18, m3, c1, c2, c3⟩ := spans_s s b2.hsl (by omega) m2
      obtain ⟨v21, m4, d1, d2, d3⟩ := rspans_s s h1 (by omega) m3
      have hl1 := spGo_len s ts false []
      simp only [List.length_nil, Nat.zero_add] at hl1
      rw [b1, retK_ret, c1, retK_ret, d1, retK_ret, sameSp_s (c2.kept d3) d2 (by omega), retK_ret, onWant_true]
      obtain ⟨v26, m5, e1, e2, e3⟩ := lex_s s (by omega) m4
      have hll := lex_length _ s 0 (Nat.le_refl _)
      have e4 := e2.hsl
      rw [toks_tis] at e4
      obtain ⟨v27, m6, f1, f2, f3⟩ := spans_s s e4 (by simp; omega) m5
      obtain ⟨v30, m7, g1, g2, g3⟩ := rlex_s s (by omega) m6
      have g4 := g2.hsl
      rw [toks_tis] at g4
      obtain ⟨v31, m8, i1, i2, i3⟩ := rspans_s s g4 (by simp; omega) m7
      have hl2 := spGo_len s ((lex s 0).map Tok.ti) false []
      simp only [List.length_nil, Nat.zero_add, List.length_map] at hl2
      rw [e1, retK_ret, f1, retK_ret, g1, retK_ret, i1, retK_ret, sameSp_s ((f2.kept g3).kept i3) i2 (by omega), retK_ret]
      exact ⟨_, rfl⟩
end Go.AM
