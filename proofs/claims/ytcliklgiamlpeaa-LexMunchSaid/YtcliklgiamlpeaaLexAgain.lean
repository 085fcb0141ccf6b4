/-
  LexAgain over the machine.
-/
import Derived.Test.YtcliklgiamlpeaaLexMoved
import Derived.Test.YtcliklgiamlpeaaLexLaw2
namespace Go.AM
open Go Go.Proofs Lx
set_option linter.unusedSimpArgs false
set_option linter.unusedVariables false

theorem word_tok (s : List UInt8) (t : Tok) (h1 : t.f ≤ t.t) (h2 : t.t ≤ s.length) : wordS s (Tok.ti t) = (s.take t.t).drop t.f := by
  unfold wordS
  rw [if_neg (by simp [Tok.ti]; omega)]
  simp [Tok.ti]

theorem joinW_length (s : List UInt8) : ∀ (n : Nat) (l : List UInt8) (a : Nat), l.length ≤ n → (joinW ((lex l a).map (kw s))).length ≤ ((lex l a).map fun t => t.t - t.f + 1).sum
  | n, l, a, h => by
    generalize lex l a = ts
    induction ts with
    | nil => simp [joinW]
    | cons t ts ih => simp [joinW, kw] at ih ⊢; omega
theorem sum_len : ∀ (n : Nat) (l : List UInt8) (a : Nat), l.length ≤ n → ((lex l a).map fun t => t.t - t.f + 1).sum ≤ 2 * l.length
  | _, [], a, _ => by simp [lex_nil]
  | 0, c :: r, a, h => by simp at h
  | n + 1, c :: r, a, h => by
    simp only [List.length_cons] at h
    rw [lex_cons]
    split
    · have := sum_len n r (a + 1) (by omega)
      simp; omega
    · split
      · split
        · simp; omega
        · rename_i k hk
          have hk2 := rem_le _ _ _ k (Nat.le_refl _) hk
          have := sum_len n _ (a + k) (show ((c :: r).drop k).length ≤ n by simp; omega)
          simp at this ⊢; omega
      · have hp := piece_pos (c :: r)
        have hp2 := piece_le (l := c :: r) (by simp)
        have := sum_len n _ (a + (piece (c :: r)).2) (show ((c :: r).drop (piece (c :: r)).2).length ≤ n by simp; omega)
        simp at this hp2 ⊢; omega

section
variable (s : List UInt8) (hs : s.length ≤ 5000)
include hs

theorem again_cmp {v3 v4 v6 : AV} {all : List UInt8} (h3 : HSl v3 (toks (lex s 0))) (h4 : HSl v4 (u8s all)) (h6 : HSl v6 (toks (lex all 0))) (hkw : (lex all 0).map (kw all) = (lex s 0).map (kw s)) : ∀ (k i : Nat) (m : Mem), (lex s 0).length - i = k → i ≤ (lex s 0).length →
    ∃ m', l_l08_LexAgain_2 (.str (bs s)) v3 v4 v6 (.int .i64 i) m = some (.ret (.bool true), m') := by
  have hll := lex_length _ s 0 (Nat.le_refl _)
  have h3t := h3; rw [toks_tis] at h3t
  have h6t := h6; rw [toks_tis] at h6t
  have hlen : (lex all 0).length = (lex s 0).length := by simpa using congrArg List.length hkw
  intro k
  induction k with
  | zero =>
    intro i m hk hi
    have : i = (lex s 0).length := by omega
    subst this
    rw [l_l08_LexAgain_2_eq, h3.len]
    simp only [bnd_some, aBin_lss, List.length_map, Int.lt_irrefl, decide_false, onBool_false, k_l08_LexAgain_5_eq]
    exact ⟨_, rfl⟩
  | succ k ih =>
    intro i m hk hi
    have hlt0 : i < (lex s 0).length := by omega
    have hltu : i < (lex all 0).length := by omega
    have hlt : i < ((lex s 0).map Tok.ti).length := by simp; omega
    have hlt' : i < ((lex all 0).map Tok.ti).length := by simp; omega
    have hd : decide ((i : Int) < ((toks (lex s 0)).length : Nat)) = true := decide_eq_true (by simp; omega)
    have hb := lex_bounds _ s 0 (Nat.le_refl _) _ (List.getElem_mem hlt0)
    have hbu := lex_bounds _ all 0 (Nat.le_refl _) _ (List.getElem_mem hltu)
    have hi2 : kw all (lex all 0)[i] = kw s (lex s 0)[i] := by
      have := congrArg (fun l => l[i]?) hkw
      simpa [hlt0, hltu] using this
    unfold kw at hi2
    injection hi2 with hk1 hw1
    rw [l_l08_LexAgain_2_eq, h3.len]
    simp only [bnd_some, aBin_lss, hd, onBool_true, k_l08_LexAgain_8_eq, ti_ix h3t hlt, ti_ix h6t hlt', ti_load, rFieldAddr_pim, rLoad_pimc, List.drop_zero, List.getElem?_cons_zero, h4.str, aBin_neq, word_s, retK_ret, sameK_self, aBin_strneq]
    simp only [List.getElem_map]
    have e1 : wordS all (Tok.ti (lex all 0)[i]) = wordS s (Tok.ti (lex s 0)[i]) := by
      rw [word_tok _ _ (by omega) (by omega), word_tok _ _ (by omega) (by omega), hw1]
    have e2 : (Tok.ti (lex all 0)[i]).k = (Tok.ti (lex s 0)[i]).k := by simp only [Tok.ti, hk1]
    rw [e1, e2]
    simp only [ne_eq, not_true_eq_false, decide_false, onWant_false, k_l08_LexAgain_10_eq, onBool_false, k_l08_LexAgain_9_eq, aBin_add, bnd_some]
    simp (disch := omega) only [wrap64]
    exact ih (i + 1) _ (by omega) (by omega)

theorem again_build {v3 : AV} (h3 : HSl v3 (toks (lex s 0))) : ∀ (k i : Nat) (b : Nat) (v : AV) (m : Mem), (lex s 0).length - i = k → i ≤ (lex s 0).length → (∀ t ∈ (lex s 0).take i, t.k ≠ 7) → App b 1 m v (u8s (joinW (((lex s 0).take i).map (kw s)))) → b ≤ m.next →
    ∃ m', l_l08_LexAgain_0 (.str (bs s)) v3 v (.int .i64 i) m = some (.ret (.bool true), m') := by
  have hll := lex_length _ s 0 (Nat.le_refl _)
  have h3t := h3; rw [toks_tis] at h3t
  have hjl : (joinW ((lex s 0).map (kw s))).length ≤ 10000 := by
    have h1 := joinW_length s _ s 0 (Nat.le_refl _)
    have h2 := sum_len _ s 0 (Nat.le_refl _)
    omega
  intro k
  induction k with
  | zero =>
    intro i b v m hk hi hne hv hb
    have : i = (lex s 0).length := by omega
    subst this
    rw [List.take_length] at hne hv
    rw [l_l08_LexAgain_0_eq, h3.len]
    simp only [bnd_some, aBin_lss, List.length_map, Int.lt_irrefl, decide_false, onBool_false, k_l08_LexAgain_2_eq, hv.hsl.str]
    have hag := again s hne
    generalize hall : joinW ((lex s 0).map (kw s)) = all at *
    obtain ⟨v6, m1, h1, h2, h4⟩ := lex_s all (by omega) m
    have hlen : (lex all 0).length = (lex s 0).length := by simpa using congrArg List.length hag
    rw [h1, retK_ret, h2.hsl.len, h3.len]
    simp only [bnd_some, aBin_neq, List.length_map, hlen, ne_eq, not_true_eq_false, decide_false, onBool_false, k_l08_LexAgain_3_eq]
    exact again_cmp s hs h3 hv.hsl h2.hsl hag _ 0 m1 rfl (Nat.zero_le _)
  | succ k ih =>
    intro i b v m hk hi hne hv hb
    have hlt0 : i < (lex s 0).length := by omega
    have hlt : i < ((lex s 0).map Tok.ti).length := by simp; omega
    have hd : decide ((i : Int) < ((toks (lex s 0)).length : Nat)) = true := decide_eq_true (by simp; omega)
    have hbd := lex_bounds _ s 0 (Nat.le_refl _) _ (List.getElem_mem hlt0)
    have htk : (lex s 0).take (i + 1) = (lex s 0).take i ++ [(lex s 0)[i]] := by simp [hlt0]
    rw [l_l08_LexAgain_0_eq, h3.len]
    simp only [bnd_some, aBin_lss, hd, onBool_true, k_l08_LexAgain_4_eq, ti_ix h3t hlt, rFieldAddr_pim, rLoad_pimc, List.drop_zero, List.getElem?_cons_zero, aBin_eql]
    simp only [List.getElem_map]
    by_cases h7 : (lex s 0)[i].k = 7
    · have : decide ((Tok.ti (lex s 0)[i]).k = 7) = true := decide_eq_true (by simp [Tok.ti, h7])
      simp only [this, onBool_true]; exact ⟨_, rfl⟩
    · have : decide ((Tok.ti (lex s 0)[i]).k = 7) = false := decide_eq_false (by simp [Tok.ti]; omega)
      simp only [this, onBool_false, k_l08_LexAgain_7_eq, ti_ix h3t hlt, ti_load, bnd_some, word_s, retK_ret]
      simp only [List.getElem_map]
      have hwt := word_tok s (lex s 0)[i] (by omega) (by omega)
      have hj : joinW (((lex s 0).take (i + 1)).map (kw s)) = joinW (((lex s 0).take i).map (kw s)) ++ (wordS s (Tok.ti (lex s 0)[i]) ++ [32]) := by
        rw [htk, List.map_append, joinW_append, hwt]; rfl
      have hjl2 : (joinW (((lex s 0).take (i + 1)).map (kw s))).length ≤ 10000 := by
        have e : (lex s 0).map (kw s) = ((lex s 0).take (i + 1)).map (kw s) ++ ((lex s 0).drop (i + 1)).map (kw s) := by rw [← List.map_append, List.take_append_drop]
        rw [e, joinW_append, List.length_append] at hjl
        omega
      have hl2 := congrArg List.length hj
      rw [List.length_append] at hl2
      have hws : (wordS s (Tok.ti (lex s 0)[i]) ++ [32]).length = (wordS s (Tok.ti (lex s 0)[i])).length + 1 := by simp
      rw [aBin_stradd (by have : ([32] : List UInt8).length = 1 := rfl; omega), bnd_some, rStrBytes_bs, bnd_some]
      obtain ⟨v1, m1, h1, h2, h5⟩ := u8_append (hv.kept (Kept.alloc m (.row [.int .i64 (Tok.ti (lex s 0)[i]).k, .int .i64 (Tok.ti (lex s 0)[i]).f, .int .i64 (Tok.ti (lex s 0)[i]).t] 0))) (by simp; omega) (.sl .foreign (u8s (wordS s (Tok.ti (lex s 0)[i]) ++ [32]))) (by omega)
      rw [h1, memK_some, k_l08_LexAgain_6_eq, aBin_add, bnd_some]
      simp (disch := omega) only [wrap64]
      refine ih (i + 1) b v1 m1 (by omega) (by omega) ?_ (by rw [hj]; exact h2) (Nat.le_trans (by simp; omega) h5.next)
      intro t ht
      rw [htk] at ht
      rcases List.mem_append.1 ht with ht | ht
      · exact hne t ht
      · simp at ht; subst ht; exact h7
end

theorem lexAgain_plain (s : List UInt8) (hl : s.length ≤ 9223372036854775807) (m : Mem) : ∃ m', w_l08_LexAgain (.str (bs s)) m = some (.ret (.bool true), m') := by
  obtain ⟨m1, h1, h2⟩ := alive_s m
  rw [e_l08_LexAgain, h1, retK_ret, aUn_not, bnd_some, Bool.not_true, onBool_false, k_l08_LexAgain_0_eq]
  simp only [rLenStr_bs, bnd_some, aBin_gtr]
  by_cases a1 : (5000 : Int) < (s.length : Nat)
  · simp only [decide_eq_true a1, onBool_true]; exact ⟨_, rfl⟩
  · simp only [decide_eq_false a1, onBool_false, k_l08_LexAgain_1_eq]
    obtain ⟨v3, m2, h3, h4, h5⟩ := lex_s s (by omega) m1
    rw [h3, retK_ret, empty_build, bnd_some]
    exact again_build s (by omega) h4.hsl _ 0 m2.next _ m2 rfl (Nat.zero_le _) (by simp) (.lit [] rfl) (Nat.le_refl _)
end Go.AM
