/-
  LexMunch over the machine.
-/
import Derived.Test.YtcliklgiamlpeaaLexAgain
import Derived.Test.YtcliklgiamlpeaaR1E1
namespace Go.AM.Lx

theorem run_take_ge {p : UInt8 → Bool} : ∀ {l : List UInt8} {j : Nat}, run p l ≤ j → run p (l.take j) = run p l
  | [], j, h => by simp [run]
  | c :: l, 0, h => by
    have : run p (c :: l) = 0 := by omega
    rw [this]; rfl
  | c :: l, j + 1, h => by
    by_cases hc : p c = true
    · have e1 : ∀ x : List UInt8, run p (c :: x) = run p x + 1 := fun x => by simp [run, hc]
      rw [e1] at h
      rw [List.take_succ_cons, e1, e1, run_take_ge (by omega)]
    · simp [run, hc]
theorem firstSign_take_ge (l : List UInt8) : ∀ (ws : List (List UInt8)) (n j : Nat), n ≤ j → firstSign l ws = (6, n) → firstSign (l.take j) ws = (6, n)
  | [], n, j, _, h => by simp [firstSign] at h
  | w :: ws, n, j, hj, h => by
    simp only [firstSign] at h ⊢
    by_cases hw : w <+: l
    · rw [if_pos hw] at h
      injection h with _ h; subst h
      rw [if_pos]
      rw [List.prefix_iff_eq_take] at hw ⊢
      rw [List.take_take, Nat.min_eq_left hj]; exact hw
    · rw [if_neg hw] at h
      rw [if_neg (fun hp => hw (hp.trans (List.take_prefix j l))), firstSign_take_ge l ws n j hj h]
theorem one_take_ge : ∀ (l : List UInt8) (j : Nat), (one l).1 ≠ 0 → (one l).2 ≤ j → one (l.take j) = one l
  | [], j, h, _ => by simp [one] at h
  | c :: r, 0, h, hj => by have := one_pos (c :: r) h; omega
  | c :: r, j + 1, h, hj => by
    rw [List.take_succ_cons]
    rw [one_cons] at h hj
    rw [one_cons, one_cons c r]
    by_cases h1 : (c == 95 || smallB c || greatB c) = true
    · rw [if_pos h1] at hj
      simp only [] at hj
      rw [if_pos h1, if_pos h1, run_take_ge (by omega), List.take_take, Nat.min_eq_left (by omega)]
    · rw [if_neg h1] at h hj
      rw [if_neg h1, if_neg h1]
      by_cases h2 : digitB c = true
      · rw [if_pos h2] at hj
        simp only [] at hj
        rw [if_pos h2, if_pos h2, run_take_ge (by omega)]
      · rw [if_neg h2] at h hj
        rw [if_neg h2, if_neg h2]
        by_cases h3 : (c == 39 && headSmall r) = true
        · rw [if_pos h3] at hj
          simp only [] at hj
          have h4 : headSmall (r.take j) = headSmall r := by
            simp only [Bool.and_eq_true] at h3
            match r, h3.2 with
            | d :: r', hd =>
              have ht : tickB d = true := by unfold tickB; unfold headSmall at hd; simp [hd]
              have : run tickB (d :: r') = run tickB r' + 1 := by simp [run, ht]
              match j, (by omega : 1 ≤ j) with
              | j + 1, _ => rfl
          rw [h4, if_pos h3, if_pos h3, run_take_ge (by omega)]
        · rw [if_neg h3] at h hj
          rw [if_neg h3]
          rcases firstSign_cases (c :: r) signs with ⟨h', _⟩ | ⟨w, hw, hp, h'⟩
          · rw [h'] at h; exact absurd rfl h
          · rw [h'] at hj
            have := firstSign_take_ge (c :: r) signs w.length (j + 1) hj h'
            rw [List.take_succ_cons] at this
            rw [h', if_neg, this]
            intro h5
            apply h3
            simp only [Bool.and_eq_true] at h5 ⊢
            refine ⟨h5.1, ?_⟩
            match j, r, h5.2 with
            | n + 1, d :: r', h6 => exact h6

theorem lex_munch (s : List UInt8) : ∀ (n : Nat) (l : List UInt8) (a : Nat), l.length ≤ n → s.drop a = l → ∀ t ∈ lex l a, t.k ≠ 7 → ∀ j, t.t < j → j ≤ s.length → kindS ((s.take j).drop t.f) = 0
  | _, [], a, _, _ => by simp [lex_nil]
  | 0, c :: r, a, h, _ => by simp at h
  | n + 1, c :: r, a, h, hs => by
    simp only [List.length_cons] at h
    have hs1 : ∀ k, s.drop (a + k) = (c :: r).drop k := fun k => by rw [← List.drop_drop, hs]
    rw [lex_cons]
    split
    · exact lex_munch s n r (a + 1) (by omega) (by rw [hs1 1]; rfl)
    · rename_i hw
      split
      · split
        · intro t ht hk
          simp at ht; subst ht; exact absurd rfl hk
        · rename_i k hk
          have hk2 := rem_le _ _ _ k (Nat.le_refl _) hk
          exact lex_munch s n _ _ (by simp; omega) (hs1 k)
      · rename_i ho
        have hp := piece_pos (c :: r)
        intro t ht hk
        rcases List.mem_cons.1 ht with rfl | ht
        · simp only [] at hk ⊢
          intro j hj hjs
          have hpe : piece (c :: r) = one (c :: r) ∧ (one (c :: r)).1 ≠ 0 := by
            unfold piece at hk ⊢
            split
            · rename_i h0; rw [if_pos h0] at hk; exact absurd rfl hk
            · rename_i h0; exact ⟨rfl, h0⟩
          rw [hpe.1] at hj
          have e : (s.take j).drop a = (c :: r).take (j - a) := by rw [List.drop_take, hs]
          rw [e]
          have h1 := one_take_ge (c :: r) (j - a) hpe.2 (by omega)
          have hl : (c :: r).length = s.length - a := by rw [← hs]; simp
          unfold kindS
          split
          · rfl
          · rw [h1, if_neg]
            rw [List.length_take, hl]; omega
        · exact lex_munch s n _ _ (by simp; omega) (hs1 _) t ht hk

theorem Good.kindS {k : Nat} {w : List UInt8} (h : Good k w) : kindS w = k := by
  unfold Lx.kindS
  rw [if_neg, h.one, if_pos rfl]
  rintro (e | e)
  · exact h.ne e
  · have := h.opens
    unfold Lx.opens at this
    rw [← List.isPrefixOf_iff_prefix, this] at e; cases e
end Go.AM.Lx

namespace Go.AM
open Go Go.Proofs Lx
set_option linter.unusedSimpArgs false
set_option linter.unusedVariables false
section
variable (s : List UInt8) (hs : s.length ≤ 300)
include hs

theorem munch_in {v3 : AV} (h3 : HSl v3 (toks (lex s 0))) {i : Nat} (hlt0 : i < (lex s 0).length) (h7 : (lex s 0)[i].k ≠ 7)
    (hout : ∀ v5 m, ∃ m', k_l08_LexMunch_4 (.str (bs s)) v3 (.int .i64 i) v5 m = some (.ret (.bool true), m')) : ∀ (k j : Nat) (m : Mem), s.length + 1 - j = k → j ≤ s.length + 1 → (lex s 0)[i].t < j →
    ∃ m', l_l08_LexMunch_2 (.str (bs s)) v3 (.int .i64 i) (.int .i64 j) m = some (.ret (.bool true), m') := by
  have h3t := h3; rw [toks_tis] at h3t
  have hlt : i < ((lex s 0).map Tok.ti).length := by simp; omega
  have hb := lex_bounds _ s 0 (Nat.le_refl _) _ (List.getElem_mem hlt0)
  intro k
  induction k with
  | zero =>
    intro j m hk hj hjt
    have hd : decide ((j : Int) ≤ (s.length : Nat)) = false := decide_eq_false (by omega)
    rw [l_l08_LexMunch_2_eq]
    simp only [rLenStr_bs, bnd_some, aBin_leq, hd, onWant_false, k_l08_LexMunch_8_eq, onBool_false]
    exact hout _ m
  | succ k ih =>
    intro j m hk hj hjt
    have hd : decide ((j : Int) ≤ (s.length : Nat)) = true := decide_eq_true (by omega)
    rw [l_l08_LexMunch_2_eq]
    simp only [rLenStr_bs, bnd_some, aBin_leq, hd, onWant_true, ti_ix h3t hlt, rFieldAddr_pim, rLoad_pimc, List.drop_zero, List.drop_succ_cons, List.getElem?_cons_zero, aBin_add, aBin_lss, k_l08_LexMunch_8_eq]
    simp only [List.getElem_map]
    by_cases hj40 : (j : Int) < IntKind.i64.wrap ((Tok.ti (lex s 0)[i]).t + 40)
    · simp only [decide_eq_true hj40, onBool_true, k_l08_LexMunch_7_eq, ti_ix h3t hlt, rFieldAddr_pim, rLoad_pimc, List.drop_zero, List.drop_succ_cons, List.getElem?_cons_zero, bnd_some]
      simp only [List.getElem_map]
      have hsl : rSliceStr (.str (bs s)) (some (.int .i64 (Tok.ti (lex s 0)[i]).f)) (some (.int .i64 j)) = some (.str (bs ((s.take j).drop (lex s 0)[i].f))) := rSliceStr_both (by omega) (by omega)
      have hz := lex_munch s _ s 0 (Nat.le_refl _) rfl _ (List.getElem_mem hlt0) h7 j hjt (by omega)
      rw [hsl, bnd_some, kind_s _ (by simp; omega), retK_ret, hz]
      simp only [aBin_neq, bnd_some, Int.natCast_zero, ne_eq, not_true_eq_false, decide_false, onBool_false, k_l08_LexMunch_9_eq, aBin_add]
      simp (disch := omega) only [wrap64]
      exact ih (j + 1) m (by omega) (by omega) (by omega)
    · simp only [decide_eq_false hj40, onBool_false]
      exact hout _ m

theorem munch_out {v3 : AV} (h3 : HSl v3 (toks (lex s 0))) : ∀ (k i : Nat) (m : Mem), (lex s 0).length - i = k → i ≤ (lex s 0).length →
    ∃ m', l_l08_LexMunch_0 (.str (bs s)) v3 (.int .i64 i) m = some (.ret (.bool true), m') := by
  have hll := lex_length _ s 0 (Nat.le_refl _)
  have h3t := h3; rw [toks_tis] at h3t
  intro k
  induction k with
  | zero =>
    intro i m hk hi
    have : i = (lex s 0).length := by omega
    subst this
    rw [l_l08_LexMunch_0_eq, h3.len]
    simp only [bnd_some, aBin_lss, List.length_map, Int.lt_irrefl, decide_false, onBool_false, k_l08_LexMunch_2_eq]
    exact ⟨_, rfl⟩
  | succ k ih =>
    intro i m hk hi
    have hlt0 : i < (lex s 0).length := by omega
    have hlt : i < ((lex s 0).map Tok.ti).length := by simp; omega
    have hd : decide ((i : Int) < ((toks (lex s 0)).length : Nat)) = true := decide_eq_true (by simp; omega)
    have hb := lex_bounds _ s 0 (Nat.le_refl _) _ (List.getElem_mem hlt0)
    have hout : ∀ v5 m, ∃ m', k_l08_LexMunch_4 (.str (bs s)) v3 (.int .i64 i) v5 m = some (.ret (.bool true), m') := by
      intro v5 m
      rw [k_l08_LexMunch_4_eq, aBin_add, bnd_some]
      simp (disch := omega) only [wrap64]
      exact ih (i + 1) m (by omega) (by omega)
    rw [l_l08_LexMunch_0_eq, h3.len]
    simp only [bnd_some, aBin_lss, hd, onBool_true, k_l08_LexMunch_3_eq, ti_ix h3t hlt, rFieldAddr_pim, rLoad_pimc, List.drop_zero, List.getElem?_cons_zero, aBin_eql]
    simp only [List.getElem_map]
    by_cases h7 : (lex s 0)[i].k = 7
    · have : decide ((Tok.ti (lex s 0)[i]).k = 7) = true := decide_eq_true (by simp [Tok.ti, h7])
      simp only [this, onBool_true]; exact hout _ m
    · have : decide ((Tok.ti (lex s 0)[i]).k = 7) = false := decide_eq_false (by simp [Tok.ti]; omega)
      have hg := lex_good s _ s 0 (Nat.le_refl _) rfl _ (List.getElem_mem hlt0) h7
      have hwt := word_tok s (lex s 0)[i] (by omega) (by omega)
      have hks : ∀ m, w_lex_Kind (.str (bs (wordS s (Tok.ti (lex s 0)[i])))) m = some (.ret (.int .i64 (lex s 0)[i].k), m) := by
        intro m
        rw [kind_s _ (by rw [hwt]; simp; omega), hwt, hg.kindS]
      simp only [this, onBool_false, k_l08_LexMunch_5_eq, ti_ix h3t hlt, ti_load, bnd_some, word_s, retK_ret]
      simp only [List.getElem_map]
      simp only [hks, retK_ret, ti_ix h3t hlt, bnd_some, rFieldAddr_pim, rLoad_pimc, List.drop_zero, List.getElem?_cons_zero, aBin_neq, sameK_self]
      have e : (Tok.ti (lex s 0)[i]).k = ((lex s 0)[i].k : Int) := rfl
      rw [e]
      simp only [ne_eq, not_true_eq_false, decide_false, onBool_false, k_l08_LexMunch_6_eq, ti_ix h3t hlt, bnd_some, rFieldAddr_pim, rLoad_pimc, List.drop_zero, List.drop_succ_cons, List.getElem?_cons_zero, aBin_add]
      simp only [List.getElem_map, Tok.ti]
      rw [wrap64 (by omega) (by omega)]
      exact munch_in s hs h3 hlt0 h7 hout _ ((lex s 0)[i].t + 1) _ rfl (by omega) (by omega)
end

theorem lexMunch_plain (s : List UInt8) (hl : s.length ≤ 9223372036854775807) (m : Mem) : ∃ m', w_l08_LexMunch (.str (bs s)) m = some (.ret (.bool true), m') := by
  obtain ⟨m1, h1, h2⟩ := alive_s m
  rw [e_l08_LexMunch, h1, retK_ret, aUn_not, bnd_some, Bool.not_true, onBool_false, k_l08_LexMunch_0_eq]
  simp only [rLenStr_bs, bnd_some, aBin_gtr]
  by_cases a1 : (300 : Int) < (s.length : Nat)
  · simp only [decide_eq_true a1, onBool_true]; exact ⟨_, rfl⟩
  · simp only [decide_eq_false a1, onBool_false, k_l08_LexMunch_1_eq]
    obtain ⟨v3, m2, h3, h4, h5⟩ := lex_s s (by omega) m1
    rw [h3, retK_ret]
    exact munch_out s (by omega) h4.hsl _ 0 m2 rfl (Nat.zero_le _)
end Go.AM
