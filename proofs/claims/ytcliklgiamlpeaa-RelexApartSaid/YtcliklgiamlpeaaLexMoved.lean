/-
  LexMoved over the machine.
-/
import Derived.Test.YtcliklgiamlpeaaLexC
import Derived.Test.YtcliklgiamlpeaaLexLaw
import Derived.Test.YtcliklgiamlpeaaR1E0
namespace Go.AM
open Go Go.Proofs Lx
set_option linter.unusedSimpArgs false
set_option linter.unusedVariables false

def aliveText : List UInt8 := [108, 101, 116, 32, 120, 39, 32, 40, 42, 32, 40, 42, 32, 42, 41, 32, 42, 41, 61, 32, 49]
def aliveToks : List Tok := [⟨5, 0, 3⟩, ⟨1, 4, 6⟩, ⟨6, 18, 19⟩, ⟨3, 20, 21⟩]
theorem alive_lex : lex aliveText 0 = aliveToks := by decide +kernel

theorem tok4 (a b c d : AV) (ha : a.cells?.map List.length = some 3) (hb : b.cells?.map List.length = some 3) (hc : c.cells?.map List.length = some 3) (hd : d.cells?.map List.length = some 3) :
    rBuildSlice A_api_Token 4 [(0, a), (1, b), (2, c), (3, d)] = some (.sl .full [a, b, c, d]) := by
  have h : ∀ x : AV, x.cells?.map List.length = some 3 → ∃ cs, x.cells? = some cs ∧ cs.length = 3 := by
    intro x hx; simpa using hx
  obtain ⟨ca, ha, la⟩ := h a ha
  obtain ⟨cb, hb, lb⟩ := h b hb
  obtain ⟨cc, hc, lc⟩ := h c hc
  obtain ⟨cd, hd, ld⟩ := h d hd
  have hz : sized 3 [A_api_Token.zero] = true := rfl
  have hs : A_api_Token.size = 3 := rfl
  have hu : A_api_Token.d.isU8 = false := rfl
  simp [rBuildSlice, hz, hs, hu, aBuildElems, ha, hb, hc, hd, la, lb, lc, ld]

theorem alive_s (m : Mem) : ∃ m', w_l08_alive m = some (.ret (.bool true), m') ∧ Kept m m' := by
  obtain ⟨v, m', h1, h2, h3⟩ := lex_s aliveText (by decide) m
  have h4 := h2.hsl
  rw [alive_lex, toks_tis] at h4
  refine ⟨m', ?_, h3⟩
  rw [e_l08_alive]
  have h1' : w_lex_Lex (.str (bs [108, 101, 116, 32, 120, 39, 32, 40, 42, 32, 40, 42, 32, 42, 41, 32, 42, 41, 61, 32, 49])) m = some (.ret v, m') := h1
  simp only [h1', retK_ret, build3i, bnd_some]
  rw [tok4 _ _ _ _ rfl rfl rfl rfl, bnd_some]
  have h5 := same_s h4 (.sl .full (tis (aliveToks.map Tok.ti))) (by decide) m'
  have h6 : (AV.sl .full [.agg [.int .i64 5, .int .i64 0, .int .i64 3], .agg [.int .i64 1, .int .i64 4, .int .i64 6], .agg [.int .i64 6, .int .i64 18, .int .i64 19], .agg [.int .i64 3, .int .i64 20, .int .i64 21]]) = .sl .full (tis (aliveToks.map Tok.ti)) := rfl
  rw [h6, h5]
  simp

theorem ww_build : rBuildSlice A_uint8 14 [(0, (.int .u8 10)), (1, (.int .u8 32)), (2, (.int .u8 40)), (3, (.int .u8 42)), (4, (.int .u8 32)), (5, (.int .u8 108)), (6, (.int .u8 101)), (7, (.int .u8 116)), (8, (.int .u8 32)), (9, (.int .u8 41)), (10, (.int .u8 32)), (11, (.int .u8 42)), (12, (.int .u8 41)), (13, (.int .u8 32))] = some (.sl .lit (u8s ww)) := by kernel_rfl
theorem empty_build : rBuildSlice A_uint8 0 [] = some (.sl .lit []) := by kernel_rfl
theorem lit_conv (xs : List AV) : aLit X.T T_Sl_uint8 (.sl .lit xs) = some (.sl .lit xs) := by kernel_rfl
theorem u8_append {b : Nat} {m : Mem} {v w : AV} {xs ys : List UInt8} (h : App b 1 m v (u8s xs)) (hb : b ≤ m.next) (hw : HSl w (u8s ys)) (hl : xs.length + ys.length ≤ 1000000000) :
    ∃ v' m', rAppend A_uint8 0 m v w = some (v', m') ∧ App b 1 m' v' (u8s (xs ++ ys)) ∧ Keeps b m m' := by
  obtain ⟨v', m', h1, h2, h3, _⟩ := App.append (A := A_uint8) h hb hw (u8s_sized ys) ⟨by decide, rfl⟩ (by simp only [List.length_map, A_uint8]; omega) (by simp; omega)
  have h2' : App b 1 m' v' (u8s xs ++ u8s ys) := h2
  exact ⟨v', m', h1, by simpa [u8s] using h2', h3⟩

section
variable (s : List UInt8) (hs : s.length ≤ 5000) (n : Nat) (hn : n ≤ 1000)
include hs hn

/-- the last comparison: white behind the text -/
theorem moved_behind {v5 v7 : AV} {m : Mem} (h5 : HSl v5 (u8s (wn n))) (h7 : HSl v7 (toks (lex s 0))) (hlast : ∀ t, (lex s 0).getLast? = some t → t.k ≠ 7) : ∃ m', k_l08_LexMoved_8 (.str (bs s)) v5 v7 m = some (.ret (.bool true), m') := by
  have hwl := wn_length n
  rw [k_l08_LexMoved_8_eq]
  rw [aBin_stradd (by simp; omega), bnd_some, h5.str, bnd_some, aBin_stradd (by simp; omega), bnd_some]
  obtain ⟨v, m', h1, h2, h3⟩ := lex_s (s ++ [32] ++ wn n) (by simp; omega) m
  have h4 := h2.hsl
  have hb : lex (s ++ [32] ++ wn n) 0 = lex s 0 := by
    rw [List.append_assoc]
    have := lex_blank (wn n) _ s 0 (Nat.le_refl _) hlast
    rw [lex_blank_wn, List.append_nil] at this
    exact this
  rw [hb, toks_tis] at h4
  rw [toks_tis] at h7
  have hl := lex_length _ s 0 (Nat.le_refl _)
  have h8 := same_s h4 h7 (by simp; omega) m'
  rw [h1, retK_ret, h8]
  exact ⟨m', by simp⟩

theorem moved_loop {v5 v7 v8 : AV} (h5 : HSl v5 (u8s (wn n))) (h7 : HSl v7 (toks (lex s 0))) (h8 : HSl v8 (toks ((lex s 0).map (Tok.sh (14 * n))))) : ∀ (k i : Nat) (m : Mem), (lex s 0).length - i = k → i ≤ (lex s 0).length →
    ∃ m', l_l08_LexMoved_2 (.str (bs s)) v5 v7 v8 (.int .i64 i) m = some (.ret (.bool true), m') := by
  have hll := lex_length _ s 0 (Nat.le_refl _)
  have h7t := h7; rw [toks_tis] at h7t
  have h8t := h8; rw [toks_tis] at h8t
  intro k
  induction k with
  | zero =>
    intro i m hk hi
    have : i = (lex s 0).length := by omega
    subst this
    rw [l_l08_LexMoved_2_eq, h7.len]
    simp only [bnd_some, aBin_lss, List.length_map, Int.lt_irrefl, decide_false, onBool_false, k_l08_LexMoved_6_eq, h7.len, aBin_gtr]
    by_cases h0 : (lex s 0).length = 0
    · have : decide ((0 : Int) < ((lex s 0).length : Nat)) = false := decide_eq_false (by omega)
      simp only [this, onWant_false, k_l08_LexMoved_9_eq, onBool_false]
      refine moved_behind s hs n hn h5 h7 ?_
      rw [List.eq_nil_of_length_eq_zero h0]; simp
    · have hd : decide ((0 : Int) < ((lex s 0).length : Nat)) = true := decide_eq_true (by omega)
      have hlt : (lex s 0).length - 1 < ((lex s 0).map Tok.ti).length := by simp; omega
      have hw : IntKind.i64.wrap (((lex s 0).length : Nat) - 1) = (((lex s 0).length - 1 : Nat) : Int) := by rw [wrap64 (by omega) (by omega)]; omega
      simp only [hd, onWant_true, aBin_sub, hw, bnd_some, ti_ix h7t hlt, rFieldAddr_pim, rLoad_pimc, List.drop_zero, List.getElem?_cons_zero, aBin_eql, k_l08_LexMoved_9_eq]
      simp only [List.getElem_map]
      by_cases hk7 : (lex s 0)[(lex s 0).length - 1].k = 7
      · have : decide ((Tok.ti (lex s 0)[(lex s 0).length - 1]).k = 7) = true := decide_eq_true (by simp [Tok.ti, hk7])
        simp only [this, onBool_true]; exact ⟨m, rfl⟩
      · have : decide ((Tok.ti (lex s 0)[(lex s 0).length - 1]).k = 7) = false := decide_eq_false (by simp [Tok.ti]; omega)
        simp only [this, onBool_false]
        refine moved_behind s hs n hn h5 h7 ?_
        intro t ht
        rw [List.getLast?_eq_getElem?, List.getElem?_eq_getElem (by omega)] at ht
        cases ht; exact hk7
  | succ k ih =>
    intro i m hk hi
    have hlt : i < ((lex s 0).map Tok.ti).length := by simp; omega
    have hlt0 : i < (lex s 0).length := by omega
    have hlt' : i < (((lex s 0).map (Tok.sh (14 * n))).map Tok.ti).length := by simp; omega
    have hd : decide ((i : Int) < ((toks (lex s 0)).length : Nat)) = true := decide_eq_true (by simp; omega)
    rw [l_l08_LexMoved_2_eq, h7.len]
    have hb : ∀ t, t ∈ lex s 0 → True := fun _ _ => trivial
    have hbd := lex_bounds _ s 0 (Nat.le_refl _) _ (List.getElem_mem hlt0)
    have hwl : (u8s (wn n)).length = 14 * n := by simp [wn_length]
    simp only [bnd_some, aBin_lss, hd, onBool_true, k_l08_LexMoved_10_eq, ti_ix h7t hlt, ti_ix h8t hlt', ti_load, rFieldAddr_pim, rLoad_pimc, List.drop_zero, List.drop_succ_cons, List.getElem?_cons_zero, h5.len, aBin_add, build3i, hwl]
    simp only [List.getElem_map, Tok.ti, Tok.sh, tiAV, tokNeq]
    have hw1 : IntKind.i64.wrap (((lex s 0)[i].f : Nat) + (14 * n : Nat)) = (((lex s 0)[i].f + 14 * n : Nat) : Int) := by rw [wrap64 (by omega) (by omega)]; rfl
    have hw2 : IntKind.i64.wrap (((lex s 0)[i].t : Nat) + (14 * n : Nat)) = (((lex s 0)[i].t + 14 * n : Nat) : Int) := by rw [wrap64 (by omega) (by omega)]; rfl
    rw [hw1, hw2]
    simp only [ne_eq, not_true_eq_false, decide_false, bnd_some, onBool_false, k_l08_LexMoved_11_eq, aBin_add]
    simp (disch := omega) only [wrap64]
    exact ih (i + 1) m (by omega) (by omega)

theorem moved_build : ∀ (k i : Nat) (b : Nat) (v : AV) (m : Mem), n - i = k → i ≤ n → App b 1 m v (u8s (wn i)) → b ≤ m.next →
    ∃ m', l_l08_LexMoved_0 (.str (bs s)) (.int .i64 n) v (.int .i64 i) m = some (.ret (.bool true), m') := by
  intro k
  induction k with
  | zero =>
    intro i b v m hk hi hv hb
    have : i = n := by omega
    subst this
    rw [l_l08_LexMoved_0_eq]
    simp only [aBin_lss, bnd_some, Int.lt_irrefl, decide_false, onBool_false, k_l08_LexMoved_3_eq]
    obtain ⟨v7, m1, h1, h2, h3⟩ := lex_s s (by omega) m
    rw [h1, retK_ret, hv.hsl.str, bnd_some, aBin_stradd (by have := wn_length i; omega), bnd_some]
    obtain ⟨v8, m2, h4, h5, h6⟩ := lex_s (wn i ++ s) (by have := wn_length i; simp; omega) m1
    have hm : lex (wn i ++ s) 0 = (lex s 0).map (Tok.sh (14 * i)) := by
      rw [lex_wn, lex_shift (14 * i) _ s 0 (Nat.le_refl _)]
    rw [hm] at h5
    rw [h4, retK_ret, h5.hsl.len, h2.hsl.len]
    simp only [bnd_some, aBin_neq, List.length_map, ne_eq, not_true_eq_false, decide_false, onBool_false, k_l08_LexMoved_4_eq]
    exact moved_loop s hs i hn hv.hsl h2.hsl h5.hsl _ 0 m2 rfl (Nat.zero_le _)
  | succ k ih =>
    intro i b v m hk hi hv hb
    have hd : decide ((i : Int) < (n : Int)) = true := decide_eq_true (by omega)
    rw [l_l08_LexMoved_0_eq]
    simp only [aBin_lss, bnd_some, hd, onBool_true, k_l08_LexMoved_5_eq, ww_build, lit_conv]
    obtain ⟨v1, m1, h1, h2, h3⟩ := u8_append hv hb (.sl .lit (u8s ww)) (by have := wn_length i; have h14 : ww.length = 14 := rfl; omega)
    rw [h1, memK_some, k_l08_LexMoved_7_eq, aBin_add, bnd_some]
    simp (disch := omega) only [wrap64]
    exact ih (i + 1) b v1 m1 (by omega) (by omega) h2 (Nat.le_trans hb h3.next)
end

theorem lexMoved_plain (s : List UInt8) (n : Int) (hl : s.length ≤ 9223372036854775807) (m : Mem) : ∃ m', w_l08_LexMoved (.str (bs s)) (.int .i64 n) m = some (.ret (.bool true), m') := by
  obtain ⟨m1, h1, h2⟩ := alive_s m
  rw [e_l08_LexMoved, h1, retK_ret, aUn_not, bnd_some, Bool.not_true, onBool_false, k_l08_LexMoved_0_eq]
  simp only [rLenStr_bs, bnd_some, aBin_gtr, aBin_lss, k_l08_LexMoved_2_eq, onBool_true]
  by_cases a1 : (5000 : Int) < (s.length : Nat)
  · simp only [decide_eq_true a1, onWant_true]; exact ⟨_, rfl⟩
  · simp only [decide_eq_false a1, onWant_false]
    by_cases a2 : n < 0
    · simp only [decide_eq_true a2, onWant_true]; exact ⟨_, rfl⟩
    · simp only [decide_eq_false a2, onWant_false]
      by_cases a3 : (1000 : Int) < n
      · simp only [decide_eq_true a3, onBool_true]; exact ⟨_, rfl⟩
      · simp only [decide_eq_false a3, onBool_false, k_l08_LexMoved_1_eq, empty_build, bnd_some]
        obtain ⟨k, rfl⟩ := Int.eq_ofNat_of_zero_le (by omega : 0 ≤ n)
        exact moved_build s (by omega) k (by omega) k 0 m1.next _ m1 rfl (Nat.zero_le _) (.lit [] rfl) (Nat.le_refl _)

end Go.AM
