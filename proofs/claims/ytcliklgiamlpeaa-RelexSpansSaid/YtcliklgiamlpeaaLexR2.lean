/-
  The document's lexer: tokens and kinds.
-/
import Derived.Test.YtcliklgiamlpeaaLexR
import Derived.Test.YtcliklgiamlpeaaLexLaw2
namespace Go.AM
open Go Go.Proofs Lx
set_option linter.unusedSimpArgs false
set_option linter.unusedVariables false

theorem rnoth_loop (s : List UInt8) (hs : s.length ≤ 1000000000) (v i kd : AV) : ∀ (k j : Nat) (m : Mem), s.length - j = k → j ≤ s.length →
    ∃ m', l_r08_Lex_2 (.str (bs s)) v i kd (.int .i64 j) m = k_r08_Lex_5 (.str (bs s)) v i kd (.int .i64 (j + noth (s.drop j) : Nat)) m' ∧ Kept m m'
  | 0, j, m, hk, hj => by
    have : j = s.length := by omega
    subst this
    rw [l_r08_Lex_2_eq]
    simp only [rLenStr_bs, bnd_some, aBin_lss, Int.lt_irrefl, decide_false, onWant_false, k_r08_Lex_7_eq, onBool_false]
    exact ⟨m, by simp [noth], .refl _ _⟩
  | k + 1, j, m, hk, hj => by
    have hlt : j < s.length := by omega
    have hd : s.drop j = s[j] :: s.drop (j + 1) := List.drop_eq_getElem_cons hlt
    rw [l_r08_Lex_2_eq]
    simp only [rLenStr_bs, bnd_some, aBin_lss, Int.ofNat_lt, hlt, decide_true, onWant_true, rIxStr_get hlt, rwhite_s, retK_ret, aUn_not, k_r08_Lex_7_eq]
    cases hw : whiteB s[j] with
    | true =>
      have e : noth (s.drop j) = 0 := by rw [hd, noth, if_pos (.inr hw)]
      rw [e, Nat.add_zero]
      simp only [Bool.not_true, onBool_false]
      exact ⟨m, rfl, .refl _ _⟩
    | false =>
      obtain ⟨m1, h1, h2⟩ := rone_s s hs j hlt m
      simp only [Bool.not_false, onBool_true, k_r08_Lex_6_eq, h1, retK_ret]
      by_cases h0 : (one (s.drop j)).1 = 0
      · have e : noth (s.drop j) = 1 + noth (s.drop (j + 1)) := by
          rw [hd] at h0 ⊢
          rw [noth, if_neg]
          rintro (h | h)
          · exact h h0
          · rw [hw] at h; cases h
        have hr : rOneRes j (one (s.drop j)) = .tup [.int .i64 0, .int .i64 0] := if_pos h0
        rw [hr, e]
        simp only [aExtract_tup, List.getElem?_cons_zero, List.getElem?_cons_succ, bnd_some, aBin_neq, ne_eq, not_true_eq_false, decide_false, onBool_false, k_r08_Lex_8_eq, aBin_add]
        simp (disch := omega) only [wrap64]
        obtain ⟨m', h3, h4⟩ := rnoth_loop s hs v i kd k (j + 1) m1 (by omega) (by omega)
        refine ⟨m', ?_, h2.trans h4⟩
        rw [show ((j : Int) + 1) = ((j + 1 : Nat) : Int) from rfl, h3, show j + 1 + noth (s.drop (j + 1)) = j + (1 + noth (s.drop (j + 1))) by omega]
      · have e : noth (s.drop j) = 0 := by
          rw [hd] at h0 ⊢
          rw [noth, if_pos (.inl h0)]
        have hr : rOneRes j (one (s.drop j)) = .tup [.int .i64 (one (s.drop j)).1, .int .i64 (j + (one (s.drop j)).2 : Nat)] := if_neg h0
        have hz : decide ((((one (s.drop j)).1 : Nat) : Int) ≠ 0) = true := decide_eq_true (by omega)
        rw [hr, e, Nat.add_zero]
        simp only [aExtract_tup, List.getElem?_cons_zero, List.getElem?_cons_succ, bnd_some, aBin_neq, hz, onBool_true]
        exact ⟨m1, rfl, h2⟩

theorem rlexLoop (s : List UInt8) (hs : s.length ≤ 1000000000) : ∀ (k a : Nat) (b : Nat) (v : AV) (acc : List Tok) (m : Mem), s.length - a < k → a ≤ s.length → App b 3 m v (toks acc) → b ≤ m.next → acc.length ≤ a →
    ∃ v' m', l_r08_Lex_0 (.str (bs s)) v (.int .i64 a) m = some (.ret v', m') ∧ App b 3 m' v' (toks (acc ++ lex (s.drop a) a)) ∧ Keeps b m m' := by
  intro k
  induction k with
  | zero => intro a b v acc m hk; omega
  | succ k ih =>
    intro a b v acc m hk ha hv hb hacc
    rw [l_r08_Lex_0_eq]
    simp only [rLenStr_bs, bnd_some, aBin_lss]
    by_cases hlt : a < s.length
    · have hd : s.drop a = s[a] :: s.drop (a + 1) := List.drop_eq_getElem_cons hlt
      have hdl : decide ((a : Int) < (s.length : Nat)) = true := decide_eq_true (by omega)
      have hlen : (s.drop a).length = s.length - a := by simp
      have hlex := lex_cons s[a] (s.drop (a + 1)) a
      rw [← hd] at hlex
      rw [hlex]
      simp only [hdl, onBool_true, k_r08_Lex_1_eq, rIxStr_get hlt, bnd_some, rwhite_s, retK_ret]
      cases hw : whiteB s[a] with
      | true =>
        simp only [onBool_true, aBin_add, bnd_some, if_true]
        simp (disch := omega) only [wrap64]
        exact ih (a + 1) b v acc m (by omega) (by omega) hv hb (by omega)
      | false =>
        simp only [onBool_false, k_r08_Lex_2_eq, at_s s [40, 42] (by omega) (by decide) a ha m, retK_ret, Bool.false_eq_true, if_false]
        rw [opens_iff]
        by_cases ho : [40, 42] <+: s.drop a
        · have hrem := rremark_s s m hs (s.length - a) a 0 (Nat.le_refl _) ha (by omega) (by omega)
          simp only [ho, decide_true, onBool_true, if_true, e_r08_remark, hrem, retK_ret]
          cases hr : rem (s.drop a) 0 with
          | none =>
            simp only [rremRes, aBin_eql, decide_true, bnd_some, onBool_true, rLenStr_bs, build3i, tok1]
            obtain ⟨v', m', h1, h2, h3⟩ := tok_app hv hb (by omega) ⟨7, a, s.length⟩
            have h1' : rAppend A_api_Token 0 m v (.sl .full [.agg [.int .i64 7, .int .i64 a, .int .i64 s.length]]) = some (v', m') := h1
            rw [h1', memK_some]
            refine ⟨v', m', rfl, ?_, h3⟩
            rw [hlen, show a + (s.length - a) = s.length by omega]; exact h2
          | some j =>
            have hj := rem_le _ _ _ _ (Nat.le_refl _) hr
            have hz : decide ((((a + j : Nat) : Int)) = 0) = false := decide_eq_false (by omega)
            simp only [rremRes, aBin_eql, hz, bnd_some, onBool_false, k_r08_Lex_4_eq]
            obtain ⟨v', m', h1, h2, h3⟩ := ih (a + j) b v acc m (by omega) (by omega) hv hb (by omega)
            refine ⟨v', m', h1, ?_, h3⟩
            rw [List.drop_drop]; exact h2
        · obtain ⟨m1, ho1, ho2⟩ := rone_s s hs a hlt m
          have hv1 := hv.kept ho2
          have hb1 : b ≤ m1.next := Nat.le_trans hb ho2.next
          have hpl : (piece (s.drop a)).2 ≤ s.length - a := by rw [← hlen]; exact piece_le (by intro h; rw [hd] at h; cases h)
          have hpp := piece_pos (s.drop a)
          have fin : ∀ m2, Kept m1 m2 → ∃ v' m', k_r08_Lex_5 (.str (bs s)) v (.int .i64 a) (.int .i64 (piece (s.drop a)).1) (.int .i64 (a + (piece (s.drop a)).2 : Nat)) m2 = some (.ret v', m') ∧
              App b 3 m' v' (toks (acc ++ ⟨(piece (s.drop a)).1, a, a + (piece (s.drop a)).2⟩ :: lex ((s.drop a).drop (piece (s.drop a)).2) (a + (piece (s.drop a)).2))) ∧ Keeps b m m' := by
            intro m2 hk2
            obtain ⟨v1, m3, h1, h2, h3⟩ := tok_app (hv1.kept hk2) (Nat.le_trans hb1 hk2.next) (by omega) ⟨(piece (s.drop a)).1, a, a + (piece (s.drop a)).2⟩
            rw [k_r08_Lex_5_eq, build3i, bnd_some, tok1, bnd_some, h1, memK_some]
            obtain ⟨v', m', h4, h5, h6⟩ := ih (a + (piece (s.drop a)).2) b v1 _ m3 (by omega) (by omega) h2 (Nat.le_trans (Nat.le_trans hb1 hk2.next) h3.next) (by simp; omega)
            refine ⟨v', m', h4, ?_, (((ho2.less hb).trans (hk2.less hb1)).trans h3).trans h6⟩
            rw [List.drop_drop]; simpa using h5
          simp only [ho, decide_false, onBool_false, Bool.false_eq_true, if_false, k_r08_Lex_3_eq, ho1, retK_ret]
          by_cases h0 : (one (s.drop a)).1 = 0
          · have hp : piece (s.drop a) = (7, 1 + noth (s.drop (a + 1))) := by unfold piece; rw [if_pos h0, hd]; rfl
            have hr : rOneRes a (one (s.drop a)) = .tup [.int .i64 0, .int .i64 0] := if_pos h0
            rw [hr]
            simp only [aExtract_tup, List.getElem?_cons_zero, List.getElem?_cons_succ, bnd_some, aBin_eql, decide_true, onBool_true, aBin_add]
            rw [wrap64 (by omega) (by omega)]
            obtain ⟨m2, h1, h2⟩ := rnoth_loop s hs v (.int .i64 a) (.int .i64 7) _ (a + 1) m1 rfl (by omega)
            rw [show ((a : Int) + 1) = ((a + 1 : Nat) : Int) from rfl, h1]
            have := fin m2 h2
            rw [hp] at this ⊢
            rw [show a + (1 + noth (s.drop (a + 1))) = a + 1 + noth (s.drop (a + 1)) by omega] at this ⊢
            exact this
          · have hp : piece (s.drop a) = one (s.drop a) := by unfold piece; rw [if_neg h0]
            have hr : rOneRes a (one (s.drop a)) = .tup [.int .i64 (one (s.drop a)).1, .int .i64 (a + (one (s.drop a)).2 : Nat)] := if_neg h0
            have hz : decide ((((one (s.drop a)).1 : Nat) : Int) = 0) = false := decide_eq_false (by omega)
            rw [hr]
            simp only [aExtract_tup, List.getElem?_cons_zero, List.getElem?_cons_succ, bnd_some, aBin_eql, hz, onBool_false]
            have := fin m1 (.refl _ _)
            rw [hp] at this ⊢
            exact this
    · have : a = s.length := by omega
      subst this
      have hdl : decide (((s.length : Nat) : Int) < (s.length : Nat)) = false := decide_eq_false (by omega)
      simp only [hdl, onBool_false, k_r08_Lex_0_eq]
      refine ⟨v, m, rfl, ?_, .refl _ _⟩
      rw [List.drop_length, lex_nil, List.append_nil]; exact hv

theorem rempty : rBuildSlice A_api_Token 0 [] = some (.sl .full []) := by kernel_rfl
theorem rlex_s (s : List UInt8) (hs : s.length ≤ 1000000000) (m : Mem) :
    ∃ v m', w_r08_Lex (.str (bs s)) m = some (.ret v, m') ∧ App m.next 3 m' v (toks (lex s 0)) ∧ Kept m m' := by
  obtain ⟨v, m', h1, h2, h3⟩ := rlexLoop s hs (s.length + 1) 0 m.next (.sl .full []) [] m (by omega) (Nat.zero_le _) (.full [] rfl) (Nat.le_refl _) (Nat.le_refl _)
  exact ⟨v, m', by rw [e_r08_Lex, rempty, bnd_some]; exact h1, by simpa using h2, h3⟩

namespace Lx
/-- a word's kind by its tokens -/
def rkindS (w : List UInt8) : Nat := match lex w 0 with
  | [t] => if t.f = 0 ∧ t.t = w.length ∧ t.k ≠ 7 then t.k else 0
  | _ => 0
theorem lex_tail_nil : ∀ (n : Nat) (l : List UInt8) (a : Nat), l.length ≤ n → lex l a = [] → ∀ t ∈ lex l a, False
  | n, l, a, h, e => by rw [e]; simp
theorem rkind_eq (w : List UInt8) : rkindS w = kindS w := by
  cases w with
  | nil => rfl
  | cons c r =>
    unfold rkindS kindS
    have hne : ¬ (c :: r = ([] : List UInt8)) := by simp
    have hb := lex_bounds _ (c :: r) 0 (Nat.le_refl _)
    rw [lex_cons] at hb ⊢
    by_cases hw : whiteB c = true
    · rw [if_pos hw] at hb ⊢
      have hb1 := lex_bounds _ r (0 + 1) (Nat.le_refl _)
      have hk : one (c :: r) = (0, 0) := by
        have : ∀ c : UInt8, whiteB c = true → (c == 95 || smallB c || greatB c) = false ∧ digitB c = false ∧ (c == 39) = false ∧ (∀ w ∈ signs, w.head? ≠ some c) := by
          intro c
          exact bytes_all (p := fun c => whiteB c = true → (c == 95 || smallB c || greatB c) = false ∧ digitB c = false ∧ (c == 39) = false ∧ (∀ w ∈ signs, w.head? ≠ some c)) (by decide +kernel) c
        obtain ⟨h1, h2, h3, h4⟩ := this c hw
        rw [one_cons, if_neg (by rw [h1]; decide), if_neg (by rw [h2]; decide), if_neg (by rw [h3]; simp)]
        rcases firstSign_cases (c :: r) signs with ⟨h', _⟩ | ⟨w, hw', hp, h'⟩
        · exact h'
        · exfalso
          have hl := (signs_len w hw').1
          match w, hp, hl with
          | x :: w', hp, _ =>
            rw [List.cons_prefix_cons] at hp
            exact h4 _ hw' (by simp [hp.1])
      have rhs : (if c :: r = [] ∨ [40, 42] <+: c :: r then 0 else if (one (c :: r)).2 = (c :: r).length then (one (c :: r)).1 else 0) = 0 := by
        rw [hk]; split; rfl; split <;> rfl
      rw [rhs]
      split
      · rename_i t ht
        have := hb1 t (by rw [ht]; simp)
        rw [if_neg (by omega)]
      · rfl
    · rw [if_neg hw] at hb ⊢
      by_cases ho : opens (c :: r) = true
      · have ho' : [40, 42] <+: c :: r := by unfold opens at ho; rw [List.isPrefixOf_iff_prefix] at ho; exact ho
        rw [if_pos ho] at hb ⊢
        rw [if_pos (.inr ho')]
        cases hr : rem (c :: r) 0 with
        | none => simp
        | some k =>
          have hk2 := rem_le _ _ _ k (Nat.le_refl _) hr
          have hb1 := lex_bounds _ ((c :: r).drop k) (0 + k) (Nat.le_refl _)
          simp only []
          split
          · rename_i t ht
            have := hb1 t (by rw [ht]; simp)
            rw [if_neg (by omega)]
          · rfl
      · have ho' : ¬ [40, 42] <+: c :: r := by unfold opens at ho; rw [List.isPrefixOf_iff_prefix] at ho; exact ho
        rw [if_neg ho] at hb ⊢
        rw [if_neg (by rintro (h | h); exact hne h; exact ho' h)]
        have hle := piece_le (l := c :: r) hne
        by_cases hfull : (piece (c :: r)).2 = (c :: r).length
        · rw [hfull, List.drop_length, lex_nil]
          simp only [Nat.zero_add, true_and]
          unfold piece at hfull ⊢
          by_cases h0 : (one (c :: r)).1 = 0
          · rw [if_pos h0]
            simp only [ne_eq, not_true_eq_false, if_false, h0]
            split <;> rfl
          · rw [if_neg h0] at hfull ⊢
            rw [hfull, if_pos rfl]
            have h7 : (one (c :: r)).1 ≠ 7 := by
              rw [one_cons]
              split
              · show named _ ≠ 7
                unfold named; split; decide; split; decide; simp only []; split <;> decide
              · split
                · show (3 : Nat) ≠ 7; decide
                · split
                  · show (4 : Nat) ≠ 7; decide
                  · rcases firstSign_cases (c :: r) signs with ⟨h', _⟩ | ⟨w, hw', hp, h'⟩
                    · rw [h']; decide
                    · rw [h']; show (6 : Nat) ≠ 7; decide
            rw [if_pos h7]
        · have rhs : (if (one (c :: r)).2 = (c :: r).length then (one (c :: r)).1 else 0) = 0 := by
            by_cases h0 : (one (c :: r)).1 = 0
            · rw [h0]; split <;> rfl
            · rw [if_neg]
              intro h
              apply hfull
              unfold piece; rw [if_neg h0]; exact h
          rw [rhs]
          split
          · rename_i t ht
            injection ht with h1 h2
            rw [← h1, if_neg]
            rintro ⟨_, h, _⟩
            exact hfull (by simpa using h)
          · rfl
end Lx

theorem rkind_s (w : List UInt8) (hl : w.length ≤ 1000000000) (m : Mem) : ∃ m', w_r08_Kind (.str (bs w)) m = some (.ret (.int .i64 (kindS w)), m') ∧ Kept m m' := by
  obtain ⟨v, m1, h1, h2, h3⟩ := rlex_s w hl m
  have h4 := h2.hsl; rw [toks_tis] at h4
  refine ⟨m1, ?_, h3⟩
  rw [e_r08_Kind, h1, retK_ret, h4.len, bnd_some, ← rkind_eq]
  unfold rkindS
  match hlx : lex w 0 with
  | [] => simp [k_r08_Kind_1_eq]
  | a :: b :: r =>
    have : decide ((((tis ((a :: b :: r).map Tok.ti)).length : Nat) : Int) ≠ 1) = true := decide_eq_true (by simp; omega)
    rw [hlx] at h4
    simp only [aBin_neq, this, bnd_some, onWant_true, k_r08_Kind_1_eq, onBool_true]; rfl
  | [t] =>
    rw [hlx] at h4
    have hix : rIxAddrSl 3 v (.int .i64 0) = some (.pim [.int .i64 t.k, .int .i64 t.f, .int .i64 t.t]) := ti_ix h4 (n := 0) (by simp)
    have : decide ((((tis ([t].map Tok.ti)).length : Nat) : Int) ≠ 1) = false := decide_eq_false (by simp)
    simp only [aBin_neq, this, bnd_some, onWant_false, hix, rFieldAddr_pim, rLoad_pimc, List.drop_zero, List.drop_succ_cons, List.getElem?_cons_zero, k_r08_Kind_1_eq, k_r08_Kind_0_eq, onBool_true, rLenStr_bs, aBin_eql]
    by_cases a1 : t.f = 0
    · have : decide (((t.f : Nat) : Int) ≠ 0) = false := decide_eq_false (by omega)
      simp only [this, onWant_false]
      by_cases a2 : t.t = w.length
      · have : decide (((t.t : Nat) : Int) ≠ (w.length : Nat)) = false := decide_eq_false (by omega)
        simp only [this, onWant_false]
        by_cases a3 : t.k = 7
        · have : decide (((t.k : Nat) : Int) = 7) = true := decide_eq_true (by omega)
          simp only [this, onBool_true]
          rw [if_neg (by simp [a3])]; rfl
        · have : decide (((t.k : Nat) : Int) = 7) = false := decide_eq_false (by omega)
          simp only [this, onBool_false]
          rw [if_pos ⟨a1, a2, a3⟩]
      · have : decide (((t.t : Nat) : Int) ≠ (w.length : Nat)) = true := decide_eq_true (by omega)
        simp only [this, onWant_true]
        rw [if_neg (by simp [a2])]; rfl
    · have : decide (((t.f : Nat) : Int) ≠ 0) = true := decide_eq_true (by omega)
      simp only [this, onWant_true]
      rw [if_neg (by simp [a1])]; rfl

end Go.AM
