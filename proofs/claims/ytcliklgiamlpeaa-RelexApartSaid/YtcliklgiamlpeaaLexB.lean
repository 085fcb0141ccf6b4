/-
  The program's lexer computes the lexer in plain Lean: tokens.
-/
import Derived.Test.YtcliklgiamlpeaaLexA
namespace Go.AM
open Go Go.Proofs Lx
set_option linter.unusedSimpArgs false
set_option linter.unusedVariables false

def tokAV (t : Tok) : AV := .agg [.int .i64 t.k, .int .i64 t.f, .int .i64 t.t]
abbrev toks (l : List Tok) : List AV := l.map tokAV

theorem build3 (x y z : AV) (hx : x.cells? = some [x]) (hy : y.cells? = some [y]) (hz : z.cells? = some [z]) (a b c : AV) : rBuild [a, b, c] [(0, 1, x), (1, 1, y), (2, 1, z)] = some (.agg [x, y, z]) := by
  simp [hx, hy, hz, putCells, splice]
theorem tok1 (x y z : AV) : rBuildSlice A_api_Token 1 [(0, .agg [x, y, z])] = some (.sl .full [.agg [x, y, z]]) := (rfl)
theorem toks_sized (l : List Tok) : sized 3 (toks l) = true := by
  induction l with
  | nil => rfl
  | cons t l ih => simp [sized, tokAV, ih]

theorem build3i (x y z : Int) (a b c : AV) : rBuild [a, b, c] [(0, 1, .int .i64 x), (1, 1, .int .i64 y), (2, 1, .int .i64 z)] = some (.agg [.int .i64 x, .int .i64 y, .int .i64 z]) := build3 _ _ _ rfl rfl rfl a b c
theorem opens_iff (l : List UInt8) : opens l = decide ([40, 42] <+: l) := by
  unfold opens
  rw [Bool.eq_iff_iff, List.isPrefixOf_iff_prefix, decide_eq_true_eq]

/-- a token is appended -/
theorem tok_app {b : Nat} {m : Mem} {v : AV} {acc : List Tok} (h : App b 3 m v (toks acc)) (hb : b ≤ m.next) (hl : acc.length ≤ 1099511627776) (t : Tok) :
    ∃ v' m', rAppend A_api_Token 0 m v (.sl .full [.agg [.int .i64 t.k, .int .i64 t.f, .int .i64 t.t]]) = some (v', m') ∧ App b 3 m' v' (toks (acc ++ [t])) ∧ Keeps b m m' := by
  obtain ⟨v', m', h1, h2, h3, _⟩ := App.append (A := A_api_Token) (ys := [tokAV t]) h hb (.sl .full _) (toks_sized [t]) ⟨by decide, rfl⟩ (by simp only [List.length_map, List.length_singleton, A_api_Token]; omega) (by simp; omega)
  have h2' : App b 3 m' v' (toks acc ++ [tokAV t]) := h2
  exact ⟨v', m', h1, by simpa [toks] using h2', h3⟩

theorem lexLoop (s : List UInt8) (hs : s.length ≤ 1000000000) : ∀ (k a : Nat) (b : Nat) (v : AV) (acc : List Tok) (m : Mem), s.length - a < k → a ≤ s.length → App b 3 m v (toks acc) → b ≤ m.next → acc.length ≤ a →
    ∃ v' m', l_lex_Lex_0 (.str (bs s)) v (.int .i64 a) m = some (.ret v', m') ∧ App b 3 m' v' (toks (acc ++ lex (s.drop a) a)) ∧ Keeps b m m' := by
  intro k
  induction k with
  | zero => intro a b v acc m hk; omega
  | succ k ih =>
    intro a b v acc m hk ha hv hb hacc
    have hl : s.length ≤ 4611686018427387904 := by omega
    have hrun := runFrom (set := whites) (p := whiteB) mem_whites s a m hl ha
    have hrl := run_le whiteB (s.drop a)
    simp only [List.length_drop] at hrl
    rw [l_lex_Lex_0_eq]
    simp only [white_set, hrun, retK_ret, rLenStr_bs, bnd_some, aBin_eql]
    rw [lex_white (s.drop a) a, List.drop_drop]
    have hh : ∀ c r, s.drop (a + run whiteB (s.drop a)) = c :: r → whiteB c = false := fun c r h => run_white_head (l := s.drop a) (by rw [List.drop_drop]; exact h)
    have hge : a ≤ a + run whiteB (s.drop a) := by omega
    have hle : a + run whiteB (s.drop a) ≤ s.length := by omega
    generalize a + run whiteB (s.drop a) = a' at *
    by_cases he : a' = s.length
    · have : decide ((a' : Int) = s.length) = true := decide_eq_true (by omega)
      simp only [this, onBool_true, k_lex_Lex_0_eq]
      refine ⟨v, m, rfl, ?_, .refl _ _⟩
      rw [he, List.drop_length, lex_nil, List.append_nil]; exact hv
    · have : decide ((a' : Int) = s.length) = false := decide_eq_false (by omega)
      have hlt : a' < s.length := by omega
      have hd : s.drop a' = s[a'] :: s.drop (a' + 1) := List.drop_eq_getElem_cons hlt
      have hlen : (s.drop a').length = s.length - a' := by simp
      have hw := hh _ _ hd
      simp only [this, onBool_false, k_lex_Lex_1_eq, rSliceStr_lo (show a' ≤ s.length by omega), bnd_some, hasPrefix_s, retK_ret]
      have hlex : lex (s.drop a') a' = if opens (s.drop a') then match rem (s.drop a') 0 with
          | none => [⟨7, a', a' + (s.drop a').length⟩]
          | some k => lex ((s.drop a').drop k) (a' + k)
        else ⟨(piece (s.drop a')).1, a', a' + (piece (s.drop a')).2⟩ :: lex ((s.drop a').drop (piece (s.drop a')).2) (a' + (piece (s.drop a')).2) := by
        rw [hd, lex_cons, hw]; rfl
      rw [hlex, opens_iff]
      by_cases ho : [40, 42] <+: s.drop a'
      · have hrem : w_lex_remark (.str (bs (s.drop a'))) m = some (.ret (remRes (s.drop a') 0 (rem (s.drop a') 0)), m) := by
          have := remark_s (s.drop a') m (by rw [hlen]; omega) (s.drop a').length 0 0 (by omega) (Nat.zero_le _) (by omega) (by omega)
          rw [e_lex_remark]; simpa using this
        simp only [ho, decide_true, onBool_true, hrem, retK_ret]
        cases hr : rem (s.drop a') 0 with
        | none =>
          simp only [remRes, aExtract_tup, List.getElem?_cons_zero, List.getElem?_cons_succ, bnd_some, aUn_not, Bool.not_false, onBool_true, rLenStr_bs, build3i, tok1, if_true]
          obtain ⟨v', m', h1, h2, h3⟩ := tok_app hv hb (by omega) ⟨7, a', s.length⟩
          have h1' : rAppend A_api_Token 0 m v (.sl .full [.agg [.int .i64 7, .int .i64 a', .int .i64 s.length]]) = some (v', m') := h1
          rw [h1', memK_some]
          refine ⟨v', m', k_lex_Lex_0_eq _ _ _ _, ?_, h3⟩
          rw [hlen, show a' + (s.length - a') = s.length by omega]; exact h2
        | some j =>
          have hj := rem_le _ _ _ _ (Nat.le_refl _) hr
          simp only [remRes, aExtract_tup, List.getElem?_cons_zero, List.getElem?_cons_succ, bnd_some, aUn_not, Bool.not_true, onBool_false, k_lex_Lex_3_eq, aBin_add, if_true]
          simp (disch := omega) only [wrap64]
          obtain ⟨v', m', h1, h2, h3⟩ := ih (a' + j) b v acc m (by omega) (by omega) hv hb (by omega)
          refine ⟨v', m', ?_, ?_, h3⟩
          · rw [← h1]; congr 2; omega
          · rw [List.drop_drop]; exact h2
      · have hone : w_lex_one (.str (bs (s.drop a'))) m = some (.ret (.tup [.int .i64 (one (s.drop a')).1, .int .i64 (one (s.drop a')).2]), m) := by
          have := one_s s[a'] (s.drop (a' + 1)) m (by rw [← hd, hlen]; omega)
          rw [← hd] at this; exact this
        have hpl : (piece (s.drop a')).2 ≤ s.length - a' := by rw [← hlen]; exact piece_le (by intro h; rw [hd] at h; cases h)
        have hpp := piece_pos (s.drop a')
        have k4 : ∀ x, k_lex_Lex_4 (.str (bs s)) v (.int .i64 a') x (.int .i64 (piece (s.drop a')).1) (.int .i64 (piece (s.drop a')).2) m = 
            memK (rAppend A_api_Token 0 m v (.sl .full [.agg [.int .i64 (piece (s.drop a')).1, .int .i64 a', .int .i64 ((a' + (piece (s.drop a')).2 : Nat) : Int)]])) fun v56 m1 => l_lex_Lex_0 (.str (bs s)) v56 (.int .i64 ((a' + (piece (s.drop a')).2 : Nat) : Int)) m1 := by
          intro x
          rw [k_lex_Lex_4_eq]
          simp only [aBin_add, bnd_some]
          rw [wrap64 (by omega) (by omega)]
          simp only [build3i, tok1, bnd_some]
          rfl
        have fin : ∃ v' m', (memK (rAppend A_api_Token 0 m v (.sl .full [.agg [.int .i64 (piece (s.drop a')).1, .int .i64 a', .int .i64 ((a' + (piece (s.drop a')).2 : Nat) : Int)]])) fun v56 m1 => l_lex_Lex_0 (.str (bs s)) v56 (.int .i64 ((a' + (piece (s.drop a')).2 : Nat) : Int)) m1) = some (.ret v', m') ∧
            App b 3 m' v' (toks (acc ++ ⟨(piece (s.drop a')).1, a', a' + (piece (s.drop a')).2⟩ :: lex ((s.drop a').drop (piece (s.drop a')).2) (a' + (piece (s.drop a')).2))) ∧ Keeps b m m' := by
          obtain ⟨v1, m1, h1, h2, h3⟩ := tok_app hv hb (by omega) ⟨(piece (s.drop a')).1, a', a' + (piece (s.drop a')).2⟩
          rw [h1, memK_some]
          obtain ⟨v', m', h4, h5, h6⟩ := ih (a' + (piece (s.drop a')).2) b v1 _ m1 (by omega) (by omega) h2 (Nat.le_trans hb h3.next) (by simp; omega)
          refine ⟨v', m', h4, ?_, h3.trans h6⟩
          rw [List.drop_drop]; simpa using h5
        simp only [ho, decide_false, onBool_false, k_lex_Lex_2_eq, hone, retK_ret, aExtract_tup, List.getElem?_cons_zero, List.getElem?_cons_succ, bnd_some, aBin_eql, Bool.false_eq_true, if_false]
        by_cases h0 : (one (s.drop a')).1 = 0
        · have hz : decide ((((one (s.drop a')).1 : Nat) : Int) = 0) = true := decide_eq_true (by omega)
          have hp : piece (s.drop a') = (7, 1 + noth (s.drop a').tail) := by unfold piece; rw [if_pos h0]
          have hn : w_lex_nothing (.str (bs (s.drop a'))) m = some (.ret (.int .i64 (piece (s.drop a')).2), m) := by
            rw [e_lex_nothing, hp]
            have := nothing_s (s.drop a') m (by rw [hlen]; omega) _ 1 rfl (by rw [hlen]; omega)
            rw [← List.drop_one]; exact this
          have h7 : (.int .i64 7 : AV) = .int .i64 (piece (s.drop a')).1 := by rw [hp]; rfl
          simp only [hz, onBool_true, hn, retK_ret]
          rw [h7, k4]; exact fin
        · have hz : decide ((((one (s.drop a')).1 : Nat) : Int) = 0) = false := decide_eq_false (by omega)
          have hp : piece (s.drop a') = one (s.drop a') := by unfold piece; rw [if_neg h0]
          simp only [hz, onBool_false]
          rw [← hp, k4]; exact fin

theorem lex_s (s : List UInt8) (hs : s.length ≤ 1000000000) (m : Mem) :
    ∃ v m', w_lex_Lex (.str (bs s)) m = some (.ret v, m') ∧ App m.next 3 m' v (toks (lex s 0)) ∧ Kept m m' := by
  obtain ⟨v, m', h1, h2, h3⟩ := lexLoop s hs (s.length + 1) 0 m.next .nils [] m (by omega) (Nat.zero_le _) .nil (Nat.le_refl _) (Nat.le_refl _)
  exact ⟨v, m', by rw [e_lex_Lex]; exact h1, by simpa using h2, h3⟩

end Go.AM
