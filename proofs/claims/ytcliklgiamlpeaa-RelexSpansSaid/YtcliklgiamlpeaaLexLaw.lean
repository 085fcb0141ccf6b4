/-
  Laws of the lexer in plain Lean.
-/
import Derived.Test.YtcliklgiamlpeaaLexSpec
namespace Go.AM.Lx

def Tok.sh (d : Nat) (t : Tok) : Tok := ⟨t.k, t.f + d, t.t + d⟩

theorem lex_shift (d : Nat) : ∀ (n : Nat) (l : List UInt8) (a : Nat), l.length ≤ n → lex l (a + d) = (lex l a).map (Tok.sh d)
  | _, [], a, _ => by simp [lex_nil]
  | 0, c :: r, a, h => by simp at h
  | n + 1, c :: r, a, h => by
    simp only [List.length_cons] at h
    rw [lex_cons, lex_cons c r a]
    split
    · rw [show a + d + 1 = a + 1 + d by omega]; exact lex_shift d n r (a + 1) (by omega)
    · split
      · split
        · simp [Tok.sh]; omega
        · rename_i k hk
          have hk2 := rem_le _ _ _ k (Nat.le_refl _) hk
          rw [show a + d + k = a + k + d by omega]
          exact lex_shift d n _ _ (by simp; omega)
      · have hp := piece_pos (c :: r)
        rw [show a + d + (piece (c :: r)).2 = a + (piece (c :: r)).2 + d by omega, lex_shift d n _ _ (by simp; omega)]
        simp [Tok.sh]

theorem lex_bounds : ∀ (n : Nat) (l : List UInt8) (a : Nat), l.length ≤ n → ∀ t ∈ lex l a, a ≤ t.f ∧ t.f < t.t ∧ t.t ≤ a + l.length
  | _, [], a, _ => by simp [lex_nil]
  | 0, c :: r, a, h => by simp at h
  | n + 1, c :: r, a, h => by
    simp only [List.length_cons] at h
    rw [lex_cons]
    split
    · intro t ht
      have := lex_bounds n r (a + 1) (by omega) t ht
      simp; omega
    · split
      · split
        · intro t ht
          simp at ht; subst ht; simp
        · rename_i k hk
          have hk2 := rem_le _ _ _ k (Nat.le_refl _) hk
          intro t ht
          have := lex_bounds n _ _ (by simp; omega) t ht
          simp at this hk2 ⊢; omega
      · have hp := piece_pos (c :: r)
        have hp2 := piece_le (l := c :: r) (by simp)
        intro t ht
        rcases List.mem_cons.1 ht with rfl | ht
        · simp at hp2 ⊢; omega
        · have := lex_bounds n _ _ (by simp; omega) t ht
          simp at this hp2 ⊢; omega

/-- the white and the remark of LexMoved -/
def ww : List UInt8 := [10, 32, 40, 42, 32, 108, 101, 116, 32, 41, 32, 42, 41, 32]
def wn : Nat → List UInt8
  | 0 => []
  | n + 1 => wn n ++ ww
theorem wn_succ (n : Nat) : wn (n + 1) = ww ++ wn n := by
  induction n with
  | zero => rfl
  | succ n ih =>
    have : wn (n + 2) = wn (n + 1) ++ ww := rfl
    rw [this, ih, List.append_assoc, ← ih]; rfl
theorem wn_length (n : Nat) : (wn n).length = 14 * n := by
  induction n with
  | zero => rfl
  | succ n ih =>
    have : (wn n ++ ww).length = (wn n).length + 14 := by rw [List.length_append]; rfl
    show (wn n ++ ww).length = _
    omega
theorem lex_ww (l : List UInt8) (a : Nat) : lex (ww ++ l) a = lex l (a + 14) := by
  have e1 : ww ++ l = 10 :: 32 :: 40 :: 42 :: 32 :: 108 :: 101 :: 116 :: 32 :: 41 :: 32 :: 42 :: 41 :: 32 :: l := rfl
  have hr : rem (40 :: 42 :: 32 :: 108 :: 101 :: 116 :: 32 :: 41 :: 32 :: 42 :: 41 :: 32 :: l) 0 = some 11 := by
    simp [rem]
  rw [e1, lex_cons, if_pos (by rfl), lex_cons, if_pos (by rfl), lex_cons, if_neg (by decide), if_pos (by rfl), hr]
  show lex (32 :: l) (a + 1 + 1 + 11) = _
  rw [lex_cons, if_pos (by rfl)]
theorem lex_wn (l : List UInt8) : ∀ (n a : Nat), lex (wn n ++ l) a = lex l (a + 14 * n)
  | 0, a => rfl
  | n + 1, a => by
    rw [wn_succ, List.append_assoc, lex_ww, lex_wn l n]
    congr 1; omega

/-! ### a blank behind -/
theorem run_blank {p : UInt8 → Bool} (hp : p 32 = false) (y : List UInt8) : ∀ l : List UInt8, run p (l ++ 32 :: y) = run p l
  | [] => by simp [run, hp]
  | c :: l => by
    have := run_blank hp y l
    unfold run at this ⊢
    simp only [List.cons_append, List.takeWhile_cons]
    split
    · simp [this]
    · rfl
theorem pre_blank (y : List UInt8) : ∀ {w l : List UInt8}, 32 ∉ w → (w <+: l ++ 32 :: y ↔ w <+: l)
  | [], l, _ => by simp
  | x :: w, [], h => by
    simp only [List.mem_cons, not_or] at h
    constructor
    · rintro ⟨z, hz⟩
      simp at hz
      exact absurd hz.1.symm h.1
    · rintro ⟨z, hz⟩; simp at hz
  | x :: w, c :: l, h => by
    simp only [List.mem_cons, not_or] at h
    rw [List.cons_append, List.cons_prefix_cons, List.cons_prefix_cons, pre_blank y h.2]
theorem signs_blank : ∀ w ∈ signs, (32 : UInt8) ∉ w := by decide
theorem firstSign_blank (l y : List UInt8) : ∀ ws : List (List UInt8), (∀ w ∈ ws, (32 : UInt8) ∉ w) → firstSign (l ++ 32 :: y) ws = firstSign l ws
  | [], _ => rfl
  | w :: ws, h => by
    simp only [firstSign, pre_blank y (h w (by simp)), firstSign_blank l y ws (fun w hw => h w (by simp [hw]))]
theorem one_blank (y : List UInt8) (c : UInt8) (r : List UInt8) : one (c :: r ++ 32 :: y) = one (c :: r) := by
  have e : c :: r ++ 32 :: y = c :: (r ++ 32 :: y) := rfl
  have h1 := run_blank (p := wordB) (by rfl) y r
  have h2 := run_blank (p := digitB) (by rfl) y r
  have h3 := run_blank (p := tickB) (by rfl) y r
  have h4 : headSmall (r ++ 32 :: y) = headSmall r := by cases r <;> rfl
  have h5 := firstSign_blank (c :: r) y signs signs_blank
  rw [e, one_cons, one_cons, h1, h2, h3, h4, ← e, h5]
  have h6 : (r ++ 32 :: y).take (run wordB r) = r.take (run wordB r) := List.take_append_of_le_length (run_le _ _)
  rw [h6]
theorem noth_blank (y : List UInt8) : ∀ r : List UInt8, noth (r ++ 32 :: y) = noth r
  | [] => by simp [noth, whiteB]
  | c :: r => by
    have e : c :: r ++ 32 :: y = c :: (r ++ 32 :: y) := rfl
    rw [e]
    simp only [noth]
    rw [← e, one_blank, noth_blank y r]
theorem piece_blank (y : List UInt8) (c : UInt8) (r : List UInt8) : piece (c :: r ++ 32 :: y) = piece (c :: r) := by
  unfold piece
  rw [one_blank]
  have : (c :: r ++ 32 :: y).tail = r ++ 32 :: y := rfl
  rw [this, noth_blank]; rfl
theorem opens_blank (l y : List UInt8) : opens (l ++ 32 :: y) = opens l := by
  unfold opens
  rw [Bool.eq_iff_iff, List.isPrefixOf_iff_prefix, List.isPrefixOf_iff_prefix, pre_blank y (by decide)]
theorem rem_more (x : List UInt8) : ∀ (n : Nat) (l : List UInt8) (d : Int) (k : Nat), l.length ≤ n → rem l d = some k → rem (l ++ x) d = some k
  | _, [], d, k, _, h => by simp [rem] at h
  | 0, c :: l, d, k, hn, h => by simp at hn
  | n + 1, c :: l, d, k, hn, h => by
    simp only [List.length_cons] at hn
    by_cases h1 : [40, 42] <+: c :: l
    · obtain ⟨r, e⟩ := h1
      rw [← e] at h ⊢
      simp only [List.cons_append, List.nil_append] at e h ⊢
      have hr : r.length + 2 = l.length + 1 := by have := congrArg List.length e; simp at this; omega
      rw [rem_open, Option.map_eq_some_iff] at h ⊢
      obtain ⟨j, hj, rfl⟩ := h
      exact ⟨j, rem_more x n r _ j (by omega) hj, rfl⟩
    · by_cases h2 : [42, 41] <+: c :: l
      · obtain ⟨r, e⟩ := h2
        rw [← e] at h ⊢
        simp only [List.cons_append, List.nil_append] at e h ⊢
        have hr : r.length + 2 = l.length + 1 := by have := congrArg List.length e; simp at this; omega
        rw [rem_close] at h ⊢
        split at h
        · rename_i h0; rw [if_pos h0]; exact h
        · rename_i h0
          rw [if_neg h0]
          rw [Option.map_eq_some_iff] at h ⊢
          obtain ⟨j, hj, rfl⟩ := h
          exact ⟨j, rem_more x n r _ j (by omega) hj, rfl⟩
      · rw [rem_other h1 h2, Option.map_eq_some_iff] at h
        obtain ⟨j, hj, rfl⟩ := h
        have hl : l ≠ [] := by intro e; subst e; simp [rem] at hj
        have h1' : ¬ [40, 42] <+: c :: (l ++ x) := by
          intro hp; apply h1
          match l, hl with
          | b :: l, _ => simpa using hp
        have h2' : ¬ [42, 41] <+: c :: (l ++ x) := by
          intro hp; apply h2
          match l, hl with
          | b :: l, _ => simpa using hp
        rw [List.cons_append, rem_other h1' h2', rem_more x n l _ j (by omega) hj]; rfl

theorem lex_blank (y : List UInt8) : ∀ (n : Nat) (l : List UInt8) (a : Nat), l.length ≤ n → (∀ t, (lex l a).getLast? = some t → t.k ≠ 7) → lex (l ++ 32 :: y) a = lex l a ++ lex (32 :: y) (a + l.length)
  | _, [], a, _, _ => by simp [lex_nil]
  | 0, c :: r, a, h, _ => by simp at h
  | n + 1, c :: r, a, h, ht => by
    simp only [List.length_cons] at h
    have e : c :: r ++ 32 :: y = c :: (r ++ 32 :: y) := rfl
    rw [e, lex_cons, lex_cons c r a, ← e]
    rw [lex_cons c r a] at ht
    by_cases hw : whiteB c = true
    · rw [if_pos hw] at ht ⊢
      rw [if_pos hw, lex_blank y n r (a + 1) (by omega) ht]
      congr 2; simp; omega
    · rw [if_neg hw] at ht ⊢
      rw [if_neg hw, opens_blank]
      by_cases ho : opens (c :: r) = true
      · rw [if_pos ho] at ht ⊢
        rw [if_pos ho]
        cases hr : rem (c :: r) 0 with
        | none =>
          rw [hr] at ht
          exact absurd rfl (ht ⟨7, a, a + (c :: r).length⟩ rfl)
        | some k =>
          rw [hr] at ht
          rw [rem_more (32 :: y) _ _ _ k (Nat.le_refl _) hr]
          have hk2 := rem_le _ _ _ k (Nat.le_refl _) hr
          simp only [] at ht ⊢
          rw [List.drop_append_of_le_length hk2.1, lex_blank y n _ (a + k) (by simp at hk2 ⊢; omega) ht]
          congr 2; simp at hk2 ⊢; omega
      · rw [if_neg ho] at ht ⊢
        rw [if_neg ho, piece_blank]
        have hp := piece_pos (c :: r)
        have hp2 := piece_le (l := c :: r) (by simp)
        rw [List.drop_append_of_le_length hp2, lex_blank y n _ _ (by simp at hp2 ⊢; omega)]
        · rw [List.cons_append]; congr 3; simp at hp2 ⊢; omega
        · intro t h1
          refine ht t ?_
          rw [List.getLast?_cons, h1]; rfl
theorem lex_blank_wn (n a : Nat) : lex (32 :: wn n) a = [] := by
  rw [lex_cons, if_pos (by rfl)]
  have := lex_wn [] n (a + 1)
  simpa [lex_nil] using this

end Go.AM.Lx
