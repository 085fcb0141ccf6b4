/-
  Words stand for themselves: laws of the lexer in plain Lean.
-/
import Derived.Test.YtcliklgiamlpeaaLexLaw
namespace Go.AM.Lx

theorem run_take (p : UInt8 → Bool) (l : List UInt8) : run p (l.take (run p l)) = run p l := by
  unfold run
  have : l.take (l.takeWhile p).length = l.takeWhile p := by
    have h := List.prefix_iff_eq_take.1 (List.takeWhile_prefix (l := l) p)
    exact h.symm
  rw [this]
  congr 1
  induction l with
  | nil => rfl
  | cons c l ih =>
    simp only [List.takeWhile_cons]
    split
    · rename_i h
      rw [List.takeWhile_cons, if_pos h]
      congr 1
      exact ih (List.prefix_iff_eq_take.1 (List.takeWhile_prefix (l := l) p)).symm
    · rfl
theorem firstSign_take (l : List UInt8) : ∀ (ws : List (List UInt8)) (n : Nat), firstSign l ws = (6, n) → firstSign (l.take n) ws = (6, n)
  | [], n, h => by simp [firstSign] at h
  | w :: ws, n, h => by
    simp only [firstSign] at h ⊢
    by_cases hw : w <+: l
    · rw [if_pos hw] at h
      injection h with _ h; subst h
      rw [if_pos]
      rw [List.prefix_iff_eq_take] at hw
      rw [← hw]; exact ⟨[], by simp⟩
    · rw [if_neg hw] at h
      rw [if_neg (fun hp => hw (hp.trans (List.take_prefix n l))), firstSign_take l ws n h]
theorem one_take : ∀ (l : List UInt8), (one l).1 ≠ 0 → one (l.take (one l).2) = one l
  | [], h => by simp [one] at h
  | c :: r, h => by
    rw [one_cons] at h
    rw [one_cons c r]
    by_cases h1 : (c == 95 || smallB c || greatB c) = true
    · rw [if_pos h1]
      have e : (c :: r).take (1 + run wordB r) = c :: r.take (run wordB r) := by rw [Nat.add_comm]; rfl
      simp only []
      rw [e, one_cons, if_pos h1, run_take, List.take_take, Nat.min_self]
    · rw [if_neg h1] at h ⊢
      by_cases h2 : digitB c = true
      · rw [if_pos h2]
        have e : (c :: r).take (1 + run digitB r) = c :: r.take (run digitB r) := by rw [Nat.add_comm]; rfl
        simp only []
        rw [e, one_cons, if_neg h1, if_pos h2, run_take]
      · rw [if_neg h2] at h ⊢
        by_cases h3 : (c == 39 && headSmall r) = true
        · rw [if_pos h3]
          have e : (c :: r).take (1 + run tickB r) = c :: r.take (run tickB r) := by rw [Nat.add_comm]; rfl
          simp only []
          have h4 : headSmall (r.take (run tickB r)) = headSmall r := by
            simp only [Bool.and_eq_true] at h3
            match r, h3.2 with
            | d :: r', hd =>
              have ht : tickB d = true := by unfold tickB; unfold headSmall at hd; simp [hd]
              have : run tickB (d :: r') = run tickB r' + 1 := by simp [run, ht]
              rw [this]; rfl
          rw [e, one_cons, if_neg h1, if_neg h2, h4, if_pos h3, run_take]
        · rw [if_neg h3] at h ⊢
          rcases firstSign_cases (c :: r) signs with ⟨h', _⟩ | ⟨w, hw, hp, h'⟩
          · rw [h'] at h; exact absurd rfl h
          · have := firstSign_take (c :: r) signs w.length h'
            rw [h']
            have hwl := (signs_len w hw).1
            match hn : w.length, hwl with
            | n + 1, _ =>
              rw [hn] at this
              simp only [List.take_succ_cons] at this ⊢
              rw [one_cons, if_neg h1, if_neg h2, if_neg, this]
              intro h5
              apply h3
              simp only [Bool.and_eq_true] at h5 ⊢
              refine ⟨h5.1, ?_⟩
              match n, r, h5.2 with
              | n + 1, d :: r', h6 => exact h6

def headWhite : List UInt8 → Bool
  | c :: _ => whiteB c
  | [] => true
structure Good (k : Nat) (w : List UInt8) : Prop where
  white : headWhite w = false
  opens : opens w = false
  one : one w = (k, w.length)
  kind : k ≠ 0
theorem Good.ne {k : Nat} {w : List UInt8} (h : Good k w) : w ≠ [] := by intro e; subst e; have := h.white; simp [headWhite] at this

theorem lex_good (s : List UInt8) : ∀ (n : Nat) (l : List UInt8) (a : Nat), l.length ≤ n → s.drop a = l → ∀ t ∈ lex l a, t.k ≠ 7 → Good t.k ((s.take t.t).drop t.f)
  | _, [], a, _, _ => by simp [lex_nil]
  | 0, c :: r, a, h, _ => by simp at h
  | n + 1, c :: r, a, h, hs => by
    simp only [List.length_cons] at h
    have hs1 : ∀ k, s.drop (a + k) = (c :: r).drop k := fun k => by rw [← List.drop_drop, hs]
    rw [lex_cons]
    split
    · exact lex_good s n r (a + 1) (by omega) (by rw [hs1 1]; rfl)
    · rename_i hw
      split
      · split
        · intro t ht hk
          simp at ht; subst ht; exact absurd rfl hk
        · rename_i k hk
          have hk2 := rem_le _ _ _ k (Nat.le_refl _) hk
          exact lex_good s n _ _ (by simp; omega) (hs1 k)
      · rename_i ho
        have hp := piece_pos (c :: r)
        intro t ht hk
        rcases List.mem_cons.1 ht with rfl | ht
        · simp only [] at hk
          have hpe : piece (c :: r) = one (c :: r) ∧ (one (c :: r)).1 ≠ 0 := by
            unfold piece at hk ⊢
            split
            · rename_i h0; rw [if_pos h0] at hk; exact absurd rfl hk
            · rename_i h0; exact ⟨rfl, h0⟩
          have hle := one_le (c :: r)
          have e : (s.take (a + (piece (c :: r)).2)).drop a = (c :: r).take (one (c :: r)).2 := by
            rw [hpe.1, List.drop_take, hs, Nat.add_sub_cancel_left]
          have h1 := one_take (c :: r) hpe.2
          simp only []
          rw [e]
          have hpos := one_pos (c :: r) hpe.2
          match hn : (one (c :: r)).2, hpos with
          | j + 1, _ =>
            rw [hn] at h1 hle
            refine ⟨by simpa [headWhite] using hw, ?_, ?_, by rw [hpe.1]; exact hpe.2⟩
            · cases hb : opens ((c :: r).take (j + 1)) with
              | false => rfl
              | true =>
                exfalso; apply ho
                unfold opens at hb ⊢
                rw [List.isPrefixOf_iff_prefix] at hb ⊢
                exact hb.trans (List.take_prefix _ _)
            · rw [h1, hpe.1, List.length_take, Nat.min_eq_left hle]
              exact Prod.ext rfl hn
        · exact lex_good s n _ _ (by simp; omega) (hs1 _) t ht hk

theorem good_lex {k : Nat} {w : List UInt8} (h : Good k w) (y : List UInt8) (a : Nat) : lex (w ++ 32 :: y) a = ⟨k, a, a + w.length⟩ :: lex y (a + w.length + 1) := by
  match w, h with
  | c :: r, h =>
    have hw := h.white
    have hp : piece (c :: r) = (k, (c :: r).length) := by
      unfold piece
      rw [h.one, if_neg h.kind]
    have e : c :: r ++ 32 :: y = c :: (r ++ 32 :: y) := rfl
    rw [e, lex_cons, ← e, opens_blank, h.opens, piece_blank, hp]
    simp only [headWhite] at hw
    rw [hw]
    simp only [Bool.false_eq_true, if_false]
    congr 1
    rw [List.drop_append_of_le_length (Nat.le_refl _), List.drop_length, List.nil_append, lex_cons, if_pos (by rfl)]

def joinW : List (Nat × List UInt8) → List UInt8
  | [] => []
  | (_, w) :: ws => w ++ 32 :: joinW ws
def placed : List (Nat × List UInt8) → Nat → List Tok
  | [], _ => []
  | (k, w) :: ws, a => ⟨k, a, a + w.length⟩ :: placed ws (a + w.length + 1)
theorem lex_join : ∀ (ws : List (Nat × List UInt8)) (a : Nat), (∀ p ∈ ws, Good p.1 p.2) → lex (joinW ws) a = placed ws a
  | [], a, _ => lex_nil a
  | (k, w) :: ws, a, h => by
    show lex (w ++ 32 :: joinW ws) a = _
    rw [good_lex (h (k, w) (by simp)), lex_join ws _ (fun p hp => h p (by simp [hp]))]
    rfl
theorem placed_words : ∀ (ws : List (Nat × List UInt8)) (pre : List UInt8), (placed ws pre.length).map (fun t => (t.k, ((pre ++ joinW ws).take t.t).drop t.f)) = ws
  | [], pre => rfl
  | (k, w) :: ws, pre => by
    have h := placed_words ws (pre ++ w ++ [32])
    have e : pre ++ w ++ [32] ++ joinW ws = pre ++ joinW ((k, w) :: ws) := by simp [joinW]
    have l : (pre ++ w ++ [32]).length = pre.length + w.length + 1 := by simp; omega
    rw [e, l] at h
    simp only [placed, List.map_cons]
    rw [h]
    congr 2
    have : pre ++ joinW ((k, w) :: ws) = pre ++ w ++ 32 :: joinW ws := by simp [joinW]
    rw [this, List.take_append_of_le_length (by simp), List.take_of_length_le (by simp), List.drop_left']
    rfl
theorem joinW_append (a b : List (Nat × List UInt8)) : joinW (a ++ b) = joinW a ++ joinW b := by
  induction a with
  | nil => rfl
  | cons p a ih => obtain ⟨k, w⟩ := p; simp [joinW, ih]

/-- a token's kind and word -/
def kw (s : List UInt8) (t : Tok) : Nat × List UInt8 := (t.k, (s.take t.t).drop t.f)
theorem again (s : List UInt8) (h : ∀ t ∈ lex s 0, t.k ≠ 7) : (lex (joinW ((lex s 0).map (kw s))) 0).map (kw (joinW ((lex s 0).map (kw s)))) = (lex s 0).map (kw s) := by
  have hg : ∀ p ∈ (lex s 0).map (kw s), Good p.1 p.2 := by
    intro p hp
    obtain ⟨t, ht, rfl⟩ := List.mem_map.1 hp
    exact lex_good s _ s 0 (Nat.le_refl _) rfl t ht (h t ht)
  rw [lex_join _ 0 hg]
  exact placed_words ((lex s 0).map (kw s)) []

end Go.AM.Lx
