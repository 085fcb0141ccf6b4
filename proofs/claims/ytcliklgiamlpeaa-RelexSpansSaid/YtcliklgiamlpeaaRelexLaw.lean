/-
  Reading again what an edit may have changed: laws of the plain lexer.
-/
import Derived.Test.YtcliklgiamlpeaaLexLaw2
namespace Go.AM.Lx

/-! ### a token is decided by its bytes and one or two more -/
theorem run_local {p : UInt8 → Bool} : ∀ {l1 l2 : List UInt8}, run p l1 < l1.length → l1.take (run p l1 + 1) = l2.take (run p l1 + 1) → run p l2 = run p l1
  | [], l2, h, _ => by simp at h
  | c :: l1, [], h, he => by simp at he
  | c :: l1, d :: l2, h, he => by
    by_cases hc : p c = true
    · have e1 : ∀ (x : UInt8) (y : List UInt8), p x = true → run p (x :: y) = run p y + 1 := fun x y hx => by simp [run, hx]
      rw [e1 c l1 hc] at h he ⊢
      simp only [List.take_succ_cons, List.cons.injEq] at he
      obtain ⟨rfl, he⟩ := he
      simp only [List.length_cons] at h
      rw [e1 c l2 hc, run_local (by omega) he]
    · have e0 : run p (c :: l1) = 0 := by simp [run, hc]
      rw [e0] at he ⊢
      simp at he
      subst he
      simp [run, hc]

theorem pre_take {w l : List UInt8} {j : Nat} (h : w.length ≤ j) : w <+: l.take j ↔ w <+: l := by
  constructor
  · exact fun hp => hp.trans (List.take_prefix j l)
  · intro hp
    rw [List.prefix_iff_eq_take] at hp ⊢
    rw [List.take_take, Nat.min_eq_left h]; exact hp
theorem firstSign_two {l1 l2 : List UInt8} {j : Nat} (hj : 2 ≤ j) (h : l1.take j = l2.take j) : ∀ ws : List (List UInt8), (∀ w ∈ ws, w.length ≤ 2) → firstSign l1 ws = firstSign l2 ws
  | [], _ => rfl
  | w :: ws, hw => by
    have hl := hw w (by simp)
    simp only [firstSign, firstSign_two hj h ws (fun w h => hw w (by simp [h]))]
    have : (w <+: l1) = (w <+: l2) := by
      rw [← pre_take (l := l1) (j := j) (by omega), h, pre_take (by omega)]
    simp only [this]
theorem signs_two : ∀ w ∈ signs, w.length ≤ 2 := by decide
theorem headSmall_local {r1 r2 : List UInt8} {j : Nat} (hj : 1 ≤ j) (h : r1.take j = r2.take j) : headSmall r1 = headSmall r2 := by
  match j, hj with
  | j + 1, _ =>
    match r1, r2, h with
    | [], [], _ => rfl
    | [], d :: r2, h => simp at h
    | c :: r1, [], h => simp at h
    | c :: r1, d :: r2, h => simp at h; simp [headSmall, h.1]
theorem opens_local {l1 l2 : List UInt8} {j : Nat} (hj : 2 ≤ j) (h : l1.take j = l2.take j) : opens l1 = opens l2 := by
  unfold opens
  rw [Bool.eq_iff_iff, List.isPrefixOf_iff_prefix, List.isPrefixOf_iff_prefix, ← pre_take (l := l1) (j := j) (by simpa using hj), h, pre_take (by simpa using hj)]

/-- does a token begin here? two bytes tell -/
theorem one_zero_local : ∀ {l1 l2 : List UInt8}, l1.take 2 = l2.take 2 → ((one l1).1 = 0 ↔ (one l2).1 = 0)
  | [], [], _ => Iff.rfl
  | [], d :: l2, h => by simp at h
  | c :: l1, [], h => by simp at h
  | c :: r1, d :: r2, h => by
    have hf := firstSign_two (Nat.le_refl 2) h signs signs_two
    simp only [List.take_succ_cons, List.cons.injEq] at h
    obtain ⟨rfl, h⟩ := h
    rw [one_cons, one_cons, headSmall_local (Nat.le_refl 1) h, hf]
    have hn : ∀ w, named w ≠ 0 := by
      intro w; unfold named; split; decide; split; decide; split; split <;> decide; decide
    by_cases h1 : (c == 95 || smallB c || greatB c) = true
    · rw [if_pos h1, if_pos h1]; exact iff_of_false (hn _) (hn _)
    · rw [if_neg h1, if_neg h1]
      by_cases h2 : digitB c = true
      · rw [if_pos h2, if_pos h2]
      · rw [if_neg h2, if_neg h2]
        by_cases h3 : (c == 39 && headSmall r2) = true
        · rw [if_pos h3, if_pos h3]
        · rw [if_neg h3, if_neg h3]

theorem take_of_take {l1 l2 : List UInt8} {p q : Nat} (h : l1.take p = l2.take p) (hq : q ≤ p) : l1.take q = l2.take q := by
  have := congrArg (List.take q) h
  rwa [List.take_take, List.take_take, Nat.min_eq_left hq] at this
theorem drop_of_take {l1 l2 : List UInt8} {p n : Nat} (h : l1.take p = l2.take p) : (l1.drop n).take (p - n) = (l2.drop n).take (p - n) := by
  rw [← List.drop_take, ← List.drop_take, h]

theorem one_local : ∀ {l1 l2 : List UInt8}, (one l1).1 ≠ 0 → (one l1).2 + 2 ≤ l1.length → l1.take ((one l1).2 + 2) = l2.take ((one l1).2 + 2) → one l2 = one l1
  | [], _, h, _, _ => by simp [one] at h
  | c :: r1, [], _, _, he => by simp at he
  | c :: r1, d :: r2, h, hl, he => by
    have hpos := one_pos _ h
    have h2b := take_of_take he (show 2 ≤ (one (c :: r1)).2 + 2 by omega)
    have hf := firstSign_two (Nat.le_refl 2) h2b signs signs_two
    rw [show (one (c :: r1)).2 + 2 = ((one (c :: r1)).2 + 1) + 1 from rfl, List.take_succ_cons, List.take_succ_cons, List.cons.injEq] at he
    obtain ⟨rfl, he⟩ := he
    have hh := headSmall_local (show 1 ≤ (one (c :: r1)).2 + 1 by omega) he
    simp only [List.length_cons] at hl
    rw [one_cons c r2, ← hf, ← hh]
    rw [one_cons c r1] at hl he ⊢
    by_cases h1 : (c == 95 || smallB c || greatB c) = true
    · rw [if_pos h1] at hl he
      simp only [] at hl he
      have hr := run_local (p := wordB) (l1 := r1) (l2 := r2) (by omega) (take_of_take he (by omega))
      rw [if_pos h1, if_pos h1, hr, take_of_take he (show run wordB r1 ≤ _ by omega)]
    · rw [if_neg h1] at hl he ⊢
      rw [if_neg h1]
      by_cases h2 : digitB c = true
      · rw [if_pos h2] at hl he ⊢
        simp only [] at hl he
        have hr := run_local (p := digitB) (l1 := r1) (l2 := r2) (by omega) (take_of_take he (by omega))
        rw [if_pos h2, hr]
      · rw [if_neg h2] at hl he ⊢
        rw [if_neg h2]
        by_cases h3 : (c == 39 && headSmall r1) = true
        · rw [if_pos h3] at hl he ⊢
          simp only [] at hl he
          have hr := run_local (p := tickB) (l1 := r1) (l2 := r2) (by omega) (take_of_take he (by omega))
          rw [if_pos h3, hr]
        · rw [if_neg h3, if_neg h3]

theorem noth_local : ∀ {r1 r2 : List UInt8}, noth r1 + 2 ≤ r1.length → r1.take (noth r1 + 2) = r2.take (noth r1 + 2) → noth r2 = noth r1
  | [], _, h, _ => by simp at h
  | c :: r1, [], _, he => by simp at he
  | c :: r1, d :: r2, h, he => by
    have h2b := take_of_take he (show 2 ≤ noth (c :: r1) + 2 by omega)
    have hz := one_zero_local h2b
    rw [show noth (c :: r1) + 2 = (noth (c :: r1) + 1) + 1 from rfl, List.take_succ_cons, List.take_succ_cons, List.cons.injEq] at he
    obtain ⟨rfl, he⟩ := he
    simp only [noth] at h he ⊢
    by_cases hs : (one (c :: r1)).1 ≠ 0 ∨ whiteB c = true
    · rw [if_pos hs, if_pos (by rwa [ne_eq, ← hz])]
    · rw [if_neg hs] at h he ⊢
      rw [if_neg (by rwa [ne_eq, ← hz])]
      simp only [List.length_cons] at h
      rw [noth_local (by omega) (take_of_take he (by omega))]

theorem piece_local {l1 l2 : List UInt8} (h : (piece l1).2 + 2 ≤ l1.length) (he : l1.take ((piece l1).2 + 2) = l2.take ((piece l1).2 + 2)) : piece l2 = piece l1 := by
  match l1, l2, h, he with
  | [], _, h, _ => simp at h
  | c :: r1, [], _, he => simp at he
  | c :: r1, d :: r2, h, he =>
    have h2b := take_of_take he (show 2 ≤ _ + 2 by omega)
    have hz := one_zero_local h2b
    unfold piece at h he ⊢
    by_cases h0 : (one (c :: r1)).1 = 0
    · rw [if_pos h0] at h he ⊢
      rw [if_pos (hz.1 h0)]
      simp only [List.tail_cons, List.length_cons] at h he ⊢
      rw [show 1 + noth r1 + 2 = (noth r1 + 2) + 1 by omega, List.take_succ_cons, List.take_succ_cons, List.cons.injEq] at he
      rw [noth_local (by omega) he.2]
    · rw [if_neg h0] at h he ⊢
      rw [if_neg (fun e => h0 (hz.2 e)), one_local h0 h he]

theorem rem_less : ∀ (n : Nat) (l : List UInt8) (d : Int) (k : Nat), l.length ≤ n → rem l d = some k → rem (l.take k) d = some k
  | _, [], d, k, _, h => by simp [rem] at h
  | 0, c :: l, d, k, hn, h => by simp at hn
  | n + 1, c :: l, d, k, hn, h => by
    simp only [List.length_cons] at hn
    by_cases h1 : [40, 42] <+: c :: l
    · obtain ⟨r, e⟩ := h1
      rw [← e] at h ⊢
      simp only [List.cons_append, List.nil_append] at e h ⊢
      have hr : r.length + 2 = l.length + 1 := by have := congrArg List.length e; simp at this; omega
      rw [rem_open, Option.map_eq_some_iff] at h
      obtain ⟨j, hj, rfl⟩ := h
      rw [List.take_succ_cons, List.take_succ_cons, rem_open, rem_less n r _ j (by omega) hj]; rfl
    · by_cases h2 : [42, 41] <+: c :: l
      · obtain ⟨r, e⟩ := h2
        rw [← e] at h ⊢
        simp only [List.cons_append, List.nil_append] at e h ⊢
        have hr : r.length + 2 = l.length + 1 := by have := congrArg List.length e; simp at this; omega
        rw [rem_close] at h
        split at h
        · rename_i h0; cases h
          show rem [42, 41] d = some 2
          rw [rem_close, if_pos h0]
        · rename_i h0
          rw [Option.map_eq_some_iff] at h
          obtain ⟨j, hj, rfl⟩ := h
          rw [List.take_succ_cons, List.take_succ_cons, rem_close, if_neg h0, rem_less n r _ j (by omega) hj]; rfl
      · rw [rem_other h1 h2, Option.map_eq_some_iff] at h
        obtain ⟨j, hj, rfl⟩ := h
        have h1' : ¬ [40, 42] <+: c :: l.take j := fun hp => h1 (by
          have e : c :: l.take j = (c :: l).take (j + 1) := rfl
          rw [e] at hp; exact hp.trans (List.take_prefix _ _))
        have h2' : ¬ [42, 41] <+: c :: l.take j := fun hp => h2 (by
          have e : c :: l.take j = (c :: l).take (j + 1) := rfl
          rw [e] at hp; exact hp.trans (List.take_prefix _ _))
        rw [List.take_succ_cons, rem_other h1' h2', rem_less n l _ j (by omega) hj]; rfl
theorem rem_local {l1 l2 : List UInt8} {d : Int} {k : Nat} (h : rem l1 d = some k) (he : l1.take k = l2.take k) : rem l2 d = some k := by
  have h1 := rem_less _ l1 d k (Nat.le_refl _) h
  rw [he] at h1
  have := rem_more (l2.drop k) _ _ d k (Nat.le_refl _) h1
  rwa [List.take_append_drop] at this

/-! ### the tokens ahead of an edit -/
/-- where the last one ends -/
def endOf : List Tok → Nat → Nat
  | [], a => a
  | t :: ts, _ => endOf ts t.t
theorem lex_keep : ∀ (n : Nat) (l1 l2 : List UInt8) (a p : Nat), l1.length ≤ n → p ≤ l1.length → l1.take p = l2.take p → ∀ K R, lex l1 a = K ++ R → (∀ t ∈ K, t.t + 2 ≤ a + p) → lex l2 a = K ++ lex (l2.drop (endOf K a - a)) (endOf K a)
  | n, l1, l2, a, p, hn, hp, he, [], R, hl, hk => by simp [endOf]
  | _, [], l2, a, p, hn, hp, he, t :: K, R, hl, hk => by simp [lex_nil] at hl
  | 0, c :: r, l2, a, p, hn, hp, he, t :: K, R, hl, hk => by simp at hn
  | n + 1, c :: r, l2, a, p, hn, hp, he, t :: K, R, hl, hk => by
    have ht := hk t (by simp)
    have hb := lex_bounds _ (c :: r) a (Nat.le_refl _) t (by rw [hl]; simp)
    have hKb : ∀ x ∈ t :: K, a ≤ x.f := fun x hx => (lex_bounds _ (c :: r) a (Nat.le_refl _) x (by rw [hl]; exact List.mem_append_left _ hx)).1
    simp only [List.length_cons] at hn hp
    have h2b := take_of_take he (show 2 ≤ p by omega)
    match l2, he with
    | [], he =>
      exfalso
      match p, (show 2 ≤ p by omega) with
      | p + 1, _ => simp at he
    | d :: r2, he =>
      have hcd : c = d := by
        match p, (show 2 ≤ p by omega), he with
        | p + 1, _, he => simp at he; exact he.1
      subst hcd
      rw [lex_cons] at hl
      rw [lex_cons c r2]
      have hend : ∀ (a' : Nat), endOf (t :: K) a' = endOf (t :: K) a := fun _ => rfl
      have hendge : a ≤ endOf (t :: K) a := by
        have : ∀ (L : List Tok) (b : Nat), (∀ x ∈ L, a ≤ x.t) → a ≤ b → a ≤ endOf L b := by
          intro L; induction L with
          | nil => intro b _ h; exact h
          | cons x L ih => intro b h _; exact ih _ (fun y hy => h y (by simp [hy])) (h x (by simp))
        refine this _ _ (fun x hx => ?_) (Nat.le_refl _)
        have := lex_bounds _ (c :: r) a (Nat.le_refl _) x (by rw [lex_cons, hl]; exact List.mem_append_left _ hx)
        omega
      -- the rest is read in the same way, from a place further on
      have go : ∀ (k : Nat), 0 < k → a + k ≤ t.t → (k ≤ p) → lex ((c :: r).drop k) (a + k) = t :: K ++ R → lex ((c :: r2).drop k) (a + k) = t :: K ++ lex ((c :: r2).drop (endOf (t :: K) a - a)) (endOf (t :: K) a) := by
        intro k hk0 hkt hkp hlk
        have hKt : a + k ≤ endOf (t :: K) a := by
          have : ∀ (L : List Tok) (b : Nat), (∀ x ∈ L, a + k ≤ x.t) → a + k ≤ b → a + k ≤ endOf L b := by
            intro L; induction L with
            | nil => intro b _ h; exact h
            | cons x L ih => intro b h _; exact ih _ (fun y hy => h y (by simp [hy])) (h x (by simp))
          refine this K t.t (fun x hx => ?_) hkt
          have := lex_bounds _ ((c :: r).drop k) (a + k) (Nat.le_refl _) x (by rw [hlk]; exact List.mem_append_left _ (by simp [hx]))
          omega
        have := lex_keep n ((c :: r).drop k) ((c :: r2).drop k) (a + k) (p - k) (by simp; omega) (by simp; omega) (drop_of_take he) (t :: K) R hlk (fun x hx => by have := hk x hx; omega)
        rw [this, List.drop_drop, hend (a + k), show k + (endOf (t :: K) a - (a + k)) = endOf (t :: K) a - a by omega]
      by_cases hw : whiteB c = true
      · rw [if_pos hw] at hl ⊢
        exact go 1 (by omega) (by
          have := lex_bounds _ r (a + 1) (Nat.le_refl _) t (by rw [hl]; simp)
          omega) (by omega) hl
      · rw [if_neg hw] at hl ⊢
        rw [← opens_local (Nat.le_refl 2) h2b]
        by_cases ho : opens (c :: r) = true
        · rw [if_pos ho] at hl ⊢
          cases hr : rem (c :: r) 0 with
          | none =>
            rw [hr] at hl
            simp only [List.cons_append, List.cons.injEq] at hl
            exfalso
            have := hl.1
            rw [← this] at ht
            simp at ht
            omega
          | some k =>
            rw [hr] at hl
            simp only [] at hl
            have hk2 := rem_le _ _ _ k (Nat.le_refl _) hr
            have hb1 := lex_bounds _ ((c :: r).drop k) (a + k) (Nat.le_refl _) t (by rw [hl]; simp)
            rw [rem_local hr (take_of_take he (show k ≤ p by omega))]
            exact go k (by omega) (by omega) (by omega) hl
        · rw [if_neg ho] at hl ⊢
          simp only [List.cons_append, List.cons.injEq] at hl
          obtain ⟨ht0, hl⟩ := hl
          have hpl := piece_pos (c :: r)
          rw [← ht0] at ht
          simp only [] at ht
          have hpe := piece_local (l1 := c :: r) (l2 := c :: r2) (by simp only [List.length_cons]; omega) (take_of_take he (by omega))
          rw [hpe, List.cons_append, ht0]
          congr 1
          have htt : t.t = a + (piece (c :: r)).2 := by rw [← ht0]
          have := lex_keep n ((c :: r).drop (piece (c :: r)).2) ((c :: r2).drop (piece (c :: r)).2) (a + (piece (c :: r)).2) (p - (piece (c :: r)).2) (by simp; omega) (by simp; omega) (drop_of_take he) K R hl (fun x hx => by have := hk x (by simp [hx]); omega)
          rw [this, List.drop_drop]
          have e1 : endOf (t :: K) a = endOf K (a + (piece (c :: r)).2) := by show endOf K t.t = _; rw [htt]
          have e2 : a + (piece (c :: r)).2 ≤ endOf K (a + (piece (c :: r)).2) := by
            have : ∀ (L : List Tok) (b : Nat), (∀ x ∈ L, a + (piece (c :: r)).2 ≤ x.t) → a + (piece (c :: r)).2 ≤ b → a + (piece (c :: r)).2 ≤ endOf L b := by
              intro L; induction L with
              | nil => intro b _ h; exact h
              | cons x L ih => intro b h _; exact ih _ (fun y hy => h y (by simp [hy])) (h x (by simp))
            refine this K _ (fun x hx => ?_) (Nat.le_refl _)
            have := lex_bounds _ ((c :: r).drop (piece (c :: r)).2) (a + (piece (c :: r)).2) (Nat.le_refl _) x (by rw [hl]; exact List.mem_append_left _ hx)
            omega
          rw [e1]
          congr 3
          omega

/-- behind a token all is as its beginning says -/
theorem lex_from : ∀ (n : Nat) (l : List UInt8) (a : Nat), l.length ≤ n → ∀ A t B, lex l a = A ++ t :: B → t :: B = lex (l.drop (t.f - a)) t.f
  | _, [], a, hn, A, t, B, h => by simp [lex_nil] at h
  | 0, c :: r, a, hn, A, t, B, h => by simp at hn
  | n + 1, c :: r, a, hn, A, t, B, h => by
    simp only [List.length_cons] at hn
    have hb := lex_bounds _ (c :: r) a (Nat.le_refl _) t (by rw [h]; simp)
    have h0 := h
    rw [lex_cons] at h
    have go : ∀ k, 0 < k → a + k ≤ t.f → lex ((c :: r).drop k) (a + k) = A ++ t :: B → t :: B = lex ((c :: r).drop (t.f - a)) t.f := by
      intro k hk hf hl
      rw [lex_from n _ _ (by simp; omega) A t B hl, List.drop_drop]
      congr 2; omega
    by_cases hw : whiteB c = true
    · rw [if_pos hw] at h
      exact go 1 (by omega) (lex_bounds _ r (a + 1) (Nat.le_refl _) t (by rw [h]; simp)).1 h
    · rw [if_neg hw] at h
      by_cases ho : opens (c :: r) = true
      · rw [if_pos ho] at h
        cases hr : rem (c :: r) 0 with
        | none =>
          rw [hr] at h
          match A, h with
          | [], h =>
            simp only [List.nil_append] at h
            have hf : t.f = a := by injection h with h1 h2; rw [← h1]
            rw [hf, Nat.sub_self, List.drop_zero, h0]; rfl
          | x :: A, h => simp at h
        | some k =>
          rw [hr] at h
          have hk2 := rem_le _ _ _ k (Nat.le_refl _) hr
          exact go k (by omega) (lex_bounds _ _ _ (Nat.le_refl _) t (by simp only [] at h; rw [h]; simp)).1 h
      · rw [if_neg ho] at h
        have hp := piece_pos (c :: r)
        match A, h with
        | [], h =>
          simp only [List.nil_append] at h
          have hf : t.f = a := by injection h with h1 h2; rw [← h1]
          rw [hf, Nat.sub_self, List.drop_zero, h0]; rfl
        | x :: A, h =>
          simp only [List.cons_append, List.cons.injEq] at h
          have hb1 := lex_bounds _ _ _ (Nat.le_refl _) t (by rw [h.2]; simp)
          rw [lex_from n _ _ (by simp; omega) A t B h.2, List.drop_drop]
          congr 2; omega

end Go.AM.Lx
