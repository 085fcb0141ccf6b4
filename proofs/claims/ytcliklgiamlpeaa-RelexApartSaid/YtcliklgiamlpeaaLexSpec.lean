/-
  The lexer in plain Lean: over lists of bytes.
-/
namespace Go.AM.Lx

def smallB (c : UInt8) : Bool := decide (97 ≤ c.toNat ∧ c.toNat ≤ 122)
def greatB (c : UInt8) : Bool := decide (65 ≤ c.toNat ∧ c.toNat ≤ 90)
def digitB (c : UInt8) : Bool := decide (48 ≤ c.toNat ∧ c.toNat ≤ 57)
def tickB (c : UInt8) : Bool := smallB c || greatB c || digitB c || c == 95
def wordB (c : UInt8) : Bool := tickB c || c == 39
def whiteB (c : UInt8) : Bool := c == 32 || c == 9 || c == 10 || c == 13

def whites : List UInt8 := [32, 9, 10, 13]
def smalls : List UInt8 := [97, 98, 99, 100, 101, 102, 103, 104, 105, 106, 107, 108, 109, 110, 111, 112, 113, 114, 115, 116, 117, 118, 119, 120, 121, 122]
def greats : List UInt8 := [65, 66, 67, 68, 69, 70, 71, 72, 73, 74, 75, 76, 77, 78, 79, 80, 81, 82, 83, 84, 85, 86, 87, 88, 89, 90]
def digits : List UInt8 := [48, 49, 50, 51, 52, 53, 54, 55, 56, 57]

def keys : List (List UInt8) := [[108, 101, 116], [114, 101, 99], [105, 110], [102, 117, 110], [105, 102], [116, 104, 101, 110], [101, 108, 115, 101], [109, 97, 116, 99, 104], [119, 105, 116, 104], [116, 121, 112, 101], [111, 102], [116, 114, 117, 101], [102, 97, 108, 115, 101]]
def signs : List (List UInt8) := [[45, 62], [58, 58], [59, 59], [40], [41], [44], [124], [61], [60], [43], [45], [42], [95]]

def named (w : List UInt8) : Nat := if w = [95] then 6 else if w ∈ keys then 5 else match w with
  | c :: _ => if greatB c then 2 else 1
  | [] => 1

/-- a remark: how many bytes it has, at depth d -/
def rem : List UInt8 → Int → Option Nat
  | 40 :: 42 :: r, d => (rem r (d + 1)).map (· + 2)
  | 42 :: 41 :: r, d => if d - 1 = 0 then some 2 else (rem r (d - 1)).map (· + 2)
  | _ :: r, d => (rem r d).map (· + 1)
  | [], _ => none

def firstSign (l : List UInt8) : List (List UInt8) → Nat × Nat
  | [] => (0, 0)
  | w :: ws => if w <+: l then (6, w.length) else firstSign l ws

def run (p : UInt8 → Bool) (l : List UInt8) : Nat := (l.takeWhile p).length

def headSmall : List UInt8 → Bool
  | d :: _ => smallB d
  | [] => false
def one : List UInt8 → Nat × Nat
  | [] => (0, 0)
  | c :: r => if c == 95 || smallB c || greatB c then (named (c :: r.take (run wordB r)), 1 + run wordB r)
    else if digitB c then (3, 1 + run digitB r)
    else if c == 39 && headSmall r then (4, 1 + run tickB r)
    else firstSign (c :: r) signs

/-- how many bytes are nothing, behind the first -/
def noth : List UInt8 → Nat
  | [] => 0
  | c :: r => if (one (c :: r)).1 ≠ 0 ∨ whiteB c = true then 0 else 1 + noth r

structure Tok where
  k : Nat
  f : Nat
  t : Nat
  deriving DecidableEq, Inhabited

def opens (l : List UInt8) : Bool := [40, 42].isPrefixOf l

/-- one token at the beginning (there is a byte): kind, length -/
def piece (l : List UInt8) : Nat × Nat := if (one l).1 = 0 then (7, 1 + noth l.tail) else one l

/-- a text's tokens, from a place on; n: fuel -/
def lexN : Nat → List UInt8 → Nat → List Tok
  | 0, _, _ => []
  | _ + 1, [], _ => []
  | n + 1, c :: r, at_ => if whiteB c then lexN n r (at_ + 1) else
    if opens (c :: r) then match rem (c :: r) 0 with
      | none => [⟨7, at_, at_ + (c :: r).length⟩]
      | some k => lexN n ((c :: r).drop k) (at_ + k)
    else ⟨(piece (c :: r)).1, at_, at_ + (piece (c :: r)).2⟩ :: lexN n ((c :: r).drop (piece (c :: r)).2) (at_ + (piece (c :: r)).2)
def lex (l : List UInt8) (at_ : Nat) : List Tok := lexN l.length l at_

theorem bytes_all {p : UInt8 → Prop} (h : ∀ n : Fin 256, p (UInt8.ofNat n.val)) (c : UInt8) : p c := by
  have := h ⟨c.toNat, c.toNat_lt⟩
  simpa using this
theorem mem_smalls (c : UInt8) : c ∈ smalls ↔ smallB c = true := bytes_all (p := fun c => c ∈ smalls ↔ smallB c = true) (by decide +kernel) c
theorem mem_greats (c : UInt8) : c ∈ greats ↔ greatB c = true := bytes_all (p := fun c => c ∈ greats ↔ greatB c = true) (by decide +kernel) c
theorem mem_digits (c : UInt8) : c ∈ digits ↔ digitB c = true := bytes_all (p := fun c => c ∈ digits ↔ digitB c = true) (by decide +kernel) c
theorem mem_whites (c : UInt8) : c ∈ whites ↔ whiteB c = true := by simp [whites, whiteB, or_assoc]
theorem mem_tick (c : UInt8) : c ∈ smalls ++ greats ++ digits ++ [95] ↔ tickB c = true := by
  simp only [List.mem_append, mem_smalls, mem_greats, mem_digits, tickB, Bool.or_eq_true, beq_iff_eq, List.mem_singleton]
theorem mem_word (c : UInt8) : c ∈ smalls ++ greats ++ digits ++ [95] ++ [39] ↔ wordB c = true := by
  rw [List.mem_append, mem_tick]; simp [wordB]

theorem firstSign_cases (l : List UInt8) : ∀ ws : List (List UInt8), (firstSign l ws = (0, 0) ∧ ∀ w ∈ ws, ¬ w <+: l) ∨ ∃ w ∈ ws, w <+: l ∧ firstSign l ws = (6, w.length)
  | [] => .inl ⟨rfl, by simp⟩
  | w :: ws => by
    simp only [firstSign]
    split
    · rename_i h; exact .inr ⟨w, by simp, h, rfl⟩
    · rename_i h
      rcases firstSign_cases l ws with ⟨h1, h2⟩ | ⟨w', h1, h2, h3⟩
      · refine .inl ⟨h1, fun x hx => ?_⟩
        rcases List.mem_cons.1 hx with rfl | hx
        · exact h
        · exact h2 x hx
      · exact .inr ⟨w', by simp [h1], h2, h3⟩
theorem signs_len : ∀ w ∈ signs, 0 < w.length ∧ w.length ≤ 2 := by decide
theorem run_le (p : UInt8 → Bool) (l : List UInt8) : run p l ≤ l.length := (List.takeWhile_sublist p).length_le
theorem one_cons (c : UInt8) (r : List UInt8) : one (c :: r) = if c == 95 || smallB c || greatB c then (named (c :: r.take (run wordB r)), 1 + run wordB r)
    else if digitB c then (3, 1 + run digitB r)
    else if c == 39 && headSmall r then (4, 1 + run tickB r)
    else firstSign (c :: r) signs := rfl
theorem one_le : ∀ l : List UInt8, (one l).2 ≤ l.length
  | [] => by simp [one]
  | c :: r => by
    rw [one_cons]
    have h1 := run_le wordB r
    have h2 := run_le digitB r
    have h3 := run_le tickB r
    split
    · simp; omega
    · split
      · simp; omega
      · split
        · simp; omega
        · rcases firstSign_cases (c :: r) signs with ⟨h, _⟩ | ⟨w, hw, hp, h⟩
          · rw [h]; simp
          · rw [h]; exact hp.length_le
theorem one_pos : ∀ (l : List UInt8), (one l).1 ≠ 0 → 0 < (one l).2
  | [], h => by simp [one] at h
  | c :: r, h => by
    rw [one_cons] at h ⊢
    split
    · simp; omega
    · rename_i h0
      rw [if_neg h0] at h
      split
      · simp; omega
      · rename_i h1
        rw [if_neg h1] at h
        split
        · simp; omega
        · rename_i h2
          rw [if_neg h2] at h
          rcases firstSign_cases (c :: r) signs with ⟨h', _⟩ | ⟨w, hw, hp, h'⟩
          · rw [h'] at h; exact absurd rfl h
          · rw [h']; exact (signs_len w hw).1
theorem noth_le : ∀ l : List UInt8, noth l ≤ l.length
  | [] => by simp [noth]
  | c :: r => by
    have := noth_le r
    simp only [noth]
    split
    · simp
    · simp; omega
theorem piece_le {l : List UInt8} (h : l ≠ []) : (piece l).2 ≤ l.length := by
  unfold piece
  split
  · have := noth_le l.tail
    match l, h with
    | c :: r, _ => simp at this ⊢; omega
  · exact one_le l
theorem piece_pos (l : List UInt8) : 0 < (piece l).2 := by
  unfold piece
  split
  · simp; omega
  · rename_i h; exact one_pos l h
theorem rem_open (r : List UInt8) (d : Int) : rem (40 :: 42 :: r) d = (rem r (d + 1)).map (· + 2) := by rw [rem]
theorem rem_close (r : List UInt8) (d : Int) : rem (42 :: 41 :: r) d = if d - 1 = 0 then some 2 else (rem r (d - 1)).map (· + 2) := by rw [rem]
theorem rem_other {c : UInt8} {r : List UInt8} (h1 : ¬ [40, 42] <+: c :: r) (h2 : ¬ [42, 41] <+: c :: r) (d : Int) : rem (c :: r) d = (rem r d).map (· + 1) := by
  rw [rem]
  · intro r' e1 e2; subst e1; subst e2; exact h1 ⟨r', rfl⟩
  · intro r' e1 e2; subst e1; subst e2; exact h2 ⟨r', rfl⟩
theorem rem_le : ∀ (n : Nat) (l : List UInt8) (d : Int) (k : Nat), l.length ≤ n → rem l d = some k → k ≤ l.length ∧ 2 ≤ k
  | _, [], d, k, _, h => by simp [rem] at h
  | 0, c :: l, d, k, hn, h => by simp at hn
  | n + 1, c :: l, d, k, hn, h => by
    simp only [List.length_cons] at hn ⊢
    by_cases h1 : [40, 42] <+: c :: l
    · obtain ⟨r, e⟩ := h1
      simp only [List.cons_append, List.nil_append] at e
      injection e with e1 e2; subst e1; subst e2
      rw [rem_open, Option.map_eq_some_iff] at h
      obtain ⟨x, hx, rfl⟩ := h
      simp only [List.length_cons] at hn ⊢
      have := rem_le n r _ x (by omega) hx
      omega
    · by_cases h2 : [42, 41] <+: c :: l
      · obtain ⟨r, e⟩ := h2
        simp only [List.cons_append, List.nil_append] at e
        injection e with e1 e2; subst e1; subst e2
        rw [rem_close] at h
        simp only [List.length_cons] at hn ⊢
        split at h
        · cases h; omega
        · rw [Option.map_eq_some_iff] at h
          obtain ⟨x, hx, rfl⟩ := h
          have := rem_le n r _ x (by omega) hx
          omega
      · rw [rem_other h1 h2, Option.map_eq_some_iff] at h
        obtain ⟨x, hx, rfl⟩ := h
        have := rem_le n l _ x (by omega) hx
        omega
/-- one round -/
theorem lexN_fuel : ∀ (n m : Nat) (l : List UInt8) (a : Nat), l.length ≤ n → l.length ≤ m → lexN n l a = lexN m l a
  | 0, m, [], a, _, _ => by cases m <;> rfl
  | n + 1, 0, [], a, _, _ => rfl
  | n + 1, m + 1, [], a, _, _ => rfl
  | 0, m, c :: r, a, h, _ => by simp at h
  | n + 1, 0, c :: r, a, _, h => by simp at h
  | n + 1, m + 1, c :: r, a, h, h' => by
    simp only [List.length_cons] at h h'
    simp only [lexN]
    split
    · exact lexN_fuel n m r _ (by omega) (by omega)
    · split
      · split
        · rfl
        · rename_i k hk
          have := rem_le _ _ _ k (Nat.le_refl _) hk
          exact lexN_fuel n m _ _ (by simp; omega) (by simp; omega)
      · have := piece_pos (c :: r)
        rw [lexN_fuel n m _ _ (by simp; omega) (by simp; omega)]
theorem lex_nil (a : Nat) : lex [] a = [] := rfl
theorem lex_cons (c : UInt8) (r : List UInt8) (a : Nat) : lex (c :: r) a = if whiteB c then lex r (a + 1) else
    if opens (c :: r) then match rem (c :: r) 0 with
      | none => [⟨7, a, a + (c :: r).length⟩]
      | some k => lex ((c :: r).drop k) (a + k)
    else ⟨(piece (c :: r)).1, a, a + (piece (c :: r)).2⟩ :: lex ((c :: r).drop (piece (c :: r)).2) (a + (piece (c :: r)).2) := by
  unfold lex
  simp only [List.length_cons, lexN]
  split
  · rfl
  · split
    · split
      · rfl
      · rename_i k hk
        have := rem_le _ _ _ k (Nat.le_refl _) hk
        exact lexN_fuel _ _ _ _ (by simp; omega) (by simp)
    · have := piece_pos (c :: r)
      rw [lexN_fuel r.length _ _ _ (by simp; omega) (Nat.le_refl _)]

theorem lex_white : ∀ (l : List UInt8) (a : Nat), lex l a = lex (l.drop (run whiteB l)) (a + run whiteB l)
  | [], a => by simp [run, lex_nil]
  | c :: r, a => by
    by_cases h : whiteB c = true
    · have e : run whiteB (c :: r) = run whiteB r + 1 := by simp [run, h]
      rw [lex_cons, if_pos h, e, lex_white r (a + 1), List.drop_succ_cons]
      congr 1; omega
    · have e : run whiteB (c :: r) = 0 := by simp [run, h]
      rw [e]; simp
theorem run_white_head {l : List UInt8} {c : UInt8} {r : List UInt8} (h : l.drop (run whiteB l) = c :: r) : whiteB c = false := by
  have e : l.drop (run whiteB l) = l.dropWhile whiteB := by
    unfold run
    induction l with
    | nil => rfl
    | cons x xs ih =>
      by_cases hx : whiteB x = true
      · simp only [List.takeWhile_cons, List.dropWhile_cons, hx, if_true, List.length_cons, List.drop_succ_cons]
        exact ih (by simpa [run, hx] using h)
      · simp [hx]
  rw [e] at h
  have := List.head?_dropWhile_not whiteB l
  rw [h] at this
  simpa using this
theorem lex_length : ∀ (n : Nat) (l : List UInt8) (a : Nat), l.length ≤ n → (lex l a).length ≤ l.length
  | _, [], a, _ => by simp [lex_nil]
  | 0, c :: r, a, h => by simp at h
  | n + 1, c :: r, a, h => by
    simp only [List.length_cons] at h
    rw [lex_cons]
    split
    · have := lex_length n r (a + 1) (by omega)
      simp; omega
    · split
      · split
        · simp
        · rename_i k hk
          have hk2 := rem_le _ _ _ k (Nat.le_refl _) hk
          have := lex_length n ((c :: r).drop k) (a + k) (by simp; omega)
          simp at this ⊢; omega
      · have hp := piece_pos (c :: r)
        have := lex_length n ((c :: r).drop (piece (c :: r)).2) (a + (piece (c :: r)).2) (by simp; omega)
        simp at this ⊢; omega
end Go.AM.Lx
