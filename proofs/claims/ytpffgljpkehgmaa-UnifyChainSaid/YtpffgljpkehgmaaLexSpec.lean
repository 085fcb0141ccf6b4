/-
  The lexer in plain Lean: over lists of bytes.
-/
import Derived.Test.YtpffgljpkehgmaaAMS
import Derived.Test.YtpffgljpkehgmaaGCtx
import Derived.Test.YtpffgljpkehgmaaGE2
import Derived.Test.YtpffgljpkehgmaaGE4
import Derived.Test.YtpffgljpkehgmaaGE6
import Derived.Test.YtpffgljpkehgmaaGE7
import Derived.Test.YtpffgljpkehgmaaGE8
import Derived.Test.YtpffgljpkehgmaaGE10
import Derived.Test.YtpffgljpkehgmaaGE12
set_option linter.unusedVariables false
set_option linter.unusedSimpArgs false
namespace Go.AM.Lx
def smallB (c : UInt8) : Bool := decide (97 ≤ c.toNat ∧ c.toNat ≤ 122)
def greatB (c : UInt8) : Bool := decide (65 ≤ c.toNat ∧ c.toNat ≤ 90)
def digitB (c : UInt8) : Bool := decide (48 ≤ c.toNat ∧ c.toNat ≤ 57)
def tickB (c : UInt8) : Bool := smallB c || greatB c || digitB c || c == 95
def wordB (c : UInt8) : Bool := tickB c || c == 39
def whiteB (c : UInt8) : Bool := c == 32 || c == 9 || c == 10 || c == 13
def smalls : List UInt8 := [97, 98, 99, 100, 101, 102, 103, 104, 105, 106, 107, 108, 109, 110, 111, 112, 113, 114, 115, 116, 117, 118, 119, 120, 121, 122]
def greats : List UInt8 := [65, 66, 67, 68, 69, 70, 71, 72, 73, 74, 75, 76, 77, 78, 79, 80, 81, 82, 83, 84, 85, 86, 87, 88, 89, 90]
def digits : List UInt8 := [48, 49, 50, 51, 52, 53, 54, 55, 56, 57]
def keys : List (List UInt8) := [[108, 101, 116], [114, 101, 99], [105, 110], [102, 117, 110], [105, 102], [116, 104, 101, 110], [101, 108, 115, 101], [109, 97, 116, 99, 104], [119, 105, 116, 104], [116, 121, 112, 101], [111, 102], [116, 114, 117, 101], [102, 97, 108, 115, 101]]
def signs : List (List UInt8) := [[45, 62], [58, 58], [59, 59], [40], [41], [44], [124], [61], [60], [43], [45], [42], [95]]
def named (w : List UInt8) : Nat := if w = [95] then 6 else if w ∈ keys then 5 else match w with
  | c :: _ => if greatB c then 2 else 1
  | [] => 1
/-- a remark: how many bytes it has, at depth d -/
def rem : List UInt8 → Int → Option Nat
  | 40 :: 42 :: r, d => (rem r (d + 1)).map (· + 2)
  | 42 :: 41 :: r, d => if d - 1 = 0 then some 2 else (rem r (d - 1)).map (· + 2)
  | _ :: r, d => (rem r d).map (· + 1)
  | [], _ => none
def firstSign (l : List UInt8) : List (List UInt8) → Nat × Nat
  | [] => (0, 0)
  | w :: ws => if w <+: l then (6, w.length) else firstSign l ws
def run (p : UInt8 → Bool) (l : List UInt8) : Nat := (l.takeWhile p).length
def headSmall : List UInt8 → Bool
  | d :: _ => smallB d
  | [] => false
def one : List UInt8 → Nat × Nat
  | [] => (0, 0)
  | c :: r => if c == 95 || smallB c || greatB c then (named (c :: r.take (run wordB r)), 1 + run wordB r)
    else if digitB c then (3, 1 + run digitB r)
    else if c == 39 && headSmall r then (4, 1 + run tickB r)
    else firstSign (c :: r) signs
/-- how many bytes are nothing, behind the first -/
def noth : List UInt8 → Nat
  | [] => 0
  | c :: r => if (one (c :: r)).1 ≠ 0 ∨ whiteB c = true then 0 else 1 + noth r
structure Tok where
  k : Nat
  f : Nat
  t : Nat
  deriving DecidableEq, Inhabited
def opens (l : List UInt8) : Bool := [40, 42].isPrefixOf l
/-- one token at the beginning (there is a byte): kind, length -/
def piece (l : List UInt8) : Nat × Nat := if (one l).1 = 0 then (7, 1 + noth l.tail) else one l
/-- a text's tokens, from a place on; n: fuel -/
def lexN : Nat → List UInt8 → Nat → List Tok
  | 0, _, _ => []
  | _ + 1, [], _ => []
  | n + 1, c :: r, at_ => if whiteB c then lexN n r (at_ + 1) else
    if opens (c :: r) then match rem (c :: r) 0 with
      | none => [⟨7, at_, at_ + (c :: r).length⟩]
      | some k => lexN n ((c :: r).drop k) (at_ + k)
    else ⟨(piece (c :: r)).1, at_, at_ + (piece (c :: r)).2⟩ :: lexN n ((c :: r).drop (piece (c :: r)).2) (at_ + (piece (c :: r)).2)
def lex (l : List UInt8) (at_ : Nat) : List Tok := lexN l.length l at_
theorem bytes_all {p : UInt8 → Prop} (h : ∀ n : Fin 256, p (UInt8.ofNat n.val)) (c : UInt8) : p c := by
  have := h ⟨c.toNat, c.toNat_lt⟩
  simpa using this
theorem mem_smalls (c : UInt8) : c ∈ smalls ↔ smallB c = true := bytes_all (p := fun c => c ∈ smalls ↔ smallB c = true) (by decide +kernel) c
theorem mem_greats (c : UInt8) : c ∈ greats ↔ greatB c = true := bytes_all (p := fun c => c ∈ greats ↔ greatB c = true) (by decide +kernel) c
theorem mem_digits (c : UInt8) : c ∈ digits ↔ digitB c = true := bytes_all (p := fun c => c ∈ digits ↔ digitB c = true) (by decide +kernel) c
theorem mem_tick (c : UInt8) : c ∈ smalls ++ greats ++ digits ++ [95] ↔ tickB c = true := by
  simp only [List.mem_append, mem_smalls, mem_greats, mem_digits, tickB, Bool.or_eq_true, beq_iff_eq, List.mem_singleton]
theorem mem_word (c : UInt8) : c ∈ smalls ++ greats ++ digits ++ [95] ++ [39] ↔ wordB c = true := by
  rw [List.mem_append, mem_tick]; simp [wordB]
theorem firstSign_cases (l : List UInt8) : ∀ ws : List (List UInt8), (firstSign l ws = (0, 0) ∧ ∀ w ∈ ws, ¬ w <+: l) ∨ ∃ w ∈ ws, w <+: l ∧ firstSign l ws = (6, w.length)
  | [] => .inl ⟨rfl, by simp⟩
  | w :: ws => by
    simp only [firstSign]
    split
    · rename_i h; exact .inr ⟨w, by simp, h, rfl⟩
    · rename_i h
      rcases firstSign_cases l ws with ⟨h1, h2⟩ | ⟨w', h1, h2, h3⟩
      · refine .inl ⟨h1, fun x hx => ?_⟩
        rcases List.mem_cons.1 hx with rfl | hx
        · exact h
        · exact h2 x hx
      · exact .inr ⟨w', by simp [h1], h2, h3⟩
theorem signs_len : ∀ w ∈ signs, 0 < w.length ∧ w.length ≤ 2 := by decide
theorem run_le (p : UInt8 → Bool) (l : List UInt8) : run p l ≤ l.length := (List.takeWhile_sublist p).length_le
theorem one_cons (c : UInt8) (r : List UInt8) : one (c :: r) = if c == 95 || smallB c || greatB c then (named (c :: r.take (run wordB r)), 1 + run wordB r)
    else if digitB c then (3, 1 + run digitB r)
    else if c == 39 && headSmall r then (4, 1 + run tickB r)
    else firstSign (c :: r) signs := rfl
theorem one_le : ∀ l : List UInt8, (one l).2 ≤ l.length
  | [] => by simp [one]
  | c :: r => by
    rw [one_cons]
    have h1 := run_le wordB r
    have h2 := run_le digitB r
    have h3 := run_le tickB r
    split
    · simp; omega
    · split
      · simp; omega
      · split
        · simp; omega
        · rcases firstSign_cases (c :: r) signs with ⟨h, _⟩ | ⟨w, hw, hp, h⟩
          · rw [h]; simp
          · rw [h]; exact hp.length_le
theorem one_pos : ∀ (l : List UInt8), (one l).1 ≠ 0 → 0 < (one l).2
  | [], h => by simp [one] at h
  | c :: r, h => by
    rw [one_cons] at h ⊢
    split
    · simp; omega
    · rename_i h0
      rw [if_neg h0] at h
      split
      · simp; omega
      · rename_i h1
        rw [if_neg h1] at h
        split
        · simp; omega
        · rename_i h2
          rw [if_neg h2] at h
          rcases firstSign_cases (c :: r) signs with ⟨h', _⟩ | ⟨w, hw, hp, h'⟩
          · rw [h'] at h; exact absurd rfl h
          · rw [h']; exact (signs_len w hw).1
theorem noth_le : ∀ l : List UInt8, noth l ≤ l.length
  | [] => by simp [noth]
  | c :: r => by
    have := noth_le r
    simp only [noth]
    split
    · simp
    · simp; omega
theorem piece_le {l : List UInt8} (h : l ≠ []) : (piece l).2 ≤ l.length := by
  unfold piece
  split
  · have := noth_le l.tail
    match l, h with
    | c :: r, _ => simp at this ⊢; omega
  · exact one_le l
theorem piece_pos (l : List UInt8) : 0 < (piece l).2 := by
  unfold piece
  split
  · simp; omega
  · rename_i h; exact one_pos l h
theorem rem_open (r : List UInt8) (d : Int) : rem (40 :: 42 :: r) d = (rem r (d + 1)).map (· + 2) := by rw [rem]
theorem rem_close (r : List UInt8) (d : Int) : rem (42 :: 41 :: r) d = if d - 1 = 0 then some 2 else (rem r (d - 1)).map (· + 2) := by rw [rem]
theorem rem_other {c : UInt8} {r : List UInt8} (h1 : ¬ [40, 42] <+: c :: r) (h2 : ¬ [42, 41] <+: c :: r) (d : Int) : rem (c :: r) d = (rem r d).map (· + 1) := by
  rw [rem]
  · intro r' e1 e2; subst e1; subst e2; exact h1 ⟨r', rfl⟩
  · intro r' e1 e2; subst e1; subst e2; exact h2 ⟨r', rfl⟩
theorem rem_le : ∀ (n : Nat) (l : List UInt8) (d : Int) (k : Nat), l.length ≤ n → rem l d = some k → k ≤ l.length ∧ 2 ≤ k
  | _, [], d, k, _, h => by simp [rem] at h
  | 0, c :: l, d, k, hn, h => by simp at hn
  | n + 1, c :: l, d, k, hn, h => by
    simp only [List.length_cons] at hn ⊢
    by_cases h1 : [40, 42] <+: c :: l
    · obtain ⟨r, e⟩ := h1
      simp only [List.cons_append, List.nil_append] at e
      injection e with e1 e2; subst e1; subst e2
      rw [rem_open, Option.map_eq_some_iff] at h
      obtain ⟨x, hx, rfl⟩ := h
      simp only [List.length_cons] at hn ⊢
      have := rem_le n r _ x (by omega) hx
      omega
    · by_cases h2 : [42, 41] <+: c :: l
      · obtain ⟨r, e⟩ := h2
        simp only [List.cons_append, List.nil_append] at e
        injection e with e1 e2; subst e1; subst e2
        rw [rem_close] at h
        simp only [List.length_cons] at hn ⊢
        split at h
        · cases h; omega
        · rw [Option.map_eq_some_iff] at h
          obtain ⟨x, hx, rfl⟩ := h
          have := rem_le n r _ x (by omega) hx
          omega
      · rw [rem_other h1 h2, Option.map_eq_some_iff] at h
        obtain ⟨x, hx, rfl⟩ := h
        have := rem_le n l _ x (by omega) hx
        omega
/-- one round -/
theorem lexN_fuel : ∀ (n m : Nat) (l : List UInt8) (a : Nat), l.length ≤ n → l.length ≤ m → lexN n l a = lexN m l a
  | 0, m, [], a, _, _ => by cases m <;> rfl
  | n + 1, 0, [], a, _, _ => rfl
  | n + 1, m + 1, [], a, _, _ => rfl
  | 0, m, c :: r, a, h, _ => by simp at h
  | n + 1, 0, c :: r, a, _, h => by simp at h
  | n + 1, m + 1, c :: r, a, h, h' => by
    simp only [List.length_cons] at h h'
    simp only [lexN]
    split
    · exact lexN_fuel n m r _ (by omega) (by omega)
    · split
      · split
        · rfl
        · rename_i k hk
          have := rem_le _ _ _ k (Nat.le_refl _) hk
          exact lexN_fuel n m _ _ (by simp; omega) (by simp; omega)
      · have := piece_pos (c :: r)
        rw [lexN_fuel n m _ _ (by simp; omega) (by simp; omega)]
theorem lex_nil (a : Nat) : lex [] a = [] := rfl
theorem lex_cons (c : UInt8) (r : List UInt8) (a : Nat) : lex (c :: r) a = if whiteB c then lex r (a + 1) else
    if opens (c :: r) then match rem (c :: r) 0 with
      | none => [⟨7, a, a + (c :: r).length⟩]
      | some k => lex ((c :: r).drop k) (a + k)
    else ⟨(piece (c :: r)).1, a, a + (piece (c :: r)).2⟩ :: lex ((c :: r).drop (piece (c :: r)).2) (a + (piece (c :: r)).2) := by
  unfold lex
  simp only [List.length_cons, lexN]
  split
  · rfl
  · split
    · split
      · rfl
      · rename_i k hk
        have := rem_le _ _ _ k (Nat.le_refl _) hk
        exact lexN_fuel _ _ _ _ (by simp; omega) (by simp)
    · have := piece_pos (c :: r)
      rw [lexN_fuel r.length _ _ _ (by simp; omega) (Nat.le_refl _)]
end Go.AM.Lx
namespace Go.AM
open Go Go.Proofs Lx
set_option linter.unusedSimpArgs false
set_option linter.unusedVariables false
theorem indexByte_nonneg (l : List UInt8) (c : UInt8) : (0 ≤ Lib.indexByte l c) ↔ c ∈ l := by
  induction l with
  | nil => simp [Lib.indexByte]
  | cons b l ih =>
    unfold Lib.indexByte
    by_cases h : b = c
    · simp [h]
    · have h' : ¬ c = b := fun e => h e.symm
      simp only [beq_iff_eq, h, if_false, List.mem_cons, h', false_or]
      have hg := Lib.indexByte_ge l c
      split
      · rename_i h1; rw [← ih, h1]
      · rename_i h1; rw [← ih]; omega
@[simp] theorem u8_u8 (c : UInt8) : UInt8.ofNat c.toNat = c := by simp
theorem has_s (set : List UInt8) (c : UInt8) (m : Mem) : w_f71 (.str (bs set)) (.int .u8 c.toNat) m = some (.ret (.bool (decide (c ∈ set))), m) := by
  have h := indexByte_nonneg set c
  simp [e_f71, e_f88, e_f97, primIndexByte, h]
theorem hasPrefix_s (a b : List UInt8) (m : Mem) : w_f40 (.str (bs a)) (.str (bs b)) m = some (.ret (.bool (decide (b <+: a))), m) := by
  simp only [e_f40, e_f70, rLenStr_bs, bnd_some, aBin_geq]
  by_cases h : b.length ≤ a.length
  · simp [h, List.prefix_iff_eq_take]
    by_cases h2 : List.take b.length a = b
    · simp [h2]
    · simp [h2]; exact fun e => h2 e.symm
  · have h2 : ¬ b <+: a := fun hp => h hp.length_le
    simp [h, h2]
theorem run_step {p : UInt8 → Bool} {l : List UInt8} {n : Nat} (h : n < l.length) : run p (l.drop n) = if p l[n] then run p (l.drop (n + 1)) + 1 else 0 := by
  rw [List.drop_eq_getElem_cons h]
  unfold run
  rw [List.takeWhile_cons]
  split <;> simp
theorem run_s {set : List UInt8} {p : UInt8 → Bool} (hp : ∀ c, c ∈ set ↔ p c = true) (l : List UInt8) (m : Mem) (hl : l.length ≤ 4611686018427387904) : ∀ (k n : Nat), l.length - n = k → n ≤ l.length →
    l_f67_0 (.str (bs l)) (.str (bs set)) (.int .i64 n) m = some (.ret (.int .i64 (n + run p (l.drop n) : Nat)), m)
  | 0, n, hk, hn => by
    have : n = l.length := by omega
    subst this
    simp [l_f67_0_eq, k_f67_0_eq, k_f67_2_eq, run]
  | k + 1, n, hk, hn => by
    have hlt : n < l.length := by omega
    have hd := run_step (p := p) hlt
    simp [l_f67_0_eq, hlt, has_s, hp]
    by_cases hc : p l[n] = true
    · simp only [hc, k_f67_1_eq, k_f67_2_eq, onBool_true, bnd_some, aBin_add, decide_true]
      have := run_s hp l m hl k (n + 1) (by omega) (by omega)
      simp (disch := omega) only [wrap64]
      refine Eq.trans this ?_
      rw [hd, if_pos hc]
      congr 4; omega
    · simp [hc, k_f67_2_eq, k_f67_0_eq, hd]
abbrev strs (ws : List (List UInt8)) : List AV := ws.map fun w => .str (bs w)
theorem index_s (ws : List (List UInt8)) (tk : Tk) (x : List UInt8) (m : Mem) (hl : ws.length ≤ 4611686018427387904) : ∀ (k n : Nat), ws.length - n = k → n ≤ ws.length →
    ∃ r : Int, l_f98_0 (.sl tk (strs ws)) (.str (bs x)) (.int .i64 ws.length) (.int .i64 n) m = some (.ret (.int .i64 r), m) ∧ (0 ≤ r ↔ x ∈ ws.drop n)
  | 0, n, hk, hn => by
    have : n = ws.length := by omega
    subst this
    exact ⟨-1, by simp [l_f98_0_eq, k_f98_0_eq], by simp⟩
  | k + 1, n, hk, hn => by
    have hlt : n < ws.length := by omega
    have hd : ws.drop n = ws[n] :: ws.drop (n + 1) := List.drop_eq_getElem_cons hlt
    have hx : rIxAddrSl 1 (.sl tk (strs ws)) (.int .i64 n) = some (.pim [.str (bs ws[n])]) := (HSl.sl tk _).ix (x := .str (bs ws[n])) (by simp [hlt]) rfl rfl
    rw [l_f98_0_eq]
    simp only [k_f98_1_eq, k_f98_2_eq, aBin_lss, bnd_some, Int.ofNat_lt, hlt, decide_true, onBool_true, hx, rLoad_pim, partOf_cell, List.getElem?_cons_zero, aBin_streq]
    by_cases he : x = ws[n]
    · refine ⟨n, by simp [he], iff_of_true (Int.natCast_nonneg _) ?_⟩
      rw [hd, he]; exact List.mem_cons_self
    · obtain ⟨r, h1, h2⟩ := index_s ws tk x m hl k (n + 1) (by omega) (by omega)
      refine ⟨r, ?_, ?_⟩
      · simp only [he, decide_false, onBool_false, aBin_add, bnd_some]
        simp (disch := omega) only [wrap64]
        exact h1
      · rw [h2, hd, List.mem_cons]; simp only [he, false_or]
theorem contains_s (ws : List (List UInt8)) (tk : Tk) (x : List UInt8) (m : Mem) (hl : ws.length ≤ 4611686018427387904) : w_f89 (.sl tk (strs ws)) (.str (bs x)) m = some (.ret (.bool (decide (x ∈ ws))), m) := by
  obtain ⟨r, h1, h2⟩ := index_s ws tk x m hl _ 0 rfl (Nat.zero_le _)
  have h3 : w_f98 (.sl tk (strs ws)) (.str (bs x)) m = some (.ret (.int .i64 r), m) := by
    rw [e_f98, (HSl.sl tk _).len]; simpa using h1
  simp [e_f89, h3]
  simpa using h2
theorem keys_s (m : Mem) : w_f90 m = some (.ret (.sl .full (strs keys)), m) := (e_f90 m).trans (by kernel_rfl)
theorem signs_s (m : Mem) : w_f73 m = some (.ret (.sl .full (strs signs)), m) := (e_f73 m).trans (by kernel_rfl)
theorem named_s (c : UInt8) (r : List UInt8) (m : Mem) : w_f72 (.str (bs (c :: r))) m = some (.ret (.int .i64 (named (c :: r))), m) := by
  have hg : (decide (c ∈ [65, 66, 67, 68, 69, 70, 71, 72, 73, 74, 75, 76, 77, 78, 79, 80, 81, 82, 83, 84, 85, 86, 87, 88, 89, 90])) = greatB c := by
    have := mem_greats c
    unfold greats at this
    cases h : greatB c <;> simp_all
  simp only [e_f72, aBin_streq, bnd_some]
  by_cases h1 : c :: r = [95]
  · simp only [h1, decide_true, onBool_true]; rfl
  · simp only [h1, decide_false, onBool_false, keys_s, retK_ret, contains_s keys .full (c :: r) m (by decide)]
    by_cases h2 : c :: r ∈ keys
    · simp only [h2, decide_true, onBool_true]
      unfold named; rw [if_neg h1, if_pos h2]; rfl
    · simp only [h2, decide_false, onBool_false, rIxStr_zero, bnd_some, has_s, retK_ret, hg]
      unfold named; rw [if_neg h1, if_neg h2]
      cases hgc : greatB c <;> simp [k_f72_0_eq, hgc]
theorem word_set : (([97, 98, 99, 100, 101, 102, 103, 104, 105, 106, 107, 108, 109, 110, 111, 112, 113, 114, 115, 116, 117, 118, 119, 120, 121, 122, 65, 66, 67, 68] ++ [69, 70, 71, 72, 73, 74, 75, 76, 77, 78, 79, 80, 81, 82, 83, 84, 85, 86, 87, 88, 89, 90, 48, 49, 50, 51, 52, 53, 54, 55] ++ [56, 57, 95, 39]) : List UInt8) = smalls ++ greats ++ digits ++ [95] ++ [39] := rfl
theorem tick_set : (([97, 98, 99, 100, 101, 102, 103, 104, 105, 106, 107, 108, 109, 110, 111, 112, 113, 114, 115, 116, 117, 118, 119, 120, 121, 122, 65, 66, 67, 68] ++ [69, 70, 71, 72, 73, 74, 75, 76, 77, 78, 79, 80, 81, 82, 83, 84, 85, 86, 87, 88, 89, 90, 48, 49, 50, 51, 52, 53, 54, 55] ++ [56, 57, 95]) : List UInt8) = smalls ++ greats ++ digits ++ [95] := rfl
theorem small_set : ([97, 98, 99, 100, 101, 102, 103, 104, 105, 106, 107, 108, 109, 110, 111, 112, 113, 114, 115, 116, 117, 118, 119, 120, 121, 122] : List UInt8) = smalls := rfl
theorem great_set : ([65, 66, 67, 68, 69, 70, 71, 72, 73, 74, 75, 76, 77, 78, 79, 80, 81, 82, 83, 84, 85, 86, 87, 88, 89, 90] : List UInt8) = greats := rfl
theorem digit_set : ([48, 49, 50, 51, 52, 53, 54, 55, 56, 57] : List UInt8) = digits := rfl
theorem has_p {set : List UInt8} {p : UInt8 → Bool} (hp : ∀ c, c ∈ set ↔ p c = true) (c : UInt8) (m : Mem) : w_f71 (.str (bs set)) (.int .u8 c.toNat) m = some (.ret (.bool (p c)), m) := by
  rw [has_s]
  have := hp c
  by_cases h : p c = true <;> simp_all
theorem mem_word2 (c : UInt8) : c ∈ (([97, 98, 99, 100, 101, 102, 103, 104, 105, 106, 107, 108, 109, 110, 111, 112, 113, 114, 115, 116, 117, 118, 119, 120, 121, 122, 65, 66, 67, 68] ++ [69, 70, 71, 72, 73, 74, 75, 76, 77, 78, 79, 80, 81, 82, 83, 84, 85, 86, 87, 88, 89, 90, 48, 49, 50, 51, 52, 53, 54, 55] ++ [56, 57, 95, 39]) : List UInt8) ↔ wordB c = true := by rw [word_set]; exact mem_word c
theorem mem_tick2 (c : UInt8) : c ∈ (([97, 98, 99, 100, 101, 102, 103, 104, 105, 106, 107, 108, 109, 110, 111, 112, 113, 114, 115, 116, 117, 118, 119, 120, 121, 122, 65, 66, 67, 68] ++ [69, 70, 71, 72, 73, 74, 75, 76, 77, 78, 79, 80, 81, 82, 83, 84, 85, 86, 87, 88, 89, 90, 48, 49, 50, 51, 52, 53, 54, 55] ++ [56, 57, 95]) : List UInt8) ↔ tickB c = true := by rw [tick_set]; exact mem_tick c
theorem mem_digit2 (c : UInt8) : c ∈ ([48, 49, 50, 51, 52, 53, 54, 55, 56, 57] : List UInt8) ↔ digitB c = true := mem_digits c
theorem hasSmall (c : UInt8) (m : Mem) : w_f71 (.str (bs smalls)) (.int .u8 c.toNat) m = some (.ret (.bool (smallB c)), m) := has_p mem_smalls c m
theorem hasGreat (c : UInt8) (m : Mem) : w_f71 (.str (bs greats)) (.int .u8 c.toNat) m = some (.ret (.bool (greatB c)), m) := has_p mem_greats c m
theorem hasDigit (c : UInt8) (m : Mem) : w_f71 (.str (bs digits)) (.int .u8 c.toNat) m = some (.ret (.bool (digitB c)), m) := has_p mem_digits c m
theorem runFrom {set : List UInt8} {p : UInt8 → Bool} (hp : ∀ c, c ∈ set ↔ p c = true) (l : List UInt8) (n : Nat) (m : Mem) (hl : l.length ≤ 4611686018427387904) (hn : n ≤ l.length) :
    w_f67 (.str (bs l)) (.int .i64 n) (.str (bs set)) m = some (.ret (.int .i64 (n + run p (l.drop n) : Nat)), m) := by
  rw [e_f67]; exact run_s hp l m hl _ n rfl hn
theorem runOne {set : List UInt8} {p : UInt8 → Bool} (hp : ∀ c, c ∈ set ↔ p c = true) (c : UInt8) (r : List UInt8) (m : Mem) (hl : (c :: r).length ≤ 4611686018427387904) :
    w_f67 (.str (bs (c :: r))) (.int .i64 1) (.str (bs set)) m = some (.ret (.int .i64 (1 + run p r : Nat)), m) := runFrom hp (c :: r) 1 m hl (by simp)
theorem u8_eq (c : UInt8) (n : Nat) (hn : n < 256) : decide (((c.toNat : Nat) : Int) = (n : Int)) = (c == UInt8.ofNat n) := by
  have h : (c == UInt8.ofNat n) = decide (c = UInt8.ofNat n) := by by_cases h : c = UInt8.ofNat n <;> simp [h]
  rw [h]
  apply decide_eq_decide.2
  constructor
  · intro e
    have : c.toNat = n := by omega
    rw [← this]; simp
  · intro e; rw [e]; simp; omega
theorem firstSign_s (l : List UInt8) (m : Mem) : ∀ (k n : Nat), signs.length - n = k → n ≤ signs.length →
    l_f41_1 (.str (bs l)) (.sl .full (strs signs)) (.int .i64 signs.length) (.int .i64 n) m = some (.ret (.tup [.int .i64 (firstSign l (signs.drop n)).1, .int .i64 (firstSign l (signs.drop n)).2]), m)
  | 0, n, hk, hn => by
    have : n = signs.length := by omega
    subst this
    rw [l_f41_1_eq]
    simp [k_f41_2_eq, firstSign]
  | k + 1, n, hk, hn => by
    have hlt : n < signs.length := by omega
    have hd : signs.drop n = signs[n] :: signs.drop (n + 1) := List.drop_eq_getElem_cons hlt
    have hx : rIxAddrSl 1 (.sl .full (strs signs)) (.int .i64 n) = some (.pim [.str (bs signs[n])]) := (HSl.sl .full _).ix (x := .str (bs signs[n])) (by simp [hlt]) rfl rfl
    rw [l_f41_1_eq]
    simp only [k_f41_4_eq, k_f41_5_eq, aBin_lss, bnd_some, Int.ofNat_lt, hlt, decide_true, onBool_true, hx, rLoad_pim, partOf_cell, List.getElem?_cons_zero, hasPrefix_s, retK_ret, rLenStr_bs]
    rw [hd]
    by_cases he : signs[n] <+: l
    · simp only [he, decide_true, onBool_true, firstSign, if_true]; rfl
    · have := firstSign_s l m k (n + 1) (by omega) (by omega)
      simp only [he, decide_false, onBool_false, aBin_add, bnd_some, firstSign, if_false]
      have hs : signs.length = 13 := rfl
      simp (disch := omega) only [wrap64]
      exact this
theorem one_s (c : UInt8) (r : List UInt8) (m : Mem) (hl : (c :: r).length ≤ 4611686018427387904) :
    w_f41 (.str (bs (c :: r))) m = some (.ret (.tup [.int .i64 (one (c :: r)).1, .int .i64 (one (c :: r)).2]), m) := by
  have h95 := u8_eq c 95 (by decide)
  have h39 := u8_eq c 39 (by decide)
  have hsig : k_f41_0 (.str (bs (c :: r))) m = some (.ret (.tup [.int .i64 (firstSign (c :: r) signs).1, .int .i64 (firstSign (c :: r) signs).2]), m) := by
    have := firstSign_s (c :: r) m _ 0 rfl (Nat.zero_le _)
    rw [k_f41_0_eq, signs_s, retK_ret, (HSl.sl .full (strs signs)).len, bnd_some]
    simpa using this
  have hr1 := runOne (p := wordB) mem_word2 c r m hl
  have hr2 := runOne (p := digitB) mem_digit2 c r m hl
  have hr3 := runOne (p := tickB) mem_tick2 c r m hl
  rw [e_f41]
  simp only [small_set, great_set, rIxStr_zero, bnd_some, aBin_eql]
  rw [show ((95 : Int)) = ((95 : Nat) : Int) from rfl, h95]
  have key : ∀ b : Bool, b = (c == 95 || smallB c || greatB c) → k_f41_1 (.str (bs (c :: r))) (.int .u8 c.toNat) (.bool b) m = some (.ret (.tup [.int .i64 (one (c :: r)).1, .int .i64 (one (c :: r)).2]), m) := by
    intro b hb
    rw [one_cons, ← hb, k_f41_1_eq]
    cases b with
    | true =>
      simp only [onBool_true, hr1, retK_ret, if_true]
      rw [rSliceStr_hi (by have := run_le wordB r; simp; omega)]
      rw [bnd_some, show (c :: r).take (1 + run wordB r) = c :: r.take (run wordB r) by rw [Nat.add_comm]; rfl, named_s, retK_ret]
    | false =>
      simp only [onBool_false, digit_set, hasDigit, retK_ret, Bool.false_eq_true, if_false]
      cases hdg : digitB c with
      | true =>
        rw [digit_set] at hr2
        simp only [onBool_true, hr2, retK_ret, if_true]; rfl
      | false =>
        simp only [onBool_false, Bool.false_eq_true, if_false, aBin_eql, bnd_some]
        rw [show ((39 : Int)) = ((39 : Nat) : Int) from rfl, h39]
        have k3 : ∀ b : Bool, k_f41_3 (.str (bs (c :: r))) (.bool b) m = some (.ret (.tup [.int .i64 ((if b then (4, 1 + run tickB r) else firstSign (c :: r) signs : Nat × Nat).1 : Nat), .int .i64 ((if b then (4, 1 + run tickB r) else firstSign (c :: r) signs : Nat × Nat).2 : Nat)]), m) := by
          intro b
          rw [k_f41_3_eq]
          cases b with
          | true => simp only [onBool_true, hr3, retK_ret, if_true]; rfl
          | false => simp only [onBool_false, hsig, Bool.false_eq_true, if_false]
        cases h9 : (c == UInt8.ofNat 39) with
        | false =>
          have h9' : (c == 39) = false := h9
          simp only [onWant_false, k3, h9', Bool.false_and, Bool.false_eq_true, if_false]
        | true =>
          have h9' : (c == 39) = true := h9
          simp only [onWant_true, h9', Bool.true_and, rLenStr_bs, bnd_some, aBin_gtr]
          cases r with
          | nil => simp only [List.length_cons, List.length_nil, headSmall]; simp [k3]
          | cons d r' =>
            have : (1 : Int) < ((c :: d :: r').length : Nat) := by simp; omega
            simp only [this, decide_true, onWant_true, rIxStr_one, bnd_some, small_set, hasSmall, retK_ret, k3, headSmall]
            rfl
  cases h9 : (c == UInt8.ofNat 95) with
  | true =>
    have h9' : (c == 95) = true := h9
    rw [onWant_true, key true (by rw [h9']; rfl)]
  | false =>
    have h9' : (c == 95) = false := h9
    rw [onWant_false]
    simp only [hasSmall, hasGreat, retK_ret]
    cases hs : smallB c with
    | true => rw [onWant_true, key true (by simp [hs])]
    | false =>
      rw [onWant_false, key _ (by simp [hs, h9'])]
end Go.AM
namespace Go.AM
open Go Go.Proofs Lx
set_option linter.unusedSimpArgs false
set_option linter.unusedVariables false
def tokAV (t : Tok) : AV := .agg [.int .i64 t.k, .int .i64 t.f, .int .i64 t.t]
abbrev toks (l : List Tok) : List AV := l.map tokAV
theorem build3 (x y z : AV) (hx : x.cells? = some [x]) (hy : y.cells? = some [y]) (hz : z.cells? = some [z]) (a b c : AV) : rBuild [a, b, c] [(0, 1, x), (1, 1, y), (2, 1, z)] = some (.agg [x, y, z]) := by
  simp [hx, hy, hz, putCells, splice]
theorem tok1 (x y z : AV) : rBuildSlice A_api_Token 1 [(0, .agg [x, y, z])] = some (.sl .full [.agg [x, y, z]]) := (rfl)
theorem toks_sized (l : List Tok) : sized 3 (toks l) = true := by
  induction l with
  | nil => rfl
  | cons t l ih => simp [sized, tokAV, ih]
theorem build3i (x y z : Int) (a b c : AV) : rBuild [a, b, c] [(0, 1, .int .i64 x), (1, 1, .int .i64 y), (2, 1, .int .i64 z)] = some (.agg [.int .i64 x, .int .i64 y, .int .i64 z]) := build3 _ _ _ rfl rfl rfl a b c
theorem opens_iff (l : List UInt8) : opens l = decide ([40, 42] <+: l) := by
  unfold opens
  rw [Bool.eq_iff_iff, List.isPrefixOf_iff_prefix, decide_eq_true_eq]
/-- a token is appended -/
theorem tok_app {b : Nat} {m : Mem} {v : AV} {acc : List Tok} (h : App b 3 m v (toks acc)) (hb : b ≤ m.next) (hl : acc.length ≤ 1099511627776) (t : Tok) :
    ∃ v' m', rAppend A_api_Token 0 m v (.sl .full [.agg [.int .i64 t.k, .int .i64 t.f, .int .i64 t.t]]) = some (v', m') ∧ App b 3 m' v' (toks (acc ++ [t])) ∧ Keeps b m m' := by
  obtain ⟨v', m', h1, h2, h3, _⟩ := App.append (A := A_api_Token) (ys := [tokAV t]) h hb (.sl .full _) (toks_sized [t]) ⟨by decide, rfl⟩ (by simp only [List.length_map, List.length_singleton, A_api_Token]; omega) (by simp; omega)
  have h2' : App b 3 m' v' (toks acc ++ [tokAV t]) := h2
  exact ⟨v', m', h1, by simpa [toks] using h2', h3⟩
end Go.AM
namespace Go.AM
open Go Go.Proofs Lx
set_option linter.unusedSimpArgs false
set_option linter.unusedVariables false
structure TI where
  k : Int
  f : Int
  t : Int
  deriving DecidableEq, Inhabited
def tiAV (t : TI) : AV := .agg [.int .i64 t.k, .int .i64 t.f, .int .i64 t.t]
def Tok.ti (t : Tok) : TI := ⟨t.k, t.f, t.t⟩
theorem tok_ti (t : Tok) : tokAV t = tiAV (Tok.ti t) := (rfl)
abbrev tis (l : List TI) : List AV := l.map tiAV
theorem toks_tis (l : List Tok) : toks l = tis (l.map Tok.ti) := by simp [toks, tis, tok_ti]
theorem ti_ix {v : AV} {xs : List TI} (h : HSl v (tis xs)) {n : Nat} {k : IntKind} (hn : n < xs.length) : rIxAddrSl 3 v (.int k n) = some (.pim [.int .i64 xs[n].k, .int .i64 xs[n].f, .int .i64 xs[n].t]) :=
  h.ix (x := tiAV xs[n]) (by simp [hn]) rfl rfl
def Lx.kindS (w : List UInt8) : Nat := if w = [] ∨ [40, 42] <+: w then 0 else if (one w).2 = w.length then (one w).1 else 0
theorem kind_s (w : List UInt8) (hl : w.length ≤ 4611686018427387904) (m : Mem) : w_f15 (.str (bs w)) m = some (.ret (.int .i64 (kindS w)), m) := by
  rw [e_f15]
  simp only [aBin_streq, bnd_some]
  unfold kindS
  cases w with
  | nil => simp [k_f15_1_eq]
  | cons c r =>
    have : ¬ (c :: r = []) := by simp
    simp only [this, decide_false, onWant_false, hasPrefix_s, retK_ret, k_f15_1_eq, false_or]
    by_cases ho : [40, 42] <+: c :: r
    · simp [ho]
    · simp only [ho, decide_false, onBool_false, k_f15_0_eq, one_s c r m hl, retK_ret, aExtract_tup, List.getElem?_cons_zero, List.getElem?_cons_succ, bnd_some, rLenStr_bs, aBin_neq, if_false]
      by_cases he : (one (c :: r)).2 = (c :: r).length
      · have : decide ((((one (c :: r)).2 : Nat) : Int) ≠ ((c :: r).length : Nat)) = false := decide_eq_false (by omega)
        simp only [this, onBool_false, k_f15_2_eq]; rw [if_pos he]
      · have : decide ((((one (c :: r)).2 : Nat) : Int) ≠ ((c :: r).length : Nat)) = true := decide_eq_true (by omega)
        simp only [this, onBool_true]; rw [if_neg he]; rfl
end Go.AM
