/-
  The program's lexer computes the lexer in plain Lean: the small functions.
-/
import Derived.Test.YtcliklgiamlpeaaAMS
import Derived.Test.YtcliklgiamlpeaaLexSpec
import Derived.Test.YtcliklgiamlpeaaR1E2
import Derived.Test.YtcliklgiamlpeaaR1E3
import Derived.Test.YtcliklgiamlpeaaR1E4
import Derived.Test.YtcliklgiamlpeaaR1E5
import Derived.Test.YtcliklgiamlpeaaR1E6
import Derived.Test.YtcliklgiamlpeaaR1E7
import Derived.Test.YtcliklgiamlpeaaR1E8
namespace Go.AM
open Go Go.Proofs Lx
set_option linter.unusedSimpArgs false
set_option linter.unusedVariables false

theorem indexByte_nonneg (l : List UInt8) (c : UInt8) : (0 ≤ Lib.indexByte l c) ↔ c ∈ l := by
  induction l with
  | nil => simp [Lib.indexByte]
  | cons b l ih =>
    unfold Lib.indexByte
    by_cases h : b = c
    · simp [h]
    · have h' : ¬ c = b := fun e => h e.symm
      simp only [beq_iff_eq, h, if_false, List.mem_cons, h', false_or]
      have hg := Lib.indexByte_ge l c
      split
      · rename_i h1; rw [← ih, h1]
      · rename_i h1; rw [← ih]; omega

@[simp] theorem u8_u8 (c : UInt8) : UInt8.ofNat c.toNat = c := by simp
theorem has_s (set : List UInt8) (c : UInt8) (m : Mem) : w_lex_has (.str (bs set)) (.int .u8 c.toNat) m = some (.ret (.bool (decide (c ∈ set))), m) := by
  have h := indexByte_nonneg set c
  simp [e_lex_has, e_strings_IndexByte, e_i_stringslite_IndexByte, primIndexByte, h]

theorem hasPrefix_s (a b : List UInt8) (m : Mem) : w_strings_HasPrefix (.str (bs a)) (.str (bs b)) m = some (.ret (.bool (decide (b <+: a))), m) := by
  simp only [e_strings_HasPrefix, e_i_stringslite_HasPrefix, rLenStr_bs, bnd_some, aBin_geq]
  by_cases h : b.length ≤ a.length
  · simp [h, List.prefix_iff_eq_take]
    by_cases h2 : List.take b.length a = b
    · simp [h2]
    · simp [h2]; exact fun e => h2 e.symm
  · have h2 : ¬ b <+: a := fun hp => h hp.length_le
    simp [h, h2]

theorem run_step {p : UInt8 → Bool} {l : List UInt8} {n : Nat} (h : n < l.length) : run p (l.drop n) = if p l[n] then run p (l.drop (n + 1)) + 1 else 0 := by
  rw [List.drop_eq_getElem_cons h]
  unfold run
  rw [List.takeWhile_cons]
  split <;> simp
theorem run_s {set : List UInt8} {p : UInt8 → Bool} (hp : ∀ c, c ∈ set ↔ p c = true) (l : List UInt8) (m : Mem) (hl : l.length ≤ 4611686018427387904) : ∀ (k n : Nat), l.length - n = k → n ≤ l.length →
    l_lex_run_0 (.str (bs l)) (.str (bs set)) (.int .i64 n) m = some (.ret (.int .i64 (n + run p (l.drop n) : Nat)), m)
  | 0, n, hk, hn => by
    have : n = l.length := by omega
    subst this
    simp [l_lex_run_0_eq, k_lex_run_0_eq, k_lex_run_2_eq, run]
  | k + 1, n, hk, hn => by
    have hlt : n < l.length := by omega
    have hd := run_step (p := p) hlt
    simp [l_lex_run_0_eq, hlt, has_s, hp]
    by_cases hc : p l[n] = true
    · simp only [hc, k_lex_run_1_eq, k_lex_run_2_eq, onBool_true, bnd_some, aBin_add, decide_true]
      have := run_s hp l m hl k (n + 1) (by omega) (by omega)
      simp (disch := omega) only [wrap64]
      refine Eq.trans this ?_
      rw [hd, if_pos hc]
      congr 4; omega
    · simp [hc, k_lex_run_2_eq, k_lex_run_0_eq, hd]

abbrev strs (ws : List (List UInt8)) : List AV := ws.map fun w => .str (bs w)

theorem index_s (ws : List (List UInt8)) (tk : Tk) (x : List UInt8) (m : Mem) (hl : ws.length ≤ 4611686018427387904) : ∀ (k n : Nat), ws.length - n = k → n ≤ ws.length →
    ∃ r : Int, l_slices_Index_0 (.sl tk (strs ws)) (.str (bs x)) (.int .i64 ws.length) (.int .i64 n) m = some (.ret (.int .i64 r), m) ∧ (0 ≤ r ↔ x ∈ ws.drop n)
  | 0, n, hk, hn => by
    have : n = ws.length := by omega
    subst this
    exact ⟨-1, by simp [l_slices_Index_0_eq, k_slices_Index_0_eq], by simp⟩
  | k + 1, n, hk, hn => by
    have hlt : n < ws.length := by omega
    have hd : ws.drop n = ws[n] :: ws.drop (n + 1) := List.drop_eq_getElem_cons hlt
    have hx : rIxAddrSl 1 (.sl tk (strs ws)) (.int .i64 n) = some (.pim [.str (bs ws[n])]) := (HSl.sl tk _).ix (x := .str (bs ws[n])) (by simp [hlt]) rfl rfl
    rw [l_slices_Index_0_eq]
    simp only [k_slices_Index_1_eq, k_slices_Index_2_eq, aBin_lss, bnd_some, Int.ofNat_lt, hlt, decide_true, onBool_true, hx, rLoad_pim, partOf_cell, List.getElem?_cons_zero, aBin_streq]
    by_cases he : x = ws[n]
    · refine ⟨n, by simp [he], iff_of_true (Int.natCast_nonneg _) ?_⟩
      rw [hd, he]; exact List.mem_cons_self
    · obtain ⟨r, h1, h2⟩ := index_s ws tk x m hl k (n + 1) (by omega) (by omega)
      refine ⟨r, ?_, ?_⟩
      · simp only [he, decide_false, onBool_false, aBin_add, bnd_some]
        simp (disch := omega) only [wrap64]
        exact h1
      · rw [h2, hd, List.mem_cons]; simp only [he, false_or]

theorem contains_s (ws : List (List UInt8)) (tk : Tk) (x : List UInt8) (m : Mem) (hl : ws.length ≤ 4611686018427387904) : w_slices_Contains (.sl tk (strs ws)) (.str (bs x)) m = some (.ret (.bool (decide (x ∈ ws))), m) := by
  obtain ⟨r, h1, h2⟩ := index_s ws tk x m hl _ 0 rfl (Nat.zero_le _)
  have h3 : w_slices_Index (.sl tk (strs ws)) (.str (bs x)) m = some (.ret (.int .i64 r), m) := by
    rw [e_slices_Index, (HSl.sl tk _).len]; simpa using h1
  simp [e_slices_Contains, h3]
  simpa using h2

theorem keys_s (m : Mem) : w_lex_keys m = some (.ret (.sl .full (strs keys)), m) := (e_lex_keys m).trans (by kernel_rfl)
theorem signs_s (m : Mem) : w_lex_signs m = some (.ret (.sl .full (strs signs)), m) := (e_lex_signs m).trans (by kernel_rfl)

theorem named_s (c : UInt8) (r : List UInt8) (m : Mem) : w_lex_named (.str (bs (c :: r))) m = some (.ret (.int .i64 (named (c :: r))), m) := by
  have hg : (decide (c ∈ [65, 66, 67, 68, 69, 70, 71, 72, 73, 74, 75, 76, 77, 78, 79, 80, 81, 82, 83, 84, 85, 86, 87, 88, 89, 90])) = greatB c := by
    have := mem_greats c
    unfold greats at this
    cases h : greatB c <;> simp_all
  simp only [e_lex_named, aBin_streq, bnd_some]
  by_cases h1 : c :: r = [95]
  · simp only [h1, decide_true, onBool_true]; rfl
  · simp only [h1, decide_false, onBool_false, keys_s, retK_ret, contains_s keys .full (c :: r) m (by decide)]
    by_cases h2 : c :: r ∈ keys
    · simp only [h2, decide_true, onBool_true]
      unfold named; rw [if_neg h1, if_pos h2]; rfl
    · simp only [h2, decide_false, onBool_false, rIxStr_zero, bnd_some, has_s, retK_ret, hg]
      unfold named; rw [if_neg h1, if_neg h2]
      cases hgc : greatB c <;> simp [k_lex_named_0_eq, hgc]

def remRes (l : List UInt8) (n : Nat) : Option Nat → AV
  | none => .tup [.int .i64 l.length, .bool false]
  | some k => .tup [.int .i64 (n + k : Nat), .bool true]

theorem remark_s (l : List UInt8) (m : Mem) (hl : l.length ≤ 4611686018427387904) : ∀ (k n : Nat) (d : Int), l.length - n ≤ k → n ≤ l.length → -n ≤ d → d ≤ n →
    l_lex_remark_0 (.str (bs l)) (.int .i64 d) (.int .i64 n) m = some (.ret (remRes l n (rem (l.drop n) d)), m) := by
  intro k
  induction k with
  | zero =>
    intro n d hk hn h1 h2
    have : n = l.length := by omega
    subst this
    simp [l_lex_remark_0_eq, k_lex_remark_0_eq, remRes, rem]
  | succ k ih =>
    intro n d hk hn h1 h2
    by_cases hlt : n < l.length
    case neg =>
      have : n = l.length := by omega
      subst this
      simp [l_lex_remark_0_eq, k_lex_remark_0_eq, remRes, rem]
    case pos =>
      have hd : l.drop n = l[n] :: l.drop (n + 1) := List.drop_eq_getElem_cons hlt
      rw [l_lex_remark_0_eq]
      simp only [k_lex_remark_1_eq, rLenStr_bs, bnd_some, aBin_lss, Int.ofNat_lt, hlt, decide_true, onBool_true, rSliceStr_lo hn, hasPrefix_s, retK_ret]
      by_cases ho : [40, 42] <+: l.drop n
      · obtain ⟨r, hr⟩ := ho
        have hr' : l.drop n = 40 :: 42 :: r := by rw [← hr]; rfl
        have hlen : n + 2 ≤ l.length := by have := congrArg List.length hr'; simp at this; omega
        have hr2 : l.drop (n + 2) = r := by rw [← List.drop_drop, hr']; rfl
        have := ih (n + 2) (d + 1) (by omega) hlen (by omega) (by omega)
        simp only [hr', List.prefix_append, List.cons_prefix_cons, List.nil_prefix, and_self, decide_true, onBool_true, aBin_add, bnd_some]
        simp (disch := omega) only [wrap64]
        refine Eq.trans this ?_
        rw [hr2, rem_open]
        cases rem r (d + 1) <;> simp [remRes]
        omega
      · simp only [ho, decide_false, onBool_false]
        by_cases hc : [42, 41] <+: l.drop n
        · obtain ⟨r, hr⟩ := hc
          have hr' : l.drop n = 42 :: 41 :: r := by rw [← hr]; rfl
          have hlen : n + 2 ≤ l.length := by have := congrArg List.length hr'; simp at this; omega
          have hr2 : l.drop (n + 2) = r := by rw [← List.drop_drop, hr']; rfl
          simp only [hr', List.prefix_append, List.cons_prefix_cons, List.nil_prefix, and_self, decide_true, onBool_true, aBin_add, aBin_sub, aBin_eql, bnd_some]
          simp (disch := omega) only [wrap64]
          rw [rem_close]
          by_cases h0 : d - 1 = 0
          · simp [h0, remRes]
          · have := ih (n + 2) (d - 1) (by omega) hlen (by omega) (by omega)
            simp only [h0, decide_false, onBool_false, if_false]
            refine Eq.trans this ?_
            rw [hr2]
            cases rem r (d - 1) <;> simp [remRes]
            omega
        · have := ih (n + 1) d (by omega) (by omega) (by omega) (by omega)
          simp only [hc, decide_false, onBool_false, aBin_add, bnd_some]
          simp (disch := omega) only [wrap64]
          refine Eq.trans this ?_
          rw [hd] at ho hc ⊢
          rw [rem_other ho hc]
          cases rem (l.drop (n + 1)) d <;> simp [remRes]
          omega

theorem word_set : (([97, 98, 99, 100, 101, 102, 103, 104, 105, 106, 107, 108, 109, 110, 111, 112, 113, 114, 115, 116, 117, 118, 119, 120, 121, 122, 65, 66, 67, 68] ++ [69, 70, 71, 72, 73, 74, 75, 76, 77, 78, 79, 80, 81, 82, 83, 84, 85, 86, 87, 88, 89, 90, 48, 49, 50, 51, 52, 53, 54, 55] ++ [56, 57, 95, 39]) : List UInt8) = smalls ++ greats ++ digits ++ [95] ++ [39] := rfl
theorem tick_set : (([97, 98, 99, 100, 101, 102, 103, 104, 105, 106, 107, 108, 109, 110, 111, 112, 113, 114, 115, 116, 117, 118, 119, 120, 121, 122, 65, 66, 67, 68] ++ [69, 70, 71, 72, 73, 74, 75, 76, 77, 78, 79, 80, 81, 82, 83, 84, 85, 86, 87, 88, 89, 90, 48, 49, 50, 51, 52, 53, 54, 55] ++ [56, 57, 95]) : List UInt8) = smalls ++ greats ++ digits ++ [95] := rfl
theorem small_set : ([97, 98, 99, 100, 101, 102, 103, 104, 105, 106, 107, 108, 109, 110, 111, 112, 113, 114, 115, 116, 117, 118, 119, 120, 121, 122] : List UInt8) = smalls := rfl
theorem great_set : ([65, 66, 67, 68, 69, 70, 71, 72, 73, 74, 75, 76, 77, 78, 79, 80, 81, 82, 83, 84, 85, 86, 87, 88, 89, 90] : List UInt8) = greats := rfl
theorem digit_set : ([48, 49, 50, 51, 52, 53, 54, 55, 56, 57] : List UInt8) = digits := rfl
theorem white_set : ([32, 9, 10, 13] : List UInt8) = whites := rfl
theorem has_p {set : List UInt8} {p : UInt8 → Bool} (hp : ∀ c, c ∈ set ↔ p c = true) (c : UInt8) (m : Mem) : w_lex_has (.str (bs set)) (.int .u8 c.toNat) m = some (.ret (.bool (p c)), m) := by
  rw [has_s]
  have := hp c
  by_cases h : p c = true <;> simp_all
theorem mem_word2 (c : UInt8) : c ∈ (([97, 98, 99, 100, 101, 102, 103, 104, 105, 106, 107, 108, 109, 110, 111, 112, 113, 114, 115, 116, 117, 118, 119, 120, 121, 122, 65, 66, 67, 68] ++ [69, 70, 71, 72, 73, 74, 75, 76, 77, 78, 79, 80, 81, 82, 83, 84, 85, 86, 87, 88, 89, 90, 48, 49, 50, 51, 52, 53, 54, 55] ++ [56, 57, 95, 39]) : List UInt8) ↔ wordB c = true := by rw [word_set]; exact mem_word c
theorem mem_tick2 (c : UInt8) : c ∈ (([97, 98, 99, 100, 101, 102, 103, 104, 105, 106, 107, 108, 109, 110, 111, 112, 113, 114, 115, 116, 117, 118, 119, 120, 121, 122, 65, 66, 67, 68] ++ [69, 70, 71, 72, 73, 74, 75, 76, 77, 78, 79, 80, 81, 82, 83, 84, 85, 86, 87, 88, 89, 90, 48, 49, 50, 51, 52, 53, 54, 55] ++ [56, 57, 95]) : List UInt8) ↔ tickB c = true := by rw [tick_set]; exact mem_tick c
theorem mem_digit2 (c : UInt8) : c ∈ ([48, 49, 50, 51, 52, 53, 54, 55, 56, 57] : List UInt8) ↔ digitB c = true := mem_digits c
theorem hasSmall (c : UInt8) (m : Mem) : w_lex_has (.str (bs smalls)) (.int .u8 c.toNat) m = some (.ret (.bool (smallB c)), m) := has_p mem_smalls c m
theorem hasGreat (c : UInt8) (m : Mem) : w_lex_has (.str (bs greats)) (.int .u8 c.toNat) m = some (.ret (.bool (greatB c)), m) := has_p mem_greats c m
theorem hasDigit (c : UInt8) (m : Mem) : w_lex_has (.str (bs digits)) (.int .u8 c.toNat) m = some (.ret (.bool (digitB c)), m) := has_p mem_digits c m
theorem hasWhite (c : UInt8) (m : Mem) : w_lex_has (.str (bs whites)) (.int .u8 c.toNat) m = some (.ret (.bool (whiteB c)), m) := has_p mem_whites c m
theorem runFrom {set : List UInt8} {p : UInt8 → Bool} (hp : ∀ c, c ∈ set ↔ p c = true) (l : List UInt8) (n : Nat) (m : Mem) (hl : l.length ≤ 4611686018427387904) (hn : n ≤ l.length) :
    w_lex_run (.str (bs l)) (.int .i64 n) (.str (bs set)) m = some (.ret (.int .i64 (n + run p (l.drop n) : Nat)), m) := by
  rw [e_lex_run]; exact run_s hp l m hl _ n rfl hn
theorem runOne {set : List UInt8} {p : UInt8 → Bool} (hp : ∀ c, c ∈ set ↔ p c = true) (c : UInt8) (r : List UInt8) (m : Mem) (hl : (c :: r).length ≤ 4611686018427387904) :
    w_lex_run (.str (bs (c :: r))) (.int .i64 1) (.str (bs set)) m = some (.ret (.int .i64 (1 + run p r : Nat)), m) := runFrom hp (c :: r) 1 m hl (by simp)

theorem u8_eq (c : UInt8) (n : Nat) (hn : n < 256) : decide (((c.toNat : Nat) : Int) = (n : Int)) = (c == UInt8.ofNat n) := by
  have h : (c == UInt8.ofNat n) = decide (c = UInt8.ofNat n) := by by_cases h : c = UInt8.ofNat n <;> simp [h]
  rw [h]
  apply decide_eq_decide.2
  constructor
  · intro e
    have : c.toNat = n := by omega
    rw [← this]; simp
  · intro e; rw [e]; simp; omega

theorem firstSign_s (l : List UInt8) (m : Mem) : ∀ (k n : Nat), signs.length - n = k → n ≤ signs.length →
    l_lex_one_1 (.str (bs l)) (.sl .full (strs signs)) (.int .i64 signs.length) (.int .i64 n) m = some (.ret (.tup [.int .i64 (firstSign l (signs.drop n)).1, .int .i64 (firstSign l (signs.drop n)).2]), m)
  | 0, n, hk, hn => by
    have : n = signs.length := by omega
    subst this
    rw [l_lex_one_1_eq]
    simp [k_lex_one_2_eq, firstSign]
  | k + 1, n, hk, hn => by
    have hlt : n < signs.length := by omega
    have hd : signs.drop n = signs[n] :: signs.drop (n + 1) := List.drop_eq_getElem_cons hlt
    have hx : rIxAddrSl 1 (.sl .full (strs signs)) (.int .i64 n) = some (.pim [.str (bs signs[n])]) := (HSl.sl .full _).ix (x := .str (bs signs[n])) (by simp [hlt]) rfl rfl
    rw [l_lex_one_1_eq]
    simp only [k_lex_one_4_eq, k_lex_one_5_eq, aBin_lss, bnd_some, Int.ofNat_lt, hlt, decide_true, onBool_true, hx, rLoad_pim, partOf_cell, List.getElem?_cons_zero, hasPrefix_s, retK_ret, rLenStr_bs]
    rw [hd]
    by_cases he : signs[n] <+: l
    · simp only [he, decide_true, onBool_true, firstSign, if_true]; rfl
    · have := firstSign_s l m k (n + 1) (by omega) (by omega)
      simp only [he, decide_false, onBool_false, aBin_add, bnd_some, firstSign, if_false]
      have hs : signs.length = 13 := rfl
      simp (disch := omega) only [wrap64]
      exact this

theorem one_s (c : UInt8) (r : List UInt8) (m : Mem) (hl : (c :: r).length ≤ 4611686018427387904) :
    w_lex_one (.str (bs (c :: r))) m = some (.ret (.tup [.int .i64 (one (c :: r)).1, .int .i64 (one (c :: r)).2]), m) := by
  have h95 := u8_eq c 95 (by decide)
  have h39 := u8_eq c 39 (by decide)
  have hsig : k_lex_one_0 (.str (bs (c :: r))) m = some (.ret (.tup [.int .i64 (firstSign (c :: r) signs).1, .int .i64 (firstSign (c :: r) signs).2]), m) := by
    have := firstSign_s (c :: r) m _ 0 rfl (Nat.zero_le _)
    rw [k_lex_one_0_eq, signs_s, retK_ret, (HSl.sl .full (strs signs)).len, bnd_some]
    simpa using this
  have hr1 := runOne (p := wordB) mem_word2 c r m hl
  have hr2 := runOne (p := digitB) mem_digit2 c r m hl
  have hr3 := runOne (p := tickB) mem_tick2 c r m hl
  rw [e_lex_one]
  simp only [small_set, great_set, rIxStr_zero, bnd_some, aBin_eql]
  rw [show ((95 : Int)) = ((95 : Nat) : Int) from rfl, h95]
  have key : ∀ b : Bool, b = (c == 95 || smallB c || greatB c) → k_lex_one_1 (.str (bs (c :: r))) (.int .u8 c.toNat) (.bool b) m = some (.ret (.tup [.int .i64 (one (c :: r)).1, .int .i64 (one (c :: r)).2]), m) := by
    intro b hb
    rw [one_cons, ← hb, k_lex_one_1_eq]
    cases b with
    | true =>
      simp only [onBool_true, hr1, retK_ret, if_true]
      rw [rSliceStr_hi (by have := run_le wordB r; simp; omega)]
      rw [bnd_some, show (c :: r).take (1 + run wordB r) = c :: r.take (run wordB r) by rw [Nat.add_comm]; rfl, named_s, retK_ret]
    | false =>
      simp only [onBool_false, digit_set, hasDigit, retK_ret, Bool.false_eq_true, if_false]
      cases hdg : digitB c with
      | true =>
        rw [digit_set] at hr2
        simp only [onBool_true, hr2, retK_ret, if_true]; rfl
      | false =>
        simp only [onBool_false, Bool.false_eq_true, if_false, aBin_eql, bnd_some]
        rw [show ((39 : Int)) = ((39 : Nat) : Int) from rfl, h39]
        have k3 : ∀ b : Bool, k_lex_one_3 (.str (bs (c :: r))) (.bool b) m = some (.ret (.tup [.int .i64 ((if b then (4, 1 + run tickB r) else firstSign (c :: r) signs : Nat × Nat).1 : Nat), .int .i64 ((if b then (4, 1 + run tickB r) else firstSign (c :: r) signs : Nat × Nat).2 : Nat)]), m) := by
          intro b
          rw [k_lex_one_3_eq]
          cases b with
          | true => simp only [onBool_true, hr3, retK_ret, if_true]; rfl
          | false => simp only [onBool_false, hsig, Bool.false_eq_true, if_false]
        cases h9 : (c == UInt8.ofNat 39) with
        | false =>
          have h9' : (c == 39) = false := h9
          simp only [onWant_false, k3, h9', Bool.false_and, Bool.false_eq_true, if_false]
        | true =>
          have h9' : (c == 39) = true := h9
          simp only [onWant_true, h9', Bool.true_and, rLenStr_bs, bnd_some, aBin_gtr]
          cases r with
          | nil => simp only [List.length_cons, List.length_nil, headSmall]; simp [k3]
          | cons d r' =>
            have : (1 : Int) < ((c :: d :: r').length : Nat) := by simp; omega
            simp only [this, decide_true, onWant_true, rIxStr_one, bnd_some, small_set, hasSmall, retK_ret, k3, headSmall]
            rfl
  cases h9 : (c == UInt8.ofNat 95) with
  | true =>
    have h9' : (c == 95) = true := h9
    rw [onWant_true, key true (by rw [h9']; rfl)]
  | false =>
    have h9' : (c == 95) = false := h9
    rw [onWant_false]
    simp only [hasSmall, hasGreat, retK_ret]
    cases hs : smallB c with
    | true => rw [onWant_true, key true (by simp [hs])]
    | false =>
      rw [onWant_false, key _ (by simp [hs, h9'])]

theorem nothing_s (l : List UInt8) (m : Mem) (hl : l.length ≤ 4611686018427387904) : ∀ (k n : Nat), l.length - n = k → n ≤ l.length →
    l_lex_nothing_0 (.str (bs l)) (.int .i64 n) m = some (.ret (.int .i64 (n + noth (l.drop n) : Nat)), m)
  | 0, n, hk, hn => by
    have : n = l.length := by omega
    subst this
    rw [l_lex_nothing_0_eq]
    simp [k_lex_nothing_0_eq, noth]
  | k + 1, n, hk, hn => by
    have hlt : n < l.length := by omega
    have hd : l.drop n = l[n] :: l.drop (n + 1) := List.drop_eq_getElem_cons hlt
    have hone := one_s l[n] (l.drop (n + 1)) m (by rw [← hd]; simp; omega)
    rw [l_lex_nothing_0_eq]
    simp only [k_lex_nothing_1_eq, rLenStr_bs, bnd_some, aBin_lss, Int.ofNat_lt, hlt, decide_true, onBool_true, rSliceStr_lo hn]
    rw [hd, hone]
    simp only [retK_ret, aExtract_tup, List.getElem?_cons_zero, List.getElem?_cons_succ, bnd_some, aBin_neq, noth]
    by_cases h1 : (one (l[n] :: l.drop (n + 1))).1 = 0
    · have : ¬ (((one (l[n] :: l.drop (n + 1))).1 : Nat) : Int) ≠ 0 := by omega
      simp only [this, decide_false, onWant_false, rIxStr_get hlt, bnd_some, white_set, hasWhite, retK_ret, k_lex_nothing_3_eq]
      cases h2 : whiteB l[n] with
      | true => simp only [onBool_true]; rw [if_pos (.inr trivial)]; rfl
      | false =>
        have := nothing_s l m hl k (n + 1) (by omega) (by omega)
        simp only [onBool_false, k_lex_nothing_2_eq, aBin_add, bnd_some]
        simp (disch := omega) only [wrap64]
        refine Eq.trans this ?_
        rw [if_neg (by rintro (h | h); exact h h1; cases h)]
        congr 4; omega
    · have : decide ((((one (l[n] :: l.drop (n + 1))).1 : Nat) : Int) ≠ 0) = true := decide_eq_true (by omega)
      simp only [this, onWant_true, k_lex_nothing_3_eq, onBool_true]
      rw [if_pos (.inl h1)]; rfl

end Go.AM
