/-
  The document's lexer computes the lexer in plain Lean.
-/
import Derived.Test.YtpffgljpkehgmaaLexSpec
set_option linter.unusedVariables false
set_option linter.unusedSimpArgs false
namespace Go.AM
open Go Go.Proofs Lx
set_option linter.unusedSimpArgs false
set_option linter.unusedVariables false
theorem rwhite_s (c : UInt8) (m : Mem) : w_f74 (.int .u8 c.toNat) m = some (.ret (.bool (whiteB c)), m) := by
  have h1 := u8_eq c 32 (by decide); have h2 := u8_eq c 9 (by decide); have h3 := u8_eq c 10 (by decide); have h4 := u8_eq c 13 (by decide)
  rw [e_f74]
  simp only [aBin_eql, bnd_some]
  rw [show (32 : Int) = ((32 : Nat) : Int) from rfl, show (9 : Int) = ((9 : Nat) : Int) from rfl, show (10 : Int) = ((10 : Nat) : Int) from rfl, show (13 : Int) = ((13 : Nat) : Int) from rfl, h1, h2, h3, h4]
  show _ = some (AOut.ret (AV.bool (c == UInt8.ofNat 32 || c == UInt8.ofNat 9 || c == UInt8.ofNat 10 || c == UInt8.ofNat 13)), m)
  cases (c == UInt8.ofNat 32) <;> cases (c == UInt8.ofNat 9) <;> cases (c == UInt8.ofNat 10) <;> simp
theorem rsmall_s (c : UInt8) (m : Mem) : w_f91 (.int .u8 c.toNat) m = some (.ret (.bool (smallB c)), m) := by
  rw [e_f91]
  simp only [aBin_geq, aBin_leq, bnd_some]
  unfold smallB
  by_cases h1 : 97 ≤ c.toNat
  · have : (97 : Int) ≤ (c.toNat : Nat) := by omega
    simp only [decide_eq_true this, onWant_true]
    congr 4; apply decide_eq_decide.2; omega
  · have : ¬ (97 : Int) ≤ (c.toNat : Nat) := by omega
    simp only [decide_eq_false this, onWant_false]
    rw [decide_eq_false (by omega)]
theorem rgreat_s (c : UInt8) (m : Mem) : w_f92 (.int .u8 c.toNat) m = some (.ret (.bool (greatB c)), m) := by
  rw [e_f92]
  simp only [aBin_geq, aBin_leq, bnd_some]
  unfold greatB
  by_cases h1 : 65 ≤ c.toNat
  · have : (65 : Int) ≤ (c.toNat : Nat) := by omega
    simp only [decide_eq_true this, onWant_true]
    congr 4; apply decide_eq_decide.2; omega
  · have : ¬ (65 : Int) ≤ (c.toNat : Nat) := by omega
    simp only [decide_eq_false this, onWant_false]
    rw [decide_eq_false (by omega)]
theorem rdigit_s (c : UInt8) (m : Mem) : w_f93 (.int .u8 c.toNat) m = some (.ret (.bool (digitB c)), m) := by
  rw [e_f93]
  simp only [aBin_geq, aBin_leq, bnd_some]
  unfold digitB
  by_cases h1 : 48 ≤ c.toNat
  · have : (48 : Int) ≤ (c.toNat : Nat) := by omega
    simp only [decide_eq_true this, onWant_true]
    congr 4; apply decide_eq_decide.2; omega
  · have : ¬ (48 : Int) ≤ (c.toNat : Nat) := by omega
    simp only [decide_eq_false this, onWant_false]
    rw [decide_eq_false (by omega)]
theorem at_s (s w : List UInt8) (hs : s.length ≤ 4611686018427387904) (hw : w.length ≤ 1000000) (i : Nat) (hi : i ≤ s.length) (m : Mem) : w_f75 (.str (bs s)) (.int .i64 i) (.str (bs w)) m = some (.ret (.bool (decide (w <+: s.drop i))), m) := by
  rw [e_f75]
  simp only [rLenStr_bs, bnd_some, aBin_add, aBin_leq]
  rw [wrap64 (by omega) (by omega)]
  by_cases h : i + w.length ≤ s.length
  · have hd : decide (((i : Int) + (w.length : Nat)) ≤ (s.length : Nat)) = true := decide_eq_true (by omega)
    have hsl : rSliceStr (.str (bs s)) (some (.int .i64 i)) (some (.int .i64 ((i : Int) + (w.length : Nat)))) = some (.str (bs ((s.take (i + w.length)).drop i))) := rSliceStr_both (by omega) h
    simp only [hd, onWant_true, hsl, bnd_some, aBin_streq]
    congr 4; apply decide_eq_decide.2
    rw [List.prefix_iff_eq_take, List.drop_take, Nat.add_sub_cancel_left]
    exact ⟨fun h => h.symm, fun h => h.symm⟩
  · have hd : decide (((i : Int) + (w.length : Nat)) ≤ (s.length : Nat)) = false := decide_eq_false (by omega)
    have : ¬ w <+: s.drop i := fun hp => by have := hp.length_le; simp at this; omega
    simp only [hd, onWant_false, decide_eq_false this]
def rremRes (n : Nat) : Option Nat → AV
  | none => .int .i64 0
  | some k => .int .i64 (n + k : Nat)
theorem rremark_s (l : List UInt8) (m : Mem) (hl : l.length ≤ 1000000000) : ∀ (k n : Nat) (d : Int), l.length - n ≤ k → n ≤ l.length → -n ≤ d → d ≤ n →
    l_f76_0 (.str (bs l)) (.int .i64 n) (.int .i64 d) m = some (.ret (rremRes n (rem (l.drop n) d)), m) := by
  intro k
  induction k with
  | zero =>
    intro n d hk hn h1 h2
    have : n = l.length := by omega
    subst this
    rw [l_f76_0_eq]
    simp [k_f76_0_eq, rremRes, rem]
  | succ k ih =>
    intro n d hk hn h1 h2
    by_cases hlt : n < l.length
    case neg =>
      have : n = l.length := by omega
      subst this
      rw [l_f76_0_eq]
      simp [k_f76_0_eq, rremRes, rem]
    case pos =>
      have hd : l.drop n = l[n] :: l.drop (n + 1) := List.drop_eq_getElem_cons hlt
      have ha := at_s l [40, 42] (by omega) (by decide) n hn m
      have hb := at_s l [42, 41] (by omega) (by decide) n hn m
      rw [l_f76_0_eq]
      simp only [k_f76_1_eq, k_f76_2_eq, k_f76_3_eq, rLenStr_bs, bnd_some, aBin_lss, Int.ofNat_lt, hlt, decide_true, onBool_true, ha, hb, retK_ret]
      by_cases ho : [40, 42] <+: l.drop n
      · obtain ⟨r, hr⟩ := ho
        have hr' : l.drop n = 40 :: 42 :: r := by rw [← hr]; rfl
        have hlen : n + 2 ≤ l.length := by have := congrArg List.length hr'; simp at this; omega
        have hr2 : l.drop (n + 2) = r := by rw [← List.drop_drop, hr']; rfl
        have := ih (n + 2) (d + 1) (by omega) hlen (by omega) (by omega)
        simp only [hr', List.prefix_append, List.cons_prefix_cons, List.nil_prefix, and_self, decide_true, onBool_true, aBin_add, bnd_some]
        simp (disch := omega) only [wrap64]
        refine Eq.trans this ?_
        rw [hr2, rem_open]
        cases rem r (d + 1) <;> simp [rremRes]
        omega
      · simp only [ho, decide_false, onBool_false]
        by_cases hc : [42, 41] <+: l.drop n
        · obtain ⟨r, hr⟩ := hc
          have hr' : l.drop n = 42 :: 41 :: r := by rw [← hr]; rfl
          have hlen : n + 2 ≤ l.length := by have := congrArg List.length hr'; simp at this; omega
          have hr2 : l.drop (n + 2) = r := by rw [← List.drop_drop, hr']; rfl
          simp only [hr', List.prefix_append, List.cons_prefix_cons, List.nil_prefix, and_self, decide_true, onBool_true, aBin_add, aBin_sub, aBin_eql, bnd_some]
          simp (disch := omega) only [wrap64]
          rw [rem_close]
          by_cases h0 : d - 1 = 0
          · simp [h0, rremRes]
          · have := ih (n + 2) (d - 1) (by omega) hlen (by omega) (by omega)
            simp only [h0, decide_false, onBool_false, if_false]
            refine Eq.trans this ?_
            rw [hr2]
            cases rem r (d - 1) <;> simp [rremRes]
            omega
        · have := ih (n + 1) d (by omega) (by omega) (by omega) (by omega)
          simp only [hc, decide_false, onBool_false, aBin_add, bnd_some]
          simp (disch := omega) only [wrap64]
          refine Eq.trans this ?_
          rw [hd] at ho hc ⊢
          rw [rem_other ho hc]
          cases rem (l.drop (n + 1)) d <;> simp [rremRes]
          omega
theorem build_keys : rBuild [.str (bs []), .str (bs []), .str (bs []), .str (bs []), .str (bs []), .str (bs []), .str (bs []), .str (bs []), .str (bs []), .str (bs []), .str (bs []), .str (bs []), .str (bs [])] [(0, 1, (.str (bs [108, 101, 116]))), (1, 1, (.str (bs [114, 101, 99]))), (2, 1, (.str (bs [105, 110]))), (3, 1, (.str (bs [102, 117, 110]))), (4, 1, (.str (bs [105, 102]))), (5, 1, (.str (bs [116, 104, 101, 110]))), (6, 1, (.str (bs [101, 108, 115, 101]))), (7, 1, (.str (bs [109, 97, 116, 99, 104]))), (8, 1, (.str (bs [119, 105, 116, 104]))), (9, 1, (.str (bs [116, 121, 112, 101]))), (10, 1, (.str (bs [111, 102]))), (11, 1, (.str (bs [116, 114, 117, 101]))), (12, 1, (.str (bs [102, 97, 108, 115, 101])))] = some (.agg (strs keys)) := by kernel_rfl
theorem build_signs : rBuild [.str (bs []), .str (bs []), .str (bs []), .str (bs []), .str (bs []), .str (bs []), .str (bs []), .str (bs []), .str (bs []), .str (bs []), .str (bs []), .str (bs []), .str (bs [])] [(0, 1, (.str (bs [45, 62]))), (1, 1, (.str (bs [58, 58]))), (2, 1, (.str (bs [59, 59]))), (3, 1, (.str (bs [40]))), (4, 1, (.str (bs [41]))), (5, 1, (.str (bs [44]))), (6, 1, (.str (bs [124]))), (7, 1, (.str (bs [61]))), (8, 1, (.str (bs [60]))), (9, 1, (.str (bs [43]))), (10, 1, (.str (bs [45]))), (11, 1, (.str (bs [42]))), (12, 1, (.str (bs [95])))] = some (.agg (strs signs)) := by kernel_rfl
theorem store13 {m : Mem} {o : Nat} {cs xs : List AV} (ho : m.obj o = some (.row cs 0)) (hc : cs.length = 13) (hx : xs.length = 13) : rStore 13 m (.ptr o 0 0) (.agg xs) = some (m.set o (.row xs 0)) :=
  rStore_ptr ho rfl hx (putCells_all (by omega))
theorem load13 {m : Mem} {o : Nat} {xs : List AV} (ho : m.obj o = some (.row xs 0)) (hx : xs.length = 13) : rLoad true 13 m (.ptr o 0 0) = some (.agg xs) := by
  rw [rLoad_ptr, cells_of ho, Option.bind_some, partOf_agg, if_pos (by omega), List.drop_zero, ← hx, List.take_length]
abbrev z13 : List AV := [.str (bs []), .str (bs []), .str (bs []), .str (bs []), .str (bs []), .str (bs []), .str (bs []), .str (bs []), .str (bs []), .str (bs []), .str (bs []), .str (bs []), .str (bs [])]
theorem box13 (m : Mem) : aBox m (.agg z13) = some (.ptr m.next 0 0, m.alloc (.row z13 0)) := rfl
theorem rwords_s (m : Mem) : ∃ m', w_f94 m = some (.ret (.agg (strs keys)), m') ∧ Kept m m' := by
  have h1 : (m.alloc (.row z13 0)).obj m.next = some (.row z13 0) := by simp
  refine ⟨(m.alloc (.row z13 0)).set m.next (.row (strs keys) 0), ?_, (Kept.alloc m _).set (Nat.le_refl _) _⟩
  rw [e_f94, box13, memK_some, build_keys, bnd_some, store13 h1 rfl rfl, bnd_some, load13 (xs := strs keys) (by simp) rfl, bnd_some]
theorem rsigns_s (m : Mem) : ∃ m', w_f95 m = some (.ret (.agg (strs signs)), m') ∧ Kept m m' := by
  have h1 : (m.alloc (.row z13 0)).obj m.next = some (.row z13 0) := by simp
  refine ⟨(m.alloc (.row z13 0)).set m.next (.row (strs signs) 0), ?_, (Kept.alloc m _).set (Nat.le_refl _) _⟩
  rw [e_f95, box13, memK_some, build_signs, bnd_some, store13 h1 rfl rfl, bnd_some, load13 (xs := strs signs) (by simp) rfl, bnd_some]
theorem arr_get {m : Mem} {o : Nat} {ws : List (List UInt8)} (ho : m.obj o = some (.row (strs ws) 0)) {n : Nat} (hn : n < ws.length) (hw : ws.length = 13) : rIxAddrArr 13 1 (.ptr o 0 0) (.int .i64 n) = some (.ptr o 0 n) ∧ rLoad false 1 m (.ptr o 0 n) = some (.str (bs ws[n])) := by
  constructor
  · rw [rIxAddrArr_ptr, if_pos (by omega)]; simp
  · rw [rLoad_ptr, cells_of ho, Option.bind_some, partOf_cell]; simp [hn]
theorem rkeys_loop {m : Mem} {o : Nat} (ho : m.obj o = some (.row (strs keys) 0)) (w : List UInt8) (j : AV) : ∀ (k n : Nat), 13 - n = k → n ≤ 13 → 
    l_f77_2 j (.str (bs w)) (.ptr o 0 0) (.int .i64 n) m = some (.ret (.tup [.int .i64 (if w ∈ keys.drop n then 5 else 1), j]), m)
  | 0, n, hk, hn => by
    have : n = 13 := by omega
    subst this
    rw [l_f77_2_eq]
    simp [k_f77_18_eq, keys]
  | k + 1, n, hk, hn => by
    have hlt : n < keys.length := by show n < 13; omega
    have hd : keys.drop n = keys[n] :: keys.drop (n + 1) := List.drop_eq_getElem_cons hlt
    have h13 : decide ((n : Int) < 13) = true := decide_eq_true (by omega)
    have hg := arr_get ho hlt rfl
    rw [l_f77_2_eq]
    simp only [aBin_lss, bnd_some, h13, onBool_true, k_f77_20_eq, hg.1, hg.2, aBin_streq]
    by_cases he : keys[n] = w
    · have : w ∈ keys.drop n := by rw [hd, he]; exact List.mem_cons_self
      simp only [he, decide_true, onBool_true, if_pos this]
    · have hm : (w ∈ keys.drop n) = (w ∈ keys.drop (n + 1)) := by
        rw [hd, List.mem_cons]
        have : ¬ w = keys[n] := fun e => he e.symm
        simp only [this, false_or]
      simp only [he, decide_false, onBool_false, k_f77_21_eq, aBin_add, bnd_some]
      simp (disch := omega) only [wrap64]
      rw [show ((n : Int) + 1) = ((n + 1 : Nat) : Int) from rfl, rkeys_loop ho w j k (n + 1) (by omega) (by omega)]
      simp only [hm]
def rOneRes (i : Nat) (p : Nat × Nat) : AV := if p.1 = 0 then .tup [.int .i64 0, .int .i64 0] else .tup [.int .i64 p.1, .int .i64 (i + p.2 : Nat)]
theorem rsigns_loop {m : Mem} {o : Nat} (ho : m.obj o = some (.row (strs signs) 0)) (s : List UInt8) (hs : s.length ≤ 1000000000) (i : Nat) (hi : i ≤ s.length) : ∀ (k n : Nat), 13 - n = k → n ≤ 13 → 
    l_f77_8 (.str (bs s)) (.int .i64 i) (.ptr o 0 0) (.int .i64 n) m = some (.ret (rOneRes i (firstSign (s.drop i) (signs.drop n))), m)
  | 0, n, hk, hn => by
    have : n = 13 := by omega
    subst this
    rw [l_f77_8_eq]
    simp [k_f77_12_eq, signs, firstSign, rOneRes]
  | k + 1, n, hk, hn => by
    have hlt : n < signs.length := by show n < 13; omega
    have hd : signs.drop n = signs[n] :: signs.drop (n + 1) := List.drop_eq_getElem_cons hlt
    have h13 : decide ((n : Int) < 13) = true := decide_eq_true (by omega)
    have hg := arr_get ho hlt rfl
    have hl := signs_len signs[n] (List.getElem_mem hlt)
    rw [l_f77_8_eq]
    simp only [aBin_lss, bnd_some, h13, onBool_true, k_f77_15_eq, hg.1, hg.2, at_s s _ (by omega) (by omega : signs[n].length ≤ 1000000) i hi m, retK_ret, rLenStr_bs, aBin_add]
    rw [hd]
    by_cases he : signs[n] <+: s.drop i
    · simp only [he, decide_true, onBool_true, firstSign, if_true, rOneRes]
      rw [wrap64 (by omega) (by omega)]
      rfl
    · simp only [he, decide_false, onBool_false, k_f77_19_eq, aBin_add, bnd_some, firstSign, if_false]
      simp (disch := omega) only [wrap64]
      exact rsigns_loop ho s hs i hi k (n + 1) (by omega) (by omega)
theorem rword_loop (s : List UInt8) (hs : s.length ≤ 1000000000) (i c : AV) (m : Mem) : ∀ (k j : Nat), s.length - j = k → j ≤ s.length →
    l_f77_0 (.str (bs s)) i c (.int .i64 j) m = k_f77_4 (.str (bs s)) i c (.int .i64 (j + run wordB (s.drop j) : Nat)) m
  | 0, j, hk, hj => by
    have : j = s.length := by omega
    subst this
    rw [l_f77_0_eq]
    simp only [rLenStr_bs, bnd_some, aBin_lss, Int.lt_irrefl, decide_false, onWant_false, k_f77_11_eq, onBool_false]
    simp [run]
  | k + 1, j, hk, hj => by
    have hlt : j < s.length := by omega
    have h95 := u8_eq s[j] 95 (by decide)
    have h39 := u8_eq s[j] 39 (by decide)
    rw [l_f77_0_eq]
    simp only [rLenStr_bs, bnd_some, aBin_lss, Int.ofNat_lt, hlt, decide_true, onWant_true, rIxStr_get hlt, rsmall_s, rgreat_s, rdigit_s, retK_ret, aBin_eql]
    rw [show (95 : Int) = ((95 : Nat) : Int) from rfl, show (39 : Int) = ((39 : Nat) : Int) from rfl, h95, h39, run_step hlt]
    have key : ∀ b : Bool, b = wordB s[j] → k_f77_11 (.str (bs s)) i c (.int .i64 j) (.bool b) m = k_f77_4 (.str (bs s)) i c (.int .i64 (j + (if wordB s[j] = true then run wordB (s.drop (j + 1)) + 1 else 0) : Nat)) m := by
      intro b hb
      rw [k_f77_11_eq, ← hb]
      cases b with
      | true =>
        simp only [onBool_true, k_f77_10_eq, aBin_add, bnd_some, if_true]
        simp (disch := omega) only [wrap64]
        rw [show ((j : Int) + 1) = ((j + 1 : Nat) : Int) from rfl, rword_loop s hs i c m k (j + 1) (by omega) (by omega), show j + 1 + run wordB (s.drop (j + 1)) = j + (run wordB (s.drop (j + 1)) + 1) by omega]
      | false => simp only [onBool_false, Bool.false_eq_true, if_false, Nat.add_zero]
    have hw : wordB s[j] = (smallB s[j] || greatB s[j] || digitB s[j] || (s[j] == UInt8.ofNat 95) || (s[j] == UInt8.ofNat 39)) := rfl
    cases h1 : smallB s[j] with
    | true => rw [onWant_true, key true (by rw [hw, h1]; rfl)]
    | false =>
      rw [onWant_false]
      cases h2 : greatB s[j] with
      | true => rw [onWant_true, key true (by rw [hw, h1, h2]; rfl)]
      | false =>
        rw [onWant_false]
        cases h3 : digitB s[j] with
        | true => rw [onWant_true, key true (by rw [hw, h1, h2, h3]; rfl)]
        | false =>
          rw [onWant_false]
          cases h4 : (s[j] == UInt8.ofNat 95) with
          | true => rw [onWant_true, key true (by rw [hw, h1, h2, h3, h4]; rfl)]
          | false => rw [onWant_false, key _ (by rw [hw, h1, h2, h3, h4]; rfl)]
theorem rdigit_loop (s : List UInt8) (hs : s.length ≤ 1000000000) (m : Mem) : ∀ (k j : Nat), s.length - j = k → j ≤ s.length →
    l_f77_4 (.str (bs s)) (.int .i64 j) m = some (.ret (.tup [.int .i64 3, .int .i64 (j + run digitB (s.drop j) : Nat)]), m)
  | 0, j, hk, hj => by
    have : j = s.length := by omega
    subst this
    rw [l_f77_4_eq]
    simp only [rLenStr_bs, bnd_some, aBin_lss, Int.lt_irrefl, decide_false, onWant_false, k_f77_8_eq, onBool_false, k_f77_3_eq]
    simp [run]
  | k + 1, j, hk, hj => by
    have hlt : j < s.length := by omega
    rw [l_f77_4_eq]
    simp only [rLenStr_bs, bnd_some, aBin_lss, Int.ofNat_lt, hlt, decide_true, onWant_true, rIxStr_get hlt, rdigit_s, retK_ret, k_f77_8_eq]
    rw [run_step hlt]
    cases h1 : digitB s[j] with
    | true =>
      simp only [onBool_true, k_f77_7_eq, aBin_add, bnd_some, if_true]
      simp (disch := omega) only [wrap64]
      rw [show ((j : Int) + 1) = ((j + 1 : Nat) : Int) from rfl, rdigit_loop s hs m k (j + 1) (by omega) (by omega), show j + 1 + run digitB (s.drop (j + 1)) = j + (run digitB (s.drop (j + 1)) + 1) by omega]
    | false => simp only [onBool_false, k_f77_3_eq, Bool.false_eq_true, if_false, Nat.add_zero]
theorem rtick_loop (s : List UInt8) (hs : s.length ≤ 1000000000) (m : Mem) : ∀ (k j : Nat), s.length - j = k → j ≤ s.length →
    l_f77_6 (.str (bs s)) (.int .i64 j) m = some (.ret (.tup [.int .i64 4, .int .i64 (j + run tickB (s.drop j) : Nat)]), m)
  | 0, j, hk, hj => by
    have : j = s.length := by omega
    subst this
    rw [l_f77_6_eq]
    simp only [rLenStr_bs, bnd_some, aBin_lss, Int.lt_irrefl, decide_false, onWant_false, k_f77_17_eq, onBool_false, k_f77_13_eq]
    simp [run]
  | k + 1, j, hk, hj => by
    have hlt : j < s.length := by omega
    have h95 := u8_eq s[j] 95 (by decide)
    rw [l_f77_6_eq]
    simp only [rLenStr_bs, bnd_some, aBin_lss, Int.ofNat_lt, hlt, decide_true, onWant_true, rIxStr_get hlt, rsmall_s, rgreat_s, rdigit_s, retK_ret, aBin_eql]
    rw [show (95 : Int) = ((95 : Nat) : Int) from rfl, h95, run_step hlt]
    have key : ∀ b : Bool, b = tickB s[j] → k_f77_17 (.str (bs s)) (.int .i64 j) (.bool b) m = some (.ret (.tup [.int .i64 4, .int .i64 (j + (if tickB s[j] = true then run tickB (s.drop (j + 1)) + 1 else 0) : Nat)]), m) := by
      intro b hb
      rw [k_f77_17_eq, ← hb]
      cases b with
      | true =>
        simp only [onBool_true, k_f77_16_eq, aBin_add, bnd_some, if_true]
        simp (disch := omega) only [wrap64]
        rw [show ((j : Int) + 1) = ((j + 1 : Nat) : Int) from rfl, rtick_loop s hs m k (j + 1) (by omega) (by omega), show j + 1 + run tickB (s.drop (j + 1)) = j + (run tickB (s.drop (j + 1)) + 1) by omega]
      | false => simp only [onBool_false, k_f77_13_eq, Bool.false_eq_true, if_false, Nat.add_zero]
    have hw : tickB s[j] = (smallB s[j] || greatB s[j] || digitB s[j] || (s[j] == UInt8.ofNat 95)) := rfl
    cases h1 : smallB s[j] with
    | true => rw [onWant_true, key true (by rw [hw, h1]; rfl)]
    | false =>
      rw [onWant_false]
      cases h2 : greatB s[j] with
      | true => rw [onWant_true, key true (by rw [hw, h1, h2]; rfl)]
      | false =>
        rw [onWant_false]
        cases h3 : digitB s[j] with
        | true => rw [onWant_true, key true (by rw [hw, h1, h2, h3]; rfl)]
        | false => rw [onWant_false, key _ (by rw [hw, h1, h2, h3]; rfl)]
theorem keys_small0 : ∀ w ∈ keys, greatB (w.headD 0) = false := by decide
theorem keys_small {c : UInt8} {r : List UInt8} (h : c :: r ∈ keys) : greatB c = false := keys_small0 _ h
theorem rOneRes_pos {k : Nat} (n i : Nat) (hk : k ≠ 0) : rOneRes i (k, n) = .tup [.int .i64 k, .int .i64 (i + n : Nat)] := if_neg hk
theorem named_pos (w : List UInt8) : named w ≠ 0 := by
  unfold named
  split
  · decide
  · split
    · decide
    · split
      · split <;> decide
      · decide
theorem rone_s (s : List UInt8) (hs : s.length ≤ 1000000000) (i : Nat) (hi : i < s.length) (m : Mem) : ∃ m', w_f77 (.str (bs s)) (.int .i64 i) m = some (.ret (rOneRes i (one (s.drop i))), m') ∧ Kept m m' := by
  have hd : s.drop i = s[i] :: s.drop (i + 1) := List.drop_eq_getElem_cons hi
  have h95 := u8_eq s[i] 95 (by decide)
  have h39 := u8_eq s[i] 39 (by decide)
  have hsig : ∀ m, ∃ m', k_f77_5 (.str (bs s)) (.int .i64 i) (.int .i64 (i + 1 : Nat)) m = some (.ret (rOneRes i (firstSign (s.drop i) signs)), m') ∧ Kept m m' := by
    intro m
    obtain ⟨m1, h1, h2⟩ := rsigns_s m
    have h3 : (m1.alloc (.row z13 0)).obj m1.next = some (.row z13 0) := by simp
    refine ⟨(m1.alloc (.row z13 0)).set m1.next (.row (strs signs) 0), ?_, (h2.trans (Kept.alloc m1 _)).set h2.next _⟩
    rw [k_f77_5_eq, h1, retK_ret, box13, memK_some, store13 h3 rfl rfl, bnd_some]
    exact rsigns_loop (by simp) s hs i (by omega) _ 0 rfl (Nat.zero_le _)
  have h5 : ∀ m, ∃ m', k_f77_4 (.str (bs s)) (.int .i64 i) (.int .u8 s[i].toNat) (.int .i64 (i + 1 + run wordB (s.drop (i + 1)) : Nat)) m = some (.ret (.tup [.int .i64 (named (s[i] :: (s.drop (i + 1)).take (run wordB (s.drop (i + 1))))), .int .i64 (i + 1 + run wordB (s.drop (i + 1)) : Nat)]), m') ∧ Kept m m' := by
    intro m
    have hr := run_le wordB (s.drop (i + 1))
    simp only [List.length_drop] at hr
    have hw : (s.take (i + 1 + run wordB (s.drop (i + 1)))).drop i = s[i] :: (s.drop (i + 1)).take (run wordB (s.drop (i + 1))) := by
      rw [List.drop_take, hd, show i + 1 + run wordB (s.drop (i + 1)) - i = run wordB (s.drop (i + 1)) + 1 by omega]; rfl
    have hsl : rSliceStr (.str (bs s)) (some (.int .i64 i)) (some (.int .i64 (i + 1 + run wordB (s.drop (i + 1)) : Nat))) = some (.str (bs (s[i] :: (s.drop (i + 1)).take (run wordB (s.drop (i + 1)))))) := by
      rw [rSliceStr_both (by omega) (by omega), hw]
    rw [k_f77_4_eq, hsl, bnd_some, aBin_streq, bnd_some]
    unfold named
    by_cases h1 : s[i] :: (s.drop (i + 1)).take (run wordB (s.drop (i + 1))) = [95]
    · rw [decide_eq_true h1, onBool_true, if_pos h1]; exact ⟨m, rfl, .refl _ _⟩
    · rw [decide_eq_false h1, onBool_false, if_neg h1, k_f77_9_eq, rgreat_s, retK_ret]
      cases hg : greatB s[i] with
      | true =>
        have : ¬ (s[i] :: (s.drop (i + 1)).take (run wordB (s.drop (i + 1)))) ∈ keys := by
          intro hm
          have := keys_small hm
          rw [hg] at this; cases this
        rw [onBool_true, if_neg this]
        simp only [hg, if_true]; exact ⟨m, rfl, .refl _ _⟩
      | false =>
        rw [onBool_false, k_f77_14_eq]
        obtain ⟨m1, h2, h3⟩ := rwords_s m
        have h4 : (m1.alloc (.row z13 0)).obj m1.next = some (.row z13 0) := by simp
        refine ⟨(m1.alloc (.row z13 0)).set m1.next (.row (strs keys) 0), ?_, (h3.trans (Kept.alloc m1 _)).set h3.next _⟩
        rw [h2, retK_ret, box13, memK_some, store13 h4 rfl rfl, bnd_some]
        refine Eq.trans (rkeys_loop (by simp) _ _ _ 0 rfl (Nat.zero_le _)) ?_
        rw [List.drop_zero]
        simp only [hg, Bool.false_eq_true, if_false]
        split <;> rfl
  rw [e_f77, rIxStr_get hi, bnd_some, aBin_add, bnd_some]
  rw [wrap64 (by omega) (by omega)]
  have hi1 : ((i : Int) + 1) = ((i + 1 : Nat) : Int) := rfl
  simp only [rsmall_s, rgreat_s, retK_ret, aBin_eql, bnd_some, hi1]
  rw [show (95 : Int) = ((95 : Nat) : Int) from rfl, h95]
  have key : ∀ b : Bool, b = (s[i] == 95 || smallB s[i] || greatB s[i]) → ∃ m', k_f77_1 (.str (bs s)) (.int .i64 i) (.int .u8 s[i].toNat) (.int .i64 (i + 1 : Nat)) (.bool b) m = some (.ret (rOneRes i (one (s.drop i))), m') ∧ Kept m m' := by
    intro b hb
    rw [k_f77_1_eq, hd, one_cons, ← hb]
    cases b with
    | true =>
      rw [onBool_true, rword_loop s hs _ _ m _ (i + 1) rfl (by omega), if_pos rfl]
      obtain ⟨m', h6, h7⟩ := h5 m
      refine ⟨m', ?_, h7⟩
      rw [h6]
      rw [rOneRes_pos _ _ (named_pos _), show i + (1 + run wordB (s.drop (i + 1))) = i + 1 + run wordB (s.drop (i + 1)) by omega]
    | false =>
      rw [onBool_false, k_f77_0_eq, rdigit_s, retK_ret, if_neg (by decide)]
      cases hdg : digitB s[i] with
      | true =>
        rw [onBool_true, rdigit_loop s hs m _ (i + 1) rfl (by omega), if_pos rfl]
        refine ⟨m, ?_, .refl _ _⟩
        rw [rOneRes_pos _ _ (by decide), show i + (1 + run digitB (s.drop (i + 1))) = i + 1 + run digitB (s.drop (i + 1)) by omega]; rfl
      | false =>
        rw [onBool_false, k_f77_2_eq, if_neg (by decide), aBin_eql, bnd_some, show (39 : Int) = ((39 : Nat) : Int) from rfl, h39]
        have k6 : ∀ b : Bool, ∃ m', k_f77_6 (.str (bs s)) (.int .i64 i) (.int .i64 (i + 1 : Nat)) (.bool b) m = some (.ret (rOneRes i (if b = true then (4, 1 + run tickB (s.drop (i + 1))) else firstSign (s[i] :: s.drop (i + 1)) signs)), m') ∧ Kept m m' := by
          intro b
          rw [k_f77_6_eq]
          cases b with
          | true =>
            rw [onBool_true, rtick_loop s hs m _ (i + 1) rfl (by omega), if_pos rfl]
            refine ⟨m, ?_, .refl _ _⟩
            rw [rOneRes_pos _ _ (by decide), show i + (1 + run tickB (s.drop (i + 1))) = i + 1 + run tickB (s.drop (i + 1)) by omega]; rfl
          | false =>
            rw [onBool_false, if_neg (by decide)]
            have := hsig m
            rw [hd] at this; exact this
        cases h9 : (s[i] == UInt8.ofNat 39) with
        | false =>
          rw [onWant_false, Bool.false_and]; exact k6 false
        | true =>
          rw [onWant_true, Bool.true_and, rLenStr_bs, bnd_some, aBin_lss, bnd_some]
          by_cases hl : i + 1 < s.length
          · have hd2 : s.drop (i + 1) = s[i + 1] :: s.drop (i + 2) := List.drop_eq_getElem_cons hl
            have hdl : decide ((((i + 1 : Nat) : Int)) < (s.length : Nat)) = true := decide_eq_true (by omega)
            rw [hdl, onWant_true, rIxStr_get hl, bnd_some, rsmall_s, retK_ret]
            have hh : headSmall (s.drop (i + 1)) = smallB s[i + 1] := by rw [hd2]; rfl
            rw [hh]; exact k6 _
          · have hdl : decide ((((i + 1 : Nat) : Int)) < (s.length : Nat)) = false := decide_eq_false (by omega)
            have hh : headSmall (s.drop (i + 1)) = false := by rw [List.drop_of_length_le (by omega)]; rfl
            rw [hdl, onWant_false, hh]; exact k6 false
  cases h1 : smallB s[i] with
  | true => rw [onWant_true]; exact key true (by simp [h1])
  | false =>
    rw [onWant_false]
    cases h2 : greatB s[i] with
    | true => rw [onWant_true]; exact key true (by simp [h2])
    | false =>
      rw [onWant_false]
      exact key _ (by rw [h1, h2]; simp)
end Go.AM
namespace Go.AM.Lx
theorem lex_bounds : ∀ (n : Nat) (l : List UInt8) (a : Nat), l.length ≤ n → ∀ t ∈ lex l a, a ≤ t.f ∧ t.f < t.t ∧ t.t ≤ a + l.length
  | _, [], a, _ => by simp [lex_nil]
  | 0, c :: r, a, h => by simp at h
  | n + 1, c :: r, a, h => by
    simp only [List.length_cons] at h
    rw [lex_cons]
    split
    · intro t ht
      have := lex_bounds n r (a + 1) (by omega) t ht
      simp; omega
    · split
      · split
        · intro t ht
          simp at ht; subst ht; simp
        · rename_i k hk
          have hk2 := rem_le _ _ _ k (Nat.le_refl _) hk
          intro t ht
          have := lex_bounds n _ _ (by simp; omega) t ht
          simp at this hk2 ⊢; omega
      · have hp := piece_pos (c :: r)
        have hp2 := piece_le (l := c :: r) (by simp)
        intro t ht
        rcases List.mem_cons.1 ht with rfl | ht
        · simp at hp2 ⊢; omega
        · have := lex_bounds n _ _ (by simp; omega) t ht
          simp at this hp2 ⊢; omega
/-- the white and the remark of LexMoved -/
def ww : List UInt8 := [10, 32, 40, 42, 32, 108, 101, 116, 32, 41, 32, 42, 41, 32]
theorem run_blank {p : UInt8 → Bool} (hp : p 32 = false) (y : List UInt8) : ∀ l : List UInt8, run p (l ++ 32 :: y) = run p l
  | [] => by simp [run, hp]
  | c :: l => by
    have := run_blank hp y l
    unfold run at this ⊢
    simp only [List.cons_append, List.takeWhile_cons]
    split
    · simp [this]
    · rfl
theorem pre_blank (y : List UInt8) : ∀ {w l : List UInt8}, 32 ∉ w → (w <+: l ++ 32 :: y ↔ w <+: l)
  | [], l, _ => by simp
  | x :: w, [], h => by
    simp only [List.mem_cons, not_or] at h
    constructor
    · rintro ⟨z, hz⟩
      simp at hz
      exact absurd hz.1.symm h.1
    · rintro ⟨z, hz⟩; simp at hz
  | x :: w, c :: l, h => by
    simp only [List.mem_cons, not_or] at h
    rw [List.cons_append, List.cons_prefix_cons, List.cons_prefix_cons, pre_blank y h.2]
theorem signs_blank : ∀ w ∈ signs, (32 : UInt8) ∉ w := by decide
theorem firstSign_blank (l y : List UInt8) : ∀ ws : List (List UInt8), (∀ w ∈ ws, (32 : UInt8) ∉ w) → firstSign (l ++ 32 :: y) ws = firstSign l ws
  | [], _ => rfl
  | w :: ws, h => by
    simp only [firstSign, pre_blank y (h w (by simp)), firstSign_blank l y ws (fun w hw => h w (by simp [hw]))]
theorem one_blank (y : List UInt8) (c : UInt8) (r : List UInt8) : one (c :: r ++ 32 :: y) = one (c :: r) := by
  have e : c :: r ++ 32 :: y = c :: (r ++ 32 :: y) := rfl
  have h1 := run_blank (p := wordB) (by rfl) y r
  have h2 := run_blank (p := digitB) (by rfl) y r
  have h3 := run_blank (p := tickB) (by rfl) y r
  have h4 : headSmall (r ++ 32 :: y) = headSmall r := by cases r <;> rfl
  have h5 := firstSign_blank (c :: r) y signs signs_blank
  rw [e, one_cons, one_cons, h1, h2, h3, h4, ← e, h5]
  have h6 : (r ++ 32 :: y).take (run wordB r) = r.take (run wordB r) := List.take_append_of_le_length (run_le _ _)
  rw [h6]
theorem noth_blank (y : List UInt8) : ∀ r : List UInt8, noth (r ++ 32 :: y) = noth r
  | [] => by simp [noth, whiteB]
  | c :: r => by
    have e : c :: r ++ 32 :: y = c :: (r ++ 32 :: y) := rfl
    rw [e]
    simp only [noth]
    rw [← e, one_blank, noth_blank y r]
theorem piece_blank (y : List UInt8) (c : UInt8) (r : List UInt8) : piece (c :: r ++ 32 :: y) = piece (c :: r) := by
  unfold piece
  rw [one_blank]
  have : (c :: r ++ 32 :: y).tail = r ++ 32 :: y := rfl
  rw [this, noth_blank]; rfl
theorem opens_blank (l y : List UInt8) : opens (l ++ 32 :: y) = opens l := by
  unfold opens
  rw [Bool.eq_iff_iff, List.isPrefixOf_iff_prefix, List.isPrefixOf_iff_prefix, pre_blank y (by decide)]
end Go.AM.Lx
namespace Go.AM.Lx
theorem run_take (p : UInt8 → Bool) (l : List UInt8) : run p (l.take (run p l)) = run p l := by
  unfold run
  have : l.take (l.takeWhile p).length = l.takeWhile p := by
    have h := List.prefix_iff_eq_take.1 (List.takeWhile_prefix (l := l) p)
    exact h.symm
  rw [this]
  congr 1
  induction l with
  | nil => rfl
  | cons c l ih =>
    simp only [List.takeWhile_cons]
    split
    · rename_i h
      rw [List.takeWhile_cons, if_pos h]
      congr 1
      exact ih (List.prefix_iff_eq_take.1 (List.takeWhile_prefix (l := l) p)).symm
    · rfl
theorem firstSign_take (l : List UInt8) : ∀ (ws : List (List UInt8)) (n : Nat), firstSign l ws = (6, n) → firstSign (l.take n) ws = (6, n)
  | [], n, h => by simp [firstSign] at h
  | w :: ws, n, h => by
    simp only [firstSign] at h ⊢
    by_cases hw : w <+: l
    · rw [if_pos hw] at h
      injection h with _ h; subst h
      rw [if_pos]
      rw [List.prefix_iff_eq_take] at hw
      rw [← hw]; exact ⟨[], by simp⟩
    · rw [if_neg hw] at h
      rw [if_neg (fun hp => hw (hp.trans (List.take_prefix n l))), firstSign_take l ws n h]
theorem one_take : ∀ (l : List UInt8), (one l).1 ≠ 0 → one (l.take (one l).2) = one l
  | [], h => by simp [one] at h
  | c :: r, h => by
    rw [one_cons] at h
    rw [one_cons c r]
    by_cases h1 : (c == 95 || smallB c || greatB c) = true
    · rw [if_pos h1]
      have e : (c :: r).take (1 + run wordB r) = c :: r.take (run wordB r) := by rw [Nat.add_comm]; rfl
      simp only []
      rw [e, one_cons, if_pos h1, run_take, List.take_take, Nat.min_self]
    · rw [if_neg h1] at h ⊢
      by_cases h2 : digitB c = true
      · rw [if_pos h2]
        have e : (c :: r).take (1 + run digitB r) = c :: r.take (run digitB r) := by rw [Nat.add_comm]; rfl
        simp only []
        rw [e, one_cons, if_neg h1, if_pos h2, run_take]
      · rw [if_neg h2] at h ⊢
        by_cases h3 : (c == 39 && headSmall r) = true
        · rw [if_pos h3]
          have e : (c :: r).take (1 + run tickB r) = c :: r.take (run tickB r) := by rw [Nat.add_comm]; rfl
          simp only []
          have h4 : headSmall (r.take (run tickB r)) = headSmall r := by
            simp only [Bool.and_eq_true] at h3
            match r, h3.2 with
            | d :: r', hd =>
              have ht : tickB d = true := by unfold tickB; unfold headSmall at hd; simp [hd]
              have : run tickB (d :: r') = run tickB r' + 1 := by simp [run, ht]
              rw [this]; rfl
          rw [e, one_cons, if_neg h1, if_neg h2, h4, if_pos h3, run_take]
        · rw [if_neg h3] at h ⊢
          rcases firstSign_cases (c :: r) signs with ⟨h', _⟩ | ⟨w, hw, hp, h'⟩
          · rw [h'] at h; exact absurd rfl h
          · have := firstSign_take (c :: r) signs w.length h'
            rw [h']
            have hwl := (signs_len w hw).1
            match hn : w.length, hwl with
            | n + 1, _ =>
              rw [hn] at this
              simp only [List.take_succ_cons] at this ⊢
              rw [one_cons, if_neg h1, if_neg h2, if_neg, this]
              intro h5
              apply h3
              simp only [Bool.and_eq_true] at h5 ⊢
              refine ⟨h5.1, ?_⟩
              match n, r, h5.2 with
              | n + 1, d :: r', h6 => exact h6
def headWhite : List UInt8 → Bool
  | c :: _ => whiteB c
  | [] => true
structure Good (k : Nat) (w : List UInt8) : Prop where
  white : headWhite w = false
  opens : opens w = false
  one : one w = (k, w.length)
  kind : k ≠ 0
theorem lex_good (s : List UInt8) : ∀ (n : Nat) (l : List UInt8) (a : Nat), l.length ≤ n → s.drop a = l → ∀ t ∈ lex l a, t.k ≠ 7 → Good t.k ((s.take t.t).drop t.f)
  | _, [], a, _, _ => by simp [lex_nil]
  | 0, c :: r, a, h, _ => by simp at h
  | n + 1, c :: r, a, h, hs => by
    simp only [List.length_cons] at h
    have hs1 : ∀ k, s.drop (a + k) = (c :: r).drop k := fun k => by rw [← List.drop_drop, hs]
    rw [lex_cons]
    split
    · exact lex_good s n r (a + 1) (by omega) (by rw [hs1 1]; rfl)
    · rename_i hw
      split
      · split
        · intro t ht hk
          simp at ht; subst ht; exact absurd rfl hk
        · rename_i k hk
          have hk2 := rem_le _ _ _ k (Nat.le_refl _) hk
          exact lex_good s n _ _ (by simp; omega) (hs1 k)
      · rename_i ho
        have hp := piece_pos (c :: r)
        intro t ht hk
        rcases List.mem_cons.1 ht with rfl | ht
        · simp only [] at hk
          have hpe : piece (c :: r) = one (c :: r) ∧ (one (c :: r)).1 ≠ 0 := by
            unfold piece at hk ⊢
            split
            · rename_i h0; rw [if_pos h0] at hk; exact absurd rfl hk
            · rename_i h0; exact ⟨rfl, h0⟩
          have hle := one_le (c :: r)
          have e : (s.take (a + (piece (c :: r)).2)).drop a = (c :: r).take (one (c :: r)).2 := by
            rw [hpe.1, List.drop_take, hs, Nat.add_sub_cancel_left]
          have h1 := one_take (c :: r) hpe.2
          simp only []
          rw [e]
          have hpos := one_pos (c :: r) hpe.2
          match hn : (one (c :: r)).2, hpos with
          | j + 1, _ =>
            rw [hn] at h1 hle
            refine ⟨by simpa [headWhite] using hw, ?_, ?_, by rw [hpe.1]; exact hpe.2⟩
            · cases hb : opens ((c :: r).take (j + 1)) with
              | false => rfl
              | true =>
                exfalso; apply ho
                unfold opens at hb ⊢
                rw [List.isPrefixOf_iff_prefix] at hb ⊢
                exact hb.trans (List.take_prefix _ _)
            · rw [h1, hpe.1, List.length_take, Nat.min_eq_left hle]
              exact Prod.ext rfl hn
        · exact lex_good s n _ _ (by simp; omega) (hs1 _) t ht hk
theorem good_lex {k : Nat} {w : List UInt8} (h : Good k w) (y : List UInt8) (a : Nat) : lex (w ++ 32 :: y) a = ⟨k, a, a + w.length⟩ :: lex y (a + w.length + 1) := by
  match w, h with
  | c :: r, h =>
    have hw := h.white
    have hp : piece (c :: r) = (k, (c :: r).length) := by
      unfold piece
      rw [h.one, if_neg h.kind]
    have e : c :: r ++ 32 :: y = c :: (r ++ 32 :: y) := rfl
    rw [e, lex_cons, ← e, opens_blank, h.opens, piece_blank, hp]
    simp only [headWhite] at hw
    rw [hw]
    simp only [Bool.false_eq_true, if_false]
    congr 1
    rw [List.drop_append_of_le_length (Nat.le_refl _), List.drop_length, List.nil_append, lex_cons, if_pos (by rfl)]
def joinW : List (Nat × List UInt8) → List UInt8
  | [] => []
  | (_, w) :: ws => w ++ 32 :: joinW ws
def placed : List (Nat × List UInt8) → Nat → List Tok
  | [], _ => []
  | (k, w) :: ws, a => ⟨k, a, a + w.length⟩ :: placed ws (a + w.length + 1)
theorem lex_join : ∀ (ws : List (Nat × List UInt8)) (a : Nat), (∀ p ∈ ws, Good p.1 p.2) → lex (joinW ws) a = placed ws a
  | [], a, _ => lex_nil a
  | (k, w) :: ws, a, h => by
    show lex (w ++ 32 :: joinW ws) a = _
    rw [good_lex (h (k, w) (by simp)), lex_join ws _ (fun p hp => h p (by simp [hp]))]
    rfl
theorem placed_words : ∀ (ws : List (Nat × List UInt8)) (pre : List UInt8), (placed ws pre.length).map (fun t => (t.k, ((pre ++ joinW ws).take t.t).drop t.f)) = ws
  | [], pre => rfl
  | (k, w) :: ws, pre => by
    have h := placed_words ws (pre ++ w ++ [32])
    have e : pre ++ w ++ [32] ++ joinW ws = pre ++ joinW ((k, w) :: ws) := by simp [joinW]
    have l : (pre ++ w ++ [32]).length = pre.length + w.length + 1 := by simp; omega
    rw [e, l] at h
    simp only [placed, List.map_cons]
    rw [h]
    congr 2
    have : pre ++ joinW ((k, w) :: ws) = pre ++ w ++ 32 :: joinW ws := by simp [joinW]
    rw [this, List.take_append_of_le_length (by simp), List.take_of_length_le (by simp), List.drop_left']
    rfl
/-- a token's kind and word -/
def kw (s : List UInt8) (t : Tok) : Nat × List UInt8 := (t.k, (s.take t.t).drop t.f)
theorem again (s : List UInt8) (h : ∀ t ∈ lex s 0, t.k ≠ 7) : (lex (joinW ((lex s 0).map (kw s))) 0).map (kw (joinW ((lex s 0).map (kw s)))) = (lex s 0).map (kw s) := by
  have hg : ∀ p ∈ (lex s 0).map (kw s), Good p.1 p.2 := by
    intro p hp
    obtain ⟨t, ht, rfl⟩ := List.mem_map.1 hp
    exact lex_good s _ s 0 (Nat.le_refl _) rfl t ht (h t ht)
  rw [lex_join _ 0 hg]
  exact placed_words ((lex s 0).map (kw s)) []
end Go.AM.Lx
namespace Go.AM
open Go Go.Proofs Lx
set_option linter.unusedSimpArgs false
set_option linter.unusedVariables false
theorem rnoth_loop (s : List UInt8) (hs : s.length ≤ 1000000000) (v i kd : AV) : ∀ (k j : Nat) (m : Mem), s.length - j = k → j ≤ s.length →
    ∃ m', l_f42_2 (.str (bs s)) v i kd (.int .i64 j) m = k_f42_5 (.str (bs s)) v i kd (.int .i64 (j + noth (s.drop j) : Nat)) m' ∧ Kept m m'
  | 0, j, m, hk, hj => by
    have : j = s.length := by omega
    subst this
    rw [l_f42_2_eq]
    simp only [rLenStr_bs, bnd_some, aBin_lss, Int.lt_irrefl, decide_false, onWant_false, k_f42_7_eq, onBool_false]
    exact ⟨m, by simp [noth], .refl _ _⟩
  | k + 1, j, m, hk, hj => by
    have hlt : j < s.length := by omega
    have hd : s.drop j = s[j] :: s.drop (j + 1) := List.drop_eq_getElem_cons hlt
    rw [l_f42_2_eq]
    simp only [rLenStr_bs, bnd_some, aBin_lss, Int.ofNat_lt, hlt, decide_true, onWant_true, rIxStr_get hlt, rwhite_s, retK_ret, aUn_not, k_f42_7_eq]
    cases hw : whiteB s[j] with
    | true =>
      have e : noth (s.drop j) = 0 := by rw [hd, noth, if_pos (.inr hw)]
      rw [e, Nat.add_zero]
      simp only [Bool.not_true, onBool_false]
      exact ⟨m, rfl, .refl _ _⟩
    | false =>
      obtain ⟨m1, h1, h2⟩ := rone_s s hs j hlt m
      simp only [Bool.not_false, onBool_true, k_f42_6_eq, h1, retK_ret]
      by_cases h0 : (one (s.drop j)).1 = 0
      · have e : noth (s.drop j) = 1 + noth (s.drop (j + 1)) := by
          rw [hd] at h0 ⊢
          rw [noth, if_neg]
          rintro (h | h)
          · exact h h0
          · rw [hw] at h; cases h
        have hr : rOneRes j (one (s.drop j)) = .tup [.int .i64 0, .int .i64 0] := if_pos h0
        rw [hr, e]
        simp only [aExtract_tup, List.getElem?_cons_zero, List.getElem?_cons_succ, bnd_some, aBin_neq, ne_eq, not_true_eq_false, decide_false, onBool_false, k_f42_8_eq, aBin_add]
        simp (disch := omega) only [wrap64]
        obtain ⟨m', h3, h4⟩ := rnoth_loop s hs v i kd k (j + 1) m1 (by omega) (by omega)
        refine ⟨m', ?_, h2.trans h4⟩
        rw [show ((j : Int) + 1) = ((j + 1 : Nat) : Int) from rfl, h3, show j + 1 + noth (s.drop (j + 1)) = j + (1 + noth (s.drop (j + 1))) by omega]
      · have e : noth (s.drop j) = 0 := by
          rw [hd] at h0 ⊢
          rw [noth, if_pos (.inl h0)]
        have hr : rOneRes j (one (s.drop j)) = .tup [.int .i64 (one (s.drop j)).1, .int .i64 (j + (one (s.drop j)).2 : Nat)] := if_neg h0
        have hz : decide ((((one (s.drop j)).1 : Nat) : Int) ≠ 0) = true := decide_eq_true (by omega)
        rw [hr, e, Nat.add_zero]
        simp only [aExtract_tup, List.getElem?_cons_zero, List.getElem?_cons_succ, bnd_some, aBin_neq, hz, onBool_true]
        exact ⟨m1, rfl, h2⟩
theorem rlexLoop (s : List UInt8) (hs : s.length ≤ 1000000000) : ∀ (k a : Nat) (b : Nat) (v : AV) (acc : List Tok) (m : Mem), s.length - a < k → a ≤ s.length → App b 3 m v (toks acc) → b ≤ m.next → acc.length ≤ a →
    ∃ v' m', l_f42_0 (.str (bs s)) v (.int .i64 a) m = some (.ret v', m') ∧ App b 3 m' v' (toks (acc ++ lex (s.drop a) a)) ∧ Keeps b m m' := by
  intro k
  induction k with
  | zero => intro a b v acc m hk; omega
  | succ k ih =>
    intro a b v acc m hk ha hv hb hacc
    rw [l_f42_0_eq]
    simp only [rLenStr_bs, bnd_some, aBin_lss]
    by_cases hlt : a < s.length
    · have hd : s.drop a = s[a] :: s.drop (a + 1) := List.drop_eq_getElem_cons hlt
      have hdl : decide ((a : Int) < (s.length : Nat)) = true := decide_eq_true (by omega)
      have hlen : (s.drop a).length = s.length - a := by simp
      have hlex := lex_cons s[a] (s.drop (a + 1)) a
      rw [← hd] at hlex
      rw [hlex]
      simp only [hdl, onBool_true, k_f42_1_eq, rIxStr_get hlt, bnd_some, rwhite_s, retK_ret]
      cases hw : whiteB s[a] with
      | true =>
        simp only [onBool_true, aBin_add, bnd_some, if_true]
        simp (disch := omega) only [wrap64]
        exact ih (a + 1) b v acc m (by omega) (by omega) hv hb (by omega)
      | false =>
        simp only [onBool_false, k_f42_2_eq, at_s s [40, 42] (by omega) (by decide) a ha m, retK_ret, Bool.false_eq_true, if_false]
        rw [opens_iff]
        by_cases ho : [40, 42] <+: s.drop a
        · have hrem := rremark_s s m hs (s.length - a) a 0 (Nat.le_refl _) ha (by omega) (by omega)
          simp only [ho, decide_true, onBool_true, if_true, e_f76, hrem, retK_ret]
          cases hr : rem (s.drop a) 0 with
          | none =>
            simp only [rremRes, aBin_eql, decide_true, bnd_some, onBool_true, rLenStr_bs, build3i, tok1]
            obtain ⟨v', m', h1, h2, h3⟩ := tok_app hv hb (by omega) ⟨7, a, s.length⟩
            have h1' : rAppend A_api_Token 0 m v (.sl .full [.agg [.int .i64 7, .int .i64 a, .int .i64 s.length]]) = some (v', m') := h1
            rw [h1', memK_some]
            refine ⟨v', m', rfl, ?_, h3⟩
            rw [hlen, show a + (s.length - a) = s.length by omega]; exact h2
          | some j =>
            have hj := rem_le _ _ _ _ (Nat.le_refl _) hr
            have hz : decide ((((a + j : Nat) : Int)) = 0) = false := decide_eq_false (by omega)
            simp only [rremRes, aBin_eql, hz, bnd_some, onBool_false, k_f42_4_eq]
            obtain ⟨v', m', h1, h2, h3⟩ := ih (a + j) b v acc m (by omega) (by omega) hv hb (by omega)
            refine ⟨v', m', h1, ?_, h3⟩
            rw [List.drop_drop]; exact h2
        · obtain ⟨m1, ho1, ho2⟩ := rone_s s hs a hlt m
          have hv1 := hv.kept ho2
          have hb1 : b ≤ m1.next := Nat.le_trans hb ho2.next
          have hpl : (piece (s.drop a)).2 ≤ s.length - a := by rw [← hlen]; exact piece_le (by intro h; rw [hd] at h; cases h)
          have hpp := piece_pos (s.drop a)
          have fin : ∀ m2, Kept m1 m2 → ∃ v' m', k_f42_5 (.str (bs s)) v (.int .i64 a) (.int .i64 (piece (s.drop a)).1) (.int .i64 (a + (piece (s.drop a)).2 : Nat)) m2 = some (.ret v', m') ∧
              App b 3 m' v' (toks (acc ++ ⟨(piece (s.drop a)).1, a, a + (piece (s.drop a)).2⟩ :: lex ((s.drop a).drop (piece (s.drop a)).2) (a + (piece (s.drop a)).2))) ∧ Keeps b m m' := by
            intro m2 hk2
            obtain ⟨v1, m3, h1, h2, h3⟩ := tok_app (hv1.kept hk2) (Nat.le_trans hb1 hk2.next) (by omega) ⟨(piece (s.drop a)).1, a, a + (piece (s.drop a)).2⟩
            rw [k_f42_5_eq, build3i, bnd_some, tok1, bnd_some, h1, memK_some]
            obtain ⟨v', m', h4, h5, h6⟩ := ih (a + (piece (s.drop a)).2) b v1 _ m3 (by omega) (by omega) h2 (Nat.le_trans (Nat.le_trans hb1 hk2.next) h3.next) (by simp; omega)
            refine ⟨v', m', h4, ?_, (((ho2.less hb).trans (hk2.less hb1)).trans h3).trans h6⟩
            rw [List.drop_drop]; simpa using h5
          simp only [ho, decide_false, onBool_false, Bool.false_eq_true, if_false, k_f42_3_eq, ho1, retK_ret]
          by_cases h0 : (one (s.drop a)).1 = 0
          · have hp : piece (s.drop a) = (7, 1 + noth (s.drop (a + 1))) := by unfold piece; rw [if_pos h0, hd]; rfl
            have hr : rOneRes a (one (s.drop a)) = .tup [.int .i64 0, .int .i64 0] := if_pos h0
            rw [hr]
            simp only [aExtract_tup, List.getElem?_cons_zero, List.getElem?_cons_succ, bnd_some, aBin_eql, decide_true, onBool_true, aBin_add]
            rw [wrap64 (by omega) (by omega)]
            obtain ⟨m2, h1, h2⟩ := rnoth_loop s hs v (.int .i64 a) (.int .i64 7) _ (a + 1) m1 rfl (by omega)
            rw [show ((a : Int) + 1) = ((a + 1 : Nat) : Int) from rfl, h1]
            have := fin m2 h2
            rw [hp] at this ⊢
            rw [show a + (1 + noth (s.drop (a + 1))) = a + 1 + noth (s.drop (a + 1)) by omega] at this ⊢
            exact this
          · have hp : piece (s.drop a) = one (s.drop a) := by unfold piece; rw [if_neg h0]
            have hr : rOneRes a (one (s.drop a)) = .tup [.int .i64 (one (s.drop a)).1, .int .i64 (a + (one (s.drop a)).2 : Nat)] := if_neg h0
            have hz : decide ((((one (s.drop a)).1 : Nat) : Int) = 0) = false := decide_eq_false (by omega)
            rw [hr]
            simp only [aExtract_tup, List.getElem?_cons_zero, List.getElem?_cons_succ, bnd_some, aBin_eql, hz, onBool_false]
            have := fin m1 (.refl _ _)
            rw [hp] at this ⊢
            exact this
    · have : a = s.length := by omega
      subst this
      have hdl : decide (((s.length : Nat) : Int) < (s.length : Nat)) = false := decide_eq_false (by omega)
      simp only [hdl, onBool_false, k_f42_0_eq]
      refine ⟨v, m, rfl, ?_, .refl _ _⟩
      rw [List.drop_length, lex_nil, List.append_nil]; exact hv
theorem rempty : rBuildSlice A_api_Token 0 [] = some (.sl .full []) := by kernel_rfl
theorem rlex_s (s : List UInt8) (hs : s.length ≤ 1000000000) (m : Mem) :
    ∃ v m', w_f42 (.str (bs s)) m = some (.ret v, m') ∧ App m.next 3 m' v (toks (lex s 0)) ∧ Kept m m' := by
  obtain ⟨v, m', h1, h2, h3⟩ := rlexLoop s hs (s.length + 1) 0 m.next (.sl .full []) [] m (by omega) (Nat.zero_le _) (.full [] rfl) (Nat.le_refl _) (Nat.le_refl _)
  exact ⟨v, m', by rw [e_f42, rempty, bnd_some]; exact h1, by simpa using h2, h3⟩
namespace Lx
/-- a word's kind by its tokens -/
def rkindS (w : List UInt8) : Nat := match lex w 0 with
  | [t] => if t.f = 0 ∧ t.t = w.length ∧ t.k ≠ 7 then t.k else 0
  | _ => 0
theorem rkind_eq (w : List UInt8) : rkindS w = kindS w := by
  cases w with
  | nil => rfl
  | cons c r =>
    unfold rkindS kindS
    have hne : ¬ (c :: r = ([] : List UInt8)) := by simp
    have hb := lex_bounds _ (c :: r) 0 (Nat.le_refl _)
    rw [lex_cons] at hb ⊢
    by_cases hw : whiteB c = true
    · rw [if_pos hw] at hb ⊢
      have hb1 := lex_bounds _ r (0 + 1) (Nat.le_refl _)
      have hk : one (c :: r) = (0, 0) := by
        have : ∀ c : UInt8, whiteB c = true → (c == 95 || smallB c || greatB c) = false ∧ digitB c = false ∧ (c == 39) = false ∧ (∀ w ∈ signs, w.head? ≠ some c) := by
          intro c
          exact bytes_all (p := fun c => whiteB c = true → (c == 95 || smallB c || greatB c) = false ∧ digitB c = false ∧ (c == 39) = false ∧ (∀ w ∈ signs, w.head? ≠ some c)) (by decide +kernel) c
        obtain ⟨h1, h2, h3, h4⟩ := this c hw
        rw [one_cons, if_neg (by rw [h1]; decide), if_neg (by rw [h2]; decide), if_neg (by rw [h3]; simp)]
        rcases firstSign_cases (c :: r) signs with ⟨h', _⟩ | ⟨w, hw', hp, h'⟩
        · exact h'
        · exfalso
          have hl := (signs_len w hw').1
          match w, hp, hl with
          | x :: w', hp, _ =>
            rw [List.cons_prefix_cons] at hp
            exact h4 _ hw' (by simp [hp.1])
      have rhs : (if c :: r = [] ∨ [40, 42] <+: c :: r then 0 else if (one (c :: r)).2 = (c :: r).length then (one (c :: r)).1 else 0) = 0 := by
        rw [hk]; split; rfl; split <;> rfl
      rw [rhs]
      split
      · rename_i t ht
        have := hb1 t (by rw [ht]; simp)
        rw [if_neg (by omega)]
      · rfl
    · rw [if_neg hw] at hb ⊢
      by_cases ho : opens (c :: r) = true
      · have ho' : [40, 42] <+: c :: r := by unfold opens at ho; rw [List.isPrefixOf_iff_prefix] at ho; exact ho
        rw [if_pos ho] at hb ⊢
        rw [if_pos (.inr ho')]
        cases hr : rem (c :: r) 0 with
        | none => simp
        | some k =>
          have hk2 := rem_le _ _ _ k (Nat.le_refl _) hr
          have hb1 := lex_bounds _ ((c :: r).drop k) (0 + k) (Nat.le_refl _)
          simp only []
          split
          · rename_i t ht
            have := hb1 t (by rw [ht]; simp)
            rw [if_neg (by omega)]
          · rfl
      · have ho' : ¬ [40, 42] <+: c :: r := by unfold opens at ho; rw [List.isPrefixOf_iff_prefix] at ho; exact ho
        rw [if_neg ho] at hb ⊢
        rw [if_neg (by rintro (h | h); exact hne h; exact ho' h)]
        have hle := piece_le (l := c :: r) hne
        by_cases hfull : (piece (c :: r)).2 = (c :: r).length
        · rw [hfull, List.drop_length, lex_nil]
          simp only [Nat.zero_add, true_and]
          unfold piece at hfull ⊢
          by_cases h0 : (one (c :: r)).1 = 0
          · rw [if_pos h0]
            simp only [ne_eq, not_true_eq_false, if_false, h0]
            split <;> rfl
          · rw [if_neg h0] at hfull ⊢
            rw [hfull, if_pos rfl]
            have h7 : (one (c :: r)).1 ≠ 7 := by
              rw [one_cons]
              split
              · show named _ ≠ 7
                unfold named; split; decide; split; decide; simp only []; split <;> decide
              · split
                · show (3 : Nat) ≠ 7; decide
                · split
                  · show (4 : Nat) ≠ 7; decide
                  · rcases firstSign_cases (c :: r) signs with ⟨h', _⟩ | ⟨w, hw', hp, h'⟩
                    · rw [h']; decide
                    · rw [h']; show (6 : Nat) ≠ 7; decide
            rw [if_pos h7]
        · have rhs : (if (one (c :: r)).2 = (c :: r).length then (one (c :: r)).1 else 0) = 0 := by
            by_cases h0 : (one (c :: r)).1 = 0
            · rw [h0]; split <;> rfl
            · rw [if_neg]
              intro h
              apply hfull
              unfold piece; rw [if_neg h0]; exact h
          rw [rhs]
          split
          · rename_i t ht
            injection ht with h1 h2
            rw [← h1, if_neg]
            rintro ⟨_, h, _⟩
            exact hfull (by simpa using h)
          · rfl
end Lx
theorem rkind_s (w : List UInt8) (hl : w.length ≤ 1000000000) (m : Mem) : ∃ m', w_f16 (.str (bs w)) m = some (.ret (.int .i64 (kindS w)), m') ∧ Kept m m' := by
  obtain ⟨v, m1, h1, h2, h3⟩ := rlex_s w hl m
  have h4 := h2.hsl; rw [toks_tis] at h4
  refine ⟨m1, ?_, h3⟩
  rw [e_f16, h1, retK_ret, h4.len, bnd_some, ← rkind_eq]
  unfold rkindS
  match hlx : lex w 0 with
  | [] => simp [k_f16_1_eq]
  | a :: b :: r =>
    have : decide ((((tis ((a :: b :: r).map Tok.ti)).length : Nat) : Int) ≠ 1) = true := decide_eq_true (by simp; omega)
    rw [hlx] at h4
    simp only [aBin_neq, this, bnd_some, onWant_true, k_f16_1_eq, onBool_true]; rfl
  | [t] =>
    rw [hlx] at h4
    have hix : rIxAddrSl 3 v (.int .i64 0) = some (.pim [.int .i64 t.k, .int .i64 t.f, .int .i64 t.t]) := ti_ix h4 (n := 0) (by simp)
    have : decide ((((tis ([t].map Tok.ti)).length : Nat) : Int) ≠ 1) = false := decide_eq_false (by simp)
    simp only [aBin_neq, this, bnd_some, onWant_false, hix, rFieldAddr_pim, rLoad_pimc, List.drop_zero, List.drop_succ_cons, List.getElem?_cons_zero, k_f16_1_eq, k_f16_0_eq, onBool_true, rLenStr_bs, aBin_eql]
    by_cases a1 : t.f = 0
    · have : decide (((t.f : Nat) : Int) ≠ 0) = false := decide_eq_false (by omega)
      simp only [this, onWant_false]
      by_cases a2 : t.t = w.length
      · have : decide (((t.t : Nat) : Int) ≠ (w.length : Nat)) = false := decide_eq_false (by omega)
        simp only [this, onWant_false]
        by_cases a3 : t.k = 7
        · have : decide (((t.k : Nat) : Int) = 7) = true := decide_eq_true (by omega)
          simp only [this, onBool_true]
          rw [if_neg (by simp [a3])]; rfl
        · have : decide (((t.k : Nat) : Int) = 7) = false := decide_eq_false (by omega)
          simp only [this, onBool_false]
          rw [if_pos ⟨a1, a2, a3⟩]
      · have : decide (((t.t : Nat) : Int) ≠ (w.length : Nat)) = true := decide_eq_true (by omega)
        simp only [this, onWant_true]
        rw [if_neg (by simp [a2])]; rfl
    · have : decide (((t.f : Nat) : Int) ≠ 0) = true := decide_eq_true (by omega)
      simp only [this, onWant_true]
      rw [if_neg (by simp [a1])]; rfl
end Go.AM
