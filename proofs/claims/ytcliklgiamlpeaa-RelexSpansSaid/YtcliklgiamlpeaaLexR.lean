/-
  The document's lexer computes the lexer in plain Lean.
-/
import Derived.Test.YtcliklgiamlpeaaLexC
namespace Go.AM
open Go Go.Proofs Lx
set_option linter.unusedSimpArgs false
set_option linter.unusedVariables false

theorem u8_eq' (c : UInt8) (n : Nat) (hn : n < 256) : decide ((c.toNat : Int) = (n : Int)) = decide (c = UInt8.ofNat n) := by
  rw [u8_eq c n hn]; by_cases h : c = UInt8.ofNat n <;> simp [h]

theorem rwhite_s (c : UInt8) (m : Mem) : w_r08_white (.int .u8 c.toNat) m = some (.ret (.bool (whiteB c)), m) := by
  have h1 := u8_eq c 32 (by decide); have h2 := u8_eq c 9 (by decide); have h3 := u8_eq c 10 (by decide); have h4 := u8_eq c 13 (by decide)
  rw [e_r08_white]
  simp only [aBin_eql, bnd_some]
  rw [show (32 : Int) = ((32 : Nat) : Int) from rfl, show (9 : Int) = ((9 : Nat) : Int) from rfl, show (10 : Int) = ((10 : Nat) : Int) from rfl, show (13 : Int) = ((13 : Nat) : Int) from rfl, h1, h2, h3, h4]
  show _ = some (AOut.ret (AV.bool (c == UInt8.ofNat 32 || c == UInt8.ofNat 9 || c == UInt8.ofNat 10 || c == UInt8.ofNat 13)), m)
  cases (c == UInt8.ofNat 32) <;> cases (c == UInt8.ofNat 9) <;> cases (c == UInt8.ofNat 10) <;> simp

theorem rsmall_s (c : UInt8) (m : Mem) : w_r08_small (.int .u8 c.toNat) m = some (.ret (.bool (smallB c)), m) := by
  rw [e_r08_small]
  simp only [aBin_geq, aBin_leq, bnd_some]
  unfold smallB
  by_cases h1 : 97 ≤ c.toNat
  · have : (97 : Int) ≤ (c.toNat : Nat) := by omega
    simp only [decide_eq_true this, onWant_true]
    congr 4; apply decide_eq_decide.2; omega
  · have : ¬ (97 : Int) ≤ (c.toNat : Nat) := by omega
    simp only [decide_eq_false this, onWant_false]
    rw [decide_eq_false (by omega)]
theorem rgreat_s (c : UInt8) (m : Mem) : w_r08_great (.int .u8 c.toNat) m = some (.ret (.bool (greatB c)), m) := by
  rw [e_r08_great]
  simp only [aBin_geq, aBin_leq, bnd_some]
  unfold greatB
  by_cases h1 : 65 ≤ c.toNat
  · have : (65 : Int) ≤ (c.toNat : Nat) := by omega
    simp only [decide_eq_true this, onWant_true]
    congr 4; apply decide_eq_decide.2; omega
  · have : ¬ (65 : Int) ≤ (c.toNat : Nat) := by omega
    simp only [decide_eq_false this, onWant_false]
    rw [decide_eq_false (by omega)]
theorem rdigit_s (c : UInt8) (m : Mem) : w_r08_digit (.int .u8 c.toNat) m = some (.ret (.bool (digitB c)), m) := by
  rw [e_r08_digit]
  simp only [aBin_geq, aBin_leq, bnd_some]
  unfold digitB
  by_cases h1 : 48 ≤ c.toNat
  · have : (48 : Int) ≤ (c.toNat : Nat) := by omega
    simp only [decide_eq_true this, onWant_true]
    congr 4; apply decide_eq_decide.2; omega
  · have : ¬ (48 : Int) ≤ (c.toNat : Nat) := by omega
    simp only [decide_eq_false this, onWant_false]
    rw [decide_eq_false (by omega)]

theorem at_s (s w : List UInt8) (hs : s.length ≤ 4611686018427387904) (hw : w.length ≤ 1000000) (i : Nat) (hi : i ≤ s.length) (m : Mem) : w_r08_at (.str (bs s)) (.int .i64 i) (.str (bs w)) m = some (.ret (.bool (decide (w <+: s.drop i))), m) := by
  rw [e_r08_at]
  simp only [rLenStr_bs, bnd_some, aBin_add, aBin_leq]
  rw [wrap64 (by omega) (by omega)]
  by_cases h : i + w.length ≤ s.length
  · have hd : decide (((i : Int) + (w.length : Nat)) ≤ (s.length : Nat)) = true := decide_eq_true (by omega)
    have hsl : rSliceStr (.str (bs s)) (some (.int .i64 i)) (some (.int .i64 ((i : Int) + (w.length : Nat)))) = some (.str (bs ((s.take (i + w.length)).drop i))) := rSliceStr_both (by omega) h
    simp only [hd, onWant_true, hsl, bnd_some, aBin_streq]
    congr 4; apply decide_eq_decide.2
    rw [List.prefix_iff_eq_take, List.drop_take, Nat.add_sub_cancel_left]
    exact ⟨fun h => h.symm, fun h => h.symm⟩
  · have hd : decide (((i : Int) + (w.length : Nat)) ≤ (s.length : Nat)) = false := decide_eq_false (by omega)
    have : ¬ w <+: s.drop i := fun hp => by have := hp.length_le; simp at this; omega
    simp only [hd, onWant_false, decide_eq_false this]

def rremRes (n : Nat) : Option Nat → AV
  | none => .int .i64 0
  | some k => .int .i64 (n + k : Nat)

theorem rremark_s (l : List UInt8) (m : Mem) (hl : l.length ≤ 1000000000) : ∀ (k n : Nat) (d : Int), l.length - n ≤ k → n ≤ l.length → -n ≤ d → d ≤ n →
    l_r08_remark_0 (.str (bs l)) (.int .i64 n) (.int .i64 d) m = some (.ret (rremRes n (rem (l.drop n) d)), m) := by
  intro k
  induction k with
  | zero =>
    intro n d hk hn h1 h2
    have : n = l.length := by omega
    subst this
    rw [l_r08_remark_0_eq]
    simp [k_r08_remark_0_eq, rremRes, rem]
  | succ k ih =>
    intro n d hk hn h1 h2
    by_cases hlt : n < l.length
    case neg =>
      have : n = l.length := by omega
      subst this
      rw [l_r08_remark_0_eq]
      simp [k_r08_remark_0_eq, rremRes, rem]
    case pos =>
      have hd : l.drop n = l[n] :: l.drop (n + 1) := List.drop_eq_getElem_cons hlt
      have ha := at_s l [40, 42] (by omega) (by decide) n hn m
      have hb := at_s l [42, 41] (by omega) (by decide) n hn m
      rw [l_r08_remark_0_eq]
      simp only [k_r08_remark_1_eq, k_r08_remark_2_eq, k_r08_remark_3_eq, rLenStr_bs, bnd_some, aBin_lss, Int.ofNat_lt, hlt, decide_true, onBool_true, ha, hb, retK_ret]
      by_cases ho : [40, 42] <+: l.drop n
      · obtain ⟨r, hr⟩ := ho
        have hr' : l.drop n = 40 :: 42 :: r := by rw [← hr]; rfl
        have hlen : n + 2 ≤ l.length := by have := congrArg List.length hr'; simp at this; omega
        have hr2 : l.drop (n + 2) = r := by rw [← List.drop_drop, hr']; rfl
        have := ih (n + 2) (d + 1) (by omega) hlen (by omega) (by omega)
        simp only [hr', List.prefix_append, List.cons_prefix_cons, List.nil_prefix, and_self, decide_true, onBool_true, aBin_add, bnd_some]
        simp (disch := omega) only [wrap64]
        refine Eq.trans this ?_
        rw [hr2, rem_open]
        cases rem r (d + 1) <;> simp [rremRes]
        omega
      · simp only [ho, decide_false, onBool_false]
        by_cases hc : [42, 41] <+: l.drop n
        · obtain ⟨r, hr⟩ := hc
          have hr' : l.drop n = 42 :: 41 :: r := by rw [← hr]; rfl
          have hlen : n + 2 ≤ l.length := by have := congrArg List.length hr'; simp at this; omega
          have hr2 : l.drop (n + 2) = r := by rw [← List.drop_drop, hr']; rfl
          simp only [hr', List.prefix_append, List.cons_prefix_cons, List.nil_prefix, and_self, decide_true, onBool_true, aBin_add, aBin_sub, aBin_eql, bnd_some]
          simp (disch := omega) only [wrap64]
          rw [rem_close]
          by_cases h0 : d - 1 = 0
          · simp [h0, rremRes]
          · have := ih (n + 2) (d - 1) (by omega) hlen (by omega) (by omega)
            simp only [h0, decide_false, onBool_false, if_false]
            refine Eq.trans this ?_
            rw [hr2]
            cases rem r (d - 1) <;> simp [rremRes]
            omega
        · have := ih (n + 1) d (by omega) (by omega) (by omega) (by omega)
          simp only [hc, decide_false, onBool_false, aBin_add, bnd_some]
          simp (disch := omega) only [wrap64]
          refine Eq.trans this ?_
          rw [hd] at ho hc ⊢
          rw [rem_other ho hc]
          cases rem (l.drop (n + 1)) d <;> simp [rremRes]
          omega

theorem build_keys : rBuild [.str (bs []), .str (bs []), .str (bs []), .str (bs []), .str (bs []), .str (bs []), .str (bs []), .str (bs []), .str (bs []), .str (bs []), .str (bs []), .str (bs []), .str (bs [])] [(0, 1, (.str (bs [108, 101, 116]))), (1, 1, (.str (bs [114, 101, 99]))), (2, 1, (.str (bs [105, 110]))), (3, 1, (.str (bs [102, 117, 110]))), (4, 1, (.str (bs [105, 102]))), (5, 1, (.str (bs [116, 104, 101, 110]))), (6, 1, (.str (bs [101, 108, 115, 101]))), (7, 1, (.str (bs [109, 97, 116, 99, 104]))), (8, 1, (.str (bs [119, 105, 116, 104]))), (9, 1, (.str (bs [116, 121, 112, 101]))), (10, 1, (.str (bs [111, 102]))), (11, 1, (.str (bs [116, 114, 117, 101]))), (12, 1, (.str (bs [102, 97, 108, 115, 101])))] = some (.agg (strs keys)) := by kernel_rfl
theorem build_signs : rBuild [.str (bs []), .str (bs []), .str (bs []), .str (bs []), .str (bs []), .str (bs []), .str (bs []), .str (bs []), .str (bs []), .str (bs []), .str (bs []), .str (bs []), .str (bs [])] [(0, 1, (.str (bs [45, 62]))), (1, 1, (.str (bs [58, 58]))), (2, 1, (.str (bs [59, 59]))), (3, 1, (.str (bs [40]))), (4, 1, (.str (bs [41]))), (5, 1, (.str (bs [44]))), (6, 1, (.str (bs [124]))), (7, 1, (.str (bs [61]))), (8, 1, (.str (bs [60]))), (9, 1, (.str (bs [43]))), (10, 1, (.str (bs [45]))), (11, 1, (.str (bs [42]))), (12, 1, (.str (bs [95])))] = some (.agg (strs signs)) := by kernel_rfl

theorem store13 {m : Mem} {o : Nat} {cs xs : List AV} (ho : m.obj o = some (.row cs 0)) (hc : cs.length = 13) (hx : xs.length = 13) : rStore 13 m (.ptr o 0 0) (.agg xs) = some (m.set o (.row xs 0)) :=
  rStore_ptr ho rfl hx (putCells_all (by omega))
theorem load13 {m : Mem} {o : Nat} {xs : List AV} (ho : m.obj o = some (.row xs 0)) (hx : xs.length = 13) : rLoad true 13 m (.ptr o 0 0) = some (.agg xs) := by
  rw [rLoad_ptr, cells_of ho, Option.bind_some, partOf_agg, if_pos (by omega), List.drop_zero, ← hx, List.take_length]
abbrev z13 : List AV := [.str (bs []), .str (bs []), .str (bs []), .str (bs []), .str (bs []), .str (bs []), .str (bs []), .str (bs []), .str (bs []), .str (bs []), .str (bs []), .str (bs []), .str (bs [])]
theorem box13 (m : Mem) : aBox m (.agg z13) = some (.ptr m.next 0 0, m.alloc (.row z13 0)) := rfl

theorem rwords_s (m : Mem) : ∃ m', w_r08_words m = some (.ret (.agg (strs keys)), m') ∧ Kept m m' := by
  have h1 : (m.alloc (.row z13 0)).obj m.next = some (.row z13 0) := by simp
  refine ⟨(m.alloc (.row z13 0)).set m.next (.row (strs keys) 0), ?_, (Kept.alloc m _).set (Nat.le_refl _) _⟩
  rw [e_r08_words, box13, memK_some, build_keys, bnd_some, store13 h1 rfl rfl, bnd_some, load13 (xs := strs keys) (by simp) rfl, bnd_some]
theorem rsigns_s (m : Mem) : ∃ m', w_r08_signs m = some (.ret (.agg (strs signs)), m') ∧ Kept m m' := by
  have h1 : (m.alloc (.row z13 0)).obj m.next = some (.row z13 0) := by simp
  refine ⟨(m.alloc (.row z13 0)).set m.next (.row (strs signs) 0), ?_, (Kept.alloc m _).set (Nat.le_refl _) _⟩
  rw [e_r08_signs, box13, memK_some, build_signs, bnd_some, store13 h1 rfl rfl, bnd_some, load13 (xs := strs signs) (by simp) rfl, bnd_some]

theorem arr_get {m : Mem} {o : Nat} {ws : List (List UInt8)} (ho : m.obj o = some (.row (strs ws) 0)) {n : Nat} (hn : n < ws.length) (hw : ws.length = 13) : rIxAddrArr 13 1 (.ptr o 0 0) (.int .i64 n) = some (.ptr o 0 n) ∧ rLoad false 1 m (.ptr o 0 n) = some (.str (bs ws[n])) := by
  constructor
  · rw [rIxAddrArr_ptr, if_pos (by omega)]; simp
  · rw [rLoad_ptr, cells_of ho, Option.bind_some, partOf_cell]; simp [hn]

theorem rkeys_loop {m : Mem} {o : Nat} (ho : m.obj o = some (.row (strs keys) 0)) (w : List UInt8) (j : AV) : ∀ (k n : Nat), 13 - n = k → n ≤ 13 → 
    l_r08_one_2 j (.str (bs w)) (.ptr o 0 0) (.int .i64 n) m = some (.ret (.tup [.int .i64 (if w ∈ keys.drop n then 5 else 1), j]), m)
  | 0, n, hk, hn => by
    have : n = 13 := by omega
    subst this
    rw [l_r08_one_2_eq]
    simp [k_r08_one_18_eq, keys]
  | k + 1, n, hk, hn => by
    have hlt : n < keys.length := by show n < 13; omega
    have hd : keys.drop n = keys[n] :: keys.drop (n + 1) := List.drop_eq_getElem_cons hlt
    have h13 : decide ((n : Int) < 13) = true := decide_eq_true (by omega)
    have hg := arr_get ho hlt rfl
    rw [l_r08_one_2_eq]
    simp only [aBin_lss, bnd_some, h13, onBool_true, k_r08_one_20_eq, hg.1, hg.2, aBin_streq]
    by_cases he : keys[n] = w
    · have : w ∈ keys.drop n := by rw [hd, he]; exact List.mem_cons_self
      simp only [he, decide_true, onBool_true, if_pos this]
    · have hm : (w ∈ keys.drop n) = (w ∈ keys.drop (n + 1)) := by
        rw [hd, List.mem_cons]
        have : ¬ w = keys[n] := fun e => he e.symm
        simp only [this, false_or]
      simp only [he, decide_false, onBool_false, k_r08_one_21_eq, aBin_add, bnd_some]
      simp (disch := omega) only [wrap64]
      rw [show ((n : Int) + 1) = ((n + 1 : Nat) : Int) from rfl, rkeys_loop ho w j k (n + 1) (by omega) (by omega)]
      simp only [hm]

def rOneRes (i : Nat) (p : Nat × Nat) : AV := if p.1 = 0 then .tup [.int .i64 0, .int .i64 0] else .tup [.int .i64 p.1, .int .i64 (i + p.2 : Nat)]

theorem rsigns_loop {m : Mem} {o : Nat} (ho : m.obj o = some (.row (strs signs) 0)) (s : List UInt8) (hs : s.length ≤ 1000000000) (i : Nat) (hi : i ≤ s.length) : ∀ (k n : Nat), 13 - n = k → n ≤ 13 → 
    l_r08_one_8 (.str (bs s)) (.int .i64 i) (.ptr o 0 0) (.int .i64 n) m = some (.ret (rOneRes i (firstSign (s.drop i) (signs.drop n))), m)
  | 0, n, hk, hn => by
    have : n = 13 := by omega
    subst this
    rw [l_r08_one_8_eq]
    simp [k_r08_one_12_eq, signs, firstSign, rOneRes]
  | k + 1, n, hk, hn => by
    have hlt : n < signs.length := by show n < 13; omega
    have hd : signs.drop n = signs[n] :: signs.drop (n + 1) := List.drop_eq_getElem_cons hlt
    have h13 : decide ((n : Int) < 13) = true := decide_eq_true (by omega)
    have hg := arr_get ho hlt rfl
    have hl := signs_len signs[n] (List.getElem_mem hlt)
    rw [l_r08_one_8_eq]
    simp only [aBin_lss, bnd_some, h13, onBool_true, k_r08_one_15_eq, hg.1, hg.2, at_s s _ (by omega) (by omega : signs[n].length ≤ 1000000) i hi m, retK_ret, rLenStr_bs, aBin_add]
    rw [hd]
    by_cases he : signs[n] <+: s.drop i
    · simp only [he, decide_true, onBool_true, firstSign, if_true, rOneRes]
      rw [wrap64 (by omega) (by omega)]
      rfl
    · simp only [he, decide_false, onBool_false, k_r08_one_19_eq, aBin_add, bnd_some, firstSign, if_false]
      simp (disch := omega) only [wrap64]
      exact rsigns_loop ho s hs i hi k (n + 1) (by omega) (by omega)

theorem rword_loop (s : List UInt8) (hs : s.length ≤ 1000000000) (i c : AV) (m : Mem) : ∀ (k j : Nat), s.length - j = k → j ≤ s.length →
    l_r08_one_0 (.str (bs s)) i c (.int .i64 j) m = k_r08_one_4 (.str (bs s)) i c (.int .i64 (j + run wordB (s.drop j) : Nat)) m
  | 0, j, hk, hj => by
    have : j = s.length := by omega
    subst this
    rw [l_r08_one_0_eq]
    simp only [rLenStr_bs, bnd_some, aBin_lss, Int.lt_irrefl, decide_false, onWant_false, k_r08_one_11_eq, onBool_false]
    simp [run]
  | k + 1, j, hk, hj => by
    have hlt : j < s.length := by omega
    have h95 := u8_eq s[j] 95 (by decide)
    have h39 := u8_eq s[j] 39 (by decide)
    rw [l_r08_one_0_eq]
    simp only [rLenStr_bs, bnd_some, aBin_lss, Int.ofNat_lt, hlt, decide_true, onWant_true, rIxStr_get hlt, rsmall_s, rgreat_s, rdigit_s, retK_ret, aBin_eql]
    rw [show (95 : Int) = ((95 : Nat) : Int) from rfl, show (39 : Int) = ((39 : Nat) : Int) from rfl, h95, h39, run_step hlt]
    have key : ∀ b : Bool, b = wordB s[j] → k_r08_one_11 (.str (bs s)) i c (.int .i64 j) (.bool b) m = k_r08_one_4 (.str (bs s)) i c (.int .i64 (j + (if wordB s[j] = true then run wordB (s.drop (j + 1)) + 1 else 0) : Nat)) m := by
      intro b hb
      rw [k_r08_one_11_eq, ← hb]
      cases b with
      | true =>
        simp only [onBool_true, k_r08_one_10_eq, aBin_add, bnd_some, if_true]
        simp (disch := omega) only [wrap64]
        rw [show ((j : Int) + 1) = ((j + 1 : Nat) : Int) from rfl, rword_loop s hs i c m k (j + 1) (by omega) (by omega), show j + 1 + run wordB (s.drop (j + 1)) = j + (run wordB (s.drop (j + 1)) + 1) by omega]
      | false => simp only [onBool_false, Bool.false_eq_true, if_false, Nat.add_zero]
    have hw : wordB s[j] = (smallB s[j] || greatB s[j] || digitB s[j] || (s[j] == UInt8.ofNat 95) || (s[j] == UInt8.ofNat 39)) := rfl
    cases h1 : smallB s[j] with
    | true => rw [onWant_true, key true (by rw [hw, h1]; rfl)]
    | false =>
      rw [onWant_false]
      cases h2 : greatB s[j] with
      | true => rw [onWant_true, key true (by rw [hw, h1, h2]; rfl)]
      | false =>
        rw [onWant_false]
        cases h3 : digitB s[j] with
        | true => rw [onWant_true, key true (by rw [hw, h1, h2, h3]; rfl)]
        | false =>
          rw [onWant_false]
          cases h4 : (s[j] == UInt8.ofNat 95) with
          | true => rw [onWant_true, key true (by rw [hw, h1, h2, h3, h4]; rfl)]
          | false => rw [onWant_false, key _ (by rw [hw, h1, h2, h3, h4]; rfl)]

theorem rdigit_loop (s : List UInt8) (hs : s.length ≤ 1000000000) (m : Mem) : ∀ (k j : Nat), s.length - j = k → j ≤ s.length →
    l_r08_one_4 (.str (bs s)) (.int .i64 j) m = some (.ret (.tup [.int .i64 3, .int .i64 (j + run digitB (s.drop j) : Nat)]), m)
  | 0, j, hk, hj => by
    have : j = s.length := by omega
    subst this
    rw [l_r08_one_4_eq]
    simp only [rLenStr_bs, bnd_some, aBin_lss, Int.lt_irrefl, decide_false, onWant_false, k_r08_one_8_eq, onBool_false, k_r08_one_3_eq]
    simp [run]
  | k + 1, j, hk, hj => by
    have hlt : j < s.length := by omega
    rw [l_r08_one_4_eq]
    simp only [rLenStr_bs, bnd_some, aBin_lss, Int.ofNat_lt, hlt, decide_true, onWant_true, rIxStr_get hlt, rdigit_s, retK_ret, k_r08_one_8_eq]
    rw [run_step hlt]
    cases h1 : digitB s[j] with
    | true =>
      simp only [onBool_true, k_r08_one_7_eq, aBin_add, bnd_some, if_true]
      simp (disch := omega) only [wrap64]
      rw [show ((j : Int) + 1) = ((j + 1 : Nat) : Int) from rfl, rdigit_loop s hs m k (j + 1) (by omega) (by omega), show j + 1 + run digitB (s.drop (j + 1)) = j + (run digitB (s.drop (j + 1)) + 1) by omega]
    | false => simp only [onBool_false, k_r08_one_3_eq, Bool.false_eq_true, if_false, Nat.add_zero]

theorem rtick_loop (s : List UInt8) (hs : s.length ≤ 1000000000) (m : Mem) : ∀ (k j : Nat), s.length - j = k → j ≤ s.length →
    l_r08_one_6 (.str (bs s)) (.int .i64 j) m = some (.ret (.tup [.int .i64 4, .int .i64 (j + run tickB (s.drop j) : Nat)]), m)
  | 0, j, hk, hj => by
    have : j = s.length := by omega
    subst this
    rw [l_r08_one_6_eq]
    simp only [rLenStr_bs, bnd_some, aBin_lss, Int.lt_irrefl, decide_false, onWant_false, k_r08_one_17_eq, onBool_false, k_r08_one_13_eq]
    simp [run]
  | k + 1, j, hk, hj => by
    have hlt : j < s.length := by omega
    have h95 := u8_eq s[j] 95 (by decide)
    rw [l_r08_one_6_eq]
    simp only [rLenStr_bs, bnd_some, aBin_lss, Int.ofNat_lt, hlt, decide_true, onWant_true, rIxStr_get hlt, rsmall_s, rgreat_s, rdigit_s, retK_ret, aBin_eql]
    rw [show (95 : Int) = ((95 : Nat) : Int) from rfl, h95, run_step hlt]
    have key : ∀ b : Bool, b = tickB s[j] → k_r08_one_17 (.str (bs s)) (.int .i64 j) (.bool b) m = some (.ret (.tup [.int .i64 4, .int .i64 (j + (if tickB s[j] = true then run tickB (s.drop (j + 1)) + 1 else 0) : Nat)]), m) := by
      intro b hb
      rw [k_r08_one_17_eq, ← hb]
      cases b with
      | true =>
        simp only [onBool_true, k_r08_one_16_eq, aBin_add, bnd_some, if_true]
        simp (disch := omega) only [wrap64]
        rw [show ((j : Int) + 1) = ((j + 1 : Nat) : Int) from rfl, rtick_loop s hs m k (j + 1) (by omega) (by omega), show j + 1 + run tickB (s.drop (j + 1)) = j + (run tickB (s.drop (j + 1)) + 1) by omega]
      | false => simp only [onBool_false, k_r08_one_13_eq, Bool.false_eq_true, if_false, Nat.add_zero]
    have hw : tickB s[j] = (smallB s[j] || greatB s[j] || digitB s[j] || (s[j] == UInt8.ofNat 95)) := rfl
    cases h1 : smallB s[j] with
    | true => rw [onWant_true, key true (by rw [hw, h1]; rfl)]
    | false =>
      rw [onWant_false]
      cases h2 : greatB s[j] with
      | true => rw [onWant_true, key true (by rw [hw, h1, h2]; rfl)]
      | false =>
        rw [onWant_false]
        cases h3 : digitB s[j] with
        | true => rw [onWant_true, key true (by rw [hw, h1, h2, h3]; rfl)]
        | false => rw [onWant_false, key _ (by rw [hw, h1, h2, h3]; rfl)]

theorem keys_small0 : ∀ w ∈ keys, greatB (w.headD 0) = false := by decide
theorem keys_small {c : UInt8} {r : List UInt8} (h : c :: r ∈ keys) : greatB c = false := keys_small0 _ h
theorem rOneRes_pos {k : Nat} (n i : Nat) (hk : k ≠ 0) : rOneRes i (k, n) = .tup [.int .i64 k, .int .i64 (i + n : Nat)] := if_neg hk
theorem named_pos (w : List UInt8) : named w ≠ 0 := by
  unfold named
  split
  · decide
  · split
    · decide
    · split
      · split <;> decide
      · decide

theorem rone_s (s : List UInt8) (hs : s.length ≤ 1000000000) (i : Nat) (hi : i < s.length) (m : Mem) : ∃ m', w_r08_one (.str (bs s)) (.int .i64 i) m = some (.ret (rOneRes i (one (s.drop i))), m') ∧ Kept m m' := by
  have hd : s.drop i = s[i] :: s.drop (i + 1) := List.drop_eq_getElem_cons hi
  have h95 := u8_eq s[i] 95 (by decide)
  have h39 := u8_eq s[i] 39 (by decide)
  have hsig : ∀ m, ∃ m', k_r08_one_5 (.str (bs s)) (.int .i64 i) (.int .i64 (i + 1 : Nat)) m = some (.ret (rOneRes i (firstSign (s.drop i) signs)), m') ∧ Kept m m' := by
    intro m
    obtain ⟨m1, h1, h2⟩ := rsigns_s m
    have h3 : (m1.alloc (.row z13 0)).obj m1.next = some (.row z13 0) := by simp
    refine ⟨(m1.alloc (.row z13 0)).set m1.next (.row (strs signs) 0), ?_, (h2.trans (Kept.alloc m1 _)).set h2.next _⟩
    rw [k_r08_one_5_eq, h1, retK_ret, box13, memK_some, store13 h3 rfl rfl, bnd_some]
    exact rsigns_loop (by simp) s hs i (by omega) _ 0 rfl (Nat.zero_le _)
  have h5 : ∀ m, ∃ m', k_r08_one_4 (.str (bs s)) (.int .i64 i) (.int .u8 s[i].toNat) (.int .i64 (i + 1 + run wordB (s.drop (i + 1)) : Nat)) m = some (.ret (.tup [.int .i64 (named (s[i] :: (s.drop (i + 1)).take (run wordB (s.drop (i + 1))))), .int .i64 (i + 1 + run wordB (s.drop (i + 1)) : Nat)]), m') ∧ Kept m m' := by
    intro m
    have hr := run_le wordB (s.drop (i + 1))
    simp only [List.length_drop] at hr
    have hw : (s.take (i + 1 + run wordB (s.drop (i + 1)))).drop i = s[i] :: (s.drop (i + 1)).take (run wordB (s.drop (i + 1))) := by
      rw [List.drop_take, hd, show i + 1 + run wordB (s.drop (i + 1)) - i = run wordB (s.drop (i + 1)) + 1 by omega]; rfl
    have hsl : rSliceStr (.str (bs s)) (some (.int .i64 i)) (some (.int .i64 (i + 1 + run wordB (s.drop (i + 1)) : Nat))) = some (.str (bs (s[i] :: (s.drop (i + 1)).take (run wordB (s.drop (i + 1)))))) := by
      rw [rSliceStr_both (by omega) (by omega), hw]
    rw [k_r08_one_4_eq, hsl, bnd_some, aBin_streq, bnd_some]
    unfold named
    by_cases h1 : s[i] :: (s.drop (i + 1)).take (run wordB (s.drop (i + 1))) = [95]
    · rw [decide_eq_true h1, onBool_true, if_pos h1]; exact ⟨m, rfl, .refl _ _⟩
    · rw [decide_eq_false h1, onBool_false, if_neg h1, k_r08_one_9_eq, rgreat_s, retK_ret]
      cases hg : greatB s[i] with
      | true =>
        have : ¬ (s[i] :: (s.drop (i + 1)).take (run wordB (s.drop (i + 1)))) ∈ keys := by
          intro hm
          have := keys_small hm
          rw [hg] at this; cases this
        rw [onBool_true, if_neg this]
        simp only [hg, if_true]; exact ⟨m, rfl, .refl _ _⟩
      | false =>
        rw [onBool_false, k_r08_one_14_eq]
        obtain ⟨m1, h2, h3⟩ := rwords_s m
        have h4 : (m1.alloc (.row z13 0)).obj m1.next = some (.row z13 0) := by simp
        refine ⟨(m1.alloc (.row z13 0)).set m1.next (.row (strs keys) 0), ?_, (h3.trans (Kept.alloc m1 _)).set h3.next _⟩
        rw [h2, retK_ret, box13, memK_some, store13 h4 rfl rfl, bnd_some]
        refine Eq.trans (rkeys_loop (by simp) _ _ _ 0 rfl (Nat.zero_le _)) ?_
        rw [List.drop_zero]
        simp only [hg, Bool.false_eq_true, if_false]
        split <;> rfl
  rw [e_r08_one, rIxStr_get hi, bnd_some, aBin_add, bnd_some]
  rw [wrap64 (by omega) (by omega)]
  have hi1 : ((i : Int) + 1) = ((i + 1 : Nat) : Int) := rfl
  simp only [rsmall_s, rgreat_s, retK_ret, aBin_eql, bnd_some, hi1]
  rw [show (95 : Int) = ((95 : Nat) : Int) from rfl, h95]
  have key : ∀ b : Bool, b = (s[i] == 95 || smallB s[i] || greatB s[i]) → ∃ m', k_r08_one_1 (.str (bs s)) (.int .i64 i) (.int .u8 s[i].toNat) (.int .i64 (i + 1 : Nat)) (.bool b) m = some (.ret (rOneRes i (one (s.drop i))), m') ∧ Kept m m' := by
    intro b hb
    rw [k_r08_one_1_eq, hd, one_cons, ← hb]
    cases b with
    | true =>
      rw [onBool_true, rword_loop s hs _ _ m _ (i + 1) rfl (by omega), if_pos rfl]
      obtain ⟨m', h6, h7⟩ := h5 m
      refine ⟨m', ?_, h7⟩
      rw [h6]
      rw [rOneRes_pos _ _ (named_pos _), show i + (1 + run wordB (s.drop (i + 1))) = i + 1 + run wordB (s.drop (i + 1)) by omega]
    | false =>
      rw [onBool_false, k_r08_one_0_eq, rdigit_s, retK_ret, if_neg (by decide)]
      cases hdg : digitB s[i] with
      | true =>
        rw [onBool_true, rdigit_loop s hs m _ (i + 1) rfl (by omega), if_pos rfl]
        refine ⟨m, ?_, .refl _ _⟩
        rw [rOneRes_pos _ _ (by decide), show i + (1 + run digitB (s.drop (i + 1))) = i + 1 + run digitB (s.drop (i + 1)) by omega]; rfl
      | false =>
        rw [onBool_false, k_r08_one_2_eq, if_neg (by decide), aBin_eql, bnd_some, show (39 : Int) = ((39 : Nat) : Int) from rfl, h39]
        have k6 : ∀ b : Bool, ∃ m', k_r08_one_6 (.str (bs s)) (.int .i64 i) (.int .i64 (i + 1 : Nat)) (.bool b) m = some (.ret (rOneRes i (if b = true then (4, 1 + run tickB (s.drop (i + 1))) else firstSign (s[i] :: s.drop (i + 1)) signs)), m') ∧ Kept m m' := by
          intro b
          rw [k_r08_one_6_eq]
          cases b with
          | true =>
            rw [onBool_true, rtick_loop s hs m _ (i + 1) rfl (by omega), if_pos rfl]
            refine ⟨m, ?_, .refl _ _⟩
            rw [rOneRes_pos _ _ (by decide), show i + (1 + run tickB (s.drop (i + 1))) = i + 1 + run tickB (s.drop (i + 1)) by omega]; rfl
          | false =>
            rw [onBool_false, if_neg (by decide)]
            have := hsig m
            rw [hd] at this; exact this
        cases h9 : (s[i] == UInt8.ofNat 39) with
        | false =>
          rw [onWant_false, Bool.false_and]; exact k6 false
        | true =>
          rw [onWant_true, Bool.true_and, rLenStr_bs, bnd_some, aBin_lss, bnd_some]
          by_cases hl : i + 1 < s.length
          · have hd2 : s.drop (i + 1) = s[i + 1] :: s.drop (i + 2) := List.drop_eq_getElem_cons hl
            have hdl : decide ((((i + 1 : Nat) : Int)) < (s.length : Nat)) = true := decide_eq_true (by omega)
            rw [hdl, onWant_true, rIxStr_get hl, bnd_some, rsmall_s, retK_ret]
            have hh : headSmall (s.drop (i + 1)) = smallB s[i + 1] := by rw [hd2]; rfl
            rw [hh]; exact k6 _
          · have hdl : decide ((((i + 1 : Nat) : Int)) < (s.length : Nat)) = false := decide_eq_false (by omega)
            have hh : headSmall (s.drop (i + 1)) = false := by rw [List.drop_of_length_le (by omega)]; rfl
            rw [hdl, onWant_false, hh]; exact k6 false
  cases h1 : smallB s[i] with
  | true => rw [onWant_true]; exact key true (by simp [h1])
  | false =>
    rw [onWant_false]
    cases h2 : greatB s[i] with
    | true => rw [onWant_true]; exact key true (by simp [h2])
    | false =>
      rw [onWant_false]
      exact key _ (by rw [h1, h2]; simp)

end Go.AM
