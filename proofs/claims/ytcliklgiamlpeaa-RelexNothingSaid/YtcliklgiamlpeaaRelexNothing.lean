/-
  RelexNothing and RelexRows over the machine.
-/
import Derived.Test.YtcliklgiamlpeaaRelexEdits
import Derived.Test.YtcliklgiamlpeaaAMOpen
namespace Go.AM
open Go Go.Proofs Lx
set_option linter.unusedSimpArgs false
set_option linter.unusedVariables false

def nEd (s : List UInt8) (fr to : Nat) : Ed := ⟨s, fr, to, (s.take to).drop fr⟩
section
variable (s : List UInt8) (fr to : Nat) (h1 : fr ≤ to) (h2 : to ≤ s.length)
include h1 h2
theorem nEd_out : (nEd s fr to).out = s := by
  unfold Ed.out nEd
  simp only []
  rw [← List.take_append_drop to s]
  have e1 : (s.take to ++ s.drop to).take fr = (s.take to).take fr := List.take_append_of_le_length (by simp; omega)
  have e2 : (s.take to ++ s.drop to).take to = s.take to := by rw [List.take_append_of_le_length (by simp; omega), List.take_take, Nat.min_self]
  have e3 : (s.take to ++ s.drop to).drop to = s.drop to := by rw [List.take_append_drop]
  rw [e1, e2, e3, List.take_append_drop fr (s.take to)]
theorem nEd_by : (nEd s fr to).by_ = 0 := by
  unfold Ed.by_ nEd
  simp only [List.length_drop, List.length_take]; omega
theorem nEd_ok : (nEd s fr to).ok := ⟨h1, h2⟩
theorem nEd_new : (nEd s fr to).new = (nEd s fr to).ts.drop (nEd s fr to).front := by
  have := out_lex (nEd s fr to) (nEd_ok s fr to h1 h2)
  rw [nEd_out s fr to h1 h2] at this
  have e : lex s 0 = (nEd s fr to).ts.take (nEd s fr to).front ++ (nEd s fr to).ts.drop (nEd s fr to).front := (List.take_append_drop _ (lex s 0)).symm
  rw [e] at this
  exact (List.append_cancel_left this).symm
theorem nEd_ends : (nEd s fr to).ends = (nEd s fr to).old.length := by
  refine ends_of (mid_old _) (by rw [nEd_new s fr to h1 h2, mid_old]) rfl ?_ ?_
  · intro p hp
    obtain ⟨i, hi, hpi⟩ := List.getElem_of_mem hp
    rw [List.getElem_zip] at hpi
    have hm : p.1 ∈ (nEd s fr to).old := by rw [← hpi]; exact List.mem_reverse.1 (List.getElem_mem _)
    have he : p.1 = p.2 := by rw [← hpi]
    refine ⟨old_ge _ _ hm, ?_⟩
    rw [← he, nEd_by s fr to h1 h2]
    unfold Tok.tsh Tok.ti; simp
  · rintro b hb ⟨hl, _⟩
    have := mid_lt _ b hb
    have hto : (nEd s fr to).to = to := rfl
    have hli : (nEd s fr to).lim = to := by unfold Ed.lim nEd; simp; omega
    omega
omit h1 h2 in
theorem mid_ge : ∀ t ∈ (nEd s fr to).mid, fr ≤ t.t + 1 := by
  intro t ht
  have hd : (nEd s fr to).ts.drop (nEd s fr to).front = (nEd s fr to).mid ++ (nEd s fr to).old := mid_old _
  have htd : t ∈ (nEd s fr to).ts.drop (nEd s fr to).front := by rw [hd]; exact List.mem_append_left _ ht
  obtain ⟨i, hi, rfl⟩ := List.getElem_of_mem htd
  have hlt : (nEd s fr to).front < (nEd s fr to).ts.length := by simp at hi; omega
  have hst : decide ((nEd s fr to).ts[(nEd s fr to).front].t + 1 < fr) = false := tw_stop (p := fun t : Tok => decide (t.t + 1 < fr)) hlt
  simp only [decide_eq_false_iff_not] at hst
  have hs := lex_sorted _ s 0 (Nat.le_refl _)
  have hb := lex_bounds _ s 0 (Nat.le_refl _)
  rw [List.getElem_drop]
  by_cases hi0 : i = 0
  · subst hi0; simp only [Nat.add_zero]; omega
  · have hil : (nEd s fr to).front + i < (lex s 0).length := by simp at hi; have : (nEd s fr to).ts = lex s 0 := rfl; rw [this] at hi; omega
    have h5 := List.pairwise_iff_getElem.1 hs (nEd s fr to).front ((nEd s fr to).front + i) hlt hil (by omega)
    have h6 := hb _ (List.getElem_mem hil)
    have e1 : (nEd s fr to).ts[(nEd s fr to).front].t = (lex s 0)[(nEd s fr to).front].t := rfl
    have e2 : ((nEd s fr to).ts[(nEd s fr to).front + i]'(show _ < (lex s 0).length from hil)).t = (lex s 0)[(nEd s fr to).front + i].t := rfl
    omega
def insideB (t : Tok) : Bool := decide (fr ≤ t.t + 1 ∧ t.f < to)
omit h1 h2 in
theorem countP_none {α : Type} {p : α → Bool} {l : List α} (h : ∀ x ∈ l, p x = false) : l.countP p = 0 := by
  rw [List.countP_eq_zero]; intro x hx; rw [h x hx]; simp
theorem nothing_count : (nEd s fr to).front + (nEd s fr to).ends + (lex s 0).countP (insideB fr to) = (lex s 0).length := by
  have hts : lex s 0 = (nEd s fr to).ts.take (nEd s fr to).front ++ ((nEd s fr to).mid ++ (nEd s fr to).old) := by
    rw [← mid_old, List.take_append_drop]; rfl
  have c1 : ((nEd s fr to).ts.take (nEd s fr to).front).countP (insideB fr to) = 0 := countP_none fun t ht => by
    have := front_lt _ t ht
    have e : (nEd s fr to).fr = fr := rfl
    unfold insideB; rw [decide_eq_false]; omega
  have c2 : (nEd s fr to).mid.countP (insideB fr to) = (nEd s fr to).mid.length := by
    rw [List.countP_eq_length]
    intro t ht
    have h3 := mid_ge s fr to t ht
    have h4 := mid_lt _ t ht
    have e : (nEd s fr to).to = to := rfl
    unfold insideB; rw [decide_eq_true]; omega
  have c3 : (nEd s fr to).old.countP (insideB fr to) = 0 := countP_none fun t ht => by
    have := old_ge _ t ht
    have e : (nEd s fr to).to = to := rfl
    unfold insideB; rw [decide_eq_false]; omega
  have hfl : ((nEd s fr to).ts.take (nEd s fr to).front).length = (nEd s fr to).front := by
    rw [List.length_take]
    have : (nEd s fr to).front ≤ (nEd s fr to).ts.length := (List.takeWhile_sublist _).length_le
    omega
  rw [nEd_ends s fr to h1 h2]
  have hlen := congrArg List.length hts
  rw [List.length_append, List.length_append, hfl] at hlen
  rw [hlen]
  conv => lhs; arg 2; rw [hts]
  rw [List.countP_append, List.countP_append, c1, c2, c3]
  omega
end

theorem inside_loop (s : List UInt8) (fr to : Nat) (hs : s.length ≤ 20000) (hfr : fr ≤ to) (hto : to ≤ s.length) {v7 : AV} (h7 : HSl v7 (toks (lex s 0))) (x y : Nat) (hx : x ≤ 1000000) (hy : y ≤ 1000000) (m : Mem) : ∀ (k i c : Nat), (lex s 0).length - i = k → i ≤ (lex s 0).length → c = ((lex s 0).take i).countP (insideB fr to) →
    l_l09_RelexNothing_0 (.int .i64 fr) (.int .i64 to) v7 (.int .i64 x) (.int .i64 y) (.int .i64 c) (.int .i64 i) m = some (.ret (.bool (decide ((x : Int) + y + ((lex s 0).countP (insideB fr to) : Nat) = ((lex s 0).length : Nat)))), m) := by
  have h7t := h7; rw [toks_tis] at h7t
  have hll := lex_length _ s 0 (Nat.le_refl _)
  have hlen : (toks (lex s 0)).length = (lex s 0).length := by simp
  have hw : IntKind.i64.wrap ((fr : Int) - 1) = (fr : Int) - 1 := wrap64 (by omega) (by omega)
  intro k
  induction k with
  | zero =>
    intro i c hk hi hc
    have : i = (lex s 0).length := by omega
    subst this
    rw [List.take_length] at hc
    have hcl : c ≤ (lex s 0).length := by rw [hc]; exact List.countP_le_length
    rw [l_l09_RelexNothing_0_eq, h7.len]
    simp only [hlen, bnd_some, aBin_lss, Int.lt_irrefl, decide_false, onBool_false, k_l09_RelexNothing_5_eq, aBin_add, h7.len, aBin_eql]
    rw [wrap64 (n := (x : Int) + y) (by omega) (by omega), wrap64 (by omega) (by omega), hc]
  | succ k ih =>
    intro i c hk hi hc
    have hlt : i < (lex s 0).length := by omega
    have hlt' : i < ((lex s 0).map Tok.ti).length := by simpa using hlt
    have hd : decide ((i : Int) < ((lex s 0).length : Nat)) = true := decide_eq_true (by omega)
    have hcl : c ≤ (lex s 0).length := by rw [hc]; exact Nat.le_trans List.countP_le_length (by rw [List.length_take]; exact Nat.min_le_right _ _)
    have htk : ((lex s 0).take (i + 1)).countP (insideB fr to) = c + (if insideB fr to (lex s 0)[i] = true then 1 else 0) := by
      have e := List.take_append_getElem (l := lex s 0) (i := i) hlt
      rw [← e, List.countP_append, ← hc, List.countP_singleton]
    have k8 : ∀ b : Bool, b = insideB fr to (lex s 0)[i] → k_l09_RelexNothing_8 (.int .i64 fr) (.int .i64 to) v7 (.int .i64 x) (.int .i64 y) (.int .i64 c) (.int .i64 i) (.bool b) m = some (.ret (.bool (decide ((x : Int) + y + ((lex s 0).countP (insideB fr to) : Nat) = ((lex s 0).length : Nat)))), m) := by
      intro b hb
      rw [k_l09_RelexNothing_8_eq]
      rw [← hb] at htk
      cases b with
      | true =>
        simp only [if_true] at htk
        simp only [onBool_true, aBin_add, bnd_some, k_l09_RelexNothing_7_eq]
        simp (disch := omega) only [wrap64]
        exact ih (i + 1) (c + 1) (by omega) (by omega) htk.symm
      | false =>
        simp only [Bool.false_eq_true, if_false, Nat.add_zero] at htk
        simp only [onBool_false, k_l09_RelexNothing_7_eq, aBin_add, bnd_some]
        simp (disch := omega) only [wrap64]
        exact ih (i + 1) c (by omega) (by omega) htk.symm
    rw [l_l09_RelexNothing_0_eq, h7.len]
    simp only [hlen, bnd_some, aBin_lss, hd, onBool_true, k_l09_RelexNothing_6_eq, ti_ix h7t hlt', rFieldAddr_pim, rLoad_pimc, List.drop_succ_cons, List.drop_zero, List.getElem?_cons_zero, aBin_sub, hw, aBin_geq, List.getElem_map]
    by_cases c1 : (fr : Int) - 1 ≤ (Tok.ti (lex s 0)[i]).t
    · rw [decide_eq_true c1, onWant_true]
      refine k8 _ ?_
      unfold insideB
      apply decide_eq_decide.2
      simp only [Tok.ti] at c1 ⊢
      omega
    · rw [decide_eq_false c1, onWant_false]
      refine k8 _ ?_
      unfold insideB
      rw [decide_eq_false]
      simp only [Tok.ti] at c1
      omega

theorem relexNothing_plain (s : List UInt8) (fr to : Int) (hs : s.length ≤ 140737488351232) (m : Mem) : ∃ m', w_l09_RelexNothing (.str (bs s)) (.int .i64 fr) (.int .i64 to) m = some (.ret (.bool true), m') := by
  obtain ⟨m1, h1, h2⟩ := alive9_s m
  rw [e_l09_RelexNothing, h1, retK_ret, aUn_not, bnd_some, Bool.not_true, onBool_false, k_l09_RelexNothing_0_eq]
  simp only [rLenStr_bs, bnd_some, aBin_gtr, aBin_lss, k_l09_RelexNothing_2_eq, onBool_true]
  by_cases a1 : (20000 : Int) < (s.length : Nat)
  · rw [decide_eq_true a1, onWant_true]; exact ⟨_, rfl⟩
  · rw [decide_eq_false a1, onWant_false]
    by_cases a2 : fr < 0
    · rw [decide_eq_true a2, onWant_true]; exact ⟨_, rfl⟩
    · rw [decide_eq_false a2, onWant_false]
      by_cases a3 : to < fr
      · rw [decide_eq_true a3, onWant_true]; exact ⟨_, rfl⟩
      · rw [decide_eq_false a3, onWant_false]
        by_cases a4 : (s.length : Int) < to
        · rw [decide_eq_true a4, onBool_true]; exact ⟨_, rfl⟩
        · rw [decide_eq_false a4, onBool_false]
          obtain ⟨f, rfl⟩ := Int.eq_ofNat_of_zero_le (by omega : 0 ≤ fr)
          obtain ⟨t, rfl⟩ := Int.eq_ofNat_of_zero_le (by omega : 0 ≤ to)
          have hft : f ≤ t := by omega
          have hts : t ≤ s.length := by omega
          have he : (nEd s f t).fits := ⟨nEd_ok s f t hft hts, by show s.length ≤ _; omega, by show ((s.take t).drop f).length ≤ _; simp; omega⟩
          obtain ⟨v35, m2, b1, b2, b3⟩ := lex_s s (by omega) m1
          obtain ⟨u, m3, c1, c2, c3⟩ := relex_s (nEd s f t) he (v1 := v35) b2.hsl m2
          have hsl : rSliceStr (.str (bs s)) (some (.int .i64 f)) (some (.int .i64 t)) = some (.str (bs ((s.take t).drop f))) := rSliceStr_both hft hts
          have c1' : w_relex_Relex (.str (bs s)) v35 (.int .i64 f) (.int .i64 t) (.str (bs ((s.take t).drop f))) m2 = some (.ret (.tup [u, .int .i64 (nEd s f t).front, .int .i64 (nEd s f t).ends, .int .i64 0]), m3) := c1
          rw [nEd_out s f t hft hts] at c2
          have hll := lex_length _ s 0 (Nat.le_refl _)
          have b4 := b2.hsl
          have b4t := b4; rw [toks_tis] at b4t
          have c2t := c2; rw [toks_tis] at c2t
          have sm := same_s c2t b4t (by simp; omega) m3
          have hcount := nothing_count s f t hft hts
          rw [k_l09_RelexNothing_1_eq, b1, retK_ret]
          simp only [Int.ofNat_eq_natCast] at *
          rw [hsl, bnd_some, c1', retK_ret]
          simp only [aExtract_tup, List.getElem?_cons_zero, List.getElem?_cons_succ, bnd_some, aBin_neq, ne_eq, not_true_eq_false, decide_false, onWant_false, sm, decide_true, retK_ret, aUn_not, Bool.not_true, k_l09_RelexNothing_4_eq, onBool_false, k_l09_RelexNothing_3_eq]
          have hl := inside_loop s f t (by omega) hft hts b4 (nEd s f t).front (nEd s f t).ends (by omega) (by omega) m3 _ 0 0 rfl (Nat.zero_le _) (by simp)
          refine ⟨m3, hl.trans ?_⟩
          rw [decide_eq_true (by omega)]
end Go.AM
