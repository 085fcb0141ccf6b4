/-
  The document's reading again, and the law RelexEdits over the machine.
-/
import Derived.Test.YtcliklgiamlpeaaRelexB
import Derived.Test.YtcliklgiamlpeaaLexR2
namespace Go.AM
open Go Go.Proofs Lx
set_option linter.unusedSimpArgs false
set_option linter.unusedVariables false
set_option linter.unusedSectionVars false

theorem tw_lt {α : Type} {p : α → Bool} : ∀ {l : List α} {j : Nat} (h : j < (l.takeWhile p).length) (h' : j < l.length), p l[j] = true
  | x :: l, j, h, h' => by
    rw [List.takeWhile_cons] at h
    split at h
    · rename_i hx
      cases j with
      | zero => exact hx
      | succ j => simp only [List.getElem_cons_succ]; exact tw_lt (by simpa using h) _
    · simp at h
theorem tw_stop {α : Type} {p : α → Bool} : ∀ {l : List α} (h : (l.takeWhile p).length < l.length), p (l[(l.takeWhile p).length]) = false
  | x :: l, h => by
    by_cases hx : p x = true
    · have e1 : (x :: l).takeWhile p = x :: l.takeWhile p := by simp [hx]
      simp only [e1, List.length_cons, List.getElem_cons_succ]
      exact tw_stop (by simp only [e1, List.length_cons] at h; omega)
    · have e1 : (x :: l).takeWhile p = [] := by simp [hx]
      simp only [e1, List.length_nil, List.getElem_cons_zero]
      simpa using hx

section
variable (e : Ed) (he : e.fits)
include he

theorem rfront_loop {v1 : AV} (h1 : HSl v1 (toks e.ts)) (v3 v4 v14 : AV) : ∀ (k j : Nat) (m : Mem), e.front - j = k → j ≤ e.front →
    l_r09_Relex_0 v1 (.int .i64 e.fr) v3 v4 v14 (.int .i64 j) m = k_r09_Relex_2 v1 (.int .i64 e.fr) v3 v4 v14 (.int .i64 e.front) m := by
  have h1t := h1; rw [toks_tis] at h1t
  have hfl := front_le e he
  have htl := ts_len e he
  have hsl := he.s; have hfr := he.ok.1; have hto := he.ok.2
  have hw : IntKind.i64.wrap ((e.fr : Int) - 1) = (e.fr : Int) - 1 := wrap64 (by omega) (by omega)
  have hlen : (toks e.ts).length = e.ts.length := by simp
  intro k
  induction k with
  | zero =>
    intro j m hk hj
    have : j = e.front := by omega
    subst this
    rw [l_r09_Relex_0_eq, h1.len]
    simp only [bnd_some, aBin_lss, hlen]
    by_cases hlt : e.front < e.ts.length
    · have hd : decide ((e.front : Int) < (e.ts.length : Nat)) = true := decide_eq_true (by omega)
      have hlt' : e.front < (e.ts.map Tok.ti).length := by simpa using hlt
      have hstop : ¬ (e.ts[e.front].t + 1 < e.fr) := by
        have h3 : decide (e.ts[e.front].t + 1 < e.fr) = false := tw_stop (p := fun t : Tok => decide (t.t + 1 < e.fr)) hlt
        simpa using h3
      have hd2 : decide (((Tok.ti e.ts[e.front]).t) < (e.fr : Int) - 1) = false := decide_eq_false (by simp only [Tok.ti]; omega)
      simp only [hd, onWant_true, ti_ix h1t hlt', rFieldAddr_pim, bnd_some, rLoad_pimc, List.drop_succ_cons, List.drop_zero, List.getElem?_cons_zero, aBin_sub, aBin_add, aBin_lss, hw, List.getElem_map, hd2, k_r09_Relex_5_eq, onBool_false]
    · have hd : decide ((e.front : Int) < (e.ts.length : Nat)) = false := decide_eq_false (by omega)
      simp only [hd, onWant_false, k_r09_Relex_5_eq, onBool_false]
  | succ k ih =>
    intro j m hk hj
    have hlt : j < e.ts.length := by omega
    have hlt' : j < (e.ts.map Tok.ti).length := by simpa using hlt
    have hd : decide ((j : Int) < (e.ts.length : Nat)) = true := decide_eq_true (by omega)
    have hgo : e.ts[j].t + 1 < e.fr := by
      have hje : j < e.front := by omega
      have h3 : decide (e.ts[j].t + 1 < e.fr) = true := tw_lt (p := fun t : Tok => decide (t.t + 1 < e.fr)) (l := e.ts) hje hlt
      simpa using h3
    have hd2 : decide (((Tok.ti e.ts[j]).t) < (e.fr : Int) - 1) = true := decide_eq_true (by simp only [Tok.ti]; omega)
    rw [l_r09_Relex_0_eq, h1.len]
    simp only [bnd_some, aBin_lss, hlen, hd, onWant_true, ti_ix h1t hlt', rFieldAddr_pim, rLoad_pimc, List.drop_succ_cons, List.drop_zero, List.getElem?_cons_zero, aBin_sub, aBin_add, hw, List.getElem_map, hd2, k_r09_Relex_5_eq, onBool_true, k_r09_Relex_4_eq]
    simp (disch := omega) only [wrap64]
    exact ih (j + 1) m (by omega) (by omega)

theorem new_len : e.new.length ≤ 800000000 := by
  have h1 := lex_length _ e.rest e.begin_ (Nat.le_refl _)
  have := rest_len e he
  unfold Ed.new; omega
theorem out_len : (lex e.out 0).length = e.front + e.new.length := by
  rw [out_lex e he.ok]
  have := front_le e he
  simp; omega
theorem out_get (j : Nat) (hj : j < e.new.length) (h : (lex e.out 0).length - 1 - j < (lex e.out 0).length) : (lex e.out 0)[(lex e.out 0).length - 1 - j] = e.new.reverse[j]'(by simpa using hj) := by
  have hl := out_len e he
  have hfl := front_le e he
  rw [List.getElem_reverse]
  have h1 : (lex e.out 0)[(lex e.out 0).length - 1 - j] = (e.ts.take e.front ++ e.new)[(lex e.out 0).length - 1 - j]'(by rw [← out_lex e he.ok]; exact h) := by
    congr 1; exact out_lex e he.ok
  have ht : (e.ts.take e.front).length = e.front := by simp; omega
  rw [h1, List.getElem_append_right (by omega)]
  congr 1
  omega
theorem ts_get (j : Nat) (hj : j < (e.ts.drop e.front).length) : e.ts[e.ts.length - 1 - j]'(by simp at hj; omega) = (e.ts.drop e.front).reverse[j]'(by simpa using hj) := by
  rw [List.getElem_reverse, List.getElem_drop]
  congr 1
  simp at hj ⊢; omega

theorem rend_loop {v1 v14 : AV} (h1 : HSl v1 (toks e.ts)) (h14 : HSl v14 (toks (lex e.out 0))) : ∀ (k j : Nat) (m : Mem), e.ends - j = k → j ≤ e.ends →
    ∃ m', l_r09_Relex_2 v1 (.int .i64 e.to) v14 (.int .i64 e.front) (.int .i64 e.by_) (.int .i64 j) m = some (.ret (.tup [v14, .int .i64 e.front, .int .i64 e.ends, .int .i64 0]), m') ∧ Kept m m' := by
  have h1t := h1; rw [toks_tis] at h1t
  have h14t := h14; rw [toks_tis] at h14t
  have hfl := front_le e he
  have htl := ts_len e he
  have hsl := he.s; have hfr := he.ok.1; have hto := he.ok.2
  have hby := by_bounds e he
  have hnl := new_len e he
  have hol := out_len e he
  have hlen : (toks e.ts).length = e.ts.length := by simp
  have hlen2 : (toks (lex e.out 0)).length = (lex e.out 0).length := by simp
  have hw1 : IntKind.i64.wrap ((e.ts.length : Int) - (e.front : Int)) = ((e.ts.length - e.front : Nat) : Int) := by rw [wrap64 (by omega) (by omega)]; omega
  have hw2 : IntKind.i64.wrap (((lex e.out 0).length : Int) - (e.front : Int)) = ((e.new.length : Nat) : Int) := by rw [wrap64 (by omega) (by omega)]; omega
  have hZ : ((e.ts.drop e.front).reverse.zip e.new.reverse).length = min (e.ts.length - e.front) e.new.length := by simp
  have hEl : e.ends ≤ min (e.ts.length - e.front) e.new.length := by rw [← hZ]; exact (List.takeWhile_sublist _).length_le
  -- one round where there is a pair
  have round : ∀ (j : Nat) (m : Mem), j < e.ts.length - e.front → j < e.new.length → ∃ m', Kept m m' ∧ ∀ a b : Tok, e.ts[e.ts.length - 1 - j]? = some a → (lex e.out 0)[(lex e.out 0).length - 1 - j]? = some b → l_r09_Relex_2 v1 (.int .i64 e.to) v14 (.int .i64 e.front) (.int .i64 e.by_) (.int .i64 j) m =
      k_r09_Relex_9 v1 (.int .i64 e.to) v14 (.int .i64 e.front) (.int .i64 e.by_) (.int .i64 j) (.bool (!decide (e.to ≤ a.f ∧ a.tsh e.by_ = Tok.ti b))) m' := by
    intro j m hj1 hj2
    have ha : e.ts.length - 1 - j < e.ts.length := by omega
    have hb : (lex e.out 0).length - 1 - j < (lex e.out 0).length := by omega
    refine ⟨((((m.alloc (tiRow ⟨0, 0, 0⟩)).set m.next (tiRow (Tok.ti e.ts[e.ts.length - 1 - j]))).alloc (tiRow ⟨0, 0, 0⟩)).set (m.next + 1) (tiRow (Tok.ti (lex e.out 0)[(lex e.out 0).length - 1 - j]))), ?_, ?_⟩
    · exact (((Kept.alloc m _).set (Nat.le_refl _) _).trans (.alloc _ _)).set (Nat.le_succ _) _
    · intro a b hga hgb
      rw [List.getElem?_eq_getElem ha] at hga
      rw [List.getElem?_eq_getElem hb] at hgb
      cases hga
      cases hgb
      generalize hA : e.ts[e.ts.length - 1 - j] = a at *
      generalize hB : (lex e.out 0)[(lex e.out 0).length - 1 - j] = b at *
      have hab := ts_bounds e he a (by rw [← hA]; exact List.getElem_mem _)
      have d1 : decide ((j : Int) < ((e.ts.length - e.front : Nat) : Int)) = true := decide_eq_true (by omega)
      have d2 : decide ((j : Int) < ((e.new.length : Nat) : Int)) = true := decide_eq_true (by omega)
      have w3 : IntKind.i64.wrap (IntKind.i64.wrap ((e.ts.length : Int) - 1) - (j : Int)) = ((e.ts.length - 1 - j : Nat) : Int) := by rw [wrap64 (n := (e.ts.length : Int) - 1) (by omega) (by omega), wrap64 (by omega) (by omega)]; omega
      have w4 : IntKind.i64.wrap (IntKind.i64.wrap (((lex e.out 0).length : Int) - 1) - (j : Int)) = (((lex e.out 0).length - 1 - j : Nat) : Int) := by rw [wrap64 (n := ((lex e.out 0).length : Int) - 1) (by omega) (by omega), wrap64 (by omega) (by omega)]; omega
      have ha' : e.ts.length - 1 - j < (e.ts.map Tok.ti).length := by simpa using ha
      have hb' : (lex e.out 0).length - 1 - j < ((lex e.out 0).map Tok.ti).length := by simpa using hb
      have n1 : ¬ m.next = m.next + 1 := by omega
      have o1 : (m.alloc (tiRow ⟨0, 0, 0⟩)).obj m.next = some (tiRow ⟨0, 0, 0⟩) := by simp
      have e1 : aBox m (.agg [.int .i64 0, .int .i64 0, .int .i64 0]) = some (.ptr m.next 0 0, m.alloc (tiRow ⟨0, 0, 0⟩)) := rfl
      have s1 := tiStore (Tok.ti a) o1
      have e2 : aBox ((m.alloc (tiRow ⟨0, 0, 0⟩)).set m.next (tiRow (Tok.ti a))) (.agg [.int .i64 0, .int .i64 0, .int .i64 0]) = some (.ptr (m.next + 1) 0 0, ((m.alloc (tiRow ⟨0, 0, 0⟩)).set m.next (tiRow (Tok.ti a))).alloc (tiRow ⟨0, 0, 0⟩)) := rfl
      have o2 : (((m.alloc (tiRow ⟨0, 0, 0⟩)).set m.next (tiRow (Tok.ti a))).alloc (tiRow ⟨0, 0, 0⟩)).obj (m.next + 1) = some (tiRow ⟨0, 0, 0⟩) := by simp
      have s2 := tiStore (Tok.ti b) o2
      have o3 : ((((m.alloc (tiRow ⟨0, 0, 0⟩)).set m.next (tiRow (Tok.ti a))).alloc (tiRow ⟨0, 0, 0⟩)).set (m.next + 1) (tiRow (Tok.ti b))).obj m.next = some (tiRow (Tok.ti a)) := by simp [n1]
      have o4 : ((((m.alloc (tiRow ⟨0, 0, 0⟩)).set m.next (tiRow (Tok.ti a))).alloc (tiRow ⟨0, 0, 0⟩)).set (m.next + 1) (tiRow (Tok.ti b))).obj (m.next + 1) = some (tiRow (Tok.ti b)) := by simp
      generalize ((((m.alloc (tiRow ⟨0, 0, 0⟩)).set m.next (tiRow (Tok.ti a))).alloc (tiRow ⟨0, 0, 0⟩)).set (m.next + 1) (tiRow (Tok.ti b))) = m4 at *
      have lf : ∀ {o : Nat} {t : Tok} (i : Nat) (x : Int), m4.obj o = some (tiRow (Tok.ti t)) → [AV.int .i64 (Tok.ti t).k, .int .i64 (Tok.ti t).f, .int .i64 (Tok.ti t).t][i]? = some (.int .i64 x) → rLoad false 1 m4 (.ptr o 0 (0 + i)) = some (.int .i64 x) := fun i x h hi => by rw [rLoad_ptr, cells_of h, Option.bind_some, partOf_cell, Nat.zero_add]; exact hi
      have wf : IntKind.i64.wrap ((a.f : Int) + e.by_) = (a.f : Int) + e.by_ := wrap64 (by omega) (by omega)
      have wt : IntKind.i64.wrap ((a.t : Int) + e.by_) = (a.t : Int) + e.by_ := wrap64 (by omega) (by omega)
      have iff1 : (e.to ≤ a.f ∧ a.tsh e.by_ = Tok.ti b) ↔ (e.to ≤ a.f ∧ (a.k : Int) = b.k ∧ (a.f : Int) + e.by_ = b.f ∧ (a.t : Int) + e.by_ = b.t) := by
        unfold Tok.tsh Tok.ti
        simp only [TI.mk.injEq]
      rw [l_r09_Relex_2_eq, h1.len]
      simp only [hlen, hlen2, bnd_some, aBin_sub, hw1, aBin_lss, d1, onWant_true, h14.len, hw2, d2, k_r09_Relex_7_eq, onBool_true, k_r09_Relex_6_eq, h1.len, w3, ti_ix h1t ha', ti_load, List.getElem_map, hA, e1, memK_some, s1, w4, ti_ix h14t hb', hB, e2, s2, rFieldAddr_ptr,
        lf 1 a.f o3 rfl, lf 0 a.k o3 rfl, lf 2 a.t o3 rfl, lf 1 b.f o4 rfl, lf 0 b.k o4 rfl, lf 2 b.t o4 rfl, aBin_neq, aBin_add, wf, wt]
      by_cases c1 : (a.f : Int) < (e.to : Int)
      · rw [decide_eq_true c1, onWant_true]
        congr 2; rw [decide_eq_false (by rw [iff1]; omega)]; rfl
      · rw [decide_eq_false c1, onWant_false]
        by_cases c2 : (a.k : Int) = b.k
        · rw [decide_eq_false (by simpa using c2), onWant_false]
          by_cases c3 : (a.f : Int) + e.by_ = b.f
          · rw [decide_eq_false (by simpa using c3), onWant_false]
            congr 2
            by_cases c4 : (a.t : Int) + e.by_ = b.t
            · rw [decide_eq_false (by simpa using c4), decide_eq_true (by rw [iff1]; exact ⟨by omega, c2, c3, c4⟩)]; rfl
            · rw [decide_eq_true (by simpa using c4), decide_eq_false (by rw [iff1]; exact fun h => c4 h.2.2.2)]; rfl
          · rw [decide_eq_true (by simpa using c3), onWant_true]
            congr 2; rw [decide_eq_false (by rw [iff1]; exact fun h => c3 h.2.2.1)]; rfl
        · rw [decide_eq_true (by simpa using c2), onWant_true]
          congr 2; rw [decide_eq_false (by rw [iff1]; exact fun h => c2 h.2.1)]; rfl
  have pair : ∀ j (h1' : j < e.ts.length - e.front) (h2' : j < e.new.length), ∃ a b, e.ts[e.ts.length - 1 - j]? = some a ∧ (lex e.out 0)[(lex e.out 0).length - 1 - j]? = some b ∧ ((e.ts.drop e.front).reverse.zip e.new.reverse)[j]? = some (a, b) := by
    intro j h1' h2'
    refine ⟨_, _, List.getElem?_eq_getElem (by omega), List.getElem?_eq_getElem (by omega), ?_⟩
    rw [ts_get e he j (by simp; omega), out_get e he j h2' (by omega)]
    rw [List.getElem?_eq_getElem (by rw [hZ]; omega), List.getElem_zip]
  intro k
  induction k with
  | zero =>
    intro j m hk hj
    have : j = e.ends := by omega
    subst this
    by_cases hp : e.ends < e.ts.length - e.front ∧ e.ends < e.new.length
    · obtain ⟨m', k1, h3⟩ := round e.ends m hp.1 hp.2
      obtain ⟨a, b, ha, hb, hz⟩ := pair e.ends hp.1 hp.2
      have hzl : e.ends < ((e.ts.drop e.front).reverse.zip e.new.reverse).length := by rw [hZ]; omega
      have hst := tw_stop (p := fun p : Tok × Tok => decide (e.to ≤ p.1.f ∧ p.1.tsh e.by_ = Tok.ti p.2)) (l := (e.ts.drop e.front).reverse.zip e.new.reverse) hzl
      have hz2 : ((e.ts.drop e.front).reverse.zip e.new.reverse)[e.ends] = (a, b) := by
        rw [List.getElem?_eq_getElem hzl] at hz; exact Option.some.inj hz
      have hst2 : decide (e.to ≤ a.f ∧ a.tsh e.by_ = Tok.ti b) = false := by
        have h4 : (fun p : Tok × Tok => decide (e.to ≤ p.1.f ∧ p.1.tsh e.by_ = Tok.ti p.2)) (((e.ts.drop e.front).reverse.zip e.new.reverse)[e.ends]) = false := hst
        rw [hz2] at h4; exact h4
      refine ⟨m', ?_, k1⟩
      rw [h3 a b ha hb, hst2, Bool.not_false, k_r09_Relex_9_eq, onBool_true, k_r09_Relex_3_eq]
    · refine ⟨m, ?_, .refl _ _⟩
      rw [l_r09_Relex_2_eq, h1.len]
      simp only [hlen, hlen2, bnd_some, aBin_sub, hw1, aBin_lss, h14.len, hw2]
      by_cases c1 : e.ends < e.ts.length - e.front
      · have d1 : decide ((e.ends : Int) < ((e.ts.length - e.front : Nat) : Int)) = true := decide_eq_true (by omega)
        have d2 : decide ((e.ends : Int) < ((e.new.length : Nat) : Int)) = false := decide_eq_false (by omega)
        simp only [d1, onWant_true, d2, k_r09_Relex_7_eq, onBool_false, k_r09_Relex_3_eq]
      · have d1 : decide ((e.ends : Int) < ((e.ts.length - e.front : Nat) : Int)) = false := decide_eq_false (by omega)
        simp only [d1, onWant_false, k_r09_Relex_7_eq, onBool_false, k_r09_Relex_3_eq]
  | succ k ih =>
    intro j m hk hj
    obtain ⟨m1, k1, h3⟩ := round j m (by omega) (by omega)
    obtain ⟨a, b, ha, hb, hz⟩ := pair j (by omega) (by omega)
    have hzl : j < ((e.ts.drop e.front).reverse.zip e.new.reverse).length := by rw [hZ]; omega
    have hz2 : ((e.ts.drop e.front).reverse.zip e.new.reverse)[j] = (a, b) := by
      rw [List.getElem?_eq_getElem hzl] at hz; exact Option.some.inj hz
    have hje : j < e.ends := by omega
    have hst2 : decide (e.to ≤ a.f ∧ a.tsh e.by_ = Tok.ti b) = true := by
      have h4 : (fun p : Tok × Tok => decide (e.to ≤ p.1.f ∧ p.1.tsh e.by_ = Tok.ti p.2)) (((e.ts.drop e.front).reverse.zip e.new.reverse)[j]) = true := tw_lt (p := fun p : Tok × Tok => decide (e.to ≤ p.1.f ∧ p.1.tsh e.by_ = Tok.ti p.2)) hje hzl
      rw [hz2] at h4; exact h4
    obtain ⟨m', h5, h6⟩ := ih (j + 1) m1 (by omega) (by omega)
    refine ⟨m', ?_, k1.trans h6⟩
    rw [h3 a b ha hb, hst2, Bool.not_true, k_r09_Relex_9_eq, onBool_false, k_r09_Relex_8_eq, aBin_add, bnd_some]
    simp (disch := omega) only [wrap64]
    exact h5

/-- WHAT THE DOCUMENT's Relex ANSWERS. -/
theorem rrelex_s {v1 : AV} (h1 : HSl v1 (toks e.ts)) (m : Mem) : ∃ v m', w_r09_Relex (.str (bs e.s)) v1 (.int .i64 e.fr) (.int .i64 e.to) (.str (bs e.more)) m = some (.ret (.tup [v, .int .i64 e.front, .int .i64 e.ends, .int .i64 0]), m') ∧ HSl v (toks (lex e.out 0)) ∧ Kept m m' := by
  have hsl := he.s; have hfr := he.ok.1; have hto := he.ok.2; have hml := he.more
  have a1 : decide ((e.fr : Int) < 0) = false := decide_eq_false (by omega)
  have a2 : decide ((e.to : Int) < (e.fr : Int)) = false := decide_eq_false (by omega)
  have a3 : decide ((e.s.length : Int) < (e.to : Int)) = false := decide_eq_false (by omega)
  have hs1 : rSliceStr (.str (bs e.s)) none (some (.int .i64 e.fr)) = some (.str (bs (e.s.take e.fr))) := rSliceStr_hi (by omega)
  have hs2 : rSliceStr (.str (bs e.s)) (some (.int .i64 e.to)) none = some (.str (bs (e.s.drop e.to))) := rSliceStr_lo (by omega)
  have hol : e.out.length ≤ 800000000 := by unfold Ed.out; simp; omega
  obtain ⟨v, m1, b1, b2, b3⟩ := rlex_s e.out (by omega) m
  have hby : IntKind.i64.wrap ((e.more.length : Int) - IntKind.i64.wrap ((e.to : Int) - (e.fr : Int))) = e.by_ := by
    rw [wrap64 (n := (e.to : Int) - (e.fr : Int)) (by omega) (by omega), wrap64 (by omega) (by omega)]; rfl
  obtain ⟨m2, c1, c2⟩ := rend_loop e he h1 b2.hsl _ 0 m1 rfl (Nat.zero_le _)
  rw [e_r09_Relex]
  simp only [aBin_lss, bnd_some, a1, onWant_false, aBin_gtr, a2, rLenStr_bs, a3, k_r09_Relex_1_eq, onBool_false, k_r09_Relex_0_eq, hs1, hs2]
  rw [aBin_stradd (by simp; omega), bnd_some, aBin_stradd (by simp; omega), bnd_some]
  have er : e.s.take e.fr ++ e.more ++ e.s.drop e.to = e.out := rfl
  have hf0 : l_r09_Relex_0 v1 (.int .i64 e.fr) (.int .i64 e.to) (.str (bs e.more)) v (.int .i64 0) m1 = _ := rfront_loop e he h1 (.int .i64 e.to) (.str (bs e.more)) v _ 0 m1 rfl (Nat.zero_le _)
  rw [er, b1, retK_ret, hf0, k_r09_Relex_2_eq, rLenStr_bs, bnd_some, aBin_sub, bnd_some, aBin_sub, bnd_some, hby]
  exact ⟨v, m2, c1, b2.hsl, b3.trans c2⟩
end
end Go.AM
