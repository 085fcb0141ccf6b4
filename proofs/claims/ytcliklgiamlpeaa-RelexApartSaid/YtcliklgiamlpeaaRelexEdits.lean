/-
  RelexEdits over the machine.
-/
import Derived.Test.YtcliklgiamlpeaaRelexR
namespace Go.AM
open Go Go.Proofs Lx
set_option linter.unusedSimpArgs false
set_option linter.unusedVariables false

def aEd : Ed := ⟨[108, 101, 116, 32, 120, 32, 61, 32, 49], 5, 5, [121]⟩
theorem aEd_lex : lex aEd.out 0 = [⟨5, 0, 3⟩, ⟨1, 4, 6⟩, ⟨6, 7, 8⟩, ⟨3, 9, 10⟩] := by decide +kernel
theorem aEd_front : aEd.front = 1 := by decide +kernel
theorem aEd_ends : aEd.ends = 2 := by decide +kernel
theorem aEd_fits : aEd.fits := ⟨⟨by decide, by decide⟩, by decide, by decide⟩

theorem alive9_s (m : Mem) : ∃ m', w_l09_alive m = some (.ret (.bool true), m') ∧ Kept m m' := by
  obtain ⟨v, m1, h1, h2, h3⟩ := lex_s aEd.s (by decide) m
  obtain ⟨u, m2, h4, h5, h6⟩ := relex_s aEd aEd_fits (v1 := v) h2.hsl m1
  rw [aEd_front, aEd_ends] at h4
  rw [aEd_lex, toks_tis] at h5
  have h1' : w_lex_Lex (.str (bs [108, 101, 116, 32, 120, 32, 61, 32, 49])) m = some (.ret v, m1) := h1
  have h4' : w_relex_Relex (.str (bs [108, 101, 116, 32, 120, 32, 61, 32, 49])) v (.int .i64 5) (.int .i64 5) (.str (bs [121])) m1 = some (.ret (.tup [u, .int .i64 1, .int .i64 2, .int .i64 0]), m2) := h4
  have hix : rIxAddrSl 3 u (.int .i64 1) = some (.pim [.int .i64 1, .int .i64 4, .int .i64 6]) := ti_ix h5 (n := 1) (by decide)
  have hld : rLoad true 3 m2 (.pim [.int .i64 1, .int .i64 4, .int .i64 6]) = some (tiAV ⟨1, 4, 6⟩) := rfl
  have hq : (AV.agg [.int .i64 1, .int .i64 4, .int .i64 6]) = tiAV ⟨1, 4, 6⟩ := rfl
  refine ⟨m2, ?_, h3.trans h6⟩
  rw [e_l09_alive, h1', retK_ret, h4', retK_ret]
  simp only [aExtract_tup, List.getElem?_cons_zero, List.getElem?_cons_succ, bnd_some, aBin_eql, decide_true, onWant_true, h5.len, List.length_map, List.length_cons, List.length_nil, hix, hld, build3i, hq, tiEq]
  rfl

theorem relex_bad (s more : List UInt8) (v1 : AV) (fr to : Int) (h : fr < 0 ∨ to < fr ∨ (s.length : Int) < to) (m : Mem) : w_relex_Relex (.str (bs s)) v1 (.int .i64 fr) (.int .i64 to) (.str (bs more)) m = some (.ret (.tup [.nils, .int .i64 0, .int .i64 0, .int .i64 70]), m) := by
  rw [e_relex_Relex]
  simp only [aBin_lss, aBin_gtr, bnd_some, rLenStr_bs, k_relex_Relex_1_eq, onBool_true]
  by_cases a1 : fr < 0
  · rw [decide_eq_true a1, onWant_true]
  · rw [decide_eq_false a1, onWant_false]
    by_cases a2 : to < fr
    · rw [decide_eq_true a2, onWant_true]
    · rw [decide_eq_false a2, onWant_false, decide_eq_true (by omega : (s.length : Int) < to), onBool_true]
theorem rrelex_bad (s more : List UInt8) (v1 : AV) (fr to : Int) (h : fr < 0 ∨ to < fr ∨ (s.length : Int) < to) (m : Mem) : w_r09_Relex (.str (bs s)) v1 (.int .i64 fr) (.int .i64 to) (.str (bs more)) m = some (.ret (.tup [.nils, .int .i64 0, .int .i64 0, .int .i64 70]), m) := by
  rw [e_r09_Relex]
  simp only [aBin_lss, aBin_gtr, bnd_some, rLenStr_bs, k_r09_Relex_1_eq, onBool_true]
  by_cases a1 : fr < 0
  · rw [decide_eq_true a1, onWant_true]
  · rw [decide_eq_false a1, onWant_false]
    by_cases a2 : to < fr
    · rw [decide_eq_true a2, onWant_true]
    · rw [decide_eq_false a2, onWant_false, decide_eq_true (by omega : (s.length : Int) < to), onBool_true]

theorem copy_s {v : AV} {xs : List TI} (h : HSl v (tis xs)) (hl : xs.length ≤ 1000000000) (m : Mem) : ∃ v' m', w_r00_CopyTokens v m = some (.ret v', m') ∧ App m.next 3 m' v' (tis xs) ∧ Kept m m' := by
  obtain ⟨v', m', h1, h2, h3, _⟩ := App.append (A := A_api_Token) (b := m.next) (m := m) (v := .sl .full []) (xs := []) (ys := tis xs) (.full [] rfl) (Nat.le_refl _) h (tis_sized xs) ⟨by decide, rfl⟩ (by simp only [List.length_map, List.length_nil, A_api_Token]; omega) (by simp; omega)
  refine ⟨v', m', ?_, h2, h3⟩
  rw [e_r00_CopyTokens, rempty, bnd_some, h1, memK_some]

/-- both answer alike -/
theorem both_s (s more : List UInt8) (fr to : Int) (hs : s.length ≤ 400000000) (hm : more.length ≤ 400000000) {va vb : AV} (ha : HSl va (toks (lex s 0))) (hb : HSl vb (toks (lex s 0))) (m : Mem) :
    ∃ (u w : AV) (xs : List TI) (x y z : Int) (m1 : Mem), w_relex_Relex (.str (bs s)) va (.int .i64 fr) (.int .i64 to) (.str (bs more)) m = some (.ret (.tup [u, .int .i64 x, .int .i64 y, .int .i64 z]), m1) ∧ Kept m m1 ∧ HSl u (tis xs) ∧ xs.length ≤ 1000000000 ∧
      ∃ m2, w_r09_Relex (.str (bs s)) vb (.int .i64 fr) (.int .i64 to) (.str (bs more)) m1 = some (.ret (.tup [w, .int .i64 x, .int .i64 y, .int .i64 z]), m2) ∧ Kept m1 m2 ∧ HSl w (tis xs) := by
  by_cases h : fr < 0 ∨ to < fr ∨ (s.length : Int) < to
  · exact ⟨_, _, [], _, _, _, m, relex_bad s more va fr to h m, .refl _ _, .nil, by simp, m, rrelex_bad s more vb fr to h m, .refl _ _, .nil⟩
  · obtain ⟨f, rfl⟩ := Int.eq_ofNat_of_zero_le (by omega : 0 ≤ fr)
    obtain ⟨t, rfl⟩ := Int.eq_ofNat_of_zero_le (by omega : 0 ≤ to)
    have he : (Ed.mk s f t more).fits := ⟨⟨by simp only []; omega, by simp only []; omega⟩, hs, hm⟩
    obtain ⟨u, m1, h1, h2, h3⟩ := relex_s _ he (v1 := va) ha m
    obtain ⟨w, m2, h4, h5, h6⟩ := rrelex_s _ he (v1 := vb) hb m1
    rw [toks_tis] at h2 h5
    have hol := lex_length _ (Ed.mk s f t more).out 0 (Nat.le_refl _)
    have : (Ed.mk s f t more).out.length ≤ 800000000 := by unfold Ed.out; simp; omega
    exact ⟨u, w, _, _, _, _, m1, h1, h3, h2, by simp; omega, m2, h4, h6, h5⟩

theorem relexEdits_plain (s : List UInt8) (fr to : Int) (more : List UInt8) (hs : s.length ≤ 140737488351232) (hm : more.length ≤ 140737488351232) (m : Mem) : ∃ m', w_l09_RelexEdits (.str (bs s)) (.int .i64 fr) (.int .i64 to) (.str (bs more)) m = some (.ret (.bool true), m') := by
  obtain ⟨m1, h1, h2⟩ := alive9_s m
  rw [e_l09_RelexEdits, h1, retK_ret, aUn_not, bnd_some, Bool.not_true, onBool_false, k_l09_RelexEdits_0_eq]
  simp only [rLenStr_bs, bnd_some, aBin_add, aBin_gtr]
  rw [wrap64 (by omega) (by omega)]
  by_cases a1 : (20000 : Int) < (s.length : Nat) + (more.length : Nat)
  · simp only [decide_eq_true a1, onBool_true]; exact ⟨_, rfl⟩
  · simp only [decide_eq_false a1, onBool_false, k_l09_RelexEdits_1_eq]
    obtain ⟨v28, m2, b1, b2, b3⟩ := rlex_s s (by omega) m1
    have hll := lex_length _ s 0 (Nat.le_refl _)
    have b4 := b2.hsl
    have b4t := b4; rw [toks_tis] at b4t
    obtain ⟨v30, m3, c1, c2, c3⟩ := copy_s b4t (by simp; omega) m2
    obtain ⟨v33, m4, d1, d2, d3⟩ := ti_app c2 c3.next (by simp; omega) ⟨9, 0, 0⟩
    have d2h := d2.hsl
    have hlen33 : (tis ((lex s 0).map Tok.ti ++ [⟨9, 0, 0⟩])).length = (lex s 0).length + 1 := by simp
    obtain ⟨v39, f1, f2⟩ := d2h.slice_hi (size := 3) (n := (lex s 0).length) (k := .i64) (by rw [hlen33]; omega)
    have f3 : (tis ((lex s 0).map Tok.ti ++ [⟨9, 0, 0⟩])).take (lex s 0).length = toks (lex s 0) := by
      rw [toks_tis]; simp [tis]
    rw [f3] at f2
    obtain ⟨u, w, xs, x, y, z, m5, g1, g2, g3, g4, m6, g5, g6, g7⟩ := both_s s more fr to (by omega) (by omega) f2 b4 m4
    have hb28 : rBuild [.int .i64 0, .int .i64 0, .int .i64 0] [(0, 1, .int .i64 9)] = some (tiAV ⟨9, 0, 0⟩) := by
      simp [putCells, splice, tiAV]
    have hl28 : (toks (lex s 0)).length = (lex s 0).length := by simp
    have hx9 : rIxAddrSl 3 v33 (.int .i64 ((lex s 0).length : Nat)) = some (.pim [.int .i64 9, .int .i64 0, .int .i64 0]) :=
      d2h.ix (x := tiAV ⟨9, 0, 0⟩) (by simp [tis]) rfl rfl
    have s1 := same_s g3 g7 (by omega) m6
    have s2 := same_s (by rw [toks_tis] at f2; exact f2) b4t (by simp; omega) m6
    rw [b1, retK_ret, c1, retK_ret, hb28, bnd_some, tok1t, bnd_some, d1, memK_some, b4.len, bnd_some, hl28, f1, bnd_some, g1, retK_ret]
    simp only [aExtract_tup, List.getElem?_cons_zero, List.getElem?_cons_succ, bnd_some, g5, retK_ret, s1, decide_true, onWant_true, aBin_eql, f1, s2, hx9, rFieldAddr_pim, rLoad_pimc, List.drop_zero]
    exact ⟨m6, rfl⟩
end Go.AM
