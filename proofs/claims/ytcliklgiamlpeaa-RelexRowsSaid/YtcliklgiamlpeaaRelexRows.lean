/-
  RelexRows over the machine.
-/
import Derived.Test.YtcliklgiamlpeaaRelexEdits
import Derived.Test.YtcliklgiamlpeaaAMOpen
namespace Go.AM
open Go Go.Proofs Lx
set_option linter.unusedSimpArgs false
set_option linter.unusedVariables false

structure Cut9 where
  f : Int
  t : Int
  more : List UInt8
def cutAV (c : Cut9) : AV := .agg [.int .i64 c.f, .int .i64 c.t, .str (bs c.more)]
def Cut9.ok (c : Cut9) : Prop := c.more.length ≤ maxLen
theorem cut_fits : ∀ cs, FlatFits [.int .i64, .int .i64, .str] cs → ∃ t : Cut9, wrapE true cs = cutAV t ∧ t.ok
  | [.int k x, .int k' y, .str z], h => by
    obtain ⟨⟨rfl, h1⟩, ⟨rfl, h2⟩, h3, _⟩ := h
    refine ⟨⟨x, y, z.data.toList⟩, ?_, ?_⟩
    · simp only [wrapE, cutAV, bs_data]; rfl
    · exact h3

theorem ends_le (e : Ed) : e.ends ≤ e.ts.length - e.front ∧ e.ends ≤ e.new.length := by
  have h : e.ends ≤ ((e.ts.drop e.front).reverse.zip e.new.reverse).length := (List.takeWhile_sublist _).length_le
  simp at h
  omega

def cutRow (c : Cut9) : AO := .row [.int .i64 c.f, .int .i64 c.t, .str (bs c.more)] 0
theorem cutBox (m : Mem) : aBox m (.agg [.int .i64 0, .int .i64 0, .str (bs [])]) = some (.ptr m.next 0 0, m.alloc (cutRow ⟨0, 0, []⟩)) := rfl
theorem cutStore {m : Mem} {o : Nat} {c' : Cut9} (c : Cut9) (h : m.obj o = some (cutRow c')) : rStore 3 m (.ptr o 0 0) (cutAV c) = some (m.set o (cutRow c)) := rStore_ptr h rfl rfl rfl
theorem cutF {m : Mem} {o : Nat} {c : Cut9} (h : m.obj o = some (cutRow c)) : rLoad false 1 m (.ptr o 0 (0 + 0)) = some (.int .i64 c.f) := by rw [rLoad_ptr, cells_of h]; rfl
theorem cutT {m : Mem} {o : Nat} {c : Cut9} (h : m.obj o = some (cutRow c)) : rLoad false 1 m (.ptr o 0 (0 + 1)) = some (.int .i64 c.t) := by rw [rLoad_ptr, cells_of h]; rfl
theorem cutM {m : Mem} {o : Nat} {c : Cut9} (h : m.obj o = some (cutRow c)) : rLoad false 1 m (.ptr o 0 (0 + 2)) = some (.str (bs c.more)) := by rw [rLoad_ptr, cells_of h]; rfl

theorem rows_loop (cuts : List Cut9) (hc : cuts.length ≤ 30) {v1 : AV} (h1 : HSl v1 (cuts.map cutAV)) : ∀ (k i : Nat) (s : List UInt8) (v5 : AV) (m : Mem), cuts.length - i = k → i ≤ cuts.length → s.length ≤ 3000 + 300 * i → HSl v5 (toks (lex s 0)) →
    ∃ m', l_l09_RelexRows_0 (.str (bs s)) v1 v5 (.int .i64 i) m = some (.ret (.bool true), m') := by
  intro k
  induction k with
  | zero =>
    intro i s v5 m hk hi hs h5
    have : i = cuts.length := by omega
    subst this
    rw [l_l09_RelexRows_0_eq, h1.len]
    simp only [List.length_map, bnd_some, aBin_lss, Int.lt_irrefl, decide_false, onBool_false, k_l09_RelexRows_3_eq]
    exact ⟨m, rfl⟩
  | succ k ih =>
    intro i s v5 m hk hi hs h5
    have hlt : i < cuts.length := by omega
    have hd : decide ((i : Int) < (cuts.length : Nat)) = true := decide_eq_true (by omega)
    obtain ⟨c, hcq⟩ : ∃ c, cuts[i] = c := ⟨_, rfl⟩
    have hx : rIxAddrSl 3 v1 (.int .i64 i) = some (.pim [.int .i64 c.f, .int .i64 c.t, .str (bs c.more)]) :=
      h1.ix (x := cutAV c) (by simp [hlt, hcq]) rfl rfl
    have hld : rLoad true 3 m (.pim [.int .i64 c.f, .int .i64 c.t, .str (bs c.more)]) = some (cutAV c) := rfl
    have next : ∀ (s' : List UInt8) (v' : AV) (m' : Mem), s'.length ≤ 3000 + 300 * (i + 1) → HSl v' (toks (lex s' 0)) → ∃ m'', k_l09_RelexRows_5 (.str (bs s')) v1 v' (.int .i64 i) m' = some (.ret (.bool true), m'') := by
      intro s' v' m' hs' hv'
      rw [k_l09_RelexRows_5_eq]
      simp only [aBin_add, bnd_some]
      rw [wrap64 (by omega) (by omega)]
      exact ih (i + 1) s' v' m' (by omega) (by omega) hs' hv'
    rw [l_l09_RelexRows_0_eq, h1.len]
    simp only [List.length_map, bnd_some, aBin_lss, hd, onBool_true]
    rw [k_l09_RelexRows_4_eq, hx, bnd_some, hld, bnd_some, cutBox, memK_some]
    have o1 : (m.alloc (cutRow ⟨0, 0, []⟩)).obj m.next = some (cutRow ⟨0, 0, []⟩) := by simp
    have n1 : m.next < (m.alloc (cutRow ⟨0, 0, []⟩)).next := by simp
    rw [cutStore c o1, bnd_some, rFieldAddr_ptr, bnd_some]
    have o2 : ((m.alloc (cutRow ⟨0, 0, []⟩)).set m.next (cutRow c)).obj m.next = some (cutRow c) := by simp
    have n2 : m.next < ((m.alloc (cutRow ⟨0, 0, []⟩)).set m.next (cutRow c)).next := by simp
    generalize (m.alloc (cutRow ⟨0, 0, []⟩)).set m.next (cutRow c) = m2 at *
    generalize m.next = o at *
    rw [cutM o2, bnd_some, rLenStr_bs, bnd_some, aBin_gtr, bnd_some]
    by_cases b1 : (300 : Int) < (c.more.length : Nat)
    · rw [decide_eq_true b1, onBool_true]; exact ⟨_, rfl⟩
    rw [decide_eq_false b1, onBool_false, k_l09_RelexRows_6_eq]
    simp only [rFieldAddr_ptr, bnd_some]
    rw [cutF o2, bnd_some, cutT o2, bnd_some, cutM o2, bnd_some]
    by_cases h : c.f < 0 ∨ c.t < c.f ∨ (s.length : Int) < c.t
    · rw [relex_bad s c.more v5 c.f c.t h, retK_ret]
      simp only [aExtract_tup, List.getElem?_cons_zero, List.getElem?_cons_succ, bnd_some, aBin_neq]
      rw [decide_eq_true (by decide : (70 : Int) ≠ 0), onBool_true, decide_eq_false (by simp : ¬ (70 : Int) ≠ 70), onWant_false, cutF o2, bnd_some, aBin_geq, bnd_some]
      have k8 : ∃ m', k_l09_RelexRows_8 (.str (bs s)) v1 v5 (.int .i64 i) (.bool false) m2 = some (.ret (.bool true), m') := by
        rw [k_l09_RelexRows_8_eq, onBool_false]
        exact next s v5 m2 (by omega) h5
      by_cases a1 : 0 ≤ c.f
      · rw [decide_eq_true a1, onWant_true]
        simp only [cutT o2, bnd_some, aBin_leq]
        by_cases a2 : c.f ≤ c.t
        · rw [decide_eq_true a2, onWant_true]
          simp only [rLenStr_bs, bnd_some, aBin_leq]
          rw [decide_eq_false (by omega : ¬ c.t ≤ (s.length : Nat))]
          exact k8
        · rw [decide_eq_false a2, onWant_false]; exact k8
      · rw [decide_eq_false a1, onWant_false]; exact k8
    · obtain ⟨f, hf⟩ := Int.eq_ofNat_of_zero_le (by omega : 0 ≤ c.f)
      obtain ⟨t, ht⟩ := Int.eq_ofNat_of_zero_le (by omega : 0 ≤ c.t)
      rw [hf, ht] at h
      have hft : f ≤ t := by omega
      have hts : t ≤ s.length := by omega
      obtain ⟨e, he0⟩ : ∃ e : Ed, e = ⟨s, f, t, c.more⟩ := ⟨_, rfl⟩
      have es : e.s = s := by rw [he0]
      have ef : e.fr = f := by rw [he0]
      have et : e.to = t := by rw [he0]
      have em : e.more = c.more := by rw [he0]
      have he : e.fits := ⟨⟨by rw [ef, et]; exact hft, by rw [es, et]; exact hts⟩, by rw [es]; omega, by rw [em]; omega⟩
      obtain ⟨u, m3, g1, g2, g3⟩ := relex_s e he (v1 := v5) (by unfold Ed.ts; rw [es]; exact h5) m2
      rw [es, ef, et, em] at g1
      have o3 : m3.obj o = some (cutRow c) := (g3.obj o n2).trans o2
      have hol : e.out.length ≤ s.length + c.more.length := by unfold Ed.out; rw [es, em]; simp; omega
      have hlo := lex_length _ e.out 0 (Nat.le_refl _)
      have hlt5 := lex_length _ s 0 (Nat.le_refl _)
      have ⟨el1, el2⟩ := ends_le e
      have fl := front_le e he
      have htl : e.ts.length = (lex s 0).length := by unfold Ed.ts; rw [es]
      have hox := out_lex e he.ok
      have hnl : (lex e.out 0).length = e.front + e.new.length := by rw [hox]; simp; omega
      have g2t := g2; rw [toks_tis] at g2t
      have h5t := h5; rw [toks_tis] at h5t
      have hlu : (toks (lex e.out 0)).length = (lex e.out 0).length := by simp
      have hl5 : (toks (lex s 0)).length = (lex s 0).length := by simp
      obtain ⟨w1, q1, q2⟩ := g2t.slice_hi (size := 3) (n := e.front) (k := .i64) (by simp; omega)
      obtain ⟨w2, q3, q4⟩ := h5t.slice_hi (size := 3) (n := e.front) (k := .i64) (by simp; omega)
      have q2' : HSl w1 (tis (((lex e.out 0).map Tok.ti).take e.front)) := by simpa [tis] using q2
      have q4' : HSl w2 (tis (((lex s 0).map Tok.ti).take e.front)) := by simpa [tis] using q4
      have hsame : ((lex e.out 0).map Tok.ti).take e.front = ((lex s 0).map Tok.ti).take e.front := by
        have e1 : e.ts = lex s 0 := by unfold Ed.ts; rw [es]
        rw [hox, List.map_append, List.take_append_of_le_length (by simp; omega), ← List.map_take, List.take_take, Nat.min_self, e1, List.map_take]
      rw [hf, ht, g1, retK_ret]
      simp only [aExtract_tup, List.getElem?_cons_zero, List.getElem?_cons_succ, bnd_some, aBin_neq]
      rw [decide_eq_false (by simp : ¬ (0 : Int) ≠ 0), onBool_false, k_l09_RelexRows_7_eq, aBin_lss, bnd_some, decide_eq_false (by omega : ¬ (e.front : Int) < 0), onWant_false, aBin_lss, bnd_some, decide_eq_false (by omega : ¬ (e.ends : Int) < 0), onWant_false]
      simp only [aBin_add, bnd_some, h5.len, g2.len, aBin_gtr, hlu, hl5]
      rw [wrap64 (by omega) (by omega), decide_eq_false (by omega), onWant_false, decide_eq_false (by omega), onWant_false, q1, bnd_some, q3, bnd_some, same_s q2' q4' (by simp; omega), retK_ret, hsame]
      simp only [decide_true, aUn_not, Bool.not_true, bnd_some]
      rw [k_l09_RelexRows_10_eq, onBool_false, k_l09_RelexRows_9_eq]
      simp only [rFieldAddr_ptr, bnd_some]
      have hcat : (s.take f ++ c.more ++ s.drop t) = e.out := by unfold Ed.out; rw [es, ef, et, em]
      have sl1 : rSliceStr (.str (bs s)) none (some (.int .i64 (f : Nat))) = some (.str (bs (s.take f))) := rSliceStr_hi (by omega)
      have sl2 : rSliceStr (.str (bs s)) (some (.int .i64 (t : Nat))) none = some (.str (bs (s.drop t))) := rSliceStr_lo (by omega)
      have c1 := cutF o3
      have c2 := cutT o3
      rw [hf] at c1
      rw [ht] at c2
      obtain ⟨v122, m4, b1, b2, b3⟩ := lex_s e.out (by omega) m3
      have b4 := b2.hsl
      rw [toks_tis] at b4
      have c1 : rLoad false 1 m3 (.ptr o 0 (0 + 0)) = some (.int .i64 (f : Nat)) := c1
      have c2 : rLoad false 1 m3 (.ptr o 0 (0 + 1)) = some (.int .i64 (t : Nat)) := c2
      rw [c1, bnd_some, sl1, bnd_some, cutM o3, bnd_some, aBin_stradd (by simp; omega), bnd_some, c2, bnd_some, sl2, bnd_some, aBin_stradd (by simp; omega), bnd_some, hcat, b1, retK_ret, same_s g2t b4 (by simp; omega), retK_ret]
      simp only [decide_true, aUn_not, Bool.not_true, bnd_some, onBool_false]
      exact next e.out u m4 (by omega) g2

theorem relexRows_plain (s : List UInt8) (v1 : AV) (cuts : List Cut9) (h1 : HSl v1 (cuts.map cutAV)) (_h : ∀ c ∈ cuts, c.ok) (_hl : cuts.length ≤ maxLen) (hs : s.length ≤ 140737488351232) (m : Mem) : ∃ m', w_l09_RelexRows (.str (bs s)) v1 m = some (.ret (.bool true), m') := by
  obtain ⟨m1, h2, h3⟩ := alive9_s m
  rw [e_l09_RelexRows, h2, retK_ret, aUn_not, bnd_some, Bool.not_true, onBool_false, k_l09_RelexRows_0_eq]
  simp only [rLenStr_bs, bnd_some, aBin_gtr, h1.len, List.length_map, k_l09_RelexRows_2_eq, onBool_true]
  by_cases a1 : (3000 : Int) < (s.length : Nat)
  · rw [decide_eq_true a1, onWant_true]; exact ⟨_, rfl⟩
  · rw [decide_eq_false a1, onWant_false]
    by_cases a2 : (30 : Int) < (cuts.length : Nat)
    · rw [decide_eq_true a2, onBool_true]; exact ⟨_, rfl⟩
    · rw [decide_eq_false a2, onBool_false, k_l09_RelexRows_1_eq]
      obtain ⟨v23, m2, b1, b2, b3⟩ := lex_s s (by omega) m1
      rw [b1, retK_ret]
      exact rows_loop cuts (by omega) h1 _ 0 s v23 m2 rfl (Nat.zero_le _) (by omega) b2.hsl
end Go.AM
