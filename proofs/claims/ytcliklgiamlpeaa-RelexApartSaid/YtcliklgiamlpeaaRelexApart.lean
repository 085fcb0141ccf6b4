/-
  RelexApart over the machine.
-/
import Derived.Test.YtcliklgiamlpeaaRelexSpans
namespace Go.AM
open Go Go.Proofs Lx
set_option linter.unusedSimpArgs false
set_option linter.unusedVariables false

structure SpWell (n : Int) (L : List (Int × Int)) : Prop where
  each : ∀ p ∈ L, 0 ≤ p.1 ∧ p.1 < p.2 ∧ p.2 ≤ n
  pair : List.Pairwise (fun p q : Int × Int => p.2 + 2 ≤ q.1) L
def Cov (L : List (Int × Int)) (t : TI) : Prop := ∃ p ∈ L, p.1 ≤ t.f ∧ t.t ≤ p.2

theorem spGo_inv (s : List UInt8) (n : Int) : ∀ (ts : List TI) (up : Bool) (L : List (Int × Int)) (e : Int), (∀ t ∈ ts, 0 ≤ t.f ∧ t.f < t.t ∧ t.t ≤ n ∧ e ≤ t.f) → List.Pairwise (fun x y : TI => x.t ≤ y.f) ts → (∀ t ∈ ts, isS s t [59, 59] = true → t.t = t.f + 2) → SpWell n L → (∀ a ∈ L, a.2 + (if up then 0 else 2) ≤ e) → (up = true → L ≠ []) →
    SpWell n (spGo s ts up L) ∧ (∀ t, Cov L t → Cov (spGo s ts up L) t) ∧ (∀ t ∈ ts, isS s t [59, 59] = false → Cov (spGo s ts up L) t)
  | [], up, L, e, _, _, _, hW, _, _ => ⟨hW, fun _ h => h, by simp⟩
  | t :: ts, up, L, e, hb, hp, h2, hW, hL, hu => by
    have hbt := hb t (List.mem_cons_self ..)
    have hpt := List.pairwise_cons.1 hp
    have hb' : ∀ x ∈ ts, 0 ≤ x.f ∧ x.f < x.t ∧ x.t ≤ n ∧ t.t ≤ x.f := fun x hx => by
      have := hb x (List.mem_cons_of_mem _ hx)
      have := hpt.1 x hx
      omega
    have h2' : ∀ x ∈ ts, isS s x [59, 59] = true → x.t = x.f + 2 := fun x hx => h2 x (List.mem_cons_of_mem _ hx)
    cases hI : isS s t [59, 59] with
    | true =>
      have ht2 := h2 t (List.mem_cons_self ..) hI
      have e1 : spGo s (t :: ts) up L = spGo s ts false L := by rw [spGo, if_pos hI]
      rw [e1]
      obtain ⟨g1, g2, g3⟩ := spGo_inv s n ts false L t.t hb' hpt.2 h2' hW (fun a ha => by
        have h3 := hL a ha
        simp only [Bool.false_eq_true, if_false]
        cases up <;> simp only [if_true, Bool.false_eq_true, if_false] at h3 <;> omega) (by simp)
      refine ⟨g1, g2, fun x hx hx2 => ?_⟩
      rcases List.mem_cons.1 hx with rfl | hx
      · rw [hI] at hx2; cases hx2
      · exact g3 x hx hx2
    | false =>
      obtain ⟨L', hL'⟩ : ∃ L', L' = if up = true then setLast L t.t else L ++ [(t.f, t.t)] := ⟨_, rfl⟩
      have e1 : spGo s (t :: ts) up L = spGo s ts true L' := by rw [spGo, if_neg (by simp [hI]), hL']
      have key : SpWell n L' ∧ (∀ a ∈ L', a.2 ≤ t.t) ∧ L' ≠ [] ∧ Cov L' t ∧ ∀ x, Cov L x → Cov L' x := by
        cases up with
        | false =>
          simp only [Bool.false_eq_true, if_false] at hL' hL
          subst hL'
          refine ⟨⟨?_, ?_⟩, ?_, by simp, ⟨(t.f, t.t), by simp, Int.le_refl _, Int.le_refl _⟩, ?_⟩
          · intro p hp
            rcases List.mem_append.1 hp with hp | hp
            · exact hW.each p hp
            · rw [List.mem_singleton] at hp; subst hp; simp only []; omega
          · rw [List.pairwise_append]
            refine ⟨hW.pair, List.pairwise_singleton .., fun a ha b hb => ?_⟩
            rw [List.mem_singleton] at hb; subst hb
            have := hL a ha
            simp only []; omega
          · intro a ha
            rcases List.mem_append.1 ha with ha | ha
            · have := hL a ha; omega
            · rw [List.mem_singleton] at ha; subst ha; exact Int.le_refl _
          · rintro x ⟨p, hp, h3⟩
            exact ⟨p, List.mem_append_left _ hp, h3⟩
        | true =>
          simp only [if_true] at hL' hL
          have hne := hu rfl
          obtain ⟨M, q, rfl⟩ : ∃ M q, L = M ++ [q] := ⟨L.dropLast, L.getLast hne, (List.dropLast_concat_getLast hne).symm⟩
          rw [setLast_append] at hL'
          subst hL'
          have hq := hW.each q (by simp)
          have hqe := hL q (by simp)
          have hpa := List.pairwise_append.1 hW.pair
          refine ⟨⟨?_, ?_⟩, ?_, by simp, ⟨(q.1, t.t), by simp, ?_, Int.le_refl _⟩, ?_⟩
          · intro p hp
            rcases List.mem_append.1 hp with hp | hp
            · exact hW.each p (List.mem_append_left _ hp)
            · rw [List.mem_singleton] at hp; subst hp; simp only []; omega
          · rw [List.pairwise_append]
            refine ⟨hpa.1, List.pairwise_singleton .., fun a ha b hb => ?_⟩
            rw [List.mem_singleton] at hb; subst hb
            exact hpa.2.2 a ha q (by simp)
          · intro a ha
            rcases List.mem_append.1 ha with ha | ha
            · have := hL a (List.mem_append_left _ ha); omega
            · rw [List.mem_singleton] at ha; subst ha; exact Int.le_refl _
          · simp only []; omega
          · rintro x ⟨p, hp, h3⟩
            rcases List.mem_append.1 hp with hp | hp
            · exact ⟨p, List.mem_append_left _ hp, h3⟩
            · rw [List.mem_singleton] at hp; subst hp
              exact ⟨(p.1, t.t), by simp, h3.1, by simp only []; omega⟩
      obtain ⟨k1, k2, k3, k4, k5⟩ := key
      rw [e1]
      obtain ⟨g1, g2, g3⟩ := spGo_inv s n ts true L' t.t hb' hpt.2 h2' k1 (fun a ha => by simpa using k2 a ha) (fun _ => k3)
      refine ⟨g1, fun x hx => g2 x (k5 x hx), fun x hx hx2 => ?_⟩
      rcases List.mem_cons.1 hx with rfl | hx
      · exact g2 x k4
      · exact g3 x hx hx2

theorem is_two {s : List UInt8} {t : TI} (h0 : 0 ≤ t.f) (h1 : t.f ≤ t.t) (h2 : t.t ≤ s.length) (h : isS s t [59, 59] = true) : t.t = t.f + 2 := by
  unfold isS wordS at h
  rw [if_neg (by omega)] at h
  simp only [Bool.and_eq_true, decide_eq_true_eq] at h
  have := congrArg List.length h.2
  simp at this
  omega

theorem lex_spans (s : List UInt8) : SpWell s.length (spGo s ((lex s 0).map Tok.ti) false []) ∧ ∀ t ∈ (lex s 0).map Tok.ti, isS s t [59, 59] = false → Cov (spGo s ((lex s 0).map Tok.ti) false []) t := by
  have hs := lex_sorted _ s 0 (Nat.le_refl _)
  have hb := lex_bounds _ s 0 (Nat.le_refl _)
  have hb' : ∀ t ∈ (lex s 0).map Tok.ti, 0 ≤ t.f ∧ t.f < t.t ∧ t.t ≤ (s.length : Nat) ∧ 0 ≤ t.f := by
    intro t ht
    obtain ⟨x, hx, rfl⟩ := List.mem_map.1 ht
    have := hb x hx
    simp only [Tok.ti]; omega
  obtain ⟨h1, _, h3⟩ := spGo_inv s s.length ((lex s 0).map Tok.ti) false [] 0 hb' (by
    rw [List.pairwise_map]
    exact hs.imp (fun h => by simp only [Tok.ti]; omega)) (fun t ht h => by have := hb' t ht; exact is_two (by omega) (by omega) (by omega) h) ⟨by simp, .nil⟩ (by simp) (by simp)
  exact ⟨h1, h3⟩

theorem apart_end (s : List UInt8) (hs : s.length ≤ 1000000000) {v4 : AV} {L : List (Int × Int)} {b : Nat} {m : Mem} (h4 : Sp b m v4 L) (hl : L.length ≤ 1000000000) (hW : SpWell s.length L) : ∀ (k j : Nat), L.length - j = k → j ≤ L.length →
    l_l09_RelexApart_4 (.str (bs s)) v4 (.int .i64 j) m = some (.ret (.bool true), m)
  | 0, j, hk, hj => by
    have : j = L.length := by omega
    subst this
    rw [l_l09_RelexApart_4_eq, h4.len]
    simp only [bnd_some, aBin_lss, Int.lt_irrefl, decide_false, onBool_false, k_l09_RelexApart_3_eq]
  | k + 1, j, hk, hj => by
    have hlt : j < L.length := by omega
    obtain ⟨q, q1, q2, r0, r1, q3, q4, q5, q6⟩ := h4.get hlt
    have hw := hW.each L[j] (List.getElem_mem hlt)
    have next : k_l09_RelexApart_9 (.str (bs s)) v4 (.int .i64 j) (.bool false) m = some (.ret (.bool true), m) := by
      rw [k_l09_RelexApart_9_eq, onBool_false, k_l09_RelexApart_8_eq]
      simp only [aBin_add, bnd_some]
      rw [wrap64 (by omega) (by omega)]
      exact apart_end s hs h4 hl hW k (j + 1) (by omega) (by omega)
    rw [l_l09_RelexApart_4_eq, h4.len]
    simp only [bnd_some, aBin_lss]
    rw [decide_eq_true (by omega), onBool_true, k_l09_RelexApart_5_eq]
    simp only [q1, q3, q4, q5, q6, bnd_some, aBin_lss, aBin_leq, aBin_gtr, rLenStr_bs]
    rw [decide_eq_false (by omega), onWant_false, decide_eq_false (by omega), onWant_false, decide_eq_false (by omega), onWant_false]
    by_cases hj0 : j = 0
    · subst hj0
      rw [decide_eq_false (by simp), onWant_false]
      exact next
    · rw [decide_eq_true (by omega), onWant_true, aBin_sub, bnd_some, wrap64 (by omega) (by omega)]
      have hj1 : ((j : Int) - 1) = ((j - 1 : Nat) : Int) := by omega
      have hlt1 : j - 1 < L.length := by omega
      obtain ⟨q', p1, p2, r0', r1', p3, p4, p5, p6⟩ := h4.get hlt1
      have hpr := List.pairwise_iff_getElem.1 hW.pair (j - 1) j hlt1 hlt (by omega)
      have hw' := hW.each L[j - 1] (List.getElem_mem hlt1)
      rw [hj1]
      simp only [p1, p3, p4, p5, p6, bnd_some, aBin_add, aBin_gtr]
      rw [wrap64 (by omega) (by omega), decide_eq_false (by omega)]
      exact next

theorem at_loop (s : List UInt8) {v3 v4 : AV} {ts : List TI} (h3 : HSl v3 (tis ts)) {L : List (Int × Int)} {b : Nat} {m : Mem} (h4 : Sp b m v4 L) (hl : L.length ≤ 1000000000) (i : Nat) (hi : i < ts.length) : ∀ (k a : Nat), L.length - a = k → a ≤ L.length →
    ∃ a', a ≤ a' ∧ a' ≤ L.length ∧ (∀ j (h : j < L.length), a ≤ j → j < a' → L[j].2 < ts[i].t) ∧ (∀ h : a' < L.length, ts[i].t ≤ L[a'].2) ∧ l_l09_RelexApart_2 (.str (bs s)) v3 v4 (.int .i64 a) (.int .i64 i) m = k_l09_RelexApart_10 (.str (bs s)) v3 v4 (.int .i64 a') (.int .i64 i) m
  | 0, a, hk, ha => by
    have : a = L.length := by omega
    subst this
    refine ⟨L.length, Nat.le_refl _, Nat.le_refl _, fun j h h1 h2 => by omega, fun h => by omega, ?_⟩
    rw [l_l09_RelexApart_2_eq, h4.len]
    simp only [bnd_some, aBin_lss, Int.lt_irrefl, decide_false, onWant_false, k_l09_RelexApart_13_eq, onBool_false]
  | k + 1, a, hk, ha => by
    have hlt : a < L.length := by omega
    obtain ⟨q, q1, q2, r0, r1, q3, q4, q5, q6⟩ := h4.get hlt
    have hd : decide ((a : Int) < (L.length : Nat)) = true := decide_eq_true (by omega)
    have e : l_l09_RelexApart_2 (.str (bs s)) v3 v4 (.int .i64 a) (.int .i64 i) m = k_l09_RelexApart_13 (.str (bs s)) v3 v4 (.int .i64 a) (.int .i64 i) (.bool (decide (L[a].2 < ts[i].t))) m := by
      rw [l_l09_RelexApart_2_eq, h4.len]
      simp only [bnd_some, aBin_lss, hd, onWant_true, q1, q5, q6, ti_ix h3 hi, rFieldAddr_pim, rLoad_pimc, List.drop_succ_cons, List.drop_zero, List.getElem?_cons_zero]
    rw [e, k_l09_RelexApart_13_eq]
    by_cases hc : L[a].2 < ts[i].t
    · rw [decide_eq_true hc, onBool_true, k_l09_RelexApart_12_eq]
      simp only [aBin_add, bnd_some]
      rw [wrap64 (by omega) (by omega)]
      obtain ⟨a', g1, g2, g3, g4, g5⟩ := at_loop s h3 h4 hl i hi k (a + 1) (by omega) (by omega)
      refine ⟨a', by omega, g2, fun j h h1 h2 => ?_, g4, g5⟩
      by_cases hja : j = a
      · subst hja; exact hc
      · exact g3 j h (by omega) h2
    · rw [decide_eq_false hc, onBool_false]
      exact ⟨a, Nat.le_refl _, ha, fun j h h1 h2 => by omega, fun _ => by omega, rfl⟩

theorem apart_loop (s : List UInt8) (hs : s.length ≤ 1000000000) {v3 : AV} {ts : List TI} (h3 : HSl v3 (tis ts)) (htl : ts.length ≤ 1000000000) (hb : ∀ t ∈ ts, t.f < t.t) (hp : List.Pairwise (fun x y : TI => x.t ≤ y.f) ts) {v4 : AV} {L : List (Int × Int)} {b : Nat} (hl : L.length ≤ 1000000000) (hW : SpWell s.length L) (hC : ∀ t ∈ ts, isS s t [59, 59] = false → Cov L t) :
    ∀ (k i a : Nat) (m : Mem), ts.length - i = k → i ≤ ts.length → a ≤ L.length → Sp b m v4 L → (∀ j (h : j < L.length), j < a → ∀ i' (h' : i' < ts.length), i ≤ i' → L[j].2 < ts[i'].t) →
      ∃ m', l_l09_RelexApart_0 (.str (bs s)) v3 v4 (.int .i64 a) (.int .i64 i) m = some (.ret (.bool true), m') := by
  intro k
  induction k with
  | zero =>
    intro i a m hk hi ha h4 hA
    have : i = ts.length := by omega
    subst this
    rw [l_l09_RelexApart_0_eq, h3.len]
    simp only [List.length_map, bnd_some, aBin_lss, Int.lt_irrefl, decide_false, onBool_false, k_l09_RelexApart_2_eq]
    exact ⟨m, apart_end s hs h4 hl hW _ 0 rfl (Nat.zero_le _)⟩
  | succ k ih =>
    intro i a m hk hi ha h4 hA
    have hlt : i < ts.length := by omega
    have hd : decide ((i : Int) < (ts.length : Nat)) = true := decide_eq_true (by omega)
    obtain ⟨m1, q1, q2⟩ := is_s s ts[i] [59, 59] m
    have next : ∀ (a' : Nat), a' ≤ L.length → (∀ j (h : j < L.length), j < a' → ∀ i' (h' : i' < ts.length), i + 1 ≤ i' → L[j].2 < ts[i'].t) → ∃ m', k_l09_RelexApart_6 (.str (bs s)) v3 v4 (.int .i64 a') (.int .i64 i) m1 = some (.ret (.bool true), m') := by
      intro a' ha' hA'
      rw [k_l09_RelexApart_6_eq]
      simp only [aBin_add, bnd_some]
      rw [wrap64 (by omega) (by omega)]
      exact ih (i + 1) a' m1 (by omega) (by omega) ha' (h4.kept q2) hA'
    rw [l_l09_RelexApart_0_eq, h3.len]
    simp only [List.length_map, bnd_some, aBin_lss, hd, onBool_true]
    rw [k_l09_RelexApart_4_eq, ti_ix h3 hlt, bnd_some, ti_load, bnd_some, q1, retK_ret]
    cases hI : isS s ts[i] [59, 59] with
    | true =>
      rw [onBool_true]
      exact next a ha fun j h h1 i' h' h2 => hA j h h1 i' h' (by omega)
    | false =>
      rw [onBool_false, k_l09_RelexApart_7_eq]
      obtain ⟨a', g1, g2, g3, g4, g5⟩ := at_loop s h3 (h4.kept q2) hl i hlt _ a rfl ha
      rw [g5, k_l09_RelexApart_10_eq, h4.len]
      simp only [bnd_some, aBin_eql]
      obtain ⟨p, hp1, hp2, hp3⟩ := hC ts[i] (List.getElem_mem hlt) hI
      obtain ⟨c, hc, rfl⟩ := List.getElem_of_mem hp1
      have below : ∀ j (h : j < L.length), j < a' → L[j].2 < ts[i].t := fun j h h1 => by
        by_cases hja : j < a
        · exact hA j h hja i hlt (Nat.le_refl _)
        · exact g3 j h (by omega) h1
      have hca : a' ≤ c := by
        rcases Nat.lt_or_ge c a' with h | h
        · have := below c hc h; omega
        · exact h
      have hal : a' < L.length := by omega
      obtain ⟨q, p1, p2, r0, r1, p3, p4, p5, p6⟩ := (h4.kept q2).get hal
      have hfst : L[a'].1 ≤ ts[i].f := by
        by_cases he : a' = c
        · subst he; exact hp2
        · have h5 := List.pairwise_iff_getElem.1 hW.pair a' c hal hc (by omega)
          have h6 := hW.each L[a'] (List.getElem_mem hal)
          omega
      rw [decide_eq_false (by omega), onWant_false]
      simp only [p1, p3, p4, bnd_some, ti_ix h3 hlt, rFieldAddr_pim, rLoad_pimc, List.drop_succ_cons, List.drop_zero, List.getElem?_cons_zero, aBin_gtr]
      rw [decide_eq_false (by omega), k_l09_RelexApart_11_eq, onBool_false]
      refine next a' g2 fun j h h1 i' h' h2 => ?_
      have h5 := below j h h1
      have h6 := List.pairwise_iff_getElem.1 hp i i' hlt h' (by omega)
      have h7 := hb ts[i'] (List.getElem_mem h')
      omega

theorem relexApart_plain (s : List UInt8) (hs : s.length ≤ 140737488351232) (m : Mem) : ∃ m', w_l09_RelexApart (.str (bs s)) m = some (.ret (.bool true), m') := by
  obtain ⟨m1, h2, h3⟩ := alive9_s m
  rw [e_l09_RelexApart, h2, retK_ret, aUn_not, bnd_some, Bool.not_true, onBool_false, k_l09_RelexApart_0_eq]
  simp only [rLenStr_bs, bnd_some, aBin_gtr]
  by_cases a1 : (20000 : Int) < (s.length : Nat)
  · rw [decide_eq_true a1, onBool_true]; exact ⟨_, rfl⟩
  · rw [decide_eq_false a1, onBool_false, k_l09_RelexApart_1_eq]
    obtain ⟨v14, m2, b1, b2, b3⟩ := lex_s s (by omega) m1
    have hll := lex_length _ s 0 (Nat.le_refl _)
    have b4 := b2.hsl
    rw [toks_tis] at b4
    obtain ⟨v17, m3, c1, c2, c3⟩ := spans_s s b4 (by simp; omega) m2
    have hl2 := spGo_len s ((lex s 0).map Tok.ti) false []
    simp only [List.length_nil, Nat.zero_add, List.length_map] at hl2
    obtain ⟨w1, w2⟩ := lex_spans s
    rw [b1, retK_ret, c1, retK_ret]
    have hsrt := lex_sorted _ s 0 (Nat.le_refl _)
    have hbd := lex_bounds _ s 0 (Nat.le_refl _)
    refine apart_loop s (by omega) b4 (by simp; omega) ?_ ?_ (by omega) w1 w2 _ 0 0 m3 rfl (Nat.zero_le _) (Nat.zero_le _) c2 (fun j h h1 => by omega)
    · intro t ht
      obtain ⟨x, hx, rfl⟩ := List.mem_map.1 ht
      have := hbd x hx
      simp only [Tok.ti]; omega
    · rw [List.pairwise_map]
      exact hsrt.imp (fun h => by simp only [Tok.ti]; omega)
end Go.AM
