/-
  The program's reading again answers the edited text's tokens.
-/
import Derived.Test.YtcliklgiamlpeaaRelexA
namespace Go.AM
open Go Go.Proofs Lx
set_option linter.unusedSimpArgs false
set_option linter.unusedVariables false
set_option linter.unusedSectionVars false

theorem tis_sized (l : List TI) : sized 3 (tis l) = true := by
  induction l with
  | nil => rfl
  | cons t l ih => simp [sized, tiAV, ih]
theorem ti_app {b : Nat} {m : Mem} {v : AV} {acc : List TI} (h : App b 3 m v (tis acc)) (hb : b ≤ m.next) (hl : acc.length ≤ 1099511627776) (t : TI) :
    ∃ v' m', rAppend A_api_Token 0 m v (.sl .full [tiAV t]) = some (v', m') ∧ App b 3 m' v' (tis (acc ++ [t])) ∧ Keeps b m m' := by
  obtain ⟨v', m', h1, h2, h3, _⟩ := App.append (A := A_api_Token) (ys := [tiAV t]) h hb (.sl .full _) (tis_sized [t]) ⟨by decide, rfl⟩ (by simp only [List.length_map, List.length_singleton, A_api_Token]; omega) (by simp; omega)
  have h2' : App b 3 m' v' (tis acc ++ [tiAV t]) := h2
  exact ⟨v', m', h1, by simpa [tis] using h2', h3⟩
theorem tok1t (t : TI) : rBuildSlice A_api_Token 1 [(0, tiAV t)] = some (.sl .full [tiAV t]) := rfl

/-- a token's box: zero, then what is stored -/
def tiRow (t : TI) : AO := .row [.int .i64 t.k, .int .i64 t.f, .int .i64 t.t] 0
theorem tiBox (m : Mem) : aBox m (.agg [.int .i64 0, .int .i64 0, .int .i64 0]) = some (.ptr m.next 0 0, m.alloc (tiRow ⟨0, 0, 0⟩)) := rfl
theorem tiStore {m : Mem} {o : Nat} {t' : TI} (t : TI) (h : m.obj o = some (tiRow t')) : rStore 3 m (.ptr o 0 0) (tiAV t) = some (m.set o (tiRow t)) := rStore_ptr h rfl rfl rfl
theorem tiGet {m : Mem} {o : Nat} {t : TI} (h : m.obj o = some (tiRow t)) : rLoad true 3 m (.ptr o 0 0) = some (tiAV t) := by rw [rLoad_ptr, cells_of h]; rfl
theorem tiGetF {m : Mem} {o : Nat} {t : TI} (h : m.obj o = some (tiRow t)) : rLoad false 1 m (.ptr o 0 (0 + 1)) = some (.int .i64 t.f) := by rw [rLoad_ptr, cells_of h]; rfl

structure Ed.fits (e : Ed) : Prop where
  ok : e.ok
  s : e.s.length ≤ 400000000
  more : e.more.length ≤ 400000000

section
variable (e : Ed) (he : e.fits)
include he

theorem ts_bounds : ∀ t ∈ e.ts, t.f < t.t ∧ t.t ≤ e.s.length := fun t ht => by
  have := lex_bounds _ e.s 0 (Nat.le_refl _) t ht
  omega
theorem ts_len : e.ts.length ≤ e.s.length := lex_length _ e.s 0 (Nat.le_refl _)
theorem by_bounds : -1000000000 ≤ e.by_ ∧ e.by_ ≤ 1000000000 := by
  unfold Ed.by_
  have := he.ok.1; have := he.ok.2; have := he.s; have := he.more
  omega
theorem old_mem : ∀ o ∈ e.old, o ∈ e.ts := fun o ho => by
  rw [old_eq] at ho; exact List.mem_of_mem_drop ho
theorem old_bounds : ∀ o ∈ e.old, o.f ≤ 10000000000 ∧ o.t ≤ 10000000000 := fun o ho => by
  have := ts_bounds e he o (old_mem e he o ho)
  have := he.s
  omega
theorem old_len : e.old.length ≤ e.s.length := by
  rw [old_eq, List.length_drop]; have := ts_len e he; omega
theorem old_sorted : List.Pairwise (fun x y : Tok => x.f < y.f) e.old := by
  rw [old_eq]; exact (ts_sorted e).drop
theorem front_le : e.front ≤ e.ts.length := (List.takeWhile_sublist _).length_le
theorem back_le : e.front ≤ e.back ∧ e.back ≤ e.ts.length := by
  have h1 : e.mid.length ≤ (e.ts.drop e.front).length := (List.takeWhile_sublist _).length_le
  have h2 := front_le e he
  simp only [List.length_drop] at h1
  unfold Ed.back
  omega
theorem rest_len : e.rest.length ≤ 800000000 := by
  have := he.s; have := he.more; have := he.ok.1; have := he.ok.2
  unfold Ed.rest
  simp only [List.length_append, List.length_drop, List.length_take]
  omega

/-- the last loop: what is met, moved on -/
theorem moveAll {x : AV} {L : List Tok} (hx : HSl x (tis (L.map Tok.ti))) (hL : ∀ o ∈ L, o.f ≤ 10000000000 ∧ o.t ≤ 10000000000) (hLl : L.length ≤ 1000000000) {w : Nat} {ov : AV} (fv nv : AV) : ∀ (k j b : Nat) (v : AV) (acc : List TI) (m : Mem), L.length - j = k → j ≤ L.length → App b 3 m v (tis acc) → b ≤ m.next → w < b → m.obj w = some (winRow ov e.by_) → acc.length + k ≤ 5000000000 →
    ∃ v' m', l_relex_Relex_6 fv (.ptr w 0 0) v nv x (.int .i64 L.length) (.int .i64 j) m = some (.ret (.tup [v', fv, nv, .int .i64 0]), m') ∧ App b 3 m' v' (tis (acc ++ (L.drop j).map (Tok.tsh e.by_))) ∧ Keeps b m m' := by
  have hby := by_bounds e he
  intro k
  induction k with
  | zero =>
    intro j b v acc m hk hj hv hb hw hm hal
    have : j = L.length := by omega
    subst this
    rw [l_relex_Relex_6_eq]
    simp only [aBin_lss, bnd_some, Int.lt_irrefl, decide_false, onBool_false, k_relex_Relex_14_eq]
    exact ⟨v, m, rfl, by simpa using hv, .refl _ _⟩
  | succ k ih =>
    intro j b v acc m hk hj hv hb hw hm hal
    have hlt : j < L.length := by omega
    have hlt' : j < (L.map Tok.ti).length := by simpa using hlt
    have hd : decide ((j : Int) < (L.length : Nat)) = true := decide_eq_true (by omega)
    have hLb := hL _ (List.getElem_mem hlt)
    have k1 : Kept m ((m.alloc (tiRow ⟨0, 0, 0⟩)).set m.next (tiRow (Tok.ti L[j]))) := (Kept.alloc m _).set (Nat.le_refl _) _
    have o1 : (m.alloc (tiRow ⟨0, 0, 0⟩)).obj m.next = some (tiRow ⟨0, 0, 0⟩) := by simp
    have o2 : ((m.alloc (tiRow ⟨0, 0, 0⟩)).set m.next (tiRow (Tok.ti L[j]))).obj m.next = some (tiRow (Tok.ti L[j])) := by simp
    have ow : ((m.alloc (tiRow ⟨0, 0, 0⟩)).set m.next (tiRow (Tok.ti L[j]))).obj w = some (winRow ov e.by_) := (k1.obj w (by omega)).trans hm
    have hst := tiStore (Tok.ti L[j]) o1
    have lw : ∀ {y : Mem}, y.obj w = some (winRow ov e.by_) → rLoad false 1 y (.ptr w 0 (0 + 1)) = some (.int .i64 e.by_) := fun h => by rw [rLoad_ptr, cells_of h]; rfl
    have hg := tiGet o2
    have hl2 := lw ow
    have nx : ((m.alloc (tiRow ⟨0, 0, 0⟩)).set m.next (tiRow (Tok.ti L[j]))).next = m.next + 1 := rfl
    generalize (m.alloc (tiRow ⟨0, 0, 0⟩)).set m.next (tiRow (Tok.ti L[j])) = m2 at *
    obtain ⟨m3, h1, h2⟩ := moved_s (Tok.ti L[j]) e.by_ m2
    have hmv : (Tok.ti L[j]).mv e.by_ = L[j].tsh e.by_ := by
      unfold TI.mv Tok.ti Tok.tsh
      simp only []
      rw [wrap64 (by omega) (by omega), wrap64 (by omega) (by omega)]
    rw [hmv] at h1
    have kk := k1.trans h2
    obtain ⟨v4, m4, h3, h4, h5⟩ := ti_app (hv.kept kk) (Nat.le_trans hb kk.next) (by omega) (L[j].tsh e.by_)
    have ow4 : m4.obj w = some (winRow ov e.by_) := by rw [h5.obj w hw, kk.obj w (by omega)]; exact hm
    obtain ⟨v', m', h6, h7, h8⟩ := ih (j + 1) b v4 (acc ++ [L[j].tsh e.by_]) m4 (by omega) (by omega) h4 (Nat.le_trans (Nat.le_trans hb kk.next) h5.next) hw ow4 (by simp; omega)
    refine ⟨v', m', ?_, ?_, ((kk.less hb).trans h5).trans h8⟩
    · rw [l_relex_Relex_6_eq]
      simp only [aBin_lss, bnd_some, hd, onBool_true, k_relex_Relex_15_eq, ti_ix hx hlt', ti_load, List.getElem_map, tiBox, memK_some, hst, hg, rFieldAddr_ptr, hl2, h1, retK_ret, tok1t, h3, k_relex_Relex_16_eq, aBin_add]
      simp (disch := omega) only [wrap64]
      exact h6
    · have hdr : L.drop j = L[j] :: L.drop (j + 1) := List.drop_eq_getElem_cons hlt
      have e2 : acc ++ (L.drop j).map (Tok.tsh e.by_) = (acc ++ [L[j].tsh e.by_]) ++ (L.drop (j + 1)).map (Tok.tsh e.by_) := by rw [hdr, List.map_cons, List.append_assoc]; rfl
      rw [e2]; exact h7

theorem goLoop {x : AV} (hx : HSl x (toks (lex e.rest 0))) {w : Nat} {ov : AV} (hov : HSl ov (tis (e.old.map Tok.ti))) (fv : AV) : ∀ (k i b : Nat) (v : AV) (acc : List TI) (m : Mem), (lex e.rest 0).length - i = k → i ≤ (lex e.rest 0).length → App b 3 m v (tis acc) → b ≤ m.next → w < b → m.obj w = some (winRow ov e.by_) → acc.length + k ≤ 2000000000 →
    ∃ v' m', l_relex_Relex_4 (.int .i64 e.fr) (.str (bs e.more)) fv (.int .i64 e.begin_) (.ptr w 0 0) v x (.int .i64 (lex e.rest 0).length) (.int .i64 i) m = some (.ret (.tup [v', fv, .int .i64 (goR e (e.new.drop i)).2, .int .i64 0]), m') ∧ HSl v' (tis (acc ++ (goR e (e.new.drop i)).1)) ∧ Keeps b m m' := by
  have hby := by_bounds e he
  have hxt := hx; rw [toks_tis] at hxt
  have hrl := rest_len e he
  have hll := lex_length _ e.rest 0 (Nat.le_refl _)
  have hbl := begin_le e
  have hfr := he.ok.1; have hto := he.ok.2; have hsl := he.s; have hml := he.more
  have hnew : e.new = (lex e.rest 0).map (Tok.sh e.begin_) := by
    unfold Ed.new
    have := lex_shift e.begin_ _ e.rest 0 (Nat.le_refl _)
    rwa [Nat.zero_add] at this
  intro k
  induction k with
  | zero =>
    intro i b v acc m hk hi hv hb hw hm hal
    have : i = (lex e.rest 0).length := by omega
    subst this
    rw [l_relex_Relex_4_eq]
    simp only [aBin_lss, bnd_some, Int.lt_irrefl, decide_false, onBool_false, k_relex_Relex_7_eq]
    have : e.new.drop (lex e.rest 0).length = [] := by rw [hnew]; simp
    rw [this]
    exact ⟨v, m, rfl, by simpa [goR] using hv.hsl, .refl _ _⟩
  | succ k ih =>
    intro i b v acc m hk hi hv hb hw hm hal
    have hlt : i < (lex e.rest 0).length := by omega
    have hlt' : i < ((lex e.rest 0).map Tok.ti).length := by simpa using hlt
    have hltn : i < e.new.length := by rw [hnew]; simpa using hlt
    have hd : decide ((i : Int) < ((lex e.rest 0).length : Nat)) = true := decide_eq_true (by omega)
    have hbd := lex_bounds _ e.rest 0 (Nat.le_refl _) _ (List.getElem_mem hlt)
    have hni : e.new[i] = Tok.sh e.begin_ (lex e.rest 0)[i] := by simp [hnew]
    have hdr : e.new.drop i = e.new[i] :: e.new.drop (i + 1) := List.drop_eq_getElem_cons hltn
    have ht : Tok.ti e.new[i] = (Tok.ti (lex e.rest 0)[i]).mv e.begin_ := by
      rw [hni]
      unfold TI.mv Tok.ti Tok.sh
      simp only []
      rw [wrap64 (by omega) (by omega), wrap64 (by omega) (by omega)]; rfl
    have hnf : e.new[i].f ≤ 2000000000 := by rw [hni]; simp only [Tok.sh]; omega
    -- the token's box
    have k1 : Kept m ((m.alloc (tiRow ⟨0, 0, 0⟩)).set m.next (tiRow (Tok.ti (lex e.rest 0)[i]))) := (Kept.alloc m _).set (Nat.le_refl _) _
    have o1 : (m.alloc (tiRow ⟨0, 0, 0⟩)).obj m.next = some (tiRow ⟨0, 0, 0⟩) := by simp
    have o2 : ((m.alloc (tiRow ⟨0, 0, 0⟩)).set m.next (tiRow (Tok.ti (lex e.rest 0)[i]))).obj m.next = some (tiRow (Tok.ti (lex e.rest 0)[i])) := by simp
    have hst := tiStore (Tok.ti (lex e.rest 0)[i]) o1
    have hg := tiGet o2
    have nx : ((m.alloc (tiRow ⟨0, 0, 0⟩)).set m.next (tiRow (Tok.ti (lex e.rest 0)[i]))).next = m.next + 1 := rfl
    generalize (m.alloc (tiRow ⟨0, 0, 0⟩)).set m.next (tiRow (Tok.ti (lex e.rest 0)[i])) = m2 at *
    obtain ⟨m3, h1, h2⟩ := moved_s (Tok.ti (lex e.rest 0)[i]) e.begin_ m2
    rw [← ht] at h1
    have n3 := h2.next
    have o3 : m3.obj m.next = some (tiRow (Tok.ti (lex e.rest 0)[i])) := (h2.obj _ (by omega)).trans o2
    have hst3 := tiStore (Tok.ti e.new[i]) o3
    have k4 : Kept m (m3.set m.next (tiRow (Tok.ti e.new[i]))) := (k1.trans h2).set (Nat.le_refl _) _
    have o4 : (m3.set m.next (tiRow (Tok.ti e.new[i]))).obj m.next = some (tiRow (Tok.ti e.new[i])) := by simp
    have n4 : (m3.set m.next (tiRow (Tok.ti e.new[i]))).next = m3.next := rfl
    generalize m3.set m.next (tiRow (Tok.ti e.new[i])) = m4 at *
    have ow4 : m4.obj w = some (winRow ov e.by_) := (k4.obj w (by omega)).trans hm
    have lw2 : rLoad true 2 m4 (.ptr w 0 0) = some (.agg [ov, .int .i64 e.by_]) := by rw [rLoad_ptr, cells_of ow4]; rfl
    have hg4 := tiGet o4
    obtain ⟨m5, h5, h6⟩ := meets_s e.old e.by_ (Tok.ti e.new[i]) ⟨by omega, by omega⟩ (old_bounds e he) ⟨by simp [Tok.ti], by simp only [Tok.ti]; omega⟩ (by have := old_len e he; omega) (old_sorted e he) hov m4
    have n5 := h6.next
    have o5 : m5.obj m.next = some (tiRow (Tok.ti e.new[i])) := (h6.obj _ (by omega)).trans o4
    have ow5 : m5.obj w = some (winRow ov e.by_) := (h6.obj w (by omega)).trans ow4
    have k5 : Kept m m5 := k4.trans h6
    have hgF := tiGetF o5
    have hg5 := tiGet o5
    have hwl : IntKind.i64.wrap ((e.fr : Int) + (e.more.length : Nat)) = ((e.lim : Nat) : Int) := by rw [wrap64 (by omega) (by omega)]; rfl
    have l0 : ∀ {y : Mem}, y.obj w = some (winRow ov e.by_) → rLoad false 1 y (.ptr w 0 (0 + 0)) = some ov := fun h => by rw [rLoad_ptr, cells_of h]; rfl
    -- not met
    have miss : (goR e (e.new.drop i)).1 = Tok.ti e.new[i] :: (goR e (e.new.drop (i + 1))).1 → (goR e (e.new.drop i)).2 = (goR e (e.new.drop (i + 1))).2 → ∀ y,
        ∃ v' m', k_relex_Relex_13 (.int .i64 e.fr) (.str (bs e.more)) fv (.int .i64 e.begin_) (.ptr w 0 0) v (.ptr m.next 0 0) y x (.int .i64 (lex e.rest 0).length) (.int .i64 i) (.bool false) m5 = some (.ret (.tup [v', fv, .int .i64 (goR e (e.new.drop i)).2, .int .i64 0]), m') ∧ HSl v' (tis (acc ++ (goR e (e.new.drop i)).1)) ∧ Keeps b m m' := by
      intro g1 g2 y
      obtain ⟨v6, m6, a1, a2, a3⟩ := ti_app (hv.kept k5) (Nat.le_trans hb k5.next) (by omega) (Tok.ti e.new[i])
      have ow6 : m6.obj w = some (winRow ov e.by_) := (a3.obj w hw).trans ow5
      obtain ⟨v', m', a4, a5, a6⟩ := ih (i + 1) b v6 (acc ++ [Tok.ti e.new[i]]) m6 (by omega) (by omega) a2 (Nat.le_trans (Nat.le_trans hb k5.next) a3.next) hw ow6 (by simp; omega)
      refine ⟨v', m', ?_, by rw [g1]; simpa using a5, ((k5.less hb).trans a3).trans a6⟩
      rw [k_relex_Relex_13_eq, onBool_false, k_relex_Relex_12_eq, hg5, bnd_some, tok1t, bnd_some, a1, memK_some, k_relex_Relex_11_eq, aBin_add, bnd_some, g2]
      simp (disch := omega) only [wrap64]
      exact a4
    have start : ∀ R : AV → AOut, (∃ v' m', (match e.old.findIdx? (fun o => decide (o.tsh e.by_ = Tok.ti e.new[i])) with
          | some k => k_relex_Relex_13 (.int .i64 e.fr) (.str (bs e.more)) fv (.int .i64 e.begin_) (.ptr w 0 0) v (.ptr m.next 0 0) (.int .i64 (e.old.length - k : Nat)) x (.int .i64 (lex e.rest 0).length) (.int .i64 i) (.bool (decide (((e.lim : Nat) : Int) ≤ (e.new[i].f : Nat)))) m5
          | none => k_relex_Relex_13 (.int .i64 e.fr) (.str (bs e.more)) fv (.int .i64 e.begin_) (.ptr w 0 0) v (.ptr m.next 0 0) (.int .i64 0) x (.int .i64 (lex e.rest 0).length) (.int .i64 i) (.bool false) m5) = some (R v', m') ∧ HSl v' (tis (acc ++ (goR e (e.new.drop i)).1)) ∧ Keeps b m m') →
        ∃ v' m', l_relex_Relex_4 (.int .i64 e.fr) (.str (bs e.more)) fv (.int .i64 e.begin_) (.ptr w 0 0) v x (.int .i64 (lex e.rest 0).length) (.int .i64 i) m = some (R v', m') ∧ HSl v' (tis (acc ++ (goR e (e.new.drop i)).1)) ∧ Keeps b m m' := by
      intro R ⟨v', m', a1, a2, a3⟩
      refine ⟨v', m', ?_, a2, a3⟩
      rw [l_relex_Relex_4_eq]
      simp only [aBin_lss, bnd_some, hd, onBool_true, k_relex_Relex_10_eq, ti_ix hxt hlt', ti_load, List.getElem_map, tiBox, memK_some, hst, hg, h1, retK_ret, hst3, lw2, hg4, h5]
      rw [← a1]
      cases e.old.findIdx? (fun o => decide (o.tsh e.by_ = Tok.ti e.new[i])) with
      | none => simp only [aExtract_tup, List.getElem?_cons_zero, List.getElem?_cons_succ, bnd_some, onWant_false]
      | some k =>
        simp only [aExtract_tup, List.getElem?_cons_zero, List.getElem?_cons_succ, bnd_some, onWant_true, rFieldAddr_ptr, hgF, rLenStr_bs, aBin_add, hwl, aBin_geq]
        rfl
    refine start _ ?_
    rw [hdr]
    rw [hdr] at miss
    simp only [goR] at miss ⊢
    cases hf : e.old.findIdx? (fun o => decide (o.tsh e.by_ = Tok.ti e.new[i])) with
    | none =>
      rw [hf] at miss
      simp only [ite_self] at miss ⊢
      exact miss trivial trivial _
    | some kk =>
      rw [hf] at miss
      by_cases hlim : e.lim ≤ e.new[i].f
      · have ⟨hkl, hkp⟩ := List.findIdx?_eq_some_iff_getElem.1 hf
        simp only [if_pos hlim]
        have hdl : decide (((e.lim : Nat) : Int) ≤ (e.new[i].f : Nat)) = true := decide_eq_true (by omega)
        have holen := old_len e he
        have hov2 : (tis (e.old.map Tok.ti)).length = e.old.length := by simp
        obtain ⟨y, b1, b2⟩ := hov.slice_lo (size := 3) (n := kk) (k := .i64) (tis_sized _) (by rw [hov2]; omega)
        have b2' : HSl y (tis ((e.old.drop kk).map Tok.ti)) := by
          have : (tis (e.old.map Tok.ti)).drop kk = tis ((e.old.drop kk).map Tok.ti) := by simp [tis]
          rwa [this] at b2
        obtain ⟨v', m', c1, c2, c3⟩ := moveAll e he b2' (fun o ho => old_bounds e he o (List.mem_of_mem_drop ho)) (by simp; omega) (w := w) (ov := ov) fv (.int .i64 (e.old.length - kk : Nat)) _ 0 b v acc m5 rfl (Nat.zero_le _) (hv.kept k5) (Nat.le_trans hb k5.next) hw ow5 (by simp; omega)
        refine ⟨v', m', ?_, by simpa using c2.hsl, (k5.less hb).trans c3⟩
        rw [k_relex_Relex_13_eq, hdl, onBool_true]
        simp only [rFieldAddr_ptr, bnd_some, l0 ow5, hov.len, hov2, aBin_sub]
        rw [show IntKind.i64.wrap ((e.old.length : Nat) - ((e.old.length - kk : Nat) : Int)) = (kk : Int) by rw [wrap64 (by omega) (by omega)]; omega, b1, bnd_some, b2'.len, bnd_some]
        have hl3 : (tis ((e.old.drop kk).map Tok.ti)).length = (e.old.drop kk).length := by simp
        rw [hl3]
        exact c1
      · simp only [if_neg hlim] at miss ⊢
        have hdl : decide (((e.lim : Nat) : Int) ≤ (e.new[i].f : Nat)) = false := decide_eq_false (by omega)
        rw [hdl]
        exact miss trivial trivial _
theorem front_loop {v1 : AV} (h1 : HSl v1 (toks e.ts)) : ∀ (k j : Nat) (m : Mem), e.front - j = k → j ≤ e.front →
    l_relex_Relex_0 (.str (bs e.s)) v1 (.int .i64 e.fr) (.int .i64 e.to) (.str (bs e.more)) (.int .i64 j) m = k_relex_Relex_2 (.str (bs e.s)) v1 (.int .i64 e.fr) (.int .i64 e.to) (.str (bs e.more)) (.int .i64 e.front) m := by
  have h1t := h1; rw [toks_tis] at h1t
  have hfl := front_le e he
  have htl := ts_len e he
  have hsl := he.s; have hfr := he.ok.1; have hto := he.ok.2
  have hw : IntKind.i64.wrap ((e.fr : Int) - 2) = (e.fr : Int) - 2 := wrap64 (by omega) (by omega)
  have hw2 : IntKind.i64.wrap ((e.fr : Int) - 2 + 1) = (e.fr : Int) - 1 := by rw [wrap64 (by omega) (by omega)]; omega
  have hlen : (toks e.ts).length = e.ts.length := by simp
  intro k
  induction k with
  | zero =>
    intro j m hk hj
    have : j = e.front := by omega
    subst this
    rw [l_relex_Relex_0_eq, h1.len]
    simp only [bnd_some, aBin_lss, hlen]
    by_cases hlt : e.front < e.ts.length
    · have hd : decide ((e.front : Int) < (e.ts.length : Nat)) = true := decide_eq_true (by omega)
      have hlt' : e.front < (e.ts.map Tok.ti).length := by simpa using hlt
      have hstop : ¬ (e.ts[e.front].t + 1 < e.fr) := by
        have : e.ts.drop e.front = e.ts[e.front] :: e.ts.drop (e.front + 1) := List.drop_eq_getElem_cons hlt
        have h2 : ∀ (l : List Tok) (p : Tok → Bool) (h : (l.takeWhile p).length < l.length), p (l[(l.takeWhile p).length]) = false := by
          intro l p h
          induction l with
          | nil => simp at h
          | cons x l ih =>
            by_cases hx : p x = true
            · have e1 : (x :: l).takeWhile p = x :: l.takeWhile p := by simp [hx]
              simp only [e1, List.length_cons, List.getElem_cons_succ]
              exact ih (by simp only [e1, List.length_cons] at h; omega)
            · have e1 : (x :: l).takeWhile p = [] := by simp [hx]
              simp only [e1, List.length_nil, List.getElem_cons_zero]
              simpa using hx
        have h3 : decide (e.ts[e.front].t + 1 < e.fr) = false := h2 e.ts (fun t => decide (t.t + 1 < e.fr)) hlt
        simpa using h3
      have hd2 : decide (((Tok.ti e.ts[e.front]).t) < (e.fr : Int) - 1) = false := decide_eq_false (by simp only [Tok.ti]; omega)
      simp only [hd, onWant_true, ti_ix h1t hlt', rFieldAddr_pim, bnd_some, rLoad_pimc, List.drop_succ_cons, List.drop_zero, List.getElem?_cons_zero, aBin_sub, aBin_add, aBin_lss, hw, hw2, List.getElem_map, hd2, k_relex_Relex_5_eq, onBool_false]
    · have hd : decide ((e.front : Int) < (e.ts.length : Nat)) = false := decide_eq_false (by omega)
      simp only [hd, onWant_false, k_relex_Relex_5_eq, onBool_false]
  | succ k ih =>
    intro j m hk hj
    have hlt : j < e.ts.length := by omega
    have hlt' : j < (e.ts.map Tok.ti).length := by simpa using hlt
    have hd : decide ((j : Int) < (e.ts.length : Nat)) = true := decide_eq_true (by omega)
    have hgo : e.ts[j].t + 1 < e.fr := by
      refine front_lt e _ ?_
      have : e.ts[j] = (e.ts.take e.front)[j]'(by simp; omega) := by simp
      rw [this]; exact List.getElem_mem _
    have hd2 : decide (((Tok.ti e.ts[j]).t) < (e.fr : Int) - 1) = true := decide_eq_true (by simp only [Tok.ti]; omega)
    rw [l_relex_Relex_0_eq, h1.len]
    simp only [bnd_some, aBin_lss, hlen, hd, onWant_true, ti_ix h1t hlt', rFieldAddr_pim, rLoad_pimc, List.drop_succ_cons, List.drop_zero, List.getElem?_cons_zero, aBin_sub, aBin_add, hw, hw2, List.getElem_map, hd2, k_relex_Relex_5_eq, onBool_true, k_relex_Relex_4_eq]
    simp (disch := omega) only [wrap64]
    exact ih (j + 1) m (by omega) (by omega)

theorem back_loop {v1 : AV} (h1 : HSl v1 (toks e.ts)) (v14 v15 : AV) : ∀ (k j : Nat) (m : Mem), e.back - j = k → e.front ≤ j → j ≤ e.back →
    l_relex_Relex_2 (.str (bs e.s)) v1 (.int .i64 e.fr) (.int .i64 e.to) (.str (bs e.more)) v14 v15 (.int .i64 j) m = k_relex_Relex_6 (.str (bs e.s)) v1 (.int .i64 e.fr) (.int .i64 e.to) (.str (bs e.more)) v14 v15 (.int .i64 e.back) m := by
  have h1t := h1; rw [toks_tis] at h1t
  have hbl := back_le e he
  have htl := ts_len e he
  have hsl := he.s; have hfr := he.ok.1; have hto := he.ok.2
  have hlen : (toks e.ts).length = e.ts.length := by simp
  intro k
  induction k with
  | zero =>
    intro j m hk hfj hj
    have : j = e.back := by omega
    subst this
    rw [l_relex_Relex_2_eq, h1.len]
    simp only [bnd_some, aBin_lss, hlen]
    by_cases hlt : e.back < e.ts.length
    · have hd : decide ((e.back : Int) < (e.ts.length : Nat)) = true := decide_eq_true (by omega)
      have hlt' : e.back < (e.ts.map Tok.ti).length := by simpa using hlt
      have hstop : e.to ≤ e.ts[e.back].f := by
        refine old_ge e _ ?_
        rw [old_eq, List.drop_eq_getElem_cons hlt]; exact List.mem_cons_self
      have hd2 : decide (((Tok.ti e.ts[e.back]).f) < (e.to : Int)) = false := decide_eq_false (by simp only [Tok.ti]; omega)
      simp only [hd, onWant_true, ti_ix h1t hlt', rFieldAddr_pim, bnd_some, rLoad_pimc, List.drop_succ_cons, List.drop_zero, List.getElem?_cons_zero, aBin_lss, List.getElem_map, hd2, k_relex_Relex_9_eq, onBool_false]
    · have hd : decide ((e.back : Int) < (e.ts.length : Nat)) = false := decide_eq_false (by omega)
      simp only [hd, onWant_false, k_relex_Relex_9_eq, onBool_false]
  | succ k ih =>
    intro j m hk hfj hj
    have hlt : j < e.ts.length := by omega
    have hlt' : j < (e.ts.map Tok.ti).length := by simpa using hlt
    have hd : decide ((j : Int) < (e.ts.length : Nat)) = true := decide_eq_true (by omega)
    have hgo : e.ts[j].f < e.to := by
      refine mid_lt e _ ?_
      have hml : j - e.front < e.mid.length := by unfold Ed.back at hj; unfold Ed.back at hk; omega
      have hx : (e.ts.drop e.front)[j - e.front]'(by simp; omega) = e.ts[j] := by
        rw [List.getElem_drop]; congr 1; omega
      have hy : (e.ts.drop e.front)[j - e.front]'(by simp; omega) = e.mid[j - e.front] := by
        simp only [mid_old]
        rw [List.getElem_append_left hml]
      rw [← hx, hy]; exact List.getElem_mem _
    have hd2 : decide (((Tok.ti e.ts[j]).f) < (e.to : Int)) = true := decide_eq_true (by simp only [Tok.ti]; omega)
    rw [l_relex_Relex_2_eq, h1.len]
    simp only [bnd_some, aBin_lss, hlen, hd, onWant_true, ti_ix h1t hlt', rFieldAddr_pim, rLoad_pimc, List.drop_succ_cons, List.drop_zero, List.getElem?_cons_zero, List.getElem_map, hd2, k_relex_Relex_9_eq, onBool_true, k_relex_Relex_8_eq, aBin_add]
    simp (disch := omega) only [wrap64]
    exact ih (j + 1) m (by omega) (by omega) (by omega)

theorem endOf_last : ∀ (K : List Tok) (a : Nat) (h : 0 < K.length), endOf K a = K[K.length - 1].t
  | [t], a, _ => rfl
  | t :: u :: K, a, _ => by
    have := endOf_last (u :: K) t.t (by simp)
    simp only [List.length_cons, Nat.add_sub_cancel] at this ⊢
    rw [show endOf (t :: u :: K) a = endOf (u :: K) t.t from rfl, this]
    rfl

/-- WHAT Relex ANSWERS. -/
theorem relex_s {v1 : AV} (h1 : HSl v1 (toks e.ts)) (m : Mem) : ∃ v m', w_relex_Relex (.str (bs e.s)) v1 (.int .i64 e.fr) (.int .i64 e.to) (.str (bs e.more)) m = some (.ret (.tup [v, .int .i64 e.front, .int .i64 e.ends, .int .i64 0]), m') ∧ HSl v (toks (lex e.out 0)) ∧ Kept m m' := by
  have h1t := h1; rw [toks_tis] at h1t
  have hfl := front_le e he
  have hbl := back_le e he
  have htl := ts_len e he
  have hsl := he.s; have hfr := he.ok.1; have hto := he.ok.2; have hml := he.more
  have hbg := (begin_le e).1
  have hlen : (toks e.ts).length = e.ts.length := by simp
  have a1 : decide ((e.fr : Int) < 0) = false := decide_eq_false (by omega)
  have a2 : decide ((e.to : Int) < (e.fr : Int)) = false := decide_eq_false (by omega)
  have a3 : decide ((e.s.length : Int) < (e.to : Int)) = false := decide_eq_false (by omega)
  rw [e_relex_Relex]
  simp only [aBin_lss, bnd_some, a1, onWant_false, aBin_gtr, a2, rLenStr_bs, a3, k_relex_Relex_1_eq, onBool_false, k_relex_Relex_0_eq]
  have hf0 : l_relex_Relex_0 (.str (bs e.s)) v1 (.int .i64 e.fr) (.int .i64 e.to) (.str (bs e.more)) (.int .i64 0) m = _ := front_loop e he h1 e.front 0 m rfl (Nat.zero_le _)
  rw [hf0, k_relex_Relex_2_eq, aBin_gtr, bnd_some]
  have hk3 : ∀ v15, v15 = AV.int .i64 e.begin_ → k_relex_Relex_3 (.str (bs e.s)) v1 (.int .i64 e.fr) (.int .i64 e.to) (.str (bs e.more)) (.int .i64 e.front) v15 m = k_relex_Relex_6 (.str (bs e.s)) v1 (.int .i64 e.fr) (.int .i64 e.to) (.str (bs e.more)) (.int .i64 e.front) (.int .i64 e.begin_) (.int .i64 e.back) m := by
    intro v15 hv
    rw [k_relex_Relex_3_eq, hv]
    exact back_loop e he h1 _ _ _ e.front m rfl (Nat.le_refl _) hbl.1
  have hgo : onBool (.bool (decide ((0 : Int) < (e.front : Nat))))
      (bnd (aBin X.T .sub T_int false true (.int .i64 e.front) (.int .i64 1)) fun v60 => bnd (rIxAddrSl 3 v1 v60) fun v61 => bnd (rFieldAddr 2 v61) fun v62 => bnd (rLoad false 1 m v62) fun v63 => k_relex_Relex_3 (.str (bs e.s)) v1 (.int .i64 e.fr) (.int .i64 e.to) (.str (bs e.more)) (.int .i64 e.front) v63 m)
      (k_relex_Relex_3 (.str (bs e.s)) v1 (.int .i64 e.fr) (.int .i64 e.to) (.str (bs e.more)) (.int .i64 e.front) (.int .i64 0) m) = k_relex_Relex_6 (.str (bs e.s)) v1 (.int .i64 e.fr) (.int .i64 e.to) (.str (bs e.more)) (.int .i64 e.front) (.int .i64 e.begin_) (.int .i64 e.back) m := by
    by_cases h0 : 0 < e.front
    · have hd : decide ((0 : Int) < (e.front : Nat)) = true := decide_eq_true (by omega)
      have hlt' : e.front - 1 < (e.ts.map Tok.ti).length := by simp; omega
      have hw : IntKind.i64.wrap ((e.front : Int) - 1) = ((e.front - 1 : Nat) : Int) := by rw [wrap64 (by omega) (by omega)]; omega
      have hb : e.begin_ = e.ts[e.front - 1].t := by
        have hl : (e.ts.take e.front).length = e.front := by simp; omega
        unfold Ed.begin_
        rw [endOf_last e he _ _ (by omega)]
        congr 1
        simp only [hl]
        simp
      simp only [hd, onBool_true, aBin_sub, hw, bnd_some, ti_ix h1t hlt', rFieldAddr_pim, rLoad_pimc, List.drop_succ_cons, List.drop_zero, List.getElem?_cons_zero, List.getElem_map]
      exact hk3 _ (by rw [hb]; rfl)
    · have hd : decide ((0 : Int) < (e.front : Nat)) = false := decide_eq_false (by omega)
      rw [hd, onBool_false]
      refine hk3 _ ?_
      have : e.front = 0 := by omega
      unfold Ed.begin_; rw [this]; rfl
  rw [hgo, k_relex_Relex_6_eq]
  obtain ⟨v82, b1, b2⟩ := h1.slice_lo (size := 3) (n := e.back) (k := .i64) (toks_sized _) (by rw [hlen]; omega)
  have b2' : HSl v82 (tis (e.old.map Tok.ti)) := by
    have : (toks e.ts).drop e.back = tis (e.old.map Tok.ti) := by rw [old_eq, toks_tis]; simp [tis]
    rwa [this] at b2
  obtain ⟨v92, b3, b4⟩ := h1.slice_hi (size := 3) (n := e.front) (k := .i64) (by rw [hlen]; omega)
  have b4' : HSl v92 (tis ((e.ts.take e.front).map Tok.ti)) := by
    have : (toks e.ts).take e.front = tis ((e.ts.take e.front).map Tok.ti) := by rw [toks_tis]; simp [tis]
    rwa [this] at b4
  have hby : IntKind.i64.wrap ((e.more.length : Int) - IntKind.i64.wrap ((e.to : Int) - (e.fr : Int))) = e.by_ := by
    rw [wrap64 (n := (e.to : Int) - (e.fr : Int)) (by omega) (by omega), wrap64 (by omega) (by omega)]; rfl
  have hbuild : rBuild [.nils, .int .i64 0] [(0, 1, v82), (1, 1, .int .i64 e.by_)] = some (.agg [v82, .int .i64 e.by_]) := by
    simp [b2'.cells, putCells, splice]
  let z : AO := .row [.nils, .int .i64 0] 0
  have ebox : aBox m (.agg [.nils, .int .i64 0]) = some (.ptr m.next 0 0, m.alloc z) := rfl
  have o1 : (m.alloc z).obj m.next = some z := by simp
  have est : rStore 2 (m.alloc z) (.ptr m.next 0 0) (.agg [v82, .int .i64 e.by_]) = some ((m.alloc z).set m.next (winRow v82 e.by_)) := rStore_ptr o1 rfl rfl rfl
  have k2 : Kept m ((m.alloc z).set m.next (winRow v82 e.by_)) := (Kept.alloc m z).set (Nat.le_refl _) _
  have o2 : ((m.alloc z).set m.next (winRow v82 e.by_)).obj m.next = some (winRow v82 e.by_) := by simp
  have n2 : ((m.alloc z).set m.next (winRow v82 e.by_)).next = m.next + 1 := rfl
  obtain ⟨v93, m3, c1, c2, c3⟩ := clone_s b4' (by simp; omega) ((m.alloc z).set m.next (winRow v82 e.by_))
  have o3 : m3.obj m.next = some (winRow v82 e.by_) := (c3.obj _ (by omega)).trans o2
  have n3 := c3.next
  have hrl := rest_len e he
  obtain ⟨v105, m4, d1, d2, d3⟩ := lex_s e.rest (by omega) m3
  have o4 : m4.obj m.next = some (winRow v82 e.by_) := (d3.obj _ (by omega)).trans o3
  have n4 := d3.next
  have hll := lex_length _ e.rest 0 (Nat.le_refl _)
  obtain ⟨v', m', f1, f2, f3⟩ := goLoop e he d2.hsl (w := m.next) b2' (.int .i64 e.front) _ 0 (m.next + 1) v93 ((e.ts.take e.front).map Tok.ti) m4 rfl (Nat.zero_le _) ((n2 ▸ c2).kept d3) (by omega) (by omega) o4 (by simp; omega)
  have hs1 : rSliceStr (.str (bs e.s)) (some (.int .i64 e.begin_)) (some (.int .i64 e.fr)) = some (.str (bs ((e.s.take e.fr).drop e.begin_))) := rSliceStr_both (by omega) (by omega)
  have hs2 : rSliceStr (.str (bs e.s)) (some (.int .i64 e.to)) none = some (.str (bs (e.s.drop e.to))) := rSliceStr_lo (by omega)
  rw [b1, bnd_some, rLenStr_bs, bnd_some]
  simp only [aBin_sub, bnd_some, hby]
  rw [hbuild, bnd_some, ebox, memK_some, est, bnd_some, b3, bnd_some, c1, retK_ret, hs1, bnd_some, aBin_stradd (by simp; omega), bnd_some, hs2, bnd_some, aBin_stradd (by simp; omega), bnd_some]
  have er : (e.s.take e.fr).drop e.begin_ ++ e.more ++ e.s.drop e.to = e.rest := rfl
  rw [er, d1, retK_ret, d2.hsl.len, bnd_some]
  have hl5 : (toks (lex e.rest 0)).length = (lex e.rest 0).length := by simp
  rw [hl5]
  refine ⟨v', m', ?_, ?_, ?_⟩
  · rw [List.drop_zero, goR_ends e he.ok] at f1; exact f1
  · rw [List.drop_zero, goR_out e he.ok, ← toks_tis] at f2; exact f2
  · exact Keeps.trans ((k2.trans c3).trans d3) (f3.less (by omega))
end

end Go.AM
