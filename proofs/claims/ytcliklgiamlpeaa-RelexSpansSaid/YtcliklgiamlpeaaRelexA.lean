/-
  The program's parts of reading again: moved, the search, meets, the copy.
-/
import Derived.Test.YtcliklgiamlpeaaRelexLaw2
import Derived.Test.YtcliklgiamlpeaaLexMoved
import Derived.Test.YtcliklgiamlpeaaR1E0
import Derived.Test.YtcliklgiamlpeaaR1E1
namespace Go.AM
open Go Go.Proofs Lx
set_option linter.unusedSimpArgs false
set_option linter.unusedVariables false

theorem slNil (tk : Tk) (xs : List AV) : aBin X.T .eql T_Sl_api_Token false true (.sl tk xs) .nils = some (.bool false) := by kernel_rfl
theorem nilNil : aBin X.T .eql T_Sl_api_Token false true .nils .nils = some (.bool true) := by kernel_rfl

theorem clone_s {v : AV} {xs : List TI} (h : HSl v (tis xs)) (hl : xs.length ≤ 1000000000) (m : Mem) : ∃ v' m', w_slices_Clone v m = some (.ret v', m') ∧ App m.next 3 m' v' (tis xs) ∧ Kept m m' := by
  generalize hx : tis xs = ys at h
  cases h with
  | nil =>
    refine ⟨.nils, m, ?_, .nil, .refl _ _⟩
    rw [e_slices_Clone, nilNil, bnd_some, onBool_true]
  | sl tk =>
    have hs : sized 3 (tis xs) = true := by
      clear hx hl
      induction xs with
      | nil => rfl
      | cons t l ih => simp [sized, tiAV, ih]
    subst hx
    obtain ⟨v', m', h1, h2, h3, _⟩ := App.append (A := A_api_Token) (b := m.next) (m := m) (v := .sl .full []) (xs := []) (ys := tis xs) (.full [] rfl) (Nat.le_refl _) (.sl tk _) hs ⟨by decide, rfl⟩ (by simp only [List.length_map, List.length_nil, A_api_Token]; omega) (by simp; omega)
    refine ⟨v', m', ?_, h2, h3⟩
    rw [e_slices_Clone, slNil, bnd_some, onBool_false, k_slices_Clone_0_eq, rempty0, bnd_some, h1, memK_some]
where
  rempty0 : rBuildSlice A_api_Token 0 [] = some (.sl .full []) := by kernel_rfl

def TI.mv (t : TI) (b : Int) : TI := ⟨t.k, IntKind.i64.wrap (t.f + b), IntKind.i64.wrap (t.t + b)⟩
theorem moved_s (t : TI) (b : Int) (m : Mem) : ∃ m', w_relex_moved (tiAV t) (.int .i64 b) m = some (.ret (tiAV (t.mv b)), m') ∧ Kept m m' := by
  let r0 : AO := .row [.int .i64 t.k, .int .i64 t.f, .int .i64 t.t] 0
  let r1 : AO := .row [.int .i64 t.k, .int .i64 (IntKind.i64.wrap (t.f + b)), .int .i64 t.t] 0
  let r2 : AO := .row [.int .i64 t.k, .int .i64 (IntKind.i64.wrap (t.f + b)), .int .i64 (IntKind.i64.wrap (t.t + b))] 0
  let z : AO := .row [.int .i64 0, .int .i64 0, .int .i64 0] 0
  have n1 : ¬ m.next = m.next + 1 := by omega
  refine ⟨((((m.alloc r0).alloc z).set m.next r1).set m.next r2).set (m.next + 1) r2, ?_, ?_⟩
  · rw [e_relex_moved]
    have e1 : aBox m (tiAV t) = some (.ptr m.next 0 0, m.alloc r0) := rfl
    have e2 : aBox (m.alloc r0) (.agg [.int .i64 0, .int .i64 0, .int .i64 0]) = some (.ptr (m.next + 1) 0 0, (m.alloc r0).alloc z) := rfl
    have o1 : ((m.alloc r0).alloc z).obj m.next = some r0 := by simp [n1]
    have l1 : rLoad false 1 ((m.alloc r0).alloc z) (.ptr m.next 0 (0 + 1)) = some (.int .i64 t.f) := by rw [rLoad_ptr, cells_of o1]; rfl
    have s1 : rStore 1 ((m.alloc r0).alloc z) (.ptr m.next 0 (0 + 1)) (.int .i64 (IntKind.i64.wrap (t.f + b))) = some (((m.alloc r0).alloc z).set m.next r1) := rStore_ptr o1 rfl rfl rfl
    have o2 : (((m.alloc r0).alloc z).set m.next r1).obj m.next = some r1 := by simp
    have l2 : rLoad false 1 (((m.alloc r0).alloc z).set m.next r1) (.ptr m.next 0 (0 + 2)) = some (.int .i64 t.t) := by rw [rLoad_ptr, cells_of o2]; rfl
    have s2 : rStore 1 (((m.alloc r0).alloc z).set m.next r1) (.ptr m.next 0 (0 + 2)) (.int .i64 (IntKind.i64.wrap (t.t + b))) = some ((((m.alloc r0).alloc z).set m.next r1).set m.next r2) := rStore_ptr o2 rfl rfl rfl
    have o3 : ((((m.alloc r0).alloc z).set m.next r1).set m.next r2).obj m.next = some r2 := by simp
    have l3 : rLoad true 3 ((((m.alloc r0).alloc z).set m.next r1).set m.next r2) (.ptr m.next 0 0) = some (tiAV (t.mv b)) := by rw [rLoad_ptr, cells_of o3]; rfl
    have o4 : ((((m.alloc r0).alloc z).set m.next r1).set m.next r2).obj (m.next + 1) = some z := by
      have : ¬ m.next + 1 = m.next := by omega
      simp [this]
    have s3 : rStore 3 ((((m.alloc r0).alloc z).set m.next r1).set m.next r2) (.ptr (m.next + 1) 0 0) (tiAV (t.mv b)) = some (((((m.alloc r0).alloc z).set m.next r1).set m.next r2).set (m.next + 1) r2) := rStore_ptr o4 rfl rfl rfl
    have o5 : (((((m.alloc r0).alloc z).set m.next r1).set m.next r2).set (m.next + 1) r2).obj (m.next + 1) = some r2 := by simp
    have l4 : rLoad true 3 (((((m.alloc r0).alloc z).set m.next r1).set m.next r2).set (m.next + 1) r2) (.ptr (m.next + 1) 0 0) = some (tiAV (t.mv b)) := by rw [rLoad_ptr, cells_of o5]; rfl
    simp only [e1, e2, memK_some, rFieldAddr_ptr, bnd_some, l1, aBin_add, s1, l2, s2, l3, s3, l4]
  · exact ((((Kept.alloc m _).trans (.alloc _ _)).set (Nat.le_refl _) _).set (Nat.le_refl _) _).set (Nat.le_succ _) _

/-- a box that bears a window -/
def winRow (ov : AV) (b : Int) : AO := .row [ov, .int .i64 b] 0

theorem cmp_s (o t : TI) (ov : AV) (b : Int) {w : Nat} {m : Mem} (hw : w < m.next) (hm : m.obj w = some (winRow ov b)) : ∃ m', w_relex_window_meets_1 (tiAV o) (tiAV t) (.ptr w 0 0) m = some (.ret (.int .i64 (IntKind.i64.wrap (IntKind.i64.wrap (o.f + b) - t.f))), m') ∧ Kept m m' := by
  let r0 : AO := .row [.int .i64 o.k, .int .i64 o.f, .int .i64 o.t] 0
  let r1 : AO := .row [.int .i64 t.k, .int .i64 t.f, .int .i64 t.t] 0
  have n1 : ¬ m.next = m.next + 1 := by omega
  have n2 : ¬ w = m.next := by omega
  have n3 : ¬ w = m.next + 1 := by omega
  refine ⟨(m.alloc r0).alloc r1, ?_, (Kept.alloc m _).trans (.alloc _ _)⟩
  rw [e_relex_window_meets_1]
  have e1 : aBox m (tiAV o) = some (.ptr m.next 0 0, m.alloc r0) := rfl
  have e2 : aBox (m.alloc r0) (tiAV t) = some (.ptr (m.next + 1) 0 0, (m.alloc r0).alloc r1) := rfl
  have o1 : ((m.alloc r0).alloc r1).obj m.next = some r0 := by simp [n1]
  have o2 : ((m.alloc r0).alloc r1).obj (m.next + 1) = some r1 := by simp
  have o3 : ((m.alloc r0).alloc r1).obj w = some (winRow ov b) := by simp [n2, n3, hm]
  have l1 : rLoad false 1 ((m.alloc r0).alloc r1) (.ptr m.next 0 (0 + 1)) = some (.int .i64 o.f) := by rw [rLoad_ptr, cells_of o1]; rfl
  have l2 : rLoad false 1 ((m.alloc r0).alloc r1) (.ptr (m.next + 1) 0 (0 + 1)) = some (.int .i64 t.f) := by rw [rLoad_ptr, cells_of o2]; rfl
  have l3 : rLoad false 1 ((m.alloc r0).alloc r1) (.ptr w 0 (0 + 1)) = some (.int .i64 b) := by rw [rLoad_ptr, cells_of o3]; rfl
  simp only [e1, e2, memK_some, rFieldAddr_ptr, bnd_some, l1, l2, l3, aBin_add, aBin_sub]

theorem half (n : Nat) (hn : n ≤ 4611686018427387904) : (rConvInt .u64 (.int .i64 n) = some (.int .u64 n)) ∧ aBin X.T .shr T_uint false true (.int .u64 n) (.int .u64 1) = some (.int .u64 ((n / 2 : Nat) : Int)) ∧ rConvInt .i64 (.int .u64 n) = some (.int .i64 n) := by
  refine ⟨?_, ?_, ?_⟩
  · simp only [rConvInt]
    congr 2
    unfold IntKind.wrap
    have e : (2 : Int) ^ IntKind.u64.bits = 18446744073709551616 := by decide
    have e3 : IntKind.u64.signed = false := rfl
    simp only [e, e3, Bool.false_and, Bool.false_eq_true, if_false]
    omega
  · have : aBin X.T .shr T_uint false true (.int .u64 n) (.int .u64 1) = aShift .shr .u64 n 1 := rfl
    rw [this]
    simp only [aShift]
    rw [if_neg (by decide)]
    congr 2
    have e : (2 : Int) ^ min (1 : Int).toNat IntKind.u64.bits = 2 := by decide
    rw [e, Int.fdiv_eq_ediv_of_nonneg _ (by decide)]
    omega
  · simp only [rConvInt]; rw [wrap64 (by omega) (by omega)]

section
variable (old : List Tok) (b : Int) (t : TI) (hb : -10000000000 ≤ b ∧ b ≤ 10000000000) (ho : ∀ o ∈ old, o.f ≤ 10000000000) (ht : 0 ≤ t.f ∧ t.f ≤ 10000000000) (hlen : old.length ≤ 10000000000) (hs : List.Pairwise (fun x y : Tok => x.f < y.f) old)
include hb ho ht hlen hs

theorem srch_loop {ov : AV} (hov : HSl ov (tis (old.map Tok.ti))) {w c : Nat} (rt : Nat) : ∀ (k i j : Nat) (m : Mem), j - i < k → i ≤ j → j ≤ old.length → w < m.next → c < m.next → m.obj w = some (winRow ov b) → m.obj c = some (.row [.int .i64 t.k, .int .i64 t.f, .int .i64 t.t] 0) →
    (∀ x (hx : x < old.length), x < i → (old[x].f : Int) + b < t.f) → (∀ x (hx : x < old.length), j ≤ x → t.f ≤ (old[x].f : Int) + b) →
    ∃ r m', l_slices_BinarySearchFunc_0 ov (.fn F_relex_window_meets_1 [] [.ptr w 0 0]) (.ptr c 0 0) (.int .i64 old.length) (.int .i64 i) (.int .i64 j) m = k_slices_BinarySearchFunc_0 ov (.fn F_relex_window_meets_1 [] [.ptr w 0 0]) (.ptr c 0 0) (.int .i64 old.length) (.int .i64 (r : Nat)) (.int .i64 (r : Nat)) m' ∧ Kept m m' ∧ r ≤ old.length ∧
      (∀ x (hx : x < old.length), x < r → (old[x].f : Int) + b < t.f) ∧ (∀ x (hx : x < old.length), r ≤ x → t.f ≤ (old[x].f : Int) + b) := by
  intro k
  induction k with
  | zero => intro i j m h; omega
  | succ k ih =>
    intro i j m hk hij hj hw hc hmw hmc hlo hhi
    rw [l_slices_BinarySearchFunc_0_eq]
    simp only [aBin_lss, bnd_some]
    by_cases hlt : i < j
    · have hd : decide ((i : Int) < (j : Int)) = true := decide_eq_true (by omega)
      have hlt' : i + j ≤ 4611686018427387904 := by omega
      have hh := half (i + j) hlt'
      have hh2 := half ((i + j) / 2) (by omega)
      have hm : (i + j) / 2 < old.length := by omega
      have hm' : (i + j) / 2 < (old.map Tok.ti).length := by simpa using hm
      have hcl : rLoad true 3 m (.ptr c 0 0) = some (tiAV t) := by rw [rLoad_ptr, cells_of hmc]; rfl
      obtain ⟨m1, h1, h2⟩ := cmp_s (Tok.ti old[(i + j) / 2]) t ov b hw hmw
      have hof := ho _ (List.getElem_mem hm)
      have hcmp : IntKind.i64.wrap (IntKind.i64.wrap ((Tok.ti old[(i + j) / 2]).f + b) - t.f) = ((old[(i + j) / 2]).f : Int) + b - t.f := by
        have : (Tok.ti old[(i + j) / 2]).f = (old[(i + j) / 2].f : Int) := rfl
        have e1 : IntKind.i64.wrap ((old[(i + j) / 2].f : Int) + b) = (old[(i + j) / 2].f : Int) + b := wrap64 (by omega) (by omega)
        rw [this, e1, wrap64 (by omega) (by omega)]
      rw [hcmp] at h1
      simp only [hd, onBool_true, k_slices_BinarySearchFunc_1_eq, aBin_add, bnd_some]
      rw [show IntKind.i64.wrap ((i : Int) + (j : Int)) = ((i + j : Nat) : Int) by rw [wrap64 (by omega) (by omega)]; rfl, hh.1, bnd_some, hh.2.1, bnd_some, hh2.2.2, bnd_some, ti_ix hov hm', bnd_some, ti_load, bnd_some, hcl, bnd_some, fnK_fn]
      simp only [List.getElem_map, List.nil_append, List.cons_append, w_relex_window_meets_1_fold, h1, retK_ret, bnd_some, aBin_lss]
      have n1 := h2.next
      have hmw1 := (h2.obj w hw).trans hmw
      have hmc1 := (h2.obj c hc).trans hmc
      have hsf : ∀ x y (hx : x < old.length) (hy : y < old.length), x < y → old[x].f < old[y].f := fun x y hx hy hxy => List.pairwise_iff_getElem.1 hs x y hx hy hxy
      by_cases hneg : ((old[(i + j) / 2]).f : Int) + b - t.f < 0
      · simp only [decide_eq_true hneg, onBool_true, aBin_add, bnd_some]
        rw [show IntKind.i64.wrap ((((i + j) / 2 : Nat) : Int) + 1) = (((i + j) / 2 + 1 : Nat) : Int) by rw [wrap64 (by omega) (by omega)]; rfl]
        obtain ⟨r, m', h3, h4, h5, h6, h7⟩ := ih ((i + j) / 2 + 1) j m1 (by omega) (by omega) hj (by omega) (by omega) hmw1 hmc1 (fun x hx hxi => by
          by_cases hxe : x = (i + j) / 2
          · subst hxe; omega
          · have := hsf x ((i + j) / 2) hx hm (by omega); omega) hhi
        exact ⟨r, m', h3, h2.trans h4, h5, h6, h7⟩
      · simp only [decide_eq_false hneg, onBool_false]
        obtain ⟨r, m', h3, h4, h5, h6, h7⟩ := ih i ((i + j) / 2) m1 (by omega) (by omega) (by omega) (by omega) (by omega) hmw1 hmc1 hlo (fun x hx hxi => by
          by_cases hxe : x = (i + j) / 2
          · subst hxe; omega
          · have := hsf ((i + j) / 2) x hm hx (by omega); omega)
        exact ⟨r, m', h3, h2.trans h4, h5, h6, h7⟩
    · have hd : decide ((i : Int) < (j : Int)) = false := decide_eq_false (by omega)
      have : i = j := by omega
      subst this
      simp only [hd, onBool_false]
      exact ⟨i, m, rfl, .refl _ _, hj, hlo, hhi⟩
end

section
variable (old : List Tok) (b : Int) (t : TI) (hb : -10000000000 ≤ b ∧ b ≤ 10000000000) (ho : ∀ o ∈ old, o.f ≤ 10000000000 ∧ o.t ≤ 10000000000) (ht : 0 ≤ t.f ∧ t.f ≤ 10000000000) (hlen : old.length ≤ 10000000000) (hs : List.Pairwise (fun x y : Tok => x.f < y.f) old)
include hb ho ht hlen hs

theorem bs_s {ov : AV} (hov : HSl ov (tis (old.map Tok.ti))) {w : Nat} {m : Mem} (hw : w < m.next) (hmw : m.obj w = some (winRow ov b)) :
    ∃ r m', w_slices_BinarySearchFunc ov (tiAV t) (.fn F_relex_window_meets_1 [] [.ptr w 0 0]) m = some (.ret (.tup [.int .i64 (r : Nat), .bool (decide (∃ h : r < old.length, (old[r].f : Int) + b = t.f))]), m') ∧ Kept m m' ∧ r ≤ old.length ∧
      (∀ x (hx : x < old.length), (old[x].f : Int) + b = t.f → x = r) := by
  let rc : AO := .row [.int .i64 t.k, .int .i64 t.f, .int .i64 t.t] 0
  have hk1 : Kept m (m.alloc rc) := .alloc m rc
  have e1 : aBox m (tiAV t) = some (.ptr m.next 0 0, m.alloc rc) := rfl
  have hoc : (m.alloc rc).obj m.next = some rc := by simp
  have how : (m.alloc rc).obj w = some (winRow ov b) := (hk1.obj w hw).trans hmw
  obtain ⟨r, m1, h1, h2, h3, h4, h5⟩ := srch_loop old b t hb (fun o h => (ho o h).1) ht hlen hs hov (w := w) (c := m.next) 0 (old.length + 1) 0 old.length (m.alloc rc) (by omega) (Nat.zero_le _) (Nat.le_refl _) (by simp; omega) (by simp) how hoc (fun x _ h => by omega) (fun x hx h => by omega)
  have hn1 := h2.next
  have hn0 : (m.alloc rc).next = m.next + 1 := rfl
  have hoc1 : m1.obj m.next = some rc := (h2.obj _ (by omega)).trans hoc
  have how1 : m1.obj w = some (winRow ov b) := (h2.obj w (by omega)).trans how
  have hsf : ∀ x y (hx : x < old.length) (hy : y < old.length), x < y → old[x].f < old[y].f := fun x y hx hy hxy => List.pairwise_iff_getElem.1 hs x y hx hy hxy
  have huniq : ∀ x (hx : x < old.length), (old[x].f : Int) + b = t.f → x = r := by
    intro x hx he
    rcases Nat.lt_trichotomy x r with h | h | h
    · have := h4 x hx h; omega
    · exact h
    · have := hsf r x (by omega) hx h
      have := h5 r (by omega) (Nat.le_refl _)
      omega
  have hlen2 : (tis (old.map Tok.ti)).length = old.length := by simp
  rw [e_slices_BinarySearchFunc, e1, memK_some, hov.len, bnd_some, hlen2]
  rw [show ((.int .i64 0 : AV)) = .int .i64 ((0 : Nat) : Int) from rfl, h1, k_slices_BinarySearchFunc_0_eq, aBin_lss, bnd_some]
  by_cases hr : r < old.length
  · have hd : decide ((r : Int) < (old.length : Nat)) = true := decide_eq_true (by omega)
    have hcl : rLoad true 3 m1 (.ptr m.next 0 0) = some (tiAV t) := by rw [rLoad_ptr, cells_of hoc1]; rfl
    obtain ⟨m2, h6, h7⟩ := cmp_s (Tok.ti old[r]) t ov b (by omega) how1
    have hof := (ho _ (List.getElem_mem hr)).1
    have e2 : (Tok.ti old[r]).f = (old[r].f : Int) := rfl
    have e3 : IntKind.i64.wrap ((old[r].f : Int) + b) = (old[r].f : Int) + b := wrap64 (by omega) (by omega)
    rw [e2, e3, wrap64 (by omega) (by omega)] at h6
    have hr' : r < (old.map Tok.ti).length := by simpa using hr
    rw [hd, onWant_true, ti_ix hov hr', bnd_some, ti_load, bnd_some, hcl, bnd_some, fnK_fn]
    simp only [List.getElem_map, List.nil_append, List.cons_append, w_relex_window_meets_1_fold, h6, retK_ret, bnd_some, aBin_eql]
    refine ⟨r, m2, ?_, (hk1.trans h2).trans h7, h3, huniq⟩
    congr 7
    apply decide_eq_decide.2
    exact ⟨fun h => ⟨hr, by omega⟩, fun ⟨_, h⟩ => by omega⟩
  · have hd : decide ((r : Int) < (old.length : Nat)) = false := decide_eq_false (by omega)
    rw [hd, onWant_false]
    refine ⟨r, m1, ?_, hk1.trans h2, h3, huniq⟩
    rw [decide_eq_false (fun ⟨h, _⟩ => hr h)]

theorem meets_s {ov : AV} (hov : HSl ov (tis (old.map Tok.ti))) (m : Mem) :
    ∃ m', w_relex_window_meets (.agg [ov, .int .i64 b]) (tiAV t) m = some (.ret (match old.findIdx? (fun o => o.tsh b = t) with
      | some k => .tup [.int .i64 (old.length - k : Nat), .bool true]
      | none => .tup [.int .i64 0, .bool false]), m') ∧ Kept m m' := by
  let rw_ : AO := winRow ov b
  let rt : AO := .row [.int .i64 t.k, .int .i64 t.f, .int .i64 t.t] 0
  have hk1 : Kept m (m.alloc rw_) := .alloc m _
  have hk2 : Kept (m.alloc rw_) ((m.alloc rw_).alloc rt) := .alloc _ _
  have e1 : aBox m (.agg [ov, .int .i64 b]) = some (.ptr m.next 0 0, m.alloc rw_) := rfl
  have e2 : aBox (m.alloc rw_) (tiAV t) = some (.ptr (m.next + 1) 0 0, (m.alloc rw_).alloc rt) := rfl
  have n1 : ¬ m.next = m.next + 1 := by omega
  have o1 : ((m.alloc rw_).alloc rt).obj m.next = some (winRow ov b) := by simp [n1]; rfl
  have o2 : ((m.alloc rw_).alloc rt).obj (m.next + 1) = some rt := by simp
  have hN : ((m.alloc rw_).alloc rt).next = m.next + 2 := rfl
  generalize (m.alloc rw_).alloc rt = m2 at *
  have hk12 := hk1.trans hk2
  obtain ⟨r, m3, h1, h2, h3, h4⟩ := bs_s old b t hb ho ht hlen hs hov (w := m.next) (m := m2) (by omega) o1
  have hn := h2.next
  have o1' : m3.obj m.next = some (winRow ov b) := (h2.obj _ (by omega)).trans o1
  have o2' : m3.obj (m.next + 1) = some rt := (h2.obj _ (by omega)).trans o2
  have l0 : ∀ {x : Mem}, x.obj m.next = some (winRow ov b) → rLoad false 1 x (.ptr m.next 0 (0 + 0)) = some ov := fun h => by rw [rLoad_ptr, cells_of h]; rfl
  have lb : ∀ {x : Mem}, x.obj m.next = some (winRow ov b) → rLoad false 1 x (.ptr m.next 0 (0 + 1)) = some (.int .i64 b) := fun h => by rw [rLoad_ptr, cells_of h]; rfl
  have l1 : ∀ {x : Mem}, x.obj (m.next + 1) = some rt → rLoad true 3 x (.ptr (m.next + 1) 0 0) = some (tiAV t) := fun h => by rw [rLoad_ptr, cells_of h]; rfl
  rw [e_relex_window_meets]
  simp only [e1, e2, memK_some, rFieldAddr_ptr, bnd_some, l0 o1, l1 o2, h1, retK_ret, aExtract_tup, List.getElem?_cons_zero, List.getElem?_cons_succ, aUn_not]
  have hlen2 : (tis (old.map Tok.ti)).length = old.length := by simp
  by_cases hx : ∃ h : r < old.length, (old[r].f : Int) + b = t.f
  · obtain ⟨hr, hf⟩ := hx
    have hr' : r < (old.map Tok.ti).length := by simpa using hr
    obtain ⟨m4, h5, h6⟩ := moved_s (Tok.ti old[r]) b m3
    have o2'' : m4.obj (m.next + 1) = some rt := (h6.obj _ (by omega)).trans o2'
    have o1'' : m4.obj m.next = some (winRow ov b) := (h6.obj _ (by omega)).trans o1'
    have hof := ho _ (List.getElem_mem hr)
    have hmv : (Tok.ti old[r]).mv b = old[r].tsh b := by
      unfold TI.mv Tok.ti Tok.tsh
      simp only []
      rw [wrap64 (by omega) (by omega), wrap64 (by omega) (by omega)]
    rw [decide_eq_true ⟨hr, hf⟩]
    simp only [Bool.not_true, onWant_false, l0 o1', lb o1', bnd_some, ti_ix hov hr', ti_load, List.getElem_map, h5, retK_ret, l1 o2', l1 o2'', tiNeq, sameK_self, hmv, k_relex_window_meets_1_eq]
    by_cases he : old[r].tsh b = t
    · have hfi : old.findIdx? (fun o => decide (o.tsh b = t)) = some r := by
        rw [List.findIdx?_eq_some_iff_getElem]
        refine ⟨hr, by simpa using he, fun j hj => ?_⟩
        have hjl : j < old.length := by omega
        simp only [decide_eq_true_eq]
        intro hje
        have := h4 j hjl (by have := congrArg TI.f hje; simpa [Tok.tsh] using this)
        omega
      rw [decide_eq_false (by simpa using he), onBool_false, k_relex_window_meets_0_eq, rFieldAddr_ptr, bnd_some, l0 o1'', bnd_some, hov.len, bnd_some, hlen2, aBin_sub, bnd_some, hfi]
      rw [show IntKind.i64.wrap ((old.length : Nat) - (r : Int)) = ((old.length - r : Nat) : Int) by rw [wrap64 (by omega) (by omega)]; omega]
      exact ⟨m4, rfl, (hk12.trans h2).trans h6⟩
    · have hfi : old.findIdx? (fun o => decide (o.tsh b = t)) = none := by
        rw [List.findIdx?_eq_none_iff]
        intro o ho'
        simp only [decide_eq_false_iff_not]
        intro hoe
        obtain ⟨j, hjl, rfl⟩ := List.getElem_of_mem ho'
        have := h4 j hjl (by have := congrArg TI.f hoe; simpa [Tok.tsh] using this)
        subst this
        exact he hoe
      rw [decide_eq_true (by simpa using he), onBool_true, hfi]
      exact ⟨m4, rfl, (hk12.trans h2).trans h6⟩
  · have hfi : old.findIdx? (fun o => decide (o.tsh b = t)) = none := by
      rw [List.findIdx?_eq_none_iff]
      intro o ho'
      simp only [decide_eq_false_iff_not]
      intro hoe
      obtain ⟨j, hjl, rfl⟩ := List.getElem_of_mem ho'
      have hje : (old[j].f : Int) + b = t.f := by have := congrArg TI.f hoe; simpa [Tok.tsh] using this
      have := h4 j hjl hje
      subst this
      exact hx ⟨hjl, hje⟩
    rw [decide_eq_false hx, hfi]
    simp only [Bool.not_false, onWant_true, k_relex_window_meets_1_eq, onBool_true]
    exact ⟨m3, rfl, hk12.trans h2⟩
end

end Go.AM
