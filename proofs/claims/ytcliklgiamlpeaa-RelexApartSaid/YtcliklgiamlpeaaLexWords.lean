/-
  LexWords over the machine.
-/
import Derived.Test.YtcliklgiamlpeaaLexMoved
import Derived.Test.YtcliklgiamlpeaaLexR2
import Derived.Test.YtcliklgiamlpeaaAMOpen
import Derived.Test.YtcliklgiamlpeaaR1E1
namespace Go.AM
open Go Go.Proofs Lx
set_option linter.unusedSimpArgs false
set_option linter.unusedVariables false

theorem boolEq (xc yc a b : Bool) : aBin X.T .eql T_bool xc yc (.bool a) (.bool b) = some (.bool (a == b)) := by kernel_rfl
def TI.ok (t : TI) : Prop := (IntKind.i64.min ≤ t.k ∧ t.k ≤ IntKind.i64.max) ∧ (IntKind.i64.min ≤ t.f ∧ t.f ≤ IntKind.i64.max) ∧ (IntKind.i64.min ≤ t.t ∧ t.t ≤ IntKind.i64.max)
theorem ti_fits : ∀ cs, FlatFits [.int .i64, .int .i64, .int .i64] cs → ∃ t : TI, wrapE true cs = tiAV t ∧ t.ok
  | [.int k x, .int k' y, .int k'' z], h => by
    obtain ⟨⟨rfl, h1⟩, ⟨rfl, h2⟩, ⟨rfl, h3⟩, _⟩ := h
    exact ⟨⟨x, y, z⟩, rfl, h1, h2, h3⟩

theorem boxLoad {t : TI} {m : Mem} {o : Nat} (h : m.obj o = some (.row [.int .i64 t.k, .int .i64 t.f, .int .i64 t.t] 0)) : rLoad true 3 m (.ptr o 0 0) = some (tiAV t) := tiLoadBox t m o (cells_of h)
theorem boxLoad0 {t : TI} {m : Mem} {o : Nat} (h : m.obj o = some (.row [.int .i64 t.k, .int .i64 t.f, .int .i64 t.t] 0)) : rLoad false 1 m (.ptr o 0 (0 + 0)) = some (.int .i64 t.k) := by rw [rLoad_ptr, cells_of h]; rfl

theorem lexWords_plain (s : List UInt8) (t : TI) (ht : t.ok) (w : List UInt8) (hs : s.length ≤ 140737488351232) (hw : w.length ≤ 140737488351232) (m : Mem) : ∃ m', w_l08_LexWords (.str (bs s)) (tiAV t) (.str (bs w)) m = some (.ret (.bool true), m') := by
  have e : aBox m (tiAV t) = some (.ptr m.next 0 0, m.alloc (.row [.int .i64 t.k, .int .i64 t.f, .int .i64 t.t] 0)) := rfl
  have b1 : (m.alloc (.row [.int .i64 t.k, .int .i64 t.f, .int .i64 t.t] 0)).obj m.next = some (.row [.int .i64 t.k, .int .i64 t.f, .int .i64 t.t] 0) := by simp
  have n1 : m.next < (m.alloc (.row [.int .i64 t.k, .int .i64 t.f, .int .i64 t.t] 0)).next := by simp
  generalize m.alloc (.row [.int .i64 t.k, .int .i64 t.f, .int .i64 t.t] 0) = m1 at *
  generalize m.next = o at *
  have keep : ∀ {a b : Mem}, Kept a b → o < a.next → a.obj o = some (.row [.int .i64 t.k, .int .i64 t.f, .int .i64 t.t] 0) → o < b.next ∧ b.obj o = some (.row [.int .i64 t.k, .int .i64 t.f, .int .i64 t.t] 0) :=
    fun k h1 h2 => ⟨Nat.lt_of_lt_of_le h1 k.next, (k.obj o h1).trans h2⟩
  obtain ⟨m2, h1, h2⟩ := alive_s m1
  obtain ⟨n2, b2⟩ := keep h2 n1 b1
  rw [e_l08_LexWords, e, memK_some, h1, retK_ret, aUn_not, bnd_some, Bool.not_true, onBool_false, k_l08_LexWords_0_eq]
  simp only [rLenStr_bs, bnd_some, aBin_add, aBin_gtr]
  rw [wrap64 (by omega) (by omega)]
  by_cases a1 : (20000 : Int) < (s.length : Nat) + (w.length : Nat)
  · simp only [decide_eq_true a1, onBool_true]; exact ⟨_, rfl⟩
  · have hR : Kept m2 (m2.alloc (.row [.int .i64 t.k, .int .i64 t.f, .int .i64 t.t] 0)) := .alloc _ _
    obtain ⟨n3, b3⟩ := keep hR n2 b2
    simp only [decide_eq_false a1, onBool_false, k_l08_LexWords_1_eq, boxLoad b2, bnd_some, word_s, retK_ret]
    generalize m2.alloc (.row [.int .i64 t.k, .int .i64 t.f, .int .i64 t.t] 0) = m3 at *
    have hR : Kept m3 (m3.alloc (.row [.int .i64 t.k, .int .i64 t.f, .int .i64 t.t] 0)) := .alloc _ _
    obtain ⟨n4, b4⟩ := keep hR n3 b3
    simp only [boxLoad b3, bnd_some, rword_s, retK_ret, aBin_streq, decide_true, onWant_true]
    generalize m3.alloc (.row [.int .i64 t.k, .int .i64 t.f, .int .i64 t.t] 0) = m4 at *
    obtain ⟨m5, h5, k5⟩ := is_s s t w m4
    obtain ⟨n5, b5⟩ := keep k5 n4 b4
    obtain ⟨m6, h6, k6⟩ := ris_s s t w m5
    obtain ⟨n6, b6⟩ := keep k6 n5 b5
    simp only [boxLoad b4, boxLoad b5, boxLoad b6, bnd_some, h5, h6, retK_ret, boolEq, beq_self_eq_true, onWant_true, word_s]
    have hR : Kept m6 (m6.alloc (.row [.int .i64 t.k, .int .i64 t.f, .int .i64 t.t] 0)) := .alloc _ _
    obtain ⟨n7, b7⟩ := keep hR n6 b6
    generalize m6.alloc (.row [.int .i64 t.k, .int .i64 t.f, .int .i64 t.t] 0) = m7 at *
    obtain ⟨m8, h8, k8⟩ := is_s s t (wordS s t) m7
    obtain ⟨n8, b8⟩ := keep k8 n7 b7
    have hi : isS s t (wordS s t) = (decide (t.k = 5) || decide (t.k = 6)) := by simp [isS]
    obtain ⟨m9, h9, k9⟩ := rkind_s w (by omega) m8
    simp only [h8, retK_ret, rFieldAddr_ptr, bnd_some, boxLoad0 b8, aBin_eql, hi, kind_s w (by omega) m8, h9, sameK_self, boxLoad b2, boxLoad b4, boxLoad b7, boxLoad0 b6, boxLoad0 b7, decide_true, boolEq]
    by_cases h50 : t.k = 5
    · simp only [decide_eq_true h50, onWant_true, Bool.true_or, beq_self_eq_true]
      exact ⟨_, rfl⟩
    · simp only [decide_eq_false h50, onWant_false, Bool.false_or, beq_self_eq_true, onWant_true]
      exact ⟨_, rfl⟩
end Go.AM
