/-
  Reading again what an edit may have changed: what is kept, what is met.
-/
import Derived.Test.YtcliklgiamlpeaaRelexLaw
import Derived.Test.YtcliklgiamlpeaaLexC
namespace Go.AM
open Lx

set_option linter.unusedSimpArgs false
set_option linter.unusedVariables false

theorem mem_tw {α : Type} {p : α → Bool} : ∀ {l : List α} {x : α}, x ∈ l.takeWhile p → p x = true
  | a :: l, x, h => by
    rw [List.takeWhile_cons] at h
    split at h
    · rcases List.mem_cons.1 h with rfl | h
      · assumption
      · exact mem_tw h
    · cases h

def Lx.Tok.tsh (b : Int) (t : Tok) : TI := ⟨t.k, t.f + b, t.t + b⟩

structure Ed where
  s : List UInt8
  fr : Nat
  to : Nat
  more : List UInt8
def Ed.ok (e : Ed) : Prop := e.fr ≤ e.to ∧ e.to ≤ e.s.length
def Ed.out (e : Ed) : List UInt8 := e.s.take e.fr ++ e.more ++ e.s.drop e.to
def Ed.by_ (e : Ed) : Int := (e.more.length : Int) - ((e.to : Int) - (e.fr : Int))
def Ed.ts (e : Ed) : List Tok := lex e.s 0
def Ed.front (e : Ed) : Nat := (e.ts.takeWhile fun t => decide (t.t + 1 < e.fr)).length
def Ed.begin_ (e : Ed) : Nat := endOf (e.ts.take e.front) 0
def Ed.mid (e : Ed) : List Tok := (e.ts.drop e.front).takeWhile fun t => decide (t.f < e.to)
def Ed.old (e : Ed) : List Tok := (e.ts.drop e.front).dropWhile fun t => decide (t.f < e.to)
def Ed.back (e : Ed) : Nat := e.front + e.mid.length
def Ed.lim (e : Ed) : Nat := e.fr + e.more.length
def Ed.rest (e : Ed) : List UInt8 := (e.s.take e.fr).drop e.begin_ ++ e.more ++ e.s.drop e.to
def Ed.new (e : Ed) : List Tok := lex e.rest e.begin_

theorem take_front (e : Ed) : e.ts.take e.front = e.ts.takeWhile fun t => decide (t.t + 1 < e.fr) :=
  (List.prefix_iff_eq_take.1 (List.takeWhile_prefix _)).symm
theorem front_lt (e : Ed) : ∀ t ∈ e.ts.take e.front, t.t + 1 < e.fr := by
  intro t ht
  rw [take_front] at ht
  have := mem_tw ht
  simpa using this
theorem old_eq (e : Ed) : e.old = e.ts.drop e.back := by
  unfold Ed.old Ed.back Ed.mid
  rw [← List.drop_drop]
  generalize e.ts.drop e.front = l
  induction l with
  | nil => rfl
  | cons t l ih =>
    by_cases h : decide (t.f < e.to) = true
    · simp only [List.takeWhile_cons, List.dropWhile_cons, h, if_true, List.length_cons, List.drop_succ_cons]; exact ih
    · simp only [List.takeWhile_cons, List.dropWhile_cons, h]; rfl
theorem mid_old (e : Ed) : e.ts.drop e.front = e.mid ++ e.old := (List.takeWhile_append_dropWhile ..).symm
theorem mid_lt (e : Ed) : ∀ t ∈ e.mid, t.f < e.to := by
  intro t ht
  have := mem_tw ht
  simpa using this

theorem lex_sorted : ∀ (n : Nat) (l : List UInt8) (a : Nat), l.length ≤ n → List.Pairwise (fun x y : Tok => x.t ≤ y.f) (lex l a)
  | _, [], a, _ => by simp [lex_nil]
  | 0, c :: r, a, h => by simp at h
  | n + 1, c :: r, a, h => by
    simp only [List.length_cons] at h
    rw [lex_cons]
    split
    · exact lex_sorted n r (a + 1) (by omega)
    · split
      · split
        · simp
        · rename_i k hk
          have hk2 := rem_le _ _ _ k (Nat.le_refl _) hk
          exact lex_sorted n _ _ (by simp; omega)
      · have hp := piece_pos (c :: r)
        rw [List.pairwise_cons]
        exact ⟨fun y hy => (lex_bounds _ _ _ (Nat.le_refl _) y hy).1, lex_sorted n _ _ (by simp; omega)⟩
theorem ts_sorted (e : Ed) : List.Pairwise (fun x y : Tok => x.f < y.f) e.ts := by
  have h := lex_sorted _ e.s 0 (Nat.le_refl _)
  have hb := lex_bounds _ e.s 0 (Nat.le_refl _)
  unfold Ed.ts
  generalize lex e.s 0 = l at *
  induction l with
  | nil => exact List.Pairwise.nil
  | cons x l ih =>
    rw [List.pairwise_cons] at h ⊢
    refine ⟨fun y hy => ?_, ih h.2 (fun t ht => hb t (by simp [ht]))⟩
    have := h.1 y hy
    have := hb x (by simp)
    omega
theorem old_ge (e : Ed) : ∀ t ∈ e.old, e.to ≤ t.f := by
  have hs : List.Pairwise (fun x y : Tok => x.f < y.f) (e.ts.drop e.front) := (ts_sorted e).drop
  unfold Ed.old
  generalize e.ts.drop e.front = l at *
  induction l with
  | nil => simp
  | cons x l ih =>
    rw [List.pairwise_cons] at hs
    by_cases h : x.f < e.to
    · simp only [List.dropWhile_cons, decide_eq_true h, if_true]; exact ih hs.2
    · simp only [List.dropWhile_cons, decide_eq_false h]
      intro t ht
      rcases List.mem_cons.1 ht with rfl | ht
      · omega
      · have := hs.1 t ht; omega

theorem begin_le (e : Ed) : e.begin_ ≤ e.fr ∧ (e.begin_ = 0 ∨ e.begin_ + 1 < e.fr) := by
  unfold Ed.begin_
  have h := front_lt e
  generalize e.ts.take e.front = K at *
  have : ∀ (K : List Tok) (a : Nat), (∀ t ∈ K, t.t + 1 < e.fr) → (a = 0 ∨ a + 1 < e.fr) → endOf K a ≤ e.fr ∧ (endOf K a = 0 ∨ endOf K a + 1 < e.fr) := by
    intro K
    induction K with
    | nil => intro a _ h; exact ⟨by show a ≤ _; omega, h⟩
    | cons t K ih => intro a hk _; exact ih t.t (fun x hx => hk x (by simp [hx])) (.inr (hk t (by simp)))
  exact this K 0 h (.inl rfl)

theorem rest_eq (e : Ed) (h : e.ok) : e.rest = e.out.drop e.begin_ := by
  have hb := (begin_le e).1
  have hl : (e.s.take e.fr).length = e.fr := by simp; have := h.1; have := h.2; omega
  unfold Ed.rest Ed.out
  rw [List.append_assoc, List.append_assoc, List.drop_append_of_le_length (by omega)]

/-- THE TOKENS OF THE EDITED TEXT: those at the front, and what is read behind them. -/
theorem out_lex (e : Ed) (h : e.ok) : lex e.out 0 = e.ts.take e.front ++ e.new := by
  have hl : (e.s.take e.fr).length = e.fr := by simp; have := h.1; have := h.2; omega
  have hk := lex_keep _ e.s e.out 0 e.fr (Nat.le_refl _) (by have := h.1; have := h.2; omega) (by
    unfold Ed.out
    rw [List.append_assoc, List.take_append_of_le_length (by omega), List.take_take, Nat.min_self]) (e.ts.take e.front) (e.ts.drop e.front) (List.take_append_drop _ _).symm (fun t ht => by have := front_lt e t ht; omega)
  rw [hk]
  unfold Ed.new
  rw [rest_eq e h]; rfl

theorem tsh_sh (b : Int) (a a' : Nat) (h : (a' : Int) = a + b) (t : Tok) : (Tok.sh a t).tsh b = Tok.ti (Tok.sh a' t) := by
  simp only [Tok.tsh, Tok.ti, Tok.sh]
  congr 1
  · omega
  · omega
theorem lex_tsh (l : List UInt8) (a a' : Nat) (b : Int) (h : (a' : Int) = a + b) : (lex l a).map (Tok.tsh b) = (lex l a').map Tok.ti := by
  have h1 := lex_shift a _ l 0 (Nat.le_refl _)
  have h2 := lex_shift a' _ l 0 (Nat.le_refl _)
  rw [Nat.zero_add] at h1 h2
  rw [h1, h2, List.map_map, List.map_map]
  congr 1
  funext t
  exact tsh_sh b a a' h t

def Ed.meets (e : Ed) (t : Tok) : Prop := e.lim ≤ t.f ∧ ∃ o ∈ e.old, o.tsh e.by_ = Tok.ti t

/-- what is met goes on as it did -/
theorem met_rest (e : Ed) (h : e.ok) {N1 : List Tok} {t : Tok} {N2 : List Tok} (hN : e.new = N1 ++ t :: N2) (ht : e.lim ≤ t.f) {k : Nat} {o : Tok} (hk : e.old[k]? = some o) (ho : o.tsh e.by_ = Tok.ti t) :
    (e.old.drop k).map (Tok.tsh e.by_) = (t :: N2).map Tok.ti := by
  have hkl : k < e.old.length := (List.getElem?_eq_some_iff.1 hk).1
  have hod : e.old.drop k = o :: e.old.drop (k + 1) := by
    rw [List.drop_eq_getElem_cons hkl, (List.getElem?_eq_some_iff.1 hk).2]
  have hts : e.ts = e.ts.take (e.back + k) ++ o :: e.old.drop (k + 1) := by
    have : e.old.drop k = e.ts.drop (e.back + k) := by rw [old_eq, List.drop_drop]
    rw [← hod, this, List.take_append_drop]
  have h1 := lex_from _ e.s 0 (Nat.le_refl _) _ _ _ hts
  have hb := begin_le e
  have hnb := lex_bounds _ e.rest e.begin_ (Nat.le_refl _) t (by unfold Ed.new at hN; rw [hN]; simp)
  have h2 := lex_from _ e.rest e.begin_ (Nat.le_refl _) _ _ _ hN
  rw [rest_eq e h, List.drop_drop, show e.begin_ + (t.f - e.begin_) = t.f by omega] at h2
  have hog := old_ge e o (List.mem_of_getElem? hk)
  have hf : (t.f : Int) = o.f + e.by_ := by have := congrArg TI.f ho; simp only [Tok.tsh, Tok.ti] at this; omega
  have hdrop : e.out.drop t.f = e.s.drop o.f := by
    have hl : (e.s.take e.fr ++ e.more).length = e.fr + e.more.length := by simp; have := h.1; have := h.2; omega
    unfold Ed.out
    rw [show t.f = (e.s.take e.fr ++ e.more).length + (t.f - (e.fr + e.more.length)) by rw [hl]; unfold Ed.lim at ht; omega, ← List.drop_drop, List.drop_left, List.drop_drop]
    congr 1
    unfold Ed.by_ at hf
    unfold Ed.lim at ht
    have := h.1
    omega
  rw [hod, h1, h2, hdrop, Nat.sub_zero]
  exact lex_tsh _ _ _ _ hf

def goR (e : Ed) : List Tok → List TI × Nat
  | [] => ([], 0)
  | t :: r => match (if e.lim ≤ t.f then e.old.findIdx? (fun o => o.tsh e.by_ = Tok.ti t) else none) with
    | some k => ((e.old.drop k).map (Tok.tsh e.by_), e.old.length - k)
    | none => (Tok.ti t :: (goR e r).1, (goR e r).2)

theorem goR_split (e : Ed) : ∀ N : List Tok, ∃ N1 N2, N = N1 ++ N2 ∧ (∀ b ∈ N1, ¬ e.meets b) ∧
    ((N2 = [] ∧ (goR e N).1 = N1.map Tok.ti ∧ (goR e N).2 = 0) ∨
      ∃ t r k o, N2 = t :: r ∧ e.lim ≤ t.f ∧ e.old[k]? = some o ∧ o.tsh e.by_ = Tok.ti t ∧ (goR e N).1 = N1.map Tok.ti ++ (e.old.drop k).map (Tok.tsh e.by_) ∧ (goR e N).2 = e.old.length - k)
  | [] => ⟨[], [], rfl, by simp, .inl ⟨rfl, rfl, rfl⟩⟩
  | t :: r => by
    by_cases hl : e.lim ≤ t.f
    · cases hf : e.old.findIdx? (fun o => o.tsh e.by_ = Tok.ti t) with
      | some k =>
        have ⟨hk, hp⟩ := List.findIdx?_eq_some_iff_getElem.1 hf
        refine ⟨[], t :: r, rfl, by simp, .inr ⟨t, r, k, e.old[k], rfl, hl, List.getElem?_eq_getElem hk, by simpa using hp.1, ?_, ?_⟩⟩
        · simp only [goR, if_pos hl, hf]; rfl
        · simp only [goR, if_pos hl, hf]
      | none =>
        obtain ⟨N1, N2, h1, h2, h3⟩ := goR_split e r
        have hn : ¬ e.meets t := by
          rintro ⟨_, o, ho, he⟩
          rw [List.findIdx?_eq_none_iff] at hf
          have := hf o ho
          simp [he] at this
        refine ⟨t :: N1, N2, by rw [h1]; rfl, fun b hb => ?_, ?_⟩
        · rcases List.mem_cons.1 hb with rfl | hb
          · exact hn
          · exact h2 b hb
        · simp only [goR, if_pos hl, hf]
          rcases h3 with ⟨a, b, c⟩ | ⟨t', r', k, o, a1, a2, a3, a4, a5, a6⟩
          · exact .inl ⟨a, by rw [b]; rfl, c⟩
          · exact .inr ⟨t', r', k, o, a1, a2, a3, a4, by rw [a5]; rfl, a6⟩
    · obtain ⟨N1, N2, h1, h2, h3⟩ := goR_split e r
      refine ⟨t :: N1, N2, by rw [h1]; rfl, fun b hb => ?_, ?_⟩
      · rcases List.mem_cons.1 hb with rfl | hb
        · exact fun h => hl h.1
        · exact h2 b hb
      · simp only [goR, if_neg hl]
        rcases h3 with ⟨a, b, c⟩ | ⟨t', r', k, o, a1, a2, a3, a4, a5, a6⟩
        · exact .inl ⟨a, by rw [b]; rfl, c⟩
        · exact .inr ⟨t', r', k, o, a1, a2, a3, a4, by rw [a5]; rfl, a6⟩

/-- THE ANSWER's TOKENS are the edited text's. -/
theorem goR_out (e : Ed) (h : e.ok) : (e.ts.take e.front).map Tok.ti ++ (goR e e.new).1 = (lex e.out 0).map Tok.ti := by
  rw [out_lex e h, List.map_append]
  congr 1
  obtain ⟨N1, N2, h1, _, h3⟩ := goR_split e e.new
  rcases h3 with ⟨a, b, _⟩ | ⟨t, r, k, o, a1, a2, a3, a4, a5, _⟩
  · rw [b, h1, a, List.append_nil]
  · subst a1
    rw [a5, met_rest e h h1 a2 a3 a4]
    conv => rhs; rw [h1, List.map_append]

/-- the reference's count of the tokens at the end -/
def Ed.ends (e : Ed) : Nat := (((e.ts.drop e.front).reverse.zip e.new.reverse).takeWhile fun p => decide (e.to ≤ p.1.f ∧ p.1.tsh e.by_ = Tok.ti p.2)).length

theorem ends_of {e : Ed} {O1 O2 N1 N2 : List Tok} (hO : e.ts.drop e.front = O1 ++ O2) (hN : e.new = N1 ++ N2) (hl : O2.length = N2.length) (hz : ∀ p ∈ O2.reverse.zip N2.reverse, e.to ≤ p.1.f ∧ p.1.tsh e.by_ = Tok.ti p.2) (hn : ∀ b ∈ N1, ¬ e.meets b) : e.ends = N2.length := by
  unfold Ed.ends
  rw [hO, hN, List.reverse_append, List.reverse_append, List.zip_append (by simpa using hl)]
  rw [List.takeWhile_append_of_pos (fun p hp => by simpa using hz p hp)]
  rw [List.length_append, List.length_zip]
  have hstop : ((O1.reverse.zip N1.reverse).takeWhile fun p => decide (e.to ≤ p.1.f ∧ p.1.tsh e.by_ = Tok.ti p.2)) = [] := by
    cases hz1 : O1.reverse.zip N1.reverse with
    | nil => rfl
    | cons p ps =>
      rw [List.takeWhile_cons, if_neg]
      intro hp
      simp only [decide_eq_true_eq] at hp
      have hm : p ∈ O1.reverse.zip N1.reverse := by rw [hz1]; simp
      have ha : p.1 ∈ O1 := by simpa using (List.of_mem_zip hm).1
      have hb : p.2 ∈ N1 := by simpa using (List.of_mem_zip hm).2
      refine hn p.2 hb ⟨?_, p.1, ?_, hp.2⟩
      · have := congrArg TI.f hp.2
        simp only [Tok.tsh, Tok.ti, Ed.by_] at this
        unfold Ed.lim
        have := hp.1
        omega
      · have : p.1 ∈ e.mid ++ e.old := by rw [← mid_old, hO]; exact List.mem_append_left _ ha
        rcases List.mem_append.1 this with h | h
        · have := mid_lt e _ h; omega
        · exact h
  rw [hstop]
  simp [hl]

theorem goR_ends (e : Ed) (h : e.ok) : (goR e e.new).2 = e.ends := by
  obtain ⟨N1, N2, h1, h2, h3⟩ := goR_split e e.new
  rcases h3 with ⟨a, _, c⟩ | ⟨t, r, k, o, a1, a2, a3, a4, _, a6⟩
  · subst a
    rw [c, ends_of (O1 := e.ts.drop e.front) (O2 := []) (by simp) h1 rfl (by simp) h2]; rfl
  · subst a1
    have hm := met_rest e h h1 a2 a3 a4
    have hl : (e.old.drop k).length = (t :: r).length := by simpa using congrArg List.length hm
    have hO : e.ts.drop e.front = (e.mid ++ e.old.take k) ++ e.old.drop k := by rw [List.append_assoc, List.take_append_drop, mid_old]
    rw [a6, ends_of hO h1 hl ?_ h2, ← hl, List.length_drop]
    intro p hp
    obtain ⟨i, hi, hpi⟩ := List.getElem_of_mem hp
    rw [List.getElem_zip] at hpi
    simp only [List.length_zip, List.length_reverse] at hi
    have hi2 : (t :: r).length - 1 - i < (e.old.drop k).length := by omega
    have hi3 : (t :: r).length - 1 - i < (t :: r).length := by omega
    have hm2 := congrArg (fun l => l[(t :: r).length - 1 - i]?) hm
    simp only [List.getElem?_map, List.getElem?_eq_getElem hi2, List.getElem?_eq_getElem hi3, Option.map_some, Option.some.injEq] at hm2
    have e1 : (e.old.drop k).reverse[i]'(by simp only [List.length_reverse]; omega) = (e.old.drop k)[(t :: r).length - 1 - i] := by
      rw [List.getElem_reverse]; congr 1; rw [hl]
    have e2 : (t :: r).reverse[i]'(by simp only [List.length_reverse]; omega) = (t :: r)[(t :: r).length - 1 - i] := by
      rw [List.getElem_reverse]
    rw [e1, e2] at hpi
    rw [← hpi]
    exact ⟨old_ge e _ (List.mem_of_mem_drop (List.getElem_mem hi2)), hm2⟩

end Go.AM
