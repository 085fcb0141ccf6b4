/-
  Scripts over stores, in plain Lean: what a step and a run come to, and that stores that say the same go on to say the same.
-/
import Derived.Test.YtpffgljpkehgmaaRUn5
import Derived.Test.YtpffgljpkehgmaaGCtx
import Derived.Test.YtpffgljpkehgmaaGE2
import Derived.Test.YtpffgljpkehgmaaGE4
import Derived.Test.YtpffgljpkehgmaaGE6
import Derived.Test.YtpffgljpkehgmaaGE7
import Derived.Test.YtpffgljpkehgmaaGE8
import Derived.Test.YtpffgljpkehgmaaGE10
import Derived.Test.YtpffgljpkehgmaaGE12
import Derived.Test.YtpffgljpkehgmaaUniM12
set_option linter.unusedVariables false
set_option linter.unusedSimpArgs false
namespace Go.AM
open Go Go.Proofs Uni
set_option linter.unusedSimpArgs false
set_option linter.unusedVariables false
def MkR (ns : List Nd) (k : Int) (nm : List UInt8) (l : List Int) (bad : Bool) (n e : Int) (ns' : List Nd) : Prop :=
  (l.all (inB ns.length) = false ∧ n = 0 ∧ e = 221 ∧ ns' = ns) ∨ (l.all (inB ns.length) = true ∧ bad = true ∧ n = 0 ∧ e = 120 ∧ ns' = ns) ∨
   (l.all (inB ns.length) = true ∧ bad = false ∧ ∃ xs : List Nat, l = xs.map (fun x : Nat => (x : Int)) ∧ (∀ x ∈ xs, x < ns.length) ∧ n = ns.length ∧ e = 0 ∧ ns' = addN ns k nm xs)
theorem all_nat {n : Nat} {xs : List Nat} (h : ∀ x ∈ xs, x < n) : (xs.map (fun x : Nat => (x : Int))).all (inB n) = true := by
  rw [List.all_map, List.all_eq_true]
  intro x hx
  have := h x hx
  simp [inB]; omega
theorem MkP.r {ns : List Nd} {m : Mem} {p : Nat} {o : Option Nat} {tv : AV} {m' : Mem} {k : Int} {nm : List UInt8} {l : List Int} {bad : Bool} {n e : Int} {o' : Option Nat} {ns' : List Nd} (h : MkP ns m p o tv m' k nm l bad n e o' ns') : MkR ns k nm l bad n e ns' := by
  obtain ⟨_, _, _, _, h⟩ := h
  rcases h with h | h | ⟨h1, xs, h2, h3, h4, h5, h6, _⟩
  · exact .inl h
  · exact .inr (.inl h)
  · exact .inr (.inr ⟨by rw [h2]; exact all_nat h3, h1, xs, h2, h3, h4, h5, h6⟩)
theorem RkP.r {ns : List Nd} {m : Mem} {o : Option Nat} {nv : AV} {m' : Mem} {k : Int} {nm : List UInt8} {l : List Int} {bad : Bool} {n e : Int} {nv' : AV} {o' : Option Nat} {ns' : List Nd} (h : RkP ns m o nv m' k nm l bad n e nv' o' ns') : MkR ns k nm l bad n e ns' := by
  obtain ⟨_, _, _, _, h⟩ := h
  rcases h with h | h | ⟨h1, xs, h2, h3, h4, h5, h6, _⟩
  · exact .inl h
  · exact .inr (.inl h)
  · exact .inr (.inr ⟨by rw [h2]; exact all_nat h3, h1, xs, h2, h3, h4, h5, h6⟩)
def UnR (ns : List Nd) (a c e : Int) (ns' : List Nd) : Prop :=
  ((inB ns.length a && inB ns.length c) = false ∧ e = 221 ∧ ns' = ns) ∨ ((inB ns.length a && inB ns.length c) = true ∧ UnP ns a.toNat c.toNat e ns')
/-- a store that a script makes -/
structure Fine (ns : List Nd) (w : Nat) : Prop where
  g : Uni.Good ns
  v : Vn ns
  al : ∀ i, (argsOf ns i).length ≤ w
theorem MkR.fine {ns ns' : List Nd} {w : Nat} {k : Int} {nm : List UInt8} {l : List Int} {bad : Bool} {n e : Int} (h : MkR ns k nm l bad n e ns') (f : Fine ns w) (hk : k = 1 → l = []) (hl : l.length ≤ w) : Fine ns' w := by
  rcases h with ⟨_, _, _, rfl⟩ | ⟨_, _, _, _, rfl⟩ | ⟨_, _, xs, h2, h3, h4, h5, rfl⟩
  · exact f
  · exact f
  · refine ⟨f.g.add h3, f.v.add fun e => ?_, fun i => ?_⟩
    · have := hk e
      rw [this] at h2
      cases xs with
      | nil => rfl
      | cons => cases h2
    · rw [addN_args]
      split
      · have : xs.length = l.length := by rw [h2]; simp
        omega
      · exact f.al i
theorem UnP.fine {ns ns' : List Nd} {w a c : Nat} {e : Int} (h : UnP ns a c e ns') (f : Fine ns w) : Fine ns' w ∧ ns'.length = ns.length := by
  obtain ⟨ok, ns1, hw, h⟩ := h
  rcases h with ⟨_, _, rfl⟩ | ⟨_, _, _, rfl⟩ | ⟨rfl, hf, _, rfl⟩
  · exact ⟨f, rfl⟩
  · exact ⟨f, rfl⟩
  · exact ⟨⟨f.g.next hw hf, f.v.sd hw.sd, fun i => by rw [hw.sd.args]; exact f.al i⟩, hw.sd.len⟩
theorem UnR.fine {ns ns' : List Nd} {w : Nat} {a c e : Int} (h : UnR ns a c e ns') (f : Fine ns w) : Fine ns' w ∧ ns'.length = ns.length := by
  rcases h with ⟨_, _, rfl⟩ | ⟨_, h⟩
  · exact ⟨f, rfl⟩
  · exact h.fine f
theorem MkR.same {ns ns' r r' : List Nd} {k : Int} {nm : List UInt8} {l : List Int} {bad : Bool} {n e n2 e2 : Int} (h : MkR ns k nm l bad n e ns') (h' : MkR r k nm l bad n2 e2 r') (s : Sm ns r) (g : Uni.Good ns) (g2 : Uni.Good r) : n = n2 ∧ e = e2 ∧ Sm ns' r' := by
  have hl : r.length = ns.length := s.sd.len
  rcases h with ⟨a1, rfl, rfl, rfl⟩ | ⟨a1, a2, rfl, rfl, rfl⟩ | ⟨a1, a2, xs, a3, a4, rfl, rfl, rfl⟩ <;>
    rcases h' with ⟨b1, rfl, rfl, rfl⟩ | ⟨b1, b2, rfl, rfl, rfl⟩ | ⟨b1, b2, ys, b3, b4, rfl, rfl, rfl⟩ <;> rw [hl] at b1
  · exact ⟨rfl, rfl, s⟩
  · rw [a1] at b1; cases b1
  · rw [a1] at b1; cases b1
  · rw [a1] at b1; cases b1
  · exact ⟨rfl, rfl, s⟩
  · rw [a2] at b2; cases b2
  · rw [a1] at b1; cases b1
  · rw [a2] at b2; cases b2
  · have : ys = xs := by
      rw [a3] at b3
      exact ((List.map_inj_right (fun a b h => by omega)).1 b3).symm
    subst this
    exact ⟨by rw [hl], rfl, s.add g.lk g2.lk⟩
theorem UnP.same {ns ns' r r' : List Nd} {a c a2 c2 : Nat} {e e2 : Int} (h : UnP ns a c e ns') (h' : UnP r a2 c2 e2 r') (hac : (a2 = a ∧ c2 = c) ∨ (a2 = c ∧ c2 = a)) (s : Sm ns r) (g : Uni.Good ns) (g2 : Uni.Good r) : e = e2 ∧ Sm ns' r' := by
  obtain ⟨ok, ns1, hw, h⟩ := h
  obtain ⟨ok2, r1, hw2, h'⟩ := h'
  have hE : ∀ E, Eqv E → ((∀ q ∈ [(a, c)], E q.1 q.2) ↔ ∀ q ∈ [(a2, c2)], E q.1 q.2) := fun E hE => by
    simp only [List.mem_singleton, forall_eq]
    rcases hac with ⟨rfl, rfl⟩ | ⟨rfl, rfl⟩
    · exact .rfl
    · exact ⟨hE.symm, hE.symm⟩
  obtain ⟨b1, b2⟩ := hw.both hw2 g.lk g2.lk g.cm g2.cm s hE
  subst b1
  cases ok with
  | false =>
    rcases h with ⟨_, rfl, rfl⟩ | ⟨h, _⟩ | ⟨h, _⟩
    · rcases h' with ⟨_, rfl, rfl⟩ | ⟨h', _⟩ | ⟨h', _⟩
      · exact ⟨rfl, s⟩
      · cases h'
      · cases h'
    · cases h
    · cases h
  | true =>
    have hs := b2 rfl
    have hfin : Uni.Fin ns1 (Sim ns1) a ↔ Uni.Fin r1 (Sim r1) a2 := by
      have e1 : Uni.Fin ns1 (Sim ns1) a ↔ Uni.Fin r1 (Sim r1) a := ⟨fun h => hs.fin h, fun h => hs.symm.fin h⟩
      rcases hac with ⟨rfl, _⟩ | ⟨rfl, rfl⟩
      · exact e1
      · have hsim : Sim r1 a2 c2 := hw2.does rfl (a2, c2) (by simp)
        exact e1.trans ⟨fun h => h.alike (sim_eqv r1) hsim.symm, fun h => h.alike (sim_eqv r1) hsim⟩
    rcases h with ⟨h, _⟩ | ⟨_, h, rfl, rfl⟩ | ⟨_, h, rfl, rfl⟩
    · cases h
    · rcases h' with ⟨h', _⟩ | ⟨_, h', rfl, rfl⟩ | ⟨_, h', rfl, rfl⟩
      · cases h'
      · exact ⟨rfl, s⟩
      · exact absurd (hfin.2 h') h
    · rcases h' with ⟨h', _⟩ | ⟨_, h', rfl, rfl⟩ | ⟨_, h', rfl, rfl⟩
      · cases h'
      · exact absurd (hfin.1 h) h'
      · exact ⟨rfl, hs⟩
theorem UnR.same {ns ns' r r' : List Nd} {a c a2 c2 e e2 : Int} (h : UnR ns a c e ns') (h' : UnR r a2 c2 e2 r') (hac : (a2 = a ∧ c2 = c) ∨ (a2 = c ∧ c2 = a)) (s : Sm ns r) (g : Uni.Good ns) (g2 : Uni.Good r) : e = e2 ∧ Sm ns' r' := by
  have hl : r.length = ns.length := s.sd.len
  have hb : (inB r.length a2 && inB r.length c2) = (inB ns.length a && inB ns.length c) := by
    rw [hl]
    rcases hac with ⟨rfl, rfl⟩ | ⟨rfl, rfl⟩
    · rfl
    · exact Bool.and_comm ..
  rcases h with ⟨h1, rfl, rfl⟩ | ⟨h1, h⟩ <;> rcases h' with ⟨h2, rfl, rfl⟩ | ⟨h2, h'⟩ <;> rw [hb] at h2
  · exact ⟨rfl, s⟩
  · rw [h1] at h2; cases h2
  · rw [h1] at h2; cases h2
  · refine h.same h' ?_ s g g2
    rcases hac with ⟨rfl, rfl⟩ | ⟨rfl, rfl⟩
    · exact .inl ⟨rfl, rfl⟩
    · exact .inr ⟨rfl, rfl⟩
structure Op13 where
  what : Int
  name : List UInt8
  args : List Int
def placedL (made : List Nat) (args : List Int) : List Int := args.map fun a : Int => if 0 ≤ a ∧ a < made.length then ((made[a.toNat]?.getD 0 : Nat) : Int) else a
theorem placedL_len (made : List Nat) (args : List Int) : (placedL made args).length = args.length := by simp [placedL]
def pairL : List Int → Int × Int
  | a :: b :: _ => (a, b)
  | _ => (-1, -1)
/-- a step's answer and the store behind it -/
def StR (op : Op13) (ns : List Nd) (made : List Nat) (n e : Int) (ns' : List Nd) : Prop :=
  (op.what = 1 ∧ MkR ns 1 [] [] false n e ns') ∨
  (op.what = 2 ∧ MkR ns 2 op.name (placedL made op.args) (decide (Lx.kindS op.name ≠ 1)) n e ns') ∨
  (op.what = 3 ∧ MkR ns 3 [] (placedL made op.args) (decide ((placedL made op.args).length < 2)) n e ns') ∨
  (op.what = 4 ∧ MkR ns 4 [] [(pairL (placedL made op.args)).1, (pairL (placedL made op.args)).2] false n e ns') ∨
  (op.what = 5 ∧ n = 0 ∧ UnR ns (pairL (placedL made op.args)).1 (pairL (placedL made op.args)).2 e ns')
def madeN (op : Op13) (made : List Nat) (n e : Int) : List Nat := if e = 0 ∧ op.what < 5 then made ++ [n.toNat] else made
theorem StR.same {op : Op13} {ns ns' r r' : List Nd} {made : List Nat} {n e n2 e2 : Int} (h : StR op ns made n e ns') (h' : StR op r made n2 e2 r') (s : Sm ns r) (g : Uni.Good ns) (g2 : Uni.Good r) : n = n2 ∧ e = e2 ∧ Sm ns' r' := by
  rcases h with ⟨w, h⟩ | ⟨w, h⟩ | ⟨w, h⟩ | ⟨w, h⟩ | ⟨w, rfl, h⟩ <;> rcases h' with ⟨w', h'⟩ | ⟨w', h'⟩ | ⟨w', h'⟩ | ⟨w', h'⟩ | ⟨w', rfl, h'⟩ <;> first
    | (rw [w] at w'; exact absurd w' (by decide))
    | exact h.same h' s g g2
    | exact ⟨rfl, h.same h' (.inl ⟨rfl, rfl⟩) s g g2⟩
theorem StR.fine {op : Op13} {ns ns' : List Nd} {made : List Nat} {n e : Int} {w : Nat} (h : StR op ns made n e ns') (f : Fine ns w) (hw : 2 ≤ w) (ha : op.args.length ≤ w) (hm : ∀ x ∈ made, x < ns.length) : Fine ns' w ∧ ns.length ≤ ns'.length ∧ ns'.length ≤ ns.length + 1 ∧ (∀ x ∈ madeN op made n e, x < ns'.length) := by
  have hmk : ∀ {k : Int} {nm : List UInt8} {l : List Int} {bad : Bool}, MkR ns k nm l bad n e ns' → (k = 1 → l = []) → l.length ≤ w → Fine ns' w ∧ ns.length ≤ ns'.length ∧ ns'.length ≤ ns.length + 1 ∧ (∀ x ∈ madeN op made n e, x < ns'.length) := by
    intro k nm l bad h hk hl
    refine ⟨h.fine f hk hl, ?_⟩
    rcases h with ⟨_, rfl, rfl, rfl⟩ | ⟨_, _, rfl, rfl, rfl⟩ | ⟨_, _, xs, h2, h3, rfl, rfl, rfl⟩
    · refine ⟨Nat.le_refl _, by omega, fun x hx => ?_⟩
      unfold madeN at hx; rw [if_neg (by simp)] at hx; exact hm x hx
    · refine ⟨Nat.le_refl _, by omega, fun x hx => ?_⟩
      unfold madeN at hx; rw [if_neg (by simp)] at hx; exact hm x hx
    · refine ⟨by simp, by simp, fun x hx => ?_⟩
      rw [addN_len]
      unfold madeN at hx
      split at hx
      · rcases List.mem_append.1 hx with hx | hx
        · have := hm x hx; omega
        · simp at hx; omega
      · have := hm x hx; omega
  rcases h with ⟨w', h⟩ | ⟨w', h⟩ | ⟨w', h⟩ | ⟨w', h⟩ | ⟨w', rfl, h⟩
  · exact hmk h (fun _ => rfl) (by simp)
  · exact hmk h (fun e => by cases e) (by rw [placedL_len]; exact ha)
  · exact hmk h (fun e => by cases e) (by rw [placedL_len]; exact ha)
  · exact hmk h (fun e => by cases e) (by simpa using hw)
  · obtain ⟨h1, h2⟩ := h.fine f
    refine ⟨h1, by omega, by omega, fun x hx => ?_⟩
    unfold madeN at hx; rw [if_neg (by rw [w']; simp)] at hx
    rw [h2]; exact hm x hx
/-- a run -/
inductive RunR : List Op13 → List Nd → List Nat → List Nd → List Nat → Prop
  | nil {ns made} : RunR [] ns made ns made
  | skip {op rest ns made ns' made'} : ¬ (1 ≤ op.what ∧ op.what ≤ 5) → RunR rest ns made ns' made' → RunR (op :: rest) ns made ns' made'
  | step {op rest ns made n e ns1 ns' made'} : StR op ns made n e ns1 → RunR rest ns1 (madeN op made n e) ns' made' → RunR (op :: rest) ns made ns' made'
theorem StR.what {op : Op13} {ns ns' : List Nd} {made : List Nat} {n e : Int} (h : StR op ns made n e ns') : 1 ≤ op.what ∧ op.what ≤ 5 := by
  rcases h with ⟨w, _⟩ | ⟨w, _⟩ | ⟨w, _⟩ | ⟨w, _⟩ | ⟨w, _⟩ <;> rw [w] <;> decide
theorem RunR.same {scr : List Op13} {ns ns' r r' : List Nd} {made made' made2 : List Nat} {w : Nat} (hw : 2 ≤ w) (ha : ∀ op ∈ scr, op.args.length ≤ w) (h : RunR scr ns made ns' made') (h' : RunR scr r made r' made2) (s : Sm ns r) (f : Fine ns w) (f2 : Fine r w) (hm : ∀ x ∈ made, x < ns.length) : Sm ns' r' ∧ made' = made2 := by
  induction h generalizing r r' made2 with
  | nil => cases h'; exact ⟨s, rfl⟩
  | skip hn _ ih =>
    cases h' with
    | skip _ h' => exact ih (fun op ho => ha op (by simp [ho])) h' s f f2 hm
    | step h1 _ => exact absurd h1.what hn
  | step h1 _ ih =>
    cases h' with
    | skip hn _ => exact absurd h1.what hn
    | step h2 h' =>
      obtain ⟨rfl, rfl, s'⟩ := h1.same h2 s f.g f2.g
      have hl := s.sd.len
      obtain ⟨q1, q2, q3, q4⟩ := h1.fine f hw (ha _ (by simp)) hm
      obtain ⟨q5, _⟩ := h2.fine f2 hw (ha _ (by simp)) (fun x hx => by rw [hl]; exact hm x hx)
      exact ih (fun op ho => ha op (by simp [ho])) h' s' q1 q5 q4
end Go.AM
namespace Go.AM
open Go Go.Proofs Uni
set_option linter.unusedSimpArgs false
set_option linter.unusedVariables false
theorem placed_loop {v0 v1 : AV} {args : List Int} {made : List Nat} (h0 : HSl v0 (its args)) (h1 : HSl v1 (nts made)) (hl : args.length ≤ 1000000) (b : Nat) : ∀ (k i : Nat) (m : Mem) (v : AV), args.length - i = k → i ≤ args.length → b ≤ m.next → App b 1 m v (its ((placedL made args).take i)) →
    ∃ v' m', l_f29_0 v0 v1 v (.int .i64 i) m = some (.ret v', m') ∧ App b 1 m' v' (its (placedL made args)) ∧ Keeps b m m' := by
  intro k
  induction k with
  | zero =>
    intro i m v hk hi hb hA
    have : i = args.length := by omega
    subst this
    rw [l_f29_0_eq, h0.len, bnd_some, List.length_map]
    simp only [aBin_lss, bnd_some, Int.lt_irrefl, decide_false, onBool_false, k_f29_0_eq]
    refine ⟨v, m, rfl, ?_, .refl ..⟩
    rw [List.take_of_length_le (by rw [placedL_len]; exact Nat.le_refl _)] at hA
    exact hA
  | succ k ih =>
    intro i m v hk hi hb hA
    have hlt : i < args.length := by omega
    have hix : rIxAddrSl 1 v0 (.int .i64 i) = some (.pim [.int .i64 args[i]]) := h0.ix (x := .int .i64 args[i]) (by simp [hlt]) rfl rfl
    have hget : (placedL made args)[i]? = some (if 0 ≤ args[i] ∧ args[i] < made.length then ((made[args[i].toNat]?.getD 0 : Nat) : Int) else args[i]) := by
      unfold placedL; rw [List.getElem?_map, List.getElem?_eq_getElem hlt]; rfl
    have hb8 : A_int.bytes = 8 := rfl
    have next : ∀ z : Int, (placedL made args)[i]? = some z → ∃ v' m', (bnd (rBuildSlice A_int 1 [(0, .int .i64 z)]) fun v36 => memK (rAppend A_int 0 m v v36) fun v37 m1 => k_f29_2 v0 v1 v37 (.int .i64 i) m1) = some (.ret v', m') ∧ App b 1 m' v' (its (placedL made args)) ∧ Keeps b m m' := by
      intro z hz
      have es : rBuildSlice A_int 1 [(0, .int .i64 z)] = some (.sl .full [.int .i64 z]) := rfl
      have htl : (its ((placedL made args).take i)).length ≤ 1000000 := by simp; omega
      obtain ⟨v', m', p1, p2, p3, _⟩ := App.append (A := A_int) (b := b) (m := m) (w := .sl .full [.int .i64 z]) (ys := [.int .i64 z]) hA hb (.sl _ _) rfl ⟨by decide, rfl⟩ (by rw [hb8]; simp only [List.length_cons, List.length_nil]; omega) (by simp only [List.length_cons, List.length_nil]; omega)
      have e : its ((placedL made args).take i) ++ [.int .i64 z] = its ((placedL made args).take (i + 1)) := by
        rw [List.take_add_one, hz]; simp
      rw [e] at p2
      obtain ⟨v'', m'', q1, q2, q3⟩ := ih (i + 1) m' v' (by omega) (by omega) (by have := p3.next; omega) p2
      refine ⟨v'', m'', ?_, q2, p3.trans q3⟩
      rw [es, bnd_some, p1, memK_some, k_f29_2_eq]
      simp only [aBin_add, bnd_some]
      rw [wrap64 (by omega) (by omega), ← q1]
      rfl
    rw [l_f29_0_eq, h0.len, bnd_some, List.length_map]
    simp only [aBin_lss, bnd_some]
    rw [decide_eq_true (by omega), onBool_true, k_f29_1_eq]
    simp only [hix, bnd_some, rLoad_pimc, List.getElem?_cons_zero, aBin_geq, k_f29_3_eq, h1.len, nts_len, aBin_lss]
    by_cases c1 : 0 ≤ args[i]
    · rw [decide_eq_true c1, onWant_true]
      by_cases c2 : args[i] < made.length
      · rw [decide_eq_true c2, onBool_true]
        rw [if_pos ⟨c1, c2⟩] at hget
        obtain ⟨n, hn⟩ := Int.eq_ofNat_of_zero_le c1
        have hnl : n < made.length := by omega
        have hix1 : rIxAddrSl 1 v1 (.int .i64 args[i]) = some (.pim [.int .i64 (made[n] : Nat)]) := by rw [hn]; exact h1.ix (nts_get hnl) rfl rfl
        simp only [hix1, bnd_some, rLoad_pimc, List.getElem?_cons_zero]
        rw [hn] at hget
        simp only [Int.toNat_natCast, List.getElem?_eq_getElem hnl, Option.getD_some] at hget
        exact next _ hget
      · rw [decide_eq_false c2, onBool_false]
        rw [if_neg fun h => c2 h.2] at hget
        exact next _ hget
    · rw [decide_eq_false c1, onWant_false, onBool_false]
      rw [if_neg fun h => c1 h.1] at hget
      exact next _ hget
theorem placed_s {v0 v1 : AV} {args : List Int} {made : List Nat} (h0 : HSl v0 (its args)) (h1 : HSl v1 (nts made)) (hl : args.length ≤ 1000000) (m : Mem) : ∃ v' m', w_f29 v0 v1 m = some (.ret v', m') ∧ App m.next 1 m' v' (its (placedL made args)) ∧ Kept m m' := by
  obtain ⟨v', m', h2, h3, h4⟩ := placed_loop h0 h1 hl m.next _ 0 m (.sl .full []) rfl (Nat.zero_le _) (Nat.le_refl _) (.full [] rfl)
  have es : rBuildSlice A_int 0 [] = some (.sl .full []) := rfl
  have h2' : l_f29_0 v0 v1 (.sl .full []) (.int .i64 0) m = _ := h2
  exact ⟨v', m', by rw [e_f29, es, bnd_some, h2'], h3, h4⟩
theorem pair_s {v : AV} {l : List Int} (h : HSl v (its l)) (m : Mem) : w_f46 v m = some (.ret (.tup [.int .i64 (pairL l).1, .int .i64 (pairL l).2]), m) := by
  rw [e_f46, h.len, bnd_some, List.length_map, aBin_lss, bnd_some]
  match l, h with
  | [], h => rw [decide_eq_true (by simp), onBool_true]; rfl
  | [a], h => rw [decide_eq_true (by simp), onBool_true]; rfl
  | a :: b :: l, h =>
    have i0 : rIxAddrSl 1 v (.int .i64 0) = some (.pim [.int .i64 a]) := h.ix (n := 0) (x := .int .i64 a) (by simp) rfl rfl
    have i1 : rIxAddrSl 1 v (.int .i64 1) = some (.pim [.int .i64 b]) := h.ix (n := 1) (x := .int .i64 b) (by simp) rfl rfl
    rw [decide_eq_false (by simp; omega), onBool_false, k_f46_0_eq]
    simp only [i0, i1, bnd_some, rLoad_pimc, List.getElem?_cons_zero]
    rfl
inductive OpL : List AV → List Op13 → Prop
  | nil : OpL [] []
  | cons {o : Op13} {w : AV} {vs : List AV} {os : List Op13} : HSl w (its o.args) → OpL vs os → OpL (.agg [.int .i64 o.what, .str (bs o.name), w] :: vs) (o :: os)
theorem OpL.len {vs : List AV} {os : List Op13} (h : OpL vs os) : vs.length = os.length := by
  induction h with
  | nil => rfl
  | cons _ _ ih => simp [ih]
theorem OpL.get {vs : List AV} {os : List Op13} (h : OpL vs os) : ∀ {i : Nat} (hi : i < os.length), ∃ w, vs[i]? = some (.agg [.int .i64 os[i].what, .str (bs os[i].name), w]) ∧ HSl w (its os[i].args) := by
  induction h with
  | nil => intro i hi; simp at hi
  | cons hw _ ih =>
    intro i hi
    cases i with
    | zero => exact ⟨_, rfl, hw⟩
    | succ i => exact ih (by simpa using hi)
theorem OpL.take {vs : List AV} {os : List Op13} (h : OpL vs os) : ∀ n, OpL (vs.take n) (os.take n) := by
  induction h with
  | nil => intro n; simp; exact .nil
  | cons hw _ ih =>
    intro n
    cases n with
    | zero => exact .nil
    | succ n => exact .cons hw (ih n)
theorem cut13_s {v : AV} {vs : List AV} {os : List Op13} (h : HSl v vs) (ho : OpL vs os) (m : Mem) : ∃ v' vs', w_f18 v m = some (.ret v', m) ∧ HSl v' vs' ∧ OpL vs' (os.take 60) := by
  have hl := ho.len
  rw [e_f18, h.len, bnd_some, aBin_gtr, bnd_some]
  by_cases c : (60 : Int) < vs.length
  · rw [decide_eq_true c, onBool_true]
    obtain ⟨v', s1, s2⟩ := h.slice_hi (size := 3) (n := 60) (k := .i64) (by omega)
    have s1' : rSliceSl 3 v none (some (.int .i64 60)) = some v' := s1
    rw [s1', bnd_some]
    exact ⟨v', _, rfl, s2, ho.take 60⟩
  · rw [decide_eq_false c, onBool_false, k_f18_0_eq]
    refine ⟨v, vs, rfl, h, ?_⟩
    rw [List.take_of_length_le (by omega)]
    exact ho
theorem aBin_quo16 (n : Nat) : aBin X.T .quo T_int false true (.int .i64 n) (.int .i64 16) = some (.int .i64 (IntKind.i64.wrap ((n / 16 : Nat) : Int))) := by
  have : ((n : Int).tdiv 16) = ((n / 16 : Nat) : Int) := by
    rw [Int.tdiv_eq_ediv_of_nonneg (by omega)]; rfl
  simp [aBin, aInt, this]
def gsum : List Op13 → Nat
  | [] => 0
  | o :: os => o.args.length + o.name.length / 16 + gsum os
theorem gsum_le {os : List Op13} {o : Op13} (h : o ∈ os) : o.args.length + o.name.length / 16 ≤ gsum os := by
  induction os with
  | nil => simp at h
  | cons a os ih =>
    rcases List.mem_cons.1 h with rfl | h
    · simp only [gsum]; omega
    · have := ih h
      simp only [gsum]; omega
theorem great_loop13 {v : AV} {vs : List AV} {os : List Op13} (h : HSl v vs) (ho : OpL vs os) (hs : ∀ o ∈ os, o.args.length ≤ 140737488355328 ∧ o.name.length ≤ 140737488355328) (hl : os.length ≤ 60) (m : Mem) : ∀ (k i n : Nat), os.length - i = k → i ≤ os.length → n ≤ i * 300000000000000 →
    l_f19_0 v (.int .i64 n) (.int .i64 i) m = some (.ret (.bool (decide (500 < n + gsum (os.drop i)))), m) := by
  intro k
  induction k with
  | zero =>
    intro i n hk hi hn
    have : i = os.length := by omega
    subst this
    have hvl := ho.len
    rw [l_f19_0_eq, h.len, bnd_some, hvl]
    simp only [aBin_lss, bnd_some, Int.lt_irrefl, decide_false, onBool_false, k_f19_0_eq, aBin_gtr]
    have e0 : gsum (os.drop os.length) = 0 := by rw [List.drop_length]; rfl
    have e1 : decide ((500 : Int) < n) = decide (500 < n + gsum (os.drop os.length)) := by rw [e0]; exact decide_eq_decide.2 (by omega)
    rw [e1]
  | succ k ih =>
    intro i n hk hi hn
    have hlt : i < os.length := by omega
    have hvl := ho.len
    obtain ⟨w, g1, g2⟩ := ho.get hlt
    obtain ⟨s1, s2⟩ := hs _ (List.getElem_mem hlt)
    have hix : rIxAddrSl 3 v (.int .i64 i) = some (.pim [.int .i64 os[i].what, .str (bs os[i].name), w]) := h.ix g1 rfl rfl
    have hd : os.drop i = os[i] :: os.drop (i + 1) := List.drop_eq_getElem_cons hlt
    have l2 : rLoad false 1 m (.pim [w]) = some w := rfl
    have l1 : rLoad false 1 m (.pim [.str (bs os[i].name), w]) = some (.str (bs os[i].name)) := rfl
    have hsum : IntKind.i64.wrap ((n : Int) + IntKind.i64.wrap (((its os[i].args).length : Int) + IntKind.i64.wrap ((os[i].name.length / 16 : Nat) : Int))) = ((n + (os[i].args.length + os[i].name.length / 16) : Nat) : Int) := by
      rw [List.length_map]
      have hz : os[i].name.length / 16 ≤ 140737488355328 := by omega
      generalize os[i].name.length / 16 = z at hz ⊢
      rw [wrap64 (n := (z : Int)) (by omega) (by omega), wrap64 (n := (os[i].args.length : Int) + z) (by omega) (by omega), wrap64 (by omega) (by omega)]
      omega
    rw [l_f19_0_eq, h.len, bnd_some, hvl, aBin_lss, bnd_some, decide_eq_true (by omega), onBool_true, k_f19_1_eq]
    simp only [hix, bnd_some, rFieldAddr_pim, List.drop_succ_cons, List.drop_zero, l2, l1, g2.len, rLenStr_bs, aBin_quo16, aBin_add, hsum, k_f19_2_eq]
    rw [wrap64 (by omega) (by omega)]
    have := ih (i + 1) (n + (os[i].args.length + os[i].name.length / 16)) (by omega) (by omega) (by omega)
    rw [show ((i : Int) + 1) = ((i + 1 : Nat) : Int) by omega, this, hd]
    simp only [gsum]
    congr 5
    rw [Nat.add_assoc]
theorem great_s {v : AV} {vs : List AV} {os : List Op13} (h : HSl v vs) (ho : OpL vs os) (hs : ∀ o ∈ os, o.args.length ≤ 140737488355328 ∧ o.name.length ≤ 140737488355328) (hl : os.length ≤ 60) (m : Mem) : w_f19 v m = some (.ret (.bool (decide (500 < gsum os))), m) := by
  have := great_loop13 h ho hs hl m _ 0 0 rfl (Nat.zero_le _) (by omega)
  rw [e_f19]
  have h' : l_f19_0 v (.int .i64 0) (.int .i64 0) m = _ := this
  rw [h', List.drop_zero, Nat.zero_add]
def SameOne (u : Fo) : Prop := ∀ (x y : AV) (m : Mem), TyL u [x] → TyL u [y] → ∃ m', w_f32 x y m = some (.ret (.bool true), m') ∧ Kept m m'
/-- the call at two of the same head: the loop over their arguments is left -/
theorem same_head {k z : Int} {nm : List UInt8} {wx wy : AV} {xs ys : List AV} (hx : HSl wx xs) (hy : HSl wy ys) (hl : xs.length = ys.length) (m : Mem) : ∃ m2, w_f32 (.agg [.int .i64 k, .int .i64 z, .str (bs nm), wx]) (.agg [.int .i64 k, .int .i64 z, .str (bs nm), wy]) m = l_f32_0 (.ptr m.next 0 0) (.ptr (m.next + 1) 0 0) (.int .i64 0) m2 ∧ Kept m m2 ∧ m2.next = m.next + 2 ∧
    m2.obj m.next = some (.row [.int .i64 k, .int .i64 z, .str (bs nm), wx] 0) ∧ m2.obj (m.next + 1) = some (.row [.int .i64 k, .int .i64 z, .str (bs nm), wy] 0) := by
  generalize hm2 : (m.alloc (.row [.int .i64 k, .int .i64 z, .str (bs nm), wx] 0)).alloc (.row [.int .i64 k, .int .i64 z, .str (bs nm), wy] 0) = m2
  have e1 : aBox m (.agg [.int .i64 k, .int .i64 z, .str (bs nm), wx]) = some (.ptr m.next 0 0, m.alloc (.row [.int .i64 k, .int .i64 z, .str (bs nm), wx] 0)) := rfl
  have e2 : aBox (m.alloc (.row [.int .i64 k, .int .i64 z, .str (bs nm), wx] 0)) (.agg [.int .i64 k, .int .i64 z, .str (bs nm), wy]) = some (.ptr (m.next + 1) 0 0, m2) := by rw [← hm2]; rfl
  have n2 : m2.next = m.next + 2 := by rw [← hm2]; simp
  have k2 : Kept m m2 := by rw [← hm2]; exact (Kept.alloc m _).trans (Kept.alloc _ _)
  have o1 : m2.obj m.next = some (.row [.int .i64 k, .int .i64 z, .str (bs nm), wx] 0) := by rw [← hm2]; simp only [alloc_obj, alloc_next]; rw [if_neg (by omega), if_pos trivial]
  have o2 : m2.obj (m.next + 1) = some (.row [.int .i64 k, .int .i64 z, .str (bs nm), wy] 0) := by rw [← hm2]; simp
  refine ⟨m2, ?_, k2, n2, o1, o2⟩
  rw [e_f32, e1, memK_some, e2, memK_some]
  simp only [rFieldAddr_ptr, bnd_some, (row4 o1).1, (row4 o1).2.1, (row4 o1).2.2.1, (row4 o1).2.2.2.1, (row4 o2).1, (row4 o2).2.1, (row4 o2).2.2.1, (row4 o2).2.2.2.1, aBin_neq, aBin_strneq, ne_eq, not_true_eq_false, decide_false, onWant_false, hx.len, hy.len, hl, k_f32_1_eq, onBool_false, k_f32_0_eq]
theorem same_var (n : Nat) : SameOne (.v n .nil) := by
  intro x y m hx hy
  cases hx
  cases hy
  obtain ⟨m2, a1, a2, a3, a4, a5⟩ := same_head (k := 1) (z := n) (nm := []) .nil .nil rfl m
  refine ⟨m2, ?_, a2⟩
  rw [a1, l_f32_0_eq]
  have hz : rLenSl .nils = some (.int .i64 0) := rfl
  simp only [rFieldAddr_ptr, bnd_some, (row4 a4).2.2.2.1, hz, aBin_lss, Int.lt_irrefl, decide_false, onBool_false, k_f32_2_eq]
theorem stys_loop (u : Fo) : ∀ (b2 b3 : Nat) (k z : Int) (nm : List UInt8) (wx wy : AV) (allx ally : List AV) (i : Nat) (xs ys : List AV) (m : Mem), u.nar → HSl wx allx → HSl wy ally → allx.length = ally.length → allx.length ≤ 1000000 → allx.drop i = xs → ally.drop i = ys → TyL u xs → TyL u ys → m.obj b2 = some (.row [.int .i64 k, .int .i64 z, .str (bs nm), wx] 0) → m.obj b3 = some (.row [.int .i64 k, .int .i64 z, .str (bs nm), wy] 0) → b2 < m.next → b3 < m.next →
    ∃ m', l_f32_0 (.ptr b2 0 0) (.ptr b3 0 0) (.int .i64 i) m = some (.ret (.bool true), m') ∧ Kept m m' := by
  have step : ∀ (b2 b3 : Nat) (k z : Int) (nm : List UInt8) (wx wy : AV) (allx ally : List AV) (i : Nat) (x y : AV) (xs ys : List AV) (m : Mem) (u1 : Fo), SameOne u1 → TyL u1 [x] → TyL u1 [y] → HSl wx allx → HSl wy ally → allx.length = ally.length → allx.length ≤ 1000000 → allx.drop i = x :: xs → ally.drop i = y :: ys → m.obj b2 = some (.row [.int .i64 k, .int .i64 z, .str (bs nm), wx] 0) → m.obj b3 = some (.row [.int .i64 k, .int .i64 z, .str (bs nm), wy] 0) →
      ∃ m', l_f32_0 (.ptr b2 0 0) (.ptr b3 0 0) (.int .i64 i) m = l_f32_0 (.ptr b2 0 0) (.ptr b3 0 0) (.int .i64 (i + 1 : Nat)) m' ∧ Kept m m' ∧ allx.drop (i + 1) = xs ∧ ally.drop (i + 1) = ys := by
    intro b2 b3 k z nm wx wy allx ally i x y xs ys m u1 h1 tx ty hx hy hl hal dx dy o2 o3
    obtain ⟨xa, xb, xc, xd, rfl⟩ := tx.one
    obtain ⟨ya, yb, yc, yd, rfl⟩ := ty.one
    have hi : i < allx.length := by
      rcases Nat.lt_or_ge i allx.length with h | h
      · exact h
      · rw [List.drop_of_length_le h] at dx; cases dx
    have gx : allx[i]? = some (.agg [xa, xb, xc, xd]) := by
      have := congrArg (fun l => l[0]?) dx
      simpa using this
    have gy : ally[i]? = some (.agg [ya, yb, yc, yd]) := by
      have := congrArg (fun l => l[0]?) dy
      simpa using this
    have ix : rIxAddrSl 4 wx (.int .i64 i) = some (.pim [xa, xb, xc, xd]) := hx.ix gx rfl rfl
    have iy : rIxAddrSl 4 wy (.int .i64 i) = some (.pim [ya, yb, yc, yd]) := hy.ix gy rfl rfl
    have lx : rLoad true 4 m (.pim [xa, xb, xc, xd]) = some (.agg [xa, xb, xc, xd]) := rfl
    have ly : rLoad true 4 m (.pim [ya, yb, yc, yd]) = some (.agg [ya, yb, yc, yd]) := rfl
    obtain ⟨m', a1, a2⟩ := h1 _ _ m tx ty
    refine ⟨m', ?_, a2, by rw [← List.drop_drop, dx]; rfl, by rw [← List.drop_drop, dy]; rfl⟩
    rw [l_f32_0_eq]
    simp only [rFieldAddr_ptr, bnd_some, (row4 o2).2.2.2.1, hx.len, aBin_lss]
    rw [decide_eq_true (by omega), onBool_true, k_f32_3_eq]
    simp only [rFieldAddr_ptr, bnd_some, (row4 o2).2.2.2.1, (row4 o3).2.2.2.1, ix, iy, lx, ly, a1, retK_ret, aUn_not, Bool.not_true, onBool_false, k_f32_4_eq, aBin_add]
    rw [wrap64 (by omega) (by omega)]
    rfl
  induction u with
  | nil =>
    intro b2 b3 k z nm wx wy allx ally i xs ys m hna hx hy hl hal dx dy tx ty o2 o3 h2 h3
    cases tx
    have hi : allx.length ≤ i := by
      have := congrArg List.length dx
      simp at this; omega
    rw [l_f32_0_eq]
    simp only [rFieldAddr_ptr, bnd_some, (row4 o2).2.2.2.1, hx.len, aBin_lss]
    rw [decide_eq_false (by omega), onBool_false, k_f32_2_eq]
    exact ⟨m, rfl, .refl ..⟩
  | v n rest ih =>
    intro b2 b3 k z nm wx wy allx ally i xs ys m hna hx hy hl hal dx dy tx ty o2 o3 h2 h3
    cases tx with
    | v tx =>
    cases ty with
    | v ty =>
    obtain ⟨m1, a1, a2, a3, a4⟩ := step b2 b3 k z nm wx wy allx ally i _ _ _ _ m (.v n .nil) (same_var n) (.v .nil) (.v .nil) hx hy hl hal dx dy o2 o3
    obtain ⟨m2, c1, c2⟩ := ih b2 b3 k z nm wx wy allx ally (i + 1) _ _ m1 hna hx hy hl hal a3 a4 tx ty ((a2.obj _ h2).trans o2) ((a2.obj _ h3).trans o3) (by have := a2.next; omega) (by have := a2.next; omega)
    exact ⟨m2, by rw [a1, c1], a2.trans c2⟩
  | c kk nn aa rest ih1 ih2 =>
    intro b2 b3 k z nm wx wy allx ally i xs ys m hna hx hy hl hal dx dy tx ty o2 o3 h2 h3
    obtain ⟨hna1, hna2, hna3⟩ := hna
    cases tx with
    | c x1 x2 x3 =>
    cases ty with
    | c y1 y2 y3 =>
    have one : SameOne (.c kk nn aa .nil) := by
      intro x y m tx ty
      cases tx with
      | c x1 x2 x3 =>
      cases ty with
      | c y1 y2 y3 =>
      cases x3
      cases y3
      have hwl : ∀ {a b : List AV}, TyL aa a → TyL aa b → a.length = b.length := fun h h' => by rw [h.wid, h'.wid]
      obtain ⟨m2, a1, a2, a3, a4, a5⟩ := same_head (k := kk) (z := 0) (nm := nn) x1 y1 (hwl x2 y2) m
      obtain ⟨m3, c1, c2⟩ := ih1 m.next (m.next + 1) kk 0 nn _ _ _ _ 0 _ _ m2 hna2 x1 y1 (hwl x2 y2) (by rw [x2.wid]; exact hna1) rfl rfl x2 y2 a4 a5 (by omega) (by omega)
      have c1' : l_f32_0 (.ptr m.next 0 0) (.ptr (m.next + 1) 0 0) (.int .i64 0) m2 = _ := c1
      exact ⟨m3, by rw [a1, c1'], a2.trans c2⟩
    obtain ⟨m1, a1, a2, a3, a4⟩ := step b2 b3 k z nm wx wy allx ally i _ _ _ _ m (.c kk nn aa .nil) one (.c x1 x2 .nil) (.c y1 y2 .nil) hx hy hl hal dx dy o2 o3
    obtain ⟨m2, c1, c2⟩ := ih2 b2 b3 k z nm wx wy allx ally (i + 1) _ _ m1 hna3 hx hy hl hal a3 a4 x3 y3 ((a2.obj _ h2).trans o2) ((a2.obj _ h3).trans o3) (by have := a2.next; omega) (by have := a2.next; omega)
    exact ⟨m2, by rw [a1, c1], a2.trans c2⟩
theorem same_one {u : Fo} (hna : u.nar) : SameOne u := by
  intro x y m tx ty
  cases tx with
  | v tx =>
    cases tx
    exact same_var _ _ _ m (.v .nil) ty
  | c x1 x2 x3 =>
    cases ty with
    | c y1 y2 y3 =>
    cases x3
    obtain ⟨hna1, hna2, hna3⟩ := hna
    have hwl : ∀ {aa : Fo} {a b : List AV}, TyL aa a → TyL aa b → a.length = b.length := fun h h' => by rw [h.wid, h'.wid]
    obtain ⟨m2, a1, a2, a3, a4, a5⟩ := same_head x1 y1 (hwl x2 y2) m
    obtain ⟨m3, c1, c2⟩ := stys_loop _ m.next (m.next + 1) _ 0 _ _ _ _ _ 0 _ _ m2 hna2 x1 y1 (hwl x2 y2) (by rw [x2.wid]; exact hna1) rfl rfl x2 y2 a4 a5 (by omega) (by omega)
    exact ⟨m3, by rw [a1]; exact c1, a2.trans c2⟩
theorem num_nar : ∀ (u : Fo) (l : List Nat), (num l u).wid = u.wid ∧ (u.nar → (num l u).nar)
  | .nil, l => ⟨rfl, fun h => h⟩
  | .v n rest, l => ⟨by simp only [num, Fo.wid]; rw [(num_nar rest _).1], fun h => (num_nar rest _).2 h⟩
  | .c k nm aa rest, l => ⟨by simp only [num, Fo.wid]; rw [(num_nar rest _).1], fun ⟨h1, h2, h3⟩ => ⟨by rw [(num_nar aa _).1]; exact h1, (num_nar aa _).2 h2, (num_nar rest _).2 h3⟩⟩
theorem sames_loop {v0 v1 : AV} {all0 all1 : List AV} (h0 : HSl v0 all0) (h1 : HSl v1 all1) (hl : all0.length = all1.length) (hal : all0.length ≤ 1000000) (u : Fo) : ∀ (i : Nat) (xs ys : List AV) (m : Mem), u.nar → all0.drop i = xs → all1.drop i = ys → TyL u xs → TyL u ys → ∃ m', l_f26_0 v0 v1 (.int .i64 i) m = some (.ret (.bool true), m') ∧ Kept m m' := by
  have step : ∀ (i : Nat) (x y : AV) (xs ys : List AV) (m : Mem) (u1 : Fo), SameOne u1 → TyL u1 [x] → TyL u1 [y] → all0.drop i = x :: xs → all1.drop i = y :: ys →
      ∃ m', l_f26_0 v0 v1 (.int .i64 i) m = l_f26_0 v0 v1 (.int .i64 (i + 1 : Nat)) m' ∧ Kept m m' ∧ all0.drop (i + 1) = xs ∧ all1.drop (i + 1) = ys := by
    intro i x y xs ys m u1 hs tx ty dx dy
    obtain ⟨xa, xb, xc, xd, rfl⟩ := tx.one
    obtain ⟨ya, yb, yc, yd, rfl⟩ := ty.one
    have hi : i < all0.length := by
      rcases Nat.lt_or_ge i all0.length with h | h
      · exact h
      · rw [List.drop_of_length_le h] at dx; cases dx
    have gx : all0[i]? = some (.agg [xa, xb, xc, xd]) := by
      have := congrArg (fun l => l[0]?) dx
      simpa using this
    have gy : all1[i]? = some (.agg [ya, yb, yc, yd]) := by
      have := congrArg (fun l => l[0]?) dy
      simpa using this
    have ix : rIxAddrSl 4 v0 (.int .i64 i) = some (.pim [xa, xb, xc, xd]) := h0.ix gx rfl rfl
    have iy : rIxAddrSl 4 v1 (.int .i64 i) = some (.pim [ya, yb, yc, yd]) := h1.ix gy rfl rfl
    have lx : rLoad true 4 m (.pim [xa, xb, xc, xd]) = some (.agg [xa, xb, xc, xd]) := rfl
    have ly : rLoad true 4 m (.pim [ya, yb, yc, yd]) = some (.agg [ya, yb, yc, yd]) := rfl
    obtain ⟨m', a1, a2⟩ := hs _ _ m tx ty
    refine ⟨m', ?_, a2, by rw [← List.drop_drop, dx]; rfl, by rw [← List.drop_drop, dy]; rfl⟩
    rw [l_f26_0_eq, h0.len, bnd_some, aBin_lss, bnd_some, decide_eq_true (by omega), onBool_true, k_f26_2_eq]
    simp only [bnd_some, ix, iy, lx, ly, a1, retK_ret, aUn_not, Bool.not_true, onBool_false, k_f26_3_eq, aBin_add]
    rw [wrap64 (by omega) (by omega)]
    rfl
  induction u with
  | nil =>
    intro i xs ys m hna dx dy tx ty
    cases tx
    have hi : all0.length ≤ i := by
      have := congrArg List.length dx
      simp at this; omega
    rw [l_f26_0_eq, h0.len, bnd_some, aBin_lss, bnd_some, decide_eq_false (by omega), onBool_false, k_f26_1_eq]
    exact ⟨m, rfl, .refl ..⟩
  | v n rest ih =>
    intro i xs ys m hna dx dy tx ty
    cases tx with
    | v tx =>
    cases ty with
    | v ty =>
    obtain ⟨m1, a1, a2, a3, a4⟩ := step i _ _ _ _ m (.v n .nil) (same_var n) (.v .nil) (.v .nil) dx dy
    obtain ⟨m2, c1, c2⟩ := ih (i + 1) _ _ m1 hna a3 a4 tx ty
    exact ⟨m2, by rw [a1, c1], a2.trans c2⟩
  | c kk nn aa rest ih1 ih2 =>
    intro i xs ys m hna dx dy tx ty
    obtain ⟨hna1, hna2, hna3⟩ := hna
    cases tx with
    | c x1 x2 x3 =>
    cases ty with
    | c y1 y2 y3 =>
    obtain ⟨m1, a1, a2, a3, a4⟩ := step i _ _ _ _ m (.c kk nn aa .nil) (same_one ⟨hna1, hna2, trivial⟩) (.c x1 x2 .nil) (.c y1 y2 .nil) dx dy
    obtain ⟨m2, c1, c2⟩ := ih2 (i + 1) _ _ m1 hna3 a3 a4 x3 y3
    exact ⟨m2, by rw [a1, c1], a2.trans c2⟩
theorem sameTypes_s {v0 v1 : AV} {xs ys : List AV} {u : Fo} (h0 : HSl v0 xs) (h1 : HSl v1 ys) (t0 : TyL u xs) (t1 : TyL u ys) (hw : u.wid ≤ 1000000) (hna : u.nar) (m : Mem) : ∃ m', w_f26 v0 v1 m = some (.ret (.bool true), m') ∧ Kept m m' := by
  have hl : xs.length = ys.length := by rw [t0.wid, t1.wid]
  obtain ⟨m', a1, a2⟩ := sames_loop h0 h1 hl (by rw [t0.wid]; exact hw) u 0 xs ys m hna rfl rfl t0 t1
  refine ⟨m', ?_, a2⟩
  have a1' : l_f26_0 v0 v1 (.int .i64 0) m = _ := a1
  rw [e_f26, h0.len, bnd_some, h1.len, bnd_some, aBin_neq, bnd_some, decide_eq_false (by simp [hl]), onBool_false, k_f26_0_eq, a1']
/-- what both Types answer is the same -/
theorem tys_same {ns ns2 : List Nd} (s : Sm ns ns2) (g : Uni.Good ns) (g2 : Uni.Good ns2) (hal : ∀ i, (argsOf ns i).length ≤ 1000000) {xs : List Nat} (hx : ∀ x ∈ xs, x < ns.length) (hl : xs.length ≤ 1000000) {e e2 : Int} {w w2 : AV} (h : TysP ns xs e w [] []) (h' : TysP ns2 xs e2 w2 [] []) (m : Mem) : e = e2 ∧ ∃ m', w_f26 w w2 m = some (.ret (.bool true), m') ∧ Kept m m' := by
  rcases h with ⟨u, ys, a1, a2, rfl, a4, a5⟩ | ⟨⟨x, hx1, t, ht, ht2⟩, rfl, rfl⟩ <;> rcases h' with ⟨u', ys', b1, b2, rfl, b4, b5⟩ | ⟨⟨x', hx1', t', ht', ht2'⟩, rfl, rfl⟩
  · refine ⟨rfl, ?_⟩
    have hn := (St.sm s g g2 hx a1 b1).1
    rw [← hn] at b5
    exact sameTypes_s a4 b4 a5 b5 (by rw [(num_nar u []).1, a1.wid]; exact hl) ((num_nar u []).2 (a1.nar hal)) m
  · exfalso
    obtain ⟨t, ht⟩ := st_fin g.lk g.av (g.fin x') (hx x' hx1')
    have h1 := a2 x' hx1' t ht
    have h2 := (St.sm s g g2 (l := [x']) (by simp; exact hx x' hx1') ht ht').2 0
    omega
  · exfalso
    obtain ⟨t', ht'⟩ := st_fin g2.lk g2.av (g2.fin x) (by rw [s.sd.len]; exact hx x hx1)
    have h1 := b2 x hx1 t' ht'
    have h2 := (St.sm s g g2 (l := [x]) (by simp; exact hx x hx1) ht ht').2 0
    omega
  · refine ⟨rfl, ?_⟩
    exact sameTypes_s (u := .nil) .nil .nil .nil .nil (by simp [Fo.wid]) trivial m
end Go.AM
namespace Go.AM
open Go Go.Proofs Uni
set_option linter.unusedSimpArgs false
set_option linter.unusedVariables false
theorem US.none {m : Mem} {p : Nat} {ns : List Nd} {tv : AV} (h : US m p none ns tv) : ns = [] := by
  obtain ⟨nv, _, h⟩ := h.ex
  cases h; rfl
theorem inB_zero (x : Int) : inB 0 x = false := by unfold inB; simp
theorem unify_any {m : Mem} {p : Nat} {o : Option Nat} {ns : List Nd} {tv : AV} (h : US m p o ns tv) {w : Nat} (f : Fine ns w) (hw : w ≤ 1000000) (hl : ns.length ≤ 1000000) (a c : Int) :
    ∃ e m' ns' tv', w_f31 (.ptr p 0 0) (.int .i64 a) (.int .i64 c) m = some (.ret (.int .i64 e), m') ∧ US m' p o ns' tv' ∧ Fr p o m m' ∧ UnR ns a c e ns' := by
  cases o with
  | some o => exact unify_s h f.g f.v hl (fun i => Nat.le_trans (f.al i) hw) a c
  | none =>
    have := h.none
    subst this
    obtain ⟨m1, t1, t2⟩ := two_there h a c
    have es : rBuildSlice A_int 2 [(0, .int .i64 a), (1, .int .i64 c)] = some (.sl .full [.int .i64 a, .int .i64 c]) := rfl
    have hI : (inB ([] : List Nd).length a && inB ([] : List Nd).length c) = false := by rw [List.length_nil, inB_zero]; rfl
    refine ⟨221, m1, [], tv, ?_, h.kept t2, t2.fr _ _, .inl ⟨hI, rfl, rfl⟩⟩
    rw [e_f31, es, bnd_some, t1, retK_ret, aUn_not, bnd_some, hI, Bool.not_false, onBool_true]
theorem alike_any {m : Mem} {p : Nat} {o : Option Nat} {ns : List Nd} {tv : AV} (h : US m p o ns tv) {w : Nat} (f : Fine ns w) (hw : w ≤ 1000000) (hl : ns.length ≤ 1000000) (a c : Int) :
    ∃ b m' tv', w_f27 (.ptr p 0 0) (.int .i64 a) (.int .i64 c) m = some (.ret (.bool b), m') ∧ US m' p o ns tv' ∧ Fr p o m m' ∧ (b = true ↔ 0 ≤ a ∧ a < ns.length ∧ 0 ≤ c ∧ c < ns.length ∧ Te ns a.toNat c.toNat) := by
  cases o with
  | some o => exact alike_s h f.g hl (fun i => Nat.le_trans (f.al i) hw) a c
  | none =>
    have := h.none
    subst this
    obtain ⟨m1, t1, t2⟩ := two_there h a c
    have es : rBuildSlice A_int 2 [(0, .int .i64 a), (1, .int .i64 c)] = some (.sl .full [.int .i64 a, .int .i64 c]) := rfl
    have hI : (inB ([] : List Nd).length a && inB ([] : List Nd).length c) = false := by rw [List.length_nil, inB_zero]; rfl
    refine ⟨false, m1, tv, ?_, h.kept t2, t2.fr _ _, fun h => (by cases h), fun ⟨h1, h2, _⟩ => by simp at h2; omega⟩
    rw [e_f27, es, bnd_some, t1, retK_ret, aUn_not, bnd_some, hI, Bool.not_false, onBool_true]
/-- both stores while a script runs -/
structure RS (B b3 b7 : Nat) (m : Mem) (p : Nat) (o : Option Nat) (tv : AV) (ns : List Nd) (o2 : Option Nat) (nb nv2 : AV) (ns2 : List Nd) (v8 : AV) (made : List Nat) : Prop where
  us : US m p o ns tv
  rv : RV m o2 nv2 ns2
  h7 : m.obj b7 = some (.row [nb] 0)
  h3 : m.obj b3 = some (.row [.nils] 0)
  A : App B 1 m v8 (nts made)
  d0 : b3 ≠ p ∧ b7 ≠ p ∧ b3 ≠ b7 ∧ B ≤ b3 ∧ B ≤ b7 ∧ B ≤ p ∧ b3 < m.next ∧ b7 < m.next ∧ B ≤ m.next
  d1 : ∀ j, o = some j → j ≠ b3 ∧ j ≠ b7 ∧ B ≤ j
  d2 : ∀ j, o2 = some j → j ≠ b3 ∧ j ≠ b7 ∧ j ≠ p ∧ o ≠ some j ∧ B ≤ j
section
variable {B b3 b7 : Nat} {m m' : Mem} {p : Nat} {o o' : Option Nat} {tv tv' : AV} {ns ns' : List Nd} {o2 o2' : Option Nat} {nb nv2 nv2' : AV} {ns2 ns2' : List Nd} {v8 v8' : AV} {made made' : List Nat}
theorem RS.kept (h : RS B b3 b7 m p o tv ns o2 nb nv2 ns2 v8 made) (k : Kept m m') : RS B b3 b7 m' p o tv ns o2 nb nv2 ns2 v8 made := by
  obtain ⟨h1, h2, h3, h4, h5, ⟨d1, d2, d3, d4, d5, d6, d7, d8, d9⟩, h7, h8⟩ := h
  have := k.next
  exact ⟨h1.kept k, h2.kept k, (k.obj _ d8).trans h3, (k.obj _ d7).trans h4, h5.kept k, ⟨d1, d2, d3, d4, d5, d6, by omega, by omega, by omega⟩, h7, h8⟩
theorem RS.prog (h : RS B b3 b7 m p o tv ns o2 nb nv2 ns2 v8 made) (hu : US m' p o' ns' tv') (k : Fr p o m m') (ho : o' = o ∨ ∃ j, o' = some j ∧ m.next ≤ j) : RS B b3 b7 m' p o' tv' ns' o2 nb nv2 ns2 v8 made ∧ Keeps B m m' := by
  obtain ⟨h1, h2, h3, h4, h5, ⟨d1, d2, d3, d4, d5, d6, d7, d8, d9⟩, h7, h8⟩ := h
  have hn := k.next
  obtain ⟨nvp, u1, _, u3, u4⟩ := h1.load
  have hne : ∀ b cs, (b = b3 ∨ b = b7) → m.obj b = some cs → m'.obj b = some cs := fun b cs hb e => by
    rw [k.obj b (by omega) (by rintro rfl; omega) (fun e' => by have := h7 b e'.symm; omega)]; exact e
  have htip : ∀ t, tipOf v8 = some t → m'.obj t = m.obj t := fun t ht => by
    obtain ⟨t1, t2, t3⟩ := h5.tips ht
    refine k.obj t t2 (fun e => ?_) (fun e => ?_)
    · rw [e, u3] at t3; cases t3
    · subst e
      cases u4 with
      | row o ver cs ns q1 q2 q3 q4 => rw [q3] at t3; cases t3
  refine ⟨⟨hu, h2.move hn fun j e => ?_, hne b7 _ (.inr rfl) h3, hne b3 _ (.inl rfl) h4, h5.tmove hn htip, ⟨d1, d2, d3, d4, d5, d6, by omega, by omega, by omega⟩, fun j e => ?_, fun j e => ?_⟩, ⟨hn, fun j hj => k.obj j (by omega) (by omega) (fun e => by have := h7 j e.symm; omega)⟩⟩
  · have := h8 j e
    exact k.obj j (h2.oo j e) this.2.2.1 (fun e' => this.2.2.2.1 e'.symm)
  · rcases ho with rfl | ⟨j', e', hj'⟩
    · exact h7 j e
    · rw [e'] at e; cases e
      refine ⟨by omega, by omega, by omega⟩
  · have := h8 j e
    refine ⟨this.1, this.2.1, this.2.2.1, ?_, this.2.2.2.2⟩
    rcases ho with rfl | ⟨j', e', hj'⟩
    · exact this.2.2.2.1
    · rw [e']; intro e2; cases e2
      have := h2.oo j e
      omega
theorem RS.ref (h : RS B b3 b7 m p o tv ns o2 nb nv2 ns2 v8 made) (hu : RV m' o2' nv2' ns2') (k : RF o2 m m') (ho : o2' = o2 ∨ ∃ j, o2' = some j ∧ m.next ≤ j) : RS B b3 b7 m' p o tv ns o2' nb nv2' ns2' v8 made ∧ Keeps B m m' := by
  obtain ⟨h1, h2, h3, h4, h5, ⟨d1, d2, d3, d4, d5, d6, d7, d8, d9⟩, h7, h8⟩ := h
  have hn := k.next
  have hne : ∀ b cs, (b = b3 ∨ b = b7) → m.obj b = some cs → m'.obj b = some cs := fun b cs hb e => by
    rw [k.obj b (by omega) (fun e' => by have := h8 b e'.symm; omega)]; exact e
  have htip : ∀ t, tipOf v8 = some t → m'.obj t = m.obj t := fun t ht => by
    obtain ⟨t1, t2, t3⟩ := h5.tips ht
    refine k.obj t t2 (fun e => ?_)
    subst e
    cases h2 with
    | row o ver cs ns q1 q2 q3 => rw [q2] at t3; cases t3
  have hp := h1.lt
  have hoo := h1.oo
  refine ⟨⟨h1.move hn (k.obj p hp (fun e => (h8 p e.symm).2.2.1 rfl)) (fun j e => k.obj j (hoo j e) (fun e' => (h8 j e'.symm).2.2.2.1 e)), hu, hne b7 _ (.inr rfl) h3, hne b3 _ (.inl rfl) h4, h5.tmove hn htip, ⟨d1, d2, d3, d4, d5, d6, by omega, by omega, by omega⟩, h7, fun j e => ?_⟩, ⟨hn, fun j hj => k.obj j (by omega) (fun e => by have := h8 j e.symm; omega)⟩⟩
  rcases ho with rfl | ⟨j', e', hj'⟩
  · exact h8 j e
  · rw [e'] at e; cases e
    refine ⟨by omega, by omega, by omega, fun e2 => by have := hoo _ e2; omega, by omega⟩
theorem RS.box (h : RS B b3 b7 m p o tv ns o2 nb nv2 ns2 v8 made) : rStore 1 m (.ptr b7 0 0) (.agg [nv2]) = some (m.set b7 (.row [nv2] 0)) ∧ RS B b3 b7 (m.set b7 (.row [nv2] 0)) p o tv ns o2 nv2 nv2 ns2 v8 made ∧ Keeps B m (m.set b7 (.row [nv2] 0)) := by
  obtain ⟨h1, h2, h3, h4, h5, ⟨d1, d2, d3, d4, d5, d6, d7, d8, d9⟩, h7, h8⟩ := h
  refine ⟨put1 h3, ⟨h1.move (by simp) (by rw [set_obj, if_neg (by omega)]) (fun j e => by rw [set_obj, if_neg (h7 j e).2.1]), h2.move (by simp) (fun j e => by rw [set_obj, if_neg (h8 j e).2.1]), by simp, by rw [set_obj, if_neg (by omega)]; exact h4, h5.tmove (by simp) (fun t ht => ?_), ⟨d1, d2, d3, d4, d5, d6, d7, d8, d9⟩, h7, h8⟩, ⟨by simp, fun j hj => by rw [set_obj, if_neg (by omega)]⟩⟩
  obtain ⟨t1, t2, t3⟩ := h5.tips ht
  rw [set_obj, if_neg]
  rintro rfl
  rw [h3] at t3; cases t3
theorem RS.more (h : RS B b3 b7 m p o tv ns o2 nb nv2 ns2 v8 made) (hA : App B 1 m' v8' (nts made')) (k : AF v8 m v8' m') : RS B b3 b7 m' p o tv ns o2 nb nv2 ns2 v8' made' ∧ Keeps B m m' := by
  obtain ⟨h1, h2, h3, h4, h5, ⟨d1, d2, d3, d4, d5, d6, d7, d8, d9⟩, h7, h8⟩ := h
  have hn := k.next
  obtain ⟨nvp, u1, _, u3, u4⟩ := h1.load
  have row : ∀ {j cs ver}, j < m.next → m.obj j = some (.row cs ver) → m'.obj j = some (.row cs ver) := fun hj e => k.row h5 hj e
  refine ⟨⟨h1.move hn (by rw [row h1.lt u3, u3]) (fun j e => ?_), h2.move hn (fun j e => ?_), row d8 h3, row d7 h4, hA, ⟨d1, d2, d3, d4, d5, d6, by omega, by omega, by omega⟩, h7, h8⟩, k.keeps h5 d9⟩
  · subst e
    cases u4 with
    | row o ver cs ns q1 q2 q3 q4 => rw [row q1 q3, q3]
  · subst e
    cases h2 with
    | row o ver cs ns q1 q2 q3 => rw [row q1 q2, q2]
end
theorem MkP.oo {ns : List Nd} {m : Mem} {p : Nat} {o : Option Nat} {tv : AV} {m' : Mem} {k : Int} {nm : List UInt8} {l : List Int} {bad : Bool} {n e : Int} {o' : Option Nat} {ns' : List Nd} (h : MkP ns m p o tv m' k nm l bad n e o' ns') : o' = o ∨ ∃ j, o' = some j ∧ m.next ≤ j := by
  obtain ⟨_, _, h1, h2, _⟩ := h
  cases o with
  | some j => exact .inl (h1 j rfl)
  | none =>
    cases o' with
    | none => exact .inl rfl
    | some j => exact .inr ⟨j, rfl, h2 rfl j rfl⟩
theorem RkP.oo {ns : List Nd} {m : Mem} {o : Option Nat} {nv : AV} {m' : Mem} {k : Int} {nm : List UInt8} {l : List Int} {bad : Bool} {n e : Int} {nv' : AV} {o' : Option Nat} {ns' : List Nd} (h : RkP ns m o nv m' k nm l bad n e nv' o' ns') : o' = o ∨ ∃ j, o' = some j ∧ m.next ≤ j := by
  obtain ⟨_, _, h1, h2, _⟩ := h
  cases o with
  | some j => exact .inl (h1 j rfl)
  | none =>
    cases o' with
    | none => exact .inl rfl
    | some j => exact .inr ⟨j, rfl, h2 rfl j rfl⟩
theorem row3 {m : Mem} {o : Nat} {x y z : AV} (h : m.obj o = some (.row [x, y, z] 0)) : rLoad false 1 m (.ptr o 0 (0 + 0)) = some x ∧ rLoad false 1 m (.ptr o 0 (0 + 1)) = some y ∧ rLoad false 1 m (.ptr o 0 (0 + 2)) = some z := by
  refine ⟨?_, ?_, ?_⟩ <;> rw [rLoad_ptr, cells_of h] <;> rfl
/-- the end of a round: the answers are compared -/
theorem run_end {B b3 b7 : Nat} {m : Mem} {p : Nat} {o : Option Nat} {tv : AV} {ns : List Nd} {o2 : Option Nat} {nv2 : AV} {ns2 : List Nd} {v8 : AV} {made : List Nat} {v0 w : AV} {i b10 : Nat} {op : Op13} {n e : Int}
    (h : RS B b3 b7 m p o tv ns o2 nv2 nv2 ns2 v8 made) (hl : ns2.length = ns.length) (hn : 0 ≤ n) (hm : made.length ≤ 60) (hi : i ≤ 60) (h10 : m.obj b10 = some (.row [.int .i64 op.what, .str (bs op.name), w] 0)) :
    ∃ v8' m', k_f20_4 v0 (.ptr b3 0 0) (.ptr p 0 0) (.ptr b7 0 0) v8 (.int .i64 i) (.ptr b10 0 0) (.int .i64 n) (.int .i64 n) (.int .i64 e) (.int .i64 e) m = l_f20_0 v0 (.ptr b3 0 0) (.ptr p 0 0) (.ptr b7 0 0) v8' (.int .i64 (i + 1 : Nat)) m' ∧ RS B b3 b7 m' p o tv ns o2 nv2 nv2 ns2 v8' (madeN op made n e) ∧ Keeps B m m' := by
  have hw : IntKind.i64.wrap ((i : Int) + 1) = ((i + 1 : Nat) : Int) := by rw [wrap64 (by omega) (by omega)]; rfl
  have eqI : ∀ x : Int, decide (x ≠ x) = false := fun x => decide_eq_false (by simp)
  rw [k_f20_4_eq]
  simp only [aBin_neq, bnd_some, eqI, onWant_false, len_s h.us, retK_ret, rFieldAddr_ptr, (row1 h.h7).2, h.rv.len, hl, sameK_self, k_f20_6_eq, onBool_false, k_f20_5_eq, aBin_eql]
  by_cases he : e = 0
  · subst he
    simp only [decide_true, onWant_true, (row3 h10).1, bnd_some, aBin_lss, k_f20_7_eq]
    by_cases hwh : op.what < 5
    · rw [decide_eq_true hwh, onBool_true]
      have es : rBuildSlice A_int 1 [(0, .int .i64 n)] = some (.sl .full [.int .i64 n]) := rfl
      have hb8 : A_int.bytes = 8 := rfl
      obtain ⟨v', m', p1, p2, p3⟩ := App.appendT (A := A_int) (b := B) (m := m) (w := .sl .full [.int .i64 n]) (ys := [.int .i64 n]) h.A h.d0.2.2.2.2.2.2.2.2 (.sl _ _) rfl ⟨by decide, rfl⟩ (by rw [hb8, nts_len]; simp only [List.length_cons, List.length_nil]; omega) (by rw [nts_len]; simp only [List.length_cons, List.length_nil]; omega)
      have hmd : nts made ++ [.int .i64 n] = nts (madeN op made n 0) := by
        unfold madeN
        rw [if_pos ⟨rfl, hwh⟩, nts_append]
        congr 1
        show [AV.int .i64 n] = [AV.int .i64 (n.toNat : Nat)]
        rw [Int.toNat_of_nonneg hn]
      rw [hmd] at p2
      obtain ⟨q1, q2⟩ := h.more p2 p3
      refine ⟨v', m', ?_, q1, q2⟩
      simp only [es, bnd_some, p1, memK_some, k_f20_3_eq, aBin_add, hw]
    · rw [decide_eq_false hwh, onBool_false]
      refine ⟨v8, m, ?_, ?_, .refl ..⟩
      · simp only [k_f20_3_eq, aBin_add, bnd_some, hw]
      · unfold madeN; rw [if_neg fun h => hwh h.2]; exact h
  · rw [decide_eq_false he, onWant_false, k_f20_7_eq, onBool_false]
    refine ⟨v8, m, ?_, ?_, .refl ..⟩
    · simp only [k_f20_3_eq, aBin_add, bnd_some, hw]
    · unfold madeN; rw [if_neg fun h => he h.1]; exact h
theorem MkR.nn {ns ns' : List Nd} {k : Int} {nm : List UInt8} {l : List Int} {bad : Bool} {n e : Int} (h : MkR ns k nm l bad n e ns') : 0 ≤ n := by
  rcases h with ⟨_, rfl, _⟩ | ⟨_, _, rfl, _⟩ | ⟨_, _, xs, _, _, rfl, _⟩ <;> omega
theorem run_loop13 {B b3 b7 : Nat} {v0 : AV} {vs : List AV} {os : List Op13} (hv : HSl v0 vs) (ho : OpL vs os) (hg : gsum os ≤ 500) (hl60 : os.length ≤ 60) : ∀ (k i : Nat) (m : Mem) (p : Nat) (o : Option Nat) (tv : AV) (ns : List Nd) (o2 : Option Nat) (nv2 : AV) (ns2 : List Nd) (v8 : AV) (made : List Nat), os.length - i = k → i ≤ os.length → RS B b3 b7 m p o tv ns o2 nv2 nv2 ns2 v8 made → Sm ns ns2 → Fine ns 500 → Fine ns2 500 → (∀ x ∈ made, x < ns.length) → ns.length ≤ i → made.length ≤ i →
    ∃ m' o' tv' ns' o2' nv2' ns2' v8' made', l_f20_0 v0 (.ptr b3 0 0) (.ptr p 0 0) (.ptr b7 0 0) v8 (.int .i64 i) m = some (.ret (.tup [.ptr p 0 0, .agg [nv2'], v8', .bool true]), m') ∧ RunR (os.drop i) ns made ns' made' ∧ US m' p o' ns' tv' ∧ RV m' o2' nv2' ns2' ∧ HSl v8' (nts made') ∧ Sm ns' ns2' ∧ Fine ns' 500 ∧ Fine ns2' 500 ∧ (∀ x ∈ made', x < ns'.length) ∧ ns'.length ≤ 60 ∧ made'.length ≤ 60 ∧ (∀ j, o2' = some j → j ≠ p ∧ o' ≠ some j ∧ B ≤ j) ∧ (∀ j, o' = some j → B ≤ j) ∧ Keeps B m m' := by
  intro k
  induction k with
  | zero =>
    intro i m p o tv ns o2 nv2 ns2 v8 made hk hi hS hsm hf hf2 hmd hnl hml
    have : i = os.length := by omega
    subst this
    have hvl := ho.len
    obtain ⟨h1, h2, h3, h4, h5, ⟨d1, d2, d3, d4, d5, d6, d7, d8, d9⟩, h7, h8⟩ := hS
    refine ⟨m.set b3 (.row [nv2] 0), o, tv, ns, o2, nv2, ns2, v8, made, ?_, by rw [List.drop_length]; exact .nil, h1.move (by simp) (by rw [set_obj, if_neg (by omega)]) (fun j e => by rw [set_obj, if_neg (h7 j e).1]), h2.move (by simp) (fun j e => by rw [set_obj, if_neg (h8 j e).1]), h5.hsl, hsm, hf, hf2, hmd, by omega, by omega, fun j e => ⟨(h8 j e).2.2.1, (h8 j e).2.2.2.1, (h8 j e).2.2.2.2⟩, fun j e => (h7 j e).2.2, ⟨by simp, fun j hj => by rw [set_obj, if_neg (by omega)]⟩⟩
    rw [l_f20_0_eq, hv.len, bnd_some, hvl]
    simp only [aBin_lss, bnd_some, Int.lt_irrefl, decide_false, onBool_false, k_f20_1_eq, (row1 h3).1, put1 h4]
    rw [(row1 (v := nv2) (by simp)).1, bnd_some]
  | succ k ih =>
    intro i m p o tv ns o2 nv2 ns2 v8 made hk hi hS hsm hf hf2 hmd hnl hml
    have hlt : i < os.length := by omega
    have hvl := ho.len
    have hd : os.drop i = os[i] :: os.drop (i + 1) := List.drop_eq_getElem_cons hlt
    obtain ⟨w, g1, g2⟩ := ho.get hlt
    have hgs := gsum_le (List.getElem_mem hlt)
    generalize hop : os[i] = op at *
    have hix : rIxAddrSl 3 v0 (.int .i64 i) = some (.pim [.int .i64 op.what, .str (bs op.name), w]) := hv.ix g1 rfl rfl
    have hld : rLoad true 3 m (.pim [.int .i64 op.what, .str (bs op.name), w]) = some (.agg [.int .i64 op.what, .str (bs op.name), w]) := rfl
    have hbx : aBox m (.agg [.int .i64 0, .str (bs []), .nils]) = some (.ptr m.next 0 0, m.alloc (.row [.int .i64 0, .str (bs []), .nils] 0)) := rfl
    generalize hm2 : (m.alloc (.row [.int .i64 0, .str (bs []), .nils] 0)).set m.next (.row [.int .i64 op.what, .str (bs op.name), w] 0) = m2
    have hst : rStore 3 (m.alloc (.row [.int .i64 0, .str (bs []), .nils] 0)) (.ptr m.next 0 0) (.agg [.int .i64 op.what, .str (bs op.name), w]) = some m2 := by
      rw [← hm2]; exact rStore_ptr (cs := [.int .i64 0, .str (bs []), .nils]) (by simp) rfl rfl rfl
    have n2 : m2.next = m.next + 1 := by rw [← hm2]; rfl
    have k2 : Kept m m2 := by rw [← hm2]; exact (Kept.alloc m _).set (Nat.le_refl _) _
    have o10 : m2.obj m.next = some (.row [.int .i64 op.what, .str (bs op.name), w] 0) := by rw [← hm2]; simp
    obtain ⟨v39, m3, a1, a2, a3⟩ := placed_s g2 hS.A.hsl (by omega) m2
    have hS3 := (hS.kept k2).kept a3
    have k3 : Kept m m3 := k2.trans a3
    have n3 := a3.next
    have o103 := (a3.obj m.next (by omega)).trans o10
    have h39 := a2.hsl
    have hpl := placedL_len made op.args
    generalize hP : placedL made op.args = pl at *
    have hpair := pair_s h39 m3
    generalize hpq : pairL pl = pq at *
    have keepB : ∀ {m' : Mem}, Keeps B m3 m' → Keeps B m m' := fun h => Keeps.trans (k3.less hS.d0.2.2.2.2.2.2.2.2) h
    -- what is left to do behind a step
    have go : ∀ (m6 : Mem) (o' : Option Nat) (tv' : AV) (ns' : List Nd) (o2' : Option Nat) (nv2' : AV) (ns2' : List Nd) (n e n2' e2' : Int), RS B b3 b7 m6 p o' tv' ns' o2' nv2' nv2' ns2' v8 made → Keeps B m3 m6 → m6.obj m.next = some (.row [.int .i64 op.what, .str (bs op.name), w] 0) → StR op ns made n e ns' → StR op ns2 made n2' e2' ns2' → 0 ≤ n →
        ∃ m' o' tv' ns' o2' nv2' ns2' v8' made', k_f20_4 v0 (.ptr b3 0 0) (.ptr p 0 0) (.ptr b7 0 0) v8 (.int .i64 i) (.ptr m.next 0 0) (.int .i64 n) (.int .i64 n2') (.int .i64 e) (.int .i64 e2') m6 = some (.ret (.tup [.ptr p 0 0, .agg [nv2'], v8', .bool true]), m') ∧ RunR (op :: os.drop (i + 1)) ns made ns' made' ∧ US m' p o' ns' tv' ∧ RV m' o2' nv2' ns2' ∧ HSl v8' (nts made') ∧ Sm ns' ns2' ∧ Fine ns' 500 ∧ Fine ns2' 500 ∧ (∀ x ∈ made', x < ns'.length) ∧ ns'.length ≤ 60 ∧ made'.length ≤ 60 ∧ (∀ j, o2' = some j → j ≠ p ∧ o' ≠ some j ∧ B ≤ j) ∧ (∀ j, o' = some j → B ≤ j) ∧ Keeps B m m' := by
      intro m6 o' tv' ns' o2' nv2' ns2' n e n2' e2' hS6 hK6 ho6 hst1 hst2 hn0
      obtain ⟨rfl, rfl, hsm'⟩ := hst1.same hst2 hsm hf.g hf2.g
      obtain ⟨q1, q2, q3, q4⟩ := hst1.fine hf (by omega) (by omega) hmd
      obtain ⟨q5, _⟩ := hst2.fine hf2 (by omega) (by omega) (fun x hx => by rw [hsm.sd.len]; exact hmd x hx)
      obtain ⟨v8', m7, r1, r2, r3⟩ := run_end (v0 := v0) (i := i) (e := e) hS6 hsm'.sd.len hn0 (by omega) (by omega) ho6
      have hmdl : (madeN op made n e).length ≤ i + 1 := by
        unfold madeN
        split
        · rw [List.length_append]; simp only [List.length_cons, List.length_nil]; omega
        · omega
      obtain ⟨m8, o8, tv8, ns8, o28, nv28, ns28, v88, made8, s1, s2, s3⟩ := ih (i + 1) m7 p o' tv' ns' o2' nv2' ns2' v8' (madeN op made n e) (by omega) (by omega) r2 hsm' q1 q5 q4 (by omega) hmdl
      obtain ⟨s4, s5, s6, s7, s8, s9, s10, s11, s12, s13, s14, s15⟩ := s3
      exact ⟨m8, o8, tv8, ns8, o28, nv28, ns28, v88, made8, by rw [r1, s1], .step hst1 s2, s4, s5, s6, s7, s8, s9, s10, s11, s12, s13, s14, (keepB hK6).trans (r3.trans s15)⟩
    have lo := hS3.us.lt
    have b10ne : m.next ≠ p := by have := hS.us.lt; omega
    have b10o : ∀ j, o = some j → j ≠ m.next := fun j e => by have := hS.us.oo j e; omega
    have b10o2 : ∀ j, o2 = some j → j ≠ m.next := fun j e => by have := hS.rv.oo j e; omega
    have b10b7 : b7 ≠ m.next := by have := hS.d0; omega
    rw [l_f20_0_eq, hv.len, bnd_some, hvl]
    simp only [aBin_lss, bnd_some]
    rw [decide_eq_true (by omega), onBool_true, k_f20_2_eq, hix, bnd_some, hld, bnd_some, hbx, memK_some, hst, bnd_some]
    simp only [rFieldAddr_ptr, bnd_some]
    rw [(row3 o10).2.2, bnd_some, a1, retK_ret, hpair, retK_ret]
    simp only [aExtract_tup, List.getElem?_cons_zero, List.getElem?_cons_succ, bnd_some]
    rw [(row3 o103).1, bnd_some, aBin_eql, bnd_some]
    rw [hd]
    have hfr : ∀ {m' : Mem}, Fr p o m3 m' → m'.obj m.next = some (.row [.int .i64 op.what, .str (bs op.name), w] 0) := fun h => by
      rw [h.obj m.next (by omega) b10ne (fun e => b10o _ e.symm rfl)]; exact o103
    have hns : ns.length ≤ 1000000 := by omega
    have hns2 : ns2.length ≤ 1000000 := by rw [hsm.sd.len]; omega
    -- Make of the document, behind the program's step
    have mk : ∀ (m5 : Mem) (o' : Option Nat) (ns' : List Nd) (kk : Int) (nm : List UInt8) (v : AV) (l : List Int) (n e : Int), RS B b3 b7 m5 p o' tv ns' o2 nv2 nv2 ns2 v8 made → Keeps B m3 m5 → m5.obj m.next = some (.row [.int .i64 op.what, .str (bs op.name), w] 0) → m.next < m5.next → nm.length ≤ 1000000000 → HSl v (its l) → l.length ≤ 1000000 →
        (∀ n2' e2' ns2', MkR ns2 kk nm l ((decide (kk = 2) && decide (Lx.kindS nm ≠ 1)) || (decide (kk = 3) && decide (l.length < 2))) n2' e2' ns2' → StR op ns2 made n2' e2' ns2') → StR op ns made n e ns' → 0 ≤ n →
        ∃ m7 nv2' n2' e2', w_f48 (.agg [nv2]) (.int .i64 kk) (.str (bs nm)) v m5 = some (.ret (.tup [.agg [nv2'], .int .i64 n2', .int .i64 e2']), m7) ∧ ∃ m8, rStore 1 m7 (.ptr b7 0 0) (.agg [nv2']) = some m8 ∧ ∃ m' o' tv' ns' o2' nv2' ns2' v8' made', k_f20_4 v0 (.ptr b3 0 0) (.ptr p 0 0) (.ptr b7 0 0) v8 (.int .i64 i) (.ptr m.next 0 0) (.int .i64 n) (.int .i64 n2') (.int .i64 e) (.int .i64 e2') m8 = some (.ret (.tup [.ptr p 0 0, .agg [nv2'], v8', .bool true]), m') ∧ RunR (op :: os.drop (i + 1)) ns made ns' made' ∧ US m' p o' ns' tv' ∧ RV m' o2' nv2' ns2' ∧ HSl v8' (nts made') ∧ Sm ns' ns2' ∧ Fine ns' 500 ∧ Fine ns2' 500 ∧ (∀ x ∈ made', x < ns'.length) ∧ ns'.length ≤ 60 ∧ made'.length ≤ 60 ∧ (∀ j, o2' = some j → j ≠ p ∧ o' ≠ some j ∧ B ≤ j) ∧ (∀ j, o' = some j → B ≤ j) ∧ Keeps B m m' := by
      intro m5 o' ns' kk nm v l n e hS5 hK5 ho5 hlt5 hnm hvl' hll hst2 hst1 hn0
      obtain ⟨n2', e2', m7, nv2', o2', ns2', c1, c2⟩ := rmake_s hS5.rv hns2 kk nm hnm hvl' hll
      have c2r := c2.r
      have c2o := c2.oo
      obtain ⟨c3, c4, _⟩ := c2
      obtain ⟨hS7, hK7⟩ := hS5.ref c3 c4 c2o
      obtain ⟨x1, x2, x3⟩ := hS7.box
      have ho7 : m7.obj m.next = some (.row [.int .i64 op.what, .str (bs op.name), w] 0) := by
        rw [c4.obj m.next hlt5 (fun e => b10o2 _ e.symm rfl)]; exact ho5
      exact ⟨m7, nv2', n2', e2', c1, _, x1, go _ o' tv ns' o2' nv2' ns2' n e n2' e2' x2 (hK5.trans (hK7.trans x3)) (by rw [set_obj, if_neg (Ne.symm b10b7)]; exact ho7) hst1 (hst2 _ _ _ c2r) hn0⟩
    by_cases w1 : op.what = 1
    · rw [decide_eq_true w1, onBool_true]
      obtain ⟨o', m5, u1, u2, u3, u4, u5⟩ := var_s hS3.us hns
      have huo : some o' = o ∨ ∃ j, some o' = some j ∧ m3.next ≤ j := by
        cases o with
        | none => exact .inr ⟨o', rfl, u4 rfl⟩
        | some j => exact .inl (by rw [u5 j rfl])
      obtain ⟨hS5, hK5⟩ := hS3.prog u2 u3 huo
      have n5 := u3.next
      obtain ⟨nv2', o2', m6, r1, r2, r3, r4, r5⟩ := rvar_s hS5.rv hns2
      have hro : some o2' = o2 ∨ ∃ j, some o2' = some j ∧ m5.next ≤ j := by
        cases o2 with
        | none => exact .inr ⟨o2', rfl, r4 rfl⟩
        | some j => exact .inl (by rw [r5 j rfl])
      obtain ⟨hS6, hK6⟩ := hS5.ref r2 r3 hro
      obtain ⟨x1, x2, x3⟩ := hS6.box
      have ho6 : m6.obj m.next = some (.row [.int .i64 op.what, .str (bs op.name), w] 0) := by
        rw [r3.obj m.next (by omega) (fun e => b10o2 _ e.symm rfl)]; exact hfr u3
      have st1 : StR op ns made (ns.length : Nat) 0 (addN ns 1 [] []) := .inl ⟨w1, .inr (.inr ⟨rfl, rfl, [], rfl, by simp, rfl, rfl, rfl⟩)⟩
      have st2 : StR op ns2 made (ns2.length : Nat) 0 (addN ns2 1 [] []) := .inl ⟨w1, .inr (.inr ⟨rfl, rfl, [], rfl, by simp, rfl, rfl, rfl⟩)⟩
      have := go _ (some o') tv _ (some o2') nv2' _ _ 0 _ 0 x2 (hK5.trans (hK6.trans x3)) (by rw [set_obj, if_neg (Ne.symm b10b7)]; exact ho6) st1 st2 (by omega)
      rw [u1, retK_ret, (row1 hS5.h7).1, bnd_some, r1, retK_ret]
      simp only [aExtract_tup, List.getElem?_cons_zero, List.getElem?_cons_succ, bnd_some]
      rw [x1, bnd_some]
      exact this
    rw [decide_eq_false w1, onBool_false, aBin_eql, bnd_some]
    by_cases w2 : op.what = 2
    · rw [decide_eq_true w2, onBool_true]
      obtain ⟨v63, m4, c1, c2, c3⟩ := copyInts_s (l := pl) h39 (by omega) m3
      have hS4 := hS3.kept c3
      have n4 := c3.next
      have o104 := (c3.obj m.next (by omega)).trans o103
      obtain ⟨n, e, m5, o', ns', u1, u2⟩ := Con_s hS4.us hns op.name (by omega) c2.hsl (by omega)
      have u2r := u2.r
      have u2o := u2.oo
      obtain ⟨u3, u4, _⟩ := u2
      obtain ⟨hS5, hK5⟩ := hS4.prog u3 u4 u2o
      have n5 := u4.next
      have o105 : m5.obj m.next = some (.row [.int .i64 op.what, .str (bs op.name), w] 0) := by
        rw [u4.obj m.next (by omega) b10ne (fun e => b10o _ e.symm rfl)]; exact o104
      have st1 : StR op ns made n e ns' := .inr (.inl ⟨w2, by rw [hP]; exact u2r⟩)
      obtain ⟨m7, nv2', n2', e2', y1, m8, y2, y3⟩ := mk m5 o' ns' 2 op.name v39 pl n e hS5 (Keeps.trans (c3.less (by have := hS3.d0; omega)) hK5) o105 (by omega) (by omega) h39 (by omega) (fun n2' e2' ns2' h => .inr (.inl ⟨w2, by rw [hP]; simpa using h⟩)) st1 u2r.nn
      simp only [rFieldAddr_ptr, bnd_some, (row3 o103).2.1, c1, retK_ret, u1, aExtract_tup, List.getElem?_cons_zero, List.getElem?_cons_succ, (row3 o104).2.1, sameK_self, (row1 hS5.h7).1, (row3 o105).2.1, y1, y2]
      exact y3
    rw [decide_eq_false w2, onBool_false, aBin_eql, bnd_some]
    by_cases w3 : op.what = 3
    · rw [decide_eq_true w3, onBool_true]
      obtain ⟨v63, m4, c1, c2, c3⟩ := copyInts_s (l := pl) h39 (by omega) m3
      have hS4 := hS3.kept c3
      have n4 := c3.next
      have o104 := (c3.obj m.next (by omega)).trans o103
      obtain ⟨n, e, m5, o', ns', u1, u2⟩ := Pair_s hS4.us hns c2.hsl (by omega)
      have u2r := u2.r
      have u2o := u2.oo
      obtain ⟨u3, u4, _⟩ := u2
      obtain ⟨hS5, hK5⟩ := hS4.prog u3 u4 u2o
      have n5 := u4.next
      have o105 : m5.obj m.next = some (.row [.int .i64 op.what, .str (bs op.name), w] 0) := by
        rw [u4.obj m.next (by omega) b10ne (fun e => b10o _ e.symm rfl)]; exact o104
      have st1 : StR op ns made n e ns' := .inr (.inr (.inl ⟨w3, by rw [hP]; exact u2r⟩))
      obtain ⟨m7, nv2', n2', e2', y1, m8, y2, y3⟩ := mk m5 o' ns' 3 [] v39 pl n e hS5 (Keeps.trans (c3.less (by have := hS3.d0; omega)) hK5) o105 (by omega) (by simp) h39 (by omega) (fun n2' e2' ns2' h => .inr (.inr (.inl ⟨w3, by rw [hP]; simpa using h⟩))) st1 u2r.nn
      simp only [c1, retK_ret, u1, bnd_some, aExtract_tup, List.getElem?_cons_zero, List.getElem?_cons_succ, (row1 hS5.h7).1, y1, y2]
      exact y3
    rw [decide_eq_false w3, onBool_false, aBin_eql, bnd_some]
    by_cases w4 : op.what = 4
    · rw [decide_eq_true w4, onBool_true]
      obtain ⟨n, e, m5, o', ns', u1, u2⟩ := Arrow_s hS3.us hns pq.1 pq.2
      have u2r := u2.r
      have u2o := u2.oo
      obtain ⟨u3, u4, _⟩ := u2
      obtain ⟨hS5, hK5⟩ := hS3.prog u3 u4 u2o
      have n5 := u4.next
      have st1 : StR op ns made n e ns' := .inr (.inr (.inr (.inl ⟨w4, by rw [hP, hpq]; exact u2r⟩)))
      have es : rBuildSlice A_int 2 [(0, .int .i64 pq.1), (1, .int .i64 pq.2)] = some (.sl .full [.int .i64 pq.1, .int .i64 pq.2]) := rfl
      obtain ⟨m7, nv2', n2', e2', y1, m8, y2, y3⟩ := mk m5 o' ns' 4 [] (.sl .full [.int .i64 pq.1, .int .i64 pq.2]) [pq.1, pq.2] n e hS5 hK5 (hfr u4) (by omega) (by simp) (.sl _ _) (by simp) (fun n2' e2' ns2' h => .inr (.inr (.inr (.inl ⟨w4, by rw [hP, hpq]; simpa using h⟩)))) st1 u2r.nn
      simp only [u1, retK_ret, bnd_some, aExtract_tup, List.getElem?_cons_zero, List.getElem?_cons_succ, (row1 hS5.h7).1, es, y1, y2]
      exact y3
    rw [decide_eq_false w4, onBool_false, aBin_eql, bnd_some]
    by_cases w5 : op.what = 5
    · rw [decide_eq_true w5, onBool_true]
      obtain ⟨e, m5, ns', tv', u1, u2, u3, u4⟩ := unify_any hS3.us hf (by omega) hns pq.1 pq.2
      obtain ⟨hS5, hK5⟩ := hS3.prog u2 u3 (.inl rfl)
      have n5 := u3.next
      obtain ⟨e2, nv2', o2', ns2', m6, r1, r2, r3, r4, r5⟩ := runify_s hS5.rv hf2.g hf2.v hns2 (fun i => by have := hf2.al i; omega) pq.1 pq.2
      obtain ⟨hS6, hK6⟩ := hS5.ref r2 (r3.rf _) r4
      obtain ⟨x1, x2, x3⟩ := hS6.box
      have ho6 : m6.obj m.next = some (.row [.int .i64 op.what, .str (bs op.name), w] 0) := by
        rw [r3.obj m.next (by omega)]; exact hfr u3
      have st1 : StR op ns made 0 e ns' := .inr (.inr (.inr (.inr ⟨w5, rfl, by rw [hP, hpq]; exact u4⟩)))
      have st2 : StR op ns2 made 0 e2 ns2' := .inr (.inr (.inr (.inr ⟨w5, rfl, by rw [hP, hpq]; exact r5⟩)))
      have := go _ o tv' _ o2' nv2' _ 0 e 0 e2 x2 (hK5.trans (hK6.trans x3)) (by rw [set_obj, if_neg (Ne.symm b10b7)]; exact ho6) st1 st2 (by omega)
      simp only [u1, retK_ret, bnd_some, (row1 hS5.h7).1, r1, aExtract_tup, List.getElem?_cons_zero, List.getElem?_cons_succ, x1]
      exact this
    rw [decide_eq_false w5, onBool_false, k_f20_3_eq]
    simp only [aBin_add, bnd_some]
    rw [wrap64 (by omega) (by omega)]
    obtain ⟨m8, o8, tv8, ns8, o28, nv28, ns28, v88, made8, s1, s2, s3⟩ := ih (i + 1) m3 p o tv ns o2 nv2 ns2 v8 made (by omega) (by omega) hS3 hsm hf hf2 hmd (by omega) (by omega)
    obtain ⟨s4, s5, s6, s7, s8, s9, s10, s11, s12, s13, s14, s15⟩ := s3
    exact ⟨m8, o8, tv8, ns8, o28, nv28, ns28, v88, made8, s1, .skip (by omega) s2, s4, s5, s6, s7, s8, s9, s10, s11, s12, s13, s14, keepB s15⟩
/-- A RUN: both stores go on alike; everything below stays. -/
theorem run13_s {v0 : AV} {vs : List AV} {os : List Op13} (hv : HSl v0 vs) (ho : OpL vs os) (hg : gsum os ≤ 500) (hl60 : os.length ≤ 60) (m : Mem) :
    ∃ m' p o' tv' ns' o2' nv2' ns2' v8' made', w_f20 v0 m = some (.ret (.tup [.ptr p 0 0, .agg [nv2'], v8', .bool true]), m') ∧ RunR os [] [] ns' made' ∧ US m' p o' ns' tv' ∧ RV m' o2' nv2' ns2' ∧ HSl v8' (nts made') ∧ Sm ns' ns2' ∧ Fine ns' 500 ∧ Fine ns2' 500 ∧ (∀ x ∈ made', x < ns'.length) ∧ ns'.length ≤ 60 ∧ made'.length ≤ 60 ∧ (∀ j, o2' = some j → j ≠ p ∧ o' ≠ some j ∧ m.next ≤ j) ∧ (∀ j, o' = some j → m.next ≤ j) ∧ Kept m m' ∧ m.next ≤ p := by
  have k1 : Kept m (m.alloc (.row [.nils] 0)) := Kept.alloc m _
  have o3 : (m.alloc (.row [.nils] 0)).obj m.next = some (.row [.nils] 0) := by simp
  obtain ⟨p, m2, a1, a2, a3, a4⟩ := new_s (m.alloc (.row [.nils] 0))
  have n2 := a3.next
  have n1 : (m.alloc (.row [.nils] 0)).next = m.next + 1 := rfl
  have eb : rBuild [.nils] [] = some (.agg [.nils]) := rfl
  have k23 : Kept m2 (m2.alloc (.row [.nils] 0)) := Kept.alloc m2 _
  have o7 : (m2.alloc (.row [.nils] 0)).obj m2.next = some (.row [.nils] 0) := by simp
  have s4 := put1 (w := .nils) o7
  generalize hm4 : (m2.alloc (.row [.nils] 0)).set m2.next (.row [.nils] 0) = m4 at s4
  have n4 : m4.next = m2.next + 1 := by rw [← hm4]; rfl
  have k24 : Kept m2 m4 := by rw [← hm4]; exact k23.set (Nat.le_refl _) _
  have o74 : m4.obj m2.next = some (.row [.nils] 0) := by rw [← hm4]; simp
  have o34 : m4.obj m.next = some (.row [.nils] 0) := by rw [k24.obj _ (by omega), a3.obj _ (by omega)]; exact o3
  have hplt := a2.lt
  have fine0 : Fine [] 500 := ⟨good_nil, vn_nil, fun i => by simp [argsOf]⟩
  have hnp : aBin X.T .eql T_Pt_unify_Store false true (.ptr p 0 0) .nilp = some (.bool false) := by kernel_rfl
  have es : rBuildSlice A_int 0 [] = some (.sl .full []) := rfl
  have hS : RS m.next m.next m2.next m4 p none .nils [] none .nils .nils [] (.sl .full []) [] :=
    ⟨a2.kept k24, .nil, o74, o34, .full [] rfl, ⟨by omega, by omega, by omega, by omega, by omega, by omega, by omega, by omega, by omega⟩, (fun j e => nomatch e), (fun j e => nomatch e)⟩
  obtain ⟨m', o', tv', ns', o2', nv2', ns2', v8', made', q1, q2, q3, q4, q5, q6, q7, q8, q9, q10, q11, q12, q13, q14⟩ := run_loop13 hv ho hg hl60 _ 0 m4 p none .nils [] none .nils [] (.sl .full []) [] rfl (Nat.zero_le _) hS (.refl _) fine0 fine0 (by simp) (by simp) (by simp)
  rw [List.drop_zero] at q2
  have q1' : l_f20_0 v0 (.ptr m.next 0 0) (.ptr p 0 0) (.ptr m2.next 0 0) (.sl .full []) (.int .i64 0) m4 = _ := q1
  have kk : Kept m m4 := (k1.trans a3).trans k24
  refine ⟨m', p, o', tv', ns', o2', nv2', ns2', v8', made', ?_, q2, q3, q4, q5, q6, q7, q8, q9, q10, q11, q12, q13, Keeps.trans kk q14, by omega⟩
  rw [e_f20, box1, memK_some, a1, retK_ret, eb, bnd_some, box1, memK_some, s4, bnd_some, es, bnd_some, hnp, bnd_some, onBool_false, k_f20_0_eq, q1']
end Go.AM
namespace Go.AM
open Go Go.Proofs
theorem alive_run : (aCall X 60 F_f17 [] Mem.zero).map (fun p => p.1) = some (.ret (.bool true)) := by kernel_rfl
end Go.AM
namespace Uni
section
variable {ns : List Nd} {k : Int} {nm : List UInt8} {args : List Nat}
end
theorem Fin.mono {ns : List Nd} {E F : Nat → Nat → Prop} (h : ∀ {i j}, F i j → E i j) {x : Nat} (f : Fin ns E x) : Fin ns F x := by
  induction f with
  | mk _ ih => exact .mk fun y z h1 h2 => ih y z (h h1) h2
/-- the pairs of pairs -/
def gs : Nat → List Nd
  | 0 => addN (addN [] 1 [] []) 1 [] []
  | i + 1 => addN (addN (gs i) 3 [] [2 * i, 2 * i]) 3 [] [2 * i + 1, 2 * i + 1]
def sz : Nat → Nat
  | 0 => 1
  | i + 1 => min (2 * sz i + 1) 301
end Uni
namespace Go.AM
open Go Go.Proofs Uni
set_option linter.unusedSimpArgs false
set_option linter.unusedVariables false
theorem alive_s : ∃ m', w_f17 Mem.zero = some (.ret (.bool true), m') := by
  have h := alive_run
  cases hc : aCall X 60 F_f17 [] Mem.zero with
  | none => rw [hc] at h; cases h
  | some r =>
    rw [hc] at h
    obtain ⟨r1, r2⟩ := r
    cases h
    exact ⟨r2, aW_of hc⟩
end Go.AM
namespace Go.AM
open Go Go.Proofs Uni
set_option linter.unusedSimpArgs false
set_option linter.unusedVariables false
/-- both stores -/
structure Bt (m : Mem) (p : Nat) (o : Option Nat) (tv : AV) (ns : List Nd) (o2 : Option Nat) (nv2 : AV) (ns2 : List Nd) : Prop where
  us : US m p o ns tv
  rv : RV m o2 nv2 ns2
  dj : ∀ j, o2 = some j → j ≠ p ∧ o ≠ some j
  sm : Sm ns ns2
  f : Fine ns 500
  f2 : Fine ns2 500
  l : ns.length ≤ 60
section
variable {m m' : Mem} {p : Nat} {o : Option Nat} {tv tv' : AV} {ns : List Nd} {o2 : Option Nat} {nv2 : AV} {ns2 : List Nd}
theorem Bt.kept (h : Bt m p o tv ns o2 nv2 ns2) (k : Kept m m') : Bt m' p o tv ns o2 nv2 ns2 := ⟨h.us.kept k, h.rv.kept k, h.dj, h.sm, h.f, h.f2, h.l⟩
theorem Bt.prog (h : Bt m p o tv ns o2 nv2 ns2) (hu : US m' p o ns tv') (k : Fr p o m m') : Bt m' p o tv' ns o2 nv2 ns2 :=
  ⟨hu, h.rv.move k.next (fun j e => k.obj j (h.rv.oo j e) (h.dj j e).1 (fun e' => (h.dj j e).2 e'.symm)), h.dj, h.sm, h.f, h.f2, h.l⟩
theorem Bt.l2 (h : Bt m p o tv ns o2 nv2 ns2) : ns2.length = ns.length := h.sm.sd.len
theorem Bt.al (h : Bt m p o tv ns o2 nv2 ns2) : ∀ i, (argsOf ns i).length ≤ 1000000 := fun i => by have := h.f.al i; omega
theorem Bt.al2 (h : Bt m p o tv ns o2 nv2 ns2) : ∀ i, (argsOf ns2 i).length ≤ 1000000 := fun i => by have := h.f2.al i; omega
/-- both sizes -/
theorem Bt.size (h : Bt m p o tv ns o2 nv2 ns2) (x : Int) : ∃ n m1 m2, w_f21 (.ptr p 0 0) (.int .i64 x) m = some (.ret (.int .i64 (n : Nat)), m1) ∧ w_f22 (.agg [nv2]) (.int .i64 x) m1 = some (.ret (.int .i64 (n : Nat)), m2) ∧ Kept m m1 ∧ Kept m1 m2 ∧ (0 < n → inB ns.length x = true) := by
  obtain ⟨n, m1, a1, a2, a3⟩ := Size_s h.us h.f.g h.f.v h.al x
  obtain ⟨n2, m2, b1, b2, b3⟩ := rSize_s (h.kept a2).rv h.f2.g h.f2.v (by rw [h.l2]; have := h.l; omega) h.al2 x
  have e : n2 = n := by
    rw [h.l2] at b3
    rcases a3 with ⟨a3, rfl⟩ | ⟨a3, t, ht, rfl⟩ <;> rcases b3 with ⟨b3, rfl⟩ | ⟨b3, t2, ht2, rfl⟩
    · rfl
    · rw [a3] at b3; cases b3
    · rw [a3] at b3; cases b3
    · unfold inB at a3
      simp only [decide_eq_true_eq] at a3
      exact ((St.sm h.sm h.f.g h.f2.g (l := [x.toNat]) (by simp; omega) ht ht2).2 0).symm
  subst e
  refine ⟨n2, m1, m2, a1, b1, a2, b2, fun hp => ?_⟩
  rcases a3 with ⟨_, rfl⟩ | ⟨a3, _⟩
  · omega
  · exact a3
/-- both types, and that they are the same -/
theorem Bt.types (h : Bt m p o tv ns o2 nv2 ns2) {v v' : AV} {l : List Int} (hv : HSl v (its l)) (hv' : HSl v' (its l)) (hl : l.length ≤ 1000000) :
    ∃ w w2 e m1 m2 m3, w_f23 (.ptr p 0 0) v m = some (.ret (.tup [w, .int .i64 e]), m1) ∧ w_f25 (.agg [nv2]) v' m1 = some (.ret (.tup [w2, .int .i64 e]), m2) ∧ w_f26 w w2 m2 = some (.ret (.bool true), m3) ∧ Kept m m1 ∧ Kept m1 m2 ∧ Kept m2 m3 := by
  obtain ⟨w, e, m1, a1, a2, a3⟩ := Types_s h.us h.f.g h.f.v h.al hv hl
  obtain ⟨w2, e2, m2, b1, b2, b3⟩ := rTypes_s (h.kept a2).rv h.f2.g h.f2.v (by rw [h.l2]; have := h.l; omega) h.al2 hv' hl
  rw [h.l2] at b3
  rcases a3 with ⟨a3, rfl, rfl⟩ | ⟨a3, xs, hxs, hlt, a4⟩ <;> rcases b3 with ⟨b3, rfl, rfl⟩ | ⟨b3, ys, hys, hlt2, b4⟩
  · obtain ⟨m3, c1, c2⟩ := sameTypes_s (u := .nil) .nil .nil .nil .nil (by simp [Fo.wid]) trivial m2
    exact ⟨.nils, .nils, 221, m1, m2, m3, a1, b1, c1, a2, b2, c2⟩
  · rw [a3] at b3; cases b3
  · rw [a3] at b3; cases b3
  · have : ys = xs := by
      rw [hxs] at hys
      exact ((List.map_inj_right (fun a b h => by omega)).1 hys).symm
    subst this
    have hyl : ys.length = l.length := by rw [hxs]; simp
    obtain ⟨rfl, m3, c1, c2⟩ := tys_same h.sm h.f.g h.f2.g h.al hlt (by omega) a4 b4 m2
    exact ⟨w, w2, e, m1, m2, m3, a1, b1, c1, a2, b2, c2⟩
end
/-- a box with the document's store -/
theorem boxed (m : Mem) (nv : AV) : ∃ m2, aBox m (.agg [.nils]) = some (.ptr m.next 0 0, m.alloc (.row [.nils] 0)) ∧ rStore 1 (m.alloc (.row [.nils] 0)) (.ptr m.next 0 0) (.agg [nv]) = some m2 ∧ m2.obj m.next = some (.row [nv] 0) ∧ m2.next = m.next + 1 ∧ Kept m m2 := by
  have o : (m.alloc (.row [.nils] 0)).obj m.next = some (.row [.nils] 0) := by simp
  exact ⟨_, rfl, put1 o, by simp, rfl, (Kept.alloc m _).set (Nat.le_refl _) _⟩
/-- the laws' beginning: a script's run -/
theorem law_run {v : AV} {vs : List AV} {os : List Op13} (hv : HSl v vs) (ho : OpL vs os) (hs : ∀ o ∈ os, o.args.length ≤ 140737488355328 ∧ o.name.length ≤ 140737488355328) (m : Mem) : ∃ v' vs', w_f18 v m = some (.ret v', m) ∧ w_f19 v' m = some (.ret (.bool (decide (500 < gsum (os.take 60)))), m) ∧ HSl v' vs' ∧ OpL vs' (os.take 60) := by
  obtain ⟨v', vs', a1, a2, a3⟩ := cut13_s hv ho m
  refine ⟨v', vs', a1, great_s a2 a3 (fun o h => hs o (List.mem_of_mem_take h)) (by simp; omega) m, a2, a3⟩
theorem law_box {v : AV} {vs : List AV} {os : List Op13} (hv : HSl v vs) (ho : OpL vs os) (hg : gsum os ≤ 500) (hl : os.length ≤ 60) (m : Mem) :
    ∃ m1 m3 p o tv ns o2 nv2 ns2 v8 made, w_f20 v m = some (.ret (.tup [.ptr p 0 0, .agg [nv2], v8, .bool true]), m1) ∧ aBox m1 (.agg [.nils]) = some (.ptr m1.next 0 0, m1.alloc (.row [.nils] 0)) ∧ rStore 1 (m1.alloc (.row [.nils] 0)) (.ptr m1.next 0 0) (.agg [nv2]) = some m3 ∧
      RunR os [] [] ns made ∧ Bt m3 p o tv ns o2 nv2 ns2 ∧ HSl v8 (nts made) ∧ (∀ x ∈ made, x < ns.length) ∧ made.length ≤ 60 ∧ m3.obj m1.next = some (.row [nv2] 0) ∧ m1.next < m3.next ∧ p < m1.next ∧ (∀ j, o = some j → j < m1.next) ∧ (∀ j, o2 = some j → j < m1.next) ∧ m.next ≤ p ∧ (∀ j, o = some j → m.next ≤ j) ∧ Kept m m3 := by
  obtain ⟨m1, p, o, tv, ns, o2, nv2, ns2, v8, made, q1, q2, q3, q4, q5, q6, q7, q8, q9, q10, q11, q12, q13, q14, q15⟩ := run13_s hv ho hg hl m
  obtain ⟨m3, b1, b2, b3, b4, b5⟩ := boxed m1 nv2
  exact ⟨m1, m3, p, o, tv, ns, o2, nv2, ns2, v8, made, q1, b1, b2, q2, ⟨q3.kept b5, q4.kept b5, fun j e => ⟨(q12 j e).1, (q12 j e).2.1⟩, q6, q7, q8, q10⟩, q5, q9, q11, b3, by omega, q3.lt, q3.oo, q4.oo, q15, q13, Keeps.trans q14 (b5.less q14.next)⟩
end Go.AM
namespace Uni
def Fo.cnt : Fo → Nat
  | .nil => 0
  | .v _ rest => rest.cnt + 1
  | .c _ _ aa rest => aa.cnt + rest.cnt + 1
theorem St.part {ns : List Nd} {l : List Nat} {u : Fo} (h : St ns l u) : ∀ z ∈ l, ∃ t, St ns [z] t ∧ t.cnt ≤ u.cnt := by
  induction h with
  | nil => simp
  | v h1 h2 _ ih =>
    intro z hz
    rcases List.mem_cons.1 hz with rfl | hz
    · exact ⟨_, .v h1 h2 .nil, by simp [Fo.cnt]⟩
    · obtain ⟨t, a, b⟩ := ih z hz
      exact ⟨t, a, by simp only [Fo.cnt]; omega⟩
  | c h1 h2 h3 _ _ ih =>
    intro z hz
    rcases List.mem_cons.1 hz with rfl | hz
    · exact ⟨_, .c h1 h2 h3 .nil, by simp only [Fo.cnt]; omega⟩
    · obtain ⟨t, a, b⟩ := ih z hz
      exact ⟨t, a, by simp only [Fo.cnt]; omega⟩
end Uni
namespace Go.AM
open Go Go.Proofs Uni
set_option linter.unusedSimpArgs false
set_option linter.unusedVariables false
theorem UnP.mono {ns ns' : List Nd} {a c : Nat} {e : Int} (h : UnP ns a c e ns') {i j : Nat} (hs : Sim ns i j) : Sim ns' i j := by
  obtain ⟨ok, ns1, hw, h⟩ := h
  rcases h with ⟨_, _, rfl⟩ | ⟨_, _, _, rfl⟩ | ⟨_, _, _, rfl⟩
  · exact hs
  · exact hs
  · exact hw.mono hs
theorem UnP.zero {ns ns' : List Nd} {a c : Nat} {e : Int} (h : UnP ns a c e ns') (he : e = 0) : Sim ns' a c := by
  obtain ⟨ok, ns1, hw, h⟩ := h
  rcases h with ⟨_, rfl, _⟩ | ⟨_, _, rfl, _⟩ | ⟨rfl, _, _, rfl⟩
  · cases he
  · cases he
  · exact hw.does rfl (a, c) (by simp)
theorem UnP.not {ns ns' : List Nd} {a c : Nat} {e : Int} (h : UnP ns a c e ns') (he : e ≠ 0) : ns' = ns := by
  obtain ⟨ok, ns1, hw, h⟩ := h
  rcases h with ⟨_, _, rfl⟩ | ⟨_, _, _, rfl⟩ | ⟨_, _, rfl, _⟩
  · rfl
  · rfl
  · exact absurd rfl he
theorem UnP.kinds {ns ns' : List Nd} {a c : Nat} {e : Int} (h : UnP ns a c e ns') : e = 0 ∨ e = 131 ∨ e = 130 := by
  obtain ⟨ok, ns1, hw, h⟩ := h
  rcases h with ⟨_, rfl, _⟩ | ⟨_, _, rfl, _⟩ | ⟨_, _, rfl, _⟩ <;> simp
theorem sim_te {ns : List Nd} (g : Uni.Good ns) {i j : Nat} (h : Sim ns i j) (hi : i < ns.length) : Te ns i j := by
  obtain ⟨t, ht⟩ := st_fin g.lk g.av (g.fin i) hi
  exact ⟨t, ht, ht.alike h⟩
theorem UnR.in {ns ns' : List Nd} {a c : Nat} {e : Int} (h : UnR ns (a : Nat) (c : Nat) e ns') (ha : a < ns.length) (hc : c < ns.length) : UnP ns a c e ns' := by
  rcases h with ⟨h, _⟩ | ⟨_, h⟩
  · unfold inB at h
    rw [decide_eq_true ⟨by omega, by omega⟩, decide_eq_true ⟨by omega, by omega⟩] at h
    cases h
  · simpa using h
theorem unifyChain_plain {v : AV} {vs : List AV} {os : List Op13} (hv : HSl v vs) (ho : OpL vs os) (hs : ∀ o ∈ os, o.args.length ≤ 140737488355328 ∧ o.name.length ≤ 140737488355328) (a b c : Int) : ∃ m', w_f8 v (.int .i64 a) (.int .i64 b) (.int .i64 c) Mem.zero = some (.ret (.bool true), m') := by
  obtain ⟨m1, h1⟩ := alive_s
  obtain ⟨v', vs', a1, a2, a3, a4⟩ := law_run hv ho hs m1
  rw [e_f8, h1, retK_ret, aUn_not, bnd_some, Bool.not_true, onBool_false, k_f8_0_eq, a1, retK_ret, a2, retK_ret]
  by_cases hg : 500 < gsum (os.take 60)
  · rw [decide_eq_true hg, onBool_true]; exact ⟨_, rfl⟩
  rw [decide_eq_false hg, onBool_false, k_f8_1_eq]
  obtain ⟨m2, m3, p, o, tv, ns, o2, nv2, ns2, v8, made, b1, b2, b3, b4, b5, b6, b7, b8, b9, b10, b11, b12, b13, b14, b15, b16⟩ := law_box a3 a4 (by omega) (by simp; omega) m1
  rw [b1, retK_ret]
  simp only [aExtract_tup, List.getElem?_cons_zero, List.getElem?_cons_succ, bnd_some]
  rw [b2, memK_some, b3, bnd_some, aUn_not, bnd_some, Bool.not_true, onBool_false, k_f8_2_eq]
  simp only [aBin_lss, aBin_geq, bnd_some, b6.len, nts_len, k_f8_4_eq, onBool_true]
  by_cases c1 : a < 0
  · rw [decide_eq_true c1, onWant_true]; exact ⟨_, rfl⟩
  rw [decide_eq_false c1, onWant_false]
  by_cases c2 : b < 0
  · rw [decide_eq_true c2, onWant_true]; exact ⟨_, rfl⟩
  rw [decide_eq_false c2, onWant_false]
  by_cases c3 : c < 0
  · rw [decide_eq_true c3, onWant_true]; exact ⟨_, rfl⟩
  rw [decide_eq_false c3, onWant_false]
  by_cases c4 : (made.length : Int) ≤ a
  · rw [decide_eq_true c4, onWant_true]; exact ⟨_, rfl⟩
  rw [decide_eq_false c4, onWant_false]
  by_cases c5 : (made.length : Int) ≤ b
  · rw [decide_eq_true c5, onWant_true]; exact ⟨_, rfl⟩
  rw [decide_eq_false c5, onWant_false]
  by_cases c6 : (made.length : Int) ≤ c
  · rw [decide_eq_true c6, onBool_true]; exact ⟨_, rfl⟩
  rw [decide_eq_false c6, onBool_false, k_f8_3_eq]
  obtain ⟨a, rfl⟩ := Int.eq_ofNat_of_zero_le (Int.not_lt.1 c1)
  obtain ⟨b, rfl⟩ := Int.eq_ofNat_of_zero_le (Int.not_lt.1 c2)
  obtain ⟨c, rfl⟩ := Int.eq_ofNat_of_zero_le (Int.not_lt.1 c3)
  have la : a < made.length := by omega
  have lb : b < made.length := by omega
  have lc : c < made.length := by omega
  have ixa : rIxAddrSl 1 v8 (.int .i64 a) = some (.pim [.int .i64 (made[a] : Nat)]) := b6.ix (nts_get la) rfl rfl
  have ixb : rIxAddrSl 1 v8 (.int .i64 b) = some (.pim [.int .i64 (made[b] : Nat)]) := b6.ix (nts_get lb) rfl rfl
  have ixc : rIxAddrSl 1 v8 (.int .i64 c) = some (.pim [.int .i64 (made[c] : Nat)]) := b6.ix (nts_get lc) rfl rfl
  have ha := b7 _ (List.getElem_mem la)
  have hb := b7 _ (List.getElem_mem lb)
  have hc := b7 _ (List.getElem_mem lc)
  generalize made[a] = x at *
  generalize made[b] = y at *
  generalize made[c] = z at *
  obtain ⟨e, m4, ns', tv', d1, d2, d3, d4⟩ := unify_any b5.us b5.f (by omega) (by have := b5.l; omega) x y
  have d4 := d4.in ha hb
  obtain ⟨f4, l4⟩ := d4.fine b5.f
  simp only [ixa, ixb, bnd_some, rLoad_pimc, List.getElem?_cons_zero, d1, retK_ret, aBin_neq]
  by_cases he : e = 0
  · rw [decide_eq_false (by simp [he]), onBool_false, k_f8_5_eq]
    obtain ⟨e2, m5, ns'', tv'', g1, g2, g3, g4⟩ := unify_any d2 f4 (by omega) (by have := b5.l; omega) y z
    have g4 := g4.in (by omega) (by omega)
    obtain ⟨f5, l5⟩ := g4.fine f4
    have sxy : Sim ns'' x y := g4.mono (d4.zero he)
    have al : ∀ (m : Mem) (tv : AV) (i j : Nat), US m p o ns'' tv → i < ns''.length → j < ns''.length → Sim ns'' i j → ∃ m' tv', w_f27 (.ptr p 0 0) (.int .i64 i) (.int .i64 j) m = some (.ret (.bool true), m') ∧ US m' p o ns'' tv' := by
      intro m tv i j hu hi hj hij
      obtain ⟨q, m', tv', r1, r2, r3, r4⟩ := alike_any hu f5 (by omega) (by have := b5.l; omega) i j
      have : q = true := r4.2 ⟨by omega, by omega, by omega, by omega, by simpa using sim_te f5.g hij hi⟩
      subst this
      exact ⟨m', tv', r1, r2⟩
    obtain ⟨m6, tv6, r1, r2⟩ := al m5 tv'' x y g2 (by omega) (by omega) sxy
    obtain ⟨m7, tv7, r3, r4⟩ := al m6 tv6 y x r2 (by omega) (by omega) sxy.symm
    simp only [ixa, ixb, ixc, bnd_some, rLoad_pimc, List.getElem?_cons_zero, g1, retK_ret, r1, aUn_not, Bool.not_true, onWant_false, r3, k_f8_7_eq, onBool_false, k_f8_6_eq, aBin_neq]
    by_cases he2 : e2 = 0
    · rw [decide_eq_false (by simp [he2]), onWant_false]
      obtain ⟨m8, tv8, r5, r6⟩ := al m7 tv7 x z r4 (by omega) (by omega) (sxy.trans (g4.zero he2))
      simp only [r5, retK_ret]
      exact ⟨_, rfl⟩
    · rw [decide_eq_true he2, onWant_true]; exact ⟨_, rfl⟩
  · rw [decide_eq_true he, onBool_true]; exact ⟨_, rfl⟩
/-- two stores of the program -/
structure Tw (m : Mem) (p : Nat) (o : Option Nat) (tv : AV) (ns : List Nd) (p' : Nat) (o' : Option Nat) (tv' : AV) (ns' : List Nd) : Prop where
  u : US m p o ns tv
  u' : US m p' o' ns' tv'
  d1 : p ≠ p'
  d2 : o' ≠ some p
  d3 : o ≠ some p'
  d4 : ∀ j, o = some j → o' ≠ some j
section
variable {m m1 : Mem} {p : Nat} {o : Option Nat} {tv tv1 : AV} {ns ns1 : List Nd} {p' : Nat} {o' : Option Nat} {tv' : AV} {ns' : List Nd}
theorem Tw.kept (h : Tw m p o tv ns p' o' tv' ns') (k : Kept m m1) : Tw m1 p o tv ns p' o' tv' ns' := ⟨h.u.kept k, h.u'.kept k, h.d1, h.d2, h.d3, h.d4⟩
theorem Tw.first (h : Tw m p o tv ns p' o' tv' ns') (hu : US m1 p o ns1 tv1) (k : Fr p o m m1) : Tw m1 p o tv1 ns1 p' o' tv' ns' :=
  ⟨hu, h.u'.move k.next (k.obj p' h.u'.lt h.d1.symm (fun e => h.d3 e.symm)) (fun j e => k.obj j (h.u'.oo j e) (fun e' => h.d2 (by rw [e, e'])) (fun e' => h.d4 j e'.symm e)), h.d1, h.d2, h.d3, h.d4⟩
end
end Go.AM
