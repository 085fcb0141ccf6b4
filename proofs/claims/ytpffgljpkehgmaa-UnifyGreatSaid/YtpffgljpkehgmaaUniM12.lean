/-
  The program's store over the machine: Types, Pair, Arrow, Con.
-/
import Derived.Test.YtpffgljpkehgmaaUniM7
import Derived.Test.YtpffgljpkehgmaaLexSpec
import Derived.Test.YtpffgljpkehgmaaUniAl
namespace Go.AM
open Go Go.Proofs Uni
set_option linter.unusedSimpArgs false
set_option linter.unusedVariables false
theorem KM.move {ns : List Nd} {m m' : Mem} {q : Nat} (h : KM ns m q) (e : m'.obj q = m.obj q) : KM ns m' q := by
  obtain ⟨es, h1, h2⟩ := h.ex
  exact ⟨es, e.trans h1, h2⟩
theorem VM.move {m m' : Mem} {q : Nat} {l : List Nat} (h : VM m q l) (e : m'.obj q = m.obj q) : VM m' q l := by
  obtain ⟨es, h1, h2⟩ := h.ex
  exact ⟨es, e.trans h1, h2⟩
theorem nts_of {n : Nat} : ∀ {l : List Int}, l.all (inB n) = true → ∃ xs : List Nat, its l = nts xs ∧ (∀ x ∈ xs, x < n) ∧ l = xs.map (fun x : Nat => (x : Int))
  | [], _ => ⟨[], rfl, by simp, rfl⟩
  | a :: l, h => by
    simp only [List.all_cons, Bool.and_eq_true, inB, decide_eq_true_eq] at h
    obtain ⟨⟨h1, h2⟩, h3⟩ := h
    obtain ⟨xs, e1, e2, e3⟩ := nts_of h3
    obtain ⟨a, rfl⟩ := Int.eq_ofNat_of_zero_le h1
    refine ⟨a :: xs, ?_, fun x hx => ?_, ?_⟩
    · show _ :: its l = _ :: nts xs
      rw [e1]
    · rcases List.mem_cons.1 hx with rfl | hx
      · omega
      · exact e2 x hx
    · rw [e3]; rfl
/-- what Types answers -/
def TysP (ns : List Nd) (xs : List Nat) (e : Int) (w : AV) (l0 : List Nat) (pre : List AV) : Prop :=
  (∃ u ys, St ns xs u ∧ (∀ x ∈ xs, ∀ t, St ns [x] t → fsz 0 t ≤ 300) ∧ e = 0 ∧ HSl w (pre ++ ys) ∧ TyL (num l0 u) ys) ∨ ((∃ x ∈ xs, ∃ t, St ns [x] t ∧ 300 < fsz 0 t) ∧ e = 120 ∧ w = .nils)
theorem types_loop {p : Nat} {o : Option Nat} {ns : List Nd} {tv : AV} {q1 q2 b : Nat} (hq1 : q1 ≠ p) (hq1o : some q1 ≠ o) (hq2 : q2 ≠ p) (hq2o : some q2 ≠ o) (hqq : q1 ≠ q2) (g : Uni.Good ns) (hv : Vn ns) (hal : ∀ i, (argsOf ns i).length ≤ 1000000)
    {v : AV} {xs : List Nat} (hx : HSl v (nts xs)) (hlt : ∀ x ∈ xs, x < ns.length) (hl : xs.length ≤ 1000000) (hpb : p < b) (hob : ∀ o', o = some o' → o' < b) (hb1 : q1 < b) (hb2 : q2 < b) :
    ∀ (j i : Nat) (m : Mem) (l2 : List Nat) (w : AV) (ys : List AV), xs.length - i = j → i ≤ xs.length → US m p o ns tv → KM ns m q1 → VM m q2 l2 → b ≤ m.next → App b 4 m w ys → ys.length = i →
      ∃ w' e m', l_unify_Store_Types_0 (.ptr p 0 0) (.map q1) (.map q2) w v (.int .i64 xs.length) (.int .i64 i) m = some (.ret (.tup [w', .int .i64 e]), m') ∧ (m.next ≤ m'.next ∧ ∀ j', j' < b → j' ≠ q1 → j' ≠ q2 → m'.obj j' = m.obj j') ∧ TysP ns (xs.drop i) e w' l2 ys := by
  intro j
  induction j with
  | zero =>
    intro i m l2 w ys hj hi hu hK hV hb hA hy
    have : i = xs.length := by omega
    subst this
    rw [l_unify_Store_Types_0_eq]
    simp only [aBin_lss, bnd_some, Int.lt_irrefl, decide_false, onBool_false, k_unify_Store_Types_1_eq]
    refine ⟨w, 0, m, rfl, ⟨Nat.le_refl _, fun _ _ _ _ => rfl⟩, .inl ⟨.nil, [], by rw [List.drop_length]; exact .nil, by simp, rfl, by simpa using hA.hsl, .nil⟩⟩
  | succ j ihj =>
    intro i m l2 w ys hj hi hu hK hV hb hA hy
    have hilt : i < xs.length := by omega
    have hd : xs.drop i = xs[i] :: xs.drop (i + 1) := List.drop_eq_getElem_cons hilt
    have hxlt := hlt _ (List.getElem_mem hilt)
    have hix : rIxAddrSl 1 v (.int .i64 i) = some (.pim [.int .i64 (xs[i] : Nat)]) := hx.ix (x := .int .i64 (xs[i] : Nat)) (by simp [nts, hilt]) rfl rfl
    obtain ⟨t, ht⟩ := st_fin g.lk g.av (g.fin xs[i]) hxlt
    obtain ⟨m1, s1, s2, s3⟩ := size_s hq1 hq1o g hv hal (g.fin xs[i]) m t hu hK ht
    rw [l_unify_Store_Types_0_eq]
    simp only [aBin_lss, bnd_some]
    rw [decide_eq_true (by omega), onBool_true, k_unify_Store_Types_2_eq, hix, bnd_some, rLoad_pimc, List.getElem?_cons_zero, bnd_some, s1, retK_ret, aBin_gtr, bnd_some]
    by_cases hs : 300 < fsz 0 t
    · rw [decide_eq_true (by omega), onBool_true]
      exact ⟨.nils, 120, m1, rfl, ⟨by have := s3.next; omega, fun j' _ h1 _ => s3.obj j' h1⟩, .inr ⟨⟨xs[i], by rw [hd]; exact List.mem_cons_self .., t, ht, hs⟩, rfl, rfl⟩⟩
    · rw [decide_eq_false (by omega), onBool_false, k_unify_Store_Types_4_eq]
      have hu1 := hu.on s3 hq1 hq1o
      obtain ⟨vv, m2, c1, c2, c3, c4⟩ := typ_s hq2 hq2o g hal (g.fin xs[i]) m1 t l2 hu1 (hV.move (s3.obj q2 (Ne.symm hqq))) (by have := s3.next; omega) ht
      obtain ⟨va, vb, vc, vd, rfl⟩ := c2.one
      have n1 := s3.next
      have n2 := c4.next
      have hA2 : App b 4 m2 w ys := (hA.move (by omega) fun j' j1 j2 => s3.obj j' (by omega)).move n2 fun j' j1 j2 => c4.obj j' j2 (by omega)
      have hbytes : A_api_Type.bytes = 56 := rfl
      obtain ⟨w5, m5, p1, p2, p3, _⟩ := App.append (A := A_api_Type) (b := b) (m := m2) (v := w) (w := .sl .full [.agg [va, vb, vc, vd]]) (xs := ys) (ys := [.agg [va, vb, vc, vd]]) hA2 (by omega) (.sl _ _) rfl ⟨by decide, rfl⟩ (by rw [hbytes]; simp only [List.length_cons, List.length_nil]; omega) (by simp only [List.length_cons, List.length_nil]; omega)
      have p2' : App b 4 m5 w5 (ys ++ [.agg [va, vb, vc, vd]]) := p2
      have n5 := p3.next
      have hu5 : US m5 p o ns tv := ((hu1.onK c4 hq2 hq2o)).move n5 (p3.obj p hpb) fun o' e => p3.obj o' (hob o' e)
      obtain ⟨w', e, m', e1, e2, e3⟩ := ihj (i + 1) m5 (mets l2 t) w5 (ys ++ [.agg [va, vb, vc, vd]]) (by omega) (by omega) hu5 (s2.move ((p3.obj q1 hb1).trans (c4.obj q1 (by omega) hqq))) (c3.move (p3.obj q2 hb2)) (by omega) p2' (by simp [hy])
      have es : rBuildSlice A_api_Type 1 [(0, .agg [va, vb, vc, vd])] = some (.sl .full [.agg [va, vb, vc, vd]]) := rfl
      rw [c1, retK_ret, es, bnd_some, p1, memK_some, k_unify_Store_Types_3_eq]
      simp only [aBin_add, bnd_some]
      rw [wrap64 (by omega) (by omega)]
      have e1' : l_unify_Store_Types_0 (.ptr p 0 0) (.map q1) (.map q2) w5 v (.int .i64 xs.length) (.int .i64 ((i : Int) + 1)) m5 = _ := e1
      refine ⟨w', e, m', e1', ⟨by omega, fun j' j1 j2 j3 => ?_⟩, ?_⟩
      · rw [e2.2 j' j1 j2 j3, p3.obj j' j1, c4.obj j' (by omega) j3, s3.obj j' j2]
      · rw [hd]
        rcases e3 with ⟨u, zs, g1, g2, g3, g4, g5⟩ | ⟨⟨x, hx1, t', ht', hx2⟩, g2, g3⟩
        · left
          have hst : ∃ u', St ns (xs[i] :: xs.drop (i + 1)) u' ∧ num l2 u' = (match num l2 t with | .v n .nil => .v n (num (mets l2 t) u) | .c k nm aa .nil => .c k nm aa (num (mets l2 t) u) | _ => .nil) := by
            cases ht with
            | v h1 h2 h3 => cases h3; exact ⟨_, .v h1 h2 g1, rfl⟩
            | c h1 h2 h3 h4 => cases h4; exact ⟨_, .c h1 h2 h3 g1, rfl⟩
          obtain ⟨u', hu', hn⟩ := hst
          refine ⟨u', .agg [va, vb, vc, vd] :: zs, hu', fun x hx t' ht' => ?_, g3, by simpa using g4, ?_⟩
          · rcases List.mem_cons.1 hx with rfl | hx
            · rw [ht'.inj ht]; omega
            · exact g2 x hx t' ht'
          · rw [hn]
            cases ht with
            | v h1 h2 h3 =>
              cases h3
              simp only [num] at c2 ⊢
              cases c2
              exact .v g5
            | c h1 h2 h3 h4 =>
              cases h4
              simp only [num] at c2 ⊢
              cases c2 with
              | c a1 a2 _ => exact .c a1 a2 g5
        · exact .inr ⟨⟨x, List.mem_cons_of_mem _ hx1, t', ht', hx2⟩, g2, g3⟩
theorem Types_s {m : Mem} {p : Nat} {o : Option Nat} {ns : List Nd} {tv : AV} (h : US m p o ns tv) (g : Uni.Good ns) (hv : Vn ns) (hal : ∀ i, (argsOf ns i).length ≤ 1000000) {v : AV} {l : List Int} (hx : HSl v (its l)) (hl : l.length ≤ 1000000) :
    ∃ w e m', w_unify_Store_Types (.ptr p 0 0) v m = some (.ret (.tup [w, .int .i64 e]), m') ∧ Kept m m' ∧ ((l.all (inB ns.length) = false ∧ e = 221 ∧ w = .nils) ∨ (l.all (inB ns.length) = true ∧ ∃ xs : List Nat, l = xs.map (fun x : Nat => (x : Int)) ∧ (∀ x ∈ xs, x < ns.length) ∧ TysP ns xs e w [] [])) := by
  obtain ⟨m1, t1, t2⟩ := there_s h hx (by omega)
  rw [e_unify_Store_Types, t1, retK_ret, aUn_not, bnd_some]
  cases hI : l.all (inB ns.length) with
  | false =>
    rw [Bool.not_false, onBool_true]
    exact ⟨.nils, 221, m1, rfl, t2, .inl ⟨rfl, rfl, rfl⟩⟩
  | true =>
    obtain ⟨xs, e1, e2, e3⟩ := nts_of hI
    rw [e1] at hx
    have hu1 := h.kept t2
    have hlen : xs.length = l.length := by rw [e3]; simp
    have hnl : (nts xs).length = xs.length := by simp [nts]
    rw [Bool.not_true, onBool_false, k_unify_Store_Types_0_eq, bindK_eq, bindK_eq, hx.len, bnd_some, hnl]
    have k1 : Kept m1 ((m1.alloc (.map [])).alloc (.map [])) := (Kept.alloc m1 _).trans (Kept.alloc _ _)
    have hp := hu1.lt
    have ho := hu1.oo
    obtain ⟨w, e, m2, s1, s2, s3⟩ := types_loop (q1 := m1.next) (q2 := m1.next + 1) (b := m1.next + 2) (by omega) (fun e => by have := ho m1.next e.symm; omega) (by omega) (fun e => by have := ho _ e.symm; omega) (by omega) g hv hal hx e2 (by omega) (by omega) (fun o' e => by have := ho o' e; omega) (by omega) (by omega)
      _ 0 ((m1.alloc (.map [])).alloc (.map [])) [] .nils [] rfl (Nat.zero_le _) (hu1.kept k1) ⟨⟨[], by simp, fun r v h => by cases h⟩⟩ ⟨⟨[], by simp, rfl, fun r => rfl⟩⟩ (by simp) .nil rfl
    refine ⟨w, e, m2, s1, ⟨by have := t2.next; have := s2.1; simp at *; omega, fun j hj => ?_⟩, .inr ⟨rfl, xs, e3, e2, by simpa using s3⟩⟩
    have := t2.next
    rw [s2.2 j (by omega) (by omega) (by omega), k1.obj j (by omega)]; exact t2.obj j hj
/-- what a call that makes a node comes to -/
def MkP (ns : List Nd) (m : Mem) (p : Nat) (o : Option Nat) (tv : AV) (m' : Mem) (k : Int) (nm : List UInt8) (l : List Int) (bad : Bool) (n e : Int) (o' : Option Nat) (ns' : List Nd) : Prop :=
  US m' p o' ns' tv ∧ Fr p o m m' ∧ (∀ j, o = some j → o' = some j) ∧ (o = none → ∀ j, o' = some j → m.next ≤ j) ∧
  ((l.all (inB ns.length) = false ∧ n = 0 ∧ e = 221 ∧ ns' = ns) ∨ (l.all (inB ns.length) = true ∧ bad = true ∧ n = 0 ∧ e = 120 ∧ ns' = ns) ∨
   (bad = false ∧ ∃ xs : List Nat, l = xs.map (fun x : Nat => (x : Int)) ∧ (∀ x ∈ xs, x < ns.length) ∧ n = ns.length ∧ e = 0 ∧ ns' = addN ns k nm xs ∧ ∃ j, o' = some j))
theorem mk_none {ns : List Nd} {m m1 : Mem} {p : Nat} {o : Option Nat} {tv : AV} (h : US m p o ns tv) (t2 : Kept m m1) {k : Int} {nm : List UInt8} {l : List Int} {bad : Bool} (hI : l.all (inB ns.length) = false) : MkP ns m p o tv m1 k nm l bad 0 221 o ns :=
  ⟨h.kept t2, t2.fr _ _, fun j e => e, fun e j e' => (by rw [e] at e'; cases e'), .inl ⟨hI, rfl, rfl, rfl⟩⟩
theorem mk_bad {ns : List Nd} {m m1 : Mem} {p : Nat} {o : Option Nat} {tv : AV} (h : US m p o ns tv) (t2 : Kept m m1) {k : Int} {nm : List UInt8} {l : List Int} (hI : l.all (inB ns.length) = true) : MkP ns m p o tv m1 k nm l true 0 120 o ns :=
  ⟨h.kept t2, t2.fr _ _, fun j e => e, fun e j e' => (by rw [e] at e'; cases e'), .inr (.inl ⟨hI, rfl, rfl, rfl, rfl⟩)⟩
theorem mk_add {ns : List Nd} {m m1 : Mem} {p : Nat} {o : Option Nat} {tv : AV} (h : US m p o ns tv) (hn : ns.length ≤ 1000000) (t2 : Kept m m1) {v : AV} (k : Int) (nm : List UInt8) {l : List Int} (hx : HSl v (its l)) (hl : l.length ≤ 1000000) (hI : l.all (inB ns.length) = true) :
    ∃ m' o', w_unify_Store_add (.ptr p 0 0) (.int .i64 k) (.str (bs nm)) v m1 = some (.ret (.int .i64 ns.length), m') ∧ MkP ns m p o tv m' k nm l false ns.length 0 o' (addN ns k nm (l.map Int.toNat)) := by
  obtain ⟨xs, e1, e2, e3⟩ := nts_of hI
  rw [e1] at hx
  have hlen : xs.length = l.length := by rw [e3]; simp
  have em : l.map Int.toNat = xs := by rw [e3]; simp [List.map_map, Function.comp_def]
  obtain ⟨o', m2, s1, s2, s3, s4, s5⟩ := add_s (h.kept t2) hn hx (by omega) k nm
  rw [em]
  refine ⟨m2, some o', s1, s2, (t2.fr _ _).trans s3, fun j e => by rw [s5 j e], fun e j e' => ?_, .inr (.inr ⟨rfl, xs, e3, e2, rfl, rfl, rfl, o', rfl⟩)⟩
  cases e'
  have := s4 e
  have := t2.next
  omega
theorem Pair_s {m : Mem} {p : Nat} {o : Option Nat} {ns : List Nd} {tv : AV} (h : US m p o ns tv) (hn : ns.length ≤ 1000000) {v : AV} {l : List Int} (hx : HSl v (its l)) (hl : l.length ≤ 1000000) :
    ∃ n e m' o' ns', w_unify_Store_Pair (.ptr p 0 0) v m = some (.ret (.tup [.int .i64 n, .int .i64 e]), m') ∧ MkP ns m p o tv m' 3 [] l (decide (l.length < 2)) n e o' ns' := by
  obtain ⟨m1, t1, t2⟩ := there_s h hx (by omega)
  rw [e_unify_Store_Pair, t1, retK_ret, aUn_not, bnd_some]
  cases hI : l.all (inB ns.length) with
  | false =>
    rw [Bool.not_false, onBool_true]
    exact ⟨0, 221, m1, o, ns, rfl, mk_none h t2 hI⟩
  | true =>
    rw [Bool.not_true, onBool_false, hx.len, bnd_some, List.length_map, aBin_lss, bnd_some]
    by_cases h2 : l.length < 2
    · rw [decide_eq_true (by omega), onBool_true, decide_eq_true h2]
      exact ⟨0, 120, m1, o, ns, rfl, mk_bad h t2 hI⟩
    · obtain ⟨m', o', a1, a2⟩ := mk_add h hn t2 3 [] hx hl hI
      rw [decide_eq_false (by omega), onBool_false, decide_eq_false h2, k_unify_Store_Pair_0_eq, a1, retK_ret]
      exact ⟨_, _, m', o', _, rfl, a2⟩
end Go.AM
namespace Uni
section
variable {ns : List Nd} {k : Int} {nm : List UInt8} {args : List Nat}
end
theorem Fin.mono {ns : List Nd} {E F : Nat → Nat → Prop} (h : ∀ {i j}, F i j → E i j) {x : Nat} (f : Fin ns E x) : Fin ns F x := by
  induction f with
  | mk _ ih => exact .mk fun y z h1 h2 => ih y z (h h1) h2
/-- the pairs of pairs -/
def gs : Nat → List Nd
  | 0 => addN (addN [] 1 [] []) 1 [] []
  | i + 1 => addN (addN (gs i) 3 [] [2 * i, 2 * i]) 3 [] [2 * i + 1, 2 * i + 1]
theorem gs_len : ∀ i, (gs i).length = 2 * i + 2
  | 0 => rfl
  | i + 1 => by simp only [gs, addN_len, gs_len i]; omega
theorem gs_up : ∀ i j, upOf (gs i) j = none
  | 0, j => by simp only [gs, addN_up]; simp [upOf]
  | i + 1, j => by simp only [gs, addN_up, gs_up i]
theorem gs_rt {i j r : Nat} (h : Rt (gs i) j r) : r = j := by
  cases h with
  | root => rfl
  | step e => rw [gs_up] at e; cases e
theorem gs_good : ∀ i, Good (gs i)
  | 0 => (good_nil.add (by simp)).add (by simp)
  | i + 1 => by
    refine ((gs_good i).add ?_).add ?_
    · simp [gs_len] <;> omega
    · simp [gs_len] <;> omega
theorem gs_vn : ∀ i, Vn (gs i)
  | 0 => (vn_nil.add fun _ => rfl).add fun _ => rfl
  | i + 1 => ((gs_vn i).add fun h => by cases h).add fun h => by cases h
theorem gs_at (j : Nat) : ∀ (i : Nat), j < 2 * i + 2 → kOf (gs i) j = (if j < 2 then 1 else 3) ∧ nmOf (gs i) j = [] ∧ argsOf (gs i) j = (if j < 2 then [] else [j - 2, j - 2])
  | 0, h => by
    have : j = 0 ∨ j = 1 := by omega
    rcases this with rfl | rfl <;> exact ⟨rfl, rfl, rfl⟩
  | i + 1, h => by
    have hl := gs_len i
    simp only [gs, addN_k, addN_nm, addN_args, addN_len, hl]
    by_cases h1 : j = 2 * i + 2 + 1
    · subst h1
      rw [if_pos rfl, if_pos rfl, if_pos rfl, if_neg (by omega), if_neg (by omega)]
      exact ⟨rfl, rfl, rfl⟩
    · rw [if_neg h1, if_neg h1, if_neg h1]
      by_cases h2 : j = 2 * i + 2
      · subst h2
        rw [if_pos rfl, if_pos rfl, if_pos rfl, if_neg (by omega), if_neg (by omega)]
        exact ⟨rfl, rfl, rfl⟩
      · rw [if_neg h2, if_neg h2, if_neg h2]
        exact gs_at j i (by omega)
theorem gs_al (i j : Nat) : (argsOf (gs i) j).length ≤ 2 := by
  rcases Nat.lt_or_ge j (2 * i + 2) with h | h
  · rw [(gs_at j i h).2.2]; split <;> simp
  · rw [argsOf_out (by rw [gs_len]; omega)]; simp
def sz : Nat → Nat
  | 0 => 1
  | i + 1 => min (2 * sz i + 1) 301
theorem sz_le : ∀ i, sz i ≤ 301
  | 0 => by decide
  | i + 1 => Nat.min_le_right _ _
theorem sz_big {i : Nat} (h : 301 < 2 * sz i + 1) : sz (i + 1) = 301 := by simp only [sz]; omega
theorem sz_small {i : Nat} (h : ¬ 301 < 2 * sz i + 1) : sz (i + 1) = 2 * sz i + 1 := by simp only [sz]; omega
/-- sizes, whatever was made alike of the same height -/
theorem gs_size {n : Nat} {ns : List Nd} (hs : Sd (gs n) ns) (hR : ∀ i r, Rt ns i r → i / 2 = r / 2) : ∀ (i a : Nat) (rest : List Nat) (u : Fo) (k : Nat), a / 2 = i → St ns (a :: rest) u → ∃ v, St ns rest v ∧ fsz k u = fsz (min (k + sz i) 301) v
  | 0, a, rest, u, k, ha, h => by
    cases h with
    | v h1 h2 h3 => exact ⟨_, h3, rfl⟩
    | @c _ r _ aa t h1 h2 h3 h4 =>
      have hr := hR a r h1
      have hlt := h1.is.1
      rw [hs.len, gs_len] at hlt
      rw [hs.k, (gs_at r n hlt).1, if_pos (by omega)] at h2
      exact absurd rfl h2
  | i + 1, a, rest, u, k, ha, h => by
    cases h with
    | @v _ r _ t h1 h2 h3 =>
      have hr := hR a r h1
      have hlt := h1.is.1
      rw [hs.len, gs_len] at hlt
      rw [hs.k, (gs_at r n hlt).1, if_neg (by omega)] at h2
      cases h2
    | @c _ r _ aa t h1 h2 h3 h4 =>
      have hr := hR a r h1
      have hlt := h1.is.1
      rw [hs.len, gs_len] at hlt
      rw [hs.args, (gs_at r n hlt).2.2, if_neg (by omega)] at h3
      obtain ⟨v, g1, g2⟩ := gs_size hs hR i (r - 2) _ _ 1 (by omega) h3
      obtain ⟨w, g3, g4⟩ := gs_size hs hR i (r - 2) _ _ (min (1 + sz i) 301) (by omega) g1
      cases g3
      refine ⟨_, h4, ?_⟩
      simp only [fsz, g2, g4, sz]
      congr 1
      omega
theorem gs_size1 {n : Nat} {ns : List Nd} (hs : Sd (gs n) ns) (hR : ∀ i r, Rt ns i r → i / 2 = r / 2) {a : Nat} {t : Fo} (h : St ns [a] t) : fsz 0 t = sz (a / 2) := by
  obtain ⟨v, h1, h2⟩ := gs_size hs hR _ a [] t 0 rfl h
  cases h1
  rw [h2]
  simp only [fsz]
  have := sz_le (a / 2)
  omega
theorem gs_apart {n : Nat} : ∀ (i : Nat) (l m : List Nat) (t : Fo), i ≤ n → ¬ (St (gs n) ((2 * i) :: l) t ∧ St (gs n) ((2 * i + 1) :: m) t)
  | 0, l, m, t, hi, ⟨h, h'⟩ => by
    cases h with
    | v h1 h2 h3 =>
      cases h' with
      | v g1 => have := gs_rt h1; have := gs_rt g1; omega
    | @c _ r _ aa t h1 h2 h3 h4 =>
      have := gs_rt h1
      subst this
      rw [(gs_at (2 * 0) n (by omega)).1] at h2
      exact absurd rfl h2
  | i + 1, l, m, t, hi, ⟨h, h'⟩ => by
    cases h with
    | v h1 h2 h3 =>
      have := gs_rt h1
      subst this
      rw [(gs_at (2 * (i + 1)) n (by omega)).1, if_neg (by omega)] at h2
      cases h2
    | @c _ r _ aa t h1 h2 h3 h4 =>
      have := gs_rt h1
      subst this
      generalize ht : Fo.c _ _ _ _ = u at h'
      cases h' with
      | v => cases ht
      | @c _ r _ aa' t' g1 g2 g3 g4 =>
        have := gs_rt g1
        subst this
        injection ht with e1 e2 e3 e4
        subst e3
        rw [(gs_at (2 * (i + 1)) n (by omega)).2.2, if_neg (by omega)] at h3
        rw [(gs_at (2 * (i + 1) + 1) n (by omega)).2.2, if_neg (by omega)] at g3
        exact gs_apart i _ _ aa (by omega) ⟨h3, g3⟩
theorem gs_clo (n : Nat) : Clo (gs n) (fun a b => a / 2 = b / 2) := by
  refine ⟨⟨fun _ => rfl, fun h => h.symm, fun h h' => h.trans h'⟩, fun {x y} h hx hy => ?_⟩
  have key : ∀ z, kOf (gs n) z ≠ 1 → z < 2 * n + 2 ∧ 2 ≤ z := fun z hz => by
    have h1 : z < 2 * n + 2 := by
      rcases Nat.lt_or_ge z (2 * n + 2) with h | h
      · exact h
      · exact absurd (by unfold kOf; rw [List.getElem?_eq_none (by rw [gs_len]; omega)]; rfl) hz
    refine ⟨h1, ?_⟩
    rw [(gs_at z n h1).1] at hz
    rcases Nat.lt_or_ge z 2 with h2 | h2
    · rw [if_pos h2] at hz; exact absurd rfl hz
    · exact h2
  obtain ⟨x1, x2⟩ := key x hx
  obtain ⟨y1, y2⟩ := key y hy
  unfold Meet
  rw [(gs_at x n x1).1, (gs_at y n y1).1, (gs_at x n x1).2.1, (gs_at y n y1).2.1, (gs_at x n x1).2.2, (gs_at y n y1).2.2, if_neg (by omega), if_neg (by omega), if_neg (by omega), if_neg (by omega)]
  refine ⟨rfl, rfl, rfl, fun p hp => ?_⟩
  have h4 : (x - 2) / 2 = (y - 2) / 2 := by omega
  simp only [List.zip_cons_cons, List.zip_nil_right, List.mem_cons, List.not_mem_nil, or_false] at hp
  rcases hp with rfl | rfl <;> exact h4
theorem gs_fin {n : Nat} {ns : List Nd} (hs : Sd (gs n) ns) : ∀ (i x : Nat), x / 2 = i → Fin ns (fun a b => a / 2 = b / 2) x
  | i, x, hx => by
    refine .mk fun y z h1 h2 => ?_
    rw [hs.args] at h2
    rcases Nat.lt_or_ge y (2 * n + 2) with hy | hy
    · rw [(gs_at y n hy).2.2] at h2
      rcases Nat.lt_or_ge y 2 with h3 | h3
      · rw [if_pos h3] at h2; simp at h2
      · rw [if_neg (by omega)] at h2
        simp at h2
        subst h2
        exact gs_fin hs (i - 1) (y - 2) (by omega)
    · rw [argsOf_out (by rw [gs_len]; omega)] at h2
      simp at h2
termination_by i => i
decreasing_by omega
end Uni
namespace Go.AM
open Go Go.Proofs Uni
set_option linter.unusedSimpArgs false
set_option linter.unusedVariables false
theorem alive_s : ∃ m', w_l13_alive Mem.zero = some (.ret (.bool true), m') := by
  have h := alive_run
  cases hc : aCall X 60 F_l13_alive [] Mem.zero with
  | none => rw [hc] at h; cases h
  | some r =>
    rw [hc] at h
    obtain ⟨r1, r2⟩ := r
    cases h
    exact ⟨r2, aW_of hc⟩
theorem mk_ok {ns : List Nd} {m m' : Mem} {p : Nat} {o o' : Option Nat} {tv : AV} {k : Int} {nm : List UInt8} {l : List Int} {n e : Int} {ns' : List Nd} (h : MkP ns m p o tv m' k nm l false n e o' ns') (xs : List Nat) (hl : l = xs.map (fun x : Nat => (x : Int))) (hx : ∀ x ∈ xs, x < ns.length) :
    US m' p o' ns' tv ∧ Fr p o m m' ∧ n = ns.length ∧ e = 0 ∧ ns' = addN ns k nm xs ∧ ∃ j, o' = some j := by
  obtain ⟨h1, h2, _, _, h3⟩ := h
  have hall : l.all (inB ns.length) = true := by
    rw [hl, List.all_map, List.all_eq_true]
    intro x hx'
    have := hx x hx'
    simp [inB]; omega
  rcases h3 with ⟨h3, _⟩ | ⟨_, h3, _⟩ | ⟨_, ys, e1, e2, e3, e4, e5, e6⟩
  · rw [hall] at h3; cases h3
  · cases h3
  · have : ys = xs := by
      rw [hl] at e1
      exact ((List.map_inj_right (fun a b h => by omega)).1 e1).symm
    subst this
    exact ⟨h1, h2, e3, e4, e5, e6⟩
theorem great_loop {p n : Nat} (hn : n ≤ 500) : ∀ (k i : Nat) (m : Mem) (o : Nat) (tv : AV), n - i = k → i ≤ n → US m p (some o) (gs i) tv →
    ∃ m' o', l_l13_UnifyGreat_0 (.int .i64 n) (.ptr p 0 0) (.int .i64 (2 * i : Nat)) (.int .i64 (2 * i + 1 : Nat)) (.int .i64 (sz i)) (.int .i64 i) m = k_l13_UnifyGreat_4 (.int .i64 n) (.ptr p 0 0) (.int .i64 (2 * n : Nat)) (.int .i64 (2 * n + 1 : Nat)) (.int .i64 (sz n)) (.int .i64 n) m' ∧ US m' p (some o') (gs n) tv := by
  intro k
  induction k with
  | zero =>
    intro i m o tv hk hi hu
    have : i = n := by omega
    subst this
    rw [l_l13_UnifyGreat_0_eq]
    simp only [aBin_lss, bnd_some, Int.lt_irrefl, decide_false, onBool_false]
    exact ⟨m, o, rfl, hu⟩
  | succ k ih =>
    intro i m o tv hk hi hu
    have hl := gs_len i
    have hk1 : n - (i + 1) = k := by omega
    have hi1 : i + 1 ≤ n := by omega
    have hi2 : i ≤ 500 := by omega
    have e1 : rBuildSlice A_int 2 [(0, .int .i64 (2 * i : Nat)), (1, .int .i64 (2 * i : Nat))] = some (.sl .full [.int .i64 (2 * i : Nat), .int .i64 (2 * i : Nat)]) := rfl
    have e2 : rBuildSlice A_int 2 [(0, .int .i64 (2 * i + 1 : Nat)), (1, .int .i64 (2 * i + 1 : Nat))] = some (.sl .full [.int .i64 (2 * i + 1 : Nat), .int .i64 (2 * i + 1 : Nat)]) := rfl
    obtain ⟨n1, f1, m1, o1, ns1, a1, a2⟩ := Pair_s hu (by omega) (v := .sl .full [.int .i64 (2 * i : Nat), .int .i64 (2 * i : Nat)]) (l := [(2 * i : Nat), (2 * i : Nat)]) (.sl _ _) (by simp)
    obtain ⟨b1, b2, rfl, rfl, rfl, o1', rfl⟩ := mk_ok a2 [2 * i, 2 * i] rfl (by simp [hl])
    obtain ⟨n2, f2, m2, o2, ns2, c1, c2⟩ := Pair_s b1 (by simp [hl]; omega) (v := .sl .full [.int .i64 (2 * i + 1 : Nat), .int .i64 (2 * i + 1 : Nat)]) (l := [(2 * i + 1 : Nat), (2 * i + 1 : Nat)]) (.sl _ _) (by simp)
    obtain ⟨d1, d2, rfl, rfl, rfl, o2', rfl⟩ := mk_ok c2 [2 * i + 1, 2 * i + 1] rfl (by simp [hl] <;> omega)
    have hg : addN (addN (gs i) 3 [] [2 * i, 2 * i]) 3 [] [2 * i + 1, 2 * i + 1] = gs (i + 1) := rfl
    rw [hg] at d1
    obtain ⟨s, m3, g1, g2, g3⟩ := Size_s d1 (gs_good _) (gs_vn _) (fun j => by have := gs_al (i + 1) j; omega) (gs i).length
    have hsz : s = sz (i + 1) := by
      rcases g3 with ⟨h, _⟩ | ⟨_, t, ht, hs⟩
      · unfold inB at h
        rw [gs_len, gs_len] at h
        simp only [decide_eq_false_iff_not] at h
        omega
      · rw [hs, gs_size1 (.refl _) (fun a r hr => by rw [gs_rt hr]) ht]
        rw [Int.toNat_natCast, gs_len]
        congr 1; omega
    subst hsz
    have hs1 := sz_le i
    obtain ⟨m', o', z1, z2⟩ := ih (i + 1) m3 o2' tv hk1 hi1 (d1.kept g2)
    refine ⟨m', o', ?_, z2⟩
    have q1 : ((gs i).length : Int) = ((2 * (i + 1) : Nat) : Int) := by rw [hl]; omega
    have q2 : ((addN (gs i) 3 [] [2 * i, 2 * i]).length : Int) = ((2 * (i + 1) + 1 : Nat) : Int) := by rw [addN_len, hl]; omega
    have fin : ∀ z : Int, z = (sz (i + 1) : Nat) → k_l13_UnifyGreat_11 (.int .i64 n) (.ptr p 0 0) (.int .i64 ((gs i).length : Nat)) (.int .i64 ((addN (gs i) 3 [] [2 * i, 2 * i]).length : Nat)) (.int .i64 z) (.int .i64 i) m2 = k_l13_UnifyGreat_4 (.int .i64 n) (.ptr p 0 0) (.int .i64 (2 * n : Nat)) (.int .i64 (2 * n + 1 : Nat)) (.int .i64 (sz n)) (.int .i64 n) m' := by
      intro z hz
      subst hz
      rw [k_l13_UnifyGreat_11_eq, g1, retK_ret, aBin_neq, bnd_some, decide_eq_false (by simp), onBool_false, k_l13_UnifyGreat_8_eq]
      simp only [aBin_add, bnd_some]
      rw [wrap64 (by omega) (by omega), q1, q2, ← z1]
      rfl
    rw [l_l13_UnifyGreat_0_eq]
    simp only [aBin_lss, bnd_some]
    rw [decide_eq_true (by omega), onBool_true, k_l13_UnifyGreat_7_eq, e1, bnd_some, a1, retK_ret]
    simp only [aExtract_tup, List.getElem?_cons_zero, List.getElem?_cons_succ, bnd_some]
    rw [e2, bnd_some, c1, retK_ret]
    simp only [aExtract_tup, List.getElem?_cons_zero, List.getElem?_cons_succ, bnd_some, aBin_neq]
    rw [decide_eq_false (by simp), onWant_false, k_l13_UnifyGreat_10_eq, onBool_false, k_l13_UnifyGreat_9_eq]
    simp only [aBin_mul, bnd_some, aBin_add, aBin_gtr]
    have hw1 : IntKind.i64.wrap (2 * (sz i : Int)) = 2 * (sz i : Int) := wrap64 (by omega) (by omega)
    have hw2 : IntKind.i64.wrap (2 * (sz i : Int) + 1) = 2 * (sz i : Int) + 1 := wrap64 (by omega) (by omega)
    rw [hw1, hw2]
    by_cases h301 : 301 < 2 * sz i + 1
    · rw [decide_eq_true (by omega), onBool_true]
      exact fin _ (by rw [sz_big h301]; rfl)
    · rw [decide_eq_false (by omega), onBool_false]
      exact fin _ (by rw [sz_small h301]; simp)
theorem unifyGreat_plain (n : Int) : ∃ m', w_l13_UnifyGreat (.int .i64 n) Mem.zero = some (.ret (.bool true), m') := by
  obtain ⟨m1, h1⟩ := alive_s
  rw [e_l13_UnifyGreat, h1, retK_ret, aUn_not, bnd_some, Bool.not_true, onBool_false, k_l13_UnifyGreat_0_eq, aBin_lss, bnd_some]
  by_cases h0 : n < 0
  · rw [decide_eq_true h0, onWant_true, k_l13_UnifyGreat_2_eq, onBool_true]; exact ⟨_, rfl⟩
  rw [decide_eq_false h0, onWant_false, aBin_gtr, bnd_some, k_l13_UnifyGreat_2_eq]
  by_cases h5 : 500 < n
  · rw [decide_eq_true h5, onBool_true]; exact ⟨_, rfl⟩
  rw [decide_eq_false h5, onBool_false, k_l13_UnifyGreat_1_eq]
  obtain ⟨n, rfl⟩ := Int.eq_ofNat_of_zero_le (Int.not_lt.1 h0)
  obtain ⟨p, m2, a1, a2, a3, _⟩ := new_s m1
  have hnp : aBin X.T .eql T_Pt_unify_Store false true (.ptr p 0 0) .nilp = some (.bool false) := by kernel_rfl
  obtain ⟨o1, m3, b1, b2, _⟩ := var_s a2 (by simp)
  obtain ⟨o2, m4, c1, c2, _⟩ := var_s b2 (by simp)
  obtain ⟨m5, o3, d1, d2⟩ := great_loop (n := n) (by omega) n 0 m4 o2 .nils (by omega) (by omega) c2
  rw [a1, retK_ret, hnp, bnd_some, onBool_false, k_l13_UnifyGreat_3_eq, b1, retK_ret, c1, retK_ret]
  have d1' : l_l13_UnifyGreat_0 (.int .i64 (n : Int)) (.ptr p 0 0) (.int .i64 (([] : List Nd).length : Nat)) (.int .i64 ((addN [] 1 [] []).length : Nat)) (.int .i64 1) (.int .i64 0) m4 = _ := d1
  rw [d1', k_l13_UnifyGreat_4_eq, aBin_gtr, bnd_some]
  have hgl := gs_len n
  -- behind Alike: Unify
  have tail : ∀ (m6 : Mem) (tv : AV), US m6 p (some o3) (gs n) tv → ∃ m', (retK (w_unify_Store_Unify (.ptr p 0 0) (.int .i64 (2 * n : Nat)) (.int .i64 (2 * n + 1 : Nat)) m6) (fun v80 m2 =>
      bnd (aBin X.T .neq T_api_Errno false true v80 (.int .i64 0)) fun v81 => k_l13_UnifyGreat_6 (.ptr p 0 0) (.int .i64 (2 * n : Nat)) (.int .i64 (2 * n + 1 : Nat)) (.int .i64 (sz n)) v81 m2) (fun u m2 => some (.pan u, m2))) = some (.ret (.bool true), m') := by
    intro m6 tv hu
    obtain ⟨e, m7, ns', tv', u1, u2, u3, u4⟩ := unify_s hu (gs_good n) (gs_vn n) (by omega) (fun j => by have := gs_al n j; omega) (2 * n : Nat) (2 * n + 1 : Nat)
    have hin : (inB (gs n).length (2 * n : Nat) && inB (gs n).length (2 * n + 1 : Nat)) = true := by simp [inB, hgl]; omega
    rcases u4 with ⟨u4, _⟩ | ⟨_, ok, ns1, hw, u4⟩
    · rw [hin] at u4; cases u4
    · rw [Int.toNat_natCast, Int.toNat_natCast] at *
      obtain ⟨w1, w2⟩ := hw.least (gs_good n).lk (gs_clo n) (fun h => by
        rcases h with rfl | ⟨r, q1, q2⟩
        · rfl
        · rw [gs_rt q1] at *
          have := gs_rt q2
          have := gs_rt q1
          omega) (fun p hp => by
        rw [List.mem_singleton] at hp; subst hp; show (2 * n) / 2 = (2 * n + 1) / 2; omega)
      cases ok with
      | false => have := (w2 rfl).1; cases this
      | true =>
        have hf : Fin ns1 (Sim ns1) (2 * n) := (gs_fin hw.sd _ _ rfl).mono w1
        rcases u4 with ⟨h, _⟩ | ⟨_, h, _⟩ | ⟨_, _, rfl, rfl⟩
        · cases h
        · exact absurd hf h
        · have g' := (gs_good n).next hw hf
          have v' := (gs_vn n).sd hw.sd
          have al' : ∀ i, (argsOf ns' i).length ≤ 1000000 := fun i => by rw [hw.sd.args]; have := gs_al n i; omega
          have hl' : ns'.length = 2 * n + 2 := by rw [hw.sd.len, hgl]
          have es : rBuildSlice A_int 1 [(0, .int .i64 (2 * n : Nat))] = some (.sl .full [.int .i64 (2 * n : Nat)]) := rfl
          obtain ⟨w, e, m8, t1, t2, t3⟩ := Types_s u2 g' v' al' (v := .sl .full [.int .i64 (2 * n : Nat)]) (l := [(2 * n : Nat)]) (.sl _ _) (by simp)
          obtain ⟨b, m9, tv9, x1, x2, x3, x4⟩ := alike_s (u2.kept t2) g' (by omega) al' (2 * n : Nat) (2 * n + 1 : Nat)
          have hb : b = true := by
            rw [x4]
            refine ⟨by omega, by omega, by omega, by omega, ?_⟩
            obtain ⟨t, ht⟩ := st_fin g'.lk g'.av (g'.fin (2 * n)) (by omega)
            exact ⟨t, ht, ht.alike (hw.does rfl (2 * n, 2 * n + 1) (by simp))⟩
          subst hb
          have hR : ∀ i r, Rt ns' i r → i / 2 = r / 2 := fun i r hr => w1 hr.sim
          rw [u1, retK_ret, aBin_neq, bnd_some, decide_eq_false (by simp), k_l13_UnifyGreat_6_eq, onBool_false, k_l13_UnifyGreat_5_eq, es, bnd_some, t1, retK_ret]
          simp only [aExtract_tup, List.getElem?_cons_zero, List.getElem?_cons_succ, bnd_some]
          rw [x1, retK_ret, onWant_true]
          simp only [aBin_eql, aBin_leq, bnd_some]
          have beq : ∀ x y : Bool, aBin X.T .eql T_bool false false (.bool x) (.bool y) = some (.bool (x == y)) := fun x y => by
            cases x <;> cases y <;> kernel_rfl
          rcases t3 with ⟨h, _⟩ | ⟨_, xs, hxs, _, h⟩
          · simp [inB, hl'] at h; omega
          · have hxs' : xs = [2 * n] := by
              cases xs with
              | nil => simp at hxs
              | cons a l =>
                simp only [List.map_cons, List.cons.injEq, List.nil_eq, List.map_eq_nil_iff] at hxs
                obtain ⟨q1, rfl⟩ := hxs
                congr 1; omega
            subst hxs'
            rcases h with ⟨u, ys, g1, g2, rfl, g4, g5⟩ | ⟨⟨x, hx, t, ht, hgt⟩, rfl, rfl⟩
            · obtain ⟨t, ht⟩ := st_fin g'.lk g'.av (g'.fin (2 * n)) (by omega)
              have h300 := g2 (2 * n) (by simp) t ht
              rw [gs_size1 hw.sd hR ht, show 2 * n / 2 = n by omega] at h300
              have hys : ys.length = 1 := by
                cases g1 with
                | v _ _ g1 => cases g1; cases g5 with | v h => cases h; rfl
                | c _ _ _ g1 => cases g1; cases g5 with | c _ _ h => cases h; rfl
              have hlen := g4.len
              simp only [List.nil_append] at hlen
              rw [decide_eq_true rfl, decide_eq_true (by omega), beq, bnd_some, beq_self_eq_true, onWant_true, hlen, bnd_some, hys, aBin_eql, bnd_some, decide_eq_true (by decide), beq, bnd_some]
              exact ⟨_, rfl⟩
            · simp at hx
              subst hx
              rw [gs_size1 hw.sd hR ht, show 2 * n / 2 = n by omega] at hgt
              have hlen : rLenSl .nils = some (.int .i64 0) := rfl
              rw [decide_eq_false (by simp), decide_eq_false (by omega), beq, bnd_some, beq_self_eq_true, onWant_true, hlen, bnd_some, aBin_eql, bnd_some, decide_eq_false (by decide), beq, bnd_some]
              exact ⟨_, rfl⟩
  by_cases hn0 : 0 < n
  · rw [decide_eq_true (by omega), onWant_true]
    obtain ⟨b, m6, tv6, x1, x2, x3, x4⟩ := alike_s d2 (gs_good n) (by omega) (fun j => by have := gs_al n j; omega) (2 * n : Nat) (2 * n + 1 : Nat)
    have hb : b = false := by
      cases b with
      | false => rfl
      | true =>
        obtain ⟨_, _, _, _, t, ht, ht'⟩ := x4.1 rfl
        rw [Int.toNat_natCast] at ht ht'
        exact absurd ⟨ht, ht'⟩ (gs_apart n [] [] t (Nat.le_refl _))
    subst hb
    rw [x1, retK_ret, onWant_false]
    exact tail m6 tv6 x2
  · rw [decide_eq_false (by omega), onWant_false]
    exact tail m5 .nils d2
end Go.AM
