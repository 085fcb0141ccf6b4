/-
  The program's store over the machine: Types, Pair, Arrow, Con.
-/
import Derived.Test.YtpffgljpkehgmaaUniM7
import Derived.Test.YtpffgljpkehgmaaLexSpec
set_option linter.unusedVariables false
set_option linter.unusedSimpArgs false
namespace Go.AM
open Go Go.Proofs Uni
set_option linter.unusedSimpArgs false
set_option linter.unusedVariables false
theorem KM.move {ns : List Nd} {m m' : Mem} {q : Nat} (h : KM ns m q) (e : m'.obj q = m.obj q) : KM ns m' q := by
  obtain ⟨es, h1, h2⟩ := h.ex
  exact ⟨es, e.trans h1, h2⟩
theorem VM.move {m m' : Mem} {q : Nat} {l : List Nat} (h : VM m q l) (e : m'.obj q = m.obj q) : VM m' q l := by
  obtain ⟨es, h1, h2⟩ := h.ex
  exact ⟨es, e.trans h1, h2⟩
theorem nts_of {n : Nat} : ∀ {l : List Int}, l.all (inB n) = true → ∃ xs : List Nat, its l = nts xs ∧ (∀ x ∈ xs, x < n) ∧ l = xs.map (fun x : Nat => (x : Int))
  | [], _ => ⟨[], rfl, by simp, rfl⟩
  | a :: l, h => by
    simp only [List.all_cons, Bool.and_eq_true, inB, decide_eq_true_eq] at h
    obtain ⟨⟨h1, h2⟩, h3⟩ := h
    obtain ⟨xs, e1, e2, e3⟩ := nts_of h3
    obtain ⟨a, rfl⟩ := Int.eq_ofNat_of_zero_le h1
    refine ⟨a :: xs, ?_, fun x hx => ?_, ?_⟩
    · show _ :: its l = _ :: nts xs
      rw [e1]
    · rcases List.mem_cons.1 hx with rfl | hx
      · omega
      · exact e2 x hx
    · rw [e3]; rfl
/-- what Types answers -/
def TysP (ns : List Nd) (xs : List Nat) (e : Int) (w : AV) (l0 : List Nat) (pre : List AV) : Prop :=
  (∃ u ys, St ns xs u ∧ (∀ x ∈ xs, ∀ t, St ns [x] t → fsz 0 t ≤ 300) ∧ e = 0 ∧ HSl w (pre ++ ys) ∧ TyL (num l0 u) ys) ∨ ((∃ x ∈ xs, ∃ t, St ns [x] t ∧ 300 < fsz 0 t) ∧ e = 120 ∧ w = .nils)
theorem types_loop {p : Nat} {o : Option Nat} {ns : List Nd} {tv : AV} {q1 q2 b : Nat} (hq1 : q1 ≠ p) (hq1o : some q1 ≠ o) (hq2 : q2 ≠ p) (hq2o : some q2 ≠ o) (hqq : q1 ≠ q2) (g : Uni.Good ns) (hv : Vn ns) (hal : ∀ i, (argsOf ns i).length ≤ 1000000)
    {v : AV} {xs : List Nat} (hx : HSl v (nts xs)) (hlt : ∀ x ∈ xs, x < ns.length) (hl : xs.length ≤ 1000000) (hpb : p < b) (hob : ∀ o', o = some o' → o' < b) (hb1 : q1 < b) (hb2 : q2 < b) :
    ∀ (j i : Nat) (m : Mem) (l2 : List Nat) (w : AV) (ys : List AV), xs.length - i = j → i ≤ xs.length → US m p o ns tv → KM ns m q1 → VM m q2 l2 → b ≤ m.next → App b 4 m w ys → ys.length = i →
      ∃ w' e m', l_f23_0 (.ptr p 0 0) (.map q1) (.map q2) w v (.int .i64 xs.length) (.int .i64 i) m = some (.ret (.tup [w', .int .i64 e]), m') ∧ (m.next ≤ m'.next ∧ ∀ j', j' < b → j' ≠ q1 → j' ≠ q2 → m'.obj j' = m.obj j') ∧ TysP ns (xs.drop i) e w' l2 ys := by
  intro j
  induction j with
  | zero =>
    intro i m l2 w ys hj hi hu hK hV hb hA hy
    have : i = xs.length := by omega
    subst this
    rw [l_f23_0_eq]
    simp only [aBin_lss, bnd_some, Int.lt_irrefl, decide_false, onBool_false, k_f23_1_eq]
    refine ⟨w, 0, m, rfl, ⟨Nat.le_refl _, fun _ _ _ _ => rfl⟩, .inl ⟨.nil, [], by rw [List.drop_length]; exact .nil, by simp, rfl, by simpa using hA.hsl, .nil⟩⟩
  | succ j ihj =>
    intro i m l2 w ys hj hi hu hK hV hb hA hy
    have hilt : i < xs.length := by omega
    have hd : xs.drop i = xs[i] :: xs.drop (i + 1) := List.drop_eq_getElem_cons hilt
    have hxlt := hlt _ (List.getElem_mem hilt)
    have hix : rIxAddrSl 1 v (.int .i64 i) = some (.pim [.int .i64 (xs[i] : Nat)]) := hx.ix (x := .int .i64 (xs[i] : Nat)) (by simp [nts, hilt]) rfl rfl
    obtain ⟨t, ht⟩ := st_fin g.lk g.av (g.fin xs[i]) hxlt
    obtain ⟨m1, s1, s2, s3⟩ := size_s hq1 hq1o g hv hal (g.fin xs[i]) m t hu hK ht
    rw [l_f23_0_eq]
    simp only [aBin_lss, bnd_some]
    rw [decide_eq_true (by omega), onBool_true, k_f23_2_eq, hix, bnd_some, rLoad_pimc, List.getElem?_cons_zero, bnd_some, s1, retK_ret, aBin_gtr, bnd_some]
    by_cases hs : 300 < fsz 0 t
    · rw [decide_eq_true (by omega), onBool_true]
      exact ⟨.nils, 120, m1, rfl, ⟨by have := s3.next; omega, fun j' _ h1 _ => s3.obj j' h1⟩, .inr ⟨⟨xs[i], by rw [hd]; exact List.mem_cons_self .., t, ht, hs⟩, rfl, rfl⟩⟩
    · rw [decide_eq_false (by omega), onBool_false, k_f23_4_eq]
      have hu1 := hu.on s3 hq1 hq1o
      obtain ⟨vv, m2, c1, c2, c3, c4⟩ := typ_s hq2 hq2o g hal (g.fin xs[i]) m1 t l2 hu1 (hV.move (s3.obj q2 (Ne.symm hqq))) (by have := s3.next; omega) ht
      obtain ⟨va, vb, vc, vd, rfl⟩ := c2.one
      have n1 := s3.next
      have n2 := c4.next
      have hA2 : App b 4 m2 w ys := (hA.move (by omega) fun j' j1 j2 => s3.obj j' (by omega)).move n2 fun j' j1 j2 => c4.obj j' j2 (by omega)
      have hbytes : A_api_Type.bytes = 56 := rfl
      obtain ⟨w5, m5, p1, p2, p3, _⟩ := App.append (A := A_api_Type) (b := b) (m := m2) (v := w) (w := .sl .full [.agg [va, vb, vc, vd]]) (xs := ys) (ys := [.agg [va, vb, vc, vd]]) hA2 (by omega) (.sl _ _) rfl ⟨by decide, rfl⟩ (by rw [hbytes]; simp only [List.length_cons, List.length_nil]; omega) (by simp only [List.length_cons, List.length_nil]; omega)
      have p2' : App b 4 m5 w5 (ys ++ [.agg [va, vb, vc, vd]]) := p2
      have n5 := p3.next
      have hu5 : US m5 p o ns tv := ((hu1.onK c4 hq2 hq2o)).move n5 (p3.obj p hpb) fun o' e => p3.obj o' (hob o' e)
      obtain ⟨w', e, m', e1, e2, e3⟩ := ihj (i + 1) m5 (mets l2 t) w5 (ys ++ [.agg [va, vb, vc, vd]]) (by omega) (by omega) hu5 (s2.move ((p3.obj q1 hb1).trans (c4.obj q1 (by omega) hqq))) (c3.move (p3.obj q2 hb2)) (by omega) p2' (by simp [hy])
      have es : rBuildSlice A_api_Type 1 [(0, .agg [va, vb, vc, vd])] = some (.sl .full [.agg [va, vb, vc, vd]]) := rfl
      rw [c1, retK_ret, es, bnd_some, p1, memK_some, k_f23_3_eq]
      simp only [aBin_add, bnd_some]
      rw [wrap64 (by omega) (by omega)]
      have e1' : l_f23_0 (.ptr p 0 0) (.map q1) (.map q2) w5 v (.int .i64 xs.length) (.int .i64 ((i : Int) + 1)) m5 = _ := e1
      refine ⟨w', e, m', e1', ⟨by omega, fun j' j1 j2 j3 => ?_⟩, ?_⟩
      · rw [e2.2 j' j1 j2 j3, p3.obj j' j1, c4.obj j' (by omega) j3, s3.obj j' j2]
      · rw [hd]
        rcases e3 with ⟨u, zs, g1, g2, g3, g4, g5⟩ | ⟨⟨x, hx1, t', ht', hx2⟩, g2, g3⟩
        · left
          have hst : ∃ u', St ns (xs[i] :: xs.drop (i + 1)) u' ∧ num l2 u' = (match num l2 t with | .v n .nil => .v n (num (mets l2 t) u) | .c k nm aa .nil => .c k nm aa (num (mets l2 t) u) | _ => .nil) := by
            cases ht with
            | v h1 h2 h3 => cases h3; exact ⟨_, .v h1 h2 g1, rfl⟩
            | c h1 h2 h3 h4 => cases h4; exact ⟨_, .c h1 h2 h3 g1, rfl⟩
          obtain ⟨u', hu', hn⟩ := hst
          refine ⟨u', .agg [va, vb, vc, vd] :: zs, hu', fun x hx t' ht' => ?_, g3, by simpa using g4, ?_⟩
          · rcases List.mem_cons.1 hx with rfl | hx
            · rw [ht'.inj ht]; omega
            · exact g2 x hx t' ht'
          · rw [hn]
            cases ht with
            | v h1 h2 h3 =>
              cases h3
              simp only [num] at c2 ⊢
              cases c2
              exact .v g5
            | c h1 h2 h3 h4 =>
              cases h4
              simp only [num] at c2 ⊢
              cases c2 with
              | c a1 a2 _ => exact .c a1 a2 g5
        · exact .inr ⟨⟨x, List.mem_cons_of_mem _ hx1, t', ht', hx2⟩, g2, g3⟩
theorem Types_s {m : Mem} {p : Nat} {o : Option Nat} {ns : List Nd} {tv : AV} (h : US m p o ns tv) (g : Uni.Good ns) (hv : Vn ns) (hal : ∀ i, (argsOf ns i).length ≤ 1000000) {v : AV} {l : List Int} (hx : HSl v (its l)) (hl : l.length ≤ 1000000) :
    ∃ w e m', w_f23 (.ptr p 0 0) v m = some (.ret (.tup [w, .int .i64 e]), m') ∧ Kept m m' ∧ ((l.all (inB ns.length) = false ∧ e = 221 ∧ w = .nils) ∨ (l.all (inB ns.length) = true ∧ ∃ xs : List Nat, l = xs.map (fun x : Nat => (x : Int)) ∧ (∀ x ∈ xs, x < ns.length) ∧ TysP ns xs e w [] [])) := by
  obtain ⟨m1, t1, t2⟩ := there_s h hx (by omega)
  rw [e_f23, t1, retK_ret, aUn_not, bnd_some]
  cases hI : l.all (inB ns.length) with
  | false =>
    rw [Bool.not_false, onBool_true]
    exact ⟨.nils, 221, m1, rfl, t2, .inl ⟨rfl, rfl, rfl⟩⟩
  | true =>
    obtain ⟨xs, e1, e2, e3⟩ := nts_of hI
    rw [e1] at hx
    have hu1 := h.kept t2
    have hlen : xs.length = l.length := by rw [e3]; simp
    have hnl : (nts xs).length = xs.length := by simp [nts]
    rw [Bool.not_true, onBool_false, k_f23_0_eq, bindK_eq, bindK_eq, hx.len, bnd_some, hnl]
    have k1 : Kept m1 ((m1.alloc (.map [])).alloc (.map [])) := (Kept.alloc m1 _).trans (Kept.alloc _ _)
    have hp := hu1.lt
    have ho := hu1.oo
    obtain ⟨w, e, m2, s1, s2, s3⟩ := types_loop (q1 := m1.next) (q2 := m1.next + 1) (b := m1.next + 2) (by omega) (fun e => by have := ho m1.next e.symm; omega) (by omega) (fun e => by have := ho _ e.symm; omega) (by omega) g hv hal hx e2 (by omega) (by omega) (fun o' e => by have := ho o' e; omega) (by omega) (by omega)
      _ 0 ((m1.alloc (.map [])).alloc (.map [])) [] .nils [] rfl (Nat.zero_le _) (hu1.kept k1) ⟨⟨[], by simp, fun r v h => by cases h⟩⟩ ⟨⟨[], by simp, rfl, fun r => rfl⟩⟩ (by simp) .nil rfl
    refine ⟨w, e, m2, s1, ⟨by have := t2.next; have := s2.1; simp at *; omega, fun j hj => ?_⟩, .inr ⟨rfl, xs, e3, e2, by simpa using s3⟩⟩
    have := t2.next
    rw [s2.2 j (by omega) (by omega) (by omega), k1.obj j (by omega)]; exact t2.obj j hj
/-- what a call that makes a node comes to -/
def MkP (ns : List Nd) (m : Mem) (p : Nat) (o : Option Nat) (tv : AV) (m' : Mem) (k : Int) (nm : List UInt8) (l : List Int) (bad : Bool) (n e : Int) (o' : Option Nat) (ns' : List Nd) : Prop :=
  US m' p o' ns' tv ∧ Fr p o m m' ∧ (∀ j, o = some j → o' = some j) ∧ (o = none → ∀ j, o' = some j → m.next ≤ j) ∧
  ((l.all (inB ns.length) = false ∧ n = 0 ∧ e = 221 ∧ ns' = ns) ∨ (l.all (inB ns.length) = true ∧ bad = true ∧ n = 0 ∧ e = 120 ∧ ns' = ns) ∨
   (bad = false ∧ ∃ xs : List Nat, l = xs.map (fun x : Nat => (x : Int)) ∧ (∀ x ∈ xs, x < ns.length) ∧ n = ns.length ∧ e = 0 ∧ ns' = addN ns k nm xs ∧ ∃ j, o' = some j))
theorem mk_none {ns : List Nd} {m m1 : Mem} {p : Nat} {o : Option Nat} {tv : AV} (h : US m p o ns tv) (t2 : Kept m m1) {k : Int} {nm : List UInt8} {l : List Int} {bad : Bool} (hI : l.all (inB ns.length) = false) : MkP ns m p o tv m1 k nm l bad 0 221 o ns :=
  ⟨h.kept t2, t2.fr _ _, fun j e => e, fun e j e' => (by rw [e] at e'; cases e'), .inl ⟨hI, rfl, rfl, rfl⟩⟩
theorem mk_bad {ns : List Nd} {m m1 : Mem} {p : Nat} {o : Option Nat} {tv : AV} (h : US m p o ns tv) (t2 : Kept m m1) {k : Int} {nm : List UInt8} {l : List Int} (hI : l.all (inB ns.length) = true) : MkP ns m p o tv m1 k nm l true 0 120 o ns :=
  ⟨h.kept t2, t2.fr _ _, fun j e => e, fun e j e' => (by rw [e] at e'; cases e'), .inr (.inl ⟨hI, rfl, rfl, rfl, rfl⟩)⟩
theorem mk_add {ns : List Nd} {m m1 : Mem} {p : Nat} {o : Option Nat} {tv : AV} (h : US m p o ns tv) (hn : ns.length ≤ 1000000) (t2 : Kept m m1) {v : AV} (k : Int) (nm : List UInt8) {l : List Int} (hx : HSl v (its l)) (hl : l.length ≤ 1000000) (hI : l.all (inB ns.length) = true) :
    ∃ m' o', w_f62 (.ptr p 0 0) (.int .i64 k) (.str (bs nm)) v m1 = some (.ret (.int .i64 ns.length), m') ∧ MkP ns m p o tv m' k nm l false ns.length 0 o' (addN ns k nm (l.map Int.toNat)) := by
  obtain ⟨xs, e1, e2, e3⟩ := nts_of hI
  rw [e1] at hx
  have hlen : xs.length = l.length := by rw [e3]; simp
  have em : l.map Int.toNat = xs := by rw [e3]; simp [List.map_map, Function.comp_def]
  obtain ⟨o', m2, s1, s2, s3, s4, s5⟩ := add_s (h.kept t2) hn hx (by omega) k nm
  rw [em]
  refine ⟨m2, some o', s1, s2, (t2.fr _ _).trans s3, fun j e => by rw [s5 j e], fun e j e' => ?_, .inr (.inr ⟨rfl, xs, e3, e2, rfl, rfl, rfl, o', rfl⟩)⟩
  cases e'
  have := s4 e
  have := t2.next
  omega
theorem Pair_s {m : Mem} {p : Nat} {o : Option Nat} {ns : List Nd} {tv : AV} (h : US m p o ns tv) (hn : ns.length ≤ 1000000) {v : AV} {l : List Int} (hx : HSl v (its l)) (hl : l.length ≤ 1000000) :
    ∃ n e m' o' ns', w_f35 (.ptr p 0 0) v m = some (.ret (.tup [.int .i64 n, .int .i64 e]), m') ∧ MkP ns m p o tv m' 3 [] l (decide (l.length < 2)) n e o' ns' := by
  obtain ⟨m1, t1, t2⟩ := there_s h hx (by omega)
  rw [e_f35, t1, retK_ret, aUn_not, bnd_some]
  cases hI : l.all (inB ns.length) with
  | false =>
    rw [Bool.not_false, onBool_true]
    exact ⟨0, 221, m1, o, ns, rfl, mk_none h t2 hI⟩
  | true =>
    rw [Bool.not_true, onBool_false, hx.len, bnd_some, List.length_map, aBin_lss, bnd_some]
    by_cases h2 : l.length < 2
    · rw [decide_eq_true (by omega), onBool_true, decide_eq_true h2]
      exact ⟨0, 120, m1, o, ns, rfl, mk_bad h t2 hI⟩
    · obtain ⟨m', o', a1, a2⟩ := mk_add h hn t2 3 [] hx hl hI
      rw [decide_eq_false (by omega), onBool_false, decide_eq_false h2, k_f35_0_eq, a1, retK_ret]
      exact ⟨_, _, m', o', _, rfl, a2⟩
theorem Arrow_s {m : Mem} {p : Nat} {o : Option Nat} {ns : List Nd} {tv : AV} (h : US m p o ns tv) (hn : ns.length ≤ 1000000) (a c : Int) :
    ∃ n e m' o' ns', w_f44 (.ptr p 0 0) (.int .i64 a) (.int .i64 c) m = some (.ret (.tup [.int .i64 n, .int .i64 e]), m') ∧ MkP ns m p o tv m' 4 [] [a, c] false n e o' ns' := by
  obtain ⟨m1, t1, t2⟩ := there_s h (v := .sl .full [.int .i64 a, .int .i64 c]) (l := [a, c]) (.sl _ _) (by simp)
  have es : rBuildSlice A_int 2 [(0, .int .i64 a), (1, .int .i64 c)] = some (.sl .full [.int .i64 a, .int .i64 c]) := rfl
  rw [e_f44, es, bnd_some, t1, retK_ret, aUn_not, bnd_some]
  cases hI : [a, c].all (inB ns.length) with
  | false =>
    rw [Bool.not_false, onBool_true]
    exact ⟨0, 221, m1, o, ns, rfl, mk_none h t2 hI⟩
  | true =>
    obtain ⟨m', o', a1, a2⟩ := mk_add h hn t2 4 [] (v := .sl .full [.int .i64 a, .int .i64 c]) (.sl _ _) (by simp) hI
    rw [Bool.not_true, onBool_false, k_f44_0_eq, es, bnd_some, a1, retK_ret]
    exact ⟨_, _, m', o', _, rfl, a2⟩
theorem Con_s {m : Mem} {p : Nat} {o : Option Nat} {ns : List Nd} {tv : AV} (h : US m p o ns tv) (hn : ns.length ≤ 1000000) (nm : List UInt8) (hnm : nm.length ≤ 4611686018427387904) {v : AV} {l : List Int} (hx : HSl v (its l)) (hl : l.length ≤ 1000000) :
    ∃ n e m' o' ns', w_f43 (.ptr p 0 0) (.str (bs nm)) v m = some (.ret (.tup [.int .i64 n, .int .i64 e]), m') ∧ MkP ns m p o tv m' 2 nm l (decide (Lx.kindS nm ≠ 1)) n e o' ns' := by
  obtain ⟨m1, t1, t2⟩ := there_s h hx (by omega)
  rw [e_f43, t1, retK_ret, aUn_not, bnd_some]
  cases hI : l.all (inB ns.length) with
  | false =>
    rw [Bool.not_false, onBool_true]
    exact ⟨0, 221, m1, o, ns, rfl, mk_none h t2 hI⟩
  | true =>
    rw [Bool.not_true, onBool_false, kind_s nm hnm, retK_ret, aBin_neq, bnd_some]
    by_cases h2 : Lx.kindS nm ≠ 1
    · rw [decide_eq_true h2, decide_eq_true (show ((Lx.kindS nm : Nat) : Int) ≠ 1 by omega), onBool_true]
      exact ⟨0, 120, m1, o, ns, rfl, mk_bad h t2 hI⟩
    · obtain ⟨m', o', a1, a2⟩ := mk_add h hn t2 2 nm hx hl hI
      rw [decide_eq_false h2, decide_eq_false (show ¬ ((Lx.kindS nm : Nat) : Int) ≠ 1 by omega), onBool_false, k_f43_0_eq, a1, retK_ret]
      exact ⟨_, _, m', o', _, rfl, a2⟩
end Go.AM
