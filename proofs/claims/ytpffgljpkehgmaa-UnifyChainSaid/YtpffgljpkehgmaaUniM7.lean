/-
  The program's store over the machine: looking for circles.
-/
import Derived.Test.YtpffgljpkehgmaaUni1
import Derived.Test.YtpffgljpkehgmaaAMMaps
set_option linter.unusedVariables false
set_option linter.unusedSimpArgs false
namespace Go.AM
open Go Go.Proofs Uni
set_option linter.unusedSimpArgs false
set_option linter.unusedVariables false
def colAV : Nat → Option AV
  | 0 => none
  | 1 => some (.bool false)
  | _ + 2 => some (.bool true)
/-- a map as colours -/
structure CM (m : Mem) (q : Nat) (col : Nat → Nat) : Prop where
  ex : ∃ es, m.obj q = some (.map (iks es)) ∧ ∀ r : Nat, mget es r = colAV (col r)
  le : ∀ r, col r ≤ 2
def unc (n : Nat) (col : Nat → Nat) : Nat := (List.range n).countP fun i => col i == 0
theorem unc_le {n : Nat} {c d : Nat → Nat} (h : ∀ i, c i ≠ 0 → d i ≠ 0) : unc n d ≤ unc n c := by
  unfold unc
  refine List.countP_mono_left fun i _ hi => ?_
  simp only [beq_iff_eq] at hi ⊢
  exact Decidable.byContradiction fun h' => h i h' hi
theorem unc_lt {n : Nat} {c : Nat → Nat} {r : Nat} (hr : r < n) (h0 : c r = 0) : unc n (upd c r 1) < unc n c := by
  unfold unc
  obtain ⟨s, t, hst⟩ := List.append_of_mem (List.mem_range.2 hr)
  rw [hst, List.countP_append, List.countP_append, List.countP_cons, List.countP_cons]
  have h1 : ∀ l : List Nat, l.countP (fun i => upd c r 1 i == 0) ≤ l.countP (fun i => c i == 0) := fun l => List.countP_mono_left fun i _ hi => by
    simp only [beq_iff_eq, upd] at hi ⊢
    split at hi
    · cases hi
    · exact hi
  have a := h1 s
  have b := h1 t
  have e1 : (upd c r 1 r == 0) = false := by simp [upd]
  have e2 : (c r == 0) = true := by simp [h0]
  rw [e1, e2]
  simp only [if_true, Bool.false_eq_true, if_false]
  omega
/-- only the map changes -/
structure On (q : Nat) (m m' : Mem) : Prop where
  next : m'.next = m.next
  obj : ∀ j, j ≠ q → m'.obj j = m.obj j
theorem On.refl (q : Nat) (m : Mem) : On q m m := ⟨rfl, fun _ _ => rfl⟩
theorem On.trans {q : Nat} {m1 m2 m3 : Mem} (h : On q m1 m2) (h' : On q m2 m3) : On q m1 m3 := ⟨h'.next.trans h.next, fun j hj => (h'.obj j hj).trans (h.obj j hj)⟩
theorem US.on {m m' : Mem} {p : Nat} {o : Option Nat} {ns : List Nd} {tv : AV} {q : Nat} (h : US m p o ns tv) (k : On q m m') (hp : q ≠ p) (ho : some q ≠ o) : US m' p o ns tv := by
  obtain ⟨nv, h1, h2⟩ := h.ex
  refine ⟨by rw [k.next]; exact h.lt, nv, (k.obj p (Ne.symm hp)).trans h1, ?_⟩
  cases h2 with
  | nil => exact .nil
  | row o ver cs ns g1 g2 g3 g4 => exact .row o ver cs ns (by rw [k.next]; exact g1) g2 ((k.obj o fun e => ho (by rw [e])).trans g3) g4
theorem CM.put {m : Mem} {q : Nat} {col : Nat → Nat} (h : CM m q col) (r c : Nat) (hc : c = 1 ∨ c = 2) {b : Bool} (hb : b = decide (c = 2)) : ∃ m', rMapUpdate A_int m (.map q) (.int .i64 r) (.bool b) = some m' ∧ CM m' q (upd col r c) ∧ On q m m' := by
  obtain ⟨es, h1, h2⟩ := h.ex
  refine ⟨_, update_iks h1 rfl r (.bool b), ⟨⟨mput es r (.bool b), by simp, fun j => ?_⟩, fun j => by unfold upd; split; omega; exact h.le j⟩, ⟨by simp, fun j hj => by rw [set_obj, if_neg hj]⟩⟩
  rw [mget_put]
  unfold upd
  by_cases hj : j = r
  · subst hj
    rw [if_pos rfl, if_pos rfl]
    rcases hc with rfl | rfl <;> subst hb <;> rfl
  · rw [if_neg (by omega), if_neg hj]; exact h2 j
theorem CM.find {m : Mem} {q : Nat} {col : Nat → Nat} (h : CM m q col) (r : Nat) : rLookup A_int A_bool m (.map q) (.int .i64 r) true = some (match colAV (col r) with | some v => .tup [v, .bool true] | none => .tup [.bool false, .bool false]) := by
  obtain ⟨es, h1, h2⟩ := h.ex
  rw [lookup_iks h1 rfl, h2]; rfl
theorem rounds_s {p : Nat} {o : Option Nat} {ns : List Nd} {tv : AV} {q : Nat} (hqp : q ≠ p) (hqo : some q ≠ o) (hl : Lk ns) (hav : Av ns) (hal : ∀ i, (argsOf ns i).length ≤ 1000000) (n : Nat) : ∀ (m : Mem) (col : Nat → Nat) (x : Nat), unc ns.length col = n → US m p o ns tv → CM m q col → x < ns.length →
    ∃ res col' m', w_f61 (.ptr p 0 0) (.int .i64 x) (.map q) m = some (.ret (.bool res), m') ∧ Dfs ns [x] col res col' ∧ CM m' q col' ∧ On q m m' ∧ ∀ i, col i ≠ 0 → col' i ≠ 0 := by
  induction n using Nat.strongRecOn with
  | _ n ih =>
  intro m col x hn hu hc hx
  obtain ⟨r, hr⟩ := hl x hx
  rw [e_f61, find_s hu hr, retK_ret, hc.find r, bnd_some]
  rcases hcr : col r with _ | _ | k
  · simp only [colAV, aExtract_tup, List.getElem?_cons_zero, List.getElem?_cons_succ, bnd_some, onBool_false]
    obtain ⟨m1, a1, a2, a3⟩ := hc.put r 1 (.inl rfl) (b := false) rfl
    have hu1 := hu.on a3 hqp hqo
    obtain ⟨nv, l1, l2, l3, l4⟩ := hu1.load
    obtain ⟨oo, ver, av, b1, b2, _, _, b5, _, _⟩ := l4.node hr.is.1
    rw [← argsOf_get hr.is.1] at b2
    have hlt := unc_lt (c := col) hr.is.1 hcr
    have loop : ∀ (k i : Nat) (m2 : Mem) (c2 : Nat → Nat), (argsOf ns r).length - i = k → i ≤ (argsOf ns r).length → US m2 p o ns tv → CM m2 q c2 → unc ns.length c2 < n → 
        ∃ res c3 m3, l_f61_0 (.ptr p 0 0) (.int .i64 r) (.map q) av (.int .i64 (argsOf ns r).length) (.int .i64 i) m2 = (if res = true then some (.ret (.bool true), m3) else k_f61_1 (.ptr p 0 0) (.int .i64 r) (.map q) av (.int .i64 (argsOf ns r).length) (.int .i64 (argsOf ns r).length) m3) ∧
          Dfs ns ((argsOf ns r).drop i) c2 res c3 ∧ CM m3 q c3 ∧ On q m2 m3 ∧ ∀ j, c2 j ≠ 0 → c3 j ≠ 0 := by
      intro k
      induction k with
      | zero =>
        intro i m2 c2 hk hi hu2 hc2 _
        have : i = (argsOf ns r).length := by omega
        subst this
        rw [l_f61_0_eq]
        simp only [aBin_lss, bnd_some, Int.lt_irrefl, decide_false, onBool_false]
        exact ⟨false, c2, m2, by rw [if_neg (by simp)], by rw [List.drop_length]; exact .nil, hc2, .refl .., fun _ h => h⟩
      | succ k ihk =>
        intro i m2 c2 hk hi hu2 hc2 hun
        have hilt : i < (argsOf ns r).length := by omega
        have hd : (argsOf ns r).drop i = (argsOf ns r)[i] :: (argsOf ns r).drop (i + 1) := List.drop_eq_getElem_cons hilt
        have hix : rIxAddrSl 1 av (.int .i64 i) = some (.pim [.int .i64 ((argsOf ns r)[i] : Nat)]) := b2.ix (x := .int .i64 ((argsOf ns r)[i] : Nat)) (by simp [nts, hilt]) rfl rfl
        obtain ⟨res, c3, m3, d1, d2, d3, d4, d5⟩ := ih _ hun m2 c2 (argsOf ns r)[i] rfl hu2 hc2 (hav r _ (List.getElem_mem hilt))
        rw [l_f61_0_eq]
        simp only [aBin_lss, bnd_some]
        rw [decide_eq_true (by omega), onBool_true, k_f61_2_eq, hix, bnd_some, rLoad_pimc, List.getElem?_cons_zero, bnd_some, d1, retK_ret, hd]
        cases res with
        | true =>
          rw [onBool_true]
          refine ⟨true, c3, m3, by rw [if_pos rfl], ?_, d3, d4, d5⟩
          cases d2 with
          | black q1 q2 q3 => cases q3
          | gray q1 q2 => exact .gray q1 q2
          | down q1 q2 q3 q4 => cases q4
          | stop q1 q2 q3 => exact .stop q1 q2 q3
        | false =>
          rw [onBool_false, k_f61_3_eq]
          simp only [aBin_add, bnd_some]
          have := hal r
          rw [wrap64 (by omega) (by omega)]
          obtain ⟨res, c4, m4, e1, e2, e3, e4, e5⟩ := ihk (i + 1) m3 c3 (by omega) (by omega) (hu2.on d4 hqp hqo) d3 (Nat.lt_of_le_of_lt (unc_le d5) hun)
          refine ⟨res, c4, m4, e1, ?_, e3, d4.trans e4, fun j hj => e5 j (d5 j hj)⟩
          cases d2 with
          | black q1 q2 q3 => cases q3; exact .black q1 q2 e2
          | down q1 q2 q3 q4 => cases q4; exact .down q1 q2 q3 e2
    obtain ⟨res, c3, m3, d1, d2, d3, d4, d5⟩ := loop _ 0 m1 _ rfl (Nat.zero_le _) hu1 a2 (by omega)
    rw [k_f61_0_eq, a1, bnd_some]
    simp only [nilK_ptr, rFieldAddr_ptr, bnd_some]
    rw [l1, bnd_some, b1, bnd_some]
    simp only [nilK_ptr, rFieldAddr_ptr, bnd_some]
    have hlen : (nts (argsOf ns r)).length = (argsOf ns r).length := by simp [nts]
    have d1' : l_f61_0 (.ptr p 0 0) (.int .i64 r) (.map q) av (.int .i64 (argsOf ns r).length) (.int .i64 0) m1 = _ := d1
    rw [b5, bnd_some, b2.len, bnd_some, hlen, d1']
    have up0 : ∀ i, col i ≠ 0 → upd col r 1 i ≠ 0 := fun i hi => by unfold upd; split <;> simp [hi]
    cases res with
    | true =>
      rw [if_pos rfl]
      exact ⟨true, c3, m3, rfl, .stop hr hcr (by simpa using d2), d3, a3.trans d4, fun i hi => d5 i (up0 i hi)⟩
    | false =>
      rw [if_neg (by simp), k_f61_1_eq]
      obtain ⟨m4, f1, f2, f3⟩ := d3.put r 2 (.inr rfl) (b := true) rfl
      rw [f1, bnd_some]
      exact ⟨false, _, m4, rfl, .down hr hcr (by simpa using d2) .nil, f2, (a3.trans d4).trans f3, fun i hi => by
        unfold upd; split
        · simp
        · exact d5 i (up0 i hi)⟩
  · simp only [colAV, aExtract_tup, List.getElem?_cons_zero, List.getElem?_cons_succ, bnd_some, onBool_true, aUn_not, Bool.not_false]
    exact ⟨true, col, m, rfl, .gray hr hcr, hc, .refl .., fun _ h => h⟩
  · simp only [colAV, aExtract_tup, List.getElem?_cons_zero, List.getElem?_cons_succ, bnd_some, onBool_true, aUn_not, Bool.not_true]
    have := hc.le r
    exact ⟨false, col, m, rfl, .black hr (by omega) .nil, hc, .refl .., fun _ h => h⟩
end Go.AM
namespace Go.AM
open Go Go.Proofs Uni
set_option linter.unusedSimpArgs false
set_option linter.unusedVariables false
/-- what two numbers' being made alike comes to -/
def UnP (ns : List Nd) (a c : Nat) (e : Int) (ns' : List Nd) : Prop := ∃ ok ns1, Wk false ns [(a, c)] ok ns1 ∧
  ((ok = false ∧ e = 131 ∧ ns' = ns) ∨ (ok = true ∧ ¬ Fin ns1 (Sim ns1) a ∧ e = 130 ∧ ns' = ns) ∨ (ok = true ∧ Fin ns1 (Sim ns1) a ∧ e = 0 ∧ ns' = ns1))
theorem two_there {m : Mem} {p : Nat} {o : Option Nat} {ns : List Nd} {tv : AV} (h : US m p o ns tv) (a c : Int) : ∃ m', w_f50 (.ptr p 0 0) (.sl .full [.int .i64 a, .int .i64 c]) m = some (.ret (.bool (inB ns.length a && inB ns.length c)), m') ∧ Kept m m' := by
  obtain ⟨m', h1, h2⟩ := there_s h (v := .sl .full [.int .i64 a, .int .i64 c]) (l := [a, c]) (.sl _ _) (by simp)
  refine ⟨m', ?_, h2⟩
  rw [h1]; simp
/-- the trail is emptied -/
theorem US.reset {m : Mem} {p o : Nat} {ns : List Nd} {tv : AV} (h : US m p (some o) ns tv) : ∃ m', rStore 1 m (.ptr p 0 (0 + 1)) .nils = some m' ∧ MS m.next m' p o ns [] ∧ m'.next = m.next ∧ ∀ j, j ≠ p → m'.obj j = m.obj j := by
  obtain ⟨nv, l1, l2, l3, l4⟩ := h.load
  have st : rStore 1 m (.ptr p 0 (0 + 1)) .nils = some (m.set p (.row [nv, .nils] 0)) := rStore_ptr l3 rfl rfl rfl
  cases l4 with
  | row _ ver cs _ h1 h2 h3 h4 =>
    refine ⟨_, st, ⟨⟨.nils, ⟨by simpa using h.lt, .ms o ver 0 ns.length 4, by simp, .row o ver cs ns (by simpa using h1) h2 (by rw [set_obj, if_neg h2]; exact h3) h4⟩, .nil⟩, h.lt, h1, by simp⟩, by simp, fun j hj => by rw [set_obj, if_neg hj]⟩
theorem clear_nil {ns : List Nd} : clear ns [] = ns := rfl
theorem alike_s {m : Mem} {p o : Nat} {ns : List Nd} {tv : AV} (h : US m p (some o) ns tv) (g : Uni.Good ns) (hl : ns.length ≤ 1000000) (hal : ∀ i, (argsOf ns i).length ≤ 1000000) (a c : Int) :
    ∃ b m' tv', w_f27 (.ptr p 0 0) (.int .i64 a) (.int .i64 c) m = some (.ret (.bool b), m') ∧ US m' p (some o) ns tv' ∧ Fr p (some o) m m' ∧
      (b = true ↔ 0 ≤ a ∧ a < ns.length ∧ 0 ≤ c ∧ c < ns.length ∧ Te ns a.toNat c.toNat) := by
  obtain ⟨m1, t1, t2⟩ := two_there h a c
  have es : rBuildSlice A_int 2 [(0, .int .i64 a), (1, .int .i64 c)] = some (.sl .full [.int .i64 a, .int .i64 c]) := rfl
  rw [e_f27, es, bnd_some, t1, retK_ret, aUn_not, bnd_some]
  have hu1 := h.kept t2
  cases hI : (inB ns.length a && inB ns.length c) with
  | false =>
    rw [Bool.not_false, onBool_true]
    refine ⟨false, m1, tv, rfl, hu1, t2.fr _ _, fun h => (by cases h), fun ⟨h1, h2, h3, h4, _⟩ => ?_⟩
    unfold inB at hI
    rw [decide_eq_true ⟨h1, h2⟩, decide_eq_true ⟨h3, h4⟩] at hI
    cases hI
  | true =>
    unfold inB at hI
    simp only [Bool.and_eq_true, decide_eq_true_eq] at hI
    obtain ⟨⟨ha0, ha1⟩, hc0, hc1⟩ := hI
    obtain ⟨a, rfl⟩ := Int.eq_ofNat_of_zero_le ha0
    obtain ⟨c, rfl⟩ := Int.eq_ofNat_of_zero_le hc0
    rw [Bool.not_true, onBool_false, k_f27_0_eq]
    obtain ⟨m2, r1, r2, r3, r4⟩ := hu1.reset
    have hcl := cnt_le ns
    obtain ⟨ok, m3, ns', tr', s1, s2⟩ := merge_s m1.next p o true _ m2 ns [] a c rfl r2 g.lk g.av (by omega) (by omega) (by simp; omega) hal
    have htr : tr'.length ≤ 1000000 := by have := s2.ct; simp at this; omega
    obtain ⟨m4, u1, u2, u3⟩ := s2.ms.undo htr (fun x hx => by rw [s2.sd.len]; exact s2.tl (by simp) x hx)
    rw [s2.cl, clear_nil] at u2
    obtain ⟨tv', v1, _⟩ := u2.ex
    have hw : Wk true ns [(a, c)] ok ns' := by
      have w := s2.wk
      cases ok with
      | true => rw [if_pos rfl] at w; exact w [] true ns' (.nil _)
      | false =>
        rw [if_neg (by simp)] at w
        exact w []
    have htell := hw.tells g (by omega) (by omega)
    refine ⟨ok, m4, tv', ?_, v1, ?_, ?_⟩
    · simp only [nilK_ptr, rFieldAddr_ptr, bnd_some]
      rw [r1, bnd_some, s1, retK_ret, u1, retK_ret]
    · refine (t2.fr _ _).trans ⟨by have := s2.fr.next; have := u3.next; omega, fun j j1 j2 j3 => ?_⟩
      have j3' : j ≠ o := fun e => j3 (by rw [e])
      exact ((u3.obj j j1 j2 j3').trans (s2.fr.obj j j1 j2 j3')).trans (r4 j j2)
    · rw [htell]
      exact ⟨fun h => ⟨ha0, ha1, hc0, hc1, h⟩, fun h => h.2.2.2.2⟩
theorem unify_s {m : Mem} {p o : Nat} {ns : List Nd} {tv : AV} (h : US m p (some o) ns tv) (g : Uni.Good ns) (hv : Vn ns) (hl : ns.length ≤ 1000000) (hal : ∀ i, (argsOf ns i).length ≤ 1000000) (a c : Int) :
    ∃ e m' ns' tv', w_f31 (.ptr p 0 0) (.int .i64 a) (.int .i64 c) m = some (.ret (.int .i64 e), m') ∧ US m' p (some o) ns' tv' ∧ Fr p (some o) m m' ∧
      (((inB ns.length a && inB ns.length c) = false ∧ e = 221 ∧ ns' = ns) ∨ ((inB ns.length a && inB ns.length c) = true ∧ UnP ns a.toNat c.toNat e ns')) := by
  obtain ⟨m1, t1, t2⟩ := two_there h a c
  have es : rBuildSlice A_int 2 [(0, .int .i64 a), (1, .int .i64 c)] = some (.sl .full [.int .i64 a, .int .i64 c]) := rfl
  rw [e_f31, es, bnd_some, t1, retK_ret, aUn_not, bnd_some]
  have hu1 := h.kept t2
  cases hI : (inB ns.length a && inB ns.length c) with
  | false =>
    rw [Bool.not_false, onBool_true]
    exact ⟨221, m1, ns, tv, rfl, hu1, t2.fr _ _, .inl ⟨rfl, rfl, rfl⟩⟩
  | true =>
    unfold inB at hI
    simp only [Bool.and_eq_true, decide_eq_true_eq] at hI
    obtain ⟨⟨ha0, ha1⟩, hc0, hc1⟩ := hI
    obtain ⟨a, rfl⟩ := Int.eq_ofNat_of_zero_le ha0
    obtain ⟨c, rfl⟩ := Int.eq_ofNat_of_zero_le hc0
    rw [Bool.not_true, onBool_false, k_f31_0_eq]
    obtain ⟨m2, r1, r2, r3, r4⟩ := hu1.reset
    have hcl := cnt_le ns
    obtain ⟨ok, m3, ns1, tr1, s1, s2⟩ := merge_s m1.next p o false _ m2 ns [] a c rfl r2 g.lk g.av (by omega) (by omega) (by simp; omega) hal
    have htr : tr1.length ≤ 1000000 := by have := s2.ct; simp at this; omega
    have hw : Wk false ns [(a, c)] ok ns1 := by
      have w := s2.wk
      cases ok with
      | true => rw [if_pos rfl] at w; exact w [] true ns1 (.nil _)
      | false =>
        rw [if_neg (by simp)] at w
        exact w []
    have frAll : ∀ {m' : Mem}, FrB m1.next p o m2 m' → Fr p (some o) m m' := fun {m'} f => (t2.fr _ _).trans ⟨by have := f.next; omega, fun j j1 j2 j3 => by
      have j3' : j ≠ o := fun e => j3 (by rw [e])
      exact (f.obj j j1 j2 j3').trans (r4 j j2)⟩
    -- all links away
    have back : ∀ (m3 : Mem) (e : Int), e ≠ 0 → MS m1.next m3 p o ns1 tr1 → FrB m1.next p o m2 m3 → ∃ m' tv', k_f31_1 (.ptr p 0 0) (.int .i64 e) m3 = some (.ret (.int .i64 e), m') ∧ US m' p (some o) ns tv' ∧ Fr p (some o) m m' := by
      intro m3 e he hM hF
      obtain ⟨m4, u1, u2, u3⟩ := hM.undo htr (fun x hx => by rw [s2.sd.len]; exact s2.tl (by simp) x hx)
      rw [s2.cl, clear_nil] at u2
      obtain ⟨tv', v1, _⟩ := u2.ex
      refine ⟨m4, tv', ?_, v1, frAll (hF.trans u3)⟩
      rw [k_f31_1_eq, aBin_neq, bnd_some, decide_eq_true he, onBool_true, u1, retK_ret, k_f31_2_eq]
    simp only [nilK_ptr, rFieldAddr_ptr, bnd_some]
    rw [r1, bnd_some, s1, retK_ret, aUn_not, bnd_some]
    cases ok with
    | false =>
      rw [Bool.not_false, onBool_true]
      obtain ⟨m', tv', b1, b2, b3⟩ := back m3 131 (by decide) s2.ms s2.fr
      exact ⟨131, m', ns, tv', b1, b2, b3, .inr ⟨trivial, false, ns1, hw, .inl ⟨rfl, rfl, rfl⟩⟩⟩
    | true =>
      rw [Bool.not_true, onBool_false, bindK_eq]
      obtain ⟨tv1, hu3, happ⟩ := s2.ms.ex
      have hbm := s2.ms.bm
      have hk3 : Kept m3 (m3.alloc (.map [])) := Kept.alloc m3 _
      have hcm : CM (m3.alloc (.map [])) m3.next (fun _ => 0) := ⟨⟨[], by simp, fun _ => rfl⟩, fun _ => by omega⟩
      have hpb := s2.ms.pb
      have hob := s2.ms.ob
      obtain ⟨res, col', m4, d1, d2, d3, d4, _⟩ := rounds_s (p := p) (o := some o) (q := m3.next) (by omega) (by simp; omega) s2.lk (g.av.sd s2.sd) (fun i => by rw [s2.sd.args]; exact hal i) _ (m3.alloc (.map [])) _ a rfl (hu3.kept hk3) hcm (by rw [s2.sd.len]; omega)
      have hM4 : MS m1.next m4 p o ns1 tr1 := ⟨⟨tv1, (hu3.kept hk3).on d4 (by omega) (by simp; omega), happ.move (by rw [d4.next]; simp) fun j j1 j2 => by rw [d4.obj j (by omega), alloc_obj, if_neg (by omega)]⟩, hpb, hob, by rw [d4.next]; simp; omega⟩
      have hF4 : FrB m1.next p o m2 m4 := s2.fr.trans ⟨by rw [d4.next]; simp, fun j j1 _ _ => by rw [d4.obj j (by omega), alloc_obj, if_neg (by omega)]⟩
      have htell := d2.tells (hw.clo g.cm) (hv.sd s2.sd)
      rw [d1, retK_ret]
      cases res with
      | true =>
        rw [onBool_true]
        obtain ⟨m', tv', b1, b2, b3⟩ := back m4 130 (by decide) hM4 hF4
        exact ⟨130, m', ns, tv', b1, b2, b3, .inr ⟨trivial, true, ns1, hw, .inr (.inl ⟨rfl, (fun hf => nomatch htell.2 hf), rfl, rfl⟩)⟩⟩
      | false =>
        rw [onBool_false, k_f31_1_eq, aBin_neq, bnd_some, decide_eq_false (by simp), onBool_false, k_f31_2_eq]
        obtain ⟨tv4, hu4, _⟩ := hM4.ex
        exact ⟨0, m4, ns1, tv4, rfl, hu4, frAll hF4, .inr ⟨trivial, true, ns1, hw, .inr (.inr ⟨rfl, htell.1 rfl, rfl, rfl⟩)⟩⟩
end Go.AM
namespace Go.AM
open Go Go.Proofs Uni
set_option linter.unusedSimpArgs false
set_option linter.unusedVariables false
/-- sizes that are known -/
structure KM (ns : List Nd) (m : Mem) (q : Nat) : Prop where
  ex : ∃ es, m.obj q = some (.map (iks es)) ∧ ∀ (r : Nat) v, mget es r = some v → ∃ t, St ns [r] t ∧ v = .int .i64 (fsz 0 t : Nat)
theorem KM.find {ns : List Nd} {m : Mem} {q : Nat} (h : KM ns m q) {r : Nat} {t : Fo} (ht : St ns [r] t) : rLookup A_int A_int m (.map q) (.int .i64 r) true = some (.tup [.int .i64 (fsz 0 t : Nat), .bool true]) ∨ rLookup A_int A_int m (.map q) (.int .i64 r) true = some (.tup [.int .i64 0, .bool false]) := by
  obtain ⟨es, h1, h2⟩ := h.ex
  rw [lookup_iks h1 rfl]
  cases hm : mget es r with
  | none => exact .inr rfl
  | some v =>
    obtain ⟨t', ht', rfl⟩ := h2 r v hm
    rw [ht.inj ht']
    exact .inl rfl
theorem KM.put {ns : List Nd} {m : Mem} {q : Nat} (h : KM ns m q) {r : Nat} {t : Fo} (ht : St ns [r] t) : ∃ m', rMapUpdate A_int m (.map q) (.int .i64 r) (.int .i64 (fsz 0 t : Nat)) = some m' ∧ KM ns m' q ∧ On q m m' := by
  obtain ⟨es, h1, h2⟩ := h.ex
  refine ⟨_, update_iks h1 rfl r _, ⟨mput es r (.int .i64 (fsz 0 t : Nat)), by simp, fun j v hj => ?_⟩, ⟨by simp, fun j hj => by rw [set_obj, if_neg hj]⟩⟩
  rw [mget_put] at hj
  by_cases he : (j : Int) = r
  · rw [if_pos he] at hj
    have : j = r := by omega
    subst this
    cases hj
    exact ⟨t, ht, rfl⟩
  · rw [if_neg he] at hj; exact h2 j v hj
theorem aMin2 (a b : Int) : aMin (.int .i64 a) [.int .i64 b] = some (.int .i64 (if b < a then b else a)) := by
  simp [aMin]
theorem st_split {ns : List Nd} {z : Nat} {zs : List Nat} {u : Fo} (h : St ns (z :: zs) u) : ∃ tz rest, St ns [z] tz ∧ St ns zs rest ∧ ∀ k, fsz k u = fsz (min (k + fsz 0 tz) 301) rest := by
  cases h with
  | v h1 h2 h3 => exact ⟨_, _, .v h1 h2 .nil, h3, fun k => rfl⟩
  | @c _ r _ aa t h1 h2 h3 h4 =>
    refine ⟨_, _, .c h1 h2 h3 .nil, h4, fun k => ?_⟩
    have := fsz_le aa 1 (by omega)
    simp only [fsz]
    congr 1
    omega
theorem size_s {p : Nat} {o : Option Nat} {ns : List Nd} {tv : AV} {q : Nat} (hqp : q ≠ p) (hqo : some q ≠ o) (g : Uni.Good ns) (hv : Vn ns) (hal : ∀ i, (argsOf ns i).length ≤ 1000000) {x : Nat} (hf : Uni.Fin ns (Sim ns) x) : ∀ (m : Mem) (t : Fo), US m p o ns tv → KM ns m q → St ns [x] t →
    ∃ m', w_f51 (.ptr p 0 0) (.int .i64 x) (.map q) m = some (.ret (.int .i64 (fsz 0 t : Nat)), m') ∧ KM ns m' q ∧ On q m m' := by
  induction hf with
  | @mk x _ ih =>
  intro m t hu hK ht
  obtain ⟨r, hr⟩ : ∃ r, Rt ns x r := by cases ht with | v h1 => exact ⟨_, h1⟩ | c h1 => exact ⟨_, h1⟩
  have htr : St ns [r] t := ht.alike hr.sim
  rw [e_f51, find_s hu hr, retK_ret]
  rcases hK.find htr with hf | hf
  · rw [hf, bnd_some]
    simp only [aExtract_tup, List.getElem?_cons_zero, List.getElem?_cons_succ, bnd_some, onBool_true]
    exact ⟨m, rfl, hK, .refl ..⟩
  · rw [hf, bnd_some]
    simp only [aExtract_tup, List.getElem?_cons_zero, List.getElem?_cons_succ, bnd_some, onBool_false]
    obtain ⟨nv, l1, l2, l3, l4⟩ := hu.load
    obtain ⟨oo, ver, av, b1, b2, _, _, b5, _, _⟩ := l4.node hr.is.1
    rw [← argsOf_get hr.is.1] at b2
    have loop : ∀ (j i k : Nat) (m2 : Mem) (u : Fo), (argsOf ns r).length - i = j → i ≤ (argsOf ns r).length → k ≤ 301 → US m2 p o ns tv → KM ns m2 q → St ns ((argsOf ns r).drop i) u →
        ∃ m3, l_f51_0 (.ptr p 0 0) (.int .i64 r) (.map q) (.int .i64 k) av (.int .i64 (argsOf ns r).length) (.int .i64 i) m2 = k_f51_1 (.ptr p 0 0) (.int .i64 r) (.map q) (.int .i64 (fsz k u : Nat)) av (.int .i64 (argsOf ns r).length) (.int .i64 (argsOf ns r).length) m3 ∧ KM ns m3 q ∧ On q m2 m3 := by
      intro j
      induction j with
      | zero =>
        intro i k m2 u hj hi hk hu2 hK2 hst
        have : i = (argsOf ns r).length := by omega
        subst this
        rw [List.drop_length] at hst
        cases hst
        rw [l_f51_0_eq]
        simp only [aBin_lss, bnd_some, Int.lt_irrefl, decide_false, onBool_false]
        exact ⟨m2, rfl, hK2, .refl ..⟩
      | succ j ihj =>
        intro i k m2 u hj hi hk hu2 hK2 hst
        have hilt : i < (argsOf ns r).length := by omega
        have hd : (argsOf ns r).drop i = (argsOf ns r)[i] :: (argsOf ns r).drop (i + 1) := List.drop_eq_getElem_cons hilt
        have hix : rIxAddrSl 1 av (.int .i64 i) = some (.pim [.int .i64 ((argsOf ns r)[i] : Nat)]) := b2.ix (x := .int .i64 ((argsOf ns r)[i] : Nat)) (by simp [nts, hilt]) rfl rfl
        rw [hd] at hst
        obtain ⟨tz, rest, z1, z2, z3⟩ := st_split hst
        obtain ⟨m3, c1, c2, c3⟩ := ih r _ hr.sim (List.getElem_mem hilt) m2 tz hu2 hK2 z1
        have hsz := fsz_le tz 0 (by omega)
        obtain ⟨m4, e1, e2, e3⟩ := ihj (i + 1) (min (k + fsz 0 tz) 301) m3 rest (by omega) (by omega) (by omega) (hu2.on c3 hqp hqo) c2 z2
        refine ⟨m4, ?_, e2, c3.trans e3⟩
        rw [l_f51_0_eq]
        simp only [aBin_lss, bnd_some]
        rw [decide_eq_true (by omega), onBool_true, k_f51_2_eq, hix, bnd_some, rLoad_pimc, List.getElem?_cons_zero, bnd_some, c1, retK_ret, aBin_add, bnd_some, wrap64 (by omega) (by omega), aMin2, bnd_some, k_f51_3_eq]
        simp only [aBin_add, bnd_some]
        have := hal r
        rw [wrap64 (by omega) (by omega), z3 k, ← e1]
        congr 2
        split <;> omega
    have hu' : ∃ u, St ns (argsOf ns r) u ∧ fsz 1 u = fsz 0 t := by
      cases htr with
      | v h1 h2 h3 =>
        cases h1.inj hr.self
        cases h3
        exact ⟨.nil, by rw [hv r h2]; exact .nil, rfl⟩
      | @c _ _ _ aa _ h1 h2 h3 h4 =>
        cases h1.inj hr.self
        cases h4
        refine ⟨_, h3, ?_⟩
        have := fsz_le aa 1 (by omega)
        simp only [fsz]; omega
    obtain ⟨u, u1, u2⟩ := hu'
    obtain ⟨m3, d1, d2, d3⟩ := loop _ 0 1 m u rfl (Nat.zero_le _) (by omega) hu hK (by simpa using u1)
    obtain ⟨m4, f1, f2, f3⟩ := d2.put htr
    refine ⟨m4, ?_, f2, d3.trans f3⟩
    have hlen : (nts (argsOf ns r)).length = (argsOf ns r).length := by simp [nts]
    have d1' : l_f51_0 (.ptr p 0 0) (.int .i64 r) (.map q) (.int .i64 1) av (.int .i64 (argsOf ns r).length) (.int .i64 0) m = _ := d1
    rw [k_f51_0_eq]
    simp only [nilK_ptr, rFieldAddr_ptr, bnd_some]
    rw [l1, bnd_some, b1, bnd_some]
    simp only [nilK_ptr, rFieldAddr_ptr, bnd_some]
    rw [b5, bnd_some, b2.len, bnd_some, hlen, d1', k_f51_1_eq, u2, f1, bnd_some]
theorem Size_s {p : Nat} {o : Option Nat} {ns : List Nd} {tv : AV} {m : Mem} (h : US m p o ns tv) (g : Uni.Good ns) (hv : Vn ns) (hal : ∀ i, (argsOf ns i).length ≤ 1000000) (x : Int) :
    ∃ n m', w_f21 (.ptr p 0 0) (.int .i64 x) m = some (.ret (.int .i64 (n : Nat)), m') ∧ Kept m m' ∧ ((inB ns.length x = false ∧ n = 0) ∨ (inB ns.length x = true ∧ ∃ t, St ns [x.toNat] t ∧ n = fsz 0 t)) := by
  obtain ⟨m1, t1, t2⟩ := there_s h (v := .sl .full [.int .i64 x]) (l := [x]) (.sl _ _) (by simp)
  have es : rBuildSlice A_int 1 [(0, .int .i64 x)] = some (.sl .full [.int .i64 x]) := rfl
  rw [e_f21, es, bnd_some, t1, retK_ret, aUn_not, bnd_some]
  simp only [List.all_cons, List.all_nil, Bool.and_true]
  cases hI : inB ns.length x with
  | false =>
    rw [Bool.not_false, onBool_true]
    exact ⟨0, m1, rfl, t2, .inl ⟨rfl, rfl⟩⟩
  | true =>
    rw [Bool.not_true, onBool_false, k_f21_0_eq, bindK_eq]
    unfold inB at hI
    simp only [decide_eq_true_eq] at hI
    obtain ⟨n, rfl⟩ := Int.eq_ofNat_of_zero_le hI.1
    obtain ⟨t, ht⟩ := st_fin g.lk g.av (g.fin n) (by omega)
    have hu1 := h.kept t2
    have hk : Kept m1 (m1.alloc (.map [])) := Kept.alloc m1 _
    have hp : p < m1.next := hu1.lt
    have hoo : some m1.next ≠ o := by
      obtain ⟨nv, _, hnv⟩ := hu1.ex
      cases hnv with
      | nil => simp
      | row o ver cs ns h1 => simp; omega
    obtain ⟨m2, s1, s2, s3⟩ := size_s (q := m1.next) (by omega) hoo g hv hal (g.fin n) (m1.alloc (.map [])) t (hu1.kept hk) ⟨⟨[], by simp, fun r v h => by cases h⟩⟩ ht
    refine ⟨fsz 0 t, m2, ?_, ⟨by have := s3.next; have := t2.next; simp at *; omega, fun j hj => ?_⟩, .inr ⟨rfl, t, ht, rfl⟩⟩
    · have s1' : w_f51 (.ptr p 0 0) (.int .i64 (Int.ofNat n)) (.map m1.next) (m1.alloc (.map [])) = some (.ret (.int .i64 (fsz 0 t : Nat)), m2) := s1
      first | rw [s1, retK_ret] | rw [s1', retK_ret]
    · have := t2.next
      rw [s3.obj j (by omega), alloc_obj, if_neg (by omega)]; exact t2.obj j hj
end Go.AM
namespace Go.AM
open Go Go.Proofs Uni
set_option linter.unusedSimpArgs false
set_option linter.unusedVariables false
/-- rows of types -/
inductive TyL : Fo → List AV → Prop
  | nil : TyL .nil []
  | v {n : Nat} {rest : Fo} {xs : List AV} : TyL rest xs → TyL (.v n rest) (.agg [.int .i64 1, .int .i64 n, .str (bs []), .nils] :: xs)
  | c {k : Int} {nm : List UInt8} {aa rest : Fo} {w : AV} {ys xs : List AV} : HSl w ys → TyL aa ys → TyL rest xs → TyL (.c k nm aa rest) (.agg [.int .i64 k, .int .i64 0, .str (bs nm), w] :: xs)
theorem TyL.sized {t : Fo} {xs : List AV} (h : TyL t xs) : sized 4 xs = true := by
  induction h with
  | nil => rfl
  | v _ ih => simp only [AM.sized, cells_agg, List.length_cons, List.length_nil]; simpa using ih
  | c _ _ _ _ ih => simp only [AM.sized, cells_agg, List.length_cons, List.length_nil]; simpa using ih
/-- numbers of variables -/
structure VM (m : Mem) (q : Nat) (l : List Nat) : Prop where
  ex : ∃ es, m.obj q = some (.map (iks es)) ∧ es.length = l.length ∧ ∀ r : Nat, mget es r = if r ∈ l then some (.int .i64 (l.idxOf r : Nat)) else none
/-- but for the map all that there was stays -/
structure OnK (q : Nat) (m m' : Mem) : Prop where
  next : m.next ≤ m'.next
  obj : ∀ j, j < m.next → j ≠ q → m'.obj j = m.obj j
theorem OnK.refl (q : Nat) (m : Mem) : OnK q m m := ⟨Nat.le_refl _, fun _ _ _ => rfl⟩
theorem OnK.trans {q : Nat} {m1 m2 m3 : Mem} (h : OnK q m1 m2) (h' : OnK q m2 m3) : OnK q m1 m3 := ⟨Nat.le_trans h.next h'.next, fun j h1 h2 => (h'.obj j (Nat.lt_of_lt_of_le h1 h.next) h2).trans (h.obj j h1 h2)⟩
theorem Kept.onK {m m' : Mem} (h : Kept m m') (q : Nat) : OnK q m m' := ⟨h.next, fun j h1 _ => h.obj j h1⟩
theorem On.onK {q : Nat} {m m' : Mem} (h : On q m m') : OnK q m m' := ⟨by rw [h.next]; exact Nat.le_refl _, fun j _ h2 => h.obj j h2⟩
theorem US.onK {m m' : Mem} {p : Nat} {o : Option Nat} {ns : List Nd} {tv : AV} {q : Nat} (h : US m p o ns tv) (k : OnK q m m') (hp : q ≠ p) (ho : some q ≠ o) : US m' p o ns tv := by
  obtain ⟨nv, h1, h2⟩ := h.ex
  refine ⟨Nat.lt_of_lt_of_le h.lt k.next, nv, (k.obj p h.lt (Ne.symm hp)).trans h1, ?_⟩
  cases h2 with
  | nil => exact .nil
  | row o ver cs ns g1 g2 g3 g4 => exact .row o ver cs ns (Nat.lt_of_lt_of_le g1 k.next) g2 ((k.obj o g1 fun e => ho (by rw [e])).trans g3) g4
theorem VM.kept {m m' : Mem} {q : Nat} {l : List Nat} (h : VM m q l) (hq : q < m.next) (k : Kept m m') : VM m' q l := by
  obtain ⟨es, h1, h2⟩ := h.ex
  exact ⟨es, (k.obj q hq).trans h1, h2⟩
theorem VM.find {m : Mem} {q : Nat} {l : List Nat} (h : VM m q l) (r : Nat) : rLookup A_int A_int m (.map q) (.int .i64 r) true = some (if r ∈ l then .tup [.int .i64 (l.idxOf r : Nat), .bool true] else .tup [.int .i64 0, .bool false]) := by
  obtain ⟨es, h1, _, h2⟩ := h.ex
  rw [lookup_iks h1 rfl, h2]
  by_cases hr : r ∈ l
  · rw [if_pos hr, if_pos hr]
  · rw [if_neg hr, if_neg hr]; rfl
theorem VM.len {m : Mem} {q : Nat} {l : List Nat} (h : VM m q l) : rLenMap m (.map q) = some (.int .i64 l.length) := by
  obtain ⟨es, h1, h2, _⟩ := h.ex
  simp [rLenMap, h1, h2]
theorem VM.put {m : Mem} {q : Nat} {l : List Nat} (h : VM m q l) {r : Nat} (hr : r ∉ l) : ∃ m', rMapUpdate A_int m (.map q) (.int .i64 r) (.int .i64 l.length) = some m' ∧ VM m' q (l ++ [r]) ∧ On q m m' := by
  obtain ⟨es, h1, h2, h3⟩ := h.ex
  refine ⟨_, update_iks h1 rfl r _, ⟨mput es r (.int .i64 l.length), by simp, ?_, fun j => ?_⟩, ⟨by simp, fun j hj => by rw [set_obj, if_neg hj]⟩⟩
  · rw [mput_new (by rw [h3, if_neg hr]), h2]; simp
  · rw [mget_put]
    by_cases hj : j = r
    · subst hj
      rw [if_pos rfl, if_pos (by simp), List.idxOf_append, if_neg hr]; simp
    · rw [if_neg (by omega), h3]
      by_cases hl : j ∈ l
      · rw [if_pos hl, if_pos (by simp [hl]), List.idxOf_append, if_pos hl]
      · rw [if_neg hl, if_neg (by simp [hl, hj])]
end Go.AM
namespace Go.AM
open Go Go.Proofs Uni
set_option linter.unusedSimpArgs false
set_option linter.unusedVariables false
abbrev tyZero : List AV := [.int .i64 0, .int .i64 0, .str (bs []), .nils]
theorem tyBox (m : Mem) : aBox m (.agg [.int .i64 0, .int .i64 0, .str (bs []), .nils]) = some (.ptr m.next 0 0, m.alloc (.row tyZero 0)) := rfl
theorem ndBox (m : Mem) : aBox m (.agg [.int .i64 0, .str (bs []), .nils, .int .i64 0]) = some (.ptr m.next 0 0, m.alloc (.row [.int .i64 0, .str (bs []), .nils, .int .i64 0] 0)) := rfl
theorem row4 {m : Mem} {o : Nat} {x y z w : AV} (h : m.obj o = some (.row [x, y, z, w] 0)) : rLoad false 1 m (.ptr o 0 (0 + 0)) = some x ∧ rLoad false 1 m (.ptr o 0 (0 + 1)) = some y ∧ rLoad false 1 m (.ptr o 0 (0 + 2)) = some z ∧ rLoad false 1 m (.ptr o 0 (0 + 3)) = some w ∧ rLoad true 4 m (.ptr o 0 0) = some (.agg [x, y, z, w]) := by
  refine ⟨?_, ?_, ?_, ?_, ?_⟩ <;> rw [rLoad_ptr, cells_of h] <;> rfl
theorem put4 {m : Mem} {o : Nat} {x y z w a b c d : AV} (h : m.obj o = some (.row [x, y, z, w] 0)) : rStore 4 m (.ptr o 0 0) (.agg [a, b, c, d]) = some (m.set o (.row [a, b, c, d] 0)) := rStore_ptr h rfl rfl rfl
/-- the end of a variable's typ -/
theorem typ_var {m : Mem} {b6 : Nat} {x y z w : AV} (h : m.obj b6 = some (.row [x, y, z, w] 0)) (v1 v2 : AV) (n : Nat) : k_f54_1 v1 v2 (.ptr b6 0 0) (.int .i64 n) m = some (.ret (.agg [.int .i64 1, .int .i64 n, .str (bs []), .nils]), m.set b6 (.row [.int .i64 1, .int .i64 n, .str (bs []), .nils] 0)) := by
  have eb : rBuild [.int .i64 0, .int .i64 0, .str (bs []), .nils] [(0, 1, .int .i64 1), (1, 1, .int .i64 (n : Int))] = some (.agg [.int .i64 1, .int .i64 n, .str (bs []), .nils]) := rfl
  have h2 : (m.set b6 (.row [.int .i64 1, .int .i64 n, .str (bs []), .nils] 0)).obj b6 = some (.row [.int .i64 1, .int .i64 n, .str (bs []), .nils] 0) := by simp
  rw [k_f54_1_eq, eb, bnd_some, put4 h, bnd_some, (row4 h2).2.2.2.2, bnd_some]
/-- but for the map and one box all that stands below b stays -/
structure FrT (q c b : Nat) (m m' : Mem) : Prop where
  next : m.next ≤ m'.next
  obj : ∀ j, j < b → j ≠ q → j ≠ c → m'.obj j = m.obj j
theorem FrT.refl (q c b : Nat) (m : Mem) : FrT q c b m m := ⟨Nat.le_refl _, fun _ _ _ _ => rfl⟩
theorem FrT.trans {q c b : Nat} {m1 m2 m3 : Mem} (h : FrT q c b m1 m2) (h' : FrT q c b m2 m3) : FrT q c b m1 m3 := ⟨Nat.le_trans h.next h'.next, fun j h1 h2 h3 => (h'.obj j h1 h2 h3).trans (h.obj j h1 h2 h3)⟩
theorem US.oo {m : Mem} {p : Nat} {o : Option Nat} {ns : List Nd} {tv : AV} (h : US m p o ns tv) : ∀ o', o = some o' → o' < m.next := by
  obtain ⟨nv, _, hnv⟩ := h.ex
  intro o' e
  cases hnv with
  | nil => cases e
  | row o ver cs ns h1 => cases e; exact h1
theorem US.move {m m' : Mem} {p : Nat} {o : Option Nat} {ns : List Nd} {tv : AV} (h : US m p o ns tv) (hn : m.next ≤ m'.next) (hp : m'.obj p = m.obj p) (ho : ∀ o', o = some o' → m'.obj o' = m.obj o') : US m' p o ns tv := by
  obtain ⟨nv, h1, h2⟩ := h.ex
  refine ⟨Nat.lt_of_lt_of_le h.lt hn, nv, hp.trans h1, ?_⟩
  cases h2 with
  | nil => exact .nil
  | row o ver cs ns g1 g2 g3 g4 => exact .row o ver cs ns (Nat.lt_of_lt_of_le g1 hn) g2 ((ho o rfl).trans g3) g4
theorem US.frT {m m' : Mem} {p : Nat} {o : Option Nat} {ns : List Nd} {tv : AV} {q c b : Nat} (h : US m p o ns tv) (k : FrT q c b m m') (hp : p < b) (hpq : p ≠ q) (hpc : p ≠ c) (ho : ∀ o', o = some o' → o' < b ∧ o' ≠ q ∧ o' ≠ c) : US m' p o ns tv :=
  h.move k.next (k.obj p hp hpq hpc) fun o' e => k.obj o' (ho o' e).1 (ho o' e).2.1 (ho o' e).2.2
theorem st_cut {ns : List Nd} {z : Nat} {zs : List Nat} {u : Fo} (h : St ns (z :: zs) u) : ∃ tz rest, St ns [z] tz ∧ St ns zs rest ∧ ∀ l, mets l u = mets (mets l tz) rest ∧ ∀ v zs', TyL (num l tz) [v] → TyL (num (mets l tz) rest) zs' → TyL (num l u) (v :: zs') := by
  cases h with
  | v h1 h2 h3 =>
    refine ⟨_, _, .v h1 h2 .nil, h3, fun l => ⟨rfl, fun v zs' g1 g2 => ?_⟩⟩
    cases g1
    exact .v g2
  | c h1 h2 h3 h4 =>
    refine ⟨_, _, .c h1 h2 h3 .nil, h4, fun l => ⟨rfl, fun v zs' g1 g2 => ?_⟩⟩
    cases g1 with
    | c a1 a2 _ => exact .c a1 a2 g2
theorem TyL.one {t : Fo} {v : AV} (h : TyL t [v]) : ∃ a b c d, v = .agg [a, b, c, d] := by
  cases h with
  | v => exact ⟨_, _, _, _, rfl⟩
  | c => exact ⟨_, _, _, _, rfl⟩
theorem typ_s {p : Nat} {o : Option Nat} {ns : List Nd} {tv : AV} {q : Nat} (hqp : q ≠ p) (hqo : some q ≠ o) (g : Uni.Good ns) (hal : ∀ i, (argsOf ns i).length ≤ 1000000) {x : Nat} (hf : Uni.Fin ns (Sim ns) x) : ∀ (m : Mem) (t : Fo) (l : List Nat), US m p o ns tv → VM m q l → q < m.next → St ns [x] t →
    ∃ v m', w_f54 (.ptr p 0 0) (.int .i64 x) (.map q) m = some (.ret v, m') ∧ TyL (num l t) [v] ∧ VM m' q (mets l t) ∧ OnK q m m' := by
  induction hf with
  | @mk x _ ih =>
  intro m t l hu hV hq ht
  obtain ⟨r, hr⟩ : ∃ r, Rt ns x r := by cases ht with | v h1 => exact ⟨_, h1⟩ | c h1 => exact ⟨_, h1⟩
  have k1 : Kept m (m.alloc (.row tyZero 0)) := Kept.alloc m _
  have hu1 := hu.kept k1
  obtain ⟨nv, l1, _, _, l4⟩ := hu1.load
  obtain ⟨oo, ver, av, b1, b2, _, _, _, _, b7⟩ := l4.node hr.is.1
  rw [← argsOf_get hr.is.1] at b2
  rw [← kOf_get hr.is.1, ← nmOf_get hr.is.1] at b7
  generalize upI (ns[r]'hr.is.1).up = ux at b7
  generalize hm4 : ((m.alloc (.row tyZero 0)).alloc (.row [.int .i64 0, .str (bs []), .nils, .int .i64 0] 0)).set (m.next + 1) (.row [.int .i64 (kOf ns r), .str (bs (nmOf ns r)), av, .int .i64 (ux)] 0) = m4
  have st7 : rStore 4 ((m.alloc (.row tyZero 0)).alloc (.row [.int .i64 0, .str (bs []), .nils, .int .i64 0] 0)) (.ptr (m.alloc (.row tyZero 0)).next 0 0) (.agg [.int .i64 (kOf ns r), .str (bs (nmOf ns r)), av, .int .i64 (ux)]) = some m4 := by
    rw [← hm4]; exact put4 (x := .int .i64 0) (y := .str (bs [])) (z := .nils) (w := .int .i64 0) (by simp)
  have k4 : Kept m m4 := by
    rw [← hm4]
    exact ⟨by simp; omega, fun j hj => by simp only [set_obj, alloc_obj, alloc_next]; rw [if_neg (by omega), if_neg (by omega), if_neg (by omega)]⟩
  have n4 : m4.next = m.next + 2 := by rw [← hm4]; simp
  have o7 : m4.obj (m.next + 1) = some (.row [.int .i64 (kOf ns r), .str (bs (nmOf ns r)), av, .int .i64 (ux)] 0) := by rw [← hm4]; simp
  have o6 : m4.obj m.next = some (.row tyZero 0) := by rw [← hm4]; simp
  have hu4 := hu.kept k4
  have hV4 := hV.kept hq k4
  obtain ⟨d1, d2, d3, d4, d5⟩ := row4 o7
  rw [e_f54, tyBox, memK_some, find_s hu1 hr, retK_ret]
  simp only [nilK_ptr, rFieldAddr_ptr, bnd_some]
  rw [l1, bnd_some, b1, bnd_some, b7, bnd_some, ndBox, memK_some, st7, bnd_some]
  try simp only [nilK_ptr, rFieldAddr_ptr, bnd_some]
  have e7 : (m.alloc (.row tyZero 0)).next = m.next + 1 := rfl
  rw [e7, d1, bnd_some, aBin_eql, bnd_some]
  cases ht with
  | v h1 h2 h3 =>
    cases h1.inj hr
    cases h3
    have done : ∀ (m5 : Mem) (n : Nat), n = (met l r).idxOf r → VM m5 q (met l r) → OnK q m4 m5 → m5.obj m.next = some (.row tyZero 0) → ∀ v1 v2 : AV, ∃ v m', k_f54_1 v1 v2 (.ptr m.next 0 0) (.int .i64 n) m5 = some (.ret v, m') ∧ TyL (num l (.v r .nil)) [v] ∧ VM m' q (mets l (.v r .nil)) ∧ OnK q m m' := by
      intro m5 n hn hV5 hO ho v1 v2
      refine ⟨_, _, typ_var ho v1 v2 n, by simp only [num, hn]; exact .v .nil, ?_, ?_⟩
      · obtain ⟨es, a1, a2⟩ := hV5.ex
        exact ⟨es, by rw [set_obj, if_neg (by omega)]; exact a1, a2⟩
      · have h0 := (k4.onK q).trans hO
        exact ⟨by simpa using h0.next, fun j j1 j2 => by rw [set_obj, if_neg (by omega)]; exact h0.obj j j1 j2⟩
    rw [h2, decide_eq_true rfl, onBool_true, hV4.find r, bnd_some]
    by_cases hm : r ∈ l
    · rw [if_pos hm]
      simp only [aExtract_tup, List.getElem?_cons_zero, List.getElem?_cons_succ, bnd_some, aUn_not, Bool.not_true, onBool_false]
      have em : met l r = l := by unfold met; rw [if_pos hm]
      exact done m4 _ (by rw [em]) (by rw [em]; exact hV4) (.refl ..) o6 _ _
    · rw [if_neg hm]
      simp only [aExtract_tup, List.getElem?_cons_zero, List.getElem?_cons_succ, bnd_some, aUn_not, Bool.not_false, onBool_true]
      obtain ⟨m5, c1, c2, c3⟩ := hV4.put hm
      have em : met l r = l ++ [r] := by unfold met; rw [if_neg hm]
      rw [hV4.len, bnd_some, c1, bnd_some]
      exact done m5 _ (by rw [em, List.idxOf_append, if_neg hm]; simp) (by rw [em]; exact c2) c3.onK (by rw [c3.obj _ (by omega)]; exact o6) _ _
  | @c _ _ _ aa _ h1 h2 h3 h4 =>
    cases h1.inj hr
    cases h4
    rw [decide_eq_false h2, onBool_false, k_f54_0_eq]
    have eb : rBuild [.int .i64 0, .int .i64 0, .str (bs []), .nils] [(0, 1, .int .i64 (kOf ns r)), (2, 1, .str (bs (nmOf ns r)))] = some (.agg [.int .i64 (kOf ns r), .int .i64 0, .str (bs (nmOf ns r)), .nils]) := rfl
    simp only [rFieldAddr_ptr, bnd_some]
    rw [d1, bnd_some, d2, bnd_some, eb, bnd_some, tyBox, memK_some, n4]
    generalize hm6 : (m4.alloc (.row tyZero 0)).set (m.next + 2) (.row [.int .i64 (kOf ns r), .int .i64 0, .str (bs (nmOf ns r)), .nils] 0) = m6
    have st10 : rStore 4 (m4.alloc (.row tyZero 0)) (.ptr (m.next + 2) 0 0) (.agg [.int .i64 (kOf ns r), .int .i64 0, .str (bs (nmOf ns r)), .nils]) = some m6 := by
      rw [← hm6]; exact put4 (x := .int .i64 0) (y := .int .i64 0) (z := .str (bs [])) (w := .nils) (by simp [n4])
    have n6 : m6.next = m.next + 3 := by rw [← hm6]; simp [n4]
    have o10 : m6.obj (m.next + 2) = some (.row [.int .i64 (kOf ns r), .int .i64 0, .str (bs (nmOf ns r)), .nils] 0) := by rw [← hm6]; simp
    have k6 : ∀ j, j < m.next + 2 → m6.obj j = m4.obj j := fun j hj => by rw [← hm6, set_obj, alloc_obj, if_neg (by omega), if_neg (by omega)]
    have kk6 : Kept m4 m6 := ⟨by omega, fun j hj => k6 j (by omega)⟩
    have o76 := (k6 (m.next + 1) (by omega)).trans o7
    have hlen : (nts (argsOf ns r)).length = (argsOf ns r).length := by simp [nts]
    rw [st10, bnd_some]
    try simp only [rFieldAddr_ptr, bnd_some]
    rw [(row4 o76).2.2.1, bnd_some, b2.len, bnd_some, hlen]
    have hplt := hu.lt
    have holt := hu.oo
    have loop : ∀ (j i : Nat) (m2 : Mem) (u : Fo) (l2 : List Nat) (w : AV) (ys : List AV), (argsOf ns r).length - i = j → i ≤ (argsOf ns r).length → US m2 p o ns tv → VM m2 q l2 → m.next + 3 ≤ m2.next → m2.obj (m.next + 2) = some (.row [.int .i64 (kOf ns r), .int .i64 0, .str (bs (nmOf ns r)), w] 0) →
        App (m.next + 3) 4 m2 w ys → ys.length = i → St ns ((argsOf ns r).drop i) u →
        ∃ w' zs m3, l_f54_0 (.ptr p 0 0) (.map q) (.ptr m.next 0 0) (.ptr (m.next + 2) 0 0) av (.int .i64 (argsOf ns r).length) (.int .i64 i) m2 = k_f54_2 (.ptr p 0 0) (.map q) (.ptr m.next 0 0) (.ptr (m.next + 2) 0 0) av (.int .i64 (argsOf ns r).length) (.int .i64 (argsOf ns r).length) m3 ∧
          m3.obj (m.next + 2) = some (.row [.int .i64 (kOf ns r), .int .i64 0, .str (bs (nmOf ns r)), w'] 0) ∧ HSl w' (ys ++ zs) ∧ TyL (num l2 u) zs ∧ VM m3 q (mets l2 u) ∧ FrT q (m.next + 2) (m.next + 3) m2 m3 := by
      intro j
      induction j with
      | zero =>
        intro i m2 u l2 w ys hj hi hu2 hV2 hn2 hb hA hy hst
        have : i = (argsOf ns r).length := by omega
        subst this
        rw [List.drop_length] at hst
        cases hst
        rw [l_f54_0_eq]
        simp only [aBin_lss, bnd_some, Int.lt_irrefl, decide_false, onBool_false]
        exact ⟨w, [], m2, rfl, hb, by simpa using hA.hsl, .nil, hV2, .refl ..⟩
      | succ j ihj =>
        intro i m2 u l2 w ys hj hi hu2 hV2 hn2 hb hA hy hst
        have hilt : i < (argsOf ns r).length := by omega
        have hd : (argsOf ns r).drop i = (argsOf ns r)[i] :: (argsOf ns r).drop (i + 1) := List.drop_eq_getElem_cons hilt
        have hix : rIxAddrSl 1 av (.int .i64 i) = some (.pim [.int .i64 ((argsOf ns r)[i] : Nat)]) := b2.ix (x := .int .i64 ((argsOf ns r)[i] : Nat)) (by simp [nts, hilt]) rfl rfl
        rw [hd] at hst
        obtain ⟨tz, rest, z1, z2, z3⟩ := st_cut hst
        obtain ⟨v, m3, c1, c2, c3, c4⟩ := ih r _ hr.sim (List.getElem_mem hilt) m2 tz l2 hu2 hV2 (by omega) z1
        obtain ⟨va, vb, vc, vd, rfl⟩ := c2.one
        have n3 := c4.next
        have hb3 := (c4.obj (m.next + 2) (by omega) (by omega)).trans hb
        have hA3 : App (m.next + 3) 4 m3 w ys := hA.move c4.next fun j' j1 j2 => c4.obj j' j2 (by omega)
        have hal' := hal r
        have hbytes : A_api_Type.bytes = 56 := rfl
        obtain ⟨w5, m5, p1, p2, p3, _⟩ := App.append (A := A_api_Type) (b := m.next + 3) (m := m3) (v := w) (w := .sl .full [.agg [va, vb, vc, vd]]) (xs := ys) (ys := [.agg [va, vb, vc, vd]]) hA3 (by omega) (.sl _ _) rfl ⟨by decide, rfl⟩ (by rw [hbytes]; simp only [List.length_cons, List.length_nil]; omega) (by simp only [List.length_cons, List.length_nil]; omega)
        have p2' : App (m.next + 3) 4 m5 w5 (ys ++ [.agg [va, vb, vc, vd]]) := p2
        have hb5 := (p3.obj (m.next + 2) (by omega)).trans hb3
        have n5 := p3.next
        have st5 : rStore 1 m5 (.ptr (m.next + 2) 0 (0 + 3)) w5 = some (m5.set (m.next + 2) (.row [.int .i64 (kOf ns r), .int .i64 0, .str (bs (nmOf ns r)), w5] 0)) := rStore_ptr hb5 p2.hsl.cells rfl rfl
        have hF : FrT q (m.next + 2) (m.next + 3) m2 (m5.set (m.next + 2) (.row [.int .i64 (kOf ns r), .int .i64 0, .str (bs (nmOf ns r)), w5] 0)) := ⟨by simp; omega, fun j' j1 j2 j3 => by rw [set_obj, if_neg j3, p3.obj j' j1, c4.obj j' (by omega) j2]⟩
        have hV5 : VM (m5.set (m.next + 2) (.row [.int .i64 (kOf ns r), .int .i64 0, .str (bs (nmOf ns r)), w5] 0)) q (mets l2 tz) := by
          obtain ⟨es, a1, a2⟩ := c3.ex
          exact ⟨es, by rw [set_obj, if_neg (by omega), p3.obj q (by omega)]; exact a1, a2⟩
        obtain ⟨w', zs, m8, e1, e2, e3, e4, e5, e6⟩ := ihj (i + 1) _ rest (mets l2 tz) w5 (ys ++ [.agg [va, vb, vc, vd]]) (by omega) (by omega)
          (hu2.frT hF (by omega) (Ne.symm hqp) (by omega) fun o' e => ⟨by have := holt o' e; omega, fun e' => hqo (by rw [e, e']), by have := holt o' e; omega⟩) hV5 (by simp; omega) (by simp)
          (p2'.move (by simp) fun j' j1 j2 => by rw [set_obj, if_neg (by omega)]) (by simp [hy]) z2
        refine ⟨w', .agg [va, vb, vc, vd] :: zs, m8, ?_, e2, by simpa using e3, (z3 l2).2 _ _ c2 e4, by rw [(z3 l2).1]; exact e5, hF.trans e6⟩
        have es : rBuildSlice A_api_Type 1 [(0, .agg [va, vb, vc, vd])] = some (.sl .full [.agg [va, vb, vc, vd]]) := rfl
        rw [l_f54_0_eq]
        simp only [aBin_lss, bnd_some]
        rw [decide_eq_true (by omega), onBool_true, k_f54_3_eq, hix, bnd_some, rLoad_pimc, List.getElem?_cons_zero, bnd_some]
        simp only [rFieldAddr_ptr, bnd_some]
        rw [(row4 hb).2.2.2.1, bnd_some, c1, retK_ret, es, bnd_some, p1, memK_some]
        try simp only [rFieldAddr_ptr, bnd_some]
        rw [st5, bnd_some, (row4 hb3).2.2.2.1, bnd_some, sameK_self, k_f54_4_eq]
        simp only [aBin_add, bnd_some]
        rw [wrap64 (by omega) (by omega), ← e1]
        rfl
    obtain ⟨w', zs, m8, e1, e2, e3, e4, e5, e6⟩ := loop _ 0 m6 aa l .nils [] rfl (Nat.zero_le _) (hu4.kept kk6) (hV4.kept (by omega) kk6) (by omega) o10 .nil rfl (by simpa using h3)
    have o68 : m8.obj m.next = some (.row tyZero 0) := (e6.obj m.next (by omega) (by omega) (by omega)).trans ((k6 _ (by omega)).trans o6)
    have e1' : l_f54_0 (.ptr p 0 0) (.map q) (.ptr m.next 0 0) (.ptr (m.next + 2) 0 0) av (.int .i64 (argsOf ns r).length) (.int .i64 0) m6 = _ := e1
    rw [e1', k_f54_2_eq, (row4 e2).2.2.2.2, bnd_some, put4 o68, bnd_some]
    have o9 : (m8.set m.next (.row [.int .i64 (kOf ns r), .int .i64 0, .str (bs (nmOf ns r)), w'] 0)).obj m.next = some (.row [.int .i64 (kOf ns r), .int .i64 0, .str (bs (nmOf ns r)), w'] 0) := by simp
    rw [(row4 o9).2.2.2.2, bnd_some]
    refine ⟨_, _, rfl, .c (by simpa using e3) e4 .nil, ?_, by have := e6.next; simp; omega, fun j j1 j2 => ?_⟩
    · obtain ⟨es, a1, a2⟩ := e5.ex
      exact ⟨es, by rw [set_obj, if_neg (by omega)]; exact a1, a2⟩
    · rw [set_obj, if_neg (by omega), e6.obj j (by omega) j2 (by omega), k6 j (by omega)]; exact k4.obj j j1
end Go.AM
