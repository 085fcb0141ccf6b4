/-
  Regions, control, calls: the abstract machine's run stands for the model's.
-/
import Derived.Test.YtpffgljpkehgmaaAMOps
import Derived.Test.YtpffgljpkehgmaaAMNext
import Derived.Scope
set_option linter.unusedVariables false
set_option linter.unusedSimpArgs false
namespace Go.AM
open Go
set_option linter.unusedSimpArgs false
set_option linter.unusedVariables false
theorem Post.trans {Γ Γ1 Γ2 : Gh} {m m1 m2 : Mem} {w w1 w2 : World} (hr : Rel Γ m w) (hf : Fresh Γ m.next m1.next) (h : Post Γ m w Γ1 m1 w1) (k : Post Γ1 m1 w1 Γ2 m2 w2) : Post Γ m w Γ2 m2 w2 := by
  have still : ∀ o, m.obj o = none → ¬ (m.next ≤ o ∧ o < m1.next) → m1.obj o = none := fun o ho hno => by
    rcases Nat.lt_or_ge o m.next with hlt | hge
    · exact h.mem.none o hlt ho
    · exact h.rel.above o (by omega)
  refine ⟨h.le.trans k.le, k.rel, ⟨Nat.le_trans h.frame.size k.frame.size, k.frame.os.trans h.frame.os, k.frame.tape.trans h.frame.tape, k.frame.output.trans h.frame.output, fun b hb hl hn => ?_⟩, ⟨fun b o ho => ?_, fun t ht => ?_, fun b hb hfr => ?_⟩, h.mem.trans k.mem, fun b o hko hkn => ?_, fun t hkt hkn => ?_⟩
  · rw [k.frame.block b (Nat.lt_of_lt_of_le hb h.frame.size) (by rcases le_lit (h.le.1 b) hl with e | e; rw [h.ids.free b hb e]; rfl; exact e) (fun o ho => ?_), h.frame.block b hb hl hn]
    rcases le_owner (h.le.1 b) ho with hfree | hown
    · have := h.ids.free b hb hfree
      rw [this] at ho; cases ho
    · have hmo := hn o hown
      rcases Nat.lt_or_ge o m.next with hlt | hge
      · exact h.mem.none o hlt hmo
      · refine h.rel.above o ?_
        rcases Nat.lt_or_ge o m1.next with h1 | h1
        · exact absurd ⟨hge, h1⟩ (hf.role b o (owner_id hown))
        · exact h1
  · rcases k.ids.role b o ho with h1 | h1 | h1
    · rcases h.ids.role b o h1 with h2 | h2 | h2
      · exact .inl h2
      · exact .inr (.inl ⟨h2.1, Nat.lt_of_lt_of_le h2.2.1 k.mem.next, h2.2.2.1, k.mem.some o h2.2.2.2⟩)
      · exact .inr (.inr h2)
    · exact .inr (.inl ⟨Nat.le_trans h.mem.next h1.1, h1.2.1, Nat.le_trans h.frame.size h1.2.2.1, h1.2.2.2⟩)
    · have hlt : o < m1.next := by
        rcases Nat.lt_or_ge o m1.next with h2 | h2
        · exact h2
        · exact absurd (h.rel.above o h2) h1.2
      rcases Nat.lt_or_ge o m.next with h2 | h2
      · exact .inr (.inr ⟨Nat.le_trans h.frame.size h1.1, fun e => h1.2 (h.mem.none o h2 e)⟩)
      · exact .inr (.inl ⟨h2, Nat.lt_of_lt_of_le hlt k.mem.next, Nat.le_trans h.frame.size h1.1, k.mem.some o h1.2⟩)
  · rcases k.ids.tok t ht with h1 | h1
    · rcases h.ids.tok t h1 with h2 | h2
      · exact .inl h2
      · exact .inr ⟨h2.1, Nat.lt_of_lt_of_le h2.2.1 k.mem.next, k.mem.some t h2.2.2⟩
    · exact .inr ⟨Nat.le_trans h.mem.next h1.1, h1.2.1, h1.2.2⟩
  · exact k.ids.free b (Nat.lt_of_lt_of_le hb h.frame.size) (h.ids.free b hb hfr)
  · rw [k.keep b o (by rw [h.keep b o hko hkn]; exact hko) (still o hkn (fun hh => hf.role b o hko hh)), h.keep b o hko hkn]
  · rw [k.keepTok t (by rw [h.keepTok t hkt hkn]; exact hkt) (still t hkn (fun hh => hf.tok t hkt hh)), h.keepTok t hkt hkn]
/-- how an exit stands for one -/
inductive ExitRel (Γ : Gh) : AExit → Exit → Prop
  | normal : ExitRel Γ .normal .normal
  | exit (id : Nat) : ExitRel Γ (.exit id) (.exit id)
  | ret : ExitRel Γ .ret .ret
  | panic {v : AV} {u : Value} (h : VRel Γ v u) : ExitRel Γ (.panic v) (.panic [{ v := u, recovered := false }])
inductive OutRel (Γ : Gh) : AOut → Ending → Prop
  | ret {v : AV} {u : Value} (h : VRel Γ v u) : OutRel Γ (.ret v) (.returned u)
  | pan {v : AV} {u : Value} (h : VRel Γ v u) : OutRel Γ (.pan v) (.panicked [{ v := u, recovered := false }])
def ArgsRel (Γ : Gh) (as : List AV) (vs : Array Value) : Prop := vs.size = as.length ∧ ∀ (i : Nat) a v, as[i]? = some a → vs[i]? = some v → VRel Γ a v
def Callable (P : Program) (f : FuncId) : Prop := ∃ fn, P.funcs[f]? = some fn ∧ (fn.name == "runtime.NumGoroutine") = false ∧ fn.body.isNone = false
/-- calls that can be told are what the model does -/
def CallsOk (P : Program) (call : CallV) : Prop := ∀ f args m o m', call f args m = some (o, m') → Callable P f ∧
  ∀ Γ w vs, Rel Γ m w → Fresh Γ m.next m'.next → ArgsRel Γ args vs → Calls P f vs w fun e w' => ∃ Γ', Post Γ m w Γ' m' w' ∧ OutRel Γ' o e
def callOk (o : Op) : Bool := match o with
  | .call c => c.operands.all opOk
  | .panic x => opOk x
  | op => opsOk op
def QPost (Γ : Gh) (m : Mem) (w : World) (e : AExit) (a : AAct) (m' : Mem) : Exit → Act → World → Prop :=
  fun e' b w' => ∃ Γ', Post Γ m w Γ' m' w' ∧ ExitRel Γ' e e' ∧ ActRel Γ' a b
theorem ActRel.set_undef {Γ : Gh} {a : AAct} {b : Act} (h : ActRel Γ a b) (t : Nat) : ActRel Γ { a with tmps := a.tmps.set t .undef } b := by
  refine ⟨by simp [h.len], fun s x v hx hv => ?_, h.defers⟩
  simp only [List.getElem?_set] at hx
  split at hx
  · split at hx
    · cases hx; exact .undef _
    · cases hx
  · exact h.rel s x v hx hv
theorem ActRel.killed {Γ : Gh} {b : Act} : ∀ (ts : List Nat) {a : AAct}, ActRel Γ a b → ActRel Γ (AM.killed ts a) b
  | [], a, h => h
  | t :: ts, a, h => by
    have := ActRel.killed ts (h.set_undef t)
    exact this
theorem undefRel {Γ : Gh} : VRel Γ (.tup []) Go.undef := .tup rfl fun i a v h => by simp at h
theorem ActRel.set_same {Γ : Gh} {a : AAct} {b : Act} (h : ActRel Γ a b) {t : Nat} {c : AV} (hc : a.tmps.getD t .undef = c) : ActRel Γ { a with tmps := a.tmps.set t c } b := by
  refine ⟨by simp [h.len], fun s x v hx hv => ?_, h.defers⟩
  simp only [List.getElem?_set] at hx
  split at hx
  · rename_i e
    subst e
    split at hx
    · rename_i hlt
      cases hx
      have := h.rel t a.tmps[t] v (List.getElem?_eq_getElem hlt) hv
      simp only [List.getD, List.getElem?_eq_getElem hlt, Option.getD_some] at hc
      rwa [hc] at this
    · cases hx
  · exact h.rel s x v hx hv
theorem guard_run {α : Type} {Γ : Gh} {all : List Oper} {o : Oper} {a : AAct} {b : Act} (ha : ActRel Γ a b) {k : Bool → AAct → Option α} {r : α} (h : aGuard all o a k none = some r) :
    ∃ wd a2, Region.wanted o (yielded all.toArray b.tmps) = wd ∧ ActRel Γ a2 b ∧ k wd a2 = some r := by
  unfold aGuard at h
  split at h
  · rename_i hg
    exact ⟨true, a, by simp [Region.wanted, hg], ha, h⟩
  · rename_i j want hg
    split at h
    · cases h
    · rename_i t ht
      have hy : ∀ c, a.tmps.getD t .undef = .bool c → yielded all.toArray b.tmps j = some c := by
        intro c hc
        have hlt : t < a.tmps.length := by
          rcases Nat.lt_or_ge t a.tmps.length with h' | h'
          · exact h'
          · simp [List.getD, List.getElem?_eq_none h'] at hc
        have hltb : t < b.tmps.size := by rw [ha.len]; exact hlt
        have hv := ha.rel t a.tmps[t] b.tmps[t] (List.getElem?_eq_getElem hlt) (Array.getElem?_eq_getElem hltb)
        simp only [List.getD, List.getElem?_eq_getElem hlt, Option.getD_some] at hc
        rw [hc] at hv
        have hb : b.tmps[t]? = some (.bool c) := by
          rw [Array.getElem?_eq_getElem hltb]
          generalize b.tmps[t] = y at *
          cases hv; rfl
        simp [yielded, ht, hb]
      split at h
      · rename_i hc
        exact ⟨want, _, by simp [Region.wanted, hg, hy true hc], ha.set_same hc, h⟩
      · rename_i hc
        exact ⟨!want, _, by simp [Region.wanted, hg, hy false hc], ha.set_same hc, h⟩
      · rename_i hc
        refine ⟨false, _, ?_, ha.set_same hc, h⟩
        have hlt : t < a.tmps.length := by
          rcases Nat.lt_or_ge t a.tmps.length with h' | h'
          · exact h'
          · simp [List.getD, List.getElem?_eq_none h'] at hc
        have hltb : t < b.tmps.size := by rw [ha.len]; exact hlt
        have hv := ha.rel t a.tmps[t] b.tmps[t] (List.getElem?_eq_getElem hlt) (Array.getElem?_eq_getElem hltb)
        simp only [List.getD, List.getElem?_eq_getElem hlt, Option.getD_some] at hc
        rw [hc] at hv
        have hb : ∃ vs, b.tmps[t]? = some (.tuple vs) := by
          rw [Array.getElem?_eq_getElem hltb]
          generalize b.tmps[t] = y at *
          cases hv; exact ⟨_, rfl⟩
        obtain ⟨vs, hb⟩ := hb
        simp [Region.wanted, hg, yielded, ht, hb]
      · cases h
theorem arr1 {α : Type} {a : Array α} (h : a.size = 1) : ∃ x, a = #[x] := by
  obtain ⟨l⟩ := a
  match l, h with
  | [x], _ => exact ⟨x, rfl⟩
theorem arr2 {α : Type} {a : Array α} (h : a.size = 2) : ∃ x y, a = #[x, y] := by
  obtain ⟨l⟩ := a
  match l, h with
  | [x, y], _ => exact ⟨x, y, rfl⟩
theorem arrs {α : Type} {a : Array α} {n : Nat} (h : a.size = n + 1) : ∃ x l, a = (x :: l).toArray ∧ l.length = n := by
  obtain ⟨l⟩ := a
  match l, h with
  | x :: l, h => exact ⟨x, l, rfl, by simpa using h⟩
section
variable {P : Program} {X : Ctx} (hT : TOk P X.T) {call : CallV} (hC : CallsOk P call)
include hT hC
/-- ONE OPERATION. next: what is owed behind it. -/
theorem aOper_run {Γ : Gh} {m m' : Mem} {w : World} (hr : Rel Γ m w) {a : AAct} {b : Act} (ha : ActRel Γ a b) {o : Oper} {f r i : Nat} {out : AOut} (hk : callOk o.op = true)
    (h : aOper X call f r i o a m = some (out, m')) (hf : Fresh Γ m.next m'.next) {next : Act → World → Prop} {Q : Exit → Act → World → Prop}
    (hret : ∀ v, out = .ret v → ∀ Γ' u w', Post Γ m w Γ' m' w' → VRel Γ' v u → next (b.put o.dst u) w')
    (hpan : ∀ v, out = .pan v → ∀ Γ' u w', Post Γ m w Γ' m' w' → VRel Γ' v u → Q (.panic [{ v := u, recovered := false }]) b w') :
    o.wp P b w next Q := by
  have fin : ∀ v, out = .ret v → OpDone P Γ m w (execOp b.eval o) v m' → o.wp P b w next Q := by
    rintro v rfl ⟨nx, u, w', Γ', hrun, hnx, hv, hp⟩
    unfold Oper.wp
    rw [hrun]
    rcases hnx with rfl | ⟨rfl, rfl⟩
    · exact hret v rfl Γ' u w' hp hv
    · exact hret v rfl Γ' _ w' hp hv
  unfold aOper at h
  split at h
  · rename_i c hop
    have hkc : c.operands.all opOk = true := by rw [hop] at hk; exact hk
    have hargs : ArgsRel Γ (c.args.toList.map a.eval) (c.args.map b.eval) := by
      refine ⟨by simp, fun j x u hx hu => ?_⟩
      refine mapRel ha c.args.toList ?_ j x u hx (by rw [← Array.getElem?_toList] at hu; simpa using hu)
      simp only [Call.operands, Array.all_append, Bool.and_eq_true] at hkc
      simpa using hkc.2
    split at h
    · rename_i bi hcal
      simp only [Option.map_eq_some_iff] at h
      obtain ⟨⟨v, m1⟩, hb, h⟩ := h
      cases h
      have hex : execOp b.eval o = builtin bi c.argTypes o.type (c.args.map fun | .const _ => true | _ => false) (c.args.map b.eval) := by
        simp only [execOp, hop, resolve, hcal]
        rfl
      refine fin v rfl ?_
      rw [hex]
      unfold aBuiltin at hb
      split at hb
      · rename_i t x hts hxs
        simp only [Option.map_eq_some_iff] at hb
        obtain ⟨u, hu, hb⟩ := hb
        cases hb
        have e1 : c.argTypes = #[t] := by rw [← Array.toArray_toList (xs := c.argTypes), hts]
        obtain ⟨x', hx'⟩ := arr1 (a := c.args.map b.eval) (by rw [hargs.1, hxs]; rfl)
        rw [e1, hx']
        have hxr := hargs.2 0 x x' (by rw [hxs]; rfl) (by rw [hx']; rfl)
        exact OpDone.of (.pure hr (aLen_run hT hr hu hxr))
      · rename_i st xt s x hts hxs
        have e1 : c.argTypes = #[st, xt] := by rw [← Array.toArray_toList (xs := c.argTypes), hts]
        obtain ⟨s', x', hx'⟩ := arr2 (a := c.args.map b.eval) (by rw [hargs.1, hxs]; rfl)
        rw [e1, hx']
        exact OpDone.of (aAppend_run hT hr hb (hargs.2 0 s s' (by rw [hxs]; rfl) (by rw [hx']; rfl)) (hargs.2 1 x x' (by rw [hxs]; rfl) (by rw [hx']; rfl)) hf)
      · rename_i t t2 x k hts hxs
        simp only [Option.map_eq_some_iff] at hb
        obtain ⟨u, hu, hb⟩ := hb
        cases hb
        have e1 : c.argTypes = #[t, t2] := by rw [← Array.toArray_toList (xs := c.argTypes), hts]
        obtain ⟨x', k', hx'⟩ := arr2 (a := c.args.map b.eval) (by rw [hargs.1, hxs]; rfl)
        rw [e1, hx']
        exact OpDone.of (aDelete_run hT hr hu (hargs.2 0 x x' (by rw [hxs]; rfl) (by rw [hx']; rfl)) (hargs.2 1 k k' (by rw [hxs]; rfl) (by rw [hx']; rfl)))
      · rename_i x xs hxs
        simp only [Option.map_eq_some_iff] at hb
        obtain ⟨u, hu, hb⟩ := hb
        cases hb
        obtain ⟨x', l, hx', hl⟩ := arrs (a := c.args.map b.eval) (n := xs.length) (by rw [hargs.1, hxs]; rfl)
        rw [hx']
        refine OpDone.of (.pure hr ?_)
        obtain ⟨y, h1, h2⟩ := aMin_run (P := P) (w := w) xs l x v x' hu (hargs.2 0 x x' (by rw [hxs]; rfl) (by rw [hx']; rfl)) hl.symm (fun j p q hp hq => hargs.2 (j + 1) p q (by rw [hxs]; simpa using hp) (by rw [hx']; simpa using hq))
        exact ⟨y, by simpa [Builtin.min_] using h1, h2⟩
      · rename_i x xs hxs
        simp only [Option.map_eq_some_iff] at hb
        obtain ⟨u, hu, hb⟩ := hb
        cases hb
        obtain ⟨x', l, hx', hl⟩ := arrs (a := c.args.map b.eval) (n := xs.length) (by rw [hargs.1, hxs]; rfl)
        rw [hx']
        refine OpDone.of (.pure hr ?_)
        obtain ⟨y, h1, h2⟩ := aMax_run (P := P) (w := w) xs l x v x' hu (hargs.2 0 x x' (by rw [hxs]; rfl) (by rw [hx']; rfl)) hl.symm (fun j p q hp hq => hargs.2 (j + 1) p q (by rw [hxs]; simpa using hp) (by rw [hx']; simpa using hq))
        exact ⟨y, by simpa [Builtin.max_] using h1, h2⟩
      · cases hb
    · rename_i g hcal
      split at h
      · rename_i k first cap hg
        obtain ⟨⟨fn, hfn, hname, hbody⟩, hcall⟩ := hC _ _ _ _ _ h
        have hgo : opOk g = true := by
          simp only [Call.operands, hcal, Array.all_append, Bool.and_eq_true] at hkc
          simpa using hkc.1
        have hgr := ha.eval g hgo
        rw [hg] at hgr
        generalize hge : b.eval g = gv at *
        cases hgr with
        | fn h1 h2 h3 h4 =>
          rename_i fs cs
          have hex : (execOp b.eval o).run P w = .ok (.enter k ((fs ++ c.args.map b.eval) ++ cs)) w := by
            simp only [execOp, hop, resolve, hcal, hge, Deferred.ofValue]
            have hname' : ¬ fn.name = "runtime.NumGoroutine" := by simpa using hname
            have hbody' : ¬ fn.body = none := by intro e; rw [e] at hbody; cases hbody
            simp [invoke, callFunc, hfn, hname', hbody']
          have hall : ArgsRel Γ (first ++ c.args.toList.map a.eval ++ cap) ((fs ++ c.args.map b.eval) ++ cs) := by
            refine ⟨by simp [h1, h2], fun j x u hx hu => ?_⟩
            rcases Nat.lt_or_ge j (first ++ c.args.toList.map a.eval).length with hj | hj
            · rw [List.getElem?_append_left hj] at hx
              rw [Array.getElem?_append_left (by simp [h1] at hj ⊢; omega)] at hu
              rcases Nat.lt_or_ge j first.length with hj2 | hj2
              · rw [List.getElem?_append_left hj2] at hx
                rw [Array.getElem?_append_left (by omega)] at hu
                exact h3 j x u hx hu
              · rw [List.getElem?_append_right hj2] at hx
                rw [Array.getElem?_append_right (by omega), h1] at hu
                exact hargs.2 _ x u hx hu
            · rw [List.getElem?_append_right hj] at hx
              rw [Array.getElem?_append_right (by simp [h1] at hj ⊢; omega)] at hu
              have e : (fs ++ c.args.map b.eval).size = (first ++ c.args.toList.map a.eval).length := by simp [h1]
              rw [e] at hu
              exact h4 _ x u hx hu
          unfold Oper.wp
          rw [hex]
          refine (hcall Γ w _ hr hf hall).mono ?_
          rintro e w' ⟨Γ', hp, hout⟩
          cases hout with
          | ret hv => exact hret _ rfl Γ' _ w' hp hv
          | pan hv => exact hpan _ rfl Γ' _ w' hp hv
      · cases h
    · cases h
  · rename_i x hop
    have hkx : opOk x = true := by rw [hop] at hk; exact hk
    have hxr := ha.eval x hkx
    split at h
    · rename_i t v hx
      cases h
      rw [hx] at hxr
      generalize hxe : b.eval x = xv at *
      cases hxr with
      | iface hv =>
        rename_i u
        unfold Oper.wp
        have : (execOp b.eval o).run P w = .halt (.panic (.iface t u)) w := by
          simp [execOp, hop, hxe, Instr.panic]
        rw [this]
        exact hpan _ rfl Γ _ w (.refl hr) (.iface hv)
    · cases h
  · rename_i op hn1 hn2
    simp only [Option.map_eq_some_iff] at h
    obtain ⟨⟨v, m1⟩, hb, h⟩ := h
    cases h
    refine fin v rfl (aOp_run hT hr ha ?_ hb hf)
    unfold callOk at hk
    split at hk
    · exact absurd ‹o.op = _› (hn1 _)
    · exact absurd ‹o.op = _› (hn2 _)
    · exact hk
variable (hM : CallMono call)
include hM
omit hT hC hM in
theorem QPost.from {Γ Γ1 : Gh} {m m1 m' : Mem} {w w1 : World} {e : AExit} {a : AAct} (hr : Rel Γ m w) (hf : Fresh Γ m.next m1.next) (p : Post Γ m w Γ1 m1 w1) {e' : Exit} {b : Act} {w' : World}
    (h : QPost Γ1 m1 w1 e a m' e' b w') : QPost Γ m w e a m' e' b w' := by
  obtain ⟨Γ', hp, he, ha⟩ := h
  exact ⟨Γ', p.trans hr hf hp, he, ha⟩
omit hT hC hM in
theorem wpOps_mono {ops : Array Oper} {Q Q' : Exit → Act → World → Prop} (hq : ∀ e a w, Q e a w → Q' e a w) : ∀ (l : List Nat) (a : Act) (w : World), wpOps P ops Q l a w → wpOps P ops Q' l a w
  | [], a, w, h => hq _ _ _ h
  | i :: l, a, w, h => by
    simp only [wpOps] at h ⊢
    cases ho : ops[i]? with
    | none => rw [ho] at h; exact wpOps_mono hq l a w h
    | some o =>
      rw [ho] at h
      simp only [] at h ⊢
      split at h
      · rename_i hw
        rw [if_pos hw]
        rcases h with h | ⟨h1, a0, w0, h2⟩
        · refine .inl ?_
          unfold Oper.wp at *
          generalize (execOp a.eval o).run P w = r at *
          cases r with
          | ok n w' =>
            cases n <;> simp only [Oper.upon] at h ⊢ <;>
              first
                | exact wpOps_mono hq l _ _ h
                | exact Calls.mono h (fun e w'' he => by
                    cases e with
                    | returned v => exact wpOps_mono hq l _ _ he
                    | panicked c => exact hq _ _ _ he
                    | outgrown => obtain ⟨a1, w1, h1⟩ := he; exact ⟨a1, w1, hq _ _ _ h1⟩)
                | exact Rows.mono h (fun _ _ he => wpOps_mono hq l _ _ he)
          | halt x w' => cases x <;> simp only [Oper.upon] at h ⊢ <;> exact hq _ _ _ h
        · exact .inr ⟨h1, a0, w0, hq _ _ _ h2⟩
      · rename_i hw
        rw [if_neg hw]
        exact wpOps_mono hq l _ _ h
/-- THE OPERATIONS OF A REGION, in the text's order. -/
theorem aOps_run {f r : Nat} {all : List Oper} (hall : all.all (fun o => callOk o.op) = true) : ∀ (ops : List Oper) (i : Nat) {Γ : Gh} {m m' : Mem} {w : World} {a a' : AAct} {b : Act} {e : AExit}, Rel Γ m w → ActRel Γ a b →
    all.drop i = ops → aOps X call f r all i ops a m = some (e, a', m') → Fresh Γ m.next m'.next →
    wpOps P all.toArray (QPost Γ m w e a' m') (List.range' i ops.length) b w
  | [], i, Γ, m, m', w, a, a', b, e, hr, ha, hd, h, hf => by
    cases h
    exact ⟨Γ, .refl hr, .normal, ha⟩
  | o :: ops, i, Γ, m, m', w, a, a', b, e, hr, ha, hd, h, hf => by
    have hoi : all[i]? = some o := by
      have : (all.drop i)[0]? = some o := by rw [hd]; rfl
      simpa using this
    have hd' : all.drop (i + 1) = ops := by rw [← List.drop_drop, hd]; rfl
    have hk : callOk o.op = true := List.all_eq_true.1 hall o (List.mem_of_getElem? hoi)
    simp only [aOps] at h
    obtain ⟨wd, a2, hw, ha2, h⟩ := guard_run ha h
    have hoi' : all.toArray[i]? = some o := by simpa using hoi
    simp only [List.length_cons, List.range'_succ]
    cases wd with
    | false =>
      simp only [Bool.false_eq_true, if_false] at h
      have ih := aOps_run hall ops (i + 1) hr (ha2.put o.dst undefRel) hd' h hf
      simp only [wpOps, hoi', hw, Bool.false_eq_true, if_false]
      exact ih
    | true =>
      simp only [if_true, Option.bind_eq_some_iff] at h
      obtain ⟨⟨out, m1⟩, ho, h⟩ := h
      have n1 := aOper_next hM ho
      simp only [wpOps, hoi', hw, if_true]
      refine .inl ?_
      cases out with
      | ret v =>
        simp only [] at h
        have n2 := aOps_next hM ops (i + 1) h
        refine aOper_run hT hC hr ha2 hk ho (hf.less (n1.nx n2 hr.above)) (fun v' hv' Γ1 u w1 hp hvr => ?_) (fun v' hv' => by cases hv')
        cases hv'
        have ih := aOps_run hall ops (i + 1) hp.rel ((ha2.mono hp.le).put o.dst hvr) hd' h (hf.later hp hr)
        exact wpOps_mono (fun e a w hq => QPost.from hr (hf.less (n1.nx n2 hr.above)) hp hq) _ _ _ ih
      | pan v =>
        simp only [Option.some.injEq, Prod.mk.injEq] at h
        obtain ⟨rfl, rfl, rfl⟩ := h
        refine aOper_run hT hC hr ha2 hk ho hf (fun v' hv' => by cases hv') (fun v' hv' Γ1 u w1 hp hvr => ?_)
        cases hv'
        exact ⟨Γ1, hp, .panic hvr, ha2.mono hp.le⟩
omit hT hC hM in
theorem QPost.kill {Γ : Gh} {m m' : Mem} {w : World} {e : AExit} {a : AAct} (ts : List Nat) {e' : Exit} {b : Act} {w' : World} (h : QPost Γ m w e a m' e' b w') : QPost Γ m w e (killed ts a) m' e' b w' := by
  obtain ⟨Γ', hp, he, ha⟩ := h
  exact ⟨Γ', hp, he, ha.killed ts⟩
/-- A REGION IN THE TEXT's ORDER. -/
theorem aRegion_plain {f id : Nat} {ops : Array Oper} (hall : ops.toList.all (fun o => callOk o.op) = true) {Γ : Gh} {m m' : Mem} {w : World} {a a' : AAct} {b : Act} {e : AExit} (hr : Rel Γ m w) (ha : ActRel Γ a b)
    (h : aRegion X call f id ops.toList false a m = some (e, a', m')) (hf : Fresh Γ m.next m'.next) : (Code.region id ops false).wp P (QPost Γ m w e a' m') b w := by
  simp only [aRegion, Option.bind_eq_some_iff] at h
  obtain ⟨⟨e1, a1, m1⟩, ho, h⟩ := h
  have key : e1 = e ∧ m1 = m' ∧ (a' = a1 ∨ ∃ ts, a' = killed ts a1) := by
    cases e1 with
    | normal => simp only [Bool.false_and, Bool.false_eq_true, if_false] at h; cases h; exact ⟨rfl, rfl, .inr ⟨_, rfl⟩⟩
    | _ => simp only [Bool.false_eq_true, if_false] at h; cases h; exact ⟨rfl, rfl, .inl rfl⟩
  obtain ⟨rfl, rfl, hk⟩ := key
  have hw := aOps_run hT hC hM hall ops.toList 0 hr ha (by simp) ho hf
  refine wp_region (wpOps_mono (fun e2 b2 w2 hq => ?_) _ _ _ (by
    have e : List.range' 0 ops.toList.length = List.range ops.size := by rw [List.range_eq_range']; simp
    rw [e] at hw
    simpa using hw))
  rcases hk with rfl | ⟨ts, rfl⟩
  · exact hq
  · exact hq.kill ts
omit hT hC hM in
def LoopWp (P : Program) (c : Code) (Q : Exit → Act → World → Prop) (a : Act) (w : World) : Prop :=
  ∀ (b : Frame) (k : List Item) (cs : List Frame), ∃ e a' w', Q e a' w' ∧ Arrives P (lone (b.at a (.code c :: .inLoop c :: k)) cs w) b k cs e a' w'
omit hT hC hM in
theorem loopWp_round {c : Code} {Q : Exit → Act → World → Prop} {a : Act} {w : World} (h : c.wp P (Exit.then (LoopWp P c Q) Q) a w) : LoopWp P c Q a w := by
  intro b k cs
  obtain ⟨e, a₁, w₁, hq, harr⟩ := h b (.inLoop c :: k) cs
  cases e with
  | normal =>
    obtain ⟨e₂, a₂, w₂, hq₂, harr₂⟩ := hq b k cs
    exact ⟨e₂, a₂, w₂, hq₂, .of_steps (Steps.trans harr (.one step_inLoop)) harr₂⟩
  | exit id => exact ⟨_, a₁, w₁, hq, .pass (x := .inLoop c) rfl (fun _ _ => .inl (by simp)) harr⟩
  | goto l => exact ⟨_, a₁, w₁, hq, .pass (x := .inLoop c) rfl (fun _ _ => .inl (by simp)) harr⟩
  | ret => exact ⟨_, a₁, w₁, hq, .pass (x := .inLoop c) rfl (fun _ _ => .inl (by simp)) harr⟩
  | panic ch => exact ⟨_, a₁, w₁, hq, .pass (x := .inLoop c) rfl (fun _ _ => .inl (by simp)) harr⟩
  | outgrown => exact ⟨_, a₁, w₁, hq, .pass (x := .inLoop c) rfl (fun _ _ => .inl (by simp)) harr⟩
omit hT hC hM in
theorem wp_loop_of {c : Code} {Q : Exit → Act → World → Prop} {a : Act} {w : World} (h : LoopWp P c Q a w) : (Code.loop c).wp P Q a w := fun b k cs =>
  let ⟨e, a', w', q, r⟩ := h b k cs
  ⟨e, a', w', q, .of_steps (.one step_loop) r⟩
/-- what is asked of a piece of code: operands that can be told, and regions that draw their order as drawOk says -/
def codeOk (drawOk : Nat → Array Oper → Bool) : Code → Bool
  | .region id ops draw => ops.toList.all (fun o => callOk o.op) && (!draw || drawOk id ops)
  | .seq x y => codeOk drawOk x && codeOk drawOk y
  | .cond c x y => opOk c && codeOk drawOk x && codeOk drawOk y
  | .block _ c => codeOk drawOk c
  | .loop c => codeOk drawOk c
  | .scope c => codeOk drawOk c
  | _ => true
omit hT hC hM in
def DrawSim (P : Program) (X : Ctx) (call : CallV) (f : Nat) (drawOk : Nat → Array Oper → Bool) : Prop := ∀ id ops, drawOk id ops = true → ops.toList.all (fun o => callOk o.op) = true →
  ∀ {Γ : Gh} {m m' : Mem} {w : World} {a a' : AAct} {b : Act} {e : AExit}, Rel Γ m w → ActRel Γ a b → aRegion X call f id ops.toList true a m = some (e, a', m') → Fresh Γ m.next m'.next →
    (Code.region id ops true).wp P (QPost Γ m w e a' m') b w
theorem aExec_run {n f : Nat} {drawOk : Nat → Array Oper → Bool} (hD : DrawSim P X call f drawOk) : ∀ (c : Code) (bid : Nat) {Γ : Gh} {m m' : Mem} {w : World} {a a' : AAct} {b : Act} {e : AExit}, codeOk drawOk c = true → Rel Γ m w → ActRel Γ a b →
    aExec X call n f bid c a m = some (e, a', m') → Fresh Γ m.next m'.next → c.wp P (QPost Γ m w e a' m') b w := by
  intro c
  induction c with
  | skip => intro bid Γ m m' w a a' b e hk hr ha h hf; cases h; exact wp_skip ⟨Γ, .refl hr, .normal, ha⟩
  | label l => intro bid Γ m m' w a a' b e hk hr ha h hf; cases h; exact wp_label ⟨Γ, .refl hr, .normal, ha⟩
  | region id ops draw =>
    intro bid Γ m m' w a a' b e hk hr ha h hf
    simp only [codeOk, Bool.and_eq_true, Bool.or_eq_true, Bool.not_eq_true'] at hk
    cases draw with
    | false => exact aRegion_plain hT hC hM hk.1 hr ha h hf
    | true => exact hD id ops (by simpa using hk.2) hk.1 hr ha h hf
  | seq x y ihx ihy =>
    intro bid Γ m m' w a a' b e hk hr ha h hf
    simp only [codeOk, Bool.and_eq_true] at hk
    simp only [aExec, Option.bind_eq_some_iff] at h
    obtain ⟨⟨e1, a1, m1⟩, ho, h⟩ := h
    have n1 := aExec_next hM _ _ ho
    cases e1 with
    | normal =>
      have n2 := aExec_next hM _ _ h
      refine wp_seq (wp_mono (ihx bid hk.1 hr ha ho (hf.less (n1.nx n2 hr.above))) (fun e' b' w' hq => ?_))
      obtain ⟨Γ1, hp, he, ha1⟩ := hq
      cases he
      exact wp_mono (ihy bid hk.2 hp.rel ha1 h (hf.later hp hr)) (fun e' b' w' hq => QPost.from hr (hf.less (n1.nx n2 hr.above)) hp hq)
    | _ =>
      cases h
      refine wp_seq (wp_mono (ihx bid hk.1 hr ha ho hf) (fun e' b' w' hq => ?_))
      obtain ⟨Γ1, hp, he, ha1⟩ := hq
      cases he
      exact ⟨Γ1, hp, by constructor <;> assumption, ha1⟩
  | cond c x y ihx ihy =>
    intro bid Γ m m' w a a' b e hk hr ha h hf
    simp only [codeOk, Bool.and_eq_true] at hk
    cases c with
    | tmp t =>
      have ht := ha.tmp t
      simp only [aExec] at h
      split at h
      · rename_i hc
        rw [hc] at ht
        have hb : b.eval (.tmp t) = .bool true := by
          simp only [Act.eval]
          generalize b.tmps.getD t Go.undef = y at *
          cases ht; rfl
        exact wp_cond_true hb (ihx bid hk.1.2 hr (ha.set_undef t) h hf)
      · rename_i hc
        rw [hc] at ht
        have hb : b.eval (.tmp t) = .bool false := by
          simp only [Act.eval]
          generalize b.tmps.getD t Go.undef = y at *
          cases ht; rfl
        exact wp_cond_false hb (ihy bid hk.2 hr (ha.set_undef t) h hf)
      · cases h
    | const v =>
      cases v <;> simp only [aExec] at h <;> try (cases h; done)
      split at h
      · rename_i hc; subst hc; exact wp_cond_true rfl (ihx bid hk.1.2 hr ha h hf)
      · rename_i cc hc
        have hc : cc = false := by simpa using hc
        subst hc; exact wp_cond_false rfl (ihy bid hk.2 hr ha h hf)
    | _ => simp only [aExec] at h; cases h
  | block id c ih =>
    intro bid Γ m m' w a a' b e hk hr ha h hf
    simp only [aExec, Option.bind_eq_some_iff] at h
    obtain ⟨⟨e1, a1, m1⟩, ho, h⟩ := h
    cases e1 with
    | exit id' =>
      simp only [] at h
      split at h
      · rename_i hid
        cases h
        refine wp_block (wp_mono (ih id hk hr ha ho hf) (fun e' b' w' hq => ?_))
        obtain ⟨Γ1, hp, he, ha1⟩ := hq
        cases he
        simp only [Exit.inBlock, hid, if_true]
        exact ⟨Γ1, hp, .normal, ha1⟩
      · rename_i hid
        cases h
        refine wp_block (wp_mono (ih id hk hr ha ho hf) (fun e' b' w' hq => ?_))
        obtain ⟨Γ1, hp, he, ha1⟩ := hq
        cases he
        simp only [Exit.inBlock, hid, if_false]
        exact ⟨Γ1, hp, .exit _, ha1⟩
    | _ =>
      cases h
      refine wp_block (wp_mono (ih id hk hr ha ho hf) (fun e' b' w' hq => ?_))
      obtain ⟨Γ1, hp, he, ha1⟩ := hq
      cases he
      exact ⟨Γ1, hp, by constructor <;> assumption, ha1⟩
  | loop c ih =>
    intro bid Γ m m' w a a' b e hk hr ha h hf
    refine wp_loop_of ?_
    have key : ∀ (k : Nat) {Γ : Gh} {m : Mem} {w : World} {a : AAct} {b : Act}, Rel Γ m w → ActRel Γ a b → aLoop (X.lk f bid) (aExec X call n f bid c) k a m = some (e, a', m') → Fresh Γ m.next m'.next → LoopWp P c (QPost Γ m w e a' m') b w := by
      intro k
      induction k with
      | zero => intro Γ m w a b hr ha h hf; cases h
      | succ k ihk =>
        intro Γ m w a b hr ha h hf
        simp only [aLoop, Option.bind_eq_some_iff] at h
        obtain ⟨⟨e1, a1, m1⟩, ho, h⟩ := h
        refine loopWp_round ?_
        cases e1 with
        | normal =>
          simp only [] at h
          have n1 := aExec_next hM _ _ ho
          have n2 := aLoop_next (fun a m e a' m' h => aExec_next hM c bid h) k h
          refine wp_mono (ih bid hk hr (ha.killed _) ho (hf.less (n1.nx n2 hr.above))) (fun e' b' w' hq => ?_)
          obtain ⟨Γ1, hp, he, ha1⟩ := hq
          cases he
          have := ihk hp.rel ha1 h (hf.later hp hr)
          intro bb kk cs
          obtain ⟨e2, a2, w2, hq2, harr⟩ := this bb kk cs
          exact ⟨e2, a2, w2, QPost.from hr (hf.less (n1.nx n2 hr.above)) hp hq2, harr⟩
        | _ =>
          cases h
          refine wp_mono (ih bid hk hr (ha.killed _) ho hf) (fun e' b' w' hq => ?_)
          obtain ⟨Γ1, hp, he, ha1⟩ := hq
          cases he
          exact ⟨Γ1, hp, by constructor <;> assumption, ha1⟩
    exact key n hr ha h hf
  | scope c ih =>
    intro bid Γ m m' w a a' b e hk hr ha h hf
    refine wp_scope_straight (wp_mono (ih bid hk hr ha h hf) (fun e' b' w' hq => ?_))
    obtain ⟨Γ1, hp, he, ha1⟩ := hq
    cases he <;> exact ⟨Γ1, hp, by constructor <;> assumption, ha1⟩
  | exit id => intro bid Γ m m' w a a' b e hk hr ha h hf; cases h; exact wp_exit ⟨Γ, .refl hr, .exit id, ha⟩
  | ret => intro bid Γ m m' w a a' b e hk hr ha h hf; cases h; exact wp_ret ⟨Γ, .refl hr, .ret, ha⟩
  | rangeFunc f p x y _ _ => intro bid Γ m m' w a a' b e hk hr ha h hf; cases h
  | goto l => intro bid Γ m m' w a a' b e hk hr ha h hf; cases h
  | refuse s => intro bid Γ m m' w a a' b e hk hr ha h hf; cases h
omit hT hC hM in
def resOf (b : Act) : ResultVar → Sem Value
  | .tmp t => pure (b.tmps.getD t Go.undef)
  | .cell p t => do loadVar t (← asAddr (b.tmps.getD p Go.undef))
omit hT hC hM in
theorem results_eq (fn : Func) (b : Act) : results fn b.tmps = (do
    let vs ← fn.results.mapM (resOf b)
    pure (if h : vs.size = 1 then vs[0] else .tuple vs)) := by
  unfold results
  congr 1
omit hC hM in
theorem aResult_run {Γ : Gh} {m : Mem} {w : World} (hr : Rel Γ m w) {a : AAct} {b : Act} (ha : ActRel Γ a b) {r : ResultVar} {v : AV} (h : aResult X.T a m r = some v) :
    ∃ u, (resOf b r).run P w = .ok u w ∧ VRel Γ v u := by
  cases r with
  | tmp t => cases h; exact ⟨_, rfl, ha.tmp t⟩
  | cell p t =>
    simp only [aResult] at h
    have hp := ha.tmp p
    simp only [resOf]
    generalize a.tmps.getD p .undef = x at h hp
    generalize b.tmps.getD p Go.undef = y at hp ⊢
    obtain ⟨u, h1, h2⟩ := aLoad_run hT hr h hp
    refine ⟨u, ?_, h2⟩
    have hxy : ∃ ad, y = .pointer (some ad) := by
      unfold aLoad at h
      simp only [Option.bind_eq_some_iff] at h
      obtain ⟨i, _, h⟩ := h
      split at h
      · cases hp; exact ⟨_, rfl⟩
      · cases hp; exact ⟨_, rfl⟩
      · cases h
    obtain ⟨ad, rfl⟩ := hxy
    simpa [Instr.loadAt, Instr.sureAddr, asAddr] using h1
omit hC hM in
theorem aResultsL_run {Γ : Gh} {m : Mem} {w : World} (hr : Rel Γ m w) {a : AAct} {b : Act} (ha : ActRel Γ a b) : ∀ (l : List ResultVar) {vs : List AV}, aResultsL X.T a m l = some vs →
    ∃ us : List Value, (l.mapM (resOf b)).run P w = .ok us w ∧ us.length = vs.length ∧ ∀ (i : Nat) x u, vs[i]? = some x → us[i]? = some u → VRel Γ x u
  | [], vs, h => by cases h; exact ⟨[], rfl, rfl, fun i x u h => by simp at h⟩
  | r :: l, vs, h => by
    simp only [aResultsL, Option.bind_eq_some_iff, Option.map_eq_some_iff] at h
    obtain ⟨v, hv, vs', hvs, rfl⟩ := h
    obtain ⟨u, h1, h2⟩ := aResult_run hT hr ha hv
    obtain ⟨us, h3, h4, h5⟩ := aResultsL_run hr ha l hvs
    refine ⟨u :: us, ?_, by simp [h4], fun i x y hx hy => ?_⟩
    · rw [List.mapM_cons, Sem.run_bind, h1]
      simp only [Result.andThen_ok]
      rw [Sem.run_bind, h3]
      rfl
    · cases i with
      | zero => simp at hx hy; subst hx; subst hy; exact h2
      | succ i => exact h5 i x y (by simpa using hx) (by simpa using hy)
omit hC hM in
theorem results_run {Γ : Gh} {m : Mem} {w : World} (hr : Rel Γ m w) {a : AAct} {b : Act} (ha : ActRel Γ a b) {fn : Func} {vs : List AV} (h : aResultsL X.T a m fn.results.toList = some vs) :
    ∃ u, (results fn b.tmps).run P w = .ok u w ∧ VRel Γ (oneOrTup vs) u := by
  obtain ⟨us, h1, h2, h3⟩ := aResultsL_run hT hr ha fn.results.toList h
  have hrun : ∃ u, (results fn b.tmps).run P w = .ok u w ∧ u = (if h : us.toArray.size = 1 then us.toArray[0] else .tuple us.toArray) := by
    refine ⟨_, ?_, rfl⟩
    rw [results_eq, Sem.run_bind, Array.mapM_eq_mapM_toList, Sem.run_map, h1]
    rfl
  obtain ⟨u, hu, rfl⟩ := hrun
  refine ⟨_, hu, ?_⟩
  match vs, us, h2, h3 with
  | [], [], _, _ => exact .tup rfl (fun i a v h => by simp at h)
  | [x], [y], _, h3 => exact h3 0 x y rfl rfl
  | x :: x2 :: xs, y :: y2 :: ys, hl, h3 =>
    simp only [oneOrTup]
    rw [dif_neg (by simp)]
    exact .tup (by simpa using hl) (fun i a v ha hv => h3 i a v ha (by simpa using hv))
/-- A FUNCTION's BODY. -/
theorem aBody_run {n f : Nat} {fn : Func} {drawOk : Nat → Array Oper → Bool} (hD : DrawSim P X call f drawOk) (hfn : P.funcs[f]? = some fn) (hk : ∀ c, fn.body = some c → codeOk drawOk c = true)
    {args : List AV} {m m' : Mem} {o : AOut} (h : aBody X call n f fn args m = some (o, m')) {Γ : Gh} {w : World} {vs : Array Value} (hr : Rel Γ m w) (hf : Fresh Γ m.next m'.next) (ha : ArgsRel Γ args vs) :
    Calls P f vs w fun e w' => ∃ Γ', Post Γ m w Γ' m' w' ∧ OutRel Γ' o e := by
  unfold aBody at h
  split at h
  · cases h
  · rename_i c hc
    simp only [Option.bind_eq_some_iff] at h
    obtain ⟨⟨e, a, m1⟩, ho, h⟩ := h
    have hact : ActRel Γ ⟨args ++ List.replicate (fn.ntmps - args.length) .undef, []⟩ ⟨vs ++ Array.replicate (fn.ntmps - vs.size) Go.undef, []⟩ := by
      refine ⟨by simp [ha.1], fun t x v hx hv => ?_, fun _ => rfl⟩
      rcases Nat.lt_or_ge t args.length with ht | ht
      · rw [List.getElem?_append_left ht] at hx
        rw [Array.getElem?_append_left (by rw [ha.1]; exact ht)] at hv
        exact ha.2 t x v hx hv
      · rw [List.getElem?_append_right ht] at hx
        have := (List.mem_replicate.1 (List.mem_of_getElem? hx)).2
        subst this
        exact .undef _
    unfold aFinish at h
    split at h
    · rename_i hdef
      have hdef : a.defers = [] := hdef
      have hm1 : m1 = m' := by
        split at h
        · simp only [Option.map_eq_some_iff] at h; obtain ⟨u, _, h⟩ := h; cases h; rfl
        · simp only [Option.map_eq_some_iff] at h; obtain ⟨u, _, h⟩ := h; cases h; rfl
        · cases h; rfl
        · cases h
      subst hm1
      refine calls_of_wp hfn hc (wp_mono (aExec_run hT hC hM hD c 0 (hk c hc) hr hact ho hf) (fun e' b' w' hq => ?_))
      obtain ⟨Γ', hp, he, ha'⟩ := hq
      have hdb := ha'.defers hdef
      cases he with
      | normal =>
        simp only [Option.map_eq_some_iff] at h
        obtain ⟨us, hus, h⟩ := h
        cases h
        obtain ⟨u, h1, h2⟩ := results_run hT hp.rel ha' hus
        exact ⟨hdb, u, h1, Γ', hp, .ret h2⟩
      | ret =>
        simp only [Option.map_eq_some_iff] at h
        obtain ⟨us, hus, h⟩ := h
        cases h
        obtain ⟨u, h1, h2⟩ := results_run hT hp.rel ha' hus
        exact ⟨hdb, u, h1, Γ', hp, .ret h2⟩
      | panic hv =>
        cases h
        exact ⟨hdb, Γ', hp, .pan hv⟩
      | exit id => cases h
    · cases h
end
/-- what a context must say of a program -/
structure CtxOk (P : Program) (X : Ctx) (drawOk : FuncId → Nat → Array Oper → Bool) : Prop where
  types : TOk P X.T
  look : ∀ f fn, X.look f = some fn → P.funcs[f]? = some fn ∧ (fn.name == "runtime.NumGoroutine") = false ∧ ∀ c, fn.body = some c → codeOk (drawOk f) c = true
  mono : PrimMono X
  prim : ∀ f p, X.prim f = some p → Callable P f ∧ ∀ args m o m', p args m = some (o, m') → ∀ Γ w vs, Rel Γ m w → Fresh Γ m.next m'.next → ArgsRel Γ args vs → Calls P f vs w fun e w' => ∃ Γ', Post Γ m w Γ' m' w' ∧ OutRel Γ' o e
  draw : ∀ (call : CallV), CallsOk P call → CallMono call → ∀ f, DrawSim P X call f (drawOk f)
/-- THE ABSTRACT MACHINE's CALLS ARE THE MODEL's. -/
theorem aCall_ok {P : Program} {X : Ctx} {drawOk : FuncId → Nat → Array Oper → Bool} (hX : CtxOk P X drawOk) : ∀ n, CallsOk P (aCall X n)
  | 0 => fun f args m o m' h => by cases h
  | n + 1 => fun f args m o m' h => by
    have ih := aCall_ok hX n
    have hM := aCall_mono hX.mono n
    simp only [aCall] at h
    split at h
    · rename_i p hp
      obtain ⟨h1, h2⟩ := hX.prim f p hp
      exact ⟨h1, fun Γ w vs hr hf ha => h2 args m o m' h Γ w vs hr hf ha⟩
    · split at h
      · rename_i fn hfn
        obtain ⟨h1, h2, h3⟩ := hX.look f fn hfn
        refine ⟨⟨fn, h1, h2, ?_⟩, fun Γ w vs hr hf ha => aBody_run hX.types ih hM (hX.draw _ ih hM f) h1 h3 h hr hf ha⟩
        cases hb : fn.body with
        | none => unfold aBody at h; rw [hb] at h; cases h
        | some c => rfl
      · cases h
end Go.AM
