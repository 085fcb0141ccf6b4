/-
  From a run of the machine to a call's contract in a world that the machine knows nothing of.
-/
import Derived.Test.YtpffgljpkehgmaaAMRed
import Derived.Below
import Derived.ProofKit
set_option linter.unusedVariables false
set_option linter.unusedSimpArgs false
namespace Go.AM
open Go Go.RowKit Go.WideShapes Go.ChangeShapes
def role0 (W : World) (b : Nat) : Role := match W.heap[b]? with
  | some (.cells c _ _) => .imm c.toList
  | _ => .free
def gh0 (W : World) : Gh := ⟨role0 W, fun _ => none⟩
theorem role0_cases (W : World) (b : Nat) : (∃ c e f, W.heap[b]? = some (.cells c e f) ∧ role0 W b = .imm c.toList) ∨ role0 W b = .free := by
  unfold role0
  split
  · rename_i c e f h; exact .inl ⟨c, e, f, h, rfl⟩
  · exact .inr rfl
theorem rel0 (W : World) : Rel (gh0 W) Mem.zero W := by
  have hno : ∀ b o v n, ¬ ((gh0 W).role b).isRow o v n := by
    intro b o v n h
    rcases role0_cases W b with ⟨c, e, f, _, hr⟩ | hr <;> simp [gh0, hr, Role.isRow] at h
  refine ⟨fun b hb => ?_, fun b hb => ?_, fun b o v n h => absurd h (hno b o v n), fun b b' o v n n' h => absurd h (hno b o v n), fun b b' o h => ?_, fun o x h => by simp [Mem.zero] at h, fun o _ => rfl⟩
  · rcases role0_cases W b with ⟨c, e, f, h, hr⟩ | hr
    · rcases Nat.lt_or_ge b W.heap.size with hl | hl
      · exact hl
      · rw [Array.getElem?_eq_none hl] at h; cases h
    · exact absurd hr hb
  · rcases role0_cases W b with ⟨c, e, f, h, hr⟩ | hr
    · refine ⟨c, e, f, h, fun i v hi => ?_⟩
      simp only [gh0, hr, Role.known] at hi
      simpa using hi
    · simp [gh0, hr, Role.known] at hb
  · rcases role0_cases W b with ⟨c, e, f, _, hr⟩ | hr <;> simp [gh0, hr] at h
theorem fresh0 (W : World) (lo hi : Nat) : Fresh (gh0 W) lo hi := by
  refine ⟨fun b o h => ?_, fun t h => absurd rfl h⟩
  rcases role0_cases W b with ⟨c, e, f, _, hr⟩ | hr <;> simp [gh0, hr, Role.id] at h
theorem below0 {W W' : World} {Γ' : Gh} {m' : Mem} (h : Post (gh0 W) Mem.zero W Γ' m' W') : Below W.heap.size W W' := by
  refine ⟨h.frame.os, h.frame.tape, h.frame.output, h.frame.size, fun k hk => h.frame.block k hk ?_ ?_⟩
  · rcases role0_cases W k with ⟨c, e, f, _, hr⟩ | hr <;> simp [gh0, hr, Role.isLit]
  · intro o ho
    rfl
/-- A LAW'S CALL: it answers true, and below the heap's old size nothing has turned. -/
theorem law_calls {P : Program} {X : Ctx} (hok : CallsOk P (aW X)) {f : FuncId} {args : List AV} {m' : Mem} (h : aW X f args Mem.zero = some (.ret (.bool true), m')) (W : World) {vs : Array Value} (ha : ArgsRel (gh0 W) args vs) :
    Calls P f vs W fun e W' => e = .returned (.bool true) ∧ Below W.heap.size W W' := by
  refine ((hok f args Mem.zero _ m' h).2 (gh0 W) W vs (rel0 W) (fresh0 W _ _) ha).mono ?_
  rintro e W' ⟨Γ', hp, ho⟩
  refine ⟨?_, below0 hp⟩
  cases ho with
  | ret hv => cases hv; rfl
section
variable {H : Type} {enc : TypeId × Value → H} {P : Program}
theorem post_of_below {f : Func} {s : ChangeSpec} {apart fresh handsOn again : Bool} {W W' : World} {args : Array Value} {v : Value} {ds gs : List (DataW H)} {before pa pv : List MemPlace}
    (hW : DataW.Whole enc P f.params.toList s.vars apart W args.toList ds gs before)
    (hres : ∀ (b : Nat) (sp : Nat → Bool) (hd : Bool), DataW.TrodAll enc P W' b sp hd f.resultTypes.toList (v.resultList f.resultTypes.size) (s.fn H (ds ++ gs)).results [])
    (hargs : ∀ sp : Nat → Bool, (∀ p ∈ before, sp p.block = true) → DataW.TrodAll enc P W' 0 sp true f.params.toList args.toList (s.fn H (ds ++ gs)).args pa)
    (hvars : ∀ sp : Nat → Bool, (∀ p ∈ before, sp p.block = true) → DataW.TrodVars enc P W' sp s.vars (s.fn H (ds ++ gs)).vars pv)
    (hps : before = pa ++ pv) (hb : Below W.heap.size W W')
    (hok : ∀ (j : Nat) (t : TypeId) (r : Value), f.resultTypes[j]? = some t → (v.resultList f.resultTypes.size)[j]? = some r → Value.okWide P W' .any 0 t r) :
    s.post enc P f apart fresh handsOn again W args v W' := by
  have hlt : ∀ p ∈ before, p.block < W.heap.size := fun p hp => hW.lt p hp
  have hold : ∀ p ∈ before, (fun b => decide (b < W.heap.size)) p.block = true := fun p hp => by simpa using hlt p hp
  refine ⟨ds, gs, before, [], pa, pv, hW, hres _ _ _, hargs _ hold, hvars _ hold, World.keptBut_mono (fun p hp => ⟨hp, ?_⟩) (hb.frame (· ∈ before)), fun _ => ?_⟩
  · rw [hps, List.mem_append] at hp
    exact Or.inr hp
  · obtain ⟨_, _, _, _, _, hz, hn⟩ := hW
    refine ⟨hok, _, _, ([] ++ pa) ++ pv, ⟨[] ++ pa, pv, trodAll_append (hargs _ (fun _ _ => rfl)) (hres _ _ _), hvars _ (fun _ _ => rfl), rfl, ?_, ?_⟩, ?_⟩
    · intro b off hp
      have hin : MemPlace.cell b off ∈ before := by rw [hps]; simpa using hp
      rw [hb.frozen (hlt _ hin)]
      exact hz b off hin
    · intro ha
      have := hn ha
      rw [hps] at this
      simpa using this
    · intro p hp _
      rw [hps]
      simpa using hp
/-- all arguments read behind the call as they did -/
theorem trodAll_kept (hl : laidOutB P = true) {W W' : World} (hb : Below W.heap.size W W') : ∀ {ts : List TypeId} {vs : List Value} {ds : List (DataW H)} {ps : List MemPlace}, (ts.all fun t => P.readableRec t && decide (t < P.types.size)) = true →
    DataW.TrodAll enc P W 0 (fun _ => true) true ts vs ds ps → (∀ x ∈ ps, x.block < W.heap.size) → ∀ sp : Nat → Bool, (∀ p ∈ ps, sp p.block = true) → DataW.TrodAll enc P W' 0 sp true ts vs ds ps
  | [], vs, ds, ps, _, h, _, sp, _ => by
    obtain ⟨rfl, rfl, rfl⟩ := trodAll_nil h
    exact h
  | t :: ts, vs, ds, ps, ht, h, hlt, sp, hsp => by
    obtain ⟨v, vs1, d, ds1, a, b, rfl, rfl, rfl, h1, h2⟩ := trodAll_cons h
    simp only [List.all_cons, Bool.and_eq_true, decide_eq_true_eq] at ht
    refine ⟨a, b, WideElems.Trod_stays hl ht.1.1 ht.1.2 h1 (fun x hx => hb.same (hlt x (by simp [hx]))) (fun x hx => hsp x (by simp [hx])), trodAll_kept hl hb ht.2 h2 (fun x hx => hlt x (by simp [hx])) sp (fun x hx => hsp x (by simp [hx])), rfl⟩
/-- WHAT A LAW'S ROW ASKS: true; the arguments read as they did. -/
theorem law_post (hl : laidOutB P = true) {f : Func} {s : ChangeSpec} {apart fresh handsOn again : Bool} {W W' : World} {args : Array Value} {ds gs : List (DataW H)} {before : List MemPlace} {tb : TypeId}
    (hW : DataW.Whole enc P f.params.toList s.vars apart W args.toList ds gs before) (hv : s.vars = []) (hfn : (s.fn H ds).results = [.lit (.bool true)] ∧ (s.fn H ds).args = ds ∧ (s.fn H ds).vars = [])
    (hts : (f.params.toList.all fun t => P.readableRec t && decide (t < P.types.size)) = true) (hres : f.resultTypes = #[tb]) (htb : P.underlying tb = some .bool) (hb : Below W.heap.size W W') :
    s.post enc P f apart fresh handsOn again W args (.bool true) W' := by
  have hlt : ∀ p ∈ before, p.block < W.heap.size := fun p hp => hW.lt p hp
  have hW0 := hW
  obtain ⟨p, q, hA, hV, rfl, hfz, hnd⟩ := hW
  rw [hv] at hV
  obtain ⟨rfl, rfl⟩ := trodVars_none hV
  simp only [List.append_nil] at *
  refine post_of_below (pa := p) (pv := []) hW0 (fun b sp hd => ?_) (fun sp hsp => ?_) (fun sp hsp => ?_) (by simp) hb ?_
  · simp only [List.append_nil]
    rw [hfn.1, hres]
    exact trodAll_mk1 (shut_bool htb true)
  · simp only [List.append_nil]
    rw [hfn.2.1]
    exact trodAll_kept hl hb hts hA hlt sp hsp
  · simp only [List.append_nil]
    rw [hfn.2.2, hv]
    exact rfl
  · exact ok_one hres rfl (okWide_bool_mk htb true)
end
section
variable {H : Type} {enc : TypeId × Value → H} {P : Program}
theorem lifted_w {a : Assume} {C : Checked} {os : Os} {f : FuncId} {fn : Func} {s : ChangeSpec} {conds : List PathCond} {apart fresh handsOn again : Bool}
    (own : ownKnob C.prog.godebug = none) (started : os.Started) (noInit : C.prog.inits.idxOf? f = none) (hfn : C.prog.funcs[f]? = some fn) (hvars : s.vars = [])
    (witness : ∃ (w : World) (tape : Tape) (i : Input), w.os = os ∧ (w.forCall tape i).Shaped C.prog ∧ i.vars = [] ∧ Input.okWide C.prog (w.forCall tape i) .any w.heap.size f i ∧
      s.pre6 enc C.prog fn conds apart (w.forCall tape i).memory i.args ∧ a.holds C.prog (lone (Frame.enter C.prog f i.args .normal) [] (w.forCall tape i)))
    (contract : ∀ (W : World) (base : Nat) (args : Array Value) (ds : List (DataW H)) (p : List MemPlace),
      (∀ (j : Nat) t v, fn.params[j]? = some t → args[j]? = some v → Value.okWide C.prog W .any base t v) →
      DataW.Whole enc C.prog fn.params.toList s.vars apart W args.toList ds [] p →
      DataW.TrodAll enc C.prog W 0 (fun _ => true) true fn.params.toList args.toList ds p →
      conds.all (PathCond.test C.prog ⟨fn.params.toList, ds, s.plain.varTypes C.prog, []⟩) = true →
      (DataW.weightsEach C.prog fn.params.toList ds).all (· ≤ reachBytes) = true →
      Calls C.prog f args W fun e W' => ∃ v, e = .returned v ∧ s.post enc C.prog fn apart fresh handsOn again W args v W') :
    ReturnsInHanded a C os f .any (s.pre6 enc C.prog fn conds apart) (s.post enc C.prog fn apart fresh handsOn again) := by
  refine returnsInHanded_of_calls own started noInit witness ?_
  intro w tape i _ _ _ hok hpre hholds
  obtain ⟨_, _, _, fn', hfn', _, _, _, _, hval⟩ := hok
  have e : fn' = fn := Option.some.inj (hfn'.symm.trans hfn)
  subst e
  obtain ⟨⟨ds, gs, before, hw, hc⟩, hz⟩ := hpre
  have hwt := hz.weights hw
  have hw' := DataW.Whole.of_heap (w' := w.forCall tape i) (by rfl) hw
  have hw0 := hw'
  obtain ⟨p, q, hA, hV, hb, _, _⟩ := hw'
  rw [hvars] at hV
  obtain ⟨rfl, rfl⟩ := trodVars_none hV
  rw [List.append_nil] at hb
  subst hb
  have hvt : (OpenSpec.ofChange s).bare.plain.varTypes C.prog = [] := by
    have : (OpenSpec.ofChange s).bare.plain.vars = s.vars := rfl
    show List.filterMap _ _ = _
    first
      | (rw [this, hvars]; rfl)
      | (simp [this, hvars])
  rw [hvt, List.append_nil, List.append_nil] at hwt
  refine (contract (w.forCall tape i) w.heap.size i.args ds before hval hw0 hA hc hwt).mono fun e W' ⟨v, he, hp⟩ => ?_
  subst he
  exact ChangeSpec.post_blind hp
end
end Go.AM
