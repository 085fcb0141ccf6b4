/-
  Operations that only reckon: the model's answers stand for the abstract machine's.
-/
import Derived.Test.YtpffgljpkehgmaaAMTypes
import Derived.WalkKit
set_option linter.unusedVariables false
set_option linter.unusedSimpArgs false
namespace Go.AM
open Go
set_option linter.unusedSimpArgs false
set_option linter.unusedVariables false
theorem run_noView {P : Program} {w : World} {a : Addr} {c : Array Value} {e : TypeId} {fz : Nat × Nat} (h : w.heap[a.block]? = some (.cells c e fz)) : (noView a).run P w = .ok () w := by
  simp [noView, viewAt, World.shape?, h]
theorem run_sameAddr_rows {P : Program} {w : World} {a b : Addr} {c c' : Array Value} {e e' : TypeId} (h : w.heap[a.block]? = some (.cells c e (0, 0)))
    (h' : w.heap[b.block]? = some (.cells c' e' (0, 0))) (hne : a.block ≠ b.block) : (sameAddr a b).run P w = .ok false w := by
  have f1 : w.frozen? a = false := by simp [World.frozen?, h]
  have f2 : w.frozen? b = false := by simp [World.frozen?, h']
  have s1 : (stringish a).run P w = .ok false w := by simp [stringish, f1, World.shape?, h, World.frozen?]
  have s2 : (stringish b).run P w = .ok false w := by simp [stringish, f2, World.shape?, h', World.frozen?]
  have hb : (a.block == b.block) = false := by simpa using hne
  simp [sameAddr, hb, f1, run_noView h, run_noView h', mayBeOne, s1, s2, World.shape?]
section
variable {P : Program} (w : World) (D : Nat) {t : TypeId}
theorem eqI_ptr_l {e : TypeId} (h : P.underlying t = some (.pointer e)) (b : Option Addr) : (Op.equalIn (D + 1) t (.pointer none) (.pointer b)).run P w = .ok b.isNone w := by
  simp [Op.equalIn, run_underlying h]
theorem eqI_ptr_r {e : TypeId} (h : P.underlying t = some (.pointer e)) (a : Addr) : (Op.equalIn (D + 1) t (.pointer (some a)) (.pointer none)).run P w = .ok false w := by
  simp [Op.equalIn, run_underlying h]
theorem eqI_ptr {e : TypeId} (h : P.underlying t = some (.pointer e)) (a b : Addr) (s : Nat) (hs : (sizeOf e).run P w = .ok s w) (h0 : s ≠ 0) :
    (Op.equalIn (D + 1) t (.pointer (some a)) (.pointer (some b))).run P w = (sameAddr a b).run P w := by
  simp [Op.equalIn, run_underlying h, hs, h0]
theorem eqI_if_nn {ms : Array (String × TypeId)} (h : P.underlying t = some (.interface ms)) : (Op.equalIn (D + 1) t .nilIface .nilIface).run P w = .ok true w := by
  simp [Op.equalIn, run_underlying h]
theorem eqI_if_nv {ms : Array (String × TypeId)} (h : P.underlying t = some (.interface ms)) (u : TypeId) (v : Value) : (Op.equalIn (D + 1) t .nilIface (.iface u v)).run P w = .ok false w := by
  simp [Op.equalIn, run_underlying h]
theorem eqI_if_vn {ms : Array (String × TypeId)} (h : P.underlying t = some (.interface ms)) (u : TypeId) (v : Value) : (Op.equalIn (D + 1) t (.iface u v) .nilIface).run P w = .ok false w := by
  simp [Op.equalIn, run_underlying h]
theorem eqI_if_ne {ms : Array (String × TypeId)} (h : P.underlying t = some (.interface ms)) (u u' : TypeId) (v v' : Value) (hne : u ≠ u') :
    (Op.equalIn (D + 1) t (.iface u v) (.iface u' v')).run P w = .ok false w := by
  simp [Op.equalIn, run_underlying h, hne]
theorem eqI_if_eq {ms : Array (String × TypeId)} (h : P.underlying t = some (.interface ms)) (u : TypeId) (v v' : Value) (i : TypeInfo) (hi : (typeInfo u).run P w = .ok i w) (hc : i.comparable = true) :
    (Op.equalIn (D + 1) t (.iface u v) (.iface u v')).run P w = (Op.equalIn D u v v').run P w := by
  simp [Op.equalIn, run_underlying h, hi, hc]
theorem eqI_sl_l {e : TypeId} (h : P.underlying t = some (.slice e)) (b : Option Addr) (l c l' c' : Nat) : (Op.equalIn (D + 1) t (.slice none l c) (.slice b l' c')).run P w = .ok b.isNone w := by
  simp [Op.equalIn, run_underlying h]
theorem eqI_sl_r {e : TypeId} (h : P.underlying t = some (.slice e)) (a : Addr) (l c l' c' : Nat) : (Op.equalIn (D + 1) t (.slice (some a) l c) (.slice none l' c')).run P w = .ok false w := by
  simp [Op.equalIn, run_underlying h]
theorem eqI_mp_l {k e : TypeId} (h : P.underlying t = some (.map k e)) (b : Option Nat) : (Op.equalIn (D + 1) t (.map none) (.map b)).run P w = .ok b.isNone w := by
  simp [Op.equalIn, run_underlying h]
theorem eqI_mp_r {k e : TypeId} (h : P.underlying t = some (.map k e)) (a : Nat) : (Op.equalIn (D + 1) t (.map (some a)) (.map none)).run P w = .ok false w := by
  simp [Op.equalIn, run_underlying h]
theorem eqI_fn_nn {a b : Array TypeId} {c : Bool} (h : P.underlying t = some (.func a b c)) : (Op.equalIn (D + 1) t .nilFunc .nilFunc).run P w = .ok true w := by
  simp [Op.equalIn, run_underlying h]
theorem eqI_fn_nv {a b : Array TypeId} {c : Bool} (h : P.underlying t = some (.func a b c)) (f : Fn) (x y : Array Value) : (Op.equalIn (D + 1) t .nilFunc (.func f x y)).run P w = .ok false w := by
  simp [Op.equalIn, run_underlying h]
theorem eqI_fn_vn {a b : Array TypeId} {c : Bool} (h : P.underlying t = some (.func a b c)) (f : Fn) (x y : Array Value) : (Op.equalIn (D + 1) t (.func f x y) .nilFunc).run P w = .ok false w := by
  simp [Op.equalIn, run_underlying h]
theorem eqI_arr {n e : Nat} {s : Nat} (h : P.underlying t = some (.array n e)) (xs ys : Array Value) (hs : (sizeOf e).run P w = .ok s w) :
    (Op.equalIn (D + 1) t (.agg xs) (.agg ys)).run P w = ((forIn (m := Sem) (List.range n) ((none, ()) : Option Bool × Unit) (fun i _ => do
        let a ← part e xs (i * s)
        let b ← part e ys (i * s)
        let r ← Op.equalIn D e a b
        if (!r) = true then pure (ForInStep.done (some false, ())) else pure (ForInStep.yield (none, ())))).run P w).andThen fun r w => match r.1 with
            | none => .ok true w
            | some b => .ok b w := by
  simp only [Op.equalIn, Sem.run_bind, run_underlying h, hs, Result.andThen_ok, Std.Legacy.Range.forIn_eq_forIn_range', Std.Legacy.Range.size]
  rw [show (n - 0 + 1 - 1) / 1 = n by simp, ← List.range_eq_range']
  congr 1
  funext r w'
  split <;> rename_i hr <;> simp [hr]
end
section
variable {P : Program} {T : TypeId → Option AT} (hT : TOk P T)
theorem aInt_run {Γ : Gh} {op : BinOp} {k : IntKind} {a b : Int} {v : AV} (h : aInt op k a b = some v) (w : World) (hs : op ≠ .shl) (hs' : op ≠ .shr) (t : TypeId) :
    ∃ u, (binOp op t (.int k a) (.int k b)).run P w = .ok u w ∧ VRel Γ v u := by
  cases op <;> simp_all [aInt, aIntCmp, binOp, Op.intArith, Op.intCmp, Op.intDiv] <;>
    first
      | (subst h; exact .int _ _)
      | (subst h; exact .bool _)
      | (obtain ⟨h0, rfl⟩ := h; exact .int _ _)
theorem aStr_run {Γ : Gh} {op : BinOp} {a b : ByteArray} {v : AV} (h : aStr op a b = some v) (w : World) (t : TypeId) :
    ∃ u, (binOp op t (.string a) (.string b)).run P w = .ok u w ∧ VRel Γ v u := by
  cases op <;> simp_all [aStr, binOp, Op.stringOp, strLt] <;>
    first
      | (subst h; exact .bool _)
      | (obtain ⟨h0, rfl⟩ := h; exact ⟨_, by rw [if_neg (by omega)], .str _⟩)
theorem aShift_run {Γ : Gh} {k yk : IntKind} {a b : Int} {v : AV} (w : World) (t : TypeId) :
    (aShift .shl k a b = some v → ∃ u, (binOp .shl t (.int k a) (.int yk b)).run P w = .ok u w ∧ VRel Γ v u) ∧
    (aShift .shr k a b = some v → ∃ u, (binOp .shr t (.int k a) (.int yk b)).run P w = .ok u w ∧ VRel Γ v u) := by
  constructor <;> intro h <;> simp only [aShift] at h <;> split at h <;> first
    | (cases h; done)
    | (rename_i hb
       simp only [Option.some.injEq] at h
       subst h
       exact ⟨_, by simp [binOp, Op.shift, hb], .int _ _⟩)
include hT
theorem aEqFs_run {Γ : Gh} {w : World} {eq : TypeId → AV → AV → Option Bool} {D : Nat}
    (heq : ∀ t x y x' y' b, eq t x y = some b → VRel Γ x x' → VRel Γ y y' → (Op.equalIn D t x' y').run P w = .ok b w) :
    ∀ (fs : List Field) xs ys (vs us : Array Value) b, CRel Γ xs vs.toList → CRel Γ ys us.toList →
      aEqFs T eq (fs.map fun f => (f.offset, f.type, f.name != "_")) xs ys = some b → (Op.eqFields D vs us fs).run P w = .ok b w
  | [], xs, ys, vs, us, b, hx, hy, h => by
    simp only [List.map_nil, aEqFs, Option.some.injEq] at h
    subst h
    simp [Op.eqFields]
  | f :: fs, xs, ys, vs, us, b, hx, hy, h => by
    simp only [List.map_cons, aEqFs] at h
    split at h
    · cases h
    · rename_i hn
      have hn' : f.name ≠ "_" := by simpa using hn
      simp only [Option.bind_eq_some_iff] at h
      obtain ⟨i, hi, x, hpx, y, hpy, c, hc, h⟩ := h
      obtain ⟨x', hx', hxr⟩ := run_part_T hT hi hx hpx w
      obtain ⟨y', hy', hyr⟩ := run_part_T hT hi hy hpy w
      simp only [Op.eqFields]
      rw [if_pos hn']
      simp only [Sem.run_bind, hx', hy', Result.andThen_ok, heq _ _ _ _ _ _ hc hxr hyr]
      cases c with
      | true =>
        simp only [Bool.not_true, Bool.false_eq_true, if_false]
        simp only [if_true] at h
        exact aEqFs_run heq fs xs ys vs us b hx hy h
      | false =>
        simp only [Bool.false_eq_true, if_false, Option.some.injEq] at h
        subst h
        simp
theorem aEqArr_run {Γ : Gh} {w : World} {eq : TypeId → AV → AV → Option Bool} {D : Nat} {e : TypeId} {ie : AT} (hie : T e = some ie)
    (heq : ∀ t x y x' y' b, eq t x y = some b → VRel Γ x x' → VRel Γ y y' → (Op.equalIn D t x' y').run P w = .ok b w) {xs ys : List AV} {vs us : Array Value} 
    (hx : CRel Γ xs vs.toList) (hy : CRel Γ ys us.toList) :
    ∀ (l : List Nat) b, aEqFs T eq (l.map fun j => (j * ie.size, e, true)) xs ys = some b →
      (forIn (m := Sem) l ((none, ()) : Option Bool × Unit) (fun i _ => do
        let a ← part e vs (i * ie.size)
        let b ← part e us (i * ie.size)
        let r ← Op.equalIn D e a b
        if (!r) = true then pure (ForInStep.done (some false, ())) else pure (ForInStep.yield (none, ())))).run P w = .ok (if b then none else some false, ()) w
  | [], b, h => by
    simp only [List.map_nil, aEqFs, Option.some.injEq] at h
    subst h
    simp
  | j :: l, b, h => by
    simp only [List.map_cons, aEqFs, Bool.true_eq_false, if_false, Option.bind_eq_some_iff] at h
    obtain ⟨i, hi, x, hpx, y, hpy, c, hc, h⟩ := h
    rw [hie] at hi
    cases hi
    obtain ⟨x', hx', hxr⟩ := run_part_T hT hie hx hpx w
    obtain ⟨y', hy', hyr⟩ := run_part_T hT hie hy hpy w
    simp only [List.forIn_cons, Sem.run_bind, hx', hy', Result.andThen_ok, heq _ _ _ _ _ _ hc hxr hyr]
    cases c with
    | true =>
      simp only [Bool.not_true, Bool.false_eq_true, if_false, Sem.run_pure, Result.andThen_ok]
      simp only [if_true] at h
      exact aEqArr_run hie heq hx hy l b h
    | false =>
      simp only [Bool.false_eq_true, if_false, Option.some.injEq] at h
      subst h
      simp
theorem aEq_run {Γ : Gh} {m : Mem} {w : World} (hr : Rel Γ m w) : ∀ (d D : Nat) t x y x' y' b, d ≤ D → aEq T d t x y = some b → VRel Γ x x' → VRel Γ y y' →
    (Op.equalIn D t x' y').run P w = .ok b w := by
  intro d
  induction d with
  | zero => intro D t x y x' y' b _ h; simp [aEq] at h
  | succ d ih =>
    intro D t x y x' y' b hD h hx hy
    obtain ⟨D, rfl⟩ : ∃ D', D = D' + 1 := ⟨D - 1, by omega⟩
    have hdD : d ≤ D := by omega
    unfold aEq at h
    split at h
    all_goals first
      | (cases h; done)
      | (rename_i ht
         obtain ⟨E, -, hu, hk⟩ := run_underlying_T hT ht w
         cases E <;> first | (simp [dOk] at hk; done) | skip
         first
           | (cases hx; cases hy
              first
                | (simp only [Option.some.injEq] at h; subst h
                   first
                     | exact run_equalIn_bool w D t _ _ hu
                     | (rw [run_equalIn_string w D t _ _ hu, ← beq_toListBytes])
                     | exact eqI_ptr_l w D hu _
                     | exact eqI_ptr_r w D hu _
                     | exact eqI_if_nn w D hu
                     | exact eqI_if_nv w D hu _ _
                     | exact eqI_if_vn w D hu _ _
                     | exact eqI_sl_l w D hu _ _ _ _ _
                     | exact eqI_sl_r w D hu _ _ _ _ _
                     | exact eqI_mp_l w D hu _
                     | exact eqI_mp_r w D hu _
                     | exact eqI_fn_nn w D hu
                     | exact eqI_fn_nv w D hu _ _ _
                     | exact eqI_fn_vn w D hu _ _ _)
                | (split at h
                   · rename_i hk'
                     simp only [Option.some.injEq] at h; subst h; subst hk'
                     exact run_equalIn_int w D t _ _ _ _ hu
                   · cases h)
                | skip))
      | skip
    case h_9.pointer.ptr.ptr =>
      rename_i e o v f o' v' f' elem n b1 r1 n' b2 r2
      simp only [dOk, beq_iff_eq] at hk
      subst hk
      simp only [Option.bind_eq_some_iff] at h
      obtain ⟨i, hi, h⟩ := h
      split at h
      · cases h
      · rename_i hs
        rw [eqI_ptr w D hu _ _ i.size (run_sizeOf_T hT hi w) hs]
        obtain ⟨c1, e1, hc1, hz1⟩ := hr.cells b1 o v n r1
        obtain ⟨c2, e2, hc2, hz2⟩ := hr.cells b2 o' v' n' r2
        split at h
        · rename_i ho
          subst ho
          split at h
          · rename_i hv
            subst hv
            simp only [Option.some.injEq] at h
            subst h
            obtain rfl := hr.rows b1 b2 o v n n' r1 r2
            simp [sameAddr]
            by_cases hff : f = f' <;> simp [hff, BEq.beq, decide_eq_true_eq] <;> rfl
          · cases h
        · rename_i ho
          simp only [Option.some.injEq] at h
          subst h
          refine run_sameAddr_rows hc1 hc2 (fun hb => ho ?_)
          simp only [] at hb
          subst hb
          rcases r1 with ⟨_, _, r1, _⟩ | ⟨_, _, _, r1, _⟩ <;> rcases r2 with ⟨_, _, r2, _⟩ | ⟨_, _, _, r2, _⟩ <;> rw [r1] at r2 <;> cases r2 <;> rfl
    case h_13.interface.iface.iface =>
      rename_i bare tx vx ty vy ms u1 h1 u2 h2
      split at h
      · rename_i hne
        simp only [Option.some.injEq] at h
        subst h
        exact eqI_if_ne w D hu _ _ _ _ hne
      · rename_i he
        have he : tx = ty := by simpa using he
        subst he
        simp only [Option.bind_eq_some_iff] at h
        obtain ⟨i, hi, h⟩ := h
        split at h
        · rename_i hc
          obtain ⟨inf, z, hrun, _, _, hcmp, _⟩ := run_typeInfo_T hT hi w
          rw [eqI_if_eq w D hu _ _ _ inf hrun (by rw [hcmp]; exact hc)]
          exact ih D tx vx vy u1 u2 b hdD h h1 h2
        · cases h
    case h_14.struct.agg.agg =>
      rename_i fs xs ys fields vs c1 l1 r1 us c2 l2 r2
      have hk' : (fields.toList.map fun f => (f.offset, f.type, f.name != "_")) = fs := by simpa [dOk] using hk
      subst hk'
      have hst : P.stoodInHeld t = false := by
        unfold aD at ht
        cases hi : T t with
        | none => rw [hi] at ht; cases ht
        | some i =>
          rw [hi] at ht
          simp only [Option.map_some, Option.some.injEq] at ht
          exact (hT t i hi).stood (by rw [ht]; rfl)
      have hfo : P.fieldsOf t = fields := by simp [Program.fieldsOf, hu]
      rw [run_equalIn_struct w D t vs us (by rw [hfo]; exact hu) hst, hfo]
      exact aEqFs_run hT (fun t x y x' y' b he hx hy => ih D t x y x' y' b hdD he hx hy) fields.toList xs ys vs us b
        ⟨by simpa using l1, fun i a u ha hu => r1 i a u ha (by simpa using hu), c1⟩ ⟨by simpa using l2, fun i a u ha hu => r2 i a u ha (by simpa using hu), c2⟩ h
    case h_15.array.agg.agg =>
      rename_i n e xs ys len elem vs c1 l1 r1 us c2 l2 r2
      simp only [dOk, Bool.and_eq_true, beq_iff_eq] at hk
      obtain ⟨rfl, rfl⟩ := hk
      simp only [Option.bind_eq_some_iff] at h
      obtain ⟨i, hi, h⟩ := h
      rw [eqI_arr w D hu vs us (run_sizeOf_T hT hi w), aEqArr_run hT hi (fun t x y x' y' b he hx hy => ih D t x y x' y' b hdD he hx hy)
        ⟨by simpa using l1, fun i a u ha hu => r1 i a u ha (by simpa using hu), c1⟩ ⟨by simpa using l2, fun i a u ha hu => r2 i a u ha (by simpa using hu), c2⟩ _ b h]
      cases b <;> rfl
omit hT in
theorem eqGuard_plain {op : BinOp} {t : TypeId} {xo yo : Operand} {x y : Value} (w : World) (h1 : ∀ xs ys, ¬ (x = .agg xs ∧ y = .agg ys)) (h2 : ¬ (x = .nilIface ∧ y = .nilIface)) :
    (eqGuard op t xo yo x y).run P w = .ok () w := by
  cases op <;> first | rfl | skip
  all_goals
    simp only [eqGuard, Bool.not_true, Bool.false_eq_true, if_false]
    split
    · exact absurd ⟨rfl, rfl⟩ h2
    · exact absurd ⟨rfl, rfl⟩ (h1 _ _)
    · rfl
def eqShape : Value → Value → Bool
  | .int _ _, .int _ _ => false
  | .float _ _, .float _ _ => false
  | .complex _ _ _, .complex _ _ _ => false
  | .string _, .string _ => false
  | _, _ => true
omit hT in
theorem binOp_eql {t : TypeId} {x y : Value} (h : eqShape x y = true) : binOp .eql t x y = (do pure (.bool (← Op.equal t x y))) := by
  cases x <;> cases y <;> first | rfl | (simp [eqShape] at h; done)
omit hT in
theorem binOp_neq {t : TypeId} {x y : Value} (h : eqShape x y = true) : binOp .neq t x y = (do pure (.bool (!(← Op.equal t x y)))) := by
  cases x <;> cases y <;> first | rfl | (simp [eqShape] at h; done)
def avNum : AV → Bool
  | .int _ _ => true
  | .str _ => true
  | _ => false
omit hT in
theorem eqShape_of {Γ : Gh} {x y : AV} {x' y' : Value} (hx : VRel Γ x x') (hy : VRel Γ y y') (h1 : x ≠ .undef) (h2 : y ≠ .undef) (h3 : avNum x = false ∨ avNum y = false) : eqShape x' y' = true := by
  rcases h3 with h3 | h3
  · cases hx <;> first | (exact absurd rfl h1) | (simp [avNum] at h3; done) | (cases y' <;> rfl)
  · cases hy <;> first | (exact absurd rfl h2) | (simp [avNum] at h3; done) | (cases x' <;> rfl)
omit hT in
theorem eqGuardIn_nil (D : Nat) (t : TypeId) : Op.eqGuardIn (D + 1) t .nilIface .nilIface = (do match ← underlying t with
    | .interface ms => pure !ms.isEmpty
    | _ => pure false) := by
  unfold Op.eqGuardIn
  congr 1
  funext d
  cases d <;> rfl
omit hT in
theorem run_ite_or {c : Bool} {z : Sem Unit} {w : World} (hz : z.run P w = .ok () w) : (if c = true then (pure () : Sem Unit) else z).run P w = .ok () w := by
  cases c
  · exact hz
  · rfl
theorem aEqMay_run {Γ : Gh} {op : BinOp} {t : TypeId} {xo yo : Operand} {x y : AV} {x' y' : Value} (h : aEqMay T t (isConst xo) (isConst yo) x y = true) (hx : VRel Γ x x') (hy : VRel Γ y y') (w : World) :
    (eqGuard op t xo yo x' y').run P w = .ok () w ∧ x ≠ .undef ∧ y ≠ .undef := by
  unfold aEqMay at h
  split at h
  · cases hx; cases hy
    refine ⟨?_, by simp, by simp⟩
    have hz : (isConst xo = true ∨ isConst yo = true) ∨ (Op.eqGuardIn Op.maxDepth t .nilIface .nilIface).run P w = .ok false w := by
      simp only [Bool.or_eq_true] at h
      rcases h with h | h
      · exact .inl h
      · refine .inr ?_
        split at h
        · rename_i bare ht
          obtain ⟨E, hE, hu, hk⟩ := run_underlying_T hT ht w
          cases E <;> first | (simp [dOk] at hk; done) | skip
          simp only [dOk, beq_iff_eq] at hk
          show (Op.eqGuardIn (9999 + 1) t .nilIface .nilIface).run P w = _
          rw [eqGuardIn_nil, Sem.run_bind, hE, Result.andThen_ok]
          simp [hk, h]
        · cases h
    cases op <;> first | rfl | skip
    all_goals
      simp only [eqGuard, Bool.not_true, Bool.false_eq_true, if_false]
      rcases hz with (hz | hz) | hz
      · cases xo <;> first | rfl | (simp [isConst] at hz; done)
      · cases yo <;> cases xo <;> first | rfl | (simp [isConst] at hz; done)
      · exact run_ite_or (by rw [Sem.run_bind, hz]; rfl)
  · cases hx; cases hy
    refine ⟨?_, by simp, by simp⟩
    split at h
    · rename_i i hi
      have hg := (hT t i hi).guarded
      simp only [Bool.not_eq_true'] at h
      exact run_eqGuard_agg w op t xo yo _ _ (by rw [hg, h])
    · cases h
  · cases h
  · cases h
  · rename_i n3 n4 n1 n2
    have hxu : x ≠ .undef := fun e => n3 e
    have hyu : y ≠ .undef := fun e => n4 e
    refine ⟨eqGuard_plain w (fun xs ys hh => ?_) (fun hh => ?_), hxu, hyu⟩
    · obtain ⟨rfl, rfl⟩ := hh
      cases hx with
      | undef => exact hxu rfl
      | agg => cases hy with
        | undef => exact hyu rfl
        | agg => exact n2 _ _ rfl rfl
    · obtain ⟨rfl, rfl⟩ := hh
      cases hx with
      | undef => exact hxu rfl
      | nili => cases hy with
        | undef => exact hyu rfl
        | nili => exact n1 rfl rfl
theorem aBin_run {Γ : Gh} {m : Mem} {w : World} (hr : Rel Γ m w) {op : BinOp} {t : TypeId} {xo yo : Operand} {x y v : AV} {x' y' : Value}
    (h : aBin T op t (isConst xo) (isConst yo) x y = some v) (hx : VRel Γ x x') (hy : VRel Γ y y') :
    ∃ u, (do eqGuard op t xo yo x' y'; binOp op t x' y' : Sem Value).run P w = .ok u w ∧ VRel Γ v u := by
  unfold aBin at h
  split at h
  · cases hx; cases hy
    rw [Sem.run_bind, eqGuard_plain w (by simp) (by simp)]
    exact (aShift_run w t).1 h
  · cases hx; cases hy
    rw [Sem.run_bind, eqGuard_plain w (by simp) (by simp)]
    exact (aShift_run w t).2 h
  · rename_i n1 n2
    cases hx; cases hy
    rw [Sem.run_bind, eqGuard_plain w (by simp) (by simp)]
    split at h
    · rename_i hk
      subst hk
      exact aInt_run h w (fun e => n1 e) (fun e => n2 e) t
    · cases h
  · cases hx; cases hy
    rw [Sem.run_bind, eqGuard_plain w (by simp) (by simp)]
    exact aStr_run h w t
  · skip
    rename_i n1 n2
    split at h
    · rename_i hm
      obtain ⟨hg, hxu, hyu⟩ := aEqMay_run hT (op := .eql) hm hx hy w
      rw [Sem.run_bind, hg]
      simp only [Option.map_eq_some_iff] at h
      obtain ⟨b, hb, rfl⟩ := h
      have hsh : eqShape x' y' = true := by
        refine eqShape_of hx hy hxu hyu ?_
        cases x <;> first | exact .inl rfl | skip
        · cases y <;> first | exact .inr rfl | skip
          · exact (n1 _ _ _ _ rfl rfl).elim
          · simp [aEq] at hb
        · cases y <;> first | exact .inr rfl | skip
          · simp [aEq] at hb
          · exact (n2 _ _ rfl rfl).elim
      have he := aEq_run hT hr 50 10000 t x y x' y' b (by decide) hb hx hy
      simp only [Result.andThen_ok, binOp_eql hsh, Sem.run_bind, Op.equal, Op.maxDepth, he, Sem.run_pure]
      exact ⟨_, rfl, .bool b⟩
    · cases h
  · rename_i n1 n2
    split at h
    · rename_i hm
      obtain ⟨hg, hxu, hyu⟩ := aEqMay_run hT (op := .neq) hm hx hy w
      rw [Sem.run_bind, hg]
      simp only [Option.map_eq_some_iff] at h
      obtain ⟨b, hb, rfl⟩ := h
      have hsh : eqShape x' y' = true := by
        refine eqShape_of hx hy hxu hyu ?_
        cases x <;> first | exact .inl rfl | skip
        · cases y <;> first | exact .inr rfl | skip
          · exact (n1 _ _ _ _ rfl rfl).elim
          · simp [aEq] at hb
        · cases y <;> first | exact .inr rfl | skip
          · simp [aEq] at hb
          · exact (n2 _ _ rfl rfl).elim
      have he := aEq_run hT hr 50 10000 t x y x' y' b (by decide) hb hx hy
      simp only [Result.andThen_ok, binOp_neq hsh, Sem.run_bind, Op.equal, Op.maxDepth, he, Sem.run_pure]
      exact ⟨_, rfl, .bool _⟩
    · cases h
  · cases h
end
end Go.AM
