/-
  The evaluator in continuation style: so a function's equation has a plain right-hand side.
-/
import Derived.Test.YtpffgljpkehgmaaAMLim
set_option linter.unusedVariables false
set_option linter.unusedSimpArgs false
namespace Go.AM
open Go
set_option linter.unusedSimpArgs false
set_option linter.unusedVariables false
section
variable {R : Type}
def onBool (v : AV) (x y : Option R) : Option R := match v with
  | .bool true => x
  | .bool false => y
  | _ => none
def onWant (v : AV) (x y u : Option R) : Option R := match v with
  | .bool true => x
  | .bool false => y
  | .tup [] => u
  | _ => none
def fnK (v : AV) (k : FuncId → List AV → List AV → Option R) : Option R := match v with
  | .fn q x y => k q x y
  | _ => none
def outK (k kp : AV → Mem → Option R) (p : AOut × Mem) : Option R := match p.1 with
  | .ret v => k v p.2
  | .pan v => kp v p.2
def retK (r : Option (AOut × Mem)) (k kp : AV → Mem → Option R) : Option R := r.bind (outK k kp)
def panK (v : AV) (k : AV → Option R) : Option R := match v with
  | .iface t u => k (.iface t u)
  | _ => none
def makeIfaceK (d : Option AD) (z : Option R) : Option R := match d with
  | some (.iface _) | none => none
  | _ => z
def nilK (v : AV) (z : Option R) : Option R := match v with
  | .ptr _ _ _ | .pim _ | .fn _ _ _ | .yld _ => z
  | _ => none
def bindK (v : AV) (m : Mem) (k : AV → Mem → Option R) : Option R := k v m
def memK (r : Option (AV × Mem)) (k : AV → Mem → Option R) : Option R := r.bind fun p => k p.1 p.2
def allocK (t : Option AT) (m : Mem) (k : AV → Mem → Option R) : Option R := match t with
  | some t => memK (aBox m t.zero) k
  | none => none
def builtinK (T : TypeId → Option AT) (md : Nat) (m : Mem) (b : Builtin) (ts : List TypeId) (args : List AV) (k : AV → Mem → Option R) : Option R :=
  match b, ts, args with
  | .len, [t], [x] => (aLen T m t x).bind fun v => k v m
  | .append, [st, xt], [s, x] => memK (aAppend T md m st xt s x) k
  | .delete, [t, _], [x, y] => (aDelete T m t x y).bind fun m' => k (.tup []) m'
  | .min, _, x :: r => (aMin x r).bind fun v => k v m
  | .max, _, x :: r => (aMax x r).bind fun v => k v m
  | _, _, _ => none
theorem builtinK_eq (T : TypeId → Option AT) (md : Nat) (m : Mem) (b : Builtin) (ts : List TypeId) (args : List AV) (k : AV → Mem → Option R) : builtinK T md m b ts args k = memK (aBuiltin T md m b ts args) k := by
  unfold builtinK aBuiltin memK
  split <;> simp [memK, Option.bind_map, Function.comp_def]
def opK (X : Ctx) (call : CallV) (f r i : Nat) (o : Oper) (a : AAct) (m : Mem) (k kp : AV → Mem → Option R) : Option R :=
  match o.op with
  | .call c => match c.callee with
    | .builtin b => builtinK X.T (X.md f r i) m b c.argTypes.toList (c.args.toList.map a.eval) k
    | .value g => fnK (a.eval g) fun q first cap => retK (call q (first ++ c.args.toList.map a.eval ++ cap) m) k kp
    | .invoke _ _ => none
  | .panic x => panK (a.eval x) fun v => kp v m
  | .move x | .assign x => if X.md f r i / 2 = 1 then memK (aFreeze X.T m o.type (a.eval x)) k else k (a.eval x) m
  | .pick c x y => onBool (a.eval c) (k (a.eval x) m) (k (a.eval y) m)
  | .alloc e => allocK (X.T e) m k
  | .box _ x => memK (aBox m (a.eval x)) k
  | .build t ps => (aBuild X.T t (ps.toList.map fun p => (p.1, a.eval p.2))).bind fun v => k v m
  | .buildSlice t len ps => if X.md f r i % 2 = 1 then memK (aRowSlice X.T m t len (ps.toList.map fun p => (p.1, a.eval p.2))) k else (aBuildSlice X.T t len (ps.toList.map fun p => (p.1, a.eval p.2))).bind fun v => k v m
  | .load t x => (aLoad X.T m t (a.eval x)).bind fun v => k v m
  | .store t x y => (aStore X.T m t (a.eval x) (a.eval y)).bind fun m' => k .undef m'
  | .nilCheck x => nilK (a.eval x) (k (a.eval x) m)
  | .binOp op t x y _ => (aBin X.T op t (isConst x) (isConst y) (a.eval x) (a.eval y)).bind fun v => k v m
  | .unOp op _ x => (aUn op (a.eval x)).bind fun v => k v m
  | .convert s d x => (aConvert X.T s d (a.eval x)).bind fun v => k v m
  | .makeInterface t x => makeIfaceK (aD X.T t) (k (.iface t (a.eval x)) m)
  | .makeFunc (.func q) first cap => k (.fn q (first.toList.map a.eval) (cap.toList.map a.eval)) m
  | .makeMap _ none => k (.map m.next) (m.alloc (.map []))
  | .makeSlice t l c => memK (aMakeSlice X.T (X.md f r i) m t (a.eval l) (a.eval c)) k
  | .slice t x lo hi mx => (aSlice X.T t (a.eval x) (lo.map a.eval) (hi.map a.eval) (mx.map a.eval)).bind fun v => k v m
  | .fieldAddr t x j => (aFieldAddr X.T t (a.eval x) j).bind fun v => k v m
  | .field t x j => (aField X.T t (a.eval x) j).bind fun v => k v m
  | .indexAddr t x j => (aIndexAddr X.T t (a.eval x) (a.eval j)).bind fun v => k v m
  | .index t x j => (aIndex X.T t (a.eval x) (a.eval j)).bind fun v => k v m
  | .lookup t x y ok => (aLookup X.T m t (a.eval x) (a.eval y) ok).bind fun v => k v m
  | .mapUpdate t x y v | .insert t x y v => (aMapUpdate X.T m t (a.eval x) (a.eval y) (a.eval v)).bind fun m' => k .undef m'
  | .typeAssert x _ t ok => (aTypeAssert X.T (a.eval x) t ok).bind fun v => k v m
  | .extract x j => (aExtract (a.eval x) j).bind fun v => k v m
  | _ => none
theorem opK_eq (X : Ctx) (call : CallV) (f r i : Nat) (o : Oper) (a : AAct) (m : Mem) (k kp : AV → Mem → Option R) : opK X call f r i o a m k kp = (aOper X call f r i o a m).bind (outK k kp) := by
  unfold opK aOper
  cases ho : o.op <;> simp only [aOp]
  case call c =>
    cases hc : c.callee with
    | builtin b => simp only []; rw [builtinK_eq]; simp [memK, Option.bind_map, Function.comp_def, outK]
    | value g => simp only []; unfold fnK; split <;> simp_all [retK]
    | invoke x y => rfl
  case panic x => unfold panK; split <;> simp_all [outK]
  case move x => split <;> simp [memK, Option.bind_map, Function.comp_def, outK]
  case assign x => split <;> simp [memK, Option.bind_map, Function.comp_def, outK]
  case buildSlice t n ps => split <;> simp [memK, Option.bind_map, Option.map_map, Function.comp_def, outK]
  case pick c x y =>
    unfold onBool
    cases a.eval c with
    | bool b => cases b <;> simp [outK]
    | _ => rfl
  case makeInterface t x => unfold makeIfaceK; split <;> simp_all [outK]
  case makeFunc fn x y => cases fn <;> simp [outK]
  case makeMap t z => cases z <;> simp [outK]
  case nilCheck x =>
    unfold nilK
    split <;> simp_all [outK]
  case alloc e =>
    cases X.T e with
    | none => rfl
    | some t => simp [allocK, memK, Option.bind_map, Function.comp_def, outK]
  all_goals first
    | (simp [memK, Option.bind_map, Option.map_map, Function.comp_def, outK]; done)
    | rfl
def guardK (all : List Oper) (o : Oper) (a : AAct) (k : Bool → AAct → Option R) : Option R :=
  match o.guard with
  | none => k true a
  | some (j, want) => match (all[j]?).bind (·.dst) with
    | none => none
    | some t => onWant (a.tmps.getD t .undef) (k want { a with tmps := a.tmps.set t (.bool true) }) (k (!want) { a with tmps := a.tmps.set t (.bool false) }) (k false { a with tmps := a.tmps.set t (.tup []) })
theorem guardK_eq (all : List Oper) (o : Oper) (a : AAct) (k : Bool → AAct → Option R) : guardK all o a k = match aWant all o a with | some wd => k wd a | none => none := by
  have h : guardK all o a k = aGuard all o a k none := by
    unfold guardK aGuard
    cases o.guard with
    | none => rfl
    | some jw =>
      obtain ⟨j, want⟩ := jw
      simp only []
      cases (all[j]?).bind (·.dst) with
      | none => rfl
      | some t =>
        simp only []
        unfold onWant
        cases a.tmps.getD t .undef with
        | bool b => cases b <;> rfl
        | tup l => cases l <;> rfl
        | _ => rfl
  rw [h, aGuard_want]
  cases aWant all o a <;> rfl
def contK (kn : AAct → Mem → Option R) (kx : AExit → AAct → Mem → Option R) (p : AExit × AAct × Mem) : Option R := match p.1 with
  | .normal => kn p.2.1 p.2.2
  | e => kx e p.2.1 p.2.2
def opsK (X : Ctx) (call : CallV) (f r : Nat) (all : List Oper) (kn : AAct → Mem → Option R) (kx : AExit → AAct → Mem → Option R) : Nat → List Oper → AAct → Mem → Option R
  | _, [], a, m => kn a m
  | i, o :: os, a, m => guardK all o a fun w a => bif w then opK X call f r i o a m (fun v m' => opsK X call f r all kn kx (i + 1) os (a.put o.dst v) m') (fun v m' => kx (.panic v) a m')
      else opsK X call f r all kn kx (i + 1) os (a.put o.dst (.tup [])) m
theorem opsK_eq (X : Ctx) (call : CallV) (f r : Nat) (all : List Oper) (kn : AAct → Mem → Option R) (kx : AExit → AAct → Mem → Option R) : ∀ (os : List Oper) (i : Nat) (a : AAct) (m : Mem),
    opsK X call f r all kn kx i os a m = (aOps X call f r all i os a m).bind (contK kn kx)
  | [], i, a, m => rfl
  | o :: os, i, a, m => by
    simp only [opsK, aOps, guardK_eq, aGuard_want]
    cases aWant all o a with
    | none => rfl
    | some wd =>
      cases wd with
      | false => simp only [cond_false, Bool.false_eq_true, if_false]; exact opsK_eq X call f r all kn kx os (i + 1) _ m
      | true =>
        simp only [cond_true, if_true]
        rw [opK_eq, Option.bind_assoc]
        congr 1
        funext p
        obtain ⟨out, m1⟩ := p
        cases out with
        | ret v => simp only [outK]; exact opsK_eq X call f r all kn kx os (i + 1) _ _
        | pan v => rfl
/-- the operations, with what stands ahead of each -/
def opsT (X : Ctx) (call : CallV) (f r : Nat) (all : List Oper) (kn : List (AAct × Mem) → AAct → Mem → Option R) : Nat → List Oper → List (AAct × Mem) → AAct → Mem → Option R
  | _, [], tr, a, m => kn (tr ++ [(a, m)]) a m
  | i, o :: os, tr, a, m => guardK all o a fun w a => bif w then opK X call f r i o a m (fun v m' => opsT X call f r all kn (i + 1) os (tr ++ [(a, m)]) (a.put o.dst v) m') (fun _ _ => none)
      else opsT X call f r all kn (i + 1) os (tr ++ [(a, m)]) (a.put o.dst (.tup [])) m
theorem opsT_eq (X : Ctx) (call : CallV) (f r : Nat) (all : List Oper) (kn : List (AAct × Mem) → AAct → Mem → Option R) : ∀ (os : List Oper) (i : Nat) (tr : List (AAct × Mem)) (a : AAct) (m : Mem),
    opsT X call f r all kn i os tr a m = (aOps X call f r all i os a m).bind (contK (kn (tr ++ aTrace X call f r all i os a m)) fun _ _ _ => none)
  | [], i, tr, a, m => rfl
  | o :: os, i, tr, a, m => by
    simp only [opsT, aOps, aTrace, guardK_eq, aGuard_want]
    cases aWant all o a with
    | none => rfl
    | some wd =>
      cases wd with
      | false =>
        simp only [cond_false, Bool.false_eq_true, if_false]
        rw [opsT_eq X call f r all kn os (i + 1) _ _ m, List.append_assoc]
        rfl
      | true =>
        simp only [cond_true, if_true]
        rw [opK_eq, Option.bind_assoc]
        cases aOper X call f r i o a m with
        | none => rfl
        | some p =>
          obtain ⟨out, m1⟩ := p
          cases out with
          | ret v =>
            simp only [outK, Option.bind_some]
            rw [opsT_eq X call f r all kn os (i + 1) _ _ _, List.append_assoc]
            rfl
          | pan v => rfl
def sameK (v u : AV) (z : Option R) : Option R := bif AV.same v u then z else none
def holdK (X : Ctx) (f r : Nat) (ops : List Oper) (tr : List (AAct × Mem)) (z : Option R) (le : Nat × Nat) : Option R :=
  match ops[le.1]?, tr[le.1]?, tr[le.1 + 1]?, tr[if le.2 < le.1 then le.2 else le.2 + 1]? with
  | some o, some p, some q, some s => guardK ops o p.1 fun w a => bif w then (match o.dst with
      | some d => opK X (fun _ _ _ => none) f r le.1 o a s.2 (fun v _ => sameK v (q.1.tmps.getD d .undef) z) (fun _ _ => none)
      | none => none) else z
  | _, _, _, _ => none
theorem holdK_eq (X : Ctx) (f r : Nat) (ops : List Oper) (tr : List (AAct × Mem)) (z : Option R) (le : Nat × Nat) : holdK X f r ops tr z le = bif aHolds X f r ops tr le then z else none := by
  unfold holdK aHolds
  split
  · rename_i o p q s h1 h2 h3 h4
    simp only [h1, h2, h3, h4, guardK_eq, aGuard_want]
    cases aWant ops o p.1 with
    | none => rfl
    | some wd =>
      cases wd with
      | false => rfl
      | true =>
        simp only [cond_true, Bool.not_true, Bool.false_or]
        cases hd : o.dst with
        | none =>
          simp only []
          split
          · rename_i h; cases h
          · rfl
        | some d =>
          simp only []
          rw [opK_eq]
          cases aOper X (fun _ _ _ => none) f r le.1 o p.1 s.2 with
          | none => rfl
          | some x =>
            obtain ⟨out, m1⟩ := x
            cases out with
            | ret v => rfl
            | pan v => rfl
  · rename_i h
    split
    · rename_i h1 h2 h3 h4; exact absurd h4 (h _ _ _ _ h1 h2 h3)
    · rfl
def chkK (X : Ctx) (f r : Nat) (ops : List Oper) (tr : List (AAct × Mem)) : List (Nat × Nat) → Option R → Option R
  | [], z => z
  | p :: ps, z => holdK X f r ops tr (chkK X f r ops tr ps z) p
theorem chkK_eq (X : Ctx) (f r : Nat) (ops : List Oper) (tr : List (AAct × Mem)) (z : Option R) : ∀ ps : List (Nat × Nat), chkK X f r ops tr ps z = if ps.all (aHolds X f r ops tr) then z else none
  | [] => rfl
  | p :: ps => by
    simp only [chkK]
    rw [holdK_eq, chkK_eq X f r ops tr z ps]
    cases h1 : aHolds X f r ops tr p <;> cases h2 : ps.all (aHolds X f r ops tr) <;> simp [h1, h2]
def regionK (X : Ctx) (call : CallV) (f r : Nat) (ops : List Oper) (draw : Bool) (a : AAct) (m : Mem) (kn : AAct → Mem → Option R) (kx : AExit → AAct → Mem → Option R) : Option R :=
  bif draw then
    bif (X.chk f r).isEmpty then opsK X call f r ops (fun a m => kn (killed (X.kill f r) a) m) (fun _ _ _ => none) 0 ops a m
    else opsT X call f r ops (fun tr a m => chkK X f r ops tr (X.chk f r) (kn (killed (X.kill f r) a) m)) 0 ops [] a m
  else opsK X call f r ops (fun a m => kn (killed (X.kill f r) a) m) kx 0 ops a m
theorem regionK_eq (X : Ctx) (call : CallV) (f r : Nat) (ops : List Oper) (draw : Bool) (a : AAct) (m : Mem) (kn : AAct → Mem → Option R) (kx : AExit → AAct → Mem → Option R) :
    regionK X call f r ops draw a m kn kx = (aRegion X call f r ops draw a m).bind (contK kn kx) := by
  unfold regionK aRegion
  rw [Option.bind_assoc]
  cases draw with
  | false =>
    simp only [cond_false, Bool.false_and, Bool.false_eq_true, if_false]
    rw [opsK_eq]
    congr 1
    funext p
    obtain ⟨e, p⟩ := p
    cases e <;> rfl
  | true =>
    simp only [cond_true, Bool.true_and, if_true]
    cases hc : (X.chk f r).isEmpty with
    | true =>
      simp only [cond_true, Bool.not_true, Bool.false_eq_true, if_false]
      rw [opsK_eq]
      congr 1
      funext p
      obtain ⟨e, p⟩ := p
      cases e <;> rfl
    | false =>
      simp only [cond_false, Bool.not_false, if_true]
      rw [opsT_eq]
      congr 1
      funext p
      obtain ⟨e, p⟩ := p
      cases e with
      | normal =>
        simp only [contK, List.nil_append]
        rw [chkK_eq]
        split <;> rfl
      | _ => rfl
def blockX (id : Nat) (kn : AAct → Mem → Option R) (kx : AExit → AAct → Mem → Option R) (e : AExit) (a : AAct) (m : Mem) : Option R := match e with
  | .exit id' => bif Nat.beq id' id then kn a m else kx (.exit id') a m
  | e => kx e a m
noncomputable def loopK (X : Ctx) (f b : Nat) (c : Code) (kx : AExit → AAct → Mem → Option R) (a : AAct) (m : Mem) : Option R :=
  (loopW (X.lk f b) (aExecW X f b c) a m).bind fun p => kx p.1 p.2.1 p.2.2
noncomputable def execK (X : Ctx) (f : Nat) : (bid : Nat) → Code → (kn : AAct → Mem → Option R) → (kx : AExit → AAct → Mem → Option R) → AAct → Mem → Option R
  | _, .skip, kn, _, a, m => kn a m
  | _, .label _, kn, _, a, m => kn a m
  | _, .region id ops draw, kn, kx, a, m => regionK X (aW X) f id ops.toList draw a m kn kx
  | b, .seq x y, kn, kx, a, m => execK X f b x (execK X f b y kn kx) kx a m
  | b, .cond (.tmp t) x y, kn, kx, a, m => onBool (a.tmps.getD t .undef) (execK X f b x kn kx { a with tmps := a.tmps.set t .undef } m) (execK X f b y kn kx { a with tmps := a.tmps.set t .undef } m)
  | b, .cond (.const (.bool c)) x y, kn, kx, a, m => bif c then execK X f b x kn kx a m else execK X f b y kn kx a m
  | _, .block id c, kn, kx, a, m => execK X f id c kn (blockX id kn kx) a m
  | b, .loop c, _, kx, a, m => loopK X f b c kx (killed (X.lk f b) a) m
  | b, .scope c, kn, kx, a, m => execK X f b c kn kx a m
  | _, .exit id, _, kx, a, m => kx (.exit id) a m
  | _, .ret, _, kx, a, m => kx .ret a m
  | _, _, _, _, _, _ => none
end
theorem killed_tmps : ∀ (ks : List Nat) (a : AAct), (killed ks a).tmps.length = a.tmps.length ∧ ∀ t, (killed ks a).tmps[t]? = if t ∈ ks ∧ t < a.tmps.length then some .undef else a.tmps[t]?
  | [], a => by simp [killed]
  | k :: ks, a => by
    obtain ⟨h1, h2⟩ := killed_tmps ks { a with tmps := a.tmps.set k .undef }
    have e : killed (k :: ks) a = killed ks { a with tmps := a.tmps.set k .undef } := rfl
    rw [e]
    refine ⟨by rw [h1]; simp, fun t => ?_⟩
    rw [h2]
    simp only [List.length_set, List.mem_cons, List.getElem?_set]
    by_cases hk : k = t
    · subst hk
      by_cases hl : k < a.tmps.length
      · simp [hl]
      · simp [hl, List.getElem?_eq_none (Nat.le_of_not_lt hl)]
    · have hk' : ¬ t = k := fun h => hk h.symm
      simp [hk, hk']
theorem killed_killed (ks : List Nat) (a : AAct) : killed ks (killed ks a) = killed ks a := by
  have h : (killed ks (killed ks a)).tmps = (killed ks a).tmps := by
    apply List.ext_getElem?
    intro t
    rw [(killed_tmps ks _).2, (killed_tmps ks a).2, (killed_tmps ks a).1]
    split <;> rfl
  have e : ∀ b : AAct, killed ks b = ⟨(killed ks b).tmps, b.defers⟩ := fun b => rfl
  rw [e (killed ks a), h]
theorem loopW_kill (ks : List Nat) (body : AAct → Mem → Option (AExit × AAct × Mem)) (a : AAct) (m : Mem) : loopW ks body (killed ks a) m = loopW ks body a m := by
  rw [loopW_eq, loopW_eq ks body a, killed_killed]
theorem loopW_exit {ks : List Nat} {body : AAct → Mem → Option (AExit × AAct × Mem)} {a : AAct} {m : Mem} {p : AExit × AAct × Mem} (h : loopW ks body a m = some p) : p.1 ≠ .normal := by
  have : ∀ (n : Nat) (a : AAct) (m : Mem), aLoop ks body n a m = some p → p.1 ≠ .normal := by
    intro n
    induction n with
    | zero => intro a m h; cases h
    | succ n ih =>
      intro a m h
      simp only [aLoop, Option.bind_eq_some_iff] at h
      obtain ⟨q, hq, h⟩ := h
      obtain ⟨e, q⟩ := q
      cases e with
      | normal => exact ih _ _ h
      | _ => cases h; simp
  obtain ⟨n, hn⟩ := of_lim h
  exact this n a m hn
section
variable {R : Type}
theorem execK_eq (X : Ctx) (f : Nat) : ∀ (c : Code) (b : Nat) (kn : AAct → Mem → Option R) (kx : AExit → AAct → Mem → Option R) (a : AAct) (m : Mem), execK X f b c kn kx a m = (aExecW X f b c a m).bind (contK kn kx) := by
  intro c
  induction c with
  | skip => intro b kn kx a m; rfl
  | label l => intro b kn kx a m; rfl
  | region id ops draw => intro b kn kx a m; exact regionK_eq X (aW X) f id ops.toList draw a m kn kx
  | seq x y ihx ihy =>
    intro b kn kx a m
    simp only [execK, aExecW]
    rw [ihx, Option.bind_assoc]
    congr 1
    funext p
    obtain ⟨e, p⟩ := p
    cases e with
    | normal => exact ihy b kn kx _ _
    | _ => rfl
  | cond cnd x y ihx ihy =>
    intro b kn kx a m
    cases cnd with
    | tmp t =>
      simp only [execK, aExecW]
      unfold onBool
      cases a.tmps.getD t .undef with
      | bool v =>
        cases v
        · exact ihy b kn kx _ _
        · exact ihx b kn kx _ _
      | _ => rfl
    | const v =>
      cases v <;> simp only [execK, aExecW] <;> try rfl
      rename_i v
      cases v
      · exact ihy b kn kx _ _
      · exact ihx b kn kx _ _
    | _ => rfl
  | block id cd ih =>
    intro b kn kx a m
    simp only [execK, aExecW]
    rw [ih, Option.bind_assoc]
    congr 1
    funext p
    obtain ⟨e, p⟩ := p
    cases e with
    | exit id' =>
      simp only [contK, blockX]
      by_cases h : id' = id
      · subst h; simp [contK]
      · have : Nat.beq id' id = false := by cases hb : Nat.beq id' id with
          | false => rfl
          | true => exact absurd (Nat.eq_of_beq_eq_true hb) h
        rw [this, if_neg h]; rfl
    | _ => rfl
  | loop cd ih =>
    intro b kn kx a m
    simp only [execK, aExecW, loopK]
    rw [loopW_kill]
    cases h : loopW (X.lk f b) (aExecW X f b cd) a m with
    | none => rfl
    | some p =>
      have := loopW_exit h
      obtain ⟨e, p⟩ := p
      cases e with
      | normal => exact absurd rfl this
      | _ => rfl
  | scope cd ih => intro b kn kx a m; exact ih b kn kx a m
  | exit id => intro b kn kx a m; rfl
  | ret => intro b kn kx a m; rfl
  | rangeFunc q p x y _ _ => intro b kn kx a m; rfl
  | goto l => intro b kn kx a m; rfl
  | refuse w => intro b kn kx a m; rfl
/-- ONE ROUND OF A LOOP. -/
theorem loopK_eq (X : Ctx) (f b : Nat) (c : Code) (kx : AExit → AAct → Mem → Option R) (a : AAct) (m : Mem) :
    loopK X f b c kx a m = execK X f b c (fun a m => loopK X f b c kx (killed (X.lk f b) a) m) kx (killed (X.lk f b) a) m := by
  rw [execK_eq]
  unfold loopK
  rw [loopW_eq, Option.bind_assoc]
  congr 1
  funext p
  obtain ⟨e, p⟩ := p
  cases e with
  | normal => simp only [contK]; rw [loopW_kill]
  | _ => rfl
end
def resK (T : TypeId → Option AT) (a : AAct) (m : Mem) (k : List AV → Option (AOut × Mem)) : List ResultVar → List AV → Option (AOut × Mem)
  | [], acc => k acc
  | .tmp t :: rs, acc => resK T a m k rs (acc ++ [a.tmps.getD t .undef])
  | .cell p t :: rs, acc => (aLoad T m t (a.tmps.getD p .undef)).bind fun v => resK T a m k rs (acc ++ [v])
theorem resK_eq (T : TypeId → Option AT) (a : AAct) (m : Mem) (k : List AV → Option (AOut × Mem)) : ∀ (rs : List ResultVar) (acc : List AV), resK T a m k rs acc = (aResultsL T a m rs).bind fun vs => k (acc ++ vs)
  | [], acc => by simp [resK, aResultsL]
  | .tmp t :: rs, acc => by
    simp only [resK, aResultsL, aResult, Option.bind_some]
    rw [resK_eq T a m k rs, Option.bind_map]
    simp [Function.comp_def]
  | .cell p t :: rs, acc => by
    simp only [resK, aResultsL, aResult]
    rw [Option.bind_assoc]
    congr 1
    funext v
    rw [resK_eq T a m k rs, Option.bind_map]
    simp [Function.comp_def]
/-- what comes at a function's end -/
def finK (T : TypeId → Option AT) (rs : List ResultVar) (e : AExit) (a : AAct) (m : Mem) : Option (AOut × Mem) :=
  match a.defers with
  | [] => match e with
    | .normal | .ret => resK T a m (fun vs => some (.ret (oneOrTup vs), m)) rs []
    | .panic v => some (.pan v, m)
    | .exit _ => none
  | _ :: _ => none
theorem finK_eq (T : TypeId → Option AT) (fn : Func) (p : AExit × AAct × Mem) : aFinish T fn p = finK T fn.results.toList p.1 p.2.1 p.2.2 := by
  unfold aFinish finK
  split
  · rename_i hd
    simp only [hd]
    split <;> simp_all [resK_eq, Option.map_eq_bind, Function.comp_def]
  · rename_i hd
    simp only [hd]
/-- A CALL, in continuation style. -/
theorem aW_K {X : Ctx} {f : FuncId} {fn : Func} {c : Code} (hp : X.prim f = none) (hl : X.look f = some fn) (hb : fn.body = some c) (args : List AV) (m : Mem) :
    aW X f args m = execK X f 0 c (finK X.T fn.results.toList .normal) (finK X.T fn.results.toList) ⟨args ++ List.replicate (fn.ntmps - args.length) .undef, []⟩ m := by
  rw [aW_eq hp hl hb, execK_eq]
  congr 1
  funext p
  rw [finK_eq]
  obtain ⟨e, p⟩ := p
  cases e <;> rfl
end Go.AM
