/-
  The evaluator in continuation style over frames that are laid out anew at each write: so the kernel reckons an equation in little time.
-/
import Derived.Test.YtpffgljpkehgmaaAMK
set_option linter.unusedVariables false
set_option linter.unusedSimpArgs false
namespace Go.AM
open Go
set_option linter.unusedSimpArgs false
set_option linter.unusedVariables false
section
variable {R : Type}
abbrev getK : List AV → Nat → (AV → R) → R
  | [], _, k => k .undef
  | x :: _, 0, k => k x
  | _ :: xs, n + 1, k => getK xs n k
abbrev setK : List AV → Nat → AV → (List AV → R) → R
  | [], _, _, k => k []
  | _ :: xs, 0, v, k => k (v :: xs)
  | x :: xs, n + 1, v, k => setK xs n v fun ys => k (x :: ys)
abbrev killF : List Nat → List AV → (List AV → R) → R
  | [], l, k => k l
  | t :: ts, l, k => setK l t .undef fun l' => killF ts l' k
abbrev putF (l : List AV) (d : Option Tmp) (v : AV) (k : List AV → R) : R := match d with
  | some t => setK l t v k
  | none => k l
abbrev evK (l : List AV) (o : Operand) (k : AV → R) : R := match o with
  | .tmp t => getK l t k
  | .const v => k (absC v)
  | .global _ => k .undef
  | .func f => k (.fn f [] [])
abbrev evL (l : List AV) : List Operand → (List AV → R) → R
  | [], k => k []
  | o :: os, k => evK l o fun v => evL l os fun vs => k (v :: vs)
abbrev evP (l : List AV) : List (Nat × Operand) → (List (Nat × AV) → R) → R
  | [], k => k []
  | (i, o) :: os, k => evK l o fun v => evP l os fun vs => k ((i, v) :: vs)
abbrev evO (l : List AV) (o : Option Operand) (k : Option AV → R) : R := match o with
  | none => k none
  | some o => evK l o fun v => k (some v)
theorem getK_eq : ∀ (l : List AV) (n : Nat) (k : AV → R), getK l n k = k (l.getD n .undef)
  | [], n, k => by simp [getK]
  | x :: l, 0, k => rfl
  | x :: l, n + 1, k => by simp [getK, getK_eq l n k]
theorem setK_eq : ∀ (l : List AV) (n : Nat) (v : AV) (k : List AV → R), setK l n v k = k (l.set n v)
  | [], n, v, k => rfl
  | x :: l, 0, v, k => rfl
  | x :: l, n + 1, v, k => by simp [setK, setK_eq l n v]
theorem killF_eq : ∀ (ts : List Nat) (l : List AV) (k : List AV → R), killF ts l k = k (ts.foldl (fun l t => l.set t .undef) l)
  | [], l, k => rfl
  | t :: ts, l, k => by simp [killF, setK_eq, killF_eq ts]
theorem putF_eq (a : AAct) (d : Option Tmp) (v : AV) (k : List AV → R) : putF a.tmps d v k = k (a.put d v).tmps := by
  cases d <;> simp [putF, AAct.put, setK_eq]
theorem evK_eq (a : AAct) (o : Operand) (k : AV → R) : evK a.tmps o k = k (a.eval o) := by
  cases o <;> simp [evK, AAct.eval, getK_eq]
theorem evL_eq (a : AAct) : ∀ (os : List Operand) (k : List AV → R), evL a.tmps os k = k (os.map a.eval)
  | [], k => rfl
  | o :: os, k => by simp [evL, evK_eq, evL_eq a os]
theorem evP_eq (a : AAct) : ∀ (os : List (Nat × Operand)) (k : List (Nat × AV) → R), evP a.tmps os k = k (os.map fun p => (p.1, a.eval p.2))
  | [], k => rfl
  | (i, o) :: os, k => by simp [evP, evK_eq, evP_eq a os]
theorem evO_eq (a : AAct) (o : Option Operand) (k : Option AV → R) : evO a.tmps o k = k (o.map a.eval) := by
  cases o <;> simp [evO, evK_eq]
end
section
variable {R : Type}
abbrev opF (X : Ctx) (call : CallV) (f r i : Nat) (o : Oper) (l : List AV) (m : Mem) (k kp : AV → Mem → Option R) : Option R :=
  match o.op with
  | .call c => match c.callee with
    | .builtin b => evL l c.args.toList fun xs => builtinK X.T (X.md f r i) m b c.argTypes.toList xs k
    | .value g => evK l g fun g => evL l c.args.toList fun xs => fnK g fun q first cap => retK (call q (first ++ xs ++ cap) m) k kp
    | .invoke _ _ => none
  | .panic x => evK l x fun x => panK x fun v => kp v m
  | .move x | .assign x => evK l x fun x => match Nat.beq (X.md f r i / 2) 1 with
    | true => memK (aFreeze X.T m o.type x) k
    | false => k x m
  | .pick c x y => evK l c fun c => match c with
    | .bool true => evK l x fun x => k x m
    | .bool false => evK l y fun y => k y m
    | _ => none
  | .alloc e => allocK (X.T e) m k
  | .box _ x => evK l x fun x => memK (aBox m x) k
  | .build t ps => evP l ps.toList fun ps => (aBuild X.T t ps).bind fun v => k v m
  | .buildSlice t len ps => evP l ps.toList fun ps => match Nat.beq (X.md f r i % 2) 1 with
    | true => memK (aRowSlice X.T m t len ps) k
    | false => (aBuildSlice X.T t len ps).bind fun v => k v m
  | .load t x => evK l x fun x => (aLoad X.T m t x).bind fun v => k v m
  | .store t x y => evK l x fun x => evK l y fun y => (aStore X.T m t x y).bind fun m' => k .undef m'
  | .nilCheck x => evK l x fun x => nilK x (k x m)
  | .binOp op t x y _ => evK l x fun x' => evK l y fun y' => (aBin X.T op t (isConst x) (isConst y) x' y').bind fun v => k v m
  | .unOp op _ x => evK l x fun x => (aUn op x).bind fun v => k v m
  | .convert s d x => evK l x fun x => (aConvert X.T s d x).bind fun v => k v m
  | .makeInterface t x => evK l x fun x => match aD X.T t with
    | some (.iface _) | none => none
    | _ => k (.iface t x) m
  | .makeFunc (.func q) first cap => evL l first.toList fun first => evL l cap.toList fun cap => k (.fn q first cap) m
  | .makeMap _ none => k (.map m.next) (m.alloc (.map []))
  | .makeSlice t x c => evK l x fun x => evK l c fun c => memK (aMakeSlice X.T (X.md f r i) m t x c) k
  | .slice t x lo hi mx => evK l x fun x => evO l lo fun lo => evO l hi fun hi => evO l mx fun mx => (aSlice X.T t x lo hi mx).bind fun v => k v m
  | .fieldAddr t x j => evK l x fun x => (aFieldAddr X.T t x j).bind fun v => k v m
  | .field t x j => evK l x fun x => (aField X.T t x j).bind fun v => k v m
  | .indexAddr t x j => evK l x fun x => evK l j fun j => (aIndexAddr X.T t x j).bind fun v => k v m
  | .index t x j => evK l x fun x => evK l j fun j => (aIndex X.T t x j).bind fun v => k v m
  | .lookup t x y ok => evK l x fun x => evK l y fun y => (aLookup X.T m t x y ok).bind fun v => k v m
  | .mapUpdate t x y v | .insert t x y v => evK l x fun x => evK l y fun y => evK l v fun v => (aMapUpdate X.T m t x y v).bind fun m' => k .undef m'
  | .typeAssert x _ t ok => evK l x fun x => (aTypeAssert X.T x t ok).bind fun v => k v m
  | .extract x j => evK l x fun x => (aExtract x j).bind fun v => k v m
  | _ => none
theorem onCase (v : AV) (x y : Option R) : (match v with | .bool true => x | .bool false => y | _ => none) = onBool v x y := by
  cases v with
  | bool b => cases b <;> rfl
  | _ => rfl
theorem ifCase (d : Option AD) (z : Option R) : (match d with | some (.iface _) | none => none | _ => z) = makeIfaceK d z := by
  cases d with
  | none => rfl
  | some d => cases d <;> rfl
theorem wantCase (v : AV) (x y u : Option R) : (match v with | .bool true => x | .bool false => y | .tup [] => u | _ => none) = onWant v x y u := by
  cases v with
  | bool b => cases b <;> rfl
  | tup l => cases l <;> rfl
  | _ => rfl
theorem mdCase {α : Type} (n : Nat) (x y : α) : (match Nat.beq n 1 with | true => x | false => y) = if n = 1 then x else y := by
  by_cases h : n = 1
  · subst h; rfl
  · have : Nat.beq n 1 = false := by cases hb : Nat.beq n 1 with
      | false => rfl
      | true => exact absurd (Nat.eq_of_beq_eq_true hb) h
    rw [this, if_neg h]
theorem opF_eq (X : Ctx) (call : CallV) (f r i : Nat) (o : Oper) (a : AAct) (m : Mem) (k kp : AV → Mem → Option R) : opF X call f r i o a.tmps m k kp = opK X call f r i o a m k kp := by
  unfold opF opK
  cases ho : o.op <;> simp only [evK_eq, evL_eq, evP_eq, evO_eq]
  case call c => cases c.callee <;> simp only [evK_eq, evL_eq]
  case move x => exact mdCase _ _ _
  case assign x => exact mdCase _ _ _
  case buildSlice t n ps => exact mdCase _ _ _
  case pick c x y => exact onCase _ _ _
  case makeInterface t x => exact ifCase _ _
  case makeFunc fn x y => cases fn <;> simp only [evL_eq]
  case makeMap t z => cases z <;> rfl
abbrev guardF (all : List Oper) (o : Oper) (l : List AV) (k : Bool → List AV → Option R) : Option R :=
  match o.guard with
  | none => k true l
  | some (j, want) => match (all[j]?).bind (·.dst) with
    | none => none
    | some t => getK l t fun v => match v with
      | .bool true => setK l t (.bool true) (k want)
      | .bool false => setK l t (.bool false) (k (match want with | true => false | false => true))
      | .tup [] => setK l t (.tup []) (k false)
      | _ => none
theorem guardF_eq (all : List Oper) (o : Oper) (a : AAct) (k : Bool → List AV → Option R) : guardF all o a.tmps k = guardK all o a fun w a => k w a.tmps := by
  unfold guardF guardK
  cases o.guard with
  | none => rfl
  | some jw =>
    obtain ⟨j, want⟩ := jw
    simp only []
    cases (all[j]?).bind (·.dst) with
    | none => rfl
    | some t =>
      simp only [getK_eq, setK_eq]
      cases want <;> exact wantCase _ _ _ _
theorem guardK_congr (all : List Oper) (o : Oper) (a : AAct) {k k' : Bool → AAct → Option R} (h : ∀ w b, b.defers = a.defers → k w b = k' w b) : guardK all o a k = guardK all o a k' := by
  unfold guardK
  split
  · exact h _ _ rfl
  · split
    · rfl
    · rename_i t _
      rw [h _ { a with tmps := a.tmps.set t (.bool true) } rfl, h _ { a with tmps := a.tmps.set t (.bool false) } rfl, h _ { a with tmps := a.tmps.set t (.tup []) } rfl]
theorem mk_eta (a : AAct) {d} (h : a.defers = d) : (⟨a.tmps, d⟩ : AAct) = a := by cases a; cases h; rfl
theorem put_defers (a : AAct) (d : Option Tmp) (v : AV) : (a.put d v).defers = a.defers := by cases d <;> rfl
abbrev opsF (X : Ctx) (call : CallV) (f r : Nat) (all : List Oper) (d : List (AV × List AV)) (kn : List AV → Mem → Option R) (kx : AExit → AAct → Mem → Option R) : Nat → List Oper → List AV → Mem → Option R
  | _, [], l, m => kn l m
  | i, o :: os, l, m => guardF all o l fun w l => match w with
    | true => opF X call f r i o l m (fun v m' => putF l o.dst v fun l' => opsF X call f r all d kn kx (i + 1) os l' m') (fun v m' => kx (.panic v) ⟨l, d⟩ m')
    | false => putF l o.dst (.tup []) fun l' => opsF X call f r all d kn kx (i + 1) os l' m
theorem opsF_eq (X : Ctx) (call : CallV) (f r : Nat) (all : List Oper) (d : List (AV × List AV)) (kn : List AV → Mem → Option R) (kx : AExit → AAct → Mem → Option R) : ∀ (os : List Oper) (i : Nat) (a : AAct) (m : Mem), a.defers = d →
    opsF X call f r all d kn kx i os a.tmps m = opsK X call f r all (fun a m => kn a.tmps m) kx i os a m
  | [], i, a, m, h => rfl
  | o :: os, i, a, m, h => by
    simp only [opsF, opsK, guardF_eq]
    refine guardK_congr all o a fun w b hb => ?_
    rw [opF_eq]
    simp only [putF_eq]
    have e : ∀ v m', opsF X call f r all d kn kx (i + 1) os (b.put o.dst v).tmps m' = opsK X call f r all (fun a m => kn a.tmps m) kx (i + 1) os (b.put o.dst v) m' :=
      fun v m' => opsF_eq X call f r all d kn kx os (i + 1) _ m' ((put_defers _ _ _).trans (hb.trans h))
    simp only [e, mk_eta b (hb.trans h)]
    cases w <;> rfl
abbrev opsTF (X : Ctx) (call : CallV) (f r : Nat) (all : List Oper) (kn : List (List AV × Mem) → List AV → Mem → Option R) : Nat → List Oper → List (List AV × Mem) → List AV → Mem → Option R
  | _, [], tr, l, m => kn (tr ++ [(l, m)]) l m
  | i, o :: os, tr, l, m => guardF all o l fun w l => match w with
    | true => opF X call f r i o l m (fun v m' => putF l o.dst v fun l' => opsTF X call f r all kn (i + 1) os (tr ++ [(l, m)]) l' m') (fun _ _ => none)
    | false => putF l o.dst (.tup []) fun l' => opsTF X call f r all kn (i + 1) os (tr ++ [(l, m)]) l' m
end
/-- a trace without what is put off -/
def bare (tr : List (AAct × Mem)) : List (List AV × Mem) := tr.map fun p => (p.1.tmps, p.2)
section
variable {R : Type}
theorem opsT_congr (X : Ctx) (call : CallV) (f r : Nat) (all : List Oper) (D : List (AV × List AV)) {kn kn' : List (AAct × Mem) → AAct → Mem → Option R} (hk : ∀ tr b m, (∀ p ∈ tr, p.1.defers = D) → b.defers = D → kn tr b m = kn' tr b m) :
    ∀ (os : List Oper) (i : Nat) (tr : List (AAct × Mem)) (a : AAct) (m : Mem), (∀ p ∈ tr, p.1.defers = D) → a.defers = D → opsT X call f r all kn i os tr a m = opsT X call f r all kn' i os tr a m
  | [], i, tr, a, m, ht, h => hk _ a m (by intro p hp; rcases List.mem_append.1 hp with hp | hp; exact ht p hp; simp only [List.mem_singleton] at hp; subst hp; exact h) h
  | o :: os, i, tr, a, m, ht, h => by
    simp only [opsT]
    have hd : ∀ b : AAct, b.defers = a.defers → ∀ p ∈ tr ++ [(b, m)], p.1.defers = D := by
      intro b hb p hp; rcases List.mem_append.1 hp with hp | hp
      · exact ht p hp
      · simp only [List.mem_singleton] at hp; subst hp; exact hb.trans h
    refine guardK_congr all o a fun w b hb => ?_
    have e : ∀ v m', opsT X call f r all kn (i + 1) os (tr ++ [(b, m)]) (b.put o.dst v) m' = opsT X call f r all kn' (i + 1) os (tr ++ [(b, m)]) (b.put o.dst v) m' :=
      fun v m' => opsT_congr X call f r all D hk os (i + 1) _ _ m' (hd b hb) ((put_defers _ _ _).trans (hb.trans h))
    simp only [e]
theorem opsTF_eq (X : Ctx) (call : CallV) (f r : Nat) (all : List Oper) (kn : List (List AV × Mem) → List AV → Mem → Option R) : ∀ (os : List Oper) (i : Nat) (tr : List (AAct × Mem)) (a : AAct) (m : Mem),
    opsTF X call f r all kn i os (bare tr) a.tmps m = opsT X call f r all (fun tr a m => kn (bare tr) a.tmps m) i os tr a m
  | [], i, tr, a, m => by simp [opsTF, opsT, bare]
  | o :: os, i, tr, a, m => by
    simp only [opsTF, opsT, guardF_eq]
    refine guardK_congr all o a fun w b hb => ?_
    rw [opF_eq]
    simp only [putF_eq]
    have e : ∀ v m', opsTF X call f r all kn (i + 1) os (bare tr ++ [(b.tmps, m)]) (b.put o.dst v).tmps m' = opsT X call f r all (fun tr a m => kn (bare tr) a.tmps m) (i + 1) os (tr ++ [(b, m)]) (b.put o.dst v) m' := fun v m' => by
      have : bare tr ++ [(b.tmps, m)] = bare (tr ++ [(b, m)]) := by simp [bare]
      rw [this]; exact opsTF_eq X call f r all kn os (i + 1) _ _ m'
    simp only [e]
    cases w <;> rfl
abbrev holdF (X : Ctx) (f r : Nat) (ops : List Oper) (tr : List (List AV × Mem)) (z : Option R) (le : Nat × Nat) : Option R :=
  match ops[le.1]?, tr[le.1]?, tr[le.1 + 1]?, tr[if le.2 < le.1 then le.2 else le.2 + 1]? with
  | some o, some p, some q, some s => guardF ops o p.1 fun w l => match w with
    | true => (match o.dst with
      | some d => opF X (fun _ _ _ => none) f r le.1 o l s.2 (fun v _ => getK q.1 d fun u => sameK v u z) (fun _ _ => none)
      | none => none)
    | false => z
  | _, _, _, _ => none
theorem holdF_eq (X : Ctx) (f r : Nat) (ops : List Oper) (tr : List (AAct × Mem)) (z : Option R) (le : Nat × Nat) : holdF X f r ops (bare tr) z le = holdK X f r ops tr z le := by
  unfold holdF holdK
  simp only [bare, List.getElem?_map]
  cases ops[le.1]? with
  | none => rfl
  | some o =>
    cases tr[le.1]? with
    | none => rfl
    | some p =>
      cases tr[le.1 + 1]? with
      | none => rfl
      | some q =>
        cases tr[if le.2 < le.1 then le.2 else le.2 + 1]? with
        | none => rfl
        | some s =>
          simp only [Option.map_some, guardF_eq]
          refine guardK_congr ops o p.1 fun w b hb => ?_
          cases o.dst with
          | none => cases w <;> rfl
          | some d => simp only [opF_eq, getK_eq]; cases w <;> rfl
abbrev chkF (X : Ctx) (f r : Nat) (ops : List Oper) (tr : List (List AV × Mem)) : List (Nat × Nat) → Option R → Option R
  | [], z => z
  | p :: ps, z => holdF X f r ops tr (chkF X f r ops tr ps z) p
theorem chkF_eq (X : Ctx) (f r : Nat) (ops : List Oper) (tr : List (AAct × Mem)) (z : Option R) : ∀ ps : List (Nat × Nat), chkF X f r ops (bare tr) ps z = chkK X f r ops tr ps z
  | [] => rfl
  | p :: ps => by simp only [chkF, chkK, holdF_eq, chkF_eq X f r ops tr z ps]
abbrev blockF (id : Nat) (kn : AAct → Mem → Option R) (kx : AExit → AAct → Mem → Option R) (e : AExit) (a : AAct) (m : Mem) : Option R := match e with
  | .exit id' => match Nat.beq id' id with
    | true => kn a m
    | false => kx (.exit id') a m
  | e => kx e a m
theorem blockF_eq (id : Nat) (kn : AAct → Mem → Option R) (kx : AExit → AAct → Mem → Option R) : blockF id kn kx = blockX id kn kx := by
  funext e a m
  unfold blockF blockX
  split
  · split <;> simp_all
  · split <;> simp_all
abbrev regionF (X : Ctx) (call : CallV) (f r : Nat) (ops : List Oper) (draw : Bool) (a : AAct) (m : Mem) (kn : AAct → Mem → Option R) (kx : AExit → AAct → Mem → Option R) : Option R :=
  match a with
  | ⟨l, d⟩ => match draw with
    | true => match (X.chk f r).isEmpty with
      | true => opsF X call f r ops d (fun l m => killF (X.kill f r) l fun l => kn ⟨l, d⟩ m) (fun _ _ _ => none) 0 ops l m
      | false => opsTF X call f r ops (fun tr l m => chkF X f r ops tr (X.chk f r) (killF (X.kill f r) l fun l => kn ⟨l, d⟩ m)) 0 ops [] l m
    | false => opsF X call f r ops d (fun l m => killF (X.kill f r) l fun l => kn ⟨l, d⟩ m) kx 0 ops l m
theorem opsK_congr (X : Ctx) (call : CallV) (f r : Nat) (all : List Oper) (D : List (AV × List AV)) (kx : AExit → AAct → Mem → Option R) {kn kn' : AAct → Mem → Option R} (hk : ∀ b m, b.defers = D → kn b m = kn' b m) :
    ∀ (os : List Oper) (i : Nat) (a : AAct) (m : Mem), a.defers = D → opsK X call f r all kn kx i os a m = opsK X call f r all kn' kx i os a m
  | [], i, a, m, h => hk a m h
  | o :: os, i, a, m, h => by
    simp only [opsK]
    refine guardK_congr all o a fun w b hb => ?_
    have e : ∀ v m', opsK X call f r all kn kx (i + 1) os (b.put o.dst v) m' = opsK X call f r all kn' kx (i + 1) os (b.put o.dst v) m' :=
      fun v m' => opsK_congr X call f r all D kx hk os (i + 1) _ m' ((put_defers _ _ _).trans (hb.trans h))
    simp only [e]
theorem killF_kn (ks : List Nat) (kn : AAct → Mem → Option R) (b : AAct) (m : Mem) {d} (h : b.defers = d) : (killF ks b.tmps fun l => kn ⟨l, d⟩ m) = kn (killed ks b) m := by
  rw [killF_eq]; cases b; cases h; rfl
theorem regionF_eq (X : Ctx) (call : CallV) (f r : Nat) (ops : List Oper) (draw : Bool) (a : AAct) (m : Mem) (kn : AAct → Mem → Option R) (kx : AExit → AAct → Mem → Option R) :
    regionF X call f r ops draw a m kn kx = regionK X call f r ops draw a m kn kx := by
  obtain ⟨l, d⟩ := a
  have h1 : ∀ kx : AExit → AAct → Mem → Option R, opsF X call f r ops d (fun l m => killF (X.kill f r) l fun l => kn ⟨l, d⟩ m) kx 0 ops l m = opsK X call f r ops (fun a m => kn (killed (X.kill f r) a) m) kx 0 ops ⟨l, d⟩ m := fun kx => by
    rw [show l = (⟨l, d⟩ : AAct).tmps from rfl, opsF_eq X call f r ops d _ kx ops 0 ⟨l, d⟩ m rfl]
    exact opsK_congr X call f r ops d kx (fun b m hb => killF_kn _ kn b m hb) ops 0 _ m rfl
  unfold regionF regionK
  simp only [h1]
  cases draw with
  | false => rfl
  | true =>
  cases (X.chk f r).isEmpty with
  | true => rfl
  | false =>
  simp only [cond_true, cond_false]
  rw [show l = (⟨l, d⟩ : AAct).tmps from rfl, show ([] : List (List AV × Mem)) = bare [] from rfl, opsTF_eq]
  refine opsT_congr X call f r ops d (fun tr b m ht hb => ?_) ops 0 [] ⟨l, d⟩ m (by simp) rfl
  rw [chkF_eq, killF_kn _ kn b m hb]
noncomputable abbrev execF (X : Ctx) (f : Nat) : (bid : Nat) → Code → (kn : AAct → Mem → Option R) → (kx : AExit → AAct → Mem → Option R) → AAct → Mem → Option R
  | _, .skip, kn, _, a, m => kn a m
  | _, .label _, kn, _, a, m => kn a m
  | _, .region id ops draw, kn, kx, a, m => regionF X (aW X) f id ops.toList draw a m kn kx
  | b, .seq x y, kn, kx, a, m => execF X f b x (execF X f b y kn kx) kx a m
  | b, .cond (.tmp t) x y, kn, kx, ⟨l, d⟩, m => getK l t fun v => match v with
    | .bool true => setK l t .undef fun l => execF X f b x kn kx ⟨l, d⟩ m
    | .bool false => setK l t .undef fun l => execF X f b y kn kx ⟨l, d⟩ m
    | _ => none
  | b, .cond (.const (.bool true)) x y, kn, kx, a, m => execF X f b x kn kx a m
  | b, .cond (.const (.bool false)) x y, kn, kx, a, m => execF X f b y kn kx a m
  | _, .block id c, kn, kx, a, m => execF X f id c kn (blockF id kn kx) a m
  | b, .loop c, _, kx, ⟨l, d⟩, m => killF (X.lk f b) l fun l => loopK X f b c kx ⟨l, d⟩ m
  | b, .scope c, kn, kx, a, m => execF X f b c kn kx a m
  | _, .exit id, _, kx, a, m => kx (.exit id) a m
  | _, .ret, _, kx, a, m => kx .ret a m
  | _, _, _, _, _, _ => none
theorem execF_eq (X : Ctx) (f : Nat) : ∀ (c : Code) (b : Nat) (kn : AAct → Mem → Option R) (kx : AExit → AAct → Mem → Option R) (a : AAct) (m : Mem), execF X f b c kn kx a m = execK X f b c kn kx a m := by
  intro c
  induction c with
  | skip => intro b kn kx a m; rfl
  | label l => intro b kn kx a m; rfl
  | region id ops draw => intro b kn kx a m; exact regionF_eq X (aW X) f id ops.toList draw a m kn kx
  | seq x y ihx ihy =>
    intro b kn kx a m
    have : execF X f b y kn kx = execK X f b y kn kx := funext fun a => funext fun m => ihy b kn kx a m
    simp only [execF, execK, this, ihx]
  | cond cnd x y ihx ihy =>
    intro b kn kx a m
    obtain ⟨l, d⟩ := a
    cases cnd with
    | tmp t => simp only [execF, execK, getK_eq, setK_eq, ihx, ihy]; exact onCase _ _ _
    | const v =>
      cases v <;> simp only [execF, execK, ihx, ihy]
      rename_i v
      cases v <;> simp only [execF, execK, ihx, ihy] <;> rfl
    | _ => rfl
  | block id cd ih => intro b kn kx a m; simp only [execF, execK, ih, blockF_eq]
  | loop cd ih =>
    intro b kn kx a m
    obtain ⟨l, d⟩ := a
    simp only [execF, execK, killF_eq]
    rfl
  | scope cd ih => intro b kn kx a m; simp only [execF, execK, ih]
  | exit id => intro b kn kx a m; rfl
  | ret => intro b kn kx a m; rfl
  | rangeFunc q p x y _ _ => intro b kn kx a m; rfl
  | goto l => intro b kn kx a m; rfl
  | refuse w => intro b kn kx a m; rfl
/-- ONE ROUND OF A LOOP. -/
theorem loopF_eq (X : Ctx) (f b : Nat) (c : Code) (kx : AExit → AAct → Mem → Option R) (a : AAct) (m : Mem) :
    loopK X f b c kx a m = killF (X.lk f b) a.tmps fun l => execF X f b c (fun a m => killF (X.lk f b) a.tmps fun l => loopK X f b c kx ⟨l, a.defers⟩ m) kx ⟨l, a.defers⟩ m := by
  rw [loopK_eq]
  simp only [execF_eq, killF_eq]
  rfl
noncomputable def roundF (X : Ctx) (f b : Nat) (c : Code) (kx : AExit → AAct → Mem → Option R) (fr : List AV) (m : Mem) : Option R :=
  killF (X.lk f b) fr fun l => execF X f b c (fun a m => killF (X.lk f b) a.tmps fun l => loopK X f b c kx ⟨l, a.defers⟩ m) kx ⟨l, []⟩ m
theorem roundF_of {X : Ctx} {f b : Nat} {c : Code} {kx : AExit → AAct → Mem → Option R} {fr : List AV} {m : Mem} {l r : Option R} (hu : l = loopK X f b c kx ⟨fr, []⟩ m) (hr : roundF X f b c kx fr m = r) : l = r := by
  rw [hu, loopF_eq, ← hr]; rfl
end
/-- A CALL, in continuation style. -/
theorem aW_F {X : Ctx} {f : FuncId} {fn : Func} {c : Code} (hp : X.prim f = none) (hl : X.look f = some fn) (hb : fn.body = some c) (args : List AV) (m : Mem) :
    aW X f args m = execF X f 0 c (finK X.T fn.results.toList .normal) (finK X.T fn.results.toList) ⟨args ++ List.replicate (fn.ntmps - args.length) .undef, []⟩ m := by
  rw [aW_K hp hl hb, execF_eq]
end Go.AM
