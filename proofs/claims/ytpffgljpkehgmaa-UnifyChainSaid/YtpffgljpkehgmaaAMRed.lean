/-
  Operations as the equations tell them: with what the table of types says put in.
-/
import Derived.Test.YtpffgljpkehgmaaAMCheck
import Derived.Test.YtpffgljpkehgmaaAMF
set_option linter.unusedVariables false
set_option linter.unusedSimpArgs false
namespace Go.AM
open Go
def sL : Code → Code
  | .seq x _ => x
  | .cond _ x _ => x
  | _ => .skip
def sR : Code → Code
  | .seq _ y => y
  | .cond _ _ y => y
  | _ => .skip
def sB : Code → Code
  | .block _ c => c
  | .loop c => c
  | .scope c => c
  | _ => .skip
def bodyOf (fn : Func) : Code := match fn.body with
  | some c => c
  | none => .skip
def rLenStr (x : AV) : Option AV := match x with
  | .str s => some (.int .i64 s.size)
  | _ => none
def rLenSl (x : AV) : Option AV := match x with
  | .nils => some (.int .i64 0)
  | .sl _ xs => some (.int .i64 xs.length)
  | .ms _ _ _ len _ => some (.int .i64 len)
  | _ => none
def rLenMap (m : Mem) (x : AV) : Option AV := match x with
  | .nilm => some (.int .i64 0)
  | .map o => match m.obj o with
    | some (.map es) => some (.int .i64 es.length)
    | _ => none
  | _ => none
def rIxStr (x ix : AV) : Option AV := match x, ix with
  | .str s, .int _ i => if 0 ≤ i then (s.data[i.toNat]?).map fun b => .int .u8 b.toNat else none
  | _, _ => none
def rIxAddrSl (size : Nat) (x ix : AV) : Option AV := match x, ix with
  | .sl _ xs, .int _ i => if 0 ≤ i then (xs[i.toNat]?).bind fun v => v.cells?.bind fun cs => if cs.length = size then some (.pim cs) else none else none
  | .ms o v off len sz, .int _ i => if 0 ≤ i ∧ i < len then (if size = sz then some (.ptr o v (off + i.toNat * sz)) else none) else none
  | _, _ => none
def rIxAddrArr (n size : Nat) (x ix : AV) : Option AV := match x, ix with
  | .ptr o v a, .int _ i => if 0 ≤ i ∧ i < n then some (.ptr o v (a + i.toNat * size)) else none
  | .pim cs, .int _ i => if 0 ≤ i ∧ i < n then some (.pim (cs.drop (i.toNat * size))) else none
  | _, _ => none
def rFieldAddr (off : Nat) (p : AV) : Option AV := match p with
  | .ptr o v a => some (.ptr o v (a + off))
  | .pim cs => some (.pim (cs.drop off))
  | _ => none
def rField (agg : Bool) (size off : Nat) (x : AV) : Option AV := match x with
  | .agg cs => partOf agg size cs off
  | _ => none
def rLoad (agg : Bool) (size : Nat) (m : Mem) (p : AV) : Option AV := match p with
  | .pim cs => partOf agg size cs 0
  | .ptr o v off => (m.cells o v).bind fun cs => partOf agg size cs off
  | _ => none
def rStore (size : Nat) (m : Mem) (p v : AV) : Option Mem := v.cells?.bind fun vs => if vs.length = size then match p with
    | .ptr o ver off => match m.obj o with
      | some (.row cs w) => if w = ver then (putCells cs off vs).map fun cs' => m.set o (.row cs' ver) else none
      | _ => none
    | _ => none
  else none
def rSliceStr (x : AV) (lo hi : Option AV) : Option AV := match x with
  | .str s => (aBounds s.size lo hi).map fun p => .str (s.extract p.1 p.2)
  | _ => none
def rSliceSl (size : Nat) (x : AV) (lo hi : Option AV) : Option AV := match x with
  | .nils => (aBounds 0 lo hi).map fun _ => .nils
  | .sl tk xs => (aBounds xs.length lo hi).bind fun p => if p.1 = 0 ∨ sized size xs then
      some (.sl (if p.2 = xs.length then (if p.1 = 0 ∨ tk.norm = .full then tk else .foreign) else .foreign) ((xs.drop p.1).take (p.2 - p.1))) else none
  | .ms o v off len sz => (aBounds len lo hi).bind fun p => if size = sz then some (.ms o v (off + p.1 * sz) (p.2 - p.1) sz) else none
  | _ => none
def rElems (A : AT) (m : Mem) (x : AV) : Option (List AV) := match x with
  | .nils => some []
  | .sl _ xs => some xs
  | .ms o v off len sz => (m.cells o v).bind fun cs =>
      if A.size = sz ∧ off + len * sz ≤ cs.length then some (group A.d.isAgg A.size len (cs.drop off)) else none
  | .str s => some (byteAVs s)
  | _ => none
def rAppend (A : AT) (md : Nat) (m : Mem) (s x : AV) : Option (AV × Mem) := (rElems A m x).bind fun ys =>
  if A.size = 0 ∨ sized A.size ys = false ∨ sized A.size [A.zero] = false then none else aAppend2 md m A s ys
def rMakeSlice (A : AT) (md : Nat) (m : Mem) (len cap : AV) : Option (AV × Mem) := match len, cap with
  | .int .i64 l, .int .i64 c => A.zero.cells?.bind fun z =>
      if 0 ≤ l ∧ l ≤ c ∧ (A.bytes : Int) * c ≤ 2 ^ 47 ∧ c ≤ 2 ^ 47 ∧ A.size ≠ 0 ∧ z.length = A.size then
        if md % 2 = 1 then (if l = 0 then some (.sl (.own m.next) [], m.alloc (.tok 0 A.size)) else some (.sl .foreign (List.replicate l.toNat A.zero), m))
        else some (.ms m.next 0 0 l.toNat A.size, m.alloc (.row (repl l.toNat z) 0))
      else none
  | _, _ => none
def rBuildSlice (A : AT) (len : Nat) (parts : List (Nat × AV)) : Option AV := if len * A.size > 2 ^ 24 ∨ A.size = 0 ∨ sized A.size [A.zero] = false then none else
  (aBuildElems A.size parts (List.replicate len A.zero)).map fun xs => .sl (if A.d.isU8 then .lit else .full) xs
def rRowSlice (A : AT) (m : Mem) (len : Nat) (parts : List (Nat × AV)) : Option (AV × Mem) := if len * A.size > 2 ^ 24 ∨ A.size = 0 ∨ sized A.size [A.zero] = false then none else
  (aBuildElems A.size parts (List.replicate len A.zero)).bind fun xs => (flat? xs).map fun cs => (.ms m.next 0 0 len A.size, m.alloc (.row cs 0))
def rBuildParts : List (Nat × Nat × AV) → List AV → Option (List AV)
  | [], cs => some cs
  | (off, size, v) :: rest, cs => v.cells?.bind fun vs => if vs.length = size then (putCells cs off vs).bind fun cs' => rBuildParts rest cs' else none
def rBuild (z : List AV) (parts : List (Nat × Nat × AV)) : Option AV := (rBuildParts parts z).map .agg
def rStrBytes (x : AV) : Option AV := match x with
  | .str s => some (.sl .foreign (byteAVs s))
  | _ => none
def rBytesStr (x : AV) : Option AV := match x with
  | .nils => some (.str .empty)
  | .sl _ xs => (bytesOf? xs).map fun l => .str ⟨l.toArray⟩
  | .str s => some (.str s)
  | _ => none
def rLookup (K A : AT) (m : Mem) (x k : AV) (ok : Bool) : Option AV := if fitKey K.d k = false then none else
  (mapEntries m x).bind fun es => (mapFind k es 0).map fun r => found ok A.zero r
def rMapUpdate (K : AT) (m : Mem) (x k v : AV) : Option Mem := match x with
  | .map o => if fitKey K.d k = false then none else
      match m.obj o with
      | some (.map es) => (mapFind k es 0).map fun r => match r with
          | some (i, _) => m.set o (.map (es.set i (k, v)))
          | none => m.set o (.map (es ++ [(k, v)]))
      | _ => none
  | _ => none
def bs (l : List UInt8) : ByteArray := ⟨l.toArray⟩
theorem aW_prim {X : Ctx} {f : FuncId} {p : List AV → Mem → Option (AOut × Mem)} (hp : X.prim f = some p) (args : List AV) (m : Mem) : aW X f args m = p args m := by
  have h1 : ∀ n, aCall X (n + 1) f args m = p args m := fun n => by simp only [aCall, hp]
  cases h : p args m with
  | some r => exact aW_of (n := 1) ((h1 0).trans h)
  | none =>
    cases h2 : aW X f args m with
    | none => rfl
    | some r =>
      obtain ⟨n, hn⟩ := of_aW h2
      cases n with
      | zero => cases hn
      | succ n => rw [h1 n, h] at hn; cases hn
section
variable {α β R : Type}
def bnd (x : Option α) (f : α → Option β) : Option β := x.bind f
abbrev Q : AV := .undef
@[congr] theorem bnd_congr {x y : Option α} {f : α → Option β} (h : x = y) : bnd x f = bnd y f := by rw [h]
@[simp] theorem bnd_some (a : α) (f : α → Option β) : bnd (some a) f = f a := (rfl)
@[simp] theorem bnd_none (f : α → Option β) : bnd none f = none := (rfl)
@[congr] theorem memK_congr {x y : Option (AV × Mem)} {f : AV → Mem → Option R} (h : x = y) : memK x f = memK y f := by rw [h]
@[simp] theorem memK_some (v : AV) (m : Mem) (f : AV → Mem → Option R) : memK (some (v, m)) f = f v m := (rfl)
@[congr] theorem retK_congr {x y : Option (AOut × Mem)} {f g : AV → Mem → Option R} (h : x = y) : retK x f g = retK y f g := by rw [h]
@[simp] theorem retK_ret (v : AV) (m : Mem) (f g : AV → Mem → Option R) : retK (some (.ret v, m)) f g = f v m := (rfl)
@[simp] theorem retK_pan (v : AV) (m : Mem) (f g : AV → Mem → Option R) : retK (some (.pan v, m)) f g = g v m := (rfl)
@[congr] theorem onBool_congr {v w : AV} {x y : Option R} (h : v = w) : onBool v x y = onBool w x y := by rw [h]
@[simp] theorem onBool_true (x y : Option R) : onBool (.bool true) x y = x := (rfl)
@[simp] theorem onBool_false (x y : Option R) : onBool (.bool false) x y = y := (rfl)
@[congr] theorem onWant_congr {v w : AV} {x y u : Option R} (h : v = w) : onWant v x y u = onWant w x y u := by rw [h]
@[simp] theorem onWant_true (x y u : Option R) : onWant (.bool true) x y u = x := (rfl)
@[simp] theorem onWant_false (x y u : Option R) : onWant (.bool false) x y u = y := (rfl)
@[simp] theorem fnK_fn (q : FuncId) (xs ys : List AV) (k : FuncId → List AV → List AV → Option R) : fnK (.fn q xs ys) k = k q xs ys := (rfl)
@[simp] theorem nilK_ptr (o v f : Nat) (z : Option R) : nilK (.ptr o v f) z = z := (rfl)
@[simp] theorem nilK_pim (cs : List AV) (z : Option R) : nilK (.pim cs) z = z := (rfl)
@[simp] theorem nilK_fn (q : FuncId) (xs ys : List AV) (z : Option R) : nilK (.fn q xs ys) z = z := (rfl)
@[simp] theorem panK_iface (t : TypeId) (u : AV) (k : AV → Option R) : panK (.iface t u) k = k (.iface t u) := (rfl)
@[simp] theorem bindK_eq (v : AV) (m : Mem) (k : AV → Mem → Option R) : bindK v m k = k v m := (rfl)
end
end Go.AM
