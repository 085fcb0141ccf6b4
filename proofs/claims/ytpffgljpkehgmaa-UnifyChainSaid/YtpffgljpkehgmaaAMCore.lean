/-
  An abstract machine for a part of the model's code: immutable slices are told by value, mutable rows, boxes and maps lie in an abstract memory.
-/
import Derived.Calls
import Derived.Orders
import Derived.KernelRfl
set_option linter.unusedVariables false
set_option linter.unusedSimpArgs false
namespace Go.AM
set_option linter.unusedVariables false
/-- What an immutable slice's spare room is: none at all (lit: a row of bytes that a text may have laid); that of the row t, whose tip the memory knows; unknown. -/
inductive Tk where
  | full | lit | own (t : Nat) | foreign
  deriving DecidableEq, Inhabited
def Tk.norm : Tk → Tk
  | .lit => .full
  | k => k
inductive AV where
  | undef
  | bool (b : Bool)
  | int (k : IntKind) (n : Int)
  | str (s : ByteArray)
  | nilp
  | ptr (o ver off : Nat)
  | pim (cs : List AV)
  | nils
  | sl (tk : Tk) (xs : List AV)
  | ms (o ver off len sz : Nat)
  | nilm
  | map (o : Nat)
  | nilf
  | fn (f : FuncId) (first cap : List AV)
  | yld (o : Nat)
  | nili
  | iface (t : TypeId) (v : AV)
  | agg (cs : List AV)
  | tup (vs : List AV)
  deriving Inhabited
mutual
def AV.same : AV → AV → Bool
  | .undef, .undef => true
  | .bool a, .bool b => a == b
  | .int k a, .int k' b => k == k' && a == b
  | .str a, .str b => a.data.toList == b.data.toList
  | .nilp, .nilp => true
  | .ptr o v f, .ptr o' v' f' => o == o' && v == v' && f == f'
  | .pim a, .pim b => AV.sameL a b
  | .nils, .nils => true
  | .sl t a, .sl t' b => t == t' && AV.sameL a b
  | .ms o v f l z, .ms o' v' f' l' z' => o == o' && v == v' && f == f' && l == l' && z == z'
  | .nilm, .nilm => true
  | .map a, .map b => a == b
  | .nilf, .nilf => true
  | .fn f a b, .fn g c d => f == g && AV.sameL a c && AV.sameL b d
  | .yld a, .yld b => a == b
  | .nili, .nili => true
  | .iface t a, .iface u b => t == u && AV.same a b
  | .agg a, .agg b => AV.sameL a b
  | .tup a, .tup b => AV.sameL a b
  | _, _ => false
def AV.sameL : List AV → List AV → Bool
  | [], [] => true
  | a :: x, b :: y => AV.same a b && AV.sameL x y
  | _, _ => false
end
/-- An object of the abstract memory: a row of cells (ver counts how often it may have moved), the tip of an immutable row, a map. -/
inductive AO where
  | row (cs : List AV) (ver : Nat)
  | fixed (cs : List AV) (ver : Nat)
  | tok (tip sz : Nat)
  | map (es : List (AV × AV))
  deriving Inhabited
structure Mem where
  next : Nat
  obj : Nat → Option AO
def Mem.alloc (m : Mem) (o : AO) : Mem := ⟨m.next + 1, fun i => if i = m.next then some o else m.obj i⟩
def Mem.set (m : Mem) (i : Nat) (o : AO) : Mem := ⟨m.next, fun j => if j = i then some o else m.obj j⟩
def Mem.zero : Mem := ⟨0, fun _ => none⟩
/-- What is known of a type. -/
inductive AD where
  | bool | int (k : IntKind) | str
  | ptr (e : TypeId) | slice (e : TypeId) | arr (n : Nat) (e : TypeId)
  | strct (fs : List (Nat × TypeId × Bool))
  | map (k e : TypeId)
  | iface (bare : Bool)
  | func
  | other
  deriving Inhabited
structure AT where
  d : AD
  size : Nat
  bytes : Nat
  zero : AV
  guarded : Bool
  comparable : Bool
  deriving Inhabited
def aD (T : TypeId → Option AT) (t : TypeId) : Option AD := (T t).map AT.d
def AD.isU8 : AD → Bool
  | .int .u8 => true
  | _ => false
def AD.isAgg : AD → Bool
  | .strct _ | .arr _ _ => true
  | _ => false
inductive AExit where
  | normal | exit (id : Nat) | ret | panic (v : AV)
  deriving Inhabited
inductive AOut where
  | ret (v : AV) | pan (v : AV)
  deriving Inhabited
structure AAct where
  tmps : List AV
  defers : List (AV × List AV)
  deriving Inhabited
structure Ctx where
  T : TypeId → Option AT
  look : FuncId → Option Func
  prim : FuncId → Option (List AV → Mem → Option (AOut × Mem))
  /-- how operation i of region r of function f is told: 0 as ever, 1 the other way; + 2: what it gives is made immutable -/
  md : FuncId → Nat → Nat → Nat
  kill : FuncId → Nat → List Nat
  lk : FuncId → Nat → List Nat
  chk : FuncId → Nat → List (Nat × Nat)
def AV.cells? : AV → Option (List AV)
  | .undef | .tup _ => none
  | .agg cs => some cs
  | v => some [v]
def splice (cs : List AV) (off : Nat) (vs : List AV) : List AV := cs.take off ++ vs ++ cs.drop (off + vs.length)
def putCells (cs : List AV) (off : Nat) (vs : List AV) : Option (List AV) :=
  if off + vs.length ≤ cs.length then some (splice cs off vs) else none
def partOf (agg : Bool) (size : Nat) (cs : List AV) (off : Nat) : Option AV :=
  if agg then (if off + size ≤ cs.length then some (.agg ((cs.drop off).take size)) else none) else cs[off]?
def absS : Value → AV
  | .bool b => .bool b
  | .int k n => .int k n
  | .string s => .str s
  | .pointer none => .nilp
  | .slice none 0 0 => .nils
  | .map none => .nilm
  | .nilFunc => .nilf
  | .nilIface => .nili
  | _ => .undef
def absC : Value → AV
  | .agg cs => .agg (cs.toList.map absS)
  | v => absS v
def AAct.eval (a : AAct) : Operand → AV
  | .tmp t => a.tmps.getD t .undef
  | .const v => absC v
  | .global _ => .undef
  | .func f => .fn f [] []
def AAct.put (a : AAct) (d : Option Tmp) (v : AV) : AAct :=
  match d with
  | some t => { a with tmps := a.tmps.set t v }
  | none => a
def aIntCmp (op : BinOp) (x y : Int) : Option AV :=
  match op with
  | .eql => some (.bool (x == y)) | .neq => some (.bool (x != y))
  | .lss => some (.bool (x < y)) | .leq => some (.bool (x ≤ y))
  | .gtr => some (.bool (x > y)) | .geq => some (.bool (x ≥ y))
  | _ => none
def aInt (op : BinOp) (k : IntKind) (x y : Int) : Option AV :=
  match op with
  | .add => some (.int k (k.wrap (x + y)))
  | .sub => some (.int k (k.wrap (x - y)))
  | .mul => some (.int k (k.wrap (x * y)))
  | .quo => if y = 0 then none else some (.int k (k.wrap (x.tdiv y)))
  | .rem => if y = 0 then none else some (.int k (x.tmod y))
  | .and | .or | .xor | .andNot | .shl | .shr => none
  | o => aIntCmp o x y
def aShift (op : BinOp) (k : IntKind) (x y : Int) : Option AV :=
  if y < 0 then none else
  match op with
  | .shl => some (.int k (k.wrap (x * 2 ^ min y.toNat k.bits)))
  | .shr => some (.int k (x.fdiv (2 ^ min y.toNat k.bits)))
  | _ => none
def strLt : List UInt8 → List UInt8 → Bool := Op.bytesLess
def aStr (op : BinOp) (x y : ByteArray) : Option AV :=
  match op with
  | .add => if ((x.size + y.size : Nat) : Int) > IntKind.i64.max then none else some (.str (x ++ y))
  | .eql => some (.bool (x.toList == y.toList))
  | .neq => some (.bool !(x.toList == y.toList))
  | .lss => some (.bool (strLt x.toList y.toList))
  | .leq => some (.bool (strLt x.toList y.toList || x.toList == y.toList))
  | .gtr => some (.bool !(strLt x.toList y.toList || x.toList == y.toList))
  | .geq => some (.bool !(strLt x.toList y.toList))
  | _ => none
def aEqFs (T : TypeId → Option AT) (eq : TypeId → AV → AV → Option Bool) : List (Nat × TypeId × Bool) → List AV → List AV → Option Bool
  | [], _, _ => some true
  | (off, t, named) :: fs, xs, ys =>
    if named = false then none else
    (T t).bind fun i =>
      (partOf i.d.isAgg i.size xs off).bind fun x => (partOf i.d.isAgg i.size ys off).bind fun y =>
        (eq t x y).bind fun b => if b then aEqFs T eq fs xs ys else some false
/-- '==' at a type. -/
def aEq (T : TypeId → Option AT) : (depth : Nat) → TypeId → AV → AV → Option Bool
  | 0, _, _, _ => none
  | d + 1, t, x, y =>
    match aD T t, x, y with
    | some .bool, .bool a, .bool b => some (a == b)
    | some (.int _), .int k a, .int k' b => if k = k' then some (a == b) else none
    | some .str, .str a, .str b => some (a == b)
    | some (.ptr _), .nilp, .nilp => some true
    | some (.ptr _), .nilp, .ptr _ _ _ => some false
    | some (.ptr _), .ptr _ _ _, .nilp => some false
    | some (.ptr _), .nilp, .pim _ => some false
    | some (.ptr _), .pim _, .nilp => some false
    | some (.ptr e), .ptr o v f, .ptr o' v' f' =>
      (T e).bind fun i => if i.size = 0 then none
      else if o = o' then (if v = v' then some (f == f') else none) else some false
    | some (.iface _), .nili, .nili => some true
    | some (.iface _), .nili, .iface _ _ => some false
    | some (.iface _), .iface _ _, .nili => some false
    | some (.iface _), .iface tx vx, .iface ty vy =>
      if tx ≠ ty then some false else (T tx).bind fun i => if i.comparable then aEq T d tx vx vy else none
    | some (.strct fs), .agg xs, .agg ys => aEqFs T (aEq T d) fs xs ys
    | some (.arr n e), .agg xs, .agg ys => (T e).bind fun i => aEqFs T (aEq T d) ((List.range n).map fun j => (j * i.size, e, true)) xs ys
    | some (.slice _), .nils, .nils => some true
    | some (.slice _), .nils, .sl _ _ => some false
    | some (.slice _), .sl _ _, .nils => some false
    | some (.slice _), .nils, .ms _ _ _ _ _ => some false
    | some (.slice _), .ms _ _ _ _ _, .nils => some false
    | some (.map _ _), .nilm, .nilm => some true
    | some (.map _ _), .nilm, .map _ => some false
    | some (.map _ _), .map _, .nilm => some false
    | some .func, .nilf, .nilf => some true
    | some .func, .nilf, .fn _ _ _ => some false
    | some .func, .fn _ _ _, .nilf => some false
    | _, _, _ => none
def isConst : Operand → Bool
  | .const _ => true
  | _ => false
/-- May '==' be asked here without the model's word on nil values of interface types with methods? -/
def aEqMay (T : TypeId → Option AT) (t : TypeId) (xc yc : Bool) (x y : AV) : Bool :=
  match x, y with
  | .nili, .nili => xc || yc || (match aD T t with | some (.iface bare) => bare | _ => false)
  | .agg _, .agg _ => match T t with | some i => !i.guarded | none => false
  | .undef, _ | _, .undef => false
  | _, _ => true
def aBin (T : TypeId → Option AT) (op : BinOp) (t : TypeId) (xc yc : Bool) (x y : AV) : Option AV :=
  match op, x, y with
  | .shl, .int k a, .int _ b => aShift .shl k a b
  | .shr, .int k a, .int _ b => aShift .shr k a b
  | op, .int k a, .int k' b => if k = k' then aInt op k a b else none
  | op, .str a, .str b => aStr op a b
  | .eql, x, y => if aEqMay T t xc yc x y then (aEq T 50 t x y).map .bool else none
  | .neq, x, y => if aEqMay T t xc yc x y then (aEq T 50 t x y).map fun b => .bool !b else none
  | _, _, _ => none
def aUn (op : UnOp) (x : AV) : Option AV :=
  match op, x with
  | .neg, .int k n => some (.int k (k.wrap (0 - n)))
  | .not, .bool b => some (.bool !b)
  | _, _ => none
def byteAVs (s : ByteArray) : List AV := s.data.toList.map fun b => .int .u8 b.toNat
def asByte : AV → Option UInt8
  | .int .u8 n => some (UInt8.ofNat n.toNat)
  | _ => none
def bytesOf? : List AV → Option (List UInt8)
  | [] => some []
  | v :: vs => (asByte v).bind fun b => (bytesOf? vs).map (b :: ·)
def aConv (T : TypeId → Option AT) (src dst : TypeId) (x : AV) : Option AV :=
  match aD T src, aD T dst, x with
  | some _, some (.int k), .int _ n => some (.int k (k.wrap n))
  | some _, some .str, .str s => some (.str s)
  | some .str, some (.slice e), .str s => match aD T e with
    | some (.int .u8) => some (.sl .foreign (byteAVs s))
    | _ => none
  | some (.slice e), some .str, .nils => match aD T e with
    | some (.int .u8) => some (.str .empty)
    | _ => none
  | some (.slice e), some .str, .sl _ xs => match aD T e with
    | some (.int .u8) => (bytesOf? xs).map fun l => .str ⟨l.toArray⟩
    | _ => none
  | _, _, _ => none
def isU8 (d : Option AD) : Bool := match d with
  | some d => d.isU8
  | none => false
def isBytes (T : TypeId → Option AT) (t : TypeId) : Bool :=
  match aD T t with
  | some (.slice e) => isU8 (aD T e)
  | _ => false
def Tk.isLit : Tk → Bool
  | .lit => true
  | _ => false
/-- a text's row of bytes, laid for a conversion to its own type -/
def aLit (T : TypeId → Option AT) (t : TypeId) (x : AV) : Option AV :=
  match x with
  | .sl tk xs => if tk.isLit && isBytes T t then some (.sl tk xs) else none
  | _ => none
def aConvert (T : TypeId → Option AT) (src dst : TypeId) (x : AV) : Option AV := if src = dst then aLit T src x else aConv T src dst x
def aField (T : TypeId → Option AT) (t : TypeId) (x : AV) (f : Nat) : Option AV :=
  match aD T t, x with
  | some (.strct fs), .agg cs => (fs[f]?).bind fun (off, ft, _) => (T ft).bind fun i => partOf i.d.isAgg i.size cs off
  | _, _ => none
def aIndex (T : TypeId → Option AT) (t : TypeId) (x ix : AV) : Option AV :=
  match aD T t, x, ix with
  | some (.arr n e), .agg cs, .int _ i => if 0 ≤ i ∧ i < n then (T e).bind fun ie => partOf ie.d.isAgg ie.size cs (i.toNat * ie.size) else none
  | some .str, .str s, .int _ i => if 0 ≤ i then (s.data[i.toNat]?).map fun b => .int .u8 b.toNat else none
  | _, _, _ => none
def aFieldAddr (T : TypeId → Option AT) (t : TypeId) (p : AV) (f : Nat) : Option AV :=
  match aD T t with
  | some (.strct fs) => (fs[f]?).bind fun (off, ft, _) => (T ft).bind fun i => if i.size = 0 then none else match p with
    | .ptr o v a => some (.ptr o v (a + off))
    | .pim cs => some (.pim (cs.drop off))
    | _ => none
  | _ => none
def aIndexAddr (T : TypeId → Option AT) (t : TypeId) (x ix : AV) : Option AV :=
  match aD T t, x, ix with
  | some (.arr n e), .ptr o v a, .int _ i => if 0 ≤ i ∧ i < n then (T e).map fun ie => .ptr o v (a + i.toNat * ie.size) else none
  | some (.arr n e), .pim cs, .int _ i => if 0 ≤ i ∧ i < n then (T e).map fun ie => .pim (cs.drop (i.toNat * ie.size)) else none
  | some (.slice e), .sl _ xs, .int _ i => if 0 ≤ i then (T e).bind fun ie => (xs[i.toNat]?).bind fun v => v.cells?.bind fun cs => if cs.length = ie.size then some (.pim cs) else none else none
  | some (.slice e), .ms o v off len sz, .int _ i => if 0 ≤ i ∧ i < len then (T e).bind fun ie => if ie.size = sz then some (.ptr o v (off + i.toNat * sz)) else none else none
  | _, _, _ => none
/-- have all elements so many cells? -/
def sized (size : Nat) : List AV → Bool
  | [] => true
  | v :: vs => (match v.cells? with | some c => c.length == size | none => false) && sized size vs
/-- a slice expression's bounds: low and high in a length -/
def aBounds (n : Nat) (lo hi : Option AV) : Option (Nat × Nat) :=
  (match hi with | none => some n | some (.int _ i) => if 0 ≤ i ∧ i ≤ n then some i.toNat else none | _ => none).bind fun h =>
  (match lo with | none => some 0 | some (.int _ i) => if 0 ≤ i ∧ i ≤ h then some i.toNat else none | _ => none).bind fun l => some (l, h)
def aSlice (T : TypeId → Option AT) (t : TypeId) (x : AV) (lo hi mx : Option AV) : Option AV :=
  match aD T t, x, mx with
  | some .str, .str s, none => (aBounds s.size lo hi).map fun p => .str (s.extract p.1 p.2)
  | some (.slice e), .nils, none => (T e).bind fun _ => (aBounds 0 lo hi).map fun _ => .nils
  | some (.slice e), .sl tk xs, none => (T e).bind fun ie => (aBounds xs.length lo hi).bind fun p => if p.1 = 0 ∨ sized ie.size xs then
      some (.sl (if p.2 = xs.length then (if p.1 = 0 ∨ tk.norm = .full then tk else .foreign) else .foreign) ((xs.drop p.1).take (p.2 - p.1))) else none
  | some (.slice e), .ms o v off len sz, none => (T e).bind fun ie => (aBounds len lo hi).bind fun p => if ie.size = sz then some (.ms o v (off + p.1 * sz) (p.2 - p.1) sz) else none
  | _, _, _ => none
def aExtract (x : AV) (i : Nat) : Option AV :=
  match x with
  | .tup vs => vs[i]?
  | _ => none
def aBuildParts (place : Nat → Option (Nat × Nat)) : List (Nat × AV) → List AV → Option (List AV)
  | [], cs => some cs
  | (i, v) :: rest, cs =>
    (place i).bind fun (off, size) => v.cells?.bind fun vs =>
      if vs.length = size then (putCells cs off vs).bind fun cs' => aBuildParts place rest cs' else none
def aBuild (T : TypeId → Option AT) (t : TypeId) (parts : List (Nat × AV)) : Option AV :=
  (T t).bind fun i => i.zero.cells?.bind fun z =>
    match i.d with
    | .strct fs => if fs.all (fun f => (T f.2.1).isSome) then (aBuildParts (fun j => (fs[j]?).map fun f => (f.1, ((T f.2.1).map AT.size).getD 0)) parts z).map .agg else none
    | .arr _ e => (T e).bind fun ie => (aBuildParts (fun j => some (j * ie.size, ie.size)) parts z).map .agg
    | _ => none
/-- cells as elements of a type -/
def group (agg : Bool) (size : Nat) : Nat → List AV → List AV
  | 0, _ => []
  | n + 1, cs => (if agg then .agg (cs.take size) else cs.headD .undef) :: group agg size n (cs.drop size)
def aBuildElems (size : Nat) : List (Nat × AV) → List AV → Option (List AV)
  | [], xs => some xs
  | (i, v) :: rest, xs => v.cells?.bind fun vs => if vs.length = size ∧ i < xs.length then aBuildElems size rest (xs.set i v) else none
def aBuildSlice (T : TypeId → Option AT) (t : TypeId) (len : Nat) (parts : List (Nat × AV)) : Option AV :=
  match aD T t with
  | some (.slice e) => (T e).bind fun ie => if len * ie.size > 2 ^ 24 ∨ ie.size = 0 ∨ sized ie.size [ie.zero] = false then none else
      (aBuildElems ie.size parts (List.replicate len ie.zero)).map fun xs => .sl (if ie.d.isU8 then .lit else .full) xs
  | _ => none
def Mem.cells (m : Mem) (o ver : Nat) : Option (List AV) :=
  match m.obj o with
  | some (.row cs v) => if v = ver then some cs else none
  | some (.fixed cs v) => if v = ver then some cs else none
  | _ => none
def aLoad (T : TypeId → Option AT) (m : Mem) (t : TypeId) (p : AV) : Option AV :=
  (T t).bind fun i => match p with
    | .pim cs => partOf i.d.isAgg i.size cs 0
    | .ptr o v off => (m.cells o v).bind fun cs => partOf i.d.isAgg i.size cs off
    | _ => none
def aStore (T : TypeId → Option AT) (m : Mem) (t : TypeId) (p v : AV) : Option Mem :=
  (T t).bind fun i => v.cells?.bind fun vs => if vs.length = i.size then match p with
    | .ptr o ver off => match m.obj o with
      | some (.row cs w) => if w = ver then (putCells cs off vs).map fun cs' => m.set o (.row cs' ver) else none
      | _ => none
    | _ => none
  else none
def aBox (m : Mem) (v : AV) : Option (AV × Mem) := v.cells?.map fun vs => (.ptr m.next 0 0, m.alloc (.row vs 0))
/-- a slice's elements -/
def aElems (T : TypeId → Option AT) (m : Mem) (e : TypeId) (x : AV) : Option (List AV) :=
  match x with
  | .nils => some []
  | .sl _ xs => some xs
  | .ms o v off len sz => (T e).bind fun ie => (m.cells o v).bind fun cs =>
      if ie.size = sz ∧ off + len * sz ≤ cs.length then some (group ie.d.isAgg ie.size len (cs.drop off)) else none
  | .str s => some (byteAVs s)
  | _ => none
def flat? : List AV → Option (List AV)
  | [] => some []
  | v :: vs => v.cells?.bind fun c => (flat? vs).map (c ++ ·)
/-- append of elements whose values are known -/
def aAppend2 (md : Nat) (m : Mem) (ie : AT) (s : AV) (ys : List AV) : Option (AV × Mem) :=
  match s with
  | .nils => if ys.length * ie.bytes > 2 ^ 47 ∨ ys.length > 2 ^ 47 then none else
      if ys.length = 0 then some (.nils, m)
      else if md % 2 = 1 then (flat? ys).map fun cs => (.ms m.next 0 0 ys.length ie.size, m.alloc (.row cs 0))
      else some (.sl (.own m.next) ys, m.alloc (.tok ys.length ie.size))
  | .sl tk xs => if (xs.length + ys.length) * ie.bytes > 2 ^ 47 ∨ xs.length + ys.length > 2 ^ 47 then none else
      if ys.length = 0 then some (.sl tk xs, m) else
      if sized ie.size xs = false then none else
      match tk.norm with
      | .full => if md % 2 = 1 then (flat? (xs ++ ys)).map fun cs => (.ms m.next 0 0 (xs.length + ys.length) ie.size, m.alloc (.row cs 0))
                 else some (.sl (.own m.next) (xs ++ ys), m.alloc (.tok (xs.length + ys.length) ie.size))
      | .own t => match m.obj t with
        | some (.tok tip sz) => if tip = xs.length ∧ sz = ie.size then some (.sl (.own t) (xs ++ ys), m.set t (.tok (xs.length + ys.length) ie.size)) else none
        | _ => none
      | .foreign | .lit => none
  | .ms o v off len sz => if (len + ys.length) * ie.bytes > 2 ^ 47 ∨ len + ys.length > 2 ^ 47 then none else
      if off ≠ 0 ∨ sz ≠ ie.size then none else
      if ys.length = 0 then some (.ms o v off len sz, m) else
      match m.obj o with
      | some (.row cs w) => if w ≠ v ∨ len * sz > cs.length then none else (flat? ys).bind fun zs =>
          if (len + ys.length) * sz ≤ cs.length then some (.ms o v 0 (len + ys.length) sz, m.set o (.row (splice cs (len * sz) zs) v))
          else some (.ms o (v + 1) 0 (len + ys.length) sz, m.set o (.row (cs.take (len * sz) ++ zs) (v + 1)))
      | _ => none
  | _ => none
def aAppend (T : TypeId → Option AT) (md : Nat) (m : Mem) (st xt : TypeId) (s x : AV) : Option (AV × Mem) :=
  match aD T st, aD T xt with
  | _, some (.int _) => none
  | some (.slice e), some _ => (T e).bind fun ie => (aElems T m e x).bind fun ys =>
      if ie.size = 0 ∨ sized ie.size ys = false ∨ sized ie.size [ie.zero] = false then none else aAppend2 md m ie s ys
  | _, _ => none
def repl (n : Nat) (z : List AV) : List AV := (List.replicate n z).flatten
def aMakeSlice (T : TypeId → Option AT) (md : Nat) (m : Mem) (t : TypeId) (len cap : AV) : Option (AV × Mem) :=
  match aD T t, len, cap with
  | some (.slice e), .int .i64 l, .int .i64 c => (T e).bind fun ie => ie.zero.cells?.bind fun z =>
      if 0 ≤ l ∧ l ≤ c ∧ (ie.bytes : Int) * c ≤ 2 ^ 47 ∧ c ≤ 2 ^ 47 ∧ ie.size ≠ 0 ∧ z.length = ie.size then
        if md % 2 = 1 then (if l = 0 then some (.sl (.own m.next) [], m.alloc (.tok 0 ie.size)) else some (.sl .foreign (List.replicate l.toNat ie.zero), m))
        else some (.ms m.next 0 0 l.toNat ie.size, m.alloc (.row (repl l.toNat z) 0))
      else none
  | _, _, _ => none
def keyEq : AV → AV → Option Bool
  | .int k a, .int k' b => if k = k' then some (a == b) else none
  | .str a, .str b => some (a == b)
  | .bool a, .bool b => some (a == b)
  | _, _ => none
def plainKey : AD → Bool
  | .int _ | .str | .bool => true
  | _ => false
def fitKey : AD → AV → Bool
  | .int k, .int k' _ => k == k'
  | .str, .str _ => true
  | .bool, .bool _ => true
  | _, _ => false
def mapFind (k : AV) : List (AV × AV) → Nat → Option (Option (Nat × AV))
  | [], _ => some none
  | (k', v) :: es, i => (keyEq k k').bind fun b => if b then some (some (i, v)) else mapFind k es (i + 1)
def mapEntries (m : Mem) : AV → Option (List (AV × AV))
  | .nilm => some []
  | .map o => match m.obj o with
    | some (.map es) => some es
    | _ => none
  | _ => none
def found (ok : Bool) (z : AV) : Option (Nat × AV) → AV
  | some (_, v) => if ok then .tup [v, .bool true] else v
  | none => if ok then .tup [z, .bool false] else z
def aLookup (T : TypeId → Option AT) (m : Mem) (t : TypeId) (x k : AV) (ok : Bool) : Option AV :=
  match aD T t with
  | some (.map kt et) => (T kt).bind fun ik => (T et).bind fun ie => if fitKey ik.d k = false then none else
      (mapEntries m x).bind fun es => (mapFind k es 0).map fun r => found ok ie.zero r
  | _ => none
def aMapUpdate (T : TypeId → Option AT) (m : Mem) (t : TypeId) (x k v : AV) : Option Mem :=
  match aD T t, x with
  | some (.map kt _), .map o => (T kt).bind fun ik => if fitKey ik.d k = false then none else
      match m.obj o with
      | some (.map es) => (mapFind k es 0).map fun r => match r with
          | some (i, _) => m.set o (.map (es.set i (k, v)))
          | none => m.set o (.map (es ++ [(k, v)]))
      | _ => none
  | _, _ => none
def aDelete (T : TypeId → Option AT) (m : Mem) (t : TypeId) (x k : AV) : Option Mem :=
  match aD T t with
  | some (.map kt _) => (T kt).bind fun ik => if fitKey ik.d k = false then none else
      match x with
      | .nilm => some m
      | .map o => match m.obj o with
        | some (.map es) => (mapFind k es 0).map fun r => match r with
            | some (i, _) => m.set o (.map (es.eraseIdx i))
            | none => m.set o (.map es)
        | _ => none
      | _ => none
  | _ => none
def aLen (T : TypeId → Option AT) (m : Mem) (t : TypeId) (x : AV) : Option AV :=
  match aD T t, x with
  | some .str, .str s => some (.int .i64 s.size)
  | some (.arr n _), _ => some (.int .i64 n)
  | some (.slice _), .nils => some (.int .i64 0)
  | some (.slice _), .sl _ xs => some (.int .i64 xs.length)
  | some (.slice _), .ms _ _ _ len _ => some (.int .i64 len)
  | some (.map _ _), .nilm => some (.int .i64 0)
  | some (.map _ _), .map o => match m.obj o with
    | some (.map es) => some (.int .i64 es.length)
    | _ => none
  | _, _ => none
def aMin : AV → List AV → Option AV
  | x, [] => some x
  | .int k x, .int k' y :: r => if k = k' then aMin (.int k (if y < x then y else x)) r else none
  | _, _ => none
def aMax : AV → List AV → Option AV
  | x, [] => some x
  | .int k x, .int k' y :: r => if k = k' then aMax (.int k (if x < y then y else x)) r else none
  | _, _ => none
def aBuiltin (T : TypeId → Option AT) (md : Nat) (m : Mem) (b : Builtin) (ts : List TypeId) (args : List AV) : Option (AV × Mem) :=
  match b, ts, args with
  | .len, [t], [x] => (aLen T m t x).map fun v => (v, m)
  | .append, [st, xt], [s, x] => aAppend T md m st xt s x
  | .delete, [t, _], [x, k] => (aDelete T m t x k).map fun m' => (.tup [], m')
  | .min, _, x :: r => (aMin x r).map fun v => (v, m)
  | .max, _, x :: r => (aMax x r).map fun v => (v, m)
  | _, _, _ => none
def aTypeAssert (T : TypeId → Option AT) (x : AV) (asserted : TypeId) (ok : Bool) : Option AV :=
  (T asserted).bind fun i => match i.d, x with
    | .iface _, _ => none
    | _, .iface t v => if t = asserted then some (if ok then .tup [v, .bool true] else v) else if ok then some (.tup [i.zero, .bool false]) else none
    | _, .nili => if ok then some (.tup [i.zero, .bool false]) else none
    | _, _ => none
/-- A slice that is made immutable: a row's cells are told by value from here on. -/
def aFreeze (T : TypeId → Option AT) (m : Mem) (t : TypeId) (x : AV) : Option (AV × Mem) :=
  match aD T t, x with
  | some (.slice e), .ms o v off len sz => (T e).bind fun ie => if ie.size ≠ sz ∨ sz = 0 ∨ (!ie.d.isAgg && sz != 1) = true then none else
      match m.obj o with
      | some (.row cs w) => if w = v ∧ off + len * sz ≤ cs.length then
          some (.sl .foreign (group ie.d.isAgg sz len (cs.drop off)), m.set o (.fixed cs v)) else none
      | some (.fixed cs w) => if w = v ∧ off + len * sz ≤ cs.length then
          some (.sl .foreign (group ie.d.isAgg sz len (cs.drop off)), m) else none
      | _ => none
  | some (.slice _), .nils => some (.nils, m)
  | some (.slice _), .sl tk xs => some (.sl tk xs, m)
  | _, _ => none
/-- a literal's slice as a row that is written in place -/
def aRowSlice (T : TypeId → Option AT) (m : Mem) (t : TypeId) (len : Nat) (parts : List (Nat × AV)) : Option (AV × Mem) :=
  match aD T t with
  | some (.slice e) => (T e).bind fun ie => if len * ie.size > 2 ^ 24 ∨ ie.size = 0 ∨ sized ie.size [ie.zero] = false then none else
      (aBuildElems ie.size parts (List.replicate len ie.zero)).bind fun xs => (flat? xs).map fun cs => (.ms m.next 0 0 len ie.size, m.alloc (.row cs 0))
  | _ => none
/-- what an operation that calls no function gives, and the memory behind it -/
def aOp (T : TypeId → Option AT) (md : Nat) (ty : TypeId) (ρ : Operand → AV) (m : Mem) : Op → Option (AV × Mem)
  | .move x | .assign x => if md / 2 = 1 then aFreeze T m ty (ρ x) else some (ρ x, m)
  | .pick c a b => match ρ c with
    | .bool true => some (ρ a, m)
    | .bool false => some (ρ b, m)
    | _ => none
  | .alloc e => (T e).bind fun i => aBox m i.zero
  | .box _ x => aBox m (ρ x)
  | .build t ps => (aBuild T t (ps.toList.map fun p => (p.1, ρ p.2))).map fun v => (v, m)
  | .buildSlice t len ps => if md % 2 = 1 then aRowSlice T m t len (ps.toList.map fun p => (p.1, ρ p.2)) else (aBuildSlice T t len (ps.toList.map fun p => (p.1, ρ p.2))).map fun v => (v, m)
  | .load t a => (aLoad T m t (ρ a)).map fun v => (v, m)
  | .store t a x => (aStore T m t (ρ a) (ρ x)).map fun m' => (.undef, m')
  | .nilCheck x => match ρ x with
    | .ptr o v f => some (.ptr o v f, m)
    | .pim cs => some (.pim cs, m)
    | .fn f a b => some (.fn f a b, m)
    | .yld o => some (.yld o, m)
    | _ => none
  | .binOp op t x y _ => (aBin T op t (isConst x) (isConst y) (ρ x) (ρ y)).map fun v => (v, m)
  | .unOp op _ x => (aUn op (ρ x)).map fun v => (v, m)
  | .convert s d x => (aConvert T s d (ρ x)).map fun v => (v, m)
  | .makeInterface t x => match aD T t with
    | some (.iface _) | none => none
    | _ => some (.iface t (ρ x), m)
  | .makeFunc (.func f) first cap => some (.fn f (first.toList.map ρ) (cap.toList.map ρ), m)
  | .makeMap _ none => some (.map m.next, m.alloc (.map []))
  | .makeSlice t l c => aMakeSlice T md m t (ρ l) (ρ c)
  | .slice t x lo hi mx => (aSlice T t (ρ x) (lo.map ρ) (hi.map ρ) (mx.map ρ)).map fun v => (v, m)
  | .fieldAddr t x f => (aFieldAddr T t (ρ x) f).map fun v => (v, m)
  | .field t x f => (aField T t (ρ x) f).map fun v => (v, m)
  | .indexAddr t x i => (aIndexAddr T t (ρ x) (ρ i)).map fun v => (v, m)
  | .index t x i => (aIndex T t (ρ x) (ρ i)).map fun v => (v, m)
  | .lookup t x k ok => (aLookup T m t (ρ x) (ρ k) ok).map fun v => (v, m)
  | .mapUpdate t x k v | .insert t x k v => (aMapUpdate T m t (ρ x) (ρ k) (ρ v)).map fun m' => (.undef, m')
  | .typeAssert x _ t ok => (aTypeAssert T (ρ x) t ok).map fun v => (v, m)
  | .extract x i => (aExtract (ρ x) i).map fun v => (v, m)
  | _ => none
abbrev CallV := FuncId → List AV → Mem → Option (AOut × Mem)
def aOper (X : Ctx) (call : CallV) (f r i : Nat) (o : Oper) (a : AAct) (m : Mem) : Option (AOut × Mem) :=
  match o.op with
  | .call c => match c.callee with
    | .builtin b => (aBuiltin X.T (X.md f r i) m b c.argTypes.toList (c.args.toList.map a.eval)).map fun p => (.ret p.1, p.2)
    | .value g => match a.eval g with
      | .fn k first cap => call k (first ++ c.args.toList.map a.eval ++ cap) m
      | _ => none
    | .invoke _ _ => none
  | .panic x => match a.eval x with
    | .iface t v => some (.pan (.iface t v), m)
    | _ => none
  | op => (aOp X.T (X.md f r i) o.type a.eval m op).map fun p => (.ret p.1, p.2)
/-- is a guarded operation wanted? (the guard's value is laid back as it was read) -/
def aGuard {α : Type} (ops : List Oper) (o : Oper) (a : AAct) (k : Bool → AAct → α) (z : α) : α :=
  match o.guard with
  | none => k true a
  | some (j, want) => match (ops[j]?).bind (·.dst) with
    | none => z
    | some t => match a.tmps.getD t .undef with
      | .bool true => k want { a with tmps := a.tmps.set t (.bool true) }
      | .bool false => k (!want) { a with tmps := a.tmps.set t (.bool false) }
      | .tup [] => k false { a with tmps := a.tmps.set t (.tup []) }
      | _ => z
def aOps (X : Ctx) (call : CallV) (f r : Nat) (all : List Oper) : Nat → List Oper → AAct → Mem → Option (AExit × AAct × Mem)
  | _, [], a, m => some (.normal, a, m)
  | i, o :: os, a, m => aGuard all o a (fun w a => if w then (aOper X call f r i o a m).bind fun p => match p.1 with
      | .ret v => aOps X call f r all (i + 1) os (a.put o.dst v) p.2
      | .pan v => some (.panic v, a, p.2)
    else aOps X call f r all (i + 1) os (a.put o.dst (.tup [])) m) none
/-- what stands ahead of each operation, in the text's order, and behind the last one -/
def aTrace (X : Ctx) (call : CallV) (f r : Nat) (all : List Oper) : Nat → List Oper → AAct → Mem → List (AAct × Mem)
  | _, [], a, m => [(a, m)]
  | i, o :: os, a, m => (a, m) :: aGuard all o a (fun w a => if w then match aOper X call f r i o a m with
      | some (.ret v, m') => aTrace X call f r all (i + 1) os (a.put o.dst v) m'
      | _ => []
    else aTrace X call f r all (i + 1) os (a.put o.dst (.tup [])) m) []
/-- A read that no edge parts from an effect: it would read the same on the effect's other side. -/
def aHolds (X : Ctx) (f r : Nat) (ops : List Oper) (tr : List (AAct × Mem)) (le : Nat × Nat) : Bool :=
  match ops[le.1]?, tr[le.1]?, tr[le.1 + 1]?, tr[if le.2 < le.1 then le.2 else le.2 + 1]? with
  | some o, some p, some q, some s => aGuard ops o p.1 (fun w a => !w || match aOper X (fun _ _ _ => none) f r le.1 o a s.2, o.dst with
      | some (.ret v, _), some d => AV.same v (q.1.tmps.getD d .undef)
      | _, _ => false) false
  | _, _, _, _ => false
def killed (ts : List Nat) (a : AAct) : AAct := { a with tmps := ts.foldl (fun l t => l.set t .undef) a.tmps }
def aRegion (X : Ctx) (call : CallV) (f r : Nat) (ops : List Oper) (draw : Bool) (a : AAct) (m : Mem) : Option (AExit × AAct × Mem) :=
  (aOps X call f r ops 0 ops a m).bind fun p => match p.1 with
    | .normal => if draw && !(X.chk f r).isEmpty then
        (if (X.chk f r).all (aHolds X f r ops (aTrace X call f r ops 0 ops a m)) then some (.normal, killed (X.kill f r) p.2.1, p.2.2) else none)
      else some (.normal, killed (X.kill f r) p.2.1, p.2.2)
    | e => if draw then none else some (e, p.2.1, p.2.2)
def aLoop (ks : List Nat) (body : AAct → Mem → Option (AExit × AAct × Mem)) : Nat → AAct → Mem → Option (AExit × AAct × Mem)
  | 0, _, _ => none
  | n + 1, a, m => (body (killed ks a) m).bind fun p => match p.1 with
    | .normal => aLoop ks body n p.2.1 p.2.2
    | e => some (e, p.2.1, p.2.2)
def aExec (X : Ctx) (call : CallV) (n : Nat) (f : Nat) : (bid : Nat) → Code → AAct → Mem → Option (AExit × AAct × Mem)
  | _, .skip, a, m => some (.normal, a, m)
  | _, .label _, a, m => some (.normal, a, m)
  | _, .region id ops draw, a, m => aRegion X call f id ops.toList draw a m
  | b, .seq x y, a, m => (aExec X call n f b x a m).bind fun p => match p.1 with
    | .normal => aExec X call n f b y p.2.1 p.2.2
    | e => some (e, p.2.1, p.2.2)
  | b, .cond (.tmp t) x y, a, m => match a.tmps.getD t .undef with
    | .bool true => aExec X call n f b x { a with tmps := a.tmps.set t .undef } m
    | .bool false => aExec X call n f b y { a with tmps := a.tmps.set t .undef } m
    | _ => none
  | b, .cond (.const (.bool c)) x y, a, m => if c then aExec X call n f b x a m else aExec X call n f b y a m
  | _, .block id c, a, m => (aExec X call n f id c a m).bind fun p => match p.1 with
    | .exit id' => if id' = id then some (.normal, p.2.1, p.2.2) else some (.exit id', p.2.1, p.2.2)
    | e => some (e, p.2.1, p.2.2)
  | b, .loop c, a, m => aLoop (X.lk f b) (aExec X call n f b c) n a m
  | b, .scope c, a, m => aExec X call n f b c a m
  | _, .exit id, a, m => some (.exit id, a, m)
  | _, .ret, a, m => some (.ret, a, m)
  | _, _, _, _ => none
def aResult (T : TypeId → Option AT) (a : AAct) (m : Mem) : ResultVar → Option AV
  | .tmp t => some (a.tmps.getD t .undef)
  | .cell p t => aLoad T m t (a.tmps.getD p .undef)
def aResultsL (T : TypeId → Option AT) (a : AAct) (m : Mem) : List ResultVar → Option (List AV)
  | [] => some []
  | r :: rs => (aResult T a m r).bind fun v => (aResultsL T a m rs).map (v :: ·)
def oneOrTup : List AV → AV
  | [v] => v
  | vs => .tup vs
def aFinish (T : TypeId → Option AT) (fn : Func) (p : AExit × AAct × Mem) : Option (AOut × Mem) :=
  match p.2.1.defers with
  | [] => match p.1 with
    | .normal | .ret => (aResultsL T p.2.1 p.2.2 fn.results.toList).map fun vs => (.ret (oneOrTup vs), p.2.2)
    | .panic v => some (.pan v, p.2.2)
    | .exit _ => none
  | _ :: _ => none
def aBody (X : Ctx) (call : CallV) (n : Nat) (f : FuncId) (fn : Func) (args : List AV) (m : Mem) : Option (AOut × Mem) :=
  match fn.body with
  | none => none
  | some c => (aExec X call n f 0 c ⟨args ++ List.replicate (fn.ntmps - args.length) .undef, []⟩ m).bind (aFinish X.T fn)
def aCall (X : Ctx) : Nat → CallV
  | 0, _, _, _ => none
  | n + 1, f, args, m => match X.prim f with
    | some p => p args m
    | none => match X.look f with
      | some fn => aBody X (aCall X n) n f fn args m
      | none => none
/-- below the memory's next number nothing comes to be -/
structure Mem.le (m m' : Mem) : Prop where
  next : m.next ≤ m'.next
  none : ∀ o, o < m.next → m.obj o = Option.none → m'.obj o = Option.none
  some : ∀ o, m.obj o ≠ Option.none → m'.obj o ≠ Option.none
theorem Mem.le.refl (m : Mem) : m.le m := ⟨Nat.le_refl _, fun _ _ h => h, fun _ h => h⟩
theorem Mem.le.trans {a b c : Mem} (h : a.le b) (k : b.le c) : a.le c :=
  ⟨Nat.le_trans h.next k.next, fun o ho hn => k.none o (Nat.lt_of_lt_of_le ho h.next) (h.none o ho hn), fun o ho => k.some o (h.some o ho)⟩
theorem Mem.le_alloc {m : Mem} (x : AO) (h : m.obj m.next = Option.none) : m.le (m.alloc x) :=
  ⟨Nat.le_succ _, fun o ho h => by simp only [Mem.alloc]; rw [if_neg (by omega)]; exact h, fun o h => by simp only [Mem.alloc]; split; simp; exact h⟩
theorem Mem.le_set (m : Mem) (i : Nat) (x : AO) (hi : m.obj i ≠ Option.none) : m.le (m.set i x) :=
  ⟨Nat.le_refl _, fun o ho h => by simp only [Mem.set]; rw [if_neg (fun (e : o = i) => hi (by rw [← e]; exact h))]; exact h, fun o h => by simp only [Mem.set]; split; simp; exact h⟩
end Go.AM
