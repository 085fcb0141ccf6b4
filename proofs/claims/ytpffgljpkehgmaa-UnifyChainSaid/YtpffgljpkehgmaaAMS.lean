/-
  What simp knows of the machine's steps: values by lists, numbers without wrapping, slices that grow.
-/
import Derived.Test.YtpffgljpkehgmaaAMRed
import Derived.Laws.Strings
set_option linter.unusedVariables false
set_option linter.unusedSimpArgs false
namespace Go.AM
open Go
set_option linter.unusedSimpArgs false
set_option linter.unusedVariables false
@[simp] theorem size_bs (l : List UInt8) : (bs l).size = l.length := by simp [bs, ByteArray.size]
@[simp] theorem data_bs (l : List UInt8) : (bs l).data.toList = l := by simp [bs]
theorem bs_data (s : ByteArray) : bs s.data.toList = s := by cases s; simp [bs]
@[simp] theorem bs_inj (a b : List UInt8) : bs a = bs b ↔ a = b := ⟨fun h => by have := congrArg (fun s => s.data.toList) h; simpa using this, fun h => by rw [h]⟩
@[simp] theorem bs_append (a b : List UInt8) : bs a ++ bs b = bs (a ++ b) := by
  rw [← bs_data (bs a ++ bs b)]; congr 1
theorem toList_bs (a : List UInt8) : (bs a).toList = a := by
  rw [ByteArray.toList_eq, data_bs]
theorem extract_bs (l : List UInt8) (i j : Nat) : (bs l).extract i j = bs ((l.take j).drop i) := by
  rw [← bs_data ((bs l).extract i j)]; congr 1
  simp [bs, List.drop_take]
@[simp] theorem rLenStr_bs (l : List UInt8) : rLenStr (.str (bs l)) = some (.int .i64 l.length) := by simp [rLenStr]
@[simp] theorem rIxStr_bs (l : List UInt8) (k : IntKind) (n : Nat) : rIxStr (.str (bs l)) (.int k n) = (l[n]?).map fun b => .int .u8 b.toNat := by simp [rIxStr, bs]
@[simp] theorem rIxStr_zero (c : UInt8) (l : List UInt8) (k : IntKind) : rIxStr (.str (bs (c :: l))) (.int k 0) = some (.int .u8 c.toNat) := by simp [rIxStr, bs]
@[simp] theorem rIxStr_one (c d : UInt8) (l : List UInt8) (k : IntKind) : rIxStr (.str (bs (c :: d :: l))) (.int k 1) = some (.int .u8 d.toNat) := by simp [rIxStr, bs]
theorem rIxStr_get {l : List UInt8} {k : IntKind} {n : Nat} (h : n < l.length) : rIxStr (.str (bs l)) (.int k n) = some (.int .u8 l[n].toNat) := by simp [h]
@[simp] theorem rSliceStr_lo {l : List UInt8} {k : IntKind} {n : Nat} (h : n ≤ l.length) : rSliceStr (.str (bs l)) (some (.int k n)) none = some (.str (bs (l.drop n))) := by
  simp [rSliceStr, aBounds, extract_bs, h]
@[simp] theorem rSliceStr_hi {l : List UInt8} {k : IntKind} {n : Nat} (h : n ≤ l.length) : rSliceStr (.str (bs l)) none (some (.int k n)) = some (.str (bs (l.take n))) := by
  simp [rSliceStr, aBounds, extract_bs, h]
@[simp] theorem rSliceStr_both {l : List UInt8} {k k' : IntKind} {a b : Nat} (h : a ≤ b) (h' : b ≤ l.length) : rSliceStr (.str (bs l)) (some (.int k a)) (some (.int k' b)) = some (.str (bs ((l.take b).drop a))) := by
  simp [rSliceStr, aBounds, extract_bs, h, h']
section
variable {T : TypeId → Option AT} {t : TypeId} {xc yc : Bool} {k : IntKind} {a b : Int}
@[simp] theorem aBin_add : aBin T .add t xc yc (.int k a) (.int k b) = some (.int k (k.wrap (a + b))) := by simp [aBin, aInt]
@[simp] theorem aBin_sub : aBin T .sub t xc yc (.int k a) (.int k b) = some (.int k (k.wrap (a - b))) := by simp [aBin, aInt]
@[simp] theorem aBin_mul : aBin T .mul t xc yc (.int k a) (.int k b) = some (.int k (k.wrap (a * b))) := by simp [aBin, aInt]
@[simp] theorem aBin_lss : aBin T .lss t xc yc (.int k a) (.int k b) = some (.bool (decide (a < b))) := by simp [aBin, aInt, aIntCmp]
@[simp] theorem aBin_leq : aBin T .leq t xc yc (.int k a) (.int k b) = some (.bool (decide (a ≤ b))) := by simp [aBin, aInt, aIntCmp]
@[simp] theorem aBin_gtr : aBin T .gtr t xc yc (.int k a) (.int k b) = some (.bool (decide (b < a))) := by simp [aBin, aInt, aIntCmp]
@[simp] theorem aBin_geq : aBin T .geq t xc yc (.int k a) (.int k b) = some (.bool (decide (b ≤ a))) := by simp [aBin, aInt, aIntCmp]
@[simp] theorem aBin_eql : aBin T .eql t xc yc (.int k a) (.int k b) = some (.bool (decide (a = b))) := by simp [aBin, aInt, aIntCmp]; rfl
@[simp] theorem aBin_neq : aBin T .neq t xc yc (.int k a) (.int k b) = some (.bool (decide (a ≠ b))) := by simp [aBin, aInt, aIntCmp]; rw [bne]; rfl
@[simp] theorem aBin_streq (x y : List UInt8) : aBin T .eql t xc yc (.str (bs x)) (.str (bs y)) = some (.bool (decide (x = y))) := by
  simp only [aBin, aStr, toList_bs]
  by_cases h : x = y <;> simp [h]
@[simp] theorem aBin_strneq (x y : List UInt8) : aBin T .neq t xc yc (.str (bs x)) (.str (bs y)) = some (.bool (decide (x ≠ y))) := by
  simp only [aBin, aStr, toList_bs]
  by_cases h : x = y <;> simp [h]
theorem max64 : IntKind.i64.max = 9223372036854775807 := by decide
@[simp] theorem aBin_stradd {x y : List UInt8} (h : x.length + y.length ≤ 9223372036854775807) : aBin T .add t xc yc (.str (bs x)) (.str (bs y)) = some (.str (bs (x ++ y))) := by
  have h2 : ¬ (((bs x).size + (bs y).size : Nat) : Int) > IntKind.i64.max := by simp only [max64, size_bs]; omega
  simp only [aBin, aStr]
  rw [if_neg h2, bs_append]
theorem wrap64 {n : Int} (h1 : -9223372036854775808 ≤ n) (h2 : n ≤ 9223372036854775807) : IntKind.i64.wrap n = n := by
  unfold IntKind.wrap
  have e : (2 : Int) ^ IntKind.i64.bits = 18446744073709551616 := by decide
  have e2 : (2 : Int) ^ (IntKind.i64.bits - 1) = 9223372036854775808 := by decide
  have e3 : IntKind.i64.signed = true := rfl
  simp only [e, e2, e3, Bool.true_and, decide_eq_true_eq]
  split <;> omega
end
@[simp] theorem aUn_not (b : Bool) : aUn .not (.bool b) = some (.bool !b) := (rfl)
@[simp] theorem aExtract_tup (vs : List AV) (i : Nat) : aExtract (.tup vs) i = vs[i]? := (rfl)
@[simp] theorem cells_bool (b : Bool) : AV.cells? (.bool b) = some [.bool b] := (rfl)
@[simp] theorem cells_int (k : IntKind) (n : Int) : AV.cells? (.int k n) = some [.int k n] := (rfl)
@[simp] theorem cells_str (s : ByteArray) : AV.cells? (.str s) = some [.str s] := (rfl)
@[simp] theorem cells_nilp : AV.cells? .nilp = some [.nilp] := (rfl)
@[simp] theorem cells_ptr (o v f : Nat) : AV.cells? (.ptr o v f) = some [.ptr o v f] := (rfl)
@[simp] theorem cells_pim (cs : List AV) : AV.cells? (.pim cs) = some [.pim cs] := (rfl)
@[simp] theorem cells_nils : AV.cells? .nils = some [.nils] := (rfl)
@[simp] theorem cells_sl (tk : Tk) (xs : List AV) : AV.cells? (.sl tk xs) = some [.sl tk xs] := (rfl)
@[simp] theorem cells_ms (o v f l s : Nat) : AV.cells? (.ms o v f l s) = some [.ms o v f l s] := (rfl)
@[simp] theorem cells_nilm : AV.cells? .nilm = some [.nilm] := (rfl)
@[simp] theorem cells_map (o : Nat) : AV.cells? (.map o) = some [.map o] := (rfl)
@[simp] theorem cells_nilf : AV.cells? .nilf = some [.nilf] := (rfl)
@[simp] theorem cells_fn (f : FuncId) (a b : List AV) : AV.cells? (.fn f a b) = some [.fn f a b] := (rfl)
@[simp] theorem cells_nili : AV.cells? .nili = some [.nili] := (rfl)
@[simp] theorem cells_iface (t : TypeId) (v : AV) : AV.cells? (.iface t v) = some [.iface t v] := (rfl)
@[simp] theorem cells_agg (cs : List AV) : AV.cells? (.agg cs) = some cs := (rfl)
@[simp] theorem partOf_cell (size : Nat) (cs : List AV) (off : Nat) : partOf false size cs off = cs[off]? := (rfl)
@[simp] theorem partOf_agg (size : Nat) (cs : List AV) (off : Nat) : partOf true size cs off = if off + size ≤ cs.length then some (.agg ((cs.drop off).take size)) else none := (rfl)
@[simp] theorem rFieldAddr_pim (off : Nat) (cs : List AV) : rFieldAddr off (.pim cs) = some (.pim (cs.drop off)) := (rfl)
@[simp] theorem rFieldAddr_ptr (off o v a : Nat) : rFieldAddr off (.ptr o v a) = some (.ptr o v (a + off)) := (rfl)
@[simp] theorem rField_agg (agg : Bool) (size off : Nat) (cs : List AV) : rField agg size off (.agg cs) = partOf agg size cs off := (rfl)
@[simp] theorem rLoad_pim (agg : Bool) (size : Nat) (m : Mem) (cs : List AV) : rLoad agg size m (.pim cs) = partOf agg size cs 0 := (rfl)
theorem rLoad_pimc (size : Nat) (m : Mem) (cs : List AV) : rLoad false size m (.pim cs) = cs[0]? := (rfl)
@[simp] theorem rLoad_ptr (agg : Bool) (size : Nat) (m : Mem) (o v off : Nat) : rLoad agg size m (.ptr o v off) = (m.cells o v).bind fun cs => partOf agg size cs off := (rfl)
@[simp] theorem aBox_eq (m : Mem) (v : AV) : aBox m v = v.cells?.map fun vs => (.ptr m.next 0 0, m.alloc (.row vs 0)) := (rfl)
@[simp] theorem alloc_next (m : Mem) (o : AO) : (m.alloc o).next = m.next + 1 := (rfl)
@[simp] theorem alloc_obj (m : Mem) (o : AO) (i : Nat) : (m.alloc o).obj i = if i = m.next then some o else m.obj i := (rfl)
@[simp] theorem set_next (m : Mem) (j : Nat) (o : AO) : (m.set j o).next = m.next := (rfl)
@[simp] theorem set_obj (m : Mem) (j : Nat) (o : AO) (i : Nat) : (m.set j o).obj i = if i = j then some o else m.obj i := (rfl)
theorem cells_of {m : Mem} {o v : Nat} {cs : List AV} (h : m.obj o = some (.row cs v)) : m.cells o v = some cs := by simp [Mem.cells, h]
@[simp] theorem cells_alloc (m : Mem) (cs : List AV) : (m.alloc (.row cs 0)).cells m.next 0 = some cs := by simp [Mem.cells]
@[simp] theorem rBuild_nil (z : List AV) : rBuild z [] = some (.agg z) := (rfl)
@[simp] theorem rBuild_cons (z : List AV) (off size : Nat) (v : AV) (ps : List (Nat × Nat × AV)) : rBuild z ((off, size, v) :: ps) = v.cells?.bind fun vs => if vs.length = size then (putCells z off vs).bind fun z' => rBuild z' ps else none := by
  unfold rBuild
  simp only [rBuildParts]
  cases v.cells? with
  | none => rfl
  | some vs =>
    simp only [Option.bind_some]
    split
    · cases putCells z off vs <;> rfl
    · rfl
theorem rStore_ptr {m : Mem} {o ver off size : Nat} {v : AV} {cs vs cs' : List AV} (ho : m.obj o = some (.row cs ver)) (hv : v.cells? = some vs) (hs : vs.length = size) (hp : putCells cs off vs = some cs') : rStore size m (.ptr o ver off) v = some (m.set o (.row cs' ver)) := by
  simp [rStore, hv, hs, ho, hp]
theorem putCells_all {cs vs : List AV} (h : vs.length = cs.length) : putCells cs 0 vs = some vs := by
  simp only [putCells, splice]
  rw [if_pos (by omega)]
  simp [h]
@[simp] theorem rIxAddrArr_ptr (n size o v a : Nat) (k : IntKind) (i : Nat) : rIxAddrArr n size (.ptr o v a) (.int k i) = if i < n then some (.ptr o v (a + i * size)) else none := by
  unfold rIxAddrArr
  by_cases h : i < n
  · simp [h]
  · simp [h]
structure Keeps (b : Nat) (m m' : Mem) : Prop where
  next : m.next ≤ m'.next
  obj : ∀ o, o < b → m'.obj o = m.obj o
abbrev Kept (m m' : Mem) : Prop := Keeps m.next m m'
theorem Keeps.refl (b : Nat) (m : Mem) : Keeps b m m := ⟨Nat.le_refl _, fun _ _ => rfl⟩
theorem Keeps.trans {b : Nat} {m1 m2 m3 : Mem} (h : Keeps b m1 m2) (k : Keeps b m2 m3) : Keeps b m1 m3 := ⟨Nat.le_trans h.next k.next, fun o ho => (k.obj o ho).trans (h.obj o ho)⟩
theorem Keeps.less {b b' : Nat} {m m' : Mem} (h : Keeps b m m') (hb : b' ≤ b) : Keeps b' m m' := ⟨h.next, fun o ho => h.obj o (Nat.lt_of_lt_of_le ho hb)⟩
theorem Kept.trans {m1 m2 m3 : Mem} (h : Kept m1 m2) (k : Kept m2 m3) : Kept m1 m3 := Keeps.trans h (k.less h.next)
theorem Keeps.alloc {b : Nat} {m m' : Mem} (h : Keeps b m m') (hb : b ≤ m'.next) (o : AO) : Keeps b m (m'.alloc o) :=
  ⟨Nat.le_succ_of_le h.next, fun i hi => by rw [alloc_obj, if_neg (by omega)]; exact h.obj i hi⟩
theorem Keeps.set {b : Nat} {m m' : Mem} (h : Keeps b m m') {j : Nat} (hb : b ≤ j) (o : AO) : Keeps b m (m'.set j o) :=
  ⟨h.next, fun i hi => by rw [set_obj, if_neg (by omega)]; exact h.obj i hi⟩
theorem Kept.set {m m' : Mem} (h : Kept m m') {j : Nat} (hb : m.next ≤ j) (o : AO) : Kept m (m'.set j o) := Keeps.set h hb o
theorem Kept.alloc (m : Mem) (o : AO) : Kept m (m.alloc o) := (Keeps.refl _ m).alloc (Nat.le_refl _) o
inductive HSl : AV → List AV → Prop
  | nil : HSl .nils []
  | sl (tk : Tk) (xs : List AV) : HSl (.sl tk xs) xs
theorem HSl.len {v : AV} {xs : List AV} (h : HSl v xs) : rLenSl v = some (.int .i64 xs.length) := by cases h <;> rfl
theorem HSl.ix {v : AV} {xs : List AV} (h : HSl v xs) {n size : Nat} {k : IntKind} {x : AV} (hx : xs[n]? = some x) {cs : List AV} (hc : x.cells? = some cs) (hs : cs.length = size) : rIxAddrSl size v (.int k n) = some (.pim cs) := by
  cases h with
  | nil => simp at hx
  | sl tk => simp [rIxAddrSl, hx, hc, hs]
theorem HSl.elems {v : AV} {xs : List AV} (h : HSl v xs) (A : AT) (m : Mem) : rElems A m v = some xs := by cases h <;> rfl
theorem HSl.slice_hi {v : AV} {xs : List AV} (h : HSl v xs) {size n : Nat} {k : IntKind} (hn : n ≤ xs.length) : ∃ v', rSliceSl size v none (some (.int k n)) = some v' ∧ HSl v' (xs.take n) := by
  cases h with
  | nil =>
    have : n = 0 := by simpa using hn
    subst this
    exact ⟨.nils, by simp [rSliceSl, aBounds], by simpa using HSl.nil⟩
  | sl tk =>
    refine ⟨.sl (if n = xs.length then (if (0 : Nat) = 0 ∨ tk.norm = .full then tk else .foreign) else .foreign) (xs.take n), ?_, .sl _ _⟩
    simp only [rSliceSl, aBounds]
    rw [if_pos (by omega)]
    simp
theorem HSl.cells {v : AV} {xs : List AV} (h : HSl v xs) : v.cells? = some [v] := by cases h <;> rfl
inductive App (b size : Nat) (m : Mem) : AV → List AV → Prop
  | nil : App b size m .nils []
  | full (xs : List AV) (h : sized size xs = true) : App b size m (.sl .full xs) xs
  | lit (xs : List AV) (h : sized size xs = true) : App b size m (.sl .lit xs) xs
  | own (t : Nat) (xs : List AV) (h1 : b ≤ t) (h2 : t < m.next) (h3 : m.obj t = some (.tok xs.length size)) (h4 : sized size xs = true) : App b size m (.sl (.own t) xs) xs
theorem App.hsl {b size : Nat} {m : Mem} {v : AV} {xs : List AV} (h : App b size m v xs) : HSl v xs := by
  cases h with
  | nil => exact .nil
  | full => exact .sl _ _
  | lit => exact .sl _ _
  | own => exact .sl _ _
theorem App.kept {b size : Nat} {m m' : Mem} {v : AV} {xs : List AV} (h : App b size m v xs) (k : Kept m m') : App b size m' v xs := by
  cases h with
  | nil => exact .nil
  | full _ h => exact .full _ h
  | lit _ h => exact .lit _ h
  | own t _ h1 h2 h3 h4 => exact .own t _ h1 (Nat.lt_of_lt_of_le h2 k.next) ((k.obj t h2).trans h3) h4
theorem sized_append (size : Nat) : ∀ (xs ys : List AV), sized size (xs ++ ys) = (sized size xs && sized size ys)
  | [], ys => by simp [sized]
  | x :: xs, ys => by simp [sized, sized_append size xs ys, Bool.and_assoc]
theorem App.append {b : Nat} {A : AT} {m : Mem} {v w : AV} {xs ys : List AV} (h : App b A.size m v xs) (hb : b ≤ m.next) (hw : HSl w ys) (hy : sized A.size ys = true) (hz : A.size ≠ 0 ∧ sized A.size [A.zero] = true)
    (hl : (xs.length + ys.length) * A.bytes ≤ 2 ^ 47) (hl2 : xs.length + ys.length ≤ 2 ^ 47) : ∃ v' m', rAppend A 0 m v w = some (v', m') ∧ App b A.size m' v' (xs ++ ys) ∧ Keeps b m m' ∧ (xs ++ ys = [] ∨ v' ≠ .nils) := by
  have e : rAppend A 0 m v w = aAppend2 0 m A v ys := by
    simp only [rAppend, hw.elems A m, Option.bind_some, hy, hz.2]
    rw [if_neg (by simp [hz.1])]
  rw [e]
  cases h with
  | nil =>
    simp only [List.length_nil, Nat.zero_add] at hl hl2
    simp only [aAppend2]
    rw [if_neg (by omega)]
    split
    · rename_i h0
      have : ys = [] := List.eq_nil_of_length_eq_zero h0
      subst this
      exact ⟨_, _, rfl, .nil, .refl _ _, .inl rfl⟩
    · refine ⟨_, _, rfl, .own m.next _ hb (by simp) (by simp) (by simpa using hy), (Keeps.refl b m).alloc hb _, .inr (by simp)⟩
  | full _ hx =>
    simp only [aAppend2]
    rw [if_neg (by omega)]
    split
    · rename_i h0
      have : ys = [] := List.eq_nil_of_length_eq_zero h0
      subst this
      exact ⟨_, _, rfl, by simpa using App.full xs hx, .refl _ _, .inr (by simp)⟩
    · rw [if_neg (by simp [hx])]
      refine ⟨_, _, rfl, .own m.next _ hb (by simp) (by simp) (by rw [sized_append, hx, hy]; rfl), (Keeps.refl b m).alloc hb _, .inr (by simp)⟩
  | lit _ hx =>
    simp only [aAppend2]
    rw [if_neg (by omega)]
    split
    · rename_i h0
      have : ys = [] := List.eq_nil_of_length_eq_zero h0
      subst this
      exact ⟨_, _, rfl, by simpa using App.lit xs hx, .refl _ _, .inr (by simp)⟩
    · rw [if_neg (by simp [hx])]
      refine ⟨_, _, rfl, .own m.next _ hb (by simp) (by simp) (by rw [sized_append, hx, hy]; rfl), (Keeps.refl b m).alloc hb _, .inr (by simp)⟩
  | own t _ h1 h2 h3 hx =>
    simp only [aAppend2]
    rw [if_neg (by omega)]
    split
    · rename_i h0
      have : ys = [] := List.eq_nil_of_length_eq_zero h0
      subst this
      exact ⟨_, _, rfl, by simpa using App.own t xs h1 h2 h3 hx, .refl _ _, .inr (by simp)⟩
    · rw [if_neg (by simp [hx])]
      simp only [Tk.norm, h3, and_self, if_true]
      refine ⟨_, _, rfl, .own t _ h1 (by simpa using h2) (by simp) (by rw [sized_append, hx, hy]; rfl), (Keeps.refl b m).set h1 _, .inr (by simp)⟩
mutual
theorem same_refl : ∀ v : AV, AV.same v v = true
  | .undef => by simp [AV.same]
  | .bool _ => by simp [AV.same]
  | .int _ _ => by simp [AV.same]
  | .str _ => by simp [AV.same]
  | .nilp => by simp [AV.same]
  | .ptr _ _ _ => by simp [AV.same]
  | .pim a => by simp [AV.same, sameL_refl a]
  | .nils => by simp [AV.same]
  | .sl _ a => by simp [AV.same, sameL_refl a]
  | .ms _ _ _ _ _ => by simp [AV.same]
  | .nilm => by simp [AV.same]
  | .map _ => by simp [AV.same]
  | .nilf => by simp [AV.same]
  | .fn _ a b => by simp [AV.same, sameL_refl a, sameL_refl b]
  | .yld _ => by simp [AV.same]
  | .nili => by simp [AV.same]
  | .iface _ a => by simp [AV.same, same_refl a]
  | .agg a => by simp [AV.same, sameL_refl a]
  | .tup a => by simp [AV.same, sameL_refl a]
theorem sameL_refl : ∀ l : List AV, AV.sameL l l = true
  | [] => by simp [AV.sameL]
  | a :: l => by simp [AV.sameL, same_refl a, sameL_refl l]
end
theorem sameK_self {R : Type} (v : AV) (z : Option R) : sameK v v z = z := by simp [sameK, same_refl]
abbrev u8s (l : List UInt8) : List AV := l.map fun b => .int .u8 b.toNat
theorem byteAVs_bs (l : List UInt8) : byteAVs (bs l) = u8s l := by simp [byteAVs]
theorem bytesOf_u8s : ∀ l : List UInt8, bytesOf? (u8s l) = some l
  | [] => rfl
  | c :: l => by
    have := bytesOf_u8s l
    simp only [u8s] at this
    simp [u8s, bytesOf?, asByte, this]
theorem HSl.str {v : AV} {l : List UInt8} (h : HSl v (u8s l)) : rBytesStr v = some (.str (bs l)) := by
  generalize hx : u8s l = xs at h
  cases h with
  | nil =>
    have : l = [] := by simpa using hx
    subst this; rfl
  | sl tk => rw [← hx]; simp only [rBytesStr, bytesOf_u8s]; rfl
@[simp] theorem rStrBytes_bs (l : List UInt8) : rStrBytes (.str (bs l)) = some (.sl .foreign (u8s l)) := by simp only [rStrBytes, byteAVs_bs]
end Go.AM
