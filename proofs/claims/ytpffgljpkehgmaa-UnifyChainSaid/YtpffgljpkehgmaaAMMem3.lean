/-
  Appending, making, freezing; maps.
-/
import Derived.Test.YtpffgljpkehgmaaAMMem2
import Derived.Lib.ConvBytes
set_option linter.unusedVariables false
set_option linter.unusedSimpArgs false
namespace Go.AM
open Go
set_option linter.unusedSimpArgs false
set_option linter.unusedVariables false
def groupV (agg : Bool) (size : Nat) : Nat → List Value → List Value
  | 0, _ => []
  | n + 1, us => (if agg then .agg (us.take size).toArray else us.headD Go.undef) :: groupV agg size n (us.drop size)
theorem cellish_cells {v : Value} (h : Cellish v) : v.cells = #[v] := by cases v <;> first | rfl | exact h.elim
theorem group_rel {Γ : Gh} {agg : Bool} {size : Nat} (hs : agg = true ∨ size = 1) : ∀ (n : Nat) (cs : List AV) (us : List Value), CRel Γ cs us → n * size ≤ cs.length →
    (groupV agg size n us).length = n ∧ (group agg size n cs).length = n ∧ (∀ (j : Nat) a u, (group agg size n cs)[j]? = some a → (groupV agg size n us)[j]? = some u → VRel Γ a u) ∧
    (∀ u ∈ groupV agg size n us, u.cells.size = size ∧ ∀ v ∈ u.cells.toList, Cellish v) ∧ ((groupV agg size n us).flatMap fun u => u.cells.toList) = us.take (n * size)
  | 0, cs, us, h, _ => ⟨rfl, rfl, fun j a u ha => by simp [group] at ha, fun u hu => by simp [groupV] at hu, by simp [groupV]⟩
  | n + 1, cs, us, h, hn => by
    rw [Nat.succ_mul] at hn
    obtain ⟨i1, i2, i3, i4, i5⟩ := group_rel hs n (cs.drop size) (us.drop size) (h.drop size) (by simp; omega)
    have hlen := h.len
    cases agg with
    | true =>
      refine ⟨by simp [groupV, i1], by simp [group, i2], fun j a u ha hu => ?_, fun u hu => ?_, ?_⟩
      · cases j with
        | zero =>
          simp only [group, groupV, if_true, List.getElem?_cons_zero, Option.some.injEq] at ha hu
          subst ha; subst hu
          have k := h.take size
          exact .agg (by simpa using k.len) (fun i a v ha hv => k.rel i a v ha (by simpa using hv)) (by simpa using k.cell)
        | succ j => exact i3 j a u (by simpa [group] using ha) (by simpa [groupV] using hu)
      · simp only [groupV, if_true, List.mem_cons] at hu
        rcases hu with rfl | hu
        · have k := h.take size
          exact ⟨by simp [Value.cells]; omega, by simpa [Value.cells] using k.cell⟩
        · exact i4 u hu
      · simp only [groupV, if_true, List.flatMap_cons, i5]
        rw [Nat.succ_mul, Nat.add_comm (n * size) size, List.take_add]
        simp [Value.cells]
    | false =>
      have hs1 : size = 1 := by rcases hs with hs | hs; cases hs; exact hs
      subst hs1
      match cs, us, h, hn, hlen, i1, i2, i3, i4, i5 with
      | [], _, _, hn, _, _, _, _, _, _ => simp at hn
      | c :: cs, [], _, _, hl, _, _, _, _, _ => simp at hl
      | c :: cs, u :: us, h, hn, hlen, i1, i2, i3, i4, i5 =>
        have hu := h.rel 0 c u rfl rfl
        have hcl := h.cell u (by simp)
        simp only [List.drop_succ_cons, List.drop_zero] at i1 i2 i3 i4 i5
        refine ⟨by simp [groupV, i1], by simp [group, i2], fun j a v ha hv => ?_, fun v hv => ?_, ?_⟩
        · cases j with
          | zero =>
            simp only [group, groupV, Bool.false_eq_true, if_false, List.headD_cons, List.getElem?_cons_zero, Option.some.injEq] at ha hv
            subst ha; subst hv; exact hu
          | succ j => exact i3 j a v (by simpa [group] using ha) (by simpa [groupV] using hv)
        · simp only [groupV, Bool.false_eq_true, if_false, List.headD_cons, List.drop_succ_cons, List.drop_zero, List.mem_cons] at hv
          rcases hv with rfl | hv
          · rw [cellish_cells hcl]; exact ⟨rfl, fun x hx => by simp at hx; subst hx; exact hcl⟩
          · exact i4 v hv
        · simp only [groupV, Bool.false_eq_true, if_false, List.headD_cons, List.drop_succ_cons, List.drop_zero, List.flatMap_cons, i5, cellish_cells hcl]
          rw [Nat.succ_mul]
          simp [List.take_succ_cons]
/-- a slice's elements, as the model reads them -/
structure Elems (P : Program) (Γ : Gh) (w : World) (size : Nat) (ys : List AV) (x' : Value) (gs : List Value) : Prop where
  len : gs.length = ys.length
  rel : ∀ (j : Nat) a u, ys[j]? = some a → gs[j]? = some u → VRel Γ a u
  cells : ∀ u ∈ gs, u.cells.size = size ∧ ∀ v ∈ u.cells.toList, Cellish v
  lenOf : ∀ W, (Builtin.lenOf x').run P W = .ok ys.length W
  first : ∀ W : World, W.heap = w.heap → (Builtin.firstCells size ys.length x').run P W = .ok (gs.flatMap fun u => u.cells.toList).toArray W
section
variable {P : Program} {T : TypeId → Option AT} (hT : TOk P T)
include hT
omit hT in
theorem aElems_run {Γ : Gh} {m : Mem} {w : World} (hr : Rel Γ m w) {e : TypeId} {ie : AT} (hie : T e = some ie) {x : AV} {x' : Value} {ys : List AV} (h : aElems T m e x = some ys) (hx : VRel Γ x x') (hs : sized ie.size ys = true) (h0 : ie.size ≠ 0) :
    ∃ gs, Elems P Γ w ie.size ys x' gs := by
  unfold aElems at h
  split at h
  · cases hx; cases h
    exact ⟨[], rfl, fun j a u h => by simp at h, fun u h => by simp at h, fun W => by simp [Builtin.lenOf], fun W _ => by simp [Builtin.firstCells]⟩
  · cases h
    cases hx with
    | sl gs sz hl hlen hsz him hv hc hcap htk hsp =>
      rename_i b off len cap sp
      have hgs := sized_cells hs hl hv
      refine ⟨gs, hl, hv, fun u hu => ⟨hgs u hu, fun v hv' => hc v (List.mem_flatMap.2 ⟨u, hu, hv'⟩)⟩, fun W => by simp [Builtin.lenOf, hlen], fun W hW => ?_⟩
      have hfl := flat_len hgs
      have := run_loadCells_list (P := P) W ⟨b, off, sp⟩ (gs.flatMap fun u => u.cells.toList) (fun j v hj => by
        rcases hsp with rfl | ⟨he, _⟩
        · rw [addr_add]
          have := cell_im hr (him j v hj)
          simpa [World.cell?, hW] using this
        · have hg : gs = [] := List.eq_nil_of_length_eq_zero (by rw [hl, he]; rfl)
          rw [hg] at hj; simp at hj)
      rw [hfl, hl] at this
      simp [Builtin.firstCells, this]
  · rename_i o v off len sz
    simp only [Option.bind_eq_some_iff] at h
    obtain ⟨ie', hie', cs, hcs, h⟩ := h
    rw [hie] at hie'
    cases hie'
    split at h
    · rename_i hb
      obtain ⟨hz, hfit⟩ := hb
      cases h
      subst hz
      cases hx with
      | ms hrow h1 h2 hcap =>
        rename_i b aoff cap n
        obtain ⟨us, hrel, hcell⟩ := cells_at hr hrow hcs
        have hsz : ie.d.isAgg = true ∨ ie.size = 1 ∨ len = 0 := by
          cases ha : ie.d.isAgg with
          | true => exact .inl rfl
          | false =>
            refine .inr ?_
            rcases Nat.eq_zero_or_pos len with hl0 | hl0
            · exact .inr hl0
            · refine .inl ?_
              obtain ⟨len', rfl⟩ : ∃ k, len = k + 1 := ⟨len - 1, by omega⟩
              rw [ha] at hs
              obtain ⟨c, hc, hcl⟩ := sized_get hs (i := 0) rfl
              simp only [Bool.false_eq_true, if_false] at hc
              have hlt : off < cs.length := by
                rw [Nat.succ_mul] at hfit
                have := Nat.pos_of_ne_zero h0
                omega
              have hhd : (cs.drop off).headD .undef = cs[off] := by rw [List.drop_eq_getElem_cons hlt]; rfl
              rw [hhd] at hc
              obtain ⟨u, hu, hv, hcu⟩ := hrel.get (List.getElem?_eq_getElem hlt)
              have := (cells_rel hv hc).len
              rw [cellish_cells hcu] at this
              simp at this
              omega
        have hsz' : ie.d.isAgg = true ∨ ie.size = 1 ∨ len = 0 := hsz
        rcases Nat.eq_zero_or_pos len with hl0 | hl0
        · subst hl0
          exact ⟨[], rfl, fun j a u h => by simp [group] at h, fun u h => by simp at h, fun W => by simp [Builtin.lenOf, group], fun W _ => by simp [Builtin.firstCells, group, loadCells, loadCellsFrom]⟩
        · have hsz2 : ie.d.isAgg = true ∨ ie.size = 1 := by
            rcases hsz with h | h | h
            · exact .inl h
            · exact .inr h
            · omega
          obtain ⟨i1, i2, i3, i4, i5⟩ := group_rel hsz2 len (cs.drop off) (us.drop off) (hrel.drop off) (by simp; omega)
          obtain rfl := h1 hl0
          refine ⟨groupV ie.d.isAgg ie.size len (us.drop aoff), by rw [i1, i2], i3, i4, fun W => by simp [Builtin.lenOf, i2], fun W hW => ?_⟩
          have := run_loadCells_list (P := P) W ⟨b, aoff, none⟩ ((us.drop aoff).take (len * ie.size)) (fun j v hj => by
            rw [addr_add]
            rw [List.getElem?_take] at hj
            split at hj
            · rw [List.getElem?_drop] at hj
              have := hcell _ v hj
              simpa [World.cell?, hW] using this
            · cases hj)
          have hll : ((us.drop aoff).take (len * ie.size)).length = len * ie.size := by simp [hrel.len]; omega
          rw [hll] at this
          rw [i5, i2]
          simp [Builtin.firstCells, this]
    · cases h
  · cases hx; cases h
    rename_i s
    have hlen : (byteAVs s).length = s.size := by simp [byteAVs]
    have hsz : ie.size = 1 ∨ s.size = 0 := by
      rcases Nat.eq_zero_or_pos s.size with h | h
      · exact .inr h
      · refine .inl ?_
        obtain ⟨c, hc, hcl⟩ := sized_get hs (i := 0) (List.getElem?_eq_getElem (by rw [hlen]; exact h))
        simp only [byteAVs, List.getElem_map, AV.cells?, Option.some.injEq] at hc
        subst hc
        simpa using hcl.symm
    refine ⟨s.data.toList.map fun b => Value.int .u8 b.toNat, by simp [byteAVs], fun j a u ha hu => ?_, fun u hu => ?_, fun W => by simp [Builtin.lenOf, hlen], fun W _ => ?_⟩
    · simp only [byteAVs, List.getElem?_map] at ha hu
      cases hb : s.data.toList[j]? with
      | none => rw [hb] at ha; cases ha
      | some b => rw [hb] at ha hu; cases ha; cases hu; exact .int _ _
    · obtain ⟨b, hb, rfl⟩ := List.mem_map.1 hu
      rcases hsz with hsz | hsz
      · exact ⟨by rw [hsz]; rfl, fun v hv => by simp [Value.cells] at hv; subst hv; trivial⟩
      · have : s.data.toList = [] := List.eq_nil_of_length_eq_zero (by simpa using hsz)
        rw [this] at hb; cases hb
    · have e : (s.extract 0 s.size) = s := by simp
      have e2 : ((s.data.toList.map fun b => Value.int .u8 b.toNat).flatMap fun u => u.cells.toList) = s.data.toList.map fun b => Value.int .u8 b.toNat := by
        have := flat_ints .u8 (s.data.toList.map fun b => (b.toNat : Int))
        rw [List.map_map] at this
        exact this
      rw [hlen, e2]
      simp only [Builtin.firstCells, e, Sem.run_pure]
      congr 1
      apply Array.ext'
      simp
  · cases h
omit hT in
theorem append_room {st xt ty e : TypeId} {D : TypeDesc} {inf : TypeInfo} {w : World} (ht : P.underlying st = some (.slice e)) (hxt : P.underlying xt = some D) (hD : ∀ k, D ≠ .int k) (hi : P.info? e = some inf)
    {b off sLen sCap n : Nat} {x' : Value} {news : List Value} (hlen : (Builtin.lenOf x').run P w = .ok n w) (hfirst : (Builtin.firstCells inf.size n x').run P w = .ok news.toArray w) (hroom : sLen + n ≤ sCap)
    {c : Array Value} {et : TypeId} (hheap : w.heap[b]? = some (.cells c et (0, 0))) (hfit : off + sLen * inf.size + news.length ≤ c.size) (hone : ∀ v ∈ news, Cellish v) :
    (Builtin.append_ #[st, xt] ty #[.slice (some ⟨b, off, none⟩) sLen sCap, x']).run P w =
      .ok (.slice (some ⟨b, off, none⟩) (sLen + n) sCap) (w.setRow b (c.toList.take (off + sLen * inf.size) ++ news ++ c.toList.drop (off + sLen * inf.size + news.length)).toArray) := by
  have hst := run_storeCells_at (P := P) b (off + sLen * inf.size) et news 0 c w hheap (by simpa using hfit) (fun u hu => oneCell_of (hone u hu))
  simp only [Nat.add_zero] at hst
  have hz : (match D with | .int _ => true | _ => false) = false := by cases D <;> first | rfl | exact absurd rfl (hD _)
  unfold Builtin.append_
  simp only [List.getElem?_toArray, List.getElem?_cons_zero, List.getElem?_cons_succ, Sem.run_bind, run_underlying ht, run_underlying hxt, Result.andThen_ok, sizeOf, typeInfo, run_program, hi, Sem.run_pure]
  cases D <;> first | (exact absurd rfl (hD _)) | skip
  all_goals
    simp only [Bool.false_eq_true, if_false, Sem.run_bind, hlen, Result.andThen_ok, hroom, if_true, Bool.not_false, hfirst, addr_add, hst, Sem.run_pure]
omit hT in
theorem append_grow {st xt ty e : TypeId} {D : TypeDesc} {inf : TypeInfo} {z : Value} {w : World} (ht : P.underlying st = some (.slice e)) (hxt : P.underlying xt = some D) (hD : ∀ k, D ≠ .int k) (hi : P.info? e = some inf) (hz : inf.zero = some z)
    {base : Option Addr} {sLen sCap n : Nat} {x' : Value} {olds news : List Value} (hlen : (Builtin.lenOf x').run P w = .ok n w) (hfirst : ∀ W : World, W.heap = w.heap → (Builtin.firstCells inf.size n x').run P W = .ok news.toArray W)
    (hold : ∀ W : World, W.heap = w.heap → (Builtin.firstCells inf.size sLen (.slice base sLen sCap)).run P W = .ok olds.toArray W) (hg : sCap < sLen + n)
    (h63 : sLen + n ≤ 9223372036854775807) (hbytes : (sLen + n) * inf.bytes ≤ 140737488355328) :
    (Builtin.append_ #[st, xt] ty #[.slice base sLen sCap, x']).run P w =
      .ok (.slice (some ⟨w.heap.size, 0, none⟩) (sLen + n) (grownCap w (sLen + n) sCap e))
        (w.drew.alloc (.cells (olds.toArray ++ news.toArray ++ Builtin.zeroCells z.cells (grownCap w (sLen + n) sCap e - (sLen + n))) e)) := by
  have hn : ¬ (sLen + n ≤ sCap) := by omega
  have h63' : ¬ (((sLen + n : Nat) : Int) > IntKind.i64.max) := by
    have : IntKind.i64.max = 9223372036854775807 := rfl
    omega
  have hcap := growslice_fits hg hbytes
  unfold Builtin.append_
  simp only [List.getElem?_toArray, List.getElem?_cons_zero, List.getElem?_cons_succ, Sem.run_bind, run_underlying ht, run_underlying hxt, Result.andThen_ok, sizeOf, typeInfo, run_program, hi, Sem.run_pure]
  cases D <;> first | (exact absurd rfl (hD _)) | skip
  all_goals
    simp only [Bool.false_eq_true, if_false, Sem.run_bind, hlen, Result.andThen_ok, hn, h63', false_and, typeInfo, run_program, hi, Sem.run_pure]
    rw [if_neg (show ¬ (Builtin.nextslicecap (sLen + n) sCap * inf.bytes > 2 ^ 48) by omega)]
    simp only [Sem.run_bind, run_choose, Question.forced, Bool.false_eq_true, if_false, Result.andThen_ok, run_askRoom]
    have h1 := hold w.drew rfl
    have h2 := hfirst w.drew rfl
    simp only [World.drew] at h1 h2
    simp only [h1, h2, Result.andThen_ok, Bool.not_false, if_true, zeroValue, typeInfo, Sem.run_bind, run_program, hi, hz, Sem.run_pure, newRow, run_newObj]
    rfl
omit hT in
theorem flat_rel {Γ : Gh} : ∀ {xs zs : List AV} {gs : List Value}, flat? xs = some zs → gs.length = xs.length → (∀ (j : Nat) a u, xs[j]? = some a → gs[j]? = some u → VRel Γ a u) → CRel Γ zs (gs.flatMap fun u => u.cells.toList)
  | [], zs, gs, h, hl, _ => by
    cases h
    cases gs with
    | nil => exact .nil Γ
    | cons => simp at hl
  | x :: xs, zs, gs, h, hl, hr => by
    cases gs with
    | nil => simp at hl
    | cons g gs =>
      simp only [flat?, Option.bind_eq_some_iff, Option.map_eq_some_iff] at h
      obtain ⟨c, hc, zs', hz, rfl⟩ := h
      rw [List.flatMap_cons]
      exact (cells_rel (hr 0 x g rfl rfl) hc).append (flat_rel hz (by simpa using hl) (fun j a u ha hu => hr (j + 1) a u (by simpa using ha) (by simpa using hu)))
omit hT in
/-- an append that appends nothing -/
theorem append_zero {st xt ty e : TypeId} {D : TypeDesc} {inf : TypeInfo} {w : World} (ht : P.underlying st = some (.slice e)) (hxt : P.underlying xt = some D) (hD : ∀ k, D ≠ .int k) (hi : P.info? e = some inf)
    {base : Option Addr} {sLen sCap : Nat} {x' : Value} (hlen : (Builtin.lenOf x').run P w = .ok 0 w) (hfirst : (Builtin.firstCells inf.size 0 x').run P w = .ok #[] w) (hroom : sLen ≤ sCap) :
    (Builtin.append_ #[st, xt] ty #[.slice base sLen sCap, x']).run P w = .ok (.slice base sLen sCap) w := by
  unfold Builtin.append_
  simp only [List.getElem?_toArray, List.getElem?_cons_zero, List.getElem?_cons_succ, Sem.run_bind, run_underlying ht, run_underlying hxt, Result.andThen_ok, sizeOf, typeInfo, run_program, hi, Sem.run_pure]
  cases D <;> first | (exact absurd rfl (hD _)) | skip
  all_goals
    simp only [Bool.false_eq_true, if_false, Sem.run_bind, hlen, Result.andThen_ok, Nat.add_zero, hroom, if_true, Bool.not_false, hfirst, Sem.run_pure]
    cases base <;> simp [storeCells]
omit hT in
theorem getElem?_prefix {cs ds : List Value} {i : Nat} {v : Value} (h : cs[i]? = some v) : (cs ++ ds)[i]? = some v := by
  rw [List.getElem?_append_left (List.getElem?_eq_some_iff.1 h).1]; exact h
/-- the new row that an append makes -/
theorem grown {Γ : Gh} {m : Mem} {w : World} {st xt ty e : TypeId} {ie : AT} (hie : T e = some ie) (ht : P.underlying st = some (.slice e)) {D : TypeDesc} (hxt : P.underlying xt = some D) (hD : ∀ k, D ≠ .int k)
    (hz0 : sized ie.size [ie.zero] = true) {base : Option Addr} {sLen sCap : Nat} {x' : Value} {ys : List AV} {gs : List Value} {olds : List Value} (hel : Elems P Γ w ie.size ys x' gs)
    (hold : ∀ W : World, W.heap = w.heap → (Builtin.firstCells ie.size sLen (.slice base sLen sCap)).run P W = .ok olds.toArray W) (hol : olds.length = sLen * ie.size) (hg : sCap < sLen + ys.length)
    (hb1 : (sLen + ys.length) * ie.bytes ≤ 2 ^ 47) (hb2 : sLen + ys.length ≤ 2 ^ 47) :
    ∃ (cap : Nat) (c : Array Value) (w' : World), (Builtin.append_ #[st, xt] ty #[.slice base sLen sCap, x']).run P w = .ok (.slice (some ⟨w.heap.size, 0, none⟩) (sLen + ys.length) cap) w' ∧
      w'.heap = w.heap.push (.cells c e (0, 0)) ∧ w'.os = w.os ∧ w'.tape = w.tape ∧ w'.output = w.output ∧ c.size = cap * ie.size ∧ sLen + ys.length ≤ cap ∧
      ∃ rest, c.toList = olds ++ (gs.flatMap fun u => u.cells.toList) ++ rest := by
  obtain ⟨inf, z, hi, h1, h2, h3, hz, hza, hzo⟩ := (hT e ie hie).info
  obtain ⟨zc, hzc, hzl⟩ := sized_get hz0 (i := 0) rfl
  have hzr := cells_rel (hza ▸ absC_rel Γ z (.inl hzo) : VRel Γ ie.zero z) hzc
  have hzs : z.cells.size = ie.size := by have := hzr.len; simp at this; omega
  have hge := grownCap_ge w (sLen + ys.length) sCap e
  have hrun := append_grow (P := P) (ty := ty) ht hxt hD hi hz (base := base) (sLen := sLen) (sCap := sCap) (n := ys.length) (x' := x') (olds := olds) (news := gs.flatMap fun u => u.cells.toList) (w := w)
    (hel.lenOf w) (fun W hW => by rw [h1]; exact hel.first W hW) (fun W hW => by rw [h1]; exact hold W hW) hg (by omega) (by rw [h2]; omega)
  refine ⟨_, _, _, hrun, rfl, rfl, rfl, rfl, ?_, hge, (Builtin.zeroCells z.cells (grownCap w (sLen + ys.length) sCap e - (sLen + ys.length))).toList, by simp⟩
  have hfl := flat_len (gs := gs) (sz := ie.size) (fun u hu => (hel.cells u hu).1)
  simp only [Array.size_append, List.size_toArray, size_zeroCells, hzs, hol, hfl, hel.len, ← Nat.add_mul]
  congr 1
  omega
set_option maxHeartbeats 1600000 in
theorem aAppend2_run {Γ : Gh} {m m' : Mem} {w : World} (hr : Rel Γ m w) {st xt ty e : TypeId} {ie : AT} (hie : T e = some ie) (ht : P.underlying st = some (.slice e)) {D : TypeDesc} (hxt : P.underlying xt = some D) (hD : ∀ k, D ≠ .int k)
    (hz0 : sized ie.size [ie.zero] = true) (hs0 : ie.size ≠ 0) {s v : AV} {s' x' : Value} {ys : List AV} {gs : List Value} {md : Nat} (hel : Elems P Γ w ie.size ys x' gs) (h : aAppend2 md m ie s ys = some (v, m')) (hs : VRel Γ s s')
    (hf : Fresh Γ m.next m'.next) : OpPost P Γ m w (Builtin.append_ #[st, xt] ty #[s', x']) v m' := by
  obtain ⟨inf, z, hi, hsz, _⟩ := (hT e ie hie).info
  have hgs := fun u hu => (hel.cells u hu).1
  have hfl := flat_len (gs := gs) (sz := ie.size) hgs
  have hcell : ∀ v ∈ (gs.flatMap fun u => u.cells.toList), Cellish v := fun v hv => by
    obtain ⟨u, hu, hv⟩ := List.mem_flatMap.1 hv
    exact (hel.cells u hu).2 v hv
  have hempty : ys.length = 0 → (Builtin.lenOf x').run P w = .ok 0 w ∧ (Builtin.firstCells inf.size 0 x').run P w = .ok #[] w := fun h0 => by
    have hg0 : gs = [] := List.eq_nil_of_length_eq_zero (by rw [hel.len, h0])
    have a := hel.lenOf w
    have b := hel.first w rfl
    rw [h0] at a b
    rw [hg0] at b
    exact ⟨a, by rw [hsz]; simpa using b⟩
  unfold aAppend2 at h
  split at h
  · -- nothing yet
    cases hs
    split at h
    · cases h
    · rename_i hb
      simp only [not_or, Nat.not_lt] at hb
      split at h
      · rename_i h0
        cases h
        obtain ⟨a, b⟩ := hempty h0
        exact .pure hr ⟨_, append_zero ht hxt hD hi a b (Nat.le_refl 0), .nils⟩
      · rename_i h0
        obtain ⟨cap, c, w', hrun, hheap, hos, htape, hout, hcs, hcap, rest, hc⟩ := grown hT (m := m) (ty := ty) hie ht hxt hD hz0 (base := none) (sLen := 0) (sCap := 0) (olds := []) hel (fun W _ => by simp [Builtin.firstCells]) (by simp) (by omega) (by simpa using hb.1) (by simpa using hb.2)
        simp only [List.nil_append, Nat.zero_add] at hc hrun hcap
        split at h
        · simp only [Option.map_eq_some_iff] at h
          obtain ⟨zs, hzs, h⟩ := h
          cases h
          have hzr := flat_rel hzs hel.len hel.rel
          have hzl : zs.length = ys.length * ie.size := by rw [← hzr.len, hfl, hel.len]
          obtain ⟨Γ', hp, hrole⟩ := post_row hr (cs := zs) (c := c) (e := e) (by rw [hc, ← hzr.len, List.take_left]; exact hzr) (by rw [hcs, hzl]; exact Nat.mul_le_mul_right _ hcap) hf hheap hos htape hout
          exact ⟨_, w', Γ', hrun, .ms (.inl ⟨0, 0, hrole, Nat.le_refl _, Nat.le_refl _⟩) (fun _ => rfl) (fun _ => ⟨rfl, hcs.symm⟩) hcap, hp⟩
        · cases h
          obtain ⟨Γ', hp, him, htk⟩ := post_tok hr (c := c) (e := e) (gs.flatMap fun u => u.cells.toList) (fun i v hv => by rw [← Array.getElem?_toList, hc]; exact getElem?_prefix hv) (tip := ys.length) (cap := cap) (sz := ie.size) (by rw [hfl, hel.len]) hcs hcap (Nat.pos_of_ne_zero hs0) hf hheap hos htape hout
          exact ⟨_, w', Γ', hrun, .sl gs ie.size hel.len rfl hgs him (fun j a u ha hu => (hel.rel j a u ha hu).mono hp.le) hcell hcap ⟨_, _, _, htk, Nat.le_refl _, fun _ => ⟨rfl, rfl, rfl⟩⟩ (.inl rfl), hp⟩
  · rename_i tk xs
    cases hs with
    | sl gx sz hl hlen hszx him hv hc hcap htk hsp =>
    rename_i b off len cap sp
    subst hlen
    split at h
    · cases h
    · rename_i hb
      simp only [not_or, Nat.not_lt] at hb
      split at h
      · rename_i h0
        cases h
        obtain ⟨a, b'⟩ := hempty h0
        exact .pure hr ⟨_, append_zero ht hxt hD hi a b' hcap, .sl gx sz hl rfl hszx him hv hc hcap htk hsp⟩
      · rename_i h0
        obtain rfl : sp = none := by
          rcases hsp with h1 | ⟨_, rfl⟩
          · exact h1
          · exfalso
            split at h
            · cases h
            · cases h
        split at h
        · cases h
        · rename_i hsx
          have hsx : sized ie.size xs = true := by simpa using hsx
          have hgx := sized_cells hsx hl hv
          have hfx := flat_len (gs := gx) (sz := ie.size) hgx
          have holdc : ∀ W : World, W.heap = w.heap → ∀ (j : Nat) v, (gx.flatMap fun u => u.cells.toList)[j]? = some v → W.cell? ((⟨b, off, none⟩ : Addr).add j) = some v := fun W hW j v hj => by
            rw [addr_add]
            have := cell_im hr (him j v hj)
            simpa [World.cell?, hW] using this
          have hold : ∀ W : World, W.heap = w.heap → (Builtin.firstCells ie.size xs.length (.slice (some ⟨b, off, none⟩) xs.length cap)).run P W = .ok (gx.flatMap fun u => u.cells.toList).toArray W := fun W hW => by
            have := run_loadCells_list (P := P) W ⟨b, off, none⟩ (gx.flatMap fun u => u.cells.toList) (holdc W hW)
            rw [hfx, hl] at this
            simp [Builtin.firstCells, this]
          have hol : (gx.flatMap fun u => u.cells.toList).length = xs.length * ie.size := by rw [hfx, hl]
          have hboth : ((gx ++ gs).flatMap fun u => u.cells.toList) = (gx.flatMap fun u => u.cells.toList) ++ (gs.flatMap fun u => u.cells.toList) := List.flatMap_append
          have hrel2 : ∀ (j : Nat) a u, (xs ++ ys)[j]? = some a → (gx ++ gs)[j]? = some u → VRel Γ a u := fun j a u ha hu => by
            rcases Nat.lt_or_ge j xs.length with hj | hj
            · rw [List.getElem?_append_left hj] at ha
              rw [List.getElem?_append_left (by omega)] at hu
              exact hv j a u ha hu
            · rw [List.getElem?_append_right hj] at ha
              rw [List.getElem?_append_right (by omega), hl] at hu
              exact hel.rel _ a u ha hu
          have hlen2 : (gx ++ gs).length = (xs ++ ys).length := by simp [hl, hel.len]
          have hsz2 : ∀ u ∈ gx ++ gs, u.cells.size = ie.size := fun u hu => by
            rcases List.mem_append.1 hu with hu | hu
            · exact hgx u hu
            · exact hgs u hu
          have hcell2 : ∀ v ∈ ((gx ++ gs).flatMap fun u => u.cells.toList), Cellish v := fun v hv => by
            rw [hboth] at hv
            rcases List.mem_append.1 hv with hv | hv
            · exact hc v hv
            · exact hcell v hv
          have hfl2 : ((gx ++ gs).flatMap fun u => u.cells.toList).length = (xs.length + ys.length) * ie.size := by rw [hboth, List.length_append, hol, hfl, hel.len, Nat.add_mul]
          split at h
          · -- no spare room
            rename_i hnorm
            have hcl : cap = xs.length := by
              cases tk with
              | full => exact htk
              | lit => exact htk.1
              | _ => simp [Tk.norm] at hnorm
            obtain ⟨cap', c, w', hrun, hheap, hos, htape, hout, hcs, hcap', rest, hcc⟩ := grown hT (m := m) (ty := ty) hie ht hxt hD hz0 hel hold hol (by omega) hb.1 hb.2
            rw [← hboth] at hcc
            split at h
            · simp only [Option.map_eq_some_iff] at h
              obtain ⟨zs, hzs, h⟩ := h
              cases h
              have hzr := flat_rel hzs hlen2 hrel2
              have hzl : zs.length = (xs.length + ys.length) * ie.size := by rw [← hzr.len, hfl2]
              obtain ⟨Γ', hp, hrole⟩ := post_row hr (cs := zs) (c := c) (e := e) (by rw [hcc, ← hzr.len, List.take_left]; exact hzr) (by rw [hcs, hzl]; exact Nat.mul_le_mul_right _ hcap') hf hheap hos htape hout
              exact ⟨_, w', Γ', hrun, .ms (.inl ⟨0, 0, hrole, Nat.le_refl _, Nat.le_refl _⟩) (fun _ => rfl) (fun _ => ⟨rfl, hcs.symm⟩) hcap', hp⟩
            · cases h
              obtain ⟨Γ', hp, him', htk'⟩ := post_tok hr (c := c) (e := e) ((gx ++ gs).flatMap fun u => u.cells.toList) (fun i v hv => by rw [← Array.getElem?_toList, hcc]; exact getElem?_prefix hv) (tip := xs.length + ys.length) (cap := cap') (sz := ie.size) hfl2 hcs hcap' (Nat.pos_of_ne_zero hs0) hf hheap hos htape hout
              exact ⟨_, w', Γ', hrun, .sl (gx ++ gs) ie.size hlen2 (by simp) hsz2 him' (fun j a u ha hu => (hrel2 j a u ha hu).mono hp.le) hcell2 hcap' ⟨_, _, _, htk', Nat.le_refl _, fun _ => ⟨rfl, rfl, rfl⟩⟩ (.inl rfl), hp⟩
          · -- the row's tip
            rename_i t hnorm
            obtain rfl : tk = .own t := by cases tk <;> simp_all [Tk.norm]
            split at h
            · rename_i tip szt hobj
              split at h
              · rename_i hcond
                obtain ⟨rfl, rfl⟩ := hcond
                cases h
                obtain ⟨b0, cs0, c, e0, cap0, htok, hrole, hheap, hcl0, hcs, htipcap, hpos⟩ := hr.objs t _ hobj
                obtain ⟨tip', blk, cp, htok', hle', heq'⟩ := htk
                rw [htok] at htok'
                cases htok'
                obtain ⟨rfl, rfl, rfl⟩ := heq' rfl
                by_cases hroom : xs.length + ys.length ≤ cap
                · -- in place
                  have hnl : (gs.flatMap fun u => u.cells.toList).length = ys.length * ie.size := by rw [hfl, hel.len]
                  have hfit : xs.length * ie.size + ys.length * ie.size ≤ c.size := by rw [← Nat.add_mul, hcs]; exact Nat.mul_le_mul_right _ hroom
                  have hrun := append_room (P := P) (ty := ty) ht hxt hD hi (b := b) (off := 0) (sLen := xs.length) (sCap := cap) (n := ys.length) (x' := x') (news := gs.flatMap fun u => u.cells.toList) (w := w)
                    (hel.lenOf w) (by rw [hsz]; exact hel.first w rfl) hroom hheap (by rw [hsz, hnl]; omega) hcell
                  rw [hsz] at hrun
                  simp only [Nat.zero_add] at hrun
                  have hpre : ∀ (i : Nat) v, cs0[i]? = some v → c[i]? = some v := fun i v hi => by
                    have hne : (Γ.role b).known ≠ [] := fun e => by
                      rw [hrole] at e
                      simp only [Role.known] at e
                      rw [e] at hi; simp at hi
                    obtain ⟨c1, e1, fz1, hc1, hk1⟩ := hr.known b hne
                    rw [hheap] at hc1
                    cases hc1
                    exact hk1 i v (by rw [hrole]; exact hi)
                  have hgc : (gx.flatMap fun u => u.cells.toList) = cs0 := by
                    apply List.ext_getElem?
                    intro j
                    cases hj : (gx.flatMap fun u => u.cells.toList)[j]? with
                    | some v =>
                      have := him j v hj
                      simp only [im, hrole, Role.known, Nat.zero_add] at this
                      exact this.symm
                    | none =>
                      have := List.getElem?_eq_none_iff.1 hj
                      exact (List.getElem?_eq_none (by omega)).symm
                  have htk : c.toList.take (xs.length * ie.size) = cs0 := by
                    apply List.ext_getElem?
                    intro j
                    rw [List.getElem?_take]
                    split
                    · rename_i hj
                      have hj' : j < cs0.length := by omega
                      have := hpre j _ (List.getElem?_eq_getElem hj')
                      rw [Array.getElem?_toList, this, List.getElem?_eq_getElem hj']
                    · exact (List.getElem?_eq_none (by omega)).symm
                  have hC : (c.toList.take (xs.length * ie.size) ++ (gs.flatMap fun u => u.cells.toList) ++ c.toList.drop (xs.length * ie.size + (gs.flatMap fun u => u.cells.toList).length)).length = c.size := by simp [hnl]; omega
                  have hp : Post Γ m w ⟨fun b' => if b' = b then .tk t (cs0 ++ gs.flatMap fun u => u.cells.toList) else Γ.role b', fun t' => if t' = t then some (xs.length + ys.length, b, cap) else Γ.tok t'⟩
                      (m.set t (.tok (xs.length + ys.length) ie.size)) (w.setRow b (c.toList.take (xs.length * ie.size) ++ (gs.flatMap fun u => u.cells.toList) ++ c.toList.drop (xs.length * ie.size + (gs.flatMap fun u => u.cells.toList).length)).toArray) := by
                    refine post_upd (r := .tk t (cs0 ++ gs.flatMap fun u => u.cells.toList)) (b := b) (o := t) hr (by rw [hrole]; rfl) (by rw [hobj]; simp) (by simp) (fun b' hb' => setRow_other w b b' _ hb') (setRow_heap w b c _ e0 (0, 0) hheap)
                      rfl rfl rfl (fun b' => rfl) (by rw [hrole]; exact .tk _ _ _) (fun t' ht' => by simp [ht']) (fun x hx => ⟨_, if_pos rfl, .inr ?_⟩) (fun _ => by rw [htok]; simp) (fun _ => ⟨_, e0, _, rfl, fun i v hi => ?_⟩)
                      (fun o v n h => by rcases h with ⟨_, _, h, _⟩ | ⟨_, _, _, h, _⟩ <;> cases h) (fun v n h => by rcases h with ⟨_, _, h, _⟩ | ⟨_, _, _, h, _⟩ <;> cases h) ?_
                    · rw [htok] at hx; cases hx; simp only []; omega
                    · simp only [List.getElem?_toArray]
                      rw [htk]
                      exact getElem?_prefix hi
                    · exact ⟨b, cs0 ++ gs.flatMap fun u => u.cells.toList, _, e0, cap, by simp, by simp, setRow_heap w b c _ e0 (0, 0) hheap, by simp only [List.length_append]; rw [hcl0, hnl, Nat.add_mul], by simp only [List.size_toArray]; rw [hC, hcs], hroom, hpos⟩
                  refine ⟨_, _, _, hrun, .sl (gx ++ gs) ie.size hlen2 (by simp) hsz2 (fun j v hj => ?_) (fun j a u ha hu => (hrel2 j a u ha hu).mono hp.le) hcell2 hroom ⟨_, _, _, if_pos rfl, Nat.le_refl _, fun _ => ⟨rfl, rfl, rfl⟩⟩ (.inl rfl), hp⟩
                  rw [hboth, hgc] at hj
                  simp only [im, if_true, Role.known, Nat.zero_add]
                  exact hj
                · -- a new row
                  obtain ⟨cap', c', w', hrun, hheap', hos, htape, hout, hcs', hcap', rest, hcc⟩ := grown hT (m := m) (ty := ty) hie ht hxt hD hz0 hel hold hol (by omega) hb.1 hb.2
                  rw [← hboth] at hcc
                  have hp : Post Γ m w ⟨fun b' => if b' = w.heap.size then .tk t ((gx ++ gs).flatMap fun u => u.cells.toList) else Γ.role b', fun t' => if t' = t then some (xs.length + ys.length, w.heap.size, cap') else Γ.tok t'⟩
                      (m.set t (.tok (xs.length + ys.length) ie.size)) w' := by
                    refine post_move (r := .tk t ((gx ++ gs).flatMap fun u => u.cells.toList)) (o := t) hr (by rw [hobj]; simp) hheap' hos htape hout (fun b' => rfl) rfl (fun t' ht' => by simp [ht']) (fun x hx => ⟨_, if_pos rfl, .inr ?_⟩) (fun _ => by rw [htok]; simp)
                      (fun _ => ⟨c', e, _, rfl, fun i v hi => ?_⟩) (fun o v n h => by rcases h with ⟨_, _, h, _⟩ | ⟨_, _, _, h, _⟩ <;> cases h) (fun v n h => by rcases h with ⟨_, _, h, _⟩ | ⟨_, _, _, h, _⟩ <;> cases h) (fun o h => by cases h) ?_
                    · rw [htok] at hx; cases hx; simp only []; omega
                    · rw [← Array.getElem?_toList, hcc]
                      exact getElem?_prefix hi
                    · exact ⟨w.heap.size, _, c', e, cap', by simp, if_pos rfl, by rw [hheap']; simp, hfl2, hcs', hcap', hpos⟩
                  refine ⟨_, w', _, hrun, .sl (gx ++ gs) ie.size hlen2 (by simp) hsz2 (fun j v hj => ?_) (fun j a u ha hu => (hrel2 j a u ha hu).mono hp.le) hcell2 hcap' ⟨_, _, _, if_pos rfl, Nat.le_refl _, fun _ => ⟨rfl, rfl, rfl⟩⟩ (.inl rfl), hp⟩
                  simp only [im, if_true, Role.known, Nat.zero_add]
                  exact hj
              · cases h
            · cases h
          · cases h
          · cases h
  · rename_i o v off len sz
    cases hs with
    | ms hrow q1 q0 hcap =>
    rename_i b aoff cap n0
    split at h
    · cases h
    · rename_i hb
      simp only [not_or, Nat.not_lt] at hb
      split at h
      · cases h
      · rename_i hoz
        simp only [not_or, Decidable.not_not] at hoz
        obtain ⟨rfl, rfl⟩ := hoz
        obtain ⟨rfl, hn0⟩ := q0 rfl
        split at h
        · rename_i h0
          cases h
          obtain ⟨a, b'⟩ := hempty h0
          exact .pure hr ⟨_, append_zero ht hxt hD hi a b' hcap, .ms hrow q1 q0 hcap⟩
        · rename_i h0
          split at h
          · rename_i cs wv hobj
            split at h
            · cases h
            · rename_i hwl
              simp only [not_or, Decidable.not_not, Nat.not_lt] at hwl
              obtain ⟨rfl, hlencs⟩ := hwl
              simp only [Option.bind_eq_some_iff] at h
              obtain ⟨zs, hzs, h⟩ := h
              have hzr := flat_rel hzs hel.len hel.rel
              have hnl : (gs.flatMap fun u => u.cells.toList).length = ys.length * ie.size := by rw [hfl, hel.len]
              have hzl : zs.length = ys.length * ie.size := by rw [← hzr.len, hnl]
              obtain ⟨b', c, e0, lo, hrole, hlo, hheap, hle, hrel, hmax⟩ := hr.objs o _ hobj
              obtain rfl := hr.rows b b' o wv n0 c.size hrow (.inl ⟨lo, wv, hrole, hlo, Nat.le_refl _⟩)
              obtain rfl : n0 = c.size := by
                rcases hrow with ⟨_, _, h, _⟩ | ⟨_, _, _, h, _⟩ <;> rw [hrole] at h <;> cases h
                rfl
              have hpos : 0 < ie.size := Nat.pos_of_ne_zero hs0
              have inplace : len + ys.length ≤ cap → (Builtin.append_ #[st, xt] ty #[.slice (some ⟨b, 0, none⟩) len cap, x']).run P w =
                  .ok (.slice (some ⟨b, 0, none⟩) (len + ys.length) cap) (w.setRow b (c.toList.take (len * ie.size) ++ (gs.flatMap fun u => u.cells.toList) ++ c.toList.drop (len * ie.size + (gs.flatMap fun u => u.cells.toList).length)).toArray) ∧
                  (c.toList.take (len * ie.size) ++ (gs.flatMap fun u => u.cells.toList) ++ c.toList.drop (len * ie.size + (gs.flatMap fun u => u.cells.toList).length)).length = c.size ∧ len * ie.size + ys.length * ie.size ≤ c.size := fun hroom => by
                have hfit : len * ie.size + ys.length * ie.size ≤ c.size := by rw [← Nat.add_mul, ← hn0]; exact Nat.mul_le_mul_right _ hroom
                have hrun := append_room (P := P) (ty := ty) ht hxt hD hi (b := b) (off := 0) (sLen := len) (sCap := cap) (n := ys.length) (x' := x') (news := gs.flatMap fun u => u.cells.toList) (w := w)
                  (hel.lenOf w) (by rw [hsz]; exact hel.first w rfl) hroom hheap (by rw [hsz, hnl]; omega) hcell
                rw [hsz] at hrun
                simp only [Nat.zero_add] at hrun
                exact ⟨hrun, by simp [hnl]; omega, hfit⟩
              split at h
              · rename_i hin
                cases h
                have hroom : len + ys.length ≤ cap := Nat.le_of_mul_le_mul_right (by rw [hn0]; omega) hpos
                obtain ⟨hrun, hC, hfit⟩ := inplace hroom
                have hput : putCells cs (len * ie.size) zs = some (splice cs (len * ie.size) zs) := by
                  unfold putCells
                  rw [if_pos]
                  rw [hzl, ← Nat.add_mul]; exact hin
                have hsp := hrel.splice hzr hput
                refine ⟨_, _, Γ, hrun, .ms hrow (fun _ => rfl) (fun _ => ⟨rfl, hn0⟩) hroom, ?_⟩
                refine post_upd (Γ' := Γ) (r := .row o lo wv c.size) (b := b) (o := o) hr (by rw [hrole]; rfl) (by rw [hobj]; simp) (by simp) (fun b' hb' => setRow_other w b b' _ hb') (setRow_heap w b c _ e0 (0, 0) hheap)
                  rfl rfl rfl (fun b' => by split <;> simp_all) (by rw [hrole]; exact .refl _) (fun t _ => rfl) (fun x hx => ⟨x, hx, .inl rfl⟩) (fun h => h) (fun h => absurd rfl h) (fun o' v n h => ?_) (fun v n h => .inl ⟨n, by rw [hrole]; exact h⟩) ?_
                · rcases h with ⟨_, _, h, _⟩ | ⟨_, _, _, h, _⟩ <;> cases h
                  exact ⟨_, e0, rfl, by simp only [List.size_toArray]; rw [hC]⟩
                · refine ⟨b, _, e0, lo, by simp only [List.size_toArray]; rw [hC]; exact hrole, hlo, setRow_heap w b c _ e0 (0, 0) hheap, by simp only [List.size_toArray]; rw [hC, hsp.2]; exact hle, ?_, hmax⟩
                  have e1 := splice_take c.toList (gs.flatMap fun u => u.cells.toList) (len * ie.size) cs.length (by rw [hnl, ← Nat.add_mul]; exact hin) (by simpa using hle)
                  show CRel Γ _ ((c.toList.take (len * ie.size) ++ (gs.flatMap fun u => u.cells.toList) ++ c.toList.drop (len * ie.size + (gs.flatMap fun u => u.cells.toList).length)).take _)
                  rw [hsp.2, ← e1]
                  exact hsp.1
              · rename_i hin
                cases h
                have hcr : CRel Γ (cs.take (len * ie.size) ++ zs) (c.toList.take (len * ie.size) ++ (gs.flatMap fun u => u.cells.toList)) := by
                  have k := (hrel.take (len * ie.size)).append hzr
                  rw [List.take_take, Nat.min_eq_left hlencs] at k
                  exact k
                have hl1 : (cs.take (len * ie.size) ++ zs).length = len * ie.size + ys.length * ie.size := by simp [hzl]; omega
                by_cases hroom : len + ys.length ≤ cap
                · obtain ⟨hrun, hC, hfit⟩ := inplace hroom
                  have hp : Post Γ m w ⟨fun b' => if b' = b then .row o lo (wv + 1) c.size else Γ.role b', Γ.tok⟩ (m.set o (.row (cs.take (len * ie.size) ++ zs) (wv + 1)))
                      (w.setRow b (c.toList.take (len * ie.size) ++ (gs.flatMap fun u => u.cells.toList) ++ c.toList.drop (len * ie.size + (gs.flatMap fun u => u.cells.toList).length)).toArray) := by
                    have hler : Role.le (Γ.role b) (.row o lo (wv + 1) c.size) := by rw [hrole]; exact .row _ _ _ _ _ (Nat.le_succ _)
                    have hle' : Γ.le ⟨fun b' => if b' = b then .row o lo (wv + 1) c.size else Γ.role b', Γ.tok⟩ := ⟨fun b' => by
                      simp only
                      split
                      · rename_i e; subst e; exact hler
                      · exact .refl _, fun t x h => ⟨x, h, .inl rfl⟩⟩
                    refine post_upd (r := .row o lo (wv + 1) c.size) (b := b) (o := o) hr (by rw [hrole]; rfl) (by rw [hobj]; simp) (by simp) (fun b' hb' => setRow_other w b b' _ hb') (setRow_heap w b c _ e0 (0, 0) hheap)
                      rfl rfl rfl (fun b' => rfl) hler (fun t _ => rfl) (fun x hx => ⟨x, hx, .inl rfl⟩) (fun h => h) (fun h => absurd rfl h) (fun o' v n h => ?_) (fun v n h => ?_) ?_
                    · rcases h with ⟨_, _, h, _⟩ | ⟨_, _, _, h, _⟩ <;> cases h
                      exact ⟨_, e0, rfl, by simp only [List.size_toArray]; rw [hC]⟩
                    · rcases h with ⟨_, _, h, h1, h2⟩ | ⟨_, _, _, h, _⟩ <;> cases h
                      rcases Nat.lt_or_ge v (wv + 1) with hv | hv
                      · exact .inl ⟨c.size, .inl ⟨lo, wv, hrole, h1, by omega⟩⟩
                      · refine .inr (fun b' n' hh => ?_)
                        have := hmax b' v n' hh
                        omega
                    · refine ⟨b, _, e0, lo, by simp only [List.size_toArray, if_true]; rw [hC], by omega, setRow_heap w b c _ e0 (0, 0) hheap, by simp only [List.size_toArray]; rw [hC, hl1]; exact hfit, ?_, fun b' v' n' hh => ?_⟩
                      · refine CRel.mono (Γ' := ⟨fun b' => if b' = b then .row o lo (wv + 1) c.size else Γ.role b', Γ.tok⟩) hle' ?_
                        show CRel Γ _ ((c.toList.take (len * ie.size) ++ (gs.flatMap fun u => u.cells.toList) ++ c.toList.drop (len * ie.size + (gs.flatMap fun u => u.cells.toList).length)).take _)
                        rw [← hcr.len, List.take_left]
                        exact hcr
                      · simp only at hh
                        split at hh
                        · rcases hh with ⟨_, _, h, h1, h2⟩ | ⟨_, _, _, h, _⟩ <;> cases h
                          exact h2
                        · have := hmax b' v' n' hh; omega
                  exact ⟨_, _, _, hrun, .ms (.inl ⟨lo, wv + 1, if_pos rfl, by omega, Nat.le_refl _⟩) (fun _ => rfl) (fun _ => ⟨rfl, hn0⟩) hroom, hp⟩
                · have holl : (c.toList.take (len * ie.size)).length = len * ie.size := by simp; omega
                  have hold : ∀ W : World, W.heap = w.heap → (Builtin.firstCells ie.size len (.slice (some ⟨b, 0, none⟩) len cap)).run P W = .ok (c.toList.take (len * ie.size)).toArray W := fun W hW => by
                    have := run_loadCells_list (P := P) W ⟨b, 0, none⟩ (c.toList.take (len * ie.size)) (fun j v hj => by
                      rw [addr_add, Nat.zero_add]
                      rw [List.getElem?_take] at hj
                      split at hj
                      · simp [World.cell?, hW, hheap]; simpa using hj
                      · cases hj)
                    rw [holl] at this
                    simp [Builtin.firstCells, this]
                  obtain ⟨cap', c', w', hrun, hheap', hos, htape, hout, hcs', hcap', rest, hcc⟩ := grown hT (m := m) (ty := ty) hie ht hxt hD hz0 hel hold holl (by omega) hb.1 hb.2
                  have hfit : len * ie.size + ys.length * ie.size ≤ c'.size := by rw [← Nat.add_mul, hcs']; exact Nat.mul_le_mul_right _ hcap'
                  have hp : Post Γ m w ⟨fun b' => if b' = w.heap.size then .row o (wv + 1) (wv + 1) c'.size else Γ.role b', Γ.tok⟩ (m.set o (.row (cs.take (len * ie.size) ++ zs) (wv + 1))) w' := by
                    refine post_move (r := .row o (wv + 1) (wv + 1) c'.size) (o := o) hr (by rw [hobj]; simp) hheap' hos htape hout (fun b' => rfl) rfl (fun t _ => rfl) (fun x hx => ⟨x, hx, .inl rfl⟩) (fun h => h) (fun h => absurd rfl h)
                      (fun o' v n h => ?_) (fun v n h b' n' hh => ?_) (fun o h => by cases h) ?_
                    · rcases h with ⟨_, _, h, _⟩ | ⟨_, _, _, h, _⟩ <;> cases h
                      exact ⟨c', e, rfl, rfl⟩
                    · rcases h with ⟨_, _, h, h1, h2⟩ | ⟨_, _, _, h, _⟩ <;> cases h
                      have := hmax b' v n' hh
                      omega
                    · refine ⟨w.heap.size, c', e, wv + 1, if_pos rfl, Nat.le_refl _, by rw [hheap']; simp, by rw [hl1]; exact hfit, ?_, fun b' v' n' hh => ?_⟩
                      · refine CRel.mono (Γ' := ⟨fun b' => if b' = w.heap.size then .row o (wv + 1) (wv + 1) c'.size else Γ.role b', Γ.tok⟩) (le_new hr (.row o (wv + 1) (wv + 1) c'.size) (fun b => rfl) (fun t x h => h)) ?_
                        rw [hcc, ← hcr.len, List.take_left]
                        exact hcr
                      · simp only at hh
                        split at hh
                        · rcases hh with ⟨_, _, h, h1, h2⟩ | ⟨_, _, _, h, _⟩ <;> cases h
                          exact h2
                        · have := hmax b' v' n' hh; omega
                  exact ⟨_, w', _, hrun, .ms (.inl ⟨wv + 1, wv + 1, if_pos rfl, Nat.le_refl _, Nat.le_refl _⟩) (fun _ => rfl) (fun _ => ⟨rfl, hcs'.symm⟩) hcap', hp⟩
          · cases h
  · cases h
theorem aAppend_run {Γ : Gh} {m m' : Mem} {w : World} (hr : Rel Γ m w) {st xt ty : TypeId} {s x v : AV} {s' x' : Value} {md : Nat} (h : aAppend T md m st xt s x = some (v, m')) (hs : VRel Γ s s') (hx : VRel Γ x x')
    (hf : Fresh Γ m.next m'.next) : OpPost P Γ m w (Builtin.append_ #[st, xt] ty #[s', x']) v m' := by
  unfold aAppend at h
  split at h
  · cases h
  · rename_i e d hnint hst hxt
    obtain ⟨D, hD, hu, hk⟩ := run_underlying_T hT hst w
    cases D <;> first | (simp [dOk] at hk; done) | skip
    simp only [dOk, beq_iff_eq] at hk
    subst hk
    obtain ⟨DX, hDX, huX, hkX⟩ := run_underlying_T hT hxt w
    simp only [Option.bind_eq_some_iff] at h
    obtain ⟨ie, hie, ys, hys, h⟩ := h
    split at h
    · cases h
    · rename_i hc
      simp only [not_or, Bool.not_eq_false] at hc
      obtain ⟨gs, hel⟩ := aElems_run (P := P) hr hie hys hx hc.2.1 hc.1
      refine aAppend2_run hT hr hie hu huX (fun k e => ?_) hc.2.2 hc.1 hel h hs hf
      subst e
      cases d <;> simp [dOk] at hkX
      exact hnint _ rfl
  · cases h
end
end Go.AM
