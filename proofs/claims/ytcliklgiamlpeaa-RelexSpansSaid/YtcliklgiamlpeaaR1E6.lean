/-
  A part of the proof: equations or tables of the program over the abstract machine, printed by a program of this proof's own.
-/
import Derived.Test.YtcliklgiamlpeaaR1Ctx
namespace Go.AM
open Go.Proofs
set_option maxRecDepth 100000
set_option linter.unusedVariables false

/-! ### parlance/lex.one -/
noncomputable def c_lex_one : Code := bodyOf Try.f32
noncomputable def N_lex_one : AAct → Mem → Option (AOut × Mem) := finK X.T Try.f32.results.toList .normal
noncomputable def P_lex_one : AExit → AAct → Mem → Option (AOut × Mem) := finK X.T Try.f32.results.toList
noncomputable def K_lex_one_0 : AAct → Mem → Option (AOut × Mem) := execF X F_lex_one 0 (sR (sR (sR c_lex_one))) N_lex_one P_lex_one
noncomputable def B_lex_one_0 : AExit → AAct → Mem → Option (AOut × Mem) := blockX 0 K_lex_one_0 P_lex_one
noncomputable def K_lex_one_1 : AAct → Mem → Option (AOut × Mem) := execF X F_lex_one 0 (sR (sB (sL (sR (sR c_lex_one))))) K_lex_one_0 B_lex_one_0
noncomputable def K_lex_one_2 : AAct → Mem → Option (AOut × Mem) := execF X F_lex_one 0 (sR (sR (sR (sR c_lex_one)))) N_lex_one P_lex_one
noncomputable def B_lex_one_1 : AExit → AAct → Mem → Option (AOut × Mem) := blockX 1 K_lex_one_2 P_lex_one
noncomputable def L_lex_one_1 : AAct → Mem → Option (AOut × Mem) := fun a m => killF (X.lk F_lex_one 1) a.tmps fun l => loopK X F_lex_one 1 (sB (sB (sR (sL (sR (sR (sR c_lex_one))))))) B_lex_one_1 ⟨l, a.defers⟩ m
noncomputable def K_lex_one_3 : AAct → Mem → Option (AOut × Mem) := execF X F_lex_one 0 (sR (sR (sR (sR (sR (sB (sL (sR (sR c_lex_one))))))))) K_lex_one_0 B_lex_one_0
noncomputable def K_lex_one_4 : AAct → Mem → Option (AOut × Mem) := execF X F_lex_one 1 (sR (sR (sB (sB (sR (sL (sR (sR (sR c_lex_one))))))))) L_lex_one_1 B_lex_one_1
noncomputable def K_lex_one_5 : AAct → Mem → Option (AOut × Mem) := execF X F_lex_one 1 (sR (sR (sR (sB (sB (sR (sL (sR (sR (sR c_lex_one)))))))))) L_lex_one_1 B_lex_one_1
noncomputable def B_lex_one_2 : AExit → AAct → Mem → Option (AOut × Mem) := blockX 2 K_lex_one_5 B_lex_one_1
noncomputable def k_lex_one_0 (v0 : AV) (m : Mem) : Option (AOut × Mem) := K_lex_one_0 ⟨[v0, Q, Q, Q, Q, Q, Q, Q, Q, Q, Q, Q, Q, Q, Q, Q, Q, Q, Q, Q, Q, Q, Q, Q, Q, Q, Q, Q, Q, Q, Q, Q, Q, Q, Q, Q, Q, Q, Q, Q, Q, Q, Q, Q, Q, Q, Q, Q, Q, Q, Q, Q, Q, Q, Q, Q, Q, Q, Q, Q], []⟩ m
noncomputable def k_lex_one_1 (v0 v4 v10 : AV) (m : Mem) : Option (AOut × Mem) := K_lex_one_1 ⟨[v0, Q, Q, Q, v4, Q, Q, Q, Q, Q, v10, Q, Q, Q, Q, Q, Q, Q, Q, Q, Q, Q, Q, Q, Q, Q, Q, Q, Q, Q, Q, Q, Q, Q, Q, Q, Q, Q, Q, Q, Q, Q, Q, Q, Q, Q, Q, Q, Q, Q, Q, Q, Q, Q, Q, Q, Q, Q, Q, Q], []⟩ m
noncomputable def k_lex_one_2 (v0 v48 v49 v50 : AV) (m : Mem) : Option (AOut × Mem) := K_lex_one_2 ⟨[v0, Q, Q, Q, Q, Q, Q, Q, Q, Q, Q, Q, Q, Q, Q, Q, Q, Q, Q, Q, Q, Q, Q, Q, Q, Q, Q, Q, Q, Q, Q, Q, Q, Q, Q, Q, Q, Q, Q, Q, Q, Q, Q, Q, Q, Q, Q, Q, v48, v49, v50, Q, Q, Q, Q, Q, Q, Q, Q, Q], []⟩ m
noncomputable def l_lex_one_1 (v0 v48 v49 v50 : AV) (m : Mem) : Option (AOut × Mem) := L_lex_one_1 ⟨[v0, Q, Q, Q, Q, Q, Q, Q, Q, Q, Q, Q, Q, Q, Q, Q, Q, Q, Q, Q, Q, Q, Q, Q, Q, Q, Q, Q, Q, Q, Q, Q, Q, Q, Q, Q, Q, Q, Q, Q, Q, Q, Q, Q, Q, Q, Q, Q, v48, v49, v50, Q, Q, Q, Q, Q, Q, Q, Q, Q], []⟩ m
noncomputable def k_lex_one_3 (v0 v33 : AV) (m : Mem) : Option (AOut × Mem) := K_lex_one_3 ⟨[v0, Q, Q, Q, Q, Q, Q, Q, Q, Q, Q, Q, Q, Q, Q, Q, Q, Q, Q, Q, Q, Q, Q, Q, Q, Q, Q, Q, Q, Q, Q, Q, Q, v33, Q, Q, Q, Q, Q, Q, Q, Q, Q, Q, Q, Q, Q, Q, Q, Q, Q, Q, Q, Q, Q, Q, Q, Q, Q, Q], []⟩ m
noncomputable def k_lex_one_4 (v0 v48 v49 v50 : AV) (m : Mem) : Option (AOut × Mem) := K_lex_one_4 ⟨[v0, Q, Q, Q, Q, Q, Q, Q, Q, Q, Q, Q, Q, Q, Q, Q, Q, Q, Q, Q, Q, Q, Q, Q, Q, Q, Q, Q, Q, Q, Q, Q, Q, Q, Q, Q, Q, Q, Q, Q, Q, Q, Q, Q, Q, Q, Q, Q, v48, v49, v50, Q, Q, Q, Q, Q, Q, Q, Q, Q], []⟩ m
noncomputable def k_lex_one_5 (v0 v7 v48 v49 v50 : AV) (m : Mem) : Option (AOut × Mem) := K_lex_one_5 ⟨[v0, Q, Q, Q, Q, Q, Q, v7, Q, Q, Q, Q, Q, Q, Q, Q, Q, Q, Q, Q, Q, Q, Q, Q, Q, Q, Q, Q, Q, Q, Q, Q, Q, Q, Q, Q, Q, Q, Q, Q, Q, Q, Q, Q, Q, Q, Q, Q, v48, v49, v50, Q, Q, Q, Q, Q, Q, Q, Q, Q], []⟩ m
theorem e_lex_one (v0 : AV) (m : Mem) : w_lex_one v0 m =
  bnd (rIxStr v0 (.int .i64 0)) fun v9 =>
  bnd (aBin X.T .eql T_uint8 false true v9 (.int .u8 95)) fun v12 =>
  onWant v12
    (k_lex_one_1 v0 v9 (.bool true) m)
    (retK (w_lex_has (.str (bs [97, 98, 99, 100, 101, 102, 103, 104, 105, 106, 107, 108, 109, 110, 111, 112, 113, 114, 115, 116, 117, 118, 119, 120, 121, 122])) v9 m) (fun v15 m1 =>
  onWant v15
    (k_lex_one_1 v0 v9 (.bool true) m1)
    (retK (w_lex_has (.str (bs [65, 66, 67, 68, 69, 70, 71, 72, 73, 74, 75, 76, 77, 78, 79, 80, 81, 82, 83, 84, 85, 86, 87, 88, 89, 90])) v9 m1) (fun v19 m2 =>
  k_lex_one_1 v0 v9 v19 m2) (fun u m2 => some (.pan u, m2)))
    (none)) (fun u m1 => some (.pan u, m1)))
    (none) := (aW_F (c := c_lex_one) (fn := Try.f32) (by kernel_rfl) (by kernel_rfl) (by kernel_rfl) _ m).trans (by kernel_rfl)
theorem k_lex_one_0_eq (v0 : AV) (m : Mem) : k_lex_one_0 v0 m =
  retK (w_lex_signs m) (fun v48 m1 =>
  bnd (rLenSl v48) fun v49 =>
  l_lex_one_1 v0 v48 v49 (.int .i64 0) m1) (fun u m1 => some (.pan u, m1)) := by kernel_rfl
theorem k_lex_one_1_eq (v0 v4 v10 : AV) (m : Mem) : k_lex_one_1 v0 v4 v10 m =
  onBool v10
    (retK (w_lex_run v0 (.int .i64 1) (.str (bs ([97, 98, 99, 100, 101, 102, 103, 104, 105, 106, 107, 108, 109, 110, 111, 112, 113, 114, 115, 116, 117, 118, 119, 120, 121, 122, 65, 66, 67, 68] ++ [69, 70, 71, 72, 73, 74, 75, 76, 77, 78, 79, 80, 81, 82, 83, 84, 85, 86, 87, 88, 89, 90, 48, 49, 50, 51, 52, 53, 54, 55] ++ [56, 57, 95, 39]))) m) (fun v22 m1 =>
    bnd (rSliceStr v0 none (some v22)) fun v25 =>
    retK (w_lex_named v25 m1) (fun v26 m2 =>
    some (.ret (.tup [v26, v22]), m2)) (fun u m2 => some (.pan u, m2))) (fun u m1 => some (.pan u, m1)))
    (retK (w_lex_has (.str (bs [48, 49, 50, 51, 52, 53, 54, 55, 56, 57])) v4 m) (fun v30 m1 =>
    onBool v30
      (retK (w_lex_run v0 (.int .i64 1) (.str (bs [48, 49, 50, 51, 52, 53, 54, 55, 56, 57])) m1) (fun v32 m2 =>
      some (.ret (.tup [(.int .i64 3), v32]), m2)) (fun u m2 => some (.pan u, m2)))
      (bnd (aBin X.T .eql T_uint8 false true v4 (.int .u8 39)) fun v35 =>
      onWant v35
        (bnd (rLenStr v0) fun v38 =>
      bnd (aBin X.T .gtr T_int false true v38 (.int .i64 1)) fun v39 =>
      onWant v39
        (bnd (rIxStr v0 (.int .i64 1)) fun v43 =>
      retK (w_lex_has (.str (bs [97, 98, 99, 100, 101, 102, 103, 104, 105, 106, 107, 108, 109, 110, 111, 112, 113, 114, 115, 116, 117, 118, 119, 120, 121, 122])) v43 m1) (fun v44 m2 =>
      k_lex_one_3 v0 v44 m2) (fun u m2 => some (.pan u, m2)))
        (k_lex_one_3 v0 (.bool false) m1)
        (none))
        (k_lex_one_3 v0 (.bool false) m1)
        (none))) (fun u m1 => some (.pan u, m1))) := by kernel_rfl
theorem k_lex_one_2_eq (v0 v48 v49 v50 : AV) (m : Mem) : k_lex_one_2 v0 v48 v49 v50 m =
  some (.ret (.tup [(.int .i64 0), (.int .i64 0)]), m) := by kernel_rfl
theorem l_lex_one_1_u (v0 v48 v49 v50 : AV) (m : Mem) : l_lex_one_1 v0 v48 v49 v50 m = loopK X F_lex_one 1 (sB (sB (sR (sL (sR (sR (sR c_lex_one))))))) B_lex_one_1 ⟨[v0, Q, Q, Q, Q, Q, Q, Q, Q, Q, Q, Q, Q, Q, Q, Q, Q, Q, Q, Q, Q, Q, Q, Q, Q, Q, Q, Q, Q, Q, Q, Q, Q, Q, Q, Q, Q, Q, Q, Q, Q, Q, Q, Q, Q, Q, Q, Q, v48, v49, v50, Q, Q, Q, Q, Q, Q, Q, Q, Q], []⟩ m := by kernel_rfl
theorem l_lex_one_1_r (v0 v48 v49 v50 : AV) (m : Mem) : roundF X F_lex_one 1 (sB (sB (sR (sL (sR (sR (sR c_lex_one))))))) B_lex_one_1 [v0, Q, Q, Q, Q, Q, Q, Q, Q, Q, Q, Q, Q, Q, Q, Q, Q, Q, Q, Q, Q, Q, Q, Q, Q, Q, Q, Q, Q, Q, Q, Q, Q, Q, Q, Q, Q, Q, Q, Q, Q, Q, Q, Q, Q, Q, Q, Q, v48, v49, v50, Q, Q, Q, Q, Q, Q, Q, Q, Q] m =
  bnd (aBin X.T .lss T_int false false v50 v49) fun v51 =>
  onBool v51
    (k_lex_one_4 v0 v48 v49 v50 m)
    (k_lex_one_2 v0 v48 v49 v50 m) := by kernel_rfl
theorem l_lex_one_1_eq (v0 v48 v49 v50 : AV) (m : Mem) : l_lex_one_1 v0 v48 v49 v50 m =
  bnd (aBin X.T .lss T_int false false v50 v49) fun v51 =>
  onBool v51
    (k_lex_one_4 v0 v48 v49 v50 m)
    (k_lex_one_2 v0 v48 v49 v50 m) := roundF_of (l_lex_one_1_u v0 v48 v49 v50 m) (l_lex_one_1_r v0 v48 v49 v50 m)
theorem k_lex_one_3_eq (v0 v33 : AV) (m : Mem) : k_lex_one_3 v0 v33 m =
  onBool v33
    (retK (w_lex_run v0 (.int .i64 1) (.str (bs ([97, 98, 99, 100, 101, 102, 103, 104, 105, 106, 107, 108, 109, 110, 111, 112, 113, 114, 115, 116, 117, 118, 119, 120, 121, 122, 65, 66, 67, 68] ++ [69, 70, 71, 72, 73, 74, 75, 76, 77, 78, 79, 80, 81, 82, 83, 84, 85, 86, 87, 88, 89, 90, 48, 49, 50, 51, 52, 53, 54, 55] ++ [56, 57, 95]))) m) (fun v47 m1 =>
    some (.ret (.tup [(.int .i64 4), v47]), m1)) (fun u m1 => some (.pan u, m1)))
    (k_lex_one_0 v0 m) := by kernel_rfl
theorem k_lex_one_4_eq (v0 v48 v49 v50 : AV) (m : Mem) : k_lex_one_4 v0 v48 v49 v50 m =
  bnd (rIxAddrSl 1 v48 v50) fun v52 =>
  bnd (rLoad false 1 m v52) fun v53 =>
  retK (w_strings_HasPrefix v0 v53 m) (fun v56 m1 =>
  onBool v56
    (bnd (rLenStr v53) fun v58 =>
    some (.ret (.tup [(.int .i64 6), v58]), m1))
    (k_lex_one_5 v0 v53 v48 v49 v50 m1)) (fun u m1 => some (.pan u, m1)) := by kernel_rfl
theorem k_lex_one_5_eq (v0 v7 v48 v49 v50 : AV) (m : Mem) : k_lex_one_5 v0 v7 v48 v49 v50 m =
  bnd (aBin X.T .add T_int false true v50 (.int .i64 1)) fun v59 =>
  l_lex_one_1 v0 v48 v49 v59 m := by kernel_rfl

/-! ### parlance/lex.nothing -/
noncomputable def c_lex_nothing : Code := bodyOf Try.f33
noncomputable def N_lex_nothing : AAct → Mem → Option (AOut × Mem) := finK X.T Try.f33.results.toList .normal
noncomputable def P_lex_nothing : AExit → AAct → Mem → Option (AOut × Mem) := finK X.T Try.f33.results.toList
noncomputable def K_lex_nothing_0 : AAct → Mem → Option (AOut × Mem) := execF X F_lex_nothing 0 (sR (sR c_lex_nothing)) N_lex_nothing P_lex_nothing
noncomputable def B_lex_nothing_0 : AExit → AAct → Mem → Option (AOut × Mem) := blockX 0 K_lex_nothing_0 P_lex_nothing
noncomputable def L_lex_nothing_0 : AAct → Mem → Option (AOut × Mem) := fun a m => killF (X.lk F_lex_nothing 0) a.tmps fun l => loopK X F_lex_nothing 0 (sB (sB (sR (sL (sR c_lex_nothing))))) B_lex_nothing_0 ⟨l, a.defers⟩ m
noncomputable def K_lex_nothing_1 : AAct → Mem → Option (AOut × Mem) := execF X F_lex_nothing 0 (sR (sB (sB (sR (sL (sR c_lex_nothing)))))) L_lex_nothing_0 B_lex_nothing_0
noncomputable def K_lex_nothing_2 : AAct → Mem → Option (AOut × Mem) := execF X F_lex_nothing 0 (sR (sR (sB (sB (sR (sL (sR c_lex_nothing))))))) L_lex_nothing_0 B_lex_nothing_0
noncomputable def B_lex_nothing_1 : AExit → AAct → Mem → Option (AOut × Mem) := blockX 1 K_lex_nothing_2 B_lex_nothing_0
noncomputable def K_lex_nothing_3 : AAct → Mem → Option (AOut × Mem) := execF X F_lex_nothing 1 (sR (sR (sB (sL (sR (sB (sB (sR (sL (sR c_lex_nothing)))))))))) K_lex_nothing_2 B_lex_nothing_1
noncomputable def k_lex_nothing_0 (v0 v3 : AV) (m : Mem) : Option (AOut × Mem) := K_lex_nothing_0 ⟨[v0, Q, Q, v3, Q, Q, Q, Q, Q, Q, Q, Q, Q, Q, Q, Q, Q, Q, Q, Q, Q, Q, Q, Q, Q, Q, Q, Q, Q, Q], []⟩ m
noncomputable def l_lex_nothing_0 (v0 v3 : AV) (m : Mem) : Option (AOut × Mem) := L_lex_nothing_0 ⟨[v0, Q, Q, v3, Q, Q, Q, Q, Q, Q, Q, Q, Q, Q, Q, Q, Q, Q, Q, Q, Q, Q, Q, Q, Q, Q, Q, Q, Q, Q], []⟩ m
noncomputable def k_lex_nothing_1 (v0 v3 : AV) (m : Mem) : Option (AOut × Mem) := K_lex_nothing_1 ⟨[v0, Q, Q, v3, Q, Q, Q, Q, Q, Q, Q, Q, Q, Q, Q, Q, Q, Q, Q, Q, Q, Q, Q, Q, Q, Q, Q, Q, Q, Q], []⟩ m
noncomputable def k_lex_nothing_2 (v0 v3 : AV) (m : Mem) : Option (AOut × Mem) := K_lex_nothing_2 ⟨[v0, Q, Q, v3, Q, Q, Q, Q, Q, Q, Q, Q, Q, Q, Q, Q, Q, Q, Q, Q, Q, Q, Q, Q, Q, Q, Q, Q, Q, Q], []⟩ m
noncomputable def k_lex_nothing_3 (v0 v3 v26 : AV) (m : Mem) : Option (AOut × Mem) := K_lex_nothing_3 ⟨[v0, Q, Q, v3, Q, Q, Q, Q, Q, Q, Q, Q, Q, Q, Q, Q, Q, Q, Q, Q, Q, Q, Q, Q, Q, Q, v26, Q, Q, Q], []⟩ m
theorem e_lex_nothing (v0 : AV) (m : Mem) : w_lex_nothing v0 m =
  l_lex_nothing_0 v0 (.int .i64 1) m := (aW_F (c := c_lex_nothing) (fn := Try.f33) (by kernel_rfl) (by kernel_rfl) (by kernel_rfl) _ m).trans (by kernel_rfl)
theorem k_lex_nothing_0_eq (v0 v3 : AV) (m : Mem) : k_lex_nothing_0 v0 v3 m =
  bnd (rLenStr v0) fun v29 =>
  some (.ret v29, m) := by kernel_rfl
theorem l_lex_nothing_0_u (v0 v3 : AV) (m : Mem) : l_lex_nothing_0 v0 v3 m = loopK X F_lex_nothing 0 (sB (sB (sR (sL (sR c_lex_nothing))))) B_lex_nothing_0 ⟨[v0, Q, Q, v3, Q, Q, Q, Q, Q, Q, Q, Q, Q, Q, Q, Q, Q, Q, Q, Q, Q, Q, Q, Q, Q, Q, Q, Q, Q, Q], []⟩ m := by kernel_rfl
theorem l_lex_nothing_0_r (v0 v3 : AV) (m : Mem) : roundF X F_lex_nothing 0 (sB (sB (sR (sL (sR c_lex_nothing))))) B_lex_nothing_0 [v0, Q, Q, v3, Q, Q, Q, Q, Q, Q, Q, Q, Q, Q, Q, Q, Q, Q, Q, Q, Q, Q, Q, Q, Q, Q, Q, Q, Q, Q] m =
  bnd (rLenStr v0) fun v8 =>
  bnd (aBin X.T .lss T_int false false v3 v8) fun v9 =>
  onBool v9
    (k_lex_nothing_1 v0 v3 m)
    (k_lex_nothing_0 v0 v3 m) := by kernel_rfl
theorem l_lex_nothing_0_eq (v0 v3 : AV) (m : Mem) : l_lex_nothing_0 v0 v3 m =
  bnd (rLenStr v0) fun v8 =>
  bnd (aBin X.T .lss T_int false false v3 v8) fun v9 =>
  onBool v9
    (k_lex_nothing_1 v0 v3 m)
    (k_lex_nothing_0 v0 v3 m) := roundF_of (l_lex_nothing_0_u v0 v3 m) (l_lex_nothing_0_r v0 v3 m)
theorem k_lex_nothing_1_eq (v0 v3 : AV) (m : Mem) : k_lex_nothing_1 v0 v3 m =
  bnd (rSliceStr v0 (some v3) none) fun v15 =>
  retK (w_lex_one v15 m) (fun v16 m1 =>
  bnd (aExtract v16 0) fun v17 =>
  bnd (aExtract v16 1) fun v18 =>
  bnd (aBin X.T .neq T_int false true v17 (.int .i64 0)) fun v20 =>
  onWant v20
    (k_lex_nothing_3 v0 v3 (.bool true) m1)
    (bnd (rIxStr v0 v3) fun v24 =>
  retK (w_lex_has (.str (bs [32, 9, 10, 13])) v24 m1) (fun v25 m2 =>
  k_lex_nothing_3 v0 v3 v25 m2) (fun u m2 => some (.pan u, m2)))
    (none)) (fun u m1 => some (.pan u, m1)) := by kernel_rfl
theorem k_lex_nothing_2_eq (v0 v3 : AV) (m : Mem) : k_lex_nothing_2 v0 v3 m =
  bnd (aBin X.T .add T_int false true v3 (.int .i64 1)) fun v11 =>
  l_lex_nothing_0 v0 v11 m := by kernel_rfl
theorem k_lex_nothing_3_eq (v0 v3 v26 : AV) (m : Mem) : k_lex_nothing_3 v0 v3 v26 m =
  onBool v26
    (some (.ret v3, m))
    (k_lex_nothing_2 v0 v3 m) := by kernel_rfl

/-! ### parlance/parlanceref08.white -/
noncomputable def c_r08_white : Code := bodyOf Try.f34
noncomputable def N_r08_white : AAct → Mem → Option (AOut × Mem) := finK X.T Try.f34.results.toList .normal
noncomputable def P_r08_white : AExit → AAct → Mem → Option (AOut × Mem) := finK X.T Try.f34.results.toList
theorem e_r08_white (v0 : AV) (m : Mem) : w_r08_white v0 m =
  bnd (aBin X.T .eql T_uint8 false true v0 (.int .u8 32)) fun v4 =>
  onWant v4
    (some (.ret (.bool true), m))
    (bnd (aBin X.T .eql T_uint8 false true v0 (.int .u8 9)) fun v7 =>
  onWant v7
    (some (.ret (.bool true), m))
    (bnd (aBin X.T .eql T_uint8 false true v0 (.int .u8 10)) fun v11 =>
  onWant v11
    (some (.ret (.bool true), m))
    (bnd (aBin X.T .eql T_uint8 false true v0 (.int .u8 13)) fun v15 =>
  some (.ret v15, m))
    (none))
    (none))
    (none) := (aW_F (c := c_r08_white) (fn := Try.f34) (by kernel_rfl) (by kernel_rfl) (by kernel_rfl) _ m).trans (by kernel_rfl)

/-! ### parlance/parlanceref08.at -/
noncomputable def c_r08_at : Code := bodyOf Try.f35
noncomputable def N_r08_at : AAct → Mem → Option (AOut × Mem) := finK X.T Try.f35.results.toList .normal
noncomputable def P_r08_at : AExit → AAct → Mem → Option (AOut × Mem) := finK X.T Try.f35.results.toList
theorem e_r08_at (v0 v1 v2 : AV) (m : Mem) : w_r08_at v0 v1 v2 m =
  bnd (rLenStr v2) fun v9 =>
  bnd (aBin X.T .add T_int false false v1 v9) fun v10 =>
  bnd (rLenStr v0) fun v12 =>
  bnd (aBin X.T .leq T_int false false v10 v12) fun v13 =>
  onWant v13
    (bnd (rLenStr v2) fun v19 =>
  bnd (aBin X.T .add T_int false false v1 v19) fun v20 =>
  bnd (rSliceStr v0 (some v1) (some v20)) fun v21 =>
  bnd (aBin X.T .eql T_string false false v21 v2) fun v23 =>
  some (.ret v23, m))
    (some (.ret (.bool false), m))
    (none) := (aW_F (c := c_r08_at) (fn := Try.f35) (by kernel_rfl) (by kernel_rfl) (by kernel_rfl) _ m).trans (by kernel_rfl)

/-! ### parlance/parlanceref08.remark -/
noncomputable def c_r08_remark : Code := bodyOf Try.f36
noncomputable def N_r08_remark : AAct → Mem → Option (AOut × Mem) := finK X.T Try.f36.results.toList .normal
noncomputable def P_r08_remark : AExit → AAct → Mem → Option (AOut × Mem) := finK X.T Try.f36.results.toList
noncomputable def K_r08_remark_0 : AAct → Mem → Option (AOut × Mem) := execF X F_r08_remark 0 (sR (sR (sR c_r08_remark))) N_r08_remark P_r08_remark
noncomputable def B_r08_remark_0 : AExit → AAct → Mem → Option (AOut × Mem) := blockX 0 K_r08_remark_0 P_r08_remark
noncomputable def L_r08_remark_0 : AAct → Mem → Option (AOut × Mem) := fun a m => killF (X.lk F_r08_remark 0) a.tmps fun l => loopK X F_r08_remark 0 (sB (sB (sL (sR (sR c_r08_remark))))) B_r08_remark_0 ⟨l, a.defers⟩ m
noncomputable def K_r08_remark_1 : AAct → Mem → Option (AOut × Mem) := execF X F_r08_remark 0 (sR (sB (sB (sL (sR (sR c_r08_remark)))))) L_r08_remark_0 B_r08_remark_0
noncomputable def B_r08_remark_1 : AExit → AAct → Mem → Option (AOut × Mem) := blockX 1 L_r08_remark_0 B_r08_remark_0
noncomputable def K_r08_remark_2 : AAct → Mem → Option (AOut × Mem) := execF X F_r08_remark 1 (sR (sB (sR (sB (sB (sL (sR (sR c_r08_remark)))))))) L_r08_remark_0 B_r08_remark_1
noncomputable def K_r08_remark_3 : AAct → Mem → Option (AOut × Mem) := execF X F_r08_remark 1 (sR (sR (sB (sR (sB (sB (sL (sR (sR c_r08_remark))))))))) L_r08_remark_0 B_r08_remark_1
noncomputable def k_r08_remark_0 (v0 v1 v5 : AV) (m : Mem) : Option (AOut × Mem) := K_r08_remark_0 ⟨[v0, v1, Q, Q, Q, v5, Q, Q, Q, Q, Q, Q, Q, Q, Q, Q, Q, Q, Q, Q, Q, Q, Q, Q, Q, Q, Q, Q, Q], []⟩ m
noncomputable def l_r08_remark_0 (v0 v1 v5 : AV) (m : Mem) : Option (AOut × Mem) := L_r08_remark_0 ⟨[v0, v1, Q, Q, Q, v5, Q, Q, Q, Q, Q, Q, Q, Q, Q, Q, Q, Q, Q, Q, Q, Q, Q, Q, Q, Q, Q, Q, Q], []⟩ m
noncomputable def k_r08_remark_1 (v0 v1 v5 : AV) (m : Mem) : Option (AOut × Mem) := K_r08_remark_1 ⟨[v0, v1, Q, Q, Q, v5, Q, Q, Q, Q, Q, Q, Q, Q, Q, Q, Q, Q, Q, Q, Q, Q, Q, Q, Q, Q, Q, Q, Q], []⟩ m
noncomputable def k_r08_remark_2 (v0 v1 v5 : AV) (m : Mem) : Option (AOut × Mem) := K_r08_remark_2 ⟨[v0, v1, Q, Q, Q, v5, Q, Q, Q, Q, Q, Q, Q, Q, Q, Q, Q, Q, Q, Q, Q, Q, Q, Q, Q, Q, Q, Q, Q], []⟩ m
noncomputable def k_r08_remark_3 (v0 v1 v5 : AV) (m : Mem) : Option (AOut × Mem) := K_r08_remark_3 ⟨[v0, v1, Q, Q, Q, v5, Q, Q, Q, Q, Q, Q, Q, Q, Q, Q, Q, Q, Q, Q, Q, Q, Q, Q, Q, Q, Q, Q, Q], []⟩ m
theorem e_r08_remark (v0 v1 : AV) (m : Mem) : w_r08_remark v0 v1 m =
  l_r08_remark_0 v0 v1 (.int .i64 0) m := (aW_F (c := c_r08_remark) (fn := Try.f36) (by kernel_rfl) (by kernel_rfl) (by kernel_rfl) _ m).trans (by kernel_rfl)
theorem k_r08_remark_0_eq (v0 v1 v5 : AV) (m : Mem) : k_r08_remark_0 v0 v1 v5 m =
  some (.ret (.int .i64 0), m) := by kernel_rfl
theorem l_r08_remark_0_u (v0 v1 v5 : AV) (m : Mem) : l_r08_remark_0 v0 v1 v5 m = loopK X F_r08_remark 0 (sB (sB (sL (sR (sR c_r08_remark))))) B_r08_remark_0 ⟨[v0, v1, Q, Q, Q, v5, Q, Q, Q, Q, Q, Q, Q, Q, Q, Q, Q, Q, Q, Q, Q, Q, Q, Q, Q, Q, Q, Q, Q], []⟩ m := by kernel_rfl
theorem l_r08_remark_0_r (v0 v1 v5 : AV) (m : Mem) : roundF X F_r08_remark 0 (sB (sB (sL (sR (sR c_r08_remark))))) B_r08_remark_0 [v0, v1, Q, Q, Q, v5, Q, Q, Q, Q, Q, Q, Q, Q, Q, Q, Q, Q, Q, Q, Q, Q, Q, Q, Q, Q, Q, Q, Q] m =
  bnd (rLenStr v0) fun v8 =>
  bnd (aBin X.T .lss T_int false false v1 v8) fun v9 =>
  onBool v9
    (k_r08_remark_1 v0 v1 v5 m)
    (k_r08_remark_0 v0 v1 v5 m) := by kernel_rfl
theorem l_r08_remark_0_eq (v0 v1 v5 : AV) (m : Mem) : l_r08_remark_0 v0 v1 v5 m =
  bnd (rLenStr v0) fun v8 =>
  bnd (aBin X.T .lss T_int false false v1 v8) fun v9 =>
  onBool v9
    (k_r08_remark_1 v0 v1 v5 m)
    (k_r08_remark_0 v0 v1 v5 m) := roundF_of (l_r08_remark_0_u v0 v1 v5 m) (l_r08_remark_0_r v0 v1 v5 m)
theorem k_r08_remark_1_eq (v0 v1 v5 : AV) (m : Mem) : k_r08_remark_1 v0 v1 v5 m =
  retK (w_r08_at v0 v1 (.str (bs [40, 42])) m) (fun v12 m1 =>
  onBool v12
    (bnd (aBin X.T .add T_int false true v5 (.int .i64 1)) fun v14 =>
    bnd (aBin X.T .add T_int false true v1 (.int .i64 2)) fun v16 =>
    l_r08_remark_0 v0 v16 v14 m1)
    (k_r08_remark_2 v0 v1 v5 m1)) (fun u m1 => some (.pan u, m1)) := by kernel_rfl
theorem k_r08_remark_2_eq (v0 v1 v5 : AV) (m : Mem) : k_r08_remark_2 v0 v1 v5 m =
  retK (w_r08_at v0 v1 (.str (bs [42, 41])) m) (fun v19 m1 =>
  onBool v19
    (bnd (aBin X.T .sub T_int false true v5 (.int .i64 1)) fun v21 =>
    bnd (aBin X.T .add T_int false true v1 (.int .i64 2)) fun v23 =>
    bnd (aBin X.T .eql T_int false true v21 (.int .i64 0)) fun v25 =>
    onBool v25
      (some (.ret v23, m1))
      (l_r08_remark_0 v0 v23 v21 m1))
    (k_r08_remark_3 v0 v1 v5 m1)) (fun u m1 => some (.pan u, m1)) := by kernel_rfl
theorem k_r08_remark_3_eq (v0 v1 v5 : AV) (m : Mem) : k_r08_remark_3 v0 v1 v5 m =
  bnd (aBin X.T .add T_int false true v1 (.int .i64 1)) fun v28 =>
  l_r08_remark_0 v0 v28 v5 m := by kernel_rfl

end Go.AM
