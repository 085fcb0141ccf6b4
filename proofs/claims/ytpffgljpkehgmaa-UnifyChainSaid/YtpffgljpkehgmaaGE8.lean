/-
  A part of the proof: equations or tables of the program over the abstract machine, printed by a program of this proof's own.
-/
import Derived.Test.YtpffgljpkehgmaaGCtx
set_option linter.unusedVariables false
set_option linter.unusedSimpArgs false
namespace Go.AM
open Go.Proofs
set_option maxRecDepth 100000
set_option linter.unusedVariables false
noncomputable def c_f56 : Code := bodyOf Try.f56
noncomputable def N_f56 : AAct → Mem → Option (AOut × Mem) := finK X.T Try.f56.results.toList .normal
noncomputable def P_f56 : AExit → AAct → Mem → Option (AOut × Mem) := finK X.T Try.f56.results.toList
noncomputable def K_f56_0 : AAct → Mem → Option (AOut × Mem) := execF X F_f56 0 (sR (sR c_f56)) N_f56 P_f56
noncomputable def K_f56_1 : AAct → Mem → Option (AOut × Mem) := execF X F_f56 0 (sR (sL (sR (sL (sR c_f56))))) K_f56_0 P_f56
noncomputable def B_f56_0 : AExit → AAct → Mem → Option (AOut × Mem) := blockX 0 K_f56_1 P_f56
noncomputable def L_f56_0 : AAct → Mem → Option (AOut × Mem) := fun a m => killF (X.lk F_f56 0) a.tmps fun l => loopK X F_f56 0 (sB (sB (sR (sL (sL (sR (sL (sR c_f56)))))))) B_f56_0 ⟨l, a.defers⟩ m
noncomputable def K_f56_2 : AAct → Mem → Option (AOut × Mem) := execF X F_f56 0 (sR (sR (sR c_f56))) N_f56 P_f56
noncomputable def B_f56_2 : AExit → AAct → Mem → Option (AOut × Mem) := blockX 2 K_f56_2 P_f56
noncomputable def L_f56_2 : AAct → Mem → Option (AOut × Mem) := fun a m => killF (X.lk F_f56 2) a.tmps fun l => loopK X F_f56 2 (sB (sB (sR (sL (sR (sR c_f56)))))) B_f56_2 ⟨l, a.defers⟩ m
noncomputable def K_f56_3 : AAct → Mem → Option (AOut × Mem) := execF X F_f56 0 (sR (sB (sB (sR (sL (sL (sR (sL (sR c_f56))))))))) L_f56_0 B_f56_0
noncomputable def K_f56_4 : AAct → Mem → Option (AOut × Mem) := execF X F_f56 2 (sR (sB (sB (sR (sL (sR (sR c_f56))))))) L_f56_2 B_f56_2
noncomputable def K_f56_5 : AAct → Mem → Option (AOut × Mem) := execF X F_f56 0 (sR (sR (sB (sB (sR (sL (sL (sR (sL (sR c_f56)))))))))) L_f56_0 B_f56_0
noncomputable def K_f56_6 : AAct → Mem → Option (AOut × Mem) := execF X F_f56 2 (sR (sR (sB (sB (sR (sL (sR (sR c_f56)))))))) L_f56_2 B_f56_2
noncomputable def k_f56_0 (v0 v3 : AV) (m : Mem) : Option (AOut × Mem) := K_f56_0 ⟨[v0, Q, Q, v3, Q, Q, Q, Q, Q, Q, Q, Q, Q, Q, Q, Q, Q, Q, Q, Q, Q, Q, Q, Q, Q, Q, Q, Q, Q, Q, Q, Q, Q, Q, Q, Q, Q, Q, Q, Q, Q, Q, Q, Q], []⟩ m
noncomputable def k_f56_1 (v0 v3 v5 : AV) (m : Mem) : Option (AOut × Mem) := K_f56_1 ⟨[v0, Q, Q, v3, Q, v5, Q, Q, Q, Q, Q, Q, Q, Q, Q, Q, Q, Q, Q, Q, Q, Q, Q, Q, Q, Q, Q, Q, Q, Q, Q, Q, Q, Q, Q, Q, Q, Q, Q, Q, Q, Q, Q, Q], []⟩ m
noncomputable def l_f56_0 (v0 v3 v5 : AV) (m : Mem) : Option (AOut × Mem) := L_f56_0 ⟨[v0, Q, Q, v3, Q, v5, Q, Q, Q, Q, Q, Q, Q, Q, Q, Q, Q, Q, Q, Q, Q, Q, Q, Q, Q, Q, Q, Q, Q, Q, Q, Q, Q, Q, Q, Q, Q, Q, Q, Q, Q, Q, Q, Q], []⟩ m
noncomputable def k_f56_2 (v0 v3 v6 : AV) (m : Mem) : Option (AOut × Mem) := K_f56_2 ⟨[v0, Q, Q, v3, Q, Q, v6, Q, Q, Q, Q, Q, Q, Q, Q, Q, Q, Q, Q, Q, Q, Q, Q, Q, Q, Q, Q, Q, Q, Q, Q, Q, Q, Q, Q, Q, Q, Q, Q, Q, Q, Q, Q, Q], []⟩ m
noncomputable def l_f56_2 (v0 v3 v6 : AV) (m : Mem) : Option (AOut × Mem) := L_f56_2 ⟨[v0, Q, Q, v3, Q, Q, v6, Q, Q, Q, Q, Q, Q, Q, Q, Q, Q, Q, Q, Q, Q, Q, Q, Q, Q, Q, Q, Q, Q, Q, Q, Q, Q, Q, Q, Q, Q, Q, Q, Q, Q, Q, Q, Q], []⟩ m
noncomputable def k_f56_3 (v0 v3 v5 : AV) (m : Mem) : Option (AOut × Mem) := K_f56_3 ⟨[v0, Q, Q, v3, Q, v5, Q, Q, Q, Q, Q, Q, Q, Q, Q, Q, Q, Q, Q, Q, Q, Q, Q, Q, Q, Q, Q, Q, Q, Q, Q, Q, Q, Q, Q, Q, Q, Q, Q, Q, Q, Q, Q, Q], []⟩ m
noncomputable def k_f56_4 (v0 v3 v6 : AV) (m : Mem) : Option (AOut × Mem) := K_f56_4 ⟨[v0, Q, Q, v3, Q, Q, v6, Q, Q, Q, Q, Q, Q, Q, Q, Q, Q, Q, Q, Q, Q, Q, Q, Q, Q, Q, Q, Q, Q, Q, Q, Q, Q, Q, Q, Q, Q, Q, Q, Q, Q, Q, Q, Q], []⟩ m
noncomputable def k_f56_5 (v0 v3 v5 : AV) (m : Mem) : Option (AOut × Mem) := K_f56_5 ⟨[v0, Q, Q, v3, Q, v5, Q, Q, Q, Q, Q, Q, Q, Q, Q, Q, Q, Q, Q, Q, Q, Q, Q, Q, Q, Q, Q, Q, Q, Q, Q, Q, Q, Q, Q, Q, Q, Q, Q, Q, Q, Q, Q, Q], []⟩ m
noncomputable def k_f56_6 (v0 v3 v6 : AV) (m : Mem) : Option (AOut × Mem) := K_f56_6 ⟨[v0, Q, Q, v3, Q, Q, v6, Q, Q, Q, Q, Q, Q, Q, Q, Q, Q, Q, Q, Q, Q, Q, Q, Q, Q, Q, Q, Q, Q, Q, Q, Q, Q, Q, Q, Q, Q, Q, Q, Q, Q, Q, Q, Q], []⟩ m
theorem e_f56 (v0 v1 : AV) (m : Mem) : w_f56 v0 v1 m =
  memK (aBox m v1) fun v3 m1 =>
  bnd (rFieldAddr 0 v3) fun v7 =>
  bnd (rLoad false 1 m1 v7) fun v8 =>
  bnd (aBin X.T .eql T_int false true v8 (.int .i64 1)) fun v9 =>
  onBool v9
    (l_f56_0 v0 v3 (.int .i64 0) m1)
    (k_f56_0 v0 v3 m1) := (aW_F (c := c_f56) (fn := Try.f56) (by kernel_rfl) (by kernel_rfl) (by kernel_rfl) _ m).trans (by kernel_rfl)
theorem k_f56_0_eq (v0 v3 : AV) (m : Mem) : k_f56_0 v0 v3 m =
  l_f56_2 v0 v3 (.int .i64 0) m := by kernel_rfl
theorem k_f56_1_eq (v0 v3 v5 : AV) (m : Mem) : k_f56_1 v0 v3 v5 m =
  bnd (rFieldAddr 1 v3) fun v25 =>
  bnd (rLoad false 1 m v25) fun v26 =>
  bnd (rBuildSlice A_int 1 [(0, v26)]) fun v27 =>
  memK (rAppend A_int 0 m v0 v27) fun v28 m1 =>
  some (.ret v28, m1) := by kernel_rfl
theorem l_f56_0_u (v0 v3 v5 : AV) (m : Mem) : l_f56_0 v0 v3 v5 m = loopK X F_f56 0 (sB (sB (sR (sL (sL (sR (sL (sR c_f56)))))))) B_f56_0 ⟨[v0, Q, Q, v3, Q, v5, Q, Q, Q, Q, Q, Q, Q, Q, Q, Q, Q, Q, Q, Q, Q, Q, Q, Q, Q, Q, Q, Q, Q, Q, Q, Q, Q, Q, Q, Q, Q, Q, Q, Q, Q, Q, Q, Q], []⟩ m := by kernel_rfl
theorem l_f56_0_r (v0 v3 v5 : AV) (m : Mem) : roundF X F_f56 0 (sB (sB (sR (sL (sL (sR (sL (sR c_f56)))))))) B_f56_0 [v0, Q, Q, v3, Q, v5, Q, Q, Q, Q, Q, Q, Q, Q, Q, Q, Q, Q, Q, Q, Q, Q, Q, Q, Q, Q, Q, Q, Q, Q, Q, Q, Q, Q, Q, Q, Q, Q, Q, Q, Q, Q, Q, Q] m =
  bnd (rLenSl v0) fun v12 =>
  bnd (aBin X.T .lss T_int false false v5 v12) fun v13 =>
  onBool v13
    (k_f56_3 v0 v3 v5 m)
    (k_f56_1 v0 v3 v5 m) := by kernel_rfl
theorem l_f56_0_eq (v0 v3 v5 : AV) (m : Mem) : l_f56_0 v0 v3 v5 m =
  bnd (rLenSl v0) fun v12 =>
  bnd (aBin X.T .lss T_int false false v5 v12) fun v13 =>
  onBool v13
    (k_f56_3 v0 v3 v5 m)
    (k_f56_1 v0 v3 v5 m) := roundF_of (l_f56_0_u v0 v3 v5 m) (l_f56_0_r v0 v3 v5 m)
theorem k_f56_2_eq (v0 v3 v6 : AV) (m : Mem) : k_f56_2 v0 v3 v6 m =
  some (.ret v0, m) := by kernel_rfl
theorem l_f56_2_u (v0 v3 v6 : AV) (m : Mem) : l_f56_2 v0 v3 v6 m = loopK X F_f56 2 (sB (sB (sR (sL (sR (sR c_f56)))))) B_f56_2 ⟨[v0, Q, Q, v3, Q, Q, v6, Q, Q, Q, Q, Q, Q, Q, Q, Q, Q, Q, Q, Q, Q, Q, Q, Q, Q, Q, Q, Q, Q, Q, Q, Q, Q, Q, Q, Q, Q, Q, Q, Q, Q, Q, Q, Q], []⟩ m := by kernel_rfl
theorem l_f56_2_r (v0 v3 v6 : AV) (m : Mem) : roundF X F_f56 2 (sB (sB (sR (sL (sR (sR c_f56)))))) B_f56_2 [v0, Q, Q, v3, Q, Q, v6, Q, Q, Q, Q, Q, Q, Q, Q, Q, Q, Q, Q, Q, Q, Q, Q, Q, Q, Q, Q, Q, Q, Q, Q, Q, Q, Q, Q, Q, Q, Q, Q, Q, Q, Q, Q, Q] m =
  bnd (rFieldAddr 3 v3) fun v30 =>
  bnd (rLoad false 1 m v30) fun v31 =>
  bnd (rLenSl v31) fun v32 =>
  bnd (aBin X.T .lss T_int false false v6 v32) fun v33 =>
  onBool v33
    (k_f56_4 v0 v3 v6 m)
    (k_f56_2 v0 v3 v6 m) := by kernel_rfl
theorem l_f56_2_eq (v0 v3 v6 : AV) (m : Mem) : l_f56_2 v0 v3 v6 m =
  bnd (rFieldAddr 3 v3) fun v30 =>
  bnd (rLoad false 1 m v30) fun v31 =>
  bnd (rLenSl v31) fun v32 =>
  bnd (aBin X.T .lss T_int false false v6 v32) fun v33 =>
  onBool v33
    (k_f56_4 v0 v3 v6 m)
    (k_f56_2 v0 v3 v6 m) := roundF_of (l_f56_2_u v0 v3 v6 m) (l_f56_2_r v0 v3 v6 m)
theorem k_f56_3_eq (v0 v3 v5 : AV) (m : Mem) : k_f56_3 v0 v3 v5 m =
  bnd (rIxAddrSl 1 v0 v5) fun v18 =>
  bnd (rLoad false 1 m v18) fun v19 =>
  bnd (rFieldAddr 1 v3) fun v20 =>
  bnd (rLoad false 1 m v20) fun v21 =>
  bnd (aBin X.T .eql T_int false false v19 v21) fun v22 =>
  onBool v22
    (some (.ret v0, m))
    (k_f56_5 v0 v3 v5 m) := by kernel_rfl
theorem k_f56_4_eq (v0 v3 v6 : AV) (m : Mem) : k_f56_4 v0 v3 v6 m =
  bnd (rFieldAddr 3 v3) fun v37 =>
  bnd (rLoad false 1 m v37) fun v38 =>
  bnd (rIxAddrSl 4 v38 v6) fun v40 =>
  bnd (rLoad true 4 m v40) fun v41 =>
  retK (w_f56 v0 v41 m) (fun v42 m1 =>
  k_f56_6 v42 v3 v6 m1) (fun u m1 => some (.pan u, m1)) := by kernel_rfl
theorem k_f56_5_eq (v0 v3 v5 : AV) (m : Mem) : k_f56_5 v0 v3 v5 m =
  bnd (aBin X.T .add T_int false true v5 (.int .i64 1)) fun v15 =>
  l_f56_0 v0 v3 v15 m := by kernel_rfl
theorem k_f56_6_eq (v0 v3 v6 : AV) (m : Mem) : k_f56_6 v0 v3 v6 m =
  bnd (aBin X.T .add T_int false true v6 (.int .i64 1)) fun v35 =>
  l_f56_2 v0 v3 v35 m := by kernel_rfl
noncomputable def c_f57 : Code := bodyOf Try.f57
noncomputable def N_f57 : AAct → Mem → Option (AOut × Mem) := finK X.T Try.f57.results.toList .normal
noncomputable def P_f57 : AExit → AAct → Mem → Option (AOut × Mem) := finK X.T Try.f57.results.toList
noncomputable def K_f57_0 : AAct → Mem → Option (AOut × Mem) := execF X F_f57 0 (sR (sR c_f57)) N_f57 P_f57
noncomputable def K_f57_1 : AAct → Mem → Option (AOut × Mem) := execF X F_f57 0 (sR (sR (sR (sR c_f57)))) N_f57 P_f57
noncomputable def B_f57_0 : AExit → AAct → Mem → Option (AOut × Mem) := blockX 0 K_f57_1 P_f57
noncomputable def L_f57_0 : AAct → Mem → Option (AOut × Mem) := fun a m => killF (X.lk F_f57 0) a.tmps fun l => loopK X F_f57 0 (sB (sB (sR (sL (sR (sR (sR c_f57))))))) B_f57_0 ⟨l, a.defers⟩ m
noncomputable def K_f57_2 : AAct → Mem → Option (AOut × Mem) := execF X F_f57 0 (sR (sB (sB (sR (sL (sR (sR (sR c_f57)))))))) L_f57_0 B_f57_0
noncomputable def K_f57_3 : AAct → Mem → Option (AOut × Mem) := execF X F_f57 0 (sR (sR (sB (sB (sR (sL (sR (sR (sR c_f57))))))))) L_f57_0 B_f57_0
noncomputable def k_f57_0 (v1 v2 v4 : AV) (m : Mem) : Option (AOut × Mem) := K_f57_0 ⟨[Q, v1, v2, Q, v4, Q, Q, Q, Q, Q, Q, Q, Q, Q, Q, Q, Q, Q, Q, Q, Q, Q, Q, Q, Q, Q, Q, Q, Q, Q, Q, Q, Q, Q, Q, Q, Q], []⟩ m
noncomputable def k_f57_1 (v1 v2 v4 v5 v6 : AV) (m : Mem) : Option (AOut × Mem) := K_f57_1 ⟨[Q, v1, v2, Q, v4, v5, v6, Q, Q, Q, Q, Q, Q, Q, Q, Q, Q, Q, Q, Q, Q, Q, Q, Q, Q, Q, Q, Q, Q, Q, Q, Q, Q, Q, Q, Q, Q], []⟩ m
noncomputable def l_f57_0 (v1 v2 v4 v5 v6 : AV) (m : Mem) : Option (AOut × Mem) := L_f57_0 ⟨[Q, v1, v2, Q, v4, v5, v6, Q, Q, Q, Q, Q, Q, Q, Q, Q, Q, Q, Q, Q, Q, Q, Q, Q, Q, Q, Q, Q, Q, Q, Q, Q, Q, Q, Q, Q, Q], []⟩ m
noncomputable def k_f57_2 (v1 v2 v4 v5 v6 : AV) (m : Mem) : Option (AOut × Mem) := K_f57_2 ⟨[Q, v1, v2, Q, v4, v5, v6, Q, Q, Q, Q, Q, Q, Q, Q, Q, Q, Q, Q, Q, Q, Q, Q, Q, Q, Q, Q, Q, Q, Q, Q, Q, Q, Q, Q, Q, Q], []⟩ m
noncomputable def k_f57_3 (v1 v2 v4 v5 v6 : AV) (m : Mem) : Option (AOut × Mem) := K_f57_3 ⟨[Q, v1, v2, Q, v4, v5, v6, Q, Q, Q, Q, Q, Q, Q, Q, Q, Q, Q, Q, Q, Q, Q, Q, Q, Q, Q, Q, Q, Q, Q, Q, Q, Q, Q, Q, Q, Q], []⟩ m
theorem e_f57 (v0 v1 : AV) (m : Mem) : w_f57 v0 v1 m =
  memK (aBox m v0) fun v2 m1 =>
  memK (aBox m1 (.agg [.int .i64 0, .int .i64 0, .str (bs []), .nils])) fun v4 m2 =>
  bnd (rFieldAddr 0 v2) fun v7 =>
  bnd (rLoad false 1 m2 v7) fun v8 =>
  bnd (aBin X.T .eql T_int false true v8 (.int .i64 1)) fun v9 =>
  onBool v9
    (bnd (rFieldAddr 1 v2) fun v11 =>
    bnd (rLoad false 1 m2 v11) fun v12 =>
    bnd (rIxAddrSl 1 v1 v12) fun v13 =>
    bnd (rLoad false 1 m2 v13) fun v14 =>
    bnd (rBuild [.int .i64 0, .int .i64 0, .str (bs []), .nils] [(0, 1, (.int .i64 1)), (1, 1, v14)]) fun v15 =>
    bnd (rStore 4 m2 v4 v15) fun m3 =>
    bnd (rLoad true 4 m3 v4) fun vr0 =>
    some (.ret vr0, m3))
    (k_f57_0 v1 v2 v4 m2) := (aW_F (c := c_f57) (fn := Try.f57) (by kernel_rfl) (by kernel_rfl) (by kernel_rfl) _ m).trans (by kernel_rfl)
theorem k_f57_0_eq (v1 v2 v4 : AV) (m : Mem) : k_f57_0 v1 v2 v4 m =
  bnd (rBuildSlice A_api_Type 0 []) fun v16 =>
  l_f57_0 v1 v2 v4 v16 (.int .i64 0) m := by kernel_rfl
theorem k_f57_1_eq (v1 v2 v4 v5 v6 : AV) (m : Mem) : k_f57_1 v1 v2 v4 v5 v6 m =
  bnd (rFieldAddr 3 v2) fun v35 =>
  bnd (rStore 1 m v35 v5) fun m1 =>
  bnd (rLoad true 4 m1 v2) fun v36 =>
  bnd (rStore 4 m1 v4 v36) fun m2 =>
  bnd (rLoad true 4 m2 v4) fun vr0 =>
  some (.ret vr0, m2) := by kernel_rfl
theorem l_f57_0_u (v1 v2 v4 v5 v6 : AV) (m : Mem) : l_f57_0 v1 v2 v4 v5 v6 m = loopK X F_f57 0 (sB (sB (sR (sL (sR (sR (sR c_f57))))))) B_f57_0 ⟨[Q, v1, v2, Q, v4, v5, v6, Q, Q, Q, Q, Q, Q, Q, Q, Q, Q, Q, Q, Q, Q, Q, Q, Q, Q, Q, Q, Q, Q, Q, Q, Q, Q, Q, Q, Q, Q], []⟩ m := by kernel_rfl
theorem l_f57_0_r (v1 v2 v4 v5 v6 : AV) (m : Mem) : roundF X F_f57 0 (sB (sB (sR (sL (sR (sR (sR c_f57))))))) B_f57_0 [Q, v1, v2, Q, v4, v5, v6, Q, Q, Q, Q, Q, Q, Q, Q, Q, Q, Q, Q, Q, Q, Q, Q, Q, Q, Q, Q, Q, Q, Q, Q, Q, Q, Q, Q, Q, Q] m =
  bnd (rFieldAddr 3 v2) fun v18 =>
  bnd (rLoad false 1 m v18) fun v19 =>
  bnd (rLenSl v19) fun v20 =>
  bnd (aBin X.T .lss T_int false false v6 v20) fun v21 =>
  onBool v21
    (k_f57_2 v1 v2 v4 v5 v6 m)
    (k_f57_1 v1 v2 v4 v5 v6 m) := by kernel_rfl
theorem l_f57_0_eq (v1 v2 v4 v5 v6 : AV) (m : Mem) : l_f57_0 v1 v2 v4 v5 v6 m =
  bnd (rFieldAddr 3 v2) fun v18 =>
  bnd (rLoad false 1 m v18) fun v19 =>
  bnd (rLenSl v19) fun v20 =>
  bnd (aBin X.T .lss T_int false false v6 v20) fun v21 =>
  onBool v21
    (k_f57_2 v1 v2 v4 v5 v6 m)
    (k_f57_1 v1 v2 v4 v5 v6 m) := roundF_of (l_f57_0_u v1 v2 v4 v5 v6 m) (l_f57_0_r v1 v2 v4 v5 v6 m)
theorem k_f57_2_eq (v1 v2 v4 v5 v6 : AV) (m : Mem) : k_f57_2 v1 v2 v4 v5 v6 m =
  bnd (rFieldAddr 3 v2) fun v25 =>
  bnd (rLoad false 1 m v25) fun v26 =>
  bnd (rIxAddrSl 4 v26 v6) fun v28 =>
  bnd (rLoad true 4 m v28) fun v29 =>
  retK (w_f57 v29 v1 m) (fun v31 m1 =>
  bnd (rBuildSlice A_api_Type 1 [(0, v31)]) fun v32 =>
  memK (rAppend A_api_Type 0 m1 v5 v32) fun v33 m2 =>
  k_f57_3 v1 v2 v4 v33 v6 m2) (fun u m1 => some (.pan u, m1)) := by kernel_rfl
theorem k_f57_3_eq (v1 v2 v4 v5 v6 : AV) (m : Mem) : k_f57_3 v1 v2 v4 v5 v6 m =
  bnd (aBin X.T .add T_int false true v6 (.int .i64 1)) fun v23 =>
  l_f57_0 v1 v2 v4 v5 v23 m := by kernel_rfl
noncomputable def c_f58 : Code := bodyOf Try.f58
noncomputable def N_f58 : AAct → Mem → Option (AOut × Mem) := finK X.T Try.f58.results.toList .normal
noncomputable def P_f58 : AExit → AAct → Mem → Option (AOut × Mem) := finK X.T Try.f58.results.toList
noncomputable def K_f58_0 : AAct → Mem → Option (AOut × Mem) := execF X F_f58 0 (sR (sR (sR c_f58))) N_f58 P_f58
noncomputable def B_f58_0 : AExit → AAct → Mem → Option (AOut × Mem) := blockX 0 K_f58_0 P_f58
noncomputable def K_f58_1 : AAct → Mem → Option (AOut × Mem) := execF X F_f58 0 (sR (sR (sR (sB (sL (sR (sR c_f58))))))) K_f58_0 B_f58_0
noncomputable def K_f58_2 : AAct → Mem → Option (AOut × Mem) := execF X F_f58 0 (sR (sR (sR (sR (sR c_f58))))) N_f58 P_f58
noncomputable def B_f58_1 : AExit → AAct → Mem → Option (AOut × Mem) := blockX 1 K_f58_2 P_f58
noncomputable def L_f58_1 : AAct → Mem → Option (AOut × Mem) := fun a m => killF (X.lk F_f58 1) a.tmps fun l => loopK X F_f58 1 (sB (sB (sR (sL (sR (sR (sR (sR c_f58)))))))) B_f58_1 ⟨l, a.defers⟩ m
noncomputable def K_f58_3 : AAct → Mem → Option (AOut × Mem) := execF X F_f58 0 (sR (sL (sR (sR (sR (sB (sL (sR (sR c_f58))))))))) K_f58_0 B_f58_0
noncomputable def K_f58_4 : AAct → Mem → Option (AOut × Mem) := execF X F_f58 1 (sR (sR (sB (sB (sR (sL (sR (sR (sR (sR c_f58)))))))))) L_f58_1 B_f58_1
noncomputable def K_f58_5 : AAct → Mem → Option (AOut × Mem) := execF X F_f58 0 (sR (sR (sL (sR (sR (sR (sB (sL (sR (sR c_f58)))))))))) K_f58_0 B_f58_0
noncomputable def K_f58_6 : AAct → Mem → Option (AOut × Mem) := execF X F_f58 1 (sR (sR (sR (sB (sB (sR (sL (sR (sR (sR (sR c_f58))))))))))) L_f58_1 B_f58_1
noncomputable def k_f58_0 (v0 v1 v2 v3 : AV) (m : Mem) : Option (AOut × Mem) := K_f58_0 ⟨[v0, v1, v2, v3, Q, Q, Q, Q, Q, Q, Q, Q, Q, Q, Q, Q, Q, Q, Q, Q, Q, Q, Q, Q, Q, Q, Q, Q, Q, Q, Q, Q, Q, Q, Q, Q, Q, Q, Q, Q, Q, Q, Q, Q, Q, Q, Q, Q, Q, Q, Q, Q, Q, Q, Q, Q, Q, Q, Q, Q, Q, Q, Q, Q, Q, Q, Q, Q, Q, Q, Q, Q, Q, Q, Q, Q, Q, Q, Q, Q, Q, Q, Q, Q, Q, Q, Q, Q, Q, Q, Q, Q, Q, Q, Q, Q, Q, Q, Q, Q, Q, Q], []⟩ m
noncomputable def k_f58_1 (v0 v1 v2 v3 v21 : AV) (m : Mem) : Option (AOut × Mem) := K_f58_1 ⟨[v0, v1, v2, v3, Q, Q, Q, Q, Q, Q, Q, Q, Q, Q, Q, Q, Q, Q, Q, Q, Q, v21, Q, Q, Q, Q, Q, Q, Q, Q, Q, Q, Q, Q, Q, Q, Q, Q, Q, Q, Q, Q, Q, Q, Q, Q, Q, Q, Q, Q, Q, Q, Q, Q, Q, Q, Q, Q, Q, Q, Q, Q, Q, Q, Q, Q, Q, Q, Q, Q, Q, Q, Q, Q, Q, Q, Q, Q, Q, Q, Q, Q, Q, Q, Q, Q, Q, Q, Q, Q, Q, Q, Q, Q, Q, Q, Q, Q, Q, Q, Q, Q], []⟩ m
noncomputable def k_f58_2 (v0 v2 v3 v78 v79 v80 : AV) (m : Mem) : Option (AOut × Mem) := K_f58_2 ⟨[v0, Q, v2, v3, Q, Q, Q, Q, Q, Q, Q, Q, Q, Q, Q, Q, Q, Q, Q, Q, Q, Q, Q, Q, Q, Q, Q, Q, Q, Q, Q, Q, Q, Q, Q, Q, Q, Q, Q, Q, Q, Q, Q, Q, Q, Q, Q, Q, Q, Q, Q, Q, Q, Q, Q, Q, Q, Q, Q, Q, Q, Q, Q, Q, Q, Q, Q, Q, Q, Q, Q, Q, Q, Q, Q, Q, Q, Q, v78, v79, v80, Q, Q, Q, Q, Q, Q, Q, Q, Q, Q, Q, Q, Q, Q, Q, Q, Q, Q, Q, Q, Q], []⟩ m
noncomputable def l_f58_1 (v0 v2 v3 v78 v79 v80 : AV) (m : Mem) : Option (AOut × Mem) := L_f58_1 ⟨[v0, Q, v2, v3, Q, Q, Q, Q, Q, Q, Q, Q, Q, Q, Q, Q, Q, Q, Q, Q, Q, Q, Q, Q, Q, Q, Q, Q, Q, Q, Q, Q, Q, Q, Q, Q, Q, Q, Q, Q, Q, Q, Q, Q, Q, Q, Q, Q, Q, Q, Q, Q, Q, Q, Q, Q, Q, Q, Q, Q, Q, Q, Q, Q, Q, Q, Q, Q, Q, Q, Q, Q, Q, Q, Q, Q, Q, Q, v78, v79, v80, Q, Q, Q, Q, Q, Q, Q, Q, Q, Q, Q, Q, Q, Q, Q, Q, Q, Q, Q, Q, Q], []⟩ m
noncomputable def k_f58_3 (v0 v1 v2 v3 : AV) (m : Mem) : Option (AOut × Mem) := K_f58_3 ⟨[v0, v1, v2, v3, Q, Q, Q, Q, Q, Q, Q, Q, Q, Q, Q, Q, Q, Q, Q, Q, Q, Q, Q, Q, Q, Q, Q, Q, Q, Q, Q, Q, Q, Q, Q, Q, Q, Q, Q, Q, Q, Q, Q, Q, Q, Q, Q, Q, Q, Q, Q, Q, Q, Q, Q, Q, Q, Q, Q, Q, Q, Q, Q, Q, Q, Q, Q, Q, Q, Q, Q, Q, Q, Q, Q, Q, Q, Q, Q, Q, Q, Q, Q, Q, Q, Q, Q, Q, Q, Q, Q, Q, Q, Q, Q, Q, Q, Q, Q, Q, Q, Q], []⟩ m
noncomputable def k_f58_4 (v0 v2 v3 v78 v79 v80 : AV) (m : Mem) : Option (AOut × Mem) := K_f58_4 ⟨[v0, Q, v2, v3, Q, Q, Q, Q, Q, Q, Q, Q, Q, Q, Q, Q, Q, Q, Q, Q, Q, Q, Q, Q, Q, Q, Q, Q, Q, Q, Q, Q, Q, Q, Q, Q, Q, Q, Q, Q, Q, Q, Q, Q, Q, Q, Q, Q, Q, Q, Q, Q, Q, Q, Q, Q, Q, Q, Q, Q, Q, Q, Q, Q, Q, Q, Q, Q, Q, Q, Q, Q, Q, Q, Q, Q, Q, Q, v78, v79, v80, Q, Q, Q, Q, Q, Q, Q, Q, Q, Q, Q, Q, Q, Q, Q, Q, Q, Q, Q, Q, Q], []⟩ m
noncomputable def k_f58_5 (v0 v1 v2 v3 : AV) (m : Mem) : Option (AOut × Mem) := K_f58_5 ⟨[v0, v1, v2, v3, Q, Q, Q, Q, Q, Q, Q, Q, Q, Q, Q, Q, Q, Q, Q, Q, Q, Q, Q, Q, Q, Q, Q, Q, Q, Q, Q, Q, Q, Q, Q, Q, Q, Q, Q, Q, Q, Q, Q, Q, Q, Q, Q, Q, Q, Q, Q, Q, Q, Q, Q, Q, Q, Q, Q, Q, Q, Q, Q, Q, Q, Q, Q, Q, Q, Q, Q, Q, Q, Q, Q, Q, Q, Q, Q, Q, Q, Q, Q, Q, Q, Q, Q, Q, Q, Q, Q, Q, Q, Q, Q, Q, Q, Q, Q, Q, Q, Q], []⟩ m
noncomputable def k_f58_6 (v0 v2 v3 v78 v79 v80 : AV) (m : Mem) : Option (AOut × Mem) := K_f58_6 ⟨[v0, Q, v2, v3, Q, Q, Q, Q, Q, Q, Q, Q, Q, Q, Q, Q, Q, Q, Q, Q, Q, Q, Q, Q, Q, Q, Q, Q, Q, Q, Q, Q, Q, Q, Q, Q, Q, Q, Q, Q, Q, Q, Q, Q, Q, Q, Q, Q, Q, Q, Q, Q, Q, Q, Q, Q, Q, Q, Q, Q, Q, Q, Q, Q, Q, Q, Q, Q, Q, Q, Q, Q, Q, Q, Q, Q, Q, Q, v78, v79, v80, Q, Q, Q, Q, Q, Q, Q, Q, Q, Q, Q, Q, Q, Q, Q, Q, Q, Q, Q, Q, Q], []⟩ m
theorem e_f58 (v0 v1 v2 v3 : AV) (m : Mem) : w_f58 v0 v1 v2 v3 m =
  retK (w_f82 v0 v1 m) (fun v13 m1 =>
  retK (w_f82 v0 v2 m1) (fun v16 m2 =>
  bnd (aBin X.T .eql T_int false false v13 v16) fun v20 =>
  onBool v20
    (some (.ret (.bool true), m2))
    (nilK v0
    (bnd (rFieldAddr 0 v0) fun v24 =>
    bnd (rLoad false 1 m2 v24) fun v25 =>
    bnd (rIxAddrSl 4 v25 v13) fun v27 =>
    bnd (rFieldAddr 0 v27) fun v28 =>
    bnd (rLoad false 1 m2 v28) fun v29 =>
    bnd (aBin X.T .eql T_int false true v29 (.int .i64 1)) fun v30 =>
    onWant v30
      (k_f58_1 v0 v13 v16 v3 (.bool true) m2)
      (nilK v0
    (bnd (rFieldAddr 0 v0) fun v34 =>
    bnd (rLoad false 1 m2 v34) fun v35 =>
    bnd (rIxAddrSl 4 v35 v16) fun v37 =>
    bnd (rFieldAddr 0 v37) fun v38 =>
    bnd (rLoad false 1 m2 v38) fun v39 =>
    bnd (aBin X.T .eql T_int false true v39 (.int .i64 1)) fun v40 =>
    k_f58_1 v0 v13 v16 v3 v40 m2))
      (none)))) (fun u m2 => some (.pan u, m2))) (fun u m1 => some (.pan u, m1)) := (aW_F (c := c_f58) (fn := Try.f58) (by kernel_rfl) (by kernel_rfl) (by kernel_rfl) _ m).trans (by kernel_rfl)
theorem k_f58_0_eq (v0 v1 v2 v3 : AV) (m : Mem) : k_f58_0 v0 v1 v2 v3 m =
  retK (w_f84 v0 v1 v2 m) (fun v70 m1 =>
  nilK v0
  (bnd (rFieldAddr 0 v0) fun v73 =>
  bnd (rLoad false 1 m1 v73) fun v74 =>
  bnd (rIxAddrSl 4 v74 v1) fun v76 =>
  bnd (rFieldAddr 2 v76) fun v77 =>
  bnd (rLoad false 1 m1 v77) fun v78 =>
  bnd (rLenSl v78) fun v79 =>
  l_f58_1 v0 v2 v3 v78 v79 (.int .i64 0) m1)) (fun u m1 => some (.pan u, m1)) := by kernel_rfl
theorem k_f58_1_eq (v0 v1 v2 v3 v21 : AV) (m : Mem) : k_f58_1 v0 v1 v2 v3 v21 m =
  onBool v21
    (nilK v0
    (bnd (rFieldAddr 0 v0) fun v44 =>
    bnd (rLoad false 1 m v44) fun v45 =>
    bnd (rIxAddrSl 4 v45 v1) fun v47 =>
    bnd (rFieldAddr 0 v47) fun v48 =>
    bnd (rLoad false 1 m v48) fun v49 =>
    bnd (aBin X.T .neq T_int false true v49 (.int .i64 1)) fun v50 =>
    onBool v50
      (k_f58_3 v0 v2 v1 v3 m)
      (k_f58_3 v0 v1 v2 v3 m)))
    (retK (w_f85 v0 v1 v2 m) (fun v65 m1 =>
    bnd (aUn .not v65) fun v66 =>
    onBool v66
      (some (.ret (.bool false), m1))
      (k_f58_0 v0 v1 v2 v3 m1)) (fun u m1 => some (.pan u, m1))) := by kernel_rfl
theorem k_f58_2_eq (v0 v2 v3 v78 v79 v80 : AV) (m : Mem) : k_f58_2 v0 v2 v3 v78 v79 v80 m =
  some (.ret (.bool true), m) := by kernel_rfl
theorem l_f58_1_u (v0 v2 v3 v78 v79 v80 : AV) (m : Mem) : l_f58_1 v0 v2 v3 v78 v79 v80 m = loopK X F_f58 1 (sB (sB (sR (sL (sR (sR (sR (sR c_f58)))))))) B_f58_1 ⟨[v0, Q, v2, v3, Q, Q, Q, Q, Q, Q, Q, Q, Q, Q, Q, Q, Q, Q, Q, Q, Q, Q, Q, Q, Q, Q, Q, Q, Q, Q, Q, Q, Q, Q, Q, Q, Q, Q, Q, Q, Q, Q, Q, Q, Q, Q, Q, Q, Q, Q, Q, Q, Q, Q, Q, Q, Q, Q, Q, Q, Q, Q, Q, Q, Q, Q, Q, Q, Q, Q, Q, Q, Q, Q, Q, Q, Q, Q, v78, v79, v80, Q, Q, Q, Q, Q, Q, Q, Q, Q, Q, Q, Q, Q, Q, Q, Q, Q, Q, Q, Q, Q], []⟩ m := by kernel_rfl
theorem l_f58_1_r (v0 v2 v3 v78 v79 v80 : AV) (m : Mem) : roundF X F_f58 1 (sB (sB (sR (sL (sR (sR (sR (sR c_f58)))))))) B_f58_1 [v0, Q, v2, v3, Q, Q, Q, Q, Q, Q, Q, Q, Q, Q, Q, Q, Q, Q, Q, Q, Q, Q, Q, Q, Q, Q, Q, Q, Q, Q, Q, Q, Q, Q, Q, Q, Q, Q, Q, Q, Q, Q, Q, Q, Q, Q, Q, Q, Q, Q, Q, Q, Q, Q, Q, Q, Q, Q, Q, Q, Q, Q, Q, Q, Q, Q, Q, Q, Q, Q, Q, Q, Q, Q, Q, Q, Q, Q, v78, v79, v80, Q, Q, Q, Q, Q, Q, Q, Q, Q, Q, Q, Q, Q, Q, Q, Q, Q, Q, Q, Q, Q] m =
  bnd (aBin X.T .lss T_int false false v80 v79) fun v81 =>
  onBool v81
    (k_f58_4 v0 v2 v3 v78 v79 v80 m)
    (k_f58_2 v0 v2 v3 v78 v79 v80 m) := by kernel_rfl
theorem l_f58_1_eq (v0 v2 v3 v78 v79 v80 : AV) (m : Mem) : l_f58_1 v0 v2 v3 v78 v79 v80 m =
  bnd (aBin X.T .lss T_int false false v80 v79) fun v81 =>
  onBool v81
    (k_f58_4 v0 v2 v3 v78 v79 v80 m)
    (k_f58_2 v0 v2 v3 v78 v79 v80 m) := roundF_of (l_f58_1_u v0 v2 v3 v78 v79 v80 m) (l_f58_1_r v0 v2 v3 v78 v79 v80 m)
theorem k_f58_3_eq (v0 v1 v2 v3 : AV) (m : Mem) : k_f58_3 v0 v1 v2 v3 m =
  bnd (aUn .not v3) fun v54 =>
  onBool v54
    (retK (w_f84 v0 v1 v2 m) (fun v58 m1 =>
    k_f58_5 .undef .undef .undef v3 m1) (fun u m1 => some (.pan u, m1)))
    (k_f58_5 v0 v1 v2 v3 m) := by kernel_rfl
theorem k_f58_4_eq (v0 v2 v3 v78 v79 v80 : AV) (m : Mem) : k_f58_4 v0 v2 v3 v78 v79 v80 m =
  bnd (rIxAddrSl 1 v78 v80) fun v83 =>
  bnd (rLoad false 1 m v83) fun v84 =>
  nilK v0
  (bnd (rFieldAddr 0 v0) fun v89 =>
  bnd (rLoad false 1 m v89) fun v90 =>
  bnd (rIxAddrSl 4 v90 v2) fun v92 =>
  bnd (rFieldAddr 2 v92) fun v93 =>
  bnd (rLoad false 1 m v93) fun v94 =>
  bnd (rIxAddrSl 1 v94 v80) fun v96 =>
  bnd (rLoad false 1 m v96) fun v97 =>
  retK (w_f58 v0 v84 v97 v3 m) (fun v99 m1 =>
  bnd (aUn .not v99) fun v100 =>
  onBool v100
    (some (.ret (.bool false), m1))
    (k_f58_6 v0 v2 v3 v78 v79 v80 m1)) (fun u m1 => some (.pan u, m1))) := by kernel_rfl
theorem k_f58_5_eq (v0 v1 v2 v3 : AV) (m : Mem) : k_f58_5 v0 v1 v2 v3 m =
  bnd (aUn .not v3) fun v60 =>
  some (.ret v60, m) := by kernel_rfl
theorem k_f58_6_eq (v0 v2 v3 v78 v79 v80 : AV) (m : Mem) : k_f58_6 v0 v2 v3 v78 v79 v80 m =
  bnd (aBin X.T .add T_int false true v80 (.int .i64 1)) fun v101 =>
  l_f58_1 v0 v2 v3 v78 v79 v101 m := by kernel_rfl
noncomputable def c_f59 : Code := bodyOf Try.f59
noncomputable def N_f59 : AAct → Mem → Option (AOut × Mem) := finK X.T Try.f59.results.toList .normal
noncomputable def P_f59 : AExit → AAct → Mem → Option (AOut × Mem) := finK X.T Try.f59.results.toList
noncomputable def B_f59_0 : AExit → AAct → Mem → Option (AOut × Mem) := blockX 0 N_f59 P_f59
noncomputable def L_f59_0 : AAct → Mem → Option (AOut × Mem) := fun a m => killF (X.lk F_f59 0) a.tmps fun l => loopK X F_f59 0 (sB (sB (sR c_f59))) B_f59_0 ⟨l, a.defers⟩ m
noncomputable def K_f59_0 : AAct → Mem → Option (AOut × Mem) := execF X F_f59 0 (sR (sR (sB (sB (sR c_f59))))) L_f59_0 B_f59_0
noncomputable def K_f59_1 : AAct → Mem → Option (AOut × Mem) := execF X F_f59 0 (sR (sR (sR (sB (sB (sR c_f59)))))) L_f59_0 B_f59_0
noncomputable def l_f59_0 (v0 v7 v8 v9 : AV) (m : Mem) : Option (AOut × Mem) := L_f59_0 ⟨[v0, Q, Q, Q, Q, Q, Q, v7, v8, v9, Q, Q, Q, Q, Q, Q, Q, Q, Q, Q, Q], []⟩ m
noncomputable def k_f59_0 (v0 v7 v8 v9 : AV) (m : Mem) : Option (AOut × Mem) := K_f59_0 ⟨[v0, Q, Q, Q, Q, Q, Q, v7, v8, v9, Q, Q, Q, Q, Q, Q, Q, Q, Q, Q, Q], []⟩ m
noncomputable def k_f59_1 (v0 v7 v8 v9 : AV) (m : Mem) : Option (AOut × Mem) := K_f59_1 ⟨[v0, Q, Q, Q, Q, Q, Q, v7, v8, v9, Q, Q, Q, Q, Q, Q, Q, Q, Q, Q, Q], []⟩ m
theorem e_f59 (v0 : AV) (m : Mem) : w_f59 v0 m =
  nilK v0
  (bnd (rFieldAddr 1 v0) fun v6 =>
  bnd (rLoad false 1 m v6) fun v7 =>
  bnd (rLenSl v7) fun v8 =>
  l_f59_0 v0 v7 v8 (.int .i64 0) m) := (aW_F (c := c_f59) (fn := Try.f59) (by kernel_rfl) (by kernel_rfl) (by kernel_rfl) _ m).trans (by kernel_rfl)
theorem l_f59_0_u (v0 v7 v8 v9 : AV) (m : Mem) : l_f59_0 v0 v7 v8 v9 m = loopK X F_f59 0 (sB (sB (sR c_f59))) B_f59_0 ⟨[v0, Q, Q, Q, Q, Q, Q, v7, v8, v9, Q, Q, Q, Q, Q, Q, Q, Q, Q, Q, Q], []⟩ m := by kernel_rfl
theorem l_f59_0_r (v0 v7 v8 v9 : AV) (m : Mem) : roundF X F_f59 0 (sB (sB (sR c_f59))) B_f59_0 [v0, Q, Q, Q, Q, Q, Q, v7, v8, v9, Q, Q, Q, Q, Q, Q, Q, Q, Q, Q, Q] m =
  bnd (aBin X.T .lss T_int false false v9 v8) fun v10 =>
  onBool v10
    (k_f59_0 v0 v7 v8 v9 m)
    (some (.ret (.tup []), m)) := by kernel_rfl
theorem l_f59_0_eq (v0 v7 v8 v9 : AV) (m : Mem) : l_f59_0 v0 v7 v8 v9 m =
  bnd (aBin X.T .lss T_int false false v9 v8) fun v10 =>
  onBool v10
    (k_f59_0 v0 v7 v8 v9 m)
    (some (.ret (.tup []), m)) := roundF_of (l_f59_0_u v0 v7 v8 v9 m) (l_f59_0_r v0 v7 v8 v9 m)
theorem k_f59_0_eq (v0 v7 v8 v9 : AV) (m : Mem) : k_f59_0 v0 v7 v8 v9 m =
  bnd (rIxAddrSl 1 v7 v9) fun v11 =>
  bnd (rLoad false 1 m v11) fun v12 =>
  nilK v0
  (bnd (rFieldAddr 0 v0) fun v15 =>
  bnd (rLoad false 1 m v15) fun v16 =>
  bnd (rIxAddrSl 4 v16 v12) fun v18 =>
  bnd (rFieldAddr 3 v18) fun v19 =>
  bnd (rStore 1 m v19 (.int .i64 (-1))) fun m1 =>
  k_f59_1 v0 v7 v8 v9 m1) := by kernel_rfl
theorem k_f59_1_eq (v0 v7 v8 v9 : AV) (m : Mem) : k_f59_1 v0 v7 v8 v9 m =
  bnd (aBin X.T .add T_int false true v9 (.int .i64 1)) fun v20 =>
  l_f59_0 v0 v7 v8 v20 m := by kernel_rfl
end Go.AM
namespace Go.AM
open Go.Proofs
set_option maxRecDepth 100000
set_option linter.unusedVariables false
noncomputable def c_f60 : Code := bodyOf Try.f60
noncomputable def N_f60 : AAct → Mem → Option (AOut × Mem) := finK X.T Try.f60.results.toList .normal
noncomputable def P_f60 : AExit → AAct → Mem → Option (AOut × Mem) := finK X.T Try.f60.results.toList
noncomputable def K_f60_0 : AAct → Mem → Option (AOut × Mem) := execF X F_f60 0 (sR (sR (sR (sR (sR c_f60))))) N_f60 P_f60
noncomputable def B_f60_0 : AExit → AAct → Mem → Option (AOut × Mem) := blockX 0 K_f60_0 P_f60
noncomputable def L_f60_0 : AAct → Mem → Option (AOut × Mem) := fun a m => killF (X.lk F_f60 0) a.tmps fun l => loopK X F_f60 0 (sB (sB (sL (sR (sR (sR (sR c_f60))))))) B_f60_0 ⟨l, a.defers⟩ m
noncomputable def K_f60_1 : AAct → Mem → Option (AOut × Mem) := execF X F_f60 0 (sR (sB (sB (sL (sR (sR (sR (sR c_f60)))))))) L_f60_0 B_f60_0
noncomputable def B_f60_1 : AExit → AAct → Mem → Option (AOut × Mem) := blockX 1 L_f60_0 B_f60_0
noncomputable def K_f60_2 : AAct → Mem → Option (AOut × Mem) := execF X F_f60 1 (sR (sR (sR (sR (sB (sR (sB (sB (sL (sR (sR (sR (sR c_f60))))))))))))) L_f60_0 B_f60_1
noncomputable def K_f60_3 : AAct → Mem → Option (AOut × Mem) := execF X F_f60 1 (sR (sR (sR (sR (sR (sB (sR (sB (sB (sL (sR (sR (sR (sR c_f60)))))))))))))) L_f60_0 B_f60_1
noncomputable def K_f60_4 : AAct → Mem → Option (AOut × Mem) := execF X F_f60 1 (sR (sR (sR (sR (sR (sR (sB (sR (sB (sB (sL (sR (sR (sR (sR c_f60))))))))))))))) L_f60_0 B_f60_1
noncomputable def K_f60_5 : AAct → Mem → Option (AOut × Mem) := execF X F_f60 1 (sR (sR (sR (sR (sR (sR (sR (sR (sR (sB (sR (sB (sB (sL (sR (sR (sR (sR c_f60)))))))))))))))))) L_f60_0 B_f60_1
noncomputable def K_f60_6 : AAct → Mem → Option (AOut × Mem) := execF X F_f60 1 (sR (sL (sR (sR (sR (sR (sR (sR (sR (sR (sB (sR (sB (sB (sL (sR (sR (sR (sR c_f60))))))))))))))))))) K_f60_5 B_f60_1
noncomputable def B_f60_2 : AExit → AAct → Mem → Option (AOut × Mem) := blockX 2 L_f60_0 B_f60_1
noncomputable def L_f60_2 : AAct → Mem → Option (AOut × Mem) := fun a m => killF (X.lk F_f60 2) a.tmps fun l => loopK X F_f60 2 (sB (sB (sR (sR (sR (sR (sR (sR (sR (sR (sR (sR (sR (sB (sR (sB (sB (sL (sR (sR (sR (sR c_f60)))))))))))))))))))))) B_f60_2 ⟨l, a.defers⟩ m
noncomputable def K_f60_7 : AAct → Mem → Option (AOut × Mem) := execF X F_f60 2 (sR (sB (sB (sR (sR (sR (sR (sR (sR (sR (sR (sR (sR (sR (sB (sR (sB (sB (sL (sR (sR (sR (sR c_f60))))))))))))))))))))))) L_f60_2 B_f60_2
noncomputable def K_f60_8 : AAct → Mem → Option (AOut × Mem) := execF X F_f60 2 (sR (sR (sB (sB (sR (sR (sR (sR (sR (sR (sR (sR (sR (sR (sR (sB (sR (sB (sB (sL (sR (sR (sR (sR c_f60)))))))))))))))))))))))) L_f60_2 B_f60_2
noncomputable def k_f60_0 (v3 v6 v9 : AV) (m : Mem) : Option (AOut × Mem) := K_f60_0 ⟨[Q, Q, Q, v3, Q, Q, v6, Q, Q, v9, Q, Q, Q, Q, Q, Q, Q, Q, Q, Q, Q, Q, Q, Q, Q, Q, Q, Q, Q, Q, Q, Q, Q, Q, Q, Q, Q, Q, Q, Q, Q, Q, Q, Q, Q, Q, Q, Q, Q, Q, Q, Q, Q, Q, Q, Q, Q, Q, Q, Q, Q, Q, Q, Q, Q, Q, Q, Q, Q, Q, Q, Q, Q, Q, Q, Q, Q, Q, Q, Q, Q, Q, Q, Q, Q, Q, Q, Q, Q, Q, Q, Q, Q, Q, Q, Q, Q, Q, Q, Q, Q, Q, Q, Q, Q, Q, Q, Q, Q, Q, Q, Q, Q, Q, Q, Q, Q, Q, Q, Q, Q, Q, Q, Q, Q, Q, Q, Q, Q, Q, Q, Q, Q, Q, Q, Q, Q, Q, Q, Q], []⟩ m
noncomputable def l_f60_0 (v3 v6 v9 : AV) (m : Mem) : Option (AOut × Mem) := L_f60_0 ⟨[Q, Q, Q, v3, Q, Q, v6, Q, Q, v9, Q, Q, Q, Q, Q, Q, Q, Q, Q, Q, Q, Q, Q, Q, Q, Q, Q, Q, Q, Q, Q, Q, Q, Q, Q, Q, Q, Q, Q, Q, Q, Q, Q, Q, Q, Q, Q, Q, Q, Q, Q, Q, Q, Q, Q, Q, Q, Q, Q, Q, Q, Q, Q, Q, Q, Q, Q, Q, Q, Q, Q, Q, Q, Q, Q, Q, Q, Q, Q, Q, Q, Q, Q, Q, Q, Q, Q, Q, Q, Q, Q, Q, Q, Q, Q, Q, Q, Q, Q, Q, Q, Q, Q, Q, Q, Q, Q, Q, Q, Q, Q, Q, Q, Q, Q, Q, Q, Q, Q, Q, Q, Q, Q, Q, Q, Q, Q, Q, Q, Q, Q, Q, Q, Q, Q, Q, Q, Q, Q, Q], []⟩ m
noncomputable def k_f60_1 (v3 v6 v9 : AV) (m : Mem) : Option (AOut × Mem) := K_f60_1 ⟨[Q, Q, Q, v3, Q, Q, v6, Q, Q, v9, Q, Q, Q, Q, Q, Q, Q, Q, Q, Q, Q, Q, Q, Q, Q, Q, Q, Q, Q, Q, Q, Q, Q, Q, Q, Q, Q, Q, Q, Q, Q, Q, Q, Q, Q, Q, Q, Q, Q, Q, Q, Q, Q, Q, Q, Q, Q, Q, Q, Q, Q, Q, Q, Q, Q, Q, Q, Q, Q, Q, Q, Q, Q, Q, Q, Q, Q, Q, Q, Q, Q, Q, Q, Q, Q, Q, Q, Q, Q, Q, Q, Q, Q, Q, Q, Q, Q, Q, Q, Q, Q, Q, Q, Q, Q, Q, Q, Q, Q, Q, Q, Q, Q, Q, Q, Q, Q, Q, Q, Q, Q, Q, Q, Q, Q, Q, Q, Q, Q, Q, Q, Q, Q, Q, Q, Q, Q, Q, Q, Q], []⟩ m
noncomputable def k_f60_2 (v3 v6 v9 v10 v11 : AV) (m : Mem) : Option (AOut × Mem) := K_f60_2 ⟨[Q, Q, Q, v3, Q, Q, v6, Q, Q, v9, v10, v11, Q, Q, Q, Q, Q, Q, Q, Q, Q, Q, Q, Q, Q, Q, Q, Q, Q, Q, Q, Q, Q, Q, Q, Q, Q, Q, Q, Q, Q, Q, Q, Q, Q, Q, Q, Q, Q, Q, Q, Q, Q, Q, Q, Q, Q, Q, Q, Q, Q, Q, Q, Q, Q, Q, Q, Q, Q, Q, Q, Q, Q, Q, Q, Q, Q, Q, Q, Q, Q, Q, Q, Q, Q, Q, Q, Q, Q, Q, Q, Q, Q, Q, Q, Q, Q, Q, Q, Q, Q, Q, Q, Q, Q, Q, Q, Q, Q, Q, Q, Q, Q, Q, Q, Q, Q, Q, Q, Q, Q, Q, Q, Q, Q, Q, Q, Q, Q, Q, Q, Q, Q, Q, Q, Q, Q, Q, Q, Q], []⟩ m
noncomputable def k_f60_3 (v3 v6 v9 v10 v11 : AV) (m : Mem) : Option (AOut × Mem) := K_f60_3 ⟨[Q, Q, Q, v3, Q, Q, v6, Q, Q, v9, v10, v11, Q, Q, Q, Q, Q, Q, Q, Q, Q, Q, Q, Q, Q, Q, Q, Q, Q, Q, Q, Q, Q, Q, Q, Q, Q, Q, Q, Q, Q, Q, Q, Q, Q, Q, Q, Q, Q, Q, Q, Q, Q, Q, Q, Q, Q, Q, Q, Q, Q, Q, Q, Q, Q, Q, Q, Q, Q, Q, Q, Q, Q, Q, Q, Q, Q, Q, Q, Q, Q, Q, Q, Q, Q, Q, Q, Q, Q, Q, Q, Q, Q, Q, Q, Q, Q, Q, Q, Q, Q, Q, Q, Q, Q, Q, Q, Q, Q, Q, Q, Q, Q, Q, Q, Q, Q, Q, Q, Q, Q, Q, Q, Q, Q, Q, Q, Q, Q, Q, Q, Q, Q, Q, Q, Q, Q, Q, Q, Q], []⟩ m
noncomputable def k_f60_4 (v3 v6 v9 v10 v11 : AV) (m : Mem) : Option (AOut × Mem) := K_f60_4 ⟨[Q, Q, Q, v3, Q, Q, v6, Q, Q, v9, v10, v11, Q, Q, Q, Q, Q, Q, Q, Q, Q, Q, Q, Q, Q, Q, Q, Q, Q, Q, Q, Q, Q, Q, Q, Q, Q, Q, Q, Q, Q, Q, Q, Q, Q, Q, Q, Q, Q, Q, Q, Q, Q, Q, Q, Q, Q, Q, Q, Q, Q, Q, Q, Q, Q, Q, Q, Q, Q, Q, Q, Q, Q, Q, Q, Q, Q, Q, Q, Q, Q, Q, Q, Q, Q, Q, Q, Q, Q, Q, Q, Q, Q, Q, Q, Q, Q, Q, Q, Q, Q, Q, Q, Q, Q, Q, Q, Q, Q, Q, Q, Q, Q, Q, Q, Q, Q, Q, Q, Q, Q, Q, Q, Q, Q, Q, Q, Q, Q, Q, Q, Q, Q, Q, Q, Q, Q, Q, Q, Q], []⟩ m
noncomputable def k_f60_5 (v3 v6 v9 v10 v11 v12 v13 : AV) (m : Mem) : Option (AOut × Mem) := K_f60_5 ⟨[Q, Q, Q, v3, Q, Q, v6, Q, Q, v9, v10, v11, v12, v13, Q, Q, Q, Q, Q, Q, Q, Q, Q, Q, Q, Q, Q, Q, Q, Q, Q, Q, Q, Q, Q, Q, Q, Q, Q, Q, Q, Q, Q, Q, Q, Q, Q, Q, Q, Q, Q, Q, Q, Q, Q, Q, Q, Q, Q, Q, Q, Q, Q, Q, Q, Q, Q, Q, Q, Q, Q, Q, Q, Q, Q, Q, Q, Q, Q, Q, Q, Q, Q, Q, Q, Q, Q, Q, Q, Q, Q, Q, Q, Q, Q, Q, Q, Q, Q, Q, Q, Q, Q, Q, Q, Q, Q, Q, Q, Q, Q, Q, Q, Q, Q, Q, Q, Q, Q, Q, Q, Q, Q, Q, Q, Q, Q, Q, Q, Q, Q, Q, Q, Q, Q, Q, Q, Q, Q, Q], []⟩ m
noncomputable def k_f60_6 (v3 v6 v9 v10 v11 v12 v13 v110 : AV) (m : Mem) : Option (AOut × Mem) := K_f60_6 ⟨[Q, Q, Q, v3, Q, Q, v6, Q, Q, v9, v10, v11, v12, v13, Q, Q, Q, Q, Q, Q, Q, Q, Q, Q, Q, Q, Q, Q, Q, Q, Q, Q, Q, Q, Q, Q, Q, Q, Q, Q, Q, Q, Q, Q, Q, Q, Q, Q, Q, Q, Q, Q, Q, Q, Q, Q, Q, Q, Q, Q, Q, Q, Q, Q, Q, Q, Q, Q, Q, Q, Q, Q, Q, Q, Q, Q, Q, Q, Q, Q, Q, Q, Q, Q, Q, Q, Q, Q, Q, Q, Q, Q, Q, Q, Q, Q, Q, Q, Q, Q, Q, Q, Q, Q, Q, Q, Q, Q, Q, Q, v110, Q, Q, Q, Q, Q, Q, Q, Q, Q, Q, Q, Q, Q, Q, Q, Q, Q, Q, Q, Q, Q, Q, Q, Q, Q, Q, Q, Q, Q], []⟩ m
noncomputable def l_f60_2 (v3 v6 v9 v12 v13 v14 : AV) (m : Mem) : Option (AOut × Mem) := L_f60_2 ⟨[Q, Q, Q, v3, Q, Q, v6, Q, Q, v9, Q, Q, v12, v13, v14, Q, Q, Q, Q, Q, Q, Q, Q, Q, Q, Q, Q, Q, Q, Q, Q, Q, Q, Q, Q, Q, Q, Q, Q, Q, Q, Q, Q, Q, Q, Q, Q, Q, Q, Q, Q, Q, Q, Q, Q, Q, Q, Q, Q, Q, Q, Q, Q, Q, Q, Q, Q, Q, Q, Q, Q, Q, Q, Q, Q, Q, Q, Q, Q, Q, Q, Q, Q, Q, Q, Q, Q, Q, Q, Q, Q, Q, Q, Q, Q, Q, Q, Q, Q, Q, Q, Q, Q, Q, Q, Q, Q, Q, Q, Q, Q, Q, Q, Q, Q, Q, Q, Q, Q, Q, Q, Q, Q, Q, Q, Q, Q, Q, Q, Q, Q, Q, Q, Q, Q, Q, Q, Q, Q, Q], []⟩ m
noncomputable def k_f60_7 (v3 v6 v9 v12 v13 v14 : AV) (m : Mem) : Option (AOut × Mem) := K_f60_7 ⟨[Q, Q, Q, v3, Q, Q, v6, Q, Q, v9, Q, Q, v12, v13, v14, Q, Q, Q, Q, Q, Q, Q, Q, Q, Q, Q, Q, Q, Q, Q, Q, Q, Q, Q, Q, Q, Q, Q, Q, Q, Q, Q, Q, Q, Q, Q, Q, Q, Q, Q, Q, Q, Q, Q, Q, Q, Q, Q, Q, Q, Q, Q, Q, Q, Q, Q, Q, Q, Q, Q, Q, Q, Q, Q, Q, Q, Q, Q, Q, Q, Q, Q, Q, Q, Q, Q, Q, Q, Q, Q, Q, Q, Q, Q, Q, Q, Q, Q, Q, Q, Q, Q, Q, Q, Q, Q, Q, Q, Q, Q, Q, Q, Q, Q, Q, Q, Q, Q, Q, Q, Q, Q, Q, Q, Q, Q, Q, Q, Q, Q, Q, Q, Q, Q, Q, Q, Q, Q, Q, Q], []⟩ m
noncomputable def k_f60_8 (v3 v6 v9 v12 v13 v14 : AV) (m : Mem) : Option (AOut × Mem) := K_f60_8 ⟨[Q, Q, Q, v3, Q, Q, v6, Q, Q, v9, Q, Q, v12, v13, v14, Q, Q, Q, Q, Q, Q, Q, Q, Q, Q, Q, Q, Q, Q, Q, Q, Q, Q, Q, Q, Q, Q, Q, Q, Q, Q, Q, Q, Q, Q, Q, Q, Q, Q, Q, Q, Q, Q, Q, Q, Q, Q, Q, Q, Q, Q, Q, Q, Q, Q, Q, Q, Q, Q, Q, Q, Q, Q, Q, Q, Q, Q, Q, Q, Q, Q, Q, Q, Q, Q, Q, Q, Q, Q, Q, Q, Q, Q, Q, Q, Q, Q, Q, Q, Q, Q, Q, Q, Q, Q, Q, Q, Q, Q, Q, Q, Q, Q, Q, Q, Q, Q, Q, Q, Q, Q, Q, Q, Q, Q, Q, Q, Q, Q, Q, Q, Q, Q, Q, Q, Q, Q, Q, Q, Q], []⟩ m
theorem e_f60 (v0 v1 v2 : AV) (m : Mem) : w_f60 v0 v1 v2 m =
  memK (aBox m v0) fun v3 m1 =>
  memK (aBox m1 (.agg [.nils])) fun v6 m2 =>
  memK (rRowSlice A_r13_Node m2 0 []) fun v15 m3 =>
  bnd (rFieldAddr 0 v3) fun v16 =>
  bnd (rLoad false 1 m3 v16) fun v17 =>
  memK (rAppend A_r13_Node 1 m3 v15 v17) fun v18 m4 =>
  bnd (rFieldAddr 0 v3) fun v20 =>
  bnd (rStore 1 m4 v20 v18) fun m5 =>
  bnd (rBuild [.int .i64 0, .int .i64 0] [(0, 1, v1), (1, 1, v2)]) fun v23 =>
  memK (rRowSlice A_Ar2_int m5 1 [(0, v23)]) fun v24 m6 =>
  l_f60_0 v3 v6 v24 m6 := (aW_F (c := c_f60) (fn := Try.f60) (by kernel_rfl) (by kernel_rfl) (by kernel_rfl) _ m).trans (by kernel_rfl)
theorem k_f60_0_eq (v3 v6 v9 : AV) (m : Mem) : k_f60_0 v3 v6 v9 m =
  bnd (rLoad true 1 m v3) fun v139 =>
  bnd (rStore 1 m v6 v139) fun m1 =>
  bnd (rLoad true 1 m1 v6) fun vr0 =>
  some (.ret (.tup [vr0, (.bool true)]), m1) := by kernel_rfl
theorem l_f60_0_u (v3 v6 v9 : AV) (m : Mem) : l_f60_0 v3 v6 v9 m = loopK X F_f60 0 (sB (sB (sL (sR (sR (sR (sR c_f60))))))) B_f60_0 ⟨[Q, Q, Q, v3, Q, Q, v6, Q, Q, v9, Q, Q, Q, Q, Q, Q, Q, Q, Q, Q, Q, Q, Q, Q, Q, Q, Q, Q, Q, Q, Q, Q, Q, Q, Q, Q, Q, Q, Q, Q, Q, Q, Q, Q, Q, Q, Q, Q, Q, Q, Q, Q, Q, Q, Q, Q, Q, Q, Q, Q, Q, Q, Q, Q, Q, Q, Q, Q, Q, Q, Q, Q, Q, Q, Q, Q, Q, Q, Q, Q, Q, Q, Q, Q, Q, Q, Q, Q, Q, Q, Q, Q, Q, Q, Q, Q, Q, Q, Q, Q, Q, Q, Q, Q, Q, Q, Q, Q, Q, Q, Q, Q, Q, Q, Q, Q, Q, Q, Q, Q, Q, Q, Q, Q, Q, Q, Q, Q, Q, Q, Q, Q, Q, Q, Q, Q, Q, Q, Q, Q], []⟩ m := by kernel_rfl
theorem l_f60_0_r (v3 v6 v9 : AV) (m : Mem) : roundF X F_f60 0 (sB (sB (sL (sR (sR (sR (sR c_f60))))))) B_f60_0 [Q, Q, Q, v3, Q, Q, v6, Q, Q, v9, Q, Q, Q, Q, Q, Q, Q, Q, Q, Q, Q, Q, Q, Q, Q, Q, Q, Q, Q, Q, Q, Q, Q, Q, Q, Q, Q, Q, Q, Q, Q, Q, Q, Q, Q, Q, Q, Q, Q, Q, Q, Q, Q, Q, Q, Q, Q, Q, Q, Q, Q, Q, Q, Q, Q, Q, Q, Q, Q, Q, Q, Q, Q, Q, Q, Q, Q, Q, Q, Q, Q, Q, Q, Q, Q, Q, Q, Q, Q, Q, Q, Q, Q, Q, Q, Q, Q, Q, Q, Q, Q, Q, Q, Q, Q, Q, Q, Q, Q, Q, Q, Q, Q, Q, Q, Q, Q, Q, Q, Q, Q, Q, Q, Q, Q, Q, Q, Q, Q, Q, Q, Q, Q, Q, Q, Q, Q, Q, Q, Q] m =
  bnd (rLenSl v9) fun v26 =>
  bnd (aBin X.T .gtr T_int false true v26 (.int .i64 0)) fun v27 =>
  onBool v27
    (k_f60_1 v3 v6 v9 m)
    (k_f60_0 v3 v6 v9 m) := by kernel_rfl
theorem l_f60_0_eq (v3 v6 v9 : AV) (m : Mem) : l_f60_0 v3 v6 v9 m =
  bnd (rLenSl v9) fun v26 =>
  bnd (aBin X.T .gtr T_int false true v26 (.int .i64 0)) fun v27 =>
  onBool v27
    (k_f60_1 v3 v6 v9 m)
    (k_f60_0 v3 v6 v9 m) := roundF_of (l_f60_0_u v3 v6 v9 m) (l_f60_0_r v3 v6 v9 m)
theorem k_f60_1_eq (v3 v6 v9 : AV) (m : Mem) : k_f60_1 v3 v6 v9 m =
  bnd (rLoad true 1 m v3) fun v28 =>
  bnd (rLenSl v9) fun v31 =>
  bnd (aBin X.T .sub T_int false true v31 (.int .i64 1)) fun v32 =>
  bnd (rIxAddrSl 2 v9 v32) fun v33 =>
  bnd (rIxAddrArr 2 1 v33 (.int .i64 0)) fun v34 =>
  bnd (rLoad false 1 m v34) fun v35 =>
  retK (w_f83 v28 v35 m) (fun v36 m1 =>
  bnd (rLoad true 1 m1 v3) fun v37 =>
  bnd (rLenSl v9) fun v40 =>
  bnd (aBin X.T .sub T_int false true v40 (.int .i64 1)) fun v41 =>
  bnd (rIxAddrSl 2 v9 v41) fun v42 =>
  bnd (rIxAddrArr 2 1 v42 (.int .i64 1)) fun v43 =>
  bnd (rLoad false 1 m1 v43) fun v44 =>
  retK (w_f83 v37 v44 m1) (fun v45 m2 =>
  bnd (rLenSl v9) fun v48 =>
  bnd (aBin X.T .sub T_int false true v48 (.int .i64 1)) fun v49 =>
  bnd (rSliceSl 2 v9 none (some v49)) fun v50 =>
  bnd (aBin X.T .eql T_int false false v36 v45) fun v53 =>
  onBool v53
    (l_f60_0 v3 v6 v50 m2)
    (k_f60_2 v3 v6 v50 v36 v45 m2)) (fun u m2 => none)) (fun u m1 => none) := by kernel_rfl
theorem k_f60_2_eq (v3 v6 v9 v10 v11 : AV) (m : Mem) : k_f60_2 v3 v6 v9 v10 v11 m =
  bnd (rFieldAddr 0 v3) fun v54 =>
  bnd (rLoad false 1 m v54) fun v55 =>
  bnd (rIxAddrSl 4 v55 v10) fun v57 =>
  bnd (rFieldAddr 0 v57) fun v58 =>
  bnd (rLoad false 1 m v58) fun v59 =>
  bnd (aBin X.T .eql T_int false true v59 (.int .i64 1)) fun v60 =>
  onBool v60
    (bnd (rFieldAddr 0 v3) fun v61 =>
    bnd (rLoad false 1 m v61) fun v62 =>
    bnd (rIxAddrSl 4 v62 v10) fun v65 =>
    bnd (rFieldAddr 3 v65) fun v66 =>
    bnd (rStore 1 m v66 v11) fun m1 =>
    l_f60_0 v3 v6 v9 m1)
    (k_f60_3 v3 v6 v9 v10 v11 m) := by kernel_rfl
theorem k_f60_3_eq (v3 v6 v9 v10 v11 : AV) (m : Mem) : k_f60_3 v3 v6 v9 v10 v11 m =
  bnd (rFieldAddr 0 v3) fun v67 =>
  bnd (rLoad false 1 m v67) fun v68 =>
  bnd (rIxAddrSl 4 v68 v11) fun v70 =>
  bnd (rFieldAddr 0 v70) fun v71 =>
  bnd (rLoad false 1 m v71) fun v72 =>
  bnd (aBin X.T .eql T_int false true v72 (.int .i64 1)) fun v73 =>
  onBool v73
    (bnd (rFieldAddr 0 v3) fun v74 =>
    bnd (rLoad false 1 m v74) fun v75 =>
    bnd (rIxAddrSl 4 v75 v11) fun v78 =>
    bnd (rFieldAddr 3 v78) fun v79 =>
    bnd (rStore 1 m v79 v10) fun m1 =>
    l_f60_0 v3 v6 v9 m1)
    (k_f60_4 v3 v6 v9 v10 v11 m) := by kernel_rfl
theorem k_f60_4_eq (v3 v6 v9 v10 v11 : AV) (m : Mem) : k_f60_4 v3 v6 v9 v10 v11 m =
  bnd (rFieldAddr 0 v3) fun v80 =>
  bnd (rLoad false 1 m v80) fun v81 =>
  bnd (rIxAddrSl 4 v81 v10) fun v83 =>
  bnd (rLoad true 4 m v83) fun v84 =>
  memK (aBox m (.agg [.int .i64 0, .str (bs []), .nils, .int .i64 0])) fun v12 m1 =>
  bnd (rStore 4 m1 v12 v84) fun m2 =>
  bnd (rFieldAddr 0 v3) fun v85 =>
  bnd (rLoad false 1 m2 v85) fun v86 =>
  bnd (rIxAddrSl 4 v86 v11) fun v88 =>
  bnd (rLoad true 4 m2 v88) fun v89 =>
  memK (aBox m2 (.agg [.int .i64 0, .str (bs []), .nils, .int .i64 0])) fun v13 m3 =>
  bnd (rStore 4 m3 v13 v89) fun m4 =>
  bnd (rFieldAddr 0 v12) fun v90 =>
  bnd (rLoad false 1 m4 v90) fun v91 =>
  bnd (rFieldAddr 0 v13) fun v92 =>
  bnd (rLoad false 1 m4 v92) fun v93 =>
  bnd (aBin X.T .neq T_int false false v91 v93) fun v94 =>
  onWant v94
    (k_f60_6 v3 v6 v9 v10 v11 v12 v13 (.bool true) m4)
    (bnd (rFieldAddr 1 v12) fun v96 =>
  bnd (rLoad false 1 m4 v96) fun v97 =>
  bnd (rFieldAddr 1 v13) fun v98 =>
  bnd (rLoad false 1 m4 v98) fun v99 =>
  bnd (aBin X.T .neq T_string false false v97 v99) fun v100 =>
  onWant v100
    (k_f60_6 v3 v6 v9 v10 v11 v12 v13 (.bool true) m4)
    (bnd (rFieldAddr 2 v12) fun v103 =>
  bnd (rLoad false 1 m4 v103) fun v104 =>
  bnd (rLenSl v104) fun v105 =>
  bnd (rFieldAddr 2 v13) fun v106 =>
  bnd (rLoad false 1 m4 v106) fun v107 =>
  bnd (rLenSl v107) fun v108 =>
  bnd (aBin X.T .neq T_int false false v105 v108) fun v109 =>
  k_f60_6 v3 v6 v9 v10 v11 v12 v13 v109 m4)
    (none))
    (none) := by kernel_rfl
theorem k_f60_5_eq (v3 v6 v9 v10 v11 v12 v13 : AV) (m : Mem) : k_f60_5 v3 v6 v9 v10 v11 v12 v13 m =
  bnd (rFieldAddr 0 v3) fun v112 =>
  bnd (rLoad false 1 m v112) fun v113 =>
  bnd (rIxAddrSl 4 v113 v10) fun v116 =>
  bnd (rFieldAddr 3 v116) fun v117 =>
  bnd (rStore 1 m v117 v11) fun m1 =>
  l_f60_2 v3 v6 v9 v12 v13 (.int .i64 0) m1 := by kernel_rfl
theorem k_f60_6_eq (v3 v6 v9 v10 v11 v12 v13 v110 : AV) (m : Mem) : k_f60_6 v3 v6 v9 v10 v11 v12 v13 v110 m =
  onBool v110
    (bnd (rLoad true 1 m v3) fun v111 =>
    bnd (rStore 1 m v6 v111) fun m1 =>
    bnd (rLoad true 1 m1 v6) fun vr0 =>
    some (.ret (.tup [vr0, (.bool false)]), m1))
    (k_f60_5 v3 v6 v9 v10 v11 v12 v13 m) := by kernel_rfl
theorem l_f60_2_u (v3 v6 v9 v12 v13 v14 : AV) (m : Mem) : l_f60_2 v3 v6 v9 v12 v13 v14 m = loopK X F_f60 2 (sB (sB (sR (sR (sR (sR (sR (sR (sR (sR (sR (sR (sR (sB (sR (sB (sB (sL (sR (sR (sR (sR c_f60)))))))))))))))))))))) B_f60_2 ⟨[Q, Q, Q, v3, Q, Q, v6, Q, Q, v9, Q, Q, v12, v13, v14, Q, Q, Q, Q, Q, Q, Q, Q, Q, Q, Q, Q, Q, Q, Q, Q, Q, Q, Q, Q, Q, Q, Q, Q, Q, Q, Q, Q, Q, Q, Q, Q, Q, Q, Q, Q, Q, Q, Q, Q, Q, Q, Q, Q, Q, Q, Q, Q, Q, Q, Q, Q, Q, Q, Q, Q, Q, Q, Q, Q, Q, Q, Q, Q, Q, Q, Q, Q, Q, Q, Q, Q, Q, Q, Q, Q, Q, Q, Q, Q, Q, Q, Q, Q, Q, Q, Q, Q, Q, Q, Q, Q, Q, Q, Q, Q, Q, Q, Q, Q, Q, Q, Q, Q, Q, Q, Q, Q, Q, Q, Q, Q, Q, Q, Q, Q, Q, Q, Q, Q, Q, Q, Q, Q, Q], []⟩ m := by kernel_rfl
theorem l_f60_2_r (v3 v6 v9 v12 v13 v14 : AV) (m : Mem) : roundF X F_f60 2 (sB (sB (sR (sR (sR (sR (sR (sR (sR (sR (sR (sR (sR (sB (sR (sB (sB (sL (sR (sR (sR (sR c_f60)))))))))))))))))))))) B_f60_2 [Q, Q, Q, v3, Q, Q, v6, Q, Q, v9, Q, Q, v12, v13, v14, Q, Q, Q, Q, Q, Q, Q, Q, Q, Q, Q, Q, Q, Q, Q, Q, Q, Q, Q, Q, Q, Q, Q, Q, Q, Q, Q, Q, Q, Q, Q, Q, Q, Q, Q, Q, Q, Q, Q, Q, Q, Q, Q, Q, Q, Q, Q, Q, Q, Q, Q, Q, Q, Q, Q, Q, Q, Q, Q, Q, Q, Q, Q, Q, Q, Q, Q, Q, Q, Q, Q, Q, Q, Q, Q, Q, Q, Q, Q, Q, Q, Q, Q, Q, Q, Q, Q, Q, Q, Q, Q, Q, Q, Q, Q, Q, Q, Q, Q, Q, Q, Q, Q, Q, Q, Q, Q, Q, Q, Q, Q, Q, Q, Q, Q, Q, Q, Q, Q, Q, Q, Q, Q, Q, Q] m =
  bnd (rFieldAddr 2 v12) fun v119 =>
  bnd (rLoad false 1 m v119) fun v120 =>
  bnd (rLenSl v120) fun v121 =>
  bnd (aBin X.T .lss T_int false false v14 v121) fun v122 =>
  onBool v122
    (k_f60_7 v3 v6 v9 v12 v13 v14 m)
    (l_f60_0 v3 v6 v9 m) := by kernel_rfl
theorem l_f60_2_eq (v3 v6 v9 v12 v13 v14 : AV) (m : Mem) : l_f60_2 v3 v6 v9 v12 v13 v14 m =
  bnd (rFieldAddr 2 v12) fun v119 =>
  bnd (rLoad false 1 m v119) fun v120 =>
  bnd (rLenSl v120) fun v121 =>
  bnd (aBin X.T .lss T_int false false v14 v121) fun v122 =>
  onBool v122
    (k_f60_7 v3 v6 v9 v12 v13 v14 m)
    (l_f60_0 v3 v6 v9 m) := roundF_of (l_f60_2_u v3 v6 v9 v12 v13 v14 m) (l_f60_2_r v3 v6 v9 v12 v13 v14 m)
theorem k_f60_7_eq (v3 v6 v9 v12 v13 v14 : AV) (m : Mem) : k_f60_7 v3 v6 v9 v12 v13 v14 m =
  bnd (rFieldAddr 2 v12) fun v126 =>
  bnd (rLoad false 1 m v126) fun v127 =>
  bnd (rIxAddrSl 1 v127 v14) fun v129 =>
  bnd (rLoad false 1 m v129) fun v130 =>
  bnd (rFieldAddr 2 v13) fun v131 =>
  bnd (rLoad false 1 m v131) fun v132 =>
  bnd (rIxAddrSl 1 v132 v14) fun v134 =>
  bnd (rLoad false 1 m v134) fun v135 =>
  bnd (rBuild [.int .i64 0, .int .i64 0] [(0, 1, v130), (1, 1, v135)]) fun v136 =>
  memK (rRowSlice A_Ar2_int m 1 [(0, v136)]) fun v137 m1 =>
  memK (rAppend A_Ar2_int 1 m1 v9 v137) fun v138 m2 =>
  k_f60_8 v3 v6 v138 v12 v13 v14 m2 := by kernel_rfl
theorem k_f60_8_eq (v3 v6 v9 v12 v13 v14 : AV) (m : Mem) : k_f60_8 v3 v6 v9 v12 v13 v14 m =
  bnd (aBin X.T .add T_int false true v14 (.int .i64 1)) fun v124 =>
  l_f60_2 v3 v6 v9 v12 v13 v124 m := by kernel_rfl
noncomputable def c_f61 : Code := bodyOf Try.f61
noncomputable def N_f61 : AAct → Mem → Option (AOut × Mem) := finK X.T Try.f61.results.toList .normal
noncomputable def P_f61 : AExit → AAct → Mem → Option (AOut × Mem) := finK X.T Try.f61.results.toList
noncomputable def K_f61_0 : AAct → Mem → Option (AOut × Mem) := execF X F_f61 0 (sR (sR (sR c_f61))) N_f61 P_f61
noncomputable def K_f61_1 : AAct → Mem → Option (AOut × Mem) := execF X F_f61 0 (sR (sR (sR (sR (sR c_f61))))) N_f61 P_f61
noncomputable def B_f61_0 : AExit → AAct → Mem → Option (AOut × Mem) := blockX 0 K_f61_1 P_f61
noncomputable def L_f61_0 : AAct → Mem → Option (AOut × Mem) := fun a m => killF (X.lk F_f61 0) a.tmps fun l => loopK X F_f61 0 (sB (sB (sR (sL (sR (sR (sR (sR c_f61)))))))) B_f61_0 ⟨l, a.defers⟩ m
noncomputable def K_f61_2 : AAct → Mem → Option (AOut × Mem) := execF X F_f61 0 (sR (sR (sB (sB (sR (sL (sR (sR (sR (sR c_f61)))))))))) L_f61_0 B_f61_0
noncomputable def K_f61_3 : AAct → Mem → Option (AOut × Mem) := execF X F_f61 0 (sR (sR (sR (sB (sB (sR (sL (sR (sR (sR (sR c_f61))))))))))) L_f61_0 B_f61_0
noncomputable def k_f61_0 (v0 v1 v2 v7 : AV) (m : Mem) : Option (AOut × Mem) := K_f61_0 ⟨[v0, v1, v2, Q, Q, Q, Q, v7, Q, Q, Q, Q, Q, Q, Q, Q, Q, Q, Q, Q, Q, Q, Q, Q, Q, Q, Q, Q, Q, Q, Q, Q, Q, Q, Q, Q, Q, Q, Q, Q, Q, Q, Q, Q, Q], []⟩ m
noncomputable def k_f61_1 (v0 v1 v2 v32 v33 v34 : AV) (m : Mem) : Option (AOut × Mem) := K_f61_1 ⟨[v0, v1, v2, Q, Q, Q, Q, Q, Q, Q, Q, Q, Q, Q, Q, Q, Q, Q, Q, Q, Q, Q, Q, Q, Q, Q, Q, Q, Q, Q, Q, Q, v32, v33, v34, Q, Q, Q, Q, Q, Q, Q, Q, Q, Q], []⟩ m
noncomputable def l_f61_0 (v0 v1 v2 v32 v33 v34 : AV) (m : Mem) : Option (AOut × Mem) := L_f61_0 ⟨[v0, v1, v2, Q, Q, Q, Q, Q, Q, Q, Q, Q, Q, Q, Q, Q, Q, Q, Q, Q, Q, Q, Q, Q, Q, Q, Q, Q, Q, Q, Q, Q, v32, v33, v34, Q, Q, Q, Q, Q, Q, Q, Q, Q, Q], []⟩ m
noncomputable def k_f61_2 (v0 v1 v2 v32 v33 v34 : AV) (m : Mem) : Option (AOut × Mem) := K_f61_2 ⟨[v0, v1, v2, Q, Q, Q, Q, Q, Q, Q, Q, Q, Q, Q, Q, Q, Q, Q, Q, Q, Q, Q, Q, Q, Q, Q, Q, Q, Q, Q, Q, Q, v32, v33, v34, Q, Q, Q, Q, Q, Q, Q, Q, Q, Q], []⟩ m
noncomputable def k_f61_3 (v0 v1 v2 v32 v33 v34 : AV) (m : Mem) : Option (AOut × Mem) := K_f61_3 ⟨[v0, v1, v2, Q, Q, Q, Q, Q, Q, Q, Q, Q, Q, Q, Q, Q, Q, Q, Q, Q, Q, Q, Q, Q, Q, Q, Q, Q, Q, Q, Q, Q, v32, v33, v34, Q, Q, Q, Q, Q, Q, Q, Q, Q, Q], []⟩ m
theorem e_f61 (v0 v1 v2 : AV) (m : Mem) : w_f61 v0 v1 v2 m =
  retK (w_f82 v0 v1 m) (fun v13 m1 =>
  bnd (rLookup A_int A_bool m1 v2 v13 true) fun v17 =>
  bnd (aExtract v17 0) fun v18 =>
  bnd (aExtract v17 1) fun v19 =>
  onBool v19
    (bnd (aUn .not v18) fun v22 =>
    some (.ret v22, m1))
    (k_f61_0 v0 v13 v2 v18 m1)) (fun u m1 => some (.pan u, m1)) := (aW_F (c := c_f61) (fn := Try.f61) (by kernel_rfl) (by kernel_rfl) (by kernel_rfl) _ m).trans (by kernel_rfl)
theorem k_f61_0_eq (v0 v1 v2 v7 : AV) (m : Mem) : k_f61_0 v0 v1 v2 v7 m =
  bnd (rMapUpdate A_int m v2 v1 (.bool false)) fun m1 =>
  nilK v0
  (bnd (rFieldAddr 0 v0) fun v27 =>
  bnd (rLoad false 1 m1 v27) fun v28 =>
  bnd (rIxAddrSl 4 v28 v1) fun v30 =>
  bnd (rFieldAddr 2 v30) fun v31 =>
  bnd (rLoad false 1 m1 v31) fun v32 =>
  bnd (rLenSl v32) fun v33 =>
  l_f61_0 v0 v1 v2 v32 v33 (.int .i64 0) m1) := by kernel_rfl
theorem k_f61_1_eq (v0 v1 v2 v32 v33 v34 : AV) (m : Mem) : k_f61_1 v0 v1 v2 v32 v33 v34 m =
  bnd (rMapUpdate A_int m v2 v1 (.bool true)) fun m1 =>
  some (.ret (.bool false), m1) := by kernel_rfl
theorem l_f61_0_u (v0 v1 v2 v32 v33 v34 : AV) (m : Mem) : l_f61_0 v0 v1 v2 v32 v33 v34 m = loopK X F_f61 0 (sB (sB (sR (sL (sR (sR (sR (sR c_f61)))))))) B_f61_0 ⟨[v0, v1, v2, Q, Q, Q, Q, Q, Q, Q, Q, Q, Q, Q, Q, Q, Q, Q, Q, Q, Q, Q, Q, Q, Q, Q, Q, Q, Q, Q, Q, Q, v32, v33, v34, Q, Q, Q, Q, Q, Q, Q, Q, Q, Q], []⟩ m := by kernel_rfl
theorem l_f61_0_r (v0 v1 v2 v32 v33 v34 : AV) (m : Mem) : roundF X F_f61 0 (sB (sB (sR (sL (sR (sR (sR (sR c_f61)))))))) B_f61_0 [v0, v1, v2, Q, Q, Q, Q, Q, Q, Q, Q, Q, Q, Q, Q, Q, Q, Q, Q, Q, Q, Q, Q, Q, Q, Q, Q, Q, Q, Q, Q, Q, v32, v33, v34, Q, Q, Q, Q, Q, Q, Q, Q, Q, Q] m =
  bnd (aBin X.T .lss T_int false false v34 v33) fun v35 =>
  onBool v35
    (k_f61_2 v0 v1 v2 v32 v33 v34 m)
    (k_f61_1 v0 v1 v2 v32 v33 v34 m) := by kernel_rfl
theorem l_f61_0_eq (v0 v1 v2 v32 v33 v34 : AV) (m : Mem) : l_f61_0 v0 v1 v2 v32 v33 v34 m =
  bnd (aBin X.T .lss T_int false false v34 v33) fun v35 =>
  onBool v35
    (k_f61_2 v0 v1 v2 v32 v33 v34 m)
    (k_f61_1 v0 v1 v2 v32 v33 v34 m) := roundF_of (l_f61_0_u v0 v1 v2 v32 v33 v34 m) (l_f61_0_r v0 v1 v2 v32 v33 v34 m)
theorem k_f61_2_eq (v0 v1 v2 v32 v33 v34 : AV) (m : Mem) : k_f61_2 v0 v1 v2 v32 v33 v34 m =
  bnd (rIxAddrSl 1 v32 v34) fun v36 =>
  bnd (rLoad false 1 m v36) fun v37 =>
  retK (w_f61 v0 v37 v2 m) (fun v41 m1 =>
  onBool v41
    (some (.ret (.bool true), m1))
    (k_f61_3 v0 v1 v2 v32 v33 v34 m1)) (fun u m1 => some (.pan u, m1)) := by kernel_rfl
theorem k_f61_3_eq (v0 v1 v2 v32 v33 v34 : AV) (m : Mem) : k_f61_3 v0 v1 v2 v32 v33 v34 m =
  bnd (aBin X.T .add T_int false true v34 (.int .i64 1)) fun v42 =>
  l_f61_0 v0 v1 v2 v32 v33 v42 m := by kernel_rfl
noncomputable def c_f62 : Code := bodyOf Try.f62
theorem e_f62 (v0 v1 v2 v3 : AV) (m : Mem) : w_f62 v0 v1 v2 v3 m =
  nilK v0
  (bnd (rFieldAddr 0 v0) fun v12 =>
  bnd (rLoad false 1 m v12) fun v13 =>
  retK (w_f86 v3 m) (fun v17 m1 =>
  bnd (rBuild [.int .i64 0, .str (bs []), .nils, .int .i64 0] [(0, 1, v1), (1, 1, v2), (2, 1, v17), (3, 1, (.int .i64 (-1)))]) fun v18 =>
  bnd (rBuildSlice A_unify_node 1 [(0, v18)]) fun v19 =>
  memK (rAppend A_unify_node 1 m1 v13 v19) fun v20 m2 =>
  nilK v0
  (bnd (rFieldAddr 0 v0) fun v22 =>
  bnd (rStore 1 m2 v22 v20) fun m3 =>
  bnd (rLoad false 1 m1 v12) fun u =>
  sameK u v13 <|
  nilK v0
  (bnd (rFieldAddr 0 v0) fun v25 =>
  bnd (rLoad false 1 m3 v25) fun v26 =>
  bnd (rLenSl v26) fun v27 =>
  bnd (aBin X.T .sub T_int false true v27 (.int .i64 1)) fun v28 =>
  some (.ret v28, m3)))) (fun u m1 => none)) := (aW_F (c := c_f62) (fn := Try.f62) (by kernel_rfl) (by kernel_rfl) (by kernel_rfl) _ m).trans (by kernel_rfl)
end Go.AM
