/-
  A part of the proof: equations or tables of the program over the abstract machine, printed by a program of this proof's own.
-/
import Derived.Test.YtpffgljpkehgmaaGCtx
set_option linter.unusedVariables false
set_option linter.unusedSimpArgs false
namespace Go.AM
open Go.Proofs
set_option maxRecDepth 100000
set_option linter.unusedVariables false
noncomputable def c_f25 : Code := bodyOf Try.f25
noncomputable def N_f25 : AAct → Mem → Option (AOut × Mem) := finK X.T Try.f25.results.toList .normal
noncomputable def P_f25 : AExit → AAct → Mem → Option (AOut × Mem) := finK X.T Try.f25.results.toList
noncomputable def K_f25_0 : AAct → Mem → Option (AOut × Mem) := execF X F_f25 0 (sR (sR c_f25)) N_f25 P_f25
noncomputable def B_f25_0 : AExit → AAct → Mem → Option (AOut × Mem) := blockX 0 K_f25_0 P_f25
noncomputable def L_f25_0 : AAct → Mem → Option (AOut × Mem) := fun a m => killF (X.lk F_f25 0) a.tmps fun l => loopK X F_f25 0 (sB (sB (sR (sL (sR c_f25))))) B_f25_0 ⟨l, a.defers⟩ m
noncomputable def K_f25_1 : AAct → Mem → Option (AOut × Mem) := execF X F_f25 0 (sR (sR (sR (sR (sR (sR c_f25)))))) N_f25 P_f25
noncomputable def B_f25_2 : AExit → AAct → Mem → Option (AOut × Mem) := blockX 2 K_f25_1 P_f25
noncomputable def L_f25_2 : AAct → Mem → Option (AOut × Mem) := fun a m => killF (X.lk F_f25 2) a.tmps fun l => loopK X F_f25 2 (sB (sB (sR (sL (sR (sR (sR (sR (sR c_f25))))))))) B_f25_2 ⟨l, a.defers⟩ m
noncomputable def K_f25_2 : AAct → Mem → Option (AOut × Mem) := execF X F_f25 0 (sR (sB (sB (sR (sL (sR c_f25)))))) L_f25_0 B_f25_0
noncomputable def K_f25_3 : AAct → Mem → Option (AOut × Mem) := execF X F_f25 0 (sR (sR (sR (sR (sR (sR (sR (sR c_f25)))))))) N_f25 P_f25
noncomputable def B_f25_4 : AExit → AAct → Mem → Option (AOut × Mem) := blockX 4 K_f25_3 P_f25
noncomputable def L_f25_4 : AAct → Mem → Option (AOut × Mem) := fun a m => killF (X.lk F_f25 4) a.tmps fun l => loopK X F_f25 4 (sB (sB (sR (sL (sR (sR (sR (sR (sR (sR (sR c_f25))))))))))) B_f25_4 ⟨l, a.defers⟩ m
noncomputable def K_f25_4 : AAct → Mem → Option (AOut × Mem) := execF X F_f25 2 (sR (sB (sB (sR (sL (sR (sR (sR (sR (sR c_f25)))))))))) L_f25_2 B_f25_2
noncomputable def K_f25_5 : AAct → Mem → Option (AOut × Mem) := execF X F_f25 0 (sR (sR (sB (sB (sR (sL (sR c_f25))))))) L_f25_0 B_f25_0
noncomputable def K_f25_6 : AAct → Mem → Option (AOut × Mem) := execF X F_f25 0 (sR (sR (sR (sR (sR (sR (sR (sR (sR (sR c_f25)))))))))) N_f25 P_f25
noncomputable def B_f25_6 : AExit → AAct → Mem → Option (AOut × Mem) := blockX 6 K_f25_6 P_f25
noncomputable def L_f25_6 : AAct → Mem → Option (AOut × Mem) := fun a m => killF (X.lk F_f25 6) a.tmps fun l => loopK X F_f25 6 (sB (sB (sR (sL (sR (sR (sR (sR (sR (sR (sR (sR (sR c_f25))))))))))))) B_f25_6 ⟨l, a.defers⟩ m
noncomputable def K_f25_7 : AAct → Mem → Option (AOut × Mem) := execF X F_f25 4 (sR (sB (sB (sR (sL (sR (sR (sR (sR (sR (sR (sR c_f25)))))))))))) L_f25_4 B_f25_4
noncomputable def K_f25_8 : AAct → Mem → Option (AOut × Mem) := execF X F_f25 2 (sR (sR (sB (sB (sR (sL (sR (sR (sR (sR (sR c_f25))))))))))) L_f25_2 B_f25_2
noncomputable def B_f25_3 : AExit → AAct → Mem → Option (AOut × Mem) := blockX 3 K_f25_8 B_f25_2
noncomputable def K_f25_9 : AAct → Mem → Option (AOut × Mem) := execF X F_f25 3 (sR (sB (sL (sR (sB (sB (sR (sL (sR (sR (sR (sR (sR c_f25))))))))))))) K_f25_8 B_f25_3
noncomputable def K_f25_10 : AAct → Mem → Option (AOut × Mem) := execF X F_f25 6 (sR (sB (sB (sR (sL (sR (sR (sR (sR (sR (sR (sR (sR (sR c_f25)))))))))))))) L_f25_6 B_f25_6
noncomputable def K_f25_11 : AAct → Mem → Option (AOut × Mem) := execF X F_f25 4 (sR (sR (sB (sB (sR (sL (sR (sR (sR (sR (sR (sR (sR c_f25))))))))))))) L_f25_4 B_f25_4
noncomputable def K_f25_12 : AAct → Mem → Option (AOut × Mem) := execF X F_f25 6 (sR (sR (sB (sB (sR (sL (sR (sR (sR (sR (sR (sR (sR (sR (sR c_f25))))))))))))))) L_f25_6 B_f25_6
noncomputable def k_f25_0 (v1 v2 v6 : AV) (m : Mem) : Option (AOut × Mem) := K_f25_0 ⟨[Q, v1, v2, Q, Q, Q, v6, Q, Q, Q, Q, Q, Q, Q, Q, Q, Q, Q, Q, Q, Q, Q, Q, Q, Q, Q, Q, Q, Q, Q, Q, Q, Q, Q, Q, Q, Q, Q, Q, Q, Q, Q, Q, Q, Q, Q, Q, Q, Q, Q, Q, Q, Q, Q, Q, Q, Q, Q, Q, Q, Q, Q, Q, Q, Q, Q, Q, Q, Q, Q, Q, Q, Q, Q, Q, Q, Q, Q, Q, Q, Q, Q, Q, Q, Q, Q, Q, Q, Q, Q, Q, Q, Q, Q, Q, Q], []⟩ m
noncomputable def l_f25_0 (v1 v2 v6 : AV) (m : Mem) : Option (AOut × Mem) := L_f25_0 ⟨[Q, v1, v2, Q, Q, Q, v6, Q, Q, Q, Q, Q, Q, Q, Q, Q, Q, Q, Q, Q, Q, Q, Q, Q, Q, Q, Q, Q, Q, Q, Q, Q, Q, Q, Q, Q, Q, Q, Q, Q, Q, Q, Q, Q, Q, Q, Q, Q, Q, Q, Q, Q, Q, Q, Q, Q, Q, Q, Q, Q, Q, Q, Q, Q, Q, Q, Q, Q, Q, Q, Q, Q, Q, Q, Q, Q, Q, Q, Q, Q, Q, Q, Q, Q, Q, Q, Q, Q, Q, Q, Q, Q, Q, Q, Q, Q], []⟩ m
noncomputable def k_f25_1 (v1 v2 v7 v8 v9 v10 : AV) (m : Mem) : Option (AOut × Mem) := K_f25_1 ⟨[Q, v1, v2, Q, Q, Q, Q, v7, v8, v9, v10, Q, Q, Q, Q, Q, Q, Q, Q, Q, Q, Q, Q, Q, Q, Q, Q, Q, Q, Q, Q, Q, Q, Q, Q, Q, Q, Q, Q, Q, Q, Q, Q, Q, Q, Q, Q, Q, Q, Q, Q, Q, Q, Q, Q, Q, Q, Q, Q, Q, Q, Q, Q, Q, Q, Q, Q, Q, Q, Q, Q, Q, Q, Q, Q, Q, Q, Q, Q, Q, Q, Q, Q, Q, Q, Q, Q, Q, Q, Q, Q, Q, Q, Q, Q, Q], []⟩ m
noncomputable def l_f25_2 (v1 v2 v7 v8 v9 v10 : AV) (m : Mem) : Option (AOut × Mem) := L_f25_2 ⟨[Q, v1, v2, Q, Q, Q, Q, v7, v8, v9, v10, Q, Q, Q, Q, Q, Q, Q, Q, Q, Q, Q, Q, Q, Q, Q, Q, Q, Q, Q, Q, Q, Q, Q, Q, Q, Q, Q, Q, Q, Q, Q, Q, Q, Q, Q, Q, Q, Q, Q, Q, Q, Q, Q, Q, Q, Q, Q, Q, Q, Q, Q, Q, Q, Q, Q, Q, Q, Q, Q, Q, Q, Q, Q, Q, Q, Q, Q, Q, Q, Q, Q, Q, Q, Q, Q, Q, Q, Q, Q, Q, Q, Q, Q, Q, Q], []⟩ m
noncomputable def k_f25_2 (v1 v2 v6 : AV) (m : Mem) : Option (AOut × Mem) := K_f25_2 ⟨[Q, v1, v2, Q, Q, Q, v6, Q, Q, Q, Q, Q, Q, Q, Q, Q, Q, Q, Q, Q, Q, Q, Q, Q, Q, Q, Q, Q, Q, Q, Q, Q, Q, Q, Q, Q, Q, Q, Q, Q, Q, Q, Q, Q, Q, Q, Q, Q, Q, Q, Q, Q, Q, Q, Q, Q, Q, Q, Q, Q, Q, Q, Q, Q, Q, Q, Q, Q, Q, Q, Q, Q, Q, Q, Q, Q, Q, Q, Q, Q, Q, Q, Q, Q, Q, Q, Q, Q, Q, Q, Q, Q, Q, Q, Q, Q], []⟩ m
noncomputable def k_f25_3 (v8 v9 v12 v13 : AV) (m : Mem) : Option (AOut × Mem) := K_f25_3 ⟨[Q, Q, Q, Q, Q, Q, Q, Q, v8, v9, Q, Q, v12, v13, Q, Q, Q, Q, Q, Q, Q, Q, Q, Q, Q, Q, Q, Q, Q, Q, Q, Q, Q, Q, Q, Q, Q, Q, Q, Q, Q, Q, Q, Q, Q, Q, Q, Q, Q, Q, Q, Q, Q, Q, Q, Q, Q, Q, Q, Q, Q, Q, Q, Q, Q, Q, Q, Q, Q, Q, Q, Q, Q, Q, Q, Q, Q, Q, Q, Q, Q, Q, Q, Q, Q, Q, Q, Q, Q, Q, Q, Q, Q, Q, Q, Q], []⟩ m
noncomputable def l_f25_4 (v8 v9 v12 v13 : AV) (m : Mem) : Option (AOut × Mem) := L_f25_4 ⟨[Q, Q, Q, Q, Q, Q, Q, Q, v8, v9, Q, Q, v12, v13, Q, Q, Q, Q, Q, Q, Q, Q, Q, Q, Q, Q, Q, Q, Q, Q, Q, Q, Q, Q, Q, Q, Q, Q, Q, Q, Q, Q, Q, Q, Q, Q, Q, Q, Q, Q, Q, Q, Q, Q, Q, Q, Q, Q, Q, Q, Q, Q, Q, Q, Q, Q, Q, Q, Q, Q, Q, Q, Q, Q, Q, Q, Q, Q, Q, Q, Q, Q, Q, Q, Q, Q, Q, Q, Q, Q, Q, Q, Q, Q, Q, Q], []⟩ m
noncomputable def k_f25_4 (v1 v2 v7 v8 v9 v10 : AV) (m : Mem) : Option (AOut × Mem) := K_f25_4 ⟨[Q, v1, v2, Q, Q, Q, Q, v7, v8, v9, v10, Q, Q, Q, Q, Q, Q, Q, Q, Q, Q, Q, Q, Q, Q, Q, Q, Q, Q, Q, Q, Q, Q, Q, Q, Q, Q, Q, Q, Q, Q, Q, Q, Q, Q, Q, Q, Q, Q, Q, Q, Q, Q, Q, Q, Q, Q, Q, Q, Q, Q, Q, Q, Q, Q, Q, Q, Q, Q, Q, Q, Q, Q, Q, Q, Q, Q, Q, Q, Q, Q, Q, Q, Q, Q, Q, Q, Q, Q, Q, Q, Q, Q, Q, Q, Q], []⟩ m
noncomputable def k_f25_5 (v1 v2 v6 : AV) (m : Mem) : Option (AOut × Mem) := K_f25_5 ⟨[Q, v1, v2, Q, Q, Q, v6, Q, Q, Q, Q, Q, Q, Q, Q, Q, Q, Q, Q, Q, Q, Q, Q, Q, Q, Q, Q, Q, Q, Q, Q, Q, Q, Q, Q, Q, Q, Q, Q, Q, Q, Q, Q, Q, Q, Q, Q, Q, Q, Q, Q, Q, Q, Q, Q, Q, Q, Q, Q, Q, Q, Q, Q, Q, Q, Q, Q, Q, Q, Q, Q, Q, Q, Q, Q, Q, Q, Q, Q, Q, Q, Q, Q, Q, Q, Q, Q, Q, Q, Q, Q, Q, Q, Q, Q, Q], []⟩ m
noncomputable def k_f25_6 (v9 v12 v14 v15 : AV) (m : Mem) : Option (AOut × Mem) := K_f25_6 ⟨[Q, Q, Q, Q, Q, Q, Q, Q, Q, v9, Q, Q, v12, Q, v14, v15, Q, Q, Q, Q, Q, Q, Q, Q, Q, Q, Q, Q, Q, Q, Q, Q, Q, Q, Q, Q, Q, Q, Q, Q, Q, Q, Q, Q, Q, Q, Q, Q, Q, Q, Q, Q, Q, Q, Q, Q, Q, Q, Q, Q, Q, Q, Q, Q, Q, Q, Q, Q, Q, Q, Q, Q, Q, Q, Q, Q, Q, Q, Q, Q, Q, Q, Q, Q, Q, Q, Q, Q, Q, Q, Q, Q, Q, Q, Q, Q], []⟩ m
noncomputable def l_f25_6 (v9 v12 v14 v15 : AV) (m : Mem) : Option (AOut × Mem) := L_f25_6 ⟨[Q, Q, Q, Q, Q, Q, Q, Q, Q, v9, Q, Q, v12, Q, v14, v15, Q, Q, Q, Q, Q, Q, Q, Q, Q, Q, Q, Q, Q, Q, Q, Q, Q, Q, Q, Q, Q, Q, Q, Q, Q, Q, Q, Q, Q, Q, Q, Q, Q, Q, Q, Q, Q, Q, Q, Q, Q, Q, Q, Q, Q, Q, Q, Q, Q, Q, Q, Q, Q, Q, Q, Q, Q, Q, Q, Q, Q, Q, Q, Q, Q, Q, Q, Q, Q, Q, Q, Q, Q, Q, Q, Q, Q, Q, Q, Q], []⟩ m
noncomputable def k_f25_7 (v8 v9 v12 v13 : AV) (m : Mem) : Option (AOut × Mem) := K_f25_7 ⟨[Q, Q, Q, Q, Q, Q, Q, Q, v8, v9, Q, Q, v12, v13, Q, Q, Q, Q, Q, Q, Q, Q, Q, Q, Q, Q, Q, Q, Q, Q, Q, Q, Q, Q, Q, Q, Q, Q, Q, Q, Q, Q, Q, Q, Q, Q, Q, Q, Q, Q, Q, Q, Q, Q, Q, Q, Q, Q, Q, Q, Q, Q, Q, Q, Q, Q, Q, Q, Q, Q, Q, Q, Q, Q, Q, Q, Q, Q, Q, Q, Q, Q, Q, Q, Q, Q, Q, Q, Q, Q, Q, Q, Q, Q, Q, Q], []⟩ m
noncomputable def k_f25_8 (v1 v2 v7 v8 v9 v10 : AV) (m : Mem) : Option (AOut × Mem) := K_f25_8 ⟨[Q, v1, v2, Q, Q, Q, Q, v7, v8, v9, v10, Q, Q, Q, Q, Q, Q, Q, Q, Q, Q, Q, Q, Q, Q, Q, Q, Q, Q, Q, Q, Q, Q, Q, Q, Q, Q, Q, Q, Q, Q, Q, Q, Q, Q, Q, Q, Q, Q, Q, Q, Q, Q, Q, Q, Q, Q, Q, Q, Q, Q, Q, Q, Q, Q, Q, Q, Q, Q, Q, Q, Q, Q, Q, Q, Q, Q, Q, Q, Q, Q, Q, Q, Q, Q, Q, Q, Q, Q, Q, Q, Q, Q, Q, Q, Q], []⟩ m
noncomputable def k_f25_9 (v1 v2 v7 v8 v9 v10 : AV) (m : Mem) : Option (AOut × Mem) := K_f25_9 ⟨[Q, v1, v2, Q, Q, Q, Q, v7, v8, v9, v10, Q, Q, Q, Q, Q, Q, Q, Q, Q, Q, Q, Q, Q, Q, Q, Q, Q, Q, Q, Q, Q, Q, Q, Q, Q, Q, Q, Q, Q, Q, Q, Q, Q, Q, Q, Q, Q, Q, Q, Q, Q, Q, Q, Q, Q, Q, Q, Q, Q, Q, Q, Q, Q, Q, Q, Q, Q, Q, Q, Q, Q, Q, Q, Q, Q, Q, Q, Q, Q, Q, Q, Q, Q, Q, Q, Q, Q, Q, Q, Q, Q, Q, Q, Q, Q], []⟩ m
noncomputable def k_f25_10 (v9 v12 v14 v15 : AV) (m : Mem) : Option (AOut × Mem) := K_f25_10 ⟨[Q, Q, Q, Q, Q, Q, Q, Q, Q, v9, Q, Q, v12, Q, v14, v15, Q, Q, Q, Q, Q, Q, Q, Q, Q, Q, Q, Q, Q, Q, Q, Q, Q, Q, Q, Q, Q, Q, Q, Q, Q, Q, Q, Q, Q, Q, Q, Q, Q, Q, Q, Q, Q, Q, Q, Q, Q, Q, Q, Q, Q, Q, Q, Q, Q, Q, Q, Q, Q, Q, Q, Q, Q, Q, Q, Q, Q, Q, Q, Q, Q, Q, Q, Q, Q, Q, Q, Q, Q, Q, Q, Q, Q, Q, Q, Q], []⟩ m
noncomputable def k_f25_11 (v8 v9 v12 v13 : AV) (m : Mem) : Option (AOut × Mem) := K_f25_11 ⟨[Q, Q, Q, Q, Q, Q, Q, Q, v8, v9, Q, Q, v12, v13, Q, Q, Q, Q, Q, Q, Q, Q, Q, Q, Q, Q, Q, Q, Q, Q, Q, Q, Q, Q, Q, Q, Q, Q, Q, Q, Q, Q, Q, Q, Q, Q, Q, Q, Q, Q, Q, Q, Q, Q, Q, Q, Q, Q, Q, Q, Q, Q, Q, Q, Q, Q, Q, Q, Q, Q, Q, Q, Q, Q, Q, Q, Q, Q, Q, Q, Q, Q, Q, Q, Q, Q, Q, Q, Q, Q, Q, Q, Q, Q, Q, Q], []⟩ m
noncomputable def k_f25_12 (v9 v12 v14 v15 : AV) (m : Mem) : Option (AOut × Mem) := K_f25_12 ⟨[Q, Q, Q, Q, Q, Q, Q, Q, Q, v9, Q, Q, v12, Q, v14, v15, Q, Q, Q, Q, Q, Q, Q, Q, Q, Q, Q, Q, Q, Q, Q, Q, Q, Q, Q, Q, Q, Q, Q, Q, Q, Q, Q, Q, Q, Q, Q, Q, Q, Q, Q, Q, Q, Q, Q, Q, Q, Q, Q, Q, Q, Q, Q, Q, Q, Q, Q, Q, Q, Q, Q, Q, Q, Q, Q, Q, Q, Q, Q, Q, Q, Q, Q, Q, Q, Q, Q, Q, Q, Q, Q, Q, Q, Q, Q, Q], []⟩ m
theorem e_f25 (v0 v1 : AV) (m : Mem) : w_f25 v0 v1 m =
  memK (aBox m v0) fun v2 m1 =>
  l_f25_0 v1 v2 (.int .i64 0) m1 := (aW_F (c := c_f25) (fn := Try.f25) (by kernel_rfl) (by kernel_rfl) (by kernel_rfl) _ m).trans (by kernel_rfl)
theorem k_f25_0_eq (v1 v2 v6 : AV) (m : Mem) : k_f25_0 v1 v2 v6 m =
  bnd (rFieldAddr 0 v2) fun v29 =>
  bnd (rLoad false 1 m v29) fun v30 =>
  bnd (rLenSl v30) fun v31 =>
  memK (rMakeSlice A_int 0 m v31 v31) fun v32 m1 =>
  bnd (rBuildSlice A_int 0 []) fun v33 =>
  bnd (rBuildSlice A_api_Type 0 []) fun v34 =>
  l_f25_2 v1 v2 v32 v33 v34 (.int .i64 0) m1 := by kernel_rfl
theorem l_f25_0_u (v1 v2 v6 : AV) (m : Mem) : l_f25_0 v1 v2 v6 m = loopK X F_f25 0 (sB (sB (sR (sL (sR c_f25))))) B_f25_0 ⟨[Q, v1, v2, Q, Q, Q, v6, Q, Q, Q, Q, Q, Q, Q, Q, Q, Q, Q, Q, Q, Q, Q, Q, Q, Q, Q, Q, Q, Q, Q, Q, Q, Q, Q, Q, Q, Q, Q, Q, Q, Q, Q, Q, Q, Q, Q, Q, Q, Q, Q, Q, Q, Q, Q, Q, Q, Q, Q, Q, Q, Q, Q, Q, Q, Q, Q, Q, Q, Q, Q, Q, Q, Q, Q, Q, Q, Q, Q, Q, Q, Q, Q, Q, Q, Q, Q, Q, Q, Q, Q, Q, Q, Q, Q, Q, Q], []⟩ m := by kernel_rfl
theorem l_f25_0_r (v1 v2 v6 : AV) (m : Mem) : roundF X F_f25 0 (sB (sB (sR (sL (sR c_f25))))) B_f25_0 [Q, v1, v2, Q, Q, Q, v6, Q, Q, Q, Q, Q, Q, Q, Q, Q, Q, Q, Q, Q, Q, Q, Q, Q, Q, Q, Q, Q, Q, Q, Q, Q, Q, Q, Q, Q, Q, Q, Q, Q, Q, Q, Q, Q, Q, Q, Q, Q, Q, Q, Q, Q, Q, Q, Q, Q, Q, Q, Q, Q, Q, Q, Q, Q, Q, Q, Q, Q, Q, Q, Q, Q, Q, Q, Q, Q, Q, Q, Q, Q, Q, Q, Q, Q, Q, Q, Q, Q, Q, Q, Q, Q, Q, Q, Q, Q] m =
  bnd (rLenSl v1) fun v18 =>
  bnd (aBin X.T .lss T_int false false v6 v18) fun v19 =>
  onBool v19
    (k_f25_2 v1 v2 v6 m)
    (k_f25_0 v1 v2 v6 m) := by kernel_rfl
theorem l_f25_0_eq (v1 v2 v6 : AV) (m : Mem) : l_f25_0 v1 v2 v6 m =
  bnd (rLenSl v1) fun v18 =>
  bnd (aBin X.T .lss T_int false false v6 v18) fun v19 =>
  onBool v19
    (k_f25_2 v1 v2 v6 m)
    (k_f25_0 v1 v2 v6 m) := roundF_of (l_f25_0_u v1 v2 v6 m) (l_f25_0_r v1 v2 v6 m)
theorem k_f25_1_eq (v1 v2 v7 v8 v9 v10 : AV) (m : Mem) : k_f25_1 v1 v2 v7 v8 v9 v10 m =
  bnd (rFieldAddr 0 v2) fun v62 =>
  bnd (rLoad false 1 m v62) fun v63 =>
  bnd (rLenSl v63) fun v64 =>
  memK (rMakeSlice A_int 0 m v64 v64) fun v65 m1 =>
  l_f25_4 v8 v9 v65 (.int .i64 0) m1 := by kernel_rfl
theorem l_f25_2_u (v1 v2 v7 v8 v9 v10 : AV) (m : Mem) : l_f25_2 v1 v2 v7 v8 v9 v10 m = loopK X F_f25 2 (sB (sB (sR (sL (sR (sR (sR (sR (sR c_f25))))))))) B_f25_2 ⟨[Q, v1, v2, Q, Q, Q, Q, v7, v8, v9, v10, Q, Q, Q, Q, Q, Q, Q, Q, Q, Q, Q, Q, Q, Q, Q, Q, Q, Q, Q, Q, Q, Q, Q, Q, Q, Q, Q, Q, Q, Q, Q, Q, Q, Q, Q, Q, Q, Q, Q, Q, Q, Q, Q, Q, Q, Q, Q, Q, Q, Q, Q, Q, Q, Q, Q, Q, Q, Q, Q, Q, Q, Q, Q, Q, Q, Q, Q, Q, Q, Q, Q, Q, Q, Q, Q, Q, Q, Q, Q, Q, Q, Q, Q, Q, Q], []⟩ m := by kernel_rfl
theorem l_f25_2_r (v1 v2 v7 v8 v9 v10 : AV) (m : Mem) : roundF X F_f25 2 (sB (sB (sR (sL (sR (sR (sR (sR (sR c_f25))))))))) B_f25_2 [Q, v1, v2, Q, Q, Q, Q, v7, v8, v9, v10, Q, Q, Q, Q, Q, Q, Q, Q, Q, Q, Q, Q, Q, Q, Q, Q, Q, Q, Q, Q, Q, Q, Q, Q, Q, Q, Q, Q, Q, Q, Q, Q, Q, Q, Q, Q, Q, Q, Q, Q, Q, Q, Q, Q, Q, Q, Q, Q, Q, Q, Q, Q, Q, Q, Q, Q, Q, Q, Q, Q, Q, Q, Q, Q, Q, Q, Q, Q, Q, Q, Q, Q, Q, Q, Q, Q, Q, Q, Q, Q, Q, Q, Q, Q, Q] m =
  bnd (rLenSl v1) fun v37 =>
  bnd (aBin X.T .lss T_int false false v10 v37) fun v38 =>
  onBool v38
    (k_f25_4 v1 v2 v7 v8 v9 v10 m)
    (k_f25_1 v1 v2 v7 v8 v9 v10 m) := by kernel_rfl
theorem l_f25_2_eq (v1 v2 v7 v8 v9 v10 : AV) (m : Mem) : l_f25_2 v1 v2 v7 v8 v9 v10 m =
  bnd (rLenSl v1) fun v37 =>
  bnd (aBin X.T .lss T_int false false v10 v37) fun v38 =>
  onBool v38
    (k_f25_4 v1 v2 v7 v8 v9 v10 m)
    (k_f25_1 v1 v2 v7 v8 v9 v10 m) := roundF_of (l_f25_2_u v1 v2 v7 v8 v9 v10 m) (l_f25_2_r v1 v2 v7 v8 v9 v10 m)
theorem k_f25_2_eq (v1 v2 v6 : AV) (m : Mem) : k_f25_2 v1 v2 v6 m =
  bnd (rLoad true 1 m v2) fun v22 =>
  bnd (rIxAddrSl 1 v1 v6) fun v25 =>
  bnd (rLoad false 1 m v25) fun v26 =>
  retK (w_f52 v22 v26 m) (fun v27 m1 =>
  bnd (aUn .not v27) fun v28 =>
  onBool v28
    (some (.ret (.tup [.nils, (.int .i64 221)]), m1))
    (k_f25_5 v1 v2 v6 m1)) (fun u m1 => none) := by kernel_rfl
theorem k_f25_3_eq (v8 v9 v12 v13 : AV) (m : Mem) : k_f25_3 v8 v9 v12 v13 m =
  bnd (rBuildSlice A_api_Type 0 []) fun v79 =>
  l_f25_6 v9 v12 v79 (.int .i64 0) m := by kernel_rfl
theorem l_f25_4_u (v8 v9 v12 v13 : AV) (m : Mem) : l_f25_4 v8 v9 v12 v13 m = loopK X F_f25 4 (sB (sB (sR (sL (sR (sR (sR (sR (sR (sR (sR c_f25))))))))))) B_f25_4 ⟨[Q, Q, Q, Q, Q, Q, Q, Q, v8, v9, Q, Q, v12, v13, Q, Q, Q, Q, Q, Q, Q, Q, Q, Q, Q, Q, Q, Q, Q, Q, Q, Q, Q, Q, Q, Q, Q, Q, Q, Q, Q, Q, Q, Q, Q, Q, Q, Q, Q, Q, Q, Q, Q, Q, Q, Q, Q, Q, Q, Q, Q, Q, Q, Q, Q, Q, Q, Q, Q, Q, Q, Q, Q, Q, Q, Q, Q, Q, Q, Q, Q, Q, Q, Q, Q, Q, Q, Q, Q, Q, Q, Q, Q, Q, Q, Q], []⟩ m := by kernel_rfl
theorem l_f25_4_r (v8 v9 v12 v13 : AV) (m : Mem) : roundF X F_f25 4 (sB (sB (sR (sL (sR (sR (sR (sR (sR (sR (sR c_f25))))))))))) B_f25_4 [Q, Q, Q, Q, Q, Q, Q, Q, v8, v9, Q, Q, v12, v13, Q, Q, Q, Q, Q, Q, Q, Q, Q, Q, Q, Q, Q, Q, Q, Q, Q, Q, Q, Q, Q, Q, Q, Q, Q, Q, Q, Q, Q, Q, Q, Q, Q, Q, Q, Q, Q, Q, Q, Q, Q, Q, Q, Q, Q, Q, Q, Q, Q, Q, Q, Q, Q, Q, Q, Q, Q, Q, Q, Q, Q, Q, Q, Q, Q, Q, Q, Q, Q, Q, Q, Q, Q, Q, Q, Q, Q, Q, Q, Q, Q, Q] m =
  bnd (rLenSl v8) fun v68 =>
  bnd (aBin X.T .lss T_int false false v13 v68) fun v69 =>
  onBool v69
    (k_f25_7 v8 v9 v12 v13 m)
    (k_f25_3 v8 v9 v12 v13 m) := by kernel_rfl
theorem l_f25_4_eq (v8 v9 v12 v13 : AV) (m : Mem) : l_f25_4 v8 v9 v12 v13 m =
  bnd (rLenSl v8) fun v68 =>
  bnd (aBin X.T .lss T_int false false v13 v68) fun v69 =>
  onBool v69
    (k_f25_7 v8 v9 v12 v13 m)
    (k_f25_3 v8 v9 v12 v13 m) := roundF_of (l_f25_4_u v8 v9 v12 v13 m) (l_f25_4_r v8 v9 v12 v13 m)
theorem k_f25_4_eq (v1 v2 v7 v8 v9 v10 : AV) (m : Mem) : k_f25_4 v1 v2 v7 v8 v9 v10 m =
  bnd (rLoad true 1 m v2) fun v41 =>
  bnd (rIxAddrSl 1 v1 v10) fun v44 =>
  bnd (rLoad false 1 m v44) fun v45 =>
  retK (w_f53 v41 v45 v7 m) (fun v47 m1 =>
  bnd (aBin X.T .gtr T_int false true v47 (.int .i64 300)) fun v48 =>
  onBool v48
    (some (.ret (.tup [.nils, (.int .i64 120)]), m1))
    (k_f25_9 v1 v2 v7 v8 v9 v10 m1)) (fun u m1 => none) := by kernel_rfl
theorem k_f25_5_eq (v1 v2 v6 : AV) (m : Mem) : k_f25_5 v1 v2 v6 m =
  bnd (aBin X.T .add T_int false true v6 (.int .i64 1)) fun v21 =>
  l_f25_0 v1 v2 v21 m := by kernel_rfl
theorem k_f25_6_eq (v9 v12 v14 v15 : AV) (m : Mem) : k_f25_6 v9 v12 v14 v15 m =
  some (.ret (.tup [v14, (.int .i64 0)]), m) := by kernel_rfl
theorem l_f25_6_u (v9 v12 v14 v15 : AV) (m : Mem) : l_f25_6 v9 v12 v14 v15 m = loopK X F_f25 6 (sB (sB (sR (sL (sR (sR (sR (sR (sR (sR (sR (sR (sR c_f25))))))))))))) B_f25_6 ⟨[Q, Q, Q, Q, Q, Q, Q, Q, Q, v9, Q, Q, v12, Q, v14, v15, Q, Q, Q, Q, Q, Q, Q, Q, Q, Q, Q, Q, Q, Q, Q, Q, Q, Q, Q, Q, Q, Q, Q, Q, Q, Q, Q, Q, Q, Q, Q, Q, Q, Q, Q, Q, Q, Q, Q, Q, Q, Q, Q, Q, Q, Q, Q, Q, Q, Q, Q, Q, Q, Q, Q, Q, Q, Q, Q, Q, Q, Q, Q, Q, Q, Q, Q, Q, Q, Q, Q, Q, Q, Q, Q, Q, Q, Q, Q, Q], []⟩ m := by kernel_rfl
theorem l_f25_6_r (v9 v12 v14 v15 : AV) (m : Mem) : roundF X F_f25 6 (sB (sB (sR (sL (sR (sR (sR (sR (sR (sR (sR (sR (sR c_f25))))))))))))) B_f25_6 [Q, Q, Q, Q, Q, Q, Q, Q, Q, v9, Q, Q, v12, Q, v14, v15, Q, Q, Q, Q, Q, Q, Q, Q, Q, Q, Q, Q, Q, Q, Q, Q, Q, Q, Q, Q, Q, Q, Q, Q, Q, Q, Q, Q, Q, Q, Q, Q, Q, Q, Q, Q, Q, Q, Q, Q, Q, Q, Q, Q, Q, Q, Q, Q, Q, Q, Q, Q, Q, Q, Q, Q, Q, Q, Q, Q, Q, Q, Q, Q, Q, Q, Q, Q, Q, Q, Q, Q, Q, Q, Q, Q, Q, Q, Q, Q] m =
  bnd (rLenSl v9) fun v82 =>
  bnd (aBin X.T .lss T_int false false v15 v82) fun v83 =>
  onBool v83
    (k_f25_10 v9 v12 v14 v15 m)
    (k_f25_6 v9 v12 v14 v15 m) := by kernel_rfl
theorem l_f25_6_eq (v9 v12 v14 v15 : AV) (m : Mem) : l_f25_6 v9 v12 v14 v15 m =
  bnd (rLenSl v9) fun v82 =>
  bnd (aBin X.T .lss T_int false false v15 v82) fun v83 =>
  onBool v83
    (k_f25_10 v9 v12 v14 v15 m)
    (k_f25_6 v9 v12 v14 v15 m) := roundF_of (l_f25_6_u v9 v12 v14 v15 m) (l_f25_6_r v9 v12 v14 v15 m)
theorem k_f25_7_eq (v8 v9 v12 v13 : AV) (m : Mem) : k_f25_7 v8 v9 v12 v13 m =
  bnd (rIxAddrSl 1 v8 v13) fun v75 =>
  bnd (rLoad false 1 m v75) fun v76 =>
  bnd (rIxAddrSl 1 v12 v76) fun v78 =>
  bnd (rStore 1 m v78 v13) fun m1 =>
  k_f25_11 v8 v9 v12 v13 m1 := by kernel_rfl
theorem k_f25_8_eq (v1 v2 v7 v8 v9 v10 : AV) (m : Mem) : k_f25_8 v1 v2 v7 v8 v9 v10 m =
  bnd (aBin X.T .add T_int false true v10 (.int .i64 1)) fun v40 =>
  l_f25_2 v1 v2 v7 v8 v9 v40 m := by kernel_rfl
theorem k_f25_9_eq (v1 v2 v7 v8 v9 v10 : AV) (m : Mem) : k_f25_9 v1 v2 v7 v8 v9 v10 m =
  bnd (rLoad true 1 m v2) fun v49 =>
  bnd (rIxAddrSl 1 v1 v10) fun v52 =>
  bnd (rLoad false 1 m v52) fun v53 =>
  retK (w_f55 v49 v53 m) (fun v54 m1 =>
  memK (aBox m1 (.agg [.int .i64 0, .int .i64 0, .str (bs []), .nils])) fun v11 m2 =>
  bnd (rStore 4 m2 v11 v54) fun m3 =>
  bnd (rLoad true 4 m3 v11) fun v56 =>
  retK (w_f56 v8 v56 m3) (fun v57 m4 =>
  bnd (rLoad true 4 m4 v11) fun v59 =>
  bnd (rBuildSlice A_api_Type 1 [(0, v59)]) fun v60 =>
  memK (rAppend A_api_Type 0 m4 v9 v60) fun v61 m5 =>
  k_f25_8 v1 v2 v7 v57 v61 v10 m5) (fun u m4 => some (.pan u, m4))) (fun u m1 => none) := by kernel_rfl
theorem k_f25_10_eq (v9 v12 v14 v15 : AV) (m : Mem) : k_f25_10 v9 v12 v14 v15 m =
  bnd (rIxAddrSl 4 v9 v15) fun v89 =>
  bnd (rLoad true 4 m v89) fun v90 =>
  retK (w_f57 v90 v12 m) (fun v92 m1 =>
  bnd (rBuildSlice A_api_Type 1 [(0, v92)]) fun v93 =>
  memK (rAppend A_api_Type 0 m1 v14 v93) fun v94 m2 =>
  k_f25_12 v9 v12 v94 v15 m2) (fun u m1 => some (.pan u, m1)) := by kernel_rfl
theorem k_f25_11_eq (v8 v9 v12 v13 : AV) (m : Mem) : k_f25_11 v8 v9 v12 v13 m =
  bnd (aBin X.T .add T_int false true v13 (.int .i64 1)) fun v71 =>
  l_f25_4 v8 v9 v12 v71 m := by kernel_rfl
theorem k_f25_12_eq (v9 v12 v14 v15 : AV) (m : Mem) : k_f25_12 v9 v12 v14 v15 m =
  bnd (aBin X.T .add T_int false true v15 (.int .i64 1)) fun v85 =>
  l_f25_6 v9 v12 v14 v85 m := by kernel_rfl
noncomputable def c_f26 : Code := bodyOf Try.f26
noncomputable def N_f26 : AAct → Mem → Option (AOut × Mem) := finK X.T Try.f26.results.toList .normal
noncomputable def P_f26 : AExit → AAct → Mem → Option (AOut × Mem) := finK X.T Try.f26.results.toList
noncomputable def K_f26_0 : AAct → Mem → Option (AOut × Mem) := execF X F_f26 0 (sR (sR c_f26)) N_f26 P_f26
noncomputable def K_f26_1 : AAct → Mem → Option (AOut × Mem) := execF X F_f26 0 (sR (sR (sR c_f26))) N_f26 P_f26
noncomputable def B_f26_0 : AExit → AAct → Mem → Option (AOut × Mem) := blockX 0 K_f26_1 P_f26
noncomputable def L_f26_0 : AAct → Mem → Option (AOut × Mem) := fun a m => killF (X.lk F_f26 0) a.tmps fun l => loopK X F_f26 0 (sB (sB (sR (sL (sR (sR c_f26)))))) B_f26_0 ⟨l, a.defers⟩ m
noncomputable def K_f26_2 : AAct → Mem → Option (AOut × Mem) := execF X F_f26 0 (sR (sB (sB (sR (sL (sR (sR c_f26))))))) L_f26_0 B_f26_0
noncomputable def K_f26_3 : AAct → Mem → Option (AOut × Mem) := execF X F_f26 0 (sR (sR (sB (sB (sR (sL (sR (sR c_f26)))))))) L_f26_0 B_f26_0
noncomputable def k_f26_0 (v0 v1 : AV) (m : Mem) : Option (AOut × Mem) := K_f26_0 ⟨[v0, v1, Q, Q, Q, Q, Q, Q, Q, Q, Q, Q, Q, Q, Q, Q, Q, Q, Q, Q, Q, Q, Q, Q, Q, Q, Q], []⟩ m
noncomputable def k_f26_1 (v0 v1 v5 : AV) (m : Mem) : Option (AOut × Mem) := K_f26_1 ⟨[v0, v1, Q, Q, Q, v5, Q, Q, Q, Q, Q, Q, Q, Q, Q, Q, Q, Q, Q, Q, Q, Q, Q, Q, Q, Q, Q], []⟩ m
noncomputable def l_f26_0 (v0 v1 v5 : AV) (m : Mem) : Option (AOut × Mem) := L_f26_0 ⟨[v0, v1, Q, Q, Q, v5, Q, Q, Q, Q, Q, Q, Q, Q, Q, Q, Q, Q, Q, Q, Q, Q, Q, Q, Q, Q, Q], []⟩ m
noncomputable def k_f26_2 (v0 v1 v5 : AV) (m : Mem) : Option (AOut × Mem) := K_f26_2 ⟨[v0, v1, Q, Q, Q, v5, Q, Q, Q, Q, Q, Q, Q, Q, Q, Q, Q, Q, Q, Q, Q, Q, Q, Q, Q, Q, Q], []⟩ m
noncomputable def k_f26_3 (v0 v1 v5 : AV) (m : Mem) : Option (AOut × Mem) := K_f26_3 ⟨[v0, v1, Q, Q, Q, v5, Q, Q, Q, Q, Q, Q, Q, Q, Q, Q, Q, Q, Q, Q, Q, Q, Q, Q, Q, Q, Q], []⟩ m
theorem e_f26 (v0 v1 : AV) (m : Mem) : w_f26 v0 v1 m =
  bnd (rLenSl v0) fun v7 =>
  bnd (rLenSl v1) fun v9 =>
  bnd (aBin X.T .neq T_int false false v7 v9) fun v10 =>
  onBool v10
    (some (.ret (.bool false), m))
    (k_f26_0 v0 v1 m) := (aW_F (c := c_f26) (fn := Try.f26) (by kernel_rfl) (by kernel_rfl) (by kernel_rfl) _ m).trans (by kernel_rfl)
theorem k_f26_0_eq (v0 v1 : AV) (m : Mem) : k_f26_0 v0 v1 m =
  l_f26_0 v0 v1 (.int .i64 0) m := by kernel_rfl
theorem k_f26_1_eq (v0 v1 v5 : AV) (m : Mem) : k_f26_1 v0 v1 v5 m =
  some (.ret (.bool true), m) := by kernel_rfl
theorem l_f26_0_u (v0 v1 v5 : AV) (m : Mem) : l_f26_0 v0 v1 v5 m = loopK X F_f26 0 (sB (sB (sR (sL (sR (sR c_f26)))))) B_f26_0 ⟨[v0, v1, Q, Q, Q, v5, Q, Q, Q, Q, Q, Q, Q, Q, Q, Q, Q, Q, Q, Q, Q, Q, Q, Q, Q, Q, Q], []⟩ m := by kernel_rfl
theorem l_f26_0_r (v0 v1 v5 : AV) (m : Mem) : roundF X F_f26 0 (sB (sB (sR (sL (sR (sR c_f26)))))) B_f26_0 [v0, v1, Q, Q, Q, v5, Q, Q, Q, Q, Q, Q, Q, Q, Q, Q, Q, Q, Q, Q, Q, Q, Q, Q, Q, Q, Q] m =
  bnd (rLenSl v0) fun v13 =>
  bnd (aBin X.T .lss T_int false false v5 v13) fun v14 =>
  onBool v14
    (k_f26_2 v0 v1 v5 m)
    (k_f26_1 v0 v1 v5 m) := by kernel_rfl
theorem l_f26_0_eq (v0 v1 v5 : AV) (m : Mem) : l_f26_0 v0 v1 v5 m =
  bnd (rLenSl v0) fun v13 =>
  bnd (aBin X.T .lss T_int false false v5 v13) fun v14 =>
  onBool v14
    (k_f26_2 v0 v1 v5 m)
    (k_f26_1 v0 v1 v5 m) := roundF_of (l_f26_0_u v0 v1 v5 m) (l_f26_0_r v0 v1 v5 m)
theorem k_f26_2_eq (v0 v1 v5 : AV) (m : Mem) : k_f26_2 v0 v1 v5 m =
  bnd (rIxAddrSl 4 v0 v5) fun v19 =>
  bnd (rLoad true 4 m v19) fun v20 =>
  bnd (rIxAddrSl 4 v1 v5) fun v23 =>
  bnd (rLoad true 4 m v23) fun v24 =>
  retK (w_f32 v20 v24 m) (fun v25 m1 =>
  bnd (aUn .not v25) fun v26 =>
  onBool v26
    (some (.ret (.bool false), m1))
    (k_f26_3 v0 v1 v5 m1)) (fun u m1 => none) := by kernel_rfl
theorem k_f26_3_eq (v0 v1 v5 : AV) (m : Mem) : k_f26_3 v0 v1 v5 m =
  bnd (aBin X.T .add T_int false true v5 (.int .i64 1)) fun v16 =>
  l_f26_0 v0 v1 v16 m := by kernel_rfl
noncomputable def c_f27 : Code := bodyOf Try.f27
noncomputable def N_f27 : AAct → Mem → Option (AOut × Mem) := finK X.T Try.f27.results.toList .normal
noncomputable def P_f27 : AExit → AAct → Mem → Option (AOut × Mem) := finK X.T Try.f27.results.toList
noncomputable def K_f27_0 : AAct → Mem → Option (AOut × Mem) := execF X F_f27 0 (sR (sR c_f27)) N_f27 P_f27
noncomputable def k_f27_0 (v0 v1 v2 : AV) (m : Mem) : Option (AOut × Mem) := K_f27_0 ⟨[v0, v1, v2, Q, Q, Q, Q, Q, Q, Q, Q, Q, Q, Q, Q, Q, Q, Q, Q, Q, Q, Q, Q, Q], []⟩ m
theorem e_f27 (v0 v1 v2 : AV) (m : Mem) : w_f27 v0 v1 v2 m =
  bnd (rBuildSlice A_int 2 [(0, v1), (1, v2)]) fun v11 =>
  retK (w_f50 v0 v11 m) (fun v12 m1 =>
  bnd (aUn .not v12) fun v13 =>
  onBool v13
    (some (.ret (.bool false), m1))
    (k_f27_0 v0 v1 v2 m1)) (fun u m1 => some (.pan u, m1)) := (aW_F (c := c_f27) (fn := Try.f27) (by kernel_rfl) (by kernel_rfl) (by kernel_rfl) _ m).trans (by kernel_rfl)
theorem k_f27_0_eq (v0 v1 v2 : AV) (m : Mem) : k_f27_0 v0 v1 v2 m =
  nilK v0
  (bnd (rFieldAddr 1 v0) fun v16 =>
  bnd (rStore 1 m v16 .nils) fun m1 =>
  retK (w_f58 v0 v1 v2 (.bool true) m1) (fun v20 m2 =>
  retK (w_f59 v0 m2) (fun v22 m3 =>
  some (.ret v20, m3)) (fun u m3 => some (.pan u, m3))) (fun u m2 => some (.pan u, m2))) := by kernel_rfl
noncomputable def c_f29 : Code := bodyOf Try.f29
noncomputable def N_f29 : AAct → Mem → Option (AOut × Mem) := finK X.T Try.f29.results.toList .normal
noncomputable def P_f29 : AExit → AAct → Mem → Option (AOut × Mem) := finK X.T Try.f29.results.toList
noncomputable def K_f29_0 : AAct → Mem → Option (AOut × Mem) := execF X F_f29 0 (sR (sR (sR c_f29))) N_f29 P_f29
noncomputable def B_f29_0 : AExit → AAct → Mem → Option (AOut × Mem) := blockX 0 K_f29_0 P_f29
noncomputable def L_f29_0 : AAct → Mem → Option (AOut × Mem) := fun a m => killF (X.lk F_f29 0) a.tmps fun l => loopK X F_f29 0 (sB (sB (sR (sL (sR (sR c_f29)))))) B_f29_0 ⟨l, a.defers⟩ m
noncomputable def K_f29_1 : AAct → Mem → Option (AOut × Mem) := execF X F_f29 0 (sR (sB (sB (sR (sL (sR (sR c_f29))))))) L_f29_0 B_f29_0
noncomputable def K_f29_2 : AAct → Mem → Option (AOut × Mem) := execF X F_f29 0 (sR (sR (sB (sB (sR (sL (sR (sR c_f29)))))))) L_f29_0 B_f29_0
noncomputable def B_f29_1 : AExit → AAct → Mem → Option (AOut × Mem) := blockX 1 K_f29_2 B_f29_0
noncomputable def K_f29_3 : AAct → Mem → Option (AOut × Mem) := execF X F_f29 1 (sR (sB (sL (sR (sB (sB (sR (sL (sR (sR c_f29)))))))))) K_f29_2 B_f29_1
noncomputable def k_f29_0 (v0 v1 v5 v6 : AV) (m : Mem) : Option (AOut × Mem) := K_f29_0 ⟨[v0, v1, Q, Q, Q, v5, v6, Q, Q, Q, Q, Q, Q, Q, Q, Q, Q, Q, Q, Q, Q, Q, Q, Q, Q, Q, Q, Q, Q, Q, Q, Q, Q, Q, Q, Q, Q, Q, Q, Q, Q, Q, Q, Q, Q, Q], []⟩ m
noncomputable def l_f29_0 (v0 v1 v5 v6 : AV) (m : Mem) : Option (AOut × Mem) := L_f29_0 ⟨[v0, v1, Q, Q, Q, v5, v6, Q, Q, Q, Q, Q, Q, Q, Q, Q, Q, Q, Q, Q, Q, Q, Q, Q, Q, Q, Q, Q, Q, Q, Q, Q, Q, Q, Q, Q, Q, Q, Q, Q, Q, Q, Q, Q, Q, Q], []⟩ m
noncomputable def k_f29_1 (v0 v1 v5 v6 : AV) (m : Mem) : Option (AOut × Mem) := K_f29_1 ⟨[v0, v1, Q, Q, Q, v5, v6, Q, Q, Q, Q, Q, Q, Q, Q, Q, Q, Q, Q, Q, Q, Q, Q, Q, Q, Q, Q, Q, Q, Q, Q, Q, Q, Q, Q, Q, Q, Q, Q, Q, Q, Q, Q, Q, Q, Q], []⟩ m
noncomputable def k_f29_2 (v0 v1 v5 v6 : AV) (m : Mem) : Option (AOut × Mem) := K_f29_2 ⟨[v0, v1, Q, Q, Q, v5, v6, Q, Q, Q, Q, Q, Q, Q, Q, Q, Q, Q, Q, Q, Q, Q, Q, Q, Q, Q, Q, Q, Q, Q, Q, Q, Q, Q, Q, Q, Q, Q, Q, Q, Q, Q, Q, Q, Q, Q], []⟩ m
noncomputable def k_f29_3 (v0 v1 v5 v6 v27 : AV) (m : Mem) : Option (AOut × Mem) := K_f29_3 ⟨[v0, v1, Q, Q, Q, v5, v6, Q, Q, Q, Q, Q, Q, Q, Q, Q, Q, Q, Q, Q, Q, Q, Q, Q, Q, Q, Q, v27, Q, Q, Q, Q, Q, Q, Q, Q, Q, Q, Q, Q, Q, Q, Q, Q, Q, Q], []⟩ m
theorem e_f29 (v0 v1 : AV) (m : Mem) : w_f29 v0 v1 m =
  bnd (rBuildSlice A_int 0 []) fun v7 =>
  l_f29_0 v0 v1 v7 (.int .i64 0) m := (aW_F (c := c_f29) (fn := Try.f29) (by kernel_rfl) (by kernel_rfl) (by kernel_rfl) _ m).trans (by kernel_rfl)
theorem k_f29_0_eq (v0 v1 v5 v6 : AV) (m : Mem) : k_f29_0 v0 v1 v5 v6 m =
  some (.ret v5, m) := by kernel_rfl
theorem l_f29_0_u (v0 v1 v5 v6 : AV) (m : Mem) : l_f29_0 v0 v1 v5 v6 m = loopK X F_f29 0 (sB (sB (sR (sL (sR (sR c_f29)))))) B_f29_0 ⟨[v0, v1, Q, Q, Q, v5, v6, Q, Q, Q, Q, Q, Q, Q, Q, Q, Q, Q, Q, Q, Q, Q, Q, Q, Q, Q, Q, Q, Q, Q, Q, Q, Q, Q, Q, Q, Q, Q, Q, Q, Q, Q, Q, Q, Q, Q], []⟩ m := by kernel_rfl
theorem l_f29_0_r (v0 v1 v5 v6 : AV) (m : Mem) : roundF X F_f29 0 (sB (sB (sR (sL (sR (sR c_f29)))))) B_f29_0 [v0, v1, Q, Q, Q, v5, v6, Q, Q, Q, Q, Q, Q, Q, Q, Q, Q, Q, Q, Q, Q, Q, Q, Q, Q, Q, Q, Q, Q, Q, Q, Q, Q, Q, Q, Q, Q, Q, Q, Q, Q, Q, Q, Q, Q, Q] m =
  bnd (rLenSl v0) fun v10 =>
  bnd (aBin X.T .lss T_int false false v6 v10) fun v11 =>
  onBool v11
    (k_f29_1 v0 v1 v5 v6 m)
    (k_f29_0 v0 v1 v5 v6 m) := by kernel_rfl
theorem l_f29_0_eq (v0 v1 v5 v6 : AV) (m : Mem) : l_f29_0 v0 v1 v5 v6 m =
  bnd (rLenSl v0) fun v10 =>
  bnd (aBin X.T .lss T_int false false v6 v10) fun v11 =>
  onBool v11
    (k_f29_1 v0 v1 v5 v6 m)
    (k_f29_0 v0 v1 v5 v6 m) := roundF_of (l_f29_0_u v0 v1 v5 v6 m) (l_f29_0_r v0 v1 v5 v6 m)
theorem k_f29_1_eq (v0 v1 v5 v6 : AV) (m : Mem) : k_f29_1 v0 v1 v5 v6 m =
  bnd (rIxAddrSl 1 v0 v6) fun v16 =>
  bnd (rLoad false 1 m v16) fun v17 =>
  bnd (aBin X.T .geq T_int false true v17 (.int .i64 0)) fun v18 =>
  onWant v18
    (bnd (rIxAddrSl 1 v0 v6) fun v22 =>
  bnd (rLoad false 1 m v22) fun v23 =>
  bnd (rLenSl v1) fun v25 =>
  bnd (aBin X.T .lss T_int false false v23 v25) fun v26 =>
  k_f29_3 v0 v1 v5 v6 v26 m)
    (k_f29_3 v0 v1 v5 v6 (.bool false) m)
    (none) := by kernel_rfl
theorem k_f29_2_eq (v0 v1 v5 v6 : AV) (m : Mem) : k_f29_2 v0 v1 v5 v6 m =
  bnd (aBin X.T .add T_int false true v6 (.int .i64 1)) fun v13 =>
  l_f29_0 v0 v1 v5 v13 m := by kernel_rfl
theorem k_f29_3_eq (v0 v1 v5 v6 v27 : AV) (m : Mem) : k_f29_3 v0 v1 v5 v6 v27 m =
  onBool v27
    (bnd (rIxAddrSl 1 v0 v6) fun v32 =>
    bnd (rLoad false 1 m v32) fun v33 =>
    bnd (rIxAddrSl 1 v1 v33) fun v34 =>
    bnd (rLoad false 1 m v34) fun v35 =>
    bnd (rBuildSlice A_int 1 [(0, v35)]) fun v36 =>
    memK (rAppend A_int 0 m v5 v36) fun v37 m1 =>
    k_f29_2 v0 v1 v37 v6 m1)
    (bnd (rIxAddrSl 1 v0 v6) fun v41 =>
    bnd (rLoad false 1 m v41) fun v42 =>
    bnd (rBuildSlice A_int 1 [(0, v42)]) fun v43 =>
    memK (rAppend A_int 0 m v5 v43) fun v44 m1 =>
    k_f29_2 v0 v1 v44 v6 m1) := by kernel_rfl
end Go.AM
namespace Go.AM
open Go.Proofs
set_option maxRecDepth 100000
set_option linter.unusedVariables false
noncomputable def c_f31 : Code := bodyOf Try.f31
noncomputable def N_f31 : AAct → Mem → Option (AOut × Mem) := finK X.T Try.f31.results.toList .normal
noncomputable def P_f31 : AExit → AAct → Mem → Option (AOut × Mem) := finK X.T Try.f31.results.toList
noncomputable def K_f31_0 : AAct → Mem → Option (AOut × Mem) := execF X F_f31 0 (sR (sR c_f31)) N_f31 P_f31
noncomputable def K_f31_1 : AAct → Mem → Option (AOut × Mem) := execF X F_f31 0 (sR (sR (sR (sR (sR c_f31))))) N_f31 P_f31
noncomputable def K_f31_2 : AAct → Mem → Option (AOut × Mem) := execF X F_f31 0 (sR (sR (sR (sR (sR (sR c_f31)))))) N_f31 P_f31
noncomputable def k_f31_0 (v0 v1 v2 : AV) (m : Mem) : Option (AOut × Mem) := K_f31_0 ⟨[v0, v1, v2, Q, Q, Q, Q, Q, Q, Q, Q, Q, Q, Q, Q, Q, Q, Q, Q, Q, Q, Q, Q, Q, Q, Q, Q, Q, Q, Q, Q, Q, Q], []⟩ m
noncomputable def k_f31_1 (v0 v7 : AV) (m : Mem) : Option (AOut × Mem) := K_f31_1 ⟨[v0, Q, Q, Q, Q, Q, Q, v7, Q, Q, Q, Q, Q, Q, Q, Q, Q, Q, Q, Q, Q, Q, Q, Q, Q, Q, Q, Q, Q, Q, Q, Q, Q], []⟩ m
noncomputable def k_f31_2 (v0 v7 : AV) (m : Mem) : Option (AOut × Mem) := K_f31_2 ⟨[v0, Q, Q, Q, Q, Q, Q, v7, Q, Q, Q, Q, Q, Q, Q, Q, Q, Q, Q, Q, Q, Q, Q, Q, Q, Q, Q, Q, Q, Q, Q, Q, Q], []⟩ m
theorem e_f31 (v0 v1 v2 : AV) (m : Mem) : w_f31 v0 v1 v2 m =
  bnd (rBuildSlice A_int 2 [(0, v1), (1, v2)]) fun v11 =>
  retK (w_f50 v0 v11 m) (fun v12 m1 =>
  bnd (aUn .not v12) fun v13 =>
  onBool v13
    (some (.ret (.int .i64 221), m1))
    (k_f31_0 v0 v1 v2 m1)) (fun u m1 => some (.pan u, m1)) := (aW_F (c := c_f31) (fn := Try.f31) (by kernel_rfl) (by kernel_rfl) (by kernel_rfl) _ m).trans (by kernel_rfl)
theorem k_f31_0_eq (v0 v1 v2 : AV) (m : Mem) : k_f31_0 v0 v1 v2 m =
  nilK v0
  (bnd (rFieldAddr 1 v0) fun v16 =>
  bnd (rStore 1 m v16 .nils) fun m1 =>
  retK (w_f58 v0 v1 v2 (.bool false) m1) (fun v21 m2 =>
  bnd (aUn .not v21) fun v22 =>
  onBool v22
    (k_f31_1 v0 (.int .i64 131) m2)
    (bindK (.map m2.next) (m2.alloc (.map [])) fun v26 m3 =>
    retK (w_f61 v0 v1 v26 m3) (fun v27 m4 =>
    onBool v27
      (k_f31_1 v0 (.int .i64 130) m4)
      (k_f31_1 v0 (.int .i64 0) m4)) (fun u m4 => some (.pan u, m4)))) (fun u m2 => some (.pan u, m2))) := by kernel_rfl
theorem k_f31_1_eq (v0 v7 : AV) (m : Mem) : k_f31_1 v0 v7 m =
  bnd (aBin X.T .neq T_api_Errno false true v7 (.int .i64 0)) fun v29 =>
  onBool v29
    (retK (w_f59 v0 m) (fun v31 m1 =>
    k_f31_2 .undef v7 m1) (fun u m1 => some (.pan u, m1)))
    (k_f31_2 v0 v7 m) := by kernel_rfl
theorem k_f31_2_eq (v0 v7 : AV) (m : Mem) : k_f31_2 v0 v7 m =
  some (.ret v7, m) := by kernel_rfl
noncomputable def c_f32 : Code := bodyOf Try.f32
noncomputable def N_f32 : AAct → Mem → Option (AOut × Mem) := finK X.T Try.f32.results.toList .normal
noncomputable def P_f32 : AExit → AAct → Mem → Option (AOut × Mem) := finK X.T Try.f32.results.toList
noncomputable def K_f32_0 : AAct → Mem → Option (AOut × Mem) := execF X F_f32 0 (sR (sR c_f32)) N_f32 P_f32
noncomputable def K_f32_1 : AAct → Mem → Option (AOut × Mem) := execF X F_f32 0 (sR (sL (sR c_f32))) K_f32_0 P_f32
noncomputable def K_f32_2 : AAct → Mem → Option (AOut × Mem) := execF X F_f32 0 (sR (sR (sR c_f32))) N_f32 P_f32
noncomputable def B_f32_0 : AExit → AAct → Mem → Option (AOut × Mem) := blockX 0 K_f32_2 P_f32
noncomputable def L_f32_0 : AAct → Mem → Option (AOut × Mem) := fun a m => killF (X.lk F_f32 0) a.tmps fun l => loopK X F_f32 0 (sB (sB (sR (sL (sR (sR c_f32)))))) B_f32_0 ⟨l, a.defers⟩ m
noncomputable def K_f32_3 : AAct → Mem → Option (AOut × Mem) := execF X F_f32 0 (sR (sB (sB (sR (sL (sR (sR c_f32))))))) L_f32_0 B_f32_0
noncomputable def K_f32_4 : AAct → Mem → Option (AOut × Mem) := execF X F_f32 0 (sR (sR (sB (sB (sR (sL (sR (sR c_f32)))))))) L_f32_0 B_f32_0
noncomputable def k_f32_0 (v2 v3 : AV) (m : Mem) : Option (AOut × Mem) := K_f32_0 ⟨[Q, Q, v2, v3, Q, Q, Q, Q, Q, Q, Q, Q, Q, Q, Q, Q, Q, Q, Q, Q, Q, Q, Q, Q, Q, Q, Q, Q, Q, Q, Q, Q, Q, Q, Q, Q, Q, Q, Q, Q, Q, Q, Q, Q, Q, Q, Q, Q, Q, Q, Q, Q, Q], []⟩ m
noncomputable def k_f32_1 (v2 v3 v33 : AV) (m : Mem) : Option (AOut × Mem) := K_f32_1 ⟨[Q, Q, v2, v3, Q, Q, Q, Q, Q, Q, Q, Q, Q, Q, Q, Q, Q, Q, Q, Q, Q, Q, Q, Q, Q, Q, Q, Q, Q, Q, Q, Q, Q, v33, Q, Q, Q, Q, Q, Q, Q, Q, Q, Q, Q, Q, Q, Q, Q, Q, Q, Q, Q], []⟩ m
noncomputable def k_f32_2 (v2 v3 v5 : AV) (m : Mem) : Option (AOut × Mem) := K_f32_2 ⟨[Q, Q, v2, v3, Q, v5, Q, Q, Q, Q, Q, Q, Q, Q, Q, Q, Q, Q, Q, Q, Q, Q, Q, Q, Q, Q, Q, Q, Q, Q, Q, Q, Q, Q, Q, Q, Q, Q, Q, Q, Q, Q, Q, Q, Q, Q, Q, Q, Q, Q, Q, Q, Q], []⟩ m
noncomputable def l_f32_0 (v2 v3 v5 : AV) (m : Mem) : Option (AOut × Mem) := L_f32_0 ⟨[Q, Q, v2, v3, Q, v5, Q, Q, Q, Q, Q, Q, Q, Q, Q, Q, Q, Q, Q, Q, Q, Q, Q, Q, Q, Q, Q, Q, Q, Q, Q, Q, Q, Q, Q, Q, Q, Q, Q, Q, Q, Q, Q, Q, Q, Q, Q, Q, Q, Q, Q, Q, Q], []⟩ m
noncomputable def k_f32_3 (v2 v3 v5 : AV) (m : Mem) : Option (AOut × Mem) := K_f32_3 ⟨[Q, Q, v2, v3, Q, v5, Q, Q, Q, Q, Q, Q, Q, Q, Q, Q, Q, Q, Q, Q, Q, Q, Q, Q, Q, Q, Q, Q, Q, Q, Q, Q, Q, Q, Q, Q, Q, Q, Q, Q, Q, Q, Q, Q, Q, Q, Q, Q, Q, Q, Q, Q, Q], []⟩ m
noncomputable def k_f32_4 (v2 v3 v5 : AV) (m : Mem) : Option (AOut × Mem) := K_f32_4 ⟨[Q, Q, v2, v3, Q, v5, Q, Q, Q, Q, Q, Q, Q, Q, Q, Q, Q, Q, Q, Q, Q, Q, Q, Q, Q, Q, Q, Q, Q, Q, Q, Q, Q, Q, Q, Q, Q, Q, Q, Q, Q, Q, Q, Q, Q, Q, Q, Q, Q, Q, Q, Q, Q], []⟩ m
theorem e_f32 (v0 v1 : AV) (m : Mem) : w_f32 v0 v1 m =
  memK (aBox m v0) fun v2 m1 =>
  memK (aBox m1 v1) fun v3 m2 =>
  bnd (rFieldAddr 0 v2) fun v6 =>
  bnd (rLoad false 1 m2 v6) fun v7 =>
  bnd (rFieldAddr 0 v3) fun v8 =>
  bnd (rLoad false 1 m2 v8) fun v9 =>
  bnd (aBin X.T .neq T_int false false v7 v9) fun v10 =>
  onWant v10
    (k_f32_1 v2 v3 (.bool true) m2)
    (bnd (rFieldAddr 1 v2) fun v12 =>
  bnd (rLoad false 1 m2 v12) fun v13 =>
  bnd (rFieldAddr 1 v3) fun v14 =>
  bnd (rLoad false 1 m2 v14) fun v15 =>
  bnd (aBin X.T .neq T_int false false v13 v15) fun v16 =>
  onWant v16
    (k_f32_1 v2 v3 (.bool true) m2)
    (bnd (rFieldAddr 2 v2) fun v19 =>
  bnd (rLoad false 1 m2 v19) fun v20 =>
  bnd (rFieldAddr 2 v3) fun v21 =>
  bnd (rLoad false 1 m2 v21) fun v22 =>
  bnd (aBin X.T .neq T_string false false v20 v22) fun v23 =>
  onWant v23
    (k_f32_1 v2 v3 (.bool true) m2)
    (bnd (rFieldAddr 3 v2) fun v26 =>
  bnd (rLoad false 1 m2 v26) fun v27 =>
  bnd (rLenSl v27) fun v28 =>
  bnd (rFieldAddr 3 v3) fun v29 =>
  bnd (rLoad false 1 m2 v29) fun v30 =>
  bnd (rLenSl v30) fun v31 =>
  bnd (aBin X.T .neq T_int false false v28 v31) fun v32 =>
  k_f32_1 v2 v3 v32 m2)
    (none))
    (none))
    (none) := (aW_F (c := c_f32) (fn := Try.f32) (by kernel_rfl) (by kernel_rfl) (by kernel_rfl) _ m).trans (by kernel_rfl)
theorem k_f32_0_eq (v2 v3 : AV) (m : Mem) : k_f32_0 v2 v3 m =
  l_f32_0 v2 v3 (.int .i64 0) m := by kernel_rfl
theorem k_f32_1_eq (v2 v3 v33 : AV) (m : Mem) : k_f32_1 v2 v3 v33 m =
  onBool v33
    (some (.ret (.bool false), m))
    (k_f32_0 v2 v3 m) := by kernel_rfl
theorem k_f32_2_eq (v2 v3 v5 : AV) (m : Mem) : k_f32_2 v2 v3 v5 m =
  some (.ret (.bool true), m) := by kernel_rfl
theorem l_f32_0_u (v2 v3 v5 : AV) (m : Mem) : l_f32_0 v2 v3 v5 m = loopK X F_f32 0 (sB (sB (sR (sL (sR (sR c_f32)))))) B_f32_0 ⟨[Q, Q, v2, v3, Q, v5, Q, Q, Q, Q, Q, Q, Q, Q, Q, Q, Q, Q, Q, Q, Q, Q, Q, Q, Q, Q, Q, Q, Q, Q, Q, Q, Q, Q, Q, Q, Q, Q, Q, Q, Q, Q, Q, Q, Q, Q, Q, Q, Q, Q, Q, Q, Q], []⟩ m := by kernel_rfl
theorem l_f32_0_r (v2 v3 v5 : AV) (m : Mem) : roundF X F_f32 0 (sB (sB (sR (sL (sR (sR c_f32)))))) B_f32_0 [Q, Q, v2, v3, Q, v5, Q, Q, Q, Q, Q, Q, Q, Q, Q, Q, Q, Q, Q, Q, Q, Q, Q, Q, Q, Q, Q, Q, Q, Q, Q, Q, Q, Q, Q, Q, Q, Q, Q, Q, Q, Q, Q, Q, Q, Q, Q, Q, Q, Q, Q, Q, Q] m =
  bnd (rFieldAddr 3 v2) fun v35 =>
  bnd (rLoad false 1 m v35) fun v36 =>
  bnd (rLenSl v36) fun v37 =>
  bnd (aBin X.T .lss T_int false false v5 v37) fun v38 =>
  onBool v38
    (k_f32_3 v2 v3 v5 m)
    (k_f32_2 v2 v3 v5 m) := by kernel_rfl
theorem l_f32_0_eq (v2 v3 v5 : AV) (m : Mem) : l_f32_0 v2 v3 v5 m =
  bnd (rFieldAddr 3 v2) fun v35 =>
  bnd (rLoad false 1 m v35) fun v36 =>
  bnd (rLenSl v36) fun v37 =>
  bnd (aBin X.T .lss T_int false false v5 v37) fun v38 =>
  onBool v38
    (k_f32_3 v2 v3 v5 m)
    (k_f32_2 v2 v3 v5 m) := roundF_of (l_f32_0_u v2 v3 v5 m) (l_f32_0_r v2 v3 v5 m)
theorem k_f32_3_eq (v2 v3 v5 : AV) (m : Mem) : k_f32_3 v2 v3 v5 m =
  bnd (rFieldAddr 3 v2) fun v41 =>
  bnd (rLoad false 1 m v41) fun v42 =>
  bnd (rIxAddrSl 4 v42 v5) fun v44 =>
  bnd (rLoad true 4 m v44) fun v45 =>
  bnd (rFieldAddr 3 v3) fun v46 =>
  bnd (rLoad false 1 m v46) fun v47 =>
  bnd (rIxAddrSl 4 v47 v5) fun v49 =>
  bnd (rLoad true 4 m v49) fun v50 =>
  retK (w_f32 v45 v50 m) (fun v51 m1 =>
  bnd (aUn .not v51) fun v52 =>
  onBool v52
    (some (.ret (.bool false), m1))
    (k_f32_4 v2 v3 v5 m1)) (fun u m1 => none) := by kernel_rfl
theorem k_f32_4_eq (v2 v3 v5 : AV) (m : Mem) : k_f32_4 v2 v3 v5 m =
  bnd (aBin X.T .add T_int false true v5 (.int .i64 1)) fun v40 =>
  l_f32_0 v2 v3 v40 m := by kernel_rfl
noncomputable def c_f33 : Code := bodyOf Try.f33
theorem e_f33 (m : Mem) : w_f33 m =
  bnd (rBuild [.nils, .nils] []) fun v1 =>
  memK (aBox m v1) fun v2 m1 =>
  some (.ret v2, m1) := (aW_F (c := c_f33) (fn := Try.f33) (by kernel_rfl) (by kernel_rfl) (by kernel_rfl) _ m).trans (by kernel_rfl)
noncomputable def c_f34 : Code := bodyOf Try.f34
theorem e_f34 (v0 : AV) (m : Mem) : w_f34 v0 m =
  retK (w_f62 v0 (.int .i64 1) (.str (bs [])) .nils m) (fun v4 m1 =>
  some (.ret v4, m1)) (fun u m1 => some (.pan u, m1)) := (aW_F (c := c_f34) (fn := Try.f34) (by kernel_rfl) (by kernel_rfl) (by kernel_rfl) _ m).trans (by kernel_rfl)
noncomputable def c_f35 : Code := bodyOf Try.f35
noncomputable def N_f35 : AAct → Mem → Option (AOut × Mem) := finK X.T Try.f35.results.toList .normal
noncomputable def P_f35 : AExit → AAct → Mem → Option (AOut × Mem) := finK X.T Try.f35.results.toList
noncomputable def K_f35_0 : AAct → Mem → Option (AOut × Mem) := execF X F_f35 0 (sR (sR c_f35)) N_f35 P_f35
noncomputable def k_f35_0 (v0 v1 : AV) (m : Mem) : Option (AOut × Mem) := K_f35_0 ⟨[v0, v1, Q, Q, Q, Q, Q, Q, Q, Q, Q, Q, Q, Q, Q, Q, Q, Q], []⟩ m
theorem e_f35 (v0 v1 : AV) (m : Mem) : w_f35 v0 v1 m =
  retK (w_f50 v0 v1 m) (fun v9 m1 =>
  bnd (aUn .not v9) fun v10 =>
  onBool v10
    (some (.ret (.tup [(.int .i64 0), (.int .i64 221)]), m1))
    (bnd (rLenSl v1) fun v13 =>
    bnd (aBin X.T .lss T_int false true v13 (.int .i64 2)) fun v14 =>
    onBool v14
      (some (.ret (.tup [(.int .i64 0), (.int .i64 120)]), m1))
      (k_f35_0 v0 v1 m1))) (fun u m1 => some (.pan u, m1)) := (aW_F (c := c_f35) (fn := Try.f35) (by kernel_rfl) (by kernel_rfl) (by kernel_rfl) _ m).trans (by kernel_rfl)
theorem k_f35_0_eq (v0 v1 : AV) (m : Mem) : k_f35_0 v0 v1 m =
  retK (w_f62 v0 (.int .i64 3) (.str (bs [])) v1 m) (fun v17 m1 =>
  some (.ret (.tup [v17, (.int .i64 0)]), m1)) (fun u m1 => some (.pan u, m1)) := by kernel_rfl
end Go.AM
