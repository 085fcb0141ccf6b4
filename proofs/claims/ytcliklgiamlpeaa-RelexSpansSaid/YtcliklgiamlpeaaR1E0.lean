/-
  A part of the proof: equations or tables of the program over the abstract machine, printed by a program of this proof's own.
-/
import Derived.Test.YtcliklgiamlpeaaR1Ctx
namespace Go.AM
open Go.Proofs
set_option maxRecDepth 100000
set_option linter.unusedVariables false

/-! ### parlance/parlancelaw08.LexMoved -/
noncomputable def c_l08_LexMoved : Code := bodyOf Try.f3
noncomputable def N_l08_LexMoved : AAct → Mem → Option (AOut × Mem) := finK X.T Try.f3.results.toList .normal
noncomputable def P_l08_LexMoved : AExit → AAct → Mem → Option (AOut × Mem) := finK X.T Try.f3.results.toList
noncomputable def K_l08_LexMoved_0 : AAct → Mem → Option (AOut × Mem) := execF X F_l08_LexMoved 0 (sR (sR c_l08_LexMoved)) N_l08_LexMoved P_l08_LexMoved
noncomputable def K_l08_LexMoved_1 : AAct → Mem → Option (AOut × Mem) := execF X F_l08_LexMoved 0 (sR (sR (sR c_l08_LexMoved))) N_l08_LexMoved P_l08_LexMoved
noncomputable def K_l08_LexMoved_2 : AAct → Mem → Option (AOut × Mem) := execF X F_l08_LexMoved 0 (sR (sL (sR (sR c_l08_LexMoved)))) K_l08_LexMoved_1 P_l08_LexMoved
noncomputable def K_l08_LexMoved_3 : AAct → Mem → Option (AOut × Mem) := execF X F_l08_LexMoved 0 (sR (sR (sR (sR (sR c_l08_LexMoved))))) N_l08_LexMoved P_l08_LexMoved
noncomputable def B_l08_LexMoved_0 : AExit → AAct → Mem → Option (AOut × Mem) := blockX 0 K_l08_LexMoved_3 P_l08_LexMoved
noncomputable def L_l08_LexMoved_0 : AAct → Mem → Option (AOut × Mem) := fun a m => killF (X.lk F_l08_LexMoved 0) a.tmps fun l => loopK X F_l08_LexMoved 0 (sB (sB (sR (sL (sR (sR (sR (sR c_l08_LexMoved)))))))) B_l08_LexMoved_0 ⟨l, a.defers⟩ m
noncomputable def K_l08_LexMoved_4 : AAct → Mem → Option (AOut × Mem) := execF X F_l08_LexMoved 0 (sR (sR (sR (sR (sR (sR (sR (sR c_l08_LexMoved)))))))) N_l08_LexMoved P_l08_LexMoved
noncomputable def K_l08_LexMoved_5 : AAct → Mem → Option (AOut × Mem) := execF X F_l08_LexMoved 0 (sR (sB (sB (sR (sL (sR (sR (sR (sR c_l08_LexMoved))))))))) L_l08_LexMoved_0 B_l08_LexMoved_0
noncomputable def K_l08_LexMoved_6 : AAct → Mem → Option (AOut × Mem) := execF X F_l08_LexMoved 0 (sR (sR (sR (sR (sR (sR (sR (sR (sR c_l08_LexMoved))))))))) N_l08_LexMoved P_l08_LexMoved
noncomputable def B_l08_LexMoved_2 : AExit → AAct → Mem → Option (AOut × Mem) := blockX 2 K_l08_LexMoved_6 P_l08_LexMoved
noncomputable def L_l08_LexMoved_2 : AAct → Mem → Option (AOut × Mem) := fun a m => killF (X.lk F_l08_LexMoved 2) a.tmps fun l => loopK X F_l08_LexMoved 2 (sB (sB (sR (sL (sR (sR (sR (sR (sR (sR (sR (sR c_l08_LexMoved)))))))))))) B_l08_LexMoved_2 ⟨l, a.defers⟩ m
noncomputable def K_l08_LexMoved_7 : AAct → Mem → Option (AOut × Mem) := execF X F_l08_LexMoved 0 (sR (sR (sB (sB (sR (sL (sR (sR (sR (sR c_l08_LexMoved)))))))))) L_l08_LexMoved_0 B_l08_LexMoved_0
noncomputable def B_l08_LexMoved_1 : AExit → AAct → Mem → Option (AOut × Mem) := blockX 1 K_l08_LexMoved_7 B_l08_LexMoved_0
noncomputable def K_l08_LexMoved_8 : AAct → Mem → Option (AOut × Mem) := execF X F_l08_LexMoved 0 (sR (sR (sR (sR (sR (sR (sR (sR (sR (sR c_l08_LexMoved)))))))))) N_l08_LexMoved P_l08_LexMoved
noncomputable def K_l08_LexMoved_9 : AAct → Mem → Option (AOut × Mem) := execF X F_l08_LexMoved 0 (sR (sL (sR (sR (sR (sR (sR (sR (sR (sR (sR c_l08_LexMoved))))))))))) K_l08_LexMoved_8 P_l08_LexMoved
noncomputable def K_l08_LexMoved_10 : AAct → Mem → Option (AOut × Mem) := execF X F_l08_LexMoved 2 (sR (sB (sB (sR (sL (sR (sR (sR (sR (sR (sR (sR (sR c_l08_LexMoved))))))))))))) L_l08_LexMoved_2 B_l08_LexMoved_2
noncomputable def K_l08_LexMoved_11 : AAct → Mem → Option (AOut × Mem) := execF X F_l08_LexMoved 2 (sR (sR (sB (sB (sR (sL (sR (sR (sR (sR (sR (sR (sR (sR c_l08_LexMoved)))))))))))))) L_l08_LexMoved_2 B_l08_LexMoved_2
noncomputable def B_l08_LexMoved_3 : AExit → AAct → Mem → Option (AOut × Mem) := blockX 3 K_l08_LexMoved_11 B_l08_LexMoved_2
noncomputable def k_l08_LexMoved_0 (v0 v1 : AV) (m : Mem) : Option (AOut × Mem) := K_l08_LexMoved_0 ⟨[v0, v1, Q, Q, Q, Q, Q, Q, Q, Q, Q, Q, Q, Q, Q, Q, Q, Q, Q, Q, Q, Q, Q, Q, Q, Q, Q, Q, Q, Q, Q, Q, Q, Q, Q, Q, Q, Q, Q, Q, Q, Q, Q, Q, Q, Q, Q, Q, Q, Q, Q, Q, Q, Q, Q, Q, Q, Q, Q, Q, Q, Q, Q, Q, Q, Q, Q, Q, Q, Q, Q, Q, Q, Q, Q, Q, Q, Q, Q, Q, Q, Q, Q, Q, Q, Q, Q, Q, Q, Q, Q, Q, Q, Q, Q, Q, Q, Q, Q], []⟩ m
noncomputable def k_l08_LexMoved_1 (v0 v1 : AV) (m : Mem) : Option (AOut × Mem) := K_l08_LexMoved_1 ⟨[v0, v1, Q, Q, Q, Q, Q, Q, Q, Q, Q, Q, Q, Q, Q, Q, Q, Q, Q, Q, Q, Q, Q, Q, Q, Q, Q, Q, Q, Q, Q, Q, Q, Q, Q, Q, Q, Q, Q, Q, Q, Q, Q, Q, Q, Q, Q, Q, Q, Q, Q, Q, Q, Q, Q, Q, Q, Q, Q, Q, Q, Q, Q, Q, Q, Q, Q, Q, Q, Q, Q, Q, Q, Q, Q, Q, Q, Q, Q, Q, Q, Q, Q, Q, Q, Q, Q, Q, Q, Q, Q, Q, Q, Q, Q, Q, Q, Q, Q], []⟩ m
noncomputable def k_l08_LexMoved_2 (v0 v1 v22 : AV) (m : Mem) : Option (AOut × Mem) := K_l08_LexMoved_2 ⟨[v0, v1, Q, Q, Q, Q, Q, Q, Q, Q, Q, Q, Q, Q, Q, Q, Q, Q, Q, Q, Q, Q, v22, Q, Q, Q, Q, Q, Q, Q, Q, Q, Q, Q, Q, Q, Q, Q, Q, Q, Q, Q, Q, Q, Q, Q, Q, Q, Q, Q, Q, Q, Q, Q, Q, Q, Q, Q, Q, Q, Q, Q, Q, Q, Q, Q, Q, Q, Q, Q, Q, Q, Q, Q, Q, Q, Q, Q, Q, Q, Q, Q, Q, Q, Q, Q, Q, Q, Q, Q, Q, Q, Q, Q, Q, Q, Q, Q, Q], []⟩ m
noncomputable def k_l08_LexMoved_3 (v0 v1 v5 v6 : AV) (m : Mem) : Option (AOut × Mem) := K_l08_LexMoved_3 ⟨[v0, v1, Q, Q, Q, v5, v6, Q, Q, Q, Q, Q, Q, Q, Q, Q, Q, Q, Q, Q, Q, Q, Q, Q, Q, Q, Q, Q, Q, Q, Q, Q, Q, Q, Q, Q, Q, Q, Q, Q, Q, Q, Q, Q, Q, Q, Q, Q, Q, Q, Q, Q, Q, Q, Q, Q, Q, Q, Q, Q, Q, Q, Q, Q, Q, Q, Q, Q, Q, Q, Q, Q, Q, Q, Q, Q, Q, Q, Q, Q, Q, Q, Q, Q, Q, Q, Q, Q, Q, Q, Q, Q, Q, Q, Q, Q, Q, Q, Q], []⟩ m
noncomputable def l_l08_LexMoved_0 (v0 v1 v5 v6 : AV) (m : Mem) : Option (AOut × Mem) := L_l08_LexMoved_0 ⟨[v0, v1, Q, Q, Q, v5, v6, Q, Q, Q, Q, Q, Q, Q, Q, Q, Q, Q, Q, Q, Q, Q, Q, Q, Q, Q, Q, Q, Q, Q, Q, Q, Q, Q, Q, Q, Q, Q, Q, Q, Q, Q, Q, Q, Q, Q, Q, Q, Q, Q, Q, Q, Q, Q, Q, Q, Q, Q, Q, Q, Q, Q, Q, Q, Q, Q, Q, Q, Q, Q, Q, Q, Q, Q, Q, Q, Q, Q, Q, Q, Q, Q, Q, Q, Q, Q, Q, Q, Q, Q, Q, Q, Q, Q, Q, Q, Q, Q, Q], []⟩ m
noncomputable def k_l08_LexMoved_4 (v0 v5 v7 v8 : AV) (m : Mem) : Option (AOut × Mem) := K_l08_LexMoved_4 ⟨[v0, Q, Q, Q, Q, v5, Q, v7, v8, Q, Q, Q, Q, Q, Q, Q, Q, Q, Q, Q, Q, Q, Q, Q, Q, Q, Q, Q, Q, Q, Q, Q, Q, Q, Q, Q, Q, Q, Q, Q, Q, Q, Q, Q, Q, Q, Q, Q, Q, Q, Q, Q, Q, Q, Q, Q, Q, Q, Q, Q, Q, Q, Q, Q, Q, Q, Q, Q, Q, Q, Q, Q, Q, Q, Q, Q, Q, Q, Q, Q, Q, Q, Q, Q, Q, Q, Q, Q, Q, Q, Q, Q, Q, Q, Q, Q, Q, Q, Q], []⟩ m
noncomputable def k_l08_LexMoved_5 (v0 v1 v5 v6 : AV) (m : Mem) : Option (AOut × Mem) := K_l08_LexMoved_5 ⟨[v0, v1, Q, Q, Q, v5, v6, Q, Q, Q, Q, Q, Q, Q, Q, Q, Q, Q, Q, Q, Q, Q, Q, Q, Q, Q, Q, Q, Q, Q, Q, Q, Q, Q, Q, Q, Q, Q, Q, Q, Q, Q, Q, Q, Q, Q, Q, Q, Q, Q, Q, Q, Q, Q, Q, Q, Q, Q, Q, Q, Q, Q, Q, Q, Q, Q, Q, Q, Q, Q, Q, Q, Q, Q, Q, Q, Q, Q, Q, Q, Q, Q, Q, Q, Q, Q, Q, Q, Q, Q, Q, Q, Q, Q, Q, Q, Q, Q, Q], []⟩ m
noncomputable def k_l08_LexMoved_6 (v0 v5 v7 v8 v9 : AV) (m : Mem) : Option (AOut × Mem) := K_l08_LexMoved_6 ⟨[v0, Q, Q, Q, Q, v5, Q, v7, v8, v9, Q, Q, Q, Q, Q, Q, Q, Q, Q, Q, Q, Q, Q, Q, Q, Q, Q, Q, Q, Q, Q, Q, Q, Q, Q, Q, Q, Q, Q, Q, Q, Q, Q, Q, Q, Q, Q, Q, Q, Q, Q, Q, Q, Q, Q, Q, Q, Q, Q, Q, Q, Q, Q, Q, Q, Q, Q, Q, Q, Q, Q, Q, Q, Q, Q, Q, Q, Q, Q, Q, Q, Q, Q, Q, Q, Q, Q, Q, Q, Q, Q, Q, Q, Q, Q, Q, Q, Q, Q], []⟩ m
noncomputable def l_l08_LexMoved_2 (v0 v5 v7 v8 v9 : AV) (m : Mem) : Option (AOut × Mem) := L_l08_LexMoved_2 ⟨[v0, Q, Q, Q, Q, v5, Q, v7, v8, v9, Q, Q, Q, Q, Q, Q, Q, Q, Q, Q, Q, Q, Q, Q, Q, Q, Q, Q, Q, Q, Q, Q, Q, Q, Q, Q, Q, Q, Q, Q, Q, Q, Q, Q, Q, Q, Q, Q, Q, Q, Q, Q, Q, Q, Q, Q, Q, Q, Q, Q, Q, Q, Q, Q, Q, Q, Q, Q, Q, Q, Q, Q, Q, Q, Q, Q, Q, Q, Q, Q, Q, Q, Q, Q, Q, Q, Q, Q, Q, Q, Q, Q, Q, Q, Q, Q, Q, Q, Q], []⟩ m
noncomputable def k_l08_LexMoved_7 (v0 v1 v5 v6 : AV) (m : Mem) : Option (AOut × Mem) := K_l08_LexMoved_7 ⟨[v0, v1, Q, Q, Q, v5, v6, Q, Q, Q, Q, Q, Q, Q, Q, Q, Q, Q, Q, Q, Q, Q, Q, Q, Q, Q, Q, Q, Q, Q, Q, Q, Q, Q, Q, Q, Q, Q, Q, Q, Q, Q, Q, Q, Q, Q, Q, Q, Q, Q, Q, Q, Q, Q, Q, Q, Q, Q, Q, Q, Q, Q, Q, Q, Q, Q, Q, Q, Q, Q, Q, Q, Q, Q, Q, Q, Q, Q, Q, Q, Q, Q, Q, Q, Q, Q, Q, Q, Q, Q, Q, Q, Q, Q, Q, Q, Q, Q, Q], []⟩ m
noncomputable def k_l08_LexMoved_8 (v0 v5 v7 : AV) (m : Mem) : Option (AOut × Mem) := K_l08_LexMoved_8 ⟨[v0, Q, Q, Q, Q, v5, Q, v7, Q, Q, Q, Q, Q, Q, Q, Q, Q, Q, Q, Q, Q, Q, Q, Q, Q, Q, Q, Q, Q, Q, Q, Q, Q, Q, Q, Q, Q, Q, Q, Q, Q, Q, Q, Q, Q, Q, Q, Q, Q, Q, Q, Q, Q, Q, Q, Q, Q, Q, Q, Q, Q, Q, Q, Q, Q, Q, Q, Q, Q, Q, Q, Q, Q, Q, Q, Q, Q, Q, Q, Q, Q, Q, Q, Q, Q, Q, Q, Q, Q, Q, Q, Q, Q, Q, Q, Q, Q, Q, Q], []⟩ m
noncomputable def k_l08_LexMoved_9 (v0 v5 v7 v90 : AV) (m : Mem) : Option (AOut × Mem) := K_l08_LexMoved_9 ⟨[v0, Q, Q, Q, Q, v5, Q, v7, Q, Q, Q, Q, Q, Q, Q, Q, Q, Q, Q, Q, Q, Q, Q, Q, Q, Q, Q, Q, Q, Q, Q, Q, Q, Q, Q, Q, Q, Q, Q, Q, Q, Q, Q, Q, Q, Q, Q, Q, Q, Q, Q, Q, Q, Q, Q, Q, Q, Q, Q, Q, Q, Q, Q, Q, Q, Q, Q, Q, Q, Q, Q, Q, Q, Q, Q, Q, Q, Q, Q, Q, Q, Q, Q, Q, Q, Q, Q, Q, Q, Q, v90, Q, Q, Q, Q, Q, Q, Q, Q], []⟩ m
noncomputable def k_l08_LexMoved_10 (v0 v5 v7 v8 v9 : AV) (m : Mem) : Option (AOut × Mem) := K_l08_LexMoved_10 ⟨[v0, Q, Q, Q, Q, v5, Q, v7, v8, v9, Q, Q, Q, Q, Q, Q, Q, Q, Q, Q, Q, Q, Q, Q, Q, Q, Q, Q, Q, Q, Q, Q, Q, Q, Q, Q, Q, Q, Q, Q, Q, Q, Q, Q, Q, Q, Q, Q, Q, Q, Q, Q, Q, Q, Q, Q, Q, Q, Q, Q, Q, Q, Q, Q, Q, Q, Q, Q, Q, Q, Q, Q, Q, Q, Q, Q, Q, Q, Q, Q, Q, Q, Q, Q, Q, Q, Q, Q, Q, Q, Q, Q, Q, Q, Q, Q, Q, Q, Q], []⟩ m
noncomputable def k_l08_LexMoved_11 (v0 v5 v7 v8 v9 : AV) (m : Mem) : Option (AOut × Mem) := K_l08_LexMoved_11 ⟨[v0, Q, Q, Q, Q, v5, Q, v7, v8, v9, Q, Q, Q, Q, Q, Q, Q, Q, Q, Q, Q, Q, Q, Q, Q, Q, Q, Q, Q, Q, Q, Q, Q, Q, Q, Q, Q, Q, Q, Q, Q, Q, Q, Q, Q, Q, Q, Q, Q, Q, Q, Q, Q, Q, Q, Q, Q, Q, Q, Q, Q, Q, Q, Q, Q, Q, Q, Q, Q, Q, Q, Q, Q, Q, Q, Q, Q, Q, Q, Q, Q, Q, Q, Q, Q, Q, Q, Q, Q, Q, Q, Q, Q, Q, Q, Q, Q, Q, Q], []⟩ m
theorem e_l08_LexMoved (v0 v1 : AV) (m : Mem) : w_l08_LexMoved v0 v1 m =
  retK (w_l08_alive m) (fun v10 m1 =>
  bnd (aUn .not v10) fun v11 =>
  onBool v11
    (some (.ret (.bool false), m1))
    (k_l08_LexMoved_0 v0 v1 m1)) (fun u m1 => some (.pan u, m1)) := (aW_F (c := c_l08_LexMoved) (fn := Try.f3) (by kernel_rfl) (by kernel_rfl) (by kernel_rfl) _ m).trans (by kernel_rfl)
theorem k_l08_LexMoved_0_eq (v0 v1 : AV) (m : Mem) : k_l08_LexMoved_0 v0 v1 m =
  bnd (rLenStr v0) fun v13 =>
  bnd (aBin X.T .gtr T_int false true v13 (.int .i64 5000)) fun v14 =>
  onWant v14
    (k_l08_LexMoved_2 v0 v1 (.bool true) m)
    (bnd (aBin X.T .lss T_int false true v1 (.int .i64 0)) fun v17 =>
  onWant v17
    (k_l08_LexMoved_2 v0 v1 (.bool true) m)
    (bnd (aBin X.T .gtr T_int false true v1 (.int .i64 1000)) fun v21 =>
  k_l08_LexMoved_2 v0 v1 v21 m)
    (none))
    (none) := by kernel_rfl
theorem k_l08_LexMoved_1_eq (v0 v1 : AV) (m : Mem) : k_l08_LexMoved_1 v0 v1 m =
  bnd (rBuildSlice A_uint8 0 []) fun v23 =>
  l_l08_LexMoved_0 v0 v1 v23 (.int .i64 0) m := by kernel_rfl
theorem k_l08_LexMoved_2_eq (v0 v1 v22 : AV) (m : Mem) : k_l08_LexMoved_2 v0 v1 v22 m =
  onBool v22
    (some (.ret (.bool true), m))
    (k_l08_LexMoved_1 v0 v1 m) := by kernel_rfl
theorem k_l08_LexMoved_3_eq (v0 v1 v5 v6 : AV) (m : Mem) : k_l08_LexMoved_3 v0 v1 v5 v6 m =
  retK (w_lex_Lex v0 m) (fun v34 m1 =>
  bnd (rBytesStr v5) fun v36 =>
  bnd (aBin X.T .add T_string false false v36 v0) fun v38 =>
  retK (w_lex_Lex v38 m1) (fun v39 m2 =>
  bnd (rLenSl v39) fun v41 =>
  bnd (rLenSl v34) fun v43 =>
  bnd (aBin X.T .neq T_int false false v41 v43) fun v44 =>
  onBool v44
    (some (.ret (.bool false), m2))
    (k_l08_LexMoved_4 v0 v5 v34 v39 m2)) (fun u m2 => some (.pan u, m2))) (fun u m1 => some (.pan u, m1)) := by kernel_rfl
theorem l_l08_LexMoved_0_u (v0 v1 v5 v6 : AV) (m : Mem) : l_l08_LexMoved_0 v0 v1 v5 v6 m = loopK X F_l08_LexMoved 0 (sB (sB (sR (sL (sR (sR (sR (sR c_l08_LexMoved)))))))) B_l08_LexMoved_0 ⟨[v0, v1, Q, Q, Q, v5, v6, Q, Q, Q, Q, Q, Q, Q, Q, Q, Q, Q, Q, Q, Q, Q, Q, Q, Q, Q, Q, Q, Q, Q, Q, Q, Q, Q, Q, Q, Q, Q, Q, Q, Q, Q, Q, Q, Q, Q, Q, Q, Q, Q, Q, Q, Q, Q, Q, Q, Q, Q, Q, Q, Q, Q, Q, Q, Q, Q, Q, Q, Q, Q, Q, Q, Q, Q, Q, Q, Q, Q, Q, Q, Q, Q, Q, Q, Q, Q, Q, Q, Q, Q, Q, Q, Q, Q, Q, Q, Q, Q, Q], []⟩ m := by kernel_rfl
theorem l_l08_LexMoved_0_r (v0 v1 v5 v6 : AV) (m : Mem) : roundF X F_l08_LexMoved 0 (sB (sB (sR (sL (sR (sR (sR (sR c_l08_LexMoved)))))))) B_l08_LexMoved_0 [v0, v1, Q, Q, Q, v5, v6, Q, Q, Q, Q, Q, Q, Q, Q, Q, Q, Q, Q, Q, Q, Q, Q, Q, Q, Q, Q, Q, Q, Q, Q, Q, Q, Q, Q, Q, Q, Q, Q, Q, Q, Q, Q, Q, Q, Q, Q, Q, Q, Q, Q, Q, Q, Q, Q, Q, Q, Q, Q, Q, Q, Q, Q, Q, Q, Q, Q, Q, Q, Q, Q, Q, Q, Q, Q, Q, Q, Q, Q, Q, Q, Q, Q, Q, Q, Q, Q, Q, Q, Q, Q, Q, Q, Q, Q, Q, Q, Q, Q] m =
  bnd (aBin X.T .lss T_int false false v6 v1) fun v26 =>
  onBool v26
    (k_l08_LexMoved_5 v0 v1 v5 v6 m)
    (k_l08_LexMoved_3 v0 v1 v5 v6 m) := by kernel_rfl
theorem l_l08_LexMoved_0_eq (v0 v1 v5 v6 : AV) (m : Mem) : l_l08_LexMoved_0 v0 v1 v5 v6 m =
  bnd (aBin X.T .lss T_int false false v6 v1) fun v26 =>
  onBool v26
    (k_l08_LexMoved_5 v0 v1 v5 v6 m)
    (k_l08_LexMoved_3 v0 v1 v5 v6 m) := roundF_of (l_l08_LexMoved_0_u v0 v1 v5 v6 m) (l_l08_LexMoved_0_r v0 v1 v5 v6 m)
theorem k_l08_LexMoved_4_eq (v0 v5 v7 v8 : AV) (m : Mem) : k_l08_LexMoved_4 v0 v5 v7 v8 m =
  l_l08_LexMoved_2 v0 v5 v7 v8 (.int .i64 0) m := by kernel_rfl
theorem k_l08_LexMoved_5_eq (v0 v1 v5 v6 : AV) (m : Mem) : k_l08_LexMoved_5 v0 v1 v5 v6 m =
  bnd (rBuildSlice A_uint8 14 [(0, (.int .u8 10)), (1, (.int .u8 32)), (2, (.int .u8 40)), (3, (.int .u8 42)), (4, (.int .u8 32)), (5, (.int .u8 108)), (6, (.int .u8 101)), (7, (.int .u8 116)), (8, (.int .u8 32)), (9, (.int .u8 41)), (10, (.int .u8 32)), (11, (.int .u8 42)), (12, (.int .u8 41)), (13, (.int .u8 32))]) fun v30 =>
  bnd (aLit X.T T_Sl_uint8 v30) fun v31 =>
  memK (rAppend A_uint8 0 m v5 v31) fun v32 m1 =>
  k_l08_LexMoved_7 v0 v1 v32 v6 m1 := by kernel_rfl
theorem k_l08_LexMoved_6_eq (v0 v5 v7 v8 v9 : AV) (m : Mem) : k_l08_LexMoved_6 v0 v5 v7 v8 v9 m =
  bnd (rLenSl v7) fun v79 =>
  bnd (aBin X.T .gtr T_int false true v79 (.int .i64 0)) fun v80 =>
  onWant v80
    (bnd (rLenSl v7) fun v84 =>
  bnd (aBin X.T .sub T_int false true v84 (.int .i64 1)) fun v85 =>
  bnd (rIxAddrSl 3 v7 v85) fun v86 =>
  bnd (rFieldAddr 0 v86) fun v87 =>
  bnd (rLoad false 1 m v87) fun v88 =>
  bnd (aBin X.T .eql T_int false true v88 (.int .i64 7)) fun v89 =>
  k_l08_LexMoved_9 v0 v5 v7 v89 m)
    (k_l08_LexMoved_9 v0 v5 v7 (.bool false) m)
    (none) := by kernel_rfl
theorem l_l08_LexMoved_2_u (v0 v5 v7 v8 v9 : AV) (m : Mem) : l_l08_LexMoved_2 v0 v5 v7 v8 v9 m = loopK X F_l08_LexMoved 2 (sB (sB (sR (sL (sR (sR (sR (sR (sR (sR (sR (sR c_l08_LexMoved)))))))))))) B_l08_LexMoved_2 ⟨[v0, Q, Q, Q, Q, v5, Q, v7, v8, v9, Q, Q, Q, Q, Q, Q, Q, Q, Q, Q, Q, Q, Q, Q, Q, Q, Q, Q, Q, Q, Q, Q, Q, Q, Q, Q, Q, Q, Q, Q, Q, Q, Q, Q, Q, Q, Q, Q, Q, Q, Q, Q, Q, Q, Q, Q, Q, Q, Q, Q, Q, Q, Q, Q, Q, Q, Q, Q, Q, Q, Q, Q, Q, Q, Q, Q, Q, Q, Q, Q, Q, Q, Q, Q, Q, Q, Q, Q, Q, Q, Q, Q, Q, Q, Q, Q, Q, Q, Q], []⟩ m := by kernel_rfl
theorem l_l08_LexMoved_2_r (v0 v5 v7 v8 v9 : AV) (m : Mem) : roundF X F_l08_LexMoved 2 (sB (sB (sR (sL (sR (sR (sR (sR (sR (sR (sR (sR c_l08_LexMoved)))))))))))) B_l08_LexMoved_2 [v0, Q, Q, Q, Q, v5, Q, v7, v8, v9, Q, Q, Q, Q, Q, Q, Q, Q, Q, Q, Q, Q, Q, Q, Q, Q, Q, Q, Q, Q, Q, Q, Q, Q, Q, Q, Q, Q, Q, Q, Q, Q, Q, Q, Q, Q, Q, Q, Q, Q, Q, Q, Q, Q, Q, Q, Q, Q, Q, Q, Q, Q, Q, Q, Q, Q, Q, Q, Q, Q, Q, Q, Q, Q, Q, Q, Q, Q, Q, Q, Q, Q, Q, Q, Q, Q, Q, Q, Q, Q, Q, Q, Q, Q, Q, Q, Q, Q, Q] m =
  bnd (rLenSl v7) fun v47 =>
  bnd (aBin X.T .lss T_int false false v9 v47) fun v48 =>
  onBool v48
    (k_l08_LexMoved_10 v0 v5 v7 v8 v9 m)
    (k_l08_LexMoved_6 v0 v5 v7 v8 v9 m) := by kernel_rfl
theorem l_l08_LexMoved_2_eq (v0 v5 v7 v8 v9 : AV) (m : Mem) : l_l08_LexMoved_2 v0 v5 v7 v8 v9 m =
  bnd (rLenSl v7) fun v47 =>
  bnd (aBin X.T .lss T_int false false v9 v47) fun v48 =>
  onBool v48
    (k_l08_LexMoved_10 v0 v5 v7 v8 v9 m)
    (k_l08_LexMoved_6 v0 v5 v7 v8 v9 m) := roundF_of (l_l08_LexMoved_2_u v0 v5 v7 v8 v9 m) (l_l08_LexMoved_2_r v0 v5 v7 v8 v9 m)
theorem k_l08_LexMoved_7_eq (v0 v1 v5 v6 : AV) (m : Mem) : k_l08_LexMoved_7 v0 v1 v5 v6 m =
  bnd (aBin X.T .add T_int false true v6 (.int .i64 1)) fun v28 =>
  l_l08_LexMoved_0 v0 v1 v5 v28 m := by kernel_rfl
theorem k_l08_LexMoved_8_eq (v0 v5 v7 : AV) (m : Mem) : k_l08_LexMoved_8 v0 v5 v7 m =
  bnd (aBin X.T .add T_string false true v0 (.str (bs [32]))) fun v92 =>
  bnd (rBytesStr v5) fun v94 =>
  bnd (aBin X.T .add T_string false false v92 v94) fun v95 =>
  retK (w_lex_Lex v95 m) (fun v96 m1 =>
  retK (w_r00_SameTokens v96 v7 m1) (fun v98 m2 =>
  some (.ret v98, m2)) (fun u m2 => some (.pan u, m2))) (fun u m1 => some (.pan u, m1)) := by kernel_rfl
theorem k_l08_LexMoved_9_eq (v0 v5 v7 v90 : AV) (m : Mem) : k_l08_LexMoved_9 v0 v5 v7 v90 m =
  onBool v90
    (some (.ret (.bool true), m))
    (k_l08_LexMoved_8 v0 v5 v7 m) := by kernel_rfl
theorem k_l08_LexMoved_10_eq (v0 v5 v7 v8 v9 : AV) (m : Mem) : k_l08_LexMoved_10 v0 v5 v7 v8 v9 m =
  bnd (rIxAddrSl 3 v8 v9) fun v53 =>
  bnd (rLoad true 3 m v53) fun v54 =>
  bnd (rIxAddrSl 3 v7 v9) fun v57 =>
  bnd (rFieldAddr 0 v57) fun v58 =>
  bnd (rLoad false 1 m v58) fun v59 =>
  bnd (rIxAddrSl 3 v7 v9) fun v62 =>
  bnd (rFieldAddr 1 v62) fun v63 =>
  bnd (rLoad false 1 m v63) fun v64 =>
  bnd (rLenSl v5) fun v66 =>
  bnd (aBin X.T .add T_int false false v64 v66) fun v67 =>
  bnd (rIxAddrSl 3 v7 v9) fun v70 =>
  bnd (rFieldAddr 2 v70) fun v71 =>
  bnd (rLoad false 1 m v71) fun v72 =>
  bnd (rLenSl v5) fun v74 =>
  bnd (aBin X.T .add T_int false false v72 v74) fun v75 =>
  bnd (rBuild [.int .i64 0, .int .i64 0, .int .i64 0] [(0, 1, v59), (1, 1, v67), (2, 1, v75)]) fun v76 =>
  bnd (aBin X.T .neq T_api_Token false false v54 v76) fun v77 =>
  onBool v77
    (some (.ret (.bool false), m))
    (k_l08_LexMoved_11 v0 v5 v7 v8 v9 m) := by kernel_rfl
theorem k_l08_LexMoved_11_eq (v0 v5 v7 v8 v9 : AV) (m : Mem) : k_l08_LexMoved_11 v0 v5 v7 v8 v9 m =
  bnd (aBin X.T .add T_int false true v9 (.int .i64 1)) fun v50 =>
  l_l08_LexMoved_2 v0 v5 v7 v8 v50 m := by kernel_rfl

/-! ### parlance/parlancelaw08.LexAgain -/
noncomputable def c_l08_LexAgain : Code := bodyOf Try.f4
noncomputable def N_l08_LexAgain : AAct → Mem → Option (AOut × Mem) := finK X.T Try.f4.results.toList .normal
noncomputable def P_l08_LexAgain : AExit → AAct → Mem → Option (AOut × Mem) := finK X.T Try.f4.results.toList
noncomputable def K_l08_LexAgain_0 : AAct → Mem → Option (AOut × Mem) := execF X F_l08_LexAgain 0 (sR (sR c_l08_LexAgain)) N_l08_LexAgain P_l08_LexAgain
noncomputable def K_l08_LexAgain_1 : AAct → Mem → Option (AOut × Mem) := execF X F_l08_LexAgain 0 (sR (sR (sR c_l08_LexAgain))) N_l08_LexAgain P_l08_LexAgain
noncomputable def K_l08_LexAgain_2 : AAct → Mem → Option (AOut × Mem) := execF X F_l08_LexAgain 0 (sR (sR (sR (sR (sR (sR c_l08_LexAgain)))))) N_l08_LexAgain P_l08_LexAgain
noncomputable def B_l08_LexAgain_0 : AExit → AAct → Mem → Option (AOut × Mem) := blockX 0 K_l08_LexAgain_2 P_l08_LexAgain
noncomputable def L_l08_LexAgain_0 : AAct → Mem → Option (AOut × Mem) := fun a m => killF (X.lk F_l08_LexAgain 0) a.tmps fun l => loopK X F_l08_LexAgain 0 (sB (sB (sR (sL (sR (sR (sR (sR (sR c_l08_LexAgain))))))))) B_l08_LexAgain_0 ⟨l, a.defers⟩ m
noncomputable def K_l08_LexAgain_3 : AAct → Mem → Option (AOut × Mem) := execF X F_l08_LexAgain 0 (sR (sR (sR (sR (sR (sR (sR (sR c_l08_LexAgain)))))))) N_l08_LexAgain P_l08_LexAgain
noncomputable def K_l08_LexAgain_4 : AAct → Mem → Option (AOut × Mem) := execF X F_l08_LexAgain 0 (sR (sB (sB (sR (sL (sR (sR (sR (sR (sR c_l08_LexAgain)))))))))) L_l08_LexAgain_0 B_l08_LexAgain_0
noncomputable def K_l08_LexAgain_5 : AAct → Mem → Option (AOut × Mem) := execF X F_l08_LexAgain 0 (sR (sR (sR (sR (sR (sR (sR (sR (sR c_l08_LexAgain))))))))) N_l08_LexAgain P_l08_LexAgain
noncomputable def B_l08_LexAgain_2 : AExit → AAct → Mem → Option (AOut × Mem) := blockX 2 K_l08_LexAgain_5 P_l08_LexAgain
noncomputable def L_l08_LexAgain_2 : AAct → Mem → Option (AOut × Mem) := fun a m => killF (X.lk F_l08_LexAgain 2) a.tmps fun l => loopK X F_l08_LexAgain 2 (sB (sB (sR (sL (sR (sR (sR (sR (sR (sR (sR (sR c_l08_LexAgain)))))))))))) B_l08_LexAgain_2 ⟨l, a.defers⟩ m
noncomputable def K_l08_LexAgain_6 : AAct → Mem → Option (AOut × Mem) := execF X F_l08_LexAgain 0 (sR (sR (sB (sB (sR (sL (sR (sR (sR (sR (sR c_l08_LexAgain))))))))))) L_l08_LexAgain_0 B_l08_LexAgain_0
noncomputable def B_l08_LexAgain_1 : AExit → AAct → Mem → Option (AOut × Mem) := blockX 1 K_l08_LexAgain_6 B_l08_LexAgain_0
noncomputable def K_l08_LexAgain_7 : AAct → Mem → Option (AOut × Mem) := execF X F_l08_LexAgain 1 (sR (sB (sL (sR (sB (sB (sR (sL (sR (sR (sR (sR (sR c_l08_LexAgain))))))))))))) K_l08_LexAgain_6 B_l08_LexAgain_1
noncomputable def K_l08_LexAgain_8 : AAct → Mem → Option (AOut × Mem) := execF X F_l08_LexAgain 2 (sR (sB (sB (sR (sL (sR (sR (sR (sR (sR (sR (sR (sR c_l08_LexAgain))))))))))))) L_l08_LexAgain_2 B_l08_LexAgain_2
noncomputable def K_l08_LexAgain_9 : AAct → Mem → Option (AOut × Mem) := execF X F_l08_LexAgain 2 (sR (sR (sB (sB (sR (sL (sR (sR (sR (sR (sR (sR (sR (sR c_l08_LexAgain)))))))))))))) L_l08_LexAgain_2 B_l08_LexAgain_2
noncomputable def B_l08_LexAgain_3 : AExit → AAct → Mem → Option (AOut × Mem) := blockX 3 K_l08_LexAgain_9 B_l08_LexAgain_2
noncomputable def K_l08_LexAgain_10 : AAct → Mem → Option (AOut × Mem) := execF X F_l08_LexAgain 3 (sR (sB (sL (sR (sB (sB (sR (sL (sR (sR (sR (sR (sR (sR (sR (sR c_l08_LexAgain)))))))))))))))) K_l08_LexAgain_9 B_l08_LexAgain_3
noncomputable def k_l08_LexAgain_0 (v0 : AV) (m : Mem) : Option (AOut × Mem) := K_l08_LexAgain_0 ⟨[v0, Q, Q, Q, Q, Q, Q, Q, Q, Q, Q, Q, Q, Q, Q, Q, Q, Q, Q, Q, Q, Q, Q, Q, Q, Q, Q, Q, Q, Q, Q, Q, Q, Q, Q, Q, Q, Q, Q, Q, Q, Q, Q, Q, Q, Q, Q, Q, Q, Q, Q, Q, Q, Q, Q, Q, Q, Q, Q, Q, Q, Q, Q, Q, Q, Q, Q, Q, Q, Q, Q, Q, Q, Q, Q, Q, Q, Q, Q], []⟩ m
noncomputable def k_l08_LexAgain_1 (v0 : AV) (m : Mem) : Option (AOut × Mem) := K_l08_LexAgain_1 ⟨[v0, Q, Q, Q, Q, Q, Q, Q, Q, Q, Q, Q, Q, Q, Q, Q, Q, Q, Q, Q, Q, Q, Q, Q, Q, Q, Q, Q, Q, Q, Q, Q, Q, Q, Q, Q, Q, Q, Q, Q, Q, Q, Q, Q, Q, Q, Q, Q, Q, Q, Q, Q, Q, Q, Q, Q, Q, Q, Q, Q, Q, Q, Q, Q, Q, Q, Q, Q, Q, Q, Q, Q, Q, Q, Q, Q, Q, Q, Q], []⟩ m
noncomputable def k_l08_LexAgain_2 (v0 v3 v4 v5 : AV) (m : Mem) : Option (AOut × Mem) := K_l08_LexAgain_2 ⟨[v0, Q, Q, v3, v4, v5, Q, Q, Q, Q, Q, Q, Q, Q, Q, Q, Q, Q, Q, Q, Q, Q, Q, Q, Q, Q, Q, Q, Q, Q, Q, Q, Q, Q, Q, Q, Q, Q, Q, Q, Q, Q, Q, Q, Q, Q, Q, Q, Q, Q, Q, Q, Q, Q, Q, Q, Q, Q, Q, Q, Q, Q, Q, Q, Q, Q, Q, Q, Q, Q, Q, Q, Q, Q, Q, Q, Q, Q, Q], []⟩ m
noncomputable def l_l08_LexAgain_0 (v0 v3 v4 v5 : AV) (m : Mem) : Option (AOut × Mem) := L_l08_LexAgain_0 ⟨[v0, Q, Q, v3, v4, v5, Q, Q, Q, Q, Q, Q, Q, Q, Q, Q, Q, Q, Q, Q, Q, Q, Q, Q, Q, Q, Q, Q, Q, Q, Q, Q, Q, Q, Q, Q, Q, Q, Q, Q, Q, Q, Q, Q, Q, Q, Q, Q, Q, Q, Q, Q, Q, Q, Q, Q, Q, Q, Q, Q, Q, Q, Q, Q, Q, Q, Q, Q, Q, Q, Q, Q, Q, Q, Q, Q, Q, Q, Q], []⟩ m
noncomputable def k_l08_LexAgain_3 (v0 v3 v4 v6 : AV) (m : Mem) : Option (AOut × Mem) := K_l08_LexAgain_3 ⟨[v0, Q, Q, v3, v4, Q, v6, Q, Q, Q, Q, Q, Q, Q, Q, Q, Q, Q, Q, Q, Q, Q, Q, Q, Q, Q, Q, Q, Q, Q, Q, Q, Q, Q, Q, Q, Q, Q, Q, Q, Q, Q, Q, Q, Q, Q, Q, Q, Q, Q, Q, Q, Q, Q, Q, Q, Q, Q, Q, Q, Q, Q, Q, Q, Q, Q, Q, Q, Q, Q, Q, Q, Q, Q, Q, Q, Q, Q, Q], []⟩ m
noncomputable def k_l08_LexAgain_4 (v0 v3 v4 v5 : AV) (m : Mem) : Option (AOut × Mem) := K_l08_LexAgain_4 ⟨[v0, Q, Q, v3, v4, v5, Q, Q, Q, Q, Q, Q, Q, Q, Q, Q, Q, Q, Q, Q, Q, Q, Q, Q, Q, Q, Q, Q, Q, Q, Q, Q, Q, Q, Q, Q, Q, Q, Q, Q, Q, Q, Q, Q, Q, Q, Q, Q, Q, Q, Q, Q, Q, Q, Q, Q, Q, Q, Q, Q, Q, Q, Q, Q, Q, Q, Q, Q, Q, Q, Q, Q, Q, Q, Q, Q, Q, Q, Q], []⟩ m
noncomputable def k_l08_LexAgain_5 (v0 v3 v4 v6 v7 : AV) (m : Mem) : Option (AOut × Mem) := K_l08_LexAgain_5 ⟨[v0, Q, Q, v3, v4, Q, v6, v7, Q, Q, Q, Q, Q, Q, Q, Q, Q, Q, Q, Q, Q, Q, Q, Q, Q, Q, Q, Q, Q, Q, Q, Q, Q, Q, Q, Q, Q, Q, Q, Q, Q, Q, Q, Q, Q, Q, Q, Q, Q, Q, Q, Q, Q, Q, Q, Q, Q, Q, Q, Q, Q, Q, Q, Q, Q, Q, Q, Q, Q, Q, Q, Q, Q, Q, Q, Q, Q, Q, Q], []⟩ m
noncomputable def l_l08_LexAgain_2 (v0 v3 v4 v6 v7 : AV) (m : Mem) : Option (AOut × Mem) := L_l08_LexAgain_2 ⟨[v0, Q, Q, v3, v4, Q, v6, v7, Q, Q, Q, Q, Q, Q, Q, Q, Q, Q, Q, Q, Q, Q, Q, Q, Q, Q, Q, Q, Q, Q, Q, Q, Q, Q, Q, Q, Q, Q, Q, Q, Q, Q, Q, Q, Q, Q, Q, Q, Q, Q, Q, Q, Q, Q, Q, Q, Q, Q, Q, Q, Q, Q, Q, Q, Q, Q, Q, Q, Q, Q, Q, Q, Q, Q, Q, Q, Q, Q, Q], []⟩ m
noncomputable def k_l08_LexAgain_6 (v0 v3 v4 v5 : AV) (m : Mem) : Option (AOut × Mem) := K_l08_LexAgain_6 ⟨[v0, Q, Q, v3, v4, v5, Q, Q, Q, Q, Q, Q, Q, Q, Q, Q, Q, Q, Q, Q, Q, Q, Q, Q, Q, Q, Q, Q, Q, Q, Q, Q, Q, Q, Q, Q, Q, Q, Q, Q, Q, Q, Q, Q, Q, Q, Q, Q, Q, Q, Q, Q, Q, Q, Q, Q, Q, Q, Q, Q, Q, Q, Q, Q, Q, Q, Q, Q, Q, Q, Q, Q, Q, Q, Q, Q, Q, Q, Q], []⟩ m
noncomputable def k_l08_LexAgain_7 (v0 v3 v4 v5 : AV) (m : Mem) : Option (AOut × Mem) := K_l08_LexAgain_7 ⟨[v0, Q, Q, v3, v4, v5, Q, Q, Q, Q, Q, Q, Q, Q, Q, Q, Q, Q, Q, Q, Q, Q, Q, Q, Q, Q, Q, Q, Q, Q, Q, Q, Q, Q, Q, Q, Q, Q, Q, Q, Q, Q, Q, Q, Q, Q, Q, Q, Q, Q, Q, Q, Q, Q, Q, Q, Q, Q, Q, Q, Q, Q, Q, Q, Q, Q, Q, Q, Q, Q, Q, Q, Q, Q, Q, Q, Q, Q, Q], []⟩ m
noncomputable def k_l08_LexAgain_8 (v0 v3 v4 v6 v7 : AV) (m : Mem) : Option (AOut × Mem) := K_l08_LexAgain_8 ⟨[v0, Q, Q, v3, v4, Q, v6, v7, Q, Q, Q, Q, Q, Q, Q, Q, Q, Q, Q, Q, Q, Q, Q, Q, Q, Q, Q, Q, Q, Q, Q, Q, Q, Q, Q, Q, Q, Q, Q, Q, Q, Q, Q, Q, Q, Q, Q, Q, Q, Q, Q, Q, Q, Q, Q, Q, Q, Q, Q, Q, Q, Q, Q, Q, Q, Q, Q, Q, Q, Q, Q, Q, Q, Q, Q, Q, Q, Q, Q], []⟩ m
noncomputable def k_l08_LexAgain_9 (v0 v3 v4 v6 v7 : AV) (m : Mem) : Option (AOut × Mem) := K_l08_LexAgain_9 ⟨[v0, Q, Q, v3, v4, Q, v6, v7, Q, Q, Q, Q, Q, Q, Q, Q, Q, Q, Q, Q, Q, Q, Q, Q, Q, Q, Q, Q, Q, Q, Q, Q, Q, Q, Q, Q, Q, Q, Q, Q, Q, Q, Q, Q, Q, Q, Q, Q, Q, Q, Q, Q, Q, Q, Q, Q, Q, Q, Q, Q, Q, Q, Q, Q, Q, Q, Q, Q, Q, Q, Q, Q, Q, Q, Q, Q, Q, Q, Q], []⟩ m
noncomputable def k_l08_LexAgain_10 (v0 v3 v4 v6 v7 v78 : AV) (m : Mem) : Option (AOut × Mem) := K_l08_LexAgain_10 ⟨[v0, Q, Q, v3, v4, Q, v6, v7, Q, Q, Q, Q, Q, Q, Q, Q, Q, Q, Q, Q, Q, Q, Q, Q, Q, Q, Q, Q, Q, Q, Q, Q, Q, Q, Q, Q, Q, Q, Q, Q, Q, Q, Q, Q, Q, Q, Q, Q, Q, Q, Q, Q, Q, Q, Q, Q, Q, Q, Q, Q, Q, Q, Q, Q, Q, Q, Q, Q, Q, Q, Q, Q, Q, Q, Q, Q, Q, Q, v78], []⟩ m
theorem e_l08_LexAgain (v0 : AV) (m : Mem) : w_l08_LexAgain v0 m =
  retK (w_l08_alive m) (fun v8 m1 =>
  bnd (aUn .not v8) fun v9 =>
  onBool v9
    (some (.ret (.bool false), m1))
    (k_l08_LexAgain_0 v0 m1)) (fun u m1 => some (.pan u, m1)) := (aW_F (c := c_l08_LexAgain) (fn := Try.f4) (by kernel_rfl) (by kernel_rfl) (by kernel_rfl) _ m).trans (by kernel_rfl)
theorem k_l08_LexAgain_0_eq (v0 : AV) (m : Mem) : k_l08_LexAgain_0 v0 m =
  bnd (rLenStr v0) fun v11 =>
  bnd (aBin X.T .gtr T_int false true v11 (.int .i64 5000)) fun v12 =>
  onBool v12
    (some (.ret (.bool true), m))
    (k_l08_LexAgain_1 v0 m) := by kernel_rfl
theorem k_l08_LexAgain_1_eq (v0 : AV) (m : Mem) : k_l08_LexAgain_1 v0 m =
  retK (w_lex_Lex v0 m) (fun v14 m1 =>
  bnd (rBuildSlice A_uint8 0 []) fun v15 =>
  l_l08_LexAgain_0 v0 v14 v15 (.int .i64 0) m1) (fun u m1 => some (.pan u, m1)) := by kernel_rfl
theorem k_l08_LexAgain_2_eq (v0 v3 v4 v5 : AV) (m : Mem) : k_l08_LexAgain_2 v0 v3 v4 v5 m =
  bnd (rBytesStr v4) fun v39 =>
  retK (w_lex_Lex v39 m) (fun v40 m1 =>
  bnd (rLenSl v40) fun v42 =>
  bnd (rLenSl v3) fun v44 =>
  bnd (aBin X.T .neq T_int false false v42 v44) fun v45 =>
  onBool v45
    (some (.ret (.bool false), m1))
    (k_l08_LexAgain_3 v0 v3 v4 v40 m1)) (fun u m1 => some (.pan u, m1)) := by kernel_rfl
theorem l_l08_LexAgain_0_u (v0 v3 v4 v5 : AV) (m : Mem) : l_l08_LexAgain_0 v0 v3 v4 v5 m = loopK X F_l08_LexAgain 0 (sB (sB (sR (sL (sR (sR (sR (sR (sR c_l08_LexAgain))))))))) B_l08_LexAgain_0 ⟨[v0, Q, Q, v3, v4, v5, Q, Q, Q, Q, Q, Q, Q, Q, Q, Q, Q, Q, Q, Q, Q, Q, Q, Q, Q, Q, Q, Q, Q, Q, Q, Q, Q, Q, Q, Q, Q, Q, Q, Q, Q, Q, Q, Q, Q, Q, Q, Q, Q, Q, Q, Q, Q, Q, Q, Q, Q, Q, Q, Q, Q, Q, Q, Q, Q, Q, Q, Q, Q, Q, Q, Q, Q, Q, Q, Q, Q, Q, Q], []⟩ m := by kernel_rfl
theorem l_l08_LexAgain_0_r (v0 v3 v4 v5 : AV) (m : Mem) : roundF X F_l08_LexAgain 0 (sB (sB (sR (sL (sR (sR (sR (sR (sR c_l08_LexAgain))))))))) B_l08_LexAgain_0 [v0, Q, Q, v3, v4, v5, Q, Q, Q, Q, Q, Q, Q, Q, Q, Q, Q, Q, Q, Q, Q, Q, Q, Q, Q, Q, Q, Q, Q, Q, Q, Q, Q, Q, Q, Q, Q, Q, Q, Q, Q, Q, Q, Q, Q, Q, Q, Q, Q, Q, Q, Q, Q, Q, Q, Q, Q, Q, Q, Q, Q, Q, Q, Q, Q, Q, Q, Q, Q, Q, Q, Q, Q, Q, Q, Q, Q, Q, Q] m =
  bnd (rLenSl v3) fun v18 =>
  bnd (aBin X.T .lss T_int false false v5 v18) fun v19 =>
  onBool v19
    (k_l08_LexAgain_4 v0 v3 v4 v5 m)
    (k_l08_LexAgain_2 v0 v3 v4 v5 m) := by kernel_rfl
theorem l_l08_LexAgain_0_eq (v0 v3 v4 v5 : AV) (m : Mem) : l_l08_LexAgain_0 v0 v3 v4 v5 m =
  bnd (rLenSl v3) fun v18 =>
  bnd (aBin X.T .lss T_int false false v5 v18) fun v19 =>
  onBool v19
    (k_l08_LexAgain_4 v0 v3 v4 v5 m)
    (k_l08_LexAgain_2 v0 v3 v4 v5 m) := roundF_of (l_l08_LexAgain_0_u v0 v3 v4 v5 m) (l_l08_LexAgain_0_r v0 v3 v4 v5 m)
theorem k_l08_LexAgain_3_eq (v0 v3 v4 v6 : AV) (m : Mem) : k_l08_LexAgain_3 v0 v3 v4 v6 m =
  l_l08_LexAgain_2 v0 v3 v4 v6 (.int .i64 0) m := by kernel_rfl
theorem k_l08_LexAgain_4_eq (v0 v3 v4 v5 : AV) (m : Mem) : k_l08_LexAgain_4 v0 v3 v4 v5 m =
  bnd (rIxAddrSl 3 v3 v5) fun v24 =>
  bnd (rFieldAddr 0 v24) fun v25 =>
  bnd (rLoad false 1 m v25) fun v26 =>
  bnd (aBin X.T .eql T_int false true v26 (.int .i64 7)) fun v27 =>
  onBool v27
    (some (.ret (.bool true), m))
    (k_l08_LexAgain_7 v0 v3 v4 v5 m) := by kernel_rfl
theorem k_l08_LexAgain_5_eq (v0 v3 v4 v6 v7 : AV) (m : Mem) : k_l08_LexAgain_5 v0 v3 v4 v6 v7 m =
  some (.ret (.bool true), m) := by kernel_rfl
theorem l_l08_LexAgain_2_u (v0 v3 v4 v6 v7 : AV) (m : Mem) : l_l08_LexAgain_2 v0 v3 v4 v6 v7 m = loopK X F_l08_LexAgain 2 (sB (sB (sR (sL (sR (sR (sR (sR (sR (sR (sR (sR c_l08_LexAgain)))))))))))) B_l08_LexAgain_2 ⟨[v0, Q, Q, v3, v4, Q, v6, v7, Q, Q, Q, Q, Q, Q, Q, Q, Q, Q, Q, Q, Q, Q, Q, Q, Q, Q, Q, Q, Q, Q, Q, Q, Q, Q, Q, Q, Q, Q, Q, Q, Q, Q, Q, Q, Q, Q, Q, Q, Q, Q, Q, Q, Q, Q, Q, Q, Q, Q, Q, Q, Q, Q, Q, Q, Q, Q, Q, Q, Q, Q, Q, Q, Q, Q, Q, Q, Q, Q, Q], []⟩ m := by kernel_rfl
theorem l_l08_LexAgain_2_r (v0 v3 v4 v6 v7 : AV) (m : Mem) : roundF X F_l08_LexAgain 2 (sB (sB (sR (sL (sR (sR (sR (sR (sR (sR (sR (sR c_l08_LexAgain)))))))))))) B_l08_LexAgain_2 [v0, Q, Q, v3, v4, Q, v6, v7, Q, Q, Q, Q, Q, Q, Q, Q, Q, Q, Q, Q, Q, Q, Q, Q, Q, Q, Q, Q, Q, Q, Q, Q, Q, Q, Q, Q, Q, Q, Q, Q, Q, Q, Q, Q, Q, Q, Q, Q, Q, Q, Q, Q, Q, Q, Q, Q, Q, Q, Q, Q, Q, Q, Q, Q, Q, Q, Q, Q, Q, Q, Q, Q, Q, Q, Q, Q, Q, Q, Q] m =
  bnd (rLenSl v3) fun v48 =>
  bnd (aBin X.T .lss T_int false false v7 v48) fun v49 =>
  onBool v49
    (k_l08_LexAgain_8 v0 v3 v4 v6 v7 m)
    (k_l08_LexAgain_5 v0 v3 v4 v6 v7 m) := by kernel_rfl
theorem l_l08_LexAgain_2_eq (v0 v3 v4 v6 v7 : AV) (m : Mem) : l_l08_LexAgain_2 v0 v3 v4 v6 v7 m =
  bnd (rLenSl v3) fun v48 =>
  bnd (aBin X.T .lss T_int false false v7 v48) fun v49 =>
  onBool v49
    (k_l08_LexAgain_8 v0 v3 v4 v6 v7 m)
    (k_l08_LexAgain_5 v0 v3 v4 v6 v7 m) := roundF_of (l_l08_LexAgain_2_u v0 v3 v4 v6 v7 m) (l_l08_LexAgain_2_r v0 v3 v4 v6 v7 m)
theorem k_l08_LexAgain_6_eq (v0 v3 v4 v5 : AV) (m : Mem) : k_l08_LexAgain_6 v0 v3 v4 v5 m =
  bnd (aBin X.T .add T_int false true v5 (.int .i64 1)) fun v21 =>
  l_l08_LexAgain_0 v0 v3 v4 v21 m := by kernel_rfl
theorem k_l08_LexAgain_7_eq (v0 v3 v4 v5 : AV) (m : Mem) : k_l08_LexAgain_7 v0 v3 v4 v5 m =
  bnd (rIxAddrSl 3 v3 v5) fun v32 =>
  bnd (rLoad true 3 m v32) fun v33 =>
  retK (w_lex_Word v0 v33 m) (fun v34 m1 =>
  bnd (aBin X.T .add T_string false true v34 (.str (bs [32]))) fun v35 =>
  bnd (rStrBytes v35) fun v36 =>
  memK (rAppend A_uint8 0 m1 v4 v36) fun v37 m2 =>
  k_l08_LexAgain_6 v0 v3 v37 v5 m2) (fun u m1 => some (.pan u, m1)) := by kernel_rfl
theorem k_l08_LexAgain_8_eq (v0 v3 v4 v6 v7 : AV) (m : Mem) : k_l08_LexAgain_8 v0 v3 v4 v6 v7 m =
  bnd (rIxAddrSl 3 v6 v7) fun v54 =>
  bnd (rFieldAddr 0 v54) fun v55 =>
  bnd (rLoad false 1 m v55) fun v56 =>
  bnd (rIxAddrSl 3 v3 v7) fun v59 =>
  bnd (rFieldAddr 0 v59) fun v60 =>
  bnd (rLoad false 1 m v60) fun v61 =>
  bnd (aBin X.T .neq T_int false false v56 v61) fun v62 =>
  onWant v62
    (k_l08_LexAgain_10 v0 v3 v4 v6 v7 (.bool true) m)
    (bnd (rBytesStr v4) fun v65 =>
  bnd (rIxAddrSl 3 v6 v7) fun v68 =>
  bnd (rLoad true 3 m v68) fun v69 =>
  retK (w_lex_Word v65 v69 m) (fun v70 m1 =>
  bnd (rIxAddrSl 3 v3 v7) fun v74 =>
  bnd (rLoad true 3 m1 v74) fun v75 =>
  retK (w_lex_Word v0 v75 m1) (fun v76 m2 =>
  bnd (aBin X.T .neq T_string false false v70 v76) fun v77 =>
  bnd (rLoad true 3 m v74) fun u =>
  sameK u v75 <|
  k_l08_LexAgain_10 v0 v3 v4 v6 v7 v77 m2) (fun u m2 => none)) (fun u m1 => none))
    (none) := by kernel_rfl
theorem k_l08_LexAgain_9_eq (v0 v3 v4 v6 v7 : AV) (m : Mem) : k_l08_LexAgain_9 v0 v3 v4 v6 v7 m =
  bnd (aBin X.T .add T_int false true v7 (.int .i64 1)) fun v51 =>
  l_l08_LexAgain_2 v0 v3 v4 v6 v51 m := by kernel_rfl
theorem k_l08_LexAgain_10_eq (v0 v3 v4 v6 v7 v78 : AV) (m : Mem) : k_l08_LexAgain_10 v0 v3 v4 v6 v7 v78 m =
  onBool v78
    (some (.ret (.bool false), m))
    (k_l08_LexAgain_9 v0 v3 v4 v6 v7 m) := by kernel_rfl

end Go.AM
