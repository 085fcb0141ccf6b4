/-
  A part of the proof: equations or tables of the program over the abstract machine, printed by a program of this proof's own.
-/
import Derived.Test.YtpffgljpkehgmaaGCtx
namespace Go.AM
open Go.Proofs
set_option maxRecDepth 100000
set_option linter.unusedVariables false
noncomputable def c_l13_UnifyGreat : Code := bodyOf Try.f7
noncomputable def N_l13_UnifyGreat : AAct → Mem → Option (AOut × Mem) := finK X.T Try.f7.results.toList .normal
noncomputable def P_l13_UnifyGreat : AExit → AAct → Mem → Option (AOut × Mem) := finK X.T Try.f7.results.toList
noncomputable def K_l13_UnifyGreat_0 : AAct → Mem → Option (AOut × Mem) := execF X F_l13_UnifyGreat 0 (sR (sR c_l13_UnifyGreat)) N_l13_UnifyGreat P_l13_UnifyGreat
noncomputable def K_l13_UnifyGreat_1 : AAct → Mem → Option (AOut × Mem) := execF X F_l13_UnifyGreat 0 (sR (sR (sR c_l13_UnifyGreat))) N_l13_UnifyGreat P_l13_UnifyGreat
noncomputable def K_l13_UnifyGreat_2 : AAct → Mem → Option (AOut × Mem) := execF X F_l13_UnifyGreat 0 (sR (sL (sR (sR c_l13_UnifyGreat)))) K_l13_UnifyGreat_1 P_l13_UnifyGreat
noncomputable def K_l13_UnifyGreat_3 : AAct → Mem → Option (AOut × Mem) := execF X F_l13_UnifyGreat 0 (sR (sR (sR (sR (sR c_l13_UnifyGreat))))) N_l13_UnifyGreat P_l13_UnifyGreat
noncomputable def K_l13_UnifyGreat_4 : AAct → Mem → Option (AOut × Mem) := execF X F_l13_UnifyGreat 0 (sR (sR (sR (sR (sR (sR (sR (sR (sR c_l13_UnifyGreat))))))))) N_l13_UnifyGreat P_l13_UnifyGreat
noncomputable def B_l13_UnifyGreat_0 : AExit → AAct → Mem → Option (AOut × Mem) := blockX 0 K_l13_UnifyGreat_4 P_l13_UnifyGreat
noncomputable def L_l13_UnifyGreat_0 : AAct → Mem → Option (AOut × Mem) := fun a m => killF (X.lk F_l13_UnifyGreat 0) a.tmps fun l => loopK X F_l13_UnifyGreat 0 (sB (sB (sR (sL (sR (sR (sR (sR (sR (sR (sR (sR c_l13_UnifyGreat)))))))))))) B_l13_UnifyGreat_0 ⟨l, a.defers⟩ m
noncomputable def K_l13_UnifyGreat_5 : AAct → Mem → Option (AOut × Mem) := execF X F_l13_UnifyGreat 0 (sR (sR (sR (sR (sR (sR (sR (sR (sR (sR c_l13_UnifyGreat)))))))))) N_l13_UnifyGreat P_l13_UnifyGreat
noncomputable def K_l13_UnifyGreat_6 : AAct → Mem → Option (AOut × Mem) := execF X F_l13_UnifyGreat 0 (sR (sL (sR (sR (sR (sR (sR (sR (sR (sR (sR c_l13_UnifyGreat))))))))))) K_l13_UnifyGreat_5 P_l13_UnifyGreat
noncomputable def K_l13_UnifyGreat_7 : AAct → Mem → Option (AOut × Mem) := execF X F_l13_UnifyGreat 0 (sR (sB (sB (sR (sL (sR (sR (sR (sR (sR (sR (sR (sR c_l13_UnifyGreat))))))))))))) L_l13_UnifyGreat_0 B_l13_UnifyGreat_0
noncomputable def K_l13_UnifyGreat_8 : AAct → Mem → Option (AOut × Mem) := execF X F_l13_UnifyGreat 0 (sR (sR (sB (sB (sR (sL (sR (sR (sR (sR (sR (sR (sR (sR c_l13_UnifyGreat)))))))))))))) L_l13_UnifyGreat_0 B_l13_UnifyGreat_0
noncomputable def B_l13_UnifyGreat_1 : AExit → AAct → Mem → Option (AOut × Mem) := blockX 1 K_l13_UnifyGreat_8 B_l13_UnifyGreat_0
noncomputable def K_l13_UnifyGreat_9 : AAct → Mem → Option (AOut × Mem) := execF X F_l13_UnifyGreat 1 (sR (sR (sR (sB (sL (sR (sB (sB (sR (sL (sR (sR (sR (sR (sR (sR (sR (sR c_l13_UnifyGreat)))))))))))))))))) K_l13_UnifyGreat_8 B_l13_UnifyGreat_1
noncomputable def K_l13_UnifyGreat_10 : AAct → Mem → Option (AOut × Mem) := execF X F_l13_UnifyGreat 1 (sR (sL (sR (sR (sB (sL (sR (sB (sB (sR (sL (sR (sR (sR (sR (sR (sR (sR (sR c_l13_UnifyGreat))))))))))))))))))) K_l13_UnifyGreat_9 B_l13_UnifyGreat_1
noncomputable def K_l13_UnifyGreat_11 : AAct → Mem → Option (AOut × Mem) := execF X F_l13_UnifyGreat 1 (sR (sR (sR (sR (sR (sR (sR (sB (sL (sR (sB (sB (sR (sL (sR (sR (sR (sR (sR (sR (sR (sR c_l13_UnifyGreat)))))))))))))))))))))) K_l13_UnifyGreat_8 B_l13_UnifyGreat_1
noncomputable def k_l13_UnifyGreat_0 (v0 : AV) (m : Mem) : Option (AOut × Mem) := K_l13_UnifyGreat_0 ⟨[v0, Q, Q, Q, Q, Q, Q, Q, Q, Q, Q, Q, Q, Q, Q, Q, Q, Q, Q, Q, Q, Q, Q, Q, Q, Q, Q, Q, Q, Q, Q, Q, Q, Q, Q, Q, Q, Q, Q, Q, Q, Q, Q, Q, Q, Q, Q, Q, Q, Q, Q, Q, Q, Q, Q, Q, Q, Q, Q, Q, Q, Q, Q, Q, Q, Q, Q, Q, Q, Q, Q, Q, Q, Q, Q, Q, Q, Q, Q, Q, Q, Q, Q, Q, Q, Q, Q, Q, Q, Q, Q, Q, Q, Q, Q, Q, Q, Q, Q, Q, Q, Q, Q, Q, Q, Q, Q, Q, Q], []⟩ m
noncomputable def k_l13_UnifyGreat_1 (v0 : AV) (m : Mem) : Option (AOut × Mem) := K_l13_UnifyGreat_1 ⟨[v0, Q, Q, Q, Q, Q, Q, Q, Q, Q, Q, Q, Q, Q, Q, Q, Q, Q, Q, Q, Q, Q, Q, Q, Q, Q, Q, Q, Q, Q, Q, Q, Q, Q, Q, Q, Q, Q, Q, Q, Q, Q, Q, Q, Q, Q, Q, Q, Q, Q, Q, Q, Q, Q, Q, Q, Q, Q, Q, Q, Q, Q, Q, Q, Q, Q, Q, Q, Q, Q, Q, Q, Q, Q, Q, Q, Q, Q, Q, Q, Q, Q, Q, Q, Q, Q, Q, Q, Q, Q, Q, Q, Q, Q, Q, Q, Q, Q, Q, Q, Q, Q, Q, Q, Q, Q, Q, Q, Q], []⟩ m
noncomputable def k_l13_UnifyGreat_2 (v0 v21 : AV) (m : Mem) : Option (AOut × Mem) := K_l13_UnifyGreat_2 ⟨[v0, Q, Q, Q, Q, Q, Q, Q, Q, Q, Q, Q, Q, Q, Q, Q, Q, Q, Q, Q, Q, v21, Q, Q, Q, Q, Q, Q, Q, Q, Q, Q, Q, Q, Q, Q, Q, Q, Q, Q, Q, Q, Q, Q, Q, Q, Q, Q, Q, Q, Q, Q, Q, Q, Q, Q, Q, Q, Q, Q, Q, Q, Q, Q, Q, Q, Q, Q, Q, Q, Q, Q, Q, Q, Q, Q, Q, Q, Q, Q, Q, Q, Q, Q, Q, Q, Q, Q, Q, Q, Q, Q, Q, Q, Q, Q, Q, Q, Q, Q, Q, Q, Q, Q, Q, Q, Q, Q, Q], []⟩ m
noncomputable def k_l13_UnifyGreat_3 (v0 v3 : AV) (m : Mem) : Option (AOut × Mem) := K_l13_UnifyGreat_3 ⟨[v0, Q, Q, v3, Q, Q, Q, Q, Q, Q, Q, Q, Q, Q, Q, Q, Q, Q, Q, Q, Q, Q, Q, Q, Q, Q, Q, Q, Q, Q, Q, Q, Q, Q, Q, Q, Q, Q, Q, Q, Q, Q, Q, Q, Q, Q, Q, Q, Q, Q, Q, Q, Q, Q, Q, Q, Q, Q, Q, Q, Q, Q, Q, Q, Q, Q, Q, Q, Q, Q, Q, Q, Q, Q, Q, Q, Q, Q, Q, Q, Q, Q, Q, Q, Q, Q, Q, Q, Q, Q, Q, Q, Q, Q, Q, Q, Q, Q, Q, Q, Q, Q, Q, Q, Q, Q, Q, Q, Q], []⟩ m
noncomputable def k_l13_UnifyGreat_4 (v0 v3 v4 v5 v6 v7 : AV) (m : Mem) : Option (AOut × Mem) := K_l13_UnifyGreat_4 ⟨[v0, Q, Q, v3, v4, v5, v6, v7, Q, Q, Q, Q, Q, Q, Q, Q, Q, Q, Q, Q, Q, Q, Q, Q, Q, Q, Q, Q, Q, Q, Q, Q, Q, Q, Q, Q, Q, Q, Q, Q, Q, Q, Q, Q, Q, Q, Q, Q, Q, Q, Q, Q, Q, Q, Q, Q, Q, Q, Q, Q, Q, Q, Q, Q, Q, Q, Q, Q, Q, Q, Q, Q, Q, Q, Q, Q, Q, Q, Q, Q, Q, Q, Q, Q, Q, Q, Q, Q, Q, Q, Q, Q, Q, Q, Q, Q, Q, Q, Q, Q, Q, Q, Q, Q, Q, Q, Q, Q, Q], []⟩ m
noncomputable def l_l13_UnifyGreat_0 (v0 v3 v4 v5 v6 v7 : AV) (m : Mem) : Option (AOut × Mem) := L_l13_UnifyGreat_0 ⟨[v0, Q, Q, v3, v4, v5, v6, v7, Q, Q, Q, Q, Q, Q, Q, Q, Q, Q, Q, Q, Q, Q, Q, Q, Q, Q, Q, Q, Q, Q, Q, Q, Q, Q, Q, Q, Q, Q, Q, Q, Q, Q, Q, Q, Q, Q, Q, Q, Q, Q, Q, Q, Q, Q, Q, Q, Q, Q, Q, Q, Q, Q, Q, Q, Q, Q, Q, Q, Q, Q, Q, Q, Q, Q, Q, Q, Q, Q, Q, Q, Q, Q, Q, Q, Q, Q, Q, Q, Q, Q, Q, Q, Q, Q, Q, Q, Q, Q, Q, Q, Q, Q, Q, Q, Q, Q, Q, Q, Q], []⟩ m
noncomputable def k_l13_UnifyGreat_5 (v3 v4 v5 v6 : AV) (m : Mem) : Option (AOut × Mem) := K_l13_UnifyGreat_5 ⟨[Q, Q, Q, v3, v4, v5, v6, Q, Q, Q, Q, Q, Q, Q, Q, Q, Q, Q, Q, Q, Q, Q, Q, Q, Q, Q, Q, Q, Q, Q, Q, Q, Q, Q, Q, Q, Q, Q, Q, Q, Q, Q, Q, Q, Q, Q, Q, Q, Q, Q, Q, Q, Q, Q, Q, Q, Q, Q, Q, Q, Q, Q, Q, Q, Q, Q, Q, Q, Q, Q, Q, Q, Q, Q, Q, Q, Q, Q, Q, Q, Q, Q, Q, Q, Q, Q, Q, Q, Q, Q, Q, Q, Q, Q, Q, Q, Q, Q, Q, Q, Q, Q, Q, Q, Q, Q, Q, Q, Q], []⟩ m
noncomputable def k_l13_UnifyGreat_6 (v3 v4 v5 v6 v82 : AV) (m : Mem) : Option (AOut × Mem) := K_l13_UnifyGreat_6 ⟨[Q, Q, Q, v3, v4, v5, v6, Q, Q, Q, Q, Q, Q, Q, Q, Q, Q, Q, Q, Q, Q, Q, Q, Q, Q, Q, Q, Q, Q, Q, Q, Q, Q, Q, Q, Q, Q, Q, Q, Q, Q, Q, Q, Q, Q, Q, Q, Q, Q, Q, Q, Q, Q, Q, Q, Q, Q, Q, Q, Q, Q, Q, Q, Q, Q, Q, Q, Q, Q, Q, Q, Q, Q, Q, Q, Q, Q, Q, Q, Q, Q, Q, v82, Q, Q, Q, Q, Q, Q, Q, Q, Q, Q, Q, Q, Q, Q, Q, Q, Q, Q, Q, Q, Q, Q, Q, Q, Q, Q], []⟩ m
noncomputable def k_l13_UnifyGreat_7 (v0 v3 v4 v5 v6 v7 : AV) (m : Mem) : Option (AOut × Mem) := K_l13_UnifyGreat_7 ⟨[v0, Q, Q, v3, v4, v5, v6, v7, Q, Q, Q, Q, Q, Q, Q, Q, Q, Q, Q, Q, Q, Q, Q, Q, Q, Q, Q, Q, Q, Q, Q, Q, Q, Q, Q, Q, Q, Q, Q, Q, Q, Q, Q, Q, Q, Q, Q, Q, Q, Q, Q, Q, Q, Q, Q, Q, Q, Q, Q, Q, Q, Q, Q, Q, Q, Q, Q, Q, Q, Q, Q, Q, Q, Q, Q, Q, Q, Q, Q, Q, Q, Q, Q, Q, Q, Q, Q, Q, Q, Q, Q, Q, Q, Q, Q, Q, Q, Q, Q, Q, Q, Q, Q, Q, Q, Q, Q, Q, Q], []⟩ m
noncomputable def k_l13_UnifyGreat_8 (v0 v3 v4 v5 v6 v7 : AV) (m : Mem) : Option (AOut × Mem) := K_l13_UnifyGreat_8 ⟨[v0, Q, Q, v3, v4, v5, v6, v7, Q, Q, Q, Q, Q, Q, Q, Q, Q, Q, Q, Q, Q, Q, Q, Q, Q, Q, Q, Q, Q, Q, Q, Q, Q, Q, Q, Q, Q, Q, Q, Q, Q, Q, Q, Q, Q, Q, Q, Q, Q, Q, Q, Q, Q, Q, Q, Q, Q, Q, Q, Q, Q, Q, Q, Q, Q, Q, Q, Q, Q, Q, Q, Q, Q, Q, Q, Q, Q, Q, Q, Q, Q, Q, Q, Q, Q, Q, Q, Q, Q, Q, Q, Q, Q, Q, Q, Q, Q, Q, Q, Q, Q, Q, Q, Q, Q, Q, Q, Q, Q], []⟩ m
noncomputable def k_l13_UnifyGreat_9 (v0 v3 v6 v7 v8 v10 : AV) (m : Mem) : Option (AOut × Mem) := K_l13_UnifyGreat_9 ⟨[v0, Q, Q, v3, Q, Q, v6, v7, v8, Q, v10, Q, Q, Q, Q, Q, Q, Q, Q, Q, Q, Q, Q, Q, Q, Q, Q, Q, Q, Q, Q, Q, Q, Q, Q, Q, Q, Q, Q, Q, Q, Q, Q, Q, Q, Q, Q, Q, Q, Q, Q, Q, Q, Q, Q, Q, Q, Q, Q, Q, Q, Q, Q, Q, Q, Q, Q, Q, Q, Q, Q, Q, Q, Q, Q, Q, Q, Q, Q, Q, Q, Q, Q, Q, Q, Q, Q, Q, Q, Q, Q, Q, Q, Q, Q, Q, Q, Q, Q, Q, Q, Q, Q, Q, Q, Q, Q, Q, Q], []⟩ m
noncomputable def k_l13_UnifyGreat_10 (v0 v3 v6 v7 v8 v10 v55 : AV) (m : Mem) : Option (AOut × Mem) := K_l13_UnifyGreat_10 ⟨[v0, Q, Q, v3, Q, Q, v6, v7, v8, Q, v10, Q, Q, Q, Q, Q, Q, Q, Q, Q, Q, Q, Q, Q, Q, Q, Q, Q, Q, Q, Q, Q, Q, Q, Q, Q, Q, Q, Q, Q, Q, Q, Q, Q, Q, Q, Q, Q, Q, Q, Q, Q, Q, Q, Q, v55, Q, Q, Q, Q, Q, Q, Q, Q, Q, Q, Q, Q, Q, Q, Q, Q, Q, Q, Q, Q, Q, Q, Q, Q, Q, Q, Q, Q, Q, Q, Q, Q, Q, Q, Q, Q, Q, Q, Q, Q, Q, Q, Q, Q, Q, Q, Q, Q, Q, Q, Q, Q, Q], []⟩ m
noncomputable def k_l13_UnifyGreat_11 (v0 v3 v4 v5 v6 v7 : AV) (m : Mem) : Option (AOut × Mem) := K_l13_UnifyGreat_11 ⟨[v0, Q, Q, v3, v4, v5, v6, v7, Q, Q, Q, Q, Q, Q, Q, Q, Q, Q, Q, Q, Q, Q, Q, Q, Q, Q, Q, Q, Q, Q, Q, Q, Q, Q, Q, Q, Q, Q, Q, Q, Q, Q, Q, Q, Q, Q, Q, Q, Q, Q, Q, Q, Q, Q, Q, Q, Q, Q, Q, Q, Q, Q, Q, Q, Q, Q, Q, Q, Q, Q, Q, Q, Q, Q, Q, Q, Q, Q, Q, Q, Q, Q, Q, Q, Q, Q, Q, Q, Q, Q, Q, Q, Q, Q, Q, Q, Q, Q, Q, Q, Q, Q, Q, Q, Q, Q, Q, Q, Q], []⟩ m
theorem e_l13_UnifyGreat (v0 : AV) (m : Mem) : w_l13_UnifyGreat v0 m =
  retK (w_l13_alive m) (fun v14 m1 =>
  bnd (aUn .not v14) fun v15 =>
  onBool v15
    (some (.ret (.bool false), m1))
    (k_l13_UnifyGreat_0 v0 m1)) (fun u m1 => some (.pan u, m1)) := (aW_F (c := c_l13_UnifyGreat) (fn := Try.f7) (by kernel_rfl) (by kernel_rfl) (by kernel_rfl) _ m).trans (by kernel_rfl)
theorem k_l13_UnifyGreat_0_eq (v0 : AV) (m : Mem) : k_l13_UnifyGreat_0 v0 m =
  bnd (aBin X.T .lss T_int false true v0 (.int .i64 0)) fun v17 =>
  onWant v17
    (k_l13_UnifyGreat_2 v0 (.bool true) m)
    (bnd (aBin X.T .gtr T_int false true v0 (.int .i64 500)) fun v20 =>
  k_l13_UnifyGreat_2 v0 v20 m)
    (none) := by kernel_rfl
theorem k_l13_UnifyGreat_1_eq (v0 : AV) (m : Mem) : k_l13_UnifyGreat_1 v0 m =
  retK (w_unify_New m) (fun v22 m1 =>
  bnd (aBin X.T .eql T_Pt_unify_Store false true v22 .nilp) fun v24 =>
  onBool v24
    (some (.ret (.bool false), m1))
    (k_l13_UnifyGreat_3 v0 v22 m1)) (fun u m1 => some (.pan u, m1)) := by kernel_rfl
theorem k_l13_UnifyGreat_2_eq (v0 v21 : AV) (m : Mem) : k_l13_UnifyGreat_2 v0 v21 m =
  onBool v21
    (some (.ret (.bool true), m))
    (k_l13_UnifyGreat_1 v0 m) := by kernel_rfl
theorem k_l13_UnifyGreat_3_eq (v0 v3 : AV) (m : Mem) : k_l13_UnifyGreat_3 v0 v3 m =
  retK (w_unify_Store_Var v3 m) (fun v26 m1 =>
  retK (w_unify_Store_Var v3 m1) (fun v28 m2 =>
  l_l13_UnifyGreat_0 v0 v3 v26 v28 (.int .i64 1) (.int .i64 0) m2) (fun u m2 => some (.pan u, m2))) (fun u m1 => some (.pan u, m1)) := by kernel_rfl
theorem k_l13_UnifyGreat_4_eq (v0 v3 v4 v5 v6 v7 : AV) (m : Mem) : k_l13_UnifyGreat_4 v0 v3 v4 v5 v6 v7 m =
  bnd (aBin X.T .gtr T_int false true v0 (.int .i64 0)) fun v69 =>
  onWant v69
    (retK (w_unify_Store_Alike v3 v4 v5 m) (fun v74 m1 =>
  onWant v74
    (k_l13_UnifyGreat_6 v3 v4 v5 v6 (.bool true) m1)
    (retK (w_unify_Store_Unify v3 v4 v5 m1) (fun v80 m2 =>
  bnd (aBin X.T .neq T_api_Errno false true v80 (.int .i64 0)) fun v81 =>
  k_l13_UnifyGreat_6 v3 v4 v5 v6 v81 m2) (fun u m2 => some (.pan u, m2)))
    (none)) (fun u m1 => some (.pan u, m1)))
    (retK (w_unify_Store_Unify v3 v4 v5 m) (fun v80 m1 =>
  bnd (aBin X.T .neq T_api_Errno false true v80 (.int .i64 0)) fun v81 =>
  k_l13_UnifyGreat_6 v3 v4 v5 v6 v81 m1) (fun u m1 => some (.pan u, m1)))
    (none) := by kernel_rfl
theorem l_l13_UnifyGreat_0_u (v0 v3 v4 v5 v6 v7 : AV) (m : Mem) : l_l13_UnifyGreat_0 v0 v3 v4 v5 v6 v7 m = loopK X F_l13_UnifyGreat 0 (sB (sB (sR (sL (sR (sR (sR (sR (sR (sR (sR (sR c_l13_UnifyGreat)))))))))))) B_l13_UnifyGreat_0 ⟨[v0, Q, Q, v3, v4, v5, v6, v7, Q, Q, Q, Q, Q, Q, Q, Q, Q, Q, Q, Q, Q, Q, Q, Q, Q, Q, Q, Q, Q, Q, Q, Q, Q, Q, Q, Q, Q, Q, Q, Q, Q, Q, Q, Q, Q, Q, Q, Q, Q, Q, Q, Q, Q, Q, Q, Q, Q, Q, Q, Q, Q, Q, Q, Q, Q, Q, Q, Q, Q, Q, Q, Q, Q, Q, Q, Q, Q, Q, Q, Q, Q, Q, Q, Q, Q, Q, Q, Q, Q, Q, Q, Q, Q, Q, Q, Q, Q, Q, Q, Q, Q, Q, Q, Q, Q, Q, Q, Q, Q], []⟩ m := by kernel_rfl
theorem l_l13_UnifyGreat_0_r (v0 v3 v4 v5 v6 v7 : AV) (m : Mem) : roundF X F_l13_UnifyGreat 0 (sB (sB (sR (sL (sR (sR (sR (sR (sR (sR (sR (sR c_l13_UnifyGreat)))))))))))) B_l13_UnifyGreat_0 [v0, Q, Q, v3, v4, v5, v6, v7, Q, Q, Q, Q, Q, Q, Q, Q, Q, Q, Q, Q, Q, Q, Q, Q, Q, Q, Q, Q, Q, Q, Q, Q, Q, Q, Q, Q, Q, Q, Q, Q, Q, Q, Q, Q, Q, Q, Q, Q, Q, Q, Q, Q, Q, Q, Q, Q, Q, Q, Q, Q, Q, Q, Q, Q, Q, Q, Q, Q, Q, Q, Q, Q, Q, Q, Q, Q, Q, Q, Q, Q, Q, Q, Q, Q, Q, Q, Q, Q, Q, Q, Q, Q, Q, Q, Q, Q, Q, Q, Q, Q, Q, Q, Q, Q, Q, Q, Q, Q, Q] m =
  bnd (aBin X.T .lss T_int false false v7 v0) fun v31 =>
  onBool v31
    (k_l13_UnifyGreat_7 v0 v3 v4 v5 v6 v7 m)
    (k_l13_UnifyGreat_4 v0 v3 v4 v5 v6 v7 m) := by kernel_rfl
theorem l_l13_UnifyGreat_0_eq (v0 v3 v4 v5 v6 v7 : AV) (m : Mem) : l_l13_UnifyGreat_0 v0 v3 v4 v5 v6 v7 m =
  bnd (aBin X.T .lss T_int false false v7 v0) fun v31 =>
  onBool v31
    (k_l13_UnifyGreat_7 v0 v3 v4 v5 v6 v7 m)
    (k_l13_UnifyGreat_4 v0 v3 v4 v5 v6 v7 m) := roundF_of (l_l13_UnifyGreat_0_u v0 v3 v4 v5 v6 v7 m) (l_l13_UnifyGreat_0_r v0 v3 v4 v5 v6 v7 m)
theorem k_l13_UnifyGreat_5_eq (v3 v4 v5 v6 : AV) (m : Mem) : k_l13_UnifyGreat_5 v3 v4 v5 v6 m =
  bnd (rBuildSlice A_int 1 [(0, v4)]) fun v86 =>
  retK (w_unify_Store_Types v3 v86 m) (fun v87 m1 =>
  bnd (aExtract v87 0) fun v88 =>
  bnd (aExtract v87 1) fun v89 =>
  retK (w_unify_Store_Alike v3 v4 v5 m1) (fun v93 m2 =>
  onWant v93
    (bnd (aBin X.T .eql T_api_Errno false true v89 (.int .i64 0)) fun v96 =>
  bnd (aBin X.T .leq T_int false true v6 (.int .i64 300)) fun v98 =>
  bnd (aBin X.T .eql T_bool false false v96 v98) fun v99 =>
  onWant v99
    (bnd (aBin X.T .eql T_api_Errno false true v89 (.int .i64 0)) fun v103 =>
  bnd (rLenSl v88) fun v105 =>
  bnd (aBin X.T .eql T_int false true v105 (.int .i64 1)) fun v106 =>
  bnd (aBin X.T .eql T_bool false false v103 v106) fun v107 =>
  some (.ret v107, m2))
    (some (.ret (.bool false), m2))
    (none))
    (some (.ret (.bool false), m2))
    (none)) (fun u m2 => some (.pan u, m2))) (fun u m1 => some (.pan u, m1)) := by kernel_rfl
theorem k_l13_UnifyGreat_6_eq (v3 v4 v5 v6 v82 : AV) (m : Mem) : k_l13_UnifyGreat_6 v3 v4 v5 v6 v82 m =
  onBool v82
    (some (.ret (.bool false), m))
    (k_l13_UnifyGreat_5 v3 v4 v5 v6 m) := by kernel_rfl
theorem k_l13_UnifyGreat_7_eq (v0 v3 v4 v5 v6 v7 : AV) (m : Mem) : k_l13_UnifyGreat_7 v0 v3 v4 v5 v6 v7 m =
  bnd (rBuildSlice A_int 2 [(0, v4), (1, v4)]) fun v38 =>
  retK (w_unify_Store_Pair v3 v38 m) (fun v39 m1 =>
  bnd (aExtract v39 0) fun v40 =>
  bnd (aExtract v39 1) fun v41 =>
  bnd (rBuildSlice A_int 2 [(0, v5), (1, v5)]) fun v46 =>
  retK (w_unify_Store_Pair v3 v46 m1) (fun v47 m2 =>
  bnd (aExtract v47 0) fun v48 =>
  bnd (aExtract v47 1) fun v49 =>
  bnd (aBin X.T .neq T_api_Errno false true v41 (.int .i64 0)) fun v51 =>
  onWant v51
    (k_l13_UnifyGreat_10 v0 v3 v6 v7 v40 v48 (.bool true) m2)
    (bnd (aBin X.T .neq T_api_Errno false true v49 (.int .i64 0)) fun v54 =>
  k_l13_UnifyGreat_10 v0 v3 v6 v7 v40 v48 v54 m2)
    (none)) (fun u m2 => some (.pan u, m2))) (fun u m1 => some (.pan u, m1)) := by kernel_rfl
theorem k_l13_UnifyGreat_8_eq (v0 v3 v4 v5 v6 v7 : AV) (m : Mem) : k_l13_UnifyGreat_8 v0 v3 v4 v5 v6 v7 m =
  bnd (aBin X.T .add T_int false true v7 (.int .i64 1)) fun v33 =>
  l_l13_UnifyGreat_0 v0 v3 v4 v5 v6 v33 m := by kernel_rfl
theorem k_l13_UnifyGreat_9_eq (v0 v3 v6 v7 v8 v10 : AV) (m : Mem) : k_l13_UnifyGreat_9 v0 v3 v6 v7 v8 v10 m =
  bnd (aBin X.T .mul T_int true false (.int .i64 2) v6) fun v59 =>
  bnd (aBin X.T .add T_int false true v59 (.int .i64 1)) fun v60 =>
  bnd (aBin X.T .gtr T_int false true v60 (.int .i64 301)) fun v62 =>
  onBool v62
    (k_l13_UnifyGreat_11 v0 v3 v8 v10 (.int .i64 301) v7 m)
    (k_l13_UnifyGreat_11 v0 v3 v8 v10 v60 v7 m) := by kernel_rfl
theorem k_l13_UnifyGreat_10_eq (v0 v3 v6 v7 v8 v10 v55 : AV) (m : Mem) : k_l13_UnifyGreat_10 v0 v3 v6 v7 v8 v10 v55 m =
  onBool v55
    (some (.ret (.bool false), m))
    (k_l13_UnifyGreat_9 v0 v3 v6 v7 v8 v10 m) := by kernel_rfl
theorem k_l13_UnifyGreat_11_eq (v0 v3 v4 v5 v6 v7 : AV) (m : Mem) : k_l13_UnifyGreat_11 v0 v3 v4 v5 v6 v7 m =
  retK (w_unify_Store_Size v3 v4 m) (fun v65 m1 =>
  bnd (aBin X.T .neq T_int false false v65 v6) fun v67 =>
  onBool v67
    (some (.ret (.bool false), m1))
    (k_l13_UnifyGreat_8 v0 v3 v4 v5 v6 v7 m1)) (fun u m1 => some (.pan u, m1)) := by kernel_rfl
end Go.AM
namespace Go.AM
open Go.Proofs
set_option maxRecDepth 100000
set_option linter.unusedVariables false
noncomputable def c_unify_Store_Size : Code := bodyOf Try.f21
noncomputable def N_unify_Store_Size : AAct → Mem → Option (AOut × Mem) := finK X.T Try.f21.results.toList .normal
noncomputable def P_unify_Store_Size : AExit → AAct → Mem → Option (AOut × Mem) := finK X.T Try.f21.results.toList
noncomputable def K_unify_Store_Size_0 : AAct → Mem → Option (AOut × Mem) := execF X F_unify_Store_Size 0 (sR (sR c_unify_Store_Size)) N_unify_Store_Size P_unify_Store_Size
noncomputable def k_unify_Store_Size_0 (v0 v1 : AV) (m : Mem) : Option (AOut × Mem) := K_unify_Store_Size_0 ⟨[v0, v1, Q, Q, Q, Q, Q, Q, Q, Q, Q, Q, Q, Q], []⟩ m
theorem e_unify_Store_Size (v0 v1 : AV) (m : Mem) : w_unify_Store_Size v0 v1 m =
  bnd (rBuildSlice A_int 1 [(0, v1)]) fun v7 =>
  retK (w_unify_Store_there v0 v7 m) (fun v8 m1 =>
  bnd (aUn .not v8) fun v9 =>
  onBool v9
    (some (.ret (.int .i64 0), m1))
    (k_unify_Store_Size_0 v0 v1 m1)) (fun u m1 => some (.pan u, m1)) := (aW_F (c := c_unify_Store_Size) (fn := Try.f21) (by kernel_rfl) (by kernel_rfl) (by kernel_rfl) _ m).trans (by kernel_rfl)
theorem k_unify_Store_Size_0_eq (v0 v1 : AV) (m : Mem) : k_unify_Store_Size_0 v0 v1 m =
  bindK (.map m.next) (m.alloc (.map [])) fun v12 m1 =>
  retK (w_unify_Store_size v0 v1 v12 m1) (fun v13 m2 =>
  some (.ret v13, m2)) (fun u m2 => some (.pan u, m2)) := by kernel_rfl
noncomputable def c_unify_Store_Types : Code := bodyOf Try.f23
noncomputable def N_unify_Store_Types : AAct → Mem → Option (AOut × Mem) := finK X.T Try.f23.results.toList .normal
noncomputable def P_unify_Store_Types : AExit → AAct → Mem → Option (AOut × Mem) := finK X.T Try.f23.results.toList
noncomputable def K_unify_Store_Types_0 : AAct → Mem → Option (AOut × Mem) := execF X F_unify_Store_Types 0 (sR (sR c_unify_Store_Types)) N_unify_Store_Types P_unify_Store_Types
noncomputable def K_unify_Store_Types_1 : AAct → Mem → Option (AOut × Mem) := execF X F_unify_Store_Types 0 (sR (sR (sR (sR (sR c_unify_Store_Types))))) N_unify_Store_Types P_unify_Store_Types
noncomputable def B_unify_Store_Types_0 : AExit → AAct → Mem → Option (AOut × Mem) := blockX 0 K_unify_Store_Types_1 P_unify_Store_Types
noncomputable def L_unify_Store_Types_0 : AAct → Mem → Option (AOut × Mem) := fun a m => killF (X.lk F_unify_Store_Types 0) a.tmps fun l => loopK X F_unify_Store_Types 0 (sB (sB (sR (sL (sR (sR (sR (sR c_unify_Store_Types)))))))) B_unify_Store_Types_0 ⟨l, a.defers⟩ m
noncomputable def K_unify_Store_Types_2 : AAct → Mem → Option (AOut × Mem) := execF X F_unify_Store_Types 0 (sR (sR (sB (sB (sR (sL (sR (sR (sR (sR c_unify_Store_Types)))))))))) L_unify_Store_Types_0 B_unify_Store_Types_0
noncomputable def K_unify_Store_Types_3 : AAct → Mem → Option (AOut × Mem) := execF X F_unify_Store_Types 0 (sR (sR (sR (sB (sB (sR (sL (sR (sR (sR (sR c_unify_Store_Types))))))))))) L_unify_Store_Types_0 B_unify_Store_Types_0
noncomputable def B_unify_Store_Types_1 : AExit → AAct → Mem → Option (AOut × Mem) := blockX 1 K_unify_Store_Types_3 B_unify_Store_Types_0
noncomputable def K_unify_Store_Types_4 : AAct → Mem → Option (AOut × Mem) := execF X F_unify_Store_Types 1 (sR (sR (sB (sL (sR (sR (sB (sB (sR (sL (sR (sR (sR (sR c_unify_Store_Types)))))))))))))) K_unify_Store_Types_3 B_unify_Store_Types_1
noncomputable def k_unify_Store_Types_0 (v0 v1 : AV) (m : Mem) : Option (AOut × Mem) := K_unify_Store_Types_0 ⟨[v0, v1, Q, Q, Q, Q, Q, Q, Q, Q, Q, Q, Q, Q, Q, Q, Q, Q, Q, Q, Q, Q, Q, Q, Q, Q, Q, Q, Q, Q, Q, Q, Q, Q, Q, Q, Q], []⟩ m
noncomputable def k_unify_Store_Types_1 (v0 v6 v7 v8 v17 v18 v19 : AV) (m : Mem) : Option (AOut × Mem) := K_unify_Store_Types_1 ⟨[v0, Q, Q, Q, Q, Q, v6, v7, v8, Q, Q, Q, Q, Q, Q, Q, Q, v17, v18, v19, Q, Q, Q, Q, Q, Q, Q, Q, Q, Q, Q, Q, Q, Q, Q, Q, Q], []⟩ m
noncomputable def l_unify_Store_Types_0 (v0 v6 v7 v8 v17 v18 v19 : AV) (m : Mem) : Option (AOut × Mem) := L_unify_Store_Types_0 ⟨[v0, Q, Q, Q, Q, Q, v6, v7, v8, Q, Q, Q, Q, Q, Q, Q, Q, v17, v18, v19, Q, Q, Q, Q, Q, Q, Q, Q, Q, Q, Q, Q, Q, Q, Q, Q, Q], []⟩ m
noncomputable def k_unify_Store_Types_2 (v0 v6 v7 v8 v17 v18 v19 : AV) (m : Mem) : Option (AOut × Mem) := K_unify_Store_Types_2 ⟨[v0, Q, Q, Q, Q, Q, v6, v7, v8, Q, Q, Q, Q, Q, Q, Q, Q, v17, v18, v19, Q, Q, Q, Q, Q, Q, Q, Q, Q, Q, Q, Q, Q, Q, Q, Q, Q], []⟩ m
noncomputable def k_unify_Store_Types_3 (v0 v6 v7 v8 v17 v18 v19 : AV) (m : Mem) : Option (AOut × Mem) := K_unify_Store_Types_3 ⟨[v0, Q, Q, Q, Q, Q, v6, v7, v8, Q, Q, Q, Q, Q, Q, Q, Q, v17, v18, v19, Q, Q, Q, Q, Q, Q, Q, Q, Q, Q, Q, Q, Q, Q, Q, Q, Q], []⟩ m
noncomputable def k_unify_Store_Types_4 (v0 v6 v7 v8 v10 v17 v18 v19 : AV) (m : Mem) : Option (AOut × Mem) := K_unify_Store_Types_4 ⟨[v0, Q, Q, Q, Q, Q, v6, v7, v8, Q, v10, Q, Q, Q, Q, Q, Q, v17, v18, v19, Q, Q, Q, Q, Q, Q, Q, Q, Q, Q, Q, Q, Q, Q, Q, Q, Q], []⟩ m
theorem e_unify_Store_Types (v0 v1 : AV) (m : Mem) : w_unify_Store_Types v0 v1 m =
  retK (w_unify_Store_there v0 v1 m) (fun v13 m1 =>
  bnd (aUn .not v13) fun v14 =>
  onBool v14
    (some (.ret (.tup [.nils, (.int .i64 221)]), m1))
    (k_unify_Store_Types_0 v0 v1 m1)) (fun u m1 => some (.pan u, m1)) := (aW_F (c := c_unify_Store_Types) (fn := Try.f23) (by kernel_rfl) (by kernel_rfl) (by kernel_rfl) _ m).trans (by kernel_rfl)
theorem k_unify_Store_Types_0_eq (v0 v1 : AV) (m : Mem) : k_unify_Store_Types_0 v0 v1 m =
  bindK (.map m.next) (m.alloc (.map [])) fun v15 m1 =>
  bindK (.map m1.next) (m1.alloc (.map [])) fun v16 m2 =>
  bnd (rLenSl v1) fun v18 =>
  l_unify_Store_Types_0 v0 v15 v16 .nils v1 v18 (.int .i64 0) m2 := by kernel_rfl
theorem k_unify_Store_Types_1_eq (v0 v6 v7 v8 v17 v18 v19 : AV) (m : Mem) : k_unify_Store_Types_1 v0 v6 v7 v8 v17 v18 v19 m =
  some (.ret (.tup [v8, (.int .i64 0)]), m) := by kernel_rfl
theorem l_unify_Store_Types_0_u (v0 v6 v7 v8 v17 v18 v19 : AV) (m : Mem) : l_unify_Store_Types_0 v0 v6 v7 v8 v17 v18 v19 m = loopK X F_unify_Store_Types 0 (sB (sB (sR (sL (sR (sR (sR (sR c_unify_Store_Types)))))))) B_unify_Store_Types_0 ⟨[v0, Q, Q, Q, Q, Q, v6, v7, v8, Q, Q, Q, Q, Q, Q, Q, Q, v17, v18, v19, Q, Q, Q, Q, Q, Q, Q, Q, Q, Q, Q, Q, Q, Q, Q, Q, Q], []⟩ m := by kernel_rfl
theorem l_unify_Store_Types_0_r (v0 v6 v7 v8 v17 v18 v19 : AV) (m : Mem) : roundF X F_unify_Store_Types 0 (sB (sB (sR (sL (sR (sR (sR (sR c_unify_Store_Types)))))))) B_unify_Store_Types_0 [v0, Q, Q, Q, Q, Q, v6, v7, v8, Q, Q, Q, Q, Q, Q, Q, Q, v17, v18, v19, Q, Q, Q, Q, Q, Q, Q, Q, Q, Q, Q, Q, Q, Q, Q, Q, Q] m =
  bnd (aBin X.T .lss T_int false false v19 v18) fun v20 =>
  onBool v20
    (k_unify_Store_Types_2 v0 v6 v7 v8 v17 v18 v19 m)
    (k_unify_Store_Types_1 v0 v6 v7 v8 v17 v18 v19 m) := by kernel_rfl
theorem l_unify_Store_Types_0_eq (v0 v6 v7 v8 v17 v18 v19 : AV) (m : Mem) : l_unify_Store_Types_0 v0 v6 v7 v8 v17 v18 v19 m =
  bnd (aBin X.T .lss T_int false false v19 v18) fun v20 =>
  onBool v20
    (k_unify_Store_Types_2 v0 v6 v7 v8 v17 v18 v19 m)
    (k_unify_Store_Types_1 v0 v6 v7 v8 v17 v18 v19 m) := roundF_of (l_unify_Store_Types_0_u v0 v6 v7 v8 v17 v18 v19 m) (l_unify_Store_Types_0_r v0 v6 v7 v8 v17 v18 v19 m)
theorem k_unify_Store_Types_2_eq (v0 v6 v7 v8 v17 v18 v19 : AV) (m : Mem) : k_unify_Store_Types_2 v0 v6 v7 v8 v17 v18 v19 m =
  bnd (rIxAddrSl 1 v17 v19) fun v21 =>
  bnd (rLoad false 1 m v21) fun v22 =>
  retK (w_unify_Store_size v0 v22 v6 m) (fun v26 m1 =>
  bnd (aBin X.T .gtr T_int false true v26 (.int .i64 300)) fun v27 =>
  onBool v27
    (some (.ret (.tup [.nils, (.int .i64 120)]), m1))
    (k_unify_Store_Types_4 v0 v6 v7 v8 v22 v17 v18 v19 m1)) (fun u m1 => some (.pan u, m1)) := by kernel_rfl
theorem k_unify_Store_Types_3_eq (v0 v6 v7 v8 v17 v18 v19 : AV) (m : Mem) : k_unify_Store_Types_3 v0 v6 v7 v8 v17 v18 v19 m =
  bnd (aBin X.T .add T_int false true v19 (.int .i64 1)) fun v35 =>
  l_unify_Store_Types_0 v0 v6 v7 v8 v17 v18 v35 m := by kernel_rfl
theorem k_unify_Store_Types_4_eq (v0 v6 v7 v8 v10 v17 v18 v19 : AV) (m : Mem) : k_unify_Store_Types_4 v0 v6 v7 v8 v10 v17 v18 v19 m =
  retK (w_unify_Store_typ v0 v10 v7 m) (fun v32 m1 =>
  bnd (rBuildSlice A_api_Type 1 [(0, v32)]) fun v33 =>
  memK (rAppend A_api_Type 0 m1 v8 v33) fun v34 m2 =>
  k_unify_Store_Types_3 v0 v6 v7 v34 v17 v18 v19 m2) (fun u m1 => some (.pan u, m1)) := by kernel_rfl
end Go.AM
namespace Go.AM
open Go.Proofs
set_option maxRecDepth 100000
set_option linter.unusedVariables false
noncomputable def c_unify_Store_Alike : Code := bodyOf Try.f27
noncomputable def N_unify_Store_Alike : AAct → Mem → Option (AOut × Mem) := finK X.T Try.f27.results.toList .normal
noncomputable def P_unify_Store_Alike : AExit → AAct → Mem → Option (AOut × Mem) := finK X.T Try.f27.results.toList
noncomputable def K_unify_Store_Alike_0 : AAct → Mem → Option (AOut × Mem) := execF X F_unify_Store_Alike 0 (sR (sR c_unify_Store_Alike)) N_unify_Store_Alike P_unify_Store_Alike
noncomputable def k_unify_Store_Alike_0 (v0 v1 v2 : AV) (m : Mem) : Option (AOut × Mem) := K_unify_Store_Alike_0 ⟨[v0, v1, v2, Q, Q, Q, Q, Q, Q, Q, Q, Q, Q, Q, Q, Q, Q, Q, Q, Q, Q, Q, Q, Q], []⟩ m
theorem e_unify_Store_Alike (v0 v1 v2 : AV) (m : Mem) : w_unify_Store_Alike v0 v1 v2 m =
  bnd (rBuildSlice A_int 2 [(0, v1), (1, v2)]) fun v11 =>
  retK (w_unify_Store_there v0 v11 m) (fun v12 m1 =>
  bnd (aUn .not v12) fun v13 =>
  onBool v13
    (some (.ret (.bool false), m1))
    (k_unify_Store_Alike_0 v0 v1 v2 m1)) (fun u m1 => some (.pan u, m1)) := (aW_F (c := c_unify_Store_Alike) (fn := Try.f27) (by kernel_rfl) (by kernel_rfl) (by kernel_rfl) _ m).trans (by kernel_rfl)
theorem k_unify_Store_Alike_0_eq (v0 v1 v2 : AV) (m : Mem) : k_unify_Store_Alike_0 v0 v1 v2 m =
  nilK v0
  (bnd (rFieldAddr 1 v0) fun v16 =>
  bnd (rStore 1 m v16 .nils) fun m1 =>
  retK (w_unify_Store_merge v0 v1 v2 (.bool true) m1) (fun v20 m2 =>
  retK (w_unify_Store_undo v0 m2) (fun v22 m3 =>
  some (.ret v20, m3)) (fun u m3 => some (.pan u, m3))) (fun u m2 => some (.pan u, m2))) := by kernel_rfl
end Go.AM
namespace Go.AM
open Go.Proofs
set_option maxRecDepth 100000
set_option linter.unusedVariables false
noncomputable def c_unify_Store_Unify : Code := bodyOf Try.f31
noncomputable def N_unify_Store_Unify : AAct → Mem → Option (AOut × Mem) := finK X.T Try.f31.results.toList .normal
noncomputable def P_unify_Store_Unify : AExit → AAct → Mem → Option (AOut × Mem) := finK X.T Try.f31.results.toList
noncomputable def K_unify_Store_Unify_0 : AAct → Mem → Option (AOut × Mem) := execF X F_unify_Store_Unify 0 (sR (sR c_unify_Store_Unify)) N_unify_Store_Unify P_unify_Store_Unify
noncomputable def K_unify_Store_Unify_1 : AAct → Mem → Option (AOut × Mem) := execF X F_unify_Store_Unify 0 (sR (sR (sR (sR (sR c_unify_Store_Unify))))) N_unify_Store_Unify P_unify_Store_Unify
noncomputable def K_unify_Store_Unify_2 : AAct → Mem → Option (AOut × Mem) := execF X F_unify_Store_Unify 0 (sR (sR (sR (sR (sR (sR c_unify_Store_Unify)))))) N_unify_Store_Unify P_unify_Store_Unify
noncomputable def k_unify_Store_Unify_0 (v0 v1 v2 : AV) (m : Mem) : Option (AOut × Mem) := K_unify_Store_Unify_0 ⟨[v0, v1, v2, Q, Q, Q, Q, Q, Q, Q, Q, Q, Q, Q, Q, Q, Q, Q, Q, Q, Q, Q, Q, Q, Q, Q, Q, Q, Q, Q, Q, Q, Q], []⟩ m
noncomputable def k_unify_Store_Unify_1 (v0 v7 : AV) (m : Mem) : Option (AOut × Mem) := K_unify_Store_Unify_1 ⟨[v0, Q, Q, Q, Q, Q, Q, v7, Q, Q, Q, Q, Q, Q, Q, Q, Q, Q, Q, Q, Q, Q, Q, Q, Q, Q, Q, Q, Q, Q, Q, Q, Q], []⟩ m
noncomputable def k_unify_Store_Unify_2 (v0 v7 : AV) (m : Mem) : Option (AOut × Mem) := K_unify_Store_Unify_2 ⟨[v0, Q, Q, Q, Q, Q, Q, v7, Q, Q, Q, Q, Q, Q, Q, Q, Q, Q, Q, Q, Q, Q, Q, Q, Q, Q, Q, Q, Q, Q, Q, Q, Q], []⟩ m
theorem e_unify_Store_Unify (v0 v1 v2 : AV) (m : Mem) : w_unify_Store_Unify v0 v1 v2 m =
  bnd (rBuildSlice A_int 2 [(0, v1), (1, v2)]) fun v11 =>
  retK (w_unify_Store_there v0 v11 m) (fun v12 m1 =>
  bnd (aUn .not v12) fun v13 =>
  onBool v13
    (some (.ret (.int .i64 221), m1))
    (k_unify_Store_Unify_0 v0 v1 v2 m1)) (fun u m1 => some (.pan u, m1)) := (aW_F (c := c_unify_Store_Unify) (fn := Try.f31) (by kernel_rfl) (by kernel_rfl) (by kernel_rfl) _ m).trans (by kernel_rfl)
theorem k_unify_Store_Unify_0_eq (v0 v1 v2 : AV) (m : Mem) : k_unify_Store_Unify_0 v0 v1 v2 m =
  nilK v0
  (bnd (rFieldAddr 1 v0) fun v16 =>
  bnd (rStore 1 m v16 .nils) fun m1 =>
  retK (w_unify_Store_merge v0 v1 v2 (.bool false) m1) (fun v21 m2 =>
  bnd (aUn .not v21) fun v22 =>
  onBool v22
    (k_unify_Store_Unify_1 v0 (.int .i64 131) m2)
    (bindK (.map m2.next) (m2.alloc (.map [])) fun v26 m3 =>
    retK (w_unify_Store_rounds v0 v1 v26 m3) (fun v27 m4 =>
    onBool v27
      (k_unify_Store_Unify_1 v0 (.int .i64 130) m4)
      (k_unify_Store_Unify_1 v0 (.int .i64 0) m4)) (fun u m4 => some (.pan u, m4)))) (fun u m2 => some (.pan u, m2))) := by kernel_rfl
theorem k_unify_Store_Unify_1_eq (v0 v7 : AV) (m : Mem) : k_unify_Store_Unify_1 v0 v7 m =
  bnd (aBin X.T .neq T_api_Errno false true v7 (.int .i64 0)) fun v29 =>
  onBool v29
    (retK (w_unify_Store_undo v0 m) (fun v31 m1 =>
    k_unify_Store_Unify_2 .undef v7 m1) (fun u m1 => some (.pan u, m1)))
    (k_unify_Store_Unify_2 v0 v7 m) := by kernel_rfl
theorem k_unify_Store_Unify_2_eq (v0 v7 : AV) (m : Mem) : k_unify_Store_Unify_2 v0 v7 m =
  some (.ret v7, m) := by kernel_rfl
noncomputable def c_unify_New : Code := bodyOf Try.f33
theorem e_unify_New (m : Mem) : w_unify_New m =
  bnd (rBuild [.nils, .nils] []) fun v1 =>
  memK (aBox m v1) fun v2 m1 =>
  some (.ret v2, m1) := (aW_F (c := c_unify_New) (fn := Try.f33) (by kernel_rfl) (by kernel_rfl) (by kernel_rfl) _ m).trans (by kernel_rfl)
noncomputable def c_unify_Store_Var : Code := bodyOf Try.f34
theorem e_unify_Store_Var (v0 : AV) (m : Mem) : w_unify_Store_Var v0 m =
  retK (w_unify_Store_add v0 (.int .i64 1) (.str (bs [])) .nils m) (fun v4 m1 =>
  some (.ret v4, m1)) (fun u m1 => some (.pan u, m1)) := (aW_F (c := c_unify_Store_Var) (fn := Try.f34) (by kernel_rfl) (by kernel_rfl) (by kernel_rfl) _ m).trans (by kernel_rfl)
noncomputable def c_unify_Store_Pair : Code := bodyOf Try.f35
noncomputable def N_unify_Store_Pair : AAct → Mem → Option (AOut × Mem) := finK X.T Try.f35.results.toList .normal
noncomputable def P_unify_Store_Pair : AExit → AAct → Mem → Option (AOut × Mem) := finK X.T Try.f35.results.toList
noncomputable def K_unify_Store_Pair_0 : AAct → Mem → Option (AOut × Mem) := execF X F_unify_Store_Pair 0 (sR (sR c_unify_Store_Pair)) N_unify_Store_Pair P_unify_Store_Pair
noncomputable def k_unify_Store_Pair_0 (v0 v1 : AV) (m : Mem) : Option (AOut × Mem) := K_unify_Store_Pair_0 ⟨[v0, v1, Q, Q, Q, Q, Q, Q, Q, Q, Q, Q, Q, Q, Q, Q, Q, Q], []⟩ m
theorem e_unify_Store_Pair (v0 v1 : AV) (m : Mem) : w_unify_Store_Pair v0 v1 m =
  retK (w_unify_Store_there v0 v1 m) (fun v9 m1 =>
  bnd (aUn .not v9) fun v10 =>
  onBool v10
    (some (.ret (.tup [(.int .i64 0), (.int .i64 221)]), m1))
    (bnd (rLenSl v1) fun v13 =>
    bnd (aBin X.T .lss T_int false true v13 (.int .i64 2)) fun v14 =>
    onBool v14
      (some (.ret (.tup [(.int .i64 0), (.int .i64 120)]), m1))
      (k_unify_Store_Pair_0 v0 v1 m1))) (fun u m1 => some (.pan u, m1)) := (aW_F (c := c_unify_Store_Pair) (fn := Try.f35) (by kernel_rfl) (by kernel_rfl) (by kernel_rfl) _ m).trans (by kernel_rfl)
theorem k_unify_Store_Pair_0_eq (v0 v1 : AV) (m : Mem) : k_unify_Store_Pair_0 v0 v1 m =
  retK (w_unify_Store_add v0 (.int .i64 3) (.str (bs [])) v1 m) (fun v17 m1 =>
  some (.ret (.tup [v17, (.int .i64 0)]), m1)) (fun u m1 => some (.pan u, m1)) := by kernel_rfl
end Go.AM
namespace Go.AM
open Go.Proofs
set_option maxRecDepth 100000
set_option linter.unusedVariables false
noncomputable def c_unify_Store_there : Code := bodyOf Try.f50
theorem e_unify_Store_there (v0 v1 : AV) (m : Mem) : w_unify_Store_there v0 v1 m =
  memK (aBox m v0) fun v2 m1 =>
  retK (w_slices_ContainsFunc v1 (.fn F_unify_Store_there_1 [] [v2]) m1) (fun v7 m2 =>
  bnd (aUn .not v7) fun v8 =>
  some (.ret v8, m2)) (fun u m2 => some (.pan u, m2)) := (aW_F (c := c_unify_Store_there) (fn := Try.f50) (by kernel_rfl) (by kernel_rfl) (by kernel_rfl) _ m).trans (by kernel_rfl)
noncomputable def c_unify_Store_size : Code := bodyOf Try.f51
noncomputable def N_unify_Store_size : AAct → Mem → Option (AOut × Mem) := finK X.T Try.f51.results.toList .normal
noncomputable def P_unify_Store_size : AExit → AAct → Mem → Option (AOut × Mem) := finK X.T Try.f51.results.toList
noncomputable def K_unify_Store_size_0 : AAct → Mem → Option (AOut × Mem) := execF X F_unify_Store_size 0 (sR (sR (sR c_unify_Store_size))) N_unify_Store_size P_unify_Store_size
noncomputable def K_unify_Store_size_1 : AAct → Mem → Option (AOut × Mem) := execF X F_unify_Store_size 0 (sR (sR (sR (sR (sR c_unify_Store_size))))) N_unify_Store_size P_unify_Store_size
noncomputable def B_unify_Store_size_0 : AExit → AAct → Mem → Option (AOut × Mem) := blockX 0 K_unify_Store_size_1 P_unify_Store_size
noncomputable def L_unify_Store_size_0 : AAct → Mem → Option (AOut × Mem) := fun a m => killF (X.lk F_unify_Store_size 0) a.tmps fun l => loopK X F_unify_Store_size 0 (sB (sB (sR (sL (sR (sR (sR (sR c_unify_Store_size)))))))) B_unify_Store_size_0 ⟨l, a.defers⟩ m
noncomputable def K_unify_Store_size_2 : AAct → Mem → Option (AOut × Mem) := execF X F_unify_Store_size 0 (sR (sR (sB (sB (sR (sL (sR (sR (sR (sR c_unify_Store_size)))))))))) L_unify_Store_size_0 B_unify_Store_size_0
noncomputable def K_unify_Store_size_3 : AAct → Mem → Option (AOut × Mem) := execF X F_unify_Store_size 0 (sR (sR (sR (sB (sB (sR (sL (sR (sR (sR (sR c_unify_Store_size))))))))))) L_unify_Store_size_0 B_unify_Store_size_0
noncomputable def k_unify_Store_size_0 (v0 v1 v2 v7 : AV) (m : Mem) : Option (AOut × Mem) := K_unify_Store_size_0 ⟨[v0, v1, v2, Q, Q, Q, Q, v7, Q, Q, Q, Q, Q, Q, Q, Q, Q, Q, Q, Q, Q, Q, Q, Q, Q, Q, Q, Q, Q, Q, Q, Q, Q, Q, Q, Q, Q, Q, Q, Q, Q, Q, Q, Q, Q, Q, Q, Q], []⟩ m
noncomputable def k_unify_Store_size_1 (v0 v1 v2 v9 v30 v31 v32 : AV) (m : Mem) : Option (AOut × Mem) := K_unify_Store_size_1 ⟨[v0, v1, v2, Q, Q, Q, Q, Q, Q, v9, Q, Q, Q, Q, Q, Q, Q, Q, Q, Q, Q, Q, Q, Q, Q, Q, Q, Q, Q, Q, v30, v31, v32, Q, Q, Q, Q, Q, Q, Q, Q, Q, Q, Q, Q, Q, Q, Q], []⟩ m
noncomputable def l_unify_Store_size_0 (v0 v1 v2 v9 v30 v31 v32 : AV) (m : Mem) : Option (AOut × Mem) := L_unify_Store_size_0 ⟨[v0, v1, v2, Q, Q, Q, Q, Q, Q, v9, Q, Q, Q, Q, Q, Q, Q, Q, Q, Q, Q, Q, Q, Q, Q, Q, Q, Q, Q, Q, v30, v31, v32, Q, Q, Q, Q, Q, Q, Q, Q, Q, Q, Q, Q, Q, Q, Q], []⟩ m
noncomputable def k_unify_Store_size_2 (v0 v1 v2 v9 v30 v31 v32 : AV) (m : Mem) : Option (AOut × Mem) := K_unify_Store_size_2 ⟨[v0, v1, v2, Q, Q, Q, Q, Q, Q, v9, Q, Q, Q, Q, Q, Q, Q, Q, Q, Q, Q, Q, Q, Q, Q, Q, Q, Q, Q, Q, v30, v31, v32, Q, Q, Q, Q, Q, Q, Q, Q, Q, Q, Q, Q, Q, Q, Q], []⟩ m
noncomputable def k_unify_Store_size_3 (v0 v1 v2 v9 v30 v31 v32 : AV) (m : Mem) : Option (AOut × Mem) := K_unify_Store_size_3 ⟨[v0, v1, v2, Q, Q, Q, Q, Q, Q, v9, Q, Q, Q, Q, Q, Q, Q, Q, Q, Q, Q, Q, Q, Q, Q, Q, Q, Q, Q, Q, v30, v31, v32, Q, Q, Q, Q, Q, Q, Q, Q, Q, Q, Q, Q, Q, Q, Q], []⟩ m
theorem e_unify_Store_size (v0 v1 v2 : AV) (m : Mem) : w_unify_Store_size v0 v1 v2 m =
  retK (w_unify_Store_find v0 v1 m) (fun v14 m1 =>
  bnd (rLookup A_int A_int m1 v2 v14 true) fun v18 =>
  bnd (aExtract v18 0) fun v19 =>
  bnd (aExtract v18 1) fun v20 =>
  onBool v20
    (some (.ret v19, m1))
    (k_unify_Store_size_0 v0 v14 v2 v19 m1)) (fun u m1 => some (.pan u, m1)) := (aW_F (c := c_unify_Store_size) (fn := Try.f51) (by kernel_rfl) (by kernel_rfl) (by kernel_rfl) _ m).trans (by kernel_rfl)
theorem k_unify_Store_size_0_eq (v0 v1 v2 v7 : AV) (m : Mem) : k_unify_Store_size_0 v0 v1 v2 v7 m =
  nilK v0
  (bnd (rFieldAddr 0 v0) fun v25 =>
  bnd (rLoad false 1 m v25) fun v26 =>
  bnd (rIxAddrSl 4 v26 v1) fun v28 =>
  bnd (rFieldAddr 2 v28) fun v29 =>
  bnd (rLoad false 1 m v29) fun v30 =>
  bnd (rLenSl v30) fun v31 =>
  l_unify_Store_size_0 v0 v1 v2 (.int .i64 1) v30 v31 (.int .i64 0) m) := by kernel_rfl
theorem k_unify_Store_size_1_eq (v0 v1 v2 v9 v30 v31 v32 : AV) (m : Mem) : k_unify_Store_size_1 v0 v1 v2 v9 v30 v31 v32 m =
  bnd (rMapUpdate A_int m v2 v1 v9) fun m1 =>
  some (.ret v9, m1) := by kernel_rfl
theorem l_unify_Store_size_0_u (v0 v1 v2 v9 v30 v31 v32 : AV) (m : Mem) : l_unify_Store_size_0 v0 v1 v2 v9 v30 v31 v32 m = loopK X F_unify_Store_size 0 (sB (sB (sR (sL (sR (sR (sR (sR c_unify_Store_size)))))))) B_unify_Store_size_0 ⟨[v0, v1, v2, Q, Q, Q, Q, Q, Q, v9, Q, Q, Q, Q, Q, Q, Q, Q, Q, Q, Q, Q, Q, Q, Q, Q, Q, Q, Q, Q, v30, v31, v32, Q, Q, Q, Q, Q, Q, Q, Q, Q, Q, Q, Q, Q, Q, Q], []⟩ m := by kernel_rfl
theorem l_unify_Store_size_0_r (v0 v1 v2 v9 v30 v31 v32 : AV) (m : Mem) : roundF X F_unify_Store_size 0 (sB (sB (sR (sL (sR (sR (sR (sR c_unify_Store_size)))))))) B_unify_Store_size_0 [v0, v1, v2, Q, Q, Q, Q, Q, Q, v9, Q, Q, Q, Q, Q, Q, Q, Q, Q, Q, Q, Q, Q, Q, Q, Q, Q, Q, Q, Q, v30, v31, v32, Q, Q, Q, Q, Q, Q, Q, Q, Q, Q, Q, Q, Q, Q, Q] m =
  bnd (aBin X.T .lss T_int false false v32 v31) fun v33 =>
  onBool v33
    (k_unify_Store_size_2 v0 v1 v2 v9 v30 v31 v32 m)
    (k_unify_Store_size_1 v0 v1 v2 v9 v30 v31 v32 m) := by kernel_rfl
theorem l_unify_Store_size_0_eq (v0 v1 v2 v9 v30 v31 v32 : AV) (m : Mem) : l_unify_Store_size_0 v0 v1 v2 v9 v30 v31 v32 m =
  bnd (aBin X.T .lss T_int false false v32 v31) fun v33 =>
  onBool v33
    (k_unify_Store_size_2 v0 v1 v2 v9 v30 v31 v32 m)
    (k_unify_Store_size_1 v0 v1 v2 v9 v30 v31 v32 m) := roundF_of (l_unify_Store_size_0_u v0 v1 v2 v9 v30 v31 v32 m) (l_unify_Store_size_0_r v0 v1 v2 v9 v30 v31 v32 m)
theorem k_unify_Store_size_2_eq (v0 v1 v2 v9 v30 v31 v32 : AV) (m : Mem) : k_unify_Store_size_2 v0 v1 v2 v9 v30 v31 v32 m =
  bnd (rIxAddrSl 1 v30 v32) fun v34 =>
  bnd (rLoad false 1 m v34) fun v35 =>
  retK (w_unify_Store_size v0 v35 v2 m) (fun v40 m1 =>
  bnd (aBin X.T .add T_int false false v9 v40) fun v41 =>
  bnd (aMin v41 [(.int .i64 301)]) fun v42 =>
  k_unify_Store_size_3 v0 v1 v2 v42 v30 v31 v32 m1) (fun u m1 => some (.pan u, m1)) := by kernel_rfl
theorem k_unify_Store_size_3_eq (v0 v1 v2 v9 v30 v31 v32 : AV) (m : Mem) : k_unify_Store_size_3 v0 v1 v2 v9 v30 v31 v32 m =
  bnd (aBin X.T .add T_int false true v32 (.int .i64 1)) fun v43 =>
  l_unify_Store_size_0 v0 v1 v2 v9 v30 v31 v43 m := by kernel_rfl
noncomputable def c_unify_Store_typ : Code := bodyOf Try.f54
noncomputable def N_unify_Store_typ : AAct → Mem → Option (AOut × Mem) := finK X.T Try.f54.results.toList .normal
noncomputable def P_unify_Store_typ : AExit → AAct → Mem → Option (AOut × Mem) := finK X.T Try.f54.results.toList
noncomputable def K_unify_Store_typ_0 : AAct → Mem → Option (AOut × Mem) := execF X F_unify_Store_typ 0 (sR (sR (sR (sR c_unify_Store_typ)))) N_unify_Store_typ P_unify_Store_typ
noncomputable def K_unify_Store_typ_1 : AAct → Mem → Option (AOut × Mem) := execF X F_unify_Store_typ 0 (sR (sR (sL (sR (sL (sR (sR (sR c_unify_Store_typ)))))))) K_unify_Store_typ_0 P_unify_Store_typ
noncomputable def K_unify_Store_typ_2 : AAct → Mem → Option (AOut × Mem) := execF X F_unify_Store_typ 0 (sR (sR (sR (sR (sR (sR c_unify_Store_typ)))))) N_unify_Store_typ P_unify_Store_typ
noncomputable def B_unify_Store_typ_0 : AExit → AAct → Mem → Option (AOut × Mem) := blockX 0 K_unify_Store_typ_2 P_unify_Store_typ
noncomputable def L_unify_Store_typ_0 : AAct → Mem → Option (AOut × Mem) := fun a m => killF (X.lk F_unify_Store_typ 0) a.tmps fun l => loopK X F_unify_Store_typ 0 (sB (sB (sR (sL (sR (sR (sR (sR (sR c_unify_Store_typ))))))))) B_unify_Store_typ_0 ⟨l, a.defers⟩ m
noncomputable def K_unify_Store_typ_3 : AAct → Mem → Option (AOut × Mem) := execF X F_unify_Store_typ 0 (sR (sR (sB (sB (sR (sL (sR (sR (sR (sR (sR c_unify_Store_typ))))))))))) L_unify_Store_typ_0 B_unify_Store_typ_0
noncomputable def K_unify_Store_typ_4 : AAct → Mem → Option (AOut × Mem) := execF X F_unify_Store_typ 0 (sR (sR (sR (sB (sB (sR (sL (sR (sR (sR (sR (sR c_unify_Store_typ)))))))))))) L_unify_Store_typ_0 B_unify_Store_typ_0
noncomputable def k_unify_Store_typ_0 (v0 v1 v2 v6 v7 : AV) (m : Mem) : Option (AOut × Mem) := K_unify_Store_typ_0 ⟨[v0, v1, v2, Q, Q, Q, v6, v7, Q, Q, Q, Q, Q, Q, Q, Q, Q, Q, Q, Q, Q, Q, Q, Q, Q, Q, Q, Q, Q, Q, Q, Q, Q, Q, Q, Q, Q, Q, Q, Q, Q, Q, Q, Q, Q, Q, Q, Q, Q, Q, Q, Q, Q, Q, Q, Q, Q, Q, Q, Q, Q, Q, Q, Q], []⟩ m
noncomputable def k_unify_Store_typ_1 (v1 v2 v6 v8 : AV) (m : Mem) : Option (AOut × Mem) := K_unify_Store_typ_1 ⟨[Q, v1, v2, Q, Q, Q, v6, Q, v8, Q, Q, Q, Q, Q, Q, Q, Q, Q, Q, Q, Q, Q, Q, Q, Q, Q, Q, Q, Q, Q, Q, Q, Q, Q, Q, Q, Q, Q, Q, Q, Q, Q, Q, Q, Q, Q, Q, Q, Q, Q, Q, Q, Q, Q, Q, Q, Q, Q, Q, Q, Q, Q, Q, Q], []⟩ m
noncomputable def k_unify_Store_typ_2 (v0 v2 v6 v10 v47 v48 v49 : AV) (m : Mem) : Option (AOut × Mem) := K_unify_Store_typ_2 ⟨[v0, Q, v2, Q, Q, Q, v6, Q, Q, Q, v10, Q, Q, Q, Q, Q, Q, Q, Q, Q, Q, Q, Q, Q, Q, Q, Q, Q, Q, Q, Q, Q, Q, Q, Q, Q, Q, Q, Q, Q, Q, Q, Q, Q, Q, Q, Q, v47, v48, v49, Q, Q, Q, Q, Q, Q, Q, Q, Q, Q, Q, Q, Q, Q], []⟩ m
noncomputable def l_unify_Store_typ_0 (v0 v2 v6 v10 v47 v48 v49 : AV) (m : Mem) : Option (AOut × Mem) := L_unify_Store_typ_0 ⟨[v0, Q, v2, Q, Q, Q, v6, Q, Q, Q, v10, Q, Q, Q, Q, Q, Q, Q, Q, Q, Q, Q, Q, Q, Q, Q, Q, Q, Q, Q, Q, Q, Q, Q, Q, Q, Q, Q, Q, Q, Q, Q, Q, Q, Q, Q, Q, v47, v48, v49, Q, Q, Q, Q, Q, Q, Q, Q, Q, Q, Q, Q, Q, Q], []⟩ m
noncomputable def k_unify_Store_typ_3 (v0 v2 v6 v10 v47 v48 v49 : AV) (m : Mem) : Option (AOut × Mem) := K_unify_Store_typ_3 ⟨[v0, Q, v2, Q, Q, Q, v6, Q, Q, Q, v10, Q, Q, Q, Q, Q, Q, Q, Q, Q, Q, Q, Q, Q, Q, Q, Q, Q, Q, Q, Q, Q, Q, Q, Q, Q, Q, Q, Q, Q, Q, Q, Q, Q, Q, Q, Q, v47, v48, v49, Q, Q, Q, Q, Q, Q, Q, Q, Q, Q, Q, Q, Q, Q], []⟩ m
noncomputable def k_unify_Store_typ_4 (v0 v2 v6 v10 v47 v48 v49 : AV) (m : Mem) : Option (AOut × Mem) := K_unify_Store_typ_4 ⟨[v0, Q, v2, Q, Q, Q, v6, Q, Q, Q, v10, Q, Q, Q, Q, Q, Q, Q, Q, Q, Q, Q, Q, Q, Q, Q, Q, Q, Q, Q, Q, Q, Q, Q, Q, Q, Q, Q, Q, Q, Q, Q, Q, Q, Q, Q, Q, v47, v48, v49, Q, Q, Q, Q, Q, Q, Q, Q, Q, Q, Q, Q, Q, Q], []⟩ m
theorem e_unify_Store_typ (v0 v1 v2 : AV) (m : Mem) : w_unify_Store_typ v0 v1 v2 m =
  memK (aBox m (.agg [.int .i64 0, .int .i64 0, .str (bs []), .nils])) fun v6 m1 =>
  retK (w_unify_Store_find v0 v1 m1) (fun v15 m2 =>
  nilK v0
  (bnd (rFieldAddr 0 v0) fun v18 =>
  bnd (rLoad false 1 m2 v18) fun v19 =>
  bnd (rIxAddrSl 4 v19 v15) fun v21 =>
  bnd (rLoad true 4 m2 v21) fun v22 =>
  memK (aBox m2 (.agg [.int .i64 0, .str (bs []), .nils, .int .i64 0])) fun v7 m3 =>
  bnd (rStore 4 m3 v7 v22) fun m4 =>
  bnd (rFieldAddr 0 v7) fun v23 =>
  bnd (rLoad false 1 m4 v23) fun v24 =>
  bnd (aBin X.T .eql T_int false true v24 (.int .i64 1)) fun v25 =>
  onBool v25
    (bnd (rLookup A_int A_int m4 v2 v15 true) fun v29 =>
    bnd (aExtract v29 0) fun v30 =>
    bnd (aExtract v29 1) fun v31 =>
    bnd (aUn .not v31) fun v33 =>
    onBool v33
      (bnd (rLenMap m4 v2) fun v35 =>
      bnd (rMapUpdate A_int m4 v2 v15 v35) fun m5 =>
      k_unify_Store_typ_1 .undef .undef v6 v35 m5)
      (k_unify_Store_typ_1 v15 v2 v6 v30 m4))
    (k_unify_Store_typ_0 v0 v15 v2 v6 v7 m4))) (fun u m2 => some (.pan u, m2)) := (aW_F (c := c_unify_Store_typ) (fn := Try.f54) (by kernel_rfl) (by kernel_rfl) (by kernel_rfl) _ m).trans (by kernel_rfl)
theorem k_unify_Store_typ_0_eq (v0 v1 v2 v6 v7 : AV) (m : Mem) : k_unify_Store_typ_0 v0 v1 v2 v6 v7 m =
  bnd (rFieldAddr 0 v7) fun v41 =>
  bnd (rLoad false 1 m v41) fun v42 =>
  bnd (rFieldAddr 1 v7) fun v43 =>
  bnd (rLoad false 1 m v43) fun v44 =>
  bnd (rBuild [.int .i64 0, .int .i64 0, .str (bs []), .nils] [(0, 1, v42), (2, 1, v44)]) fun v45 =>
  memK (aBox m (.agg [.int .i64 0, .int .i64 0, .str (bs []), .nils])) fun v10 m1 =>
  bnd (rStore 4 m1 v10 v45) fun m2 =>
  bnd (rFieldAddr 2 v7) fun v46 =>
  bnd (rLoad false 1 m2 v46) fun v47 =>
  bnd (rLenSl v47) fun v48 =>
  l_unify_Store_typ_0 v0 v2 v6 v10 v47 v48 (.int .i64 0) m2 := by kernel_rfl
theorem k_unify_Store_typ_1_eq (v1 v2 v6 v8 : AV) (m : Mem) : k_unify_Store_typ_1 v1 v2 v6 v8 m =
  bnd (rBuild [.int .i64 0, .int .i64 0, .str (bs []), .nils] [(0, 1, (.int .i64 1)), (1, 1, v8)]) fun v40 =>
  bnd (rStore 4 m v6 v40) fun m1 =>
  bnd (rLoad true 4 m1 v6) fun vr0 =>
  some (.ret vr0, m1) := by kernel_rfl
theorem k_unify_Store_typ_2_eq (v0 v2 v6 v10 v47 v48 v49 : AV) (m : Mem) : k_unify_Store_typ_2 v0 v2 v6 v10 v47 v48 v49 m =
  bnd (rLoad true 4 m v10) fun v63 =>
  bnd (rStore 4 m v6 v63) fun m1 =>
  bnd (rLoad true 4 m1 v6) fun vr0 =>
  some (.ret vr0, m1) := by kernel_rfl
theorem l_unify_Store_typ_0_u (v0 v2 v6 v10 v47 v48 v49 : AV) (m : Mem) : l_unify_Store_typ_0 v0 v2 v6 v10 v47 v48 v49 m = loopK X F_unify_Store_typ 0 (sB (sB (sR (sL (sR (sR (sR (sR (sR c_unify_Store_typ))))))))) B_unify_Store_typ_0 ⟨[v0, Q, v2, Q, Q, Q, v6, Q, Q, Q, v10, Q, Q, Q, Q, Q, Q, Q, Q, Q, Q, Q, Q, Q, Q, Q, Q, Q, Q, Q, Q, Q, Q, Q, Q, Q, Q, Q, Q, Q, Q, Q, Q, Q, Q, Q, Q, v47, v48, v49, Q, Q, Q, Q, Q, Q, Q, Q, Q, Q, Q, Q, Q, Q], []⟩ m := by kernel_rfl
theorem l_unify_Store_typ_0_r (v0 v2 v6 v10 v47 v48 v49 : AV) (m : Mem) : roundF X F_unify_Store_typ 0 (sB (sB (sR (sL (sR (sR (sR (sR (sR c_unify_Store_typ))))))))) B_unify_Store_typ_0 [v0, Q, v2, Q, Q, Q, v6, Q, Q, Q, v10, Q, Q, Q, Q, Q, Q, Q, Q, Q, Q, Q, Q, Q, Q, Q, Q, Q, Q, Q, Q, Q, Q, Q, Q, Q, Q, Q, Q, Q, Q, Q, Q, Q, Q, Q, Q, v47, v48, v49, Q, Q, Q, Q, Q, Q, Q, Q, Q, Q, Q, Q, Q, Q] m =
  bnd (aBin X.T .lss T_int false false v49 v48) fun v50 =>
  onBool v50
    (k_unify_Store_typ_3 v0 v2 v6 v10 v47 v48 v49 m)
    (k_unify_Store_typ_2 v0 v2 v6 v10 v47 v48 v49 m) := by kernel_rfl
theorem l_unify_Store_typ_0_eq (v0 v2 v6 v10 v47 v48 v49 : AV) (m : Mem) : l_unify_Store_typ_0 v0 v2 v6 v10 v47 v48 v49 m =
  bnd (aBin X.T .lss T_int false false v49 v48) fun v50 =>
  onBool v50
    (k_unify_Store_typ_3 v0 v2 v6 v10 v47 v48 v49 m)
    (k_unify_Store_typ_2 v0 v2 v6 v10 v47 v48 v49 m) := roundF_of (l_unify_Store_typ_0_u v0 v2 v6 v10 v47 v48 v49 m) (l_unify_Store_typ_0_r v0 v2 v6 v10 v47 v48 v49 m)
theorem k_unify_Store_typ_3_eq (v0 v2 v6 v10 v47 v48 v49 : AV) (m : Mem) : k_unify_Store_typ_3 v0 v2 v6 v10 v47 v48 v49 m =
  bnd (rIxAddrSl 1 v47 v49) fun v51 =>
  bnd (rLoad false 1 m v51) fun v52 =>
  bnd (rFieldAddr 3 v10) fun v53 =>
  bnd (rLoad false 1 m v53) fun v54 =>
  retK (w_unify_Store_typ v0 v52 v2 m) (fun v58 m1 =>
  bnd (rBuildSlice A_api_Type 1 [(0, v58)]) fun v59 =>
  memK (rAppend A_api_Type 0 m1 v54 v59) fun v60 m2 =>
  bnd (rFieldAddr 3 v10) fun v61 =>
  bnd (rStore 1 m2 v61 v60) fun m3 =>
  bnd (rLoad false 1 m1 v53) fun u =>
  sameK u v54 <|
  k_unify_Store_typ_4 v0 v2 v6 v10 v47 v48 v49 m3) (fun u m1 => none) := by kernel_rfl
theorem k_unify_Store_typ_4_eq (v0 v2 v6 v10 v47 v48 v49 : AV) (m : Mem) : k_unify_Store_typ_4 v0 v2 v6 v10 v47 v48 v49 m =
  bnd (aBin X.T .add T_int false true v49 (.int .i64 1)) fun v62 =>
  l_unify_Store_typ_0 v0 v2 v6 v10 v47 v48 v62 m := by kernel_rfl
end Go.AM
