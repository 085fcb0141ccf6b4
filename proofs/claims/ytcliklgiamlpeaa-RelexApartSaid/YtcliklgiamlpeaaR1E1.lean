/-
  A part of the proof: equations or tables of the program over the abstract machine, printed by a program of this proof's own.
-/
import Derived.Test.YtcliklgiamlpeaaR1Ctx
namespace Go.AM
open Go.Proofs
set_option maxRecDepth 100000
set_option linter.unusedVariables false

/-! ### parlance/parlancelaw08.LexMunch -/
noncomputable def c_l08_LexMunch : Code := bodyOf Try.f5
noncomputable def N_l08_LexMunch : AAct → Mem → Option (AOut × Mem) := finK X.T Try.f5.results.toList .normal
noncomputable def P_l08_LexMunch : AExit → AAct → Mem → Option (AOut × Mem) := finK X.T Try.f5.results.toList
noncomputable def K_l08_LexMunch_0 : AAct → Mem → Option (AOut × Mem) := execF X F_l08_LexMunch 0 (sR (sR c_l08_LexMunch)) N_l08_LexMunch P_l08_LexMunch
noncomputable def K_l08_LexMunch_1 : AAct → Mem → Option (AOut × Mem) := execF X F_l08_LexMunch 0 (sR (sR (sR c_l08_LexMunch))) N_l08_LexMunch P_l08_LexMunch
noncomputable def K_l08_LexMunch_2 : AAct → Mem → Option (AOut × Mem) := execF X F_l08_LexMunch 0 (sR (sR (sR (sR (sR c_l08_LexMunch))))) N_l08_LexMunch P_l08_LexMunch
noncomputable def B_l08_LexMunch_0 : AExit → AAct → Mem → Option (AOut × Mem) := blockX 0 K_l08_LexMunch_2 P_l08_LexMunch
noncomputable def L_l08_LexMunch_0 : AAct → Mem → Option (AOut × Mem) := fun a m => killF (X.lk F_l08_LexMunch 0) a.tmps fun l => loopK X F_l08_LexMunch 0 (sB (sB (sR (sL (sR (sR (sR (sR c_l08_LexMunch)))))))) B_l08_LexMunch_0 ⟨l, a.defers⟩ m
noncomputable def K_l08_LexMunch_3 : AAct → Mem → Option (AOut × Mem) := execF X F_l08_LexMunch 0 (sR (sB (sB (sR (sL (sR (sR (sR (sR c_l08_LexMunch))))))))) L_l08_LexMunch_0 B_l08_LexMunch_0
noncomputable def K_l08_LexMunch_4 : AAct → Mem → Option (AOut × Mem) := execF X F_l08_LexMunch 0 (sR (sR (sB (sB (sR (sL (sR (sR (sR (sR c_l08_LexMunch)))))))))) L_l08_LexMunch_0 B_l08_LexMunch_0
noncomputable def B_l08_LexMunch_1 : AExit → AAct → Mem → Option (AOut × Mem) := blockX 1 K_l08_LexMunch_4 B_l08_LexMunch_0
noncomputable def K_l08_LexMunch_5 : AAct → Mem → Option (AOut × Mem) := execF X F_l08_LexMunch 1 (sR (sB (sL (sR (sB (sB (sR (sL (sR (sR (sR (sR c_l08_LexMunch)))))))))))) K_l08_LexMunch_4 B_l08_LexMunch_1
noncomputable def K_l08_LexMunch_6 : AAct → Mem → Option (AOut × Mem) := execF X F_l08_LexMunch 1 (sR (sR (sB (sL (sR (sB (sB (sR (sL (sR (sR (sR (sR c_l08_LexMunch))))))))))))) K_l08_LexMunch_4 B_l08_LexMunch_1
noncomputable def B_l08_LexMunch_2 : AExit → AAct → Mem → Option (AOut × Mem) := blockX 2 K_l08_LexMunch_4 B_l08_LexMunch_1
noncomputable def L_l08_LexMunch_2 : AAct → Mem → Option (AOut × Mem) := fun a m => killF (X.lk F_l08_LexMunch 2) a.tmps fun l => loopK X F_l08_LexMunch 2 (sB (sB (sR (sR (sR (sB (sL (sR (sB (sB (sR (sL (sR (sR (sR (sR c_l08_LexMunch)))))))))))))))) B_l08_LexMunch_2 ⟨l, a.defers⟩ m
noncomputable def K_l08_LexMunch_7 : AAct → Mem → Option (AOut × Mem) := execF X F_l08_LexMunch 2 (sR (sB (sB (sR (sR (sR (sB (sL (sR (sB (sB (sR (sL (sR (sR (sR (sR c_l08_LexMunch))))))))))))))))) L_l08_LexMunch_2 B_l08_LexMunch_2
noncomputable def K_l08_LexMunch_8 : AAct → Mem → Option (AOut × Mem) := execF X F_l08_LexMunch 2 (sR (sL (sB (sB (sR (sR (sR (sB (sL (sR (sB (sB (sR (sL (sR (sR (sR (sR c_l08_LexMunch)))))))))))))))))) K_l08_LexMunch_7 B_l08_LexMunch_2
noncomputable def K_l08_LexMunch_9 : AAct → Mem → Option (AOut × Mem) := execF X F_l08_LexMunch 2 (sR (sR (sB (sB (sR (sR (sR (sB (sL (sR (sB (sB (sR (sL (sR (sR (sR (sR c_l08_LexMunch)))))))))))))))))) L_l08_LexMunch_2 B_l08_LexMunch_2
noncomputable def B_l08_LexMunch_3 : AExit → AAct → Mem → Option (AOut × Mem) := blockX 3 K_l08_LexMunch_9 B_l08_LexMunch_2
noncomputable def k_l08_LexMunch_0 (v0 : AV) (m : Mem) : Option (AOut × Mem) := K_l08_LexMunch_0 ⟨[v0, Q, Q, Q, Q, Q, Q, Q, Q, Q, Q, Q, Q, Q, Q, Q, Q, Q, Q, Q, Q, Q, Q, Q, Q, Q, Q, Q, Q, Q, Q, Q, Q, Q, Q, Q, Q, Q, Q, Q, Q, Q, Q, Q, Q, Q, Q, Q, Q, Q, Q, Q, Q, Q, Q, Q, Q, Q, Q, Q, Q, Q, Q, Q, Q, Q, Q, Q, Q, Q], []⟩ m
noncomputable def k_l08_LexMunch_1 (v0 : AV) (m : Mem) : Option (AOut × Mem) := K_l08_LexMunch_1 ⟨[v0, Q, Q, Q, Q, Q, Q, Q, Q, Q, Q, Q, Q, Q, Q, Q, Q, Q, Q, Q, Q, Q, Q, Q, Q, Q, Q, Q, Q, Q, Q, Q, Q, Q, Q, Q, Q, Q, Q, Q, Q, Q, Q, Q, Q, Q, Q, Q, Q, Q, Q, Q, Q, Q, Q, Q, Q, Q, Q, Q, Q, Q, Q, Q, Q, Q, Q, Q, Q, Q], []⟩ m
noncomputable def k_l08_LexMunch_2 (v0 v3 v4 : AV) (m : Mem) : Option (AOut × Mem) := K_l08_LexMunch_2 ⟨[v0, Q, Q, v3, v4, Q, Q, Q, Q, Q, Q, Q, Q, Q, Q, Q, Q, Q, Q, Q, Q, Q, Q, Q, Q, Q, Q, Q, Q, Q, Q, Q, Q, Q, Q, Q, Q, Q, Q, Q, Q, Q, Q, Q, Q, Q, Q, Q, Q, Q, Q, Q, Q, Q, Q, Q, Q, Q, Q, Q, Q, Q, Q, Q, Q, Q, Q, Q, Q, Q], []⟩ m
noncomputable def l_l08_LexMunch_0 (v0 v3 v4 : AV) (m : Mem) : Option (AOut × Mem) := L_l08_LexMunch_0 ⟨[v0, Q, Q, v3, v4, Q, Q, Q, Q, Q, Q, Q, Q, Q, Q, Q, Q, Q, Q, Q, Q, Q, Q, Q, Q, Q, Q, Q, Q, Q, Q, Q, Q, Q, Q, Q, Q, Q, Q, Q, Q, Q, Q, Q, Q, Q, Q, Q, Q, Q, Q, Q, Q, Q, Q, Q, Q, Q, Q, Q, Q, Q, Q, Q, Q, Q, Q, Q, Q, Q], []⟩ m
noncomputable def k_l08_LexMunch_3 (v0 v3 v4 : AV) (m : Mem) : Option (AOut × Mem) := K_l08_LexMunch_3 ⟨[v0, Q, Q, v3, v4, Q, Q, Q, Q, Q, Q, Q, Q, Q, Q, Q, Q, Q, Q, Q, Q, Q, Q, Q, Q, Q, Q, Q, Q, Q, Q, Q, Q, Q, Q, Q, Q, Q, Q, Q, Q, Q, Q, Q, Q, Q, Q, Q, Q, Q, Q, Q, Q, Q, Q, Q, Q, Q, Q, Q, Q, Q, Q, Q, Q, Q, Q, Q, Q, Q], []⟩ m
noncomputable def k_l08_LexMunch_4 (v0 v3 v4 v5 : AV) (m : Mem) : Option (AOut × Mem) := K_l08_LexMunch_4 ⟨[v0, Q, Q, v3, v4, v5, Q, Q, Q, Q, Q, Q, Q, Q, Q, Q, Q, Q, Q, Q, Q, Q, Q, Q, Q, Q, Q, Q, Q, Q, Q, Q, Q, Q, Q, Q, Q, Q, Q, Q, Q, Q, Q, Q, Q, Q, Q, Q, Q, Q, Q, Q, Q, Q, Q, Q, Q, Q, Q, Q, Q, Q, Q, Q, Q, Q, Q, Q, Q, Q], []⟩ m
noncomputable def k_l08_LexMunch_5 (v0 v3 v4 : AV) (m : Mem) : Option (AOut × Mem) := K_l08_LexMunch_5 ⟨[v0, Q, Q, v3, v4, Q, Q, Q, Q, Q, Q, Q, Q, Q, Q, Q, Q, Q, Q, Q, Q, Q, Q, Q, Q, Q, Q, Q, Q, Q, Q, Q, Q, Q, Q, Q, Q, Q, Q, Q, Q, Q, Q, Q, Q, Q, Q, Q, Q, Q, Q, Q, Q, Q, Q, Q, Q, Q, Q, Q, Q, Q, Q, Q, Q, Q, Q, Q, Q, Q], []⟩ m
noncomputable def k_l08_LexMunch_6 (v0 v3 v4 : AV) (m : Mem) : Option (AOut × Mem) := K_l08_LexMunch_6 ⟨[v0, Q, Q, v3, v4, Q, Q, Q, Q, Q, Q, Q, Q, Q, Q, Q, Q, Q, Q, Q, Q, Q, Q, Q, Q, Q, Q, Q, Q, Q, Q, Q, Q, Q, Q, Q, Q, Q, Q, Q, Q, Q, Q, Q, Q, Q, Q, Q, Q, Q, Q, Q, Q, Q, Q, Q, Q, Q, Q, Q, Q, Q, Q, Q, Q, Q, Q, Q, Q, Q], []⟩ m
noncomputable def l_l08_LexMunch_2 (v0 v3 v4 v5 : AV) (m : Mem) : Option (AOut × Mem) := L_l08_LexMunch_2 ⟨[v0, Q, Q, v3, v4, v5, Q, Q, Q, Q, Q, Q, Q, Q, Q, Q, Q, Q, Q, Q, Q, Q, Q, Q, Q, Q, Q, Q, Q, Q, Q, Q, Q, Q, Q, Q, Q, Q, Q, Q, Q, Q, Q, Q, Q, Q, Q, Q, Q, Q, Q, Q, Q, Q, Q, Q, Q, Q, Q, Q, Q, Q, Q, Q, Q, Q, Q, Q, Q, Q], []⟩ m
noncomputable def k_l08_LexMunch_7 (v0 v3 v4 v5 : AV) (m : Mem) : Option (AOut × Mem) := K_l08_LexMunch_7 ⟨[v0, Q, Q, v3, v4, v5, Q, Q, Q, Q, Q, Q, Q, Q, Q, Q, Q, Q, Q, Q, Q, Q, Q, Q, Q, Q, Q, Q, Q, Q, Q, Q, Q, Q, Q, Q, Q, Q, Q, Q, Q, Q, Q, Q, Q, Q, Q, Q, Q, Q, Q, Q, Q, Q, Q, Q, Q, Q, Q, Q, Q, Q, Q, Q, Q, Q, Q, Q, Q, Q], []⟩ m
noncomputable def k_l08_LexMunch_8 (v0 v3 v4 v5 v57 : AV) (m : Mem) : Option (AOut × Mem) := K_l08_LexMunch_8 ⟨[v0, Q, Q, v3, v4, v5, Q, Q, Q, Q, Q, Q, Q, Q, Q, Q, Q, Q, Q, Q, Q, Q, Q, Q, Q, Q, Q, Q, Q, Q, Q, Q, Q, Q, Q, Q, Q, Q, Q, Q, Q, Q, Q, Q, Q, Q, Q, Q, Q, Q, Q, Q, Q, Q, Q, Q, Q, v57, Q, Q, Q, Q, Q, Q, Q, Q, Q, Q, Q, Q], []⟩ m
noncomputable def k_l08_LexMunch_9 (v0 v3 v4 v5 : AV) (m : Mem) : Option (AOut × Mem) := K_l08_LexMunch_9 ⟨[v0, Q, Q, v3, v4, v5, Q, Q, Q, Q, Q, Q, Q, Q, Q, Q, Q, Q, Q, Q, Q, Q, Q, Q, Q, Q, Q, Q, Q, Q, Q, Q, Q, Q, Q, Q, Q, Q, Q, Q, Q, Q, Q, Q, Q, Q, Q, Q, Q, Q, Q, Q, Q, Q, Q, Q, Q, Q, Q, Q, Q, Q, Q, Q, Q, Q, Q, Q, Q, Q], []⟩ m
theorem e_l08_LexMunch (v0 : AV) (m : Mem) : w_l08_LexMunch v0 m =
  retK (w_l08_alive m) (fun v6 m1 =>
  bnd (aUn .not v6) fun v7 =>
  onBool v7
    (some (.ret (.bool false), m1))
    (k_l08_LexMunch_0 v0 m1)) (fun u m1 => some (.pan u, m1)) := (aW_F (c := c_l08_LexMunch) (fn := Try.f5) (by kernel_rfl) (by kernel_rfl) (by kernel_rfl) _ m).trans (by kernel_rfl)
theorem k_l08_LexMunch_0_eq (v0 : AV) (m : Mem) : k_l08_LexMunch_0 v0 m =
  bnd (rLenStr v0) fun v9 =>
  bnd (aBin X.T .gtr T_int false true v9 (.int .i64 300)) fun v10 =>
  onBool v10
    (some (.ret (.bool true), m))
    (k_l08_LexMunch_1 v0 m) := by kernel_rfl
theorem k_l08_LexMunch_1_eq (v0 : AV) (m : Mem) : k_l08_LexMunch_1 v0 m =
  retK (w_lex_Lex v0 m) (fun v12 m1 =>
  l_l08_LexMunch_0 v0 v12 (.int .i64 0) m1) (fun u m1 => some (.pan u, m1)) := by kernel_rfl
theorem k_l08_LexMunch_2_eq (v0 v3 v4 : AV) (m : Mem) : k_l08_LexMunch_2 v0 v3 v4 m =
  some (.ret (.bool true), m) := by kernel_rfl
theorem l_l08_LexMunch_0_u (v0 v3 v4 : AV) (m : Mem) : l_l08_LexMunch_0 v0 v3 v4 m = loopK X F_l08_LexMunch 0 (sB (sB (sR (sL (sR (sR (sR (sR c_l08_LexMunch)))))))) B_l08_LexMunch_0 ⟨[v0, Q, Q, v3, v4, Q, Q, Q, Q, Q, Q, Q, Q, Q, Q, Q, Q, Q, Q, Q, Q, Q, Q, Q, Q, Q, Q, Q, Q, Q, Q, Q, Q, Q, Q, Q, Q, Q, Q, Q, Q, Q, Q, Q, Q, Q, Q, Q, Q, Q, Q, Q, Q, Q, Q, Q, Q, Q, Q, Q, Q, Q, Q, Q, Q, Q, Q, Q, Q, Q], []⟩ m := by kernel_rfl
theorem l_l08_LexMunch_0_r (v0 v3 v4 : AV) (m : Mem) : roundF X F_l08_LexMunch 0 (sB (sB (sR (sL (sR (sR (sR (sR c_l08_LexMunch)))))))) B_l08_LexMunch_0 [v0, Q, Q, v3, v4, Q, Q, Q, Q, Q, Q, Q, Q, Q, Q, Q, Q, Q, Q, Q, Q, Q, Q, Q, Q, Q, Q, Q, Q, Q, Q, Q, Q, Q, Q, Q, Q, Q, Q, Q, Q, Q, Q, Q, Q, Q, Q, Q, Q, Q, Q, Q, Q, Q, Q, Q, Q, Q, Q, Q, Q, Q, Q, Q, Q, Q, Q, Q, Q, Q] m =
  bnd (rLenSl v3) fun v15 =>
  bnd (aBin X.T .lss T_int false false v4 v15) fun v16 =>
  onBool v16
    (k_l08_LexMunch_3 v0 v3 v4 m)
    (k_l08_LexMunch_2 v0 v3 v4 m) := by kernel_rfl
theorem l_l08_LexMunch_0_eq (v0 v3 v4 : AV) (m : Mem) : l_l08_LexMunch_0 v0 v3 v4 m =
  bnd (rLenSl v3) fun v15 =>
  bnd (aBin X.T .lss T_int false false v4 v15) fun v16 =>
  onBool v16
    (k_l08_LexMunch_3 v0 v3 v4 m)
    (k_l08_LexMunch_2 v0 v3 v4 m) := roundF_of (l_l08_LexMunch_0_u v0 v3 v4 m) (l_l08_LexMunch_0_r v0 v3 v4 m)
theorem k_l08_LexMunch_3_eq (v0 v3 v4 : AV) (m : Mem) : k_l08_LexMunch_3 v0 v3 v4 m =
  bnd (rIxAddrSl 3 v3 v4) fun v21 =>
  bnd (rFieldAddr 0 v21) fun v22 =>
  bnd (rLoad false 1 m v22) fun v23 =>
  bnd (aBin X.T .eql T_int false true v23 (.int .i64 7)) fun v24 =>
  onBool v24
    (k_l08_LexMunch_4 v0 v3 v4 .undef m)
    (k_l08_LexMunch_5 v0 v3 v4 m) := by kernel_rfl
theorem k_l08_LexMunch_4_eq (v0 v3 v4 v5 : AV) (m : Mem) : k_l08_LexMunch_4 v0 v3 v4 v5 m =
  bnd (aBin X.T .add T_int false true v4 (.int .i64 1)) fun v18 =>
  l_l08_LexMunch_0 v0 v3 v18 m := by kernel_rfl
theorem k_l08_LexMunch_5_eq (v0 v3 v4 : AV) (m : Mem) : k_l08_LexMunch_5 v0 v3 v4 m =
  bnd (rIxAddrSl 3 v3 v4) fun v28 =>
  bnd (rLoad true 3 m v28) fun v29 =>
  retK (w_lex_Word v0 v29 m) (fun v30 m1 =>
  retK (w_lex_Kind v30 m1) (fun v31 m2 =>
  bnd (rIxAddrSl 3 v3 v4) fun v34 =>
  bnd (rFieldAddr 0 v34) fun v35 =>
  bnd (rLoad false 1 m2 v35) fun v36 =>
  bnd (aBin X.T .neq T_int false false v31 v36) fun v37 =>
  bnd (rLoad false 1 m v35) fun u =>
  sameK u v36 <|
  bnd (rLoad false 1 m1 v35) fun u_1 =>
  sameK u_1 v36 <|
  onBool v37
    (some (.ret (.bool false), m2))
    (k_l08_LexMunch_6 v0 v3 v4 m2)) (fun u m2 => none)) (fun u m1 => none) := by kernel_rfl
theorem k_l08_LexMunch_6_eq (v0 v3 v4 : AV) (m : Mem) : k_l08_LexMunch_6 v0 v3 v4 m =
  bnd (rIxAddrSl 3 v3 v4) fun v40 =>
  bnd (rFieldAddr 2 v40) fun v41 =>
  bnd (rLoad false 1 m v41) fun v42 =>
  bnd (aBin X.T .add T_int false true v42 (.int .i64 1)) fun v43 =>
  l_l08_LexMunch_2 v0 v3 v4 v43 m := by kernel_rfl
theorem l_l08_LexMunch_2_u (v0 v3 v4 v5 : AV) (m : Mem) : l_l08_LexMunch_2 v0 v3 v4 v5 m = loopK X F_l08_LexMunch 2 (sB (sB (sR (sR (sR (sB (sL (sR (sB (sB (sR (sL (sR (sR (sR (sR c_l08_LexMunch)))))))))))))))) B_l08_LexMunch_2 ⟨[v0, Q, Q, v3, v4, v5, Q, Q, Q, Q, Q, Q, Q, Q, Q, Q, Q, Q, Q, Q, Q, Q, Q, Q, Q, Q, Q, Q, Q, Q, Q, Q, Q, Q, Q, Q, Q, Q, Q, Q, Q, Q, Q, Q, Q, Q, Q, Q, Q, Q, Q, Q, Q, Q, Q, Q, Q, Q, Q, Q, Q, Q, Q, Q, Q, Q, Q, Q, Q, Q], []⟩ m := by kernel_rfl
theorem l_l08_LexMunch_2_r (v0 v3 v4 v5 : AV) (m : Mem) : roundF X F_l08_LexMunch 2 (sB (sB (sR (sR (sR (sB (sL (sR (sB (sB (sR (sL (sR (sR (sR (sR c_l08_LexMunch)))))))))))))))) B_l08_LexMunch_2 [v0, Q, Q, v3, v4, v5, Q, Q, Q, Q, Q, Q, Q, Q, Q, Q, Q, Q, Q, Q, Q, Q, Q, Q, Q, Q, Q, Q, Q, Q, Q, Q, Q, Q, Q, Q, Q, Q, Q, Q, Q, Q, Q, Q, Q, Q, Q, Q, Q, Q, Q, Q, Q, Q, Q, Q, Q, Q, Q, Q, Q, Q, Q, Q, Q, Q, Q, Q, Q, Q] m =
  bnd (rLenStr v0) fun v46 =>
  bnd (aBin X.T .leq T_int false false v5 v46) fun v47 =>
  onWant v47
    (bnd (rIxAddrSl 3 v3 v4) fun v52 =>
  bnd (rFieldAddr 2 v52) fun v53 =>
  bnd (rLoad false 1 m v53) fun v54 =>
  bnd (aBin X.T .add T_int false true v54 (.int .i64 40)) fun v55 =>
  bnd (aBin X.T .lss T_int false false v5 v55) fun v56 =>
  k_l08_LexMunch_8 v0 v3 v4 v5 v56 m)
    (k_l08_LexMunch_8 v0 v3 v4 v5 (.bool false) m)
    (none) := by kernel_rfl
theorem l_l08_LexMunch_2_eq (v0 v3 v4 v5 : AV) (m : Mem) : l_l08_LexMunch_2 v0 v3 v4 v5 m =
  bnd (rLenStr v0) fun v46 =>
  bnd (aBin X.T .leq T_int false false v5 v46) fun v47 =>
  onWant v47
    (bnd (rIxAddrSl 3 v3 v4) fun v52 =>
  bnd (rFieldAddr 2 v52) fun v53 =>
  bnd (rLoad false 1 m v53) fun v54 =>
  bnd (aBin X.T .add T_int false true v54 (.int .i64 40)) fun v55 =>
  bnd (aBin X.T .lss T_int false false v5 v55) fun v56 =>
  k_l08_LexMunch_8 v0 v3 v4 v5 v56 m)
    (k_l08_LexMunch_8 v0 v3 v4 v5 (.bool false) m)
    (none) := roundF_of (l_l08_LexMunch_2_u v0 v3 v4 v5 m) (l_l08_LexMunch_2_r v0 v3 v4 v5 m)
theorem k_l08_LexMunch_7_eq (v0 v3 v4 v5 : AV) (m : Mem) : k_l08_LexMunch_7 v0 v3 v4 v5 m =
  bnd (rIxAddrSl 3 v3 v4) fun v63 =>
  bnd (rFieldAddr 1 v63) fun v64 =>
  bnd (rLoad false 1 m v64) fun v65 =>
  bnd (rSliceStr v0 (some v65) (some v5)) fun v67 =>
  retK (w_lex_Kind v67 m) (fun v68 m1 =>
  bnd (aBin X.T .neq T_int false true v68 (.int .i64 0)) fun v69 =>
  onBool v69
    (some (.ret (.bool false), m1))
    (k_l08_LexMunch_9 v0 v3 v4 v5 m1)) (fun u m1 => some (.pan u, m1)) := by kernel_rfl
theorem k_l08_LexMunch_8_eq (v0 v3 v4 v5 v57 : AV) (m : Mem) : k_l08_LexMunch_8 v0 v3 v4 v5 v57 m =
  onBool v57
    (k_l08_LexMunch_7 v0 v3 v4 v5 m)
    (k_l08_LexMunch_4 v0 v3 v4 v5 m) := by kernel_rfl
theorem k_l08_LexMunch_9_eq (v0 v3 v4 v5 : AV) (m : Mem) : k_l08_LexMunch_9 v0 v3 v4 v5 m =
  bnd (aBin X.T .add T_int false true v5 (.int .i64 1)) fun v59 =>
  l_l08_LexMunch_2 v0 v3 v4 v59 m := by kernel_rfl

/-! ### parlance/parlancelaw08.LexWords -/
noncomputable def c_l08_LexWords : Code := bodyOf Try.f6
noncomputable def N_l08_LexWords : AAct → Mem → Option (AOut × Mem) := finK X.T Try.f6.results.toList .normal
noncomputable def P_l08_LexWords : AExit → AAct → Mem → Option (AOut × Mem) := finK X.T Try.f6.results.toList
noncomputable def K_l08_LexWords_0 : AAct → Mem → Option (AOut × Mem) := execF X F_l08_LexWords 0 (sR (sR c_l08_LexWords)) N_l08_LexWords P_l08_LexWords
noncomputable def K_l08_LexWords_1 : AAct → Mem → Option (AOut × Mem) := execF X F_l08_LexWords 0 (sR (sR (sR c_l08_LexWords))) N_l08_LexWords P_l08_LexWords
noncomputable def k_l08_LexWords_0 (v0 v2 v4 : AV) (m : Mem) : Option (AOut × Mem) := K_l08_LexWords_0 ⟨[v0, Q, v2, Q, v4, Q, Q, Q, Q, Q, Q, Q, Q, Q, Q, Q, Q, Q, Q, Q, Q, Q, Q, Q, Q, Q, Q, Q, Q, Q, Q, Q, Q, Q, Q, Q, Q, Q, Q, Q, Q, Q, Q, Q, Q, Q, Q, Q, Q, Q, Q, Q, Q, Q, Q, Q, Q], []⟩ m
noncomputable def k_l08_LexWords_1 (v0 v2 v4 : AV) (m : Mem) : Option (AOut × Mem) := K_l08_LexWords_1 ⟨[v0, Q, v2, Q, v4, Q, Q, Q, Q, Q, Q, Q, Q, Q, Q, Q, Q, Q, Q, Q, Q, Q, Q, Q, Q, Q, Q, Q, Q, Q, Q, Q, Q, Q, Q, Q, Q, Q, Q, Q, Q, Q, Q, Q, Q, Q, Q, Q, Q, Q, Q, Q, Q, Q, Q, Q, Q], []⟩ m
theorem e_l08_LexWords (v0 v1 v2 : AV) (m : Mem) : w_l08_LexWords v0 v1 v2 m =
  memK (aBox m v1) fun v4 m1 =>
  retK (w_l08_alive m1) (fun v7 m2 =>
  bnd (aUn .not v7) fun v8 =>
  onBool v8
    (some (.ret (.bool false), m2))
    (k_l08_LexWords_0 v0 v2 v4 m2)) (fun u m2 => some (.pan u, m2)) := (aW_F (c := c_l08_LexWords) (fn := Try.f6) (by kernel_rfl) (by kernel_rfl) (by kernel_rfl) _ m).trans (by kernel_rfl)
theorem k_l08_LexWords_0_eq (v0 v2 v4 : AV) (m : Mem) : k_l08_LexWords_0 v0 v2 v4 m =
  bnd (rLenStr v0) fun v10 =>
  bnd (rLenStr v2) fun v12 =>
  bnd (aBin X.T .add T_int false false v10 v12) fun v13 =>
  bnd (aBin X.T .gtr T_int false true v13 (.int .i64 20000)) fun v14 =>
  onBool v14
    (some (.ret (.bool true), m))
    (k_l08_LexWords_1 v0 v2 v4 m) := by kernel_rfl
theorem k_l08_LexWords_1_eq (v0 v2 v4 : AV) (m : Mem) : k_l08_LexWords_1 v0 v2 v4 m =
  bnd (rLoad true 3 m v4) fun v16 =>
  retK (w_lex_Word v0 v16 m) (fun v17 m1 =>
  bnd (rLoad true 3 m1 v4) fun v19 =>
  retK (w_r08_Word v0 v19 m1) (fun v20 m2 =>
  bnd (aBin X.T .eql T_string false false v17 v20) fun v21 =>
  onWant v21
    (bnd (rLoad true 3 m2 v4) fun v24 =>
  retK (w_lex_Is v0 v24 v2 m2) (fun v26 m3 =>
  bnd (rLoad true 3 m3 v4) fun v28 =>
  retK (w_r08_Is v0 v28 v2 m3) (fun v30 m4 =>
  bnd (aBin X.T .eql T_bool false false v26 v30) fun v31 =>
  onWant v31
    (bnd (rLoad true 3 m4 v4) fun v35 =>
  bnd (rLoad true 3 m4 v4) fun v37 =>
  retK (w_lex_Word v0 v37 m4) (fun v38 m5 =>
  retK (w_lex_Is v0 v35 v38 m5) (fun v39 m6 =>
  bnd (rFieldAddr 0 v4) fun v40 =>
  bnd (rLoad false 1 m6 v40) fun v41 =>
  bnd (aBin X.T .eql T_int false true v41 (.int .i64 5)) fun v42 =>
  onWant v42
    (bnd (aBin X.T .eql T_bool false false v39 (.bool true)) fun v48 =>
  onWant v48
    (retK (w_lex_Kind v2 m6) (fun v52 m7 =>
  retK (w_r08_Kind v2 m7) (fun v54 m8 =>
  bnd (aBin X.T .eql T_int false false v52 v54) fun v55 =>
  bnd (rLoad true 3 m v4) fun u =>
  sameK u v19 <|
  bnd (rLoad true 3 m2 v4) fun u_1 =>
  sameK u_1 v28 <|
  bnd (rLoad true 3 m5 v4) fun u_2 =>
  sameK u_2 v35 <|
  bnd (rLoad false 1 m4 v40) fun u_3 =>
  sameK u_3 v41 <|
  bnd (rLoad false 1 m5 v40) fun u_4 =>
  sameK u_4 v41 <|
  some (.ret v55, m8)) (fun u m8 => none)) (fun u m7 => none))
    (bnd (rLoad true 3 m v4) fun u =>
  sameK u v19 <|
  bnd (rLoad true 3 m2 v4) fun u_1 =>
  sameK u_1 v28 <|
  bnd (rLoad true 3 m5 v4) fun u_2 =>
  sameK u_2 v35 <|
  bnd (rLoad false 1 m4 v40) fun u_3 =>
  sameK u_3 v41 <|
  bnd (rLoad false 1 m5 v40) fun u_4 =>
  sameK u_4 v41 <|
  some (.ret (.bool false), m6))
    (none))
    (bnd (rFieldAddr 0 v4) fun v44 =>
  bnd (rLoad false 1 m6 v44) fun v45 =>
  bnd (aBin X.T .eql T_int false true v45 (.int .i64 6)) fun v46 =>
  bnd (aBin X.T .eql T_bool false false v39 v46) fun v48 =>
  onWant v48
    (retK (w_lex_Kind v2 m6) (fun v52 m7 =>
  retK (w_r08_Kind v2 m7) (fun v54 m8 =>
  bnd (aBin X.T .eql T_int false false v52 v54) fun v55 =>
  bnd (rLoad true 3 m v4) fun u =>
  sameK u v19 <|
  bnd (rLoad true 3 m2 v4) fun u_1 =>
  sameK u_1 v28 <|
  bnd (rLoad true 3 m5 v4) fun u_2 =>
  sameK u_2 v35 <|
  bnd (rLoad false 1 m4 v40) fun u_3 =>
  sameK u_3 v41 <|
  bnd (rLoad false 1 m5 v40) fun u_4 =>
  sameK u_4 v41 <|
  some (.ret v55, m8)) (fun u m8 => none)) (fun u m7 => none))
    (bnd (rLoad true 3 m v4) fun u =>
  sameK u v19 <|
  bnd (rLoad true 3 m2 v4) fun u_1 =>
  sameK u_1 v28 <|
  bnd (rLoad true 3 m5 v4) fun u_2 =>
  sameK u_2 v35 <|
  bnd (rLoad false 1 m4 v40) fun u_3 =>
  sameK u_3 v41 <|
  bnd (rLoad false 1 m5 v40) fun u_4 =>
  sameK u_4 v41 <|
  some (.ret (.bool false), m6))
    (none))
    (none)) (fun u m6 => none)) (fun u m5 => none))
    (bnd (rLoad true 3 m v4) fun u =>
  sameK u v19 <|
  bnd (rLoad true 3 m2 v4) fun u_1 =>
  sameK u_1 v28 <|
  some (.ret (.bool false), m4))
    (none)) (fun u m4 => none)) (fun u m3 => none))
    (bnd (rLoad true 3 m v4) fun u =>
  sameK u v19 <|
  some (.ret (.bool false), m2))
    (none)) (fun u m2 => none)) (fun u m1 => none) := by kernel_rfl

/-! ### parlance/parlancelaw09.RelexEdits -/
noncomputable def c_l09_RelexEdits : Code := bodyOf Try.f7
noncomputable def N_l09_RelexEdits : AAct → Mem → Option (AOut × Mem) := finK X.T Try.f7.results.toList .normal
noncomputable def P_l09_RelexEdits : AExit → AAct → Mem → Option (AOut × Mem) := finK X.T Try.f7.results.toList
noncomputable def K_l09_RelexEdits_0 : AAct → Mem → Option (AOut × Mem) := execF X F_l09_RelexEdits 0 (sR (sR c_l09_RelexEdits)) N_l09_RelexEdits P_l09_RelexEdits
noncomputable def K_l09_RelexEdits_1 : AAct → Mem → Option (AOut × Mem) := execF X F_l09_RelexEdits 0 (sR (sR (sR c_l09_RelexEdits))) N_l09_RelexEdits P_l09_RelexEdits
noncomputable def k_l09_RelexEdits_0 (v0 v1 v2 v3 : AV) (m : Mem) : Option (AOut × Mem) := K_l09_RelexEdits_0 ⟨[v0, v1, v2, v3, Q, Q, Q, Q, Q, Q, Q, Q, Q, Q, Q, Q, Q, Q, Q, Q, Q, Q, Q, Q, Q, Q, Q, Q, Q, Q, Q, Q, Q, Q, Q, Q, Q, Q, Q, Q, Q, Q, Q, Q, Q, Q, Q, Q, Q, Q, Q, Q, Q, Q, Q, Q, Q, Q, Q, Q, Q, Q, Q, Q, Q, Q, Q, Q, Q, Q, Q, Q, Q, Q, Q, Q, Q, Q, Q, Q, Q, Q, Q, Q, Q, Q, Q, Q, Q, Q, Q, Q, Q, Q], []⟩ m
noncomputable def k_l09_RelexEdits_1 (v0 v1 v2 v3 : AV) (m : Mem) : Option (AOut × Mem) := K_l09_RelexEdits_1 ⟨[v0, v1, v2, v3, Q, Q, Q, Q, Q, Q, Q, Q, Q, Q, Q, Q, Q, Q, Q, Q, Q, Q, Q, Q, Q, Q, Q, Q, Q, Q, Q, Q, Q, Q, Q, Q, Q, Q, Q, Q, Q, Q, Q, Q, Q, Q, Q, Q, Q, Q, Q, Q, Q, Q, Q, Q, Q, Q, Q, Q, Q, Q, Q, Q, Q, Q, Q, Q, Q, Q, Q, Q, Q, Q, Q, Q, Q, Q, Q, Q, Q, Q, Q, Q, Q, Q, Q, Q, Q, Q, Q, Q, Q, Q], []⟩ m
theorem e_l09_RelexEdits (v0 v1 v2 v3 : AV) (m : Mem) : w_l09_RelexEdits v0 v1 v2 v3 m =
  retK (w_l09_alive m) (fun v19 m1 =>
  bnd (aUn .not v19) fun v20 =>
  onBool v20
    (some (.ret (.bool false), m1))
    (k_l09_RelexEdits_0 v0 v1 v2 v3 m1)) (fun u m1 => some (.pan u, m1)) := (aW_F (c := c_l09_RelexEdits) (fn := Try.f7) (by kernel_rfl) (by kernel_rfl) (by kernel_rfl) _ m).trans (by kernel_rfl)
theorem k_l09_RelexEdits_0_eq (v0 v1 v2 v3 : AV) (m : Mem) : k_l09_RelexEdits_0 v0 v1 v2 v3 m =
  bnd (rLenStr v0) fun v22 =>
  bnd (rLenStr v3) fun v24 =>
  bnd (aBin X.T .add T_int false false v22 v24) fun v25 =>
  bnd (aBin X.T .gtr T_int false true v25 (.int .i64 20000)) fun v26 =>
  onBool v26
    (some (.ret (.bool true), m))
    (k_l09_RelexEdits_1 v0 v1 v2 v3 m) := by kernel_rfl
theorem k_l09_RelexEdits_1_eq (v0 v1 v2 v3 : AV) (m : Mem) : k_l09_RelexEdits_1 v0 v1 v2 v3 m =
  retK (w_r08_Lex v0 m) (fun v28 m1 =>
  retK (w_r00_CopyTokens v28 m1) (fun v30 m2 =>
  bnd (rBuild [.int .i64 0, .int .i64 0, .int .i64 0] [(0, 1, (.int .i64 9))]) fun v31 =>
  bnd (rBuildSlice A_api_Token 1 [(0, v31)]) fun v32 =>
  memK (rAppend A_api_Token 0 m2 v30 v32) fun v33 m3 =>
  bnd (rLenSl v28) fun v38 =>
  bnd (rSliceSl 3 v33 none (some v38)) fun v39 =>
  retK (w_relex_Relex v0 v39 v1 v2 v3 m3) (fun v43 m4 =>
  bnd (aExtract v43 0) fun v44 =>
  bnd (aExtract v43 1) fun v45 =>
  bnd (aExtract v43 2) fun v46 =>
  bnd (aExtract v43 3) fun v47 =>
  retK (w_r09_Relex v0 v28 v1 v2 v3 m4) (fun v54 m5 =>
  bnd (aExtract v54 0) fun v55 =>
  bnd (aExtract v54 1) fun v56 =>
  bnd (aExtract v54 2) fun v57 =>
  bnd (aExtract v54 3) fun v58 =>
  retK (w_r00_SameTokens v44 v55 m5) (fun v61 m6 =>
  onWant v61
    (bnd (aBin X.T .eql T_int false false v45 v56) fun v65 =>
  onWant v65
    (bnd (aBin X.T .eql T_int false false v46 v57) fun v70 =>
  onWant v70
    (bnd (aBin X.T .eql T_api_Errno false false v47 v58) fun v75 =>
  onWant v75
    (bnd (rLenSl v28) fun v80 =>
  bnd (rSliceSl 3 v33 none (some v80)) fun v81 =>
  retK (w_r00_SameTokens v81 v28 m6) (fun v83 m7 =>
  onWant v83
    (bnd (rLenSl v28) fun v88 =>
  bnd (rIxAddrSl 3 v33 v88) fun v89 =>
  bnd (rFieldAddr 0 v89) fun v90 =>
  bnd (rLoad false 1 m7 v90) fun v91 =>
  bnd (aBin X.T .eql T_int false true v91 (.int .i64 9)) fun v92 =>
  some (.ret v92, m7))
    (some (.ret (.bool false), m7))
    (none)) (fun u m7 => some (.pan u, m7)))
    (some (.ret (.bool false), m6))
    (none))
    (some (.ret (.bool false), m6))
    (none))
    (some (.ret (.bool false), m6))
    (none))
    (some (.ret (.bool false), m6))
    (none)) (fun u m6 => some (.pan u, m6))) (fun u m5 => some (.pan u, m5))) (fun u m4 => some (.pan u, m4))) (fun u m2 => some (.pan u, m2))) (fun u m1 => some (.pan u, m1)) := by kernel_rfl

/-! ### parlance/parlancelaw09.RelexRows -/
noncomputable def c_l09_RelexRows : Code := bodyOf Try.f8
noncomputable def N_l09_RelexRows : AAct → Mem → Option (AOut × Mem) := finK X.T Try.f8.results.toList .normal
noncomputable def P_l09_RelexRows : AExit → AAct → Mem → Option (AOut × Mem) := finK X.T Try.f8.results.toList
noncomputable def K_l09_RelexRows_0 : AAct → Mem → Option (AOut × Mem) := execF X F_l09_RelexRows 0 (sR (sR c_l09_RelexRows)) N_l09_RelexRows P_l09_RelexRows
noncomputable def K_l09_RelexRows_1 : AAct → Mem → Option (AOut × Mem) := execF X F_l09_RelexRows 0 (sR (sR (sR c_l09_RelexRows))) N_l09_RelexRows P_l09_RelexRows
noncomputable def K_l09_RelexRows_2 : AAct → Mem → Option (AOut × Mem) := execF X F_l09_RelexRows 0 (sR (sL (sR (sR c_l09_RelexRows)))) K_l09_RelexRows_1 P_l09_RelexRows
noncomputable def K_l09_RelexRows_3 : AAct → Mem → Option (AOut × Mem) := execF X F_l09_RelexRows 0 (sR (sR (sR (sR (sR c_l09_RelexRows))))) N_l09_RelexRows P_l09_RelexRows
noncomputable def B_l09_RelexRows_0 : AExit → AAct → Mem → Option (AOut × Mem) := blockX 0 K_l09_RelexRows_3 P_l09_RelexRows
noncomputable def L_l09_RelexRows_0 : AAct → Mem → Option (AOut × Mem) := fun a m => killF (X.lk F_l09_RelexRows 0) a.tmps fun l => loopK X F_l09_RelexRows 0 (sB (sB (sR (sL (sR (sR (sR (sR c_l09_RelexRows)))))))) B_l09_RelexRows_0 ⟨l, a.defers⟩ m
noncomputable def K_l09_RelexRows_4 : AAct → Mem → Option (AOut × Mem) := execF X F_l09_RelexRows 0 (sR (sB (sB (sR (sL (sR (sR (sR (sR c_l09_RelexRows))))))))) L_l09_RelexRows_0 B_l09_RelexRows_0
noncomputable def K_l09_RelexRows_5 : AAct → Mem → Option (AOut × Mem) := execF X F_l09_RelexRows 0 (sR (sR (sB (sB (sR (sL (sR (sR (sR (sR c_l09_RelexRows)))))))))) L_l09_RelexRows_0 B_l09_RelexRows_0
noncomputable def B_l09_RelexRows_1 : AExit → AAct → Mem → Option (AOut × Mem) := blockX 1 K_l09_RelexRows_5 B_l09_RelexRows_0
noncomputable def K_l09_RelexRows_6 : AAct → Mem → Option (AOut × Mem) := execF X F_l09_RelexRows 1 (sR (sR (sB (sL (sR (sB (sB (sR (sL (sR (sR (sR (sR c_l09_RelexRows))))))))))))) K_l09_RelexRows_5 B_l09_RelexRows_1
noncomputable def K_l09_RelexRows_7 : AAct → Mem → Option (AOut × Mem) := execF X F_l09_RelexRows 1 (sR (sR (sR (sR (sB (sL (sR (sB (sB (sR (sL (sR (sR (sR (sR c_l09_RelexRows))))))))))))))) K_l09_RelexRows_5 B_l09_RelexRows_1
noncomputable def K_l09_RelexRows_8 : AAct → Mem → Option (AOut × Mem) := execF X F_l09_RelexRows 1 (sR (sL (sL (sR (sL (sR (sR (sR (sB (sL (sR (sB (sB (sR (sL (sR (sR (sR (sR c_l09_RelexRows))))))))))))))))))) (execF X F_l09_RelexRows 1 (sR (sL (sR (sL (sR (sR (sR (sB (sL (sR (sB (sB (sR (sL (sR (sR (sR (sR c_l09_RelexRows)))))))))))))))))) K_l09_RelexRows_7 B_l09_RelexRows_1) B_l09_RelexRows_1
noncomputable def K_l09_RelexRows_9 : AAct → Mem → Option (AOut × Mem) := execF X F_l09_RelexRows 1 (sR (sR (sR (sR (sR (sB (sL (sR (sB (sB (sR (sL (sR (sR (sR (sR c_l09_RelexRows)))))))))))))))) K_l09_RelexRows_5 B_l09_RelexRows_1
noncomputable def K_l09_RelexRows_10 : AAct → Mem → Option (AOut × Mem) := execF X F_l09_RelexRows 1 (sR (sL (sR (sR (sR (sR (sB (sL (sR (sB (sB (sR (sL (sR (sR (sR (sR c_l09_RelexRows))))))))))))))))) K_l09_RelexRows_9 B_l09_RelexRows_1
noncomputable def k_l09_RelexRows_0 (v0 v1 : AV) (m : Mem) : Option (AOut × Mem) := K_l09_RelexRows_0 ⟨[v0, v1, Q, Q, Q, Q, Q, Q, Q, Q, Q, Q, Q, Q, Q, Q, Q, Q, Q, Q, Q, Q, Q, Q, Q, Q, Q, Q, Q, Q, Q, Q, Q, Q, Q, Q, Q, Q, Q, Q, Q, Q, Q, Q, Q, Q, Q, Q, Q, Q, Q, Q, Q, Q, Q, Q, Q, Q, Q, Q, Q, Q, Q, Q, Q, Q, Q, Q, Q, Q, Q, Q, Q, Q, Q, Q, Q, Q, Q, Q, Q, Q, Q, Q, Q, Q, Q, Q, Q, Q, Q, Q, Q, Q, Q, Q, Q, Q, Q, Q, Q, Q, Q, Q, Q, Q, Q, Q, Q, Q, Q, Q, Q, Q, Q, Q, Q, Q, Q, Q, Q, Q, Q, Q, Q], []⟩ m
noncomputable def k_l09_RelexRows_1 (v0 v1 : AV) (m : Mem) : Option (AOut × Mem) := K_l09_RelexRows_1 ⟨[v0, v1, Q, Q, Q, Q, Q, Q, Q, Q, Q, Q, Q, Q, Q, Q, Q, Q, Q, Q, Q, Q, Q, Q, Q, Q, Q, Q, Q, Q, Q, Q, Q, Q, Q, Q, Q, Q, Q, Q, Q, Q, Q, Q, Q, Q, Q, Q, Q, Q, Q, Q, Q, Q, Q, Q, Q, Q, Q, Q, Q, Q, Q, Q, Q, Q, Q, Q, Q, Q, Q, Q, Q, Q, Q, Q, Q, Q, Q, Q, Q, Q, Q, Q, Q, Q, Q, Q, Q, Q, Q, Q, Q, Q, Q, Q, Q, Q, Q, Q, Q, Q, Q, Q, Q, Q, Q, Q, Q, Q, Q, Q, Q, Q, Q, Q, Q, Q, Q, Q, Q, Q, Q, Q, Q], []⟩ m
noncomputable def k_l09_RelexRows_2 (v0 v1 v21 : AV) (m : Mem) : Option (AOut × Mem) := K_l09_RelexRows_2 ⟨[v0, v1, Q, Q, Q, Q, Q, Q, Q, Q, Q, Q, Q, Q, Q, Q, Q, Q, Q, Q, Q, v21, Q, Q, Q, Q, Q, Q, Q, Q, Q, Q, Q, Q, Q, Q, Q, Q, Q, Q, Q, Q, Q, Q, Q, Q, Q, Q, Q, Q, Q, Q, Q, Q, Q, Q, Q, Q, Q, Q, Q, Q, Q, Q, Q, Q, Q, Q, Q, Q, Q, Q, Q, Q, Q, Q, Q, Q, Q, Q, Q, Q, Q, Q, Q, Q, Q, Q, Q, Q, Q, Q, Q, Q, Q, Q, Q, Q, Q, Q, Q, Q, Q, Q, Q, Q, Q, Q, Q, Q, Q, Q, Q, Q, Q, Q, Q, Q, Q, Q, Q, Q, Q, Q, Q], []⟩ m
noncomputable def k_l09_RelexRows_3 (v0 v1 v5 v6 : AV) (m : Mem) : Option (AOut × Mem) := K_l09_RelexRows_3 ⟨[v0, v1, Q, Q, Q, v5, v6, Q, Q, Q, Q, Q, Q, Q, Q, Q, Q, Q, Q, Q, Q, Q, Q, Q, Q, Q, Q, Q, Q, Q, Q, Q, Q, Q, Q, Q, Q, Q, Q, Q, Q, Q, Q, Q, Q, Q, Q, Q, Q, Q, Q, Q, Q, Q, Q, Q, Q, Q, Q, Q, Q, Q, Q, Q, Q, Q, Q, Q, Q, Q, Q, Q, Q, Q, Q, Q, Q, Q, Q, Q, Q, Q, Q, Q, Q, Q, Q, Q, Q, Q, Q, Q, Q, Q, Q, Q, Q, Q, Q, Q, Q, Q, Q, Q, Q, Q, Q, Q, Q, Q, Q, Q, Q, Q, Q, Q, Q, Q, Q, Q, Q, Q, Q, Q, Q], []⟩ m
noncomputable def l_l09_RelexRows_0 (v0 v1 v5 v6 : AV) (m : Mem) : Option (AOut × Mem) := L_l09_RelexRows_0 ⟨[v0, v1, Q, Q, Q, v5, v6, Q, Q, Q, Q, Q, Q, Q, Q, Q, Q, Q, Q, Q, Q, Q, Q, Q, Q, Q, Q, Q, Q, Q, Q, Q, Q, Q, Q, Q, Q, Q, Q, Q, Q, Q, Q, Q, Q, Q, Q, Q, Q, Q, Q, Q, Q, Q, Q, Q, Q, Q, Q, Q, Q, Q, Q, Q, Q, Q, Q, Q, Q, Q, Q, Q, Q, Q, Q, Q, Q, Q, Q, Q, Q, Q, Q, Q, Q, Q, Q, Q, Q, Q, Q, Q, Q, Q, Q, Q, Q, Q, Q, Q, Q, Q, Q, Q, Q, Q, Q, Q, Q, Q, Q, Q, Q, Q, Q, Q, Q, Q, Q, Q, Q, Q, Q, Q, Q], []⟩ m
noncomputable def k_l09_RelexRows_4 (v0 v1 v5 v6 : AV) (m : Mem) : Option (AOut × Mem) := K_l09_RelexRows_4 ⟨[v0, v1, Q, Q, Q, v5, v6, Q, Q, Q, Q, Q, Q, Q, Q, Q, Q, Q, Q, Q, Q, Q, Q, Q, Q, Q, Q, Q, Q, Q, Q, Q, Q, Q, Q, Q, Q, Q, Q, Q, Q, Q, Q, Q, Q, Q, Q, Q, Q, Q, Q, Q, Q, Q, Q, Q, Q, Q, Q, Q, Q, Q, Q, Q, Q, Q, Q, Q, Q, Q, Q, Q, Q, Q, Q, Q, Q, Q, Q, Q, Q, Q, Q, Q, Q, Q, Q, Q, Q, Q, Q, Q, Q, Q, Q, Q, Q, Q, Q, Q, Q, Q, Q, Q, Q, Q, Q, Q, Q, Q, Q, Q, Q, Q, Q, Q, Q, Q, Q, Q, Q, Q, Q, Q, Q], []⟩ m
noncomputable def k_l09_RelexRows_5 (v0 v1 v5 v6 : AV) (m : Mem) : Option (AOut × Mem) := K_l09_RelexRows_5 ⟨[v0, v1, Q, Q, Q, v5, v6, Q, Q, Q, Q, Q, Q, Q, Q, Q, Q, Q, Q, Q, Q, Q, Q, Q, Q, Q, Q, Q, Q, Q, Q, Q, Q, Q, Q, Q, Q, Q, Q, Q, Q, Q, Q, Q, Q, Q, Q, Q, Q, Q, Q, Q, Q, Q, Q, Q, Q, Q, Q, Q, Q, Q, Q, Q, Q, Q, Q, Q, Q, Q, Q, Q, Q, Q, Q, Q, Q, Q, Q, Q, Q, Q, Q, Q, Q, Q, Q, Q, Q, Q, Q, Q, Q, Q, Q, Q, Q, Q, Q, Q, Q, Q, Q, Q, Q, Q, Q, Q, Q, Q, Q, Q, Q, Q, Q, Q, Q, Q, Q, Q, Q, Q, Q, Q, Q], []⟩ m
noncomputable def k_l09_RelexRows_6 (v0 v1 v5 v6 v7 : AV) (m : Mem) : Option (AOut × Mem) := K_l09_RelexRows_6 ⟨[v0, v1, Q, Q, Q, v5, v6, v7, Q, Q, Q, Q, Q, Q, Q, Q, Q, Q, Q, Q, Q, Q, Q, Q, Q, Q, Q, Q, Q, Q, Q, Q, Q, Q, Q, Q, Q, Q, Q, Q, Q, Q, Q, Q, Q, Q, Q, Q, Q, Q, Q, Q, Q, Q, Q, Q, Q, Q, Q, Q, Q, Q, Q, Q, Q, Q, Q, Q, Q, Q, Q, Q, Q, Q, Q, Q, Q, Q, Q, Q, Q, Q, Q, Q, Q, Q, Q, Q, Q, Q, Q, Q, Q, Q, Q, Q, Q, Q, Q, Q, Q, Q, Q, Q, Q, Q, Q, Q, Q, Q, Q, Q, Q, Q, Q, Q, Q, Q, Q, Q, Q, Q, Q, Q, Q], []⟩ m
noncomputable def k_l09_RelexRows_7 (v0 v1 v5 v6 v7 v8 v9 v10 v11 : AV) (m : Mem) : Option (AOut × Mem) := K_l09_RelexRows_7 ⟨[v0, v1, Q, Q, Q, v5, v6, v7, v8, v9, v10, v11, Q, Q, Q, Q, Q, Q, Q, Q, Q, Q, Q, Q, Q, Q, Q, Q, Q, Q, Q, Q, Q, Q, Q, Q, Q, Q, Q, Q, Q, Q, Q, Q, Q, Q, Q, Q, Q, Q, Q, Q, Q, Q, Q, Q, Q, Q, Q, Q, Q, Q, Q, Q, Q, Q, Q, Q, Q, Q, Q, Q, Q, Q, Q, Q, Q, Q, Q, Q, Q, Q, Q, Q, Q, Q, Q, Q, Q, Q, Q, Q, Q, Q, Q, Q, Q, Q, Q, Q, Q, Q, Q, Q, Q, Q, Q, Q, Q, Q, Q, Q, Q, Q, Q, Q, Q, Q, Q, Q, Q, Q, Q, Q, Q], []⟩ m
noncomputable def k_l09_RelexRows_8 (v0 v1 v5 v6 v74 : AV) (m : Mem) : Option (AOut × Mem) := K_l09_RelexRows_8 ⟨[v0, v1, Q, Q, Q, v5, v6, Q, Q, Q, Q, Q, Q, Q, Q, Q, Q, Q, Q, Q, Q, Q, Q, Q, Q, Q, Q, Q, Q, Q, Q, Q, Q, Q, Q, Q, Q, Q, Q, Q, Q, Q, Q, Q, Q, Q, Q, Q, Q, Q, Q, Q, Q, Q, Q, Q, Q, Q, Q, Q, Q, Q, Q, Q, Q, Q, Q, Q, Q, Q, Q, Q, Q, Q, v74, Q, Q, Q, Q, Q, Q, Q, Q, Q, Q, Q, Q, Q, Q, Q, Q, Q, Q, Q, Q, Q, Q, Q, Q, Q, Q, Q, Q, Q, Q, Q, Q, Q, Q, Q, Q, Q, Q, Q, Q, Q, Q, Q, Q, Q, Q, Q, Q, Q, Q], []⟩ m
noncomputable def k_l09_RelexRows_9 (v0 v1 v6 v7 v8 : AV) (m : Mem) : Option (AOut × Mem) := K_l09_RelexRows_9 ⟨[v0, v1, Q, Q, Q, Q, v6, v7, v8, Q, Q, Q, Q, Q, Q, Q, Q, Q, Q, Q, Q, Q, Q, Q, Q, Q, Q, Q, Q, Q, Q, Q, Q, Q, Q, Q, Q, Q, Q, Q, Q, Q, Q, Q, Q, Q, Q, Q, Q, Q, Q, Q, Q, Q, Q, Q, Q, Q, Q, Q, Q, Q, Q, Q, Q, Q, Q, Q, Q, Q, Q, Q, Q, Q, Q, Q, Q, Q, Q, Q, Q, Q, Q, Q, Q, Q, Q, Q, Q, Q, Q, Q, Q, Q, Q, Q, Q, Q, Q, Q, Q, Q, Q, Q, Q, Q, Q, Q, Q, Q, Q, Q, Q, Q, Q, Q, Q, Q, Q, Q, Q, Q, Q, Q, Q], []⟩ m
noncomputable def k_l09_RelexRows_10 (v0 v1 v6 v7 v8 v106 : AV) (m : Mem) : Option (AOut × Mem) := K_l09_RelexRows_10 ⟨[v0, v1, Q, Q, Q, Q, v6, v7, v8, Q, Q, Q, Q, Q, Q, Q, Q, Q, Q, Q, Q, Q, Q, Q, Q, Q, Q, Q, Q, Q, Q, Q, Q, Q, Q, Q, Q, Q, Q, Q, Q, Q, Q, Q, Q, Q, Q, Q, Q, Q, Q, Q, Q, Q, Q, Q, Q, Q, Q, Q, Q, Q, Q, Q, Q, Q, Q, Q, Q, Q, Q, Q, Q, Q, Q, Q, Q, Q, Q, Q, Q, Q, Q, Q, Q, Q, Q, Q, Q, Q, Q, Q, Q, Q, Q, Q, Q, Q, Q, Q, Q, Q, Q, Q, Q, Q, v106, Q, Q, Q, Q, Q, Q, Q, Q, Q, Q, Q, Q, Q, Q, Q, Q, Q, Q], []⟩ m
theorem e_l09_RelexRows (v0 v1 : AV) (m : Mem) : w_l09_RelexRows v0 v1 m =
  retK (w_l09_alive m) (fun v12 m1 =>
  bnd (aUn .not v12) fun v13 =>
  onBool v13
    (some (.ret (.bool false), m1))
    (k_l09_RelexRows_0 v0 v1 m1)) (fun u m1 => some (.pan u, m1)) := (aW_F (c := c_l09_RelexRows) (fn := Try.f8) (by kernel_rfl) (by kernel_rfl) (by kernel_rfl) _ m).trans (by kernel_rfl)
theorem k_l09_RelexRows_0_eq (v0 v1 : AV) (m : Mem) : k_l09_RelexRows_0 v0 v1 m =
  bnd (rLenStr v0) fun v15 =>
  bnd (aBin X.T .gtr T_int false true v15 (.int .i64 3000)) fun v16 =>
  onWant v16
    (k_l09_RelexRows_2 v0 v1 (.bool true) m)
    (bnd (rLenSl v1) fun v19 =>
  bnd (aBin X.T .gtr T_int false true v19 (.int .i64 30)) fun v20 =>
  k_l09_RelexRows_2 v0 v1 v20 m)
    (none) := by kernel_rfl
theorem k_l09_RelexRows_1_eq (v0 v1 : AV) (m : Mem) : k_l09_RelexRows_1 v0 v1 m =
  retK (w_lex_Lex v0 m) (fun v23 m1 =>
  l_l09_RelexRows_0 v0 v1 v23 (.int .i64 0) m1) (fun u m1 => some (.pan u, m1)) := by kernel_rfl
theorem k_l09_RelexRows_2_eq (v0 v1 v21 : AV) (m : Mem) : k_l09_RelexRows_2 v0 v1 v21 m =
  onBool v21
    (some (.ret (.bool true), m))
    (k_l09_RelexRows_1 v0 v1 m) := by kernel_rfl
theorem k_l09_RelexRows_3_eq (v0 v1 v5 v6 : AV) (m : Mem) : k_l09_RelexRows_3 v0 v1 v5 v6 m =
  some (.ret (.bool true), m) := by kernel_rfl
theorem l_l09_RelexRows_0_u (v0 v1 v5 v6 : AV) (m : Mem) : l_l09_RelexRows_0 v0 v1 v5 v6 m = loopK X F_l09_RelexRows 0 (sB (sB (sR (sL (sR (sR (sR (sR c_l09_RelexRows)))))))) B_l09_RelexRows_0 ⟨[v0, v1, Q, Q, Q, v5, v6, Q, Q, Q, Q, Q, Q, Q, Q, Q, Q, Q, Q, Q, Q, Q, Q, Q, Q, Q, Q, Q, Q, Q, Q, Q, Q, Q, Q, Q, Q, Q, Q, Q, Q, Q, Q, Q, Q, Q, Q, Q, Q, Q, Q, Q, Q, Q, Q, Q, Q, Q, Q, Q, Q, Q, Q, Q, Q, Q, Q, Q, Q, Q, Q, Q, Q, Q, Q, Q, Q, Q, Q, Q, Q, Q, Q, Q, Q, Q, Q, Q, Q, Q, Q, Q, Q, Q, Q, Q, Q, Q, Q, Q, Q, Q, Q, Q, Q, Q, Q, Q, Q, Q, Q, Q, Q, Q, Q, Q, Q, Q, Q, Q, Q, Q, Q, Q, Q], []⟩ m := by kernel_rfl
theorem l_l09_RelexRows_0_r (v0 v1 v5 v6 : AV) (m : Mem) : roundF X F_l09_RelexRows 0 (sB (sB (sR (sL (sR (sR (sR (sR c_l09_RelexRows)))))))) B_l09_RelexRows_0 [v0, v1, Q, Q, Q, v5, v6, Q, Q, Q, Q, Q, Q, Q, Q, Q, Q, Q, Q, Q, Q, Q, Q, Q, Q, Q, Q, Q, Q, Q, Q, Q, Q, Q, Q, Q, Q, Q, Q, Q, Q, Q, Q, Q, Q, Q, Q, Q, Q, Q, Q, Q, Q, Q, Q, Q, Q, Q, Q, Q, Q, Q, Q, Q, Q, Q, Q, Q, Q, Q, Q, Q, Q, Q, Q, Q, Q, Q, Q, Q, Q, Q, Q, Q, Q, Q, Q, Q, Q, Q, Q, Q, Q, Q, Q, Q, Q, Q, Q, Q, Q, Q, Q, Q, Q, Q, Q, Q, Q, Q, Q, Q, Q, Q, Q, Q, Q, Q, Q, Q, Q, Q, Q, Q, Q] m =
  bnd (rLenSl v1) fun v26 =>
  bnd (aBin X.T .lss T_int false false v6 v26) fun v27 =>
  onBool v27
    (k_l09_RelexRows_4 v0 v1 v5 v6 m)
    (k_l09_RelexRows_3 v0 v1 v5 v6 m) := by kernel_rfl
theorem l_l09_RelexRows_0_eq (v0 v1 v5 v6 : AV) (m : Mem) : l_l09_RelexRows_0 v0 v1 v5 v6 m =
  bnd (rLenSl v1) fun v26 =>
  bnd (aBin X.T .lss T_int false false v6 v26) fun v27 =>
  onBool v27
    (k_l09_RelexRows_4 v0 v1 v5 v6 m)
    (k_l09_RelexRows_3 v0 v1 v5 v6 m) := roundF_of (l_l09_RelexRows_0_u v0 v1 v5 v6 m) (l_l09_RelexRows_0_r v0 v1 v5 v6 m)
theorem k_l09_RelexRows_4_eq (v0 v1 v5 v6 : AV) (m : Mem) : k_l09_RelexRows_4 v0 v1 v5 v6 m =
  bnd (rIxAddrSl 3 v1 v6) fun v32 =>
  bnd (rLoad true 3 m v32) fun v33 =>
  memK (aBox m (.agg [.int .i64 0, .int .i64 0, .str (bs [])])) fun v7 m1 =>
  bnd (rStore 3 m1 v7 v33) fun m2 =>
  bnd (rFieldAddr 2 v7) fun v34 =>
  bnd (rLoad false 1 m2 v34) fun v35 =>
  bnd (rLenStr v35) fun v36 =>
  bnd (aBin X.T .gtr T_int false true v36 (.int .i64 300)) fun v37 =>
  onBool v37
    (some (.ret (.bool true), m2))
    (k_l09_RelexRows_6 v0 v1 v5 v6 v7 m2) := by kernel_rfl
theorem k_l09_RelexRows_5_eq (v0 v1 v5 v6 : AV) (m : Mem) : k_l09_RelexRows_5 v0 v1 v5 v6 m =
  bnd (aBin X.T .add T_int false true v6 (.int .i64 1)) fun v29 =>
  l_l09_RelexRows_0 v0 v1 v5 v29 m := by kernel_rfl
theorem k_l09_RelexRows_6_eq (v0 v1 v5 v6 v7 : AV) (m : Mem) : k_l09_RelexRows_6 v0 v1 v5 v6 v7 m =
  bnd (rFieldAddr 0 v7) fun v41 =>
  bnd (rLoad false 1 m v41) fun v42 =>
  bnd (rFieldAddr 1 v7) fun v43 =>
  bnd (rLoad false 1 m v43) fun v44 =>
  bnd (rFieldAddr 2 v7) fun v45 =>
  bnd (rLoad false 1 m v45) fun v46 =>
  retK (w_relex_Relex v0 v5 v42 v44 v46 m) (fun v47 m1 =>
  bnd (aExtract v47 0) fun v48 =>
  bnd (aExtract v47 1) fun v49 =>
  bnd (aExtract v47 2) fun v50 =>
  bnd (aExtract v47 3) fun v51 =>
  bnd (aBin X.T .neq T_api_Errno false true v51 (.int .i64 0)) fun v53 =>
  onBool v53
    (bnd (aBin X.T .neq T_api_Errno false true v51 (.int .i64 70)) fun v55 =>
    onWant v55
      (k_l09_RelexRows_8 v0 v1 v5 v6 (.bool true) m1)
      (bnd (rFieldAddr 0 v7) fun v57 =>
    bnd (rLoad false 1 m1 v57) fun v58 =>
    bnd (aBin X.T .geq T_int false true v58 (.int .i64 0)) fun v59 =>
    onWant v59
      (bnd (rFieldAddr 0 v7) fun v61 =>
    bnd (rLoad false 1 m1 v61) fun v62 =>
    bnd (rFieldAddr 1 v7) fun v63 =>
    bnd (rLoad false 1 m1 v63) fun v64 =>
    bnd (aBin X.T .leq T_int false false v62 v64) fun v65 =>
    onWant v65
      (bnd (rFieldAddr 1 v7) fun v68 =>
    bnd (rLoad false 1 m1 v68) fun v69 =>
    bnd (rLenStr v0) fun v71 =>
    bnd (aBin X.T .leq T_int false false v69 v71) fun v72 =>
    k_l09_RelexRows_8 v0 v1 v5 v6 v72 m1)
      (k_l09_RelexRows_8 v0 v1 v5 v6 (.bool false) m1)
      (none))
      (k_l09_RelexRows_8 v0 v1 v5 v6 (.bool false) m1)
      (none))
      (none))
    (k_l09_RelexRows_7 v0 v1 v5 v6 v7 v48 v49 v50 v51 m1)) (fun u m1 => some (.pan u, m1)) := by kernel_rfl
theorem k_l09_RelexRows_7_eq (v0 v1 v5 v6 v7 v8 v9 v10 v11 : AV) (m : Mem) : k_l09_RelexRows_7 v0 v1 v5 v6 v7 v8 v9 v10 v11 m =
  bnd (aBin X.T .lss T_int false true v9 (.int .i64 0)) fun v76 =>
  onWant v76
    (k_l09_RelexRows_10 v0 v1 v6 v7 v8 (.bool true) m)
    (bnd (aBin X.T .lss T_int false true v10 (.int .i64 0)) fun v79 =>
  onWant v79
    (k_l09_RelexRows_10 v0 v1 v6 v7 v8 (.bool true) m)
    (bnd (aBin X.T .add T_int false false v9 v10) fun v84 =>
  bnd (rLenSl v5) fun v86 =>
  bnd (aBin X.T .gtr T_int false false v84 v86) fun v87 =>
  onWant v87
    (k_l09_RelexRows_10 v0 v1 v6 v7 v8 (.bool true) m)
    (bnd (aBin X.T .add T_int false false v9 v10) fun v92 =>
  bnd (rLenSl v8) fun v94 =>
  bnd (aBin X.T .gtr T_int false false v92 v94) fun v95 =>
  onWant v95
    (k_l09_RelexRows_10 v0 v1 v6 v7 v8 (.bool true) m)
    (bnd (rSliceSl 3 v8 none (some v9)) fun v100 =>
  bnd (rSliceSl 3 v5 none (some v9)) fun v103 =>
  retK (w_r00_SameTokens v100 v103 m) (fun v104 m1 =>
  bnd (aUn .not v104) fun v105 =>
  k_l09_RelexRows_10 v0 v1 v6 v7 v8 v105 m1) (fun u m1 => none))
    (none))
    (none))
    (none))
    (none) := by kernel_rfl
theorem k_l09_RelexRows_8_eq (v0 v1 v5 v6 v74 : AV) (m : Mem) : k_l09_RelexRows_8 v0 v1 v5 v6 v74 m =
  onBool v74
    (some (.ret (.bool false), m))
    (k_l09_RelexRows_5 v0 v1 v5 v6 m) := by kernel_rfl
theorem k_l09_RelexRows_9_eq (v0 v1 v6 v7 v8 : AV) (m : Mem) : k_l09_RelexRows_9 v0 v1 v6 v7 v8 m =
  bnd (rFieldAddr 0 v7) fun v108 =>
  bnd (rLoad false 1 m v108) fun v109 =>
  bnd (rSliceStr v0 none (some v109)) fun v110 =>
  bnd (rFieldAddr 2 v7) fun v111 =>
  bnd (rLoad false 1 m v111) fun v112 =>
  bnd (aBin X.T .add T_string false false v110 v112) fun v113 =>
  bnd (rFieldAddr 1 v7) fun v115 =>
  bnd (rLoad false 1 m v115) fun v116 =>
  bnd (rSliceStr v0 (some v116) none) fun v117 =>
  bnd (aBin X.T .add T_string false false v113 v117) fun v118 =>
  retK (w_lex_Lex v118 m) (fun v122 m1 =>
  retK (w_r00_SameTokens v8 v122 m1) (fun v123 m2 =>
  bnd (aUn .not v123) fun v124 =>
  onBool v124
    (some (.ret (.bool false), m2))
    (k_l09_RelexRows_5 v118 v1 v8 v6 m2)) (fun u m2 => some (.pan u, m2))) (fun u m1 => some (.pan u, m1)) := by kernel_rfl
theorem k_l09_RelexRows_10_eq (v0 v1 v6 v7 v8 v106 : AV) (m : Mem) : k_l09_RelexRows_10 v0 v1 v6 v7 v8 v106 m =
  onBool v106
    (some (.ret (.bool false), m))
    (k_l09_RelexRows_9 v0 v1 v6 v7 v8 m) := by kernel_rfl

end Go.AM
