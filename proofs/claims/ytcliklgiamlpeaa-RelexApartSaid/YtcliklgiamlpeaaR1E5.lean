/-
  A part of the proof: equations or tables of the program over the abstract machine, printed by a program of this proof's own.
-/
import Derived.Test.YtcliklgiamlpeaaR1Ctx
namespace Go.AM
open Go.Proofs
set_option maxRecDepth 100000
set_option linter.unusedVariables false

/-! ### parlance/parlanceref09.Relex -/
noncomputable def c_r09_Relex : Code := bodyOf Try.f25
noncomputable def N_r09_Relex : AAct → Mem → Option (AOut × Mem) := finK X.T Try.f25.results.toList .normal
noncomputable def P_r09_Relex : AExit → AAct → Mem → Option (AOut × Mem) := finK X.T Try.f25.results.toList
noncomputable def K_r09_Relex_0 : AAct → Mem → Option (AOut × Mem) := execF X F_r09_Relex 0 (sR (sR c_r09_Relex)) N_r09_Relex P_r09_Relex
noncomputable def K_r09_Relex_1 : AAct → Mem → Option (AOut × Mem) := execF X F_r09_Relex 0 (sR (sL (sR c_r09_Relex))) K_r09_Relex_0 P_r09_Relex
noncomputable def K_r09_Relex_2 : AAct → Mem → Option (AOut × Mem) := execF X F_r09_Relex 0 (sR (sR (sR (sR (sR c_r09_Relex))))) N_r09_Relex P_r09_Relex
noncomputable def B_r09_Relex_0 : AExit → AAct → Mem → Option (AOut × Mem) := blockX 0 K_r09_Relex_2 P_r09_Relex
noncomputable def L_r09_Relex_0 : AAct → Mem → Option (AOut × Mem) := fun a m => killF (X.lk F_r09_Relex 0) a.tmps fun l => loopK X F_r09_Relex 0 (sB (sB (sL (sR (sR (sR (sR c_r09_Relex))))))) B_r09_Relex_0 ⟨l, a.defers⟩ m
noncomputable def K_r09_Relex_3 : AAct → Mem → Option (AOut × Mem) := execF X F_r09_Relex 0 (sR (sR (sR (sR (sR (sR (sR (sR c_r09_Relex)))))))) N_r09_Relex P_r09_Relex
noncomputable def B_r09_Relex_2 : AExit → AAct → Mem → Option (AOut × Mem) := blockX 2 K_r09_Relex_3 P_r09_Relex
noncomputable def L_r09_Relex_2 : AAct → Mem → Option (AOut × Mem) := fun a m => killF (X.lk F_r09_Relex 2) a.tmps fun l => loopK X F_r09_Relex 2 (sB (sB (sL (sR (sR (sR (sR (sR (sR (sR c_r09_Relex)))))))))) B_r09_Relex_2 ⟨l, a.defers⟩ m
noncomputable def K_r09_Relex_4 : AAct → Mem → Option (AOut × Mem) := execF X F_r09_Relex 0 (sR (sB (sB (sL (sR (sR (sR (sR c_r09_Relex)))))))) L_r09_Relex_0 B_r09_Relex_0
noncomputable def K_r09_Relex_5 : AAct → Mem → Option (AOut × Mem) := execF X F_r09_Relex 0 (sR (sL (sB (sB (sL (sR (sR (sR (sR c_r09_Relex))))))))) K_r09_Relex_4 B_r09_Relex_0
noncomputable def K_r09_Relex_6 : AAct → Mem → Option (AOut × Mem) := execF X F_r09_Relex 2 (sR (sB (sB (sL (sR (sR (sR (sR (sR (sR (sR c_r09_Relex))))))))))) L_r09_Relex_2 B_r09_Relex_2
noncomputable def K_r09_Relex_7 : AAct → Mem → Option (AOut × Mem) := execF X F_r09_Relex 2 (sR (sL (sB (sB (sL (sR (sR (sR (sR (sR (sR (sR c_r09_Relex)))))))))))) K_r09_Relex_6 B_r09_Relex_2
noncomputable def B_r09_Relex_1 : AExit → AAct → Mem → Option (AOut × Mem) := blockX 1 L_r09_Relex_0 B_r09_Relex_0
noncomputable def B_r09_Relex_3 : AExit → AAct → Mem → Option (AOut × Mem) := blockX 3 L_r09_Relex_2 B_r09_Relex_2
noncomputable def K_r09_Relex_8 : AAct → Mem → Option (AOut × Mem) := execF X F_r09_Relex 3 (sR (sR (sR (sB (sR (sB (sB (sL (sR (sR (sR (sR (sR (sR (sR c_r09_Relex))))))))))))))) L_r09_Relex_2 B_r09_Relex_3
noncomputable def K_r09_Relex_9 : AAct → Mem → Option (AOut × Mem) := execF X F_r09_Relex 3 (sR (sL (sR (sR (sB (sR (sB (sB (sL (sR (sR (sR (sR (sR (sR (sR c_r09_Relex)))))))))))))))) K_r09_Relex_8 B_r09_Relex_3
noncomputable def k_r09_Relex_0 (v0 v1 v2 v3 v4 : AV) (m : Mem) : Option (AOut × Mem) := K_r09_Relex_0 ⟨[v0, v1, v2, v3, v4, Q, Q, Q, Q, Q, Q, Q, Q, Q, Q, Q, Q, Q, Q, Q, Q, Q, Q, Q, Q, Q, Q, Q, Q, Q, Q, Q, Q, Q, Q, Q, Q, Q, Q, Q, Q, Q, Q, Q, Q, Q, Q, Q, Q, Q, Q, Q, Q, Q, Q, Q, Q, Q, Q, Q, Q, Q, Q, Q, Q, Q, Q, Q, Q, Q, Q, Q, Q, Q, Q, Q, Q, Q, Q, Q, Q, Q, Q, Q, Q, Q, Q, Q, Q, Q, Q, Q, Q, Q, Q, Q, Q, Q, Q, Q, Q, Q, Q, Q, Q, Q, Q, Q, Q, Q, Q, Q, Q, Q, Q, Q, Q, Q, Q, Q, Q, Q, Q, Q, Q, Q, Q, Q, Q], []⟩ m
noncomputable def k_r09_Relex_1 (v0 v1 v2 v3 v4 v32 : AV) (m : Mem) : Option (AOut × Mem) := K_r09_Relex_1 ⟨[v0, v1, v2, v3, v4, Q, Q, Q, Q, Q, Q, Q, Q, Q, Q, Q, Q, Q, Q, Q, Q, Q, Q, Q, Q, Q, Q, Q, Q, Q, Q, Q, v32, Q, Q, Q, Q, Q, Q, Q, Q, Q, Q, Q, Q, Q, Q, Q, Q, Q, Q, Q, Q, Q, Q, Q, Q, Q, Q, Q, Q, Q, Q, Q, Q, Q, Q, Q, Q, Q, Q, Q, Q, Q, Q, Q, Q, Q, Q, Q, Q, Q, Q, Q, Q, Q, Q, Q, Q, Q, Q, Q, Q, Q, Q, Q, Q, Q, Q, Q, Q, Q, Q, Q, Q, Q, Q, Q, Q, Q, Q, Q, Q, Q, Q, Q, Q, Q, Q, Q, Q, Q, Q, Q, Q, Q, Q, Q, Q], []⟩ m
noncomputable def k_r09_Relex_2 (v1 v2 v3 v4 v14 v15 : AV) (m : Mem) : Option (AOut × Mem) := K_r09_Relex_2 ⟨[Q, v1, v2, v3, v4, Q, Q, Q, Q, Q, Q, Q, Q, Q, v14, v15, Q, Q, Q, Q, Q, Q, Q, Q, Q, Q, Q, Q, Q, Q, Q, Q, Q, Q, Q, Q, Q, Q, Q, Q, Q, Q, Q, Q, Q, Q, Q, Q, Q, Q, Q, Q, Q, Q, Q, Q, Q, Q, Q, Q, Q, Q, Q, Q, Q, Q, Q, Q, Q, Q, Q, Q, Q, Q, Q, Q, Q, Q, Q, Q, Q, Q, Q, Q, Q, Q, Q, Q, Q, Q, Q, Q, Q, Q, Q, Q, Q, Q, Q, Q, Q, Q, Q, Q, Q, Q, Q, Q, Q, Q, Q, Q, Q, Q, Q, Q, Q, Q, Q, Q, Q, Q, Q, Q, Q, Q, Q, Q, Q], []⟩ m
noncomputable def l_r09_Relex_0 (v1 v2 v3 v4 v14 v15 : AV) (m : Mem) : Option (AOut × Mem) := L_r09_Relex_0 ⟨[Q, v1, v2, v3, v4, Q, Q, Q, Q, Q, Q, Q, Q, Q, v14, v15, Q, Q, Q, Q, Q, Q, Q, Q, Q, Q, Q, Q, Q, Q, Q, Q, Q, Q, Q, Q, Q, Q, Q, Q, Q, Q, Q, Q, Q, Q, Q, Q, Q, Q, Q, Q, Q, Q, Q, Q, Q, Q, Q, Q, Q, Q, Q, Q, Q, Q, Q, Q, Q, Q, Q, Q, Q, Q, Q, Q, Q, Q, Q, Q, Q, Q, Q, Q, Q, Q, Q, Q, Q, Q, Q, Q, Q, Q, Q, Q, Q, Q, Q, Q, Q, Q, Q, Q, Q, Q, Q, Q, Q, Q, Q, Q, Q, Q, Q, Q, Q, Q, Q, Q, Q, Q, Q, Q, Q, Q, Q, Q, Q], []⟩ m
noncomputable def k_r09_Relex_3 (v1 v3 v14 v15 v16 v17 : AV) (m : Mem) : Option (AOut × Mem) := K_r09_Relex_3 ⟨[Q, v1, Q, v3, Q, Q, Q, Q, Q, Q, Q, Q, Q, Q, v14, v15, v16, v17, Q, Q, Q, Q, Q, Q, Q, Q, Q, Q, Q, Q, Q, Q, Q, Q, Q, Q, Q, Q, Q, Q, Q, Q, Q, Q, Q, Q, Q, Q, Q, Q, Q, Q, Q, Q, Q, Q, Q, Q, Q, Q, Q, Q, Q, Q, Q, Q, Q, Q, Q, Q, Q, Q, Q, Q, Q, Q, Q, Q, Q, Q, Q, Q, Q, Q, Q, Q, Q, Q, Q, Q, Q, Q, Q, Q, Q, Q, Q, Q, Q, Q, Q, Q, Q, Q, Q, Q, Q, Q, Q, Q, Q, Q, Q, Q, Q, Q, Q, Q, Q, Q, Q, Q, Q, Q, Q, Q, Q, Q, Q], []⟩ m
noncomputable def l_r09_Relex_2 (v1 v3 v14 v15 v16 v17 : AV) (m : Mem) : Option (AOut × Mem) := L_r09_Relex_2 ⟨[Q, v1, Q, v3, Q, Q, Q, Q, Q, Q, Q, Q, Q, Q, v14, v15, v16, v17, Q, Q, Q, Q, Q, Q, Q, Q, Q, Q, Q, Q, Q, Q, Q, Q, Q, Q, Q, Q, Q, Q, Q, Q, Q, Q, Q, Q, Q, Q, Q, Q, Q, Q, Q, Q, Q, Q, Q, Q, Q, Q, Q, Q, Q, Q, Q, Q, Q, Q, Q, Q, Q, Q, Q, Q, Q, Q, Q, Q, Q, Q, Q, Q, Q, Q, Q, Q, Q, Q, Q, Q, Q, Q, Q, Q, Q, Q, Q, Q, Q, Q, Q, Q, Q, Q, Q, Q, Q, Q, Q, Q, Q, Q, Q, Q, Q, Q, Q, Q, Q, Q, Q, Q, Q, Q, Q, Q, Q, Q, Q], []⟩ m
noncomputable def k_r09_Relex_4 (v1 v2 v3 v4 v14 v15 : AV) (m : Mem) : Option (AOut × Mem) := K_r09_Relex_4 ⟨[Q, v1, v2, v3, v4, Q, Q, Q, Q, Q, Q, Q, Q, Q, v14, v15, Q, Q, Q, Q, Q, Q, Q, Q, Q, Q, Q, Q, Q, Q, Q, Q, Q, Q, Q, Q, Q, Q, Q, Q, Q, Q, Q, Q, Q, Q, Q, Q, Q, Q, Q, Q, Q, Q, Q, Q, Q, Q, Q, Q, Q, Q, Q, Q, Q, Q, Q, Q, Q, Q, Q, Q, Q, Q, Q, Q, Q, Q, Q, Q, Q, Q, Q, Q, Q, Q, Q, Q, Q, Q, Q, Q, Q, Q, Q, Q, Q, Q, Q, Q, Q, Q, Q, Q, Q, Q, Q, Q, Q, Q, Q, Q, Q, Q, Q, Q, Q, Q, Q, Q, Q, Q, Q, Q, Q, Q, Q, Q, Q], []⟩ m
noncomputable def k_r09_Relex_5 (v1 v2 v3 v4 v14 v15 v56 : AV) (m : Mem) : Option (AOut × Mem) := K_r09_Relex_5 ⟨[Q, v1, v2, v3, v4, Q, Q, Q, Q, Q, Q, Q, Q, Q, v14, v15, Q, Q, Q, Q, Q, Q, Q, Q, Q, Q, Q, Q, Q, Q, Q, Q, Q, Q, Q, Q, Q, Q, Q, Q, Q, Q, Q, Q, Q, Q, Q, Q, Q, Q, Q, Q, Q, Q, Q, Q, v56, Q, Q, Q, Q, Q, Q, Q, Q, Q, Q, Q, Q, Q, Q, Q, Q, Q, Q, Q, Q, Q, Q, Q, Q, Q, Q, Q, Q, Q, Q, Q, Q, Q, Q, Q, Q, Q, Q, Q, Q, Q, Q, Q, Q, Q, Q, Q, Q, Q, Q, Q, Q, Q, Q, Q, Q, Q, Q, Q, Q, Q, Q, Q, Q, Q, Q, Q, Q, Q, Q, Q, Q], []⟩ m
noncomputable def k_r09_Relex_6 (v1 v3 v14 v15 v16 v17 : AV) (m : Mem) : Option (AOut × Mem) := K_r09_Relex_6 ⟨[Q, v1, Q, v3, Q, Q, Q, Q, Q, Q, Q, Q, Q, Q, v14, v15, v16, v17, Q, Q, Q, Q, Q, Q, Q, Q, Q, Q, Q, Q, Q, Q, Q, Q, Q, Q, Q, Q, Q, Q, Q, Q, Q, Q, Q, Q, Q, Q, Q, Q, Q, Q, Q, Q, Q, Q, Q, Q, Q, Q, Q, Q, Q, Q, Q, Q, Q, Q, Q, Q, Q, Q, Q, Q, Q, Q, Q, Q, Q, Q, Q, Q, Q, Q, Q, Q, Q, Q, Q, Q, Q, Q, Q, Q, Q, Q, Q, Q, Q, Q, Q, Q, Q, Q, Q, Q, Q, Q, Q, Q, Q, Q, Q, Q, Q, Q, Q, Q, Q, Q, Q, Q, Q, Q, Q, Q, Q, Q, Q], []⟩ m
noncomputable def k_r09_Relex_7 (v1 v3 v14 v15 v16 v17 v78 : AV) (m : Mem) : Option (AOut × Mem) := K_r09_Relex_7 ⟨[Q, v1, Q, v3, Q, Q, Q, Q, Q, Q, Q, Q, Q, Q, v14, v15, v16, v17, Q, Q, Q, Q, Q, Q, Q, Q, Q, Q, Q, Q, Q, Q, Q, Q, Q, Q, Q, Q, Q, Q, Q, Q, Q, Q, Q, Q, Q, Q, Q, Q, Q, Q, Q, Q, Q, Q, Q, Q, Q, Q, Q, Q, Q, Q, Q, Q, Q, Q, Q, Q, Q, Q, Q, Q, Q, Q, Q, Q, v78, Q, Q, Q, Q, Q, Q, Q, Q, Q, Q, Q, Q, Q, Q, Q, Q, Q, Q, Q, Q, Q, Q, Q, Q, Q, Q, Q, Q, Q, Q, Q, Q, Q, Q, Q, Q, Q, Q, Q, Q, Q, Q, Q, Q, Q, Q, Q, Q, Q, Q], []⟩ m
noncomputable def k_r09_Relex_8 (v1 v3 v14 v15 v16 v17 : AV) (m : Mem) : Option (AOut × Mem) := K_r09_Relex_8 ⟨[Q, v1, Q, v3, Q, Q, Q, Q, Q, Q, Q, Q, Q, Q, v14, v15, v16, v17, Q, Q, Q, Q, Q, Q, Q, Q, Q, Q, Q, Q, Q, Q, Q, Q, Q, Q, Q, Q, Q, Q, Q, Q, Q, Q, Q, Q, Q, Q, Q, Q, Q, Q, Q, Q, Q, Q, Q, Q, Q, Q, Q, Q, Q, Q, Q, Q, Q, Q, Q, Q, Q, Q, Q, Q, Q, Q, Q, Q, Q, Q, Q, Q, Q, Q, Q, Q, Q, Q, Q, Q, Q, Q, Q, Q, Q, Q, Q, Q, Q, Q, Q, Q, Q, Q, Q, Q, Q, Q, Q, Q, Q, Q, Q, Q, Q, Q, Q, Q, Q, Q, Q, Q, Q, Q, Q, Q, Q, Q, Q], []⟩ m
noncomputable def k_r09_Relex_9 (v1 v3 v14 v15 v16 v17 v123 : AV) (m : Mem) : Option (AOut × Mem) := K_r09_Relex_9 ⟨[Q, v1, Q, v3, Q, Q, Q, Q, Q, Q, Q, Q, Q, Q, v14, v15, v16, v17, Q, Q, Q, Q, Q, Q, Q, Q, Q, Q, Q, Q, Q, Q, Q, Q, Q, Q, Q, Q, Q, Q, Q, Q, Q, Q, Q, Q, Q, Q, Q, Q, Q, Q, Q, Q, Q, Q, Q, Q, Q, Q, Q, Q, Q, Q, Q, Q, Q, Q, Q, Q, Q, Q, Q, Q, Q, Q, Q, Q, Q, Q, Q, Q, Q, Q, Q, Q, Q, Q, Q, Q, Q, Q, Q, Q, Q, Q, Q, Q, Q, Q, Q, Q, Q, Q, Q, Q, Q, Q, Q, Q, Q, Q, Q, Q, Q, Q, Q, Q, Q, Q, Q, Q, Q, v123, Q, Q, Q, Q, Q], []⟩ m
theorem e_r09_Relex (v0 v1 v2 v3 v4 : AV) (m : Mem) : w_r09_Relex v0 v1 v2 v3 v4 m =
  bnd (aBin X.T .lss T_int false true v2 (.int .i64 0)) fun v21 =>
  onWant v21
    (k_r09_Relex_1 v0 v1 v2 v3 v4 (.bool true) m)
    (bnd (aBin X.T .gtr T_int false false v2 v3) fun v25 =>
  onWant v25
    (k_r09_Relex_1 v0 v1 v2 v3 v4 (.bool true) m)
    (bnd (rLenStr v0) fun v30 =>
  bnd (aBin X.T .gtr T_int false false v3 v30) fun v31 =>
  k_r09_Relex_1 v0 v1 v2 v3 v4 v31 m)
    (none))
    (none) := (aW_F (c := c_r09_Relex) (fn := Try.f25) (by kernel_rfl) (by kernel_rfl) (by kernel_rfl) _ m).trans (by kernel_rfl)
theorem k_r09_Relex_0_eq (v0 v1 v2 v3 v4 : AV) (m : Mem) : k_r09_Relex_0 v0 v1 v2 v3 v4 m =
  bnd (rSliceStr v0 none (some v2)) fun v35 =>
  bnd (aBin X.T .add T_string false false v35 v4) fun v37 =>
  bnd (rSliceStr v0 (some v3) none) fun v40 =>
  bnd (aBin X.T .add T_string false false v37 v40) fun v41 =>
  retK (w_r08_Lex v41 m) (fun v42 m1 =>
  l_r09_Relex_0 v1 v2 v3 v4 v42 (.int .i64 0) m1) (fun u m1 => none) := by kernel_rfl
theorem k_r09_Relex_1_eq (v0 v1 v2 v3 v4 v32 : AV) (m : Mem) : k_r09_Relex_1 v0 v1 v2 v3 v4 v32 m =
  onBool v32
    (some (.ret (.tup [.nils, (.int .i64 0), (.int .i64 0), (.int .i64 70)]), m))
    (k_r09_Relex_0 v0 v1 v2 v3 v4 m) := by kernel_rfl
theorem k_r09_Relex_2_eq (v1 v2 v3 v4 v14 v15 : AV) (m : Mem) : k_r09_Relex_2 v1 v2 v3 v4 v14 v15 m =
  bnd (rLenStr v4) fun v60 =>
  bnd (aBin X.T .sub T_int false false v3 v2) fun v63 =>
  bnd (aBin X.T .sub T_int false false v60 v63) fun v64 =>
  l_r09_Relex_2 v1 v3 v14 v15 v64 (.int .i64 0) m := by kernel_rfl
theorem l_r09_Relex_0_u (v1 v2 v3 v4 v14 v15 : AV) (m : Mem) : l_r09_Relex_0 v1 v2 v3 v4 v14 v15 m = loopK X F_r09_Relex 0 (sB (sB (sL (sR (sR (sR (sR c_r09_Relex))))))) B_r09_Relex_0 ⟨[Q, v1, v2, v3, v4, Q, Q, Q, Q, Q, Q, Q, Q, Q, v14, v15, Q, Q, Q, Q, Q, Q, Q, Q, Q, Q, Q, Q, Q, Q, Q, Q, Q, Q, Q, Q, Q, Q, Q, Q, Q, Q, Q, Q, Q, Q, Q, Q, Q, Q, Q, Q, Q, Q, Q, Q, Q, Q, Q, Q, Q, Q, Q, Q, Q, Q, Q, Q, Q, Q, Q, Q, Q, Q, Q, Q, Q, Q, Q, Q, Q, Q, Q, Q, Q, Q, Q, Q, Q, Q, Q, Q, Q, Q, Q, Q, Q, Q, Q, Q, Q, Q, Q, Q, Q, Q, Q, Q, Q, Q, Q, Q, Q, Q, Q, Q, Q, Q, Q, Q, Q, Q, Q, Q, Q, Q, Q, Q, Q], []⟩ m := by kernel_rfl
theorem l_r09_Relex_0_r (v1 v2 v3 v4 v14 v15 : AV) (m : Mem) : roundF X F_r09_Relex 0 (sB (sB (sL (sR (sR (sR (sR c_r09_Relex))))))) B_r09_Relex_0 [Q, v1, v2, v3, v4, Q, Q, Q, Q, Q, Q, Q, Q, Q, v14, v15, Q, Q, Q, Q, Q, Q, Q, Q, Q, Q, Q, Q, Q, Q, Q, Q, Q, Q, Q, Q, Q, Q, Q, Q, Q, Q, Q, Q, Q, Q, Q, Q, Q, Q, Q, Q, Q, Q, Q, Q, Q, Q, Q, Q, Q, Q, Q, Q, Q, Q, Q, Q, Q, Q, Q, Q, Q, Q, Q, Q, Q, Q, Q, Q, Q, Q, Q, Q, Q, Q, Q, Q, Q, Q, Q, Q, Q, Q, Q, Q, Q, Q, Q, Q, Q, Q, Q, Q, Q, Q, Q, Q, Q, Q, Q, Q, Q, Q, Q, Q, Q, Q, Q, Q, Q, Q, Q, Q, Q, Q, Q, Q, Q] m =
  bnd (rLenSl v1) fun v45 =>
  bnd (aBin X.T .lss T_int false false v15 v45) fun v46 =>
  onWant v46
    (bnd (rIxAddrSl 3 v1 v15) fun v50 =>
  bnd (rFieldAddr 2 v50) fun v51 =>
  bnd (rLoad false 1 m v51) fun v52 =>
  bnd (aBin X.T .sub T_int false true v2 (.int .i64 1)) fun v54 =>
  bnd (aBin X.T .lss T_int false false v52 v54) fun v55 =>
  k_r09_Relex_5 v1 v2 v3 v4 v14 v15 v55 m)
    (k_r09_Relex_5 v1 v2 v3 v4 v14 v15 (.bool false) m)
    (none) := by kernel_rfl
theorem l_r09_Relex_0_eq (v1 v2 v3 v4 v14 v15 : AV) (m : Mem) : l_r09_Relex_0 v1 v2 v3 v4 v14 v15 m =
  bnd (rLenSl v1) fun v45 =>
  bnd (aBin X.T .lss T_int false false v15 v45) fun v46 =>
  onWant v46
    (bnd (rIxAddrSl 3 v1 v15) fun v50 =>
  bnd (rFieldAddr 2 v50) fun v51 =>
  bnd (rLoad false 1 m v51) fun v52 =>
  bnd (aBin X.T .sub T_int false true v2 (.int .i64 1)) fun v54 =>
  bnd (aBin X.T .lss T_int false false v52 v54) fun v55 =>
  k_r09_Relex_5 v1 v2 v3 v4 v14 v15 v55 m)
    (k_r09_Relex_5 v1 v2 v3 v4 v14 v15 (.bool false) m)
    (none) := roundF_of (l_r09_Relex_0_u v1 v2 v3 v4 v14 v15 m) (l_r09_Relex_0_r v1 v2 v3 v4 v14 v15 m)
theorem k_r09_Relex_3_eq (v1 v3 v14 v15 v16 v17 : AV) (m : Mem) : k_r09_Relex_3 v1 v3 v14 v15 v16 v17 m =
  some (.ret (.tup [v14, v15, v17, (.int .i64 0)]), m) := by kernel_rfl
theorem l_r09_Relex_2_u (v1 v3 v14 v15 v16 v17 : AV) (m : Mem) : l_r09_Relex_2 v1 v3 v14 v15 v16 v17 m = loopK X F_r09_Relex 2 (sB (sB (sL (sR (sR (sR (sR (sR (sR (sR c_r09_Relex)))))))))) B_r09_Relex_2 ⟨[Q, v1, Q, v3, Q, Q, Q, Q, Q, Q, Q, Q, Q, Q, v14, v15, v16, v17, Q, Q, Q, Q, Q, Q, Q, Q, Q, Q, Q, Q, Q, Q, Q, Q, Q, Q, Q, Q, Q, Q, Q, Q, Q, Q, Q, Q, Q, Q, Q, Q, Q, Q, Q, Q, Q, Q, Q, Q, Q, Q, Q, Q, Q, Q, Q, Q, Q, Q, Q, Q, Q, Q, Q, Q, Q, Q, Q, Q, Q, Q, Q, Q, Q, Q, Q, Q, Q, Q, Q, Q, Q, Q, Q, Q, Q, Q, Q, Q, Q, Q, Q, Q, Q, Q, Q, Q, Q, Q, Q, Q, Q, Q, Q, Q, Q, Q, Q, Q, Q, Q, Q, Q, Q, Q, Q, Q, Q, Q, Q], []⟩ m := by kernel_rfl
theorem l_r09_Relex_2_r (v1 v3 v14 v15 v16 v17 : AV) (m : Mem) : roundF X F_r09_Relex 2 (sB (sB (sL (sR (sR (sR (sR (sR (sR (sR c_r09_Relex)))))))))) B_r09_Relex_2 [Q, v1, Q, v3, Q, Q, Q, Q, Q, Q, Q, Q, Q, Q, v14, v15, v16, v17, Q, Q, Q, Q, Q, Q, Q, Q, Q, Q, Q, Q, Q, Q, Q, Q, Q, Q, Q, Q, Q, Q, Q, Q, Q, Q, Q, Q, Q, Q, Q, Q, Q, Q, Q, Q, Q, Q, Q, Q, Q, Q, Q, Q, Q, Q, Q, Q, Q, Q, Q, Q, Q, Q, Q, Q, Q, Q, Q, Q, Q, Q, Q, Q, Q, Q, Q, Q, Q, Q, Q, Q, Q, Q, Q, Q, Q, Q, Q, Q, Q, Q, Q, Q, Q, Q, Q, Q, Q, Q, Q, Q, Q, Q, Q, Q, Q, Q, Q, Q, Q, Q, Q, Q, Q, Q, Q, Q, Q, Q, Q] m =
  bnd (rLenSl v1) fun v67 =>
  bnd (aBin X.T .sub T_int false false v67 v15) fun v69 =>
  bnd (aBin X.T .lss T_int false false v17 v69) fun v70 =>
  onWant v70
    (bnd (rLenSl v14) fun v74 =>
  bnd (aBin X.T .sub T_int false false v74 v15) fun v76 =>
  bnd (aBin X.T .lss T_int false false v17 v76) fun v77 =>
  k_r09_Relex_7 v1 v3 v14 v15 v16 v17 v77 m)
    (k_r09_Relex_7 v1 v3 v14 v15 v16 v17 (.bool false) m)
    (none) := by kernel_rfl
theorem l_r09_Relex_2_eq (v1 v3 v14 v15 v16 v17 : AV) (m : Mem) : l_r09_Relex_2 v1 v3 v14 v15 v16 v17 m =
  bnd (rLenSl v1) fun v67 =>
  bnd (aBin X.T .sub T_int false false v67 v15) fun v69 =>
  bnd (aBin X.T .lss T_int false false v17 v69) fun v70 =>
  onWant v70
    (bnd (rLenSl v14) fun v74 =>
  bnd (aBin X.T .sub T_int false false v74 v15) fun v76 =>
  bnd (aBin X.T .lss T_int false false v17 v76) fun v77 =>
  k_r09_Relex_7 v1 v3 v14 v15 v16 v17 v77 m)
    (k_r09_Relex_7 v1 v3 v14 v15 v16 v17 (.bool false) m)
    (none) := roundF_of (l_r09_Relex_2_u v1 v3 v14 v15 v16 v17 m) (l_r09_Relex_2_r v1 v3 v14 v15 v16 v17 m)
theorem k_r09_Relex_4_eq (v1 v2 v3 v4 v14 v15 : AV) (m : Mem) : k_r09_Relex_4 v1 v2 v3 v4 v14 v15 m =
  bnd (aBin X.T .add T_int false true v15 (.int .i64 1)) fun v58 =>
  l_r09_Relex_0 v1 v2 v3 v4 v14 v58 m := by kernel_rfl
theorem k_r09_Relex_5_eq (v1 v2 v3 v4 v14 v15 v56 : AV) (m : Mem) : k_r09_Relex_5 v1 v2 v3 v4 v14 v15 v56 m =
  onBool v56
    (k_r09_Relex_4 v1 v2 v3 v4 v14 v15 m)
    (k_r09_Relex_2 v1 v2 v3 v4 v14 v15 m) := by kernel_rfl
theorem k_r09_Relex_6_eq (v1 v3 v14 v15 v16 v17 : AV) (m : Mem) : k_r09_Relex_6 v1 v3 v14 v15 v16 v17 m =
  bnd (rLenSl v1) fun v81 =>
  bnd (aBin X.T .sub T_int false true v81 (.int .i64 1)) fun v82 =>
  bnd (aBin X.T .sub T_int false false v82 v17) fun v84 =>
  bnd (rIxAddrSl 3 v1 v84) fun v85 =>
  bnd (rLoad true 3 m v85) fun v86 =>
  memK (aBox m (.agg [.int .i64 0, .int .i64 0, .int .i64 0])) fun v18 m1 =>
  bnd (rStore 3 m1 v18 v86) fun m2 =>
  bnd (rLenSl v14) fun v89 =>
  bnd (aBin X.T .sub T_int false true v89 (.int .i64 1)) fun v90 =>
  bnd (aBin X.T .sub T_int false false v90 v17) fun v92 =>
  bnd (rIxAddrSl 3 v14 v92) fun v93 =>
  bnd (rLoad true 3 m2 v93) fun v94 =>
  memK (aBox m2 (.agg [.int .i64 0, .int .i64 0, .int .i64 0])) fun v19 m3 =>
  bnd (rStore 3 m3 v19 v94) fun m4 =>
  bnd (rFieldAddr 1 v18) fun v95 =>
  bnd (rLoad false 1 m4 v95) fun v96 =>
  bnd (aBin X.T .lss T_int false false v96 v3) fun v98 =>
  onWant v98
    (k_r09_Relex_9 v1 v3 v14 v15 v16 v17 (.bool true) m4)
    (bnd (rFieldAddr 0 v18) fun v100 =>
  bnd (rLoad false 1 m4 v100) fun v101 =>
  bnd (rFieldAddr 0 v19) fun v102 =>
  bnd (rLoad false 1 m4 v102) fun v103 =>
  bnd (aBin X.T .neq T_int false false v101 v103) fun v104 =>
  onWant v104
    (k_r09_Relex_9 v1 v3 v14 v15 v16 v17 (.bool true) m4)
    (bnd (rFieldAddr 1 v18) fun v107 =>
  bnd (rLoad false 1 m4 v107) fun v108 =>
  bnd (aBin X.T .add T_int false false v108 v16) fun v110 =>
  bnd (rFieldAddr 1 v19) fun v111 =>
  bnd (rLoad false 1 m4 v111) fun v112 =>
  bnd (aBin X.T .neq T_int false false v110 v112) fun v113 =>
  onWant v113
    (k_r09_Relex_9 v1 v3 v14 v15 v16 v17 (.bool true) m4)
    (bnd (rFieldAddr 2 v18) fun v116 =>
  bnd (rLoad false 1 m4 v116) fun v117 =>
  bnd (aBin X.T .add T_int false false v117 v16) fun v119 =>
  bnd (rFieldAddr 2 v19) fun v120 =>
  bnd (rLoad false 1 m4 v120) fun v121 =>
  bnd (aBin X.T .neq T_int false false v119 v121) fun v122 =>
  k_r09_Relex_9 v1 v3 v14 v15 v16 v17 v122 m4)
    (none))
    (none))
    (none) := by kernel_rfl
theorem k_r09_Relex_7_eq (v1 v3 v14 v15 v16 v17 v78 : AV) (m : Mem) : k_r09_Relex_7 v1 v3 v14 v15 v16 v17 v78 m =
  onBool v78
    (k_r09_Relex_6 v1 v3 v14 v15 v16 v17 m)
    (k_r09_Relex_3 v1 v3 v14 v15 v16 v17 m) := by kernel_rfl
theorem k_r09_Relex_8_eq (v1 v3 v14 v15 v16 v17 : AV) (m : Mem) : k_r09_Relex_8 v1 v3 v14 v15 v16 v17 m =
  bnd (aBin X.T .add T_int false true v17 (.int .i64 1)) fun v125 =>
  l_r09_Relex_2 v1 v3 v14 v15 v16 v125 m := by kernel_rfl
theorem k_r09_Relex_9_eq (v1 v3 v14 v15 v16 v17 v123 : AV) (m : Mem) : k_r09_Relex_9 v1 v3 v14 v15 v16 v17 v123 m =
  onBool v123
    (k_r09_Relex_3 v1 v3 v14 v15 v16 v17 m)
    (k_r09_Relex_8 v1 v3 v14 v15 v16 v17 m) := by kernel_rfl

/-! ### parlance/parlancelaw09.sameSpans -/
noncomputable def c_l09_sameSpans : Code := bodyOf Try.f26
noncomputable def N_l09_sameSpans : AAct → Mem → Option (AOut × Mem) := finK X.T Try.f26.results.toList .normal
noncomputable def P_l09_sameSpans : AExit → AAct → Mem → Option (AOut × Mem) := finK X.T Try.f26.results.toList
noncomputable def K_l09_sameSpans_0 : AAct → Mem → Option (AOut × Mem) := execF X F_l09_sameSpans 0 (sR (sR c_l09_sameSpans)) N_l09_sameSpans P_l09_sameSpans
noncomputable def K_l09_sameSpans_1 : AAct → Mem → Option (AOut × Mem) := execF X F_l09_sameSpans 0 (sR (sR (sR c_l09_sameSpans))) N_l09_sameSpans P_l09_sameSpans
noncomputable def B_l09_sameSpans_0 : AExit → AAct → Mem → Option (AOut × Mem) := blockX 0 K_l09_sameSpans_1 P_l09_sameSpans
noncomputable def L_l09_sameSpans_0 : AAct → Mem → Option (AOut × Mem) := fun a m => killF (X.lk F_l09_sameSpans 0) a.tmps fun l => loopK X F_l09_sameSpans 0 (sB (sB (sR (sL (sR (sR c_l09_sameSpans)))))) B_l09_sameSpans_0 ⟨l, a.defers⟩ m
noncomputable def K_l09_sameSpans_2 : AAct → Mem → Option (AOut × Mem) := execF X F_l09_sameSpans 0 (sR (sB (sB (sR (sL (sR (sR c_l09_sameSpans))))))) L_l09_sameSpans_0 B_l09_sameSpans_0
noncomputable def K_l09_sameSpans_3 : AAct → Mem → Option (AOut × Mem) := execF X F_l09_sameSpans 0 (sR (sR (sB (sB (sR (sL (sR (sR c_l09_sameSpans)))))))) L_l09_sameSpans_0 B_l09_sameSpans_0
noncomputable def B_l09_sameSpans_1 : AExit → AAct → Mem → Option (AOut × Mem) := blockX 1 K_l09_sameSpans_3 B_l09_sameSpans_0
noncomputable def k_l09_sameSpans_0 (v0 v1 : AV) (m : Mem) : Option (AOut × Mem) := K_l09_sameSpans_0 ⟨[v0, v1, Q, Q, Q, Q, Q, Q, Q, Q, Q, Q, Q, Q, Q, Q, Q, Q, Q, Q, Q, Q, Q, Q, Q, Q], []⟩ m
noncomputable def k_l09_sameSpans_1 (v0 v1 v5 : AV) (m : Mem) : Option (AOut × Mem) := K_l09_sameSpans_1 ⟨[v0, v1, Q, Q, Q, v5, Q, Q, Q, Q, Q, Q, Q, Q, Q, Q, Q, Q, Q, Q, Q, Q, Q, Q, Q, Q], []⟩ m
noncomputable def l_l09_sameSpans_0 (v0 v1 v5 : AV) (m : Mem) : Option (AOut × Mem) := L_l09_sameSpans_0 ⟨[v0, v1, Q, Q, Q, v5, Q, Q, Q, Q, Q, Q, Q, Q, Q, Q, Q, Q, Q, Q, Q, Q, Q, Q, Q, Q], []⟩ m
noncomputable def k_l09_sameSpans_2 (v0 v1 v5 : AV) (m : Mem) : Option (AOut × Mem) := K_l09_sameSpans_2 ⟨[v0, v1, Q, Q, Q, v5, Q, Q, Q, Q, Q, Q, Q, Q, Q, Q, Q, Q, Q, Q, Q, Q, Q, Q, Q, Q], []⟩ m
noncomputable def k_l09_sameSpans_3 (v0 v1 v5 : AV) (m : Mem) : Option (AOut × Mem) := K_l09_sameSpans_3 ⟨[v0, v1, Q, Q, Q, v5, Q, Q, Q, Q, Q, Q, Q, Q, Q, Q, Q, Q, Q, Q, Q, Q, Q, Q, Q, Q], []⟩ m
theorem e_l09_sameSpans (v0 v1 : AV) (m : Mem) : w_l09_sameSpans v0 v1 m =
  bnd (rLenSl v0) fun v7 =>
  bnd (rLenSl v1) fun v9 =>
  bnd (aBin X.T .neq T_int false false v7 v9) fun v10 =>
  onBool v10
    (some (.ret (.bool false), m))
    (k_l09_sameSpans_0 v0 v1 m) := (aW_F (c := c_l09_sameSpans) (fn := Try.f26) (by kernel_rfl) (by kernel_rfl) (by kernel_rfl) _ m).trans (by kernel_rfl)
theorem k_l09_sameSpans_0_eq (v0 v1 : AV) (m : Mem) : k_l09_sameSpans_0 v0 v1 m =
  l_l09_sameSpans_0 v0 v1 (.int .i64 0) m := by kernel_rfl
theorem k_l09_sameSpans_1_eq (v0 v1 v5 : AV) (m : Mem) : k_l09_sameSpans_1 v0 v1 v5 m =
  some (.ret (.bool true), m) := by kernel_rfl
theorem l_l09_sameSpans_0_u (v0 v1 v5 : AV) (m : Mem) : l_l09_sameSpans_0 v0 v1 v5 m = loopK X F_l09_sameSpans 0 (sB (sB (sR (sL (sR (sR c_l09_sameSpans)))))) B_l09_sameSpans_0 ⟨[v0, v1, Q, Q, Q, v5, Q, Q, Q, Q, Q, Q, Q, Q, Q, Q, Q, Q, Q, Q, Q, Q, Q, Q, Q, Q], []⟩ m := by kernel_rfl
theorem l_l09_sameSpans_0_r (v0 v1 v5 : AV) (m : Mem) : roundF X F_l09_sameSpans 0 (sB (sB (sR (sL (sR (sR c_l09_sameSpans)))))) B_l09_sameSpans_0 [v0, v1, Q, Q, Q, v5, Q, Q, Q, Q, Q, Q, Q, Q, Q, Q, Q, Q, Q, Q, Q, Q, Q, Q, Q, Q] m =
  bnd (rLenSl v0) fun v13 =>
  bnd (aBin X.T .lss T_int false false v5 v13) fun v14 =>
  onBool v14
    (k_l09_sameSpans_2 v0 v1 v5 m)
    (k_l09_sameSpans_1 v0 v1 v5 m) := by kernel_rfl
theorem l_l09_sameSpans_0_eq (v0 v1 v5 : AV) (m : Mem) : l_l09_sameSpans_0 v0 v1 v5 m =
  bnd (rLenSl v0) fun v13 =>
  bnd (aBin X.T .lss T_int false false v5 v13) fun v14 =>
  onBool v14
    (k_l09_sameSpans_2 v0 v1 v5 m)
    (k_l09_sameSpans_1 v0 v1 v5 m) := roundF_of (l_l09_sameSpans_0_u v0 v1 v5 m) (l_l09_sameSpans_0_r v0 v1 v5 m)
theorem k_l09_sameSpans_2_eq (v0 v1 v5 : AV) (m : Mem) : k_l09_sameSpans_2 v0 v1 v5 m =
  bnd (rIxAddrSl 2 v0 v5) fun v19 =>
  bnd (rLoad true 2 m v19) fun v20 =>
  bnd (rIxAddrSl 2 v1 v5) fun v23 =>
  bnd (rLoad true 2 m v23) fun v24 =>
  bnd (aBin X.T .neq T_Ar2_int false false v20 v24) fun v25 =>
  onBool v25
    (some (.ret (.bool false), m))
    (k_l09_sameSpans_3 v0 v1 v5 m) := by kernel_rfl
theorem k_l09_sameSpans_3_eq (v0 v1 v5 : AV) (m : Mem) : k_l09_sameSpans_3 v0 v1 v5 m =
  bnd (aBin X.T .add T_int false true v5 (.int .i64 1)) fun v16 =>
  l_l09_sameSpans_0 v0 v1 v16 m := by kernel_rfl

/-! ### parlance/relex.Spans -/
noncomputable def c_relex_Spans : Code := bodyOf Try.f27
noncomputable def N_relex_Spans : AAct → Mem → Option (AOut × Mem) := finK X.T Try.f27.results.toList .normal
noncomputable def P_relex_Spans : AExit → AAct → Mem → Option (AOut × Mem) := finK X.T Try.f27.results.toList
noncomputable def K_relex_Spans_0 : AAct → Mem → Option (AOut × Mem) := execF X F_relex_Spans 0 (sR (sR (sR (sR c_relex_Spans)))) N_relex_Spans P_relex_Spans
noncomputable def B_relex_Spans_0 : AExit → AAct → Mem → Option (AOut × Mem) := blockX 0 K_relex_Spans_0 P_relex_Spans
noncomputable def L_relex_Spans_0 : AAct → Mem → Option (AOut × Mem) := fun a m => killF (X.lk F_relex_Spans 0) a.tmps fun l => loopK X F_relex_Spans 0 (sB (sB (sR (sL (sR (sR (sR c_relex_Spans))))))) B_relex_Spans_0 ⟨l, a.defers⟩ m
noncomputable def K_relex_Spans_1 : AAct → Mem → Option (AOut × Mem) := execF X F_relex_Spans 0 (sR (sR (sB (sB (sR (sL (sR (sR (sR c_relex_Spans))))))))) L_relex_Spans_0 B_relex_Spans_0
noncomputable def K_relex_Spans_2 : AAct → Mem → Option (AOut × Mem) := execF X F_relex_Spans 0 (sR (sR (sR (sB (sB (sR (sL (sR (sR (sR c_relex_Spans)))))))))) L_relex_Spans_0 B_relex_Spans_0
noncomputable def B_relex_Spans_1 : AExit → AAct → Mem → Option (AOut × Mem) := blockX 1 K_relex_Spans_2 B_relex_Spans_0
noncomputable def K_relex_Spans_3 : AAct → Mem → Option (AOut × Mem) := execF X F_relex_Spans 1 (sR (sR (sB (sL (sR (sR (sB (sB (sR (sL (sR (sR (sR c_relex_Spans))))))))))))) K_relex_Spans_2 B_relex_Spans_1
noncomputable def B_relex_Spans_2 : AExit → AAct → Mem → Option (AOut × Mem) := blockX 2 K_relex_Spans_3 B_relex_Spans_1
noncomputable def k_relex_Spans_0 (v0 v5 v6 v9 v10 v11 : AV) (m : Mem) : Option (AOut × Mem) := K_relex_Spans_0 ⟨[v0, Q, Q, Q, Q, v5, v6, Q, Q, v9, v10, v11, Q, Q, Q, Q, Q, Q, Q, Q, Q, Q, Q, Q, Q, Q, Q, Q, Q, Q, Q, Q, Q, Q, Q, Q, Q, Q, Q, Q], []⟩ m
noncomputable def l_relex_Spans_0 (v0 v5 v6 v9 v10 v11 : AV) (m : Mem) : Option (AOut × Mem) := L_relex_Spans_0 ⟨[v0, Q, Q, Q, Q, v5, v6, Q, Q, v9, v10, v11, Q, Q, Q, Q, Q, Q, Q, Q, Q, Q, Q, Q, Q, Q, Q, Q, Q, Q, Q, Q, Q, Q, Q, Q, Q, Q, Q, Q], []⟩ m
noncomputable def k_relex_Spans_1 (v0 v5 v6 v9 v10 v11 : AV) (m : Mem) : Option (AOut × Mem) := K_relex_Spans_1 ⟨[v0, Q, Q, Q, Q, v5, v6, Q, Q, v9, v10, v11, Q, Q, Q, Q, Q, Q, Q, Q, Q, Q, Q, Q, Q, Q, Q, Q, Q, Q, Q, Q, Q, Q, Q, Q, Q, Q, Q, Q], []⟩ m
noncomputable def k_relex_Spans_2 (v0 v5 v6 v9 v10 v11 : AV) (m : Mem) : Option (AOut × Mem) := K_relex_Spans_2 ⟨[v0, Q, Q, Q, Q, v5, v6, Q, Q, v9, v10, v11, Q, Q, Q, Q, Q, Q, Q, Q, Q, Q, Q, Q, Q, Q, Q, Q, Q, Q, Q, Q, Q, Q, Q, Q, Q, Q, Q, Q], []⟩ m
noncomputable def k_relex_Spans_3 (v0 v5 v6 v8 v9 v10 v11 : AV) (m : Mem) : Option (AOut × Mem) := K_relex_Spans_3 ⟨[v0, Q, Q, Q, Q, v5, v6, Q, v8, v9, v10, v11, Q, Q, Q, Q, Q, Q, Q, Q, Q, Q, Q, Q, Q, Q, Q, Q, Q, Q, Q, Q, Q, Q, Q, Q, Q, Q, Q, Q], []⟩ m
theorem e_relex_Spans (v0 v1 : AV) (m : Mem) : w_relex_Spans v0 v1 m =
  bnd (rLenSl v1) fun v10 =>
  l_relex_Spans_0 v0 .nils (.bool false) v1 v10 (.int .i64 0) m := (aW_F (c := c_relex_Spans) (fn := Try.f27) (by kernel_rfl) (by kernel_rfl) (by kernel_rfl) _ m).trans (by kernel_rfl)
theorem k_relex_Spans_0_eq (v0 v5 v6 v9 v10 v11 : AV) (m : Mem) : k_relex_Spans_0 v0 v5 v6 v9 v10 v11 m =
  some (.ret v5, m) := by kernel_rfl
theorem l_relex_Spans_0_u (v0 v5 v6 v9 v10 v11 : AV) (m : Mem) : l_relex_Spans_0 v0 v5 v6 v9 v10 v11 m = loopK X F_relex_Spans 0 (sB (sB (sR (sL (sR (sR (sR c_relex_Spans))))))) B_relex_Spans_0 ⟨[v0, Q, Q, Q, Q, v5, v6, Q, Q, v9, v10, v11, Q, Q, Q, Q, Q, Q, Q, Q, Q, Q, Q, Q, Q, Q, Q, Q, Q, Q, Q, Q, Q, Q, Q, Q, Q, Q, Q, Q], []⟩ m := by kernel_rfl
theorem l_relex_Spans_0_r (v0 v5 v6 v9 v10 v11 : AV) (m : Mem) : roundF X F_relex_Spans 0 (sB (sB (sR (sL (sR (sR (sR c_relex_Spans))))))) B_relex_Spans_0 [v0, Q, Q, Q, Q, v5, v6, Q, Q, v9, v10, v11, Q, Q, Q, Q, Q, Q, Q, Q, Q, Q, Q, Q, Q, Q, Q, Q, Q, Q, Q, Q, Q, Q, Q, Q, Q, Q, Q, Q] m =
  bnd (aBin X.T .lss T_int false false v11 v10) fun v12 =>
  onBool v12
    (k_relex_Spans_1 v0 v5 v6 v9 v10 v11 m)
    (k_relex_Spans_0 v0 v5 v6 v9 v10 v11 m) := by kernel_rfl
theorem l_relex_Spans_0_eq (v0 v5 v6 v9 v10 v11 : AV) (m : Mem) : l_relex_Spans_0 v0 v5 v6 v9 v10 v11 m =
  bnd (aBin X.T .lss T_int false false v11 v10) fun v12 =>
  onBool v12
    (k_relex_Spans_1 v0 v5 v6 v9 v10 v11 m)
    (k_relex_Spans_0 v0 v5 v6 v9 v10 v11 m) := roundF_of (l_relex_Spans_0_u v0 v5 v6 v9 v10 v11 m) (l_relex_Spans_0_r v0 v5 v6 v9 v10 v11 m)
theorem k_relex_Spans_1_eq (v0 v5 v6 v9 v10 v11 : AV) (m : Mem) : k_relex_Spans_1 v0 v5 v6 v9 v10 v11 m =
  bnd (rIxAddrSl 3 v9 v11) fun v13 =>
  bnd (rLoad true 3 m v13) fun v14 =>
  memK (aBox m (.agg [.int .i64 0, .int .i64 0, .int .i64 0])) fun v8 m1 =>
  bnd (rStore 3 m1 v8 v14) fun m2 =>
  bnd (rLoad true 3 m2 v8) fun v17 =>
  retK (w_lex_Is v0 v17 (.str (bs [59, 59])) m2) (fun v18 m3 =>
  onBool v18
    (k_relex_Spans_2 v0 v5 (.bool false) v9 v10 v11 m3)
    (bnd (aUn .not v6) fun v21 =>
    onBool v21
      (bnd (rFieldAddr 1 v8) fun v23 =>
      bnd (rLoad false 1 m3 v23) fun v24 =>
      bnd (rFieldAddr 2 v8) fun v25 =>
      bnd (rLoad false 1 m3 v25) fun v26 =>
      bnd (rBuild [.int .i64 0, .int .i64 0] [(0, 1, v24), (1, 1, v26)]) fun v27 =>
      bnd (rBuildSlice A_Ar2_int 1 [(0, v27)]) fun v28 =>
      memK (rAppend A_Ar2_int 1 m3 v5 v28) fun v29 m4 =>
      k_relex_Spans_3 v0 v29 (.bool true) v8 v9 v10 v11 m4)
      (k_relex_Spans_3 v0 v5 v6 v8 v9 v10 v11 m3))) (fun u m3 => some (.pan u, m3)) := by kernel_rfl
theorem k_relex_Spans_2_eq (v0 v5 v6 v9 v10 v11 : AV) (m : Mem) : k_relex_Spans_2 v0 v5 v6 v9 v10 v11 m =
  bnd (aBin X.T .add T_int false true v11 (.int .i64 1)) fun v38 =>
  l_relex_Spans_0 v0 v5 v6 v9 v10 v38 m := by kernel_rfl
theorem k_relex_Spans_3_eq (v0 v5 v6 v8 v9 v10 v11 : AV) (m : Mem) : k_relex_Spans_3 v0 v5 v6 v8 v9 v10 v11 m =
  bnd (rLenSl v5) fun v32 =>
  bnd (aBin X.T .sub T_int false true v32 (.int .i64 1)) fun v33 =>
  bnd (rFieldAddr 2 v8) fun v34 =>
  bnd (rLoad false 1 m v34) fun v35 =>
  bnd (rIxAddrSl 2 v5 v33) fun v36 =>
  bnd (rIxAddrArr 2 1 v36 (.int .i64 1)) fun v37 =>
  bnd (rStore 1 m v37 v35) fun m1 =>
  k_relex_Spans_2 v0 v5 v6 v9 v10 v11 m1 := by kernel_rfl

/-! ### parlance/parlanceref09.Spans -/
noncomputable def c_r09_Spans : Code := bodyOf Try.f28
noncomputable def N_r09_Spans : AAct → Mem → Option (AOut × Mem) := finK X.T Try.f28.results.toList .normal
noncomputable def P_r09_Spans : AExit → AAct → Mem → Option (AOut × Mem) := finK X.T Try.f28.results.toList
noncomputable def K_r09_Spans_0 : AAct → Mem → Option (AOut × Mem) := execF X F_r09_Spans 0 (sR (sR (sR (sR c_r09_Spans)))) N_r09_Spans P_r09_Spans
noncomputable def B_r09_Spans_0 : AExit → AAct → Mem → Option (AOut × Mem) := blockX 0 K_r09_Spans_0 P_r09_Spans
noncomputable def L_r09_Spans_0 : AAct → Mem → Option (AOut × Mem) := fun a m => killF (X.lk F_r09_Spans 0) a.tmps fun l => loopK X F_r09_Spans 0 (sB (sB (sR (sL (sR (sR (sR c_r09_Spans))))))) B_r09_Spans_0 ⟨l, a.defers⟩ m
noncomputable def K_r09_Spans_1 : AAct → Mem → Option (AOut × Mem) := execF X F_r09_Spans 0 (sR (sB (sB (sR (sL (sR (sR (sR c_r09_Spans)))))))) L_r09_Spans_0 B_r09_Spans_0
noncomputable def K_r09_Spans_2 : AAct → Mem → Option (AOut × Mem) := execF X F_r09_Spans 0 (sR (sR (sB (sB (sR (sL (sR (sR (sR c_r09_Spans))))))))) L_r09_Spans_0 B_r09_Spans_0
noncomputable def B_r09_Spans_1 : AExit → AAct → Mem → Option (AOut × Mem) := blockX 1 K_r09_Spans_2 B_r09_Spans_0
noncomputable def K_r09_Spans_3 : AAct → Mem → Option (AOut × Mem) := execF X F_r09_Spans 1 (sR (sR (sB (sL (sR (sB (sB (sR (sL (sR (sR (sR c_r09_Spans)))))))))))) K_r09_Spans_2 B_r09_Spans_1
noncomputable def K_r09_Spans_4 : AAct → Mem → Option (AOut × Mem) := execF X F_r09_Spans 1 (sR (sR (sR (sB (sL (sR (sB (sB (sR (sL (sR (sR (sR c_r09_Spans))))))))))))) K_r09_Spans_2 B_r09_Spans_1
noncomputable def k_r09_Spans_0 (v0 v1 v5 v6 v7 : AV) (m : Mem) : Option (AOut × Mem) := K_r09_Spans_0 ⟨[v0, v1, Q, Q, Q, v5, v6, v7, Q, Q, Q, Q, Q, Q, Q, Q, Q, Q, Q, Q, Q, Q, Q, Q, Q, Q, Q, Q, Q, Q, Q, Q, Q, Q, Q, Q, Q, Q, Q, Q, Q, Q], []⟩ m
noncomputable def l_r09_Spans_0 (v0 v1 v5 v6 v7 : AV) (m : Mem) : Option (AOut × Mem) := L_r09_Spans_0 ⟨[v0, v1, Q, Q, Q, v5, v6, v7, Q, Q, Q, Q, Q, Q, Q, Q, Q, Q, Q, Q, Q, Q, Q, Q, Q, Q, Q, Q, Q, Q, Q, Q, Q, Q, Q, Q, Q, Q, Q, Q, Q, Q], []⟩ m
noncomputable def k_r09_Spans_1 (v0 v1 v5 v6 v7 : AV) (m : Mem) : Option (AOut × Mem) := K_r09_Spans_1 ⟨[v0, v1, Q, Q, Q, v5, v6, v7, Q, Q, Q, Q, Q, Q, Q, Q, Q, Q, Q, Q, Q, Q, Q, Q, Q, Q, Q, Q, Q, Q, Q, Q, Q, Q, Q, Q, Q, Q, Q, Q, Q, Q], []⟩ m
noncomputable def k_r09_Spans_2 (v0 v1 v5 v6 v7 : AV) (m : Mem) : Option (AOut × Mem) := K_r09_Spans_2 ⟨[v0, v1, Q, Q, Q, v5, v6, v7, Q, Q, Q, Q, Q, Q, Q, Q, Q, Q, Q, Q, Q, Q, Q, Q, Q, Q, Q, Q, Q, Q, Q, Q, Q, Q, Q, Q, Q, Q, Q, Q, Q, Q], []⟩ m
noncomputable def k_r09_Spans_3 (v0 v1 v5 v6 v7 v8 : AV) (m : Mem) : Option (AOut × Mem) := K_r09_Spans_3 ⟨[v0, v1, Q, Q, Q, v5, v6, v7, v8, Q, Q, Q, Q, Q, Q, Q, Q, Q, Q, Q, Q, Q, Q, Q, Q, Q, Q, Q, Q, Q, Q, Q, Q, Q, Q, Q, Q, Q, Q, Q, Q, Q], []⟩ m
noncomputable def k_r09_Spans_4 (v0 v1 v5 v6 v7 v8 : AV) (m : Mem) : Option (AOut × Mem) := K_r09_Spans_4 ⟨[v0, v1, Q, Q, Q, v5, v6, v7, v8, Q, Q, Q, Q, Q, Q, Q, Q, Q, Q, Q, Q, Q, Q, Q, Q, Q, Q, Q, Q, Q, Q, Q, Q, Q, Q, Q, Q, Q, Q, Q, Q, Q], []⟩ m
theorem e_r09_Spans (v0 v1 : AV) (m : Mem) : w_r09_Spans v0 v1 m =
  bnd (rBuildSlice A_Ar2_int 0 []) fun v9 =>
  l_r09_Spans_0 v0 v1 v9 (.bool false) (.int .i64 0) m := (aW_F (c := c_r09_Spans) (fn := Try.f28) (by kernel_rfl) (by kernel_rfl) (by kernel_rfl) _ m).trans (by kernel_rfl)
theorem k_r09_Spans_0_eq (v0 v1 v5 v6 v7 : AV) (m : Mem) : k_r09_Spans_0 v0 v1 v5 v6 v7 m =
  some (.ret v5, m) := by kernel_rfl
theorem l_r09_Spans_0_u (v0 v1 v5 v6 v7 : AV) (m : Mem) : l_r09_Spans_0 v0 v1 v5 v6 v7 m = loopK X F_r09_Spans 0 (sB (sB (sR (sL (sR (sR (sR c_r09_Spans))))))) B_r09_Spans_0 ⟨[v0, v1, Q, Q, Q, v5, v6, v7, Q, Q, Q, Q, Q, Q, Q, Q, Q, Q, Q, Q, Q, Q, Q, Q, Q, Q, Q, Q, Q, Q, Q, Q, Q, Q, Q, Q, Q, Q, Q, Q, Q, Q], []⟩ m := by kernel_rfl
theorem l_r09_Spans_0_r (v0 v1 v5 v6 v7 : AV) (m : Mem) : roundF X F_r09_Spans 0 (sB (sB (sR (sL (sR (sR (sR c_r09_Spans))))))) B_r09_Spans_0 [v0, v1, Q, Q, Q, v5, v6, v7, Q, Q, Q, Q, Q, Q, Q, Q, Q, Q, Q, Q, Q, Q, Q, Q, Q, Q, Q, Q, Q, Q, Q, Q, Q, Q, Q, Q, Q, Q, Q, Q, Q, Q] m =
  bnd (rLenSl v1) fun v12 =>
  bnd (aBin X.T .lss T_int false false v7 v12) fun v13 =>
  onBool v13
    (k_r09_Spans_1 v0 v1 v5 v6 v7 m)
    (k_r09_Spans_0 v0 v1 v5 v6 v7 m) := by kernel_rfl
theorem l_r09_Spans_0_eq (v0 v1 v5 v6 v7 : AV) (m : Mem) : l_r09_Spans_0 v0 v1 v5 v6 v7 m =
  bnd (rLenSl v1) fun v12 =>
  bnd (aBin X.T .lss T_int false false v7 v12) fun v13 =>
  onBool v13
    (k_r09_Spans_1 v0 v1 v5 v6 v7 m)
    (k_r09_Spans_0 v0 v1 v5 v6 v7 m) := roundF_of (l_r09_Spans_0_u v0 v1 v5 v6 v7 m) (l_r09_Spans_0_r v0 v1 v5 v6 v7 m)
theorem k_r09_Spans_1_eq (v0 v1 v5 v6 v7 : AV) (m : Mem) : k_r09_Spans_1 v0 v1 v5 v6 v7 m =
  bnd (rIxAddrSl 3 v1 v7) fun v18 =>
  bnd (rLoad true 3 m v18) fun v19 =>
  memK (aBox m (.agg [.int .i64 0, .int .i64 0, .int .i64 0])) fun v8 m1 =>
  bnd (rStore 3 m1 v8 v19) fun m2 =>
  bnd (rLoad true 3 m2 v8) fun v21 =>
  retK (w_r08_Is v0 v21 (.str (bs [59, 59])) m2) (fun v22 m3 =>
  onBool v22
    (k_r09_Spans_2 v0 v1 v5 (.bool false) v7 m3)
    (k_r09_Spans_3 v0 v1 v5 v6 v7 v8 m3)) (fun u m3 => some (.pan u, m3)) := by kernel_rfl
theorem k_r09_Spans_2_eq (v0 v1 v5 v6 v7 : AV) (m : Mem) : k_r09_Spans_2 v0 v1 v5 v6 v7 m =
  bnd (aBin X.T .add T_int false true v7 (.int .i64 1)) fun v15 =>
  l_r09_Spans_0 v0 v1 v5 v6 v15 m := by kernel_rfl
theorem k_r09_Spans_3_eq (v0 v1 v5 v6 v7 v8 : AV) (m : Mem) : k_r09_Spans_3 v0 v1 v5 v6 v7 v8 m =
  bnd (aUn .not v6) fun v24 =>
  onBool v24
    (bnd (rFieldAddr 1 v8) fun v26 =>
    bnd (rLoad false 1 m v26) fun v27 =>
    bnd (rFieldAddr 2 v8) fun v28 =>
    bnd (rLoad false 1 m v28) fun v29 =>
    bnd (rBuild [.int .i64 0, .int .i64 0] [(0, 1, v27), (1, 1, v29)]) fun v30 =>
    bnd (rBuildSlice A_Ar2_int 1 [(0, v30)]) fun v31 =>
    memK (rAppend A_Ar2_int 1 m v5 v31) fun v32 m1 =>
    k_r09_Spans_4 v0 v1 v32 (.bool true) v7 v8 m1)
    (k_r09_Spans_4 v0 v1 v5 v6 v7 v8 m) := by kernel_rfl
theorem k_r09_Spans_4_eq (v0 v1 v5 v6 v7 v8 : AV) (m : Mem) : k_r09_Spans_4 v0 v1 v5 v6 v7 v8 m =
  bnd (rLenSl v5) fun v35 =>
  bnd (aBin X.T .sub T_int false true v35 (.int .i64 1)) fun v36 =>
  bnd (rFieldAddr 2 v8) fun v37 =>
  bnd (rLoad false 1 m v37) fun v38 =>
  bnd (rIxAddrSl 2 v5 v36) fun v39 =>
  bnd (rIxAddrArr 2 1 v39 (.int .i64 1)) fun v40 =>
  bnd (rStore 1 m v40 v38) fun m1 =>
  k_r09_Spans_2 v0 v1 v5 v6 v7 m1 := by kernel_rfl

/-! ### parlance/lex.run -/
noncomputable def c_lex_run : Code := bodyOf Try.f29
noncomputable def N_lex_run : AAct → Mem → Option (AOut × Mem) := finK X.T Try.f29.results.toList .normal
noncomputable def P_lex_run : AExit → AAct → Mem → Option (AOut × Mem) := finK X.T Try.f29.results.toList
noncomputable def K_lex_run_0 : AAct → Mem → Option (AOut × Mem) := execF X F_lex_run 0 (sR (sR (sR c_lex_run))) N_lex_run P_lex_run
noncomputable def B_lex_run_0 : AExit → AAct → Mem → Option (AOut × Mem) := blockX 0 K_lex_run_0 P_lex_run
noncomputable def L_lex_run_0 : AAct → Mem → Option (AOut × Mem) := fun a m => killF (X.lk F_lex_run 0) a.tmps fun l => loopK X F_lex_run 0 (sB (sB (sL (sR (sR c_lex_run))))) B_lex_run_0 ⟨l, a.defers⟩ m
noncomputable def K_lex_run_1 : AAct → Mem → Option (AOut × Mem) := execF X F_lex_run 0 (sR (sB (sB (sL (sR (sR c_lex_run)))))) L_lex_run_0 B_lex_run_0
noncomputable def K_lex_run_2 : AAct → Mem → Option (AOut × Mem) := execF X F_lex_run 0 (sR (sL (sB (sB (sL (sR (sR c_lex_run))))))) K_lex_run_1 B_lex_run_0
noncomputable def B_lex_run_1 : AExit → AAct → Mem → Option (AOut × Mem) := blockX 1 L_lex_run_0 B_lex_run_0
noncomputable def k_lex_run_0 (v0 v2 v7 : AV) (m : Mem) : Option (AOut × Mem) := K_lex_run_0 ⟨[v0, Q, v2, Q, Q, Q, Q, v7, Q, Q, Q, Q, Q, Q, Q, Q, Q, Q, Q, Q, Q, Q, Q], []⟩ m
noncomputable def l_lex_run_0 (v0 v2 v7 : AV) (m : Mem) : Option (AOut × Mem) := L_lex_run_0 ⟨[v0, Q, v2, Q, Q, Q, Q, v7, Q, Q, Q, Q, Q, Q, Q, Q, Q, Q, Q, Q, Q, Q, Q], []⟩ m
noncomputable def k_lex_run_1 (v0 v2 v7 : AV) (m : Mem) : Option (AOut × Mem) := K_lex_run_1 ⟨[v0, Q, v2, Q, Q, Q, Q, v7, Q, Q, Q, Q, Q, Q, Q, Q, Q, Q, Q, Q, Q, Q, Q], []⟩ m
noncomputable def k_lex_run_2 (v0 v2 v7 v19 : AV) (m : Mem) : Option (AOut × Mem) := K_lex_run_2 ⟨[v0, Q, v2, Q, Q, Q, Q, v7, Q, Q, Q, Q, Q, Q, Q, Q, Q, Q, Q, v19, Q, Q, Q], []⟩ m
theorem e_lex_run (v0 v1 v2 : AV) (m : Mem) : w_lex_run v0 v1 v2 m =
  l_lex_run_0 v0 v2 v1 m := (aW_F (c := c_lex_run) (fn := Try.f29) (by kernel_rfl) (by kernel_rfl) (by kernel_rfl) _ m).trans (by kernel_rfl)
theorem k_lex_run_0_eq (v0 v2 v7 : AV) (m : Mem) : k_lex_run_0 v0 v2 v7 m =
  some (.ret v7, m) := by kernel_rfl
theorem l_lex_run_0_u (v0 v2 v7 : AV) (m : Mem) : l_lex_run_0 v0 v2 v7 m = loopK X F_lex_run 0 (sB (sB (sL (sR (sR c_lex_run))))) B_lex_run_0 ⟨[v0, Q, v2, Q, Q, Q, Q, v7, Q, Q, Q, Q, Q, Q, Q, Q, Q, Q, Q, Q, Q, Q, Q], []⟩ m := by kernel_rfl
theorem l_lex_run_0_r (v0 v2 v7 : AV) (m : Mem) : roundF X F_lex_run 0 (sB (sB (sL (sR (sR c_lex_run))))) B_lex_run_0 [v0, Q, v2, Q, Q, Q, Q, v7, Q, Q, Q, Q, Q, Q, Q, Q, Q, Q, Q, Q, Q, Q, Q] m =
  bnd (rLenStr v0) fun v11 =>
  bnd (aBin X.T .lss T_int false false v7 v11) fun v12 =>
  onWant v12
    (bnd (rIxStr v0 v7) fun v17 =>
  retK (w_lex_has v2 v17 m) (fun v18 m1 =>
  k_lex_run_2 v0 v2 v7 v18 m1) (fun u m1 => some (.pan u, m1)))
    (k_lex_run_2 v0 v2 v7 (.bool false) m)
    (none) := by kernel_rfl
theorem l_lex_run_0_eq (v0 v2 v7 : AV) (m : Mem) : l_lex_run_0 v0 v2 v7 m =
  bnd (rLenStr v0) fun v11 =>
  bnd (aBin X.T .lss T_int false false v7 v11) fun v12 =>
  onWant v12
    (bnd (rIxStr v0 v7) fun v17 =>
  retK (w_lex_has v2 v17 m) (fun v18 m1 =>
  k_lex_run_2 v0 v2 v7 v18 m1) (fun u m1 => some (.pan u, m1)))
    (k_lex_run_2 v0 v2 v7 (.bool false) m)
    (none) := roundF_of (l_lex_run_0_u v0 v2 v7 m) (l_lex_run_0_r v0 v2 v7 m)
theorem k_lex_run_1_eq (v0 v2 v7 : AV) (m : Mem) : k_lex_run_1 v0 v2 v7 m =
  bnd (aBin X.T .add T_int false true v7 (.int .i64 1)) fun v21 =>
  l_lex_run_0 v0 v2 v21 m := by kernel_rfl
theorem k_lex_run_2_eq (v0 v2 v7 v19 : AV) (m : Mem) : k_lex_run_2 v0 v2 v7 v19 m =
  onBool v19
    (k_lex_run_1 v0 v2 v7 m)
    (k_lex_run_0 v0 v2 v7 m) := by kernel_rfl

/-! ### strings.HasPrefix -/
noncomputable def c_strings_HasPrefix : Code := bodyOf Try.f30
noncomputable def N_strings_HasPrefix : AAct → Mem → Option (AOut × Mem) := finK X.T Try.f30.results.toList .normal
noncomputable def P_strings_HasPrefix : AExit → AAct → Mem → Option (AOut × Mem) := finK X.T Try.f30.results.toList
theorem e_strings_HasPrefix (v0 v1 : AV) (m : Mem) : w_strings_HasPrefix v0 v1 m =
  retK (w_i_stringslite_HasPrefix v0 v1 m) (fun v7 m1 =>
  some (.ret v7, m1)) (fun u m1 => some (.pan u, m1)) := (aW_F (c := c_strings_HasPrefix) (fn := Try.f30) (by kernel_rfl) (by kernel_rfl) (by kernel_rfl) _ m).trans (by kernel_rfl)

/-! ### parlance/lex.remark -/
noncomputable def c_lex_remark : Code := bodyOf Try.f31
noncomputable def N_lex_remark : AAct → Mem → Option (AOut × Mem) := finK X.T Try.f31.results.toList .normal
noncomputable def P_lex_remark : AExit → AAct → Mem → Option (AOut × Mem) := finK X.T Try.f31.results.toList
noncomputable def K_lex_remark_0 : AAct → Mem → Option (AOut × Mem) := execF X F_lex_remark 0 (sR (sR (sR c_lex_remark))) N_lex_remark P_lex_remark
noncomputable def B_lex_remark_0 : AExit → AAct → Mem → Option (AOut × Mem) := blockX 0 K_lex_remark_0 P_lex_remark
noncomputable def L_lex_remark_0 : AAct → Mem → Option (AOut × Mem) := fun a m => killF (X.lk F_lex_remark 0) a.tmps fun l => loopK X F_lex_remark 0 (sB (sB (sR (sL (sR (sR c_lex_remark)))))) B_lex_remark_0 ⟨l, a.defers⟩ m
noncomputable def K_lex_remark_1 : AAct → Mem → Option (AOut × Mem) := execF X F_lex_remark 0 (sR (sB (sB (sR (sL (sR (sR c_lex_remark))))))) L_lex_remark_0 B_lex_remark_0
noncomputable def B_lex_remark_1 : AExit → AAct → Mem → Option (AOut × Mem) := blockX 1 L_lex_remark_0 B_lex_remark_0
noncomputable def B_lex_remark_2 : AExit → AAct → Mem → Option (AOut × Mem) := blockX 2 L_lex_remark_0 B_lex_remark_1
noncomputable def k_lex_remark_0 (v0 v4 v5 : AV) (m : Mem) : Option (AOut × Mem) := K_lex_remark_0 ⟨[v0, Q, Q, Q, v4, v5, Q, Q, Q, Q, Q, Q, Q, Q, Q, Q, Q, Q, Q, Q, Q, Q, Q, Q, Q, Q, Q, Q, Q, Q, Q, Q, Q, Q, Q], []⟩ m
noncomputable def l_lex_remark_0 (v0 v4 v5 : AV) (m : Mem) : Option (AOut × Mem) := L_lex_remark_0 ⟨[v0, Q, Q, Q, v4, v5, Q, Q, Q, Q, Q, Q, Q, Q, Q, Q, Q, Q, Q, Q, Q, Q, Q, Q, Q, Q, Q, Q, Q, Q, Q, Q, Q, Q, Q], []⟩ m
noncomputable def k_lex_remark_1 (v0 v4 v5 : AV) (m : Mem) : Option (AOut × Mem) := K_lex_remark_1 ⟨[v0, Q, Q, Q, v4, v5, Q, Q, Q, Q, Q, Q, Q, Q, Q, Q, Q, Q, Q, Q, Q, Q, Q, Q, Q, Q, Q, Q, Q, Q, Q, Q, Q, Q, Q], []⟩ m
theorem e_lex_remark (v0 : AV) (m : Mem) : w_lex_remark v0 m =
  l_lex_remark_0 v0 (.int .i64 0) (.int .i64 0) m := (aW_F (c := c_lex_remark) (fn := Try.f31) (by kernel_rfl) (by kernel_rfl) (by kernel_rfl) _ m).trans (by kernel_rfl)
theorem k_lex_remark_0_eq (v0 v4 v5 : AV) (m : Mem) : k_lex_remark_0 v0 v4 v5 m =
  bnd (rLenStr v0) fun v34 =>
  some (.ret (.tup [v34, (.bool false)]), m) := by kernel_rfl
theorem l_lex_remark_0_u (v0 v4 v5 : AV) (m : Mem) : l_lex_remark_0 v0 v4 v5 m = loopK X F_lex_remark 0 (sB (sB (sR (sL (sR (sR c_lex_remark)))))) B_lex_remark_0 ⟨[v0, Q, Q, Q, v4, v5, Q, Q, Q, Q, Q, Q, Q, Q, Q, Q, Q, Q, Q, Q, Q, Q, Q, Q, Q, Q, Q, Q, Q, Q, Q, Q, Q, Q, Q], []⟩ m := by kernel_rfl
theorem l_lex_remark_0_r (v0 v4 v5 : AV) (m : Mem) : roundF X F_lex_remark 0 (sB (sB (sR (sL (sR (sR c_lex_remark)))))) B_lex_remark_0 [v0, Q, Q, Q, v4, v5, Q, Q, Q, Q, Q, Q, Q, Q, Q, Q, Q, Q, Q, Q, Q, Q, Q, Q, Q, Q, Q, Q, Q, Q, Q, Q, Q, Q, Q] m =
  bnd (rLenStr v0) fun v8 =>
  bnd (aBin X.T .lss T_int false false v5 v8) fun v9 =>
  onBool v9
    (k_lex_remark_1 v0 v4 v5 m)
    (k_lex_remark_0 v0 v4 v5 m) := by kernel_rfl
theorem l_lex_remark_0_eq (v0 v4 v5 : AV) (m : Mem) : l_lex_remark_0 v0 v4 v5 m =
  bnd (rLenStr v0) fun v8 =>
  bnd (aBin X.T .lss T_int false false v5 v8) fun v9 =>
  onBool v9
    (k_lex_remark_1 v0 v4 v5 m)
    (k_lex_remark_0 v0 v4 v5 m) := roundF_of (l_lex_remark_0_u v0 v4 v5 m) (l_lex_remark_0_r v0 v4 v5 m)
theorem k_lex_remark_1_eq (v0 v4 v5 : AV) (m : Mem) : k_lex_remark_1 v0 v4 v5 m =
  bnd (rSliceStr v0 (some v5) none) fun v15 =>
  retK (w_strings_HasPrefix v15 (.str (bs [40, 42])) m) (fun v16 m1 =>
  onBool v16
    (bnd (aBin X.T .add T_int false true v4 (.int .i64 1)) fun v18 =>
    bnd (aBin X.T .add T_int false true v5 (.int .i64 2)) fun v20 =>
    l_lex_remark_0 v0 v18 v20 m1)
    (bnd (rSliceStr v0 (some v5) none) fun v24 =>
    retK (w_strings_HasPrefix v24 (.str (bs [42, 41])) m1) (fun v25 m2 =>
    onBool v25
      (bnd (aBin X.T .sub T_int false true v4 (.int .i64 1)) fun v27 =>
      bnd (aBin X.T .add T_int false true v5 (.int .i64 2)) fun v29 =>
      bnd (aBin X.T .eql T_int false true v27 (.int .i64 0)) fun v31 =>
      onBool v31
        (some (.ret (.tup [v29, (.bool true)]), m2))
        (l_lex_remark_0 v0 v27 v29 m2))
      (bnd (aBin X.T .add T_int false true v5 (.int .i64 1)) fun v11 =>
      l_lex_remark_0 v0 v4 v11 m2)) (fun u m2 => some (.pan u, m2)))) (fun u m1 => some (.pan u, m1)) := by kernel_rfl

end Go.AM
