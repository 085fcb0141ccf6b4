/-
  A part of the proof: equations or tables of the program over the abstract machine, printed by a program of this proof's own.
-/
import Derived.Test.YtpffgljpkehgmaaGCtx
set_option linter.unusedVariables false
set_option linter.unusedSimpArgs false
namespace Go.AM
open Go.Proofs
set_option maxRecDepth 100000
set_option linter.unusedVariables false
noncomputable def c_f79 : Code := bodyOf Try.f79
noncomputable def N_f79 : AAct → Mem → Option (AOut × Mem) := finK X.T Try.f79.results.toList .normal
noncomputable def P_f79 : AExit → AAct → Mem → Option (AOut × Mem) := finK X.T Try.f79.results.toList
noncomputable def K_f79_0 : AAct → Mem → Option (AOut × Mem) := execF X F_f79 0 (sR (sR (sR c_f79))) N_f79 P_f79
noncomputable def K_f79_1 : AAct → Mem → Option (AOut × Mem) := execF X F_f79 0 (sR (sR (sR (sR (sR c_f79))))) N_f79 P_f79
noncomputable def B_f79_0 : AExit → AAct → Mem → Option (AOut × Mem) := blockX 0 K_f79_1 P_f79
noncomputable def L_f79_0 : AAct → Mem → Option (AOut × Mem) := fun a m => killF (X.lk F_f79 0) a.tmps fun l => loopK X F_f79 0 (sB (sB (sR (sL (sR (sR (sR (sR c_f79)))))))) B_f79_0 ⟨l, a.defers⟩ m
noncomputable def K_f79_2 : AAct → Mem → Option (AOut × Mem) := execF X F_f79 0 (sR (sB (sB (sR (sL (sR (sR (sR (sR c_f79))))))))) L_f79_0 B_f79_0
noncomputable def K_f79_3 : AAct → Mem → Option (AOut × Mem) := execF X F_f79 0 (sR (sR (sB (sB (sR (sL (sR (sR (sR (sR c_f79)))))))))) L_f79_0 B_f79_0
noncomputable def k_f79_0 (v1 v2 v3 : AV) (m : Mem) : Option (AOut × Mem) := K_f79_0 ⟨[Q, v1, v2, v3, Q, Q, Q, Q, Q, Q, Q, Q, Q, Q, Q, Q, Q, Q, Q, Q, Q, Q, Q, Q, Q, Q, Q, Q, Q, Q, Q, Q, Q, Q, Q, Q, Q, Q, Q, Q, Q, Q, Q, Q, Q, Q, Q, Q, Q, Q], []⟩ m
noncomputable def k_f79_1 (v1 v2 v3 v7 : AV) (m : Mem) : Option (AOut × Mem) := K_f79_1 ⟨[Q, v1, v2, v3, Q, Q, Q, v7, Q, Q, Q, Q, Q, Q, Q, Q, Q, Q, Q, Q, Q, Q, Q, Q, Q, Q, Q, Q, Q, Q, Q, Q, Q, Q, Q, Q, Q, Q, Q, Q, Q, Q, Q, Q, Q, Q, Q, Q, Q, Q], []⟩ m
noncomputable def l_f79_0 (v1 v2 v3 v7 : AV) (m : Mem) : Option (AOut × Mem) := L_f79_0 ⟨[Q, v1, v2, v3, Q, Q, Q, v7, Q, Q, Q, Q, Q, Q, Q, Q, Q, Q, Q, Q, Q, Q, Q, Q, Q, Q, Q, Q, Q, Q, Q, Q, Q, Q, Q, Q, Q, Q, Q, Q, Q, Q, Q, Q, Q, Q, Q, Q, Q, Q], []⟩ m
noncomputable def k_f79_2 (v1 v2 v3 v7 : AV) (m : Mem) : Option (AOut × Mem) := K_f79_2 ⟨[Q, v1, v2, v3, Q, Q, Q, v7, Q, Q, Q, Q, Q, Q, Q, Q, Q, Q, Q, Q, Q, Q, Q, Q, Q, Q, Q, Q, Q, Q, Q, Q, Q, Q, Q, Q, Q, Q, Q, Q, Q, Q, Q, Q, Q, Q, Q, Q, Q, Q], []⟩ m
noncomputable def k_f79_3 (v1 v2 v3 v7 : AV) (m : Mem) : Option (AOut × Mem) := K_f79_3 ⟨[Q, v1, v2, v3, Q, Q, Q, v7, Q, Q, Q, Q, Q, Q, Q, Q, Q, Q, Q, Q, Q, Q, Q, Q, Q, Q, Q, Q, Q, Q, Q, Q, Q, Q, Q, Q, Q, Q, Q, Q, Q, Q, Q, Q, Q, Q, Q, Q, Q, Q], []⟩ m
theorem e_f79 (v0 v1 v2 : AV) (m : Mem) : w_f79 v0 v1 v2 m =
  memK (aBox m v0) fun v3 m1 =>
  bnd (rLoad true 1 m1 v3) fun v8 =>
  retK (w_f83 v8 v1 m1) (fun v10 m2 =>
  bnd (rIxAddrSl 1 v2 v10) fun v13 =>
  bnd (rLoad false 1 m2 v13) fun v14 =>
  bnd (aBin X.T .gtr T_int false true v14 (.int .i64 0)) fun v15 =>
  onBool v15
    (bnd (rIxAddrSl 1 v2 v10) fun v18 =>
    bnd (rLoad false 1 m2 v18) fun v19 =>
    bnd (aBin X.T .eql T_int false true v19 (.int .i64 1)) fun v20 =>
    some (.ret v20, m2))
    (k_f79_0 v10 v2 v3 m2)) (fun u m2 => some (.pan u, m2)) := (aW_F (c := c_f79) (fn := Try.f79) (by kernel_rfl) (by kernel_rfl) (by kernel_rfl) _ m).trans (by kernel_rfl)
theorem k_f79_0_eq (v1 v2 v3 : AV) (m : Mem) : k_f79_0 v1 v2 v3 m =
  bnd (rIxAddrSl 1 v2 v1) fun v23 =>
  bnd (rStore 1 m v23 (.int .i64 1)) fun m1 =>
  l_f79_0 v1 v2 v3 (.int .i64 0) m1 := by kernel_rfl
theorem k_f79_1_eq (v1 v2 v3 v7 : AV) (m : Mem) : k_f79_1 v1 v2 v3 v7 m =
  bnd (rIxAddrSl 1 v2 v1) fun v49 =>
  bnd (rStore 1 m v49 (.int .i64 2)) fun m1 =>
  some (.ret (.bool false), m1) := by kernel_rfl
theorem l_f79_0_u (v1 v2 v3 v7 : AV) (m : Mem) : l_f79_0 v1 v2 v3 v7 m = loopK X F_f79 0 (sB (sB (sR (sL (sR (sR (sR (sR c_f79)))))))) B_f79_0 ⟨[Q, v1, v2, v3, Q, Q, Q, v7, Q, Q, Q, Q, Q, Q, Q, Q, Q, Q, Q, Q, Q, Q, Q, Q, Q, Q, Q, Q, Q, Q, Q, Q, Q, Q, Q, Q, Q, Q, Q, Q, Q, Q, Q, Q, Q, Q, Q, Q, Q, Q], []⟩ m := by kernel_rfl
theorem l_f79_0_r (v1 v2 v3 v7 : AV) (m : Mem) : roundF X F_f79 0 (sB (sB (sR (sL (sR (sR (sR (sR c_f79)))))))) B_f79_0 [Q, v1, v2, v3, Q, Q, Q, v7, Q, Q, Q, Q, Q, Q, Q, Q, Q, Q, Q, Q, Q, Q, Q, Q, Q, Q, Q, Q, Q, Q, Q, Q, Q, Q, Q, Q, Q, Q, Q, Q, Q, Q, Q, Q, Q, Q, Q, Q, Q, Q] m =
  bnd (rFieldAddr 0 v3) fun v25 =>
  bnd (rLoad false 1 m v25) fun v26 =>
  bnd (rIxAddrSl 4 v26 v1) fun v28 =>
  bnd (rFieldAddr 2 v28) fun v29 =>
  bnd (rLoad false 1 m v29) fun v30 =>
  bnd (rLenSl v30) fun v31 =>
  bnd (aBin X.T .lss T_int false false v7 v31) fun v32 =>
  onBool v32
    (k_f79_2 v1 v2 v3 v7 m)
    (k_f79_1 v1 v2 v3 v7 m) := by kernel_rfl
theorem l_f79_0_eq (v1 v2 v3 v7 : AV) (m : Mem) : l_f79_0 v1 v2 v3 v7 m =
  bnd (rFieldAddr 0 v3) fun v25 =>
  bnd (rLoad false 1 m v25) fun v26 =>
  bnd (rIxAddrSl 4 v26 v1) fun v28 =>
  bnd (rFieldAddr 2 v28) fun v29 =>
  bnd (rLoad false 1 m v29) fun v30 =>
  bnd (rLenSl v30) fun v31 =>
  bnd (aBin X.T .lss T_int false false v7 v31) fun v32 =>
  onBool v32
    (k_f79_2 v1 v2 v3 v7 m)
    (k_f79_1 v1 v2 v3 v7 m) := roundF_of (l_f79_0_u v1 v2 v3 v7 m) (l_f79_0_r v1 v2 v3 v7 m)
theorem k_f79_2_eq (v1 v2 v3 v7 : AV) (m : Mem) : k_f79_2 v1 v2 v3 v7 m =
  bnd (rLoad true 1 m v3) fun v35 =>
  bnd (rFieldAddr 0 v3) fun v36 =>
  bnd (rLoad false 1 m v36) fun v37 =>
  bnd (rIxAddrSl 4 v37 v1) fun v39 =>
  bnd (rFieldAddr 2 v39) fun v40 =>
  bnd (rLoad false 1 m v40) fun v41 =>
  bnd (rIxAddrSl 1 v41 v7) fun v43 =>
  bnd (rLoad false 1 m v43) fun v44 =>
  retK (w_f79 v35 v44 v2 m) (fun v46 m1 =>
  onBool v46
    (some (.ret (.bool true), m1))
    (k_f79_3 v1 v2 v3 v7 m1)) (fun u m1 => none) := by kernel_rfl
theorem k_f79_3_eq (v1 v2 v3 v7 : AV) (m : Mem) : k_f79_3 v1 v2 v3 v7 m =
  bnd (aBin X.T .add T_int false true v7 (.int .i64 1)) fun v34 =>
  l_f79_0 v1 v2 v3 v34 m := by kernel_rfl
noncomputable def c_f80 : Code := bodyOf Try.f80
theorem e_f80 (v0 v1 : AV) (m : Mem) : w_f80 v0 v1 m =
  retK (w_f96 v0 v1 m) (fun v7 m1 =>
  bnd (aBin X.T .geq T_int false true v7 (.int .i64 0)) fun v8 =>
  some (.ret v8, m1)) (fun u m1 => some (.pan u, m1)) := (aW_F (c := c_f80) (fn := Try.f80) (by kernel_rfl) (by kernel_rfl) (by kernel_rfl) _ m).trans (by kernel_rfl)
noncomputable def c_f81 : Code := bodyOf Try.f81
theorem e_f81 (v0 v1 : AV) (m : Mem) : w_f81 v0 v1 m =
  bnd (aBin X.T .lss T_int false true v0 (.int .i64 0)) fun v5 =>
  onWant v5
    (some (.ret (.bool true), m))
    (bnd (rLoad false 1 m v1) fun v8 =>
  nilK v8
  (bnd (rFieldAddr 0 v8) fun v10 =>
  bnd (rLoad false 1 m v10) fun v11 =>
  bnd (rLenSl v11) fun v12 =>
  bnd (aBin X.T .geq T_int false false v0 v12) fun v13 =>
  some (.ret v13, m)))
    (none) := (aW_F (c := c_f81) (fn := Try.f81) (by kernel_rfl) (by kernel_rfl) (by kernel_rfl) _ m).trans (by kernel_rfl)
noncomputable def c_f82 : Code := bodyOf Try.f82
noncomputable def N_f82 : AAct → Mem → Option (AOut × Mem) := finK X.T Try.f82.results.toList .normal
noncomputable def P_f82 : AExit → AAct → Mem → Option (AOut × Mem) := finK X.T Try.f82.results.toList
noncomputable def K_f82_0 : AAct → Mem → Option (AOut × Mem) := execF X F_f82 0 (sR (sR c_f82)) N_f82 P_f82
noncomputable def B_f82_0 : AExit → AAct → Mem → Option (AOut × Mem) := blockX 0 K_f82_0 P_f82
noncomputable def L_f82_0 : AAct → Mem → Option (AOut × Mem) := fun a m => killF (X.lk F_f82 0) a.tmps fun l => loopK X F_f82 0 (sB (sB (sL (sR c_f82)))) B_f82_0 ⟨l, a.defers⟩ m
noncomputable def K_f82_1 : AAct → Mem → Option (AOut × Mem) := execF X F_f82 0 (sR (sB (sB (sL (sR c_f82))))) L_f82_0 B_f82_0
noncomputable def k_f82_0 (v0 v1 : AV) (m : Mem) : Option (AOut × Mem) := K_f82_0 ⟨[v0, v1, Q, Q, Q, Q, Q, Q, Q, Q, Q, Q, Q, Q, Q, Q, Q, Q, Q, Q, Q, Q, Q], []⟩ m
noncomputable def l_f82_0 (v0 v1 : AV) (m : Mem) : Option (AOut × Mem) := L_f82_0 ⟨[v0, v1, Q, Q, Q, Q, Q, Q, Q, Q, Q, Q, Q, Q, Q, Q, Q, Q, Q, Q, Q, Q, Q], []⟩ m
noncomputable def k_f82_1 (v0 v1 : AV) (m : Mem) : Option (AOut × Mem) := K_f82_1 ⟨[v0, v1, Q, Q, Q, Q, Q, Q, Q, Q, Q, Q, Q, Q, Q, Q, Q, Q, Q, Q, Q, Q, Q], []⟩ m
theorem e_f82 (v0 v1 : AV) (m : Mem) : w_f82 v0 v1 m =
  l_f82_0 v0 v1 m := (aW_F (c := c_f82) (fn := Try.f82) (by kernel_rfl) (by kernel_rfl) (by kernel_rfl) _ m).trans (by kernel_rfl)
theorem k_f82_0_eq (v0 v1 : AV) (m : Mem) : k_f82_0 v0 v1 m =
  some (.ret v1, m) := by kernel_rfl
theorem l_f82_0_u (v0 v1 : AV) (m : Mem) : l_f82_0 v0 v1 m = loopK X F_f82 0 (sB (sB (sL (sR c_f82)))) B_f82_0 ⟨[v0, v1, Q, Q, Q, Q, Q, Q, Q, Q, Q, Q, Q, Q, Q, Q, Q, Q, Q, Q, Q, Q, Q], []⟩ m := by kernel_rfl
theorem l_f82_0_r (v0 v1 : AV) (m : Mem) : roundF X F_f82 0 (sB (sB (sL (sR c_f82)))) B_f82_0 [v0, v1, Q, Q, Q, Q, Q, Q, Q, Q, Q, Q, Q, Q, Q, Q, Q, Q, Q, Q, Q, Q, Q] m =
  nilK v0
  (bnd (rFieldAddr 0 v0) fun v7 =>
  bnd (rLoad false 1 m v7) fun v8 =>
  bnd (rIxAddrSl 4 v8 v1) fun v10 =>
  bnd (rFieldAddr 3 v10) fun v11 =>
  bnd (rLoad false 1 m v11) fun v12 =>
  bnd (aBin X.T .neq T_int false true v12 (.int .i64 (-1))) fun v13 =>
  onBool v13
    (k_f82_1 v0 v1 m)
    (k_f82_0 v0 v1 m)) := by kernel_rfl
theorem l_f82_0_eq (v0 v1 : AV) (m : Mem) : l_f82_0 v0 v1 m =
  nilK v0
  (bnd (rFieldAddr 0 v0) fun v7 =>
  bnd (rLoad false 1 m v7) fun v8 =>
  bnd (rIxAddrSl 4 v8 v1) fun v10 =>
  bnd (rFieldAddr 3 v10) fun v11 =>
  bnd (rLoad false 1 m v11) fun v12 =>
  bnd (aBin X.T .neq T_int false true v12 (.int .i64 (-1))) fun v13 =>
  onBool v13
    (k_f82_1 v0 v1 m)
    (k_f82_0 v0 v1 m)) := roundF_of (l_f82_0_u v0 v1 m) (l_f82_0_r v0 v1 m)
theorem k_f82_1_eq (v0 v1 : AV) (m : Mem) : k_f82_1 v0 v1 m =
  nilK v0
  (bnd (rFieldAddr 0 v0) fun v16 =>
  bnd (rLoad false 1 m v16) fun v17 =>
  bnd (rIxAddrSl 4 v17 v1) fun v19 =>
  bnd (rFieldAddr 3 v19) fun v20 =>
  bnd (rLoad false 1 m v20) fun v21 =>
  l_f82_0 v0 v21 m) := by kernel_rfl
noncomputable def c_f83 : Code := bodyOf Try.f83
noncomputable def N_f83 : AAct → Mem → Option (AOut × Mem) := finK X.T Try.f83.results.toList .normal
noncomputable def P_f83 : AExit → AAct → Mem → Option (AOut × Mem) := finK X.T Try.f83.results.toList
noncomputable def K_f83_0 : AAct → Mem → Option (AOut × Mem) := execF X F_f83 0 (sR (sR c_f83)) N_f83 P_f83
noncomputable def B_f83_0 : AExit → AAct → Mem → Option (AOut × Mem) := blockX 0 K_f83_0 P_f83
noncomputable def L_f83_0 : AAct → Mem → Option (AOut × Mem) := fun a m => killF (X.lk F_f83 0) a.tmps fun l => loopK X F_f83 0 (sB (sB (sL (sR c_f83)))) B_f83_0 ⟨l, a.defers⟩ m
noncomputable def K_f83_1 : AAct → Mem → Option (AOut × Mem) := execF X F_f83 0 (sR (sB (sB (sL (sR c_f83))))) L_f83_0 B_f83_0
noncomputable def k_f83_0 (v1 v2 : AV) (m : Mem) : Option (AOut × Mem) := K_f83_0 ⟨[Q, v1, v2, Q, Q, Q, Q, Q, Q, Q, Q, Q, Q, Q, Q, Q, Q, Q, Q], []⟩ m
noncomputable def l_f83_0 (v1 v2 : AV) (m : Mem) : Option (AOut × Mem) := L_f83_0 ⟨[Q, v1, v2, Q, Q, Q, Q, Q, Q, Q, Q, Q, Q, Q, Q, Q, Q, Q, Q], []⟩ m
noncomputable def k_f83_1 (v1 v2 : AV) (m : Mem) : Option (AOut × Mem) := K_f83_1 ⟨[Q, v1, v2, Q, Q, Q, Q, Q, Q, Q, Q, Q, Q, Q, Q, Q, Q, Q, Q], []⟩ m
theorem e_f83 (v0 v1 : AV) (m : Mem) : w_f83 v0 v1 m =
  memK (aBox m v0) fun v2 m1 =>
  l_f83_0 v1 v2 m1 := (aW_F (c := c_f83) (fn := Try.f83) (by kernel_rfl) (by kernel_rfl) (by kernel_rfl) _ m).trans (by kernel_rfl)
theorem k_f83_0_eq (v1 v2 : AV) (m : Mem) : k_f83_0 v1 v2 m =
  some (.ret v1, m) := by kernel_rfl
theorem l_f83_0_u (v1 v2 : AV) (m : Mem) : l_f83_0 v1 v2 m = loopK X F_f83 0 (sB (sB (sL (sR c_f83)))) B_f83_0 ⟨[Q, v1, v2, Q, Q, Q, Q, Q, Q, Q, Q, Q, Q, Q, Q, Q, Q, Q, Q], []⟩ m := by kernel_rfl
theorem l_f83_0_r (v1 v2 : AV) (m : Mem) : roundF X F_f83 0 (sB (sB (sL (sR c_f83)))) B_f83_0 [Q, v1, v2, Q, Q, Q, Q, Q, Q, Q, Q, Q, Q, Q, Q, Q, Q, Q, Q] m =
  bnd (rFieldAddr 0 v2) fun v5 =>
  bnd (rLoad false 1 m v5) fun v6 =>
  bnd (rIxAddrSl 4 v6 v1) fun v8 =>
  bnd (rFieldAddr 3 v8) fun v9 =>
  bnd (rLoad false 1 m v9) fun v10 =>
  bnd (aBin X.T .geq T_int false true v10 (.int .i64 0)) fun v11 =>
  onBool v11
    (k_f83_1 v1 v2 m)
    (k_f83_0 v1 v2 m) := by kernel_rfl
theorem l_f83_0_eq (v1 v2 : AV) (m : Mem) : l_f83_0 v1 v2 m =
  bnd (rFieldAddr 0 v2) fun v5 =>
  bnd (rLoad false 1 m v5) fun v6 =>
  bnd (rIxAddrSl 4 v6 v1) fun v8 =>
  bnd (rFieldAddr 3 v8) fun v9 =>
  bnd (rLoad false 1 m v9) fun v10 =>
  bnd (aBin X.T .geq T_int false true v10 (.int .i64 0)) fun v11 =>
  onBool v11
    (k_f83_1 v1 v2 m)
    (k_f83_0 v1 v2 m) := roundF_of (l_f83_0_u v1 v2 m) (l_f83_0_r v1 v2 m)
theorem k_f83_1_eq (v1 v2 : AV) (m : Mem) : k_f83_1 v1 v2 m =
  bnd (rFieldAddr 0 v2) fun v12 =>
  bnd (rLoad false 1 m v12) fun v13 =>
  bnd (rIxAddrSl 4 v13 v1) fun v15 =>
  bnd (rFieldAddr 3 v15) fun v16 =>
  bnd (rLoad false 1 m v16) fun v17 =>
  l_f83_0 v17 v2 m := by kernel_rfl
noncomputable def c_f84 : Code := bodyOf Try.f84
theorem e_f84 (v0 v1 v2 : AV) (m : Mem) : w_f84 v0 v1 v2 m =
  nilK v0
  (bnd (rFieldAddr 0 v0) fun v8 =>
  bnd (rLoad false 1 m v8) fun v9 =>
  bnd (rIxAddrSl 4 v9 v1) fun v12 =>
  bnd (rFieldAddr 3 v12) fun v13 =>
  bnd (rStore 1 m v13 v2) fun m1 =>
  nilK v0
  (bnd (rFieldAddr 1 v0) fun v17 =>
  bnd (rLoad false 1 m1 v17) fun v18 =>
  bnd (rBuildSlice A_int 1 [(0, v1)]) fun v20 =>
  memK (rAppend A_int 0 m1 v18 v20) fun v21 m2 =>
  nilK v0
  (bnd (rFieldAddr 1 v0) fun v23 =>
  bnd (rStore 1 m2 v23 v21) fun m3 =>
  some (.ret (.tup []), m3)))) := (aW_F (c := c_f84) (fn := Try.f84) (by kernel_rfl) (by kernel_rfl) (by kernel_rfl) _ m).trans (by kernel_rfl)
noncomputable def c_f85 : Code := bodyOf Try.f85
theorem e_f85 (v0 v1 v2 : AV) (m : Mem) : w_f85 v0 v1 v2 m =
  nilK v0
  (bnd (rFieldAddr 0 v0) fun v11 =>
  bnd (rLoad false 1 m v11) fun v12 =>
  bnd (rIxAddrSl 4 v12 v1) fun v14 =>
  bnd (rLoad true 4 m v14) fun v15 =>
  nilK v0
  (bnd (rFieldAddr 0 v0) fun v18 =>
  bnd (rLoad false 1 m v18) fun v19 =>
  bnd (rIxAddrSl 4 v19 v2) fun v21 =>
  bnd (rLoad true 4 m v21) fun v22 =>
  memK (aBox m (.agg [.int .i64 0, .str (bs []), .nils, .int .i64 0])) fun v7 m1 =>
  memK (aBox m1 (.agg [.int .i64 0, .str (bs []), .nils, .int .i64 0])) fun v8 m2 =>
  bnd (rStore 4 m2 v7 v15) fun m3 =>
  bnd (rStore 4 m3 v8 v22) fun m4 =>
  bnd (rLoad false 1 m3 v18) fun u =>
  sameK u v19 <|
  bnd (rLoad true 4 m3 v21) fun u_1 =>
  sameK u_1 v22 <|
  bnd (rFieldAddr 0 v7) fun v23 =>
  bnd (rLoad false 1 m4 v23) fun v24 =>
  bnd (rFieldAddr 0 v8) fun v25 =>
  bnd (rLoad false 1 m4 v25) fun v26 =>
  bnd (aBin X.T .eql T_int false false v24 v26) fun v27 =>
  onWant v27
    (bnd (rFieldAddr 1 v7) fun v29 =>
  bnd (rLoad false 1 m4 v29) fun v30 =>
  bnd (rFieldAddr 1 v8) fun v31 =>
  bnd (rLoad false 1 m4 v31) fun v32 =>
  bnd (aBin X.T .eql T_string false false v30 v32) fun v33 =>
  onWant v33
    (bnd (rFieldAddr 2 v7) fun v36 =>
  bnd (rLoad false 1 m4 v36) fun v37 =>
  bnd (rLenSl v37) fun v38 =>
  bnd (rFieldAddr 2 v8) fun v39 =>
  bnd (rLoad false 1 m4 v39) fun v40 =>
  bnd (rLenSl v40) fun v41 =>
  bnd (aBin X.T .eql T_int false false v38 v41) fun v42 =>
  some (.ret v42, m4))
    (some (.ret (.bool false), m4))
    (none))
    (some (.ret (.bool false), m4))
    (none))) := (aW_F (c := c_f85) (fn := Try.f85) (by kernel_rfl) (by kernel_rfl) (by kernel_rfl) _ m).trans (by kernel_rfl)
noncomputable def c_f86 : Code := bodyOf Try.f86
noncomputable def N_f86 : AAct → Mem → Option (AOut × Mem) := finK X.T Try.f86.results.toList .normal
noncomputable def P_f86 : AExit → AAct → Mem → Option (AOut × Mem) := finK X.T Try.f86.results.toList
noncomputable def K_f86_0 : AAct → Mem → Option (AOut × Mem) := execF X F_f86 0 (sR (sR c_f86)) N_f86 P_f86
noncomputable def k_f86_0 (v0 : AV) (m : Mem) : Option (AOut × Mem) := K_f86_0 ⟨[v0, Q, Q, Q, Q, Q, Q, Q], []⟩ m
theorem e_f86 (v0 : AV) (m : Mem) : w_f86 v0 m =
  bnd (aBin X.T .eql T_Sl_int false true v0 .nils) fun v4 =>
  onBool v4
    (some (.ret .nils, m))
    (k_f86_0 v0 m) := (aW_F (c := c_f86) (fn := Try.f86) (by kernel_rfl) (by kernel_rfl) (by kernel_rfl) _ m).trans (by kernel_rfl)
theorem k_f86_0_eq (v0 : AV) (m : Mem) : k_f86_0 v0 m =
  bnd (rBuildSlice A_int 0 []) fun v5 =>
  memK (rAppend A_int 0 m v5 v0) fun v7 m1 =>
  some (.ret v7, m1) := by kernel_rfl
noncomputable def c_f88 : Code := bodyOf Try.f88
theorem e_f88 (v0 v1 : AV) (m : Mem) : w_f88 v0 v1 m =
  retK (w_f97 v0 v1 m) (fun v7 m1 =>
  some (.ret v7, m1)) (fun u m1 => some (.pan u, m1)) := (aW_F (c := c_f88) (fn := Try.f88) (by kernel_rfl) (by kernel_rfl) (by kernel_rfl) _ m).trans (by kernel_rfl)
noncomputable def c_f89 : Code := bodyOf Try.f89
theorem e_f89 (v0 v1 : AV) (m : Mem) : w_f89 v0 v1 m =
  retK (w_f98 v0 v1 m) (fun v7 m1 =>
  bnd (aBin X.T .geq T_int false true v7 (.int .i64 0)) fun v8 =>
  some (.ret v8, m1)) (fun u m1 => some (.pan u, m1)) := (aW_F (c := c_f89) (fn := Try.f89) (by kernel_rfl) (by kernel_rfl) (by kernel_rfl) _ m).trans (by kernel_rfl)
noncomputable def c_f90 : Code := bodyOf Try.f90
theorem e_f90 (m : Mem) : w_f90 m =
  bnd (rBuildSlice A_string 13 [(0, (.str (bs [108, 101, 116]))), (1, (.str (bs [114, 101, 99]))), (2, (.str (bs [105, 110]))), (3, (.str (bs [102, 117, 110]))), (4, (.str (bs [105, 102]))), (5, (.str (bs [116, 104, 101, 110]))), (6, (.str (bs [101, 108, 115, 101]))), (7, (.str (bs [109, 97, 116, 99, 104]))), (8, (.str (bs [119, 105, 116, 104]))), (9, (.str (bs [116, 121, 112, 101]))), (10, (.str (bs [111, 102]))), (11, (.str (bs [116, 114, 117, 101]))), (12, (.str (bs [102, 97, 108, 115, 101])))]) fun v1 =>
  some (.ret v1, m) := (aW_F (c := c_f90) (fn := Try.f90) (by kernel_rfl) (by kernel_rfl) (by kernel_rfl) _ m).trans (by kernel_rfl)
noncomputable def c_f91 : Code := bodyOf Try.f91
theorem e_f91 (v0 : AV) (m : Mem) : w_f91 v0 m =
  bnd (aBin X.T .geq T_uint8 false true v0 (.int .u8 97)) fun v4 =>
  onWant v4
    (bnd (aBin X.T .leq T_uint8 false true v0 (.int .u8 122)) fun v7 =>
  some (.ret v7, m))
    (some (.ret (.bool false), m))
    (none) := (aW_F (c := c_f91) (fn := Try.f91) (by kernel_rfl) (by kernel_rfl) (by kernel_rfl) _ m).trans (by kernel_rfl)
noncomputable def c_f92 : Code := bodyOf Try.f92
theorem e_f92 (v0 : AV) (m : Mem) : w_f92 v0 m =
  bnd (aBin X.T .geq T_uint8 false true v0 (.int .u8 65)) fun v4 =>
  onWant v4
    (bnd (aBin X.T .leq T_uint8 false true v0 (.int .u8 90)) fun v7 =>
  some (.ret v7, m))
    (some (.ret (.bool false), m))
    (none) := (aW_F (c := c_f92) (fn := Try.f92) (by kernel_rfl) (by kernel_rfl) (by kernel_rfl) _ m).trans (by kernel_rfl)
noncomputable def c_f93 : Code := bodyOf Try.f93
theorem e_f93 (v0 : AV) (m : Mem) : w_f93 v0 m =
  bnd (aBin X.T .geq T_uint8 false true v0 (.int .u8 48)) fun v4 =>
  onWant v4
    (bnd (aBin X.T .leq T_uint8 false true v0 (.int .u8 57)) fun v7 =>
  some (.ret v7, m))
    (some (.ret (.bool false), m))
    (none) := (aW_F (c := c_f93) (fn := Try.f93) (by kernel_rfl) (by kernel_rfl) (by kernel_rfl) _ m).trans (by kernel_rfl)
noncomputable def c_f94 : Code := bodyOf Try.f94
theorem e_f94 (m : Mem) : w_f94 m =
  memK (aBox m (.agg [.str (bs []), .str (bs []), .str (bs []), .str (bs []), .str (bs []), .str (bs []), .str (bs []), .str (bs []), .str (bs []), .str (bs []), .str (bs []), .str (bs []), .str (bs [])])) fun v0 m1 =>
  bnd (rBuild [.str (bs []), .str (bs []), .str (bs []), .str (bs []), .str (bs []), .str (bs []), .str (bs []), .str (bs []), .str (bs []), .str (bs []), .str (bs []), .str (bs []), .str (bs [])] [(0, 1, (.str (bs [108, 101, 116]))), (1, 1, (.str (bs [114, 101, 99]))), (2, 1, (.str (bs [105, 110]))), (3, 1, (.str (bs [102, 117, 110]))), (4, 1, (.str (bs [105, 102]))), (5, 1, (.str (bs [116, 104, 101, 110]))), (6, 1, (.str (bs [101, 108, 115, 101]))), (7, 1, (.str (bs [109, 97, 116, 99, 104]))), (8, 1, (.str (bs [119, 105, 116, 104]))), (9, 1, (.str (bs [116, 121, 112, 101]))), (10, 1, (.str (bs [111, 102]))), (11, 1, (.str (bs [116, 114, 117, 101]))), (12, 1, (.str (bs [102, 97, 108, 115, 101])))]) fun v1 =>
  bnd (rStore 13 m1 v0 v1) fun m2 =>
  bnd (rLoad true 13 m2 v0) fun vr0 =>
  some (.ret vr0, m2) := (aW_F (c := c_f94) (fn := Try.f94) (by kernel_rfl) (by kernel_rfl) (by kernel_rfl) _ m).trans (by kernel_rfl)
noncomputable def c_f95 : Code := bodyOf Try.f95
theorem e_f95 (m : Mem) : w_f95 m =
  memK (aBox m (.agg [.str (bs []), .str (bs []), .str (bs []), .str (bs []), .str (bs []), .str (bs []), .str (bs []), .str (bs []), .str (bs []), .str (bs []), .str (bs []), .str (bs []), .str (bs [])])) fun v0 m1 =>
  bnd (rBuild [.str (bs []), .str (bs []), .str (bs []), .str (bs []), .str (bs []), .str (bs []), .str (bs []), .str (bs []), .str (bs []), .str (bs []), .str (bs []), .str (bs []), .str (bs [])] [(0, 1, (.str (bs [45, 62]))), (1, 1, (.str (bs [58, 58]))), (2, 1, (.str (bs [59, 59]))), (3, 1, (.str (bs [40]))), (4, 1, (.str (bs [41]))), (5, 1, (.str (bs [44]))), (6, 1, (.str (bs [124]))), (7, 1, (.str (bs [61]))), (8, 1, (.str (bs [60]))), (9, 1, (.str (bs [43]))), (10, 1, (.str (bs [45]))), (11, 1, (.str (bs [42]))), (12, 1, (.str (bs [95])))]) fun v1 =>
  bnd (rStore 13 m1 v0 v1) fun m2 =>
  bnd (rLoad true 13 m2 v0) fun vr0 =>
  some (.ret vr0, m2) := (aW_F (c := c_f95) (fn := Try.f95) (by kernel_rfl) (by kernel_rfl) (by kernel_rfl) _ m).trans (by kernel_rfl)
noncomputable def c_f96 : Code := bodyOf Try.f96
noncomputable def N_f96 : AAct → Mem → Option (AOut × Mem) := finK X.T Try.f96.results.toList .normal
noncomputable def P_f96 : AExit → AAct → Mem → Option (AOut × Mem) := finK X.T Try.f96.results.toList
noncomputable def K_f96_0 : AAct → Mem → Option (AOut × Mem) := execF X F_f96 0 (sR (sR c_f96)) N_f96 P_f96
noncomputable def B_f96_0 : AExit → AAct → Mem → Option (AOut × Mem) := blockX 0 K_f96_0 P_f96
noncomputable def L_f96_0 : AAct → Mem → Option (AOut × Mem) := fun a m => killF (X.lk F_f96 0) a.tmps fun l => loopK X F_f96 0 (sB (sB (sR (sL (sR c_f96))))) B_f96_0 ⟨l, a.defers⟩ m
noncomputable def K_f96_1 : AAct → Mem → Option (AOut × Mem) := execF X F_f96 0 (sR (sR (sB (sB (sR (sL (sR c_f96))))))) L_f96_0 B_f96_0
noncomputable def K_f96_2 : AAct → Mem → Option (AOut × Mem) := execF X F_f96 0 (sR (sR (sR (sB (sB (sR (sL (sR c_f96)))))))) L_f96_0 B_f96_0
noncomputable def k_f96_0 (v0 v1 v7 v8 : AV) (m : Mem) : Option (AOut × Mem) := K_f96_0 ⟨[v0, v1, Q, Q, Q, Q, Q, v7, v8, Q, Q, Q, Q, Q, Q, Q, Q, Q, Q], []⟩ m
noncomputable def l_f96_0 (v0 v1 v7 v8 : AV) (m : Mem) : Option (AOut × Mem) := L_f96_0 ⟨[v0, v1, Q, Q, Q, Q, Q, v7, v8, Q, Q, Q, Q, Q, Q, Q, Q, Q, Q], []⟩ m
noncomputable def k_f96_1 (v0 v1 v7 v8 : AV) (m : Mem) : Option (AOut × Mem) := K_f96_1 ⟨[v0, v1, Q, Q, Q, Q, Q, v7, v8, Q, Q, Q, Q, Q, Q, Q, Q, Q, Q], []⟩ m
noncomputable def k_f96_2 (v0 v1 v5 v7 v8 : AV) (m : Mem) : Option (AOut × Mem) := K_f96_2 ⟨[v0, v1, Q, Q, Q, v5, Q, v7, v8, Q, Q, Q, Q, Q, Q, Q, Q, Q, Q], []⟩ m
theorem e_f96 (v0 v1 : AV) (m : Mem) : w_f96 v0 v1 m =
  bnd (rLenSl v0) fun v7 =>
  l_f96_0 v0 v1 v7 (.int .i64 0) m := (aW_F (c := c_f96) (fn := Try.f96) (by kernel_rfl) (by kernel_rfl) (by kernel_rfl) _ m).trans (by kernel_rfl)
theorem k_f96_0_eq (v0 v1 v7 v8 : AV) (m : Mem) : k_f96_0 v0 v1 v7 v8 m =
  some (.ret (.int .i64 (-1)), m) := by kernel_rfl
theorem l_f96_0_u (v0 v1 v7 v8 : AV) (m : Mem) : l_f96_0 v0 v1 v7 v8 m = loopK X F_f96 0 (sB (sB (sR (sL (sR c_f96))))) B_f96_0 ⟨[v0, v1, Q, Q, Q, Q, Q, v7, v8, Q, Q, Q, Q, Q, Q, Q, Q, Q, Q], []⟩ m := by kernel_rfl
theorem l_f96_0_r (v0 v1 v7 v8 : AV) (m : Mem) : roundF X F_f96 0 (sB (sB (sR (sL (sR c_f96))))) B_f96_0 [v0, v1, Q, Q, Q, Q, Q, v7, v8, Q, Q, Q, Q, Q, Q, Q, Q, Q, Q] m =
  bnd (aBin X.T .lss T_int false false v8 v7) fun v9 =>
  onBool v9
    (k_f96_1 v0 v1 v7 v8 m)
    (k_f96_0 v0 v1 v7 v8 m) := by kernel_rfl
theorem l_f96_0_eq (v0 v1 v7 v8 : AV) (m : Mem) : l_f96_0 v0 v1 v7 v8 m =
  bnd (aBin X.T .lss T_int false false v8 v7) fun v9 =>
  onBool v9
    (k_f96_1 v0 v1 v7 v8 m)
    (k_f96_0 v0 v1 v7 v8 m) := roundF_of (l_f96_0_u v0 v1 v7 v8 m) (l_f96_0_r v0 v1 v7 v8 m)
theorem k_f96_1_eq (v0 v1 v7 v8 : AV) (m : Mem) : k_f96_1 v0 v1 v7 v8 m =
  bnd (rIxAddrSl 1 v0 v8) fun v14 =>
  bnd (rLoad false 1 m v14) fun v15 =>
  fnK v1 fun q xs ys => retK (aW X q (xs ++ [v15] ++ ys) m) (fun v16 m1 =>
  onBool v16
    (some (.ret v8, m1))
    (k_f96_2 v0 v1 v8 v7 v8 m1)) (fun u m1 => some (.pan u, m1)) := by kernel_rfl
theorem k_f96_2_eq (v0 v1 v5 v7 v8 : AV) (m : Mem) : k_f96_2 v0 v1 v5 v7 v8 m =
  bnd (aBin X.T .add T_int false true v8 (.int .i64 1)) fun v18 =>
  l_f96_0 v0 v1 v7 v18 m := by kernel_rfl
noncomputable def c_f98 : Code := bodyOf Try.f98
noncomputable def N_f98 : AAct → Mem → Option (AOut × Mem) := finK X.T Try.f98.results.toList .normal
noncomputable def P_f98 : AExit → AAct → Mem → Option (AOut × Mem) := finK X.T Try.f98.results.toList
noncomputable def K_f98_0 : AAct → Mem → Option (AOut × Mem) := execF X F_f98 0 (sR (sR c_f98)) N_f98 P_f98
noncomputable def B_f98_0 : AExit → AAct → Mem → Option (AOut × Mem) := blockX 0 K_f98_0 P_f98
noncomputable def L_f98_0 : AAct → Mem → Option (AOut × Mem) := fun a m => killF (X.lk F_f98 0) a.tmps fun l => loopK X F_f98 0 (sB (sB (sR (sL (sR c_f98))))) B_f98_0 ⟨l, a.defers⟩ m
noncomputable def K_f98_1 : AAct → Mem → Option (AOut × Mem) := execF X F_f98 0 (sR (sR (sB (sB (sR (sL (sR c_f98))))))) L_f98_0 B_f98_0
noncomputable def K_f98_2 : AAct → Mem → Option (AOut × Mem) := execF X F_f98 0 (sR (sR (sR (sB (sB (sR (sL (sR c_f98)))))))) L_f98_0 B_f98_0
noncomputable def k_f98_0 (v0 v1 v7 v8 : AV) (m : Mem) : Option (AOut × Mem) := K_f98_0 ⟨[v0, v1, Q, Q, Q, Q, Q, v7, v8, Q, Q, Q, Q, Q, Q, Q, Q, Q, Q], []⟩ m
noncomputable def l_f98_0 (v0 v1 v7 v8 : AV) (m : Mem) : Option (AOut × Mem) := L_f98_0 ⟨[v0, v1, Q, Q, Q, Q, Q, v7, v8, Q, Q, Q, Q, Q, Q, Q, Q, Q, Q], []⟩ m
noncomputable def k_f98_1 (v0 v1 v7 v8 : AV) (m : Mem) : Option (AOut × Mem) := K_f98_1 ⟨[v0, v1, Q, Q, Q, Q, Q, v7, v8, Q, Q, Q, Q, Q, Q, Q, Q, Q, Q], []⟩ m
noncomputable def k_f98_2 (v0 v1 v5 v7 v8 : AV) (m : Mem) : Option (AOut × Mem) := K_f98_2 ⟨[v0, v1, Q, Q, Q, v5, Q, v7, v8, Q, Q, Q, Q, Q, Q, Q, Q, Q, Q], []⟩ m
theorem e_f98 (v0 v1 : AV) (m : Mem) : w_f98 v0 v1 m =
  bnd (rLenSl v0) fun v7 =>
  l_f98_0 v0 v1 v7 (.int .i64 0) m := (aW_F (c := c_f98) (fn := Try.f98) (by kernel_rfl) (by kernel_rfl) (by kernel_rfl) _ m).trans (by kernel_rfl)
theorem k_f98_0_eq (v0 v1 v7 v8 : AV) (m : Mem) : k_f98_0 v0 v1 v7 v8 m =
  some (.ret (.int .i64 (-1)), m) := by kernel_rfl
theorem l_f98_0_u (v0 v1 v7 v8 : AV) (m : Mem) : l_f98_0 v0 v1 v7 v8 m = loopK X F_f98 0 (sB (sB (sR (sL (sR c_f98))))) B_f98_0 ⟨[v0, v1, Q, Q, Q, Q, Q, v7, v8, Q, Q, Q, Q, Q, Q, Q, Q, Q, Q], []⟩ m := by kernel_rfl
theorem l_f98_0_r (v0 v1 v7 v8 : AV) (m : Mem) : roundF X F_f98 0 (sB (sB (sR (sL (sR c_f98))))) B_f98_0 [v0, v1, Q, Q, Q, Q, Q, v7, v8, Q, Q, Q, Q, Q, Q, Q, Q, Q, Q] m =
  bnd (aBin X.T .lss T_int false false v8 v7) fun v9 =>
  onBool v9
    (k_f98_1 v0 v1 v7 v8 m)
    (k_f98_0 v0 v1 v7 v8 m) := by kernel_rfl
theorem l_f98_0_eq (v0 v1 v7 v8 : AV) (m : Mem) : l_f98_0 v0 v1 v7 v8 m =
  bnd (aBin X.T .lss T_int false false v8 v7) fun v9 =>
  onBool v9
    (k_f98_1 v0 v1 v7 v8 m)
    (k_f98_0 v0 v1 v7 v8 m) := roundF_of (l_f98_0_u v0 v1 v7 v8 m) (l_f98_0_r v0 v1 v7 v8 m)
theorem k_f98_1_eq (v0 v1 v7 v8 : AV) (m : Mem) : k_f98_1 v0 v1 v7 v8 m =
  bnd (rIxAddrSl 1 v0 v8) fun v14 =>
  bnd (rLoad false 1 m v14) fun v15 =>
  bnd (aBin X.T .eql T_string false false v1 v15) fun v16 =>
  onBool v16
    (some (.ret v8, m))
    (k_f98_2 v0 v1 v8 v7 v8 m) := by kernel_rfl
theorem k_f98_2_eq (v0 v1 v5 v7 v8 : AV) (m : Mem) : k_f98_2 v0 v1 v5 v7 v8 m =
  bnd (aBin X.T .add T_int false true v8 (.int .i64 1)) fun v18 =>
  l_f98_0 v0 v1 v7 v18 m := by kernel_rfl
end Go.AM
