/-
  A part of the proof: equations or tables of the program over the abstract machine, printed by a program of this proof's own.
-/
import Derived.Test.YtpffgljpkehgmaaGCtx
set_option linter.unusedVariables false
set_option linter.unusedSimpArgs false
namespace Go.AM
open Go.Proofs
set_option maxRecDepth 100000
set_option linter.unusedVariables false
noncomputable def c_f48 : Code := bodyOf Try.f48
noncomputable def N_f48 : AAct → Mem → Option (AOut × Mem) := finK X.T Try.f48.results.toList .normal
noncomputable def P_f48 : AExit → AAct → Mem → Option (AOut × Mem) := finK X.T Try.f48.results.toList
noncomputable def K_f48_0 : AAct → Mem → Option (AOut × Mem) := execF X F_f48 0 (sR (sR c_f48)) N_f48 P_f48
noncomputable def B_f48_0 : AExit → AAct → Mem → Option (AOut × Mem) := blockX 0 K_f48_0 P_f48
noncomputable def L_f48_0 : AAct → Mem → Option (AOut × Mem) := fun a m => killF (X.lk F_f48 0) a.tmps fun l => loopK X F_f48 0 (sB (sB (sR (sL (sR c_f48))))) B_f48_0 ⟨l, a.defers⟩ m
noncomputable def K_f48_1 : AAct → Mem → Option (AOut × Mem) := execF X F_f48 0 (sR (sR (sR c_f48))) N_f48 P_f48
noncomputable def K_f48_2 : AAct → Mem → Option (AOut × Mem) := execF X F_f48 0 (sR (sL (sR (sR c_f48)))) K_f48_1 P_f48
noncomputable def K_f48_3 : AAct → Mem → Option (AOut × Mem) := execF X F_f48 0 (sR (sB (sB (sR (sL (sR c_f48)))))) L_f48_0 B_f48_0
noncomputable def K_f48_4 : AAct → Mem → Option (AOut × Mem) := execF X F_f48 0 (sR (sR (sB (sB (sR (sL (sR c_f48))))))) L_f48_0 B_f48_0
noncomputable def k_f48_0 (v1 v2 v3 v4 v8 v11 : AV) (m : Mem) : Option (AOut × Mem) := K_f48_0 ⟨[Q, v1, v2, v3, v4, Q, Q, Q, v8, Q, Q, v11, Q, Q, Q, Q, Q, Q, Q, Q, Q, Q, Q, Q, Q, Q, Q, Q, Q, Q, Q, Q, Q, Q, Q, Q, Q, Q, Q, Q, Q, Q, Q, Q, Q, Q, Q, Q, Q, Q, Q, Q, Q, Q, Q, Q], []⟩ m
noncomputable def l_f48_0 (v1 v2 v3 v4 v8 v11 : AV) (m : Mem) : Option (AOut × Mem) := L_f48_0 ⟨[Q, v1, v2, v3, v4, Q, Q, Q, v8, Q, Q, v11, Q, Q, Q, Q, Q, Q, Q, Q, Q, Q, Q, Q, Q, Q, Q, Q, Q, Q, Q, Q, Q, Q, Q, Q, Q, Q, Q, Q, Q, Q, Q, Q, Q, Q, Q, Q, Q, Q, Q, Q, Q, Q, Q, Q], []⟩ m
noncomputable def k_f48_1 (v1 v2 v3 v4 v8 : AV) (m : Mem) : Option (AOut × Mem) := K_f48_1 ⟨[Q, v1, v2, v3, v4, Q, Q, Q, v8, Q, Q, Q, Q, Q, Q, Q, Q, Q, Q, Q, Q, Q, Q, Q, Q, Q, Q, Q, Q, Q, Q, Q, Q, Q, Q, Q, Q, Q, Q, Q, Q, Q, Q, Q, Q, Q, Q, Q, Q, Q, Q, Q, Q, Q, Q, Q], []⟩ m
noncomputable def k_f48_2 (v1 v2 v3 v4 v8 v43 : AV) (m : Mem) : Option (AOut × Mem) := K_f48_2 ⟨[Q, v1, v2, v3, v4, Q, Q, Q, v8, Q, Q, Q, Q, Q, Q, Q, Q, Q, Q, Q, Q, Q, Q, Q, Q, Q, Q, Q, Q, Q, Q, Q, Q, Q, Q, Q, Q, Q, Q, Q, Q, Q, Q, v43, Q, Q, Q, Q, Q, Q, Q, Q, Q, Q, Q, Q], []⟩ m
noncomputable def k_f48_3 (v1 v2 v3 v4 v8 v11 : AV) (m : Mem) : Option (AOut × Mem) := K_f48_3 ⟨[Q, v1, v2, v3, v4, Q, Q, Q, v8, Q, Q, v11, Q, Q, Q, Q, Q, Q, Q, Q, Q, Q, Q, Q, Q, Q, Q, Q, Q, Q, Q, Q, Q, Q, Q, Q, Q, Q, Q, Q, Q, Q, Q, Q, Q, Q, Q, Q, Q, Q, Q, Q, Q, Q, Q, Q], []⟩ m
noncomputable def k_f48_4 (v1 v2 v3 v4 v8 v11 : AV) (m : Mem) : Option (AOut × Mem) := K_f48_4 ⟨[Q, v1, v2, v3, v4, Q, Q, Q, v8, Q, Q, v11, Q, Q, Q, Q, Q, Q, Q, Q, Q, Q, Q, Q, Q, Q, Q, Q, Q, Q, Q, Q, Q, Q, Q, Q, Q, Q, Q, Q, Q, Q, Q, Q, Q, Q, Q, Q, Q, Q, Q, Q, Q, Q, Q, Q], []⟩ m
theorem e_f48 (v0 v1 v2 v3 : AV) (m : Mem) : w_f48 v0 v1 v2 v3 m =
  memK (aBox m v0) fun v4 m1 =>
  memK (aBox m1 (.agg [.nils])) fun v8 m2 =>
  l_f48_0 v1 v2 v3 v4 v8 (.int .i64 0) m2 := (aW_F (c := c_f48) (fn := Try.f48) (by kernel_rfl) (by kernel_rfl) (by kernel_rfl) _ m).trans (by kernel_rfl)
theorem k_f48_0_eq (v1 v2 v3 v4 v8 v11 : AV) (m : Mem) : k_f48_0 v1 v2 v3 v4 v8 v11 m =
  bnd (aBin X.T .eql T_int false true v1 (.int .i64 2)) fun v29 =>
  onWant v29
    (retK (w_f16 v2 m) (fun v32 m1 =>
  bnd (aBin X.T .neq T_int false true v32 (.int .i64 1)) fun v33 =>
  onWant v33
    (k_f48_2 v1 v2 v3 v4 v8 (.bool true) m1)
    (bnd (aBin X.T .eql T_int false true v1 (.int .i64 3)) fun v37 =>
  onWant v37
    (bnd (rLenSl v3) fun v40 =>
  bnd (aBin X.T .lss T_int false true v40 (.int .i64 2)) fun v41 =>
  k_f48_2 v1 v2 v3 v4 v8 v41 m1)
    (k_f48_2 v1 v2 v3 v4 v8 (.bool false) m1)
    (none))
    (none)) (fun u m1 => some (.pan u, m1)))
    (bnd (aBin X.T .eql T_int false true v1 (.int .i64 3)) fun v37 =>
  onWant v37
    (bnd (rLenSl v3) fun v40 =>
  bnd (aBin X.T .lss T_int false true v40 (.int .i64 2)) fun v41 =>
  k_f48_2 v1 v2 v3 v4 v8 v41 m)
    (k_f48_2 v1 v2 v3 v4 v8 (.bool false) m)
    (none))
    (none) := by kernel_rfl
theorem l_f48_0_u (v1 v2 v3 v4 v8 v11 : AV) (m : Mem) : l_f48_0 v1 v2 v3 v4 v8 v11 m = loopK X F_f48 0 (sB (sB (sR (sL (sR c_f48))))) B_f48_0 ⟨[Q, v1, v2, v3, v4, Q, Q, Q, v8, Q, Q, v11, Q, Q, Q, Q, Q, Q, Q, Q, Q, Q, Q, Q, Q, Q, Q, Q, Q, Q, Q, Q, Q, Q, Q, Q, Q, Q, Q, Q, Q, Q, Q, Q, Q, Q, Q, Q, Q, Q, Q, Q, Q, Q, Q, Q], []⟩ m := by kernel_rfl
theorem l_f48_0_r (v1 v2 v3 v4 v8 v11 : AV) (m : Mem) : roundF X F_f48 0 (sB (sB (sR (sL (sR c_f48))))) B_f48_0 [Q, v1, v2, v3, v4, Q, Q, Q, v8, Q, Q, v11, Q, Q, Q, Q, Q, Q, Q, Q, Q, Q, Q, Q, Q, Q, Q, Q, Q, Q, Q, Q, Q, Q, Q, Q, Q, Q, Q, Q, Q, Q, Q, Q, Q, Q, Q, Q, Q, Q, Q, Q, Q, Q, Q, Q] m =
  bnd (rLenSl v3) fun v16 =>
  bnd (aBin X.T .lss T_int false false v11 v16) fun v17 =>
  onBool v17
    (k_f48_3 v1 v2 v3 v4 v8 v11 m)
    (k_f48_0 v1 v2 v3 v4 v8 v11 m) := by kernel_rfl
theorem l_f48_0_eq (v1 v2 v3 v4 v8 v11 : AV) (m : Mem) : l_f48_0 v1 v2 v3 v4 v8 v11 m =
  bnd (rLenSl v3) fun v16 =>
  bnd (aBin X.T .lss T_int false false v11 v16) fun v17 =>
  onBool v17
    (k_f48_3 v1 v2 v3 v4 v8 v11 m)
    (k_f48_0 v1 v2 v3 v4 v8 v11 m) := roundF_of (l_f48_0_u v1 v2 v3 v4 v8 v11 m) (l_f48_0_r v1 v2 v3 v4 v8 v11 m)
theorem k_f48_1_eq (v1 v2 v3 v4 v8 : AV) (m : Mem) : k_f48_1 v1 v2 v3 v4 v8 m =
  bnd (rLoad true 1 m v4) fun v46 =>
  bnd (rBuild [.int .i64 0, .str (bs []), .nils, .int .i64 0] [(0, 1, v1), (1, 1, v2), (2, 1, v3)]) fun v50 =>
  retK (w_f78 v46 v50 m) (fun v51 m1 =>
  bnd (aExtract v51 0) fun v52 =>
  bnd (aExtract v51 1) fun v53 =>
  memK (aBox m1 (.agg [.nils])) fun v12 m2 =>
  bnd (rStore 1 m2 v12 v52) fun m3 =>
  bnd (rLoad true 1 m3 v12) fun v54 =>
  bnd (rStore 1 m3 v8 v54) fun m4 =>
  bnd (rLoad true 1 m4 v8) fun vr0 =>
  some (.ret (.tup [vr0, v53, (.int .i64 0)]), m4)) (fun u m1 => some (.pan u, m1)) := by kernel_rfl
theorem k_f48_2_eq (v1 v2 v3 v4 v8 v43 : AV) (m : Mem) : k_f48_2 v1 v2 v3 v4 v8 v43 m =
  onBool v43
    (bnd (rLoad true 1 m v4) fun v44 =>
    bnd (rStore 1 m v8 v44) fun m1 =>
    bnd (rLoad true 1 m1 v8) fun vr0 =>
    some (.ret (.tup [vr0, (.int .i64 0), (.int .i64 120)]), m1))
    (k_f48_1 v1 v2 v3 v4 v8 m) := by kernel_rfl
theorem k_f48_3_eq (v1 v2 v3 v4 v8 v11 : AV) (m : Mem) : k_f48_3 v1 v2 v3 v4 v8 v11 m =
  bnd (rLoad true 1 m v4) fun v20 =>
  bnd (rIxAddrSl 1 v3 v11) fun v23 =>
  bnd (rLoad false 1 m v23) fun v24 =>
  retK (w_f52 v20 v24 m) (fun v25 m1 =>
  bnd (aUn .not v25) fun v26 =>
  onBool v26
    (bnd (rLoad true 1 m1 v4) fun v27 =>
    bnd (rStore 1 m1 v8 v27) fun m2 =>
    bnd (rLoad true 1 m2 v8) fun vr0 =>
    some (.ret (.tup [vr0, (.int .i64 0), (.int .i64 221)]), m2))
    (k_f48_4 v1 v2 v3 v4 v8 v11 m1)) (fun u m1 => none) := by kernel_rfl
theorem k_f48_4_eq (v1 v2 v3 v4 v8 v11 : AV) (m : Mem) : k_f48_4 v1 v2 v3 v4 v8 v11 m =
  bnd (aBin X.T .add T_int false true v11 (.int .i64 1)) fun v19 =>
  l_f48_0 v1 v2 v3 v4 v8 v19 m := by kernel_rfl
noncomputable def c_f49 : Code := bodyOf Try.f49
noncomputable def N_f49 : AAct → Mem → Option (AOut × Mem) := finK X.T Try.f49.results.toList .normal
noncomputable def P_f49 : AExit → AAct → Mem → Option (AOut × Mem) := finK X.T Try.f49.results.toList
noncomputable def K_f49_0 : AAct → Mem → Option (AOut × Mem) := execF X F_f49 0 (sR (sR c_f49)) N_f49 P_f49
noncomputable def K_f49_1 : AAct → Mem → Option (AOut × Mem) := execF X F_f49 0 (sR (sL (sR c_f49))) K_f49_0 P_f49
noncomputable def K_f49_2 : AAct → Mem → Option (AOut × Mem) := execF X F_f49 0 (sR (sR (sR (sR c_f49)))) N_f49 P_f49
noncomputable def K_f49_3 : AAct → Mem → Option (AOut × Mem) := execF X F_f49 0 (sR (sR (sR (sR (sR c_f49))))) N_f49 P_f49
noncomputable def k_f49_0 (v1 v2 v3 v6 : AV) (m : Mem) : Option (AOut × Mem) := K_f49_0 ⟨[Q, v1, v2, v3, Q, Q, v6, Q, Q, Q, Q, Q, Q, Q, Q, Q, Q, Q, Q, Q, Q, Q, Q, Q, Q, Q, Q, Q, Q, Q, Q, Q, Q, Q, Q, Q, Q, Q, Q, Q], []⟩ m
noncomputable def k_f49_1 (v1 v2 v3 v6 v19 : AV) (m : Mem) : Option (AOut × Mem) := K_f49_1 ⟨[Q, v1, v2, v3, Q, Q, v6, Q, Q, Q, Q, Q, Q, Q, Q, Q, Q, Q, Q, v19, Q, Q, Q, Q, Q, Q, Q, Q, Q, Q, Q, Q, Q, Q, Q, Q, Q, Q, Q, Q], []⟩ m
noncomputable def k_f49_2 (v1 v3 v6 v8 : AV) (m : Mem) : Option (AOut × Mem) := K_f49_2 ⟨[Q, v1, Q, v3, Q, Q, v6, Q, v8, Q, Q, Q, Q, Q, Q, Q, Q, Q, Q, Q, Q, Q, Q, Q, Q, Q, Q, Q, Q, Q, Q, Q, Q, Q, Q, Q, Q, Q, Q, Q], []⟩ m
noncomputable def k_f49_3 (v3 v6 v8 : AV) (m : Mem) : Option (AOut × Mem) := K_f49_3 ⟨[Q, Q, Q, v3, Q, Q, v6, Q, v8, Q, Q, Q, Q, Q, Q, Q, Q, Q, Q, Q, Q, Q, Q, Q, Q, Q, Q, Q, Q, Q, Q, Q, Q, Q, Q, Q, Q, Q, Q, Q], []⟩ m
theorem e_f49 (v0 v1 v2 : AV) (m : Mem) : w_f49 v0 v1 v2 m =
  memK (aBox m v0) fun v3 m1 =>
  memK (aBox m1 (.agg [.nils])) fun v6 m2 =>
  bnd (rLoad true 1 m2 v3) fun v10 =>
  retK (w_f52 v10 v1 m2) (fun v12 m3 =>
  bnd (aUn .not v12) fun v13 =>
  onWant v13
    (k_f49_1 v1 v2 v3 v6 (.bool true) m3)
    (bnd (rLoad true 1 m3 v3) fun v15 =>
  retK (w_f52 v15 v2 m3) (fun v17 m4 =>
  bnd (aUn .not v17) fun v18 =>
  k_f49_1 v1 v2 v3 v6 v18 m4) (fun u m4 => some (.pan u, m4)))
    (none)) (fun u m3 => some (.pan u, m3)) := (aW_F (c := c_f49) (fn := Try.f49) (by kernel_rfl) (by kernel_rfl) (by kernel_rfl) _ m).trans (by kernel_rfl)
theorem k_f49_0_eq (v1 v2 v3 v6 : AV) (m : Mem) : k_f49_0 v1 v2 v3 v6 m =
  bnd (rLoad true 1 m v3) fun v22 =>
  retK (w_f60 v22 v1 v2 m) (fun v25 m1 =>
  bnd (aExtract v25 0) fun v26 =>
  bnd (aExtract v25 1) fun v27 =>
  memK (aBox m1 (.agg [.nils])) fun v8 m2 =>
  bnd (rStore 1 m2 v8 v26) fun m3 =>
  bnd (aUn .not v27) fun v29 =>
  onBool v29
    (bnd (rLoad true 1 m3 v3) fun v30 =>
    bnd (rStore 1 m3 v6 v30) fun m4 =>
    bnd (rLoad true 1 m4 v6) fun vr0 =>
    some (.ret (.tup [vr0, (.int .i64 131)]), m4))
    (k_f49_2 v1 v3 v6 v8 m3)) (fun u m1 => some (.pan u, m1)) := by kernel_rfl
theorem k_f49_1_eq (v1 v2 v3 v6 v19 : AV) (m : Mem) : k_f49_1 v1 v2 v3 v6 v19 m =
  onBool v19
    (bnd (rLoad true 1 m v3) fun v20 =>
    bnd (rStore 1 m v6 v20) fun m1 =>
    bnd (rLoad true 1 m1 v6) fun vr0 =>
    some (.ret (.tup [vr0, (.int .i64 221)]), m1))
    (k_f49_0 v1 v2 v3 v6 m) := by kernel_rfl
theorem k_f49_2_eq (v1 v3 v6 v8 : AV) (m : Mem) : k_f49_2 v1 v3 v6 v8 m =
  bnd (rLoad true 1 m v8) fun v31 =>
  bnd (rFieldAddr 0 v8) fun v33 =>
  bnd (rLoad false 1 m v33) fun v34 =>
  bnd (rLenSl v34) fun v35 =>
  memK (rMakeSlice A_int 0 m v35 v35) fun v36 m1 =>
  retK (w_f79 v31 v1 v36 m1) (fun v37 m2 =>
  onBool v37
    (bnd (rLoad true 1 m2 v3) fun v38 =>
    bnd (rStore 1 m2 v6 v38) fun m3 =>
    bnd (rLoad true 1 m3 v6) fun vr0 =>
    some (.ret (.tup [vr0, (.int .i64 130)]), m3))
    (k_f49_3 v3 v6 v8 m2)) (fun u m2 => none) := by kernel_rfl
theorem k_f49_3_eq (v3 v6 v8 : AV) (m : Mem) : k_f49_3 v3 v6 v8 m =
  bnd (rLoad true 1 m v8) fun v39 =>
  bnd (rStore 1 m v6 v39) fun m1 =>
  bnd (rLoad true 1 m1 v6) fun vr0 =>
  some (.ret (.tup [vr0, (.int .i64 0)]), m1) := by kernel_rfl
noncomputable def c_f50 : Code := bodyOf Try.f50
theorem e_f50 (v0 v1 : AV) (m : Mem) : w_f50 v0 v1 m =
  memK (aBox m v0) fun v2 m1 =>
  retK (w_f80 v1 (.fn F_f81 [] [v2]) m1) (fun v7 m2 =>
  bnd (aUn .not v7) fun v8 =>
  some (.ret v8, m2)) (fun u m2 => some (.pan u, m2)) := (aW_F (c := c_f50) (fn := Try.f50) (by kernel_rfl) (by kernel_rfl) (by kernel_rfl) _ m).trans (by kernel_rfl)
noncomputable def c_f51 : Code := bodyOf Try.f51
noncomputable def N_f51 : AAct → Mem → Option (AOut × Mem) := finK X.T Try.f51.results.toList .normal
noncomputable def P_f51 : AExit → AAct → Mem → Option (AOut × Mem) := finK X.T Try.f51.results.toList
noncomputable def K_f51_0 : AAct → Mem → Option (AOut × Mem) := execF X F_f51 0 (sR (sR (sR c_f51))) N_f51 P_f51
noncomputable def K_f51_1 : AAct → Mem → Option (AOut × Mem) := execF X F_f51 0 (sR (sR (sR (sR (sR c_f51))))) N_f51 P_f51
noncomputable def B_f51_0 : AExit → AAct → Mem → Option (AOut × Mem) := blockX 0 K_f51_1 P_f51
noncomputable def L_f51_0 : AAct → Mem → Option (AOut × Mem) := fun a m => killF (X.lk F_f51 0) a.tmps fun l => loopK X F_f51 0 (sB (sB (sR (sL (sR (sR (sR (sR c_f51)))))))) B_f51_0 ⟨l, a.defers⟩ m
noncomputable def K_f51_2 : AAct → Mem → Option (AOut × Mem) := execF X F_f51 0 (sR (sR (sB (sB (sR (sL (sR (sR (sR (sR c_f51)))))))))) L_f51_0 B_f51_0
noncomputable def K_f51_3 : AAct → Mem → Option (AOut × Mem) := execF X F_f51 0 (sR (sR (sR (sB (sB (sR (sL (sR (sR (sR (sR c_f51))))))))))) L_f51_0 B_f51_0
noncomputable def k_f51_0 (v0 v1 v2 v7 : AV) (m : Mem) : Option (AOut × Mem) := K_f51_0 ⟨[v0, v1, v2, Q, Q, Q, Q, v7, Q, Q, Q, Q, Q, Q, Q, Q, Q, Q, Q, Q, Q, Q, Q, Q, Q, Q, Q, Q, Q, Q, Q, Q, Q, Q, Q, Q, Q, Q, Q, Q, Q, Q, Q, Q, Q, Q, Q, Q], []⟩ m
noncomputable def k_f51_1 (v0 v1 v2 v9 v30 v31 v32 : AV) (m : Mem) : Option (AOut × Mem) := K_f51_1 ⟨[v0, v1, v2, Q, Q, Q, Q, Q, Q, v9, Q, Q, Q, Q, Q, Q, Q, Q, Q, Q, Q, Q, Q, Q, Q, Q, Q, Q, Q, Q, v30, v31, v32, Q, Q, Q, Q, Q, Q, Q, Q, Q, Q, Q, Q, Q, Q, Q], []⟩ m
noncomputable def l_f51_0 (v0 v1 v2 v9 v30 v31 v32 : AV) (m : Mem) : Option (AOut × Mem) := L_f51_0 ⟨[v0, v1, v2, Q, Q, Q, Q, Q, Q, v9, Q, Q, Q, Q, Q, Q, Q, Q, Q, Q, Q, Q, Q, Q, Q, Q, Q, Q, Q, Q, v30, v31, v32, Q, Q, Q, Q, Q, Q, Q, Q, Q, Q, Q, Q, Q, Q, Q], []⟩ m
noncomputable def k_f51_2 (v0 v1 v2 v9 v30 v31 v32 : AV) (m : Mem) : Option (AOut × Mem) := K_f51_2 ⟨[v0, v1, v2, Q, Q, Q, Q, Q, Q, v9, Q, Q, Q, Q, Q, Q, Q, Q, Q, Q, Q, Q, Q, Q, Q, Q, Q, Q, Q, Q, v30, v31, v32, Q, Q, Q, Q, Q, Q, Q, Q, Q, Q, Q, Q, Q, Q, Q], []⟩ m
noncomputable def k_f51_3 (v0 v1 v2 v9 v30 v31 v32 : AV) (m : Mem) : Option (AOut × Mem) := K_f51_3 ⟨[v0, v1, v2, Q, Q, Q, Q, Q, Q, v9, Q, Q, Q, Q, Q, Q, Q, Q, Q, Q, Q, Q, Q, Q, Q, Q, Q, Q, Q, Q, v30, v31, v32, Q, Q, Q, Q, Q, Q, Q, Q, Q, Q, Q, Q, Q, Q, Q], []⟩ m
theorem e_f51 (v0 v1 v2 : AV) (m : Mem) : w_f51 v0 v1 v2 m =
  retK (w_f82 v0 v1 m) (fun v14 m1 =>
  bnd (rLookup A_int A_int m1 v2 v14 true) fun v18 =>
  bnd (aExtract v18 0) fun v19 =>
  bnd (aExtract v18 1) fun v20 =>
  onBool v20
    (some (.ret v19, m1))
    (k_f51_0 v0 v14 v2 v19 m1)) (fun u m1 => some (.pan u, m1)) := (aW_F (c := c_f51) (fn := Try.f51) (by kernel_rfl) (by kernel_rfl) (by kernel_rfl) _ m).trans (by kernel_rfl)
theorem k_f51_0_eq (v0 v1 v2 v7 : AV) (m : Mem) : k_f51_0 v0 v1 v2 v7 m =
  nilK v0
  (bnd (rFieldAddr 0 v0) fun v25 =>
  bnd (rLoad false 1 m v25) fun v26 =>
  bnd (rIxAddrSl 4 v26 v1) fun v28 =>
  bnd (rFieldAddr 2 v28) fun v29 =>
  bnd (rLoad false 1 m v29) fun v30 =>
  bnd (rLenSl v30) fun v31 =>
  l_f51_0 v0 v1 v2 (.int .i64 1) v30 v31 (.int .i64 0) m) := by kernel_rfl
theorem k_f51_1_eq (v0 v1 v2 v9 v30 v31 v32 : AV) (m : Mem) : k_f51_1 v0 v1 v2 v9 v30 v31 v32 m =
  bnd (rMapUpdate A_int m v2 v1 v9) fun m1 =>
  some (.ret v9, m1) := by kernel_rfl
theorem l_f51_0_u (v0 v1 v2 v9 v30 v31 v32 : AV) (m : Mem) : l_f51_0 v0 v1 v2 v9 v30 v31 v32 m = loopK X F_f51 0 (sB (sB (sR (sL (sR (sR (sR (sR c_f51)))))))) B_f51_0 ⟨[v0, v1, v2, Q, Q, Q, Q, Q, Q, v9, Q, Q, Q, Q, Q, Q, Q, Q, Q, Q, Q, Q, Q, Q, Q, Q, Q, Q, Q, Q, v30, v31, v32, Q, Q, Q, Q, Q, Q, Q, Q, Q, Q, Q, Q, Q, Q, Q], []⟩ m := by kernel_rfl
theorem l_f51_0_r (v0 v1 v2 v9 v30 v31 v32 : AV) (m : Mem) : roundF X F_f51 0 (sB (sB (sR (sL (sR (sR (sR (sR c_f51)))))))) B_f51_0 [v0, v1, v2, Q, Q, Q, Q, Q, Q, v9, Q, Q, Q, Q, Q, Q, Q, Q, Q, Q, Q, Q, Q, Q, Q, Q, Q, Q, Q, Q, v30, v31, v32, Q, Q, Q, Q, Q, Q, Q, Q, Q, Q, Q, Q, Q, Q, Q] m =
  bnd (aBin X.T .lss T_int false false v32 v31) fun v33 =>
  onBool v33
    (k_f51_2 v0 v1 v2 v9 v30 v31 v32 m)
    (k_f51_1 v0 v1 v2 v9 v30 v31 v32 m) := by kernel_rfl
theorem l_f51_0_eq (v0 v1 v2 v9 v30 v31 v32 : AV) (m : Mem) : l_f51_0 v0 v1 v2 v9 v30 v31 v32 m =
  bnd (aBin X.T .lss T_int false false v32 v31) fun v33 =>
  onBool v33
    (k_f51_2 v0 v1 v2 v9 v30 v31 v32 m)
    (k_f51_1 v0 v1 v2 v9 v30 v31 v32 m) := roundF_of (l_f51_0_u v0 v1 v2 v9 v30 v31 v32 m) (l_f51_0_r v0 v1 v2 v9 v30 v31 v32 m)
theorem k_f51_2_eq (v0 v1 v2 v9 v30 v31 v32 : AV) (m : Mem) : k_f51_2 v0 v1 v2 v9 v30 v31 v32 m =
  bnd (rIxAddrSl 1 v30 v32) fun v34 =>
  bnd (rLoad false 1 m v34) fun v35 =>
  retK (w_f51 v0 v35 v2 m) (fun v40 m1 =>
  bnd (aBin X.T .add T_int false false v9 v40) fun v41 =>
  bnd (aMin v41 [(.int .i64 301)]) fun v42 =>
  k_f51_3 v0 v1 v2 v42 v30 v31 v32 m1) (fun u m1 => some (.pan u, m1)) := by kernel_rfl
theorem k_f51_3_eq (v0 v1 v2 v9 v30 v31 v32 : AV) (m : Mem) : k_f51_3 v0 v1 v2 v9 v30 v31 v32 m =
  bnd (aBin X.T .add T_int false true v32 (.int .i64 1)) fun v43 =>
  l_f51_0 v0 v1 v2 v9 v30 v31 v43 m := by kernel_rfl
noncomputable def c_f52 : Code := bodyOf Try.f52
theorem e_f52 (v0 v1 : AV) (m : Mem) : w_f52 v0 v1 m =
  memK (aBox m v0) fun v2 m1 =>
  bnd (aBin X.T .geq T_int false true v1 (.int .i64 0)) fun v6 =>
  onWant v6
    (bnd (rFieldAddr 0 v2) fun v9 =>
  bnd (rLoad false 1 m1 v9) fun v10 =>
  bnd (rLenSl v10) fun v11 =>
  bnd (aBin X.T .lss T_int false false v1 v11) fun v12 =>
  some (.ret v12, m1))
    (some (.ret (.bool false), m1))
    (none) := (aW_F (c := c_f52) (fn := Try.f52) (by kernel_rfl) (by kernel_rfl) (by kernel_rfl) _ m).trans (by kernel_rfl)
noncomputable def c_f53 : Code := bodyOf Try.f53
noncomputable def N_f53 : AAct → Mem → Option (AOut × Mem) := finK X.T Try.f53.results.toList .normal
noncomputable def P_f53 : AExit → AAct → Mem → Option (AOut × Mem) := finK X.T Try.f53.results.toList
noncomputable def K_f53_0 : AAct → Mem → Option (AOut × Mem) := execF X F_f53 0 (sR (sR (sR c_f53))) N_f53 P_f53
noncomputable def K_f53_1 : AAct → Mem → Option (AOut × Mem) := execF X F_f53 0 (sR (sR (sR (sR (sR c_f53))))) N_f53 P_f53
noncomputable def B_f53_0 : AExit → AAct → Mem → Option (AOut × Mem) := blockX 0 K_f53_1 P_f53
noncomputable def L_f53_0 : AAct → Mem → Option (AOut × Mem) := fun a m => killF (X.lk F_f53 0) a.tmps fun l => loopK X F_f53 0 (sB (sB (sR (sL (sR (sR (sR (sR c_f53)))))))) B_f53_0 ⟨l, a.defers⟩ m
noncomputable def K_f53_2 : AAct → Mem → Option (AOut × Mem) := execF X F_f53 0 (sR (sB (sB (sR (sL (sR (sR (sR (sR c_f53))))))))) L_f53_0 B_f53_0
noncomputable def K_f53_3 : AAct → Mem → Option (AOut × Mem) := execF X F_f53 0 (sR (sR (sB (sB (sR (sL (sR (sR (sR (sR c_f53)))))))))) L_f53_0 B_f53_0
noncomputable def k_f53_0 (v1 v2 v3 : AV) (m : Mem) : Option (AOut × Mem) := K_f53_0 ⟨[Q, v1, v2, v3, Q, Q, Q, Q, Q, Q, Q, Q, Q, Q, Q, Q, Q, Q, Q, Q, Q, Q, Q, Q, Q, Q, Q, Q, Q, Q, Q, Q, Q, Q, Q, Q, Q, Q, Q, Q, Q, Q, Q, Q, Q, Q, Q, Q, Q, Q, Q, Q, Q], []⟩ m
noncomputable def k_f53_1 (v1 v2 v3 v7 v8 : AV) (m : Mem) : Option (AOut × Mem) := K_f53_1 ⟨[Q, v1, v2, v3, Q, Q, Q, v7, v8, Q, Q, Q, Q, Q, Q, Q, Q, Q, Q, Q, Q, Q, Q, Q, Q, Q, Q, Q, Q, Q, Q, Q, Q, Q, Q, Q, Q, Q, Q, Q, Q, Q, Q, Q, Q, Q, Q, Q, Q, Q, Q, Q, Q], []⟩ m
noncomputable def l_f53_0 (v1 v2 v3 v7 v8 : AV) (m : Mem) : Option (AOut × Mem) := L_f53_0 ⟨[Q, v1, v2, v3, Q, Q, Q, v7, v8, Q, Q, Q, Q, Q, Q, Q, Q, Q, Q, Q, Q, Q, Q, Q, Q, Q, Q, Q, Q, Q, Q, Q, Q, Q, Q, Q, Q, Q, Q, Q, Q, Q, Q, Q, Q, Q, Q, Q, Q, Q, Q, Q, Q], []⟩ m
noncomputable def k_f53_2 (v1 v2 v3 v7 v8 : AV) (m : Mem) : Option (AOut × Mem) := K_f53_2 ⟨[Q, v1, v2, v3, Q, Q, Q, v7, v8, Q, Q, Q, Q, Q, Q, Q, Q, Q, Q, Q, Q, Q, Q, Q, Q, Q, Q, Q, Q, Q, Q, Q, Q, Q, Q, Q, Q, Q, Q, Q, Q, Q, Q, Q, Q, Q, Q, Q, Q, Q, Q, Q, Q], []⟩ m
noncomputable def k_f53_3 (v1 v2 v3 v7 v8 : AV) (m : Mem) : Option (AOut × Mem) := K_f53_3 ⟨[Q, v1, v2, v3, Q, Q, Q, v7, v8, Q, Q, Q, Q, Q, Q, Q, Q, Q, Q, Q, Q, Q, Q, Q, Q, Q, Q, Q, Q, Q, Q, Q, Q, Q, Q, Q, Q, Q, Q, Q, Q, Q, Q, Q, Q, Q, Q, Q, Q, Q, Q, Q, Q], []⟩ m
theorem e_f53 (v0 v1 v2 : AV) (m : Mem) : w_f53 v0 v1 v2 m =
  memK (aBox m v0) fun v3 m1 =>
  bnd (rLoad true 1 m1 v3) fun v9 =>
  retK (w_f83 v9 v1 m1) (fun v11 m2 =>
  bnd (rIxAddrSl 1 v2 v11) fun v14 =>
  bnd (rLoad false 1 m2 v14) fun v15 =>
  bnd (aBin X.T .gtr T_int false true v15 (.int .i64 0)) fun v16 =>
  onBool v16
    (bnd (rIxAddrSl 1 v2 v11) fun v19 =>
    bnd (rLoad false 1 m2 v19) fun v20 =>
    some (.ret v20, m2))
    (k_f53_0 v11 v2 v3 m2)) (fun u m2 => some (.pan u, m2)) := (aW_F (c := c_f53) (fn := Try.f53) (by kernel_rfl) (by kernel_rfl) (by kernel_rfl) _ m).trans (by kernel_rfl)
theorem k_f53_0_eq (v1 v2 v3 : AV) (m : Mem) : k_f53_0 v1 v2 v3 m =
  l_f53_0 v1 v2 v3 (.int .i64 1) (.int .i64 0) m := by kernel_rfl
theorem k_f53_1_eq (v1 v2 v3 v7 v8 : AV) (m : Mem) : k_f53_1 v1 v2 v3 v7 v8 m =
  bnd (rIxAddrSl 1 v2 v1) fun v51 =>
  bnd (rStore 1 m v51 v7) fun m1 =>
  some (.ret v7, m1) := by kernel_rfl
theorem l_f53_0_u (v1 v2 v3 v7 v8 : AV) (m : Mem) : l_f53_0 v1 v2 v3 v7 v8 m = loopK X F_f53 0 (sB (sB (sR (sL (sR (sR (sR (sR c_f53)))))))) B_f53_0 ⟨[Q, v1, v2, v3, Q, Q, Q, v7, v8, Q, Q, Q, Q, Q, Q, Q, Q, Q, Q, Q, Q, Q, Q, Q, Q, Q, Q, Q, Q, Q, Q, Q, Q, Q, Q, Q, Q, Q, Q, Q, Q, Q, Q, Q, Q, Q, Q, Q, Q, Q, Q, Q, Q], []⟩ m := by kernel_rfl
theorem l_f53_0_r (v1 v2 v3 v7 v8 : AV) (m : Mem) : roundF X F_f53 0 (sB (sB (sR (sL (sR (sR (sR (sR c_f53)))))))) B_f53_0 [Q, v1, v2, v3, Q, Q, Q, v7, v8, Q, Q, Q, Q, Q, Q, Q, Q, Q, Q, Q, Q, Q, Q, Q, Q, Q, Q, Q, Q, Q, Q, Q, Q, Q, Q, Q, Q, Q, Q, Q, Q, Q, Q, Q, Q, Q, Q, Q, Q, Q, Q, Q, Q] m =
  bnd (rFieldAddr 0 v3) fun v22 =>
  bnd (rLoad false 1 m v22) fun v23 =>
  bnd (rIxAddrSl 4 v23 v1) fun v25 =>
  bnd (rFieldAddr 2 v25) fun v26 =>
  bnd (rLoad false 1 m v26) fun v27 =>
  bnd (rLenSl v27) fun v28 =>
  bnd (aBin X.T .lss T_int false false v8 v28) fun v29 =>
  onBool v29
    (k_f53_2 v1 v2 v3 v7 v8 m)
    (k_f53_1 v1 v2 v3 v7 v8 m) := by kernel_rfl
theorem l_f53_0_eq (v1 v2 v3 v7 v8 : AV) (m : Mem) : l_f53_0 v1 v2 v3 v7 v8 m =
  bnd (rFieldAddr 0 v3) fun v22 =>
  bnd (rLoad false 1 m v22) fun v23 =>
  bnd (rIxAddrSl 4 v23 v1) fun v25 =>
  bnd (rFieldAddr 2 v25) fun v26 =>
  bnd (rLoad false 1 m v26) fun v27 =>
  bnd (rLenSl v27) fun v28 =>
  bnd (aBin X.T .lss T_int false false v8 v28) fun v29 =>
  onBool v29
    (k_f53_2 v1 v2 v3 v7 v8 m)
    (k_f53_1 v1 v2 v3 v7 v8 m) := roundF_of (l_f53_0_u v1 v2 v3 v7 v8 m) (l_f53_0_r v1 v2 v3 v7 v8 m)
theorem k_f53_2_eq (v1 v2 v3 v7 v8 : AV) (m : Mem) : k_f53_2 v1 v2 v3 v7 v8 m =
  bnd (rLoad true 1 m v3) fun v33 =>
  bnd (rFieldAddr 0 v3) fun v34 =>
  bnd (rLoad false 1 m v34) fun v35 =>
  bnd (rIxAddrSl 4 v35 v1) fun v37 =>
  bnd (rFieldAddr 2 v37) fun v38 =>
  bnd (rLoad false 1 m v38) fun v39 =>
  bnd (rIxAddrSl 1 v39 v8) fun v41 =>
  bnd (rLoad false 1 m v41) fun v42 =>
  retK (w_f53 v33 v42 v2 m) (fun v44 m1 =>
  bnd (aBin X.T .add T_int false false v7 v44) fun v45 =>
  bnd (aBin X.T .gtr T_int false true v45 (.int .i64 301)) fun v47 =>
  onBool v47
    (k_f53_3 v1 v2 v3 (.int .i64 301) v8 m1)
    (k_f53_3 v1 v2 v3 v45 v8 m1)) (fun u m1 => none) := by kernel_rfl
theorem k_f53_3_eq (v1 v2 v3 v7 v8 : AV) (m : Mem) : k_f53_3 v1 v2 v3 v7 v8 m =
  bnd (aBin X.T .add T_int false true v8 (.int .i64 1)) fun v31 =>
  l_f53_0 v1 v2 v3 v7 v31 m := by kernel_rfl
noncomputable def c_f54 : Code := bodyOf Try.f54
noncomputable def N_f54 : AAct → Mem → Option (AOut × Mem) := finK X.T Try.f54.results.toList .normal
noncomputable def P_f54 : AExit → AAct → Mem → Option (AOut × Mem) := finK X.T Try.f54.results.toList
noncomputable def K_f54_0 : AAct → Mem → Option (AOut × Mem) := execF X F_f54 0 (sR (sR (sR (sR c_f54)))) N_f54 P_f54
noncomputable def K_f54_1 : AAct → Mem → Option (AOut × Mem) := execF X F_f54 0 (sR (sR (sL (sR (sL (sR (sR (sR c_f54)))))))) K_f54_0 P_f54
noncomputable def K_f54_2 : AAct → Mem → Option (AOut × Mem) := execF X F_f54 0 (sR (sR (sR (sR (sR (sR c_f54)))))) N_f54 P_f54
noncomputable def B_f54_0 : AExit → AAct → Mem → Option (AOut × Mem) := blockX 0 K_f54_2 P_f54
noncomputable def L_f54_0 : AAct → Mem → Option (AOut × Mem) := fun a m => killF (X.lk F_f54 0) a.tmps fun l => loopK X F_f54 0 (sB (sB (sR (sL (sR (sR (sR (sR (sR c_f54))))))))) B_f54_0 ⟨l, a.defers⟩ m
noncomputable def K_f54_3 : AAct → Mem → Option (AOut × Mem) := execF X F_f54 0 (sR (sR (sB (sB (sR (sL (sR (sR (sR (sR (sR c_f54))))))))))) L_f54_0 B_f54_0
noncomputable def K_f54_4 : AAct → Mem → Option (AOut × Mem) := execF X F_f54 0 (sR (sR (sR (sB (sB (sR (sL (sR (sR (sR (sR (sR c_f54)))))))))))) L_f54_0 B_f54_0
noncomputable def k_f54_0 (v0 v1 v2 v6 v7 : AV) (m : Mem) : Option (AOut × Mem) := K_f54_0 ⟨[v0, v1, v2, Q, Q, Q, v6, v7, Q, Q, Q, Q, Q, Q, Q, Q, Q, Q, Q, Q, Q, Q, Q, Q, Q, Q, Q, Q, Q, Q, Q, Q, Q, Q, Q, Q, Q, Q, Q, Q, Q, Q, Q, Q, Q, Q, Q, Q, Q, Q, Q, Q, Q, Q, Q, Q, Q, Q, Q, Q, Q, Q, Q, Q], []⟩ m
noncomputable def k_f54_1 (v1 v2 v6 v8 : AV) (m : Mem) : Option (AOut × Mem) := K_f54_1 ⟨[Q, v1, v2, Q, Q, Q, v6, Q, v8, Q, Q, Q, Q, Q, Q, Q, Q, Q, Q, Q, Q, Q, Q, Q, Q, Q, Q, Q, Q, Q, Q, Q, Q, Q, Q, Q, Q, Q, Q, Q, Q, Q, Q, Q, Q, Q, Q, Q, Q, Q, Q, Q, Q, Q, Q, Q, Q, Q, Q, Q, Q, Q, Q, Q], []⟩ m
noncomputable def k_f54_2 (v0 v2 v6 v10 v47 v48 v49 : AV) (m : Mem) : Option (AOut × Mem) := K_f54_2 ⟨[v0, Q, v2, Q, Q, Q, v6, Q, Q, Q, v10, Q, Q, Q, Q, Q, Q, Q, Q, Q, Q, Q, Q, Q, Q, Q, Q, Q, Q, Q, Q, Q, Q, Q, Q, Q, Q, Q, Q, Q, Q, Q, Q, Q, Q, Q, Q, v47, v48, v49, Q, Q, Q, Q, Q, Q, Q, Q, Q, Q, Q, Q, Q, Q], []⟩ m
noncomputable def l_f54_0 (v0 v2 v6 v10 v47 v48 v49 : AV) (m : Mem) : Option (AOut × Mem) := L_f54_0 ⟨[v0, Q, v2, Q, Q, Q, v6, Q, Q, Q, v10, Q, Q, Q, Q, Q, Q, Q, Q, Q, Q, Q, Q, Q, Q, Q, Q, Q, Q, Q, Q, Q, Q, Q, Q, Q, Q, Q, Q, Q, Q, Q, Q, Q, Q, Q, Q, v47, v48, v49, Q, Q, Q, Q, Q, Q, Q, Q, Q, Q, Q, Q, Q, Q], []⟩ m
noncomputable def k_f54_3 (v0 v2 v6 v10 v47 v48 v49 : AV) (m : Mem) : Option (AOut × Mem) := K_f54_3 ⟨[v0, Q, v2, Q, Q, Q, v6, Q, Q, Q, v10, Q, Q, Q, Q, Q, Q, Q, Q, Q, Q, Q, Q, Q, Q, Q, Q, Q, Q, Q, Q, Q, Q, Q, Q, Q, Q, Q, Q, Q, Q, Q, Q, Q, Q, Q, Q, v47, v48, v49, Q, Q, Q, Q, Q, Q, Q, Q, Q, Q, Q, Q, Q, Q], []⟩ m
noncomputable def k_f54_4 (v0 v2 v6 v10 v47 v48 v49 : AV) (m : Mem) : Option (AOut × Mem) := K_f54_4 ⟨[v0, Q, v2, Q, Q, Q, v6, Q, Q, Q, v10, Q, Q, Q, Q, Q, Q, Q, Q, Q, Q, Q, Q, Q, Q, Q, Q, Q, Q, Q, Q, Q, Q, Q, Q, Q, Q, Q, Q, Q, Q, Q, Q, Q, Q, Q, Q, v47, v48, v49, Q, Q, Q, Q, Q, Q, Q, Q, Q, Q, Q, Q, Q, Q], []⟩ m
theorem e_f54 (v0 v1 v2 : AV) (m : Mem) : w_f54 v0 v1 v2 m =
  memK (aBox m (.agg [.int .i64 0, .int .i64 0, .str (bs []), .nils])) fun v6 m1 =>
  retK (w_f82 v0 v1 m1) (fun v15 m2 =>
  nilK v0
  (bnd (rFieldAddr 0 v0) fun v18 =>
  bnd (rLoad false 1 m2 v18) fun v19 =>
  bnd (rIxAddrSl 4 v19 v15) fun v21 =>
  bnd (rLoad true 4 m2 v21) fun v22 =>
  memK (aBox m2 (.agg [.int .i64 0, .str (bs []), .nils, .int .i64 0])) fun v7 m3 =>
  bnd (rStore 4 m3 v7 v22) fun m4 =>
  bnd (rFieldAddr 0 v7) fun v23 =>
  bnd (rLoad false 1 m4 v23) fun v24 =>
  bnd (aBin X.T .eql T_int false true v24 (.int .i64 1)) fun v25 =>
  onBool v25
    (bnd (rLookup A_int A_int m4 v2 v15 true) fun v29 =>
    bnd (aExtract v29 0) fun v30 =>
    bnd (aExtract v29 1) fun v31 =>
    bnd (aUn .not v31) fun v33 =>
    onBool v33
      (bnd (rLenMap m4 v2) fun v35 =>
      bnd (rMapUpdate A_int m4 v2 v15 v35) fun m5 =>
      k_f54_1 .undef .undef v6 v35 m5)
      (k_f54_1 v15 v2 v6 v30 m4))
    (k_f54_0 v0 v15 v2 v6 v7 m4))) (fun u m2 => some (.pan u, m2)) := (aW_F (c := c_f54) (fn := Try.f54) (by kernel_rfl) (by kernel_rfl) (by kernel_rfl) _ m).trans (by kernel_rfl)
theorem k_f54_0_eq (v0 v1 v2 v6 v7 : AV) (m : Mem) : k_f54_0 v0 v1 v2 v6 v7 m =
  bnd (rFieldAddr 0 v7) fun v41 =>
  bnd (rLoad false 1 m v41) fun v42 =>
  bnd (rFieldAddr 1 v7) fun v43 =>
  bnd (rLoad false 1 m v43) fun v44 =>
  bnd (rBuild [.int .i64 0, .int .i64 0, .str (bs []), .nils] [(0, 1, v42), (2, 1, v44)]) fun v45 =>
  memK (aBox m (.agg [.int .i64 0, .int .i64 0, .str (bs []), .nils])) fun v10 m1 =>
  bnd (rStore 4 m1 v10 v45) fun m2 =>
  bnd (rFieldAddr 2 v7) fun v46 =>
  bnd (rLoad false 1 m2 v46) fun v47 =>
  bnd (rLenSl v47) fun v48 =>
  l_f54_0 v0 v2 v6 v10 v47 v48 (.int .i64 0) m2 := by kernel_rfl
theorem k_f54_1_eq (v1 v2 v6 v8 : AV) (m : Mem) : k_f54_1 v1 v2 v6 v8 m =
  bnd (rBuild [.int .i64 0, .int .i64 0, .str (bs []), .nils] [(0, 1, (.int .i64 1)), (1, 1, v8)]) fun v40 =>
  bnd (rStore 4 m v6 v40) fun m1 =>
  bnd (rLoad true 4 m1 v6) fun vr0 =>
  some (.ret vr0, m1) := by kernel_rfl
theorem k_f54_2_eq (v0 v2 v6 v10 v47 v48 v49 : AV) (m : Mem) : k_f54_2 v0 v2 v6 v10 v47 v48 v49 m =
  bnd (rLoad true 4 m v10) fun v63 =>
  bnd (rStore 4 m v6 v63) fun m1 =>
  bnd (rLoad true 4 m1 v6) fun vr0 =>
  some (.ret vr0, m1) := by kernel_rfl
theorem l_f54_0_u (v0 v2 v6 v10 v47 v48 v49 : AV) (m : Mem) : l_f54_0 v0 v2 v6 v10 v47 v48 v49 m = loopK X F_f54 0 (sB (sB (sR (sL (sR (sR (sR (sR (sR c_f54))))))))) B_f54_0 ⟨[v0, Q, v2, Q, Q, Q, v6, Q, Q, Q, v10, Q, Q, Q, Q, Q, Q, Q, Q, Q, Q, Q, Q, Q, Q, Q, Q, Q, Q, Q, Q, Q, Q, Q, Q, Q, Q, Q, Q, Q, Q, Q, Q, Q, Q, Q, Q, v47, v48, v49, Q, Q, Q, Q, Q, Q, Q, Q, Q, Q, Q, Q, Q, Q], []⟩ m := by kernel_rfl
theorem l_f54_0_r (v0 v2 v6 v10 v47 v48 v49 : AV) (m : Mem) : roundF X F_f54 0 (sB (sB (sR (sL (sR (sR (sR (sR (sR c_f54))))))))) B_f54_0 [v0, Q, v2, Q, Q, Q, v6, Q, Q, Q, v10, Q, Q, Q, Q, Q, Q, Q, Q, Q, Q, Q, Q, Q, Q, Q, Q, Q, Q, Q, Q, Q, Q, Q, Q, Q, Q, Q, Q, Q, Q, Q, Q, Q, Q, Q, Q, v47, v48, v49, Q, Q, Q, Q, Q, Q, Q, Q, Q, Q, Q, Q, Q, Q] m =
  bnd (aBin X.T .lss T_int false false v49 v48) fun v50 =>
  onBool v50
    (k_f54_3 v0 v2 v6 v10 v47 v48 v49 m)
    (k_f54_2 v0 v2 v6 v10 v47 v48 v49 m) := by kernel_rfl
theorem l_f54_0_eq (v0 v2 v6 v10 v47 v48 v49 : AV) (m : Mem) : l_f54_0 v0 v2 v6 v10 v47 v48 v49 m =
  bnd (aBin X.T .lss T_int false false v49 v48) fun v50 =>
  onBool v50
    (k_f54_3 v0 v2 v6 v10 v47 v48 v49 m)
    (k_f54_2 v0 v2 v6 v10 v47 v48 v49 m) := roundF_of (l_f54_0_u v0 v2 v6 v10 v47 v48 v49 m) (l_f54_0_r v0 v2 v6 v10 v47 v48 v49 m)
theorem k_f54_3_eq (v0 v2 v6 v10 v47 v48 v49 : AV) (m : Mem) : k_f54_3 v0 v2 v6 v10 v47 v48 v49 m =
  bnd (rIxAddrSl 1 v47 v49) fun v51 =>
  bnd (rLoad false 1 m v51) fun v52 =>
  bnd (rFieldAddr 3 v10) fun v53 =>
  bnd (rLoad false 1 m v53) fun v54 =>
  retK (w_f54 v0 v52 v2 m) (fun v58 m1 =>
  bnd (rBuildSlice A_api_Type 1 [(0, v58)]) fun v59 =>
  memK (rAppend A_api_Type 0 m1 v54 v59) fun v60 m2 =>
  bnd (rFieldAddr 3 v10) fun v61 =>
  bnd (rStore 1 m2 v61 v60) fun m3 =>
  bnd (rLoad false 1 m1 v53) fun u =>
  sameK u v54 <|
  k_f54_4 v0 v2 v6 v10 v47 v48 v49 m3) (fun u m1 => none) := by kernel_rfl
theorem k_f54_4_eq (v0 v2 v6 v10 v47 v48 v49 : AV) (m : Mem) : k_f54_4 v0 v2 v6 v10 v47 v48 v49 m =
  bnd (aBin X.T .add T_int false true v49 (.int .i64 1)) fun v62 =>
  l_f54_0 v0 v2 v6 v10 v47 v48 v62 m := by kernel_rfl
noncomputable def c_f55 : Code := bodyOf Try.f55
noncomputable def N_f55 : AAct → Mem → Option (AOut × Mem) := finK X.T Try.f55.results.toList .normal
noncomputable def P_f55 : AExit → AAct → Mem → Option (AOut × Mem) := finK X.T Try.f55.results.toList
noncomputable def K_f55_0 : AAct → Mem → Option (AOut × Mem) := execF X F_f55 0 (sR (sR (sR (sR c_f55)))) N_f55 P_f55
noncomputable def K_f55_1 : AAct → Mem → Option (AOut × Mem) := execF X F_f55 0 (sR (sR (sR (sR (sR (sR c_f55)))))) N_f55 P_f55
noncomputable def B_f55_0 : AExit → AAct → Mem → Option (AOut × Mem) := blockX 0 K_f55_1 P_f55
noncomputable def L_f55_0 : AAct → Mem → Option (AOut × Mem) := fun a m => killF (X.lk F_f55 0) a.tmps fun l => loopK X F_f55 0 (sB (sB (sR (sL (sR (sR (sR (sR (sR c_f55))))))))) B_f55_0 ⟨l, a.defers⟩ m
noncomputable def K_f55_2 : AAct → Mem → Option (AOut × Mem) := execF X F_f55 0 (sR (sB (sB (sR (sL (sR (sR (sR (sR (sR c_f55)))))))))) L_f55_0 B_f55_0
noncomputable def K_f55_3 : AAct → Mem → Option (AOut × Mem) := execF X F_f55 0 (sR (sR (sB (sB (sR (sL (sR (sR (sR (sR (sR c_f55))))))))))) L_f55_0 B_f55_0
noncomputable def k_f55_0 (v1 v2 v4 v5 : AV) (m : Mem) : Option (AOut × Mem) := K_f55_0 ⟨[Q, v1, v2, Q, v4, v5, Q, Q, Q, Q, Q, Q, Q, Q, Q, Q, Q, Q, Q, Q, Q, Q, Q, Q, Q, Q, Q, Q, Q, Q, Q, Q, Q, Q, Q, Q, Q, Q, Q, Q, Q, Q, Q, Q, Q, Q], []⟩ m
noncomputable def k_f55_1 (v2 v4 v5 v6 v7 : AV) (m : Mem) : Option (AOut × Mem) := K_f55_1 ⟨[Q, Q, v2, Q, v4, v5, v6, v7, Q, Q, Q, Q, Q, Q, Q, Q, Q, Q, Q, Q, Q, Q, Q, Q, Q, Q, Q, Q, Q, Q, Q, Q, Q, Q, Q, Q, Q, Q, Q, Q, Q, Q, Q, Q, Q, Q], []⟩ m
noncomputable def l_f55_0 (v2 v4 v5 v6 v7 : AV) (m : Mem) : Option (AOut × Mem) := L_f55_0 ⟨[Q, Q, v2, Q, v4, v5, v6, v7, Q, Q, Q, Q, Q, Q, Q, Q, Q, Q, Q, Q, Q, Q, Q, Q, Q, Q, Q, Q, Q, Q, Q, Q, Q, Q, Q, Q, Q, Q, Q, Q, Q, Q, Q, Q, Q, Q], []⟩ m
noncomputable def k_f55_2 (v2 v4 v5 v6 v7 : AV) (m : Mem) : Option (AOut × Mem) := K_f55_2 ⟨[Q, Q, v2, Q, v4, v5, v6, v7, Q, Q, Q, Q, Q, Q, Q, Q, Q, Q, Q, Q, Q, Q, Q, Q, Q, Q, Q, Q, Q, Q, Q, Q, Q, Q, Q, Q, Q, Q, Q, Q, Q, Q, Q, Q, Q, Q], []⟩ m
noncomputable def k_f55_3 (v2 v4 v5 v6 v7 : AV) (m : Mem) : Option (AOut × Mem) := K_f55_3 ⟨[Q, Q, v2, Q, v4, v5, v6, v7, Q, Q, Q, Q, Q, Q, Q, Q, Q, Q, Q, Q, Q, Q, Q, Q, Q, Q, Q, Q, Q, Q, Q, Q, Q, Q, Q, Q, Q, Q, Q, Q, Q, Q, Q, Q, Q, Q], []⟩ m
theorem e_f55 (v0 v1 : AV) (m : Mem) : w_f55 v0 v1 m =
  memK (aBox m v0) fun v2 m1 =>
  memK (aBox m1 (.agg [.int .i64 0, .int .i64 0, .str (bs []), .nils])) fun v4 m2 =>
  bnd (rLoad true 1 m2 v2) fun v8 =>
  retK (w_f83 v8 v1 m2) (fun v10 m3 =>
  bnd (rFieldAddr 0 v2) fun v11 =>
  bnd (rLoad false 1 m3 v11) fun v12 =>
  bnd (rIxAddrSl 4 v12 v10) fun v14 =>
  bnd (rLoad true 4 m3 v14) fun v15 =>
  memK (aBox m3 (.agg [.int .i64 0, .str (bs []), .nils, .int .i64 0])) fun v5 m4 =>
  bnd (rStore 4 m4 v5 v15) fun m5 =>
  bnd (rFieldAddr 0 v5) fun v16 =>
  bnd (rLoad false 1 m5 v16) fun v17 =>
  bnd (aBin X.T .eql T_int false true v17 (.int .i64 1)) fun v18 =>
  onBool v18
    (bnd (rBuild [.int .i64 0, .int .i64 0, .str (bs []), .nils] [(0, 1, (.int .i64 1)), (1, 1, v10)]) fun v20 =>
    bnd (rStore 4 m5 v4 v20) fun m6 =>
    bnd (rLoad true 4 m6 v4) fun vr0 =>
    some (.ret vr0, m6))
    (k_f55_0 v10 v2 v4 v5 m5)) (fun u m3 => some (.pan u, m3)) := (aW_F (c := c_f55) (fn := Try.f55) (by kernel_rfl) (by kernel_rfl) (by kernel_rfl) _ m).trans (by kernel_rfl)
theorem k_f55_0_eq (v1 v2 v4 v5 : AV) (m : Mem) : k_f55_0 v1 v2 v4 v5 m =
  bnd (rFieldAddr 0 v5) fun v21 =>
  bnd (rLoad false 1 m v21) fun v22 =>
  bnd (rFieldAddr 1 v5) fun v23 =>
  bnd (rLoad false 1 m v23) fun v24 =>
  bnd (rBuild [.int .i64 0, .int .i64 0, .str (bs []), .nils] [(0, 1, v22), (2, 1, v24)]) fun v25 =>
  memK (aBox m (.agg [.int .i64 0, .int .i64 0, .str (bs []), .nils])) fun v6 m1 =>
  bnd (rStore 4 m1 v6 v25) fun m2 =>
  l_f55_0 v2 v4 v5 v6 (.int .i64 0) m2 := by kernel_rfl
theorem k_f55_1_eq (v2 v4 v5 v6 v7 : AV) (m : Mem) : k_f55_1 v2 v4 v5 v6 v7 m =
  bnd (rLoad true 4 m v6) fun v45 =>
  bnd (rStore 4 m v4 v45) fun m1 =>
  bnd (rLoad true 4 m1 v4) fun vr0 =>
  some (.ret vr0, m1) := by kernel_rfl
theorem l_f55_0_u (v2 v4 v5 v6 v7 : AV) (m : Mem) : l_f55_0 v2 v4 v5 v6 v7 m = loopK X F_f55 0 (sB (sB (sR (sL (sR (sR (sR (sR (sR c_f55))))))))) B_f55_0 ⟨[Q, Q, v2, Q, v4, v5, v6, v7, Q, Q, Q, Q, Q, Q, Q, Q, Q, Q, Q, Q, Q, Q, Q, Q, Q, Q, Q, Q, Q, Q, Q, Q, Q, Q, Q, Q, Q, Q, Q, Q, Q, Q, Q, Q, Q, Q], []⟩ m := by kernel_rfl
theorem l_f55_0_r (v2 v4 v5 v6 v7 : AV) (m : Mem) : roundF X F_f55 0 (sB (sB (sR (sL (sR (sR (sR (sR (sR c_f55))))))))) B_f55_0 [Q, Q, v2, Q, v4, v5, v6, v7, Q, Q, Q, Q, Q, Q, Q, Q, Q, Q, Q, Q, Q, Q, Q, Q, Q, Q, Q, Q, Q, Q, Q, Q, Q, Q, Q, Q, Q, Q, Q, Q, Q, Q, Q, Q, Q, Q] m =
  bnd (rFieldAddr 2 v5) fun v27 =>
  bnd (rLoad false 1 m v27) fun v28 =>
  bnd (rLenSl v28) fun v29 =>
  bnd (aBin X.T .lss T_int false false v7 v29) fun v30 =>
  onBool v30
    (k_f55_2 v2 v4 v5 v6 v7 m)
    (k_f55_1 v2 v4 v5 v6 v7 m) := by kernel_rfl
theorem l_f55_0_eq (v2 v4 v5 v6 v7 : AV) (m : Mem) : l_f55_0 v2 v4 v5 v6 v7 m =
  bnd (rFieldAddr 2 v5) fun v27 =>
  bnd (rLoad false 1 m v27) fun v28 =>
  bnd (rLenSl v28) fun v29 =>
  bnd (aBin X.T .lss T_int false false v7 v29) fun v30 =>
  onBool v30
    (k_f55_2 v2 v4 v5 v6 v7 m)
    (k_f55_1 v2 v4 v5 v6 v7 m) := roundF_of (l_f55_0_u v2 v4 v5 v6 v7 m) (l_f55_0_r v2 v4 v5 v6 v7 m)
theorem k_f55_2_eq (v2 v4 v5 v6 v7 : AV) (m : Mem) : k_f55_2 v2 v4 v5 v6 v7 m =
  bnd (rFieldAddr 3 v6) fun v33 =>
  bnd (rLoad false 1 m v33) fun v34 =>
  bnd (rLoad true 1 m v2) fun v35 =>
  bnd (rFieldAddr 2 v5) fun v36 =>
  bnd (rLoad false 1 m v36) fun v37 =>
  bnd (rIxAddrSl 1 v37 v7) fun v39 =>
  bnd (rLoad false 1 m v39) fun v40 =>
  retK (w_f55 v35 v40 m) (fun v41 m1 =>
  bnd (rBuildSlice A_api_Type 1 [(0, v41)]) fun v42 =>
  memK (rAppend A_api_Type 0 m1 v34 v42) fun v43 m2 =>
  bnd (rFieldAddr 3 v6) fun v44 =>
  bnd (rStore 1 m2 v44 v43) fun m3 =>
  bnd (rLoad false 1 m1 v33) fun u =>
  sameK u v34 <|
  k_f55_3 v2 v4 v5 v6 v7 m3) (fun u m1 => none) := by kernel_rfl
theorem k_f55_3_eq (v2 v4 v5 v6 v7 : AV) (m : Mem) : k_f55_3 v2 v4 v5 v6 v7 m =
  bnd (aBin X.T .add T_int false true v7 (.int .i64 1)) fun v32 =>
  l_f55_0 v2 v4 v5 v6 v32 m := by kernel_rfl
end Go.AM
