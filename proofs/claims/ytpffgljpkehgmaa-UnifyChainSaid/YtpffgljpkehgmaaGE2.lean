/-
  A part of the proof: equations or tables of the program over the abstract machine, printed by a program of this proof's own.
-/
import Derived.Test.YtpffgljpkehgmaaGCtx
set_option linter.unusedVariables false
set_option linter.unusedSimpArgs false
namespace Go.AM
open Go.Proofs
set_option maxRecDepth 100000
set_option linter.unusedVariables false
noncomputable def c_f8 : Code := bodyOf Try.f8
noncomputable def N_f8 : AAct → Mem → Option (AOut × Mem) := finK X.T Try.f8.results.toList .normal
noncomputable def P_f8 : AExit → AAct → Mem → Option (AOut × Mem) := finK X.T Try.f8.results.toList
noncomputable def K_f8_0 : AAct → Mem → Option (AOut × Mem) := execF X F_f8 0 (sR (sR c_f8)) N_f8 P_f8
noncomputable def K_f8_1 : AAct → Mem → Option (AOut × Mem) := execF X F_f8 0 (sR (sR (sR (sR c_f8)))) N_f8 P_f8
noncomputable def K_f8_2 : AAct → Mem → Option (AOut × Mem) := execF X F_f8 0 (sR (sR (sR (sR (sR (sR c_f8)))))) N_f8 P_f8
noncomputable def K_f8_3 : AAct → Mem → Option (AOut × Mem) := execF X F_f8 0 (sR (sR (sR (sR (sR (sR (sR c_f8))))))) N_f8 P_f8
noncomputable def K_f8_4 : AAct → Mem → Option (AOut × Mem) := execF X F_f8 0 (sR (sL (sR (sR (sR (sR (sR (sR c_f8)))))))) K_f8_3 P_f8
noncomputable def K_f8_5 : AAct → Mem → Option (AOut × Mem) := execF X F_f8 0 (sR (sR (sR (sR (sR (sR (sR (sR c_f8)))))))) N_f8 P_f8
noncomputable def K_f8_6 : AAct → Mem → Option (AOut × Mem) := execF X F_f8 0 (sR (sR (sR (sR (sR (sR (sR (sR (sR (sR c_f8)))))))))) N_f8 P_f8
noncomputable def K_f8_7 : AAct → Mem → Option (AOut × Mem) := execF X F_f8 0 (sR (sL (sR (sR (sR (sR (sR (sR (sR (sR (sR c_f8))))))))))) K_f8_6 P_f8
noncomputable def k_f8_0 (v0 v1 v2 v3 : AV) (m : Mem) : Option (AOut × Mem) := K_f8_0 ⟨[v0, v1, v2, v3, Q, Q, Q, Q, Q, Q, Q, Q, Q, Q, Q, Q, Q, Q, Q, Q, Q, Q, Q, Q, Q, Q, Q, Q, Q, Q, Q, Q, Q, Q, Q, Q, Q, Q, Q, Q, Q, Q, Q, Q, Q, Q, Q, Q, Q, Q, Q, Q, Q, Q, Q, Q, Q, Q, Q, Q, Q, Q, Q, Q, Q, Q, Q, Q, Q, Q, Q, Q, Q, Q, Q, Q, Q, Q, Q, Q, Q, Q, Q, Q, Q, Q, Q, Q, Q, Q, Q, Q, Q, Q, Q, Q, Q, Q, Q, Q, Q, Q, Q, Q, Q, Q, Q, Q, Q, Q, Q, Q, Q, Q, Q, Q], []⟩ m
noncomputable def k_f8_1 (v0 v1 v2 v3 : AV) (m : Mem) : Option (AOut × Mem) := K_f8_1 ⟨[v0, v1, v2, v3, Q, Q, Q, Q, Q, Q, Q, Q, Q, Q, Q, Q, Q, Q, Q, Q, Q, Q, Q, Q, Q, Q, Q, Q, Q, Q, Q, Q, Q, Q, Q, Q, Q, Q, Q, Q, Q, Q, Q, Q, Q, Q, Q, Q, Q, Q, Q, Q, Q, Q, Q, Q, Q, Q, Q, Q, Q, Q, Q, Q, Q, Q, Q, Q, Q, Q, Q, Q, Q, Q, Q, Q, Q, Q, Q, Q, Q, Q, Q, Q, Q, Q, Q, Q, Q, Q, Q, Q, Q, Q, Q, Q, Q, Q, Q, Q, Q, Q, Q, Q, Q, Q, Q, Q, Q, Q, Q, Q, Q, Q, Q, Q], []⟩ m
noncomputable def k_f8_2 (v1 v2 v3 v9 v11 : AV) (m : Mem) : Option (AOut × Mem) := K_f8_2 ⟨[Q, v1, v2, v3, Q, Q, Q, Q, Q, v9, Q, v11, Q, Q, Q, Q, Q, Q, Q, Q, Q, Q, Q, Q, Q, Q, Q, Q, Q, Q, Q, Q, Q, Q, Q, Q, Q, Q, Q, Q, Q, Q, Q, Q, Q, Q, Q, Q, Q, Q, Q, Q, Q, Q, Q, Q, Q, Q, Q, Q, Q, Q, Q, Q, Q, Q, Q, Q, Q, Q, Q, Q, Q, Q, Q, Q, Q, Q, Q, Q, Q, Q, Q, Q, Q, Q, Q, Q, Q, Q, Q, Q, Q, Q, Q, Q, Q, Q, Q, Q, Q, Q, Q, Q, Q, Q, Q, Q, Q, Q, Q, Q, Q, Q, Q, Q], []⟩ m
noncomputable def k_f8_3 (v1 v2 v3 v9 v11 : AV) (m : Mem) : Option (AOut × Mem) := K_f8_3 ⟨[Q, v1, v2, v3, Q, Q, Q, Q, Q, v9, Q, v11, Q, Q, Q, Q, Q, Q, Q, Q, Q, Q, Q, Q, Q, Q, Q, Q, Q, Q, Q, Q, Q, Q, Q, Q, Q, Q, Q, Q, Q, Q, Q, Q, Q, Q, Q, Q, Q, Q, Q, Q, Q, Q, Q, Q, Q, Q, Q, Q, Q, Q, Q, Q, Q, Q, Q, Q, Q, Q, Q, Q, Q, Q, Q, Q, Q, Q, Q, Q, Q, Q, Q, Q, Q, Q, Q, Q, Q, Q, Q, Q, Q, Q, Q, Q, Q, Q, Q, Q, Q, Q, Q, Q, Q, Q, Q, Q, Q, Q, Q, Q, Q, Q, Q, Q], []⟩ m
noncomputable def k_f8_4 (v1 v2 v3 v9 v11 v56 : AV) (m : Mem) : Option (AOut × Mem) := K_f8_4 ⟨[Q, v1, v2, v3, Q, Q, Q, Q, Q, v9, Q, v11, Q, Q, Q, Q, Q, Q, Q, Q, Q, Q, Q, Q, Q, Q, Q, Q, Q, Q, Q, Q, Q, Q, Q, Q, Q, Q, Q, Q, Q, Q, Q, Q, Q, Q, Q, Q, Q, Q, Q, Q, Q, Q, Q, Q, v56, Q, Q, Q, Q, Q, Q, Q, Q, Q, Q, Q, Q, Q, Q, Q, Q, Q, Q, Q, Q, Q, Q, Q, Q, Q, Q, Q, Q, Q, Q, Q, Q, Q, Q, Q, Q, Q, Q, Q, Q, Q, Q, Q, Q, Q, Q, Q, Q, Q, Q, Q, Q, Q, Q, Q, Q, Q, Q, Q], []⟩ m
noncomputable def k_f8_5 (v1 v2 v3 v9 v11 : AV) (m : Mem) : Option (AOut × Mem) := K_f8_5 ⟨[Q, v1, v2, v3, Q, Q, Q, Q, Q, v9, Q, v11, Q, Q, Q, Q, Q, Q, Q, Q, Q, Q, Q, Q, Q, Q, Q, Q, Q, Q, Q, Q, Q, Q, Q, Q, Q, Q, Q, Q, Q, Q, Q, Q, Q, Q, Q, Q, Q, Q, Q, Q, Q, Q, Q, Q, Q, Q, Q, Q, Q, Q, Q, Q, Q, Q, Q, Q, Q, Q, Q, Q, Q, Q, Q, Q, Q, Q, Q, Q, Q, Q, Q, Q, Q, Q, Q, Q, Q, Q, Q, Q, Q, Q, Q, Q, Q, Q, Q, Q, Q, Q, Q, Q, Q, Q, Q, Q, Q, Q, Q, Q, Q, Q, Q, Q], []⟩ m
noncomputable def k_f8_6 (v1 v3 v9 v11 v13 : AV) (m : Mem) : Option (AOut × Mem) := K_f8_6 ⟨[Q, v1, Q, v3, Q, Q, Q, Q, Q, v9, Q, v11, Q, v13, Q, Q, Q, Q, Q, Q, Q, Q, Q, Q, Q, Q, Q, Q, Q, Q, Q, Q, Q, Q, Q, Q, Q, Q, Q, Q, Q, Q, Q, Q, Q, Q, Q, Q, Q, Q, Q, Q, Q, Q, Q, Q, Q, Q, Q, Q, Q, Q, Q, Q, Q, Q, Q, Q, Q, Q, Q, Q, Q, Q, Q, Q, Q, Q, Q, Q, Q, Q, Q, Q, Q, Q, Q, Q, Q, Q, Q, Q, Q, Q, Q, Q, Q, Q, Q, Q, Q, Q, Q, Q, Q, Q, Q, Q, Q, Q, Q, Q, Q, Q, Q, Q], []⟩ m
noncomputable def k_f8_7 (v1 v3 v9 v11 v13 v101 : AV) (m : Mem) : Option (AOut × Mem) := K_f8_7 ⟨[Q, v1, Q, v3, Q, Q, Q, Q, Q, v9, Q, v11, Q, v13, Q, Q, Q, Q, Q, Q, Q, Q, Q, Q, Q, Q, Q, Q, Q, Q, Q, Q, Q, Q, Q, Q, Q, Q, Q, Q, Q, Q, Q, Q, Q, Q, Q, Q, Q, Q, Q, Q, Q, Q, Q, Q, Q, Q, Q, Q, Q, Q, Q, Q, Q, Q, Q, Q, Q, Q, Q, Q, Q, Q, Q, Q, Q, Q, Q, Q, Q, Q, Q, Q, Q, Q, Q, Q, Q, Q, Q, Q, Q, Q, Q, Q, Q, Q, Q, Q, Q, v101, Q, Q, Q, Q, Q, Q, Q, Q, Q, Q, Q, Q, Q, Q], []⟩ m
theorem e_f8 (v0 v1 v2 v3 : AV) (m : Mem) : w_f8 v0 v1 v2 v3 m =
  retK (w_f17 m) (fun v14 m1 =>
  bnd (aUn .not v14) fun v15 =>
  onBool v15
    (some (.ret (.bool false), m1))
    (k_f8_0 v0 v1 v2 v3 m1)) (fun u m1 => some (.pan u, m1)) := (aW_F (c := c_f8) (fn := Try.f8) (by kernel_rfl) (by kernel_rfl) (by kernel_rfl) _ m).trans (by kernel_rfl)
theorem k_f8_0_eq (v0 v1 v2 v3 : AV) (m : Mem) : k_f8_0 v0 v1 v2 v3 m =
  retK (w_f18 v0 m) (fun v17 m1 =>
  retK (w_f19 v17 m1) (fun v19 m2 =>
  onBool v19
    (some (.ret (.bool true), m2))
    (k_f8_1 v17 v1 v2 v3 m2)) (fun u m2 => some (.pan u, m2))) (fun u m1 => some (.pan u, m1)) := by kernel_rfl
theorem k_f8_1_eq (v0 v1 v2 v3 : AV) (m : Mem) : k_f8_1 v0 v1 v2 v3 m =
  retK (w_f20 v0 m) (fun v22 m1 =>
  bnd (aExtract v22 0) fun v23 =>
  bnd (aExtract v22 1) fun v24 =>
  bnd (aExtract v22 2) fun v25 =>
  bnd (aExtract v22 3) fun v26 =>
  memK (aBox m1 (.agg [.nils])) fun v10 m2 =>
  bnd (rStore 1 m2 v10 v24) fun m3 =>
  bnd (aUn .not v26) fun v28 =>
  onBool v28
    (some (.ret (.bool false), m3))
    (k_f8_2 v1 v2 v3 v23 v25 m3)) (fun u m1 => some (.pan u, m1)) := by kernel_rfl
theorem k_f8_2_eq (v1 v2 v3 v9 v11 : AV) (m : Mem) : k_f8_2 v1 v2 v3 v9 v11 m =
  bnd (aBin X.T .lss T_int false true v1 (.int .i64 0)) fun v30 =>
  onWant v30
    (k_f8_4 v1 v2 v3 v9 v11 (.bool true) m)
    (bnd (aBin X.T .lss T_int false true v2 (.int .i64 0)) fun v33 =>
  onWant v33
    (k_f8_4 v1 v2 v3 v9 v11 (.bool true) m)
    (bnd (aBin X.T .lss T_int false true v3 (.int .i64 0)) fun v37 =>
  onWant v37
    (k_f8_4 v1 v2 v3 v9 v11 (.bool true) m)
    (bnd (rLenSl v11) fun v42 =>
  bnd (aBin X.T .geq T_int false false v1 v42) fun v43 =>
  onWant v43
    (k_f8_4 v1 v2 v3 v9 v11 (.bool true) m)
    (bnd (rLenSl v11) fun v48 =>
  bnd (aBin X.T .geq T_int false false v2 v48) fun v49 =>
  onWant v49
    (k_f8_4 v1 v2 v3 v9 v11 (.bool true) m)
    (bnd (rLenSl v11) fun v54 =>
  bnd (aBin X.T .geq T_int false false v3 v54) fun v55 =>
  k_f8_4 v1 v2 v3 v9 v11 v55 m)
    (none))
    (none))
    (none))
    (none))
    (none) := by kernel_rfl
theorem k_f8_3_eq (v1 v2 v3 v9 v11 : AV) (m : Mem) : k_f8_3 v1 v2 v3 v9 v11 m =
  bnd (rIxAddrSl 1 v11 v1) fun v60 =>
  bnd (rLoad false 1 m v60) fun v61 =>
  bnd (rIxAddrSl 1 v11 v2) fun v64 =>
  bnd (rLoad false 1 m v64) fun v65 =>
  retK (w_f31 v9 v61 v65 m) (fun v66 m1 =>
  bnd (aBin X.T .neq T_api_Errno false true v66 (.int .i64 0)) fun v67 =>
  onBool v67
    (some (.ret (.bool true), m1))
    (k_f8_5 v1 v2 v3 v9 v11 m1)) (fun u m1 => none) := by kernel_rfl
theorem k_f8_4_eq (v1 v2 v3 v9 v11 v56 : AV) (m : Mem) : k_f8_4 v1 v2 v3 v9 v11 v56 m =
  onBool v56
    (some (.ret (.bool true), m))
    (k_f8_3 v1 v2 v3 v9 v11 m) := by kernel_rfl
theorem k_f8_5_eq (v1 v2 v3 v9 v11 : AV) (m : Mem) : k_f8_5 v1 v2 v3 v9 v11 m =
  bnd (rIxAddrSl 1 v11 v2) fun v71 =>
  bnd (rLoad false 1 m v71) fun v72 =>
  bnd (rIxAddrSl 1 v11 v3) fun v75 =>
  bnd (rLoad false 1 m v75) fun v76 =>
  retK (w_f31 v9 v72 v76 m) (fun v77 m1 =>
  bnd (rIxAddrSl 1 v11 v1) fun v81 =>
  bnd (rLoad false 1 m1 v81) fun v82 =>
  bnd (rIxAddrSl 1 v11 v2) fun v85 =>
  bnd (rLoad false 1 m1 v85) fun v86 =>
  retK (w_f27 v9 v82 v86 m1) (fun v87 m2 =>
  bnd (aUn .not v87) fun v88 =>
  onWant v88
    (k_f8_7 v1 v3 v9 v11 v77 (.bool true) m2)
    (bnd (rIxAddrSl 1 v11 v2) fun v93 =>
  bnd (rLoad false 1 m2 v93) fun v94 =>
  bnd (rIxAddrSl 1 v11 v1) fun v97 =>
  bnd (rLoad false 1 m2 v97) fun v98 =>
  retK (w_f27 v9 v94 v98 m2) (fun v99 m3 =>
  bnd (aUn .not v99) fun v100 =>
  k_f8_7 v1 v3 v9 v11 v77 v100 m3) (fun u m3 => none))
    (none)) (fun u m2 => none)) (fun u m1 => none) := by kernel_rfl
theorem k_f8_6_eq (v1 v3 v9 v11 v13 : AV) (m : Mem) : k_f8_6 v1 v3 v9 v11 v13 m =
  bnd (aBin X.T .neq T_api_Errno false true v13 (.int .i64 0)) fun v103 =>
  onWant v103
    (some (.ret (.bool true), m))
    (bnd (rIxAddrSl 1 v11 v1) fun v108 =>
  bnd (rLoad false 1 m v108) fun v109 =>
  bnd (rIxAddrSl 1 v11 v3) fun v112 =>
  bnd (rLoad false 1 m v112) fun v113 =>
  retK (w_f27 v9 v109 v113 m) (fun v114 m1 =>
  some (.ret v114, m1)) (fun u m1 => none))
    (none) := by kernel_rfl
theorem k_f8_7_eq (v1 v3 v9 v11 v13 v101 : AV) (m : Mem) : k_f8_7 v1 v3 v9 v11 v13 v101 m =
  onBool v101
    (some (.ret (.bool false), m))
    (k_f8_6 v1 v3 v9 v11 v13 m) := by kernel_rfl
noncomputable def c_f15 : Code := bodyOf Try.f15
noncomputable def N_f15 : AAct → Mem → Option (AOut × Mem) := finK X.T Try.f15.results.toList .normal
noncomputable def P_f15 : AExit → AAct → Mem → Option (AOut × Mem) := finK X.T Try.f15.results.toList
noncomputable def K_f15_0 : AAct → Mem → Option (AOut × Mem) := execF X F_f15 0 (sR (sR c_f15)) N_f15 P_f15
noncomputable def K_f15_1 : AAct → Mem → Option (AOut × Mem) := execF X F_f15 0 (sR (sL (sR c_f15))) K_f15_0 P_f15
noncomputable def K_f15_2 : AAct → Mem → Option (AOut × Mem) := execF X F_f15 0 (sR (sR (sR (sR c_f15)))) N_f15 P_f15
noncomputable def k_f15_0 (v0 : AV) (m : Mem) : Option (AOut × Mem) := K_f15_0 ⟨[v0, Q, Q, Q, Q, Q, Q, Q, Q, Q, Q, Q, Q, Q, Q, Q, Q, Q, Q, Q, Q], []⟩ m
noncomputable def k_f15_1 (v0 v10 : AV) (m : Mem) : Option (AOut × Mem) := K_f15_1 ⟨[v0, Q, Q, Q, Q, Q, Q, Q, Q, Q, v10, Q, Q, Q, Q, Q, Q, Q, Q, Q, Q], []⟩ m
noncomputable def k_f15_2 (v3 : AV) (m : Mem) : Option (AOut × Mem) := K_f15_2 ⟨[Q, Q, Q, v3, Q, Q, Q, Q, Q, Q, Q, Q, Q, Q, Q, Q, Q, Q, Q, Q, Q], []⟩ m
theorem e_f15 (v0 : AV) (m : Mem) : w_f15 v0 m =
  bnd (aBin X.T .eql T_string false true v0 (.str (bs []))) fun v6 =>
  onWant v6
    (k_f15_1 v0 (.bool true) m)
    (retK (w_f40 v0 (.str (bs [40, 42])) m) (fun v9 m1 =>
  k_f15_1 v0 v9 m1) (fun u m1 => some (.pan u, m1)))
    (none) := (aW_F (c := c_f15) (fn := Try.f15) (by kernel_rfl) (by kernel_rfl) (by kernel_rfl) _ m).trans (by kernel_rfl)
theorem k_f15_0_eq (v0 : AV) (m : Mem) : k_f15_0 v0 m =
  retK (w_f41 v0 m) (fun v13 m1 =>
  bnd (aExtract v13 0) fun v14 =>
  bnd (aExtract v13 1) fun v15 =>
  bnd (rLenStr v0) fun v18 =>
  bnd (aBin X.T .neq T_int false false v15 v18) fun v19 =>
  onBool v19
    (some (.ret (.int .i64 0), m1))
    (k_f15_2 v14 m1)) (fun u m1 => some (.pan u, m1)) := by kernel_rfl
theorem k_f15_1_eq (v0 v10 : AV) (m : Mem) : k_f15_1 v0 v10 m =
  onBool v10
    (some (.ret (.int .i64 0), m))
    (k_f15_0 v0 m) := by kernel_rfl
theorem k_f15_2_eq (v3 : AV) (m : Mem) : k_f15_2 v3 m =
  some (.ret v3, m) := by kernel_rfl
noncomputable def c_f16 : Code := bodyOf Try.f16
noncomputable def N_f16 : AAct → Mem → Option (AOut × Mem) := finK X.T Try.f16.results.toList .normal
noncomputable def P_f16 : AExit → AAct → Mem → Option (AOut × Mem) := finK X.T Try.f16.results.toList
noncomputable def K_f16_0 : AAct → Mem → Option (AOut × Mem) := execF X F_f16 0 (sR (sR (sR c_f16))) N_f16 P_f16
noncomputable def K_f16_1 : AAct → Mem → Option (AOut × Mem) := execF X F_f16 0 (sR (sL (sR (sR c_f16)))) K_f16_0 P_f16
noncomputable def k_f16_0 (v3 : AV) (m : Mem) : Option (AOut × Mem) := K_f16_0 ⟨[Q, Q, Q, v3, Q, Q, Q, Q, Q, Q, Q, Q, Q, Q, Q, Q, Q, Q, Q, Q, Q, Q, Q, Q, Q, Q, Q, Q, Q, Q, Q, Q, Q, Q, Q, Q], []⟩ m
noncomputable def k_f16_1 (v3 v31 : AV) (m : Mem) : Option (AOut × Mem) := K_f16_1 ⟨[Q, Q, Q, v3, Q, Q, Q, Q, Q, Q, Q, Q, Q, Q, Q, Q, Q, Q, Q, Q, Q, Q, Q, Q, Q, Q, Q, Q, Q, Q, Q, v31, Q, Q, Q, Q], []⟩ m
theorem e_f16 (v0 : AV) (m : Mem) : w_f16 v0 m =
  retK (w_f42 v0 m) (fun v5 m1 =>
  bnd (rLenSl v5) fun v7 =>
  bnd (aBin X.T .neq T_int false true v7 (.int .i64 1)) fun v8 =>
  onWant v8
    (k_f16_1 v5 (.bool true) m1)
    (bnd (rIxAddrSl 3 v5 (.int .i64 0)) fun v11 =>
  bnd (rFieldAddr 1 v11) fun v12 =>
  bnd (rLoad false 1 m1 v12) fun v13 =>
  bnd (aBin X.T .neq T_int false true v13 (.int .i64 0)) fun v14 =>
  onWant v14
    (k_f16_1 v5 (.bool true) m1)
    (bnd (rIxAddrSl 3 v5 (.int .i64 0)) fun v18 =>
  bnd (rFieldAddr 2 v18) fun v19 =>
  bnd (rLoad false 1 m1 v19) fun v20 =>
  bnd (rLenStr v0) fun v22 =>
  bnd (aBin X.T .neq T_int false false v20 v22) fun v23 =>
  onWant v23
    (k_f16_1 v5 (.bool true) m1)
    (bnd (rIxAddrSl 3 v5 (.int .i64 0)) fun v27 =>
  bnd (rFieldAddr 0 v27) fun v28 =>
  bnd (rLoad false 1 m1 v28) fun v29 =>
  bnd (aBin X.T .eql T_int false true v29 (.int .i64 7)) fun v30 =>
  k_f16_1 v5 v30 m1)
    (none))
    (none))
    (none)) (fun u m1 => some (.pan u, m1)) := (aW_F (c := c_f16) (fn := Try.f16) (by kernel_rfl) (by kernel_rfl) (by kernel_rfl) _ m).trans (by kernel_rfl)
theorem k_f16_0_eq (v3 : AV) (m : Mem) : k_f16_0 v3 m =
  bnd (rIxAddrSl 3 v3 (.int .i64 0)) fun v33 =>
  bnd (rFieldAddr 0 v33) fun v34 =>
  bnd (rLoad false 1 m v34) fun v35 =>
  some (.ret v35, m) := by kernel_rfl
theorem k_f16_1_eq (v3 v31 : AV) (m : Mem) : k_f16_1 v3 v31 m =
  onBool v31
    (some (.ret (.int .i64 0), m))
    (k_f16_0 v3 m) := by kernel_rfl
end Go.AM
namespace Go.AM
open Go.Proofs
set_option maxRecDepth 100000
set_option linter.unusedVariables false
noncomputable def c_f18 : Code := bodyOf Try.f18
noncomputable def N_f18 : AAct → Mem → Option (AOut × Mem) := finK X.T Try.f18.results.toList .normal
noncomputable def P_f18 : AExit → AAct → Mem → Option (AOut × Mem) := finK X.T Try.f18.results.toList
noncomputable def K_f18_0 : AAct → Mem → Option (AOut × Mem) := execF X F_f18 0 (sR (sR c_f18)) N_f18 P_f18
noncomputable def k_f18_0 (v0 : AV) (m : Mem) : Option (AOut × Mem) := K_f18_0 ⟨[v0, Q, Q, Q, Q, Q, Q, Q, Q], []⟩ m
theorem e_f18 (v0 : AV) (m : Mem) : w_f18 v0 m =
  bnd (rLenSl v0) fun v4 =>
  bnd (aBin X.T .gtr T_int false true v4 (.int .i64 60)) fun v5 =>
  onBool v5
    (bnd (rSliceSl 3 v0 none (some (.int .i64 60))) fun v7 =>
    some (.ret v7, m))
    (k_f18_0 v0 m) := (aW_F (c := c_f18) (fn := Try.f18) (by kernel_rfl) (by kernel_rfl) (by kernel_rfl) _ m).trans (by kernel_rfl)
theorem k_f18_0_eq (v0 : AV) (m : Mem) : k_f18_0 v0 m =
  some (.ret v0, m) := by kernel_rfl
noncomputable def c_f19 : Code := bodyOf Try.f19
noncomputable def N_f19 : AAct → Mem → Option (AOut × Mem) := finK X.T Try.f19.results.toList .normal
noncomputable def P_f19 : AExit → AAct → Mem → Option (AOut × Mem) := finK X.T Try.f19.results.toList
noncomputable def K_f19_0 : AAct → Mem → Option (AOut × Mem) := execF X F_f19 0 (sR (sR (sR c_f19))) N_f19 P_f19
noncomputable def B_f19_0 : AExit → AAct → Mem → Option (AOut × Mem) := blockX 0 K_f19_0 P_f19
noncomputable def L_f19_0 : AAct → Mem → Option (AOut × Mem) := fun a m => killF (X.lk F_f19 0) a.tmps fun l => loopK X F_f19 0 (sB (sB (sR (sL (sR (sR c_f19)))))) B_f19_0 ⟨l, a.defers⟩ m
noncomputable def K_f19_1 : AAct → Mem → Option (AOut × Mem) := execF X F_f19 0 (sR (sB (sB (sR (sL (sR (sR c_f19))))))) L_f19_0 B_f19_0
noncomputable def K_f19_2 : AAct → Mem → Option (AOut × Mem) := execF X F_f19 0 (sR (sR (sB (sB (sR (sL (sR (sR c_f19)))))))) L_f19_0 B_f19_0
noncomputable def k_f19_0 (v0 v3 v4 : AV) (m : Mem) : Option (AOut × Mem) := K_f19_0 ⟨[v0, Q, Q, v3, v4, Q, Q, Q, Q, Q, Q, Q, Q, Q, Q, Q, Q, Q, Q, Q, Q, Q, Q, Q, Q, Q, Q, Q, Q], []⟩ m
noncomputable def l_f19_0 (v0 v3 v4 : AV) (m : Mem) : Option (AOut × Mem) := L_f19_0 ⟨[v0, Q, Q, v3, v4, Q, Q, Q, Q, Q, Q, Q, Q, Q, Q, Q, Q, Q, Q, Q, Q, Q, Q, Q, Q, Q, Q, Q, Q], []⟩ m
noncomputable def k_f19_1 (v0 v3 v4 : AV) (m : Mem) : Option (AOut × Mem) := K_f19_1 ⟨[v0, Q, Q, v3, v4, Q, Q, Q, Q, Q, Q, Q, Q, Q, Q, Q, Q, Q, Q, Q, Q, Q, Q, Q, Q, Q, Q, Q, Q], []⟩ m
noncomputable def k_f19_2 (v0 v3 v4 : AV) (m : Mem) : Option (AOut × Mem) := K_f19_2 ⟨[v0, Q, Q, v3, v4, Q, Q, Q, Q, Q, Q, Q, Q, Q, Q, Q, Q, Q, Q, Q, Q, Q, Q, Q, Q, Q, Q, Q, Q], []⟩ m
theorem e_f19 (v0 : AV) (m : Mem) : w_f19 v0 m =
  l_f19_0 v0 (.int .i64 0) (.int .i64 0) m := (aW_F (c := c_f19) (fn := Try.f19) (by kernel_rfl) (by kernel_rfl) (by kernel_rfl) _ m).trans (by kernel_rfl)
theorem k_f19_0_eq (v0 v3 v4 : AV) (m : Mem) : k_f19_0 v0 v3 v4 m =
  bnd (aBin X.T .gtr T_int false true v3 (.int .i64 500)) fun v28 =>
  some (.ret v28, m) := by kernel_rfl
theorem l_f19_0_u (v0 v3 v4 : AV) (m : Mem) : l_f19_0 v0 v3 v4 m = loopK X F_f19 0 (sB (sB (sR (sL (sR (sR c_f19)))))) B_f19_0 ⟨[v0, Q, Q, v3, v4, Q, Q, Q, Q, Q, Q, Q, Q, Q, Q, Q, Q, Q, Q, Q, Q, Q, Q, Q, Q, Q, Q, Q, Q], []⟩ m := by kernel_rfl
theorem l_f19_0_r (v0 v3 v4 : AV) (m : Mem) : roundF X F_f19 0 (sB (sB (sR (sL (sR (sR c_f19)))))) B_f19_0 [v0, Q, Q, v3, v4, Q, Q, Q, Q, Q, Q, Q, Q, Q, Q, Q, Q, Q, Q, Q, Q, Q, Q, Q, Q, Q, Q, Q, Q] m =
  bnd (rLenSl v0) fun v7 =>
  bnd (aBin X.T .lss T_int false false v4 v7) fun v8 =>
  onBool v8
    (k_f19_1 v0 v3 v4 m)
    (k_f19_0 v0 v3 v4 m) := by kernel_rfl
theorem l_f19_0_eq (v0 v3 v4 : AV) (m : Mem) : l_f19_0 v0 v3 v4 m =
  bnd (rLenSl v0) fun v7 =>
  bnd (aBin X.T .lss T_int false false v4 v7) fun v8 =>
  onBool v8
    (k_f19_1 v0 v3 v4 m)
    (k_f19_0 v0 v3 v4 m) := roundF_of (l_f19_0_u v0 v3 v4 m) (l_f19_0_r v0 v3 v4 m)
theorem k_f19_1_eq (v0 v3 v4 : AV) (m : Mem) : k_f19_1 v0 v3 v4 m =
  bnd (rIxAddrSl 3 v0 v4) fun v14 =>
  bnd (rFieldAddr 2 v14) fun v15 =>
  bnd (rLoad false 1 m v15) fun v16 =>
  bnd (rLenSl v16) fun v17 =>
  bnd (rIxAddrSl 3 v0 v4) fun v20 =>
  bnd (rFieldAddr 1 v20) fun v21 =>
  bnd (rLoad false 1 m v21) fun v22 =>
  bnd (rLenStr v22) fun v23 =>
  bnd (aBin X.T .quo T_int false true v23 (.int .i64 16)) fun v24 =>
  bnd (aBin X.T .add T_int false false v17 v24) fun v25 =>
  bnd (aBin X.T .add T_int false false v3 v25) fun v26 =>
  k_f19_2 v0 v26 v4 m := by kernel_rfl
theorem k_f19_2_eq (v0 v3 v4 : AV) (m : Mem) : k_f19_2 v0 v3 v4 m =
  bnd (aBin X.T .add T_int false true v4 (.int .i64 1)) fun v10 =>
  l_f19_0 v0 v3 v10 m := by kernel_rfl
noncomputable def c_f20 : Code := bodyOf Try.f20
noncomputable def N_f20 : AAct → Mem → Option (AOut × Mem) := finK X.T Try.f20.results.toList .normal
noncomputable def P_f20 : AExit → AAct → Mem → Option (AOut × Mem) := finK X.T Try.f20.results.toList
noncomputable def K_f20_0 : AAct → Mem → Option (AOut × Mem) := execF X F_f20 0 (sR (sR (sR (sR (sR c_f20))))) N_f20 P_f20
noncomputable def K_f20_1 : AAct → Mem → Option (AOut × Mem) := execF X F_f20 0 (sR (sR (sR (sR (sR (sR c_f20)))))) N_f20 P_f20
noncomputable def B_f20_0 : AExit → AAct → Mem → Option (AOut × Mem) := blockX 0 K_f20_1 P_f20
noncomputable def L_f20_0 : AAct → Mem → Option (AOut × Mem) := fun a m => killF (X.lk F_f20 0) a.tmps fun l => loopK X F_f20 0 (sB (sB (sR (sL (sR (sR (sR (sR (sR c_f20))))))))) B_f20_0 ⟨l, a.defers⟩ m
noncomputable def K_f20_2 : AAct → Mem → Option (AOut × Mem) := execF X F_f20 0 (sR (sB (sB (sR (sL (sR (sR (sR (sR (sR c_f20)))))))))) L_f20_0 B_f20_0
noncomputable def K_f20_3 : AAct → Mem → Option (AOut × Mem) := execF X F_f20 0 (sR (sR (sB (sB (sR (sL (sR (sR (sR (sR (sR c_f20))))))))))) L_f20_0 B_f20_0
noncomputable def B_f20_1 : AExit → AAct → Mem → Option (AOut × Mem) := blockX 1 K_f20_3 B_f20_0
noncomputable def K_f20_4 : AAct → Mem → Option (AOut × Mem) := execF X F_f20 1 (sR (sR (sR (sR (sR (sR (sR (sR (sB (sL (sR (sB (sB (sR (sL (sR (sR (sR (sR (sR c_f20)))))))))))))))))))) K_f20_3 B_f20_1
noncomputable def K_f20_5 : AAct → Mem → Option (AOut × Mem) := execF X F_f20 1 (sR (sR (sR (sR (sR (sR (sR (sR (sR (sB (sL (sR (sB (sB (sR (sL (sR (sR (sR (sR (sR c_f20))))))))))))))))))))) K_f20_3 B_f20_1
noncomputable def K_f20_6 : AAct → Mem → Option (AOut × Mem) := execF X F_f20 1 (sR (sL (sR (sR (sR (sR (sR (sR (sR (sR (sB (sL (sR (sB (sB (sR (sL (sR (sR (sR (sR (sR c_f20)))))))))))))))))))))) K_f20_5 B_f20_1
noncomputable def K_f20_7 : AAct → Mem → Option (AOut × Mem) := execF X F_f20 1 (sR (sR (sR (sR (sR (sR (sR (sR (sR (sR (sB (sL (sR (sB (sB (sR (sL (sR (sR (sR (sR (sR c_f20)))))))))))))))))))))) K_f20_3 B_f20_1
noncomputable def k_f20_0 (v0 v3 v6 v7 v8 : AV) (m : Mem) : Option (AOut × Mem) := K_f20_0 ⟨[v0, Q, Q, v3, Q, Q, v6, v7, v8, Q, Q, Q, Q, Q, Q, Q, Q, Q, Q, Q, Q, Q, Q, Q, Q, Q, Q, Q, Q, Q, Q, Q, Q, Q, Q, Q, Q, Q, Q, Q, Q, Q, Q, Q, Q, Q, Q, Q, Q, Q, Q, Q, Q, Q, Q, Q, Q, Q, Q, Q, Q, Q, Q, Q, Q, Q, Q, Q, Q, Q, Q, Q, Q, Q, Q, Q, Q, Q, Q, Q, Q, Q, Q, Q, Q, Q, Q, Q, Q, Q, Q, Q, Q, Q, Q, Q, Q, Q, Q, Q, Q, Q, Q, Q, Q, Q, Q, Q, Q, Q, Q, Q, Q, Q, Q, Q, Q, Q, Q, Q, Q, Q, Q, Q, Q, Q, Q, Q, Q, Q, Q, Q, Q, Q, Q, Q, Q, Q, Q, Q, Q, Q, Q, Q, Q, Q, Q, Q, Q, Q, Q, Q, Q, Q, Q, Q], []⟩ m
noncomputable def k_f20_1 (v0 v3 v6 v7 v8 v9 : AV) (m : Mem) : Option (AOut × Mem) := K_f20_1 ⟨[v0, Q, Q, v3, Q, Q, v6, v7, v8, v9, Q, Q, Q, Q, Q, Q, Q, Q, Q, Q, Q, Q, Q, Q, Q, Q, Q, Q, Q, Q, Q, Q, Q, Q, Q, Q, Q, Q, Q, Q, Q, Q, Q, Q, Q, Q, Q, Q, Q, Q, Q, Q, Q, Q, Q, Q, Q, Q, Q, Q, Q, Q, Q, Q, Q, Q, Q, Q, Q, Q, Q, Q, Q, Q, Q, Q, Q, Q, Q, Q, Q, Q, Q, Q, Q, Q, Q, Q, Q, Q, Q, Q, Q, Q, Q, Q, Q, Q, Q, Q, Q, Q, Q, Q, Q, Q, Q, Q, Q, Q, Q, Q, Q, Q, Q, Q, Q, Q, Q, Q, Q, Q, Q, Q, Q, Q, Q, Q, Q, Q, Q, Q, Q, Q, Q, Q, Q, Q, Q, Q, Q, Q, Q, Q, Q, Q, Q, Q, Q, Q, Q, Q, Q, Q, Q, Q], []⟩ m
noncomputable def l_f20_0 (v0 v3 v6 v7 v8 v9 : AV) (m : Mem) : Option (AOut × Mem) := L_f20_0 ⟨[v0, Q, Q, v3, Q, Q, v6, v7, v8, v9, Q, Q, Q, Q, Q, Q, Q, Q, Q, Q, Q, Q, Q, Q, Q, Q, Q, Q, Q, Q, Q, Q, Q, Q, Q, Q, Q, Q, Q, Q, Q, Q, Q, Q, Q, Q, Q, Q, Q, Q, Q, Q, Q, Q, Q, Q, Q, Q, Q, Q, Q, Q, Q, Q, Q, Q, Q, Q, Q, Q, Q, Q, Q, Q, Q, Q, Q, Q, Q, Q, Q, Q, Q, Q, Q, Q, Q, Q, Q, Q, Q, Q, Q, Q, Q, Q, Q, Q, Q, Q, Q, Q, Q, Q, Q, Q, Q, Q, Q, Q, Q, Q, Q, Q, Q, Q, Q, Q, Q, Q, Q, Q, Q, Q, Q, Q, Q, Q, Q, Q, Q, Q, Q, Q, Q, Q, Q, Q, Q, Q, Q, Q, Q, Q, Q, Q, Q, Q, Q, Q, Q, Q, Q, Q, Q, Q], []⟩ m
noncomputable def k_f20_2 (v0 v3 v6 v7 v8 v9 : AV) (m : Mem) : Option (AOut × Mem) := K_f20_2 ⟨[v0, Q, Q, v3, Q, Q, v6, v7, v8, v9, Q, Q, Q, Q, Q, Q, Q, Q, Q, Q, Q, Q, Q, Q, Q, Q, Q, Q, Q, Q, Q, Q, Q, Q, Q, Q, Q, Q, Q, Q, Q, Q, Q, Q, Q, Q, Q, Q, Q, Q, Q, Q, Q, Q, Q, Q, Q, Q, Q, Q, Q, Q, Q, Q, Q, Q, Q, Q, Q, Q, Q, Q, Q, Q, Q, Q, Q, Q, Q, Q, Q, Q, Q, Q, Q, Q, Q, Q, Q, Q, Q, Q, Q, Q, Q, Q, Q, Q, Q, Q, Q, Q, Q, Q, Q, Q, Q, Q, Q, Q, Q, Q, Q, Q, Q, Q, Q, Q, Q, Q, Q, Q, Q, Q, Q, Q, Q, Q, Q, Q, Q, Q, Q, Q, Q, Q, Q, Q, Q, Q, Q, Q, Q, Q, Q, Q, Q, Q, Q, Q, Q, Q, Q, Q, Q, Q], []⟩ m
noncomputable def k_f20_3 (v0 v3 v6 v7 v8 v9 v10 v12 v13 v14 v15 : AV) (m : Mem) : Option (AOut × Mem) := K_f20_3 ⟨[v0, Q, Q, v3, Q, Q, v6, v7, v8, v9, v10, Q, v12, v13, v14, v15, Q, Q, Q, Q, Q, Q, Q, Q, Q, Q, Q, Q, Q, Q, Q, Q, Q, Q, Q, Q, Q, Q, Q, Q, Q, Q, Q, Q, Q, Q, Q, Q, Q, Q, Q, Q, Q, Q, Q, Q, Q, Q, Q, Q, Q, Q, Q, Q, Q, Q, Q, Q, Q, Q, Q, Q, Q, Q, Q, Q, Q, Q, Q, Q, Q, Q, Q, Q, Q, Q, Q, Q, Q, Q, Q, Q, Q, Q, Q, Q, Q, Q, Q, Q, Q, Q, Q, Q, Q, Q, Q, Q, Q, Q, Q, Q, Q, Q, Q, Q, Q, Q, Q, Q, Q, Q, Q, Q, Q, Q, Q, Q, Q, Q, Q, Q, Q, Q, Q, Q, Q, Q, Q, Q, Q, Q, Q, Q, Q, Q, Q, Q, Q, Q, Q, Q, Q, Q, Q, Q], []⟩ m
noncomputable def k_f20_4 (v0 v3 v6 v7 v8 v9 v10 v14 v15 v16 v17 : AV) (m : Mem) : Option (AOut × Mem) := K_f20_4 ⟨[v0, Q, Q, v3, Q, Q, v6, v7, v8, v9, v10, Q, Q, Q, v14, v15, v16, v17, Q, Q, Q, Q, Q, Q, Q, Q, Q, Q, Q, Q, Q, Q, Q, Q, Q, Q, Q, Q, Q, Q, Q, Q, Q, Q, Q, Q, Q, Q, Q, Q, Q, Q, Q, Q, Q, Q, Q, Q, Q, Q, Q, Q, Q, Q, Q, Q, Q, Q, Q, Q, Q, Q, Q, Q, Q, Q, Q, Q, Q, Q, Q, Q, Q, Q, Q, Q, Q, Q, Q, Q, Q, Q, Q, Q, Q, Q, Q, Q, Q, Q, Q, Q, Q, Q, Q, Q, Q, Q, Q, Q, Q, Q, Q, Q, Q, Q, Q, Q, Q, Q, Q, Q, Q, Q, Q, Q, Q, Q, Q, Q, Q, Q, Q, Q, Q, Q, Q, Q, Q, Q, Q, Q, Q, Q, Q, Q, Q, Q, Q, Q, Q, Q, Q, Q, Q, Q], []⟩ m
noncomputable def k_f20_5 (v0 v3 v6 v7 v8 v9 v10 v14 v16 : AV) (m : Mem) : Option (AOut × Mem) := K_f20_5 ⟨[v0, Q, Q, v3, Q, Q, v6, v7, v8, v9, v10, Q, Q, Q, v14, Q, v16, Q, Q, Q, Q, Q, Q, Q, Q, Q, Q, Q, Q, Q, Q, Q, Q, Q, Q, Q, Q, Q, Q, Q, Q, Q, Q, Q, Q, Q, Q, Q, Q, Q, Q, Q, Q, Q, Q, Q, Q, Q, Q, Q, Q, Q, Q, Q, Q, Q, Q, Q, Q, Q, Q, Q, Q, Q, Q, Q, Q, Q, Q, Q, Q, Q, Q, Q, Q, Q, Q, Q, Q, Q, Q, Q, Q, Q, Q, Q, Q, Q, Q, Q, Q, Q, Q, Q, Q, Q, Q, Q, Q, Q, Q, Q, Q, Q, Q, Q, Q, Q, Q, Q, Q, Q, Q, Q, Q, Q, Q, Q, Q, Q, Q, Q, Q, Q, Q, Q, Q, Q, Q, Q, Q, Q, Q, Q, Q, Q, Q, Q, Q, Q, Q, Q, Q, Q, Q, Q], []⟩ m
noncomputable def k_f20_6 (v0 v3 v6 v7 v8 v9 v10 v14 v16 v138 : AV) (m : Mem) : Option (AOut × Mem) := K_f20_6 ⟨[v0, Q, Q, v3, Q, Q, v6, v7, v8, v9, v10, Q, Q, Q, v14, Q, v16, Q, Q, Q, Q, Q, Q, Q, Q, Q, Q, Q, Q, Q, Q, Q, Q, Q, Q, Q, Q, Q, Q, Q, Q, Q, Q, Q, Q, Q, Q, Q, Q, Q, Q, Q, Q, Q, Q, Q, Q, Q, Q, Q, Q, Q, Q, Q, Q, Q, Q, Q, Q, Q, Q, Q, Q, Q, Q, Q, Q, Q, Q, Q, Q, Q, Q, Q, Q, Q, Q, Q, Q, Q, Q, Q, Q, Q, Q, Q, Q, Q, Q, Q, Q, Q, Q, Q, Q, Q, Q, Q, Q, Q, Q, Q, Q, Q, Q, Q, Q, Q, Q, Q, Q, Q, Q, Q, Q, Q, Q, Q, Q, Q, Q, Q, Q, Q, Q, Q, Q, Q, v138, Q, Q, Q, Q, Q, Q, Q, Q, Q, Q, Q, Q, Q, Q, Q, Q, Q], []⟩ m
noncomputable def k_f20_7 (v0 v3 v6 v7 v8 v9 v14 v148 : AV) (m : Mem) : Option (AOut × Mem) := K_f20_7 ⟨[v0, Q, Q, v3, Q, Q, v6, v7, v8, v9, Q, Q, Q, Q, v14, Q, Q, Q, Q, Q, Q, Q, Q, Q, Q, Q, Q, Q, Q, Q, Q, Q, Q, Q, Q, Q, Q, Q, Q, Q, Q, Q, Q, Q, Q, Q, Q, Q, Q, Q, Q, Q, Q, Q, Q, Q, Q, Q, Q, Q, Q, Q, Q, Q, Q, Q, Q, Q, Q, Q, Q, Q, Q, Q, Q, Q, Q, Q, Q, Q, Q, Q, Q, Q, Q, Q, Q, Q, Q, Q, Q, Q, Q, Q, Q, Q, Q, Q, Q, Q, Q, Q, Q, Q, Q, Q, Q, Q, Q, Q, Q, Q, Q, Q, Q, Q, Q, Q, Q, Q, Q, Q, Q, Q, Q, Q, Q, Q, Q, Q, Q, Q, Q, Q, Q, Q, Q, Q, Q, Q, Q, Q, Q, Q, Q, Q, Q, Q, v148, Q, Q, Q, Q, Q, Q, Q], []⟩ m
theorem e_f20 (v0 : AV) (m : Mem) : w_f20 v0 m =
  memK (aBox m (.agg [.nils])) fun v3 m1 =>
  retK (w_f33 m1) (fun v18 m2 =>
  bnd (rBuild [.nils] []) fun v19 =>
  memK (aBox m2 (.agg [.nils])) fun v7 m3 =>
  bnd (rStore 1 m3 v7 v19) fun m4 =>
  bnd (rBuildSlice A_int 0 []) fun v20 =>
  bnd (aBin X.T .eql T_Pt_unify_Store false true v18 .nilp) fun v22 =>
  onBool v22
    (bnd (rLoad true 1 m4 v7) fun v24 =>
    bnd (rStore 1 m4 v3 v24) fun m5 =>
    bnd (rLoad true 1 m5 v3) fun vr1 =>
    some (.ret (.tup [v18, vr1, v20, (.bool false)]), m5))
    (k_f20_0 v0 v3 v18 v7 v20 m4)) (fun u m2 => some (.pan u, m2)) := (aW_F (c := c_f20) (fn := Try.f20) (by kernel_rfl) (by kernel_rfl) (by kernel_rfl) _ m).trans (by kernel_rfl)
theorem k_f20_0_eq (v0 v3 v6 v7 v8 : AV) (m : Mem) : k_f20_0 v0 v3 v6 v7 v8 m =
  l_f20_0 v0 v3 v6 v7 v8 (.int .i64 0) m := by kernel_rfl
theorem k_f20_1_eq (v0 v3 v6 v7 v8 v9 : AV) (m : Mem) : k_f20_1 v0 v3 v6 v7 v8 v9 m =
  bnd (rLoad true 1 m v7) fun v154 =>
  bnd (rStore 1 m v3 v154) fun m1 =>
  bnd (rLoad true 1 m1 v3) fun vr1 =>
  some (.ret (.tup [v6, vr1, v8, (.bool true)]), m1) := by kernel_rfl
theorem l_f20_0_u (v0 v3 v6 v7 v8 v9 : AV) (m : Mem) : l_f20_0 v0 v3 v6 v7 v8 v9 m = loopK X F_f20 0 (sB (sB (sR (sL (sR (sR (sR (sR (sR c_f20))))))))) B_f20_0 ⟨[v0, Q, Q, v3, Q, Q, v6, v7, v8, v9, Q, Q, Q, Q, Q, Q, Q, Q, Q, Q, Q, Q, Q, Q, Q, Q, Q, Q, Q, Q, Q, Q, Q, Q, Q, Q, Q, Q, Q, Q, Q, Q, Q, Q, Q, Q, Q, Q, Q, Q, Q, Q, Q, Q, Q, Q, Q, Q, Q, Q, Q, Q, Q, Q, Q, Q, Q, Q, Q, Q, Q, Q, Q, Q, Q, Q, Q, Q, Q, Q, Q, Q, Q, Q, Q, Q, Q, Q, Q, Q, Q, Q, Q, Q, Q, Q, Q, Q, Q, Q, Q, Q, Q, Q, Q, Q, Q, Q, Q, Q, Q, Q, Q, Q, Q, Q, Q, Q, Q, Q, Q, Q, Q, Q, Q, Q, Q, Q, Q, Q, Q, Q, Q, Q, Q, Q, Q, Q, Q, Q, Q, Q, Q, Q, Q, Q, Q, Q, Q, Q, Q, Q, Q, Q, Q, Q], []⟩ m := by kernel_rfl
theorem l_f20_0_r (v0 v3 v6 v7 v8 v9 : AV) (m : Mem) : roundF X F_f20 0 (sB (sB (sR (sL (sR (sR (sR (sR (sR c_f20))))))))) B_f20_0 [v0, Q, Q, v3, Q, Q, v6, v7, v8, v9, Q, Q, Q, Q, Q, Q, Q, Q, Q, Q, Q, Q, Q, Q, Q, Q, Q, Q, Q, Q, Q, Q, Q, Q, Q, Q, Q, Q, Q, Q, Q, Q, Q, Q, Q, Q, Q, Q, Q, Q, Q, Q, Q, Q, Q, Q, Q, Q, Q, Q, Q, Q, Q, Q, Q, Q, Q, Q, Q, Q, Q, Q, Q, Q, Q, Q, Q, Q, Q, Q, Q, Q, Q, Q, Q, Q, Q, Q, Q, Q, Q, Q, Q, Q, Q, Q, Q, Q, Q, Q, Q, Q, Q, Q, Q, Q, Q, Q, Q, Q, Q, Q, Q, Q, Q, Q, Q, Q, Q, Q, Q, Q, Q, Q, Q, Q, Q, Q, Q, Q, Q, Q, Q, Q, Q, Q, Q, Q, Q, Q, Q, Q, Q, Q, Q, Q, Q, Q, Q, Q, Q, Q, Q, Q, Q, Q] m =
  bnd (rLenSl v0) fun v28 =>
  bnd (aBin X.T .lss T_int false false v9 v28) fun v29 =>
  onBool v29
    (k_f20_2 v0 v3 v6 v7 v8 v9 m)
    (k_f20_1 v0 v3 v6 v7 v8 v9 m) := by kernel_rfl
theorem l_f20_0_eq (v0 v3 v6 v7 v8 v9 : AV) (m : Mem) : l_f20_0 v0 v3 v6 v7 v8 v9 m =
  bnd (rLenSl v0) fun v28 =>
  bnd (aBin X.T .lss T_int false false v9 v28) fun v29 =>
  onBool v29
    (k_f20_2 v0 v3 v6 v7 v8 v9 m)
    (k_f20_1 v0 v3 v6 v7 v8 v9 m) := roundF_of (l_f20_0_u v0 v3 v6 v7 v8 v9 m) (l_f20_0_r v0 v3 v6 v7 v8 v9 m)
theorem k_f20_2_eq (v0 v3 v6 v7 v8 v9 : AV) (m : Mem) : k_f20_2 v0 v3 v6 v7 v8 v9 m =
  bnd (rIxAddrSl 3 v0 v9) fun v34 =>
  bnd (rLoad true 3 m v34) fun v35 =>
  memK (aBox m (.agg [.int .i64 0, .str (bs []), .nils])) fun v10 m1 =>
  bnd (rStore 3 m1 v10 v35) fun m2 =>
  bnd (rFieldAddr 2 v10) fun v36 =>
  bnd (rLoad false 1 m2 v36) fun v37 =>
  retK (w_f29 v37 v8 m2) (fun v39 m3 =>
  retK (w_f46 v39 m3) (fun v42 m4 =>
  bnd (aExtract v42 0) fun v43 =>
  bnd (aExtract v42 1) fun v44 =>
  bnd (rFieldAddr 0 v10) fun v45 =>
  bnd (rLoad false 1 m4 v45) fun v46 =>
  bnd (aBin X.T .eql T_int false true v46 (.int .i64 1)) fun v48 =>
  onBool v48
    (retK (w_f34 v6 m4) (fun v50 m5 =>
    bnd (rLoad true 1 m5 v7) fun v52 =>
    retK (w_f47 v52 m5) (fun v53 m6 =>
    bnd (aExtract v53 0) fun v54 =>
    bnd (aExtract v53 1) fun v55 =>
    bnd (rStore 1 m6 v7 v54) fun m7 =>
    k_f20_4 v0 v3 v6 v7 v8 v9 v10 v50 v55 (.int .i64 0) (.int .i64 0) m7) (fun u m6 => some (.pan u, m6))) (fun u m5 => some (.pan u, m5)))
    (bnd (aBin X.T .eql T_int false true v46 (.int .i64 2)) fun v57 =>
    onBool v57
      (bnd (rFieldAddr 1 v10) fun v60 =>
      bnd (rLoad false 1 m4 v60) fun v61 =>
      retK (w_f24 v39 m4) (fun v63 m5 =>
      retK (w_f43 v6 v61 v63 m5) (fun v64 m6 =>
      bnd (aExtract v64 0) fun v65 =>
      bnd (aExtract v64 1) fun v66 =>
      bnd (rLoad false 1 m5 v60) fun u =>
      sameK u v61 <|
      bnd (rLoad true 1 m6 v7) fun v68 =>
      bnd (rFieldAddr 1 v10) fun v69 =>
      bnd (rLoad false 1 m6 v69) fun v70 =>
      retK (w_f48 v68 (.int .i64 2) v70 v39 m6) (fun v72 m7 =>
      bnd (aExtract v72 0) fun v73 =>
      bnd (aExtract v72 1) fun v74 =>
      bnd (aExtract v72 2) fun v75 =>
      bnd (rStore 1 m7 v7 v73) fun m8 =>
      k_f20_4 v0 v3 v6 v7 v8 v9 v10 v65 v74 v66 v75 m8) (fun u_1 m7 => some (.pan u_1, m7))) (fun u m6 => none)) (fun u m5 => none))
      (bnd (aBin X.T .eql T_int false true v46 (.int .i64 3)) fun v77 =>
      onBool v77
        (retK (w_f24 v39 m4) (fun v81 m5 =>
        retK (w_f35 v6 v81 m5) (fun v82 m6 =>
        bnd (aExtract v82 0) fun v83 =>
        bnd (aExtract v82 1) fun v84 =>
        bnd (rLoad true 1 m6 v7) fun v86 =>
        retK (w_f48 v86 (.int .i64 3) (.str (bs [])) v39 m6) (fun v88 m7 =>
        bnd (aExtract v88 0) fun v89 =>
        bnd (aExtract v88 1) fun v90 =>
        bnd (aExtract v88 2) fun v91 =>
        bnd (rStore 1 m7 v7 v89) fun m8 =>
        k_f20_4 v0 v3 v6 v7 v8 v9 v10 v83 v90 v84 v91 m8) (fun u m7 => some (.pan u, m7))) (fun u m6 => some (.pan u, m6))) (fun u m5 => some (.pan u, m5)))
        (bnd (aBin X.T .eql T_int false true v46 (.int .i64 4)) fun v93 =>
        onBool v93
          (retK (w_f44 v6 v43 v44 m4) (fun v98 m5 =>
          bnd (aExtract v98 0) fun v99 =>
          bnd (aExtract v98 1) fun v100 =>
          bnd (rLoad true 1 m5 v7) fun v102 =>
          bnd (rBuildSlice A_int 2 [(0, v43), (1, v44)]) fun v105 =>
          retK (w_f48 v102 (.int .i64 4) (.str (bs [])) v105 m5) (fun v106 m6 =>
          bnd (aExtract v106 0) fun v107 =>
          bnd (aExtract v106 1) fun v108 =>
          bnd (aExtract v106 2) fun v109 =>
          bnd (rStore 1 m6 v7 v107) fun m7 =>
          k_f20_4 v0 v3 v6 v7 v8 v9 v10 v99 v108 v100 v109 m7) (fun u m6 => some (.pan u, m6))) (fun u m5 => some (.pan u, m5)))
          (bnd (aBin X.T .eql T_int false true v46 (.int .i64 5)) fun v111 =>
          onBool v111
            (retK (w_f31 v6 v43 v44 m4) (fun v115 m5 =>
            bnd (rLoad true 1 m5 v7) fun v117 =>
            retK (w_f49 v117 v43 v44 m5) (fun v120 m6 =>
            bnd (aExtract v120 0) fun v121 =>
            bnd (aExtract v120 1) fun v122 =>
            bnd (rStore 1 m6 v7 v121) fun m7 =>
            k_f20_4 v0 v3 v6 v7 v8 v9 v10 (.int .i64 0) (.int .i64 0) v115 v122 m7) (fun u m6 => some (.pan u, m6))) (fun u m5 => some (.pan u, m5)))
            (k_f20_3 v0 v3 v6 v7 v8 v9 v10 v43 v44 (.int .i64 0) (.int .i64 0) m4)))))) (fun u m4 => some (.pan u, m4))) (fun u m3 => some (.pan u, m3)) := by kernel_rfl
theorem k_f20_3_eq (v0 v3 v6 v7 v8 v9 v10 v12 v13 v14 v15 : AV) (m : Mem) : k_f20_3 v0 v3 v6 v7 v8 v9 v10 v12 v13 v14 v15 m =
  bnd (aBin X.T .add T_int false true v9 (.int .i64 1)) fun v31 =>
  l_f20_0 v0 v3 v6 v7 v8 v31 m := by kernel_rfl
theorem k_f20_4_eq (v0 v3 v6 v7 v8 v9 v10 v14 v15 v16 v17 : AV) (m : Mem) : k_f20_4 v0 v3 v6 v7 v8 v9 v10 v14 v15 v16 v17 m =
  bnd (aBin X.T .neq T_int false false v14 v15) fun v125 =>
  onWant v125
    (k_f20_6 v0 v3 v6 v7 v8 v9 v10 v14 v16 (.bool true) m)
    (bnd (aBin X.T .neq T_api_Errno false false v16 v17) fun v129 =>
  onWant v129
    (k_f20_6 v0 v3 v6 v7 v8 v9 v10 v14 v16 (.bool true) m)
    (retK (w_f45 v6 m) (fun v133 m1 =>
  bnd (rFieldAddr 0 v7) fun v134 =>
  bnd (rLoad false 1 m1 v134) fun v135 =>
  bnd (rLenSl v135) fun v136 =>
  bnd (aBin X.T .neq T_int false false v133 v136) fun v137 =>
  bnd (rLoad false 1 m v134) fun u =>
  sameK u v135 <|
  k_f20_6 v0 v3 v6 v7 v8 v9 v10 v14 v16 v137 m1) (fun u m1 => none))
    (none))
    (none) := by kernel_rfl
theorem k_f20_5_eq (v0 v3 v6 v7 v8 v9 v10 v14 v16 : AV) (m : Mem) : k_f20_5 v0 v3 v6 v7 v8 v9 v10 v14 v16 m =
  bnd (aBin X.T .eql T_api_Errno false true v16 (.int .i64 0)) fun v143 =>
  onWant v143
    (bnd (rFieldAddr 0 v10) fun v145 =>
  bnd (rLoad false 1 m v145) fun v146 =>
  bnd (aBin X.T .lss T_int false true v146 (.int .i64 5)) fun v147 =>
  k_f20_7 v0 v3 v6 v7 v8 v9 v14 v147 m)
    (k_f20_7 v0 v3 v6 v7 v8 v9 v14 (.bool false) m)
    (none) := by kernel_rfl
theorem k_f20_6_eq (v0 v3 v6 v7 v8 v9 v10 v14 v16 v138 : AV) (m : Mem) : k_f20_6 v0 v3 v6 v7 v8 v9 v10 v14 v16 v138 m =
  onBool v138
    (bnd (rLoad true 1 m v7) fun v140 =>
    bnd (rStore 1 m v3 v140) fun m1 =>
    bnd (rLoad true 1 m1 v3) fun vr1 =>
    some (.ret (.tup [v6, vr1, v8, (.bool false)]), m1))
    (k_f20_5 v0 v3 v6 v7 v8 v9 v10 v14 v16 m) := by kernel_rfl
theorem k_f20_7_eq (v0 v3 v6 v7 v8 v9 v14 v148 : AV) (m : Mem) : k_f20_7 v0 v3 v6 v7 v8 v9 v14 v148 m =
  onBool v148
    (bnd (rBuildSlice A_int 1 [(0, v14)]) fun v151 =>
    memK (rAppend A_int 0 m v8 v151) fun v152 m1 =>
    k_f20_3 v0 v3 v6 v7 v152 v9 .undef .undef .undef .undef .undef m1)
    (k_f20_3 v0 v3 v6 v7 v8 v9 .undef .undef .undef v14 .undef m) := by kernel_rfl
noncomputable def c_f21 : Code := bodyOf Try.f21
noncomputable def N_f21 : AAct → Mem → Option (AOut × Mem) := finK X.T Try.f21.results.toList .normal
noncomputable def P_f21 : AExit → AAct → Mem → Option (AOut × Mem) := finK X.T Try.f21.results.toList
noncomputable def K_f21_0 : AAct → Mem → Option (AOut × Mem) := execF X F_f21 0 (sR (sR c_f21)) N_f21 P_f21
noncomputable def k_f21_0 (v0 v1 : AV) (m : Mem) : Option (AOut × Mem) := K_f21_0 ⟨[v0, v1, Q, Q, Q, Q, Q, Q, Q, Q, Q, Q, Q, Q], []⟩ m
theorem e_f21 (v0 v1 : AV) (m : Mem) : w_f21 v0 v1 m =
  bnd (rBuildSlice A_int 1 [(0, v1)]) fun v7 =>
  retK (w_f50 v0 v7 m) (fun v8 m1 =>
  bnd (aUn .not v8) fun v9 =>
  onBool v9
    (some (.ret (.int .i64 0), m1))
    (k_f21_0 v0 v1 m1)) (fun u m1 => some (.pan u, m1)) := (aW_F (c := c_f21) (fn := Try.f21) (by kernel_rfl) (by kernel_rfl) (by kernel_rfl) _ m).trans (by kernel_rfl)
theorem k_f21_0_eq (v0 v1 : AV) (m : Mem) : k_f21_0 v0 v1 m =
  bindK (.map m.next) (m.alloc (.map [])) fun v12 m1 =>
  retK (w_f51 v0 v1 v12 m1) (fun v13 m2 =>
  some (.ret v13, m2)) (fun u m2 => some (.pan u, m2)) := by kernel_rfl
noncomputable def c_f22 : Code := bodyOf Try.f22
noncomputable def N_f22 : AAct → Mem → Option (AOut × Mem) := finK X.T Try.f22.results.toList .normal
noncomputable def P_f22 : AExit → AAct → Mem → Option (AOut × Mem) := finK X.T Try.f22.results.toList
noncomputable def K_f22_0 : AAct → Mem → Option (AOut × Mem) := execF X F_f22 0 (sR (sR c_f22)) N_f22 P_f22
noncomputable def k_f22_0 (v1 v2 : AV) (m : Mem) : Option (AOut × Mem) := K_f22_0 ⟨[Q, v1, v2, Q, Q, Q, Q, Q, Q, Q, Q, Q, Q, Q, Q, Q], []⟩ m
theorem e_f22 (v0 v1 : AV) (m : Mem) : w_f22 v0 v1 m =
  memK (aBox m v0) fun v2 m1 =>
  bnd (rLoad true 1 m1 v2) fun v5 =>
  retK (w_f52 v5 v1 m1) (fun v7 m2 =>
  bnd (aUn .not v7) fun v8 =>
  onBool v8
    (some (.ret (.int .i64 0), m2))
    (k_f22_0 v1 v2 m2)) (fun u m2 => some (.pan u, m2)) := (aW_F (c := c_f22) (fn := Try.f22) (by kernel_rfl) (by kernel_rfl) (by kernel_rfl) _ m).trans (by kernel_rfl)
theorem k_f22_0_eq (v1 v2 : AV) (m : Mem) : k_f22_0 v1 v2 m =
  bnd (rLoad true 1 m v2) fun v9 =>
  bnd (rFieldAddr 0 v2) fun v11 =>
  bnd (rLoad false 1 m v11) fun v12 =>
  bnd (rLenSl v12) fun v13 =>
  memK (rMakeSlice A_int 0 m v13 v13) fun v14 m1 =>
  retK (w_f53 v9 v1 v14 m1) (fun v15 m2 =>
  some (.ret v15, m2)) (fun u m2 => none) := by kernel_rfl
noncomputable def c_f23 : Code := bodyOf Try.f23
noncomputable def N_f23 : AAct → Mem → Option (AOut × Mem) := finK X.T Try.f23.results.toList .normal
noncomputable def P_f23 : AExit → AAct → Mem → Option (AOut × Mem) := finK X.T Try.f23.results.toList
noncomputable def K_f23_0 : AAct → Mem → Option (AOut × Mem) := execF X F_f23 0 (sR (sR c_f23)) N_f23 P_f23
noncomputable def K_f23_1 : AAct → Mem → Option (AOut × Mem) := execF X F_f23 0 (sR (sR (sR (sR (sR c_f23))))) N_f23 P_f23
noncomputable def B_f23_0 : AExit → AAct → Mem → Option (AOut × Mem) := blockX 0 K_f23_1 P_f23
noncomputable def L_f23_0 : AAct → Mem → Option (AOut × Mem) := fun a m => killF (X.lk F_f23 0) a.tmps fun l => loopK X F_f23 0 (sB (sB (sR (sL (sR (sR (sR (sR c_f23)))))))) B_f23_0 ⟨l, a.defers⟩ m
noncomputable def K_f23_2 : AAct → Mem → Option (AOut × Mem) := execF X F_f23 0 (sR (sR (sB (sB (sR (sL (sR (sR (sR (sR c_f23)))))))))) L_f23_0 B_f23_0
noncomputable def K_f23_3 : AAct → Mem → Option (AOut × Mem) := execF X F_f23 0 (sR (sR (sR (sB (sB (sR (sL (sR (sR (sR (sR c_f23))))))))))) L_f23_0 B_f23_0
noncomputable def B_f23_1 : AExit → AAct → Mem → Option (AOut × Mem) := blockX 1 K_f23_3 B_f23_0
noncomputable def K_f23_4 : AAct → Mem → Option (AOut × Mem) := execF X F_f23 1 (sR (sR (sB (sL (sR (sR (sB (sB (sR (sL (sR (sR (sR (sR c_f23)))))))))))))) K_f23_3 B_f23_1
noncomputable def k_f23_0 (v0 v1 : AV) (m : Mem) : Option (AOut × Mem) := K_f23_0 ⟨[v0, v1, Q, Q, Q, Q, Q, Q, Q, Q, Q, Q, Q, Q, Q, Q, Q, Q, Q, Q, Q, Q, Q, Q, Q, Q, Q, Q, Q, Q, Q, Q, Q, Q, Q, Q, Q], []⟩ m
noncomputable def k_f23_1 (v0 v6 v7 v8 v17 v18 v19 : AV) (m : Mem) : Option (AOut × Mem) := K_f23_1 ⟨[v0, Q, Q, Q, Q, Q, v6, v7, v8, Q, Q, Q, Q, Q, Q, Q, Q, v17, v18, v19, Q, Q, Q, Q, Q, Q, Q, Q, Q, Q, Q, Q, Q, Q, Q, Q, Q], []⟩ m
noncomputable def l_f23_0 (v0 v6 v7 v8 v17 v18 v19 : AV) (m : Mem) : Option (AOut × Mem) := L_f23_0 ⟨[v0, Q, Q, Q, Q, Q, v6, v7, v8, Q, Q, Q, Q, Q, Q, Q, Q, v17, v18, v19, Q, Q, Q, Q, Q, Q, Q, Q, Q, Q, Q, Q, Q, Q, Q, Q, Q], []⟩ m
noncomputable def k_f23_2 (v0 v6 v7 v8 v17 v18 v19 : AV) (m : Mem) : Option (AOut × Mem) := K_f23_2 ⟨[v0, Q, Q, Q, Q, Q, v6, v7, v8, Q, Q, Q, Q, Q, Q, Q, Q, v17, v18, v19, Q, Q, Q, Q, Q, Q, Q, Q, Q, Q, Q, Q, Q, Q, Q, Q, Q], []⟩ m
noncomputable def k_f23_3 (v0 v6 v7 v8 v17 v18 v19 : AV) (m : Mem) : Option (AOut × Mem) := K_f23_3 ⟨[v0, Q, Q, Q, Q, Q, v6, v7, v8, Q, Q, Q, Q, Q, Q, Q, Q, v17, v18, v19, Q, Q, Q, Q, Q, Q, Q, Q, Q, Q, Q, Q, Q, Q, Q, Q, Q], []⟩ m
noncomputable def k_f23_4 (v0 v6 v7 v8 v10 v17 v18 v19 : AV) (m : Mem) : Option (AOut × Mem) := K_f23_4 ⟨[v0, Q, Q, Q, Q, Q, v6, v7, v8, Q, v10, Q, Q, Q, Q, Q, Q, v17, v18, v19, Q, Q, Q, Q, Q, Q, Q, Q, Q, Q, Q, Q, Q, Q, Q, Q, Q], []⟩ m
theorem e_f23 (v0 v1 : AV) (m : Mem) : w_f23 v0 v1 m =
  retK (w_f50 v0 v1 m) (fun v13 m1 =>
  bnd (aUn .not v13) fun v14 =>
  onBool v14
    (some (.ret (.tup [.nils, (.int .i64 221)]), m1))
    (k_f23_0 v0 v1 m1)) (fun u m1 => some (.pan u, m1)) := (aW_F (c := c_f23) (fn := Try.f23) (by kernel_rfl) (by kernel_rfl) (by kernel_rfl) _ m).trans (by kernel_rfl)
theorem k_f23_0_eq (v0 v1 : AV) (m : Mem) : k_f23_0 v0 v1 m =
  bindK (.map m.next) (m.alloc (.map [])) fun v15 m1 =>
  bindK (.map m1.next) (m1.alloc (.map [])) fun v16 m2 =>
  bnd (rLenSl v1) fun v18 =>
  l_f23_0 v0 v15 v16 .nils v1 v18 (.int .i64 0) m2 := by kernel_rfl
theorem k_f23_1_eq (v0 v6 v7 v8 v17 v18 v19 : AV) (m : Mem) : k_f23_1 v0 v6 v7 v8 v17 v18 v19 m =
  some (.ret (.tup [v8, (.int .i64 0)]), m) := by kernel_rfl
theorem l_f23_0_u (v0 v6 v7 v8 v17 v18 v19 : AV) (m : Mem) : l_f23_0 v0 v6 v7 v8 v17 v18 v19 m = loopK X F_f23 0 (sB (sB (sR (sL (sR (sR (sR (sR c_f23)))))))) B_f23_0 ⟨[v0, Q, Q, Q, Q, Q, v6, v7, v8, Q, Q, Q, Q, Q, Q, Q, Q, v17, v18, v19, Q, Q, Q, Q, Q, Q, Q, Q, Q, Q, Q, Q, Q, Q, Q, Q, Q], []⟩ m := by kernel_rfl
theorem l_f23_0_r (v0 v6 v7 v8 v17 v18 v19 : AV) (m : Mem) : roundF X F_f23 0 (sB (sB (sR (sL (sR (sR (sR (sR c_f23)))))))) B_f23_0 [v0, Q, Q, Q, Q, Q, v6, v7, v8, Q, Q, Q, Q, Q, Q, Q, Q, v17, v18, v19, Q, Q, Q, Q, Q, Q, Q, Q, Q, Q, Q, Q, Q, Q, Q, Q, Q] m =
  bnd (aBin X.T .lss T_int false false v19 v18) fun v20 =>
  onBool v20
    (k_f23_2 v0 v6 v7 v8 v17 v18 v19 m)
    (k_f23_1 v0 v6 v7 v8 v17 v18 v19 m) := by kernel_rfl
theorem l_f23_0_eq (v0 v6 v7 v8 v17 v18 v19 : AV) (m : Mem) : l_f23_0 v0 v6 v7 v8 v17 v18 v19 m =
  bnd (aBin X.T .lss T_int false false v19 v18) fun v20 =>
  onBool v20
    (k_f23_2 v0 v6 v7 v8 v17 v18 v19 m)
    (k_f23_1 v0 v6 v7 v8 v17 v18 v19 m) := roundF_of (l_f23_0_u v0 v6 v7 v8 v17 v18 v19 m) (l_f23_0_r v0 v6 v7 v8 v17 v18 v19 m)
theorem k_f23_2_eq (v0 v6 v7 v8 v17 v18 v19 : AV) (m : Mem) : k_f23_2 v0 v6 v7 v8 v17 v18 v19 m =
  bnd (rIxAddrSl 1 v17 v19) fun v21 =>
  bnd (rLoad false 1 m v21) fun v22 =>
  retK (w_f51 v0 v22 v6 m) (fun v26 m1 =>
  bnd (aBin X.T .gtr T_int false true v26 (.int .i64 300)) fun v27 =>
  onBool v27
    (some (.ret (.tup [.nils, (.int .i64 120)]), m1))
    (k_f23_4 v0 v6 v7 v8 v22 v17 v18 v19 m1)) (fun u m1 => some (.pan u, m1)) := by kernel_rfl
theorem k_f23_3_eq (v0 v6 v7 v8 v17 v18 v19 : AV) (m : Mem) : k_f23_3 v0 v6 v7 v8 v17 v18 v19 m =
  bnd (aBin X.T .add T_int false true v19 (.int .i64 1)) fun v35 =>
  l_f23_0 v0 v6 v7 v8 v17 v18 v35 m := by kernel_rfl
theorem k_f23_4_eq (v0 v6 v7 v8 v10 v17 v18 v19 : AV) (m : Mem) : k_f23_4 v0 v6 v7 v8 v10 v17 v18 v19 m =
  retK (w_f54 v0 v10 v7 m) (fun v32 m1 =>
  bnd (rBuildSlice A_api_Type 1 [(0, v32)]) fun v33 =>
  memK (rAppend A_api_Type 0 m1 v8 v33) fun v34 m2 =>
  k_f23_3 v0 v6 v7 v34 v17 v18 v19 m2) (fun u m1 => some (.pan u, m1)) := by kernel_rfl
noncomputable def c_f24 : Code := bodyOf Try.f24
theorem e_f24 (v0 : AV) (m : Mem) : w_f24 v0 m =
  bnd (rBuildSlice A_int 0 []) fun v4 =>
  memK (rAppend A_int 0 m v4 v0) fun v7 m1 =>
  some (.ret v7, m1) := (aW_F (c := c_f24) (fn := Try.f24) (by kernel_rfl) (by kernel_rfl) (by kernel_rfl) _ m).trans (by kernel_rfl)
end Go.AM
