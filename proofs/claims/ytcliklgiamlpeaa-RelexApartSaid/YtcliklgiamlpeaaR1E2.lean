/-
  A part of the proof: equations or tables of the program over the abstract machine, printed by a program of this proof's own.
-/
import Derived.Test.YtcliklgiamlpeaaR1Ctx
namespace Go.AM
open Go.Proofs
set_option maxRecDepth 100000
set_option linter.unusedVariables false

/-! ### parlance/parlancelaw09.RelexNothing -/
noncomputable def c_l09_RelexNothing : Code := bodyOf Try.f9
noncomputable def N_l09_RelexNothing : AAct → Mem → Option (AOut × Mem) := finK X.T Try.f9.results.toList .normal
noncomputable def P_l09_RelexNothing : AExit → AAct → Mem → Option (AOut × Mem) := finK X.T Try.f9.results.toList
noncomputable def K_l09_RelexNothing_0 : AAct → Mem → Option (AOut × Mem) := execF X F_l09_RelexNothing 0 (sR (sR c_l09_RelexNothing)) N_l09_RelexNothing P_l09_RelexNothing
noncomputable def K_l09_RelexNothing_1 : AAct → Mem → Option (AOut × Mem) := execF X F_l09_RelexNothing 0 (sR (sR (sR c_l09_RelexNothing))) N_l09_RelexNothing P_l09_RelexNothing
noncomputable def K_l09_RelexNothing_2 : AAct → Mem → Option (AOut × Mem) := execF X F_l09_RelexNothing 0 (sR (sL (sR (sR c_l09_RelexNothing)))) K_l09_RelexNothing_1 P_l09_RelexNothing
noncomputable def K_l09_RelexNothing_3 : AAct → Mem → Option (AOut × Mem) := execF X F_l09_RelexNothing 0 (sR (sR (sR (sR (sR (sR c_l09_RelexNothing)))))) N_l09_RelexNothing P_l09_RelexNothing
noncomputable def K_l09_RelexNothing_4 : AAct → Mem → Option (AOut × Mem) := execF X F_l09_RelexNothing 0 (sR (sL (sR (sR (sR (sR (sR c_l09_RelexNothing))))))) K_l09_RelexNothing_3 P_l09_RelexNothing
noncomputable def K_l09_RelexNothing_5 : AAct → Mem → Option (AOut × Mem) := execF X F_l09_RelexNothing 0 (sR (sR (sR (sR (sR (sR (sR (sR c_l09_RelexNothing)))))))) N_l09_RelexNothing P_l09_RelexNothing
noncomputable def B_l09_RelexNothing_0 : AExit → AAct → Mem → Option (AOut × Mem) := blockX 0 K_l09_RelexNothing_5 P_l09_RelexNothing
noncomputable def L_l09_RelexNothing_0 : AAct → Mem → Option (AOut × Mem) := fun a m => killF (X.lk F_l09_RelexNothing 0) a.tmps fun l => loopK X F_l09_RelexNothing 0 (sB (sB (sR (sL (sR (sR (sR (sR (sR (sR (sR c_l09_RelexNothing))))))))))) B_l09_RelexNothing_0 ⟨l, a.defers⟩ m
noncomputable def K_l09_RelexNothing_6 : AAct → Mem → Option (AOut × Mem) := execF X F_l09_RelexNothing 0 (sR (sB (sB (sR (sL (sR (sR (sR (sR (sR (sR (sR c_l09_RelexNothing)))))))))))) L_l09_RelexNothing_0 B_l09_RelexNothing_0
noncomputable def K_l09_RelexNothing_7 : AAct → Mem → Option (AOut × Mem) := execF X F_l09_RelexNothing 0 (sR (sR (sB (sB (sR (sL (sR (sR (sR (sR (sR (sR (sR c_l09_RelexNothing))))))))))))) L_l09_RelexNothing_0 B_l09_RelexNothing_0
noncomputable def B_l09_RelexNothing_1 : AExit → AAct → Mem → Option (AOut × Mem) := blockX 1 K_l09_RelexNothing_7 B_l09_RelexNothing_0
noncomputable def K_l09_RelexNothing_8 : AAct → Mem → Option (AOut × Mem) := execF X F_l09_RelexNothing 1 (sR (sB (sL (sR (sB (sB (sR (sL (sR (sR (sR (sR (sR (sR (sR c_l09_RelexNothing))))))))))))))) K_l09_RelexNothing_7 B_l09_RelexNothing_1
noncomputable def k_l09_RelexNothing_0 (v0 v1 v2 : AV) (m : Mem) : Option (AOut × Mem) := K_l09_RelexNothing_0 ⟨[v0, v1, v2, Q, Q, Q, Q, Q, Q, Q, Q, Q, Q, Q, Q, Q, Q, Q, Q, Q, Q, Q, Q, Q, Q, Q, Q, Q, Q, Q, Q, Q, Q, Q, Q, Q, Q, Q, Q, Q, Q, Q, Q, Q, Q, Q, Q, Q, Q, Q, Q, Q, Q, Q, Q, Q, Q, Q, Q, Q, Q, Q, Q, Q, Q, Q, Q, Q, Q, Q, Q, Q, Q, Q, Q, Q, Q, Q, Q, Q, Q, Q, Q, Q, Q, Q, Q, Q, Q, Q, Q], []⟩ m
noncomputable def k_l09_RelexNothing_1 (v0 v1 v2 : AV) (m : Mem) : Option (AOut × Mem) := K_l09_RelexNothing_1 ⟨[v0, v1, v2, Q, Q, Q, Q, Q, Q, Q, Q, Q, Q, Q, Q, Q, Q, Q, Q, Q, Q, Q, Q, Q, Q, Q, Q, Q, Q, Q, Q, Q, Q, Q, Q, Q, Q, Q, Q, Q, Q, Q, Q, Q, Q, Q, Q, Q, Q, Q, Q, Q, Q, Q, Q, Q, Q, Q, Q, Q, Q, Q, Q, Q, Q, Q, Q, Q, Q, Q, Q, Q, Q, Q, Q, Q, Q, Q, Q, Q, Q, Q, Q, Q, Q, Q, Q, Q, Q, Q, Q], []⟩ m
noncomputable def k_l09_RelexNothing_2 (v0 v1 v2 v33 : AV) (m : Mem) : Option (AOut × Mem) := K_l09_RelexNothing_2 ⟨[v0, v1, v2, Q, Q, Q, Q, Q, Q, Q, Q, Q, Q, Q, Q, Q, Q, Q, Q, Q, Q, Q, Q, Q, Q, Q, Q, Q, Q, Q, Q, Q, Q, v33, Q, Q, Q, Q, Q, Q, Q, Q, Q, Q, Q, Q, Q, Q, Q, Q, Q, Q, Q, Q, Q, Q, Q, Q, Q, Q, Q, Q, Q, Q, Q, Q, Q, Q, Q, Q, Q, Q, Q, Q, Q, Q, Q, Q, Q, Q, Q, Q, Q, Q, Q, Q, Q, Q, Q, Q, Q], []⟩ m
noncomputable def k_l09_RelexNothing_3 (v1 v2 v7 v9 v10 : AV) (m : Mem) : Option (AOut × Mem) := K_l09_RelexNothing_3 ⟨[Q, v1, v2, Q, Q, Q, Q, v7, Q, v9, v10, Q, Q, Q, Q, Q, Q, Q, Q, Q, Q, Q, Q, Q, Q, Q, Q, Q, Q, Q, Q, Q, Q, Q, Q, Q, Q, Q, Q, Q, Q, Q, Q, Q, Q, Q, Q, Q, Q, Q, Q, Q, Q, Q, Q, Q, Q, Q, Q, Q, Q, Q, Q, Q, Q, Q, Q, Q, Q, Q, Q, Q, Q, Q, Q, Q, Q, Q, Q, Q, Q, Q, Q, Q, Q, Q, Q, Q, Q, Q, Q], []⟩ m
noncomputable def k_l09_RelexNothing_4 (v1 v2 v7 v9 v10 v57 : AV) (m : Mem) : Option (AOut × Mem) := K_l09_RelexNothing_4 ⟨[Q, v1, v2, Q, Q, Q, Q, v7, Q, v9, v10, Q, Q, Q, Q, Q, Q, Q, Q, Q, Q, Q, Q, Q, Q, Q, Q, Q, Q, Q, Q, Q, Q, Q, Q, Q, Q, Q, Q, Q, Q, Q, Q, Q, Q, Q, Q, Q, Q, Q, Q, Q, Q, Q, Q, Q, Q, v57, Q, Q, Q, Q, Q, Q, Q, Q, Q, Q, Q, Q, Q, Q, Q, Q, Q, Q, Q, Q, Q, Q, Q, Q, Q, Q, Q, Q, Q, Q, Q, Q, Q], []⟩ m
noncomputable def k_l09_RelexNothing_5 (v1 v2 v7 v9 v10 v12 v13 : AV) (m : Mem) : Option (AOut × Mem) := K_l09_RelexNothing_5 ⟨[Q, v1, v2, Q, Q, Q, Q, v7, Q, v9, v10, Q, v12, v13, Q, Q, Q, Q, Q, Q, Q, Q, Q, Q, Q, Q, Q, Q, Q, Q, Q, Q, Q, Q, Q, Q, Q, Q, Q, Q, Q, Q, Q, Q, Q, Q, Q, Q, Q, Q, Q, Q, Q, Q, Q, Q, Q, Q, Q, Q, Q, Q, Q, Q, Q, Q, Q, Q, Q, Q, Q, Q, Q, Q, Q, Q, Q, Q, Q, Q, Q, Q, Q, Q, Q, Q, Q, Q, Q, Q, Q], []⟩ m
noncomputable def l_l09_RelexNothing_0 (v1 v2 v7 v9 v10 v12 v13 : AV) (m : Mem) : Option (AOut × Mem) := L_l09_RelexNothing_0 ⟨[Q, v1, v2, Q, Q, Q, Q, v7, Q, v9, v10, Q, v12, v13, Q, Q, Q, Q, Q, Q, Q, Q, Q, Q, Q, Q, Q, Q, Q, Q, Q, Q, Q, Q, Q, Q, Q, Q, Q, Q, Q, Q, Q, Q, Q, Q, Q, Q, Q, Q, Q, Q, Q, Q, Q, Q, Q, Q, Q, Q, Q, Q, Q, Q, Q, Q, Q, Q, Q, Q, Q, Q, Q, Q, Q, Q, Q, Q, Q, Q, Q, Q, Q, Q, Q, Q, Q, Q, Q, Q, Q], []⟩ m
noncomputable def k_l09_RelexNothing_6 (v1 v2 v7 v9 v10 v12 v13 : AV) (m : Mem) : Option (AOut × Mem) := K_l09_RelexNothing_6 ⟨[Q, v1, v2, Q, Q, Q, Q, v7, Q, v9, v10, Q, v12, v13, Q, Q, Q, Q, Q, Q, Q, Q, Q, Q, Q, Q, Q, Q, Q, Q, Q, Q, Q, Q, Q, Q, Q, Q, Q, Q, Q, Q, Q, Q, Q, Q, Q, Q, Q, Q, Q, Q, Q, Q, Q, Q, Q, Q, Q, Q, Q, Q, Q, Q, Q, Q, Q, Q, Q, Q, Q, Q, Q, Q, Q, Q, Q, Q, Q, Q, Q, Q, Q, Q, Q, Q, Q, Q, Q, Q, Q], []⟩ m
noncomputable def k_l09_RelexNothing_7 (v1 v2 v7 v9 v10 v12 v13 : AV) (m : Mem) : Option (AOut × Mem) := K_l09_RelexNothing_7 ⟨[Q, v1, v2, Q, Q, Q, Q, v7, Q, v9, v10, Q, v12, v13, Q, Q, Q, Q, Q, Q, Q, Q, Q, Q, Q, Q, Q, Q, Q, Q, Q, Q, Q, Q, Q, Q, Q, Q, Q, Q, Q, Q, Q, Q, Q, Q, Q, Q, Q, Q, Q, Q, Q, Q, Q, Q, Q, Q, Q, Q, Q, Q, Q, Q, Q, Q, Q, Q, Q, Q, Q, Q, Q, Q, Q, Q, Q, Q, Q, Q, Q, Q, Q, Q, Q, Q, Q, Q, Q, Q, Q], []⟩ m
noncomputable def k_l09_RelexNothing_8 (v1 v2 v7 v9 v10 v12 v13 v80 : AV) (m : Mem) : Option (AOut × Mem) := K_l09_RelexNothing_8 ⟨[Q, v1, v2, Q, Q, Q, Q, v7, Q, v9, v10, Q, v12, v13, Q, Q, Q, Q, Q, Q, Q, Q, Q, Q, Q, Q, Q, Q, Q, Q, Q, Q, Q, Q, Q, Q, Q, Q, Q, Q, Q, Q, Q, Q, Q, Q, Q, Q, Q, Q, Q, Q, Q, Q, Q, Q, Q, Q, Q, Q, Q, Q, Q, Q, Q, Q, Q, Q, Q, Q, Q, Q, Q, Q, Q, Q, Q, Q, Q, Q, v80, Q, Q, Q, Q, Q, Q, Q, Q, Q, Q], []⟩ m
theorem e_l09_RelexNothing (v0 v1 v2 : AV) (m : Mem) : w_l09_RelexNothing v0 v1 v2 m =
  retK (w_l09_alive m) (fun v14 m1 =>
  bnd (aUn .not v14) fun v15 =>
  onBool v15
    (some (.ret (.bool false), m1))
    (k_l09_RelexNothing_0 v0 v1 v2 m1)) (fun u m1 => some (.pan u, m1)) := (aW_F (c := c_l09_RelexNothing) (fn := Try.f9) (by kernel_rfl) (by kernel_rfl) (by kernel_rfl) _ m).trans (by kernel_rfl)
theorem k_l09_RelexNothing_0_eq (v0 v1 v2 : AV) (m : Mem) : k_l09_RelexNothing_0 v0 v1 v2 m =
  bnd (rLenStr v0) fun v17 =>
  bnd (aBin X.T .gtr T_int false true v17 (.int .i64 20000)) fun v18 =>
  onWant v18
    (k_l09_RelexNothing_2 v0 v1 v2 (.bool true) m)
    (bnd (aBin X.T .lss T_int false true v1 (.int .i64 0)) fun v21 =>
  onWant v21
    (k_l09_RelexNothing_2 v0 v1 v2 (.bool true) m)
    (bnd (aBin X.T .gtr T_int false false v1 v2) fun v26 =>
  onWant v26
    (k_l09_RelexNothing_2 v0 v1 v2 (.bool true) m)
    (bnd (rLenStr v0) fun v31 =>
  bnd (aBin X.T .gtr T_int false false v2 v31) fun v32 =>
  k_l09_RelexNothing_2 v0 v1 v2 v32 m)
    (none))
    (none))
    (none) := by kernel_rfl
theorem k_l09_RelexNothing_1_eq (v0 v1 v2 : AV) (m : Mem) : k_l09_RelexNothing_1 v0 v1 v2 m =
  retK (w_lex_Lex v0 m) (fun v35 m1 =>
  bnd (rSliceStr v0 (some v1) (some v2)) fun v44 =>
  retK (w_relex_Relex v0 v35 v1 v2 v44 m1) (fun v45 m2 =>
  bnd (aExtract v45 0) fun v46 =>
  bnd (aExtract v45 1) fun v47 =>
  bnd (aExtract v45 2) fun v48 =>
  bnd (aExtract v45 3) fun v49 =>
  bnd (aBin X.T .neq T_api_Errno false true v49 (.int .i64 0)) fun v51 =>
  onWant v51
    (k_l09_RelexNothing_4 v1 v2 v35 v47 v48 (.bool true) m2)
    (retK (w_r00_SameTokens v46 v35 m2) (fun v55 m3 =>
  bnd (aUn .not v55) fun v56 =>
  k_l09_RelexNothing_4 v1 v2 v35 v47 v48 v56 m3) (fun u m3 => some (.pan u, m3)))
    (none)) (fun u m2 => some (.pan u, m2))) (fun u m1 => some (.pan u, m1)) := by kernel_rfl
theorem k_l09_RelexNothing_2_eq (v0 v1 v2 v33 : AV) (m : Mem) : k_l09_RelexNothing_2 v0 v1 v2 v33 m =
  onBool v33
    (some (.ret (.bool true), m))
    (k_l09_RelexNothing_1 v0 v1 v2 m) := by kernel_rfl
theorem k_l09_RelexNothing_3_eq (v1 v2 v7 v9 v10 : AV) (m : Mem) : k_l09_RelexNothing_3 v1 v2 v7 v9 v10 m =
  l_l09_RelexNothing_0 v1 v2 v7 v9 v10 (.int .i64 0) (.int .i64 0) m := by kernel_rfl
theorem k_l09_RelexNothing_4_eq (v1 v2 v7 v9 v10 v57 : AV) (m : Mem) : k_l09_RelexNothing_4 v1 v2 v7 v9 v10 v57 m =
  onBool v57
    (some (.ret (.bool false), m))
    (k_l09_RelexNothing_3 v1 v2 v7 v9 v10 m) := by kernel_rfl
theorem k_l09_RelexNothing_5_eq (v1 v2 v7 v9 v10 v12 v13 : AV) (m : Mem) : k_l09_RelexNothing_5 v1 v2 v7 v9 v10 v12 v13 m =
  bnd (aBin X.T .add T_int false false v9 v10) fun v85 =>
  bnd (aBin X.T .add T_int false false v85 v12) fun v87 =>
  bnd (rLenSl v7) fun v89 =>
  bnd (aBin X.T .eql T_int false false v87 v89) fun v90 =>
  some (.ret v90, m) := by kernel_rfl
theorem l_l09_RelexNothing_0_u (v1 v2 v7 v9 v10 v12 v13 : AV) (m : Mem) : l_l09_RelexNothing_0 v1 v2 v7 v9 v10 v12 v13 m = loopK X F_l09_RelexNothing 0 (sB (sB (sR (sL (sR (sR (sR (sR (sR (sR (sR c_l09_RelexNothing))))))))))) B_l09_RelexNothing_0 ⟨[Q, v1, v2, Q, Q, Q, Q, v7, Q, v9, v10, Q, v12, v13, Q, Q, Q, Q, Q, Q, Q, Q, Q, Q, Q, Q, Q, Q, Q, Q, Q, Q, Q, Q, Q, Q, Q, Q, Q, Q, Q, Q, Q, Q, Q, Q, Q, Q, Q, Q, Q, Q, Q, Q, Q, Q, Q, Q, Q, Q, Q, Q, Q, Q, Q, Q, Q, Q, Q, Q, Q, Q, Q, Q, Q, Q, Q, Q, Q, Q, Q, Q, Q, Q, Q, Q, Q, Q, Q, Q, Q], []⟩ m := by kernel_rfl
theorem l_l09_RelexNothing_0_r (v1 v2 v7 v9 v10 v12 v13 : AV) (m : Mem) : roundF X F_l09_RelexNothing 0 (sB (sB (sR (sL (sR (sR (sR (sR (sR (sR (sR c_l09_RelexNothing))))))))))) B_l09_RelexNothing_0 [Q, v1, v2, Q, Q, Q, Q, v7, Q, v9, v10, Q, v12, v13, Q, Q, Q, Q, Q, Q, Q, Q, Q, Q, Q, Q, Q, Q, Q, Q, Q, Q, Q, Q, Q, Q, Q, Q, Q, Q, Q, Q, Q, Q, Q, Q, Q, Q, Q, Q, Q, Q, Q, Q, Q, Q, Q, Q, Q, Q, Q, Q, Q, Q, Q, Q, Q, Q, Q, Q, Q, Q, Q, Q, Q, Q, Q, Q, Q, Q, Q, Q, Q, Q, Q, Q, Q, Q, Q, Q, Q] m =
  bnd (rLenSl v7) fun v60 =>
  bnd (aBin X.T .lss T_int false false v13 v60) fun v61 =>
  onBool v61
    (k_l09_RelexNothing_6 v1 v2 v7 v9 v10 v12 v13 m)
    (k_l09_RelexNothing_5 v1 v2 v7 v9 v10 v12 v13 m) := by kernel_rfl
theorem l_l09_RelexNothing_0_eq (v1 v2 v7 v9 v10 v12 v13 : AV) (m : Mem) : l_l09_RelexNothing_0 v1 v2 v7 v9 v10 v12 v13 m =
  bnd (rLenSl v7) fun v60 =>
  bnd (aBin X.T .lss T_int false false v13 v60) fun v61 =>
  onBool v61
    (k_l09_RelexNothing_6 v1 v2 v7 v9 v10 v12 v13 m)
    (k_l09_RelexNothing_5 v1 v2 v7 v9 v10 v12 v13 m) := roundF_of (l_l09_RelexNothing_0_u v1 v2 v7 v9 v10 v12 v13 m) (l_l09_RelexNothing_0_r v1 v2 v7 v9 v10 v12 v13 m)
theorem k_l09_RelexNothing_6_eq (v1 v2 v7 v9 v10 v12 v13 : AV) (m : Mem) : k_l09_RelexNothing_6 v1 v2 v7 v9 v10 v12 v13 m =
  bnd (rIxAddrSl 3 v7 v13) fun v66 =>
  bnd (rFieldAddr 2 v66) fun v67 =>
  bnd (rLoad false 1 m v67) fun v68 =>
  bnd (aBin X.T .sub T_int false true v1 (.int .i64 1)) fun v70 =>
  bnd (aBin X.T .geq T_int false false v68 v70) fun v71 =>
  onWant v71
    (bnd (rIxAddrSl 3 v7 v13) fun v75 =>
  bnd (rFieldAddr 1 v75) fun v76 =>
  bnd (rLoad false 1 m v76) fun v77 =>
  bnd (aBin X.T .lss T_int false false v77 v2) fun v79 =>
  k_l09_RelexNothing_8 v1 v2 v7 v9 v10 v12 v13 v79 m)
    (k_l09_RelexNothing_8 v1 v2 v7 v9 v10 v12 v13 (.bool false) m)
    (none) := by kernel_rfl
theorem k_l09_RelexNothing_7_eq (v1 v2 v7 v9 v10 v12 v13 : AV) (m : Mem) : k_l09_RelexNothing_7 v1 v2 v7 v9 v10 v12 v13 m =
  bnd (aBin X.T .add T_int false true v13 (.int .i64 1)) fun v63 =>
  l_l09_RelexNothing_0 v1 v2 v7 v9 v10 v12 v63 m := by kernel_rfl
theorem k_l09_RelexNothing_8_eq (v1 v2 v7 v9 v10 v12 v13 v80 : AV) (m : Mem) : k_l09_RelexNothing_8 v1 v2 v7 v9 v10 v12 v13 v80 m =
  onBool v80
    (bnd (aBin X.T .add T_int false true v12 (.int .i64 1)) fun v82 =>
    k_l09_RelexNothing_7 v1 v2 v7 v9 v10 v82 v13 m)
    (k_l09_RelexNothing_7 v1 v2 v7 v9 v10 v12 v13 m) := by kernel_rfl

/-! ### parlance/parlancelaw09.RelexSpans -/
noncomputable def c_l09_RelexSpans : Code := bodyOf Try.f10
noncomputable def N_l09_RelexSpans : AAct → Mem → Option (AOut × Mem) := finK X.T Try.f10.results.toList .normal
noncomputable def P_l09_RelexSpans : AExit → AAct → Mem → Option (AOut × Mem) := finK X.T Try.f10.results.toList
noncomputable def K_l09_RelexSpans_0 : AAct → Mem → Option (AOut × Mem) := execF X F_l09_RelexSpans 0 (sR (sR c_l09_RelexSpans)) N_l09_RelexSpans P_l09_RelexSpans
noncomputable def K_l09_RelexSpans_1 : AAct → Mem → Option (AOut × Mem) := execF X F_l09_RelexSpans 0 (sR (sR (sR c_l09_RelexSpans))) N_l09_RelexSpans P_l09_RelexSpans
noncomputable def K_l09_RelexSpans_2 : AAct → Mem → Option (AOut × Mem) := execF X F_l09_RelexSpans 0 (sR (sL (sR (sR c_l09_RelexSpans)))) K_l09_RelexSpans_1 P_l09_RelexSpans
noncomputable def k_l09_RelexSpans_0 (v0 v1 : AV) (m : Mem) : Option (AOut × Mem) := K_l09_RelexSpans_0 ⟨[v0, v1, Q, Q, Q, Q, Q, Q, Q, Q, Q, Q, Q, Q, Q, Q, Q, Q, Q, Q, Q, Q, Q, Q, Q, Q, Q, Q, Q, Q, Q, Q, Q, Q], []⟩ m
noncomputable def k_l09_RelexSpans_1 (v0 v1 : AV) (m : Mem) : Option (AOut × Mem) := K_l09_RelexSpans_1 ⟨[v0, v1, Q, Q, Q, Q, Q, Q, Q, Q, Q, Q, Q, Q, Q, Q, Q, Q, Q, Q, Q, Q, Q, Q, Q, Q, Q, Q, Q, Q, Q, Q, Q, Q], []⟩ m
noncomputable def k_l09_RelexSpans_2 (v0 v1 v14 : AV) (m : Mem) : Option (AOut × Mem) := K_l09_RelexSpans_2 ⟨[v0, v1, Q, Q, Q, Q, Q, Q, Q, Q, Q, Q, Q, Q, v14, Q, Q, Q, Q, Q, Q, Q, Q, Q, Q, Q, Q, Q, Q, Q, Q, Q, Q, Q], []⟩ m
theorem e_l09_RelexSpans (v0 v1 : AV) (m : Mem) : w_l09_RelexSpans v0 v1 m =
  retK (w_l09_alive m) (fun v5 m1 =>
  bnd (aUn .not v5) fun v6 =>
  onBool v6
    (some (.ret (.bool false), m1))
    (k_l09_RelexSpans_0 v0 v1 m1)) (fun u m1 => some (.pan u, m1)) := (aW_F (c := c_l09_RelexSpans) (fn := Try.f10) (by kernel_rfl) (by kernel_rfl) (by kernel_rfl) _ m).trans (by kernel_rfl)
theorem k_l09_RelexSpans_0_eq (v0 v1 : AV) (m : Mem) : k_l09_RelexSpans_0 v0 v1 m =
  bnd (rLenStr v0) fun v8 =>
  bnd (aBin X.T .gtr T_int false true v8 (.int .i64 20000)) fun v9 =>
  onWant v9
    (k_l09_RelexSpans_2 v0 v1 (.bool true) m)
    (bnd (rLenSl v1) fun v12 =>
  bnd (aBin X.T .gtr T_int false true v12 (.int .i64 5000)) fun v13 =>
  k_l09_RelexSpans_2 v0 v1 v13 m)
    (none) := by kernel_rfl
theorem k_l09_RelexSpans_1_eq (v0 v1 : AV) (m : Mem) : k_l09_RelexSpans_1 v0 v1 m =
  retK (w_r00_CopyTokens v1 m) (fun v17 m1 =>
  retK (w_relex_Spans v0 v17 m1) (fun v18 m2 =>
  retK (w_r09_Spans v0 v1 m2) (fun v21 m3 =>
  retK (w_l09_sameSpans v18 v21 m3) (fun v22 m4 =>
  onWant v22
    (retK (w_lex_Lex v0 m4) (fun v26 m5 =>
  retK (w_relex_Spans v0 v26 m5) (fun v27 m6 =>
  retK (w_r08_Lex v0 m6) (fun v30 m7 =>
  retK (w_r09_Spans v0 v30 m7) (fun v31 m8 =>
  retK (w_l09_sameSpans v27 v31 m8) (fun v32 m9 =>
  some (.ret v32, m9)) (fun u m9 => some (.pan u, m9))) (fun u m8 => some (.pan u, m8))) (fun u m7 => some (.pan u, m7))) (fun u m6 => some (.pan u, m6))) (fun u m5 => some (.pan u, m5)))
    (some (.ret (.bool false), m4))
    (none)) (fun u m4 => some (.pan u, m4))) (fun u m3 => some (.pan u, m3))) (fun u m2 => some (.pan u, m2))) (fun u m1 => some (.pan u, m1)) := by kernel_rfl
theorem k_l09_RelexSpans_2_eq (v0 v1 v14 : AV) (m : Mem) : k_l09_RelexSpans_2 v0 v1 v14 m =
  onBool v14
    (some (.ret (.bool true), m))
    (k_l09_RelexSpans_1 v0 v1 m) := by kernel_rfl

/-! ### parlance/parlancelaw09.RelexApart -/
noncomputable def c_l09_RelexApart : Code := bodyOf Try.f11
noncomputable def N_l09_RelexApart : AAct → Mem → Option (AOut × Mem) := finK X.T Try.f11.results.toList .normal
noncomputable def P_l09_RelexApart : AExit → AAct → Mem → Option (AOut × Mem) := finK X.T Try.f11.results.toList
noncomputable def K_l09_RelexApart_0 : AAct → Mem → Option (AOut × Mem) := execF X F_l09_RelexApart 0 (sR (sR c_l09_RelexApart)) N_l09_RelexApart P_l09_RelexApart
noncomputable def K_l09_RelexApart_1 : AAct → Mem → Option (AOut × Mem) := execF X F_l09_RelexApart 0 (sR (sR (sR c_l09_RelexApart))) N_l09_RelexApart P_l09_RelexApart
noncomputable def K_l09_RelexApart_2 : AAct → Mem → Option (AOut × Mem) := execF X F_l09_RelexApart 0 (sR (sR (sR (sR (sR (sR (sR c_l09_RelexApart))))))) N_l09_RelexApart P_l09_RelexApart
noncomputable def B_l09_RelexApart_0 : AExit → AAct → Mem → Option (AOut × Mem) := blockX 0 K_l09_RelexApart_2 P_l09_RelexApart
noncomputable def L_l09_RelexApart_0 : AAct → Mem → Option (AOut × Mem) := fun a m => killF (X.lk F_l09_RelexApart 0) a.tmps fun l => loopK X F_l09_RelexApart 0 (sB (sB (sR (sL (sR (sR (sR (sR (sR (sR c_l09_RelexApart)))))))))) B_l09_RelexApart_0 ⟨l, a.defers⟩ m
noncomputable def K_l09_RelexApart_3 : AAct → Mem → Option (AOut × Mem) := execF X F_l09_RelexApart 0 (sR (sR (sR (sR (sR (sR (sR (sR c_l09_RelexApart)))))))) N_l09_RelexApart P_l09_RelexApart
noncomputable def B_l09_RelexApart_4 : AExit → AAct → Mem → Option (AOut × Mem) := blockX 4 K_l09_RelexApart_3 P_l09_RelexApart
noncomputable def L_l09_RelexApart_4 : AAct → Mem → Option (AOut × Mem) := fun a m => killF (X.lk F_l09_RelexApart 4) a.tmps fun l => loopK X F_l09_RelexApart 4 (sB (sB (sR (sL (sR (sR (sR (sR (sR (sR (sR c_l09_RelexApart))))))))))) B_l09_RelexApart_4 ⟨l, a.defers⟩ m
noncomputable def K_l09_RelexApart_4 : AAct → Mem → Option (AOut × Mem) := execF X F_l09_RelexApart 0 (sR (sB (sB (sR (sL (sR (sR (sR (sR (sR (sR c_l09_RelexApart))))))))))) L_l09_RelexApart_0 B_l09_RelexApart_0
noncomputable def K_l09_RelexApart_5 : AAct → Mem → Option (AOut × Mem) := execF X F_l09_RelexApart 4 (sR (sB (sB (sR (sL (sR (sR (sR (sR (sR (sR (sR c_l09_RelexApart)))))))))))) L_l09_RelexApart_4 B_l09_RelexApart_4
noncomputable def K_l09_RelexApart_6 : AAct → Mem → Option (AOut × Mem) := execF X F_l09_RelexApart 0 (sR (sR (sB (sB (sR (sL (sR (sR (sR (sR (sR (sR c_l09_RelexApart)))))))))))) L_l09_RelexApart_0 B_l09_RelexApart_0
noncomputable def B_l09_RelexApart_1 : AExit → AAct → Mem → Option (AOut × Mem) := blockX 1 K_l09_RelexApart_6 B_l09_RelexApart_0
noncomputable def K_l09_RelexApart_7 : AAct → Mem → Option (AOut × Mem) := execF X F_l09_RelexApart 1 (sR (sB (sL (sR (sB (sB (sR (sL (sR (sR (sR (sR (sR (sR c_l09_RelexApart)))))))))))))) K_l09_RelexApart_6 B_l09_RelexApart_1
noncomputable def K_l09_RelexApart_8 : AAct → Mem → Option (AOut × Mem) := execF X F_l09_RelexApart 4 (sR (sR (sB (sB (sR (sL (sR (sR (sR (sR (sR (sR (sR c_l09_RelexApart))))))))))))) L_l09_RelexApart_4 B_l09_RelexApart_4
noncomputable def B_l09_RelexApart_5 : AExit → AAct → Mem → Option (AOut × Mem) := blockX 5 K_l09_RelexApart_8 B_l09_RelexApart_4
noncomputable def K_l09_RelexApart_9 : AAct → Mem → Option (AOut × Mem) := execF X F_l09_RelexApart 5 (sR (sB (sL (sR (sB (sB (sR (sL (sR (sR (sR (sR (sR (sR (sR c_l09_RelexApart))))))))))))))) K_l09_RelexApart_8 B_l09_RelexApart_5
noncomputable def K_l09_RelexApart_10 : AAct → Mem → Option (AOut × Mem) := execF X F_l09_RelexApart 1 (sR (sR (sB (sL (sR (sB (sB (sR (sL (sR (sR (sR (sR (sR (sR c_l09_RelexApart))))))))))))))) K_l09_RelexApart_6 B_l09_RelexApart_1
noncomputable def B_l09_RelexApart_2 : AExit → AAct → Mem → Option (AOut × Mem) := blockX 2 K_l09_RelexApart_10 B_l09_RelexApart_1
noncomputable def L_l09_RelexApart_2 : AAct → Mem → Option (AOut × Mem) := fun a m => killF (X.lk F_l09_RelexApart 2) a.tmps fun l => loopK X F_l09_RelexApart 2 (sB (sB (sL (sR (sB (sL (sR (sB (sB (sR (sL (sR (sR (sR (sR (sR (sR c_l09_RelexApart))))))))))))))))) B_l09_RelexApart_2 ⟨l, a.defers⟩ m
noncomputable def K_l09_RelexApart_11 : AAct → Mem → Option (AOut × Mem) := execF X F_l09_RelexApart 1 (sR (sR (sR (sB (sL (sR (sB (sB (sR (sL (sR (sR (sR (sR (sR (sR c_l09_RelexApart)))))))))))))))) K_l09_RelexApart_6 B_l09_RelexApart_1
noncomputable def K_l09_RelexApart_12 : AAct → Mem → Option (AOut × Mem) := execF X F_l09_RelexApart 2 (sR (sB (sB (sL (sR (sB (sL (sR (sB (sB (sR (sL (sR (sR (sR (sR (sR (sR c_l09_RelexApart)))))))))))))))))) L_l09_RelexApart_2 B_l09_RelexApart_2
noncomputable def K_l09_RelexApart_13 : AAct → Mem → Option (AOut × Mem) := execF X F_l09_RelexApart 2 (sR (sL (sB (sB (sL (sR (sB (sL (sR (sB (sB (sR (sL (sR (sR (sR (sR (sR (sR c_l09_RelexApart))))))))))))))))))) K_l09_RelexApart_12 B_l09_RelexApart_2
noncomputable def B_l09_RelexApart_3 : AExit → AAct → Mem → Option (AOut × Mem) := blockX 3 L_l09_RelexApart_2 B_l09_RelexApart_2
noncomputable def k_l09_RelexApart_0 (v0 : AV) (m : Mem) : Option (AOut × Mem) := K_l09_RelexApart_0 ⟨[v0, Q, Q, Q, Q, Q, Q, Q, Q, Q, Q, Q, Q, Q, Q, Q, Q, Q, Q, Q, Q, Q, Q, Q, Q, Q, Q, Q, Q, Q, Q, Q, Q, Q, Q, Q, Q, Q, Q, Q, Q, Q, Q, Q, Q, Q, Q, Q, Q, Q, Q, Q, Q, Q, Q, Q, Q, Q, Q, Q, Q, Q, Q, Q, Q, Q, Q, Q, Q, Q, Q, Q, Q, Q, Q, Q, Q, Q, Q, Q, Q, Q, Q, Q, Q, Q, Q, Q, Q, Q, Q, Q, Q, Q, Q, Q, Q, Q, Q, Q, Q, Q, Q, Q, Q, Q, Q, Q, Q, Q, Q, Q, Q, Q, Q, Q, Q, Q, Q, Q], []⟩ m
noncomputable def k_l09_RelexApart_1 (v0 : AV) (m : Mem) : Option (AOut × Mem) := K_l09_RelexApart_1 ⟨[v0, Q, Q, Q, Q, Q, Q, Q, Q, Q, Q, Q, Q, Q, Q, Q, Q, Q, Q, Q, Q, Q, Q, Q, Q, Q, Q, Q, Q, Q, Q, Q, Q, Q, Q, Q, Q, Q, Q, Q, Q, Q, Q, Q, Q, Q, Q, Q, Q, Q, Q, Q, Q, Q, Q, Q, Q, Q, Q, Q, Q, Q, Q, Q, Q, Q, Q, Q, Q, Q, Q, Q, Q, Q, Q, Q, Q, Q, Q, Q, Q, Q, Q, Q, Q, Q, Q, Q, Q, Q, Q, Q, Q, Q, Q, Q, Q, Q, Q, Q, Q, Q, Q, Q, Q, Q, Q, Q, Q, Q, Q, Q, Q, Q, Q, Q, Q, Q, Q, Q], []⟩ m
noncomputable def k_l09_RelexApart_2 (v0 v3 v4 v5 v6 : AV) (m : Mem) : Option (AOut × Mem) := K_l09_RelexApart_2 ⟨[v0, Q, Q, v3, v4, v5, v6, Q, Q, Q, Q, Q, Q, Q, Q, Q, Q, Q, Q, Q, Q, Q, Q, Q, Q, Q, Q, Q, Q, Q, Q, Q, Q, Q, Q, Q, Q, Q, Q, Q, Q, Q, Q, Q, Q, Q, Q, Q, Q, Q, Q, Q, Q, Q, Q, Q, Q, Q, Q, Q, Q, Q, Q, Q, Q, Q, Q, Q, Q, Q, Q, Q, Q, Q, Q, Q, Q, Q, Q, Q, Q, Q, Q, Q, Q, Q, Q, Q, Q, Q, Q, Q, Q, Q, Q, Q, Q, Q, Q, Q, Q, Q, Q, Q, Q, Q, Q, Q, Q, Q, Q, Q, Q, Q, Q, Q, Q, Q, Q, Q], []⟩ m
noncomputable def l_l09_RelexApart_0 (v0 v3 v4 v5 v6 : AV) (m : Mem) : Option (AOut × Mem) := L_l09_RelexApart_0 ⟨[v0, Q, Q, v3, v4, v5, v6, Q, Q, Q, Q, Q, Q, Q, Q, Q, Q, Q, Q, Q, Q, Q, Q, Q, Q, Q, Q, Q, Q, Q, Q, Q, Q, Q, Q, Q, Q, Q, Q, Q, Q, Q, Q, Q, Q, Q, Q, Q, Q, Q, Q, Q, Q, Q, Q, Q, Q, Q, Q, Q, Q, Q, Q, Q, Q, Q, Q, Q, Q, Q, Q, Q, Q, Q, Q, Q, Q, Q, Q, Q, Q, Q, Q, Q, Q, Q, Q, Q, Q, Q, Q, Q, Q, Q, Q, Q, Q, Q, Q, Q, Q, Q, Q, Q, Q, Q, Q, Q, Q, Q, Q, Q, Q, Q, Q, Q, Q, Q, Q, Q], []⟩ m
noncomputable def k_l09_RelexApart_3 (v0 v4 v7 : AV) (m : Mem) : Option (AOut × Mem) := K_l09_RelexApart_3 ⟨[v0, Q, Q, Q, v4, Q, Q, v7, Q, Q, Q, Q, Q, Q, Q, Q, Q, Q, Q, Q, Q, Q, Q, Q, Q, Q, Q, Q, Q, Q, Q, Q, Q, Q, Q, Q, Q, Q, Q, Q, Q, Q, Q, Q, Q, Q, Q, Q, Q, Q, Q, Q, Q, Q, Q, Q, Q, Q, Q, Q, Q, Q, Q, Q, Q, Q, Q, Q, Q, Q, Q, Q, Q, Q, Q, Q, Q, Q, Q, Q, Q, Q, Q, Q, Q, Q, Q, Q, Q, Q, Q, Q, Q, Q, Q, Q, Q, Q, Q, Q, Q, Q, Q, Q, Q, Q, Q, Q, Q, Q, Q, Q, Q, Q, Q, Q, Q, Q, Q, Q], []⟩ m
noncomputable def l_l09_RelexApart_4 (v0 v4 v7 : AV) (m : Mem) : Option (AOut × Mem) := L_l09_RelexApart_4 ⟨[v0, Q, Q, Q, v4, Q, Q, v7, Q, Q, Q, Q, Q, Q, Q, Q, Q, Q, Q, Q, Q, Q, Q, Q, Q, Q, Q, Q, Q, Q, Q, Q, Q, Q, Q, Q, Q, Q, Q, Q, Q, Q, Q, Q, Q, Q, Q, Q, Q, Q, Q, Q, Q, Q, Q, Q, Q, Q, Q, Q, Q, Q, Q, Q, Q, Q, Q, Q, Q, Q, Q, Q, Q, Q, Q, Q, Q, Q, Q, Q, Q, Q, Q, Q, Q, Q, Q, Q, Q, Q, Q, Q, Q, Q, Q, Q, Q, Q, Q, Q, Q, Q, Q, Q, Q, Q, Q, Q, Q, Q, Q, Q, Q, Q, Q, Q, Q, Q, Q, Q], []⟩ m
noncomputable def k_l09_RelexApart_4 (v0 v3 v4 v5 v6 : AV) (m : Mem) : Option (AOut × Mem) := K_l09_RelexApart_4 ⟨[v0, Q, Q, v3, v4, v5, v6, Q, Q, Q, Q, Q, Q, Q, Q, Q, Q, Q, Q, Q, Q, Q, Q, Q, Q, Q, Q, Q, Q, Q, Q, Q, Q, Q, Q, Q, Q, Q, Q, Q, Q, Q, Q, Q, Q, Q, Q, Q, Q, Q, Q, Q, Q, Q, Q, Q, Q, Q, Q, Q, Q, Q, Q, Q, Q, Q, Q, Q, Q, Q, Q, Q, Q, Q, Q, Q, Q, Q, Q, Q, Q, Q, Q, Q, Q, Q, Q, Q, Q, Q, Q, Q, Q, Q, Q, Q, Q, Q, Q, Q, Q, Q, Q, Q, Q, Q, Q, Q, Q, Q, Q, Q, Q, Q, Q, Q, Q, Q, Q, Q], []⟩ m
noncomputable def k_l09_RelexApart_5 (v0 v4 v7 : AV) (m : Mem) : Option (AOut × Mem) := K_l09_RelexApart_5 ⟨[v0, Q, Q, Q, v4, Q, Q, v7, Q, Q, Q, Q, Q, Q, Q, Q, Q, Q, Q, Q, Q, Q, Q, Q, Q, Q, Q, Q, Q, Q, Q, Q, Q, Q, Q, Q, Q, Q, Q, Q, Q, Q, Q, Q, Q, Q, Q, Q, Q, Q, Q, Q, Q, Q, Q, Q, Q, Q, Q, Q, Q, Q, Q, Q, Q, Q, Q, Q, Q, Q, Q, Q, Q, Q, Q, Q, Q, Q, Q, Q, Q, Q, Q, Q, Q, Q, Q, Q, Q, Q, Q, Q, Q, Q, Q, Q, Q, Q, Q, Q, Q, Q, Q, Q, Q, Q, Q, Q, Q, Q, Q, Q, Q, Q, Q, Q, Q, Q, Q, Q], []⟩ m
noncomputable def k_l09_RelexApart_6 (v0 v3 v4 v5 v6 : AV) (m : Mem) : Option (AOut × Mem) := K_l09_RelexApart_6 ⟨[v0, Q, Q, v3, v4, v5, v6, Q, Q, Q, Q, Q, Q, Q, Q, Q, Q, Q, Q, Q, Q, Q, Q, Q, Q, Q, Q, Q, Q, Q, Q, Q, Q, Q, Q, Q, Q, Q, Q, Q, Q, Q, Q, Q, Q, Q, Q, Q, Q, Q, Q, Q, Q, Q, Q, Q, Q, Q, Q, Q, Q, Q, Q, Q, Q, Q, Q, Q, Q, Q, Q, Q, Q, Q, Q, Q, Q, Q, Q, Q, Q, Q, Q, Q, Q, Q, Q, Q, Q, Q, Q, Q, Q, Q, Q, Q, Q, Q, Q, Q, Q, Q, Q, Q, Q, Q, Q, Q, Q, Q, Q, Q, Q, Q, Q, Q, Q, Q, Q, Q], []⟩ m
noncomputable def k_l09_RelexApart_7 (v0 v3 v4 v5 v6 : AV) (m : Mem) : Option (AOut × Mem) := K_l09_RelexApart_7 ⟨[v0, Q, Q, v3, v4, v5, v6, Q, Q, Q, Q, Q, Q, Q, Q, Q, Q, Q, Q, Q, Q, Q, Q, Q, Q, Q, Q, Q, Q, Q, Q, Q, Q, Q, Q, Q, Q, Q, Q, Q, Q, Q, Q, Q, Q, Q, Q, Q, Q, Q, Q, Q, Q, Q, Q, Q, Q, Q, Q, Q, Q, Q, Q, Q, Q, Q, Q, Q, Q, Q, Q, Q, Q, Q, Q, Q, Q, Q, Q, Q, Q, Q, Q, Q, Q, Q, Q, Q, Q, Q, Q, Q, Q, Q, Q, Q, Q, Q, Q, Q, Q, Q, Q, Q, Q, Q, Q, Q, Q, Q, Q, Q, Q, Q, Q, Q, Q, Q, Q, Q], []⟩ m
noncomputable def k_l09_RelexApart_8 (v0 v4 v7 : AV) (m : Mem) : Option (AOut × Mem) := K_l09_RelexApart_8 ⟨[v0, Q, Q, Q, v4, Q, Q, v7, Q, Q, Q, Q, Q, Q, Q, Q, Q, Q, Q, Q, Q, Q, Q, Q, Q, Q, Q, Q, Q, Q, Q, Q, Q, Q, Q, Q, Q, Q, Q, Q, Q, Q, Q, Q, Q, Q, Q, Q, Q, Q, Q, Q, Q, Q, Q, Q, Q, Q, Q, Q, Q, Q, Q, Q, Q, Q, Q, Q, Q, Q, Q, Q, Q, Q, Q, Q, Q, Q, Q, Q, Q, Q, Q, Q, Q, Q, Q, Q, Q, Q, Q, Q, Q, Q, Q, Q, Q, Q, Q, Q, Q, Q, Q, Q, Q, Q, Q, Q, Q, Q, Q, Q, Q, Q, Q, Q, Q, Q, Q, Q], []⟩ m
noncomputable def k_l09_RelexApart_9 (v0 v4 v7 v119 : AV) (m : Mem) : Option (AOut × Mem) := K_l09_RelexApart_9 ⟨[v0, Q, Q, Q, v4, Q, Q, v7, Q, Q, Q, Q, Q, Q, Q, Q, Q, Q, Q, Q, Q, Q, Q, Q, Q, Q, Q, Q, Q, Q, Q, Q, Q, Q, Q, Q, Q, Q, Q, Q, Q, Q, Q, Q, Q, Q, Q, Q, Q, Q, Q, Q, Q, Q, Q, Q, Q, Q, Q, Q, Q, Q, Q, Q, Q, Q, Q, Q, Q, Q, Q, Q, Q, Q, Q, Q, Q, Q, Q, Q, Q, Q, Q, Q, Q, Q, Q, Q, Q, Q, Q, Q, Q, Q, Q, Q, Q, Q, Q, Q, Q, Q, Q, Q, Q, Q, Q, Q, Q, Q, Q, Q, Q, Q, Q, Q, Q, Q, Q, v119], []⟩ m
noncomputable def k_l09_RelexApart_10 (v0 v3 v4 v5 v6 : AV) (m : Mem) : Option (AOut × Mem) := K_l09_RelexApart_10 ⟨[v0, Q, Q, v3, v4, v5, v6, Q, Q, Q, Q, Q, Q, Q, Q, Q, Q, Q, Q, Q, Q, Q, Q, Q, Q, Q, Q, Q, Q, Q, Q, Q, Q, Q, Q, Q, Q, Q, Q, Q, Q, Q, Q, Q, Q, Q, Q, Q, Q, Q, Q, Q, Q, Q, Q, Q, Q, Q, Q, Q, Q, Q, Q, Q, Q, Q, Q, Q, Q, Q, Q, Q, Q, Q, Q, Q, Q, Q, Q, Q, Q, Q, Q, Q, Q, Q, Q, Q, Q, Q, Q, Q, Q, Q, Q, Q, Q, Q, Q, Q, Q, Q, Q, Q, Q, Q, Q, Q, Q, Q, Q, Q, Q, Q, Q, Q, Q, Q, Q, Q], []⟩ m
noncomputable def l_l09_RelexApart_2 (v0 v3 v4 v5 v6 : AV) (m : Mem) : Option (AOut × Mem) := L_l09_RelexApart_2 ⟨[v0, Q, Q, v3, v4, v5, v6, Q, Q, Q, Q, Q, Q, Q, Q, Q, Q, Q, Q, Q, Q, Q, Q, Q, Q, Q, Q, Q, Q, Q, Q, Q, Q, Q, Q, Q, Q, Q, Q, Q, Q, Q, Q, Q, Q, Q, Q, Q, Q, Q, Q, Q, Q, Q, Q, Q, Q, Q, Q, Q, Q, Q, Q, Q, Q, Q, Q, Q, Q, Q, Q, Q, Q, Q, Q, Q, Q, Q, Q, Q, Q, Q, Q, Q, Q, Q, Q, Q, Q, Q, Q, Q, Q, Q, Q, Q, Q, Q, Q, Q, Q, Q, Q, Q, Q, Q, Q, Q, Q, Q, Q, Q, Q, Q, Q, Q, Q, Q, Q, Q], []⟩ m
noncomputable def k_l09_RelexApart_11 (v0 v3 v4 v5 v6 v65 : AV) (m : Mem) : Option (AOut × Mem) := K_l09_RelexApart_11 ⟨[v0, Q, Q, v3, v4, v5, v6, Q, Q, Q, Q, Q, Q, Q, Q, Q, Q, Q, Q, Q, Q, Q, Q, Q, Q, Q, Q, Q, Q, Q, Q, Q, Q, Q, Q, Q, Q, Q, Q, Q, Q, Q, Q, Q, Q, Q, Q, Q, Q, Q, Q, Q, Q, Q, Q, Q, Q, Q, Q, Q, Q, Q, Q, Q, Q, v65, Q, Q, Q, Q, Q, Q, Q, Q, Q, Q, Q, Q, Q, Q, Q, Q, Q, Q, Q, Q, Q, Q, Q, Q, Q, Q, Q, Q, Q, Q, Q, Q, Q, Q, Q, Q, Q, Q, Q, Q, Q, Q, Q, Q, Q, Q, Q, Q, Q, Q, Q, Q, Q, Q], []⟩ m
noncomputable def k_l09_RelexApart_12 (v0 v3 v4 v5 v6 : AV) (m : Mem) : Option (AOut × Mem) := K_l09_RelexApart_12 ⟨[v0, Q, Q, v3, v4, v5, v6, Q, Q, Q, Q, Q, Q, Q, Q, Q, Q, Q, Q, Q, Q, Q, Q, Q, Q, Q, Q, Q, Q, Q, Q, Q, Q, Q, Q, Q, Q, Q, Q, Q, Q, Q, Q, Q, Q, Q, Q, Q, Q, Q, Q, Q, Q, Q, Q, Q, Q, Q, Q, Q, Q, Q, Q, Q, Q, Q, Q, Q, Q, Q, Q, Q, Q, Q, Q, Q, Q, Q, Q, Q, Q, Q, Q, Q, Q, Q, Q, Q, Q, Q, Q, Q, Q, Q, Q, Q, Q, Q, Q, Q, Q, Q, Q, Q, Q, Q, Q, Q, Q, Q, Q, Q, Q, Q, Q, Q, Q, Q, Q, Q], []⟩ m
noncomputable def k_l09_RelexApart_13 (v0 v3 v4 v5 v6 v46 : AV) (m : Mem) : Option (AOut × Mem) := K_l09_RelexApart_13 ⟨[v0, Q, Q, v3, v4, v5, v6, Q, Q, Q, Q, Q, Q, Q, Q, Q, Q, Q, Q, Q, Q, Q, Q, Q, Q, Q, Q, Q, Q, Q, Q, Q, Q, Q, Q, Q, Q, Q, Q, Q, Q, Q, Q, Q, Q, Q, v46, Q, Q, Q, Q, Q, Q, Q, Q, Q, Q, Q, Q, Q, Q, Q, Q, Q, Q, Q, Q, Q, Q, Q, Q, Q, Q, Q, Q, Q, Q, Q, Q, Q, Q, Q, Q, Q, Q, Q, Q, Q, Q, Q, Q, Q, Q, Q, Q, Q, Q, Q, Q, Q, Q, Q, Q, Q, Q, Q, Q, Q, Q, Q, Q, Q, Q, Q, Q, Q, Q, Q, Q, Q], []⟩ m
theorem e_l09_RelexApart (v0 : AV) (m : Mem) : w_l09_RelexApart v0 m =
  retK (w_l09_alive m) (fun v8 m1 =>
  bnd (aUn .not v8) fun v9 =>
  onBool v9
    (some (.ret (.bool false), m1))
    (k_l09_RelexApart_0 v0 m1)) (fun u m1 => some (.pan u, m1)) := (aW_F (c := c_l09_RelexApart) (fn := Try.f11) (by kernel_rfl) (by kernel_rfl) (by kernel_rfl) _ m).trans (by kernel_rfl)
theorem k_l09_RelexApart_0_eq (v0 : AV) (m : Mem) : k_l09_RelexApart_0 v0 m =
  bnd (rLenStr v0) fun v11 =>
  bnd (aBin X.T .gtr T_int false true v11 (.int .i64 20000)) fun v12 =>
  onBool v12
    (some (.ret (.bool true), m))
    (k_l09_RelexApart_1 v0 m) := by kernel_rfl
theorem k_l09_RelexApart_1_eq (v0 : AV) (m : Mem) : k_l09_RelexApart_1 v0 m =
  retK (w_lex_Lex v0 m) (fun v14 m1 =>
  retK (w_relex_Spans v0 v14 m1) (fun v17 m2 =>
  l_l09_RelexApart_0 v0 v14 v17 (.int .i64 0) (.int .i64 0) m2) (fun u m2 => some (.pan u, m2))) (fun u m1 => some (.pan u, m1)) := by kernel_rfl
theorem k_l09_RelexApart_2_eq (v0 v3 v4 v5 v6 : AV) (m : Mem) : k_l09_RelexApart_2 v0 v3 v4 v5 v6 m =
  l_l09_RelexApart_4 v0 v4 (.int .i64 0) m := by kernel_rfl
theorem l_l09_RelexApart_0_u (v0 v3 v4 v5 v6 : AV) (m : Mem) : l_l09_RelexApart_0 v0 v3 v4 v5 v6 m = loopK X F_l09_RelexApart 0 (sB (sB (sR (sL (sR (sR (sR (sR (sR (sR c_l09_RelexApart)))))))))) B_l09_RelexApart_0 ⟨[v0, Q, Q, v3, v4, v5, v6, Q, Q, Q, Q, Q, Q, Q, Q, Q, Q, Q, Q, Q, Q, Q, Q, Q, Q, Q, Q, Q, Q, Q, Q, Q, Q, Q, Q, Q, Q, Q, Q, Q, Q, Q, Q, Q, Q, Q, Q, Q, Q, Q, Q, Q, Q, Q, Q, Q, Q, Q, Q, Q, Q, Q, Q, Q, Q, Q, Q, Q, Q, Q, Q, Q, Q, Q, Q, Q, Q, Q, Q, Q, Q, Q, Q, Q, Q, Q, Q, Q, Q, Q, Q, Q, Q, Q, Q, Q, Q, Q, Q, Q, Q, Q, Q, Q, Q, Q, Q, Q, Q, Q, Q, Q, Q, Q, Q, Q, Q, Q, Q, Q], []⟩ m := by kernel_rfl
theorem l_l09_RelexApart_0_r (v0 v3 v4 v5 v6 : AV) (m : Mem) : roundF X F_l09_RelexApart 0 (sB (sB (sR (sL (sR (sR (sR (sR (sR (sR c_l09_RelexApart)))))))))) B_l09_RelexApart_0 [v0, Q, Q, v3, v4, v5, v6, Q, Q, Q, Q, Q, Q, Q, Q, Q, Q, Q, Q, Q, Q, Q, Q, Q, Q, Q, Q, Q, Q, Q, Q, Q, Q, Q, Q, Q, Q, Q, Q, Q, Q, Q, Q, Q, Q, Q, Q, Q, Q, Q, Q, Q, Q, Q, Q, Q, Q, Q, Q, Q, Q, Q, Q, Q, Q, Q, Q, Q, Q, Q, Q, Q, Q, Q, Q, Q, Q, Q, Q, Q, Q, Q, Q, Q, Q, Q, Q, Q, Q, Q, Q, Q, Q, Q, Q, Q, Q, Q, Q, Q, Q, Q, Q, Q, Q, Q, Q, Q, Q, Q, Q, Q, Q, Q, Q, Q, Q, Q, Q, Q] m =
  bnd (rLenSl v3) fun v20 =>
  bnd (aBin X.T .lss T_int false false v6 v20) fun v21 =>
  onBool v21
    (k_l09_RelexApart_4 v0 v3 v4 v5 v6 m)
    (k_l09_RelexApart_2 v0 v3 v4 v5 v6 m) := by kernel_rfl
theorem l_l09_RelexApart_0_eq (v0 v3 v4 v5 v6 : AV) (m : Mem) : l_l09_RelexApart_0 v0 v3 v4 v5 v6 m =
  bnd (rLenSl v3) fun v20 =>
  bnd (aBin X.T .lss T_int false false v6 v20) fun v21 =>
  onBool v21
    (k_l09_RelexApart_4 v0 v3 v4 v5 v6 m)
    (k_l09_RelexApart_2 v0 v3 v4 v5 v6 m) := roundF_of (l_l09_RelexApart_0_u v0 v3 v4 v5 v6 m) (l_l09_RelexApart_0_r v0 v3 v4 v5 v6 m)
theorem k_l09_RelexApart_3_eq (v0 v4 v7 : AV) (m : Mem) : k_l09_RelexApart_3 v0 v4 v7 m =
  some (.ret (.bool true), m) := by kernel_rfl
theorem l_l09_RelexApart_4_u (v0 v4 v7 : AV) (m : Mem) : l_l09_RelexApart_4 v0 v4 v7 m = loopK X F_l09_RelexApart 4 (sB (sB (sR (sL (sR (sR (sR (sR (sR (sR (sR c_l09_RelexApart))))))))))) B_l09_RelexApart_4 ⟨[v0, Q, Q, Q, v4, Q, Q, v7, Q, Q, Q, Q, Q, Q, Q, Q, Q, Q, Q, Q, Q, Q, Q, Q, Q, Q, Q, Q, Q, Q, Q, Q, Q, Q, Q, Q, Q, Q, Q, Q, Q, Q, Q, Q, Q, Q, Q, Q, Q, Q, Q, Q, Q, Q, Q, Q, Q, Q, Q, Q, Q, Q, Q, Q, Q, Q, Q, Q, Q, Q, Q, Q, Q, Q, Q, Q, Q, Q, Q, Q, Q, Q, Q, Q, Q, Q, Q, Q, Q, Q, Q, Q, Q, Q, Q, Q, Q, Q, Q, Q, Q, Q, Q, Q, Q, Q, Q, Q, Q, Q, Q, Q, Q, Q, Q, Q, Q, Q, Q, Q], []⟩ m := by kernel_rfl
theorem l_l09_RelexApart_4_r (v0 v4 v7 : AV) (m : Mem) : roundF X F_l09_RelexApart 4 (sB (sB (sR (sL (sR (sR (sR (sR (sR (sR (sR c_l09_RelexApart))))))))))) B_l09_RelexApart_4 [v0, Q, Q, Q, v4, Q, Q, v7, Q, Q, Q, Q, Q, Q, Q, Q, Q, Q, Q, Q, Q, Q, Q, Q, Q, Q, Q, Q, Q, Q, Q, Q, Q, Q, Q, Q, Q, Q, Q, Q, Q, Q, Q, Q, Q, Q, Q, Q, Q, Q, Q, Q, Q, Q, Q, Q, Q, Q, Q, Q, Q, Q, Q, Q, Q, Q, Q, Q, Q, Q, Q, Q, Q, Q, Q, Q, Q, Q, Q, Q, Q, Q, Q, Q, Q, Q, Q, Q, Q, Q, Q, Q, Q, Q, Q, Q, Q, Q, Q, Q, Q, Q, Q, Q, Q, Q, Q, Q, Q, Q, Q, Q, Q, Q, Q, Q, Q, Q, Q, Q] m =
  bnd (rLenSl v4) fun v68 =>
  bnd (aBin X.T .lss T_int false false v7 v68) fun v69 =>
  onBool v69
    (k_l09_RelexApart_5 v0 v4 v7 m)
    (k_l09_RelexApart_3 v0 v4 v7 m) := by kernel_rfl
theorem l_l09_RelexApart_4_eq (v0 v4 v7 : AV) (m : Mem) : l_l09_RelexApart_4 v0 v4 v7 m =
  bnd (rLenSl v4) fun v68 =>
  bnd (aBin X.T .lss T_int false false v7 v68) fun v69 =>
  onBool v69
    (k_l09_RelexApart_5 v0 v4 v7 m)
    (k_l09_RelexApart_3 v0 v4 v7 m) := roundF_of (l_l09_RelexApart_4_u v0 v4 v7 m) (l_l09_RelexApart_4_r v0 v4 v7 m)
theorem k_l09_RelexApart_4_eq (v0 v3 v4 v5 v6 : AV) (m : Mem) : k_l09_RelexApart_4 v0 v3 v4 v5 v6 m =
  bnd (rIxAddrSl 3 v3 v6) fun v27 =>
  bnd (rLoad true 3 m v27) fun v28 =>
  retK (w_lex_Is v0 v28 (.str (bs [59, 59])) m) (fun v29 m1 =>
  onBool v29
    (k_l09_RelexApart_6 v0 v3 v4 v5 v6 m1)
    (k_l09_RelexApart_7 v0 v3 v4 v5 v6 m1)) (fun u m1 => some (.pan u, m1)) := by kernel_rfl
theorem k_l09_RelexApart_5_eq (v0 v4 v7 : AV) (m : Mem) : k_l09_RelexApart_5 v0 v4 v7 m =
  bnd (rIxAddrSl 2 v4 v7) fun v74 =>
  bnd (rIxAddrArr 2 1 v74 (.int .i64 0)) fun v75 =>
  bnd (rLoad false 1 m v75) fun v76 =>
  bnd (aBin X.T .lss T_int false true v76 (.int .i64 0)) fun v77 =>
  onWant v77
    (k_l09_RelexApart_9 v0 v4 v7 (.bool true) m)
    (bnd (rIxAddrSl 2 v4 v7) fun v81 =>
  bnd (rIxAddrArr 2 1 v81 (.int .i64 1)) fun v82 =>
  bnd (rLoad false 1 m v82) fun v83 =>
  bnd (rIxAddrSl 2 v4 v7) fun v86 =>
  bnd (rIxAddrArr 2 1 v86 (.int .i64 0)) fun v87 =>
  bnd (rLoad false 1 m v87) fun v88 =>
  bnd (aBin X.T .leq T_int false false v83 v88) fun v89 =>
  onWant v89
    (k_l09_RelexApart_9 v0 v4 v7 (.bool true) m)
    (bnd (rIxAddrSl 2 v4 v7) fun v94 =>
  bnd (rIxAddrArr 2 1 v94 (.int .i64 1)) fun v95 =>
  bnd (rLoad false 1 m v95) fun v96 =>
  bnd (rLenStr v0) fun v98 =>
  bnd (aBin X.T .gtr T_int false false v96 v98) fun v99 =>
  onWant v99
    (k_l09_RelexApart_9 v0 v4 v7 (.bool true) m)
    (bnd (aBin X.T .gtr T_int false true v7 (.int .i64 0)) fun v103 =>
  onWant v103
    (bnd (aBin X.T .sub T_int false true v7 (.int .i64 1)) fun v107 =>
  bnd (rIxAddrSl 2 v4 v107) fun v108 =>
  bnd (rIxAddrArr 2 1 v108 (.int .i64 1)) fun v109 =>
  bnd (rLoad false 1 m v109) fun v110 =>
  bnd (aBin X.T .add T_int false true v110 (.int .i64 2)) fun v111 =>
  bnd (rIxAddrSl 2 v4 v7) fun v114 =>
  bnd (rIxAddrArr 2 1 v114 (.int .i64 0)) fun v115 =>
  bnd (rLoad false 1 m v115) fun v116 =>
  bnd (aBin X.T .gtr T_int false false v111 v116) fun v117 =>
  k_l09_RelexApart_9 v0 v4 v7 v117 m)
    (k_l09_RelexApart_9 v0 v4 v7 (.bool false) m)
    (none))
    (none))
    (none))
    (none) := by kernel_rfl
theorem k_l09_RelexApart_6_eq (v0 v3 v4 v5 v6 : AV) (m : Mem) : k_l09_RelexApart_6 v0 v3 v4 v5 v6 m =
  bnd (aBin X.T .add T_int false true v6 (.int .i64 1)) fun v23 =>
  l_l09_RelexApart_0 v0 v3 v4 v5 v23 m := by kernel_rfl
theorem k_l09_RelexApart_7_eq (v0 v3 v4 v5 v6 : AV) (m : Mem) : k_l09_RelexApart_7 v0 v3 v4 v5 v6 m =
  l_l09_RelexApart_2 v0 v3 v4 v5 v6 m := by kernel_rfl
theorem k_l09_RelexApart_8_eq (v0 v4 v7 : AV) (m : Mem) : k_l09_RelexApart_8 v0 v4 v7 m =
  bnd (aBin X.T .add T_int false true v7 (.int .i64 1)) fun v71 =>
  l_l09_RelexApart_4 v0 v4 v71 m := by kernel_rfl
theorem k_l09_RelexApart_9_eq (v0 v4 v7 v119 : AV) (m : Mem) : k_l09_RelexApart_9 v0 v4 v7 v119 m =
  onBool v119
    (some (.ret (.bool false), m))
    (k_l09_RelexApart_8 v0 v4 v7 m) := by kernel_rfl
theorem k_l09_RelexApart_10_eq (v0 v3 v4 v5 v6 : AV) (m : Mem) : k_l09_RelexApart_10 v0 v3 v4 v5 v6 m =
  bnd (rLenSl v4) fun v51 =>
  bnd (aBin X.T .eql T_int false false v5 v51) fun v52 =>
  onWant v52
    (k_l09_RelexApart_11 v0 v3 v4 v5 v6 (.bool true) m)
    (bnd (rIxAddrSl 2 v4 v5) fun v56 =>
  bnd (rIxAddrArr 2 1 v56 (.int .i64 0)) fun v57 =>
  bnd (rLoad false 1 m v57) fun v58 =>
  bnd (rIxAddrSl 3 v3 v6) fun v61 =>
  bnd (rFieldAddr 1 v61) fun v62 =>
  bnd (rLoad false 1 m v62) fun v63 =>
  bnd (aBin X.T .gtr T_int false false v58 v63) fun v64 =>
  k_l09_RelexApart_11 v0 v3 v4 v5 v6 v64 m)
    (none) := by kernel_rfl
theorem l_l09_RelexApart_2_u (v0 v3 v4 v5 v6 : AV) (m : Mem) : l_l09_RelexApart_2 v0 v3 v4 v5 v6 m = loopK X F_l09_RelexApart 2 (sB (sB (sL (sR (sB (sL (sR (sB (sB (sR (sL (sR (sR (sR (sR (sR (sR c_l09_RelexApart))))))))))))))))) B_l09_RelexApart_2 ⟨[v0, Q, Q, v3, v4, v5, v6, Q, Q, Q, Q, Q, Q, Q, Q, Q, Q, Q, Q, Q, Q, Q, Q, Q, Q, Q, Q, Q, Q, Q, Q, Q, Q, Q, Q, Q, Q, Q, Q, Q, Q, Q, Q, Q, Q, Q, Q, Q, Q, Q, Q, Q, Q, Q, Q, Q, Q, Q, Q, Q, Q, Q, Q, Q, Q, Q, Q, Q, Q, Q, Q, Q, Q, Q, Q, Q, Q, Q, Q, Q, Q, Q, Q, Q, Q, Q, Q, Q, Q, Q, Q, Q, Q, Q, Q, Q, Q, Q, Q, Q, Q, Q, Q, Q, Q, Q, Q, Q, Q, Q, Q, Q, Q, Q, Q, Q, Q, Q, Q, Q], []⟩ m := by kernel_rfl
theorem l_l09_RelexApart_2_r (v0 v3 v4 v5 v6 : AV) (m : Mem) : roundF X F_l09_RelexApart 2 (sB (sB (sL (sR (sB (sL (sR (sB (sB (sR (sL (sR (sR (sR (sR (sR (sR c_l09_RelexApart))))))))))))))))) B_l09_RelexApart_2 [v0, Q, Q, v3, v4, v5, v6, Q, Q, Q, Q, Q, Q, Q, Q, Q, Q, Q, Q, Q, Q, Q, Q, Q, Q, Q, Q, Q, Q, Q, Q, Q, Q, Q, Q, Q, Q, Q, Q, Q, Q, Q, Q, Q, Q, Q, Q, Q, Q, Q, Q, Q, Q, Q, Q, Q, Q, Q, Q, Q, Q, Q, Q, Q, Q, Q, Q, Q, Q, Q, Q, Q, Q, Q, Q, Q, Q, Q, Q, Q, Q, Q, Q, Q, Q, Q, Q, Q, Q, Q, Q, Q, Q, Q, Q, Q, Q, Q, Q, Q, Q, Q, Q, Q, Q, Q, Q, Q, Q, Q, Q, Q, Q, Q, Q, Q, Q, Q, Q, Q] m =
  bnd (rLenSl v4) fun v32 =>
  bnd (aBin X.T .lss T_int false false v5 v32) fun v33 =>
  onWant v33
    (bnd (rIxAddrSl 2 v4 v5) fun v37 =>
  bnd (rIxAddrArr 2 1 v37 (.int .i64 1)) fun v38 =>
  bnd (rLoad false 1 m v38) fun v39 =>
  bnd (rIxAddrSl 3 v3 v6) fun v42 =>
  bnd (rFieldAddr 2 v42) fun v43 =>
  bnd (rLoad false 1 m v43) fun v44 =>
  bnd (aBin X.T .lss T_int false false v39 v44) fun v45 =>
  k_l09_RelexApart_13 v0 v3 v4 v5 v6 v45 m)
    (k_l09_RelexApart_13 v0 v3 v4 v5 v6 (.bool false) m)
    (none) := by kernel_rfl
theorem l_l09_RelexApart_2_eq (v0 v3 v4 v5 v6 : AV) (m : Mem) : l_l09_RelexApart_2 v0 v3 v4 v5 v6 m =
  bnd (rLenSl v4) fun v32 =>
  bnd (aBin X.T .lss T_int false false v5 v32) fun v33 =>
  onWant v33
    (bnd (rIxAddrSl 2 v4 v5) fun v37 =>
  bnd (rIxAddrArr 2 1 v37 (.int .i64 1)) fun v38 =>
  bnd (rLoad false 1 m v38) fun v39 =>
  bnd (rIxAddrSl 3 v3 v6) fun v42 =>
  bnd (rFieldAddr 2 v42) fun v43 =>
  bnd (rLoad false 1 m v43) fun v44 =>
  bnd (aBin X.T .lss T_int false false v39 v44) fun v45 =>
  k_l09_RelexApart_13 v0 v3 v4 v5 v6 v45 m)
    (k_l09_RelexApart_13 v0 v3 v4 v5 v6 (.bool false) m)
    (none) := roundF_of (l_l09_RelexApart_2_u v0 v3 v4 v5 v6 m) (l_l09_RelexApart_2_r v0 v3 v4 v5 v6 m)
theorem k_l09_RelexApart_11_eq (v0 v3 v4 v5 v6 v65 : AV) (m : Mem) : k_l09_RelexApart_11 v0 v3 v4 v5 v6 v65 m =
  onBool v65
    (some (.ret (.bool false), m))
    (k_l09_RelexApart_6 v0 v3 v4 v5 v6 m) := by kernel_rfl
theorem k_l09_RelexApart_12_eq (v0 v3 v4 v5 v6 : AV) (m : Mem) : k_l09_RelexApart_12 v0 v3 v4 v5 v6 m =
  bnd (aBin X.T .add T_int false true v5 (.int .i64 1)) fun v48 =>
  l_l09_RelexApart_2 v0 v3 v4 v48 v6 m := by kernel_rfl
theorem k_l09_RelexApart_13_eq (v0 v3 v4 v5 v6 v46 : AV) (m : Mem) : k_l09_RelexApart_13 v0 v3 v4 v5 v6 v46 m =
  onBool v46
    (k_l09_RelexApart_12 v0 v3 v4 v5 v6 m)
    (k_l09_RelexApart_10 v0 v3 v4 v5 v6 m) := by kernel_rfl

/-! ### parlance/parlancelaw08.alive -/
noncomputable def c_l08_alive : Code := bodyOf Try.f12
noncomputable def N_l08_alive : AAct → Mem → Option (AOut × Mem) := finK X.T Try.f12.results.toList .normal
noncomputable def P_l08_alive : AExit → AAct → Mem → Option (AOut × Mem) := finK X.T Try.f12.results.toList
theorem e_l08_alive (m : Mem) : w_l08_alive m =
  retK (w_lex_Lex (.str (bs [108, 101, 116, 32, 120, 39, 32, 40, 42, 32, 40, 42, 32, 42, 41, 32, 42, 41, 61, 32, 49])) m) (fun v1 m1 =>
  bnd (rBuild [.int .i64 0, .int .i64 0, .int .i64 0] [(0, 1, (.int .i64 5)), (1, 1, (.int .i64 0)), (2, 1, (.int .i64 3))]) fun v2 =>
  bnd (rBuild [.int .i64 0, .int .i64 0, .int .i64 0] [(0, 1, (.int .i64 1)), (1, 1, (.int .i64 4)), (2, 1, (.int .i64 6))]) fun v3 =>
  bnd (rBuild [.int .i64 0, .int .i64 0, .int .i64 0] [(0, 1, (.int .i64 6)), (1, 1, (.int .i64 18)), (2, 1, (.int .i64 19))]) fun v4 =>
  bnd (rBuild [.int .i64 0, .int .i64 0, .int .i64 0] [(0, 1, (.int .i64 3)), (1, 1, (.int .i64 20)), (2, 1, (.int .i64 21))]) fun v5 =>
  bnd (rBuildSlice A_api_Token 4 [(0, v2), (1, v3), (2, v4), (3, v5)]) fun v6 =>
  retK (w_r00_SameTokens v1 v6 m1) (fun v7 m2 =>
  some (.ret v7, m2)) (fun u m2 => some (.pan u, m2))) (fun u m1 => some (.pan u, m1)) := (aW_F (c := c_l08_alive) (fn := Try.f12) (by kernel_rfl) (by kernel_rfl) (by kernel_rfl) _ m).trans (by kernel_rfl)

end Go.AM
