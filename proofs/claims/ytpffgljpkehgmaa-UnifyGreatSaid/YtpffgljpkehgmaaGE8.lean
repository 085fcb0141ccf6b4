/-
  A part of the proof: equations or tables of the program over the abstract machine, printed by a program of this proof's own.
-/
import Derived.Test.YtpffgljpkehgmaaGCtx
namespace Go.AM
open Go.Proofs
set_option maxRecDepth 100000
set_option linter.unusedVariables false
noncomputable def c_unify_Store_merge : Code := bodyOf Try.f58
noncomputable def N_unify_Store_merge : AAct → Mem → Option (AOut × Mem) := finK X.T Try.f58.results.toList .normal
noncomputable def P_unify_Store_merge : AExit → AAct → Mem → Option (AOut × Mem) := finK X.T Try.f58.results.toList
noncomputable def K_unify_Store_merge_0 : AAct → Mem → Option (AOut × Mem) := execF X F_unify_Store_merge 0 (sR (sR (sR c_unify_Store_merge))) N_unify_Store_merge P_unify_Store_merge
noncomputable def B_unify_Store_merge_0 : AExit → AAct → Mem → Option (AOut × Mem) := blockX 0 K_unify_Store_merge_0 P_unify_Store_merge
noncomputable def K_unify_Store_merge_1 : AAct → Mem → Option (AOut × Mem) := execF X F_unify_Store_merge 0 (sR (sR (sR (sB (sL (sR (sR c_unify_Store_merge))))))) K_unify_Store_merge_0 B_unify_Store_merge_0
noncomputable def K_unify_Store_merge_2 : AAct → Mem → Option (AOut × Mem) := execF X F_unify_Store_merge 0 (sR (sR (sR (sR (sR c_unify_Store_merge))))) N_unify_Store_merge P_unify_Store_merge
noncomputable def B_unify_Store_merge_1 : AExit → AAct → Mem → Option (AOut × Mem) := blockX 1 K_unify_Store_merge_2 P_unify_Store_merge
noncomputable def L_unify_Store_merge_1 : AAct → Mem → Option (AOut × Mem) := fun a m => killF (X.lk F_unify_Store_merge 1) a.tmps fun l => loopK X F_unify_Store_merge 1 (sB (sB (sR (sL (sR (sR (sR (sR c_unify_Store_merge)))))))) B_unify_Store_merge_1 ⟨l, a.defers⟩ m
noncomputable def K_unify_Store_merge_3 : AAct → Mem → Option (AOut × Mem) := execF X F_unify_Store_merge 0 (sR (sL (sR (sR (sR (sB (sL (sR (sR c_unify_Store_merge))))))))) K_unify_Store_merge_0 B_unify_Store_merge_0
noncomputable def K_unify_Store_merge_4 : AAct → Mem → Option (AOut × Mem) := execF X F_unify_Store_merge 1 (sR (sR (sB (sB (sR (sL (sR (sR (sR (sR c_unify_Store_merge)))))))))) L_unify_Store_merge_1 B_unify_Store_merge_1
noncomputable def K_unify_Store_merge_5 : AAct → Mem → Option (AOut × Mem) := execF X F_unify_Store_merge 0 (sR (sR (sL (sR (sR (sR (sB (sL (sR (sR c_unify_Store_merge)))))))))) K_unify_Store_merge_0 B_unify_Store_merge_0
noncomputable def K_unify_Store_merge_6 : AAct → Mem → Option (AOut × Mem) := execF X F_unify_Store_merge 1 (sR (sR (sR (sB (sB (sR (sL (sR (sR (sR (sR c_unify_Store_merge))))))))))) L_unify_Store_merge_1 B_unify_Store_merge_1
noncomputable def k_unify_Store_merge_0 (v0 v1 v2 v3 : AV) (m : Mem) : Option (AOut × Mem) := K_unify_Store_merge_0 ⟨[v0, v1, v2, v3, Q, Q, Q, Q, Q, Q, Q, Q, Q, Q, Q, Q, Q, Q, Q, Q, Q, Q, Q, Q, Q, Q, Q, Q, Q, Q, Q, Q, Q, Q, Q, Q, Q, Q, Q, Q, Q, Q, Q, Q, Q, Q, Q, Q, Q, Q, Q, Q, Q, Q, Q, Q, Q, Q, Q, Q, Q, Q, Q, Q, Q, Q, Q, Q, Q, Q, Q, Q, Q, Q, Q, Q, Q, Q, Q, Q, Q, Q, Q, Q, Q, Q, Q, Q, Q, Q, Q, Q, Q, Q, Q, Q, Q, Q, Q, Q, Q, Q], []⟩ m
noncomputable def k_unify_Store_merge_1 (v0 v1 v2 v3 v21 : AV) (m : Mem) : Option (AOut × Mem) := K_unify_Store_merge_1 ⟨[v0, v1, v2, v3, Q, Q, Q, Q, Q, Q, Q, Q, Q, Q, Q, Q, Q, Q, Q, Q, Q, v21, Q, Q, Q, Q, Q, Q, Q, Q, Q, Q, Q, Q, Q, Q, Q, Q, Q, Q, Q, Q, Q, Q, Q, Q, Q, Q, Q, Q, Q, Q, Q, Q, Q, Q, Q, Q, Q, Q, Q, Q, Q, Q, Q, Q, Q, Q, Q, Q, Q, Q, Q, Q, Q, Q, Q, Q, Q, Q, Q, Q, Q, Q, Q, Q, Q, Q, Q, Q, Q, Q, Q, Q, Q, Q, Q, Q, Q, Q, Q, Q], []⟩ m
noncomputable def k_unify_Store_merge_2 (v0 v2 v3 v78 v79 v80 : AV) (m : Mem) : Option (AOut × Mem) := K_unify_Store_merge_2 ⟨[v0, Q, v2, v3, Q, Q, Q, Q, Q, Q, Q, Q, Q, Q, Q, Q, Q, Q, Q, Q, Q, Q, Q, Q, Q, Q, Q, Q, Q, Q, Q, Q, Q, Q, Q, Q, Q, Q, Q, Q, Q, Q, Q, Q, Q, Q, Q, Q, Q, Q, Q, Q, Q, Q, Q, Q, Q, Q, Q, Q, Q, Q, Q, Q, Q, Q, Q, Q, Q, Q, Q, Q, Q, Q, Q, Q, Q, Q, v78, v79, v80, Q, Q, Q, Q, Q, Q, Q, Q, Q, Q, Q, Q, Q, Q, Q, Q, Q, Q, Q, Q, Q], []⟩ m
noncomputable def l_unify_Store_merge_1 (v0 v2 v3 v78 v79 v80 : AV) (m : Mem) : Option (AOut × Mem) := L_unify_Store_merge_1 ⟨[v0, Q, v2, v3, Q, Q, Q, Q, Q, Q, Q, Q, Q, Q, Q, Q, Q, Q, Q, Q, Q, Q, Q, Q, Q, Q, Q, Q, Q, Q, Q, Q, Q, Q, Q, Q, Q, Q, Q, Q, Q, Q, Q, Q, Q, Q, Q, Q, Q, Q, Q, Q, Q, Q, Q, Q, Q, Q, Q, Q, Q, Q, Q, Q, Q, Q, Q, Q, Q, Q, Q, Q, Q, Q, Q, Q, Q, Q, v78, v79, v80, Q, Q, Q, Q, Q, Q, Q, Q, Q, Q, Q, Q, Q, Q, Q, Q, Q, Q, Q, Q, Q], []⟩ m
noncomputable def k_unify_Store_merge_3 (v0 v1 v2 v3 : AV) (m : Mem) : Option (AOut × Mem) := K_unify_Store_merge_3 ⟨[v0, v1, v2, v3, Q, Q, Q, Q, Q, Q, Q, Q, Q, Q, Q, Q, Q, Q, Q, Q, Q, Q, Q, Q, Q, Q, Q, Q, Q, Q, Q, Q, Q, Q, Q, Q, Q, Q, Q, Q, Q, Q, Q, Q, Q, Q, Q, Q, Q, Q, Q, Q, Q, Q, Q, Q, Q, Q, Q, Q, Q, Q, Q, Q, Q, Q, Q, Q, Q, Q, Q, Q, Q, Q, Q, Q, Q, Q, Q, Q, Q, Q, Q, Q, Q, Q, Q, Q, Q, Q, Q, Q, Q, Q, Q, Q, Q, Q, Q, Q, Q, Q], []⟩ m
noncomputable def k_unify_Store_merge_4 (v0 v2 v3 v78 v79 v80 : AV) (m : Mem) : Option (AOut × Mem) := K_unify_Store_merge_4 ⟨[v0, Q, v2, v3, Q, Q, Q, Q, Q, Q, Q, Q, Q, Q, Q, Q, Q, Q, Q, Q, Q, Q, Q, Q, Q, Q, Q, Q, Q, Q, Q, Q, Q, Q, Q, Q, Q, Q, Q, Q, Q, Q, Q, Q, Q, Q, Q, Q, Q, Q, Q, Q, Q, Q, Q, Q, Q, Q, Q, Q, Q, Q, Q, Q, Q, Q, Q, Q, Q, Q, Q, Q, Q, Q, Q, Q, Q, Q, v78, v79, v80, Q, Q, Q, Q, Q, Q, Q, Q, Q, Q, Q, Q, Q, Q, Q, Q, Q, Q, Q, Q, Q], []⟩ m
noncomputable def k_unify_Store_merge_5 (v0 v1 v2 v3 : AV) (m : Mem) : Option (AOut × Mem) := K_unify_Store_merge_5 ⟨[v0, v1, v2, v3, Q, Q, Q, Q, Q, Q, Q, Q, Q, Q, Q, Q, Q, Q, Q, Q, Q, Q, Q, Q, Q, Q, Q, Q, Q, Q, Q, Q, Q, Q, Q, Q, Q, Q, Q, Q, Q, Q, Q, Q, Q, Q, Q, Q, Q, Q, Q, Q, Q, Q, Q, Q, Q, Q, Q, Q, Q, Q, Q, Q, Q, Q, Q, Q, Q, Q, Q, Q, Q, Q, Q, Q, Q, Q, Q, Q, Q, Q, Q, Q, Q, Q, Q, Q, Q, Q, Q, Q, Q, Q, Q, Q, Q, Q, Q, Q, Q, Q], []⟩ m
noncomputable def k_unify_Store_merge_6 (v0 v2 v3 v78 v79 v80 : AV) (m : Mem) : Option (AOut × Mem) := K_unify_Store_merge_6 ⟨[v0, Q, v2, v3, Q, Q, Q, Q, Q, Q, Q, Q, Q, Q, Q, Q, Q, Q, Q, Q, Q, Q, Q, Q, Q, Q, Q, Q, Q, Q, Q, Q, Q, Q, Q, Q, Q, Q, Q, Q, Q, Q, Q, Q, Q, Q, Q, Q, Q, Q, Q, Q, Q, Q, Q, Q, Q, Q, Q, Q, Q, Q, Q, Q, Q, Q, Q, Q, Q, Q, Q, Q, Q, Q, Q, Q, Q, Q, v78, v79, v80, Q, Q, Q, Q, Q, Q, Q, Q, Q, Q, Q, Q, Q, Q, Q, Q, Q, Q, Q, Q, Q], []⟩ m
theorem e_unify_Store_merge (v0 v1 v2 v3 : AV) (m : Mem) : w_unify_Store_merge v0 v1 v2 v3 m =
  retK (w_unify_Store_find v0 v1 m) (fun v13 m1 =>
  retK (w_unify_Store_find v0 v2 m1) (fun v16 m2 =>
  bnd (aBin X.T .eql T_int false false v13 v16) fun v20 =>
  onBool v20
    (some (.ret (.bool true), m2))
    (nilK v0
    (bnd (rFieldAddr 0 v0) fun v24 =>
    bnd (rLoad false 1 m2 v24) fun v25 =>
    bnd (rIxAddrSl 4 v25 v13) fun v27 =>
    bnd (rFieldAddr 0 v27) fun v28 =>
    bnd (rLoad false 1 m2 v28) fun v29 =>
    bnd (aBin X.T .eql T_int false true v29 (.int .i64 1)) fun v30 =>
    onWant v30
      (k_unify_Store_merge_1 v0 v13 v16 v3 (.bool true) m2)
      (nilK v0
    (bnd (rFieldAddr 0 v0) fun v34 =>
    bnd (rLoad false 1 m2 v34) fun v35 =>
    bnd (rIxAddrSl 4 v35 v16) fun v37 =>
    bnd (rFieldAddr 0 v37) fun v38 =>
    bnd (rLoad false 1 m2 v38) fun v39 =>
    bnd (aBin X.T .eql T_int false true v39 (.int .i64 1)) fun v40 =>
    k_unify_Store_merge_1 v0 v13 v16 v3 v40 m2))
      (none)))) (fun u m2 => some (.pan u, m2))) (fun u m1 => some (.pan u, m1)) := (aW_F (c := c_unify_Store_merge) (fn := Try.f58) (by kernel_rfl) (by kernel_rfl) (by kernel_rfl) _ m).trans (by kernel_rfl)
theorem k_unify_Store_merge_0_eq (v0 v1 v2 v3 : AV) (m : Mem) : k_unify_Store_merge_0 v0 v1 v2 v3 m =
  retK (w_unify_Store_link v0 v1 v2 m) (fun v70 m1 =>
  nilK v0
  (bnd (rFieldAddr 0 v0) fun v73 =>
  bnd (rLoad false 1 m1 v73) fun v74 =>
  bnd (rIxAddrSl 4 v74 v1) fun v76 =>
  bnd (rFieldAddr 2 v76) fun v77 =>
  bnd (rLoad false 1 m1 v77) fun v78 =>
  bnd (rLenSl v78) fun v79 =>
  l_unify_Store_merge_1 v0 v2 v3 v78 v79 (.int .i64 0) m1)) (fun u m1 => some (.pan u, m1)) := by kernel_rfl
theorem k_unify_Store_merge_1_eq (v0 v1 v2 v3 v21 : AV) (m : Mem) : k_unify_Store_merge_1 v0 v1 v2 v3 v21 m =
  onBool v21
    (nilK v0
    (bnd (rFieldAddr 0 v0) fun v44 =>
    bnd (rLoad false 1 m v44) fun v45 =>
    bnd (rIxAddrSl 4 v45 v1) fun v47 =>
    bnd (rFieldAddr 0 v47) fun v48 =>
    bnd (rLoad false 1 m v48) fun v49 =>
    bnd (aBin X.T .neq T_int false true v49 (.int .i64 1)) fun v50 =>
    onBool v50
      (k_unify_Store_merge_3 v0 v2 v1 v3 m)
      (k_unify_Store_merge_3 v0 v1 v2 v3 m)))
    (retK (w_unify_Store_heads v0 v1 v2 m) (fun v65 m1 =>
    bnd (aUn .not v65) fun v66 =>
    onBool v66
      (some (.ret (.bool false), m1))
      (k_unify_Store_merge_0 v0 v1 v2 v3 m1)) (fun u m1 => some (.pan u, m1))) := by kernel_rfl
theorem k_unify_Store_merge_2_eq (v0 v2 v3 v78 v79 v80 : AV) (m : Mem) : k_unify_Store_merge_2 v0 v2 v3 v78 v79 v80 m =
  some (.ret (.bool true), m) := by kernel_rfl
theorem l_unify_Store_merge_1_u (v0 v2 v3 v78 v79 v80 : AV) (m : Mem) : l_unify_Store_merge_1 v0 v2 v3 v78 v79 v80 m = loopK X F_unify_Store_merge 1 (sB (sB (sR (sL (sR (sR (sR (sR c_unify_Store_merge)))))))) B_unify_Store_merge_1 ⟨[v0, Q, v2, v3, Q, Q, Q, Q, Q, Q, Q, Q, Q, Q, Q, Q, Q, Q, Q, Q, Q, Q, Q, Q, Q, Q, Q, Q, Q, Q, Q, Q, Q, Q, Q, Q, Q, Q, Q, Q, Q, Q, Q, Q, Q, Q, Q, Q, Q, Q, Q, Q, Q, Q, Q, Q, Q, Q, Q, Q, Q, Q, Q, Q, Q, Q, Q, Q, Q, Q, Q, Q, Q, Q, Q, Q, Q, Q, v78, v79, v80, Q, Q, Q, Q, Q, Q, Q, Q, Q, Q, Q, Q, Q, Q, Q, Q, Q, Q, Q, Q, Q], []⟩ m := by kernel_rfl
theorem l_unify_Store_merge_1_r (v0 v2 v3 v78 v79 v80 : AV) (m : Mem) : roundF X F_unify_Store_merge 1 (sB (sB (sR (sL (sR (sR (sR (sR c_unify_Store_merge)))))))) B_unify_Store_merge_1 [v0, Q, v2, v3, Q, Q, Q, Q, Q, Q, Q, Q, Q, Q, Q, Q, Q, Q, Q, Q, Q, Q, Q, Q, Q, Q, Q, Q, Q, Q, Q, Q, Q, Q, Q, Q, Q, Q, Q, Q, Q, Q, Q, Q, Q, Q, Q, Q, Q, Q, Q, Q, Q, Q, Q, Q, Q, Q, Q, Q, Q, Q, Q, Q, Q, Q, Q, Q, Q, Q, Q, Q, Q, Q, Q, Q, Q, Q, v78, v79, v80, Q, Q, Q, Q, Q, Q, Q, Q, Q, Q, Q, Q, Q, Q, Q, Q, Q, Q, Q, Q, Q] m =
  bnd (aBin X.T .lss T_int false false v80 v79) fun v81 =>
  onBool v81
    (k_unify_Store_merge_4 v0 v2 v3 v78 v79 v80 m)
    (k_unify_Store_merge_2 v0 v2 v3 v78 v79 v80 m) := by kernel_rfl
theorem l_unify_Store_merge_1_eq (v0 v2 v3 v78 v79 v80 : AV) (m : Mem) : l_unify_Store_merge_1 v0 v2 v3 v78 v79 v80 m =
  bnd (aBin X.T .lss T_int false false v80 v79) fun v81 =>
  onBool v81
    (k_unify_Store_merge_4 v0 v2 v3 v78 v79 v80 m)
    (k_unify_Store_merge_2 v0 v2 v3 v78 v79 v80 m) := roundF_of (l_unify_Store_merge_1_u v0 v2 v3 v78 v79 v80 m) (l_unify_Store_merge_1_r v0 v2 v3 v78 v79 v80 m)
theorem k_unify_Store_merge_3_eq (v0 v1 v2 v3 : AV) (m : Mem) : k_unify_Store_merge_3 v0 v1 v2 v3 m =
  bnd (aUn .not v3) fun v54 =>
  onBool v54
    (retK (w_unify_Store_link v0 v1 v2 m) (fun v58 m1 =>
    k_unify_Store_merge_5 .undef .undef .undef v3 m1) (fun u m1 => some (.pan u, m1)))
    (k_unify_Store_merge_5 v0 v1 v2 v3 m) := by kernel_rfl
theorem k_unify_Store_merge_4_eq (v0 v2 v3 v78 v79 v80 : AV) (m : Mem) : k_unify_Store_merge_4 v0 v2 v3 v78 v79 v80 m =
  bnd (rIxAddrSl 1 v78 v80) fun v83 =>
  bnd (rLoad false 1 m v83) fun v84 =>
  nilK v0
  (bnd (rFieldAddr 0 v0) fun v89 =>
  bnd (rLoad false 1 m v89) fun v90 =>
  bnd (rIxAddrSl 4 v90 v2) fun v92 =>
  bnd (rFieldAddr 2 v92) fun v93 =>
  bnd (rLoad false 1 m v93) fun v94 =>
  bnd (rIxAddrSl 1 v94 v80) fun v96 =>
  bnd (rLoad false 1 m v96) fun v97 =>
  retK (w_unify_Store_merge v0 v84 v97 v3 m) (fun v99 m1 =>
  bnd (aUn .not v99) fun v100 =>
  onBool v100
    (some (.ret (.bool false), m1))
    (k_unify_Store_merge_6 v0 v2 v3 v78 v79 v80 m1)) (fun u m1 => some (.pan u, m1))) := by kernel_rfl
theorem k_unify_Store_merge_5_eq (v0 v1 v2 v3 : AV) (m : Mem) : k_unify_Store_merge_5 v0 v1 v2 v3 m =
  bnd (aUn .not v3) fun v60 =>
  some (.ret v60, m) := by kernel_rfl
theorem k_unify_Store_merge_6_eq (v0 v2 v3 v78 v79 v80 : AV) (m : Mem) : k_unify_Store_merge_6 v0 v2 v3 v78 v79 v80 m =
  bnd (aBin X.T .add T_int false true v80 (.int .i64 1)) fun v101 =>
  l_unify_Store_merge_1 v0 v2 v3 v78 v79 v101 m := by kernel_rfl
noncomputable def c_unify_Store_undo : Code := bodyOf Try.f59
noncomputable def N_unify_Store_undo : AAct → Mem → Option (AOut × Mem) := finK X.T Try.f59.results.toList .normal
noncomputable def P_unify_Store_undo : AExit → AAct → Mem → Option (AOut × Mem) := finK X.T Try.f59.results.toList
noncomputable def B_unify_Store_undo_0 : AExit → AAct → Mem → Option (AOut × Mem) := blockX 0 N_unify_Store_undo P_unify_Store_undo
noncomputable def L_unify_Store_undo_0 : AAct → Mem → Option (AOut × Mem) := fun a m => killF (X.lk F_unify_Store_undo 0) a.tmps fun l => loopK X F_unify_Store_undo 0 (sB (sB (sR c_unify_Store_undo))) B_unify_Store_undo_0 ⟨l, a.defers⟩ m
noncomputable def K_unify_Store_undo_0 : AAct → Mem → Option (AOut × Mem) := execF X F_unify_Store_undo 0 (sR (sR (sB (sB (sR c_unify_Store_undo))))) L_unify_Store_undo_0 B_unify_Store_undo_0
noncomputable def K_unify_Store_undo_1 : AAct → Mem → Option (AOut × Mem) := execF X F_unify_Store_undo 0 (sR (sR (sR (sB (sB (sR c_unify_Store_undo)))))) L_unify_Store_undo_0 B_unify_Store_undo_0
noncomputable def l_unify_Store_undo_0 (v0 v7 v8 v9 : AV) (m : Mem) : Option (AOut × Mem) := L_unify_Store_undo_0 ⟨[v0, Q, Q, Q, Q, Q, Q, v7, v8, v9, Q, Q, Q, Q, Q, Q, Q, Q, Q, Q, Q], []⟩ m
noncomputable def k_unify_Store_undo_0 (v0 v7 v8 v9 : AV) (m : Mem) : Option (AOut × Mem) := K_unify_Store_undo_0 ⟨[v0, Q, Q, Q, Q, Q, Q, v7, v8, v9, Q, Q, Q, Q, Q, Q, Q, Q, Q, Q, Q], []⟩ m
noncomputable def k_unify_Store_undo_1 (v0 v7 v8 v9 : AV) (m : Mem) : Option (AOut × Mem) := K_unify_Store_undo_1 ⟨[v0, Q, Q, Q, Q, Q, Q, v7, v8, v9, Q, Q, Q, Q, Q, Q, Q, Q, Q, Q, Q], []⟩ m
theorem e_unify_Store_undo (v0 : AV) (m : Mem) : w_unify_Store_undo v0 m =
  nilK v0
  (bnd (rFieldAddr 1 v0) fun v6 =>
  bnd (rLoad false 1 m v6) fun v7 =>
  bnd (rLenSl v7) fun v8 =>
  l_unify_Store_undo_0 v0 v7 v8 (.int .i64 0) m) := (aW_F (c := c_unify_Store_undo) (fn := Try.f59) (by kernel_rfl) (by kernel_rfl) (by kernel_rfl) _ m).trans (by kernel_rfl)
theorem l_unify_Store_undo_0_u (v0 v7 v8 v9 : AV) (m : Mem) : l_unify_Store_undo_0 v0 v7 v8 v9 m = loopK X F_unify_Store_undo 0 (sB (sB (sR c_unify_Store_undo))) B_unify_Store_undo_0 ⟨[v0, Q, Q, Q, Q, Q, Q, v7, v8, v9, Q, Q, Q, Q, Q, Q, Q, Q, Q, Q, Q], []⟩ m := by kernel_rfl
theorem l_unify_Store_undo_0_r (v0 v7 v8 v9 : AV) (m : Mem) : roundF X F_unify_Store_undo 0 (sB (sB (sR c_unify_Store_undo))) B_unify_Store_undo_0 [v0, Q, Q, Q, Q, Q, Q, v7, v8, v9, Q, Q, Q, Q, Q, Q, Q, Q, Q, Q, Q] m =
  bnd (aBin X.T .lss T_int false false v9 v8) fun v10 =>
  onBool v10
    (k_unify_Store_undo_0 v0 v7 v8 v9 m)
    (some (.ret (.tup []), m)) := by kernel_rfl
theorem l_unify_Store_undo_0_eq (v0 v7 v8 v9 : AV) (m : Mem) : l_unify_Store_undo_0 v0 v7 v8 v9 m =
  bnd (aBin X.T .lss T_int false false v9 v8) fun v10 =>
  onBool v10
    (k_unify_Store_undo_0 v0 v7 v8 v9 m)
    (some (.ret (.tup []), m)) := roundF_of (l_unify_Store_undo_0_u v0 v7 v8 v9 m) (l_unify_Store_undo_0_r v0 v7 v8 v9 m)
theorem k_unify_Store_undo_0_eq (v0 v7 v8 v9 : AV) (m : Mem) : k_unify_Store_undo_0 v0 v7 v8 v9 m =
  bnd (rIxAddrSl 1 v7 v9) fun v11 =>
  bnd (rLoad false 1 m v11) fun v12 =>
  nilK v0
  (bnd (rFieldAddr 0 v0) fun v15 =>
  bnd (rLoad false 1 m v15) fun v16 =>
  bnd (rIxAddrSl 4 v16 v12) fun v18 =>
  bnd (rFieldAddr 3 v18) fun v19 =>
  bnd (rStore 1 m v19 (.int .i64 (-1))) fun m1 =>
  k_unify_Store_undo_1 v0 v7 v8 v9 m1) := by kernel_rfl
theorem k_unify_Store_undo_1_eq (v0 v7 v8 v9 : AV) (m : Mem) : k_unify_Store_undo_1 v0 v7 v8 v9 m =
  bnd (aBin X.T .add T_int false true v9 (.int .i64 1)) fun v20 =>
  l_unify_Store_undo_0 v0 v7 v8 v20 m := by kernel_rfl
end Go.AM
namespace Go.AM
open Go.Proofs
set_option maxRecDepth 100000
set_option linter.unusedVariables false
noncomputable def c_unify_Store_rounds : Code := bodyOf Try.f61
noncomputable def N_unify_Store_rounds : AAct → Mem → Option (AOut × Mem) := finK X.T Try.f61.results.toList .normal
noncomputable def P_unify_Store_rounds : AExit → AAct → Mem → Option (AOut × Mem) := finK X.T Try.f61.results.toList
noncomputable def K_unify_Store_rounds_0 : AAct → Mem → Option (AOut × Mem) := execF X F_unify_Store_rounds 0 (sR (sR (sR c_unify_Store_rounds))) N_unify_Store_rounds P_unify_Store_rounds
noncomputable def K_unify_Store_rounds_1 : AAct → Mem → Option (AOut × Mem) := execF X F_unify_Store_rounds 0 (sR (sR (sR (sR (sR c_unify_Store_rounds))))) N_unify_Store_rounds P_unify_Store_rounds
noncomputable def B_unify_Store_rounds_0 : AExit → AAct → Mem → Option (AOut × Mem) := blockX 0 K_unify_Store_rounds_1 P_unify_Store_rounds
noncomputable def L_unify_Store_rounds_0 : AAct → Mem → Option (AOut × Mem) := fun a m => killF (X.lk F_unify_Store_rounds 0) a.tmps fun l => loopK X F_unify_Store_rounds 0 (sB (sB (sR (sL (sR (sR (sR (sR c_unify_Store_rounds)))))))) B_unify_Store_rounds_0 ⟨l, a.defers⟩ m
noncomputable def K_unify_Store_rounds_2 : AAct → Mem → Option (AOut × Mem) := execF X F_unify_Store_rounds 0 (sR (sR (sB (sB (sR (sL (sR (sR (sR (sR c_unify_Store_rounds)))))))))) L_unify_Store_rounds_0 B_unify_Store_rounds_0
noncomputable def K_unify_Store_rounds_3 : AAct → Mem → Option (AOut × Mem) := execF X F_unify_Store_rounds 0 (sR (sR (sR (sB (sB (sR (sL (sR (sR (sR (sR c_unify_Store_rounds))))))))))) L_unify_Store_rounds_0 B_unify_Store_rounds_0
noncomputable def k_unify_Store_rounds_0 (v0 v1 v2 v7 : AV) (m : Mem) : Option (AOut × Mem) := K_unify_Store_rounds_0 ⟨[v0, v1, v2, Q, Q, Q, Q, v7, Q, Q, Q, Q, Q, Q, Q, Q, Q, Q, Q, Q, Q, Q, Q, Q, Q, Q, Q, Q, Q, Q, Q, Q, Q, Q, Q, Q, Q, Q, Q, Q, Q, Q, Q, Q, Q], []⟩ m
noncomputable def k_unify_Store_rounds_1 (v0 v1 v2 v32 v33 v34 : AV) (m : Mem) : Option (AOut × Mem) := K_unify_Store_rounds_1 ⟨[v0, v1, v2, Q, Q, Q, Q, Q, Q, Q, Q, Q, Q, Q, Q, Q, Q, Q, Q, Q, Q, Q, Q, Q, Q, Q, Q, Q, Q, Q, Q, Q, v32, v33, v34, Q, Q, Q, Q, Q, Q, Q, Q, Q, Q], []⟩ m
noncomputable def l_unify_Store_rounds_0 (v0 v1 v2 v32 v33 v34 : AV) (m : Mem) : Option (AOut × Mem) := L_unify_Store_rounds_0 ⟨[v0, v1, v2, Q, Q, Q, Q, Q, Q, Q, Q, Q, Q, Q, Q, Q, Q, Q, Q, Q, Q, Q, Q, Q, Q, Q, Q, Q, Q, Q, Q, Q, v32, v33, v34, Q, Q, Q, Q, Q, Q, Q, Q, Q, Q], []⟩ m
noncomputable def k_unify_Store_rounds_2 (v0 v1 v2 v32 v33 v34 : AV) (m : Mem) : Option (AOut × Mem) := K_unify_Store_rounds_2 ⟨[v0, v1, v2, Q, Q, Q, Q, Q, Q, Q, Q, Q, Q, Q, Q, Q, Q, Q, Q, Q, Q, Q, Q, Q, Q, Q, Q, Q, Q, Q, Q, Q, v32, v33, v34, Q, Q, Q, Q, Q, Q, Q, Q, Q, Q], []⟩ m
noncomputable def k_unify_Store_rounds_3 (v0 v1 v2 v32 v33 v34 : AV) (m : Mem) : Option (AOut × Mem) := K_unify_Store_rounds_3 ⟨[v0, v1, v2, Q, Q, Q, Q, Q, Q, Q, Q, Q, Q, Q, Q, Q, Q, Q, Q, Q, Q, Q, Q, Q, Q, Q, Q, Q, Q, Q, Q, Q, v32, v33, v34, Q, Q, Q, Q, Q, Q, Q, Q, Q, Q], []⟩ m
theorem e_unify_Store_rounds (v0 v1 v2 : AV) (m : Mem) : w_unify_Store_rounds v0 v1 v2 m =
  retK (w_unify_Store_find v0 v1 m) (fun v13 m1 =>
  bnd (rLookup A_int A_bool m1 v2 v13 true) fun v17 =>
  bnd (aExtract v17 0) fun v18 =>
  bnd (aExtract v17 1) fun v19 =>
  onBool v19
    (bnd (aUn .not v18) fun v22 =>
    some (.ret v22, m1))
    (k_unify_Store_rounds_0 v0 v13 v2 v18 m1)) (fun u m1 => some (.pan u, m1)) := (aW_F (c := c_unify_Store_rounds) (fn := Try.f61) (by kernel_rfl) (by kernel_rfl) (by kernel_rfl) _ m).trans (by kernel_rfl)
theorem k_unify_Store_rounds_0_eq (v0 v1 v2 v7 : AV) (m : Mem) : k_unify_Store_rounds_0 v0 v1 v2 v7 m =
  bnd (rMapUpdate A_int m v2 v1 (.bool false)) fun m1 =>
  nilK v0
  (bnd (rFieldAddr 0 v0) fun v27 =>
  bnd (rLoad false 1 m1 v27) fun v28 =>
  bnd (rIxAddrSl 4 v28 v1) fun v30 =>
  bnd (rFieldAddr 2 v30) fun v31 =>
  bnd (rLoad false 1 m1 v31) fun v32 =>
  bnd (rLenSl v32) fun v33 =>
  l_unify_Store_rounds_0 v0 v1 v2 v32 v33 (.int .i64 0) m1) := by kernel_rfl
theorem k_unify_Store_rounds_1_eq (v0 v1 v2 v32 v33 v34 : AV) (m : Mem) : k_unify_Store_rounds_1 v0 v1 v2 v32 v33 v34 m =
  bnd (rMapUpdate A_int m v2 v1 (.bool true)) fun m1 =>
  some (.ret (.bool false), m1) := by kernel_rfl
theorem l_unify_Store_rounds_0_u (v0 v1 v2 v32 v33 v34 : AV) (m : Mem) : l_unify_Store_rounds_0 v0 v1 v2 v32 v33 v34 m = loopK X F_unify_Store_rounds 0 (sB (sB (sR (sL (sR (sR (sR (sR c_unify_Store_rounds)))))))) B_unify_Store_rounds_0 ⟨[v0, v1, v2, Q, Q, Q, Q, Q, Q, Q, Q, Q, Q, Q, Q, Q, Q, Q, Q, Q, Q, Q, Q, Q, Q, Q, Q, Q, Q, Q, Q, Q, v32, v33, v34, Q, Q, Q, Q, Q, Q, Q, Q, Q, Q], []⟩ m := by kernel_rfl
theorem l_unify_Store_rounds_0_r (v0 v1 v2 v32 v33 v34 : AV) (m : Mem) : roundF X F_unify_Store_rounds 0 (sB (sB (sR (sL (sR (sR (sR (sR c_unify_Store_rounds)))))))) B_unify_Store_rounds_0 [v0, v1, v2, Q, Q, Q, Q, Q, Q, Q, Q, Q, Q, Q, Q, Q, Q, Q, Q, Q, Q, Q, Q, Q, Q, Q, Q, Q, Q, Q, Q, Q, v32, v33, v34, Q, Q, Q, Q, Q, Q, Q, Q, Q, Q] m =
  bnd (aBin X.T .lss T_int false false v34 v33) fun v35 =>
  onBool v35
    (k_unify_Store_rounds_2 v0 v1 v2 v32 v33 v34 m)
    (k_unify_Store_rounds_1 v0 v1 v2 v32 v33 v34 m) := by kernel_rfl
theorem l_unify_Store_rounds_0_eq (v0 v1 v2 v32 v33 v34 : AV) (m : Mem) : l_unify_Store_rounds_0 v0 v1 v2 v32 v33 v34 m =
  bnd (aBin X.T .lss T_int false false v34 v33) fun v35 =>
  onBool v35
    (k_unify_Store_rounds_2 v0 v1 v2 v32 v33 v34 m)
    (k_unify_Store_rounds_1 v0 v1 v2 v32 v33 v34 m) := roundF_of (l_unify_Store_rounds_0_u v0 v1 v2 v32 v33 v34 m) (l_unify_Store_rounds_0_r v0 v1 v2 v32 v33 v34 m)
theorem k_unify_Store_rounds_2_eq (v0 v1 v2 v32 v33 v34 : AV) (m : Mem) : k_unify_Store_rounds_2 v0 v1 v2 v32 v33 v34 m =
  bnd (rIxAddrSl 1 v32 v34) fun v36 =>
  bnd (rLoad false 1 m v36) fun v37 =>
  retK (w_unify_Store_rounds v0 v37 v2 m) (fun v41 m1 =>
  onBool v41
    (some (.ret (.bool true), m1))
    (k_unify_Store_rounds_3 v0 v1 v2 v32 v33 v34 m1)) (fun u m1 => some (.pan u, m1)) := by kernel_rfl
theorem k_unify_Store_rounds_3_eq (v0 v1 v2 v32 v33 v34 : AV) (m : Mem) : k_unify_Store_rounds_3 v0 v1 v2 v32 v33 v34 m =
  bnd (aBin X.T .add T_int false true v34 (.int .i64 1)) fun v42 =>
  l_unify_Store_rounds_0 v0 v1 v2 v32 v33 v42 m := by kernel_rfl
noncomputable def c_unify_Store_add : Code := bodyOf Try.f62
theorem e_unify_Store_add (v0 v1 v2 v3 : AV) (m : Mem) : w_unify_Store_add v0 v1 v2 v3 m =
  nilK v0
  (bnd (rFieldAddr 0 v0) fun v12 =>
  bnd (rLoad false 1 m v12) fun v13 =>
  retK (w_slices_Clone v3 m) (fun v17 m1 =>
  bnd (rBuild [.int .i64 0, .str (bs []), .nils, .int .i64 0] [(0, 1, v1), (1, 1, v2), (2, 1, v17), (3, 1, (.int .i64 (-1)))]) fun v18 =>
  bnd (rBuildSlice A_unify_node 1 [(0, v18)]) fun v19 =>
  memK (rAppend A_unify_node 1 m1 v13 v19) fun v20 m2 =>
  nilK v0
  (bnd (rFieldAddr 0 v0) fun v22 =>
  bnd (rStore 1 m2 v22 v20) fun m3 =>
  bnd (rLoad false 1 m1 v12) fun u =>
  sameK u v13 <|
  nilK v0
  (bnd (rFieldAddr 0 v0) fun v25 =>
  bnd (rLoad false 1 m3 v25) fun v26 =>
  bnd (rLenSl v26) fun v27 =>
  bnd (aBin X.T .sub T_int false true v27 (.int .i64 1)) fun v28 =>
  some (.ret v28, m3)))) (fun u m1 => none)) := (aW_F (c := c_unify_Store_add) (fn := Try.f62) (by kernel_rfl) (by kernel_rfl) (by kernel_rfl) _ m).trans (by kernel_rfl)
end Go.AM
namespace Go.AM
open Go.Proofs
set_option maxRecDepth 100000
set_option linter.unusedVariables false
noncomputable def c_slices_ContainsFunc : Code := bodyOf Try.f80
theorem e_slices_ContainsFunc (v0 v1 : AV) (m : Mem) : w_slices_ContainsFunc v0 v1 m =
  retK (w_slices_IndexFunc v0 v1 m) (fun v7 m1 =>
  bnd (aBin X.T .geq T_int false true v7 (.int .i64 0)) fun v8 =>
  some (.ret v8, m1)) (fun u m1 => some (.pan u, m1)) := (aW_F (c := c_slices_ContainsFunc) (fn := Try.f80) (by kernel_rfl) (by kernel_rfl) (by kernel_rfl) _ m).trans (by kernel_rfl)
noncomputable def c_unify_Store_there_1 : Code := bodyOf Try.f81
theorem e_unify_Store_there_1 (v0 v1 : AV) (m : Mem) : w_unify_Store_there_1 v0 v1 m =
  bnd (aBin X.T .lss T_int false true v0 (.int .i64 0)) fun v5 =>
  onWant v5
    (some (.ret (.bool true), m))
    (bnd (rLoad false 1 m v1) fun v8 =>
  nilK v8
  (bnd (rFieldAddr 0 v8) fun v10 =>
  bnd (rLoad false 1 m v10) fun v11 =>
  bnd (rLenSl v11) fun v12 =>
  bnd (aBin X.T .geq T_int false false v0 v12) fun v13 =>
  some (.ret v13, m)))
    (none) := (aW_F (c := c_unify_Store_there_1) (fn := Try.f81) (by kernel_rfl) (by kernel_rfl) (by kernel_rfl) _ m).trans (by kernel_rfl)
noncomputable def c_unify_Store_find : Code := bodyOf Try.f82
noncomputable def N_unify_Store_find : AAct → Mem → Option (AOut × Mem) := finK X.T Try.f82.results.toList .normal
noncomputable def P_unify_Store_find : AExit → AAct → Mem → Option (AOut × Mem) := finK X.T Try.f82.results.toList
noncomputable def K_unify_Store_find_0 : AAct → Mem → Option (AOut × Mem) := execF X F_unify_Store_find 0 (sR (sR c_unify_Store_find)) N_unify_Store_find P_unify_Store_find
noncomputable def B_unify_Store_find_0 : AExit → AAct → Mem → Option (AOut × Mem) := blockX 0 K_unify_Store_find_0 P_unify_Store_find
noncomputable def L_unify_Store_find_0 : AAct → Mem → Option (AOut × Mem) := fun a m => killF (X.lk F_unify_Store_find 0) a.tmps fun l => loopK X F_unify_Store_find 0 (sB (sB (sL (sR c_unify_Store_find)))) B_unify_Store_find_0 ⟨l, a.defers⟩ m
noncomputable def K_unify_Store_find_1 : AAct → Mem → Option (AOut × Mem) := execF X F_unify_Store_find 0 (sR (sB (sB (sL (sR c_unify_Store_find))))) L_unify_Store_find_0 B_unify_Store_find_0
noncomputable def k_unify_Store_find_0 (v0 v1 : AV) (m : Mem) : Option (AOut × Mem) := K_unify_Store_find_0 ⟨[v0, v1, Q, Q, Q, Q, Q, Q, Q, Q, Q, Q, Q, Q, Q, Q, Q, Q, Q, Q, Q, Q, Q], []⟩ m
noncomputable def l_unify_Store_find_0 (v0 v1 : AV) (m : Mem) : Option (AOut × Mem) := L_unify_Store_find_0 ⟨[v0, v1, Q, Q, Q, Q, Q, Q, Q, Q, Q, Q, Q, Q, Q, Q, Q, Q, Q, Q, Q, Q, Q], []⟩ m
noncomputable def k_unify_Store_find_1 (v0 v1 : AV) (m : Mem) : Option (AOut × Mem) := K_unify_Store_find_1 ⟨[v0, v1, Q, Q, Q, Q, Q, Q, Q, Q, Q, Q, Q, Q, Q, Q, Q, Q, Q, Q, Q, Q, Q], []⟩ m
theorem e_unify_Store_find (v0 v1 : AV) (m : Mem) : w_unify_Store_find v0 v1 m =
  l_unify_Store_find_0 v0 v1 m := (aW_F (c := c_unify_Store_find) (fn := Try.f82) (by kernel_rfl) (by kernel_rfl) (by kernel_rfl) _ m).trans (by kernel_rfl)
theorem k_unify_Store_find_0_eq (v0 v1 : AV) (m : Mem) : k_unify_Store_find_0 v0 v1 m =
  some (.ret v1, m) := by kernel_rfl
theorem l_unify_Store_find_0_u (v0 v1 : AV) (m : Mem) : l_unify_Store_find_0 v0 v1 m = loopK X F_unify_Store_find 0 (sB (sB (sL (sR c_unify_Store_find)))) B_unify_Store_find_0 ⟨[v0, v1, Q, Q, Q, Q, Q, Q, Q, Q, Q, Q, Q, Q, Q, Q, Q, Q, Q, Q, Q, Q, Q], []⟩ m := by kernel_rfl
theorem l_unify_Store_find_0_r (v0 v1 : AV) (m : Mem) : roundF X F_unify_Store_find 0 (sB (sB (sL (sR c_unify_Store_find)))) B_unify_Store_find_0 [v0, v1, Q, Q, Q, Q, Q, Q, Q, Q, Q, Q, Q, Q, Q, Q, Q, Q, Q, Q, Q, Q, Q] m =
  nilK v0
  (bnd (rFieldAddr 0 v0) fun v7 =>
  bnd (rLoad false 1 m v7) fun v8 =>
  bnd (rIxAddrSl 4 v8 v1) fun v10 =>
  bnd (rFieldAddr 3 v10) fun v11 =>
  bnd (rLoad false 1 m v11) fun v12 =>
  bnd (aBin X.T .neq T_int false true v12 (.int .i64 (-1))) fun v13 =>
  onBool v13
    (k_unify_Store_find_1 v0 v1 m)
    (k_unify_Store_find_0 v0 v1 m)) := by kernel_rfl
theorem l_unify_Store_find_0_eq (v0 v1 : AV) (m : Mem) : l_unify_Store_find_0 v0 v1 m =
  nilK v0
  (bnd (rFieldAddr 0 v0) fun v7 =>
  bnd (rLoad false 1 m v7) fun v8 =>
  bnd (rIxAddrSl 4 v8 v1) fun v10 =>
  bnd (rFieldAddr 3 v10) fun v11 =>
  bnd (rLoad false 1 m v11) fun v12 =>
  bnd (aBin X.T .neq T_int false true v12 (.int .i64 (-1))) fun v13 =>
  onBool v13
    (k_unify_Store_find_1 v0 v1 m)
    (k_unify_Store_find_0 v0 v1 m)) := roundF_of (l_unify_Store_find_0_u v0 v1 m) (l_unify_Store_find_0_r v0 v1 m)
theorem k_unify_Store_find_1_eq (v0 v1 : AV) (m : Mem) : k_unify_Store_find_1 v0 v1 m =
  nilK v0
  (bnd (rFieldAddr 0 v0) fun v16 =>
  bnd (rLoad false 1 m v16) fun v17 =>
  bnd (rIxAddrSl 4 v17 v1) fun v19 =>
  bnd (rFieldAddr 3 v19) fun v20 =>
  bnd (rLoad false 1 m v20) fun v21 =>
  l_unify_Store_find_0 v0 v21 m) := by kernel_rfl
noncomputable def c_unify_Store_link : Code := bodyOf Try.f84
theorem e_unify_Store_link (v0 v1 v2 : AV) (m : Mem) : w_unify_Store_link v0 v1 v2 m =
  nilK v0
  (bnd (rFieldAddr 0 v0) fun v8 =>
  bnd (rLoad false 1 m v8) fun v9 =>
  bnd (rIxAddrSl 4 v9 v1) fun v12 =>
  bnd (rFieldAddr 3 v12) fun v13 =>
  bnd (rStore 1 m v13 v2) fun m1 =>
  nilK v0
  (bnd (rFieldAddr 1 v0) fun v17 =>
  bnd (rLoad false 1 m1 v17) fun v18 =>
  bnd (rBuildSlice A_int 1 [(0, v1)]) fun v20 =>
  memK (rAppend A_int 0 m1 v18 v20) fun v21 m2 =>
  nilK v0
  (bnd (rFieldAddr 1 v0) fun v23 =>
  bnd (rStore 1 m2 v23 v21) fun m3 =>
  some (.ret (.tup []), m3)))) := (aW_F (c := c_unify_Store_link) (fn := Try.f84) (by kernel_rfl) (by kernel_rfl) (by kernel_rfl) _ m).trans (by kernel_rfl)
noncomputable def c_unify_Store_heads : Code := bodyOf Try.f85
theorem e_unify_Store_heads (v0 v1 v2 : AV) (m : Mem) : w_unify_Store_heads v0 v1 v2 m =
  nilK v0
  (bnd (rFieldAddr 0 v0) fun v11 =>
  bnd (rLoad false 1 m v11) fun v12 =>
  bnd (rIxAddrSl 4 v12 v1) fun v14 =>
  bnd (rLoad true 4 m v14) fun v15 =>
  nilK v0
  (bnd (rFieldAddr 0 v0) fun v18 =>
  bnd (rLoad false 1 m v18) fun v19 =>
  bnd (rIxAddrSl 4 v19 v2) fun v21 =>
  bnd (rLoad true 4 m v21) fun v22 =>
  memK (aBox m (.agg [.int .i64 0, .str (bs []), .nils, .int .i64 0])) fun v7 m1 =>
  memK (aBox m1 (.agg [.int .i64 0, .str (bs []), .nils, .int .i64 0])) fun v8 m2 =>
  bnd (rStore 4 m2 v7 v15) fun m3 =>
  bnd (rStore 4 m3 v8 v22) fun m4 =>
  bnd (rLoad false 1 m3 v18) fun u =>
  sameK u v19 <|
  bnd (rLoad true 4 m3 v21) fun u_1 =>
  sameK u_1 v22 <|
  bnd (rFieldAddr 0 v7) fun v23 =>
  bnd (rLoad false 1 m4 v23) fun v24 =>
  bnd (rFieldAddr 0 v8) fun v25 =>
  bnd (rLoad false 1 m4 v25) fun v26 =>
  bnd (aBin X.T .eql T_int false false v24 v26) fun v27 =>
  onWant v27
    (bnd (rFieldAddr 1 v7) fun v29 =>
  bnd (rLoad false 1 m4 v29) fun v30 =>
  bnd (rFieldAddr 1 v8) fun v31 =>
  bnd (rLoad false 1 m4 v31) fun v32 =>
  bnd (aBin X.T .eql T_string false false v30 v32) fun v33 =>
  onWant v33
    (bnd (rFieldAddr 2 v7) fun v36 =>
  bnd (rLoad false 1 m4 v36) fun v37 =>
  bnd (rLenSl v37) fun v38 =>
  bnd (rFieldAddr 2 v8) fun v39 =>
  bnd (rLoad false 1 m4 v39) fun v40 =>
  bnd (rLenSl v40) fun v41 =>
  bnd (aBin X.T .eql T_int false false v38 v41) fun v42 =>
  some (.ret v42, m4))
    (some (.ret (.bool false), m4))
    (none))
    (some (.ret (.bool false), m4))
    (none))) := (aW_F (c := c_unify_Store_heads) (fn := Try.f85) (by kernel_rfl) (by kernel_rfl) (by kernel_rfl) _ m).trans (by kernel_rfl)
noncomputable def c_slices_Clone : Code := bodyOf Try.f86
noncomputable def N_slices_Clone : AAct → Mem → Option (AOut × Mem) := finK X.T Try.f86.results.toList .normal
noncomputable def P_slices_Clone : AExit → AAct → Mem → Option (AOut × Mem) := finK X.T Try.f86.results.toList
noncomputable def K_slices_Clone_0 : AAct → Mem → Option (AOut × Mem) := execF X F_slices_Clone 0 (sR (sR c_slices_Clone)) N_slices_Clone P_slices_Clone
noncomputable def k_slices_Clone_0 (v0 : AV) (m : Mem) : Option (AOut × Mem) := K_slices_Clone_0 ⟨[v0, Q, Q, Q, Q, Q, Q, Q], []⟩ m
theorem e_slices_Clone (v0 : AV) (m : Mem) : w_slices_Clone v0 m =
  bnd (aBin X.T .eql T_Sl_int false true v0 .nils) fun v4 =>
  onBool v4
    (some (.ret .nils, m))
    (k_slices_Clone_0 v0 m) := (aW_F (c := c_slices_Clone) (fn := Try.f86) (by kernel_rfl) (by kernel_rfl) (by kernel_rfl) _ m).trans (by kernel_rfl)
theorem k_slices_Clone_0_eq (v0 : AV) (m : Mem) : k_slices_Clone_0 v0 m =
  bnd (rBuildSlice A_int 0 []) fun v5 =>
  memK (rAppend A_int 0 m v5 v0) fun v7 m1 =>
  some (.ret v7, m1) := by kernel_rfl
noncomputable def c_slices_IndexFunc : Code := bodyOf Try.f96
noncomputable def N_slices_IndexFunc : AAct → Mem → Option (AOut × Mem) := finK X.T Try.f96.results.toList .normal
noncomputable def P_slices_IndexFunc : AExit → AAct → Mem → Option (AOut × Mem) := finK X.T Try.f96.results.toList
noncomputable def K_slices_IndexFunc_0 : AAct → Mem → Option (AOut × Mem) := execF X F_slices_IndexFunc 0 (sR (sR c_slices_IndexFunc)) N_slices_IndexFunc P_slices_IndexFunc
noncomputable def B_slices_IndexFunc_0 : AExit → AAct → Mem → Option (AOut × Mem) := blockX 0 K_slices_IndexFunc_0 P_slices_IndexFunc
noncomputable def L_slices_IndexFunc_0 : AAct → Mem → Option (AOut × Mem) := fun a m => killF (X.lk F_slices_IndexFunc 0) a.tmps fun l => loopK X F_slices_IndexFunc 0 (sB (sB (sR (sL (sR c_slices_IndexFunc))))) B_slices_IndexFunc_0 ⟨l, a.defers⟩ m
noncomputable def K_slices_IndexFunc_1 : AAct → Mem → Option (AOut × Mem) := execF X F_slices_IndexFunc 0 (sR (sR (sB (sB (sR (sL (sR c_slices_IndexFunc))))))) L_slices_IndexFunc_0 B_slices_IndexFunc_0
noncomputable def K_slices_IndexFunc_2 : AAct → Mem → Option (AOut × Mem) := execF X F_slices_IndexFunc 0 (sR (sR (sR (sB (sB (sR (sL (sR c_slices_IndexFunc)))))))) L_slices_IndexFunc_0 B_slices_IndexFunc_0
noncomputable def k_slices_IndexFunc_0 (v0 v1 v7 v8 : AV) (m : Mem) : Option (AOut × Mem) := K_slices_IndexFunc_0 ⟨[v0, v1, Q, Q, Q, Q, Q, v7, v8, Q, Q, Q, Q, Q, Q, Q, Q, Q, Q], []⟩ m
noncomputable def l_slices_IndexFunc_0 (v0 v1 v7 v8 : AV) (m : Mem) : Option (AOut × Mem) := L_slices_IndexFunc_0 ⟨[v0, v1, Q, Q, Q, Q, Q, v7, v8, Q, Q, Q, Q, Q, Q, Q, Q, Q, Q], []⟩ m
noncomputable def k_slices_IndexFunc_1 (v0 v1 v7 v8 : AV) (m : Mem) : Option (AOut × Mem) := K_slices_IndexFunc_1 ⟨[v0, v1, Q, Q, Q, Q, Q, v7, v8, Q, Q, Q, Q, Q, Q, Q, Q, Q, Q], []⟩ m
noncomputable def k_slices_IndexFunc_2 (v0 v1 v5 v7 v8 : AV) (m : Mem) : Option (AOut × Mem) := K_slices_IndexFunc_2 ⟨[v0, v1, Q, Q, Q, v5, Q, v7, v8, Q, Q, Q, Q, Q, Q, Q, Q, Q, Q], []⟩ m
theorem e_slices_IndexFunc (v0 v1 : AV) (m : Mem) : w_slices_IndexFunc v0 v1 m =
  bnd (rLenSl v0) fun v7 =>
  l_slices_IndexFunc_0 v0 v1 v7 (.int .i64 0) m := (aW_F (c := c_slices_IndexFunc) (fn := Try.f96) (by kernel_rfl) (by kernel_rfl) (by kernel_rfl) _ m).trans (by kernel_rfl)
theorem k_slices_IndexFunc_0_eq (v0 v1 v7 v8 : AV) (m : Mem) : k_slices_IndexFunc_0 v0 v1 v7 v8 m =
  some (.ret (.int .i64 (-1)), m) := by kernel_rfl
theorem l_slices_IndexFunc_0_u (v0 v1 v7 v8 : AV) (m : Mem) : l_slices_IndexFunc_0 v0 v1 v7 v8 m = loopK X F_slices_IndexFunc 0 (sB (sB (sR (sL (sR c_slices_IndexFunc))))) B_slices_IndexFunc_0 ⟨[v0, v1, Q, Q, Q, Q, Q, v7, v8, Q, Q, Q, Q, Q, Q, Q, Q, Q, Q], []⟩ m := by kernel_rfl
theorem l_slices_IndexFunc_0_r (v0 v1 v7 v8 : AV) (m : Mem) : roundF X F_slices_IndexFunc 0 (sB (sB (sR (sL (sR c_slices_IndexFunc))))) B_slices_IndexFunc_0 [v0, v1, Q, Q, Q, Q, Q, v7, v8, Q, Q, Q, Q, Q, Q, Q, Q, Q, Q] m =
  bnd (aBin X.T .lss T_int false false v8 v7) fun v9 =>
  onBool v9
    (k_slices_IndexFunc_1 v0 v1 v7 v8 m)
    (k_slices_IndexFunc_0 v0 v1 v7 v8 m) := by kernel_rfl
theorem l_slices_IndexFunc_0_eq (v0 v1 v7 v8 : AV) (m : Mem) : l_slices_IndexFunc_0 v0 v1 v7 v8 m =
  bnd (aBin X.T .lss T_int false false v8 v7) fun v9 =>
  onBool v9
    (k_slices_IndexFunc_1 v0 v1 v7 v8 m)
    (k_slices_IndexFunc_0 v0 v1 v7 v8 m) := roundF_of (l_slices_IndexFunc_0_u v0 v1 v7 v8 m) (l_slices_IndexFunc_0_r v0 v1 v7 v8 m)
theorem k_slices_IndexFunc_1_eq (v0 v1 v7 v8 : AV) (m : Mem) : k_slices_IndexFunc_1 v0 v1 v7 v8 m =
  bnd (rIxAddrSl 1 v0 v8) fun v14 =>
  bnd (rLoad false 1 m v14) fun v15 =>
  fnK v1 fun q xs ys => retK (aW X q (xs ++ [v15] ++ ys) m) (fun v16 m1 =>
  onBool v16
    (some (.ret v8, m1))
    (k_slices_IndexFunc_2 v0 v1 v8 v7 v8 m1)) (fun u m1 => some (.pan u, m1)) := by kernel_rfl
theorem k_slices_IndexFunc_2_eq (v0 v1 v5 v7 v8 : AV) (m : Mem) : k_slices_IndexFunc_2 v0 v1 v5 v7 v8 m =
  bnd (aBin X.T .add T_int false true v8 (.int .i64 1)) fun v18 =>
  l_slices_IndexFunc_0 v0 v1 v7 v18 m := by kernel_rfl
end Go.AM
