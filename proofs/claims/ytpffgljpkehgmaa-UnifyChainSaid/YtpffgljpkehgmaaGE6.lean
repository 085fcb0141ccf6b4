/-
  A part of the proof: equations or tables of the program over the abstract machine, printed by a program of this proof's own.
-/
import Derived.Test.YtpffgljpkehgmaaGCtx
set_option linter.unusedVariables false
set_option linter.unusedSimpArgs false
namespace Go.AM
open Go.Proofs
set_option maxRecDepth 100000
set_option linter.unusedVariables false
noncomputable def c_f40 : Code := bodyOf Try.f40
theorem e_f40 (v0 v1 : AV) (m : Mem) : w_f40 v0 v1 m =
  retK (w_f70 v0 v1 m) (fun v7 m1 =>
  some (.ret v7, m1)) (fun u m1 => some (.pan u, m1)) := (aW_F (c := c_f40) (fn := Try.f40) (by kernel_rfl) (by kernel_rfl) (by kernel_rfl) _ m).trans (by kernel_rfl)
noncomputable def c_f41 : Code := bodyOf Try.f41
noncomputable def N_f41 : AAct → Mem → Option (AOut × Mem) := finK X.T Try.f41.results.toList .normal
noncomputable def P_f41 : AExit → AAct → Mem → Option (AOut × Mem) := finK X.T Try.f41.results.toList
noncomputable def K_f41_0 : AAct → Mem → Option (AOut × Mem) := execF X F_f41 0 (sR (sR (sR c_f41))) N_f41 P_f41
noncomputable def B_f41_0 : AExit → AAct → Mem → Option (AOut × Mem) := blockX 0 K_f41_0 P_f41
noncomputable def K_f41_1 : AAct → Mem → Option (AOut × Mem) := execF X F_f41 0 (sR (sB (sL (sR (sR c_f41))))) K_f41_0 B_f41_0
noncomputable def K_f41_2 : AAct → Mem → Option (AOut × Mem) := execF X F_f41 0 (sR (sR (sR (sR c_f41)))) N_f41 P_f41
noncomputable def B_f41_1 : AExit → AAct → Mem → Option (AOut × Mem) := blockX 1 K_f41_2 P_f41
noncomputable def L_f41_1 : AAct → Mem → Option (AOut × Mem) := fun a m => killF (X.lk F_f41 1) a.tmps fun l => loopK X F_f41 1 (sB (sB (sR (sL (sR (sR (sR c_f41))))))) B_f41_1 ⟨l, a.defers⟩ m
noncomputable def K_f41_3 : AAct → Mem → Option (AOut × Mem) := execF X F_f41 0 (sR (sR (sR (sR (sR (sB (sL (sR (sR c_f41))))))))) K_f41_0 B_f41_0
noncomputable def K_f41_4 : AAct → Mem → Option (AOut × Mem) := execF X F_f41 1 (sR (sR (sB (sB (sR (sL (sR (sR (sR c_f41))))))))) L_f41_1 B_f41_1
noncomputable def K_f41_5 : AAct → Mem → Option (AOut × Mem) := execF X F_f41 1 (sR (sR (sR (sB (sB (sR (sL (sR (sR (sR c_f41)))))))))) L_f41_1 B_f41_1
noncomputable def k_f41_0 (v0 : AV) (m : Mem) : Option (AOut × Mem) := K_f41_0 ⟨[v0, Q, Q, Q, Q, Q, Q, Q, Q, Q, Q, Q, Q, Q, Q, Q, Q, Q, Q, Q, Q, Q, Q, Q, Q, Q, Q, Q, Q, Q, Q, Q, Q, Q, Q, Q, Q, Q, Q, Q, Q, Q, Q, Q, Q, Q, Q, Q, Q, Q, Q, Q, Q, Q, Q, Q, Q, Q, Q, Q], []⟩ m
noncomputable def k_f41_1 (v0 v4 v10 : AV) (m : Mem) : Option (AOut × Mem) := K_f41_1 ⟨[v0, Q, Q, Q, v4, Q, Q, Q, Q, Q, v10, Q, Q, Q, Q, Q, Q, Q, Q, Q, Q, Q, Q, Q, Q, Q, Q, Q, Q, Q, Q, Q, Q, Q, Q, Q, Q, Q, Q, Q, Q, Q, Q, Q, Q, Q, Q, Q, Q, Q, Q, Q, Q, Q, Q, Q, Q, Q, Q, Q], []⟩ m
noncomputable def k_f41_2 (v0 v48 v49 v50 : AV) (m : Mem) : Option (AOut × Mem) := K_f41_2 ⟨[v0, Q, Q, Q, Q, Q, Q, Q, Q, Q, Q, Q, Q, Q, Q, Q, Q, Q, Q, Q, Q, Q, Q, Q, Q, Q, Q, Q, Q, Q, Q, Q, Q, Q, Q, Q, Q, Q, Q, Q, Q, Q, Q, Q, Q, Q, Q, Q, v48, v49, v50, Q, Q, Q, Q, Q, Q, Q, Q, Q], []⟩ m
noncomputable def l_f41_1 (v0 v48 v49 v50 : AV) (m : Mem) : Option (AOut × Mem) := L_f41_1 ⟨[v0, Q, Q, Q, Q, Q, Q, Q, Q, Q, Q, Q, Q, Q, Q, Q, Q, Q, Q, Q, Q, Q, Q, Q, Q, Q, Q, Q, Q, Q, Q, Q, Q, Q, Q, Q, Q, Q, Q, Q, Q, Q, Q, Q, Q, Q, Q, Q, v48, v49, v50, Q, Q, Q, Q, Q, Q, Q, Q, Q], []⟩ m
noncomputable def k_f41_3 (v0 v33 : AV) (m : Mem) : Option (AOut × Mem) := K_f41_3 ⟨[v0, Q, Q, Q, Q, Q, Q, Q, Q, Q, Q, Q, Q, Q, Q, Q, Q, Q, Q, Q, Q, Q, Q, Q, Q, Q, Q, Q, Q, Q, Q, Q, Q, v33, Q, Q, Q, Q, Q, Q, Q, Q, Q, Q, Q, Q, Q, Q, Q, Q, Q, Q, Q, Q, Q, Q, Q, Q, Q, Q], []⟩ m
noncomputable def k_f41_4 (v0 v48 v49 v50 : AV) (m : Mem) : Option (AOut × Mem) := K_f41_4 ⟨[v0, Q, Q, Q, Q, Q, Q, Q, Q, Q, Q, Q, Q, Q, Q, Q, Q, Q, Q, Q, Q, Q, Q, Q, Q, Q, Q, Q, Q, Q, Q, Q, Q, Q, Q, Q, Q, Q, Q, Q, Q, Q, Q, Q, Q, Q, Q, Q, v48, v49, v50, Q, Q, Q, Q, Q, Q, Q, Q, Q], []⟩ m
noncomputable def k_f41_5 (v0 v7 v48 v49 v50 : AV) (m : Mem) : Option (AOut × Mem) := K_f41_5 ⟨[v0, Q, Q, Q, Q, Q, Q, v7, Q, Q, Q, Q, Q, Q, Q, Q, Q, Q, Q, Q, Q, Q, Q, Q, Q, Q, Q, Q, Q, Q, Q, Q, Q, Q, Q, Q, Q, Q, Q, Q, Q, Q, Q, Q, Q, Q, Q, Q, v48, v49, v50, Q, Q, Q, Q, Q, Q, Q, Q, Q], []⟩ m
theorem e_f41 (v0 : AV) (m : Mem) : w_f41 v0 m =
  bnd (rIxStr v0 (.int .i64 0)) fun v9 =>
  bnd (aBin X.T .eql T_uint8 false true v9 (.int .u8 95)) fun v12 =>
  onWant v12
    (k_f41_1 v0 v9 (.bool true) m)
    (retK (w_f71 (.str (bs [97, 98, 99, 100, 101, 102, 103, 104, 105, 106, 107, 108, 109, 110, 111, 112, 113, 114, 115, 116, 117, 118, 119, 120, 121, 122])) v9 m) (fun v15 m1 =>
  onWant v15
    (k_f41_1 v0 v9 (.bool true) m1)
    (retK (w_f71 (.str (bs [65, 66, 67, 68, 69, 70, 71, 72, 73, 74, 75, 76, 77, 78, 79, 80, 81, 82, 83, 84, 85, 86, 87, 88, 89, 90])) v9 m1) (fun v19 m2 =>
  k_f41_1 v0 v9 v19 m2) (fun u m2 => some (.pan u, m2)))
    (none)) (fun u m1 => some (.pan u, m1)))
    (none) := (aW_F (c := c_f41) (fn := Try.f41) (by kernel_rfl) (by kernel_rfl) (by kernel_rfl) _ m).trans (by kernel_rfl)
theorem k_f41_0_eq (v0 : AV) (m : Mem) : k_f41_0 v0 m =
  retK (w_f73 m) (fun v48 m1 =>
  bnd (rLenSl v48) fun v49 =>
  l_f41_1 v0 v48 v49 (.int .i64 0) m1) (fun u m1 => some (.pan u, m1)) := by kernel_rfl
theorem k_f41_1_eq (v0 v4 v10 : AV) (m : Mem) : k_f41_1 v0 v4 v10 m =
  onBool v10
    (retK (w_f67 v0 (.int .i64 1) (.str (bs ([97, 98, 99, 100, 101, 102, 103, 104, 105, 106, 107, 108, 109, 110, 111, 112, 113, 114, 115, 116, 117, 118, 119, 120, 121, 122, 65, 66, 67, 68] ++ [69, 70, 71, 72, 73, 74, 75, 76, 77, 78, 79, 80, 81, 82, 83, 84, 85, 86, 87, 88, 89, 90, 48, 49, 50, 51, 52, 53, 54, 55] ++ [56, 57, 95, 39]))) m) (fun v22 m1 =>
    bnd (rSliceStr v0 none (some v22)) fun v25 =>
    retK (w_f72 v25 m1) (fun v26 m2 =>
    some (.ret (.tup [v26, v22]), m2)) (fun u m2 => some (.pan u, m2))) (fun u m1 => some (.pan u, m1)))
    (retK (w_f71 (.str (bs [48, 49, 50, 51, 52, 53, 54, 55, 56, 57])) v4 m) (fun v30 m1 =>
    onBool v30
      (retK (w_f67 v0 (.int .i64 1) (.str (bs [48, 49, 50, 51, 52, 53, 54, 55, 56, 57])) m1) (fun v32 m2 =>
      some (.ret (.tup [(.int .i64 3), v32]), m2)) (fun u m2 => some (.pan u, m2)))
      (bnd (aBin X.T .eql T_uint8 false true v4 (.int .u8 39)) fun v35 =>
      onWant v35
        (bnd (rLenStr v0) fun v38 =>
      bnd (aBin X.T .gtr T_int false true v38 (.int .i64 1)) fun v39 =>
      onWant v39
        (bnd (rIxStr v0 (.int .i64 1)) fun v43 =>
      retK (w_f71 (.str (bs [97, 98, 99, 100, 101, 102, 103, 104, 105, 106, 107, 108, 109, 110, 111, 112, 113, 114, 115, 116, 117, 118, 119, 120, 121, 122])) v43 m1) (fun v44 m2 =>
      k_f41_3 v0 v44 m2) (fun u m2 => some (.pan u, m2)))
        (k_f41_3 v0 (.bool false) m1)
        (none))
        (k_f41_3 v0 (.bool false) m1)
        (none))) (fun u m1 => some (.pan u, m1))) := by kernel_rfl
theorem k_f41_2_eq (v0 v48 v49 v50 : AV) (m : Mem) : k_f41_2 v0 v48 v49 v50 m =
  some (.ret (.tup [(.int .i64 0), (.int .i64 0)]), m) := by kernel_rfl
theorem l_f41_1_u (v0 v48 v49 v50 : AV) (m : Mem) : l_f41_1 v0 v48 v49 v50 m = loopK X F_f41 1 (sB (sB (sR (sL (sR (sR (sR c_f41))))))) B_f41_1 ⟨[v0, Q, Q, Q, Q, Q, Q, Q, Q, Q, Q, Q, Q, Q, Q, Q, Q, Q, Q, Q, Q, Q, Q, Q, Q, Q, Q, Q, Q, Q, Q, Q, Q, Q, Q, Q, Q, Q, Q, Q, Q, Q, Q, Q, Q, Q, Q, Q, v48, v49, v50, Q, Q, Q, Q, Q, Q, Q, Q, Q], []⟩ m := by kernel_rfl
theorem l_f41_1_r (v0 v48 v49 v50 : AV) (m : Mem) : roundF X F_f41 1 (sB (sB (sR (sL (sR (sR (sR c_f41))))))) B_f41_1 [v0, Q, Q, Q, Q, Q, Q, Q, Q, Q, Q, Q, Q, Q, Q, Q, Q, Q, Q, Q, Q, Q, Q, Q, Q, Q, Q, Q, Q, Q, Q, Q, Q, Q, Q, Q, Q, Q, Q, Q, Q, Q, Q, Q, Q, Q, Q, Q, v48, v49, v50, Q, Q, Q, Q, Q, Q, Q, Q, Q] m =
  bnd (aBin X.T .lss T_int false false v50 v49) fun v51 =>
  onBool v51
    (k_f41_4 v0 v48 v49 v50 m)
    (k_f41_2 v0 v48 v49 v50 m) := by kernel_rfl
theorem l_f41_1_eq (v0 v48 v49 v50 : AV) (m : Mem) : l_f41_1 v0 v48 v49 v50 m =
  bnd (aBin X.T .lss T_int false false v50 v49) fun v51 =>
  onBool v51
    (k_f41_4 v0 v48 v49 v50 m)
    (k_f41_2 v0 v48 v49 v50 m) := roundF_of (l_f41_1_u v0 v48 v49 v50 m) (l_f41_1_r v0 v48 v49 v50 m)
theorem k_f41_3_eq (v0 v33 : AV) (m : Mem) : k_f41_3 v0 v33 m =
  onBool v33
    (retK (w_f67 v0 (.int .i64 1) (.str (bs ([97, 98, 99, 100, 101, 102, 103, 104, 105, 106, 107, 108, 109, 110, 111, 112, 113, 114, 115, 116, 117, 118, 119, 120, 121, 122, 65, 66, 67, 68] ++ [69, 70, 71, 72, 73, 74, 75, 76, 77, 78, 79, 80, 81, 82, 83, 84, 85, 86, 87, 88, 89, 90, 48, 49, 50, 51, 52, 53, 54, 55] ++ [56, 57, 95]))) m) (fun v47 m1 =>
    some (.ret (.tup [(.int .i64 4), v47]), m1)) (fun u m1 => some (.pan u, m1)))
    (k_f41_0 v0 m) := by kernel_rfl
theorem k_f41_4_eq (v0 v48 v49 v50 : AV) (m : Mem) : k_f41_4 v0 v48 v49 v50 m =
  bnd (rIxAddrSl 1 v48 v50) fun v52 =>
  bnd (rLoad false 1 m v52) fun v53 =>
  retK (w_f40 v0 v53 m) (fun v56 m1 =>
  onBool v56
    (bnd (rLenStr v53) fun v58 =>
    some (.ret (.tup [(.int .i64 6), v58]), m1))
    (k_f41_5 v0 v53 v48 v49 v50 m1)) (fun u m1 => some (.pan u, m1)) := by kernel_rfl
theorem k_f41_5_eq (v0 v7 v48 v49 v50 : AV) (m : Mem) : k_f41_5 v0 v7 v48 v49 v50 m =
  bnd (aBin X.T .add T_int false true v50 (.int .i64 1)) fun v59 =>
  l_f41_1 v0 v48 v49 v59 m := by kernel_rfl
noncomputable def c_f42 : Code := bodyOf Try.f42
noncomputable def N_f42 : AAct → Mem → Option (AOut × Mem) := finK X.T Try.f42.results.toList .normal
noncomputable def P_f42 : AExit → AAct → Mem → Option (AOut × Mem) := finK X.T Try.f42.results.toList
noncomputable def K_f42_0 : AAct → Mem → Option (AOut × Mem) := execF X F_f42 0 (sR (sR (sR (sR c_f42)))) N_f42 P_f42
noncomputable def B_f42_0 : AExit → AAct → Mem → Option (AOut × Mem) := blockX 0 K_f42_0 P_f42
noncomputable def L_f42_0 : AAct → Mem → Option (AOut × Mem) := fun a m => killF (X.lk F_f42 0) a.tmps fun l => loopK X F_f42 0 (sB (sB (sL (sR (sR (sR c_f42)))))) B_f42_0 ⟨l, a.defers⟩ m
noncomputable def K_f42_1 : AAct → Mem → Option (AOut × Mem) := execF X F_f42 0 (sR (sB (sB (sL (sR (sR (sR c_f42))))))) L_f42_0 B_f42_0
noncomputable def B_f42_1 : AExit → AAct → Mem → Option (AOut × Mem) := blockX 1 L_f42_0 B_f42_0
noncomputable def K_f42_2 : AAct → Mem → Option (AOut × Mem) := execF X F_f42 1 (sR (sB (sR (sB (sB (sL (sR (sR (sR c_f42))))))))) L_f42_0 B_f42_1
noncomputable def K_f42_3 : AAct → Mem → Option (AOut × Mem) := execF X F_f42 1 (sR (sR (sB (sR (sB (sB (sL (sR (sR (sR c_f42)))))))))) L_f42_0 B_f42_1
noncomputable def K_f42_4 : AAct → Mem → Option (AOut × Mem) := execF X F_f42 1 (sR (sR (sL (sR (sL (sR (sB (sR (sB (sB (sL (sR (sR (sR c_f42)))))))))))))) K_f42_3 B_f42_1
noncomputable def K_f42_5 : AAct → Mem → Option (AOut × Mem) := execF X F_f42 1 (sR (sR (sR (sR (sB (sR (sB (sB (sL (sR (sR (sR c_f42)))))))))))) L_f42_0 B_f42_1
noncomputable def B_f42_2 : AExit → AAct → Mem → Option (AOut × Mem) := blockX 2 K_f42_5 B_f42_1
noncomputable def L_f42_2 : AAct → Mem → Option (AOut × Mem) := fun a m => killF (X.lk F_f42 2) a.tmps fun l => loopK X F_f42 2 (sB (sB (sR (sR (sL (sR (sL (sR (sR (sR (sB (sR (sB (sB (sL (sR (sR (sR c_f42)))))))))))))))))) B_f42_2 ⟨l, a.defers⟩ m
noncomputable def K_f42_6 : AAct → Mem → Option (AOut × Mem) := execF X F_f42 2 (sR (sB (sB (sR (sR (sL (sR (sL (sR (sR (sR (sB (sR (sB (sB (sL (sR (sR (sR c_f42))))))))))))))))))) L_f42_2 B_f42_2
noncomputable def K_f42_7 : AAct → Mem → Option (AOut × Mem) := execF X F_f42 2 (sR (sL (sB (sB (sR (sR (sL (sR (sL (sR (sR (sR (sB (sR (sB (sB (sL (sR (sR (sR c_f42)))))))))))))))))))) K_f42_6 B_f42_2
noncomputable def B_f42_3 : AExit → AAct → Mem → Option (AOut × Mem) := blockX 3 L_f42_2 B_f42_2
noncomputable def K_f42_8 : AAct → Mem → Option (AOut × Mem) := execF X F_f42 3 (sR (sR (sB (sR (sB (sB (sR (sR (sL (sR (sL (sR (sR (sR (sB (sR (sB (sB (sL (sR (sR (sR c_f42)))))))))))))))))))))) L_f42_2 B_f42_3
noncomputable def k_f42_0 (v0 v3 v4 : AV) (m : Mem) : Option (AOut × Mem) := K_f42_0 ⟨[v0, Q, Q, v3, v4, Q, Q, Q, Q, Q, Q, Q, Q, Q, Q, Q, Q, Q, Q, Q, Q, Q, Q, Q, Q, Q, Q, Q, Q, Q, Q, Q, Q, Q, Q, Q, Q, Q, Q, Q, Q, Q, Q, Q, Q, Q, Q, Q, Q, Q, Q, Q, Q, Q, Q, Q, Q, Q, Q, Q, Q, Q, Q, Q, Q, Q, Q, Q, Q, Q, Q, Q, Q, Q, Q, Q, Q], []⟩ m
noncomputable def l_f42_0 (v0 v3 v4 : AV) (m : Mem) : Option (AOut × Mem) := L_f42_0 ⟨[v0, Q, Q, v3, v4, Q, Q, Q, Q, Q, Q, Q, Q, Q, Q, Q, Q, Q, Q, Q, Q, Q, Q, Q, Q, Q, Q, Q, Q, Q, Q, Q, Q, Q, Q, Q, Q, Q, Q, Q, Q, Q, Q, Q, Q, Q, Q, Q, Q, Q, Q, Q, Q, Q, Q, Q, Q, Q, Q, Q, Q, Q, Q, Q, Q, Q, Q, Q, Q, Q, Q, Q, Q, Q, Q, Q, Q], []⟩ m
noncomputable def k_f42_1 (v0 v3 v4 : AV) (m : Mem) : Option (AOut × Mem) := K_f42_1 ⟨[v0, Q, Q, v3, v4, Q, Q, Q, Q, Q, Q, Q, Q, Q, Q, Q, Q, Q, Q, Q, Q, Q, Q, Q, Q, Q, Q, Q, Q, Q, Q, Q, Q, Q, Q, Q, Q, Q, Q, Q, Q, Q, Q, Q, Q, Q, Q, Q, Q, Q, Q, Q, Q, Q, Q, Q, Q, Q, Q, Q, Q, Q, Q, Q, Q, Q, Q, Q, Q, Q, Q, Q, Q, Q, Q, Q, Q], []⟩ m
noncomputable def k_f42_2 (v0 v3 v4 : AV) (m : Mem) : Option (AOut × Mem) := K_f42_2 ⟨[v0, Q, Q, v3, v4, Q, Q, Q, Q, Q, Q, Q, Q, Q, Q, Q, Q, Q, Q, Q, Q, Q, Q, Q, Q, Q, Q, Q, Q, Q, Q, Q, Q, Q, Q, Q, Q, Q, Q, Q, Q, Q, Q, Q, Q, Q, Q, Q, Q, Q, Q, Q, Q, Q, Q, Q, Q, Q, Q, Q, Q, Q, Q, Q, Q, Q, Q, Q, Q, Q, Q, Q, Q, Q, Q, Q, Q], []⟩ m
noncomputable def k_f42_3 (v0 v3 v4 : AV) (m : Mem) : Option (AOut × Mem) := K_f42_3 ⟨[v0, Q, Q, v3, v4, Q, Q, Q, Q, Q, Q, Q, Q, Q, Q, Q, Q, Q, Q, Q, Q, Q, Q, Q, Q, Q, Q, Q, Q, Q, Q, Q, Q, Q, Q, Q, Q, Q, Q, Q, Q, Q, Q, Q, Q, Q, Q, Q, Q, Q, Q, Q, Q, Q, Q, Q, Q, Q, Q, Q, Q, Q, Q, Q, Q, Q, Q, Q, Q, Q, Q, Q, Q, Q, Q, Q, Q], []⟩ m
noncomputable def k_f42_4 (v0 v3 v4 v5 : AV) (m : Mem) : Option (AOut × Mem) := K_f42_4 ⟨[v0, Q, Q, v3, v4, v5, Q, Q, Q, Q, Q, Q, Q, Q, Q, Q, Q, Q, Q, Q, Q, Q, Q, Q, Q, Q, Q, Q, Q, Q, Q, Q, Q, Q, Q, Q, Q, Q, Q, Q, Q, Q, Q, Q, Q, Q, Q, Q, Q, Q, Q, Q, Q, Q, Q, Q, Q, Q, Q, Q, Q, Q, Q, Q, Q, Q, Q, Q, Q, Q, Q, Q, Q, Q, Q, Q, Q], []⟩ m
noncomputable def k_f42_5 (v0 v3 v4 v6 v7 : AV) (m : Mem) : Option (AOut × Mem) := K_f42_5 ⟨[v0, Q, Q, v3, v4, Q, v6, v7, Q, Q, Q, Q, Q, Q, Q, Q, Q, Q, Q, Q, Q, Q, Q, Q, Q, Q, Q, Q, Q, Q, Q, Q, Q, Q, Q, Q, Q, Q, Q, Q, Q, Q, Q, Q, Q, Q, Q, Q, Q, Q, Q, Q, Q, Q, Q, Q, Q, Q, Q, Q, Q, Q, Q, Q, Q, Q, Q, Q, Q, Q, Q, Q, Q, Q, Q, Q, Q], []⟩ m
noncomputable def l_f42_2 (v0 v3 v4 v6 v7 : AV) (m : Mem) : Option (AOut × Mem) := L_f42_2 ⟨[v0, Q, Q, v3, v4, Q, v6, v7, Q, Q, Q, Q, Q, Q, Q, Q, Q, Q, Q, Q, Q, Q, Q, Q, Q, Q, Q, Q, Q, Q, Q, Q, Q, Q, Q, Q, Q, Q, Q, Q, Q, Q, Q, Q, Q, Q, Q, Q, Q, Q, Q, Q, Q, Q, Q, Q, Q, Q, Q, Q, Q, Q, Q, Q, Q, Q, Q, Q, Q, Q, Q, Q, Q, Q, Q, Q, Q], []⟩ m
noncomputable def k_f42_6 (v0 v3 v4 v6 v7 : AV) (m : Mem) : Option (AOut × Mem) := K_f42_6 ⟨[v0, Q, Q, v3, v4, Q, v6, v7, Q, Q, Q, Q, Q, Q, Q, Q, Q, Q, Q, Q, Q, Q, Q, Q, Q, Q, Q, Q, Q, Q, Q, Q, Q, Q, Q, Q, Q, Q, Q, Q, Q, Q, Q, Q, Q, Q, Q, Q, Q, Q, Q, Q, Q, Q, Q, Q, Q, Q, Q, Q, Q, Q, Q, Q, Q, Q, Q, Q, Q, Q, Q, Q, Q, Q, Q, Q, Q], []⟩ m
noncomputable def k_f42_7 (v0 v3 v4 v6 v7 v57 : AV) (m : Mem) : Option (AOut × Mem) := K_f42_7 ⟨[v0, Q, Q, v3, v4, Q, v6, v7, Q, Q, Q, Q, Q, Q, Q, Q, Q, Q, Q, Q, Q, Q, Q, Q, Q, Q, Q, Q, Q, Q, Q, Q, Q, Q, Q, Q, Q, Q, Q, Q, Q, Q, Q, Q, Q, Q, Q, Q, Q, Q, Q, Q, Q, Q, Q, Q, Q, v57, Q, Q, Q, Q, Q, Q, Q, Q, Q, Q, Q, Q, Q, Q, Q, Q, Q, Q, Q], []⟩ m
noncomputable def k_f42_8 (v0 v3 v4 v6 v7 : AV) (m : Mem) : Option (AOut × Mem) := K_f42_8 ⟨[v0, Q, Q, v3, v4, Q, v6, v7, Q, Q, Q, Q, Q, Q, Q, Q, Q, Q, Q, Q, Q, Q, Q, Q, Q, Q, Q, Q, Q, Q, Q, Q, Q, Q, Q, Q, Q, Q, Q, Q, Q, Q, Q, Q, Q, Q, Q, Q, Q, Q, Q, Q, Q, Q, Q, Q, Q, Q, Q, Q, Q, Q, Q, Q, Q, Q, Q, Q, Q, Q, Q, Q, Q, Q, Q, Q, Q], []⟩ m
theorem e_f42 (v0 : AV) (m : Mem) : w_f42 v0 m =
  bnd (rBuildSlice A_api_Token 0 []) fun v10 =>
  l_f42_0 v0 v10 (.int .i64 0) m := (aW_F (c := c_f42) (fn := Try.f42) (by kernel_rfl) (by kernel_rfl) (by kernel_rfl) _ m).trans (by kernel_rfl)
theorem k_f42_0_eq (v0 v3 v4 : AV) (m : Mem) : k_f42_0 v0 v3 v4 m =
  some (.ret v3, m) := by kernel_rfl
theorem l_f42_0_u (v0 v3 v4 : AV) (m : Mem) : l_f42_0 v0 v3 v4 m = loopK X F_f42 0 (sB (sB (sL (sR (sR (sR c_f42)))))) B_f42_0 ⟨[v0, Q, Q, v3, v4, Q, Q, Q, Q, Q, Q, Q, Q, Q, Q, Q, Q, Q, Q, Q, Q, Q, Q, Q, Q, Q, Q, Q, Q, Q, Q, Q, Q, Q, Q, Q, Q, Q, Q, Q, Q, Q, Q, Q, Q, Q, Q, Q, Q, Q, Q, Q, Q, Q, Q, Q, Q, Q, Q, Q, Q, Q, Q, Q, Q, Q, Q, Q, Q, Q, Q, Q, Q, Q, Q, Q, Q], []⟩ m := by kernel_rfl
theorem l_f42_0_r (v0 v3 v4 : AV) (m : Mem) : roundF X F_f42 0 (sB (sB (sL (sR (sR (sR c_f42)))))) B_f42_0 [v0, Q, Q, v3, v4, Q, Q, Q, Q, Q, Q, Q, Q, Q, Q, Q, Q, Q, Q, Q, Q, Q, Q, Q, Q, Q, Q, Q, Q, Q, Q, Q, Q, Q, Q, Q, Q, Q, Q, Q, Q, Q, Q, Q, Q, Q, Q, Q, Q, Q, Q, Q, Q, Q, Q, Q, Q, Q, Q, Q, Q, Q, Q, Q, Q, Q, Q, Q, Q, Q, Q, Q, Q, Q, Q, Q, Q] m =
  bnd (rLenStr v0) fun v13 =>
  bnd (aBin X.T .lss T_int false false v4 v13) fun v14 =>
  onBool v14
    (k_f42_1 v0 v3 v4 m)
    (k_f42_0 v0 v3 v4 m) := by kernel_rfl
theorem l_f42_0_eq (v0 v3 v4 : AV) (m : Mem) : l_f42_0 v0 v3 v4 m =
  bnd (rLenStr v0) fun v13 =>
  bnd (aBin X.T .lss T_int false false v4 v13) fun v14 =>
  onBool v14
    (k_f42_1 v0 v3 v4 m)
    (k_f42_0 v0 v3 v4 m) := roundF_of (l_f42_0_u v0 v3 v4 m) (l_f42_0_r v0 v3 v4 m)
theorem k_f42_1_eq (v0 v3 v4 : AV) (m : Mem) : k_f42_1 v0 v3 v4 m =
  bnd (rIxStr v0 v4) fun v17 =>
  retK (w_f74 v17 m) (fun v18 m1 =>
  onBool v18
    (bnd (aBin X.T .add T_int false true v4 (.int .i64 1)) fun v20 =>
    l_f42_0 v0 v3 v20 m1)
    (k_f42_2 v0 v3 v4 m1)) (fun u m1 => some (.pan u, m1)) := by kernel_rfl
theorem k_f42_2_eq (v0 v3 v4 : AV) (m : Mem) : k_f42_2 v0 v3 v4 m =
  retK (w_f75 v0 v4 (.str (bs [40, 42])) m) (fun v23 m1 =>
  onBool v23
    (retK (w_f76 v0 v4 m1) (fun v26 m2 =>
    bnd (aBin X.T .eql T_int false true v26 (.int .i64 0)) fun v28 =>
    onBool v28
      (bnd (rLenStr v0) fun v32 =>
      bnd (rBuild [.int .i64 0, .int .i64 0, .int .i64 0] [(0, 1, (.int .i64 7)), (1, 1, v4), (2, 1, v32)]) fun v33 =>
      bnd (rBuildSlice A_api_Token 1 [(0, v33)]) fun v34 =>
      memK (rAppend A_api_Token 0 m2 v3 v34) fun v35 m3 =>
      some (.ret v35, m3))
      (k_f42_4 v0 v3 v4 v26 m2)) (fun u m2 => some (.pan u, m2)))
    (k_f42_3 v0 v3 v4 m1)) (fun u m1 => some (.pan u, m1)) := by kernel_rfl
theorem k_f42_3_eq (v0 v3 v4 : AV) (m : Mem) : k_f42_3 v0 v3 v4 m =
  retK (w_f77 v0 v4 m) (fun v40 m1 =>
  bnd (aExtract v40 0) fun v41 =>
  bnd (aExtract v40 1) fun v42 =>
  bnd (aBin X.T .eql T_int false true v41 (.int .i64 0)) fun v44 =>
  onBool v44
    (bnd (aBin X.T .add T_int false true v4 (.int .i64 1)) fun v46 =>
    l_f42_2 v0 v3 v4 (.int .i64 7) v46 m1)
    (k_f42_5 v0 v3 v4 v41 v42 m1)) (fun u m1 => some (.pan u, m1)) := by kernel_rfl
theorem k_f42_4_eq (v0 v3 v4 v5 : AV) (m : Mem) : k_f42_4 v0 v3 v4 v5 m =
  l_f42_0 v0 v3 v5 m := by kernel_rfl
theorem k_f42_5_eq (v0 v3 v4 v6 v7 : AV) (m : Mem) : k_f42_5 v0 v3 v4 v6 v7 m =
  bnd (rBuild [.int .i64 0, .int .i64 0, .int .i64 0] [(0, 1, v6), (1, 1, v4), (2, 1, v7)]) fun v72 =>
  bnd (rBuildSlice A_api_Token 1 [(0, v72)]) fun v73 =>
  memK (rAppend A_api_Token 0 m v3 v73) fun v74 m1 =>
  l_f42_0 v0 v74 v7 m1 := by kernel_rfl
theorem l_f42_2_u (v0 v3 v4 v6 v7 : AV) (m : Mem) : l_f42_2 v0 v3 v4 v6 v7 m = loopK X F_f42 2 (sB (sB (sR (sR (sL (sR (sL (sR (sR (sR (sB (sR (sB (sB (sL (sR (sR (sR c_f42)))))))))))))))))) B_f42_2 ⟨[v0, Q, Q, v3, v4, Q, v6, v7, Q, Q, Q, Q, Q, Q, Q, Q, Q, Q, Q, Q, Q, Q, Q, Q, Q, Q, Q, Q, Q, Q, Q, Q, Q, Q, Q, Q, Q, Q, Q, Q, Q, Q, Q, Q, Q, Q, Q, Q, Q, Q, Q, Q, Q, Q, Q, Q, Q, Q, Q, Q, Q, Q, Q, Q, Q, Q, Q, Q, Q, Q, Q, Q, Q, Q, Q, Q, Q], []⟩ m := by kernel_rfl
theorem l_f42_2_r (v0 v3 v4 v6 v7 : AV) (m : Mem) : roundF X F_f42 2 (sB (sB (sR (sR (sL (sR (sL (sR (sR (sR (sB (sR (sB (sB (sL (sR (sR (sR c_f42)))))))))))))))))) B_f42_2 [v0, Q, Q, v3, v4, Q, v6, v7, Q, Q, Q, Q, Q, Q, Q, Q, Q, Q, Q, Q, Q, Q, Q, Q, Q, Q, Q, Q, Q, Q, Q, Q, Q, Q, Q, Q, Q, Q, Q, Q, Q, Q, Q, Q, Q, Q, Q, Q, Q, Q, Q, Q, Q, Q, Q, Q, Q, Q, Q, Q, Q, Q, Q, Q, Q, Q, Q, Q, Q, Q, Q, Q, Q, Q, Q, Q, Q] m =
  bnd (rLenStr v0) fun v49 =>
  bnd (aBin X.T .lss T_int false false v7 v49) fun v50 =>
  onWant v50
    (bnd (rIxStr v0 v7) fun v54 =>
  retK (w_f74 v54 m) (fun v55 m1 =>
  bnd (aUn .not v55) fun v56 =>
  k_f42_7 v0 v3 v4 v6 v7 v56 m1) (fun u m1 => some (.pan u, m1)))
    (k_f42_7 v0 v3 v4 v6 v7 (.bool false) m)
    (none) := by kernel_rfl
theorem l_f42_2_eq (v0 v3 v4 v6 v7 : AV) (m : Mem) : l_f42_2 v0 v3 v4 v6 v7 m =
  bnd (rLenStr v0) fun v49 =>
  bnd (aBin X.T .lss T_int false false v7 v49) fun v50 =>
  onWant v50
    (bnd (rIxStr v0 v7) fun v54 =>
  retK (w_f74 v54 m) (fun v55 m1 =>
  bnd (aUn .not v55) fun v56 =>
  k_f42_7 v0 v3 v4 v6 v7 v56 m1) (fun u m1 => some (.pan u, m1)))
    (k_f42_7 v0 v3 v4 v6 v7 (.bool false) m)
    (none) := roundF_of (l_f42_2_u v0 v3 v4 v6 v7 m) (l_f42_2_r v0 v3 v4 v6 v7 m)
theorem k_f42_6_eq (v0 v3 v4 v6 v7 : AV) (m : Mem) : k_f42_6 v0 v3 v4 v6 v7 m =
  retK (w_f77 v0 v7 m) (fun v61 m1 =>
  bnd (aExtract v61 0) fun v62 =>
  bnd (aExtract v61 1) fun v63 =>
  bnd (aBin X.T .neq T_int false true v62 (.int .i64 0)) fun v65 =>
  onBool v65
    (k_f42_5 v0 v3 v4 v6 v7 m1)
    (k_f42_8 v0 v3 v4 v6 v7 m1)) (fun u m1 => some (.pan u, m1)) := by kernel_rfl
theorem k_f42_7_eq (v0 v3 v4 v6 v7 v57 : AV) (m : Mem) : k_f42_7 v0 v3 v4 v6 v7 v57 m =
  onBool v57
    (k_f42_6 v0 v3 v4 v6 v7 m)
    (k_f42_5 v0 v3 v4 v6 v7 m) := by kernel_rfl
theorem k_f42_8_eq (v0 v3 v4 v6 v7 : AV) (m : Mem) : k_f42_8 v0 v3 v4 v6 v7 m =
  bnd (aBin X.T .add T_int false true v7 (.int .i64 1)) fun v67 =>
  l_f42_2 v0 v3 v4 v6 v67 m := by kernel_rfl
noncomputable def c_f43 : Code := bodyOf Try.f43
noncomputable def N_f43 : AAct → Mem → Option (AOut × Mem) := finK X.T Try.f43.results.toList .normal
noncomputable def P_f43 : AExit → AAct → Mem → Option (AOut × Mem) := finK X.T Try.f43.results.toList
noncomputable def K_f43_0 : AAct → Mem → Option (AOut × Mem) := execF X F_f43 0 (sR (sR c_f43)) N_f43 P_f43
noncomputable def k_f43_0 (v0 v1 v2 : AV) (m : Mem) : Option (AOut × Mem) := K_f43_0 ⟨[v0, v1, v2, Q, Q, Q, Q, Q, Q, Q, Q, Q, Q, Q, Q, Q, Q, Q, Q, Q, Q], []⟩ m
theorem e_f43 (v0 v1 v2 : AV) (m : Mem) : w_f43 v0 v1 v2 m =
  retK (w_f50 v0 v2 m) (fun v11 m1 =>
  bnd (aUn .not v11) fun v12 =>
  onBool v12
    (some (.ret (.tup [(.int .i64 0), (.int .i64 221)]), m1))
    (retK (w_f15 v1 m1) (fun v15 m2 =>
    bnd (aBin X.T .neq T_int false true v15 (.int .i64 1)) fun v16 =>
    onBool v16
      (some (.ret (.tup [(.int .i64 0), (.int .i64 120)]), m2))
      (k_f43_0 v0 v1 v2 m2)) (fun u m2 => some (.pan u, m2)))) (fun u m1 => some (.pan u, m1)) := (aW_F (c := c_f43) (fn := Try.f43) (by kernel_rfl) (by kernel_rfl) (by kernel_rfl) _ m).trans (by kernel_rfl)
theorem k_f43_0_eq (v0 v1 v2 : AV) (m : Mem) : k_f43_0 v0 v1 v2 m =
  retK (w_f62 v0 (.int .i64 2) v1 v2 m) (fun v20 m1 =>
  some (.ret (.tup [v20, (.int .i64 0)]), m1)) (fun u m1 => some (.pan u, m1)) := by kernel_rfl
noncomputable def c_f44 : Code := bodyOf Try.f44
noncomputable def N_f44 : AAct → Mem → Option (AOut × Mem) := finK X.T Try.f44.results.toList .normal
noncomputable def P_f44 : AExit → AAct → Mem → Option (AOut × Mem) := finK X.T Try.f44.results.toList
noncomputable def K_f44_0 : AAct → Mem → Option (AOut × Mem) := execF X F_f44 0 (sR (sR c_f44)) N_f44 P_f44
noncomputable def k_f44_0 (v0 v1 v2 : AV) (m : Mem) : Option (AOut × Mem) := K_f44_0 ⟨[v0, v1, v2, Q, Q, Q, Q, Q, Q, Q, Q, Q, Q, Q, Q, Q, Q, Q, Q], []⟩ m
theorem e_f44 (v0 v1 v2 : AV) (m : Mem) : w_f44 v0 v1 v2 m =
  bnd (rBuildSlice A_int 2 [(0, v1), (1, v2)]) fun v11 =>
  retK (w_f50 v0 v11 m) (fun v12 m1 =>
  bnd (aUn .not v12) fun v13 =>
  onBool v13
    (some (.ret (.tup [(.int .i64 0), (.int .i64 221)]), m1))
    (k_f44_0 v0 v1 v2 m1)) (fun u m1 => some (.pan u, m1)) := (aW_F (c := c_f44) (fn := Try.f44) (by kernel_rfl) (by kernel_rfl) (by kernel_rfl) _ m).trans (by kernel_rfl)
theorem k_f44_0_eq (v0 v1 v2 : AV) (m : Mem) : k_f44_0 v0 v1 v2 m =
  bnd (rBuildSlice A_int 2 [(0, v1), (1, v2)]) fun v17 =>
  retK (w_f62 v0 (.int .i64 4) (.str (bs [])) v17 m) (fun v18 m1 =>
  some (.ret (.tup [v18, (.int .i64 0)]), m1)) (fun u m1 => some (.pan u, m1)) := by kernel_rfl
noncomputable def c_f45 : Code := bodyOf Try.f45
theorem e_f45 (v0 : AV) (m : Mem) : w_f45 v0 m =
  nilK v0
  (bnd (rFieldAddr 0 v0) fun v5 =>
  bnd (rLoad false 1 m v5) fun v6 =>
  bnd (rLenSl v6) fun v7 =>
  some (.ret v7, m)) := (aW_F (c := c_f45) (fn := Try.f45) (by kernel_rfl) (by kernel_rfl) (by kernel_rfl) _ m).trans (by kernel_rfl)
noncomputable def c_f46 : Code := bodyOf Try.f46
noncomputable def N_f46 : AAct → Mem → Option (AOut × Mem) := finK X.T Try.f46.results.toList .normal
noncomputable def P_f46 : AExit → AAct → Mem → Option (AOut × Mem) := finK X.T Try.f46.results.toList
noncomputable def K_f46_0 : AAct → Mem → Option (AOut × Mem) := execF X F_f46 0 (sR (sR c_f46)) N_f46 P_f46
noncomputable def k_f46_0 (v0 : AV) (m : Mem) : Option (AOut × Mem) := K_f46_0 ⟨[v0, Q, Q, Q, Q, Q, Q, Q, Q, Q, Q, Q, Q], []⟩ m
theorem e_f46 (v0 : AV) (m : Mem) : w_f46 v0 m =
  bnd (rLenSl v0) fun v5 =>
  bnd (aBin X.T .lss T_int false true v5 (.int .i64 2)) fun v6 =>
  onBool v6
    (some (.ret (.tup [(.int .i64 (-1)), (.int .i64 (-1))]), m))
    (k_f46_0 v0 m) := (aW_F (c := c_f46) (fn := Try.f46) (by kernel_rfl) (by kernel_rfl) (by kernel_rfl) _ m).trans (by kernel_rfl)
theorem k_f46_0_eq (v0 : AV) (m : Mem) : k_f46_0 v0 m =
  bnd (rIxAddrSl 1 v0 (.int .i64 0)) fun v8 =>
  bnd (rLoad false 1 m v8) fun v9 =>
  bnd (rIxAddrSl 1 v0 (.int .i64 1)) fun v11 =>
  bnd (rLoad false 1 m v11) fun v12 =>
  some (.ret (.tup [v9, v12]), m) := by kernel_rfl
noncomputable def c_f47 : Code := bodyOf Try.f47
theorem e_f47 (v0 : AV) (m : Mem) : w_f47 v0 m =
  memK (aBox m v0) fun v1 m1 =>
  memK (aBox m1 (.agg [.nils])) fun v2 m2 =>
  bnd (rLoad true 1 m2 v1) fun v4 =>
  bnd (rBuild [.int .i64 0, .str (bs []), .nils, .int .i64 0] [(0, 1, (.int .i64 1))]) fun v5 =>
  retK (w_f78 v4 v5 m2) (fun v6 m3 =>
  bnd (aExtract v6 0) fun v7 =>
  bnd (aExtract v6 1) fun v8 =>
  bnd (rStore 1 m3 v2 v7) fun m4 =>
  bnd (rLoad true 1 m4 v2) fun vr0 =>
  some (.ret (.tup [vr0, v8]), m4)) (fun u m3 => some (.pan u, m3)) := (aW_F (c := c_f47) (fn := Try.f47) (by kernel_rfl) (by kernel_rfl) (by kernel_rfl) _ m).trans (by kernel_rfl)
end Go.AM
