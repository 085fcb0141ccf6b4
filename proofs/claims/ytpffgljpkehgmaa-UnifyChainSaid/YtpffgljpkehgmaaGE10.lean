/-
  A part of the proof: equations or tables of the program over the abstract machine, printed by a program of this proof's own.
-/
import Derived.Test.YtpffgljpkehgmaaGCtx
set_option linter.unusedVariables false
set_option linter.unusedSimpArgs false
namespace Go.AM
open Go.Proofs
set_option maxRecDepth 100000
set_option linter.unusedVariables false
noncomputable def c_f67 : Code := bodyOf Try.f67
noncomputable def N_f67 : AAct → Mem → Option (AOut × Mem) := finK X.T Try.f67.results.toList .normal
noncomputable def P_f67 : AExit → AAct → Mem → Option (AOut × Mem) := finK X.T Try.f67.results.toList
noncomputable def K_f67_0 : AAct → Mem → Option (AOut × Mem) := execF X F_f67 0 (sR (sR (sR c_f67))) N_f67 P_f67
noncomputable def B_f67_0 : AExit → AAct → Mem → Option (AOut × Mem) := blockX 0 K_f67_0 P_f67
noncomputable def L_f67_0 : AAct → Mem → Option (AOut × Mem) := fun a m => killF (X.lk F_f67 0) a.tmps fun l => loopK X F_f67 0 (sB (sB (sL (sR (sR c_f67))))) B_f67_0 ⟨l, a.defers⟩ m
noncomputable def K_f67_1 : AAct → Mem → Option (AOut × Mem) := execF X F_f67 0 (sR (sB (sB (sL (sR (sR c_f67)))))) L_f67_0 B_f67_0
noncomputable def K_f67_2 : AAct → Mem → Option (AOut × Mem) := execF X F_f67 0 (sR (sL (sB (sB (sL (sR (sR c_f67))))))) K_f67_1 B_f67_0
noncomputable def k_f67_0 (v0 v2 v7 : AV) (m : Mem) : Option (AOut × Mem) := K_f67_0 ⟨[v0, Q, v2, Q, Q, Q, Q, v7, Q, Q, Q, Q, Q, Q, Q, Q, Q, Q, Q, Q, Q, Q, Q], []⟩ m
noncomputable def l_f67_0 (v0 v2 v7 : AV) (m : Mem) : Option (AOut × Mem) := L_f67_0 ⟨[v0, Q, v2, Q, Q, Q, Q, v7, Q, Q, Q, Q, Q, Q, Q, Q, Q, Q, Q, Q, Q, Q, Q], []⟩ m
noncomputable def k_f67_1 (v0 v2 v7 : AV) (m : Mem) : Option (AOut × Mem) := K_f67_1 ⟨[v0, Q, v2, Q, Q, Q, Q, v7, Q, Q, Q, Q, Q, Q, Q, Q, Q, Q, Q, Q, Q, Q, Q], []⟩ m
noncomputable def k_f67_2 (v0 v2 v7 v19 : AV) (m : Mem) : Option (AOut × Mem) := K_f67_2 ⟨[v0, Q, v2, Q, Q, Q, Q, v7, Q, Q, Q, Q, Q, Q, Q, Q, Q, Q, Q, v19, Q, Q, Q], []⟩ m
theorem e_f67 (v0 v1 v2 : AV) (m : Mem) : w_f67 v0 v1 v2 m =
  l_f67_0 v0 v2 v1 m := (aW_F (c := c_f67) (fn := Try.f67) (by kernel_rfl) (by kernel_rfl) (by kernel_rfl) _ m).trans (by kernel_rfl)
theorem k_f67_0_eq (v0 v2 v7 : AV) (m : Mem) : k_f67_0 v0 v2 v7 m =
  some (.ret v7, m) := by kernel_rfl
theorem l_f67_0_u (v0 v2 v7 : AV) (m : Mem) : l_f67_0 v0 v2 v7 m = loopK X F_f67 0 (sB (sB (sL (sR (sR c_f67))))) B_f67_0 ⟨[v0, Q, v2, Q, Q, Q, Q, v7, Q, Q, Q, Q, Q, Q, Q, Q, Q, Q, Q, Q, Q, Q, Q], []⟩ m := by kernel_rfl
theorem l_f67_0_r (v0 v2 v7 : AV) (m : Mem) : roundF X F_f67 0 (sB (sB (sL (sR (sR c_f67))))) B_f67_0 [v0, Q, v2, Q, Q, Q, Q, v7, Q, Q, Q, Q, Q, Q, Q, Q, Q, Q, Q, Q, Q, Q, Q] m =
  bnd (rLenStr v0) fun v11 =>
  bnd (aBin X.T .lss T_int false false v7 v11) fun v12 =>
  onWant v12
    (bnd (rIxStr v0 v7) fun v17 =>
  retK (w_f71 v2 v17 m) (fun v18 m1 =>
  k_f67_2 v0 v2 v7 v18 m1) (fun u m1 => some (.pan u, m1)))
    (k_f67_2 v0 v2 v7 (.bool false) m)
    (none) := by kernel_rfl
theorem l_f67_0_eq (v0 v2 v7 : AV) (m : Mem) : l_f67_0 v0 v2 v7 m =
  bnd (rLenStr v0) fun v11 =>
  bnd (aBin X.T .lss T_int false false v7 v11) fun v12 =>
  onWant v12
    (bnd (rIxStr v0 v7) fun v17 =>
  retK (w_f71 v2 v17 m) (fun v18 m1 =>
  k_f67_2 v0 v2 v7 v18 m1) (fun u m1 => some (.pan u, m1)))
    (k_f67_2 v0 v2 v7 (.bool false) m)
    (none) := roundF_of (l_f67_0_u v0 v2 v7 m) (l_f67_0_r v0 v2 v7 m)
theorem k_f67_1_eq (v0 v2 v7 : AV) (m : Mem) : k_f67_1 v0 v2 v7 m =
  bnd (aBin X.T .add T_int false true v7 (.int .i64 1)) fun v21 =>
  l_f67_0 v0 v2 v21 m := by kernel_rfl
theorem k_f67_2_eq (v0 v2 v7 v19 : AV) (m : Mem) : k_f67_2 v0 v2 v7 v19 m =
  onBool v19
    (k_f67_1 v0 v2 v7 m)
    (k_f67_0 v0 v2 v7 m) := by kernel_rfl
noncomputable def c_f70 : Code := bodyOf Try.f70
theorem e_f70 (v0 v1 : AV) (m : Mem) : w_f70 v0 v1 m =
  bnd (rLenStr v0) fun v6 =>
  bnd (rLenStr v1) fun v8 =>
  bnd (aBin X.T .geq T_int false false v6 v8) fun v9 =>
  onWant v9
    (bnd (rLenStr v1) fun v13 =>
  bnd (rSliceStr v0 none (some v13)) fun v14 =>
  bnd (aBin X.T .eql T_string false false v14 v1) fun v16 =>
  some (.ret v16, m))
    (some (.ret (.bool false), m))
    (none) := (aW_F (c := c_f70) (fn := Try.f70) (by kernel_rfl) (by kernel_rfl) (by kernel_rfl) _ m).trans (by kernel_rfl)
noncomputable def c_f71 : Code := bodyOf Try.f71
theorem e_f71 (v0 v1 : AV) (m : Mem) : w_f71 v0 v1 m =
  retK (w_f88 v0 v1 m) (fun v7 m1 =>
  bnd (aBin X.T .geq T_int false true v7 (.int .i64 0)) fun v8 =>
  some (.ret v8, m1)) (fun u m1 => some (.pan u, m1)) := (aW_F (c := c_f71) (fn := Try.f71) (by kernel_rfl) (by kernel_rfl) (by kernel_rfl) _ m).trans (by kernel_rfl)
noncomputable def c_f72 : Code := bodyOf Try.f72
noncomputable def N_f72 : AAct → Mem → Option (AOut × Mem) := finK X.T Try.f72.results.toList .normal
noncomputable def P_f72 : AExit → AAct → Mem → Option (AOut × Mem) := finK X.T Try.f72.results.toList
noncomputable def K_f72_0 : AAct → Mem → Option (AOut × Mem) := execF X F_f72 0 (sR (sR c_f72)) N_f72 P_f72
noncomputable def k_f72_0 (m : Mem) : Option (AOut × Mem) := K_f72_0 ⟨[Q, Q, Q, Q, Q, Q, Q, Q, Q, Q, Q, Q, Q, Q], []⟩ m
theorem e_f72 (v0 : AV) (m : Mem) : w_f72 v0 m =
  bnd (aBin X.T .eql T_string false true v0 (.str (bs [95]))) fun v5 =>
  onBool v5
    (some (.ret (.int .i64 6), m))
    (retK (w_f90 m) (fun v7 m1 =>
    retK (w_f89 v7 v0 m1) (fun v9 m2 =>
    onBool v9
      (some (.ret (.int .i64 5), m2))
      (bnd (rIxStr v0 (.int .i64 0)) fun v12 =>
      retK (w_f71 (.str (bs [65, 66, 67, 68, 69, 70, 71, 72, 73, 74, 75, 76, 77, 78, 79, 80, 81, 82, 83, 84, 85, 86, 87, 88, 89, 90])) v12 m2) (fun v13 m3 =>
      onBool v13
        (some (.ret (.int .i64 2), m3))
        (k_f72_0 m3)) (fun u m3 => some (.pan u, m3)))) (fun u m2 => some (.pan u, m2))) (fun u m1 => some (.pan u, m1))) := (aW_F (c := c_f72) (fn := Try.f72) (by kernel_rfl) (by kernel_rfl) (by kernel_rfl) _ m).trans (by kernel_rfl)
theorem k_f72_0_eq (m : Mem) : k_f72_0 m =
  some (.ret (.int .i64 1), m) := by kernel_rfl
noncomputable def c_f73 : Code := bodyOf Try.f73
theorem e_f73 (m : Mem) : w_f73 m =
  bnd (rBuildSlice A_string 13 [(0, (.str (bs [45, 62]))), (1, (.str (bs [58, 58]))), (2, (.str (bs [59, 59]))), (3, (.str (bs [40]))), (4, (.str (bs [41]))), (5, (.str (bs [44]))), (6, (.str (bs [124]))), (7, (.str (bs [61]))), (8, (.str (bs [60]))), (9, (.str (bs [43]))), (10, (.str (bs [45]))), (11, (.str (bs [42]))), (12, (.str (bs [95])))]) fun v1 =>
  some (.ret v1, m) := (aW_F (c := c_f73) (fn := Try.f73) (by kernel_rfl) (by kernel_rfl) (by kernel_rfl) _ m).trans (by kernel_rfl)
noncomputable def c_f74 : Code := bodyOf Try.f74
theorem e_f74 (v0 : AV) (m : Mem) : w_f74 v0 m =
  bnd (aBin X.T .eql T_uint8 false true v0 (.int .u8 32)) fun v4 =>
  onWant v4
    (some (.ret (.bool true), m))
    (bnd (aBin X.T .eql T_uint8 false true v0 (.int .u8 9)) fun v7 =>
  onWant v7
    (some (.ret (.bool true), m))
    (bnd (aBin X.T .eql T_uint8 false true v0 (.int .u8 10)) fun v11 =>
  onWant v11
    (some (.ret (.bool true), m))
    (bnd (aBin X.T .eql T_uint8 false true v0 (.int .u8 13)) fun v15 =>
  some (.ret v15, m))
    (none))
    (none))
    (none) := (aW_F (c := c_f74) (fn := Try.f74) (by kernel_rfl) (by kernel_rfl) (by kernel_rfl) _ m).trans (by kernel_rfl)
noncomputable def c_f75 : Code := bodyOf Try.f75
theorem e_f75 (v0 v1 v2 : AV) (m : Mem) : w_f75 v0 v1 v2 m =
  bnd (rLenStr v2) fun v9 =>
  bnd (aBin X.T .add T_int false false v1 v9) fun v10 =>
  bnd (rLenStr v0) fun v12 =>
  bnd (aBin X.T .leq T_int false false v10 v12) fun v13 =>
  onWant v13
    (bnd (rLenStr v2) fun v19 =>
  bnd (aBin X.T .add T_int false false v1 v19) fun v20 =>
  bnd (rSliceStr v0 (some v1) (some v20)) fun v21 =>
  bnd (aBin X.T .eql T_string false false v21 v2) fun v23 =>
  some (.ret v23, m))
    (some (.ret (.bool false), m))
    (none) := (aW_F (c := c_f75) (fn := Try.f75) (by kernel_rfl) (by kernel_rfl) (by kernel_rfl) _ m).trans (by kernel_rfl)
noncomputable def c_f76 : Code := bodyOf Try.f76
noncomputable def N_f76 : AAct → Mem → Option (AOut × Mem) := finK X.T Try.f76.results.toList .normal
noncomputable def P_f76 : AExit → AAct → Mem → Option (AOut × Mem) := finK X.T Try.f76.results.toList
noncomputable def K_f76_0 : AAct → Mem → Option (AOut × Mem) := execF X F_f76 0 (sR (sR (sR c_f76))) N_f76 P_f76
noncomputable def B_f76_0 : AExit → AAct → Mem → Option (AOut × Mem) := blockX 0 K_f76_0 P_f76
noncomputable def L_f76_0 : AAct → Mem → Option (AOut × Mem) := fun a m => killF (X.lk F_f76 0) a.tmps fun l => loopK X F_f76 0 (sB (sB (sL (sR (sR c_f76))))) B_f76_0 ⟨l, a.defers⟩ m
noncomputable def K_f76_1 : AAct → Mem → Option (AOut × Mem) := execF X F_f76 0 (sR (sB (sB (sL (sR (sR c_f76)))))) L_f76_0 B_f76_0
noncomputable def B_f76_1 : AExit → AAct → Mem → Option (AOut × Mem) := blockX 1 L_f76_0 B_f76_0
noncomputable def K_f76_2 : AAct → Mem → Option (AOut × Mem) := execF X F_f76 1 (sR (sB (sR (sB (sB (sL (sR (sR c_f76)))))))) L_f76_0 B_f76_1
noncomputable def K_f76_3 : AAct → Mem → Option (AOut × Mem) := execF X F_f76 1 (sR (sR (sB (sR (sB (sB (sL (sR (sR c_f76))))))))) L_f76_0 B_f76_1
noncomputable def k_f76_0 (v0 v1 v5 : AV) (m : Mem) : Option (AOut × Mem) := K_f76_0 ⟨[v0, v1, Q, Q, Q, v5, Q, Q, Q, Q, Q, Q, Q, Q, Q, Q, Q, Q, Q, Q, Q, Q, Q, Q, Q, Q, Q, Q, Q], []⟩ m
noncomputable def l_f76_0 (v0 v1 v5 : AV) (m : Mem) : Option (AOut × Mem) := L_f76_0 ⟨[v0, v1, Q, Q, Q, v5, Q, Q, Q, Q, Q, Q, Q, Q, Q, Q, Q, Q, Q, Q, Q, Q, Q, Q, Q, Q, Q, Q, Q], []⟩ m
noncomputable def k_f76_1 (v0 v1 v5 : AV) (m : Mem) : Option (AOut × Mem) := K_f76_1 ⟨[v0, v1, Q, Q, Q, v5, Q, Q, Q, Q, Q, Q, Q, Q, Q, Q, Q, Q, Q, Q, Q, Q, Q, Q, Q, Q, Q, Q, Q], []⟩ m
noncomputable def k_f76_2 (v0 v1 v5 : AV) (m : Mem) : Option (AOut × Mem) := K_f76_2 ⟨[v0, v1, Q, Q, Q, v5, Q, Q, Q, Q, Q, Q, Q, Q, Q, Q, Q, Q, Q, Q, Q, Q, Q, Q, Q, Q, Q, Q, Q], []⟩ m
noncomputable def k_f76_3 (v0 v1 v5 : AV) (m : Mem) : Option (AOut × Mem) := K_f76_3 ⟨[v0, v1, Q, Q, Q, v5, Q, Q, Q, Q, Q, Q, Q, Q, Q, Q, Q, Q, Q, Q, Q, Q, Q, Q, Q, Q, Q, Q, Q], []⟩ m
theorem e_f76 (v0 v1 : AV) (m : Mem) : w_f76 v0 v1 m =
  l_f76_0 v0 v1 (.int .i64 0) m := (aW_F (c := c_f76) (fn := Try.f76) (by kernel_rfl) (by kernel_rfl) (by kernel_rfl) _ m).trans (by kernel_rfl)
theorem k_f76_0_eq (v0 v1 v5 : AV) (m : Mem) : k_f76_0 v0 v1 v5 m =
  some (.ret (.int .i64 0), m) := by kernel_rfl
theorem l_f76_0_u (v0 v1 v5 : AV) (m : Mem) : l_f76_0 v0 v1 v5 m = loopK X F_f76 0 (sB (sB (sL (sR (sR c_f76))))) B_f76_0 ⟨[v0, v1, Q, Q, Q, v5, Q, Q, Q, Q, Q, Q, Q, Q, Q, Q, Q, Q, Q, Q, Q, Q, Q, Q, Q, Q, Q, Q, Q], []⟩ m := by kernel_rfl
theorem l_f76_0_r (v0 v1 v5 : AV) (m : Mem) : roundF X F_f76 0 (sB (sB (sL (sR (sR c_f76))))) B_f76_0 [v0, v1, Q, Q, Q, v5, Q, Q, Q, Q, Q, Q, Q, Q, Q, Q, Q, Q, Q, Q, Q, Q, Q, Q, Q, Q, Q, Q, Q] m =
  bnd (rLenStr v0) fun v8 =>
  bnd (aBin X.T .lss T_int false false v1 v8) fun v9 =>
  onBool v9
    (k_f76_1 v0 v1 v5 m)
    (k_f76_0 v0 v1 v5 m) := by kernel_rfl
theorem l_f76_0_eq (v0 v1 v5 : AV) (m : Mem) : l_f76_0 v0 v1 v5 m =
  bnd (rLenStr v0) fun v8 =>
  bnd (aBin X.T .lss T_int false false v1 v8) fun v9 =>
  onBool v9
    (k_f76_1 v0 v1 v5 m)
    (k_f76_0 v0 v1 v5 m) := roundF_of (l_f76_0_u v0 v1 v5 m) (l_f76_0_r v0 v1 v5 m)
theorem k_f76_1_eq (v0 v1 v5 : AV) (m : Mem) : k_f76_1 v0 v1 v5 m =
  retK (w_f75 v0 v1 (.str (bs [40, 42])) m) (fun v12 m1 =>
  onBool v12
    (bnd (aBin X.T .add T_int false true v5 (.int .i64 1)) fun v14 =>
    bnd (aBin X.T .add T_int false true v1 (.int .i64 2)) fun v16 =>
    l_f76_0 v0 v16 v14 m1)
    (k_f76_2 v0 v1 v5 m1)) (fun u m1 => some (.pan u, m1)) := by kernel_rfl
theorem k_f76_2_eq (v0 v1 v5 : AV) (m : Mem) : k_f76_2 v0 v1 v5 m =
  retK (w_f75 v0 v1 (.str (bs [42, 41])) m) (fun v19 m1 =>
  onBool v19
    (bnd (aBin X.T .sub T_int false true v5 (.int .i64 1)) fun v21 =>
    bnd (aBin X.T .add T_int false true v1 (.int .i64 2)) fun v23 =>
    bnd (aBin X.T .eql T_int false true v21 (.int .i64 0)) fun v25 =>
    onBool v25
      (some (.ret v23, m1))
      (l_f76_0 v0 v23 v21 m1))
    (k_f76_3 v0 v1 v5 m1)) (fun u m1 => some (.pan u, m1)) := by kernel_rfl
theorem k_f76_3_eq (v0 v1 v5 : AV) (m : Mem) : k_f76_3 v0 v1 v5 m =
  bnd (aBin X.T .add T_int false true v1 (.int .i64 1)) fun v28 =>
  l_f76_0 v0 v28 v5 m := by kernel_rfl
end Go.AM
namespace Go.AM
open Go.Proofs
set_option maxRecDepth 100000
set_option linter.unusedVariables false
noncomputable def c_f77 : Code := bodyOf Try.f77
noncomputable def N_f77 : AAct → Mem → Option (AOut × Mem) := finK X.T Try.f77.results.toList .normal
noncomputable def P_f77 : AExit → AAct → Mem → Option (AOut × Mem) := finK X.T Try.f77.results.toList
noncomputable def K_f77_0 : AAct → Mem → Option (AOut × Mem) := execF X F_f77 0 (sR (sR (sR (sR c_f77)))) N_f77 P_f77
noncomputable def K_f77_1 : AAct → Mem → Option (AOut × Mem) := execF X F_f77 0 (sR (sL (sR (sR (sR c_f77))))) K_f77_0 P_f77
noncomputable def K_f77_2 : AAct → Mem → Option (AOut × Mem) := execF X F_f77 0 (sR (sR (sR (sR (sR c_f77))))) N_f77 P_f77
noncomputable def K_f77_3 : AAct → Mem → Option (AOut × Mem) := execF X F_f77 0 (sR (sL (sR (sL (sR (sR (sR (sR c_f77)))))))) K_f77_2 P_f77
noncomputable def B_f77_4 : AExit → AAct → Mem → Option (AOut × Mem) := blockX 4 K_f77_3 P_f77
noncomputable def L_f77_4 : AAct → Mem → Option (AOut × Mem) := fun a m => killF (X.lk F_f77 4) a.tmps fun l => loopK X F_f77 4 (sB (sB (sL (sL (sR (sL (sR (sR (sR (sR c_f77)))))))))) B_f77_4 ⟨l, a.defers⟩ m
noncomputable def K_f77_4 : AAct → Mem → Option (AOut × Mem) := execF X F_f77 0 (sR (sL (sR (sL (sR (sR (sR c_f77))))))) K_f77_0 P_f77
noncomputable def B_f77_0 : AExit → AAct → Mem → Option (AOut × Mem) := blockX 0 K_f77_4 P_f77
noncomputable def L_f77_0 : AAct → Mem → Option (AOut × Mem) := fun a m => killF (X.lk F_f77 0) a.tmps fun l => loopK X F_f77 0 (sB (sB (sL (sL (sR (sL (sR (sR (sR c_f77))))))))) B_f77_0 ⟨l, a.defers⟩ m
noncomputable def K_f77_5 : AAct → Mem → Option (AOut × Mem) := execF X F_f77 0 (sR (sR (sR (sR (sR (sR c_f77)))))) N_f77 P_f77
noncomputable def K_f77_6 : AAct → Mem → Option (AOut × Mem) := execF X F_f77 0 (sR (sL (sR (sR (sR (sR (sR c_f77))))))) K_f77_5 P_f77
noncomputable def K_f77_7 : AAct → Mem → Option (AOut × Mem) := execF X F_f77 4 (sR (sB (sB (sL (sL (sR (sL (sR (sR (sR (sR c_f77))))))))))) L_f77_4 B_f77_4
noncomputable def K_f77_8 : AAct → Mem → Option (AOut × Mem) := execF X F_f77 4 (sR (sL (sB (sB (sL (sL (sR (sL (sR (sR (sR (sR c_f77)))))))))))) K_f77_7 B_f77_4
noncomputable def K_f77_9 : AAct → Mem → Option (AOut × Mem) := execF X F_f77 0 (sR (sR (sR (sL (sR (sL (sR (sR (sR c_f77))))))))) K_f77_0 P_f77
noncomputable def K_f77_10 : AAct → Mem → Option (AOut × Mem) := execF X F_f77 0 (sR (sB (sB (sL (sL (sR (sL (sR (sR (sR c_f77)))))))))) L_f77_0 B_f77_0
noncomputable def K_f77_11 : AAct → Mem → Option (AOut × Mem) := execF X F_f77 0 (sR (sL (sB (sB (sL (sL (sR (sL (sR (sR (sR c_f77))))))))))) K_f77_10 B_f77_0
noncomputable def K_f77_12 : AAct → Mem → Option (AOut × Mem) := execF X F_f77 0 (sR (sR (sR (sR (sR (sR (sR (sR c_f77)))))))) N_f77 P_f77
noncomputable def B_f77_8 : AExit → AAct → Mem → Option (AOut × Mem) := blockX 8 K_f77_12 P_f77
noncomputable def L_f77_8 : AAct → Mem → Option (AOut × Mem) := fun a m => killF (X.lk F_f77 8) a.tmps fun l => loopK X F_f77 8 (sB (sB (sR (sL (sR (sR (sR (sR (sR (sR (sR c_f77))))))))))) B_f77_8 ⟨l, a.defers⟩ m
noncomputable def K_f77_13 : AAct → Mem → Option (AOut × Mem) := execF X F_f77 0 (sR (sL (sR (sL (sR (sR (sR (sR (sR c_f77))))))))) K_f77_5 P_f77
noncomputable def B_f77_6 : AExit → AAct → Mem → Option (AOut × Mem) := blockX 6 K_f77_13 P_f77
noncomputable def L_f77_6 : AAct → Mem → Option (AOut × Mem) := fun a m => killF (X.lk F_f77 6) a.tmps fun l => loopK X F_f77 6 (sB (sB (sL (sL (sR (sL (sR (sR (sR (sR (sR c_f77))))))))))) B_f77_6 ⟨l, a.defers⟩ m
noncomputable def K_f77_14 : AAct → Mem → Option (AOut × Mem) := execF X F_f77 0 (sR (sR (sR (sR (sL (sR (sL (sR (sR (sR c_f77)))))))))) K_f77_0 P_f77
noncomputable def K_f77_15 : AAct → Mem → Option (AOut × Mem) := execF X F_f77 8 (sR (sB (sB (sR (sL (sR (sR (sR (sR (sR (sR (sR c_f77)))))))))))) L_f77_8 B_f77_8
noncomputable def K_f77_16 : AAct → Mem → Option (AOut × Mem) := execF X F_f77 6 (sR (sB (sB (sL (sL (sR (sL (sR (sR (sR (sR (sR c_f77)))))))))))) L_f77_6 B_f77_6
noncomputable def K_f77_17 : AAct → Mem → Option (AOut × Mem) := execF X F_f77 6 (sR (sL (sB (sB (sL (sL (sR (sL (sR (sR (sR (sR (sR c_f77))))))))))))) K_f77_16 B_f77_6
noncomputable def K_f77_18 : AAct → Mem → Option (AOut × Mem) := execF X F_f77 0 (sR (sR (sR (sR (sR (sR (sL (sR (sL (sR (sR (sR c_f77)))))))))))) K_f77_0 P_f77
noncomputable def B_f77_2 : AExit → AAct → Mem → Option (AOut × Mem) := blockX 2 K_f77_18 P_f77
noncomputable def L_f77_2 : AAct → Mem → Option (AOut × Mem) := fun a m => killF (X.lk F_f77 2) a.tmps fun l => loopK X F_f77 2 (sB (sB (sR (sL (sR (sR (sR (sR (sR (sL (sR (sL (sR (sR (sR c_f77))))))))))))))) B_f77_2 ⟨l, a.defers⟩ m
noncomputable def K_f77_19 : AAct → Mem → Option (AOut × Mem) := execF X F_f77 8 (sR (sR (sB (sB (sR (sL (sR (sR (sR (sR (sR (sR (sR c_f77))))))))))))) L_f77_8 B_f77_8
noncomputable def K_f77_20 : AAct → Mem → Option (AOut × Mem) := execF X F_f77 2 (sR (sB (sB (sR (sL (sR (sR (sR (sR (sR (sL (sR (sL (sR (sR (sR c_f77)))))))))))))))) L_f77_2 B_f77_2
noncomputable def K_f77_21 : AAct → Mem → Option (AOut × Mem) := execF X F_f77 2 (sR (sR (sB (sB (sR (sL (sR (sR (sR (sR (sR (sL (sR (sL (sR (sR (sR c_f77))))))))))))))))) L_f77_2 B_f77_2
noncomputable def k_f77_0 (v0 v1 v6 v7 : AV) (m : Mem) : Option (AOut × Mem) := K_f77_0 ⟨[v0, v1, Q, Q, Q, Q, v6, v7, Q, Q, Q, Q, Q, Q, Q, Q, Q, Q, Q, Q, Q, Q, Q, Q, Q, Q, Q, Q, Q, Q, Q, Q, Q, Q, Q, Q, Q, Q, Q, Q, Q, Q, Q, Q, Q, Q, Q, Q, Q, Q, Q, Q, Q, Q, Q, Q, Q, Q, Q, Q, Q, Q, Q, Q, Q, Q, Q, Q, Q, Q, Q, Q, Q, Q, Q, Q, Q, Q, Q, Q, Q, Q, Q, Q, Q, Q, Q, Q, Q, Q, Q, Q, Q, Q, Q, Q, Q, Q, Q, Q, Q, Q, Q, Q, Q, Q, Q, Q, Q, Q, Q, Q, Q, Q, Q, Q, Q, Q, Q, Q, Q, Q, Q, Q, Q, Q, Q, Q, Q, Q, Q, Q, Q, Q, Q, Q, Q, Q, Q, Q, Q, Q, Q, Q, Q, Q, Q, Q, Q, Q, Q, Q, Q, Q, Q, Q, Q, Q, Q, Q, Q, Q, Q], []⟩ m
noncomputable def k_f77_1 (v0 v1 v6 v7 v27 : AV) (m : Mem) : Option (AOut × Mem) := K_f77_1 ⟨[v0, v1, Q, Q, Q, Q, v6, v7, Q, Q, Q, Q, Q, Q, Q, Q, Q, Q, Q, Q, Q, Q, Q, Q, Q, Q, Q, v27, Q, Q, Q, Q, Q, Q, Q, Q, Q, Q, Q, Q, Q, Q, Q, Q, Q, Q, Q, Q, Q, Q, Q, Q, Q, Q, Q, Q, Q, Q, Q, Q, Q, Q, Q, Q, Q, Q, Q, Q, Q, Q, Q, Q, Q, Q, Q, Q, Q, Q, Q, Q, Q, Q, Q, Q, Q, Q, Q, Q, Q, Q, Q, Q, Q, Q, Q, Q, Q, Q, Q, Q, Q, Q, Q, Q, Q, Q, Q, Q, Q, Q, Q, Q, Q, Q, Q, Q, Q, Q, Q, Q, Q, Q, Q, Q, Q, Q, Q, Q, Q, Q, Q, Q, Q, Q, Q, Q, Q, Q, Q, Q, Q, Q, Q, Q, Q, Q, Q, Q, Q, Q, Q, Q, Q, Q, Q, Q, Q, Q, Q, Q, Q, Q, Q], []⟩ m
noncomputable def k_f77_2 (v0 v1 v6 v7 : AV) (m : Mem) : Option (AOut × Mem) := K_f77_2 ⟨[v0, v1, Q, Q, Q, Q, v6, v7, Q, Q, Q, Q, Q, Q, Q, Q, Q, Q, Q, Q, Q, Q, Q, Q, Q, Q, Q, Q, Q, Q, Q, Q, Q, Q, Q, Q, Q, Q, Q, Q, Q, Q, Q, Q, Q, Q, Q, Q, Q, Q, Q, Q, Q, Q, Q, Q, Q, Q, Q, Q, Q, Q, Q, Q, Q, Q, Q, Q, Q, Q, Q, Q, Q, Q, Q, Q, Q, Q, Q, Q, Q, Q, Q, Q, Q, Q, Q, Q, Q, Q, Q, Q, Q, Q, Q, Q, Q, Q, Q, Q, Q, Q, Q, Q, Q, Q, Q, Q, Q, Q, Q, Q, Q, Q, Q, Q, Q, Q, Q, Q, Q, Q, Q, Q, Q, Q, Q, Q, Q, Q, Q, Q, Q, Q, Q, Q, Q, Q, Q, Q, Q, Q, Q, Q, Q, Q, Q, Q, Q, Q, Q, Q, Q, Q, Q, Q, Q, Q, Q, Q, Q, Q, Q], []⟩ m
noncomputable def k_f77_3 (v0 v7 : AV) (m : Mem) : Option (AOut × Mem) := K_f77_3 ⟨[v0, Q, Q, Q, Q, Q, Q, v7, Q, Q, Q, Q, Q, Q, Q, Q, Q, Q, Q, Q, Q, Q, Q, Q, Q, Q, Q, Q, Q, Q, Q, Q, Q, Q, Q, Q, Q, Q, Q, Q, Q, Q, Q, Q, Q, Q, Q, Q, Q, Q, Q, Q, Q, Q, Q, Q, Q, Q, Q, Q, Q, Q, Q, Q, Q, Q, Q, Q, Q, Q, Q, Q, Q, Q, Q, Q, Q, Q, Q, Q, Q, Q, Q, Q, Q, Q, Q, Q, Q, Q, Q, Q, Q, Q, Q, Q, Q, Q, Q, Q, Q, Q, Q, Q, Q, Q, Q, Q, Q, Q, Q, Q, Q, Q, Q, Q, Q, Q, Q, Q, Q, Q, Q, Q, Q, Q, Q, Q, Q, Q, Q, Q, Q, Q, Q, Q, Q, Q, Q, Q, Q, Q, Q, Q, Q, Q, Q, Q, Q, Q, Q, Q, Q, Q, Q, Q, Q, Q, Q, Q, Q, Q, Q], []⟩ m
noncomputable def l_f77_4 (v0 v7 : AV) (m : Mem) : Option (AOut × Mem) := L_f77_4 ⟨[v0, Q, Q, Q, Q, Q, Q, v7, Q, Q, Q, Q, Q, Q, Q, Q, Q, Q, Q, Q, Q, Q, Q, Q, Q, Q, Q, Q, Q, Q, Q, Q, Q, Q, Q, Q, Q, Q, Q, Q, Q, Q, Q, Q, Q, Q, Q, Q, Q, Q, Q, Q, Q, Q, Q, Q, Q, Q, Q, Q, Q, Q, Q, Q, Q, Q, Q, Q, Q, Q, Q, Q, Q, Q, Q, Q, Q, Q, Q, Q, Q, Q, Q, Q, Q, Q, Q, Q, Q, Q, Q, Q, Q, Q, Q, Q, Q, Q, Q, Q, Q, Q, Q, Q, Q, Q, Q, Q, Q, Q, Q, Q, Q, Q, Q, Q, Q, Q, Q, Q, Q, Q, Q, Q, Q, Q, Q, Q, Q, Q, Q, Q, Q, Q, Q, Q, Q, Q, Q, Q, Q, Q, Q, Q, Q, Q, Q, Q, Q, Q, Q, Q, Q, Q, Q, Q, Q, Q, Q, Q, Q, Q, Q], []⟩ m
noncomputable def k_f77_4 (v0 v1 v6 v7 : AV) (m : Mem) : Option (AOut × Mem) := K_f77_4 ⟨[v0, v1, Q, Q, Q, Q, v6, v7, Q, Q, Q, Q, Q, Q, Q, Q, Q, Q, Q, Q, Q, Q, Q, Q, Q, Q, Q, Q, Q, Q, Q, Q, Q, Q, Q, Q, Q, Q, Q, Q, Q, Q, Q, Q, Q, Q, Q, Q, Q, Q, Q, Q, Q, Q, Q, Q, Q, Q, Q, Q, Q, Q, Q, Q, Q, Q, Q, Q, Q, Q, Q, Q, Q, Q, Q, Q, Q, Q, Q, Q, Q, Q, Q, Q, Q, Q, Q, Q, Q, Q, Q, Q, Q, Q, Q, Q, Q, Q, Q, Q, Q, Q, Q, Q, Q, Q, Q, Q, Q, Q, Q, Q, Q, Q, Q, Q, Q, Q, Q, Q, Q, Q, Q, Q, Q, Q, Q, Q, Q, Q, Q, Q, Q, Q, Q, Q, Q, Q, Q, Q, Q, Q, Q, Q, Q, Q, Q, Q, Q, Q, Q, Q, Q, Q, Q, Q, Q, Q, Q, Q, Q, Q, Q], []⟩ m
noncomputable def l_f77_0 (v0 v1 v6 v7 : AV) (m : Mem) : Option (AOut × Mem) := L_f77_0 ⟨[v0, v1, Q, Q, Q, Q, v6, v7, Q, Q, Q, Q, Q, Q, Q, Q, Q, Q, Q, Q, Q, Q, Q, Q, Q, Q, Q, Q, Q, Q, Q, Q, Q, Q, Q, Q, Q, Q, Q, Q, Q, Q, Q, Q, Q, Q, Q, Q, Q, Q, Q, Q, Q, Q, Q, Q, Q, Q, Q, Q, Q, Q, Q, Q, Q, Q, Q, Q, Q, Q, Q, Q, Q, Q, Q, Q, Q, Q, Q, Q, Q, Q, Q, Q, Q, Q, Q, Q, Q, Q, Q, Q, Q, Q, Q, Q, Q, Q, Q, Q, Q, Q, Q, Q, Q, Q, Q, Q, Q, Q, Q, Q, Q, Q, Q, Q, Q, Q, Q, Q, Q, Q, Q, Q, Q, Q, Q, Q, Q, Q, Q, Q, Q, Q, Q, Q, Q, Q, Q, Q, Q, Q, Q, Q, Q, Q, Q, Q, Q, Q, Q, Q, Q, Q, Q, Q, Q, Q, Q, Q, Q, Q, Q], []⟩ m
noncomputable def k_f77_5 (v0 v1 v7 : AV) (m : Mem) : Option (AOut × Mem) := K_f77_5 ⟨[v0, v1, Q, Q, Q, Q, Q, v7, Q, Q, Q, Q, Q, Q, Q, Q, Q, Q, Q, Q, Q, Q, Q, Q, Q, Q, Q, Q, Q, Q, Q, Q, Q, Q, Q, Q, Q, Q, Q, Q, Q, Q, Q, Q, Q, Q, Q, Q, Q, Q, Q, Q, Q, Q, Q, Q, Q, Q, Q, Q, Q, Q, Q, Q, Q, Q, Q, Q, Q, Q, Q, Q, Q, Q, Q, Q, Q, Q, Q, Q, Q, Q, Q, Q, Q, Q, Q, Q, Q, Q, Q, Q, Q, Q, Q, Q, Q, Q, Q, Q, Q, Q, Q, Q, Q, Q, Q, Q, Q, Q, Q, Q, Q, Q, Q, Q, Q, Q, Q, Q, Q, Q, Q, Q, Q, Q, Q, Q, Q, Q, Q, Q, Q, Q, Q, Q, Q, Q, Q, Q, Q, Q, Q, Q, Q, Q, Q, Q, Q, Q, Q, Q, Q, Q, Q, Q, Q, Q, Q, Q, Q, Q, Q], []⟩ m
noncomputable def k_f77_6 (v0 v1 v7 v114 : AV) (m : Mem) : Option (AOut × Mem) := K_f77_6 ⟨[v0, v1, Q, Q, Q, Q, Q, v7, Q, Q, Q, Q, Q, Q, Q, Q, Q, Q, Q, Q, Q, Q, Q, Q, Q, Q, Q, Q, Q, Q, Q, Q, Q, Q, Q, Q, Q, Q, Q, Q, Q, Q, Q, Q, Q, Q, Q, Q, Q, Q, Q, Q, Q, Q, Q, Q, Q, Q, Q, Q, Q, Q, Q, Q, Q, Q, Q, Q, Q, Q, Q, Q, Q, Q, Q, Q, Q, Q, Q, Q, Q, Q, Q, Q, Q, Q, Q, Q, Q, Q, Q, Q, Q, Q, Q, Q, Q, Q, Q, Q, Q, Q, Q, Q, Q, Q, Q, Q, Q, Q, Q, Q, Q, Q, v114, Q, Q, Q, Q, Q, Q, Q, Q, Q, Q, Q, Q, Q, Q, Q, Q, Q, Q, Q, Q, Q, Q, Q, Q, Q, Q, Q, Q, Q, Q, Q, Q, Q, Q, Q, Q, Q, Q, Q, Q, Q, Q, Q, Q, Q, Q, Q, Q], []⟩ m
noncomputable def k_f77_7 (v0 v7 : AV) (m : Mem) : Option (AOut × Mem) := K_f77_7 ⟨[v0, Q, Q, Q, Q, Q, Q, v7, Q, Q, Q, Q, Q, Q, Q, Q, Q, Q, Q, Q, Q, Q, Q, Q, Q, Q, Q, Q, Q, Q, Q, Q, Q, Q, Q, Q, Q, Q, Q, Q, Q, Q, Q, Q, Q, Q, Q, Q, Q, Q, Q, Q, Q, Q, Q, Q, Q, Q, Q, Q, Q, Q, Q, Q, Q, Q, Q, Q, Q, Q, Q, Q, Q, Q, Q, Q, Q, Q, Q, Q, Q, Q, Q, Q, Q, Q, Q, Q, Q, Q, Q, Q, Q, Q, Q, Q, Q, Q, Q, Q, Q, Q, Q, Q, Q, Q, Q, Q, Q, Q, Q, Q, Q, Q, Q, Q, Q, Q, Q, Q, Q, Q, Q, Q, Q, Q, Q, Q, Q, Q, Q, Q, Q, Q, Q, Q, Q, Q, Q, Q, Q, Q, Q, Q, Q, Q, Q, Q, Q, Q, Q, Q, Q, Q, Q, Q, Q, Q, Q, Q, Q, Q, Q], []⟩ m
noncomputable def k_f77_8 (v0 v7 v97 : AV) (m : Mem) : Option (AOut × Mem) := K_f77_8 ⟨[v0, Q, Q, Q, Q, Q, Q, v7, Q, Q, Q, Q, Q, Q, Q, Q, Q, Q, Q, Q, Q, Q, Q, Q, Q, Q, Q, Q, Q, Q, Q, Q, Q, Q, Q, Q, Q, Q, Q, Q, Q, Q, Q, Q, Q, Q, Q, Q, Q, Q, Q, Q, Q, Q, Q, Q, Q, Q, Q, Q, Q, Q, Q, Q, Q, Q, Q, Q, Q, Q, Q, Q, Q, Q, Q, Q, Q, Q, Q, Q, Q, Q, Q, Q, Q, Q, Q, Q, Q, Q, Q, Q, Q, Q, Q, Q, Q, v97, Q, Q, Q, Q, Q, Q, Q, Q, Q, Q, Q, Q, Q, Q, Q, Q, Q, Q, Q, Q, Q, Q, Q, Q, Q, Q, Q, Q, Q, Q, Q, Q, Q, Q, Q, Q, Q, Q, Q, Q, Q, Q, Q, Q, Q, Q, Q, Q, Q, Q, Q, Q, Q, Q, Q, Q, Q, Q, Q, Q, Q, Q, Q, Q, Q], []⟩ m
noncomputable def k_f77_9 (v6 v7 v8 : AV) (m : Mem) : Option (AOut × Mem) := K_f77_9 ⟨[Q, Q, Q, Q, Q, Q, v6, v7, v8, Q, Q, Q, Q, Q, Q, Q, Q, Q, Q, Q, Q, Q, Q, Q, Q, Q, Q, Q, Q, Q, Q, Q, Q, Q, Q, Q, Q, Q, Q, Q, Q, Q, Q, Q, Q, Q, Q, Q, Q, Q, Q, Q, Q, Q, Q, Q, Q, Q, Q, Q, Q, Q, Q, Q, Q, Q, Q, Q, Q, Q, Q, Q, Q, Q, Q, Q, Q, Q, Q, Q, Q, Q, Q, Q, Q, Q, Q, Q, Q, Q, Q, Q, Q, Q, Q, Q, Q, Q, Q, Q, Q, Q, Q, Q, Q, Q, Q, Q, Q, Q, Q, Q, Q, Q, Q, Q, Q, Q, Q, Q, Q, Q, Q, Q, Q, Q, Q, Q, Q, Q, Q, Q, Q, Q, Q, Q, Q, Q, Q, Q, Q, Q, Q, Q, Q, Q, Q, Q, Q, Q, Q, Q, Q, Q, Q, Q, Q, Q, Q, Q, Q, Q, Q], []⟩ m
noncomputable def k_f77_10 (v0 v1 v6 v7 : AV) (m : Mem) : Option (AOut × Mem) := K_f77_10 ⟨[v0, v1, Q, Q, Q, Q, v6, v7, Q, Q, Q, Q, Q, Q, Q, Q, Q, Q, Q, Q, Q, Q, Q, Q, Q, Q, Q, Q, Q, Q, Q, Q, Q, Q, Q, Q, Q, Q, Q, Q, Q, Q, Q, Q, Q, Q, Q, Q, Q, Q, Q, Q, Q, Q, Q, Q, Q, Q, Q, Q, Q, Q, Q, Q, Q, Q, Q, Q, Q, Q, Q, Q, Q, Q, Q, Q, Q, Q, Q, Q, Q, Q, Q, Q, Q, Q, Q, Q, Q, Q, Q, Q, Q, Q, Q, Q, Q, Q, Q, Q, Q, Q, Q, Q, Q, Q, Q, Q, Q, Q, Q, Q, Q, Q, Q, Q, Q, Q, Q, Q, Q, Q, Q, Q, Q, Q, Q, Q, Q, Q, Q, Q, Q, Q, Q, Q, Q, Q, Q, Q, Q, Q, Q, Q, Q, Q, Q, Q, Q, Q, Q, Q, Q, Q, Q, Q, Q, Q, Q, Q, Q, Q, Q], []⟩ m
noncomputable def k_f77_11 (v0 v1 v6 v7 v61 : AV) (m : Mem) : Option (AOut × Mem) := K_f77_11 ⟨[v0, v1, Q, Q, Q, Q, v6, v7, Q, Q, Q, Q, Q, Q, Q, Q, Q, Q, Q, Q, Q, Q, Q, Q, Q, Q, Q, Q, Q, Q, Q, Q, Q, Q, Q, Q, Q, Q, Q, Q, Q, Q, Q, Q, Q, Q, Q, Q, Q, Q, Q, Q, Q, Q, Q, Q, Q, Q, Q, Q, Q, v61, Q, Q, Q, Q, Q, Q, Q, Q, Q, Q, Q, Q, Q, Q, Q, Q, Q, Q, Q, Q, Q, Q, Q, Q, Q, Q, Q, Q, Q, Q, Q, Q, Q, Q, Q, Q, Q, Q, Q, Q, Q, Q, Q, Q, Q, Q, Q, Q, Q, Q, Q, Q, Q, Q, Q, Q, Q, Q, Q, Q, Q, Q, Q, Q, Q, Q, Q, Q, Q, Q, Q, Q, Q, Q, Q, Q, Q, Q, Q, Q, Q, Q, Q, Q, Q, Q, Q, Q, Q, Q, Q, Q, Q, Q, Q, Q, Q, Q, Q, Q, Q], []⟩ m
noncomputable def k_f77_12 (v0 v1 v11 v12 : AV) (m : Mem) : Option (AOut × Mem) := K_f77_12 ⟨[v0, v1, Q, Q, Q, Q, Q, Q, Q, Q, Q, v11, v12, Q, Q, Q, Q, Q, Q, Q, Q, Q, Q, Q, Q, Q, Q, Q, Q, Q, Q, Q, Q, Q, Q, Q, Q, Q, Q, Q, Q, Q, Q, Q, Q, Q, Q, Q, Q, Q, Q, Q, Q, Q, Q, Q, Q, Q, Q, Q, Q, Q, Q, Q, Q, Q, Q, Q, Q, Q, Q, Q, Q, Q, Q, Q, Q, Q, Q, Q, Q, Q, Q, Q, Q, Q, Q, Q, Q, Q, Q, Q, Q, Q, Q, Q, Q, Q, Q, Q, Q, Q, Q, Q, Q, Q, Q, Q, Q, Q, Q, Q, Q, Q, Q, Q, Q, Q, Q, Q, Q, Q, Q, Q, Q, Q, Q, Q, Q, Q, Q, Q, Q, Q, Q, Q, Q, Q, Q, Q, Q, Q, Q, Q, Q, Q, Q, Q, Q, Q, Q, Q, Q, Q, Q, Q, Q, Q, Q, Q, Q, Q, Q], []⟩ m
noncomputable def l_f77_8 (v0 v1 v11 v12 : AV) (m : Mem) : Option (AOut × Mem) := L_f77_8 ⟨[v0, v1, Q, Q, Q, Q, Q, Q, Q, Q, Q, v11, v12, Q, Q, Q, Q, Q, Q, Q, Q, Q, Q, Q, Q, Q, Q, Q, Q, Q, Q, Q, Q, Q, Q, Q, Q, Q, Q, Q, Q, Q, Q, Q, Q, Q, Q, Q, Q, Q, Q, Q, Q, Q, Q, Q, Q, Q, Q, Q, Q, Q, Q, Q, Q, Q, Q, Q, Q, Q, Q, Q, Q, Q, Q, Q, Q, Q, Q, Q, Q, Q, Q, Q, Q, Q, Q, Q, Q, Q, Q, Q, Q, Q, Q, Q, Q, Q, Q, Q, Q, Q, Q, Q, Q, Q, Q, Q, Q, Q, Q, Q, Q, Q, Q, Q, Q, Q, Q, Q, Q, Q, Q, Q, Q, Q, Q, Q, Q, Q, Q, Q, Q, Q, Q, Q, Q, Q, Q, Q, Q, Q, Q, Q, Q, Q, Q, Q, Q, Q, Q, Q, Q, Q, Q, Q, Q, Q, Q, Q, Q, Q, Q], []⟩ m
noncomputable def k_f77_13 (v0 v7 : AV) (m : Mem) : Option (AOut × Mem) := K_f77_13 ⟨[v0, Q, Q, Q, Q, Q, Q, v7, Q, Q, Q, Q, Q, Q, Q, Q, Q, Q, Q, Q, Q, Q, Q, Q, Q, Q, Q, Q, Q, Q, Q, Q, Q, Q, Q, Q, Q, Q, Q, Q, Q, Q, Q, Q, Q, Q, Q, Q, Q, Q, Q, Q, Q, Q, Q, Q, Q, Q, Q, Q, Q, Q, Q, Q, Q, Q, Q, Q, Q, Q, Q, Q, Q, Q, Q, Q, Q, Q, Q, Q, Q, Q, Q, Q, Q, Q, Q, Q, Q, Q, Q, Q, Q, Q, Q, Q, Q, Q, Q, Q, Q, Q, Q, Q, Q, Q, Q, Q, Q, Q, Q, Q, Q, Q, Q, Q, Q, Q, Q, Q, Q, Q, Q, Q, Q, Q, Q, Q, Q, Q, Q, Q, Q, Q, Q, Q, Q, Q, Q, Q, Q, Q, Q, Q, Q, Q, Q, Q, Q, Q, Q, Q, Q, Q, Q, Q, Q, Q, Q, Q, Q, Q, Q], []⟩ m
noncomputable def l_f77_6 (v0 v7 : AV) (m : Mem) : Option (AOut × Mem) := L_f77_6 ⟨[v0, Q, Q, Q, Q, Q, Q, v7, Q, Q, Q, Q, Q, Q, Q, Q, Q, Q, Q, Q, Q, Q, Q, Q, Q, Q, Q, Q, Q, Q, Q, Q, Q, Q, Q, Q, Q, Q, Q, Q, Q, Q, Q, Q, Q, Q, Q, Q, Q, Q, Q, Q, Q, Q, Q, Q, Q, Q, Q, Q, Q, Q, Q, Q, Q, Q, Q, Q, Q, Q, Q, Q, Q, Q, Q, Q, Q, Q, Q, Q, Q, Q, Q, Q, Q, Q, Q, Q, Q, Q, Q, Q, Q, Q, Q, Q, Q, Q, Q, Q, Q, Q, Q, Q, Q, Q, Q, Q, Q, Q, Q, Q, Q, Q, Q, Q, Q, Q, Q, Q, Q, Q, Q, Q, Q, Q, Q, Q, Q, Q, Q, Q, Q, Q, Q, Q, Q, Q, Q, Q, Q, Q, Q, Q, Q, Q, Q, Q, Q, Q, Q, Q, Q, Q, Q, Q, Q, Q, Q, Q, Q, Q, Q], []⟩ m
noncomputable def k_f77_14 (v7 v8 : AV) (m : Mem) : Option (AOut × Mem) := K_f77_14 ⟨[Q, Q, Q, Q, Q, Q, Q, v7, v8, Q, Q, Q, Q, Q, Q, Q, Q, Q, Q, Q, Q, Q, Q, Q, Q, Q, Q, Q, Q, Q, Q, Q, Q, Q, Q, Q, Q, Q, Q, Q, Q, Q, Q, Q, Q, Q, Q, Q, Q, Q, Q, Q, Q, Q, Q, Q, Q, Q, Q, Q, Q, Q, Q, Q, Q, Q, Q, Q, Q, Q, Q, Q, Q, Q, Q, Q, Q, Q, Q, Q, Q, Q, Q, Q, Q, Q, Q, Q, Q, Q, Q, Q, Q, Q, Q, Q, Q, Q, Q, Q, Q, Q, Q, Q, Q, Q, Q, Q, Q, Q, Q, Q, Q, Q, Q, Q, Q, Q, Q, Q, Q, Q, Q, Q, Q, Q, Q, Q, Q, Q, Q, Q, Q, Q, Q, Q, Q, Q, Q, Q, Q, Q, Q, Q, Q, Q, Q, Q, Q, Q, Q, Q, Q, Q, Q, Q, Q, Q, Q, Q, Q, Q, Q], []⟩ m
noncomputable def k_f77_15 (v0 v1 v11 v12 : AV) (m : Mem) : Option (AOut × Mem) := K_f77_15 ⟨[v0, v1, Q, Q, Q, Q, Q, Q, Q, Q, Q, v11, v12, Q, Q, Q, Q, Q, Q, Q, Q, Q, Q, Q, Q, Q, Q, Q, Q, Q, Q, Q, Q, Q, Q, Q, Q, Q, Q, Q, Q, Q, Q, Q, Q, Q, Q, Q, Q, Q, Q, Q, Q, Q, Q, Q, Q, Q, Q, Q, Q, Q, Q, Q, Q, Q, Q, Q, Q, Q, Q, Q, Q, Q, Q, Q, Q, Q, Q, Q, Q, Q, Q, Q, Q, Q, Q, Q, Q, Q, Q, Q, Q, Q, Q, Q, Q, Q, Q, Q, Q, Q, Q, Q, Q, Q, Q, Q, Q, Q, Q, Q, Q, Q, Q, Q, Q, Q, Q, Q, Q, Q, Q, Q, Q, Q, Q, Q, Q, Q, Q, Q, Q, Q, Q, Q, Q, Q, Q, Q, Q, Q, Q, Q, Q, Q, Q, Q, Q, Q, Q, Q, Q, Q, Q, Q, Q, Q, Q, Q, Q, Q, Q], []⟩ m
noncomputable def k_f77_16 (v0 v7 : AV) (m : Mem) : Option (AOut × Mem) := K_f77_16 ⟨[v0, Q, Q, Q, Q, Q, Q, v7, Q, Q, Q, Q, Q, Q, Q, Q, Q, Q, Q, Q, Q, Q, Q, Q, Q, Q, Q, Q, Q, Q, Q, Q, Q, Q, Q, Q, Q, Q, Q, Q, Q, Q, Q, Q, Q, Q, Q, Q, Q, Q, Q, Q, Q, Q, Q, Q, Q, Q, Q, Q, Q, Q, Q, Q, Q, Q, Q, Q, Q, Q, Q, Q, Q, Q, Q, Q, Q, Q, Q, Q, Q, Q, Q, Q, Q, Q, Q, Q, Q, Q, Q, Q, Q, Q, Q, Q, Q, Q, Q, Q, Q, Q, Q, Q, Q, Q, Q, Q, Q, Q, Q, Q, Q, Q, Q, Q, Q, Q, Q, Q, Q, Q, Q, Q, Q, Q, Q, Q, Q, Q, Q, Q, Q, Q, Q, Q, Q, Q, Q, Q, Q, Q, Q, Q, Q, Q, Q, Q, Q, Q, Q, Q, Q, Q, Q, Q, Q, Q, Q, Q, Q, Q, Q], []⟩ m
noncomputable def k_f77_17 (v0 v7 v142 : AV) (m : Mem) : Option (AOut × Mem) := K_f77_17 ⟨[v0, Q, Q, Q, Q, Q, Q, v7, Q, Q, Q, Q, Q, Q, Q, Q, Q, Q, Q, Q, Q, Q, Q, Q, Q, Q, Q, Q, Q, Q, Q, Q, Q, Q, Q, Q, Q, Q, Q, Q, Q, Q, Q, Q, Q, Q, Q, Q, Q, Q, Q, Q, Q, Q, Q, Q, Q, Q, Q, Q, Q, Q, Q, Q, Q, Q, Q, Q, Q, Q, Q, Q, Q, Q, Q, Q, Q, Q, Q, Q, Q, Q, Q, Q, Q, Q, Q, Q, Q, Q, Q, Q, Q, Q, Q, Q, Q, Q, Q, Q, Q, Q, Q, Q, Q, Q, Q, Q, Q, Q, Q, Q, Q, Q, Q, Q, Q, Q, Q, Q, Q, Q, Q, Q, Q, Q, Q, Q, Q, Q, Q, Q, Q, Q, Q, Q, Q, Q, Q, Q, Q, Q, v142, Q, Q, Q, Q, Q, Q, Q, Q, Q, Q, Q, Q, Q, Q, Q, Q, Q, Q, Q, Q], []⟩ m
noncomputable def k_f77_18 (v7 v8 v9 v10 : AV) (m : Mem) : Option (AOut × Mem) := K_f77_18 ⟨[Q, Q, Q, Q, Q, Q, Q, v7, v8, v9, v10, Q, Q, Q, Q, Q, Q, Q, Q, Q, Q, Q, Q, Q, Q, Q, Q, Q, Q, Q, Q, Q, Q, Q, Q, Q, Q, Q, Q, Q, Q, Q, Q, Q, Q, Q, Q, Q, Q, Q, Q, Q, Q, Q, Q, Q, Q, Q, Q, Q, Q, Q, Q, Q, Q, Q, Q, Q, Q, Q, Q, Q, Q, Q, Q, Q, Q, Q, Q, Q, Q, Q, Q, Q, Q, Q, Q, Q, Q, Q, Q, Q, Q, Q, Q, Q, Q, Q, Q, Q, Q, Q, Q, Q, Q, Q, Q, Q, Q, Q, Q, Q, Q, Q, Q, Q, Q, Q, Q, Q, Q, Q, Q, Q, Q, Q, Q, Q, Q, Q, Q, Q, Q, Q, Q, Q, Q, Q, Q, Q, Q, Q, Q, Q, Q, Q, Q, Q, Q, Q, Q, Q, Q, Q, Q, Q, Q, Q, Q, Q, Q, Q, Q], []⟩ m
noncomputable def l_f77_2 (v7 v8 v9 v10 : AV) (m : Mem) : Option (AOut × Mem) := L_f77_2 ⟨[Q, Q, Q, Q, Q, Q, Q, v7, v8, v9, v10, Q, Q, Q, Q, Q, Q, Q, Q, Q, Q, Q, Q, Q, Q, Q, Q, Q, Q, Q, Q, Q, Q, Q, Q, Q, Q, Q, Q, Q, Q, Q, Q, Q, Q, Q, Q, Q, Q, Q, Q, Q, Q, Q, Q, Q, Q, Q, Q, Q, Q, Q, Q, Q, Q, Q, Q, Q, Q, Q, Q, Q, Q, Q, Q, Q, Q, Q, Q, Q, Q, Q, Q, Q, Q, Q, Q, Q, Q, Q, Q, Q, Q, Q, Q, Q, Q, Q, Q, Q, Q, Q, Q, Q, Q, Q, Q, Q, Q, Q, Q, Q, Q, Q, Q, Q, Q, Q, Q, Q, Q, Q, Q, Q, Q, Q, Q, Q, Q, Q, Q, Q, Q, Q, Q, Q, Q, Q, Q, Q, Q, Q, Q, Q, Q, Q, Q, Q, Q, Q, Q, Q, Q, Q, Q, Q, Q, Q, Q, Q, Q, Q, Q], []⟩ m
noncomputable def k_f77_19 (v0 v1 v11 v12 : AV) (m : Mem) : Option (AOut × Mem) := K_f77_19 ⟨[v0, v1, Q, Q, Q, Q, Q, Q, Q, Q, Q, v11, v12, Q, Q, Q, Q, Q, Q, Q, Q, Q, Q, Q, Q, Q, Q, Q, Q, Q, Q, Q, Q, Q, Q, Q, Q, Q, Q, Q, Q, Q, Q, Q, Q, Q, Q, Q, Q, Q, Q, Q, Q, Q, Q, Q, Q, Q, Q, Q, Q, Q, Q, Q, Q, Q, Q, Q, Q, Q, Q, Q, Q, Q, Q, Q, Q, Q, Q, Q, Q, Q, Q, Q, Q, Q, Q, Q, Q, Q, Q, Q, Q, Q, Q, Q, Q, Q, Q, Q, Q, Q, Q, Q, Q, Q, Q, Q, Q, Q, Q, Q, Q, Q, Q, Q, Q, Q, Q, Q, Q, Q, Q, Q, Q, Q, Q, Q, Q, Q, Q, Q, Q, Q, Q, Q, Q, Q, Q, Q, Q, Q, Q, Q, Q, Q, Q, Q, Q, Q, Q, Q, Q, Q, Q, Q, Q, Q, Q, Q, Q, Q, Q], []⟩ m
noncomputable def k_f77_20 (v7 v8 v9 v10 : AV) (m : Mem) : Option (AOut × Mem) := K_f77_20 ⟨[Q, Q, Q, Q, Q, Q, Q, v7, v8, v9, v10, Q, Q, Q, Q, Q, Q, Q, Q, Q, Q, Q, Q, Q, Q, Q, Q, Q, Q, Q, Q, Q, Q, Q, Q, Q, Q, Q, Q, Q, Q, Q, Q, Q, Q, Q, Q, Q, Q, Q, Q, Q, Q, Q, Q, Q, Q, Q, Q, Q, Q, Q, Q, Q, Q, Q, Q, Q, Q, Q, Q, Q, Q, Q, Q, Q, Q, Q, Q, Q, Q, Q, Q, Q, Q, Q, Q, Q, Q, Q, Q, Q, Q, Q, Q, Q, Q, Q, Q, Q, Q, Q, Q, Q, Q, Q, Q, Q, Q, Q, Q, Q, Q, Q, Q, Q, Q, Q, Q, Q, Q, Q, Q, Q, Q, Q, Q, Q, Q, Q, Q, Q, Q, Q, Q, Q, Q, Q, Q, Q, Q, Q, Q, Q, Q, Q, Q, Q, Q, Q, Q, Q, Q, Q, Q, Q, Q, Q, Q, Q, Q, Q, Q], []⟩ m
noncomputable def k_f77_21 (v7 v8 v9 v10 : AV) (m : Mem) : Option (AOut × Mem) := K_f77_21 ⟨[Q, Q, Q, Q, Q, Q, Q, v7, v8, v9, v10, Q, Q, Q, Q, Q, Q, Q, Q, Q, Q, Q, Q, Q, Q, Q, Q, Q, Q, Q, Q, Q, Q, Q, Q, Q, Q, Q, Q, Q, Q, Q, Q, Q, Q, Q, Q, Q, Q, Q, Q, Q, Q, Q, Q, Q, Q, Q, Q, Q, Q, Q, Q, Q, Q, Q, Q, Q, Q, Q, Q, Q, Q, Q, Q, Q, Q, Q, Q, Q, Q, Q, Q, Q, Q, Q, Q, Q, Q, Q, Q, Q, Q, Q, Q, Q, Q, Q, Q, Q, Q, Q, Q, Q, Q, Q, Q, Q, Q, Q, Q, Q, Q, Q, Q, Q, Q, Q, Q, Q, Q, Q, Q, Q, Q, Q, Q, Q, Q, Q, Q, Q, Q, Q, Q, Q, Q, Q, Q, Q, Q, Q, Q, Q, Q, Q, Q, Q, Q, Q, Q, Q, Q, Q, Q, Q, Q, Q, Q, Q, Q, Q, Q], []⟩ m
theorem e_f77 (v0 v1 : AV) (m : Mem) : w_f77 v0 v1 m =
  bnd (rIxStr v0 v1) fun v15 =>
  bnd (aBin X.T .add T_int false true v1 (.int .i64 1)) fun v17 =>
  retK (w_f91 v15 m) (fun v19 m1 =>
  onWant v19
    (k_f77_1 v0 v1 v15 v17 (.bool true) m1)
    (retK (w_f92 v15 m1) (fun v22 m2 =>
  onWant v22
    (k_f77_1 v0 v1 v15 v17 (.bool true) m2)
    (bnd (aBin X.T .eql T_uint8 false true v15 (.int .u8 95)) fun v26 =>
  k_f77_1 v0 v1 v15 v17 v26 m2)
    (none)) (fun u m2 => some (.pan u, m2)))
    (none)) (fun u m1 => some (.pan u, m1)) := (aW_F (c := c_f77) (fn := Try.f77) (by kernel_rfl) (by kernel_rfl) (by kernel_rfl) _ m).trans (by kernel_rfl)
theorem k_f77_0_eq (v0 v1 v6 v7 : AV) (m : Mem) : k_f77_0 v0 v1 v6 v7 m =
  retK (w_f93 v6 m) (fun v87 m1 =>
  onBool v87
    (l_f77_4 v0 v7 m1)
    (k_f77_2 v0 v1 v6 v7 m1)) (fun u m1 => some (.pan u, m1)) := by kernel_rfl
theorem k_f77_1_eq (v0 v1 v6 v7 v27 : AV) (m : Mem) : k_f77_1 v0 v1 v6 v7 v27 m =
  onBool v27
    (l_f77_0 v0 v1 v6 v7 m)
    (k_f77_0 v0 v1 v6 v7 m) := by kernel_rfl
theorem k_f77_2_eq (v0 v1 v6 v7 : AV) (m : Mem) : k_f77_2 v0 v1 v6 v7 m =
  bnd (aBin X.T .eql T_uint8 false true v6 (.int .u8 39)) fun v102 =>
  onWant v102
    (bnd (rLenStr v0) fun v106 =>
  bnd (aBin X.T .lss T_int false false v7 v106) fun v107 =>
  onWant v107
    (bnd (rIxStr v0 v7) fun v112 =>
  retK (w_f91 v112 m) (fun v113 m1 =>
  k_f77_6 v0 v1 v7 v113 m1) (fun u m1 => some (.pan u, m1)))
    (k_f77_6 v0 v1 v7 (.bool false) m)
    (none))
    (k_f77_6 v0 v1 v7 (.bool false) m)
    (none) := by kernel_rfl
theorem k_f77_3_eq (v0 v7 : AV) (m : Mem) : k_f77_3 v0 v7 m =
  some (.ret (.tup [(.int .i64 3), v7]), m) := by kernel_rfl
theorem l_f77_4_u (v0 v7 : AV) (m : Mem) : l_f77_4 v0 v7 m = loopK X F_f77 4 (sB (sB (sL (sL (sR (sL (sR (sR (sR (sR c_f77)))))))))) B_f77_4 ⟨[v0, Q, Q, Q, Q, Q, Q, v7, Q, Q, Q, Q, Q, Q, Q, Q, Q, Q, Q, Q, Q, Q, Q, Q, Q, Q, Q, Q, Q, Q, Q, Q, Q, Q, Q, Q, Q, Q, Q, Q, Q, Q, Q, Q, Q, Q, Q, Q, Q, Q, Q, Q, Q, Q, Q, Q, Q, Q, Q, Q, Q, Q, Q, Q, Q, Q, Q, Q, Q, Q, Q, Q, Q, Q, Q, Q, Q, Q, Q, Q, Q, Q, Q, Q, Q, Q, Q, Q, Q, Q, Q, Q, Q, Q, Q, Q, Q, Q, Q, Q, Q, Q, Q, Q, Q, Q, Q, Q, Q, Q, Q, Q, Q, Q, Q, Q, Q, Q, Q, Q, Q, Q, Q, Q, Q, Q, Q, Q, Q, Q, Q, Q, Q, Q, Q, Q, Q, Q, Q, Q, Q, Q, Q, Q, Q, Q, Q, Q, Q, Q, Q, Q, Q, Q, Q, Q, Q, Q, Q, Q, Q, Q, Q], []⟩ m := by kernel_rfl
theorem l_f77_4_r (v0 v7 : AV) (m : Mem) : roundF X F_f77 4 (sB (sB (sL (sL (sR (sL (sR (sR (sR (sR c_f77)))))))))) B_f77_4 [v0, Q, Q, Q, Q, Q, Q, v7, Q, Q, Q, Q, Q, Q, Q, Q, Q, Q, Q, Q, Q, Q, Q, Q, Q, Q, Q, Q, Q, Q, Q, Q, Q, Q, Q, Q, Q, Q, Q, Q, Q, Q, Q, Q, Q, Q, Q, Q, Q, Q, Q, Q, Q, Q, Q, Q, Q, Q, Q, Q, Q, Q, Q, Q, Q, Q, Q, Q, Q, Q, Q, Q, Q, Q, Q, Q, Q, Q, Q, Q, Q, Q, Q, Q, Q, Q, Q, Q, Q, Q, Q, Q, Q, Q, Q, Q, Q, Q, Q, Q, Q, Q, Q, Q, Q, Q, Q, Q, Q, Q, Q, Q, Q, Q, Q, Q, Q, Q, Q, Q, Q, Q, Q, Q, Q, Q, Q, Q, Q, Q, Q, Q, Q, Q, Q, Q, Q, Q, Q, Q, Q, Q, Q, Q, Q, Q, Q, Q, Q, Q, Q, Q, Q, Q, Q, Q, Q, Q, Q, Q, Q, Q, Q] m =
  bnd (rLenStr v0) fun v90 =>
  bnd (aBin X.T .lss T_int false false v7 v90) fun v91 =>
  onWant v91
    (bnd (rIxStr v0 v7) fun v95 =>
  retK (w_f93 v95 m) (fun v96 m1 =>
  k_f77_8 v0 v7 v96 m1) (fun u m1 => some (.pan u, m1)))
    (k_f77_8 v0 v7 (.bool false) m)
    (none) := by kernel_rfl
theorem l_f77_4_eq (v0 v7 : AV) (m : Mem) : l_f77_4 v0 v7 m =
  bnd (rLenStr v0) fun v90 =>
  bnd (aBin X.T .lss T_int false false v7 v90) fun v91 =>
  onWant v91
    (bnd (rIxStr v0 v7) fun v95 =>
  retK (w_f93 v95 m) (fun v96 m1 =>
  k_f77_8 v0 v7 v96 m1) (fun u m1 => some (.pan u, m1)))
    (k_f77_8 v0 v7 (.bool false) m)
    (none) := roundF_of (l_f77_4_u v0 v7 m) (l_f77_4_r v0 v7 m)
theorem k_f77_4_eq (v0 v1 v6 v7 : AV) (m : Mem) : k_f77_4 v0 v1 v6 v7 m =
  bnd (rSliceStr v0 (some v1) (some v7)) fun v67 =>
  bnd (aBin X.T .eql T_string false true v67 (.str (bs [95]))) fun v69 =>
  onBool v69
    (some (.ret (.tup [(.int .i64 6), v7]), m))
    (k_f77_9 v6 v7 v67 m) := by kernel_rfl
theorem l_f77_0_u (v0 v1 v6 v7 : AV) (m : Mem) : l_f77_0 v0 v1 v6 v7 m = loopK X F_f77 0 (sB (sB (sL (sL (sR (sL (sR (sR (sR c_f77))))))))) B_f77_0 ⟨[v0, v1, Q, Q, Q, Q, v6, v7, Q, Q, Q, Q, Q, Q, Q, Q, Q, Q, Q, Q, Q, Q, Q, Q, Q, Q, Q, Q, Q, Q, Q, Q, Q, Q, Q, Q, Q, Q, Q, Q, Q, Q, Q, Q, Q, Q, Q, Q, Q, Q, Q, Q, Q, Q, Q, Q, Q, Q, Q, Q, Q, Q, Q, Q, Q, Q, Q, Q, Q, Q, Q, Q, Q, Q, Q, Q, Q, Q, Q, Q, Q, Q, Q, Q, Q, Q, Q, Q, Q, Q, Q, Q, Q, Q, Q, Q, Q, Q, Q, Q, Q, Q, Q, Q, Q, Q, Q, Q, Q, Q, Q, Q, Q, Q, Q, Q, Q, Q, Q, Q, Q, Q, Q, Q, Q, Q, Q, Q, Q, Q, Q, Q, Q, Q, Q, Q, Q, Q, Q, Q, Q, Q, Q, Q, Q, Q, Q, Q, Q, Q, Q, Q, Q, Q, Q, Q, Q, Q, Q, Q, Q, Q, Q], []⟩ m := by kernel_rfl
theorem l_f77_0_r (v0 v1 v6 v7 : AV) (m : Mem) : roundF X F_f77 0 (sB (sB (sL (sL (sR (sL (sR (sR (sR c_f77))))))))) B_f77_0 [v0, v1, Q, Q, Q, Q, v6, v7, Q, Q, Q, Q, Q, Q, Q, Q, Q, Q, Q, Q, Q, Q, Q, Q, Q, Q, Q, Q, Q, Q, Q, Q, Q, Q, Q, Q, Q, Q, Q, Q, Q, Q, Q, Q, Q, Q, Q, Q, Q, Q, Q, Q, Q, Q, Q, Q, Q, Q, Q, Q, Q, Q, Q, Q, Q, Q, Q, Q, Q, Q, Q, Q, Q, Q, Q, Q, Q, Q, Q, Q, Q, Q, Q, Q, Q, Q, Q, Q, Q, Q, Q, Q, Q, Q, Q, Q, Q, Q, Q, Q, Q, Q, Q, Q, Q, Q, Q, Q, Q, Q, Q, Q, Q, Q, Q, Q, Q, Q, Q, Q, Q, Q, Q, Q, Q, Q, Q, Q, Q, Q, Q, Q, Q, Q, Q, Q, Q, Q, Q, Q, Q, Q, Q, Q, Q, Q, Q, Q, Q, Q, Q, Q, Q, Q, Q, Q, Q, Q, Q, Q, Q, Q, Q] m =
  bnd (rLenStr v0) fun v30 =>
  bnd (aBin X.T .lss T_int false false v7 v30) fun v31 =>
  onWant v31
    (bnd (rIxStr v0 v7) fun v35 =>
  retK (w_f91 v35 m) (fun v36 m1 =>
  onWant v36
    (k_f77_11 v0 v1 v6 v7 (.bool true) m1)
    (bnd (rIxStr v0 v7) fun v40 =>
  retK (w_f92 v40 m1) (fun v41 m2 =>
  onWant v41
    (k_f77_11 v0 v1 v6 v7 (.bool true) m2)
    (bnd (rIxStr v0 v7) fun v46 =>
  retK (w_f93 v46 m2) (fun v47 m3 =>
  onWant v47
    (k_f77_11 v0 v1 v6 v7 (.bool true) m3)
    (bnd (rIxStr v0 v7) fun v52 =>
  bnd (aBin X.T .eql T_uint8 false true v52 (.int .u8 95)) fun v53 =>
  onWant v53
    (k_f77_11 v0 v1 v6 v7 (.bool true) m3)
    (bnd (rIxStr v0 v7) fun v58 =>
  bnd (aBin X.T .eql T_uint8 false true v58 (.int .u8 39)) fun v59 =>
  k_f77_11 v0 v1 v6 v7 v59 m3)
    (none))
    (none)) (fun u m3 => some (.pan u, m3)))
    (none)) (fun u m2 => some (.pan u, m2)))
    (none)) (fun u m1 => some (.pan u, m1)))
    (k_f77_11 v0 v1 v6 v7 (.bool false) m)
    (none) := by kernel_rfl
theorem l_f77_0_eq (v0 v1 v6 v7 : AV) (m : Mem) : l_f77_0 v0 v1 v6 v7 m =
  bnd (rLenStr v0) fun v30 =>
  bnd (aBin X.T .lss T_int false false v7 v30) fun v31 =>
  onWant v31
    (bnd (rIxStr v0 v7) fun v35 =>
  retK (w_f91 v35 m) (fun v36 m1 =>
  onWant v36
    (k_f77_11 v0 v1 v6 v7 (.bool true) m1)
    (bnd (rIxStr v0 v7) fun v40 =>
  retK (w_f92 v40 m1) (fun v41 m2 =>
  onWant v41
    (k_f77_11 v0 v1 v6 v7 (.bool true) m2)
    (bnd (rIxStr v0 v7) fun v46 =>
  retK (w_f93 v46 m2) (fun v47 m3 =>
  onWant v47
    (k_f77_11 v0 v1 v6 v7 (.bool true) m3)
    (bnd (rIxStr v0 v7) fun v52 =>
  bnd (aBin X.T .eql T_uint8 false true v52 (.int .u8 95)) fun v53 =>
  onWant v53
    (k_f77_11 v0 v1 v6 v7 (.bool true) m3)
    (bnd (rIxStr v0 v7) fun v58 =>
  bnd (aBin X.T .eql T_uint8 false true v58 (.int .u8 39)) fun v59 =>
  k_f77_11 v0 v1 v6 v7 v59 m3)
    (none))
    (none)) (fun u m3 => some (.pan u, m3)))
    (none)) (fun u m2 => some (.pan u, m2)))
    (none)) (fun u m1 => some (.pan u, m1)))
    (k_f77_11 v0 v1 v6 v7 (.bool false) m)
    (none) := roundF_of (l_f77_0_u v0 v1 v6 v7 m) (l_f77_0_r v0 v1 v6 v7 m)
theorem k_f77_5_eq (v0 v1 v7 : AV) (m : Mem) : k_f77_5 v0 v1 v7 m =
  retK (w_f95 m) (fun v146 m1 =>
  memK (aBox m1 (.agg [.str (bs []), .str (bs []), .str (bs []), .str (bs []), .str (bs []), .str (bs []), .str (bs []), .str (bs []), .str (bs []), .str (bs []), .str (bs []), .str (bs []), .str (bs [])])) fun v11 m2 =>
  bnd (rStore 13 m2 v11 v146) fun m3 =>
  l_f77_8 v0 v1 v11 (.int .i64 0) m3) (fun u m1 => some (.pan u, m1)) := by kernel_rfl
theorem k_f77_6_eq (v0 v1 v7 v114 : AV) (m : Mem) : k_f77_6 v0 v1 v7 v114 m =
  onBool v114
    (l_f77_6 v0 v7 m)
    (k_f77_5 v0 v1 v7 m) := by kernel_rfl
theorem k_f77_7_eq (v0 v7 : AV) (m : Mem) : k_f77_7 v0 v7 m =
  bnd (aBin X.T .add T_int false true v7 (.int .i64 1)) fun v99 =>
  l_f77_4 v0 v99 m := by kernel_rfl
theorem k_f77_8_eq (v0 v7 v97 : AV) (m : Mem) : k_f77_8 v0 v7 v97 m =
  onBool v97
    (k_f77_7 v0 v7 m)
    (k_f77_3 v0 v7 m) := by kernel_rfl
theorem k_f77_9_eq (v6 v7 v8 : AV) (m : Mem) : k_f77_9 v6 v7 v8 m =
  retK (w_f92 v6 m) (fun v72 m1 =>
  onBool v72
    (some (.ret (.tup [(.int .i64 2), v7]), m1))
    (k_f77_14 v7 v8 m1)) (fun u m1 => some (.pan u, m1)) := by kernel_rfl
theorem k_f77_10_eq (v0 v1 v6 v7 : AV) (m : Mem) : k_f77_10 v0 v1 v6 v7 m =
  bnd (aBin X.T .add T_int false true v7 (.int .i64 1)) fun v63 =>
  l_f77_0 v0 v1 v6 v63 m := by kernel_rfl
theorem k_f77_11_eq (v0 v1 v6 v7 v61 : AV) (m : Mem) : k_f77_11 v0 v1 v6 v7 v61 m =
  onBool v61
    (k_f77_10 v0 v1 v6 v7 m)
    (k_f77_4 v0 v1 v6 v7 m) := by kernel_rfl
theorem k_f77_12_eq (v0 v1 v11 v12 : AV) (m : Mem) : k_f77_12 v0 v1 v11 v12 m =
  some (.ret (.tup [(.int .i64 0), (.int .i64 0)]), m) := by kernel_rfl
theorem l_f77_8_u (v0 v1 v11 v12 : AV) (m : Mem) : l_f77_8 v0 v1 v11 v12 m = loopK X F_f77 8 (sB (sB (sR (sL (sR (sR (sR (sR (sR (sR (sR c_f77))))))))))) B_f77_8 ⟨[v0, v1, Q, Q, Q, Q, Q, Q, Q, Q, Q, v11, v12, Q, Q, Q, Q, Q, Q, Q, Q, Q, Q, Q, Q, Q, Q, Q, Q, Q, Q, Q, Q, Q, Q, Q, Q, Q, Q, Q, Q, Q, Q, Q, Q, Q, Q, Q, Q, Q, Q, Q, Q, Q, Q, Q, Q, Q, Q, Q, Q, Q, Q, Q, Q, Q, Q, Q, Q, Q, Q, Q, Q, Q, Q, Q, Q, Q, Q, Q, Q, Q, Q, Q, Q, Q, Q, Q, Q, Q, Q, Q, Q, Q, Q, Q, Q, Q, Q, Q, Q, Q, Q, Q, Q, Q, Q, Q, Q, Q, Q, Q, Q, Q, Q, Q, Q, Q, Q, Q, Q, Q, Q, Q, Q, Q, Q, Q, Q, Q, Q, Q, Q, Q, Q, Q, Q, Q, Q, Q, Q, Q, Q, Q, Q, Q, Q, Q, Q, Q, Q, Q, Q, Q, Q, Q, Q, Q, Q, Q, Q, Q, Q], []⟩ m := by kernel_rfl
theorem l_f77_8_r (v0 v1 v11 v12 : AV) (m : Mem) : roundF X F_f77 8 (sB (sB (sR (sL (sR (sR (sR (sR (sR (sR (sR c_f77))))))))))) B_f77_8 [v0, v1, Q, Q, Q, Q, Q, Q, Q, Q, Q, v11, v12, Q, Q, Q, Q, Q, Q, Q, Q, Q, Q, Q, Q, Q, Q, Q, Q, Q, Q, Q, Q, Q, Q, Q, Q, Q, Q, Q, Q, Q, Q, Q, Q, Q, Q, Q, Q, Q, Q, Q, Q, Q, Q, Q, Q, Q, Q, Q, Q, Q, Q, Q, Q, Q, Q, Q, Q, Q, Q, Q, Q, Q, Q, Q, Q, Q, Q, Q, Q, Q, Q, Q, Q, Q, Q, Q, Q, Q, Q, Q, Q, Q, Q, Q, Q, Q, Q, Q, Q, Q, Q, Q, Q, Q, Q, Q, Q, Q, Q, Q, Q, Q, Q, Q, Q, Q, Q, Q, Q, Q, Q, Q, Q, Q, Q, Q, Q, Q, Q, Q, Q, Q, Q, Q, Q, Q, Q, Q, Q, Q, Q, Q, Q, Q, Q, Q, Q, Q, Q, Q, Q, Q, Q, Q, Q, Q, Q, Q, Q, Q, Q] m =
  bnd (aBin X.T .lss T_int false true v12 (.int .i64 13)) fun v148 =>
  onBool v148
    (k_f77_15 v0 v1 v11 v12 m)
    (k_f77_12 v0 v1 v11 v12 m) := by kernel_rfl
theorem l_f77_8_eq (v0 v1 v11 v12 : AV) (m : Mem) : l_f77_8 v0 v1 v11 v12 m =
  bnd (aBin X.T .lss T_int false true v12 (.int .i64 13)) fun v148 =>
  onBool v148
    (k_f77_15 v0 v1 v11 v12 m)
    (k_f77_12 v0 v1 v11 v12 m) := roundF_of (l_f77_8_u v0 v1 v11 v12 m) (l_f77_8_r v0 v1 v11 v12 m)
theorem k_f77_13_eq (v0 v7 : AV) (m : Mem) : k_f77_13 v0 v7 m =
  some (.ret (.tup [(.int .i64 4), v7]), m) := by kernel_rfl
theorem l_f77_6_u (v0 v7 : AV) (m : Mem) : l_f77_6 v0 v7 m = loopK X F_f77 6 (sB (sB (sL (sL (sR (sL (sR (sR (sR (sR (sR c_f77))))))))))) B_f77_6 ⟨[v0, Q, Q, Q, Q, Q, Q, v7, Q, Q, Q, Q, Q, Q, Q, Q, Q, Q, Q, Q, Q, Q, Q, Q, Q, Q, Q, Q, Q, Q, Q, Q, Q, Q, Q, Q, Q, Q, Q, Q, Q, Q, Q, Q, Q, Q, Q, Q, Q, Q, Q, Q, Q, Q, Q, Q, Q, Q, Q, Q, Q, Q, Q, Q, Q, Q, Q, Q, Q, Q, Q, Q, Q, Q, Q, Q, Q, Q, Q, Q, Q, Q, Q, Q, Q, Q, Q, Q, Q, Q, Q, Q, Q, Q, Q, Q, Q, Q, Q, Q, Q, Q, Q, Q, Q, Q, Q, Q, Q, Q, Q, Q, Q, Q, Q, Q, Q, Q, Q, Q, Q, Q, Q, Q, Q, Q, Q, Q, Q, Q, Q, Q, Q, Q, Q, Q, Q, Q, Q, Q, Q, Q, Q, Q, Q, Q, Q, Q, Q, Q, Q, Q, Q, Q, Q, Q, Q, Q, Q, Q, Q, Q, Q], []⟩ m := by kernel_rfl
theorem l_f77_6_r (v0 v7 : AV) (m : Mem) : roundF X F_f77 6 (sB (sB (sL (sL (sR (sL (sR (sR (sR (sR (sR c_f77))))))))))) B_f77_6 [v0, Q, Q, Q, Q, Q, Q, v7, Q, Q, Q, Q, Q, Q, Q, Q, Q, Q, Q, Q, Q, Q, Q, Q, Q, Q, Q, Q, Q, Q, Q, Q, Q, Q, Q, Q, Q, Q, Q, Q, Q, Q, Q, Q, Q, Q, Q, Q, Q, Q, Q, Q, Q, Q, Q, Q, Q, Q, Q, Q, Q, Q, Q, Q, Q, Q, Q, Q, Q, Q, Q, Q, Q, Q, Q, Q, Q, Q, Q, Q, Q, Q, Q, Q, Q, Q, Q, Q, Q, Q, Q, Q, Q, Q, Q, Q, Q, Q, Q, Q, Q, Q, Q, Q, Q, Q, Q, Q, Q, Q, Q, Q, Q, Q, Q, Q, Q, Q, Q, Q, Q, Q, Q, Q, Q, Q, Q, Q, Q, Q, Q, Q, Q, Q, Q, Q, Q, Q, Q, Q, Q, Q, Q, Q, Q, Q, Q, Q, Q, Q, Q, Q, Q, Q, Q, Q, Q, Q, Q, Q, Q, Q, Q] m =
  bnd (rLenStr v0) fun v117 =>
  bnd (aBin X.T .lss T_int false false v7 v117) fun v118 =>
  onWant v118
    (bnd (rIxStr v0 v7) fun v122 =>
  retK (w_f91 v122 m) (fun v123 m1 =>
  onWant v123
    (k_f77_17 v0 v7 (.bool true) m1)
    (bnd (rIxStr v0 v7) fun v127 =>
  retK (w_f92 v127 m1) (fun v128 m2 =>
  onWant v128
    (k_f77_17 v0 v7 (.bool true) m2)
    (bnd (rIxStr v0 v7) fun v133 =>
  retK (w_f93 v133 m2) (fun v134 m3 =>
  onWant v134
    (k_f77_17 v0 v7 (.bool true) m3)
    (bnd (rIxStr v0 v7) fun v139 =>
  bnd (aBin X.T .eql T_uint8 false true v139 (.int .u8 95)) fun v140 =>
  k_f77_17 v0 v7 v140 m3)
    (none)) (fun u m3 => some (.pan u, m3)))
    (none)) (fun u m2 => some (.pan u, m2)))
    (none)) (fun u m1 => some (.pan u, m1)))
    (k_f77_17 v0 v7 (.bool false) m)
    (none) := by kernel_rfl
theorem l_f77_6_eq (v0 v7 : AV) (m : Mem) : l_f77_6 v0 v7 m =
  bnd (rLenStr v0) fun v117 =>
  bnd (aBin X.T .lss T_int false false v7 v117) fun v118 =>
  onWant v118
    (bnd (rIxStr v0 v7) fun v122 =>
  retK (w_f91 v122 m) (fun v123 m1 =>
  onWant v123
    (k_f77_17 v0 v7 (.bool true) m1)
    (bnd (rIxStr v0 v7) fun v127 =>
  retK (w_f92 v127 m1) (fun v128 m2 =>
  onWant v128
    (k_f77_17 v0 v7 (.bool true) m2)
    (bnd (rIxStr v0 v7) fun v133 =>
  retK (w_f93 v133 m2) (fun v134 m3 =>
  onWant v134
    (k_f77_17 v0 v7 (.bool true) m3)
    (bnd (rIxStr v0 v7) fun v139 =>
  bnd (aBin X.T .eql T_uint8 false true v139 (.int .u8 95)) fun v140 =>
  k_f77_17 v0 v7 v140 m3)
    (none)) (fun u m3 => some (.pan u, m3)))
    (none)) (fun u m2 => some (.pan u, m2)))
    (none)) (fun u m1 => some (.pan u, m1)))
    (k_f77_17 v0 v7 (.bool false) m)
    (none) := roundF_of (l_f77_6_u v0 v7 m) (l_f77_6_r v0 v7 m)
theorem k_f77_14_eq (v7 v8 : AV) (m : Mem) : k_f77_14 v7 v8 m =
  retK (w_f94 m) (fun v74 m1 =>
  memK (aBox m1 (.agg [.str (bs []), .str (bs []), .str (bs []), .str (bs []), .str (bs []), .str (bs []), .str (bs []), .str (bs []), .str (bs []), .str (bs []), .str (bs []), .str (bs []), .str (bs [])])) fun v9 m2 =>
  bnd (rStore 13 m2 v9 v74) fun m3 =>
  l_f77_2 v7 v8 v9 (.int .i64 0) m3) (fun u m1 => some (.pan u, m1)) := by kernel_rfl
theorem k_f77_15_eq (v0 v1 v11 v12 : AV) (m : Mem) : k_f77_15 v0 v1 v11 v12 m =
  bnd (rIxAddrArr 13 1 v11 v12) fun v154 =>
  bnd (rLoad false 1 m v154) fun v155 =>
  retK (w_f75 v0 v1 v155 m) (fun v156 m1 =>
  onBool v156
    (bnd (rIxAddrArr 13 1 v11 v12) fun v159 =>
    bnd (rLoad false 1 m1 v159) fun v160 =>
    bnd (rLenStr v160) fun v161 =>
    bnd (aBin X.T .add T_int false false v1 v161) fun v162 =>
    some (.ret (.tup [(.int .i64 6), v162]), m1))
    (k_f77_19 v0 v1 v11 v12 m1)) (fun u m1 => some (.pan u, m1)) := by kernel_rfl
theorem k_f77_16_eq (v0 v7 : AV) (m : Mem) : k_f77_16 v0 v7 m =
  bnd (aBin X.T .add T_int false true v7 (.int .i64 1)) fun v144 =>
  l_f77_6 v0 v144 m := by kernel_rfl
theorem k_f77_17_eq (v0 v7 v142 : AV) (m : Mem) : k_f77_17 v0 v7 v142 m =
  onBool v142
    (k_f77_16 v0 v7 m)
    (k_f77_13 v0 v7 m) := by kernel_rfl
theorem k_f77_18_eq (v7 v8 v9 v10 : AV) (m : Mem) : k_f77_18 v7 v8 v9 v10 m =
  some (.ret (.tup [(.int .i64 1), v7]), m) := by kernel_rfl
theorem l_f77_2_u (v7 v8 v9 v10 : AV) (m : Mem) : l_f77_2 v7 v8 v9 v10 m = loopK X F_f77 2 (sB (sB (sR (sL (sR (sR (sR (sR (sR (sL (sR (sL (sR (sR (sR c_f77))))))))))))))) B_f77_2 ⟨[Q, Q, Q, Q, Q, Q, Q, v7, v8, v9, v10, Q, Q, Q, Q, Q, Q, Q, Q, Q, Q, Q, Q, Q, Q, Q, Q, Q, Q, Q, Q, Q, Q, Q, Q, Q, Q, Q, Q, Q, Q, Q, Q, Q, Q, Q, Q, Q, Q, Q, Q, Q, Q, Q, Q, Q, Q, Q, Q, Q, Q, Q, Q, Q, Q, Q, Q, Q, Q, Q, Q, Q, Q, Q, Q, Q, Q, Q, Q, Q, Q, Q, Q, Q, Q, Q, Q, Q, Q, Q, Q, Q, Q, Q, Q, Q, Q, Q, Q, Q, Q, Q, Q, Q, Q, Q, Q, Q, Q, Q, Q, Q, Q, Q, Q, Q, Q, Q, Q, Q, Q, Q, Q, Q, Q, Q, Q, Q, Q, Q, Q, Q, Q, Q, Q, Q, Q, Q, Q, Q, Q, Q, Q, Q, Q, Q, Q, Q, Q, Q, Q, Q, Q, Q, Q, Q, Q, Q, Q, Q, Q, Q, Q], []⟩ m := by kernel_rfl
theorem l_f77_2_r (v7 v8 v9 v10 : AV) (m : Mem) : roundF X F_f77 2 (sB (sB (sR (sL (sR (sR (sR (sR (sR (sL (sR (sL (sR (sR (sR c_f77))))))))))))))) B_f77_2 [Q, Q, Q, Q, Q, Q, Q, v7, v8, v9, v10, Q, Q, Q, Q, Q, Q, Q, Q, Q, Q, Q, Q, Q, Q, Q, Q, Q, Q, Q, Q, Q, Q, Q, Q, Q, Q, Q, Q, Q, Q, Q, Q, Q, Q, Q, Q, Q, Q, Q, Q, Q, Q, Q, Q, Q, Q, Q, Q, Q, Q, Q, Q, Q, Q, Q, Q, Q, Q, Q, Q, Q, Q, Q, Q, Q, Q, Q, Q, Q, Q, Q, Q, Q, Q, Q, Q, Q, Q, Q, Q, Q, Q, Q, Q, Q, Q, Q, Q, Q, Q, Q, Q, Q, Q, Q, Q, Q, Q, Q, Q, Q, Q, Q, Q, Q, Q, Q, Q, Q, Q, Q, Q, Q, Q, Q, Q, Q, Q, Q, Q, Q, Q, Q, Q, Q, Q, Q, Q, Q, Q, Q, Q, Q, Q, Q, Q, Q, Q, Q, Q, Q, Q, Q, Q, Q, Q, Q, Q, Q, Q, Q, Q] m =
  bnd (aBin X.T .lss T_int false true v10 (.int .i64 13)) fun v76 =>
  onBool v76
    (k_f77_20 v7 v8 v9 v10 m)
    (k_f77_18 v7 v8 v9 v10 m) := by kernel_rfl
theorem l_f77_2_eq (v7 v8 v9 v10 : AV) (m : Mem) : l_f77_2 v7 v8 v9 v10 m =
  bnd (aBin X.T .lss T_int false true v10 (.int .i64 13)) fun v76 =>
  onBool v76
    (k_f77_20 v7 v8 v9 v10 m)
    (k_f77_18 v7 v8 v9 v10 m) := roundF_of (l_f77_2_u v7 v8 v9 v10 m) (l_f77_2_r v7 v8 v9 v10 m)
theorem k_f77_19_eq (v0 v1 v11 v12 : AV) (m : Mem) : k_f77_19 v0 v1 v11 v12 m =
  bnd (aBin X.T .add T_int false true v12 (.int .i64 1)) fun v150 =>
  l_f77_8 v0 v1 v11 v150 m := by kernel_rfl
theorem k_f77_20_eq (v7 v8 v9 v10 : AV) (m : Mem) : k_f77_20 v7 v8 v9 v10 m =
  bnd (rIxAddrArr 13 1 v9 v10) fun v80 =>
  bnd (rLoad false 1 m v80) fun v81 =>
  bnd (aBin X.T .eql T_string false false v81 v8) fun v83 =>
  onBool v83
    (some (.ret (.tup [(.int .i64 5), v7]), m))
    (k_f77_21 v7 v8 v9 v10 m) := by kernel_rfl
theorem k_f77_21_eq (v7 v8 v9 v10 : AV) (m : Mem) : k_f77_21 v7 v8 v9 v10 m =
  bnd (aBin X.T .add T_int false true v10 (.int .i64 1)) fun v78 =>
  l_f77_2 v7 v8 v9 v78 m := by kernel_rfl
noncomputable def c_f78 : Code := bodyOf Try.f78
theorem e_f78 (v0 v1 : AV) (m : Mem) : w_f78 v0 v1 m =
  memK (aBox m v0) fun v2 m1 =>
  memK (aBox m1 v1) fun v3 m2 =>
  memK (aBox m2 (.agg [.nils])) fun v4 m3 =>
  bnd (rFieldAddr 3 v3) fun v6 =>
  bnd (rStore 1 m3 v6 (.int .i64 (-1))) fun m4 =>
  bnd (rFieldAddr 2 v3) fun v7 =>
  bnd (rLoad false 1 m4 v7) fun v8 =>
  retK (w_f24 v8 m4) (fun v9 m5 =>
  bnd (rFieldAddr 2 v3) fun v10 =>
  bnd (rStore 1 m5 v10 v9) fun m6 =>
  bnd (rFieldAddr 0 v2) fun v11 =>
  bnd (rLoad false 1 m6 v11) fun v12 =>
  bnd (rLoad true 4 m6 v3) fun v13 =>
  bnd (rBuildSlice A_r13_Node 1 [(0, v13)]) fun v14 =>
  memK (rAppend A_r13_Node 1 m6 v12 v14) fun v15 m7 =>
  bnd (rFieldAddr 0 v2) fun v16 =>
  bnd (rStore 1 m7 v16 v15) fun m8 =>
  bnd (rLoad true 1 m8 v2) fun v17 =>
  bnd (rFieldAddr 0 v2) fun v18 =>
  bnd (rLoad false 1 m8 v18) fun v19 =>
  bnd (rLenSl v19) fun v20 =>
  bnd (aBin X.T .sub T_int false true v20 (.int .i64 1)) fun v21 =>
  bnd (rStore 1 m8 v4 v17) fun m9 =>
  bnd (rLoad false 1 m9 v18) fun u =>
  sameK u v19 <|
  bnd (rLoad true 1 m9 v4) fun vr0 =>
  some (.ret (.tup [vr0, v21]), m9)) (fun u m5 => some (.pan u, m5)) := (aW_F (c := c_f78) (fn := Try.f78) (by kernel_rfl) (by kernel_rfl) (by kernel_rfl) _ m).trans (by kernel_rfl)
end Go.AM
