/-
  A part of the proof: equations or tables of the program over the abstract machine, printed by a program of this proof's own.
-/
import Derived.Test.YtcliklgiamlpeaaR1Ctx
namespace Go.AM
open Go.Proofs
set_option maxRecDepth 100000
set_option linter.unusedVariables false

/-! ### parlance/lex.Lex -/
noncomputable def c_lex_Lex : Code := bodyOf Try.f13
noncomputable def N_lex_Lex : AAct → Mem → Option (AOut × Mem) := finK X.T Try.f13.results.toList .normal
noncomputable def P_lex_Lex : AExit → AAct → Mem → Option (AOut × Mem) := finK X.T Try.f13.results.toList
noncomputable def K_lex_Lex_0 : AAct → Mem → Option (AOut × Mem) := execF X F_lex_Lex 0 (sR (sR (sR (sR (sB (sR c_lex_Lex)))))) N_lex_Lex P_lex_Lex
noncomputable def B_lex_Lex_0 : AExit → AAct → Mem → Option (AOut × Mem) := blockX 0 K_lex_Lex_0 P_lex_Lex
noncomputable def L_lex_Lex_0 : AAct → Mem → Option (AOut × Mem) := fun a m => killF (X.lk F_lex_Lex 0) a.tmps fun l => loopK X F_lex_Lex 0 (sB (sB (sL (sR (sR (sR (sB (sR c_lex_Lex)))))))) B_lex_Lex_0 ⟨l, a.defers⟩ m
noncomputable def B_lex_Lex_1 : AExit → AAct → Mem → Option (AOut × Mem) := blockX 1 L_lex_Lex_0 B_lex_Lex_0
noncomputable def K_lex_Lex_1 : AAct → Mem → Option (AOut × Mem) := execF X F_lex_Lex 1 (sR (sR (sB (sB (sB (sL (sR (sR (sR (sB (sR c_lex_Lex))))))))))) L_lex_Lex_0 B_lex_Lex_1
noncomputable def K_lex_Lex_2 : AAct → Mem → Option (AOut × Mem) := execF X F_lex_Lex 1 (sR (sR (sR (sR (sB (sB (sB (sL (sR (sR (sR (sB (sR c_lex_Lex))))))))))))) L_lex_Lex_0 B_lex_Lex_1
noncomputable def K_lex_Lex_3 : AAct → Mem → Option (AOut × Mem) := execF X F_lex_Lex 1 (sR (sR (sL (sR (sL (sR (sR (sR (sB (sB (sB (sL (sR (sR (sR (sB (sR c_lex_Lex))))))))))))))))) K_lex_Lex_2 B_lex_Lex_1
noncomputable def K_lex_Lex_4 : AAct → Mem → Option (AOut × Mem) := execF X F_lex_Lex 1 (sR (sR (sR (sR (sR (sR (sB (sB (sB (sL (sR (sR (sR (sB (sR c_lex_Lex))))))))))))))) L_lex_Lex_0 B_lex_Lex_1
noncomputable def k_lex_Lex_0 (v0 v3 v4 : AV) (m : Mem) : Option (AOut × Mem) := K_lex_Lex_0 ⟨[v0, Q, Q, v3, v4, Q, Q, Q, Q, Q, Q, Q, Q, Q, Q, Q, Q, Q, Q, Q, Q, Q, Q, Q, Q, Q, Q, Q, Q, Q, Q, Q, Q, Q, Q, Q, Q, Q, Q, Q, Q, Q, Q, Q, Q, Q, Q, Q, Q, Q, Q, Q, Q, Q, Q, Q, Q, Q, Q, Q, Q], []⟩ m
noncomputable def l_lex_Lex_0 (v0 v3 v4 : AV) (m : Mem) : Option (AOut × Mem) := L_lex_Lex_0 ⟨[v0, Q, Q, v3, v4, Q, Q, Q, Q, Q, Q, Q, Q, Q, Q, Q, Q, Q, Q, Q, Q, Q, Q, Q, Q, Q, Q, Q, Q, Q, Q, Q, Q, Q, Q, Q, Q, Q, Q, Q, Q, Q, Q, Q, Q, Q, Q, Q, Q, Q, Q, Q, Q, Q, Q, Q, Q, Q, Q, Q, Q], []⟩ m
noncomputable def k_lex_Lex_1 (v0 v3 v4 : AV) (m : Mem) : Option (AOut × Mem) := K_lex_Lex_1 ⟨[v0, Q, Q, v3, v4, Q, Q, Q, Q, Q, Q, Q, Q, Q, Q, Q, Q, Q, Q, Q, Q, Q, Q, Q, Q, Q, Q, Q, Q, Q, Q, Q, Q, Q, Q, Q, Q, Q, Q, Q, Q, Q, Q, Q, Q, Q, Q, Q, Q, Q, Q, Q, Q, Q, Q, Q, Q, Q, Q, Q, Q], []⟩ m
noncomputable def k_lex_Lex_2 (v0 v3 v4 v5 : AV) (m : Mem) : Option (AOut × Mem) := K_lex_Lex_2 ⟨[v0, Q, Q, v3, v4, v5, Q, Q, Q, Q, Q, Q, Q, Q, Q, Q, Q, Q, Q, Q, Q, Q, Q, Q, Q, Q, Q, Q, Q, Q, Q, Q, Q, Q, Q, Q, Q, Q, Q, Q, Q, Q, Q, Q, Q, Q, Q, Q, Q, Q, Q, Q, Q, Q, Q, Q, Q, Q, Q, Q, Q], []⟩ m
noncomputable def k_lex_Lex_3 (v0 v3 v4 v6 : AV) (m : Mem) : Option (AOut × Mem) := K_lex_Lex_3 ⟨[v0, Q, Q, v3, v4, Q, v6, Q, Q, Q, Q, Q, Q, Q, Q, Q, Q, Q, Q, Q, Q, Q, Q, Q, Q, Q, Q, Q, Q, Q, Q, Q, Q, Q, Q, Q, Q, Q, Q, Q, Q, Q, Q, Q, Q, Q, Q, Q, Q, Q, Q, Q, Q, Q, Q, Q, Q, Q, Q, Q, Q], []⟩ m
noncomputable def k_lex_Lex_4 (v0 v3 v4 v5 v8 v9 : AV) (m : Mem) : Option (AOut × Mem) := K_lex_Lex_4 ⟨[v0, Q, Q, v3, v4, v5, Q, Q, v8, v9, Q, Q, Q, Q, Q, Q, Q, Q, Q, Q, Q, Q, Q, Q, Q, Q, Q, Q, Q, Q, Q, Q, Q, Q, Q, Q, Q, Q, Q, Q, Q, Q, Q, Q, Q, Q, Q, Q, Q, Q, Q, Q, Q, Q, Q, Q, Q, Q, Q, Q, Q], []⟩ m
theorem e_lex_Lex (v0 : AV) (m : Mem) : w_lex_Lex v0 m =
  l_lex_Lex_0 v0 .nils (.int .i64 0) m := (aW_F (c := c_lex_Lex) (fn := Try.f13) (by kernel_rfl) (by kernel_rfl) (by kernel_rfl) _ m).trans (by kernel_rfl)
theorem k_lex_Lex_0_eq (v0 v3 v4 : AV) (m : Mem) : k_lex_Lex_0 v0 v3 v4 m =
  some (.ret v3, m) := by kernel_rfl
theorem l_lex_Lex_0_u (v0 v3 v4 : AV) (m : Mem) : l_lex_Lex_0 v0 v3 v4 m = loopK X F_lex_Lex 0 (sB (sB (sL (sR (sR (sR (sB (sR c_lex_Lex)))))))) B_lex_Lex_0 ⟨[v0, Q, Q, v3, v4, Q, Q, Q, Q, Q, Q, Q, Q, Q, Q, Q, Q, Q, Q, Q, Q, Q, Q, Q, Q, Q, Q, Q, Q, Q, Q, Q, Q, Q, Q, Q, Q, Q, Q, Q, Q, Q, Q, Q, Q, Q, Q, Q, Q, Q, Q, Q, Q, Q, Q, Q, Q, Q, Q, Q, Q], []⟩ m := by kernel_rfl
theorem l_lex_Lex_0_r (v0 v3 v4 : AV) (m : Mem) : roundF X F_lex_Lex 0 (sB (sB (sL (sR (sR (sR (sB (sR c_lex_Lex)))))))) B_lex_Lex_0 [v0, Q, Q, v3, v4, Q, Q, Q, Q, Q, Q, Q, Q, Q, Q, Q, Q, Q, Q, Q, Q, Q, Q, Q, Q, Q, Q, Q, Q, Q, Q, Q, Q, Q, Q, Q, Q, Q, Q, Q, Q, Q, Q, Q, Q, Q, Q, Q, Q, Q, Q, Q, Q, Q, Q, Q, Q, Q, Q, Q, Q] m =
  retK (w_lex_run v0 v4 (.str (bs [32, 9, 10, 13])) m) (fun v12 m1 =>
  bnd (rLenStr v0) fun v15 =>
  bnd (aBin X.T .eql T_int false false v12 v15) fun v16 =>
  onBool v16
    (k_lex_Lex_0 v0 v3 v12 m1)
    (k_lex_Lex_1 v0 v3 v12 m1)) (fun u m1 => some (.pan u, m1)) := by kernel_rfl
theorem l_lex_Lex_0_eq (v0 v3 v4 : AV) (m : Mem) : l_lex_Lex_0 v0 v3 v4 m =
  retK (w_lex_run v0 v4 (.str (bs [32, 9, 10, 13])) m) (fun v12 m1 =>
  bnd (rLenStr v0) fun v15 =>
  bnd (aBin X.T .eql T_int false false v12 v15) fun v16 =>
  onBool v16
    (k_lex_Lex_0 v0 v3 v12 m1)
    (k_lex_Lex_1 v0 v3 v12 m1)) (fun u m1 => some (.pan u, m1)) := roundF_of (l_lex_Lex_0_u v0 v3 v4 m) (l_lex_Lex_0_r v0 v3 v4 m)
theorem k_lex_Lex_1_eq (v0 v3 v4 : AV) (m : Mem) : k_lex_Lex_1 v0 v3 v4 m =
  bnd (rSliceStr v0 (some v4) none) fun v19 =>
  retK (w_strings_HasPrefix v19 (.str (bs [40, 42])) m) (fun v21 m1 =>
  onBool v21
    (retK (w_lex_remark v19 m1) (fun v24 m2 =>
    bnd (aExtract v24 0) fun v25 =>
    bnd (aExtract v24 1) fun v26 =>
    bnd (aUn .not v26) fun v28 =>
    onBool v28
      (bnd (rLenStr v0) fun v32 =>
      bnd (rBuild [.int .i64 0, .int .i64 0, .int .i64 0] [(0, 1, (.int .i64 7)), (1, 1, v4), (2, 1, v32)]) fun v33 =>
      bnd (rBuildSlice A_api_Token 1 [(0, v33)]) fun v34 =>
      memK (rAppend A_api_Token 0 m2 v3 v34) fun v35 m3 =>
      k_lex_Lex_0 .undef v35 .undef m3)
      (k_lex_Lex_3 v0 v3 v4 v25 m2)) (fun u m2 => some (.pan u, m2)))
    (k_lex_Lex_2 v0 v3 v4 v19 m1)) (fun u m1 => some (.pan u, m1)) := by kernel_rfl
theorem k_lex_Lex_2_eq (v0 v3 v4 v5 : AV) (m : Mem) : k_lex_Lex_2 v0 v3 v4 v5 m =
  retK (w_lex_one v5 m) (fun v41 m1 =>
  bnd (aExtract v41 0) fun v42 =>
  bnd (aExtract v41 1) fun v43 =>
  bnd (aBin X.T .eql T_int false true v42 (.int .i64 0)) fun v45 =>
  onBool v45
    (retK (w_lex_nothing v5 m1) (fun v47 m2 =>
    k_lex_Lex_4 v0 v3 v4 .undef (.int .i64 7) v47 m2) (fun u m2 => some (.pan u, m2)))
    (k_lex_Lex_4 v0 v3 v4 v5 v42 v43 m1)) (fun u m1 => some (.pan u, m1)) := by kernel_rfl
theorem k_lex_Lex_3_eq (v0 v3 v4 v6 : AV) (m : Mem) : k_lex_Lex_3 v0 v3 v4 v6 m =
  bnd (aBin X.T .add T_int false false v4 v6) fun v38 =>
  l_lex_Lex_0 v0 v3 v38 m := by kernel_rfl
theorem k_lex_Lex_4_eq (v0 v3 v4 v5 v8 v9 : AV) (m : Mem) : k_lex_Lex_4 v0 v3 v4 v5 v8 v9 m =
  bnd (aBin X.T .add T_int false false v4 v9) fun v53 =>
  bnd (rBuild [.int .i64 0, .int .i64 0, .int .i64 0] [(0, 1, v8), (1, 1, v4), (2, 1, v53)]) fun v54 =>
  bnd (rBuildSlice A_api_Token 1 [(0, v54)]) fun v55 =>
  memK (rAppend A_api_Token 0 m v3 v55) fun v56 m1 =>
  bnd (aBin X.T .add T_int false false v4 v9) fun v59 =>
  l_lex_Lex_0 v0 v56 v59 m1 := by kernel_rfl

/-! ### parlance/parlanceref00.SameTokens -/
noncomputable def c_r00_SameTokens : Code := bodyOf Try.f14
noncomputable def N_r00_SameTokens : AAct → Mem → Option (AOut × Mem) := finK X.T Try.f14.results.toList .normal
noncomputable def P_r00_SameTokens : AExit → AAct → Mem → Option (AOut × Mem) := finK X.T Try.f14.results.toList
noncomputable def K_r00_SameTokens_0 : AAct → Mem → Option (AOut × Mem) := execF X F_r00_SameTokens 0 (sR (sR c_r00_SameTokens)) N_r00_SameTokens P_r00_SameTokens
noncomputable def K_r00_SameTokens_1 : AAct → Mem → Option (AOut × Mem) := execF X F_r00_SameTokens 0 (sR (sR (sR c_r00_SameTokens))) N_r00_SameTokens P_r00_SameTokens
noncomputable def B_r00_SameTokens_0 : AExit → AAct → Mem → Option (AOut × Mem) := blockX 0 K_r00_SameTokens_1 P_r00_SameTokens
noncomputable def L_r00_SameTokens_0 : AAct → Mem → Option (AOut × Mem) := fun a m => killF (X.lk F_r00_SameTokens 0) a.tmps fun l => loopK X F_r00_SameTokens 0 (sB (sB (sR (sL (sR (sR c_r00_SameTokens)))))) B_r00_SameTokens_0 ⟨l, a.defers⟩ m
noncomputable def K_r00_SameTokens_2 : AAct → Mem → Option (AOut × Mem) := execF X F_r00_SameTokens 0 (sR (sB (sB (sR (sL (sR (sR c_r00_SameTokens))))))) L_r00_SameTokens_0 B_r00_SameTokens_0
noncomputable def K_r00_SameTokens_3 : AAct → Mem → Option (AOut × Mem) := execF X F_r00_SameTokens 0 (sR (sR (sB (sB (sR (sL (sR (sR c_r00_SameTokens)))))))) L_r00_SameTokens_0 B_r00_SameTokens_0
noncomputable def B_r00_SameTokens_1 : AExit → AAct → Mem → Option (AOut × Mem) := blockX 1 K_r00_SameTokens_3 B_r00_SameTokens_0
noncomputable def k_r00_SameTokens_0 (v0 v1 : AV) (m : Mem) : Option (AOut × Mem) := K_r00_SameTokens_0 ⟨[v0, v1, Q, Q, Q, Q, Q, Q, Q, Q, Q, Q, Q, Q, Q, Q, Q, Q, Q, Q, Q, Q, Q, Q, Q, Q], []⟩ m
noncomputable def k_r00_SameTokens_1 (v0 v1 v5 : AV) (m : Mem) : Option (AOut × Mem) := K_r00_SameTokens_1 ⟨[v0, v1, Q, Q, Q, v5, Q, Q, Q, Q, Q, Q, Q, Q, Q, Q, Q, Q, Q, Q, Q, Q, Q, Q, Q, Q], []⟩ m
noncomputable def l_r00_SameTokens_0 (v0 v1 v5 : AV) (m : Mem) : Option (AOut × Mem) := L_r00_SameTokens_0 ⟨[v0, v1, Q, Q, Q, v5, Q, Q, Q, Q, Q, Q, Q, Q, Q, Q, Q, Q, Q, Q, Q, Q, Q, Q, Q, Q], []⟩ m
noncomputable def k_r00_SameTokens_2 (v0 v1 v5 : AV) (m : Mem) : Option (AOut × Mem) := K_r00_SameTokens_2 ⟨[v0, v1, Q, Q, Q, v5, Q, Q, Q, Q, Q, Q, Q, Q, Q, Q, Q, Q, Q, Q, Q, Q, Q, Q, Q, Q], []⟩ m
noncomputable def k_r00_SameTokens_3 (v0 v1 v5 : AV) (m : Mem) : Option (AOut × Mem) := K_r00_SameTokens_3 ⟨[v0, v1, Q, Q, Q, v5, Q, Q, Q, Q, Q, Q, Q, Q, Q, Q, Q, Q, Q, Q, Q, Q, Q, Q, Q, Q], []⟩ m
theorem e_r00_SameTokens (v0 v1 : AV) (m : Mem) : w_r00_SameTokens v0 v1 m =
  bnd (rLenSl v0) fun v7 =>
  bnd (rLenSl v1) fun v9 =>
  bnd (aBin X.T .neq T_int false false v7 v9) fun v10 =>
  onBool v10
    (some (.ret (.bool false), m))
    (k_r00_SameTokens_0 v0 v1 m) := (aW_F (c := c_r00_SameTokens) (fn := Try.f14) (by kernel_rfl) (by kernel_rfl) (by kernel_rfl) _ m).trans (by kernel_rfl)
theorem k_r00_SameTokens_0_eq (v0 v1 : AV) (m : Mem) : k_r00_SameTokens_0 v0 v1 m =
  l_r00_SameTokens_0 v0 v1 (.int .i64 0) m := by kernel_rfl
theorem k_r00_SameTokens_1_eq (v0 v1 v5 : AV) (m : Mem) : k_r00_SameTokens_1 v0 v1 v5 m =
  some (.ret (.bool true), m) := by kernel_rfl
theorem l_r00_SameTokens_0_u (v0 v1 v5 : AV) (m : Mem) : l_r00_SameTokens_0 v0 v1 v5 m = loopK X F_r00_SameTokens 0 (sB (sB (sR (sL (sR (sR c_r00_SameTokens)))))) B_r00_SameTokens_0 ⟨[v0, v1, Q, Q, Q, v5, Q, Q, Q, Q, Q, Q, Q, Q, Q, Q, Q, Q, Q, Q, Q, Q, Q, Q, Q, Q], []⟩ m := by kernel_rfl
theorem l_r00_SameTokens_0_r (v0 v1 v5 : AV) (m : Mem) : roundF X F_r00_SameTokens 0 (sB (sB (sR (sL (sR (sR c_r00_SameTokens)))))) B_r00_SameTokens_0 [v0, v1, Q, Q, Q, v5, Q, Q, Q, Q, Q, Q, Q, Q, Q, Q, Q, Q, Q, Q, Q, Q, Q, Q, Q, Q] m =
  bnd (rLenSl v0) fun v13 =>
  bnd (aBin X.T .lss T_int false false v5 v13) fun v14 =>
  onBool v14
    (k_r00_SameTokens_2 v0 v1 v5 m)
    (k_r00_SameTokens_1 v0 v1 v5 m) := by kernel_rfl
theorem l_r00_SameTokens_0_eq (v0 v1 v5 : AV) (m : Mem) : l_r00_SameTokens_0 v0 v1 v5 m =
  bnd (rLenSl v0) fun v13 =>
  bnd (aBin X.T .lss T_int false false v5 v13) fun v14 =>
  onBool v14
    (k_r00_SameTokens_2 v0 v1 v5 m)
    (k_r00_SameTokens_1 v0 v1 v5 m) := roundF_of (l_r00_SameTokens_0_u v0 v1 v5 m) (l_r00_SameTokens_0_r v0 v1 v5 m)
theorem k_r00_SameTokens_2_eq (v0 v1 v5 : AV) (m : Mem) : k_r00_SameTokens_2 v0 v1 v5 m =
  bnd (rIxAddrSl 3 v0 v5) fun v19 =>
  bnd (rLoad true 3 m v19) fun v20 =>
  bnd (rIxAddrSl 3 v1 v5) fun v23 =>
  bnd (rLoad true 3 m v23) fun v24 =>
  bnd (aBin X.T .neq T_api_Token false false v20 v24) fun v25 =>
  onBool v25
    (some (.ret (.bool false), m))
    (k_r00_SameTokens_3 v0 v1 v5 m) := by kernel_rfl
theorem k_r00_SameTokens_3_eq (v0 v1 v5 : AV) (m : Mem) : k_r00_SameTokens_3 v0 v1 v5 m =
  bnd (aBin X.T .add T_int false true v5 (.int .i64 1)) fun v16 =>
  l_r00_SameTokens_0 v0 v1 v16 m := by kernel_rfl

/-! ### parlance/lex.Word -/
noncomputable def c_lex_Word : Code := bodyOf Try.f15
noncomputable def N_lex_Word : AAct → Mem → Option (AOut × Mem) := finK X.T Try.f15.results.toList .normal
noncomputable def P_lex_Word : AExit → AAct → Mem → Option (AOut × Mem) := finK X.T Try.f15.results.toList
noncomputable def K_lex_Word_0 : AAct → Mem → Option (AOut × Mem) := execF X F_lex_Word 0 (sR (sR c_lex_Word)) N_lex_Word P_lex_Word
noncomputable def K_lex_Word_1 : AAct → Mem → Option (AOut × Mem) := execF X F_lex_Word 0 (sR (sL (sR c_lex_Word))) K_lex_Word_0 P_lex_Word
noncomputable def k_lex_Word_0 (v0 v3 : AV) (m : Mem) : Option (AOut × Mem) := K_lex_Word_0 ⟨[v0, Q, Q, v3, Q, Q, Q, Q, Q, Q, Q, Q, Q, Q, Q, Q, Q, Q, Q, Q, Q, Q, Q, Q, Q, Q, Q, Q], []⟩ m
noncomputable def k_lex_Word_1 (v0 v3 v21 : AV) (m : Mem) : Option (AOut × Mem) := K_lex_Word_1 ⟨[v0, Q, Q, v3, Q, Q, Q, Q, Q, Q, Q, Q, Q, Q, Q, Q, Q, Q, Q, Q, Q, v21, Q, Q, Q, Q, Q, Q], []⟩ m
theorem e_lex_Word (v0 v1 : AV) (m : Mem) : w_lex_Word v0 v1 m =
  memK (aBox m v1) fun v3 m1 =>
  bnd (rFieldAddr 1 v3) fun v5 =>
  bnd (rLoad false 1 m1 v5) fun v6 =>
  bnd (aBin X.T .lss T_int false true v6 (.int .i64 0)) fun v7 =>
  onWant v7
    (k_lex_Word_1 v0 v3 (.bool true) m1)
    (bnd (rFieldAddr 2 v3) fun v9 =>
  bnd (rLoad false 1 m1 v9) fun v10 =>
  bnd (rFieldAddr 1 v3) fun v11 =>
  bnd (rLoad false 1 m1 v11) fun v12 =>
  bnd (aBin X.T .lss T_int false false v10 v12) fun v13 =>
  onWant v13
    (k_lex_Word_1 v0 v3 (.bool true) m1)
    (bnd (rFieldAddr 2 v3) fun v16 =>
  bnd (rLoad false 1 m1 v16) fun v17 =>
  bnd (rLenStr v0) fun v19 =>
  bnd (aBin X.T .gtr T_int false false v17 v19) fun v20 =>
  k_lex_Word_1 v0 v3 v20 m1)
    (none))
    (none) := (aW_F (c := c_lex_Word) (fn := Try.f15) (by kernel_rfl) (by kernel_rfl) (by kernel_rfl) _ m).trans (by kernel_rfl)
theorem k_lex_Word_0_eq (v0 v3 : AV) (m : Mem) : k_lex_Word_0 v0 v3 m =
  bnd (rFieldAddr 1 v3) fun v23 =>
  bnd (rLoad false 1 m v23) fun v24 =>
  bnd (rFieldAddr 2 v3) fun v25 =>
  bnd (rLoad false 1 m v25) fun v26 =>
  bnd (rSliceStr v0 (some v24) (some v26)) fun v27 =>
  some (.ret v27, m) := by kernel_rfl
theorem k_lex_Word_1_eq (v0 v3 v21 : AV) (m : Mem) : k_lex_Word_1 v0 v3 v21 m =
  onBool v21
    (some (.ret (.str (bs [])), m))
    (k_lex_Word_0 v0 v3 m) := by kernel_rfl

/-! ### parlance/lex.Kind -/
noncomputable def c_lex_Kind : Code := bodyOf Try.f16
noncomputable def N_lex_Kind : AAct → Mem → Option (AOut × Mem) := finK X.T Try.f16.results.toList .normal
noncomputable def P_lex_Kind : AExit → AAct → Mem → Option (AOut × Mem) := finK X.T Try.f16.results.toList
noncomputable def K_lex_Kind_0 : AAct → Mem → Option (AOut × Mem) := execF X F_lex_Kind 0 (sR (sR c_lex_Kind)) N_lex_Kind P_lex_Kind
noncomputable def K_lex_Kind_1 : AAct → Mem → Option (AOut × Mem) := execF X F_lex_Kind 0 (sR (sL (sR c_lex_Kind))) K_lex_Kind_0 P_lex_Kind
noncomputable def K_lex_Kind_2 : AAct → Mem → Option (AOut × Mem) := execF X F_lex_Kind 0 (sR (sR (sR (sR c_lex_Kind)))) N_lex_Kind P_lex_Kind
noncomputable def k_lex_Kind_0 (v0 : AV) (m : Mem) : Option (AOut × Mem) := K_lex_Kind_0 ⟨[v0, Q, Q, Q, Q, Q, Q, Q, Q, Q, Q, Q, Q, Q, Q, Q, Q, Q, Q, Q, Q], []⟩ m
noncomputable def k_lex_Kind_1 (v0 v10 : AV) (m : Mem) : Option (AOut × Mem) := K_lex_Kind_1 ⟨[v0, Q, Q, Q, Q, Q, Q, Q, Q, Q, v10, Q, Q, Q, Q, Q, Q, Q, Q, Q, Q], []⟩ m
noncomputable def k_lex_Kind_2 (v3 : AV) (m : Mem) : Option (AOut × Mem) := K_lex_Kind_2 ⟨[Q, Q, Q, v3, Q, Q, Q, Q, Q, Q, Q, Q, Q, Q, Q, Q, Q, Q, Q, Q, Q], []⟩ m
theorem e_lex_Kind (v0 : AV) (m : Mem) : w_lex_Kind v0 m =
  bnd (aBin X.T .eql T_string false true v0 (.str (bs []))) fun v6 =>
  onWant v6
    (k_lex_Kind_1 v0 (.bool true) m)
    (retK (w_strings_HasPrefix v0 (.str (bs [40, 42])) m) (fun v9 m1 =>
  k_lex_Kind_1 v0 v9 m1) (fun u m1 => some (.pan u, m1)))
    (none) := (aW_F (c := c_lex_Kind) (fn := Try.f16) (by kernel_rfl) (by kernel_rfl) (by kernel_rfl) _ m).trans (by kernel_rfl)
theorem k_lex_Kind_0_eq (v0 : AV) (m : Mem) : k_lex_Kind_0 v0 m =
  retK (w_lex_one v0 m) (fun v13 m1 =>
  bnd (aExtract v13 0) fun v14 =>
  bnd (aExtract v13 1) fun v15 =>
  bnd (rLenStr v0) fun v18 =>
  bnd (aBin X.T .neq T_int false false v15 v18) fun v19 =>
  onBool v19
    (some (.ret (.int .i64 0), m1))
    (k_lex_Kind_2 v14 m1)) (fun u m1 => some (.pan u, m1)) := by kernel_rfl
theorem k_lex_Kind_1_eq (v0 v10 : AV) (m : Mem) : k_lex_Kind_1 v0 v10 m =
  onBool v10
    (some (.ret (.int .i64 0), m))
    (k_lex_Kind_0 v0 m) := by kernel_rfl
theorem k_lex_Kind_2_eq (v3 : AV) (m : Mem) : k_lex_Kind_2 v3 m =
  some (.ret v3, m) := by kernel_rfl

/-! ### parlance/parlanceref08.Word -/
noncomputable def c_r08_Word : Code := bodyOf Try.f17
noncomputable def N_r08_Word : AAct → Mem → Option (AOut × Mem) := finK X.T Try.f17.results.toList .normal
noncomputable def P_r08_Word : AExit → AAct → Mem → Option (AOut × Mem) := finK X.T Try.f17.results.toList
noncomputable def K_r08_Word_0 : AAct → Mem → Option (AOut × Mem) := execF X F_r08_Word 0 (sR (sR c_r08_Word)) N_r08_Word P_r08_Word
noncomputable def K_r08_Word_1 : AAct → Mem → Option (AOut × Mem) := execF X F_r08_Word 0 (sR (sL (sR c_r08_Word))) K_r08_Word_0 P_r08_Word
noncomputable def k_r08_Word_0 (v0 v3 : AV) (m : Mem) : Option (AOut × Mem) := K_r08_Word_0 ⟨[v0, Q, Q, v3, Q, Q, Q, Q, Q, Q, Q, Q, Q, Q, Q, Q, Q, Q, Q, Q, Q, Q, Q, Q, Q, Q, Q, Q], []⟩ m
noncomputable def k_r08_Word_1 (v0 v3 v21 : AV) (m : Mem) : Option (AOut × Mem) := K_r08_Word_1 ⟨[v0, Q, Q, v3, Q, Q, Q, Q, Q, Q, Q, Q, Q, Q, Q, Q, Q, Q, Q, Q, Q, v21, Q, Q, Q, Q, Q, Q], []⟩ m
theorem e_r08_Word (v0 v1 : AV) (m : Mem) : w_r08_Word v0 v1 m =
  memK (aBox m v1) fun v3 m1 =>
  bnd (rFieldAddr 1 v3) fun v5 =>
  bnd (rLoad false 1 m1 v5) fun v6 =>
  bnd (aBin X.T .lss T_int false true v6 (.int .i64 0)) fun v7 =>
  onWant v7
    (k_r08_Word_1 v0 v3 (.bool true) m1)
    (bnd (rFieldAddr 2 v3) fun v9 =>
  bnd (rLoad false 1 m1 v9) fun v10 =>
  bnd (rFieldAddr 1 v3) fun v11 =>
  bnd (rLoad false 1 m1 v11) fun v12 =>
  bnd (aBin X.T .lss T_int false false v10 v12) fun v13 =>
  onWant v13
    (k_r08_Word_1 v0 v3 (.bool true) m1)
    (bnd (rFieldAddr 2 v3) fun v16 =>
  bnd (rLoad false 1 m1 v16) fun v17 =>
  bnd (rLenStr v0) fun v19 =>
  bnd (aBin X.T .gtr T_int false false v17 v19) fun v20 =>
  k_r08_Word_1 v0 v3 v20 m1)
    (none))
    (none) := (aW_F (c := c_r08_Word) (fn := Try.f17) (by kernel_rfl) (by kernel_rfl) (by kernel_rfl) _ m).trans (by kernel_rfl)
theorem k_r08_Word_0_eq (v0 v3 : AV) (m : Mem) : k_r08_Word_0 v0 v3 m =
  bnd (rFieldAddr 1 v3) fun v23 =>
  bnd (rLoad false 1 m v23) fun v24 =>
  bnd (rFieldAddr 2 v3) fun v25 =>
  bnd (rLoad false 1 m v25) fun v26 =>
  bnd (rSliceStr v0 (some v24) (some v26)) fun v27 =>
  some (.ret v27, m) := by kernel_rfl
theorem k_r08_Word_1_eq (v0 v3 v21 : AV) (m : Mem) : k_r08_Word_1 v0 v3 v21 m =
  onBool v21
    (some (.ret (.str (bs [])), m))
    (k_r08_Word_0 v0 v3 m) := by kernel_rfl

/-! ### parlance/lex.Is -/
noncomputable def c_lex_Is : Code := bodyOf Try.f18
noncomputable def N_lex_Is : AAct → Mem → Option (AOut × Mem) := finK X.T Try.f18.results.toList .normal
noncomputable def P_lex_Is : AExit → AAct → Mem → Option (AOut × Mem) := finK X.T Try.f18.results.toList
theorem e_lex_Is (v0 v1 v2 : AV) (m : Mem) : w_lex_Is v0 v1 v2 m =
  memK (aBox m v1) fun v4 m1 =>
  bnd (rFieldAddr 0 v4) fun v7 =>
  bnd (rLoad false 1 m1 v7) fun v8 =>
  bnd (aBin X.T .eql T_int false true v8 (.int .i64 5)) fun v9 =>
  onWant v9
    (bnd (rLoad true 3 m1 v4) fun v17 =>
  retK (w_lex_Word v0 v17 m1) (fun v18 m2 =>
  bnd (aBin X.T .eql T_string false false v18 v2) fun v20 =>
  some (.ret v20, m2)) (fun u m2 => some (.pan u, m2)))
    (bnd (rFieldAddr 0 v4) fun v11 =>
  bnd (rLoad false 1 m1 v11) fun v12 =>
  bnd (aBin X.T .eql T_int false true v12 (.int .i64 6)) fun v13 =>
  onWant v13
    (bnd (rLoad true 3 m1 v4) fun v17 =>
  retK (w_lex_Word v0 v17 m1) (fun v18 m2 =>
  bnd (aBin X.T .eql T_string false false v18 v2) fun v20 =>
  some (.ret v20, m2)) (fun u m2 => some (.pan u, m2)))
    (some (.ret (.bool false), m1))
    (none))
    (none) := (aW_F (c := c_lex_Is) (fn := Try.f18) (by kernel_rfl) (by kernel_rfl) (by kernel_rfl) _ m).trans (by kernel_rfl)

/-! ### parlance/parlanceref08.Is -/
noncomputable def c_r08_Is : Code := bodyOf Try.f19
noncomputable def N_r08_Is : AAct → Mem → Option (AOut × Mem) := finK X.T Try.f19.results.toList .normal
noncomputable def P_r08_Is : AExit → AAct → Mem → Option (AOut × Mem) := finK X.T Try.f19.results.toList
theorem e_r08_Is (v0 v1 v2 : AV) (m : Mem) : w_r08_Is v0 v1 v2 m =
  memK (aBox m v1) fun v4 m1 =>
  bnd (rFieldAddr 0 v4) fun v7 =>
  bnd (rLoad false 1 m1 v7) fun v8 =>
  bnd (aBin X.T .eql T_int false true v8 (.int .i64 5)) fun v9 =>
  onWant v9
    (bnd (rLoad true 3 m1 v4) fun v17 =>
  retK (w_r08_Word v0 v17 m1) (fun v18 m2 =>
  bnd (aBin X.T .eql T_string false false v18 v2) fun v20 =>
  some (.ret v20, m2)) (fun u m2 => some (.pan u, m2)))
    (bnd (rFieldAddr 0 v4) fun v11 =>
  bnd (rLoad false 1 m1 v11) fun v12 =>
  bnd (aBin X.T .eql T_int false true v12 (.int .i64 6)) fun v13 =>
  onWant v13
    (bnd (rLoad true 3 m1 v4) fun v17 =>
  retK (w_r08_Word v0 v17 m1) (fun v18 m2 =>
  bnd (aBin X.T .eql T_string false false v18 v2) fun v20 =>
  some (.ret v20, m2)) (fun u m2 => some (.pan u, m2)))
    (some (.ret (.bool false), m1))
    (none))
    (none) := (aW_F (c := c_r08_Is) (fn := Try.f19) (by kernel_rfl) (by kernel_rfl) (by kernel_rfl) _ m).trans (by kernel_rfl)

/-! ### parlance/parlanceref08.Kind -/
noncomputable def c_r08_Kind : Code := bodyOf Try.f20
noncomputable def N_r08_Kind : AAct → Mem → Option (AOut × Mem) := finK X.T Try.f20.results.toList .normal
noncomputable def P_r08_Kind : AExit → AAct → Mem → Option (AOut × Mem) := finK X.T Try.f20.results.toList
noncomputable def K_r08_Kind_0 : AAct → Mem → Option (AOut × Mem) := execF X F_r08_Kind 0 (sR (sR (sR c_r08_Kind))) N_r08_Kind P_r08_Kind
noncomputable def K_r08_Kind_1 : AAct → Mem → Option (AOut × Mem) := execF X F_r08_Kind 0 (sR (sL (sR (sR c_r08_Kind)))) K_r08_Kind_0 P_r08_Kind
noncomputable def k_r08_Kind_0 (v3 : AV) (m : Mem) : Option (AOut × Mem) := K_r08_Kind_0 ⟨[Q, Q, Q, v3, Q, Q, Q, Q, Q, Q, Q, Q, Q, Q, Q, Q, Q, Q, Q, Q, Q, Q, Q, Q, Q, Q, Q, Q, Q, Q, Q, Q, Q, Q, Q, Q], []⟩ m
noncomputable def k_r08_Kind_1 (v3 v31 : AV) (m : Mem) : Option (AOut × Mem) := K_r08_Kind_1 ⟨[Q, Q, Q, v3, Q, Q, Q, Q, Q, Q, Q, Q, Q, Q, Q, Q, Q, Q, Q, Q, Q, Q, Q, Q, Q, Q, Q, Q, Q, Q, Q, v31, Q, Q, Q, Q], []⟩ m
theorem e_r08_Kind (v0 : AV) (m : Mem) : w_r08_Kind v0 m =
  retK (w_r08_Lex v0 m) (fun v5 m1 =>
  bnd (rLenSl v5) fun v7 =>
  bnd (aBin X.T .neq T_int false true v7 (.int .i64 1)) fun v8 =>
  onWant v8
    (k_r08_Kind_1 v5 (.bool true) m1)
    (bnd (rIxAddrSl 3 v5 (.int .i64 0)) fun v11 =>
  bnd (rFieldAddr 1 v11) fun v12 =>
  bnd (rLoad false 1 m1 v12) fun v13 =>
  bnd (aBin X.T .neq T_int false true v13 (.int .i64 0)) fun v14 =>
  onWant v14
    (k_r08_Kind_1 v5 (.bool true) m1)
    (bnd (rIxAddrSl 3 v5 (.int .i64 0)) fun v18 =>
  bnd (rFieldAddr 2 v18) fun v19 =>
  bnd (rLoad false 1 m1 v19) fun v20 =>
  bnd (rLenStr v0) fun v22 =>
  bnd (aBin X.T .neq T_int false false v20 v22) fun v23 =>
  onWant v23
    (k_r08_Kind_1 v5 (.bool true) m1)
    (bnd (rIxAddrSl 3 v5 (.int .i64 0)) fun v27 =>
  bnd (rFieldAddr 0 v27) fun v28 =>
  bnd (rLoad false 1 m1 v28) fun v29 =>
  bnd (aBin X.T .eql T_int false true v29 (.int .i64 7)) fun v30 =>
  k_r08_Kind_1 v5 v30 m1)
    (none))
    (none))
    (none)) (fun u m1 => some (.pan u, m1)) := (aW_F (c := c_r08_Kind) (fn := Try.f20) (by kernel_rfl) (by kernel_rfl) (by kernel_rfl) _ m).trans (by kernel_rfl)
theorem k_r08_Kind_0_eq (v3 : AV) (m : Mem) : k_r08_Kind_0 v3 m =
  bnd (rIxAddrSl 3 v3 (.int .i64 0)) fun v33 =>
  bnd (rFieldAddr 0 v33) fun v34 =>
  bnd (rLoad false 1 m v34) fun v35 =>
  some (.ret v35, m) := by kernel_rfl
theorem k_r08_Kind_1_eq (v3 v31 : AV) (m : Mem) : k_r08_Kind_1 v3 v31 m =
  onBool v31
    (some (.ret (.int .i64 0), m))
    (k_r08_Kind_0 v3 m) := by kernel_rfl

/-! ### parlance/parlancelaw09.alive -/
noncomputable def c_l09_alive : Code := bodyOf Try.f21
noncomputable def N_l09_alive : AAct → Mem → Option (AOut × Mem) := finK X.T Try.f21.results.toList .normal
noncomputable def P_l09_alive : AExit → AAct → Mem → Option (AOut × Mem) := finK X.T Try.f21.results.toList
theorem e_l09_alive (m : Mem) : w_l09_alive m =
  retK (w_lex_Lex (.str (bs [108, 101, 116, 32, 120, 32, 61, 32, 49])) m) (fun v6 m1 =>
  retK (w_relex_Relex (.str (bs [108, 101, 116, 32, 120, 32, 61, 32, 49])) v6 (.int .i64 5) (.int .i64 5) (.str (bs [121])) m1) (fun v7 m2 =>
  bnd (aExtract v7 0) fun v8 =>
  bnd (aExtract v7 1) fun v9 =>
  bnd (aExtract v7 2) fun v10 =>
  bnd (aExtract v7 3) fun v11 =>
  bnd (aBin X.T .eql T_api_Errno false true v11 (.int .i64 0)) fun v13 =>
  onWant v13
    (bnd (aBin X.T .eql T_int false true v9 (.int .i64 1)) fun v16 =>
  onWant v16
    (bnd (aBin X.T .eql T_int false true v10 (.int .i64 2)) fun v20 =>
  onWant v20
    (bnd (rLenSl v8) fun v24 =>
  bnd (aBin X.T .eql T_int false true v24 (.int .i64 4)) fun v25 =>
  onWant v25
    (bnd (rIxAddrSl 3 v8 (.int .i64 1)) fun v29 =>
  bnd (rLoad true 3 m2 v29) fun v30 =>
  bnd (rBuild [.int .i64 0, .int .i64 0, .int .i64 0] [(0, 1, (.int .i64 1)), (1, 1, (.int .i64 4)), (2, 1, (.int .i64 6))]) fun v31 =>
  bnd (aBin X.T .eql T_api_Token false false v30 v31) fun v32 =>
  some (.ret v32, m2))
    (some (.ret (.bool false), m2))
    (none))
    (some (.ret (.bool false), m2))
    (none))
    (some (.ret (.bool false), m2))
    (none))
    (some (.ret (.bool false), m2))
    (none)) (fun u m2 => some (.pan u, m2))) (fun u m1 => some (.pan u, m1)) := (aW_F (c := c_l09_alive) (fn := Try.f21) (by kernel_rfl) (by kernel_rfl) (by kernel_rfl) _ m).trans (by kernel_rfl)

/-! ### parlance/parlanceref08.Lex -/
noncomputable def c_r08_Lex : Code := bodyOf Try.f22
noncomputable def N_r08_Lex : AAct → Mem → Option (AOut × Mem) := finK X.T Try.f22.results.toList .normal
noncomputable def P_r08_Lex : AExit → AAct → Mem → Option (AOut × Mem) := finK X.T Try.f22.results.toList
noncomputable def K_r08_Lex_0 : AAct → Mem → Option (AOut × Mem) := execF X F_r08_Lex 0 (sR (sR (sR (sR c_r08_Lex)))) N_r08_Lex P_r08_Lex
noncomputable def B_r08_Lex_0 : AExit → AAct → Mem → Option (AOut × Mem) := blockX 0 K_r08_Lex_0 P_r08_Lex
noncomputable def L_r08_Lex_0 : AAct → Mem → Option (AOut × Mem) := fun a m => killF (X.lk F_r08_Lex 0) a.tmps fun l => loopK X F_r08_Lex 0 (sB (sB (sL (sR (sR (sR c_r08_Lex)))))) B_r08_Lex_0 ⟨l, a.defers⟩ m
noncomputable def K_r08_Lex_1 : AAct → Mem → Option (AOut × Mem) := execF X F_r08_Lex 0 (sR (sB (sB (sL (sR (sR (sR c_r08_Lex))))))) L_r08_Lex_0 B_r08_Lex_0
noncomputable def B_r08_Lex_1 : AExit → AAct → Mem → Option (AOut × Mem) := blockX 1 L_r08_Lex_0 B_r08_Lex_0
noncomputable def K_r08_Lex_2 : AAct → Mem → Option (AOut × Mem) := execF X F_r08_Lex 1 (sR (sB (sR (sB (sB (sL (sR (sR (sR c_r08_Lex))))))))) L_r08_Lex_0 B_r08_Lex_1
noncomputable def K_r08_Lex_3 : AAct → Mem → Option (AOut × Mem) := execF X F_r08_Lex 1 (sR (sR (sB (sR (sB (sB (sL (sR (sR (sR c_r08_Lex)))))))))) L_r08_Lex_0 B_r08_Lex_1
noncomputable def K_r08_Lex_4 : AAct → Mem → Option (AOut × Mem) := execF X F_r08_Lex 1 (sR (sR (sL (sR (sL (sR (sB (sR (sB (sB (sL (sR (sR (sR c_r08_Lex)))))))))))))) K_r08_Lex_3 B_r08_Lex_1
noncomputable def K_r08_Lex_5 : AAct → Mem → Option (AOut × Mem) := execF X F_r08_Lex 1 (sR (sR (sR (sR (sB (sR (sB (sB (sL (sR (sR (sR c_r08_Lex)))))))))))) L_r08_Lex_0 B_r08_Lex_1
noncomputable def B_r08_Lex_2 : AExit → AAct → Mem → Option (AOut × Mem) := blockX 2 K_r08_Lex_5 B_r08_Lex_1
noncomputable def L_r08_Lex_2 : AAct → Mem → Option (AOut × Mem) := fun a m => killF (X.lk F_r08_Lex 2) a.tmps fun l => loopK X F_r08_Lex 2 (sB (sB (sR (sR (sL (sR (sL (sR (sR (sR (sB (sR (sB (sB (sL (sR (sR (sR c_r08_Lex)))))))))))))))))) B_r08_Lex_2 ⟨l, a.defers⟩ m
noncomputable def K_r08_Lex_6 : AAct → Mem → Option (AOut × Mem) := execF X F_r08_Lex 2 (sR (sB (sB (sR (sR (sL (sR (sL (sR (sR (sR (sB (sR (sB (sB (sL (sR (sR (sR c_r08_Lex))))))))))))))))))) L_r08_Lex_2 B_r08_Lex_2
noncomputable def K_r08_Lex_7 : AAct → Mem → Option (AOut × Mem) := execF X F_r08_Lex 2 (sR (sL (sB (sB (sR (sR (sL (sR (sL (sR (sR (sR (sB (sR (sB (sB (sL (sR (sR (sR c_r08_Lex)))))))))))))))))))) K_r08_Lex_6 B_r08_Lex_2
noncomputable def B_r08_Lex_3 : AExit → AAct → Mem → Option (AOut × Mem) := blockX 3 L_r08_Lex_2 B_r08_Lex_2
noncomputable def K_r08_Lex_8 : AAct → Mem → Option (AOut × Mem) := execF X F_r08_Lex 3 (sR (sR (sB (sR (sB (sB (sR (sR (sL (sR (sL (sR (sR (sR (sB (sR (sB (sB (sL (sR (sR (sR c_r08_Lex)))))))))))))))))))))) L_r08_Lex_2 B_r08_Lex_3
noncomputable def k_r08_Lex_0 (v0 v3 v4 : AV) (m : Mem) : Option (AOut × Mem) := K_r08_Lex_0 ⟨[v0, Q, Q, v3, v4, Q, Q, Q, Q, Q, Q, Q, Q, Q, Q, Q, Q, Q, Q, Q, Q, Q, Q, Q, Q, Q, Q, Q, Q, Q, Q, Q, Q, Q, Q, Q, Q, Q, Q, Q, Q, Q, Q, Q, Q, Q, Q, Q, Q, Q, Q, Q, Q, Q, Q, Q, Q, Q, Q, Q, Q, Q, Q, Q, Q, Q, Q, Q, Q, Q, Q, Q, Q, Q, Q, Q, Q], []⟩ m
noncomputable def l_r08_Lex_0 (v0 v3 v4 : AV) (m : Mem) : Option (AOut × Mem) := L_r08_Lex_0 ⟨[v0, Q, Q, v3, v4, Q, Q, Q, Q, Q, Q, Q, Q, Q, Q, Q, Q, Q, Q, Q, Q, Q, Q, Q, Q, Q, Q, Q, Q, Q, Q, Q, Q, Q, Q, Q, Q, Q, Q, Q, Q, Q, Q, Q, Q, Q, Q, Q, Q, Q, Q, Q, Q, Q, Q, Q, Q, Q, Q, Q, Q, Q, Q, Q, Q, Q, Q, Q, Q, Q, Q, Q, Q, Q, Q, Q, Q], []⟩ m
noncomputable def k_r08_Lex_1 (v0 v3 v4 : AV) (m : Mem) : Option (AOut × Mem) := K_r08_Lex_1 ⟨[v0, Q, Q, v3, v4, Q, Q, Q, Q, Q, Q, Q, Q, Q, Q, Q, Q, Q, Q, Q, Q, Q, Q, Q, Q, Q, Q, Q, Q, Q, Q, Q, Q, Q, Q, Q, Q, Q, Q, Q, Q, Q, Q, Q, Q, Q, Q, Q, Q, Q, Q, Q, Q, Q, Q, Q, Q, Q, Q, Q, Q, Q, Q, Q, Q, Q, Q, Q, Q, Q, Q, Q, Q, Q, Q, Q, Q], []⟩ m
noncomputable def k_r08_Lex_2 (v0 v3 v4 : AV) (m : Mem) : Option (AOut × Mem) := K_r08_Lex_2 ⟨[v0, Q, Q, v3, v4, Q, Q, Q, Q, Q, Q, Q, Q, Q, Q, Q, Q, Q, Q, Q, Q, Q, Q, Q, Q, Q, Q, Q, Q, Q, Q, Q, Q, Q, Q, Q, Q, Q, Q, Q, Q, Q, Q, Q, Q, Q, Q, Q, Q, Q, Q, Q, Q, Q, Q, Q, Q, Q, Q, Q, Q, Q, Q, Q, Q, Q, Q, Q, Q, Q, Q, Q, Q, Q, Q, Q, Q], []⟩ m
noncomputable def k_r08_Lex_3 (v0 v3 v4 : AV) (m : Mem) : Option (AOut × Mem) := K_r08_Lex_3 ⟨[v0, Q, Q, v3, v4, Q, Q, Q, Q, Q, Q, Q, Q, Q, Q, Q, Q, Q, Q, Q, Q, Q, Q, Q, Q, Q, Q, Q, Q, Q, Q, Q, Q, Q, Q, Q, Q, Q, Q, Q, Q, Q, Q, Q, Q, Q, Q, Q, Q, Q, Q, Q, Q, Q, Q, Q, Q, Q, Q, Q, Q, Q, Q, Q, Q, Q, Q, Q, Q, Q, Q, Q, Q, Q, Q, Q, Q], []⟩ m
noncomputable def k_r08_Lex_4 (v0 v3 v4 v5 : AV) (m : Mem) : Option (AOut × Mem) := K_r08_Lex_4 ⟨[v0, Q, Q, v3, v4, v5, Q, Q, Q, Q, Q, Q, Q, Q, Q, Q, Q, Q, Q, Q, Q, Q, Q, Q, Q, Q, Q, Q, Q, Q, Q, Q, Q, Q, Q, Q, Q, Q, Q, Q, Q, Q, Q, Q, Q, Q, Q, Q, Q, Q, Q, Q, Q, Q, Q, Q, Q, Q, Q, Q, Q, Q, Q, Q, Q, Q, Q, Q, Q, Q, Q, Q, Q, Q, Q, Q, Q], []⟩ m
noncomputable def k_r08_Lex_5 (v0 v3 v4 v6 v7 : AV) (m : Mem) : Option (AOut × Mem) := K_r08_Lex_5 ⟨[v0, Q, Q, v3, v4, Q, v6, v7, Q, Q, Q, Q, Q, Q, Q, Q, Q, Q, Q, Q, Q, Q, Q, Q, Q, Q, Q, Q, Q, Q, Q, Q, Q, Q, Q, Q, Q, Q, Q, Q, Q, Q, Q, Q, Q, Q, Q, Q, Q, Q, Q, Q, Q, Q, Q, Q, Q, Q, Q, Q, Q, Q, Q, Q, Q, Q, Q, Q, Q, Q, Q, Q, Q, Q, Q, Q, Q], []⟩ m
noncomputable def l_r08_Lex_2 (v0 v3 v4 v6 v7 : AV) (m : Mem) : Option (AOut × Mem) := L_r08_Lex_2 ⟨[v0, Q, Q, v3, v4, Q, v6, v7, Q, Q, Q, Q, Q, Q, Q, Q, Q, Q, Q, Q, Q, Q, Q, Q, Q, Q, Q, Q, Q, Q, Q, Q, Q, Q, Q, Q, Q, Q, Q, Q, Q, Q, Q, Q, Q, Q, Q, Q, Q, Q, Q, Q, Q, Q, Q, Q, Q, Q, Q, Q, Q, Q, Q, Q, Q, Q, Q, Q, Q, Q, Q, Q, Q, Q, Q, Q, Q], []⟩ m
noncomputable def k_r08_Lex_6 (v0 v3 v4 v6 v7 : AV) (m : Mem) : Option (AOut × Mem) := K_r08_Lex_6 ⟨[v0, Q, Q, v3, v4, Q, v6, v7, Q, Q, Q, Q, Q, Q, Q, Q, Q, Q, Q, Q, Q, Q, Q, Q, Q, Q, Q, Q, Q, Q, Q, Q, Q, Q, Q, Q, Q, Q, Q, Q, Q, Q, Q, Q, Q, Q, Q, Q, Q, Q, Q, Q, Q, Q, Q, Q, Q, Q, Q, Q, Q, Q, Q, Q, Q, Q, Q, Q, Q, Q, Q, Q, Q, Q, Q, Q, Q], []⟩ m
noncomputable def k_r08_Lex_7 (v0 v3 v4 v6 v7 v57 : AV) (m : Mem) : Option (AOut × Mem) := K_r08_Lex_7 ⟨[v0, Q, Q, v3, v4, Q, v6, v7, Q, Q, Q, Q, Q, Q, Q, Q, Q, Q, Q, Q, Q, Q, Q, Q, Q, Q, Q, Q, Q, Q, Q, Q, Q, Q, Q, Q, Q, Q, Q, Q, Q, Q, Q, Q, Q, Q, Q, Q, Q, Q, Q, Q, Q, Q, Q, Q, Q, v57, Q, Q, Q, Q, Q, Q, Q, Q, Q, Q, Q, Q, Q, Q, Q, Q, Q, Q, Q], []⟩ m
noncomputable def k_r08_Lex_8 (v0 v3 v4 v6 v7 : AV) (m : Mem) : Option (AOut × Mem) := K_r08_Lex_8 ⟨[v0, Q, Q, v3, v4, Q, v6, v7, Q, Q, Q, Q, Q, Q, Q, Q, Q, Q, Q, Q, Q, Q, Q, Q, Q, Q, Q, Q, Q, Q, Q, Q, Q, Q, Q, Q, Q, Q, Q, Q, Q, Q, Q, Q, Q, Q, Q, Q, Q, Q, Q, Q, Q, Q, Q, Q, Q, Q, Q, Q, Q, Q, Q, Q, Q, Q, Q, Q, Q, Q, Q, Q, Q, Q, Q, Q, Q], []⟩ m
theorem e_r08_Lex (v0 : AV) (m : Mem) : w_r08_Lex v0 m =
  bnd (rBuildSlice A_api_Token 0 []) fun v10 =>
  l_r08_Lex_0 v0 v10 (.int .i64 0) m := (aW_F (c := c_r08_Lex) (fn := Try.f22) (by kernel_rfl) (by kernel_rfl) (by kernel_rfl) _ m).trans (by kernel_rfl)
theorem k_r08_Lex_0_eq (v0 v3 v4 : AV) (m : Mem) : k_r08_Lex_0 v0 v3 v4 m =
  some (.ret v3, m) := by kernel_rfl
theorem l_r08_Lex_0_u (v0 v3 v4 : AV) (m : Mem) : l_r08_Lex_0 v0 v3 v4 m = loopK X F_r08_Lex 0 (sB (sB (sL (sR (sR (sR c_r08_Lex)))))) B_r08_Lex_0 ⟨[v0, Q, Q, v3, v4, Q, Q, Q, Q, Q, Q, Q, Q, Q, Q, Q, Q, Q, Q, Q, Q, Q, Q, Q, Q, Q, Q, Q, Q, Q, Q, Q, Q, Q, Q, Q, Q, Q, Q, Q, Q, Q, Q, Q, Q, Q, Q, Q, Q, Q, Q, Q, Q, Q, Q, Q, Q, Q, Q, Q, Q, Q, Q, Q, Q, Q, Q, Q, Q, Q, Q, Q, Q, Q, Q, Q, Q], []⟩ m := by kernel_rfl
theorem l_r08_Lex_0_r (v0 v3 v4 : AV) (m : Mem) : roundF X F_r08_Lex 0 (sB (sB (sL (sR (sR (sR c_r08_Lex)))))) B_r08_Lex_0 [v0, Q, Q, v3, v4, Q, Q, Q, Q, Q, Q, Q, Q, Q, Q, Q, Q, Q, Q, Q, Q, Q, Q, Q, Q, Q, Q, Q, Q, Q, Q, Q, Q, Q, Q, Q, Q, Q, Q, Q, Q, Q, Q, Q, Q, Q, Q, Q, Q, Q, Q, Q, Q, Q, Q, Q, Q, Q, Q, Q, Q, Q, Q, Q, Q, Q, Q, Q, Q, Q, Q, Q, Q, Q, Q, Q, Q] m =
  bnd (rLenStr v0) fun v13 =>
  bnd (aBin X.T .lss T_int false false v4 v13) fun v14 =>
  onBool v14
    (k_r08_Lex_1 v0 v3 v4 m)
    (k_r08_Lex_0 v0 v3 v4 m) := by kernel_rfl
theorem l_r08_Lex_0_eq (v0 v3 v4 : AV) (m : Mem) : l_r08_Lex_0 v0 v3 v4 m =
  bnd (rLenStr v0) fun v13 =>
  bnd (aBin X.T .lss T_int false false v4 v13) fun v14 =>
  onBool v14
    (k_r08_Lex_1 v0 v3 v4 m)
    (k_r08_Lex_0 v0 v3 v4 m) := roundF_of (l_r08_Lex_0_u v0 v3 v4 m) (l_r08_Lex_0_r v0 v3 v4 m)
theorem k_r08_Lex_1_eq (v0 v3 v4 : AV) (m : Mem) : k_r08_Lex_1 v0 v3 v4 m =
  bnd (rIxStr v0 v4) fun v17 =>
  retK (w_r08_white v17 m) (fun v18 m1 =>
  onBool v18
    (bnd (aBin X.T .add T_int false true v4 (.int .i64 1)) fun v20 =>
    l_r08_Lex_0 v0 v3 v20 m1)
    (k_r08_Lex_2 v0 v3 v4 m1)) (fun u m1 => some (.pan u, m1)) := by kernel_rfl
theorem k_r08_Lex_2_eq (v0 v3 v4 : AV) (m : Mem) : k_r08_Lex_2 v0 v3 v4 m =
  retK (w_r08_at v0 v4 (.str (bs [40, 42])) m) (fun v23 m1 =>
  onBool v23
    (retK (w_r08_remark v0 v4 m1) (fun v26 m2 =>
    bnd (aBin X.T .eql T_int false true v26 (.int .i64 0)) fun v28 =>
    onBool v28
      (bnd (rLenStr v0) fun v32 =>
      bnd (rBuild [.int .i64 0, .int .i64 0, .int .i64 0] [(0, 1, (.int .i64 7)), (1, 1, v4), (2, 1, v32)]) fun v33 =>
      bnd (rBuildSlice A_api_Token 1 [(0, v33)]) fun v34 =>
      memK (rAppend A_api_Token 0 m2 v3 v34) fun v35 m3 =>
      some (.ret v35, m3))
      (k_r08_Lex_4 v0 v3 v4 v26 m2)) (fun u m2 => some (.pan u, m2)))
    (k_r08_Lex_3 v0 v3 v4 m1)) (fun u m1 => some (.pan u, m1)) := by kernel_rfl
theorem k_r08_Lex_3_eq (v0 v3 v4 : AV) (m : Mem) : k_r08_Lex_3 v0 v3 v4 m =
  retK (w_r08_one v0 v4 m) (fun v40 m1 =>
  bnd (aExtract v40 0) fun v41 =>
  bnd (aExtract v40 1) fun v42 =>
  bnd (aBin X.T .eql T_int false true v41 (.int .i64 0)) fun v44 =>
  onBool v44
    (bnd (aBin X.T .add T_int false true v4 (.int .i64 1)) fun v46 =>
    l_r08_Lex_2 v0 v3 v4 (.int .i64 7) v46 m1)
    (k_r08_Lex_5 v0 v3 v4 v41 v42 m1)) (fun u m1 => some (.pan u, m1)) := by kernel_rfl
theorem k_r08_Lex_4_eq (v0 v3 v4 v5 : AV) (m : Mem) : k_r08_Lex_4 v0 v3 v4 v5 m =
  l_r08_Lex_0 v0 v3 v5 m := by kernel_rfl
theorem k_r08_Lex_5_eq (v0 v3 v4 v6 v7 : AV) (m : Mem) : k_r08_Lex_5 v0 v3 v4 v6 v7 m =
  bnd (rBuild [.int .i64 0, .int .i64 0, .int .i64 0] [(0, 1, v6), (1, 1, v4), (2, 1, v7)]) fun v72 =>
  bnd (rBuildSlice A_api_Token 1 [(0, v72)]) fun v73 =>
  memK (rAppend A_api_Token 0 m v3 v73) fun v74 m1 =>
  l_r08_Lex_0 v0 v74 v7 m1 := by kernel_rfl
theorem l_r08_Lex_2_u (v0 v3 v4 v6 v7 : AV) (m : Mem) : l_r08_Lex_2 v0 v3 v4 v6 v7 m = loopK X F_r08_Lex 2 (sB (sB (sR (sR (sL (sR (sL (sR (sR (sR (sB (sR (sB (sB (sL (sR (sR (sR c_r08_Lex)))))))))))))))))) B_r08_Lex_2 ⟨[v0, Q, Q, v3, v4, Q, v6, v7, Q, Q, Q, Q, Q, Q, Q, Q, Q, Q, Q, Q, Q, Q, Q, Q, Q, Q, Q, Q, Q, Q, Q, Q, Q, Q, Q, Q, Q, Q, Q, Q, Q, Q, Q, Q, Q, Q, Q, Q, Q, Q, Q, Q, Q, Q, Q, Q, Q, Q, Q, Q, Q, Q, Q, Q, Q, Q, Q, Q, Q, Q, Q, Q, Q, Q, Q, Q, Q], []⟩ m := by kernel_rfl
theorem l_r08_Lex_2_r (v0 v3 v4 v6 v7 : AV) (m : Mem) : roundF X F_r08_Lex 2 (sB (sB (sR (sR (sL (sR (sL (sR (sR (sR (sB (sR (sB (sB (sL (sR (sR (sR c_r08_Lex)))))))))))))))))) B_r08_Lex_2 [v0, Q, Q, v3, v4, Q, v6, v7, Q, Q, Q, Q, Q, Q, Q, Q, Q, Q, Q, Q, Q, Q, Q, Q, Q, Q, Q, Q, Q, Q, Q, Q, Q, Q, Q, Q, Q, Q, Q, Q, Q, Q, Q, Q, Q, Q, Q, Q, Q, Q, Q, Q, Q, Q, Q, Q, Q, Q, Q, Q, Q, Q, Q, Q, Q, Q, Q, Q, Q, Q, Q, Q, Q, Q, Q, Q, Q] m =
  bnd (rLenStr v0) fun v49 =>
  bnd (aBin X.T .lss T_int false false v7 v49) fun v50 =>
  onWant v50
    (bnd (rIxStr v0 v7) fun v54 =>
  retK (w_r08_white v54 m) (fun v55 m1 =>
  bnd (aUn .not v55) fun v56 =>
  k_r08_Lex_7 v0 v3 v4 v6 v7 v56 m1) (fun u m1 => some (.pan u, m1)))
    (k_r08_Lex_7 v0 v3 v4 v6 v7 (.bool false) m)
    (none) := by kernel_rfl
theorem l_r08_Lex_2_eq (v0 v3 v4 v6 v7 : AV) (m : Mem) : l_r08_Lex_2 v0 v3 v4 v6 v7 m =
  bnd (rLenStr v0) fun v49 =>
  bnd (aBin X.T .lss T_int false false v7 v49) fun v50 =>
  onWant v50
    (bnd (rIxStr v0 v7) fun v54 =>
  retK (w_r08_white v54 m) (fun v55 m1 =>
  bnd (aUn .not v55) fun v56 =>
  k_r08_Lex_7 v0 v3 v4 v6 v7 v56 m1) (fun u m1 => some (.pan u, m1)))
    (k_r08_Lex_7 v0 v3 v4 v6 v7 (.bool false) m)
    (none) := roundF_of (l_r08_Lex_2_u v0 v3 v4 v6 v7 m) (l_r08_Lex_2_r v0 v3 v4 v6 v7 m)
theorem k_r08_Lex_6_eq (v0 v3 v4 v6 v7 : AV) (m : Mem) : k_r08_Lex_6 v0 v3 v4 v6 v7 m =
  retK (w_r08_one v0 v7 m) (fun v61 m1 =>
  bnd (aExtract v61 0) fun v62 =>
  bnd (aExtract v61 1) fun v63 =>
  bnd (aBin X.T .neq T_int false true v62 (.int .i64 0)) fun v65 =>
  onBool v65
    (k_r08_Lex_5 v0 v3 v4 v6 v7 m1)
    (k_r08_Lex_8 v0 v3 v4 v6 v7 m1)) (fun u m1 => some (.pan u, m1)) := by kernel_rfl
theorem k_r08_Lex_7_eq (v0 v3 v4 v6 v7 v57 : AV) (m : Mem) : k_r08_Lex_7 v0 v3 v4 v6 v7 v57 m =
  onBool v57
    (k_r08_Lex_6 v0 v3 v4 v6 v7 m)
    (k_r08_Lex_5 v0 v3 v4 v6 v7 m) := by kernel_rfl
theorem k_r08_Lex_8_eq (v0 v3 v4 v6 v7 : AV) (m : Mem) : k_r08_Lex_8 v0 v3 v4 v6 v7 m =
  bnd (aBin X.T .add T_int false true v7 (.int .i64 1)) fun v67 =>
  l_r08_Lex_2 v0 v3 v4 v6 v67 m := by kernel_rfl

/-! ### parlance/parlanceref00.CopyTokens -/
noncomputable def c_r00_CopyTokens : Code := bodyOf Try.f23
noncomputable def N_r00_CopyTokens : AAct → Mem → Option (AOut × Mem) := finK X.T Try.f23.results.toList .normal
noncomputable def P_r00_CopyTokens : AExit → AAct → Mem → Option (AOut × Mem) := finK X.T Try.f23.results.toList
theorem e_r00_CopyTokens (v0 : AV) (m : Mem) : w_r00_CopyTokens v0 m =
  bnd (rBuildSlice A_api_Token 0 []) fun v4 =>
  memK (rAppend A_api_Token 0 m v4 v0) fun v7 m1 =>
  some (.ret v7, m1) := (aW_F (c := c_r00_CopyTokens) (fn := Try.f23) (by kernel_rfl) (by kernel_rfl) (by kernel_rfl) _ m).trans (by kernel_rfl)

end Go.AM
