/-
  A part of the proof: equations or tables of the program over the abstract machine, printed by a program of this proof's own.
-/
import Derived.Test.YtcliklgiamlpeaaR1Ctx
namespace Go.AM
open Go.Proofs
set_option maxRecDepth 100000
set_option linter.unusedVariables false

/-! ### parlance/parlanceref08.one -/
noncomputable def c_r08_one : Code := bodyOf Try.f37
noncomputable def N_r08_one : AAct → Mem → Option (AOut × Mem) := finK X.T Try.f37.results.toList .normal
noncomputable def P_r08_one : AExit → AAct → Mem → Option (AOut × Mem) := finK X.T Try.f37.results.toList
noncomputable def K_r08_one_0 : AAct → Mem → Option (AOut × Mem) := execF X F_r08_one 0 (sR (sR (sR (sR c_r08_one)))) N_r08_one P_r08_one
noncomputable def K_r08_one_1 : AAct → Mem → Option (AOut × Mem) := execF X F_r08_one 0 (sR (sL (sR (sR (sR c_r08_one))))) K_r08_one_0 P_r08_one
noncomputable def K_r08_one_2 : AAct → Mem → Option (AOut × Mem) := execF X F_r08_one 0 (sR (sR (sR (sR (sR c_r08_one))))) N_r08_one P_r08_one
noncomputable def K_r08_one_3 : AAct → Mem → Option (AOut × Mem) := execF X F_r08_one 0 (sR (sL (sR (sL (sR (sR (sR (sR c_r08_one)))))))) K_r08_one_2 P_r08_one
noncomputable def B_r08_one_4 : AExit → AAct → Mem → Option (AOut × Mem) := blockX 4 K_r08_one_3 P_r08_one
noncomputable def L_r08_one_4 : AAct → Mem → Option (AOut × Mem) := fun a m => killF (X.lk F_r08_one 4) a.tmps fun l => loopK X F_r08_one 4 (sB (sB (sL (sL (sR (sL (sR (sR (sR (sR c_r08_one)))))))))) B_r08_one_4 ⟨l, a.defers⟩ m
noncomputable def K_r08_one_4 : AAct → Mem → Option (AOut × Mem) := execF X F_r08_one 0 (sR (sL (sR (sL (sR (sR (sR c_r08_one))))))) K_r08_one_0 P_r08_one
noncomputable def B_r08_one_0 : AExit → AAct → Mem → Option (AOut × Mem) := blockX 0 K_r08_one_4 P_r08_one
noncomputable def L_r08_one_0 : AAct → Mem → Option (AOut × Mem) := fun a m => killF (X.lk F_r08_one 0) a.tmps fun l => loopK X F_r08_one 0 (sB (sB (sL (sL (sR (sL (sR (sR (sR c_r08_one))))))))) B_r08_one_0 ⟨l, a.defers⟩ m
noncomputable def K_r08_one_5 : AAct → Mem → Option (AOut × Mem) := execF X F_r08_one 0 (sR (sR (sR (sR (sR (sR c_r08_one)))))) N_r08_one P_r08_one
noncomputable def K_r08_one_6 : AAct → Mem → Option (AOut × Mem) := execF X F_r08_one 0 (sR (sL (sR (sR (sR (sR (sR c_r08_one))))))) K_r08_one_5 P_r08_one
noncomputable def K_r08_one_7 : AAct → Mem → Option (AOut × Mem) := execF X F_r08_one 4 (sR (sB (sB (sL (sL (sR (sL (sR (sR (sR (sR c_r08_one))))))))))) L_r08_one_4 B_r08_one_4
noncomputable def K_r08_one_8 : AAct → Mem → Option (AOut × Mem) := execF X F_r08_one 4 (sR (sL (sB (sB (sL (sL (sR (sL (sR (sR (sR (sR c_r08_one)))))))))))) K_r08_one_7 B_r08_one_4
noncomputable def K_r08_one_9 : AAct → Mem → Option (AOut × Mem) := execF X F_r08_one 0 (sR (sR (sR (sL (sR (sL (sR (sR (sR c_r08_one))))))))) K_r08_one_0 P_r08_one
noncomputable def K_r08_one_10 : AAct → Mem → Option (AOut × Mem) := execF X F_r08_one 0 (sR (sB (sB (sL (sL (sR (sL (sR (sR (sR c_r08_one)))))))))) L_r08_one_0 B_r08_one_0
noncomputable def K_r08_one_11 : AAct → Mem → Option (AOut × Mem) := execF X F_r08_one 0 (sR (sL (sB (sB (sL (sL (sR (sL (sR (sR (sR c_r08_one))))))))))) K_r08_one_10 B_r08_one_0
noncomputable def K_r08_one_12 : AAct → Mem → Option (AOut × Mem) := execF X F_r08_one 0 (sR (sR (sR (sR (sR (sR (sR (sR c_r08_one)))))))) N_r08_one P_r08_one
noncomputable def B_r08_one_8 : AExit → AAct → Mem → Option (AOut × Mem) := blockX 8 K_r08_one_12 P_r08_one
noncomputable def L_r08_one_8 : AAct → Mem → Option (AOut × Mem) := fun a m => killF (X.lk F_r08_one 8) a.tmps fun l => loopK X F_r08_one 8 (sB (sB (sR (sL (sR (sR (sR (sR (sR (sR (sR c_r08_one))))))))))) B_r08_one_8 ⟨l, a.defers⟩ m
noncomputable def K_r08_one_13 : AAct → Mem → Option (AOut × Mem) := execF X F_r08_one 0 (sR (sL (sR (sL (sR (sR (sR (sR (sR c_r08_one))))))))) K_r08_one_5 P_r08_one
noncomputable def B_r08_one_6 : AExit → AAct → Mem → Option (AOut × Mem) := blockX 6 K_r08_one_13 P_r08_one
noncomputable def L_r08_one_6 : AAct → Mem → Option (AOut × Mem) := fun a m => killF (X.lk F_r08_one 6) a.tmps fun l => loopK X F_r08_one 6 (sB (sB (sL (sL (sR (sL (sR (sR (sR (sR (sR c_r08_one))))))))))) B_r08_one_6 ⟨l, a.defers⟩ m
noncomputable def B_r08_one_5 : AExit → AAct → Mem → Option (AOut × Mem) := blockX 5 L_r08_one_4 B_r08_one_4
noncomputable def K_r08_one_14 : AAct → Mem → Option (AOut × Mem) := execF X F_r08_one 0 (sR (sR (sR (sR (sL (sR (sL (sR (sR (sR c_r08_one)))))))))) K_r08_one_0 P_r08_one
noncomputable def B_r08_one_1 : AExit → AAct → Mem → Option (AOut × Mem) := blockX 1 L_r08_one_0 B_r08_one_0
noncomputable def K_r08_one_15 : AAct → Mem → Option (AOut × Mem) := execF X F_r08_one 8 (sR (sB (sB (sR (sL (sR (sR (sR (sR (sR (sR (sR c_r08_one)))))))))))) L_r08_one_8 B_r08_one_8
noncomputable def K_r08_one_16 : AAct → Mem → Option (AOut × Mem) := execF X F_r08_one 6 (sR (sB (sB (sL (sL (sR (sL (sR (sR (sR (sR (sR c_r08_one)))))))))))) L_r08_one_6 B_r08_one_6
noncomputable def K_r08_one_17 : AAct → Mem → Option (AOut × Mem) := execF X F_r08_one 6 (sR (sL (sB (sB (sL (sL (sR (sL (sR (sR (sR (sR (sR c_r08_one))))))))))))) K_r08_one_16 B_r08_one_6
noncomputable def K_r08_one_18 : AAct → Mem → Option (AOut × Mem) := execF X F_r08_one 0 (sR (sR (sR (sR (sR (sR (sL (sR (sL (sR (sR (sR c_r08_one)))))))))))) K_r08_one_0 P_r08_one
noncomputable def B_r08_one_2 : AExit → AAct → Mem → Option (AOut × Mem) := blockX 2 K_r08_one_18 P_r08_one
noncomputable def L_r08_one_2 : AAct → Mem → Option (AOut × Mem) := fun a m => killF (X.lk F_r08_one 2) a.tmps fun l => loopK X F_r08_one 2 (sB (sB (sR (sL (sR (sR (sR (sR (sR (sL (sR (sL (sR (sR (sR c_r08_one))))))))))))))) B_r08_one_2 ⟨l, a.defers⟩ m
noncomputable def K_r08_one_19 : AAct → Mem → Option (AOut × Mem) := execF X F_r08_one 8 (sR (sR (sB (sB (sR (sL (sR (sR (sR (sR (sR (sR (sR c_r08_one))))))))))))) L_r08_one_8 B_r08_one_8
noncomputable def B_r08_one_9 : AExit → AAct → Mem → Option (AOut × Mem) := blockX 9 K_r08_one_19 B_r08_one_8
noncomputable def B_r08_one_7 : AExit → AAct → Mem → Option (AOut × Mem) := blockX 7 L_r08_one_6 B_r08_one_6
noncomputable def K_r08_one_20 : AAct → Mem → Option (AOut × Mem) := execF X F_r08_one 2 (sR (sB (sB (sR (sL (sR (sR (sR (sR (sR (sL (sR (sL (sR (sR (sR c_r08_one)))))))))))))))) L_r08_one_2 B_r08_one_2
noncomputable def K_r08_one_21 : AAct → Mem → Option (AOut × Mem) := execF X F_r08_one 2 (sR (sR (sB (sB (sR (sL (sR (sR (sR (sR (sR (sL (sR (sL (sR (sR (sR c_r08_one))))))))))))))))) L_r08_one_2 B_r08_one_2
noncomputable def B_r08_one_3 : AExit → AAct → Mem → Option (AOut × Mem) := blockX 3 K_r08_one_21 B_r08_one_2
noncomputable def k_r08_one_0 (v0 v1 v6 v7 : AV) (m : Mem) : Option (AOut × Mem) := K_r08_one_0 ⟨[v0, v1, Q, Q, Q, Q, v6, v7, Q, Q, Q, Q, Q, Q, Q, Q, Q, Q, Q, Q, Q, Q, Q, Q, Q, Q, Q, Q, Q, Q, Q, Q, Q, Q, Q, Q, Q, Q, Q, Q, Q, Q, Q, Q, Q, Q, Q, Q, Q, Q, Q, Q, Q, Q, Q, Q, Q, Q, Q, Q, Q, Q, Q, Q, Q, Q, Q, Q, Q, Q, Q, Q, Q, Q, Q, Q, Q, Q, Q, Q, Q, Q, Q, Q, Q, Q, Q, Q, Q, Q, Q, Q, Q, Q, Q, Q, Q, Q, Q, Q, Q, Q, Q, Q, Q, Q, Q, Q, Q, Q, Q, Q, Q, Q, Q, Q, Q, Q, Q, Q, Q, Q, Q, Q, Q, Q, Q, Q, Q, Q, Q, Q, Q, Q, Q, Q, Q, Q, Q, Q, Q, Q, Q, Q, Q, Q, Q, Q, Q, Q, Q, Q, Q, Q, Q, Q, Q, Q, Q, Q, Q, Q, Q], []⟩ m
noncomputable def k_r08_one_1 (v0 v1 v6 v7 v27 : AV) (m : Mem) : Option (AOut × Mem) := K_r08_one_1 ⟨[v0, v1, Q, Q, Q, Q, v6, v7, Q, Q, Q, Q, Q, Q, Q, Q, Q, Q, Q, Q, Q, Q, Q, Q, Q, Q, Q, v27, Q, Q, Q, Q, Q, Q, Q, Q, Q, Q, Q, Q, Q, Q, Q, Q, Q, Q, Q, Q, Q, Q, Q, Q, Q, Q, Q, Q, Q, Q, Q, Q, Q, Q, Q, Q, Q, Q, Q, Q, Q, Q, Q, Q, Q, Q, Q, Q, Q, Q, Q, Q, Q, Q, Q, Q, Q, Q, Q, Q, Q, Q, Q, Q, Q, Q, Q, Q, Q, Q, Q, Q, Q, Q, Q, Q, Q, Q, Q, Q, Q, Q, Q, Q, Q, Q, Q, Q, Q, Q, Q, Q, Q, Q, Q, Q, Q, Q, Q, Q, Q, Q, Q, Q, Q, Q, Q, Q, Q, Q, Q, Q, Q, Q, Q, Q, Q, Q, Q, Q, Q, Q, Q, Q, Q, Q, Q, Q, Q, Q, Q, Q, Q, Q, Q], []⟩ m
noncomputable def k_r08_one_2 (v0 v1 v6 v7 : AV) (m : Mem) : Option (AOut × Mem) := K_r08_one_2 ⟨[v0, v1, Q, Q, Q, Q, v6, v7, Q, Q, Q, Q, Q, Q, Q, Q, Q, Q, Q, Q, Q, Q, Q, Q, Q, Q, Q, Q, Q, Q, Q, Q, Q, Q, Q, Q, Q, Q, Q, Q, Q, Q, Q, Q, Q, Q, Q, Q, Q, Q, Q, Q, Q, Q, Q, Q, Q, Q, Q, Q, Q, Q, Q, Q, Q, Q, Q, Q, Q, Q, Q, Q, Q, Q, Q, Q, Q, Q, Q, Q, Q, Q, Q, Q, Q, Q, Q, Q, Q, Q, Q, Q, Q, Q, Q, Q, Q, Q, Q, Q, Q, Q, Q, Q, Q, Q, Q, Q, Q, Q, Q, Q, Q, Q, Q, Q, Q, Q, Q, Q, Q, Q, Q, Q, Q, Q, Q, Q, Q, Q, Q, Q, Q, Q, Q, Q, Q, Q, Q, Q, Q, Q, Q, Q, Q, Q, Q, Q, Q, Q, Q, Q, Q, Q, Q, Q, Q, Q, Q, Q, Q, Q, Q], []⟩ m
noncomputable def k_r08_one_3 (v0 v7 : AV) (m : Mem) : Option (AOut × Mem) := K_r08_one_3 ⟨[v0, Q, Q, Q, Q, Q, Q, v7, Q, Q, Q, Q, Q, Q, Q, Q, Q, Q, Q, Q, Q, Q, Q, Q, Q, Q, Q, Q, Q, Q, Q, Q, Q, Q, Q, Q, Q, Q, Q, Q, Q, Q, Q, Q, Q, Q, Q, Q, Q, Q, Q, Q, Q, Q, Q, Q, Q, Q, Q, Q, Q, Q, Q, Q, Q, Q, Q, Q, Q, Q, Q, Q, Q, Q, Q, Q, Q, Q, Q, Q, Q, Q, Q, Q, Q, Q, Q, Q, Q, Q, Q, Q, Q, Q, Q, Q, Q, Q, Q, Q, Q, Q, Q, Q, Q, Q, Q, Q, Q, Q, Q, Q, Q, Q, Q, Q, Q, Q, Q, Q, Q, Q, Q, Q, Q, Q, Q, Q, Q, Q, Q, Q, Q, Q, Q, Q, Q, Q, Q, Q, Q, Q, Q, Q, Q, Q, Q, Q, Q, Q, Q, Q, Q, Q, Q, Q, Q, Q, Q, Q, Q, Q, Q], []⟩ m
noncomputable def l_r08_one_4 (v0 v7 : AV) (m : Mem) : Option (AOut × Mem) := L_r08_one_4 ⟨[v0, Q, Q, Q, Q, Q, Q, v7, Q, Q, Q, Q, Q, Q, Q, Q, Q, Q, Q, Q, Q, Q, Q, Q, Q, Q, Q, Q, Q, Q, Q, Q, Q, Q, Q, Q, Q, Q, Q, Q, Q, Q, Q, Q, Q, Q, Q, Q, Q, Q, Q, Q, Q, Q, Q, Q, Q, Q, Q, Q, Q, Q, Q, Q, Q, Q, Q, Q, Q, Q, Q, Q, Q, Q, Q, Q, Q, Q, Q, Q, Q, Q, Q, Q, Q, Q, Q, Q, Q, Q, Q, Q, Q, Q, Q, Q, Q, Q, Q, Q, Q, Q, Q, Q, Q, Q, Q, Q, Q, Q, Q, Q, Q, Q, Q, Q, Q, Q, Q, Q, Q, Q, Q, Q, Q, Q, Q, Q, Q, Q, Q, Q, Q, Q, Q, Q, Q, Q, Q, Q, Q, Q, Q, Q, Q, Q, Q, Q, Q, Q, Q, Q, Q, Q, Q, Q, Q, Q, Q, Q, Q, Q, Q], []⟩ m
noncomputable def k_r08_one_4 (v0 v1 v6 v7 : AV) (m : Mem) : Option (AOut × Mem) := K_r08_one_4 ⟨[v0, v1, Q, Q, Q, Q, v6, v7, Q, Q, Q, Q, Q, Q, Q, Q, Q, Q, Q, Q, Q, Q, Q, Q, Q, Q, Q, Q, Q, Q, Q, Q, Q, Q, Q, Q, Q, Q, Q, Q, Q, Q, Q, Q, Q, Q, Q, Q, Q, Q, Q, Q, Q, Q, Q, Q, Q, Q, Q, Q, Q, Q, Q, Q, Q, Q, Q, Q, Q, Q, Q, Q, Q, Q, Q, Q, Q, Q, Q, Q, Q, Q, Q, Q, Q, Q, Q, Q, Q, Q, Q, Q, Q, Q, Q, Q, Q, Q, Q, Q, Q, Q, Q, Q, Q, Q, Q, Q, Q, Q, Q, Q, Q, Q, Q, Q, Q, Q, Q, Q, Q, Q, Q, Q, Q, Q, Q, Q, Q, Q, Q, Q, Q, Q, Q, Q, Q, Q, Q, Q, Q, Q, Q, Q, Q, Q, Q, Q, Q, Q, Q, Q, Q, Q, Q, Q, Q, Q, Q, Q, Q, Q, Q], []⟩ m
noncomputable def l_r08_one_0 (v0 v1 v6 v7 : AV) (m : Mem) : Option (AOut × Mem) := L_r08_one_0 ⟨[v0, v1, Q, Q, Q, Q, v6, v7, Q, Q, Q, Q, Q, Q, Q, Q, Q, Q, Q, Q, Q, Q, Q, Q, Q, Q, Q, Q, Q, Q, Q, Q, Q, Q, Q, Q, Q, Q, Q, Q, Q, Q, Q, Q, Q, Q, Q, Q, Q, Q, Q, Q, Q, Q, Q, Q, Q, Q, Q, Q, Q, Q, Q, Q, Q, Q, Q, Q, Q, Q, Q, Q, Q, Q, Q, Q, Q, Q, Q, Q, Q, Q, Q, Q, Q, Q, Q, Q, Q, Q, Q, Q, Q, Q, Q, Q, Q, Q, Q, Q, Q, Q, Q, Q, Q, Q, Q, Q, Q, Q, Q, Q, Q, Q, Q, Q, Q, Q, Q, Q, Q, Q, Q, Q, Q, Q, Q, Q, Q, Q, Q, Q, Q, Q, Q, Q, Q, Q, Q, Q, Q, Q, Q, Q, Q, Q, Q, Q, Q, Q, Q, Q, Q, Q, Q, Q, Q, Q, Q, Q, Q, Q, Q], []⟩ m
noncomputable def k_r08_one_5 (v0 v1 v7 : AV) (m : Mem) : Option (AOut × Mem) := K_r08_one_5 ⟨[v0, v1, Q, Q, Q, Q, Q, v7, Q, Q, Q, Q, Q, Q, Q, Q, Q, Q, Q, Q, Q, Q, Q, Q, Q, Q, Q, Q, Q, Q, Q, Q, Q, Q, Q, Q, Q, Q, Q, Q, Q, Q, Q, Q, Q, Q, Q, Q, Q, Q, Q, Q, Q, Q, Q, Q, Q, Q, Q, Q, Q, Q, Q, Q, Q, Q, Q, Q, Q, Q, Q, Q, Q, Q, Q, Q, Q, Q, Q, Q, Q, Q, Q, Q, Q, Q, Q, Q, Q, Q, Q, Q, Q, Q, Q, Q, Q, Q, Q, Q, Q, Q, Q, Q, Q, Q, Q, Q, Q, Q, Q, Q, Q, Q, Q, Q, Q, Q, Q, Q, Q, Q, Q, Q, Q, Q, Q, Q, Q, Q, Q, Q, Q, Q, Q, Q, Q, Q, Q, Q, Q, Q, Q, Q, Q, Q, Q, Q, Q, Q, Q, Q, Q, Q, Q, Q, Q, Q, Q, Q, Q, Q, Q], []⟩ m
noncomputable def k_r08_one_6 (v0 v1 v7 v114 : AV) (m : Mem) : Option (AOut × Mem) := K_r08_one_6 ⟨[v0, v1, Q, Q, Q, Q, Q, v7, Q, Q, Q, Q, Q, Q, Q, Q, Q, Q, Q, Q, Q, Q, Q, Q, Q, Q, Q, Q, Q, Q, Q, Q, Q, Q, Q, Q, Q, Q, Q, Q, Q, Q, Q, Q, Q, Q, Q, Q, Q, Q, Q, Q, Q, Q, Q, Q, Q, Q, Q, Q, Q, Q, Q, Q, Q, Q, Q, Q, Q, Q, Q, Q, Q, Q, Q, Q, Q, Q, Q, Q, Q, Q, Q, Q, Q, Q, Q, Q, Q, Q, Q, Q, Q, Q, Q, Q, Q, Q, Q, Q, Q, Q, Q, Q, Q, Q, Q, Q, Q, Q, Q, Q, Q, Q, v114, Q, Q, Q, Q, Q, Q, Q, Q, Q, Q, Q, Q, Q, Q, Q, Q, Q, Q, Q, Q, Q, Q, Q, Q, Q, Q, Q, Q, Q, Q, Q, Q, Q, Q, Q, Q, Q, Q, Q, Q, Q, Q, Q, Q, Q, Q, Q, Q], []⟩ m
noncomputable def k_r08_one_7 (v0 v7 : AV) (m : Mem) : Option (AOut × Mem) := K_r08_one_7 ⟨[v0, Q, Q, Q, Q, Q, Q, v7, Q, Q, Q, Q, Q, Q, Q, Q, Q, Q, Q, Q, Q, Q, Q, Q, Q, Q, Q, Q, Q, Q, Q, Q, Q, Q, Q, Q, Q, Q, Q, Q, Q, Q, Q, Q, Q, Q, Q, Q, Q, Q, Q, Q, Q, Q, Q, Q, Q, Q, Q, Q, Q, Q, Q, Q, Q, Q, Q, Q, Q, Q, Q, Q, Q, Q, Q, Q, Q, Q, Q, Q, Q, Q, Q, Q, Q, Q, Q, Q, Q, Q, Q, Q, Q, Q, Q, Q, Q, Q, Q, Q, Q, Q, Q, Q, Q, Q, Q, Q, Q, Q, Q, Q, Q, Q, Q, Q, Q, Q, Q, Q, Q, Q, Q, Q, Q, Q, Q, Q, Q, Q, Q, Q, Q, Q, Q, Q, Q, Q, Q, Q, Q, Q, Q, Q, Q, Q, Q, Q, Q, Q, Q, Q, Q, Q, Q, Q, Q, Q, Q, Q, Q, Q, Q], []⟩ m
noncomputable def k_r08_one_8 (v0 v7 v97 : AV) (m : Mem) : Option (AOut × Mem) := K_r08_one_8 ⟨[v0, Q, Q, Q, Q, Q, Q, v7, Q, Q, Q, Q, Q, Q, Q, Q, Q, Q, Q, Q, Q, Q, Q, Q, Q, Q, Q, Q, Q, Q, Q, Q, Q, Q, Q, Q, Q, Q, Q, Q, Q, Q, Q, Q, Q, Q, Q, Q, Q, Q, Q, Q, Q, Q, Q, Q, Q, Q, Q, Q, Q, Q, Q, Q, Q, Q, Q, Q, Q, Q, Q, Q, Q, Q, Q, Q, Q, Q, Q, Q, Q, Q, Q, Q, Q, Q, Q, Q, Q, Q, Q, Q, Q, Q, Q, Q, Q, v97, Q, Q, Q, Q, Q, Q, Q, Q, Q, Q, Q, Q, Q, Q, Q, Q, Q, Q, Q, Q, Q, Q, Q, Q, Q, Q, Q, Q, Q, Q, Q, Q, Q, Q, Q, Q, Q, Q, Q, Q, Q, Q, Q, Q, Q, Q, Q, Q, Q, Q, Q, Q, Q, Q, Q, Q, Q, Q, Q, Q, Q, Q, Q, Q, Q], []⟩ m
noncomputable def k_r08_one_9 (v6 v7 v8 : AV) (m : Mem) : Option (AOut × Mem) := K_r08_one_9 ⟨[Q, Q, Q, Q, Q, Q, v6, v7, v8, Q, Q, Q, Q, Q, Q, Q, Q, Q, Q, Q, Q, Q, Q, Q, Q, Q, Q, Q, Q, Q, Q, Q, Q, Q, Q, Q, Q, Q, Q, Q, Q, Q, Q, Q, Q, Q, Q, Q, Q, Q, Q, Q, Q, Q, Q, Q, Q, Q, Q, Q, Q, Q, Q, Q, Q, Q, Q, Q, Q, Q, Q, Q, Q, Q, Q, Q, Q, Q, Q, Q, Q, Q, Q, Q, Q, Q, Q, Q, Q, Q, Q, Q, Q, Q, Q, Q, Q, Q, Q, Q, Q, Q, Q, Q, Q, Q, Q, Q, Q, Q, Q, Q, Q, Q, Q, Q, Q, Q, Q, Q, Q, Q, Q, Q, Q, Q, Q, Q, Q, Q, Q, Q, Q, Q, Q, Q, Q, Q, Q, Q, Q, Q, Q, Q, Q, Q, Q, Q, Q, Q, Q, Q, Q, Q, Q, Q, Q, Q, Q, Q, Q, Q, Q], []⟩ m
noncomputable def k_r08_one_10 (v0 v1 v6 v7 : AV) (m : Mem) : Option (AOut × Mem) := K_r08_one_10 ⟨[v0, v1, Q, Q, Q, Q, v6, v7, Q, Q, Q, Q, Q, Q, Q, Q, Q, Q, Q, Q, Q, Q, Q, Q, Q, Q, Q, Q, Q, Q, Q, Q, Q, Q, Q, Q, Q, Q, Q, Q, Q, Q, Q, Q, Q, Q, Q, Q, Q, Q, Q, Q, Q, Q, Q, Q, Q, Q, Q, Q, Q, Q, Q, Q, Q, Q, Q, Q, Q, Q, Q, Q, Q, Q, Q, Q, Q, Q, Q, Q, Q, Q, Q, Q, Q, Q, Q, Q, Q, Q, Q, Q, Q, Q, Q, Q, Q, Q, Q, Q, Q, Q, Q, Q, Q, Q, Q, Q, Q, Q, Q, Q, Q, Q, Q, Q, Q, Q, Q, Q, Q, Q, Q, Q, Q, Q, Q, Q, Q, Q, Q, Q, Q, Q, Q, Q, Q, Q, Q, Q, Q, Q, Q, Q, Q, Q, Q, Q, Q, Q, Q, Q, Q, Q, Q, Q, Q, Q, Q, Q, Q, Q, Q], []⟩ m
noncomputable def k_r08_one_11 (v0 v1 v6 v7 v61 : AV) (m : Mem) : Option (AOut × Mem) := K_r08_one_11 ⟨[v0, v1, Q, Q, Q, Q, v6, v7, Q, Q, Q, Q, Q, Q, Q, Q, Q, Q, Q, Q, Q, Q, Q, Q, Q, Q, Q, Q, Q, Q, Q, Q, Q, Q, Q, Q, Q, Q, Q, Q, Q, Q, Q, Q, Q, Q, Q, Q, Q, Q, Q, Q, Q, Q, Q, Q, Q, Q, Q, Q, Q, v61, Q, Q, Q, Q, Q, Q, Q, Q, Q, Q, Q, Q, Q, Q, Q, Q, Q, Q, Q, Q, Q, Q, Q, Q, Q, Q, Q, Q, Q, Q, Q, Q, Q, Q, Q, Q, Q, Q, Q, Q, Q, Q, Q, Q, Q, Q, Q, Q, Q, Q, Q, Q, Q, Q, Q, Q, Q, Q, Q, Q, Q, Q, Q, Q, Q, Q, Q, Q, Q, Q, Q, Q, Q, Q, Q, Q, Q, Q, Q, Q, Q, Q, Q, Q, Q, Q, Q, Q, Q, Q, Q, Q, Q, Q, Q, Q, Q, Q, Q, Q, Q], []⟩ m
noncomputable def k_r08_one_12 (v0 v1 v11 v12 : AV) (m : Mem) : Option (AOut × Mem) := K_r08_one_12 ⟨[v0, v1, Q, Q, Q, Q, Q, Q, Q, Q, Q, v11, v12, Q, Q, Q, Q, Q, Q, Q, Q, Q, Q, Q, Q, Q, Q, Q, Q, Q, Q, Q, Q, Q, Q, Q, Q, Q, Q, Q, Q, Q, Q, Q, Q, Q, Q, Q, Q, Q, Q, Q, Q, Q, Q, Q, Q, Q, Q, Q, Q, Q, Q, Q, Q, Q, Q, Q, Q, Q, Q, Q, Q, Q, Q, Q, Q, Q, Q, Q, Q, Q, Q, Q, Q, Q, Q, Q, Q, Q, Q, Q, Q, Q, Q, Q, Q, Q, Q, Q, Q, Q, Q, Q, Q, Q, Q, Q, Q, Q, Q, Q, Q, Q, Q, Q, Q, Q, Q, Q, Q, Q, Q, Q, Q, Q, Q, Q, Q, Q, Q, Q, Q, Q, Q, Q, Q, Q, Q, Q, Q, Q, Q, Q, Q, Q, Q, Q, Q, Q, Q, Q, Q, Q, Q, Q, Q, Q, Q, Q, Q, Q, Q], []⟩ m
noncomputable def l_r08_one_8 (v0 v1 v11 v12 : AV) (m : Mem) : Option (AOut × Mem) := L_r08_one_8 ⟨[v0, v1, Q, Q, Q, Q, Q, Q, Q, Q, Q, v11, v12, Q, Q, Q, Q, Q, Q, Q, Q, Q, Q, Q, Q, Q, Q, Q, Q, Q, Q, Q, Q, Q, Q, Q, Q, Q, Q, Q, Q, Q, Q, Q, Q, Q, Q, Q, Q, Q, Q, Q, Q, Q, Q, Q, Q, Q, Q, Q, Q, Q, Q, Q, Q, Q, Q, Q, Q, Q, Q, Q, Q, Q, Q, Q, Q, Q, Q, Q, Q, Q, Q, Q, Q, Q, Q, Q, Q, Q, Q, Q, Q, Q, Q, Q, Q, Q, Q, Q, Q, Q, Q, Q, Q, Q, Q, Q, Q, Q, Q, Q, Q, Q, Q, Q, Q, Q, Q, Q, Q, Q, Q, Q, Q, Q, Q, Q, Q, Q, Q, Q, Q, Q, Q, Q, Q, Q, Q, Q, Q, Q, Q, Q, Q, Q, Q, Q, Q, Q, Q, Q, Q, Q, Q, Q, Q, Q, Q, Q, Q, Q, Q], []⟩ m
noncomputable def k_r08_one_13 (v0 v7 : AV) (m : Mem) : Option (AOut × Mem) := K_r08_one_13 ⟨[v0, Q, Q, Q, Q, Q, Q, v7, Q, Q, Q, Q, Q, Q, Q, Q, Q, Q, Q, Q, Q, Q, Q, Q, Q, Q, Q, Q, Q, Q, Q, Q, Q, Q, Q, Q, Q, Q, Q, Q, Q, Q, Q, Q, Q, Q, Q, Q, Q, Q, Q, Q, Q, Q, Q, Q, Q, Q, Q, Q, Q, Q, Q, Q, Q, Q, Q, Q, Q, Q, Q, Q, Q, Q, Q, Q, Q, Q, Q, Q, Q, Q, Q, Q, Q, Q, Q, Q, Q, Q, Q, Q, Q, Q, Q, Q, Q, Q, Q, Q, Q, Q, Q, Q, Q, Q, Q, Q, Q, Q, Q, Q, Q, Q, Q, Q, Q, Q, Q, Q, Q, Q, Q, Q, Q, Q, Q, Q, Q, Q, Q, Q, Q, Q, Q, Q, Q, Q, Q, Q, Q, Q, Q, Q, Q, Q, Q, Q, Q, Q, Q, Q, Q, Q, Q, Q, Q, Q, Q, Q, Q, Q, Q], []⟩ m
noncomputable def l_r08_one_6 (v0 v7 : AV) (m : Mem) : Option (AOut × Mem) := L_r08_one_6 ⟨[v0, Q, Q, Q, Q, Q, Q, v7, Q, Q, Q, Q, Q, Q, Q, Q, Q, Q, Q, Q, Q, Q, Q, Q, Q, Q, Q, Q, Q, Q, Q, Q, Q, Q, Q, Q, Q, Q, Q, Q, Q, Q, Q, Q, Q, Q, Q, Q, Q, Q, Q, Q, Q, Q, Q, Q, Q, Q, Q, Q, Q, Q, Q, Q, Q, Q, Q, Q, Q, Q, Q, Q, Q, Q, Q, Q, Q, Q, Q, Q, Q, Q, Q, Q, Q, Q, Q, Q, Q, Q, Q, Q, Q, Q, Q, Q, Q, Q, Q, Q, Q, Q, Q, Q, Q, Q, Q, Q, Q, Q, Q, Q, Q, Q, Q, Q, Q, Q, Q, Q, Q, Q, Q, Q, Q, Q, Q, Q, Q, Q, Q, Q, Q, Q, Q, Q, Q, Q, Q, Q, Q, Q, Q, Q, Q, Q, Q, Q, Q, Q, Q, Q, Q, Q, Q, Q, Q, Q, Q, Q, Q, Q, Q], []⟩ m
noncomputable def k_r08_one_14 (v7 v8 : AV) (m : Mem) : Option (AOut × Mem) := K_r08_one_14 ⟨[Q, Q, Q, Q, Q, Q, Q, v7, v8, Q, Q, Q, Q, Q, Q, Q, Q, Q, Q, Q, Q, Q, Q, Q, Q, Q, Q, Q, Q, Q, Q, Q, Q, Q, Q, Q, Q, Q, Q, Q, Q, Q, Q, Q, Q, Q, Q, Q, Q, Q, Q, Q, Q, Q, Q, Q, Q, Q, Q, Q, Q, Q, Q, Q, Q, Q, Q, Q, Q, Q, Q, Q, Q, Q, Q, Q, Q, Q, Q, Q, Q, Q, Q, Q, Q, Q, Q, Q, Q, Q, Q, Q, Q, Q, Q, Q, Q, Q, Q, Q, Q, Q, Q, Q, Q, Q, Q, Q, Q, Q, Q, Q, Q, Q, Q, Q, Q, Q, Q, Q, Q, Q, Q, Q, Q, Q, Q, Q, Q, Q, Q, Q, Q, Q, Q, Q, Q, Q, Q, Q, Q, Q, Q, Q, Q, Q, Q, Q, Q, Q, Q, Q, Q, Q, Q, Q, Q, Q, Q, Q, Q, Q, Q], []⟩ m
noncomputable def k_r08_one_15 (v0 v1 v11 v12 : AV) (m : Mem) : Option (AOut × Mem) := K_r08_one_15 ⟨[v0, v1, Q, Q, Q, Q, Q, Q, Q, Q, Q, v11, v12, Q, Q, Q, Q, Q, Q, Q, Q, Q, Q, Q, Q, Q, Q, Q, Q, Q, Q, Q, Q, Q, Q, Q, Q, Q, Q, Q, Q, Q, Q, Q, Q, Q, Q, Q, Q, Q, Q, Q, Q, Q, Q, Q, Q, Q, Q, Q, Q, Q, Q, Q, Q, Q, Q, Q, Q, Q, Q, Q, Q, Q, Q, Q, Q, Q, Q, Q, Q, Q, Q, Q, Q, Q, Q, Q, Q, Q, Q, Q, Q, Q, Q, Q, Q, Q, Q, Q, Q, Q, Q, Q, Q, Q, Q, Q, Q, Q, Q, Q, Q, Q, Q, Q, Q, Q, Q, Q, Q, Q, Q, Q, Q, Q, Q, Q, Q, Q, Q, Q, Q, Q, Q, Q, Q, Q, Q, Q, Q, Q, Q, Q, Q, Q, Q, Q, Q, Q, Q, Q, Q, Q, Q, Q, Q, Q, Q, Q, Q, Q, Q], []⟩ m
noncomputable def k_r08_one_16 (v0 v7 : AV) (m : Mem) : Option (AOut × Mem) := K_r08_one_16 ⟨[v0, Q, Q, Q, Q, Q, Q, v7, Q, Q, Q, Q, Q, Q, Q, Q, Q, Q, Q, Q, Q, Q, Q, Q, Q, Q, Q, Q, Q, Q, Q, Q, Q, Q, Q, Q, Q, Q, Q, Q, Q, Q, Q, Q, Q, Q, Q, Q, Q, Q, Q, Q, Q, Q, Q, Q, Q, Q, Q, Q, Q, Q, Q, Q, Q, Q, Q, Q, Q, Q, Q, Q, Q, Q, Q, Q, Q, Q, Q, Q, Q, Q, Q, Q, Q, Q, Q, Q, Q, Q, Q, Q, Q, Q, Q, Q, Q, Q, Q, Q, Q, Q, Q, Q, Q, Q, Q, Q, Q, Q, Q, Q, Q, Q, Q, Q, Q, Q, Q, Q, Q, Q, Q, Q, Q, Q, Q, Q, Q, Q, Q, Q, Q, Q, Q, Q, Q, Q, Q, Q, Q, Q, Q, Q, Q, Q, Q, Q, Q, Q, Q, Q, Q, Q, Q, Q, Q, Q, Q, Q, Q, Q, Q], []⟩ m
noncomputable def k_r08_one_17 (v0 v7 v142 : AV) (m : Mem) : Option (AOut × Mem) := K_r08_one_17 ⟨[v0, Q, Q, Q, Q, Q, Q, v7, Q, Q, Q, Q, Q, Q, Q, Q, Q, Q, Q, Q, Q, Q, Q, Q, Q, Q, Q, Q, Q, Q, Q, Q, Q, Q, Q, Q, Q, Q, Q, Q, Q, Q, Q, Q, Q, Q, Q, Q, Q, Q, Q, Q, Q, Q, Q, Q, Q, Q, Q, Q, Q, Q, Q, Q, Q, Q, Q, Q, Q, Q, Q, Q, Q, Q, Q, Q, Q, Q, Q, Q, Q, Q, Q, Q, Q, Q, Q, Q, Q, Q, Q, Q, Q, Q, Q, Q, Q, Q, Q, Q, Q, Q, Q, Q, Q, Q, Q, Q, Q, Q, Q, Q, Q, Q, Q, Q, Q, Q, Q, Q, Q, Q, Q, Q, Q, Q, Q, Q, Q, Q, Q, Q, Q, Q, Q, Q, Q, Q, Q, Q, Q, Q, v142, Q, Q, Q, Q, Q, Q, Q, Q, Q, Q, Q, Q, Q, Q, Q, Q, Q, Q, Q, Q], []⟩ m
noncomputable def k_r08_one_18 (v7 v8 v9 v10 : AV) (m : Mem) : Option (AOut × Mem) := K_r08_one_18 ⟨[Q, Q, Q, Q, Q, Q, Q, v7, v8, v9, v10, Q, Q, Q, Q, Q, Q, Q, Q, Q, Q, Q, Q, Q, Q, Q, Q, Q, Q, Q, Q, Q, Q, Q, Q, Q, Q, Q, Q, Q, Q, Q, Q, Q, Q, Q, Q, Q, Q, Q, Q, Q, Q, Q, Q, Q, Q, Q, Q, Q, Q, Q, Q, Q, Q, Q, Q, Q, Q, Q, Q, Q, Q, Q, Q, Q, Q, Q, Q, Q, Q, Q, Q, Q, Q, Q, Q, Q, Q, Q, Q, Q, Q, Q, Q, Q, Q, Q, Q, Q, Q, Q, Q, Q, Q, Q, Q, Q, Q, Q, Q, Q, Q, Q, Q, Q, Q, Q, Q, Q, Q, Q, Q, Q, Q, Q, Q, Q, Q, Q, Q, Q, Q, Q, Q, Q, Q, Q, Q, Q, Q, Q, Q, Q, Q, Q, Q, Q, Q, Q, Q, Q, Q, Q, Q, Q, Q, Q, Q, Q, Q, Q, Q], []⟩ m
noncomputable def l_r08_one_2 (v7 v8 v9 v10 : AV) (m : Mem) : Option (AOut × Mem) := L_r08_one_2 ⟨[Q, Q, Q, Q, Q, Q, Q, v7, v8, v9, v10, Q, Q, Q, Q, Q, Q, Q, Q, Q, Q, Q, Q, Q, Q, Q, Q, Q, Q, Q, Q, Q, Q, Q, Q, Q, Q, Q, Q, Q, Q, Q, Q, Q, Q, Q, Q, Q, Q, Q, Q, Q, Q, Q, Q, Q, Q, Q, Q, Q, Q, Q, Q, Q, Q, Q, Q, Q, Q, Q, Q, Q, Q, Q, Q, Q, Q, Q, Q, Q, Q, Q, Q, Q, Q, Q, Q, Q, Q, Q, Q, Q, Q, Q, Q, Q, Q, Q, Q, Q, Q, Q, Q, Q, Q, Q, Q, Q, Q, Q, Q, Q, Q, Q, Q, Q, Q, Q, Q, Q, Q, Q, Q, Q, Q, Q, Q, Q, Q, Q, Q, Q, Q, Q, Q, Q, Q, Q, Q, Q, Q, Q, Q, Q, Q, Q, Q, Q, Q, Q, Q, Q, Q, Q, Q, Q, Q, Q, Q, Q, Q, Q, Q], []⟩ m
noncomputable def k_r08_one_19 (v0 v1 v11 v12 : AV) (m : Mem) : Option (AOut × Mem) := K_r08_one_19 ⟨[v0, v1, Q, Q, Q, Q, Q, Q, Q, Q, Q, v11, v12, Q, Q, Q, Q, Q, Q, Q, Q, Q, Q, Q, Q, Q, Q, Q, Q, Q, Q, Q, Q, Q, Q, Q, Q, Q, Q, Q, Q, Q, Q, Q, Q, Q, Q, Q, Q, Q, Q, Q, Q, Q, Q, Q, Q, Q, Q, Q, Q, Q, Q, Q, Q, Q, Q, Q, Q, Q, Q, Q, Q, Q, Q, Q, Q, Q, Q, Q, Q, Q, Q, Q, Q, Q, Q, Q, Q, Q, Q, Q, Q, Q, Q, Q, Q, Q, Q, Q, Q, Q, Q, Q, Q, Q, Q, Q, Q, Q, Q, Q, Q, Q, Q, Q, Q, Q, Q, Q, Q, Q, Q, Q, Q, Q, Q, Q, Q, Q, Q, Q, Q, Q, Q, Q, Q, Q, Q, Q, Q, Q, Q, Q, Q, Q, Q, Q, Q, Q, Q, Q, Q, Q, Q, Q, Q, Q, Q, Q, Q, Q, Q], []⟩ m
noncomputable def k_r08_one_20 (v7 v8 v9 v10 : AV) (m : Mem) : Option (AOut × Mem) := K_r08_one_20 ⟨[Q, Q, Q, Q, Q, Q, Q, v7, v8, v9, v10, Q, Q, Q, Q, Q, Q, Q, Q, Q, Q, Q, Q, Q, Q, Q, Q, Q, Q, Q, Q, Q, Q, Q, Q, Q, Q, Q, Q, Q, Q, Q, Q, Q, Q, Q, Q, Q, Q, Q, Q, Q, Q, Q, Q, Q, Q, Q, Q, Q, Q, Q, Q, Q, Q, Q, Q, Q, Q, Q, Q, Q, Q, Q, Q, Q, Q, Q, Q, Q, Q, Q, Q, Q, Q, Q, Q, Q, Q, Q, Q, Q, Q, Q, Q, Q, Q, Q, Q, Q, Q, Q, Q, Q, Q, Q, Q, Q, Q, Q, Q, Q, Q, Q, Q, Q, Q, Q, Q, Q, Q, Q, Q, Q, Q, Q, Q, Q, Q, Q, Q, Q, Q, Q, Q, Q, Q, Q, Q, Q, Q, Q, Q, Q, Q, Q, Q, Q, Q, Q, Q, Q, Q, Q, Q, Q, Q, Q, Q, Q, Q, Q, Q], []⟩ m
noncomputable def k_r08_one_21 (v7 v8 v9 v10 : AV) (m : Mem) : Option (AOut × Mem) := K_r08_one_21 ⟨[Q, Q, Q, Q, Q, Q, Q, v7, v8, v9, v10, Q, Q, Q, Q, Q, Q, Q, Q, Q, Q, Q, Q, Q, Q, Q, Q, Q, Q, Q, Q, Q, Q, Q, Q, Q, Q, Q, Q, Q, Q, Q, Q, Q, Q, Q, Q, Q, Q, Q, Q, Q, Q, Q, Q, Q, Q, Q, Q, Q, Q, Q, Q, Q, Q, Q, Q, Q, Q, Q, Q, Q, Q, Q, Q, Q, Q, Q, Q, Q, Q, Q, Q, Q, Q, Q, Q, Q, Q, Q, Q, Q, Q, Q, Q, Q, Q, Q, Q, Q, Q, Q, Q, Q, Q, Q, Q, Q, Q, Q, Q, Q, Q, Q, Q, Q, Q, Q, Q, Q, Q, Q, Q, Q, Q, Q, Q, Q, Q, Q, Q, Q, Q, Q, Q, Q, Q, Q, Q, Q, Q, Q, Q, Q, Q, Q, Q, Q, Q, Q, Q, Q, Q, Q, Q, Q, Q, Q, Q, Q, Q, Q, Q], []⟩ m
theorem e_r08_one (v0 v1 : AV) (m : Mem) : w_r08_one v0 v1 m =
  bnd (rIxStr v0 v1) fun v15 =>
  bnd (aBin X.T .add T_int false true v1 (.int .i64 1)) fun v17 =>
  retK (w_r08_small v15 m) (fun v19 m1 =>
  onWant v19
    (k_r08_one_1 v0 v1 v15 v17 (.bool true) m1)
    (retK (w_r08_great v15 m1) (fun v22 m2 =>
  onWant v22
    (k_r08_one_1 v0 v1 v15 v17 (.bool true) m2)
    (bnd (aBin X.T .eql T_uint8 false true v15 (.int .u8 95)) fun v26 =>
  k_r08_one_1 v0 v1 v15 v17 v26 m2)
    (none)) (fun u m2 => some (.pan u, m2)))
    (none)) (fun u m1 => some (.pan u, m1)) := (aW_F (c := c_r08_one) (fn := Try.f37) (by kernel_rfl) (by kernel_rfl) (by kernel_rfl) _ m).trans (by kernel_rfl)
theorem k_r08_one_0_eq (v0 v1 v6 v7 : AV) (m : Mem) : k_r08_one_0 v0 v1 v6 v7 m =
  retK (w_r08_digit v6 m) (fun v87 m1 =>
  onBool v87
    (l_r08_one_4 v0 v7 m1)
    (k_r08_one_2 v0 v1 v6 v7 m1)) (fun u m1 => some (.pan u, m1)) := by kernel_rfl
theorem k_r08_one_1_eq (v0 v1 v6 v7 v27 : AV) (m : Mem) : k_r08_one_1 v0 v1 v6 v7 v27 m =
  onBool v27
    (l_r08_one_0 v0 v1 v6 v7 m)
    (k_r08_one_0 v0 v1 v6 v7 m) := by kernel_rfl
theorem k_r08_one_2_eq (v0 v1 v6 v7 : AV) (m : Mem) : k_r08_one_2 v0 v1 v6 v7 m =
  bnd (aBin X.T .eql T_uint8 false true v6 (.int .u8 39)) fun v102 =>
  onWant v102
    (bnd (rLenStr v0) fun v106 =>
  bnd (aBin X.T .lss T_int false false v7 v106) fun v107 =>
  onWant v107
    (bnd (rIxStr v0 v7) fun v112 =>
  retK (w_r08_small v112 m) (fun v113 m1 =>
  k_r08_one_6 v0 v1 v7 v113 m1) (fun u m1 => some (.pan u, m1)))
    (k_r08_one_6 v0 v1 v7 (.bool false) m)
    (none))
    (k_r08_one_6 v0 v1 v7 (.bool false) m)
    (none) := by kernel_rfl
theorem k_r08_one_3_eq (v0 v7 : AV) (m : Mem) : k_r08_one_3 v0 v7 m =
  some (.ret (.tup [(.int .i64 3), v7]), m) := by kernel_rfl
theorem l_r08_one_4_u (v0 v7 : AV) (m : Mem) : l_r08_one_4 v0 v7 m = loopK X F_r08_one 4 (sB (sB (sL (sL (sR (sL (sR (sR (sR (sR c_r08_one)))))))))) B_r08_one_4 ⟨[v0, Q, Q, Q, Q, Q, Q, v7, Q, Q, Q, Q, Q, Q, Q, Q, Q, Q, Q, Q, Q, Q, Q, Q, Q, Q, Q, Q, Q, Q, Q, Q, Q, Q, Q, Q, Q, Q, Q, Q, Q, Q, Q, Q, Q, Q, Q, Q, Q, Q, Q, Q, Q, Q, Q, Q, Q, Q, Q, Q, Q, Q, Q, Q, Q, Q, Q, Q, Q, Q, Q, Q, Q, Q, Q, Q, Q, Q, Q, Q, Q, Q, Q, Q, Q, Q, Q, Q, Q, Q, Q, Q, Q, Q, Q, Q, Q, Q, Q, Q, Q, Q, Q, Q, Q, Q, Q, Q, Q, Q, Q, Q, Q, Q, Q, Q, Q, Q, Q, Q, Q, Q, Q, Q, Q, Q, Q, Q, Q, Q, Q, Q, Q, Q, Q, Q, Q, Q, Q, Q, Q, Q, Q, Q, Q, Q, Q, Q, Q, Q, Q, Q, Q, Q, Q, Q, Q, Q, Q, Q, Q, Q, Q], []⟩ m := by kernel_rfl
theorem l_r08_one_4_r (v0 v7 : AV) (m : Mem) : roundF X F_r08_one 4 (sB (sB (sL (sL (sR (sL (sR (sR (sR (sR c_r08_one)))))))))) B_r08_one_4 [v0, Q, Q, Q, Q, Q, Q, v7, Q, Q, Q, Q, Q, Q, Q, Q, Q, Q, Q, Q, Q, Q, Q, Q, Q, Q, Q, Q, Q, Q, Q, Q, Q, Q, Q, Q, Q, Q, Q, Q, Q, Q, Q, Q, Q, Q, Q, Q, Q, Q, Q, Q, Q, Q, Q, Q, Q, Q, Q, Q, Q, Q, Q, Q, Q, Q, Q, Q, Q, Q, Q, Q, Q, Q, Q, Q, Q, Q, Q, Q, Q, Q, Q, Q, Q, Q, Q, Q, Q, Q, Q, Q, Q, Q, Q, Q, Q, Q, Q, Q, Q, Q, Q, Q, Q, Q, Q, Q, Q, Q, Q, Q, Q, Q, Q, Q, Q, Q, Q, Q, Q, Q, Q, Q, Q, Q, Q, Q, Q, Q, Q, Q, Q, Q, Q, Q, Q, Q, Q, Q, Q, Q, Q, Q, Q, Q, Q, Q, Q, Q, Q, Q, Q, Q, Q, Q, Q, Q, Q, Q, Q, Q, Q] m =
  bnd (rLenStr v0) fun v90 =>
  bnd (aBin X.T .lss T_int false false v7 v90) fun v91 =>
  onWant v91
    (bnd (rIxStr v0 v7) fun v95 =>
  retK (w_r08_digit v95 m) (fun v96 m1 =>
  k_r08_one_8 v0 v7 v96 m1) (fun u m1 => some (.pan u, m1)))
    (k_r08_one_8 v0 v7 (.bool false) m)
    (none) := by kernel_rfl
theorem l_r08_one_4_eq (v0 v7 : AV) (m : Mem) : l_r08_one_4 v0 v7 m =
  bnd (rLenStr v0) fun v90 =>
  bnd (aBin X.T .lss T_int false false v7 v90) fun v91 =>
  onWant v91
    (bnd (rIxStr v0 v7) fun v95 =>
  retK (w_r08_digit v95 m) (fun v96 m1 =>
  k_r08_one_8 v0 v7 v96 m1) (fun u m1 => some (.pan u, m1)))
    (k_r08_one_8 v0 v7 (.bool false) m)
    (none) := roundF_of (l_r08_one_4_u v0 v7 m) (l_r08_one_4_r v0 v7 m)
theorem k_r08_one_4_eq (v0 v1 v6 v7 : AV) (m : Mem) : k_r08_one_4 v0 v1 v6 v7 m =
  bnd (rSliceStr v0 (some v1) (some v7)) fun v67 =>
  bnd (aBin X.T .eql T_string false true v67 (.str (bs [95]))) fun v69 =>
  onBool v69
    (some (.ret (.tup [(.int .i64 6), v7]), m))
    (k_r08_one_9 v6 v7 v67 m) := by kernel_rfl
theorem l_r08_one_0_u (v0 v1 v6 v7 : AV) (m : Mem) : l_r08_one_0 v0 v1 v6 v7 m = loopK X F_r08_one 0 (sB (sB (sL (sL (sR (sL (sR (sR (sR c_r08_one))))))))) B_r08_one_0 ⟨[v0, v1, Q, Q, Q, Q, v6, v7, Q, Q, Q, Q, Q, Q, Q, Q, Q, Q, Q, Q, Q, Q, Q, Q, Q, Q, Q, Q, Q, Q, Q, Q, Q, Q, Q, Q, Q, Q, Q, Q, Q, Q, Q, Q, Q, Q, Q, Q, Q, Q, Q, Q, Q, Q, Q, Q, Q, Q, Q, Q, Q, Q, Q, Q, Q, Q, Q, Q, Q, Q, Q, Q, Q, Q, Q, Q, Q, Q, Q, Q, Q, Q, Q, Q, Q, Q, Q, Q, Q, Q, Q, Q, Q, Q, Q, Q, Q, Q, Q, Q, Q, Q, Q, Q, Q, Q, Q, Q, Q, Q, Q, Q, Q, Q, Q, Q, Q, Q, Q, Q, Q, Q, Q, Q, Q, Q, Q, Q, Q, Q, Q, Q, Q, Q, Q, Q, Q, Q, Q, Q, Q, Q, Q, Q, Q, Q, Q, Q, Q, Q, Q, Q, Q, Q, Q, Q, Q, Q, Q, Q, Q, Q, Q], []⟩ m := by kernel_rfl
theorem l_r08_one_0_r (v0 v1 v6 v7 : AV) (m : Mem) : roundF X F_r08_one 0 (sB (sB (sL (sL (sR (sL (sR (sR (sR c_r08_one))))))))) B_r08_one_0 [v0, v1, Q, Q, Q, Q, v6, v7, Q, Q, Q, Q, Q, Q, Q, Q, Q, Q, Q, Q, Q, Q, Q, Q, Q, Q, Q, Q, Q, Q, Q, Q, Q, Q, Q, Q, Q, Q, Q, Q, Q, Q, Q, Q, Q, Q, Q, Q, Q, Q, Q, Q, Q, Q, Q, Q, Q, Q, Q, Q, Q, Q, Q, Q, Q, Q, Q, Q, Q, Q, Q, Q, Q, Q, Q, Q, Q, Q, Q, Q, Q, Q, Q, Q, Q, Q, Q, Q, Q, Q, Q, Q, Q, Q, Q, Q, Q, Q, Q, Q, Q, Q, Q, Q, Q, Q, Q, Q, Q, Q, Q, Q, Q, Q, Q, Q, Q, Q, Q, Q, Q, Q, Q, Q, Q, Q, Q, Q, Q, Q, Q, Q, Q, Q, Q, Q, Q, Q, Q, Q, Q, Q, Q, Q, Q, Q, Q, Q, Q, Q, Q, Q, Q, Q, Q, Q, Q, Q, Q, Q, Q, Q, Q] m =
  bnd (rLenStr v0) fun v30 =>
  bnd (aBin X.T .lss T_int false false v7 v30) fun v31 =>
  onWant v31
    (bnd (rIxStr v0 v7) fun v35 =>
  retK (w_r08_small v35 m) (fun v36 m1 =>
  onWant v36
    (k_r08_one_11 v0 v1 v6 v7 (.bool true) m1)
    (bnd (rIxStr v0 v7) fun v40 =>
  retK (w_r08_great v40 m1) (fun v41 m2 =>
  onWant v41
    (k_r08_one_11 v0 v1 v6 v7 (.bool true) m2)
    (bnd (rIxStr v0 v7) fun v46 =>
  retK (w_r08_digit v46 m2) (fun v47 m3 =>
  onWant v47
    (k_r08_one_11 v0 v1 v6 v7 (.bool true) m3)
    (bnd (rIxStr v0 v7) fun v52 =>
  bnd (aBin X.T .eql T_uint8 false true v52 (.int .u8 95)) fun v53 =>
  onWant v53
    (k_r08_one_11 v0 v1 v6 v7 (.bool true) m3)
    (bnd (rIxStr v0 v7) fun v58 =>
  bnd (aBin X.T .eql T_uint8 false true v58 (.int .u8 39)) fun v59 =>
  k_r08_one_11 v0 v1 v6 v7 v59 m3)
    (none))
    (none)) (fun u m3 => some (.pan u, m3)))
    (none)) (fun u m2 => some (.pan u, m2)))
    (none)) (fun u m1 => some (.pan u, m1)))
    (k_r08_one_11 v0 v1 v6 v7 (.bool false) m)
    (none) := by kernel_rfl
theorem l_r08_one_0_eq (v0 v1 v6 v7 : AV) (m : Mem) : l_r08_one_0 v0 v1 v6 v7 m =
  bnd (rLenStr v0) fun v30 =>
  bnd (aBin X.T .lss T_int false false v7 v30) fun v31 =>
  onWant v31
    (bnd (rIxStr v0 v7) fun v35 =>
  retK (w_r08_small v35 m) (fun v36 m1 =>
  onWant v36
    (k_r08_one_11 v0 v1 v6 v7 (.bool true) m1)
    (bnd (rIxStr v0 v7) fun v40 =>
  retK (w_r08_great v40 m1) (fun v41 m2 =>
  onWant v41
    (k_r08_one_11 v0 v1 v6 v7 (.bool true) m2)
    (bnd (rIxStr v0 v7) fun v46 =>
  retK (w_r08_digit v46 m2) (fun v47 m3 =>
  onWant v47
    (k_r08_one_11 v0 v1 v6 v7 (.bool true) m3)
    (bnd (rIxStr v0 v7) fun v52 =>
  bnd (aBin X.T .eql T_uint8 false true v52 (.int .u8 95)) fun v53 =>
  onWant v53
    (k_r08_one_11 v0 v1 v6 v7 (.bool true) m3)
    (bnd (rIxStr v0 v7) fun v58 =>
  bnd (aBin X.T .eql T_uint8 false true v58 (.int .u8 39)) fun v59 =>
  k_r08_one_11 v0 v1 v6 v7 v59 m3)
    (none))
    (none)) (fun u m3 => some (.pan u, m3)))
    (none)) (fun u m2 => some (.pan u, m2)))
    (none)) (fun u m1 => some (.pan u, m1)))
    (k_r08_one_11 v0 v1 v6 v7 (.bool false) m)
    (none) := roundF_of (l_r08_one_0_u v0 v1 v6 v7 m) (l_r08_one_0_r v0 v1 v6 v7 m)
theorem k_r08_one_5_eq (v0 v1 v7 : AV) (m : Mem) : k_r08_one_5 v0 v1 v7 m =
  retK (w_r08_signs m) (fun v146 m1 =>
  memK (aBox m1 (.agg [.str (bs []), .str (bs []), .str (bs []), .str (bs []), .str (bs []), .str (bs []), .str (bs []), .str (bs []), .str (bs []), .str (bs []), .str (bs []), .str (bs []), .str (bs [])])) fun v11 m2 =>
  bnd (rStore 13 m2 v11 v146) fun m3 =>
  l_r08_one_8 v0 v1 v11 (.int .i64 0) m3) (fun u m1 => some (.pan u, m1)) := by kernel_rfl
theorem k_r08_one_6_eq (v0 v1 v7 v114 : AV) (m : Mem) : k_r08_one_6 v0 v1 v7 v114 m =
  onBool v114
    (l_r08_one_6 v0 v7 m)
    (k_r08_one_5 v0 v1 v7 m) := by kernel_rfl
theorem k_r08_one_7_eq (v0 v7 : AV) (m : Mem) : k_r08_one_7 v0 v7 m =
  bnd (aBin X.T .add T_int false true v7 (.int .i64 1)) fun v99 =>
  l_r08_one_4 v0 v99 m := by kernel_rfl
theorem k_r08_one_8_eq (v0 v7 v97 : AV) (m : Mem) : k_r08_one_8 v0 v7 v97 m =
  onBool v97
    (k_r08_one_7 v0 v7 m)
    (k_r08_one_3 v0 v7 m) := by kernel_rfl
theorem k_r08_one_9_eq (v6 v7 v8 : AV) (m : Mem) : k_r08_one_9 v6 v7 v8 m =
  retK (w_r08_great v6 m) (fun v72 m1 =>
  onBool v72
    (some (.ret (.tup [(.int .i64 2), v7]), m1))
    (k_r08_one_14 v7 v8 m1)) (fun u m1 => some (.pan u, m1)) := by kernel_rfl
theorem k_r08_one_10_eq (v0 v1 v6 v7 : AV) (m : Mem) : k_r08_one_10 v0 v1 v6 v7 m =
  bnd (aBin X.T .add T_int false true v7 (.int .i64 1)) fun v63 =>
  l_r08_one_0 v0 v1 v6 v63 m := by kernel_rfl
theorem k_r08_one_11_eq (v0 v1 v6 v7 v61 : AV) (m : Mem) : k_r08_one_11 v0 v1 v6 v7 v61 m =
  onBool v61
    (k_r08_one_10 v0 v1 v6 v7 m)
    (k_r08_one_4 v0 v1 v6 v7 m) := by kernel_rfl
theorem k_r08_one_12_eq (v0 v1 v11 v12 : AV) (m : Mem) : k_r08_one_12 v0 v1 v11 v12 m =
  some (.ret (.tup [(.int .i64 0), (.int .i64 0)]), m) := by kernel_rfl
theorem l_r08_one_8_u (v0 v1 v11 v12 : AV) (m : Mem) : l_r08_one_8 v0 v1 v11 v12 m = loopK X F_r08_one 8 (sB (sB (sR (sL (sR (sR (sR (sR (sR (sR (sR c_r08_one))))))))))) B_r08_one_8 ⟨[v0, v1, Q, Q, Q, Q, Q, Q, Q, Q, Q, v11, v12, Q, Q, Q, Q, Q, Q, Q, Q, Q, Q, Q, Q, Q, Q, Q, Q, Q, Q, Q, Q, Q, Q, Q, Q, Q, Q, Q, Q, Q, Q, Q, Q, Q, Q, Q, Q, Q, Q, Q, Q, Q, Q, Q, Q, Q, Q, Q, Q, Q, Q, Q, Q, Q, Q, Q, Q, Q, Q, Q, Q, Q, Q, Q, Q, Q, Q, Q, Q, Q, Q, Q, Q, Q, Q, Q, Q, Q, Q, Q, Q, Q, Q, Q, Q, Q, Q, Q, Q, Q, Q, Q, Q, Q, Q, Q, Q, Q, Q, Q, Q, Q, Q, Q, Q, Q, Q, Q, Q, Q, Q, Q, Q, Q, Q, Q, Q, Q, Q, Q, Q, Q, Q, Q, Q, Q, Q, Q, Q, Q, Q, Q, Q, Q, Q, Q, Q, Q, Q, Q, Q, Q, Q, Q, Q, Q, Q, Q, Q, Q, Q], []⟩ m := by kernel_rfl
theorem l_r08_one_8_r (v0 v1 v11 v12 : AV) (m : Mem) : roundF X F_r08_one 8 (sB (sB (sR (sL (sR (sR (sR (sR (sR (sR (sR c_r08_one))))))))))) B_r08_one_8 [v0, v1, Q, Q, Q, Q, Q, Q, Q, Q, Q, v11, v12, Q, Q, Q, Q, Q, Q, Q, Q, Q, Q, Q, Q, Q, Q, Q, Q, Q, Q, Q, Q, Q, Q, Q, Q, Q, Q, Q, Q, Q, Q, Q, Q, Q, Q, Q, Q, Q, Q, Q, Q, Q, Q, Q, Q, Q, Q, Q, Q, Q, Q, Q, Q, Q, Q, Q, Q, Q, Q, Q, Q, Q, Q, Q, Q, Q, Q, Q, Q, Q, Q, Q, Q, Q, Q, Q, Q, Q, Q, Q, Q, Q, Q, Q, Q, Q, Q, Q, Q, Q, Q, Q, Q, Q, Q, Q, Q, Q, Q, Q, Q, Q, Q, Q, Q, Q, Q, Q, Q, Q, Q, Q, Q, Q, Q, Q, Q, Q, Q, Q, Q, Q, Q, Q, Q, Q, Q, Q, Q, Q, Q, Q, Q, Q, Q, Q, Q, Q, Q, Q, Q, Q, Q, Q, Q, Q, Q, Q, Q, Q, Q] m =
  bnd (aBin X.T .lss T_int false true v12 (.int .i64 13)) fun v148 =>
  onBool v148
    (k_r08_one_15 v0 v1 v11 v12 m)
    (k_r08_one_12 v0 v1 v11 v12 m) := by kernel_rfl
theorem l_r08_one_8_eq (v0 v1 v11 v12 : AV) (m : Mem) : l_r08_one_8 v0 v1 v11 v12 m =
  bnd (aBin X.T .lss T_int false true v12 (.int .i64 13)) fun v148 =>
  onBool v148
    (k_r08_one_15 v0 v1 v11 v12 m)
    (k_r08_one_12 v0 v1 v11 v12 m) := roundF_of (l_r08_one_8_u v0 v1 v11 v12 m) (l_r08_one_8_r v0 v1 v11 v12 m)
theorem k_r08_one_13_eq (v0 v7 : AV) (m : Mem) : k_r08_one_13 v0 v7 m =
  some (.ret (.tup [(.int .i64 4), v7]), m) := by kernel_rfl
theorem l_r08_one_6_u (v0 v7 : AV) (m : Mem) : l_r08_one_6 v0 v7 m = loopK X F_r08_one 6 (sB (sB (sL (sL (sR (sL (sR (sR (sR (sR (sR c_r08_one))))))))))) B_r08_one_6 ⟨[v0, Q, Q, Q, Q, Q, Q, v7, Q, Q, Q, Q, Q, Q, Q, Q, Q, Q, Q, Q, Q, Q, Q, Q, Q, Q, Q, Q, Q, Q, Q, Q, Q, Q, Q, Q, Q, Q, Q, Q, Q, Q, Q, Q, Q, Q, Q, Q, Q, Q, Q, Q, Q, Q, Q, Q, Q, Q, Q, Q, Q, Q, Q, Q, Q, Q, Q, Q, Q, Q, Q, Q, Q, Q, Q, Q, Q, Q, Q, Q, Q, Q, Q, Q, Q, Q, Q, Q, Q, Q, Q, Q, Q, Q, Q, Q, Q, Q, Q, Q, Q, Q, Q, Q, Q, Q, Q, Q, Q, Q, Q, Q, Q, Q, Q, Q, Q, Q, Q, Q, Q, Q, Q, Q, Q, Q, Q, Q, Q, Q, Q, Q, Q, Q, Q, Q, Q, Q, Q, Q, Q, Q, Q, Q, Q, Q, Q, Q, Q, Q, Q, Q, Q, Q, Q, Q, Q, Q, Q, Q, Q, Q, Q], []⟩ m := by kernel_rfl
theorem l_r08_one_6_r (v0 v7 : AV) (m : Mem) : roundF X F_r08_one 6 (sB (sB (sL (sL (sR (sL (sR (sR (sR (sR (sR c_r08_one))))))))))) B_r08_one_6 [v0, Q, Q, Q, Q, Q, Q, v7, Q, Q, Q, Q, Q, Q, Q, Q, Q, Q, Q, Q, Q, Q, Q, Q, Q, Q, Q, Q, Q, Q, Q, Q, Q, Q, Q, Q, Q, Q, Q, Q, Q, Q, Q, Q, Q, Q, Q, Q, Q, Q, Q, Q, Q, Q, Q, Q, Q, Q, Q, Q, Q, Q, Q, Q, Q, Q, Q, Q, Q, Q, Q, Q, Q, Q, Q, Q, Q, Q, Q, Q, Q, Q, Q, Q, Q, Q, Q, Q, Q, Q, Q, Q, Q, Q, Q, Q, Q, Q, Q, Q, Q, Q, Q, Q, Q, Q, Q, Q, Q, Q, Q, Q, Q, Q, Q, Q, Q, Q, Q, Q, Q, Q, Q, Q, Q, Q, Q, Q, Q, Q, Q, Q, Q, Q, Q, Q, Q, Q, Q, Q, Q, Q, Q, Q, Q, Q, Q, Q, Q, Q, Q, Q, Q, Q, Q, Q, Q, Q, Q, Q, Q, Q, Q] m =
  bnd (rLenStr v0) fun v117 =>
  bnd (aBin X.T .lss T_int false false v7 v117) fun v118 =>
  onWant v118
    (bnd (rIxStr v0 v7) fun v122 =>
  retK (w_r08_small v122 m) (fun v123 m1 =>
  onWant v123
    (k_r08_one_17 v0 v7 (.bool true) m1)
    (bnd (rIxStr v0 v7) fun v127 =>
  retK (w_r08_great v127 m1) (fun v128 m2 =>
  onWant v128
    (k_r08_one_17 v0 v7 (.bool true) m2)
    (bnd (rIxStr v0 v7) fun v133 =>
  retK (w_r08_digit v133 m2) (fun v134 m3 =>
  onWant v134
    (k_r08_one_17 v0 v7 (.bool true) m3)
    (bnd (rIxStr v0 v7) fun v139 =>
  bnd (aBin X.T .eql T_uint8 false true v139 (.int .u8 95)) fun v140 =>
  k_r08_one_17 v0 v7 v140 m3)
    (none)) (fun u m3 => some (.pan u, m3)))
    (none)) (fun u m2 => some (.pan u, m2)))
    (none)) (fun u m1 => some (.pan u, m1)))
    (k_r08_one_17 v0 v7 (.bool false) m)
    (none) := by kernel_rfl
theorem l_r08_one_6_eq (v0 v7 : AV) (m : Mem) : l_r08_one_6 v0 v7 m =
  bnd (rLenStr v0) fun v117 =>
  bnd (aBin X.T .lss T_int false false v7 v117) fun v118 =>
  onWant v118
    (bnd (rIxStr v0 v7) fun v122 =>
  retK (w_r08_small v122 m) (fun v123 m1 =>
  onWant v123
    (k_r08_one_17 v0 v7 (.bool true) m1)
    (bnd (rIxStr v0 v7) fun v127 =>
  retK (w_r08_great v127 m1) (fun v128 m2 =>
  onWant v128
    (k_r08_one_17 v0 v7 (.bool true) m2)
    (bnd (rIxStr v0 v7) fun v133 =>
  retK (w_r08_digit v133 m2) (fun v134 m3 =>
  onWant v134
    (k_r08_one_17 v0 v7 (.bool true) m3)
    (bnd (rIxStr v0 v7) fun v139 =>
  bnd (aBin X.T .eql T_uint8 false true v139 (.int .u8 95)) fun v140 =>
  k_r08_one_17 v0 v7 v140 m3)
    (none)) (fun u m3 => some (.pan u, m3)))
    (none)) (fun u m2 => some (.pan u, m2)))
    (none)) (fun u m1 => some (.pan u, m1)))
    (k_r08_one_17 v0 v7 (.bool false) m)
    (none) := roundF_of (l_r08_one_6_u v0 v7 m) (l_r08_one_6_r v0 v7 m)
theorem k_r08_one_14_eq (v7 v8 : AV) (m : Mem) : k_r08_one_14 v7 v8 m =
  retK (w_r08_words m) (fun v74 m1 =>
  memK (aBox m1 (.agg [.str (bs []), .str (bs []), .str (bs []), .str (bs []), .str (bs []), .str (bs []), .str (bs []), .str (bs []), .str (bs []), .str (bs []), .str (bs []), .str (bs []), .str (bs [])])) fun v9 m2 =>
  bnd (rStore 13 m2 v9 v74) fun m3 =>
  l_r08_one_2 v7 v8 v9 (.int .i64 0) m3) (fun u m1 => some (.pan u, m1)) := by kernel_rfl
theorem k_r08_one_15_eq (v0 v1 v11 v12 : AV) (m : Mem) : k_r08_one_15 v0 v1 v11 v12 m =
  bnd (rIxAddrArr 13 1 v11 v12) fun v154 =>
  bnd (rLoad false 1 m v154) fun v155 =>
  retK (w_r08_at v0 v1 v155 m) (fun v156 m1 =>
  onBool v156
    (bnd (rIxAddrArr 13 1 v11 v12) fun v159 =>
    bnd (rLoad false 1 m1 v159) fun v160 =>
    bnd (rLenStr v160) fun v161 =>
    bnd (aBin X.T .add T_int false false v1 v161) fun v162 =>
    some (.ret (.tup [(.int .i64 6), v162]), m1))
    (k_r08_one_19 v0 v1 v11 v12 m1)) (fun u m1 => some (.pan u, m1)) := by kernel_rfl
theorem k_r08_one_16_eq (v0 v7 : AV) (m : Mem) : k_r08_one_16 v0 v7 m =
  bnd (aBin X.T .add T_int false true v7 (.int .i64 1)) fun v144 =>
  l_r08_one_6 v0 v144 m := by kernel_rfl
theorem k_r08_one_17_eq (v0 v7 v142 : AV) (m : Mem) : k_r08_one_17 v0 v7 v142 m =
  onBool v142
    (k_r08_one_16 v0 v7 m)
    (k_r08_one_13 v0 v7 m) := by kernel_rfl
theorem k_r08_one_18_eq (v7 v8 v9 v10 : AV) (m : Mem) : k_r08_one_18 v7 v8 v9 v10 m =
  some (.ret (.tup [(.int .i64 1), v7]), m) := by kernel_rfl
theorem l_r08_one_2_u (v7 v8 v9 v10 : AV) (m : Mem) : l_r08_one_2 v7 v8 v9 v10 m = loopK X F_r08_one 2 (sB (sB (sR (sL (sR (sR (sR (sR (sR (sL (sR (sL (sR (sR (sR c_r08_one))))))))))))))) B_r08_one_2 ⟨[Q, Q, Q, Q, Q, Q, Q, v7, v8, v9, v10, Q, Q, Q, Q, Q, Q, Q, Q, Q, Q, Q, Q, Q, Q, Q, Q, Q, Q, Q, Q, Q, Q, Q, Q, Q, Q, Q, Q, Q, Q, Q, Q, Q, Q, Q, Q, Q, Q, Q, Q, Q, Q, Q, Q, Q, Q, Q, Q, Q, Q, Q, Q, Q, Q, Q, Q, Q, Q, Q, Q, Q, Q, Q, Q, Q, Q, Q, Q, Q, Q, Q, Q, Q, Q, Q, Q, Q, Q, Q, Q, Q, Q, Q, Q, Q, Q, Q, Q, Q, Q, Q, Q, Q, Q, Q, Q, Q, Q, Q, Q, Q, Q, Q, Q, Q, Q, Q, Q, Q, Q, Q, Q, Q, Q, Q, Q, Q, Q, Q, Q, Q, Q, Q, Q, Q, Q, Q, Q, Q, Q, Q, Q, Q, Q, Q, Q, Q, Q, Q, Q, Q, Q, Q, Q, Q, Q, Q, Q, Q, Q, Q, Q], []⟩ m := by kernel_rfl
theorem l_r08_one_2_r (v7 v8 v9 v10 : AV) (m : Mem) : roundF X F_r08_one 2 (sB (sB (sR (sL (sR (sR (sR (sR (sR (sL (sR (sL (sR (sR (sR c_r08_one))))))))))))))) B_r08_one_2 [Q, Q, Q, Q, Q, Q, Q, v7, v8, v9, v10, Q, Q, Q, Q, Q, Q, Q, Q, Q, Q, Q, Q, Q, Q, Q, Q, Q, Q, Q, Q, Q, Q, Q, Q, Q, Q, Q, Q, Q, Q, Q, Q, Q, Q, Q, Q, Q, Q, Q, Q, Q, Q, Q, Q, Q, Q, Q, Q, Q, Q, Q, Q, Q, Q, Q, Q, Q, Q, Q, Q, Q, Q, Q, Q, Q, Q, Q, Q, Q, Q, Q, Q, Q, Q, Q, Q, Q, Q, Q, Q, Q, Q, Q, Q, Q, Q, Q, Q, Q, Q, Q, Q, Q, Q, Q, Q, Q, Q, Q, Q, Q, Q, Q, Q, Q, Q, Q, Q, Q, Q, Q, Q, Q, Q, Q, Q, Q, Q, Q, Q, Q, Q, Q, Q, Q, Q, Q, Q, Q, Q, Q, Q, Q, Q, Q, Q, Q, Q, Q, Q, Q, Q, Q, Q, Q, Q, Q, Q, Q, Q, Q, Q] m =
  bnd (aBin X.T .lss T_int false true v10 (.int .i64 13)) fun v76 =>
  onBool v76
    (k_r08_one_20 v7 v8 v9 v10 m)
    (k_r08_one_18 v7 v8 v9 v10 m) := by kernel_rfl
theorem l_r08_one_2_eq (v7 v8 v9 v10 : AV) (m : Mem) : l_r08_one_2 v7 v8 v9 v10 m =
  bnd (aBin X.T .lss T_int false true v10 (.int .i64 13)) fun v76 =>
  onBool v76
    (k_r08_one_20 v7 v8 v9 v10 m)
    (k_r08_one_18 v7 v8 v9 v10 m) := roundF_of (l_r08_one_2_u v7 v8 v9 v10 m) (l_r08_one_2_r v7 v8 v9 v10 m)
theorem k_r08_one_19_eq (v0 v1 v11 v12 : AV) (m : Mem) : k_r08_one_19 v0 v1 v11 v12 m =
  bnd (aBin X.T .add T_int false true v12 (.int .i64 1)) fun v150 =>
  l_r08_one_8 v0 v1 v11 v150 m := by kernel_rfl
theorem k_r08_one_20_eq (v7 v8 v9 v10 : AV) (m : Mem) : k_r08_one_20 v7 v8 v9 v10 m =
  bnd (rIxAddrArr 13 1 v9 v10) fun v80 =>
  bnd (rLoad false 1 m v80) fun v81 =>
  bnd (aBin X.T .eql T_string false false v81 v8) fun v83 =>
  onBool v83
    (some (.ret (.tup [(.int .i64 5), v7]), m))
    (k_r08_one_21 v7 v8 v9 v10 m) := by kernel_rfl
theorem k_r08_one_21_eq (v7 v8 v9 v10 : AV) (m : Mem) : k_r08_one_21 v7 v8 v9 v10 m =
  bnd (aBin X.T .add T_int false true v10 (.int .i64 1)) fun v78 =>
  l_r08_one_2 v7 v8 v9 v78 m := by kernel_rfl

/-! ### slices.Clone   parlance/api.Token,parlance/api.Token  -/
noncomputable def c_slices_Clone : Code := bodyOf Try.f38
noncomputable def N_slices_Clone : AAct → Mem → Option (AOut × Mem) := finK X.T Try.f38.results.toList .normal
noncomputable def P_slices_Clone : AExit → AAct → Mem → Option (AOut × Mem) := finK X.T Try.f38.results.toList
noncomputable def K_slices_Clone_0 : AAct → Mem → Option (AOut × Mem) := execF X F_slices_Clone 0 (sR (sR c_slices_Clone)) N_slices_Clone P_slices_Clone
noncomputable def k_slices_Clone_0 (v0 : AV) (m : Mem) : Option (AOut × Mem) := K_slices_Clone_0 ⟨[v0, Q, Q, Q, Q, Q, Q, Q], []⟩ m
theorem e_slices_Clone (v0 : AV) (m : Mem) : w_slices_Clone v0 m =
  bnd (aBin X.T .eql T_Sl_api_Token false true v0 .nils) fun v4 =>
  onBool v4
    (some (.ret .nils, m))
    (k_slices_Clone_0 v0 m) := (aW_F (c := c_slices_Clone) (fn := Try.f38) (by kernel_rfl) (by kernel_rfl) (by kernel_rfl) _ m).trans (by kernel_rfl)
theorem k_slices_Clone_0_eq (v0 : AV) (m : Mem) : k_slices_Clone_0 v0 m =
  bnd (rBuildSlice A_api_Token 0 []) fun v5 =>
  memK (rAppend A_api_Token 0 m v5 v0) fun v7 m1 =>
  some (.ret v7, m1) := by kernel_rfl

/-! ### parlance/relex.moved -/
noncomputable def c_relex_moved : Code := bodyOf Try.f39
noncomputable def N_relex_moved : AAct → Mem → Option (AOut × Mem) := finK X.T Try.f39.results.toList .normal
noncomputable def P_relex_moved : AExit → AAct → Mem → Option (AOut × Mem) := finK X.T Try.f39.results.toList
theorem e_relex_moved (v0 v1 : AV) (m : Mem) : w_relex_moved v0 v1 m =
  memK (aBox m v0) fun v2 m1 =>
  memK (aBox m1 (.agg [.int .i64 0, .int .i64 0, .int .i64 0])) fun v4 m2 =>
  bnd (rFieldAddr 1 v2) fun v5 =>
  bnd (rLoad false 1 m2 v5) fun v6 =>
  bnd (aBin X.T .add T_int false false v6 v1) fun v8 =>
  bnd (rFieldAddr 1 v2) fun v9 =>
  bnd (rStore 1 m2 v9 v8) fun m3 =>
  bnd (rFieldAddr 2 v2) fun v10 =>
  bnd (rLoad false 1 m3 v10) fun v11 =>
  bnd (aBin X.T .add T_int false false v11 v1) fun v13 =>
  bnd (rFieldAddr 2 v2) fun v14 =>
  bnd (rStore 1 m3 v14 v13) fun m4 =>
  bnd (rLoad true 3 m4 v2) fun v15 =>
  bnd (rStore 3 m4 v4 v15) fun m5 =>
  bnd (rLoad true 3 m5 v4) fun vr0 =>
  some (.ret vr0, m5) := (aW_F (c := c_relex_moved) (fn := Try.f39) (by kernel_rfl) (by kernel_rfl) (by kernel_rfl) _ m).trans (by kernel_rfl)

end Go.AM
