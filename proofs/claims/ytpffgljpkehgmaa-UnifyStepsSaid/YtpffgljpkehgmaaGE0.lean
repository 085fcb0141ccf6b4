/-
  A part of the proof: equations or tables of the program over the abstract machine, printed by a program of this proof's own.
-/
import Derived.Test.YtpffgljpkehgmaaGCtx
namespace Go.AM
open Go.Proofs
set_option maxRecDepth 100000
set_option linter.unusedVariables false
noncomputable def c_f4 : Code := bodyOf Try.f4
noncomputable def N_f4 : AAct → Mem → Option (AOut × Mem) := finK X.T Try.f4.results.toList .normal
noncomputable def P_f4 : AExit → AAct → Mem → Option (AOut × Mem) := finK X.T Try.f4.results.toList
noncomputable def K_f4_0 : AAct → Mem → Option (AOut × Mem) := execF X F_f4 0 (sR (sR c_f4)) N_f4 P_f4
noncomputable def K_f4_1 : AAct → Mem → Option (AOut × Mem) := execF X F_f4 0 (sR (sR (sR (sR c_f4)))) N_f4 P_f4
noncomputable def K_f4_2 : AAct → Mem → Option (AOut × Mem) := execF X F_f4 0 (sR (sR (sR (sR (sR (sR c_f4)))))) N_f4 P_f4
noncomputable def K_f4_3 : AAct → Mem → Option (AOut × Mem) := execF X F_f4 0 (sR (sR (sR (sR (sR (sR (sR (sR c_f4)))))))) N_f4 P_f4
noncomputable def B_f4_0 : AExit → AAct → Mem → Option (AOut × Mem) := blockX 0 K_f4_3 P_f4
noncomputable def L_f4_0 : AAct → Mem → Option (AOut × Mem) := fun a m => killF (X.lk F_f4 0) a.tmps fun l => loopK X F_f4 0 (sB (sB (sR (sL (sR (sR (sR (sR (sR (sR (sR c_f4))))))))))) B_f4_0 ⟨l, a.defers⟩ m
noncomputable def K_f4_4 : AAct → Mem → Option (AOut × Mem) := execF X F_f4 0 (sR (sR (sR (sR (sR (sR (sR (sR (sR (sR (sR c_f4))))))))))) N_f4 P_f4
noncomputable def K_f4_5 : AAct → Mem → Option (AOut × Mem) := execF X F_f4 0 (sR (sL (sR (sR (sR (sR (sR (sR (sR (sR (sR (sR c_f4)))))))))))) K_f4_4 P_f4
noncomputable def K_f4_6 : AAct → Mem → Option (AOut × Mem) := execF X F_f4 0 (sR (sB (sB (sR (sL (sR (sR (sR (sR (sR (sR (sR c_f4)))))))))))) L_f4_0 B_f4_0
noncomputable def K_f4_7 : AAct → Mem → Option (AOut × Mem) := execF X F_f4 0 (sR (sR (sR (sR (sR (sR (sR (sR (sR (sR (sR (sR c_f4)))))))))))) N_f4 P_f4
noncomputable def B_f4_2 : AExit → AAct → Mem → Option (AOut × Mem) := blockX 2 K_f4_7 P_f4
noncomputable def L_f4_2 : AAct → Mem → Option (AOut × Mem) := fun a m => killF (X.lk F_f4 2) a.tmps fun l => loopK X F_f4 2 (sB (sB (sR (sL (sR (sR (sR (sR (sR (sR (sR (sR (sR (sR (sR c_f4))))))))))))))) B_f4_2 ⟨l, a.defers⟩ m
noncomputable def K_f4_8 : AAct → Mem → Option (AOut × Mem) := execF X F_f4 0 (sR (sR (sB (sB (sR (sL (sR (sR (sR (sR (sR (sR (sR c_f4))))))))))))) L_f4_0 B_f4_0
noncomputable def B_f4_1 : AExit → AAct → Mem → Option (AOut × Mem) := blockX 1 K_f4_8 B_f4_0
noncomputable def K_f4_9 : AAct → Mem → Option (AOut × Mem) := execF X F_f4 1 (sR (sR (sB (sL (sR (sB (sB (sR (sL (sR (sR (sR (sR (sR (sR (sR c_f4)))))))))))))))) K_f4_8 B_f4_1
noncomputable def K_f4_10 : AAct → Mem → Option (AOut × Mem) := execF X F_f4 2 (sR (sB (sB (sR (sL (sR (sR (sR (sR (sR (sR (sR (sR (sR (sR (sR c_f4)))))))))))))))) L_f4_2 B_f4_2
noncomputable def K_f4_11 : AAct → Mem → Option (AOut × Mem) := execF X F_f4 2 (sR (sL (sB (sB (sR (sL (sR (sR (sR (sR (sR (sR (sR (sR (sR (sR (sR c_f4))))))))))))))))) K_f4_10 B_f4_2
noncomputable def K_f4_12 : AAct → Mem → Option (AOut × Mem) := execF X F_f4 1 (sR (sR (sR (sB (sL (sR (sB (sB (sR (sL (sR (sR (sR (sR (sR (sR (sR c_f4))))))))))))))))) K_f4_8 B_f4_1
noncomputable def K_f4_13 : AAct → Mem → Option (AOut × Mem) := execF X F_f4 2 (sR (sR (sB (sB (sR (sL (sR (sR (sR (sR (sR (sR (sR (sR (sR (sR (sR c_f4))))))))))))))))) L_f4_2 B_f4_2
noncomputable def B_f4_3 : AExit → AAct → Mem → Option (AOut × Mem) := blockX 3 K_f4_13 B_f4_2
noncomputable def B_f4_4 : AExit → AAct → Mem → Option (AOut × Mem) := blockX 4 K_f4_13 B_f4_3
noncomputable def L_f4_4 : AAct → Mem → Option (AOut × Mem) := fun a m => killF (X.lk F_f4 4) a.tmps fun l => loopK X F_f4 4 (sB (sB (sR (sB (sL (sR (sB (sB (sR (sL (sR (sR (sR (sR (sR (sR (sR (sR (sR (sR (sR c_f4))))))))))))))))))))) B_f4_4 ⟨l, a.defers⟩ m
noncomputable def K_f4_14 : AAct → Mem → Option (AOut × Mem) := execF X F_f4 4 (sR (sB (sB (sR (sB (sL (sR (sB (sB (sR (sL (sR (sR (sR (sR (sR (sR (sR (sR (sR (sR (sR c_f4)))))))))))))))))))))) L_f4_4 B_f4_4
noncomputable def K_f4_15 : AAct → Mem → Option (AOut × Mem) := execF X F_f4 4 (sR (sL (sB (sB (sR (sB (sL (sR (sB (sB (sR (sL (sR (sR (sR (sR (sR (sR (sR (sR (sR (sR (sR c_f4))))))))))))))))))))))) K_f4_14 B_f4_4
noncomputable def K_f4_16 : AAct → Mem → Option (AOut × Mem) := execF X F_f4 4 (sR (sR (sB (sB (sR (sB (sL (sR (sB (sB (sR (sL (sR (sR (sR (sR (sR (sR (sR (sR (sR (sR (sR c_f4))))))))))))))))))))))) L_f4_4 B_f4_4
noncomputable def B_f4_5 : AExit → AAct → Mem → Option (AOut × Mem) := blockX 5 K_f4_16 B_f4_4
noncomputable def K_f4_17 : AAct → Mem → Option (AOut × Mem) := execF X F_f4 5 (sR (sR (sB (sL (sR (sB (sB (sR (sB (sL (sR (sB (sB (sR (sL (sR (sR (sR (sR (sR (sR (sR (sR (sR (sR (sR c_f4)))))))))))))))))))))))))) K_f4_16 B_f4_5
noncomputable def k_f4_0 (v0 : AV) (m : Mem) : Option (AOut × Mem) := K_f4_0 ⟨[v0, Q, Q, Q, Q, Q, Q, Q, Q, Q, Q, Q, Q, Q, Q, Q, Q, Q, Q, Q, Q, Q, Q, Q, Q, Q, Q, Q, Q, Q, Q, Q, Q, Q, Q, Q, Q, Q, Q, Q, Q, Q, Q, Q, Q, Q, Q, Q, Q, Q, Q, Q, Q, Q, Q, Q, Q, Q, Q, Q, Q, Q, Q, Q, Q, Q, Q, Q, Q, Q, Q, Q, Q, Q, Q, Q, Q, Q, Q, Q, Q, Q, Q, Q, Q, Q, Q, Q, Q, Q, Q, Q, Q, Q, Q, Q, Q, Q, Q, Q, Q, Q, Q, Q, Q, Q, Q, Q, Q, Q, Q, Q, Q, Q, Q, Q, Q, Q, Q, Q, Q], []⟩ m
noncomputable def k_f4_1 (v0 : AV) (m : Mem) : Option (AOut × Mem) := K_f4_1 ⟨[v0, Q, Q, Q, Q, Q, Q, Q, Q, Q, Q, Q, Q, Q, Q, Q, Q, Q, Q, Q, Q, Q, Q, Q, Q, Q, Q, Q, Q, Q, Q, Q, Q, Q, Q, Q, Q, Q, Q, Q, Q, Q, Q, Q, Q, Q, Q, Q, Q, Q, Q, Q, Q, Q, Q, Q, Q, Q, Q, Q, Q, Q, Q, Q, Q, Q, Q, Q, Q, Q, Q, Q, Q, Q, Q, Q, Q, Q, Q, Q, Q, Q, Q, Q, Q, Q, Q, Q, Q, Q, Q, Q, Q, Q, Q, Q, Q, Q, Q, Q, Q, Q, Q, Q, Q, Q, Q, Q, Q, Q, Q, Q, Q, Q, Q, Q, Q, Q, Q, Q, Q], []⟩ m
noncomputable def k_f4_2 (v3 v4 v5 : AV) (m : Mem) : Option (AOut × Mem) := K_f4_2 ⟨[Q, Q, Q, v3, v4, v5, Q, Q, Q, Q, Q, Q, Q, Q, Q, Q, Q, Q, Q, Q, Q, Q, Q, Q, Q, Q, Q, Q, Q, Q, Q, Q, Q, Q, Q, Q, Q, Q, Q, Q, Q, Q, Q, Q, Q, Q, Q, Q, Q, Q, Q, Q, Q, Q, Q, Q, Q, Q, Q, Q, Q, Q, Q, Q, Q, Q, Q, Q, Q, Q, Q, Q, Q, Q, Q, Q, Q, Q, Q, Q, Q, Q, Q, Q, Q, Q, Q, Q, Q, Q, Q, Q, Q, Q, Q, Q, Q, Q, Q, Q, Q, Q, Q, Q, Q, Q, Q, Q, Q, Q, Q, Q, Q, Q, Q, Q, Q, Q, Q, Q, Q], []⟩ m
noncomputable def k_f4_3 (v3 v4 v5 v7 v8 : AV) (m : Mem) : Option (AOut × Mem) := K_f4_3 ⟨[Q, Q, Q, v3, v4, v5, Q, v7, v8, Q, Q, Q, Q, Q, Q, Q, Q, Q, Q, Q, Q, Q, Q, Q, Q, Q, Q, Q, Q, Q, Q, Q, Q, Q, Q, Q, Q, Q, Q, Q, Q, Q, Q, Q, Q, Q, Q, Q, Q, Q, Q, Q, Q, Q, Q, Q, Q, Q, Q, Q, Q, Q, Q, Q, Q, Q, Q, Q, Q, Q, Q, Q, Q, Q, Q, Q, Q, Q, Q, Q, Q, Q, Q, Q, Q, Q, Q, Q, Q, Q, Q, Q, Q, Q, Q, Q, Q, Q, Q, Q, Q, Q, Q, Q, Q, Q, Q, Q, Q, Q, Q, Q, Q, Q, Q, Q, Q, Q, Q, Q, Q], []⟩ m
noncomputable def l_f4_0 (v3 v4 v5 v7 v8 : AV) (m : Mem) : Option (AOut × Mem) := L_f4_0 ⟨[Q, Q, Q, v3, v4, v5, Q, v7, v8, Q, Q, Q, Q, Q, Q, Q, Q, Q, Q, Q, Q, Q, Q, Q, Q, Q, Q, Q, Q, Q, Q, Q, Q, Q, Q, Q, Q, Q, Q, Q, Q, Q, Q, Q, Q, Q, Q, Q, Q, Q, Q, Q, Q, Q, Q, Q, Q, Q, Q, Q, Q, Q, Q, Q, Q, Q, Q, Q, Q, Q, Q, Q, Q, Q, Q, Q, Q, Q, Q, Q, Q, Q, Q, Q, Q, Q, Q, Q, Q, Q, Q, Q, Q, Q, Q, Q, Q, Q, Q, Q, Q, Q, Q, Q, Q, Q, Q, Q, Q, Q, Q, Q, Q, Q, Q, Q, Q, Q, Q, Q, Q], []⟩ m
noncomputable def k_f4_4 (v3 v4 v5 : AV) (m : Mem) : Option (AOut × Mem) := K_f4_4 ⟨[Q, Q, Q, v3, v4, v5, Q, Q, Q, Q, Q, Q, Q, Q, Q, Q, Q, Q, Q, Q, Q, Q, Q, Q, Q, Q, Q, Q, Q, Q, Q, Q, Q, Q, Q, Q, Q, Q, Q, Q, Q, Q, Q, Q, Q, Q, Q, Q, Q, Q, Q, Q, Q, Q, Q, Q, Q, Q, Q, Q, Q, Q, Q, Q, Q, Q, Q, Q, Q, Q, Q, Q, Q, Q, Q, Q, Q, Q, Q, Q, Q, Q, Q, Q, Q, Q, Q, Q, Q, Q, Q, Q, Q, Q, Q, Q, Q, Q, Q, Q, Q, Q, Q, Q, Q, Q, Q, Q, Q, Q, Q, Q, Q, Q, Q, Q, Q, Q, Q, Q, Q], []⟩ m
noncomputable def k_f4_5 (v3 v4 v5 v79 : AV) (m : Mem) : Option (AOut × Mem) := K_f4_5 ⟨[Q, Q, Q, v3, v4, v5, Q, Q, Q, Q, Q, Q, Q, Q, Q, Q, Q, Q, Q, Q, Q, Q, Q, Q, Q, Q, Q, Q, Q, Q, Q, Q, Q, Q, Q, Q, Q, Q, Q, Q, Q, Q, Q, Q, Q, Q, Q, Q, Q, Q, Q, Q, Q, Q, Q, Q, Q, Q, Q, Q, Q, Q, Q, Q, Q, Q, Q, Q, Q, Q, Q, Q, Q, Q, Q, Q, Q, Q, Q, v79, Q, Q, Q, Q, Q, Q, Q, Q, Q, Q, Q, Q, Q, Q, Q, Q, Q, Q, Q, Q, Q, Q, Q, Q, Q, Q, Q, Q, Q, Q, Q, Q, Q, Q, Q, Q, Q, Q, Q, Q, Q], []⟩ m
noncomputable def k_f4_6 (v3 v4 v5 v7 v8 : AV) (m : Mem) : Option (AOut × Mem) := K_f4_6 ⟨[Q, Q, Q, v3, v4, v5, Q, v7, v8, Q, Q, Q, Q, Q, Q, Q, Q, Q, Q, Q, Q, Q, Q, Q, Q, Q, Q, Q, Q, Q, Q, Q, Q, Q, Q, Q, Q, Q, Q, Q, Q, Q, Q, Q, Q, Q, Q, Q, Q, Q, Q, Q, Q, Q, Q, Q, Q, Q, Q, Q, Q, Q, Q, Q, Q, Q, Q, Q, Q, Q, Q, Q, Q, Q, Q, Q, Q, Q, Q, Q, Q, Q, Q, Q, Q, Q, Q, Q, Q, Q, Q, Q, Q, Q, Q, Q, Q, Q, Q, Q, Q, Q, Q, Q, Q, Q, Q, Q, Q, Q, Q, Q, Q, Q, Q, Q, Q, Q, Q, Q, Q], []⟩ m
noncomputable def k_f4_7 (v3 v4 v5 v14 : AV) (m : Mem) : Option (AOut × Mem) := K_f4_7 ⟨[Q, Q, Q, v3, v4, v5, Q, Q, Q, Q, Q, Q, Q, Q, v14, Q, Q, Q, Q, Q, Q, Q, Q, Q, Q, Q, Q, Q, Q, Q, Q, Q, Q, Q, Q, Q, Q, Q, Q, Q, Q, Q, Q, Q, Q, Q, Q, Q, Q, Q, Q, Q, Q, Q, Q, Q, Q, Q, Q, Q, Q, Q, Q, Q, Q, Q, Q, Q, Q, Q, Q, Q, Q, Q, Q, Q, Q, Q, Q, Q, Q, Q, Q, Q, Q, Q, Q, Q, Q, Q, Q, Q, Q, Q, Q, Q, Q, Q, Q, Q, Q, Q, Q, Q, Q, Q, Q, Q, Q, Q, Q, Q, Q, Q, Q, Q, Q, Q, Q, Q, Q], []⟩ m
noncomputable def l_f4_2 (v3 v4 v5 v14 : AV) (m : Mem) : Option (AOut × Mem) := L_f4_2 ⟨[Q, Q, Q, v3, v4, v5, Q, Q, Q, Q, Q, Q, Q, Q, v14, Q, Q, Q, Q, Q, Q, Q, Q, Q, Q, Q, Q, Q, Q, Q, Q, Q, Q, Q, Q, Q, Q, Q, Q, Q, Q, Q, Q, Q, Q, Q, Q, Q, Q, Q, Q, Q, Q, Q, Q, Q, Q, Q, Q, Q, Q, Q, Q, Q, Q, Q, Q, Q, Q, Q, Q, Q, Q, Q, Q, Q, Q, Q, Q, Q, Q, Q, Q, Q, Q, Q, Q, Q, Q, Q, Q, Q, Q, Q, Q, Q, Q, Q, Q, Q, Q, Q, Q, Q, Q, Q, Q, Q, Q, Q, Q, Q, Q, Q, Q, Q, Q, Q, Q, Q, Q], []⟩ m
noncomputable def k_f4_8 (v3 v4 v5 v7 v8 : AV) (m : Mem) : Option (AOut × Mem) := K_f4_8 ⟨[Q, Q, Q, v3, v4, v5, Q, v7, v8, Q, Q, Q, Q, Q, Q, Q, Q, Q, Q, Q, Q, Q, Q, Q, Q, Q, Q, Q, Q, Q, Q, Q, Q, Q, Q, Q, Q, Q, Q, Q, Q, Q, Q, Q, Q, Q, Q, Q, Q, Q, Q, Q, Q, Q, Q, Q, Q, Q, Q, Q, Q, Q, Q, Q, Q, Q, Q, Q, Q, Q, Q, Q, Q, Q, Q, Q, Q, Q, Q, Q, Q, Q, Q, Q, Q, Q, Q, Q, Q, Q, Q, Q, Q, Q, Q, Q, Q, Q, Q, Q, Q, Q, Q, Q, Q, Q, Q, Q, Q, Q, Q, Q, Q, Q, Q, Q, Q, Q, Q, Q, Q], []⟩ m
noncomputable def k_f4_9 (v3 v4 v5 v7 v8 v9 : AV) (m : Mem) : Option (AOut × Mem) := K_f4_9 ⟨[Q, Q, Q, v3, v4, v5, Q, v7, v8, v9, Q, Q, Q, Q, Q, Q, Q, Q, Q, Q, Q, Q, Q, Q, Q, Q, Q, Q, Q, Q, Q, Q, Q, Q, Q, Q, Q, Q, Q, Q, Q, Q, Q, Q, Q, Q, Q, Q, Q, Q, Q, Q, Q, Q, Q, Q, Q, Q, Q, Q, Q, Q, Q, Q, Q, Q, Q, Q, Q, Q, Q, Q, Q, Q, Q, Q, Q, Q, Q, Q, Q, Q, Q, Q, Q, Q, Q, Q, Q, Q, Q, Q, Q, Q, Q, Q, Q, Q, Q, Q, Q, Q, Q, Q, Q, Q, Q, Q, Q, Q, Q, Q, Q, Q, Q, Q, Q, Q, Q, Q, Q], []⟩ m
noncomputable def k_f4_10 (v3 v4 v5 v14 : AV) (m : Mem) : Option (AOut × Mem) := K_f4_10 ⟨[Q, Q, Q, v3, v4, v5, Q, Q, Q, Q, Q, Q, Q, Q, v14, Q, Q, Q, Q, Q, Q, Q, Q, Q, Q, Q, Q, Q, Q, Q, Q, Q, Q, Q, Q, Q, Q, Q, Q, Q, Q, Q, Q, Q, Q, Q, Q, Q, Q, Q, Q, Q, Q, Q, Q, Q, Q, Q, Q, Q, Q, Q, Q, Q, Q, Q, Q, Q, Q, Q, Q, Q, Q, Q, Q, Q, Q, Q, Q, Q, Q, Q, Q, Q, Q, Q, Q, Q, Q, Q, Q, Q, Q, Q, Q, Q, Q, Q, Q, Q, Q, Q, Q, Q, Q, Q, Q, Q, Q, Q, Q, Q, Q, Q, Q, Q, Q, Q, Q, Q, Q], []⟩ m
noncomputable def k_f4_11 (v3 v4 v5 v14 v87 : AV) (m : Mem) : Option (AOut × Mem) := K_f4_11 ⟨[Q, Q, Q, v3, v4, v5, Q, Q, Q, Q, Q, Q, Q, Q, v14, Q, Q, Q, Q, Q, Q, Q, Q, Q, Q, Q, Q, Q, Q, Q, Q, Q, Q, Q, Q, Q, Q, Q, Q, Q, Q, Q, Q, Q, Q, Q, Q, Q, Q, Q, Q, Q, Q, Q, Q, Q, Q, Q, Q, Q, Q, Q, Q, Q, Q, Q, Q, Q, Q, Q, Q, Q, Q, Q, Q, Q, Q, Q, Q, Q, Q, Q, Q, Q, Q, Q, Q, v87, Q, Q, Q, Q, Q, Q, Q, Q, Q, Q, Q, Q, Q, Q, Q, Q, Q, Q, Q, Q, Q, Q, Q, Q, Q, Q, Q, Q, Q, Q, Q, Q, Q], []⟩ m
noncomputable def k_f4_12 (v3 v4 v5 v7 v8 v53 : AV) (m : Mem) : Option (AOut × Mem) := K_f4_12 ⟨[Q, Q, Q, v3, v4, v5, Q, v7, v8, Q, Q, Q, Q, Q, Q, Q, Q, Q, Q, Q, Q, Q, Q, Q, Q, Q, Q, Q, Q, Q, Q, Q, Q, Q, Q, Q, Q, Q, Q, Q, Q, Q, Q, Q, Q, Q, Q, Q, Q, Q, Q, Q, Q, v53, Q, Q, Q, Q, Q, Q, Q, Q, Q, Q, Q, Q, Q, Q, Q, Q, Q, Q, Q, Q, Q, Q, Q, Q, Q, Q, Q, Q, Q, Q, Q, Q, Q, Q, Q, Q, Q, Q, Q, Q, Q, Q, Q, Q, Q, Q, Q, Q, Q, Q, Q, Q, Q, Q, Q, Q, Q, Q, Q, Q, Q, Q, Q, Q, Q, Q, Q], []⟩ m
noncomputable def k_f4_13 (v3 v4 v5 v14 v15 : AV) (m : Mem) : Option (AOut × Mem) := K_f4_13 ⟨[Q, Q, Q, v3, v4, v5, Q, Q, Q, Q, Q, Q, Q, Q, v14, v15, Q, Q, Q, Q, Q, Q, Q, Q, Q, Q, Q, Q, Q, Q, Q, Q, Q, Q, Q, Q, Q, Q, Q, Q, Q, Q, Q, Q, Q, Q, Q, Q, Q, Q, Q, Q, Q, Q, Q, Q, Q, Q, Q, Q, Q, Q, Q, Q, Q, Q, Q, Q, Q, Q, Q, Q, Q, Q, Q, Q, Q, Q, Q, Q, Q, Q, Q, Q, Q, Q, Q, Q, Q, Q, Q, Q, Q, Q, Q, Q, Q, Q, Q, Q, Q, Q, Q, Q, Q, Q, Q, Q, Q, Q, Q, Q, Q, Q, Q, Q, Q, Q, Q, Q, Q], []⟩ m
noncomputable def l_f4_4 (v3 v4 v5 v14 v15 : AV) (m : Mem) : Option (AOut × Mem) := L_f4_4 ⟨[Q, Q, Q, v3, v4, v5, Q, Q, Q, Q, Q, Q, Q, Q, v14, v15, Q, Q, Q, Q, Q, Q, Q, Q, Q, Q, Q, Q, Q, Q, Q, Q, Q, Q, Q, Q, Q, Q, Q, Q, Q, Q, Q, Q, Q, Q, Q, Q, Q, Q, Q, Q, Q, Q, Q, Q, Q, Q, Q, Q, Q, Q, Q, Q, Q, Q, Q, Q, Q, Q, Q, Q, Q, Q, Q, Q, Q, Q, Q, Q, Q, Q, Q, Q, Q, Q, Q, Q, Q, Q, Q, Q, Q, Q, Q, Q, Q, Q, Q, Q, Q, Q, Q, Q, Q, Q, Q, Q, Q, Q, Q, Q, Q, Q, Q, Q, Q, Q, Q, Q, Q], []⟩ m
noncomputable def k_f4_14 (v3 v4 v5 v14 v15 : AV) (m : Mem) : Option (AOut × Mem) := K_f4_14 ⟨[Q, Q, Q, v3, v4, v5, Q, Q, Q, Q, Q, Q, Q, Q, v14, v15, Q, Q, Q, Q, Q, Q, Q, Q, Q, Q, Q, Q, Q, Q, Q, Q, Q, Q, Q, Q, Q, Q, Q, Q, Q, Q, Q, Q, Q, Q, Q, Q, Q, Q, Q, Q, Q, Q, Q, Q, Q, Q, Q, Q, Q, Q, Q, Q, Q, Q, Q, Q, Q, Q, Q, Q, Q, Q, Q, Q, Q, Q, Q, Q, Q, Q, Q, Q, Q, Q, Q, Q, Q, Q, Q, Q, Q, Q, Q, Q, Q, Q, Q, Q, Q, Q, Q, Q, Q, Q, Q, Q, Q, Q, Q, Q, Q, Q, Q, Q, Q, Q, Q, Q, Q], []⟩ m
noncomputable def k_f4_15 (v3 v4 v5 v14 v15 v97 : AV) (m : Mem) : Option (AOut × Mem) := K_f4_15 ⟨[Q, Q, Q, v3, v4, v5, Q, Q, Q, Q, Q, Q, Q, Q, v14, v15, Q, Q, Q, Q, Q, Q, Q, Q, Q, Q, Q, Q, Q, Q, Q, Q, Q, Q, Q, Q, Q, Q, Q, Q, Q, Q, Q, Q, Q, Q, Q, Q, Q, Q, Q, Q, Q, Q, Q, Q, Q, Q, Q, Q, Q, Q, Q, Q, Q, Q, Q, Q, Q, Q, Q, Q, Q, Q, Q, Q, Q, Q, Q, Q, Q, Q, Q, Q, Q, Q, Q, Q, Q, Q, Q, Q, Q, Q, Q, Q, Q, v97, Q, Q, Q, Q, Q, Q, Q, Q, Q, Q, Q, Q, Q, Q, Q, Q, Q, Q, Q, Q, Q, Q, Q], []⟩ m
noncomputable def k_f4_16 (v3 v4 v5 v14 v15 : AV) (m : Mem) : Option (AOut × Mem) := K_f4_16 ⟨[Q, Q, Q, v3, v4, v5, Q, Q, Q, Q, Q, Q, Q, Q, v14, v15, Q, Q, Q, Q, Q, Q, Q, Q, Q, Q, Q, Q, Q, Q, Q, Q, Q, Q, Q, Q, Q, Q, Q, Q, Q, Q, Q, Q, Q, Q, Q, Q, Q, Q, Q, Q, Q, Q, Q, Q, Q, Q, Q, Q, Q, Q, Q, Q, Q, Q, Q, Q, Q, Q, Q, Q, Q, Q, Q, Q, Q, Q, Q, Q, Q, Q, Q, Q, Q, Q, Q, Q, Q, Q, Q, Q, Q, Q, Q, Q, Q, Q, Q, Q, Q, Q, Q, Q, Q, Q, Q, Q, Q, Q, Q, Q, Q, Q, Q, Q, Q, Q, Q, Q, Q], []⟩ m
noncomputable def k_f4_17 (v3 v4 v5 v14 v15 v16 : AV) (m : Mem) : Option (AOut × Mem) := K_f4_17 ⟨[Q, Q, Q, v3, v4, v5, Q, Q, Q, Q, Q, Q, Q, Q, v14, v15, v16, Q, Q, Q, Q, Q, Q, Q, Q, Q, Q, Q, Q, Q, Q, Q, Q, Q, Q, Q, Q, Q, Q, Q, Q, Q, Q, Q, Q, Q, Q, Q, Q, Q, Q, Q, Q, Q, Q, Q, Q, Q, Q, Q, Q, Q, Q, Q, Q, Q, Q, Q, Q, Q, Q, Q, Q, Q, Q, Q, Q, Q, Q, Q, Q, Q, Q, Q, Q, Q, Q, Q, Q, Q, Q, Q, Q, Q, Q, Q, Q, Q, Q, Q, Q, Q, Q, Q, Q, Q, Q, Q, Q, Q, Q, Q, Q, Q, Q, Q, Q, Q, Q, Q, Q], []⟩ m
theorem e_f4 (v0 : AV) (m : Mem) : w_f4 v0 m =
  retK (w_f17 m) (fun v17 m1 =>
  bnd (aUn .not v17) fun v18 =>
  onBool v18
    (some (.ret (.bool false), m1))
    (k_f4_0 v0 m1)) (fun u m1 => some (.pan u, m1)) := (aW_F (c := c_f4) (fn := Try.f4) (by kernel_rfl) (by kernel_rfl) (by kernel_rfl) _ m).trans (by kernel_rfl)
theorem k_f4_0_eq (v0 : AV) (m : Mem) : k_f4_0 v0 m =
  retK (w_f18 v0 m) (fun v20 m1 =>
  retK (w_f19 v20 m1) (fun v22 m2 =>
  onBool v22
    (some (.ret (.bool true), m2))
    (k_f4_1 v20 m2)) (fun u m2 => some (.pan u, m2))) (fun u m1 => some (.pan u, m1)) := by kernel_rfl
theorem k_f4_1_eq (v0 : AV) (m : Mem) : k_f4_1 v0 m =
  retK (w_f20 v0 m) (fun v25 m1 =>
  bnd (aExtract v25 0) fun v26 =>
  bnd (aExtract v25 1) fun v27 =>
  bnd (aExtract v25 2) fun v28 =>
  bnd (aExtract v25 3) fun v29 =>
  memK (aBox m1 (.agg [.nils])) fun v4 m2 =>
  bnd (rStore 1 m2 v4 v27) fun m3 =>
  bnd (aUn .not v29) fun v31 =>
  onBool v31
    (some (.ret (.bool false), m3))
    (k_f4_2 v26 v4 v28 m3)) (fun u m1 => some (.pan u, m1)) := by kernel_rfl
theorem k_f4_2_eq (v3 v4 v5 : AV) (m : Mem) : k_f4_2 v3 v4 v5 m =
  bnd (rBuildSlice A_int 0 []) fun v32 =>
  l_f4_0 v3 v4 v5 v32 (.int .i64 (-1)) m := by kernel_rfl
theorem k_f4_3_eq (v3 v4 v5 v7 v8 : AV) (m : Mem) : k_f4_3 v3 v4 v5 v7 v8 m =
  retK (w_f24 v7 m) (fun v61 m1 =>
  retK (w_f23 v3 v61 m1) (fun v62 m2 =>
  bnd (aExtract v62 0) fun v63 =>
  bnd (aExtract v62 1) fun v64 =>
  bnd (rLoad true 1 m2 v4) fun v66 =>
  retK (w_f25 v66 v7 m2) (fun v68 m3 =>
  bnd (aExtract v68 0) fun v69 =>
  bnd (aExtract v68 1) fun v70 =>
  retK (w_f26 v63 v69 m3) (fun v73 m4 =>
  bnd (aUn .not v73) fun v74 =>
  onWant v74
    (k_f4_5 v3 v4 v5 (.bool true) m4)
    (bnd (aBin X.T .neq T_api_Errno false false v64 v70) fun v78 =>
  k_f4_5 v3 v4 v5 v78 m4)
    (none)) (fun u m4 => some (.pan u, m4))) (fun u m3 => some (.pan u, m3))) (fun u m2 => some (.pan u, m2))) (fun u m1 => some (.pan u, m1)) := by kernel_rfl
theorem l_f4_0_u (v3 v4 v5 v7 v8 : AV) (m : Mem) : l_f4_0 v3 v4 v5 v7 v8 m = loopK X F_f4 0 (sB (sB (sR (sL (sR (sR (sR (sR (sR (sR (sR c_f4))))))))))) B_f4_0 ⟨[Q, Q, Q, v3, v4, v5, Q, v7, v8, Q, Q, Q, Q, Q, Q, Q, Q, Q, Q, Q, Q, Q, Q, Q, Q, Q, Q, Q, Q, Q, Q, Q, Q, Q, Q, Q, Q, Q, Q, Q, Q, Q, Q, Q, Q, Q, Q, Q, Q, Q, Q, Q, Q, Q, Q, Q, Q, Q, Q, Q, Q, Q, Q, Q, Q, Q, Q, Q, Q, Q, Q, Q, Q, Q, Q, Q, Q, Q, Q, Q, Q, Q, Q, Q, Q, Q, Q, Q, Q, Q, Q, Q, Q, Q, Q, Q, Q, Q, Q, Q, Q, Q, Q, Q, Q, Q, Q, Q, Q, Q, Q, Q, Q, Q, Q, Q, Q, Q, Q, Q, Q], []⟩ m := by kernel_rfl
theorem l_f4_0_r (v3 v4 v5 v7 v8 : AV) (m : Mem) : roundF X F_f4 0 (sB (sB (sR (sL (sR (sR (sR (sR (sR (sR (sR c_f4))))))))))) B_f4_0 [Q, Q, Q, v3, v4, v5, Q, v7, v8, Q, Q, Q, Q, Q, Q, Q, Q, Q, Q, Q, Q, Q, Q, Q, Q, Q, Q, Q, Q, Q, Q, Q, Q, Q, Q, Q, Q, Q, Q, Q, Q, Q, Q, Q, Q, Q, Q, Q, Q, Q, Q, Q, Q, Q, Q, Q, Q, Q, Q, Q, Q, Q, Q, Q, Q, Q, Q, Q, Q, Q, Q, Q, Q, Q, Q, Q, Q, Q, Q, Q, Q, Q, Q, Q, Q, Q, Q, Q, Q, Q, Q, Q, Q, Q, Q, Q, Q, Q, Q, Q, Q, Q, Q, Q, Q, Q, Q, Q, Q, Q, Q, Q, Q, Q, Q, Q, Q, Q, Q, Q, Q] m =
  bnd (rFieldAddr 0 v4) fun v34 =>
  bnd (rLoad false 1 m v34) fun v35 =>
  bnd (rLenSl v35) fun v36 =>
  bnd (aBin X.T .leq T_int false false v8 v36) fun v37 =>
  onBool v37
    (k_f4_6 v3 v4 v5 v7 v8 m)
    (k_f4_3 v3 v4 v5 v7 v8 m) := by kernel_rfl
theorem l_f4_0_eq (v3 v4 v5 v7 v8 : AV) (m : Mem) : l_f4_0 v3 v4 v5 v7 v8 m =
  bnd (rFieldAddr 0 v4) fun v34 =>
  bnd (rLoad false 1 m v34) fun v35 =>
  bnd (rLenSl v35) fun v36 =>
  bnd (aBin X.T .leq T_int false false v8 v36) fun v37 =>
  onBool v37
    (k_f4_6 v3 v4 v5 v7 v8 m)
    (k_f4_3 v3 v4 v5 v7 v8 m) := roundF_of (l_f4_0_u v3 v4 v5 v7 v8 m) (l_f4_0_r v3 v4 v5 v7 v8 m)
theorem k_f4_4_eq (v3 v4 v5 : AV) (m : Mem) : k_f4_4 v3 v4 v5 m =
  l_f4_2 v3 v4 v5 (.int .i64 0) m := by kernel_rfl
theorem k_f4_5_eq (v3 v4 v5 v79 : AV) (m : Mem) : k_f4_5 v3 v4 v5 v79 m =
  onBool v79
    (some (.ret (.bool false), m))
    (k_f4_4 v3 v4 v5 m) := by kernel_rfl
theorem k_f4_6_eq (v3 v4 v5 v7 v8 : AV) (m : Mem) : k_f4_6 v3 v4 v5 v7 v8 m =
  retK (w_f21 v3 v8 m) (fun v42 m1 =>
  bnd (rLoad true 1 m1 v4) fun v44 =>
  retK (w_f22 v44 v8 m1) (fun v46 m2 =>
  bnd (aBin X.T .neq T_int false false v42 v46) fun v47 =>
  onBool v47
    (some (.ret (.bool false), m2))
    (k_f4_9 v3 v4 v5 v7 v8 v42 m2)) (fun u m2 => some (.pan u, m2))) (fun u m1 => some (.pan u, m1)) := by kernel_rfl
theorem k_f4_7_eq (v3 v4 v5 v14 : AV) (m : Mem) : k_f4_7 v3 v4 v5 v14 m =
  some (.ret (.bool true), m) := by kernel_rfl
theorem l_f4_2_u (v3 v4 v5 v14 : AV) (m : Mem) : l_f4_2 v3 v4 v5 v14 m = loopK X F_f4 2 (sB (sB (sR (sL (sR (sR (sR (sR (sR (sR (sR (sR (sR (sR (sR c_f4))))))))))))))) B_f4_2 ⟨[Q, Q, Q, v3, v4, v5, Q, Q, Q, Q, Q, Q, Q, Q, v14, Q, Q, Q, Q, Q, Q, Q, Q, Q, Q, Q, Q, Q, Q, Q, Q, Q, Q, Q, Q, Q, Q, Q, Q, Q, Q, Q, Q, Q, Q, Q, Q, Q, Q, Q, Q, Q, Q, Q, Q, Q, Q, Q, Q, Q, Q, Q, Q, Q, Q, Q, Q, Q, Q, Q, Q, Q, Q, Q, Q, Q, Q, Q, Q, Q, Q, Q, Q, Q, Q, Q, Q, Q, Q, Q, Q, Q, Q, Q, Q, Q, Q, Q, Q, Q, Q, Q, Q, Q, Q, Q, Q, Q, Q, Q, Q, Q, Q, Q, Q, Q, Q, Q, Q, Q, Q], []⟩ m := by kernel_rfl
theorem l_f4_2_r (v3 v4 v5 v14 : AV) (m : Mem) : roundF X F_f4 2 (sB (sB (sR (sL (sR (sR (sR (sR (sR (sR (sR (sR (sR (sR (sR c_f4))))))))))))))) B_f4_2 [Q, Q, Q, v3, v4, v5, Q, Q, Q, Q, Q, Q, Q, Q, v14, Q, Q, Q, Q, Q, Q, Q, Q, Q, Q, Q, Q, Q, Q, Q, Q, Q, Q, Q, Q, Q, Q, Q, Q, Q, Q, Q, Q, Q, Q, Q, Q, Q, Q, Q, Q, Q, Q, Q, Q, Q, Q, Q, Q, Q, Q, Q, Q, Q, Q, Q, Q, Q, Q, Q, Q, Q, Q, Q, Q, Q, Q, Q, Q, Q, Q, Q, Q, Q, Q, Q, Q, Q, Q, Q, Q, Q, Q, Q, Q, Q, Q, Q, Q, Q, Q, Q, Q, Q, Q, Q, Q, Q, Q, Q, Q, Q, Q, Q, Q, Q, Q, Q, Q, Q, Q] m =
  bnd (rLenSl v5) fun v82 =>
  bnd (aBin X.T .lss T_int false false v14 v82) fun v83 =>
  onWant v83
    (bnd (aBin X.T .lss T_int false true v14 (.int .i64 12)) fun v86 =>
  k_f4_11 v3 v4 v5 v14 v86 m)
    (k_f4_11 v3 v4 v5 v14 (.bool false) m)
    (none) := by kernel_rfl
theorem l_f4_2_eq (v3 v4 v5 v14 : AV) (m : Mem) : l_f4_2 v3 v4 v5 v14 m =
  bnd (rLenSl v5) fun v82 =>
  bnd (aBin X.T .lss T_int false false v14 v82) fun v83 =>
  onWant v83
    (bnd (aBin X.T .lss T_int false true v14 (.int .i64 12)) fun v86 =>
  k_f4_11 v3 v4 v5 v14 v86 m)
    (k_f4_11 v3 v4 v5 v14 (.bool false) m)
    (none) := roundF_of (l_f4_2_u v3 v4 v5 v14 m) (l_f4_2_r v3 v4 v5 v14 m)
theorem k_f4_8_eq (v3 v4 v5 v7 v8 : AV) (m : Mem) : k_f4_8 v3 v4 v5 v7 v8 m =
  bnd (aBin X.T .add T_int false true v8 (.int .i64 1)) fun v39 =>
  l_f4_0 v3 v4 v5 v7 v39 m := by kernel_rfl
theorem k_f4_9_eq (v3 v4 v5 v7 v8 v9 : AV) (m : Mem) : k_f4_9 v3 v4 v5 v7 v8 v9 m =
  bnd (aBin X.T .gtr T_int false true v9 (.int .i64 0)) fun v49 =>
  onWant v49
    (bnd (aBin X.T .leq T_int false true v9 (.int .i64 300)) fun v52 =>
  k_f4_12 v3 v4 v5 v7 v8 v52 m)
    (k_f4_12 v3 v4 v5 v7 v8 (.bool false) m)
    (none) := by kernel_rfl
theorem k_f4_10_eq (v3 v4 v5 v14 : AV) (m : Mem) : k_f4_10 v3 v4 v5 v14 m =
  l_f4_4 v3 v4 v5 v14 (.int .i64 (-1)) m := by kernel_rfl
theorem k_f4_11_eq (v3 v4 v5 v14 v87 : AV) (m : Mem) : k_f4_11 v3 v4 v5 v14 v87 m =
  onBool v87
    (k_f4_10 v3 v4 v5 v14 m)
    (k_f4_7 v3 v4 v5 v14 m) := by kernel_rfl
theorem k_f4_12_eq (v3 v4 v5 v7 v8 v53 : AV) (m : Mem) : k_f4_12 v3 v4 v5 v7 v8 v53 m =
  onBool v53
    (bnd (rBuildSlice A_int 1 [(0, v8)]) fun v56 =>
    memK (rAppend A_int 0 m v7 v56) fun v57 m1 =>
    k_f4_8 v3 v4 v5 v57 v8 m1)
    (k_f4_8 v3 v4 v5 v7 v8 m) := by kernel_rfl
theorem k_f4_13_eq (v3 v4 v5 v14 v15 : AV) (m : Mem) : k_f4_13 v3 v4 v5 v14 v15 m =
  bnd (aBin X.T .add T_int false true v14 (.int .i64 1)) fun v89 =>
  l_f4_2 v3 v4 v5 v89 m := by kernel_rfl
theorem l_f4_4_u (v3 v4 v5 v14 v15 : AV) (m : Mem) : l_f4_4 v3 v4 v5 v14 v15 m = loopK X F_f4 4 (sB (sB (sR (sB (sL (sR (sB (sB (sR (sL (sR (sR (sR (sR (sR (sR (sR (sR (sR (sR (sR c_f4))))))))))))))))))))) B_f4_4 ⟨[Q, Q, Q, v3, v4, v5, Q, Q, Q, Q, Q, Q, Q, Q, v14, v15, Q, Q, Q, Q, Q, Q, Q, Q, Q, Q, Q, Q, Q, Q, Q, Q, Q, Q, Q, Q, Q, Q, Q, Q, Q, Q, Q, Q, Q, Q, Q, Q, Q, Q, Q, Q, Q, Q, Q, Q, Q, Q, Q, Q, Q, Q, Q, Q, Q, Q, Q, Q, Q, Q, Q, Q, Q, Q, Q, Q, Q, Q, Q, Q, Q, Q, Q, Q, Q, Q, Q, Q, Q, Q, Q, Q, Q, Q, Q, Q, Q, Q, Q, Q, Q, Q, Q, Q, Q, Q, Q, Q, Q, Q, Q, Q, Q, Q, Q, Q, Q, Q, Q, Q, Q], []⟩ m := by kernel_rfl
theorem l_f4_4_r (v3 v4 v5 v14 v15 : AV) (m : Mem) : roundF X F_f4 4 (sB (sB (sR (sB (sL (sR (sB (sB (sR (sL (sR (sR (sR (sR (sR (sR (sR (sR (sR (sR (sR c_f4))))))))))))))))))))) B_f4_4 [Q, Q, Q, v3, v4, v5, Q, Q, Q, Q, Q, Q, Q, Q, v14, v15, Q, Q, Q, Q, Q, Q, Q, Q, Q, Q, Q, Q, Q, Q, Q, Q, Q, Q, Q, Q, Q, Q, Q, Q, Q, Q, Q, Q, Q, Q, Q, Q, Q, Q, Q, Q, Q, Q, Q, Q, Q, Q, Q, Q, Q, Q, Q, Q, Q, Q, Q, Q, Q, Q, Q, Q, Q, Q, Q, Q, Q, Q, Q, Q, Q, Q, Q, Q, Q, Q, Q, Q, Q, Q, Q, Q, Q, Q, Q, Q, Q, Q, Q, Q, Q, Q, Q, Q, Q, Q, Q, Q, Q, Q, Q, Q, Q, Q, Q, Q, Q, Q, Q, Q, Q] m =
  bnd (rLenSl v5) fun v92 =>
  bnd (aBin X.T .lss T_int false false v15 v92) fun v93 =>
  onWant v93
    (bnd (aBin X.T .lss T_int false true v15 (.int .i64 12)) fun v96 =>
  k_f4_15 v3 v4 v5 v14 v15 v96 m)
    (k_f4_15 v3 v4 v5 v14 v15 (.bool false) m)
    (none) := by kernel_rfl
theorem l_f4_4_eq (v3 v4 v5 v14 v15 : AV) (m : Mem) : l_f4_4 v3 v4 v5 v14 v15 m =
  bnd (rLenSl v5) fun v92 =>
  bnd (aBin X.T .lss T_int false false v15 v92) fun v93 =>
  onWant v93
    (bnd (aBin X.T .lss T_int false true v15 (.int .i64 12)) fun v96 =>
  k_f4_15 v3 v4 v5 v14 v15 v96 m)
    (k_f4_15 v3 v4 v5 v14 v15 (.bool false) m)
    (none) := roundF_of (l_f4_4_u v3 v4 v5 v14 v15 m) (l_f4_4_r v3 v4 v5 v14 v15 m)
theorem k_f4_14_eq (v3 v4 v5 v14 v15 : AV) (m : Mem) : k_f4_14 v3 v4 v5 v14 v15 m =
  bnd (aBin X.T .geq T_int false true v15 (.int .i64 0)) fun v101 =>
  onBool v101
    (bnd (rIxAddrSl 1 v5 v15) fun v104 =>
    bnd (rLoad false 1 m v104) fun v105 =>
    k_f4_17 v3 v4 v5 v14 v15 v105 m)
    (k_f4_17 v3 v4 v5 v14 v15 (.int .i64 (-1)) m) := by kernel_rfl
theorem k_f4_15_eq (v3 v4 v5 v14 v15 v97 : AV) (m : Mem) : k_f4_15 v3 v4 v5 v14 v15 v97 m =
  onBool v97
    (k_f4_14 v3 v4 v5 v14 v15 m)
    (k_f4_13 v3 v4 v5 v14 v15 m) := by kernel_rfl
theorem k_f4_16_eq (v3 v4 v5 v14 v15 : AV) (m : Mem) : k_f4_16 v3 v4 v5 v14 v15 m =
  bnd (aBin X.T .add T_int false true v15 (.int .i64 1)) fun v99 =>
  l_f4_4 v3 v4 v5 v14 v99 m := by kernel_rfl
theorem k_f4_17_eq (v3 v4 v5 v14 v15 v16 : AV) (m : Mem) : k_f4_17 v3 v4 v5 v14 v15 v16 m =
  bnd (rIxAddrSl 1 v5 v14) fun v109 =>
  bnd (rLoad false 1 m v109) fun v110 =>
  retK (w_f27 v3 v110 v16 m) (fun v112 m1 =>
  bnd (rLoad true 1 m1 v4) fun v113 =>
  bnd (rIxAddrSl 1 v5 v14) fun v116 =>
  bnd (rLoad false 1 m1 v116) fun v117 =>
  retK (w_f28 v113 v117 v16 m1) (fun v119 m2 =>
  bnd (aBin X.T .neq T_bool false false v112 v119) fun v120 =>
  bnd (rLoad true 1 m v4) fun u =>
  sameK u v113 <|
  bnd (rLoad false 1 m v116) fun u_1 =>
  sameK u_1 v117 <|
  onBool v120
    (some (.ret (.bool false), m2))
    (k_f4_16 v3 v4 v5 v14 v15 m2)) (fun u m2 => none)) (fun u m1 => none) := by kernel_rfl
end Go.AM
namespace Go.AM
open Go.Proofs
set_option maxRecDepth 100000
set_option linter.unusedVariables false
noncomputable def c_f15 : Code := bodyOf Try.f15
noncomputable def N_f15 : AAct → Mem → Option (AOut × Mem) := finK X.T Try.f15.results.toList .normal
noncomputable def P_f15 : AExit → AAct → Mem → Option (AOut × Mem) := finK X.T Try.f15.results.toList
noncomputable def K_f15_0 : AAct → Mem → Option (AOut × Mem) := execF X F_f15 0 (sR (sR c_f15)) N_f15 P_f15
noncomputable def K_f15_1 : AAct → Mem → Option (AOut × Mem) := execF X F_f15 0 (sR (sL (sR c_f15))) K_f15_0 P_f15
noncomputable def K_f15_2 : AAct → Mem → Option (AOut × Mem) := execF X F_f15 0 (sR (sR (sR (sR c_f15)))) N_f15 P_f15
noncomputable def k_f15_0 (v0 : AV) (m : Mem) : Option (AOut × Mem) := K_f15_0 ⟨[v0, Q, Q, Q, Q, Q, Q, Q, Q, Q, Q, Q, Q, Q, Q, Q, Q, Q, Q, Q, Q], []⟩ m
noncomputable def k_f15_1 (v0 v10 : AV) (m : Mem) : Option (AOut × Mem) := K_f15_1 ⟨[v0, Q, Q, Q, Q, Q, Q, Q, Q, Q, v10, Q, Q, Q, Q, Q, Q, Q, Q, Q, Q], []⟩ m
noncomputable def k_f15_2 (v3 : AV) (m : Mem) : Option (AOut × Mem) := K_f15_2 ⟨[Q, Q, Q, v3, Q, Q, Q, Q, Q, Q, Q, Q, Q, Q, Q, Q, Q, Q, Q, Q, Q], []⟩ m
theorem e_f15 (v0 : AV) (m : Mem) : w_f15 v0 m =
  bnd (aBin X.T .eql T_string false true v0 (.str (bs []))) fun v6 =>
  onWant v6
    (k_f15_1 v0 (.bool true) m)
    (retK (w_f40 v0 (.str (bs [40, 42])) m) (fun v9 m1 =>
  k_f15_1 v0 v9 m1) (fun u m1 => some (.pan u, m1)))
    (none) := (aW_F (c := c_f15) (fn := Try.f15) (by kernel_rfl) (by kernel_rfl) (by kernel_rfl) _ m).trans (by kernel_rfl)
theorem k_f15_0_eq (v0 : AV) (m : Mem) : k_f15_0 v0 m =
  retK (w_f41 v0 m) (fun v13 m1 =>
  bnd (aExtract v13 0) fun v14 =>
  bnd (aExtract v13 1) fun v15 =>
  bnd (rLenStr v0) fun v18 =>
  bnd (aBin X.T .neq T_int false false v15 v18) fun v19 =>
  onBool v19
    (some (.ret (.int .i64 0), m1))
    (k_f15_2 v14 m1)) (fun u m1 => some (.pan u, m1)) := by kernel_rfl
theorem k_f15_1_eq (v0 v10 : AV) (m : Mem) : k_f15_1 v0 v10 m =
  onBool v10
    (some (.ret (.int .i64 0), m))
    (k_f15_0 v0 m) := by kernel_rfl
theorem k_f15_2_eq (v3 : AV) (m : Mem) : k_f15_2 v3 m =
  some (.ret v3, m) := by kernel_rfl
noncomputable def c_f16 : Code := bodyOf Try.f16
noncomputable def N_f16 : AAct → Mem → Option (AOut × Mem) := finK X.T Try.f16.results.toList .normal
noncomputable def P_f16 : AExit → AAct → Mem → Option (AOut × Mem) := finK X.T Try.f16.results.toList
noncomputable def K_f16_0 : AAct → Mem → Option (AOut × Mem) := execF X F_f16 0 (sR (sR (sR c_f16))) N_f16 P_f16
noncomputable def K_f16_1 : AAct → Mem → Option (AOut × Mem) := execF X F_f16 0 (sR (sL (sR (sR c_f16)))) K_f16_0 P_f16
noncomputable def k_f16_0 (v3 : AV) (m : Mem) : Option (AOut × Mem) := K_f16_0 ⟨[Q, Q, Q, v3, Q, Q, Q, Q, Q, Q, Q, Q, Q, Q, Q, Q, Q, Q, Q, Q, Q, Q, Q, Q, Q, Q, Q, Q, Q, Q, Q, Q, Q, Q, Q, Q], []⟩ m
noncomputable def k_f16_1 (v3 v31 : AV) (m : Mem) : Option (AOut × Mem) := K_f16_1 ⟨[Q, Q, Q, v3, Q, Q, Q, Q, Q, Q, Q, Q, Q, Q, Q, Q, Q, Q, Q, Q, Q, Q, Q, Q, Q, Q, Q, Q, Q, Q, Q, v31, Q, Q, Q, Q], []⟩ m
theorem e_f16 (v0 : AV) (m : Mem) : w_f16 v0 m =
  retK (w_f42 v0 m) (fun v5 m1 =>
  bnd (rLenSl v5) fun v7 =>
  bnd (aBin X.T .neq T_int false true v7 (.int .i64 1)) fun v8 =>
  onWant v8
    (k_f16_1 v5 (.bool true) m1)
    (bnd (rIxAddrSl 3 v5 (.int .i64 0)) fun v11 =>
  bnd (rFieldAddr 1 v11) fun v12 =>
  bnd (rLoad false 1 m1 v12) fun v13 =>
  bnd (aBin X.T .neq T_int false true v13 (.int .i64 0)) fun v14 =>
  onWant v14
    (k_f16_1 v5 (.bool true) m1)
    (bnd (rIxAddrSl 3 v5 (.int .i64 0)) fun v18 =>
  bnd (rFieldAddr 2 v18) fun v19 =>
  bnd (rLoad false 1 m1 v19) fun v20 =>
  bnd (rLenStr v0) fun v22 =>
  bnd (aBin X.T .neq T_int false false v20 v22) fun v23 =>
  onWant v23
    (k_f16_1 v5 (.bool true) m1)
    (bnd (rIxAddrSl 3 v5 (.int .i64 0)) fun v27 =>
  bnd (rFieldAddr 0 v27) fun v28 =>
  bnd (rLoad false 1 m1 v28) fun v29 =>
  bnd (aBin X.T .eql T_int false true v29 (.int .i64 7)) fun v30 =>
  k_f16_1 v5 v30 m1)
    (none))
    (none))
    (none)) (fun u m1 => some (.pan u, m1)) := (aW_F (c := c_f16) (fn := Try.f16) (by kernel_rfl) (by kernel_rfl) (by kernel_rfl) _ m).trans (by kernel_rfl)
theorem k_f16_0_eq (v3 : AV) (m : Mem) : k_f16_0 v3 m =
  bnd (rIxAddrSl 3 v3 (.int .i64 0)) fun v33 =>
  bnd (rFieldAddr 0 v33) fun v34 =>
  bnd (rLoad false 1 m v34) fun v35 =>
  some (.ret v35, m) := by kernel_rfl
theorem k_f16_1_eq (v3 v31 : AV) (m : Mem) : k_f16_1 v3 v31 m =
  onBool v31
    (some (.ret (.int .i64 0), m))
    (k_f16_0 v3 m) := by kernel_rfl
end Go.AM
