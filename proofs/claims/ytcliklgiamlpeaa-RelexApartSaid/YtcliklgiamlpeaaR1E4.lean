/-
  A part of the proof: equations or tables of the program over the abstract machine, printed by a program of this proof's own.
-/
import Derived.Test.YtcliklgiamlpeaaR1Ctx
namespace Go.AM
open Go.Proofs
set_option maxRecDepth 100000
set_option linter.unusedVariables false

/-! ### parlance/relex.Relex -/
noncomputable def c_relex_Relex : Code := bodyOf Try.f24
noncomputable def N_relex_Relex : AAct → Mem → Option (AOut × Mem) := finK X.T Try.f24.results.toList .normal
noncomputable def P_relex_Relex : AExit → AAct → Mem → Option (AOut × Mem) := finK X.T Try.f24.results.toList
noncomputable def K_relex_Relex_0 : AAct → Mem → Option (AOut × Mem) := execF X F_relex_Relex 0 (sR (sR c_relex_Relex)) N_relex_Relex P_relex_Relex
noncomputable def K_relex_Relex_1 : AAct → Mem → Option (AOut × Mem) := execF X F_relex_Relex 0 (sR (sL (sR c_relex_Relex))) K_relex_Relex_0 P_relex_Relex
noncomputable def K_relex_Relex_2 : AAct → Mem → Option (AOut × Mem) := execF X F_relex_Relex 0 (sR (sR (sR (sR c_relex_Relex)))) N_relex_Relex P_relex_Relex
noncomputable def B_relex_Relex_0 : AExit → AAct → Mem → Option (AOut × Mem) := blockX 0 K_relex_Relex_2 P_relex_Relex
noncomputable def L_relex_Relex_0 : AAct → Mem → Option (AOut × Mem) := fun a m => killF (X.lk F_relex_Relex 0) a.tmps fun l => loopK X F_relex_Relex 0 (sB (sB (sL (sR (sR (sR c_relex_Relex)))))) B_relex_Relex_0 ⟨l, a.defers⟩ m
noncomputable def K_relex_Relex_3 : AAct → Mem → Option (AOut × Mem) := execF X F_relex_Relex 0 (sR (sR (sR (sR (sR (sR c_relex_Relex)))))) N_relex_Relex P_relex_Relex
noncomputable def K_relex_Relex_4 : AAct → Mem → Option (AOut × Mem) := execF X F_relex_Relex 0 (sR (sB (sB (sL (sR (sR (sR c_relex_Relex))))))) L_relex_Relex_0 B_relex_Relex_0
noncomputable def K_relex_Relex_5 : AAct → Mem → Option (AOut × Mem) := execF X F_relex_Relex 0 (sR (sL (sB (sB (sL (sR (sR (sR c_relex_Relex)))))))) K_relex_Relex_4 B_relex_Relex_0
noncomputable def K_relex_Relex_6 : AAct → Mem → Option (AOut × Mem) := execF X F_relex_Relex 0 (sR (sR (sR (sR (sR (sR (sR (sR c_relex_Relex)))))))) N_relex_Relex P_relex_Relex
noncomputable def B_relex_Relex_2 : AExit → AAct → Mem → Option (AOut × Mem) := blockX 2 K_relex_Relex_6 P_relex_Relex
noncomputable def L_relex_Relex_2 : AAct → Mem → Option (AOut × Mem) := fun a m => killF (X.lk F_relex_Relex 2) a.tmps fun l => loopK X F_relex_Relex 2 (sB (sB (sL (sR (sR (sR (sR (sR (sR (sR c_relex_Relex)))))))))) B_relex_Relex_2 ⟨l, a.defers⟩ m
noncomputable def B_relex_Relex_1 : AExit → AAct → Mem → Option (AOut × Mem) := blockX 1 L_relex_Relex_0 B_relex_Relex_0
noncomputable def K_relex_Relex_7 : AAct → Mem → Option (AOut × Mem) := execF X F_relex_Relex 0 (sR (sR (sR (sR (sR (sR (sR (sR (sR (sR (sR (sR c_relex_Relex)))))))))))) N_relex_Relex P_relex_Relex
noncomputable def B_relex_Relex_4 : AExit → AAct → Mem → Option (AOut × Mem) := blockX 4 K_relex_Relex_7 P_relex_Relex
noncomputable def L_relex_Relex_4 : AAct → Mem → Option (AOut × Mem) := fun a m => killF (X.lk F_relex_Relex 4) a.tmps fun l => loopK X F_relex_Relex 4 (sB (sB (sR (sL (sR (sR (sR (sR (sR (sR (sR (sR (sR (sR (sR c_relex_Relex))))))))))))))) B_relex_Relex_4 ⟨l, a.defers⟩ m
noncomputable def K_relex_Relex_8 : AAct → Mem → Option (AOut × Mem) := execF X F_relex_Relex 2 (sR (sB (sB (sL (sR (sR (sR (sR (sR (sR (sR c_relex_Relex))))))))))) L_relex_Relex_2 B_relex_Relex_2
noncomputable def K_relex_Relex_9 : AAct → Mem → Option (AOut × Mem) := execF X F_relex_Relex 2 (sR (sL (sB (sB (sL (sR (sR (sR (sR (sR (sR (sR c_relex_Relex)))))))))))) K_relex_Relex_8 B_relex_Relex_2
noncomputable def K_relex_Relex_10 : AAct → Mem → Option (AOut × Mem) := execF X F_relex_Relex 4 (sR (sR (sB (sB (sR (sL (sR (sR (sR (sR (sR (sR (sR (sR (sR (sR (sR c_relex_Relex))))))))))))))))) L_relex_Relex_4 B_relex_Relex_4
noncomputable def B_relex_Relex_3 : AExit → AAct → Mem → Option (AOut × Mem) := blockX 3 L_relex_Relex_2 B_relex_Relex_2
noncomputable def K_relex_Relex_11 : AAct → Mem → Option (AOut × Mem) := execF X F_relex_Relex 4 (sR (sR (sR (sB (sB (sR (sL (sR (sR (sR (sR (sR (sR (sR (sR (sR (sR (sR c_relex_Relex)))))))))))))))))) L_relex_Relex_4 B_relex_Relex_4
noncomputable def B_relex_Relex_5 : AExit → AAct → Mem → Option (AOut × Mem) := blockX 5 K_relex_Relex_11 B_relex_Relex_4
noncomputable def K_relex_Relex_12 : AAct → Mem → Option (AOut × Mem) := execF X F_relex_Relex 5 (sR (sR (sR (sB (sL (sR (sR (sB (sB (sR (sL (sR (sR (sR (sR (sR (sR (sR (sR (sR (sR (sR c_relex_Relex)))))))))))))))))))))) K_relex_Relex_11 B_relex_Relex_5
noncomputable def K_relex_Relex_13 : AAct → Mem → Option (AOut × Mem) := execF X F_relex_Relex 5 (sR (sR (sL (sR (sR (sB (sL (sR (sR (sB (sB (sR (sL (sR (sR (sR (sR (sR (sR (sR (sR (sR (sR (sR c_relex_Relex)))))))))))))))))))))))) K_relex_Relex_12 B_relex_Relex_5
noncomputable def K_relex_Relex_14 : AAct → Mem → Option (AOut × Mem) := execF X F_relex_Relex 5 (sR (sL (sR (sR (sL (sR (sR (sB (sL (sR (sR (sB (sB (sR (sL (sR (sR (sR (sR (sR (sR (sR (sR (sR (sR (sR c_relex_Relex)))))))))))))))))))))))))) K_relex_Relex_12 B_relex_Relex_5
noncomputable def B_relex_Relex_6 : AExit → AAct → Mem → Option (AOut × Mem) := blockX 6 K_relex_Relex_14 B_relex_Relex_5
noncomputable def L_relex_Relex_6 : AAct → Mem → Option (AOut × Mem) := fun a m => killF (X.lk F_relex_Relex 6) a.tmps fun l => loopK X F_relex_Relex 6 (sB (sB (sR (sL (sL (sR (sR (sL (sR (sR (sB (sL (sR (sR (sB (sB (sR (sL (sR (sR (sR (sR (sR (sR (sR (sR (sR (sR (sR c_relex_Relex))))))))))))))))))))))))))))) B_relex_Relex_6 ⟨l, a.defers⟩ m
noncomputable def K_relex_Relex_15 : AAct → Mem → Option (AOut × Mem) := execF X F_relex_Relex 6 (sR (sR (sB (sB (sR (sL (sL (sR (sR (sL (sR (sR (sB (sL (sR (sR (sB (sB (sR (sL (sR (sR (sR (sR (sR (sR (sR (sR (sR (sR (sR c_relex_Relex))))))))))))))))))))))))))))))) L_relex_Relex_6 B_relex_Relex_6
noncomputable def K_relex_Relex_16 : AAct → Mem → Option (AOut × Mem) := execF X F_relex_Relex 6 (sR (sR (sR (sB (sB (sR (sL (sL (sR (sR (sL (sR (sR (sB (sL (sR (sR (sB (sB (sR (sL (sR (sR (sR (sR (sR (sR (sR (sR (sR (sR (sR c_relex_Relex)))))))))))))))))))))))))))))))) L_relex_Relex_6 B_relex_Relex_6
noncomputable def B_relex_Relex_7 : AExit → AAct → Mem → Option (AOut × Mem) := blockX 7 K_relex_Relex_16 B_relex_Relex_6
noncomputable def k_relex_Relex_0 (v0 v1 v2 v3 v4 : AV) (m : Mem) : Option (AOut × Mem) := K_relex_Relex_0 ⟨[v0, v1, v2, v3, v4, Q, Q, Q, Q, Q, Q, Q, Q, Q, Q, Q, Q, Q, Q, Q, Q, Q, Q, Q, Q, Q, Q, Q, Q, Q, Q, Q, Q, Q, Q, Q, Q, Q, Q, Q, Q, Q, Q, Q, Q, Q, Q, Q, Q, Q, Q, Q, Q, Q, Q, Q, Q, Q, Q, Q, Q, Q, Q, Q, Q, Q, Q, Q, Q, Q, Q, Q, Q, Q, Q, Q, Q, Q, Q, Q, Q, Q, Q, Q, Q, Q, Q, Q, Q, Q, Q, Q, Q, Q, Q, Q, Q, Q, Q, Q, Q, Q, Q, Q, Q, Q, Q, Q, Q, Q, Q, Q, Q, Q, Q, Q, Q, Q, Q, Q, Q, Q, Q, Q, Q, Q, Q, Q, Q, Q, Q, Q, Q, Q, Q, Q, Q, Q, Q, Q, Q, Q, Q, Q, Q, Q, Q, Q, Q, Q, Q, Q, Q, Q, Q, Q, Q, Q, Q, Q, Q], []⟩ m
noncomputable def k_relex_Relex_1 (v0 v1 v2 v3 v4 v38 : AV) (m : Mem) : Option (AOut × Mem) := K_relex_Relex_1 ⟨[v0, v1, v2, v3, v4, Q, Q, Q, Q, Q, Q, Q, Q, Q, Q, Q, Q, Q, Q, Q, Q, Q, Q, Q, Q, Q, Q, Q, Q, Q, Q, Q, Q, Q, Q, Q, Q, Q, v38, Q, Q, Q, Q, Q, Q, Q, Q, Q, Q, Q, Q, Q, Q, Q, Q, Q, Q, Q, Q, Q, Q, Q, Q, Q, Q, Q, Q, Q, Q, Q, Q, Q, Q, Q, Q, Q, Q, Q, Q, Q, Q, Q, Q, Q, Q, Q, Q, Q, Q, Q, Q, Q, Q, Q, Q, Q, Q, Q, Q, Q, Q, Q, Q, Q, Q, Q, Q, Q, Q, Q, Q, Q, Q, Q, Q, Q, Q, Q, Q, Q, Q, Q, Q, Q, Q, Q, Q, Q, Q, Q, Q, Q, Q, Q, Q, Q, Q, Q, Q, Q, Q, Q, Q, Q, Q, Q, Q, Q, Q, Q, Q, Q, Q, Q, Q, Q, Q, Q, Q, Q, Q], []⟩ m
noncomputable def k_relex_Relex_2 (v0 v1 v2 v3 v4 v14 : AV) (m : Mem) : Option (AOut × Mem) := K_relex_Relex_2 ⟨[v0, v1, v2, v3, v4, Q, Q, Q, Q, Q, Q, Q, Q, Q, v14, Q, Q, Q, Q, Q, Q, Q, Q, Q, Q, Q, Q, Q, Q, Q, Q, Q, Q, Q, Q, Q, Q, Q, Q, Q, Q, Q, Q, Q, Q, Q, Q, Q, Q, Q, Q, Q, Q, Q, Q, Q, Q, Q, Q, Q, Q, Q, Q, Q, Q, Q, Q, Q, Q, Q, Q, Q, Q, Q, Q, Q, Q, Q, Q, Q, Q, Q, Q, Q, Q, Q, Q, Q, Q, Q, Q, Q, Q, Q, Q, Q, Q, Q, Q, Q, Q, Q, Q, Q, Q, Q, Q, Q, Q, Q, Q, Q, Q, Q, Q, Q, Q, Q, Q, Q, Q, Q, Q, Q, Q, Q, Q, Q, Q, Q, Q, Q, Q, Q, Q, Q, Q, Q, Q, Q, Q, Q, Q, Q, Q, Q, Q, Q, Q, Q, Q, Q, Q, Q, Q, Q, Q, Q, Q, Q, Q], []⟩ m
noncomputable def l_relex_Relex_0 (v0 v1 v2 v3 v4 v14 : AV) (m : Mem) : Option (AOut × Mem) := L_relex_Relex_0 ⟨[v0, v1, v2, v3, v4, Q, Q, Q, Q, Q, Q, Q, Q, Q, v14, Q, Q, Q, Q, Q, Q, Q, Q, Q, Q, Q, Q, Q, Q, Q, Q, Q, Q, Q, Q, Q, Q, Q, Q, Q, Q, Q, Q, Q, Q, Q, Q, Q, Q, Q, Q, Q, Q, Q, Q, Q, Q, Q, Q, Q, Q, Q, Q, Q, Q, Q, Q, Q, Q, Q, Q, Q, Q, Q, Q, Q, Q, Q, Q, Q, Q, Q, Q, Q, Q, Q, Q, Q, Q, Q, Q, Q, Q, Q, Q, Q, Q, Q, Q, Q, Q, Q, Q, Q, Q, Q, Q, Q, Q, Q, Q, Q, Q, Q, Q, Q, Q, Q, Q, Q, Q, Q, Q, Q, Q, Q, Q, Q, Q, Q, Q, Q, Q, Q, Q, Q, Q, Q, Q, Q, Q, Q, Q, Q, Q, Q, Q, Q, Q, Q, Q, Q, Q, Q, Q, Q, Q, Q, Q, Q, Q], []⟩ m
noncomputable def k_relex_Relex_3 (v0 v1 v2 v3 v4 v14 v15 : AV) (m : Mem) : Option (AOut × Mem) := K_relex_Relex_3 ⟨[v0, v1, v2, v3, v4, Q, Q, Q, Q, Q, Q, Q, Q, Q, v14, v15, Q, Q, Q, Q, Q, Q, Q, Q, Q, Q, Q, Q, Q, Q, Q, Q, Q, Q, Q, Q, Q, Q, Q, Q, Q, Q, Q, Q, Q, Q, Q, Q, Q, Q, Q, Q, Q, Q, Q, Q, Q, Q, Q, Q, Q, Q, Q, Q, Q, Q, Q, Q, Q, Q, Q, Q, Q, Q, Q, Q, Q, Q, Q, Q, Q, Q, Q, Q, Q, Q, Q, Q, Q, Q, Q, Q, Q, Q, Q, Q, Q, Q, Q, Q, Q, Q, Q, Q, Q, Q, Q, Q, Q, Q, Q, Q, Q, Q, Q, Q, Q, Q, Q, Q, Q, Q, Q, Q, Q, Q, Q, Q, Q, Q, Q, Q, Q, Q, Q, Q, Q, Q, Q, Q, Q, Q, Q, Q, Q, Q, Q, Q, Q, Q, Q, Q, Q, Q, Q, Q, Q, Q, Q, Q, Q], []⟩ m
noncomputable def k_relex_Relex_4 (v0 v1 v2 v3 v4 v14 : AV) (m : Mem) : Option (AOut × Mem) := K_relex_Relex_4 ⟨[v0, v1, v2, v3, v4, Q, Q, Q, Q, Q, Q, Q, Q, Q, v14, Q, Q, Q, Q, Q, Q, Q, Q, Q, Q, Q, Q, Q, Q, Q, Q, Q, Q, Q, Q, Q, Q, Q, Q, Q, Q, Q, Q, Q, Q, Q, Q, Q, Q, Q, Q, Q, Q, Q, Q, Q, Q, Q, Q, Q, Q, Q, Q, Q, Q, Q, Q, Q, Q, Q, Q, Q, Q, Q, Q, Q, Q, Q, Q, Q, Q, Q, Q, Q, Q, Q, Q, Q, Q, Q, Q, Q, Q, Q, Q, Q, Q, Q, Q, Q, Q, Q, Q, Q, Q, Q, Q, Q, Q, Q, Q, Q, Q, Q, Q, Q, Q, Q, Q, Q, Q, Q, Q, Q, Q, Q, Q, Q, Q, Q, Q, Q, Q, Q, Q, Q, Q, Q, Q, Q, Q, Q, Q, Q, Q, Q, Q, Q, Q, Q, Q, Q, Q, Q, Q, Q, Q, Q, Q, Q, Q], []⟩ m
noncomputable def k_relex_Relex_5 (v0 v1 v2 v3 v4 v14 v53 : AV) (m : Mem) : Option (AOut × Mem) := K_relex_Relex_5 ⟨[v0, v1, v2, v3, v4, Q, Q, Q, Q, Q, Q, Q, Q, Q, v14, Q, Q, Q, Q, Q, Q, Q, Q, Q, Q, Q, Q, Q, Q, Q, Q, Q, Q, Q, Q, Q, Q, Q, Q, Q, Q, Q, Q, Q, Q, Q, Q, Q, Q, Q, Q, Q, Q, v53, Q, Q, Q, Q, Q, Q, Q, Q, Q, Q, Q, Q, Q, Q, Q, Q, Q, Q, Q, Q, Q, Q, Q, Q, Q, Q, Q, Q, Q, Q, Q, Q, Q, Q, Q, Q, Q, Q, Q, Q, Q, Q, Q, Q, Q, Q, Q, Q, Q, Q, Q, Q, Q, Q, Q, Q, Q, Q, Q, Q, Q, Q, Q, Q, Q, Q, Q, Q, Q, Q, Q, Q, Q, Q, Q, Q, Q, Q, Q, Q, Q, Q, Q, Q, Q, Q, Q, Q, Q, Q, Q, Q, Q, Q, Q, Q, Q, Q, Q, Q, Q, Q, Q, Q, Q, Q, Q], []⟩ m
noncomputable def k_relex_Relex_6 (v0 v1 v2 v3 v4 v14 v15 v16 : AV) (m : Mem) : Option (AOut × Mem) := K_relex_Relex_6 ⟨[v0, v1, v2, v3, v4, Q, Q, Q, Q, Q, Q, Q, Q, Q, v14, v15, v16, Q, Q, Q, Q, Q, Q, Q, Q, Q, Q, Q, Q, Q, Q, Q, Q, Q, Q, Q, Q, Q, Q, Q, Q, Q, Q, Q, Q, Q, Q, Q, Q, Q, Q, Q, Q, Q, Q, Q, Q, Q, Q, Q, Q, Q, Q, Q, Q, Q, Q, Q, Q, Q, Q, Q, Q, Q, Q, Q, Q, Q, Q, Q, Q, Q, Q, Q, Q, Q, Q, Q, Q, Q, Q, Q, Q, Q, Q, Q, Q, Q, Q, Q, Q, Q, Q, Q, Q, Q, Q, Q, Q, Q, Q, Q, Q, Q, Q, Q, Q, Q, Q, Q, Q, Q, Q, Q, Q, Q, Q, Q, Q, Q, Q, Q, Q, Q, Q, Q, Q, Q, Q, Q, Q, Q, Q, Q, Q, Q, Q, Q, Q, Q, Q, Q, Q, Q, Q, Q, Q, Q, Q, Q, Q], []⟩ m
noncomputable def l_relex_Relex_2 (v0 v1 v2 v3 v4 v14 v15 v16 : AV) (m : Mem) : Option (AOut × Mem) := L_relex_Relex_2 ⟨[v0, v1, v2, v3, v4, Q, Q, Q, Q, Q, Q, Q, Q, Q, v14, v15, v16, Q, Q, Q, Q, Q, Q, Q, Q, Q, Q, Q, Q, Q, Q, Q, Q, Q, Q, Q, Q, Q, Q, Q, Q, Q, Q, Q, Q, Q, Q, Q, Q, Q, Q, Q, Q, Q, Q, Q, Q, Q, Q, Q, Q, Q, Q, Q, Q, Q, Q, Q, Q, Q, Q, Q, Q, Q, Q, Q, Q, Q, Q, Q, Q, Q, Q, Q, Q, Q, Q, Q, Q, Q, Q, Q, Q, Q, Q, Q, Q, Q, Q, Q, Q, Q, Q, Q, Q, Q, Q, Q, Q, Q, Q, Q, Q, Q, Q, Q, Q, Q, Q, Q, Q, Q, Q, Q, Q, Q, Q, Q, Q, Q, Q, Q, Q, Q, Q, Q, Q, Q, Q, Q, Q, Q, Q, Q, Q, Q, Q, Q, Q, Q, Q, Q, Q, Q, Q, Q, Q, Q, Q, Q, Q], []⟩ m
noncomputable def k_relex_Relex_7 (v2 v4 v14 v15 v17 v18 v105 v106 v107 : AV) (m : Mem) : Option (AOut × Mem) := K_relex_Relex_7 ⟨[Q, Q, v2, Q, v4, Q, Q, Q, Q, Q, Q, Q, Q, Q, v14, v15, Q, v17, v18, Q, Q, Q, Q, Q, Q, Q, Q, Q, Q, Q, Q, Q, Q, Q, Q, Q, Q, Q, Q, Q, Q, Q, Q, Q, Q, Q, Q, Q, Q, Q, Q, Q, Q, Q, Q, Q, Q, Q, Q, Q, Q, Q, Q, Q, Q, Q, Q, Q, Q, Q, Q, Q, Q, Q, Q, Q, Q, Q, Q, Q, Q, Q, Q, Q, Q, Q, Q, Q, Q, Q, Q, Q, Q, Q, Q, Q, Q, Q, Q, Q, Q, Q, Q, Q, Q, v105, v106, v107, Q, Q, Q, Q, Q, Q, Q, Q, Q, Q, Q, Q, Q, Q, Q, Q, Q, Q, Q, Q, Q, Q, Q, Q, Q, Q, Q, Q, Q, Q, Q, Q, Q, Q, Q, Q, Q, Q, Q, Q, Q, Q, Q, Q, Q, Q, Q, Q, Q, Q, Q, Q, Q], []⟩ m
noncomputable def l_relex_Relex_4 (v2 v4 v14 v15 v17 v18 v105 v106 v107 : AV) (m : Mem) : Option (AOut × Mem) := L_relex_Relex_4 ⟨[Q, Q, v2, Q, v4, Q, Q, Q, Q, Q, Q, Q, Q, Q, v14, v15, Q, v17, v18, Q, Q, Q, Q, Q, Q, Q, Q, Q, Q, Q, Q, Q, Q, Q, Q, Q, Q, Q, Q, Q, Q, Q, Q, Q, Q, Q, Q, Q, Q, Q, Q, Q, Q, Q, Q, Q, Q, Q, Q, Q, Q, Q, Q, Q, Q, Q, Q, Q, Q, Q, Q, Q, Q, Q, Q, Q, Q, Q, Q, Q, Q, Q, Q, Q, Q, Q, Q, Q, Q, Q, Q, Q, Q, Q, Q, Q, Q, Q, Q, Q, Q, Q, Q, Q, Q, v105, v106, v107, Q, Q, Q, Q, Q, Q, Q, Q, Q, Q, Q, Q, Q, Q, Q, Q, Q, Q, Q, Q, Q, Q, Q, Q, Q, Q, Q, Q, Q, Q, Q, Q, Q, Q, Q, Q, Q, Q, Q, Q, Q, Q, Q, Q, Q, Q, Q, Q, Q, Q, Q, Q, Q], []⟩ m
noncomputable def k_relex_Relex_8 (v0 v1 v2 v3 v4 v14 v15 v16 : AV) (m : Mem) : Option (AOut × Mem) := K_relex_Relex_8 ⟨[v0, v1, v2, v3, v4, Q, Q, Q, Q, Q, Q, Q, Q, Q, v14, v15, v16, Q, Q, Q, Q, Q, Q, Q, Q, Q, Q, Q, Q, Q, Q, Q, Q, Q, Q, Q, Q, Q, Q, Q, Q, Q, Q, Q, Q, Q, Q, Q, Q, Q, Q, Q, Q, Q, Q, Q, Q, Q, Q, Q, Q, Q, Q, Q, Q, Q, Q, Q, Q, Q, Q, Q, Q, Q, Q, Q, Q, Q, Q, Q, Q, Q, Q, Q, Q, Q, Q, Q, Q, Q, Q, Q, Q, Q, Q, Q, Q, Q, Q, Q, Q, Q, Q, Q, Q, Q, Q, Q, Q, Q, Q, Q, Q, Q, Q, Q, Q, Q, Q, Q, Q, Q, Q, Q, Q, Q, Q, Q, Q, Q, Q, Q, Q, Q, Q, Q, Q, Q, Q, Q, Q, Q, Q, Q, Q, Q, Q, Q, Q, Q, Q, Q, Q, Q, Q, Q, Q, Q, Q, Q, Q], []⟩ m
noncomputable def k_relex_Relex_9 (v0 v1 v2 v3 v4 v14 v15 v16 v77 : AV) (m : Mem) : Option (AOut × Mem) := K_relex_Relex_9 ⟨[v0, v1, v2, v3, v4, Q, Q, Q, Q, Q, Q, Q, Q, Q, v14, v15, v16, Q, Q, Q, Q, Q, Q, Q, Q, Q, Q, Q, Q, Q, Q, Q, Q, Q, Q, Q, Q, Q, Q, Q, Q, Q, Q, Q, Q, Q, Q, Q, Q, Q, Q, Q, Q, Q, Q, Q, Q, Q, Q, Q, Q, Q, Q, Q, Q, Q, Q, Q, Q, Q, Q, Q, Q, Q, Q, Q, Q, v77, Q, Q, Q, Q, Q, Q, Q, Q, Q, Q, Q, Q, Q, Q, Q, Q, Q, Q, Q, Q, Q, Q, Q, Q, Q, Q, Q, Q, Q, Q, Q, Q, Q, Q, Q, Q, Q, Q, Q, Q, Q, Q, Q, Q, Q, Q, Q, Q, Q, Q, Q, Q, Q, Q, Q, Q, Q, Q, Q, Q, Q, Q, Q, Q, Q, Q, Q, Q, Q, Q, Q, Q, Q, Q, Q, Q, Q, Q, Q, Q, Q, Q, Q], []⟩ m
noncomputable def k_relex_Relex_10 (v2 v4 v14 v15 v17 v18 v105 v106 v107 : AV) (m : Mem) : Option (AOut × Mem) := K_relex_Relex_10 ⟨[Q, Q, v2, Q, v4, Q, Q, Q, Q, Q, Q, Q, Q, Q, v14, v15, Q, v17, v18, Q, Q, Q, Q, Q, Q, Q, Q, Q, Q, Q, Q, Q, Q, Q, Q, Q, Q, Q, Q, Q, Q, Q, Q, Q, Q, Q, Q, Q, Q, Q, Q, Q, Q, Q, Q, Q, Q, Q, Q, Q, Q, Q, Q, Q, Q, Q, Q, Q, Q, Q, Q, Q, Q, Q, Q, Q, Q, Q, Q, Q, Q, Q, Q, Q, Q, Q, Q, Q, Q, Q, Q, Q, Q, Q, Q, Q, Q, Q, Q, Q, Q, Q, Q, Q, Q, v105, v106, v107, Q, Q, Q, Q, Q, Q, Q, Q, Q, Q, Q, Q, Q, Q, Q, Q, Q, Q, Q, Q, Q, Q, Q, Q, Q, Q, Q, Q, Q, Q, Q, Q, Q, Q, Q, Q, Q, Q, Q, Q, Q, Q, Q, Q, Q, Q, Q, Q, Q, Q, Q, Q, Q], []⟩ m
noncomputable def k_relex_Relex_11 (v2 v4 v14 v15 v17 v18 v105 v106 v107 : AV) (m : Mem) : Option (AOut × Mem) := K_relex_Relex_11 ⟨[Q, Q, v2, Q, v4, Q, Q, Q, Q, Q, Q, Q, Q, Q, v14, v15, Q, v17, v18, Q, Q, Q, Q, Q, Q, Q, Q, Q, Q, Q, Q, Q, Q, Q, Q, Q, Q, Q, Q, Q, Q, Q, Q, Q, Q, Q, Q, Q, Q, Q, Q, Q, Q, Q, Q, Q, Q, Q, Q, Q, Q, Q, Q, Q, Q, Q, Q, Q, Q, Q, Q, Q, Q, Q, Q, Q, Q, Q, Q, Q, Q, Q, Q, Q, Q, Q, Q, Q, Q, Q, Q, Q, Q, Q, Q, Q, Q, Q, Q, Q, Q, Q, Q, Q, Q, v105, v106, v107, Q, Q, Q, Q, Q, Q, Q, Q, Q, Q, Q, Q, Q, Q, Q, Q, Q, Q, Q, Q, Q, Q, Q, Q, Q, Q, Q, Q, Q, Q, Q, Q, Q, Q, Q, Q, Q, Q, Q, Q, Q, Q, Q, Q, Q, Q, Q, Q, Q, Q, Q, Q, Q], []⟩ m
noncomputable def k_relex_Relex_12 (v2 v4 v14 v15 v17 v18 v21 v22 v105 v106 v107 : AV) (m : Mem) : Option (AOut × Mem) := K_relex_Relex_12 ⟨[Q, Q, v2, Q, v4, Q, Q, Q, Q, Q, Q, Q, Q, Q, v14, v15, Q, v17, v18, Q, Q, v21, v22, Q, Q, Q, Q, Q, Q, Q, Q, Q, Q, Q, Q, Q, Q, Q, Q, Q, Q, Q, Q, Q, Q, Q, Q, Q, Q, Q, Q, Q, Q, Q, Q, Q, Q, Q, Q, Q, Q, Q, Q, Q, Q, Q, Q, Q, Q, Q, Q, Q, Q, Q, Q, Q, Q, Q, Q, Q, Q, Q, Q, Q, Q, Q, Q, Q, Q, Q, Q, Q, Q, Q, Q, Q, Q, Q, Q, Q, Q, Q, Q, Q, Q, v105, v106, v107, Q, Q, Q, Q, Q, Q, Q, Q, Q, Q, Q, Q, Q, Q, Q, Q, Q, Q, Q, Q, Q, Q, Q, Q, Q, Q, Q, Q, Q, Q, Q, Q, Q, Q, Q, Q, Q, Q, Q, Q, Q, Q, Q, Q, Q, Q, Q, Q, Q, Q, Q, Q, Q], []⟩ m
noncomputable def k_relex_Relex_13 (v2 v4 v14 v15 v17 v18 v21 v22 v105 v106 v107 v129 : AV) (m : Mem) : Option (AOut × Mem) := K_relex_Relex_13 ⟨[Q, Q, v2, Q, v4, Q, Q, Q, Q, Q, Q, Q, Q, Q, v14, v15, Q, v17, v18, Q, Q, v21, v22, Q, Q, Q, Q, Q, Q, Q, Q, Q, Q, Q, Q, Q, Q, Q, Q, Q, Q, Q, Q, Q, Q, Q, Q, Q, Q, Q, Q, Q, Q, Q, Q, Q, Q, Q, Q, Q, Q, Q, Q, Q, Q, Q, Q, Q, Q, Q, Q, Q, Q, Q, Q, Q, Q, Q, Q, Q, Q, Q, Q, Q, Q, Q, Q, Q, Q, Q, Q, Q, Q, Q, Q, Q, Q, Q, Q, Q, Q, Q, Q, Q, Q, v105, v106, v107, Q, Q, Q, Q, Q, Q, Q, Q, Q, Q, Q, Q, Q, Q, Q, Q, Q, Q, Q, Q, Q, v129, Q, Q, Q, Q, Q, Q, Q, Q, Q, Q, Q, Q, Q, Q, Q, Q, Q, Q, Q, Q, Q, Q, Q, Q, Q, Q, Q, Q, Q, Q, Q], []⟩ m
noncomputable def k_relex_Relex_14 (v14 v17 v18 v22 v137 v138 v139 : AV) (m : Mem) : Option (AOut × Mem) := K_relex_Relex_14 ⟨[Q, Q, Q, Q, Q, Q, Q, Q, Q, Q, Q, Q, Q, Q, v14, Q, Q, v17, v18, Q, Q, Q, v22, Q, Q, Q, Q, Q, Q, Q, Q, Q, Q, Q, Q, Q, Q, Q, Q, Q, Q, Q, Q, Q, Q, Q, Q, Q, Q, Q, Q, Q, Q, Q, Q, Q, Q, Q, Q, Q, Q, Q, Q, Q, Q, Q, Q, Q, Q, Q, Q, Q, Q, Q, Q, Q, Q, Q, Q, Q, Q, Q, Q, Q, Q, Q, Q, Q, Q, Q, Q, Q, Q, Q, Q, Q, Q, Q, Q, Q, Q, Q, Q, Q, Q, Q, Q, Q, Q, Q, Q, Q, Q, Q, Q, Q, Q, Q, Q, Q, Q, Q, Q, Q, Q, Q, Q, Q, Q, Q, Q, Q, Q, Q, Q, Q, Q, v137, v138, v139, Q, Q, Q, Q, Q, Q, Q, Q, Q, Q, Q, Q, Q, Q, Q, Q, Q, Q, Q, Q, Q], []⟩ m
noncomputable def l_relex_Relex_6 (v14 v17 v18 v22 v137 v138 v139 : AV) (m : Mem) : Option (AOut × Mem) := L_relex_Relex_6 ⟨[Q, Q, Q, Q, Q, Q, Q, Q, Q, Q, Q, Q, Q, Q, v14, Q, Q, v17, v18, Q, Q, Q, v22, Q, Q, Q, Q, Q, Q, Q, Q, Q, Q, Q, Q, Q, Q, Q, Q, Q, Q, Q, Q, Q, Q, Q, Q, Q, Q, Q, Q, Q, Q, Q, Q, Q, Q, Q, Q, Q, Q, Q, Q, Q, Q, Q, Q, Q, Q, Q, Q, Q, Q, Q, Q, Q, Q, Q, Q, Q, Q, Q, Q, Q, Q, Q, Q, Q, Q, Q, Q, Q, Q, Q, Q, Q, Q, Q, Q, Q, Q, Q, Q, Q, Q, Q, Q, Q, Q, Q, Q, Q, Q, Q, Q, Q, Q, Q, Q, Q, Q, Q, Q, Q, Q, Q, Q, Q, Q, Q, Q, Q, Q, Q, Q, Q, Q, v137, v138, v139, Q, Q, Q, Q, Q, Q, Q, Q, Q, Q, Q, Q, Q, Q, Q, Q, Q, Q, Q, Q, Q], []⟩ m
noncomputable def k_relex_Relex_15 (v14 v17 v18 v22 v137 v138 v139 : AV) (m : Mem) : Option (AOut × Mem) := K_relex_Relex_15 ⟨[Q, Q, Q, Q, Q, Q, Q, Q, Q, Q, Q, Q, Q, Q, v14, Q, Q, v17, v18, Q, Q, Q, v22, Q, Q, Q, Q, Q, Q, Q, Q, Q, Q, Q, Q, Q, Q, Q, Q, Q, Q, Q, Q, Q, Q, Q, Q, Q, Q, Q, Q, Q, Q, Q, Q, Q, Q, Q, Q, Q, Q, Q, Q, Q, Q, Q, Q, Q, Q, Q, Q, Q, Q, Q, Q, Q, Q, Q, Q, Q, Q, Q, Q, Q, Q, Q, Q, Q, Q, Q, Q, Q, Q, Q, Q, Q, Q, Q, Q, Q, Q, Q, Q, Q, Q, Q, Q, Q, Q, Q, Q, Q, Q, Q, Q, Q, Q, Q, Q, Q, Q, Q, Q, Q, Q, Q, Q, Q, Q, Q, Q, Q, Q, Q, Q, Q, Q, v137, v138, v139, Q, Q, Q, Q, Q, Q, Q, Q, Q, Q, Q, Q, Q, Q, Q, Q, Q, Q, Q, Q, Q], []⟩ m
noncomputable def k_relex_Relex_16 (v14 v17 v18 v22 v137 v138 v139 : AV) (m : Mem) : Option (AOut × Mem) := K_relex_Relex_16 ⟨[Q, Q, Q, Q, Q, Q, Q, Q, Q, Q, Q, Q, Q, Q, v14, Q, Q, v17, v18, Q, Q, Q, v22, Q, Q, Q, Q, Q, Q, Q, Q, Q, Q, Q, Q, Q, Q, Q, Q, Q, Q, Q, Q, Q, Q, Q, Q, Q, Q, Q, Q, Q, Q, Q, Q, Q, Q, Q, Q, Q, Q, Q, Q, Q, Q, Q, Q, Q, Q, Q, Q, Q, Q, Q, Q, Q, Q, Q, Q, Q, Q, Q, Q, Q, Q, Q, Q, Q, Q, Q, Q, Q, Q, Q, Q, Q, Q, Q, Q, Q, Q, Q, Q, Q, Q, Q, Q, Q, Q, Q, Q, Q, Q, Q, Q, Q, Q, Q, Q, Q, Q, Q, Q, Q, Q, Q, Q, Q, Q, Q, Q, Q, Q, Q, Q, Q, Q, v137, v138, v139, Q, Q, Q, Q, Q, Q, Q, Q, Q, Q, Q, Q, Q, Q, Q, Q, Q, Q, Q, Q, Q], []⟩ m
theorem e_relex_Relex (v0 v1 v2 v3 v4 : AV) (m : Mem) : w_relex_Relex v0 v1 v2 v3 v4 m =
  bnd (aBin X.T .lss T_int false true v2 (.int .i64 0)) fun v27 =>
  onWant v27
    (k_relex_Relex_1 v0 v1 v2 v3 v4 (.bool true) m)
    (bnd (aBin X.T .gtr T_int false false v2 v3) fun v31 =>
  onWant v31
    (k_relex_Relex_1 v0 v1 v2 v3 v4 (.bool true) m)
    (bnd (rLenStr v0) fun v36 =>
  bnd (aBin X.T .gtr T_int false false v3 v36) fun v37 =>
  k_relex_Relex_1 v0 v1 v2 v3 v4 v37 m)
    (none))
    (none) := (aW_F (c := c_relex_Relex) (fn := Try.f24) (by kernel_rfl) (by kernel_rfl) (by kernel_rfl) _ m).trans (by kernel_rfl)
theorem k_relex_Relex_0_eq (v0 v1 v2 v3 v4 : AV) (m : Mem) : k_relex_Relex_0 v0 v1 v2 v3 v4 m =
  l_relex_Relex_0 v0 v1 v2 v3 v4 (.int .i64 0) m := by kernel_rfl
theorem k_relex_Relex_1_eq (v0 v1 v2 v3 v4 v38 : AV) (m : Mem) : k_relex_Relex_1 v0 v1 v2 v3 v4 v38 m =
  onBool v38
    (some (.ret (.tup [.nils, (.int .i64 0), (.int .i64 0), (.int .i64 70)]), m))
    (k_relex_Relex_0 v0 v1 v2 v3 v4 m) := by kernel_rfl
theorem k_relex_Relex_2_eq (v0 v1 v2 v3 v4 v14 : AV) (m : Mem) : k_relex_Relex_2 v0 v1 v2 v3 v4 v14 m =
  bnd (aBin X.T .gtr T_int false true v14 (.int .i64 0)) fun v57 =>
  onBool v57
    (bnd (aBin X.T .sub T_int false true v14 (.int .i64 1)) fun v60 =>
    bnd (rIxAddrSl 3 v1 v60) fun v61 =>
    bnd (rFieldAddr 2 v61) fun v62 =>
    bnd (rLoad false 1 m v62) fun v63 =>
    k_relex_Relex_3 v0 v1 v2 v3 v4 v14 v63 m)
    (k_relex_Relex_3 v0 v1 v2 v3 v4 v14 (.int .i64 0) m) := by kernel_rfl
theorem l_relex_Relex_0_u (v0 v1 v2 v3 v4 v14 : AV) (m : Mem) : l_relex_Relex_0 v0 v1 v2 v3 v4 v14 m = loopK X F_relex_Relex 0 (sB (sB (sL (sR (sR (sR c_relex_Relex)))))) B_relex_Relex_0 ⟨[v0, v1, v2, v3, v4, Q, Q, Q, Q, Q, Q, Q, Q, Q, v14, Q, Q, Q, Q, Q, Q, Q, Q, Q, Q, Q, Q, Q, Q, Q, Q, Q, Q, Q, Q, Q, Q, Q, Q, Q, Q, Q, Q, Q, Q, Q, Q, Q, Q, Q, Q, Q, Q, Q, Q, Q, Q, Q, Q, Q, Q, Q, Q, Q, Q, Q, Q, Q, Q, Q, Q, Q, Q, Q, Q, Q, Q, Q, Q, Q, Q, Q, Q, Q, Q, Q, Q, Q, Q, Q, Q, Q, Q, Q, Q, Q, Q, Q, Q, Q, Q, Q, Q, Q, Q, Q, Q, Q, Q, Q, Q, Q, Q, Q, Q, Q, Q, Q, Q, Q, Q, Q, Q, Q, Q, Q, Q, Q, Q, Q, Q, Q, Q, Q, Q, Q, Q, Q, Q, Q, Q, Q, Q, Q, Q, Q, Q, Q, Q, Q, Q, Q, Q, Q, Q, Q, Q, Q, Q, Q, Q], []⟩ m := by kernel_rfl
theorem l_relex_Relex_0_r (v0 v1 v2 v3 v4 v14 : AV) (m : Mem) : roundF X F_relex_Relex 0 (sB (sB (sL (sR (sR (sR c_relex_Relex)))))) B_relex_Relex_0 [v0, v1, v2, v3, v4, Q, Q, Q, Q, Q, Q, Q, Q, Q, v14, Q, Q, Q, Q, Q, Q, Q, Q, Q, Q, Q, Q, Q, Q, Q, Q, Q, Q, Q, Q, Q, Q, Q, Q, Q, Q, Q, Q, Q, Q, Q, Q, Q, Q, Q, Q, Q, Q, Q, Q, Q, Q, Q, Q, Q, Q, Q, Q, Q, Q, Q, Q, Q, Q, Q, Q, Q, Q, Q, Q, Q, Q, Q, Q, Q, Q, Q, Q, Q, Q, Q, Q, Q, Q, Q, Q, Q, Q, Q, Q, Q, Q, Q, Q, Q, Q, Q, Q, Q, Q, Q, Q, Q, Q, Q, Q, Q, Q, Q, Q, Q, Q, Q, Q, Q, Q, Q, Q, Q, Q, Q, Q, Q, Q, Q, Q, Q, Q, Q, Q, Q, Q, Q, Q, Q, Q, Q, Q, Q, Q, Q, Q, Q, Q, Q, Q, Q, Q, Q, Q, Q, Q, Q, Q, Q, Q] m =
  bnd (rLenSl v1) fun v41 =>
  bnd (aBin X.T .lss T_int false false v14 v41) fun v42 =>
  onWant v42
    (bnd (rIxAddrSl 3 v1 v14) fun v46 =>
  bnd (rFieldAddr 2 v46) fun v47 =>
  bnd (rLoad false 1 m v47) fun v48 =>
  bnd (aBin X.T .sub T_int false true v2 (.int .i64 2)) fun v50 =>
  bnd (aBin X.T .add T_int false true v50 (.int .i64 1)) fun v51 =>
  bnd (aBin X.T .lss T_int false false v48 v51) fun v52 =>
  k_relex_Relex_5 v0 v1 v2 v3 v4 v14 v52 m)
    (k_relex_Relex_5 v0 v1 v2 v3 v4 v14 (.bool false) m)
    (none) := by kernel_rfl
theorem l_relex_Relex_0_eq (v0 v1 v2 v3 v4 v14 : AV) (m : Mem) : l_relex_Relex_0 v0 v1 v2 v3 v4 v14 m =
  bnd (rLenSl v1) fun v41 =>
  bnd (aBin X.T .lss T_int false false v14 v41) fun v42 =>
  onWant v42
    (bnd (rIxAddrSl 3 v1 v14) fun v46 =>
  bnd (rFieldAddr 2 v46) fun v47 =>
  bnd (rLoad false 1 m v47) fun v48 =>
  bnd (aBin X.T .sub T_int false true v2 (.int .i64 2)) fun v50 =>
  bnd (aBin X.T .add T_int false true v50 (.int .i64 1)) fun v51 =>
  bnd (aBin X.T .lss T_int false false v48 v51) fun v52 =>
  k_relex_Relex_5 v0 v1 v2 v3 v4 v14 v52 m)
    (k_relex_Relex_5 v0 v1 v2 v3 v4 v14 (.bool false) m)
    (none) := roundF_of (l_relex_Relex_0_u v0 v1 v2 v3 v4 v14 m) (l_relex_Relex_0_r v0 v1 v2 v3 v4 v14 m)
theorem k_relex_Relex_3_eq (v0 v1 v2 v3 v4 v14 v15 : AV) (m : Mem) : k_relex_Relex_3 v0 v1 v2 v3 v4 v14 v15 m =
  l_relex_Relex_2 v0 v1 v2 v3 v4 v14 v15 v14 m := by kernel_rfl
theorem k_relex_Relex_4_eq (v0 v1 v2 v3 v4 v14 : AV) (m : Mem) : k_relex_Relex_4 v0 v1 v2 v3 v4 v14 m =
  bnd (aBin X.T .add T_int false true v14 (.int .i64 1)) fun v55 =>
  l_relex_Relex_0 v0 v1 v2 v3 v4 v55 m := by kernel_rfl
theorem k_relex_Relex_5_eq (v0 v1 v2 v3 v4 v14 v53 : AV) (m : Mem) : k_relex_Relex_5 v0 v1 v2 v3 v4 v14 v53 m =
  onBool v53
    (k_relex_Relex_4 v0 v1 v2 v3 v4 v14 m)
    (k_relex_Relex_2 v0 v1 v2 v3 v4 v14 m) := by kernel_rfl
theorem k_relex_Relex_6_eq (v0 v1 v2 v3 v4 v14 v15 v16 : AV) (m : Mem) : k_relex_Relex_6 v0 v1 v2 v3 v4 v14 v15 v16 m =
  bnd (rSliceSl 3 v1 (some v16) none) fun v82 =>
  bnd (rLenStr v4) fun v84 =>
  bnd (aBin X.T .sub T_int false false v3 v2) fun v87 =>
  bnd (aBin X.T .sub T_int false false v84 v87) fun v88 =>
  bnd (rBuild [.nils, .int .i64 0] [(0, 1, v82), (1, 1, v88)]) fun v89 =>
  memK (aBox m (.agg [.nils, .int .i64 0])) fun v17 m1 =>
  bnd (rStore 2 m1 v17 v89) fun m2 =>
  bnd (rSliceSl 3 v1 none (some v14)) fun v92 =>
  retK (w_slices_Clone v92 m2) (fun v93 m3 =>
  bnd (rSliceStr v0 (some v15) (some v2)) fun v97 =>
  bnd (aBin X.T .add T_string false false v97 v4) fun v99 =>
  bnd (rSliceStr v0 (some v3) none) fun v102 =>
  bnd (aBin X.T .add T_string false false v99 v102) fun v103 =>
  retK (w_lex_Lex v103 m3) (fun v105 m4 =>
  bnd (rLenSl v105) fun v106 =>
  l_relex_Relex_4 v2 v4 v14 v15 v17 v93 v105 v106 (.int .i64 0) m4) (fun u m4 => some (.pan u, m4))) (fun u m3 => some (.pan u, m3)) := by kernel_rfl
theorem l_relex_Relex_2_u (v0 v1 v2 v3 v4 v14 v15 v16 : AV) (m : Mem) : l_relex_Relex_2 v0 v1 v2 v3 v4 v14 v15 v16 m = loopK X F_relex_Relex 2 (sB (sB (sL (sR (sR (sR (sR (sR (sR (sR c_relex_Relex)))))))))) B_relex_Relex_2 ⟨[v0, v1, v2, v3, v4, Q, Q, Q, Q, Q, Q, Q, Q, Q, v14, v15, v16, Q, Q, Q, Q, Q, Q, Q, Q, Q, Q, Q, Q, Q, Q, Q, Q, Q, Q, Q, Q, Q, Q, Q, Q, Q, Q, Q, Q, Q, Q, Q, Q, Q, Q, Q, Q, Q, Q, Q, Q, Q, Q, Q, Q, Q, Q, Q, Q, Q, Q, Q, Q, Q, Q, Q, Q, Q, Q, Q, Q, Q, Q, Q, Q, Q, Q, Q, Q, Q, Q, Q, Q, Q, Q, Q, Q, Q, Q, Q, Q, Q, Q, Q, Q, Q, Q, Q, Q, Q, Q, Q, Q, Q, Q, Q, Q, Q, Q, Q, Q, Q, Q, Q, Q, Q, Q, Q, Q, Q, Q, Q, Q, Q, Q, Q, Q, Q, Q, Q, Q, Q, Q, Q, Q, Q, Q, Q, Q, Q, Q, Q, Q, Q, Q, Q, Q, Q, Q, Q, Q, Q, Q, Q, Q], []⟩ m := by kernel_rfl
theorem l_relex_Relex_2_r (v0 v1 v2 v3 v4 v14 v15 v16 : AV) (m : Mem) : roundF X F_relex_Relex 2 (sB (sB (sL (sR (sR (sR (sR (sR (sR (sR c_relex_Relex)))))))))) B_relex_Relex_2 [v0, v1, v2, v3, v4, Q, Q, Q, Q, Q, Q, Q, Q, Q, v14, v15, v16, Q, Q, Q, Q, Q, Q, Q, Q, Q, Q, Q, Q, Q, Q, Q, Q, Q, Q, Q, Q, Q, Q, Q, Q, Q, Q, Q, Q, Q, Q, Q, Q, Q, Q, Q, Q, Q, Q, Q, Q, Q, Q, Q, Q, Q, Q, Q, Q, Q, Q, Q, Q, Q, Q, Q, Q, Q, Q, Q, Q, Q, Q, Q, Q, Q, Q, Q, Q, Q, Q, Q, Q, Q, Q, Q, Q, Q, Q, Q, Q, Q, Q, Q, Q, Q, Q, Q, Q, Q, Q, Q, Q, Q, Q, Q, Q, Q, Q, Q, Q, Q, Q, Q, Q, Q, Q, Q, Q, Q, Q, Q, Q, Q, Q, Q, Q, Q, Q, Q, Q, Q, Q, Q, Q, Q, Q, Q, Q, Q, Q, Q, Q, Q, Q, Q, Q, Q, Q, Q, Q, Q, Q, Q, Q] m =
  bnd (rLenSl v1) fun v67 =>
  bnd (aBin X.T .lss T_int false false v16 v67) fun v68 =>
  onWant v68
    (bnd (rIxAddrSl 3 v1 v16) fun v72 =>
  bnd (rFieldAddr 1 v72) fun v73 =>
  bnd (rLoad false 1 m v73) fun v74 =>
  bnd (aBin X.T .lss T_int false false v74 v3) fun v76 =>
  k_relex_Relex_9 v0 v1 v2 v3 v4 v14 v15 v16 v76 m)
    (k_relex_Relex_9 v0 v1 v2 v3 v4 v14 v15 v16 (.bool false) m)
    (none) := by kernel_rfl
theorem l_relex_Relex_2_eq (v0 v1 v2 v3 v4 v14 v15 v16 : AV) (m : Mem) : l_relex_Relex_2 v0 v1 v2 v3 v4 v14 v15 v16 m =
  bnd (rLenSl v1) fun v67 =>
  bnd (aBin X.T .lss T_int false false v16 v67) fun v68 =>
  onWant v68
    (bnd (rIxAddrSl 3 v1 v16) fun v72 =>
  bnd (rFieldAddr 1 v72) fun v73 =>
  bnd (rLoad false 1 m v73) fun v74 =>
  bnd (aBin X.T .lss T_int false false v74 v3) fun v76 =>
  k_relex_Relex_9 v0 v1 v2 v3 v4 v14 v15 v16 v76 m)
    (k_relex_Relex_9 v0 v1 v2 v3 v4 v14 v15 v16 (.bool false) m)
    (none) := roundF_of (l_relex_Relex_2_u v0 v1 v2 v3 v4 v14 v15 v16 m) (l_relex_Relex_2_r v0 v1 v2 v3 v4 v14 v15 v16 m)
theorem k_relex_Relex_7_eq (v2 v4 v14 v15 v17 v18 v105 v106 v107 : AV) (m : Mem) : k_relex_Relex_7 v2 v4 v14 v15 v17 v18 v105 v106 v107 m =
  some (.ret (.tup [v18, v14, (.int .i64 0), (.int .i64 0)]), m) := by kernel_rfl
theorem l_relex_Relex_4_u (v2 v4 v14 v15 v17 v18 v105 v106 v107 : AV) (m : Mem) : l_relex_Relex_4 v2 v4 v14 v15 v17 v18 v105 v106 v107 m = loopK X F_relex_Relex 4 (sB (sB (sR (sL (sR (sR (sR (sR (sR (sR (sR (sR (sR (sR (sR c_relex_Relex))))))))))))))) B_relex_Relex_4 ⟨[Q, Q, v2, Q, v4, Q, Q, Q, Q, Q, Q, Q, Q, Q, v14, v15, Q, v17, v18, Q, Q, Q, Q, Q, Q, Q, Q, Q, Q, Q, Q, Q, Q, Q, Q, Q, Q, Q, Q, Q, Q, Q, Q, Q, Q, Q, Q, Q, Q, Q, Q, Q, Q, Q, Q, Q, Q, Q, Q, Q, Q, Q, Q, Q, Q, Q, Q, Q, Q, Q, Q, Q, Q, Q, Q, Q, Q, Q, Q, Q, Q, Q, Q, Q, Q, Q, Q, Q, Q, Q, Q, Q, Q, Q, Q, Q, Q, Q, Q, Q, Q, Q, Q, Q, Q, v105, v106, v107, Q, Q, Q, Q, Q, Q, Q, Q, Q, Q, Q, Q, Q, Q, Q, Q, Q, Q, Q, Q, Q, Q, Q, Q, Q, Q, Q, Q, Q, Q, Q, Q, Q, Q, Q, Q, Q, Q, Q, Q, Q, Q, Q, Q, Q, Q, Q, Q, Q, Q, Q, Q, Q], []⟩ m := by kernel_rfl
theorem l_relex_Relex_4_r (v2 v4 v14 v15 v17 v18 v105 v106 v107 : AV) (m : Mem) : roundF X F_relex_Relex 4 (sB (sB (sR (sL (sR (sR (sR (sR (sR (sR (sR (sR (sR (sR (sR c_relex_Relex))))))))))))))) B_relex_Relex_4 [Q, Q, v2, Q, v4, Q, Q, Q, Q, Q, Q, Q, Q, Q, v14, v15, Q, v17, v18, Q, Q, Q, Q, Q, Q, Q, Q, Q, Q, Q, Q, Q, Q, Q, Q, Q, Q, Q, Q, Q, Q, Q, Q, Q, Q, Q, Q, Q, Q, Q, Q, Q, Q, Q, Q, Q, Q, Q, Q, Q, Q, Q, Q, Q, Q, Q, Q, Q, Q, Q, Q, Q, Q, Q, Q, Q, Q, Q, Q, Q, Q, Q, Q, Q, Q, Q, Q, Q, Q, Q, Q, Q, Q, Q, Q, Q, Q, Q, Q, Q, Q, Q, Q, Q, Q, v105, v106, v107, Q, Q, Q, Q, Q, Q, Q, Q, Q, Q, Q, Q, Q, Q, Q, Q, Q, Q, Q, Q, Q, Q, Q, Q, Q, Q, Q, Q, Q, Q, Q, Q, Q, Q, Q, Q, Q, Q, Q, Q, Q, Q, Q, Q, Q, Q, Q, Q, Q, Q, Q, Q, Q] m =
  bnd (aBin X.T .lss T_int false false v107 v106) fun v108 =>
  onBool v108
    (k_relex_Relex_10 v2 v4 v14 v15 v17 v18 v105 v106 v107 m)
    (k_relex_Relex_7 v2 v4 v14 v15 v17 v18 v105 v106 v107 m) := by kernel_rfl
theorem l_relex_Relex_4_eq (v2 v4 v14 v15 v17 v18 v105 v106 v107 : AV) (m : Mem) : l_relex_Relex_4 v2 v4 v14 v15 v17 v18 v105 v106 v107 m =
  bnd (aBin X.T .lss T_int false false v107 v106) fun v108 =>
  onBool v108
    (k_relex_Relex_10 v2 v4 v14 v15 v17 v18 v105 v106 v107 m)
    (k_relex_Relex_7 v2 v4 v14 v15 v17 v18 v105 v106 v107 m) := roundF_of (l_relex_Relex_4_u v2 v4 v14 v15 v17 v18 v105 v106 v107 m) (l_relex_Relex_4_r v2 v4 v14 v15 v17 v18 v105 v106 v107 m)
theorem k_relex_Relex_8_eq (v0 v1 v2 v3 v4 v14 v15 v16 : AV) (m : Mem) : k_relex_Relex_8 v0 v1 v2 v3 v4 v14 v15 v16 m =
  bnd (aBin X.T .add T_int false true v16 (.int .i64 1)) fun v79 =>
  l_relex_Relex_2 v0 v1 v2 v3 v4 v14 v15 v79 m := by kernel_rfl
theorem k_relex_Relex_9_eq (v0 v1 v2 v3 v4 v14 v15 v16 v77 : AV) (m : Mem) : k_relex_Relex_9 v0 v1 v2 v3 v4 v14 v15 v16 v77 m =
  onBool v77
    (k_relex_Relex_8 v0 v1 v2 v3 v4 v14 v15 v16 m)
    (k_relex_Relex_6 v0 v1 v2 v3 v4 v14 v15 v16 m) := by kernel_rfl
theorem k_relex_Relex_10_eq (v2 v4 v14 v15 v17 v18 v105 v106 v107 : AV) (m : Mem) : k_relex_Relex_10 v2 v4 v14 v15 v17 v18 v105 v106 v107 m =
  bnd (rIxAddrSl 3 v105 v107) fun v109 =>
  bnd (rLoad true 3 m v109) fun v110 =>
  memK (aBox m (.agg [.int .i64 0, .int .i64 0, .int .i64 0])) fun v21 m1 =>
  bnd (rStore 3 m1 v21 v110) fun m2 =>
  bnd (rLoad true 3 m2 v21) fun v111 =>
  retK (w_relex_moved v111 v15 m2) (fun v113 m3 =>
  bnd (rStore 3 m3 v21 v113) fun m4 =>
  bnd (rLoad true 2 m4 v17) fun v115 =>
  bnd (rLoad true 3 m4 v21) fun v116 =>
  retK (w_relex_window_meets v115 v116 m4) (fun v117 m5 =>
  bnd (aExtract v117 0) fun v118 =>
  bnd (aExtract v117 1) fun v119 =>
  onWant v119
    (bnd (rFieldAddr 1 v21) fun v122 =>
  bnd (rLoad false 1 m5 v122) fun v123 =>
  bnd (rLenStr v4) fun v126 =>
  bnd (aBin X.T .add T_int false false v2 v126) fun v127 =>
  bnd (aBin X.T .geq T_int false false v123 v127) fun v128 =>
  k_relex_Relex_13 v2 v4 v14 v15 v17 v18 v21 v118 v105 v106 v107 v128 m5)
    (k_relex_Relex_13 v2 v4 v14 v15 v17 v18 v21 v118 v105 v106 v107 (.bool false) m5)
    (none)) (fun u m5 => some (.pan u, m5))) (fun u m3 => some (.pan u, m3)) := by kernel_rfl
theorem k_relex_Relex_11_eq (v2 v4 v14 v15 v17 v18 v105 v106 v107 : AV) (m : Mem) : k_relex_Relex_11 v2 v4 v14 v15 v17 v18 v105 v106 v107 m =
  bnd (aBin X.T .add T_int false true v107 (.int .i64 1)) fun v158 =>
  l_relex_Relex_4 v2 v4 v14 v15 v17 v18 v105 v106 v158 m := by kernel_rfl
theorem k_relex_Relex_12_eq (v2 v4 v14 v15 v17 v18 v21 v22 v105 v106 v107 : AV) (m : Mem) : k_relex_Relex_12 v2 v4 v14 v15 v17 v18 v21 v22 v105 v106 v107 m =
  bnd (rLoad true 3 m v21) fun v155 =>
  bnd (rBuildSlice A_api_Token 1 [(0, v155)]) fun v156 =>
  memK (rAppend A_api_Token 0 m v18 v156) fun v157 m1 =>
  k_relex_Relex_11 v2 v4 v14 v15 v17 v157 v105 v106 v107 m1 := by kernel_rfl
theorem k_relex_Relex_13_eq (v2 v4 v14 v15 v17 v18 v21 v22 v105 v106 v107 v129 : AV) (m : Mem) : k_relex_Relex_13 v2 v4 v14 v15 v17 v18 v21 v22 v105 v106 v107 v129 m =
  onBool v129
    (bnd (rFieldAddr 0 v17) fun v130 =>
    bnd (rLoad false 1 m v130) fun v131 =>
    bnd (rFieldAddr 0 v17) fun v132 =>
    bnd (rLoad false 1 m v132) fun v133 =>
    bnd (rLenSl v133) fun v134 =>
    bnd (aBin X.T .sub T_int false false v134 v22) fun v136 =>
    bnd (rSliceSl 3 v131 (some v136) none) fun v137 =>
    bnd (rLenSl v137) fun v138 =>
    l_relex_Relex_6 v14 v17 v18 v22 v137 v138 (.int .i64 0) m)
    (k_relex_Relex_12 v2 v4 v14 v15 v17 v18 v21 v22 v105 v106 v107 m) := by kernel_rfl
theorem k_relex_Relex_14_eq (v14 v17 v18 v22 v137 v138 v139 : AV) (m : Mem) : k_relex_Relex_14 v14 v17 v18 v22 v137 v138 v139 m =
  some (.ret (.tup [v18, v14, v22, (.int .i64 0)]), m) := by kernel_rfl
theorem l_relex_Relex_6_u (v14 v17 v18 v22 v137 v138 v139 : AV) (m : Mem) : l_relex_Relex_6 v14 v17 v18 v22 v137 v138 v139 m = loopK X F_relex_Relex 6 (sB (sB (sR (sL (sL (sR (sR (sL (sR (sR (sB (sL (sR (sR (sB (sB (sR (sL (sR (sR (sR (sR (sR (sR (sR (sR (sR (sR (sR c_relex_Relex))))))))))))))))))))))))))))) B_relex_Relex_6 ⟨[Q, Q, Q, Q, Q, Q, Q, Q, Q, Q, Q, Q, Q, Q, v14, Q, Q, v17, v18, Q, Q, Q, v22, Q, Q, Q, Q, Q, Q, Q, Q, Q, Q, Q, Q, Q, Q, Q, Q, Q, Q, Q, Q, Q, Q, Q, Q, Q, Q, Q, Q, Q, Q, Q, Q, Q, Q, Q, Q, Q, Q, Q, Q, Q, Q, Q, Q, Q, Q, Q, Q, Q, Q, Q, Q, Q, Q, Q, Q, Q, Q, Q, Q, Q, Q, Q, Q, Q, Q, Q, Q, Q, Q, Q, Q, Q, Q, Q, Q, Q, Q, Q, Q, Q, Q, Q, Q, Q, Q, Q, Q, Q, Q, Q, Q, Q, Q, Q, Q, Q, Q, Q, Q, Q, Q, Q, Q, Q, Q, Q, Q, Q, Q, Q, Q, Q, Q, v137, v138, v139, Q, Q, Q, Q, Q, Q, Q, Q, Q, Q, Q, Q, Q, Q, Q, Q, Q, Q, Q, Q, Q], []⟩ m := by kernel_rfl
theorem l_relex_Relex_6_r (v14 v17 v18 v22 v137 v138 v139 : AV) (m : Mem) : roundF X F_relex_Relex 6 (sB (sB (sR (sL (sL (sR (sR (sL (sR (sR (sB (sL (sR (sR (sB (sB (sR (sL (sR (sR (sR (sR (sR (sR (sR (sR (sR (sR (sR c_relex_Relex))))))))))))))))))))))))))))) B_relex_Relex_6 [Q, Q, Q, Q, Q, Q, Q, Q, Q, Q, Q, Q, Q, Q, v14, Q, Q, v17, v18, Q, Q, Q, v22, Q, Q, Q, Q, Q, Q, Q, Q, Q, Q, Q, Q, Q, Q, Q, Q, Q, Q, Q, Q, Q, Q, Q, Q, Q, Q, Q, Q, Q, Q, Q, Q, Q, Q, Q, Q, Q, Q, Q, Q, Q, Q, Q, Q, Q, Q, Q, Q, Q, Q, Q, Q, Q, Q, Q, Q, Q, Q, Q, Q, Q, Q, Q, Q, Q, Q, Q, Q, Q, Q, Q, Q, Q, Q, Q, Q, Q, Q, Q, Q, Q, Q, Q, Q, Q, Q, Q, Q, Q, Q, Q, Q, Q, Q, Q, Q, Q, Q, Q, Q, Q, Q, Q, Q, Q, Q, Q, Q, Q, Q, Q, Q, Q, Q, v137, v138, v139, Q, Q, Q, Q, Q, Q, Q, Q, Q, Q, Q, Q, Q, Q, Q, Q, Q, Q, Q, Q, Q] m =
  bnd (aBin X.T .lss T_int false false v139 v138) fun v140 =>
  onBool v140
    (k_relex_Relex_15 v14 v17 v18 v22 v137 v138 v139 m)
    (k_relex_Relex_14 v14 v17 v18 v22 v137 v138 v139 m) := by kernel_rfl
theorem l_relex_Relex_6_eq (v14 v17 v18 v22 v137 v138 v139 : AV) (m : Mem) : l_relex_Relex_6 v14 v17 v18 v22 v137 v138 v139 m =
  bnd (aBin X.T .lss T_int false false v139 v138) fun v140 =>
  onBool v140
    (k_relex_Relex_15 v14 v17 v18 v22 v137 v138 v139 m)
    (k_relex_Relex_14 v14 v17 v18 v22 v137 v138 v139 m) := roundF_of (l_relex_Relex_6_u v14 v17 v18 v22 v137 v138 v139 m) (l_relex_Relex_6_r v14 v17 v18 v22 v137 v138 v139 m)
theorem k_relex_Relex_15_eq (v14 v17 v18 v22 v137 v138 v139 : AV) (m : Mem) : k_relex_Relex_15 v14 v17 v18 v22 v137 v138 v139 m =
  bnd (rIxAddrSl 3 v137 v139) fun v141 =>
  bnd (rLoad true 3 m v141) fun v142 =>
  memK (aBox m (.agg [.int .i64 0, .int .i64 0, .int .i64 0])) fun v25 m1 =>
  bnd (rStore 3 m1 v25 v142) fun m2 =>
  bnd (rLoad true 3 m2 v25) fun v144 =>
  bnd (rFieldAddr 1 v17) fun v145 =>
  bnd (rLoad false 1 m2 v145) fun v146 =>
  retK (w_relex_moved v144 v146 m2) (fun v147 m3 =>
  bnd (rBuildSlice A_api_Token 1 [(0, v147)]) fun v148 =>
  memK (rAppend A_api_Token 0 m3 v18 v148) fun v149 m4 =>
  k_relex_Relex_16 v14 v17 v149 v22 v137 v138 v139 m4) (fun u m3 => some (.pan u, m3)) := by kernel_rfl
theorem k_relex_Relex_16_eq (v14 v17 v18 v22 v137 v138 v139 : AV) (m : Mem) : k_relex_Relex_16 v14 v17 v18 v22 v137 v138 v139 m =
  bnd (aBin X.T .add T_int false true v139 (.int .i64 1)) fun v150 =>
  l_relex_Relex_6 v14 v17 v18 v22 v137 v138 v150 m := by kernel_rfl

end Go.AM
