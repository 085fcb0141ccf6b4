/-
  A part of the proof: equations or tables of the program over the abstract machine, printed by a program of this proof's own.
-/
import Derived.Test.YtcliklgiamlpeaaR1Ctx
namespace Go.AM
open Go.Proofs
set_option maxRecDepth 100000
set_option linter.unusedVariables false

/-! ### (parlance/relex.window).meets -/
noncomputable def c_relex_window_meets : Code := bodyOf Try.f40
noncomputable def N_relex_window_meets : AAct → Mem → Option (AOut × Mem) := finK X.T Try.f40.results.toList .normal
noncomputable def P_relex_window_meets : AExit → AAct → Mem → Option (AOut × Mem) := finK X.T Try.f40.results.toList
noncomputable def K_relex_window_meets_0 : AAct → Mem → Option (AOut × Mem) := execF X F_relex_window_meets 0 (sR (sR (sR c_relex_window_meets))) N_relex_window_meets P_relex_window_meets
noncomputable def K_relex_window_meets_1 : AAct → Mem → Option (AOut × Mem) := execF X F_relex_window_meets 0 (sR (sL (sR (sR c_relex_window_meets)))) K_relex_window_meets_0 P_relex_window_meets
noncomputable def k_relex_window_meets_0 (v2 v6 : AV) (m : Mem) : Option (AOut × Mem) := K_relex_window_meets_0 ⟨[Q, Q, v2, Q, Q, Q, v6, Q, Q, Q, Q, Q, Q, Q, Q, Q, Q, Q, Q, Q, Q, Q, Q, Q, Q, Q, Q, Q, Q, Q, Q, Q, Q, Q, Q], []⟩ m
noncomputable def k_relex_window_meets_1 (v2 v6 v29 : AV) (m : Mem) : Option (AOut × Mem) := K_relex_window_meets_1 ⟨[Q, Q, v2, Q, Q, Q, v6, Q, Q, Q, Q, Q, Q, Q, Q, Q, Q, Q, Q, Q, Q, Q, Q, Q, Q, Q, Q, Q, Q, v29, Q, Q, Q, Q, Q], []⟩ m
theorem e_relex_window_meets (v0 v1 : AV) (m : Mem) : w_relex_window_meets v0 v1 m =
  memK (aBox m v0) fun v2 m1 =>
  memK (aBox m1 v1) fun v3 m2 =>
  bnd (rFieldAddr 0 v2) fun v9 =>
  bnd (rLoad false 1 m2 v9) fun v10 =>
  bnd (rLoad true 3 m2 v3) fun v11 =>
  retK (w_slices_BinarySearchFunc v10 v11 (.fn F_relex_window_meets_1 [] [v2]) m2) (fun v13 m3 =>
  bnd (aExtract v13 0) fun v14 =>
  bnd (aExtract v13 1) fun v15 =>
  bnd (aUn .not v15) fun v17 =>
  onWant v17
    (k_relex_window_meets_1 v2 v14 (.bool true) m3)
    (bnd (rFieldAddr 0 v2) fun v19 =>
  bnd (rLoad false 1 m3 v19) fun v20 =>
  bnd (rIxAddrSl 3 v20 v14) fun v22 =>
  bnd (rLoad true 3 m3 v22) fun v23 =>
  bnd (rFieldAddr 1 v2) fun v24 =>
  bnd (rLoad false 1 m3 v24) fun v25 =>
  retK (w_relex_moved v23 v25 m3) (fun v26 m4 =>
  bnd (rLoad true 3 m4 v3) fun v27 =>
  bnd (aBin X.T .neq T_api_Token false false v26 v27) fun v28 =>
  bnd (rLoad true 3 m3 v3) fun u =>
  sameK u v27 <|
  k_relex_window_meets_1 v2 v14 v28 m4) (fun u m4 => none))
    (none)) (fun u m3 => some (.pan u, m3)) := (aW_F (c := c_relex_window_meets) (fn := Try.f40) (by kernel_rfl) (by kernel_rfl) (by kernel_rfl) _ m).trans (by kernel_rfl)
theorem k_relex_window_meets_0_eq (v2 v6 : AV) (m : Mem) : k_relex_window_meets_0 v2 v6 m =
  bnd (rFieldAddr 0 v2) fun v30 =>
  bnd (rLoad false 1 m v30) fun v31 =>
  bnd (rLenSl v31) fun v32 =>
  bnd (aBin X.T .sub T_int false false v32 v6) fun v34 =>
  some (.ret (.tup [v34, (.bool true)]), m) := by kernel_rfl
theorem k_relex_window_meets_1_eq (v2 v6 v29 : AV) (m : Mem) : k_relex_window_meets_1 v2 v6 v29 m =
  onBool v29
    (some (.ret (.tup [(.int .i64 0), (.bool false)]), m))
    (k_relex_window_meets_0 v2 v6 m) := by kernel_rfl

/-! ### parlance/lex.has -/
noncomputable def c_lex_has : Code := bodyOf Try.f41
noncomputable def N_lex_has : AAct → Mem → Option (AOut × Mem) := finK X.T Try.f41.results.toList .normal
noncomputable def P_lex_has : AExit → AAct → Mem → Option (AOut × Mem) := finK X.T Try.f41.results.toList
theorem e_lex_has (v0 v1 : AV) (m : Mem) : w_lex_has v0 v1 m =
  retK (w_strings_IndexByte v0 v1 m) (fun v7 m1 =>
  bnd (aBin X.T .geq T_int false true v7 (.int .i64 0)) fun v8 =>
  some (.ret v8, m1)) (fun u m1 => some (.pan u, m1)) := (aW_F (c := c_lex_has) (fn := Try.f41) (by kernel_rfl) (by kernel_rfl) (by kernel_rfl) _ m).trans (by kernel_rfl)

/-! ### internal/stringslite.HasPrefix -/
noncomputable def c_i_stringslite_HasPrefix : Code := bodyOf Try.f42
noncomputable def N_i_stringslite_HasPrefix : AAct → Mem → Option (AOut × Mem) := finK X.T Try.f42.results.toList .normal
noncomputable def P_i_stringslite_HasPrefix : AExit → AAct → Mem → Option (AOut × Mem) := finK X.T Try.f42.results.toList
theorem e_i_stringslite_HasPrefix (v0 v1 : AV) (m : Mem) : w_i_stringslite_HasPrefix v0 v1 m =
  bnd (rLenStr v0) fun v6 =>
  bnd (rLenStr v1) fun v8 =>
  bnd (aBin X.T .geq T_int false false v6 v8) fun v9 =>
  onWant v9
    (bnd (rLenStr v1) fun v13 =>
  bnd (rSliceStr v0 none (some v13)) fun v14 =>
  bnd (aBin X.T .eql T_string false false v14 v1) fun v16 =>
  some (.ret v16, m))
    (some (.ret (.bool false), m))
    (none) := (aW_F (c := c_i_stringslite_HasPrefix) (fn := Try.f42) (by kernel_rfl) (by kernel_rfl) (by kernel_rfl) _ m).trans (by kernel_rfl)

/-! ### parlance/lex.named -/
noncomputable def c_lex_named : Code := bodyOf Try.f43
noncomputable def N_lex_named : AAct → Mem → Option (AOut × Mem) := finK X.T Try.f43.results.toList .normal
noncomputable def P_lex_named : AExit → AAct → Mem → Option (AOut × Mem) := finK X.T Try.f43.results.toList
noncomputable def K_lex_named_0 : AAct → Mem → Option (AOut × Mem) := execF X F_lex_named 0 (sR (sR c_lex_named)) N_lex_named P_lex_named
noncomputable def B_lex_named_0 : AExit → AAct → Mem → Option (AOut × Mem) := blockX 0 K_lex_named_0 P_lex_named
noncomputable def k_lex_named_0 (m : Mem) : Option (AOut × Mem) := K_lex_named_0 ⟨[Q, Q, Q, Q, Q, Q, Q, Q, Q, Q, Q, Q, Q, Q], []⟩ m
theorem e_lex_named (v0 : AV) (m : Mem) : w_lex_named v0 m =
  bnd (aBin X.T .eql T_string false true v0 (.str (bs [95]))) fun v5 =>
  onBool v5
    (some (.ret (.int .i64 6), m))
    (retK (w_lex_keys m) (fun v7 m1 =>
    retK (w_slices_Contains v7 v0 m1) (fun v9 m2 =>
    onBool v9
      (some (.ret (.int .i64 5), m2))
      (bnd (rIxStr v0 (.int .i64 0)) fun v12 =>
      retK (w_lex_has (.str (bs [65, 66, 67, 68, 69, 70, 71, 72, 73, 74, 75, 76, 77, 78, 79, 80, 81, 82, 83, 84, 85, 86, 87, 88, 89, 90])) v12 m2) (fun v13 m3 =>
      onBool v13
        (some (.ret (.int .i64 2), m3))
        (k_lex_named_0 m3)) (fun u m3 => some (.pan u, m3)))) (fun u m2 => some (.pan u, m2))) (fun u m1 => some (.pan u, m1))) := (aW_F (c := c_lex_named) (fn := Try.f43) (by kernel_rfl) (by kernel_rfl) (by kernel_rfl) _ m).trans (by kernel_rfl)
theorem k_lex_named_0_eq (m : Mem) : k_lex_named_0 m =
  some (.ret (.int .i64 1), m) := by kernel_rfl

/-! ### parlance/lex.signs -/
noncomputable def c_lex_signs : Code := bodyOf Try.f44
noncomputable def N_lex_signs : AAct → Mem → Option (AOut × Mem) := finK X.T Try.f44.results.toList .normal
noncomputable def P_lex_signs : AExit → AAct → Mem → Option (AOut × Mem) := finK X.T Try.f44.results.toList
theorem e_lex_signs (m : Mem) : w_lex_signs m =
  bnd (rBuildSlice A_string 13 [(0, (.str (bs [45, 62]))), (1, (.str (bs [58, 58]))), (2, (.str (bs [59, 59]))), (3, (.str (bs [40]))), (4, (.str (bs [41]))), (5, (.str (bs [44]))), (6, (.str (bs [124]))), (7, (.str (bs [61]))), (8, (.str (bs [60]))), (9, (.str (bs [43]))), (10, (.str (bs [45]))), (11, (.str (bs [42]))), (12, (.str (bs [95])))]) fun v1 =>
  some (.ret v1, m) := (aW_F (c := c_lex_signs) (fn := Try.f44) (by kernel_rfl) (by kernel_rfl) (by kernel_rfl) _ m).trans (by kernel_rfl)

/-! ### parlance/parlanceref08.small -/
noncomputable def c_r08_small : Code := bodyOf Try.f45
noncomputable def N_r08_small : AAct → Mem → Option (AOut × Mem) := finK X.T Try.f45.results.toList .normal
noncomputable def P_r08_small : AExit → AAct → Mem → Option (AOut × Mem) := finK X.T Try.f45.results.toList
theorem e_r08_small (v0 : AV) (m : Mem) : w_r08_small v0 m =
  bnd (aBin X.T .geq T_uint8 false true v0 (.int .u8 97)) fun v4 =>
  onWant v4
    (bnd (aBin X.T .leq T_uint8 false true v0 (.int .u8 122)) fun v7 =>
  some (.ret v7, m))
    (some (.ret (.bool false), m))
    (none) := (aW_F (c := c_r08_small) (fn := Try.f45) (by kernel_rfl) (by kernel_rfl) (by kernel_rfl) _ m).trans (by kernel_rfl)

/-! ### parlance/parlanceref08.great -/
noncomputable def c_r08_great : Code := bodyOf Try.f46
noncomputable def N_r08_great : AAct → Mem → Option (AOut × Mem) := finK X.T Try.f46.results.toList .normal
noncomputable def P_r08_great : AExit → AAct → Mem → Option (AOut × Mem) := finK X.T Try.f46.results.toList
theorem e_r08_great (v0 : AV) (m : Mem) : w_r08_great v0 m =
  bnd (aBin X.T .geq T_uint8 false true v0 (.int .u8 65)) fun v4 =>
  onWant v4
    (bnd (aBin X.T .leq T_uint8 false true v0 (.int .u8 90)) fun v7 =>
  some (.ret v7, m))
    (some (.ret (.bool false), m))
    (none) := (aW_F (c := c_r08_great) (fn := Try.f46) (by kernel_rfl) (by kernel_rfl) (by kernel_rfl) _ m).trans (by kernel_rfl)

/-! ### parlance/parlanceref08.digit -/
noncomputable def c_r08_digit : Code := bodyOf Try.f47
noncomputable def N_r08_digit : AAct → Mem → Option (AOut × Mem) := finK X.T Try.f47.results.toList .normal
noncomputable def P_r08_digit : AExit → AAct → Mem → Option (AOut × Mem) := finK X.T Try.f47.results.toList
theorem e_r08_digit (v0 : AV) (m : Mem) : w_r08_digit v0 m =
  bnd (aBin X.T .geq T_uint8 false true v0 (.int .u8 48)) fun v4 =>
  onWant v4
    (bnd (aBin X.T .leq T_uint8 false true v0 (.int .u8 57)) fun v7 =>
  some (.ret v7, m))
    (some (.ret (.bool false), m))
    (none) := (aW_F (c := c_r08_digit) (fn := Try.f47) (by kernel_rfl) (by kernel_rfl) (by kernel_rfl) _ m).trans (by kernel_rfl)

/-! ### parlance/parlanceref08.words -/
noncomputable def c_r08_words : Code := bodyOf Try.f48
noncomputable def N_r08_words : AAct → Mem → Option (AOut × Mem) := finK X.T Try.f48.results.toList .normal
noncomputable def P_r08_words : AExit → AAct → Mem → Option (AOut × Mem) := finK X.T Try.f48.results.toList
theorem e_r08_words (m : Mem) : w_r08_words m =
  memK (aBox m (.agg [.str (bs []), .str (bs []), .str (bs []), .str (bs []), .str (bs []), .str (bs []), .str (bs []), .str (bs []), .str (bs []), .str (bs []), .str (bs []), .str (bs []), .str (bs [])])) fun v0 m1 =>
  bnd (rBuild [.str (bs []), .str (bs []), .str (bs []), .str (bs []), .str (bs []), .str (bs []), .str (bs []), .str (bs []), .str (bs []), .str (bs []), .str (bs []), .str (bs []), .str (bs [])] [(0, 1, (.str (bs [108, 101, 116]))), (1, 1, (.str (bs [114, 101, 99]))), (2, 1, (.str (bs [105, 110]))), (3, 1, (.str (bs [102, 117, 110]))), (4, 1, (.str (bs [105, 102]))), (5, 1, (.str (bs [116, 104, 101, 110]))), (6, 1, (.str (bs [101, 108, 115, 101]))), (7, 1, (.str (bs [109, 97, 116, 99, 104]))), (8, 1, (.str (bs [119, 105, 116, 104]))), (9, 1, (.str (bs [116, 121, 112, 101]))), (10, 1, (.str (bs [111, 102]))), (11, 1, (.str (bs [116, 114, 117, 101]))), (12, 1, (.str (bs [102, 97, 108, 115, 101])))]) fun v1 =>
  bnd (rStore 13 m1 v0 v1) fun m2 =>
  bnd (rLoad true 13 m2 v0) fun vr0 =>
  some (.ret vr0, m2) := (aW_F (c := c_r08_words) (fn := Try.f48) (by kernel_rfl) (by kernel_rfl) (by kernel_rfl) _ m).trans (by kernel_rfl)

/-! ### parlance/parlanceref08.signs -/
noncomputable def c_r08_signs : Code := bodyOf Try.f49
noncomputable def N_r08_signs : AAct → Mem → Option (AOut × Mem) := finK X.T Try.f49.results.toList .normal
noncomputable def P_r08_signs : AExit → AAct → Mem → Option (AOut × Mem) := finK X.T Try.f49.results.toList
theorem e_r08_signs (m : Mem) : w_r08_signs m =
  memK (aBox m (.agg [.str (bs []), .str (bs []), .str (bs []), .str (bs []), .str (bs []), .str (bs []), .str (bs []), .str (bs []), .str (bs []), .str (bs []), .str (bs []), .str (bs []), .str (bs [])])) fun v0 m1 =>
  bnd (rBuild [.str (bs []), .str (bs []), .str (bs []), .str (bs []), .str (bs []), .str (bs []), .str (bs []), .str (bs []), .str (bs []), .str (bs []), .str (bs []), .str (bs []), .str (bs [])] [(0, 1, (.str (bs [45, 62]))), (1, 1, (.str (bs [58, 58]))), (2, 1, (.str (bs [59, 59]))), (3, 1, (.str (bs [40]))), (4, 1, (.str (bs [41]))), (5, 1, (.str (bs [44]))), (6, 1, (.str (bs [124]))), (7, 1, (.str (bs [61]))), (8, 1, (.str (bs [60]))), (9, 1, (.str (bs [43]))), (10, 1, (.str (bs [45]))), (11, 1, (.str (bs [42]))), (12, 1, (.str (bs [95])))]) fun v1 =>
  bnd (rStore 13 m1 v0 v1) fun m2 =>
  bnd (rLoad true 13 m2 v0) fun vr0 =>
  some (.ret vr0, m2) := (aW_F (c := c_r08_signs) (fn := Try.f49) (by kernel_rfl) (by kernel_rfl) (by kernel_rfl) _ m).trans (by kernel_rfl)

/-! ### slices.BinarySearchFunc   parlance/api.Token,parlance/api.Token,parlance/api.Token  -/
noncomputable def c_slices_BinarySearchFunc : Code := bodyOf Try.f50
noncomputable def N_slices_BinarySearchFunc : AAct → Mem → Option (AOut × Mem) := finK X.T Try.f50.results.toList .normal
noncomputable def P_slices_BinarySearchFunc : AExit → AAct → Mem → Option (AOut × Mem) := finK X.T Try.f50.results.toList
noncomputable def K_slices_BinarySearchFunc_0 : AAct → Mem → Option (AOut × Mem) := execF X F_slices_BinarySearchFunc 0 (sR (sR (sR (sR c_slices_BinarySearchFunc)))) N_slices_BinarySearchFunc P_slices_BinarySearchFunc
noncomputable def B_slices_BinarySearchFunc_0 : AExit → AAct → Mem → Option (AOut × Mem) := blockX 0 K_slices_BinarySearchFunc_0 P_slices_BinarySearchFunc
noncomputable def L_slices_BinarySearchFunc_0 : AAct → Mem → Option (AOut × Mem) := fun a m => killF (X.lk F_slices_BinarySearchFunc 0) a.tmps fun l => loopK X F_slices_BinarySearchFunc 0 (sB (sB (sL (sR (sR (sR c_slices_BinarySearchFunc)))))) B_slices_BinarySearchFunc_0 ⟨l, a.defers⟩ m
noncomputable def K_slices_BinarySearchFunc_1 : AAct → Mem → Option (AOut × Mem) := execF X F_slices_BinarySearchFunc 0 (sR (sB (sB (sL (sR (sR (sR c_slices_BinarySearchFunc))))))) L_slices_BinarySearchFunc_0 B_slices_BinarySearchFunc_0
noncomputable def B_slices_BinarySearchFunc_1 : AExit → AAct → Mem → Option (AOut × Mem) := blockX 1 L_slices_BinarySearchFunc_0 B_slices_BinarySearchFunc_0
noncomputable def k_slices_BinarySearchFunc_0 (v0 v2 v4 v8 v9 v10 : AV) (m : Mem) : Option (AOut × Mem) := K_slices_BinarySearchFunc_0 ⟨[v0, Q, v2, Q, v4, Q, Q, Q, v8, v9, v10, Q, Q, Q, Q, Q, Q, Q, Q, Q, Q, Q, Q, Q, Q, Q, Q, Q, Q, Q, Q, Q, Q, Q, Q, Q, Q, Q, Q, Q, Q, Q, Q, Q, Q, Q, Q, Q, Q], []⟩ m
noncomputable def l_slices_BinarySearchFunc_0 (v0 v2 v4 v8 v9 v10 : AV) (m : Mem) : Option (AOut × Mem) := L_slices_BinarySearchFunc_0 ⟨[v0, Q, v2, Q, v4, Q, Q, Q, v8, v9, v10, Q, Q, Q, Q, Q, Q, Q, Q, Q, Q, Q, Q, Q, Q, Q, Q, Q, Q, Q, Q, Q, Q, Q, Q, Q, Q, Q, Q, Q, Q, Q, Q, Q, Q, Q, Q, Q, Q], []⟩ m
noncomputable def k_slices_BinarySearchFunc_1 (v0 v2 v4 v8 v9 v10 : AV) (m : Mem) : Option (AOut × Mem) := K_slices_BinarySearchFunc_1 ⟨[v0, Q, v2, Q, v4, Q, Q, Q, v8, v9, v10, Q, Q, Q, Q, Q, Q, Q, Q, Q, Q, Q, Q, Q, Q, Q, Q, Q, Q, Q, Q, Q, Q, Q, Q, Q, Q, Q, Q, Q, Q, Q, Q, Q, Q, Q, Q, Q, Q], []⟩ m
theorem e_slices_BinarySearchFunc (v0 v1 v2 : AV) (m : Mem) : w_slices_BinarySearchFunc v0 v1 v2 m =
  memK (aBox m v1) fun v4 m1 =>
  bnd (rLenSl v0) fun v13 =>
  l_slices_BinarySearchFunc_0 v0 v2 v4 v13 (.int .i64 0) v13 m1 := (aW_F (c := c_slices_BinarySearchFunc) (fn := Try.f50) (by kernel_rfl) (by kernel_rfl) (by kernel_rfl) _ m).trans (by kernel_rfl)
theorem k_slices_BinarySearchFunc_0_eq (v0 v2 v4 v8 v9 v10 : AV) (m : Mem) : k_slices_BinarySearchFunc_0 v0 v2 v4 v8 v9 v10 m =
  bnd (aBin X.T .lss T_int false false v9 v8) fun v38 =>
  onWant v38
    (bnd (rIxAddrSl 3 v0 v9) fun v43 =>
  bnd (rLoad true 3 m v43) fun v44 =>
  bnd (rLoad true 3 m v4) fun v45 =>
  fnK v2 fun q xs ys => retK (aW X q (xs ++ [v44, v45] ++ ys) m) (fun v46 m1 =>
  bnd (aBin X.T .eql T_int false true v46 (.int .i64 0)) fun v47 =>
  some (.ret (.tup [v9, v47]), m1)) (fun u m1 => none))
    (some (.ret (.tup [v9, (.bool false)]), m))
    (none) := by kernel_rfl
theorem l_slices_BinarySearchFunc_0_u (v0 v2 v4 v8 v9 v10 : AV) (m : Mem) : l_slices_BinarySearchFunc_0 v0 v2 v4 v8 v9 v10 m = loopK X F_slices_BinarySearchFunc 0 (sB (sB (sL (sR (sR (sR c_slices_BinarySearchFunc)))))) B_slices_BinarySearchFunc_0 ⟨[v0, Q, v2, Q, v4, Q, Q, Q, v8, v9, v10, Q, Q, Q, Q, Q, Q, Q, Q, Q, Q, Q, Q, Q, Q, Q, Q, Q, Q, Q, Q, Q, Q, Q, Q, Q, Q, Q, Q, Q, Q, Q, Q, Q, Q, Q, Q, Q, Q], []⟩ m := by kernel_rfl
theorem l_slices_BinarySearchFunc_0_r (v0 v2 v4 v8 v9 v10 : AV) (m : Mem) : roundF X F_slices_BinarySearchFunc 0 (sB (sB (sL (sR (sR (sR c_slices_BinarySearchFunc)))))) B_slices_BinarySearchFunc_0 [v0, Q, v2, Q, v4, Q, Q, Q, v8, v9, v10, Q, Q, Q, Q, Q, Q, Q, Q, Q, Q, Q, Q, Q, Q, Q, Q, Q, Q, Q, Q, Q, Q, Q, Q, Q, Q, Q, Q, Q, Q, Q, Q, Q, Q, Q, Q, Q, Q] m =
  bnd (aBin X.T .lss T_int false false v9 v10) fun v17 =>
  onBool v17
    (k_slices_BinarySearchFunc_1 v0 v2 v4 v8 v9 v10 m)
    (k_slices_BinarySearchFunc_0 v0 v2 v4 v8 v9 v10 m) := by kernel_rfl
theorem l_slices_BinarySearchFunc_0_eq (v0 v2 v4 v8 v9 v10 : AV) (m : Mem) : l_slices_BinarySearchFunc_0 v0 v2 v4 v8 v9 v10 m =
  bnd (aBin X.T .lss T_int false false v9 v10) fun v17 =>
  onBool v17
    (k_slices_BinarySearchFunc_1 v0 v2 v4 v8 v9 v10 m)
    (k_slices_BinarySearchFunc_0 v0 v2 v4 v8 v9 v10 m) := roundF_of (l_slices_BinarySearchFunc_0_u v0 v2 v4 v8 v9 v10 m) (l_slices_BinarySearchFunc_0_r v0 v2 v4 v8 v9 v10 m)
theorem k_slices_BinarySearchFunc_1_eq (v0 v2 v4 v8 v9 v10 : AV) (m : Mem) : k_slices_BinarySearchFunc_1 v0 v2 v4 v8 v9 v10 m =
  bnd (aBin X.T .add T_int false false v9 v10) fun v20 =>
  bnd (rConvInt .u64 v20) fun v21 =>
  bnd (aBin X.T .shr T_uint false true v21 (.int .u64 1)) fun v22 =>
  bnd (rConvInt .i64 v22) fun v23 =>
  bnd (rIxAddrSl 3 v0 v23) fun v27 =>
  bnd (rLoad true 3 m v27) fun v28 =>
  bnd (rLoad true 3 m v4) fun v29 =>
  fnK v2 fun q xs ys => retK (aW X q (xs ++ [v28, v29] ++ ys) m) (fun v30 m1 =>
  bnd (aBin X.T .lss T_int false true v30 (.int .i64 0)) fun v31 =>
  onBool v31
    (bnd (aBin X.T .add T_int false true v23 (.int .i64 1)) fun v33 =>
    l_slices_BinarySearchFunc_0 v0 v2 v4 v8 v33 v10 m1)
    (l_slices_BinarySearchFunc_0 v0 v2 v4 v8 v9 v23 m1)) (fun u m1 => none) := by kernel_rfl

/-! ### (parlance/relex.window).meets$1 -/
noncomputable def c_relex_window_meets_1 : Code := bodyOf Try.f51
noncomputable def N_relex_window_meets_1 : AAct → Mem → Option (AOut × Mem) := finK X.T Try.f51.results.toList .normal
noncomputable def P_relex_window_meets_1 : AExit → AAct → Mem → Option (AOut × Mem) := finK X.T Try.f51.results.toList
theorem e_relex_window_meets_1 (v0 v1 v2 : AV) (m : Mem) : w_relex_window_meets_1 v0 v1 v2 m =
  memK (aBox m v0) fun v3 m1 =>
  memK (aBox m1 v1) fun v4 m2 =>
  bnd (rFieldAddr 1 v3) fun v6 =>
  bnd (rLoad false 1 m2 v6) fun v7 =>
  bnd (rFieldAddr 1 v2) fun v8 =>
  bnd (rLoad false 1 m2 v8) fun v9 =>
  bnd (aBin X.T .add T_int false false v7 v9) fun v10 =>
  bnd (rFieldAddr 1 v4) fun v11 =>
  bnd (rLoad false 1 m2 v11) fun v12 =>
  bnd (aBin X.T .sub T_int false false v10 v12) fun v13 =>
  some (.ret v13, m2) := (aW_F (c := c_relex_window_meets_1) (fn := Try.f51) (by kernel_rfl) (by kernel_rfl) (by kernel_rfl) _ m).trans (by kernel_rfl)

/-! ### strings.IndexByte -/
noncomputable def c_strings_IndexByte : Code := bodyOf Try.f52
noncomputable def N_strings_IndexByte : AAct → Mem → Option (AOut × Mem) := finK X.T Try.f52.results.toList .normal
noncomputable def P_strings_IndexByte : AExit → AAct → Mem → Option (AOut × Mem) := finK X.T Try.f52.results.toList
theorem e_strings_IndexByte (v0 v1 : AV) (m : Mem) : w_strings_IndexByte v0 v1 m =
  retK (w_i_stringslite_IndexByte v0 v1 m) (fun v7 m1 =>
  some (.ret v7, m1)) (fun u m1 => some (.pan u, m1)) := (aW_F (c := c_strings_IndexByte) (fn := Try.f52) (by kernel_rfl) (by kernel_rfl) (by kernel_rfl) _ m).trans (by kernel_rfl)

/-! ### slices.Contains   string,string  -/
noncomputable def c_slices_Contains : Code := bodyOf Try.f53
noncomputable def N_slices_Contains : AAct → Mem → Option (AOut × Mem) := finK X.T Try.f53.results.toList .normal
noncomputable def P_slices_Contains : AExit → AAct → Mem → Option (AOut × Mem) := finK X.T Try.f53.results.toList
theorem e_slices_Contains (v0 v1 : AV) (m : Mem) : w_slices_Contains v0 v1 m =
  retK (w_slices_Index v0 v1 m) (fun v7 m1 =>
  bnd (aBin X.T .geq T_int false true v7 (.int .i64 0)) fun v8 =>
  some (.ret v8, m1)) (fun u m1 => some (.pan u, m1)) := (aW_F (c := c_slices_Contains) (fn := Try.f53) (by kernel_rfl) (by kernel_rfl) (by kernel_rfl) _ m).trans (by kernel_rfl)

/-! ### parlance/lex.keys -/
noncomputable def c_lex_keys : Code := bodyOf Try.f54
noncomputable def N_lex_keys : AAct → Mem → Option (AOut × Mem) := finK X.T Try.f54.results.toList .normal
noncomputable def P_lex_keys : AExit → AAct → Mem → Option (AOut × Mem) := finK X.T Try.f54.results.toList
theorem e_lex_keys (m : Mem) : w_lex_keys m =
  bnd (rBuildSlice A_string 13 [(0, (.str (bs [108, 101, 116]))), (1, (.str (bs [114, 101, 99]))), (2, (.str (bs [105, 110]))), (3, (.str (bs [102, 117, 110]))), (4, (.str (bs [105, 102]))), (5, (.str (bs [116, 104, 101, 110]))), (6, (.str (bs [101, 108, 115, 101]))), (7, (.str (bs [109, 97, 116, 99, 104]))), (8, (.str (bs [119, 105, 116, 104]))), (9, (.str (bs [116, 121, 112, 101]))), (10, (.str (bs [111, 102]))), (11, (.str (bs [116, 114, 117, 101]))), (12, (.str (bs [102, 97, 108, 115, 101])))]) fun v1 =>
  some (.ret v1, m) := (aW_F (c := c_lex_keys) (fn := Try.f54) (by kernel_rfl) (by kernel_rfl) (by kernel_rfl) _ m).trans (by kernel_rfl)

/-! ### slices.Index   string,string  -/
noncomputable def c_slices_Index : Code := bodyOf Try.f56
noncomputable def N_slices_Index : AAct → Mem → Option (AOut × Mem) := finK X.T Try.f56.results.toList .normal
noncomputable def P_slices_Index : AExit → AAct → Mem → Option (AOut × Mem) := finK X.T Try.f56.results.toList
noncomputable def K_slices_Index_0 : AAct → Mem → Option (AOut × Mem) := execF X F_slices_Index 0 (sR (sR c_slices_Index)) N_slices_Index P_slices_Index
noncomputable def B_slices_Index_0 : AExit → AAct → Mem → Option (AOut × Mem) := blockX 0 K_slices_Index_0 P_slices_Index
noncomputable def L_slices_Index_0 : AAct → Mem → Option (AOut × Mem) := fun a m => killF (X.lk F_slices_Index 0) a.tmps fun l => loopK X F_slices_Index 0 (sB (sB (sR (sL (sR c_slices_Index))))) B_slices_Index_0 ⟨l, a.defers⟩ m
noncomputable def K_slices_Index_1 : AAct → Mem → Option (AOut × Mem) := execF X F_slices_Index 0 (sR (sR (sB (sB (sR (sL (sR c_slices_Index))))))) L_slices_Index_0 B_slices_Index_0
noncomputable def K_slices_Index_2 : AAct → Mem → Option (AOut × Mem) := execF X F_slices_Index 0 (sR (sR (sR (sB (sB (sR (sL (sR c_slices_Index)))))))) L_slices_Index_0 B_slices_Index_0
noncomputable def B_slices_Index_1 : AExit → AAct → Mem → Option (AOut × Mem) := blockX 1 K_slices_Index_2 B_slices_Index_0
noncomputable def k_slices_Index_0 (v0 v1 v7 v8 : AV) (m : Mem) : Option (AOut × Mem) := K_slices_Index_0 ⟨[v0, v1, Q, Q, Q, Q, Q, v7, v8, Q, Q, Q, Q, Q, Q, Q, Q, Q, Q], []⟩ m
noncomputable def l_slices_Index_0 (v0 v1 v7 v8 : AV) (m : Mem) : Option (AOut × Mem) := L_slices_Index_0 ⟨[v0, v1, Q, Q, Q, Q, Q, v7, v8, Q, Q, Q, Q, Q, Q, Q, Q, Q, Q], []⟩ m
noncomputable def k_slices_Index_1 (v0 v1 v7 v8 : AV) (m : Mem) : Option (AOut × Mem) := K_slices_Index_1 ⟨[v0, v1, Q, Q, Q, Q, Q, v7, v8, Q, Q, Q, Q, Q, Q, Q, Q, Q, Q], []⟩ m
noncomputable def k_slices_Index_2 (v0 v1 v5 v7 v8 : AV) (m : Mem) : Option (AOut × Mem) := K_slices_Index_2 ⟨[v0, v1, Q, Q, Q, v5, Q, v7, v8, Q, Q, Q, Q, Q, Q, Q, Q, Q, Q], []⟩ m
theorem e_slices_Index (v0 v1 : AV) (m : Mem) : w_slices_Index v0 v1 m =
  bnd (rLenSl v0) fun v7 =>
  l_slices_Index_0 v0 v1 v7 (.int .i64 0) m := (aW_F (c := c_slices_Index) (fn := Try.f56) (by kernel_rfl) (by kernel_rfl) (by kernel_rfl) _ m).trans (by kernel_rfl)
theorem k_slices_Index_0_eq (v0 v1 v7 v8 : AV) (m : Mem) : k_slices_Index_0 v0 v1 v7 v8 m =
  some (.ret (.int .i64 (-1)), m) := by kernel_rfl
theorem l_slices_Index_0_u (v0 v1 v7 v8 : AV) (m : Mem) : l_slices_Index_0 v0 v1 v7 v8 m = loopK X F_slices_Index 0 (sB (sB (sR (sL (sR c_slices_Index))))) B_slices_Index_0 ⟨[v0, v1, Q, Q, Q, Q, Q, v7, v8, Q, Q, Q, Q, Q, Q, Q, Q, Q, Q], []⟩ m := by kernel_rfl
theorem l_slices_Index_0_r (v0 v1 v7 v8 : AV) (m : Mem) : roundF X F_slices_Index 0 (sB (sB (sR (sL (sR c_slices_Index))))) B_slices_Index_0 [v0, v1, Q, Q, Q, Q, Q, v7, v8, Q, Q, Q, Q, Q, Q, Q, Q, Q, Q] m =
  bnd (aBin X.T .lss T_int false false v8 v7) fun v9 =>
  onBool v9
    (k_slices_Index_1 v0 v1 v7 v8 m)
    (k_slices_Index_0 v0 v1 v7 v8 m) := by kernel_rfl
theorem l_slices_Index_0_eq (v0 v1 v7 v8 : AV) (m : Mem) : l_slices_Index_0 v0 v1 v7 v8 m =
  bnd (aBin X.T .lss T_int false false v8 v7) fun v9 =>
  onBool v9
    (k_slices_Index_1 v0 v1 v7 v8 m)
    (k_slices_Index_0 v0 v1 v7 v8 m) := roundF_of (l_slices_Index_0_u v0 v1 v7 v8 m) (l_slices_Index_0_r v0 v1 v7 v8 m)
theorem k_slices_Index_1_eq (v0 v1 v7 v8 : AV) (m : Mem) : k_slices_Index_1 v0 v1 v7 v8 m =
  bnd (rIxAddrSl 1 v0 v8) fun v14 =>
  bnd (rLoad false 1 m v14) fun v15 =>
  bnd (aBin X.T .eql T_string false false v1 v15) fun v16 =>
  onBool v16
    (some (.ret v8, m))
    (k_slices_Index_2 v0 v1 v8 v7 v8 m) := by kernel_rfl
theorem k_slices_Index_2_eq (v0 v1 v5 v7 v8 : AV) (m : Mem) : k_slices_Index_2 v0 v1 v5 v7 v8 m =
  bnd (aBin X.T .add T_int false true v8 (.int .i64 1)) fun v18 =>
  l_slices_Index_0 v0 v1 v7 v18 m := by kernel_rfl

end Go.AM
