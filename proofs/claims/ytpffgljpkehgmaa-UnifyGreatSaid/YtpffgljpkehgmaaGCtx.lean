/-
  A part of the proof: equations or tables of the program over the abstract machine, printed by a program of this proof's own.
-/
import Derived.Test.YtpffgljpkehgmaaAMRed
import Derived.Lib.Bytealg
import Derived.Test.YtpffgljpkehgmaaProg
namespace Go.AM
open Go.Proofs
set_option maxRecDepth 100000
set_option linter.unusedVariables false
def F_l13_UnifyGreat : FuncId := 7
def F_l13_alive : FuncId := 17
def F_unify_Store_Size : FuncId := 21
def F_unify_Store_Types : FuncId := 23
def F_unify_Store_Alike : FuncId := 27
def F_unify_Store_Unify : FuncId := 31
def F_unify_New : FuncId := 33
def F_unify_Store_Var : FuncId := 34
def F_unify_Store_Pair : FuncId := 35
def F_unify_Store_there : FuncId := 50
def F_unify_Store_size : FuncId := 51
def F_unify_Store_typ : FuncId := 54
def F_unify_Store_merge : FuncId := 58
def F_unify_Store_undo : FuncId := 59
def F_unify_Store_rounds : FuncId := 61
def F_unify_Store_add : FuncId := 62
def F_slices_ContainsFunc : FuncId := 80
def F_unify_Store_there_1 : FuncId := 81
def F_unify_Store_find : FuncId := 82
def F_unify_Store_link : FuncId := 84
def F_unify_Store_heads : FuncId := 85
def F_slices_Clone : FuncId := 86
def F_slices_IndexFunc : FuncId := 96
def T_int : TypeId := 3
def T_bool : TypeId := 4
def T_string : TypeId := 9
def T_Pt_unify_Store : TypeId := 31
def T_Sl_int : TypeId := 35
def T_api_Errno : TypeId := 40
def A_Fu023062f9 : AT := ⟨.func, 1, 8, .nilf, false, false⟩
def A_int64 : AT := ⟨.int .i64, 1, 8, .int .i64 0, false, true⟩
def A_int : AT := ⟨.int .i64, 1, 8, .int .i64 0, false, true⟩
def A_bool : AT := ⟨.bool, 1, 1, .bool false, false, true⟩
def A_uint8 : AT := ⟨.int .u8, 1, 1, .int .u8 0, false, true⟩
def A_i_abi_BoundsErrorCode : AT := ⟨.int .u8, 1, 1, .int .u8 0, false, true⟩
def A_string : AT := ⟨.str, 1, 16, .str (bs []), false, true⟩
def A_runtime_errorString : AT := ⟨.str, 1, 16, .str (bs []), false, true⟩
def A_runtime_plainError : AT := ⟨.str, 1, 16, .str (bs []), false, true⟩
def A_uintptr : AT := ⟨.int .u64, 1, 8, .int .u64 0, false, true⟩
def A_Pt_runtime_TypeAssertionError : AT := ⟨.ptr 134, 1, 8, .nilp, false, true⟩
def A_Pt_runtime_PanicNilError : AT := ⟨.ptr 137, 1, 8, .nilp, false, true⟩
def A_Pt_i_abi_Type : AT := ⟨.ptr 146, 1, 8, .nilp, false, true⟩
def A_Ind55386e6 : AT := ⟨.iface true, 1, 16, .nili, false, true⟩
def A_int32 : AT := ⟨.int .i32, 1, 4, .int .i32 0, false, true⟩
def A_Std5da700e : AT := ⟨.strct [(0, 3, true), (1, 3, true), (2, 3, true)], 3, 24, .agg [.int .i64 0, .int .i64 0, .int .i64 0], false, true⟩
def A_api_Token : AT := ⟨.strct [(0, 3, true), (1, 3, true), (2, 3, true)], 3, 24, .agg [.int .i64 0, .int .i64 0, .int .i64 0], false, true⟩
def A_Fua86e39ea : AT := ⟨.func, 1, 8, .nilf, false, false⟩
def A_Fu30945291 : AT := ⟨.func, 1, 8, .nilf, false, false⟩
def A_Fuf18f648a : AT := ⟨.func, 1, 8, .nilf, false, false⟩
def A_Fu099c2273 : AT := ⟨.func, 1, 8, .nilf, false, false⟩
def A_Sl_l13_Op : AT := ⟨.slice 74, 1, 24, .nils, false, false⟩
def A_Fu6b0fecfd : AT := ⟨.func, 1, 8, .nilf, false, false⟩
def A_Fu9e805b1a : AT := ⟨.func, 1, 8, .nilf, false, false⟩
def A_Pt_unify_Store : AT := ⟨.ptr 91, 1, 8, .nilp, false, true⟩
def A_Sl_r13_Node : AT := ⟨.slice 96, 1, 24, .nils, false, false⟩
def A_St36a57757 : AT := ⟨.strct [(0, 32, true)], 1, 24, .agg [.nils], false, false⟩
def A_r13_Store : AT := ⟨.strct [(0, 32, true)], 1, 24, .agg [.nils], false, false⟩
def A_Sl_int : AT := ⟨.slice 3, 1, 24, .nils, false, false⟩
def A_Fub0799522 : AT := ⟨.func, 1, 8, .nilf, false, false⟩
def A_Fu200dffaf : AT := ⟨.func, 1, 8, .nilf, false, false⟩
def A_Sl_api_Type : AT := ⟨.slice 53, 1, 24, .nils, false, false⟩
def A_api_Errno : AT := ⟨.int .i64, 1, 8, .int .i64 0, false, true⟩
def A_Fu5ab7afad : AT := ⟨.func, 1, 8, .nilf, false, false⟩
def A_Fu698beb67 : AT := ⟨.func, 1, 8, .nilf, false, false⟩
def A_Fu8c0b67b8 : AT := ⟨.func, 1, 8, .nilf, false, false⟩
def A_Fu69a64d76 : AT := ⟨.func, 1, 8, .nilf, false, false⟩
def A_Fu0d562672 : AT := ⟨.func, 1, 8, .nilf, false, false⟩
def A_Fu02682237 : AT := ⟨.func, 1, 8, .nilf, false, false⟩
def A_Fu081862da : AT := ⟨.func, 1, 8, .nilf, false, false⟩
def A_Fu2bbf57a8 : AT := ⟨.func, 1, 8, .nilf, false, false⟩
def A_Fuc4992362 : AT := ⟨.func, 1, 8, .nilf, false, false⟩
def A_Fu847771d0 : AT := ⟨.func, 1, 8, .nilf, false, false⟩
def A_Stb553d2c6 : AT := ⟨.strct [(0, 3, true), (1, 3, true), (2, 9, true), (3, 39, true)], 4, 56, .agg [.int .i64 0, .int .i64 0, .str (bs []), .nils], false, false⟩
def A_api_Type : AT := ⟨.strct [(0, 3, true), (1, 3, true), (2, 9, true), (3, 39, true)], 4, 56, .agg [.int .i64 0, .int .i64 0, .str (bs []), .nils], false, false⟩
def A_Fu09d697a7 : AT := ⟨.func, 1, 8, .nilf, false, false⟩
def A_Fu1a1e0b5b : AT := ⟨.func, 1, 8, .nilf, false, false⟩
def A_Fu92c41c8d : AT := ⟨.func, 1, 8, .nilf, false, false⟩
def A_Fuc33386fd : AT := ⟨.func, 1, 8, .nilf, false, false⟩
def A_Fu403d54d8 : AT := ⟨.func, 1, 8, .nilf, false, false⟩
def A_Fudb92a012 : AT := ⟨.func, 1, 8, .nilf, false, false⟩
def A_Fu2138bbc8 : AT := ⟨.func, 1, 8, .nilf, false, false⟩
def A_Fu3a69808c : AT := ⟨.func, 1, 8, .nilf, false, false⟩
def A_Fu6b86de10 : AT := ⟨.func, 1, 8, .nilf, false, false⟩
def A_Fu1d5e1b64 : AT := ⟨.func, 1, 8, .nilf, false, false⟩
def A_Sl_api_Token : AT := ⟨.slice 23, 1, 24, .nils, false, false⟩
def A_Fub576b0cf : AT := ⟨.func, 1, 8, .nilf, false, false⟩
def A_Fu813d3edf : AT := ⟨.func, 1, 8, .nilf, false, false⟩
def A_Fu907b2f29 : AT := ⟨.func, 1, 8, .nilf, false, false⟩
def A_Fuef06e50a : AT := ⟨.func, 1, 8, .nilf, false, false⟩
def A_Fu0e3e09cb : AT := ⟨.func, 1, 8, .nilf, false, false⟩
def A_St95548b3c : AT := ⟨.strct [(0, 3, true), (1, 9, true), (2, 35, true)], 3, 48, .agg [.int .i64 0, .str (bs []), .nils], false, false⟩
def A_l13_Op : AT := ⟨.strct [(0, 3, true), (1, 9, true), (2, 35, true)], 3, 48, .agg [.int .i64 0, .str (bs []), .nils], false, false⟩
def A_Fu850c7b23 : AT := ⟨.func, 1, 8, .nilf, false, false⟩
def A_Fuc2af6d3e : AT := ⟨.func, 1, 8, .nilf, false, false⟩
def A_Fu38e5873f : AT := ⟨.func, 1, 8, .nilf, false, false⟩
def A_Fu3290c997 : AT := ⟨.func, 1, 8, .nilf, false, false⟩
def A_Fuba39f5e3 : AT := ⟨.func, 1, 8, .nilf, false, false⟩
def A_Fu373dc62f : AT := ⟨.func, 1, 8, .nilf, false, false⟩
def A_Mp_int_int : AT := ⟨.map 3 3, 1, 8, .nilm, false, false⟩
def A_Fu19b251cc : AT := ⟨.func, 1, 8, .nilf, false, false⟩
def A_Fu343b5b30 : AT := ⟨.func, 1, 8, .nilf, false, false⟩
def A_Fub62ad6b2 : AT := ⟨.func, 1, 8, .nilf, false, false⟩
def A_Fu6fc2cfa5 : AT := ⟨.func, 1, 8, .nilf, false, false⟩
def A_Fufd0b71ec : AT := ⟨.func, 1, 8, .nilf, false, false⟩
def A_Sl_unify_node : AT := ⟨.slice 118, 1, 24, .nils, false, false⟩
def A_Sta2a637e8 : AT := ⟨.strct [(0, 89, true), (1, 35, true)], 2, 48, .agg [.nils, .nils], false, false⟩
def A_unify_Store : AT := ⟨.strct [(0, 89, true), (1, 35, true)], 2, 48, .agg [.nils, .nils], false, false⟩
def A_Fu9412f22b : AT := ⟨.func, 1, 8, .nilf, false, false⟩
def A_Fubd4a3844 : AT := ⟨.func, 1, 8, .nilf, false, false⟩
def A_St85b4fcc6 : AT := ⟨.strct [(0, 3, true), (1, 9, true), (2, 35, true), (3, 3, true)], 4, 56, .agg [.int .i64 0, .str (bs []), .nils, .int .i64 0], false, false⟩
def A_r13_Node : AT := ⟨.strct [(0, 3, true), (1, 9, true), (2, 35, true), (3, 3, true)], 4, 56, .agg [.int .i64 0, .str (bs []), .nils, .int .i64 0], false, false⟩
def A_Fud3a9fb14 : AT := ⟨.func, 1, 8, .nilf, false, false⟩
def A_Mp_int_bool : AT := ⟨.map 3 4, 1, 8, .nilm, false, false⟩
def A_Fu2d32918e : AT := ⟨.func, 1, 8, .nilf, false, false⟩
def A_Fu24225d2f : AT := ⟨.func, 1, 8, .nilf, false, false⟩
def A_Fu63b38183 : AT := ⟨.func, 1, 8, .nilf, false, false⟩
def A_Fu6de16232 : AT := ⟨.func, 1, 8, .nilf, false, false⟩
def A_Fud20fb330 : AT := ⟨.func, 1, 8, .nilf, false, false⟩
def A_Fu087c92e7 : AT := ⟨.func, 1, 8, .nilf, false, false⟩
def A_Fu226b8d62 : AT := ⟨.func, 1, 8, .nilf, false, false⟩
def A_Fub4aa9118 : AT := ⟨.func, 1, 8, .nilf, false, false⟩
def A_Sl_string : AT := ⟨.slice 9, 1, 24, .nils, false, false⟩
def A_Fub15779ac : AT := ⟨.func, 1, 8, .nilf, false, false⟩
def A_Fu5d9e48bd : AT := ⟨.func, 1, 8, .nilf, false, false⟩
def A_Fu6fbfa57d : AT := ⟨.func, 1, 8, .nilf, false, false⟩
def A_Fu53e69abb : AT := ⟨.func, 1, 8, .nilf, false, false⟩
def A_Fu2788d4c2 : AT := ⟨.func, 1, 8, .nilf, false, false⟩
def A_Fua9d634f9 : AT := ⟨.func, 1, 8, .nilf, false, false⟩
def A_Fud5a6b778 : AT := ⟨.func, 1, 8, .nilf, false, false⟩
def A_Fuaffc74df : AT := ⟨.func, 1, 8, .nilf, false, false⟩
def A_St358fbfb6 : AT := ⟨.strct [(0, 3, true), (1, 9, true), (2, 35, true), (3, 3, true)], 4, 56, .agg [.int .i64 0, .str (bs []), .nils, .int .i64 0], false, false⟩
def A_unify_node : AT := ⟨.strct [(0, 3, true), (1, 9, true), (2, 35, true), (3, 3, true)], 4, 56, .agg [.int .i64 0, .str (bs []), .nils, .int .i64 0], false, false⟩
def A_Fu3b5c525b : AT := ⟨.func, 1, 8, .nilf, false, false⟩
def A_Ar2_int : AT := ⟨.arr 2 3, 2, 16, .agg [.int .i64 0, .int .i64 0], false, true⟩
def A_Sl_Ar2_int : AT := ⟨.slice 120, 1, 24, .nils, false, false⟩
def A_Mp_int_Std8209813 : AT := ⟨.map 3 124, 1, 8, .nilm, false, false⟩
def A_Std8209813 : AT := ⟨.strct [], 0, 0, .agg [], false, true⟩
def A_Fubb15e539 : AT := ⟨.func, 1, 8, .nilf, false, false⟩
def A_Fu14702e99 : AT := ⟨.func, 1, 8, .nilf, false, false⟩
def A_Ar13_string : AT := ⟨.arr 13 9, 13, 208, .agg [.str (bs []), .str (bs []), .str (bs []), .str (bs []), .str (bs []), .str (bs []), .str (bs []), .str (bs []), .str (bs []), .str (bs []), .str (bs []), .str (bs []), .str (bs [])], false, true⟩
def A_Fu6382c0aa : AT := ⟨.func, 1, 8, .nilf, false, false⟩
def A_Fu5bef438f : AT := ⟨.func, 1, 8, .nilf, false, false⟩
def A_Fu9b98210a : AT := ⟨.func, 1, 8, .nilf, false, false⟩
def A_Fu6c675901 : AT := ⟨.func, 1, 8, .nilf, false, false⟩
def A_Ar0_Pt_runtime_PanicNilError : AT := ⟨.arr 0 16, 0, 0, .agg [], false, true⟩
def A_uint32 : AT := ⟨.int .u32, 1, 4, .int .u32 0, false, true⟩
def A_i_abi_TFlag : AT := ⟨.int .u8, 1, 1, .int .u8 0, false, true⟩
def A_i_abi_Kind : AT := ⟨.int .u8, 1, 1, .int .u8 0, false, true⟩
def A_Fu0a8967c6 : AT := ⟨.func, 1, 8, .nilf, false, false⟩
def A_Pt_uint8 : AT := ⟨.ptr 5, 1, 8, .nilp, false, true⟩
def A_i_abi_NameOff : AT := ⟨.int .i32, 1, 4, .int .i32 0, false, true⟩
def A_i_abi_TypeOff : AT := ⟨.int .i32, 1, 4, .int .i32 0, false, true⟩
noncomputable def tab (x : Nat) : Option AT := bif Nat.blt x 73 then
  (bif Nat.blt x 38 then
   (bif Nat.blt x 22 then
    (bif Nat.blt x 10 then
     (bif Nat.blt x 4 then
      (bif Nat.blt x 2 then
       (bif Nat.beq x 1 then some A_Fu023062f9 else none)
       else
       (bif Nat.blt x 3 then
        (bif Nat.beq x 2 then some A_int64 else none)
        else
        (bif Nat.beq x 3 then some A_int else none)))
      else
      (bif Nat.blt x 6 then
       (bif Nat.blt x 5 then
        (bif Nat.beq x 4 then some A_bool else none)
        else
        (bif Nat.beq x 5 then some A_uint8 else none))
       else
       (bif Nat.blt x 9 then
        (bif Nat.beq x 6 then some A_i_abi_BoundsErrorCode else none)
        else
        (bif Nat.beq x 9 then some A_string else none))))
     else
     (bif Nat.blt x 16 then
      (bif Nat.blt x 12 then
       (bif Nat.blt x 11 then
        (bif Nat.beq x 10 then some A_runtime_errorString else none)
        else
        (bif Nat.beq x 11 then some A_runtime_plainError else none))
       else
       (bif Nat.blt x 15 then
        (bif Nat.beq x 12 then some A_uintptr else none)
        else
        (bif Nat.beq x 15 then some A_Pt_runtime_TypeAssertionError else none)))
      else
      (bif Nat.blt x 20 then
       (bif Nat.blt x 17 then
        (bif Nat.beq x 16 then some A_Pt_runtime_PanicNilError else none)
        else
        (bif Nat.beq x 17 then some A_Pt_i_abi_Type else none))
       else
       (bif Nat.blt x 21 then
        (bif Nat.beq x 20 then some A_Ind55386e6 else none)
        else
        (bif Nat.beq x 21 then some A_int32 else none)))))
    else
    (bif Nat.blt x 29 then
     (bif Nat.blt x 25 then
      (bif Nat.blt x 23 then
       (bif Nat.beq x 22 then some A_Std5da700e else none)
       else
       (bif Nat.blt x 24 then
        (bif Nat.beq x 23 then some A_api_Token else none)
        else
        (bif Nat.beq x 24 then some A_Fua86e39ea else none)))
      else
      (bif Nat.blt x 27 then
       (bif Nat.blt x 26 then
        (bif Nat.beq x 25 then some A_Fu30945291 else none)
        else
        (bif Nat.beq x 26 then some A_Fuf18f648a else none))
       else
       (bif Nat.blt x 28 then
        (bif Nat.beq x 27 then some A_Fu099c2273 else none)
        else
        (bif Nat.beq x 28 then some A_Sl_l13_Op else none))))
     else
     (bif Nat.blt x 33 then
      (bif Nat.blt x 31 then
       (bif Nat.blt x 30 then
        (bif Nat.beq x 29 then some A_Fu6b0fecfd else none)
        else
        (bif Nat.beq x 30 then some A_Fu9e805b1a else none))
       else
       (bif Nat.blt x 32 then
        (bif Nat.beq x 31 then some A_Pt_unify_Store else none)
        else
        (bif Nat.beq x 32 then some A_Sl_r13_Node else none)))
      else
      (bif Nat.blt x 35 then
       (bif Nat.blt x 34 then
        (bif Nat.beq x 33 then some A_St36a57757 else none)
        else
        (bif Nat.beq x 34 then some A_r13_Store else none))
       else
       (bif Nat.blt x 37 then
        (bif Nat.beq x 35 then some A_Sl_int else none)
        else
        (bif Nat.beq x 37 then some A_Fub0799522 else none))))))
   else
   (bif Nat.blt x 54 then
    (bif Nat.blt x 46 then
     (bif Nat.blt x 42 then
      (bif Nat.blt x 39 then
       (bif Nat.beq x 38 then some A_Fu200dffaf else none)
       else
       (bif Nat.blt x 40 then
        (bif Nat.beq x 39 then some A_Sl_api_Type else none)
        else
        (bif Nat.beq x 40 then some A_api_Errno else none)))
      else
      (bif Nat.blt x 44 then
       (bif Nat.blt x 43 then
        (bif Nat.beq x 42 then some A_Fu5ab7afad else none)
        else
        (bif Nat.beq x 43 then some A_Fu698beb67 else none))
       else
       (bif Nat.blt x 45 then
        (bif Nat.beq x 44 then some A_Fu8c0b67b8 else none)
        else
        (bif Nat.beq x 45 then some A_Fu69a64d76 else none))))
     else
     (bif Nat.blt x 50 then
      (bif Nat.blt x 48 then
       (bif Nat.blt x 47 then
        (bif Nat.beq x 46 then some A_Fu0d562672 else none)
        else
        (bif Nat.beq x 47 then some A_Fu02682237 else none))
       else
       (bif Nat.blt x 49 then
        (bif Nat.beq x 48 then some A_Fu081862da else none)
        else
        (bif Nat.beq x 49 then some A_Fu2bbf57a8 else none)))
      else
      (bif Nat.blt x 52 then
       (bif Nat.blt x 51 then
        (bif Nat.beq x 50 then some A_Fuc4992362 else none)
        else
        (bif Nat.beq x 51 then some A_Fu847771d0 else none))
       else
       (bif Nat.blt x 53 then
        (bif Nat.beq x 52 then some A_Stb553d2c6 else none)
        else
        (bif Nat.beq x 53 then some A_api_Type else none)))))
    else
    (bif Nat.blt x 64 then
     (bif Nat.blt x 59 then
      (bif Nat.blt x 56 then
       (bif Nat.blt x 55 then
        (bif Nat.beq x 54 then some A_Fu09d697a7 else none)
        else
        (bif Nat.beq x 55 then some A_Fu1a1e0b5b else none))
       else
       (bif Nat.blt x 58 then
        (bif Nat.beq x 56 then some A_Fu92c41c8d else none)
        else
        (bif Nat.beq x 58 then some A_Fuc33386fd else none)))
      else
      (bif Nat.blt x 61 then
       (bif Nat.blt x 60 then
        (bif Nat.beq x 59 then some A_Fu403d54d8 else none)
        else
        (bif Nat.beq x 60 then some A_Fudb92a012 else none))
       else
       (bif Nat.blt x 63 then
        (bif Nat.beq x 61 then some A_Fu2138bbc8 else none)
        else
        (bif Nat.beq x 63 then some A_Fu3a69808c else none))))
     else
     (bif Nat.blt x 68 then
      (bif Nat.blt x 66 then
       (bif Nat.blt x 65 then
        (bif Nat.beq x 64 then some A_Fu6b86de10 else none)
        else
        (bif Nat.beq x 65 then some A_Fu1d5e1b64 else none))
       else
       (bif Nat.blt x 67 then
        (bif Nat.beq x 66 then some A_Sl_api_Token else none)
        else
        (bif Nat.beq x 67 then some A_Fub576b0cf else none)))
      else
      (bif Nat.blt x 71 then
       (bif Nat.blt x 70 then
        (bif Nat.beq x 68 then some A_Fu813d3edf else none)
        else
        (bif Nat.beq x 70 then some A_Fu907b2f29 else none))
       else
       (bif Nat.blt x 72 then
        (bif Nat.beq x 71 then some A_Fuef06e50a else none)
        else
        (bif Nat.beq x 72 then some A_Fu0e3e09cb else none)))))))
  else
  (bif Nat.blt x 108 then
   (bif Nat.blt x 90 then
    (bif Nat.blt x 82 then
     (bif Nat.blt x 77 then
      (bif Nat.blt x 74 then
       (bif Nat.beq x 73 then some A_St95548b3c else none)
       else
       (bif Nat.blt x 75 then
        (bif Nat.beq x 74 then some A_l13_Op else none)
        else
        (bif Nat.beq x 75 then some A_Fu850c7b23 else none)))
      else
      (bif Nat.blt x 80 then
       (bif Nat.blt x 78 then
        (bif Nat.beq x 77 then some A_Fuc2af6d3e else none)
        else
        (bif Nat.beq x 78 then some A_Fu38e5873f else none))
       else
       (bif Nat.blt x 81 then
        (bif Nat.beq x 80 then some A_Fu3290c997 else none)
        else
        (bif Nat.beq x 81 then some A_Fuba39f5e3 else none))))
     else
     (bif Nat.blt x 86 then
      (bif Nat.blt x 84 then
       (bif Nat.blt x 83 then
        (bif Nat.beq x 82 then some A_Fu373dc62f else none)
        else
        (bif Nat.beq x 83 then some A_Mp_int_int else none))
       else
       (bif Nat.blt x 85 then
        (bif Nat.beq x 84 then some A_Fu19b251cc else none)
        else
        (bif Nat.beq x 85 then some A_Fu343b5b30 else none)))
      else
      (bif Nat.blt x 88 then
       (bif Nat.blt x 87 then
        (bif Nat.beq x 86 then some A_Fub62ad6b2 else none)
        else
        (bif Nat.beq x 87 then some A_Fu6fc2cfa5 else none))
       else
       (bif Nat.blt x 89 then
        (bif Nat.beq x 88 then some A_Fufd0b71ec else none)
        else
        (bif Nat.beq x 89 then some A_Sl_unify_node else none)))))
    else
    (bif Nat.blt x 99 then
     (bif Nat.blt x 95 then
      (bif Nat.blt x 92 then
       (bif Nat.blt x 91 then
        (bif Nat.beq x 90 then some A_Sta2a637e8 else none)
        else
        (bif Nat.beq x 91 then some A_unify_Store else none))
       else
       (bif Nat.blt x 94 then
        (bif Nat.beq x 92 then some A_Fu9412f22b else none)
        else
        (bif Nat.beq x 94 then some A_Fubd4a3844 else none)))
      else
      (bif Nat.blt x 97 then
       (bif Nat.blt x 96 then
        (bif Nat.beq x 95 then some A_St85b4fcc6 else none)
        else
        (bif Nat.beq x 96 then some A_r13_Node else none))
       else
       (bif Nat.blt x 98 then
        (bif Nat.beq x 97 then some A_Fud3a9fb14 else none)
        else
        (bif Nat.beq x 98 then some A_Mp_int_bool else none))))
     else
     (bif Nat.blt x 103 then
      (bif Nat.blt x 101 then
       (bif Nat.blt x 100 then
        (bif Nat.beq x 99 then some A_Fu2d32918e else none)
        else
        (bif Nat.beq x 100 then some A_Fu24225d2f else none))
       else
       (bif Nat.blt x 102 then
        (bif Nat.beq x 101 then some A_Fu63b38183 else none)
        else
        (bif Nat.beq x 102 then some A_Fu6de16232 else none)))
      else
      (bif Nat.blt x 106 then
       (bif Nat.blt x 104 then
        (bif Nat.beq x 103 then some A_Fud20fb330 else none)
        else
        (bif Nat.beq x 104 then some A_Fu087c92e7 else none))
       else
       (bif Nat.blt x 107 then
        (bif Nat.beq x 106 then some A_Fu226b8d62 else none)
        else
        (bif Nat.beq x 107 then some A_Fub4aa9118 else none))))))
   else
   (bif Nat.blt x 124 then
    (bif Nat.blt x 115 then
     (bif Nat.blt x 111 then
      (bif Nat.blt x 109 then
       (bif Nat.beq x 108 then some A_Sl_string else none)
       else
       (bif Nat.blt x 110 then
        (bif Nat.beq x 109 then some A_Fub15779ac else none)
        else
        (bif Nat.beq x 110 then some A_Fu5d9e48bd else none)))
      else
      (bif Nat.blt x 113 then
       (bif Nat.blt x 112 then
        (bif Nat.beq x 111 then some A_Fu6fbfa57d else none)
        else
        (bif Nat.beq x 112 then some A_Fu53e69abb else none))
       else
       (bif Nat.blt x 114 then
        (bif Nat.beq x 113 then some A_Fu2788d4c2 else none)
        else
        (bif Nat.beq x 114 then some A_Fua9d634f9 else none))))
     else
     (bif Nat.blt x 119 then
      (bif Nat.blt x 117 then
       (bif Nat.blt x 116 then
        (bif Nat.beq x 115 then some A_Fud5a6b778 else none)
        else
        (bif Nat.beq x 116 then some A_Fuaffc74df else none))
       else
       (bif Nat.blt x 118 then
        (bif Nat.beq x 117 then some A_St358fbfb6 else none)
        else
        (bif Nat.beq x 118 then some A_unify_node else none)))
      else
      (bif Nat.blt x 121 then
       (bif Nat.blt x 120 then
        (bif Nat.beq x 119 then some A_Fu3b5c525b else none)
        else
        (bif Nat.beq x 120 then some A_Ar2_int else none))
       else
       (bif Nat.blt x 123 then
        (bif Nat.beq x 121 then some A_Sl_Ar2_int else none)
        else
        (bif Nat.beq x 123 then some A_Mp_int_Std8209813 else none)))))
    else
    (bif Nat.blt x 135 then
     (bif Nat.blt x 129 then
      (bif Nat.blt x 127 then
       (bif Nat.blt x 126 then
        (bif Nat.beq x 124 then some A_Std8209813 else none)
        else
        (bif Nat.beq x 126 then some A_Fubb15e539 else none))
       else
       (bif Nat.blt x 128 then
        (bif Nat.beq x 127 then some A_Fu14702e99 else none)
        else
        (bif Nat.beq x 128 then some A_Ar13_string else none)))
      else
      (bif Nat.blt x 131 then
       (bif Nat.blt x 130 then
        (bif Nat.beq x 129 then some A_Fu6382c0aa else none)
        else
        (bif Nat.beq x 130 then some A_Fu5bef438f else none))
       else
       (bif Nat.blt x 132 then
        (bif Nat.beq x 131 then some A_Fu9b98210a else none)
        else
        (bif Nat.beq x 132 then some A_Fu6c675901 else none))))
     else
     (bif Nat.blt x 141 then
      (bif Nat.blt x 139 then
       (bif Nat.blt x 138 then
        (bif Nat.beq x 135 then some A_Ar0_Pt_runtime_PanicNilError else none)
        else
        (bif Nat.beq x 138 then some A_uint32 else none))
       else
       (bif Nat.blt x 140 then
        (bif Nat.beq x 139 then some A_i_abi_TFlag else none)
        else
        (bif Nat.beq x 140 then some A_i_abi_Kind else none)))
      else
      (bif Nat.blt x 143 then
       (bif Nat.blt x 142 then
        (bif Nat.beq x 141 then some A_Fu0a8967c6 else none)
        else
        (bif Nat.beq x 142 then some A_Pt_uint8 else none))
       else
       (bif Nat.blt x 144 then
        (bif Nat.beq x 143 then some A_i_abi_NameOff else none)
        else
        (bif Nat.beq x 144 then some A_i_abi_TypeOff else none)))))))
noncomputable def killT3 (x : Nat) : List Nat := bif Nat.blt x 3 then
  (bif Nat.blt x 1 then
   (bif Nat.beq x 0 then [1, 6] else [])
   else
   (bif Nat.blt x 2 then
    (bif Nat.beq x 1 then [7] else [])
    else
    (bif Nat.beq x 2 then [0, 2, 4] else [])))
  else
  (bif Nat.blt x 4 then
   (bif Nat.beq x 3 then [9, 10, 11, 12, 13] else [])
   else
   (bif Nat.blt x 5 then
    (bif Nat.beq x 4 then [0, 2, 4] else [])
    else
    (bif Nat.beq x 5 then [0, 2, 4, 15, 16, 17, 18, 19, 20, 21, 22, 23, 24, 25, 26, 27, 28, 29, 30, 31, 32, 33, 34, 35, 36, 37, 38, 39, 40, 41, 42, 43, 44, 45, 46, 47, 48, 49, 50, 51, 52, 53, 54, 55, 56] else [])))
noncomputable def killT4 (x : Nat) : List Nat := bif Nat.blt x 16 then
  (bif Nat.blt x 7 then
   (bif Nat.blt x 3 then
    (bif Nat.blt x 1 then
     (bif Nat.beq x 0 then [2] else [])
     else
     (bif Nat.blt x 2 then
      (bif Nat.beq x 1 then [17] else [])
      else
      (bif Nat.beq x 2 then [0] else [])))
    else
    (bif Nat.blt x 5 then
     (bif Nat.blt x 4 then
      (bif Nat.beq x 3 then [19, 20] else [])
      else
      (bif Nat.beq x 4 then [21] else []))
     else
     (bif Nat.blt x 6 then
      (bif Nat.beq x 5 then [0] else [])
      else
      (bif Nat.beq x 6 then [0, 23, 24, 25, 26, 27, 28, 29] else []))))
   else
   (bif Nat.blt x 12 then
    (bif Nat.blt x 9 then
     (bif Nat.blt x 8 then
      (bif Nat.beq x 7 then [6, 30] else [])
      else
      (bif Nat.beq x 8 then [3, 4, 5] else []))
     else
     (bif Nat.blt x 11 then
      (bif Nat.beq x 9 then [32] else [])
      else
      (bif Nat.beq x 11 then [33, 34, 35, 36] else [])))
    else
    (bif Nat.blt x 14 then
     (bif Nat.blt x 13 then
      (bif Nat.beq x 12 then [38, 39] else [])
      else
      (bif Nat.beq x 13 then [40, 41, 42] else []))
     else
     (bif Nat.blt x 15 then
      (bif Nat.beq x 14 then [43, 44, 45, 46] else [])
      else
      (bif Nat.beq x 15 then [3, 4, 5, 7, 8, 9] else [])))))
  else
  (bif Nat.blt x 24 then
   (bif Nat.blt x 19 then
    (bif Nat.blt x 17 then
     (bif Nat.beq x 16 then [9, 48, 49, 50, 51, 52] else [])
     else
     (bif Nat.blt x 18 then
      (bif Nat.beq x 17 then [54, 55, 56, 57] else [])
      else
      (bif Nat.beq x 18 then [8, 58, 59, 60, 61, 62, 63, 64] else [])))
    else
    (bif Nat.blt x 21 then
     (bif Nat.blt x 20 then
      (bif Nat.beq x 19 then [7, 65, 66, 67, 68, 69, 70] else [])
      else
      (bif Nat.beq x 20 then [10, 11, 12, 13, 71, 72, 73, 74, 75, 76, 77, 78] else []))
     else
     (bif Nat.blt x 23 then
      (bif Nat.beq x 21 then [3, 4, 5] else [])
      else
      (bif Nat.beq x 23 then [80, 81, 82, 83, 84, 85, 86] else []))))
   else
   (bif Nat.blt x 30 then
    (bif Nat.blt x 27 then
     (bif Nat.blt x 26 then
      (bif Nat.beq x 24 then [15, 88, 89] else [])
      else
      (bif Nat.beq x 26 then [90, 91, 92, 93, 94, 95, 96] else []))
     else
     (bif Nat.blt x 29 then
      (bif Nat.beq x 27 then [98, 99] else [])
      else
      (bif Nat.beq x 29 then [100] else [])))
    else
    (bif Nat.blt x 32 then
     (bif Nat.blt x 31 then
      (bif Nat.beq x 30 then [102, 103, 104, 105] else [])
      else
      (bif Nat.beq x 31 then [16, 106, 107, 108, 109, 110, 111, 112, 113, 114, 115, 116, 117, 118, 119] else []))
     else
     (bif Nat.blt x 33 then
      (bif Nat.beq x 32 then [3, 4, 5, 14, 15] else [])
      else
      (bif Nat.beq x 33 then [3, 4, 5, 14] else [])))))
noncomputable def killT5 (x : Nat) : List Nat := bif Nat.blt x 7 then
  (bif Nat.blt x 3 then
   (bif Nat.blt x 1 then
    (bif Nat.beq x 0 then [4] else [])
    else
    (bif Nat.blt x 2 then
     (bif Nat.beq x 1 then [15] else [])
     else
     (bif Nat.beq x 2 then [0, 1] else [])))
   else
   (bif Nat.blt x 5 then
    (bif Nat.blt x 4 then
     (bif Nat.beq x 3 then [17, 18] else [])
     else
     (bif Nat.beq x 4 then [19, 20, 21, 22, 23, 24] else []))
    else
    (bif Nat.blt x 6 then
     (bif Nat.beq x 5 then [0, 1] else [])
     else
     (bif Nat.beq x 6 then [0, 26, 27, 28, 29, 30, 31, 32] else []))))
  else
  (bif Nat.blt x 10 then
   (bif Nat.blt x 8 then
    (bif Nat.beq x 7 then [8, 33] else [])
    else
    (bif Nat.blt x 9 then
     (bif Nat.beq x 8 then [1, 5, 6, 7] else [])
     else
     (bif Nat.beq x 9 then [1, 7, 35, 36, 37] else [])))
   else
   (bif Nat.blt x 12 then
    (bif Nat.blt x 11 then
     (bif Nat.beq x 10 then [38, 39] else [])
     else
     (bif Nat.beq x 11 then [5, 40, 41, 42, 43, 44, 45] else []))
    else
    (bif Nat.blt x 13 then
     (bif Nat.beq x 12 then [6, 46, 47, 48, 49, 50, 51] else [])
     else
     (bif Nat.beq x 13 then [9, 10, 11, 12, 13, 14, 52, 53, 54, 55, 56, 57, 58, 59, 60, 61, 62, 63, 64] else []))))
noncomputable def killT6 (x : Nat) : List Nat := bif Nat.blt x 12 then
  (bif Nat.blt x 6 then
   (bif Nat.blt x 3 then
    (bif Nat.blt x 1 then
     (bif Nat.beq x 0 then [6] else [])
     else
     (bif Nat.blt x 2 then
      (bif Nat.beq x 1 then [22] else [])
      else
      (bif Nat.beq x 2 then [0, 1, 2] else [])))
    else
    (bif Nat.blt x 4 then
     (bif Nat.beq x 3 then [24, 25] else [])
     else
     (bif Nat.blt x 5 then
      (bif Nat.beq x 4 then [26] else [])
      else
      (bif Nat.beq x 5 then [0, 1, 2] else []))))
   else
   (bif Nat.blt x 9 then
    (bif Nat.blt x 7 then
     (bif Nat.beq x 6 then [8, 28, 29, 30, 31, 32, 33, 34] else [])
     else
     (bif Nat.blt x 8 then
      (bif Nat.beq x 7 then [0, 12, 13, 35, 36, 37, 38, 39, 40, 41] else [])
      else
      (bif Nat.beq x 8 then [10, 14, 42, 43, 44, 45, 46] else [])))
    else
    (bif Nat.blt x 10 then
     (bif Nat.beq x 9 then [1, 2, 7, 9, 11] else [])
     else
     (bif Nat.blt x 11 then
      (bif Nat.beq x 10 then [48, 49, 50, 51, 52, 53, 54, 55, 56, 57, 58, 59, 60, 61, 62, 63, 64] else [])
      else
      (bif Nat.beq x 11 then [1, 2, 7, 9, 11] else [])))))
  else
  (bif Nat.blt x 18 then
   (bif Nat.blt x 15 then
    (bif Nat.blt x 13 then
     (bif Nat.beq x 12 then [1, 66, 67, 68, 69] else [])
     else
     (bif Nat.blt x 14 then
      (bif Nat.beq x 13 then [2, 9, 70, 71, 72, 73] else [])
      else
      (bif Nat.beq x 14 then [74, 75, 76, 77] else [])))
    else
    (bif Nat.blt x 16 then
     (bif Nat.beq x 15 then [78, 79, 80, 81, 82, 83, 84, 85, 86, 87, 88, 89, 90, 91, 92, 93, 94] else [])
     else
     (bif Nat.blt x 17 then
      (bif Nat.beq x 16 then [7, 11, 15, 16, 17] else [])
      else
      (bif Nat.beq x 17 then [96, 97, 98, 99, 100, 101, 102, 103, 104, 105, 106, 107, 108, 109, 110, 111, 112, 113] else []))))
   else
   (bif Nat.blt x 21 then
    (bif Nat.blt x 19 then
     (bif Nat.beq x 18 then [7, 11, 15, 16, 17, 115, 116, 117, 118, 119, 120, 121] else [])
     else
     (bif Nat.blt x 20 then
      (bif Nat.beq x 19 then [122, 123, 124, 125, 126, 127, 128, 129] else [])
      else
      (bif Nat.beq x 20 then [11, 130, 131, 132, 133, 134, 135, 136, 137] else [])))
    else
    (bif Nat.blt x 22 then
     (bif Nat.beq x 21 then [19, 20, 21, 138, 139, 140, 141, 142, 143, 144, 145, 146, 147, 148] else [])
     else
     (bif Nat.blt x 23 then
      (bif Nat.beq x 22 then [7, 15, 16, 17, 18] else [])
      else
      (bif Nat.beq x 23 then [7, 15, 16, 17, 18, 150, 151, 152, 153, 154, 155, 156, 157, 158, 159, 160, 161, 162, 163, 164, 165, 166, 167, 168, 169, 170, 171, 172, 173, 174, 175, 176] else [])))))
noncomputable def killT7 (x : Nat) : List Nat := bif Nat.blt x 15 then
  (bif Nat.blt x 6 then
   (bif Nat.blt x 3 then
    (bif Nat.blt x 1 then
     (bif Nat.beq x 0 then [2] else [])
     else
     (bif Nat.blt x 2 then
      (bif Nat.beq x 1 then [14] else [])
      else
      (bif Nat.beq x 2 then [0] else [])))
    else
    (bif Nat.blt x 4 then
     (bif Nat.beq x 3 then [16, 17, 18, 19, 20] else [])
     else
     (bif Nat.blt x 5 then
      (bif Nat.beq x 4 then [0] else [])
      else
      (bif Nat.beq x 5 then [22] else []))))
   else
   (bif Nat.blt x 9 then
    (bif Nat.blt x 7 then
     (bif Nat.beq x 6 then [23] else [])
     else
     (bif Nat.blt x 8 then
      (bif Nat.beq x 7 then [0, 3] else [])
      else
      (bif Nat.beq x 8 then [25, 26] else [])))
    else
    (bif Nat.blt x 13 then
     (bif Nat.blt x 12 then
      (bif Nat.beq x 9 then [27, 28] else [])
      else
      (bif Nat.beq x 12 then [29, 30] else []))
     else
     (bif Nat.blt x 14 then
      (bif Nat.beq x 13 then [32, 33] else [])
      else
      (bif Nat.beq x 14 then [4, 34, 35, 36, 37, 38, 39, 40, 41] else [])))))
  else
  (bif Nat.blt x 21 then
   (bif Nat.blt x 18 then
    (bif Nat.blt x 16 then
     (bif Nat.beq x 15 then [5, 42, 43, 44, 45, 46, 47, 48, 49] else [])
     else
     (bif Nat.blt x 17 then
      (bif Nat.beq x 16 then [9, 11, 50, 51, 52, 53, 54] else [])
      else
      (bif Nat.beq x 17 then [0, 3, 6, 7, 8, 10] else [])))
    else
    (bif Nat.blt x 19 then
     (bif Nat.beq x 18 then [8, 56] else [])
     else
     (bif Nat.blt x 20 then
      (bif Nat.beq x 19 then [10, 57] else [])
      else
      (bif Nat.beq x 20 then [58, 59, 60] else []))))
   else
   (bif Nat.blt x 25 then
    (bif Nat.blt x 23 then
     (bif Nat.beq x 21 then [61] else [])
     else
     (bif Nat.blt x 24 then
      (bif Nat.beq x 23 then [63, 64, 65, 66] else [])
      else
      (bif Nat.beq x 24 then [0, 3, 4, 5, 6, 7] else [])))
    else
    (bif Nat.blt x 27 then
     (bif Nat.blt x 26 then
      (bif Nat.beq x 25 then [0, 7, 68, 69, 70, 71, 72, 73, 74, 75, 76, 77, 78, 79, 80, 81] else [])
      else
      (bif Nat.beq x 26 then [3, 4, 5, 6] else []))
     else
     (bif Nat.blt x 28 then
      (bif Nat.beq x 27 then [83, 84, 85, 86, 87, 88, 89] else [])
      else
      (bif Nat.beq x 28 then [3, 4, 5, 6, 12, 13, 90, 91, 92, 93, 94, 95, 96, 97, 98, 99, 100, 101, 102, 103, 104, 105, 106, 107, 108] else [])))))
noncomputable def killT8 (x : Nat) : List Nat := bif Nat.blt x 8 then
  (bif Nat.blt x 4 then
   (bif Nat.blt x 2 then
    (bif Nat.blt x 1 then
     (bif Nat.beq x 0 then [8] else [])
     else
     (bif Nat.beq x 1 then [14] else []))
    else
    (bif Nat.blt x 3 then
     (bif Nat.beq x 2 then [0, 1, 2, 3] else [])
     else
     (bif Nat.beq x 3 then [16, 17] else [])))
   else
   (bif Nat.blt x 6 then
    (bif Nat.blt x 5 then
     (bif Nat.beq x 4 then [18] else [])
     else
     (bif Nat.beq x 5 then [0, 1, 2, 3] else []))
    else
    (bif Nat.blt x 7 then
     (bif Nat.beq x 6 then [0, 10, 20, 21, 22, 23, 24, 25, 26] else [])
     else
     (bif Nat.beq x 7 then [12, 27] else []))))
  else
  (bif Nat.blt x 12 then
   (bif Nat.blt x 10 then
    (bif Nat.blt x 9 then
     (bif Nat.beq x 8 then [1, 2, 3, 9, 11] else [])
     else
     (bif Nat.beq x 9 then [29, 30, 31, 32, 33, 34, 35, 36, 37, 38, 39, 40, 41, 42, 43, 44, 45, 46, 47, 48, 49, 50, 51, 52, 53, 54, 55] else []))
    else
    (bif Nat.blt x 11 then
     (bif Nat.beq x 10 then [1, 2, 3, 9, 11] else [])
     else
     (bif Nat.beq x 11 then [57, 58, 59, 60, 61, 62, 63, 64, 65, 66] else [])))
   else
   (bif Nat.blt x 14 then
    (bif Nat.blt x 13 then
     (bif Nat.beq x 12 then [1, 2, 3, 9, 11] else [])
     else
     (bif Nat.beq x 13 then [68, 69, 70, 71, 72, 73, 74, 75, 76, 77] else []))
    else
    (bif Nat.blt x 15 then
     (bif Nat.beq x 14 then [2, 78, 79, 80, 81, 82, 83, 84, 85, 86, 87, 88, 89, 90, 91, 92, 93, 94, 95, 96, 97, 98, 99, 100] else [])
     else
     (bif Nat.blt x 16 then
      (bif Nat.beq x 15 then [1, 3, 9, 11, 13] else [])
      else
      (bif Nat.beq x 16 then [1, 3, 9, 11, 13, 102, 103, 104, 105, 106, 107, 108, 109, 110, 111, 112, 113, 114, 115] else [])))))
noncomputable def killT9 (x : Nat) : List Nat := bif Nat.blt x 14 then
  (bif Nat.blt x 6 then
   (bif Nat.blt x 3 then
    (bif Nat.blt x 1 then
     (bif Nat.beq x 0 then [6] else [])
     else
     (bif Nat.blt x 2 then
      (bif Nat.beq x 1 then [26] else [])
      else
      (bif Nat.beq x 2 then [0, 1, 2] else [])))
    else
    (bif Nat.blt x 4 then
     (bif Nat.beq x 3 then [28, 29] else [])
     else
     (bif Nat.blt x 5 then
      (bif Nat.beq x 4 then [30, 31, 32, 33, 34, 35] else [])
      else
      (bif Nat.beq x 5 then [0, 1, 2] else []))))
   else
   (bif Nat.blt x 9 then
    (bif Nat.blt x 7 then
     (bif Nat.beq x 6 then [0, 37, 38, 39, 40, 41, 42, 43] else [])
     else
     (bif Nat.blt x 8 then
      (bif Nat.beq x 7 then [10, 44] else [])
      else
      (bif Nat.beq x 8 then [1, 2, 7, 8, 9] else [])))
    else
    (bif Nat.blt x 11 then
     (bif Nat.blt x 10 then
      (bif Nat.beq x 9 then [1, 46, 47, 48, 49, 50, 51] else [])
      else
      (bif Nat.beq x 10 then [2, 9, 52, 53, 54] else []))
     else
     (bif Nat.blt x 13 then
      (bif Nat.beq x 11 then [55] else [])
      else
      (bif Nat.beq x 13 then [56, 57, 58, 59] else [])))))
  else
  (bif Nat.blt x 21 then
   (bif Nat.blt x 17 then
    (bif Nat.blt x 15 then
     (bif Nat.beq x 14 then [61, 62] else [])
     else
     (bif Nat.blt x 16 then
      (bif Nat.beq x 15 then [63, 64, 65] else [])
      else
      (bif Nat.beq x 16 then [67, 68, 69, 70] else [])))
    else
    (bif Nat.blt x 19 then
     (bif Nat.blt x 18 then
      (bif Nat.beq x 17 then [14, 16, 71, 72, 73, 74, 75, 76] else [])
      else
      (bif Nat.beq x 18 then [77, 78, 79, 80, 81, 82, 83, 84] else []))
     else
     (bif Nat.blt x 20 then
      (bif Nat.beq x 19 then [8, 11, 12, 85, 86, 87, 88, 89, 90, 91, 92] else [])
      else
      (bif Nat.beq x 20 then [93, 94, 95, 96, 97, 98] else []))))
   else
   (bif Nat.blt x 24 then
    (bif Nat.blt x 22 then
     (bif Nat.beq x 21 then [7, 13, 15, 17, 18, 19, 20, 21, 100, 101, 102, 103, 104, 105, 106] else [])
     else
     (bif Nat.blt x 23 then
      (bif Nat.beq x 22 then [18, 21, 23, 107, 108, 109, 110, 111, 112] else [])
      else
      (bif Nat.beq x 23 then [15, 22, 113, 114, 115] else [])))
    else
    (bif Nat.blt x 26 then
     (bif Nat.blt x 25 then
      (bif Nat.beq x 24 then [7, 13, 17, 19, 20] else [])
      else
      (bif Nat.beq x 25 then [7, 17, 117, 118, 119, 120, 121, 122, 123, 124, 125, 126] else []))
     else
     (bif Nat.blt x 27 then
      (bif Nat.beq x 26 then [13, 19, 20, 127, 128, 129, 130, 131, 132, 133, 134, 135, 136] else [])
      else
      (bif Nat.beq x 27 then [18, 21, 24, 25, 137, 138, 139, 140, 141, 142, 143, 144] else [])))))
noncomputable def killT10 (x : Nat) : List Nat := bif Nat.blt x 1 then
  (bif Nat.beq x 0 then [0] else [])
  else
  (bif Nat.beq x 1 then [1, 2, 3, 4, 5, 6, 7] else [])
noncomputable def killT11 (x : Nat) : List Nat := bif Nat.blt x 2 then
  (bif Nat.blt x 1 then
   (bif Nat.beq x 0 then [1, 4] else [])
   else
   (bif Nat.beq x 1 then [5, 6, 7, 8, 9, 10, 11, 12, 13, 14, 15, 16, 17, 18, 19, 20] else []))
  else
  (bif Nat.blt x 3 then
   (bif Nat.beq x 2 then [0, 3] else [])
   else
   (bif Nat.beq x 3 then [0, 3, 22, 23, 24, 25, 26, 27] else []))
noncomputable def killT12 (x : Nat) : List Nat := bif Nat.blt x 2 then
  (bif Nat.blt x 1 then
   (bif Nat.beq x 0 then [1, 4] else [])
   else
   (bif Nat.beq x 1 then [5, 6, 7, 8, 9, 10, 11, 12, 13, 14, 15, 16, 17, 18, 19, 20] else []))
  else
  (bif Nat.blt x 3 then
   (bif Nat.beq x 2 then [0, 3] else [])
   else
   (bif Nat.beq x 3 then [0, 3, 22, 23, 24, 25, 26, 27] else []))
noncomputable def killT13 (x : Nat) : List Nat := bif Nat.blt x 1 then
  (bif Nat.beq x 0 then [1, 6] else [])
  else
  (bif Nat.beq x 1 then [0, 2, 4, 7, 8, 9, 10, 11, 12, 13, 14, 15, 16, 17, 18, 19, 20, 21] else [])
noncomputable def killT14 (x : Nat) : List Nat := bif Nat.blt x 1 then
  (bif Nat.beq x 0 then [1, 6] else [])
  else
  (bif Nat.beq x 1 then [0, 2, 4, 7, 8, 9, 10, 11, 12, 13, 14, 15, 16, 17, 18, 19, 20, 21] else [])
noncomputable def killT15 (x : Nat) : List Nat := bif Nat.blt x 3 then
  (bif Nat.blt x 1 then
   (bif Nat.beq x 0 then [2] else [])
   else
   (bif Nat.blt x 2 then
    (bif Nat.beq x 1 then [5, 6, 7, 8, 9] else [])
    else
    (bif Nat.beq x 2 then [0] else [])))
  else
  (bif Nat.blt x 5 then
   (bif Nat.blt x 4 then
    (bif Nat.beq x 3 then [11, 12, 13, 14, 15] else [])
    else
    (bif Nat.beq x 4 then [0, 4, 16, 17, 18] else []))
   else
   (bif Nat.blt x 6 then
    (bif Nat.beq x 5 then [3] else [])
    else
    (bif Nat.beq x 6 then [3, 20] else [])))
noncomputable def killT16 (x : Nat) : List Nat := bif Nat.blt x 2 then
  (bif Nat.blt x 1 then
   (bif Nat.beq x 0 then [2] else [])
   else
   (bif Nat.beq x 1 then [4, 5] else []))
  else
  (bif Nat.blt x 3 then
   (bif Nat.beq x 2 then [0, 6, 7, 8, 9, 10, 11, 12, 13, 14, 15, 16, 17, 18, 19, 20, 21, 22, 23, 24, 25, 26, 27, 28, 29, 30] else [])
   else
   (bif Nat.blt x 4 then
    (bif Nat.beq x 3 then [3] else [])
    else
    (bif Nat.beq x 4 then [3, 32, 33, 34, 35] else [])))
noncomputable def killT17 (x : Nat) : List Nat := bif Nat.blt x 7 then
  (bif Nat.blt x 3 then
   (bif Nat.blt x 1 then
    (bif Nat.beq x 0 then [0] else [])
    else
    (bif Nat.blt x 2 then
     (bif Nat.beq x 1 then [13] else [])
     else
     (bif Nat.beq x 2 then [14] else [])))
   else
   (bif Nat.blt x 5 then
    (bif Nat.blt x 4 then
     (bif Nat.beq x 3 then [1] else [])
     else
     (bif Nat.beq x 4 then [16, 17] else []))
    else
    (bif Nat.blt x 6 then
     (bif Nat.beq x 5 then [18, 19] else [])
     else
     (bif Nat.beq x 6 then [20, 21, 22, 23, 24] else []))))
  else
  (bif Nat.blt x 10 then
   (bif Nat.blt x 8 then
    (bif Nat.beq x 7 then [25, 26, 27, 28, 29, 30, 31] else [])
    else
    (bif Nat.blt x 9 then
     (bif Nat.beq x 8 then [32, 33, 34, 35, 36, 37, 38] else [])
     else
     (bif Nat.beq x 9 then [39, 40, 41, 42, 43, 44, 45] else [])))
   else
   (bif Nat.blt x 12 then
    (bif Nat.blt x 11 then
     (bif Nat.beq x 10 then [2, 5, 7, 8, 9, 11, 46, 47, 48, 49, 50, 51, 52, 53, 54, 55, 56, 57, 58, 59, 60, 61, 62, 63, 64, 65, 66, 67, 68, 69, 70, 71, 72] else [])
     else
     (bif Nat.beq x 11 then [1, 3, 4, 6, 10] else []))
    else
    (bif Nat.blt x 13 then
     (bif Nat.beq x 12 then [74, 75, 76, 77, 78, 79, 80, 81] else [])
     else
     (bif Nat.beq x 13 then [1, 3, 4, 5, 6, 10, 12, 82, 83, 84, 85, 86, 87, 88, 89, 90, 91, 92, 93, 94, 95, 96, 97, 98, 99, 100, 101, 102, 103, 104, 105, 106, 107, 108, 109, 110, 111, 112, 113, 114, 115, 116, 117, 118, 119, 120, 121, 122, 123, 124, 125, 126] else []))))
noncomputable def killT18 (x : Nat) : List Nat := bif Nat.blt x 2 then
  (bif Nat.blt x 1 then
   (bif Nat.beq x 0 then [2] else [])
   else
   (bif Nat.beq x 1 then [3, 4] else []))
  else
  (bif Nat.blt x 3 then
   (bif Nat.beq x 2 then [0, 6, 7] else [])
   else
   (bif Nat.beq x 3 then [0, 8] else []))
noncomputable def killT19 (x : Nat) : List Nat := bif Nat.blt x 4 then
  (bif Nat.blt x 3 then
   (bif Nat.beq x 0 then [2] else [])
   else
   (bif Nat.beq x 3 then [5, 6, 7] else []))
  else
  (bif Nat.blt x 5 then
   (bif Nat.beq x 4 then [9, 10] else [])
   else
   (bif Nat.blt x 6 then
    (bif Nat.beq x 5 then [11, 12, 13, 14, 15, 16, 17, 18, 19, 20, 21, 22, 23, 24, 25, 26] else [])
    else
    (bif Nat.beq x 6 then [0, 3, 4, 27, 28] else [])))
noncomputable def killT20 (x : Nat) : List Nat := bif Nat.blt x 21 then
  (bif Nat.blt x 9 then
   (bif Nat.blt x 4 then
    (bif Nat.blt x 2 then
     (bif Nat.blt x 1 then
      (bif Nat.beq x 0 then [2, 4, 5] else [])
      else
      (bif Nat.beq x 1 then [18] else []))
     else
     (bif Nat.blt x 3 then
      (bif Nat.beq x 2 then [19] else [])
      else
      (bif Nat.beq x 3 then [20] else [])))
    else
    (bif Nat.blt x 7 then
     (bif Nat.blt x 5 then
      (bif Nat.beq x 4 then [21] else [])
      else
      (bif Nat.beq x 5 then [0, 6, 7, 8, 23, 24, 25] else []))
     else
     (bif Nat.blt x 8 then
      (bif Nat.beq x 7 then [26, 27, 28] else [])
      else
      (bif Nat.beq x 8 then [10, 12, 13, 14, 15, 30, 31] else []))))
   else
   (bif Nat.blt x 17 then
    (bif Nat.blt x 11 then
     (bif Nat.blt x 10 then
      (bif Nat.beq x 9 then [32, 33, 34, 35] else [])
      else
      (bif Nat.beq x 10 then [36, 37, 38, 39] else []))
     else
     (bif Nat.blt x 16 then
      (bif Nat.beq x 11 then [40, 41, 42, 43, 44] else [])
      else
      (bif Nat.beq x 16 then [45] else [])))
    else
    (bif Nat.blt x 19 then
     (bif Nat.blt x 18 then
      (bif Nat.beq x 17 then [48] else [])
      else
      (bif Nat.beq x 18 then [11, 12, 13, 15, 46, 49, 50] else []))
     else
     (bif Nat.blt x 20 then
      (bif Nat.beq x 19 then [51, 52, 53, 54, 55] else [])
      else
      (bif Nat.beq x 20 then [16, 17, 57] else [])))))
  else
  (bif Nat.blt x 29 then
   (bif Nat.blt x 25 then
    (bif Nat.blt x 23 then
     (bif Nat.blt x 22 then
      (bif Nat.beq x 21 then [12, 13, 15, 46, 58, 59, 60, 61, 62, 63, 64, 65, 66] else [])
      else
      (bif Nat.beq x 22 then [11, 67, 68, 69, 70, 71, 72, 73, 74, 75] else []))
     else
     (bif Nat.blt x 24 then
      (bif Nat.beq x 23 then [77] else [])
      else
      (bif Nat.beq x 24 then [12, 13, 15, 46, 78, 79, 80, 81, 82, 83, 84] else [])))
    else
    (bif Nat.blt x 27 then
     (bif Nat.blt x 26 then
      (bif Nat.beq x 25 then [11, 85, 86, 87, 88, 89, 90, 91] else [])
      else
      (bif Nat.beq x 26 then [11, 93] else []))
     else
     (bif Nat.blt x 28 then
      (bif Nat.beq x 27 then [15, 46, 94, 95, 96, 97, 98, 99, 100] else [])
      else
      (bif Nat.beq x 28 then [12, 13, 101, 102, 103, 104, 105, 106, 107, 108, 109] else []))))
   else
   (bif Nat.blt x 33 then
    (bif Nat.blt x 31 then
     (bif Nat.blt x 30 then
      (bif Nat.beq x 29 then [46, 111] else [])
      else
      (bif Nat.beq x 30 then [112, 113, 114, 115] else []))
     else
     (bif Nat.blt x 32 then
      (bif Nat.beq x 31 then [12, 13, 116, 117, 118, 119, 120, 121, 122] else [])
      else
      (bif Nat.beq x 32 then [15, 17, 123, 124, 125, 126, 127, 128, 129, 130, 131, 132, 133, 134, 135, 136, 137] else [])))
    else
    (bif Nat.blt x 35 then
     (bif Nat.blt x 34 then
      (bif Nat.beq x 33 then [0, 6, 7, 8, 9, 10, 14, 16, 139, 140, 141] else [])
      else
      (bif Nat.beq x 34 then [10, 16, 142, 143, 144, 145, 146, 147] else []))
     else
     (bif Nat.blt x 36 then
      (bif Nat.beq x 35 then [14, 149, 150, 151, 152] else [])
      else
      (bif Nat.beq x 36 then [0, 6, 7, 8, 9, 153, 154, 155] else [])))))
noncomputable def killT21 (x : Nat) : List Nat := bif Nat.blt x 2 then
  (bif Nat.blt x 1 then
   (bif Nat.beq x 0 then [4] else [])
   else
   (bif Nat.beq x 1 then [5, 6, 7, 8] else []))
  else
  (bif Nat.blt x 3 then
   (bif Nat.beq x 2 then [0, 1] else [])
   else
   (bif Nat.beq x 3 then [0, 1, 10, 11, 12, 13] else []))
noncomputable def killT22 (x : Nat) : List Nat := bif Nat.blt x 2 then
  (bif Nat.blt x 1 then
   (bif Nat.beq x 0 then [0, 4] else [])
   else
   (bif Nat.beq x 1 then [5, 6, 7] else []))
  else
  (bif Nat.blt x 3 then
   (bif Nat.beq x 2 then [1, 2] else [])
   else
   (bif Nat.beq x 3 then [1, 2, 9, 10, 11, 12, 13, 14, 15] else []))
noncomputable def killT23 (x : Nat) : List Nat := bif Nat.blt x 7 then
  (bif Nat.blt x 2 then
   (bif Nat.blt x 1 then
    (bif Nat.beq x 0 then [4, 5] else [])
    else
    (bif Nat.beq x 1 then [11, 12, 13] else []))
   else
   (bif Nat.blt x 3 then
    (bif Nat.beq x 2 then [0, 1] else [])
    else
    (bif Nat.blt x 5 then
     (bif Nat.beq x 3 then [15, 16] else [])
     else
     (bif Nat.beq x 5 then [1] else []))))
  else
  (bif Nat.blt x 10 then
   (bif Nat.blt x 8 then
    (bif Nat.beq x 7 then [21, 22] else [])
    else
    (bif Nat.blt x 9 then
     (bif Nat.beq x 8 then [23, 24, 25, 26] else [])
     else
     (bif Nat.beq x 9 then [0, 6, 7, 8, 10, 17, 18, 19] else [])))
   else
   (bif Nat.blt x 11 then
    (bif Nat.beq x 10 then [10, 28, 29, 30, 31, 32, 33, 34] else [])
    else
    (bif Nat.blt x 12 then
     (bif Nat.beq x 11 then [35] else [])
     else
     (bif Nat.beq x 12 then [0, 6, 7, 8, 17, 18, 19, 36] else []))))
noncomputable def killT24 (x : Nat) : List Nat := bif Nat.blt x 2 then
  (bif Nat.blt x 1 then
   (bif Nat.beq x 0 then [2] else [])
   else
   (bif Nat.beq x 1 then [4] else []))
  else
  (bif Nat.blt x 3 then
   (bif Nat.beq x 2 then [0, 5, 6, 7] else [])
   else
   (bif Nat.beq x 3 then [3, 8] else []))
noncomputable def killT25 (x : Nat) : List Nat := bif Nat.blt x 14 then
  (bif Nat.blt x 7 then
   (bif Nat.blt x 4 then
    (bif Nat.blt x 2 then
     (bif Nat.beq x 0 then [0, 4, 5] else [])
     else
     (bif Nat.blt x 3 then
      (bif Nat.beq x 2 then [16, 17, 18] else [])
      else
      (bif Nat.beq x 3 then [20, 21] else [])))
    else
    (bif Nat.blt x 5 then
     (bif Nat.beq x 4 then [22, 23, 24, 25, 26, 27] else [])
     else
     (bif Nat.blt x 6 then
      (bif Nat.beq x 5 then [1, 2, 6] else [])
      else
      (bif Nat.beq x 6 then [6, 29, 30, 31, 32] else []))))
   else
   (bif Nat.blt x 11 then
    (bif Nat.blt x 8 then
     (bif Nat.beq x 7 then [33] else [])
     else
     (bif Nat.blt x 10 then
      (bif Nat.beq x 8 then [34] else [])
      else
      (bif Nat.beq x 10 then [35, 36, 37] else [])))
    else
    (bif Nat.blt x 12 then
     (bif Nat.beq x 11 then [39, 40] else [])
     else
     (bif Nat.blt x 13 then
      (bif Nat.beq x 12 then [41, 42, 43, 44, 45, 46, 47] else [])
      else
      (bif Nat.beq x 13 then [1, 2, 7, 8, 9, 10] else [])))))
  else
  (bif Nat.blt x 21 then
   (bif Nat.blt x 17 then
    (bif Nat.blt x 15 then
     (bif Nat.beq x 14 then [49, 50, 51, 52, 53, 54] else [])
     else
     (bif Nat.blt x 16 then
      (bif Nat.beq x 15 then [55, 56, 57] else [])
      else
      (bif Nat.beq x 16 then [11, 58, 59, 60, 61] else [])))
    else
    (bif Nat.blt x 19 then
     (bif Nat.beq x 17 then [1, 2, 7, 10, 62, 63, 64, 65] else [])
     else
     (bif Nat.blt x 20 then
      (bif Nat.beq x 19 then [66, 67, 68] else [])
      else
      (bif Nat.beq x 20 then [70, 71] else []))))
   else
   (bif Nat.blt x 25 then
    (bif Nat.blt x 22 then
     (bif Nat.beq x 21 then [72, 73, 74, 75, 76, 77, 78] else [])
     else
     (bif Nat.blt x 24 then
      (bif Nat.beq x 22 then [8, 13, 79] else [])
      else
      (bif Nat.beq x 24 then [80, 81, 82] else [])))
    else
    (bif Nat.blt x 26 then
     (bif Nat.beq x 25 then [84, 85] else [])
     else
     (bif Nat.blt x 27 then
      (bif Nat.beq x 26 then [86, 87, 88, 89, 90, 91, 92, 93, 94] else [])
      else
      (bif Nat.beq x 27 then [9, 12, 14, 15, 95] else [])))))
noncomputable def killT26 (x : Nat) : List Nat := bif Nat.blt x 5 then
  (bif Nat.blt x 2 then
   (bif Nat.blt x 1 then
    (bif Nat.beq x 0 then [4] else [])
    else
    (bif Nat.beq x 1 then [6, 7, 8, 9] else []))
   else
   (bif Nat.blt x 4 then
    (bif Nat.beq x 2 then [0, 1] else [])
    else
    (bif Nat.beq x 4 then [11, 12, 13] else [])))
  else
  (bif Nat.blt x 7 then
   (bif Nat.blt x 6 then
    (bif Nat.beq x 5 then [15, 16] else [])
    else
    (bif Nat.beq x 6 then [17, 18, 19, 20, 21, 22, 23, 24, 25] else []))
   else
   (bif Nat.blt x 8 then
    (bif Nat.beq x 7 then [0, 1, 5] else [])
    else
    (bif Nat.beq x 8 then [0, 1, 5] else [])))
noncomputable def killT27 (x : Nat) : List Nat := bif Nat.blt x 3 then
  (bif Nat.blt x 1 then
   (bif Nat.beq x 0 then [6] else [])
   else
   (bif Nat.blt x 2 then
    (bif Nat.beq x 1 then [8, 9, 10, 11, 12] else [])
    else
    (bif Nat.beq x 2 then [0, 1, 2] else [])))
  else
  (bif Nat.blt x 5 then
   (bif Nat.blt x 4 then
    (bif Nat.beq x 3 then [14, 15, 16] else [])
    else
    (bif Nat.beq x 4 then [1, 2, 17, 18, 19, 20] else []))
   else
   (bif Nat.blt x 6 then
    (bif Nat.beq x 5 then [0, 21, 22] else [])
    else
    (bif Nat.beq x 6 then [7, 23] else [])))
noncomputable def killT28 (x : Nat) : List Nat := bif Nat.blt x 5 then
  (bif Nat.blt x 2 then
   (bif Nat.blt x 1 then
    (bif Nat.beq x 0 then [0, 6] else [])
    else
    (bif Nat.beq x 1 then [10, 11, 12, 13, 14, 15, 16, 17, 18] else []))
   else
   (bif Nat.blt x 3 then
    (bif Nat.beq x 2 then [1, 2, 3] else [])
    else
    (bif Nat.blt x 4 then
     (bif Nat.beq x 3 then [1, 2, 20, 21, 22, 23, 24, 25, 26] else [])
     else
     (bif Nat.beq x 4 then [8, 27] else []))))
  else
  (bif Nat.blt x 9 then
   (bif Nat.blt x 7 then
    (bif Nat.beq x 5 then [3, 7] else [])
    else
    (bif Nat.blt x 8 then
     (bif Nat.beq x 7 then [29, 30, 31, 32] else [])
     else
     (bif Nat.beq x 8 then [34, 35] else [])))
   else
   (bif Nat.blt x 10 then
    (bif Nat.beq x 9 then [36, 37, 38, 39, 40, 41, 42, 43, 44, 45, 46, 47, 48, 49, 50, 51, 52, 53, 54, 55, 56, 57, 58, 59] else [])
    else
    (bif Nat.blt x 11 then
     (bif Nat.beq x 10 then [3, 7, 9] else [])
     else
     (bif Nat.beq x 11 then [3, 7, 9] else []))))
noncomputable def killT29 (x : Nat) : List Nat := bif Nat.blt x 5 then
  (bif Nat.blt x 3 then
   (bif Nat.blt x 1 then
    (bif Nat.beq x 0 then [4] else [])
    else
    (bif Nat.beq x 1 then [7] else []))
   else
   (bif Nat.blt x 4 then
    (bif Nat.beq x 3 then [8, 9, 10] else [])
    else
    (bif Nat.beq x 4 then [12, 13] else [])))
  else
  (bif Nat.blt x 7 then
   (bif Nat.blt x 6 then
    (bif Nat.beq x 5 then [14, 15, 16, 17, 18, 19, 20, 21, 22, 23, 24, 25, 26] else [])
    else
    (bif Nat.beq x 6 then [28, 29, 30, 31, 32, 33, 34, 35, 36, 37] else []))
   else
   (bif Nat.blt x 8 then
    (bif Nat.beq x 7 then [38, 39, 40, 41, 42, 43, 44] else [])
    else
    (bif Nat.beq x 8 then [0, 1, 5, 6, 45] else [])))
noncomputable def killT30 (x : Nat) : List Nat := bif Nat.blt x 5 then
  (bif Nat.blt x 2 then
   (bif Nat.blt x 1 then
    (bif Nat.beq x 0 then [4] else [])
    else
    (bif Nat.beq x 1 then [6, 7, 8, 9] else []))
   else
   (bif Nat.blt x 4 then
    (bif Nat.beq x 2 then [0, 1] else [])
    else
    (bif Nat.beq x 4 then [11, 12, 13] else [])))
  else
  (bif Nat.blt x 7 then
   (bif Nat.blt x 6 then
    (bif Nat.beq x 5 then [15, 16] else [])
    else
    (bif Nat.beq x 6 then [17, 18, 19, 20, 21, 22, 23, 24] else []))
   else
   (bif Nat.blt x 8 then
    (bif Nat.beq x 7 then [0, 1, 5] else [])
    else
    (bif Nat.beq x 8 then [0, 1, 5] else [])))
noncomputable def killT31 (x : Nat) : List Nat := bif Nat.blt x 6 then
  (bif Nat.blt x 2 then
   (bif Nat.blt x 1 then
    (bif Nat.beq x 0 then [6] else [])
    else
    (bif Nat.beq x 1 then [8, 9, 10, 11, 12] else []))
   else
   (bif Nat.blt x 3 then
    (bif Nat.beq x 2 then [0, 1, 2] else [])
    else
    (bif Nat.blt x 5 then
     (bif Nat.beq x 3 then [14, 15, 16] else [])
     else
     (bif Nat.beq x 5 then [2, 18, 19, 20, 21, 22] else []))))
  else
  (bif Nat.blt x 9 then
   (bif Nat.blt x 7 then
    (bif Nat.beq x 6 then [1] else [])
    else
    (bif Nat.beq x 7 then [1, 24, 25, 26, 27] else []))
   else
   (bif Nat.blt x 10 then
    (bif Nat.beq x 9 then [28] else [])
    else
    (bif Nat.blt x 11 then
     (bif Nat.beq x 10 then [0, 30, 31] else [])
     else
     (bif Nat.beq x 11 then [0, 7, 32] else []))))
noncomputable def killT32 (x : Nat) : List Nat := bif Nat.blt x 5 then
  (bif Nat.blt x 2 then
   (bif Nat.blt x 1 then
    (bif Nat.beq x 0 then [0, 1, 4] else [])
    else
    (bif Nat.beq x 1 then [6, 7, 8, 9, 10, 11, 12, 13, 14, 15, 16, 17, 18, 19, 20, 21, 22, 23, 24, 25, 26, 27, 28, 29, 30, 31, 32] else []))
   else
   (bif Nat.blt x 4 then
    (bif Nat.beq x 2 then [2, 3] else [])
    else
    (bif Nat.beq x 4 then [34, 35, 36, 37] else [])))
  else
  (bif Nat.blt x 7 then
   (bif Nat.blt x 6 then
    (bif Nat.beq x 5 then [39, 40] else [])
    else
    (bif Nat.beq x 6 then [41, 42, 43, 44, 45, 46, 47, 48, 49, 50, 51] else []))
   else
   (bif Nat.blt x 8 then
    (bif Nat.beq x 7 then [2, 3, 5] else [])
    else
    (bif Nat.beq x 8 then [2, 3, 5] else [])))
noncomputable def killT33 (x : Nat) : List Nat := bif Nat.blt x 1 then
  (bif Nat.beq x 0 then [0] else [])
  else
  (bif Nat.beq x 1 then [1, 2] else [])
noncomputable def killT34 (x : Nat) : List Nat := bif Nat.blt x 1 then
  (bif Nat.beq x 0 then [2] else [])
  else
  (bif Nat.beq x 1 then [0, 3, 4] else [])
noncomputable def killT35 (x : Nat) : List Nat := bif Nat.blt x 3 then
  (bif Nat.blt x 1 then
   (bif Nat.beq x 0 then [4, 5] else [])
   else
   (bif Nat.blt x 2 then
    (bif Nat.beq x 1 then [7, 8, 9, 10] else [])
    else
    (bif Nat.beq x 2 then [0, 1] else [])))
  else
  (bif Nat.blt x 4 then
   (bif Nat.beq x 3 then [12, 13, 14] else [])
   else
   (bif Nat.blt x 5 then
    (bif Nat.beq x 4 then [0, 1] else [])
    else
    (bif Nat.beq x 5 then [0, 1, 15, 16, 17] else [])))
noncomputable def killT36 (x : Nat) : List Nat := bif Nat.blt x 4 then
  (bif Nat.blt x 2 then
   (bif Nat.blt x 1 then
    (bif Nat.beq x 0 then [6, 7] else [])
    else
    (bif Nat.beq x 1 then [11, 12, 13, 14, 15, 16, 17, 18, 19, 20, 21] else []))
   else
   (bif Nat.blt x 3 then
    (bif Nat.beq x 2 then [0, 1, 2] else [])
    else
    (bif Nat.beq x 3 then [23, 24, 25, 26] else [])))
  else
  (bif Nat.blt x 6 then
   (bif Nat.blt x 5 then
    (bif Nat.beq x 4 then [0, 1, 2] else [])
    else
    (bif Nat.beq x 5 then [27] else []))
   else
   (bif Nat.blt x 9 then
    (bif Nat.beq x 6 then [2, 28, 29] else [])
    else
    (bif Nat.beq x 9 then [0, 1, 8, 30, 35, 36, 37, 38] else [])))
noncomputable def killT37 (x : Nat) : List Nat := bif Nat.blt x 14 then
  (bif Nat.blt x 7 then
   (bif Nat.blt x 4 then
    (bif Nat.blt x 2 then
     (bif Nat.beq x 0 then [0, 7, 8] else [])
     else
     (bif Nat.blt x 3 then
      (bif Nat.beq x 2 then [19, 20, 21] else [])
      else
      (bif Nat.beq x 3 then [23, 24] else [])))
    else
    (bif Nat.blt x 5 then
     (bif Nat.beq x 4 then [25, 26, 27, 28, 29, 30] else [])
     else
     (bif Nat.blt x 6 then
      (bif Nat.beq x 5 then [1, 2, 3, 9, 32] else [])
      else
      (bif Nat.beq x 6 then [9, 33, 34, 35] else []))))
   else
   (bif Nat.blt x 10 then
    (bif Nat.blt x 8 then
     (bif Nat.beq x 7 then [1, 2, 3, 37] else [])
     else
     (bif Nat.blt x 9 then
      (bif Nat.beq x 8 then [38, 39, 40] else [])
      else
      (bif Nat.beq x 9 then [1, 2, 3, 42] else [])))
    else
    (bif Nat.blt x 12 then
     (bif Nat.beq x 10 then [43, 44, 45, 46] else [])
     else
     (bif Nat.blt x 13 then
      (bif Nat.beq x 12 then [47, 48, 49] else [])
      else
      (bif Nat.beq x 13 then [51, 52] else [])))))
  else
  (bif Nat.blt x 21 then
   (bif Nat.blt x 17 then
    (bif Nat.blt x 15 then
     (bif Nat.beq x 14 then [53, 54, 55, 56, 57, 58, 59] else [])
     else
     (bif Nat.blt x 16 then
      (bif Nat.beq x 15 then [1, 2, 11, 60, 61, 62] else [])
      else
      (bif Nat.beq x 16 then [63, 64, 65] else [])))
    else
    (bif Nat.blt x 19 then
     (bif Nat.beq x 17 then [66] else [])
     else
     (bif Nat.blt x 20 then
      (bif Nat.beq x 19 then [67, 68, 69] else [])
      else
      (bif Nat.beq x 20 then [71, 72] else []))))
   else
   (bif Nat.blt x 24 then
    (bif Nat.blt x 22 then
     (bif Nat.beq x 21 then [73, 74, 75, 76, 77, 78, 79] else [])
     else
     (bif Nat.blt x 23 then
      (bif Nat.beq x 22 then [81, 82, 83, 84, 85, 86, 87] else [])
      else
      (bif Nat.beq x 23 then [88, 89, 90, 91, 92] else [])))
    else
    (bif Nat.blt x 26 then
     (bif Nat.blt x 25 then
      (bif Nat.beq x 24 then [16, 93] else [])
      else
      (bif Nat.beq x 25 then [17, 94, 95, 96, 97] else []))
     else
     (bif Nat.blt x 27 then
      (bif Nat.beq x 26 then [10, 12, 13, 14, 15, 98, 99, 100, 101, 102, 103, 104, 105] else [])
      else
      (bif Nat.beq x 27 then [3, 18, 106, 107] else [])))))
noncomputable def killT38 (x : Nat) : List Nat := bif Nat.blt x 5 then
  (bif Nat.blt x 2 then
   (bif Nat.blt x 1 then
    (bif Nat.beq x 0 then [4] else [])
    else
    (bif Nat.beq x 1 then [6, 7, 8, 9] else []))
   else
   (bif Nat.blt x 4 then
    (bif Nat.beq x 2 then [0, 1] else [])
    else
    (bif Nat.beq x 4 then [11, 12, 13] else [])))
  else
  (bif Nat.blt x 7 then
   (bif Nat.blt x 6 then
    (bif Nat.beq x 5 then [15, 16] else [])
    else
    (bif Nat.beq x 6 then [17, 18, 19, 20, 21, 22, 23, 24] else []))
   else
   (bif Nat.blt x 8 then
    (bif Nat.beq x 7 then [0, 1, 5] else [])
    else
    (bif Nat.beq x 8 then [0, 1, 5] else [])))
noncomputable def killT39 (x : Nat) : List Nat := bif Nat.blt x 9 then
  (bif Nat.blt x 5 then
   (bif Nat.blt x 3 then
    (bif Nat.beq x 0 then [2] else [])
    else
    (bif Nat.blt x 4 then
     (bif Nat.beq x 3 then [10, 11, 12] else [])
     else
     (bif Nat.beq x 4 then [13, 14, 15] else [])))
   else
   (bif Nat.blt x 7 then
    (bif Nat.blt x 6 then
     (bif Nat.beq x 5 then [17, 18, 19] else [])
     else
     (bif Nat.beq x 6 then [20] else []))
    else
    (bif Nat.blt x 8 then
     (bif Nat.beq x 7 then [5, 22, 23, 24, 25, 26] else [])
     else
     (bif Nat.beq x 8 then [7, 27] else []))))
  else
  (bif Nat.blt x 13 then
   (bif Nat.blt x 11 then
    (bif Nat.blt x 10 then
     (bif Nat.beq x 9 then [0, 4, 6, 29, 30, 31, 32, 33, 34, 35] else [])
     else
     (bif Nat.beq x 10 then [6, 36, 37, 38] else []))
    else
    (bif Nat.blt x 12 then
     (bif Nat.beq x 11 then [39, 40, 41, 42, 43] else [])
     else
     (bif Nat.beq x 12 then [44] else [])))
   else
   (bif Nat.blt x 15 then
    (bif Nat.blt x 14 then
     (bif Nat.beq x 13 then [5, 46, 47] else [])
     else
     (bif Nat.beq x 14 then [5, 8, 48, 49, 50, 51, 52, 53, 54, 55, 56] else []))
    else
    (bif Nat.blt x 16 then
     (bif Nat.beq x 15 then [9, 57, 58, 59] else [])
     else
     (bif Nat.beq x 16 then [0, 3, 4, 60] else []))))
noncomputable def killT40 (x : Nat) : List Nat := bif Nat.blt x 1 then
  (bif Nat.beq x 0 then [4] else [])
  else
  (bif Nat.beq x 1 then [0, 1, 5, 6, 7] else [])
noncomputable def killT41 (x : Nat) : List Nat := bif Nat.blt x 7 then
  (bif Nat.blt x 3 then
   (bif Nat.blt x 1 then
    (bif Nat.beq x 0 then [2, 3] else [])
    else
    (bif Nat.blt x 2 then
     (bif Nat.beq x 1 then [8, 9] else [])
     else
     (bif Nat.beq x 2 then [11, 12, 13, 14, 15, 16, 17, 18, 19, 20] else [])))
   else
   (bif Nat.blt x 5 then
    (bif Nat.blt x 4 then
     (bif Nat.beq x 3 then [4, 21, 22] else [])
     else
     (bif Nat.beq x 4 then [0, 5, 23, 24, 25, 26, 27] else []))
    else
    (bif Nat.blt x 6 then
     (bif Nat.beq x 5 then [29, 30] else [])
     else
     (bif Nat.beq x 6 then [0, 4, 31, 32] else []))))
  else
  (bif Nat.blt x 12 then
   (bif Nat.blt x 8 then
    (bif Nat.beq x 7 then [4, 34, 35, 36, 37, 38, 39, 40, 41, 42, 43, 44, 45] else [])
    else
    (bif Nat.blt x 11 then
     (bif Nat.beq x 8 then [0, 46, 47] else [])
     else
     (bif Nat.beq x 11 then [52, 53] else [])))
   else
   (bif Nat.blt x 14 then
    (bif Nat.blt x 13 then
     (bif Nat.beq x 12 then [54, 55] else [])
     else
     (bif Nat.beq x 13 then [0, 7, 48, 49, 50, 57, 58] else []))
    else
    (bif Nat.blt x 15 then
     (bif Nat.beq x 14 then [7, 59] else [])
     else
     (bif Nat.beq x 15 then [0, 48, 49, 50] else []))))
noncomputable def killT42 (x : Nat) : List Nat := bif Nat.blt x 11 then
  (bif Nat.blt x 6 then
   (bif Nat.blt x 3 then
    (bif Nat.blt x 1 then
     (bif Nat.beq x 0 then [2] else [])
     else
     (bif Nat.beq x 1 then [10] else []))
    else
    (bif Nat.blt x 4 then
     (bif Nat.beq x 3 then [11, 12, 13] else [])
     else
     (bif Nat.blt x 5 then
      (bif Nat.beq x 4 then [15, 16, 17] else [])
      else
      (bif Nat.beq x 5 then [19, 20] else []))))
   else
   (bif Nat.blt x 8 then
    (bif Nat.blt x 7 then
     (bif Nat.beq x 6 then [21, 22] else [])
     else
     (bif Nat.beq x 7 then [24, 25, 26] else []))
    else
    (bif Nat.blt x 9 then
     (bif Nat.beq x 8 then [27] else [])
     else
     (bif Nat.blt x 10 then
      (bif Nat.beq x 9 then [0, 3, 4, 5, 29, 30, 31, 32, 33, 34, 35] else [])
      else
      (bif Nat.beq x 10 then [5, 36] else [])))))
  else
  (bif Nat.blt x 16 then
   (bif Nat.blt x 13 then
    (bif Nat.blt x 12 then
     (bif Nat.beq x 11 then [37, 38, 39, 40, 41, 42] else [])
     else
     (bif Nat.beq x 12 then [43] else []))
    else
    (bif Nat.blt x 14 then
     (bif Nat.beq x 13 then [7] else [])
     else
     (bif Nat.blt x 15 then
      (bif Nat.beq x 14 then [45, 46] else [])
      else
      (bif Nat.beq x 15 then [47, 48, 49, 50, 51, 52, 53, 54, 55, 56] else []))))
   else
   (bif Nat.blt x 19 then
    (bif Nat.blt x 17 then
     (bif Nat.beq x 16 then [9, 58, 59, 60, 61, 62, 63] else [])
     else
     (bif Nat.blt x 18 then
      (bif Nat.beq x 17 then [8, 64] else [])
      else
      (bif Nat.beq x 18 then [66, 67] else [])))
    else
    (bif Nat.blt x 20 then
     (bif Nat.beq x 19 then [4, 6, 68, 69, 70, 71, 72, 73, 74] else [])
     else
     (bif Nat.blt x 21 then
      (bif Nat.beq x 20 then [7, 75] else [])
      else
      (bif Nat.beq x 21 then [0, 3, 4, 76] else [])))))
noncomputable def killT43 (x : Nat) : List Nat := bif Nat.blt x 3 then
  (bif Nat.blt x 1 then
   (bif Nat.beq x 0 then [6, 7] else [])
   else
   (bif Nat.blt x 2 then
    (bif Nat.beq x 1 then [9, 10, 11, 12] else [])
    else
    (bif Nat.beq x 2 then [0, 1, 2] else [])))
  else
  (bif Nat.blt x 4 then
   (bif Nat.beq x 3 then [14, 15, 16] else [])
   else
   (bif Nat.blt x 5 then
    (bif Nat.beq x 4 then [0, 1, 2] else [])
    else
    (bif Nat.beq x 5 then [0, 1, 2, 17, 18, 19, 20] else [])))
noncomputable def killT44 (x : Nat) : List Nat := bif Nat.blt x 2 then
  (bif Nat.blt x 1 then
   (bif Nat.beq x 0 then [6, 7] else [])
   else
   (bif Nat.beq x 1 then [8, 9, 10, 11, 12] else []))
  else
  (bif Nat.blt x 3 then
   (bif Nat.beq x 2 then [0, 1, 2] else [])
   else
   (bif Nat.beq x 3 then [0, 1, 2, 14, 15, 16, 17, 18] else []))
noncomputable def killT45 (x : Nat) : List Nat := bif Nat.blt x 1 then
  (bif Nat.beq x 0 then [2] else [])
  else
  (bif Nat.beq x 1 then [0, 3, 4, 5, 6, 7] else [])
noncomputable def killT46 (x : Nat) : List Nat := bif Nat.blt x 2 then
  (bif Nat.blt x 1 then
   (bif Nat.beq x 0 then [2, 3] else [])
   else
   (bif Nat.beq x 1 then [4, 5] else []))
  else
  (bif Nat.blt x 3 then
   (bif Nat.beq x 2 then [0] else [])
   else
   (bif Nat.beq x 3 then [0, 7, 8, 9, 10, 11, 12] else []))
noncomputable def killT47 (x : Nat) : List Nat := bif Nat.blt x 1 then
  (bif Nat.beq x 0 then [0, 3] else [])
  else
  (bif Nat.beq x 1 then [1, 4, 5, 6, 7, 8] else [])
noncomputable def killT48 (x : Nat) : List Nat := bif Nat.blt x 5 then
  (bif Nat.blt x 3 then
   (bif Nat.blt x 2 then
    (bif Nat.beq x 0 then [0, 9, 10] else [])
    else
    (bif Nat.beq x 2 then [14, 15, 16] else []))
   else
   (bif Nat.blt x 4 then
    (bif Nat.beq x 3 then [18, 19] else [])
    else
    (bif Nat.beq x 4 then [20, 21, 22, 23, 24, 25] else [])))
  else
  (bif Nat.blt x 7 then
   (bif Nat.blt x 6 then
    (bif Nat.beq x 5 then [1, 2, 3, 4, 11, 27] else [])
    else
    (bif Nat.beq x 6 then [11, 28, 29, 30, 31, 32, 33, 34, 35, 36, 37, 38, 39, 40, 41, 42] else []))
   else
   (bif Nat.blt x 8 then
    (bif Nat.beq x 7 then [1, 2, 3, 4, 44] else [])
    else
    (bif Nat.blt x 9 then
     (bif Nat.beq x 8 then [1, 2, 3, 4, 45, 46, 47, 48, 49, 50, 51, 52, 53] else [])
     else
     (bif Nat.beq x 9 then [12, 13, 54, 55] else []))))
noncomputable def killT49 (x : Nat) : List Nat := bif Nat.blt x 4 then
  (bif Nat.blt x 2 then
   (bif Nat.blt x 1 then
    (bif Nat.beq x 0 then [0, 7] else [])
    else
    (bif Nat.beq x 1 then [10, 11, 12, 13, 14, 15, 16, 17, 18] else []))
   else
   (bif Nat.blt x 3 then
    (bif Nat.beq x 2 then [1, 2, 3, 20] else [])
    else
    (bif Nat.beq x 3 then [2, 21, 22, 23, 24, 25, 26, 27] else [])))
  else
  (bif Nat.blt x 6 then
   (bif Nat.blt x 5 then
    (bif Nat.beq x 4 then [9, 28] else [])
    else
    (bif Nat.beq x 5 then [1, 3, 8, 30] else []))
   else
   (bif Nat.blt x 7 then
    (bif Nat.beq x 6 then [1, 31, 32, 33, 34, 35, 36] else [])
    else
    (bif Nat.blt x 8 then
     (bif Nat.beq x 7 then [3, 8, 38] else [])
     else
     (bif Nat.beq x 8 then [3, 8, 39] else []))))
noncomputable def killT50 (x : Nat) : List Nat := bif Nat.blt x 1 then
  (bif Nat.beq x 0 then [0, 4] else [])
  else
  (bif Nat.beq x 1 then [1, 2, 5, 6, 7, 8] else [])
noncomputable def killT51 (x : Nat) : List Nat := bif Nat.blt x 6 then
  (bif Nat.blt x 3 then
   (bif Nat.blt x 1 then
    (bif Nat.beq x 0 then [6] else [])
    else
    (bif Nat.blt x 2 then
     (bif Nat.beq x 1 then [12, 13, 14] else [])
     else
     (bif Nat.beq x 2 then [15, 16, 17, 18, 19, 20] else [])))
   else
   (bif Nat.blt x 4 then
    (bif Nat.beq x 3 then [8] else [])
    else
    (bif Nat.blt x 5 then
     (bif Nat.beq x 4 then [0, 1, 2, 7, 22] else [])
     else
     (bif Nat.beq x 5 then [7] else []))))
  else
  (bif Nat.blt x 10 then
   (bif Nat.blt x 8 then
    (bif Nat.beq x 6 then [23, 24, 25, 26, 27, 28, 29] else [])
    else
    (bif Nat.blt x 9 then
     (bif Nat.beq x 8 then [34, 35] else [])
     else
     (bif Nat.beq x 9 then [11, 36, 37, 38, 39, 40, 41, 42] else [])))
   else
   (bif Nat.blt x 11 then
    (bif Nat.beq x 10 then [43] else [])
    else
    (bif Nat.blt x 12 then
     (bif Nat.beq x 11 then [0, 1, 2, 30, 31, 32, 44, 45, 46] else [])
     else
     (bif Nat.beq x 12 then [9, 47] else []))))
noncomputable def killT52 (x : Nat) : List Nat := bif Nat.blt x 1 then
  (bif Nat.beq x 0 then [0, 4] else [])
  else
  (bif Nat.beq x 1 then [1, 2, 5, 6, 7, 8, 9, 10, 11, 12, 13] else [])
noncomputable def killT53 (x : Nat) : List Nat := bif Nat.blt x 7 then
  (bif Nat.blt x 2 then
   (bif Nat.blt x 1 then
    (bif Nat.beq x 0 then [0, 6] else [])
    else
    (bif Nat.beq x 1 then [9, 10, 11] else []))
   else
   (bif Nat.blt x 3 then
    (bif Nat.beq x 2 then [12, 13, 14, 15] else [])
    else
    (bif Nat.blt x 6 then
     (bif Nat.beq x 3 then [1, 2, 3, 17, 18, 19, 20] else [])
     else
     (bif Nat.beq x 6 then [21, 22, 23, 24, 25, 26, 27, 28] else []))))
  else
  (bif Nat.blt x 9 then
   (bif Nat.blt x 8 then
    (bif Nat.beq x 7 then [30, 31] else [])
    else
    (bif Nat.beq x 8 then [32, 33, 34, 35, 36, 37, 38, 39, 40, 41, 42, 43, 44, 45] else []))
   else
   (bif Nat.blt x 11 then
    (bif Nat.beq x 9 then [46] else [])
    else
    (bif Nat.blt x 12 then
     (bif Nat.beq x 11 then [1, 2, 3, 8, 48, 49, 50, 51] else [])
     else
     (bif Nat.beq x 12 then [7, 52] else []))))
noncomputable def killT54 (x : Nat) : List Nat := bif Nat.blt x 8 then
  (bif Nat.blt x 4 then
   (bif Nat.blt x 2 then
    (bif Nat.beq x 1 then [13, 14, 15] else [])
    else
    (bif Nat.blt x 3 then
     (bif Nat.beq x 2 then [16, 17, 18, 19, 20, 21, 22] else [])
     else
     (bif Nat.beq x 3 then [23, 24] else [])))
   else
   (bif Nat.blt x 6 then
    (bif Nat.blt x 5 then
     (bif Nat.beq x 4 then [0, 7, 26, 27, 28, 29, 30, 31] else [])
     else
     (bif Nat.beq x 5 then [9, 32] else []))
    else
    (bif Nat.blt x 7 then
     (bif Nat.beq x 6 then [34, 35] else [])
     else
     (bif Nat.beq x 7 then [1, 2, 36, 37, 38] else []))))
  else
  (bif Nat.blt x 12 then
   (bif Nat.blt x 9 then
    (bif Nat.beq x 8 then [1, 2, 8, 39, 40] else [])
    else
    (bif Nat.blt x 10 then
     (bif Nat.beq x 9 then [1, 41, 42, 43, 44, 45] else [])
     else
     (bif Nat.beq x 10 then [7, 46] else [])))
   else
   (bif Nat.blt x 14 then
    (bif Nat.blt x 13 then
     (bif Nat.beq x 12 then [51, 52] else [])
     else
     (bif Nat.beq x 13 then [12, 53, 54, 55, 56, 57, 58, 59, 60, 61] else []))
    else
    (bif Nat.blt x 15 then
     (bif Nat.beq x 14 then [62] else [])
     else
     (bif Nat.beq x 15 then [0, 2, 10, 47, 48, 49, 63] else []))))
noncomputable def killT55 (x : Nat) : List Nat := bif Nat.blt x 5 then
  (bif Nat.blt x 2 then
   (bif Nat.blt x 1 then
    (bif Nat.beq x 0 then [0] else [])
    else
    (bif Nat.beq x 1 then [8, 9, 10] else []))
   else
   (bif Nat.blt x 3 then
    (bif Nat.beq x 2 then [11, 12, 13, 14, 15] else [])
    else
    (bif Nat.blt x 4 then
     (bif Nat.beq x 3 then [16, 17] else [])
     else
     (bif Nat.beq x 4 then [1, 2, 5, 19, 20] else []))))
  else
  (bif Nat.blt x 8 then
   (bif Nat.blt x 7 then
    (bif Nat.beq x 5 then [1, 21, 22, 23, 24, 25] else [])
    else
    (bif Nat.beq x 7 then [26, 27, 28, 29] else []))
   else
   (bif Nat.blt x 9 then
    (bif Nat.beq x 8 then [31, 32] else [])
    else
    (bif Nat.blt x 10 then
     (bif Nat.beq x 9 then [33, 34, 35, 36, 37, 38, 39, 40, 41, 42, 43, 44] else [])
     else
     (bif Nat.beq x 10 then [2, 5, 6, 7, 45] else []))))
noncomputable def killT56 (x : Nat) : List Nat := bif Nat.blt x 6 then
  (bif Nat.blt x 3 then
   (bif Nat.blt x 1 then
    (bif Nat.beq x 0 then [1, 4] else [])
    else
    (bif Nat.beq x 1 then [7, 8] else []))
   else
   (bif Nat.blt x 4 then
    (bif Nat.beq x 3 then [10, 11, 12] else [])
    else
    (bif Nat.blt x 5 then
     (bif Nat.beq x 4 then [14, 15] else [])
     else
     (bif Nat.beq x 5 then [16, 17, 18, 19, 20, 21] else []))))
  else
  (bif Nat.blt x 10 then
   (bif Nat.blt x 7 then
    (bif Nat.beq x 6 then [0, 3, 5, 23] else [])
    else
    (bif Nat.blt x 9 then
     (bif Nat.beq x 7 then [0, 3, 5, 24, 25, 26, 27, 28] else [])
     else
     (bif Nat.beq x 9 then [29, 30, 31, 32] else [])))
   else
   (bif Nat.blt x 11 then
    (bif Nat.beq x 10 then [34, 35] else [])
    else
    (bif Nat.blt x 12 then
     (bif Nat.beq x 11 then [36, 37, 38, 39, 40, 41, 42] else [])
     else
     (bif Nat.beq x 12 then [0, 3, 6, 43] else []))))
noncomputable def killT57 (x : Nat) : List Nat := bif Nat.blt x 5 then
  (bif Nat.blt x 2 then
   (bif Nat.blt x 1 then
    (bif Nat.beq x 0 then [0] else [])
    else
    (bif Nat.beq x 1 then [7, 8] else []))
   else
   (bif Nat.blt x 3 then
    (bif Nat.beq x 2 then [1, 2, 10, 11, 12, 13, 14, 15] else [])
    else
    (bif Nat.beq x 3 then [16] else [])))
  else
  (bif Nat.blt x 7 then
   (bif Nat.blt x 6 then
    (bif Nat.beq x 5 then [17, 18, 19, 20] else [])
    else
    (bif Nat.beq x 6 then [22, 23] else []))
   else
   (bif Nat.blt x 8 then
    (bif Nat.beq x 7 then [24, 25, 26, 27, 28, 29, 30, 31, 32, 33] else [])
    else
    (bif Nat.blt x 9 then
     (bif Nat.beq x 8 then [1, 5, 6, 34, 35] else [])
     else
     (bif Nat.beq x 9 then [2, 36] else []))))
noncomputable def killT58 (x : Nat) : List Nat := bif Nat.blt x 9 then
  (bif Nat.blt x 4 then
   (bif Nat.blt x 2 then
    (bif Nat.blt x 1 then
     (bif Nat.beq x 0 then [8] else [])
     else
     (bif Nat.beq x 1 then [11, 12, 13, 14, 15, 16] else []))
    else
    (bif Nat.blt x 3 then
     (bif Nat.beq x 2 then [18, 19, 20] else [])
     else
     (bif Nat.beq x 3 then [0, 1, 2, 3] else [])))
   else
   (bif Nat.blt x 6 then
    (bif Nat.blt x 5 then
     (bif Nat.beq x 4 then [22, 23, 24, 25, 26, 27, 28, 29, 30, 31, 32, 33, 34, 35, 36, 37, 38, 39, 40, 41] else [])
     else
     (bif Nat.beq x 5 then [42, 43, 44, 45, 46, 47, 48, 49] else []))
    else
    (bif Nat.blt x 7 then
     (bif Nat.beq x 6 then [51, 52] else [])
     else
     (bif Nat.blt x 8 then
      (bif Nat.beq x 7 then [53] else [])
      else
      (bif Nat.beq x 8 then [0, 1, 2, 55, 56, 57, 58] else [])))))
  else
  (bif Nat.blt x 15 then
   (bif Nat.blt x 11 then
    (bif Nat.blt x 10 then
     (bif Nat.beq x 9 then [0, 1, 2, 3, 59, 60] else [])
     else
     (bif Nat.beq x 10 then [62, 63, 64, 65, 66] else []))
    else
    (bif Nat.blt x 12 then
     (bif Nat.beq x 11 then [0, 1, 2, 3] else [])
     else
     (bif Nat.blt x 13 then
      (bif Nat.beq x 12 then [67, 68, 69, 70] else [])
      else
      (bif Nat.beq x 13 then [1, 71, 72, 73, 74, 75, 76, 77] else []))))
   else
   (bif Nat.blt x 17 then
    (bif Nat.blt x 16 then
     (bif Nat.beq x 15 then [82, 83, 84] else [])
     else
     (bif Nat.beq x 16 then [9, 10, 85, 86, 87, 88, 89, 90, 91, 92, 93, 94, 95, 96, 97, 98, 99] else []))
    else
    (bif Nat.blt x 18 then
     (bif Nat.beq x 17 then [0, 2, 3, 78, 79, 80] else [])
     else
     (bif Nat.blt x 19 then
      (bif Nat.beq x 18 then [101] else [])
      else
      (bif Nat.beq x 19 then [0, 2, 3, 78, 79, 80] else [])))))
noncomputable def killT59 (x : Nat) : List Nat := bif Nat.blt x 3 then
  (bif Nat.blt x 2 then
   (bif Nat.beq x 0 then [4, 5, 6] else [])
   else
   (bif Nat.beq x 2 then [11, 12] else []))
  else
  (bif Nat.blt x 4 then
   (bif Nat.beq x 3 then [3, 13, 14, 15, 16, 17, 18, 19] else [])
   else
   (bif Nat.beq x 4 then [20] else []))
noncomputable def killT60 (x : Nat) : List Nat := bif Nat.blt x 11 then
  (bif Nat.blt x 5 then
   (bif Nat.blt x 2 then
    (bif Nat.blt x 1 then
     (bif Nat.beq x 0 then [0, 7] else [])
     else
     (bif Nat.beq x 1 then [15, 16, 17, 18] else []))
    else
    (bif Nat.blt x 3 then
     (bif Nat.beq x 2 then [8, 19, 20] else [])
     else
     (bif Nat.blt x 4 then
      (bif Nat.beq x 3 then [1, 2, 21, 22, 23, 24] else [])
      else
      (bif Nat.beq x 4 then [25, 26] else []))))
   else
   (bif Nat.blt x 8 then
    (bif Nat.blt x 6 then
     (bif Nat.beq x 5 then [28, 29, 30, 31, 32, 33, 34, 35, 36] else [])
     else
     (bif Nat.blt x 7 then
      (bif Nat.beq x 6 then [37, 38, 39, 40, 41, 42, 43, 44, 45] else [])
      else
      (bif Nat.beq x 7 then [46, 47, 48, 49, 50] else [])))
    else
    (bif Nat.blt x 9 then
     (bif Nat.beq x 8 then [51, 52] else [])
     else
     (bif Nat.blt x 10 then
      (bif Nat.beq x 9 then [54, 55, 56, 57, 58, 59] else [])
      else
      (bif Nat.beq x 10 then [10, 11, 61, 62, 63, 64, 65, 66] else [])))))
  else
  (bif Nat.blt x 16 then
   (bif Nat.blt x 13 then
    (bif Nat.blt x 12 then
     (bif Nat.beq x 11 then [67, 68, 69, 70, 71, 72] else [])
     else
     (bif Nat.beq x 12 then [10, 11, 74, 75, 76, 77, 78, 79] else []))
    else
    (bif Nat.blt x 14 then
     (bif Nat.beq x 13 then [80, 81, 82, 83, 84] else [])
     else
     (bif Nat.blt x 15 then
      (bif Nat.beq x 14 then [85, 86, 87, 88, 89] else [])
      else
      (bif Nat.beq x 15 then [90, 91, 92, 93, 94, 95, 96, 97, 98, 99, 100, 101, 102, 103, 104, 105, 106, 107, 108, 109] else []))))
   else
   (bif Nat.blt x 20 then
    (bif Nat.blt x 17 then
     (bif Nat.beq x 16 then [3, 9, 10, 11, 12, 13, 111] else [])
     else
     (bif Nat.blt x 19 then
      (bif Nat.beq x 17 then [10, 11, 112, 113, 114, 115, 116, 117] else [])
      else
      (bif Nat.beq x 19 then [118, 119, 120, 121] else [])))
    else
    (bif Nat.blt x 21 then
     (bif Nat.beq x 20 then [123, 124] else [])
     else
     (bif Nat.blt x 22 then
      (bif Nat.beq x 21 then [125, 126, 127, 128, 129, 130, 131, 132, 133, 134, 135, 136, 137, 138] else [])
      else
      (bif Nat.beq x 22 then [3, 9, 139] else [])))))
noncomputable def killT61 (x : Nat) : List Nat := bif Nat.blt x 6 then
  (bif Nat.blt x 3 then
   (bif Nat.blt x 1 then
    (bif Nat.beq x 0 then [6] else [])
    else
    (bif Nat.blt x 2 then
     (bif Nat.beq x 1 then [11, 12, 13] else [])
     else
     (bif Nat.beq x 2 then [14, 15, 16, 17, 18, 19] else [])))
   else
   (bif Nat.blt x 4 then
    (bif Nat.beq x 3 then [8] else [])
    else
    (bif Nat.blt x 5 then
     (bif Nat.beq x 4 then [0, 1, 2, 7, 21, 22] else [])
     else
     (bif Nat.beq x 5 then [7, 23, 24] else []))))
  else
  (bif Nat.blt x 10 then
   (bif Nat.blt x 8 then
    (bif Nat.beq x 6 then [25, 26, 27, 28, 29, 30, 31] else [])
    else
    (bif Nat.blt x 9 then
     (bif Nat.beq x 8 then [36, 37] else [])
     else
     (bif Nat.beq x 9 then [10, 38, 39, 40] else [])))
   else
   (bif Nat.blt x 11 then
    (bif Nat.beq x 10 then [0, 1, 2, 32, 33, 34] else [])
    else
    (bif Nat.blt x 12 then
     (bif Nat.beq x 11 then [42] else [])
     else
     (bif Nat.beq x 12 then [0, 1, 2, 32, 33, 34, 43, 44] else []))))
noncomputable def killT62 (x : Nat) : List Nat := bif Nat.blt x 1 then
  (bif Nat.beq x 0 then [8] else [])
  else
  (bif Nat.blt x 2 then
   (bif Nat.beq x 1 then [1, 2, 3, 9, 10, 11, 12, 13, 14, 15, 16, 17, 18, 19, 20, 21, 22] else [])
   else
   (bif Nat.beq x 2 then [0, 23, 24, 25, 26, 27, 28] else []))
noncomputable def killT63 (x : Nat) : List Nat := bif Nat.blt x 1 then
  (bif Nat.beq x 0 then [0, 1, 4] else [])
  else
  (bif Nat.blt x 2 then
   (bif Nat.beq x 1 then [6] else [])
   else
   (bif Nat.beq x 2 then [2, 3, 5, 7] else []))
noncomputable def killT64 (x : Nat) : List Nat := bif Nat.blt x 11 then
  (bif Nat.blt x 4 then
   (bif Nat.blt x 2 then
    (bif Nat.blt x 1 then
     (bif Nat.beq x 0 then [6] else [])
     else
     (bif Nat.beq x 1 then [16, 17, 18] else []))
    else
    (bif Nat.blt x 3 then
     (bif Nat.beq x 2 then [19, 20, 21, 22, 23, 24] else [])
     else
     (bif Nat.beq x 3 then [8] else [])))
   else
   (bif Nat.blt x 7 then
    (bif Nat.blt x 5 then
     (bif Nat.beq x 4 then [0, 1, 2, 7, 26] else [])
     else
     (bif Nat.beq x 5 then [7, 27, 28, 29, 30, 31, 32, 33] else []))
    else
    (bif Nat.blt x 8 then
     (bif Nat.beq x 7 then [34, 35, 36] else [])
     else
     (bif Nat.blt x 10 then
      (bif Nat.beq x 8 then [37] else [])
      else
      (bif Nat.beq x 10 then [42, 43] else [])))))
  else
  (bif Nat.blt x 15 then
   (bif Nat.blt x 13 then
    (bif Nat.blt x 12 then
     (bif Nat.beq x 11 then [44, 45, 46, 47] else [])
     else
     (bif Nat.beq x 12 then [13, 48, 49, 50, 51, 52, 53, 54, 55] else []))
    else
    (bif Nat.blt x 14 then
     (bif Nat.beq x 13 then [14, 56, 57, 58, 59] else [])
     else
     (bif Nat.beq x 14 then [60] else [])))
   else
   (bif Nat.blt x 17 then
    (bif Nat.blt x 16 then
     (bif Nat.beq x 15 then [38, 39, 40, 61] else [])
     else
     (bif Nat.beq x 16 then [11, 62] else []))
    else
    (bif Nat.blt x 18 then
     (bif Nat.beq x 17 then [0, 9, 10, 64, 65, 66, 67, 68, 69, 70] else [])
     else
     (bif Nat.blt x 19 then
      (bif Nat.beq x 18 then [0, 1, 2, 9, 10, 71, 72, 73] else [])
      else
      (bif Nat.beq x 19 then [15, 74] else [])))))
noncomputable def killT65 (x : Nat) : List Nat := bif Nat.blt x 3 then
  (bif Nat.blt x 1 then
   (bif Nat.beq x 0 then [0] else [])
   else
   (bif Nat.blt x 2 then
    (bif Nat.beq x 1 then [7, 8, 9] else [])
    else
    (bif Nat.beq x 2 then [10, 11, 12, 13] else [])))
  else
  (bif Nat.blt x 6 then
   (bif Nat.blt x 5 then
    (bif Nat.beq x 3 then [15, 16, 17] else [])
    else
    (bif Nat.beq x 5 then [18, 19, 20, 21, 22, 23, 24, 25] else []))
   else
   (bif Nat.blt x 7 then
    (bif Nat.beq x 6 then [27, 28] else [])
    else
    (bif Nat.beq x 7 then [29, 30, 31, 32, 33, 34, 35, 36, 37, 38, 39, 40] else [])))
noncomputable def killT66 (x : Nat) : List Nat := bif Nat.blt x 7 then
  (bif Nat.blt x 4 then
   (bif Nat.blt x 1 then
    (bif Nat.beq x 0 then [0, 1, 9] else [])
    else
    (bif Nat.blt x 3 then
     (bif Nat.beq x 1 then [15, 16] else [])
     else
     (bif Nat.beq x 3 then [18, 19, 20] else [])))
   else
   (bif Nat.blt x 5 then
    (bif Nat.beq x 4 then [22, 23] else [])
    else
    (bif Nat.blt x 6 then
     (bif Nat.beq x 5 then [24, 25, 26, 27, 28, 29] else [])
     else
     (bif Nat.beq x 6 then [2, 3, 4, 5, 10, 31, 32, 33, 34, 35] else []))))
  else
  (bif Nat.blt x 11 then
   (bif Nat.blt x 9 then
    (bif Nat.beq x 7 then [10, 36] else [])
    else
    (bif Nat.blt x 10 then
     (bif Nat.beq x 9 then [37, 38, 39, 40] else [])
     else
     (bif Nat.beq x 10 then [42, 43] else [])))
   else
   (bif Nat.blt x 13 then
    (bif Nat.blt x 12 then
     (bif Nat.beq x 11 then [44, 45, 46, 47, 48, 49, 50, 51, 52, 53, 54, 55] else [])
     else
     (bif Nat.beq x 12 then [13, 56] else []))
    else
    (bif Nat.blt x 14 then
     (bif Nat.beq x 13 then [14, 57, 58, 59, 60] else [])
     else
     (bif Nat.beq x 14 then [2, 3, 4, 5, 11, 12, 61, 62, 63, 64, 65, 66, 67, 68, 69, 70] else []))))
noncomputable def killT67 (x : Nat) : List Nat := bif Nat.blt x 2 then
  (bif Nat.blt x 1 then
   (bif Nat.beq x 0 then [6] else [])
   else
   (bif Nat.beq x 1 then [1, 8] else []))
  else
  (bif Nat.blt x 3 then
   (bif Nat.beq x 2 then [9, 10, 11, 12, 13, 14, 15, 16, 17, 18] else [])
   else
   (bif Nat.blt x 4 then
    (bif Nat.beq x 3 then [20, 21] else [])
    else
    (bif Nat.beq x 4 then [0, 2, 7, 22] else [])))
noncomputable def killT68 (x : Nat) : List Nat := bif Nat.blt x 8 then
  (bif Nat.blt x 5 then
   (bif Nat.blt x 3 then
    (bif Nat.beq x 0 then [2, 3] else [])
    else
    (bif Nat.blt x 4 then
     (bif Nat.beq x 3 then [6, 7, 8] else [])
     else
     (bif Nat.beq x 4 then [10, 11] else [])))
   else
   (bif Nat.blt x 6 then
    (bif Nat.beq x 5 then [13, 14, 15, 16] else [])
    else
    (bif Nat.blt x 7 then
     (bif Nat.beq x 6 then [17, 18] else [])
     else
     (bif Nat.beq x 7 then [19, 20] else []))))
  else
  (bif Nat.blt x 11 then
   (bif Nat.blt x 9 then
    (bif Nat.beq x 8 then [22, 23, 24, 25] else [])
    else
    (bif Nat.blt x 10 then
     (bif Nat.beq x 9 then [26, 27] else [])
     else
     (bif Nat.beq x 10 then [28, 29] else [])))
   else
   (bif Nat.blt x 12 then
    (bif Nat.beq x 11 then [30] else [])
    else
    (bif Nat.blt x 13 then
     (bif Nat.beq x 12 then [0, 4, 5, 32] else [])
     else
     (bif Nat.beq x 13 then [0, 4, 5, 33, 34] else []))))
noncomputable def killT69 (x : Nat) : List Nat := bif Nat.blt x 4 then
  (bif Nat.blt x 2 then
   (bif Nat.beq x 0 then [2] else [])
   else
   (bif Nat.blt x 3 then
    (bif Nat.beq x 2 then [6, 7, 8] else [])
    else
    (bif Nat.beq x 3 then [10, 11] else [])))
  else
  (bif Nat.blt x 6 then
   (bif Nat.blt x 5 then
    (bif Nat.beq x 4 then [5, 12, 13, 14, 15, 16, 17, 18] else [])
    else
    (bif Nat.beq x 5 then [4, 19, 20, 21, 22, 23, 24, 25] else []))
   else
   (bif Nat.blt x 7 then
    (bif Nat.beq x 6 then [0, 3, 27] else [])
    else
    (bif Nat.beq x 7 then [0, 3, 28, 29] else [])))
noncomputable def killT70 (x : Nat) : List Nat := bif Nat.blt x 1 then
  (bif Nat.beq x 0 then [4] else [])
  else
  (bif Nat.beq x 1 then [0, 1, 5, 6, 7, 8, 9, 10, 11, 12, 13, 14, 15, 16, 17] else [])
noncomputable def killT71 (x : Nat) : List Nat := bif Nat.blt x 1 then
  (bif Nat.beq x 0 then [4] else [])
  else
  (bif Nat.beq x 1 then [0, 1, 5, 6, 7, 8] else [])
noncomputable def killT72 (x : Nat) : List Nat := bif Nat.blt x 3 then
  (bif Nat.blt x 1 then
   (bif Nat.beq x 0 then [2] else [])
   else
   (bif Nat.blt x 2 then
    (bif Nat.beq x 1 then [4, 5] else [])
    else
    (bif Nat.beq x 2 then [0] else [])))
  else
  (bif Nat.blt x 4 then
   (bif Nat.beq x 3 then [7, 8, 9] else [])
   else
   (bif Nat.blt x 5 then
    (bif Nat.beq x 4 then [0] else [])
    else
    (bif Nat.beq x 5 then [0, 11, 12, 13] else [])))
noncomputable def killT73 (x : Nat) : List Nat := bif Nat.blt x 1 then
  (bif Nat.beq x 0 then [0] else [])
  else
  (bif Nat.beq x 1 then [1] else [])
noncomputable def killT74 (x : Nat) : List Nat := bif Nat.blt x 1 then
  (bif Nat.beq x 0 then [2] else [])
  else
  (bif Nat.beq x 1 then [0, 3, 4, 5, 6, 7, 8, 9, 10, 11, 12, 13, 14, 15, 16] else [])
noncomputable def killT75 (x : Nat) : List Nat := bif Nat.blt x 1 then
  (bif Nat.beq x 0 then [6] else [])
  else
  (bif Nat.beq x 1 then [0, 1, 2, 7, 8, 9, 10, 11, 12, 13, 14, 15, 16, 17, 18, 19, 20, 21, 22, 23, 24] else [])
noncomputable def killT76 (x : Nat) : List Nat := bif Nat.blt x 7 then
  (bif Nat.blt x 4 then
   (bif Nat.blt x 2 then
    (bif Nat.beq x 0 then [4] else [])
    else
    (bif Nat.blt x 3 then
     (bif Nat.beq x 2 then [6, 7, 8] else [])
     else
     (bif Nat.beq x 3 then [10, 11] else [])))
   else
   (bif Nat.blt x 5 then
    (bif Nat.beq x 4 then [13, 14] else [])
    else
    (bif Nat.blt x 6 then
     (bif Nat.beq x 5 then [15, 16] else [])
     else
     (bif Nat.beq x 6 then [17, 18] else []))))
  else
  (bif Nat.blt x 10 then
   (bif Nat.blt x 8 then
    (bif Nat.beq x 7 then [20, 21] else [])
    else
    (bif Nat.blt x 9 then
     (bif Nat.beq x 8 then [22, 23] else [])
     else
     (bif Nat.beq x 9 then [24] else [])))
   else
   (bif Nat.blt x 11 then
    (bif Nat.beq x 10 then [0, 1, 5, 26] else [])
    else
    (bif Nat.blt x 12 then
     (bif Nat.beq x 11 then [27, 28] else [])
     else
     (bif Nat.beq x 12 then [0, 1, 5] else []))))
noncomputable def killT77 (x : Nat) : List Nat := bif Nat.blt x 16 then
  (bif Nat.blt x 7 then
   (bif Nat.blt x 3 then
    (bif Nat.blt x 1 then
     (bif Nat.beq x 0 then [4, 5] else [])
     else
     (bif Nat.blt x 2 then
      (bif Nat.beq x 1 then [13, 14, 15] else [])
      else
      (bif Nat.beq x 2 then [16, 17] else [])))
    else
    (bif Nat.blt x 5 then
     (bif Nat.blt x 4 then
      (bif Nat.beq x 3 then [18, 19, 20, 21, 22, 23, 24, 25, 26] else [])
      else
      (bif Nat.beq x 4 then [28, 29, 30, 31, 32, 33, 34, 35, 36, 37, 38, 39, 40, 41, 42, 43, 44, 45, 46, 47, 48, 49, 50, 51, 52, 53, 54, 55, 56, 57, 58, 59, 60] else []))
     else
     (bif Nat.blt x 6 then
      (bif Nat.beq x 5 then [62, 63] else [])
      else
      (bif Nat.beq x 6 then [0, 1, 64, 65, 66, 67] else []))))
   else
   (bif Nat.blt x 11 then
    (bif Nat.blt x 9 then
     (bif Nat.blt x 8 then
      (bif Nat.beq x 7 then [68] else [])
      else
      (bif Nat.beq x 8 then [6, 7, 8, 70] else []))
     else
     (bif Nat.blt x 10 then
      (bif Nat.beq x 9 then [6, 71] else [])
      else
      (bif Nat.beq x 10 then [7, 8, 73] else [])))
    else
    (bif Nat.blt x 14 then
     (bif Nat.blt x 13 then
      (bif Nat.beq x 11 then [74] else [])
      else
      (bif Nat.beq x 13 then [75] else []))
     else
     (bif Nat.blt x 15 then
      (bif Nat.beq x 14 then [77, 78] else [])
      else
      (bif Nat.beq x 15 then [79, 80, 81, 82] else [])))))
  else
  (bif Nat.blt x 24 then
   (bif Nat.blt x 20 then
    (bif Nat.blt x 18 then
     (bif Nat.blt x 17 then
      (bif Nat.beq x 16 then [7, 8, 9, 10, 84] else [])
      else
      (bif Nat.beq x 17 then [7, 8, 9, 10, 85] else []))
     else
     (bif Nat.blt x 19 then
      (bif Nat.beq x 18 then [86] else [])
      else
      (bif Nat.beq x 19 then [88, 89, 90, 91, 92, 93, 94, 95, 96] else [])))
    else
    (bif Nat.blt x 22 then
     (bif Nat.blt x 21 then
      (bif Nat.beq x 20 then [98, 99] else [])
      else
      (bif Nat.beq x 21 then [0, 7, 100] else []))
     else
     (bif Nat.blt x 23 then
      (bif Nat.beq x 22 then [6, 101, 102, 103, 104, 105, 106, 107, 108, 109, 110, 111, 112, 113] else [])
      else
      (bif Nat.beq x 23 then [115, 116, 117, 118, 119, 120, 121, 122, 123, 124, 125, 126, 127, 128, 129, 130, 131, 132, 133, 134, 135, 136, 137, 138, 139, 140, 141] else []))))
   else
   (bif Nat.blt x 29 then
    (bif Nat.blt x 26 then
     (bif Nat.blt x 25 then
      (bif Nat.beq x 24 then [143, 144] else [])
      else
      (bif Nat.beq x 25 then [0, 7, 145] else []))
     else
     (bif Nat.blt x 28 then
      (bif Nat.beq x 26 then [7, 146] else [])
      else
      (bif Nat.beq x 28 then [147] else [])))
    else
    (bif Nat.blt x 31 then
     (bif Nat.blt x 30 then
      (bif Nat.beq x 29 then [149, 150] else [])
      else
      (bif Nat.beq x 30 then [151, 152, 153, 154, 155] else []))
     else
     (bif Nat.blt x 32 then
      (bif Nat.beq x 31 then [0, 1, 11, 12, 157, 158, 159, 160, 161, 162] else [])
      else
      (bif Nat.beq x 32 then [0, 1, 11, 12] else [])))))
noncomputable def killT78 (x : Nat) : List Nat := bif Nat.blt x 2 then
  (bif Nat.blt x 1 then
   (bif Nat.beq x 0 then [0, 1, 5] else [])
   else
   (bif Nat.beq x 1 then [6] else []))
  else
  (bif Nat.blt x 3 then
   (bif Nat.beq x 2 then [7, 8, 9, 10] else [])
   else
   (bif Nat.blt x 4 then
    (bif Nat.beq x 3 then [3, 11, 12, 13, 14, 15, 16] else [])
    else
    (bif Nat.beq x 4 then [2, 17, 18, 19, 20, 21] else [])))
noncomputable def killT79 (x : Nat) : List Nat := bif Nat.blt x 6 then
  (bif Nat.blt x 2 then
   (bif Nat.blt x 1 then
    (bif Nat.beq x 0 then [0, 6] else [])
    else
    (bif Nat.beq x 1 then [8, 9, 10] else []))
   else
   (bif Nat.blt x 3 then
    (bif Nat.beq x 2 then [11, 12, 13, 14] else [])
    else
    (bif Nat.blt x 4 then
     (bif Nat.beq x 3 then [1, 2, 3, 16, 17, 18, 19, 20] else [])
     else
     (bif Nat.beq x 4 then [21, 22, 23] else []))))
  else
  (bif Nat.blt x 8 then
   (bif Nat.blt x 7 then
    (bif Nat.beq x 6 then [24, 25, 26, 27, 28, 29, 30, 31] else [])
    else
    (bif Nat.beq x 7 then [33, 34] else []))
   else
   (bif Nat.blt x 9 then
    (bif Nat.beq x 8 then [35, 36, 37, 38, 39, 40, 41, 42, 43, 44, 45] else [])
    else
    (bif Nat.blt x 10 then
     (bif Nat.beq x 9 then [1, 2, 3, 7] else [])
     else
     (bif Nat.beq x 10 then [1, 2, 3, 7, 47, 48, 49] else []))))
noncomputable def killT80 (x : Nat) : List Nat := bif Nat.blt x 1 then
  (bif Nat.beq x 0 then [4] else [])
  else
  (bif Nat.beq x 1 then [0, 1, 5, 6, 7, 8] else [])
noncomputable def killT81 (x : Nat) : List Nat := bif Nat.blt x 1 then
  (bif Nat.beq x 0 then [3] else [])
  else
  (bif Nat.beq x 1 then [0, 1, 4, 5, 6, 7, 8, 9, 10, 11, 12, 13, 14] else [])
noncomputable def killT82 (x : Nat) : List Nat := bif Nat.blt x 2 then
  (bif Nat.blt x 1 then
   (bif Nat.beq x 0 then [4] else [])
   else
   (bif Nat.beq x 1 then [5, 6, 7, 8, 9, 10, 11, 12] else []))
  else
  (bif Nat.blt x 3 then
   (bif Nat.beq x 2 then [14, 15, 16, 17, 18, 19, 20, 21] else [])
   else
   (bif Nat.beq x 3 then [0, 1, 22] else []))
noncomputable def killT83 (x : Nat) : List Nat := bif Nat.blt x 2 then
  (bif Nat.blt x 1 then
   (bif Nat.beq x 0 then [0, 4] else [])
   else
   (bif Nat.beq x 1 then [5, 6, 7, 8, 9, 10] else []))
  else
  (bif Nat.blt x 3 then
   (bif Nat.beq x 2 then [12, 13, 14, 15, 16, 17] else [])
   else
   (bif Nat.beq x 3 then [1, 2, 18] else []))
noncomputable def killT84 (x : Nat) : List Nat := bif Nat.blt x 1 then
  (bif Nat.beq x 0 then [2, 6, 7, 8, 9, 10, 11, 12, 13] else [])
  else
  (bif Nat.beq x 1 then [0, 1, 14, 15, 16, 17, 18, 19, 20, 21, 22, 23] else [])
noncomputable def killT85 (x : Nat) : List Nat := bif Nat.blt x 1 then
  (bif Nat.beq x 0 then [6] else [])
  else
  (bif Nat.blt x 2 then
   (bif Nat.beq x 1 then [0, 1, 2, 9, 10, 11, 12, 13, 14, 15, 16, 17, 18, 19, 20, 21, 22] else [])
   else
   (bif Nat.beq x 2 then [7, 8, 23, 24, 25, 26, 27, 28, 29, 30, 31, 32, 33, 34, 35, 36, 37, 38, 39, 40, 41, 42, 43] else []))
noncomputable def killT86 (x : Nat) : List Nat := bif Nat.blt x 2 then
  (bif Nat.blt x 1 then
   (bif Nat.beq x 0 then [2] else [])
   else
   (bif Nat.beq x 1 then [3] else []))
  else
  (bif Nat.blt x 3 then
   (bif Nat.beq x 2 then [0] else [])
   else
   (bif Nat.beq x 3 then [0, 5, 6, 7] else []))
noncomputable def killT87 (x : Nat) : List Nat := bif Nat.blt x 4 then
  (bif Nat.blt x 2 then
   (bif Nat.blt x 1 then
    (bif Nat.beq x 0 then [1, 9, 10] else [])
    else
    (bif Nat.beq x 1 then [11, 12] else []))
   else
   (bif Nat.blt x 3 then
    (bif Nat.beq x 2 then [14, 15, 16, 17, 18, 19, 20, 21] else [])
    else
    (bif Nat.beq x 3 then [22, 23, 24, 25, 26] else [])))
  else
  (bif Nat.blt x 6 then
   (bif Nat.blt x 5 then
    (bif Nat.beq x 4 then [7, 27, 28, 29, 30, 31, 32] else [])
    else
    (bif Nat.beq x 5 then [8] else []))
   else
   (bif Nat.blt x 7 then
    (bif Nat.beq x 6 then [34, 35, 36] else [])
    else
    (bif Nat.blt x 8 then
     (bif Nat.beq x 7 then [37, 38, 39, 40, 41, 42, 43, 44, 45, 46, 47, 48, 49, 50] else [])
     else
     (bif Nat.beq x 8 then [6, 52, 53, 54, 55, 56, 57, 58, 59, 60, 61] else []))))
noncomputable def killT88 (x : Nat) : List Nat := bif Nat.blt x 1 then
  (bif Nat.beq x 0 then [4] else [])
  else
  (bif Nat.beq x 1 then [0, 1, 5, 6, 7] else [])
noncomputable def killT89 (x : Nat) : List Nat := bif Nat.blt x 1 then
  (bif Nat.beq x 0 then [4] else [])
  else
  (bif Nat.beq x 1 then [0, 1, 5, 6, 7, 8] else [])
noncomputable def killT90 (x : Nat) : List Nat := bif Nat.blt x 1 then
  (bif Nat.beq x 0 then [0] else [])
  else
  (bif Nat.beq x 1 then [1] else [])
noncomputable def killT91 (x : Nat) : List Nat := bif Nat.blt x 1 then
  (bif Nat.beq x 0 then [2] else [])
  else
  (bif Nat.beq x 1 then [0, 3, 4, 5, 6, 7, 8] else [])
noncomputable def killT92 (x : Nat) : List Nat := bif Nat.blt x 1 then
  (bif Nat.beq x 0 then [2] else [])
  else
  (bif Nat.beq x 1 then [0, 3, 4, 5, 6, 7, 8] else [])
noncomputable def killT93 (x : Nat) : List Nat := bif Nat.blt x 1 then
  (bif Nat.beq x 0 then [2] else [])
  else
  (bif Nat.beq x 1 then [0, 3, 4, 5, 6, 7, 8] else [])
noncomputable def killT94 (x : Nat) : List Nat := bif Nat.beq x 1 then [1] else []
noncomputable def killT95 (x : Nat) : List Nat := bif Nat.beq x 1 then [1] else []
noncomputable def killT96 (x : Nat) : List Nat := bif Nat.blt x 4 then
  (bif Nat.blt x 1 then
   (bif Nat.beq x 0 then [4] else [])
   else
   (bif Nat.blt x 3 then
    (bif Nat.beq x 1 then [6] else [])
    else
    (bif Nat.beq x 3 then [10] else [])))
  else
  (bif Nat.blt x 6 then
   (bif Nat.blt x 5 then
    (bif Nat.beq x 4 then [11, 12, 13, 14, 15] else [])
    else
    (bif Nat.beq x 5 then [0, 1, 5, 7, 8, 17] else []))
   else
   (bif Nat.blt x 7 then
    (bif Nat.beq x 6 then [5, 18] else [])
    else
    (bif Nat.beq x 7 then [0, 1, 7, 8] else [])))
noncomputable def killT97 (x : Nat) : List Nat := bif Nat.blt x 1 then
  (bif Nat.beq x 0 then [4] else [])
  else
  (bif Nat.beq x 1 then [0, 1, 5, 6, 7] else [])
noncomputable def killT98 (x : Nat) : List Nat := bif Nat.blt x 4 then
  (bif Nat.blt x 1 then
   (bif Nat.beq x 0 then [4] else [])
   else
   (bif Nat.blt x 3 then
    (bif Nat.beq x 1 then [6] else [])
    else
    (bif Nat.beq x 3 then [10] else [])))
  else
  (bif Nat.blt x 6 then
   (bif Nat.blt x 5 then
    (bif Nat.beq x 4 then [11, 12, 13, 14, 15] else [])
    else
    (bif Nat.beq x 5 then [0, 1, 5, 7, 8, 17] else []))
   else
   (bif Nat.blt x 7 then
    (bif Nat.beq x 6 then [5, 18] else [])
    else
    (bif Nat.beq x 7 then [0, 1, 7, 8] else [])))
noncomputable def killT (x : Nat) : Nat → List Nat := bif Nat.blt x 51 then
  (bif Nat.blt x 27 then
   (bif Nat.blt x 15 then
    (bif Nat.blt x 9 then
     (bif Nat.blt x 6 then
      (bif Nat.blt x 4 then
       (bif Nat.beq x 3 then killT3 else (fun _ => []))
       else
       (bif Nat.blt x 5 then
        (bif Nat.beq x 4 then killT4 else (fun _ => []))
        else
        (bif Nat.beq x 5 then killT5 else (fun _ => []))))
      else
      (bif Nat.blt x 7 then
       (bif Nat.beq x 6 then killT6 else (fun _ => []))
       else
       (bif Nat.blt x 8 then
        (bif Nat.beq x 7 then killT7 else (fun _ => []))
        else
        (bif Nat.beq x 8 then killT8 else (fun _ => [])))))
     else
     (bif Nat.blt x 12 then
      (bif Nat.blt x 10 then
       (bif Nat.beq x 9 then killT9 else (fun _ => []))
       else
       (bif Nat.blt x 11 then
        (bif Nat.beq x 10 then killT10 else (fun _ => []))
        else
        (bif Nat.beq x 11 then killT11 else (fun _ => []))))
      else
      (bif Nat.blt x 13 then
       (bif Nat.beq x 12 then killT12 else (fun _ => []))
       else
       (bif Nat.blt x 14 then
        (bif Nat.beq x 13 then killT13 else (fun _ => []))
        else
        (bif Nat.beq x 14 then killT14 else (fun _ => []))))))
    else
    (bif Nat.blt x 21 then
     (bif Nat.blt x 18 then
      (bif Nat.blt x 16 then
       (bif Nat.beq x 15 then killT15 else (fun _ => []))
       else
       (bif Nat.blt x 17 then
        (bif Nat.beq x 16 then killT16 else (fun _ => []))
        else
        (bif Nat.beq x 17 then killT17 else (fun _ => []))))
      else
      (bif Nat.blt x 19 then
       (bif Nat.beq x 18 then killT18 else (fun _ => []))
       else
       (bif Nat.blt x 20 then
        (bif Nat.beq x 19 then killT19 else (fun _ => []))
        else
        (bif Nat.beq x 20 then killT20 else (fun _ => [])))))
     else
     (bif Nat.blt x 24 then
      (bif Nat.blt x 22 then
       (bif Nat.beq x 21 then killT21 else (fun _ => []))
       else
       (bif Nat.blt x 23 then
        (bif Nat.beq x 22 then killT22 else (fun _ => []))
        else
        (bif Nat.beq x 23 then killT23 else (fun _ => []))))
      else
      (bif Nat.blt x 25 then
       (bif Nat.beq x 24 then killT24 else (fun _ => []))
       else
       (bif Nat.blt x 26 then
        (bif Nat.beq x 25 then killT25 else (fun _ => []))
        else
        (bif Nat.beq x 26 then killT26 else (fun _ => [])))))))
   else
   (bif Nat.blt x 39 then
    (bif Nat.blt x 33 then
     (bif Nat.blt x 30 then
      (bif Nat.blt x 28 then
       (bif Nat.beq x 27 then killT27 else (fun _ => []))
       else
       (bif Nat.blt x 29 then
        (bif Nat.beq x 28 then killT28 else (fun _ => []))
        else
        (bif Nat.beq x 29 then killT29 else (fun _ => []))))
      else
      (bif Nat.blt x 31 then
       (bif Nat.beq x 30 then killT30 else (fun _ => []))
       else
       (bif Nat.blt x 32 then
        (bif Nat.beq x 31 then killT31 else (fun _ => []))
        else
        (bif Nat.beq x 32 then killT32 else (fun _ => [])))))
     else
     (bif Nat.blt x 36 then
      (bif Nat.blt x 34 then
       (bif Nat.beq x 33 then killT33 else (fun _ => []))
       else
       (bif Nat.blt x 35 then
        (bif Nat.beq x 34 then killT34 else (fun _ => []))
        else
        (bif Nat.beq x 35 then killT35 else (fun _ => []))))
      else
      (bif Nat.blt x 37 then
       (bif Nat.beq x 36 then killT36 else (fun _ => []))
       else
       (bif Nat.blt x 38 then
        (bif Nat.beq x 37 then killT37 else (fun _ => []))
        else
        (bif Nat.beq x 38 then killT38 else (fun _ => []))))))
    else
    (bif Nat.blt x 45 then
     (bif Nat.blt x 42 then
      (bif Nat.blt x 40 then
       (bif Nat.beq x 39 then killT39 else (fun _ => []))
       else
       (bif Nat.blt x 41 then
        (bif Nat.beq x 40 then killT40 else (fun _ => []))
        else
        (bif Nat.beq x 41 then killT41 else (fun _ => []))))
      else
      (bif Nat.blt x 43 then
       (bif Nat.beq x 42 then killT42 else (fun _ => []))
       else
       (bif Nat.blt x 44 then
        (bif Nat.beq x 43 then killT43 else (fun _ => []))
        else
        (bif Nat.beq x 44 then killT44 else (fun _ => [])))))
     else
     (bif Nat.blt x 48 then
      (bif Nat.blt x 46 then
       (bif Nat.beq x 45 then killT45 else (fun _ => []))
       else
       (bif Nat.blt x 47 then
        (bif Nat.beq x 46 then killT46 else (fun _ => []))
        else
        (bif Nat.beq x 47 then killT47 else (fun _ => []))))
      else
      (bif Nat.blt x 49 then
       (bif Nat.beq x 48 then killT48 else (fun _ => []))
       else
       (bif Nat.blt x 50 then
        (bif Nat.beq x 49 then killT49 else (fun _ => []))
        else
        (bif Nat.beq x 50 then killT50 else (fun _ => []))))))))
  else
  (bif Nat.blt x 75 then
   (bif Nat.blt x 63 then
    (bif Nat.blt x 57 then
     (bif Nat.blt x 54 then
      (bif Nat.blt x 52 then
       (bif Nat.beq x 51 then killT51 else (fun _ => []))
       else
       (bif Nat.blt x 53 then
        (bif Nat.beq x 52 then killT52 else (fun _ => []))
        else
        (bif Nat.beq x 53 then killT53 else (fun _ => []))))
      else
      (bif Nat.blt x 55 then
       (bif Nat.beq x 54 then killT54 else (fun _ => []))
       else
       (bif Nat.blt x 56 then
        (bif Nat.beq x 55 then killT55 else (fun _ => []))
        else
        (bif Nat.beq x 56 then killT56 else (fun _ => [])))))
     else
     (bif Nat.blt x 60 then
      (bif Nat.blt x 58 then
       (bif Nat.beq x 57 then killT57 else (fun _ => []))
       else
       (bif Nat.blt x 59 then
        (bif Nat.beq x 58 then killT58 else (fun _ => []))
        else
        (bif Nat.beq x 59 then killT59 else (fun _ => []))))
      else
      (bif Nat.blt x 61 then
       (bif Nat.beq x 60 then killT60 else (fun _ => []))
       else
       (bif Nat.blt x 62 then
        (bif Nat.beq x 61 then killT61 else (fun _ => []))
        else
        (bif Nat.beq x 62 then killT62 else (fun _ => []))))))
    else
    (bif Nat.blt x 69 then
     (bif Nat.blt x 66 then
      (bif Nat.blt x 64 then
       (bif Nat.beq x 63 then killT63 else (fun _ => []))
       else
       (bif Nat.blt x 65 then
        (bif Nat.beq x 64 then killT64 else (fun _ => []))
        else
        (bif Nat.beq x 65 then killT65 else (fun _ => []))))
      else
      (bif Nat.blt x 67 then
       (bif Nat.beq x 66 then killT66 else (fun _ => []))
       else
       (bif Nat.blt x 68 then
        (bif Nat.beq x 67 then killT67 else (fun _ => []))
        else
        (bif Nat.beq x 68 then killT68 else (fun _ => [])))))
     else
     (bif Nat.blt x 72 then
      (bif Nat.blt x 70 then
       (bif Nat.beq x 69 then killT69 else (fun _ => []))
       else
       (bif Nat.blt x 71 then
        (bif Nat.beq x 70 then killT70 else (fun _ => []))
        else
        (bif Nat.beq x 71 then killT71 else (fun _ => []))))
      else
      (bif Nat.blt x 73 then
       (bif Nat.beq x 72 then killT72 else (fun _ => []))
       else
       (bif Nat.blt x 74 then
        (bif Nat.beq x 73 then killT73 else (fun _ => []))
        else
        (bif Nat.beq x 74 then killT74 else (fun _ => [])))))))
   else
   (bif Nat.blt x 87 then
    (bif Nat.blt x 81 then
     (bif Nat.blt x 78 then
      (bif Nat.blt x 76 then
       (bif Nat.beq x 75 then killT75 else (fun _ => []))
       else
       (bif Nat.blt x 77 then
        (bif Nat.beq x 76 then killT76 else (fun _ => []))
        else
        (bif Nat.beq x 77 then killT77 else (fun _ => []))))
      else
      (bif Nat.blt x 79 then
       (bif Nat.beq x 78 then killT78 else (fun _ => []))
       else
       (bif Nat.blt x 80 then
        (bif Nat.beq x 79 then killT79 else (fun _ => []))
        else
        (bif Nat.beq x 80 then killT80 else (fun _ => [])))))
     else
     (bif Nat.blt x 84 then
      (bif Nat.blt x 82 then
       (bif Nat.beq x 81 then killT81 else (fun _ => []))
       else
       (bif Nat.blt x 83 then
        (bif Nat.beq x 82 then killT82 else (fun _ => []))
        else
        (bif Nat.beq x 83 then killT83 else (fun _ => []))))
      else
      (bif Nat.blt x 85 then
       (bif Nat.beq x 84 then killT84 else (fun _ => []))
       else
       (bif Nat.blt x 86 then
        (bif Nat.beq x 85 then killT85 else (fun _ => []))
        else
        (bif Nat.beq x 86 then killT86 else (fun _ => []))))))
    else
    (bif Nat.blt x 93 then
     (bif Nat.blt x 90 then
      (bif Nat.blt x 88 then
       (bif Nat.beq x 87 then killT87 else (fun _ => []))
       else
       (bif Nat.blt x 89 then
        (bif Nat.beq x 88 then killT88 else (fun _ => []))
        else
        (bif Nat.beq x 89 then killT89 else (fun _ => []))))
      else
      (bif Nat.blt x 91 then
       (bif Nat.beq x 90 then killT90 else (fun _ => []))
       else
       (bif Nat.blt x 92 then
        (bif Nat.beq x 91 then killT91 else (fun _ => []))
        else
        (bif Nat.beq x 92 then killT92 else (fun _ => [])))))
     else
     (bif Nat.blt x 96 then
      (bif Nat.blt x 94 then
       (bif Nat.beq x 93 then killT93 else (fun _ => []))
       else
       (bif Nat.blt x 95 then
        (bif Nat.beq x 94 then killT94 else (fun _ => []))
        else
        (bif Nat.beq x 95 then killT95 else (fun _ => []))))
      else
      (bif Nat.blt x 97 then
       (bif Nat.beq x 96 then killT96 else (fun _ => []))
       else
       (bif Nat.blt x 98 then
        (bif Nat.beq x 97 then killT97 else (fun _ => []))
        else
        (bif Nat.beq x 98 then killT98 else (fun _ => []))))))))
noncomputable def lkT60 (x : Nat) : List Nat := bif Nat.beq x 0 then [10, 11, 12, 13, 14] else []
noncomputable def lkT77 (x : Nat) : List Nat := bif Nat.blt x 6 then
  (bif Nat.beq x 4 then [1, 6] else [])
  else
  (bif Nat.beq x 6 then [1] else [])
noncomputable def lkT87 (x : Nat) : List Nat := bif Nat.beq x 0 then [6] else []
noncomputable def lkT (x : Nat) : Nat → List Nat := bif Nat.blt x 77 then
  (bif Nat.beq x 60 then lkT60 else (fun _ => []))
  else
  (bif Nat.blt x 87 then
   (bif Nat.beq x 77 then lkT77 else (fun _ => []))
   else
   (bif Nat.beq x 87 then lkT87 else (fun _ => [])))
noncomputable def chkT3 (x : Nat) : List (Nat × Nat) := bif Nat.beq x 5 then [(4, 2), (13, 11), (20, 23), (26, 23), (26, 24)] else []
noncomputable def chkT4 (x : Nat) : List (Nat × Nat) := bif Nat.beq x 31 then [(7, 6), (11, 6)] else []
noncomputable def chkT9 (x : Nat) : List (Nat × Nat) := bif Nat.beq x 26 then [(0, 2), (0, 5)] else []
noncomputable def chkT20 (x : Nat) : List (Nat × Nat) := bif Nat.blt x 32 then
  (bif Nat.beq x 21 then [(2, 4)] else [])
  else
  (bif Nat.beq x 32 then [(12, 10)] else [])
noncomputable def chkT54 (x : Nat) : List (Nat × Nat) := bif Nat.beq x 13 then [(1, 5)] else []
noncomputable def chkT55 (x : Nat) : List (Nat × Nat) := bif Nat.beq x 9 then [(1, 8)] else []
noncomputable def chkT62 (x : Nat) : List (Nat × Nat) := bif Nat.beq x 1 then [(4, 8)] else []
noncomputable def chkT66 (x : Nat) : List (Nat × Nat) := bif Nat.beq x 6 then [(4, 5)] else []
noncomputable def chkT78 (x : Nat) : List (Nat × Nat) := bif Nat.beq x 4 then [(2, 5)] else []
noncomputable def chkT85 (x : Nat) : List (Nat × Nat) := bif Nat.beq x 1 then [(10, 16), (13, 16)] else []
noncomputable def chkT (x : Nat) : Nat → List (Nat × Nat) := bif Nat.blt x 55 then
  (bif Nat.blt x 9 then
   (bif Nat.blt x 4 then
    (bif Nat.beq x 3 then chkT3 else (fun _ => []))
    else
    (bif Nat.beq x 4 then chkT4 else (fun _ => [])))
   else
   (bif Nat.blt x 20 then
    (bif Nat.beq x 9 then chkT9 else (fun _ => []))
    else
    (bif Nat.blt x 54 then
     (bif Nat.beq x 20 then chkT20 else (fun _ => []))
     else
     (bif Nat.beq x 54 then chkT54 else (fun _ => [])))))
  else
  (bif Nat.blt x 66 then
   (bif Nat.blt x 62 then
    (bif Nat.beq x 55 then chkT55 else (fun _ => []))
    else
    (bif Nat.beq x 62 then chkT62 else (fun _ => [])))
   else
   (bif Nat.blt x 78 then
    (bif Nat.beq x 66 then chkT66 else (fun _ => []))
    else
    (bif Nat.blt x 85 then
     (bif Nat.beq x 78 then chkT78 else (fun _ => []))
     else
     (bif Nat.beq x 85 then chkT85 else (fun _ => [])))))
noncomputable def look (x : Nat) : Option Func := bif Nat.blt x 58 then
  (bif Nat.blt x 29 then
   (bif Nat.blt x 14 then
    (bif Nat.blt x 7 then
     (bif Nat.blt x 3 then
      (bif Nat.blt x 1 then
       (bif Nat.beq x 0 then some Try.f0 else none)
       else
       (bif Nat.blt x 2 then
        (bif Nat.beq x 1 then some Try.f1 else none)
        else
        (bif Nat.beq x 2 then some Try.f2 else none)))
      else
      (bif Nat.blt x 5 then
       (bif Nat.blt x 4 then
        (bif Nat.beq x 3 then some Try.f3 else none)
        else
        (bif Nat.beq x 4 then some Try.f4 else none))
       else
       (bif Nat.blt x 6 then
        (bif Nat.beq x 5 then some Try.f5 else none)
        else
        (bif Nat.beq x 6 then some Try.f6 else none))))
     else
     (bif Nat.blt x 10 then
      (bif Nat.blt x 8 then
       (bif Nat.beq x 7 then some Try.f7 else none)
       else
       (bif Nat.blt x 9 then
        (bif Nat.beq x 8 then some Try.f8 else none)
        else
        (bif Nat.beq x 9 then some Try.f9 else none)))
      else
      (bif Nat.blt x 12 then
       (bif Nat.blt x 11 then
        (bif Nat.beq x 10 then some Try.f10 else none)
        else
        (bif Nat.beq x 11 then some Try.f11 else none))
       else
       (bif Nat.blt x 13 then
        (bif Nat.beq x 12 then some Try.f12 else none)
        else
        (bif Nat.beq x 13 then some Try.f13 else none)))))
    else
    (bif Nat.blt x 21 then
     (bif Nat.blt x 17 then
      (bif Nat.blt x 15 then
       (bif Nat.beq x 14 then some Try.f14 else none)
       else
       (bif Nat.blt x 16 then
        (bif Nat.beq x 15 then some Try.f15 else none)
        else
        (bif Nat.beq x 16 then some Try.f16 else none)))
      else
      (bif Nat.blt x 19 then
       (bif Nat.blt x 18 then
        (bif Nat.beq x 17 then some Try.f17 else none)
        else
        (bif Nat.beq x 18 then some Try.f18 else none))
       else
       (bif Nat.blt x 20 then
        (bif Nat.beq x 19 then some Try.f19 else none)
        else
        (bif Nat.beq x 20 then some Try.f20 else none))))
     else
     (bif Nat.blt x 25 then
      (bif Nat.blt x 23 then
       (bif Nat.blt x 22 then
        (bif Nat.beq x 21 then some Try.f21 else none)
        else
        (bif Nat.beq x 22 then some Try.f22 else none))
       else
       (bif Nat.blt x 24 then
        (bif Nat.beq x 23 then some Try.f23 else none)
        else
        (bif Nat.beq x 24 then some Try.f24 else none)))
      else
      (bif Nat.blt x 27 then
       (bif Nat.blt x 26 then
        (bif Nat.beq x 25 then some Try.f25 else none)
        else
        (bif Nat.beq x 26 then some Try.f26 else none))
       else
       (bif Nat.blt x 28 then
        (bif Nat.beq x 27 then some Try.f27 else none)
        else
        (bif Nat.beq x 28 then some Try.f28 else none))))))
   else
   (bif Nat.blt x 43 then
    (bif Nat.blt x 36 then
     (bif Nat.blt x 32 then
      (bif Nat.blt x 30 then
       (bif Nat.beq x 29 then some Try.f29 else none)
       else
       (bif Nat.blt x 31 then
        (bif Nat.beq x 30 then some Try.f30 else none)
        else
        (bif Nat.beq x 31 then some Try.f31 else none)))
      else
      (bif Nat.blt x 34 then
       (bif Nat.blt x 33 then
        (bif Nat.beq x 32 then some Try.f32 else none)
        else
        (bif Nat.beq x 33 then some Try.f33 else none))
       else
       (bif Nat.blt x 35 then
        (bif Nat.beq x 34 then some Try.f34 else none)
        else
        (bif Nat.beq x 35 then some Try.f35 else none))))
     else
     (bif Nat.blt x 39 then
      (bif Nat.blt x 37 then
       (bif Nat.beq x 36 then some Try.f36 else none)
       else
       (bif Nat.blt x 38 then
        (bif Nat.beq x 37 then some Try.f37 else none)
        else
        (bif Nat.beq x 38 then some Try.f38 else none)))
      else
      (bif Nat.blt x 41 then
       (bif Nat.blt x 40 then
        (bif Nat.beq x 39 then some Try.f39 else none)
        else
        (bif Nat.beq x 40 then some Try.f40 else none))
       else
       (bif Nat.blt x 42 then
        (bif Nat.beq x 41 then some Try.f41 else none)
        else
        (bif Nat.beq x 42 then some Try.f42 else none)))))
    else
    (bif Nat.blt x 50 then
     (bif Nat.blt x 46 then
      (bif Nat.blt x 44 then
       (bif Nat.beq x 43 then some Try.f43 else none)
       else
       (bif Nat.blt x 45 then
        (bif Nat.beq x 44 then some Try.f44 else none)
        else
        (bif Nat.beq x 45 then some Try.f45 else none)))
      else
      (bif Nat.blt x 48 then
       (bif Nat.blt x 47 then
        (bif Nat.beq x 46 then some Try.f46 else none)
        else
        (bif Nat.beq x 47 then some Try.f47 else none))
       else
       (bif Nat.blt x 49 then
        (bif Nat.beq x 48 then some Try.f48 else none)
        else
        (bif Nat.beq x 49 then some Try.f49 else none))))
     else
     (bif Nat.blt x 54 then
      (bif Nat.blt x 52 then
       (bif Nat.blt x 51 then
        (bif Nat.beq x 50 then some Try.f50 else none)
        else
        (bif Nat.beq x 51 then some Try.f51 else none))
       else
       (bif Nat.blt x 53 then
        (bif Nat.beq x 52 then some Try.f52 else none)
        else
        (bif Nat.beq x 53 then some Try.f53 else none)))
      else
      (bif Nat.blt x 56 then
       (bif Nat.blt x 55 then
        (bif Nat.beq x 54 then some Try.f54 else none)
        else
        (bif Nat.beq x 55 then some Try.f55 else none))
       else
       (bif Nat.blt x 57 then
        (bif Nat.beq x 56 then some Try.f56 else none)
        else
        (bif Nat.beq x 57 then some Try.f57 else none)))))))
  else
  (bif Nat.blt x 87 then
   (bif Nat.blt x 72 then
    (bif Nat.blt x 65 then
     (bif Nat.blt x 61 then
      (bif Nat.blt x 59 then
       (bif Nat.beq x 58 then some Try.f58 else none)
       else
       (bif Nat.blt x 60 then
        (bif Nat.beq x 59 then some Try.f59 else none)
        else
        (bif Nat.beq x 60 then some Try.f60 else none)))
      else
      (bif Nat.blt x 63 then
       (bif Nat.blt x 62 then
        (bif Nat.beq x 61 then some Try.f61 else none)
        else
        (bif Nat.beq x 62 then some Try.f62 else none))
       else
       (bif Nat.blt x 64 then
        (bif Nat.beq x 63 then some Try.f63 else none)
        else
        (bif Nat.beq x 64 then some Try.f64 else none))))
     else
     (bif Nat.blt x 68 then
      (bif Nat.blt x 66 then
       (bif Nat.beq x 65 then some Try.f65 else none)
       else
       (bif Nat.blt x 67 then
        (bif Nat.beq x 66 then some Try.f66 else none)
        else
        (bif Nat.beq x 67 then some Try.f67 else none)))
      else
      (bif Nat.blt x 70 then
       (bif Nat.blt x 69 then
        (bif Nat.beq x 68 then some Try.f68 else none)
        else
        (bif Nat.beq x 69 then some Try.f69 else none))
       else
       (bif Nat.blt x 71 then
        (bif Nat.beq x 70 then some Try.f70 else none)
        else
        (bif Nat.beq x 71 then some Try.f71 else none)))))
    else
    (bif Nat.blt x 79 then
     (bif Nat.blt x 75 then
      (bif Nat.blt x 73 then
       (bif Nat.beq x 72 then some Try.f72 else none)
       else
       (bif Nat.blt x 74 then
        (bif Nat.beq x 73 then some Try.f73 else none)
        else
        (bif Nat.beq x 74 then some Try.f74 else none)))
      else
      (bif Nat.blt x 77 then
       (bif Nat.blt x 76 then
        (bif Nat.beq x 75 then some Try.f75 else none)
        else
        (bif Nat.beq x 76 then some Try.f76 else none))
       else
       (bif Nat.blt x 78 then
        (bif Nat.beq x 77 then some Try.f77 else none)
        else
        (bif Nat.beq x 78 then some Try.f78 else none))))
     else
     (bif Nat.blt x 83 then
      (bif Nat.blt x 81 then
       (bif Nat.blt x 80 then
        (bif Nat.beq x 79 then some Try.f79 else none)
        else
        (bif Nat.beq x 80 then some Try.f80 else none))
       else
       (bif Nat.blt x 82 then
        (bif Nat.beq x 81 then some Try.f81 else none)
        else
        (bif Nat.beq x 82 then some Try.f82 else none)))
      else
      (bif Nat.blt x 85 then
       (bif Nat.blt x 84 then
        (bif Nat.beq x 83 then some Try.f83 else none)
        else
        (bif Nat.beq x 84 then some Try.f84 else none))
       else
       (bif Nat.blt x 86 then
        (bif Nat.beq x 85 then some Try.f85 else none)
        else
        (bif Nat.beq x 86 then some Try.f86 else none))))))
   else
   (bif Nat.blt x 102 then
    (bif Nat.blt x 94 then
     (bif Nat.blt x 90 then
      (bif Nat.blt x 88 then
       (bif Nat.beq x 87 then some Try.f87 else none)
       else
       (bif Nat.blt x 89 then
        (bif Nat.beq x 88 then some Try.f88 else none)
        else
        (bif Nat.beq x 89 then some Try.f89 else none)))
      else
      (bif Nat.blt x 92 then
       (bif Nat.blt x 91 then
        (bif Nat.beq x 90 then some Try.f90 else none)
        else
        (bif Nat.beq x 91 then some Try.f91 else none))
       else
       (bif Nat.blt x 93 then
        (bif Nat.beq x 92 then some Try.f92 else none)
        else
        (bif Nat.beq x 93 then some Try.f93 else none))))
     else
     (bif Nat.blt x 98 then
      (bif Nat.blt x 96 then
       (bif Nat.blt x 95 then
        (bif Nat.beq x 94 then some Try.f94 else none)
        else
        (bif Nat.beq x 95 then some Try.f95 else none))
       else
       (bif Nat.blt x 97 then
        (bif Nat.beq x 96 then some Try.f96 else none)
        else
        (bif Nat.beq x 97 then some Try.f97 else none)))
      else
      (bif Nat.blt x 100 then
       (bif Nat.blt x 99 then
        (bif Nat.beq x 98 then some Try.f98 else none)
        else
        (bif Nat.beq x 99 then some Try.f99 else none))
       else
       (bif Nat.blt x 101 then
        (bif Nat.beq x 100 then some Try.f100 else none)
        else
        (bif Nat.beq x 101 then some Try.f101 else none)))))
    else
    (bif Nat.blt x 109 then
     (bif Nat.blt x 105 then
      (bif Nat.blt x 103 then
       (bif Nat.beq x 102 then some Try.f102 else none)
       else
       (bif Nat.blt x 104 then
        (bif Nat.beq x 103 then some Try.f103 else none)
        else
        (bif Nat.beq x 104 then some Try.f104 else none)))
      else
      (bif Nat.blt x 107 then
       (bif Nat.blt x 106 then
        (bif Nat.beq x 105 then some Try.f105 else none)
        else
        (bif Nat.beq x 106 then some Try.f106 else none))
       else
       (bif Nat.blt x 108 then
        (bif Nat.beq x 107 then some Try.f107 else none)
        else
        (bif Nat.beq x 108 then some Try.f108 else none))))
     else
     (bif Nat.blt x 113 then
      (bif Nat.blt x 111 then
       (bif Nat.blt x 110 then
        (bif Nat.beq x 109 then some Try.f109 else none)
        else
        (bif Nat.beq x 110 then some Try.f110 else none))
       else
       (bif Nat.blt x 112 then
        (bif Nat.beq x 111 then some Try.f111 else none)
        else
        (bif Nat.beq x 112 then some Try.f112 else none)))
      else
      (bif Nat.blt x 115 then
       (bif Nat.blt x 114 then
        (bif Nat.beq x 113 then some Try.f113 else none)
        else
        (bif Nat.beq x 114 then some Try.f114 else none))
       else
       (bif Nat.blt x 116 then
        (bif Nat.beq x 115 then some Try.f115 else none)
        else
        (bif Nat.beq x 116 then some Try.f116 else none)))))))
/-- strings.IndexByte -/
noncomputable def primIndexByte (args : List AV) (m : Mem) : Option (AOut × Mem) := match args with
  | [.str s, .int .u8 c] => some (.ret (.int .i64 (Lib.indexByte s.data.toList c.toNat.toUInt8)), m)
  | _ => none
noncomputable def mdT (f r i : Nat) : Nat := bif Nat.beq f 60 && Nat.beq r 1 && Nat.beq i 0 then 1 else bif Nat.beq f 60 && Nat.beq r 1 && Nat.beq i 3 then 1 else bif Nat.beq f 60 && Nat.beq r 3 && Nat.beq i 3 then 1 else bif Nat.beq f 60 && Nat.beq r 21 && Nat.beq i 12 then 1 else bif Nat.beq f 60 && Nat.beq r 21 && Nat.beq i 13 then 1 else bif Nat.beq f 62 && Nat.beq r 1 && Nat.beq i 11 then 1 else bif Nat.beq f 78 && Nat.beq r 3 && Nat.beq i 4 then 1 else 0
noncomputable def primT (f : FuncId) : Option (List AV → Mem → Option (AOut × Mem)) := bif Nat.beq f 97 then some primIndexByte else none
noncomputable def X : Ctx := { T := below 148 tab, look := belowF 117 look, prim := primT, md := mdT, kill := killT, lk := lkT, chk := chkT }
noncomputable def w_l13_UnifyGreat (v0 : AV) (m : Mem) : Option (AOut × Mem) := aW X F_l13_UnifyGreat [v0] m
noncomputable def w_l13_alive (m : Mem) : Option (AOut × Mem) := aW X F_l13_alive [] m
noncomputable def w_unify_Store_Size (v0 v1 : AV) (m : Mem) : Option (AOut × Mem) := aW X F_unify_Store_Size [v0, v1] m
noncomputable def w_unify_Store_Types (v0 v1 : AV) (m : Mem) : Option (AOut × Mem) := aW X F_unify_Store_Types [v0, v1] m
noncomputable def w_unify_Store_Alike (v0 v1 v2 : AV) (m : Mem) : Option (AOut × Mem) := aW X F_unify_Store_Alike [v0, v1, v2] m
noncomputable def w_unify_Store_Unify (v0 v1 v2 : AV) (m : Mem) : Option (AOut × Mem) := aW X F_unify_Store_Unify [v0, v1, v2] m
noncomputable def w_unify_New (m : Mem) : Option (AOut × Mem) := aW X F_unify_New [] m
noncomputable def w_unify_Store_Var (v0 : AV) (m : Mem) : Option (AOut × Mem) := aW X F_unify_Store_Var [v0] m
noncomputable def w_unify_Store_Pair (v0 v1 : AV) (m : Mem) : Option (AOut × Mem) := aW X F_unify_Store_Pair [v0, v1] m
noncomputable def w_unify_Store_there (v0 v1 : AV) (m : Mem) : Option (AOut × Mem) := aW X F_unify_Store_there [v0, v1] m
noncomputable def w_unify_Store_size (v0 v1 v2 : AV) (m : Mem) : Option (AOut × Mem) := aW X F_unify_Store_size [v0, v1, v2] m
noncomputable def w_unify_Store_typ (v0 v1 v2 : AV) (m : Mem) : Option (AOut × Mem) := aW X F_unify_Store_typ [v0, v1, v2] m
noncomputable def w_unify_Store_merge (v0 v1 v2 v3 : AV) (m : Mem) : Option (AOut × Mem) := aW X F_unify_Store_merge [v0, v1, v2, v3] m
noncomputable def w_unify_Store_undo (v0 : AV) (m : Mem) : Option (AOut × Mem) := aW X F_unify_Store_undo [v0] m
noncomputable def w_unify_Store_rounds (v0 v1 v2 : AV) (m : Mem) : Option (AOut × Mem) := aW X F_unify_Store_rounds [v0, v1, v2] m
noncomputable def w_unify_Store_add (v0 v1 v2 v3 : AV) (m : Mem) : Option (AOut × Mem) := aW X F_unify_Store_add [v0, v1, v2, v3] m
noncomputable def w_slices_ContainsFunc (v0 v1 : AV) (m : Mem) : Option (AOut × Mem) := aW X F_slices_ContainsFunc [v0, v1] m
noncomputable def w_unify_Store_there_1 (v0 v1 : AV) (m : Mem) : Option (AOut × Mem) := aW X F_unify_Store_there_1 [v0, v1] m
noncomputable def w_unify_Store_find (v0 v1 : AV) (m : Mem) : Option (AOut × Mem) := aW X F_unify_Store_find [v0, v1] m
noncomputable def w_unify_Store_link (v0 v1 v2 : AV) (m : Mem) : Option (AOut × Mem) := aW X F_unify_Store_link [v0, v1, v2] m
noncomputable def w_unify_Store_heads (v0 v1 v2 : AV) (m : Mem) : Option (AOut × Mem) := aW X F_unify_Store_heads [v0, v1, v2] m
noncomputable def w_slices_Clone (v0 : AV) (m : Mem) : Option (AOut × Mem) := aW X F_slices_Clone [v0] m
noncomputable def w_slices_IndexFunc (v0 v1 : AV) (m : Mem) : Option (AOut × Mem) := aW X F_slices_IndexFunc [v0, v1] m
end Go.AM
