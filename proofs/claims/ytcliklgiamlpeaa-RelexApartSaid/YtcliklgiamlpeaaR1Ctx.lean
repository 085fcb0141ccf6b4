/-
  A part of the proof: equations or tables of the program over the abstract machine, printed by a program of this proof's own.
-/
import Derived.Test.YtcliklgiamlpeaaAMRed
import Derived.Lib.Bytealg
import Derived.Test.YtcliklgiamlpeaaProg
namespace Go.AM
open Go.Proofs
set_option maxRecDepth 100000
set_option linter.unusedVariables false

def F_l08_LexMoved : FuncId := 3
def F_l08_LexAgain : FuncId := 4
def F_l08_LexMunch : FuncId := 5
def F_l08_LexWords : FuncId := 6
def F_l09_RelexEdits : FuncId := 7
def F_l09_RelexRows : FuncId := 8
def F_l09_RelexNothing : FuncId := 9
def F_l09_RelexSpans : FuncId := 10
def F_l09_RelexApart : FuncId := 11
def F_l08_alive : FuncId := 12
def F_lex_Lex : FuncId := 13
def F_r00_SameTokens : FuncId := 14
def F_lex_Word : FuncId := 15
def F_lex_Kind : FuncId := 16
def F_r08_Word : FuncId := 17
def F_lex_Is : FuncId := 18
def F_r08_Is : FuncId := 19
def F_r08_Kind : FuncId := 20
def F_l09_alive : FuncId := 21
def F_r08_Lex : FuncId := 22
def F_r00_CopyTokens : FuncId := 23
def F_relex_Relex : FuncId := 24
def F_r09_Relex : FuncId := 25
def F_l09_sameSpans : FuncId := 26
def F_relex_Spans : FuncId := 27
def F_r09_Spans : FuncId := 28
def F_lex_run : FuncId := 29
def F_strings_HasPrefix : FuncId := 30
def F_lex_remark : FuncId := 31
def F_lex_one : FuncId := 32
def F_lex_nothing : FuncId := 33
def F_r08_white : FuncId := 34
def F_r08_at : FuncId := 35
def F_r08_remark : FuncId := 36
def F_r08_one : FuncId := 37
def F_slices_Clone : FuncId := 38
def F_relex_moved : FuncId := 39
def F_relex_window_meets : FuncId := 40
def F_lex_has : FuncId := 41
def F_i_stringslite_HasPrefix : FuncId := 42
def F_lex_named : FuncId := 43
def F_lex_signs : FuncId := 44
def F_r08_small : FuncId := 45
def F_r08_great : FuncId := 46
def F_r08_digit : FuncId := 47
def F_r08_words : FuncId := 48
def F_r08_signs : FuncId := 49
def F_slices_BinarySearchFunc : FuncId := 50
def F_relex_window_meets_1 : FuncId := 51
def F_strings_IndexByte : FuncId := 52
def F_slices_Contains : FuncId := 53
def F_lex_keys : FuncId := 54
def F_i_stringslite_IndexByte : FuncId := 55
def F_slices_Index : FuncId := 56
def F_i_bytealg_IndexByteString : FuncId := 57
def F_runtime_boundsError_Error : FuncId := 58
def F_runtime_boundsError_RuntimeError : FuncId := 59
def F_runtime_errorString_Error : FuncId := 60
def F_runtime_errorString_RuntimeError : FuncId := 61
def F_runtime_plainError_Error : FuncId := 62
def F_runtime_plainError_RuntimeError : FuncId := 63
def F_runtime_errorAddressString_Error : FuncId := 64
def F_runtime_errorAddressString_RuntimeError : FuncId := 65
def F_runtime_TypeAssertionError_Error : FuncId := 66
def F_runtime_TypeAssertionError_RuntimeError : FuncId := 67
def F_runtime_PanicNilError_Error : FuncId := 68
def F_runtime_PanicNilError_RuntimeError : FuncId := 69
def F_i_abi_Type_Align : FuncId := 70
def F_i_runtime_maps_unhashableTypeError_Error : FuncId := 71
def F_i_runtime_maps_unhashableTypeError_RuntimeError : FuncId := 72
def F_api_Errno_Error : FuncId := 73
def F_i_abi_Kind_String : FuncId := 74
def T_Tuf9065fa7 : TypeId := 0
def T_Fu023062f9 : TypeId := 1
def T_int64 : TypeId := 2
def T_int : TypeId := 3
def T_bool : TypeId := 4
def T_uint8 : TypeId := 5
def T_i_abi_BoundsErrorCode : TypeId := 6
def T_St81e5bf47 : TypeId := 7
def T_runtime_boundsError : TypeId := 8
def T_string : TypeId := 9
def T_runtime_errorString : TypeId := 10
def T_runtime_plainError : TypeId := 11
def T_uintptr : TypeId := 12
def T_St9bc4a9ed : TypeId := 13
def T_runtime_errorAddressString : TypeId := 14
def T_Pt_runtime_TypeAssertionError : TypeId := 15
def T_Pt_runtime_PanicNilError : TypeId := 16
def T_Pt_i_abi_Type : TypeId := 17
def T_St6875f2e4 : TypeId := 18
def T_i_runtime_maps_unhashableTypeError : TypeId := 19
def T_Ind55386e6 : TypeId := 20
def T_int32 : TypeId := 21
def T_Fua86e39ea : TypeId := 22
def T_Sl_uint8 : TypeId := 23
def T_Sl_api_Token : TypeId := 24
def T_Fub576b0cf : TypeId := 25
def T_Std5da700e : TypeId := 26
def T_api_Token : TypeId := 27
def T_Fu1d5e1b64 : TypeId := 28
def T_Fu635d4d9e : TypeId := 29
def T_Fu30945291 : TypeId := 30
def T_Fu807c979e : TypeId := 31
def T_Fu099c2273 : TypeId := 32
def T_Fuf18f648a : TypeId := 33
def T_Fu8068f2a6 : TypeId := 34
def T_api_Errno : TypeId := 35
def T_Tu35b8f6c8 : TypeId := 36
def T_Fubd0527d2 : TypeId := 37
def T_Fu54bc61de : TypeId := 38
def T_Sl_l09_Cut : TypeId := 39
def T_Stb465f3c3 : TypeId := 40
def T_l09_Cut : TypeId := 41
def T_Fu15eac6b1 : TypeId := 42
def T_Fuc35b23f1 : TypeId := 43
def T_Fu26eab26b : TypeId := 44
def T_Sl_Ar2_int : TypeId := 45
def T_Fua45f0572 : TypeId := 46
def T_Fu497c50f0 : TypeId := 47
def T_Ar2_int : TypeId := 48
def T_Fu087c92e7 : TypeId := 49
def T_Fu813d3edf : TypeId := 50
def T_Tu2181d8a5 : TypeId := 51
def T_Fu226b8d62 : TypeId := 52
def T_Tu43ad5f34 : TypeId := 53
def T_Fu907b2f29 : TypeId := 54
def T_Fu5d9e48bd : TypeId := 55
def T_Fu6fbfa57d : TypeId := 56
def T_Fu53e69abb : TypeId := 57
def T_Fu2788d4c2 : TypeId := 58
def T_Stc87b1d79 : TypeId := 59
def T_relex_window : TypeId := 60
def T_Fue925abd1 : TypeId := 61
def T_Fu0929c1ed : TypeId := 62
def T_Fub4aa9118 : TypeId := 63
def T_Sl_string : TypeId := 64
def T_Fub15779ac : TypeId := 65
def T_Ar13_string : TypeId := 66
def T_Fu6382c0aa : TypeId := 67
def T_Fu80a6981a : TypeId := 68
def T_Fu8c6ec4a2 : TypeId := 69
def T_Fubb15e539 : TypeId := 70
def T_Fu14702e99 : TypeId := 71
def T_uint : TypeId := 72
def T_Fu9b98210a : TypeId := 73
def T_Fu6c675901 : TypeId := 74
def T_St6911b8de : TypeId := 75
def T_runtime_TypeAssertionError : TypeId := 76
def T_Ar0_Pt_runtime_PanicNilError : TypeId := 77
def T_St674f3b58 : TypeId := 78
def T_runtime_PanicNilError : TypeId := 79
def T_Fu92c41c8d : TypeId := 80
def T_uint32 : TypeId := 81
def T_i_abi_TFlag : TypeId := 82
def T_i_abi_Kind : TypeId := 83
def T_Fu0a8967c6 : TypeId := 84
def T_Pt_uint8 : TypeId := 85
def T_i_abi_NameOff : TypeId := 86
def T_i_abi_TypeOff : TypeId := 87
def T_Stcd6355c1 : TypeId := 88
def T_i_abi_Type : TypeId := 89
def T_unsafe_Pointer : TypeId := 90
def A_Fu023062f9 : AT := ⟨.func, 1, 8, .nilf, false, false⟩
def A_int64 : AT := ⟨.int .i64, 1, 8, .int .i64 0, false, true⟩
def A_int : AT := ⟨.int .i64, 1, 8, .int .i64 0, false, true⟩
def A_bool : AT := ⟨.bool, 1, 1, .bool false, false, true⟩
def A_uint8 : AT := ⟨.int .u8, 1, 1, .int .u8 0, false, true⟩
def A_i_abi_BoundsErrorCode : AT := ⟨.int .u8, 1, 1, .int .u8 0, false, true⟩
def A_string : AT := ⟨.str, 1, 16, .str (bs []), false, true⟩
def A_runtime_errorString : AT := ⟨.str, 1, 16, .str (bs []), false, true⟩
def A_runtime_plainError : AT := ⟨.str, 1, 16, .str (bs []), false, true⟩
def A_uintptr : AT := ⟨.int .u64, 1, 8, .int .u64 0, false, true⟩
def A_Pt_runtime_TypeAssertionError : AT := ⟨.ptr 76, 1, 8, .nilp, false, true⟩
def A_Pt_runtime_PanicNilError : AT := ⟨.ptr 79, 1, 8, .nilp, false, true⟩
def A_Pt_i_abi_Type : AT := ⟨.ptr 89, 1, 8, .nilp, false, true⟩
def A_Ind55386e6 : AT := ⟨.iface true, 1, 16, .nili, false, true⟩
def A_int32 : AT := ⟨.int .i32, 1, 4, .int .i32 0, false, true⟩
def A_Fua86e39ea : AT := ⟨.func, 1, 8, .nilf, false, false⟩
def A_Sl_uint8 : AT := ⟨.slice 5, 1, 24, .nils, false, false⟩
def A_Sl_api_Token : AT := ⟨.slice 27, 1, 24, .nils, false, false⟩
def A_Fub576b0cf : AT := ⟨.func, 1, 8, .nilf, false, false⟩
def A_Std5da700e : AT := ⟨.strct [(0, 3, true), (1, 3, true), (2, 3, true)], 3, 24, .agg [.int .i64 0, .int .i64 0, .int .i64 0], false, true⟩
def A_api_Token : AT := ⟨.strct [(0, 3, true), (1, 3, true), (2, 3, true)], 3, 24, .agg [.int .i64 0, .int .i64 0, .int .i64 0], false, true⟩
def A_Fu1d5e1b64 : AT := ⟨.func, 1, 8, .nilf, false, false⟩
def A_Fu635d4d9e : AT := ⟨.func, 1, 8, .nilf, false, false⟩
def A_Fu30945291 : AT := ⟨.func, 1, 8, .nilf, false, false⟩
def A_Fu807c979e : AT := ⟨.func, 1, 8, .nilf, false, false⟩
def A_Fu099c2273 : AT := ⟨.func, 1, 8, .nilf, false, false⟩
def A_Fuf18f648a : AT := ⟨.func, 1, 8, .nilf, false, false⟩
def A_Fu8068f2a6 : AT := ⟨.func, 1, 8, .nilf, false, false⟩
def A_api_Errno : AT := ⟨.int .i64, 1, 8, .int .i64 0, false, true⟩
def A_Fubd0527d2 : AT := ⟨.func, 1, 8, .nilf, false, false⟩
def A_Fu54bc61de : AT := ⟨.func, 1, 8, .nilf, false, false⟩
def A_Sl_l09_Cut : AT := ⟨.slice 41, 1, 24, .nils, false, false⟩
def A_Stb465f3c3 : AT := ⟨.strct [(0, 3, true), (1, 3, true), (2, 9, true)], 3, 32, .agg [.int .i64 0, .int .i64 0, .str (bs [])], false, true⟩
def A_l09_Cut : AT := ⟨.strct [(0, 3, true), (1, 3, true), (2, 9, true)], 3, 32, .agg [.int .i64 0, .int .i64 0, .str (bs [])], false, true⟩
def A_Fu15eac6b1 : AT := ⟨.func, 1, 8, .nilf, false, false⟩
def A_Fuc35b23f1 : AT := ⟨.func, 1, 8, .nilf, false, false⟩
def A_Fu26eab26b : AT := ⟨.func, 1, 8, .nilf, false, false⟩
def A_Sl_Ar2_int : AT := ⟨.slice 48, 1, 24, .nils, false, false⟩
def A_Fua45f0572 : AT := ⟨.func, 1, 8, .nilf, false, false⟩
def A_Fu497c50f0 : AT := ⟨.func, 1, 8, .nilf, false, false⟩
def A_Ar2_int : AT := ⟨.arr 2 3, 2, 16, .agg [.int .i64 0, .int .i64 0], false, true⟩
def A_Fu087c92e7 : AT := ⟨.func, 1, 8, .nilf, false, false⟩
def A_Fu813d3edf : AT := ⟨.func, 1, 8, .nilf, false, false⟩
def A_Fu226b8d62 : AT := ⟨.func, 1, 8, .nilf, false, false⟩
def A_Fu907b2f29 : AT := ⟨.func, 1, 8, .nilf, false, false⟩
def A_Fu5d9e48bd : AT := ⟨.func, 1, 8, .nilf, false, false⟩
def A_Fu6fbfa57d : AT := ⟨.func, 1, 8, .nilf, false, false⟩
def A_Fu53e69abb : AT := ⟨.func, 1, 8, .nilf, false, false⟩
def A_Fu2788d4c2 : AT := ⟨.func, 1, 8, .nilf, false, false⟩
def A_Stc87b1d79 : AT := ⟨.strct [(0, 24, true), (1, 3, true)], 2, 32, .agg [.nils, .int .i64 0], false, false⟩
def A_relex_window : AT := ⟨.strct [(0, 24, true), (1, 3, true)], 2, 32, .agg [.nils, .int .i64 0], false, false⟩
def A_Fue925abd1 : AT := ⟨.func, 1, 8, .nilf, false, false⟩
def A_Fu0929c1ed : AT := ⟨.func, 1, 8, .nilf, false, false⟩
def A_Fub4aa9118 : AT := ⟨.func, 1, 8, .nilf, false, false⟩
def A_Sl_string : AT := ⟨.slice 9, 1, 24, .nils, false, false⟩
def A_Fub15779ac : AT := ⟨.func, 1, 8, .nilf, false, false⟩
def A_Ar13_string : AT := ⟨.arr 13 9, 13, 208, .agg [.str (bs []), .str (bs []), .str (bs []), .str (bs []), .str (bs []), .str (bs []), .str (bs []), .str (bs []), .str (bs []), .str (bs []), .str (bs []), .str (bs []), .str (bs [])], false, true⟩
def A_Fu6382c0aa : AT := ⟨.func, 1, 8, .nilf, false, false⟩
def A_Fu80a6981a : AT := ⟨.func, 1, 8, .nilf, false, false⟩
def A_Fu8c6ec4a2 : AT := ⟨.func, 1, 8, .nilf, false, false⟩
def A_Fubb15e539 : AT := ⟨.func, 1, 8, .nilf, false, false⟩
def A_Fu14702e99 : AT := ⟨.func, 1, 8, .nilf, false, false⟩
def A_uint : AT := ⟨.int .u64, 1, 8, .int .u64 0, false, true⟩
def A_Fu9b98210a : AT := ⟨.func, 1, 8, .nilf, false, false⟩
def A_Fu6c675901 : AT := ⟨.func, 1, 8, .nilf, false, false⟩
def A_Ar0_Pt_runtime_PanicNilError : AT := ⟨.arr 0 16, 0, 0, .agg [], false, true⟩
def A_Fu92c41c8d : AT := ⟨.func, 1, 8, .nilf, false, false⟩
def A_uint32 : AT := ⟨.int .u32, 1, 4, .int .u32 0, false, true⟩
def A_i_abi_TFlag : AT := ⟨.int .u8, 1, 1, .int .u8 0, false, true⟩
def A_i_abi_Kind : AT := ⟨.int .u8, 1, 1, .int .u8 0, false, true⟩
def A_Fu0a8967c6 : AT := ⟨.func, 1, 8, .nilf, false, false⟩
def A_Pt_uint8 : AT := ⟨.ptr 5, 1, 8, .nilp, false, true⟩
def A_i_abi_NameOff : AT := ⟨.int .i32, 1, 4, .int .i32 0, false, true⟩
def A_i_abi_TypeOff : AT := ⟨.int .i32, 1, 4, .int .i32 0, false, true⟩
noncomputable def tab (x : Nat) : Option AT := bif Nat.blt x 45 then
  (bif Nat.blt x 25 then
   (bif Nat.blt x 12 then
    (bif Nat.blt x 5 then
     (bif Nat.blt x 3 then
      (bif Nat.blt x 2 then
       (bif Nat.beq x 1 then some A_Fu023062f9 else none)
       else
       (bif Nat.beq x 2 then some A_int64 else none))
      else
      (bif Nat.blt x 4 then
       (bif Nat.beq x 3 then some A_int else none)
       else
       (bif Nat.beq x 4 then some A_bool else none)))
     else
     (bif Nat.blt x 9 then
      (bif Nat.blt x 6 then
       (bif Nat.beq x 5 then some A_uint8 else none)
       else
       (bif Nat.beq x 6 then some A_i_abi_BoundsErrorCode else none))
      else
      (bif Nat.blt x 10 then
       (bif Nat.beq x 9 then some A_string else none)
       else
       (bif Nat.blt x 11 then
        (bif Nat.beq x 10 then some A_runtime_errorString else none)
        else
        (bif Nat.beq x 11 then some A_runtime_plainError else none)))))
    else
    (bif Nat.blt x 20 then
     (bif Nat.blt x 16 then
      (bif Nat.blt x 15 then
       (bif Nat.beq x 12 then some A_uintptr else none)
       else
       (bif Nat.beq x 15 then some A_Pt_runtime_TypeAssertionError else none))
      else
      (bif Nat.blt x 17 then
       (bif Nat.beq x 16 then some A_Pt_runtime_PanicNilError else none)
       else
       (bif Nat.beq x 17 then some A_Pt_i_abi_Type else none)))
     else
     (bif Nat.blt x 22 then
      (bif Nat.blt x 21 then
       (bif Nat.beq x 20 then some A_Ind55386e6 else none)
       else
       (bif Nat.beq x 21 then some A_int32 else none))
      else
      (bif Nat.blt x 23 then
       (bif Nat.beq x 22 then some A_Fua86e39ea else none)
       else
       (bif Nat.blt x 24 then
        (bif Nat.beq x 23 then some A_Sl_uint8 else none)
        else
        (bif Nat.beq x 24 then some A_Sl_api_Token else none))))))
   else
   (bif Nat.blt x 34 then
    (bif Nat.blt x 29 then
     (bif Nat.blt x 27 then
      (bif Nat.blt x 26 then
       (bif Nat.beq x 25 then some A_Fub576b0cf else none)
       else
       (bif Nat.beq x 26 then some A_Std5da700e else none))
      else
      (bif Nat.blt x 28 then
       (bif Nat.beq x 27 then some A_api_Token else none)
       else
       (bif Nat.beq x 28 then some A_Fu1d5e1b64 else none)))
     else
     (bif Nat.blt x 31 then
      (bif Nat.blt x 30 then
       (bif Nat.beq x 29 then some A_Fu635d4d9e else none)
       else
       (bif Nat.beq x 30 then some A_Fu30945291 else none))
      else
      (bif Nat.blt x 32 then
       (bif Nat.beq x 31 then some A_Fu807c979e else none)
       else
       (bif Nat.blt x 33 then
        (bif Nat.beq x 32 then some A_Fu099c2273 else none)
        else
        (bif Nat.beq x 33 then some A_Fuf18f648a else none)))))
    else
    (bif Nat.blt x 40 then
     (bif Nat.blt x 37 then
      (bif Nat.blt x 35 then
       (bif Nat.beq x 34 then some A_Fu8068f2a6 else none)
       else
       (bif Nat.beq x 35 then some A_api_Errno else none))
      else
      (bif Nat.blt x 38 then
       (bif Nat.beq x 37 then some A_Fubd0527d2 else none)
       else
       (bif Nat.blt x 39 then
        (bif Nat.beq x 38 then some A_Fu54bc61de else none)
        else
        (bif Nat.beq x 39 then some A_Sl_l09_Cut else none))))
     else
     (bif Nat.blt x 42 then
      (bif Nat.blt x 41 then
       (bif Nat.beq x 40 then some A_Stb465f3c3 else none)
       else
       (bif Nat.beq x 41 then some A_l09_Cut else none))
      else
      (bif Nat.blt x 43 then
       (bif Nat.beq x 42 then some A_Fu15eac6b1 else none)
       else
       (bif Nat.blt x 44 then
        (bif Nat.beq x 43 then some A_Fuc35b23f1 else none)
        else
        (bif Nat.beq x 44 then some A_Fu26eab26b else none)))))))
  else
  (bif Nat.blt x 65 then
   (bif Nat.blt x 56 then
    (bif Nat.blt x 49 then
     (bif Nat.blt x 47 then
      (bif Nat.blt x 46 then
       (bif Nat.beq x 45 then some A_Sl_Ar2_int else none)
       else
       (bif Nat.beq x 46 then some A_Fua45f0572 else none))
      else
      (bif Nat.blt x 48 then
       (bif Nat.beq x 47 then some A_Fu497c50f0 else none)
       else
       (bif Nat.beq x 48 then some A_Ar2_int else none)))
     else
     (bif Nat.blt x 52 then
      (bif Nat.blt x 50 then
       (bif Nat.beq x 49 then some A_Fu087c92e7 else none)
       else
       (bif Nat.beq x 50 then some A_Fu813d3edf else none))
      else
      (bif Nat.blt x 54 then
       (bif Nat.beq x 52 then some A_Fu226b8d62 else none)
       else
       (bif Nat.blt x 55 then
        (bif Nat.beq x 54 then some A_Fu907b2f29 else none)
        else
        (bif Nat.beq x 55 then some A_Fu5d9e48bd else none)))))
    else
    (bif Nat.blt x 60 then
     (bif Nat.blt x 58 then
      (bif Nat.blt x 57 then
       (bif Nat.beq x 56 then some A_Fu6fbfa57d else none)
       else
       (bif Nat.beq x 57 then some A_Fu53e69abb else none))
      else
      (bif Nat.blt x 59 then
       (bif Nat.beq x 58 then some A_Fu2788d4c2 else none)
       else
       (bif Nat.beq x 59 then some A_Stc87b1d79 else none)))
     else
     (bif Nat.blt x 62 then
      (bif Nat.blt x 61 then
       (bif Nat.beq x 60 then some A_relex_window else none)
       else
       (bif Nat.beq x 61 then some A_Fue925abd1 else none))
      else
      (bif Nat.blt x 63 then
       (bif Nat.beq x 62 then some A_Fu0929c1ed else none)
       else
       (bif Nat.blt x 64 then
        (bif Nat.beq x 63 then some A_Fub4aa9118 else none)
        else
        (bif Nat.beq x 64 then some A_Sl_string else none))))))
   else
   (bif Nat.blt x 74 then
    (bif Nat.blt x 69 then
     (bif Nat.blt x 67 then
      (bif Nat.blt x 66 then
       (bif Nat.beq x 65 then some A_Fub15779ac else none)
       else
       (bif Nat.beq x 66 then some A_Ar13_string else none))
      else
      (bif Nat.blt x 68 then
       (bif Nat.beq x 67 then some A_Fu6382c0aa else none)
       else
       (bif Nat.beq x 68 then some A_Fu80a6981a else none)))
     else
     (bif Nat.blt x 71 then
      (bif Nat.blt x 70 then
       (bif Nat.beq x 69 then some A_Fu8c6ec4a2 else none)
       else
       (bif Nat.beq x 70 then some A_Fubb15e539 else none))
      else
      (bif Nat.blt x 72 then
       (bif Nat.beq x 71 then some A_Fu14702e99 else none)
       else
       (bif Nat.blt x 73 then
        (bif Nat.beq x 72 then some A_uint else none)
        else
        (bif Nat.beq x 73 then some A_Fu9b98210a else none)))))
    else
    (bif Nat.blt x 83 then
     (bif Nat.blt x 80 then
      (bif Nat.blt x 77 then
       (bif Nat.beq x 74 then some A_Fu6c675901 else none)
       else
       (bif Nat.beq x 77 then some A_Ar0_Pt_runtime_PanicNilError else none))
      else
      (bif Nat.blt x 81 then
       (bif Nat.beq x 80 then some A_Fu92c41c8d else none)
       else
       (bif Nat.blt x 82 then
        (bif Nat.beq x 81 then some A_uint32 else none)
        else
        (bif Nat.beq x 82 then some A_i_abi_TFlag else none))))
     else
     (bif Nat.blt x 85 then
      (bif Nat.blt x 84 then
       (bif Nat.beq x 83 then some A_i_abi_Kind else none)
       else
       (bif Nat.beq x 84 then some A_Fu0a8967c6 else none))
      else
      (bif Nat.blt x 86 then
       (bif Nat.beq x 85 then some A_Pt_uint8 else none)
       else
       (bif Nat.blt x 87 then
        (bif Nat.beq x 86 then some A_i_abi_NameOff else none)
        else
        (bif Nat.beq x 87 then some A_i_abi_TypeOff else none)))))))
noncomputable def killT3 (x : Nat) : List Nat := bif Nat.blt x 11 then
  (bif Nat.blt x 5 then
   (bif Nat.blt x 2 then
    (bif Nat.blt x 1 then
     (bif Nat.beq x 0 then [4] else [])
     else
     (bif Nat.beq x 1 then [10] else []))
    else
    (bif Nat.blt x 3 then
     (bif Nat.beq x 2 then [0, 1] else [])
     else
     (bif Nat.blt x 4 then
      (bif Nat.beq x 3 then [12, 13, 14, 15, 16, 17, 18, 19, 20, 21] else [])
      else
      (bif Nat.beq x 4 then [0, 1] else []))))
   else
   (bif Nat.blt x 8 then
    (bif Nat.blt x 7 then
     (bif Nat.beq x 5 then [23] else [])
     else
     (bif Nat.beq x 7 then [24, 25] else []))
    else
    (bif Nat.blt x 9 then
     (bif Nat.beq x 8 then [27, 28] else [])
     else
     (bif Nat.blt x 10 then
      (bif Nat.beq x 9 then [29, 30, 31, 32] else [])
      else
      (bif Nat.beq x 10 then [1, 6, 33, 34] else [])))))
  else
  (bif Nat.blt x 17 then
   (bif Nat.blt x 13 then
    (bif Nat.blt x 12 then
     (bif Nat.beq x 11 then [35, 36, 37, 38, 39] else [])
     else
     (bif Nat.beq x 12 then [40, 41, 42, 43] else []))
    else
    (bif Nat.blt x 15 then
     (bif Nat.beq x 13 then [0, 5, 7, 8] else [])
     else
     (bif Nat.blt x 16 then
      (bif Nat.beq x 15 then [45, 46, 47] else [])
      else
      (bif Nat.beq x 16 then [49, 50] else []))))
   else
   (bif Nat.blt x 19 then
    (bif Nat.blt x 18 then
     (bif Nat.beq x 17 then [51, 52, 53, 54, 55, 56, 57, 58, 59, 60, 61, 62, 63, 64, 65, 66, 67, 68, 69, 70, 71, 72, 73, 74, 75, 76] else [])
     else
     (bif Nat.beq x 18 then [0, 5, 7, 8, 9] else []))
    else
    (bif Nat.blt x 20 then
     (bif Nat.beq x 19 then [8, 9, 78, 79, 80, 81, 82, 83, 84, 85, 86, 87, 88, 89] else [])
     else
     (bif Nat.blt x 21 then
      (bif Nat.beq x 20 then [0, 5, 7] else [])
      else
      (bif Nat.beq x 21 then [0, 5, 7, 91, 92, 93, 94, 95, 96, 97, 98] else [])))))
noncomputable def killT4 (x : Nat) : List Nat := bif Nat.blt x 11 then
  (bif Nat.blt x 5 then
   (bif Nat.blt x 2 then
    (bif Nat.blt x 1 then
     (bif Nat.beq x 0 then [2] else [])
     else
     (bif Nat.beq x 1 then [8] else []))
    else
    (bif Nat.blt x 3 then
     (bif Nat.beq x 2 then [0] else [])
     else
     (bif Nat.blt x 4 then
      (bif Nat.beq x 3 then [10, 11] else [])
      else
      (bif Nat.beq x 4 then [0] else []))))
   else
   (bif Nat.blt x 8 then
    (bif Nat.blt x 6 then
     (bif Nat.beq x 5 then [13, 14] else [])
     else
     (bif Nat.beq x 6 then [15] else []))
    else
    (bif Nat.blt x 9 then
     (bif Nat.beq x 8 then [16, 17, 18] else [])
     else
     (bif Nat.blt x 10 then
      (bif Nat.beq x 9 then [20, 21] else [])
      else
      (bif Nat.beq x 10 then [22, 23, 24, 25, 26] else [])))))
  else
  (bif Nat.blt x 17 then
   (bif Nat.blt x 13 then
    (bif Nat.blt x 12 then
     (bif Nat.beq x 11 then [0, 3, 4, 5] else [])
     else
     (bif Nat.beq x 12 then [28, 29, 30, 31, 32, 33, 34, 35, 36, 37] else []))
    else
    (bif Nat.blt x 14 then
     (bif Nat.beq x 13 then [5, 38, 39, 40] else [])
     else
     (bif Nat.blt x 15 then
      (bif Nat.beq x 14 then [41, 42, 43, 44] else [])
      else
      (bif Nat.beq x 15 then [0, 3, 4, 6] else []))))
   else
   (bif Nat.blt x 19 then
    (bif Nat.blt x 18 then
     (bif Nat.beq x 17 then [46, 47, 48] else [])
     else
     (bif Nat.beq x 18 then [50, 51] else []))
    else
    (bif Nat.blt x 20 then
     (bif Nat.beq x 19 then [52, 53, 54, 55, 56, 57, 58, 59, 60, 61, 62, 63, 64, 65, 66, 67, 68, 69, 70, 71, 72, 73, 74, 75, 76, 77] else [])
     else
     (bif Nat.blt x 21 then
      (bif Nat.beq x 20 then [0, 3, 4, 6, 7] else [])
      else
      (bif Nat.beq x 21 then [0, 3, 4, 6, 7] else [])))))
noncomputable def killT5 (x : Nat) : List Nat := bif Nat.blt x 9 then
  (bif Nat.blt x 4 then
   (bif Nat.blt x 2 then
    (bif Nat.blt x 1 then
     (bif Nat.beq x 0 then [2] else [])
     else
     (bif Nat.beq x 1 then [6] else []))
    else
    (bif Nat.blt x 3 then
     (bif Nat.beq x 2 then [0] else [])
     else
     (bif Nat.beq x 3 then [8, 9] else [])))
   else
   (bif Nat.blt x 7 then
    (bif Nat.blt x 5 then
     (bif Nat.beq x 4 then [0] else [])
     else
     (bif Nat.beq x 5 then [11, 12] else []))
    else
    (bif Nat.blt x 8 then
     (bif Nat.beq x 7 then [13, 14, 15] else [])
     else
     (bif Nat.beq x 8 then [5, 17, 18] else []))))
  else
  (bif Nat.blt x 13 then
   (bif Nat.blt x 11 then
    (bif Nat.blt x 10 then
     (bif Nat.beq x 9 then [19, 20, 21, 22, 23] else [])
     else
     (bif Nat.beq x 10 then [25, 26, 27, 28, 29, 30, 31, 32, 33, 34, 35, 36] else []))
    else
    (bif Nat.blt x 12 then
     (bif Nat.beq x 11 then [0, 3, 4] else [])
     else
     (bif Nat.beq x 12 then [38, 39, 40, 41, 42, 43] else [])))
   else
   (bif Nat.blt x 15 then
    (bif Nat.blt x 14 then
     (bif Nat.beq x 13 then [44, 45, 46, 47, 48, 49, 50, 51, 52, 53, 54, 55, 56] else [])
     else
     (bif Nat.beq x 14 then [58, 59] else []))
    else
    (bif Nat.blt x 16 then
     (bif Nat.beq x 15 then [60, 61, 62, 63, 64, 65, 66, 67, 68] else [])
     else
     (bif Nat.blt x 17 then
      (bif Nat.beq x 16 then [0, 3, 4, 5] else [])
      else
      (bif Nat.beq x 17 then [0, 3, 4] else [])))))
noncomputable def killT6 (x : Nat) : List Nat := bif Nat.blt x 3 then
  (bif Nat.blt x 1 then
   (bif Nat.beq x 0 then [1, 6] else [])
   else
   (bif Nat.blt x 2 then
    (bif Nat.beq x 1 then [7] else [])
    else
    (bif Nat.beq x 2 then [0, 2, 4] else [])))
  else
  (bif Nat.blt x 4 then
   (bif Nat.beq x 3 then [9, 10, 11, 12, 13] else [])
   else
   (bif Nat.blt x 5 then
    (bif Nat.beq x 4 then [0, 2, 4] else [])
    else
    (bif Nat.beq x 5 then [0, 2, 4, 15, 16, 17, 18, 19, 20, 21, 22, 23, 24, 25, 26, 27, 28, 29, 30, 31, 32, 33, 34, 35, 36, 37, 38, 39, 40, 41, 42, 43, 44, 45, 46, 47, 48, 49, 50, 51, 52, 53, 54, 55, 56] else [])))
noncomputable def killT7 (x : Nat) : List Nat := bif Nat.blt x 5 then
  (bif Nat.blt x 2 then
   (bif Nat.blt x 1 then
    (bif Nat.beq x 0 then [8] else [])
    else
    (bif Nat.beq x 1 then [19] else []))
   else
   (bif Nat.blt x 3 then
    (bif Nat.beq x 2 then [0, 1, 2, 3] else [])
    else
    (bif Nat.blt x 4 then
     (bif Nat.beq x 3 then [21, 22, 23, 24, 25] else [])
     else
     (bif Nat.beq x 4 then [0, 1, 2, 3] else []))))
  else
  (bif Nat.blt x 7 then
   (bif Nat.blt x 6 then
    (bif Nat.beq x 5 then [27, 28] else [])
    else
    (bif Nat.beq x 6 then [29, 30, 31, 32, 33] else []))
   else
   (bif Nat.blt x 8 then
    (bif Nat.beq x 7 then [34, 35, 36, 37, 38, 39, 40, 41, 42, 43, 44, 45, 46, 47] else [])
    else
    (bif Nat.blt x 9 then
     (bif Nat.beq x 8 then [0, 1, 2, 3, 48, 49, 50, 51, 52, 53, 54, 55, 56, 57, 58] else [])
     else
     (bif Nat.beq x 9 then [9, 10, 11, 12, 13, 14, 15, 16, 17, 18, 59, 60, 61, 62, 63, 64, 65, 66, 67, 68, 69, 70, 71, 72, 73, 74, 75, 76, 77, 78, 79, 80, 81, 82, 83, 84, 85, 86, 87, 88, 89, 90, 91, 92, 93] else []))))
noncomputable def killT8 (x : Nat) : List Nat := bif Nat.blt x 12 then
  (bif Nat.blt x 5 then
   (bif Nat.blt x 2 then
    (bif Nat.blt x 1 then
     (bif Nat.beq x 0 then [4] else [])
     else
     (bif Nat.beq x 1 then [12] else []))
    else
    (bif Nat.blt x 3 then
     (bif Nat.beq x 2 then [0, 1] else [])
     else
     (bif Nat.blt x 4 then
      (bif Nat.beq x 3 then [14, 15, 16, 17, 18, 19, 20] else [])
      else
      (bif Nat.beq x 4 then [0, 1] else []))))
   else
   (bif Nat.blt x 9 then
    (bif Nat.blt x 7 then
     (bif Nat.beq x 5 then [22, 23] else [])
     else
     (bif Nat.blt x 8 then
      (bif Nat.beq x 7 then [24, 25, 26] else [])
      else
      (bif Nat.beq x 8 then [28, 29] else [])))
    else
    (bif Nat.blt x 10 then
     (bif Nat.beq x 9 then [30, 31, 32, 33] else [])
     else
     (bif Nat.blt x 11 then
      (bif Nat.beq x 10 then [34, 35, 36] else [])
      else
      (bif Nat.beq x 11 then [0, 1, 5, 6, 7] else [])))))
  else
  (bif Nat.blt x 17 then
   (bif Nat.blt x 14 then
    (bif Nat.blt x 13 then
     (bif Nat.beq x 12 then [38, 39, 40, 41, 42, 43, 44, 45, 46, 47, 48, 49, 50, 51] else [])
     else
     (bif Nat.beq x 13 then [52] else []))
    else
    (bif Nat.blt x 15 then
     (bif Nat.beq x 14 then [7, 8, 9, 10, 11, 54, 55, 56, 57, 58, 59, 60, 61, 62, 63, 64, 65, 66, 67, 68, 69, 70, 71, 72, 73] else [])
     else
     (bif Nat.blt x 16 then
      (bif Nat.beq x 15 then [0, 1, 5, 6] else [])
      else
      (bif Nat.beq x 16 then [5, 9, 10, 11, 75, 76, 77, 78, 79, 80, 81, 82, 83, 84, 85, 86, 87, 88, 89, 90, 91, 92, 93, 94, 95, 96, 97, 98, 99, 100, 101, 102, 103, 104, 105] else []))))
   else
   (bif Nat.blt x 20 then
    (bif Nat.blt x 18 then
     (bif Nat.beq x 17 then [0, 1, 6, 7, 8] else [])
     else
     (bif Nat.blt x 19 then
      (bif Nat.beq x 18 then [7, 107, 108, 109, 110, 111, 112, 113, 114, 115, 116, 117, 118] else [])
      else
      (bif Nat.beq x 19 then [8, 119] else [])))
    else
    (bif Nat.blt x 21 then
     (bif Nat.beq x 20 then [120, 121, 122, 123] else [])
     else
     (bif Nat.blt x 22 then
      (bif Nat.beq x 21 then [0, 1, 5, 6] else [])
      else
      (bif Nat.beq x 22 then [0, 1, 5, 6] else [])))))
noncomputable def killT9 (x : Nat) : List Nat := bif Nat.blt x 7 then
  (bif Nat.blt x 3 then
   (bif Nat.blt x 1 then
    (bif Nat.beq x 0 then [6] else [])
    else
    (bif Nat.blt x 2 then
     (bif Nat.beq x 1 then [14] else [])
     else
     (bif Nat.beq x 2 then [0, 1, 2] else [])))
   else
   (bif Nat.blt x 5 then
    (bif Nat.blt x 4 then
     (bif Nat.beq x 3 then [16, 17, 18, 19, 20, 21, 22, 23, 24, 25, 26, 27, 28, 29, 30, 31, 32] else [])
     else
     (bif Nat.beq x 4 then [0, 1, 2] else []))
    else
    (bif Nat.blt x 6 then
     (bif Nat.beq x 5 then [34, 35] else [])
     else
     (bif Nat.beq x 6 then [0, 36, 37, 38, 39, 40, 41, 42, 43, 44, 45, 46, 47, 48, 49] else []))))
  else
  (bif Nat.blt x 12 then
   (bif Nat.blt x 8 then
    (bif Nat.beq x 7 then [8, 11, 50, 51, 52, 53, 54, 55, 56] else [])
    else
    (bif Nat.blt x 11 then
     (bif Nat.beq x 8 then [1, 2, 7, 9, 10] else [])
     else
     (bif Nat.beq x 11 then [58, 59, 60] else [])))
   else
   (bif Nat.blt x 14 then
    (bif Nat.blt x 13 then
     (bif Nat.beq x 12 then [62, 63] else [])
     else
     (bif Nat.beq x 13 then [64, 65, 66, 67, 68, 69, 70, 71, 72, 73, 74, 75, 76, 77, 78, 79] else []))
    else
    (bif Nat.blt x 15 then
     (bif Nat.beq x 14 then [81, 82] else [])
     else
     (bif Nat.beq x 15 then [1, 2, 7, 9, 10, 12, 13, 83, 84, 85, 86, 87, 88, 89, 90] else []))))
noncomputable def killT10 (x : Nat) : List Nat := bif Nat.blt x 3 then
  (bif Nat.blt x 1 then
   (bif Nat.beq x 0 then [4] else [])
   else
   (bif Nat.blt x 2 then
    (bif Nat.beq x 1 then [5] else [])
    else
    (bif Nat.beq x 2 then [0, 1] else [])))
  else
  (bif Nat.blt x 4 then
   (bif Nat.beq x 3 then [7, 8, 9, 10, 11, 12, 13] else [])
   else
   (bif Nat.blt x 5 then
    (bif Nat.beq x 4 then [0, 1] else [])
    else
    (bif Nat.beq x 5 then [0, 1, 15, 16, 17, 18, 19, 20, 21, 22, 23, 24, 25, 26, 27, 28, 29, 30, 31, 32, 33] else [])))
noncomputable def killT11 (x : Nat) : List Nat := bif Nat.blt x 12 then
  (bif Nat.blt x 5 then
   (bif Nat.blt x 2 then
    (bif Nat.blt x 1 then
     (bif Nat.beq x 0 then [2] else [])
     else
     (bif Nat.beq x 1 then [8] else []))
    else
    (bif Nat.blt x 3 then
     (bif Nat.beq x 2 then [0] else [])
     else
     (bif Nat.blt x 4 then
      (bif Nat.beq x 3 then [10, 11] else [])
      else
      (bif Nat.beq x 4 then [0] else []))))
   else
   (bif Nat.blt x 9 then
    (bif Nat.blt x 6 then
     (bif Nat.beq x 5 then [13, 14] else [])
     else
     (bif Nat.beq x 6 then [15, 16, 17] else []))
    else
    (bif Nat.blt x 10 then
     (bif Nat.beq x 9 then [18, 19, 20] else [])
     else
     (bif Nat.blt x 11 then
      (bif Nat.beq x 10 then [22, 23] else [])
      else
      (bif Nat.beq x 11 then [24, 25, 26, 27, 28] else [])))))
  else
  (bif Nat.blt x 17 then
   (bif Nat.blt x 14 then
    (bif Nat.blt x 13 then
     (bif Nat.beq x 12 then [30, 31, 32, 33, 34, 35, 36, 37, 38, 39, 40, 41, 42, 43, 44, 45] else [])
     else
     (bif Nat.beq x 13 then [47, 48] else []))
    else
    (bif Nat.blt x 15 then
     (bif Nat.beq x 14 then [49, 50, 51, 52, 53, 54, 55, 56, 57, 58, 59, 60, 61, 62, 63, 64] else [])
     else
     (bif Nat.blt x 16 then
      (bif Nat.beq x 15 then [0, 3, 4, 5, 6] else [])
      else
      (bif Nat.beq x 16 then [3, 5, 6] else []))))
   else
   (bif Nat.blt x 19 then
    (bif Nat.blt x 18 then
     (bif Nat.beq x 17 then [66, 67, 68] else [])
     else
     (bif Nat.beq x 18 then [70, 71] else []))
    else
    (bif Nat.blt x 20 then
     (bif Nat.beq x 19 then [72, 73, 74, 75, 76, 77, 78, 79, 80, 81, 82, 83, 84, 85, 86, 87, 88, 89, 90, 91, 92, 93, 94, 95, 96, 97, 98, 99, 100, 101, 102, 103, 104, 105, 106, 107, 108, 109, 110, 111, 112, 113, 114, 115, 116, 117, 118] else [])
     else
     (bif Nat.blt x 21 then
      (bif Nat.beq x 20 then [0, 4, 7] else [])
      else
      (bif Nat.beq x 21 then [0, 4, 7] else [])))))
noncomputable def killT12 (x : Nat) : List Nat := bif Nat.blt x 1 then
  (bif Nat.beq x 0 then [0] else [])
  else
  (bif Nat.beq x 1 then [1, 2, 3, 4, 5, 6, 7] else [])
noncomputable def killT13 (x : Nat) : List Nat := bif Nat.blt x 9 then
  (bif Nat.blt x 5 then
   (bif Nat.blt x 3 then
    (bif Nat.beq x 0 then [2] else [])
    else
    (bif Nat.blt x 4 then
     (bif Nat.beq x 3 then [10, 11, 12] else [])
     else
     (bif Nat.beq x 4 then [13, 14, 15] else [])))
   else
   (bif Nat.blt x 7 then
    (bif Nat.blt x 6 then
     (bif Nat.beq x 5 then [17, 18, 19] else [])
     else
     (bif Nat.beq x 6 then [20] else []))
    else
    (bif Nat.blt x 8 then
     (bif Nat.beq x 7 then [5, 22, 23, 24, 25, 26] else [])
     else
     (bif Nat.beq x 8 then [7, 27] else []))))
  else
  (bif Nat.blt x 13 then
   (bif Nat.blt x 11 then
    (bif Nat.blt x 10 then
     (bif Nat.beq x 9 then [0, 4, 6, 29, 30, 31, 32, 33, 34, 35] else [])
     else
     (bif Nat.beq x 10 then [6, 36, 37, 38] else []))
    else
    (bif Nat.blt x 12 then
     (bif Nat.beq x 11 then [39, 40, 41, 42, 43] else [])
     else
     (bif Nat.beq x 12 then [44] else [])))
   else
   (bif Nat.blt x 15 then
    (bif Nat.blt x 14 then
     (bif Nat.beq x 13 then [5, 46, 47] else [])
     else
     (bif Nat.beq x 14 then [5, 8, 48, 49, 50, 51, 52, 53, 54, 55, 56] else []))
    else
    (bif Nat.blt x 16 then
     (bif Nat.beq x 15 then [9, 57, 58, 59] else [])
     else
     (bif Nat.beq x 16 then [0, 3, 4, 60] else []))))
noncomputable def killT14 (x : Nat) : List Nat := bif Nat.blt x 5 then
  (bif Nat.blt x 2 then
   (bif Nat.blt x 1 then
    (bif Nat.beq x 0 then [4] else [])
    else
    (bif Nat.beq x 1 then [6, 7, 8, 9] else []))
   else
   (bif Nat.blt x 4 then
    (bif Nat.beq x 2 then [0, 1] else [])
    else
    (bif Nat.beq x 4 then [11, 12, 13] else [])))
  else
  (bif Nat.blt x 7 then
   (bif Nat.blt x 6 then
    (bif Nat.beq x 5 then [15, 16] else [])
    else
    (bif Nat.beq x 6 then [17, 18, 19, 20, 21, 22, 23, 24] else []))
   else
   (bif Nat.blt x 8 then
    (bif Nat.beq x 7 then [0, 1, 5] else [])
    else
    (bif Nat.beq x 8 then [0, 1, 5] else [])))
noncomputable def killT15 (x : Nat) : List Nat := bif Nat.blt x 2 then
  (bif Nat.blt x 1 then
   (bif Nat.beq x 0 then [1, 4] else [])
   else
   (bif Nat.beq x 1 then [5, 6, 7, 8, 9, 10, 11, 12, 13, 14, 15, 16, 17, 18, 19, 20] else []))
  else
  (bif Nat.blt x 3 then
   (bif Nat.beq x 2 then [0, 3] else [])
   else
   (bif Nat.beq x 3 then [0, 3, 22, 23, 24, 25, 26, 27] else []))
noncomputable def killT16 (x : Nat) : List Nat := bif Nat.blt x 3 then
  (bif Nat.blt x 1 then
   (bif Nat.beq x 0 then [2] else [])
   else
   (bif Nat.blt x 2 then
    (bif Nat.beq x 1 then [5, 6, 7, 8, 9] else [])
    else
    (bif Nat.beq x 2 then [0] else [])))
  else
  (bif Nat.blt x 5 then
   (bif Nat.blt x 4 then
    (bif Nat.beq x 3 then [11, 12, 13, 14, 15] else [])
    else
    (bif Nat.beq x 4 then [0, 4, 16, 17, 18] else []))
   else
   (bif Nat.blt x 6 then
    (bif Nat.beq x 5 then [3] else [])
    else
    (bif Nat.beq x 6 then [3, 20] else [])))
noncomputable def killT17 (x : Nat) : List Nat := bif Nat.blt x 2 then
  (bif Nat.blt x 1 then
   (bif Nat.beq x 0 then [1, 4] else [])
   else
   (bif Nat.beq x 1 then [5, 6, 7, 8, 9, 10, 11, 12, 13, 14, 15, 16, 17, 18, 19, 20] else []))
  else
  (bif Nat.blt x 3 then
   (bif Nat.beq x 2 then [0, 3] else [])
   else
   (bif Nat.beq x 3 then [0, 3, 22, 23, 24, 25, 26, 27] else []))
noncomputable def killT18 (x : Nat) : List Nat := bif Nat.blt x 1 then
  (bif Nat.beq x 0 then [1, 6] else [])
  else
  (bif Nat.beq x 1 then [0, 2, 4, 7, 8, 9, 10, 11, 12, 13, 14, 15, 16, 17, 18, 19, 20, 21] else [])
noncomputable def killT19 (x : Nat) : List Nat := bif Nat.blt x 1 then
  (bif Nat.beq x 0 then [1, 6] else [])
  else
  (bif Nat.beq x 1 then [0, 2, 4, 7, 8, 9, 10, 11, 12, 13, 14, 15, 16, 17, 18, 19, 20, 21] else [])
noncomputable def killT20 (x : Nat) : List Nat := bif Nat.blt x 2 then
  (bif Nat.blt x 1 then
   (bif Nat.beq x 0 then [2] else [])
   else
   (bif Nat.beq x 1 then [4, 5] else []))
  else
  (bif Nat.blt x 3 then
   (bif Nat.beq x 2 then [0, 6, 7, 8, 9, 10, 11, 12, 13, 14, 15, 16, 17, 18, 19, 20, 21, 22, 23, 24, 25, 26, 27, 28, 29, 30] else [])
   else
   (bif Nat.blt x 4 then
    (bif Nat.beq x 3 then [3] else [])
    else
    (bif Nat.beq x 4 then [3, 32, 33, 34, 35] else [])))
noncomputable def killT21 (x : Nat) : List Nat := bif Nat.blt x 1 then
  (bif Nat.beq x 0 then [0] else [])
  else
  (bif Nat.blt x 2 then
   (bif Nat.beq x 1 then [5, 6, 7, 8, 9, 10, 11] else [])
   else
   (bif Nat.beq x 2 then [1, 2, 3, 4, 12, 13, 14, 15, 16, 17, 18, 19, 20, 21, 22, 23, 24, 25, 26, 27, 28, 29, 30, 31, 32, 33] else []))
noncomputable def killT22 (x : Nat) : List Nat := bif Nat.blt x 11 then
  (bif Nat.blt x 6 then
   (bif Nat.blt x 3 then
    (bif Nat.blt x 1 then
     (bif Nat.beq x 0 then [2] else [])
     else
     (bif Nat.beq x 1 then [10] else []))
    else
    (bif Nat.blt x 4 then
     (bif Nat.beq x 3 then [11, 12, 13] else [])
     else
     (bif Nat.blt x 5 then
      (bif Nat.beq x 4 then [15, 16, 17] else [])
      else
      (bif Nat.beq x 5 then [19, 20] else []))))
   else
   (bif Nat.blt x 8 then
    (bif Nat.blt x 7 then
     (bif Nat.beq x 6 then [21, 22] else [])
     else
     (bif Nat.beq x 7 then [24, 25, 26] else []))
    else
    (bif Nat.blt x 9 then
     (bif Nat.beq x 8 then [27] else [])
     else
     (bif Nat.blt x 10 then
      (bif Nat.beq x 9 then [0, 3, 4, 5, 29, 30, 31, 32, 33, 34, 35] else [])
      else
      (bif Nat.beq x 10 then [5, 36] else [])))))
  else
  (bif Nat.blt x 16 then
   (bif Nat.blt x 13 then
    (bif Nat.blt x 12 then
     (bif Nat.beq x 11 then [37, 38, 39, 40, 41, 42] else [])
     else
     (bif Nat.beq x 12 then [43] else []))
    else
    (bif Nat.blt x 14 then
     (bif Nat.beq x 13 then [7] else [])
     else
     (bif Nat.blt x 15 then
      (bif Nat.beq x 14 then [45, 46] else [])
      else
      (bif Nat.beq x 15 then [47, 48, 49, 50, 51, 52, 53, 54, 55, 56] else []))))
   else
   (bif Nat.blt x 19 then
    (bif Nat.blt x 17 then
     (bif Nat.beq x 16 then [9, 58, 59, 60, 61, 62, 63] else [])
     else
     (bif Nat.blt x 18 then
      (bif Nat.beq x 17 then [8, 64] else [])
      else
      (bif Nat.beq x 18 then [66, 67] else [])))
    else
    (bif Nat.blt x 20 then
     (bif Nat.beq x 19 then [4, 6, 68, 69, 70, 71, 72, 73, 74] else [])
     else
     (bif Nat.blt x 21 then
      (bif Nat.beq x 20 then [7, 75] else [])
      else
      (bif Nat.beq x 21 then [0, 3, 4, 76] else [])))))
noncomputable def killT23 (x : Nat) : List Nat := bif Nat.blt x 2 then
  (bif Nat.blt x 1 then
   (bif Nat.beq x 0 then [2] else [])
   else
   (bif Nat.beq x 1 then [4] else []))
  else
  (bif Nat.blt x 3 then
   (bif Nat.beq x 2 then [0, 5, 6, 7] else [])
   else
   (bif Nat.beq x 3 then [3, 8] else []))
noncomputable def killT24 (x : Nat) : List Nat := bif Nat.blt x 15 then
  (bif Nat.blt x 8 then
   (bif Nat.blt x 4 then
    (bif Nat.blt x 1 then
     (bif Nat.beq x 0 then [10, 11, 12, 13] else [])
     else
     (bif Nat.blt x 2 then
      (bif Nat.beq x 1 then [26, 27, 28, 29, 30, 31, 32, 33, 34, 35, 36, 37] else [])
      else
      (bif Nat.beq x 2 then [0, 1, 2, 3, 4] else [])))
    else
    (bif Nat.blt x 5 then
     (bif Nat.beq x 4 then [39, 40, 41, 42, 43, 44, 45, 46, 47, 48, 49, 50, 51, 52] else [])
     else
     (bif Nat.blt x 7 then
      (bif Nat.beq x 5 then [54, 55] else [])
      else
      (bif Nat.beq x 7 then [56] else []))))
   else
   (bif Nat.blt x 11 then
    (bif Nat.blt x 9 then
     (bif Nat.beq x 8 then [58, 59, 60, 61, 62, 63] else [])
     else
     (bif Nat.blt x 10 then
      (bif Nat.beq x 9 then [64] else [])
      else
      (bif Nat.beq x 10 then [65, 66, 67, 68, 69, 70, 71, 72, 73, 74, 75, 76] else [])))
    else
    (bif Nat.blt x 13 then
     (bif Nat.blt x 12 then
      (bif Nat.beq x 11 then [78, 79] else [])
      else
      (bif Nat.beq x 12 then [16, 80, 81, 82, 83, 84, 85, 86, 87, 88, 89] else []))
     else
     (bif Nat.blt x 14 then
      (bif Nat.beq x 13 then [1, 90, 91, 92, 93] else [])
      else
      (bif Nat.beq x 14 then [0, 3, 94, 95, 96, 97, 98, 99, 100, 101, 102, 103] else [])))))
  else
  (bif Nat.blt x 23 then
   (bif Nat.blt x 19 then
    (bif Nat.blt x 17 then
     (bif Nat.beq x 15 then [19, 104] else [])
     else
     (bif Nat.blt x 18 then
      (bif Nat.beq x 17 then [109, 110] else [])
      else
      (bif Nat.beq x 18 then [111, 112, 113] else [])))
    else
    (bif Nat.blt x 20 then
     (bif Nat.beq x 19 then [114, 115, 116, 117, 118, 119] else [])
     else
     (bif Nat.blt x 21 then
      (bif Nat.beq x 20 then [23, 120, 121, 122, 123, 124, 125, 126, 127, 128] else [])
      else
      (bif Nat.beq x 21 then [2, 4, 15, 21, 105, 106, 107, 130, 131, 132, 133, 134, 135, 136] else []))))
   else
   (bif Nat.blt x 26 then
    (bif Nat.blt x 24 then
     (bif Nat.beq x 23 then [141, 142] else [])
     else
     (bif Nat.blt x 25 then
      (bif Nat.beq x 24 then [25, 143, 144, 145, 146, 147, 148, 149] else [])
      else
      (bif Nat.beq x 25 then [150] else [])))
    else
    (bif Nat.blt x 28 then
     (bif Nat.blt x 27 then
      (bif Nat.beq x 26 then [14, 17, 18, 22, 137, 138, 139, 151, 152, 153] else [])
      else
      (bif Nat.beq x 27 then [21, 22, 154, 155, 156, 157] else []))
     else
     (bif Nat.blt x 29 then
      (bif Nat.beq x 28 then [158] else [])
      else
      (bif Nat.beq x 29 then [2, 4, 14, 15, 17, 18, 105, 106, 107, 159, 160] else [])))))
noncomputable def killT25 (x : Nat) : List Nat := bif Nat.blt x 7 then
  (bif Nat.blt x 3 then
   (bif Nat.blt x 1 then
    (bif Nat.beq x 0 then [10, 11, 12, 13] else [])
    else
    (bif Nat.blt x 2 then
     (bif Nat.beq x 1 then [20, 21, 22, 23, 24, 25, 26, 27, 28, 29, 30, 31] else [])
     else
     (bif Nat.beq x 2 then [0, 1, 2, 3, 4] else [])))
   else
   (bif Nat.blt x 5 then
    (bif Nat.beq x 3 then [0, 33, 34, 35, 36, 37, 38, 39, 40, 41, 42] else [])
    else
    (bif Nat.blt x 6 then
     (bif Nat.beq x 5 then [43, 44, 45, 46, 47, 48, 49, 50, 51, 52, 53, 54, 55] else [])
     else
     (bif Nat.beq x 6 then [57, 58] else []))))
  else
  (bif Nat.blt x 11 then
   (bif Nat.blt x 9 then
    (bif Nat.beq x 7 then [2, 4, 59, 60, 61, 62, 63, 64] else [])
    else
    (bif Nat.blt x 10 then
     (bif Nat.beq x 9 then [65, 66, 67, 68, 69, 70, 71, 72, 73, 74, 75, 76, 77] else [])
     else
     (bif Nat.beq x 10 then [79, 80, 81, 82, 83, 84, 85, 86] else [])))
   else
   (bif Nat.blt x 13 then
    (bif Nat.blt x 12 then
     (bif Nat.beq x 11 then [87, 88, 89, 90, 91, 92, 93, 94] else [])
     else
     (bif Nat.beq x 12 then [18, 19, 95, 96, 97, 98, 99, 100, 101, 102, 103, 104, 105, 106, 107, 108, 109, 110, 111, 112, 113, 114, 115, 116, 117, 118, 119, 120, 121, 122] else []))
    else
    (bif Nat.blt x 14 then
     (bif Nat.beq x 13 then [124, 125] else [])
     else
     (bif Nat.beq x 14 then [1, 3, 14, 15, 16, 17, 126, 127, 128] else []))))
noncomputable def killT26 (x : Nat) : List Nat := bif Nat.blt x 5 then
  (bif Nat.blt x 2 then
   (bif Nat.blt x 1 then
    (bif Nat.beq x 0 then [4] else [])
    else
    (bif Nat.beq x 1 then [6, 7, 8, 9] else []))
   else
   (bif Nat.blt x 4 then
    (bif Nat.beq x 2 then [0, 1] else [])
    else
    (bif Nat.beq x 4 then [11, 12, 13] else [])))
  else
  (bif Nat.blt x 7 then
   (bif Nat.blt x 6 then
    (bif Nat.beq x 5 then [15, 16] else [])
    else
    (bif Nat.beq x 6 then [17, 18, 19, 20, 21, 22, 23, 24] else []))
   else
   (bif Nat.blt x 8 then
    (bif Nat.beq x 7 then [0, 1, 5] else [])
    else
    (bif Nat.beq x 8 then [0, 1, 5] else [])))
noncomputable def killT27 (x : Nat) : List Nat := bif Nat.blt x 8 then
  (bif Nat.blt x 5 then
   (bif Nat.blt x 3 then
    (bif Nat.beq x 0 then [4] else [])
    else
    (bif Nat.beq x 3 then [1] else []))
   else
   (bif Nat.blt x 6 then
    (bif Nat.beq x 5 then [13, 14] else [])
    else
    (bif Nat.blt x 7 then
     (bif Nat.beq x 6 then [16, 17, 18] else [])
     else
     (bif Nat.beq x 7 then [8] else []))))
  else
  (bif Nat.blt x 10 then
   (bif Nat.blt x 9 then
    (bif Nat.beq x 8 then [20, 21] else [])
    else
    (bif Nat.beq x 9 then [22, 23, 24, 25, 26, 27, 28, 29] else []))
   else
   (bif Nat.blt x 11 then
    (bif Nat.beq x 10 then [8, 30, 31, 32, 33, 34, 35, 36, 37] else [])
    else
    (bif Nat.blt x 12 then
     (bif Nat.beq x 11 then [38] else [])
     else
     (bif Nat.beq x 12 then [0, 5, 6, 9, 10, 11, 39] else []))))
noncomputable def killT28 (x : Nat) : List Nat := bif Nat.blt x 7 then
  (bif Nat.blt x 4 then
   (bif Nat.blt x 1 then
    (bif Nat.beq x 0 then [4] else [])
    else
    (bif Nat.beq x 1 then [9] else []))
   else
   (bif Nat.blt x 5 then
    (bif Nat.beq x 4 then [10, 11, 12] else [])
    else
    (bif Nat.blt x 6 then
     (bif Nat.beq x 5 then [14, 15] else [])
     else
     (bif Nat.beq x 6 then [16, 17, 18, 19] else []))))
  else
  (bif Nat.blt x 10 then
   (bif Nat.blt x 8 then
    (bif Nat.beq x 7 then [20, 21] else [])
    else
    (bif Nat.blt x 9 then
     (bif Nat.beq x 8 then [8] else [])
     else
     (bif Nat.beq x 9 then [23] else [])))
   else
   (bif Nat.blt x 12 then
    (bif Nat.beq x 10 then [6, 25, 26, 27, 28, 29, 30, 31, 32] else [])
    else
    (bif Nat.blt x 13 then
     (bif Nat.beq x 12 then [8, 33, 34, 35, 36, 37, 38, 39, 40] else [])
     else
     (bif Nat.beq x 13 then [0, 1, 5, 6, 7, 41] else []))))
noncomputable def killT29 (x : Nat) : List Nat := bif Nat.blt x 2 then
  (bif Nat.blt x 1 then
   (bif Nat.beq x 0 then [6] else [])
   else
   (bif Nat.beq x 1 then [1, 8] else []))
  else
  (bif Nat.blt x 3 then
   (bif Nat.beq x 2 then [9, 10, 11, 12, 13, 14, 15, 16, 17, 18] else [])
   else
   (bif Nat.blt x 4 then
    (bif Nat.beq x 3 then [20, 21] else [])
    else
    (bif Nat.beq x 4 then [0, 2, 7, 22] else [])))
noncomputable def killT30 (x : Nat) : List Nat := bif Nat.blt x 1 then
  (bif Nat.beq x 0 then [4] else [])
  else
  (bif Nat.beq x 1 then [0, 1, 5, 6, 7] else [])
noncomputable def killT31 (x : Nat) : List Nat := bif Nat.blt x 8 then
  (bif Nat.blt x 5 then
   (bif Nat.blt x 3 then
    (bif Nat.beq x 0 then [2, 3] else [])
    else
    (bif Nat.blt x 4 then
     (bif Nat.beq x 3 then [6, 7, 8] else [])
     else
     (bif Nat.beq x 4 then [10, 11] else [])))
   else
   (bif Nat.blt x 6 then
    (bif Nat.beq x 5 then [13, 14, 15, 16] else [])
    else
    (bif Nat.blt x 7 then
     (bif Nat.beq x 6 then [17, 18] else [])
     else
     (bif Nat.beq x 7 then [19, 20] else []))))
  else
  (bif Nat.blt x 11 then
   (bif Nat.blt x 9 then
    (bif Nat.beq x 8 then [22, 23, 24, 25] else [])
    else
    (bif Nat.blt x 10 then
     (bif Nat.beq x 9 then [26, 27] else [])
     else
     (bif Nat.beq x 10 then [28, 29] else [])))
   else
   (bif Nat.blt x 12 then
    (bif Nat.beq x 11 then [30] else [])
    else
    (bif Nat.blt x 13 then
     (bif Nat.beq x 12 then [0, 4, 5, 32] else [])
     else
     (bif Nat.beq x 13 then [0, 4, 5, 33, 34] else []))))
noncomputable def killT32 (x : Nat) : List Nat := bif Nat.blt x 7 then
  (bif Nat.blt x 3 then
   (bif Nat.blt x 1 then
    (bif Nat.beq x 0 then [2, 3] else [])
    else
    (bif Nat.blt x 2 then
     (bif Nat.beq x 1 then [8, 9] else [])
     else
     (bif Nat.beq x 2 then [11, 12, 13, 14, 15, 16, 17, 18, 19, 20] else [])))
   else
   (bif Nat.blt x 5 then
    (bif Nat.blt x 4 then
     (bif Nat.beq x 3 then [4, 21, 22] else [])
     else
     (bif Nat.beq x 4 then [0, 5, 23, 24, 25, 26, 27] else []))
    else
    (bif Nat.blt x 6 then
     (bif Nat.beq x 5 then [29, 30] else [])
     else
     (bif Nat.beq x 6 then [0, 4, 31, 32] else []))))
  else
  (bif Nat.blt x 12 then
   (bif Nat.blt x 8 then
    (bif Nat.beq x 7 then [4, 34, 35, 36, 37, 38, 39, 40, 41, 42, 43, 44, 45] else [])
    else
    (bif Nat.blt x 11 then
     (bif Nat.beq x 8 then [0, 46, 47] else [])
     else
     (bif Nat.beq x 11 then [52, 53] else [])))
   else
   (bif Nat.blt x 14 then
    (bif Nat.blt x 13 then
     (bif Nat.beq x 12 then [54, 55] else [])
     else
     (bif Nat.beq x 13 then [0, 7, 48, 49, 50, 57, 58] else []))
    else
    (bif Nat.blt x 15 then
     (bif Nat.beq x 14 then [7, 59] else [])
     else
     (bif Nat.beq x 15 then [0, 48, 49, 50] else []))))
noncomputable def killT33 (x : Nat) : List Nat := bif Nat.blt x 4 then
  (bif Nat.blt x 2 then
   (bif Nat.beq x 0 then [2] else [])
   else
   (bif Nat.blt x 3 then
    (bif Nat.beq x 2 then [6, 7, 8] else [])
    else
    (bif Nat.beq x 3 then [10, 11] else [])))
  else
  (bif Nat.blt x 6 then
   (bif Nat.blt x 5 then
    (bif Nat.beq x 4 then [5, 12, 13, 14, 15, 16, 17, 18] else [])
    else
    (bif Nat.beq x 5 then [4, 19, 20, 21, 22, 23, 24, 25] else []))
   else
   (bif Nat.blt x 7 then
    (bif Nat.beq x 6 then [0, 3, 27] else [])
    else
    (bif Nat.beq x 7 then [0, 3, 28, 29] else [])))
noncomputable def killT34 (x : Nat) : List Nat := bif Nat.blt x 1 then
  (bif Nat.beq x 0 then [2] else [])
  else
  (bif Nat.beq x 1 then [0, 3, 4, 5, 6, 7, 8, 9, 10, 11, 12, 13, 14, 15, 16] else [])
noncomputable def killT35 (x : Nat) : List Nat := bif Nat.blt x 1 then
  (bif Nat.beq x 0 then [6] else [])
  else
  (bif Nat.beq x 1 then [0, 1, 2, 7, 8, 9, 10, 11, 12, 13, 14, 15, 16, 17, 18, 19, 20, 21, 22, 23, 24] else [])
noncomputable def killT36 (x : Nat) : List Nat := bif Nat.blt x 7 then
  (bif Nat.blt x 4 then
   (bif Nat.blt x 2 then
    (bif Nat.beq x 0 then [4] else [])
    else
    (bif Nat.blt x 3 then
     (bif Nat.beq x 2 then [6, 7, 8] else [])
     else
     (bif Nat.beq x 3 then [10, 11] else [])))
   else
   (bif Nat.blt x 5 then
    (bif Nat.beq x 4 then [13, 14] else [])
    else
    (bif Nat.blt x 6 then
     (bif Nat.beq x 5 then [15, 16] else [])
     else
     (bif Nat.beq x 6 then [17, 18] else []))))
  else
  (bif Nat.blt x 10 then
   (bif Nat.blt x 8 then
    (bif Nat.beq x 7 then [20, 21] else [])
    else
    (bif Nat.blt x 9 then
     (bif Nat.beq x 8 then [22, 23] else [])
     else
     (bif Nat.beq x 9 then [24] else [])))
   else
   (bif Nat.blt x 11 then
    (bif Nat.beq x 10 then [0, 1, 5, 26] else [])
    else
    (bif Nat.blt x 12 then
     (bif Nat.beq x 11 then [27, 28] else [])
     else
     (bif Nat.beq x 12 then [0, 1, 5] else []))))
noncomputable def killT37 (x : Nat) : List Nat := bif Nat.blt x 16 then
  (bif Nat.blt x 7 then
   (bif Nat.blt x 3 then
    (bif Nat.blt x 1 then
     (bif Nat.beq x 0 then [4, 5] else [])
     else
     (bif Nat.blt x 2 then
      (bif Nat.beq x 1 then [13, 14, 15] else [])
      else
      (bif Nat.beq x 2 then [16, 17] else [])))
    else
    (bif Nat.blt x 5 then
     (bif Nat.blt x 4 then
      (bif Nat.beq x 3 then [18, 19, 20, 21, 22, 23, 24, 25, 26] else [])
      else
      (bif Nat.beq x 4 then [28, 29, 30, 31, 32, 33, 34, 35, 36, 37, 38, 39, 40, 41, 42, 43, 44, 45, 46, 47, 48, 49, 50, 51, 52, 53, 54, 55, 56, 57, 58, 59, 60] else []))
     else
     (bif Nat.blt x 6 then
      (bif Nat.beq x 5 then [62, 63] else [])
      else
      (bif Nat.beq x 6 then [0, 1, 64, 65, 66, 67] else []))))
   else
   (bif Nat.blt x 11 then
    (bif Nat.blt x 9 then
     (bif Nat.blt x 8 then
      (bif Nat.beq x 7 then [68] else [])
      else
      (bif Nat.beq x 8 then [6, 7, 8, 70] else []))
     else
     (bif Nat.blt x 10 then
      (bif Nat.beq x 9 then [6, 71] else [])
      else
      (bif Nat.beq x 10 then [7, 8, 73] else [])))
    else
    (bif Nat.blt x 14 then
     (bif Nat.blt x 13 then
      (bif Nat.beq x 11 then [74] else [])
      else
      (bif Nat.beq x 13 then [75] else []))
     else
     (bif Nat.blt x 15 then
      (bif Nat.beq x 14 then [77, 78] else [])
      else
      (bif Nat.beq x 15 then [79, 80, 81, 82] else [])))))
  else
  (bif Nat.blt x 24 then
   (bif Nat.blt x 20 then
    (bif Nat.blt x 18 then
     (bif Nat.blt x 17 then
      (bif Nat.beq x 16 then [7, 8, 9, 10, 84] else [])
      else
      (bif Nat.beq x 17 then [7, 8, 9, 10, 85] else []))
     else
     (bif Nat.blt x 19 then
      (bif Nat.beq x 18 then [86] else [])
      else
      (bif Nat.beq x 19 then [88, 89, 90, 91, 92, 93, 94, 95, 96] else [])))
    else
    (bif Nat.blt x 22 then
     (bif Nat.blt x 21 then
      (bif Nat.beq x 20 then [98, 99] else [])
      else
      (bif Nat.beq x 21 then [0, 7, 100] else []))
     else
     (bif Nat.blt x 23 then
      (bif Nat.beq x 22 then [6, 101, 102, 103, 104, 105, 106, 107, 108, 109, 110, 111, 112, 113] else [])
      else
      (bif Nat.beq x 23 then [115, 116, 117, 118, 119, 120, 121, 122, 123, 124, 125, 126, 127, 128, 129, 130, 131, 132, 133, 134, 135, 136, 137, 138, 139, 140, 141] else []))))
   else
   (bif Nat.blt x 29 then
    (bif Nat.blt x 26 then
     (bif Nat.blt x 25 then
      (bif Nat.beq x 24 then [143, 144] else [])
      else
      (bif Nat.beq x 25 then [0, 7, 145] else []))
     else
     (bif Nat.blt x 28 then
      (bif Nat.beq x 26 then [7, 146] else [])
      else
      (bif Nat.beq x 28 then [147] else [])))
    else
    (bif Nat.blt x 31 then
     (bif Nat.blt x 30 then
      (bif Nat.beq x 29 then [149, 150] else [])
      else
      (bif Nat.beq x 30 then [151, 152, 153, 154, 155] else []))
     else
     (bif Nat.blt x 32 then
      (bif Nat.beq x 31 then [0, 1, 11, 12, 157, 158, 159, 160, 161, 162] else [])
      else
      (bif Nat.beq x 32 then [0, 1, 11, 12] else [])))))
noncomputable def killT38 (x : Nat) : List Nat := bif Nat.blt x 2 then
  (bif Nat.blt x 1 then
   (bif Nat.beq x 0 then [2] else [])
   else
   (bif Nat.beq x 1 then [3] else []))
  else
  (bif Nat.blt x 3 then
   (bif Nat.beq x 2 then [0] else [])
   else
   (bif Nat.beq x 3 then [0, 5, 6, 7] else []))
noncomputable def killT39 (x : Nat) : List Nat := bif Nat.blt x 2 then
  (bif Nat.blt x 1 then
   (bif Nat.beq x 0 then [0] else [])
   else
   (bif Nat.beq x 1 then [5, 6, 7, 8, 9] else []))
  else
  (bif Nat.blt x 3 then
   (bif Nat.beq x 2 then [1, 10, 11, 12, 13, 14] else [])
   else
   (bif Nat.beq x 3 then [2, 15] else []))
noncomputable def killT40 (x : Nat) : List Nat := bif Nat.blt x 2 then
  (bif Nat.blt x 1 then
   (bif Nat.beq x 0 then [0, 1, 4, 5] else [])
   else
   (bif Nat.beq x 1 then [8, 9, 10, 11, 12, 13, 14, 15] else []))
  else
  (bif Nat.blt x 3 then
   (bif Nat.beq x 2 then [3, 7, 16, 17, 18, 19, 20, 21, 22, 23, 24, 25, 26, 27, 28] else [])
   else
   (bif Nat.blt x 4 then
    (bif Nat.beq x 3 then [2, 6] else [])
    else
    (bif Nat.beq x 4 then [2, 6, 30, 31, 32, 33, 34] else [])))
noncomputable def killT41 (x : Nat) : List Nat := bif Nat.blt x 1 then
  (bif Nat.beq x 0 then [4] else [])
  else
  (bif Nat.beq x 1 then [0, 1, 5, 6, 7, 8] else [])
noncomputable def killT42 (x : Nat) : List Nat := bif Nat.blt x 1 then
  (bif Nat.beq x 0 then [4] else [])
  else
  (bif Nat.beq x 1 then [0, 1, 5, 6, 7, 8, 9, 10, 11, 12, 13, 14, 15, 16, 17] else [])
noncomputable def killT43 (x : Nat) : List Nat := bif Nat.blt x 3 then
  (bif Nat.blt x 1 then
   (bif Nat.beq x 0 then [2] else [])
   else
   (bif Nat.blt x 2 then
    (bif Nat.beq x 1 then [4, 5] else [])
    else
    (bif Nat.beq x 2 then [0] else [])))
  else
  (bif Nat.blt x 4 then
   (bif Nat.beq x 3 then [7, 8, 9] else [])
   else
   (bif Nat.blt x 5 then
    (bif Nat.beq x 4 then [0] else [])
    else
    (bif Nat.beq x 5 then [0, 11, 12, 13] else [])))
noncomputable def killT44 (x : Nat) : List Nat := bif Nat.blt x 1 then
  (bif Nat.beq x 0 then [0] else [])
  else
  (bif Nat.beq x 1 then [1] else [])
noncomputable def killT45 (x : Nat) : List Nat := bif Nat.blt x 1 then
  (bif Nat.beq x 0 then [2] else [])
  else
  (bif Nat.beq x 1 then [0, 3, 4, 5, 6, 7, 8] else [])
noncomputable def killT46 (x : Nat) : List Nat := bif Nat.blt x 1 then
  (bif Nat.beq x 0 then [2] else [])
  else
  (bif Nat.beq x 1 then [0, 3, 4, 5, 6, 7, 8] else [])
noncomputable def killT47 (x : Nat) : List Nat := bif Nat.blt x 1 then
  (bif Nat.beq x 0 then [2] else [])
  else
  (bif Nat.beq x 1 then [0, 3, 4, 5, 6, 7, 8] else [])
noncomputable def killT48 (x : Nat) : List Nat := bif Nat.beq x 1 then [1] else []
noncomputable def killT49 (x : Nat) : List Nat := bif Nat.beq x 1 then [1] else []
noncomputable def killT50 (x : Nat) : List Nat := bif Nat.blt x 4 then
  (bif Nat.blt x 2 then
   (bif Nat.blt x 1 then
    (bif Nat.beq x 0 then [1, 6, 7] else [])
    else
    (bif Nat.beq x 1 then [12, 13] else []))
   else
   (bif Nat.blt x 3 then
    (bif Nat.beq x 2 then [14] else [])
    else
    (bif Nat.beq x 3 then [15, 16] else [])))
  else
  (bif Nat.blt x 6 then
   (bif Nat.blt x 5 then
    (bif Nat.beq x 4 then [18, 19, 20, 21, 22, 23] else [])
    else
    (bif Nat.beq x 5 then [24, 25, 26, 27, 28, 29, 30] else []))
   else
   (bif Nat.blt x 7 then
    (bif Nat.beq x 6 then [11, 32, 33] else [])
    else
    (bif Nat.blt x 8 then
     (bif Nat.beq x 7 then [11, 34] else [])
     else
     (bif Nat.beq x 8 then [0, 2, 4, 8, 9, 10, 35, 36, 37, 38, 39, 40, 41, 42, 43, 44, 45, 46, 47, 48] else []))))
noncomputable def killT51 (x : Nat) : List Nat := bif Nat.blt x 1 then
  (bif Nat.beq x 0 then [0, 1, 5] else [])
  else
  (bif Nat.beq x 1 then [2, 3, 4, 6, 7, 8, 9, 10, 11, 12, 13] else [])
noncomputable def killT52 (x : Nat) : List Nat := bif Nat.blt x 1 then
  (bif Nat.beq x 0 then [4] else [])
  else
  (bif Nat.beq x 1 then [0, 1, 5, 6, 7] else [])
noncomputable def killT53 (x : Nat) : List Nat := bif Nat.blt x 1 then
  (bif Nat.beq x 0 then [4] else [])
  else
  (bif Nat.beq x 1 then [0, 1, 5, 6, 7, 8] else [])
noncomputable def killT54 (x : Nat) : List Nat := bif Nat.blt x 1 then
  (bif Nat.beq x 0 then [0] else [])
  else
  (bif Nat.beq x 1 then [1] else [])
noncomputable def killT55 (x : Nat) : List Nat := bif Nat.blt x 1 then
  (bif Nat.beq x 0 then [4] else [])
  else
  (bif Nat.beq x 1 then [0, 1, 5, 6, 7] else [])
noncomputable def killT56 (x : Nat) : List Nat := bif Nat.blt x 4 then
  (bif Nat.blt x 1 then
   (bif Nat.beq x 0 then [4] else [])
   else
   (bif Nat.blt x 3 then
    (bif Nat.beq x 1 then [6] else [])
    else
    (bif Nat.beq x 3 then [10] else [])))
  else
  (bif Nat.blt x 6 then
   (bif Nat.blt x 5 then
    (bif Nat.beq x 4 then [11, 12, 13, 14, 15] else [])
    else
    (bif Nat.beq x 5 then [0, 1, 5, 7, 8, 17] else []))
   else
   (bif Nat.blt x 7 then
    (bif Nat.beq x 6 then [5, 18] else [])
    else
    (bif Nat.beq x 7 then [0, 1, 7, 8] else [])))
noncomputable def killT (x : Nat) : Nat → List Nat := bif Nat.blt x 30 then
  (bif Nat.blt x 16 then
   (bif Nat.blt x 9 then
    (bif Nat.blt x 6 then
     (bif Nat.blt x 4 then
      (bif Nat.beq x 3 then killT3 else (fun _ => []))
      else
      (bif Nat.blt x 5 then
       (bif Nat.beq x 4 then killT4 else (fun _ => []))
       else
       (bif Nat.beq x 5 then killT5 else (fun _ => []))))
     else
     (bif Nat.blt x 7 then
      (bif Nat.beq x 6 then killT6 else (fun _ => []))
      else
      (bif Nat.blt x 8 then
       (bif Nat.beq x 7 then killT7 else (fun _ => []))
       else
       (bif Nat.beq x 8 then killT8 else (fun _ => [])))))
    else
    (bif Nat.blt x 12 then
     (bif Nat.blt x 10 then
      (bif Nat.beq x 9 then killT9 else (fun _ => []))
      else
      (bif Nat.blt x 11 then
       (bif Nat.beq x 10 then killT10 else (fun _ => []))
       else
       (bif Nat.beq x 11 then killT11 else (fun _ => []))))
     else
     (bif Nat.blt x 14 then
      (bif Nat.blt x 13 then
       (bif Nat.beq x 12 then killT12 else (fun _ => []))
       else
       (bif Nat.beq x 13 then killT13 else (fun _ => [])))
      else
      (bif Nat.blt x 15 then
       (bif Nat.beq x 14 then killT14 else (fun _ => []))
       else
       (bif Nat.beq x 15 then killT15 else (fun _ => []))))))
   else
   (bif Nat.blt x 23 then
    (bif Nat.blt x 19 then
     (bif Nat.blt x 17 then
      (bif Nat.beq x 16 then killT16 else (fun _ => []))
      else
      (bif Nat.blt x 18 then
       (bif Nat.beq x 17 then killT17 else (fun _ => []))
       else
       (bif Nat.beq x 18 then killT18 else (fun _ => []))))
     else
     (bif Nat.blt x 21 then
      (bif Nat.blt x 20 then
       (bif Nat.beq x 19 then killT19 else (fun _ => []))
       else
       (bif Nat.beq x 20 then killT20 else (fun _ => [])))
      else
      (bif Nat.blt x 22 then
       (bif Nat.beq x 21 then killT21 else (fun _ => []))
       else
       (bif Nat.beq x 22 then killT22 else (fun _ => [])))))
    else
    (bif Nat.blt x 26 then
     (bif Nat.blt x 24 then
      (bif Nat.beq x 23 then killT23 else (fun _ => []))
      else
      (bif Nat.blt x 25 then
       (bif Nat.beq x 24 then killT24 else (fun _ => []))
       else
       (bif Nat.beq x 25 then killT25 else (fun _ => []))))
     else
     (bif Nat.blt x 28 then
      (bif Nat.blt x 27 then
       (bif Nat.beq x 26 then killT26 else (fun _ => []))
       else
       (bif Nat.beq x 27 then killT27 else (fun _ => [])))
      else
      (bif Nat.blt x 29 then
       (bif Nat.beq x 28 then killT28 else (fun _ => []))
       else
       (bif Nat.beq x 29 then killT29 else (fun _ => [])))))))
  else
  (bif Nat.blt x 43 then
   (bif Nat.blt x 36 then
    (bif Nat.blt x 33 then
     (bif Nat.blt x 31 then
      (bif Nat.beq x 30 then killT30 else (fun _ => []))
      else
      (bif Nat.blt x 32 then
       (bif Nat.beq x 31 then killT31 else (fun _ => []))
       else
       (bif Nat.beq x 32 then killT32 else (fun _ => []))))
     else
     (bif Nat.blt x 34 then
      (bif Nat.beq x 33 then killT33 else (fun _ => []))
      else
      (bif Nat.blt x 35 then
       (bif Nat.beq x 34 then killT34 else (fun _ => []))
       else
       (bif Nat.beq x 35 then killT35 else (fun _ => [])))))
    else
    (bif Nat.blt x 39 then
     (bif Nat.blt x 37 then
      (bif Nat.beq x 36 then killT36 else (fun _ => []))
      else
      (bif Nat.blt x 38 then
       (bif Nat.beq x 37 then killT37 else (fun _ => []))
       else
       (bif Nat.beq x 38 then killT38 else (fun _ => []))))
     else
     (bif Nat.blt x 41 then
      (bif Nat.blt x 40 then
       (bif Nat.beq x 39 then killT39 else (fun _ => []))
       else
       (bif Nat.beq x 40 then killT40 else (fun _ => [])))
      else
      (bif Nat.blt x 42 then
       (bif Nat.beq x 41 then killT41 else (fun _ => []))
       else
       (bif Nat.beq x 42 then killT42 else (fun _ => []))))))
   else
   (bif Nat.blt x 50 then
    (bif Nat.blt x 46 then
     (bif Nat.blt x 44 then
      (bif Nat.beq x 43 then killT43 else (fun _ => []))
      else
      (bif Nat.blt x 45 then
       (bif Nat.beq x 44 then killT44 else (fun _ => []))
       else
       (bif Nat.beq x 45 then killT45 else (fun _ => []))))
     else
     (bif Nat.blt x 48 then
      (bif Nat.blt x 47 then
       (bif Nat.beq x 46 then killT46 else (fun _ => []))
       else
       (bif Nat.beq x 47 then killT47 else (fun _ => [])))
      else
      (bif Nat.blt x 49 then
       (bif Nat.beq x 48 then killT48 else (fun _ => []))
       else
       (bif Nat.beq x 49 then killT49 else (fun _ => [])))))
    else
    (bif Nat.blt x 53 then
     (bif Nat.blt x 51 then
      (bif Nat.beq x 50 then killT50 else (fun _ => []))
      else
      (bif Nat.blt x 52 then
       (bif Nat.beq x 51 then killT51 else (fun _ => []))
       else
       (bif Nat.beq x 52 then killT52 else (fun _ => []))))
     else
     (bif Nat.blt x 55 then
      (bif Nat.blt x 54 then
       (bif Nat.beq x 53 then killT53 else (fun _ => []))
       else
       (bif Nat.beq x 54 then killT54 else (fun _ => [])))
      else
      (bif Nat.blt x 56 then
       (bif Nat.beq x 55 then killT55 else (fun _ => []))
       else
       (bif Nat.beq x 56 then killT56 else (fun _ => [])))))))
noncomputable def lkT37 (x : Nat) : List Nat := bif Nat.blt x 6 then
  (bif Nat.beq x 4 then [1, 6] else [])
  else
  (bif Nat.beq x 6 then [1] else [])
noncomputable def lkT (x : Nat) : Nat → List Nat := bif Nat.beq x 37 then lkT37 else (fun _ => [])
noncomputable def chkT4 (x : Nat) : List (Nat × Nat) := bif Nat.beq x 19 then [(23, 18)] else []
noncomputable def chkT5 (x : Nat) : List (Nat × Nat) := bif Nat.beq x 10 then [(11, 5), (11, 6)] else []
noncomputable def chkT6 (x : Nat) : List (Nat × Nat) := bif Nat.beq x 5 then [(4, 2), (13, 11), (20, 23), (26, 23), (26, 24)] else []
noncomputable def chkT40 (x : Nat) : List (Nat × Nat) := bif Nat.beq x 2 then [(11, 10)] else []
noncomputable def chkT (x : Nat) : Nat → List (Nat × Nat) := bif Nat.blt x 6 then
  (bif Nat.blt x 5 then
   (bif Nat.beq x 4 then chkT4 else (fun _ => []))
   else
   (bif Nat.beq x 5 then chkT5 else (fun _ => [])))
  else
  (bif Nat.blt x 40 then
   (bif Nat.beq x 6 then chkT6 else (fun _ => []))
   else
   (bif Nat.beq x 40 then chkT40 else (fun _ => [])))
noncomputable def look (x : Nat) : Option Func := bif Nat.blt x 37 then
  (bif Nat.blt x 18 then
   (bif Nat.blt x 9 then
    (bif Nat.blt x 4 then
     (bif Nat.blt x 2 then
      (bif Nat.blt x 1 then
       (bif Nat.beq x 0 then some Try.f0 else none)
       else
       (bif Nat.beq x 1 then some Try.f1 else none))
      else
      (bif Nat.blt x 3 then
       (bif Nat.beq x 2 then some Try.f2 else none)
       else
       (bif Nat.beq x 3 then some Try.f3 else none)))
     else
     (bif Nat.blt x 6 then
      (bif Nat.blt x 5 then
       (bif Nat.beq x 4 then some Try.f4 else none)
       else
       (bif Nat.beq x 5 then some Try.f5 else none))
      else
      (bif Nat.blt x 7 then
       (bif Nat.beq x 6 then some Try.f6 else none)
       else
       (bif Nat.blt x 8 then
        (bif Nat.beq x 7 then some Try.f7 else none)
        else
        (bif Nat.beq x 8 then some Try.f8 else none)))))
    else
    (bif Nat.blt x 13 then
     (bif Nat.blt x 11 then
      (bif Nat.blt x 10 then
       (bif Nat.beq x 9 then some Try.f9 else none)
       else
       (bif Nat.beq x 10 then some Try.f10 else none))
      else
      (bif Nat.blt x 12 then
       (bif Nat.beq x 11 then some Try.f11 else none)
       else
       (bif Nat.beq x 12 then some Try.f12 else none)))
     else
     (bif Nat.blt x 15 then
      (bif Nat.blt x 14 then
       (bif Nat.beq x 13 then some Try.f13 else none)
       else
       (bif Nat.beq x 14 then some Try.f14 else none))
      else
      (bif Nat.blt x 16 then
       (bif Nat.beq x 15 then some Try.f15 else none)
       else
       (bif Nat.blt x 17 then
        (bif Nat.beq x 16 then some Try.f16 else none)
        else
        (bif Nat.beq x 17 then some Try.f17 else none))))))
   else
   (bif Nat.blt x 27 then
    (bif Nat.blt x 22 then
     (bif Nat.blt x 20 then
      (bif Nat.blt x 19 then
       (bif Nat.beq x 18 then some Try.f18 else none)
       else
       (bif Nat.beq x 19 then some Try.f19 else none))
      else
      (bif Nat.blt x 21 then
       (bif Nat.beq x 20 then some Try.f20 else none)
       else
       (bif Nat.beq x 21 then some Try.f21 else none)))
     else
     (bif Nat.blt x 24 then
      (bif Nat.blt x 23 then
       (bif Nat.beq x 22 then some Try.f22 else none)
       else
       (bif Nat.beq x 23 then some Try.f23 else none))
      else
      (bif Nat.blt x 25 then
       (bif Nat.beq x 24 then some Try.f24 else none)
       else
       (bif Nat.blt x 26 then
        (bif Nat.beq x 25 then some Try.f25 else none)
        else
        (bif Nat.beq x 26 then some Try.f26 else none)))))
    else
    (bif Nat.blt x 32 then
     (bif Nat.blt x 29 then
      (bif Nat.blt x 28 then
       (bif Nat.beq x 27 then some Try.f27 else none)
       else
       (bif Nat.beq x 28 then some Try.f28 else none))
      else
      (bif Nat.blt x 30 then
       (bif Nat.beq x 29 then some Try.f29 else none)
       else
       (bif Nat.blt x 31 then
        (bif Nat.beq x 30 then some Try.f30 else none)
        else
        (bif Nat.beq x 31 then some Try.f31 else none))))
     else
     (bif Nat.blt x 34 then
      (bif Nat.blt x 33 then
       (bif Nat.beq x 32 then some Try.f32 else none)
       else
       (bif Nat.beq x 33 then some Try.f33 else none))
      else
      (bif Nat.blt x 35 then
       (bif Nat.beq x 34 then some Try.f34 else none)
       else
       (bif Nat.blt x 36 then
        (bif Nat.beq x 35 then some Try.f35 else none)
        else
        (bif Nat.beq x 36 then some Try.f36 else none)))))))
  else
  (bif Nat.blt x 56 then
   (bif Nat.blt x 46 then
    (bif Nat.blt x 41 then
     (bif Nat.blt x 39 then
      (bif Nat.blt x 38 then
       (bif Nat.beq x 37 then some Try.f37 else none)
       else
       (bif Nat.beq x 38 then some Try.f38 else none))
      else
      (bif Nat.blt x 40 then
       (bif Nat.beq x 39 then some Try.f39 else none)
       else
       (bif Nat.beq x 40 then some Try.f40 else none)))
     else
     (bif Nat.blt x 43 then
      (bif Nat.blt x 42 then
       (bif Nat.beq x 41 then some Try.f41 else none)
       else
       (bif Nat.beq x 42 then some Try.f42 else none))
      else
      (bif Nat.blt x 44 then
       (bif Nat.beq x 43 then some Try.f43 else none)
       else
       (bif Nat.blt x 45 then
        (bif Nat.beq x 44 then some Try.f44 else none)
        else
        (bif Nat.beq x 45 then some Try.f45 else none)))))
    else
    (bif Nat.blt x 51 then
     (bif Nat.blt x 48 then
      (bif Nat.blt x 47 then
       (bif Nat.beq x 46 then some Try.f46 else none)
       else
       (bif Nat.beq x 47 then some Try.f47 else none))
      else
      (bif Nat.blt x 49 then
       (bif Nat.beq x 48 then some Try.f48 else none)
       else
       (bif Nat.blt x 50 then
        (bif Nat.beq x 49 then some Try.f49 else none)
        else
        (bif Nat.beq x 50 then some Try.f50 else none))))
     else
     (bif Nat.blt x 53 then
      (bif Nat.blt x 52 then
       (bif Nat.beq x 51 then some Try.f51 else none)
       else
       (bif Nat.beq x 52 then some Try.f52 else none))
      else
      (bif Nat.blt x 54 then
       (bif Nat.beq x 53 then some Try.f53 else none)
       else
       (bif Nat.blt x 55 then
        (bif Nat.beq x 54 then some Try.f54 else none)
        else
        (bif Nat.beq x 55 then some Try.f55 else none))))))
   else
   (bif Nat.blt x 65 then
    (bif Nat.blt x 60 then
     (bif Nat.blt x 58 then
      (bif Nat.blt x 57 then
       (bif Nat.beq x 56 then some Try.f56 else none)
       else
       (bif Nat.beq x 57 then some Try.f57 else none))
      else
      (bif Nat.blt x 59 then
       (bif Nat.beq x 58 then some Try.f58 else none)
       else
       (bif Nat.beq x 59 then some Try.f59 else none)))
     else
     (bif Nat.blt x 62 then
      (bif Nat.blt x 61 then
       (bif Nat.beq x 60 then some Try.f60 else none)
       else
       (bif Nat.beq x 61 then some Try.f61 else none))
      else
      (bif Nat.blt x 63 then
       (bif Nat.beq x 62 then some Try.f62 else none)
       else
       (bif Nat.blt x 64 then
        (bif Nat.beq x 63 then some Try.f63 else none)
        else
        (bif Nat.beq x 64 then some Try.f64 else none)))))
    else
    (bif Nat.blt x 70 then
     (bif Nat.blt x 67 then
      (bif Nat.blt x 66 then
       (bif Nat.beq x 65 then some Try.f65 else none)
       else
       (bif Nat.beq x 66 then some Try.f66 else none))
      else
      (bif Nat.blt x 68 then
       (bif Nat.beq x 67 then some Try.f67 else none)
       else
       (bif Nat.blt x 69 then
        (bif Nat.beq x 68 then some Try.f68 else none)
        else
        (bif Nat.beq x 69 then some Try.f69 else none))))
     else
     (bif Nat.blt x 72 then
      (bif Nat.blt x 71 then
       (bif Nat.beq x 70 then some Try.f70 else none)
       else
       (bif Nat.beq x 71 then some Try.f71 else none))
      else
      (bif Nat.blt x 73 then
       (bif Nat.beq x 72 then some Try.f72 else none)
       else
       (bif Nat.blt x 74 then
        (bif Nat.beq x 73 then some Try.f73 else none)
        else
        (bif Nat.beq x 74 then some Try.f74 else none)))))))
/-- strings.IndexByte -/
noncomputable def primIndexByte (args : List AV) (m : Mem) : Option (AOut × Mem) := match args with
  | [.str s, .int .u8 c] => some (.ret (.int .i64 (Lib.indexByte s.data.toList c.toNat.toUInt8)), m)
  | _ => none
noncomputable def mdT (f r i : Nat) : Nat := bif Nat.beq f 27 && Nat.beq r 9 && Nat.beq i 7 then 1 else bif Nat.beq f 28 && Nat.beq r 10 && Nat.beq i 7 then 1 else 0
noncomputable def primT (f : FuncId) : Option (List AV → Mem → Option (AOut × Mem)) := bif Nat.beq f 55 then some primIndexByte else none
noncomputable def X : Ctx := { T := below 91 tab, look := belowF 75 look, prim := primT, md := mdT, kill := killT, lk := lkT, chk := chkT }
noncomputable def w_l08_LexMoved (v0 v1 : AV) (m : Mem) : Option (AOut × Mem) := aW X F_l08_LexMoved [v0, v1] m
@[simp] theorem w_l08_LexMoved_fold (v0 v1 : AV) (m : Mem) : aW X F_l08_LexMoved [v0, v1] m = w_l08_LexMoved v0 v1 m := (rfl)
noncomputable def w_l08_LexAgain (v0 : AV) (m : Mem) : Option (AOut × Mem) := aW X F_l08_LexAgain [v0] m
@[simp] theorem w_l08_LexAgain_fold (v0 : AV) (m : Mem) : aW X F_l08_LexAgain [v0] m = w_l08_LexAgain v0 m := (rfl)
noncomputable def w_l08_LexMunch (v0 : AV) (m : Mem) : Option (AOut × Mem) := aW X F_l08_LexMunch [v0] m
@[simp] theorem w_l08_LexMunch_fold (v0 : AV) (m : Mem) : aW X F_l08_LexMunch [v0] m = w_l08_LexMunch v0 m := (rfl)
noncomputable def w_l08_LexWords (v0 v1 v2 : AV) (m : Mem) : Option (AOut × Mem) := aW X F_l08_LexWords [v0, v1, v2] m
@[simp] theorem w_l08_LexWords_fold (v0 v1 v2 : AV) (m : Mem) : aW X F_l08_LexWords [v0, v1, v2] m = w_l08_LexWords v0 v1 v2 m := (rfl)
noncomputable def w_l09_RelexEdits (v0 v1 v2 v3 : AV) (m : Mem) : Option (AOut × Mem) := aW X F_l09_RelexEdits [v0, v1, v2, v3] m
@[simp] theorem w_l09_RelexEdits_fold (v0 v1 v2 v3 : AV) (m : Mem) : aW X F_l09_RelexEdits [v0, v1, v2, v3] m = w_l09_RelexEdits v0 v1 v2 v3 m := (rfl)
noncomputable def w_l09_RelexRows (v0 v1 : AV) (m : Mem) : Option (AOut × Mem) := aW X F_l09_RelexRows [v0, v1] m
@[simp] theorem w_l09_RelexRows_fold (v0 v1 : AV) (m : Mem) : aW X F_l09_RelexRows [v0, v1] m = w_l09_RelexRows v0 v1 m := (rfl)
noncomputable def w_l09_RelexNothing (v0 v1 v2 : AV) (m : Mem) : Option (AOut × Mem) := aW X F_l09_RelexNothing [v0, v1, v2] m
@[simp] theorem w_l09_RelexNothing_fold (v0 v1 v2 : AV) (m : Mem) : aW X F_l09_RelexNothing [v0, v1, v2] m = w_l09_RelexNothing v0 v1 v2 m := (rfl)
noncomputable def w_l09_RelexSpans (v0 v1 : AV) (m : Mem) : Option (AOut × Mem) := aW X F_l09_RelexSpans [v0, v1] m
@[simp] theorem w_l09_RelexSpans_fold (v0 v1 : AV) (m : Mem) : aW X F_l09_RelexSpans [v0, v1] m = w_l09_RelexSpans v0 v1 m := (rfl)
noncomputable def w_l09_RelexApart (v0 : AV) (m : Mem) : Option (AOut × Mem) := aW X F_l09_RelexApart [v0] m
@[simp] theorem w_l09_RelexApart_fold (v0 : AV) (m : Mem) : aW X F_l09_RelexApart [v0] m = w_l09_RelexApart v0 m := (rfl)
noncomputable def w_l08_alive (m : Mem) : Option (AOut × Mem) := aW X F_l08_alive [] m
@[simp] theorem w_l08_alive_fold (m : Mem) : aW X F_l08_alive [] m = w_l08_alive m := (rfl)
noncomputable def w_lex_Lex (v0 : AV) (m : Mem) : Option (AOut × Mem) := aW X F_lex_Lex [v0] m
@[simp] theorem w_lex_Lex_fold (v0 : AV) (m : Mem) : aW X F_lex_Lex [v0] m = w_lex_Lex v0 m := (rfl)
noncomputable def w_r00_SameTokens (v0 v1 : AV) (m : Mem) : Option (AOut × Mem) := aW X F_r00_SameTokens [v0, v1] m
@[simp] theorem w_r00_SameTokens_fold (v0 v1 : AV) (m : Mem) : aW X F_r00_SameTokens [v0, v1] m = w_r00_SameTokens v0 v1 m := (rfl)
noncomputable def w_lex_Word (v0 v1 : AV) (m : Mem) : Option (AOut × Mem) := aW X F_lex_Word [v0, v1] m
@[simp] theorem w_lex_Word_fold (v0 v1 : AV) (m : Mem) : aW X F_lex_Word [v0, v1] m = w_lex_Word v0 v1 m := (rfl)
noncomputable def w_lex_Kind (v0 : AV) (m : Mem) : Option (AOut × Mem) := aW X F_lex_Kind [v0] m
@[simp] theorem w_lex_Kind_fold (v0 : AV) (m : Mem) : aW X F_lex_Kind [v0] m = w_lex_Kind v0 m := (rfl)
noncomputable def w_r08_Word (v0 v1 : AV) (m : Mem) : Option (AOut × Mem) := aW X F_r08_Word [v0, v1] m
@[simp] theorem w_r08_Word_fold (v0 v1 : AV) (m : Mem) : aW X F_r08_Word [v0, v1] m = w_r08_Word v0 v1 m := (rfl)
noncomputable def w_lex_Is (v0 v1 v2 : AV) (m : Mem) : Option (AOut × Mem) := aW X F_lex_Is [v0, v1, v2] m
@[simp] theorem w_lex_Is_fold (v0 v1 v2 : AV) (m : Mem) : aW X F_lex_Is [v0, v1, v2] m = w_lex_Is v0 v1 v2 m := (rfl)
noncomputable def w_r08_Is (v0 v1 v2 : AV) (m : Mem) : Option (AOut × Mem) := aW X F_r08_Is [v0, v1, v2] m
@[simp] theorem w_r08_Is_fold (v0 v1 v2 : AV) (m : Mem) : aW X F_r08_Is [v0, v1, v2] m = w_r08_Is v0 v1 v2 m := (rfl)
noncomputable def w_r08_Kind (v0 : AV) (m : Mem) : Option (AOut × Mem) := aW X F_r08_Kind [v0] m
@[simp] theorem w_r08_Kind_fold (v0 : AV) (m : Mem) : aW X F_r08_Kind [v0] m = w_r08_Kind v0 m := (rfl)
noncomputable def w_l09_alive (m : Mem) : Option (AOut × Mem) := aW X F_l09_alive [] m
@[simp] theorem w_l09_alive_fold (m : Mem) : aW X F_l09_alive [] m = w_l09_alive m := (rfl)
noncomputable def w_r08_Lex (v0 : AV) (m : Mem) : Option (AOut × Mem) := aW X F_r08_Lex [v0] m
@[simp] theorem w_r08_Lex_fold (v0 : AV) (m : Mem) : aW X F_r08_Lex [v0] m = w_r08_Lex v0 m := (rfl)
noncomputable def w_r00_CopyTokens (v0 : AV) (m : Mem) : Option (AOut × Mem) := aW X F_r00_CopyTokens [v0] m
@[simp] theorem w_r00_CopyTokens_fold (v0 : AV) (m : Mem) : aW X F_r00_CopyTokens [v0] m = w_r00_CopyTokens v0 m := (rfl)
noncomputable def w_relex_Relex (v0 v1 v2 v3 v4 : AV) (m : Mem) : Option (AOut × Mem) := aW X F_relex_Relex [v0, v1, v2, v3, v4] m
@[simp] theorem w_relex_Relex_fold (v0 v1 v2 v3 v4 : AV) (m : Mem) : aW X F_relex_Relex [v0, v1, v2, v3, v4] m = w_relex_Relex v0 v1 v2 v3 v4 m := (rfl)
noncomputable def w_r09_Relex (v0 v1 v2 v3 v4 : AV) (m : Mem) : Option (AOut × Mem) := aW X F_r09_Relex [v0, v1, v2, v3, v4] m
@[simp] theorem w_r09_Relex_fold (v0 v1 v2 v3 v4 : AV) (m : Mem) : aW X F_r09_Relex [v0, v1, v2, v3, v4] m = w_r09_Relex v0 v1 v2 v3 v4 m := (rfl)
noncomputable def w_l09_sameSpans (v0 v1 : AV) (m : Mem) : Option (AOut × Mem) := aW X F_l09_sameSpans [v0, v1] m
@[simp] theorem w_l09_sameSpans_fold (v0 v1 : AV) (m : Mem) : aW X F_l09_sameSpans [v0, v1] m = w_l09_sameSpans v0 v1 m := (rfl)
noncomputable def w_relex_Spans (v0 v1 : AV) (m : Mem) : Option (AOut × Mem) := aW X F_relex_Spans [v0, v1] m
@[simp] theorem w_relex_Spans_fold (v0 v1 : AV) (m : Mem) : aW X F_relex_Spans [v0, v1] m = w_relex_Spans v0 v1 m := (rfl)
noncomputable def w_r09_Spans (v0 v1 : AV) (m : Mem) : Option (AOut × Mem) := aW X F_r09_Spans [v0, v1] m
@[simp] theorem w_r09_Spans_fold (v0 v1 : AV) (m : Mem) : aW X F_r09_Spans [v0, v1] m = w_r09_Spans v0 v1 m := (rfl)
noncomputable def w_lex_run (v0 v1 v2 : AV) (m : Mem) : Option (AOut × Mem) := aW X F_lex_run [v0, v1, v2] m
@[simp] theorem w_lex_run_fold (v0 v1 v2 : AV) (m : Mem) : aW X F_lex_run [v0, v1, v2] m = w_lex_run v0 v1 v2 m := (rfl)
noncomputable def w_strings_HasPrefix (v0 v1 : AV) (m : Mem) : Option (AOut × Mem) := aW X F_strings_HasPrefix [v0, v1] m
@[simp] theorem w_strings_HasPrefix_fold (v0 v1 : AV) (m : Mem) : aW X F_strings_HasPrefix [v0, v1] m = w_strings_HasPrefix v0 v1 m := (rfl)
noncomputable def w_lex_remark (v0 : AV) (m : Mem) : Option (AOut × Mem) := aW X F_lex_remark [v0] m
@[simp] theorem w_lex_remark_fold (v0 : AV) (m : Mem) : aW X F_lex_remark [v0] m = w_lex_remark v0 m := (rfl)
noncomputable def w_lex_one (v0 : AV) (m : Mem) : Option (AOut × Mem) := aW X F_lex_one [v0] m
@[simp] theorem w_lex_one_fold (v0 : AV) (m : Mem) : aW X F_lex_one [v0] m = w_lex_one v0 m := (rfl)
noncomputable def w_lex_nothing (v0 : AV) (m : Mem) : Option (AOut × Mem) := aW X F_lex_nothing [v0] m
@[simp] theorem w_lex_nothing_fold (v0 : AV) (m : Mem) : aW X F_lex_nothing [v0] m = w_lex_nothing v0 m := (rfl)
noncomputable def w_r08_white (v0 : AV) (m : Mem) : Option (AOut × Mem) := aW X F_r08_white [v0] m
@[simp] theorem w_r08_white_fold (v0 : AV) (m : Mem) : aW X F_r08_white [v0] m = w_r08_white v0 m := (rfl)
noncomputable def w_r08_at (v0 v1 v2 : AV) (m : Mem) : Option (AOut × Mem) := aW X F_r08_at [v0, v1, v2] m
@[simp] theorem w_r08_at_fold (v0 v1 v2 : AV) (m : Mem) : aW X F_r08_at [v0, v1, v2] m = w_r08_at v0 v1 v2 m := (rfl)
noncomputable def w_r08_remark (v0 v1 : AV) (m : Mem) : Option (AOut × Mem) := aW X F_r08_remark [v0, v1] m
@[simp] theorem w_r08_remark_fold (v0 v1 : AV) (m : Mem) : aW X F_r08_remark [v0, v1] m = w_r08_remark v0 v1 m := (rfl)
noncomputable def w_r08_one (v0 v1 : AV) (m : Mem) : Option (AOut × Mem) := aW X F_r08_one [v0, v1] m
@[simp] theorem w_r08_one_fold (v0 v1 : AV) (m : Mem) : aW X F_r08_one [v0, v1] m = w_r08_one v0 v1 m := (rfl)
noncomputable def w_slices_Clone (v0 : AV) (m : Mem) : Option (AOut × Mem) := aW X F_slices_Clone [v0] m
@[simp] theorem w_slices_Clone_fold (v0 : AV) (m : Mem) : aW X F_slices_Clone [v0] m = w_slices_Clone v0 m := (rfl)
noncomputable def w_relex_moved (v0 v1 : AV) (m : Mem) : Option (AOut × Mem) := aW X F_relex_moved [v0, v1] m
@[simp] theorem w_relex_moved_fold (v0 v1 : AV) (m : Mem) : aW X F_relex_moved [v0, v1] m = w_relex_moved v0 v1 m := (rfl)
noncomputable def w_relex_window_meets (v0 v1 : AV) (m : Mem) : Option (AOut × Mem) := aW X F_relex_window_meets [v0, v1] m
@[simp] theorem w_relex_window_meets_fold (v0 v1 : AV) (m : Mem) : aW X F_relex_window_meets [v0, v1] m = w_relex_window_meets v0 v1 m := (rfl)
noncomputable def w_lex_has (v0 v1 : AV) (m : Mem) : Option (AOut × Mem) := aW X F_lex_has [v0, v1] m
@[simp] theorem w_lex_has_fold (v0 v1 : AV) (m : Mem) : aW X F_lex_has [v0, v1] m = w_lex_has v0 v1 m := (rfl)
noncomputable def w_i_stringslite_HasPrefix (v0 v1 : AV) (m : Mem) : Option (AOut × Mem) := aW X F_i_stringslite_HasPrefix [v0, v1] m
@[simp] theorem w_i_stringslite_HasPrefix_fold (v0 v1 : AV) (m : Mem) : aW X F_i_stringslite_HasPrefix [v0, v1] m = w_i_stringslite_HasPrefix v0 v1 m := (rfl)
noncomputable def w_lex_named (v0 : AV) (m : Mem) : Option (AOut × Mem) := aW X F_lex_named [v0] m
@[simp] theorem w_lex_named_fold (v0 : AV) (m : Mem) : aW X F_lex_named [v0] m = w_lex_named v0 m := (rfl)
noncomputable def w_lex_signs (m : Mem) : Option (AOut × Mem) := aW X F_lex_signs [] m
@[simp] theorem w_lex_signs_fold (m : Mem) : aW X F_lex_signs [] m = w_lex_signs m := (rfl)
noncomputable def w_r08_small (v0 : AV) (m : Mem) : Option (AOut × Mem) := aW X F_r08_small [v0] m
@[simp] theorem w_r08_small_fold (v0 : AV) (m : Mem) : aW X F_r08_small [v0] m = w_r08_small v0 m := (rfl)
noncomputable def w_r08_great (v0 : AV) (m : Mem) : Option (AOut × Mem) := aW X F_r08_great [v0] m
@[simp] theorem w_r08_great_fold (v0 : AV) (m : Mem) : aW X F_r08_great [v0] m = w_r08_great v0 m := (rfl)
noncomputable def w_r08_digit (v0 : AV) (m : Mem) : Option (AOut × Mem) := aW X F_r08_digit [v0] m
@[simp] theorem w_r08_digit_fold (v0 : AV) (m : Mem) : aW X F_r08_digit [v0] m = w_r08_digit v0 m := (rfl)
noncomputable def w_r08_words (m : Mem) : Option (AOut × Mem) := aW X F_r08_words [] m
@[simp] theorem w_r08_words_fold (m : Mem) : aW X F_r08_words [] m = w_r08_words m := (rfl)
noncomputable def w_r08_signs (m : Mem) : Option (AOut × Mem) := aW X F_r08_signs [] m
@[simp] theorem w_r08_signs_fold (m : Mem) : aW X F_r08_signs [] m = w_r08_signs m := (rfl)
noncomputable def w_slices_BinarySearchFunc (v0 v1 v2 : AV) (m : Mem) : Option (AOut × Mem) := aW X F_slices_BinarySearchFunc [v0, v1, v2] m
@[simp] theorem w_slices_BinarySearchFunc_fold (v0 v1 v2 : AV) (m : Mem) : aW X F_slices_BinarySearchFunc [v0, v1, v2] m = w_slices_BinarySearchFunc v0 v1 v2 m := (rfl)
noncomputable def w_relex_window_meets_1 (v0 v1 v2 : AV) (m : Mem) : Option (AOut × Mem) := aW X F_relex_window_meets_1 [v0, v1, v2] m
@[simp] theorem w_relex_window_meets_1_fold (v0 v1 v2 : AV) (m : Mem) : aW X F_relex_window_meets_1 [v0, v1, v2] m = w_relex_window_meets_1 v0 v1 v2 m := (rfl)
noncomputable def w_strings_IndexByte (v0 v1 : AV) (m : Mem) : Option (AOut × Mem) := aW X F_strings_IndexByte [v0, v1] m
@[simp] theorem w_strings_IndexByte_fold (v0 v1 : AV) (m : Mem) : aW X F_strings_IndexByte [v0, v1] m = w_strings_IndexByte v0 v1 m := (rfl)
noncomputable def w_slices_Contains (v0 v1 : AV) (m : Mem) : Option (AOut × Mem) := aW X F_slices_Contains [v0, v1] m
@[simp] theorem w_slices_Contains_fold (v0 v1 : AV) (m : Mem) : aW X F_slices_Contains [v0, v1] m = w_slices_Contains v0 v1 m := (rfl)
noncomputable def w_lex_keys (m : Mem) : Option (AOut × Mem) := aW X F_lex_keys [] m
@[simp] theorem w_lex_keys_fold (m : Mem) : aW X F_lex_keys [] m = w_lex_keys m := (rfl)
noncomputable def w_i_stringslite_IndexByte (v0 v1 : AV) (m : Mem) : Option (AOut × Mem) := aW X F_i_stringslite_IndexByte [v0, v1] m
@[simp] theorem w_i_stringslite_IndexByte_fold (v0 v1 : AV) (m : Mem) : aW X F_i_stringslite_IndexByte [v0, v1] m = w_i_stringslite_IndexByte v0 v1 m := (rfl)
noncomputable def w_slices_Index (v0 v1 : AV) (m : Mem) : Option (AOut × Mem) := aW X F_slices_Index [v0, v1] m
@[simp] theorem w_slices_Index_fold (v0 v1 : AV) (m : Mem) : aW X F_slices_Index [v0, v1] m = w_slices_Index v0 v1 m := (rfl)
noncomputable def w_i_bytealg_IndexByteString (v0 v1 : AV) (m : Mem) : Option (AOut × Mem) := aW X F_i_bytealg_IndexByteString [v0, v1] m
@[simp] theorem w_i_bytealg_IndexByteString_fold (v0 v1 : AV) (m : Mem) : aW X F_i_bytealg_IndexByteString [v0, v1] m = w_i_bytealg_IndexByteString v0 v1 m := (rfl)
noncomputable def w_runtime_boundsError_Error (v0 : AV) (m : Mem) : Option (AOut × Mem) := aW X F_runtime_boundsError_Error [v0] m
@[simp] theorem w_runtime_boundsError_Error_fold (v0 : AV) (m : Mem) : aW X F_runtime_boundsError_Error [v0] m = w_runtime_boundsError_Error v0 m := (rfl)
noncomputable def w_runtime_boundsError_RuntimeError (v0 : AV) (m : Mem) : Option (AOut × Mem) := aW X F_runtime_boundsError_RuntimeError [v0] m
@[simp] theorem w_runtime_boundsError_RuntimeError_fold (v0 : AV) (m : Mem) : aW X F_runtime_boundsError_RuntimeError [v0] m = w_runtime_boundsError_RuntimeError v0 m := (rfl)
noncomputable def w_runtime_errorString_Error (v0 : AV) (m : Mem) : Option (AOut × Mem) := aW X F_runtime_errorString_Error [v0] m
@[simp] theorem w_runtime_errorString_Error_fold (v0 : AV) (m : Mem) : aW X F_runtime_errorString_Error [v0] m = w_runtime_errorString_Error v0 m := (rfl)
noncomputable def w_runtime_errorString_RuntimeError (v0 : AV) (m : Mem) : Option (AOut × Mem) := aW X F_runtime_errorString_RuntimeError [v0] m
@[simp] theorem w_runtime_errorString_RuntimeError_fold (v0 : AV) (m : Mem) : aW X F_runtime_errorString_RuntimeError [v0] m = w_runtime_errorString_RuntimeError v0 m := (rfl)
noncomputable def w_runtime_plainError_Error (v0 : AV) (m : Mem) : Option (AOut × Mem) := aW X F_runtime_plainError_Error [v0] m
@[simp] theorem w_runtime_plainError_Error_fold (v0 : AV) (m : Mem) : aW X F_runtime_plainError_Error [v0] m = w_runtime_plainError_Error v0 m := (rfl)
noncomputable def w_runtime_plainError_RuntimeError (v0 : AV) (m : Mem) : Option (AOut × Mem) := aW X F_runtime_plainError_RuntimeError [v0] m
@[simp] theorem w_runtime_plainError_RuntimeError_fold (v0 : AV) (m : Mem) : aW X F_runtime_plainError_RuntimeError [v0] m = w_runtime_plainError_RuntimeError v0 m := (rfl)
noncomputable def w_runtime_errorAddressString_Error (v0 : AV) (m : Mem) : Option (AOut × Mem) := aW X F_runtime_errorAddressString_Error [v0] m
@[simp] theorem w_runtime_errorAddressString_Error_fold (v0 : AV) (m : Mem) : aW X F_runtime_errorAddressString_Error [v0] m = w_runtime_errorAddressString_Error v0 m := (rfl)
noncomputable def w_runtime_errorAddressString_RuntimeError (v0 : AV) (m : Mem) : Option (AOut × Mem) := aW X F_runtime_errorAddressString_RuntimeError [v0] m
@[simp] theorem w_runtime_errorAddressString_RuntimeError_fold (v0 : AV) (m : Mem) : aW X F_runtime_errorAddressString_RuntimeError [v0] m = w_runtime_errorAddressString_RuntimeError v0 m := (rfl)
noncomputable def w_runtime_TypeAssertionError_Error (v0 : AV) (m : Mem) : Option (AOut × Mem) := aW X F_runtime_TypeAssertionError_Error [v0] m
@[simp] theorem w_runtime_TypeAssertionError_Error_fold (v0 : AV) (m : Mem) : aW X F_runtime_TypeAssertionError_Error [v0] m = w_runtime_TypeAssertionError_Error v0 m := (rfl)
noncomputable def w_runtime_TypeAssertionError_RuntimeError (v0 : AV) (m : Mem) : Option (AOut × Mem) := aW X F_runtime_TypeAssertionError_RuntimeError [v0] m
@[simp] theorem w_runtime_TypeAssertionError_RuntimeError_fold (v0 : AV) (m : Mem) : aW X F_runtime_TypeAssertionError_RuntimeError [v0] m = w_runtime_TypeAssertionError_RuntimeError v0 m := (rfl)
noncomputable def w_runtime_PanicNilError_Error (v0 : AV) (m : Mem) : Option (AOut × Mem) := aW X F_runtime_PanicNilError_Error [v0] m
@[simp] theorem w_runtime_PanicNilError_Error_fold (v0 : AV) (m : Mem) : aW X F_runtime_PanicNilError_Error [v0] m = w_runtime_PanicNilError_Error v0 m := (rfl)
noncomputable def w_runtime_PanicNilError_RuntimeError (v0 : AV) (m : Mem) : Option (AOut × Mem) := aW X F_runtime_PanicNilError_RuntimeError [v0] m
@[simp] theorem w_runtime_PanicNilError_RuntimeError_fold (v0 : AV) (m : Mem) : aW X F_runtime_PanicNilError_RuntimeError [v0] m = w_runtime_PanicNilError_RuntimeError v0 m := (rfl)
noncomputable def w_i_abi_Type_Align (v0 : AV) (m : Mem) : Option (AOut × Mem) := aW X F_i_abi_Type_Align [v0] m
@[simp] theorem w_i_abi_Type_Align_fold (v0 : AV) (m : Mem) : aW X F_i_abi_Type_Align [v0] m = w_i_abi_Type_Align v0 m := (rfl)
noncomputable def w_i_runtime_maps_unhashableTypeError_Error (v0 : AV) (m : Mem) : Option (AOut × Mem) := aW X F_i_runtime_maps_unhashableTypeError_Error [v0] m
@[simp] theorem w_i_runtime_maps_unhashableTypeError_Error_fold (v0 : AV) (m : Mem) : aW X F_i_runtime_maps_unhashableTypeError_Error [v0] m = w_i_runtime_maps_unhashableTypeError_Error v0 m := (rfl)
noncomputable def w_i_runtime_maps_unhashableTypeError_RuntimeError (v0 : AV) (m : Mem) : Option (AOut × Mem) := aW X F_i_runtime_maps_unhashableTypeError_RuntimeError [v0] m
@[simp] theorem w_i_runtime_maps_unhashableTypeError_RuntimeError_fold (v0 : AV) (m : Mem) : aW X F_i_runtime_maps_unhashableTypeError_RuntimeError [v0] m = w_i_runtime_maps_unhashableTypeError_RuntimeError v0 m := (rfl)
noncomputable def w_api_Errno_Error (v0 : AV) (m : Mem) : Option (AOut × Mem) := aW X F_api_Errno_Error [v0] m
@[simp] theorem w_api_Errno_Error_fold (v0 : AV) (m : Mem) : aW X F_api_Errno_Error [v0] m = w_api_Errno_Error v0 m := (rfl)
noncomputable def w_i_abi_Kind_String (v0 : AV) (m : Mem) : Option (AOut × Mem) := aW X F_i_abi_Kind_String [v0] m
@[simp] theorem w_i_abi_Kind_String_fold (v0 : AV) (m : Mem) : aW X F_i_abi_Kind_String [v0] m = w_i_abi_Kind_String v0 m := (rfl)
@[simp] theorem ty_int : X.T T_int = some A_int := by kernel_rfl
@[simp] theorem tyd_int : aD X.T T_int = some (.int .i64) := by kernel_rfl
@[simp] theorem ty_bool : X.T T_bool = some A_bool := by kernel_rfl
@[simp] theorem tyd_bool : aD X.T T_bool = some (.bool) := by kernel_rfl
@[simp] theorem ty_uint8 : X.T T_uint8 = some A_uint8 := by kernel_rfl
@[simp] theorem tyd_uint8 : aD X.T T_uint8 = some (.int .u8) := by kernel_rfl
@[simp] theorem ty_string : X.T T_string = some A_string := by kernel_rfl
@[simp] theorem tyd_string : aD X.T T_string = some (.str) := by kernel_rfl
@[simp] theorem ty_Sl_uint8 : X.T T_Sl_uint8 = some A_Sl_uint8 := by kernel_rfl
@[simp] theorem tyd_Sl_uint8 : aD X.T T_Sl_uint8 = some (.slice 5) := by kernel_rfl
@[simp] theorem ty_Sl_api_Token : X.T T_Sl_api_Token = some A_Sl_api_Token := by kernel_rfl
@[simp] theorem tyd_Sl_api_Token : aD X.T T_Sl_api_Token = some (.slice 27) := by kernel_rfl
@[simp] theorem ty_api_Token : X.T T_api_Token = some A_api_Token := by kernel_rfl
@[simp] theorem tyd_api_Token : aD X.T T_api_Token = some (.strct [(0, 3, true), (1, 3, true), (2, 3, true)]) := by kernel_rfl
@[simp] theorem ty_api_Errno : X.T T_api_Errno = some A_api_Errno := by kernel_rfl
@[simp] theorem tyd_api_Errno : aD X.T T_api_Errno = some (.int .i64) := by kernel_rfl
@[simp] theorem ty_Ar2_int : X.T T_Ar2_int = some A_Ar2_int := by kernel_rfl
@[simp] theorem tyd_Ar2_int : aD X.T T_Ar2_int = some (.arr 2 3) := by kernel_rfl
@[simp] theorem ty_uint : X.T T_uint = some A_uint := by kernel_rfl
@[simp] theorem tyd_uint : aD X.T T_uint = some (.int .u64) := by kernel_rfl
theorem e_i_stringslite_IndexByte (v0 v1 : AV) (m : Mem) : w_i_stringslite_IndexByte v0 v1 m = primIndexByte [v0, v1] m := aW_prim (by kernel_rfl) _ m

end Go.AM
