/- What the tables of this program say of its types. -/
import Derived.Test.YtblfodnajpamfaaDoorZ3
import Derived.Test.YtblfodnajpamfaaDoorProg
import Derived.KernelRfl
namespace Go.Proofs.YtblfodnajpamfaaDoor
open Go Go.Ab

@[go_sem] theorem tk_0 : tk Tryd.prog 0 = some (false, 1) := by kernel_rfl
@[go_sem] theorem und_0 : (Tryd.prog.underlying 0).isSome = true := by kernel_rfl
@[go_sem] theorem slk_0 : slk Tryd.prog 0 = none := by kernel_rfl
@[go_sem] theorem ark_0 : ark Tryd.prog 0 = none := by kernel_rfl
@[go_sem] theorem isStr_0 : isStr Tryd.prog 0 = false := by kernel_rfl
@[go_sem] theorem isBool_0 : isBool Tryd.prog 0 = false := by kernel_rfl
@[go_sem] theorem notInt_0 : notInt Tryd.prog 0 = true := by kernel_rfl
@[go_sem] theorem zk_0 : zk Tryd.prog 0 = some [Value.tuple { toList := [] }] := by kernel_rfl
@[go_sem] theorem arn_0 : arn Tryd.prog 0 = none := by kernel_rfl
@[go_sem] theorem bldk_0 : bldk Tryd.prog 0 = false := by kernel_rfl
@[go_sem] theorem bsl_0 : bsl Tryd.prog 0 = false := by kernel_rfl
@[go_sem] theorem isIf_0 : isIf Tryd.prog 0 = false := by kernel_rfl
@[go_sem] theorem tk_1 : tk Tryd.prog 1 = some (false, 1) := by kernel_rfl
@[go_sem] theorem und_1 : (Tryd.prog.underlying 1).isSome = true := by kernel_rfl
@[go_sem] theorem slk_1 : slk Tryd.prog 1 = none := by kernel_rfl
@[go_sem] theorem ark_1 : ark Tryd.prog 1 = none := by kernel_rfl
@[go_sem] theorem isStr_1 : isStr Tryd.prog 1 = false := by kernel_rfl
@[go_sem] theorem isBool_1 : isBool Tryd.prog 1 = false := by kernel_rfl
@[go_sem] theorem notInt_1 : notInt Tryd.prog 1 = true := by kernel_rfl
@[go_sem] theorem zk_1 : zk Tryd.prog 1 = some [Value.nilFunc] := by kernel_rfl
@[go_sem] theorem arn_1 : arn Tryd.prog 1 = none := by kernel_rfl
@[go_sem] theorem bldk_1 : bldk Tryd.prog 1 = false := by kernel_rfl
@[go_sem] theorem bsl_1 : bsl Tryd.prog 1 = false := by kernel_rfl
@[go_sem] theorem isIf_1 : isIf Tryd.prog 1 = false := by kernel_rfl
@[go_sem] theorem tk_2 : tk Tryd.prog 2 = some (false, 1) := by kernel_rfl
@[go_sem] theorem und_2 : (Tryd.prog.underlying 2).isSome = true := by kernel_rfl
@[go_sem] theorem slk_2 : slk Tryd.prog 2 = none := by kernel_rfl
@[go_sem] theorem ark_2 : ark Tryd.prog 2 = none := by kernel_rfl
@[go_sem] theorem isStr_2 : isStr Tryd.prog 2 = false := by kernel_rfl
@[go_sem] theorem isBool_2 : isBool Tryd.prog 2 = false := by kernel_rfl
@[go_sem] theorem ik_2 : ik Tryd.prog 2 = some IntKind.i64 := by kernel_rfl
@[go_sem] theorem notInt_2 : notInt Tryd.prog 2 = false := by kernel_rfl
@[go_sem] theorem zk_2 : zk Tryd.prog 2 = some [Value.int IntKind.i64 (Int.ofNat 0)] := by kernel_rfl
@[go_sem] theorem arn_2 : arn Tryd.prog 2 = none := by kernel_rfl
@[go_sem] theorem bldk_2 : bldk Tryd.prog 2 = false := by kernel_rfl
@[go_sem] theorem bsl_2 : bsl Tryd.prog 2 = false := by kernel_rfl
@[go_sem] theorem isIf_2 : isIf Tryd.prog 2 = false := by kernel_rfl
@[go_sem] theorem tk_3 : tk Tryd.prog 3 = some (false, 1) := by kernel_rfl
@[go_sem] theorem und_3 : (Tryd.prog.underlying 3).isSome = true := by kernel_rfl
@[go_sem] theorem slk_3 : slk Tryd.prog 3 = none := by kernel_rfl
@[go_sem] theorem ark_3 : ark Tryd.prog 3 = none := by kernel_rfl
@[go_sem] theorem isStr_3 : isStr Tryd.prog 3 = false := by kernel_rfl
@[go_sem] theorem isBool_3 : isBool Tryd.prog 3 = false := by kernel_rfl
@[go_sem] theorem ik_3 : ik Tryd.prog 3 = some IntKind.i64 := by kernel_rfl
@[go_sem] theorem notInt_3 : notInt Tryd.prog 3 = false := by kernel_rfl
@[go_sem] theorem zk_3 : zk Tryd.prog 3 = some [Value.int IntKind.i64 (Int.ofNat 0)] := by kernel_rfl
@[go_sem] theorem arn_3 : arn Tryd.prog 3 = none := by kernel_rfl
@[go_sem] theorem bldk_3 : bldk Tryd.prog 3 = false := by kernel_rfl
@[go_sem] theorem bsl_3 : bsl Tryd.prog 3 = false := by kernel_rfl
@[go_sem] theorem isIf_3 : isIf Tryd.prog 3 = false := by kernel_rfl
@[go_sem] theorem tk_4 : tk Tryd.prog 4 = some (false, 1) := by kernel_rfl
@[go_sem] theorem und_4 : (Tryd.prog.underlying 4).isSome = true := by kernel_rfl
@[go_sem] theorem slk_4 : slk Tryd.prog 4 = none := by kernel_rfl
@[go_sem] theorem ark_4 : ark Tryd.prog 4 = none := by kernel_rfl
@[go_sem] theorem isStr_4 : isStr Tryd.prog 4 = false := by kernel_rfl
@[go_sem] theorem isBool_4 : isBool Tryd.prog 4 = true := by kernel_rfl
@[go_sem] theorem notInt_4 : notInt Tryd.prog 4 = true := by kernel_rfl
@[go_sem] theorem zk_4 : zk Tryd.prog 4 = some [Value.bool false] := by kernel_rfl
@[go_sem] theorem arn_4 : arn Tryd.prog 4 = none := by kernel_rfl
@[go_sem] theorem bldk_4 : bldk Tryd.prog 4 = false := by kernel_rfl
@[go_sem] theorem bsl_4 : bsl Tryd.prog 4 = false := by kernel_rfl
@[go_sem] theorem isIf_4 : isIf Tryd.prog 4 = false := by kernel_rfl
@[go_sem] theorem tk_5 : tk Tryd.prog 5 = some (false, 1) := by kernel_rfl
@[go_sem] theorem und_5 : (Tryd.prog.underlying 5).isSome = true := by kernel_rfl
@[go_sem] theorem slk_5 : slk Tryd.prog 5 = none := by kernel_rfl
@[go_sem] theorem ark_5 : ark Tryd.prog 5 = none := by kernel_rfl
@[go_sem] theorem isStr_5 : isStr Tryd.prog 5 = false := by kernel_rfl
@[go_sem] theorem isBool_5 : isBool Tryd.prog 5 = false := by kernel_rfl
@[go_sem] theorem ik_5 : ik Tryd.prog 5 = some IntKind.u8 := by kernel_rfl
@[go_sem] theorem notInt_5 : notInt Tryd.prog 5 = false := by kernel_rfl
@[go_sem] theorem zk_5 : zk Tryd.prog 5 = some [Value.int IntKind.u8 (Int.ofNat 0)] := by kernel_rfl
@[go_sem] theorem arn_5 : arn Tryd.prog 5 = none := by kernel_rfl
@[go_sem] theorem bldk_5 : bldk Tryd.prog 5 = false := by kernel_rfl
@[go_sem] theorem bsl_5 : bsl Tryd.prog 5 = false := by kernel_rfl
@[go_sem] theorem isIf_5 : isIf Tryd.prog 5 = false := by kernel_rfl
@[go_sem] theorem tk_6 : tk Tryd.prog 6 = some (false, 1) := by kernel_rfl
@[go_sem] theorem und_6 : (Tryd.prog.underlying 6).isSome = true := by kernel_rfl
@[go_sem] theorem slk_6 : slk Tryd.prog 6 = none := by kernel_rfl
@[go_sem] theorem ark_6 : ark Tryd.prog 6 = none := by kernel_rfl
@[go_sem] theorem isStr_6 : isStr Tryd.prog 6 = false := by kernel_rfl
@[go_sem] theorem isBool_6 : isBool Tryd.prog 6 = false := by kernel_rfl
@[go_sem] theorem ik_6 : ik Tryd.prog 6 = some IntKind.u8 := by kernel_rfl
@[go_sem] theorem notInt_6 : notInt Tryd.prog 6 = false := by kernel_rfl
@[go_sem] theorem zk_6 : zk Tryd.prog 6 = some [Value.int IntKind.u8 (Int.ofNat 0)] := by kernel_rfl
@[go_sem] theorem arn_6 : arn Tryd.prog 6 = none := by kernel_rfl
@[go_sem] theorem bldk_6 : bldk Tryd.prog 6 = false := by kernel_rfl
@[go_sem] theorem bsl_6 : bsl Tryd.prog 6 = false := by kernel_rfl
@[go_sem] theorem isIf_6 : isIf Tryd.prog 6 = false := by kernel_rfl
@[go_sem] theorem tk_7 : tk Tryd.prog 7 = some (true, 4) := by kernel_rfl
@[go_sem] theorem und_7 : (Tryd.prog.underlying 7).isSome = true := by kernel_rfl
@[go_sem] theorem slk_7 : slk Tryd.prog 7 = none := by kernel_rfl
@[go_sem] theorem ark_7 : ark Tryd.prog 7 = none := by kernel_rfl
@[go_sem] theorem isStr_7 : isStr Tryd.prog 7 = false := by kernel_rfl
@[go_sem] theorem isBool_7 : isBool Tryd.prog 7 = false := by kernel_rfl
@[go_sem] theorem notInt_7 : notInt Tryd.prog 7 = true := by kernel_rfl
@[go_sem] theorem flk_7 : flk Tryd.prog 7 = some [(0, 1), (1, 1), (2, 1), (3, 1)] := by kernel_rfl
@[go_sem] theorem zk_7 : zk Tryd.prog 7 = some [Value.int IntKind.i64 (Int.ofNat 0), Value.int IntKind.i64 (Int.ofNat 0), Value.bool false, Value.int IntKind.u8 (Int.ofNat 0)] := by kernel_rfl
@[go_sem] theorem eqk_7 : eqk Tryd.prog 7 = some [CK.i, CK.i, CK.b, CK.i] := by kernel_rfl
@[go_sem] theorem arn_7 : arn Tryd.prog 7 = none := by kernel_rfl
@[go_sem] theorem bldk_7 : bldk Tryd.prog 7 = false := by kernel_rfl
@[go_sem] theorem bsl_7 : bsl Tryd.prog 7 = false := by kernel_rfl
@[go_sem] theorem isIf_7 : isIf Tryd.prog 7 = false := by kernel_rfl
@[go_sem] theorem fdk_7_0 : fdk Tryd.prog 7 0 = some (0, false, 1) := by kernel_rfl
@[go_sem] theorem fdk_7_1 : fdk Tryd.prog 7 1 = some (1, false, 1) := by kernel_rfl
@[go_sem] theorem fdk_7_2 : fdk Tryd.prog 7 2 = some (2, false, 1) := by kernel_rfl
@[go_sem] theorem fdk_7_3 : fdk Tryd.prog 7 3 = some (3, false, 1) := by kernel_rfl
@[go_sem] theorem tk_8 : tk Tryd.prog 8 = some (true, 4) := by kernel_rfl
@[go_sem] theorem und_8 : (Tryd.prog.underlying 8).isSome = true := by kernel_rfl
@[go_sem] theorem slk_8 : slk Tryd.prog 8 = none := by kernel_rfl
@[go_sem] theorem ark_8 : ark Tryd.prog 8 = none := by kernel_rfl
@[go_sem] theorem isStr_8 : isStr Tryd.prog 8 = false := by kernel_rfl
@[go_sem] theorem isBool_8 : isBool Tryd.prog 8 = false := by kernel_rfl
@[go_sem] theorem notInt_8 : notInt Tryd.prog 8 = true := by kernel_rfl
@[go_sem] theorem flk_8 : flk Tryd.prog 8 = some [(0, 1), (1, 1), (2, 1), (3, 1)] := by kernel_rfl
@[go_sem] theorem zk_8 : zk Tryd.prog 8 = some [Value.int IntKind.i64 (Int.ofNat 0), Value.int IntKind.i64 (Int.ofNat 0), Value.bool false, Value.int IntKind.u8 (Int.ofNat 0)] := by kernel_rfl
@[go_sem] theorem eqk_8 : eqk Tryd.prog 8 = some [CK.i, CK.i, CK.b, CK.i] := by kernel_rfl
@[go_sem] theorem arn_8 : arn Tryd.prog 8 = none := by kernel_rfl
@[go_sem] theorem bldk_8 : bldk Tryd.prog 8 = false := by kernel_rfl
@[go_sem] theorem bsl_8 : bsl Tryd.prog 8 = false := by kernel_rfl
@[go_sem] theorem isIf_8 : isIf Tryd.prog 8 = false := by kernel_rfl
@[go_sem] theorem fdk_8_0 : fdk Tryd.prog 8 0 = some (0, false, 1) := by kernel_rfl
@[go_sem] theorem fdk_8_1 : fdk Tryd.prog 8 1 = some (1, false, 1) := by kernel_rfl
@[go_sem] theorem fdk_8_2 : fdk Tryd.prog 8 2 = some (2, false, 1) := by kernel_rfl
@[go_sem] theorem fdk_8_3 : fdk Tryd.prog 8 3 = some (3, false, 1) := by kernel_rfl
@[go_sem] theorem tk_9 : tk Tryd.prog 9 = some (false, 1) := by kernel_rfl
@[go_sem] theorem und_9 : (Tryd.prog.underlying 9).isSome = true := by kernel_rfl
@[go_sem] theorem slk_9 : slk Tryd.prog 9 = none := by kernel_rfl
@[go_sem] theorem ark_9 : ark Tryd.prog 9 = none := by kernel_rfl
@[go_sem] theorem isStr_9 : isStr Tryd.prog 9 = true := by kernel_rfl
@[go_sem] theorem isBool_9 : isBool Tryd.prog 9 = false := by kernel_rfl
@[go_sem] theorem notInt_9 : notInt Tryd.prog 9 = true := by kernel_rfl
@[go_sem] theorem zk_9 : zk Tryd.prog 9 = some [Value.string { data := { toList := [] } }] := by kernel_rfl
@[go_sem] theorem arn_9 : arn Tryd.prog 9 = none := by kernel_rfl
@[go_sem] theorem bldk_9 : bldk Tryd.prog 9 = false := by kernel_rfl
@[go_sem] theorem bsl_9 : bsl Tryd.prog 9 = false := by kernel_rfl
@[go_sem] theorem isIf_9 : isIf Tryd.prog 9 = false := by kernel_rfl
@[go_sem] theorem tk_10 : tk Tryd.prog 10 = some (false, 1) := by kernel_rfl
@[go_sem] theorem und_10 : (Tryd.prog.underlying 10).isSome = true := by kernel_rfl
@[go_sem] theorem slk_10 : slk Tryd.prog 10 = none := by kernel_rfl
@[go_sem] theorem ark_10 : ark Tryd.prog 10 = none := by kernel_rfl
@[go_sem] theorem isStr_10 : isStr Tryd.prog 10 = true := by kernel_rfl
@[go_sem] theorem isBool_10 : isBool Tryd.prog 10 = false := by kernel_rfl
@[go_sem] theorem notInt_10 : notInt Tryd.prog 10 = true := by kernel_rfl
@[go_sem] theorem zk_10 : zk Tryd.prog 10 = some [Value.string { data := { toList := [] } }] := by kernel_rfl
@[go_sem] theorem arn_10 : arn Tryd.prog 10 = none := by kernel_rfl
@[go_sem] theorem bldk_10 : bldk Tryd.prog 10 = false := by kernel_rfl
@[go_sem] theorem bsl_10 : bsl Tryd.prog 10 = false := by kernel_rfl
@[go_sem] theorem isIf_10 : isIf Tryd.prog 10 = false := by kernel_rfl
@[go_sem] theorem tk_11 : tk Tryd.prog 11 = some (false, 1) := by kernel_rfl
@[go_sem] theorem und_11 : (Tryd.prog.underlying 11).isSome = true := by kernel_rfl
@[go_sem] theorem slk_11 : slk Tryd.prog 11 = none := by kernel_rfl
@[go_sem] theorem ark_11 : ark Tryd.prog 11 = none := by kernel_rfl
@[go_sem] theorem isStr_11 : isStr Tryd.prog 11 = true := by kernel_rfl
@[go_sem] theorem isBool_11 : isBool Tryd.prog 11 = false := by kernel_rfl
@[go_sem] theorem notInt_11 : notInt Tryd.prog 11 = true := by kernel_rfl
@[go_sem] theorem zk_11 : zk Tryd.prog 11 = some [Value.string { data := { toList := [] } }] := by kernel_rfl
@[go_sem] theorem arn_11 : arn Tryd.prog 11 = none := by kernel_rfl
@[go_sem] theorem bldk_11 : bldk Tryd.prog 11 = false := by kernel_rfl
@[go_sem] theorem bsl_11 : bsl Tryd.prog 11 = false := by kernel_rfl
@[go_sem] theorem isIf_11 : isIf Tryd.prog 11 = false := by kernel_rfl
@[go_sem] theorem tk_12 : tk Tryd.prog 12 = some (false, 1) := by kernel_rfl
@[go_sem] theorem und_12 : (Tryd.prog.underlying 12).isSome = true := by kernel_rfl
@[go_sem] theorem slk_12 : slk Tryd.prog 12 = none := by kernel_rfl
@[go_sem] theorem ark_12 : ark Tryd.prog 12 = none := by kernel_rfl
@[go_sem] theorem isStr_12 : isStr Tryd.prog 12 = false := by kernel_rfl
@[go_sem] theorem isBool_12 : isBool Tryd.prog 12 = false := by kernel_rfl
@[go_sem] theorem ik_12 : ik Tryd.prog 12 = some IntKind.u64 := by kernel_rfl
@[go_sem] theorem notInt_12 : notInt Tryd.prog 12 = false := by kernel_rfl
@[go_sem] theorem zk_12 : zk Tryd.prog 12 = some [Value.int IntKind.u64 (Int.ofNat 0)] := by kernel_rfl
@[go_sem] theorem arn_12 : arn Tryd.prog 12 = none := by kernel_rfl
@[go_sem] theorem bldk_12 : bldk Tryd.prog 12 = false := by kernel_rfl
@[go_sem] theorem bsl_12 : bsl Tryd.prog 12 = false := by kernel_rfl
@[go_sem] theorem isIf_12 : isIf Tryd.prog 12 = false := by kernel_rfl
@[go_sem] theorem tk_13 : tk Tryd.prog 13 = some (true, 2) := by kernel_rfl
@[go_sem] theorem und_13 : (Tryd.prog.underlying 13).isSome = true := by kernel_rfl
@[go_sem] theorem slk_13 : slk Tryd.prog 13 = none := by kernel_rfl
@[go_sem] theorem ark_13 : ark Tryd.prog 13 = none := by kernel_rfl
@[go_sem] theorem isStr_13 : isStr Tryd.prog 13 = false := by kernel_rfl
@[go_sem] theorem isBool_13 : isBool Tryd.prog 13 = false := by kernel_rfl
@[go_sem] theorem notInt_13 : notInt Tryd.prog 13 = true := by kernel_rfl
@[go_sem] theorem flk_13 : flk Tryd.prog 13 = some [(0, 1), (1, 1)] := by kernel_rfl
@[go_sem] theorem zk_13 : zk Tryd.prog 13 = some [Value.string { data := { toList := [] } }, Value.int IntKind.u64 (Int.ofNat 0)] := by kernel_rfl
@[go_sem] theorem arn_13 : arn Tryd.prog 13 = none := by kernel_rfl
@[go_sem] theorem bldk_13 : bldk Tryd.prog 13 = false := by kernel_rfl
@[go_sem] theorem bsl_13 : bsl Tryd.prog 13 = false := by kernel_rfl
@[go_sem] theorem isIf_13 : isIf Tryd.prog 13 = false := by kernel_rfl
@[go_sem] theorem fdk_13_0 : fdk Tryd.prog 13 0 = some (0, false, 1) := by kernel_rfl
@[go_sem] theorem fdk_13_1 : fdk Tryd.prog 13 1 = some (1, false, 1) := by kernel_rfl
@[go_sem] theorem tk_14 : tk Tryd.prog 14 = some (true, 2) := by kernel_rfl
@[go_sem] theorem und_14 : (Tryd.prog.underlying 14).isSome = true := by kernel_rfl
@[go_sem] theorem slk_14 : slk Tryd.prog 14 = none := by kernel_rfl
@[go_sem] theorem ark_14 : ark Tryd.prog 14 = none := by kernel_rfl
@[go_sem] theorem isStr_14 : isStr Tryd.prog 14 = false := by kernel_rfl
@[go_sem] theorem isBool_14 : isBool Tryd.prog 14 = false := by kernel_rfl
@[go_sem] theorem notInt_14 : notInt Tryd.prog 14 = true := by kernel_rfl
@[go_sem] theorem flk_14 : flk Tryd.prog 14 = some [(0, 1), (1, 1)] := by kernel_rfl
@[go_sem] theorem zk_14 : zk Tryd.prog 14 = some [Value.string { data := { toList := [] } }, Value.int IntKind.u64 (Int.ofNat 0)] := by kernel_rfl
@[go_sem] theorem arn_14 : arn Tryd.prog 14 = none := by kernel_rfl
@[go_sem] theorem bldk_14 : bldk Tryd.prog 14 = false := by kernel_rfl
@[go_sem] theorem bsl_14 : bsl Tryd.prog 14 = false := by kernel_rfl
@[go_sem] theorem isIf_14 : isIf Tryd.prog 14 = false := by kernel_rfl
@[go_sem] theorem fdk_14_0 : fdk Tryd.prog 14 0 = some (0, false, 1) := by kernel_rfl
@[go_sem] theorem fdk_14_1 : fdk Tryd.prog 14 1 = some (1, false, 1) := by kernel_rfl
@[go_sem] theorem tk_15 : tk Tryd.prog 15 = some (false, 1) := by kernel_rfl
@[go_sem] theorem und_15 : (Tryd.prog.underlying 15).isSome = true := by kernel_rfl
@[go_sem] theorem slk_15 : slk Tryd.prog 15 = none := by kernel_rfl
@[go_sem] theorem ark_15 : ark Tryd.prog 15 = none := by kernel_rfl
@[go_sem] theorem isStr_15 : isStr Tryd.prog 15 = false := by kernel_rfl
@[go_sem] theorem isBool_15 : isBool Tryd.prog 15 = false := by kernel_rfl
@[go_sem] theorem notInt_15 : notInt Tryd.prog 15 = true := by kernel_rfl
@[go_sem] theorem zk_15 : zk Tryd.prog 15 = some [Value.pointer none] := by kernel_rfl
@[go_sem] theorem arn_15 : arn Tryd.prog 15 = none := by kernel_rfl
@[go_sem] theorem bldk_15 : bldk Tryd.prog 15 = false := by kernel_rfl
@[go_sem] theorem bsl_15 : bsl Tryd.prog 15 = false := by kernel_rfl
@[go_sem] theorem isIf_15 : isIf Tryd.prog 15 = false := by kernel_rfl
@[go_sem] theorem tk_16 : tk Tryd.prog 16 = some (false, 1) := by kernel_rfl
@[go_sem] theorem und_16 : (Tryd.prog.underlying 16).isSome = true := by kernel_rfl
@[go_sem] theorem slk_16 : slk Tryd.prog 16 = none := by kernel_rfl
@[go_sem] theorem ark_16 : ark Tryd.prog 16 = none := by kernel_rfl
@[go_sem] theorem isStr_16 : isStr Tryd.prog 16 = false := by kernel_rfl
@[go_sem] theorem isBool_16 : isBool Tryd.prog 16 = false := by kernel_rfl
@[go_sem] theorem notInt_16 : notInt Tryd.prog 16 = true := by kernel_rfl
@[go_sem] theorem zk_16 : zk Tryd.prog 16 = some [Value.pointer none] := by kernel_rfl
@[go_sem] theorem arn_16 : arn Tryd.prog 16 = none := by kernel_rfl
@[go_sem] theorem bldk_16 : bldk Tryd.prog 16 = false := by kernel_rfl
@[go_sem] theorem bsl_16 : bsl Tryd.prog 16 = false := by kernel_rfl
@[go_sem] theorem isIf_16 : isIf Tryd.prog 16 = false := by kernel_rfl
@[go_sem] theorem tk_17 : tk Tryd.prog 17 = some (false, 1) := by kernel_rfl
@[go_sem] theorem und_17 : (Tryd.prog.underlying 17).isSome = true := by kernel_rfl
@[go_sem] theorem slk_17 : slk Tryd.prog 17 = none := by kernel_rfl
@[go_sem] theorem ark_17 : ark Tryd.prog 17 = none := by kernel_rfl
@[go_sem] theorem isStr_17 : isStr Tryd.prog 17 = false := by kernel_rfl
@[go_sem] theorem isBool_17 : isBool Tryd.prog 17 = false := by kernel_rfl
@[go_sem] theorem notInt_17 : notInt Tryd.prog 17 = true := by kernel_rfl
@[go_sem] theorem zk_17 : zk Tryd.prog 17 = some [Value.pointer none] := by kernel_rfl
@[go_sem] theorem arn_17 : arn Tryd.prog 17 = none := by kernel_rfl
@[go_sem] theorem bldk_17 : bldk Tryd.prog 17 = false := by kernel_rfl
@[go_sem] theorem bsl_17 : bsl Tryd.prog 17 = false := by kernel_rfl
@[go_sem] theorem isIf_17 : isIf Tryd.prog 17 = false := by kernel_rfl
@[go_sem] theorem tk_18 : tk Tryd.prog 18 = some (true, 1) := by kernel_rfl
@[go_sem] theorem und_18 : (Tryd.prog.underlying 18).isSome = true := by kernel_rfl
@[go_sem] theorem slk_18 : slk Tryd.prog 18 = none := by kernel_rfl
@[go_sem] theorem ark_18 : ark Tryd.prog 18 = none := by kernel_rfl
@[go_sem] theorem isStr_18 : isStr Tryd.prog 18 = false := by kernel_rfl
@[go_sem] theorem isBool_18 : isBool Tryd.prog 18 = false := by kernel_rfl
@[go_sem] theorem notInt_18 : notInt Tryd.prog 18 = true := by kernel_rfl
@[go_sem] theorem flk_18 : flk Tryd.prog 18 = some [(0, 1)] := by kernel_rfl
@[go_sem] theorem zk_18 : zk Tryd.prog 18 = some [Value.pointer none] := by kernel_rfl
@[go_sem] theorem arn_18 : arn Tryd.prog 18 = none := by kernel_rfl
@[go_sem] theorem bldk_18 : bldk Tryd.prog 18 = false := by kernel_rfl
@[go_sem] theorem bsl_18 : bsl Tryd.prog 18 = false := by kernel_rfl
@[go_sem] theorem isIf_18 : isIf Tryd.prog 18 = false := by kernel_rfl
@[go_sem] theorem fdk_18_0 : fdk Tryd.prog 18 0 = some (0, false, 1) := by kernel_rfl
@[go_sem] theorem tk_19 : tk Tryd.prog 19 = some (true, 1) := by kernel_rfl
@[go_sem] theorem und_19 : (Tryd.prog.underlying 19).isSome = true := by kernel_rfl
@[go_sem] theorem slk_19 : slk Tryd.prog 19 = none := by kernel_rfl
@[go_sem] theorem ark_19 : ark Tryd.prog 19 = none := by kernel_rfl
@[go_sem] theorem isStr_19 : isStr Tryd.prog 19 = false := by kernel_rfl
@[go_sem] theorem isBool_19 : isBool Tryd.prog 19 = false := by kernel_rfl
@[go_sem] theorem notInt_19 : notInt Tryd.prog 19 = true := by kernel_rfl
@[go_sem] theorem flk_19 : flk Tryd.prog 19 = some [(0, 1)] := by kernel_rfl
@[go_sem] theorem zk_19 : zk Tryd.prog 19 = some [Value.pointer none] := by kernel_rfl
@[go_sem] theorem arn_19 : arn Tryd.prog 19 = none := by kernel_rfl
@[go_sem] theorem bldk_19 : bldk Tryd.prog 19 = false := by kernel_rfl
@[go_sem] theorem bsl_19 : bsl Tryd.prog 19 = false := by kernel_rfl
@[go_sem] theorem isIf_19 : isIf Tryd.prog 19 = false := by kernel_rfl
@[go_sem] theorem fdk_19_0 : fdk Tryd.prog 19 0 = some (0, false, 1) := by kernel_rfl
@[go_sem] theorem tk_20 : tk Tryd.prog 20 = some (false, 1) := by kernel_rfl
@[go_sem] theorem und_20 : (Tryd.prog.underlying 20).isSome = true := by kernel_rfl
@[go_sem] theorem slk_20 : slk Tryd.prog 20 = none := by kernel_rfl
@[go_sem] theorem ark_20 : ark Tryd.prog 20 = none := by kernel_rfl
@[go_sem] theorem isStr_20 : isStr Tryd.prog 20 = false := by kernel_rfl
@[go_sem] theorem isBool_20 : isBool Tryd.prog 20 = false := by kernel_rfl
@[go_sem] theorem notInt_20 : notInt Tryd.prog 20 = true := by kernel_rfl
@[go_sem] theorem zk_20 : zk Tryd.prog 20 = some [Value.nilIface] := by kernel_rfl
@[go_sem] theorem arn_20 : arn Tryd.prog 20 = none := by kernel_rfl
@[go_sem] theorem bldk_20 : bldk Tryd.prog 20 = false := by kernel_rfl
@[go_sem] theorem bsl_20 : bsl Tryd.prog 20 = false := by kernel_rfl
@[go_sem] theorem isIf_20 : isIf Tryd.prog 20 = true := by kernel_rfl
@[go_sem] theorem tk_21 : tk Tryd.prog 21 = some (false, 1) := by kernel_rfl
@[go_sem] theorem und_21 : (Tryd.prog.underlying 21).isSome = true := by kernel_rfl
@[go_sem] theorem slk_21 : slk Tryd.prog 21 = none := by kernel_rfl
@[go_sem] theorem ark_21 : ark Tryd.prog 21 = none := by kernel_rfl
@[go_sem] theorem isStr_21 : isStr Tryd.prog 21 = false := by kernel_rfl
@[go_sem] theorem isBool_21 : isBool Tryd.prog 21 = false := by kernel_rfl
@[go_sem] theorem ik_21 : ik Tryd.prog 21 = some IntKind.i32 := by kernel_rfl
@[go_sem] theorem notInt_21 : notInt Tryd.prog 21 = false := by kernel_rfl
@[go_sem] theorem zk_21 : zk Tryd.prog 21 = some [Value.int IntKind.i32 (Int.ofNat 0)] := by kernel_rfl
@[go_sem] theorem arn_21 : arn Tryd.prog 21 = none := by kernel_rfl
@[go_sem] theorem bldk_21 : bldk Tryd.prog 21 = false := by kernel_rfl
@[go_sem] theorem bsl_21 : bsl Tryd.prog 21 = false := by kernel_rfl
@[go_sem] theorem isIf_21 : isIf Tryd.prog 21 = false := by kernel_rfl
@[go_sem] theorem tk_22 : tk Tryd.prog 22 = some (false, 1) := by kernel_rfl
@[go_sem] theorem und_22 : (Tryd.prog.underlying 22).isSome = true := by kernel_rfl
@[go_sem] theorem slk_22 : slk Tryd.prog 22 = some (57, 3, 32) := by kernel_rfl
@[go_sem] theorem ark_22 : ark Tryd.prog 22 = none := by kernel_rfl
@[go_sem] theorem isStr_22 : isStr Tryd.prog 22 = false := by kernel_rfl
@[go_sem] theorem isBool_22 : isBool Tryd.prog 22 = false := by kernel_rfl
@[go_sem] theorem notInt_22 : notInt Tryd.prog 22 = true := by kernel_rfl
@[go_sem] theorem zk_22 : zk Tryd.prog 22 = some [Value.slice none 0 0] := by kernel_rfl
@[go_sem] theorem elemZ_22 : elemZ Tryd.prog 22 = some [Value.int IntKind.u8 (Int.ofNat 0), Value.int IntKind.u8 (Int.ofNat 0), Value.slice none 0 0] := by kernel_rfl
@[go_sem] theorem arn_22 : arn Tryd.prog 22 = none := by kernel_rfl
@[go_sem] theorem bldk_22 : bldk Tryd.prog 22 = false := by kernel_rfl
@[go_sem] theorem bsl_22 : bsl Tryd.prog 22 = false := by kernel_rfl
@[go_sem] theorem isIf_22 : isIf Tryd.prog 22 = false := by kernel_rfl
@[go_sem] theorem isSl_22 : isSl Tryd.prog 22 = true := by kernel_rfl
@[go_sem] theorem tk_23 : tk Tryd.prog 23 = some (false, 1) := by kernel_rfl
@[go_sem] theorem und_23 : (Tryd.prog.underlying 23).isSome = true := by kernel_rfl
@[go_sem] theorem slk_23 : slk Tryd.prog 23 = some (57, 3, 32) := by kernel_rfl
@[go_sem] theorem ark_23 : ark Tryd.prog 23 = none := by kernel_rfl
@[go_sem] theorem isStr_23 : isStr Tryd.prog 23 = false := by kernel_rfl
@[go_sem] theorem isBool_23 : isBool Tryd.prog 23 = false := by kernel_rfl
@[go_sem] theorem notInt_23 : notInt Tryd.prog 23 = true := by kernel_rfl
@[go_sem] theorem zk_23 : zk Tryd.prog 23 = some [Value.slice none 0 0] := by kernel_rfl
@[go_sem] theorem elemZ_23 : elemZ Tryd.prog 23 = some [Value.int IntKind.u8 (Int.ofNat 0), Value.int IntKind.u8 (Int.ofNat 0), Value.slice none 0 0] := by kernel_rfl
@[go_sem] theorem arn_23 : arn Tryd.prog 23 = none := by kernel_rfl
@[go_sem] theorem bldk_23 : bldk Tryd.prog 23 = false := by kernel_rfl
@[go_sem] theorem bsl_23 : bsl Tryd.prog 23 = false := by kernel_rfl
@[go_sem] theorem isIf_23 : isIf Tryd.prog 23 = false := by kernel_rfl
@[go_sem] theorem isSl_23 : isSl Tryd.prog 23 = true := by kernel_rfl
@[go_sem] theorem tk_24 : tk Tryd.prog 24 = some (false, 1) := by kernel_rfl
@[go_sem] theorem und_24 : (Tryd.prog.underlying 24).isSome = true := by kernel_rfl
@[go_sem] theorem slk_24 : slk Tryd.prog 24 = some (27, 4, 56) := by kernel_rfl
@[go_sem] theorem ark_24 : ark Tryd.prog 24 = none := by kernel_rfl
@[go_sem] theorem isStr_24 : isStr Tryd.prog 24 = false := by kernel_rfl
@[go_sem] theorem isBool_24 : isBool Tryd.prog 24 = false := by kernel_rfl
@[go_sem] theorem notInt_24 : notInt Tryd.prog 24 = true := by kernel_rfl
@[go_sem] theorem zk_24 : zk Tryd.prog 24 = some [Value.slice none 0 0] := by kernel_rfl
@[go_sem] theorem elemZ_24 : elemZ Tryd.prog 24 = some [Value.int IntKind.u8 (Int.ofNat 0), Value.int IntKind.u8 (Int.ofNat 0), Value.slice none 0 0, Value.slice none 0 0] := by kernel_rfl
@[go_sem] theorem arn_24 : arn Tryd.prog 24 = none := by kernel_rfl
@[go_sem] theorem bldk_24 : bldk Tryd.prog 24 = false := by kernel_rfl
@[go_sem] theorem bsl_24 : bsl Tryd.prog 24 = false := by kernel_rfl
@[go_sem] theorem isIf_24 : isIf Tryd.prog 24 = false := by kernel_rfl
@[go_sem] theorem isSl_24 : isSl Tryd.prog 24 = true := by kernel_rfl
@[go_sem] theorem tk_25 : tk Tryd.prog 25 = some (false, 1) := by kernel_rfl
@[go_sem] theorem und_25 : (Tryd.prog.underlying 25).isSome = true := by kernel_rfl
@[go_sem] theorem slk_25 : slk Tryd.prog 25 = some (5, 1, 1) := by kernel_rfl
@[go_sem] theorem ark_25 : ark Tryd.prog 25 = none := by kernel_rfl
@[go_sem] theorem isStr_25 : isStr Tryd.prog 25 = false := by kernel_rfl
@[go_sem] theorem isBool_25 : isBool Tryd.prog 25 = false := by kernel_rfl
@[go_sem] theorem notInt_25 : notInt Tryd.prog 25 = true := by kernel_rfl
@[go_sem] theorem zk_25 : zk Tryd.prog 25 = some [Value.slice none 0 0] := by kernel_rfl
@[go_sem] theorem elemZ_25 : elemZ Tryd.prog 25 = some [Value.int IntKind.u8 (Int.ofNat 0)] := by kernel_rfl
@[go_sem] theorem arn_25 : arn Tryd.prog 25 = none := by kernel_rfl
@[go_sem] theorem bldk_25 : bldk Tryd.prog 25 = false := by kernel_rfl
@[go_sem] theorem bsl_25 : bsl Tryd.prog 25 = true := by kernel_rfl
@[go_sem] theorem isIf_25 : isIf Tryd.prog 25 = false := by kernel_rfl
@[go_sem] theorem isSl_25 : isSl Tryd.prog 25 = true := by kernel_rfl
@[go_sem] theorem tk_26 : tk Tryd.prog 26 = some (true, 4) := by kernel_rfl
@[go_sem] theorem und_26 : (Tryd.prog.underlying 26).isSome = true := by kernel_rfl
@[go_sem] theorem slk_26 : slk Tryd.prog 26 = none := by kernel_rfl
@[go_sem] theorem ark_26 : ark Tryd.prog 26 = none := by kernel_rfl
@[go_sem] theorem isStr_26 : isStr Tryd.prog 26 = false := by kernel_rfl
@[go_sem] theorem isBool_26 : isBool Tryd.prog 26 = false := by kernel_rfl
@[go_sem] theorem notInt_26 : notInt Tryd.prog 26 = true := by kernel_rfl
@[go_sem] theorem flk_26 : flk Tryd.prog 26 = some [(0, 1), (1, 1), (2, 1), (3, 1)] := by kernel_rfl
@[go_sem] theorem zk_26 : zk Tryd.prog 26 = some [Value.int IntKind.u8 (Int.ofNat 0), Value.int IntKind.u8 (Int.ofNat 0), Value.slice none 0 0, Value.slice none 0 0] := by kernel_rfl
@[go_sem] theorem arn_26 : arn Tryd.prog 26 = none := by kernel_rfl
@[go_sem] theorem bldk_26 : bldk Tryd.prog 26 = false := by kernel_rfl
@[go_sem] theorem bsl_26 : bsl Tryd.prog 26 = false := by kernel_rfl
@[go_sem] theorem isIf_26 : isIf Tryd.prog 26 = false := by kernel_rfl
@[go_sem] theorem fdk_26_0 : fdk Tryd.prog 26 0 = some (0, false, 1) := by kernel_rfl
@[go_sem] theorem fdk_26_1 : fdk Tryd.prog 26 1 = some (1, false, 1) := by kernel_rfl
@[go_sem] theorem fdk_26_2 : fdk Tryd.prog 26 2 = some (2, false, 1) := by kernel_rfl
@[go_sem] theorem fdk_26_3 : fdk Tryd.prog 26 3 = some (3, false, 1) := by kernel_rfl
@[go_sem] theorem tk_27 : tk Tryd.prog 27 = some (true, 4) := by kernel_rfl
@[go_sem] theorem und_27 : (Tryd.prog.underlying 27).isSome = true := by kernel_rfl
@[go_sem] theorem slk_27 : slk Tryd.prog 27 = none := by kernel_rfl
@[go_sem] theorem ark_27 : ark Tryd.prog 27 = none := by kernel_rfl
@[go_sem] theorem isStr_27 : isStr Tryd.prog 27 = false := by kernel_rfl
@[go_sem] theorem isBool_27 : isBool Tryd.prog 27 = false := by kernel_rfl
@[go_sem] theorem notInt_27 : notInt Tryd.prog 27 = true := by kernel_rfl
@[go_sem] theorem flk_27 : flk Tryd.prog 27 = some [(0, 1), (1, 1), (2, 1), (3, 1)] := by kernel_rfl
@[go_sem] theorem zk_27 : zk Tryd.prog 27 = some [Value.int IntKind.u8 (Int.ofNat 0), Value.int IntKind.u8 (Int.ofNat 0), Value.slice none 0 0, Value.slice none 0 0] := by kernel_rfl
@[go_sem] theorem arn_27 : arn Tryd.prog 27 = none := by kernel_rfl
@[go_sem] theorem bldk_27 : bldk Tryd.prog 27 = false := by kernel_rfl
@[go_sem] theorem bsl_27 : bsl Tryd.prog 27 = false := by kernel_rfl
@[go_sem] theorem isIf_27 : isIf Tryd.prog 27 = false := by kernel_rfl
@[go_sem] theorem fdk_27_0 : fdk Tryd.prog 27 0 = some (0, false, 1) := by kernel_rfl
@[go_sem] theorem fdk_27_1 : fdk Tryd.prog 27 1 = some (1, false, 1) := by kernel_rfl
@[go_sem] theorem fdk_27_2 : fdk Tryd.prog 27 2 = some (2, false, 1) := by kernel_rfl
@[go_sem] theorem fdk_27_3 : fdk Tryd.prog 27 3 = some (3, false, 1) := by kernel_rfl
@[go_sem] theorem tk_28 : tk Tryd.prog 28 = some (false, 1) := by kernel_rfl
@[go_sem] theorem und_28 : (Tryd.prog.underlying 28).isSome = true := by kernel_rfl
@[go_sem] theorem slk_28 : slk Tryd.prog 28 = some (52, 3, 64) := by kernel_rfl
@[go_sem] theorem ark_28 : ark Tryd.prog 28 = none := by kernel_rfl
@[go_sem] theorem isStr_28 : isStr Tryd.prog 28 = false := by kernel_rfl
@[go_sem] theorem isBool_28 : isBool Tryd.prog 28 = false := by kernel_rfl
@[go_sem] theorem notInt_28 : notInt Tryd.prog 28 = true := by kernel_rfl
@[go_sem] theorem zk_28 : zk Tryd.prog 28 = some [Value.slice none 0 0] := by kernel_rfl
@[go_sem] theorem elemZ_28 : elemZ Tryd.prog 28 = some [Value.string { data := { toList := [] } }, Value.slice none 0 0, Value.slice none 0 0] := by kernel_rfl
@[go_sem] theorem arn_28 : arn Tryd.prog 28 = none := by kernel_rfl
@[go_sem] theorem bldk_28 : bldk Tryd.prog 28 = false := by kernel_rfl
@[go_sem] theorem bsl_28 : bsl Tryd.prog 28 = false := by kernel_rfl
@[go_sem] theorem isIf_28 : isIf Tryd.prog 28 = false := by kernel_rfl
@[go_sem] theorem isSl_28 : isSl Tryd.prog 28 = true := by kernel_rfl
@[go_sem] theorem tk_29 : tk Tryd.prog 29 = some (true, 1) := by kernel_rfl
@[go_sem] theorem und_29 : (Tryd.prog.underlying 29).isSome = true := by kernel_rfl
@[go_sem] theorem slk_29 : slk Tryd.prog 29 = none := by kernel_rfl
@[go_sem] theorem ark_29 : ark Tryd.prog 29 = none := by kernel_rfl
@[go_sem] theorem isStr_29 : isStr Tryd.prog 29 = false := by kernel_rfl
@[go_sem] theorem isBool_29 : isBool Tryd.prog 29 = false := by kernel_rfl
@[go_sem] theorem notInt_29 : notInt Tryd.prog 29 = true := by kernel_rfl
@[go_sem] theorem flk_29 : flk Tryd.prog 29 = some [(0, 1)] := by kernel_rfl
@[go_sem] theorem zk_29 : zk Tryd.prog 29 = some [Value.slice none 0 0] := by kernel_rfl
@[go_sem] theorem arn_29 : arn Tryd.prog 29 = none := by kernel_rfl
@[go_sem] theorem bldk_29 : bldk Tryd.prog 29 = false := by kernel_rfl
@[go_sem] theorem bsl_29 : bsl Tryd.prog 29 = false := by kernel_rfl
@[go_sem] theorem isIf_29 : isIf Tryd.prog 29 = false := by kernel_rfl
@[go_sem] theorem fdk_29_0 : fdk Tryd.prog 29 0 = some (0, false, 1) := by kernel_rfl
@[go_sem] theorem tk_30 : tk Tryd.prog 30 = some (true, 1) := by kernel_rfl
@[go_sem] theorem und_30 : (Tryd.prog.underlying 30).isSome = true := by kernel_rfl
@[go_sem] theorem slk_30 : slk Tryd.prog 30 = none := by kernel_rfl
@[go_sem] theorem ark_30 : ark Tryd.prog 30 = none := by kernel_rfl
@[go_sem] theorem isStr_30 : isStr Tryd.prog 30 = false := by kernel_rfl
@[go_sem] theorem isBool_30 : isBool Tryd.prog 30 = false := by kernel_rfl
@[go_sem] theorem notInt_30 : notInt Tryd.prog 30 = true := by kernel_rfl
@[go_sem] theorem flk_30 : flk Tryd.prog 30 = some [(0, 1)] := by kernel_rfl
@[go_sem] theorem zk_30 : zk Tryd.prog 30 = some [Value.slice none 0 0] := by kernel_rfl
@[go_sem] theorem arn_30 : arn Tryd.prog 30 = none := by kernel_rfl
@[go_sem] theorem bldk_30 : bldk Tryd.prog 30 = false := by kernel_rfl
@[go_sem] theorem bsl_30 : bsl Tryd.prog 30 = false := by kernel_rfl
@[go_sem] theorem isIf_30 : isIf Tryd.prog 30 = false := by kernel_rfl
@[go_sem] theorem fdk_30_0 : fdk Tryd.prog 30 0 = some (0, false, 1) := by kernel_rfl
@[go_sem] theorem tk_31 : tk Tryd.prog 31 = some (false, 1) := by kernel_rfl
@[go_sem] theorem und_31 : (Tryd.prog.underlying 31).isSome = true := by kernel_rfl
@[go_sem] theorem slk_31 : slk Tryd.prog 31 = none := by kernel_rfl
@[go_sem] theorem ark_31 : ark Tryd.prog 31 = none := by kernel_rfl
@[go_sem] theorem isStr_31 : isStr Tryd.prog 31 = false := by kernel_rfl
@[go_sem] theorem isBool_31 : isBool Tryd.prog 31 = false := by kernel_rfl
@[go_sem] theorem notInt_31 : notInt Tryd.prog 31 = true := by kernel_rfl
@[go_sem] theorem zk_31 : zk Tryd.prog 31 = some [Value.tuple { toList := [Value.agg { toList := [Value.slice none 0 0] }, Value.bool false] }] := by kernel_rfl
@[go_sem] theorem arn_31 : arn Tryd.prog 31 = none := by kernel_rfl
@[go_sem] theorem bldk_31 : bldk Tryd.prog 31 = false := by kernel_rfl
@[go_sem] theorem bsl_31 : bsl Tryd.prog 31 = false := by kernel_rfl
@[go_sem] theorem isIf_31 : isIf Tryd.prog 31 = false := by kernel_rfl
@[go_sem] theorem tk_32 : tk Tryd.prog 32 = some (false, 1) := by kernel_rfl
@[go_sem] theorem und_32 : (Tryd.prog.underlying 32).isSome = true := by kernel_rfl
@[go_sem] theorem slk_32 : slk Tryd.prog 32 = none := by kernel_rfl
@[go_sem] theorem ark_32 : ark Tryd.prog 32 = none := by kernel_rfl
@[go_sem] theorem isStr_32 : isStr Tryd.prog 32 = false := by kernel_rfl
@[go_sem] theorem isBool_32 : isBool Tryd.prog 32 = false := by kernel_rfl
@[go_sem] theorem notInt_32 : notInt Tryd.prog 32 = true := by kernel_rfl
@[go_sem] theorem zk_32 : zk Tryd.prog 32 = some [Value.nilFunc] := by kernel_rfl
@[go_sem] theorem arn_32 : arn Tryd.prog 32 = none := by kernel_rfl
@[go_sem] theorem bldk_32 : bldk Tryd.prog 32 = false := by kernel_rfl
@[go_sem] theorem bsl_32 : bsl Tryd.prog 32 = false := by kernel_rfl
@[go_sem] theorem isIf_32 : isIf Tryd.prog 32 = false := by kernel_rfl
@[go_sem] theorem tk_33 : tk Tryd.prog 33 = some (false, 1) := by kernel_rfl
@[go_sem] theorem und_33 : (Tryd.prog.underlying 33).isSome = true := by kernel_rfl
@[go_sem] theorem slk_33 : slk Tryd.prog 33 = some (39, 4, 80) := by kernel_rfl
@[go_sem] theorem ark_33 : ark Tryd.prog 33 = none := by kernel_rfl
@[go_sem] theorem isStr_33 : isStr Tryd.prog 33 = false := by kernel_rfl
@[go_sem] theorem isBool_33 : isBool Tryd.prog 33 = false := by kernel_rfl
@[go_sem] theorem notInt_33 : notInt Tryd.prog 33 = true := by kernel_rfl
@[go_sem] theorem zk_33 : zk Tryd.prog 33 = some [Value.slice none 0 0] := by kernel_rfl
@[go_sem] theorem elemZ_33 : elemZ Tryd.prog 33 = some [Value.string { data := { toList := [] } }, Value.slice none 0 0, Value.string { data := { toList := [] } }, Value.slice none 0 0] := by kernel_rfl
@[go_sem] theorem arn_33 : arn Tryd.prog 33 = none := by kernel_rfl
@[go_sem] theorem bldk_33 : bldk Tryd.prog 33 = false := by kernel_rfl
@[go_sem] theorem bsl_33 : bsl Tryd.prog 33 = false := by kernel_rfl
@[go_sem] theorem isIf_33 : isIf Tryd.prog 33 = false := by kernel_rfl
@[go_sem] theorem isSl_33 : isSl Tryd.prog 33 = true := by kernel_rfl
@[go_sem] theorem tk_34 : tk Tryd.prog 34 = some (false, 1) := by kernel_rfl
@[go_sem] theorem und_34 : (Tryd.prog.underlying 34).isSome = true := by kernel_rfl
@[go_sem] theorem slk_34 : slk Tryd.prog 34 = none := by kernel_rfl
@[go_sem] theorem ark_34 : ark Tryd.prog 34 = none := by kernel_rfl
@[go_sem] theorem isStr_34 : isStr Tryd.prog 34 = false := by kernel_rfl
@[go_sem] theorem isBool_34 : isBool Tryd.prog 34 = false := by kernel_rfl
@[go_sem] theorem notInt_34 : notInt Tryd.prog 34 = true := by kernel_rfl
@[go_sem] theorem zk_34 : zk Tryd.prog 34 = some [Value.tuple { toList := [Value.slice none 0 0, Value.bool false] }] := by kernel_rfl
@[go_sem] theorem arn_34 : arn Tryd.prog 34 = none := by kernel_rfl
@[go_sem] theorem bldk_34 : bldk Tryd.prog 34 = false := by kernel_rfl
@[go_sem] theorem bsl_34 : bsl Tryd.prog 34 = false := by kernel_rfl
@[go_sem] theorem isIf_34 : isIf Tryd.prog 34 = false := by kernel_rfl
@[go_sem] theorem tk_35 : tk Tryd.prog 35 = some (false, 1) := by kernel_rfl
@[go_sem] theorem und_35 : (Tryd.prog.underlying 35).isSome = true := by kernel_rfl
@[go_sem] theorem slk_35 : slk Tryd.prog 35 = none := by kernel_rfl
@[go_sem] theorem ark_35 : ark Tryd.prog 35 = none := by kernel_rfl
@[go_sem] theorem isStr_35 : isStr Tryd.prog 35 = false := by kernel_rfl
@[go_sem] theorem isBool_35 : isBool Tryd.prog 35 = false := by kernel_rfl
@[go_sem] theorem notInt_35 : notInt Tryd.prog 35 = true := by kernel_rfl
@[go_sem] theorem zk_35 : zk Tryd.prog 35 = some [Value.nilFunc] := by kernel_rfl
@[go_sem] theorem arn_35 : arn Tryd.prog 35 = none := by kernel_rfl
@[go_sem] theorem bldk_35 : bldk Tryd.prog 35 = false := by kernel_rfl
@[go_sem] theorem bsl_35 : bsl Tryd.prog 35 = false := by kernel_rfl
@[go_sem] theorem isIf_35 : isIf Tryd.prog 35 = false := by kernel_rfl
@[go_sem] theorem tk_36 : tk Tryd.prog 36 = some (false, 1) := by kernel_rfl
@[go_sem] theorem und_36 : (Tryd.prog.underlying 36).isSome = true := by kernel_rfl
@[go_sem] theorem slk_36 : slk Tryd.prog 36 = none := by kernel_rfl
@[go_sem] theorem ark_36 : ark Tryd.prog 36 = none := by kernel_rfl
@[go_sem] theorem isStr_36 : isStr Tryd.prog 36 = false := by kernel_rfl
@[go_sem] theorem isBool_36 : isBool Tryd.prog 36 = false := by kernel_rfl
@[go_sem] theorem notInt_36 : notInt Tryd.prog 36 = true := by kernel_rfl
@[go_sem] theorem zk_36 : zk Tryd.prog 36 = some [Value.nilFunc] := by kernel_rfl
@[go_sem] theorem arn_36 : arn Tryd.prog 36 = none := by kernel_rfl
@[go_sem] theorem bldk_36 : bldk Tryd.prog 36 = false := by kernel_rfl
@[go_sem] theorem bsl_36 : bsl Tryd.prog 36 = false := by kernel_rfl
@[go_sem] theorem isIf_36 : isIf Tryd.prog 36 = false := by kernel_rfl
@[go_sem] theorem tk_37 : tk Tryd.prog 37 = some (false, 1) := by kernel_rfl
@[go_sem] theorem und_37 : (Tryd.prog.underlying 37).isSome = true := by kernel_rfl
@[go_sem] theorem slk_37 : slk Tryd.prog 37 = some (3, 1, 8) := by kernel_rfl
@[go_sem] theorem ark_37 : ark Tryd.prog 37 = none := by kernel_rfl
@[go_sem] theorem isStr_37 : isStr Tryd.prog 37 = false := by kernel_rfl
@[go_sem] theorem isBool_37 : isBool Tryd.prog 37 = false := by kernel_rfl
@[go_sem] theorem notInt_37 : notInt Tryd.prog 37 = true := by kernel_rfl
@[go_sem] theorem zk_37 : zk Tryd.prog 37 = some [Value.slice none 0 0] := by kernel_rfl
@[go_sem] theorem elemZ_37 : elemZ Tryd.prog 37 = some [Value.int IntKind.i64 (Int.ofNat 0)] := by kernel_rfl
@[go_sem] theorem arn_37 : arn Tryd.prog 37 = none := by kernel_rfl
@[go_sem] theorem bldk_37 : bldk Tryd.prog 37 = false := by kernel_rfl
@[go_sem] theorem bsl_37 : bsl Tryd.prog 37 = false := by kernel_rfl
@[go_sem] theorem isIf_37 : isIf Tryd.prog 37 = false := by kernel_rfl
@[go_sem] theorem isSl_37 : isSl Tryd.prog 37 = true := by kernel_rfl
@[go_sem] theorem tk_38 : tk Tryd.prog 38 = some (true, 4) := by kernel_rfl
@[go_sem] theorem und_38 : (Tryd.prog.underlying 38).isSome = true := by kernel_rfl
@[go_sem] theorem slk_38 : slk Tryd.prog 38 = none := by kernel_rfl
@[go_sem] theorem ark_38 : ark Tryd.prog 38 = none := by kernel_rfl
@[go_sem] theorem isStr_38 : isStr Tryd.prog 38 = false := by kernel_rfl
@[go_sem] theorem isBool_38 : isBool Tryd.prog 38 = false := by kernel_rfl
@[go_sem] theorem notInt_38 : notInt Tryd.prog 38 = true := by kernel_rfl
@[go_sem] theorem flk_38 : flk Tryd.prog 38 = some [(0, 1), (1, 1), (2, 1), (3, 1)] := by kernel_rfl
@[go_sem] theorem zk_38 : zk Tryd.prog 38 = some [Value.string { data := { toList := [] } }, Value.slice none 0 0, Value.string { data := { toList := [] } }, Value.slice none 0 0] := by kernel_rfl
@[go_sem] theorem arn_38 : arn Tryd.prog 38 = none := by kernel_rfl
@[go_sem] theorem bldk_38 : bldk Tryd.prog 38 = false := by kernel_rfl
@[go_sem] theorem bsl_38 : bsl Tryd.prog 38 = false := by kernel_rfl
@[go_sem] theorem isIf_38 : isIf Tryd.prog 38 = false := by kernel_rfl
@[go_sem] theorem fdk_38_0 : fdk Tryd.prog 38 0 = some (0, false, 1) := by kernel_rfl
@[go_sem] theorem fdk_38_1 : fdk Tryd.prog 38 1 = some (1, false, 1) := by kernel_rfl
@[go_sem] theorem fdk_38_2 : fdk Tryd.prog 38 2 = some (2, false, 1) := by kernel_rfl
@[go_sem] theorem fdk_38_3 : fdk Tryd.prog 38 3 = some (3, false, 1) := by kernel_rfl
@[go_sem] theorem tk_39 : tk Tryd.prog 39 = some (true, 4) := by kernel_rfl
@[go_sem] theorem und_39 : (Tryd.prog.underlying 39).isSome = true := by kernel_rfl
@[go_sem] theorem slk_39 : slk Tryd.prog 39 = none := by kernel_rfl
@[go_sem] theorem ark_39 : ark Tryd.prog 39 = none := by kernel_rfl
@[go_sem] theorem isStr_39 : isStr Tryd.prog 39 = false := by kernel_rfl
@[go_sem] theorem isBool_39 : isBool Tryd.prog 39 = false := by kernel_rfl
@[go_sem] theorem notInt_39 : notInt Tryd.prog 39 = true := by kernel_rfl
@[go_sem] theorem flk_39 : flk Tryd.prog 39 = some [(0, 1), (1, 1), (2, 1), (3, 1)] := by kernel_rfl
@[go_sem] theorem zk_39 : zk Tryd.prog 39 = some [Value.string { data := { toList := [] } }, Value.slice none 0 0, Value.string { data := { toList := [] } }, Value.slice none 0 0] := by kernel_rfl
@[go_sem] theorem arn_39 : arn Tryd.prog 39 = none := by kernel_rfl
@[go_sem] theorem bldk_39 : bldk Tryd.prog 39 = false := by kernel_rfl
@[go_sem] theorem bsl_39 : bsl Tryd.prog 39 = false := by kernel_rfl
@[go_sem] theorem isIf_39 : isIf Tryd.prog 39 = false := by kernel_rfl
@[go_sem] theorem fdk_39_0 : fdk Tryd.prog 39 0 = some (0, false, 1) := by kernel_rfl
@[go_sem] theorem fdk_39_1 : fdk Tryd.prog 39 1 = some (1, false, 1) := by kernel_rfl
@[go_sem] theorem fdk_39_2 : fdk Tryd.prog 39 2 = some (2, false, 1) := by kernel_rfl
@[go_sem] theorem fdk_39_3 : fdk Tryd.prog 39 3 = some (3, false, 1) := by kernel_rfl
@[go_sem] theorem tk_40 : tk Tryd.prog 40 = some (false, 1) := by kernel_rfl
@[go_sem] theorem und_40 : (Tryd.prog.underlying 40).isSome = true := by kernel_rfl
@[go_sem] theorem slk_40 : slk Tryd.prog 40 = none := by kernel_rfl
@[go_sem] theorem ark_40 : ark Tryd.prog 40 = none := by kernel_rfl
@[go_sem] theorem isStr_40 : isStr Tryd.prog 40 = false := by kernel_rfl
@[go_sem] theorem isBool_40 : isBool Tryd.prog 40 = false := by kernel_rfl
@[go_sem] theorem notInt_40 : notInt Tryd.prog 40 = true := by kernel_rfl
@[go_sem] theorem zk_40 : zk Tryd.prog 40 = some [Value.nilFunc] := by kernel_rfl
@[go_sem] theorem arn_40 : arn Tryd.prog 40 = none := by kernel_rfl
@[go_sem] theorem bldk_40 : bldk Tryd.prog 40 = false := by kernel_rfl
@[go_sem] theorem bsl_40 : bsl Tryd.prog 40 = false := by kernel_rfl
@[go_sem] theorem isIf_40 : isIf Tryd.prog 40 = false := by kernel_rfl
@[go_sem] theorem tk_41 : tk Tryd.prog 41 = some (false, 1) := by kernel_rfl
@[go_sem] theorem und_41 : (Tryd.prog.underlying 41).isSome = true := by kernel_rfl
@[go_sem] theorem slk_41 : slk Tryd.prog 41 = none := by kernel_rfl
@[go_sem] theorem ark_41 : ark Tryd.prog 41 = none := by kernel_rfl
@[go_sem] theorem isStr_41 : isStr Tryd.prog 41 = false := by kernel_rfl
@[go_sem] theorem isBool_41 : isBool Tryd.prog 41 = false := by kernel_rfl
@[go_sem] theorem ik_41 : ik Tryd.prog 41 = some IntKind.i64 := by kernel_rfl
@[go_sem] theorem notInt_41 : notInt Tryd.prog 41 = false := by kernel_rfl
@[go_sem] theorem zk_41 : zk Tryd.prog 41 = some [Value.int IntKind.i64 (Int.ofNat 0)] := by kernel_rfl
@[go_sem] theorem arn_41 : arn Tryd.prog 41 = none := by kernel_rfl
@[go_sem] theorem bldk_41 : bldk Tryd.prog 41 = false := by kernel_rfl
@[go_sem] theorem bsl_41 : bsl Tryd.prog 41 = false := by kernel_rfl
@[go_sem] theorem isIf_41 : isIf Tryd.prog 41 = false := by kernel_rfl
@[go_sem] theorem tk_42 : tk Tryd.prog 42 = some (false, 1) := by kernel_rfl
@[go_sem] theorem und_42 : (Tryd.prog.underlying 42).isSome = true := by kernel_rfl
@[go_sem] theorem slk_42 : slk Tryd.prog 42 = none := by kernel_rfl
@[go_sem] theorem ark_42 : ark Tryd.prog 42 = none := by kernel_rfl
@[go_sem] theorem isStr_42 : isStr Tryd.prog 42 = false := by kernel_rfl
@[go_sem] theorem isBool_42 : isBool Tryd.prog 42 = false := by kernel_rfl
@[go_sem] theorem notInt_42 : notInt Tryd.prog 42 = true := by kernel_rfl
@[go_sem] theorem zk_42 : zk Tryd.prog 42 = some [Value.tuple { toList := [Value.bool false, Value.int IntKind.i64 (Int.ofNat 0)] }] := by kernel_rfl
@[go_sem] theorem arn_42 : arn Tryd.prog 42 = none := by kernel_rfl
@[go_sem] theorem bldk_42 : bldk Tryd.prog 42 = false := by kernel_rfl
@[go_sem] theorem bsl_42 : bsl Tryd.prog 42 = false := by kernel_rfl
@[go_sem] theorem isIf_42 : isIf Tryd.prog 42 = false := by kernel_rfl
@[go_sem] theorem tk_43 : tk Tryd.prog 43 = some (false, 1) := by kernel_rfl
@[go_sem] theorem und_43 : (Tryd.prog.underlying 43).isSome = true := by kernel_rfl
@[go_sem] theorem slk_43 : slk Tryd.prog 43 = none := by kernel_rfl
@[go_sem] theorem ark_43 : ark Tryd.prog 43 = none := by kernel_rfl
@[go_sem] theorem isStr_43 : isStr Tryd.prog 43 = false := by kernel_rfl
@[go_sem] theorem isBool_43 : isBool Tryd.prog 43 = false := by kernel_rfl
@[go_sem] theorem notInt_43 : notInt Tryd.prog 43 = true := by kernel_rfl
@[go_sem] theorem zk_43 : zk Tryd.prog 43 = some [Value.nilFunc] := by kernel_rfl
@[go_sem] theorem arn_43 : arn Tryd.prog 43 = none := by kernel_rfl
@[go_sem] theorem bldk_43 : bldk Tryd.prog 43 = false := by kernel_rfl
@[go_sem] theorem bsl_43 : bsl Tryd.prog 43 = false := by kernel_rfl
@[go_sem] theorem isIf_43 : isIf Tryd.prog 43 = false := by kernel_rfl
@[go_sem] theorem tk_44 : tk Tryd.prog 44 = some (false, 1) := by kernel_rfl
@[go_sem] theorem und_44 : (Tryd.prog.underlying 44).isSome = true := by kernel_rfl
@[go_sem] theorem slk_44 : slk Tryd.prog 44 = none := by kernel_rfl
@[go_sem] theorem ark_44 : ark Tryd.prog 44 = none := by kernel_rfl
@[go_sem] theorem isStr_44 : isStr Tryd.prog 44 = false := by kernel_rfl
@[go_sem] theorem isBool_44 : isBool Tryd.prog 44 = false := by kernel_rfl
@[go_sem] theorem notInt_44 : notInt Tryd.prog 44 = true := by kernel_rfl
@[go_sem] theorem zk_44 : zk Tryd.prog 44 = some [Value.nilFunc] := by kernel_rfl
@[go_sem] theorem arn_44 : arn Tryd.prog 44 = none := by kernel_rfl
@[go_sem] theorem bldk_44 : bldk Tryd.prog 44 = false := by kernel_rfl
@[go_sem] theorem bsl_44 : bsl Tryd.prog 44 = false := by kernel_rfl
@[go_sem] theorem isIf_44 : isIf Tryd.prog 44 = false := by kernel_rfl
@[go_sem] theorem tk_45 : tk Tryd.prog 45 = some (false, 1) := by kernel_rfl
@[go_sem] theorem und_45 : (Tryd.prog.underlying 45).isSome = true := by kernel_rfl
@[go_sem] theorem slk_45 : slk Tryd.prog 45 = none := by kernel_rfl
@[go_sem] theorem ark_45 : ark Tryd.prog 45 = none := by kernel_rfl
@[go_sem] theorem isStr_45 : isStr Tryd.prog 45 = false := by kernel_rfl
@[go_sem] theorem isBool_45 : isBool Tryd.prog 45 = false := by kernel_rfl
@[go_sem] theorem notInt_45 : notInt Tryd.prog 45 = true := by kernel_rfl
@[go_sem] theorem zk_45 : zk Tryd.prog 45 = some [Value.nilFunc] := by kernel_rfl
@[go_sem] theorem arn_45 : arn Tryd.prog 45 = none := by kernel_rfl
@[go_sem] theorem bldk_45 : bldk Tryd.prog 45 = false := by kernel_rfl
@[go_sem] theorem bsl_45 : bsl Tryd.prog 45 = false := by kernel_rfl
@[go_sem] theorem isIf_45 : isIf Tryd.prog 45 = false := by kernel_rfl
@[go_sem] theorem tk_46 : tk Tryd.prog 46 = some (false, 1) := by kernel_rfl
@[go_sem] theorem und_46 : (Tryd.prog.underlying 46).isSome = true := by kernel_rfl
@[go_sem] theorem slk_46 : slk Tryd.prog 46 = none := by kernel_rfl
@[go_sem] theorem ark_46 : ark Tryd.prog 46 = none := by kernel_rfl
@[go_sem] theorem isStr_46 : isStr Tryd.prog 46 = false := by kernel_rfl
@[go_sem] theorem isBool_46 : isBool Tryd.prog 46 = false := by kernel_rfl
@[go_sem] theorem notInt_46 : notInt Tryd.prog 46 = true := by kernel_rfl
@[go_sem] theorem zk_46 : zk Tryd.prog 46 = some [Value.nilFunc] := by kernel_rfl
@[go_sem] theorem arn_46 : arn Tryd.prog 46 = none := by kernel_rfl
@[go_sem] theorem bldk_46 : bldk Tryd.prog 46 = false := by kernel_rfl
@[go_sem] theorem bsl_46 : bsl Tryd.prog 46 = false := by kernel_rfl
@[go_sem] theorem isIf_46 : isIf Tryd.prog 46 = false := by kernel_rfl
@[go_sem] theorem tk_47 : tk Tryd.prog 47 = some (false, 1) := by kernel_rfl
@[go_sem] theorem und_47 : (Tryd.prog.underlying 47).isSome = true := by kernel_rfl
@[go_sem] theorem slk_47 : slk Tryd.prog 47 = none := by kernel_rfl
@[go_sem] theorem ark_47 : ark Tryd.prog 47 = none := by kernel_rfl
@[go_sem] theorem isStr_47 : isStr Tryd.prog 47 = false := by kernel_rfl
@[go_sem] theorem isBool_47 : isBool Tryd.prog 47 = false := by kernel_rfl
@[go_sem] theorem notInt_47 : notInt Tryd.prog 47 = true := by kernel_rfl
@[go_sem] theorem zk_47 : zk Tryd.prog 47 = some [Value.nilFunc] := by kernel_rfl
@[go_sem] theorem arn_47 : arn Tryd.prog 47 = none := by kernel_rfl
@[go_sem] theorem bldk_47 : bldk Tryd.prog 47 = false := by kernel_rfl
@[go_sem] theorem bsl_47 : bsl Tryd.prog 47 = false := by kernel_rfl
@[go_sem] theorem isIf_47 : isIf Tryd.prog 47 = false := by kernel_rfl
@[go_sem] theorem tk_48 : tk Tryd.prog 48 = some (false, 1) := by kernel_rfl
@[go_sem] theorem und_48 : (Tryd.prog.underlying 48).isSome = true := by kernel_rfl
@[go_sem] theorem slk_48 : slk Tryd.prog 48 = none := by kernel_rfl
@[go_sem] theorem ark_48 : ark Tryd.prog 48 = none := by kernel_rfl
@[go_sem] theorem isStr_48 : isStr Tryd.prog 48 = false := by kernel_rfl
@[go_sem] theorem isBool_48 : isBool Tryd.prog 48 = false := by kernel_rfl
@[go_sem] theorem notInt_48 : notInt Tryd.prog 48 = true := by kernel_rfl
@[go_sem] theorem zk_48 : zk Tryd.prog 48 = some [Value.nilFunc] := by kernel_rfl
@[go_sem] theorem arn_48 : arn Tryd.prog 48 = none := by kernel_rfl
@[go_sem] theorem bldk_48 : bldk Tryd.prog 48 = false := by kernel_rfl
@[go_sem] theorem bsl_48 : bsl Tryd.prog 48 = false := by kernel_rfl
@[go_sem] theorem isIf_48 : isIf Tryd.prog 48 = false := by kernel_rfl
@[go_sem] theorem tk_49 : tk Tryd.prog 49 = some (false, 1) := by kernel_rfl
@[go_sem] theorem und_49 : (Tryd.prog.underlying 49).isSome = true := by kernel_rfl
@[go_sem] theorem slk_49 : slk Tryd.prog 49 = some (9, 1, 16) := by kernel_rfl
@[go_sem] theorem ark_49 : ark Tryd.prog 49 = none := by kernel_rfl
@[go_sem] theorem isStr_49 : isStr Tryd.prog 49 = false := by kernel_rfl
@[go_sem] theorem isBool_49 : isBool Tryd.prog 49 = false := by kernel_rfl
@[go_sem] theorem notInt_49 : notInt Tryd.prog 49 = true := by kernel_rfl
@[go_sem] theorem zk_49 : zk Tryd.prog 49 = some [Value.slice none 0 0] := by kernel_rfl
@[go_sem] theorem elemZ_49 : elemZ Tryd.prog 49 = some [Value.string { data := { toList := [] } }] := by kernel_rfl
@[go_sem] theorem arn_49 : arn Tryd.prog 49 = none := by kernel_rfl
@[go_sem] theorem bldk_49 : bldk Tryd.prog 49 = false := by kernel_rfl
@[go_sem] theorem bsl_49 : bsl Tryd.prog 49 = false := by kernel_rfl
@[go_sem] theorem isIf_49 : isIf Tryd.prog 49 = false := by kernel_rfl
@[go_sem] theorem isSl_49 : isSl Tryd.prog 49 = true := by kernel_rfl
@[go_sem] theorem tk_50 : tk Tryd.prog 50 = some (false, 1) := by kernel_rfl
@[go_sem] theorem und_50 : (Tryd.prog.underlying 50).isSome = true := by kernel_rfl
@[go_sem] theorem slk_50 : slk Tryd.prog 50 = some (106, 2, 32) := by kernel_rfl
@[go_sem] theorem ark_50 : ark Tryd.prog 50 = none := by kernel_rfl
@[go_sem] theorem isStr_50 : isStr Tryd.prog 50 = false := by kernel_rfl
@[go_sem] theorem isBool_50 : isBool Tryd.prog 50 = false := by kernel_rfl
@[go_sem] theorem notInt_50 : notInt Tryd.prog 50 = true := by kernel_rfl
@[go_sem] theorem zk_50 : zk Tryd.prog 50 = some [Value.slice none 0 0] := by kernel_rfl
@[go_sem] theorem elemZ_50 : elemZ Tryd.prog 50 = some [Value.int IntKind.i64 (Int.ofNat 0), Value.slice none 0 0] := by kernel_rfl
@[go_sem] theorem arn_50 : arn Tryd.prog 50 = none := by kernel_rfl
@[go_sem] theorem bldk_50 : bldk Tryd.prog 50 = false := by kernel_rfl
@[go_sem] theorem bsl_50 : bsl Tryd.prog 50 = false := by kernel_rfl
@[go_sem] theorem isIf_50 : isIf Tryd.prog 50 = false := by kernel_rfl
@[go_sem] theorem isSl_50 : isSl Tryd.prog 50 = true := by kernel_rfl
@[go_sem] theorem tk_51 : tk Tryd.prog 51 = some (true, 3) := by kernel_rfl
@[go_sem] theorem und_51 : (Tryd.prog.underlying 51).isSome = true := by kernel_rfl
@[go_sem] theorem slk_51 : slk Tryd.prog 51 = none := by kernel_rfl
@[go_sem] theorem ark_51 : ark Tryd.prog 51 = none := by kernel_rfl
@[go_sem] theorem isStr_51 : isStr Tryd.prog 51 = false := by kernel_rfl
@[go_sem] theorem isBool_51 : isBool Tryd.prog 51 = false := by kernel_rfl
@[go_sem] theorem notInt_51 : notInt Tryd.prog 51 = true := by kernel_rfl
@[go_sem] theorem flk_51 : flk Tryd.prog 51 = some [(0, 1), (1, 1), (2, 1)] := by kernel_rfl
@[go_sem] theorem zk_51 : zk Tryd.prog 51 = some [Value.string { data := { toList := [] } }, Value.slice none 0 0, Value.slice none 0 0] := by kernel_rfl
@[go_sem] theorem arn_51 : arn Tryd.prog 51 = none := by kernel_rfl
@[go_sem] theorem bldk_51 : bldk Tryd.prog 51 = false := by kernel_rfl
@[go_sem] theorem bsl_51 : bsl Tryd.prog 51 = false := by kernel_rfl
@[go_sem] theorem isIf_51 : isIf Tryd.prog 51 = false := by kernel_rfl
@[go_sem] theorem fdk_51_0 : fdk Tryd.prog 51 0 = some (0, false, 1) := by kernel_rfl
@[go_sem] theorem fdk_51_1 : fdk Tryd.prog 51 1 = some (1, false, 1) := by kernel_rfl
@[go_sem] theorem fdk_51_2 : fdk Tryd.prog 51 2 = some (2, false, 1) := by kernel_rfl
@[go_sem] theorem tk_52 : tk Tryd.prog 52 = some (true, 3) := by kernel_rfl
@[go_sem] theorem und_52 : (Tryd.prog.underlying 52).isSome = true := by kernel_rfl
@[go_sem] theorem slk_52 : slk Tryd.prog 52 = none := by kernel_rfl
@[go_sem] theorem ark_52 : ark Tryd.prog 52 = none := by kernel_rfl
@[go_sem] theorem isStr_52 : isStr Tryd.prog 52 = false := by kernel_rfl
@[go_sem] theorem isBool_52 : isBool Tryd.prog 52 = false := by kernel_rfl
@[go_sem] theorem notInt_52 : notInt Tryd.prog 52 = true := by kernel_rfl
@[go_sem] theorem flk_52 : flk Tryd.prog 52 = some [(0, 1), (1, 1), (2, 1)] := by kernel_rfl
@[go_sem] theorem zk_52 : zk Tryd.prog 52 = some [Value.string { data := { toList := [] } }, Value.slice none 0 0, Value.slice none 0 0] := by kernel_rfl
@[go_sem] theorem arn_52 : arn Tryd.prog 52 = none := by kernel_rfl
@[go_sem] theorem bldk_52 : bldk Tryd.prog 52 = false := by kernel_rfl
@[go_sem] theorem bsl_52 : bsl Tryd.prog 52 = false := by kernel_rfl
@[go_sem] theorem isIf_52 : isIf Tryd.prog 52 = false := by kernel_rfl
@[go_sem] theorem fdk_52_0 : fdk Tryd.prog 52 0 = some (0, false, 1) := by kernel_rfl
@[go_sem] theorem fdk_52_1 : fdk Tryd.prog 52 1 = some (1, false, 1) := by kernel_rfl
@[go_sem] theorem fdk_52_2 : fdk Tryd.prog 52 2 = some (2, false, 1) := by kernel_rfl
@[go_sem] theorem tk_53 : tk Tryd.prog 53 = some (false, 1) := by kernel_rfl
@[go_sem] theorem und_53 : (Tryd.prog.underlying 53).isSome = true := by kernel_rfl
@[go_sem] theorem slk_53 : slk Tryd.prog 53 = none := by kernel_rfl
@[go_sem] theorem ark_53 : ark Tryd.prog 53 = none := by kernel_rfl
@[go_sem] theorem isStr_53 : isStr Tryd.prog 53 = false := by kernel_rfl
@[go_sem] theorem isBool_53 : isBool Tryd.prog 53 = false := by kernel_rfl
@[go_sem] theorem notInt_53 : notInt Tryd.prog 53 = true := by kernel_rfl
@[go_sem] theorem zk_53 : zk Tryd.prog 53 = some [Value.tuple { toList := [Value.agg { toList := [Value.string { data := { toList := [] } }, Value.slice none 0 0, Value.slice none 0 0] }, Value.bool false] }] := by kernel_rfl
@[go_sem] theorem arn_53 : arn Tryd.prog 53 = none := by kernel_rfl
@[go_sem] theorem bldk_53 : bldk Tryd.prog 53 = false := by kernel_rfl
@[go_sem] theorem bsl_53 : bsl Tryd.prog 53 = false := by kernel_rfl
@[go_sem] theorem isIf_53 : isIf Tryd.prog 53 = false := by kernel_rfl
@[go_sem] theorem tk_54 : tk Tryd.prog 54 = some (false, 1) := by kernel_rfl
@[go_sem] theorem und_54 : (Tryd.prog.underlying 54).isSome = true := by kernel_rfl
@[go_sem] theorem slk_54 : slk Tryd.prog 54 = none := by kernel_rfl
@[go_sem] theorem ark_54 : ark Tryd.prog 54 = none := by kernel_rfl
@[go_sem] theorem isStr_54 : isStr Tryd.prog 54 = false := by kernel_rfl
@[go_sem] theorem isBool_54 : isBool Tryd.prog 54 = false := by kernel_rfl
@[go_sem] theorem notInt_54 : notInt Tryd.prog 54 = true := by kernel_rfl
@[go_sem] theorem zk_54 : zk Tryd.prog 54 = some [Value.nilFunc] := by kernel_rfl
@[go_sem] theorem arn_54 : arn Tryd.prog 54 = none := by kernel_rfl
@[go_sem] theorem bldk_54 : bldk Tryd.prog 54 = false := by kernel_rfl
@[go_sem] theorem bsl_54 : bsl Tryd.prog 54 = false := by kernel_rfl
@[go_sem] theorem isIf_54 : isIf Tryd.prog 54 = false := by kernel_rfl
@[go_sem] theorem tk_55 : tk Tryd.prog 55 = some (false, 1) := by kernel_rfl
@[go_sem] theorem und_55 : (Tryd.prog.underlying 55).isSome = true := by kernel_rfl
@[go_sem] theorem slk_55 : slk Tryd.prog 55 = some (25, 1, 24) := by kernel_rfl
@[go_sem] theorem ark_55 : ark Tryd.prog 55 = none := by kernel_rfl
@[go_sem] theorem isStr_55 : isStr Tryd.prog 55 = false := by kernel_rfl
@[go_sem] theorem isBool_55 : isBool Tryd.prog 55 = false := by kernel_rfl
@[go_sem] theorem notInt_55 : notInt Tryd.prog 55 = true := by kernel_rfl
@[go_sem] theorem zk_55 : zk Tryd.prog 55 = some [Value.slice none 0 0] := by kernel_rfl
@[go_sem] theorem elemZ_55 : elemZ Tryd.prog 55 = some [Value.slice none 0 0] := by kernel_rfl
@[go_sem] theorem arn_55 : arn Tryd.prog 55 = none := by kernel_rfl
@[go_sem] theorem bldk_55 : bldk Tryd.prog 55 = false := by kernel_rfl
@[go_sem] theorem bsl_55 : bsl Tryd.prog 55 = false := by kernel_rfl
@[go_sem] theorem isIf_55 : isIf Tryd.prog 55 = false := by kernel_rfl
@[go_sem] theorem isSl_55 : isSl Tryd.prog 55 = true := by kernel_rfl
@[go_sem] theorem tk_56 : tk Tryd.prog 56 = some (true, 3) := by kernel_rfl
@[go_sem] theorem und_56 : (Tryd.prog.underlying 56).isSome = true := by kernel_rfl
@[go_sem] theorem slk_56 : slk Tryd.prog 56 = none := by kernel_rfl
@[go_sem] theorem ark_56 : ark Tryd.prog 56 = none := by kernel_rfl
@[go_sem] theorem isStr_56 : isStr Tryd.prog 56 = false := by kernel_rfl
@[go_sem] theorem isBool_56 : isBool Tryd.prog 56 = false := by kernel_rfl
@[go_sem] theorem notInt_56 : notInt Tryd.prog 56 = true := by kernel_rfl
@[go_sem] theorem flk_56 : flk Tryd.prog 56 = some [(0, 1), (1, 1), (2, 1)] := by kernel_rfl
@[go_sem] theorem zk_56 : zk Tryd.prog 56 = some [Value.int IntKind.u8 (Int.ofNat 0), Value.int IntKind.u8 (Int.ofNat 0), Value.slice none 0 0] := by kernel_rfl
@[go_sem] theorem arn_56 : arn Tryd.prog 56 = none := by kernel_rfl
@[go_sem] theorem bldk_56 : bldk Tryd.prog 56 = false := by kernel_rfl
@[go_sem] theorem bsl_56 : bsl Tryd.prog 56 = false := by kernel_rfl
@[go_sem] theorem isIf_56 : isIf Tryd.prog 56 = false := by kernel_rfl
@[go_sem] theorem fdk_56_0 : fdk Tryd.prog 56 0 = some (0, false, 1) := by kernel_rfl
@[go_sem] theorem fdk_56_1 : fdk Tryd.prog 56 1 = some (1, false, 1) := by kernel_rfl
@[go_sem] theorem fdk_56_2 : fdk Tryd.prog 56 2 = some (2, false, 1) := by kernel_rfl
@[go_sem] theorem tk_57 : tk Tryd.prog 57 = some (true, 3) := by kernel_rfl
@[go_sem] theorem und_57 : (Tryd.prog.underlying 57).isSome = true := by kernel_rfl
@[go_sem] theorem slk_57 : slk Tryd.prog 57 = none := by kernel_rfl
@[go_sem] theorem ark_57 : ark Tryd.prog 57 = none := by kernel_rfl
@[go_sem] theorem isStr_57 : isStr Tryd.prog 57 = false := by kernel_rfl
@[go_sem] theorem isBool_57 : isBool Tryd.prog 57 = false := by kernel_rfl
@[go_sem] theorem notInt_57 : notInt Tryd.prog 57 = true := by kernel_rfl
@[go_sem] theorem flk_57 : flk Tryd.prog 57 = some [(0, 1), (1, 1), (2, 1)] := by kernel_rfl
@[go_sem] theorem zk_57 : zk Tryd.prog 57 = some [Value.int IntKind.u8 (Int.ofNat 0), Value.int IntKind.u8 (Int.ofNat 0), Value.slice none 0 0] := by kernel_rfl
@[go_sem] theorem arn_57 : arn Tryd.prog 57 = none := by kernel_rfl
@[go_sem] theorem bldk_57 : bldk Tryd.prog 57 = false := by kernel_rfl
@[go_sem] theorem bsl_57 : bsl Tryd.prog 57 = false := by kernel_rfl
@[go_sem] theorem isIf_57 : isIf Tryd.prog 57 = false := by kernel_rfl
@[go_sem] theorem fdk_57_0 : fdk Tryd.prog 57 0 = some (0, false, 1) := by kernel_rfl
@[go_sem] theorem fdk_57_1 : fdk Tryd.prog 57 1 = some (1, false, 1) := by kernel_rfl
@[go_sem] theorem fdk_57_2 : fdk Tryd.prog 57 2 = some (2, false, 1) := by kernel_rfl
@[go_sem] theorem tk_58 : tk Tryd.prog 58 = some (false, 1) := by kernel_rfl
@[go_sem] theorem und_58 : (Tryd.prog.underlying 58).isSome = true := by kernel_rfl
@[go_sem] theorem slk_58 : slk Tryd.prog 58 = some (79, 2, 32) := by kernel_rfl
@[go_sem] theorem ark_58 : ark Tryd.prog 58 = none := by kernel_rfl
@[go_sem] theorem isStr_58 : isStr Tryd.prog 58 = false := by kernel_rfl
@[go_sem] theorem isBool_58 : isBool Tryd.prog 58 = false := by kernel_rfl
@[go_sem] theorem notInt_58 : notInt Tryd.prog 58 = true := by kernel_rfl
@[go_sem] theorem zk_58 : zk Tryd.prog 58 = some [Value.slice none 0 0] := by kernel_rfl
@[go_sem] theorem elemZ_58 : elemZ Tryd.prog 58 = some [Value.int IntKind.i64 (Int.ofNat 0), Value.slice none 0 0] := by kernel_rfl
@[go_sem] theorem arn_58 : arn Tryd.prog 58 = none := by kernel_rfl
@[go_sem] theorem bldk_58 : bldk Tryd.prog 58 = false := by kernel_rfl
@[go_sem] theorem bsl_58 : bsl Tryd.prog 58 = false := by kernel_rfl
@[go_sem] theorem isIf_58 : isIf Tryd.prog 58 = false := by kernel_rfl
@[go_sem] theorem isSl_58 : isSl Tryd.prog 58 = true := by kernel_rfl
@[go_sem] theorem tk_59 : tk Tryd.prog 59 = some (false, 1) := by kernel_rfl
@[go_sem] theorem und_59 : (Tryd.prog.underlying 59).isSome = true := by kernel_rfl
@[go_sem] theorem slk_59 : slk Tryd.prog 59 = none := by kernel_rfl
@[go_sem] theorem ark_59 : ark Tryd.prog 59 = none := by kernel_rfl
@[go_sem] theorem isStr_59 : isStr Tryd.prog 59 = false := by kernel_rfl
@[go_sem] theorem isBool_59 : isBool Tryd.prog 59 = false := by kernel_rfl
@[go_sem] theorem notInt_59 : notInt Tryd.prog 59 = true := by kernel_rfl
@[go_sem] theorem zk_59 : zk Tryd.prog 59 = some [Value.tuple { toList := [Value.slice none 0 0, Value.int IntKind.i64 (Int.ofNat 0)] }] := by kernel_rfl
@[go_sem] theorem arn_59 : arn Tryd.prog 59 = none := by kernel_rfl
@[go_sem] theorem bldk_59 : bldk Tryd.prog 59 = false := by kernel_rfl
@[go_sem] theorem bsl_59 : bsl Tryd.prog 59 = false := by kernel_rfl
@[go_sem] theorem isIf_59 : isIf Tryd.prog 59 = false := by kernel_rfl
@[go_sem] theorem tk_60 : tk Tryd.prog 60 = some (false, 1) := by kernel_rfl
@[go_sem] theorem und_60 : (Tryd.prog.underlying 60).isSome = true := by kernel_rfl
@[go_sem] theorem slk_60 : slk Tryd.prog 60 = none := by kernel_rfl
@[go_sem] theorem ark_60 : ark Tryd.prog 60 = none := by kernel_rfl
@[go_sem] theorem isStr_60 : isStr Tryd.prog 60 = false := by kernel_rfl
@[go_sem] theorem isBool_60 : isBool Tryd.prog 60 = false := by kernel_rfl
@[go_sem] theorem notInt_60 : notInt Tryd.prog 60 = true := by kernel_rfl
@[go_sem] theorem zk_60 : zk Tryd.prog 60 = some [Value.nilFunc] := by kernel_rfl
@[go_sem] theorem arn_60 : arn Tryd.prog 60 = none := by kernel_rfl
@[go_sem] theorem bldk_60 : bldk Tryd.prog 60 = false := by kernel_rfl
@[go_sem] theorem bsl_60 : bsl Tryd.prog 60 = false := by kernel_rfl
@[go_sem] theorem isIf_60 : isIf Tryd.prog 60 = false := by kernel_rfl
@[go_sem] theorem tk_61 : tk Tryd.prog 61 = some (false, 1) := by kernel_rfl
@[go_sem] theorem und_61 : (Tryd.prog.underlying 61).isSome = true := by kernel_rfl
@[go_sem] theorem slk_61 : slk Tryd.prog 61 = none := by kernel_rfl
@[go_sem] theorem ark_61 : ark Tryd.prog 61 = none := by kernel_rfl
@[go_sem] theorem isStr_61 : isStr Tryd.prog 61 = false := by kernel_rfl
@[go_sem] theorem isBool_61 : isBool Tryd.prog 61 = false := by kernel_rfl
@[go_sem] theorem notInt_61 : notInt Tryd.prog 61 = true := by kernel_rfl
@[go_sem] theorem zk_61 : zk Tryd.prog 61 = some [Value.nilFunc] := by kernel_rfl
@[go_sem] theorem arn_61 : arn Tryd.prog 61 = none := by kernel_rfl
@[go_sem] theorem bldk_61 : bldk Tryd.prog 61 = false := by kernel_rfl
@[go_sem] theorem bsl_61 : bsl Tryd.prog 61 = false := by kernel_rfl
@[go_sem] theorem isIf_61 : isIf Tryd.prog 61 = false := by kernel_rfl
@[go_sem] theorem tk_62 : tk Tryd.prog 62 = some (false, 1) := by kernel_rfl
@[go_sem] theorem und_62 : (Tryd.prog.underlying 62).isSome = true := by kernel_rfl
@[go_sem] theorem slk_62 : slk Tryd.prog 62 = none := by kernel_rfl
@[go_sem] theorem ark_62 : ark Tryd.prog 62 = none := by kernel_rfl
@[go_sem] theorem isStr_62 : isStr Tryd.prog 62 = false := by kernel_rfl
@[go_sem] theorem isBool_62 : isBool Tryd.prog 62 = false := by kernel_rfl
@[go_sem] theorem notInt_62 : notInt Tryd.prog 62 = true := by kernel_rfl
@[go_sem] theorem zk_62 : zk Tryd.prog 62 = some [Value.nilFunc] := by kernel_rfl
@[go_sem] theorem arn_62 : arn Tryd.prog 62 = none := by kernel_rfl
@[go_sem] theorem bldk_62 : bldk Tryd.prog 62 = false := by kernel_rfl
@[go_sem] theorem bsl_62 : bsl Tryd.prog 62 = false := by kernel_rfl
@[go_sem] theorem isIf_62 : isIf Tryd.prog 62 = false := by kernel_rfl
@[go_sem] theorem tk_63 : tk Tryd.prog 63 = some (false, 1) := by kernel_rfl
@[go_sem] theorem und_63 : (Tryd.prog.underlying 63).isSome = true := by kernel_rfl
@[go_sem] theorem slk_63 : slk Tryd.prog 63 = none := by kernel_rfl
@[go_sem] theorem ark_63 : ark Tryd.prog 63 = none := by kernel_rfl
@[go_sem] theorem isStr_63 : isStr Tryd.prog 63 = false := by kernel_rfl
@[go_sem] theorem isBool_63 : isBool Tryd.prog 63 = false := by kernel_rfl
@[go_sem] theorem notInt_63 : notInt Tryd.prog 63 = true := by kernel_rfl
@[go_sem] theorem zk_63 : zk Tryd.prog 63 = some [Value.tuple { toList := [Value.agg { toList := [Value.slice none 0 0] }, Value.int IntKind.i64 (Int.ofNat 0)] }] := by kernel_rfl
@[go_sem] theorem arn_63 : arn Tryd.prog 63 = none := by kernel_rfl
@[go_sem] theorem bldk_63 : bldk Tryd.prog 63 = false := by kernel_rfl
@[go_sem] theorem bsl_63 : bsl Tryd.prog 63 = false := by kernel_rfl
@[go_sem] theorem isIf_63 : isIf Tryd.prog 63 = false := by kernel_rfl
@[go_sem] theorem tk_64 : tk Tryd.prog 64 = some (false, 1) := by kernel_rfl
@[go_sem] theorem und_64 : (Tryd.prog.underlying 64).isSome = true := by kernel_rfl
@[go_sem] theorem slk_64 : slk Tryd.prog 64 = none := by kernel_rfl
@[go_sem] theorem ark_64 : ark Tryd.prog 64 = none := by kernel_rfl
@[go_sem] theorem isStr_64 : isStr Tryd.prog 64 = false := by kernel_rfl
@[go_sem] theorem isBool_64 : isBool Tryd.prog 64 = false := by kernel_rfl
@[go_sem] theorem notInt_64 : notInt Tryd.prog 64 = true := by kernel_rfl
@[go_sem] theorem zk_64 : zk Tryd.prog 64 = some [Value.nilFunc] := by kernel_rfl
@[go_sem] theorem arn_64 : arn Tryd.prog 64 = none := by kernel_rfl
@[go_sem] theorem bldk_64 : bldk Tryd.prog 64 = false := by kernel_rfl
@[go_sem] theorem bsl_64 : bsl Tryd.prog 64 = false := by kernel_rfl
@[go_sem] theorem isIf_64 : isIf Tryd.prog 64 = false := by kernel_rfl
@[go_sem] theorem tk_65 : tk Tryd.prog 65 = some (false, 1) := by kernel_rfl
@[go_sem] theorem und_65 : (Tryd.prog.underlying 65).isSome = true := by kernel_rfl
@[go_sem] theorem slk_65 : slk Tryd.prog 65 = none := by kernel_rfl
@[go_sem] theorem ark_65 : ark Tryd.prog 65 = none := by kernel_rfl
@[go_sem] theorem isStr_65 : isStr Tryd.prog 65 = false := by kernel_rfl
@[go_sem] theorem isBool_65 : isBool Tryd.prog 65 = false := by kernel_rfl
@[go_sem] theorem notInt_65 : notInt Tryd.prog 65 = true := by kernel_rfl
@[go_sem] theorem zk_65 : zk Tryd.prog 65 = some [Value.nilFunc] := by kernel_rfl
@[go_sem] theorem arn_65 : arn Tryd.prog 65 = none := by kernel_rfl
@[go_sem] theorem bldk_65 : bldk Tryd.prog 65 = false := by kernel_rfl
@[go_sem] theorem bsl_65 : bsl Tryd.prog 65 = false := by kernel_rfl
@[go_sem] theorem isIf_65 : isIf Tryd.prog 65 = false := by kernel_rfl
@[go_sem] theorem tk_66 : tk Tryd.prog 66 = some (false, 1) := by kernel_rfl
@[go_sem] theorem und_66 : (Tryd.prog.underlying 66).isSome = true := by kernel_rfl
@[go_sem] theorem slk_66 : slk Tryd.prog 66 = none := by kernel_rfl
@[go_sem] theorem ark_66 : ark Tryd.prog 66 = none := by kernel_rfl
@[go_sem] theorem isStr_66 : isStr Tryd.prog 66 = false := by kernel_rfl
@[go_sem] theorem isBool_66 : isBool Tryd.prog 66 = false := by kernel_rfl
@[go_sem] theorem notInt_66 : notInt Tryd.prog 66 = true := by kernel_rfl
@[go_sem] theorem zk_66 : zk Tryd.prog 66 = some [Value.nilFunc] := by kernel_rfl
@[go_sem] theorem arn_66 : arn Tryd.prog 66 = none := by kernel_rfl
@[go_sem] theorem bldk_66 : bldk Tryd.prog 66 = false := by kernel_rfl
@[go_sem] theorem bsl_66 : bsl Tryd.prog 66 = false := by kernel_rfl
@[go_sem] theorem isIf_66 : isIf Tryd.prog 66 = false := by kernel_rfl
@[go_sem] theorem tk_67 : tk Tryd.prog 67 = some (false, 1) := by kernel_rfl
@[go_sem] theorem und_67 : (Tryd.prog.underlying 67).isSome = true := by kernel_rfl
@[go_sem] theorem slk_67 : slk Tryd.prog 67 = none := by kernel_rfl
@[go_sem] theorem ark_67 : ark Tryd.prog 67 = none := by kernel_rfl
@[go_sem] theorem isStr_67 : isStr Tryd.prog 67 = false := by kernel_rfl
@[go_sem] theorem isBool_67 : isBool Tryd.prog 67 = false := by kernel_rfl
@[go_sem] theorem notInt_67 : notInt Tryd.prog 67 = true := by kernel_rfl
@[go_sem] theorem zk_67 : zk Tryd.prog 67 = some [Value.nilFunc] := by kernel_rfl
@[go_sem] theorem arn_67 : arn Tryd.prog 67 = none := by kernel_rfl
@[go_sem] theorem bldk_67 : bldk Tryd.prog 67 = false := by kernel_rfl
@[go_sem] theorem bsl_67 : bsl Tryd.prog 67 = false := by kernel_rfl
@[go_sem] theorem isIf_67 : isIf Tryd.prog 67 = false := by kernel_rfl
@[go_sem] theorem tk_68 : tk Tryd.prog 68 = some (false, 1) := by kernel_rfl
@[go_sem] theorem und_68 : (Tryd.prog.underlying 68).isSome = true := by kernel_rfl
@[go_sem] theorem slk_68 : slk Tryd.prog 68 = some (81, 5, 80) := by kernel_rfl
@[go_sem] theorem ark_68 : ark Tryd.prog 68 = none := by kernel_rfl
@[go_sem] theorem isStr_68 : isStr Tryd.prog 68 = false := by kernel_rfl
@[go_sem] theorem isBool_68 : isBool Tryd.prog 68 = false := by kernel_rfl
@[go_sem] theorem notInt_68 : notInt Tryd.prog 68 = true := by kernel_rfl
@[go_sem] theorem zk_68 : zk Tryd.prog 68 = some [Value.slice none 0 0] := by kernel_rfl
@[go_sem] theorem elemZ_68 : elemZ Tryd.prog 68 = some [Value.string { data := { toList := [] } }, Value.slice none 0 0, Value.int IntKind.i64 (Int.ofNat 0), Value.int IntKind.i64 (Int.ofNat 0), Value.slice none 0 0] := by kernel_rfl
@[go_sem] theorem arn_68 : arn Tryd.prog 68 = none := by kernel_rfl
@[go_sem] theorem bldk_68 : bldk Tryd.prog 68 = false := by kernel_rfl
@[go_sem] theorem bsl_68 : bsl Tryd.prog 68 = false := by kernel_rfl
@[go_sem] theorem isIf_68 : isIf Tryd.prog 68 = false := by kernel_rfl
@[go_sem] theorem isSl_68 : isSl Tryd.prog 68 = true := by kernel_rfl
@[go_sem] theorem tk_69 : tk Tryd.prog 69 = some (false, 1) := by kernel_rfl
@[go_sem] theorem und_69 : (Tryd.prog.underlying 69).isSome = true := by kernel_rfl
@[go_sem] theorem slk_69 : slk Tryd.prog 69 = none := by kernel_rfl
@[go_sem] theorem ark_69 : ark Tryd.prog 69 = none := by kernel_rfl
@[go_sem] theorem isStr_69 : isStr Tryd.prog 69 = false := by kernel_rfl
@[go_sem] theorem isBool_69 : isBool Tryd.prog 69 = false := by kernel_rfl
@[go_sem] theorem notInt_69 : notInt Tryd.prog 69 = true := by kernel_rfl
@[go_sem] theorem zk_69 : zk Tryd.prog 69 = some [Value.tuple { toList := [Value.slice none 0 0, Value.int IntKind.i64 (Int.ofNat 0), Value.int IntKind.i64 (Int.ofNat 0)] }] := by kernel_rfl
@[go_sem] theorem arn_69 : arn Tryd.prog 69 = none := by kernel_rfl
@[go_sem] theorem bldk_69 : bldk Tryd.prog 69 = false := by kernel_rfl
@[go_sem] theorem bsl_69 : bsl Tryd.prog 69 = false := by kernel_rfl
@[go_sem] theorem isIf_69 : isIf Tryd.prog 69 = false := by kernel_rfl
@[go_sem] theorem tk_70 : tk Tryd.prog 70 = some (false, 1) := by kernel_rfl
@[go_sem] theorem und_70 : (Tryd.prog.underlying 70).isSome = true := by kernel_rfl
@[go_sem] theorem slk_70 : slk Tryd.prog 70 = none := by kernel_rfl
@[go_sem] theorem ark_70 : ark Tryd.prog 70 = none := by kernel_rfl
@[go_sem] theorem isStr_70 : isStr Tryd.prog 70 = false := by kernel_rfl
@[go_sem] theorem isBool_70 : isBool Tryd.prog 70 = false := by kernel_rfl
@[go_sem] theorem notInt_70 : notInt Tryd.prog 70 = true := by kernel_rfl
@[go_sem] theorem zk_70 : zk Tryd.prog 70 = some [Value.nilFunc] := by kernel_rfl
@[go_sem] theorem arn_70 : arn Tryd.prog 70 = none := by kernel_rfl
@[go_sem] theorem bldk_70 : bldk Tryd.prog 70 = false := by kernel_rfl
@[go_sem] theorem bsl_70 : bsl Tryd.prog 70 = false := by kernel_rfl
@[go_sem] theorem isIf_70 : isIf Tryd.prog 70 = false := by kernel_rfl
@[go_sem] theorem tk_71 : tk Tryd.prog 71 = some (false, 1) := by kernel_rfl
@[go_sem] theorem und_71 : (Tryd.prog.underlying 71).isSome = true := by kernel_rfl
@[go_sem] theorem slk_71 : slk Tryd.prog 71 = some (75, 3, 48) := by kernel_rfl
@[go_sem] theorem ark_71 : ark Tryd.prog 71 = none := by kernel_rfl
@[go_sem] theorem isStr_71 : isStr Tryd.prog 71 = false := by kernel_rfl
@[go_sem] theorem isBool_71 : isBool Tryd.prog 71 = false := by kernel_rfl
@[go_sem] theorem notInt_71 : notInt Tryd.prog 71 = true := by kernel_rfl
@[go_sem] theorem zk_71 : zk Tryd.prog 71 = some [Value.slice none 0 0] := by kernel_rfl
@[go_sem] theorem elemZ_71 : elemZ Tryd.prog 71 = some [Value.string { data := { toList := [] } }, Value.slice none 0 0, Value.int IntKind.i64 (Int.ofNat 0)] := by kernel_rfl
@[go_sem] theorem arn_71 : arn Tryd.prog 71 = none := by kernel_rfl
@[go_sem] theorem bldk_71 : bldk Tryd.prog 71 = false := by kernel_rfl
@[go_sem] theorem bsl_71 : bsl Tryd.prog 71 = false := by kernel_rfl
@[go_sem] theorem isIf_71 : isIf Tryd.prog 71 = false := by kernel_rfl
@[go_sem] theorem isSl_71 : isSl Tryd.prog 71 = true := by kernel_rfl
@[go_sem] theorem tk_72 : tk Tryd.prog 72 = some (false, 1) := by kernel_rfl
@[go_sem] theorem und_72 : (Tryd.prog.underlying 72).isSome = true := by kernel_rfl
@[go_sem] theorem slk_72 : slk Tryd.prog 72 = none := by kernel_rfl
@[go_sem] theorem ark_72 : ark Tryd.prog 72 = none := by kernel_rfl
@[go_sem] theorem isStr_72 : isStr Tryd.prog 72 = false := by kernel_rfl
@[go_sem] theorem isBool_72 : isBool Tryd.prog 72 = false := by kernel_rfl
@[go_sem] theorem notInt_72 : notInt Tryd.prog 72 = true := by kernel_rfl
@[go_sem] theorem zk_72 : zk Tryd.prog 72 = some [Value.nilFunc] := by kernel_rfl
@[go_sem] theorem arn_72 : arn Tryd.prog 72 = none := by kernel_rfl
@[go_sem] theorem bldk_72 : bldk Tryd.prog 72 = false := by kernel_rfl
@[go_sem] theorem bsl_72 : bsl Tryd.prog 72 = false := by kernel_rfl
@[go_sem] theorem isIf_72 : isIf Tryd.prog 72 = false := by kernel_rfl
@[go_sem] theorem tk_73 : tk Tryd.prog 73 = some (false, 1) := by kernel_rfl
@[go_sem] theorem und_73 : (Tryd.prog.underlying 73).isSome = true := by kernel_rfl
@[go_sem] theorem slk_73 : slk Tryd.prog 73 = none := by kernel_rfl
@[go_sem] theorem ark_73 : ark Tryd.prog 73 = none := by kernel_rfl
@[go_sem] theorem isStr_73 : isStr Tryd.prog 73 = false := by kernel_rfl
@[go_sem] theorem isBool_73 : isBool Tryd.prog 73 = false := by kernel_rfl
@[go_sem] theorem notInt_73 : notInt Tryd.prog 73 = true := by kernel_rfl
@[go_sem] theorem zk_73 : zk Tryd.prog 73 = some [Value.nilFunc] := by kernel_rfl
@[go_sem] theorem arn_73 : arn Tryd.prog 73 = none := by kernel_rfl
@[go_sem] theorem bldk_73 : bldk Tryd.prog 73 = false := by kernel_rfl
@[go_sem] theorem bsl_73 : bsl Tryd.prog 73 = false := by kernel_rfl
@[go_sem] theorem isIf_73 : isIf Tryd.prog 73 = false := by kernel_rfl
@[go_sem] theorem tk_74 : tk Tryd.prog 74 = some (true, 3) := by kernel_rfl
@[go_sem] theorem und_74 : (Tryd.prog.underlying 74).isSome = true := by kernel_rfl
@[go_sem] theorem slk_74 : slk Tryd.prog 74 = none := by kernel_rfl
@[go_sem] theorem ark_74 : ark Tryd.prog 74 = none := by kernel_rfl
@[go_sem] theorem isStr_74 : isStr Tryd.prog 74 = false := by kernel_rfl
@[go_sem] theorem isBool_74 : isBool Tryd.prog 74 = false := by kernel_rfl
@[go_sem] theorem notInt_74 : notInt Tryd.prog 74 = true := by kernel_rfl
@[go_sem] theorem flk_74 : flk Tryd.prog 74 = some [(0, 1), (1, 1), (2, 1)] := by kernel_rfl
@[go_sem] theorem zk_74 : zk Tryd.prog 74 = some [Value.string { data := { toList := [] } }, Value.slice none 0 0, Value.int IntKind.i64 (Int.ofNat 0)] := by kernel_rfl
@[go_sem] theorem arn_74 : arn Tryd.prog 74 = none := by kernel_rfl
@[go_sem] theorem bldk_74 : bldk Tryd.prog 74 = false := by kernel_rfl
@[go_sem] theorem bsl_74 : bsl Tryd.prog 74 = false := by kernel_rfl
@[go_sem] theorem isIf_74 : isIf Tryd.prog 74 = false := by kernel_rfl
@[go_sem] theorem fdk_74_0 : fdk Tryd.prog 74 0 = some (0, false, 1) := by kernel_rfl
@[go_sem] theorem fdk_74_1 : fdk Tryd.prog 74 1 = some (1, false, 1) := by kernel_rfl
@[go_sem] theorem fdk_74_2 : fdk Tryd.prog 74 2 = some (2, false, 1) := by kernel_rfl
@[go_sem] theorem tk_75 : tk Tryd.prog 75 = some (true, 3) := by kernel_rfl
@[go_sem] theorem und_75 : (Tryd.prog.underlying 75).isSome = true := by kernel_rfl
@[go_sem] theorem slk_75 : slk Tryd.prog 75 = none := by kernel_rfl
@[go_sem] theorem ark_75 : ark Tryd.prog 75 = none := by kernel_rfl
@[go_sem] theorem isStr_75 : isStr Tryd.prog 75 = false := by kernel_rfl
@[go_sem] theorem isBool_75 : isBool Tryd.prog 75 = false := by kernel_rfl
@[go_sem] theorem notInt_75 : notInt Tryd.prog 75 = true := by kernel_rfl
@[go_sem] theorem flk_75 : flk Tryd.prog 75 = some [(0, 1), (1, 1), (2, 1)] := by kernel_rfl
@[go_sem] theorem zk_75 : zk Tryd.prog 75 = some [Value.string { data := { toList := [] } }, Value.slice none 0 0, Value.int IntKind.i64 (Int.ofNat 0)] := by kernel_rfl
@[go_sem] theorem arn_75 : arn Tryd.prog 75 = none := by kernel_rfl
@[go_sem] theorem bldk_75 : bldk Tryd.prog 75 = false := by kernel_rfl
@[go_sem] theorem bsl_75 : bsl Tryd.prog 75 = false := by kernel_rfl
@[go_sem] theorem isIf_75 : isIf Tryd.prog 75 = false := by kernel_rfl
@[go_sem] theorem fdk_75_0 : fdk Tryd.prog 75 0 = some (0, false, 1) := by kernel_rfl
@[go_sem] theorem fdk_75_1 : fdk Tryd.prog 75 1 = some (1, false, 1) := by kernel_rfl
@[go_sem] theorem fdk_75_2 : fdk Tryd.prog 75 2 = some (2, false, 1) := by kernel_rfl
@[go_sem] theorem tk_76 : tk Tryd.prog 76 = some (false, 1) := by kernel_rfl
@[go_sem] theorem und_76 : (Tryd.prog.underlying 76).isSome = true := by kernel_rfl
@[go_sem] theorem slk_76 : slk Tryd.prog 76 = none := by kernel_rfl
@[go_sem] theorem ark_76 : ark Tryd.prog 76 = none := by kernel_rfl
@[go_sem] theorem isStr_76 : isStr Tryd.prog 76 = false := by kernel_rfl
@[go_sem] theorem isBool_76 : isBool Tryd.prog 76 = false := by kernel_rfl
@[go_sem] theorem notInt_76 : notInt Tryd.prog 76 = true := by kernel_rfl
@[go_sem] theorem zk_76 : zk Tryd.prog 76 = some [Value.nilFunc] := by kernel_rfl
@[go_sem] theorem arn_76 : arn Tryd.prog 76 = none := by kernel_rfl
@[go_sem] theorem bldk_76 : bldk Tryd.prog 76 = false := by kernel_rfl
@[go_sem] theorem bsl_76 : bsl Tryd.prog 76 = false := by kernel_rfl
@[go_sem] theorem isIf_76 : isIf Tryd.prog 76 = false := by kernel_rfl
@[go_sem] theorem tk_77 : tk Tryd.prog 77 = some (false, 1) := by kernel_rfl
@[go_sem] theorem und_77 : (Tryd.prog.underlying 77).isSome = true := by kernel_rfl
@[go_sem] theorem slk_77 : slk Tryd.prog 77 = none := by kernel_rfl
@[go_sem] theorem ark_77 : ark Tryd.prog 77 = none := by kernel_rfl
@[go_sem] theorem isStr_77 : isStr Tryd.prog 77 = false := by kernel_rfl
@[go_sem] theorem isBool_77 : isBool Tryd.prog 77 = false := by kernel_rfl
@[go_sem] theorem notInt_77 : notInt Tryd.prog 77 = true := by kernel_rfl
@[go_sem] theorem zk_77 : zk Tryd.prog 77 = some [Value.nilFunc] := by kernel_rfl
@[go_sem] theorem arn_77 : arn Tryd.prog 77 = none := by kernel_rfl
@[go_sem] theorem bldk_77 : bldk Tryd.prog 77 = false := by kernel_rfl
@[go_sem] theorem bsl_77 : bsl Tryd.prog 77 = false := by kernel_rfl
@[go_sem] theorem isIf_77 : isIf Tryd.prog 77 = false := by kernel_rfl
@[go_sem] theorem tk_78 : tk Tryd.prog 78 = some (true, 2) := by kernel_rfl
@[go_sem] theorem und_78 : (Tryd.prog.underlying 78).isSome = true := by kernel_rfl
@[go_sem] theorem slk_78 : slk Tryd.prog 78 = none := by kernel_rfl
@[go_sem] theorem ark_78 : ark Tryd.prog 78 = none := by kernel_rfl
@[go_sem] theorem isStr_78 : isStr Tryd.prog 78 = false := by kernel_rfl
@[go_sem] theorem isBool_78 : isBool Tryd.prog 78 = false := by kernel_rfl
@[go_sem] theorem notInt_78 : notInt Tryd.prog 78 = true := by kernel_rfl
@[go_sem] theorem flk_78 : flk Tryd.prog 78 = some [(0, 1), (1, 1)] := by kernel_rfl
@[go_sem] theorem zk_78 : zk Tryd.prog 78 = some [Value.int IntKind.i64 (Int.ofNat 0), Value.slice none 0 0] := by kernel_rfl
@[go_sem] theorem arn_78 : arn Tryd.prog 78 = none := by kernel_rfl
@[go_sem] theorem bldk_78 : bldk Tryd.prog 78 = false := by kernel_rfl
@[go_sem] theorem bsl_78 : bsl Tryd.prog 78 = false := by kernel_rfl
@[go_sem] theorem isIf_78 : isIf Tryd.prog 78 = false := by kernel_rfl
@[go_sem] theorem fdk_78_0 : fdk Tryd.prog 78 0 = some (0, false, 1) := by kernel_rfl
@[go_sem] theorem fdk_78_1 : fdk Tryd.prog 78 1 = some (1, false, 1) := by kernel_rfl
@[go_sem] theorem tk_79 : tk Tryd.prog 79 = some (true, 2) := by kernel_rfl
@[go_sem] theorem und_79 : (Tryd.prog.underlying 79).isSome = true := by kernel_rfl
@[go_sem] theorem slk_79 : slk Tryd.prog 79 = none := by kernel_rfl
@[go_sem] theorem ark_79 : ark Tryd.prog 79 = none := by kernel_rfl
@[go_sem] theorem isStr_79 : isStr Tryd.prog 79 = false := by kernel_rfl
@[go_sem] theorem isBool_79 : isBool Tryd.prog 79 = false := by kernel_rfl
@[go_sem] theorem notInt_79 : notInt Tryd.prog 79 = true := by kernel_rfl
@[go_sem] theorem flk_79 : flk Tryd.prog 79 = some [(0, 1), (1, 1)] := by kernel_rfl
@[go_sem] theorem zk_79 : zk Tryd.prog 79 = some [Value.int IntKind.i64 (Int.ofNat 0), Value.slice none 0 0] := by kernel_rfl
@[go_sem] theorem arn_79 : arn Tryd.prog 79 = none := by kernel_rfl
@[go_sem] theorem bldk_79 : bldk Tryd.prog 79 = false := by kernel_rfl
@[go_sem] theorem bsl_79 : bsl Tryd.prog 79 = false := by kernel_rfl
@[go_sem] theorem isIf_79 : isIf Tryd.prog 79 = false := by kernel_rfl
@[go_sem] theorem fdk_79_0 : fdk Tryd.prog 79 0 = some (0, false, 1) := by kernel_rfl
@[go_sem] theorem fdk_79_1 : fdk Tryd.prog 79 1 = some (1, false, 1) := by kernel_rfl
@[go_sem] theorem tk_80 : tk Tryd.prog 80 = some (true, 5) := by kernel_rfl
@[go_sem] theorem und_80 : (Tryd.prog.underlying 80).isSome = true := by kernel_rfl
@[go_sem] theorem slk_80 : slk Tryd.prog 80 = none := by kernel_rfl
@[go_sem] theorem ark_80 : ark Tryd.prog 80 = none := by kernel_rfl
@[go_sem] theorem isStr_80 : isStr Tryd.prog 80 = false := by kernel_rfl
@[go_sem] theorem isBool_80 : isBool Tryd.prog 80 = false := by kernel_rfl
@[go_sem] theorem notInt_80 : notInt Tryd.prog 80 = true := by kernel_rfl
@[go_sem] theorem flk_80 : flk Tryd.prog 80 = some [(0, 1), (1, 1), (2, 1), (3, 2)] := by kernel_rfl
@[go_sem] theorem zk_80 : zk Tryd.prog 80 = some [Value.string { data := { toList := [] } }, Value.slice none 0 0, Value.int IntKind.i64 (Int.ofNat 0), Value.int IntKind.i64 (Int.ofNat 0), Value.slice none 0 0] := by kernel_rfl
@[go_sem] theorem arn_80 : arn Tryd.prog 80 = none := by kernel_rfl
@[go_sem] theorem bldk_80 : bldk Tryd.prog 80 = false := by kernel_rfl
@[go_sem] theorem bsl_80 : bsl Tryd.prog 80 = false := by kernel_rfl
@[go_sem] theorem isIf_80 : isIf Tryd.prog 80 = false := by kernel_rfl
@[go_sem] theorem fdk_80_0 : fdk Tryd.prog 80 0 = some (0, false, 1) := by kernel_rfl
@[go_sem] theorem fdk_80_1 : fdk Tryd.prog 80 1 = some (1, false, 1) := by kernel_rfl
@[go_sem] theorem fdk_80_2 : fdk Tryd.prog 80 2 = some (2, false, 1) := by kernel_rfl
@[go_sem] theorem fdk_80_3 : fdk Tryd.prog 80 3 = some (3, true, 2) := by kernel_rfl
@[go_sem] theorem tk_81 : tk Tryd.prog 81 = some (true, 5) := by kernel_rfl
@[go_sem] theorem und_81 : (Tryd.prog.underlying 81).isSome = true := by kernel_rfl
@[go_sem] theorem slk_81 : slk Tryd.prog 81 = none := by kernel_rfl
@[go_sem] theorem ark_81 : ark Tryd.prog 81 = none := by kernel_rfl
@[go_sem] theorem isStr_81 : isStr Tryd.prog 81 = false := by kernel_rfl
@[go_sem] theorem isBool_81 : isBool Tryd.prog 81 = false := by kernel_rfl
@[go_sem] theorem notInt_81 : notInt Tryd.prog 81 = true := by kernel_rfl
@[go_sem] theorem flk_81 : flk Tryd.prog 81 = some [(0, 1), (1, 1), (2, 1), (3, 2)] := by kernel_rfl
@[go_sem] theorem zk_81 : zk Tryd.prog 81 = some [Value.string { data := { toList := [] } }, Value.slice none 0 0, Value.int IntKind.i64 (Int.ofNat 0), Value.int IntKind.i64 (Int.ofNat 0), Value.slice none 0 0] := by kernel_rfl
@[go_sem] theorem arn_81 : arn Tryd.prog 81 = none := by kernel_rfl
@[go_sem] theorem bldk_81 : bldk Tryd.prog 81 = false := by kernel_rfl
@[go_sem] theorem bsl_81 : bsl Tryd.prog 81 = false := by kernel_rfl
@[go_sem] theorem isIf_81 : isIf Tryd.prog 81 = false := by kernel_rfl
@[go_sem] theorem fdk_81_0 : fdk Tryd.prog 81 0 = some (0, false, 1) := by kernel_rfl
@[go_sem] theorem fdk_81_1 : fdk Tryd.prog 81 1 = some (1, false, 1) := by kernel_rfl
@[go_sem] theorem fdk_81_2 : fdk Tryd.prog 81 2 = some (2, false, 1) := by kernel_rfl
@[go_sem] theorem fdk_81_3 : fdk Tryd.prog 81 3 = some (3, true, 2) := by kernel_rfl
@[go_sem] theorem tk_83 : tk Tryd.prog 83 = some (false, 1) := by kernel_rfl
@[go_sem] theorem und_83 : (Tryd.prog.underlying 83).isSome = true := by kernel_rfl
@[go_sem] theorem slk_83 : slk Tryd.prog 83 = none := by kernel_rfl
@[go_sem] theorem ark_83 : ark Tryd.prog 83 = none := by kernel_rfl
@[go_sem] theorem isStr_83 : isStr Tryd.prog 83 = false := by kernel_rfl
@[go_sem] theorem isBool_83 : isBool Tryd.prog 83 = false := by kernel_rfl
@[go_sem] theorem notInt_83 : notInt Tryd.prog 83 = true := by kernel_rfl
@[go_sem] theorem zk_83 : zk Tryd.prog 83 = some [Value.pointer none] := by kernel_rfl
@[go_sem] theorem arn_83 : arn Tryd.prog 83 = none := by kernel_rfl
@[go_sem] theorem bldk_83 : bldk Tryd.prog 83 = false := by kernel_rfl
@[go_sem] theorem bsl_83 : bsl Tryd.prog 83 = false := by kernel_rfl
@[go_sem] theorem isIf_83 : isIf Tryd.prog 83 = false := by kernel_rfl
@[go_sem] theorem tk_84 : tk Tryd.prog 84 = some (false, 1) := by kernel_rfl
@[go_sem] theorem und_84 : (Tryd.prog.underlying 84).isSome = true := by kernel_rfl
@[go_sem] theorem slk_84 : slk Tryd.prog 84 = some (113, 1, 24) := by kernel_rfl
@[go_sem] theorem ark_84 : ark Tryd.prog 84 = none := by kernel_rfl
@[go_sem] theorem isStr_84 : isStr Tryd.prog 84 = false := by kernel_rfl
@[go_sem] theorem isBool_84 : isBool Tryd.prog 84 = false := by kernel_rfl
@[go_sem] theorem notInt_84 : notInt Tryd.prog 84 = true := by kernel_rfl
@[go_sem] theorem zk_84 : zk Tryd.prog 84 = some [Value.slice none 0 0] := by kernel_rfl
@[go_sem] theorem elemZ_84 : elemZ Tryd.prog 84 = some [Value.slice none 0 0] := by kernel_rfl
@[go_sem] theorem arn_84 : arn Tryd.prog 84 = none := by kernel_rfl
@[go_sem] theorem bldk_84 : bldk Tryd.prog 84 = false := by kernel_rfl
@[go_sem] theorem bsl_84 : bsl Tryd.prog 84 = false := by kernel_rfl
@[go_sem] theorem isIf_84 : isIf Tryd.prog 84 = false := by kernel_rfl
@[go_sem] theorem isSl_84 : isSl Tryd.prog 84 = true := by kernel_rfl
@[go_sem] theorem tk_86 : tk Tryd.prog 86 = some (true, 3) := by kernel_rfl
@[go_sem] theorem und_86 : (Tryd.prog.underlying 86).isSome = true := by kernel_rfl
@[go_sem] theorem slk_86 : slk Tryd.prog 86 = none := by kernel_rfl
@[go_sem] theorem ark_86 : ark Tryd.prog 86 = none := by kernel_rfl
@[go_sem] theorem isStr_86 : isStr Tryd.prog 86 = false := by kernel_rfl
@[go_sem] theorem isBool_86 : isBool Tryd.prog 86 = false := by kernel_rfl
@[go_sem] theorem notInt_86 : notInt Tryd.prog 86 = true := by kernel_rfl
@[go_sem] theorem flk_86 : flk Tryd.prog 86 = some [(0, 1), (1, 1), (2, 1)] := by kernel_rfl
@[go_sem] theorem zk_86 : zk Tryd.prog 86 = some [Value.slice none 0 0, Value.slice none 0 0, Value.int IntKind.i64 (Int.ofNat 0)] := by kernel_rfl
@[go_sem] theorem arn_86 : arn Tryd.prog 86 = none := by kernel_rfl
@[go_sem] theorem bldk_86 : bldk Tryd.prog 86 = false := by kernel_rfl
@[go_sem] theorem bsl_86 : bsl Tryd.prog 86 = false := by kernel_rfl
@[go_sem] theorem isIf_86 : isIf Tryd.prog 86 = false := by kernel_rfl
@[go_sem] theorem fdk_86_0 : fdk Tryd.prog 86 0 = some (0, false, 1) := by kernel_rfl
@[go_sem] theorem fdk_86_1 : fdk Tryd.prog 86 1 = some (1, false, 1) := by kernel_rfl
@[go_sem] theorem fdk_86_2 : fdk Tryd.prog 86 2 = some (2, false, 1) := by kernel_rfl
@[go_sem] theorem tk_87 : tk Tryd.prog 87 = some (false, 1) := by kernel_rfl
@[go_sem] theorem und_87 : (Tryd.prog.underlying 87).isSome = true := by kernel_rfl
@[go_sem] theorem slk_87 : slk Tryd.prog 87 = none := by kernel_rfl
@[go_sem] theorem ark_87 : ark Tryd.prog 87 = none := by kernel_rfl
@[go_sem] theorem isStr_87 : isStr Tryd.prog 87 = false := by kernel_rfl
@[go_sem] theorem isBool_87 : isBool Tryd.prog 87 = false := by kernel_rfl
@[go_sem] theorem notInt_87 : notInt Tryd.prog 87 = true := by kernel_rfl
@[go_sem] theorem zk_87 : zk Tryd.prog 87 = some [Value.nilFunc] := by kernel_rfl
@[go_sem] theorem arn_87 : arn Tryd.prog 87 = none := by kernel_rfl
@[go_sem] theorem bldk_87 : bldk Tryd.prog 87 = false := by kernel_rfl
@[go_sem] theorem bsl_87 : bsl Tryd.prog 87 = false := by kernel_rfl
@[go_sem] theorem isIf_87 : isIf Tryd.prog 87 = false := by kernel_rfl
@[go_sem] theorem tk_88 : tk Tryd.prog 88 = some (false, 1) := by kernel_rfl
@[go_sem] theorem und_88 : (Tryd.prog.underlying 88).isSome = true := by kernel_rfl
@[go_sem] theorem slk_88 : slk Tryd.prog 88 = some (2, 1, 8) := by kernel_rfl
@[go_sem] theorem ark_88 : ark Tryd.prog 88 = none := by kernel_rfl
@[go_sem] theorem isStr_88 : isStr Tryd.prog 88 = false := by kernel_rfl
@[go_sem] theorem isBool_88 : isBool Tryd.prog 88 = false := by kernel_rfl
@[go_sem] theorem notInt_88 : notInt Tryd.prog 88 = true := by kernel_rfl
@[go_sem] theorem zk_88 : zk Tryd.prog 88 = some [Value.slice none 0 0] := by kernel_rfl
@[go_sem] theorem elemZ_88 : elemZ Tryd.prog 88 = some [Value.int IntKind.i64 (Int.ofNat 0)] := by kernel_rfl
@[go_sem] theorem arn_88 : arn Tryd.prog 88 = none := by kernel_rfl
@[go_sem] theorem bldk_88 : bldk Tryd.prog 88 = false := by kernel_rfl
@[go_sem] theorem bsl_88 : bsl Tryd.prog 88 = false := by kernel_rfl
@[go_sem] theorem isIf_88 : isIf Tryd.prog 88 = false := by kernel_rfl
@[go_sem] theorem isSl_88 : isSl Tryd.prog 88 = true := by kernel_rfl
@[go_sem] theorem tk_89 : tk Tryd.prog 89 = some (false, 1) := by kernel_rfl
@[go_sem] theorem und_89 : (Tryd.prog.underlying 89).isSome = true := by kernel_rfl
@[go_sem] theorem slk_89 : slk Tryd.prog 89 = none := by kernel_rfl
@[go_sem] theorem ark_89 : ark Tryd.prog 89 = none := by kernel_rfl
@[go_sem] theorem isStr_89 : isStr Tryd.prog 89 = false := by kernel_rfl
@[go_sem] theorem isBool_89 : isBool Tryd.prog 89 = false := by kernel_rfl
@[go_sem] theorem notInt_89 : notInt Tryd.prog 89 = true := by kernel_rfl
@[go_sem] theorem zk_89 : zk Tryd.prog 89 = some [Value.nilFunc] := by kernel_rfl
@[go_sem] theorem arn_89 : arn Tryd.prog 89 = none := by kernel_rfl
@[go_sem] theorem bldk_89 : bldk Tryd.prog 89 = false := by kernel_rfl
@[go_sem] theorem bsl_89 : bsl Tryd.prog 89 = false := by kernel_rfl
@[go_sem] theorem isIf_89 : isIf Tryd.prog 89 = false := by kernel_rfl
@[go_sem] theorem tk_92 : tk Tryd.prog 92 = some (false, 1) := by kernel_rfl
@[go_sem] theorem und_92 : (Tryd.prog.underlying 92).isSome = true := by kernel_rfl
@[go_sem] theorem slk_92 : slk Tryd.prog 92 = none := by kernel_rfl
@[go_sem] theorem ark_92 : ark Tryd.prog 92 = none := by kernel_rfl
@[go_sem] theorem isStr_92 : isStr Tryd.prog 92 = false := by kernel_rfl
@[go_sem] theorem isBool_92 : isBool Tryd.prog 92 = false := by kernel_rfl
@[go_sem] theorem notInt_92 : notInt Tryd.prog 92 = true := by kernel_rfl
@[go_sem] theorem zk_92 : zk Tryd.prog 92 = some [Value.nilFunc] := by kernel_rfl
@[go_sem] theorem arn_92 : arn Tryd.prog 92 = none := by kernel_rfl
@[go_sem] theorem bldk_92 : bldk Tryd.prog 92 = false := by kernel_rfl
@[go_sem] theorem bsl_92 : bsl Tryd.prog 92 = false := by kernel_rfl
@[go_sem] theorem isIf_92 : isIf Tryd.prog 92 = false := by kernel_rfl
@[go_sem] theorem tk_94 : tk Tryd.prog 94 = some (false, 1) := by kernel_rfl
@[go_sem] theorem und_94 : (Tryd.prog.underlying 94).isSome = true := by kernel_rfl
@[go_sem] theorem slk_94 : slk Tryd.prog 94 = none := by kernel_rfl
@[go_sem] theorem ark_94 : ark Tryd.prog 94 = none := by kernel_rfl
@[go_sem] theorem isStr_94 : isStr Tryd.prog 94 = false := by kernel_rfl
@[go_sem] theorem isBool_94 : isBool Tryd.prog 94 = false := by kernel_rfl
@[go_sem] theorem notInt_94 : notInt Tryd.prog 94 = true := by kernel_rfl
@[go_sem] theorem zk_94 : zk Tryd.prog 94 = some [Value.nilFunc] := by kernel_rfl
@[go_sem] theorem arn_94 : arn Tryd.prog 94 = none := by kernel_rfl
@[go_sem] theorem bldk_94 : bldk Tryd.prog 94 = false := by kernel_rfl
@[go_sem] theorem bsl_94 : bsl Tryd.prog 94 = false := by kernel_rfl
@[go_sem] theorem isIf_94 : isIf Tryd.prog 94 = false := by kernel_rfl
@[go_sem] theorem tk_95 : tk Tryd.prog 95 = some (false, 1) := by kernel_rfl
@[go_sem] theorem und_95 : (Tryd.prog.underlying 95).isSome = true := by kernel_rfl
@[go_sem] theorem slk_95 : slk Tryd.prog 95 = none := by kernel_rfl
@[go_sem] theorem ark_95 : ark Tryd.prog 95 = none := by kernel_rfl
@[go_sem] theorem isStr_95 : isStr Tryd.prog 95 = false := by kernel_rfl
@[go_sem] theorem isBool_95 : isBool Tryd.prog 95 = false := by kernel_rfl
@[go_sem] theorem notInt_95 : notInt Tryd.prog 95 = true := by kernel_rfl
@[go_sem] theorem zk_95 : zk Tryd.prog 95 = some [Value.map none] := by kernel_rfl
@[go_sem] theorem arn_95 : arn Tryd.prog 95 = none := by kernel_rfl
@[go_sem] theorem bldk_95 : bldk Tryd.prog 95 = false := by kernel_rfl
@[go_sem] theorem bsl_95 : bsl Tryd.prog 95 = false := by kernel_rfl
@[go_sem] theorem isIf_95 : isIf Tryd.prog 95 = false := by kernel_rfl
@[go_sem] theorem mtk_95 : mtk Tryd.prog 95 = some (KK.s, Value.int IntKind.i64 (Int.ofNat 0)) := by kernel_rfl
@[go_sem] theorem isMp_95 : isMp Tryd.prog 95 = true := by kernel_rfl
@[go_sem] theorem tk_96 : tk Tryd.prog 96 = some (false, 1) := by kernel_rfl
@[go_sem] theorem und_96 : (Tryd.prog.underlying 96).isSome = true := by kernel_rfl
@[go_sem] theorem slk_96 : slk Tryd.prog 96 = none := by kernel_rfl
@[go_sem] theorem ark_96 : ark Tryd.prog 96 = none := by kernel_rfl
@[go_sem] theorem isStr_96 : isStr Tryd.prog 96 = false := by kernel_rfl
@[go_sem] theorem isBool_96 : isBool Tryd.prog 96 = false := by kernel_rfl
@[go_sem] theorem notInt_96 : notInt Tryd.prog 96 = true := by kernel_rfl
@[go_sem] theorem zk_96 : zk Tryd.prog 96 = some [Value.tuple { toList := [Value.agg { toList := [Value.string { data := { toList := [] } }, Value.slice none 0 0, Value.int IntKind.i64 (Int.ofNat 0), Value.int IntKind.i64 (Int.ofNat 0), Value.slice none 0 0] }, Value.bool false] }] := by kernel_rfl
@[go_sem] theorem arn_96 : arn Tryd.prog 96 = none := by kernel_rfl
@[go_sem] theorem bldk_96 : bldk Tryd.prog 96 = false := by kernel_rfl
@[go_sem] theorem bsl_96 : bsl Tryd.prog 96 = false := by kernel_rfl
@[go_sem] theorem isIf_96 : isIf Tryd.prog 96 = false := by kernel_rfl
@[go_sem] theorem tk_102 : tk Tryd.prog 102 = some (false, 1) := by kernel_rfl
@[go_sem] theorem und_102 : (Tryd.prog.underlying 102).isSome = true := by kernel_rfl
@[go_sem] theorem slk_102 : slk Tryd.prog 102 = none := by kernel_rfl
@[go_sem] theorem ark_102 : ark Tryd.prog 102 = none := by kernel_rfl
@[go_sem] theorem isStr_102 : isStr Tryd.prog 102 = false := by kernel_rfl
@[go_sem] theorem isBool_102 : isBool Tryd.prog 102 = false := by kernel_rfl
@[go_sem] theorem notInt_102 : notInt Tryd.prog 102 = true := by kernel_rfl
@[go_sem] theorem zk_102 : zk Tryd.prog 102 = some [Value.nilFunc] := by kernel_rfl
@[go_sem] theorem arn_102 : arn Tryd.prog 102 = none := by kernel_rfl
@[go_sem] theorem bldk_102 : bldk Tryd.prog 102 = false := by kernel_rfl
@[go_sem] theorem bsl_102 : bsl Tryd.prog 102 = false := by kernel_rfl
@[go_sem] theorem isIf_102 : isIf Tryd.prog 102 = false := by kernel_rfl
@[go_sem] theorem tk_104 : tk Tryd.prog 104 = some (false, 1) := by kernel_rfl
@[go_sem] theorem und_104 : (Tryd.prog.underlying 104).isSome = true := by kernel_rfl
@[go_sem] theorem slk_104 : slk Tryd.prog 104 = some (108, 3, 32) := by kernel_rfl
@[go_sem] theorem ark_104 : ark Tryd.prog 104 = none := by kernel_rfl
@[go_sem] theorem isStr_104 : isStr Tryd.prog 104 = false := by kernel_rfl
@[go_sem] theorem isBool_104 : isBool Tryd.prog 104 = false := by kernel_rfl
@[go_sem] theorem notInt_104 : notInt Tryd.prog 104 = true := by kernel_rfl
@[go_sem] theorem zk_104 : zk Tryd.prog 104 = some [Value.slice none 0 0] := by kernel_rfl
@[go_sem] theorem elemZ_104 : elemZ Tryd.prog 104 = some [Value.int IntKind.i64 (Int.ofNat 0), Value.int IntKind.i64 (Int.ofNat 0), Value.string { data := { toList := [] } }] := by kernel_rfl
@[go_sem] theorem arn_104 : arn Tryd.prog 104 = none := by kernel_rfl
@[go_sem] theorem bldk_104 : bldk Tryd.prog 104 = false := by kernel_rfl
@[go_sem] theorem bsl_104 : bsl Tryd.prog 104 = false := by kernel_rfl
@[go_sem] theorem isIf_104 : isIf Tryd.prog 104 = false := by kernel_rfl
@[go_sem] theorem isSl_104 : isSl Tryd.prog 104 = true := by kernel_rfl
@[go_sem] theorem tk_105 : tk Tryd.prog 105 = some (true, 2) := by kernel_rfl
@[go_sem] theorem und_105 : (Tryd.prog.underlying 105).isSome = true := by kernel_rfl
@[go_sem] theorem slk_105 : slk Tryd.prog 105 = none := by kernel_rfl
@[go_sem] theorem ark_105 : ark Tryd.prog 105 = none := by kernel_rfl
@[go_sem] theorem isStr_105 : isStr Tryd.prog 105 = false := by kernel_rfl
@[go_sem] theorem isBool_105 : isBool Tryd.prog 105 = false := by kernel_rfl
@[go_sem] theorem notInt_105 : notInt Tryd.prog 105 = true := by kernel_rfl
@[go_sem] theorem flk_105 : flk Tryd.prog 105 = some [(0, 1), (1, 1)] := by kernel_rfl
@[go_sem] theorem zk_105 : zk Tryd.prog 105 = some [Value.int IntKind.i64 (Int.ofNat 0), Value.slice none 0 0] := by kernel_rfl
@[go_sem] theorem arn_105 : arn Tryd.prog 105 = none := by kernel_rfl
@[go_sem] theorem bldk_105 : bldk Tryd.prog 105 = false := by kernel_rfl
@[go_sem] theorem bsl_105 : bsl Tryd.prog 105 = false := by kernel_rfl
@[go_sem] theorem isIf_105 : isIf Tryd.prog 105 = false := by kernel_rfl
@[go_sem] theorem fdk_105_0 : fdk Tryd.prog 105 0 = some (0, false, 1) := by kernel_rfl
@[go_sem] theorem fdk_105_1 : fdk Tryd.prog 105 1 = some (1, false, 1) := by kernel_rfl
@[go_sem] theorem tk_106 : tk Tryd.prog 106 = some (true, 2) := by kernel_rfl
@[go_sem] theorem und_106 : (Tryd.prog.underlying 106).isSome = true := by kernel_rfl
@[go_sem] theorem slk_106 : slk Tryd.prog 106 = none := by kernel_rfl
@[go_sem] theorem ark_106 : ark Tryd.prog 106 = none := by kernel_rfl
@[go_sem] theorem isStr_106 : isStr Tryd.prog 106 = false := by kernel_rfl
@[go_sem] theorem isBool_106 : isBool Tryd.prog 106 = false := by kernel_rfl
@[go_sem] theorem notInt_106 : notInt Tryd.prog 106 = true := by kernel_rfl
@[go_sem] theorem flk_106 : flk Tryd.prog 106 = some [(0, 1), (1, 1)] := by kernel_rfl
@[go_sem] theorem zk_106 : zk Tryd.prog 106 = some [Value.int IntKind.i64 (Int.ofNat 0), Value.slice none 0 0] := by kernel_rfl
@[go_sem] theorem arn_106 : arn Tryd.prog 106 = none := by kernel_rfl
@[go_sem] theorem bldk_106 : bldk Tryd.prog 106 = false := by kernel_rfl
@[go_sem] theorem bsl_106 : bsl Tryd.prog 106 = false := by kernel_rfl
@[go_sem] theorem isIf_106 : isIf Tryd.prog 106 = false := by kernel_rfl
@[go_sem] theorem fdk_106_0 : fdk Tryd.prog 106 0 = some (0, false, 1) := by kernel_rfl
@[go_sem] theorem fdk_106_1 : fdk Tryd.prog 106 1 = some (1, false, 1) := by kernel_rfl
@[go_sem] theorem tk_108 : tk Tryd.prog 108 = some (true, 3) := by kernel_rfl
@[go_sem] theorem und_108 : (Tryd.prog.underlying 108).isSome = true := by kernel_rfl
@[go_sem] theorem slk_108 : slk Tryd.prog 108 = none := by kernel_rfl
@[go_sem] theorem ark_108 : ark Tryd.prog 108 = none := by kernel_rfl
@[go_sem] theorem isStr_108 : isStr Tryd.prog 108 = false := by kernel_rfl
@[go_sem] theorem isBool_108 : isBool Tryd.prog 108 = false := by kernel_rfl
@[go_sem] theorem notInt_108 : notInt Tryd.prog 108 = true := by kernel_rfl
@[go_sem] theorem flk_108 : flk Tryd.prog 108 = some [(0, 1), (1, 1), (2, 1)] := by kernel_rfl
@[go_sem] theorem zk_108 : zk Tryd.prog 108 = some [Value.int IntKind.i64 (Int.ofNat 0), Value.int IntKind.i64 (Int.ofNat 0), Value.string { data := { toList := [] } }] := by kernel_rfl
@[go_sem] theorem eqk_108 : eqk Tryd.prog 108 = some [CK.i, CK.i, CK.s] := by kernel_rfl
@[go_sem] theorem arn_108 : arn Tryd.prog 108 = none := by kernel_rfl
@[go_sem] theorem bldk_108 : bldk Tryd.prog 108 = false := by kernel_rfl
@[go_sem] theorem bsl_108 : bsl Tryd.prog 108 = false := by kernel_rfl
@[go_sem] theorem isIf_108 : isIf Tryd.prog 108 = false := by kernel_rfl
@[go_sem] theorem fdk_108_0 : fdk Tryd.prog 108 0 = some (0, false, 1) := by kernel_rfl
@[go_sem] theorem fdk_108_1 : fdk Tryd.prog 108 1 = some (1, false, 1) := by kernel_rfl
@[go_sem] theorem fdk_108_2 : fdk Tryd.prog 108 2 = some (2, false, 1) := by kernel_rfl
@[go_sem] theorem tk_111 : tk Tryd.prog 111 = some (false, 1) := by kernel_rfl
@[go_sem] theorem und_111 : (Tryd.prog.underlying 111).isSome = true := by kernel_rfl
@[go_sem] theorem slk_111 : slk Tryd.prog 111 = none := by kernel_rfl
@[go_sem] theorem ark_111 : ark Tryd.prog 111 = none := by kernel_rfl
@[go_sem] theorem isStr_111 : isStr Tryd.prog 111 = false := by kernel_rfl
@[go_sem] theorem isBool_111 : isBool Tryd.prog 111 = false := by kernel_rfl
@[go_sem] theorem notInt_111 : notInt Tryd.prog 111 = true := by kernel_rfl
@[go_sem] theorem zk_111 : zk Tryd.prog 111 = some [Value.nilFunc] := by kernel_rfl
@[go_sem] theorem arn_111 : arn Tryd.prog 111 = none := by kernel_rfl
@[go_sem] theorem bldk_111 : bldk Tryd.prog 111 = false := by kernel_rfl
@[go_sem] theorem bsl_111 : bsl Tryd.prog 111 = false := by kernel_rfl
@[go_sem] theorem isIf_111 : isIf Tryd.prog 111 = false := by kernel_rfl
@[go_sem] theorem tk_113 : tk Tryd.prog 113 = some (false, 1) := by kernel_rfl
@[go_sem] theorem und_113 : (Tryd.prog.underlying 113).isSome = true := by kernel_rfl
@[go_sem] theorem slk_113 : slk Tryd.prog 113 = some (88, 1, 24) := by kernel_rfl
@[go_sem] theorem ark_113 : ark Tryd.prog 113 = none := by kernel_rfl
@[go_sem] theorem isStr_113 : isStr Tryd.prog 113 = false := by kernel_rfl
@[go_sem] theorem isBool_113 : isBool Tryd.prog 113 = false := by kernel_rfl
@[go_sem] theorem notInt_113 : notInt Tryd.prog 113 = true := by kernel_rfl
@[go_sem] theorem zk_113 : zk Tryd.prog 113 = some [Value.slice none 0 0] := by kernel_rfl
@[go_sem] theorem elemZ_113 : elemZ Tryd.prog 113 = some [Value.slice none 0 0] := by kernel_rfl
@[go_sem] theorem arn_113 : arn Tryd.prog 113 = none := by kernel_rfl
@[go_sem] theorem bldk_113 : bldk Tryd.prog 113 = false := by kernel_rfl
@[go_sem] theorem bsl_113 : bsl Tryd.prog 113 = false := by kernel_rfl
@[go_sem] theorem isIf_113 : isIf Tryd.prog 113 = false := by kernel_rfl
@[go_sem] theorem isSl_113 : isSl Tryd.prog 113 = true := by kernel_rfl
@[go_sem] theorem tk_115 : tk Tryd.prog 115 = some (false, 1) := by kernel_rfl
@[go_sem] theorem und_115 : (Tryd.prog.underlying 115).isSome = true := by kernel_rfl
@[go_sem] theorem slk_115 : slk Tryd.prog 115 = none := by kernel_rfl
@[go_sem] theorem ark_115 : ark Tryd.prog 115 = none := by kernel_rfl
@[go_sem] theorem isStr_115 : isStr Tryd.prog 115 = false := by kernel_rfl
@[go_sem] theorem isBool_115 : isBool Tryd.prog 115 = false := by kernel_rfl
@[go_sem] theorem notInt_115 : notInt Tryd.prog 115 = true := by kernel_rfl
@[go_sem] theorem zk_115 : zk Tryd.prog 115 = some [Value.nilFunc] := by kernel_rfl
@[go_sem] theorem arn_115 : arn Tryd.prog 115 = none := by kernel_rfl
@[go_sem] theorem bldk_115 : bldk Tryd.prog 115 = false := by kernel_rfl
@[go_sem] theorem bsl_115 : bsl Tryd.prog 115 = false := by kernel_rfl
@[go_sem] theorem isIf_115 : isIf Tryd.prog 115 = false := by kernel_rfl
@[go_sem] theorem tk_116 : tk Tryd.prog 116 = some (false, 1) := by kernel_rfl
@[go_sem] theorem und_116 : (Tryd.prog.underlying 116).isSome = true := by kernel_rfl
@[go_sem] theorem slk_116 : slk Tryd.prog 116 = none := by kernel_rfl
@[go_sem] theorem ark_116 : ark Tryd.prog 116 = none := by kernel_rfl
@[go_sem] theorem isStr_116 : isStr Tryd.prog 116 = false := by kernel_rfl
@[go_sem] theorem isBool_116 : isBool Tryd.prog 116 = false := by kernel_rfl
@[go_sem] theorem notInt_116 : notInt Tryd.prog 116 = true := by kernel_rfl
@[go_sem] theorem zk_116 : zk Tryd.prog 116 = some [Value.nilFunc] := by kernel_rfl
@[go_sem] theorem arn_116 : arn Tryd.prog 116 = none := by kernel_rfl
@[go_sem] theorem bldk_116 : bldk Tryd.prog 116 = false := by kernel_rfl
@[go_sem] theorem bsl_116 : bsl Tryd.prog 116 = false := by kernel_rfl
@[go_sem] theorem isIf_116 : isIf Tryd.prog 116 = false := by kernel_rfl
@[go_sem] theorem tk_118 : tk Tryd.prog 118 = some (false, 1) := by kernel_rfl
@[go_sem] theorem und_118 : (Tryd.prog.underlying 118).isSome = true := by kernel_rfl
@[go_sem] theorem slk_118 : slk Tryd.prog 118 = none := by kernel_rfl
@[go_sem] theorem ark_118 : ark Tryd.prog 118 = none := by kernel_rfl
@[go_sem] theorem isStr_118 : isStr Tryd.prog 118 = false := by kernel_rfl
@[go_sem] theorem isBool_118 : isBool Tryd.prog 118 = false := by kernel_rfl
@[go_sem] theorem notInt_118 : notInt Tryd.prog 118 = true := by kernel_rfl
@[go_sem] theorem zk_118 : zk Tryd.prog 118 = some [Value.nilFunc] := by kernel_rfl
@[go_sem] theorem arn_118 : arn Tryd.prog 118 = none := by kernel_rfl
@[go_sem] theorem bldk_118 : bldk Tryd.prog 118 = false := by kernel_rfl
@[go_sem] theorem bsl_118 : bsl Tryd.prog 118 = false := by kernel_rfl
@[go_sem] theorem isIf_118 : isIf Tryd.prog 118 = false := by kernel_rfl
@[go_sem] theorem tk_124 : tk Tryd.prog 124 = some (false, 1) := by kernel_rfl
@[go_sem] theorem und_124 : (Tryd.prog.underlying 124).isSome = true := by kernel_rfl
@[go_sem] theorem slk_124 : slk Tryd.prog 124 = none := by kernel_rfl
@[go_sem] theorem ark_124 : ark Tryd.prog 124 = none := by kernel_rfl
@[go_sem] theorem isStr_124 : isStr Tryd.prog 124 = false := by kernel_rfl
@[go_sem] theorem isBool_124 : isBool Tryd.prog 124 = false := by kernel_rfl
@[go_sem] theorem notInt_124 : notInt Tryd.prog 124 = true := by kernel_rfl
@[go_sem] theorem zk_124 : zk Tryd.prog 124 = some [Value.nilFunc] := by kernel_rfl
@[go_sem] theorem arn_124 : arn Tryd.prog 124 = none := by kernel_rfl
@[go_sem] theorem bldk_124 : bldk Tryd.prog 124 = false := by kernel_rfl
@[go_sem] theorem bsl_124 : bsl Tryd.prog 124 = false := by kernel_rfl
@[go_sem] theorem isIf_124 : isIf Tryd.prog 124 = false := by kernel_rfl
@[go_sem] theorem tk_129 : tk Tryd.prog 129 = some (false, 1) := by kernel_rfl
@[go_sem] theorem und_129 : (Tryd.prog.underlying 129).isSome = true := by kernel_rfl
@[go_sem] theorem slk_129 : slk Tryd.prog 129 = none := by kernel_rfl
@[go_sem] theorem ark_129 : ark Tryd.prog 129 = none := by kernel_rfl
@[go_sem] theorem isStr_129 : isStr Tryd.prog 129 = false := by kernel_rfl
@[go_sem] theorem isBool_129 : isBool Tryd.prog 129 = false := by kernel_rfl
@[go_sem] theorem ik_129 : ik Tryd.prog 129 = some IntKind.u64 := by kernel_rfl
@[go_sem] theorem notInt_129 : notInt Tryd.prog 129 = false := by kernel_rfl
@[go_sem] theorem zk_129 : zk Tryd.prog 129 = some [Value.int IntKind.u64 (Int.ofNat 0)] := by kernel_rfl
@[go_sem] theorem arn_129 : arn Tryd.prog 129 = none := by kernel_rfl
@[go_sem] theorem bldk_129 : bldk Tryd.prog 129 = false := by kernel_rfl
@[go_sem] theorem bsl_129 : bsl Tryd.prog 129 = false := by kernel_rfl
@[go_sem] theorem isIf_129 : isIf Tryd.prog 129 = false := by kernel_rfl
@[go_sem] theorem tk_133 : tk Tryd.prog 133 = some (false, 1) := by kernel_rfl
@[go_sem] theorem und_133 : (Tryd.prog.underlying 133).isSome = true := by kernel_rfl
@[go_sem] theorem slk_133 : slk Tryd.prog 133 = none := by kernel_rfl
@[go_sem] theorem ark_133 : ark Tryd.prog 133 = none := by kernel_rfl
@[go_sem] theorem isStr_133 : isStr Tryd.prog 133 = false := by kernel_rfl
@[go_sem] theorem isBool_133 : isBool Tryd.prog 133 = false := by kernel_rfl
@[go_sem] theorem notInt_133 : notInt Tryd.prog 133 = true := by kernel_rfl
@[go_sem] theorem zk_133 : zk Tryd.prog 133 = some [Value.nilFunc] := by kernel_rfl
@[go_sem] theorem arn_133 : arn Tryd.prog 133 = none := by kernel_rfl
@[go_sem] theorem bldk_133 : bldk Tryd.prog 133 = false := by kernel_rfl
@[go_sem] theorem bsl_133 : bsl Tryd.prog 133 = false := by kernel_rfl
@[go_sem] theorem isIf_133 : isIf Tryd.prog 133 = false := by kernel_rfl
end Go.Proofs.YtblfodnajpamfaaDoor
