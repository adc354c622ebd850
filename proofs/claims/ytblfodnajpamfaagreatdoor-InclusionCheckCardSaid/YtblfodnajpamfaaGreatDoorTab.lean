/- What the tables of this program say of its types. -/
import Derived.Test.YtblfodnajpamfaaGreatDoorZ3
import Derived.Test.YtblfodnajpamfaaGreatDoorProg
import Derived.KernelRfl
namespace Go.Proofs.YtblfodnajpamfaaGreatDoor
open Go Go.Ab
@[go_sem] theorem tk_0 : tk Tryz.prog 0 = some (false, 1) := by kernel_rfl
@[go_sem] theorem und_0 : (Tryz.prog.underlying 0).isSome = true := by kernel_rfl
@[go_sem] theorem slk_0 : slk Tryz.prog 0 = none := by kernel_rfl
@[go_sem] theorem ark_0 : ark Tryz.prog 0 = none := by kernel_rfl
@[go_sem] theorem isStr_0 : isStr Tryz.prog 0 = false := by kernel_rfl
@[go_sem] theorem isBool_0 : isBool Tryz.prog 0 = false := by kernel_rfl
@[go_sem] theorem notInt_0 : notInt Tryz.prog 0 = true := by kernel_rfl
@[go_sem] theorem zk_0 : zk Tryz.prog 0 = some [Value.tuple { toList := [] }] := by kernel_rfl
@[go_sem] theorem arn_0 : arn Tryz.prog 0 = none := by kernel_rfl
@[go_sem] theorem bldk_0 : bldk Tryz.prog 0 = false := by kernel_rfl
@[go_sem] theorem bsl_0 : bsl Tryz.prog 0 = false := by kernel_rfl
@[go_sem] theorem isIf_0 : isIf Tryz.prog 0 = false := by kernel_rfl
@[go_sem] theorem tk_1 : tk Tryz.prog 1 = some (false, 1) := by kernel_rfl
@[go_sem] theorem und_1 : (Tryz.prog.underlying 1).isSome = true := by kernel_rfl
@[go_sem] theorem slk_1 : slk Tryz.prog 1 = none := by kernel_rfl
@[go_sem] theorem ark_1 : ark Tryz.prog 1 = none := by kernel_rfl
@[go_sem] theorem isStr_1 : isStr Tryz.prog 1 = false := by kernel_rfl
@[go_sem] theorem isBool_1 : isBool Tryz.prog 1 = false := by kernel_rfl
@[go_sem] theorem notInt_1 : notInt Tryz.prog 1 = true := by kernel_rfl
@[go_sem] theorem zk_1 : zk Tryz.prog 1 = some [Value.nilFunc] := by kernel_rfl
@[go_sem] theorem arn_1 : arn Tryz.prog 1 = none := by kernel_rfl
@[go_sem] theorem bldk_1 : bldk Tryz.prog 1 = false := by kernel_rfl
@[go_sem] theorem bsl_1 : bsl Tryz.prog 1 = false := by kernel_rfl
@[go_sem] theorem isIf_1 : isIf Tryz.prog 1 = false := by kernel_rfl
@[go_sem] theorem tk_2 : tk Tryz.prog 2 = some (false, 1) := by kernel_rfl
@[go_sem] theorem und_2 : (Tryz.prog.underlying 2).isSome = true := by kernel_rfl
@[go_sem] theorem slk_2 : slk Tryz.prog 2 = none := by kernel_rfl
@[go_sem] theorem ark_2 : ark Tryz.prog 2 = none := by kernel_rfl
@[go_sem] theorem isStr_2 : isStr Tryz.prog 2 = false := by kernel_rfl
@[go_sem] theorem isBool_2 : isBool Tryz.prog 2 = false := by kernel_rfl
@[go_sem] theorem ik_2 : ik Tryz.prog 2 = some IntKind.i64 := by kernel_rfl
@[go_sem] theorem notInt_2 : notInt Tryz.prog 2 = false := by kernel_rfl
@[go_sem] theorem zk_2 : zk Tryz.prog 2 = some [Value.int IntKind.i64 (Int.ofNat 0)] := by kernel_rfl
@[go_sem] theorem arn_2 : arn Tryz.prog 2 = none := by kernel_rfl
@[go_sem] theorem bldk_2 : bldk Tryz.prog 2 = false := by kernel_rfl
@[go_sem] theorem bsl_2 : bsl Tryz.prog 2 = false := by kernel_rfl
@[go_sem] theorem isIf_2 : isIf Tryz.prog 2 = false := by kernel_rfl
@[go_sem] theorem tk_3 : tk Tryz.prog 3 = some (false, 1) := by kernel_rfl
@[go_sem] theorem und_3 : (Tryz.prog.underlying 3).isSome = true := by kernel_rfl
@[go_sem] theorem slk_3 : slk Tryz.prog 3 = none := by kernel_rfl
@[go_sem] theorem ark_3 : ark Tryz.prog 3 = none := by kernel_rfl
@[go_sem] theorem isStr_3 : isStr Tryz.prog 3 = false := by kernel_rfl
@[go_sem] theorem isBool_3 : isBool Tryz.prog 3 = false := by kernel_rfl
@[go_sem] theorem ik_3 : ik Tryz.prog 3 = some IntKind.i64 := by kernel_rfl
@[go_sem] theorem notInt_3 : notInt Tryz.prog 3 = false := by kernel_rfl
@[go_sem] theorem zk_3 : zk Tryz.prog 3 = some [Value.int IntKind.i64 (Int.ofNat 0)] := by kernel_rfl
@[go_sem] theorem arn_3 : arn Tryz.prog 3 = none := by kernel_rfl
@[go_sem] theorem bldk_3 : bldk Tryz.prog 3 = false := by kernel_rfl
@[go_sem] theorem bsl_3 : bsl Tryz.prog 3 = false := by kernel_rfl
@[go_sem] theorem isIf_3 : isIf Tryz.prog 3 = false := by kernel_rfl
@[go_sem] theorem tk_4 : tk Tryz.prog 4 = some (false, 1) := by kernel_rfl
@[go_sem] theorem und_4 : (Tryz.prog.underlying 4).isSome = true := by kernel_rfl
@[go_sem] theorem slk_4 : slk Tryz.prog 4 = none := by kernel_rfl
@[go_sem] theorem ark_4 : ark Tryz.prog 4 = none := by kernel_rfl
@[go_sem] theorem isStr_4 : isStr Tryz.prog 4 = false := by kernel_rfl
@[go_sem] theorem isBool_4 : isBool Tryz.prog 4 = true := by kernel_rfl
@[go_sem] theorem notInt_4 : notInt Tryz.prog 4 = true := by kernel_rfl
@[go_sem] theorem zk_4 : zk Tryz.prog 4 = some [Value.bool false] := by kernel_rfl
@[go_sem] theorem arn_4 : arn Tryz.prog 4 = none := by kernel_rfl
@[go_sem] theorem bldk_4 : bldk Tryz.prog 4 = false := by kernel_rfl
@[go_sem] theorem bsl_4 : bsl Tryz.prog 4 = false := by kernel_rfl
@[go_sem] theorem isIf_4 : isIf Tryz.prog 4 = false := by kernel_rfl
@[go_sem] theorem tk_5 : tk Tryz.prog 5 = some (false, 1) := by kernel_rfl
@[go_sem] theorem und_5 : (Tryz.prog.underlying 5).isSome = true := by kernel_rfl
@[go_sem] theorem slk_5 : slk Tryz.prog 5 = none := by kernel_rfl
@[go_sem] theorem ark_5 : ark Tryz.prog 5 = none := by kernel_rfl
@[go_sem] theorem isStr_5 : isStr Tryz.prog 5 = false := by kernel_rfl
@[go_sem] theorem isBool_5 : isBool Tryz.prog 5 = false := by kernel_rfl
@[go_sem] theorem ik_5 : ik Tryz.prog 5 = some IntKind.u8 := by kernel_rfl
@[go_sem] theorem notInt_5 : notInt Tryz.prog 5 = false := by kernel_rfl
@[go_sem] theorem zk_5 : zk Tryz.prog 5 = some [Value.int IntKind.u8 (Int.ofNat 0)] := by kernel_rfl
@[go_sem] theorem arn_5 : arn Tryz.prog 5 = none := by kernel_rfl
@[go_sem] theorem bldk_5 : bldk Tryz.prog 5 = false := by kernel_rfl
@[go_sem] theorem bsl_5 : bsl Tryz.prog 5 = false := by kernel_rfl
@[go_sem] theorem isIf_5 : isIf Tryz.prog 5 = false := by kernel_rfl
@[go_sem] theorem tk_6 : tk Tryz.prog 6 = some (false, 1) := by kernel_rfl
@[go_sem] theorem und_6 : (Tryz.prog.underlying 6).isSome = true := by kernel_rfl
@[go_sem] theorem slk_6 : slk Tryz.prog 6 = none := by kernel_rfl
@[go_sem] theorem ark_6 : ark Tryz.prog 6 = none := by kernel_rfl
@[go_sem] theorem isStr_6 : isStr Tryz.prog 6 = false := by kernel_rfl
@[go_sem] theorem isBool_6 : isBool Tryz.prog 6 = false := by kernel_rfl
@[go_sem] theorem ik_6 : ik Tryz.prog 6 = some IntKind.u8 := by kernel_rfl
@[go_sem] theorem notInt_6 : notInt Tryz.prog 6 = false := by kernel_rfl
@[go_sem] theorem zk_6 : zk Tryz.prog 6 = some [Value.int IntKind.u8 (Int.ofNat 0)] := by kernel_rfl
@[go_sem] theorem arn_6 : arn Tryz.prog 6 = none := by kernel_rfl
@[go_sem] theorem bldk_6 : bldk Tryz.prog 6 = false := by kernel_rfl
@[go_sem] theorem bsl_6 : bsl Tryz.prog 6 = false := by kernel_rfl
@[go_sem] theorem isIf_6 : isIf Tryz.prog 6 = false := by kernel_rfl
@[go_sem] theorem tk_7 : tk Tryz.prog 7 = some (true, 4) := by kernel_rfl
@[go_sem] theorem und_7 : (Tryz.prog.underlying 7).isSome = true := by kernel_rfl
@[go_sem] theorem slk_7 : slk Tryz.prog 7 = none := by kernel_rfl
@[go_sem] theorem ark_7 : ark Tryz.prog 7 = none := by kernel_rfl
@[go_sem] theorem isStr_7 : isStr Tryz.prog 7 = false := by kernel_rfl
@[go_sem] theorem isBool_7 : isBool Tryz.prog 7 = false := by kernel_rfl
@[go_sem] theorem notInt_7 : notInt Tryz.prog 7 = true := by kernel_rfl
@[go_sem] theorem flk_7 : flk Tryz.prog 7 = some [(0, 1), (1, 1), (2, 1), (3, 1)] := by kernel_rfl
@[go_sem] theorem zk_7 : zk Tryz.prog 7 = some [Value.int IntKind.i64 (Int.ofNat 0), Value.int IntKind.i64 (Int.ofNat 0), Value.bool false, Value.int IntKind.u8 (Int.ofNat 0)] := by kernel_rfl
@[go_sem] theorem eqk_7 : eqk Tryz.prog 7 = some [CK.i, CK.i, CK.b, CK.i] := by kernel_rfl
@[go_sem] theorem arn_7 : arn Tryz.prog 7 = none := by kernel_rfl
@[go_sem] theorem bldk_7 : bldk Tryz.prog 7 = false := by kernel_rfl
@[go_sem] theorem bsl_7 : bsl Tryz.prog 7 = false := by kernel_rfl
@[go_sem] theorem isIf_7 : isIf Tryz.prog 7 = false := by kernel_rfl
@[go_sem] theorem fdk_7_0 : fdk Tryz.prog 7 0 = some (0, false, 1) := by kernel_rfl
@[go_sem] theorem fdk_7_1 : fdk Tryz.prog 7 1 = some (1, false, 1) := by kernel_rfl
@[go_sem] theorem fdk_7_2 : fdk Tryz.prog 7 2 = some (2, false, 1) := by kernel_rfl
@[go_sem] theorem fdk_7_3 : fdk Tryz.prog 7 3 = some (3, false, 1) := by kernel_rfl
@[go_sem] theorem tk_8 : tk Tryz.prog 8 = some (true, 4) := by kernel_rfl
@[go_sem] theorem und_8 : (Tryz.prog.underlying 8).isSome = true := by kernel_rfl
@[go_sem] theorem slk_8 : slk Tryz.prog 8 = none := by kernel_rfl
@[go_sem] theorem ark_8 : ark Tryz.prog 8 = none := by kernel_rfl
@[go_sem] theorem isStr_8 : isStr Tryz.prog 8 = false := by kernel_rfl
@[go_sem] theorem isBool_8 : isBool Tryz.prog 8 = false := by kernel_rfl
@[go_sem] theorem notInt_8 : notInt Tryz.prog 8 = true := by kernel_rfl
@[go_sem] theorem flk_8 : flk Tryz.prog 8 = some [(0, 1), (1, 1), (2, 1), (3, 1)] := by kernel_rfl
@[go_sem] theorem zk_8 : zk Tryz.prog 8 = some [Value.int IntKind.i64 (Int.ofNat 0), Value.int IntKind.i64 (Int.ofNat 0), Value.bool false, Value.int IntKind.u8 (Int.ofNat 0)] := by kernel_rfl
@[go_sem] theorem eqk_8 : eqk Tryz.prog 8 = some [CK.i, CK.i, CK.b, CK.i] := by kernel_rfl
@[go_sem] theorem arn_8 : arn Tryz.prog 8 = none := by kernel_rfl
@[go_sem] theorem bldk_8 : bldk Tryz.prog 8 = false := by kernel_rfl
@[go_sem] theorem bsl_8 : bsl Tryz.prog 8 = false := by kernel_rfl
@[go_sem] theorem isIf_8 : isIf Tryz.prog 8 = false := by kernel_rfl
@[go_sem] theorem fdk_8_0 : fdk Tryz.prog 8 0 = some (0, false, 1) := by kernel_rfl
@[go_sem] theorem fdk_8_1 : fdk Tryz.prog 8 1 = some (1, false, 1) := by kernel_rfl
@[go_sem] theorem fdk_8_2 : fdk Tryz.prog 8 2 = some (2, false, 1) := by kernel_rfl
@[go_sem] theorem fdk_8_3 : fdk Tryz.prog 8 3 = some (3, false, 1) := by kernel_rfl
@[go_sem] theorem tk_9 : tk Tryz.prog 9 = some (false, 1) := by kernel_rfl
@[go_sem] theorem und_9 : (Tryz.prog.underlying 9).isSome = true := by kernel_rfl
@[go_sem] theorem slk_9 : slk Tryz.prog 9 = none := by kernel_rfl
@[go_sem] theorem ark_9 : ark Tryz.prog 9 = none := by kernel_rfl
@[go_sem] theorem isStr_9 : isStr Tryz.prog 9 = true := by kernel_rfl
@[go_sem] theorem isBool_9 : isBool Tryz.prog 9 = false := by kernel_rfl
@[go_sem] theorem notInt_9 : notInt Tryz.prog 9 = true := by kernel_rfl
@[go_sem] theorem zk_9 : zk Tryz.prog 9 = some [Value.string { data := { toList := [] } }] := by kernel_rfl
@[go_sem] theorem arn_9 : arn Tryz.prog 9 = none := by kernel_rfl
@[go_sem] theorem bldk_9 : bldk Tryz.prog 9 = false := by kernel_rfl
@[go_sem] theorem bsl_9 : bsl Tryz.prog 9 = false := by kernel_rfl
@[go_sem] theorem isIf_9 : isIf Tryz.prog 9 = false := by kernel_rfl
@[go_sem] theorem tk_10 : tk Tryz.prog 10 = some (false, 1) := by kernel_rfl
@[go_sem] theorem und_10 : (Tryz.prog.underlying 10).isSome = true := by kernel_rfl
@[go_sem] theorem slk_10 : slk Tryz.prog 10 = none := by kernel_rfl
@[go_sem] theorem ark_10 : ark Tryz.prog 10 = none := by kernel_rfl
@[go_sem] theorem isStr_10 : isStr Tryz.prog 10 = true := by kernel_rfl
@[go_sem] theorem isBool_10 : isBool Tryz.prog 10 = false := by kernel_rfl
@[go_sem] theorem notInt_10 : notInt Tryz.prog 10 = true := by kernel_rfl
@[go_sem] theorem zk_10 : zk Tryz.prog 10 = some [Value.string { data := { toList := [] } }] := by kernel_rfl
@[go_sem] theorem arn_10 : arn Tryz.prog 10 = none := by kernel_rfl
@[go_sem] theorem bldk_10 : bldk Tryz.prog 10 = false := by kernel_rfl
@[go_sem] theorem bsl_10 : bsl Tryz.prog 10 = false := by kernel_rfl
@[go_sem] theorem isIf_10 : isIf Tryz.prog 10 = false := by kernel_rfl
@[go_sem] theorem tk_11 : tk Tryz.prog 11 = some (false, 1) := by kernel_rfl
@[go_sem] theorem und_11 : (Tryz.prog.underlying 11).isSome = true := by kernel_rfl
@[go_sem] theorem slk_11 : slk Tryz.prog 11 = none := by kernel_rfl
@[go_sem] theorem ark_11 : ark Tryz.prog 11 = none := by kernel_rfl
@[go_sem] theorem isStr_11 : isStr Tryz.prog 11 = true := by kernel_rfl
@[go_sem] theorem isBool_11 : isBool Tryz.prog 11 = false := by kernel_rfl
@[go_sem] theorem notInt_11 : notInt Tryz.prog 11 = true := by kernel_rfl
@[go_sem] theorem zk_11 : zk Tryz.prog 11 = some [Value.string { data := { toList := [] } }] := by kernel_rfl
@[go_sem] theorem arn_11 : arn Tryz.prog 11 = none := by kernel_rfl
@[go_sem] theorem bldk_11 : bldk Tryz.prog 11 = false := by kernel_rfl
@[go_sem] theorem bsl_11 : bsl Tryz.prog 11 = false := by kernel_rfl
@[go_sem] theorem isIf_11 : isIf Tryz.prog 11 = false := by kernel_rfl
@[go_sem] theorem tk_12 : tk Tryz.prog 12 = some (false, 1) := by kernel_rfl
@[go_sem] theorem und_12 : (Tryz.prog.underlying 12).isSome = true := by kernel_rfl
@[go_sem] theorem slk_12 : slk Tryz.prog 12 = none := by kernel_rfl
@[go_sem] theorem ark_12 : ark Tryz.prog 12 = none := by kernel_rfl
@[go_sem] theorem isStr_12 : isStr Tryz.prog 12 = false := by kernel_rfl
@[go_sem] theorem isBool_12 : isBool Tryz.prog 12 = false := by kernel_rfl
@[go_sem] theorem ik_12 : ik Tryz.prog 12 = some IntKind.u64 := by kernel_rfl
@[go_sem] theorem notInt_12 : notInt Tryz.prog 12 = false := by kernel_rfl
@[go_sem] theorem zk_12 : zk Tryz.prog 12 = some [Value.int IntKind.u64 (Int.ofNat 0)] := by kernel_rfl
@[go_sem] theorem arn_12 : arn Tryz.prog 12 = none := by kernel_rfl
@[go_sem] theorem bldk_12 : bldk Tryz.prog 12 = false := by kernel_rfl
@[go_sem] theorem bsl_12 : bsl Tryz.prog 12 = false := by kernel_rfl
@[go_sem] theorem isIf_12 : isIf Tryz.prog 12 = false := by kernel_rfl
@[go_sem] theorem tk_13 : tk Tryz.prog 13 = some (true, 2) := by kernel_rfl
@[go_sem] theorem und_13 : (Tryz.prog.underlying 13).isSome = true := by kernel_rfl
@[go_sem] theorem slk_13 : slk Tryz.prog 13 = none := by kernel_rfl
@[go_sem] theorem ark_13 : ark Tryz.prog 13 = none := by kernel_rfl
@[go_sem] theorem isStr_13 : isStr Tryz.prog 13 = false := by kernel_rfl
@[go_sem] theorem isBool_13 : isBool Tryz.prog 13 = false := by kernel_rfl
@[go_sem] theorem notInt_13 : notInt Tryz.prog 13 = true := by kernel_rfl
@[go_sem] theorem flk_13 : flk Tryz.prog 13 = some [(0, 1), (1, 1)] := by kernel_rfl
@[go_sem] theorem zk_13 : zk Tryz.prog 13 = some [Value.string { data := { toList := [] } }, Value.int IntKind.u64 (Int.ofNat 0)] := by kernel_rfl
@[go_sem] theorem arn_13 : arn Tryz.prog 13 = none := by kernel_rfl
@[go_sem] theorem bldk_13 : bldk Tryz.prog 13 = false := by kernel_rfl
@[go_sem] theorem bsl_13 : bsl Tryz.prog 13 = false := by kernel_rfl
@[go_sem] theorem isIf_13 : isIf Tryz.prog 13 = false := by kernel_rfl
@[go_sem] theorem fdk_13_0 : fdk Tryz.prog 13 0 = some (0, false, 1) := by kernel_rfl
@[go_sem] theorem fdk_13_1 : fdk Tryz.prog 13 1 = some (1, false, 1) := by kernel_rfl
@[go_sem] theorem tk_14 : tk Tryz.prog 14 = some (true, 2) := by kernel_rfl
@[go_sem] theorem und_14 : (Tryz.prog.underlying 14).isSome = true := by kernel_rfl
@[go_sem] theorem slk_14 : slk Tryz.prog 14 = none := by kernel_rfl
@[go_sem] theorem ark_14 : ark Tryz.prog 14 = none := by kernel_rfl
@[go_sem] theorem isStr_14 : isStr Tryz.prog 14 = false := by kernel_rfl
@[go_sem] theorem isBool_14 : isBool Tryz.prog 14 = false := by kernel_rfl
@[go_sem] theorem notInt_14 : notInt Tryz.prog 14 = true := by kernel_rfl
@[go_sem] theorem flk_14 : flk Tryz.prog 14 = some [(0, 1), (1, 1)] := by kernel_rfl
@[go_sem] theorem zk_14 : zk Tryz.prog 14 = some [Value.string { data := { toList := [] } }, Value.int IntKind.u64 (Int.ofNat 0)] := by kernel_rfl
@[go_sem] theorem arn_14 : arn Tryz.prog 14 = none := by kernel_rfl
@[go_sem] theorem bldk_14 : bldk Tryz.prog 14 = false := by kernel_rfl
@[go_sem] theorem bsl_14 : bsl Tryz.prog 14 = false := by kernel_rfl
@[go_sem] theorem isIf_14 : isIf Tryz.prog 14 = false := by kernel_rfl
@[go_sem] theorem fdk_14_0 : fdk Tryz.prog 14 0 = some (0, false, 1) := by kernel_rfl
@[go_sem] theorem fdk_14_1 : fdk Tryz.prog 14 1 = some (1, false, 1) := by kernel_rfl
@[go_sem] theorem tk_15 : tk Tryz.prog 15 = some (false, 1) := by kernel_rfl
@[go_sem] theorem und_15 : (Tryz.prog.underlying 15).isSome = true := by kernel_rfl
@[go_sem] theorem slk_15 : slk Tryz.prog 15 = none := by kernel_rfl
@[go_sem] theorem ark_15 : ark Tryz.prog 15 = none := by kernel_rfl
@[go_sem] theorem isStr_15 : isStr Tryz.prog 15 = false := by kernel_rfl
@[go_sem] theorem isBool_15 : isBool Tryz.prog 15 = false := by kernel_rfl
@[go_sem] theorem notInt_15 : notInt Tryz.prog 15 = true := by kernel_rfl
@[go_sem] theorem zk_15 : zk Tryz.prog 15 = some [Value.pointer none] := by kernel_rfl
@[go_sem] theorem arn_15 : arn Tryz.prog 15 = none := by kernel_rfl
@[go_sem] theorem bldk_15 : bldk Tryz.prog 15 = false := by kernel_rfl
@[go_sem] theorem bsl_15 : bsl Tryz.prog 15 = false := by kernel_rfl
@[go_sem] theorem isIf_15 : isIf Tryz.prog 15 = false := by kernel_rfl
@[go_sem] theorem tk_16 : tk Tryz.prog 16 = some (false, 1) := by kernel_rfl
@[go_sem] theorem und_16 : (Tryz.prog.underlying 16).isSome = true := by kernel_rfl
@[go_sem] theorem slk_16 : slk Tryz.prog 16 = none := by kernel_rfl
@[go_sem] theorem ark_16 : ark Tryz.prog 16 = none := by kernel_rfl
@[go_sem] theorem isStr_16 : isStr Tryz.prog 16 = false := by kernel_rfl
@[go_sem] theorem isBool_16 : isBool Tryz.prog 16 = false := by kernel_rfl
@[go_sem] theorem notInt_16 : notInt Tryz.prog 16 = true := by kernel_rfl
@[go_sem] theorem zk_16 : zk Tryz.prog 16 = some [Value.pointer none] := by kernel_rfl
@[go_sem] theorem arn_16 : arn Tryz.prog 16 = none := by kernel_rfl
@[go_sem] theorem bldk_16 : bldk Tryz.prog 16 = false := by kernel_rfl
@[go_sem] theorem bsl_16 : bsl Tryz.prog 16 = false := by kernel_rfl
@[go_sem] theorem isIf_16 : isIf Tryz.prog 16 = false := by kernel_rfl
@[go_sem] theorem tk_17 : tk Tryz.prog 17 = some (false, 1) := by kernel_rfl
@[go_sem] theorem und_17 : (Tryz.prog.underlying 17).isSome = true := by kernel_rfl
@[go_sem] theorem slk_17 : slk Tryz.prog 17 = none := by kernel_rfl
@[go_sem] theorem ark_17 : ark Tryz.prog 17 = none := by kernel_rfl
@[go_sem] theorem isStr_17 : isStr Tryz.prog 17 = false := by kernel_rfl
@[go_sem] theorem isBool_17 : isBool Tryz.prog 17 = false := by kernel_rfl
@[go_sem] theorem notInt_17 : notInt Tryz.prog 17 = true := by kernel_rfl
@[go_sem] theorem zk_17 : zk Tryz.prog 17 = some [Value.pointer none] := by kernel_rfl
@[go_sem] theorem arn_17 : arn Tryz.prog 17 = none := by kernel_rfl
@[go_sem] theorem bldk_17 : bldk Tryz.prog 17 = false := by kernel_rfl
@[go_sem] theorem bsl_17 : bsl Tryz.prog 17 = false := by kernel_rfl
@[go_sem] theorem isIf_17 : isIf Tryz.prog 17 = false := by kernel_rfl
@[go_sem] theorem tk_18 : tk Tryz.prog 18 = some (true, 1) := by kernel_rfl
@[go_sem] theorem und_18 : (Tryz.prog.underlying 18).isSome = true := by kernel_rfl
@[go_sem] theorem slk_18 : slk Tryz.prog 18 = none := by kernel_rfl
@[go_sem] theorem ark_18 : ark Tryz.prog 18 = none := by kernel_rfl
@[go_sem] theorem isStr_18 : isStr Tryz.prog 18 = false := by kernel_rfl
@[go_sem] theorem isBool_18 : isBool Tryz.prog 18 = false := by kernel_rfl
@[go_sem] theorem notInt_18 : notInt Tryz.prog 18 = true := by kernel_rfl
@[go_sem] theorem flk_18 : flk Tryz.prog 18 = some [(0, 1)] := by kernel_rfl
@[go_sem] theorem zk_18 : zk Tryz.prog 18 = some [Value.pointer none] := by kernel_rfl
@[go_sem] theorem arn_18 : arn Tryz.prog 18 = none := by kernel_rfl
@[go_sem] theorem bldk_18 : bldk Tryz.prog 18 = false := by kernel_rfl
@[go_sem] theorem bsl_18 : bsl Tryz.prog 18 = false := by kernel_rfl
@[go_sem] theorem isIf_18 : isIf Tryz.prog 18 = false := by kernel_rfl
@[go_sem] theorem fdk_18_0 : fdk Tryz.prog 18 0 = some (0, false, 1) := by kernel_rfl
@[go_sem] theorem tk_19 : tk Tryz.prog 19 = some (true, 1) := by kernel_rfl
@[go_sem] theorem und_19 : (Tryz.prog.underlying 19).isSome = true := by kernel_rfl
@[go_sem] theorem slk_19 : slk Tryz.prog 19 = none := by kernel_rfl
@[go_sem] theorem ark_19 : ark Tryz.prog 19 = none := by kernel_rfl
@[go_sem] theorem isStr_19 : isStr Tryz.prog 19 = false := by kernel_rfl
@[go_sem] theorem isBool_19 : isBool Tryz.prog 19 = false := by kernel_rfl
@[go_sem] theorem notInt_19 : notInt Tryz.prog 19 = true := by kernel_rfl
@[go_sem] theorem flk_19 : flk Tryz.prog 19 = some [(0, 1)] := by kernel_rfl
@[go_sem] theorem zk_19 : zk Tryz.prog 19 = some [Value.pointer none] := by kernel_rfl
@[go_sem] theorem arn_19 : arn Tryz.prog 19 = none := by kernel_rfl
@[go_sem] theorem bldk_19 : bldk Tryz.prog 19 = false := by kernel_rfl
@[go_sem] theorem bsl_19 : bsl Tryz.prog 19 = false := by kernel_rfl
@[go_sem] theorem isIf_19 : isIf Tryz.prog 19 = false := by kernel_rfl
@[go_sem] theorem fdk_19_0 : fdk Tryz.prog 19 0 = some (0, false, 1) := by kernel_rfl
@[go_sem] theorem tk_20 : tk Tryz.prog 20 = some (false, 1) := by kernel_rfl
@[go_sem] theorem und_20 : (Tryz.prog.underlying 20).isSome = true := by kernel_rfl
@[go_sem] theorem slk_20 : slk Tryz.prog 20 = none := by kernel_rfl
@[go_sem] theorem ark_20 : ark Tryz.prog 20 = none := by kernel_rfl
@[go_sem] theorem isStr_20 : isStr Tryz.prog 20 = false := by kernel_rfl
@[go_sem] theorem isBool_20 : isBool Tryz.prog 20 = false := by kernel_rfl
@[go_sem] theorem notInt_20 : notInt Tryz.prog 20 = true := by kernel_rfl
@[go_sem] theorem zk_20 : zk Tryz.prog 20 = some [Value.nilIface] := by kernel_rfl
@[go_sem] theorem arn_20 : arn Tryz.prog 20 = none := by kernel_rfl
@[go_sem] theorem bldk_20 : bldk Tryz.prog 20 = false := by kernel_rfl
@[go_sem] theorem bsl_20 : bsl Tryz.prog 20 = false := by kernel_rfl
@[go_sem] theorem isIf_20 : isIf Tryz.prog 20 = true := by kernel_rfl
@[go_sem] theorem tk_21 : tk Tryz.prog 21 = some (false, 1) := by kernel_rfl
@[go_sem] theorem und_21 : (Tryz.prog.underlying 21).isSome = true := by kernel_rfl
@[go_sem] theorem slk_21 : slk Tryz.prog 21 = none := by kernel_rfl
@[go_sem] theorem ark_21 : ark Tryz.prog 21 = none := by kernel_rfl
@[go_sem] theorem isStr_21 : isStr Tryz.prog 21 = false := by kernel_rfl
@[go_sem] theorem isBool_21 : isBool Tryz.prog 21 = false := by kernel_rfl
@[go_sem] theorem ik_21 : ik Tryz.prog 21 = some IntKind.i32 := by kernel_rfl
@[go_sem] theorem notInt_21 : notInt Tryz.prog 21 = false := by kernel_rfl
@[go_sem] theorem zk_21 : zk Tryz.prog 21 = some [Value.int IntKind.i32 (Int.ofNat 0)] := by kernel_rfl
@[go_sem] theorem arn_21 : arn Tryz.prog 21 = none := by kernel_rfl
@[go_sem] theorem bldk_21 : bldk Tryz.prog 21 = false := by kernel_rfl
@[go_sem] theorem bsl_21 : bsl Tryz.prog 21 = false := by kernel_rfl
@[go_sem] theorem isIf_21 : isIf Tryz.prog 21 = false := by kernel_rfl
@[go_sem] theorem tk_22 : tk Tryz.prog 22 = some (false, 1) := by kernel_rfl
@[go_sem] theorem und_22 : (Tryz.prog.underlying 22).isSome = true := by kernel_rfl
@[go_sem] theorem slk_22 : slk Tryz.prog 22 = some (80, 3, 32) := by kernel_rfl
@[go_sem] theorem ark_22 : ark Tryz.prog 22 = none := by kernel_rfl
@[go_sem] theorem isStr_22 : isStr Tryz.prog 22 = false := by kernel_rfl
@[go_sem] theorem isBool_22 : isBool Tryz.prog 22 = false := by kernel_rfl
@[go_sem] theorem notInt_22 : notInt Tryz.prog 22 = true := by kernel_rfl
@[go_sem] theorem zk_22 : zk Tryz.prog 22 = some [Value.slice none 0 0] := by kernel_rfl
@[go_sem] theorem elemZ_22 : elemZ Tryz.prog 22 = some [Value.int IntKind.u8 (Int.ofNat 0), Value.int IntKind.u8 (Int.ofNat 0), Value.slice none 0 0] := by kernel_rfl
@[go_sem] theorem arn_22 : arn Tryz.prog 22 = none := by kernel_rfl
@[go_sem] theorem bldk_22 : bldk Tryz.prog 22 = false := by kernel_rfl
@[go_sem] theorem bsl_22 : bsl Tryz.prog 22 = false := by kernel_rfl
@[go_sem] theorem isIf_22 : isIf Tryz.prog 22 = false := by kernel_rfl
@[go_sem] theorem isSl_22 : isSl Tryz.prog 22 = true := by kernel_rfl
@[go_sem] theorem tk_23 : tk Tryz.prog 23 = some (false, 1) := by kernel_rfl
@[go_sem] theorem und_23 : (Tryz.prog.underlying 23).isSome = true := by kernel_rfl
@[go_sem] theorem slk_23 : slk Tryz.prog 23 = some (80, 3, 32) := by kernel_rfl
@[go_sem] theorem ark_23 : ark Tryz.prog 23 = none := by kernel_rfl
@[go_sem] theorem isStr_23 : isStr Tryz.prog 23 = false := by kernel_rfl
@[go_sem] theorem isBool_23 : isBool Tryz.prog 23 = false := by kernel_rfl
@[go_sem] theorem notInt_23 : notInt Tryz.prog 23 = true := by kernel_rfl
@[go_sem] theorem zk_23 : zk Tryz.prog 23 = some [Value.slice none 0 0] := by kernel_rfl
@[go_sem] theorem elemZ_23 : elemZ Tryz.prog 23 = some [Value.int IntKind.u8 (Int.ofNat 0), Value.int IntKind.u8 (Int.ofNat 0), Value.slice none 0 0] := by kernel_rfl
@[go_sem] theorem arn_23 : arn Tryz.prog 23 = none := by kernel_rfl
@[go_sem] theorem bldk_23 : bldk Tryz.prog 23 = false := by kernel_rfl
@[go_sem] theorem bsl_23 : bsl Tryz.prog 23 = false := by kernel_rfl
@[go_sem] theorem isIf_23 : isIf Tryz.prog 23 = false := by kernel_rfl
@[go_sem] theorem isSl_23 : isSl Tryz.prog 23 = true := by kernel_rfl
@[go_sem] theorem tk_24 : tk Tryz.prog 24 = some (false, 1) := by kernel_rfl
@[go_sem] theorem und_24 : (Tryz.prog.underlying 24).isSome = true := by kernel_rfl
@[go_sem] theorem slk_24 : slk Tryz.prog 24 = some (27, 4, 56) := by kernel_rfl
@[go_sem] theorem ark_24 : ark Tryz.prog 24 = none := by kernel_rfl
@[go_sem] theorem isStr_24 : isStr Tryz.prog 24 = false := by kernel_rfl
@[go_sem] theorem isBool_24 : isBool Tryz.prog 24 = false := by kernel_rfl
@[go_sem] theorem notInt_24 : notInt Tryz.prog 24 = true := by kernel_rfl
@[go_sem] theorem zk_24 : zk Tryz.prog 24 = some [Value.slice none 0 0] := by kernel_rfl
@[go_sem] theorem elemZ_24 : elemZ Tryz.prog 24 = some [Value.int IntKind.u8 (Int.ofNat 0), Value.int IntKind.u8 (Int.ofNat 0), Value.slice none 0 0, Value.slice none 0 0] := by kernel_rfl
@[go_sem] theorem arn_24 : arn Tryz.prog 24 = none := by kernel_rfl
@[go_sem] theorem bldk_24 : bldk Tryz.prog 24 = false := by kernel_rfl
@[go_sem] theorem bsl_24 : bsl Tryz.prog 24 = false := by kernel_rfl
@[go_sem] theorem isIf_24 : isIf Tryz.prog 24 = false := by kernel_rfl
@[go_sem] theorem isSl_24 : isSl Tryz.prog 24 = true := by kernel_rfl
@[go_sem] theorem tk_25 : tk Tryz.prog 25 = some (false, 1) := by kernel_rfl
@[go_sem] theorem und_25 : (Tryz.prog.underlying 25).isSome = true := by kernel_rfl
@[go_sem] theorem slk_25 : slk Tryz.prog 25 = some (5, 1, 1) := by kernel_rfl
@[go_sem] theorem ark_25 : ark Tryz.prog 25 = none := by kernel_rfl
@[go_sem] theorem isStr_25 : isStr Tryz.prog 25 = false := by kernel_rfl
@[go_sem] theorem isBool_25 : isBool Tryz.prog 25 = false := by kernel_rfl
@[go_sem] theorem notInt_25 : notInt Tryz.prog 25 = true := by kernel_rfl
@[go_sem] theorem zk_25 : zk Tryz.prog 25 = some [Value.slice none 0 0] := by kernel_rfl
@[go_sem] theorem elemZ_25 : elemZ Tryz.prog 25 = some [Value.int IntKind.u8 (Int.ofNat 0)] := by kernel_rfl
@[go_sem] theorem arn_25 : arn Tryz.prog 25 = none := by kernel_rfl
@[go_sem] theorem bldk_25 : bldk Tryz.prog 25 = false := by kernel_rfl
@[go_sem] theorem bsl_25 : bsl Tryz.prog 25 = true := by kernel_rfl
@[go_sem] theorem isIf_25 : isIf Tryz.prog 25 = false := by kernel_rfl
@[go_sem] theorem isSl_25 : isSl Tryz.prog 25 = true := by kernel_rfl
@[go_sem] theorem tk_26 : tk Tryz.prog 26 = some (true, 4) := by kernel_rfl
@[go_sem] theorem und_26 : (Tryz.prog.underlying 26).isSome = true := by kernel_rfl
@[go_sem] theorem slk_26 : slk Tryz.prog 26 = none := by kernel_rfl
@[go_sem] theorem ark_26 : ark Tryz.prog 26 = none := by kernel_rfl
@[go_sem] theorem isStr_26 : isStr Tryz.prog 26 = false := by kernel_rfl
@[go_sem] theorem isBool_26 : isBool Tryz.prog 26 = false := by kernel_rfl
@[go_sem] theorem notInt_26 : notInt Tryz.prog 26 = true := by kernel_rfl
@[go_sem] theorem flk_26 : flk Tryz.prog 26 = some [(0, 1), (1, 1), (2, 1), (3, 1)] := by kernel_rfl
@[go_sem] theorem zk_26 : zk Tryz.prog 26 = some [Value.int IntKind.u8 (Int.ofNat 0), Value.int IntKind.u8 (Int.ofNat 0), Value.slice none 0 0, Value.slice none 0 0] := by kernel_rfl
@[go_sem] theorem arn_26 : arn Tryz.prog 26 = none := by kernel_rfl
@[go_sem] theorem bldk_26 : bldk Tryz.prog 26 = false := by kernel_rfl
@[go_sem] theorem bsl_26 : bsl Tryz.prog 26 = false := by kernel_rfl
@[go_sem] theorem isIf_26 : isIf Tryz.prog 26 = false := by kernel_rfl
@[go_sem] theorem fdk_26_0 : fdk Tryz.prog 26 0 = some (0, false, 1) := by kernel_rfl
@[go_sem] theorem fdk_26_1 : fdk Tryz.prog 26 1 = some (1, false, 1) := by kernel_rfl
@[go_sem] theorem fdk_26_2 : fdk Tryz.prog 26 2 = some (2, false, 1) := by kernel_rfl
@[go_sem] theorem fdk_26_3 : fdk Tryz.prog 26 3 = some (3, false, 1) := by kernel_rfl
@[go_sem] theorem tk_27 : tk Tryz.prog 27 = some (true, 4) := by kernel_rfl
@[go_sem] theorem und_27 : (Tryz.prog.underlying 27).isSome = true := by kernel_rfl
@[go_sem] theorem slk_27 : slk Tryz.prog 27 = none := by kernel_rfl
@[go_sem] theorem ark_27 : ark Tryz.prog 27 = none := by kernel_rfl
@[go_sem] theorem isStr_27 : isStr Tryz.prog 27 = false := by kernel_rfl
@[go_sem] theorem isBool_27 : isBool Tryz.prog 27 = false := by kernel_rfl
@[go_sem] theorem notInt_27 : notInt Tryz.prog 27 = true := by kernel_rfl
@[go_sem] theorem flk_27 : flk Tryz.prog 27 = some [(0, 1), (1, 1), (2, 1), (3, 1)] := by kernel_rfl
@[go_sem] theorem zk_27 : zk Tryz.prog 27 = some [Value.int IntKind.u8 (Int.ofNat 0), Value.int IntKind.u8 (Int.ofNat 0), Value.slice none 0 0, Value.slice none 0 0] := by kernel_rfl
@[go_sem] theorem arn_27 : arn Tryz.prog 27 = none := by kernel_rfl
@[go_sem] theorem bldk_27 : bldk Tryz.prog 27 = false := by kernel_rfl
@[go_sem] theorem bsl_27 : bsl Tryz.prog 27 = false := by kernel_rfl
@[go_sem] theorem isIf_27 : isIf Tryz.prog 27 = false := by kernel_rfl
@[go_sem] theorem fdk_27_0 : fdk Tryz.prog 27 0 = some (0, false, 1) := by kernel_rfl
@[go_sem] theorem fdk_27_1 : fdk Tryz.prog 27 1 = some (1, false, 1) := by kernel_rfl
@[go_sem] theorem fdk_27_2 : fdk Tryz.prog 27 2 = some (2, false, 1) := by kernel_rfl
@[go_sem] theorem fdk_27_3 : fdk Tryz.prog 27 3 = some (3, false, 1) := by kernel_rfl
@[go_sem] theorem tk_28 : tk Tryz.prog 28 = some (false, 1) := by kernel_rfl
@[go_sem] theorem und_28 : (Tryz.prog.underlying 28).isSome = true := by kernel_rfl
@[go_sem] theorem slk_28 : slk Tryz.prog 28 = some (75, 3, 64) := by kernel_rfl
@[go_sem] theorem ark_28 : ark Tryz.prog 28 = none := by kernel_rfl
@[go_sem] theorem isStr_28 : isStr Tryz.prog 28 = false := by kernel_rfl
@[go_sem] theorem isBool_28 : isBool Tryz.prog 28 = false := by kernel_rfl
@[go_sem] theorem notInt_28 : notInt Tryz.prog 28 = true := by kernel_rfl
@[go_sem] theorem zk_28 : zk Tryz.prog 28 = some [Value.slice none 0 0] := by kernel_rfl
@[go_sem] theorem elemZ_28 : elemZ Tryz.prog 28 = some [Value.string { data := { toList := [] } }, Value.slice none 0 0, Value.slice none 0 0] := by kernel_rfl
@[go_sem] theorem arn_28 : arn Tryz.prog 28 = none := by kernel_rfl
@[go_sem] theorem bldk_28 : bldk Tryz.prog 28 = false := by kernel_rfl
@[go_sem] theorem bsl_28 : bsl Tryz.prog 28 = false := by kernel_rfl
@[go_sem] theorem isIf_28 : isIf Tryz.prog 28 = false := by kernel_rfl
@[go_sem] theorem isSl_28 : isSl Tryz.prog 28 = true := by kernel_rfl
@[go_sem] theorem tk_29 : tk Tryz.prog 29 = some (true, 1) := by kernel_rfl
@[go_sem] theorem und_29 : (Tryz.prog.underlying 29).isSome = true := by kernel_rfl
@[go_sem] theorem slk_29 : slk Tryz.prog 29 = none := by kernel_rfl
@[go_sem] theorem ark_29 : ark Tryz.prog 29 = none := by kernel_rfl
@[go_sem] theorem isStr_29 : isStr Tryz.prog 29 = false := by kernel_rfl
@[go_sem] theorem isBool_29 : isBool Tryz.prog 29 = false := by kernel_rfl
@[go_sem] theorem notInt_29 : notInt Tryz.prog 29 = true := by kernel_rfl
@[go_sem] theorem flk_29 : flk Tryz.prog 29 = some [(0, 1)] := by kernel_rfl
@[go_sem] theorem zk_29 : zk Tryz.prog 29 = some [Value.slice none 0 0] := by kernel_rfl
@[go_sem] theorem arn_29 : arn Tryz.prog 29 = none := by kernel_rfl
@[go_sem] theorem bldk_29 : bldk Tryz.prog 29 = false := by kernel_rfl
@[go_sem] theorem bsl_29 : bsl Tryz.prog 29 = false := by kernel_rfl
@[go_sem] theorem isIf_29 : isIf Tryz.prog 29 = false := by kernel_rfl
@[go_sem] theorem fdk_29_0 : fdk Tryz.prog 29 0 = some (0, false, 1) := by kernel_rfl
@[go_sem] theorem tk_30 : tk Tryz.prog 30 = some (true, 1) := by kernel_rfl
@[go_sem] theorem und_30 : (Tryz.prog.underlying 30).isSome = true := by kernel_rfl
@[go_sem] theorem slk_30 : slk Tryz.prog 30 = none := by kernel_rfl
@[go_sem] theorem ark_30 : ark Tryz.prog 30 = none := by kernel_rfl
@[go_sem] theorem isStr_30 : isStr Tryz.prog 30 = false := by kernel_rfl
@[go_sem] theorem isBool_30 : isBool Tryz.prog 30 = false := by kernel_rfl
@[go_sem] theorem notInt_30 : notInt Tryz.prog 30 = true := by kernel_rfl
@[go_sem] theorem flk_30 : flk Tryz.prog 30 = some [(0, 1)] := by kernel_rfl
@[go_sem] theorem zk_30 : zk Tryz.prog 30 = some [Value.slice none 0 0] := by kernel_rfl
@[go_sem] theorem arn_30 : arn Tryz.prog 30 = none := by kernel_rfl
@[go_sem] theorem bldk_30 : bldk Tryz.prog 30 = false := by kernel_rfl
@[go_sem] theorem bsl_30 : bsl Tryz.prog 30 = false := by kernel_rfl
@[go_sem] theorem isIf_30 : isIf Tryz.prog 30 = false := by kernel_rfl
@[go_sem] theorem fdk_30_0 : fdk Tryz.prog 30 0 = some (0, false, 1) := by kernel_rfl
@[go_sem] theorem tk_31 : tk Tryz.prog 31 = some (false, 1) := by kernel_rfl
@[go_sem] theorem und_31 : (Tryz.prog.underlying 31).isSome = true := by kernel_rfl
@[go_sem] theorem slk_31 : slk Tryz.prog 31 = none := by kernel_rfl
@[go_sem] theorem ark_31 : ark Tryz.prog 31 = none := by kernel_rfl
@[go_sem] theorem isStr_31 : isStr Tryz.prog 31 = false := by kernel_rfl
@[go_sem] theorem isBool_31 : isBool Tryz.prog 31 = false := by kernel_rfl
@[go_sem] theorem notInt_31 : notInt Tryz.prog 31 = true := by kernel_rfl
@[go_sem] theorem zk_31 : zk Tryz.prog 31 = some [Value.tuple { toList := [Value.agg { toList := [Value.slice none 0 0] }, Value.bool false] }] := by kernel_rfl
@[go_sem] theorem arn_31 : arn Tryz.prog 31 = none := by kernel_rfl
@[go_sem] theorem bldk_31 : bldk Tryz.prog 31 = false := by kernel_rfl
@[go_sem] theorem bsl_31 : bsl Tryz.prog 31 = false := by kernel_rfl
@[go_sem] theorem isIf_31 : isIf Tryz.prog 31 = false := by kernel_rfl
@[go_sem] theorem tk_32 : tk Tryz.prog 32 = some (false, 1) := by kernel_rfl
@[go_sem] theorem und_32 : (Tryz.prog.underlying 32).isSome = true := by kernel_rfl
@[go_sem] theorem slk_32 : slk Tryz.prog 32 = none := by kernel_rfl
@[go_sem] theorem ark_32 : ark Tryz.prog 32 = none := by kernel_rfl
@[go_sem] theorem isStr_32 : isStr Tryz.prog 32 = false := by kernel_rfl
@[go_sem] theorem isBool_32 : isBool Tryz.prog 32 = false := by kernel_rfl
@[go_sem] theorem notInt_32 : notInt Tryz.prog 32 = true := by kernel_rfl
@[go_sem] theorem zk_32 : zk Tryz.prog 32 = some [Value.nilFunc] := by kernel_rfl
@[go_sem] theorem arn_32 : arn Tryz.prog 32 = none := by kernel_rfl
@[go_sem] theorem bldk_32 : bldk Tryz.prog 32 = false := by kernel_rfl
@[go_sem] theorem bsl_32 : bsl Tryz.prog 32 = false := by kernel_rfl
@[go_sem] theorem isIf_32 : isIf Tryz.prog 32 = false := by kernel_rfl
@[go_sem] theorem tk_33 : tk Tryz.prog 33 = some (false, 1) := by kernel_rfl
@[go_sem] theorem und_33 : (Tryz.prog.underlying 33).isSome = true := by kernel_rfl
@[go_sem] theorem slk_33 : slk Tryz.prog 33 = some (39, 4, 80) := by kernel_rfl
@[go_sem] theorem ark_33 : ark Tryz.prog 33 = none := by kernel_rfl
@[go_sem] theorem isStr_33 : isStr Tryz.prog 33 = false := by kernel_rfl
@[go_sem] theorem isBool_33 : isBool Tryz.prog 33 = false := by kernel_rfl
@[go_sem] theorem notInt_33 : notInt Tryz.prog 33 = true := by kernel_rfl
@[go_sem] theorem zk_33 : zk Tryz.prog 33 = some [Value.slice none 0 0] := by kernel_rfl
@[go_sem] theorem elemZ_33 : elemZ Tryz.prog 33 = some [Value.string { data := { toList := [] } }, Value.slice none 0 0, Value.string { data := { toList := [] } }, Value.slice none 0 0] := by kernel_rfl
@[go_sem] theorem arn_33 : arn Tryz.prog 33 = none := by kernel_rfl
@[go_sem] theorem bldk_33 : bldk Tryz.prog 33 = false := by kernel_rfl
@[go_sem] theorem bsl_33 : bsl Tryz.prog 33 = false := by kernel_rfl
@[go_sem] theorem isIf_33 : isIf Tryz.prog 33 = false := by kernel_rfl
@[go_sem] theorem isSl_33 : isSl Tryz.prog 33 = true := by kernel_rfl
@[go_sem] theorem tk_34 : tk Tryz.prog 34 = some (false, 1) := by kernel_rfl
@[go_sem] theorem und_34 : (Tryz.prog.underlying 34).isSome = true := by kernel_rfl
@[go_sem] theorem slk_34 : slk Tryz.prog 34 = none := by kernel_rfl
@[go_sem] theorem ark_34 : ark Tryz.prog 34 = none := by kernel_rfl
@[go_sem] theorem isStr_34 : isStr Tryz.prog 34 = false := by kernel_rfl
@[go_sem] theorem isBool_34 : isBool Tryz.prog 34 = false := by kernel_rfl
@[go_sem] theorem notInt_34 : notInt Tryz.prog 34 = true := by kernel_rfl
@[go_sem] theorem zk_34 : zk Tryz.prog 34 = some [Value.tuple { toList := [Value.slice none 0 0, Value.bool false] }] := by kernel_rfl
@[go_sem] theorem arn_34 : arn Tryz.prog 34 = none := by kernel_rfl
@[go_sem] theorem bldk_34 : bldk Tryz.prog 34 = false := by kernel_rfl
@[go_sem] theorem bsl_34 : bsl Tryz.prog 34 = false := by kernel_rfl
@[go_sem] theorem isIf_34 : isIf Tryz.prog 34 = false := by kernel_rfl
@[go_sem] theorem tk_35 : tk Tryz.prog 35 = some (false, 1) := by kernel_rfl
@[go_sem] theorem und_35 : (Tryz.prog.underlying 35).isSome = true := by kernel_rfl
@[go_sem] theorem slk_35 : slk Tryz.prog 35 = none := by kernel_rfl
@[go_sem] theorem ark_35 : ark Tryz.prog 35 = none := by kernel_rfl
@[go_sem] theorem isStr_35 : isStr Tryz.prog 35 = false := by kernel_rfl
@[go_sem] theorem isBool_35 : isBool Tryz.prog 35 = false := by kernel_rfl
@[go_sem] theorem notInt_35 : notInt Tryz.prog 35 = true := by kernel_rfl
@[go_sem] theorem zk_35 : zk Tryz.prog 35 = some [Value.nilFunc] := by kernel_rfl
@[go_sem] theorem arn_35 : arn Tryz.prog 35 = none := by kernel_rfl
@[go_sem] theorem bldk_35 : bldk Tryz.prog 35 = false := by kernel_rfl
@[go_sem] theorem bsl_35 : bsl Tryz.prog 35 = false := by kernel_rfl
@[go_sem] theorem isIf_35 : isIf Tryz.prog 35 = false := by kernel_rfl
@[go_sem] theorem tk_36 : tk Tryz.prog 36 = some (false, 1) := by kernel_rfl
@[go_sem] theorem und_36 : (Tryz.prog.underlying 36).isSome = true := by kernel_rfl
@[go_sem] theorem slk_36 : slk Tryz.prog 36 = none := by kernel_rfl
@[go_sem] theorem ark_36 : ark Tryz.prog 36 = none := by kernel_rfl
@[go_sem] theorem isStr_36 : isStr Tryz.prog 36 = false := by kernel_rfl
@[go_sem] theorem isBool_36 : isBool Tryz.prog 36 = false := by kernel_rfl
@[go_sem] theorem notInt_36 : notInt Tryz.prog 36 = true := by kernel_rfl
@[go_sem] theorem zk_36 : zk Tryz.prog 36 = some [Value.nilFunc] := by kernel_rfl
@[go_sem] theorem arn_36 : arn Tryz.prog 36 = none := by kernel_rfl
@[go_sem] theorem bldk_36 : bldk Tryz.prog 36 = false := by kernel_rfl
@[go_sem] theorem bsl_36 : bsl Tryz.prog 36 = false := by kernel_rfl
@[go_sem] theorem isIf_36 : isIf Tryz.prog 36 = false := by kernel_rfl
@[go_sem] theorem tk_37 : tk Tryz.prog 37 = some (false, 1) := by kernel_rfl
@[go_sem] theorem und_37 : (Tryz.prog.underlying 37).isSome = true := by kernel_rfl
@[go_sem] theorem slk_37 : slk Tryz.prog 37 = some (3, 1, 8) := by kernel_rfl
@[go_sem] theorem ark_37 : ark Tryz.prog 37 = none := by kernel_rfl
@[go_sem] theorem isStr_37 : isStr Tryz.prog 37 = false := by kernel_rfl
@[go_sem] theorem isBool_37 : isBool Tryz.prog 37 = false := by kernel_rfl
@[go_sem] theorem notInt_37 : notInt Tryz.prog 37 = true := by kernel_rfl
@[go_sem] theorem zk_37 : zk Tryz.prog 37 = some [Value.slice none 0 0] := by kernel_rfl
@[go_sem] theorem elemZ_37 : elemZ Tryz.prog 37 = some [Value.int IntKind.i64 (Int.ofNat 0)] := by kernel_rfl
@[go_sem] theorem arn_37 : arn Tryz.prog 37 = none := by kernel_rfl
@[go_sem] theorem bldk_37 : bldk Tryz.prog 37 = false := by kernel_rfl
@[go_sem] theorem bsl_37 : bsl Tryz.prog 37 = false := by kernel_rfl
@[go_sem] theorem isIf_37 : isIf Tryz.prog 37 = false := by kernel_rfl
@[go_sem] theorem isSl_37 : isSl Tryz.prog 37 = true := by kernel_rfl
@[go_sem] theorem tk_38 : tk Tryz.prog 38 = some (true, 4) := by kernel_rfl
@[go_sem] theorem und_38 : (Tryz.prog.underlying 38).isSome = true := by kernel_rfl
@[go_sem] theorem slk_38 : slk Tryz.prog 38 = none := by kernel_rfl
@[go_sem] theorem ark_38 : ark Tryz.prog 38 = none := by kernel_rfl
@[go_sem] theorem isStr_38 : isStr Tryz.prog 38 = false := by kernel_rfl
@[go_sem] theorem isBool_38 : isBool Tryz.prog 38 = false := by kernel_rfl
@[go_sem] theorem notInt_38 : notInt Tryz.prog 38 = true := by kernel_rfl
@[go_sem] theorem flk_38 : flk Tryz.prog 38 = some [(0, 1), (1, 1), (2, 1), (3, 1)] := by kernel_rfl
@[go_sem] theorem zk_38 : zk Tryz.prog 38 = some [Value.string { data := { toList := [] } }, Value.slice none 0 0, Value.string { data := { toList := [] } }, Value.slice none 0 0] := by kernel_rfl
@[go_sem] theorem arn_38 : arn Tryz.prog 38 = none := by kernel_rfl
@[go_sem] theorem bldk_38 : bldk Tryz.prog 38 = false := by kernel_rfl
@[go_sem] theorem bsl_38 : bsl Tryz.prog 38 = false := by kernel_rfl
@[go_sem] theorem isIf_38 : isIf Tryz.prog 38 = false := by kernel_rfl
@[go_sem] theorem fdk_38_0 : fdk Tryz.prog 38 0 = some (0, false, 1) := by kernel_rfl
@[go_sem] theorem fdk_38_1 : fdk Tryz.prog 38 1 = some (1, false, 1) := by kernel_rfl
@[go_sem] theorem fdk_38_2 : fdk Tryz.prog 38 2 = some (2, false, 1) := by kernel_rfl
@[go_sem] theorem fdk_38_3 : fdk Tryz.prog 38 3 = some (3, false, 1) := by kernel_rfl
@[go_sem] theorem tk_39 : tk Tryz.prog 39 = some (true, 4) := by kernel_rfl
@[go_sem] theorem und_39 : (Tryz.prog.underlying 39).isSome = true := by kernel_rfl
@[go_sem] theorem slk_39 : slk Tryz.prog 39 = none := by kernel_rfl
@[go_sem] theorem ark_39 : ark Tryz.prog 39 = none := by kernel_rfl
@[go_sem] theorem isStr_39 : isStr Tryz.prog 39 = false := by kernel_rfl
@[go_sem] theorem isBool_39 : isBool Tryz.prog 39 = false := by kernel_rfl
@[go_sem] theorem notInt_39 : notInt Tryz.prog 39 = true := by kernel_rfl
@[go_sem] theorem flk_39 : flk Tryz.prog 39 = some [(0, 1), (1, 1), (2, 1), (3, 1)] := by kernel_rfl
@[go_sem] theorem zk_39 : zk Tryz.prog 39 = some [Value.string { data := { toList := [] } }, Value.slice none 0 0, Value.string { data := { toList := [] } }, Value.slice none 0 0] := by kernel_rfl
@[go_sem] theorem arn_39 : arn Tryz.prog 39 = none := by kernel_rfl
@[go_sem] theorem bldk_39 : bldk Tryz.prog 39 = false := by kernel_rfl
@[go_sem] theorem bsl_39 : bsl Tryz.prog 39 = false := by kernel_rfl
@[go_sem] theorem isIf_39 : isIf Tryz.prog 39 = false := by kernel_rfl
@[go_sem] theorem fdk_39_0 : fdk Tryz.prog 39 0 = some (0, false, 1) := by kernel_rfl
@[go_sem] theorem fdk_39_1 : fdk Tryz.prog 39 1 = some (1, false, 1) := by kernel_rfl
@[go_sem] theorem fdk_39_2 : fdk Tryz.prog 39 2 = some (2, false, 1) := by kernel_rfl
@[go_sem] theorem fdk_39_3 : fdk Tryz.prog 39 3 = some (3, false, 1) := by kernel_rfl
@[go_sem] theorem tk_40 : tk Tryz.prog 40 = some (false, 1) := by kernel_rfl
@[go_sem] theorem und_40 : (Tryz.prog.underlying 40).isSome = true := by kernel_rfl
@[go_sem] theorem slk_40 : slk Tryz.prog 40 = none := by kernel_rfl
@[go_sem] theorem ark_40 : ark Tryz.prog 40 = none := by kernel_rfl
@[go_sem] theorem isStr_40 : isStr Tryz.prog 40 = false := by kernel_rfl
@[go_sem] theorem isBool_40 : isBool Tryz.prog 40 = false := by kernel_rfl
@[go_sem] theorem notInt_40 : notInt Tryz.prog 40 = true := by kernel_rfl
@[go_sem] theorem zk_40 : zk Tryz.prog 40 = some [Value.nilFunc] := by kernel_rfl
@[go_sem] theorem arn_40 : arn Tryz.prog 40 = none := by kernel_rfl
@[go_sem] theorem bldk_40 : bldk Tryz.prog 40 = false := by kernel_rfl
@[go_sem] theorem bsl_40 : bsl Tryz.prog 40 = false := by kernel_rfl
@[go_sem] theorem isIf_40 : isIf Tryz.prog 40 = false := by kernel_rfl
@[go_sem] theorem tk_41 : tk Tryz.prog 41 = some (false, 1) := by kernel_rfl
@[go_sem] theorem und_41 : (Tryz.prog.underlying 41).isSome = true := by kernel_rfl
@[go_sem] theorem slk_41 : slk Tryz.prog 41 = some (88, 2, 32) := by kernel_rfl
@[go_sem] theorem ark_41 : ark Tryz.prog 41 = none := by kernel_rfl
@[go_sem] theorem isStr_41 : isStr Tryz.prog 41 = false := by kernel_rfl
@[go_sem] theorem isBool_41 : isBool Tryz.prog 41 = false := by kernel_rfl
@[go_sem] theorem notInt_41 : notInt Tryz.prog 41 = true := by kernel_rfl
@[go_sem] theorem zk_41 : zk Tryz.prog 41 = some [Value.slice none 0 0] := by kernel_rfl
@[go_sem] theorem elemZ_41 : elemZ Tryz.prog 41 = some [Value.int IntKind.i64 (Int.ofNat 0), Value.slice none 0 0] := by kernel_rfl
@[go_sem] theorem arn_41 : arn Tryz.prog 41 = none := by kernel_rfl
@[go_sem] theorem bldk_41 : bldk Tryz.prog 41 = false := by kernel_rfl
@[go_sem] theorem bsl_41 : bsl Tryz.prog 41 = false := by kernel_rfl
@[go_sem] theorem isIf_41 : isIf Tryz.prog 41 = false := by kernel_rfl
@[go_sem] theorem isSl_41 : isSl Tryz.prog 41 = true := by kernel_rfl
@[go_sem] theorem tk_42 : tk Tryz.prog 42 = some (false, 1) := by kernel_rfl
@[go_sem] theorem und_42 : (Tryz.prog.underlying 42).isSome = true := by kernel_rfl
@[go_sem] theorem slk_42 : slk Tryz.prog 42 = none := by kernel_rfl
@[go_sem] theorem ark_42 : ark Tryz.prog 42 = none := by kernel_rfl
@[go_sem] theorem isStr_42 : isStr Tryz.prog 42 = false := by kernel_rfl
@[go_sem] theorem isBool_42 : isBool Tryz.prog 42 = false := by kernel_rfl
@[go_sem] theorem ik_42 : ik Tryz.prog 42 = some IntKind.i64 := by kernel_rfl
@[go_sem] theorem notInt_42 : notInt Tryz.prog 42 = false := by kernel_rfl
@[go_sem] theorem zk_42 : zk Tryz.prog 42 = some [Value.int IntKind.i64 (Int.ofNat 0)] := by kernel_rfl
@[go_sem] theorem arn_42 : arn Tryz.prog 42 = none := by kernel_rfl
@[go_sem] theorem bldk_42 : bldk Tryz.prog 42 = false := by kernel_rfl
@[go_sem] theorem bsl_42 : bsl Tryz.prog 42 = false := by kernel_rfl
@[go_sem] theorem isIf_42 : isIf Tryz.prog 42 = false := by kernel_rfl
@[go_sem] theorem tk_43 : tk Tryz.prog 43 = some (false, 1) := by kernel_rfl
@[go_sem] theorem und_43 : (Tryz.prog.underlying 43).isSome = true := by kernel_rfl
@[go_sem] theorem slk_43 : slk Tryz.prog 43 = none := by kernel_rfl
@[go_sem] theorem ark_43 : ark Tryz.prog 43 = none := by kernel_rfl
@[go_sem] theorem isStr_43 : isStr Tryz.prog 43 = false := by kernel_rfl
@[go_sem] theorem isBool_43 : isBool Tryz.prog 43 = false := by kernel_rfl
@[go_sem] theorem notInt_43 : notInt Tryz.prog 43 = true := by kernel_rfl
@[go_sem] theorem zk_43 : zk Tryz.prog 43 = some [Value.tuple { toList := [Value.slice none 0 0, Value.int IntKind.i64 (Int.ofNat 0)] }] := by kernel_rfl
@[go_sem] theorem arn_43 : arn Tryz.prog 43 = none := by kernel_rfl
@[go_sem] theorem bldk_43 : bldk Tryz.prog 43 = false := by kernel_rfl
@[go_sem] theorem bsl_43 : bsl Tryz.prog 43 = false := by kernel_rfl
@[go_sem] theorem isIf_43 : isIf Tryz.prog 43 = false := by kernel_rfl
@[go_sem] theorem tk_44 : tk Tryz.prog 44 = some (false, 1) := by kernel_rfl
@[go_sem] theorem und_44 : (Tryz.prog.underlying 44).isSome = true := by kernel_rfl
@[go_sem] theorem slk_44 : slk Tryz.prog 44 = none := by kernel_rfl
@[go_sem] theorem ark_44 : ark Tryz.prog 44 = none := by kernel_rfl
@[go_sem] theorem isStr_44 : isStr Tryz.prog 44 = false := by kernel_rfl
@[go_sem] theorem isBool_44 : isBool Tryz.prog 44 = false := by kernel_rfl
@[go_sem] theorem notInt_44 : notInt Tryz.prog 44 = true := by kernel_rfl
@[go_sem] theorem zk_44 : zk Tryz.prog 44 = some [Value.nilFunc] := by kernel_rfl
@[go_sem] theorem arn_44 : arn Tryz.prog 44 = none := by kernel_rfl
@[go_sem] theorem bldk_44 : bldk Tryz.prog 44 = false := by kernel_rfl
@[go_sem] theorem bsl_44 : bsl Tryz.prog 44 = false := by kernel_rfl
@[go_sem] theorem isIf_44 : isIf Tryz.prog 44 = false := by kernel_rfl
@[go_sem] theorem tk_45 : tk Tryz.prog 45 = some (false, 1) := by kernel_rfl
@[go_sem] theorem und_45 : (Tryz.prog.underlying 45).isSome = true := by kernel_rfl
@[go_sem] theorem slk_45 : slk Tryz.prog 45 = none := by kernel_rfl
@[go_sem] theorem ark_45 : ark Tryz.prog 45 = none := by kernel_rfl
@[go_sem] theorem isStr_45 : isStr Tryz.prog 45 = false := by kernel_rfl
@[go_sem] theorem isBool_45 : isBool Tryz.prog 45 = false := by kernel_rfl
@[go_sem] theorem notInt_45 : notInt Tryz.prog 45 = true := by kernel_rfl
@[go_sem] theorem zk_45 : zk Tryz.prog 45 = some [Value.nilFunc] := by kernel_rfl
@[go_sem] theorem arn_45 : arn Tryz.prog 45 = none := by kernel_rfl
@[go_sem] theorem bldk_45 : bldk Tryz.prog 45 = false := by kernel_rfl
@[go_sem] theorem bsl_45 : bsl Tryz.prog 45 = false := by kernel_rfl
@[go_sem] theorem isIf_45 : isIf Tryz.prog 45 = false := by kernel_rfl
@[go_sem] theorem tk_46 : tk Tryz.prog 46 = some (false, 1) := by kernel_rfl
@[go_sem] theorem und_46 : (Tryz.prog.underlying 46).isSome = true := by kernel_rfl
@[go_sem] theorem slk_46 : slk Tryz.prog 46 = none := by kernel_rfl
@[go_sem] theorem ark_46 : ark Tryz.prog 46 = none := by kernel_rfl
@[go_sem] theorem isStr_46 : isStr Tryz.prog 46 = false := by kernel_rfl
@[go_sem] theorem isBool_46 : isBool Tryz.prog 46 = false := by kernel_rfl
@[go_sem] theorem notInt_46 : notInt Tryz.prog 46 = true := by kernel_rfl
@[go_sem] theorem zk_46 : zk Tryz.prog 46 = some [Value.nilFunc] := by kernel_rfl
@[go_sem] theorem arn_46 : arn Tryz.prog 46 = none := by kernel_rfl
@[go_sem] theorem bldk_46 : bldk Tryz.prog 46 = false := by kernel_rfl
@[go_sem] theorem bsl_46 : bsl Tryz.prog 46 = false := by kernel_rfl
@[go_sem] theorem isIf_46 : isIf Tryz.prog 46 = false := by kernel_rfl
@[go_sem] theorem tk_47 : tk Tryz.prog 47 = some (false, 1) := by kernel_rfl
@[go_sem] theorem und_47 : (Tryz.prog.underlying 47).isSome = true := by kernel_rfl
@[go_sem] theorem slk_47 : slk Tryz.prog 47 = none := by kernel_rfl
@[go_sem] theorem ark_47 : ark Tryz.prog 47 = none := by kernel_rfl
@[go_sem] theorem isStr_47 : isStr Tryz.prog 47 = false := by kernel_rfl
@[go_sem] theorem isBool_47 : isBool Tryz.prog 47 = false := by kernel_rfl
@[go_sem] theorem notInt_47 : notInt Tryz.prog 47 = true := by kernel_rfl
@[go_sem] theorem zk_47 : zk Tryz.prog 47 = some [Value.nilFunc] := by kernel_rfl
@[go_sem] theorem arn_47 : arn Tryz.prog 47 = none := by kernel_rfl
@[go_sem] theorem bldk_47 : bldk Tryz.prog 47 = false := by kernel_rfl
@[go_sem] theorem bsl_47 : bsl Tryz.prog 47 = false := by kernel_rfl
@[go_sem] theorem isIf_47 : isIf Tryz.prog 47 = false := by kernel_rfl
@[go_sem] theorem tk_48 : tk Tryz.prog 48 = some (false, 1) := by kernel_rfl
@[go_sem] theorem und_48 : (Tryz.prog.underlying 48).isSome = true := by kernel_rfl
@[go_sem] theorem slk_48 : slk Tryz.prog 48 = none := by kernel_rfl
@[go_sem] theorem ark_48 : ark Tryz.prog 48 = none := by kernel_rfl
@[go_sem] theorem isStr_48 : isStr Tryz.prog 48 = false := by kernel_rfl
@[go_sem] theorem isBool_48 : isBool Tryz.prog 48 = false := by kernel_rfl
@[go_sem] theorem ik_48 : ik Tryz.prog 48 = some IntKind.i8 := by kernel_rfl
@[go_sem] theorem notInt_48 : notInt Tryz.prog 48 = false := by kernel_rfl
@[go_sem] theorem zk_48 : zk Tryz.prog 48 = some [Value.int IntKind.i8 (Int.ofNat 0)] := by kernel_rfl
@[go_sem] theorem arn_48 : arn Tryz.prog 48 = none := by kernel_rfl
@[go_sem] theorem bldk_48 : bldk Tryz.prog 48 = false := by kernel_rfl
@[go_sem] theorem bsl_48 : bsl Tryz.prog 48 = false := by kernel_rfl
@[go_sem] theorem isIf_48 : isIf Tryz.prog 48 = false := by kernel_rfl
@[go_sem] theorem tk_49 : tk Tryz.prog 49 = some (true, 7) := by kernel_rfl
@[go_sem] theorem und_49 : (Tryz.prog.underlying 49).isSome = true := by kernel_rfl
@[go_sem] theorem slk_49 : slk Tryz.prog 49 = none := by kernel_rfl
@[go_sem] theorem ark_49 : ark Tryz.prog 49 = none := by kernel_rfl
@[go_sem] theorem isStr_49 : isStr Tryz.prog 49 = false := by kernel_rfl
@[go_sem] theorem isBool_49 : isBool Tryz.prog 49 = false := by kernel_rfl
@[go_sem] theorem notInt_49 : notInt Tryz.prog 49 = true := by kernel_rfl
@[go_sem] theorem flk_49 : flk Tryz.prog 49 = some [(0, 4), (4, 1), (5, 1), (6, 1)] := by kernel_rfl
@[go_sem] theorem zk_49 : zk Tryz.prog 49 = some [Value.int IntKind.u8 (Int.ofNat 0), Value.int IntKind.u8 (Int.ofNat 0), Value.slice none 0 0, Value.slice none 0 0, Value.int IntKind.u8 (Int.ofNat 0), Value.int IntKind.u8 (Int.ofNat 0), Value.int IntKind.i8 (Int.ofNat 0)] := by kernel_rfl
@[go_sem] theorem arn_49 : arn Tryz.prog 49 = none := by kernel_rfl
@[go_sem] theorem bldk_49 : bldk Tryz.prog 49 = false := by kernel_rfl
@[go_sem] theorem bsl_49 : bsl Tryz.prog 49 = false := by kernel_rfl
@[go_sem] theorem isIf_49 : isIf Tryz.prog 49 = false := by kernel_rfl
@[go_sem] theorem fdk_49_0 : fdk Tryz.prog 49 0 = some (0, true, 4) := by kernel_rfl
@[go_sem] theorem fdk_49_1 : fdk Tryz.prog 49 1 = some (4, false, 1) := by kernel_rfl
@[go_sem] theorem fdk_49_2 : fdk Tryz.prog 49 2 = some (5, false, 1) := by kernel_rfl
@[go_sem] theorem fdk_49_3 : fdk Tryz.prog 49 3 = some (6, false, 1) := by kernel_rfl
@[go_sem] theorem tk_50 : tk Tryz.prog 50 = some (true, 7) := by kernel_rfl
@[go_sem] theorem und_50 : (Tryz.prog.underlying 50).isSome = true := by kernel_rfl
@[go_sem] theorem slk_50 : slk Tryz.prog 50 = none := by kernel_rfl
@[go_sem] theorem ark_50 : ark Tryz.prog 50 = none := by kernel_rfl
@[go_sem] theorem isStr_50 : isStr Tryz.prog 50 = false := by kernel_rfl
@[go_sem] theorem isBool_50 : isBool Tryz.prog 50 = false := by kernel_rfl
@[go_sem] theorem notInt_50 : notInt Tryz.prog 50 = true := by kernel_rfl
@[go_sem] theorem flk_50 : flk Tryz.prog 50 = some [(0, 4), (4, 1), (5, 1), (6, 1)] := by kernel_rfl
@[go_sem] theorem zk_50 : zk Tryz.prog 50 = some [Value.int IntKind.u8 (Int.ofNat 0), Value.int IntKind.u8 (Int.ofNat 0), Value.slice none 0 0, Value.slice none 0 0, Value.int IntKind.u8 (Int.ofNat 0), Value.int IntKind.u8 (Int.ofNat 0), Value.int IntKind.i8 (Int.ofNat 0)] := by kernel_rfl
@[go_sem] theorem arn_50 : arn Tryz.prog 50 = none := by kernel_rfl
@[go_sem] theorem bldk_50 : bldk Tryz.prog 50 = false := by kernel_rfl
@[go_sem] theorem bsl_50 : bsl Tryz.prog 50 = false := by kernel_rfl
@[go_sem] theorem isIf_50 : isIf Tryz.prog 50 = false := by kernel_rfl
@[go_sem] theorem fdk_50_0 : fdk Tryz.prog 50 0 = some (0, true, 4) := by kernel_rfl
@[go_sem] theorem fdk_50_1 : fdk Tryz.prog 50 1 = some (4, false, 1) := by kernel_rfl
@[go_sem] theorem fdk_50_2 : fdk Tryz.prog 50 2 = some (5, false, 1) := by kernel_rfl
@[go_sem] theorem fdk_50_3 : fdk Tryz.prog 50 3 = some (6, false, 1) := by kernel_rfl
@[go_sem] theorem tk_51 : tk Tryz.prog 51 = some (false, 1) := by kernel_rfl
@[go_sem] theorem und_51 : (Tryz.prog.underlying 51).isSome = true := by kernel_rfl
@[go_sem] theorem slk_51 : slk Tryz.prog 51 = none := by kernel_rfl
@[go_sem] theorem ark_51 : ark Tryz.prog 51 = none := by kernel_rfl
@[go_sem] theorem isStr_51 : isStr Tryz.prog 51 = false := by kernel_rfl
@[go_sem] theorem isBool_51 : isBool Tryz.prog 51 = false := by kernel_rfl
@[go_sem] theorem notInt_51 : notInt Tryz.prog 51 = true := by kernel_rfl
@[go_sem] theorem zk_51 : zk Tryz.prog 51 = some [Value.nilFunc] := by kernel_rfl
@[go_sem] theorem arn_51 : arn Tryz.prog 51 = none := by kernel_rfl
@[go_sem] theorem bldk_51 : bldk Tryz.prog 51 = false := by kernel_rfl
@[go_sem] theorem bsl_51 : bsl Tryz.prog 51 = false := by kernel_rfl
@[go_sem] theorem isIf_51 : isIf Tryz.prog 51 = false := by kernel_rfl
@[go_sem] theorem tk_52 : tk Tryz.prog 52 = some (false, 1) := by kernel_rfl
@[go_sem] theorem und_52 : (Tryz.prog.underlying 52).isSome = true := by kernel_rfl
@[go_sem] theorem slk_52 : slk Tryz.prog 52 = none := by kernel_rfl
@[go_sem] theorem ark_52 : ark Tryz.prog 52 = none := by kernel_rfl
@[go_sem] theorem isStr_52 : isStr Tryz.prog 52 = false := by kernel_rfl
@[go_sem] theorem isBool_52 : isBool Tryz.prog 52 = false := by kernel_rfl
@[go_sem] theorem notInt_52 : notInt Tryz.prog 52 = true := by kernel_rfl
@[go_sem] theorem zk_52 : zk Tryz.prog 52 = some [Value.nilFunc] := by kernel_rfl
@[go_sem] theorem arn_52 : arn Tryz.prog 52 = none := by kernel_rfl
@[go_sem] theorem bldk_52 : bldk Tryz.prog 52 = false := by kernel_rfl
@[go_sem] theorem bsl_52 : bsl Tryz.prog 52 = false := by kernel_rfl
@[go_sem] theorem isIf_52 : isIf Tryz.prog 52 = false := by kernel_rfl
@[go_sem] theorem tk_53 : tk Tryz.prog 53 = some (false, 1) := by kernel_rfl
@[go_sem] theorem und_53 : (Tryz.prog.underlying 53).isSome = true := by kernel_rfl
@[go_sem] theorem slk_53 : slk Tryz.prog 53 = none := by kernel_rfl
@[go_sem] theorem ark_53 : ark Tryz.prog 53 = none := by kernel_rfl
@[go_sem] theorem isStr_53 : isStr Tryz.prog 53 = false := by kernel_rfl
@[go_sem] theorem isBool_53 : isBool Tryz.prog 53 = false := by kernel_rfl
@[go_sem] theorem notInt_53 : notInt Tryz.prog 53 = true := by kernel_rfl
@[go_sem] theorem zk_53 : zk Tryz.prog 53 = some [Value.tuple { toList := [Value.agg { toList := [Value.slice none 0 0] }, Value.int IntKind.i64 (Int.ofNat 0)] }] := by kernel_rfl
@[go_sem] theorem arn_53 : arn Tryz.prog 53 = none := by kernel_rfl
@[go_sem] theorem bldk_53 : bldk Tryz.prog 53 = false := by kernel_rfl
@[go_sem] theorem bsl_53 : bsl Tryz.prog 53 = false := by kernel_rfl
@[go_sem] theorem isIf_53 : isIf Tryz.prog 53 = false := by kernel_rfl
@[go_sem] theorem tk_54 : tk Tryz.prog 54 = some (false, 1) := by kernel_rfl
@[go_sem] theorem und_54 : (Tryz.prog.underlying 54).isSome = true := by kernel_rfl
@[go_sem] theorem slk_54 : slk Tryz.prog 54 = none := by kernel_rfl
@[go_sem] theorem ark_54 : ark Tryz.prog 54 = none := by kernel_rfl
@[go_sem] theorem isStr_54 : isStr Tryz.prog 54 = false := by kernel_rfl
@[go_sem] theorem isBool_54 : isBool Tryz.prog 54 = false := by kernel_rfl
@[go_sem] theorem notInt_54 : notInt Tryz.prog 54 = true := by kernel_rfl
@[go_sem] theorem zk_54 : zk Tryz.prog 54 = some [Value.nilFunc] := by kernel_rfl
@[go_sem] theorem arn_54 : arn Tryz.prog 54 = none := by kernel_rfl
@[go_sem] theorem bldk_54 : bldk Tryz.prog 54 = false := by kernel_rfl
@[go_sem] theorem bsl_54 : bsl Tryz.prog 54 = false := by kernel_rfl
@[go_sem] theorem isIf_54 : isIf Tryz.prog 54 = false := by kernel_rfl
@[go_sem] theorem tk_55 : tk Tryz.prog 55 = some (false, 1) := by kernel_rfl
@[go_sem] theorem und_55 : (Tryz.prog.underlying 55).isSome = true := by kernel_rfl
@[go_sem] theorem slk_55 : slk Tryz.prog 55 = none := by kernel_rfl
@[go_sem] theorem ark_55 : ark Tryz.prog 55 = none := by kernel_rfl
@[go_sem] theorem isStr_55 : isStr Tryz.prog 55 = false := by kernel_rfl
@[go_sem] theorem isBool_55 : isBool Tryz.prog 55 = false := by kernel_rfl
@[go_sem] theorem notInt_55 : notInt Tryz.prog 55 = true := by kernel_rfl
@[go_sem] theorem zk_55 : zk Tryz.prog 55 = some [Value.nilFunc] := by kernel_rfl
@[go_sem] theorem arn_55 : arn Tryz.prog 55 = none := by kernel_rfl
@[go_sem] theorem bldk_55 : bldk Tryz.prog 55 = false := by kernel_rfl
@[go_sem] theorem bsl_55 : bsl Tryz.prog 55 = false := by kernel_rfl
@[go_sem] theorem isIf_55 : isIf Tryz.prog 55 = false := by kernel_rfl
@[go_sem] theorem tk_56 : tk Tryz.prog 56 = some (false, 1) := by kernel_rfl
@[go_sem] theorem und_56 : (Tryz.prog.underlying 56).isSome = true := by kernel_rfl
@[go_sem] theorem slk_56 : slk Tryz.prog 56 = none := by kernel_rfl
@[go_sem] theorem ark_56 : ark Tryz.prog 56 = none := by kernel_rfl
@[go_sem] theorem isStr_56 : isStr Tryz.prog 56 = false := by kernel_rfl
@[go_sem] theorem isBool_56 : isBool Tryz.prog 56 = false := by kernel_rfl
@[go_sem] theorem notInt_56 : notInt Tryz.prog 56 = true := by kernel_rfl
@[go_sem] theorem zk_56 : zk Tryz.prog 56 = some [Value.nilFunc] := by kernel_rfl
@[go_sem] theorem arn_56 : arn Tryz.prog 56 = none := by kernel_rfl
@[go_sem] theorem bldk_56 : bldk Tryz.prog 56 = false := by kernel_rfl
@[go_sem] theorem bsl_56 : bsl Tryz.prog 56 = false := by kernel_rfl
@[go_sem] theorem isIf_56 : isIf Tryz.prog 56 = false := by kernel_rfl
@[go_sem] theorem tk_57 : tk Tryz.prog 57 = some (false, 1) := by kernel_rfl
@[go_sem] theorem und_57 : (Tryz.prog.underlying 57).isSome = true := by kernel_rfl
@[go_sem] theorem slk_57 : slk Tryz.prog 57 = none := by kernel_rfl
@[go_sem] theorem ark_57 : ark Tryz.prog 57 = none := by kernel_rfl
@[go_sem] theorem isStr_57 : isStr Tryz.prog 57 = false := by kernel_rfl
@[go_sem] theorem isBool_57 : isBool Tryz.prog 57 = false := by kernel_rfl
@[go_sem] theorem notInt_57 : notInt Tryz.prog 57 = true := by kernel_rfl
@[go_sem] theorem zk_57 : zk Tryz.prog 57 = some [Value.nilFunc] := by kernel_rfl
@[go_sem] theorem arn_57 : arn Tryz.prog 57 = none := by kernel_rfl
@[go_sem] theorem bldk_57 : bldk Tryz.prog 57 = false := by kernel_rfl
@[go_sem] theorem bsl_57 : bsl Tryz.prog 57 = false := by kernel_rfl
@[go_sem] theorem isIf_57 : isIf Tryz.prog 57 = false := by kernel_rfl
@[go_sem] theorem tk_58 : tk Tryz.prog 58 = some (false, 1) := by kernel_rfl
@[go_sem] theorem und_58 : (Tryz.prog.underlying 58).isSome = true := by kernel_rfl
@[go_sem] theorem slk_58 : slk Tryz.prog 58 = none := by kernel_rfl
@[go_sem] theorem ark_58 : ark Tryz.prog 58 = none := by kernel_rfl
@[go_sem] theorem isStr_58 : isStr Tryz.prog 58 = false := by kernel_rfl
@[go_sem] theorem isBool_58 : isBool Tryz.prog 58 = false := by kernel_rfl
@[go_sem] theorem notInt_58 : notInt Tryz.prog 58 = true := by kernel_rfl
@[go_sem] theorem zk_58 : zk Tryz.prog 58 = some [Value.nilFunc] := by kernel_rfl
@[go_sem] theorem arn_58 : arn Tryz.prog 58 = none := by kernel_rfl
@[go_sem] theorem bldk_58 : bldk Tryz.prog 58 = false := by kernel_rfl
@[go_sem] theorem bsl_58 : bsl Tryz.prog 58 = false := by kernel_rfl
@[go_sem] theorem isIf_58 : isIf Tryz.prog 58 = false := by kernel_rfl
@[go_sem] theorem tk_59 : tk Tryz.prog 59 = some (false, 1) := by kernel_rfl
@[go_sem] theorem und_59 : (Tryz.prog.underlying 59).isSome = true := by kernel_rfl
@[go_sem] theorem slk_59 : slk Tryz.prog 59 = none := by kernel_rfl
@[go_sem] theorem ark_59 : ark Tryz.prog 59 = none := by kernel_rfl
@[go_sem] theorem isStr_59 : isStr Tryz.prog 59 = false := by kernel_rfl
@[go_sem] theorem isBool_59 : isBool Tryz.prog 59 = false := by kernel_rfl
@[go_sem] theorem notInt_59 : notInt Tryz.prog 59 = true := by kernel_rfl
@[go_sem] theorem zk_59 : zk Tryz.prog 59 = some [Value.nilFunc] := by kernel_rfl
@[go_sem] theorem arn_59 : arn Tryz.prog 59 = none := by kernel_rfl
@[go_sem] theorem bldk_59 : bldk Tryz.prog 59 = false := by kernel_rfl
@[go_sem] theorem bsl_59 : bsl Tryz.prog 59 = false := by kernel_rfl
@[go_sem] theorem isIf_59 : isIf Tryz.prog 59 = false := by kernel_rfl
@[go_sem] theorem tk_60 : tk Tryz.prog 60 = some (false, 1) := by kernel_rfl
@[go_sem] theorem und_60 : (Tryz.prog.underlying 60).isSome = true := by kernel_rfl
@[go_sem] theorem slk_60 : slk Tryz.prog 60 = none := by kernel_rfl
@[go_sem] theorem ark_60 : ark Tryz.prog 60 = none := by kernel_rfl
@[go_sem] theorem isStr_60 : isStr Tryz.prog 60 = false := by kernel_rfl
@[go_sem] theorem isBool_60 : isBool Tryz.prog 60 = false := by kernel_rfl
@[go_sem] theorem notInt_60 : notInt Tryz.prog 60 = true := by kernel_rfl
@[go_sem] theorem zk_60 : zk Tryz.prog 60 = some [Value.nilFunc] := by kernel_rfl
@[go_sem] theorem arn_60 : arn Tryz.prog 60 = none := by kernel_rfl
@[go_sem] theorem bldk_60 : bldk Tryz.prog 60 = false := by kernel_rfl
@[go_sem] theorem bsl_60 : bsl Tryz.prog 60 = false := by kernel_rfl
@[go_sem] theorem isIf_60 : isIf Tryz.prog 60 = false := by kernel_rfl
@[go_sem] theorem tk_61 : tk Tryz.prog 61 = some (false, 1) := by kernel_rfl
@[go_sem] theorem und_61 : (Tryz.prog.underlying 61).isSome = true := by kernel_rfl
@[go_sem] theorem slk_61 : slk Tryz.prog 61 = none := by kernel_rfl
@[go_sem] theorem ark_61 : ark Tryz.prog 61 = none := by kernel_rfl
@[go_sem] theorem isStr_61 : isStr Tryz.prog 61 = false := by kernel_rfl
@[go_sem] theorem isBool_61 : isBool Tryz.prog 61 = false := by kernel_rfl
@[go_sem] theorem notInt_61 : notInt Tryz.prog 61 = true := by kernel_rfl
@[go_sem] theorem zk_61 : zk Tryz.prog 61 = some [Value.nilFunc] := by kernel_rfl
@[go_sem] theorem arn_61 : arn Tryz.prog 61 = none := by kernel_rfl
@[go_sem] theorem bldk_61 : bldk Tryz.prog 61 = false := by kernel_rfl
@[go_sem] theorem bsl_61 : bsl Tryz.prog 61 = false := by kernel_rfl
@[go_sem] theorem isIf_61 : isIf Tryz.prog 61 = false := by kernel_rfl
@[go_sem] theorem tk_62 : tk Tryz.prog 62 = some (false, 1) := by kernel_rfl
@[go_sem] theorem und_62 : (Tryz.prog.underlying 62).isSome = true := by kernel_rfl
@[go_sem] theorem slk_62 : slk Tryz.prog 62 = none := by kernel_rfl
@[go_sem] theorem ark_62 : ark Tryz.prog 62 = none := by kernel_rfl
@[go_sem] theorem isStr_62 : isStr Tryz.prog 62 = false := by kernel_rfl
@[go_sem] theorem isBool_62 : isBool Tryz.prog 62 = false := by kernel_rfl
@[go_sem] theorem notInt_62 : notInt Tryz.prog 62 = true := by kernel_rfl
@[go_sem] theorem zk_62 : zk Tryz.prog 62 = some [Value.nilFunc] := by kernel_rfl
@[go_sem] theorem arn_62 : arn Tryz.prog 62 = none := by kernel_rfl
@[go_sem] theorem bldk_62 : bldk Tryz.prog 62 = false := by kernel_rfl
@[go_sem] theorem bsl_62 : bsl Tryz.prog 62 = false := by kernel_rfl
@[go_sem] theorem isIf_62 : isIf Tryz.prog 62 = false := by kernel_rfl
@[go_sem] theorem tk_63 : tk Tryz.prog 63 = some (false, 1) := by kernel_rfl
@[go_sem] theorem und_63 : (Tryz.prog.underlying 63).isSome = true := by kernel_rfl
@[go_sem] theorem slk_63 : slk Tryz.prog 63 = none := by kernel_rfl
@[go_sem] theorem ark_63 : ark Tryz.prog 63 = none := by kernel_rfl
@[go_sem] theorem isStr_63 : isStr Tryz.prog 63 = false := by kernel_rfl
@[go_sem] theorem isBool_63 : isBool Tryz.prog 63 = false := by kernel_rfl
@[go_sem] theorem notInt_63 : notInt Tryz.prog 63 = true := by kernel_rfl
@[go_sem] theorem zk_63 : zk Tryz.prog 63 = some [Value.nilFunc] := by kernel_rfl
@[go_sem] theorem arn_63 : arn Tryz.prog 63 = none := by kernel_rfl
@[go_sem] theorem bldk_63 : bldk Tryz.prog 63 = false := by kernel_rfl
@[go_sem] theorem bsl_63 : bsl Tryz.prog 63 = false := by kernel_rfl
@[go_sem] theorem isIf_63 : isIf Tryz.prog 63 = false := by kernel_rfl
@[go_sem] theorem tk_64 : tk Tryz.prog 64 = some (false, 1) := by kernel_rfl
@[go_sem] theorem und_64 : (Tryz.prog.underlying 64).isSome = true := by kernel_rfl
@[go_sem] theorem slk_64 : slk Tryz.prog 64 = none := by kernel_rfl
@[go_sem] theorem ark_64 : ark Tryz.prog 64 = none := by kernel_rfl
@[go_sem] theorem isStr_64 : isStr Tryz.prog 64 = false := by kernel_rfl
@[go_sem] theorem isBool_64 : isBool Tryz.prog 64 = false := by kernel_rfl
@[go_sem] theorem notInt_64 : notInt Tryz.prog 64 = true := by kernel_rfl
@[go_sem] theorem zk_64 : zk Tryz.prog 64 = some [Value.tuple { toList := [Value.bool false, Value.int IntKind.i64 (Int.ofNat 0)] }] := by kernel_rfl
@[go_sem] theorem arn_64 : arn Tryz.prog 64 = none := by kernel_rfl
@[go_sem] theorem bldk_64 : bldk Tryz.prog 64 = false := by kernel_rfl
@[go_sem] theorem bsl_64 : bsl Tryz.prog 64 = false := by kernel_rfl
@[go_sem] theorem isIf_64 : isIf Tryz.prog 64 = false := by kernel_rfl
@[go_sem] theorem tk_65 : tk Tryz.prog 65 = some (false, 1) := by kernel_rfl
@[go_sem] theorem und_65 : (Tryz.prog.underlying 65).isSome = true := by kernel_rfl
@[go_sem] theorem slk_65 : slk Tryz.prog 65 = none := by kernel_rfl
@[go_sem] theorem ark_65 : ark Tryz.prog 65 = none := by kernel_rfl
@[go_sem] theorem isStr_65 : isStr Tryz.prog 65 = false := by kernel_rfl
@[go_sem] theorem isBool_65 : isBool Tryz.prog 65 = false := by kernel_rfl
@[go_sem] theorem notInt_65 : notInt Tryz.prog 65 = true := by kernel_rfl
@[go_sem] theorem zk_65 : zk Tryz.prog 65 = some [Value.nilFunc] := by kernel_rfl
@[go_sem] theorem arn_65 : arn Tryz.prog 65 = none := by kernel_rfl
@[go_sem] theorem bldk_65 : bldk Tryz.prog 65 = false := by kernel_rfl
@[go_sem] theorem bsl_65 : bsl Tryz.prog 65 = false := by kernel_rfl
@[go_sem] theorem isIf_65 : isIf Tryz.prog 65 = false := by kernel_rfl
@[go_sem] theorem tk_66 : tk Tryz.prog 66 = some (false, 1) := by kernel_rfl
@[go_sem] theorem und_66 : (Tryz.prog.underlying 66).isSome = true := by kernel_rfl
@[go_sem] theorem slk_66 : slk Tryz.prog 66 = none := by kernel_rfl
@[go_sem] theorem ark_66 : ark Tryz.prog 66 = none := by kernel_rfl
@[go_sem] theorem isStr_66 : isStr Tryz.prog 66 = false := by kernel_rfl
@[go_sem] theorem isBool_66 : isBool Tryz.prog 66 = false := by kernel_rfl
@[go_sem] theorem notInt_66 : notInt Tryz.prog 66 = true := by kernel_rfl
@[go_sem] theorem zk_66 : zk Tryz.prog 66 = some [Value.nilFunc] := by kernel_rfl
@[go_sem] theorem arn_66 : arn Tryz.prog 66 = none := by kernel_rfl
@[go_sem] theorem bldk_66 : bldk Tryz.prog 66 = false := by kernel_rfl
@[go_sem] theorem bsl_66 : bsl Tryz.prog 66 = false := by kernel_rfl
@[go_sem] theorem isIf_66 : isIf Tryz.prog 66 = false := by kernel_rfl
@[go_sem] theorem tk_67 : tk Tryz.prog 67 = some (false, 1) := by kernel_rfl
@[go_sem] theorem und_67 : (Tryz.prog.underlying 67).isSome = true := by kernel_rfl
@[go_sem] theorem slk_67 : slk Tryz.prog 67 = none := by kernel_rfl
@[go_sem] theorem ark_67 : ark Tryz.prog 67 = none := by kernel_rfl
@[go_sem] theorem isStr_67 : isStr Tryz.prog 67 = false := by kernel_rfl
@[go_sem] theorem isBool_67 : isBool Tryz.prog 67 = false := by kernel_rfl
@[go_sem] theorem notInt_67 : notInt Tryz.prog 67 = true := by kernel_rfl
@[go_sem] theorem zk_67 : zk Tryz.prog 67 = some [Value.nilFunc] := by kernel_rfl
@[go_sem] theorem arn_67 : arn Tryz.prog 67 = none := by kernel_rfl
@[go_sem] theorem bldk_67 : bldk Tryz.prog 67 = false := by kernel_rfl
@[go_sem] theorem bsl_67 : bsl Tryz.prog 67 = false := by kernel_rfl
@[go_sem] theorem isIf_67 : isIf Tryz.prog 67 = false := by kernel_rfl
@[go_sem] theorem tk_68 : tk Tryz.prog 68 = some (false, 1) := by kernel_rfl
@[go_sem] theorem und_68 : (Tryz.prog.underlying 68).isSome = true := by kernel_rfl
@[go_sem] theorem slk_68 : slk Tryz.prog 68 = some (2, 1, 8) := by kernel_rfl
@[go_sem] theorem ark_68 : ark Tryz.prog 68 = none := by kernel_rfl
@[go_sem] theorem isStr_68 : isStr Tryz.prog 68 = false := by kernel_rfl
@[go_sem] theorem isBool_68 : isBool Tryz.prog 68 = false := by kernel_rfl
@[go_sem] theorem notInt_68 : notInt Tryz.prog 68 = true := by kernel_rfl
@[go_sem] theorem zk_68 : zk Tryz.prog 68 = some [Value.slice none 0 0] := by kernel_rfl
@[go_sem] theorem elemZ_68 : elemZ Tryz.prog 68 = some [Value.int IntKind.i64 (Int.ofNat 0)] := by kernel_rfl
@[go_sem] theorem arn_68 : arn Tryz.prog 68 = none := by kernel_rfl
@[go_sem] theorem bldk_68 : bldk Tryz.prog 68 = false := by kernel_rfl
@[go_sem] theorem bsl_68 : bsl Tryz.prog 68 = false := by kernel_rfl
@[go_sem] theorem isIf_68 : isIf Tryz.prog 68 = false := by kernel_rfl
@[go_sem] theorem isSl_68 : isSl Tryz.prog 68 = true := by kernel_rfl
@[go_sem] theorem tk_69 : tk Tryz.prog 69 = some (false, 1) := by kernel_rfl
@[go_sem] theorem und_69 : (Tryz.prog.underlying 69).isSome = true := by kernel_rfl
@[go_sem] theorem slk_69 : slk Tryz.prog 69 = none := by kernel_rfl
@[go_sem] theorem ark_69 : ark Tryz.prog 69 = none := by kernel_rfl
@[go_sem] theorem isStr_69 : isStr Tryz.prog 69 = false := by kernel_rfl
@[go_sem] theorem isBool_69 : isBool Tryz.prog 69 = false := by kernel_rfl
@[go_sem] theorem notInt_69 : notInt Tryz.prog 69 = true := by kernel_rfl
@[go_sem] theorem zk_69 : zk Tryz.prog 69 = some [Value.tuple { toList := [Value.slice none 0 0, Value.int IntKind.i64 (Int.ofNat 0)] }] := by kernel_rfl
@[go_sem] theorem arn_69 : arn Tryz.prog 69 = none := by kernel_rfl
@[go_sem] theorem bldk_69 : bldk Tryz.prog 69 = false := by kernel_rfl
@[go_sem] theorem bsl_69 : bsl Tryz.prog 69 = false := by kernel_rfl
@[go_sem] theorem isIf_69 : isIf Tryz.prog 69 = false := by kernel_rfl
@[go_sem] theorem tk_70 : tk Tryz.prog 70 = some (false, 1) := by kernel_rfl
@[go_sem] theorem und_70 : (Tryz.prog.underlying 70).isSome = true := by kernel_rfl
@[go_sem] theorem slk_70 : slk Tryz.prog 70 = none := by kernel_rfl
@[go_sem] theorem ark_70 : ark Tryz.prog 70 = none := by kernel_rfl
@[go_sem] theorem isStr_70 : isStr Tryz.prog 70 = false := by kernel_rfl
@[go_sem] theorem isBool_70 : isBool Tryz.prog 70 = false := by kernel_rfl
@[go_sem] theorem notInt_70 : notInt Tryz.prog 70 = true := by kernel_rfl
@[go_sem] theorem zk_70 : zk Tryz.prog 70 = some [Value.nilFunc] := by kernel_rfl
@[go_sem] theorem arn_70 : arn Tryz.prog 70 = none := by kernel_rfl
@[go_sem] theorem bldk_70 : bldk Tryz.prog 70 = false := by kernel_rfl
@[go_sem] theorem bsl_70 : bsl Tryz.prog 70 = false := by kernel_rfl
@[go_sem] theorem isIf_70 : isIf Tryz.prog 70 = false := by kernel_rfl
@[go_sem] theorem tk_71 : tk Tryz.prog 71 = some (false, 1) := by kernel_rfl
@[go_sem] theorem und_71 : (Tryz.prog.underlying 71).isSome = true := by kernel_rfl
@[go_sem] theorem slk_71 : slk Tryz.prog 71 = none := by kernel_rfl
@[go_sem] theorem ark_71 : ark Tryz.prog 71 = none := by kernel_rfl
@[go_sem] theorem isStr_71 : isStr Tryz.prog 71 = false := by kernel_rfl
@[go_sem] theorem isBool_71 : isBool Tryz.prog 71 = false := by kernel_rfl
@[go_sem] theorem notInt_71 : notInt Tryz.prog 71 = true := by kernel_rfl
@[go_sem] theorem zk_71 : zk Tryz.prog 71 = some [Value.nilFunc] := by kernel_rfl
@[go_sem] theorem arn_71 : arn Tryz.prog 71 = none := by kernel_rfl
@[go_sem] theorem bldk_71 : bldk Tryz.prog 71 = false := by kernel_rfl
@[go_sem] theorem bsl_71 : bsl Tryz.prog 71 = false := by kernel_rfl
@[go_sem] theorem isIf_71 : isIf Tryz.prog 71 = false := by kernel_rfl
@[go_sem] theorem tk_72 : tk Tryz.prog 72 = some (false, 1) := by kernel_rfl
@[go_sem] theorem und_72 : (Tryz.prog.underlying 72).isSome = true := by kernel_rfl
@[go_sem] theorem slk_72 : slk Tryz.prog 72 = some (9, 1, 16) := by kernel_rfl
@[go_sem] theorem ark_72 : ark Tryz.prog 72 = none := by kernel_rfl
@[go_sem] theorem isStr_72 : isStr Tryz.prog 72 = false := by kernel_rfl
@[go_sem] theorem isBool_72 : isBool Tryz.prog 72 = false := by kernel_rfl
@[go_sem] theorem notInt_72 : notInt Tryz.prog 72 = true := by kernel_rfl
@[go_sem] theorem zk_72 : zk Tryz.prog 72 = some [Value.slice none 0 0] := by kernel_rfl
@[go_sem] theorem elemZ_72 : elemZ Tryz.prog 72 = some [Value.string { data := { toList := [] } }] := by kernel_rfl
@[go_sem] theorem arn_72 : arn Tryz.prog 72 = none := by kernel_rfl
@[go_sem] theorem bldk_72 : bldk Tryz.prog 72 = false := by kernel_rfl
@[go_sem] theorem bsl_72 : bsl Tryz.prog 72 = false := by kernel_rfl
@[go_sem] theorem isIf_72 : isIf Tryz.prog 72 = false := by kernel_rfl
@[go_sem] theorem isSl_72 : isSl Tryz.prog 72 = true := by kernel_rfl
@[go_sem] theorem tk_73 : tk Tryz.prog 73 = some (false, 1) := by kernel_rfl
@[go_sem] theorem und_73 : (Tryz.prog.underlying 73).isSome = true := by kernel_rfl
@[go_sem] theorem slk_73 : slk Tryz.prog 73 = some (114, 2, 32) := by kernel_rfl
@[go_sem] theorem ark_73 : ark Tryz.prog 73 = none := by kernel_rfl
@[go_sem] theorem isStr_73 : isStr Tryz.prog 73 = false := by kernel_rfl
@[go_sem] theorem isBool_73 : isBool Tryz.prog 73 = false := by kernel_rfl
@[go_sem] theorem notInt_73 : notInt Tryz.prog 73 = true := by kernel_rfl
@[go_sem] theorem zk_73 : zk Tryz.prog 73 = some [Value.slice none 0 0] := by kernel_rfl
@[go_sem] theorem elemZ_73 : elemZ Tryz.prog 73 = some [Value.int IntKind.i64 (Int.ofNat 0), Value.slice none 0 0] := by kernel_rfl
@[go_sem] theorem arn_73 : arn Tryz.prog 73 = none := by kernel_rfl
@[go_sem] theorem bldk_73 : bldk Tryz.prog 73 = false := by kernel_rfl
@[go_sem] theorem bsl_73 : bsl Tryz.prog 73 = false := by kernel_rfl
@[go_sem] theorem isIf_73 : isIf Tryz.prog 73 = false := by kernel_rfl
@[go_sem] theorem isSl_73 : isSl Tryz.prog 73 = true := by kernel_rfl
@[go_sem] theorem tk_74 : tk Tryz.prog 74 = some (true, 3) := by kernel_rfl
@[go_sem] theorem und_74 : (Tryz.prog.underlying 74).isSome = true := by kernel_rfl
@[go_sem] theorem slk_74 : slk Tryz.prog 74 = none := by kernel_rfl
@[go_sem] theorem ark_74 : ark Tryz.prog 74 = none := by kernel_rfl
@[go_sem] theorem isStr_74 : isStr Tryz.prog 74 = false := by kernel_rfl
@[go_sem] theorem isBool_74 : isBool Tryz.prog 74 = false := by kernel_rfl
@[go_sem] theorem notInt_74 : notInt Tryz.prog 74 = true := by kernel_rfl
@[go_sem] theorem flk_74 : flk Tryz.prog 74 = some [(0, 1), (1, 1), (2, 1)] := by kernel_rfl
@[go_sem] theorem zk_74 : zk Tryz.prog 74 = some [Value.string { data := { toList := [] } }, Value.slice none 0 0, Value.slice none 0 0] := by kernel_rfl
@[go_sem] theorem arn_74 : arn Tryz.prog 74 = none := by kernel_rfl
@[go_sem] theorem bldk_74 : bldk Tryz.prog 74 = false := by kernel_rfl
@[go_sem] theorem bsl_74 : bsl Tryz.prog 74 = false := by kernel_rfl
@[go_sem] theorem isIf_74 : isIf Tryz.prog 74 = false := by kernel_rfl
@[go_sem] theorem fdk_74_0 : fdk Tryz.prog 74 0 = some (0, false, 1) := by kernel_rfl
@[go_sem] theorem fdk_74_1 : fdk Tryz.prog 74 1 = some (1, false, 1) := by kernel_rfl
@[go_sem] theorem fdk_74_2 : fdk Tryz.prog 74 2 = some (2, false, 1) := by kernel_rfl
@[go_sem] theorem tk_75 : tk Tryz.prog 75 = some (true, 3) := by kernel_rfl
@[go_sem] theorem und_75 : (Tryz.prog.underlying 75).isSome = true := by kernel_rfl
@[go_sem] theorem slk_75 : slk Tryz.prog 75 = none := by kernel_rfl
@[go_sem] theorem ark_75 : ark Tryz.prog 75 = none := by kernel_rfl
@[go_sem] theorem isStr_75 : isStr Tryz.prog 75 = false := by kernel_rfl
@[go_sem] theorem isBool_75 : isBool Tryz.prog 75 = false := by kernel_rfl
@[go_sem] theorem notInt_75 : notInt Tryz.prog 75 = true := by kernel_rfl
@[go_sem] theorem flk_75 : flk Tryz.prog 75 = some [(0, 1), (1, 1), (2, 1)] := by kernel_rfl
@[go_sem] theorem zk_75 : zk Tryz.prog 75 = some [Value.string { data := { toList := [] } }, Value.slice none 0 0, Value.slice none 0 0] := by kernel_rfl
@[go_sem] theorem arn_75 : arn Tryz.prog 75 = none := by kernel_rfl
@[go_sem] theorem bldk_75 : bldk Tryz.prog 75 = false := by kernel_rfl
@[go_sem] theorem bsl_75 : bsl Tryz.prog 75 = false := by kernel_rfl
@[go_sem] theorem isIf_75 : isIf Tryz.prog 75 = false := by kernel_rfl
@[go_sem] theorem fdk_75_0 : fdk Tryz.prog 75 0 = some (0, false, 1) := by kernel_rfl
@[go_sem] theorem fdk_75_1 : fdk Tryz.prog 75 1 = some (1, false, 1) := by kernel_rfl
@[go_sem] theorem fdk_75_2 : fdk Tryz.prog 75 2 = some (2, false, 1) := by kernel_rfl
@[go_sem] theorem tk_76 : tk Tryz.prog 76 = some (false, 1) := by kernel_rfl
@[go_sem] theorem und_76 : (Tryz.prog.underlying 76).isSome = true := by kernel_rfl
@[go_sem] theorem slk_76 : slk Tryz.prog 76 = none := by kernel_rfl
@[go_sem] theorem ark_76 : ark Tryz.prog 76 = none := by kernel_rfl
@[go_sem] theorem isStr_76 : isStr Tryz.prog 76 = false := by kernel_rfl
@[go_sem] theorem isBool_76 : isBool Tryz.prog 76 = false := by kernel_rfl
@[go_sem] theorem notInt_76 : notInt Tryz.prog 76 = true := by kernel_rfl
@[go_sem] theorem zk_76 : zk Tryz.prog 76 = some [Value.tuple { toList := [Value.agg { toList := [Value.string { data := { toList := [] } }, Value.slice none 0 0, Value.slice none 0 0] }, Value.bool false] }] := by kernel_rfl
@[go_sem] theorem arn_76 : arn Tryz.prog 76 = none := by kernel_rfl
@[go_sem] theorem bldk_76 : bldk Tryz.prog 76 = false := by kernel_rfl
@[go_sem] theorem bsl_76 : bsl Tryz.prog 76 = false := by kernel_rfl
@[go_sem] theorem isIf_76 : isIf Tryz.prog 76 = false := by kernel_rfl
@[go_sem] theorem tk_77 : tk Tryz.prog 77 = some (false, 1) := by kernel_rfl
@[go_sem] theorem und_77 : (Tryz.prog.underlying 77).isSome = true := by kernel_rfl
@[go_sem] theorem slk_77 : slk Tryz.prog 77 = none := by kernel_rfl
@[go_sem] theorem ark_77 : ark Tryz.prog 77 = none := by kernel_rfl
@[go_sem] theorem isStr_77 : isStr Tryz.prog 77 = false := by kernel_rfl
@[go_sem] theorem isBool_77 : isBool Tryz.prog 77 = false := by kernel_rfl
@[go_sem] theorem notInt_77 : notInt Tryz.prog 77 = true := by kernel_rfl
@[go_sem] theorem zk_77 : zk Tryz.prog 77 = some [Value.nilFunc] := by kernel_rfl
@[go_sem] theorem arn_77 : arn Tryz.prog 77 = none := by kernel_rfl
@[go_sem] theorem bldk_77 : bldk Tryz.prog 77 = false := by kernel_rfl
@[go_sem] theorem bsl_77 : bsl Tryz.prog 77 = false := by kernel_rfl
@[go_sem] theorem isIf_77 : isIf Tryz.prog 77 = false := by kernel_rfl
@[go_sem] theorem tk_78 : tk Tryz.prog 78 = some (false, 1) := by kernel_rfl
@[go_sem] theorem und_78 : (Tryz.prog.underlying 78).isSome = true := by kernel_rfl
@[go_sem] theorem slk_78 : slk Tryz.prog 78 = some (25, 1, 24) := by kernel_rfl
@[go_sem] theorem ark_78 : ark Tryz.prog 78 = none := by kernel_rfl
@[go_sem] theorem isStr_78 : isStr Tryz.prog 78 = false := by kernel_rfl
@[go_sem] theorem isBool_78 : isBool Tryz.prog 78 = false := by kernel_rfl
@[go_sem] theorem notInt_78 : notInt Tryz.prog 78 = true := by kernel_rfl
@[go_sem] theorem zk_78 : zk Tryz.prog 78 = some [Value.slice none 0 0] := by kernel_rfl
@[go_sem] theorem elemZ_78 : elemZ Tryz.prog 78 = some [Value.slice none 0 0] := by kernel_rfl
@[go_sem] theorem arn_78 : arn Tryz.prog 78 = none := by kernel_rfl
@[go_sem] theorem bldk_78 : bldk Tryz.prog 78 = false := by kernel_rfl
@[go_sem] theorem bsl_78 : bsl Tryz.prog 78 = false := by kernel_rfl
@[go_sem] theorem isIf_78 : isIf Tryz.prog 78 = false := by kernel_rfl
@[go_sem] theorem isSl_78 : isSl Tryz.prog 78 = true := by kernel_rfl
@[go_sem] theorem tk_79 : tk Tryz.prog 79 = some (true, 3) := by kernel_rfl
@[go_sem] theorem und_79 : (Tryz.prog.underlying 79).isSome = true := by kernel_rfl
@[go_sem] theorem slk_79 : slk Tryz.prog 79 = none := by kernel_rfl
@[go_sem] theorem ark_79 : ark Tryz.prog 79 = none := by kernel_rfl
@[go_sem] theorem isStr_79 : isStr Tryz.prog 79 = false := by kernel_rfl
@[go_sem] theorem isBool_79 : isBool Tryz.prog 79 = false := by kernel_rfl
@[go_sem] theorem notInt_79 : notInt Tryz.prog 79 = true := by kernel_rfl
@[go_sem] theorem flk_79 : flk Tryz.prog 79 = some [(0, 1), (1, 1), (2, 1)] := by kernel_rfl
@[go_sem] theorem zk_79 : zk Tryz.prog 79 = some [Value.int IntKind.u8 (Int.ofNat 0), Value.int IntKind.u8 (Int.ofNat 0), Value.slice none 0 0] := by kernel_rfl
@[go_sem] theorem arn_79 : arn Tryz.prog 79 = none := by kernel_rfl
@[go_sem] theorem bldk_79 : bldk Tryz.prog 79 = false := by kernel_rfl
@[go_sem] theorem bsl_79 : bsl Tryz.prog 79 = false := by kernel_rfl
@[go_sem] theorem isIf_79 : isIf Tryz.prog 79 = false := by kernel_rfl
@[go_sem] theorem fdk_79_0 : fdk Tryz.prog 79 0 = some (0, false, 1) := by kernel_rfl
@[go_sem] theorem fdk_79_1 : fdk Tryz.prog 79 1 = some (1, false, 1) := by kernel_rfl
@[go_sem] theorem fdk_79_2 : fdk Tryz.prog 79 2 = some (2, false, 1) := by kernel_rfl
@[go_sem] theorem tk_80 : tk Tryz.prog 80 = some (true, 3) := by kernel_rfl
@[go_sem] theorem und_80 : (Tryz.prog.underlying 80).isSome = true := by kernel_rfl
@[go_sem] theorem slk_80 : slk Tryz.prog 80 = none := by kernel_rfl
@[go_sem] theorem ark_80 : ark Tryz.prog 80 = none := by kernel_rfl
@[go_sem] theorem isStr_80 : isStr Tryz.prog 80 = false := by kernel_rfl
@[go_sem] theorem isBool_80 : isBool Tryz.prog 80 = false := by kernel_rfl
@[go_sem] theorem notInt_80 : notInt Tryz.prog 80 = true := by kernel_rfl
@[go_sem] theorem flk_80 : flk Tryz.prog 80 = some [(0, 1), (1, 1), (2, 1)] := by kernel_rfl
@[go_sem] theorem zk_80 : zk Tryz.prog 80 = some [Value.int IntKind.u8 (Int.ofNat 0), Value.int IntKind.u8 (Int.ofNat 0), Value.slice none 0 0] := by kernel_rfl
@[go_sem] theorem arn_80 : arn Tryz.prog 80 = none := by kernel_rfl
@[go_sem] theorem bldk_80 : bldk Tryz.prog 80 = false := by kernel_rfl
@[go_sem] theorem bsl_80 : bsl Tryz.prog 80 = false := by kernel_rfl
@[go_sem] theorem isIf_80 : isIf Tryz.prog 80 = false := by kernel_rfl
@[go_sem] theorem fdk_80_0 : fdk Tryz.prog 80 0 = some (0, false, 1) := by kernel_rfl
@[go_sem] theorem fdk_80_1 : fdk Tryz.prog 80 1 = some (1, false, 1) := by kernel_rfl
@[go_sem] theorem fdk_80_2 : fdk Tryz.prog 80 2 = some (2, false, 1) := by kernel_rfl
@[go_sem] theorem tk_81 : tk Tryz.prog 81 = some (false, 1) := by kernel_rfl
@[go_sem] theorem und_81 : (Tryz.prog.underlying 81).isSome = true := by kernel_rfl
@[go_sem] theorem slk_81 : slk Tryz.prog 81 = none := by kernel_rfl
@[go_sem] theorem ark_81 : ark Tryz.prog 81 = none := by kernel_rfl
@[go_sem] theorem isStr_81 : isStr Tryz.prog 81 = false := by kernel_rfl
@[go_sem] theorem isBool_81 : isBool Tryz.prog 81 = false := by kernel_rfl
@[go_sem] theorem notInt_81 : notInt Tryz.prog 81 = true := by kernel_rfl
@[go_sem] theorem zk_81 : zk Tryz.prog 81 = some [Value.nilFunc] := by kernel_rfl
@[go_sem] theorem arn_81 : arn Tryz.prog 81 = none := by kernel_rfl
@[go_sem] theorem bldk_81 : bldk Tryz.prog 81 = false := by kernel_rfl
@[go_sem] theorem bsl_81 : bsl Tryz.prog 81 = false := by kernel_rfl
@[go_sem] theorem isIf_81 : isIf Tryz.prog 81 = false := by kernel_rfl
@[go_sem] theorem tk_82 : tk Tryz.prog 82 = some (false, 1) := by kernel_rfl
@[go_sem] theorem und_82 : (Tryz.prog.underlying 82).isSome = true := by kernel_rfl
@[go_sem] theorem slk_82 : slk Tryz.prog 82 = none := by kernel_rfl
@[go_sem] theorem ark_82 : ark Tryz.prog 82 = none := by kernel_rfl
@[go_sem] theorem isStr_82 : isStr Tryz.prog 82 = false := by kernel_rfl
@[go_sem] theorem isBool_82 : isBool Tryz.prog 82 = false := by kernel_rfl
@[go_sem] theorem notInt_82 : notInt Tryz.prog 82 = true := by kernel_rfl
@[go_sem] theorem zk_82 : zk Tryz.prog 82 = some [Value.nilFunc] := by kernel_rfl
@[go_sem] theorem arn_82 : arn Tryz.prog 82 = none := by kernel_rfl
@[go_sem] theorem bldk_82 : bldk Tryz.prog 82 = false := by kernel_rfl
@[go_sem] theorem bsl_82 : bsl Tryz.prog 82 = false := by kernel_rfl
@[go_sem] theorem isIf_82 : isIf Tryz.prog 82 = false := by kernel_rfl
@[go_sem] theorem tk_83 : tk Tryz.prog 83 = some (false, 1) := by kernel_rfl
@[go_sem] theorem und_83 : (Tryz.prog.underlying 83).isSome = true := by kernel_rfl
@[go_sem] theorem slk_83 : slk Tryz.prog 83 = none := by kernel_rfl
@[go_sem] theorem ark_83 : ark Tryz.prog 83 = none := by kernel_rfl
@[go_sem] theorem isStr_83 : isStr Tryz.prog 83 = false := by kernel_rfl
@[go_sem] theorem isBool_83 : isBool Tryz.prog 83 = false := by kernel_rfl
@[go_sem] theorem notInt_83 : notInt Tryz.prog 83 = true := by kernel_rfl
@[go_sem] theorem zk_83 : zk Tryz.prog 83 = some [Value.nilFunc] := by kernel_rfl
@[go_sem] theorem arn_83 : arn Tryz.prog 83 = none := by kernel_rfl
@[go_sem] theorem bldk_83 : bldk Tryz.prog 83 = false := by kernel_rfl
@[go_sem] theorem bsl_83 : bsl Tryz.prog 83 = false := by kernel_rfl
@[go_sem] theorem isIf_83 : isIf Tryz.prog 83 = false := by kernel_rfl
@[go_sem] theorem tk_84 : tk Tryz.prog 84 = some (false, 1) := by kernel_rfl
@[go_sem] theorem und_84 : (Tryz.prog.underlying 84).isSome = true := by kernel_rfl
@[go_sem] theorem slk_84 : slk Tryz.prog 84 = some (90, 5, 80) := by kernel_rfl
@[go_sem] theorem ark_84 : ark Tryz.prog 84 = none := by kernel_rfl
@[go_sem] theorem isStr_84 : isStr Tryz.prog 84 = false := by kernel_rfl
@[go_sem] theorem isBool_84 : isBool Tryz.prog 84 = false := by kernel_rfl
@[go_sem] theorem notInt_84 : notInt Tryz.prog 84 = true := by kernel_rfl
@[go_sem] theorem zk_84 : zk Tryz.prog 84 = some [Value.slice none 0 0] := by kernel_rfl
@[go_sem] theorem elemZ_84 : elemZ Tryz.prog 84 = some [Value.string { data := { toList := [] } }, Value.slice none 0 0, Value.int IntKind.i64 (Int.ofNat 0), Value.int IntKind.i64 (Int.ofNat 0), Value.slice none 0 0] := by kernel_rfl
@[go_sem] theorem arn_84 : arn Tryz.prog 84 = none := by kernel_rfl
@[go_sem] theorem bldk_84 : bldk Tryz.prog 84 = false := by kernel_rfl
@[go_sem] theorem bsl_84 : bsl Tryz.prog 84 = false := by kernel_rfl
@[go_sem] theorem isIf_84 : isIf Tryz.prog 84 = false := by kernel_rfl
@[go_sem] theorem isSl_84 : isSl Tryz.prog 84 = true := by kernel_rfl
@[go_sem] theorem tk_85 : tk Tryz.prog 85 = some (false, 1) := by kernel_rfl
@[go_sem] theorem und_85 : (Tryz.prog.underlying 85).isSome = true := by kernel_rfl
@[go_sem] theorem slk_85 : slk Tryz.prog 85 = none := by kernel_rfl
@[go_sem] theorem ark_85 : ark Tryz.prog 85 = none := by kernel_rfl
@[go_sem] theorem isStr_85 : isStr Tryz.prog 85 = false := by kernel_rfl
@[go_sem] theorem isBool_85 : isBool Tryz.prog 85 = false := by kernel_rfl
@[go_sem] theorem notInt_85 : notInt Tryz.prog 85 = true := by kernel_rfl
@[go_sem] theorem zk_85 : zk Tryz.prog 85 = some [Value.tuple { toList := [Value.slice none 0 0, Value.int IntKind.i64 (Int.ofNat 0), Value.int IntKind.i64 (Int.ofNat 0)] }] := by kernel_rfl
@[go_sem] theorem arn_85 : arn Tryz.prog 85 = none := by kernel_rfl
@[go_sem] theorem bldk_85 : bldk Tryz.prog 85 = false := by kernel_rfl
@[go_sem] theorem bsl_85 : bsl Tryz.prog 85 = false := by kernel_rfl
@[go_sem] theorem isIf_85 : isIf Tryz.prog 85 = false := by kernel_rfl
@[go_sem] theorem tk_86 : tk Tryz.prog 86 = some (false, 1) := by kernel_rfl
@[go_sem] theorem und_86 : (Tryz.prog.underlying 86).isSome = true := by kernel_rfl
@[go_sem] theorem slk_86 : slk Tryz.prog 86 = none := by kernel_rfl
@[go_sem] theorem ark_86 : ark Tryz.prog 86 = none := by kernel_rfl
@[go_sem] theorem isStr_86 : isStr Tryz.prog 86 = false := by kernel_rfl
@[go_sem] theorem isBool_86 : isBool Tryz.prog 86 = false := by kernel_rfl
@[go_sem] theorem notInt_86 : notInt Tryz.prog 86 = true := by kernel_rfl
@[go_sem] theorem zk_86 : zk Tryz.prog 86 = some [Value.nilFunc] := by kernel_rfl
@[go_sem] theorem arn_86 : arn Tryz.prog 86 = none := by kernel_rfl
@[go_sem] theorem bldk_86 : bldk Tryz.prog 86 = false := by kernel_rfl
@[go_sem] theorem bsl_86 : bsl Tryz.prog 86 = false := by kernel_rfl
@[go_sem] theorem isIf_86 : isIf Tryz.prog 86 = false := by kernel_rfl
@[go_sem] theorem tk_87 : tk Tryz.prog 87 = some (true, 2) := by kernel_rfl
@[go_sem] theorem und_87 : (Tryz.prog.underlying 87).isSome = true := by kernel_rfl
@[go_sem] theorem slk_87 : slk Tryz.prog 87 = none := by kernel_rfl
@[go_sem] theorem ark_87 : ark Tryz.prog 87 = none := by kernel_rfl
@[go_sem] theorem isStr_87 : isStr Tryz.prog 87 = false := by kernel_rfl
@[go_sem] theorem isBool_87 : isBool Tryz.prog 87 = false := by kernel_rfl
@[go_sem] theorem notInt_87 : notInt Tryz.prog 87 = true := by kernel_rfl
@[go_sem] theorem flk_87 : flk Tryz.prog 87 = some [(0, 1), (1, 1)] := by kernel_rfl
@[go_sem] theorem zk_87 : zk Tryz.prog 87 = some [Value.int IntKind.i64 (Int.ofNat 0), Value.slice none 0 0] := by kernel_rfl
@[go_sem] theorem arn_87 : arn Tryz.prog 87 = none := by kernel_rfl
@[go_sem] theorem bldk_87 : bldk Tryz.prog 87 = false := by kernel_rfl
@[go_sem] theorem bsl_87 : bsl Tryz.prog 87 = false := by kernel_rfl
@[go_sem] theorem isIf_87 : isIf Tryz.prog 87 = false := by kernel_rfl
@[go_sem] theorem fdk_87_0 : fdk Tryz.prog 87 0 = some (0, false, 1) := by kernel_rfl
@[go_sem] theorem fdk_87_1 : fdk Tryz.prog 87 1 = some (1, false, 1) := by kernel_rfl
@[go_sem] theorem tk_88 : tk Tryz.prog 88 = some (true, 2) := by kernel_rfl
@[go_sem] theorem und_88 : (Tryz.prog.underlying 88).isSome = true := by kernel_rfl
@[go_sem] theorem slk_88 : slk Tryz.prog 88 = none := by kernel_rfl
@[go_sem] theorem ark_88 : ark Tryz.prog 88 = none := by kernel_rfl
@[go_sem] theorem isStr_88 : isStr Tryz.prog 88 = false := by kernel_rfl
@[go_sem] theorem isBool_88 : isBool Tryz.prog 88 = false := by kernel_rfl
@[go_sem] theorem notInt_88 : notInt Tryz.prog 88 = true := by kernel_rfl
@[go_sem] theorem flk_88 : flk Tryz.prog 88 = some [(0, 1), (1, 1)] := by kernel_rfl
@[go_sem] theorem zk_88 : zk Tryz.prog 88 = some [Value.int IntKind.i64 (Int.ofNat 0), Value.slice none 0 0] := by kernel_rfl
@[go_sem] theorem arn_88 : arn Tryz.prog 88 = none := by kernel_rfl
@[go_sem] theorem bldk_88 : bldk Tryz.prog 88 = false := by kernel_rfl
@[go_sem] theorem bsl_88 : bsl Tryz.prog 88 = false := by kernel_rfl
@[go_sem] theorem isIf_88 : isIf Tryz.prog 88 = false := by kernel_rfl
@[go_sem] theorem fdk_88_0 : fdk Tryz.prog 88 0 = some (0, false, 1) := by kernel_rfl
@[go_sem] theorem fdk_88_1 : fdk Tryz.prog 88 1 = some (1, false, 1) := by kernel_rfl
@[go_sem] theorem tk_89 : tk Tryz.prog 89 = some (true, 5) := by kernel_rfl
@[go_sem] theorem und_89 : (Tryz.prog.underlying 89).isSome = true := by kernel_rfl
@[go_sem] theorem slk_89 : slk Tryz.prog 89 = none := by kernel_rfl
@[go_sem] theorem ark_89 : ark Tryz.prog 89 = none := by kernel_rfl
@[go_sem] theorem isStr_89 : isStr Tryz.prog 89 = false := by kernel_rfl
@[go_sem] theorem isBool_89 : isBool Tryz.prog 89 = false := by kernel_rfl
@[go_sem] theorem notInt_89 : notInt Tryz.prog 89 = true := by kernel_rfl
@[go_sem] theorem flk_89 : flk Tryz.prog 89 = some [(0, 1), (1, 1), (2, 1), (3, 2)] := by kernel_rfl
@[go_sem] theorem zk_89 : zk Tryz.prog 89 = some [Value.string { data := { toList := [] } }, Value.slice none 0 0, Value.int IntKind.i64 (Int.ofNat 0), Value.int IntKind.i64 (Int.ofNat 0), Value.slice none 0 0] := by kernel_rfl
@[go_sem] theorem arn_89 : arn Tryz.prog 89 = none := by kernel_rfl
@[go_sem] theorem bldk_89 : bldk Tryz.prog 89 = false := by kernel_rfl
@[go_sem] theorem bsl_89 : bsl Tryz.prog 89 = false := by kernel_rfl
@[go_sem] theorem isIf_89 : isIf Tryz.prog 89 = false := by kernel_rfl
@[go_sem] theorem fdk_89_0 : fdk Tryz.prog 89 0 = some (0, false, 1) := by kernel_rfl
@[go_sem] theorem fdk_89_1 : fdk Tryz.prog 89 1 = some (1, false, 1) := by kernel_rfl
@[go_sem] theorem fdk_89_2 : fdk Tryz.prog 89 2 = some (2, false, 1) := by kernel_rfl
@[go_sem] theorem fdk_89_3 : fdk Tryz.prog 89 3 = some (3, true, 2) := by kernel_rfl
@[go_sem] theorem tk_90 : tk Tryz.prog 90 = some (true, 5) := by kernel_rfl
@[go_sem] theorem und_90 : (Tryz.prog.underlying 90).isSome = true := by kernel_rfl
@[go_sem] theorem slk_90 : slk Tryz.prog 90 = none := by kernel_rfl
@[go_sem] theorem ark_90 : ark Tryz.prog 90 = none := by kernel_rfl
@[go_sem] theorem isStr_90 : isStr Tryz.prog 90 = false := by kernel_rfl
@[go_sem] theorem isBool_90 : isBool Tryz.prog 90 = false := by kernel_rfl
@[go_sem] theorem notInt_90 : notInt Tryz.prog 90 = true := by kernel_rfl
@[go_sem] theorem flk_90 : flk Tryz.prog 90 = some [(0, 1), (1, 1), (2, 1), (3, 2)] := by kernel_rfl
@[go_sem] theorem zk_90 : zk Tryz.prog 90 = some [Value.string { data := { toList := [] } }, Value.slice none 0 0, Value.int IntKind.i64 (Int.ofNat 0), Value.int IntKind.i64 (Int.ofNat 0), Value.slice none 0 0] := by kernel_rfl
@[go_sem] theorem arn_90 : arn Tryz.prog 90 = none := by kernel_rfl
@[go_sem] theorem bldk_90 : bldk Tryz.prog 90 = false := by kernel_rfl
@[go_sem] theorem bsl_90 : bsl Tryz.prog 90 = false := by kernel_rfl
@[go_sem] theorem isIf_90 : isIf Tryz.prog 90 = false := by kernel_rfl
@[go_sem] theorem fdk_90_0 : fdk Tryz.prog 90 0 = some (0, false, 1) := by kernel_rfl
@[go_sem] theorem fdk_90_1 : fdk Tryz.prog 90 1 = some (1, false, 1) := by kernel_rfl
@[go_sem] theorem fdk_90_2 : fdk Tryz.prog 90 2 = some (2, false, 1) := by kernel_rfl
@[go_sem] theorem fdk_90_3 : fdk Tryz.prog 90 3 = some (3, true, 2) := by kernel_rfl
@[go_sem] theorem tk_91 : tk Tryz.prog 91 = some (false, 1) := by kernel_rfl
@[go_sem] theorem und_91 : (Tryz.prog.underlying 91).isSome = true := by kernel_rfl
@[go_sem] theorem slk_91 : slk Tryz.prog 91 = none := by kernel_rfl
@[go_sem] theorem ark_91 : ark Tryz.prog 91 = none := by kernel_rfl
@[go_sem] theorem isStr_91 : isStr Tryz.prog 91 = false := by kernel_rfl
@[go_sem] theorem isBool_91 : isBool Tryz.prog 91 = false := by kernel_rfl
@[go_sem] theorem notInt_91 : notInt Tryz.prog 91 = true := by kernel_rfl
@[go_sem] theorem zk_91 : zk Tryz.prog 91 = some [Value.nilFunc] := by kernel_rfl
@[go_sem] theorem arn_91 : arn Tryz.prog 91 = none := by kernel_rfl
@[go_sem] theorem bldk_91 : bldk Tryz.prog 91 = false := by kernel_rfl
@[go_sem] theorem bsl_91 : bsl Tryz.prog 91 = false := by kernel_rfl
@[go_sem] theorem isIf_91 : isIf Tryz.prog 91 = false := by kernel_rfl
@[go_sem] theorem tk_92 : tk Tryz.prog 92 = some (false, 1) := by kernel_rfl
@[go_sem] theorem und_92 : (Tryz.prog.underlying 92).isSome = true := by kernel_rfl
@[go_sem] theorem slk_92 : slk Tryz.prog 92 = some (96, 3, 48) := by kernel_rfl
@[go_sem] theorem ark_92 : ark Tryz.prog 92 = none := by kernel_rfl
@[go_sem] theorem isStr_92 : isStr Tryz.prog 92 = false := by kernel_rfl
@[go_sem] theorem isBool_92 : isBool Tryz.prog 92 = false := by kernel_rfl
@[go_sem] theorem notInt_92 : notInt Tryz.prog 92 = true := by kernel_rfl
@[go_sem] theorem zk_92 : zk Tryz.prog 92 = some [Value.slice none 0 0] := by kernel_rfl
@[go_sem] theorem elemZ_92 : elemZ Tryz.prog 92 = some [Value.string { data := { toList := [] } }, Value.slice none 0 0, Value.int IntKind.i64 (Int.ofNat 0)] := by kernel_rfl
@[go_sem] theorem arn_92 : arn Tryz.prog 92 = none := by kernel_rfl
@[go_sem] theorem bldk_92 : bldk Tryz.prog 92 = false := by kernel_rfl
@[go_sem] theorem bsl_92 : bsl Tryz.prog 92 = false := by kernel_rfl
@[go_sem] theorem isIf_92 : isIf Tryz.prog 92 = false := by kernel_rfl
@[go_sem] theorem isSl_92 : isSl Tryz.prog 92 = true := by kernel_rfl
@[go_sem] theorem tk_93 : tk Tryz.prog 93 = some (false, 1) := by kernel_rfl
@[go_sem] theorem und_93 : (Tryz.prog.underlying 93).isSome = true := by kernel_rfl
@[go_sem] theorem slk_93 : slk Tryz.prog 93 = none := by kernel_rfl
@[go_sem] theorem ark_93 : ark Tryz.prog 93 = none := by kernel_rfl
@[go_sem] theorem isStr_93 : isStr Tryz.prog 93 = false := by kernel_rfl
@[go_sem] theorem isBool_93 : isBool Tryz.prog 93 = false := by kernel_rfl
@[go_sem] theorem notInt_93 : notInt Tryz.prog 93 = true := by kernel_rfl
@[go_sem] theorem zk_93 : zk Tryz.prog 93 = some [Value.nilFunc] := by kernel_rfl
@[go_sem] theorem arn_93 : arn Tryz.prog 93 = none := by kernel_rfl
@[go_sem] theorem bldk_93 : bldk Tryz.prog 93 = false := by kernel_rfl
@[go_sem] theorem bsl_93 : bsl Tryz.prog 93 = false := by kernel_rfl
@[go_sem] theorem isIf_93 : isIf Tryz.prog 93 = false := by kernel_rfl
@[go_sem] theorem tk_94 : tk Tryz.prog 94 = some (false, 1) := by kernel_rfl
@[go_sem] theorem und_94 : (Tryz.prog.underlying 94).isSome = true := by kernel_rfl
@[go_sem] theorem slk_94 : slk Tryz.prog 94 = none := by kernel_rfl
@[go_sem] theorem ark_94 : ark Tryz.prog 94 = none := by kernel_rfl
@[go_sem] theorem isStr_94 : isStr Tryz.prog 94 = false := by kernel_rfl
@[go_sem] theorem isBool_94 : isBool Tryz.prog 94 = false := by kernel_rfl
@[go_sem] theorem notInt_94 : notInt Tryz.prog 94 = true := by kernel_rfl
@[go_sem] theorem zk_94 : zk Tryz.prog 94 = some [Value.nilFunc] := by kernel_rfl
@[go_sem] theorem arn_94 : arn Tryz.prog 94 = none := by kernel_rfl
@[go_sem] theorem bldk_94 : bldk Tryz.prog 94 = false := by kernel_rfl
@[go_sem] theorem bsl_94 : bsl Tryz.prog 94 = false := by kernel_rfl
@[go_sem] theorem isIf_94 : isIf Tryz.prog 94 = false := by kernel_rfl
@[go_sem] theorem tk_95 : tk Tryz.prog 95 = some (true, 3) := by kernel_rfl
@[go_sem] theorem und_95 : (Tryz.prog.underlying 95).isSome = true := by kernel_rfl
@[go_sem] theorem slk_95 : slk Tryz.prog 95 = none := by kernel_rfl
@[go_sem] theorem ark_95 : ark Tryz.prog 95 = none := by kernel_rfl
@[go_sem] theorem isStr_95 : isStr Tryz.prog 95 = false := by kernel_rfl
@[go_sem] theorem isBool_95 : isBool Tryz.prog 95 = false := by kernel_rfl
@[go_sem] theorem notInt_95 : notInt Tryz.prog 95 = true := by kernel_rfl
@[go_sem] theorem flk_95 : flk Tryz.prog 95 = some [(0, 1), (1, 1), (2, 1)] := by kernel_rfl
@[go_sem] theorem zk_95 : zk Tryz.prog 95 = some [Value.string { data := { toList := [] } }, Value.slice none 0 0, Value.int IntKind.i64 (Int.ofNat 0)] := by kernel_rfl
@[go_sem] theorem arn_95 : arn Tryz.prog 95 = none := by kernel_rfl
@[go_sem] theorem bldk_95 : bldk Tryz.prog 95 = false := by kernel_rfl
@[go_sem] theorem bsl_95 : bsl Tryz.prog 95 = false := by kernel_rfl
@[go_sem] theorem isIf_95 : isIf Tryz.prog 95 = false := by kernel_rfl
@[go_sem] theorem fdk_95_0 : fdk Tryz.prog 95 0 = some (0, false, 1) := by kernel_rfl
@[go_sem] theorem fdk_95_1 : fdk Tryz.prog 95 1 = some (1, false, 1) := by kernel_rfl
@[go_sem] theorem fdk_95_2 : fdk Tryz.prog 95 2 = some (2, false, 1) := by kernel_rfl
@[go_sem] theorem tk_96 : tk Tryz.prog 96 = some (true, 3) := by kernel_rfl
@[go_sem] theorem und_96 : (Tryz.prog.underlying 96).isSome = true := by kernel_rfl
@[go_sem] theorem slk_96 : slk Tryz.prog 96 = none := by kernel_rfl
@[go_sem] theorem ark_96 : ark Tryz.prog 96 = none := by kernel_rfl
@[go_sem] theorem isStr_96 : isStr Tryz.prog 96 = false := by kernel_rfl
@[go_sem] theorem isBool_96 : isBool Tryz.prog 96 = false := by kernel_rfl
@[go_sem] theorem notInt_96 : notInt Tryz.prog 96 = true := by kernel_rfl
@[go_sem] theorem flk_96 : flk Tryz.prog 96 = some [(0, 1), (1, 1), (2, 1)] := by kernel_rfl
@[go_sem] theorem zk_96 : zk Tryz.prog 96 = some [Value.string { data := { toList := [] } }, Value.slice none 0 0, Value.int IntKind.i64 (Int.ofNat 0)] := by kernel_rfl
@[go_sem] theorem arn_96 : arn Tryz.prog 96 = none := by kernel_rfl
@[go_sem] theorem bldk_96 : bldk Tryz.prog 96 = false := by kernel_rfl
@[go_sem] theorem bsl_96 : bsl Tryz.prog 96 = false := by kernel_rfl
@[go_sem] theorem isIf_96 : isIf Tryz.prog 96 = false := by kernel_rfl
@[go_sem] theorem fdk_96_0 : fdk Tryz.prog 96 0 = some (0, false, 1) := by kernel_rfl
@[go_sem] theorem fdk_96_1 : fdk Tryz.prog 96 1 = some (1, false, 1) := by kernel_rfl
@[go_sem] theorem fdk_96_2 : fdk Tryz.prog 96 2 = some (2, false, 1) := by kernel_rfl
@[go_sem] theorem tk_97 : tk Tryz.prog 97 = some (false, 1) := by kernel_rfl
@[go_sem] theorem und_97 : (Tryz.prog.underlying 97).isSome = true := by kernel_rfl
@[go_sem] theorem slk_97 : slk Tryz.prog 97 = none := by kernel_rfl
@[go_sem] theorem ark_97 : ark Tryz.prog 97 = none := by kernel_rfl
@[go_sem] theorem isStr_97 : isStr Tryz.prog 97 = false := by kernel_rfl
@[go_sem] theorem isBool_97 : isBool Tryz.prog 97 = false := by kernel_rfl
@[go_sem] theorem notInt_97 : notInt Tryz.prog 97 = true := by kernel_rfl
@[go_sem] theorem zk_97 : zk Tryz.prog 97 = some [Value.nilFunc] := by kernel_rfl
@[go_sem] theorem arn_97 : arn Tryz.prog 97 = none := by kernel_rfl
@[go_sem] theorem bldk_97 : bldk Tryz.prog 97 = false := by kernel_rfl
@[go_sem] theorem bsl_97 : bsl Tryz.prog 97 = false := by kernel_rfl
@[go_sem] theorem isIf_97 : isIf Tryz.prog 97 = false := by kernel_rfl
@[go_sem] theorem tk_98 : tk Tryz.prog 98 = some (false, 1) := by kernel_rfl
@[go_sem] theorem und_98 : (Tryz.prog.underlying 98).isSome = true := by kernel_rfl
@[go_sem] theorem slk_98 : slk Tryz.prog 98 = none := by kernel_rfl
@[go_sem] theorem ark_98 : ark Tryz.prog 98 = none := by kernel_rfl
@[go_sem] theorem isStr_98 : isStr Tryz.prog 98 = false := by kernel_rfl
@[go_sem] theorem isBool_98 : isBool Tryz.prog 98 = false := by kernel_rfl
@[go_sem] theorem notInt_98 : notInt Tryz.prog 98 = true := by kernel_rfl
@[go_sem] theorem zk_98 : zk Tryz.prog 98 = some [Value.nilFunc] := by kernel_rfl
@[go_sem] theorem arn_98 : arn Tryz.prog 98 = none := by kernel_rfl
@[go_sem] theorem bldk_98 : bldk Tryz.prog 98 = false := by kernel_rfl
@[go_sem] theorem bsl_98 : bsl Tryz.prog 98 = false := by kernel_rfl
@[go_sem] theorem isIf_98 : isIf Tryz.prog 98 = false := by kernel_rfl
@[go_sem] theorem tk_99 : tk Tryz.prog 99 = some (false, 1) := by kernel_rfl
@[go_sem] theorem und_99 : (Tryz.prog.underlying 99).isSome = true := by kernel_rfl
@[go_sem] theorem slk_99 : slk Tryz.prog 99 = none := by kernel_rfl
@[go_sem] theorem ark_99 : ark Tryz.prog 99 = none := by kernel_rfl
@[go_sem] theorem isStr_99 : isStr Tryz.prog 99 = false := by kernel_rfl
@[go_sem] theorem isBool_99 : isBool Tryz.prog 99 = false := by kernel_rfl
@[go_sem] theorem notInt_99 : notInt Tryz.prog 99 = true := by kernel_rfl
@[go_sem] theorem zk_99 : zk Tryz.prog 99 = some [Value.pointer none] := by kernel_rfl
@[go_sem] theorem arn_99 : arn Tryz.prog 99 = none := by kernel_rfl
@[go_sem] theorem bldk_99 : bldk Tryz.prog 99 = false := by kernel_rfl
@[go_sem] theorem bsl_99 : bsl Tryz.prog 99 = false := by kernel_rfl
@[go_sem] theorem isIf_99 : isIf Tryz.prog 99 = false := by kernel_rfl
@[go_sem] theorem tk_100 : tk Tryz.prog 100 = some (false, 1) := by kernel_rfl
@[go_sem] theorem und_100 : (Tryz.prog.underlying 100).isSome = true := by kernel_rfl
@[go_sem] theorem slk_100 : slk Tryz.prog 100 = none := by kernel_rfl
@[go_sem] theorem ark_100 : ark Tryz.prog 100 = none := by kernel_rfl
@[go_sem] theorem isStr_100 : isStr Tryz.prog 100 = false := by kernel_rfl
@[go_sem] theorem isBool_100 : isBool Tryz.prog 100 = false := by kernel_rfl
@[go_sem] theorem notInt_100 : notInt Tryz.prog 100 = true := by kernel_rfl
@[go_sem] theorem zk_100 : zk Tryz.prog 100 = some [Value.nilFunc] := by kernel_rfl
@[go_sem] theorem arn_100 : arn Tryz.prog 100 = none := by kernel_rfl
@[go_sem] theorem bldk_100 : bldk Tryz.prog 100 = false := by kernel_rfl
@[go_sem] theorem bsl_100 : bsl Tryz.prog 100 = false := by kernel_rfl
@[go_sem] theorem isIf_100 : isIf Tryz.prog 100 = false := by kernel_rfl
@[go_sem] theorem tk_101 : tk Tryz.prog 101 = some (false, 1) := by kernel_rfl
@[go_sem] theorem und_101 : (Tryz.prog.underlying 101).isSome = true := by kernel_rfl
@[go_sem] theorem slk_101 : slk Tryz.prog 101 = none := by kernel_rfl
@[go_sem] theorem ark_101 : ark Tryz.prog 101 = none := by kernel_rfl
@[go_sem] theorem isStr_101 : isStr Tryz.prog 101 = false := by kernel_rfl
@[go_sem] theorem isBool_101 : isBool Tryz.prog 101 = false := by kernel_rfl
@[go_sem] theorem notInt_101 : notInt Tryz.prog 101 = true := by kernel_rfl
@[go_sem] theorem zk_101 : zk Tryz.prog 101 = some [Value.pointer none] := by kernel_rfl
@[go_sem] theorem arn_101 : arn Tryz.prog 101 = none := by kernel_rfl
@[go_sem] theorem bldk_101 : bldk Tryz.prog 101 = false := by kernel_rfl
@[go_sem] theorem bsl_101 : bsl Tryz.prog 101 = false := by kernel_rfl
@[go_sem] theorem isIf_101 : isIf Tryz.prog 101 = false := by kernel_rfl
@[go_sem] theorem tk_102 : tk Tryz.prog 102 = some (false, 1) := by kernel_rfl
@[go_sem] theorem und_102 : (Tryz.prog.underlying 102).isSome = true := by kernel_rfl
@[go_sem] theorem slk_102 : slk Tryz.prog 102 = some (134, 1, 24) := by kernel_rfl
@[go_sem] theorem ark_102 : ark Tryz.prog 102 = none := by kernel_rfl
@[go_sem] theorem isStr_102 : isStr Tryz.prog 102 = false := by kernel_rfl
@[go_sem] theorem isBool_102 : isBool Tryz.prog 102 = false := by kernel_rfl
@[go_sem] theorem notInt_102 : notInt Tryz.prog 102 = true := by kernel_rfl
@[go_sem] theorem zk_102 : zk Tryz.prog 102 = some [Value.slice none 0 0] := by kernel_rfl
@[go_sem] theorem elemZ_102 : elemZ Tryz.prog 102 = some [Value.slice none 0 0] := by kernel_rfl
@[go_sem] theorem arn_102 : arn Tryz.prog 102 = none := by kernel_rfl
@[go_sem] theorem bldk_102 : bldk Tryz.prog 102 = false := by kernel_rfl
@[go_sem] theorem bsl_102 : bsl Tryz.prog 102 = false := by kernel_rfl
@[go_sem] theorem isIf_102 : isIf Tryz.prog 102 = false := by kernel_rfl
@[go_sem] theorem isSl_102 : isSl Tryz.prog 102 = true := by kernel_rfl
@[go_sem] theorem tk_103 : tk Tryz.prog 103 = some (true, 3) := by kernel_rfl
@[go_sem] theorem und_103 : (Tryz.prog.underlying 103).isSome = true := by kernel_rfl
@[go_sem] theorem slk_103 : slk Tryz.prog 103 = none := by kernel_rfl
@[go_sem] theorem ark_103 : ark Tryz.prog 103 = none := by kernel_rfl
@[go_sem] theorem isStr_103 : isStr Tryz.prog 103 = false := by kernel_rfl
@[go_sem] theorem isBool_103 : isBool Tryz.prog 103 = false := by kernel_rfl
@[go_sem] theorem notInt_103 : notInt Tryz.prog 103 = true := by kernel_rfl
@[go_sem] theorem flk_103 : flk Tryz.prog 103 = some [(0, 1), (1, 1), (2, 1)] := by kernel_rfl
@[go_sem] theorem zk_103 : zk Tryz.prog 103 = some [Value.slice none 0 0, Value.slice none 0 0, Value.int IntKind.i64 (Int.ofNat 0)] := by kernel_rfl
@[go_sem] theorem arn_103 : arn Tryz.prog 103 = none := by kernel_rfl
@[go_sem] theorem bldk_103 : bldk Tryz.prog 103 = false := by kernel_rfl
@[go_sem] theorem bsl_103 : bsl Tryz.prog 103 = false := by kernel_rfl
@[go_sem] theorem isIf_103 : isIf Tryz.prog 103 = false := by kernel_rfl
@[go_sem] theorem fdk_103_0 : fdk Tryz.prog 103 0 = some (0, false, 1) := by kernel_rfl
@[go_sem] theorem fdk_103_1 : fdk Tryz.prog 103 1 = some (1, false, 1) := by kernel_rfl
@[go_sem] theorem fdk_103_2 : fdk Tryz.prog 103 2 = some (2, false, 1) := by kernel_rfl
@[go_sem] theorem tk_104 : tk Tryz.prog 104 = some (true, 3) := by kernel_rfl
@[go_sem] theorem und_104 : (Tryz.prog.underlying 104).isSome = true := by kernel_rfl
@[go_sem] theorem slk_104 : slk Tryz.prog 104 = none := by kernel_rfl
@[go_sem] theorem ark_104 : ark Tryz.prog 104 = none := by kernel_rfl
@[go_sem] theorem isStr_104 : isStr Tryz.prog 104 = false := by kernel_rfl
@[go_sem] theorem isBool_104 : isBool Tryz.prog 104 = false := by kernel_rfl
@[go_sem] theorem notInt_104 : notInt Tryz.prog 104 = true := by kernel_rfl
@[go_sem] theorem flk_104 : flk Tryz.prog 104 = some [(0, 1), (1, 1), (2, 1)] := by kernel_rfl
@[go_sem] theorem zk_104 : zk Tryz.prog 104 = some [Value.slice none 0 0, Value.slice none 0 0, Value.int IntKind.i64 (Int.ofNat 0)] := by kernel_rfl
@[go_sem] theorem arn_104 : arn Tryz.prog 104 = none := by kernel_rfl
@[go_sem] theorem bldk_104 : bldk Tryz.prog 104 = false := by kernel_rfl
@[go_sem] theorem bsl_104 : bsl Tryz.prog 104 = false := by kernel_rfl
@[go_sem] theorem isIf_104 : isIf Tryz.prog 104 = false := by kernel_rfl
@[go_sem] theorem fdk_104_0 : fdk Tryz.prog 104 0 = some (0, false, 1) := by kernel_rfl
@[go_sem] theorem fdk_104_1 : fdk Tryz.prog 104 1 = some (1, false, 1) := by kernel_rfl
@[go_sem] theorem fdk_104_2 : fdk Tryz.prog 104 2 = some (2, false, 1) := by kernel_rfl
@[go_sem] theorem tk_105 : tk Tryz.prog 105 = some (false, 1) := by kernel_rfl
@[go_sem] theorem und_105 : (Tryz.prog.underlying 105).isSome = true := by kernel_rfl
@[go_sem] theorem slk_105 : slk Tryz.prog 105 = none := by kernel_rfl
@[go_sem] theorem ark_105 : ark Tryz.prog 105 = none := by kernel_rfl
@[go_sem] theorem isStr_105 : isStr Tryz.prog 105 = false := by kernel_rfl
@[go_sem] theorem isBool_105 : isBool Tryz.prog 105 = false := by kernel_rfl
@[go_sem] theorem notInt_105 : notInt Tryz.prog 105 = true := by kernel_rfl
@[go_sem] theorem zk_105 : zk Tryz.prog 105 = some [Value.nilFunc] := by kernel_rfl
@[go_sem] theorem arn_105 : arn Tryz.prog 105 = none := by kernel_rfl
@[go_sem] theorem bldk_105 : bldk Tryz.prog 105 = false := by kernel_rfl
@[go_sem] theorem bsl_105 : bsl Tryz.prog 105 = false := by kernel_rfl
@[go_sem] theorem isIf_105 : isIf Tryz.prog 105 = false := by kernel_rfl
@[go_sem] theorem tk_106 : tk Tryz.prog 106 = some (false, 1) := by kernel_rfl
@[go_sem] theorem und_106 : (Tryz.prog.underlying 106).isSome = true := by kernel_rfl
@[go_sem] theorem slk_106 : slk Tryz.prog 106 = none := by kernel_rfl
@[go_sem] theorem ark_106 : ark Tryz.prog 106 = none := by kernel_rfl
@[go_sem] theorem isStr_106 : isStr Tryz.prog 106 = false := by kernel_rfl
@[go_sem] theorem isBool_106 : isBool Tryz.prog 106 = false := by kernel_rfl
@[go_sem] theorem notInt_106 : notInt Tryz.prog 106 = true := by kernel_rfl
@[go_sem] theorem zk_106 : zk Tryz.prog 106 = some [Value.nilFunc] := by kernel_rfl
@[go_sem] theorem arn_106 : arn Tryz.prog 106 = none := by kernel_rfl
@[go_sem] theorem bldk_106 : bldk Tryz.prog 106 = false := by kernel_rfl
@[go_sem] theorem bsl_106 : bsl Tryz.prog 106 = false := by kernel_rfl
@[go_sem] theorem isIf_106 : isIf Tryz.prog 106 = false := by kernel_rfl
@[go_sem] theorem tk_107 : tk Tryz.prog 107 = some (false, 1) := by kernel_rfl
@[go_sem] theorem und_107 : (Tryz.prog.underlying 107).isSome = true := by kernel_rfl
@[go_sem] theorem slk_107 : slk Tryz.prog 107 = none := by kernel_rfl
@[go_sem] theorem ark_107 : ark Tryz.prog 107 = none := by kernel_rfl
@[go_sem] theorem isStr_107 : isStr Tryz.prog 107 = false := by kernel_rfl
@[go_sem] theorem isBool_107 : isBool Tryz.prog 107 = false := by kernel_rfl
@[go_sem] theorem notInt_107 : notInt Tryz.prog 107 = true := by kernel_rfl
@[go_sem] theorem zk_107 : zk Tryz.prog 107 = some [Value.nilFunc] := by kernel_rfl
@[go_sem] theorem arn_107 : arn Tryz.prog 107 = none := by kernel_rfl
@[go_sem] theorem bldk_107 : bldk Tryz.prog 107 = false := by kernel_rfl
@[go_sem] theorem bsl_107 : bsl Tryz.prog 107 = false := by kernel_rfl
@[go_sem] theorem isIf_107 : isIf Tryz.prog 107 = false := by kernel_rfl
@[go_sem] theorem tk_108 : tk Tryz.prog 108 = some (false, 1) := by kernel_rfl
@[go_sem] theorem und_108 : (Tryz.prog.underlying 108).isSome = true := by kernel_rfl
@[go_sem] theorem slk_108 : slk Tryz.prog 108 = some (110, 3, 32) := by kernel_rfl
@[go_sem] theorem ark_108 : ark Tryz.prog 108 = none := by kernel_rfl
@[go_sem] theorem isStr_108 : isStr Tryz.prog 108 = false := by kernel_rfl
@[go_sem] theorem isBool_108 : isBool Tryz.prog 108 = false := by kernel_rfl
@[go_sem] theorem notInt_108 : notInt Tryz.prog 108 = true := by kernel_rfl
@[go_sem] theorem zk_108 : zk Tryz.prog 108 = some [Value.slice none 0 0] := by kernel_rfl
@[go_sem] theorem elemZ_108 : elemZ Tryz.prog 108 = some [Value.int IntKind.i64 (Int.ofNat 0), Value.int IntKind.i64 (Int.ofNat 0), Value.string { data := { toList := [] } }] := by kernel_rfl
@[go_sem] theorem arn_108 : arn Tryz.prog 108 = none := by kernel_rfl
@[go_sem] theorem bldk_108 : bldk Tryz.prog 108 = false := by kernel_rfl
@[go_sem] theorem bsl_108 : bsl Tryz.prog 108 = false := by kernel_rfl
@[go_sem] theorem isIf_108 : isIf Tryz.prog 108 = false := by kernel_rfl
@[go_sem] theorem isSl_108 : isSl Tryz.prog 108 = true := by kernel_rfl
@[go_sem] theorem tk_109 : tk Tryz.prog 109 = some (true, 3) := by kernel_rfl
@[go_sem] theorem und_109 : (Tryz.prog.underlying 109).isSome = true := by kernel_rfl
@[go_sem] theorem slk_109 : slk Tryz.prog 109 = none := by kernel_rfl
@[go_sem] theorem ark_109 : ark Tryz.prog 109 = none := by kernel_rfl
@[go_sem] theorem isStr_109 : isStr Tryz.prog 109 = false := by kernel_rfl
@[go_sem] theorem isBool_109 : isBool Tryz.prog 109 = false := by kernel_rfl
@[go_sem] theorem notInt_109 : notInt Tryz.prog 109 = true := by kernel_rfl
@[go_sem] theorem flk_109 : flk Tryz.prog 109 = some [(0, 1), (1, 1), (2, 1)] := by kernel_rfl
@[go_sem] theorem zk_109 : zk Tryz.prog 109 = some [Value.int IntKind.i64 (Int.ofNat 0), Value.int IntKind.i64 (Int.ofNat 0), Value.string { data := { toList := [] } }] := by kernel_rfl
@[go_sem] theorem eqk_109 : eqk Tryz.prog 109 = some [CK.i, CK.i, CK.s] := by kernel_rfl
@[go_sem] theorem arn_109 : arn Tryz.prog 109 = none := by kernel_rfl
@[go_sem] theorem bldk_109 : bldk Tryz.prog 109 = false := by kernel_rfl
@[go_sem] theorem bsl_109 : bsl Tryz.prog 109 = false := by kernel_rfl
@[go_sem] theorem isIf_109 : isIf Tryz.prog 109 = false := by kernel_rfl
@[go_sem] theorem fdk_109_0 : fdk Tryz.prog 109 0 = some (0, false, 1) := by kernel_rfl
@[go_sem] theorem fdk_109_1 : fdk Tryz.prog 109 1 = some (1, false, 1) := by kernel_rfl
@[go_sem] theorem fdk_109_2 : fdk Tryz.prog 109 2 = some (2, false, 1) := by kernel_rfl
@[go_sem] theorem tk_110 : tk Tryz.prog 110 = some (true, 3) := by kernel_rfl
@[go_sem] theorem und_110 : (Tryz.prog.underlying 110).isSome = true := by kernel_rfl
@[go_sem] theorem slk_110 : slk Tryz.prog 110 = none := by kernel_rfl
@[go_sem] theorem ark_110 : ark Tryz.prog 110 = none := by kernel_rfl
@[go_sem] theorem isStr_110 : isStr Tryz.prog 110 = false := by kernel_rfl
@[go_sem] theorem isBool_110 : isBool Tryz.prog 110 = false := by kernel_rfl
@[go_sem] theorem notInt_110 : notInt Tryz.prog 110 = true := by kernel_rfl
@[go_sem] theorem flk_110 : flk Tryz.prog 110 = some [(0, 1), (1, 1), (2, 1)] := by kernel_rfl
@[go_sem] theorem zk_110 : zk Tryz.prog 110 = some [Value.int IntKind.i64 (Int.ofNat 0), Value.int IntKind.i64 (Int.ofNat 0), Value.string { data := { toList := [] } }] := by kernel_rfl
@[go_sem] theorem eqk_110 : eqk Tryz.prog 110 = some [CK.i, CK.i, CK.s] := by kernel_rfl
@[go_sem] theorem arn_110 : arn Tryz.prog 110 = none := by kernel_rfl
@[go_sem] theorem bldk_110 : bldk Tryz.prog 110 = false := by kernel_rfl
@[go_sem] theorem bsl_110 : bsl Tryz.prog 110 = false := by kernel_rfl
@[go_sem] theorem isIf_110 : isIf Tryz.prog 110 = false := by kernel_rfl
@[go_sem] theorem fdk_110_0 : fdk Tryz.prog 110 0 = some (0, false, 1) := by kernel_rfl
@[go_sem] theorem fdk_110_1 : fdk Tryz.prog 110 1 = some (1, false, 1) := by kernel_rfl
@[go_sem] theorem fdk_110_2 : fdk Tryz.prog 110 2 = some (2, false, 1) := by kernel_rfl
@[go_sem] theorem tk_111 : tk Tryz.prog 111 = some (false, 1) := by kernel_rfl
@[go_sem] theorem und_111 : (Tryz.prog.underlying 111).isSome = true := by kernel_rfl
@[go_sem] theorem slk_111 : slk Tryz.prog 111 = none := by kernel_rfl
@[go_sem] theorem ark_111 : ark Tryz.prog 111 = none := by kernel_rfl
@[go_sem] theorem isStr_111 : isStr Tryz.prog 111 = false := by kernel_rfl
@[go_sem] theorem isBool_111 : isBool Tryz.prog 111 = false := by kernel_rfl
@[go_sem] theorem notInt_111 : notInt Tryz.prog 111 = true := by kernel_rfl
@[go_sem] theorem zk_111 : zk Tryz.prog 111 = some [Value.nilFunc] := by kernel_rfl
@[go_sem] theorem arn_111 : arn Tryz.prog 111 = none := by kernel_rfl
@[go_sem] theorem bldk_111 : bldk Tryz.prog 111 = false := by kernel_rfl
@[go_sem] theorem bsl_111 : bsl Tryz.prog 111 = false := by kernel_rfl
@[go_sem] theorem isIf_111 : isIf Tryz.prog 111 = false := by kernel_rfl
@[go_sem] theorem tk_112 : tk Tryz.prog 112 = some (false, 1) := by kernel_rfl
@[go_sem] theorem und_112 : (Tryz.prog.underlying 112).isSome = true := by kernel_rfl
@[go_sem] theorem slk_112 : slk Tryz.prog 112 = none := by kernel_rfl
@[go_sem] theorem ark_112 : ark Tryz.prog 112 = none := by kernel_rfl
@[go_sem] theorem isStr_112 : isStr Tryz.prog 112 = false := by kernel_rfl
@[go_sem] theorem isBool_112 : isBool Tryz.prog 112 = false := by kernel_rfl
@[go_sem] theorem notInt_112 : notInt Tryz.prog 112 = true := by kernel_rfl
@[go_sem] theorem zk_112 : zk Tryz.prog 112 = some [Value.nilFunc] := by kernel_rfl
@[go_sem] theorem arn_112 : arn Tryz.prog 112 = none := by kernel_rfl
@[go_sem] theorem bldk_112 : bldk Tryz.prog 112 = false := by kernel_rfl
@[go_sem] theorem bsl_112 : bsl Tryz.prog 112 = false := by kernel_rfl
@[go_sem] theorem isIf_112 : isIf Tryz.prog 112 = false := by kernel_rfl
@[go_sem] theorem tk_113 : tk Tryz.prog 113 = some (true, 2) := by kernel_rfl
@[go_sem] theorem und_113 : (Tryz.prog.underlying 113).isSome = true := by kernel_rfl
@[go_sem] theorem slk_113 : slk Tryz.prog 113 = none := by kernel_rfl
@[go_sem] theorem ark_113 : ark Tryz.prog 113 = none := by kernel_rfl
@[go_sem] theorem isStr_113 : isStr Tryz.prog 113 = false := by kernel_rfl
@[go_sem] theorem isBool_113 : isBool Tryz.prog 113 = false := by kernel_rfl
@[go_sem] theorem notInt_113 : notInt Tryz.prog 113 = true := by kernel_rfl
@[go_sem] theorem flk_113 : flk Tryz.prog 113 = some [(0, 1), (1, 1)] := by kernel_rfl
@[go_sem] theorem zk_113 : zk Tryz.prog 113 = some [Value.int IntKind.i64 (Int.ofNat 0), Value.slice none 0 0] := by kernel_rfl
@[go_sem] theorem arn_113 : arn Tryz.prog 113 = none := by kernel_rfl
@[go_sem] theorem bldk_113 : bldk Tryz.prog 113 = false := by kernel_rfl
@[go_sem] theorem bsl_113 : bsl Tryz.prog 113 = false := by kernel_rfl
@[go_sem] theorem isIf_113 : isIf Tryz.prog 113 = false := by kernel_rfl
@[go_sem] theorem fdk_113_0 : fdk Tryz.prog 113 0 = some (0, false, 1) := by kernel_rfl
@[go_sem] theorem fdk_113_1 : fdk Tryz.prog 113 1 = some (1, false, 1) := by kernel_rfl
@[go_sem] theorem tk_114 : tk Tryz.prog 114 = some (true, 2) := by kernel_rfl
@[go_sem] theorem und_114 : (Tryz.prog.underlying 114).isSome = true := by kernel_rfl
@[go_sem] theorem slk_114 : slk Tryz.prog 114 = none := by kernel_rfl
@[go_sem] theorem ark_114 : ark Tryz.prog 114 = none := by kernel_rfl
@[go_sem] theorem isStr_114 : isStr Tryz.prog 114 = false := by kernel_rfl
@[go_sem] theorem isBool_114 : isBool Tryz.prog 114 = false := by kernel_rfl
@[go_sem] theorem notInt_114 : notInt Tryz.prog 114 = true := by kernel_rfl
@[go_sem] theorem flk_114 : flk Tryz.prog 114 = some [(0, 1), (1, 1)] := by kernel_rfl
@[go_sem] theorem zk_114 : zk Tryz.prog 114 = some [Value.int IntKind.i64 (Int.ofNat 0), Value.slice none 0 0] := by kernel_rfl
@[go_sem] theorem arn_114 : arn Tryz.prog 114 = none := by kernel_rfl
@[go_sem] theorem bldk_114 : bldk Tryz.prog 114 = false := by kernel_rfl
@[go_sem] theorem bsl_114 : bsl Tryz.prog 114 = false := by kernel_rfl
@[go_sem] theorem isIf_114 : isIf Tryz.prog 114 = false := by kernel_rfl
@[go_sem] theorem fdk_114_0 : fdk Tryz.prog 114 0 = some (0, false, 1) := by kernel_rfl
@[go_sem] theorem fdk_114_1 : fdk Tryz.prog 114 1 = some (1, false, 1) := by kernel_rfl
@[go_sem] theorem tk_115 : tk Tryz.prog 115 = some (false, 1) := by kernel_rfl
@[go_sem] theorem und_115 : (Tryz.prog.underlying 115).isSome = true := by kernel_rfl
@[go_sem] theorem slk_115 : slk Tryz.prog 115 = none := by kernel_rfl
@[go_sem] theorem ark_115 : ark Tryz.prog 115 = none := by kernel_rfl
@[go_sem] theorem isStr_115 : isStr Tryz.prog 115 = false := by kernel_rfl
@[go_sem] theorem isBool_115 : isBool Tryz.prog 115 = false := by kernel_rfl
@[go_sem] theorem notInt_115 : notInt Tryz.prog 115 = true := by kernel_rfl
@[go_sem] theorem zk_115 : zk Tryz.prog 115 = some [Value.nilFunc] := by kernel_rfl
@[go_sem] theorem arn_115 : arn Tryz.prog 115 = none := by kernel_rfl
@[go_sem] theorem bldk_115 : bldk Tryz.prog 115 = false := by kernel_rfl
@[go_sem] theorem bsl_115 : bsl Tryz.prog 115 = false := by kernel_rfl
@[go_sem] theorem isIf_115 : isIf Tryz.prog 115 = false := by kernel_rfl
@[go_sem] theorem tk_116 : tk Tryz.prog 116 = some (false, 1) := by kernel_rfl
@[go_sem] theorem und_116 : (Tryz.prog.underlying 116).isSome = true := by kernel_rfl
@[go_sem] theorem slk_116 : slk Tryz.prog 116 = none := by kernel_rfl
@[go_sem] theorem ark_116 : ark Tryz.prog 116 = none := by kernel_rfl
@[go_sem] theorem isStr_116 : isStr Tryz.prog 116 = false := by kernel_rfl
@[go_sem] theorem isBool_116 : isBool Tryz.prog 116 = false := by kernel_rfl
@[go_sem] theorem notInt_116 : notInt Tryz.prog 116 = true := by kernel_rfl
@[go_sem] theorem zk_116 : zk Tryz.prog 116 = some [Value.nilFunc] := by kernel_rfl
@[go_sem] theorem arn_116 : arn Tryz.prog 116 = none := by kernel_rfl
@[go_sem] theorem bldk_116 : bldk Tryz.prog 116 = false := by kernel_rfl
@[go_sem] theorem bsl_116 : bsl Tryz.prog 116 = false := by kernel_rfl
@[go_sem] theorem isIf_116 : isIf Tryz.prog 116 = false := by kernel_rfl
@[go_sem] theorem tk_119 : tk Tryz.prog 119 = some (false, 1) := by kernel_rfl
@[go_sem] theorem und_119 : (Tryz.prog.underlying 119).isSome = true := by kernel_rfl
@[go_sem] theorem slk_119 : slk Tryz.prog 119 = none := by kernel_rfl
@[go_sem] theorem ark_119 : ark Tryz.prog 119 = none := by kernel_rfl
@[go_sem] theorem isStr_119 : isStr Tryz.prog 119 = false := by kernel_rfl
@[go_sem] theorem isBool_119 : isBool Tryz.prog 119 = false := by kernel_rfl
@[go_sem] theorem notInt_119 : notInt Tryz.prog 119 = true := by kernel_rfl
@[go_sem] theorem zk_119 : zk Tryz.prog 119 = some [Value.map none] := by kernel_rfl
@[go_sem] theorem arn_119 : arn Tryz.prog 119 = none := by kernel_rfl
@[go_sem] theorem bldk_119 : bldk Tryz.prog 119 = false := by kernel_rfl
@[go_sem] theorem bsl_119 : bsl Tryz.prog 119 = false := by kernel_rfl
@[go_sem] theorem isIf_119 : isIf Tryz.prog 119 = false := by kernel_rfl
@[go_sem] theorem mtk_119 : mtk Tryz.prog 119 = some (KK.s, Value.bool false) := by kernel_rfl
@[go_sem] theorem isMp_119 : isMp Tryz.prog 119 = true := by kernel_rfl
@[go_sem] theorem tk_122 : tk Tryz.prog 122 = some (false, 1) := by kernel_rfl
@[go_sem] theorem und_122 : (Tryz.prog.underlying 122).isSome = true := by kernel_rfl
@[go_sem] theorem slk_122 : slk Tryz.prog 122 = none := by kernel_rfl
@[go_sem] theorem ark_122 : ark Tryz.prog 122 = none := by kernel_rfl
@[go_sem] theorem isStr_122 : isStr Tryz.prog 122 = false := by kernel_rfl
@[go_sem] theorem isBool_122 : isBool Tryz.prog 122 = false := by kernel_rfl
@[go_sem] theorem notInt_122 : notInt Tryz.prog 122 = true := by kernel_rfl
@[go_sem] theorem zk_122 : zk Tryz.prog 122 = some [Value.nilFunc] := by kernel_rfl
@[go_sem] theorem arn_122 : arn Tryz.prog 122 = none := by kernel_rfl
@[go_sem] theorem bldk_122 : bldk Tryz.prog 122 = false := by kernel_rfl
@[go_sem] theorem bsl_122 : bsl Tryz.prog 122 = false := by kernel_rfl
@[go_sem] theorem isIf_122 : isIf Tryz.prog 122 = false := by kernel_rfl
@[go_sem] theorem tk_124 : tk Tryz.prog 124 = some (false, 1) := by kernel_rfl
@[go_sem] theorem und_124 : (Tryz.prog.underlying 124).isSome = true := by kernel_rfl
@[go_sem] theorem slk_124 : slk Tryz.prog 124 = none := by kernel_rfl
@[go_sem] theorem ark_124 : ark Tryz.prog 124 = none := by kernel_rfl
@[go_sem] theorem isStr_124 : isStr Tryz.prog 124 = false := by kernel_rfl
@[go_sem] theorem isBool_124 : isBool Tryz.prog 124 = false := by kernel_rfl
@[go_sem] theorem notInt_124 : notInt Tryz.prog 124 = true := by kernel_rfl
@[go_sem] theorem zk_124 : zk Tryz.prog 124 = some [Value.nilFunc] := by kernel_rfl
@[go_sem] theorem arn_124 : arn Tryz.prog 124 = none := by kernel_rfl
@[go_sem] theorem bldk_124 : bldk Tryz.prog 124 = false := by kernel_rfl
@[go_sem] theorem bsl_124 : bsl Tryz.prog 124 = false := by kernel_rfl
@[go_sem] theorem isIf_124 : isIf Tryz.prog 124 = false := by kernel_rfl
@[go_sem] theorem tk_125 : tk Tryz.prog 125 = some (false, 1) := by kernel_rfl
@[go_sem] theorem und_125 : (Tryz.prog.underlying 125).isSome = true := by kernel_rfl
@[go_sem] theorem slk_125 : slk Tryz.prog 125 = none := by kernel_rfl
@[go_sem] theorem ark_125 : ark Tryz.prog 125 = none := by kernel_rfl
@[go_sem] theorem isStr_125 : isStr Tryz.prog 125 = false := by kernel_rfl
@[go_sem] theorem isBool_125 : isBool Tryz.prog 125 = false := by kernel_rfl
@[go_sem] theorem notInt_125 : notInt Tryz.prog 125 = true := by kernel_rfl
@[go_sem] theorem zk_125 : zk Tryz.prog 125 = some [Value.map none] := by kernel_rfl
@[go_sem] theorem arn_125 : arn Tryz.prog 125 = none := by kernel_rfl
@[go_sem] theorem bldk_125 : bldk Tryz.prog 125 = false := by kernel_rfl
@[go_sem] theorem bsl_125 : bsl Tryz.prog 125 = false := by kernel_rfl
@[go_sem] theorem isIf_125 : isIf Tryz.prog 125 = false := by kernel_rfl
@[go_sem] theorem mtk_125 : mtk Tryz.prog 125 = some (KK.s, Value.int IntKind.i64 (Int.ofNat 0)) := by kernel_rfl
@[go_sem] theorem isMp_125 : isMp Tryz.prog 125 = true := by kernel_rfl
@[go_sem] theorem tk_127 : tk Tryz.prog 127 = some (false, 1) := by kernel_rfl
@[go_sem] theorem und_127 : (Tryz.prog.underlying 127).isSome = true := by kernel_rfl
@[go_sem] theorem slk_127 : slk Tryz.prog 127 = none := by kernel_rfl
@[go_sem] theorem ark_127 : ark Tryz.prog 127 = none := by kernel_rfl
@[go_sem] theorem isStr_127 : isStr Tryz.prog 127 = false := by kernel_rfl
@[go_sem] theorem isBool_127 : isBool Tryz.prog 127 = false := by kernel_rfl
@[go_sem] theorem notInt_127 : notInt Tryz.prog 127 = true := by kernel_rfl
@[go_sem] theorem zk_127 : zk Tryz.prog 127 = some [Value.nilFunc] := by kernel_rfl
@[go_sem] theorem arn_127 : arn Tryz.prog 127 = none := by kernel_rfl
@[go_sem] theorem bldk_127 : bldk Tryz.prog 127 = false := by kernel_rfl
@[go_sem] theorem bsl_127 : bsl Tryz.prog 127 = false := by kernel_rfl
@[go_sem] theorem isIf_127 : isIf Tryz.prog 127 = false := by kernel_rfl
@[go_sem] theorem tk_128 : tk Tryz.prog 128 = some (false, 1) := by kernel_rfl
@[go_sem] theorem und_128 : (Tryz.prog.underlying 128).isSome = true := by kernel_rfl
@[go_sem] theorem slk_128 : slk Tryz.prog 128 = none := by kernel_rfl
@[go_sem] theorem ark_128 : ark Tryz.prog 128 = none := by kernel_rfl
@[go_sem] theorem isStr_128 : isStr Tryz.prog 128 = false := by kernel_rfl
@[go_sem] theorem isBool_128 : isBool Tryz.prog 128 = false := by kernel_rfl
@[go_sem] theorem notInt_128 : notInt Tryz.prog 128 = true := by kernel_rfl
@[go_sem] theorem zk_128 : zk Tryz.prog 128 = some [Value.tuple { toList := [Value.int IntKind.i64 (Int.ofNat 0), Value.bool false] }] := by kernel_rfl
@[go_sem] theorem arn_128 : arn Tryz.prog 128 = none := by kernel_rfl
@[go_sem] theorem bldk_128 : bldk Tryz.prog 128 = false := by kernel_rfl
@[go_sem] theorem bsl_128 : bsl Tryz.prog 128 = false := by kernel_rfl
@[go_sem] theorem isIf_128 : isIf Tryz.prog 128 = false := by kernel_rfl
@[go_sem] theorem tk_129 : tk Tryz.prog 129 = some (false, 1) := by kernel_rfl
@[go_sem] theorem und_129 : (Tryz.prog.underlying 129).isSome = true := by kernel_rfl
@[go_sem] theorem slk_129 : slk Tryz.prog 129 = none := by kernel_rfl
@[go_sem] theorem ark_129 : ark Tryz.prog 129 = none := by kernel_rfl
@[go_sem] theorem isStr_129 : isStr Tryz.prog 129 = false := by kernel_rfl
@[go_sem] theorem isBool_129 : isBool Tryz.prog 129 = false := by kernel_rfl
@[go_sem] theorem notInt_129 : notInt Tryz.prog 129 = true := by kernel_rfl
@[go_sem] theorem zk_129 : zk Tryz.prog 129 = some [Value.tuple { toList := [Value.agg { toList := [Value.string { data := { toList := [] } }, Value.slice none 0 0, Value.int IntKind.i64 (Int.ofNat 0)] }, Value.bool false] }] := by kernel_rfl
@[go_sem] theorem arn_129 : arn Tryz.prog 129 = none := by kernel_rfl
@[go_sem] theorem bldk_129 : bldk Tryz.prog 129 = false := by kernel_rfl
@[go_sem] theorem bsl_129 : bsl Tryz.prog 129 = false := by kernel_rfl
@[go_sem] theorem isIf_129 : isIf Tryz.prog 129 = false := by kernel_rfl
@[go_sem] theorem tk_130 : tk Tryz.prog 130 = some (false, 1) := by kernel_rfl
@[go_sem] theorem und_130 : (Tryz.prog.underlying 130).isSome = true := by kernel_rfl
@[go_sem] theorem slk_130 : slk Tryz.prog 130 = none := by kernel_rfl
@[go_sem] theorem ark_130 : ark Tryz.prog 130 = none := by kernel_rfl
@[go_sem] theorem isStr_130 : isStr Tryz.prog 130 = false := by kernel_rfl
@[go_sem] theorem isBool_130 : isBool Tryz.prog 130 = false := by kernel_rfl
@[go_sem] theorem notInt_130 : notInt Tryz.prog 130 = true := by kernel_rfl
@[go_sem] theorem zk_130 : zk Tryz.prog 130 = some [Value.nilFunc] := by kernel_rfl
@[go_sem] theorem arn_130 : arn Tryz.prog 130 = none := by kernel_rfl
@[go_sem] theorem bldk_130 : bldk Tryz.prog 130 = false := by kernel_rfl
@[go_sem] theorem bsl_130 : bsl Tryz.prog 130 = false := by kernel_rfl
@[go_sem] theorem isIf_130 : isIf Tryz.prog 130 = false := by kernel_rfl
@[go_sem] theorem tk_131 : tk Tryz.prog 131 = some (false, 1) := by kernel_rfl
@[go_sem] theorem und_131 : (Tryz.prog.underlying 131).isSome = true := by kernel_rfl
@[go_sem] theorem slk_131 : slk Tryz.prog 131 = none := by kernel_rfl
@[go_sem] theorem ark_131 : ark Tryz.prog 131 = none := by kernel_rfl
@[go_sem] theorem isStr_131 : isStr Tryz.prog 131 = false := by kernel_rfl
@[go_sem] theorem isBool_131 : isBool Tryz.prog 131 = false := by kernel_rfl
@[go_sem] theorem notInt_131 : notInt Tryz.prog 131 = true := by kernel_rfl
@[go_sem] theorem zk_131 : zk Tryz.prog 131 = some [Value.nilFunc] := by kernel_rfl
@[go_sem] theorem arn_131 : arn Tryz.prog 131 = none := by kernel_rfl
@[go_sem] theorem bldk_131 : bldk Tryz.prog 131 = false := by kernel_rfl
@[go_sem] theorem bsl_131 : bsl Tryz.prog 131 = false := by kernel_rfl
@[go_sem] theorem isIf_131 : isIf Tryz.prog 131 = false := by kernel_rfl
@[go_sem] theorem tk_132 : tk Tryz.prog 132 = some (false, 1) := by kernel_rfl
@[go_sem] theorem und_132 : (Tryz.prog.underlying 132).isSome = true := by kernel_rfl
@[go_sem] theorem slk_132 : slk Tryz.prog 132 = none := by kernel_rfl
@[go_sem] theorem ark_132 : ark Tryz.prog 132 = none := by kernel_rfl
@[go_sem] theorem isStr_132 : isStr Tryz.prog 132 = false := by kernel_rfl
@[go_sem] theorem isBool_132 : isBool Tryz.prog 132 = false := by kernel_rfl
@[go_sem] theorem notInt_132 : notInt Tryz.prog 132 = true := by kernel_rfl
@[go_sem] theorem zk_132 : zk Tryz.prog 132 = some [Value.nilFunc] := by kernel_rfl
@[go_sem] theorem arn_132 : arn Tryz.prog 132 = none := by kernel_rfl
@[go_sem] theorem bldk_132 : bldk Tryz.prog 132 = false := by kernel_rfl
@[go_sem] theorem bsl_132 : bsl Tryz.prog 132 = false := by kernel_rfl
@[go_sem] theorem isIf_132 : isIf Tryz.prog 132 = false := by kernel_rfl
@[go_sem] theorem tk_133 : tk Tryz.prog 133 = some (false, 1) := by kernel_rfl
@[go_sem] theorem und_133 : (Tryz.prog.underlying 133).isSome = true := by kernel_rfl
@[go_sem] theorem slk_133 : slk Tryz.prog 133 = none := by kernel_rfl
@[go_sem] theorem ark_133 : ark Tryz.prog 133 = none := by kernel_rfl
@[go_sem] theorem isStr_133 : isStr Tryz.prog 133 = false := by kernel_rfl
@[go_sem] theorem isBool_133 : isBool Tryz.prog 133 = false := by kernel_rfl
@[go_sem] theorem notInt_133 : notInt Tryz.prog 133 = true := by kernel_rfl
@[go_sem] theorem zk_133 : zk Tryz.prog 133 = some [Value.nilFunc] := by kernel_rfl
@[go_sem] theorem arn_133 : arn Tryz.prog 133 = none := by kernel_rfl
@[go_sem] theorem bldk_133 : bldk Tryz.prog 133 = false := by kernel_rfl
@[go_sem] theorem bsl_133 : bsl Tryz.prog 133 = false := by kernel_rfl
@[go_sem] theorem isIf_133 : isIf Tryz.prog 133 = false := by kernel_rfl
@[go_sem] theorem tk_134 : tk Tryz.prog 134 = some (false, 1) := by kernel_rfl
@[go_sem] theorem und_134 : (Tryz.prog.underlying 134).isSome = true := by kernel_rfl
@[go_sem] theorem slk_134 : slk Tryz.prog 134 = some (68, 1, 24) := by kernel_rfl
@[go_sem] theorem ark_134 : ark Tryz.prog 134 = none := by kernel_rfl
@[go_sem] theorem isStr_134 : isStr Tryz.prog 134 = false := by kernel_rfl
@[go_sem] theorem isBool_134 : isBool Tryz.prog 134 = false := by kernel_rfl
@[go_sem] theorem notInt_134 : notInt Tryz.prog 134 = true := by kernel_rfl
@[go_sem] theorem zk_134 : zk Tryz.prog 134 = some [Value.slice none 0 0] := by kernel_rfl
@[go_sem] theorem elemZ_134 : elemZ Tryz.prog 134 = some [Value.slice none 0 0] := by kernel_rfl
@[go_sem] theorem arn_134 : arn Tryz.prog 134 = none := by kernel_rfl
@[go_sem] theorem bldk_134 : bldk Tryz.prog 134 = false := by kernel_rfl
@[go_sem] theorem bsl_134 : bsl Tryz.prog 134 = false := by kernel_rfl
@[go_sem] theorem isIf_134 : isIf Tryz.prog 134 = false := by kernel_rfl
@[go_sem] theorem isSl_134 : isSl Tryz.prog 134 = true := by kernel_rfl
@[go_sem] theorem tk_135 : tk Tryz.prog 135 = some (false, 1) := by kernel_rfl
@[go_sem] theorem und_135 : (Tryz.prog.underlying 135).isSome = true := by kernel_rfl
@[go_sem] theorem slk_135 : slk Tryz.prog 135 = none := by kernel_rfl
@[go_sem] theorem ark_135 : ark Tryz.prog 135 = none := by kernel_rfl
@[go_sem] theorem isStr_135 : isStr Tryz.prog 135 = false := by kernel_rfl
@[go_sem] theorem isBool_135 : isBool Tryz.prog 135 = false := by kernel_rfl
@[go_sem] theorem notInt_135 : notInt Tryz.prog 135 = true := by kernel_rfl
@[go_sem] theorem zk_135 : zk Tryz.prog 135 = some [Value.nilFunc] := by kernel_rfl
@[go_sem] theorem arn_135 : arn Tryz.prog 135 = none := by kernel_rfl
@[go_sem] theorem bldk_135 : bldk Tryz.prog 135 = false := by kernel_rfl
@[go_sem] theorem bsl_135 : bsl Tryz.prog 135 = false := by kernel_rfl
@[go_sem] theorem isIf_135 : isIf Tryz.prog 135 = false := by kernel_rfl
@[go_sem] theorem tk_138 : tk Tryz.prog 138 = some (false, 1) := by kernel_rfl
@[go_sem] theorem und_138 : (Tryz.prog.underlying 138).isSome = true := by kernel_rfl
@[go_sem] theorem slk_138 : slk Tryz.prog 138 = none := by kernel_rfl
@[go_sem] theorem ark_138 : ark Tryz.prog 138 = none := by kernel_rfl
@[go_sem] theorem isStr_138 : isStr Tryz.prog 138 = false := by kernel_rfl
@[go_sem] theorem isBool_138 : isBool Tryz.prog 138 = false := by kernel_rfl
@[go_sem] theorem notInt_138 : notInt Tryz.prog 138 = true := by kernel_rfl
@[go_sem] theorem zk_138 : zk Tryz.prog 138 = some [Value.nilFunc] := by kernel_rfl
@[go_sem] theorem arn_138 : arn Tryz.prog 138 = none := by kernel_rfl
@[go_sem] theorem bldk_138 : bldk Tryz.prog 138 = false := by kernel_rfl
@[go_sem] theorem bsl_138 : bsl Tryz.prog 138 = false := by kernel_rfl
@[go_sem] theorem isIf_138 : isIf Tryz.prog 138 = false := by kernel_rfl
@[go_sem] theorem tk_141 : tk Tryz.prog 141 = some (false, 1) := by kernel_rfl
@[go_sem] theorem und_141 : (Tryz.prog.underlying 141).isSome = true := by kernel_rfl
@[go_sem] theorem slk_141 : slk Tryz.prog 141 = none := by kernel_rfl
@[go_sem] theorem ark_141 : ark Tryz.prog 141 = none := by kernel_rfl
@[go_sem] theorem isStr_141 : isStr Tryz.prog 141 = false := by kernel_rfl
@[go_sem] theorem isBool_141 : isBool Tryz.prog 141 = false := by kernel_rfl
@[go_sem] theorem notInt_141 : notInt Tryz.prog 141 = true := by kernel_rfl
@[go_sem] theorem zk_141 : zk Tryz.prog 141 = some [Value.nilFunc] := by kernel_rfl
@[go_sem] theorem arn_141 : arn Tryz.prog 141 = none := by kernel_rfl
@[go_sem] theorem bldk_141 : bldk Tryz.prog 141 = false := by kernel_rfl
@[go_sem] theorem bsl_141 : bsl Tryz.prog 141 = false := by kernel_rfl
@[go_sem] theorem isIf_141 : isIf Tryz.prog 141 = false := by kernel_rfl
@[go_sem] theorem tk_142 : tk Tryz.prog 142 = some (false, 1) := by kernel_rfl
@[go_sem] theorem und_142 : (Tryz.prog.underlying 142).isSome = true := by kernel_rfl
@[go_sem] theorem slk_142 : slk Tryz.prog 142 = none := by kernel_rfl
@[go_sem] theorem ark_142 : ark Tryz.prog 142 = none := by kernel_rfl
@[go_sem] theorem isStr_142 : isStr Tryz.prog 142 = false := by kernel_rfl
@[go_sem] theorem isBool_142 : isBool Tryz.prog 142 = false := by kernel_rfl
@[go_sem] theorem notInt_142 : notInt Tryz.prog 142 = true := by kernel_rfl
@[go_sem] theorem zk_142 : zk Tryz.prog 142 = some [Value.nilFunc] := by kernel_rfl
@[go_sem] theorem arn_142 : arn Tryz.prog 142 = none := by kernel_rfl
@[go_sem] theorem bldk_142 : bldk Tryz.prog 142 = false := by kernel_rfl
@[go_sem] theorem bsl_142 : bsl Tryz.prog 142 = false := by kernel_rfl
@[go_sem] theorem isIf_142 : isIf Tryz.prog 142 = false := by kernel_rfl
@[go_sem] theorem tk_147 : tk Tryz.prog 147 = some (false, 1) := by kernel_rfl
@[go_sem] theorem und_147 : (Tryz.prog.underlying 147).isSome = true := by kernel_rfl
@[go_sem] theorem slk_147 : slk Tryz.prog 147 = none := by kernel_rfl
@[go_sem] theorem ark_147 : ark Tryz.prog 147 = none := by kernel_rfl
@[go_sem] theorem isStr_147 : isStr Tryz.prog 147 = false := by kernel_rfl
@[go_sem] theorem isBool_147 : isBool Tryz.prog 147 = false := by kernel_rfl
@[go_sem] theorem notInt_147 : notInt Tryz.prog 147 = true := by kernel_rfl
@[go_sem] theorem zk_147 : zk Tryz.prog 147 = some [Value.pointer none] := by kernel_rfl
@[go_sem] theorem arn_147 : arn Tryz.prog 147 = none := by kernel_rfl
@[go_sem] theorem bldk_147 : bldk Tryz.prog 147 = false := by kernel_rfl
@[go_sem] theorem bsl_147 : bsl Tryz.prog 147 = false := by kernel_rfl
@[go_sem] theorem isIf_147 : isIf Tryz.prog 147 = false := by kernel_rfl
@[go_sem] theorem tk_149 : tk Tryz.prog 149 = some (true, 2) := by kernel_rfl
@[go_sem] theorem und_149 : (Tryz.prog.underlying 149).isSome = true := by kernel_rfl
@[go_sem] theorem slk_149 : slk Tryz.prog 149 = none := by kernel_rfl
@[go_sem] theorem ark_149 : ark Tryz.prog 149 = none := by kernel_rfl
@[go_sem] theorem isStr_149 : isStr Tryz.prog 149 = false := by kernel_rfl
@[go_sem] theorem isBool_149 : isBool Tryz.prog 149 = false := by kernel_rfl
@[go_sem] theorem notInt_149 : notInt Tryz.prog 149 = true := by kernel_rfl
@[go_sem] theorem flk_149 : flk Tryz.prog 149 = some [(0, 1), (1, 1)] := by kernel_rfl
@[go_sem] theorem zk_149 : zk Tryz.prog 149 = some [Value.pointer none, Value.slice none 0 0] := by kernel_rfl
@[go_sem] theorem arn_149 : arn Tryz.prog 149 = none := by kernel_rfl
@[go_sem] theorem bldk_149 : bldk Tryz.prog 149 = true := by kernel_rfl
@[go_sem] theorem bsl_149 : bsl Tryz.prog 149 = false := by kernel_rfl
@[go_sem] theorem isIf_149 : isIf Tryz.prog 149 = false := by kernel_rfl
@[go_sem] theorem fdk_149_0 : fdk Tryz.prog 149 0 = some (0, false, 1) := by kernel_rfl
@[go_sem] theorem fdk_149_1 : fdk Tryz.prog 149 1 = some (1, false, 1) := by kernel_rfl
@[go_sem] theorem tk_153 : tk Tryz.prog 153 = some (false, 1) := by kernel_rfl
@[go_sem] theorem und_153 : (Tryz.prog.underlying 153).isSome = true := by kernel_rfl
@[go_sem] theorem slk_153 : slk Tryz.prog 153 = none := by kernel_rfl
@[go_sem] theorem ark_153 : ark Tryz.prog 153 = none := by kernel_rfl
@[go_sem] theorem isStr_153 : isStr Tryz.prog 153 = false := by kernel_rfl
@[go_sem] theorem isBool_153 : isBool Tryz.prog 153 = false := by kernel_rfl
@[go_sem] theorem notInt_153 : notInt Tryz.prog 153 = true := by kernel_rfl
@[go_sem] theorem zk_153 : zk Tryz.prog 153 = some [Value.nilIface] := by kernel_rfl
@[go_sem] theorem arn_153 : arn Tryz.prog 153 = none := by kernel_rfl
@[go_sem] theorem bldk_153 : bldk Tryz.prog 153 = false := by kernel_rfl
@[go_sem] theorem bsl_153 : bsl Tryz.prog 153 = false := by kernel_rfl
@[go_sem] theorem isIf_153 : isIf Tryz.prog 153 = true := by kernel_rfl
@[go_sem] theorem tk_162 : tk Tryz.prog 162 = some (false, 1) := by kernel_rfl
@[go_sem] theorem und_162 : (Tryz.prog.underlying 162).isSome = true := by kernel_rfl
@[go_sem] theorem slk_162 : slk Tryz.prog 162 = none := by kernel_rfl
@[go_sem] theorem ark_162 : ark Tryz.prog 162 = none := by kernel_rfl
@[go_sem] theorem isStr_162 : isStr Tryz.prog 162 = false := by kernel_rfl
@[go_sem] theorem isBool_162 : isBool Tryz.prog 162 = false := by kernel_rfl
@[go_sem] theorem ik_162 : ik Tryz.prog 162 = some IntKind.u64 := by kernel_rfl
@[go_sem] theorem notInt_162 : notInt Tryz.prog 162 = false := by kernel_rfl
@[go_sem] theorem zk_162 : zk Tryz.prog 162 = some [Value.int IntKind.u64 (Int.ofNat 0)] := by kernel_rfl
@[go_sem] theorem arn_162 : arn Tryz.prog 162 = none := by kernel_rfl
@[go_sem] theorem bldk_162 : bldk Tryz.prog 162 = false := by kernel_rfl
@[go_sem] theorem bsl_162 : bsl Tryz.prog 162 = false := by kernel_rfl
@[go_sem] theorem isIf_162 : isIf Tryz.prog 162 = false := by kernel_rfl
@[go_sem] theorem tk_168 : tk Tryz.prog 168 = some (false, 1) := by kernel_rfl
@[go_sem] theorem und_168 : (Tryz.prog.underlying 168).isSome = true := by kernel_rfl
@[go_sem] theorem slk_168 : slk Tryz.prog 168 = none := by kernel_rfl
@[go_sem] theorem ark_168 : ark Tryz.prog 168 = none := by kernel_rfl
@[go_sem] theorem isStr_168 : isStr Tryz.prog 168 = false := by kernel_rfl
@[go_sem] theorem isBool_168 : isBool Tryz.prog 168 = false := by kernel_rfl
@[go_sem] theorem notInt_168 : notInt Tryz.prog 168 = true := by kernel_rfl
@[go_sem] theorem zk_168 : zk Tryz.prog 168 = some [Value.nilFunc] := by kernel_rfl
@[go_sem] theorem arn_168 : arn Tryz.prog 168 = none := by kernel_rfl
@[go_sem] theorem bldk_168 : bldk Tryz.prog 168 = false := by kernel_rfl
@[go_sem] theorem bsl_168 : bsl Tryz.prog 168 = false := by kernel_rfl
@[go_sem] theorem isIf_168 : isIf Tryz.prog 168 = false := by kernel_rfl
@[go_sem] theorem tk_170 : tk Tryz.prog 170 = some (false, 1) := by kernel_rfl
@[go_sem] theorem und_170 : (Tryz.prog.underlying 170).isSome = true := by kernel_rfl
@[go_sem] theorem slk_170 : slk Tryz.prog 170 = none := by kernel_rfl
@[go_sem] theorem ark_170 : ark Tryz.prog 170 = none := by kernel_rfl
@[go_sem] theorem isStr_170 : isStr Tryz.prog 170 = false := by kernel_rfl
@[go_sem] theorem isBool_170 : isBool Tryz.prog 170 = false := by kernel_rfl
@[go_sem] theorem notInt_170 : notInt Tryz.prog 170 = true := by kernel_rfl
@[go_sem] theorem zk_170 : zk Tryz.prog 170 = some [Value.pointer none] := by kernel_rfl
@[go_sem] theorem arn_170 : arn Tryz.prog 170 = none := by kernel_rfl
@[go_sem] theorem bldk_170 : bldk Tryz.prog 170 = false := by kernel_rfl
@[go_sem] theorem bsl_170 : bsl Tryz.prog 170 = false := by kernel_rfl
@[go_sem] theorem isIf_170 : isIf Tryz.prog 170 = false := by kernel_rfl
@[go_sem] theorem tk_174 : tk Tryz.prog 174 = some (false, 1) := by kernel_rfl
@[go_sem] theorem und_174 : (Tryz.prog.underlying 174).isSome = true := by kernel_rfl
@[go_sem] theorem slk_174 : slk Tryz.prog 174 = none := by kernel_rfl
@[go_sem] theorem ark_174 : ark Tryz.prog 174 = none := by kernel_rfl
@[go_sem] theorem isStr_174 : isStr Tryz.prog 174 = false := by kernel_rfl
@[go_sem] theorem isBool_174 : isBool Tryz.prog 174 = false := by kernel_rfl
@[go_sem] theorem notInt_174 : notInt Tryz.prog 174 = true := by kernel_rfl
@[go_sem] theorem zk_174 : zk Tryz.prog 174 = some [Value.nilFunc] := by kernel_rfl
@[go_sem] theorem arn_174 : arn Tryz.prog 174 = none := by kernel_rfl
@[go_sem] theorem bldk_174 : bldk Tryz.prog 174 = false := by kernel_rfl
@[go_sem] theorem bsl_174 : bsl Tryz.prog 174 = false := by kernel_rfl
@[go_sem] theorem isIf_174 : isIf Tryz.prog 174 = false := by kernel_rfl
@[go_sem] theorem tk_185 : tk Tryz.prog 185 = some (false, 1) := by kernel_rfl
@[go_sem] theorem und_185 : (Tryz.prog.underlying 185).isSome = true := by kernel_rfl
@[go_sem] theorem slk_185 : slk Tryz.prog 185 = none := by kernel_rfl
@[go_sem] theorem ark_185 : ark Tryz.prog 185 = none := by kernel_rfl
@[go_sem] theorem isStr_185 : isStr Tryz.prog 185 = false := by kernel_rfl
@[go_sem] theorem isBool_185 : isBool Tryz.prog 185 = false := by kernel_rfl
@[go_sem] theorem ik_185 : ik Tryz.prog 185 = some IntKind.u64 := by kernel_rfl
@[go_sem] theorem notInt_185 : notInt Tryz.prog 185 = false := by kernel_rfl
@[go_sem] theorem zk_185 : zk Tryz.prog 185 = some [Value.int IntKind.u64 (Int.ofNat 0)] := by kernel_rfl
@[go_sem] theorem arn_185 : arn Tryz.prog 185 = none := by kernel_rfl
@[go_sem] theorem bldk_185 : bldk Tryz.prog 185 = false := by kernel_rfl
@[go_sem] theorem bsl_185 : bsl Tryz.prog 185 = false := by kernel_rfl
@[go_sem] theorem isIf_185 : isIf Tryz.prog 185 = false := by kernel_rfl
@[go_sem] theorem tk_189 : tk Tryz.prog 189 = some (false, 1) := by kernel_rfl
@[go_sem] theorem und_189 : (Tryz.prog.underlying 189).isSome = true := by kernel_rfl
@[go_sem] theorem slk_189 : slk Tryz.prog 189 = none := by kernel_rfl
@[go_sem] theorem ark_189 : ark Tryz.prog 189 = none := by kernel_rfl
@[go_sem] theorem isStr_189 : isStr Tryz.prog 189 = false := by kernel_rfl
@[go_sem] theorem isBool_189 : isBool Tryz.prog 189 = false := by kernel_rfl
@[go_sem] theorem notInt_189 : notInt Tryz.prog 189 = true := by kernel_rfl
@[go_sem] theorem zk_189 : zk Tryz.prog 189 = some [Value.pointer none] := by kernel_rfl
@[go_sem] theorem arn_189 : arn Tryz.prog 189 = none := by kernel_rfl
@[go_sem] theorem bldk_189 : bldk Tryz.prog 189 = false := by kernel_rfl
@[go_sem] theorem bsl_189 : bsl Tryz.prog 189 = false := by kernel_rfl
@[go_sem] theorem isIf_189 : isIf Tryz.prog 189 = false := by kernel_rfl
end Go.Proofs.YtblfodnajpamfaaGreatDoor
