/- What the tables of this program say of its types. -/
import Derived.Test.YtblfodnajpamfaaGreatDoorZ3
import Derived.Test.YtblfodnajpamfaaGreatDoorProg
import Derived.KernelRfl
namespace Go.Proofs.YtblfodnajpamfaaGreatDoor
open Go Go.Ab Tryz
@[go_sem] theorem tk_0 : tk prog 0 = some (false, 1) := by kernel_rfl
@[go_sem] theorem und_0 : (prog.underlying 0).isSome = true := by kernel_rfl
@[go_sem] theorem slk_0 : slk prog 0 = none := by kernel_rfl
@[go_sem] theorem ark_0 : ark prog 0 = none := by kernel_rfl
@[go_sem] theorem isStr_0 : isStr prog 0 = false := by kernel_rfl
@[go_sem] theorem isBool_0 : isBool prog 0 = false := by kernel_rfl
@[go_sem] theorem notInt_0 : notInt prog 0 = true := by kernel_rfl
@[go_sem] theorem zk_0 : zk prog 0 = some [Value.tuple { toList := [] }] := by kernel_rfl
@[go_sem] theorem arn_0 : arn prog 0 = none := by kernel_rfl
@[go_sem] theorem bldk_0 : bldk prog 0 = false := by kernel_rfl
@[go_sem] theorem bsl_0 : bsl prog 0 = false := by kernel_rfl
@[go_sem] theorem isIf_0 : isIf prog 0 = false := by kernel_rfl
@[go_sem] theorem tk_1 : tk prog 1 = some (false, 1) := by kernel_rfl
@[go_sem] theorem und_1 : (prog.underlying 1).isSome = true := by kernel_rfl
@[go_sem] theorem slk_1 : slk prog 1 = none := by kernel_rfl
@[go_sem] theorem ark_1 : ark prog 1 = none := by kernel_rfl
@[go_sem] theorem isStr_1 : isStr prog 1 = false := by kernel_rfl
@[go_sem] theorem isBool_1 : isBool prog 1 = false := by kernel_rfl
@[go_sem] theorem notInt_1 : notInt prog 1 = true := by kernel_rfl
@[go_sem] theorem zk_1 : zk prog 1 = some [Value.nilFunc] := by kernel_rfl
@[go_sem] theorem arn_1 : arn prog 1 = none := by kernel_rfl
@[go_sem] theorem bldk_1 : bldk prog 1 = false := by kernel_rfl
@[go_sem] theorem bsl_1 : bsl prog 1 = false := by kernel_rfl
@[go_sem] theorem isIf_1 : isIf prog 1 = false := by kernel_rfl
@[go_sem] theorem tk_2 : tk prog 2 = some (false, 1) := by kernel_rfl
@[go_sem] theorem und_2 : (prog.underlying 2).isSome = true := by kernel_rfl
@[go_sem] theorem slk_2 : slk prog 2 = none := by kernel_rfl
@[go_sem] theorem ark_2 : ark prog 2 = none := by kernel_rfl
@[go_sem] theorem isStr_2 : isStr prog 2 = false := by kernel_rfl
@[go_sem] theorem isBool_2 : isBool prog 2 = false := by kernel_rfl
@[go_sem] theorem ik_2 : ik prog 2 = some IntKind.i64 := by kernel_rfl
@[go_sem] theorem notInt_2 : notInt prog 2 = false := by kernel_rfl
@[go_sem] theorem zk_2 : zk prog 2 = some [Value.int IntKind.i64 (Int.ofNat 0)] := by kernel_rfl
@[go_sem] theorem arn_2 : arn prog 2 = none := by kernel_rfl
@[go_sem] theorem bldk_2 : bldk prog 2 = false := by kernel_rfl
@[go_sem] theorem bsl_2 : bsl prog 2 = false := by kernel_rfl
@[go_sem] theorem isIf_2 : isIf prog 2 = false := by kernel_rfl
@[go_sem] theorem tk_3 : tk prog 3 = some (false, 1) := by kernel_rfl
@[go_sem] theorem und_3 : (prog.underlying 3).isSome = true := by kernel_rfl
@[go_sem] theorem slk_3 : slk prog 3 = none := by kernel_rfl
@[go_sem] theorem ark_3 : ark prog 3 = none := by kernel_rfl
@[go_sem] theorem isStr_3 : isStr prog 3 = false := by kernel_rfl
@[go_sem] theorem isBool_3 : isBool prog 3 = false := by kernel_rfl
@[go_sem] theorem ik_3 : ik prog 3 = some IntKind.i64 := by kernel_rfl
@[go_sem] theorem notInt_3 : notInt prog 3 = false := by kernel_rfl
@[go_sem] theorem zk_3 : zk prog 3 = some [Value.int IntKind.i64 (Int.ofNat 0)] := by kernel_rfl
@[go_sem] theorem arn_3 : arn prog 3 = none := by kernel_rfl
@[go_sem] theorem bldk_3 : bldk prog 3 = false := by kernel_rfl
@[go_sem] theorem bsl_3 : bsl prog 3 = false := by kernel_rfl
@[go_sem] theorem isIf_3 : isIf prog 3 = false := by kernel_rfl
@[go_sem] theorem tk_4 : tk prog 4 = some (false, 1) := by kernel_rfl
@[go_sem] theorem und_4 : (prog.underlying 4).isSome = true := by kernel_rfl
@[go_sem] theorem slk_4 : slk prog 4 = none := by kernel_rfl
@[go_sem] theorem ark_4 : ark prog 4 = none := by kernel_rfl
@[go_sem] theorem isStr_4 : isStr prog 4 = false := by kernel_rfl
@[go_sem] theorem isBool_4 : isBool prog 4 = true := by kernel_rfl
@[go_sem] theorem notInt_4 : notInt prog 4 = true := by kernel_rfl
@[go_sem] theorem zk_4 : zk prog 4 = some [Value.bool false] := by kernel_rfl
@[go_sem] theorem arn_4 : arn prog 4 = none := by kernel_rfl
@[go_sem] theorem bldk_4 : bldk prog 4 = false := by kernel_rfl
@[go_sem] theorem bsl_4 : bsl prog 4 = false := by kernel_rfl
@[go_sem] theorem isIf_4 : isIf prog 4 = false := by kernel_rfl
@[go_sem] theorem tk_5 : tk prog 5 = some (false, 1) := by kernel_rfl
@[go_sem] theorem und_5 : (prog.underlying 5).isSome = true := by kernel_rfl
@[go_sem] theorem slk_5 : slk prog 5 = none := by kernel_rfl
@[go_sem] theorem ark_5 : ark prog 5 = none := by kernel_rfl
@[go_sem] theorem isStr_5 : isStr prog 5 = false := by kernel_rfl
@[go_sem] theorem isBool_5 : isBool prog 5 = false := by kernel_rfl
@[go_sem] theorem ik_5 : ik prog 5 = some IntKind.u8 := by kernel_rfl
@[go_sem] theorem notInt_5 : notInt prog 5 = false := by kernel_rfl
@[go_sem] theorem zk_5 : zk prog 5 = some [Value.int IntKind.u8 (Int.ofNat 0)] := by kernel_rfl
@[go_sem] theorem arn_5 : arn prog 5 = none := by kernel_rfl
@[go_sem] theorem bldk_5 : bldk prog 5 = false := by kernel_rfl
@[go_sem] theorem bsl_5 : bsl prog 5 = false := by kernel_rfl
@[go_sem] theorem isIf_5 : isIf prog 5 = false := by kernel_rfl
@[go_sem] theorem tk_6 : tk prog 6 = some (false, 1) := by kernel_rfl
@[go_sem] theorem und_6 : (prog.underlying 6).isSome = true := by kernel_rfl
@[go_sem] theorem slk_6 : slk prog 6 = none := by kernel_rfl
@[go_sem] theorem ark_6 : ark prog 6 = none := by kernel_rfl
@[go_sem] theorem isStr_6 : isStr prog 6 = false := by kernel_rfl
@[go_sem] theorem isBool_6 : isBool prog 6 = false := by kernel_rfl
@[go_sem] theorem ik_6 : ik prog 6 = some IntKind.u8 := by kernel_rfl
@[go_sem] theorem notInt_6 : notInt prog 6 = false := by kernel_rfl
@[go_sem] theorem zk_6 : zk prog 6 = some [Value.int IntKind.u8 (Int.ofNat 0)] := by kernel_rfl
@[go_sem] theorem arn_6 : arn prog 6 = none := by kernel_rfl
@[go_sem] theorem bldk_6 : bldk prog 6 = false := by kernel_rfl
@[go_sem] theorem bsl_6 : bsl prog 6 = false := by kernel_rfl
@[go_sem] theorem isIf_6 : isIf prog 6 = false := by kernel_rfl
@[go_sem] theorem tk_7 : tk prog 7 = some (true, 4) := by kernel_rfl
@[go_sem] theorem und_7 : (prog.underlying 7).isSome = true := by kernel_rfl
@[go_sem] theorem slk_7 : slk prog 7 = none := by kernel_rfl
@[go_sem] theorem ark_7 : ark prog 7 = none := by kernel_rfl
@[go_sem] theorem isStr_7 : isStr prog 7 = false := by kernel_rfl
@[go_sem] theorem isBool_7 : isBool prog 7 = false := by kernel_rfl
@[go_sem] theorem notInt_7 : notInt prog 7 = true := by kernel_rfl
@[go_sem] theorem flk_7 : flk prog 7 = some [(0, 1), (1, 1), (2, 1), (3, 1)] := by kernel_rfl
@[go_sem] theorem zk_7 : zk prog 7 = some [Value.int IntKind.i64 (Int.ofNat 0), Value.int IntKind.i64 (Int.ofNat 0), Value.bool false, Value.int IntKind.u8 (Int.ofNat 0)] := by kernel_rfl
@[go_sem] theorem eqk_7 : eqk prog 7 = some [CK.i, CK.i, CK.b, CK.i] := by kernel_rfl
@[go_sem] theorem arn_7 : arn prog 7 = none := by kernel_rfl
@[go_sem] theorem bldk_7 : bldk prog 7 = false := by kernel_rfl
@[go_sem] theorem bsl_7 : bsl prog 7 = false := by kernel_rfl
@[go_sem] theorem isIf_7 : isIf prog 7 = false := by kernel_rfl
@[go_sem] theorem fdk_7_0 : fdk prog 7 0 = some (0, false, 1) := by kernel_rfl
@[go_sem] theorem fdk_7_1 : fdk prog 7 1 = some (1, false, 1) := by kernel_rfl
@[go_sem] theorem fdk_7_2 : fdk prog 7 2 = some (2, false, 1) := by kernel_rfl
@[go_sem] theorem fdk_7_3 : fdk prog 7 3 = some (3, false, 1) := by kernel_rfl
@[go_sem] theorem tk_8 : tk prog 8 = some (true, 4) := by kernel_rfl
@[go_sem] theorem und_8 : (prog.underlying 8).isSome = true := by kernel_rfl
@[go_sem] theorem slk_8 : slk prog 8 = none := by kernel_rfl
@[go_sem] theorem ark_8 : ark prog 8 = none := by kernel_rfl
@[go_sem] theorem isStr_8 : isStr prog 8 = false := by kernel_rfl
@[go_sem] theorem isBool_8 : isBool prog 8 = false := by kernel_rfl
@[go_sem] theorem notInt_8 : notInt prog 8 = true := by kernel_rfl
@[go_sem] theorem flk_8 : flk prog 8 = some [(0, 1), (1, 1), (2, 1), (3, 1)] := by kernel_rfl
@[go_sem] theorem zk_8 : zk prog 8 = some [Value.int IntKind.i64 (Int.ofNat 0), Value.int IntKind.i64 (Int.ofNat 0), Value.bool false, Value.int IntKind.u8 (Int.ofNat 0)] := by kernel_rfl
@[go_sem] theorem eqk_8 : eqk prog 8 = some [CK.i, CK.i, CK.b, CK.i] := by kernel_rfl
@[go_sem] theorem arn_8 : arn prog 8 = none := by kernel_rfl
@[go_sem] theorem bldk_8 : bldk prog 8 = false := by kernel_rfl
@[go_sem] theorem bsl_8 : bsl prog 8 = false := by kernel_rfl
@[go_sem] theorem isIf_8 : isIf prog 8 = false := by kernel_rfl
@[go_sem] theorem fdk_8_0 : fdk prog 8 0 = some (0, false, 1) := by kernel_rfl
@[go_sem] theorem fdk_8_1 : fdk prog 8 1 = some (1, false, 1) := by kernel_rfl
@[go_sem] theorem fdk_8_2 : fdk prog 8 2 = some (2, false, 1) := by kernel_rfl
@[go_sem] theorem fdk_8_3 : fdk prog 8 3 = some (3, false, 1) := by kernel_rfl
@[go_sem] theorem tk_9 : tk prog 9 = some (false, 1) := by kernel_rfl
@[go_sem] theorem und_9 : (prog.underlying 9).isSome = true := by kernel_rfl
@[go_sem] theorem slk_9 : slk prog 9 = none := by kernel_rfl
@[go_sem] theorem ark_9 : ark prog 9 = none := by kernel_rfl
@[go_sem] theorem isStr_9 : isStr prog 9 = true := by kernel_rfl
@[go_sem] theorem isBool_9 : isBool prog 9 = false := by kernel_rfl
@[go_sem] theorem notInt_9 : notInt prog 9 = true := by kernel_rfl
@[go_sem] theorem zk_9 : zk prog 9 = some [Value.string { data := { toList := [] } }] := by kernel_rfl
@[go_sem] theorem arn_9 : arn prog 9 = none := by kernel_rfl
@[go_sem] theorem bldk_9 : bldk prog 9 = false := by kernel_rfl
@[go_sem] theorem bsl_9 : bsl prog 9 = false := by kernel_rfl
@[go_sem] theorem isIf_9 : isIf prog 9 = false := by kernel_rfl
@[go_sem] theorem tk_10 : tk prog 10 = some (false, 1) := by kernel_rfl
@[go_sem] theorem und_10 : (prog.underlying 10).isSome = true := by kernel_rfl
@[go_sem] theorem slk_10 : slk prog 10 = none := by kernel_rfl
@[go_sem] theorem ark_10 : ark prog 10 = none := by kernel_rfl
@[go_sem] theorem isStr_10 : isStr prog 10 = true := by kernel_rfl
@[go_sem] theorem isBool_10 : isBool prog 10 = false := by kernel_rfl
@[go_sem] theorem notInt_10 : notInt prog 10 = true := by kernel_rfl
@[go_sem] theorem zk_10 : zk prog 10 = some [Value.string { data := { toList := [] } }] := by kernel_rfl
@[go_sem] theorem arn_10 : arn prog 10 = none := by kernel_rfl
@[go_sem] theorem bldk_10 : bldk prog 10 = false := by kernel_rfl
@[go_sem] theorem bsl_10 : bsl prog 10 = false := by kernel_rfl
@[go_sem] theorem isIf_10 : isIf prog 10 = false := by kernel_rfl
@[go_sem] theorem tk_11 : tk prog 11 = some (false, 1) := by kernel_rfl
@[go_sem] theorem und_11 : (prog.underlying 11).isSome = true := by kernel_rfl
@[go_sem] theorem slk_11 : slk prog 11 = none := by kernel_rfl
@[go_sem] theorem ark_11 : ark prog 11 = none := by kernel_rfl
@[go_sem] theorem isStr_11 : isStr prog 11 = true := by kernel_rfl
@[go_sem] theorem isBool_11 : isBool prog 11 = false := by kernel_rfl
@[go_sem] theorem notInt_11 : notInt prog 11 = true := by kernel_rfl
@[go_sem] theorem zk_11 : zk prog 11 = some [Value.string { data := { toList := [] } }] := by kernel_rfl
@[go_sem] theorem arn_11 : arn prog 11 = none := by kernel_rfl
@[go_sem] theorem bldk_11 : bldk prog 11 = false := by kernel_rfl
@[go_sem] theorem bsl_11 : bsl prog 11 = false := by kernel_rfl
@[go_sem] theorem isIf_11 : isIf prog 11 = false := by kernel_rfl
@[go_sem] theorem tk_12 : tk prog 12 = some (false, 1) := by kernel_rfl
@[go_sem] theorem und_12 : (prog.underlying 12).isSome = true := by kernel_rfl
@[go_sem] theorem slk_12 : slk prog 12 = none := by kernel_rfl
@[go_sem] theorem ark_12 : ark prog 12 = none := by kernel_rfl
@[go_sem] theorem isStr_12 : isStr prog 12 = false := by kernel_rfl
@[go_sem] theorem isBool_12 : isBool prog 12 = false := by kernel_rfl
@[go_sem] theorem ik_12 : ik prog 12 = some IntKind.u64 := by kernel_rfl
@[go_sem] theorem notInt_12 : notInt prog 12 = false := by kernel_rfl
@[go_sem] theorem zk_12 : zk prog 12 = some [Value.int IntKind.u64 (Int.ofNat 0)] := by kernel_rfl
@[go_sem] theorem arn_12 : arn prog 12 = none := by kernel_rfl
@[go_sem] theorem bldk_12 : bldk prog 12 = false := by kernel_rfl
@[go_sem] theorem bsl_12 : bsl prog 12 = false := by kernel_rfl
@[go_sem] theorem isIf_12 : isIf prog 12 = false := by kernel_rfl
@[go_sem] theorem tk_13 : tk prog 13 = some (true, 2) := by kernel_rfl
@[go_sem] theorem und_13 : (prog.underlying 13).isSome = true := by kernel_rfl
@[go_sem] theorem slk_13 : slk prog 13 = none := by kernel_rfl
@[go_sem] theorem ark_13 : ark prog 13 = none := by kernel_rfl
@[go_sem] theorem isStr_13 : isStr prog 13 = false := by kernel_rfl
@[go_sem] theorem isBool_13 : isBool prog 13 = false := by kernel_rfl
@[go_sem] theorem notInt_13 : notInt prog 13 = true := by kernel_rfl
@[go_sem] theorem flk_13 : flk prog 13 = some [(0, 1), (1, 1)] := by kernel_rfl
@[go_sem] theorem zk_13 : zk prog 13 = some [Value.string { data := { toList := [] } }, Value.int IntKind.u64 (Int.ofNat 0)] := by kernel_rfl
@[go_sem] theorem arn_13 : arn prog 13 = none := by kernel_rfl
@[go_sem] theorem bldk_13 : bldk prog 13 = false := by kernel_rfl
@[go_sem] theorem bsl_13 : bsl prog 13 = false := by kernel_rfl
@[go_sem] theorem isIf_13 : isIf prog 13 = false := by kernel_rfl
@[go_sem] theorem fdk_13_0 : fdk prog 13 0 = some (0, false, 1) := by kernel_rfl
@[go_sem] theorem fdk_13_1 : fdk prog 13 1 = some (1, false, 1) := by kernel_rfl
@[go_sem] theorem tk_14 : tk prog 14 = some (true, 2) := by kernel_rfl
@[go_sem] theorem und_14 : (prog.underlying 14).isSome = true := by kernel_rfl
@[go_sem] theorem slk_14 : slk prog 14 = none := by kernel_rfl
@[go_sem] theorem ark_14 : ark prog 14 = none := by kernel_rfl
@[go_sem] theorem isStr_14 : isStr prog 14 = false := by kernel_rfl
@[go_sem] theorem isBool_14 : isBool prog 14 = false := by kernel_rfl
@[go_sem] theorem notInt_14 : notInt prog 14 = true := by kernel_rfl
@[go_sem] theorem flk_14 : flk prog 14 = some [(0, 1), (1, 1)] := by kernel_rfl
@[go_sem] theorem zk_14 : zk prog 14 = some [Value.string { data := { toList := [] } }, Value.int IntKind.u64 (Int.ofNat 0)] := by kernel_rfl
@[go_sem] theorem arn_14 : arn prog 14 = none := by kernel_rfl
@[go_sem] theorem bldk_14 : bldk prog 14 = false := by kernel_rfl
@[go_sem] theorem bsl_14 : bsl prog 14 = false := by kernel_rfl
@[go_sem] theorem isIf_14 : isIf prog 14 = false := by kernel_rfl
@[go_sem] theorem fdk_14_0 : fdk prog 14 0 = some (0, false, 1) := by kernel_rfl
@[go_sem] theorem fdk_14_1 : fdk prog 14 1 = some (1, false, 1) := by kernel_rfl
@[go_sem] theorem tk_15 : tk prog 15 = some (false, 1) := by kernel_rfl
@[go_sem] theorem und_15 : (prog.underlying 15).isSome = true := by kernel_rfl
@[go_sem] theorem slk_15 : slk prog 15 = none := by kernel_rfl
@[go_sem] theorem ark_15 : ark prog 15 = none := by kernel_rfl
@[go_sem] theorem isStr_15 : isStr prog 15 = false := by kernel_rfl
@[go_sem] theorem isBool_15 : isBool prog 15 = false := by kernel_rfl
@[go_sem] theorem notInt_15 : notInt prog 15 = true := by kernel_rfl
@[go_sem] theorem zk_15 : zk prog 15 = some [Value.pointer none] := by kernel_rfl
@[go_sem] theorem arn_15 : arn prog 15 = none := by kernel_rfl
@[go_sem] theorem bldk_15 : bldk prog 15 = false := by kernel_rfl
@[go_sem] theorem bsl_15 : bsl prog 15 = false := by kernel_rfl
@[go_sem] theorem isIf_15 : isIf prog 15 = false := by kernel_rfl
@[go_sem] theorem tk_16 : tk prog 16 = some (false, 1) := by kernel_rfl
@[go_sem] theorem und_16 : (prog.underlying 16).isSome = true := by kernel_rfl
@[go_sem] theorem slk_16 : slk prog 16 = none := by kernel_rfl
@[go_sem] theorem ark_16 : ark prog 16 = none := by kernel_rfl
@[go_sem] theorem isStr_16 : isStr prog 16 = false := by kernel_rfl
@[go_sem] theorem isBool_16 : isBool prog 16 = false := by kernel_rfl
@[go_sem] theorem notInt_16 : notInt prog 16 = true := by kernel_rfl
@[go_sem] theorem zk_16 : zk prog 16 = some [Value.pointer none] := by kernel_rfl
@[go_sem] theorem arn_16 : arn prog 16 = none := by kernel_rfl
@[go_sem] theorem bldk_16 : bldk prog 16 = false := by kernel_rfl
@[go_sem] theorem bsl_16 : bsl prog 16 = false := by kernel_rfl
@[go_sem] theorem isIf_16 : isIf prog 16 = false := by kernel_rfl
@[go_sem] theorem tk_17 : tk prog 17 = some (false, 1) := by kernel_rfl
@[go_sem] theorem und_17 : (prog.underlying 17).isSome = true := by kernel_rfl
@[go_sem] theorem slk_17 : slk prog 17 = none := by kernel_rfl
@[go_sem] theorem ark_17 : ark prog 17 = none := by kernel_rfl
@[go_sem] theorem isStr_17 : isStr prog 17 = false := by kernel_rfl
@[go_sem] theorem isBool_17 : isBool prog 17 = false := by kernel_rfl
@[go_sem] theorem notInt_17 : notInt prog 17 = true := by kernel_rfl
@[go_sem] theorem zk_17 : zk prog 17 = some [Value.pointer none] := by kernel_rfl
@[go_sem] theorem arn_17 : arn prog 17 = none := by kernel_rfl
@[go_sem] theorem bldk_17 : bldk prog 17 = false := by kernel_rfl
@[go_sem] theorem bsl_17 : bsl prog 17 = false := by kernel_rfl
@[go_sem] theorem isIf_17 : isIf prog 17 = false := by kernel_rfl
@[go_sem] theorem tk_18 : tk prog 18 = some (true, 1) := by kernel_rfl
@[go_sem] theorem und_18 : (prog.underlying 18).isSome = true := by kernel_rfl
@[go_sem] theorem slk_18 : slk prog 18 = none := by kernel_rfl
@[go_sem] theorem ark_18 : ark prog 18 = none := by kernel_rfl
@[go_sem] theorem isStr_18 : isStr prog 18 = false := by kernel_rfl
@[go_sem] theorem isBool_18 : isBool prog 18 = false := by kernel_rfl
@[go_sem] theorem notInt_18 : notInt prog 18 = true := by kernel_rfl
@[go_sem] theorem flk_18 : flk prog 18 = some [(0, 1)] := by kernel_rfl
@[go_sem] theorem zk_18 : zk prog 18 = some [Value.pointer none] := by kernel_rfl
@[go_sem] theorem arn_18 : arn prog 18 = none := by kernel_rfl
@[go_sem] theorem bldk_18 : bldk prog 18 = false := by kernel_rfl
@[go_sem] theorem bsl_18 : bsl prog 18 = false := by kernel_rfl
@[go_sem] theorem isIf_18 : isIf prog 18 = false := by kernel_rfl
@[go_sem] theorem fdk_18_0 : fdk prog 18 0 = some (0, false, 1) := by kernel_rfl
@[go_sem] theorem tk_19 : tk prog 19 = some (true, 1) := by kernel_rfl
@[go_sem] theorem und_19 : (prog.underlying 19).isSome = true := by kernel_rfl
@[go_sem] theorem slk_19 : slk prog 19 = none := by kernel_rfl
@[go_sem] theorem ark_19 : ark prog 19 = none := by kernel_rfl
@[go_sem] theorem isStr_19 : isStr prog 19 = false := by kernel_rfl
@[go_sem] theorem isBool_19 : isBool prog 19 = false := by kernel_rfl
@[go_sem] theorem notInt_19 : notInt prog 19 = true := by kernel_rfl
@[go_sem] theorem flk_19 : flk prog 19 = some [(0, 1)] := by kernel_rfl
@[go_sem] theorem zk_19 : zk prog 19 = some [Value.pointer none] := by kernel_rfl
@[go_sem] theorem arn_19 : arn prog 19 = none := by kernel_rfl
@[go_sem] theorem bldk_19 : bldk prog 19 = false := by kernel_rfl
@[go_sem] theorem bsl_19 : bsl prog 19 = false := by kernel_rfl
@[go_sem] theorem isIf_19 : isIf prog 19 = false := by kernel_rfl
@[go_sem] theorem fdk_19_0 : fdk prog 19 0 = some (0, false, 1) := by kernel_rfl
@[go_sem] theorem tk_20 : tk prog 20 = some (false, 1) := by kernel_rfl
@[go_sem] theorem und_20 : (prog.underlying 20).isSome = true := by kernel_rfl
@[go_sem] theorem slk_20 : slk prog 20 = none := by kernel_rfl
@[go_sem] theorem ark_20 : ark prog 20 = none := by kernel_rfl
@[go_sem] theorem isStr_20 : isStr prog 20 = false := by kernel_rfl
@[go_sem] theorem isBool_20 : isBool prog 20 = false := by kernel_rfl
@[go_sem] theorem notInt_20 : notInt prog 20 = true := by kernel_rfl
@[go_sem] theorem zk_20 : zk prog 20 = some [Value.nilIface] := by kernel_rfl
@[go_sem] theorem arn_20 : arn prog 20 = none := by kernel_rfl
@[go_sem] theorem bldk_20 : bldk prog 20 = false := by kernel_rfl
@[go_sem] theorem bsl_20 : bsl prog 20 = false := by kernel_rfl
@[go_sem] theorem isIf_20 : isIf prog 20 = true := by kernel_rfl
@[go_sem] theorem tk_21 : tk prog 21 = some (false, 1) := by kernel_rfl
@[go_sem] theorem und_21 : (prog.underlying 21).isSome = true := by kernel_rfl
@[go_sem] theorem slk_21 : slk prog 21 = none := by kernel_rfl
@[go_sem] theorem ark_21 : ark prog 21 = none := by kernel_rfl
@[go_sem] theorem isStr_21 : isStr prog 21 = false := by kernel_rfl
@[go_sem] theorem isBool_21 : isBool prog 21 = false := by kernel_rfl
@[go_sem] theorem ik_21 : ik prog 21 = some IntKind.i32 := by kernel_rfl
@[go_sem] theorem notInt_21 : notInt prog 21 = false := by kernel_rfl
@[go_sem] theorem zk_21 : zk prog 21 = some [Value.int IntKind.i32 (Int.ofNat 0)] := by kernel_rfl
@[go_sem] theorem arn_21 : arn prog 21 = none := by kernel_rfl
@[go_sem] theorem bldk_21 : bldk prog 21 = false := by kernel_rfl
@[go_sem] theorem bsl_21 : bsl prog 21 = false := by kernel_rfl
@[go_sem] theorem isIf_21 : isIf prog 21 = false := by kernel_rfl
@[go_sem] theorem tk_22 : tk prog 22 = some (false, 1) := by kernel_rfl
@[go_sem] theorem und_22 : (prog.underlying 22).isSome = true := by kernel_rfl
@[go_sem] theorem slk_22 : slk prog 22 = some (80, 3, 32) := by kernel_rfl
@[go_sem] theorem ark_22 : ark prog 22 = none := by kernel_rfl
@[go_sem] theorem isStr_22 : isStr prog 22 = false := by kernel_rfl
@[go_sem] theorem isBool_22 : isBool prog 22 = false := by kernel_rfl
@[go_sem] theorem notInt_22 : notInt prog 22 = true := by kernel_rfl
@[go_sem] theorem zk_22 : zk prog 22 = some [Value.slice none 0 0] := by kernel_rfl
@[go_sem] theorem elemZ_22 : elemZ prog 22 = some [Value.int IntKind.u8 (Int.ofNat 0), Value.int IntKind.u8 (Int.ofNat 0), Value.slice none 0 0] := by kernel_rfl
@[go_sem] theorem arn_22 : arn prog 22 = none := by kernel_rfl
@[go_sem] theorem bldk_22 : bldk prog 22 = false := by kernel_rfl
@[go_sem] theorem bsl_22 : bsl prog 22 = false := by kernel_rfl
@[go_sem] theorem isIf_22 : isIf prog 22 = false := by kernel_rfl
@[go_sem] theorem isSl_22 : isSl prog 22 = true := by kernel_rfl
@[go_sem] theorem tk_23 : tk prog 23 = some (false, 1) := by kernel_rfl
@[go_sem] theorem und_23 : (prog.underlying 23).isSome = true := by kernel_rfl
@[go_sem] theorem slk_23 : slk prog 23 = some (80, 3, 32) := by kernel_rfl
@[go_sem] theorem ark_23 : ark prog 23 = none := by kernel_rfl
@[go_sem] theorem isStr_23 : isStr prog 23 = false := by kernel_rfl
@[go_sem] theorem isBool_23 : isBool prog 23 = false := by kernel_rfl
@[go_sem] theorem notInt_23 : notInt prog 23 = true := by kernel_rfl
@[go_sem] theorem zk_23 : zk prog 23 = some [Value.slice none 0 0] := by kernel_rfl
@[go_sem] theorem elemZ_23 : elemZ prog 23 = some [Value.int IntKind.u8 (Int.ofNat 0), Value.int IntKind.u8 (Int.ofNat 0), Value.slice none 0 0] := by kernel_rfl
@[go_sem] theorem arn_23 : arn prog 23 = none := by kernel_rfl
@[go_sem] theorem bldk_23 : bldk prog 23 = false := by kernel_rfl
@[go_sem] theorem bsl_23 : bsl prog 23 = false := by kernel_rfl
@[go_sem] theorem isIf_23 : isIf prog 23 = false := by kernel_rfl
@[go_sem] theorem isSl_23 : isSl prog 23 = true := by kernel_rfl
@[go_sem] theorem tk_24 : tk prog 24 = some (false, 1) := by kernel_rfl
@[go_sem] theorem und_24 : (prog.underlying 24).isSome = true := by kernel_rfl
@[go_sem] theorem slk_24 : slk prog 24 = some (27, 4, 56) := by kernel_rfl
@[go_sem] theorem ark_24 : ark prog 24 = none := by kernel_rfl
@[go_sem] theorem isStr_24 : isStr prog 24 = false := by kernel_rfl
@[go_sem] theorem isBool_24 : isBool prog 24 = false := by kernel_rfl
@[go_sem] theorem notInt_24 : notInt prog 24 = true := by kernel_rfl
@[go_sem] theorem zk_24 : zk prog 24 = some [Value.slice none 0 0] := by kernel_rfl
@[go_sem] theorem elemZ_24 : elemZ prog 24 = some [Value.int IntKind.u8 (Int.ofNat 0), Value.int IntKind.u8 (Int.ofNat 0), Value.slice none 0 0, Value.slice none 0 0] := by kernel_rfl
@[go_sem] theorem arn_24 : arn prog 24 = none := by kernel_rfl
@[go_sem] theorem bldk_24 : bldk prog 24 = false := by kernel_rfl
@[go_sem] theorem bsl_24 : bsl prog 24 = false := by kernel_rfl
@[go_sem] theorem isIf_24 : isIf prog 24 = false := by kernel_rfl
@[go_sem] theorem isSl_24 : isSl prog 24 = true := by kernel_rfl
@[go_sem] theorem tk_25 : tk prog 25 = some (false, 1) := by kernel_rfl
@[go_sem] theorem und_25 : (prog.underlying 25).isSome = true := by kernel_rfl
@[go_sem] theorem slk_25 : slk prog 25 = some (5, 1, 1) := by kernel_rfl
@[go_sem] theorem ark_25 : ark prog 25 = none := by kernel_rfl
@[go_sem] theorem isStr_25 : isStr prog 25 = false := by kernel_rfl
@[go_sem] theorem isBool_25 : isBool prog 25 = false := by kernel_rfl
@[go_sem] theorem notInt_25 : notInt prog 25 = true := by kernel_rfl
@[go_sem] theorem zk_25 : zk prog 25 = some [Value.slice none 0 0] := by kernel_rfl
@[go_sem] theorem elemZ_25 : elemZ prog 25 = some [Value.int IntKind.u8 (Int.ofNat 0)] := by kernel_rfl
@[go_sem] theorem arn_25 : arn prog 25 = none := by kernel_rfl
@[go_sem] theorem bldk_25 : bldk prog 25 = false := by kernel_rfl
@[go_sem] theorem bsl_25 : bsl prog 25 = true := by kernel_rfl
@[go_sem] theorem isIf_25 : isIf prog 25 = false := by kernel_rfl
@[go_sem] theorem isSl_25 : isSl prog 25 = true := by kernel_rfl
@[go_sem] theorem tk_26 : tk prog 26 = some (true, 4) := by kernel_rfl
@[go_sem] theorem und_26 : (prog.underlying 26).isSome = true := by kernel_rfl
@[go_sem] theorem slk_26 : slk prog 26 = none := by kernel_rfl
@[go_sem] theorem ark_26 : ark prog 26 = none := by kernel_rfl
@[go_sem] theorem isStr_26 : isStr prog 26 = false := by kernel_rfl
@[go_sem] theorem isBool_26 : isBool prog 26 = false := by kernel_rfl
@[go_sem] theorem notInt_26 : notInt prog 26 = true := by kernel_rfl
@[go_sem] theorem flk_26 : flk prog 26 = some [(0, 1), (1, 1), (2, 1), (3, 1)] := by kernel_rfl
@[go_sem] theorem zk_26 : zk prog 26 = some [Value.int IntKind.u8 (Int.ofNat 0), Value.int IntKind.u8 (Int.ofNat 0), Value.slice none 0 0, Value.slice none 0 0] := by kernel_rfl
@[go_sem] theorem arn_26 : arn prog 26 = none := by kernel_rfl
@[go_sem] theorem bldk_26 : bldk prog 26 = false := by kernel_rfl
@[go_sem] theorem bsl_26 : bsl prog 26 = false := by kernel_rfl
@[go_sem] theorem isIf_26 : isIf prog 26 = false := by kernel_rfl
@[go_sem] theorem fdk_26_0 : fdk prog 26 0 = some (0, false, 1) := by kernel_rfl
@[go_sem] theorem fdk_26_1 : fdk prog 26 1 = some (1, false, 1) := by kernel_rfl
@[go_sem] theorem fdk_26_2 : fdk prog 26 2 = some (2, false, 1) := by kernel_rfl
@[go_sem] theorem fdk_26_3 : fdk prog 26 3 = some (3, false, 1) := by kernel_rfl
@[go_sem] theorem tk_27 : tk prog 27 = some (true, 4) := by kernel_rfl
@[go_sem] theorem und_27 : (prog.underlying 27).isSome = true := by kernel_rfl
@[go_sem] theorem slk_27 : slk prog 27 = none := by kernel_rfl
@[go_sem] theorem ark_27 : ark prog 27 = none := by kernel_rfl
@[go_sem] theorem isStr_27 : isStr prog 27 = false := by kernel_rfl
@[go_sem] theorem isBool_27 : isBool prog 27 = false := by kernel_rfl
@[go_sem] theorem notInt_27 : notInt prog 27 = true := by kernel_rfl
@[go_sem] theorem flk_27 : flk prog 27 = some [(0, 1), (1, 1), (2, 1), (3, 1)] := by kernel_rfl
@[go_sem] theorem zk_27 : zk prog 27 = some [Value.int IntKind.u8 (Int.ofNat 0), Value.int IntKind.u8 (Int.ofNat 0), Value.slice none 0 0, Value.slice none 0 0] := by kernel_rfl
@[go_sem] theorem arn_27 : arn prog 27 = none := by kernel_rfl
@[go_sem] theorem bldk_27 : bldk prog 27 = false := by kernel_rfl
@[go_sem] theorem bsl_27 : bsl prog 27 = false := by kernel_rfl
@[go_sem] theorem isIf_27 : isIf prog 27 = false := by kernel_rfl
@[go_sem] theorem fdk_27_0 : fdk prog 27 0 = some (0, false, 1) := by kernel_rfl
@[go_sem] theorem fdk_27_1 : fdk prog 27 1 = some (1, false, 1) := by kernel_rfl
@[go_sem] theorem fdk_27_2 : fdk prog 27 2 = some (2, false, 1) := by kernel_rfl
@[go_sem] theorem fdk_27_3 : fdk prog 27 3 = some (3, false, 1) := by kernel_rfl
@[go_sem] theorem tk_28 : tk prog 28 = some (false, 1) := by kernel_rfl
@[go_sem] theorem und_28 : (prog.underlying 28).isSome = true := by kernel_rfl
@[go_sem] theorem slk_28 : slk prog 28 = some (75, 3, 64) := by kernel_rfl
@[go_sem] theorem ark_28 : ark prog 28 = none := by kernel_rfl
@[go_sem] theorem isStr_28 : isStr prog 28 = false := by kernel_rfl
@[go_sem] theorem isBool_28 : isBool prog 28 = false := by kernel_rfl
@[go_sem] theorem notInt_28 : notInt prog 28 = true := by kernel_rfl
@[go_sem] theorem zk_28 : zk prog 28 = some [Value.slice none 0 0] := by kernel_rfl
@[go_sem] theorem elemZ_28 : elemZ prog 28 = some [Value.string { data := { toList := [] } }, Value.slice none 0 0, Value.slice none 0 0] := by kernel_rfl
@[go_sem] theorem arn_28 : arn prog 28 = none := by kernel_rfl
@[go_sem] theorem bldk_28 : bldk prog 28 = false := by kernel_rfl
@[go_sem] theorem bsl_28 : bsl prog 28 = false := by kernel_rfl
@[go_sem] theorem isIf_28 : isIf prog 28 = false := by kernel_rfl
@[go_sem] theorem isSl_28 : isSl prog 28 = true := by kernel_rfl
@[go_sem] theorem tk_29 : tk prog 29 = some (true, 1) := by kernel_rfl
@[go_sem] theorem und_29 : (prog.underlying 29).isSome = true := by kernel_rfl
@[go_sem] theorem slk_29 : slk prog 29 = none := by kernel_rfl
@[go_sem] theorem ark_29 : ark prog 29 = none := by kernel_rfl
@[go_sem] theorem isStr_29 : isStr prog 29 = false := by kernel_rfl
@[go_sem] theorem isBool_29 : isBool prog 29 = false := by kernel_rfl
@[go_sem] theorem notInt_29 : notInt prog 29 = true := by kernel_rfl
@[go_sem] theorem flk_29 : flk prog 29 = some [(0, 1)] := by kernel_rfl
@[go_sem] theorem zk_29 : zk prog 29 = some [Value.slice none 0 0] := by kernel_rfl
@[go_sem] theorem arn_29 : arn prog 29 = none := by kernel_rfl
@[go_sem] theorem bldk_29 : bldk prog 29 = false := by kernel_rfl
@[go_sem] theorem bsl_29 : bsl prog 29 = false := by kernel_rfl
@[go_sem] theorem isIf_29 : isIf prog 29 = false := by kernel_rfl
@[go_sem] theorem fdk_29_0 : fdk prog 29 0 = some (0, false, 1) := by kernel_rfl
@[go_sem] theorem tk_30 : tk prog 30 = some (true, 1) := by kernel_rfl
@[go_sem] theorem und_30 : (prog.underlying 30).isSome = true := by kernel_rfl
@[go_sem] theorem slk_30 : slk prog 30 = none := by kernel_rfl
@[go_sem] theorem ark_30 : ark prog 30 = none := by kernel_rfl
@[go_sem] theorem isStr_30 : isStr prog 30 = false := by kernel_rfl
@[go_sem] theorem isBool_30 : isBool prog 30 = false := by kernel_rfl
@[go_sem] theorem notInt_30 : notInt prog 30 = true := by kernel_rfl
@[go_sem] theorem flk_30 : flk prog 30 = some [(0, 1)] := by kernel_rfl
@[go_sem] theorem zk_30 : zk prog 30 = some [Value.slice none 0 0] := by kernel_rfl
@[go_sem] theorem arn_30 : arn prog 30 = none := by kernel_rfl
@[go_sem] theorem bldk_30 : bldk prog 30 = false := by kernel_rfl
@[go_sem] theorem bsl_30 : bsl prog 30 = false := by kernel_rfl
@[go_sem] theorem isIf_30 : isIf prog 30 = false := by kernel_rfl
@[go_sem] theorem fdk_30_0 : fdk prog 30 0 = some (0, false, 1) := by kernel_rfl
@[go_sem] theorem tk_31 : tk prog 31 = some (false, 1) := by kernel_rfl
@[go_sem] theorem und_31 : (prog.underlying 31).isSome = true := by kernel_rfl
@[go_sem] theorem slk_31 : slk prog 31 = none := by kernel_rfl
@[go_sem] theorem ark_31 : ark prog 31 = none := by kernel_rfl
@[go_sem] theorem isStr_31 : isStr prog 31 = false := by kernel_rfl
@[go_sem] theorem isBool_31 : isBool prog 31 = false := by kernel_rfl
@[go_sem] theorem notInt_31 : notInt prog 31 = true := by kernel_rfl
@[go_sem] theorem zk_31 : zk prog 31 = some [Value.tuple { toList := [Value.agg { toList := [Value.slice none 0 0] }, Value.bool false] }] := by kernel_rfl
@[go_sem] theorem arn_31 : arn prog 31 = none := by kernel_rfl
@[go_sem] theorem bldk_31 : bldk prog 31 = false := by kernel_rfl
@[go_sem] theorem bsl_31 : bsl prog 31 = false := by kernel_rfl
@[go_sem] theorem isIf_31 : isIf prog 31 = false := by kernel_rfl
@[go_sem] theorem tk_32 : tk prog 32 = some (false, 1) := by kernel_rfl
@[go_sem] theorem und_32 : (prog.underlying 32).isSome = true := by kernel_rfl
@[go_sem] theorem slk_32 : slk prog 32 = none := by kernel_rfl
@[go_sem] theorem ark_32 : ark prog 32 = none := by kernel_rfl
@[go_sem] theorem isStr_32 : isStr prog 32 = false := by kernel_rfl
@[go_sem] theorem isBool_32 : isBool prog 32 = false := by kernel_rfl
@[go_sem] theorem notInt_32 : notInt prog 32 = true := by kernel_rfl
@[go_sem] theorem zk_32 : zk prog 32 = some [Value.nilFunc] := by kernel_rfl
@[go_sem] theorem arn_32 : arn prog 32 = none := by kernel_rfl
@[go_sem] theorem bldk_32 : bldk prog 32 = false := by kernel_rfl
@[go_sem] theorem bsl_32 : bsl prog 32 = false := by kernel_rfl
@[go_sem] theorem isIf_32 : isIf prog 32 = false := by kernel_rfl
@[go_sem] theorem tk_33 : tk prog 33 = some (false, 1) := by kernel_rfl
@[go_sem] theorem und_33 : (prog.underlying 33).isSome = true := by kernel_rfl
@[go_sem] theorem slk_33 : slk prog 33 = some (39, 4, 80) := by kernel_rfl
@[go_sem] theorem ark_33 : ark prog 33 = none := by kernel_rfl
@[go_sem] theorem isStr_33 : isStr prog 33 = false := by kernel_rfl
@[go_sem] theorem isBool_33 : isBool prog 33 = false := by kernel_rfl
@[go_sem] theorem notInt_33 : notInt prog 33 = true := by kernel_rfl
@[go_sem] theorem zk_33 : zk prog 33 = some [Value.slice none 0 0] := by kernel_rfl
@[go_sem] theorem elemZ_33 : elemZ prog 33 = some [Value.string { data := { toList := [] } }, Value.slice none 0 0, Value.string { data := { toList := [] } }, Value.slice none 0 0] := by kernel_rfl
@[go_sem] theorem arn_33 : arn prog 33 = none := by kernel_rfl
@[go_sem] theorem bldk_33 : bldk prog 33 = false := by kernel_rfl
@[go_sem] theorem bsl_33 : bsl prog 33 = false := by kernel_rfl
@[go_sem] theorem isIf_33 : isIf prog 33 = false := by kernel_rfl
@[go_sem] theorem isSl_33 : isSl prog 33 = true := by kernel_rfl
@[go_sem] theorem tk_34 : tk prog 34 = some (false, 1) := by kernel_rfl
@[go_sem] theorem und_34 : (prog.underlying 34).isSome = true := by kernel_rfl
@[go_sem] theorem slk_34 : slk prog 34 = none := by kernel_rfl
@[go_sem] theorem ark_34 : ark prog 34 = none := by kernel_rfl
@[go_sem] theorem isStr_34 : isStr prog 34 = false := by kernel_rfl
@[go_sem] theorem isBool_34 : isBool prog 34 = false := by kernel_rfl
@[go_sem] theorem notInt_34 : notInt prog 34 = true := by kernel_rfl
@[go_sem] theorem zk_34 : zk prog 34 = some [Value.tuple { toList := [Value.slice none 0 0, Value.bool false] }] := by kernel_rfl
@[go_sem] theorem arn_34 : arn prog 34 = none := by kernel_rfl
@[go_sem] theorem bldk_34 : bldk prog 34 = false := by kernel_rfl
@[go_sem] theorem bsl_34 : bsl prog 34 = false := by kernel_rfl
@[go_sem] theorem isIf_34 : isIf prog 34 = false := by kernel_rfl
@[go_sem] theorem tk_35 : tk prog 35 = some (false, 1) := by kernel_rfl
@[go_sem] theorem und_35 : (prog.underlying 35).isSome = true := by kernel_rfl
@[go_sem] theorem slk_35 : slk prog 35 = none := by kernel_rfl
@[go_sem] theorem ark_35 : ark prog 35 = none := by kernel_rfl
@[go_sem] theorem isStr_35 : isStr prog 35 = false := by kernel_rfl
@[go_sem] theorem isBool_35 : isBool prog 35 = false := by kernel_rfl
@[go_sem] theorem notInt_35 : notInt prog 35 = true := by kernel_rfl
@[go_sem] theorem zk_35 : zk prog 35 = some [Value.nilFunc] := by kernel_rfl
@[go_sem] theorem arn_35 : arn prog 35 = none := by kernel_rfl
@[go_sem] theorem bldk_35 : bldk prog 35 = false := by kernel_rfl
@[go_sem] theorem bsl_35 : bsl prog 35 = false := by kernel_rfl
@[go_sem] theorem isIf_35 : isIf prog 35 = false := by kernel_rfl
@[go_sem] theorem tk_36 : tk prog 36 = some (false, 1) := by kernel_rfl
@[go_sem] theorem und_36 : (prog.underlying 36).isSome = true := by kernel_rfl
@[go_sem] theorem slk_36 : slk prog 36 = none := by kernel_rfl
@[go_sem] theorem ark_36 : ark prog 36 = none := by kernel_rfl
@[go_sem] theorem isStr_36 : isStr prog 36 = false := by kernel_rfl
@[go_sem] theorem isBool_36 : isBool prog 36 = false := by kernel_rfl
@[go_sem] theorem notInt_36 : notInt prog 36 = true := by kernel_rfl
@[go_sem] theorem zk_36 : zk prog 36 = some [Value.nilFunc] := by kernel_rfl
@[go_sem] theorem arn_36 : arn prog 36 = none := by kernel_rfl
@[go_sem] theorem bldk_36 : bldk prog 36 = false := by kernel_rfl
@[go_sem] theorem bsl_36 : bsl prog 36 = false := by kernel_rfl
@[go_sem] theorem isIf_36 : isIf prog 36 = false := by kernel_rfl
@[go_sem] theorem tk_37 : tk prog 37 = some (false, 1) := by kernel_rfl
@[go_sem] theorem und_37 : (prog.underlying 37).isSome = true := by kernel_rfl
@[go_sem] theorem slk_37 : slk prog 37 = some (3, 1, 8) := by kernel_rfl
@[go_sem] theorem ark_37 : ark prog 37 = none := by kernel_rfl
@[go_sem] theorem isStr_37 : isStr prog 37 = false := by kernel_rfl
@[go_sem] theorem isBool_37 : isBool prog 37 = false := by kernel_rfl
@[go_sem] theorem notInt_37 : notInt prog 37 = true := by kernel_rfl
@[go_sem] theorem zk_37 : zk prog 37 = some [Value.slice none 0 0] := by kernel_rfl
@[go_sem] theorem elemZ_37 : elemZ prog 37 = some [Value.int IntKind.i64 (Int.ofNat 0)] := by kernel_rfl
@[go_sem] theorem arn_37 : arn prog 37 = none := by kernel_rfl
@[go_sem] theorem bldk_37 : bldk prog 37 = false := by kernel_rfl
@[go_sem] theorem bsl_37 : bsl prog 37 = false := by kernel_rfl
@[go_sem] theorem isIf_37 : isIf prog 37 = false := by kernel_rfl
@[go_sem] theorem isSl_37 : isSl prog 37 = true := by kernel_rfl
@[go_sem] theorem tk_38 : tk prog 38 = some (true, 4) := by kernel_rfl
@[go_sem] theorem und_38 : (prog.underlying 38).isSome = true := by kernel_rfl
@[go_sem] theorem slk_38 : slk prog 38 = none := by kernel_rfl
@[go_sem] theorem ark_38 : ark prog 38 = none := by kernel_rfl
@[go_sem] theorem isStr_38 : isStr prog 38 = false := by kernel_rfl
@[go_sem] theorem isBool_38 : isBool prog 38 = false := by kernel_rfl
@[go_sem] theorem notInt_38 : notInt prog 38 = true := by kernel_rfl
@[go_sem] theorem flk_38 : flk prog 38 = some [(0, 1), (1, 1), (2, 1), (3, 1)] := by kernel_rfl
@[go_sem] theorem zk_38 : zk prog 38 = some [Value.string { data := { toList := [] } }, Value.slice none 0 0, Value.string { data := { toList := [] } }, Value.slice none 0 0] := by kernel_rfl
@[go_sem] theorem arn_38 : arn prog 38 = none := by kernel_rfl
@[go_sem] theorem bldk_38 : bldk prog 38 = false := by kernel_rfl
@[go_sem] theorem bsl_38 : bsl prog 38 = false := by kernel_rfl
@[go_sem] theorem isIf_38 : isIf prog 38 = false := by kernel_rfl
@[go_sem] theorem fdk_38_0 : fdk prog 38 0 = some (0, false, 1) := by kernel_rfl
@[go_sem] theorem fdk_38_1 : fdk prog 38 1 = some (1, false, 1) := by kernel_rfl
@[go_sem] theorem fdk_38_2 : fdk prog 38 2 = some (2, false, 1) := by kernel_rfl
@[go_sem] theorem fdk_38_3 : fdk prog 38 3 = some (3, false, 1) := by kernel_rfl
@[go_sem] theorem tk_39 : tk prog 39 = some (true, 4) := by kernel_rfl
@[go_sem] theorem und_39 : (prog.underlying 39).isSome = true := by kernel_rfl
@[go_sem] theorem slk_39 : slk prog 39 = none := by kernel_rfl
@[go_sem] theorem ark_39 : ark prog 39 = none := by kernel_rfl
@[go_sem] theorem isStr_39 : isStr prog 39 = false := by kernel_rfl
@[go_sem] theorem isBool_39 : isBool prog 39 = false := by kernel_rfl
@[go_sem] theorem notInt_39 : notInt prog 39 = true := by kernel_rfl
@[go_sem] theorem flk_39 : flk prog 39 = some [(0, 1), (1, 1), (2, 1), (3, 1)] := by kernel_rfl
@[go_sem] theorem zk_39 : zk prog 39 = some [Value.string { data := { toList := [] } }, Value.slice none 0 0, Value.string { data := { toList := [] } }, Value.slice none 0 0] := by kernel_rfl
@[go_sem] theorem arn_39 : arn prog 39 = none := by kernel_rfl
@[go_sem] theorem bldk_39 : bldk prog 39 = false := by kernel_rfl
@[go_sem] theorem bsl_39 : bsl prog 39 = false := by kernel_rfl
@[go_sem] theorem isIf_39 : isIf prog 39 = false := by kernel_rfl
@[go_sem] theorem fdk_39_0 : fdk prog 39 0 = some (0, false, 1) := by kernel_rfl
@[go_sem] theorem fdk_39_1 : fdk prog 39 1 = some (1, false, 1) := by kernel_rfl
@[go_sem] theorem fdk_39_2 : fdk prog 39 2 = some (2, false, 1) := by kernel_rfl
@[go_sem] theorem fdk_39_3 : fdk prog 39 3 = some (3, false, 1) := by kernel_rfl
@[go_sem] theorem tk_40 : tk prog 40 = some (false, 1) := by kernel_rfl
@[go_sem] theorem und_40 : (prog.underlying 40).isSome = true := by kernel_rfl
@[go_sem] theorem slk_40 : slk prog 40 = none := by kernel_rfl
@[go_sem] theorem ark_40 : ark prog 40 = none := by kernel_rfl
@[go_sem] theorem isStr_40 : isStr prog 40 = false := by kernel_rfl
@[go_sem] theorem isBool_40 : isBool prog 40 = false := by kernel_rfl
@[go_sem] theorem notInt_40 : notInt prog 40 = true := by kernel_rfl
@[go_sem] theorem zk_40 : zk prog 40 = some [Value.nilFunc] := by kernel_rfl
@[go_sem] theorem arn_40 : arn prog 40 = none := by kernel_rfl
@[go_sem] theorem bldk_40 : bldk prog 40 = false := by kernel_rfl
@[go_sem] theorem bsl_40 : bsl prog 40 = false := by kernel_rfl
@[go_sem] theorem isIf_40 : isIf prog 40 = false := by kernel_rfl
@[go_sem] theorem tk_41 : tk prog 41 = some (false, 1) := by kernel_rfl
@[go_sem] theorem und_41 : (prog.underlying 41).isSome = true := by kernel_rfl
@[go_sem] theorem slk_41 : slk prog 41 = some (88, 2, 32) := by kernel_rfl
@[go_sem] theorem ark_41 : ark prog 41 = none := by kernel_rfl
@[go_sem] theorem isStr_41 : isStr prog 41 = false := by kernel_rfl
@[go_sem] theorem isBool_41 : isBool prog 41 = false := by kernel_rfl
@[go_sem] theorem notInt_41 : notInt prog 41 = true := by kernel_rfl
@[go_sem] theorem zk_41 : zk prog 41 = some [Value.slice none 0 0] := by kernel_rfl
@[go_sem] theorem elemZ_41 : elemZ prog 41 = some [Value.int IntKind.i64 (Int.ofNat 0), Value.slice none 0 0] := by kernel_rfl
@[go_sem] theorem arn_41 : arn prog 41 = none := by kernel_rfl
@[go_sem] theorem bldk_41 : bldk prog 41 = false := by kernel_rfl
@[go_sem] theorem bsl_41 : bsl prog 41 = false := by kernel_rfl
@[go_sem] theorem isIf_41 : isIf prog 41 = false := by kernel_rfl
@[go_sem] theorem isSl_41 : isSl prog 41 = true := by kernel_rfl
@[go_sem] theorem tk_42 : tk prog 42 = some (false, 1) := by kernel_rfl
@[go_sem] theorem und_42 : (prog.underlying 42).isSome = true := by kernel_rfl
@[go_sem] theorem slk_42 : slk prog 42 = none := by kernel_rfl
@[go_sem] theorem ark_42 : ark prog 42 = none := by kernel_rfl
@[go_sem] theorem isStr_42 : isStr prog 42 = false := by kernel_rfl
@[go_sem] theorem isBool_42 : isBool prog 42 = false := by kernel_rfl
@[go_sem] theorem ik_42 : ik prog 42 = some IntKind.i64 := by kernel_rfl
@[go_sem] theorem notInt_42 : notInt prog 42 = false := by kernel_rfl
@[go_sem] theorem zk_42 : zk prog 42 = some [Value.int IntKind.i64 (Int.ofNat 0)] := by kernel_rfl
@[go_sem] theorem arn_42 : arn prog 42 = none := by kernel_rfl
@[go_sem] theorem bldk_42 : bldk prog 42 = false := by kernel_rfl
@[go_sem] theorem bsl_42 : bsl prog 42 = false := by kernel_rfl
@[go_sem] theorem isIf_42 : isIf prog 42 = false := by kernel_rfl
@[go_sem] theorem tk_43 : tk prog 43 = some (false, 1) := by kernel_rfl
@[go_sem] theorem und_43 : (prog.underlying 43).isSome = true := by kernel_rfl
@[go_sem] theorem slk_43 : slk prog 43 = none := by kernel_rfl
@[go_sem] theorem ark_43 : ark prog 43 = none := by kernel_rfl
@[go_sem] theorem isStr_43 : isStr prog 43 = false := by kernel_rfl
@[go_sem] theorem isBool_43 : isBool prog 43 = false := by kernel_rfl
@[go_sem] theorem notInt_43 : notInt prog 43 = true := by kernel_rfl
@[go_sem] theorem zk_43 : zk prog 43 = some [Value.tuple { toList := [Value.slice none 0 0, Value.int IntKind.i64 (Int.ofNat 0)] }] := by kernel_rfl
@[go_sem] theorem arn_43 : arn prog 43 = none := by kernel_rfl
@[go_sem] theorem bldk_43 : bldk prog 43 = false := by kernel_rfl
@[go_sem] theorem bsl_43 : bsl prog 43 = false := by kernel_rfl
@[go_sem] theorem isIf_43 : isIf prog 43 = false := by kernel_rfl
@[go_sem] theorem tk_44 : tk prog 44 = some (false, 1) := by kernel_rfl
@[go_sem] theorem und_44 : (prog.underlying 44).isSome = true := by kernel_rfl
@[go_sem] theorem slk_44 : slk prog 44 = none := by kernel_rfl
@[go_sem] theorem ark_44 : ark prog 44 = none := by kernel_rfl
@[go_sem] theorem isStr_44 : isStr prog 44 = false := by kernel_rfl
@[go_sem] theorem isBool_44 : isBool prog 44 = false := by kernel_rfl
@[go_sem] theorem notInt_44 : notInt prog 44 = true := by kernel_rfl
@[go_sem] theorem zk_44 : zk prog 44 = some [Value.nilFunc] := by kernel_rfl
@[go_sem] theorem arn_44 : arn prog 44 = none := by kernel_rfl
@[go_sem] theorem bldk_44 : bldk prog 44 = false := by kernel_rfl
@[go_sem] theorem bsl_44 : bsl prog 44 = false := by kernel_rfl
@[go_sem] theorem isIf_44 : isIf prog 44 = false := by kernel_rfl
@[go_sem] theorem tk_45 : tk prog 45 = some (false, 1) := by kernel_rfl
@[go_sem] theorem und_45 : (prog.underlying 45).isSome = true := by kernel_rfl
@[go_sem] theorem slk_45 : slk prog 45 = none := by kernel_rfl
@[go_sem] theorem ark_45 : ark prog 45 = none := by kernel_rfl
@[go_sem] theorem isStr_45 : isStr prog 45 = false := by kernel_rfl
@[go_sem] theorem isBool_45 : isBool prog 45 = false := by kernel_rfl
@[go_sem] theorem notInt_45 : notInt prog 45 = true := by kernel_rfl
@[go_sem] theorem zk_45 : zk prog 45 = some [Value.nilFunc] := by kernel_rfl
@[go_sem] theorem arn_45 : arn prog 45 = none := by kernel_rfl
@[go_sem] theorem bldk_45 : bldk prog 45 = false := by kernel_rfl
@[go_sem] theorem bsl_45 : bsl prog 45 = false := by kernel_rfl
@[go_sem] theorem isIf_45 : isIf prog 45 = false := by kernel_rfl
@[go_sem] theorem tk_46 : tk prog 46 = some (false, 1) := by kernel_rfl
@[go_sem] theorem und_46 : (prog.underlying 46).isSome = true := by kernel_rfl
@[go_sem] theorem slk_46 : slk prog 46 = none := by kernel_rfl
@[go_sem] theorem ark_46 : ark prog 46 = none := by kernel_rfl
@[go_sem] theorem isStr_46 : isStr prog 46 = false := by kernel_rfl
@[go_sem] theorem isBool_46 : isBool prog 46 = false := by kernel_rfl
@[go_sem] theorem notInt_46 : notInt prog 46 = true := by kernel_rfl
@[go_sem] theorem zk_46 : zk prog 46 = some [Value.nilFunc] := by kernel_rfl
@[go_sem] theorem arn_46 : arn prog 46 = none := by kernel_rfl
@[go_sem] theorem bldk_46 : bldk prog 46 = false := by kernel_rfl
@[go_sem] theorem bsl_46 : bsl prog 46 = false := by kernel_rfl
@[go_sem] theorem isIf_46 : isIf prog 46 = false := by kernel_rfl
@[go_sem] theorem tk_47 : tk prog 47 = some (false, 1) := by kernel_rfl
@[go_sem] theorem und_47 : (prog.underlying 47).isSome = true := by kernel_rfl
@[go_sem] theorem slk_47 : slk prog 47 = none := by kernel_rfl
@[go_sem] theorem ark_47 : ark prog 47 = none := by kernel_rfl
@[go_sem] theorem isStr_47 : isStr prog 47 = false := by kernel_rfl
@[go_sem] theorem isBool_47 : isBool prog 47 = false := by kernel_rfl
@[go_sem] theorem notInt_47 : notInt prog 47 = true := by kernel_rfl
@[go_sem] theorem zk_47 : zk prog 47 = some [Value.nilFunc] := by kernel_rfl
@[go_sem] theorem arn_47 : arn prog 47 = none := by kernel_rfl
@[go_sem] theorem bldk_47 : bldk prog 47 = false := by kernel_rfl
@[go_sem] theorem bsl_47 : bsl prog 47 = false := by kernel_rfl
@[go_sem] theorem isIf_47 : isIf prog 47 = false := by kernel_rfl
@[go_sem] theorem tk_48 : tk prog 48 = some (false, 1) := by kernel_rfl
@[go_sem] theorem und_48 : (prog.underlying 48).isSome = true := by kernel_rfl
@[go_sem] theorem slk_48 : slk prog 48 = none := by kernel_rfl
@[go_sem] theorem ark_48 : ark prog 48 = none := by kernel_rfl
@[go_sem] theorem isStr_48 : isStr prog 48 = false := by kernel_rfl
@[go_sem] theorem isBool_48 : isBool prog 48 = false := by kernel_rfl
@[go_sem] theorem ik_48 : ik prog 48 = some IntKind.i8 := by kernel_rfl
@[go_sem] theorem notInt_48 : notInt prog 48 = false := by kernel_rfl
@[go_sem] theorem zk_48 : zk prog 48 = some [Value.int IntKind.i8 (Int.ofNat 0)] := by kernel_rfl
@[go_sem] theorem arn_48 : arn prog 48 = none := by kernel_rfl
@[go_sem] theorem bldk_48 : bldk prog 48 = false := by kernel_rfl
@[go_sem] theorem bsl_48 : bsl prog 48 = false := by kernel_rfl
@[go_sem] theorem isIf_48 : isIf prog 48 = false := by kernel_rfl
@[go_sem] theorem tk_49 : tk prog 49 = some (true, 7) := by kernel_rfl
@[go_sem] theorem und_49 : (prog.underlying 49).isSome = true := by kernel_rfl
@[go_sem] theorem slk_49 : slk prog 49 = none := by kernel_rfl
@[go_sem] theorem ark_49 : ark prog 49 = none := by kernel_rfl
@[go_sem] theorem isStr_49 : isStr prog 49 = false := by kernel_rfl
@[go_sem] theorem isBool_49 : isBool prog 49 = false := by kernel_rfl
@[go_sem] theorem notInt_49 : notInt prog 49 = true := by kernel_rfl
@[go_sem] theorem flk_49 : flk prog 49 = some [(0, 4), (4, 1), (5, 1), (6, 1)] := by kernel_rfl
@[go_sem] theorem zk_49 : zk prog 49 = some [Value.int IntKind.u8 (Int.ofNat 0), Value.int IntKind.u8 (Int.ofNat 0), Value.slice none 0 0, Value.slice none 0 0, Value.int IntKind.u8 (Int.ofNat 0), Value.int IntKind.u8 (Int.ofNat 0), Value.int IntKind.i8 (Int.ofNat 0)] := by kernel_rfl
@[go_sem] theorem arn_49 : arn prog 49 = none := by kernel_rfl
@[go_sem] theorem bldk_49 : bldk prog 49 = false := by kernel_rfl
@[go_sem] theorem bsl_49 : bsl prog 49 = false := by kernel_rfl
@[go_sem] theorem isIf_49 : isIf prog 49 = false := by kernel_rfl
@[go_sem] theorem fdk_49_0 : fdk prog 49 0 = some (0, true, 4) := by kernel_rfl
@[go_sem] theorem fdk_49_1 : fdk prog 49 1 = some (4, false, 1) := by kernel_rfl
@[go_sem] theorem fdk_49_2 : fdk prog 49 2 = some (5, false, 1) := by kernel_rfl
@[go_sem] theorem fdk_49_3 : fdk prog 49 3 = some (6, false, 1) := by kernel_rfl
@[go_sem] theorem tk_50 : tk prog 50 = some (true, 7) := by kernel_rfl
@[go_sem] theorem und_50 : (prog.underlying 50).isSome = true := by kernel_rfl
@[go_sem] theorem slk_50 : slk prog 50 = none := by kernel_rfl
@[go_sem] theorem ark_50 : ark prog 50 = none := by kernel_rfl
@[go_sem] theorem isStr_50 : isStr prog 50 = false := by kernel_rfl
@[go_sem] theorem isBool_50 : isBool prog 50 = false := by kernel_rfl
@[go_sem] theorem notInt_50 : notInt prog 50 = true := by kernel_rfl
@[go_sem] theorem flk_50 : flk prog 50 = some [(0, 4), (4, 1), (5, 1), (6, 1)] := by kernel_rfl
@[go_sem] theorem zk_50 : zk prog 50 = some [Value.int IntKind.u8 (Int.ofNat 0), Value.int IntKind.u8 (Int.ofNat 0), Value.slice none 0 0, Value.slice none 0 0, Value.int IntKind.u8 (Int.ofNat 0), Value.int IntKind.u8 (Int.ofNat 0), Value.int IntKind.i8 (Int.ofNat 0)] := by kernel_rfl
@[go_sem] theorem arn_50 : arn prog 50 = none := by kernel_rfl
@[go_sem] theorem bldk_50 : bldk prog 50 = false := by kernel_rfl
@[go_sem] theorem bsl_50 : bsl prog 50 = false := by kernel_rfl
@[go_sem] theorem isIf_50 : isIf prog 50 = false := by kernel_rfl
@[go_sem] theorem fdk_50_0 : fdk prog 50 0 = some (0, true, 4) := by kernel_rfl
@[go_sem] theorem fdk_50_1 : fdk prog 50 1 = some (4, false, 1) := by kernel_rfl
@[go_sem] theorem fdk_50_2 : fdk prog 50 2 = some (5, false, 1) := by kernel_rfl
@[go_sem] theorem fdk_50_3 : fdk prog 50 3 = some (6, false, 1) := by kernel_rfl
@[go_sem] theorem tk_51 : tk prog 51 = some (false, 1) := by kernel_rfl
@[go_sem] theorem und_51 : (prog.underlying 51).isSome = true := by kernel_rfl
@[go_sem] theorem slk_51 : slk prog 51 = none := by kernel_rfl
@[go_sem] theorem ark_51 : ark prog 51 = none := by kernel_rfl
@[go_sem] theorem isStr_51 : isStr prog 51 = false := by kernel_rfl
@[go_sem] theorem isBool_51 : isBool prog 51 = false := by kernel_rfl
@[go_sem] theorem notInt_51 : notInt prog 51 = true := by kernel_rfl
@[go_sem] theorem zk_51 : zk prog 51 = some [Value.nilFunc] := by kernel_rfl
@[go_sem] theorem arn_51 : arn prog 51 = none := by kernel_rfl
@[go_sem] theorem bldk_51 : bldk prog 51 = false := by kernel_rfl
@[go_sem] theorem bsl_51 : bsl prog 51 = false := by kernel_rfl
@[go_sem] theorem isIf_51 : isIf prog 51 = false := by kernel_rfl
@[go_sem] theorem tk_52 : tk prog 52 = some (false, 1) := by kernel_rfl
@[go_sem] theorem und_52 : (prog.underlying 52).isSome = true := by kernel_rfl
@[go_sem] theorem slk_52 : slk prog 52 = none := by kernel_rfl
@[go_sem] theorem ark_52 : ark prog 52 = none := by kernel_rfl
@[go_sem] theorem isStr_52 : isStr prog 52 = false := by kernel_rfl
@[go_sem] theorem isBool_52 : isBool prog 52 = false := by kernel_rfl
@[go_sem] theorem notInt_52 : notInt prog 52 = true := by kernel_rfl
@[go_sem] theorem zk_52 : zk prog 52 = some [Value.nilFunc] := by kernel_rfl
@[go_sem] theorem arn_52 : arn prog 52 = none := by kernel_rfl
@[go_sem] theorem bldk_52 : bldk prog 52 = false := by kernel_rfl
@[go_sem] theorem bsl_52 : bsl prog 52 = false := by kernel_rfl
@[go_sem] theorem isIf_52 : isIf prog 52 = false := by kernel_rfl
@[go_sem] theorem tk_53 : tk prog 53 = some (false, 1) := by kernel_rfl
@[go_sem] theorem und_53 : (prog.underlying 53).isSome = true := by kernel_rfl
@[go_sem] theorem slk_53 : slk prog 53 = none := by kernel_rfl
@[go_sem] theorem ark_53 : ark prog 53 = none := by kernel_rfl
@[go_sem] theorem isStr_53 : isStr prog 53 = false := by kernel_rfl
@[go_sem] theorem isBool_53 : isBool prog 53 = false := by kernel_rfl
@[go_sem] theorem notInt_53 : notInt prog 53 = true := by kernel_rfl
@[go_sem] theorem zk_53 : zk prog 53 = some [Value.tuple { toList := [Value.agg { toList := [Value.slice none 0 0] }, Value.int IntKind.i64 (Int.ofNat 0)] }] := by kernel_rfl
@[go_sem] theorem arn_53 : arn prog 53 = none := by kernel_rfl
@[go_sem] theorem bldk_53 : bldk prog 53 = false := by kernel_rfl
@[go_sem] theorem bsl_53 : bsl prog 53 = false := by kernel_rfl
@[go_sem] theorem isIf_53 : isIf prog 53 = false := by kernel_rfl
@[go_sem] theorem tk_54 : tk prog 54 = some (false, 1) := by kernel_rfl
@[go_sem] theorem und_54 : (prog.underlying 54).isSome = true := by kernel_rfl
@[go_sem] theorem slk_54 : slk prog 54 = none := by kernel_rfl
@[go_sem] theorem ark_54 : ark prog 54 = none := by kernel_rfl
@[go_sem] theorem isStr_54 : isStr prog 54 = false := by kernel_rfl
@[go_sem] theorem isBool_54 : isBool prog 54 = false := by kernel_rfl
@[go_sem] theorem notInt_54 : notInt prog 54 = true := by kernel_rfl
@[go_sem] theorem zk_54 : zk prog 54 = some [Value.nilFunc] := by kernel_rfl
@[go_sem] theorem arn_54 : arn prog 54 = none := by kernel_rfl
@[go_sem] theorem bldk_54 : bldk prog 54 = false := by kernel_rfl
@[go_sem] theorem bsl_54 : bsl prog 54 = false := by kernel_rfl
@[go_sem] theorem isIf_54 : isIf prog 54 = false := by kernel_rfl
@[go_sem] theorem tk_55 : tk prog 55 = some (false, 1) := by kernel_rfl
@[go_sem] theorem und_55 : (prog.underlying 55).isSome = true := by kernel_rfl
@[go_sem] theorem slk_55 : slk prog 55 = none := by kernel_rfl
@[go_sem] theorem ark_55 : ark prog 55 = none := by kernel_rfl
@[go_sem] theorem isStr_55 : isStr prog 55 = false := by kernel_rfl
@[go_sem] theorem isBool_55 : isBool prog 55 = false := by kernel_rfl
@[go_sem] theorem notInt_55 : notInt prog 55 = true := by kernel_rfl
@[go_sem] theorem zk_55 : zk prog 55 = some [Value.nilFunc] := by kernel_rfl
@[go_sem] theorem arn_55 : arn prog 55 = none := by kernel_rfl
@[go_sem] theorem bldk_55 : bldk prog 55 = false := by kernel_rfl
@[go_sem] theorem bsl_55 : bsl prog 55 = false := by kernel_rfl
@[go_sem] theorem isIf_55 : isIf prog 55 = false := by kernel_rfl
@[go_sem] theorem tk_56 : tk prog 56 = some (false, 1) := by kernel_rfl
@[go_sem] theorem und_56 : (prog.underlying 56).isSome = true := by kernel_rfl
@[go_sem] theorem slk_56 : slk prog 56 = none := by kernel_rfl
@[go_sem] theorem ark_56 : ark prog 56 = none := by kernel_rfl
@[go_sem] theorem isStr_56 : isStr prog 56 = false := by kernel_rfl
@[go_sem] theorem isBool_56 : isBool prog 56 = false := by kernel_rfl
@[go_sem] theorem notInt_56 : notInt prog 56 = true := by kernel_rfl
@[go_sem] theorem zk_56 : zk prog 56 = some [Value.nilFunc] := by kernel_rfl
@[go_sem] theorem arn_56 : arn prog 56 = none := by kernel_rfl
@[go_sem] theorem bldk_56 : bldk prog 56 = false := by kernel_rfl
@[go_sem] theorem bsl_56 : bsl prog 56 = false := by kernel_rfl
@[go_sem] theorem isIf_56 : isIf prog 56 = false := by kernel_rfl
@[go_sem] theorem tk_57 : tk prog 57 = some (false, 1) := by kernel_rfl
@[go_sem] theorem und_57 : (prog.underlying 57).isSome = true := by kernel_rfl
@[go_sem] theorem slk_57 : slk prog 57 = none := by kernel_rfl
@[go_sem] theorem ark_57 : ark prog 57 = none := by kernel_rfl
@[go_sem] theorem isStr_57 : isStr prog 57 = false := by kernel_rfl
@[go_sem] theorem isBool_57 : isBool prog 57 = false := by kernel_rfl
@[go_sem] theorem notInt_57 : notInt prog 57 = true := by kernel_rfl
@[go_sem] theorem zk_57 : zk prog 57 = some [Value.nilFunc] := by kernel_rfl
@[go_sem] theorem arn_57 : arn prog 57 = none := by kernel_rfl
@[go_sem] theorem bldk_57 : bldk prog 57 = false := by kernel_rfl
@[go_sem] theorem bsl_57 : bsl prog 57 = false := by kernel_rfl
@[go_sem] theorem isIf_57 : isIf prog 57 = false := by kernel_rfl
@[go_sem] theorem tk_58 : tk prog 58 = some (false, 1) := by kernel_rfl
@[go_sem] theorem und_58 : (prog.underlying 58).isSome = true := by kernel_rfl
@[go_sem] theorem slk_58 : slk prog 58 = none := by kernel_rfl
@[go_sem] theorem ark_58 : ark prog 58 = none := by kernel_rfl
@[go_sem] theorem isStr_58 : isStr prog 58 = false := by kernel_rfl
@[go_sem] theorem isBool_58 : isBool prog 58 = false := by kernel_rfl
@[go_sem] theorem notInt_58 : notInt prog 58 = true := by kernel_rfl
@[go_sem] theorem zk_58 : zk prog 58 = some [Value.nilFunc] := by kernel_rfl
@[go_sem] theorem arn_58 : arn prog 58 = none := by kernel_rfl
@[go_sem] theorem bldk_58 : bldk prog 58 = false := by kernel_rfl
@[go_sem] theorem bsl_58 : bsl prog 58 = false := by kernel_rfl
@[go_sem] theorem isIf_58 : isIf prog 58 = false := by kernel_rfl
@[go_sem] theorem tk_59 : tk prog 59 = some (false, 1) := by kernel_rfl
@[go_sem] theorem und_59 : (prog.underlying 59).isSome = true := by kernel_rfl
@[go_sem] theorem slk_59 : slk prog 59 = none := by kernel_rfl
@[go_sem] theorem ark_59 : ark prog 59 = none := by kernel_rfl
@[go_sem] theorem isStr_59 : isStr prog 59 = false := by kernel_rfl
@[go_sem] theorem isBool_59 : isBool prog 59 = false := by kernel_rfl
@[go_sem] theorem notInt_59 : notInt prog 59 = true := by kernel_rfl
@[go_sem] theorem zk_59 : zk prog 59 = some [Value.nilFunc] := by kernel_rfl
@[go_sem] theorem arn_59 : arn prog 59 = none := by kernel_rfl
@[go_sem] theorem bldk_59 : bldk prog 59 = false := by kernel_rfl
@[go_sem] theorem bsl_59 : bsl prog 59 = false := by kernel_rfl
@[go_sem] theorem isIf_59 : isIf prog 59 = false := by kernel_rfl
@[go_sem] theorem tk_60 : tk prog 60 = some (false, 1) := by kernel_rfl
@[go_sem] theorem und_60 : (prog.underlying 60).isSome = true := by kernel_rfl
@[go_sem] theorem slk_60 : slk prog 60 = none := by kernel_rfl
@[go_sem] theorem ark_60 : ark prog 60 = none := by kernel_rfl
@[go_sem] theorem isStr_60 : isStr prog 60 = false := by kernel_rfl
@[go_sem] theorem isBool_60 : isBool prog 60 = false := by kernel_rfl
@[go_sem] theorem notInt_60 : notInt prog 60 = true := by kernel_rfl
@[go_sem] theorem zk_60 : zk prog 60 = some [Value.nilFunc] := by kernel_rfl
@[go_sem] theorem arn_60 : arn prog 60 = none := by kernel_rfl
@[go_sem] theorem bldk_60 : bldk prog 60 = false := by kernel_rfl
@[go_sem] theorem bsl_60 : bsl prog 60 = false := by kernel_rfl
@[go_sem] theorem isIf_60 : isIf prog 60 = false := by kernel_rfl
@[go_sem] theorem tk_61 : tk prog 61 = some (false, 1) := by kernel_rfl
@[go_sem] theorem und_61 : (prog.underlying 61).isSome = true := by kernel_rfl
@[go_sem] theorem slk_61 : slk prog 61 = none := by kernel_rfl
@[go_sem] theorem ark_61 : ark prog 61 = none := by kernel_rfl
@[go_sem] theorem isStr_61 : isStr prog 61 = false := by kernel_rfl
@[go_sem] theorem isBool_61 : isBool prog 61 = false := by kernel_rfl
@[go_sem] theorem notInt_61 : notInt prog 61 = true := by kernel_rfl
@[go_sem] theorem zk_61 : zk prog 61 = some [Value.nilFunc] := by kernel_rfl
@[go_sem] theorem arn_61 : arn prog 61 = none := by kernel_rfl
@[go_sem] theorem bldk_61 : bldk prog 61 = false := by kernel_rfl
@[go_sem] theorem bsl_61 : bsl prog 61 = false := by kernel_rfl
@[go_sem] theorem isIf_61 : isIf prog 61 = false := by kernel_rfl
@[go_sem] theorem tk_62 : tk prog 62 = some (false, 1) := by kernel_rfl
@[go_sem] theorem und_62 : (prog.underlying 62).isSome = true := by kernel_rfl
@[go_sem] theorem slk_62 : slk prog 62 = none := by kernel_rfl
@[go_sem] theorem ark_62 : ark prog 62 = none := by kernel_rfl
@[go_sem] theorem isStr_62 : isStr prog 62 = false := by kernel_rfl
@[go_sem] theorem isBool_62 : isBool prog 62 = false := by kernel_rfl
@[go_sem] theorem notInt_62 : notInt prog 62 = true := by kernel_rfl
@[go_sem] theorem zk_62 : zk prog 62 = some [Value.nilFunc] := by kernel_rfl
@[go_sem] theorem arn_62 : arn prog 62 = none := by kernel_rfl
@[go_sem] theorem bldk_62 : bldk prog 62 = false := by kernel_rfl
@[go_sem] theorem bsl_62 : bsl prog 62 = false := by kernel_rfl
@[go_sem] theorem isIf_62 : isIf prog 62 = false := by kernel_rfl
@[go_sem] theorem tk_63 : tk prog 63 = some (false, 1) := by kernel_rfl
@[go_sem] theorem und_63 : (prog.underlying 63).isSome = true := by kernel_rfl
@[go_sem] theorem slk_63 : slk prog 63 = none := by kernel_rfl
@[go_sem] theorem ark_63 : ark prog 63 = none := by kernel_rfl
@[go_sem] theorem isStr_63 : isStr prog 63 = false := by kernel_rfl
@[go_sem] theorem isBool_63 : isBool prog 63 = false := by kernel_rfl
@[go_sem] theorem notInt_63 : notInt prog 63 = true := by kernel_rfl
@[go_sem] theorem zk_63 : zk prog 63 = some [Value.nilFunc] := by kernel_rfl
@[go_sem] theorem arn_63 : arn prog 63 = none := by kernel_rfl
@[go_sem] theorem bldk_63 : bldk prog 63 = false := by kernel_rfl
@[go_sem] theorem bsl_63 : bsl prog 63 = false := by kernel_rfl
@[go_sem] theorem isIf_63 : isIf prog 63 = false := by kernel_rfl
@[go_sem] theorem tk_64 : tk prog 64 = some (false, 1) := by kernel_rfl
@[go_sem] theorem und_64 : (prog.underlying 64).isSome = true := by kernel_rfl
@[go_sem] theorem slk_64 : slk prog 64 = none := by kernel_rfl
@[go_sem] theorem ark_64 : ark prog 64 = none := by kernel_rfl
@[go_sem] theorem isStr_64 : isStr prog 64 = false := by kernel_rfl
@[go_sem] theorem isBool_64 : isBool prog 64 = false := by kernel_rfl
@[go_sem] theorem notInt_64 : notInt prog 64 = true := by kernel_rfl
@[go_sem] theorem zk_64 : zk prog 64 = some [Value.tuple { toList := [Value.bool false, Value.int IntKind.i64 (Int.ofNat 0)] }] := by kernel_rfl
@[go_sem] theorem arn_64 : arn prog 64 = none := by kernel_rfl
@[go_sem] theorem bldk_64 : bldk prog 64 = false := by kernel_rfl
@[go_sem] theorem bsl_64 : bsl prog 64 = false := by kernel_rfl
@[go_sem] theorem isIf_64 : isIf prog 64 = false := by kernel_rfl
@[go_sem] theorem tk_65 : tk prog 65 = some (false, 1) := by kernel_rfl
@[go_sem] theorem und_65 : (prog.underlying 65).isSome = true := by kernel_rfl
@[go_sem] theorem slk_65 : slk prog 65 = none := by kernel_rfl
@[go_sem] theorem ark_65 : ark prog 65 = none := by kernel_rfl
@[go_sem] theorem isStr_65 : isStr prog 65 = false := by kernel_rfl
@[go_sem] theorem isBool_65 : isBool prog 65 = false := by kernel_rfl
@[go_sem] theorem notInt_65 : notInt prog 65 = true := by kernel_rfl
@[go_sem] theorem zk_65 : zk prog 65 = some [Value.nilFunc] := by kernel_rfl
@[go_sem] theorem arn_65 : arn prog 65 = none := by kernel_rfl
@[go_sem] theorem bldk_65 : bldk prog 65 = false := by kernel_rfl
@[go_sem] theorem bsl_65 : bsl prog 65 = false := by kernel_rfl
@[go_sem] theorem isIf_65 : isIf prog 65 = false := by kernel_rfl
@[go_sem] theorem tk_66 : tk prog 66 = some (false, 1) := by kernel_rfl
@[go_sem] theorem und_66 : (prog.underlying 66).isSome = true := by kernel_rfl
@[go_sem] theorem slk_66 : slk prog 66 = none := by kernel_rfl
@[go_sem] theorem ark_66 : ark prog 66 = none := by kernel_rfl
@[go_sem] theorem isStr_66 : isStr prog 66 = false := by kernel_rfl
@[go_sem] theorem isBool_66 : isBool prog 66 = false := by kernel_rfl
@[go_sem] theorem notInt_66 : notInt prog 66 = true := by kernel_rfl
@[go_sem] theorem zk_66 : zk prog 66 = some [Value.nilFunc] := by kernel_rfl
@[go_sem] theorem arn_66 : arn prog 66 = none := by kernel_rfl
@[go_sem] theorem bldk_66 : bldk prog 66 = false := by kernel_rfl
@[go_sem] theorem bsl_66 : bsl prog 66 = false := by kernel_rfl
@[go_sem] theorem isIf_66 : isIf prog 66 = false := by kernel_rfl
@[go_sem] theorem tk_67 : tk prog 67 = some (false, 1) := by kernel_rfl
@[go_sem] theorem und_67 : (prog.underlying 67).isSome = true := by kernel_rfl
@[go_sem] theorem slk_67 : slk prog 67 = none := by kernel_rfl
@[go_sem] theorem ark_67 : ark prog 67 = none := by kernel_rfl
@[go_sem] theorem isStr_67 : isStr prog 67 = false := by kernel_rfl
@[go_sem] theorem isBool_67 : isBool prog 67 = false := by kernel_rfl
@[go_sem] theorem notInt_67 : notInt prog 67 = true := by kernel_rfl
@[go_sem] theorem zk_67 : zk prog 67 = some [Value.nilFunc] := by kernel_rfl
@[go_sem] theorem arn_67 : arn prog 67 = none := by kernel_rfl
@[go_sem] theorem bldk_67 : bldk prog 67 = false := by kernel_rfl
@[go_sem] theorem bsl_67 : bsl prog 67 = false := by kernel_rfl
@[go_sem] theorem isIf_67 : isIf prog 67 = false := by kernel_rfl
@[go_sem] theorem tk_68 : tk prog 68 = some (false, 1) := by kernel_rfl
@[go_sem] theorem und_68 : (prog.underlying 68).isSome = true := by kernel_rfl
@[go_sem] theorem slk_68 : slk prog 68 = some (2, 1, 8) := by kernel_rfl
@[go_sem] theorem ark_68 : ark prog 68 = none := by kernel_rfl
@[go_sem] theorem isStr_68 : isStr prog 68 = false := by kernel_rfl
@[go_sem] theorem isBool_68 : isBool prog 68 = false := by kernel_rfl
@[go_sem] theorem notInt_68 : notInt prog 68 = true := by kernel_rfl
@[go_sem] theorem zk_68 : zk prog 68 = some [Value.slice none 0 0] := by kernel_rfl
@[go_sem] theorem elemZ_68 : elemZ prog 68 = some [Value.int IntKind.i64 (Int.ofNat 0)] := by kernel_rfl
@[go_sem] theorem arn_68 : arn prog 68 = none := by kernel_rfl
@[go_sem] theorem bldk_68 : bldk prog 68 = false := by kernel_rfl
@[go_sem] theorem bsl_68 : bsl prog 68 = false := by kernel_rfl
@[go_sem] theorem isIf_68 : isIf prog 68 = false := by kernel_rfl
@[go_sem] theorem isSl_68 : isSl prog 68 = true := by kernel_rfl
@[go_sem] theorem tk_69 : tk prog 69 = some (false, 1) := by kernel_rfl
@[go_sem] theorem und_69 : (prog.underlying 69).isSome = true := by kernel_rfl
@[go_sem] theorem slk_69 : slk prog 69 = none := by kernel_rfl
@[go_sem] theorem ark_69 : ark prog 69 = none := by kernel_rfl
@[go_sem] theorem isStr_69 : isStr prog 69 = false := by kernel_rfl
@[go_sem] theorem isBool_69 : isBool prog 69 = false := by kernel_rfl
@[go_sem] theorem notInt_69 : notInt prog 69 = true := by kernel_rfl
@[go_sem] theorem zk_69 : zk prog 69 = some [Value.tuple { toList := [Value.slice none 0 0, Value.int IntKind.i64 (Int.ofNat 0)] }] := by kernel_rfl
@[go_sem] theorem arn_69 : arn prog 69 = none := by kernel_rfl
@[go_sem] theorem bldk_69 : bldk prog 69 = false := by kernel_rfl
@[go_sem] theorem bsl_69 : bsl prog 69 = false := by kernel_rfl
@[go_sem] theorem isIf_69 : isIf prog 69 = false := by kernel_rfl
@[go_sem] theorem tk_70 : tk prog 70 = some (false, 1) := by kernel_rfl
@[go_sem] theorem und_70 : (prog.underlying 70).isSome = true := by kernel_rfl
@[go_sem] theorem slk_70 : slk prog 70 = none := by kernel_rfl
@[go_sem] theorem ark_70 : ark prog 70 = none := by kernel_rfl
@[go_sem] theorem isStr_70 : isStr prog 70 = false := by kernel_rfl
@[go_sem] theorem isBool_70 : isBool prog 70 = false := by kernel_rfl
@[go_sem] theorem notInt_70 : notInt prog 70 = true := by kernel_rfl
@[go_sem] theorem zk_70 : zk prog 70 = some [Value.nilFunc] := by kernel_rfl
@[go_sem] theorem arn_70 : arn prog 70 = none := by kernel_rfl
@[go_sem] theorem bldk_70 : bldk prog 70 = false := by kernel_rfl
@[go_sem] theorem bsl_70 : bsl prog 70 = false := by kernel_rfl
@[go_sem] theorem isIf_70 : isIf prog 70 = false := by kernel_rfl
@[go_sem] theorem tk_71 : tk prog 71 = some (false, 1) := by kernel_rfl
@[go_sem] theorem und_71 : (prog.underlying 71).isSome = true := by kernel_rfl
@[go_sem] theorem slk_71 : slk prog 71 = none := by kernel_rfl
@[go_sem] theorem ark_71 : ark prog 71 = none := by kernel_rfl
@[go_sem] theorem isStr_71 : isStr prog 71 = false := by kernel_rfl
@[go_sem] theorem isBool_71 : isBool prog 71 = false := by kernel_rfl
@[go_sem] theorem notInt_71 : notInt prog 71 = true := by kernel_rfl
@[go_sem] theorem zk_71 : zk prog 71 = some [Value.nilFunc] := by kernel_rfl
@[go_sem] theorem arn_71 : arn prog 71 = none := by kernel_rfl
@[go_sem] theorem bldk_71 : bldk prog 71 = false := by kernel_rfl
@[go_sem] theorem bsl_71 : bsl prog 71 = false := by kernel_rfl
@[go_sem] theorem isIf_71 : isIf prog 71 = false := by kernel_rfl
@[go_sem] theorem tk_72 : tk prog 72 = some (false, 1) := by kernel_rfl
@[go_sem] theorem und_72 : (prog.underlying 72).isSome = true := by kernel_rfl
@[go_sem] theorem slk_72 : slk prog 72 = some (9, 1, 16) := by kernel_rfl
@[go_sem] theorem ark_72 : ark prog 72 = none := by kernel_rfl
@[go_sem] theorem isStr_72 : isStr prog 72 = false := by kernel_rfl
@[go_sem] theorem isBool_72 : isBool prog 72 = false := by kernel_rfl
@[go_sem] theorem notInt_72 : notInt prog 72 = true := by kernel_rfl
@[go_sem] theorem zk_72 : zk prog 72 = some [Value.slice none 0 0] := by kernel_rfl
@[go_sem] theorem elemZ_72 : elemZ prog 72 = some [Value.string { data := { toList := [] } }] := by kernel_rfl
@[go_sem] theorem arn_72 : arn prog 72 = none := by kernel_rfl
@[go_sem] theorem bldk_72 : bldk prog 72 = false := by kernel_rfl
@[go_sem] theorem bsl_72 : bsl prog 72 = false := by kernel_rfl
@[go_sem] theorem isIf_72 : isIf prog 72 = false := by kernel_rfl
@[go_sem] theorem isSl_72 : isSl prog 72 = true := by kernel_rfl
@[go_sem] theorem tk_73 : tk prog 73 = some (false, 1) := by kernel_rfl
@[go_sem] theorem und_73 : (prog.underlying 73).isSome = true := by kernel_rfl
@[go_sem] theorem slk_73 : slk prog 73 = some (114, 2, 32) := by kernel_rfl
@[go_sem] theorem ark_73 : ark prog 73 = none := by kernel_rfl
@[go_sem] theorem isStr_73 : isStr prog 73 = false := by kernel_rfl
@[go_sem] theorem isBool_73 : isBool prog 73 = false := by kernel_rfl
@[go_sem] theorem notInt_73 : notInt prog 73 = true := by kernel_rfl
@[go_sem] theorem zk_73 : zk prog 73 = some [Value.slice none 0 0] := by kernel_rfl
@[go_sem] theorem elemZ_73 : elemZ prog 73 = some [Value.int IntKind.i64 (Int.ofNat 0), Value.slice none 0 0] := by kernel_rfl
@[go_sem] theorem arn_73 : arn prog 73 = none := by kernel_rfl
@[go_sem] theorem bldk_73 : bldk prog 73 = false := by kernel_rfl
@[go_sem] theorem bsl_73 : bsl prog 73 = false := by kernel_rfl
@[go_sem] theorem isIf_73 : isIf prog 73 = false := by kernel_rfl
@[go_sem] theorem isSl_73 : isSl prog 73 = true := by kernel_rfl
@[go_sem] theorem tk_74 : tk prog 74 = some (true, 3) := by kernel_rfl
@[go_sem] theorem und_74 : (prog.underlying 74).isSome = true := by kernel_rfl
@[go_sem] theorem slk_74 : slk prog 74 = none := by kernel_rfl
@[go_sem] theorem ark_74 : ark prog 74 = none := by kernel_rfl
@[go_sem] theorem isStr_74 : isStr prog 74 = false := by kernel_rfl
@[go_sem] theorem isBool_74 : isBool prog 74 = false := by kernel_rfl
@[go_sem] theorem notInt_74 : notInt prog 74 = true := by kernel_rfl
@[go_sem] theorem flk_74 : flk prog 74 = some [(0, 1), (1, 1), (2, 1)] := by kernel_rfl
@[go_sem] theorem zk_74 : zk prog 74 = some [Value.string { data := { toList := [] } }, Value.slice none 0 0, Value.slice none 0 0] := by kernel_rfl
@[go_sem] theorem arn_74 : arn prog 74 = none := by kernel_rfl
@[go_sem] theorem bldk_74 : bldk prog 74 = false := by kernel_rfl
@[go_sem] theorem bsl_74 : bsl prog 74 = false := by kernel_rfl
@[go_sem] theorem isIf_74 : isIf prog 74 = false := by kernel_rfl
@[go_sem] theorem fdk_74_0 : fdk prog 74 0 = some (0, false, 1) := by kernel_rfl
@[go_sem] theorem fdk_74_1 : fdk prog 74 1 = some (1, false, 1) := by kernel_rfl
@[go_sem] theorem fdk_74_2 : fdk prog 74 2 = some (2, false, 1) := by kernel_rfl
@[go_sem] theorem tk_75 : tk prog 75 = some (true, 3) := by kernel_rfl
@[go_sem] theorem und_75 : (prog.underlying 75).isSome = true := by kernel_rfl
@[go_sem] theorem slk_75 : slk prog 75 = none := by kernel_rfl
@[go_sem] theorem ark_75 : ark prog 75 = none := by kernel_rfl
@[go_sem] theorem isStr_75 : isStr prog 75 = false := by kernel_rfl
@[go_sem] theorem isBool_75 : isBool prog 75 = false := by kernel_rfl
@[go_sem] theorem notInt_75 : notInt prog 75 = true := by kernel_rfl
@[go_sem] theorem flk_75 : flk prog 75 = some [(0, 1), (1, 1), (2, 1)] := by kernel_rfl
@[go_sem] theorem zk_75 : zk prog 75 = some [Value.string { data := { toList := [] } }, Value.slice none 0 0, Value.slice none 0 0] := by kernel_rfl
@[go_sem] theorem arn_75 : arn prog 75 = none := by kernel_rfl
@[go_sem] theorem bldk_75 : bldk prog 75 = false := by kernel_rfl
@[go_sem] theorem bsl_75 : bsl prog 75 = false := by kernel_rfl
@[go_sem] theorem isIf_75 : isIf prog 75 = false := by kernel_rfl
@[go_sem] theorem fdk_75_0 : fdk prog 75 0 = some (0, false, 1) := by kernel_rfl
@[go_sem] theorem fdk_75_1 : fdk prog 75 1 = some (1, false, 1) := by kernel_rfl
@[go_sem] theorem fdk_75_2 : fdk prog 75 2 = some (2, false, 1) := by kernel_rfl
@[go_sem] theorem tk_76 : tk prog 76 = some (false, 1) := by kernel_rfl
@[go_sem] theorem und_76 : (prog.underlying 76).isSome = true := by kernel_rfl
@[go_sem] theorem slk_76 : slk prog 76 = none := by kernel_rfl
@[go_sem] theorem ark_76 : ark prog 76 = none := by kernel_rfl
@[go_sem] theorem isStr_76 : isStr prog 76 = false := by kernel_rfl
@[go_sem] theorem isBool_76 : isBool prog 76 = false := by kernel_rfl
@[go_sem] theorem notInt_76 : notInt prog 76 = true := by kernel_rfl
@[go_sem] theorem zk_76 : zk prog 76 = some [Value.tuple { toList := [Value.agg { toList := [Value.string { data := { toList := [] } }, Value.slice none 0 0, Value.slice none 0 0] }, Value.bool false] }] := by kernel_rfl
@[go_sem] theorem arn_76 : arn prog 76 = none := by kernel_rfl
@[go_sem] theorem bldk_76 : bldk prog 76 = false := by kernel_rfl
@[go_sem] theorem bsl_76 : bsl prog 76 = false := by kernel_rfl
@[go_sem] theorem isIf_76 : isIf prog 76 = false := by kernel_rfl
@[go_sem] theorem tk_77 : tk prog 77 = some (false, 1) := by kernel_rfl
@[go_sem] theorem und_77 : (prog.underlying 77).isSome = true := by kernel_rfl
@[go_sem] theorem slk_77 : slk prog 77 = none := by kernel_rfl
@[go_sem] theorem ark_77 : ark prog 77 = none := by kernel_rfl
@[go_sem] theorem isStr_77 : isStr prog 77 = false := by kernel_rfl
@[go_sem] theorem isBool_77 : isBool prog 77 = false := by kernel_rfl
@[go_sem] theorem notInt_77 : notInt prog 77 = true := by kernel_rfl
@[go_sem] theorem zk_77 : zk prog 77 = some [Value.nilFunc] := by kernel_rfl
@[go_sem] theorem arn_77 : arn prog 77 = none := by kernel_rfl
@[go_sem] theorem bldk_77 : bldk prog 77 = false := by kernel_rfl
@[go_sem] theorem bsl_77 : bsl prog 77 = false := by kernel_rfl
@[go_sem] theorem isIf_77 : isIf prog 77 = false := by kernel_rfl
@[go_sem] theorem tk_78 : tk prog 78 = some (false, 1) := by kernel_rfl
@[go_sem] theorem und_78 : (prog.underlying 78).isSome = true := by kernel_rfl
@[go_sem] theorem slk_78 : slk prog 78 = some (25, 1, 24) := by kernel_rfl
@[go_sem] theorem ark_78 : ark prog 78 = none := by kernel_rfl
@[go_sem] theorem isStr_78 : isStr prog 78 = false := by kernel_rfl
@[go_sem] theorem isBool_78 : isBool prog 78 = false := by kernel_rfl
@[go_sem] theorem notInt_78 : notInt prog 78 = true := by kernel_rfl
@[go_sem] theorem zk_78 : zk prog 78 = some [Value.slice none 0 0] := by kernel_rfl
@[go_sem] theorem elemZ_78 : elemZ prog 78 = some [Value.slice none 0 0] := by kernel_rfl
@[go_sem] theorem arn_78 : arn prog 78 = none := by kernel_rfl
@[go_sem] theorem bldk_78 : bldk prog 78 = false := by kernel_rfl
@[go_sem] theorem bsl_78 : bsl prog 78 = false := by kernel_rfl
@[go_sem] theorem isIf_78 : isIf prog 78 = false := by kernel_rfl
@[go_sem] theorem isSl_78 : isSl prog 78 = true := by kernel_rfl
@[go_sem] theorem tk_79 : tk prog 79 = some (true, 3) := by kernel_rfl
@[go_sem] theorem und_79 : (prog.underlying 79).isSome = true := by kernel_rfl
@[go_sem] theorem slk_79 : slk prog 79 = none := by kernel_rfl
@[go_sem] theorem ark_79 : ark prog 79 = none := by kernel_rfl
@[go_sem] theorem isStr_79 : isStr prog 79 = false := by kernel_rfl
@[go_sem] theorem isBool_79 : isBool prog 79 = false := by kernel_rfl
@[go_sem] theorem notInt_79 : notInt prog 79 = true := by kernel_rfl
@[go_sem] theorem flk_79 : flk prog 79 = some [(0, 1), (1, 1), (2, 1)] := by kernel_rfl
@[go_sem] theorem zk_79 : zk prog 79 = some [Value.int IntKind.u8 (Int.ofNat 0), Value.int IntKind.u8 (Int.ofNat 0), Value.slice none 0 0] := by kernel_rfl
@[go_sem] theorem arn_79 : arn prog 79 = none := by kernel_rfl
@[go_sem] theorem bldk_79 : bldk prog 79 = false := by kernel_rfl
@[go_sem] theorem bsl_79 : bsl prog 79 = false := by kernel_rfl
@[go_sem] theorem isIf_79 : isIf prog 79 = false := by kernel_rfl
@[go_sem] theorem fdk_79_0 : fdk prog 79 0 = some (0, false, 1) := by kernel_rfl
@[go_sem] theorem fdk_79_1 : fdk prog 79 1 = some (1, false, 1) := by kernel_rfl
@[go_sem] theorem fdk_79_2 : fdk prog 79 2 = some (2, false, 1) := by kernel_rfl
@[go_sem] theorem tk_80 : tk prog 80 = some (true, 3) := by kernel_rfl
@[go_sem] theorem und_80 : (prog.underlying 80).isSome = true := by kernel_rfl
@[go_sem] theorem slk_80 : slk prog 80 = none := by kernel_rfl
@[go_sem] theorem ark_80 : ark prog 80 = none := by kernel_rfl
@[go_sem] theorem isStr_80 : isStr prog 80 = false := by kernel_rfl
@[go_sem] theorem isBool_80 : isBool prog 80 = false := by kernel_rfl
@[go_sem] theorem notInt_80 : notInt prog 80 = true := by kernel_rfl
@[go_sem] theorem flk_80 : flk prog 80 = some [(0, 1), (1, 1), (2, 1)] := by kernel_rfl
@[go_sem] theorem zk_80 : zk prog 80 = some [Value.int IntKind.u8 (Int.ofNat 0), Value.int IntKind.u8 (Int.ofNat 0), Value.slice none 0 0] := by kernel_rfl
@[go_sem] theorem arn_80 : arn prog 80 = none := by kernel_rfl
@[go_sem] theorem bldk_80 : bldk prog 80 = false := by kernel_rfl
@[go_sem] theorem bsl_80 : bsl prog 80 = false := by kernel_rfl
@[go_sem] theorem isIf_80 : isIf prog 80 = false := by kernel_rfl
@[go_sem] theorem fdk_80_0 : fdk prog 80 0 = some (0, false, 1) := by kernel_rfl
@[go_sem] theorem fdk_80_1 : fdk prog 80 1 = some (1, false, 1) := by kernel_rfl
@[go_sem] theorem fdk_80_2 : fdk prog 80 2 = some (2, false, 1) := by kernel_rfl
@[go_sem] theorem tk_81 : tk prog 81 = some (false, 1) := by kernel_rfl
@[go_sem] theorem und_81 : (prog.underlying 81).isSome = true := by kernel_rfl
@[go_sem] theorem slk_81 : slk prog 81 = none := by kernel_rfl
@[go_sem] theorem ark_81 : ark prog 81 = none := by kernel_rfl
@[go_sem] theorem isStr_81 : isStr prog 81 = false := by kernel_rfl
@[go_sem] theorem isBool_81 : isBool prog 81 = false := by kernel_rfl
@[go_sem] theorem notInt_81 : notInt prog 81 = true := by kernel_rfl
@[go_sem] theorem zk_81 : zk prog 81 = some [Value.nilFunc] := by kernel_rfl
@[go_sem] theorem arn_81 : arn prog 81 = none := by kernel_rfl
@[go_sem] theorem bldk_81 : bldk prog 81 = false := by kernel_rfl
@[go_sem] theorem bsl_81 : bsl prog 81 = false := by kernel_rfl
@[go_sem] theorem isIf_81 : isIf prog 81 = false := by kernel_rfl
@[go_sem] theorem tk_83 : tk prog 83 = some (false, 1) := by kernel_rfl
@[go_sem] theorem und_83 : (prog.underlying 83).isSome = true := by kernel_rfl
@[go_sem] theorem slk_83 : slk prog 83 = none := by kernel_rfl
@[go_sem] theorem ark_83 : ark prog 83 = none := by kernel_rfl
@[go_sem] theorem isStr_83 : isStr prog 83 = false := by kernel_rfl
@[go_sem] theorem isBool_83 : isBool prog 83 = false := by kernel_rfl
@[go_sem] theorem notInt_83 : notInt prog 83 = true := by kernel_rfl
@[go_sem] theorem zk_83 : zk prog 83 = some [Value.nilFunc] := by kernel_rfl
@[go_sem] theorem arn_83 : arn prog 83 = none := by kernel_rfl
@[go_sem] theorem bldk_83 : bldk prog 83 = false := by kernel_rfl
@[go_sem] theorem bsl_83 : bsl prog 83 = false := by kernel_rfl
@[go_sem] theorem isIf_83 : isIf prog 83 = false := by kernel_rfl
@[go_sem] theorem tk_84 : tk prog 84 = some (false, 1) := by kernel_rfl
@[go_sem] theorem und_84 : (prog.underlying 84).isSome = true := by kernel_rfl
@[go_sem] theorem slk_84 : slk prog 84 = some (90, 5, 80) := by kernel_rfl
@[go_sem] theorem ark_84 : ark prog 84 = none := by kernel_rfl
@[go_sem] theorem isStr_84 : isStr prog 84 = false := by kernel_rfl
@[go_sem] theorem isBool_84 : isBool prog 84 = false := by kernel_rfl
@[go_sem] theorem notInt_84 : notInt prog 84 = true := by kernel_rfl
@[go_sem] theorem zk_84 : zk prog 84 = some [Value.slice none 0 0] := by kernel_rfl
@[go_sem] theorem elemZ_84 : elemZ prog 84 = some [Value.string { data := { toList := [] } }, Value.slice none 0 0, Value.int IntKind.i64 (Int.ofNat 0), Value.int IntKind.i64 (Int.ofNat 0), Value.slice none 0 0] := by kernel_rfl
@[go_sem] theorem arn_84 : arn prog 84 = none := by kernel_rfl
@[go_sem] theorem bldk_84 : bldk prog 84 = false := by kernel_rfl
@[go_sem] theorem bsl_84 : bsl prog 84 = false := by kernel_rfl
@[go_sem] theorem isIf_84 : isIf prog 84 = false := by kernel_rfl
@[go_sem] theorem isSl_84 : isSl prog 84 = true := by kernel_rfl
@[go_sem] theorem tk_85 : tk prog 85 = some (false, 1) := by kernel_rfl
@[go_sem] theorem und_85 : (prog.underlying 85).isSome = true := by kernel_rfl
@[go_sem] theorem slk_85 : slk prog 85 = none := by kernel_rfl
@[go_sem] theorem ark_85 : ark prog 85 = none := by kernel_rfl
@[go_sem] theorem isStr_85 : isStr prog 85 = false := by kernel_rfl
@[go_sem] theorem isBool_85 : isBool prog 85 = false := by kernel_rfl
@[go_sem] theorem notInt_85 : notInt prog 85 = true := by kernel_rfl
@[go_sem] theorem zk_85 : zk prog 85 = some [Value.tuple { toList := [Value.slice none 0 0, Value.int IntKind.i64 (Int.ofNat 0), Value.int IntKind.i64 (Int.ofNat 0)] }] := by kernel_rfl
@[go_sem] theorem arn_85 : arn prog 85 = none := by kernel_rfl
@[go_sem] theorem bldk_85 : bldk prog 85 = false := by kernel_rfl
@[go_sem] theorem bsl_85 : bsl prog 85 = false := by kernel_rfl
@[go_sem] theorem isIf_85 : isIf prog 85 = false := by kernel_rfl
@[go_sem] theorem tk_86 : tk prog 86 = some (false, 1) := by kernel_rfl
@[go_sem] theorem und_86 : (prog.underlying 86).isSome = true := by kernel_rfl
@[go_sem] theorem slk_86 : slk prog 86 = none := by kernel_rfl
@[go_sem] theorem ark_86 : ark prog 86 = none := by kernel_rfl
@[go_sem] theorem isStr_86 : isStr prog 86 = false := by kernel_rfl
@[go_sem] theorem isBool_86 : isBool prog 86 = false := by kernel_rfl
@[go_sem] theorem notInt_86 : notInt prog 86 = true := by kernel_rfl
@[go_sem] theorem zk_86 : zk prog 86 = some [Value.nilFunc] := by kernel_rfl
@[go_sem] theorem arn_86 : arn prog 86 = none := by kernel_rfl
@[go_sem] theorem bldk_86 : bldk prog 86 = false := by kernel_rfl
@[go_sem] theorem bsl_86 : bsl prog 86 = false := by kernel_rfl
@[go_sem] theorem isIf_86 : isIf prog 86 = false := by kernel_rfl
@[go_sem] theorem tk_87 : tk prog 87 = some (true, 2) := by kernel_rfl
@[go_sem] theorem und_87 : (prog.underlying 87).isSome = true := by kernel_rfl
@[go_sem] theorem slk_87 : slk prog 87 = none := by kernel_rfl
@[go_sem] theorem ark_87 : ark prog 87 = none := by kernel_rfl
@[go_sem] theorem isStr_87 : isStr prog 87 = false := by kernel_rfl
@[go_sem] theorem isBool_87 : isBool prog 87 = false := by kernel_rfl
@[go_sem] theorem notInt_87 : notInt prog 87 = true := by kernel_rfl
@[go_sem] theorem flk_87 : flk prog 87 = some [(0, 1), (1, 1)] := by kernel_rfl
@[go_sem] theorem zk_87 : zk prog 87 = some [Value.int IntKind.i64 (Int.ofNat 0), Value.slice none 0 0] := by kernel_rfl
@[go_sem] theorem arn_87 : arn prog 87 = none := by kernel_rfl
@[go_sem] theorem bldk_87 : bldk prog 87 = false := by kernel_rfl
@[go_sem] theorem bsl_87 : bsl prog 87 = false := by kernel_rfl
@[go_sem] theorem isIf_87 : isIf prog 87 = false := by kernel_rfl
@[go_sem] theorem fdk_87_0 : fdk prog 87 0 = some (0, false, 1) := by kernel_rfl
@[go_sem] theorem fdk_87_1 : fdk prog 87 1 = some (1, false, 1) := by kernel_rfl
@[go_sem] theorem tk_88 : tk prog 88 = some (true, 2) := by kernel_rfl
@[go_sem] theorem und_88 : (prog.underlying 88).isSome = true := by kernel_rfl
@[go_sem] theorem slk_88 : slk prog 88 = none := by kernel_rfl
@[go_sem] theorem ark_88 : ark prog 88 = none := by kernel_rfl
@[go_sem] theorem isStr_88 : isStr prog 88 = false := by kernel_rfl
@[go_sem] theorem isBool_88 : isBool prog 88 = false := by kernel_rfl
@[go_sem] theorem notInt_88 : notInt prog 88 = true := by kernel_rfl
@[go_sem] theorem flk_88 : flk prog 88 = some [(0, 1), (1, 1)] := by kernel_rfl
@[go_sem] theorem zk_88 : zk prog 88 = some [Value.int IntKind.i64 (Int.ofNat 0), Value.slice none 0 0] := by kernel_rfl
@[go_sem] theorem arn_88 : arn prog 88 = none := by kernel_rfl
@[go_sem] theorem bldk_88 : bldk prog 88 = false := by kernel_rfl
@[go_sem] theorem bsl_88 : bsl prog 88 = false := by kernel_rfl
@[go_sem] theorem isIf_88 : isIf prog 88 = false := by kernel_rfl
@[go_sem] theorem fdk_88_0 : fdk prog 88 0 = some (0, false, 1) := by kernel_rfl
@[go_sem] theorem fdk_88_1 : fdk prog 88 1 = some (1, false, 1) := by kernel_rfl
@[go_sem] theorem tk_89 : tk prog 89 = some (true, 5) := by kernel_rfl
@[go_sem] theorem und_89 : (prog.underlying 89).isSome = true := by kernel_rfl
@[go_sem] theorem slk_89 : slk prog 89 = none := by kernel_rfl
@[go_sem] theorem ark_89 : ark prog 89 = none := by kernel_rfl
@[go_sem] theorem isStr_89 : isStr prog 89 = false := by kernel_rfl
@[go_sem] theorem isBool_89 : isBool prog 89 = false := by kernel_rfl
@[go_sem] theorem notInt_89 : notInt prog 89 = true := by kernel_rfl
@[go_sem] theorem flk_89 : flk prog 89 = some [(0, 1), (1, 1), (2, 1), (3, 2)] := by kernel_rfl
@[go_sem] theorem zk_89 : zk prog 89 = some [Value.string { data := { toList := [] } }, Value.slice none 0 0, Value.int IntKind.i64 (Int.ofNat 0), Value.int IntKind.i64 (Int.ofNat 0), Value.slice none 0 0] := by kernel_rfl
@[go_sem] theorem arn_89 : arn prog 89 = none := by kernel_rfl
@[go_sem] theorem bldk_89 : bldk prog 89 = false := by kernel_rfl
@[go_sem] theorem bsl_89 : bsl prog 89 = false := by kernel_rfl
@[go_sem] theorem isIf_89 : isIf prog 89 = false := by kernel_rfl
@[go_sem] theorem fdk_89_0 : fdk prog 89 0 = some (0, false, 1) := by kernel_rfl
@[go_sem] theorem fdk_89_1 : fdk prog 89 1 = some (1, false, 1) := by kernel_rfl
@[go_sem] theorem fdk_89_2 : fdk prog 89 2 = some (2, false, 1) := by kernel_rfl
@[go_sem] theorem fdk_89_3 : fdk prog 89 3 = some (3, true, 2) := by kernel_rfl
@[go_sem] theorem tk_90 : tk prog 90 = some (true, 5) := by kernel_rfl
@[go_sem] theorem und_90 : (prog.underlying 90).isSome = true := by kernel_rfl
@[go_sem] theorem slk_90 : slk prog 90 = none := by kernel_rfl
@[go_sem] theorem ark_90 : ark prog 90 = none := by kernel_rfl
@[go_sem] theorem isStr_90 : isStr prog 90 = false := by kernel_rfl
@[go_sem] theorem isBool_90 : isBool prog 90 = false := by kernel_rfl
@[go_sem] theorem notInt_90 : notInt prog 90 = true := by kernel_rfl
@[go_sem] theorem flk_90 : flk prog 90 = some [(0, 1), (1, 1), (2, 1), (3, 2)] := by kernel_rfl
@[go_sem] theorem zk_90 : zk prog 90 = some [Value.string { data := { toList := [] } }, Value.slice none 0 0, Value.int IntKind.i64 (Int.ofNat 0), Value.int IntKind.i64 (Int.ofNat 0), Value.slice none 0 0] := by kernel_rfl
@[go_sem] theorem arn_90 : arn prog 90 = none := by kernel_rfl
@[go_sem] theorem bldk_90 : bldk prog 90 = false := by kernel_rfl
@[go_sem] theorem bsl_90 : bsl prog 90 = false := by kernel_rfl
@[go_sem] theorem isIf_90 : isIf prog 90 = false := by kernel_rfl
@[go_sem] theorem fdk_90_0 : fdk prog 90 0 = some (0, false, 1) := by kernel_rfl
@[go_sem] theorem fdk_90_1 : fdk prog 90 1 = some (1, false, 1) := by kernel_rfl
@[go_sem] theorem fdk_90_2 : fdk prog 90 2 = some (2, false, 1) := by kernel_rfl
@[go_sem] theorem fdk_90_3 : fdk prog 90 3 = some (3, true, 2) := by kernel_rfl
@[go_sem] theorem tk_91 : tk prog 91 = some (false, 1) := by kernel_rfl
@[go_sem] theorem und_91 : (prog.underlying 91).isSome = true := by kernel_rfl
@[go_sem] theorem slk_91 : slk prog 91 = none := by kernel_rfl
@[go_sem] theorem ark_91 : ark prog 91 = none := by kernel_rfl
@[go_sem] theorem isStr_91 : isStr prog 91 = false := by kernel_rfl
@[go_sem] theorem isBool_91 : isBool prog 91 = false := by kernel_rfl
@[go_sem] theorem notInt_91 : notInt prog 91 = true := by kernel_rfl
@[go_sem] theorem zk_91 : zk prog 91 = some [Value.nilFunc] := by kernel_rfl
@[go_sem] theorem arn_91 : arn prog 91 = none := by kernel_rfl
@[go_sem] theorem bldk_91 : bldk prog 91 = false := by kernel_rfl
@[go_sem] theorem bsl_91 : bsl prog 91 = false := by kernel_rfl
@[go_sem] theorem isIf_91 : isIf prog 91 = false := by kernel_rfl
@[go_sem] theorem tk_92 : tk prog 92 = some (false, 1) := by kernel_rfl
@[go_sem] theorem und_92 : (prog.underlying 92).isSome = true := by kernel_rfl
@[go_sem] theorem slk_92 : slk prog 92 = some (96, 3, 48) := by kernel_rfl
@[go_sem] theorem ark_92 : ark prog 92 = none := by kernel_rfl
@[go_sem] theorem isStr_92 : isStr prog 92 = false := by kernel_rfl
@[go_sem] theorem isBool_92 : isBool prog 92 = false := by kernel_rfl
@[go_sem] theorem notInt_92 : notInt prog 92 = true := by kernel_rfl
@[go_sem] theorem zk_92 : zk prog 92 = some [Value.slice none 0 0] := by kernel_rfl
@[go_sem] theorem elemZ_92 : elemZ prog 92 = some [Value.string { data := { toList := [] } }, Value.slice none 0 0, Value.int IntKind.i64 (Int.ofNat 0)] := by kernel_rfl
@[go_sem] theorem arn_92 : arn prog 92 = none := by kernel_rfl
@[go_sem] theorem bldk_92 : bldk prog 92 = false := by kernel_rfl
@[go_sem] theorem bsl_92 : bsl prog 92 = false := by kernel_rfl
@[go_sem] theorem isIf_92 : isIf prog 92 = false := by kernel_rfl
@[go_sem] theorem isSl_92 : isSl prog 92 = true := by kernel_rfl
@[go_sem] theorem tk_93 : tk prog 93 = some (false, 1) := by kernel_rfl
@[go_sem] theorem und_93 : (prog.underlying 93).isSome = true := by kernel_rfl
@[go_sem] theorem slk_93 : slk prog 93 = none := by kernel_rfl
@[go_sem] theorem ark_93 : ark prog 93 = none := by kernel_rfl
@[go_sem] theorem isStr_93 : isStr prog 93 = false := by kernel_rfl
@[go_sem] theorem isBool_93 : isBool prog 93 = false := by kernel_rfl
@[go_sem] theorem notInt_93 : notInt prog 93 = true := by kernel_rfl
@[go_sem] theorem zk_93 : zk prog 93 = some [Value.nilFunc] := by kernel_rfl
@[go_sem] theorem arn_93 : arn prog 93 = none := by kernel_rfl
@[go_sem] theorem bldk_93 : bldk prog 93 = false := by kernel_rfl
@[go_sem] theorem bsl_93 : bsl prog 93 = false := by kernel_rfl
@[go_sem] theorem isIf_93 : isIf prog 93 = false := by kernel_rfl
@[go_sem] theorem tk_94 : tk prog 94 = some (false, 1) := by kernel_rfl
@[go_sem] theorem und_94 : (prog.underlying 94).isSome = true := by kernel_rfl
@[go_sem] theorem slk_94 : slk prog 94 = none := by kernel_rfl
@[go_sem] theorem ark_94 : ark prog 94 = none := by kernel_rfl
@[go_sem] theorem isStr_94 : isStr prog 94 = false := by kernel_rfl
@[go_sem] theorem isBool_94 : isBool prog 94 = false := by kernel_rfl
@[go_sem] theorem notInt_94 : notInt prog 94 = true := by kernel_rfl
@[go_sem] theorem zk_94 : zk prog 94 = some [Value.nilFunc] := by kernel_rfl
@[go_sem] theorem arn_94 : arn prog 94 = none := by kernel_rfl
@[go_sem] theorem bldk_94 : bldk prog 94 = false := by kernel_rfl
@[go_sem] theorem bsl_94 : bsl prog 94 = false := by kernel_rfl
@[go_sem] theorem isIf_94 : isIf prog 94 = false := by kernel_rfl
@[go_sem] theorem tk_95 : tk prog 95 = some (true, 3) := by kernel_rfl
@[go_sem] theorem und_95 : (prog.underlying 95).isSome = true := by kernel_rfl
@[go_sem] theorem slk_95 : slk prog 95 = none := by kernel_rfl
@[go_sem] theorem ark_95 : ark prog 95 = none := by kernel_rfl
@[go_sem] theorem isStr_95 : isStr prog 95 = false := by kernel_rfl
@[go_sem] theorem isBool_95 : isBool prog 95 = false := by kernel_rfl
@[go_sem] theorem notInt_95 : notInt prog 95 = true := by kernel_rfl
@[go_sem] theorem flk_95 : flk prog 95 = some [(0, 1), (1, 1), (2, 1)] := by kernel_rfl
@[go_sem] theorem zk_95 : zk prog 95 = some [Value.string { data := { toList := [] } }, Value.slice none 0 0, Value.int IntKind.i64 (Int.ofNat 0)] := by kernel_rfl
@[go_sem] theorem arn_95 : arn prog 95 = none := by kernel_rfl
@[go_sem] theorem bldk_95 : bldk prog 95 = false := by kernel_rfl
@[go_sem] theorem bsl_95 : bsl prog 95 = false := by kernel_rfl
@[go_sem] theorem isIf_95 : isIf prog 95 = false := by kernel_rfl
@[go_sem] theorem fdk_95_0 : fdk prog 95 0 = some (0, false, 1) := by kernel_rfl
@[go_sem] theorem fdk_95_1 : fdk prog 95 1 = some (1, false, 1) := by kernel_rfl
@[go_sem] theorem fdk_95_2 : fdk prog 95 2 = some (2, false, 1) := by kernel_rfl
@[go_sem] theorem tk_96 : tk prog 96 = some (true, 3) := by kernel_rfl
@[go_sem] theorem und_96 : (prog.underlying 96).isSome = true := by kernel_rfl
@[go_sem] theorem slk_96 : slk prog 96 = none := by kernel_rfl
@[go_sem] theorem ark_96 : ark prog 96 = none := by kernel_rfl
@[go_sem] theorem isStr_96 : isStr prog 96 = false := by kernel_rfl
@[go_sem] theorem isBool_96 : isBool prog 96 = false := by kernel_rfl
@[go_sem] theorem notInt_96 : notInt prog 96 = true := by kernel_rfl
@[go_sem] theorem flk_96 : flk prog 96 = some [(0, 1), (1, 1), (2, 1)] := by kernel_rfl
@[go_sem] theorem zk_96 : zk prog 96 = some [Value.string { data := { toList := [] } }, Value.slice none 0 0, Value.int IntKind.i64 (Int.ofNat 0)] := by kernel_rfl
@[go_sem] theorem arn_96 : arn prog 96 = none := by kernel_rfl
@[go_sem] theorem bldk_96 : bldk prog 96 = false := by kernel_rfl
@[go_sem] theorem bsl_96 : bsl prog 96 = false := by kernel_rfl
@[go_sem] theorem isIf_96 : isIf prog 96 = false := by kernel_rfl
@[go_sem] theorem fdk_96_0 : fdk prog 96 0 = some (0, false, 1) := by kernel_rfl
@[go_sem] theorem fdk_96_1 : fdk prog 96 1 = some (1, false, 1) := by kernel_rfl
@[go_sem] theorem fdk_96_2 : fdk prog 96 2 = some (2, false, 1) := by kernel_rfl
@[go_sem] theorem tk_97 : tk prog 97 = some (false, 1) := by kernel_rfl
@[go_sem] theorem und_97 : (prog.underlying 97).isSome = true := by kernel_rfl
@[go_sem] theorem slk_97 : slk prog 97 = none := by kernel_rfl
@[go_sem] theorem ark_97 : ark prog 97 = none := by kernel_rfl
@[go_sem] theorem isStr_97 : isStr prog 97 = false := by kernel_rfl
@[go_sem] theorem isBool_97 : isBool prog 97 = false := by kernel_rfl
@[go_sem] theorem notInt_97 : notInt prog 97 = true := by kernel_rfl
@[go_sem] theorem zk_97 : zk prog 97 = some [Value.nilFunc] := by kernel_rfl
@[go_sem] theorem arn_97 : arn prog 97 = none := by kernel_rfl
@[go_sem] theorem bldk_97 : bldk prog 97 = false := by kernel_rfl
@[go_sem] theorem bsl_97 : bsl prog 97 = false := by kernel_rfl
@[go_sem] theorem isIf_97 : isIf prog 97 = false := by kernel_rfl
@[go_sem] theorem tk_98 : tk prog 98 = some (false, 1) := by kernel_rfl
@[go_sem] theorem und_98 : (prog.underlying 98).isSome = true := by kernel_rfl
@[go_sem] theorem slk_98 : slk prog 98 = none := by kernel_rfl
@[go_sem] theorem ark_98 : ark prog 98 = none := by kernel_rfl
@[go_sem] theorem isStr_98 : isStr prog 98 = false := by kernel_rfl
@[go_sem] theorem isBool_98 : isBool prog 98 = false := by kernel_rfl
@[go_sem] theorem notInt_98 : notInt prog 98 = true := by kernel_rfl
@[go_sem] theorem zk_98 : zk prog 98 = some [Value.nilFunc] := by kernel_rfl
@[go_sem] theorem arn_98 : arn prog 98 = none := by kernel_rfl
@[go_sem] theorem bldk_98 : bldk prog 98 = false := by kernel_rfl
@[go_sem] theorem bsl_98 : bsl prog 98 = false := by kernel_rfl
@[go_sem] theorem isIf_98 : isIf prog 98 = false := by kernel_rfl
@[go_sem] theorem tk_99 : tk prog 99 = some (false, 1) := by kernel_rfl
@[go_sem] theorem und_99 : (prog.underlying 99).isSome = true := by kernel_rfl
@[go_sem] theorem slk_99 : slk prog 99 = none := by kernel_rfl
@[go_sem] theorem ark_99 : ark prog 99 = none := by kernel_rfl
@[go_sem] theorem isStr_99 : isStr prog 99 = false := by kernel_rfl
@[go_sem] theorem isBool_99 : isBool prog 99 = false := by kernel_rfl
@[go_sem] theorem notInt_99 : notInt prog 99 = true := by kernel_rfl
@[go_sem] theorem zk_99 : zk prog 99 = some [Value.pointer none] := by kernel_rfl
@[go_sem] theorem arn_99 : arn prog 99 = none := by kernel_rfl
@[go_sem] theorem bldk_99 : bldk prog 99 = false := by kernel_rfl
@[go_sem] theorem bsl_99 : bsl prog 99 = false := by kernel_rfl
@[go_sem] theorem isIf_99 : isIf prog 99 = false := by kernel_rfl
@[go_sem] theorem tk_100 : tk prog 100 = some (false, 1) := by kernel_rfl
@[go_sem] theorem und_100 : (prog.underlying 100).isSome = true := by kernel_rfl
@[go_sem] theorem slk_100 : slk prog 100 = none := by kernel_rfl
@[go_sem] theorem ark_100 : ark prog 100 = none := by kernel_rfl
@[go_sem] theorem isStr_100 : isStr prog 100 = false := by kernel_rfl
@[go_sem] theorem isBool_100 : isBool prog 100 = false := by kernel_rfl
@[go_sem] theorem notInt_100 : notInt prog 100 = true := by kernel_rfl
@[go_sem] theorem zk_100 : zk prog 100 = some [Value.nilFunc] := by kernel_rfl
@[go_sem] theorem arn_100 : arn prog 100 = none := by kernel_rfl
@[go_sem] theorem bldk_100 : bldk prog 100 = false := by kernel_rfl
@[go_sem] theorem bsl_100 : bsl prog 100 = false := by kernel_rfl
@[go_sem] theorem isIf_100 : isIf prog 100 = false := by kernel_rfl
@[go_sem] theorem tk_101 : tk prog 101 = some (false, 1) := by kernel_rfl
@[go_sem] theorem und_101 : (prog.underlying 101).isSome = true := by kernel_rfl
@[go_sem] theorem slk_101 : slk prog 101 = none := by kernel_rfl
@[go_sem] theorem ark_101 : ark prog 101 = none := by kernel_rfl
@[go_sem] theorem isStr_101 : isStr prog 101 = false := by kernel_rfl
@[go_sem] theorem isBool_101 : isBool prog 101 = false := by kernel_rfl
@[go_sem] theorem notInt_101 : notInt prog 101 = true := by kernel_rfl
@[go_sem] theorem zk_101 : zk prog 101 = some [Value.pointer none] := by kernel_rfl
@[go_sem] theorem arn_101 : arn prog 101 = none := by kernel_rfl
@[go_sem] theorem bldk_101 : bldk prog 101 = false := by kernel_rfl
@[go_sem] theorem bsl_101 : bsl prog 101 = false := by kernel_rfl
@[go_sem] theorem isIf_101 : isIf prog 101 = false := by kernel_rfl
@[go_sem] theorem tk_102 : tk prog 102 = some (false, 1) := by kernel_rfl
@[go_sem] theorem und_102 : (prog.underlying 102).isSome = true := by kernel_rfl
@[go_sem] theorem slk_102 : slk prog 102 = some (134, 1, 24) := by kernel_rfl
@[go_sem] theorem ark_102 : ark prog 102 = none := by kernel_rfl
@[go_sem] theorem isStr_102 : isStr prog 102 = false := by kernel_rfl
@[go_sem] theorem isBool_102 : isBool prog 102 = false := by kernel_rfl
@[go_sem] theorem notInt_102 : notInt prog 102 = true := by kernel_rfl
@[go_sem] theorem zk_102 : zk prog 102 = some [Value.slice none 0 0] := by kernel_rfl
@[go_sem] theorem elemZ_102 : elemZ prog 102 = some [Value.slice none 0 0] := by kernel_rfl
@[go_sem] theorem arn_102 : arn prog 102 = none := by kernel_rfl
@[go_sem] theorem bldk_102 : bldk prog 102 = false := by kernel_rfl
@[go_sem] theorem bsl_102 : bsl prog 102 = false := by kernel_rfl
@[go_sem] theorem isIf_102 : isIf prog 102 = false := by kernel_rfl
@[go_sem] theorem isSl_102 : isSl prog 102 = true := by kernel_rfl
@[go_sem] theorem tk_103 : tk prog 103 = some (true, 3) := by kernel_rfl
@[go_sem] theorem und_103 : (prog.underlying 103).isSome = true := by kernel_rfl
@[go_sem] theorem slk_103 : slk prog 103 = none := by kernel_rfl
@[go_sem] theorem ark_103 : ark prog 103 = none := by kernel_rfl
@[go_sem] theorem isStr_103 : isStr prog 103 = false := by kernel_rfl
@[go_sem] theorem isBool_103 : isBool prog 103 = false := by kernel_rfl
@[go_sem] theorem notInt_103 : notInt prog 103 = true := by kernel_rfl
@[go_sem] theorem flk_103 : flk prog 103 = some [(0, 1), (1, 1), (2, 1)] := by kernel_rfl
@[go_sem] theorem zk_103 : zk prog 103 = some [Value.slice none 0 0, Value.slice none 0 0, Value.int IntKind.i64 (Int.ofNat 0)] := by kernel_rfl
@[go_sem] theorem arn_103 : arn prog 103 = none := by kernel_rfl
@[go_sem] theorem bldk_103 : bldk prog 103 = false := by kernel_rfl
@[go_sem] theorem bsl_103 : bsl prog 103 = false := by kernel_rfl
@[go_sem] theorem isIf_103 : isIf prog 103 = false := by kernel_rfl
@[go_sem] theorem fdk_103_0 : fdk prog 103 0 = some (0, false, 1) := by kernel_rfl
@[go_sem] theorem fdk_103_1 : fdk prog 103 1 = some (1, false, 1) := by kernel_rfl
@[go_sem] theorem fdk_103_2 : fdk prog 103 2 = some (2, false, 1) := by kernel_rfl
@[go_sem] theorem tk_104 : tk prog 104 = some (true, 3) := by kernel_rfl
@[go_sem] theorem und_104 : (prog.underlying 104).isSome = true := by kernel_rfl
@[go_sem] theorem slk_104 : slk prog 104 = none := by kernel_rfl
@[go_sem] theorem ark_104 : ark prog 104 = none := by kernel_rfl
@[go_sem] theorem isStr_104 : isStr prog 104 = false := by kernel_rfl
@[go_sem] theorem isBool_104 : isBool prog 104 = false := by kernel_rfl
@[go_sem] theorem notInt_104 : notInt prog 104 = true := by kernel_rfl
@[go_sem] theorem flk_104 : flk prog 104 = some [(0, 1), (1, 1), (2, 1)] := by kernel_rfl
@[go_sem] theorem zk_104 : zk prog 104 = some [Value.slice none 0 0, Value.slice none 0 0, Value.int IntKind.i64 (Int.ofNat 0)] := by kernel_rfl
@[go_sem] theorem arn_104 : arn prog 104 = none := by kernel_rfl
@[go_sem] theorem bldk_104 : bldk prog 104 = false := by kernel_rfl
@[go_sem] theorem bsl_104 : bsl prog 104 = false := by kernel_rfl
@[go_sem] theorem isIf_104 : isIf prog 104 = false := by kernel_rfl
@[go_sem] theorem fdk_104_0 : fdk prog 104 0 = some (0, false, 1) := by kernel_rfl
@[go_sem] theorem fdk_104_1 : fdk prog 104 1 = some (1, false, 1) := by kernel_rfl
@[go_sem] theorem fdk_104_2 : fdk prog 104 2 = some (2, false, 1) := by kernel_rfl
@[go_sem] theorem tk_105 : tk prog 105 = some (false, 1) := by kernel_rfl
@[go_sem] theorem und_105 : (prog.underlying 105).isSome = true := by kernel_rfl
@[go_sem] theorem slk_105 : slk prog 105 = none := by kernel_rfl
@[go_sem] theorem ark_105 : ark prog 105 = none := by kernel_rfl
@[go_sem] theorem isStr_105 : isStr prog 105 = false := by kernel_rfl
@[go_sem] theorem isBool_105 : isBool prog 105 = false := by kernel_rfl
@[go_sem] theorem notInt_105 : notInt prog 105 = true := by kernel_rfl
@[go_sem] theorem zk_105 : zk prog 105 = some [Value.nilFunc] := by kernel_rfl
@[go_sem] theorem arn_105 : arn prog 105 = none := by kernel_rfl
@[go_sem] theorem bldk_105 : bldk prog 105 = false := by kernel_rfl
@[go_sem] theorem bsl_105 : bsl prog 105 = false := by kernel_rfl
@[go_sem] theorem isIf_105 : isIf prog 105 = false := by kernel_rfl
@[go_sem] theorem tk_106 : tk prog 106 = some (false, 1) := by kernel_rfl
@[go_sem] theorem und_106 : (prog.underlying 106).isSome = true := by kernel_rfl
@[go_sem] theorem slk_106 : slk prog 106 = none := by kernel_rfl
@[go_sem] theorem ark_106 : ark prog 106 = none := by kernel_rfl
@[go_sem] theorem isStr_106 : isStr prog 106 = false := by kernel_rfl
@[go_sem] theorem isBool_106 : isBool prog 106 = false := by kernel_rfl
@[go_sem] theorem notInt_106 : notInt prog 106 = true := by kernel_rfl
@[go_sem] theorem zk_106 : zk prog 106 = some [Value.nilFunc] := by kernel_rfl
@[go_sem] theorem arn_106 : arn prog 106 = none := by kernel_rfl
@[go_sem] theorem bldk_106 : bldk prog 106 = false := by kernel_rfl
@[go_sem] theorem bsl_106 : bsl prog 106 = false := by kernel_rfl
@[go_sem] theorem isIf_106 : isIf prog 106 = false := by kernel_rfl
@[go_sem] theorem tk_107 : tk prog 107 = some (false, 1) := by kernel_rfl
@[go_sem] theorem und_107 : (prog.underlying 107).isSome = true := by kernel_rfl
@[go_sem] theorem slk_107 : slk prog 107 = none := by kernel_rfl
@[go_sem] theorem ark_107 : ark prog 107 = none := by kernel_rfl
@[go_sem] theorem isStr_107 : isStr prog 107 = false := by kernel_rfl
@[go_sem] theorem isBool_107 : isBool prog 107 = false := by kernel_rfl
@[go_sem] theorem notInt_107 : notInt prog 107 = true := by kernel_rfl
@[go_sem] theorem zk_107 : zk prog 107 = some [Value.nilFunc] := by kernel_rfl
@[go_sem] theorem arn_107 : arn prog 107 = none := by kernel_rfl
@[go_sem] theorem bldk_107 : bldk prog 107 = false := by kernel_rfl
@[go_sem] theorem bsl_107 : bsl prog 107 = false := by kernel_rfl
@[go_sem] theorem isIf_107 : isIf prog 107 = false := by kernel_rfl
@[go_sem] theorem tk_108 : tk prog 108 = some (false, 1) := by kernel_rfl
@[go_sem] theorem und_108 : (prog.underlying 108).isSome = true := by kernel_rfl
@[go_sem] theorem slk_108 : slk prog 108 = some (110, 3, 32) := by kernel_rfl
@[go_sem] theorem ark_108 : ark prog 108 = none := by kernel_rfl
@[go_sem] theorem isStr_108 : isStr prog 108 = false := by kernel_rfl
@[go_sem] theorem isBool_108 : isBool prog 108 = false := by kernel_rfl
@[go_sem] theorem notInt_108 : notInt prog 108 = true := by kernel_rfl
@[go_sem] theorem zk_108 : zk prog 108 = some [Value.slice none 0 0] := by kernel_rfl
@[go_sem] theorem elemZ_108 : elemZ prog 108 = some [Value.int IntKind.i64 (Int.ofNat 0), Value.int IntKind.i64 (Int.ofNat 0), Value.string { data := { toList := [] } }] := by kernel_rfl
@[go_sem] theorem arn_108 : arn prog 108 = none := by kernel_rfl
@[go_sem] theorem bldk_108 : bldk prog 108 = false := by kernel_rfl
@[go_sem] theorem bsl_108 : bsl prog 108 = false := by kernel_rfl
@[go_sem] theorem isIf_108 : isIf prog 108 = false := by kernel_rfl
@[go_sem] theorem isSl_108 : isSl prog 108 = true := by kernel_rfl
@[go_sem] theorem tk_109 : tk prog 109 = some (true, 3) := by kernel_rfl
@[go_sem] theorem und_109 : (prog.underlying 109).isSome = true := by kernel_rfl
@[go_sem] theorem slk_109 : slk prog 109 = none := by kernel_rfl
@[go_sem] theorem ark_109 : ark prog 109 = none := by kernel_rfl
@[go_sem] theorem isStr_109 : isStr prog 109 = false := by kernel_rfl
@[go_sem] theorem isBool_109 : isBool prog 109 = false := by kernel_rfl
@[go_sem] theorem notInt_109 : notInt prog 109 = true := by kernel_rfl
@[go_sem] theorem flk_109 : flk prog 109 = some [(0, 1), (1, 1), (2, 1)] := by kernel_rfl
@[go_sem] theorem zk_109 : zk prog 109 = some [Value.int IntKind.i64 (Int.ofNat 0), Value.int IntKind.i64 (Int.ofNat 0), Value.string { data := { toList := [] } }] := by kernel_rfl
@[go_sem] theorem eqk_109 : eqk prog 109 = some [CK.i, CK.i, CK.s] := by kernel_rfl
@[go_sem] theorem arn_109 : arn prog 109 = none := by kernel_rfl
@[go_sem] theorem bldk_109 : bldk prog 109 = false := by kernel_rfl
@[go_sem] theorem bsl_109 : bsl prog 109 = false := by kernel_rfl
@[go_sem] theorem isIf_109 : isIf prog 109 = false := by kernel_rfl
@[go_sem] theorem fdk_109_0 : fdk prog 109 0 = some (0, false, 1) := by kernel_rfl
@[go_sem] theorem fdk_109_1 : fdk prog 109 1 = some (1, false, 1) := by kernel_rfl
@[go_sem] theorem fdk_109_2 : fdk prog 109 2 = some (2, false, 1) := by kernel_rfl
@[go_sem] theorem tk_110 : tk prog 110 = some (true, 3) := by kernel_rfl
@[go_sem] theorem und_110 : (prog.underlying 110).isSome = true := by kernel_rfl
@[go_sem] theorem slk_110 : slk prog 110 = none := by kernel_rfl
@[go_sem] theorem ark_110 : ark prog 110 = none := by kernel_rfl
@[go_sem] theorem isStr_110 : isStr prog 110 = false := by kernel_rfl
@[go_sem] theorem isBool_110 : isBool prog 110 = false := by kernel_rfl
@[go_sem] theorem notInt_110 : notInt prog 110 = true := by kernel_rfl
@[go_sem] theorem flk_110 : flk prog 110 = some [(0, 1), (1, 1), (2, 1)] := by kernel_rfl
@[go_sem] theorem zk_110 : zk prog 110 = some [Value.int IntKind.i64 (Int.ofNat 0), Value.int IntKind.i64 (Int.ofNat 0), Value.string { data := { toList := [] } }] := by kernel_rfl
@[go_sem] theorem eqk_110 : eqk prog 110 = some [CK.i, CK.i, CK.s] := by kernel_rfl
@[go_sem] theorem arn_110 : arn prog 110 = none := by kernel_rfl
@[go_sem] theorem bldk_110 : bldk prog 110 = false := by kernel_rfl
@[go_sem] theorem bsl_110 : bsl prog 110 = false := by kernel_rfl
@[go_sem] theorem isIf_110 : isIf prog 110 = false := by kernel_rfl
@[go_sem] theorem fdk_110_0 : fdk prog 110 0 = some (0, false, 1) := by kernel_rfl
@[go_sem] theorem fdk_110_1 : fdk prog 110 1 = some (1, false, 1) := by kernel_rfl
@[go_sem] theorem fdk_110_2 : fdk prog 110 2 = some (2, false, 1) := by kernel_rfl
@[go_sem] theorem tk_111 : tk prog 111 = some (false, 1) := by kernel_rfl
@[go_sem] theorem und_111 : (prog.underlying 111).isSome = true := by kernel_rfl
@[go_sem] theorem slk_111 : slk prog 111 = none := by kernel_rfl
@[go_sem] theorem ark_111 : ark prog 111 = none := by kernel_rfl
@[go_sem] theorem isStr_111 : isStr prog 111 = false := by kernel_rfl
@[go_sem] theorem isBool_111 : isBool prog 111 = false := by kernel_rfl
@[go_sem] theorem notInt_111 : notInt prog 111 = true := by kernel_rfl
@[go_sem] theorem zk_111 : zk prog 111 = some [Value.nilFunc] := by kernel_rfl
@[go_sem] theorem arn_111 : arn prog 111 = none := by kernel_rfl
@[go_sem] theorem bldk_111 : bldk prog 111 = false := by kernel_rfl
@[go_sem] theorem bsl_111 : bsl prog 111 = false := by kernel_rfl
@[go_sem] theorem isIf_111 : isIf prog 111 = false := by kernel_rfl
@[go_sem] theorem tk_112 : tk prog 112 = some (false, 1) := by kernel_rfl
@[go_sem] theorem und_112 : (prog.underlying 112).isSome = true := by kernel_rfl
@[go_sem] theorem slk_112 : slk prog 112 = none := by kernel_rfl
@[go_sem] theorem ark_112 : ark prog 112 = none := by kernel_rfl
@[go_sem] theorem isStr_112 : isStr prog 112 = false := by kernel_rfl
@[go_sem] theorem isBool_112 : isBool prog 112 = false := by kernel_rfl
@[go_sem] theorem notInt_112 : notInt prog 112 = true := by kernel_rfl
@[go_sem] theorem zk_112 : zk prog 112 = some [Value.nilFunc] := by kernel_rfl
@[go_sem] theorem arn_112 : arn prog 112 = none := by kernel_rfl
@[go_sem] theorem bldk_112 : bldk prog 112 = false := by kernel_rfl
@[go_sem] theorem bsl_112 : bsl prog 112 = false := by kernel_rfl
@[go_sem] theorem isIf_112 : isIf prog 112 = false := by kernel_rfl
@[go_sem] theorem tk_113 : tk prog 113 = some (true, 2) := by kernel_rfl
@[go_sem] theorem und_113 : (prog.underlying 113).isSome = true := by kernel_rfl
@[go_sem] theorem slk_113 : slk prog 113 = none := by kernel_rfl
@[go_sem] theorem ark_113 : ark prog 113 = none := by kernel_rfl
@[go_sem] theorem isStr_113 : isStr prog 113 = false := by kernel_rfl
@[go_sem] theorem isBool_113 : isBool prog 113 = false := by kernel_rfl
@[go_sem] theorem notInt_113 : notInt prog 113 = true := by kernel_rfl
@[go_sem] theorem flk_113 : flk prog 113 = some [(0, 1), (1, 1)] := by kernel_rfl
@[go_sem] theorem zk_113 : zk prog 113 = some [Value.int IntKind.i64 (Int.ofNat 0), Value.slice none 0 0] := by kernel_rfl
@[go_sem] theorem arn_113 : arn prog 113 = none := by kernel_rfl
@[go_sem] theorem bldk_113 : bldk prog 113 = false := by kernel_rfl
@[go_sem] theorem bsl_113 : bsl prog 113 = false := by kernel_rfl
@[go_sem] theorem isIf_113 : isIf prog 113 = false := by kernel_rfl
@[go_sem] theorem fdk_113_0 : fdk prog 113 0 = some (0, false, 1) := by kernel_rfl
@[go_sem] theorem fdk_113_1 : fdk prog 113 1 = some (1, false, 1) := by kernel_rfl
@[go_sem] theorem tk_114 : tk prog 114 = some (true, 2) := by kernel_rfl
@[go_sem] theorem und_114 : (prog.underlying 114).isSome = true := by kernel_rfl
@[go_sem] theorem slk_114 : slk prog 114 = none := by kernel_rfl
@[go_sem] theorem ark_114 : ark prog 114 = none := by kernel_rfl
@[go_sem] theorem isStr_114 : isStr prog 114 = false := by kernel_rfl
@[go_sem] theorem isBool_114 : isBool prog 114 = false := by kernel_rfl
@[go_sem] theorem notInt_114 : notInt prog 114 = true := by kernel_rfl
@[go_sem] theorem flk_114 : flk prog 114 = some [(0, 1), (1, 1)] := by kernel_rfl
@[go_sem] theorem zk_114 : zk prog 114 = some [Value.int IntKind.i64 (Int.ofNat 0), Value.slice none 0 0] := by kernel_rfl
@[go_sem] theorem arn_114 : arn prog 114 = none := by kernel_rfl
@[go_sem] theorem bldk_114 : bldk prog 114 = false := by kernel_rfl
@[go_sem] theorem bsl_114 : bsl prog 114 = false := by kernel_rfl
@[go_sem] theorem isIf_114 : isIf prog 114 = false := by kernel_rfl
@[go_sem] theorem fdk_114_0 : fdk prog 114 0 = some (0, false, 1) := by kernel_rfl
@[go_sem] theorem fdk_114_1 : fdk prog 114 1 = some (1, false, 1) := by kernel_rfl
@[go_sem] theorem tk_115 : tk prog 115 = some (false, 1) := by kernel_rfl
@[go_sem] theorem und_115 : (prog.underlying 115).isSome = true := by kernel_rfl
@[go_sem] theorem slk_115 : slk prog 115 = none := by kernel_rfl
@[go_sem] theorem ark_115 : ark prog 115 = none := by kernel_rfl
@[go_sem] theorem isStr_115 : isStr prog 115 = false := by kernel_rfl
@[go_sem] theorem isBool_115 : isBool prog 115 = false := by kernel_rfl
@[go_sem] theorem notInt_115 : notInt prog 115 = true := by kernel_rfl
@[go_sem] theorem zk_115 : zk prog 115 = some [Value.nilFunc] := by kernel_rfl
@[go_sem] theorem arn_115 : arn prog 115 = none := by kernel_rfl
@[go_sem] theorem bldk_115 : bldk prog 115 = false := by kernel_rfl
@[go_sem] theorem bsl_115 : bsl prog 115 = false := by kernel_rfl
@[go_sem] theorem isIf_115 : isIf prog 115 = false := by kernel_rfl
@[go_sem] theorem tk_116 : tk prog 116 = some (false, 1) := by kernel_rfl
@[go_sem] theorem und_116 : (prog.underlying 116).isSome = true := by kernel_rfl
@[go_sem] theorem slk_116 : slk prog 116 = none := by kernel_rfl
@[go_sem] theorem ark_116 : ark prog 116 = none := by kernel_rfl
@[go_sem] theorem isStr_116 : isStr prog 116 = false := by kernel_rfl
@[go_sem] theorem isBool_116 : isBool prog 116 = false := by kernel_rfl
@[go_sem] theorem notInt_116 : notInt prog 116 = true := by kernel_rfl
@[go_sem] theorem zk_116 : zk prog 116 = some [Value.nilFunc] := by kernel_rfl
@[go_sem] theorem arn_116 : arn prog 116 = none := by kernel_rfl
@[go_sem] theorem bldk_116 : bldk prog 116 = false := by kernel_rfl
@[go_sem] theorem bsl_116 : bsl prog 116 = false := by kernel_rfl
@[go_sem] theorem isIf_116 : isIf prog 116 = false := by kernel_rfl
@[go_sem] theorem tk_119 : tk prog 119 = some (false, 1) := by kernel_rfl
@[go_sem] theorem und_119 : (prog.underlying 119).isSome = true := by kernel_rfl
@[go_sem] theorem slk_119 : slk prog 119 = none := by kernel_rfl
@[go_sem] theorem ark_119 : ark prog 119 = none := by kernel_rfl
@[go_sem] theorem isStr_119 : isStr prog 119 = false := by kernel_rfl
@[go_sem] theorem isBool_119 : isBool prog 119 = false := by kernel_rfl
@[go_sem] theorem notInt_119 : notInt prog 119 = true := by kernel_rfl
@[go_sem] theorem zk_119 : zk prog 119 = some [Value.map none] := by kernel_rfl
@[go_sem] theorem arn_119 : arn prog 119 = none := by kernel_rfl
@[go_sem] theorem bldk_119 : bldk prog 119 = false := by kernel_rfl
@[go_sem] theorem bsl_119 : bsl prog 119 = false := by kernel_rfl
@[go_sem] theorem isIf_119 : isIf prog 119 = false := by kernel_rfl
@[go_sem] theorem mtk_119 : mtk prog 119 = some (KK.s, Value.bool false) := by kernel_rfl
@[go_sem] theorem isMp_119 : isMp prog 119 = true := by kernel_rfl
@[go_sem] theorem tk_125 : tk prog 125 = some (false, 1) := by kernel_rfl
@[go_sem] theorem und_125 : (prog.underlying 125).isSome = true := by kernel_rfl
@[go_sem] theorem slk_125 : slk prog 125 = none := by kernel_rfl
@[go_sem] theorem ark_125 : ark prog 125 = none := by kernel_rfl
@[go_sem] theorem isStr_125 : isStr prog 125 = false := by kernel_rfl
@[go_sem] theorem isBool_125 : isBool prog 125 = false := by kernel_rfl
@[go_sem] theorem notInt_125 : notInt prog 125 = true := by kernel_rfl
@[go_sem] theorem zk_125 : zk prog 125 = some [Value.map none] := by kernel_rfl
@[go_sem] theorem arn_125 : arn prog 125 = none := by kernel_rfl
@[go_sem] theorem bldk_125 : bldk prog 125 = false := by kernel_rfl
@[go_sem] theorem bsl_125 : bsl prog 125 = false := by kernel_rfl
@[go_sem] theorem isIf_125 : isIf prog 125 = false := by kernel_rfl
@[go_sem] theorem mtk_125 : mtk prog 125 = some (KK.s, Value.int IntKind.i64 (Int.ofNat 0)) := by kernel_rfl
@[go_sem] theorem isMp_125 : isMp prog 125 = true := by kernel_rfl
@[go_sem] theorem tk_127 : tk prog 127 = some (false, 1) := by kernel_rfl
@[go_sem] theorem und_127 : (prog.underlying 127).isSome = true := by kernel_rfl
@[go_sem] theorem slk_127 : slk prog 127 = none := by kernel_rfl
@[go_sem] theorem ark_127 : ark prog 127 = none := by kernel_rfl
@[go_sem] theorem isStr_127 : isStr prog 127 = false := by kernel_rfl
@[go_sem] theorem isBool_127 : isBool prog 127 = false := by kernel_rfl
@[go_sem] theorem notInt_127 : notInt prog 127 = true := by kernel_rfl
@[go_sem] theorem zk_127 : zk prog 127 = some [Value.nilFunc] := by kernel_rfl
@[go_sem] theorem arn_127 : arn prog 127 = none := by kernel_rfl
@[go_sem] theorem bldk_127 : bldk prog 127 = false := by kernel_rfl
@[go_sem] theorem bsl_127 : bsl prog 127 = false := by kernel_rfl
@[go_sem] theorem isIf_127 : isIf prog 127 = false := by kernel_rfl
@[go_sem] theorem tk_128 : tk prog 128 = some (false, 1) := by kernel_rfl
@[go_sem] theorem und_128 : (prog.underlying 128).isSome = true := by kernel_rfl
@[go_sem] theorem slk_128 : slk prog 128 = none := by kernel_rfl
@[go_sem] theorem ark_128 : ark prog 128 = none := by kernel_rfl
@[go_sem] theorem isStr_128 : isStr prog 128 = false := by kernel_rfl
@[go_sem] theorem isBool_128 : isBool prog 128 = false := by kernel_rfl
@[go_sem] theorem notInt_128 : notInt prog 128 = true := by kernel_rfl
@[go_sem] theorem zk_128 : zk prog 128 = some [Value.tuple { toList := [Value.int IntKind.i64 (Int.ofNat 0), Value.bool false] }] := by kernel_rfl
@[go_sem] theorem arn_128 : arn prog 128 = none := by kernel_rfl
@[go_sem] theorem bldk_128 : bldk prog 128 = false := by kernel_rfl
@[go_sem] theorem bsl_128 : bsl prog 128 = false := by kernel_rfl
@[go_sem] theorem isIf_128 : isIf prog 128 = false := by kernel_rfl
@[go_sem] theorem tk_129 : tk prog 129 = some (false, 1) := by kernel_rfl
@[go_sem] theorem und_129 : (prog.underlying 129).isSome = true := by kernel_rfl
@[go_sem] theorem slk_129 : slk prog 129 = none := by kernel_rfl
@[go_sem] theorem ark_129 : ark prog 129 = none := by kernel_rfl
@[go_sem] theorem isStr_129 : isStr prog 129 = false := by kernel_rfl
@[go_sem] theorem isBool_129 : isBool prog 129 = false := by kernel_rfl
@[go_sem] theorem notInt_129 : notInt prog 129 = true := by kernel_rfl
@[go_sem] theorem zk_129 : zk prog 129 = some [Value.tuple { toList := [Value.agg { toList := [Value.string { data := { toList := [] } }, Value.slice none 0 0, Value.int IntKind.i64 (Int.ofNat 0)] }, Value.bool false] }] := by kernel_rfl
@[go_sem] theorem arn_129 : arn prog 129 = none := by kernel_rfl
@[go_sem] theorem bldk_129 : bldk prog 129 = false := by kernel_rfl
@[go_sem] theorem bsl_129 : bsl prog 129 = false := by kernel_rfl
@[go_sem] theorem isIf_129 : isIf prog 129 = false := by kernel_rfl
@[go_sem] theorem tk_130 : tk prog 130 = some (false, 1) := by kernel_rfl
@[go_sem] theorem und_130 : (prog.underlying 130).isSome = true := by kernel_rfl
@[go_sem] theorem slk_130 : slk prog 130 = none := by kernel_rfl
@[go_sem] theorem ark_130 : ark prog 130 = none := by kernel_rfl
@[go_sem] theorem isStr_130 : isStr prog 130 = false := by kernel_rfl
@[go_sem] theorem isBool_130 : isBool prog 130 = false := by kernel_rfl
@[go_sem] theorem notInt_130 : notInt prog 130 = true := by kernel_rfl
@[go_sem] theorem zk_130 : zk prog 130 = some [Value.nilFunc] := by kernel_rfl
@[go_sem] theorem arn_130 : arn prog 130 = none := by kernel_rfl
@[go_sem] theorem bldk_130 : bldk prog 130 = false := by kernel_rfl
@[go_sem] theorem bsl_130 : bsl prog 130 = false := by kernel_rfl
@[go_sem] theorem isIf_130 : isIf prog 130 = false := by kernel_rfl
@[go_sem] theorem tk_131 : tk prog 131 = some (false, 1) := by kernel_rfl
@[go_sem] theorem und_131 : (prog.underlying 131).isSome = true := by kernel_rfl
@[go_sem] theorem slk_131 : slk prog 131 = none := by kernel_rfl
@[go_sem] theorem ark_131 : ark prog 131 = none := by kernel_rfl
@[go_sem] theorem isStr_131 : isStr prog 131 = false := by kernel_rfl
@[go_sem] theorem isBool_131 : isBool prog 131 = false := by kernel_rfl
@[go_sem] theorem notInt_131 : notInt prog 131 = true := by kernel_rfl
@[go_sem] theorem zk_131 : zk prog 131 = some [Value.nilFunc] := by kernel_rfl
@[go_sem] theorem arn_131 : arn prog 131 = none := by kernel_rfl
@[go_sem] theorem bldk_131 : bldk prog 131 = false := by kernel_rfl
@[go_sem] theorem bsl_131 : bsl prog 131 = false := by kernel_rfl
@[go_sem] theorem isIf_131 : isIf prog 131 = false := by kernel_rfl
@[go_sem] theorem tk_132 : tk prog 132 = some (false, 1) := by kernel_rfl
@[go_sem] theorem und_132 : (prog.underlying 132).isSome = true := by kernel_rfl
@[go_sem] theorem slk_132 : slk prog 132 = none := by kernel_rfl
@[go_sem] theorem ark_132 : ark prog 132 = none := by kernel_rfl
@[go_sem] theorem isStr_132 : isStr prog 132 = false := by kernel_rfl
@[go_sem] theorem isBool_132 : isBool prog 132 = false := by kernel_rfl
@[go_sem] theorem notInt_132 : notInt prog 132 = true := by kernel_rfl
@[go_sem] theorem zk_132 : zk prog 132 = some [Value.nilFunc] := by kernel_rfl
@[go_sem] theorem arn_132 : arn prog 132 = none := by kernel_rfl
@[go_sem] theorem bldk_132 : bldk prog 132 = false := by kernel_rfl
@[go_sem] theorem bsl_132 : bsl prog 132 = false := by kernel_rfl
@[go_sem] theorem isIf_132 : isIf prog 132 = false := by kernel_rfl
@[go_sem] theorem tk_133 : tk prog 133 = some (false, 1) := by kernel_rfl
@[go_sem] theorem und_133 : (prog.underlying 133).isSome = true := by kernel_rfl
@[go_sem] theorem slk_133 : slk prog 133 = none := by kernel_rfl
@[go_sem] theorem ark_133 : ark prog 133 = none := by kernel_rfl
@[go_sem] theorem isStr_133 : isStr prog 133 = false := by kernel_rfl
@[go_sem] theorem isBool_133 : isBool prog 133 = false := by kernel_rfl
@[go_sem] theorem notInt_133 : notInt prog 133 = true := by kernel_rfl
@[go_sem] theorem zk_133 : zk prog 133 = some [Value.nilFunc] := by kernel_rfl
@[go_sem] theorem arn_133 : arn prog 133 = none := by kernel_rfl
@[go_sem] theorem bldk_133 : bldk prog 133 = false := by kernel_rfl
@[go_sem] theorem bsl_133 : bsl prog 133 = false := by kernel_rfl
@[go_sem] theorem isIf_133 : isIf prog 133 = false := by kernel_rfl
@[go_sem] theorem tk_134 : tk prog 134 = some (false, 1) := by kernel_rfl
@[go_sem] theorem und_134 : (prog.underlying 134).isSome = true := by kernel_rfl
@[go_sem] theorem slk_134 : slk prog 134 = some (68, 1, 24) := by kernel_rfl
@[go_sem] theorem ark_134 : ark prog 134 = none := by kernel_rfl
@[go_sem] theorem isStr_134 : isStr prog 134 = false := by kernel_rfl
@[go_sem] theorem isBool_134 : isBool prog 134 = false := by kernel_rfl
@[go_sem] theorem notInt_134 : notInt prog 134 = true := by kernel_rfl
@[go_sem] theorem zk_134 : zk prog 134 = some [Value.slice none 0 0] := by kernel_rfl
@[go_sem] theorem elemZ_134 : elemZ prog 134 = some [Value.slice none 0 0] := by kernel_rfl
@[go_sem] theorem arn_134 : arn prog 134 = none := by kernel_rfl
@[go_sem] theorem bldk_134 : bldk prog 134 = false := by kernel_rfl
@[go_sem] theorem bsl_134 : bsl prog 134 = false := by kernel_rfl
@[go_sem] theorem isIf_134 : isIf prog 134 = false := by kernel_rfl
@[go_sem] theorem isSl_134 : isSl prog 134 = true := by kernel_rfl
@[go_sem] theorem tk_135 : tk prog 135 = some (false, 1) := by kernel_rfl
@[go_sem] theorem und_135 : (prog.underlying 135).isSome = true := by kernel_rfl
@[go_sem] theorem slk_135 : slk prog 135 = none := by kernel_rfl
@[go_sem] theorem ark_135 : ark prog 135 = none := by kernel_rfl
@[go_sem] theorem isStr_135 : isStr prog 135 = false := by kernel_rfl
@[go_sem] theorem isBool_135 : isBool prog 135 = false := by kernel_rfl
@[go_sem] theorem notInt_135 : notInt prog 135 = true := by kernel_rfl
@[go_sem] theorem zk_135 : zk prog 135 = some [Value.nilFunc] := by kernel_rfl
@[go_sem] theorem arn_135 : arn prog 135 = none := by kernel_rfl
@[go_sem] theorem bldk_135 : bldk prog 135 = false := by kernel_rfl
@[go_sem] theorem bsl_135 : bsl prog 135 = false := by kernel_rfl
@[go_sem] theorem isIf_135 : isIf prog 135 = false := by kernel_rfl
@[go_sem] theorem tk_138 : tk prog 138 = some (false, 1) := by kernel_rfl
@[go_sem] theorem und_138 : (prog.underlying 138).isSome = true := by kernel_rfl
@[go_sem] theorem slk_138 : slk prog 138 = none := by kernel_rfl
@[go_sem] theorem ark_138 : ark prog 138 = none := by kernel_rfl
@[go_sem] theorem isStr_138 : isStr prog 138 = false := by kernel_rfl
@[go_sem] theorem isBool_138 : isBool prog 138 = false := by kernel_rfl
@[go_sem] theorem notInt_138 : notInt prog 138 = true := by kernel_rfl
@[go_sem] theorem zk_138 : zk prog 138 = some [Value.nilFunc] := by kernel_rfl
@[go_sem] theorem arn_138 : arn prog 138 = none := by kernel_rfl
@[go_sem] theorem bldk_138 : bldk prog 138 = false := by kernel_rfl
@[go_sem] theorem bsl_138 : bsl prog 138 = false := by kernel_rfl
@[go_sem] theorem isIf_138 : isIf prog 138 = false := by kernel_rfl
@[go_sem] theorem tk_141 : tk prog 141 = some (false, 1) := by kernel_rfl
@[go_sem] theorem und_141 : (prog.underlying 141).isSome = true := by kernel_rfl
@[go_sem] theorem slk_141 : slk prog 141 = none := by kernel_rfl
@[go_sem] theorem ark_141 : ark prog 141 = none := by kernel_rfl
@[go_sem] theorem isStr_141 : isStr prog 141 = false := by kernel_rfl
@[go_sem] theorem isBool_141 : isBool prog 141 = false := by kernel_rfl
@[go_sem] theorem notInt_141 : notInt prog 141 = true := by kernel_rfl
@[go_sem] theorem zk_141 : zk prog 141 = some [Value.nilFunc] := by kernel_rfl
@[go_sem] theorem arn_141 : arn prog 141 = none := by kernel_rfl
@[go_sem] theorem bldk_141 : bldk prog 141 = false := by kernel_rfl
@[go_sem] theorem bsl_141 : bsl prog 141 = false := by kernel_rfl
@[go_sem] theorem isIf_141 : isIf prog 141 = false := by kernel_rfl
@[go_sem] theorem tk_142 : tk prog 142 = some (false, 1) := by kernel_rfl
@[go_sem] theorem und_142 : (prog.underlying 142).isSome = true := by kernel_rfl
@[go_sem] theorem slk_142 : slk prog 142 = none := by kernel_rfl
@[go_sem] theorem ark_142 : ark prog 142 = none := by kernel_rfl
@[go_sem] theorem isStr_142 : isStr prog 142 = false := by kernel_rfl
@[go_sem] theorem isBool_142 : isBool prog 142 = false := by kernel_rfl
@[go_sem] theorem notInt_142 : notInt prog 142 = true := by kernel_rfl
@[go_sem] theorem zk_142 : zk prog 142 = some [Value.nilFunc] := by kernel_rfl
@[go_sem] theorem arn_142 : arn prog 142 = none := by kernel_rfl
@[go_sem] theorem bldk_142 : bldk prog 142 = false := by kernel_rfl
@[go_sem] theorem bsl_142 : bsl prog 142 = false := by kernel_rfl
@[go_sem] theorem isIf_142 : isIf prog 142 = false := by kernel_rfl
@[go_sem] theorem tk_147 : tk prog 147 = some (false, 1) := by kernel_rfl
@[go_sem] theorem und_147 : (prog.underlying 147).isSome = true := by kernel_rfl
@[go_sem] theorem slk_147 : slk prog 147 = none := by kernel_rfl
@[go_sem] theorem ark_147 : ark prog 147 = none := by kernel_rfl
@[go_sem] theorem isStr_147 : isStr prog 147 = false := by kernel_rfl
@[go_sem] theorem isBool_147 : isBool prog 147 = false := by kernel_rfl
@[go_sem] theorem notInt_147 : notInt prog 147 = true := by kernel_rfl
@[go_sem] theorem zk_147 : zk prog 147 = some [Value.pointer none] := by kernel_rfl
@[go_sem] theorem arn_147 : arn prog 147 = none := by kernel_rfl
@[go_sem] theorem bldk_147 : bldk prog 147 = false := by kernel_rfl
@[go_sem] theorem bsl_147 : bsl prog 147 = false := by kernel_rfl
@[go_sem] theorem isIf_147 : isIf prog 147 = false := by kernel_rfl
@[go_sem] theorem tk_149 : tk prog 149 = some (true, 2) := by kernel_rfl
@[go_sem] theorem und_149 : (prog.underlying 149).isSome = true := by kernel_rfl
@[go_sem] theorem slk_149 : slk prog 149 = none := by kernel_rfl
@[go_sem] theorem ark_149 : ark prog 149 = none := by kernel_rfl
@[go_sem] theorem isStr_149 : isStr prog 149 = false := by kernel_rfl
@[go_sem] theorem isBool_149 : isBool prog 149 = false := by kernel_rfl
@[go_sem] theorem notInt_149 : notInt prog 149 = true := by kernel_rfl
@[go_sem] theorem flk_149 : flk prog 149 = some [(0, 1), (1, 1)] := by kernel_rfl
@[go_sem] theorem zk_149 : zk prog 149 = some [Value.pointer none, Value.slice none 0 0] := by kernel_rfl
@[go_sem] theorem arn_149 : arn prog 149 = none := by kernel_rfl
@[go_sem] theorem bldk_149 : bldk prog 149 = true := by kernel_rfl
@[go_sem] theorem bsl_149 : bsl prog 149 = false := by kernel_rfl
@[go_sem] theorem isIf_149 : isIf prog 149 = false := by kernel_rfl
@[go_sem] theorem fdk_149_0 : fdk prog 149 0 = some (0, false, 1) := by kernel_rfl
@[go_sem] theorem fdk_149_1 : fdk prog 149 1 = some (1, false, 1) := by kernel_rfl
@[go_sem] theorem tk_153 : tk prog 153 = some (false, 1) := by kernel_rfl
@[go_sem] theorem und_153 : (prog.underlying 153).isSome = true := by kernel_rfl
@[go_sem] theorem slk_153 : slk prog 153 = none := by kernel_rfl
@[go_sem] theorem ark_153 : ark prog 153 = none := by kernel_rfl
@[go_sem] theorem isStr_153 : isStr prog 153 = false := by kernel_rfl
@[go_sem] theorem isBool_153 : isBool prog 153 = false := by kernel_rfl
@[go_sem] theorem notInt_153 : notInt prog 153 = true := by kernel_rfl
@[go_sem] theorem zk_153 : zk prog 153 = some [Value.nilIface] := by kernel_rfl
@[go_sem] theorem arn_153 : arn prog 153 = none := by kernel_rfl
@[go_sem] theorem bldk_153 : bldk prog 153 = false := by kernel_rfl
@[go_sem] theorem bsl_153 : bsl prog 153 = false := by kernel_rfl
@[go_sem] theorem isIf_153 : isIf prog 153 = true := by kernel_rfl
@[go_sem] theorem tk_162 : tk prog 162 = some (false, 1) := by kernel_rfl
@[go_sem] theorem und_162 : (prog.underlying 162).isSome = true := by kernel_rfl
@[go_sem] theorem slk_162 : slk prog 162 = none := by kernel_rfl
@[go_sem] theorem ark_162 : ark prog 162 = none := by kernel_rfl
@[go_sem] theorem isStr_162 : isStr prog 162 = false := by kernel_rfl
@[go_sem] theorem isBool_162 : isBool prog 162 = false := by kernel_rfl
@[go_sem] theorem ik_162 : ik prog 162 = some IntKind.u64 := by kernel_rfl
@[go_sem] theorem notInt_162 : notInt prog 162 = false := by kernel_rfl
@[go_sem] theorem zk_162 : zk prog 162 = some [Value.int IntKind.u64 (Int.ofNat 0)] := by kernel_rfl
@[go_sem] theorem arn_162 : arn prog 162 = none := by kernel_rfl
@[go_sem] theorem bldk_162 : bldk prog 162 = false := by kernel_rfl
@[go_sem] theorem bsl_162 : bsl prog 162 = false := by kernel_rfl
@[go_sem] theorem isIf_162 : isIf prog 162 = false := by kernel_rfl
@[go_sem] theorem tk_168 : tk prog 168 = some (false, 1) := by kernel_rfl
@[go_sem] theorem und_168 : (prog.underlying 168).isSome = true := by kernel_rfl
@[go_sem] theorem slk_168 : slk prog 168 = none := by kernel_rfl
@[go_sem] theorem ark_168 : ark prog 168 = none := by kernel_rfl
@[go_sem] theorem isStr_168 : isStr prog 168 = false := by kernel_rfl
@[go_sem] theorem isBool_168 : isBool prog 168 = false := by kernel_rfl
@[go_sem] theorem notInt_168 : notInt prog 168 = true := by kernel_rfl
@[go_sem] theorem zk_168 : zk prog 168 = some [Value.nilFunc] := by kernel_rfl
@[go_sem] theorem arn_168 : arn prog 168 = none := by kernel_rfl
@[go_sem] theorem bldk_168 : bldk prog 168 = false := by kernel_rfl
@[go_sem] theorem bsl_168 : bsl prog 168 = false := by kernel_rfl
@[go_sem] theorem isIf_168 : isIf prog 168 = false := by kernel_rfl
@[go_sem] theorem tk_170 : tk prog 170 = some (false, 1) := by kernel_rfl
@[go_sem] theorem und_170 : (prog.underlying 170).isSome = true := by kernel_rfl
@[go_sem] theorem slk_170 : slk prog 170 = none := by kernel_rfl
@[go_sem] theorem ark_170 : ark prog 170 = none := by kernel_rfl
@[go_sem] theorem isStr_170 : isStr prog 170 = false := by kernel_rfl
@[go_sem] theorem isBool_170 : isBool prog 170 = false := by kernel_rfl
@[go_sem] theorem notInt_170 : notInt prog 170 = true := by kernel_rfl
@[go_sem] theorem zk_170 : zk prog 170 = some [Value.pointer none] := by kernel_rfl
@[go_sem] theorem arn_170 : arn prog 170 = none := by kernel_rfl
@[go_sem] theorem bldk_170 : bldk prog 170 = false := by kernel_rfl
@[go_sem] theorem bsl_170 : bsl prog 170 = false := by kernel_rfl
@[go_sem] theorem isIf_170 : isIf prog 170 = false := by kernel_rfl
@[go_sem] theorem tk_174 : tk prog 174 = some (false, 1) := by kernel_rfl
@[go_sem] theorem und_174 : (prog.underlying 174).isSome = true := by kernel_rfl
@[go_sem] theorem slk_174 : slk prog 174 = none := by kernel_rfl
@[go_sem] theorem ark_174 : ark prog 174 = none := by kernel_rfl
@[go_sem] theorem isStr_174 : isStr prog 174 = false := by kernel_rfl
@[go_sem] theorem isBool_174 : isBool prog 174 = false := by kernel_rfl
@[go_sem] theorem notInt_174 : notInt prog 174 = true := by kernel_rfl
@[go_sem] theorem zk_174 : zk prog 174 = some [Value.nilFunc] := by kernel_rfl
@[go_sem] theorem arn_174 : arn prog 174 = none := by kernel_rfl
@[go_sem] theorem bldk_174 : bldk prog 174 = false := by kernel_rfl
@[go_sem] theorem bsl_174 : bsl prog 174 = false := by kernel_rfl
@[go_sem] theorem isIf_174 : isIf prog 174 = false := by kernel_rfl
@[go_sem] theorem tk_185 : tk prog 185 = some (false, 1) := by kernel_rfl
@[go_sem] theorem und_185 : (prog.underlying 185).isSome = true := by kernel_rfl
@[go_sem] theorem slk_185 : slk prog 185 = none := by kernel_rfl
@[go_sem] theorem ark_185 : ark prog 185 = none := by kernel_rfl
@[go_sem] theorem isStr_185 : isStr prog 185 = false := by kernel_rfl
@[go_sem] theorem isBool_185 : isBool prog 185 = false := by kernel_rfl
@[go_sem] theorem ik_185 : ik prog 185 = some IntKind.u64 := by kernel_rfl
@[go_sem] theorem notInt_185 : notInt prog 185 = false := by kernel_rfl
@[go_sem] theorem zk_185 : zk prog 185 = some [Value.int IntKind.u64 (Int.ofNat 0)] := by kernel_rfl
@[go_sem] theorem arn_185 : arn prog 185 = none := by kernel_rfl
@[go_sem] theorem bldk_185 : bldk prog 185 = false := by kernel_rfl
@[go_sem] theorem bsl_185 : bsl prog 185 = false := by kernel_rfl
@[go_sem] theorem isIf_185 : isIf prog 185 = false := by kernel_rfl
@[go_sem] theorem tk_189 : tk prog 189 = some (false, 1) := by kernel_rfl
@[go_sem] theorem und_189 : (prog.underlying 189).isSome = true := by kernel_rfl
@[go_sem] theorem slk_189 : slk prog 189 = none := by kernel_rfl
@[go_sem] theorem ark_189 : ark prog 189 = none := by kernel_rfl
@[go_sem] theorem isStr_189 : isStr prog 189 = false := by kernel_rfl
@[go_sem] theorem isBool_189 : isBool prog 189 = false := by kernel_rfl
@[go_sem] theorem notInt_189 : notInt prog 189 = true := by kernel_rfl
@[go_sem] theorem zk_189 : zk prog 189 = some [Value.pointer none] := by kernel_rfl
@[go_sem] theorem arn_189 : arn prog 189 = none := by kernel_rfl
@[go_sem] theorem bldk_189 : bldk prog 189 = false := by kernel_rfl
@[go_sem] theorem bsl_189 : bsl prog 189 = false := by kernel_rfl
@[go_sem] theorem isIf_189 : isIf prog 189 = false := by kernel_rfl
end Go.Proofs.YtblfodnajpamfaaGreatDoor
