/- What the tables of this program say of its types. -/
import Derived.Test.YtockdinjmnkdoaaAq
import Derived.Test.YtockdinjmnkdoaaProg
import Derived.KernelRfl
namespace Go.Proofs.Ytockdinjmnkdoaa
open Go Go.Ab

@[go_sem] theorem tk_0 : tk Try.prog 0 = some (false, 1) := by kernel_rfl
@[go_sem] theorem und_0 : (Try.prog.underlying 0).isSome = true := by kernel_rfl
@[go_sem] theorem slk_0 : slk Try.prog 0 = none := by kernel_rfl
@[go_sem] theorem ark_0 : ark Try.prog 0 = none := by kernel_rfl
@[go_sem] theorem isStr_0 : isStr Try.prog 0 = false := by kernel_rfl
@[go_sem] theorem isBool_0 : isBool Try.prog 0 = false := by kernel_rfl
@[go_sem] theorem notInt_0 : notInt Try.prog 0 = true := by kernel_rfl
@[go_sem] theorem zk_0 : zk Try.prog 0 = some [Value.tuple { toList := [] }] := by kernel_rfl
@[go_sem] theorem tk_1 : tk Try.prog 1 = some (false, 1) := by kernel_rfl
@[go_sem] theorem und_1 : (Try.prog.underlying 1).isSome = true := by kernel_rfl
@[go_sem] theorem slk_1 : slk Try.prog 1 = none := by kernel_rfl
@[go_sem] theorem ark_1 : ark Try.prog 1 = none := by kernel_rfl
@[go_sem] theorem isStr_1 : isStr Try.prog 1 = false := by kernel_rfl
@[go_sem] theorem isBool_1 : isBool Try.prog 1 = false := by kernel_rfl
@[go_sem] theorem notInt_1 : notInt Try.prog 1 = true := by kernel_rfl
@[go_sem] theorem zk_1 : zk Try.prog 1 = some [Value.nilFunc] := by kernel_rfl
@[go_sem] theorem tk_2 : tk Try.prog 2 = some (false, 1) := by kernel_rfl
@[go_sem] theorem und_2 : (Try.prog.underlying 2).isSome = true := by kernel_rfl
@[go_sem] theorem slk_2 : slk Try.prog 2 = none := by kernel_rfl
@[go_sem] theorem ark_2 : ark Try.prog 2 = none := by kernel_rfl
@[go_sem] theorem isStr_2 : isStr Try.prog 2 = false := by kernel_rfl
@[go_sem] theorem isBool_2 : isBool Try.prog 2 = false := by kernel_rfl
@[go_sem] theorem ik_2 : ik Try.prog 2 = some IntKind.i64 := by kernel_rfl
@[go_sem] theorem notInt_2 : notInt Try.prog 2 = false := by kernel_rfl
@[go_sem] theorem zk_2 : zk Try.prog 2 = some [Value.int IntKind.i64 (Int.ofNat 0)] := by kernel_rfl
@[go_sem] theorem tk_3 : tk Try.prog 3 = some (false, 1) := by kernel_rfl
@[go_sem] theorem und_3 : (Try.prog.underlying 3).isSome = true := by kernel_rfl
@[go_sem] theorem slk_3 : slk Try.prog 3 = none := by kernel_rfl
@[go_sem] theorem ark_3 : ark Try.prog 3 = none := by kernel_rfl
@[go_sem] theorem isStr_3 : isStr Try.prog 3 = false := by kernel_rfl
@[go_sem] theorem isBool_3 : isBool Try.prog 3 = false := by kernel_rfl
@[go_sem] theorem ik_3 : ik Try.prog 3 = some IntKind.i64 := by kernel_rfl
@[go_sem] theorem notInt_3 : notInt Try.prog 3 = false := by kernel_rfl
@[go_sem] theorem zk_3 : zk Try.prog 3 = some [Value.int IntKind.i64 (Int.ofNat 0)] := by kernel_rfl
@[go_sem] theorem tk_4 : tk Try.prog 4 = some (false, 1) := by kernel_rfl
@[go_sem] theorem und_4 : (Try.prog.underlying 4).isSome = true := by kernel_rfl
@[go_sem] theorem slk_4 : slk Try.prog 4 = none := by kernel_rfl
@[go_sem] theorem ark_4 : ark Try.prog 4 = none := by kernel_rfl
@[go_sem] theorem isStr_4 : isStr Try.prog 4 = false := by kernel_rfl
@[go_sem] theorem isBool_4 : isBool Try.prog 4 = true := by kernel_rfl
@[go_sem] theorem notInt_4 : notInt Try.prog 4 = true := by kernel_rfl
@[go_sem] theorem zk_4 : zk Try.prog 4 = some [Value.bool false] := by kernel_rfl
@[go_sem] theorem tk_5 : tk Try.prog 5 = some (false, 1) := by kernel_rfl
@[go_sem] theorem und_5 : (Try.prog.underlying 5).isSome = true := by kernel_rfl
@[go_sem] theorem slk_5 : slk Try.prog 5 = none := by kernel_rfl
@[go_sem] theorem ark_5 : ark Try.prog 5 = none := by kernel_rfl
@[go_sem] theorem isStr_5 : isStr Try.prog 5 = false := by kernel_rfl
@[go_sem] theorem isBool_5 : isBool Try.prog 5 = false := by kernel_rfl
@[go_sem] theorem ik_5 : ik Try.prog 5 = some IntKind.u8 := by kernel_rfl
@[go_sem] theorem notInt_5 : notInt Try.prog 5 = false := by kernel_rfl
@[go_sem] theorem zk_5 : zk Try.prog 5 = some [Value.int IntKind.u8 (Int.ofNat 0)] := by kernel_rfl
@[go_sem] theorem tk_6 : tk Try.prog 6 = some (false, 1) := by kernel_rfl
@[go_sem] theorem und_6 : (Try.prog.underlying 6).isSome = true := by kernel_rfl
@[go_sem] theorem slk_6 : slk Try.prog 6 = none := by kernel_rfl
@[go_sem] theorem ark_6 : ark Try.prog 6 = none := by kernel_rfl
@[go_sem] theorem isStr_6 : isStr Try.prog 6 = false := by kernel_rfl
@[go_sem] theorem isBool_6 : isBool Try.prog 6 = false := by kernel_rfl
@[go_sem] theorem ik_6 : ik Try.prog 6 = some IntKind.u8 := by kernel_rfl
@[go_sem] theorem notInt_6 : notInt Try.prog 6 = false := by kernel_rfl
@[go_sem] theorem zk_6 : zk Try.prog 6 = some [Value.int IntKind.u8 (Int.ofNat 0)] := by kernel_rfl
@[go_sem] theorem tk_7 : tk Try.prog 7 = some (true, 4) := by kernel_rfl
@[go_sem] theorem und_7 : (Try.prog.underlying 7).isSome = true := by kernel_rfl
@[go_sem] theorem slk_7 : slk Try.prog 7 = none := by kernel_rfl
@[go_sem] theorem ark_7 : ark Try.prog 7 = none := by kernel_rfl
@[go_sem] theorem isStr_7 : isStr Try.prog 7 = false := by kernel_rfl
@[go_sem] theorem isBool_7 : isBool Try.prog 7 = false := by kernel_rfl
@[go_sem] theorem notInt_7 : notInt Try.prog 7 = true := by kernel_rfl
@[go_sem] theorem flk_7 : flk Try.prog 7 = some [(0, 1), (1, 1), (2, 1), (3, 1)] := by kernel_rfl
@[go_sem] theorem zk_7 : zk Try.prog 7 = some [Value.int IntKind.i64 (Int.ofNat 0), Value.int IntKind.i64 (Int.ofNat 0), Value.bool false, Value.int IntKind.u8 (Int.ofNat 0)] := by kernel_rfl
@[go_sem] theorem fdk_7_0 : fdk Try.prog 7 0 = some (0, false, 1) := by kernel_rfl
@[go_sem] theorem fdk_7_1 : fdk Try.prog 7 1 = some (1, false, 1) := by kernel_rfl
@[go_sem] theorem fdk_7_2 : fdk Try.prog 7 2 = some (2, false, 1) := by kernel_rfl
@[go_sem] theorem fdk_7_3 : fdk Try.prog 7 3 = some (3, false, 1) := by kernel_rfl
@[go_sem] theorem tk_8 : tk Try.prog 8 = some (true, 4) := by kernel_rfl
@[go_sem] theorem und_8 : (Try.prog.underlying 8).isSome = true := by kernel_rfl
@[go_sem] theorem slk_8 : slk Try.prog 8 = none := by kernel_rfl
@[go_sem] theorem ark_8 : ark Try.prog 8 = none := by kernel_rfl
@[go_sem] theorem isStr_8 : isStr Try.prog 8 = false := by kernel_rfl
@[go_sem] theorem isBool_8 : isBool Try.prog 8 = false := by kernel_rfl
@[go_sem] theorem notInt_8 : notInt Try.prog 8 = true := by kernel_rfl
@[go_sem] theorem flk_8 : flk Try.prog 8 = some [(0, 1), (1, 1), (2, 1), (3, 1)] := by kernel_rfl
@[go_sem] theorem zk_8 : zk Try.prog 8 = some [Value.int IntKind.i64 (Int.ofNat 0), Value.int IntKind.i64 (Int.ofNat 0), Value.bool false, Value.int IntKind.u8 (Int.ofNat 0)] := by kernel_rfl
@[go_sem] theorem fdk_8_0 : fdk Try.prog 8 0 = some (0, false, 1) := by kernel_rfl
@[go_sem] theorem fdk_8_1 : fdk Try.prog 8 1 = some (1, false, 1) := by kernel_rfl
@[go_sem] theorem fdk_8_2 : fdk Try.prog 8 2 = some (2, false, 1) := by kernel_rfl
@[go_sem] theorem fdk_8_3 : fdk Try.prog 8 3 = some (3, false, 1) := by kernel_rfl
@[go_sem] theorem tk_9 : tk Try.prog 9 = some (false, 1) := by kernel_rfl
@[go_sem] theorem und_9 : (Try.prog.underlying 9).isSome = true := by kernel_rfl
@[go_sem] theorem slk_9 : slk Try.prog 9 = none := by kernel_rfl
@[go_sem] theorem ark_9 : ark Try.prog 9 = none := by kernel_rfl
@[go_sem] theorem isStr_9 : isStr Try.prog 9 = true := by kernel_rfl
@[go_sem] theorem isBool_9 : isBool Try.prog 9 = false := by kernel_rfl
@[go_sem] theorem notInt_9 : notInt Try.prog 9 = true := by kernel_rfl
@[go_sem] theorem zk_9 : zk Try.prog 9 = some [Value.string { data := { toList := [] } }] := by kernel_rfl
@[go_sem] theorem tk_10 : tk Try.prog 10 = some (false, 1) := by kernel_rfl
@[go_sem] theorem und_10 : (Try.prog.underlying 10).isSome = true := by kernel_rfl
@[go_sem] theorem slk_10 : slk Try.prog 10 = none := by kernel_rfl
@[go_sem] theorem ark_10 : ark Try.prog 10 = none := by kernel_rfl
@[go_sem] theorem isStr_10 : isStr Try.prog 10 = true := by kernel_rfl
@[go_sem] theorem isBool_10 : isBool Try.prog 10 = false := by kernel_rfl
@[go_sem] theorem notInt_10 : notInt Try.prog 10 = true := by kernel_rfl
@[go_sem] theorem zk_10 : zk Try.prog 10 = some [Value.string { data := { toList := [] } }] := by kernel_rfl
@[go_sem] theorem tk_11 : tk Try.prog 11 = some (false, 1) := by kernel_rfl
@[go_sem] theorem und_11 : (Try.prog.underlying 11).isSome = true := by kernel_rfl
@[go_sem] theorem slk_11 : slk Try.prog 11 = none := by kernel_rfl
@[go_sem] theorem ark_11 : ark Try.prog 11 = none := by kernel_rfl
@[go_sem] theorem isStr_11 : isStr Try.prog 11 = true := by kernel_rfl
@[go_sem] theorem isBool_11 : isBool Try.prog 11 = false := by kernel_rfl
@[go_sem] theorem notInt_11 : notInt Try.prog 11 = true := by kernel_rfl
@[go_sem] theorem zk_11 : zk Try.prog 11 = some [Value.string { data := { toList := [] } }] := by kernel_rfl
@[go_sem] theorem tk_12 : tk Try.prog 12 = some (false, 1) := by kernel_rfl
@[go_sem] theorem und_12 : (Try.prog.underlying 12).isSome = true := by kernel_rfl
@[go_sem] theorem slk_12 : slk Try.prog 12 = none := by kernel_rfl
@[go_sem] theorem ark_12 : ark Try.prog 12 = none := by kernel_rfl
@[go_sem] theorem isStr_12 : isStr Try.prog 12 = false := by kernel_rfl
@[go_sem] theorem isBool_12 : isBool Try.prog 12 = false := by kernel_rfl
@[go_sem] theorem ik_12 : ik Try.prog 12 = some IntKind.u64 := by kernel_rfl
@[go_sem] theorem notInt_12 : notInt Try.prog 12 = false := by kernel_rfl
@[go_sem] theorem zk_12 : zk Try.prog 12 = some [Value.int IntKind.u64 (Int.ofNat 0)] := by kernel_rfl
@[go_sem] theorem tk_13 : tk Try.prog 13 = some (true, 2) := by kernel_rfl
@[go_sem] theorem und_13 : (Try.prog.underlying 13).isSome = true := by kernel_rfl
@[go_sem] theorem slk_13 : slk Try.prog 13 = none := by kernel_rfl
@[go_sem] theorem ark_13 : ark Try.prog 13 = none := by kernel_rfl
@[go_sem] theorem isStr_13 : isStr Try.prog 13 = false := by kernel_rfl
@[go_sem] theorem isBool_13 : isBool Try.prog 13 = false := by kernel_rfl
@[go_sem] theorem notInt_13 : notInt Try.prog 13 = true := by kernel_rfl
@[go_sem] theorem flk_13 : flk Try.prog 13 = some [(0, 1), (1, 1)] := by kernel_rfl
@[go_sem] theorem zk_13 : zk Try.prog 13 = some [Value.string { data := { toList := [] } }, Value.int IntKind.u64 (Int.ofNat 0)] := by kernel_rfl
@[go_sem] theorem fdk_13_0 : fdk Try.prog 13 0 = some (0, false, 1) := by kernel_rfl
@[go_sem] theorem fdk_13_1 : fdk Try.prog 13 1 = some (1, false, 1) := by kernel_rfl
@[go_sem] theorem tk_14 : tk Try.prog 14 = some (true, 2) := by kernel_rfl
@[go_sem] theorem und_14 : (Try.prog.underlying 14).isSome = true := by kernel_rfl
@[go_sem] theorem slk_14 : slk Try.prog 14 = none := by kernel_rfl
@[go_sem] theorem ark_14 : ark Try.prog 14 = none := by kernel_rfl
@[go_sem] theorem isStr_14 : isStr Try.prog 14 = false := by kernel_rfl
@[go_sem] theorem isBool_14 : isBool Try.prog 14 = false := by kernel_rfl
@[go_sem] theorem notInt_14 : notInt Try.prog 14 = true := by kernel_rfl
@[go_sem] theorem flk_14 : flk Try.prog 14 = some [(0, 1), (1, 1)] := by kernel_rfl
@[go_sem] theorem zk_14 : zk Try.prog 14 = some [Value.string { data := { toList := [] } }, Value.int IntKind.u64 (Int.ofNat 0)] := by kernel_rfl
@[go_sem] theorem fdk_14_0 : fdk Try.prog 14 0 = some (0, false, 1) := by kernel_rfl
@[go_sem] theorem fdk_14_1 : fdk Try.prog 14 1 = some (1, false, 1) := by kernel_rfl
@[go_sem] theorem tk_15 : tk Try.prog 15 = some (false, 1) := by kernel_rfl
@[go_sem] theorem und_15 : (Try.prog.underlying 15).isSome = true := by kernel_rfl
@[go_sem] theorem slk_15 : slk Try.prog 15 = none := by kernel_rfl
@[go_sem] theorem ark_15 : ark Try.prog 15 = none := by kernel_rfl
@[go_sem] theorem isStr_15 : isStr Try.prog 15 = false := by kernel_rfl
@[go_sem] theorem isBool_15 : isBool Try.prog 15 = false := by kernel_rfl
@[go_sem] theorem notInt_15 : notInt Try.prog 15 = true := by kernel_rfl
@[go_sem] theorem zk_15 : zk Try.prog 15 = some [Value.pointer none] := by kernel_rfl
@[go_sem] theorem tk_16 : tk Try.prog 16 = some (false, 1) := by kernel_rfl
@[go_sem] theorem und_16 : (Try.prog.underlying 16).isSome = true := by kernel_rfl
@[go_sem] theorem slk_16 : slk Try.prog 16 = none := by kernel_rfl
@[go_sem] theorem ark_16 : ark Try.prog 16 = none := by kernel_rfl
@[go_sem] theorem isStr_16 : isStr Try.prog 16 = false := by kernel_rfl
@[go_sem] theorem isBool_16 : isBool Try.prog 16 = false := by kernel_rfl
@[go_sem] theorem notInt_16 : notInt Try.prog 16 = true := by kernel_rfl
@[go_sem] theorem zk_16 : zk Try.prog 16 = some [Value.pointer none] := by kernel_rfl
@[go_sem] theorem tk_17 : tk Try.prog 17 = some (false, 1) := by kernel_rfl
@[go_sem] theorem und_17 : (Try.prog.underlying 17).isSome = true := by kernel_rfl
@[go_sem] theorem slk_17 : slk Try.prog 17 = none := by kernel_rfl
@[go_sem] theorem ark_17 : ark Try.prog 17 = none := by kernel_rfl
@[go_sem] theorem isStr_17 : isStr Try.prog 17 = false := by kernel_rfl
@[go_sem] theorem isBool_17 : isBool Try.prog 17 = false := by kernel_rfl
@[go_sem] theorem notInt_17 : notInt Try.prog 17 = true := by kernel_rfl
@[go_sem] theorem zk_17 : zk Try.prog 17 = some [Value.pointer none] := by kernel_rfl
@[go_sem] theorem tk_18 : tk Try.prog 18 = some (true, 1) := by kernel_rfl
@[go_sem] theorem und_18 : (Try.prog.underlying 18).isSome = true := by kernel_rfl
@[go_sem] theorem slk_18 : slk Try.prog 18 = none := by kernel_rfl
@[go_sem] theorem ark_18 : ark Try.prog 18 = none := by kernel_rfl
@[go_sem] theorem isStr_18 : isStr Try.prog 18 = false := by kernel_rfl
@[go_sem] theorem isBool_18 : isBool Try.prog 18 = false := by kernel_rfl
@[go_sem] theorem notInt_18 : notInt Try.prog 18 = true := by kernel_rfl
@[go_sem] theorem flk_18 : flk Try.prog 18 = some [(0, 1)] := by kernel_rfl
@[go_sem] theorem zk_18 : zk Try.prog 18 = some [Value.pointer none] := by kernel_rfl
@[go_sem] theorem fdk_18_0 : fdk Try.prog 18 0 = some (0, false, 1) := by kernel_rfl
@[go_sem] theorem tk_19 : tk Try.prog 19 = some (true, 1) := by kernel_rfl
@[go_sem] theorem und_19 : (Try.prog.underlying 19).isSome = true := by kernel_rfl
@[go_sem] theorem slk_19 : slk Try.prog 19 = none := by kernel_rfl
@[go_sem] theorem ark_19 : ark Try.prog 19 = none := by kernel_rfl
@[go_sem] theorem isStr_19 : isStr Try.prog 19 = false := by kernel_rfl
@[go_sem] theorem isBool_19 : isBool Try.prog 19 = false := by kernel_rfl
@[go_sem] theorem notInt_19 : notInt Try.prog 19 = true := by kernel_rfl
@[go_sem] theorem flk_19 : flk Try.prog 19 = some [(0, 1)] := by kernel_rfl
@[go_sem] theorem zk_19 : zk Try.prog 19 = some [Value.pointer none] := by kernel_rfl
@[go_sem] theorem fdk_19_0 : fdk Try.prog 19 0 = some (0, false, 1) := by kernel_rfl
@[go_sem] theorem tk_20 : tk Try.prog 20 = some (false, 1) := by kernel_rfl
@[go_sem] theorem und_20 : (Try.prog.underlying 20).isSome = true := by kernel_rfl
@[go_sem] theorem slk_20 : slk Try.prog 20 = none := by kernel_rfl
@[go_sem] theorem ark_20 : ark Try.prog 20 = none := by kernel_rfl
@[go_sem] theorem isStr_20 : isStr Try.prog 20 = false := by kernel_rfl
@[go_sem] theorem isBool_20 : isBool Try.prog 20 = false := by kernel_rfl
@[go_sem] theorem notInt_20 : notInt Try.prog 20 = true := by kernel_rfl
@[go_sem] theorem zk_20 : zk Try.prog 20 = some [Value.nilIface] := by kernel_rfl
@[go_sem] theorem tk_21 : tk Try.prog 21 = some (false, 1) := by kernel_rfl
@[go_sem] theorem und_21 : (Try.prog.underlying 21).isSome = true := by kernel_rfl
@[go_sem] theorem slk_21 : slk Try.prog 21 = none := by kernel_rfl
@[go_sem] theorem ark_21 : ark Try.prog 21 = none := by kernel_rfl
@[go_sem] theorem isStr_21 : isStr Try.prog 21 = false := by kernel_rfl
@[go_sem] theorem isBool_21 : isBool Try.prog 21 = false := by kernel_rfl
@[go_sem] theorem ik_21 : ik Try.prog 21 = some IntKind.i32 := by kernel_rfl
@[go_sem] theorem notInt_21 : notInt Try.prog 21 = false := by kernel_rfl
@[go_sem] theorem zk_21 : zk Try.prog 21 = some [Value.int IntKind.i32 (Int.ofNat 0)] := by kernel_rfl
@[go_sem] theorem tk_22 : tk Try.prog 22 = some (false, 1) := by kernel_rfl
@[go_sem] theorem und_22 : (Try.prog.underlying 22).isSome = true := by kernel_rfl
@[go_sem] theorem slk_22 : slk Try.prog 22 = some (28, 1, 24) := by kernel_rfl
@[go_sem] theorem ark_22 : ark Try.prog 22 = none := by kernel_rfl
@[go_sem] theorem isStr_22 : isStr Try.prog 22 = false := by kernel_rfl
@[go_sem] theorem isBool_22 : isBool Try.prog 22 = false := by kernel_rfl
@[go_sem] theorem notInt_22 : notInt Try.prog 22 = true := by kernel_rfl
@[go_sem] theorem zk_22 : zk Try.prog 22 = some [Value.slice none 0 0] := by kernel_rfl
@[go_sem] theorem elemZ_22 : elemZ Try.prog 22 = some [Value.slice none 0 0] := by kernel_rfl
@[go_sem] theorem tk_23 : tk Try.prog 23 = some (false, 1) := by kernel_rfl
@[go_sem] theorem und_23 : (Try.prog.underlying 23).isSome = true := by kernel_rfl
@[go_sem] theorem slk_23 : slk Try.prog 23 = none := by kernel_rfl
@[go_sem] theorem ark_23 : ark Try.prog 23 = none := by kernel_rfl
@[go_sem] theorem isStr_23 : isStr Try.prog 23 = false := by kernel_rfl
@[go_sem] theorem isBool_23 : isBool Try.prog 23 = false := by kernel_rfl
@[go_sem] theorem notInt_23 : notInt Try.prog 23 = true := by kernel_rfl
@[go_sem] theorem zk_23 : zk Try.prog 23 = some [Value.nilFunc] := by kernel_rfl
@[go_sem] theorem tk_24 : tk Try.prog 24 = some (false, 1) := by kernel_rfl
@[go_sem] theorem und_24 : (Try.prog.underlying 24).isSome = true := by kernel_rfl
@[go_sem] theorem slk_24 : slk Try.prog 24 = none := by kernel_rfl
@[go_sem] theorem ark_24 : ark Try.prog 24 = none := by kernel_rfl
@[go_sem] theorem isStr_24 : isStr Try.prog 24 = false := by kernel_rfl
@[go_sem] theorem isBool_24 : isBool Try.prog 24 = false := by kernel_rfl
@[go_sem] theorem ik_24 : ik Try.prog 24 = some IntKind.i64 := by kernel_rfl
@[go_sem] theorem notInt_24 : notInt Try.prog 24 = false := by kernel_rfl
@[go_sem] theorem zk_24 : zk Try.prog 24 = some [Value.int IntKind.i64 (Int.ofNat 0)] := by kernel_rfl
@[go_sem] theorem tk_25 : tk Try.prog 25 = some (false, 1) := by kernel_rfl
@[go_sem] theorem und_25 : (Try.prog.underlying 25).isSome = true := by kernel_rfl
@[go_sem] theorem slk_25 : slk Try.prog 25 = none := by kernel_rfl
@[go_sem] theorem ark_25 : ark Try.prog 25 = none := by kernel_rfl
@[go_sem] theorem isStr_25 : isStr Try.prog 25 = false := by kernel_rfl
@[go_sem] theorem isBool_25 : isBool Try.prog 25 = false := by kernel_rfl
@[go_sem] theorem notInt_25 : notInt Try.prog 25 = true := by kernel_rfl
@[go_sem] theorem zk_25 : zk Try.prog 25 = some [Value.nilFunc] := by kernel_rfl
@[go_sem] theorem tk_26 : tk Try.prog 26 = some (false, 1) := by kernel_rfl
@[go_sem] theorem und_26 : (Try.prog.underlying 26).isSome = true := by kernel_rfl
@[go_sem] theorem slk_26 : slk Try.prog 26 = none := by kernel_rfl
@[go_sem] theorem ark_26 : ark Try.prog 26 = none := by kernel_rfl
@[go_sem] theorem isStr_26 : isStr Try.prog 26 = false := by kernel_rfl
@[go_sem] theorem isBool_26 : isBool Try.prog 26 = false := by kernel_rfl
@[go_sem] theorem notInt_26 : notInt Try.prog 26 = true := by kernel_rfl
@[go_sem] theorem zk_26 : zk Try.prog 26 = some [Value.nilFunc] := by kernel_rfl
@[go_sem] theorem tk_27 : tk Try.prog 27 = some (false, 1) := by kernel_rfl
@[go_sem] theorem und_27 : (Try.prog.underlying 27).isSome = true := by kernel_rfl
@[go_sem] theorem slk_27 : slk Try.prog 27 = some (3, 1, 8) := by kernel_rfl
@[go_sem] theorem ark_27 : ark Try.prog 27 = none := by kernel_rfl
@[go_sem] theorem isStr_27 : isStr Try.prog 27 = false := by kernel_rfl
@[go_sem] theorem isBool_27 : isBool Try.prog 27 = false := by kernel_rfl
@[go_sem] theorem notInt_27 : notInt Try.prog 27 = true := by kernel_rfl
@[go_sem] theorem zk_27 : zk Try.prog 27 = some [Value.slice none 0 0] := by kernel_rfl
@[go_sem] theorem elemZ_27 : elemZ Try.prog 27 = some [Value.int IntKind.i64 (Int.ofNat 0)] := by kernel_rfl
@[go_sem] theorem tk_28 : tk Try.prog 28 = some (false, 1) := by kernel_rfl
@[go_sem] theorem und_28 : (Try.prog.underlying 28).isSome = true := by kernel_rfl
@[go_sem] theorem slk_28 : slk Try.prog 28 = some (2, 1, 8) := by kernel_rfl
@[go_sem] theorem ark_28 : ark Try.prog 28 = none := by kernel_rfl
@[go_sem] theorem isStr_28 : isStr Try.prog 28 = false := by kernel_rfl
@[go_sem] theorem isBool_28 : isBool Try.prog 28 = false := by kernel_rfl
@[go_sem] theorem notInt_28 : notInt Try.prog 28 = true := by kernel_rfl
@[go_sem] theorem zk_28 : zk Try.prog 28 = some [Value.slice none 0 0] := by kernel_rfl
@[go_sem] theorem elemZ_28 : elemZ Try.prog 28 = some [Value.int IntKind.i64 (Int.ofNat 0)] := by kernel_rfl
@[go_sem] theorem tk_29 : tk Try.prog 29 = some (false, 1) := by kernel_rfl
@[go_sem] theorem und_29 : (Try.prog.underlying 29).isSome = true := by kernel_rfl
@[go_sem] theorem slk_29 : slk Try.prog 29 = none := by kernel_rfl
@[go_sem] theorem ark_29 : ark Try.prog 29 = none := by kernel_rfl
@[go_sem] theorem isStr_29 : isStr Try.prog 29 = false := by kernel_rfl
@[go_sem] theorem isBool_29 : isBool Try.prog 29 = false := by kernel_rfl
@[go_sem] theorem notInt_29 : notInt Try.prog 29 = true := by kernel_rfl
@[go_sem] theorem zk_29 : zk Try.prog 29 = some [Value.tuple { toList := [Value.slice none 0 0, Value.int IntKind.i64 (Int.ofNat 0), Value.slice none 0 0, Value.slice none 0 0, Value.int IntKind.i64 (Int.ofNat 0)] }] := by kernel_rfl
@[go_sem] theorem tk_30 : tk Try.prog 30 = some (false, 1) := by kernel_rfl
@[go_sem] theorem und_30 : (Try.prog.underlying 30).isSome = true := by kernel_rfl
@[go_sem] theorem slk_30 : slk Try.prog 30 = none := by kernel_rfl
@[go_sem] theorem ark_30 : ark Try.prog 30 = none := by kernel_rfl
@[go_sem] theorem isStr_30 : isStr Try.prog 30 = false := by kernel_rfl
@[go_sem] theorem isBool_30 : isBool Try.prog 30 = false := by kernel_rfl
@[go_sem] theorem notInt_30 : notInt Try.prog 30 = true := by kernel_rfl
@[go_sem] theorem zk_30 : zk Try.prog 30 = some [Value.nilFunc] := by kernel_rfl
@[go_sem] theorem tk_31 : tk Try.prog 31 = some (false, 1) := by kernel_rfl
@[go_sem] theorem und_31 : (Try.prog.underlying 31).isSome = true := by kernel_rfl
@[go_sem] theorem slk_31 : slk Try.prog 31 = none := by kernel_rfl
@[go_sem] theorem ark_31 : ark Try.prog 31 = none := by kernel_rfl
@[go_sem] theorem isStr_31 : isStr Try.prog 31 = false := by kernel_rfl
@[go_sem] theorem isBool_31 : isBool Try.prog 31 = false := by kernel_rfl
@[go_sem] theorem notInt_31 : notInt Try.prog 31 = true := by kernel_rfl
@[go_sem] theorem zk_31 : zk Try.prog 31 = some [Value.nilFunc] := by kernel_rfl
@[go_sem] theorem tk_32 : tk Try.prog 32 = some (false, 1) := by kernel_rfl
@[go_sem] theorem und_32 : (Try.prog.underlying 32).isSome = true := by kernel_rfl
@[go_sem] theorem slk_32 : slk Try.prog 32 = none := by kernel_rfl
@[go_sem] theorem ark_32 : ark Try.prog 32 = none := by kernel_rfl
@[go_sem] theorem isStr_32 : isStr Try.prog 32 = false := by kernel_rfl
@[go_sem] theorem isBool_32 : isBool Try.prog 32 = false := by kernel_rfl
@[go_sem] theorem notInt_32 : notInt Try.prog 32 = true := by kernel_rfl
@[go_sem] theorem zk_32 : zk Try.prog 32 = some [Value.nilFunc] := by kernel_rfl
@[go_sem] theorem tk_33 : tk Try.prog 33 = some (true, 2) := by kernel_rfl
@[go_sem] theorem und_33 : (Try.prog.underlying 33).isSome = true := by kernel_rfl
@[go_sem] theorem slk_33 : slk Try.prog 33 = none := by kernel_rfl
@[go_sem] theorem ark_33 : ark Try.prog 33 = some (2, 1) := by kernel_rfl
@[go_sem] theorem isStr_33 : isStr Try.prog 33 = false := by kernel_rfl
@[go_sem] theorem isBool_33 : isBool Try.prog 33 = false := by kernel_rfl
@[go_sem] theorem notInt_33 : notInt Try.prog 33 = true := by kernel_rfl
@[go_sem] theorem zk_33 : zk Try.prog 33 = some [Value.slice none 0 0, Value.slice none 0 0] := by kernel_rfl
@[go_sem] theorem tk_34 : tk Try.prog 34 = some (false, 1) := by kernel_rfl
@[go_sem] theorem und_34 : (Try.prog.underlying 34).isSome = true := by kernel_rfl
@[go_sem] theorem slk_34 : slk Try.prog 34 = none := by kernel_rfl
@[go_sem] theorem ark_34 : ark Try.prog 34 = none := by kernel_rfl
@[go_sem] theorem isStr_34 : isStr Try.prog 34 = false := by kernel_rfl
@[go_sem] theorem isBool_34 : isBool Try.prog 34 = false := by kernel_rfl
@[go_sem] theorem notInt_34 : notInt Try.prog 34 = true := by kernel_rfl
@[go_sem] theorem zk_34 : zk Try.prog 34 = some [Value.nilFunc] := by kernel_rfl
@[go_sem] theorem tk_35 : tk Try.prog 35 = some (false, 1) := by kernel_rfl
@[go_sem] theorem und_35 : (Try.prog.underlying 35).isSome = true := by kernel_rfl
@[go_sem] theorem slk_35 : slk Try.prog 35 = none := by kernel_rfl
@[go_sem] theorem ark_35 : ark Try.prog 35 = none := by kernel_rfl
@[go_sem] theorem isStr_35 : isStr Try.prog 35 = false := by kernel_rfl
@[go_sem] theorem isBool_35 : isBool Try.prog 35 = false := by kernel_rfl
@[go_sem] theorem notInt_35 : notInt Try.prog 35 = true := by kernel_rfl
@[go_sem] theorem zk_35 : zk Try.prog 35 = some [Value.nilFunc] := by kernel_rfl
@[go_sem] theorem tk_36 : tk Try.prog 36 = some (false, 1) := by kernel_rfl
@[go_sem] theorem und_36 : (Try.prog.underlying 36).isSome = true := by kernel_rfl
@[go_sem] theorem slk_36 : slk Try.prog 36 = none := by kernel_rfl
@[go_sem] theorem ark_36 : ark Try.prog 36 = none := by kernel_rfl
@[go_sem] theorem isStr_36 : isStr Try.prog 36 = false := by kernel_rfl
@[go_sem] theorem isBool_36 : isBool Try.prog 36 = false := by kernel_rfl
@[go_sem] theorem notInt_36 : notInt Try.prog 36 = true := by kernel_rfl
@[go_sem] theorem zk_36 : zk Try.prog 36 = some [Value.nilFunc] := by kernel_rfl
@[go_sem] theorem tk_37 : tk Try.prog 37 = some (false, 1) := by kernel_rfl
@[go_sem] theorem und_37 : (Try.prog.underlying 37).isSome = true := by kernel_rfl
@[go_sem] theorem slk_37 : slk Try.prog 37 = none := by kernel_rfl
@[go_sem] theorem ark_37 : ark Try.prog 37 = none := by kernel_rfl
@[go_sem] theorem isStr_37 : isStr Try.prog 37 = false := by kernel_rfl
@[go_sem] theorem isBool_37 : isBool Try.prog 37 = false := by kernel_rfl
@[go_sem] theorem notInt_37 : notInt Try.prog 37 = true := by kernel_rfl
@[go_sem] theorem zk_37 : zk Try.prog 37 = some [Value.nilFunc] := by kernel_rfl
@[go_sem] theorem tk_38 : tk Try.prog 38 = some (false, 1) := by kernel_rfl
@[go_sem] theorem und_38 : (Try.prog.underlying 38).isSome = true := by kernel_rfl
@[go_sem] theorem slk_38 : slk Try.prog 38 = none := by kernel_rfl
@[go_sem] theorem ark_38 : ark Try.prog 38 = none := by kernel_rfl
@[go_sem] theorem isStr_38 : isStr Try.prog 38 = false := by kernel_rfl
@[go_sem] theorem isBool_38 : isBool Try.prog 38 = false := by kernel_rfl
@[go_sem] theorem notInt_38 : notInt Try.prog 38 = true := by kernel_rfl
@[go_sem] theorem zk_38 : zk Try.prog 38 = some [Value.tuple { toList := [Value.slice none 0 0, Value.int IntKind.i64 (Int.ofNat 0), Value.int IntKind.i64 (Int.ofNat 0)] }] := by kernel_rfl
@[go_sem] theorem tk_39 : tk Try.prog 39 = some (false, 1) := by kernel_rfl
@[go_sem] theorem und_39 : (Try.prog.underlying 39).isSome = true := by kernel_rfl
@[go_sem] theorem slk_39 : slk Try.prog 39 = none := by kernel_rfl
@[go_sem] theorem ark_39 : ark Try.prog 39 = none := by kernel_rfl
@[go_sem] theorem isStr_39 : isStr Try.prog 39 = false := by kernel_rfl
@[go_sem] theorem isBool_39 : isBool Try.prog 39 = false := by kernel_rfl
@[go_sem] theorem notInt_39 : notInt Try.prog 39 = true := by kernel_rfl
@[go_sem] theorem zk_39 : zk Try.prog 39 = some [Value.nilFunc] := by kernel_rfl
@[go_sem] theorem tk_40 : tk Try.prog 40 = some (false, 1) := by kernel_rfl
@[go_sem] theorem und_40 : (Try.prog.underlying 40).isSome = true := by kernel_rfl
@[go_sem] theorem slk_40 : slk Try.prog 40 = none := by kernel_rfl
@[go_sem] theorem ark_40 : ark Try.prog 40 = none := by kernel_rfl
@[go_sem] theorem isStr_40 : isStr Try.prog 40 = false := by kernel_rfl
@[go_sem] theorem isBool_40 : isBool Try.prog 40 = false := by kernel_rfl
@[go_sem] theorem notInt_40 : notInt Try.prog 40 = true := by kernel_rfl
@[go_sem] theorem zk_40 : zk Try.prog 40 = some [Value.tuple { toList := [Value.int IntKind.i64 (Int.ofNat 0), Value.bool false] }] := by kernel_rfl
@[go_sem] theorem tk_41 : tk Try.prog 41 = some (false, 1) := by kernel_rfl
@[go_sem] theorem und_41 : (Try.prog.underlying 41).isSome = true := by kernel_rfl
@[go_sem] theorem slk_41 : slk Try.prog 41 = none := by kernel_rfl
@[go_sem] theorem ark_41 : ark Try.prog 41 = none := by kernel_rfl
@[go_sem] theorem isStr_41 : isStr Try.prog 41 = false := by kernel_rfl
@[go_sem] theorem isBool_41 : isBool Try.prog 41 = false := by kernel_rfl
@[go_sem] theorem notInt_41 : notInt Try.prog 41 = true := by kernel_rfl
@[go_sem] theorem zk_41 : zk Try.prog 41 = some [Value.nilFunc] := by kernel_rfl
@[go_sem] theorem tk_42 : tk Try.prog 42 = some (false, 1) := by kernel_rfl
@[go_sem] theorem und_42 : (Try.prog.underlying 42).isSome = true := by kernel_rfl
@[go_sem] theorem slk_42 : slk Try.prog 42 = none := by kernel_rfl
@[go_sem] theorem ark_42 : ark Try.prog 42 = none := by kernel_rfl
@[go_sem] theorem isStr_42 : isStr Try.prog 42 = false := by kernel_rfl
@[go_sem] theorem isBool_42 : isBool Try.prog 42 = false := by kernel_rfl
@[go_sem] theorem ik_42 : ik Try.prog 42 = some IntKind.i16 := by kernel_rfl
@[go_sem] theorem notInt_42 : notInt Try.prog 42 = false := by kernel_rfl
@[go_sem] theorem zk_42 : zk Try.prog 42 = some [Value.int IntKind.i16 (Int.ofNat 0)] := by kernel_rfl
@[go_sem] theorem tk_43 : tk Try.prog 43 = some (false, 1) := by kernel_rfl
@[go_sem] theorem und_43 : (Try.prog.underlying 43).isSome = true := by kernel_rfl
@[go_sem] theorem slk_43 : slk Try.prog 43 = none := by kernel_rfl
@[go_sem] theorem ark_43 : ark Try.prog 43 = none := by kernel_rfl
@[go_sem] theorem isStr_43 : isStr Try.prog 43 = false := by kernel_rfl
@[go_sem] theorem isBool_43 : isBool Try.prog 43 = false := by kernel_rfl
@[go_sem] theorem notInt_43 : notInt Try.prog 43 = true := by kernel_rfl
@[go_sem] theorem zk_43 : zk Try.prog 43 = some [Value.nilFunc] := by kernel_rfl
@[go_sem] theorem tk_44 : tk Try.prog 44 = some (false, 1) := by kernel_rfl
@[go_sem] theorem und_44 : (Try.prog.underlying 44).isSome = true := by kernel_rfl
@[go_sem] theorem slk_44 : slk Try.prog 44 = none := by kernel_rfl
@[go_sem] theorem ark_44 : ark Try.prog 44 = none := by kernel_rfl
@[go_sem] theorem isStr_44 : isStr Try.prog 44 = false := by kernel_rfl
@[go_sem] theorem isBool_44 : isBool Try.prog 44 = false := by kernel_rfl
@[go_sem] theorem notInt_44 : notInt Try.prog 44 = true := by kernel_rfl
@[go_sem] theorem zk_44 : zk Try.prog 44 = some [Value.tuple { toList := [Value.int IntKind.i64 (Int.ofNat 0), Value.int IntKind.i64 (Int.ofNat 0)] }] := by kernel_rfl
@[go_sem] theorem tk_45 : tk Try.prog 45 = some (false, 1) := by kernel_rfl
@[go_sem] theorem und_45 : (Try.prog.underlying 45).isSome = true := by kernel_rfl
@[go_sem] theorem slk_45 : slk Try.prog 45 = none := by kernel_rfl
@[go_sem] theorem ark_45 : ark Try.prog 45 = none := by kernel_rfl
@[go_sem] theorem isStr_45 : isStr Try.prog 45 = false := by kernel_rfl
@[go_sem] theorem isBool_45 : isBool Try.prog 45 = false := by kernel_rfl
@[go_sem] theorem notInt_45 : notInt Try.prog 45 = true := by kernel_rfl
@[go_sem] theorem zk_45 : zk Try.prog 45 = some [Value.nilFunc] := by kernel_rfl
@[go_sem] theorem tk_46 : tk Try.prog 46 = some (false, 1) := by kernel_rfl
@[go_sem] theorem und_46 : (Try.prog.underlying 46).isSome = true := by kernel_rfl
@[go_sem] theorem slk_46 : slk Try.prog 46 = none := by kernel_rfl
@[go_sem] theorem ark_46 : ark Try.prog 46 = none := by kernel_rfl
@[go_sem] theorem isStr_46 : isStr Try.prog 46 = false := by kernel_rfl
@[go_sem] theorem isBool_46 : isBool Try.prog 46 = false := by kernel_rfl
@[go_sem] theorem notInt_46 : notInt Try.prog 46 = true := by kernel_rfl
@[go_sem] theorem zk_46 : zk Try.prog 46 = some [Value.nilFunc] := by kernel_rfl
@[go_sem] theorem tk_47 : tk Try.prog 47 = some (false, 1) := by kernel_rfl
@[go_sem] theorem und_47 : (Try.prog.underlying 47).isSome = true := by kernel_rfl
@[go_sem] theorem slk_47 : slk Try.prog 47 = none := by kernel_rfl
@[go_sem] theorem ark_47 : ark Try.prog 47 = none := by kernel_rfl
@[go_sem] theorem isStr_47 : isStr Try.prog 47 = false := by kernel_rfl
@[go_sem] theorem isBool_47 : isBool Try.prog 47 = false := by kernel_rfl
@[go_sem] theorem notInt_47 : notInt Try.prog 47 = true := by kernel_rfl
@[go_sem] theorem zk_47 : zk Try.prog 47 = some [Value.nilFunc] := by kernel_rfl
@[go_sem] theorem tk_48 : tk Try.prog 48 = some (false, 1) := by kernel_rfl
@[go_sem] theorem und_48 : (Try.prog.underlying 48).isSome = true := by kernel_rfl
@[go_sem] theorem slk_48 : slk Try.prog 48 = none := by kernel_rfl
@[go_sem] theorem ark_48 : ark Try.prog 48 = none := by kernel_rfl
@[go_sem] theorem isStr_48 : isStr Try.prog 48 = false := by kernel_rfl
@[go_sem] theorem isBool_48 : isBool Try.prog 48 = false := by kernel_rfl
@[go_sem] theorem notInt_48 : notInt Try.prog 48 = true := by kernel_rfl
@[go_sem] theorem zk_48 : zk Try.prog 48 = some [Value.nilFunc] := by kernel_rfl
@[go_sem] theorem tk_49 : tk Try.prog 49 = some (false, 1) := by kernel_rfl
@[go_sem] theorem und_49 : (Try.prog.underlying 49).isSome = true := by kernel_rfl
@[go_sem] theorem slk_49 : slk Try.prog 49 = none := by kernel_rfl
@[go_sem] theorem ark_49 : ark Try.prog 49 = none := by kernel_rfl
@[go_sem] theorem isStr_49 : isStr Try.prog 49 = false := by kernel_rfl
@[go_sem] theorem isBool_49 : isBool Try.prog 49 = false := by kernel_rfl
@[go_sem] theorem notInt_49 : notInt Try.prog 49 = true := by kernel_rfl
@[go_sem] theorem zk_49 : zk Try.prog 49 = some [Value.pointer none] := by kernel_rfl
@[go_sem] theorem tk_50 : tk Try.prog 50 = some (false, 1) := by kernel_rfl
@[go_sem] theorem und_50 : (Try.prog.underlying 50).isSome = true := by kernel_rfl
@[go_sem] theorem slk_50 : slk Try.prog 50 = none := by kernel_rfl
@[go_sem] theorem ark_50 : ark Try.prog 50 = none := by kernel_rfl
@[go_sem] theorem isStr_50 : isStr Try.prog 50 = false := by kernel_rfl
@[go_sem] theorem isBool_50 : isBool Try.prog 50 = false := by kernel_rfl
@[go_sem] theorem notInt_50 : notInt Try.prog 50 = true := by kernel_rfl
@[go_sem] theorem zk_50 : zk Try.prog 50 = some [Value.nilFunc] := by kernel_rfl
@[go_sem] theorem tk_51 : tk Try.prog 51 = some (false, 1) := by kernel_rfl
@[go_sem] theorem und_51 : (Try.prog.underlying 51).isSome = true := by kernel_rfl
@[go_sem] theorem slk_51 : slk Try.prog 51 = none := by kernel_rfl
@[go_sem] theorem ark_51 : ark Try.prog 51 = none := by kernel_rfl
@[go_sem] theorem isStr_51 : isStr Try.prog 51 = false := by kernel_rfl
@[go_sem] theorem isBool_51 : isBool Try.prog 51 = false := by kernel_rfl
@[go_sem] theorem notInt_51 : notInt Try.prog 51 = true := by kernel_rfl
@[go_sem] theorem zk_51 : zk Try.prog 51 = some [Value.nilFunc] := by kernel_rfl
@[go_sem] theorem tk_52 : tk Try.prog 52 = some (true, 4) := by kernel_rfl
@[go_sem] theorem und_52 : (Try.prog.underlying 52).isSome = true := by kernel_rfl
@[go_sem] theorem slk_52 : slk Try.prog 52 = none := by kernel_rfl
@[go_sem] theorem ark_52 : ark Try.prog 52 = none := by kernel_rfl
@[go_sem] theorem isStr_52 : isStr Try.prog 52 = false := by kernel_rfl
@[go_sem] theorem isBool_52 : isBool Try.prog 52 = false := by kernel_rfl
@[go_sem] theorem notInt_52 : notInt Try.prog 52 = true := by kernel_rfl
@[go_sem] theorem flk_52 : flk Try.prog 52 = some [(0, 1), (1, 1), (2, 1), (3, 1)] := by kernel_rfl
@[go_sem] theorem zk_52 : zk Try.prog 52 = some [Value.slice none 0 0, Value.slice none 0 0, Value.slice none 0 0, Value.slice none 0 0] := by kernel_rfl
@[go_sem] theorem fdk_52_0 : fdk Try.prog 52 0 = some (0, false, 1) := by kernel_rfl
@[go_sem] theorem fdk_52_1 : fdk Try.prog 52 1 = some (1, false, 1) := by kernel_rfl
@[go_sem] theorem fdk_52_2 : fdk Try.prog 52 2 = some (2, false, 1) := by kernel_rfl
@[go_sem] theorem fdk_52_3 : fdk Try.prog 52 3 = some (3, false, 1) := by kernel_rfl
@[go_sem] theorem tk_53 : tk Try.prog 53 = some (true, 4) := by kernel_rfl
@[go_sem] theorem und_53 : (Try.prog.underlying 53).isSome = true := by kernel_rfl
@[go_sem] theorem slk_53 : slk Try.prog 53 = none := by kernel_rfl
@[go_sem] theorem ark_53 : ark Try.prog 53 = none := by kernel_rfl
@[go_sem] theorem isStr_53 : isStr Try.prog 53 = false := by kernel_rfl
@[go_sem] theorem isBool_53 : isBool Try.prog 53 = false := by kernel_rfl
@[go_sem] theorem notInt_53 : notInt Try.prog 53 = true := by kernel_rfl
@[go_sem] theorem flk_53 : flk Try.prog 53 = some [(0, 1), (1, 1), (2, 1), (3, 1)] := by kernel_rfl
@[go_sem] theorem zk_53 : zk Try.prog 53 = some [Value.slice none 0 0, Value.slice none 0 0, Value.slice none 0 0, Value.slice none 0 0] := by kernel_rfl
@[go_sem] theorem fdk_53_0 : fdk Try.prog 53 0 = some (0, false, 1) := by kernel_rfl
@[go_sem] theorem fdk_53_1 : fdk Try.prog 53 1 = some (1, false, 1) := by kernel_rfl
@[go_sem] theorem fdk_53_2 : fdk Try.prog 53 2 = some (2, false, 1) := by kernel_rfl
@[go_sem] theorem fdk_53_3 : fdk Try.prog 53 3 = some (3, false, 1) := by kernel_rfl
@[go_sem] theorem tk_54 : tk Try.prog 54 = some (false, 1) := by kernel_rfl
@[go_sem] theorem und_54 : (Try.prog.underlying 54).isSome = true := by kernel_rfl
@[go_sem] theorem slk_54 : slk Try.prog 54 = none := by kernel_rfl
@[go_sem] theorem ark_54 : ark Try.prog 54 = none := by kernel_rfl
@[go_sem] theorem isStr_54 : isStr Try.prog 54 = false := by kernel_rfl
@[go_sem] theorem isBool_54 : isBool Try.prog 54 = false := by kernel_rfl
@[go_sem] theorem notInt_54 : notInt Try.prog 54 = true := by kernel_rfl
@[go_sem] theorem zk_54 : zk Try.prog 54 = some [Value.nilFunc] := by kernel_rfl
@[go_sem] theorem tk_55 : tk Try.prog 55 = some (false, 1) := by kernel_rfl
@[go_sem] theorem und_55 : (Try.prog.underlying 55).isSome = true := by kernel_rfl
@[go_sem] theorem slk_55 : slk Try.prog 55 = none := by kernel_rfl
@[go_sem] theorem ark_55 : ark Try.prog 55 = none := by kernel_rfl
@[go_sem] theorem isStr_55 : isStr Try.prog 55 = false := by kernel_rfl
@[go_sem] theorem isBool_55 : isBool Try.prog 55 = false := by kernel_rfl
@[go_sem] theorem notInt_55 : notInt Try.prog 55 = true := by kernel_rfl
@[go_sem] theorem zk_55 : zk Try.prog 55 = some [Value.nilFunc] := by kernel_rfl
@[go_sem] theorem tk_56 : tk Try.prog 56 = some (false, 1) := by kernel_rfl
@[go_sem] theorem und_56 : (Try.prog.underlying 56).isSome = true := by kernel_rfl
@[go_sem] theorem slk_56 : slk Try.prog 56 = none := by kernel_rfl
@[go_sem] theorem ark_56 : ark Try.prog 56 = none := by kernel_rfl
@[go_sem] theorem isStr_56 : isStr Try.prog 56 = false := by kernel_rfl
@[go_sem] theorem isBool_56 : isBool Try.prog 56 = false := by kernel_rfl
@[go_sem] theorem notInt_56 : notInt Try.prog 56 = true := by kernel_rfl
@[go_sem] theorem zk_56 : zk Try.prog 56 = some [Value.nilFunc] := by kernel_rfl
@[go_sem] theorem tk_57 : tk Try.prog 57 = some (false, 1) := by kernel_rfl
@[go_sem] theorem und_57 : (Try.prog.underlying 57).isSome = true := by kernel_rfl
@[go_sem] theorem slk_57 : slk Try.prog 57 = none := by kernel_rfl
@[go_sem] theorem ark_57 : ark Try.prog 57 = none := by kernel_rfl
@[go_sem] theorem isStr_57 : isStr Try.prog 57 = false := by kernel_rfl
@[go_sem] theorem isBool_57 : isBool Try.prog 57 = false := by kernel_rfl
@[go_sem] theorem notInt_57 : notInt Try.prog 57 = true := by kernel_rfl
@[go_sem] theorem zk_57 : zk Try.prog 57 = some [Value.nilFunc] := by kernel_rfl
@[go_sem] theorem tk_58 : tk Try.prog 58 = some (false, 1) := by kernel_rfl
@[go_sem] theorem und_58 : (Try.prog.underlying 58).isSome = true := by kernel_rfl
@[go_sem] theorem slk_58 : slk Try.prog 58 = none := by kernel_rfl
@[go_sem] theorem ark_58 : ark Try.prog 58 = none := by kernel_rfl
@[go_sem] theorem isStr_58 : isStr Try.prog 58 = false := by kernel_rfl
@[go_sem] theorem isBool_58 : isBool Try.prog 58 = false := by kernel_rfl
@[go_sem] theorem notInt_58 : notInt Try.prog 58 = true := by kernel_rfl
@[go_sem] theorem zk_58 : zk Try.prog 58 = some [Value.nilFunc] := by kernel_rfl
@[go_sem] theorem tk_59 : tk Try.prog 59 = some (false, 1) := by kernel_rfl
@[go_sem] theorem und_59 : (Try.prog.underlying 59).isSome = true := by kernel_rfl
@[go_sem] theorem slk_59 : slk Try.prog 59 = none := by kernel_rfl
@[go_sem] theorem ark_59 : ark Try.prog 59 = none := by kernel_rfl
@[go_sem] theorem isStr_59 : isStr Try.prog 59 = false := by kernel_rfl
@[go_sem] theorem isBool_59 : isBool Try.prog 59 = false := by kernel_rfl
@[go_sem] theorem notInt_59 : notInt Try.prog 59 = true := by kernel_rfl
@[go_sem] theorem zk_59 : zk Try.prog 59 = some [Value.nilFunc] := by kernel_rfl
@[go_sem] theorem tk_60 : tk Try.prog 60 = some (false, 1) := by kernel_rfl
@[go_sem] theorem und_60 : (Try.prog.underlying 60).isSome = true := by kernel_rfl
@[go_sem] theorem slk_60 : slk Try.prog 60 = none := by kernel_rfl
@[go_sem] theorem ark_60 : ark Try.prog 60 = none := by kernel_rfl
@[go_sem] theorem isStr_60 : isStr Try.prog 60 = false := by kernel_rfl
@[go_sem] theorem isBool_60 : isBool Try.prog 60 = false := by kernel_rfl
@[go_sem] theorem notInt_60 : notInt Try.prog 60 = true := by kernel_rfl
@[go_sem] theorem zk_60 : zk Try.prog 60 = some [Value.nilFunc] := by kernel_rfl
@[go_sem] theorem tk_61 : tk Try.prog 61 = some (false, 1) := by kernel_rfl
@[go_sem] theorem und_61 : (Try.prog.underlying 61).isSome = true := by kernel_rfl
@[go_sem] theorem slk_61 : slk Try.prog 61 = none := by kernel_rfl
@[go_sem] theorem ark_61 : ark Try.prog 61 = none := by kernel_rfl
@[go_sem] theorem isStr_61 : isStr Try.prog 61 = false := by kernel_rfl
@[go_sem] theorem isBool_61 : isBool Try.prog 61 = false := by kernel_rfl
@[go_sem] theorem notInt_61 : notInt Try.prog 61 = true := by kernel_rfl
@[go_sem] theorem zk_61 : zk Try.prog 61 = some [Value.nilFunc] := by kernel_rfl
@[go_sem] theorem tk_62 : tk Try.prog 62 = some (false, 1) := by kernel_rfl
@[go_sem] theorem und_62 : (Try.prog.underlying 62).isSome = true := by kernel_rfl
@[go_sem] theorem slk_62 : slk Try.prog 62 = none := by kernel_rfl
@[go_sem] theorem ark_62 : ark Try.prog 62 = none := by kernel_rfl
@[go_sem] theorem isStr_62 : isStr Try.prog 62 = false := by kernel_rfl
@[go_sem] theorem isBool_62 : isBool Try.prog 62 = false := by kernel_rfl
@[go_sem] theorem notInt_62 : notInt Try.prog 62 = true := by kernel_rfl
@[go_sem] theorem zk_62 : zk Try.prog 62 = some [Value.nilFunc] := by kernel_rfl
@[go_sem] theorem tk_63 : tk Try.prog 63 = some (false, 1) := by kernel_rfl
@[go_sem] theorem und_63 : (Try.prog.underlying 63).isSome = true := by kernel_rfl
@[go_sem] theorem slk_63 : slk Try.prog 63 = none := by kernel_rfl
@[go_sem] theorem ark_63 : ark Try.prog 63 = none := by kernel_rfl
@[go_sem] theorem isStr_63 : isStr Try.prog 63 = false := by kernel_rfl
@[go_sem] theorem isBool_63 : isBool Try.prog 63 = false := by kernel_rfl
@[go_sem] theorem notInt_63 : notInt Try.prog 63 = true := by kernel_rfl
@[go_sem] theorem zk_63 : zk Try.prog 63 = some [Value.nilFunc] := by kernel_rfl
@[go_sem] theorem tk_64 : tk Try.prog 64 = some (false, 1) := by kernel_rfl
@[go_sem] theorem und_64 : (Try.prog.underlying 64).isSome = true := by kernel_rfl
@[go_sem] theorem slk_64 : slk Try.prog 64 = some (4, 1, 1) := by kernel_rfl
@[go_sem] theorem ark_64 : ark Try.prog 64 = none := by kernel_rfl
@[go_sem] theorem isStr_64 : isStr Try.prog 64 = false := by kernel_rfl
@[go_sem] theorem isBool_64 : isBool Try.prog 64 = false := by kernel_rfl
@[go_sem] theorem notInt_64 : notInt Try.prog 64 = true := by kernel_rfl
@[go_sem] theorem zk_64 : zk Try.prog 64 = some [Value.slice none 0 0] := by kernel_rfl
@[go_sem] theorem elemZ_64 : elemZ Try.prog 64 = some [Value.bool false] := by kernel_rfl
@[go_sem] theorem tk_65 : tk Try.prog 65 = some (false, 1) := by kernel_rfl
@[go_sem] theorem und_65 : (Try.prog.underlying 65).isSome = true := by kernel_rfl
@[go_sem] theorem slk_65 : slk Try.prog 65 = none := by kernel_rfl
@[go_sem] theorem ark_65 : ark Try.prog 65 = none := by kernel_rfl
@[go_sem] theorem isStr_65 : isStr Try.prog 65 = false := by kernel_rfl
@[go_sem] theorem isBool_65 : isBool Try.prog 65 = false := by kernel_rfl
@[go_sem] theorem notInt_65 : notInt Try.prog 65 = true := by kernel_rfl
@[go_sem] theorem zk_65 : zk Try.prog 65 = some [Value.nilFunc] := by kernel_rfl
@[go_sem] theorem tk_66 : tk Try.prog 66 = some (false, 1) := by kernel_rfl
@[go_sem] theorem und_66 : (Try.prog.underlying 66).isSome = true := by kernel_rfl
@[go_sem] theorem slk_66 : slk Try.prog 66 = none := by kernel_rfl
@[go_sem] theorem ark_66 : ark Try.prog 66 = none := by kernel_rfl
@[go_sem] theorem isStr_66 : isStr Try.prog 66 = false := by kernel_rfl
@[go_sem] theorem isBool_66 : isBool Try.prog 66 = false := by kernel_rfl
@[go_sem] theorem notInt_66 : notInt Try.prog 66 = true := by kernel_rfl
@[go_sem] theorem zk_66 : zk Try.prog 66 = some [Value.nilFunc] := by kernel_rfl
@[go_sem] theorem tk_67 : tk Try.prog 67 = some (false, 1) := by kernel_rfl
@[go_sem] theorem und_67 : (Try.prog.underlying 67).isSome = true := by kernel_rfl
@[go_sem] theorem slk_67 : slk Try.prog 67 = none := by kernel_rfl
@[go_sem] theorem ark_67 : ark Try.prog 67 = none := by kernel_rfl
@[go_sem] theorem isStr_67 : isStr Try.prog 67 = false := by kernel_rfl
@[go_sem] theorem isBool_67 : isBool Try.prog 67 = false := by kernel_rfl
@[go_sem] theorem notInt_67 : notInt Try.prog 67 = true := by kernel_rfl
@[go_sem] theorem zk_67 : zk Try.prog 67 = some [Value.nilFunc] := by kernel_rfl
@[go_sem] theorem tk_68 : tk Try.prog 68 = some (false, 1) := by kernel_rfl
@[go_sem] theorem und_68 : (Try.prog.underlying 68).isSome = true := by kernel_rfl
@[go_sem] theorem slk_68 : slk Try.prog 68 = none := by kernel_rfl
@[go_sem] theorem ark_68 : ark Try.prog 68 = none := by kernel_rfl
@[go_sem] theorem isStr_68 : isStr Try.prog 68 = false := by kernel_rfl
@[go_sem] theorem isBool_68 : isBool Try.prog 68 = false := by kernel_rfl
@[go_sem] theorem notInt_68 : notInt Try.prog 68 = true := by kernel_rfl
@[go_sem] theorem zk_68 : zk Try.prog 68 = some [Value.nilFunc] := by kernel_rfl
@[go_sem] theorem tk_69 : tk Try.prog 69 = some (false, 1) := by kernel_rfl
@[go_sem] theorem und_69 : (Try.prog.underlying 69).isSome = true := by kernel_rfl
@[go_sem] theorem slk_69 : slk Try.prog 69 = none := by kernel_rfl
@[go_sem] theorem ark_69 : ark Try.prog 69 = none := by kernel_rfl
@[go_sem] theorem isStr_69 : isStr Try.prog 69 = false := by kernel_rfl
@[go_sem] theorem isBool_69 : isBool Try.prog 69 = false := by kernel_rfl
@[go_sem] theorem notInt_69 : notInt Try.prog 69 = true := by kernel_rfl
@[go_sem] theorem zk_69 : zk Try.prog 69 = some [Value.nilFunc] := by kernel_rfl
@[go_sem] theorem tk_70 : tk Try.prog 70 = some (true, 4) := by kernel_rfl
@[go_sem] theorem und_70 : (Try.prog.underlying 70).isSome = true := by kernel_rfl
@[go_sem] theorem slk_70 : slk Try.prog 70 = none := by kernel_rfl
@[go_sem] theorem ark_70 : ark Try.prog 70 = none := by kernel_rfl
@[go_sem] theorem isStr_70 : isStr Try.prog 70 = false := by kernel_rfl
@[go_sem] theorem isBool_70 : isBool Try.prog 70 = false := by kernel_rfl
@[go_sem] theorem notInt_70 : notInt Try.prog 70 = true := by kernel_rfl
@[go_sem] theorem flk_70 : flk Try.prog 70 = some [(0, 1), (1, 1), (2, 1), (3, 1)] := by kernel_rfl
@[go_sem] theorem zk_70 : zk Try.prog 70 = some [Value.pointer none, Value.pointer none, Value.pointer none, Value.string { data := { toList := [] } }] := by kernel_rfl
@[go_sem] theorem fdk_70_0 : fdk Try.prog 70 0 = some (0, false, 1) := by kernel_rfl
@[go_sem] theorem fdk_70_1 : fdk Try.prog 70 1 = some (1, false, 1) := by kernel_rfl
@[go_sem] theorem fdk_70_2 : fdk Try.prog 70 2 = some (2, false, 1) := by kernel_rfl
@[go_sem] theorem fdk_70_3 : fdk Try.prog 70 3 = some (3, false, 1) := by kernel_rfl
@[go_sem] theorem tk_71 : tk Try.prog 71 = some (true, 4) := by kernel_rfl
@[go_sem] theorem und_71 : (Try.prog.underlying 71).isSome = true := by kernel_rfl
@[go_sem] theorem slk_71 : slk Try.prog 71 = none := by kernel_rfl
@[go_sem] theorem ark_71 : ark Try.prog 71 = none := by kernel_rfl
@[go_sem] theorem isStr_71 : isStr Try.prog 71 = false := by kernel_rfl
@[go_sem] theorem isBool_71 : isBool Try.prog 71 = false := by kernel_rfl
@[go_sem] theorem notInt_71 : notInt Try.prog 71 = true := by kernel_rfl
@[go_sem] theorem flk_71 : flk Try.prog 71 = some [(0, 1), (1, 1), (2, 1), (3, 1)] := by kernel_rfl
@[go_sem] theorem zk_71 : zk Try.prog 71 = some [Value.pointer none, Value.pointer none, Value.pointer none, Value.string { data := { toList := [] } }] := by kernel_rfl
@[go_sem] theorem fdk_71_0 : fdk Try.prog 71 0 = some (0, false, 1) := by kernel_rfl
@[go_sem] theorem fdk_71_1 : fdk Try.prog 71 1 = some (1, false, 1) := by kernel_rfl
@[go_sem] theorem fdk_71_2 : fdk Try.prog 71 2 = some (2, false, 1) := by kernel_rfl
@[go_sem] theorem fdk_71_3 : fdk Try.prog 71 3 = some (3, false, 1) := by kernel_rfl
@[go_sem] theorem tk_72 : tk Try.prog 72 = some (true, 0) := by kernel_rfl
@[go_sem] theorem und_72 : (Try.prog.underlying 72).isSome = true := by kernel_rfl
@[go_sem] theorem slk_72 : slk Try.prog 72 = none := by kernel_rfl
@[go_sem] theorem ark_72 : ark Try.prog 72 = some (0, 1) := by kernel_rfl
@[go_sem] theorem isStr_72 : isStr Try.prog 72 = false := by kernel_rfl
@[go_sem] theorem isBool_72 : isBool Try.prog 72 = false := by kernel_rfl
@[go_sem] theorem notInt_72 : notInt Try.prog 72 = true := by kernel_rfl
@[go_sem] theorem zk_72 : zk Try.prog 72 = some [] := by kernel_rfl
@[go_sem] theorem tk_73 : tk Try.prog 73 = some (true, 0) := by kernel_rfl
@[go_sem] theorem und_73 : (Try.prog.underlying 73).isSome = true := by kernel_rfl
@[go_sem] theorem slk_73 : slk Try.prog 73 = none := by kernel_rfl
@[go_sem] theorem ark_73 : ark Try.prog 73 = none := by kernel_rfl
@[go_sem] theorem isStr_73 : isStr Try.prog 73 = false := by kernel_rfl
@[go_sem] theorem isBool_73 : isBool Try.prog 73 = false := by kernel_rfl
@[go_sem] theorem notInt_73 : notInt Try.prog 73 = true := by kernel_rfl
@[go_sem] theorem flk_73 : flk Try.prog 73 = some [(0, 0)] := by kernel_rfl
@[go_sem] theorem zk_73 : zk Try.prog 73 = some [] := by kernel_rfl
@[go_sem] theorem fdk_73_0 : fdk Try.prog 73 0 = some (0, true, 0) := by kernel_rfl
@[go_sem] theorem tk_74 : tk Try.prog 74 = some (true, 0) := by kernel_rfl
@[go_sem] theorem und_74 : (Try.prog.underlying 74).isSome = true := by kernel_rfl
@[go_sem] theorem slk_74 : slk Try.prog 74 = none := by kernel_rfl
@[go_sem] theorem ark_74 : ark Try.prog 74 = none := by kernel_rfl
@[go_sem] theorem isStr_74 : isStr Try.prog 74 = false := by kernel_rfl
@[go_sem] theorem isBool_74 : isBool Try.prog 74 = false := by kernel_rfl
@[go_sem] theorem notInt_74 : notInt Try.prog 74 = true := by kernel_rfl
@[go_sem] theorem flk_74 : flk Try.prog 74 = some [(0, 0)] := by kernel_rfl
@[go_sem] theorem zk_74 : zk Try.prog 74 = some [] := by kernel_rfl
@[go_sem] theorem fdk_74_0 : fdk Try.prog 74 0 = some (0, true, 0) := by kernel_rfl
@[go_sem] theorem tk_75 : tk Try.prog 75 = some (false, 1) := by kernel_rfl
@[go_sem] theorem und_75 : (Try.prog.underlying 75).isSome = true := by kernel_rfl
@[go_sem] theorem slk_75 : slk Try.prog 75 = none := by kernel_rfl
@[go_sem] theorem ark_75 : ark Try.prog 75 = none := by kernel_rfl
@[go_sem] theorem isStr_75 : isStr Try.prog 75 = false := by kernel_rfl
@[go_sem] theorem isBool_75 : isBool Try.prog 75 = false := by kernel_rfl
@[go_sem] theorem notInt_75 : notInt Try.prog 75 = true := by kernel_rfl
@[go_sem] theorem zk_75 : zk Try.prog 75 = some [Value.nilFunc] := by kernel_rfl
@[go_sem] theorem tk_76 : tk Try.prog 76 = some (false, 1) := by kernel_rfl
@[go_sem] theorem und_76 : (Try.prog.underlying 76).isSome = true := by kernel_rfl
@[go_sem] theorem slk_76 : slk Try.prog 76 = none := by kernel_rfl
@[go_sem] theorem ark_76 : ark Try.prog 76 = none := by kernel_rfl
@[go_sem] theorem isStr_76 : isStr Try.prog 76 = false := by kernel_rfl
@[go_sem] theorem isBool_76 : isBool Try.prog 76 = false := by kernel_rfl
@[go_sem] theorem ik_76 : ik Try.prog 76 = some IntKind.u32 := by kernel_rfl
@[go_sem] theorem notInt_76 : notInt Try.prog 76 = false := by kernel_rfl
@[go_sem] theorem zk_76 : zk Try.prog 76 = some [Value.int IntKind.u32 (Int.ofNat 0)] := by kernel_rfl
@[go_sem] theorem tk_77 : tk Try.prog 77 = some (false, 1) := by kernel_rfl
@[go_sem] theorem und_77 : (Try.prog.underlying 77).isSome = true := by kernel_rfl
@[go_sem] theorem slk_77 : slk Try.prog 77 = none := by kernel_rfl
@[go_sem] theorem ark_77 : ark Try.prog 77 = none := by kernel_rfl
@[go_sem] theorem isStr_77 : isStr Try.prog 77 = false := by kernel_rfl
@[go_sem] theorem isBool_77 : isBool Try.prog 77 = false := by kernel_rfl
@[go_sem] theorem ik_77 : ik Try.prog 77 = some IntKind.u8 := by kernel_rfl
@[go_sem] theorem notInt_77 : notInt Try.prog 77 = false := by kernel_rfl
@[go_sem] theorem zk_77 : zk Try.prog 77 = some [Value.int IntKind.u8 (Int.ofNat 0)] := by kernel_rfl
@[go_sem] theorem tk_78 : tk Try.prog 78 = some (false, 1) := by kernel_rfl
@[go_sem] theorem und_78 : (Try.prog.underlying 78).isSome = true := by kernel_rfl
@[go_sem] theorem slk_78 : slk Try.prog 78 = none := by kernel_rfl
@[go_sem] theorem ark_78 : ark Try.prog 78 = none := by kernel_rfl
@[go_sem] theorem isStr_78 : isStr Try.prog 78 = false := by kernel_rfl
@[go_sem] theorem isBool_78 : isBool Try.prog 78 = false := by kernel_rfl
@[go_sem] theorem ik_78 : ik Try.prog 78 = some IntKind.u8 := by kernel_rfl
@[go_sem] theorem notInt_78 : notInt Try.prog 78 = false := by kernel_rfl
@[go_sem] theorem zk_78 : zk Try.prog 78 = some [Value.int IntKind.u8 (Int.ofNat 0)] := by kernel_rfl
@[go_sem] theorem tk_79 : tk Try.prog 79 = some (false, 1) := by kernel_rfl
@[go_sem] theorem und_79 : (Try.prog.underlying 79).isSome = true := by kernel_rfl
@[go_sem] theorem slk_79 : slk Try.prog 79 = none := by kernel_rfl
@[go_sem] theorem ark_79 : ark Try.prog 79 = none := by kernel_rfl
@[go_sem] theorem isStr_79 : isStr Try.prog 79 = false := by kernel_rfl
@[go_sem] theorem isBool_79 : isBool Try.prog 79 = false := by kernel_rfl
@[go_sem] theorem notInt_79 : notInt Try.prog 79 = true := by kernel_rfl
@[go_sem] theorem zk_79 : zk Try.prog 79 = some [Value.nilFunc] := by kernel_rfl
@[go_sem] theorem tk_80 : tk Try.prog 80 = some (false, 1) := by kernel_rfl
@[go_sem] theorem und_80 : (Try.prog.underlying 80).isSome = true := by kernel_rfl
@[go_sem] theorem slk_80 : slk Try.prog 80 = none := by kernel_rfl
@[go_sem] theorem ark_80 : ark Try.prog 80 = none := by kernel_rfl
@[go_sem] theorem isStr_80 : isStr Try.prog 80 = false := by kernel_rfl
@[go_sem] theorem isBool_80 : isBool Try.prog 80 = false := by kernel_rfl
@[go_sem] theorem notInt_80 : notInt Try.prog 80 = true := by kernel_rfl
@[go_sem] theorem zk_80 : zk Try.prog 80 = some [Value.pointer none] := by kernel_rfl
@[go_sem] theorem tk_81 : tk Try.prog 81 = some (false, 1) := by kernel_rfl
@[go_sem] theorem und_81 : (Try.prog.underlying 81).isSome = true := by kernel_rfl
@[go_sem] theorem slk_81 : slk Try.prog 81 = none := by kernel_rfl
@[go_sem] theorem ark_81 : ark Try.prog 81 = none := by kernel_rfl
@[go_sem] theorem isStr_81 : isStr Try.prog 81 = false := by kernel_rfl
@[go_sem] theorem isBool_81 : isBool Try.prog 81 = false := by kernel_rfl
@[go_sem] theorem ik_81 : ik Try.prog 81 = some IntKind.i32 := by kernel_rfl
@[go_sem] theorem notInt_81 : notInt Try.prog 81 = false := by kernel_rfl
@[go_sem] theorem zk_81 : zk Try.prog 81 = some [Value.int IntKind.i32 (Int.ofNat 0)] := by kernel_rfl
@[go_sem] theorem tk_82 : tk Try.prog 82 = some (false, 1) := by kernel_rfl
@[go_sem] theorem und_82 : (Try.prog.underlying 82).isSome = true := by kernel_rfl
@[go_sem] theorem slk_82 : slk Try.prog 82 = none := by kernel_rfl
@[go_sem] theorem ark_82 : ark Try.prog 82 = none := by kernel_rfl
@[go_sem] theorem isStr_82 : isStr Try.prog 82 = false := by kernel_rfl
@[go_sem] theorem isBool_82 : isBool Try.prog 82 = false := by kernel_rfl
@[go_sem] theorem ik_82 : ik Try.prog 82 = some IntKind.i32 := by kernel_rfl
@[go_sem] theorem notInt_82 : notInt Try.prog 82 = false := by kernel_rfl
@[go_sem] theorem zk_82 : zk Try.prog 82 = some [Value.int IntKind.i32 (Int.ofNat 0)] := by kernel_rfl
@[go_sem] theorem tk_83 : tk Try.prog 83 = some (true, 11) := by kernel_rfl
@[go_sem] theorem und_83 : (Try.prog.underlying 83).isSome = true := by kernel_rfl
@[go_sem] theorem slk_83 : slk Try.prog 83 = none := by kernel_rfl
@[go_sem] theorem ark_83 : ark Try.prog 83 = none := by kernel_rfl
@[go_sem] theorem isStr_83 : isStr Try.prog 83 = false := by kernel_rfl
@[go_sem] theorem isBool_83 : isBool Try.prog 83 = false := by kernel_rfl
@[go_sem] theorem notInt_83 : notInt Try.prog 83 = true := by kernel_rfl
@[go_sem] theorem flk_83 : flk Try.prog 83 = some [(0, 1), (1, 1), (2, 1), (3, 1), (4, 1), (5, 1), (6, 1), (7, 1), (8, 1), (9, 1), (10, 1)] := by kernel_rfl
@[go_sem] theorem zk_83 : zk Try.prog 83 = some [Value.int IntKind.u64 (Int.ofNat 0), Value.int IntKind.u64 (Int.ofNat 0), Value.int IntKind.u32 (Int.ofNat 0), Value.int IntKind.u8 (Int.ofNat 0), Value.int IntKind.u8 (Int.ofNat 0), Value.int IntKind.u8 (Int.ofNat 0), Value.int IntKind.u8 (Int.ofNat 0), Value.nilFunc, Value.pointer none, Value.int IntKind.i32 (Int.ofNat 0), Value.int IntKind.i32 (Int.ofNat 0)] := by kernel_rfl
@[go_sem] theorem fdk_83_0 : fdk Try.prog 83 0 = some (0, false, 1) := by kernel_rfl
@[go_sem] theorem fdk_83_1 : fdk Try.prog 83 1 = some (1, false, 1) := by kernel_rfl
@[go_sem] theorem fdk_83_2 : fdk Try.prog 83 2 = some (2, false, 1) := by kernel_rfl
@[go_sem] theorem fdk_83_3 : fdk Try.prog 83 3 = some (3, false, 1) := by kernel_rfl
@[go_sem] theorem fdk_83_4 : fdk Try.prog 83 4 = some (4, false, 1) := by kernel_rfl
@[go_sem] theorem fdk_83_5 : fdk Try.prog 83 5 = some (5, false, 1) := by kernel_rfl
@[go_sem] theorem fdk_83_6 : fdk Try.prog 83 6 = some (6, false, 1) := by kernel_rfl
@[go_sem] theorem fdk_83_7 : fdk Try.prog 83 7 = some (7, false, 1) := by kernel_rfl
@[go_sem] theorem fdk_83_8 : fdk Try.prog 83 8 = some (8, false, 1) := by kernel_rfl
@[go_sem] theorem fdk_83_9 : fdk Try.prog 83 9 = some (9, false, 1) := by kernel_rfl
@[go_sem] theorem fdk_83_10 : fdk Try.prog 83 10 = some (10, false, 1) := by kernel_rfl
@[go_sem] theorem tk_84 : tk Try.prog 84 = some (true, 11) := by kernel_rfl
@[go_sem] theorem und_84 : (Try.prog.underlying 84).isSome = true := by kernel_rfl
@[go_sem] theorem slk_84 : slk Try.prog 84 = none := by kernel_rfl
@[go_sem] theorem ark_84 : ark Try.prog 84 = none := by kernel_rfl
@[go_sem] theorem isStr_84 : isStr Try.prog 84 = false := by kernel_rfl
@[go_sem] theorem isBool_84 : isBool Try.prog 84 = false := by kernel_rfl
@[go_sem] theorem notInt_84 : notInt Try.prog 84 = true := by kernel_rfl
@[go_sem] theorem flk_84 : flk Try.prog 84 = some [(0, 1), (1, 1), (2, 1), (3, 1), (4, 1), (5, 1), (6, 1), (7, 1), (8, 1), (9, 1), (10, 1)] := by kernel_rfl
@[go_sem] theorem zk_84 : zk Try.prog 84 = some [Value.int IntKind.u64 (Int.ofNat 0), Value.int IntKind.u64 (Int.ofNat 0), Value.int IntKind.u32 (Int.ofNat 0), Value.int IntKind.u8 (Int.ofNat 0), Value.int IntKind.u8 (Int.ofNat 0), Value.int IntKind.u8 (Int.ofNat 0), Value.int IntKind.u8 (Int.ofNat 0), Value.nilFunc, Value.pointer none, Value.int IntKind.i32 (Int.ofNat 0), Value.int IntKind.i32 (Int.ofNat 0)] := by kernel_rfl
@[go_sem] theorem fdk_84_0 : fdk Try.prog 84 0 = some (0, false, 1) := by kernel_rfl
@[go_sem] theorem fdk_84_1 : fdk Try.prog 84 1 = some (1, false, 1) := by kernel_rfl
@[go_sem] theorem fdk_84_2 : fdk Try.prog 84 2 = some (2, false, 1) := by kernel_rfl
@[go_sem] theorem fdk_84_3 : fdk Try.prog 84 3 = some (3, false, 1) := by kernel_rfl
@[go_sem] theorem fdk_84_4 : fdk Try.prog 84 4 = some (4, false, 1) := by kernel_rfl
@[go_sem] theorem fdk_84_5 : fdk Try.prog 84 5 = some (5, false, 1) := by kernel_rfl
@[go_sem] theorem fdk_84_6 : fdk Try.prog 84 6 = some (6, false, 1) := by kernel_rfl
@[go_sem] theorem fdk_84_7 : fdk Try.prog 84 7 = some (7, false, 1) := by kernel_rfl
@[go_sem] theorem fdk_84_8 : fdk Try.prog 84 8 = some (8, false, 1) := by kernel_rfl
@[go_sem] theorem fdk_84_9 : fdk Try.prog 84 9 = some (9, false, 1) := by kernel_rfl
@[go_sem] theorem fdk_84_10 : fdk Try.prog 84 10 = some (10, false, 1) := by kernel_rfl
@[go_sem] theorem tk_85 : tk Try.prog 85 = some (false, 1) := by kernel_rfl
@[go_sem] theorem und_85 : (Try.prog.underlying 85).isSome = true := by kernel_rfl
@[go_sem] theorem slk_85 : slk Try.prog 85 = none := by kernel_rfl
@[go_sem] theorem ark_85 : ark Try.prog 85 = none := by kernel_rfl
@[go_sem] theorem isStr_85 : isStr Try.prog 85 = false := by kernel_rfl
@[go_sem] theorem isBool_85 : isBool Try.prog 85 = false := by kernel_rfl
@[go_sem] theorem notInt_85 : notInt Try.prog 85 = true := by kernel_rfl
@[go_sem] theorem zk_85 : zk Try.prog 85 = some [Value.pointer none] := by kernel_rfl
end Go.Proofs.Ytockdinjmnkdoaa
