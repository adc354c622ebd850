/- What the tables of this program say of its types. -/
import Derived.Test.YtblfodnajpamfaaGreatDoorZ3
import Derived.Test.YtblfodnajpamfaaGreatDoorProg
import Derived.KernelRfl
namespace Go.Proofs.YtblfodnajpamfaaGreatDoor
open Go Go.Ab
@[go_sem] theorem tk_2 : tk Tryz.prog 2 = some (false, 1) := by kernel_rfl
@[go_sem] theorem isStr_2 : isStr Tryz.prog 2 = false := by kernel_rfl
@[go_sem] theorem ik_2 : ik Tryz.prog 2 = some IntKind.i64 := by kernel_rfl
@[go_sem] theorem tk_3 : tk Tryz.prog 3 = some (false, 1) := by kernel_rfl
@[go_sem] theorem isStr_3 : isStr Tryz.prog 3 = false := by kernel_rfl
@[go_sem] theorem isBool_3 : isBool Tryz.prog 3 = false := by kernel_rfl
@[go_sem] theorem ik_3 : ik Tryz.prog 3 = some IntKind.i64 := by kernel_rfl
@[go_sem] theorem isIf_3 : isIf Tryz.prog 3 = false := by kernel_rfl
@[go_sem] theorem tk_5 : tk Tryz.prog 5 = some (false, 1) := by kernel_rfl
@[go_sem] theorem und_5 : (Tryz.prog.underlying 5).isSome = true := by kernel_rfl
@[go_sem] theorem bsl_5 : bsl Tryz.prog 5 = false := by kernel_rfl
@[go_sem] theorem tk_9 : tk Tryz.prog 9 = some (false, 1) := by kernel_rfl
@[go_sem] theorem slk_9 : slk Tryz.prog 9 = none := by kernel_rfl
@[go_sem] theorem ark_9 : ark Tryz.prog 9 = none := by kernel_rfl
@[go_sem] theorem isStr_9 : isStr Tryz.prog 9 = true := by kernel_rfl
@[go_sem] theorem isIf_9 : isIf Tryz.prog 9 = false := by kernel_rfl
@[go_sem] theorem slk_23 : slk Tryz.prog 23 = some (80, 3, 32) := by kernel_rfl
@[go_sem] theorem ark_23 : ark Tryz.prog 23 = none := by kernel_rfl
@[go_sem] theorem isStr_23 : isStr Tryz.prog 23 = false := by kernel_rfl
@[go_sem] theorem slk_24 : slk Tryz.prog 24 = some (27, 4, 56) := by kernel_rfl
@[go_sem] theorem ark_24 : ark Tryz.prog 24 = none := by kernel_rfl
@[go_sem] theorem isStr_24 : isStr Tryz.prog 24 = false := by kernel_rfl
@[go_sem] theorem tk_25 : tk Tryz.prog 25 = some (false, 1) := by kernel_rfl
@[go_sem] theorem slk_25 : slk Tryz.prog 25 = some (5, 1, 1) := by kernel_rfl
@[go_sem] theorem ark_25 : ark Tryz.prog 25 = none := by kernel_rfl
@[go_sem] theorem isStr_25 : isStr Tryz.prog 25 = false := by kernel_rfl
@[go_sem] theorem tk_27 : tk Tryz.prog 27 = some (true, 4) := by kernel_rfl
@[go_sem] theorem fdk_27_0 : fdk Tryz.prog 27 0 = some (0, false, 1) := by kernel_rfl
@[go_sem] theorem fdk_27_1 : fdk Tryz.prog 27 1 = some (1, false, 1) := by kernel_rfl
@[go_sem] theorem fdk_27_2 : fdk Tryz.prog 27 2 = some (2, false, 1) := by kernel_rfl
@[go_sem] theorem fdk_27_3 : fdk Tryz.prog 27 3 = some (3, false, 1) := by kernel_rfl
@[go_sem] theorem tk_28 : tk Tryz.prog 28 = some (false, 1) := by kernel_rfl
@[go_sem] theorem slk_28 : slk Tryz.prog 28 = some (75, 3, 64) := by kernel_rfl
@[go_sem] theorem ark_28 : ark Tryz.prog 28 = none := by kernel_rfl
@[go_sem] theorem isStr_28 : isStr Tryz.prog 28 = false := by kernel_rfl
@[go_sem] theorem notInt_28 : notInt Tryz.prog 28 = true := by kernel_rfl
@[go_sem] theorem elemZ_28 : elemZ Tryz.prog 28 = some [Value.string { data := { toList := [] } }, Value.slice none 0 0, Value.slice none 0 0] := by kernel_rfl
@[go_sem] theorem tk_30 : tk Tryz.prog 30 = some (true, 1) := by kernel_rfl
@[go_sem] theorem flk_30 : flk Tryz.prog 30 = some [(0, 1)] := by kernel_rfl
@[go_sem] theorem zk_30 : zk Tryz.prog 30 = some [Value.slice none 0 0] := by kernel_rfl
@[go_sem] theorem bldk_30 : bldk Tryz.prog 30 = false := by kernel_rfl
@[go_sem] theorem fdk_30_0 : fdk Tryz.prog 30 0 = some (0, false, 1) := by kernel_rfl
@[go_sem] theorem slk_33 : slk Tryz.prog 33 = some (39, 4, 80) := by kernel_rfl
@[go_sem] theorem ark_33 : ark Tryz.prog 33 = none := by kernel_rfl
@[go_sem] theorem isStr_33 : isStr Tryz.prog 33 = false := by kernel_rfl
@[go_sem] theorem notInt_33 : notInt Tryz.prog 33 = true := by kernel_rfl
@[go_sem] theorem elemZ_33 : elemZ Tryz.prog 33 = some [Value.string { data := { toList := [] } }, Value.slice none 0 0, Value.string { data := { toList := [] } }, Value.slice none 0 0] := by kernel_rfl
@[go_sem] theorem tk_37 : tk Tryz.prog 37 = some (false, 1) := by kernel_rfl
@[go_sem] theorem slk_37 : slk Tryz.prog 37 = some (3, 1, 8) := by kernel_rfl
@[go_sem] theorem ark_37 : ark Tryz.prog 37 = none := by kernel_rfl
@[go_sem] theorem isStr_37 : isStr Tryz.prog 37 = false := by kernel_rfl
@[go_sem] theorem notInt_37 : notInt Tryz.prog 37 = true := by kernel_rfl
@[go_sem] theorem elemZ_37 : elemZ Tryz.prog 37 = some [Value.int IntKind.i64 (Int.ofNat 0)] := by kernel_rfl
@[go_sem] theorem tk_39 : tk Tryz.prog 39 = some (true, 4) := by kernel_rfl
@[go_sem] theorem flk_39 : flk Tryz.prog 39 = some [(0, 1), (1, 1), (2, 1), (3, 1)] := by kernel_rfl
@[go_sem] theorem zk_39 : zk Tryz.prog 39 = some [Value.string { data := { toList := [] } }, Value.slice none 0 0, Value.string { data := { toList := [] } }, Value.slice none 0 0] := by kernel_rfl
@[go_sem] theorem bldk_39 : bldk Tryz.prog 39 = false := by kernel_rfl
@[go_sem] theorem fdk_39_0 : fdk Tryz.prog 39 0 = some (0, false, 1) := by kernel_rfl
@[go_sem] theorem fdk_39_1 : fdk Tryz.prog 39 1 = some (1, false, 1) := by kernel_rfl
@[go_sem] theorem fdk_39_2 : fdk Tryz.prog 39 2 = some (2, false, 1) := by kernel_rfl
@[go_sem] theorem fdk_39_3 : fdk Tryz.prog 39 3 = some (3, false, 1) := by kernel_rfl
@[go_sem] theorem slk_41 : slk Tryz.prog 41 = some (88, 2, 32) := by kernel_rfl
@[go_sem] theorem ark_41 : ark Tryz.prog 41 = none := by kernel_rfl
@[go_sem] theorem isStr_41 : isStr Tryz.prog 41 = false := by kernel_rfl
@[go_sem] theorem notInt_41 : notInt Tryz.prog 41 = true := by kernel_rfl
@[go_sem] theorem elemZ_41 : elemZ Tryz.prog 41 = some [Value.int IntKind.i64 (Int.ofNat 0), Value.slice none 0 0] := by kernel_rfl
@[go_sem] theorem isBool_42 : isBool Tryz.prog 42 = false := by kernel_rfl
@[go_sem] theorem isIf_42 : isIf Tryz.prog 42 = false := by kernel_rfl
@[go_sem] theorem tk_68 : tk Tryz.prog 68 = some (false, 1) := by kernel_rfl
@[go_sem] theorem slk_68 : slk Tryz.prog 68 = some (2, 1, 8) := by kernel_rfl
@[go_sem] theorem ark_68 : ark Tryz.prog 68 = none := by kernel_rfl
@[go_sem] theorem isStr_68 : isStr Tryz.prog 68 = false := by kernel_rfl
@[go_sem] theorem notInt_68 : notInt Tryz.prog 68 = true := by kernel_rfl
@[go_sem] theorem elemZ_68 : elemZ Tryz.prog 68 = some [Value.int IntKind.i64 (Int.ofNat 0)] := by kernel_rfl
@[go_sem] theorem tk_72 : tk Tryz.prog 72 = some (false, 1) := by kernel_rfl
@[go_sem] theorem slk_72 : slk Tryz.prog 72 = some (9, 1, 16) := by kernel_rfl
@[go_sem] theorem ark_72 : ark Tryz.prog 72 = none := by kernel_rfl
@[go_sem] theorem isStr_72 : isStr Tryz.prog 72 = false := by kernel_rfl
@[go_sem] theorem notInt_72 : notInt Tryz.prog 72 = true := by kernel_rfl
@[go_sem] theorem elemZ_72 : elemZ Tryz.prog 72 = some [Value.string { data := { toList := [] } }] := by kernel_rfl
@[go_sem] theorem tk_73 : tk Tryz.prog 73 = some (false, 1) := by kernel_rfl
@[go_sem] theorem slk_73 : slk Tryz.prog 73 = some (114, 2, 32) := by kernel_rfl
@[go_sem] theorem ark_73 : ark Tryz.prog 73 = none := by kernel_rfl
@[go_sem] theorem isStr_73 : isStr Tryz.prog 73 = false := by kernel_rfl
@[go_sem] theorem notInt_73 : notInt Tryz.prog 73 = true := by kernel_rfl
@[go_sem] theorem elemZ_73 : elemZ Tryz.prog 73 = some [Value.int IntKind.i64 (Int.ofNat 0), Value.slice none 0 0] := by kernel_rfl
@[go_sem] theorem tk_75 : tk Tryz.prog 75 = some (true, 3) := by kernel_rfl
@[go_sem] theorem flk_75 : flk Tryz.prog 75 = some [(0, 1), (1, 1), (2, 1)] := by kernel_rfl
@[go_sem] theorem zk_75 : zk Tryz.prog 75 = some [Value.string { data := { toList := [] } }, Value.slice none 0 0, Value.slice none 0 0] := by kernel_rfl
@[go_sem] theorem bldk_75 : bldk Tryz.prog 75 = false := by kernel_rfl
@[go_sem] theorem fdk_75_0 : fdk Tryz.prog 75 0 = some (0, false, 1) := by kernel_rfl
@[go_sem] theorem fdk_75_1 : fdk Tryz.prog 75 1 = some (1, false, 1) := by kernel_rfl
@[go_sem] theorem fdk_75_2 : fdk Tryz.prog 75 2 = some (2, false, 1) := by kernel_rfl
@[go_sem] theorem tk_78 : tk Tryz.prog 78 = some (false, 1) := by kernel_rfl
@[go_sem] theorem slk_78 : slk Tryz.prog 78 = some (25, 1, 24) := by kernel_rfl
@[go_sem] theorem ark_78 : ark Tryz.prog 78 = none := by kernel_rfl
@[go_sem] theorem isStr_78 : isStr Tryz.prog 78 = false := by kernel_rfl
@[go_sem] theorem tk_80 : tk Tryz.prog 80 = some (true, 3) := by kernel_rfl
@[go_sem] theorem flk_80 : flk Tryz.prog 80 = some [(0, 1), (1, 1), (2, 1)] := by kernel_rfl
@[go_sem] theorem zk_80 : zk Tryz.prog 80 = some [Value.int IntKind.u8 (Int.ofNat 0), Value.int IntKind.u8 (Int.ofNat 0), Value.slice none 0 0] := by kernel_rfl
@[go_sem] theorem fdk_80_0 : fdk Tryz.prog 80 0 = some (0, false, 1) := by kernel_rfl
@[go_sem] theorem fdk_80_1 : fdk Tryz.prog 80 1 = some (1, false, 1) := by kernel_rfl
@[go_sem] theorem fdk_80_2 : fdk Tryz.prog 80 2 = some (2, false, 1) := by kernel_rfl
@[go_sem] theorem slk_84 : slk Tryz.prog 84 = some (90, 5, 80) := by kernel_rfl
@[go_sem] theorem ark_84 : ark Tryz.prog 84 = none := by kernel_rfl
@[go_sem] theorem isStr_84 : isStr Tryz.prog 84 = false := by kernel_rfl
@[go_sem] theorem notInt_84 : notInt Tryz.prog 84 = true := by kernel_rfl
@[go_sem] theorem elemZ_84 : elemZ Tryz.prog 84 = some [Value.string { data := { toList := [] } }, Value.slice none 0 0, Value.int IntKind.i64 (Int.ofNat 0), Value.int IntKind.i64 (Int.ofNat 0), Value.slice none 0 0] := by kernel_rfl
@[go_sem] theorem tk_88 : tk Tryz.prog 88 = some (true, 2) := by kernel_rfl
@[go_sem] theorem flk_88 : flk Tryz.prog 88 = some [(0, 1), (1, 1)] := by kernel_rfl
@[go_sem] theorem zk_88 : zk Tryz.prog 88 = some [Value.int IntKind.i64 (Int.ofNat 0), Value.slice none 0 0] := by kernel_rfl
@[go_sem] theorem bldk_88 : bldk Tryz.prog 88 = false := by kernel_rfl
@[go_sem] theorem fdk_88_0 : fdk Tryz.prog 88 0 = some (0, false, 1) := by kernel_rfl
@[go_sem] theorem fdk_88_1 : fdk Tryz.prog 88 1 = some (1, false, 1) := by kernel_rfl
@[go_sem] theorem tk_90 : tk Tryz.prog 90 = some (true, 5) := by kernel_rfl
@[go_sem] theorem flk_90 : flk Tryz.prog 90 = some [(0, 1), (1, 1), (2, 1), (3, 2)] := by kernel_rfl
@[go_sem] theorem zk_90 : zk Tryz.prog 90 = some [Value.string { data := { toList := [] } }, Value.slice none 0 0, Value.int IntKind.i64 (Int.ofNat 0), Value.int IntKind.i64 (Int.ofNat 0), Value.slice none 0 0] := by kernel_rfl
@[go_sem] theorem bldk_90 : bldk Tryz.prog 90 = false := by kernel_rfl
@[go_sem] theorem fdk_90_0 : fdk Tryz.prog 90 0 = some (0, false, 1) := by kernel_rfl
@[go_sem] theorem fdk_90_1 : fdk Tryz.prog 90 1 = some (1, false, 1) := by kernel_rfl
@[go_sem] theorem fdk_90_2 : fdk Tryz.prog 90 2 = some (2, false, 1) := by kernel_rfl
@[go_sem] theorem fdk_90_3 : fdk Tryz.prog 90 3 = some (3, true, 2) := by kernel_rfl
@[go_sem] theorem slk_92 : slk Tryz.prog 92 = some (96, 3, 48) := by kernel_rfl
@[go_sem] theorem ark_92 : ark Tryz.prog 92 = none := by kernel_rfl
@[go_sem] theorem isStr_92 : isStr Tryz.prog 92 = false := by kernel_rfl
@[go_sem] theorem notInt_92 : notInt Tryz.prog 92 = true := by kernel_rfl
@[go_sem] theorem elemZ_92 : elemZ Tryz.prog 92 = some [Value.string { data := { toList := [] } }, Value.slice none 0 0, Value.int IntKind.i64 (Int.ofNat 0)] := by kernel_rfl
@[go_sem] theorem tk_96 : tk Tryz.prog 96 = some (true, 3) := by kernel_rfl
@[go_sem] theorem flk_96 : flk Tryz.prog 96 = some [(0, 1), (1, 1), (2, 1)] := by kernel_rfl
@[go_sem] theorem zk_96 : zk Tryz.prog 96 = some [Value.string { data := { toList := [] } }, Value.slice none 0 0, Value.int IntKind.i64 (Int.ofNat 0)] := by kernel_rfl
@[go_sem] theorem bldk_96 : bldk Tryz.prog 96 = false := by kernel_rfl
@[go_sem] theorem fdk_96_0 : fdk Tryz.prog 96 0 = some (0, false, 1) := by kernel_rfl
@[go_sem] theorem fdk_96_1 : fdk Tryz.prog 96 1 = some (1, false, 1) := by kernel_rfl
@[go_sem] theorem fdk_96_2 : fdk Tryz.prog 96 2 = some (2, false, 1) := by kernel_rfl
@[go_sem] theorem tk_102 : tk Tryz.prog 102 = some (false, 1) := by kernel_rfl
@[go_sem] theorem slk_102 : slk Tryz.prog 102 = some (134, 1, 24) := by kernel_rfl
@[go_sem] theorem ark_102 : ark Tryz.prog 102 = none := by kernel_rfl
@[go_sem] theorem elemZ_102 : elemZ Tryz.prog 102 = some [Value.slice none 0 0] := by kernel_rfl
@[go_sem] theorem flk_104 : flk Tryz.prog 104 = some [(0, 1), (1, 1), (2, 1)] := by kernel_rfl
@[go_sem] theorem zk_104 : zk Tryz.prog 104 = some [Value.slice none 0 0, Value.slice none 0 0, Value.int IntKind.i64 (Int.ofNat 0)] := by kernel_rfl
@[go_sem] theorem fdk_104_0 : fdk Tryz.prog 104 0 = some (0, false, 1) := by kernel_rfl
@[go_sem] theorem fdk_104_1 : fdk Tryz.prog 104 1 = some (1, false, 1) := by kernel_rfl
@[go_sem] theorem fdk_104_2 : fdk Tryz.prog 104 2 = some (2, false, 1) := by kernel_rfl
@[go_sem] theorem tk_108 : tk Tryz.prog 108 = some (false, 1) := by kernel_rfl
@[go_sem] theorem slk_108 : slk Tryz.prog 108 = some (110, 3, 32) := by kernel_rfl
@[go_sem] theorem ark_108 : ark Tryz.prog 108 = none := by kernel_rfl
@[go_sem] theorem isStr_108 : isStr Tryz.prog 108 = false := by kernel_rfl
@[go_sem] theorem notInt_108 : notInt Tryz.prog 108 = true := by kernel_rfl
@[go_sem] theorem elemZ_108 : elemZ Tryz.prog 108 = some [Value.int IntKind.i64 (Int.ofNat 0), Value.int IntKind.i64 (Int.ofNat 0), Value.string { data := { toList := [] } }] := by kernel_rfl
@[go_sem] theorem tk_110 : tk Tryz.prog 110 = some (true, 3) := by kernel_rfl
@[go_sem] theorem flk_110 : flk Tryz.prog 110 = some [(0, 1), (1, 1), (2, 1)] := by kernel_rfl
@[go_sem] theorem zk_110 : zk Tryz.prog 110 = some [Value.int IntKind.i64 (Int.ofNat 0), Value.int IntKind.i64 (Int.ofNat 0), Value.string { data := { toList := [] } }] := by kernel_rfl
@[go_sem] theorem bldk_110 : bldk Tryz.prog 110 = false := by kernel_rfl
@[go_sem] theorem fdk_110_0 : fdk Tryz.prog 110 0 = some (0, false, 1) := by kernel_rfl
@[go_sem] theorem fdk_110_1 : fdk Tryz.prog 110 1 = some (1, false, 1) := by kernel_rfl
@[go_sem] theorem fdk_110_2 : fdk Tryz.prog 110 2 = some (2, false, 1) := by kernel_rfl
@[go_sem] theorem tk_114 : tk Tryz.prog 114 = some (true, 2) := by kernel_rfl
@[go_sem] theorem flk_114 : flk Tryz.prog 114 = some [(0, 1), (1, 1)] := by kernel_rfl
@[go_sem] theorem zk_114 : zk Tryz.prog 114 = some [Value.int IntKind.i64 (Int.ofNat 0), Value.slice none 0 0] := by kernel_rfl
@[go_sem] theorem bldk_114 : bldk Tryz.prog 114 = false := by kernel_rfl
@[go_sem] theorem fdk_114_0 : fdk Tryz.prog 114 0 = some (0, false, 1) := by kernel_rfl
@[go_sem] theorem fdk_114_1 : fdk Tryz.prog 114 1 = some (1, false, 1) := by kernel_rfl
@[go_sem] theorem mtk_125 : mtk Tryz.prog 125 = some (KK.s, Value.int IntKind.i64 (Int.ofNat 0)) := by kernel_rfl
@[go_sem] theorem isMp_125 : isMp Tryz.prog 125 = true := by kernel_rfl
@[go_sem] theorem tk_134 : tk Tryz.prog 134 = some (false, 1) := by kernel_rfl
@[go_sem] theorem slk_134 : slk Tryz.prog 134 = some (68, 1, 24) := by kernel_rfl
@[go_sem] theorem ark_134 : ark Tryz.prog 134 = none := by kernel_rfl
@[go_sem] theorem isStr_134 : isStr Tryz.prog 134 = false := by kernel_rfl
@[go_sem] theorem notInt_134 : notInt Tryz.prog 134 = true := by kernel_rfl
@[go_sem] theorem elemZ_134 : elemZ Tryz.prog 134 = some [Value.slice none 0 0] := by kernel_rfl
end Go.Proofs.YtblfodnajpamfaaGreatDoor
