/- What the tables of this program say of its types. -/
import Derived.Test.YtmcmphmhjikgkaaGreatDoorZ3
import Derived.Test.YtmcmphmhjikgkaaGreatDoorProg
import Derived.KernelRfl
namespace Go.Proofs.YtmcmphmhjikgkaaGreatDoor
open Go Go.Ab
@[go_sem] theorem tk_2 : tk Tryz.prog 2 = some (false, 1) := by kernel_rfl
@[go_sem] theorem und_2 : (Tryz.prog.underlying 2).isSome = true := by kernel_rfl
@[go_sem] theorem isStr_2 : isStr Tryz.prog 2 = false := by kernel_rfl
@[go_sem] theorem ik_2 : ik Tryz.prog 2 = some IntKind.i64 := by kernel_rfl
@[go_sem] theorem bsl_2 : bsl Tryz.prog 2 = false := by kernel_rfl
@[go_sem] theorem tk_3 : tk Tryz.prog 3 = some (false, 1) := by kernel_rfl
@[go_sem] theorem und_3 : (Tryz.prog.underlying 3).isSome = true := by kernel_rfl
@[go_sem] theorem isStr_3 : isStr Tryz.prog 3 = false := by kernel_rfl
@[go_sem] theorem ik_3 : ik Tryz.prog 3 = some IntKind.i64 := by kernel_rfl
@[go_sem] theorem bsl_3 : bsl Tryz.prog 3 = false := by kernel_rfl
@[go_sem] theorem isIf_3 : isIf Tryz.prog 3 = false := by kernel_rfl
@[go_sem] theorem tk_5 : tk Tryz.prog 5 = some (false, 1) := by kernel_rfl
@[go_sem] theorem und_5 : (Tryz.prog.underlying 5).isSome = true := by kernel_rfl
@[go_sem] theorem isStr_5 : isStr Tryz.prog 5 = false := by kernel_rfl
@[go_sem] theorem ik_5 : ik Tryz.prog 5 = some IntKind.u8 := by kernel_rfl
@[go_sem] theorem bsl_5 : bsl Tryz.prog 5 = false := by kernel_rfl
@[go_sem] theorem tk_9 : tk Tryz.prog 9 = some (false, 1) := by kernel_rfl
@[go_sem] theorem slk_9 : slk Tryz.prog 9 = none := by kernel_rfl
@[go_sem] theorem ark_9 : ark Tryz.prog 9 = none := by kernel_rfl
@[go_sem] theorem isStr_9 : isStr Tryz.prog 9 = true := by kernel_rfl
@[go_sem] theorem notInt_9 : notInt Tryz.prog 9 = true := by kernel_rfl
@[go_sem] theorem isIf_9 : isIf Tryz.prog 9 = false := by kernel_rfl
@[go_sem] theorem isBool_34 : isBool Tryz.prog 34 = false := by kernel_rfl
@[go_sem] theorem isIf_34 : isIf Tryz.prog 34 = false := by kernel_rfl
@[go_sem] theorem tk_45 : tk Tryz.prog 45 = some (false, 1) := by kernel_rfl
@[go_sem] theorem slk_45 : slk Tryz.prog 45 = some (3, 1, 8) := by kernel_rfl
@[go_sem] theorem ark_45 : ark Tryz.prog 45 = none := by kernel_rfl
@[go_sem] theorem isStr_45 : isStr Tryz.prog 45 = false := by kernel_rfl
@[go_sem] theorem notInt_45 : notInt Tryz.prog 45 = true := by kernel_rfl
@[go_sem] theorem elemZ_45 : elemZ Tryz.prog 45 = some [Value.int IntKind.i64 (Int.ofNat 0)] := by kernel_rfl
@[go_sem] theorem slk_49 : slk Tryz.prog 49 = some (103, 3, 32) := by kernel_rfl
@[go_sem] theorem ark_49 : ark Tryz.prog 49 = none := by kernel_rfl
@[go_sem] theorem isStr_49 : isStr Tryz.prog 49 = false := by kernel_rfl
@[go_sem] theorem slk_50 : slk Tryz.prog 50 = some (53, 4, 56) := by kernel_rfl
@[go_sem] theorem ark_50 : ark Tryz.prog 50 = none := by kernel_rfl
@[go_sem] theorem isStr_50 : isStr Tryz.prog 50 = false := by kernel_rfl
@[go_sem] theorem tk_51 : tk Tryz.prog 51 = some (false, 1) := by kernel_rfl
@[go_sem] theorem und_51 : (Tryz.prog.underlying 51).isSome = true := by kernel_rfl
@[go_sem] theorem slk_51 : slk Tryz.prog 51 = some (5, 1, 1) := by kernel_rfl
@[go_sem] theorem ark_51 : ark Tryz.prog 51 = none := by kernel_rfl
@[go_sem] theorem isStr_51 : isStr Tryz.prog 51 = false := by kernel_rfl
@[go_sem] theorem notInt_51 : notInt Tryz.prog 51 = true := by kernel_rfl
@[go_sem] theorem elemZ_51 : elemZ Tryz.prog 51 = some [Value.int IntKind.u8 (Int.ofNat 0)] := by kernel_rfl
@[go_sem] theorem bsl_51 : bsl Tryz.prog 51 = true := by kernel_rfl
@[go_sem] theorem tk_53 : tk Tryz.prog 53 = some (true, 4) := by kernel_rfl
@[go_sem] theorem fdk_53_0 : fdk Tryz.prog 53 0 = some (0, false, 1) := by kernel_rfl
@[go_sem] theorem fdk_53_1 : fdk Tryz.prog 53 1 = some (1, false, 1) := by kernel_rfl
@[go_sem] theorem fdk_53_2 : fdk Tryz.prog 53 2 = some (2, false, 1) := by kernel_rfl
@[go_sem] theorem fdk_53_3 : fdk Tryz.prog 53 3 = some (3, false, 1) := by kernel_rfl
@[go_sem] theorem tk_54 : tk Tryz.prog 54 = some (false, 1) := by kernel_rfl
@[go_sem] theorem slk_54 : slk Tryz.prog 54 = some (84, 3, 64) := by kernel_rfl
@[go_sem] theorem ark_54 : ark Tryz.prog 54 = none := by kernel_rfl
@[go_sem] theorem isStr_54 : isStr Tryz.prog 54 = false := by kernel_rfl
@[go_sem] theorem notInt_54 : notInt Tryz.prog 54 = true := by kernel_rfl
@[go_sem] theorem elemZ_54 : elemZ Tryz.prog 54 = some [Value.string { data := { toList := [] } }, Value.slice none 0 0, Value.slice none 0 0] := by kernel_rfl
@[go_sem] theorem tk_56 : tk Tryz.prog 56 = some (true, 1) := by kernel_rfl
@[go_sem] theorem flk_56 : flk Tryz.prog 56 = some [(0, 1)] := by kernel_rfl
@[go_sem] theorem zk_56 : zk Tryz.prog 56 = some [Value.slice none 0 0] := by kernel_rfl
@[go_sem] theorem bldk_56 : bldk Tryz.prog 56 = false := by kernel_rfl
@[go_sem] theorem fdk_56_0 : fdk Tryz.prog 56 0 = some (0, false, 1) := by kernel_rfl
@[go_sem] theorem slk_59 : slk Tryz.prog 59 = some (63, 4, 80) := by kernel_rfl
@[go_sem] theorem ark_59 : ark Tryz.prog 59 = none := by kernel_rfl
@[go_sem] theorem isStr_59 : isStr Tryz.prog 59 = false := by kernel_rfl
@[go_sem] theorem notInt_59 : notInt Tryz.prog 59 = true := by kernel_rfl
@[go_sem] theorem elemZ_59 : elemZ Tryz.prog 59 = some [Value.string { data := { toList := [] } }, Value.slice none 0 0, Value.string { data := { toList := [] } }, Value.slice none 0 0] := by kernel_rfl
@[go_sem] theorem tk_63 : tk Tryz.prog 63 = some (true, 4) := by kernel_rfl
@[go_sem] theorem flk_63 : flk Tryz.prog 63 = some [(0, 1), (1, 1), (2, 1), (3, 1)] := by kernel_rfl
@[go_sem] theorem zk_63 : zk Tryz.prog 63 = some [Value.string { data := { toList := [] } }, Value.slice none 0 0, Value.string { data := { toList := [] } }, Value.slice none 0 0] := by kernel_rfl
@[go_sem] theorem bldk_63 : bldk Tryz.prog 63 = false := by kernel_rfl
@[go_sem] theorem fdk_63_0 : fdk Tryz.prog 63 0 = some (0, false, 1) := by kernel_rfl
@[go_sem] theorem fdk_63_1 : fdk Tryz.prog 63 1 = some (1, false, 1) := by kernel_rfl
@[go_sem] theorem fdk_63_2 : fdk Tryz.prog 63 2 = some (2, false, 1) := by kernel_rfl
@[go_sem] theorem fdk_63_3 : fdk Tryz.prog 63 3 = some (3, false, 1) := by kernel_rfl
@[go_sem] theorem slk_67 : slk Tryz.prog 67 = some (110, 2, 32) := by kernel_rfl
@[go_sem] theorem ark_67 : ark Tryz.prog 67 = none := by kernel_rfl
@[go_sem] theorem isStr_67 : isStr Tryz.prog 67 = false := by kernel_rfl
@[go_sem] theorem notInt_67 : notInt Tryz.prog 67 = true := by kernel_rfl
@[go_sem] theorem elemZ_67 : elemZ Tryz.prog 67 = some [Value.int IntKind.i64 (Int.ofNat 0), Value.slice none 0 0] := by kernel_rfl
@[go_sem] theorem tk_81 : tk Tryz.prog 81 = some (false, 1) := by kernel_rfl
@[go_sem] theorem slk_81 : slk Tryz.prog 81 = some (9, 1, 16) := by kernel_rfl
@[go_sem] theorem ark_81 : ark Tryz.prog 81 = none := by kernel_rfl
@[go_sem] theorem isStr_81 : isStr Tryz.prog 81 = false := by kernel_rfl
@[go_sem] theorem notInt_81 : notInt Tryz.prog 81 = true := by kernel_rfl
@[go_sem] theorem elemZ_81 : elemZ Tryz.prog 81 = some [Value.string { data := { toList := [] } }] := by kernel_rfl
@[go_sem] theorem tk_82 : tk Tryz.prog 82 = some (false, 1) := by kernel_rfl
@[go_sem] theorem slk_82 : slk Tryz.prog 82 = some (173, 2, 32) := by kernel_rfl
@[go_sem] theorem ark_82 : ark Tryz.prog 82 = none := by kernel_rfl
@[go_sem] theorem isStr_82 : isStr Tryz.prog 82 = false := by kernel_rfl
@[go_sem] theorem notInt_82 : notInt Tryz.prog 82 = true := by kernel_rfl
@[go_sem] theorem elemZ_82 : elemZ Tryz.prog 82 = some [Value.int IntKind.i64 (Int.ofNat 0), Value.slice none 0 0] := by kernel_rfl
@[go_sem] theorem tk_84 : tk Tryz.prog 84 = some (true, 3) := by kernel_rfl
@[go_sem] theorem flk_84 : flk Tryz.prog 84 = some [(0, 1), (1, 1), (2, 1)] := by kernel_rfl
@[go_sem] theorem zk_84 : zk Tryz.prog 84 = some [Value.string { data := { toList := [] } }, Value.slice none 0 0, Value.slice none 0 0] := by kernel_rfl
@[go_sem] theorem bldk_84 : bldk Tryz.prog 84 = false := by kernel_rfl
@[go_sem] theorem fdk_84_0 : fdk Tryz.prog 84 0 = some (0, false, 1) := by kernel_rfl
@[go_sem] theorem fdk_84_1 : fdk Tryz.prog 84 1 = some (1, false, 1) := by kernel_rfl
@[go_sem] theorem fdk_84_2 : fdk Tryz.prog 84 2 = some (2, false, 1) := by kernel_rfl
@[go_sem] theorem tk_101 : tk Tryz.prog 101 = some (false, 1) := by kernel_rfl
@[go_sem] theorem slk_101 : slk Tryz.prog 101 = some (51, 1, 24) := by kernel_rfl
@[go_sem] theorem ark_101 : ark Tryz.prog 101 = none := by kernel_rfl
@[go_sem] theorem isStr_101 : isStr Tryz.prog 101 = false := by kernel_rfl
@[go_sem] theorem tk_103 : tk Tryz.prog 103 = some (true, 3) := by kernel_rfl
@[go_sem] theorem flk_103 : flk Tryz.prog 103 = some [(0, 1), (1, 1), (2, 1)] := by kernel_rfl
@[go_sem] theorem zk_103 : zk Tryz.prog 103 = some [Value.int IntKind.u8 (Int.ofNat 0), Value.int IntKind.u8 (Int.ofNat 0), Value.slice none 0 0] := by kernel_rfl
@[go_sem] theorem fdk_103_0 : fdk Tryz.prog 103 0 = some (0, false, 1) := by kernel_rfl
@[go_sem] theorem fdk_103_1 : fdk Tryz.prog 103 1 = some (1, false, 1) := by kernel_rfl
@[go_sem] theorem fdk_103_2 : fdk Tryz.prog 103 2 = some (2, false, 1) := by kernel_rfl
@[go_sem] theorem slk_106 : slk Tryz.prog 106 = some (112, 5, 80) := by kernel_rfl
@[go_sem] theorem ark_106 : ark Tryz.prog 106 = none := by kernel_rfl
@[go_sem] theorem isStr_106 : isStr Tryz.prog 106 = false := by kernel_rfl
@[go_sem] theorem notInt_106 : notInt Tryz.prog 106 = true := by kernel_rfl
@[go_sem] theorem elemZ_106 : elemZ Tryz.prog 106 = some [Value.string { data := { toList := [] } }, Value.slice none 0 0, Value.int IntKind.i64 (Int.ofNat 0), Value.int IntKind.i64 (Int.ofNat 0), Value.slice none 0 0] := by kernel_rfl
@[go_sem] theorem tk_110 : tk Tryz.prog 110 = some (true, 2) := by kernel_rfl
@[go_sem] theorem flk_110 : flk Tryz.prog 110 = some [(0, 1), (1, 1)] := by kernel_rfl
@[go_sem] theorem zk_110 : zk Tryz.prog 110 = some [Value.int IntKind.i64 (Int.ofNat 0), Value.slice none 0 0] := by kernel_rfl
@[go_sem] theorem bldk_110 : bldk Tryz.prog 110 = false := by kernel_rfl
@[go_sem] theorem fdk_110_0 : fdk Tryz.prog 110 0 = some (0, false, 1) := by kernel_rfl
@[go_sem] theorem fdk_110_1 : fdk Tryz.prog 110 1 = some (1, false, 1) := by kernel_rfl
@[go_sem] theorem tk_112 : tk Tryz.prog 112 = some (true, 5) := by kernel_rfl
@[go_sem] theorem flk_112 : flk Tryz.prog 112 = some [(0, 1), (1, 1), (2, 1), (3, 2)] := by kernel_rfl
@[go_sem] theorem zk_112 : zk Tryz.prog 112 = some [Value.string { data := { toList := [] } }, Value.slice none 0 0, Value.int IntKind.i64 (Int.ofNat 0), Value.int IntKind.i64 (Int.ofNat 0), Value.slice none 0 0] := by kernel_rfl
@[go_sem] theorem bldk_112 : bldk Tryz.prog 112 = false := by kernel_rfl
@[go_sem] theorem fdk_112_0 : fdk Tryz.prog 112 0 = some (0, false, 1) := by kernel_rfl
@[go_sem] theorem fdk_112_1 : fdk Tryz.prog 112 1 = some (1, false, 1) := by kernel_rfl
@[go_sem] theorem fdk_112_2 : fdk Tryz.prog 112 2 = some (2, false, 1) := by kernel_rfl
@[go_sem] theorem fdk_112_3 : fdk Tryz.prog 112 3 = some (3, true, 2) := by kernel_rfl
@[go_sem] theorem tk_115 : tk Tryz.prog 115 = some (false, 1) := by kernel_rfl
@[go_sem] theorem slk_115 : slk Tryz.prog 115 = some (165, 1, 24) := by kernel_rfl
@[go_sem] theorem ark_115 : ark Tryz.prog 115 = none := by kernel_rfl
@[go_sem] theorem elemZ_115 : elemZ Tryz.prog 115 = some [Value.slice none 0 0] := by kernel_rfl
@[go_sem] theorem flk_117 : flk Tryz.prog 117 = some [(0, 1), (1, 1), (2, 1)] := by kernel_rfl
@[go_sem] theorem zk_117 : zk Tryz.prog 117 = some [Value.slice none 0 0, Value.slice none 0 0, Value.int IntKind.i64 (Int.ofNat 0)] := by kernel_rfl
@[go_sem] theorem fdk_117_0 : fdk Tryz.prog 117 0 = some (0, false, 1) := by kernel_rfl
@[go_sem] theorem fdk_117_1 : fdk Tryz.prog 117 1 = some (1, false, 1) := by kernel_rfl
@[go_sem] theorem fdk_117_2 : fdk Tryz.prog 117 2 = some (2, false, 1) := by kernel_rfl
@[go_sem] theorem tk_119 : tk Tryz.prog 119 = some (false, 1) := by kernel_rfl
@[go_sem] theorem slk_119 : slk Tryz.prog 119 = some (2, 1, 8) := by kernel_rfl
@[go_sem] theorem ark_119 : ark Tryz.prog 119 = none := by kernel_rfl
@[go_sem] theorem isStr_119 : isStr Tryz.prog 119 = false := by kernel_rfl
@[go_sem] theorem notInt_119 : notInt Tryz.prog 119 = true := by kernel_rfl
@[go_sem] theorem elemZ_119 : elemZ Tryz.prog 119 = some [Value.int IntKind.i64 (Int.ofNat 0)] := by kernel_rfl
@[go_sem] theorem mtk_158 : mtk Tryz.prog 158 = some (KK.s, Value.int IntKind.i64 (Int.ofNat 0)) := by kernel_rfl
@[go_sem] theorem isMp_158 : isMp Tryz.prog 158 = true := by kernel_rfl
@[go_sem] theorem tk_165 : tk Tryz.prog 165 = some (false, 1) := by kernel_rfl
@[go_sem] theorem slk_165 : slk Tryz.prog 165 = some (119, 1, 24) := by kernel_rfl
@[go_sem] theorem ark_165 : ark Tryz.prog 165 = none := by kernel_rfl
@[go_sem] theorem isStr_165 : isStr Tryz.prog 165 = false := by kernel_rfl
@[go_sem] theorem notInt_165 : notInt Tryz.prog 165 = true := by kernel_rfl
@[go_sem] theorem elemZ_165 : elemZ Tryz.prog 165 = some [Value.slice none 0 0] := by kernel_rfl
@[go_sem] theorem tk_171 : tk Tryz.prog 171 = some (false, 1) := by kernel_rfl
@[go_sem] theorem slk_171 : slk Tryz.prog 171 = some (175, 3, 32) := by kernel_rfl
@[go_sem] theorem ark_171 : ark Tryz.prog 171 = none := by kernel_rfl
@[go_sem] theorem isStr_171 : isStr Tryz.prog 171 = false := by kernel_rfl
@[go_sem] theorem notInt_171 : notInt Tryz.prog 171 = true := by kernel_rfl
@[go_sem] theorem elemZ_171 : elemZ Tryz.prog 171 = some [Value.int IntKind.i64 (Int.ofNat 0), Value.int IntKind.i64 (Int.ofNat 0), Value.string { data := { toList := [] } }] := by kernel_rfl
@[go_sem] theorem tk_173 : tk Tryz.prog 173 = some (true, 2) := by kernel_rfl
@[go_sem] theorem flk_173 : flk Tryz.prog 173 = some [(0, 1), (1, 1)] := by kernel_rfl
@[go_sem] theorem zk_173 : zk Tryz.prog 173 = some [Value.int IntKind.i64 (Int.ofNat 0), Value.slice none 0 0] := by kernel_rfl
@[go_sem] theorem bldk_173 : bldk Tryz.prog 173 = false := by kernel_rfl
@[go_sem] theorem fdk_173_0 : fdk Tryz.prog 173 0 = some (0, false, 1) := by kernel_rfl
@[go_sem] theorem fdk_173_1 : fdk Tryz.prog 173 1 = some (1, false, 1) := by kernel_rfl
@[go_sem] theorem tk_175 : tk Tryz.prog 175 = some (true, 3) := by kernel_rfl
@[go_sem] theorem flk_175 : flk Tryz.prog 175 = some [(0, 1), (1, 1), (2, 1)] := by kernel_rfl
@[go_sem] theorem zk_175 : zk Tryz.prog 175 = some [Value.int IntKind.i64 (Int.ofNat 0), Value.int IntKind.i64 (Int.ofNat 0), Value.string { data := { toList := [] } }] := by kernel_rfl
@[go_sem] theorem bldk_175 : bldk Tryz.prog 175 = false := by kernel_rfl
@[go_sem] theorem fdk_175_0 : fdk Tryz.prog 175 0 = some (0, false, 1) := by kernel_rfl
@[go_sem] theorem fdk_175_1 : fdk Tryz.prog 175 1 = some (1, false, 1) := by kernel_rfl
@[go_sem] theorem fdk_175_2 : fdk Tryz.prog 175 2 = some (2, false, 1) := by kernel_rfl
@[go_sem] theorem mtk_176 : mtk Tryz.prog 176 = some (KK.s, Value.bool false) := by kernel_rfl
@[go_sem] theorem isMp_176 : isMp Tryz.prog 176 = true := by kernel_rfl
@[go_sem] theorem und_181 : (Tryz.prog.underlying 181).isSome = true := by kernel_rfl
@[go_sem] theorem isStr_181 : isStr Tryz.prog 181 = false := by kernel_rfl
@[go_sem] theorem ik_181 : ik Tryz.prog 181 = some IntKind.u64 := by kernel_rfl
@[go_sem] theorem bsl_181 : bsl Tryz.prog 181 = false := by kernel_rfl
@[go_sem] theorem zk_207 : zk Tryz.prog 207 = some [Value.pointer none, Value.slice none 0 0] := by kernel_rfl
@[go_sem] theorem bldk_207 : bldk Tryz.prog 207 = true := by kernel_rfl
@[go_sem] theorem fdk_207_1 : fdk Tryz.prog 207 1 = some (1, false, 1) := by kernel_rfl
@[go_sem] theorem slk_238 : slk Tryz.prog 238 = none := by kernel_rfl
@[go_sem] theorem ark_238 : ark Tryz.prog 238 = some (32, 1) := by kernel_rfl
end Go.Proofs.YtmcmphmhjikgkaaGreatDoor
