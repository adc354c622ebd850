/- What the tables of this program say of its types. -/
import Derived.Test.YtpidncgibgiidaaGreatZ3
import Derived.Test.YtpidncgibgiidaaGreatProg
import Derived.KernelRfl
namespace Go.Proofs.YtpidncgibgiidaaGreat
open Go Go.Ab
@[go_sem] theorem tk_2 : tk Tryz.prog 2 = some (false, 1) := by kernel_rfl
@[go_sem] theorem und_2 : (Tryz.prog.underlying 2).isSome = true := by kernel_rfl
@[go_sem] theorem isStr_2 : isStr Tryz.prog 2 = false := by kernel_rfl
@[go_sem] theorem ik_2 : ik Tryz.prog 2 = some IntKind.i64 := by kernel_rfl
@[go_sem] theorem bsl_2 : bsl Tryz.prog 2 = false := by kernel_rfl
@[go_sem] theorem isIf_2 : isIf Tryz.prog 2 = false := by kernel_rfl
@[go_sem] theorem tk_3 : tk Tryz.prog 3 = some (false, 1) := by kernel_rfl
@[go_sem] theorem und_3 : (Tryz.prog.underlying 3).isSome = true := by kernel_rfl
@[go_sem] theorem isStr_3 : isStr Tryz.prog 3 = false := by kernel_rfl
@[go_sem] theorem isBool_3 : isBool Tryz.prog 3 = false := by kernel_rfl
@[go_sem] theorem ik_3 : ik Tryz.prog 3 = some IntKind.i64 := by kernel_rfl
@[go_sem] theorem notInt_3 : notInt Tryz.prog 3 = false := by kernel_rfl
@[go_sem] theorem bsl_3 : bsl Tryz.prog 3 = false := by kernel_rfl
@[go_sem] theorem isIf_3 : isIf Tryz.prog 3 = false := by kernel_rfl
@[go_sem] theorem tk_4 : tk Tryz.prog 4 = some (false, 1) := by kernel_rfl
@[go_sem] theorem isBool_4 : isBool Tryz.prog 4 = true := by kernel_rfl
@[go_sem] theorem tk_5 : tk Tryz.prog 5 = some (false, 1) := by kernel_rfl
@[go_sem] theorem und_5 : (Tryz.prog.underlying 5).isSome = true := by kernel_rfl
@[go_sem] theorem isStr_5 : isStr Tryz.prog 5 = false := by kernel_rfl
@[go_sem] theorem ik_5 : ik Tryz.prog 5 = some IntKind.u8 := by kernel_rfl
@[go_sem] theorem bsl_5 : bsl Tryz.prog 5 = false := by kernel_rfl
@[go_sem] theorem tk_9 : tk Tryz.prog 9 = some (false, 1) := by kernel_rfl
@[go_sem] theorem slk_9 : slk Tryz.prog 9 = none := by kernel_rfl
@[go_sem] theorem ark_9 : ark Tryz.prog 9 = none := by kernel_rfl
@[go_sem] theorem isStr_9 : isStr Tryz.prog 9 = true := by kernel_rfl
@[go_sem] theorem notInt_9 : notInt Tryz.prog 9 = true := by kernel_rfl
@[go_sem] theorem slk_23 : slk Tryz.prog 23 = some (90, 3, 32) := by kernel_rfl
@[go_sem] theorem ark_23 : ark Tryz.prog 23 = none := by kernel_rfl
@[go_sem] theorem isStr_23 : isStr Tryz.prog 23 = false := by kernel_rfl
@[go_sem] theorem tk_24 : tk Tryz.prog 24 = some (false, 1) := by kernel_rfl
@[go_sem] theorem slk_24 : slk Tryz.prog 24 = some (72, 3, 64) := by kernel_rfl
@[go_sem] theorem ark_24 : ark Tryz.prog 24 = none := by kernel_rfl
@[go_sem] theorem isStr_24 : isStr Tryz.prog 24 = false := by kernel_rfl
@[go_sem] theorem notInt_24 : notInt Tryz.prog 24 = true := by kernel_rfl
@[go_sem] theorem elemZ_24 : elemZ Tryz.prog 24 = some [Value.string { data := { toList := [] } }, Value.slice none 0 0, Value.slice none 0 0] := by kernel_rfl
@[go_sem] theorem tk_26 : tk Tryz.prog 26 = some (true, 1) := by kernel_rfl
@[go_sem] theorem flk_26 : flk Tryz.prog 26 = some [(0, 1)] := by kernel_rfl
@[go_sem] theorem zk_26 : zk Tryz.prog 26 = some [Value.slice none 0 0] := by kernel_rfl
@[go_sem] theorem bldk_26 : bldk Tryz.prog 26 = false := by kernel_rfl
@[go_sem] theorem fdk_26_0 : fdk Tryz.prog 26 0 = some (0, false, 1) := by kernel_rfl
@[go_sem] theorem tk_30 : tk Tryz.prog 30 = some (false, 1) := by kernel_rfl
@[go_sem] theorem slk_30 : slk Tryz.prog 30 = some (40, 4, 80) := by kernel_rfl
@[go_sem] theorem ark_30 : ark Tryz.prog 30 = none := by kernel_rfl
@[go_sem] theorem isStr_30 : isStr Tryz.prog 30 = false := by kernel_rfl
@[go_sem] theorem notInt_30 : notInt Tryz.prog 30 = true := by kernel_rfl
@[go_sem] theorem elemZ_30 : elemZ Tryz.prog 30 = some [Value.string { data := { toList := [] } }, Value.slice none 0 0, Value.string { data := { toList := [] } }, Value.slice none 0 0] := by kernel_rfl
@[go_sem] theorem tk_38 : tk Tryz.prog 38 = some (false, 1) := by kernel_rfl
@[go_sem] theorem slk_38 : slk Tryz.prog 38 = some (3, 1, 8) := by kernel_rfl
@[go_sem] theorem ark_38 : ark Tryz.prog 38 = none := by kernel_rfl
@[go_sem] theorem isStr_38 : isStr Tryz.prog 38 = false := by kernel_rfl
@[go_sem] theorem notInt_38 : notInt Tryz.prog 38 = true := by kernel_rfl
@[go_sem] theorem elemZ_38 : elemZ Tryz.prog 38 = some [Value.int IntKind.i64 (Int.ofNat 0)] := by kernel_rfl
@[go_sem] theorem tk_40 : tk Tryz.prog 40 = some (true, 4) := by kernel_rfl
@[go_sem] theorem flk_40 : flk Tryz.prog 40 = some [(0, 1), (1, 1), (2, 1), (3, 1)] := by kernel_rfl
@[go_sem] theorem zk_40 : zk Tryz.prog 40 = some [Value.string { data := { toList := [] } }, Value.slice none 0 0, Value.string { data := { toList := [] } }, Value.slice none 0 0] := by kernel_rfl
@[go_sem] theorem bldk_40 : bldk Tryz.prog 40 = false := by kernel_rfl
@[go_sem] theorem fdk_40_0 : fdk Tryz.prog 40 0 = some (0, false, 1) := by kernel_rfl
@[go_sem] theorem fdk_40_1 : fdk Tryz.prog 40 1 = some (1, false, 1) := by kernel_rfl
@[go_sem] theorem fdk_40_2 : fdk Tryz.prog 40 2 = some (2, false, 1) := by kernel_rfl
@[go_sem] theorem fdk_40_3 : fdk Tryz.prog 40 3 = some (3, false, 1) := by kernel_rfl
@[go_sem] theorem tk_46 : tk Tryz.prog 46 = some (false, 1) := by kernel_rfl
@[go_sem] theorem slk_46 : slk Tryz.prog 46 = some (50, 2, 24) := by kernel_rfl
@[go_sem] theorem ark_46 : ark Tryz.prog 46 = none := by kernel_rfl
@[go_sem] theorem isStr_46 : isStr Tryz.prog 46 = false := by kernel_rfl
@[go_sem] theorem elemZ_46 : elemZ Tryz.prog 46 = some [Value.string { data := { toList := [] } }, Value.int IntKind.u32 (Int.ofNat 0)] := by kernel_rfl
@[go_sem] theorem tk_48 : tk Tryz.prog 48 = some (false, 1) := by kernel_rfl
@[go_sem] theorem tk_50 : tk Tryz.prog 50 = some (true, 2) := by kernel_rfl
@[go_sem] theorem flk_50 : flk Tryz.prog 50 = some [(0, 1), (1, 1)] := by kernel_rfl
@[go_sem] theorem zk_50 : zk Tryz.prog 50 = some [Value.string { data := { toList := [] } }, Value.int IntKind.u32 (Int.ofNat 0)] := by kernel_rfl
@[go_sem] theorem eqk_50 : eqk Tryz.prog 50 = some [CK.s, CK.i] := by kernel_rfl
@[go_sem] theorem bldk_50 : bldk Tryz.prog 50 = false := by kernel_rfl
@[go_sem] theorem fdk_50_0 : fdk Tryz.prog 50 0 = some (0, false, 1) := by kernel_rfl
@[go_sem] theorem fdk_50_1 : fdk Tryz.prog 50 1 = some (1, false, 1) := by kernel_rfl
@[go_sem] theorem tk_56 : tk Tryz.prog 56 = some (false, 1) := by kernel_rfl
@[go_sem] theorem und_56 : (Tryz.prog.underlying 56).isSome = true := by kernel_rfl
@[go_sem] theorem slk_56 : slk Tryz.prog 56 = some (5, 1, 1) := by kernel_rfl
@[go_sem] theorem ark_56 : ark Tryz.prog 56 = none := by kernel_rfl
@[go_sem] theorem isStr_56 : isStr Tryz.prog 56 = false := by kernel_rfl
@[go_sem] theorem notInt_56 : notInt Tryz.prog 56 = true := by kernel_rfl
@[go_sem] theorem elemZ_56 : elemZ Tryz.prog 56 = some [Value.int IntKind.u8 (Int.ofNat 0)] := by kernel_rfl
@[go_sem] theorem bsl_56 : bsl Tryz.prog 56 = true := by kernel_rfl
@[go_sem] theorem tk_58 : tk Tryz.prog 58 = some (true, 4) := by kernel_rfl
@[go_sem] theorem fdk_58_0 : fdk Tryz.prog 58 0 = some (0, false, 1) := by kernel_rfl
@[go_sem] theorem fdk_58_1 : fdk Tryz.prog 58 1 = some (1, false, 1) := by kernel_rfl
@[go_sem] theorem fdk_58_2 : fdk Tryz.prog 58 2 = some (2, false, 1) := by kernel_rfl
@[go_sem] theorem fdk_58_3 : fdk Tryz.prog 58 3 = some (3, false, 1) := by kernel_rfl
@[go_sem] theorem tk_61 : tk Tryz.prog 61 = some (true, 2) := by kernel_rfl
@[go_sem] theorem flk_61 : flk Tryz.prog 61 = some [(0, 1), (1, 1)] := by kernel_rfl
@[go_sem] theorem zk_61 : zk Tryz.prog 61 = some [Value.int IntKind.i64 (Int.ofNat 0), Value.int IntKind.i64 (Int.ofNat 0)] := by kernel_rfl
@[go_sem] theorem eqk_61 : eqk Tryz.prog 61 = some [CK.i, CK.i] := by kernel_rfl
@[go_sem] theorem bldk_61 : bldk Tryz.prog 61 = false := by kernel_rfl
@[go_sem] theorem fdk_61_0 : fdk Tryz.prog 61 0 = some (0, false, 1) := by kernel_rfl
@[go_sem] theorem fdk_61_1 : fdk Tryz.prog 61 1 = some (1, false, 1) := by kernel_rfl
@[go_sem] theorem slk_64 : slk Tryz.prog 64 = some (76, 1, 24) := by kernel_rfl
@[go_sem] theorem ark_64 : ark Tryz.prog 64 = none := by kernel_rfl
@[go_sem] theorem isStr_64 : isStr Tryz.prog 64 = false := by kernel_rfl
@[go_sem] theorem notInt_64 : notInt Tryz.prog 64 = true := by kernel_rfl
@[go_sem] theorem elemZ_64 : elemZ Tryz.prog 64 = some [Value.slice none 0 0] := by kernel_rfl
@[go_sem] theorem tk_69 : tk Tryz.prog 69 = some (false, 1) := by kernel_rfl
@[go_sem] theorem slk_69 : slk Tryz.prog 69 = some (9, 1, 16) := by kernel_rfl
@[go_sem] theorem ark_69 : ark Tryz.prog 69 = none := by kernel_rfl
@[go_sem] theorem isStr_69 : isStr Tryz.prog 69 = false := by kernel_rfl
@[go_sem] theorem notInt_69 : notInt Tryz.prog 69 = true := by kernel_rfl
@[go_sem] theorem elemZ_69 : elemZ Tryz.prog 69 = some [Value.string { data := { toList := [] } }] := by kernel_rfl
@[go_sem] theorem tk_70 : tk Tryz.prog 70 = some (false, 1) := by kernel_rfl
@[go_sem] theorem slk_70 : slk Tryz.prog 70 = some (78, 2, 32) := by kernel_rfl
@[go_sem] theorem ark_70 : ark Tryz.prog 70 = none := by kernel_rfl
@[go_sem] theorem isStr_70 : isStr Tryz.prog 70 = false := by kernel_rfl
@[go_sem] theorem notInt_70 : notInt Tryz.prog 70 = true := by kernel_rfl
@[go_sem] theorem elemZ_70 : elemZ Tryz.prog 70 = some [Value.int IntKind.i64 (Int.ofNat 0), Value.slice none 0 0] := by kernel_rfl
@[go_sem] theorem tk_72 : tk Tryz.prog 72 = some (true, 3) := by kernel_rfl
@[go_sem] theorem flk_72 : flk Tryz.prog 72 = some [(0, 1), (1, 1), (2, 1)] := by kernel_rfl
@[go_sem] theorem zk_72 : zk Tryz.prog 72 = some [Value.string { data := { toList := [] } }, Value.slice none 0 0, Value.slice none 0 0] := by kernel_rfl
@[go_sem] theorem bldk_72 : bldk Tryz.prog 72 = false := by kernel_rfl
@[go_sem] theorem fdk_72_0 : fdk Tryz.prog 72 0 = some (0, false, 1) := by kernel_rfl
@[go_sem] theorem fdk_72_1 : fdk Tryz.prog 72 1 = some (1, false, 1) := by kernel_rfl
@[go_sem] theorem fdk_72_2 : fdk Tryz.prog 72 2 = some (2, false, 1) := by kernel_rfl
@[go_sem] theorem tk_76 : tk Tryz.prog 76 = some (false, 1) := by kernel_rfl
@[go_sem] theorem slk_76 : slk Tryz.prog 76 = some (114, 3, 32) := by kernel_rfl
@[go_sem] theorem ark_76 : ark Tryz.prog 76 = none := by kernel_rfl
@[go_sem] theorem isStr_76 : isStr Tryz.prog 76 = false := by kernel_rfl
@[go_sem] theorem notInt_76 : notInt Tryz.prog 76 = true := by kernel_rfl
@[go_sem] theorem zk_76 : zk Tryz.prog 76 = some [Value.slice none 0 0] := by kernel_rfl
@[go_sem] theorem elemZ_76 : elemZ Tryz.prog 76 = some [Value.int IntKind.i64 (Int.ofNat 0), Value.int IntKind.i64 (Int.ofNat 0), Value.string { data := { toList := [] } }] := by kernel_rfl
@[go_sem] theorem bldk_76 : bldk Tryz.prog 76 = false := by kernel_rfl
@[go_sem] theorem tk_78 : tk Tryz.prog 78 = some (true, 2) := by kernel_rfl
@[go_sem] theorem flk_78 : flk Tryz.prog 78 = some [(0, 1), (1, 1)] := by kernel_rfl
@[go_sem] theorem zk_78 : zk Tryz.prog 78 = some [Value.int IntKind.i64 (Int.ofNat 0), Value.slice none 0 0] := by kernel_rfl
@[go_sem] theorem bldk_78 : bldk Tryz.prog 78 = false := by kernel_rfl
@[go_sem] theorem fdk_78_0 : fdk Tryz.prog 78 0 = some (0, false, 1) := by kernel_rfl
@[go_sem] theorem fdk_78_1 : fdk Tryz.prog 78 1 = some (1, false, 1) := by kernel_rfl
@[go_sem] theorem tk_88 : tk Tryz.prog 88 = some (false, 1) := by kernel_rfl
@[go_sem] theorem slk_88 : slk Tryz.prog 88 = some (56, 1, 24) := by kernel_rfl
@[go_sem] theorem ark_88 : ark Tryz.prog 88 = none := by kernel_rfl
@[go_sem] theorem isStr_88 : isStr Tryz.prog 88 = false := by kernel_rfl
@[go_sem] theorem elemZ_88 : elemZ Tryz.prog 88 = some [Value.slice none 0 0] := by kernel_rfl
@[go_sem] theorem tk_90 : tk Tryz.prog 90 = some (true, 3) := by kernel_rfl
@[go_sem] theorem flk_90 : flk Tryz.prog 90 = some [(0, 1), (1, 1), (2, 1)] := by kernel_rfl
@[go_sem] theorem zk_90 : zk Tryz.prog 90 = some [Value.int IntKind.u8 (Int.ofNat 0), Value.int IntKind.u8 (Int.ofNat 0), Value.slice none 0 0] := by kernel_rfl
@[go_sem] theorem fdk_90_0 : fdk Tryz.prog 90 0 = some (0, false, 1) := by kernel_rfl
@[go_sem] theorem fdk_90_1 : fdk Tryz.prog 90 1 = some (1, false, 1) := by kernel_rfl
@[go_sem] theorem fdk_90_2 : fdk Tryz.prog 90 2 = some (2, false, 1) := by kernel_rfl
@[go_sem] theorem slk_106 : slk Tryz.prog 106 = some (2, 1, 8) := by kernel_rfl
@[go_sem] theorem ark_106 : ark Tryz.prog 106 = none := by kernel_rfl
@[go_sem] theorem isStr_106 : isStr Tryz.prog 106 = false := by kernel_rfl
@[go_sem] theorem notInt_106 : notInt Tryz.prog 106 = true := by kernel_rfl
@[go_sem] theorem elemZ_106 : elemZ Tryz.prog 106 = some [Value.int IntKind.i64 (Int.ofNat 0)] := by kernel_rfl
@[go_sem] theorem tk_114 : tk Tryz.prog 114 = some (true, 3) := by kernel_rfl
@[go_sem] theorem flk_114 : flk Tryz.prog 114 = some [(0, 1), (1, 1), (2, 1)] := by kernel_rfl
@[go_sem] theorem zk_114 : zk Tryz.prog 114 = some [Value.int IntKind.i64 (Int.ofNat 0), Value.int IntKind.i64 (Int.ofNat 0), Value.string { data := { toList := [] } }] := by kernel_rfl
@[go_sem] theorem bldk_114 : bldk Tryz.prog 114 = false := by kernel_rfl
@[go_sem] theorem fdk_114_0 : fdk Tryz.prog 114 0 = some (0, false, 1) := by kernel_rfl
@[go_sem] theorem fdk_114_1 : fdk Tryz.prog 114 1 = some (1, false, 1) := by kernel_rfl
@[go_sem] theorem fdk_114_2 : fdk Tryz.prog 114 2 = some (2, false, 1) := by kernel_rfl
@[go_sem] theorem tk_117 : tk Tryz.prog 117 = some (false, 1) := by kernel_rfl
@[go_sem] theorem zk_117 : zk Tryz.prog 117 = some [Value.nilFunc] := by kernel_rfl
@[go_sem] theorem bldk_117 : bldk Tryz.prog 117 = false := by kernel_rfl
@[go_sem] theorem flk_130 : flk Tryz.prog 130 = some [(0, 3), (3, 3), (6, 1), (7, 1), (8, 1), (9, 1)] := by kernel_rfl
@[go_sem] theorem zk_130 : zk Tryz.prog 130 = some [Value.string { data := { toList := [] } }, Value.slice none 0 0, Value.slice none 0 0, Value.string { data := { toList := [] } }, Value.slice none 0 0, Value.slice none 0 0, Value.bool false, Value.int IntKind.i64 (Int.ofNat 0), Value.slice none 0 0, Value.int IntKind.i64 (Int.ofNat 0)] := by kernel_rfl
@[go_sem] theorem fdk_130_0 : fdk Tryz.prog 130 0 = some (0, true, 3) := by kernel_rfl
@[go_sem] theorem fdk_130_1 : fdk Tryz.prog 130 1 = some (3, true, 3) := by kernel_rfl
@[go_sem] theorem fdk_130_2 : fdk Tryz.prog 130 2 = some (6, false, 1) := by kernel_rfl
@[go_sem] theorem fdk_130_3 : fdk Tryz.prog 130 3 = some (7, false, 1) := by kernel_rfl
@[go_sem] theorem fdk_130_4 : fdk Tryz.prog 130 4 = some (8, false, 1) := by kernel_rfl
@[go_sem] theorem fdk_130_5 : fdk Tryz.prog 130 5 = some (9, false, 1) := by kernel_rfl
@[go_sem] theorem tk_140 : tk Tryz.prog 140 = some (false, 1) := by kernel_rfl
@[go_sem] theorem zk_140 : zk Tryz.prog 140 = some [Value.map none] := by kernel_rfl
@[go_sem] theorem bldk_140 : bldk Tryz.prog 140 = false := by kernel_rfl
@[go_sem] theorem mtk_140 : mtk Tryz.prog 140 = some (KK.s, Value.bool false) := by kernel_rfl
@[go_sem] theorem isMp_140 : isMp Tryz.prog 140 = true := by kernel_rfl
@[go_sem] theorem und_142 : (Tryz.prog.underlying 142).isSome = true := by kernel_rfl
@[go_sem] theorem isStr_142 : isStr Tryz.prog 142 = false := by kernel_rfl
@[go_sem] theorem ik_142 : ik Tryz.prog 142 = some IntKind.u64 := by kernel_rfl
@[go_sem] theorem bsl_142 : bsl Tryz.prog 142 = false := by kernel_rfl
@[go_sem] theorem slk_163 : slk Tryz.prog 163 = some (38, 1, 24) := by kernel_rfl
@[go_sem] theorem ark_163 : ark Tryz.prog 163 = none := by kernel_rfl
@[go_sem] theorem isStr_163 : isStr Tryz.prog 163 = false := by kernel_rfl
@[go_sem] theorem elemZ_163 : elemZ Tryz.prog 163 = some [Value.slice none 0 0] := by kernel_rfl
@[go_sem] theorem zk_167 : zk Tryz.prog 167 = some [Value.pointer none, Value.slice none 0 0] := by kernel_rfl
@[go_sem] theorem bldk_167 : bldk Tryz.prog 167 = true := by kernel_rfl
@[go_sem] theorem fdk_167_1 : fdk Tryz.prog 167 1 = some (1, false, 1) := by kernel_rfl
end Go.Proofs.YtpidncgibgiidaaGreat
