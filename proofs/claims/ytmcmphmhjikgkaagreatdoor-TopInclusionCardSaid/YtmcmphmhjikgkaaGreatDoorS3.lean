/-
  DERIVED: THE SHELF's CONTRACTS AT THIS DUMP, IN PLAIN WORDS (tools/lay-plain.mjs out of 'TryzSortShelf.lean', which tools/lay-shelf.mjs wrote): THE SAME DECLARATIONS UNDER THE SAME NAMES: 'import', 'namespace', 'open', 'def', 'theorem' AND NOTHING ELSE: no command of the shelf's: FOR A HAND-IN. Each laying: the table of numbers ('.._ren') and one theorem, a field a fact of the dump's own or the kernel's comparison; each contract: ONE APPLICATION.
-/
import Derived.Shelf.SlSortCmp.NoneTotal
import Derived.Test.YtmcmphmhjikgkaaGreatDoorProg
namespace Go.Proofs
open Go.Shelf
def Tryz.sortS_ren : Go.Shelf.Ren := ⟨fun | 6 => 80 | 15 => 94 | 14 => 109 | 28 => 126 | 29 => 127 | 20 => 138 | 21 => 139 | 22 => 140 | 23 => 141 | 24 => 142 | 25 => 143 | 26 => 144 | 27 => 145 | 46 => 169 | 47 => 160 | 48 => 161 | 49 => 170 | 50 => 171 | 57 => 182 | n => n, fun | 22 => 165 | 24 => 119 | 25 => 170 | 3 => 3 | 39 => 190 | 0 => 0 | 53 => 29 | 55 => 181 | 4 => 4 | 46 => 218 | 45 => 217 | 50 => 161 | 5 => 5 | 9 => 9 | 66 => 245 | 70 => 249 | 76 => 261 | 77 => 262 | n => n, fun | n => n⟩
theorem Tryz.sortS : Go.Proofs.SlLaysF0.n6 Tryz.prog Tryz.sortS_ren := {
  mixed := by kernel_rfl
  f6 := ⟨Tryz.f80.name, by decide, Tryz.func80.trans (congrArg some (by kernel_rfl))⟩
  f14 := ⟨Tryz.f109.name, by decide, Tryz.func109.trans (congrArg some (by kernel_rfl))⟩
  f15 := Tryz.func94.trans (congrArg some (by kernel_rfl))
  f20 := ⟨Tryz.f138.name, by decide, Tryz.func138.trans (congrArg some (by kernel_rfl))⟩
  f21 := ⟨Tryz.f139.name, by decide, Tryz.func139.trans (congrArg some (by kernel_rfl))⟩
  f22 := ⟨Tryz.f140.name, by decide, Tryz.func140.trans (congrArg some (by kernel_rfl))⟩
  f23 := ⟨Tryz.f141.name, by decide, Tryz.func141.trans (congrArg some (by kernel_rfl))⟩
  f24 := ⟨Tryz.f142.name, by decide, Tryz.func142.trans (congrArg some (by kernel_rfl))⟩
  f25 := ⟨Tryz.f143.name, by decide, Tryz.func143.trans (congrArg some (by kernel_rfl))⟩
  f26 := ⟨Tryz.f144.name, by decide, Tryz.func144.trans (congrArg some (by kernel_rfl))⟩
  f27 := ⟨Tryz.f145.name, by decide, Tryz.func145.trans (congrArg some (by kernel_rfl))⟩
  f28 := Tryz.func126.trans (congrArg some (by kernel_rfl))
  f29 := Tryz.func127.trans (congrArg some (by kernel_rfl))
  f46 := ⟨Tryz.f169.name, by decide, Tryz.func169.trans (congrArg some (by kernel_rfl))⟩
  f47 := Tryz.func160.trans (congrArg some (by kernel_rfl))
  f48 := Tryz.func161.trans (congrArg some (by kernel_rfl))
  f49 := ⟨Tryz.f170.name, by decide, Tryz.func170.trans (congrArg some (by kernel_rfl))⟩
  f50 := ⟨Tryz.f171.name, by decide, Tryz.func171.trans (congrArg some (by kernel_rfl))⟩
  f57 := ⟨Tryz.f182.name, by decide, Tryz.func182.trans (congrArg some (by kernel_rfl))⟩
  t0 := Tryz.underlying0
  a0 := Tryz.isAgg0
  z0 := Tryz.sizeOf0
  v0 := Tryz.zeroValue0
  t3 := Tryz.underlying3
  a3 := Tryz.isAgg3
  z3 := Tryz.sizeOf3
  v3 := Tryz.zeroValue3
  t4 := Tryz.underlying4
  a4 := Tryz.isAgg4
  z4 := Tryz.sizeOf4
  v4 := Tryz.zeroValue4
  t5 := Tryz.underlying5
  a5 := Tryz.isAgg5
  z5 := Tryz.sizeOf5
  v5 := Tryz.zeroValue5
  t9 := Tryz.underlying9
  a9 := Tryz.isAgg9
  z9 := Tryz.sizeOf9
  v9 := Tryz.zeroValue9
  t22 := Tryz.underlying165
  a22 := Tryz.isAgg165
  z22 := Tryz.sizeOf165
  v22 := Tryz.zeroValue165
  t25 := Tryz.underlying170
  a25 := Tryz.isAgg170
  z25 := Tryz.sizeOf170
  v25 := Tryz.zeroValue170
  t39 := Tryz.underlying190
  a39 := Tryz.isAgg190
  z39 := Tryz.sizeOf190
  v39 := Tryz.zeroValue190
  t45 := Tryz.underlying217
  a45 := Tryz.isAgg217
  z45 := Tryz.sizeOf217
  v45 := Tryz.zeroValue217
  t46 := Tryz.underlying218
  a46 := Tryz.isAgg218
  z46 := Tryz.sizeOf218
  v46 := Tryz.zeroValue218
  t50 := Tryz.underlying161
  a50 := Tryz.isAgg161
  z50 := Tryz.sizeOf161
  v50 := Tryz.zeroValue161
  t53 := Tryz.underlying29
  a53 := Tryz.isAgg29
  z53 := Tryz.sizeOf29
  v53 := Tryz.zeroValue29
  t55 := Tryz.underlying181
  a55 := Tryz.isAgg181
  z55 := Tryz.sizeOf181
  v55 := Tryz.zeroValue181
  t66 := Tryz.underlying245
  a66 := Tryz.isAgg245
  z66 := Tryz.sizeOf245
  v66 := Tryz.zeroValue245
  t70 := Tryz.underlying249
  a70 := Tryz.isAgg249
  z70 := Tryz.sizeOf249
  v70 := Tryz.zeroValue249
  t76 := Tryz.underlying261
  a76 := Tryz.isAgg261
  z76 := Tryz.sizeOf261
  v76 := Tryz.zeroValue261
  t77 := Tryz.underlying262
  a77 := Tryz.isAgg262
  z77 := Tryz.sizeOf262
  v77 := Tryz.zeroValue262 }
end Go.Proofs
