/-
  DERIVED: THE SHELF's CONTRACTS AT THIS DUMP, IN PLAIN WORDS (tools/lay-plain.mjs out of 'TryzSortShelf.lean', which tools/lay-shelf.mjs wrote): THE SAME DECLARATIONS UNDER THE SAME NAMES: 'import', 'namespace', 'open', 'def', 'theorem' AND NOTHING ELSE: no command of the shelf's: FOR A HAND-IN. Each laying: the table of numbers ('.._ren') and one theorem, a field a fact of the dump's own or the kernel's comparison; each contract: ONE APPLICATION.
-/
import Derived.Shelf.SlSortCmp.NoneTotal
import Derived.Test.YtpidncgibgiidaaGreatProg
namespace Go.Proofs
open Go.Shelf
def Tryz.sortI_ren : Go.Shelf.Ren := ⟨fun | 6 => 92 | 15 => 118 | 14 => 132 | 28 => 155 | 29 => 156 | 20 => 170 | 21 => 171 | 22 => 172 | 23 => 173 | 24 => 174 | 25 => 175 | 26 => 176 | 27 => 177 | 46 => 196 | 47 => 186 | 48 => 187 | 49 => 197 | 50 => 198 | 57 => 206 | n => n, fun | 22 => 30 | 24 => 40 | 25 => 134 | 3 => 3 | 39 => 152 | 0 => 0 | 53 => 47 | 55 => 142 | 4 => 4 | 46 => 181 | 45 => 180 | 50 => 121 | 5 => 5 | 9 => 9 | 66 => 205 | 70 => 209 | 76 => 219 | 77 => 220 | n => n, fun | n => n⟩
theorem Tryz.sortI : Go.Proofs.SlLaysF0.n6 Tryz.prog Tryz.sortI_ren := {
  mixed := by kernel_rfl
  f6 := ⟨Tryz.f92.name, by decide, Tryz.func92.trans (congrArg some (by kernel_rfl))⟩
  f14 := ⟨Tryz.f132.name, by decide, Tryz.func132.trans (congrArg some (by kernel_rfl))⟩
  f15 := Tryz.func118.trans (congrArg some (by kernel_rfl))
  f20 := ⟨Tryz.f170.name, by decide, Tryz.func170.trans (congrArg some (by kernel_rfl))⟩
  f21 := ⟨Tryz.f171.name, by decide, Tryz.func171.trans (congrArg some (by kernel_rfl))⟩
  f22 := ⟨Tryz.f172.name, by decide, Tryz.func172.trans (congrArg some (by kernel_rfl))⟩
  f23 := ⟨Tryz.f173.name, by decide, Tryz.func173.trans (congrArg some (by kernel_rfl))⟩
  f24 := ⟨Tryz.f174.name, by decide, Tryz.func174.trans (congrArg some (by kernel_rfl))⟩
  f25 := ⟨Tryz.f175.name, by decide, Tryz.func175.trans (congrArg some (by kernel_rfl))⟩
  f26 := ⟨Tryz.f176.name, by decide, Tryz.func176.trans (congrArg some (by kernel_rfl))⟩
  f27 := ⟨Tryz.f177.name, by decide, Tryz.func177.trans (congrArg some (by kernel_rfl))⟩
  f28 := Tryz.func155.trans (congrArg some (by kernel_rfl))
  f29 := Tryz.func156.trans (congrArg some (by kernel_rfl))
  f46 := ⟨Tryz.f196.name, by decide, Tryz.func196.trans (congrArg some (by kernel_rfl))⟩
  f47 := Tryz.func186.trans (congrArg some (by kernel_rfl))
  f48 := Tryz.func187.trans (congrArg some (by kernel_rfl))
  f49 := ⟨Tryz.f197.name, by decide, Tryz.func197.trans (congrArg some (by kernel_rfl))⟩
  f50 := ⟨Tryz.f198.name, by decide, Tryz.func198.trans (congrArg some (by kernel_rfl))⟩
  f57 := ⟨Tryz.f206.name, by decide, Tryz.func206.trans (congrArg some (by kernel_rfl))⟩
  t0 := Tryz.underlying0
  a0 := Tryz.isAgg0
  z0 := Tryz.sizeOf0
  v0 := Tryz.zeroValue0
  t3 := Tryz.underlying3
  a3 := Tryz.isAgg3
  z3 := Tryz.sizeOf3
  v3 := Tryz.zeroValue3
  t4 := Tryz.underlying4
  a4 := Tryz.isAgg4
  z4 := Tryz.sizeOf4
  v4 := Tryz.zeroValue4
  t5 := Tryz.underlying5
  a5 := Tryz.isAgg5
  z5 := Tryz.sizeOf5
  v5 := Tryz.zeroValue5
  t9 := Tryz.underlying9
  a9 := Tryz.isAgg9
  z9 := Tryz.sizeOf9
  v9 := Tryz.zeroValue9
  t22 := Tryz.underlying30
  a22 := Tryz.isAgg30
  z22 := Tryz.sizeOf30
  v22 := Tryz.zeroValue30
  t25 := Tryz.underlying134
  a25 := Tryz.isAgg134
  z25 := Tryz.sizeOf134
  v25 := Tryz.zeroValue134
  t39 := Tryz.underlying152
  a39 := Tryz.isAgg152
  z39 := Tryz.sizeOf152
  v39 := Tryz.zeroValue152
  t45 := Tryz.underlying180
  a45 := Tryz.isAgg180
  z45 := Tryz.sizeOf180
  v45 := Tryz.zeroValue180
  t46 := Tryz.underlying181
  a46 := Tryz.isAgg181
  z46 := Tryz.sizeOf181
  v46 := Tryz.zeroValue181
  t50 := Tryz.underlying121
  a50 := Tryz.isAgg121
  z50 := Tryz.sizeOf121
  v50 := Tryz.zeroValue121
  t53 := Tryz.underlying47
  a53 := Tryz.isAgg47
  z53 := Tryz.sizeOf47
  v53 := Tryz.zeroValue47
  t55 := Tryz.underlying142
  a55 := Tryz.isAgg142
  z55 := Tryz.sizeOf142
  v55 := Tryz.zeroValue142
  t66 := Tryz.underlying205
  a66 := Tryz.isAgg205
  z66 := Tryz.sizeOf205
  v66 := Tryz.zeroValue205
  t70 := Tryz.underlying209
  a70 := Tryz.isAgg209
  z70 := Tryz.sizeOf209
  v70 := Tryz.zeroValue209
  t76 := Tryz.underlying219
  a76 := Tryz.isAgg219
  z76 := Tryz.sizeOf219
  v76 := Tryz.zeroValue219
  t77 := Tryz.underlying220
  a77 := Tryz.isAgg220
  z77 := Tryz.sizeOf220
  v77 := Tryz.zeroValue220 }
end Go.Proofs
