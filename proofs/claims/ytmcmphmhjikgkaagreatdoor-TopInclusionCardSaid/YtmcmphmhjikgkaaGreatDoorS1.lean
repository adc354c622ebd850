/-
  DERIVED: THE SHELF's CONTRACTS AT THIS DUMP, IN PLAIN WORDS (tools/lay-plain.mjs out of 'TryzShelf.lean', which tools/lay-shelf.mjs wrote): THE SAME DECLARATIONS UNDER THE SAME NAMES: 'import', 'namespace', 'open', 'def', 'theorem' AND NOTHING ELSE: no command of the shelf's: FOR A HAND-IN. Each laying: the table of numbers ('.._ren') and one theorem, a field a fact of the dump's own or the kernel's comparison; each contract: ONE APPLICATION.
-/
import Derived.Shelf.Small.Bits
import Derived.Shelf.Strconv.Itoa0
import Derived.Shelf.Strconv.Itoa1
import Derived.Shelf.LaysM
import Derived.Shelf.Strconv.Itoa2
import Derived.Shelf.Strconv.Itoa3
import Derived.Test.YtmcmphmhjikgkaaGreatDoorProg
namespace Go.Proofs
open Go.Shelf
def Tryz.laysM171_ren : Go.Shelf.Ren := ⟨fun | 171 => 106 | 243 => 137 | 246 => 168 | 283 => 178 | 284 => 179 | 285 => 180 | 286 => 181 | 129 => 127 | 317 => 184 | 318 => 185 | 319 => 186 | 320 => 187 | 337 => 114 | 338 => 188 | n => n, fun | 3 => 3 | 9 => 9 | 2 => 2 | 4 => 4 | 171 => 265 | 0 => 0 | 53 => 181 | 37 => 51 | 5 => 5 | 173 => 267 | 212 => 273 | 51 => 29 | 20 => 20 | 213 => 274 | 46 => 190 | 232 => 238 | 233 => 275 | n => n, fun | 17 => 1 | 18 => 0 | 19 => 2 | n => n⟩
theorem Tryz.laysM171 : Go.Proofs.LaysM.n171 Tryz.prog Tryz.laysM171_ren := {
  mixed := by kernel_rfl
  f129 := Tryz.func127.trans (congrArg some (by kernel_rfl))
  f171 := Tryz.func106.trans (congrArg some (by kernel_rfl))
  f243 := Tryz.func137.trans (congrArg some (by kernel_rfl))
  f246 := Tryz.func168.trans (congrArg some (by kernel_rfl))
  f283 := Tryz.func178.trans (congrArg some (by kernel_rfl))
  f284 := Tryz.func179.trans (congrArg some (by kernel_rfl))
  f285 := Tryz.func180.trans (congrArg some (by kernel_rfl))
  f286 := Tryz.func181.trans (congrArg some (by kernel_rfl))
  f317 := Tryz.func184.trans (congrArg some (by kernel_rfl))
  f318 := Tryz.func185.trans (congrArg some (by kernel_rfl))
  f319 := Tryz.func186.trans (congrArg some (by kernel_rfl))
  f320 := Tryz.func187.trans (congrArg some (by kernel_rfl))
  f337 := Tryz.func114.trans (congrArg some (by kernel_rfl))
  f338 := Tryz.func188.trans (congrArg some (by kernel_rfl))
  t0 := Tryz.underlying0
  a0 := Tryz.isAgg0
  z0 := Tryz.sizeOf0
  v0 := Tryz.zeroValue0
  t2 := Tryz.underlying2
  a2 := Tryz.isAgg2
  z2 := Tryz.sizeOf2
  v2 := Tryz.zeroValue2
  t3 := Tryz.underlying3
  a3 := Tryz.isAgg3
  z3 := Tryz.sizeOf3
  v3 := Tryz.zeroValue3
  t4 := Tryz.underlying4
  a4 := Tryz.isAgg4
  z4 := Tryz.sizeOf4
  v4 := Tryz.zeroValue4
  t5 := Tryz.underlying5
  a5 := Tryz.isAgg5
  z5 := Tryz.sizeOf5
  v5 := Tryz.zeroValue5
  t9 := Tryz.underlying9
  a9 := Tryz.isAgg9
  z9 := Tryz.sizeOf9
  v9 := Tryz.zeroValue9
  t20 := Tryz.underlying20
  a20 := Tryz.isAgg20
  z20 := Tryz.sizeOf20
  v20 := Tryz.zeroValue20
  t37 := Tryz.underlying51
  a37 := Tryz.isAgg51
  z37 := Tryz.sizeOf51
  v37 := Tryz.zeroValue51
  t46 := Tryz.underlying190
  a46 := Tryz.isAgg190
  z46 := Tryz.sizeOf190
  v46 := Tryz.zeroValue190
  t51 := Tryz.underlying29
  a51 := Tryz.isAgg29
  z51 := Tryz.sizeOf29
  v51 := Tryz.zeroValue29
  t53 := Tryz.underlying181
  a53 := Tryz.isAgg181
  z53 := Tryz.sizeOf181
  v53 := Tryz.zeroValue181
  t171 := Tryz.underlying265
  a171 := Tryz.isAgg265
  z171 := Tryz.sizeOf265
  v171 := Tryz.zeroValue265
  t173 := Tryz.underlying267
  a173 := Tryz.isAgg267
  z173 := Tryz.sizeOf267
  v173 := Tryz.zeroValue267
  t212 := Tryz.underlying273
  a212 := Tryz.isAgg273
  z212 := Tryz.sizeOf273
  v212 := Tryz.zeroValue273
  t213 := Tryz.underlying274
  a213 := Tryz.isAgg274
  z213 := Tryz.sizeOf274
  t232 := Tryz.underlying238
  a232 := Tryz.isAgg238
  z232 := Tryz.sizeOf238
  v232 := Tryz.zeroValue238
  t233 := Tryz.underlying275
  a233 := Tryz.isAgg275
  z233 := Tryz.sizeOf275
  v233 := Tryz.zeroValue275
  g17 := by kernel_rfl
  g18 := by kernel_rfl
  g19 := by kernel_rfl
  i0 := by kernel_rfl
  i2 := by kernel_rfl
  i3 := by kernel_rfl
  i4 := by kernel_rfl
  i5 := by kernel_rfl
  i9 := by kernel_rfl
  i20 := by kernel_rfl
  i37 := by kernel_rfl
  i46 := by kernel_rfl
  i51 := by kernel_rfl
  i53 := by kernel_rfl
  i171 := by kernel_rfl
  i173 := by kernel_rfl
  i212 := by kernel_rfl
  i232 := by kernel_rfl
  i233 := by kernel_rfl
  m17 := by kernel_rfl
  m18 := by kernel_rfl
  m19 := by kernel_rfl }
open Go.RowKit Go.Sort Go.Lib in
theorem Tryz.strconv_Itoa (n : Int) (h0 : -9223372036854775808 ≤ n) (h1 : n ≤ 9223372036854775807) (w : World) (htab : Lib.TabIs Tryz.prog w "internal/strconv.uint64pow10" .u64 Lib.pow10Tab) :
    Calls Tryz.prog 106 #[.int .i64 n] w fun e w' => e = .returned (.string ⟨(Lib.itoa n).toArray⟩) ∧ ∃ k os, w' = grow (w.drewN k) os := Any.strconv_Itoa Tryz.laysM171 n h0 h1 w htab
end Go.Proofs
