/-
  NARROWER THAN 'FOR EVERY INPUT', by the rows' own cells (each row's printed sentence says how): ValueValid: laid · ValueCompare: laid · ValueOrder: laid · ValueFormat: laid · ValueParse: laid · ValueMake: laid · ValueKey: laid · ValueFromKey: laid · ValueDecode: laid.
  DERIVED. THE GIVEN ROWS OF THIS SEAT. 9 by the template 'for every input the law returns true; each argument reads behind the call as it read before'; 0 by the template 'total and deterministic' (their statements: YtpkdknfdhhgbgaaDoorTotals.lean).
  GIVEN WITH THE SEED: the statements are not yours to turn. If you find one false, say at which input.
  Laid BY PROGRAM, IN A SANDBOX (cutbox-rows.mjs): the forced cells as the released guide's own fill.sh prints them over the translation d519e57754e93892… (all of the seat's roots in one cut). By AI agents, Wed Nov 11 2026. No macro, syntax, notation, axiom, sorry.
-/
import Derived.Test.YtpkdknfdhhgbgaaDoorChecked
import GoSem.Claim
import GoSem.ClaimJoined
import GoSem.ClaimMapViews
import Derived.JoinedTies
import Derived.KernelRfl
namespace Go.Proofs.YtpkdknfdhhgbgaaDoor
/- THE CELL 'sum', in the pinned program and in every row, IS THE sha256 OF THE DUMP (.gsa) THAT YtpkdknfdhhgbgaaDoorProg.lean LOADS. Nothing in Lean hashes anything: it is a label: what it is worth is what the hold of that sum in a sandbox is worth. -/
noncomputable def Tryd.pinned : Pinned := { name := "ytpkdknfdhhgbgaadoor", sum := "d519e57754e93892cc105afb84c85da54f3c4147fb3997106609f86cc2d93ec3", checked := Tryd.checked }
namespace Rows
def none {H : Type} : Left H := { results := [], args := [] }

/- WHAT THE LISTED PACKAGE-LEVEL VARIABLES READ AS WHEN THE CALL BEGINS. Each datum BY PROGRAM (the guide's laid-datum.mjs) off the statement by which the dump's own 'gosem.cut.vars' lays the variable. In a bare row this is a premise. The card (YtpkdknfdhhgbgaaDoorCards.lean) ties it to the program's text. -/
def laid_math_bits_deBruijn32tab {H : Type} : DataW H := .agg [.lit (.int .u8 0), .lit (.int .u8 1), .lit (.int .u8 28), .lit (.int .u8 2), .lit (.int .u8 29), .lit (.int .u8 14), .lit (.int .u8 24), .lit (.int .u8 3), .lit (.int .u8 30), .lit (.int .u8 22), .lit (.int .u8 20), .lit (.int .u8 15), .lit (.int .u8 25), .lit (.int .u8 17), .lit (.int .u8 4), .lit (.int .u8 8), .lit (.int .u8 31), .lit (.int .u8 27), .lit (.int .u8 13), .lit (.int .u8 23), .lit (.int .u8 21), .lit (.int .u8 19), .lit (.int .u8 16), .lit (.int .u8 7), .lit (.int .u8 26), .lit (.int .u8 12), .lit (.int .u8 18), .lit (.int .u8 6), .lit (.int .u8 11), .lit (.int .u8 5), .lit (.int .u8 10), .lit (.int .u8 9)]
def laid_math_bits_deBruijn64tab {H : Type} : DataW H := .agg [.lit (.int .u8 0), .lit (.int .u8 1), .lit (.int .u8 56), .lit (.int .u8 2), .lit (.int .u8 57), .lit (.int .u8 49), .lit (.int .u8 28), .lit (.int .u8 3), .lit (.int .u8 61), .lit (.int .u8 58), .lit (.int .u8 42), .lit (.int .u8 50), .lit (.int .u8 38), .lit (.int .u8 29), .lit (.int .u8 17), .lit (.int .u8 4), .lit (.int .u8 62), .lit (.int .u8 47), .lit (.int .u8 59), .lit (.int .u8 36), .lit (.int .u8 45), .lit (.int .u8 43), .lit (.int .u8 51), .lit (.int .u8 22), .lit (.int .u8 53), .lit (.int .u8 39), .lit (.int .u8 33), .lit (.int .u8 30), .lit (.int .u8 24), .lit (.int .u8 18), .lit (.int .u8 12), .lit (.int .u8 5), .lit (.int .u8 63), .lit (.int .u8 55), .lit (.int .u8 48), .lit (.int .u8 27), .lit (.int .u8 60), .lit (.int .u8 41), .lit (.int .u8 37), .lit (.int .u8 16), .lit (.int .u8 46), .lit (.int .u8 35), .lit (.int .u8 44), .lit (.int .u8 21), .lit (.int .u8 52), .lit (.int .u8 32), .lit (.int .u8 23), .lit (.int .u8 11), .lit (.int .u8 54), .lit (.int .u8 26), .lit (.int .u8 40), .lit (.int .u8 15), .lit (.int .u8 34), .lit (.int .u8 20), .lit (.int .u8 31), .lit (.int .u8 10), .lit (.int .u8 25), .lit (.int .u8 14), .lit (.int .u8 19), .lit (.int .u8 9), .lit (.int .u8 13), .lit (.int .u8 8), .lit (.int .u8 7), .lit (.int .u8 6)]
def laid_internal_strconv_uint64pow10 {H : Type} : DataW H := .agg [.lit (.int .u64 1), .lit (.int .u64 10), .lit (.int .u64 100), .lit (.int .u64 1000), .lit (.int .u64 10000), .lit (.int .u64 100000), .lit (.int .u64 1000000), .lit (.int .u64 10000000), .lit (.int .u64 100000000), .lit (.int .u64 1000000000), .lit (.int .u64 10000000000), .lit (.int .u64 100000000000), .lit (.int .u64 1000000000000), .lit (.int .u64 10000000000000), .lit (.int .u64 100000000000000), .lit (.int .u64 1000000000000000), .lit (.int .u64 10000000000000000), .lit (.int .u64 100000000000000000), .lit (.int .u64 1000000000000000000), .lit (.int .u64 10000000000000000000)]
def laid_strconv_ErrRange {H : Type} : DataW H := .iface "*errors.errorString" (.ptr (.agg [.lit (.string [118, 97, 108, 117, 101, 32, 111, 117, 116, 32, 111, 102, 32, 114, 97, 110, 103, 101])]))
def laid_strconv_ErrSyntax {H : Type} : DataW H := .iface "*errors.errorString" (.ptr (.agg [.lit (.string [105, 110, 118, 97, 108, 105, 100, 32, 115, 121, 110, 116, 97, 120])]))

/-- 'drosslaw01.ValueValid': WHATEVER THE INPUT: true; the input reads as it did. -/
def valueValidSpec : ChangeSpec := { name := "valueValid", fn := fun _ => fun
  | [d] => { results := [.lit (.bool true)], args := [d] }
  | _ => none }
def valueValidRow : OpenClaim := { program := "ytpkdknfdhhgbgaadoor", sum := "d519e57754e93892cc105afb84c85da54f3c4147fb3997106609f86cc2d93ec3", func := "dross/drosslaw01.ValueValid", spec := "valueValid", inPlace := ["internal/bytealg.abigen_runtime_cmpstring"], named := ["internal/strconv.uint64pow10", "math/bits.deBruijn32tab", "math/bits.deBruijn64tab", "strconv.ErrSyntax", "strconv.ErrRange"], apart := false, laid := [("math/bits.deBruijn32tab", laid_math_bits_deBruijn32tab), ("math/bits.deBruijn64tab", laid_math_bits_deBruijn64tab), ("internal/strconv.uint64pow10", laid_internal_strconv_uint64pow10), ("strconv.ErrRange", laid_strconv_ErrRange), ("strconv.ErrSyntax", laid_strconv_ErrSyntax)] }
def ValueValidSaid : Prop := valueValidRow.holds Tryd.pinned (OpenSpec.ofChange valueValidSpec)

/-- ITS FALSE NEIGHBOUR: 'it returns false'. Refute it at one input. -/
def valueValidWrong : ChangeSpec := { name := "valueValid", fn := fun _ => fun
  | [d] => { results := [.lit (.bool false)], args := [d] }
  | _ => none }
def ValueValidWrongFalsely : Prop := valueValidRow.holds Tryd.pinned (OpenSpec.ofChange valueValidWrong)

/-- 'drosslaw01.ValueCompare': WHATEVER THE INPUT: true; the input reads as it did. -/
def valueCompareSpec : ChangeSpec := { name := "valueCompare", fn := fun _ => fun
  | [d1, d2] => { results := [.lit (.bool true)], args := [d1, d2] }
  | _ => none }
def valueCompareRow : OpenClaim := { program := "ytpkdknfdhhgbgaadoor", sum := "d519e57754e93892cc105afb84c85da54f3c4147fb3997106609f86cc2d93ec3", func := "dross/drosslaw01.ValueCompare", spec := "valueCompare", inPlace := ["internal/bytealg.abigen_runtime_cmpstring"], named := ["internal/strconv.uint64pow10", "math/bits.deBruijn32tab", "math/bits.deBruijn64tab", "strconv.ErrSyntax", "strconv.ErrRange"], apart := false, laid := [("math/bits.deBruijn32tab", laid_math_bits_deBruijn32tab), ("math/bits.deBruijn64tab", laid_math_bits_deBruijn64tab), ("internal/strconv.uint64pow10", laid_internal_strconv_uint64pow10), ("strconv.ErrRange", laid_strconv_ErrRange), ("strconv.ErrSyntax", laid_strconv_ErrSyntax)] }
def ValueCompareSaid : Prop := valueCompareRow.holds Tryd.pinned (OpenSpec.ofChange valueCompareSpec)

/-- ITS FALSE NEIGHBOUR: 'it returns false'. Refute it at one input. -/
def valueCompareWrong : ChangeSpec := { name := "valueCompare", fn := fun _ => fun
  | [d1, d2] => { results := [.lit (.bool false)], args := [d1, d2] }
  | _ => none }
def ValueCompareWrongFalsely : Prop := valueCompareRow.holds Tryd.pinned (OpenSpec.ofChange valueCompareWrong)

/-- 'drosslaw01.ValueOrder': WHATEVER THE INPUT: true; the input reads as it did. -/
def valueOrderSpec : ChangeSpec := { name := "valueOrder", fn := fun _ => fun
  | [d] => { results := [.lit (.bool true)], args := [d] }
  | _ => none }
def valueOrderRow : OpenClaim := { program := "ytpkdknfdhhgbgaadoor", sum := "d519e57754e93892cc105afb84c85da54f3c4147fb3997106609f86cc2d93ec3", func := "dross/drosslaw01.ValueOrder", spec := "valueOrder", inPlace := ["internal/bytealg.abigen_runtime_cmpstring"], named := ["internal/strconv.uint64pow10", "math/bits.deBruijn32tab", "math/bits.deBruijn64tab", "strconv.ErrSyntax", "strconv.ErrRange"], apart := false, laid := [("math/bits.deBruijn32tab", laid_math_bits_deBruijn32tab), ("math/bits.deBruijn64tab", laid_math_bits_deBruijn64tab), ("internal/strconv.uint64pow10", laid_internal_strconv_uint64pow10), ("strconv.ErrRange", laid_strconv_ErrRange), ("strconv.ErrSyntax", laid_strconv_ErrSyntax)] }
def ValueOrderSaid : Prop := valueOrderRow.holds Tryd.pinned (OpenSpec.ofChange valueOrderSpec)

/-- ITS FALSE NEIGHBOUR: 'it returns false'. Refute it at one input. -/
def valueOrderWrong : ChangeSpec := { name := "valueOrder", fn := fun _ => fun
  | [d] => { results := [.lit (.bool false)], args := [d] }
  | _ => none }
def ValueOrderWrongFalsely : Prop := valueOrderRow.holds Tryd.pinned (OpenSpec.ofChange valueOrderWrong)

/-- 'drosslaw01.ValueFormat': WHATEVER THE INPUT: true; the input reads as it did. -/
def valueFormatSpec : ChangeSpec := { name := "valueFormat", fn := fun _ => fun
  | [d] => { results := [.lit (.bool true)], args := [d] }
  | _ => none }
def valueFormatRow : OpenClaim := { program := "ytpkdknfdhhgbgaadoor", sum := "d519e57754e93892cc105afb84c85da54f3c4147fb3997106609f86cc2d93ec3", func := "dross/drosslaw01.ValueFormat", spec := "valueFormat", inPlace := ["internal/bytealg.abigen_runtime_cmpstring"], recurses := true, named := ["internal/strconv.uint64pow10", "math/bits.deBruijn32tab", "math/bits.deBruijn64tab", "strconv.ErrSyntax", "strconv.ErrRange"], apart := false, laid := [("math/bits.deBruijn32tab", laid_math_bits_deBruijn32tab), ("math/bits.deBruijn64tab", laid_math_bits_deBruijn64tab), ("internal/strconv.uint64pow10", laid_internal_strconv_uint64pow10), ("strconv.ErrRange", laid_strconv_ErrRange), ("strconv.ErrSyntax", laid_strconv_ErrSyntax)] }
def ValueFormatSaid : Prop := valueFormatRow.holds Tryd.pinned (OpenSpec.ofChange valueFormatSpec)

/-- ITS FALSE NEIGHBOUR: 'it returns false'. Refute it at one input. -/
def valueFormatWrong : ChangeSpec := { name := "valueFormat", fn := fun _ => fun
  | [d] => { results := [.lit (.bool false)], args := [d] }
  | _ => none }
def ValueFormatWrongFalsely : Prop := valueFormatRow.holds Tryd.pinned (OpenSpec.ofChange valueFormatWrong)

/-- 'drosslaw01.ValueParse': WHATEVER THE INPUT: true; the input reads as it did. -/
def valueParseSpec : ChangeSpec := { name := "valueParse", fn := fun _ => fun
  | [d] => { results := [.lit (.bool true)], args := [d] }
  | _ => none }
def valueParseRow : OpenClaim := { program := "ytpkdknfdhhgbgaadoor", sum := "d519e57754e93892cc105afb84c85da54f3c4147fb3997106609f86cc2d93ec3", func := "dross/drosslaw01.ValueParse", spec := "valueParse", inPlace := ["internal/bytealg.abigen_runtime_cmpstring"], recurses := true, named := ["internal/strconv.uint64pow10", "math/bits.deBruijn32tab", "math/bits.deBruijn64tab", "strconv.ErrSyntax", "strconv.ErrRange"], apart := false, laid := [("math/bits.deBruijn32tab", laid_math_bits_deBruijn32tab), ("math/bits.deBruijn64tab", laid_math_bits_deBruijn64tab), ("internal/strconv.uint64pow10", laid_internal_strconv_uint64pow10), ("strconv.ErrRange", laid_strconv_ErrRange), ("strconv.ErrSyntax", laid_strconv_ErrSyntax)] }
def ValueParseSaid : Prop := valueParseRow.holds Tryd.pinned (OpenSpec.ofChange valueParseSpec)

/-- ITS FALSE NEIGHBOUR: 'it returns false'. Refute it at one input. -/
def valueParseWrong : ChangeSpec := { name := "valueParse", fn := fun _ => fun
  | [d] => { results := [.lit (.bool false)], args := [d] }
  | _ => none }
def ValueParseWrongFalsely : Prop := valueParseRow.holds Tryd.pinned (OpenSpec.ofChange valueParseWrong)

/-- 'drosslaw01.ValueMake': WHATEVER THE INPUT: true; the input reads as it did. -/
def valueMakeSpec : ChangeSpec := { name := "valueMake", fn := fun _ => fun
  | [d1, d2] => { results := [.lit (.bool true)], args := [d1, d2] }
  | _ => none }
def valueMakeRow : OpenClaim := { program := "ytpkdknfdhhgbgaadoor", sum := "d519e57754e93892cc105afb84c85da54f3c4147fb3997106609f86cc2d93ec3", func := "dross/drosslaw01.ValueMake", spec := "valueMake", inPlace := ["internal/bytealg.abigen_runtime_cmpstring"], named := ["internal/strconv.uint64pow10", "math/bits.deBruijn32tab", "math/bits.deBruijn64tab", "strconv.ErrSyntax", "strconv.ErrRange"], apart := false, laid := [("math/bits.deBruijn32tab", laid_math_bits_deBruijn32tab), ("math/bits.deBruijn64tab", laid_math_bits_deBruijn64tab), ("internal/strconv.uint64pow10", laid_internal_strconv_uint64pow10), ("strconv.ErrRange", laid_strconv_ErrRange), ("strconv.ErrSyntax", laid_strconv_ErrSyntax)] }
def ValueMakeSaid : Prop := valueMakeRow.holds Tryd.pinned (OpenSpec.ofChange valueMakeSpec)

/-- ITS FALSE NEIGHBOUR: 'it returns false'. Refute it at one input. -/
def valueMakeWrong : ChangeSpec := { name := "valueMake", fn := fun _ => fun
  | [d1, d2] => { results := [.lit (.bool false)], args := [d1, d2] }
  | _ => none }
def ValueMakeWrongFalsely : Prop := valueMakeRow.holds Tryd.pinned (OpenSpec.ofChange valueMakeWrong)

/-- 'drosslaw01.ValueKey': WHATEVER THE INPUT: true; the input reads as it did. -/
def valueKeySpec : ChangeSpec := { name := "valueKey", fn := fun _ => fun
  | [d1, d2, d3] => { results := [.lit (.bool true)], args := [d1, d2, d3] }
  | _ => none }
def valueKeyRow : OpenClaim := { program := "ytpkdknfdhhgbgaadoor", sum := "d519e57754e93892cc105afb84c85da54f3c4147fb3997106609f86cc2d93ec3", func := "dross/drosslaw01.ValueKey", spec := "valueKey", inPlace := ["internal/bytealg.abigen_runtime_cmpstring"], named := ["internal/strconv.uint64pow10", "math/bits.deBruijn32tab", "math/bits.deBruijn64tab", "strconv.ErrSyntax", "strconv.ErrRange"], apart := false, laid := [("math/bits.deBruijn32tab", laid_math_bits_deBruijn32tab), ("math/bits.deBruijn64tab", laid_math_bits_deBruijn64tab), ("internal/strconv.uint64pow10", laid_internal_strconv_uint64pow10), ("strconv.ErrRange", laid_strconv_ErrRange), ("strconv.ErrSyntax", laid_strconv_ErrSyntax)] }
def ValueKeySaid : Prop := valueKeyRow.holds Tryd.pinned (OpenSpec.ofChange valueKeySpec)

/-- ITS FALSE NEIGHBOUR: 'it returns false'. Refute it at one input. -/
def valueKeyWrong : ChangeSpec := { name := "valueKey", fn := fun _ => fun
  | [d1, d2, d3] => { results := [.lit (.bool false)], args := [d1, d2, d3] }
  | _ => none }
def ValueKeyWrongFalsely : Prop := valueKeyRow.holds Tryd.pinned (OpenSpec.ofChange valueKeyWrong)

/-- 'drosslaw01.ValueFromKey': WHATEVER THE INPUT: true; the input reads as it did. -/
def valueFromKeySpec : ChangeSpec := { name := "valueFromKey", fn := fun _ => fun
  | [d1, d2] => { results := [.lit (.bool true)], args := [d1, d2] }
  | _ => none }
def valueFromKeyRow : OpenClaim := { program := "ytpkdknfdhhgbgaadoor", sum := "d519e57754e93892cc105afb84c85da54f3c4147fb3997106609f86cc2d93ec3", func := "dross/drosslaw01.ValueFromKey", spec := "valueFromKey", inPlace := ["internal/bytealg.abigen_runtime_cmpstring"], named := ["internal/strconv.uint64pow10", "math/bits.deBruijn32tab", "math/bits.deBruijn64tab", "strconv.ErrSyntax", "strconv.ErrRange"], apart := false, laid := [("math/bits.deBruijn32tab", laid_math_bits_deBruijn32tab), ("math/bits.deBruijn64tab", laid_math_bits_deBruijn64tab), ("internal/strconv.uint64pow10", laid_internal_strconv_uint64pow10), ("strconv.ErrRange", laid_strconv_ErrRange), ("strconv.ErrSyntax", laid_strconv_ErrSyntax)] }
def ValueFromKeySaid : Prop := valueFromKeyRow.holds Tryd.pinned (OpenSpec.ofChange valueFromKeySpec)

/-- ITS FALSE NEIGHBOUR: 'it returns false'. Refute it at one input. -/
def valueFromKeyWrong : ChangeSpec := { name := "valueFromKey", fn := fun _ => fun
  | [d1, d2] => { results := [.lit (.bool false)], args := [d1, d2] }
  | _ => none }
def ValueFromKeyWrongFalsely : Prop := valueFromKeyRow.holds Tryd.pinned (OpenSpec.ofChange valueFromKeyWrong)

/-- 'drosslaw01.ValueDecode': WHATEVER THE INPUT: true; the input reads as it did. -/
def valueDecodeSpec : ChangeSpec := { name := "valueDecode", fn := fun _ => fun
  | [d] => { results := [.lit (.bool true)], args := [d] }
  | _ => none }
def valueDecodeRow : OpenClaim := { program := "ytpkdknfdhhgbgaadoor", sum := "d519e57754e93892cc105afb84c85da54f3c4147fb3997106609f86cc2d93ec3", func := "dross/drosslaw01.ValueDecode", spec := "valueDecode", inPlace := ["internal/bytealg.abigen_runtime_cmpstring"], named := ["internal/strconv.uint64pow10", "math/bits.deBruijn32tab", "math/bits.deBruijn64tab", "strconv.ErrSyntax", "strconv.ErrRange"], apart := false, laid := [("math/bits.deBruijn32tab", laid_math_bits_deBruijn32tab), ("math/bits.deBruijn64tab", laid_math_bits_deBruijn64tab), ("internal/strconv.uint64pow10", laid_internal_strconv_uint64pow10), ("strconv.ErrRange", laid_strconv_ErrRange), ("strconv.ErrSyntax", laid_strconv_ErrSyntax)] }
def ValueDecodeSaid : Prop := valueDecodeRow.holds Tryd.pinned (OpenSpec.ofChange valueDecodeSpec)

/-- ITS FALSE NEIGHBOUR: 'it returns false'. Refute it at one input. -/
def valueDecodeWrong : ChangeSpec := { name := "valueDecode", fn := fun _ => fun
  | [d] => { results := [.lit (.bool false)], args := [d] }
  | _ => none }
def ValueDecodeWrongFalsely : Prop := valueDecodeRow.holds Tryd.pinned (OpenSpec.ofChange valueDecodeWrong)

/- THE SECOND FORM. 'bulk': how many values and letters a reading holds, each counted each time it is reached (what is shared counts as often as it is met; a slice's spare places count too). A statement '..UptoSaid' is the law's where the arguments, and the package variables that the reading takes, are together of bulk at most 1048576: NARROWER than '..Said'. Prove '..Said' where nothing that the law and all that it calls make is longer than what came in: it says more and counts as full. Else prove '..UptoSaid'. A law counts once. -/
mutual
def uptoBulk {H : Type} : DataW H → Nat
  | .lit (.string bytes) => bytes.length + 1
  | .lit _ => 1
  | .nil => 1
  | .ptr d => uptoBulk d + 1
  | .slice elems spare => uptoBulkAll elems + uptoBulkAll spare + 1
  | .agg parts => uptoBulkAll parts + 1
  | .iface _ d => uptoBulk d + 1
  | .map entries => uptoBulkEntries entries + 1
  | .held _ => 1
def uptoBulkAll {H : Type} : List (DataW H) → Nat
  | [] => 0
  | d :: r => uptoBulk d + uptoBulkAll r
def uptoBulkEntries {H : Type} : List (Lit × DataW H) → Nat
  | [] => 0
  | x :: r => uptoBulkEntry x + uptoBulkEntries r
def uptoBulkEntry {H : Type} : Lit × DataW H → Nat
  | (.string bytes, d) => bytes.length + uptoBulk d + 1
  | (_, d) => uptoBulk d + 1
 end
def uptoSmall : (H : Type) → List (DataW H) → Bool := fun _ ds => decide (uptoBulkAll ds ≤ 1048576)
def OpenSpec.upto (s : _root_.Go.ChangeSpec) : _root_.Go.OpenSpec := { _root_.Go.OpenSpec.ofChange s with cond := some uptoSmall }

/-- 'drosslaw01.ValueValid', WHERE WHAT IT READS IS OF BULK AT MOST 1048576: true; the input reads as it did. -/
def valueValidUptoRow : OpenClaim := { program := "ytpkdknfdhhgbgaadoor", sum := "d519e57754e93892cc105afb84c85da54f3c4147fb3997106609f86cc2d93ec3", func := "dross/drosslaw01.ValueValid", spec := "valueValid", inPlace := ["internal/bytealg.abigen_runtime_cmpstring"], named := ["internal/strconv.uint64pow10", "math/bits.deBruijn32tab", "math/bits.deBruijn64tab", "strconv.ErrSyntax", "strconv.ErrRange"], apart := false, laid := [("math/bits.deBruijn32tab", laid_math_bits_deBruijn32tab), ("math/bits.deBruijn64tab", laid_math_bits_deBruijn64tab), ("internal/strconv.uint64pow10", laid_internal_strconv_uint64pow10), ("strconv.ErrRange", laid_strconv_ErrRange), ("strconv.ErrSyntax", laid_strconv_ErrSyntax)], narrowed := true }
def ValueValidUptoSaid : Prop := valueValidUptoRow.holds Tryd.pinned (OpenSpec.upto valueValidSpec)

/-- 'drosslaw01.ValueCompare', WHERE WHAT IT READS IS OF BULK AT MOST 1048576: true; the input reads as it did. -/
def valueCompareUptoRow : OpenClaim := { program := "ytpkdknfdhhgbgaadoor", sum := "d519e57754e93892cc105afb84c85da54f3c4147fb3997106609f86cc2d93ec3", func := "dross/drosslaw01.ValueCompare", spec := "valueCompare", inPlace := ["internal/bytealg.abigen_runtime_cmpstring"], named := ["internal/strconv.uint64pow10", "math/bits.deBruijn32tab", "math/bits.deBruijn64tab", "strconv.ErrSyntax", "strconv.ErrRange"], apart := false, laid := [("math/bits.deBruijn32tab", laid_math_bits_deBruijn32tab), ("math/bits.deBruijn64tab", laid_math_bits_deBruijn64tab), ("internal/strconv.uint64pow10", laid_internal_strconv_uint64pow10), ("strconv.ErrRange", laid_strconv_ErrRange), ("strconv.ErrSyntax", laid_strconv_ErrSyntax)], narrowed := true }
def ValueCompareUptoSaid : Prop := valueCompareUptoRow.holds Tryd.pinned (OpenSpec.upto valueCompareSpec)

/-- 'drosslaw01.ValueOrder', WHERE WHAT IT READS IS OF BULK AT MOST 1048576: true; the input reads as it did. -/
def valueOrderUptoRow : OpenClaim := { program := "ytpkdknfdhhgbgaadoor", sum := "d519e57754e93892cc105afb84c85da54f3c4147fb3997106609f86cc2d93ec3", func := "dross/drosslaw01.ValueOrder", spec := "valueOrder", inPlace := ["internal/bytealg.abigen_runtime_cmpstring"], named := ["internal/strconv.uint64pow10", "math/bits.deBruijn32tab", "math/bits.deBruijn64tab", "strconv.ErrSyntax", "strconv.ErrRange"], apart := false, laid := [("math/bits.deBruijn32tab", laid_math_bits_deBruijn32tab), ("math/bits.deBruijn64tab", laid_math_bits_deBruijn64tab), ("internal/strconv.uint64pow10", laid_internal_strconv_uint64pow10), ("strconv.ErrRange", laid_strconv_ErrRange), ("strconv.ErrSyntax", laid_strconv_ErrSyntax)], narrowed := true }
def ValueOrderUptoSaid : Prop := valueOrderUptoRow.holds Tryd.pinned (OpenSpec.upto valueOrderSpec)

/-- 'drosslaw01.ValueFormat', WHERE WHAT IT READS IS OF BULK AT MOST 1048576: true; the input reads as it did. -/
def valueFormatUptoRow : OpenClaim := { program := "ytpkdknfdhhgbgaadoor", sum := "d519e57754e93892cc105afb84c85da54f3c4147fb3997106609f86cc2d93ec3", func := "dross/drosslaw01.ValueFormat", spec := "valueFormat", inPlace := ["internal/bytealg.abigen_runtime_cmpstring"], recurses := true, named := ["internal/strconv.uint64pow10", "math/bits.deBruijn32tab", "math/bits.deBruijn64tab", "strconv.ErrSyntax", "strconv.ErrRange"], apart := false, laid := [("math/bits.deBruijn32tab", laid_math_bits_deBruijn32tab), ("math/bits.deBruijn64tab", laid_math_bits_deBruijn64tab), ("internal/strconv.uint64pow10", laid_internal_strconv_uint64pow10), ("strconv.ErrRange", laid_strconv_ErrRange), ("strconv.ErrSyntax", laid_strconv_ErrSyntax)], narrowed := true }
def ValueFormatUptoSaid : Prop := valueFormatUptoRow.holds Tryd.pinned (OpenSpec.upto valueFormatSpec)

/-- 'drosslaw01.ValueParse', WHERE WHAT IT READS IS OF BULK AT MOST 1048576: true; the input reads as it did. -/
def valueParseUptoRow : OpenClaim := { program := "ytpkdknfdhhgbgaadoor", sum := "d519e57754e93892cc105afb84c85da54f3c4147fb3997106609f86cc2d93ec3", func := "dross/drosslaw01.ValueParse", spec := "valueParse", inPlace := ["internal/bytealg.abigen_runtime_cmpstring"], recurses := true, named := ["internal/strconv.uint64pow10", "math/bits.deBruijn32tab", "math/bits.deBruijn64tab", "strconv.ErrSyntax", "strconv.ErrRange"], apart := false, laid := [("math/bits.deBruijn32tab", laid_math_bits_deBruijn32tab), ("math/bits.deBruijn64tab", laid_math_bits_deBruijn64tab), ("internal/strconv.uint64pow10", laid_internal_strconv_uint64pow10), ("strconv.ErrRange", laid_strconv_ErrRange), ("strconv.ErrSyntax", laid_strconv_ErrSyntax)], narrowed := true }
def ValueParseUptoSaid : Prop := valueParseUptoRow.holds Tryd.pinned (OpenSpec.upto valueParseSpec)

/-- 'drosslaw01.ValueMake', WHERE WHAT IT READS IS OF BULK AT MOST 1048576: true; the input reads as it did. -/
def valueMakeUptoRow : OpenClaim := { program := "ytpkdknfdhhgbgaadoor", sum := "d519e57754e93892cc105afb84c85da54f3c4147fb3997106609f86cc2d93ec3", func := "dross/drosslaw01.ValueMake", spec := "valueMake", inPlace := ["internal/bytealg.abigen_runtime_cmpstring"], named := ["internal/strconv.uint64pow10", "math/bits.deBruijn32tab", "math/bits.deBruijn64tab", "strconv.ErrSyntax", "strconv.ErrRange"], apart := false, laid := [("math/bits.deBruijn32tab", laid_math_bits_deBruijn32tab), ("math/bits.deBruijn64tab", laid_math_bits_deBruijn64tab), ("internal/strconv.uint64pow10", laid_internal_strconv_uint64pow10), ("strconv.ErrRange", laid_strconv_ErrRange), ("strconv.ErrSyntax", laid_strconv_ErrSyntax)], narrowed := true }
def ValueMakeUptoSaid : Prop := valueMakeUptoRow.holds Tryd.pinned (OpenSpec.upto valueMakeSpec)

/-- 'drosslaw01.ValueKey', WHERE WHAT IT READS IS OF BULK AT MOST 1048576: true; the input reads as it did. -/
def valueKeyUptoRow : OpenClaim := { program := "ytpkdknfdhhgbgaadoor", sum := "d519e57754e93892cc105afb84c85da54f3c4147fb3997106609f86cc2d93ec3", func := "dross/drosslaw01.ValueKey", spec := "valueKey", inPlace := ["internal/bytealg.abigen_runtime_cmpstring"], named := ["internal/strconv.uint64pow10", "math/bits.deBruijn32tab", "math/bits.deBruijn64tab", "strconv.ErrSyntax", "strconv.ErrRange"], apart := false, laid := [("math/bits.deBruijn32tab", laid_math_bits_deBruijn32tab), ("math/bits.deBruijn64tab", laid_math_bits_deBruijn64tab), ("internal/strconv.uint64pow10", laid_internal_strconv_uint64pow10), ("strconv.ErrRange", laid_strconv_ErrRange), ("strconv.ErrSyntax", laid_strconv_ErrSyntax)], narrowed := true }
def ValueKeyUptoSaid : Prop := valueKeyUptoRow.holds Tryd.pinned (OpenSpec.upto valueKeySpec)

/-- 'drosslaw01.ValueFromKey', WHERE WHAT IT READS IS OF BULK AT MOST 1048576: true; the input reads as it did. -/
def valueFromKeyUptoRow : OpenClaim := { program := "ytpkdknfdhhgbgaadoor", sum := "d519e57754e93892cc105afb84c85da54f3c4147fb3997106609f86cc2d93ec3", func := "dross/drosslaw01.ValueFromKey", spec := "valueFromKey", inPlace := ["internal/bytealg.abigen_runtime_cmpstring"], named := ["internal/strconv.uint64pow10", "math/bits.deBruijn32tab", "math/bits.deBruijn64tab", "strconv.ErrSyntax", "strconv.ErrRange"], apart := false, laid := [("math/bits.deBruijn32tab", laid_math_bits_deBruijn32tab), ("math/bits.deBruijn64tab", laid_math_bits_deBruijn64tab), ("internal/strconv.uint64pow10", laid_internal_strconv_uint64pow10), ("strconv.ErrRange", laid_strconv_ErrRange), ("strconv.ErrSyntax", laid_strconv_ErrSyntax)], narrowed := true }
def ValueFromKeyUptoSaid : Prop := valueFromKeyUptoRow.holds Tryd.pinned (OpenSpec.upto valueFromKeySpec)

/-- 'drosslaw01.ValueDecode', WHERE WHAT IT READS IS OF BULK AT MOST 1048576: true; the input reads as it did. -/
def valueDecodeUptoRow : OpenClaim := { program := "ytpkdknfdhhgbgaadoor", sum := "d519e57754e93892cc105afb84c85da54f3c4147fb3997106609f86cc2d93ec3", func := "dross/drosslaw01.ValueDecode", spec := "valueDecode", inPlace := ["internal/bytealg.abigen_runtime_cmpstring"], named := ["internal/strconv.uint64pow10", "math/bits.deBruijn32tab", "math/bits.deBruijn64tab", "strconv.ErrSyntax", "strconv.ErrRange"], apart := false, laid := [("math/bits.deBruijn32tab", laid_math_bits_deBruijn32tab), ("math/bits.deBruijn64tab", laid_math_bits_deBruijn64tab), ("internal/strconv.uint64pow10", laid_internal_strconv_uint64pow10), ("strconv.ErrRange", laid_strconv_ErrRange), ("strconv.ErrSyntax", laid_strconv_ErrSyntax)], narrowed := true }
def ValueDecodeUptoSaid : Prop := valueDecodeUptoRow.holds Tryd.pinned (OpenSpec.upto valueDecodeSpec)

end Rows
end Go.Proofs.YtpkdknfdhhgbgaaDoor
