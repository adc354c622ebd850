/- The abstract layer, part Z16: the library's sort of plain values by a comparison that parts them all. -/
import Derived.Test.YtpidncgibgiidaaGreatZ12
import Derived.Shelf.SlSortCmp.NoneTotal
set_option linter.unusedVariables false
set_option linter.unusedSectionVars false
set_option linter.unusedSimpArgs false
namespace Go.Ab
open Go.RowKit Go.Sort Go.Proofs Go.Shelf
section
variable {P : Program} {M : Nat → Prop} {h : Heap} {w : World} {α : Type} [Inhabited α]
end
end Go.Ab
