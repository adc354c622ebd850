/- The abstract layer, part Z10: bytes that are appended to a slice beside other blocks. -/
import Derived.Test.YtblfodnajpamfaaGreatDoorZ9
set_option linter.unusedSimpArgs false
set_option linter.unusedVariables false
set_option linter.unusedSectionVars false
namespace Go.Ab
open Go Go.RowKit
structure Stop (p : Prop) : Prop where
  on : p
theorem stop_i {p : Prop} (h : Stop p) : p := h.on
section
variable {P : Program} {N : Nat} {S : St} {K : St → Prop} {t : List (Nat × SV)} {h h0 : Heap}
end
end Go.Ab
