/- The abstract layer, part Z9: bytes that are appended to a slice, which becomes a string. -/
import Derived.Test.YtblfodnajpamfaaGreatDoorZ7
set_option linter.unusedSimpArgs false
set_option linter.unusedVariables false
set_option linter.unusedSectionVars false
namespace Go.Ab
open Go Go.RowKit
section
variable {P : Program} {N : Nat} {S : St} {K : St → Prop} {t : List (Nat × SV)} {h h0 : Heap}
end
end Go.Ab
