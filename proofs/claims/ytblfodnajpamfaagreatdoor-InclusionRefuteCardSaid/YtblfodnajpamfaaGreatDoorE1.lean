/- Contracts: a builder of bytes: copyCheck, String. -/
import Derived.Test.YtblfodnajpamfaaGreatDoorChecked
import Derived.Test.YtblfodnajpamfaaGreatDoorZ11
import Derived.Test.YtblfodnajpamfaaGreatDoorZ9
import Derived.Lib.Builder
import Derived.Lib.UnsafeStr
import Derived.Lib.Strings
import Derived.Lib.Slices
import Derived.Lib.Walk
import Derived.WalkKit
import Derived.Laws.Externs
import Derived.BigCall
import Derived.BigGuard
set_option linter.unusedSimpArgs false
set_option linter.unusedVariables false
set_option linter.unusedSectionVars false
namespace Go.Proofs
open Go Go.RowKit
end Go.Proofs
namespace Go.Proofs.YtblfodnajpamfaaGreatDoor
open Go Go.Ab
variable [Gl]
section
variable {M : Nat → Prop} {w : World} {h : Heap}
end
end Go.Proofs.YtblfodnajpamfaaGreatDoor
