/- What the tables of this program say of its types. -/
import Derived.Test.YtblfodnajpamfaaDoorZ3
import Derived.Test.YtblfodnajpamfaaDoorProg
import Derived.KernelRfl
namespace Go.Proofs.YtblfodnajpamfaaDoor
open Go Go.Ab

end Go.Proofs.YtblfodnajpamfaaDoor
