/- Contract: Quote of the reference. -/
import Derived.Test.YtddkacbcecedaaaGreatDoorR4
import Derived.Test.YtddkacbcecedaaaGreatDoorP1
set_option linter.unusedSimpArgs false
set_option linter.unusedVariables false
set_option linter.unusedSectionVars false
namespace Go.Proofs.YtddkacbcecedaaaGreatDoor
open Go Go.Ab Go.Ab.A01
variable [Gl] [Tabs]

end Go.Proofs.YtddkacbcecedaaaGreatDoor