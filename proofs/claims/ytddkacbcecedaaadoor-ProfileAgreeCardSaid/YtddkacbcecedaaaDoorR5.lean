/- Contract: Quote of the reference. -/
import Derived.Test.YtddkacbcecedaaaDoorM1
import Derived.Test.YtddkacbcecedaaaDoorP1
set_option linter.unusedSimpArgs false
set_option linter.unusedVariables false
set_option linter.unusedSectionVars false
namespace Go.Proofs.YtddkacbcecedaaaDoor
open Go Go.Ab Go.Ab.A01
variable [Gl] [Tabs]

end Go.Proofs.YtddkacbcecedaaaDoor