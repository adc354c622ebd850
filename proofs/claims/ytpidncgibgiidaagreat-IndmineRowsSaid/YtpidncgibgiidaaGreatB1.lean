/- Beginnings: the simp set. -/
import Derived.Test.YtpidncgibgiidaaGreatTab
import Derived.Test.YtpidncgibgiidaaGreatChecked
import Derived.Test.YtpidncgibgiidaaGreatZ7
set_option linter.unusedSimpArgs false
set_option linter.unusedVariables false
set_option linter.unusedSectionVars false
attribute [go_sem] Nat.reduceAdd Nat.reduceMul Nat.reduceSub Nat.reduceLT Nat.reduceLeDiff Nat.reduceEqDiff Nat.reduceBEq Nat.reduceBneDiff Int.reduceToNat Int.reduceEq reduceCtorEq List.drop_succ_cons List.take_succ_cons List.take_zero
attribute [go_sem ↓] reduceIte
namespace Go.Proofs.YtpidncgibgiidaaGreat
open Go Go.Ab
def In64 (n : Int) : Prop := -9223372036854775808 ≤ n ∧ n ≤ 9223372036854775807
class Tabs [Gl] : Prop where
  tt : True
end Go.Proofs.YtpidncgibgiidaaGreat
