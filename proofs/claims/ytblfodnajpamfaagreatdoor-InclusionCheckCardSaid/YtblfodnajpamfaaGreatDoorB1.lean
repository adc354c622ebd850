/- Contracts of the library: FormatInt, Itoa, Compare, Mul64. -/
import Derived.Test.YtblfodnajpamfaaGreatDoorTab
import Derived.Test.YtblfodnajpamfaaGreatDoorChecked
import Derived.Test.YtblfodnajpamfaaGreatDoorZ7
import Derived.Test.YtblfodnajpamfaaGreatDoorS1
set_option linter.unusedSimpArgs false
set_option linter.unusedVariables false
set_option linter.unusedSectionVars false
attribute [go_sem] Nat.reduceAdd Nat.reduceMul Nat.reduceSub Nat.reduceLT Nat.reduceLeDiff Nat.reduceEqDiff Nat.reduceBEq Nat.reduceBneDiff Int.reduceToNat Int.reduceEq reduceCtorEq List.drop_succ_cons List.take_succ_cons List.take_zero
attribute [go_sem ↓] reduceIte
namespace Go.Proofs.YtblfodnajpamfaaGreatDoor
open Go Go.Ab
def In64 (n : Int) : Prop := -9223372036854775808 ≤ n ∧ n ≤ 9223372036854775807
theorem g_tab : Tryz.prog.globalNamed "internal/strconv.uint64pow10" = some 0 := by kernel_rfl
class Tabs [Gl] : Prop where
  gt : Gl.gl 0 = .fp (Lib.pow10Tab.map fun z => .sc (.int .u64 z))
  st : Gl.sz 0 = some 20
variable [Gl] [Tabs]
theorem itoa_c (n : Int) (h : In64 n) : PCall Tryz.prog 95 [I64 n] (Str (itoaS n)) :=
  PCall.of_calls ⟨_, Tryz.func95, by kernel_rfl, by kernel_rfl⟩ fun w E vs h3 h4 h5 hr => by
    obtain rfl := reps1 hr
    refine (Tryz.strconv_Itoa n h.1 h.2 w (tabIs_of g_tab Tabs.gt (by rw [Tabs.st, Lib.pow10Tab_length]) h5 h3 h4)).mono fun e w' ⟨he, k, os, hw⟩ => ⟨_, he, fun _ => .sc _, ?_⟩
    rw [hw]
    exact ⟨Lib.below_grow _ w (Nat.le_refl _) k os, Nat.le_add_right _ _⟩
end Go.Proofs.YtblfodnajpamfaaGreatDoor