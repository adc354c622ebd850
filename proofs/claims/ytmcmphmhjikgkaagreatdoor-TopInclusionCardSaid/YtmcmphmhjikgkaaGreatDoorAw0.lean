/- The examples hold: read by the kernel. -/
import Derived.Test.YtmcmphmhjikgkaaGreatDoorZ4
import Derived.Test.YtmcmphmhjikgkaaGreatDoorProg
import Derived.Test.YtmcmphmhjikgkaaGreatDoorChecked
import Derived.KernelRfl
set_option linter.unusedSimpArgs false
set_option linter.unusedSectionVars false
set_option linter.unusedVariables false
namespace Go.Ab.A20
open Go Go.Ab
def tzN (x : Nat) : Nat := if x % 2 = 1 then 0 else if x % 4 = 2 then 1 else if x % 8 = 4 then 2 else if x % 16 = 8 then 3 else 4
def tzR (vs : List Value) : Option Value := match vs with
  | [.int .u32 (.ofNat n)] => bif Nat.blt 0 n && Nat.blt n 32 then some (.int .i64 (tzN n)) else none
  | _ => none
def prA (f : Nat) : PrI := fun g => bif Nat.beq g f then some tzR else none
end Go.Ab.A20
namespace Go.Proofs.YtmcmphmhjikgkaaGreatDoor
open Go Go.Ab Go.Ab.A20
variable [Gl]
theorem mixed : Tryz.prog.follows .mixedOrders = true := Checked.mixed Tryz.checked
set_option maxRecDepth 100000 in
theorem awake_reads : readsF Tryz.prog (prA 114) 100000 40 6 [] true = true := by kernel_rfl
end Go.Proofs.YtmcmphmhjikgkaaGreatDoor
