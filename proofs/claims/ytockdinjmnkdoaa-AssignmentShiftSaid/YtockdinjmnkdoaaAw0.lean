/- The examples of the document hold: read by the kernel. -/
import Derived.Test.YtockdinjmnkdoaaBa
import Derived.Test.YtockdinjmnkdoaaProg
import Derived.Test.YtockdinjmnkdoaaChecked
import Derived.KernelRfl
namespace Go.Proofs.Ytockdinjmnkdoaa
open Go Go.Ab
theorem mixed : Try.prog.follows .mixedOrders = true := Checked.mixed Try.checked
theorem awake_reads : readsF Try.prog 1000 12 11 [] true = true := by kernel_rfl
theorem awake : PCall Try.prog 11 [] (SB true) := pcall_of_readsF mixed awake_reads
end Go.Proofs.Ytockdinjmnkdoaa
