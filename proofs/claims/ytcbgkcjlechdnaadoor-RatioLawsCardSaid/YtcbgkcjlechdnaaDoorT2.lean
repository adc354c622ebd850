/- Six numbers that came in. -/
import Derived.Test.YtcbgkcjlechdnaaDoorT1
import Derived.Test.YtcbgkcjlechdnaaDoorL2
set_option linter.unusedSimpArgs false
set_option linter.unusedVariables false
set_option linter.unusedSectionVars false
namespace Go.Proofs.YtcbgkcjlechdnaaDoor
open Go Go.Ab
abbrev Six := Int × Int × Int × Int × Int × Int
set_option maxRecDepth 100000 in
theorem rd_six : Rd Tryd.prog 37 (fun x : Six => [I16 x.1, I16 x.2.1, I16 x.2.2.1, I16 x.2.2.2.1, I16 x.2.2.2.2.1, I16 x.2.2.2.2.2])
    (fun x => fits .i16 x.1 ∧ fits .i16 x.2.1 ∧ fits .i16 x.2.2.1 ∧ fits .i16 x.2.2.2.1 ∧ fits .i16 x.2.2.2.2.1 ∧ fits .i16 x.2.2.2.2.2) :=
  Rd.map (@Rd.array _ _ _ _ gI _ 6 _ _ Tryd.underlying37 1 (by kernel_rfl) (by kernel_rfl) (by decide) (Rd.int Tryd.underlying36))
    (fun l => (l.getD 0 0, l.getD 1 0, l.getD 2 0, l.getD 3 0, l.getD 4 0, l.getD 5 0))
    (fun l h => match l, h.1 with | [_, _, _, _, _, _], _ => rfl)
    (fun l h => match l, h with | [a, b, c, d, e, f], h => ⟨h.2 a (by simp), h.2 b (by simp), h.2 c (by simp), h.2 d (by simp), h.2 e (by simp), h.2 f (by simp)⟩)
end Go.Proofs.YtcbgkcjlechdnaaDoor
