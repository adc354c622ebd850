/- Databases and dependencies that come in. -/
import Derived.Test.YtblfodnajpamfaaDoorQ7
set_option linter.unusedSimpArgs false
set_option linter.unusedVariables false
set_option linter.unusedSectionVars false
namespace Go.Ab.A15
open Go Go.Ab Go.Ab.A34
instance : Inhabited Tb := ⟨t0⟩
instance : Inhabited Dp := ⟨d0⟩
end Go.Ab.A15
namespace Go.Proofs.YtblfodnajpamfaaDoor
open Go Go.Ab Go.Ab.A34 Go.Ab.A15 Go.ChangeShapes Go.WideShapes Go.ChangeAt Go.RowKit
@[reducible] def iV : Inhabited V3 := ⟨v0⟩
@[reducible] def iR : Inhabited R3 := ⟨r0⟩
@[reducible] def iB : Inhabited ByteArray := ⟨⟨#[]⟩⟩
set_option maxRecDepth 100000 in
theorem rd_val [Gl] : Rd Tryd.prog 108 vC (fun _ => True) :=
  Rd.map (Rd.struct Tryd.underlying108 (by kernel_rfl) (RdF.cons rfl 1 (by kernel_rfl) (Rd.int Tryd.underlying3) (RdF.cons rfl 1 (by kernel_rfl) (Rd.int Tryd.underlying2) (RdF.cons rfl 1 (by kernel_rfl) (Rd.str Tryd.underlying9) (RdF.nil _)))))
    (fun x => (x.1, x.2.1, x.2.2.1)) (fun _ _ => rfl) (fun _ _ => trivial)
set_option maxRecDepth 100000 in
theorem rd_row [Gl] : Rd Tryd.prog 106 rC (fun r => r.2.length ≤ 9223372036854775807) :=
  Rd.map (Rd.struct Tryd.underlying106 (by kernel_rfl) (RdF.cons rfl 1 (by kernel_rfl) (Rd.int Tryd.underlying2) (RdF.cons rfl 1 (by kernel_rfl) (@Rd.slice _ _ _ _ _ iV _ _ Tryd.underlying104 3 (by kernel_rfl) (by decide) rd_val) (RdF.nil _))))
    (fun x => (x.1, x.2.1)) (fun _ _ => rfl) (fun x h => h.2.1.1)
set_option maxRecDepth 100000 in
theorem rd_tab [Gl] : Rd Tryd.prog 52 tC (fun t => ∀ r ∈ t.rows, r.2.length ≤ 9223372036854775807) :=
  Rd.map (Rd.struct Tryd.underlying52 (by kernel_rfl) (RdF.cons rfl 1 (by kernel_rfl) (Rd.str Tryd.underlying9) (RdF.cons rfl 1 (by kernel_rfl) (@Rd.slice _ _ _ _ _ iB _ _ Tryd.underlying49 1 (by kernel_rfl) (by decide) (Rd.str Tryd.underlying9)) (RdF.cons rfl 1 (by kernel_rfl) (@Rd.slice _ _ _ _ _ iR _ _ Tryd.underlying50 2 (by kernel_rfl) (by decide) rd_row) (RdF.nil _)))))
    (fun x => ⟨x.1, x.2.1, x.2.2.1⟩) (fun _ _ => rfl) (fun x h => h.2.2.1.2)
set_option maxRecDepth 100000 in
/-- A database that came in. -/
theorem rd_db [Gl] : Rd Tryd.prog 30 (fun l : List Tb => [TL l]) (fun l => l.length ≤ 9223372036854775807 ∧ OkDb l) :=
  Rd.map (Rd.struct Tryd.underlying30 (by kernel_rfl) (RdF.cons rfl 1 (by kernel_rfl) (Rd.slice Tryd.underlying28 3 (by kernel_rfl) (by decide) rd_tab) (RdF.nil _)))
    (fun x => x.1) (fun _ _ => rfl) (fun x h => ⟨h.1.1, fun t ht => h.1.2 t ht⟩)
set_option maxRecDepth 100000 in
/-- A dependency that came in. -/
theorem rd_ind [Gl] : Rd Tryd.prog 39 dC OkD :=
  Rd.map (Rd.struct Tryd.underlying39 (by kernel_rfl) (RdF.cons rfl 1 (by kernel_rfl) (Rd.str Tryd.underlying9) (RdF.cons rfl 1 (by kernel_rfl) (Rd.slice Tryd.underlying37 1 (by kernel_rfl) (by decide) (Rd.int Tryd.underlying3)) (RdF.cons rfl 1 (by kernel_rfl) (Rd.str Tryd.underlying9) (RdF.cons rfl 1 (by kernel_rfl) (Rd.slice Tryd.underlying37 1 (by kernel_rfl) (by decide) (Rd.int Tryd.underlying3)) (RdF.nil _))))))
    (fun x => ⟨x.1, x.2.1, x.2.2.1, x.2.2.2.1⟩) (fun _ _ => rfl) (fun x h => ⟨h.2.1.1, h.2.2.2.1.1⟩)
end Go.Proofs.YtblfodnajpamfaaDoor
