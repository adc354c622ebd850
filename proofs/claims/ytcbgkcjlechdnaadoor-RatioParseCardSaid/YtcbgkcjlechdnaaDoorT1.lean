/- What the listed package-level variables hold, for the proofs of the laws. -/
import Derived.Test.YtcbgkcjlechdnaaDoorRows
import Derived.Test.YtcbgkcjlechdnaaDoorU1
import Derived.Test.YtcbgkcjlechdnaaDoorR7
import Derived.ProofKit
import Derived.LaidMore
import Derived.OpenShut
import Derived.Stop.Joined
set_option linter.unusedSimpArgs false
set_option linter.unusedVariables false
set_option linter.unusedSectionVars false
namespace Go.Proofs.YtcbgkcjlechdnaaDoor
open Go Go.Ab Go.ChangeShapes Go.WideShapes Go.ChangeAt Go.RowKit

theorem own : ownKnob Tryd.prog.godebug = .none := by kernel_rfl
theorem laidOut : laidOutB Tryd.prog = true := by kernel_rfl

/-- What is known of the package-level variables. -/
@[reducible] def gI : Gl := ⟨fun g => if g = 2 then .fp (Lib.pow10Tab.map fun z => .sc (.int .u64 z)) else .any, fun g => if g = 2 then some 20 else .none⟩
theorem tabsI : @Tabs gI := @Tabs.mk gI rfl rfl

theorem g_tab : Tryd.prog.globalNamed "internal/strconv.uint64pow10" = some 2 := by kernel_rfl
theorem t_tab : (Tryd.prog.globals[2]?).map (·.type) = some 93 := by kernel_rfl
theorem pow_tab {H : Type} : (Rows.laid_internal_strconv_uint64pow10 : DataW H) = Lib.tabData .u64 Lib.pow10Tab := rfl

theorem gl_of_tab {W : World} (h : Lib.TabIs Tryd.prog W "internal/strconv.uint64pow10" .u64 Lib.pow10Tab) : @GlOk gI (envOf (fun _ => False) W) := by
  unfold Lib.TabIs World.var? at h
  rw [g_tab] at h
  simp only [Option.bind_some] at h
  have hl : (Lib.pow10Tab.map fun z => SV.sc (Value.int .u64 z)).length = 20 := by rw [List.length_map, Lib.pow10Tab_length]
  have hh : ∃ e fr, W.heap[2]? = some (.cells (Lib.pow10Tab.map fun z => Value.int .u64 z).toArray e fr) := by
    split at h
    · rename_i cs e fr hc
      rw [hc]
      cases h
      exact ⟨e, fr, rfl⟩
    · cases h
  obtain ⟨e, fr, hh⟩ := hh
  intro g
  by_cases hg : g = 2
  · subst hg
    refine ⟨?_, fun m hm => ?_⟩
    · show Rep _ _ (SV.fp (Lib.pow10Tab.map fun z => SV.sc (Value.int .u64 z)))
      refine .fp 2 0 _ (fun j => .int .u64 (Lib.pow10Tab.getD j 0)) (fun j hj => ⟨id, ?_⟩) (fun j hj => ?_)
      · rw [hl] at hj
        have : j < Lib.pow10Tab.length := by rw [Lib.pow10Tab_length]; exact hj
        simp [World.cell?, hh, this]
      · rw [hl] at hj
        have : j < Lib.pow10Tab.length := by rw [Lib.pow10Tab_length]; exact hj
        simp only [List.getD_eq_getElem?_getD, List.getElem?_map, List.getElem?_eq_getElem this, Option.map_some, Option.getD_some]
        exact .sc _
    · have hm' : some 20 = some m := hm
      cases hm'
      exact ⟨_, e, fr, hh, by simp [Lib.pow10Tab_length]⟩
  · refine ⟨?_, fun m hm => ?_⟩
    · show Rep _ _ (if g = 2 then _ else SV.any)
      rw [if_neg hg]
      exact .any _
    · exfalso
      have hm' : (if g = 2 then some 20 else Option.none) = some m := hm
      rw [if_neg hg] at hm'
      cases hm'

theorem gl_of_laid {W : World} (h : laidMetH Tryd.prog Rows.ratioMakeRow.laid W) : @GlOk gI (envOf (fun _ => False) W) := by
  rw [MakeChecks.laidMetH_plain _ _ _ (by kernel_rfl)] at h
  obtain ⟨ps, ⟨g0, t0, cs0, f0, p0, q0, hg0, ht0, hv0, hd0, ⟨g1, t1, cs1, f1, p1, q1, hg1, ht1, hv1, hd1, ⟨g2, t2, cs2, f2, p2, q2, hg2, ht2, hv2, hd2, _, _⟩, _⟩, _⟩, _, _⟩ := h
  refine gl_of_tab ?_
  obtain rfl := Option.some.inj (g_tab.symm.trans hg2)
  obtain rfl := Option.some.inj (t_tab.symm.trans ht2)
  unfold Lib.TabIs
  rw [hv2]
  rw [pow_tab] at hd2
  rw [← Lib.cells_of_tab (k := .u64) Tryd.underlying93 Tryd.underlying42 (by kernel_rfl) (by kernel_rfl) hd2]

theorem fits64 {n : Int} (h : fits .i64 n) : In64 n := by
  unfold fits Lit.wf at h
  simp only [Bool.and_eq_true, decide_eq_true_eq] at h
  exact ⟨h.1, h.2⟩

set_option maxRecDepth 100000 in
/-- A fraction that came in. -/
theorem rd_ratio : Rd Tryd.prog 24 (fun x : Int × Int => [I64 x.1, I64 x.2]) (fun x => In64 x.1 ∧ In64 x.2) :=
  Rd.map (Rd.struct Tryd.underlying24 (by kernel_rfl) (RdF.cons rfl 1 (by kernel_rfl) (Rd.int Tryd.underlying2) (RdF.cons rfl 1 (by kernel_rfl) (Rd.int Tryd.underlying2) (RdF.nil _)))) (fun x => (x.1, x.2.1)) (fun _ _ => rfl) (fun x h => ⟨fits64 h.1, fits64 h.2.1⟩)
end Go.Proofs.YtcbgkcjlechdnaaDoor
