/- What the listed package-level variables hold, the two errors among them. -/
import Derived.Test.YtcbgkcjlechdnaaDoorT1
import Derived.Test.YtcbgkcjlechdnaaDoorV1
set_option linter.unusedSimpArgs false
set_option linter.unusedVariables false
set_option linter.unusedSectionVars false
namespace Go.Proofs.YtcbgkcjlechdnaaDoor
open Go Go.Ab Go.ChangeShapes Go.WideShapes Go.ChangeAt Go.RowKit

/-- What is known of the package-level variables. -/
@[reducible] def gE (a4 : TypeId) (b4 : Value) (a5 : TypeId) (b5 : Value) : Gl :=
  ⟨fun g => if g = 2 then .fp (Lib.pow10Tab.map fun z => .sc (.int .u64 z)) else if g = 4 then .fp [.sc (.iface a4 b4)] else if g = 5 then .fp [.sc (.iface a5 b5)] else .any, fun g => if g = 2 then some 20 else .none⟩
theorem tabsE (a4 : TypeId) (b4 : Value) (a5 : TypeId) (b5 : Value) : @Tabs (gE a4 b4 a5 b5) := @Tabs.mk (gE a4 b4 a5 b5) rfl rfl
theorem errsE (a4 : TypeId) (b4 : Value) (a5 : TypeId) (b5 : Value) : @ErrVars (gE a4 b4 a5 b5) := @ErrVars.mk (gE a4 b4 a5 b5) ⟨a4, b4, rfl⟩ ⟨a5, b5, rfl⟩

theorem iface_of_trod {H : Type} {enc : TypeId × Value → H} {P : Program} {w : World} {base : Nat} {sp : Nat → Bool} {fuel : Nat} {t : TypeId} {cs : List Value} {nm : String} {d : DataW H} {p : List MemPlace} {m : Array (String × TypeId)}
    (ht : P.underlying t = some (.interface m)) (h : DataW.trod enc P w base sp false fuel t cs = some (.iface nm d, p)) : ∃ u v, cs = [.iface u v] := by
  cases fuel with
  | zero => simp [DataW.trod] at h
  | succ n =>
    simp only [DataW.trod, ht] at h
    split at h
    all_goals first | exact ⟨_, _, rfl⟩ | (exfalso; simp_all; done)

theorem rep_fp1 {E : Env} {g : Nat} {x : Value} (h : E.see ⟨g, 0, none⟩ x) : Rep E (.pointer (some ⟨g, 0, none⟩)) (.fp [.sc x]) := by
  refine .fp g 0 _ (fun _ => x) (fun j hj => ?_) (fun j hj => ?_)
  · obtain rfl : j = 0 := by simpa using hj
    exact h
  · obtain rfl : j = 0 := by simpa using hj
    exact .sc x

theorem g_e4 : Tryd.prog.globalNamed "strconv.ErrSyntax" = some 4 := by kernel_rfl
theorem g_e5 : Tryd.prog.globalNamed "strconv.ErrRange" = some 5 := by kernel_rfl
theorem t_e4 : (Tryd.prog.globals[4]?).map (·.type) = some 66 := by kernel_rfl
theorem t_e5 : (Tryd.prog.globals[5]?).map (·.type) = some 66 := by kernel_rfl

theorem cell_of_var {W : World} {nm : String} {g : Nat} {x : Value} (hg : Tryd.prog.globalNamed nm = some g) (h : W.var? Tryd.prog nm = some #[x]) : W.cell? ⟨g, 0, none⟩ = some x := by
  have := World.var?_cell hg h 0
  simpa using this

theorem gl_of_errs {W : World} (h : laidMetH Tryd.prog Rows.ratioTextRow.laid W) : ∃ a4 b4 a5 b5, @GlOk (gE a4 b4 a5 b5) (envOf (fun _ => False) W) := by
  rw [MakeChecks.laidMetH_plain _ _ _ (by kernel_rfl)] at h
  obtain ⟨ps, ⟨g0, t0, cs0, f0, p0, q0, hg0, ht0, hv0, hd0, ⟨g1, t1, cs1, f1, p1, q1, hg1, ht1, hv1, hd1, ⟨g2, t2, cs2, f2, p2, q2, hg2, ht2, hv2, hd2, ⟨g3, t3, cs3, f3, p3, q3, hg3, ht3, hv3, hd3, ⟨g4, t4, cs4, f4, p4, q4, hg4, ht4, hv4, hd4, _, _⟩, _⟩, _⟩, _⟩, _⟩, _, _⟩ := h
  obtain rfl := Option.some.inj (g_tab.symm.trans hg2)
  obtain rfl := Option.some.inj (t_tab.symm.trans ht2)
  obtain rfl := Option.some.inj (g_e5.symm.trans hg3)
  obtain rfl := Option.some.inj (t_e5.symm.trans ht3)
  obtain rfl := Option.some.inj (g_e4.symm.trans hg4)
  obtain rfl := Option.some.inj (t_e4.symm.trans ht4)
  rw [pow_tab] at hd2
  have hc2 := Lib.cells_of_tab (k := .u64) Tryd.underlying93 Tryd.underlying42 (by kernel_rfl) (by kernel_rfl) hd2
  obtain ⟨a5, b5, hc5⟩ := iface_of_trod Tryd.underlying66 hd3
  obtain ⟨a4, b4, hc4⟩ := iface_of_trod Tryd.underlying66 hd4
  have e3 : cs3 = #[.iface a5 b5] := Array.toList_inj.1 (by rw [hc5])
  have e4 : cs4 = #[.iface a4 b4] := Array.toList_inj.1 (by rw [hc4])
  rw [e3] at hv3
  rw [e4] at hv4
  have v5 := cell_of_var g_e5 hv3
  have v4 := cell_of_var g_e4 hv4
  refine ⟨a4, b4, a5, b5, ?_⟩
  have tab : Lib.TabIs Tryd.prog W "internal/strconv.uint64pow10" .u64 Lib.pow10Tab := by
    unfold Lib.TabIs
    rw [hv2, ← hc2]
  have base := gl_of_tab tab
  intro g
  by_cases h2 : g = 2
  · subst h2
    exact base 2
  · refine ⟨?_, fun m hm => ?_⟩
    · show Rep _ _ (if g = 2 then _ else if g = 4 then _ else if g = 5 then _ else SV.any)
      rw [if_neg h2]
      by_cases h4 : g = 4
      · rw [if_pos h4]
        subst h4
        exact rep_fp1 ⟨id, v4⟩
      · rw [if_neg h4]
        by_cases h5 : g = 5
        · rw [if_pos h5]
          subst h5
          exact rep_fp1 ⟨id, v5⟩
        · rw [if_neg h5]
          exact .any _
    · exfalso
      have hm' : (if g = 2 then some 20 else Option.none) = some m := hm
      rw [if_neg h2] at hm'
      cases hm'
end Go.Proofs.YtcbgkcjlechdnaaDoor
