/- What the listed package-level variables hold, and what comes in, for the proofs of the laws. -/
import Derived.Test.YtblfodnajpamfaaGreatDoorRows
import Derived.Test.YtblfodnajpamfaaGreatDoorQ5
import Derived.ProofKit
import Derived.LaidMore
import Derived.OpenShut
import Derived.Stop.Joined
set_option linter.unusedSimpArgs false
set_option linter.unusedVariables false
set_option linter.unusedSectionVars false
namespace Go.Ab.A15
open Go Go.Ab Go.Ab.A34
instance : Inhabited Rc := ⟨rc0⟩
instance : Inhabited Lk := ⟨lk0⟩
end Go.Ab.A15
namespace Go.Proofs.YtblfodnajpamfaaGreatDoor
open Go Go.Ab Go.Ab.A34 Go.Ab.A15 Go.ChangeShapes Go.WideShapes Go.ChangeAt Go.RowKit
theorem own : ownKnob Tryz.prog.godebug = .none := by kernel_rfl
theorem laidOut : laidOutB Tryz.prog = true := by kernel_rfl
@[reducible] def gE : Gl :=
  ⟨fun g => if g = 0 then .fp (Lib.pow10Tab.map fun z => .sc (.int .u64 z)) else .any, fun g => if g = 0 then some 20 else .none⟩
theorem tabsE : @Tabs gE := @Tabs.mk gE rfl rfl
theorem t_tab : (Tryz.prog.globals[0]?).map (·.type) = some 210 := by kernel_rfl
theorem pow_tab {H : Type} : (Rows.laid_internal_strconv_uint64pow10 : DataW H) = Lib.tabData .u64 Lib.pow10Tab := rfl
theorem rep_vals {W : World} {E : Env} {nm : String} {g : Nat} {vals : List Value} (hE : ∀ a v, W.cell? a = some v → a.block = g → E.see a v) (hg : Tryz.prog.globalNamed nm = some g) (h : W.var? Tryz.prog nm = some vals.toArray) :
    Rep E (.pointer (some ⟨g, 0, none⟩)) (.fp (vals.map SV.sc)) ∧ HasSize W g (vals.length, none) := by
  unfold World.var? at h
  rw [hg] at h
  simp only [Option.bind_some] at h
  have hh : ∃ e fr, W.heap[g]? = some (.cells vals.toArray e fr) := by
    split at h
    · rename_i cs e fr hc
      rw [hc]
      cases h
      exact ⟨e, fr, rfl⟩
    · cases h
  obtain ⟨e, fr, hh⟩ := hh
  refine ⟨.fp g 0 _ (fun j => vals.getD j undef) (fun j hj => hE _ _ ?_ rfl) (fun j hj => ?_), ⟨_, e, fr, hh, by simp, .inl rfl⟩⟩
  · rw [List.length_map] at hj
    simp [World.cell?, hh, hj]
  · rw [List.length_map] at hj
    simp only [List.getD_eq_getElem?_getD, List.getElem?_map, List.getElem?_eq_getElem hj, Option.map_some, Option.getD_some]
    exact .sc _
theorem gl_of_laid {W : World} (h : laidMetH Tryz.prog Rows.inclusionProveRow.laid W) : ∃ u : Unit, @GlOk gE (envOf (fun _ => False) W) := by
  rw [MakeChecks.laidMetH_plain _ _ _ (by kernel_rfl)] at h
  obtain ⟨ps, ⟨g0, t0, cs0, f0, p0, q0, hg0, ht0, hv0, hd0, ⟨g1, t1, cs1, f1, p1, q1, hg1, ht1, hv1, hd1, ⟨g2, t2, cs2, f2, p2, q2, hg2, ht2, hv2, hd2, _, _⟩, _⟩, _⟩, _, _⟩ := h
  obtain rfl := Option.some.inj (g_tab.symm.trans hg2)
  obtain rfl := Option.some.inj (t_tab.symm.trans ht2)
  rw [pow_tab] at hd2
  have hc2 := Lib.cells_of_tab (k := .u64) Tryz.underlying210 Tryz.underlying185 (by kernel_rfl) (by kernel_rfl) hd2
  refine ⟨(), ?_⟩
  obtain ⟨r1, r2⟩ := rep_vals (E := envOf (fun _ => False) W) (fun a v ha _ => ⟨id, ha⟩) g_tab (vals := Lib.pow10Tab.map fun z => Value.int .u64 z) (by rw [hv2, ← hc2])
  rw [List.map_map] at r1
  rw [List.length_map, Lib.pow10Tab_length] at r2
  intro g
  by_cases h1 : g = 0
  · subst h1
    exact ⟨r1, fun m hm => by cases hm; exact r2⟩
  · refine ⟨?_, fun m hm => ?_⟩
    · show Rep _ _ (if g = 0 then _ else SV.any)
      rw [if_neg h1]
      exact .any _
    · exfalso
      have hm' : (if g = 0 then some 20 else Option.none) = some m := hm
      rw [if_neg h1] at hm'
      cases hm'
theorem fits8 {n : Int} (h : fits .u8 n) : 0 ≤ n ∧ n < 256 := by
  unfold fits Lit.wf at h
  simp only [Bool.and_eq_true, decide_eq_true_eq] at h
  have h1 : (0 : Int) ≤ n := h.1
  have h2 : n ≤ 255 := h.2
  exact ⟨h1, by omega⟩
@[reducible] def gN : Gl := ⟨fun _ => .any, fun _ => .none⟩
set_option maxRecDepth 100000 in
theorem rd_rec [Gl] : Rd Tryz.prog 80 RCC okRc :=
  Rd.map (Rd.struct Tryz.underlying80 (by kernel_rfl) (RdF.cons rfl 1 (by kernel_rfl) (Rd.int Tryz.underlying5) (RdF.cons rfl 1 (by kernel_rfl) (Rd.int Tryz.underlying5) (RdF.cons rfl 1 (by kernel_rfl) (Rd.slice Tryz.underlying78 1 (by kernel_rfl) (by decide) (Rd.slice Tryz.underlying25 1 (by kernel_rfl) (by decide) (Rd.int Tryz.underlying5))) (RdF.nil _)))))
    (fun x => ⟨x.1, x.2.1, x.2.2.1⟩) (fun _ _ => rfl) (fun x h => ⟨fits8 h.1, fits8 h.2.1, fun r hr c hc => fits8 ((h.2.2.1.2 r hr).2 c hc)⟩)
set_option maxRecDepth 100000 in
theorem rd_draft [Gl] : Rd Tryz.prog 23 (fun l : List Rc => [RcL l]) (fun l => l.length ≤ 9223372036854775807 ∧ OkRcs l) :=
  Rd.map (Rd.slice Tryz.underlying23 3 (by kernel_rfl) (by decide) rd_rec) (fun l => l) (fun _ _ => rfl) (fun l h => ⟨h.1, h.2⟩)
set_option maxRecDepth 100000 in
theorem rd_link [Gl] : Rd Tryz.prog 27 LkC OkK :=
  Rd.map (Rd.struct Tryz.underlying27 (by kernel_rfl) (RdF.cons rfl 1 (by kernel_rfl) (Rd.int Tryz.underlying5) (RdF.cons rfl 1 (by kernel_rfl) (Rd.int Tryz.underlying5) (RdF.cons rfl 1 (by kernel_rfl) (Rd.slice Tryz.underlying25 1 (by kernel_rfl) (by decide) (Rd.int Tryz.underlying5)) (RdF.cons rfl 1 (by kernel_rfl) (Rd.slice Tryz.underlying25 1 (by kernel_rfl) (by decide) (Rd.int Tryz.underlying5)) (RdF.nil _))))))
    (fun x => ⟨x.1, x.2.1, x.2.2.1, x.2.2.2.1⟩) (fun _ _ => rfl) (fun x h => ⟨fits8 h.1, fits8 h.2.1, fun c hc => fits8 (h.2.2.1.2 c hc), fun c hc => fits8 (h.2.2.2.1.2 c hc), h.2.2.1.1, h.2.2.2.1.1⟩)
set_option maxRecDepth 100000 in
theorem rd_links [Gl] : Rd Tryz.prog 24 (fun l : List Lk => [LkL l]) OkKs :=
  Rd.map (Rd.slice Tryz.underlying24 4 (by kernel_rfl) (by decide) rd_link) (fun l => l) (fun _ _ => rfl) (fun l h => h.2)
end Go.Proofs.YtblfodnajpamfaaGreatDoor
