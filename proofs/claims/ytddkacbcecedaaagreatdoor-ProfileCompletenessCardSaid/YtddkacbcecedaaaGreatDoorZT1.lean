/- (seat ZD's numbers) What the listed package-level variables hold, and what comes in, for the proofs of the laws. -/
import Derived.Test.YtddkacbcecedaaaGreatDoorRows
import Derived.Test.YtddkacbcecedaaaGreatDoorC2
import Derived.Test.YtddkacbcecedaaaGreatDoorJ1
import Derived.ProofKit
import Derived.LaidMore
import Derived.OpenShut
import Derived.Stop.Joined
set_option linter.unusedSimpArgs false
set_option linter.unusedVariables false
set_option linter.unusedSectionVars false
namespace Go.Proofs.YtddkacbcecedaaaGreatDoor
open Go Go.Ab Go.Ab.A34 Go.ChangeShapes Go.WideShapes Go.ChangeAt Go.RowKit

theorem own : ownKnob Tryz.prog.godebug = .none := by kernel_rfl
theorem laidOut : laidOutB Tryz.prog = true := by kernel_rfl

/-- What is known of the package-level variables. -/
@[reducible] def gE : Gl :=
  ⟨fun g => if g = 1 then .fp (Lib.pow10Tab.map fun z => .sc (.int .u64 z)) else if g = 0 then .fp (dbT.map fun z => .sc (.int .u8 z)) else .any, fun g => if g = 1 then some 20 else .none⟩
theorem tabsE : @Tabs gE := @Tabs.mk gE rfl rfl
theorem bruE : @Bru gE := @Bru.mk gE rfl

theorem t_tab : (Tryz.prog.globals[1]?).map (·.type) = some 151 := by kernel_rfl
theorem g_db : Tryz.prog.globalNamed "math/bits.deBruijn32tab" = some 0 := by kernel_rfl
theorem t_db : (Tryz.prog.globals[0]?).map (·.type) = some 121 := by kernel_rfl
theorem pow_tab {H : Type} : (Rows.laid_internal_strconv_uint64pow10 : DataW H) = Lib.tabData .u64 Lib.pow10Tab := rfl
theorem db_tab {H : Type} : (Rows.laid_math_bits_deBruijn32tab : DataW H) = Lib.tabData .u8 dbT := rfl

/-- A variable's cells, as they are seen. -/
theorem rep_vals {W : World} {E : Env} {nm : String} {g : Nat} {vals : List Value} (hE : ∀ a v, W.cell? a = some v → a.block = g → E.see a v) (hg : Tryz.prog.globalNamed nm = some g) (h : W.var? Tryz.prog nm = some vals.toArray) :
    Rep E (.pointer (some ⟨g, 0, none⟩)) (.fp (vals.map SV.sc)) ∧ HasSize W g (vals.length, none) := by
  unfold World.var? at h
  rw [hg] at h
  simp only [Option.bind_some] at h
  have hh : ∃ e fr, W.heap[g]? = some (.cells vals.toArray e fr) := by
    split at h
    · rename_i cs e fr hc
      rw [hc]
      cases h
      exact ⟨e, fr, rfl⟩
    · cases h
  obtain ⟨e, fr, hh⟩ := hh
  refine ⟨.fp g 0 _ (fun j => vals.getD j undef) (fun j hj => hE _ _ ?_ rfl) (fun j hj => ?_), ⟨_, e, fr, hh, by simp, .inl rfl⟩⟩
  · rw [List.length_map] at hj
    simp [World.cell?, hh, hj]
  · rw [List.length_map] at hj
    simp only [List.getD_eq_getElem?_getD, List.getElem?_map, List.getElem?_eq_getElem hj, Option.map_some, Option.getD_some]
    exact .sc _

theorem gl_of_laid {W : World} (h : laidMetH Tryz.prog Rows.profileFormatRow.laid W) : ∃ u : Unit, @GlOk gE (envOf (fun _ => False) W) := by
  rw [MakeChecks.laidMetH_plain _ _ _ (by kernel_rfl)] at h
  obtain ⟨ps, ⟨g0, t0, cs0, f0, p0, q0, hg0, ht0, hv0, hd0, ⟨g1, t1, cs1, f1, p1, q1, hg1, ht1, hv1, hd1, ⟨g2, t2, cs2, f2, p2, q2, hg2, ht2, hv2, hd2, _, _⟩, _⟩, _⟩, _, _⟩ := h
  obtain rfl := Option.some.inj (g_tab.symm.trans hg2)
  obtain rfl := Option.some.inj (t_tab.symm.trans ht2)
  obtain rfl := Option.some.inj (g_db.symm.trans hg0)
  obtain rfl := Option.some.inj (t_db.symm.trans ht0)
  rw [pow_tab] at hd2
  rw [db_tab] at hd0
  have hc2 := Lib.cells_of_tab (k := .u64) Tryz.underlying151 Tryz.underlying87 (by kernel_rfl) (by kernel_rfl) hd2
  have hc0 := Lib.cells_of_tab (k := .u8) Tryz.underlying121 Tryz.underlying5 (by kernel_rfl) (by kernel_rfl) hd0
  refine ⟨(), ?_⟩
  obtain ⟨r1, r2⟩ := rep_vals (E := envOf (fun _ => False) W) (fun a v ha _ => ⟨id, ha⟩) g_tab (vals := Lib.pow10Tab.map fun z => Value.int .u64 z) (by rw [hv2, ← hc2])
  obtain ⟨r3, _⟩ := rep_vals (E := envOf (fun _ => False) W) (fun a v ha _ => ⟨id, ha⟩) g_db (vals := dbT.map fun z => Value.int .u8 z) (by rw [hv0, ← hc0])
  rw [List.map_map] at r1 r3
  rw [List.length_map, Lib.pow10Tab_length] at r2
  intro g
  by_cases h1 : g = 1
  · subst h1
    exact ⟨r1, fun m hm => by cases hm; exact r2⟩
  · refine ⟨?_, fun m hm => ?_⟩
    · show Rep _ _ (if g = 1 then _ else if g = 0 then _ else SV.any)
      rw [if_neg h1]
      by_cases h4 : g = 0
      · rw [if_pos h4]
        subst h4
        exact r3
      · rw [if_neg h4]
        exact .any _
    · exfalso
      have hm' : (if g = 1 then some 20 else Option.none) = some m := hm
      rw [if_neg h1] at hm'
      cases hm'

theorem fits64 {n : Int} (h : fits .i64 n) : In64 n := by
  unfold fits Lit.wf at h
  simp only [Bool.and_eq_true, decide_eq_true_eq] at h
  exact ⟨h.1, h.2⟩
theorem fun_64 {l : List Int} (h : ∀ a ∈ l, fits .i64 a) : ∀ n ∈ l, In64 n := fun n hn => fits64 (h n hn)
theorem fits8 {n : Int} (h : fits .u8 n) : 0 ≤ n ∧ n < 256 := by
  unfold fits Lit.wf at h
  simp only [Bool.and_eq_true, decide_eq_true_eq] at h
  have h1 : (0 : Int) ≤ n := h.1
  have h2 : n ≤ 255 := h.2
  exact ⟨h1, by omega⟩

/-- Nothing is known of the package-level variables. -/
@[reducible] def gN : Gl := ⟨fun _ => .any, fun _ => .none⟩

set_option maxRecDepth 100000 in
/-- A recipe that came in. -/
theorem rd_rec [Gl] : Rd Tryz.prog 24 RCC okRc :=
  Rd.map (Rd.struct Tryz.underlying24 (by kernel_rfl) (RdF.cons rfl 1 (by kernel_rfl) (Rd.int Tryz.underlying5) (RdF.cons rfl 1 (by kernel_rfl) (Rd.int Tryz.underlying5) (RdF.cons rfl 1 (by kernel_rfl) (Rd.slice Tryz.underlying22 1 (by kernel_rfl) (by decide) (Rd.slice Tryz.underlying58 1 (by kernel_rfl) (by decide) (Rd.int Tryz.underlying5))) (RdF.nil _)))))
    (fun x => ⟨x.1, x.2.1, x.2.2.1⟩) (fun _ _ => rfl) (fun x h => ⟨fits8 h.1, fits8 h.2.1, fun r hr c hc => fits8 ((h.2.2.1.2 r hr).2 c hc)⟩)
end Go.Proofs.YtddkacbcecedaaaGreatDoor
