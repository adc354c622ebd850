/- What the listed package-level variables hold, and what comes in, for the proofs of the laws. -/
import Derived.Test.YtpkdknfdhhgbgaaDoorRows
import Derived.Test.YtpkdknfdhhgbgaaDoorB1
import Derived.Test.YtpkdknfdhhgbgaaDoorR1
import Derived.ProofKit
import Derived.LaidMore
import Derived.OpenShut
import Derived.Stop.Joined
set_option linter.unusedSimpArgs false
set_option linter.unusedVariables false
set_option linter.unusedSectionVars false
namespace Go.Proofs.YtpkdknfdhhgbgaaDoor
open Go Go.Ab Go.ChangeShapes Go.WideShapes Go.ChangeAt Go.RowKit

theorem own : ownKnob Tryd.prog.godebug = .none := by kernel_rfl
theorem laidOut : laidOutB Tryd.prog = true := by kernel_rfl

/-- What is known of the package-level variables. -/
@[reducible] def gE (a2 : TypeId) (b2 : Value) (a3 : TypeId) (b3 : Value) : Gl :=
  ⟨fun g => if g = 1 then .fp (Lib.pow10Tab.map fun z => .sc (.int .u64 z)) else if g = 2 then .fp [.sc (.iface a2 b2)] else if g = 3 then .fp [.sc (.iface a3 b3)] else .any, fun g => if g = 1 then some 20 else .none⟩
theorem tabsE (a2 : TypeId) (b2 : Value) (a3 : TypeId) (b3 : Value) : @Tabs (gE a2 b2 a3 b3) := @Tabs.mk (gE a2 b2 a3 b3) rfl rfl ⟨a2, b2, rfl⟩ ⟨a3, b3, rfl⟩

theorem t_tab : (Tryd.prog.globals[1]?).map (·.type) = some 83 := by kernel_rfl
theorem t_es : (Tryd.prog.globals[2]?).map (·.type) = some 68 := by kernel_rfl
theorem t_er : (Tryd.prog.globals[3]?).map (·.type) = some 68 := by kernel_rfl
theorem pow_tab {H : Type} : (Rows.laid_internal_strconv_uint64pow10 : DataW H) = Lib.tabData .u64 Lib.pow10Tab := rfl

/-- A table that is laid out, as it is seen. -/
theorem rep_tab {W : World} {E : Env} (hE : ∀ a v, W.cell? a = some v → a.block = 1 → E.see a v) (h : Lib.TabIs Tryd.prog W "internal/strconv.uint64pow10" .u64 Lib.pow10Tab) : Rep E (.pointer (some ⟨1, 0, none⟩)) (.fp (Lib.pow10Tab.map fun z => .sc (.int .u64 z))) ∧ HasSize W 1 20 := by
  unfold Lib.TabIs World.var? at h
  rw [g_tab] at h
  simp only [Option.bind_some] at h
  have hl : (Lib.pow10Tab.map fun z => SV.sc (Value.int .u64 z)).length = 20 := by rw [List.length_map, Lib.pow10Tab_length]
  have hh : ∃ e fr, W.heap[1]? = some (.cells (Lib.pow10Tab.map fun z => Value.int .u64 z).toArray e fr) := by
    split at h
    · rename_i cs e fr hc
      rw [hc]
      cases h
      exact ⟨e, fr, rfl⟩
    · cases h
  obtain ⟨e, fr, hh⟩ := hh
  refine ⟨.fp 1 0 _ (fun j => .int .u64 (Lib.pow10Tab.getD j 0)) (fun j hj => hE _ _ ?_ rfl) (fun j hj => ?_), ⟨_, e, fr, hh, by simp [Lib.pow10Tab_length]⟩⟩
  · rw [hl] at hj
    have : j < Lib.pow10Tab.length := by rw [Lib.pow10Tab_length]; exact hj
    simp [World.cell?, hh, this]
  · rw [hl] at hj
    have : j < Lib.pow10Tab.length := by rw [Lib.pow10Tab_length]; exact hj
    simp only [List.getD_eq_getElem?_getD, List.getElem?_map, List.getElem?_eq_getElem this, Option.map_some, Option.getD_some]
    exact .sc _

theorem iface_of_trod {H : Type} {enc : TypeId × Value → H} {P : Program} {w : World} {base : Nat} {sp : Nat → Bool} {fuel : Nat} {t : TypeId} {cs : List Value} {nm : String} {d : DataW H} {p : List MemPlace} {m : Array (String × TypeId)}
    (ht : P.underlying t = some (.interface m)) (h : DataW.trod enc P w base sp false fuel t cs = some (.iface nm d, p)) : ∃ u v, cs = [.iface u v] := by
  cases fuel with
  | zero => simp [DataW.trod] at h
  | succ n =>
    simp only [DataW.trod, ht] at h
    split at h
    all_goals first | exact ⟨_, _, rfl⟩ | (exfalso; simp_all; done)

theorem rep_fp1 {E : Env} {g : Nat} {x : Value} (h : E.see ⟨g, 0, none⟩ x) : Rep E (.pointer (some ⟨g, 0, none⟩)) (.fp [.sc x]) := by
  refine .fp g 0 _ (fun _ => x) (fun j hj => ?_) (fun j hj => ?_)
  · obtain rfl : j = 0 := by simpa using hj
    exact h
  · obtain rfl : j = 0 := by simpa using hj
    exact .sc x

theorem cell_of_var {W : World} {nm : String} {g : Nat} {x : Value} (hg : Tryd.prog.globalNamed nm = some g) (h : W.var? Tryd.prog nm = some #[x]) : W.cell? ⟨g, 0, none⟩ = some x := by
  have := World.var?_cell hg h 0
  simpa using this

theorem gl_of_laid {W : World} (h : laidMetH Tryd.prog Rows.valueValidRow.laid W) : ∃ a2 b2 a3 b3, @GlOk (gE a2 b2 a3 b3) (envOf (fun _ => False) W) := by
  rw [MakeChecks.laidMetH_plain _ _ _ (by kernel_rfl)] at h
  obtain ⟨ps, ⟨g0, t0, cs0, f0, p0, q0, hg0, ht0, hv0, hd0, ⟨g1, t1, cs1, f1, p1, q1, hg1, ht1, hv1, hd1, ⟨g2, t2, cs2, f2, p2, q2, hg2, ht2, hv2, hd2, ⟨g3, t3, cs3, f3, p3, q3, hg3, ht3, hv3, hd3, ⟨g4, t4, cs4, f4, p4, q4, hg4, ht4, hv4, hd4, _, _⟩, _⟩, _⟩, _⟩, _⟩, _, _⟩ := h
  obtain rfl := Option.some.inj (g_tab.symm.trans hg2)
  obtain rfl := Option.some.inj (t_tab.symm.trans ht2)
  obtain rfl := Option.some.inj (g_er.symm.trans hg3)
  obtain rfl := Option.some.inj (t_er.symm.trans ht3)
  obtain rfl := Option.some.inj (g_es.symm.trans hg4)
  obtain rfl := Option.some.inj (t_es.symm.trans ht4)
  rw [pow_tab] at hd2
  have hc2 := Lib.cells_of_tab (k := .u64) Tryd.underlying83 Tryd.underlying60 (by kernel_rfl) (by kernel_rfl) hd2
  obtain ⟨a3, b3, hc3⟩ := iface_of_trod Tryd.underlying68 hd3
  obtain ⟨a2, b2, hc4⟩ := iface_of_trod Tryd.underlying68 hd4
  have e3 : cs3 = #[.iface a3 b3] := Array.toList_inj.1 (by rw [hc3])
  have e4 : cs4 = #[.iface a2 b2] := Array.toList_inj.1 (by rw [hc4])
  rw [e3] at hv3
  rw [e4] at hv4
  have v3 := cell_of_var g_er hv3
  have v2 := cell_of_var g_es hv4
  refine ⟨a2, b2, a3, b3, ?_⟩
  have tab : Lib.TabIs Tryd.prog W "internal/strconv.uint64pow10" .u64 Lib.pow10Tab := by
    unfold Lib.TabIs
    rw [hv2, ← hc2]
  obtain ⟨r1, r2⟩ := rep_tab (E := envOf (fun _ => False) W) (fun a v ha _ => ⟨id, ha⟩) tab
  intro g
  by_cases h1 : g = 1
  · subst h1
    exact ⟨r1, fun m hm => by cases hm; exact r2⟩
  · refine ⟨?_, fun m hm => ?_⟩
    · show Rep _ _ (if g = 1 then _ else if g = 2 then _ else if g = 3 then _ else SV.any)
      rw [if_neg h1]
      by_cases h4 : g = 2
      · rw [if_pos h4]
        subst h4
        exact rep_fp1 ⟨id, v2⟩
      · rw [if_neg h4]
        by_cases h5 : g = 3
        · rw [if_pos h5]
          subst h5
          exact rep_fp1 ⟨id, v3⟩
        · rw [if_neg h5]
          exact .any _
    · exfalso
      have hm' : (if g = 1 then some 20 else Option.none) = some m := hm
      rw [if_neg h1] at hm'
      cases hm'

theorem fits64 {n : Int} (h : fits .i64 n) : In64 n := by
  unfold fits Lit.wf at h
  simp only [Bool.and_eq_true, decide_eq_true_eq] at h
  exact ⟨h.1, h.2⟩
/-- Nothing is known of the package-level variables. -/
@[reducible] def gN : Gl := ⟨fun _ => .any, fun _ => .none⟩
abbrev V3 := Int × Int × ByteArray
abbrev cellsV (x : V3) : List SV := [I64 x.1, I64 x.2.1, Str x.2.2]
def okV (x : V3) : Prop := In64 x.1 ∧ In64 x.2.1 ∧ x.2.2.size ≤ 9223372036854775807

set_option maxRecDepth 100000 in
/-- A value that came in. -/
theorem rd_value : Rd Tryd.prog 23 cellsV okV :=
  Rd.map (Rd.struct Tryd.underlying23 (by kernel_rfl) (RdF.cons rfl 1 (by kernel_rfl) (Rd.int Tryd.underlying3) (RdF.cons rfl 1 (by kernel_rfl) (Rd.int Tryd.underlying2) (RdF.cons rfl 1 (by kernel_rfl) (Rd.str Tryd.underlying9) (RdF.nil _)))))
    (fun x => (x.1, x.2.1, x.2.2.1)) (fun _ _ => rfl) (fun x h => ⟨fits64 h.1, fits64 h.2.1, h.2.2.1⟩)

set_option maxRecDepth 100000 in
/-- Three values that came in. -/
theorem rd_three [Gl] : Rd Tryd.prog 28 (fun x : V3 × V3 × V3 => cellsV x.1 ++ (cellsV x.2.1 ++ cellsV x.2.2)) (fun x => okV x.1 ∧ okV x.2.1 ∧ okV x.2.2) :=
  Rd.map (Rd.array (n := 3) Tryd.underlying28 3 (by kernel_rfl) (by kernel_rfl) (by decide) rd_value)
    (fun l => (l.getD 0 (0, 0, ⟨#[]⟩), l.getD 1 (0, 0, ⟨#[]⟩), l.getD 2 (0, 0, ⟨#[]⟩)))
    (fun l h => match l, h.1 with | [_, _, _], _ => rfl)
    (fun l h => match l, h with | [a, b, c], h => ⟨h.2 a (by simp), h.2 b (by simp), h.2 c (by simp)⟩)
set_option maxRecDepth 100000 in
/-- Two texts that came in. -/
theorem rd_two [Gl] : Rd Tryd.prog 38 (fun x : ByteArray × ByteArray => [Str x.1, Str x.2]) (fun x => x.1.size ≤ 9223372036854775807 ∧ x.2.size ≤ 9223372036854775807) :=
  Rd.map (Rd.array (n := 2) Tryd.underlying38 1 (by kernel_rfl) (by kernel_rfl) (by decide) (Rd.str Tryd.underlying9))
    (fun l => (l.getD 0 ⟨#[]⟩, l.getD 1 ⟨#[]⟩))
    (fun l h => match l, h.1 with | [_, _], _ => rfl)
    (fun l h => match l, h with | [a, b], h => ⟨h.2 a (by simp), h.2 b (by simp)⟩)
end Go.Proofs.YtpkdknfdhhgbgaaDoor
