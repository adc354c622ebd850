/- What the listed package-level variables hold, and what comes in, for the proofs of the laws. -/
import Derived.Test.YtmcmphmhjikgkaaGreatDoorRows
import Derived.Test.YtmcmphmhjikgkaaGreatDoorAw1
import Derived.Test.YtmcmphmhjikgkaaGreatDoorA3
import Derived.ProofKit
import Derived.LaidMore
import Derived.OpenShut
import Derived.Stop.Joined
import Derived.Lib.LaidTab
set_option linter.unusedSimpArgs false
set_option linter.unusedVariables false
set_option linter.unusedSectionVars false
namespace Go.Proofs.YtmcmphmhjikgkaaGreatDoor
open Go Go.Ab Go.Ab.A20 Go.ChangeShapes Go.WideShapes Go.ChangeAt Go.RowKit

theorem own : ownKnob Tryz.prog.godebug = .none := by kernel_rfl
theorem laidOut : laidOutB Tryz.prog = true := by kernel_rfl

/-- What is known of the package-level variables. -/
@[reducible] def gE : Gl := ⟨fun g => if g = 0 then .fp (dbT.map fun z => .sc (.int .u8 z)) else .any, fun _ => .none⟩
theorem bruE : @Bru gE := @Bru.mk gE rfl

theorem g_db : Tryz.prog.globalNamed "math/bits.deBruijn32tab" = some 0 := by kernel_rfl
theorem t_db : (Tryz.prog.globals[0]?).map (·.type) = some 238 := by kernel_rfl
theorem db_tab {H : Type} : (Rows.laid_math_bits_deBruijn32tab : DataW H) = Lib.tabData .u8 dbT := rfl

/-- A variable's cells, as they are seen. -/
theorem rep_vals {W : World} {E : Env} {nm : String} {g : Nat} {vals : List Value} (hE : ∀ a v, W.cell? a = some v → a.block = g → E.see a v) (hg : Tryz.prog.globalNamed nm = some g) (h : W.var? Tryz.prog nm = some vals.toArray) :
    Rep E (.pointer (some ⟨g, 0, none⟩)) (.fp (vals.map SV.sc)) ∧ HasSize W g (vals.length, none) := by
  unfold World.var? at h
  rw [hg] at h
  simp only [Option.bind_some] at h
  have hh : ∃ e fr, W.heap[g]? = some (.cells vals.toArray e fr) := by
    split at h
    · rename_i cs e fr hc
      rw [hc]
      cases h
      exact ⟨e, fr, rfl⟩
    · cases h
  obtain ⟨e, fr, hh⟩ := hh
  refine ⟨.fp g 0 _ (fun j => vals.getD j undef) (fun j hj => hE _ _ ?_ rfl) (fun j hj => ?_), ⟨_, e, fr, hh, by simp, .inl rfl⟩⟩
  · rw [List.length_map] at hj
    simp [World.cell?, hh, hj]
  · rw [List.length_map] at hj
    simp only [List.getD_eq_getElem?_getD, List.getElem?_map, List.getElem?_eq_getElem hj, Option.map_some, Option.getD_some]
    exact .sc _


theorem gl_of_laid {W : World} (h : laidMetH Tryz.prog Rows.topClosureRow.laid W) : ∃ u : Unit, @GlOk gE (envOf (fun _ => False) W) := by
  rw [MakeChecks.laidMetH_plain _ _ _ (by kernel_rfl)] at h
  obtain ⟨ps, ⟨g0, t0, cs0, f0, p0, q0, hg0, ht0, hv0, hd0, _, _⟩, _⟩ := h
  obtain rfl := Option.some.inj (g_db.symm.trans hg0)
  obtain rfl := Option.some.inj (t_db.symm.trans ht0)
  rw [db_tab] at hd0
  have hc0 := Lib.cells_of_tab (k := .u8) Tryz.underlying238 Tryz.underlying5 (by kernel_rfl) (by kernel_rfl) hd0
  refine ⟨(), ?_⟩
  obtain ⟨r3, _⟩ := rep_vals (E := envOf (fun _ => False) W) (fun a v ha _ => ⟨id, ha⟩) g_db (vals := dbT.map fun z => Value.int .u8 z) (by rw [hv0, ← hc0])
  rw [List.map_map] at r3
  intro g
  refine ⟨?_, fun m hm => by cases hm⟩
  show Rep _ _ (if g = 0 then _ else SV.any)
  by_cases h4 : g = 0
  · rw [if_pos h4]
    subst h4
    exact r3
  · rw [if_neg h4]
    exact .any _

theorem fits8 {n : Int} (h : fits .u8 n) : 0 ≤ n ∧ n < 256 := by
  unfold fits Lit.wf at h
  simp only [Bool.and_eq_true, decide_eq_true_eq] at h
  have h1 : (0 : Int) ≤ n := h.1
  have h2 : n ≤ 255 := h.2
  exact ⟨h1, by omega⟩

/-- Nothing is known of the package-level variables. -/
@[reducible] def gN : Gl := ⟨fun _ => .any, fun _ => .none⟩

theorem u8_nat {n : Int} (h : fits .u8 n) : ((n.toNat : Nat) : Int) = n ∧ n.toNat < 256 := by
  have := fits8 h
  exact ⟨by omega, by omega⟩
set_option maxRecDepth 100000 in
/-- A pair of small numbers that came in. -/
theorem rd_dep [Gl] : Rd Tryz.prog 128 (fun x : D2 => eC x) (fun x => x.1 < 256 ∧ x.2 < 256) :=
  Rd.map (Rd.struct Tryz.underlying128 (by kernel_rfl) (RdF.cons rfl 1 (by kernel_rfl) (Rd.int Tryz.underlying5) (RdF.cons rfl 1 (by kernel_rfl) (Rd.int Tryz.underlying5) (RdF.nil _))))
    (fun x => (x.1.toNat, x.2.1.toNat)) (fun x h => by
      have h1 := (u8_nat h.1).1
      have h2 := (u8_nat h.2.1).1
      show [U8 ((x.1.toNat : Nat) : Int), U8 ((x.2.1.toNat : Nat) : Int)] = _
      rw [h1, h2]
      rfl) (fun x h => ⟨(u8_nat h.1).2, (u8_nat h.2.1).2⟩)
/-- A small number that came in. -/
theorem rd_u8 [Gl] : Rd Tryz.prog 5 (fun n : Nat => [U8 n]) (fun n => n < 256) :=
  Rd.map (Rd.int Tryz.underlying5) (fun n => n.toNat) (fun n h => by
    show [U8 ((n.toNat : Nat) : Int)] = _
    rw [(u8_nat h).1]) (fun n h => (u8_nat h).2)
instance : Inhabited D2 := ⟨d0⟩
set_option maxRecDepth 100000 in
/-- A description that came in. -/
theorem rd_deps0 [Gl] : Rd Tryz.prog 24 (fun x : Nat × List D2 => [U8 x.1, EL x.2]) (fun x => x.1 < 256 ∧ ∀ d ∈ x.2, d.1 < 256 ∧ d.2 < 256) :=
  Rd.map (Rd.struct Tryz.underlying24 (by kernel_rfl) (RdF.cons rfl 1 (by kernel_rfl) (Rd.int Tryz.underlying5) (RdF.cons rfl 1 (by kernel_rfl) (Rd.slice Tryz.underlying22 2 (by kernel_rfl) (by decide) rd_dep) (RdF.nil _))))
    (fun x => (x.1.toNat, x.2.1)) (fun x h => by
      have h1 := (u8_nat h.1).1
      show [U8 ((x.1.toNat : Nat) : Int), EL x.2.1] = _
      rw [h1]
      rfl) (fun x h => ⟨(u8_nat h.1).2, h.2.1.2⟩)

/-! what a reading holds -/
theorem bulk_one {H : Type} (d : DataW H) : 1 ≤ Rows.uptoBulk d := by
  cases d with
  | lit l => cases l <;> simp [Rows.uptoBulk]
  | nil => simp [Rows.uptoBulk]
  | ptr d => simp [Rows.uptoBulk]
  | slice elems spare => simp [Rows.uptoBulk]
  | agg parts => simp [Rows.uptoBulk]
  | iface t d => simp [Rows.uptoBulk]
  | map entries => simp [Rows.uptoBulk]
  | held h => simp [Rows.uptoBulk]
theorem bulk_part {H : Type} {d : DataW H} {l : List (DataW H)} (h : d ∈ l) : Rows.uptoBulk d ≤ Rows.uptoBulkAll l := by
  induction l with
  | nil => cases h
  | cons x r ih =>
    simp only [Rows.uptoBulkAll]
    cases List.mem_cons.1 h with
    | inl e => subst e; omega
    | inr e => have := ih e; omega
theorem bulk_len {H : Type} (l : List (DataW H)) : l.length ≤ Rows.uptoBulkAll l := by
  induction l with
  | nil => simp [Rows.uptoBulkAll]
  | cons x r ih => have := bulk_one x; simp only [Rows.uptoBulkAll, List.length_cons]; omega
/-- A slice has at most so many elements. -/
theorem bulk_slice {H : Type} {enc : TypeId × Value → H} {w : World} {base fuel n sz : Nat} {held : Bool} {t e : TypeId} {cs : List Value} {x : DataW H × List MemPlace} {v : Value} {E : Env} {f : Nat → List SV} (ht : Tryz.prog.underlying t = some (.slice e))
    (h : DataW.trod enc Tryz.prog w base (fun _ => true) held fuel t cs = some x) (hc : cs = [v]) (hr : Rep E v (.fl n sz f)) : n ≤ Rows.uptoBulk x.1 := by
  rcases DataW.trod_slice ht h with ⟨rfl, rfl⟩ | ⟨a, len, cap, elems, rest, n', _, rfl, rfl, _, _, _, hlen, _⟩
  · obtain rfl := List.head_eq_of_cons_eq hc
    cases hr
    exact Nat.zero_le _
  · obtain rfl := List.head_eq_of_cons_eq hc
    have h1 := bulk_len (elems.map (·.1))
    rw [List.length_map, hlen] at h1
    have h2 : Rows.uptoBulkAll (elems.map (·.1)) ≤ Rows.uptoBulk (DataW.slice (elems.map (·.1)) (rest.map (·.1))) := by
      simp only [Rows.uptoBulk]
      omega
    cases hr with
    | fl0 => exact Nat.zero_le _
    | fl => exact Nat.le_trans h1 h2
/-- A description that came in, of some bulk. -/
theorem rd_deps {H : Type} {enc : TypeId × Value → H} {w : World} {base B : Nat} {held : Bool} {cs : Array Value} {d : DataW H} {ps : List MemPlace} (hd : DataW.Trod enc Tryz.prog w base (fun _ => true) held 24 (.agg cs) d ps) (hb : Rows.uptoBulk d ≤ B) :
    ∃ a : Nat × List D2, (a.1 < 256 ∧ a.2.length ≤ B ∧ ∀ d ∈ a.2, d.1 < 256 ∧ d.2 < 256) ∧ Rep (E0 w) (.agg cs) (.agg [U8 a.1, EL a.2]) := by
  obtain ⟨fuel, hx⟩ := hd
  obtain ⟨a, o, l, r⟩   := @rd_deps0 gN _ enc w base fuel held _ _ hx
  simp only [Value.cells] at l r hx
  refine ⟨a, ⟨o.1, ?_, o.2⟩, .agg _ _ (by rw [← Array.length_toList]; exact l.symm) (fun j hj => ?_)⟩
  · have r1 := r 1 (by rw [← l]; exact Nat.lt_succ_self 1)
    obtain ⟨xs, n, _, e1, hl, hxl, hall⟩ := DataW.trod_struct Tryz.underlying24 hx
    have hf := hall 1 _ rfl
    have hlen : cs.toList.length = 2 := l.symm
    obtain ⟨c0, c1, hcs⟩ : ∃ c0 c1, cs.toList = [c0, c1] := by
      match cs.toList, hlen with
      | [a, b], _ => exact ⟨a, b, rfl⟩
    rw [hcs] at hf r1
    have hc22 : Tryz.prog.cellsOf 22 = 1 := by kernel_rfl
    have h1 : 1 < xs.length := by rw [hxl]; decide
    rw [List.getElem?_eq_getElem h1] at hf
    have hk := bulk_slice Tryz.underlying22 hf (v := c1) (by show (([c0, c1].drop 1).take (Tryz.prog.cellsOf 22)) = _; rw [hc22]; rfl) r1
    have e2 := congrArg Prod.fst e1
    simp only at e2
    have hm : xs[1].1 ∈ xs.map (·.1) := List.mem_map.2 ⟨_, List.getElem_mem h1, rfl⟩
    have h2 := bulk_part hm
    rw [e2] at hb
    simp only [Rows.uptoBulk] at hb
    omega
  · have := r j (by rw [← l]; exact hj)
    rw [Array.getD_eq_getD_getElem?, ← Array.getElem?_toList, ← List.getD_eq_getElem?_getD]
    exact this
end Go.Proofs.YtmcmphmhjikgkaaGreatDoor
