/- Tables, rows, values; sorted columns. -/
import Derived.Test.YtddkacbcecedaaaGreatDoorO1
import Derived.Test.YtddkacbcecedaaaGreatDoorG3
import Derived.Test.YtddkacbcecedaaaGreatDoorZ11
import Derived.Test.YtddkacbcecedaaaGreatDoorZ12
import Derived.Test.YtddkacbcecedaaaGreatDoorS2
set_option linter.unusedSimpArgs false
set_option linter.unusedVariables false
set_option linter.unusedSectionVars false
namespace Go.Ab.A34
open Go Go.Ab Go.Proofs
def vCs (l : List V3) : List SV := l.flatMap fun v => (encV v).map SV.sc
theorem vCs_snoc (l : List V3) (v : V3) : vCs l ++ vC v = vCs (l ++ [v]) := by
  unfold vCs
  rw [List.flatMap_append]
  rfl
theorem vCs_len (l : List V3) : l.length * 3 = (vCs l).length := (flat_len encV 3 (fun _ => rfl) l).symm
theorem vCs_at : ∀ (l : List V3) (j : Nat), j < l.length → vF l j = ((vCs l).drop (j * 3)).take 3
  | [], j, h => absurd h (by simp)
  | a :: l, 0, _ => rfl
  | a :: l, j + 1, h => by
    have := vCs_at l j (by rw [List.length_cons] at h; omega)
    have e : (vCs (a :: l)).drop ((j + 1) * 3) = (vCs l).drop (j * 3) := by
      rw [show (j + 1) * 3 = j * 3 + 3 by omega, Nat.add_comm (j * 3) 3, ← List.drop_drop]
      rfl
    rw [e, ← this]
    rfl
/-- The order of values. -/
def cmp3 (x y : V3) : Int := cmpV x.1 x.2.1 x.2.2 y.1 y.2.1 y.2.2
theorem ltOf_iff (x y : V3) : ltOf cmp3 x y = true ↔ cmp3 x y < 0 := by unfold ltOf; exact decide_eq_true_iff
theorem ltOf_not (x y : V3) : ltOf cmp3 x y = false ↔ 0 ≤ cmp3 x y := by unfold ltOf; rw [decide_eq_false_iff_not]; omega
theorem cmp3_swap (x y : V3) : cmp3 y x = -cmp3 x y := cmp_swap ..
theorem cmp3_eq (x y : V3) : cmp3 x y = 0 ↔ x = y := by
  obtain ⟨a, b, c⟩ := x
  obtain ⟨a', b', c'⟩ := y
  have := (cmp_cases a b c a' b' c').2
  unfold cmp3
  rw [this]
  simp only [Prod.mk.injEq]
theorem cmp3_tr (x y z : V3) (h1 : cmp3 x y ≤ 0) (h2 : cmp3 y z ≤ 0) : cmp3 x z ≤ 0 ∧ (cmp3 x z = 0 → cmp3 x y = 0 ∧ cmp3 y z = 0) := (cmp_tr x.1 x.2.1 x.2.2 y.1 y.2.1 y.2.2 z.1 z.2.1 z.2.2).1 h1 h2
theorem swo3 : Go.Sort.SWO (ltOf cmp3) where
  irrefl x := by rw [ltOf_not, (cmp3_eq x x).2 rfl]; exact Int.le_refl _
  trans x y z h1 h2 := by
    rw [ltOf_iff] at *
    have := cmp3_tr x y z (by omega) (by omega)
    omega
  ntrans x y z h1 h2 := by
    rw [ltOf_not] at *
    have := cmp3_tr z y x (by rw [cmp3_swap y z]; omega) (by rw [cmp3_swap x y]; omega)
    rw [cmp3_swap x z] at this
    omega
theorem tot3 (x y : V3) (h1 : ltOf cmp3 x y = false) (h2 : ltOf cmp3 y x = false) : x = y := by
  rw [ltOf_not] at *
  rw [cmp3_swap x y] at h2
  exact (cmp3_eq x y).1 (by omega)
def sortV (l : List V3) : List V3 := l.mergeSort fun x y => !(ltOf cmp3) y x
theorem sortV_len (l : List V3) : (sortV l).length = l.length := List.length_mergeSort _
theorem sortV_perm (l : List V3) : (sortV l).Perm l := List.mergeSort_perm _ _
end Go.Ab.A34
namespace Go.Proofs.YtddkacbcecedaaaGreatDoor
open Go Go.Ab Go.Ab.A34
variable [Gl] [Tabs]

theorem isAggV : ∀ w, (isAgg 50).run Tryz.prog w = .ok true w := fun w => by kernel_rfl
theorem sizeV : ∀ w, (Go.sizeOf 50).run Tryz.prog w = .ok 3 w := fun w => by kernel_rfl
/-- slices.SortFunc by value.Compare. -/
theorem sort_c (b : Nat) (l : List V3) (hl : l.length < 4611686018427387904) :
    Ab.Call Tryz.prog 60 [.os b 0 l.length 3, .fn (.func 61) [] []] [(b, .svs (vCs l))] (fun r h' => r = .tup [] ∧ h' = [(b, .svs (vCs (sortV l)))]) :=
  Call.sortQ (P := Tryz.prog) (ρ := Tryz.sortV_ren) Tryz.sortV ⟨_, Tryz.func60, by kernel_rfl, by kernel_rfl⟩ 3 isAggV sizeV encV (fun _ => rfl) (fun x v hv => by simp [encV] at hv; rcases hv with rfl | rfl | rfl <;> rfl) cmp3 swo3 tot3 61
    (Go.Proofs.enters_of Tryz.func61 (by kernel_rfl) rfl) (fun x y => compare_p _ _ _ _ _ _) b l hl
theorem sort_n : PCall Tryz.prog 60 [.sc (.slice none 0 0), .fn (.func 61) [] []] (.tup []) :=
  Call.sortQ0 (P := Tryz.prog) (ρ := Tryz.sortV_ren) Tryz.sortV ⟨_, Tryz.func60, by kernel_rfl, by kernel_rfl⟩ 61
end Go.Proofs.YtddkacbcecedaaaGreatDoor
