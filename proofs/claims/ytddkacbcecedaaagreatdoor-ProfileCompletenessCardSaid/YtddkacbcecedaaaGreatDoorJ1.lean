/- Contracts: values of codes, tables of recipes. -/
import Derived.Test.YtddkacbcecedaaaGreatDoorH7
set_option linter.unusedSimpArgs false
set_option linter.unusedVariables false
set_option linter.unusedSectionVars false
namespace Go.Ab.A34
open Go Go.Ab Go.Proofs
abbrev U8 (n : Int) : SV := .sc (.int .u8 n)
/-- The value with a code. -/
def codeV (c : Int) : V3 :=
  if c % 12 = 0 then (1, 0, ⟨#[]⟩) else if c % 12 = 1 then (1, 1, ⟨#[]⟩) else if c % 12 = 2 then (1, 2, ⟨#[]⟩) else if c % 12 = 3 then (0, 0, ⟨#[]⟩)
  else if c % 12 = 4 then (2, 0, ⟨#[97]⟩) else if c % 12 = 5 then (2, 0, ⟨#[98]⟩) else if c % 12 = 6 then (2, 0, ⟨#[]⟩) else if c % 12 = 7 then (3, 1, ⟨#[]⟩)
  else if c % 12 = 8 then (1, -1, ⟨#[]⟩) else if c % 12 = 9 then (2, 0, ⟨#[97, 98]⟩) else if c % 12 = 10 then (3, 2, ⟨#[]⟩) else (1, 7, ⟨#[]⟩)
def nm8 : List ByteArray := [⟨#[97]⟩, ⟨#[98]⟩, ⟨#[99]⟩, ⟨#[100]⟩, ⟨#[101]⟩, ⟨#[102]⟩, ⟨#[103]⟩, ⟨#[104]⟩]
abbrev UL (l : List Int) : SV := .fl l.length 1 (fun j => [U8 (l.getD j 0)])
abbrev UU (l : List (List Int)) : SV := .fl l.length 1 (fun i => [UL (l.getD i [])])
/-- A recipe: attributes, gap, rows. -/
structure Rc where
  attrs : Int
  gap : Int
  rows : List (List Int)
abbrev RCC (x : Rc) : List SV := [U8 x.attrs, U8 x.gap, UU x.rows]
abbrev RC (x : Rc) : SV := .agg (RCC x)
def okRc (x : Rc) : Prop := (0 ≤ x.attrs ∧ x.attrs < 256) ∧ (0 ≤ x.gap ∧ x.gap < 256) ∧ ∀ r ∈ x.rows, ∀ c ∈ r, 0 ≤ c ∧ c < 256
def rowS (gap : Int) (n i : Nat) (r : List Int) : R3 := (1 + (i : Int) * (1 + gap % 3), (List.range n).map fun k => codeV (r.getD k 0))
/-- The table of a recipe. -/
def wideS (x : Rc) (n : Nat) : Tb := ⟨⟨#[114]⟩, nm8.take n, (List.range x.rows.length).map fun i => rowS x.gap n i (x.rows.getD i [])⟩
end Go.Ab.A34
namespace Go.Proofs.YtddkacbcecedaaaGreatDoor
open Go Go.Ab Go.Ab.A34
variable [Gl] [Tabs]

set_option maxRecDepth 20000 in
theorem code_r (c : Int) (h1 : 0 ≤ c) (h2 : c < 256) : PCall Tryz.prog 59 [U8 c] (VV (codeV c)) := by
  have hm : c.tmod 12 = c % 12 := Int.tmod_eq_emod_of_nonneg h1
  have hk : c % 12 = 0 ∨ c % 12 = 1 ∨ c % 12 = 2 ∨ c % 12 = 3 ∨ c % 12 = 4 ∨ c % 12 = 5 ∨ c % 12 = 6 ∨ c % 12 = 7 ∨ c % 12 = 8 ∨ c % 12 = 9 ∨ c % 12 = 10 ∨ c % 12 = 11 := by omega
  obtain ⟨X, hX⟩ : ∃ X, X = codeV c := ⟨_, rfl⟩
  rw [← hX]
  unfold codeV at hX
  rcases hk with h | h | h | h | h | h | h | h | h | h | h | h
  all_goals
    rw [h] at hm hX
    simp only [Int.reduceEq, if_true, if_false] at hX
    subst hX
    refine Call.enter' (N := 39) (rs := [.cell 2 50]) Tryz.func59 rfl rfl rfl (by decide) rfl ?_; simp only [argT]; have hD : (0 : Nat) = 0 := rfl
    repeat' first | (with_reducible refine And.intro (by omega) ?_) | (refine SW.seq_k fun K hK => ?_) | (refine SW.block ?_) | ((first | refine SW.region ?_ | refine SW.regionD (Checked.mixed Tryz.checked) (by kernel_rfl) ?_ | refine SW.cond ?_ | refine SW.skip ?_ | refine SW.exit ?_ | refine SW.ret ?_ | (refine allF_i fun b hb => ?_; replace hD := And.intro hb hD; clear hb; try simp only [fresh_cons, fresh_nil, and_true, ne_eq, neF] at hD) | simp only [appK, appOsK]); try simp only [go_sem, hD, hm]) | (refine And.intro (by omega) ?_) | (refine ifI (fun hc => ?_) (fun hc => ?_) <;> first | (exfalso; omega) | skip) | ((first | apply hK | ((iterate 1 (clear hK K)); apply hK) | ((iterate 2 (clear hK K)); apply hK) | ((iterate 3 (clear hK K)); apply hK) | ((iterate 4 (clear hK K)); apply hK) | ((iterate 5 (clear hK K)); apply hK)); clear hK K)
    apply ret_cell (i := 2) (n := 3); exact rfl; (simp only [go_sem, hD]; try rfl); (first | exact Nat.le_refl _ | decide); simp only [resL_tmp, resL_cellE, resC_ok, resL_nil, tupOf, getN, go_sem, hD]
end Go.Proofs.YtddkacbcecedaaaGreatDoor
