/- Contracts: tables of recipes, of the reference. -/
import Derived.Test.YtddkacbcecedaaaGreatDoorJ1
set_option linter.unusedSimpArgs false
set_option linter.unusedVariables false
set_option linter.unusedSectionVars false
namespace Go.Proofs.YtddkacbcecedaaaGreatDoor
open Go Go.Ab Go.Ab.A34
variable [Gl] [Tabs]

set_option maxHeartbeats 4000000 in
set_option maxRecDepth 20000 in
theorem wide_r (x : Rc) (hx : okRc x) (n : Nat) (hn : n ≤ 5) (hr : x.rows.length ≤ 1000) : PCall Tryz.prog 34 [RC x, I64 n] (TB (wideS x n)) := by
  obtain ⟨at', gap, rows⟩ := x
  obtain ⟨hx1, hx2, hx3⟩ := hx
  unfold wideS
  simp only at hx1 hx2 hx3 hr ⊢
  refine Call.enter' (N := 67) (rs := [.cell 4 28]) Tryz.func34 rfl rfl rfl (by decide) rfl ?_; simp only [argT]; have hD : (0 : Nat) = 0 := rfl
  refine SW.seq_k fun K hK => ?_
  first | (with_reducible refine And.intro (by omega) ?_) | (refine SW.seq_k fun K hK => ?_) | (refine SW.block ?_) | ((first | refine SW.region ?_ | refine SW.regionD (Checked.mixed Tryz.checked) (by kernel_rfl) ?_ | refine SW.cond ?_ | refine SW.skip ?_ | refine SW.exit ?_ | refine SW.ret ?_ | (refine allF_i fun b hb => ?_; replace hD := And.intro hb hD; clear hb; try simp only [fresh_cons, fresh_nil, and_true, ne_eq, neF] at hD) | simp only [appK, appOsK]); try simp only [go_sem, hD]) | (refine And.intro (by omega) ?_) | (refine ifI (fun hc => ?_) (fun hc => ?_) <;> first | (exfalso; omega) | skip) | ((first | apply hK | ((iterate 1 (clear hK K)); apply hK) | ((iterate 2 (clear hK K)); apply hK) | ((iterate 3 (clear hK K)); apply hK) | ((iterate 4 (clear hK K)); apply hK) | ((iterate 5 (clear hK K)); apply hK)); clear hK K)
  first | (with_reducible refine And.intro (by omega) ?_) | (refine SW.seq_k fun K hK => ?_) | (refine SW.block ?_) | ((first | refine SW.region ?_ | refine SW.regionD (Checked.mixed Tryz.checked) (by kernel_rfl) ?_ | refine SW.cond ?_ | refine SW.skip ?_ | refine SW.exit ?_ | refine SW.ret ?_ | (refine allF_i fun b hb => ?_; replace hD := And.intro hb hD; clear hb; try simp only [fresh_cons, fresh_nil, and_true, ne_eq, neF] at hD) | simp only [appK, appOsK]); try simp only [go_sem, hD]) | (refine And.intro (by omega) ?_) | (refine ifI (fun hc => ?_) (fun hc => ?_) <;> first | (exfalso; omega) | skip) | ((first | apply hK | ((iterate 1 (clear hK K)); apply hK) | ((iterate 2 (clear hK K)); apply hK) | ((iterate 3 (clear hK K)); apply hK) | ((iterate 4 (clear hK K)); apply hK) | ((iterate 5 (clear hK K)); apply hK)); clear hK K)
  first | (with_reducible refine And.intro (by omega) ?_) | (refine SW.seq_k fun K hK => ?_) | (refine SW.block ?_) | ((first | refine SW.region ?_ | refine SW.regionD (Checked.mixed Tryz.checked) (by kernel_rfl) ?_ | refine SW.cond ?_ | refine SW.skip ?_ | refine SW.exit ?_ | refine SW.ret ?_ | (refine allF_i fun b hb => ?_; replace hD := And.intro hb hD; clear hb; try simp only [fresh_cons, fresh_nil, and_true, ne_eq, neF] at hD) | simp only [appK, appOsK]); try simp only [go_sem, hD]) | (refine And.intro (by omega) ?_) | (refine ifI (fun hc => ?_) (fun hc => ?_) <;> first | (exfalso; omega) | skip) | ((first | apply hK | ((iterate 1 (clear hK K)); apply hK) | ((iterate 2 (clear hK K)); apply hK) | ((iterate 3 (clear hK K)); apply hK) | ((iterate 4 (clear hK K)); apply hK) | ((iterate 5 (clear hK K)); apply hK)); clear hK K)
  first | (with_reducible refine And.intro (by omega) ?_) | (refine SW.seq_k fun K hK => ?_) | (refine SW.block ?_) | ((first | refine SW.region ?_ | refine SW.regionD (Checked.mixed Tryz.checked) (by kernel_rfl) ?_ | refine SW.cond ?_ | refine SW.skip ?_ | refine SW.exit ?_ | refine SW.ret ?_ | (refine allF_i fun b hb => ?_; replace hD := And.intro hb hD; clear hb; try simp only [fresh_cons, fresh_nil, and_true, ne_eq, neF] at hD) | simp only [appK, appOsK]); try simp only [go_sem, hD]) | (refine And.intro (by omega) ?_) | (refine ifI (fun hc => ?_) (fun hc => ?_) <;> first | (exfalso; omega) | skip) | ((first | apply hK | ((iterate 1 (clear hK K)); apply hK) | ((iterate 2 (clear hK K)); apply hK) | ((iterate 3 (clear hK K)); apply hK) | ((iterate 4 (clear hK K)); apply hK) | ((iterate 5 (clear hK K)); apply hK)); clear hK K)
  obtain ⟨rb, rfl⟩ : ∃ x, x = b := ⟨_, rfl⟩
  obtain ⟨xb, rfl⟩ : ∃ x, x = b := ⟨_, rfl⟩
  have hrx : ¬ rb = xb := by simp [hD]
  have hxr : ¬ xb = rb := by simp [hD]
  clear hD
  have hD := And.intro (eq_false hrx) (eq_false hxr)
  refine SW.seq_k fun K hK => ?_
  have key : ∃ C Q', (∀ S, Ab.SW Tryz.prog 67 C Q' S → K S) ∧ ∀ tb, ¬ tb = rb → ¬ tb = xb → ¬ rb = tb → ¬ xb = tb → Ab.SW Tryz.prog 67 C Q' ⟨[(1, I64 n), (2, .op xb 0), (4, .op rb 0), (5, .op tb 0)], [(xb, .svs (RCC ⟨at', gap, rows⟩)), (tb, .svs [Str ⟨#[114]⟩, .fl n 1 (sF (nm8.take n)), .sc (.slice none 0 0)]), (rb, .svs [Str ⟨#[]⟩, .sc (.slice none 0 0), .sc (.slice none 0 0)])]⟩ := by
    refine ⟨_, _, hK, fun tb d1 d2 d3 d4 => ?_⟩
    clear hK K
    clear hD
    have hD := And.intro (eq_false d1) (And.intro (eq_false d2) (And.intro (eq_false d3) (And.intro (eq_false d4) (And.intro (eq_false hrx) (eq_false hxr)))))
    repeat' first | (with_reducible refine And.intro (by omega) ?_) | (refine SW.seq_k fun K hK => ?_) | (refine SW.block ?_) | ((first | refine SW.region ?_ | refine SW.regionD (Checked.mixed Tryz.checked) (by kernel_rfl) ?_ | refine SW.cond ?_ | refine SW.skip ?_ | refine SW.exit ?_ | refine SW.ret ?_ | (refine allF_i fun b hb => ?_; replace hD := And.intro hb hD; clear hb; try simp only [fresh_cons, fresh_nil, and_true, ne_eq, neF] at hD) | simp only [appK, appOsK]); try simp only [go_sem, hD]) | (refine And.intro (by omega) ?_) | (refine ifI (fun hc => ?_) (fun hc => ?_) <;> first | (exfalso; omega) | skip) | ((first | apply hK | ((iterate 1 (clear hK K)); apply hK) | ((iterate 2 (clear hK K)); apply hK) | ((iterate 3 (clear hK K)); apply hK) | ((iterate 4 (clear hK K)); apply hK) | ((iterate 5 (clear hK K)); apply hK)); clear hK K)
    obtain ⟨I, hI⟩ : ∃ I : Nat → St → Prop, ∀ k S, I k S ↔ (∃ (i : Nat) (h : Heap), k = rows.length - i ∧ i ≤ rows.length ∧ ((i = 0 ∧ h = [(xb, .svs (RCC ⟨at', gap, rows⟩)), (tb, .svs [Str ⟨#[114]⟩, .fl n 1 (sF (nm8.take n)), .sc (.slice none 0 0)]), (rb, .svs [Str ⟨#[]⟩, .sc (.slice none 0 0), .sc (.slice none 0 0)])]) ∨ (0 < i ∧ ∃ g, ¬ g = xb ∧ ¬ xb = g ∧ ¬ g = tb ∧ ¬ tb = g ∧ ¬ g = rb ∧ ¬ rb = g ∧ h = [(xb, .svs (RCC ⟨at', gap, rows⟩)), (g, .svs (fC rC ((List.range i).map fun j => rowS gap n j (rows.getD j [])))), (tb, .svs [Str ⟨#[114]⟩, .fl n 1 (sF (nm8.take n)), .os g 0 i 2]), (rb, .svs [Str ⟨#[]⟩, .sc (.slice none 0 0), .sc (.slice none 0 0)])])) ∧ S = ⟨[(1, I64 n), (2, .op xb 0), (4, .op rb 0), (5, .op tb 0), (6, I64 i)], h⟩) := ⟨fun k S => _, fun _ _ => Iff.rfl⟩
    refine SW.loop' I (rows.length) ((hI _ _).2 ⟨0, _, rfl, Nat.zero_le _, .inl ⟨rfl, rfl⟩, rfl⟩) (by repeat' (first | exact rfl | exact trivial | exact int_eq (by omega) | exact int_eq (by (rw [i64_wrap] <;> omega)) | constructor)) ?_
    intro k S hIn
    obtain ⟨i, h, rfl, hi, hB, rfl⟩ := (hI _ _).1 hIn
    clear hIn
    have ie : ((i : Nat) : Int).toNat = i := Int.toNat_natCast _
    have i0 : (0 : Int) ≤ ((i : Nat) : Int) := by omega
    by_cases hlt : i < rows.length
    · have hli : ((i : Nat) : Int) < (((rows.length) : Nat) : Int) := by omega
      have w1 : IntKind.i64.wrap ((i : Int) + 1) = ((i + 1 : Nat) : Int) := by rw [i64_wrap (by omega) (by omega)]; omega
      have hg3 : gap.tmod 3 = gap % 3 := Int.tmod_eq_emod_of_nonneg hx2.1
      have q1 : IntKind.i64.wrap (gap % 3) = gap % 3 := by rw [i64_wrap (by omega) (by omega)]
      have q2 : IntKind.i64.wrap (1 + gap % 3) = 1 + gap % 3 := by rw [i64_wrap (by omega) (by omega)]
      have q5 : 0 ≤ (i : Int) * (1 + gap % 3) ∧ (i : Int) * (1 + gap % 3) ≤ 3000 := by
        have : gap % 3 = 0 ∨ gap % 3 = 1 ∨ gap % 3 = 2 := by omega
        rcases this with h | h | h <;> rw [h] <;> omega
      have q3 : IntKind.i64.wrap ((i : Int) * (1 + gap % 3)) = (i : Int) * (1 + gap % 3) := by rw [i64_wrap (by omega) (by omega)]
      obtain ⟨id, hid⟩ : ∃ z, 1 + (i : Int) * (1 + gap % 3) = z := ⟨_, rfl⟩
      have q4 : IntKind.i64.wrap (1 + (i : Int) * (1 + gap % 3)) = id := by rw [i64_wrap (by omega) (by omega), hid]
      obtain ⟨row, hrow⟩ : ∃ r, rows.getD i [] = r := ⟨_, rfl⟩
      have hr3 := hx3 _ (getD_mem [] hlt)
      rw [hrow] at hr3
      have hmp : ((List.range (i + 1)).map fun j => rowS gap n j (rows.getD j [])) = ((List.range i).map fun j => rowS gap n j (rows.getD j [])) ++ [rowS gap n i row] := by rw [List.range_succ, List.map_append, ← hrow]; rfl
      have hsl : ((List.range i).map fun j => rowS gap n j (rows.getD j [])).length = i := by simp
      have hrw : rowS gap n i row = (id, (List.range n).map fun k => codeV (row.getD k 0)) := by unfold rowS; rw [hid]
      generalize ((List.range i).map fun j => rowS gap n j (rows.getD j [])) = Li at *
      have ba : (i + 1) * 32 ≤ 140737488355328 := by omega
      rcases hB with ⟨hi0, rfl⟩ | ⟨hi0, g, u1, u2, u3, u4, u5, u6, rfl⟩
      · repeat' first | (with_reducible refine And.intro (by omega) ?_) | (refine SW.seq_k fun K hK => ?_) | (refine SW.block ?_) | ((first | refine SW.region ?_ | refine SW.regionD (Checked.mixed Tryz.checked) (by kernel_rfl) ?_ | refine SW.cond ?_ | refine SW.skip ?_ | refine SW.exit ?_ | refine SW.ret ?_ | (refine allF_i fun b hb => ?_; replace hD := And.intro hb hD; clear hb; try simp only [fresh_cons, fresh_nil, and_true, ne_eq, neF] at hD) | simp only [appK, appOsK]); try simp only [go_sem, hD, hli, ie, i0, w1, hg3, q1, q2, q3, q4]) | (refine And.intro (by omega) ?_) | (refine ifI (fun hc => ?_) (fun hc => ?_) <;> first | (exfalso; omega) | skip) | ((first | apply hK | ((iterate 1 (clear hK K)); apply hK) | ((iterate 2 (clear hK K)); apply hK) | ((iterate 3 (clear hK K)); apply hK) | ((iterate 4 (clear hK K)); apply hK) | ((iterate 5 (clear hK K)); apply hK)); clear hK K)
        obtain ⟨vb, rfl⟩ : ∃ x, x = b := ⟨_, rfl⟩
        obtain ⟨R, hR⟩ : ∃ R : Heap, R = [(tb, .svs [Str ⟨#[114]⟩, .fl n 1 (sF (nm8.take n)), .sc (.slice none 0 0)]), (rb, .svs [Str ⟨#[]⟩, .sc (.slice none 0 0), .sc (.slice none 0 0)])] := ⟨_, rfl⟩
        rw [← hR]
        have v1 : ¬ vb = xb := by simp [hD]
        have v2 : ¬ xb = vb := by simp [hD]
        have v3 : fresh R vb := by rw [hR]; simp [fresh_cons, fresh_nil, hD]
        have v4 : fresh R xb := by rw [hR]; simp [fresh_cons, fresh_nil, d2, d4, hrx, hxr]
        clear hD
        have hD := And.intro (eq_false v1) (eq_false v2)
        obtain ⟨J, hJ⟩ : ∃ J : Nat → St → Prop, ∀ m S, J m S ↔ (∃ (k : Nat) (h : Heap), m = n - k ∧ k ≤ n ∧ ((k = 0 ∧ h = (vb, .svs [I64 id, .sc (.slice none 0 0)]) :: (xb, .svs (RCC ⟨at', gap, rows⟩)) :: R) ∨ (0 < k ∧ ∃ g2, ¬ g2 = vb ∧ ¬ vb = g2 ∧ ¬ g2 = xb ∧ ¬ xb = g2 ∧ fresh R g2 ∧ h = (g2, .svs (vCs ((List.range k).map fun k => codeV (row.getD k 0)))) :: (vb, .svs [I64 id, .os g2 0 k 3]) :: (xb, .svs (RCC ⟨at', gap, rows⟩)) :: R)) ∧ S = ⟨[(1, I64 n), (2, .op xb 0), (4, .op rb 0), (5, .op tb 0), (6, I64 i), (7, .op vb 0), (8, I64 k)], h⟩) := ⟨fun m S => _, fun _ _ => Iff.rfl⟩
        refine SW.loop' J n ((hJ _ _).2 ⟨0, _, rfl, Nat.zero_le _, .inl ⟨rfl, rfl⟩, rfl⟩) (by repeat' (first | exact rfl | exact trivial | exact int_eq (by omega) | exact int_eq (by (rw [i64_wrap] <;> omega)) | constructor)) ?_
        intro m S hIn
        obtain ⟨k, h, rfl, hk, hV, rfl⟩ := (hJ _ _).1 hIn
        clear hIn
        have ke : ((k : Nat) : Int).toNat = k := Int.toNat_natCast _
        have k0 : (0 : Int) ≤ ((k : Nat) : Int) := by omega
        by_cases hkn : k < n
        · have hkni : ((k : Nat) : Int) < ((n : Nat) : Int) := by omega
          have wk : IntKind.i64.wrap ((k : Int) + 1) = ((k + 1 : Nat) : Int) := by rw [i64_wrap (by omega) (by omega)]; omega
          have hvp : ((List.range (k + 1)).map fun k => codeV (row.getD k 0)) = ((List.range k).map fun k => codeV (row.getD k 0)) ++ [codeV (row.getD k 0)] := by rw [List.range_succ, List.map_append]; rfl
          have hvl : ((List.range k).map fun k => codeV (row.getD k 0)).length = k := by simp
          have bk : (k + 1) * 32 ≤ 140737488355328 := by omega
          by_cases hkr : k < row.length
          · have hkri : ((k : Nat) : Int) < ((row.length : Nat) : Int) := by omega
            have hc3 := hr3 _ (getD_mem 0 hkr)
            have cr := code_r (row.getD k 0) hc3.1 hc3.2
            generalize codeV (row.getD k 0) = cv at *
            obtain ⟨ck, cn, ct⟩ := cv
            rcases hV with ⟨hk0, rfl⟩ | ⟨hk0, g2, f1, f2, f3, f4, f5, rfl⟩
            · subst hk0
              repeat' first | (with_reducible refine And.intro (by omega) ?_) | (refine SW.seq_k fun K hK => ?_) | (refine SW.block ?_) | ((first | refine SW.region ?_ | refine SW.regionZ (id := 12) (Checked.mixed Tryz.checked) ((.one 0 [0, 1, 5, 6, 7] (.one 1 [1, 5, 6, 7] (.one 2 [2, 3, 4, 5, 6, 7] (.one 3 [3, 4, 5, 6, 7] (.alt 4 (.alt 5 (.one 6 [6, 7] (.alt 7 .done .nil)) .nil) .nil))))) : OZ) (by kernel_rfl) ?_ | refine SW.regionD (Checked.mixed Tryz.checked) (by kernel_rfl) ?_ | refine SW.cond ?_ | refine SW.skip ?_ | refine SW.exit ?_ | refine SW.ret ?_ | refine Call.of_pure (cr) ?_ | refine ⟨_, cr, ?_⟩ | (refine allF_i fun b hb => ?_; replace hD := And.intro hb hD; clear hb; try simp only [fresh_cons, fresh_nil, and_true, ne_eq, neF] at hD) | simp only [appK, appOsK]); try simp only [go_sem, hD, hli, ie, i0, hkni, ke, k0, wk, hrow, hkri, bk, true_implies]) | (refine And.intro (by omega) ?_) | (refine ifI (fun hc => ?_) (fun hc => ?_) <;> first | (exfalso; omega) | skip) | ((first | apply hK | ((iterate 1 (clear hK K)); apply hK) | ((iterate 2 (clear hK K)); apply hK) | ((iterate 3 (clear hK K)); apply hK) | ((iterate 4 (clear hK K)); apply hK) | ((iterate 5 (clear hK K)); apply hK)); clear hK K) | (refine And.intro ?_ ?_)
              obtain ⟨nb, rfl⟩ : ∃ x, x = b := ⟨_, rfl⟩
              refine Rnd.le (St.le_del (b := b)) ?_
              simp only [go_sem, hD]
              refine Rnd.sub (n - (0 + 1)) (by omega) ((hJ _ _).2 ⟨0 + 1, _, rfl, by omega, .inr ⟨by omega, nb, by simp [hD], by simp [hD], by simp [hD], by simp [hD], by simp [hD], by rw [hvp]; rfl⟩, rfl⟩) (by repeat' (first | exact rfl | exact trivial | exact int_eq (by omega) | exact int_eq (by (rw [i64_wrap] <;> omega)) | constructor))
            · have hD := And.intro (And.intro (eq_false f1) (eq_false f2)) (And.intro (And.intro (eq_false f3) (eq_false f4)) hD)
              have hvc : (vCs ((List.range k).map fun k => codeV (row.getD k 0))).length = k * 3 := by rw [← vCs_len, hvl]
              repeat' first | (with_reducible refine And.intro (by omega) ?_) | (refine SW.seq_k fun K hK => ?_) | (refine SW.block ?_) | ((first | refine SW.region ?_ | refine SW.regionZ (id := 12) (Checked.mixed Tryz.checked) ((.one 0 [0, 1, 5, 6, 7] (.one 1 [1, 5, 6, 7] (.one 2 [2, 3, 4, 5, 6, 7] (.one 3 [3, 4, 5, 6, 7] (.alt 4 (.alt 5 (.one 6 [6, 7] (.alt 7 .done .nil)) .nil) .nil))))) : OZ) (by kernel_rfl) ?_ | refine SW.regionD (Checked.mixed Tryz.checked) (by kernel_rfl) ?_ | refine SW.cond ?_ | refine SW.skip ?_ | refine SW.exit ?_ | refine SW.ret ?_ | refine Call.of_pure (cr) ?_ | refine ⟨_, cr, ?_⟩ | (refine allF_i fun b hb => ?_; replace hD := And.intro hb hD; clear hb; try simp only [fresh_cons, fresh_nil, and_true, ne_eq, neF] at hD) | simp only [appK, appOsK]); try simp only [go_sem, hD, hli, ie, i0, hkni, ke, k0, wk, hrow, hkri, bk, hvc, true_implies]) | (refine And.intro (by omega) ?_) | (refine ifI (fun hc => ?_) (fun hc => ?_) <;> first | (exfalso; omega) | skip) | ((first | apply hK | ((iterate 1 (clear hK K)); apply hK) | ((iterate 2 (clear hK K)); apply hK) | ((iterate 3 (clear hK K)); apply hK) | ((iterate 4 (clear hK K)); apply hK) | ((iterate 5 (clear hK K)); apply hK)); clear hK K) | (refine And.intro ?_ ?_)
              obtain ⟨nb, rfl⟩ : ∃ x, x = b := ⟨_, rfl⟩
              refine Rnd.le (St.le_del (b := b)) ?_
              simp only [go_sem, hD]
              refine Rnd.sub (n - (k + 1)) (by omega) ((hJ _ _).2 ⟨k + 1, _, rfl, by omega, .inr ⟨by omega, nb, by simp [hD], by simp [hD], by simp [hD], by simp [hD], by simp [hD], by rw [hvp, ← vCs_snoc]⟩, rfl⟩) (by repeat' (first | exact rfl | exact trivial | exact int_eq (by omega) | exact int_eq (by (rw [i64_wrap] <;> omega)) | constructor))
          · have hkri : ¬ ((k : Nat) : Int) < ((row.length : Nat) : Int) := by omega
            have hz : row.getD k 0 = 0 := by rw [List.getD_eq_getElem?_getD, List.getElem?_eq_none (by omega)]; rfl
            have cr := code_r 0 (by omega) (by omega)
            rw [hz] at hvp
            generalize codeV 0 = cv at *
            obtain ⟨ck, cn, ct⟩ := cv
            rcases hV with ⟨hk0, rfl⟩ | ⟨hk0, g2, f1, f2, f3, f4, f5, rfl⟩
            · subst hk0
              repeat' first | (with_reducible refine And.intro (by omega) ?_) | (refine SW.seq_k fun K hK => ?_) | (refine SW.block ?_) | ((first | refine SW.region ?_ | refine SW.regionZ (id := 12) (Checked.mixed Tryz.checked) ((.one 0 [0, 1, 5, 6, 7] (.one 1 [1, 5, 6, 7] (.one 2 [2, 3, 4, 5, 6, 7] (.one 3 [3, 4, 5, 6, 7] (.alt 4 (.alt 5 (.one 6 [6, 7] (.alt 7 .done .nil)) .nil) .nil))))) : OZ) (by kernel_rfl) ?_ | refine SW.regionD (Checked.mixed Tryz.checked) (by kernel_rfl) ?_ | refine SW.cond ?_ | refine SW.skip ?_ | refine SW.exit ?_ | refine SW.ret ?_ | refine Call.of_pure (cr) ?_ | refine ⟨_, cr, ?_⟩ | (refine allF_i fun b hb => ?_; replace hD := And.intro hb hD; clear hb; try simp only [fresh_cons, fresh_nil, and_true, ne_eq, neF] at hD) | simp only [appK, appOsK]); try simp only [go_sem, hD, hli, ie, i0, hkni, ke, k0, wk, hrow, hkri, bk, true_implies]) | (refine And.intro (by omega) ?_) | (refine ifI (fun hc => ?_) (fun hc => ?_) <;> first | (exfalso; omega) | skip) | ((first | apply hK | ((iterate 1 (clear hK K)); apply hK) | ((iterate 2 (clear hK K)); apply hK) | ((iterate 3 (clear hK K)); apply hK) | ((iterate 4 (clear hK K)); apply hK) | ((iterate 5 (clear hK K)); apply hK)); clear hK K) | (refine And.intro ?_ ?_)
              obtain ⟨nb, rfl⟩ : ∃ x, x = b := ⟨_, rfl⟩
              refine Rnd.le (St.le_del (b := b)) ?_
              simp only [go_sem, hD]
              refine Rnd.sub (n - (0 + 1)) (by omega) ((hJ _ _).2 ⟨0 + 1, _, rfl, by omega, .inr ⟨by omega, nb, by simp [hD], by simp [hD], by simp [hD], by simp [hD], by simp [hD], by rw [hvp]; rfl⟩, rfl⟩) (by repeat' (first | exact rfl | exact trivial | exact int_eq (by omega) | exact int_eq (by (rw [i64_wrap] <;> omega)) | constructor))
            · have hD := And.intro (And.intro (eq_false f1) (eq_false f2)) (And.intro (And.intro (eq_false f3) (eq_false f4)) hD)
              have hvc : (vCs ((List.range k).map fun k => codeV (row.getD k 0))).length = k * 3 := by rw [← vCs_len, hvl]
              repeat' first | (with_reducible refine And.intro (by omega) ?_) | (refine SW.seq_k fun K hK => ?_) | (refine SW.block ?_) | ((first | refine SW.region ?_ | refine SW.regionZ (id := 12) (Checked.mixed Tryz.checked) ((.one 0 [0, 1, 5, 6, 7] (.one 1 [1, 5, 6, 7] (.one 2 [2, 3, 4, 5, 6, 7] (.one 3 [3, 4, 5, 6, 7] (.alt 4 (.alt 5 (.one 6 [6, 7] (.alt 7 .done .nil)) .nil) .nil))))) : OZ) (by kernel_rfl) ?_ | refine SW.regionD (Checked.mixed Tryz.checked) (by kernel_rfl) ?_ | refine SW.cond ?_ | refine SW.skip ?_ | refine SW.exit ?_ | refine SW.ret ?_ | refine Call.of_pure (cr) ?_ | refine ⟨_, cr, ?_⟩ | (refine allF_i fun b hb => ?_; replace hD := And.intro hb hD; clear hb; try simp only [fresh_cons, fresh_nil, and_true, ne_eq, neF] at hD) | simp only [appK, appOsK]); try simp only [go_sem, hD, hli, ie, i0, hkni, ke, k0, wk, hrow, hkri, bk, hvc, true_implies]) | (refine And.intro (by omega) ?_) | (refine ifI (fun hc => ?_) (fun hc => ?_) <;> first | (exfalso; omega) | skip) | ((first | apply hK | ((iterate 1 (clear hK K)); apply hK) | ((iterate 2 (clear hK K)); apply hK) | ((iterate 3 (clear hK K)); apply hK) | ((iterate 4 (clear hK K)); apply hK) | ((iterate 5 (clear hK K)); apply hK)); clear hK K) | (refine And.intro ?_ ?_)
              obtain ⟨nb, rfl⟩ : ∃ x, x = b := ⟨_, rfl⟩
              refine Rnd.le (St.le_del (b := b)) ?_
              simp only [go_sem, hD]
              refine Rnd.sub (n - (k + 1)) (by omega) ((hJ _ _).2 ⟨k + 1, _, rfl, by omega, .inr ⟨by omega, nb, by simp [hD], by simp [hD], by simp [hD], by simp [hD], by simp [hD], by rw [hvp, ← vCs_snoc]⟩, rfl⟩) (by repeat' (first | exact rfl | exact trivial | exact int_eq (by omega) | exact int_eq (by (rw [i64_wrap] <;> omega)) | constructor))
        have hkni : ¬ ((k : Nat) : Int) < ((n : Nat) : Int) := by omega
        obtain rfl : k = n := by omega
        have hVl : ((List.range k).map fun k => codeV (row.getD k 0)).length = k := by simp
        have hwl := hrw
        generalize ((List.range k).map fun k => codeV (row.getD k 0)) = V at *
        apply Ab.SW.le (S' := ⟨[(1, I64 k), (2, .op xb 0), (4, .op rb 0), (5, .op tb 0), (6, I64 i), (7, .op vb 0), (8, I64 k)], (vb, .svs [I64 id, VL V]) :: (xb, .svs (RCC ⟨at', gap, rows⟩)) :: R⟩)
        · rcases hV with ⟨hk0, rfl⟩ | ⟨hk0, g2, f1, f2, f3, f4, f5, rfl⟩
          · subst hk0
            have hVn : V = [] := List.eq_nil_of_length_eq_zero hVl
            subst hVn
            have := St.le_nilC (t := [(1, I64 (0 : Nat)), (2, .op xb 0), (4, .op rb 0), (5, .op tb 0), (6, I64 i), (7, .op vb 0), (8, I64 (0 : Nat))]) (h := (vb, .svs [I64 id, .sc (.slice none 0 0)]) :: (xb, .svs (RCC ⟨at', gap, rows⟩)) :: R) (c := vb) (j := 1) (sz := 3) (f := vF []) (by rw [find_cons, if_pos rfl]) (by show 1 < 2; omega) rfl
            rw [upd_cons, if_pos rfl] at this
            exact this
          · have := St.le_accC (t := [(1, I64 k), (2, .op xb 0), (4, .op rb 0), (5, .op tb 0), (6, I64 i), (7, .op vb 0), (8, I64 k)]) (sz := 3) (n := k) (c := vb) (j := 1) (Acc.osH (b := g2) (cs := vCs V) (h0 := (vb, .svs [I64 id, .os g2 0 k 3]) :: (xb, .svs (RCC ⟨at', gap, rows⟩)) :: R) (by simp only [fresh_cons, ne_eq]; exact ⟨⟨f2, f1⟩, ⟨f4, f3⟩, f5⟩) (by rw [← vCs_len, hVl])) (by rw [find_cons, if_pos rfl]) (by show 1 < 2; omega) rfl (vF V) (fun j hj => vCs_at V j (by omega))
            rw [upd_cons, if_pos rfl] at this
            unfold VL
            rw [hVl]
            exact this
        subst hR
        simp only [fresh_cons, fresh_nil, and_true, ne_eq, neF] at v3 v4
        have hD := And.intro v3 (And.intro v4 (And.intro (And.intro (eq_false v1) (eq_false v2)) (And.intro (And.intro (eq_false d1) (eq_false d3)) (And.intro (eq_false hrx) (eq_false hxr)))))
        subst hi0
        have hLn : Li = [] := List.eq_nil_of_length_eq_zero hsl
        subst hLn
        repeat' first | (with_reducible refine And.intro (by omega) ?_) | (refine SW.seq_k fun K hK => ?_) | (refine SW.block ?_) | ((first | refine SW.region ?_ | refine SW.regionD (Checked.mixed Tryz.checked) (by kernel_rfl) ?_ | refine SW.cond ?_ | refine SW.skip ?_ | refine SW.exit ?_ | refine SW.ret ?_ | (refine allF_i fun b hb => ?_; replace hD := And.intro hb hD; clear hb; try simp only [fresh_cons, fresh_nil, and_true, ne_eq, neF] at hD) | simp only [appK, appOsK]); try simp only [go_sem, hD, hkni, w1, ba, true_implies]) | (refine And.intro (by omega) ?_) | (refine ifI (fun hc => ?_) (fun hc => ?_) <;> first | (exfalso; omega) | skip) | ((first | apply hK | ((iterate 1 (clear hK K)); apply hK) | ((iterate 2 (clear hK K)); apply hK) | ((iterate 3 (clear hK K)); apply hK) | ((iterate 4 (clear hK K)); apply hK) | ((iterate 5 (clear hK K)); apply hK)); clear hK K)
        refine Rnd.le (St.le_pick _ ?_ ?_) (Rnd.sub (rows.length - (0 + 1)) (by omega) ((hI _ _).2 ⟨0 + 1, [(xb, .svs (RCC ⟨at', gap, rows⟩)), (b, .svs (rC (id, V))), (tb, .svs [Str ⟨#[114]⟩, .fl k 1 (sF (nm8.take k)), .os b 0 1 2]), (rb, .svs [Str ⟨#[]⟩, .sc (.slice none 0 0), .sc (.slice none 0 0)])], rfl, by omega, .inr ⟨by omega, b, by simp [hD], by simp [hD], by simp [hD], by simp [hD], by simp [hD], by simp [hD], by rw [hmp, hrw]; rfl⟩, rfl⟩) (by repeat' (first | exact rfl | exact trivial | exact int_eq (by omega) | exact int_eq (by (rw [i64_wrap] <;> omega)) | constructor)))
        · repeat' (first | exact (fun x hx => (List.not_mem_nil hx).elim) | refine List.forall_mem_cons.2 ⟨?_, ?_⟩ | exact List.mem_cons_self | apply List.mem_cons_of_mem)
        · simp [fresh_cons, fresh_nil, hD]
      · have hD := And.intro (And.intro (eq_false u1) (eq_false u2)) (And.intro (And.intro (eq_false u3) (eq_false u4)) (And.intro (And.intro (eq_false u5) (eq_false u6)) hD))
        repeat' first | (with_reducible refine And.intro (by omega) ?_) | (refine SW.seq_k fun K hK => ?_) | (refine SW.block ?_) | ((first | refine SW.region ?_ | refine SW.regionD (Checked.mixed Tryz.checked) (by kernel_rfl) ?_ | refine SW.cond ?_ | refine SW.skip ?_ | refine SW.exit ?_ | refine SW.ret ?_ | (refine allF_i fun b hb => ?_; replace hD := And.intro hb hD; clear hb; try simp only [fresh_cons, fresh_nil, and_true, ne_eq, neF] at hD) | simp only [appK, appOsK]); try simp only [go_sem, hD, hli, ie, i0, w1, hg3, q1, q2, q3, q4]) | (refine And.intro (by omega) ?_) | (refine ifI (fun hc => ?_) (fun hc => ?_) <;> first | (exfalso; omega) | skip) | ((first | apply hK | ((iterate 1 (clear hK K)); apply hK) | ((iterate 2 (clear hK K)); apply hK) | ((iterate 3 (clear hK K)); apply hK) | ((iterate 4 (clear hK K)); apply hK) | ((iterate 5 (clear hK K)); apply hK)); clear hK K)
        obtain ⟨vb, rfl⟩ : ∃ x, x = b := ⟨_, rfl⟩
        obtain ⟨R, hR⟩ : ∃ R : Heap, R = [(g, .svs (fC rC Li)), (tb, .svs [Str ⟨#[114]⟩, .fl n 1 (sF (nm8.take n)), .os g 0 i 2]), (rb, .svs [Str ⟨#[]⟩, .sc (.slice none 0 0), .sc (.slice none 0 0)])] := ⟨_, rfl⟩
        rw [← hR]
        have v1 : ¬ vb = xb := by simp [hD]
        have v2 : ¬ xb = vb := by simp [hD]
        have v3 : fresh R vb := by rw [hR]; simp [fresh_cons, fresh_nil, hD]
        have v4 : fresh R xb := by rw [hR]; simp [fresh_cons, fresh_nil, d2, d4, hrx, hxr, u1, u2]
        clear hD
        have hD := And.intro (eq_false v1) (eq_false v2)
        obtain ⟨J, hJ⟩ : ∃ J : Nat → St → Prop, ∀ m S, J m S ↔ (∃ (k : Nat) (h : Heap), m = n - k ∧ k ≤ n ∧ ((k = 0 ∧ h = (vb, .svs [I64 id, .sc (.slice none 0 0)]) :: (xb, .svs (RCC ⟨at', gap, rows⟩)) :: R) ∨ (0 < k ∧ ∃ g2, ¬ g2 = vb ∧ ¬ vb = g2 ∧ ¬ g2 = xb ∧ ¬ xb = g2 ∧ fresh R g2 ∧ h = (g2, .svs (vCs ((List.range k).map fun k => codeV (row.getD k 0)))) :: (vb, .svs [I64 id, .os g2 0 k 3]) :: (xb, .svs (RCC ⟨at', gap, rows⟩)) :: R)) ∧ S = ⟨[(1, I64 n), (2, .op xb 0), (4, .op rb 0), (5, .op tb 0), (6, I64 i), (7, .op vb 0), (8, I64 k)], h⟩) := ⟨fun m S => _, fun _ _ => Iff.rfl⟩
        refine SW.loop' J n ((hJ _ _).2 ⟨0, _, rfl, Nat.zero_le _, .inl ⟨rfl, rfl⟩, rfl⟩) (by repeat' (first | exact rfl | exact trivial | exact int_eq (by omega) | exact int_eq (by (rw [i64_wrap] <;> omega)) | constructor)) ?_
        intro m S hIn
        obtain ⟨k, h, rfl, hk, hV, rfl⟩ := (hJ _ _).1 hIn
        clear hIn
        have ke : ((k : Nat) : Int).toNat = k := Int.toNat_natCast _
        have k0 : (0 : Int) ≤ ((k : Nat) : Int) := by omega
        by_cases hkn : k < n
        · have hkni : ((k : Nat) : Int) < ((n : Nat) : Int) := by omega
          have wk : IntKind.i64.wrap ((k : Int) + 1) = ((k + 1 : Nat) : Int) := by rw [i64_wrap (by omega) (by omega)]; omega
          have hvp : ((List.range (k + 1)).map fun k => codeV (row.getD k 0)) = ((List.range k).map fun k => codeV (row.getD k 0)) ++ [codeV (row.getD k 0)] := by rw [List.range_succ, List.map_append]; rfl
          have hvl : ((List.range k).map fun k => codeV (row.getD k 0)).length = k := by simp
          have bk : (k + 1) * 32 ≤ 140737488355328 := by omega
          by_cases hkr : k < row.length
          · have hkri : ((k : Nat) : Int) < ((row.length : Nat) : Int) := by omega
            have hc3 := hr3 _ (getD_mem 0 hkr)
            have cr := code_r (row.getD k 0) hc3.1 hc3.2
            generalize codeV (row.getD k 0) = cv at *
            obtain ⟨ck, cn, ct⟩ := cv
            rcases hV with ⟨hk0, rfl⟩ | ⟨hk0, g2, f1, f2, f3, f4, f5, rfl⟩
            · subst hk0
              repeat' first | (with_reducible refine And.intro (by omega) ?_) | (refine SW.seq_k fun K hK => ?_) | (refine SW.block ?_) | ((first | refine SW.region ?_ | refine SW.regionZ (id := 12) (Checked.mixed Tryz.checked) ((.one 0 [0, 1, 5, 6, 7] (.one 1 [1, 5, 6, 7] (.one 2 [2, 3, 4, 5, 6, 7] (.one 3 [3, 4, 5, 6, 7] (.alt 4 (.alt 5 (.one 6 [6, 7] (.alt 7 .done .nil)) .nil) .nil))))) : OZ) (by kernel_rfl) ?_ | refine SW.regionD (Checked.mixed Tryz.checked) (by kernel_rfl) ?_ | refine SW.cond ?_ | refine SW.skip ?_ | refine SW.exit ?_ | refine SW.ret ?_ | refine Call.of_pure (cr) ?_ | refine ⟨_, cr, ?_⟩ | (refine allF_i fun b hb => ?_; replace hD := And.intro hb hD; clear hb; try simp only [fresh_cons, fresh_nil, and_true, ne_eq, neF] at hD) | simp only [appK, appOsK]); try simp only [go_sem, hD, hli, ie, i0, hkni, ke, k0, wk, hrow, hkri, bk, true_implies]) | (refine And.intro (by omega) ?_) | (refine ifI (fun hc => ?_) (fun hc => ?_) <;> first | (exfalso; omega) | skip) | ((first | apply hK | ((iterate 1 (clear hK K)); apply hK) | ((iterate 2 (clear hK K)); apply hK) | ((iterate 3 (clear hK K)); apply hK) | ((iterate 4 (clear hK K)); apply hK) | ((iterate 5 (clear hK K)); apply hK)); clear hK K) | (refine And.intro ?_ ?_)
              obtain ⟨nb, rfl⟩ : ∃ x, x = b := ⟨_, rfl⟩
              refine Rnd.le (St.le_del (b := b)) ?_
              simp only [go_sem, hD]
              refine Rnd.sub (n - (0 + 1)) (by omega) ((hJ _ _).2 ⟨0 + 1, _, rfl, by omega, .inr ⟨by omega, nb, by simp [hD], by simp [hD], by simp [hD], by simp [hD], by simp [hD], by rw [hvp]; rfl⟩, rfl⟩) (by repeat' (first | exact rfl | exact trivial | exact int_eq (by omega) | exact int_eq (by (rw [i64_wrap] <;> omega)) | constructor))
            · have hD := And.intro (And.intro (eq_false f1) (eq_false f2)) (And.intro (And.intro (eq_false f3) (eq_false f4)) hD)
              have hvc : (vCs ((List.range k).map fun k => codeV (row.getD k 0))).length = k * 3 := by rw [← vCs_len, hvl]
              repeat' first | (with_reducible refine And.intro (by omega) ?_) | (refine SW.seq_k fun K hK => ?_) | (refine SW.block ?_) | ((first | refine SW.region ?_ | refine SW.regionZ (id := 12) (Checked.mixed Tryz.checked) ((.one 0 [0, 1, 5, 6, 7] (.one 1 [1, 5, 6, 7] (.one 2 [2, 3, 4, 5, 6, 7] (.one 3 [3, 4, 5, 6, 7] (.alt 4 (.alt 5 (.one 6 [6, 7] (.alt 7 .done .nil)) .nil) .nil))))) : OZ) (by kernel_rfl) ?_ | refine SW.regionD (Checked.mixed Tryz.checked) (by kernel_rfl) ?_ | refine SW.cond ?_ | refine SW.skip ?_ | refine SW.exit ?_ | refine SW.ret ?_ | refine Call.of_pure (cr) ?_ | refine ⟨_, cr, ?_⟩ | (refine allF_i fun b hb => ?_; replace hD := And.intro hb hD; clear hb; try simp only [fresh_cons, fresh_nil, and_true, ne_eq, neF] at hD) | simp only [appK, appOsK]); try simp only [go_sem, hD, hli, ie, i0, hkni, ke, k0, wk, hrow, hkri, bk, hvc, true_implies]) | (refine And.intro (by omega) ?_) | (refine ifI (fun hc => ?_) (fun hc => ?_) <;> first | (exfalso; omega) | skip) | ((first | apply hK | ((iterate 1 (clear hK K)); apply hK) | ((iterate 2 (clear hK K)); apply hK) | ((iterate 3 (clear hK K)); apply hK) | ((iterate 4 (clear hK K)); apply hK) | ((iterate 5 (clear hK K)); apply hK)); clear hK K) | (refine And.intro ?_ ?_)
              obtain ⟨nb, rfl⟩ : ∃ x, x = b := ⟨_, rfl⟩
              refine Rnd.le (St.le_del (b := b)) ?_
              simp only [go_sem, hD]
              refine Rnd.sub (n - (k + 1)) (by omega) ((hJ _ _).2 ⟨k + 1, _, rfl, by omega, .inr ⟨by omega, nb, by simp [hD], by simp [hD], by simp [hD], by simp [hD], by simp [hD], by rw [hvp, ← vCs_snoc]⟩, rfl⟩) (by repeat' (first | exact rfl | exact trivial | exact int_eq (by omega) | exact int_eq (by (rw [i64_wrap] <;> omega)) | constructor))
          · have hkri : ¬ ((k : Nat) : Int) < ((row.length : Nat) : Int) := by omega
            have hz : row.getD k 0 = 0 := by rw [List.getD_eq_getElem?_getD, List.getElem?_eq_none (by omega)]; rfl
            have cr := code_r 0 (by omega) (by omega)
            rw [hz] at hvp
            generalize codeV 0 = cv at *
            obtain ⟨ck, cn, ct⟩ := cv
            rcases hV with ⟨hk0, rfl⟩ | ⟨hk0, g2, f1, f2, f3, f4, f5, rfl⟩
            · subst hk0
              repeat' first | (with_reducible refine And.intro (by omega) ?_) | (refine SW.seq_k fun K hK => ?_) | (refine SW.block ?_) | ((first | refine SW.region ?_ | refine SW.regionZ (id := 12) (Checked.mixed Tryz.checked) ((.one 0 [0, 1, 5, 6, 7] (.one 1 [1, 5, 6, 7] (.one 2 [2, 3, 4, 5, 6, 7] (.one 3 [3, 4, 5, 6, 7] (.alt 4 (.alt 5 (.one 6 [6, 7] (.alt 7 .done .nil)) .nil) .nil))))) : OZ) (by kernel_rfl) ?_ | refine SW.regionD (Checked.mixed Tryz.checked) (by kernel_rfl) ?_ | refine SW.cond ?_ | refine SW.skip ?_ | refine SW.exit ?_ | refine SW.ret ?_ | refine Call.of_pure (cr) ?_ | refine ⟨_, cr, ?_⟩ | (refine allF_i fun b hb => ?_; replace hD := And.intro hb hD; clear hb; try simp only [fresh_cons, fresh_nil, and_true, ne_eq, neF] at hD) | simp only [appK, appOsK]); try simp only [go_sem, hD, hli, ie, i0, hkni, ke, k0, wk, hrow, hkri, bk, true_implies]) | (refine And.intro (by omega) ?_) | (refine ifI (fun hc => ?_) (fun hc => ?_) <;> first | (exfalso; omega) | skip) | ((first | apply hK | ((iterate 1 (clear hK K)); apply hK) | ((iterate 2 (clear hK K)); apply hK) | ((iterate 3 (clear hK K)); apply hK) | ((iterate 4 (clear hK K)); apply hK) | ((iterate 5 (clear hK K)); apply hK)); clear hK K) | (refine And.intro ?_ ?_)
              obtain ⟨nb, rfl⟩ : ∃ x, x = b := ⟨_, rfl⟩
              refine Rnd.le (St.le_del (b := b)) ?_
              simp only [go_sem, hD]
              refine Rnd.sub (n - (0 + 1)) (by omega) ((hJ _ _).2 ⟨0 + 1, _, rfl, by omega, .inr ⟨by omega, nb, by simp [hD], by simp [hD], by simp [hD], by simp [hD], by simp [hD], by rw [hvp]; rfl⟩, rfl⟩) (by repeat' (first | exact rfl | exact trivial | exact int_eq (by omega) | exact int_eq (by (rw [i64_wrap] <;> omega)) | constructor))
            · have hD := And.intro (And.intro (eq_false f1) (eq_false f2)) (And.intro (And.intro (eq_false f3) (eq_false f4)) hD)
              have hvc : (vCs ((List.range k).map fun k => codeV (row.getD k 0))).length = k * 3 := by rw [← vCs_len, hvl]
              repeat' first | (with_reducible refine And.intro (by omega) ?_) | (refine SW.seq_k fun K hK => ?_) | (refine SW.block ?_) | ((first | refine SW.region ?_ | refine SW.regionZ (id := 12) (Checked.mixed Tryz.checked) ((.one 0 [0, 1, 5, 6, 7] (.one 1 [1, 5, 6, 7] (.one 2 [2, 3, 4, 5, 6, 7] (.one 3 [3, 4, 5, 6, 7] (.alt 4 (.alt 5 (.one 6 [6, 7] (.alt 7 .done .nil)) .nil) .nil))))) : OZ) (by kernel_rfl) ?_ | refine SW.regionD (Checked.mixed Tryz.checked) (by kernel_rfl) ?_ | refine SW.cond ?_ | refine SW.skip ?_ | refine SW.exit ?_ | refine SW.ret ?_ | refine Call.of_pure (cr) ?_ | refine ⟨_, cr, ?_⟩ | (refine allF_i fun b hb => ?_; replace hD := And.intro hb hD; clear hb; try simp only [fresh_cons, fresh_nil, and_true, ne_eq, neF] at hD) | simp only [appK, appOsK]); try simp only [go_sem, hD, hli, ie, i0, hkni, ke, k0, wk, hrow, hkri, bk, hvc, true_implies]) | (refine And.intro (by omega) ?_) | (refine ifI (fun hc => ?_) (fun hc => ?_) <;> first | (exfalso; omega) | skip) | ((first | apply hK | ((iterate 1 (clear hK K)); apply hK) | ((iterate 2 (clear hK K)); apply hK) | ((iterate 3 (clear hK K)); apply hK) | ((iterate 4 (clear hK K)); apply hK) | ((iterate 5 (clear hK K)); apply hK)); clear hK K) | (refine And.intro ?_ ?_)
              obtain ⟨nb, rfl⟩ : ∃ x, x = b := ⟨_, rfl⟩
              refine Rnd.le (St.le_del (b := b)) ?_
              simp only [go_sem, hD]
              refine Rnd.sub (n - (k + 1)) (by omega) ((hJ _ _).2 ⟨k + 1, _, rfl, by omega, .inr ⟨by omega, nb, by simp [hD], by simp [hD], by simp [hD], by simp [hD], by simp [hD], by rw [hvp, ← vCs_snoc]⟩, rfl⟩) (by repeat' (first | exact rfl | exact trivial | exact int_eq (by omega) | exact int_eq (by (rw [i64_wrap] <;> omega)) | constructor))
        have hkni : ¬ ((k : Nat) : Int) < ((n : Nat) : Int) := by omega
        obtain rfl : k = n := by omega
        have hVl : ((List.range k).map fun k => codeV (row.getD k 0)).length = k := by simp
        have hwl := hrw
        generalize ((List.range k).map fun k => codeV (row.getD k 0)) = V at *
        apply Ab.SW.le (S' := ⟨[(1, I64 k), (2, .op xb 0), (4, .op rb 0), (5, .op tb 0), (6, I64 i), (7, .op vb 0), (8, I64 k)], (vb, .svs [I64 id, VL V]) :: (xb, .svs (RCC ⟨at', gap, rows⟩)) :: R⟩)
        · rcases hV with ⟨hk0, rfl⟩ | ⟨hk0, g2, f1, f2, f3, f4, f5, rfl⟩
          · subst hk0
            have hVn : V = [] := List.eq_nil_of_length_eq_zero hVl
            subst hVn
            have := St.le_nilC (t := [(1, I64 (0 : Nat)), (2, .op xb 0), (4, .op rb 0), (5, .op tb 0), (6, I64 i), (7, .op vb 0), (8, I64 (0 : Nat))]) (h := (vb, .svs [I64 id, .sc (.slice none 0 0)]) :: (xb, .svs (RCC ⟨at', gap, rows⟩)) :: R) (c := vb) (j := 1) (sz := 3) (f := vF []) (by rw [find_cons, if_pos rfl]) (by show 1 < 2; omega) rfl
            rw [upd_cons, if_pos rfl] at this
            exact this
          · have := St.le_accC (t := [(1, I64 k), (2, .op xb 0), (4, .op rb 0), (5, .op tb 0), (6, I64 i), (7, .op vb 0), (8, I64 k)]) (sz := 3) (n := k) (c := vb) (j := 1) (Acc.osH (b := g2) (cs := vCs V) (h0 := (vb, .svs [I64 id, .os g2 0 k 3]) :: (xb, .svs (RCC ⟨at', gap, rows⟩)) :: R) (by simp only [fresh_cons, ne_eq]; exact ⟨⟨f2, f1⟩, ⟨f4, f3⟩, f5⟩) (by rw [← vCs_len, hVl])) (by rw [find_cons, if_pos rfl]) (by show 1 < 2; omega) rfl (vF V) (fun j hj => vCs_at V j (by omega))
            rw [upd_cons, if_pos rfl] at this
            unfold VL
            rw [hVl]
            exact this
        subst hR
        simp only [fresh_cons, fresh_nil, and_true, ne_eq, neF] at v3 v4
        have hD := And.intro v3 (And.intro v4 (And.intro (And.intro (eq_false v1) (eq_false v2)) (And.intro (And.intro (eq_false d1) (eq_false d3)) (And.intro (eq_false hrx) (And.intro (eq_false hxr) (And.intro (And.intro (eq_false u3) (eq_false u4)) (And.intro (eq_false u5) (eq_false u6))))))))
        have hfc : (fC rC Li).length = i * 2 := by rw [← fC_len (k := 2) (fun _ => rfl), hsl]
        repeat' first | (with_reducible refine And.intro (by omega) ?_) | (refine SW.seq_k fun K hK => ?_) | (refine SW.block ?_) | ((first | refine SW.region ?_ | refine SW.regionD (Checked.mixed Tryz.checked) (by kernel_rfl) ?_ | refine SW.cond ?_ | refine SW.skip ?_ | refine SW.exit ?_ | refine SW.ret ?_ | (refine allF_i fun b hb => ?_; replace hD := And.intro hb hD; clear hb; try simp only [fresh_cons, fresh_nil, and_true, ne_eq, neF] at hD) | simp only [appK, appOsK]); try simp only [go_sem, hD, hkni, w1, ba, hfc, true_implies]) | (refine And.intro (by omega) ?_) | (refine ifI (fun hc => ?_) (fun hc => ?_) <;> first | (exfalso; omega) | skip) | ((first | apply hK | ((iterate 1 (clear hK K)); apply hK) | ((iterate 2 (clear hK K)); apply hK) | ((iterate 3 (clear hK K)); apply hK) | ((iterate 4 (clear hK K)); apply hK) | ((iterate 5 (clear hK K)); apply hK)); clear hK K)
        refine Rnd.le (St.le_pick _ ?_ ?_) (Rnd.sub (rows.length - (i + 1)) (by omega) ((hI _ _).2 ⟨i + 1, [(xb, .svs (RCC ⟨at', gap, rows⟩)), (b, .svs (fC rC Li ++ rC (id, V))), (tb, .svs [Str ⟨#[114]⟩, .fl k 1 (sF (nm8.take k)), .os b 0 (i + 1) 2]), (rb, .svs [Str ⟨#[]⟩, .sc (.slice none 0 0), .sc (.slice none 0 0)])], rfl, by omega, .inr ⟨by omega, b, by simp [hD], by simp [hD], by simp [hD], by simp [hD], by simp [hD], by simp [hD], by rw [hmp, hrw, ← fC_snoc]⟩, rfl⟩) (by repeat' (first | exact rfl | exact trivial | exact int_eq (by omega) | exact int_eq (by (rw [i64_wrap] <;> omega)) | constructor)))
        · repeat' (first | exact (fun x hx => (List.not_mem_nil hx).elim) | refine List.forall_mem_cons.2 ⟨?_, ?_⟩ | exact List.mem_cons_self | apply List.mem_cons_of_mem)
        · simp [fresh_cons, fresh_nil, hD]
    · have hli : ¬ ((i : Nat) : Int) < (((rows.length) : Nat) : Int) := by omega
      obtain rfl : i = rows.length := by omega
      have hsl : ((List.range rows.length).map fun j => rowS gap n j (rows.getD j [])).length = rows.length := by simp
      have hnl : (nm8.take n).length = n := by rw [List.length_take]; show min n 8 = n; omega
      generalize ((List.range rows.length).map fun j => rowS gap n j (rows.getD j [])) = Li at *
      apply Ab.SW.le (S' := ⟨[(1, I64 n), (2, .op xb 0), (4, .op rb 0), (5, .op tb 0), (6, I64 rows.length)], [(xb, .svs (RCC ⟨at', gap, rows⟩)), (tb, .svs [Str ⟨#[114]⟩, .fl n 1 (sF (nm8.take n)), RL Li]), (rb, .svs [Str ⟨#[]⟩, .sc (.slice none 0 0), .sc (.slice none 0 0)])]⟩)
      · rcases hB with ⟨hi0, rfl⟩ | ⟨hi0, g, u1, u2, u3, u4, u5, u6, rfl⟩
        · have hLn : Li = [] := List.eq_nil_of_length_eq_zero (by omega)
          subst hLn
          have := St.le_nilC (t := [(1, I64 n), (2, .op xb 0), (4, .op rb 0), (5, .op tb 0), (6, I64 rows.length)]) (h := [(xb, .svs (RCC ⟨at', gap, rows⟩)), (tb, .svs [Str ⟨#[114]⟩, .fl n 1 (sF (nm8.take n)), .sc (.slice none 0 0)]), (rb, .svs [Str ⟨#[]⟩, .sc (.slice none 0 0), .sc (.slice none 0 0)])]) (c := tb) (j := 2) (sz := 2) (f := rF []) (by rw [find_cons, if_neg d4, find_cons, if_pos rfl]) (by show 2 < 3; omega) rfl
          rw [upd_cons, if_neg d4, upd_cons, if_pos rfl] at this
          exact this
        · have h1 := St.le_perm (t := [(1, I64 n), (2, .op xb 0), (4, .op rb 0), (5, .op tb 0), (6, I64 rows.length)]) (List.Perm.swap (xb, .svs (RCC ⟨at', gap, rows⟩)) (g, Blk.svs (fC rC Li)) [(tb, .svs [Str ⟨#[114]⟩, .fl n 1 (sF (nm8.take n)), .os g 0 rows.length 2]), (rb, .svs [Str ⟨#[]⟩, .sc (.slice none 0 0), .sc (.slice none 0 0)])])
          have := St.le_accC (t := [(1, I64 n), (2, .op xb 0), (4, .op rb 0), (5, .op tb 0), (6, I64 rows.length)]) (sz := 2) (n := rows.length) (c := tb) (j := 2) (Acc.osH (b := g) (cs := fC rC Li) (h0 := [(xb, .svs (RCC ⟨at', gap, rows⟩)), (tb, .svs [Str ⟨#[114]⟩, .fl n 1 (sF (nm8.take n)), .os g 0 rows.length 2]), (rb, .svs [Str ⟨#[]⟩, .sc (.slice none 0 0), .sc (.slice none 0 0)])]) (by simp [fresh_cons, fresh_nil, u1, u2, u3, u4, u5, u6]) (by rw [← fC_len (k := 2) (fun _ => rfl), hsl])) (by rw [find_cons, if_neg d4, find_cons, if_pos rfl]) (by show 2 < 3; omega) rfl (rF Li) (fun j hj => fC_at (enc := rC) (k := 2) (fun _ => rfl) r0 Li j (by omega))
          rw [upd_cons, if_neg d4, upd_cons, if_pos rfl] at this
          unfold RL
          rw [hsl]
          exact h1.trans this
      · repeat' first | (with_reducible refine And.intro (by omega) ?_) | (refine SW.seq_k fun K hK => ?_) | (refine SW.block ?_) | ((first | refine SW.region ?_ | refine SW.regionD (Checked.mixed Tryz.checked) (by kernel_rfl) ?_ | refine SW.cond ?_ | refine SW.skip ?_ | refine SW.exit ?_ | refine SW.ret ?_ | (refine allF_i fun b hb => ?_; replace hD := And.intro hb hD; clear hb; try simp only [fresh_cons, fresh_nil, and_true, ne_eq, neF] at hD) | simp only [appK, appOsK]); try simp only [go_sem, hD, hli, true_implies]) | (refine And.intro (by omega) ?_) | (refine ifI (fun hc => ?_) (fun hc => ?_) <;> first | (exfalso; omega) | skip) | ((first | apply hK | ((iterate 1 (clear hK K)); apply hK) | ((iterate 2 (clear hK K)); apply hK) | ((iterate 3 (clear hK K)); apply hK) | ((iterate 4 (clear hK K)); apply hK) | ((iterate 5 (clear hK K)); apply hK)); clear hK K)
        apply ret_cell (i := 4) (n := 3); exact rfl; (simp only [go_sem, hD]; try rfl); (first | exact Nat.le_refl _ | decide); simp only [resL_tmp, resL_cellE, resC_ok, resL_nil, tupOf, getN, go_sem, hD]
        unfold TB SL
        simp only
        rw [hnl]
  obtain ⟨C, Q', hK2, key⟩ := key
  clear hK
  have hK := hK2
  clear hK2
  have nn : (((n : Nat) : Int) - 0).toNat = n := by omega
  have hn6 : n = 0 ∨ n = 1 ∨ n = 2 ∨ n = 3 ∨ n = 4 ∨ n = 5 := by omega
  rcases hn6 with h | h | h | h | h | h
  all_goals
    have nn2 := nn.trans h
    repeat' first | (with_reducible refine And.intro (by omega) ?_) | (refine SW.seq_k fun K hK => ?_) | (refine SW.block ?_) | ((first | refine SW.region ?_ | refine SW.regionD (Checked.mixed Tryz.checked) (by kernel_rfl) ?_ | refine SW.cond ?_ | refine SW.skip ?_ | refine SW.exit ?_ | refine SW.ret ?_ | (refine allF_i fun b hb => ?_; replace hD := And.intro hb hD; clear hb; try simp only [fresh_cons, fresh_nil, and_true, ne_eq, neF] at hD) | simp only [appK, appOsK]); try simp only [go_sem, hD, nn2, getN, List.all_cons, List.all_nil, Bool.and_self, Bool.true_and]) | (refine And.intro (by omega) ?_) | (refine ifI (fun hc => ?_) (fun hc => ?_) <;> first | (exfalso; omega) | skip) | ((first | apply hK | ((iterate 1 (clear hK K)); apply hK) | ((iterate 2 (clear hK K)); apply hK) | ((iterate 3 (clear hK K)); apply hK) | ((iterate 4 (clear hK K)); apply hK) | ((iterate 5 (clear hK K)); apply hK)); clear hK K)
    obtain ⟨tb, rfl⟩ : ∃ x, x = b := ⟨_, rfl⟩
    obtain ⟨ab, rfl⟩ : ∃ x, x = b := ⟨_, rfl⟩
    have d1 : ¬ tb = rb := by simp [hD]
    have d2 : ¬ tb = xb := by simp [hD]
    have d3 : ¬ rb = tb := by simp [hD]
    have d4 : ¬ xb = tb := by simp [hD]
    have d5 : ¬ tb = ab := by simp [hD]
    apply Ab.SW.le
    · apply St.le_freezeC (c := tb) (j := 1) (b := ab) (off := 0) (sz := 1) (f := sF (nm8.take n))
      · rw [find_cons, if_pos rfl]
      · exact d5
      · show 1 < 3
        omega
      · rfl
      · simp [find_cons, d5, hD]; rfl
      · decide
      · intro p hp
        rw [h]
        have h5 : p = 0 ∨ p = 1 ∨ p = 2 ∨ p = 3 ∨ p = 4 := by omega
        rcases h5 with rfl | rfl | rfl | rfl | rfl
        all_goals first | (exfalso; omega) | rfl
    simp only [go_sem, hD, d5]
    subst h
    refine Ab.SW.le ((St.le_pick [(xb, .svs (RCC ⟨at', gap, rows⟩)), (tb, .svs [Str ⟨#[114]⟩, .fl _ 1 (sF (nm8.take _)), .sc (.slice none 0 0)]), (rb, .svs [Str ⟨#[]⟩, .sc (.slice none 0 0), .sc (.slice none 0 0)])] ?_ ?_).trans (St.le_sub ?_)) (key tb d1 d2 d3 d4)
    · repeat' (first | exact (fun x hx => (List.not_mem_nil hx).elim) | refine List.forall_mem_cons.2 ⟨?_, ?_⟩ | exact List.mem_cons_self | apply List.mem_cons_of_mem)
    · simp [fresh_cons, fresh_nil, hD]
    · repeat' (first | exact rfl | exact trivial | exact int_eq (by omega) | exact int_eq (by (rw [i64_wrap] <;> omega)) | constructor)
end Go.Proofs.YtddkacbcecedaaaGreatDoor
