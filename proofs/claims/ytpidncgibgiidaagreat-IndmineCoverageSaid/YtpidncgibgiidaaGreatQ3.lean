/- Several texts in one: J2, DA, DB, DC, DD, DE, DF, DG, DO, UA, UB, UC, R2, KA, KB. -/
import Derived.Test.YtpidncgibgiidaaGreatQ2
import Derived.Test.YtpidncgibgiidaaGreatZ17
import Derived.Test.YtpidncgibgiidaaGreatZ18
import Derived.Test.YtpidncgibgiidaaGreatQ1
import Derived.Lib.Bytealg
import Derived.Test.YtpidncgibgiidaaGreatZ3
set_option linter.unusedSimpArgs false
set_option linter.unusedVariables false
set_option linter.unusedSectionVars false
set_option maxHeartbeats 4000000
set_option maxRecDepth 20000
def Go.Ab.zJ2_1 : Go.Ab.OZ := (.one 0 [0, 1, 5, 6, 7] (.one 1 [1, 5, 6, 7] (.one 2 [2, 3, 4, 5, 6, 7] (.one 3 [3, 4, 5, 6, 7] (.alt 4 (.alt 5 (.one 6 [6, 7] (.alt 7 .done .nil)) .nil) .nil)))))
namespace Go.Proofs.YtpidncgibgiidaaGreat
open Go Go.Ab Go.Ab.A34
variable [Gl] [Tabs]
theorem wide_r (x : Rc) (hx : okRc x) (n : Nat) (hn : n ≤ 5) (hr : x.rows.length ≤ 1000) : PCall Tryz.prog 87 [RC x, I64 n] (TB (wideS x n)) := by
  obtain ⟨at', gap, rows⟩ := x
  obtain ⟨hx1, hx2, hx3⟩ := hx
  unfold wideS
  simp only at hx1 hx2 hx3 hr ⊢
  refine Call.enter' (N := 67) (rs := [.cell 4 72]) Tryz.func87 rfl rfl rfl (by decide) rfl ?_; simp only [argT]; have hD : (0 : Nat) = 0 := rfl
  refine SW.seq_k fun K hK => ?_
  (refine SW.region ?_; try simp only [go_sem, hD])
  ((refine allF_i fun b hb => ?_; replace hD := And.intro hb hD; clear hb; try simp only [fresh_cons, fresh_nil, and_true, ne_eq, neF] at hD); try simp only [go_sem, hD])
  ((refine allF_i fun b hb => ?_; replace hD := And.intro hb hD; clear hb; try simp only [fresh_cons, fresh_nil, and_true, ne_eq, neF] at hD); try simp only [go_sem, hD])
  (apply hK; clear hK K)
  obtain ⟨rb, rfl⟩ : ∃ x, x = b := ⟨_, rfl⟩
  obtain ⟨xb, rfl⟩ : ∃ x, x = b := ⟨_, rfl⟩
  have hrx : ¬ rb = xb := by simp [hD]
  have hxr : ¬ xb = rb := by simp [hD]
  clear hD
  have hD := And.intro (eq_false hrx) (eq_false hxr)
  refine SW.seq_k fun K hK => ?_
  have key : ∃ C Q', (∀ S, Ab.SW Tryz.prog 67 C Q' S → K S) ∧ ∀ tb, ¬ tb = rb → ¬ tb = xb → ¬ rb = tb → ¬ xb = tb → Ab.SW Tryz.prog 67 C Q' ⟨[(1, I64 n), (2, .op xb 0), (4, .op rb 0), (5, .op tb 0)], [(xb, .svs (RCC ⟨at', gap, rows⟩)), (tb, .svs [Str ⟨#[114]⟩, .fl n 1 (sF (nm8.take n)), .sc (.slice none 0 0)]), (rb, .svs [Str ⟨#[]⟩, .sc (.slice none 0 0), .sc (.slice none 0 0)])]⟩ := by
    refine ⟨_, _, hK, fun tb d1 d2 d3 d4 => ?_⟩
    clear hK K
    clear hD
    have hD := And.intro (eq_false d1) (And.intro (eq_false d2) (And.intro (eq_false d3) (And.intro (eq_false d4) (And.intro (eq_false hrx) (eq_false hxr)))))
    repeat' first | (refine SW.seq_k fun K hK => ?_) | (refine SW.block ?_) | (refine SW.region ?_; try simp only [go_sem, hD]) | (apply hK; clear hK K)
    obtain ⟨I, hI⟩ : ∃ I : Nat → St → Prop, ∀ k S, I k S ↔ (∃ (i : Nat) (h : Heap), k = rows.length - i ∧ i ≤ rows.length ∧ ((i = 0 ∧ h = [(xb, .svs (RCC ⟨at', gap, rows⟩)), (tb, .svs [Str ⟨#[114]⟩, .fl n 1 (sF (nm8.take n)), .sc (.slice none 0 0)]), (rb, .svs [Str ⟨#[]⟩, .sc (.slice none 0 0), .sc (.slice none 0 0)])]) ∨ (0 < i ∧ ∃ g, ¬ g = xb ∧ ¬ xb = g ∧ ¬ g = tb ∧ ¬ tb = g ∧ ¬ g = rb ∧ ¬ rb = g ∧ h = [(xb, .svs (RCC ⟨at', gap, rows⟩)), (g, .svs (fC rC ((List.range i).map fun j => rowS gap n j (rows.getD j [])))), (tb, .svs [Str ⟨#[114]⟩, .fl n 1 (sF (nm8.take n)), .os g 0 i 2]), (rb, .svs [Str ⟨#[]⟩, .sc (.slice none 0 0), .sc (.slice none 0 0)])])) ∧ S = ⟨[(1, I64 n), (2, .op xb 0), (4, .op rb 0), (5, .op tb 0), (6, I64 i)], h⟩) := ⟨fun k S => _, fun _ _ => Iff.rfl⟩
    refine SW.loop' I (rows.length) ((hI _ _).2 ⟨0, _, rfl, Nat.zero_le _, .inl ⟨rfl, rfl⟩, rfl⟩) (by repeat' (first | exact rfl | exact trivial | constructor)) ?_
    intro k S hIn
    obtain ⟨i, h, rfl, hi, hB, rfl⟩ := (hI _ _).1 hIn
    clear hIn
    have ie : ((i : Nat) : Int).toNat = i := Int.toNat_natCast _
    have i0 : (0 : Int) ≤ ((i : Nat) : Int) := by omega
    by_cases hlt : i < rows.length
    · have hli : ((i : Nat) : Int) < (((rows.length) : Nat) : Int) := by omega
      have w1 : IntKind.i64.wrap ((i : Int) + 1) = ((i + 1 : Nat) : Int) := by rw [i64_wrap (by omega) (by omega)]; omega
      have hg3 : gap.tmod 3 = gap % 3 := Int.tmod_eq_emod_of_nonneg hx2.1
      have q1 : IntKind.i64.wrap (gap % 3) = gap % 3 := by rw [i64_wrap (by omega) (by omega)]
      have q2 : IntKind.i64.wrap (1 + gap % 3) = 1 + gap % 3 := by rw [i64_wrap (by omega) (by omega)]
      have q5 : 0 ≤ (i : Int) * (1 + gap % 3) ∧ (i : Int) * (1 + gap % 3) ≤ 3000 := by
        have : gap % 3 = 0 ∨ gap % 3 = 1 ∨ gap % 3 = 2 := by omega
        rcases this with h | h | h <;> rw [h] <;> omega
      have q3 : IntKind.i64.wrap ((i : Int) * (1 + gap % 3)) = (i : Int) * (1 + gap % 3) := by rw [i64_wrap (by omega) (by omega)]
      obtain ⟨id, hid⟩ : ∃ z, 1 + (i : Int) * (1 + gap % 3) = z := ⟨_, rfl⟩
      have q4 : IntKind.i64.wrap (1 + (i : Int) * (1 + gap % 3)) = id := by rw [i64_wrap (by omega) (by omega), hid]
      obtain ⟨row, hrow⟩ : ∃ r, rows.getD i [] = r := ⟨_, rfl⟩
      have hr3 := hx3 _ (getD_mem [] hlt)
      rw [hrow] at hr3
      have hmp : ((List.range (i + 1)).map fun j => rowS gap n j (rows.getD j [])) = ((List.range i).map fun j => rowS gap n j (rows.getD j [])) ++ [rowS gap n i row] := by rw [List.range_succ, List.map_append, ← hrow]; rfl
      have hsl : ((List.range i).map fun j => rowS gap n j (rows.getD j [])).length = i := by simp
      have hrw : rowS gap n i row = (id, (List.range n).map fun k => codeV (row.getD k 0)) := by unfold rowS; rw [hid]
      generalize ((List.range i).map fun j => rowS gap n j (rows.getD j [])) = Li at *
      have ba : (i + 1) * 32 ≤ 140737488355328 := by omega
      rcases hB with ⟨hi0, rfl⟩ | ⟨hi0, g, u1, u2, u3, u4, u5, u6, rfl⟩
      · repeat' first | (refine SW.seq_k fun K hK => ?_) | (refine SW.block ?_) | ((first | refine SW.region ?_ | refine SW.cond ?_ | refine SW.skip ?_ | (refine allF_i fun b hb => ?_; replace hD := And.intro hb hD; clear hb; try simp only [fresh_cons, fresh_nil, and_true, ne_eq, neF] at hD)); try simp only [go_sem, hD, hli, ie, i0, w1, hg3, q1, q2, q3, q4]) | (apply hK; clear hK K)
        obtain ⟨vb, rfl⟩ : ∃ x, x = b := ⟨_, rfl⟩
        obtain ⟨R, hR⟩ : ∃ R : Heap, R = [(tb, .svs [Str ⟨#[114]⟩, .fl n 1 (sF (nm8.take n)), .sc (.slice none 0 0)]), (rb, .svs [Str ⟨#[]⟩, .sc (.slice none 0 0), .sc (.slice none 0 0)])] := ⟨_, rfl⟩
        rw [← hR]
        have v1 : ¬ vb = xb := by simp [hD]
        have v2 : ¬ xb = vb := by simp [hD]
        have v3 : fresh R vb := by rw [hR]; simp [fresh_cons, fresh_nil, hD]
        have v4 : fresh R xb := by rw [hR]; simp [fresh_cons, fresh_nil, d2, d4, hrx, hxr]
        clear hD
        have hD := And.intro (eq_false v1) (eq_false v2)
        obtain ⟨J, hJ⟩ : ∃ J : Nat → St → Prop, ∀ m S, J m S ↔ (∃ (k : Nat) (h : Heap), m = n - k ∧ k ≤ n ∧ ((k = 0 ∧ h = (vb, .svs [I64 id, .sc (.slice none 0 0)]) :: (xb, .svs (RCC ⟨at', gap, rows⟩)) :: R) ∨ (0 < k ∧ ∃ g2, ¬ g2 = vb ∧ ¬ vb = g2 ∧ ¬ g2 = xb ∧ ¬ xb = g2 ∧ fresh R g2 ∧ h = (g2, .svs (vCs ((List.range k).map fun k => codeV (row.getD k 0)))) :: (vb, .svs [I64 id, .os g2 0 k 3]) :: (xb, .svs (RCC ⟨at', gap, rows⟩)) :: R)) ∧ S = ⟨[(1, I64 n), (2, .op xb 0), (4, .op rb 0), (5, .op tb 0), (6, I64 i), (7, .op vb 0), (8, I64 k)], h⟩) := ⟨fun m S => _, fun _ _ => Iff.rfl⟩
        refine SW.loop' J n ((hJ _ _).2 ⟨0, _, rfl, Nat.zero_le _, .inl ⟨rfl, rfl⟩, rfl⟩) (by repeat' (first | exact rfl | exact trivial | constructor)) ?_
        intro m S hIn
        obtain ⟨k, h, rfl, hk, hV, rfl⟩ := (hJ _ _).1 hIn
        clear hIn
        have ke : ((k : Nat) : Int).toNat = k := Int.toNat_natCast _
        have k0 : (0 : Int) ≤ ((k : Nat) : Int) := by omega
        by_cases hkn : k < n
        · have hkni : ((k : Nat) : Int) < ((n : Nat) : Int) := by omega
          have wk : IntKind.i64.wrap ((k : Int) + 1) = ((k + 1 : Nat) : Int) := by rw [i64_wrap (by omega) (by omega)]; omega
          have hvp : ((List.range (k + 1)).map fun k => codeV (row.getD k 0)) = ((List.range k).map fun k => codeV (row.getD k 0)) ++ [codeV (row.getD k 0)] := by rw [List.range_succ, List.map_append]; rfl
          have hvl : ((List.range k).map fun k => codeV (row.getD k 0)).length = k := by simp
          have bk : (k + 1) * 32 ≤ 140737488355328 := by omega
          by_cases hkr : k < row.length
          · have hkri : ((k : Nat) : Int) < ((row.length : Nat) : Int) := by omega
            have hc3 := hr3 _ (getD_mem 0 hkr)
            have cr := code_r (row.getD k 0) hc3.1 hc3.2
            generalize codeV (row.getD k 0) = cv at *
            obtain ⟨ck, cn, ct⟩ := cv
            rcases hV with ⟨hk0, rfl⟩ | ⟨hk0, g2, f1, f2, f3, f4, f5, rfl⟩
            · subst hk0
              repeat' first | (with_reducible refine And.intro (by omega) ?_) | (refine SW.seq_k fun K hK => ?_) | (refine SW.block ?_) | ((first | refine SW.region ?_ | refine SW.regionZ (id := 12) (Checked.mixed Tryz.checked) Go.Ab.zJ2_1 (by kernel_rfl) ?_ | refine SW.cond ?_ | refine SW.skip ?_ | refine ⟨_, cr, ?_⟩ | (refine allF_i fun b hb => ?_; replace hD := And.intro hb hD; clear hb; try simp only [fresh_cons, fresh_nil, and_true, ne_eq, neF] at hD) | simp only [appK, appOsK]); try simp only [Go.Ab.zJ2_1, go_sem, hD, hli, ie, i0, hkni, ke, k0, wk, hrow, hkri, bk, true_implies]) | (refine And.intro (by omega) ?_) | (refine ifI (fun hc => ?_) (fun hc => ?_) <;> first | (exfalso; omega) | skip) | (apply hK; clear hK K)
              obtain ⟨nb, rfl⟩ : ∃ x, x = b := ⟨_, rfl⟩
              refine Rnd.le (St.le_del (b := b)) ?_
              simp only [go_sem, hD]
              refine Rnd.sub (n - (0 + 1)) (by omega) ((hJ _ _).2 ⟨0 + 1, _, rfl, by omega, .inr ⟨by omega, nb, by simp [hD], by simp [hD], by simp [hD], by simp [hD], by simp [hD], by rw [hvp]; rfl⟩, rfl⟩) (by repeat' (first | exact rfl | exact trivial | constructor))
            · have hD := And.intro (And.intro (eq_false f1) (eq_false f2)) (And.intro (And.intro (eq_false f3) (eq_false f4)) hD)
              have hvc : (vCs ((List.range k).map fun k => codeV (row.getD k 0))).length = k * 3 := by rw [← vCs_len, hvl]
              repeat' first | (with_reducible refine And.intro (by omega) ?_) | (refine SW.seq_k fun K hK => ?_) | (refine SW.block ?_) | ((first | refine SW.region ?_ | refine SW.regionZ (id := 12) (Checked.mixed Tryz.checked) Go.Ab.zJ2_1 (by kernel_rfl) ?_ | refine SW.cond ?_ | refine SW.skip ?_ | refine ⟨_, cr, ?_⟩ | (refine allF_i fun b hb => ?_; replace hD := And.intro hb hD; clear hb; try simp only [fresh_cons, fresh_nil, and_true, ne_eq, neF] at hD) | simp only [appK, appOsK]); try simp only [Go.Ab.zJ2_1, go_sem, hD, hli, ie, i0, hkni, ke, k0, wk, hrow, hkri, bk, hvc, true_implies]) | (apply hK; clear hK K)
              obtain ⟨nb, rfl⟩ : ∃ x, x = b := ⟨_, rfl⟩
              refine Rnd.le (St.le_del (b := b)) ?_
              simp only [go_sem, hD]
              refine Rnd.sub (n - (k + 1)) (by omega) ((hJ _ _).2 ⟨k + 1, _, rfl, by omega, .inr ⟨by omega, nb, by simp [hD], by simp [hD], by simp [hD], by simp [hD], by simp [hD], by rw [hvp, ← vCs_snoc]⟩, rfl⟩) (by repeat' (first | exact rfl | exact trivial | constructor))
          · have hkri : ¬ ((k : Nat) : Int) < ((row.length : Nat) : Int) := by omega
            have hz : row.getD k 0 = 0 := by rw [List.getD_eq_getElem?_getD, List.getElem?_eq_none (by omega)]; rfl
            have cr := code_r 0 (by omega) (by omega)
            rw [hz] at hvp
            generalize codeV 0 = cv at *
            obtain ⟨ck, cn, ct⟩ := cv
            rcases hV with ⟨hk0, rfl⟩ | ⟨hk0, g2, f1, f2, f3, f4, f5, rfl⟩
            · subst hk0
              repeat' first | (with_reducible refine And.intro (by omega) ?_) | (refine SW.seq_k fun K hK => ?_) | (refine SW.block ?_) | ((first | refine SW.region ?_ | refine SW.regionZ (id := 12) (Checked.mixed Tryz.checked) Go.Ab.zJ2_1 (by kernel_rfl) ?_ | refine SW.cond ?_ | refine SW.skip ?_ | refine ⟨_, cr, ?_⟩ | (refine allF_i fun b hb => ?_; replace hD := And.intro hb hD; clear hb; try simp only [fresh_cons, fresh_nil, and_true, ne_eq, neF] at hD) | simp only [appK, appOsK]); try simp only [Go.Ab.zJ2_1, go_sem, hD, hli, ie, i0, hkni, ke, k0, wk, hrow, hkri, bk, true_implies]) | (refine And.intro (by omega) ?_) | (refine ifI (fun hc => ?_) (fun hc => ?_) <;> first | (exfalso; omega) | skip) | (apply hK; clear hK K)
              obtain ⟨nb, rfl⟩ : ∃ x, x = b := ⟨_, rfl⟩
              refine Rnd.le (St.le_del (b := b)) ?_
              simp only [go_sem, hD]
              refine Rnd.sub (n - (0 + 1)) (by omega) ((hJ _ _).2 ⟨0 + 1, _, rfl, by omega, .inr ⟨by omega, nb, by simp [hD], by simp [hD], by simp [hD], by simp [hD], by simp [hD], by rw [hvp]; rfl⟩, rfl⟩) (by repeat' (first | exact rfl | exact trivial | constructor))
            · have hD := And.intro (And.intro (eq_false f1) (eq_false f2)) (And.intro (And.intro (eq_false f3) (eq_false f4)) hD)
              have hvc : (vCs ((List.range k).map fun k => codeV (row.getD k 0))).length = k * 3 := by rw [← vCs_len, hvl]
              repeat' first | (with_reducible refine And.intro (by omega) ?_) | (refine SW.seq_k fun K hK => ?_) | (refine SW.block ?_) | ((first | refine SW.region ?_ | refine SW.regionZ (id := 12) (Checked.mixed Tryz.checked) Go.Ab.zJ2_1 (by kernel_rfl) ?_ | refine SW.cond ?_ | refine SW.skip ?_ | refine ⟨_, cr, ?_⟩ | (refine allF_i fun b hb => ?_; replace hD := And.intro hb hD; clear hb; try simp only [fresh_cons, fresh_nil, and_true, ne_eq, neF] at hD) | simp only [appK, appOsK]); try simp only [Go.Ab.zJ2_1, go_sem, hD, hli, ie, i0, hkni, ke, k0, wk, hrow, hkri, bk, hvc, true_implies]) | (apply hK; clear hK K)
              obtain ⟨nb, rfl⟩ : ∃ x, x = b := ⟨_, rfl⟩
              refine Rnd.le (St.le_del (b := b)) ?_
              simp only [go_sem, hD]
              refine Rnd.sub (n - (k + 1)) (by omega) ((hJ _ _).2 ⟨k + 1, _, rfl, by omega, .inr ⟨by omega, nb, by simp [hD], by simp [hD], by simp [hD], by simp [hD], by simp [hD], by rw [hvp, ← vCs_snoc]⟩, rfl⟩) (by repeat' (first | exact rfl | exact trivial | constructor))
        have hkni : ¬ ((k : Nat) : Int) < ((n : Nat) : Int) := by omega
        obtain rfl : k = n := by omega
        have hVl : ((List.range k).map fun k => codeV (row.getD k 0)).length = k := by simp
        have hwl := hrw
        generalize ((List.range k).map fun k => codeV (row.getD k 0)) = V at *
        apply Ab.SW.le (S' := ⟨[(1, I64 k), (2, .op xb 0), (4, .op rb 0), (5, .op tb 0), (6, I64 i), (7, .op vb 0), (8, I64 k)], (vb, .svs [I64 id, VL V]) :: (xb, .svs (RCC ⟨at', gap, rows⟩)) :: R⟩)
        · rcases hV with ⟨hk0, rfl⟩ | ⟨hk0, g2, f1, f2, f3, f4, f5, rfl⟩
          · subst hk0
            have hVn : V = [] := List.eq_nil_of_length_eq_zero hVl
            subst hVn
            have := St.le_nilC (t := [(1, I64 (0 : Nat)), (2, .op xb 0), (4, .op rb 0), (5, .op tb 0), (6, I64 i), (7, .op vb 0), (8, I64 (0 : Nat))]) (h := (vb, .svs [I64 id, .sc (.slice none 0 0)]) :: (xb, .svs (RCC ⟨at', gap, rows⟩)) :: R) (c := vb) (j := 1) (sz := 3) (f := vF []) (by rw [find_cons, if_pos rfl]) (by show 1 < 2; omega) rfl
            rw [upd_cons, if_pos rfl] at this
            exact this
          · have := St.le_accC (t := [(1, I64 k), (2, .op xb 0), (4, .op rb 0), (5, .op tb 0), (6, I64 i), (7, .op vb 0), (8, I64 k)]) (sz := 3) (n := k) (c := vb) (j := 1) (Acc.osH (b := g2) (cs := vCs V) (h0 := (vb, .svs [I64 id, .os g2 0 k 3]) :: (xb, .svs (RCC ⟨at', gap, rows⟩)) :: R) (by simp only [fresh_cons, ne_eq]; exact ⟨⟨f2, f1⟩, ⟨f4, f3⟩, f5⟩) (by rw [← vCs_len, hVl])) (by rw [find_cons, if_pos rfl]) (by show 1 < 2; omega) rfl (vF V) (fun j hj => vCs_at V j (by omega))
            rw [upd_cons, if_pos rfl] at this
            unfold VL
            rw [hVl]
            exact this
        subst hR
        simp only [fresh_cons, fresh_nil, and_true, ne_eq, neF] at v3 v4
        have hD := And.intro v3 (And.intro v4 (And.intro (And.intro (eq_false v1) (eq_false v2)) (And.intro (And.intro (eq_false d1) (eq_false d3)) (And.intro (eq_false hrx) (eq_false hxr)))))
        subst hi0
        have hLn : Li = [] := List.eq_nil_of_length_eq_zero hsl
        subst hLn
        repeat' first | (with_reducible refine And.intro (by omega) ?_) | (refine SW.seq_k fun K hK => ?_) | ((first | refine SW.region ?_ | refine SW.cond ?_ | refine SW.exit ?_ | (refine allF_i fun b hb => ?_; replace hD := And.intro hb hD; clear hb; try simp only [fresh_cons, fresh_nil, and_true, ne_eq, neF] at hD) | simp only [appK, appOsK]); try simp only [go_sem, hD, hkni, w1, ba, true_implies]) | (refine And.intro (by omega) ?_) | (apply hK; clear hK K) | (clear hK K; apply hK; clear hK K)
        refine Rnd.le (St.le_pick _ ?_ ?_) (Rnd.sub (rows.length - (0 + 1)) (by omega) ((hI _ _).2 ⟨0 + 1, [(xb, .svs (RCC ⟨at', gap, rows⟩)), (b, .svs (rC (id, V))), (tb, .svs [Str ⟨#[114]⟩, .fl k 1 (sF (nm8.take k)), .os b 0 1 2]), (rb, .svs [Str ⟨#[]⟩, .sc (.slice none 0 0), .sc (.slice none 0 0)])], rfl, by omega, .inr ⟨by omega, b, by simp [hD], by simp [hD], by simp [hD], by simp [hD], by simp [hD], by simp [hD], by rw [hmp, hrw]; rfl⟩, rfl⟩) (by repeat' (first | exact rfl | exact trivial | constructor)))
        · repeat' (first | exact (fun x hx => (List.not_mem_nil hx).elim) | refine List.forall_mem_cons.2 ⟨?_, ?_⟩ | exact List.mem_cons_self | apply List.mem_cons_of_mem)
        · simp [fresh_cons, fresh_nil, hD]
      · have hD := And.intro (And.intro (eq_false u1) (eq_false u2)) (And.intro (And.intro (eq_false u3) (eq_false u4)) (And.intro (And.intro (eq_false u5) (eq_false u6)) hD))
        repeat' first | (refine SW.seq_k fun K hK => ?_) | (refine SW.block ?_) | ((first | refine SW.region ?_ | refine SW.cond ?_ | refine SW.skip ?_ | (refine allF_i fun b hb => ?_; replace hD := And.intro hb hD; clear hb; try simp only [fresh_cons, fresh_nil, and_true, ne_eq, neF] at hD)); try simp only [go_sem, hD, hli, ie, i0, w1, hg3, q1, q2, q3, q4]) | (apply hK; clear hK K)
        obtain ⟨vb, rfl⟩ : ∃ x, x = b := ⟨_, rfl⟩
        obtain ⟨R, hR⟩ : ∃ R : Heap, R = [(g, .svs (fC rC Li)), (tb, .svs [Str ⟨#[114]⟩, .fl n 1 (sF (nm8.take n)), .os g 0 i 2]), (rb, .svs [Str ⟨#[]⟩, .sc (.slice none 0 0), .sc (.slice none 0 0)])] := ⟨_, rfl⟩
        rw [← hR]
        have v1 : ¬ vb = xb := by simp [hD]
        have v2 : ¬ xb = vb := by simp [hD]
        have v3 : fresh R vb := by rw [hR]; simp [fresh_cons, fresh_nil, hD]
        have v4 : fresh R xb := by rw [hR]; simp [fresh_cons, fresh_nil, d2, d4, hrx, hxr, u1, u2]
        clear hD
        have hD := And.intro (eq_false v1) (eq_false v2)
        obtain ⟨J, hJ⟩ : ∃ J : Nat → St → Prop, ∀ m S, J m S ↔ (∃ (k : Nat) (h : Heap), m = n - k ∧ k ≤ n ∧ ((k = 0 ∧ h = (vb, .svs [I64 id, .sc (.slice none 0 0)]) :: (xb, .svs (RCC ⟨at', gap, rows⟩)) :: R) ∨ (0 < k ∧ ∃ g2, ¬ g2 = vb ∧ ¬ vb = g2 ∧ ¬ g2 = xb ∧ ¬ xb = g2 ∧ fresh R g2 ∧ h = (g2, .svs (vCs ((List.range k).map fun k => codeV (row.getD k 0)))) :: (vb, .svs [I64 id, .os g2 0 k 3]) :: (xb, .svs (RCC ⟨at', gap, rows⟩)) :: R)) ∧ S = ⟨[(1, I64 n), (2, .op xb 0), (4, .op rb 0), (5, .op tb 0), (6, I64 i), (7, .op vb 0), (8, I64 k)], h⟩) := ⟨fun m S => _, fun _ _ => Iff.rfl⟩
        refine SW.loop' J n ((hJ _ _).2 ⟨0, _, rfl, Nat.zero_le _, .inl ⟨rfl, rfl⟩, rfl⟩) (by repeat' (first | exact rfl | exact trivial | constructor)) ?_
        intro m S hIn
        obtain ⟨k, h, rfl, hk, hV, rfl⟩ := (hJ _ _).1 hIn
        clear hIn
        have ke : ((k : Nat) : Int).toNat = k := Int.toNat_natCast _
        have k0 : (0 : Int) ≤ ((k : Nat) : Int) := by omega
        by_cases hkn : k < n
        · have hkni : ((k : Nat) : Int) < ((n : Nat) : Int) := by omega
          have wk : IntKind.i64.wrap ((k : Int) + 1) = ((k + 1 : Nat) : Int) := by rw [i64_wrap (by omega) (by omega)]; omega
          have hvp : ((List.range (k + 1)).map fun k => codeV (row.getD k 0)) = ((List.range k).map fun k => codeV (row.getD k 0)) ++ [codeV (row.getD k 0)] := by rw [List.range_succ, List.map_append]; rfl
          have hvl : ((List.range k).map fun k => codeV (row.getD k 0)).length = k := by simp
          have bk : (k + 1) * 32 ≤ 140737488355328 := by omega
          by_cases hkr : k < row.length
          · have hkri : ((k : Nat) : Int) < ((row.length : Nat) : Int) := by omega
            have hc3 := hr3 _ (getD_mem 0 hkr)
            have cr := code_r (row.getD k 0) hc3.1 hc3.2
            generalize codeV (row.getD k 0) = cv at *
            obtain ⟨ck, cn, ct⟩ := cv
            rcases hV with ⟨hk0, rfl⟩ | ⟨hk0, g2, f1, f2, f3, f4, f5, rfl⟩
            · subst hk0
              repeat' first | (with_reducible refine And.intro (by omega) ?_) | (refine SW.seq_k fun K hK => ?_) | (refine SW.block ?_) | ((first | refine SW.region ?_ | refine SW.regionZ (id := 12) (Checked.mixed Tryz.checked) Go.Ab.zJ2_1 (by kernel_rfl) ?_ | refine SW.cond ?_ | refine SW.skip ?_ | refine ⟨_, cr, ?_⟩ | (refine allF_i fun b hb => ?_; replace hD := And.intro hb hD; clear hb; try simp only [fresh_cons, fresh_nil, and_true, ne_eq, neF] at hD) | simp only [appK, appOsK]); try simp only [Go.Ab.zJ2_1, go_sem, hD, hli, ie, i0, hkni, ke, k0, wk, hrow, hkri, bk, true_implies]) | (refine And.intro (by omega) ?_) | (refine ifI (fun hc => ?_) (fun hc => ?_) <;> first | (exfalso; omega) | skip) | (apply hK; clear hK K)
              obtain ⟨nb, rfl⟩ : ∃ x, x = b := ⟨_, rfl⟩
              refine Rnd.le (St.le_del (b := b)) ?_
              simp only [go_sem, hD]
              refine Rnd.sub (n - (0 + 1)) (by omega) ((hJ _ _).2 ⟨0 + 1, _, rfl, by omega, .inr ⟨by omega, nb, by simp [hD], by simp [hD], by simp [hD], by simp [hD], by simp [hD], by rw [hvp]; rfl⟩, rfl⟩) (by repeat' (first | exact rfl | exact trivial | constructor))
            · have hD := And.intro (And.intro (eq_false f1) (eq_false f2)) (And.intro (And.intro (eq_false f3) (eq_false f4)) hD)
              have hvc : (vCs ((List.range k).map fun k => codeV (row.getD k 0))).length = k * 3 := by rw [← vCs_len, hvl]
              repeat' first | (with_reducible refine And.intro (by omega) ?_) | (refine SW.seq_k fun K hK => ?_) | (refine SW.block ?_) | ((first | refine SW.region ?_ | refine SW.regionZ (id := 12) (Checked.mixed Tryz.checked) Go.Ab.zJ2_1 (by kernel_rfl) ?_ | refine SW.cond ?_ | refine SW.skip ?_ | refine ⟨_, cr, ?_⟩ | (refine allF_i fun b hb => ?_; replace hD := And.intro hb hD; clear hb; try simp only [fresh_cons, fresh_nil, and_true, ne_eq, neF] at hD) | simp only [appK, appOsK]); try simp only [Go.Ab.zJ2_1, go_sem, hD, hli, ie, i0, hkni, ke, k0, wk, hrow, hkri, bk, hvc, true_implies]) | (apply hK; clear hK K)
              obtain ⟨nb, rfl⟩ : ∃ x, x = b := ⟨_, rfl⟩
              refine Rnd.le (St.le_del (b := b)) ?_
              simp only [go_sem, hD]
              refine Rnd.sub (n - (k + 1)) (by omega) ((hJ _ _).2 ⟨k + 1, _, rfl, by omega, .inr ⟨by omega, nb, by simp [hD], by simp [hD], by simp [hD], by simp [hD], by simp [hD], by rw [hvp, ← vCs_snoc]⟩, rfl⟩) (by repeat' (first | exact rfl | exact trivial | constructor))
          · have hkri : ¬ ((k : Nat) : Int) < ((row.length : Nat) : Int) := by omega
            have hz : row.getD k 0 = 0 := by rw [List.getD_eq_getElem?_getD, List.getElem?_eq_none (by omega)]; rfl
            have cr := code_r 0 (by omega) (by omega)
            rw [hz] at hvp
            generalize codeV 0 = cv at *
            obtain ⟨ck, cn, ct⟩ := cv
            rcases hV with ⟨hk0, rfl⟩ | ⟨hk0, g2, f1, f2, f3, f4, f5, rfl⟩
            · subst hk0
              repeat' first | (with_reducible refine And.intro (by omega) ?_) | (refine SW.seq_k fun K hK => ?_) | (refine SW.block ?_) | ((first | refine SW.region ?_ | refine SW.regionZ (id := 12) (Checked.mixed Tryz.checked) Go.Ab.zJ2_1 (by kernel_rfl) ?_ | refine SW.cond ?_ | refine SW.skip ?_ | refine ⟨_, cr, ?_⟩ | (refine allF_i fun b hb => ?_; replace hD := And.intro hb hD; clear hb; try simp only [fresh_cons, fresh_nil, and_true, ne_eq, neF] at hD) | simp only [appK, appOsK]); try simp only [Go.Ab.zJ2_1, go_sem, hD, hli, ie, i0, hkni, ke, k0, wk, hrow, hkri, bk, true_implies]) | (refine And.intro (by omega) ?_) | (refine ifI (fun hc => ?_) (fun hc => ?_) <;> first | (exfalso; omega) | skip) | (apply hK; clear hK K)
              obtain ⟨nb, rfl⟩ : ∃ x, x = b := ⟨_, rfl⟩
              refine Rnd.le (St.le_del (b := b)) ?_
              simp only [go_sem, hD]
              refine Rnd.sub (n - (0 + 1)) (by omega) ((hJ _ _).2 ⟨0 + 1, _, rfl, by omega, .inr ⟨by omega, nb, by simp [hD], by simp [hD], by simp [hD], by simp [hD], by simp [hD], by rw [hvp]; rfl⟩, rfl⟩) (by repeat' (first | exact rfl | exact trivial | constructor))
            · have hD := And.intro (And.intro (eq_false f1) (eq_false f2)) (And.intro (And.intro (eq_false f3) (eq_false f4)) hD)
              have hvc : (vCs ((List.range k).map fun k => codeV (row.getD k 0))).length = k * 3 := by rw [← vCs_len, hvl]
              repeat' first | (with_reducible refine And.intro (by omega) ?_) | (refine SW.seq_k fun K hK => ?_) | (refine SW.block ?_) | ((first | refine SW.region ?_ | refine SW.regionZ (id := 12) (Checked.mixed Tryz.checked) Go.Ab.zJ2_1 (by kernel_rfl) ?_ | refine SW.cond ?_ | refine SW.skip ?_ | refine ⟨_, cr, ?_⟩ | (refine allF_i fun b hb => ?_; replace hD := And.intro hb hD; clear hb; try simp only [fresh_cons, fresh_nil, and_true, ne_eq, neF] at hD) | simp only [appK, appOsK]); try simp only [Go.Ab.zJ2_1, go_sem, hD, hli, ie, i0, hkni, ke, k0, wk, hrow, hkri, bk, hvc, true_implies]) | (apply hK; clear hK K)
              obtain ⟨nb, rfl⟩ : ∃ x, x = b := ⟨_, rfl⟩
              refine Rnd.le (St.le_del (b := b)) ?_
              simp only [go_sem, hD]
              refine Rnd.sub (n - (k + 1)) (by omega) ((hJ _ _).2 ⟨k + 1, _, rfl, by omega, .inr ⟨by omega, nb, by simp [hD], by simp [hD], by simp [hD], by simp [hD], by simp [hD], by rw [hvp, ← vCs_snoc]⟩, rfl⟩) (by repeat' (first | exact rfl | exact trivial | constructor))
        have hkni : ¬ ((k : Nat) : Int) < ((n : Nat) : Int) := by omega
        obtain rfl : k = n := by omega
        have hVl : ((List.range k).map fun k => codeV (row.getD k 0)).length = k := by simp
        have hwl := hrw
        generalize ((List.range k).map fun k => codeV (row.getD k 0)) = V at *
        apply Ab.SW.le (S' := ⟨[(1, I64 k), (2, .op xb 0), (4, .op rb 0), (5, .op tb 0), (6, I64 i), (7, .op vb 0), (8, I64 k)], (vb, .svs [I64 id, VL V]) :: (xb, .svs (RCC ⟨at', gap, rows⟩)) :: R⟩)
        · rcases hV with ⟨hk0, rfl⟩ | ⟨hk0, g2, f1, f2, f3, f4, f5, rfl⟩
          · subst hk0
            have hVn : V = [] := List.eq_nil_of_length_eq_zero hVl
            subst hVn
            have := St.le_nilC (t := [(1, I64 (0 : Nat)), (2, .op xb 0), (4, .op rb 0), (5, .op tb 0), (6, I64 i), (7, .op vb 0), (8, I64 (0 : Nat))]) (h := (vb, .svs [I64 id, .sc (.slice none 0 0)]) :: (xb, .svs (RCC ⟨at', gap, rows⟩)) :: R) (c := vb) (j := 1) (sz := 3) (f := vF []) (by rw [find_cons, if_pos rfl]) (by show 1 < 2; omega) rfl
            rw [upd_cons, if_pos rfl] at this
            exact this
          · have := St.le_accC (t := [(1, I64 k), (2, .op xb 0), (4, .op rb 0), (5, .op tb 0), (6, I64 i), (7, .op vb 0), (8, I64 k)]) (sz := 3) (n := k) (c := vb) (j := 1) (Acc.osH (b := g2) (cs := vCs V) (h0 := (vb, .svs [I64 id, .os g2 0 k 3]) :: (xb, .svs (RCC ⟨at', gap, rows⟩)) :: R) (by simp only [fresh_cons, ne_eq]; exact ⟨⟨f2, f1⟩, ⟨f4, f3⟩, f5⟩) (by rw [← vCs_len, hVl])) (by rw [find_cons, if_pos rfl]) (by show 1 < 2; omega) rfl (vF V) (fun j hj => vCs_at V j (by omega))
            rw [upd_cons, if_pos rfl] at this
            unfold VL
            rw [hVl]
            exact this
        subst hR
        simp only [fresh_cons, fresh_nil, and_true, ne_eq, neF] at v3 v4
        have hD := And.intro v3 (And.intro v4 (And.intro (And.intro (eq_false v1) (eq_false v2)) (And.intro (And.intro (eq_false d1) (eq_false d3)) (And.intro (eq_false hrx) (And.intro (eq_false hxr) (And.intro (And.intro (eq_false u3) (eq_false u4)) (And.intro (eq_false u5) (eq_false u6))))))))
        have hfc : (fC rC Li).length = i * 2 := by rw [← fC_len (k := 2) (fun _ => rfl), hsl]
        repeat' first | (with_reducible refine And.intro (by omega) ?_) | (refine SW.seq_k fun K hK => ?_) | ((first | refine SW.region ?_ | refine SW.cond ?_ | refine SW.exit ?_ | (refine allF_i fun b hb => ?_; replace hD := And.intro hb hD; clear hb; try simp only [fresh_cons, fresh_nil, and_true, ne_eq, neF] at hD) | simp only [appK, appOsK]); try simp only [go_sem, hD, hkni, w1, ba, hfc, true_implies]) | (apply hK; clear hK K) | (clear hK K; apply hK; clear hK K)
        refine Rnd.le (St.le_pick _ ?_ ?_) (Rnd.sub (rows.length - (i + 1)) (by omega) ((hI _ _).2 ⟨i + 1, [(xb, .svs (RCC ⟨at', gap, rows⟩)), (b, .svs (fC rC Li ++ rC (id, V))), (tb, .svs [Str ⟨#[114]⟩, .fl k 1 (sF (nm8.take k)), .os b 0 (i + 1) 2]), (rb, .svs [Str ⟨#[]⟩, .sc (.slice none 0 0), .sc (.slice none 0 0)])], rfl, by omega, .inr ⟨by omega, b, by simp [hD], by simp [hD], by simp [hD], by simp [hD], by simp [hD], by simp [hD], by rw [hmp, hrw, ← fC_snoc]⟩, rfl⟩) (by repeat' (first | exact rfl | exact trivial | constructor)))
        · repeat' (first | exact (fun x hx => (List.not_mem_nil hx).elim) | refine List.forall_mem_cons.2 ⟨?_, ?_⟩ | exact List.mem_cons_self | apply List.mem_cons_of_mem)
        · simp [fresh_cons, fresh_nil, hD]
    · have hli : ¬ ((i : Nat) : Int) < (((rows.length) : Nat) : Int) := by omega
      obtain rfl : i = rows.length := by omega
      have hsl : ((List.range rows.length).map fun j => rowS gap n j (rows.getD j [])).length = rows.length := by simp
      have hnl : (nm8.take n).length = n := by rw [List.length_take]; show min n 8 = n; omega
      generalize ((List.range rows.length).map fun j => rowS gap n j (rows.getD j [])) = Li at *
      apply Ab.SW.le (S' := ⟨[(1, I64 n), (2, .op xb 0), (4, .op rb 0), (5, .op tb 0), (6, I64 rows.length)], [(xb, .svs (RCC ⟨at', gap, rows⟩)), (tb, .svs [Str ⟨#[114]⟩, .fl n 1 (sF (nm8.take n)), RL Li]), (rb, .svs [Str ⟨#[]⟩, .sc (.slice none 0 0), .sc (.slice none 0 0)])]⟩)
      · rcases hB with ⟨hi0, rfl⟩ | ⟨hi0, g, u1, u2, u3, u4, u5, u6, rfl⟩
        · have hLn : Li = [] := List.eq_nil_of_length_eq_zero (by omega)
          subst hLn
          have := St.le_nilC (t := [(1, I64 n), (2, .op xb 0), (4, .op rb 0), (5, .op tb 0), (6, I64 rows.length)]) (h := [(xb, .svs (RCC ⟨at', gap, rows⟩)), (tb, .svs [Str ⟨#[114]⟩, .fl n 1 (sF (nm8.take n)), .sc (.slice none 0 0)]), (rb, .svs [Str ⟨#[]⟩, .sc (.slice none 0 0), .sc (.slice none 0 0)])]) (c := tb) (j := 2) (sz := 2) (f := rF []) (by rw [find_cons, if_neg d4, find_cons, if_pos rfl]) (by show 2 < 3; omega) rfl
          rw [upd_cons, if_neg d4, upd_cons, if_pos rfl] at this
          exact this
        · have h1 := St.le_perm (t := [(1, I64 n), (2, .op xb 0), (4, .op rb 0), (5, .op tb 0), (6, I64 rows.length)]) (List.Perm.swap (xb, .svs (RCC ⟨at', gap, rows⟩)) (g, Blk.svs (fC rC Li)) [(tb, .svs [Str ⟨#[114]⟩, .fl n 1 (sF (nm8.take n)), .os g 0 rows.length 2]), (rb, .svs [Str ⟨#[]⟩, .sc (.slice none 0 0), .sc (.slice none 0 0)])])
          have := St.le_accC (t := [(1, I64 n), (2, .op xb 0), (4, .op rb 0), (5, .op tb 0), (6, I64 rows.length)]) (sz := 2) (n := rows.length) (c := tb) (j := 2) (Acc.osH (b := g) (cs := fC rC Li) (h0 := [(xb, .svs (RCC ⟨at', gap, rows⟩)), (tb, .svs [Str ⟨#[114]⟩, .fl n 1 (sF (nm8.take n)), .os g 0 rows.length 2]), (rb, .svs [Str ⟨#[]⟩, .sc (.slice none 0 0), .sc (.slice none 0 0)])]) (by simp [fresh_cons, fresh_nil, u1, u2, u3, u4, u5, u6]) (by rw [← fC_len (k := 2) (fun _ => rfl), hsl])) (by rw [find_cons, if_neg d4, find_cons, if_pos rfl]) (by show 2 < 3; omega) rfl (rF Li) (fun j hj => fC_at (enc := rC) (k := 2) (fun _ => rfl) r0 Li j (by omega))
          rw [upd_cons, if_neg d4, upd_cons, if_pos rfl] at this
          unfold RL
          rw [hsl]
          exact h1.trans this
      · repeat' first | (refine SW.seq_k fun K hK => ?_) | ((first | refine SW.region ?_ | refine SW.cond ?_ | refine SW.exit ?_ | refine SW.ret ?_); try simp only [go_sem, hD, hli, true_implies]) | (apply hK; clear hK K) | (clear hK K; apply hK; clear hK K)
        apply ret_cell (i := 4) (n := 3); exact rfl; (simp only [go_sem, hD]; try rfl); (first | exact Nat.le_refl _ | decide); simp only [resL_tmp, resL_cellE, resC_ok, resL_nil, tupOf, getN, go_sem, hD]
        unfold TB SL
        simp only
        rw [hnl]
  obtain ⟨C, Q', hK2, key⟩ := key
  clear hK
  have hK := hK2
  clear hK2
  have nn : (((n : Nat) : Int) - 0).toNat = n := by omega
  have hn6 : n = 0 ∨ n = 1 ∨ n = 2 ∨ n = 3 ∨ n = 4 ∨ n = 5 := by omega
  rcases hn6 with h | h | h | h | h | h
  all_goals
    have nn2 := nn.trans h
    repeat' first | (with_reducible refine And.intro (by omega) ?_) | ((first | refine SW.region ?_ | (refine allF_i fun b hb => ?_; replace hD := And.intro hb hD; clear hb; try simp only [fresh_cons, fresh_nil, and_true, ne_eq, neF] at hD) | simp only [appK, appOsK]); try simp only [go_sem, hD, nn2, getN, List.all_cons, List.all_nil, Bool.and_self, Bool.true_and]) | (apply hK; clear hK K)
    obtain ⟨tb, rfl⟩ : ∃ x, x = b := ⟨_, rfl⟩
    obtain ⟨ab, rfl⟩ : ∃ x, x = b := ⟨_, rfl⟩
    have d1 : ¬ tb = rb := by simp [hD]
    have d2 : ¬ tb = xb := by simp [hD]
    have d3 : ¬ rb = tb := by simp [hD]
    have d4 : ¬ xb = tb := by simp [hD]
    have d5 : ¬ tb = ab := by simp [hD]
    apply Ab.SW.le
    · apply St.le_freezeC (c := tb) (j := 1) (b := ab) (off := 0) (sz := 1) (f := sF (nm8.take n))
      · rw [find_cons, if_pos rfl]
      · exact d5
      · show 1 < 3
        omega
      · rfl
      · simp [find_cons, d5, hD]; rfl
      · decide
      · intro p hp
        rw [h]
        have h5 : p = 0 ∨ p = 1 ∨ p = 2 ∨ p = 3 ∨ p = 4 := by omega
        rcases h5 with rfl | rfl | rfl | rfl | rfl
        all_goals first | (exfalso; omega) | rfl
    simp only [go_sem, hD, d5]
    subst h
    refine Ab.SW.le ((St.le_pick [(xb, .svs (RCC ⟨at', gap, rows⟩)), (tb, .svs [Str ⟨#[114]⟩, .fl _ 1 (sF (nm8.take _)), .sc (.slice none 0 0)]), (rb, .svs [Str ⟨#[]⟩, .sc (.slice none 0 0), .sc (.slice none 0 0)])] ?_ ?_).trans (St.le_sub ?_)) (key tb d1 d2 d3 d4)
    · repeat' (first | exact (fun x hx => (List.not_mem_nil hx).elim) | refine List.forall_mem_cons.2 ⟨?_, ?_⟩ | exact List.mem_cons_self | apply List.mem_cons_of_mem)
    · simp [fresh_cons, fresh_nil, hD]
    · repeat' (first | exact rfl | exact trivial | constructor)
end Go.Proofs.YtpidncgibgiidaaGreat
namespace Go.Ab.A15
open Go Go.Ab Go.Ab.A34
def tabS (x : Rc) : Tb := wideS x (x.attrs % 6).toNat
abbrev TZ : SV := .agg [Str ⟨#[]⟩, SN, SN]
def U8s (l : List Int) : Prop := ∀ c ∈ l, 0 ≤ c ∧ c < 256
theorem few_nums {l : List Int} {n : Nat} (h : l.Nodup) (hb : ∀ x ∈ l, 0 ≤ x ∧ x < (n : Int)) : l.length ≤ n := by
  have key := nodup_bound n (l.map Int.toNat) ?_ ?_
  · rwa [List.length_map] at key
  · have hp := List.pairwise_iff_getElem.1 h
    refine List.pairwise_iff_getElem.2 fun i j hi hj hij e => ?_
    rw [List.length_map] at hi hj
    rw [List.getElem_map, List.getElem_map] at e
    have h1 := hb _ (List.getElem_mem hi)
    have h2 := hb _ (List.getElem_mem hj)
    exact hp i j hi hj hij (by omega)
  · intro x hx
    obtain ⟨y, hy, rfl⟩ := List.mem_map.1 hx
    have := hb y hy
    omega
end Go.Ab.A15
namespace Go.Proofs.YtpidncgibgiidaaGreat
open Go Go.Ab Go.Ab.A34 Go.Ab.A15
variable [Gl] [Tabs]
theorem rtab_big (x : Rc) (m : Nat) (h : m < x.rows.length) : PCall Tryz.prog 44 [RC x, I64 m] (.tup [TZ, SB false]) := by
  have hi : ((m : Nat) : Int) < ((x.rows.length : Nat) : Int) := by omega
  obtain ⟨a, g, l⟩ := x
  simp only at hi
  refine Call.enter' (N := 18) (rs := [.cell 4 72, .tmp 5]) Tryz.func44 rfl rfl rfl (by decide) rfl ?_; simp only [argT]; have hD : (0 : Nat) = 0 := rfl
  repeat' first | (refine SW.seq_k fun K hK => ?_) | ((first | refine SW.region ?_ | refine SW.cond ?_ | refine SW.ret ?_ | (refine allF_i fun b hb => ?_; replace hD := And.intro hb hD; clear hb; try simp only [fresh_cons, fresh_nil, and_true, ne_eq, neF] at hD)); try simp only [go_sem, hD, hi]) | (apply hK; clear hK K)
  apply ret_cell (i := 4) (n := 3); exact rfl; (simp only [go_sem, hD]; try rfl); (first | exact Nat.le_refl _ | decide); simp only [resL_tmp, resL_cellE, resC_ok, resL_nil, tupOf, getN, go_sem, hD]
theorem rtab_r (x : Rc) (hx : okRc x) (m : Nat) (h : x.rows.length ≤ m) (hm : m ≤ 1000) : PCall Tryz.prog 44 [RC x, I64 m] (.tup [TB (tabS x), SB true]) := by
  have hi : ¬ ((m : Nat) : Int) < ((x.rows.length : Nat) : Int) := by omega
  have a1 : x.attrs.tmod 6 = x.attrs % 6 := Int.tmod_eq_emod_of_nonneg hx.1.1
  have a2 : IntKind.i64.wrap (x.attrs % 6) = (((x.attrs % 6).toNat : Nat) : Int) := by rw [i64_wrap (by omega) (by omega)]; omega
  have wr := wide_r x hx (x.attrs % 6).toNat (by omega) (by omega)
  unfold tabS
  generalize wideS x (x.attrs % 6).toNat = t at *
  obtain ⟨a, g, l⟩ := x
  simp only at hi a1 a2 wr
  refine Call.enter' (N := 18) (rs := [.cell 4 72, .tmp 5]) Tryz.func44 rfl rfl rfl (by decide) rfl ?_; simp only [argT]; have hD : (0 : Nat) = 0 := rfl
  repeat' first | (refine SW.seq_k fun K hK => ?_) | ((first | refine SW.region ?_ | refine SW.cond ?_ | refine SW.skip ?_ | refine SW.ret ?_ | refine Call.of_pure (wr) ?_ | (refine allF_i fun b hb => ?_; replace hD := And.intro hb hD; clear hb; try simp only [fresh_cons, fresh_nil, and_true, ne_eq, neF] at hD)); try simp only [go_sem, hD, hi, a1, a2]) | (apply hK; clear hK K)
  apply ret_cell (i := 4) (n := 3); exact rfl; (simp only [go_sem, hD]; try rfl); (first | exact Nat.le_refl _ | decide); simp only [resL_tmp, resL_cellE, resC_ok, resL_nil, tupOf, getN, go_sem, hD]
end Go.Proofs.YtpidncgibgiidaaGreat
namespace Go.Ab.A15
open Go Go.Ab Go.Ab.A34
def rc0 : Rc := ⟨0, 0, []⟩
def nmT (i : Nat) : ByteArray := if i = 0 then ⟨#[114]⟩ else if i = 1 then ⟨#[115]⟩ else ⟨#[116]⟩
def cutR (x : Rc) : Rc := ⟨x.attrs % 4, x.gap, x.rows⟩
def tabD (x : Rc) (i : Nat) : Tb := ⟨nmT i, (tabS (cutR x)).attrs, (tabS (cutR x)).rows⟩
def ofT (d : List Rc) : List Tb := (List.range (min d.length 3)).map fun i => tabD (d.getD i rc0) i
abbrev RF (d : List Rc) (i : Nat) : List SV := RCC (d.getD i rc0)
abbrev RcL (d : List Rc) : SV := .fl d.length 3 (RF d)
def goodD (d : List Rc) : Prop := ∀ i, i < min d.length 3 → (d.getD i rc0).rows.length ≤ 6
instance (d : List Rc) : Decidable (goodD d) := by unfold goodD; infer_instance
def ofV (d : List Rc) : SV := if goodD d then .tup [DB (ofT d), SB (decide (d.length ≤ 3))] else .tup [.agg [SN], SB false]
structure Lk where
  f : Int
  t : Int
  l : List Int
  r : List Int
structure OkK (x : Lk) : Prop where
  f : 0 ≤ x.f ∧ x.f < 256
  t : 0 ≤ x.t ∧ x.t < 256
  l : U8s x.l
  r : U8s x.r
  nl : x.l.length ≤ 9223372036854775807
  nr : x.r.length ≤ 9223372036854775807
end Go.Ab.A15
namespace Go.Proofs.YtpidncgibgiidaaGreat
open Go Go.Ab Go.Ab.A34 Go.Ab.A15
variable [Gl] [Tabs]
end Go.Proofs.YtpidncgibgiidaaGreat
namespace Go.Ab.A15
open Go Go.Ab Go.Ab.A34
def outD (d : List Rc) (i : Nat) : List Tb := (List.range i).map fun j => tabD (d.getD j rc0) j
theorem outD_succ (d : List Rc) (i : Nat) : outD d (i + 1) = outD d i ++ [tabD (d.getD i rc0) i] := by
  unfold outD
  rw [List.range_succ, List.map_append]
  rfl
theorem outD_len (d : List Rc) (i : Nat) : (outD d i).length = i := by simp [outD]
def OkRcs (d : List Rc) : Prop := ∀ x ∈ d, okRc x
end Go.Ab.A15
def Go.Ab.zDC_1 : Go.Ab.OZ := (.one 0 [0, 2, 3, 4, 5, 16, 17, 18, 19, 20, 22, 23] (.one 1 [1, 2, 3, 4, 5, 16, 17, 18, 19, 20, 22, 23] (.one 2 [2, 3, 4, 5, 16, 17, 18, 19, 20, 22, 23] (.one 3 [3, 4, 5, 16, 17, 18, 19, 20, 22, 23] (.one 4 [4, 5, 16, 17, 18, 19, 20, 22, 23] (.one 5 [5, 16, 17, 18, 19, 20, 22, 23] (.one 6 [6, 8, 9, 10, 16, 17, 18, 19, 20, 22, 23] (.one 7 [7, 8, 9, 10, 16, 17, 18, 19, 20, 22, 23] (.one 8 [8, 9, 10, 16, 17, 18, 19, 20, 22, 23] (.one 9 [9, 10, 16, 17, 18, 19, 20, 22, 23] (.one 10 [10, 16, 17, 18, 19, 20, 22, 23] (.one 11 [11, 13, 14, 15, 16, 17, 18, 19, 20, 22, 23] (.one 12 [12, 13, 14, 15, 16, 17, 18, 19, 20, 22, 23] (.one 13 [13, 14, 15, 16, 17, 18, 19, 20, 22, 23] (.one 14 [14, 15, 16, 17, 18, 19, 20, 22, 23] (.one 15 [15, 16, 17, 18, 19, 20, 22, 23] (.one 16 [16, 17, 18, 19, 20, 22, 23] (.one 17 [17, 18, 19, 20, 22, 23] (.one 18 [18, 19, 20, 22, 23] (.one 19 [19, 22, 23] (.alt 20 (.alt 21 (.alt 22 (.one 23 [23] .done) .nil) .nil) (.alt 21 (.alt 20 (.alt 22 (.one 23 [23] .done) .nil) (.alt 22 (.one 20 [20, 23] (.one 23 [23] .done)) .nil)) .nil))))))))))))))))))))))
namespace Go.Proofs.YtpidncgibgiidaaGreat
open Go Go.Ab Go.Ab.A34 Go.Ab.A15
variable [Gl] [Tabs]
theorem of_r (d : List Rc) (hd : OkRcs d) (hl : d.length ≤ 9223372036854775807) : PCall Tryz.prog 10 [RcL d] (ofV d) := by
  obtain ⟨V, hV⟩ : ∃ V, V = ofV d := ⟨_, rfl⟩
  rw [← hV]
  have h6 : ((6 : Nat) : Int) = 6 := rfl
  refine Call.enter' (N := 57) (rs := [.cell 2 26, .tmp 3]) Tryz.func10 rfl rfl rfl (by decide) rfl ?_; simp only [argT]; have hD : (0 : Nat) = 0 := rfl
  repeat' first | (refine SW.seq_k fun K hK => ?_) | (refine SW.block ?_) | ((first | refine SW.region ?_ | (refine allF_i fun b hb => ?_; replace hD := And.intro hb hD; clear hb; try simp only [fresh_cons, fresh_nil, and_true, ne_eq, neF] at hD)); try simp only [go_sem, hD]) | (apply hK; clear hK K)
  obtain ⟨ob, rfl⟩ : ∃ x, x = b := ⟨_, rfl⟩
  obtain ⟨rb, rfl⟩ : ∃ x, x = b := ⟨_, rfl⟩
  have k1 : ¬ ob = rb := by simp [hD]
  have k2 : ¬ rb = ob := by simp [hD]
  clear hD
  have hE := And.intro (eq_false k1) (eq_false k2)
  obtain ⟨I, hI⟩ : ∃ I : Nat → St → Prop, ∀ k S, I k S ↔ (∃ (i : Nat) (h : Heap), k = min d.length 3 - i ∧ i ≤ min d.length 3 ∧ (∀ j, j < i → (d.getD j rc0).rows.length ≤ 6) ∧ ((i = 0 ∧ h = [(ob, .svs [SN]), (rb, .svs [SN])]) ∨ (0 < i ∧ ∃ g, fresh [(ob, .svs []), (rb, .svs [])] g ∧ h = [(g, .svs (fC tC (outD d i))), (ob, .svs [.os g 0 i 3]), (rb, .svs [SN])])) ∧ S = ⟨[(0, RcL d), (2, .op rb 0), (3, SB false), (4, .op ob 0), (5, I64 i)], h⟩) := ⟨fun k S => _, fun _ _ => Iff.rfl⟩
  refine SW.loop' I (min d.length 3) ((hI _ _).2 ⟨0, _, rfl, Nat.zero_le _, (fun j hj => absurd hj (Nat.not_lt_zero _)), .inl ⟨rfl, rfl⟩, rfl⟩) (by repeat' (first | exact rfl | exact trivial | constructor)) ?_
  intro k S hIn
  obtain ⟨i, h, rfl, hi, hG, hB, rfl⟩ := (hI _ _).1 hIn
  clear hIn
  have ie : ((i : Nat) : Int).toNat = i := Int.toNat_natCast _
  have i0 : (0 : Int) ≤ ((i : Nat) : Int) := by omega
  have u0 : ∀ g1, fresh [(ob, .svs []), (rb, .svs [])] g1 → ((ob = g1) = False ∧ (g1 = ob) = False) ∧ ((rb = g1) = False ∧ (g1 = rb) = False) := fun g1 u1 => by simpa only [fresh_cons, fresh_nil, and_true, ne_eq, neF] using u1
  by_cases hlt : i < min d.length 3
  · have hli : ((i : Nat) : Int) < ((d.length : Nat) : Int) := by omega
    have hl3 : ((i : Nat) : Int) < 3 := by omega
    have i3 : i < 3 := by omega
    have w1 : IntKind.i64.wrap ((i : Int) + 1) = ((i + 1 : Nat) : Int) := by rw [i64_wrap (by omega) (by omega)]; omega
    have hx := hd _ (getD_mem' rc0 (show i < d.length by omega))
    have hsc := outD_succ d i
    have fi : RF d i = RCC (d.getD i rc0) := rfl
    have hol := outD_len d i
    have hol2 := outD_len d (i + 1)
    have hgd : ¬ (d.getD i rc0).rows.length ≤ 6 → ¬ goodD d := fun h1 h2 => h1 (h2 i hlt)
    have hG2 : (d.getD i rc0).rows.length ≤ 6 → ∀ j, j < i + 1 → (d.getD j rc0).rows.length ≤ 6 := fun h1 j hj => by
      rcases Nat.lt_or_eq_of_le (Nat.lt_succ_iff.1 hj) with h | h
      · exact hG j h
      · rw [h]; exact h1
    have a1 : (d.getD i rc0).attrs.tmod 4 = (d.getD i rc0).attrs % 4 := Int.tmod_eq_emod_of_nonneg hx.1.1
    have hok : okRc (cutR (d.getD i rc0)) := ⟨⟨by show 0 ≤ (d.getD i rc0).attrs % 4; omega, by show (d.getD i rc0).attrs % 4 < 256; omega⟩, hx.2⟩
    by_cases h7 : (d.getD i rc0).rows.length ≤ 6
    · have c := rtab_r (cutR (d.getD i rc0)) hok 6 h7 (by omega)
      rw [h6] at c
      replace hG2 := hG2 h7
      clear hgd hG h7
      unfold tabD at hsc
      unfold cutR at c hsc
      generalize d.getD i rc0 = x at *
      obtain ⟨xa, xg, xl⟩ := x
      simp only at c hsc a1
      generalize tabS ⟨xa % 4, xg, xl⟩ = t at *
      obtain ⟨tn, ta, tr⟩ := t
      simp only at c hsc
      have gm : [Str ⟨#[114]⟩, Str ⟨#[115]⟩, Str ⟨#[116]⟩].getD i SV.any = Str (nmT i) := by
        rcases (by omega : i = 0 ∨ i = 1 ∨ i = 2) with rfl | rfl | rfl <;> rfl
      have z0 : 0 + i * 1 = i := by omega
      have hsn : fC tC (outD d (i + 1)) = fC tC (outD d i) ++ [Str (nmT i), SL ta, RL tr] := by rw [hsc, ← fC_snoc]
      have lc : i * 3 = (fC tC (outD d i)).length := by
        have := fC_len (enc := tC) (k := 3) (fun _ => rfl) (outD d i)
        rwa [hol] at this
      have ba : (i + 1) * 64 ≤ 140737488355328 := by omega
      rcases hB with ⟨hm0, rfl⟩ | ⟨hm0, g, u1, rfl⟩
      · subst hm0
        have hs0 : fC tC (outD d (0 + 1)) = [Str (nmT 0), SL ta, RL tr] := hsn
        have hD := hE
        repeat' first | (with_reducible refine And.intro (by omega) ?_) | (refine SW.seq_k fun K hK => ?_) | (refine SW.block ?_) | ((first | refine SW.region ?_ | refine SW.regionZ (id := 5) (Checked.mixed Tryz.checked) Go.Ab.zDC_1 (by kernel_rfl) ?_ | refine SW.cond ?_ | refine SW.skip ?_ | refine ⟨_, c, ?_⟩ | (refine allF_i fun b hb => ?_; replace hD := And.intro hb hD; clear hb; try simp only [fresh_cons, fresh_nil, and_true, ne_eq, neF] at hD) | simp only [appK, appOsK]); try simp only [Go.Ab.zDC_1, go_sem, hD, hli, hl3, i3, ie, i0, w1, fi, a1, gm, z0, true_implies]) | (refine And.intro (by omega) ?_) | (refine ifI (fun hc => ?_) (fun hc => ?_) <;> first | (exfalso; omega) | skip) | (apply hK; clear hK K) | (refine And.intro ?_ ?_)
        all_goals
          obtain ⟨c1, rfl⟩ : ∃ x, x = b := ⟨_, rfl⟩
          refine Rnd.le (St.le_pick _ ?_ ?_) (Rnd.sub (min d.length 3 - (0 + 1)) (by omega) ((hI _ _).2 ⟨0 + 1, [(c1, .svs [Str (nmT 0), SL ta, RL tr]), (ob, .svs [.os c1 0 1 3]), (rb, .svs [SN])], rfl, by omega, hG2, .inr ⟨by omega, c1, by simp [fresh_cons, fresh_nil, hD], by rw [hs0]⟩, rfl⟩) (by repeat' (first | exact rfl | exact trivial | constructor)))
          · repeat' (first | exact (fun x hx => (List.not_mem_nil hx).elim) | refine List.forall_mem_cons.2 ⟨?_, ?_⟩ | exact List.mem_cons_self | apply List.mem_cons_of_mem)
          · simp [fresh_cons, fresh_nil, hD]
      · have hD := And.intro (u0 g u1) hE
        repeat' first | (with_reducible refine And.intro (by omega) ?_) | (refine SW.seq_k fun K hK => ?_) | (refine SW.block ?_) | ((first | refine SW.region ?_ | refine SW.regionZ (id := 5) (Checked.mixed Tryz.checked) Go.Ab.zDC_1 (by kernel_rfl) ?_ | refine SW.cond ?_ | refine SW.skip ?_ | refine ⟨_, c, ?_⟩ | (refine allF_i fun b hb => ?_; replace hD := And.intro hb hD; clear hb; try simp only [fresh_cons, fresh_nil, and_true, ne_eq, neF] at hD) | simp only [appK, appOsK]); try simp only [Go.Ab.zDC_1, go_sem, hD, hli, hl3, i3, ie, i0, w1, fi, a1, gm, z0, ba, lc, true_implies]) | (apply hK; clear hK K) | (refine And.intro ?_ ?_)
        all_goals
          obtain ⟨c1, rfl⟩ : ∃ x, x = b := ⟨_, rfl⟩
          refine Rnd.le (St.le_pick _ ?_ ?_) (Rnd.sub (min d.length 3 - (i + 1)) (by omega) ((hI _ _).2 ⟨i + 1, [(c1, .svs (fC tC (outD d i) ++ [Str (nmT i), SL ta, RL tr])), (ob, .svs [.os c1 0 (i + 1) 3]), (rb, .svs [SN])], rfl, by omega, hG2, .inr ⟨by omega, c1, by simp [fresh_cons, fresh_nil, hD], by rw [hsn]⟩, rfl⟩) (by repeat' (first | exact rfl | exact trivial | constructor)))
          · repeat' (first | exact (fun x hx => (List.not_mem_nil hx).elim) | refine List.forall_mem_cons.2 ⟨?_, ?_⟩ | exact List.mem_cons_self | apply List.mem_cons_of_mem)
          · simp [fresh_cons, fresh_nil, hD]
    · have c := rtab_big (cutR (d.getD i rc0)) 6 (by show 6 < (d.getD i rc0).rows.length; omega)
      rw [h6] at c
      have hV2 : V = .tup [.agg [SN], SB false] := by rw [hV]; unfold ofV; exact if_neg (hgd h7)
      clear hV hgd hG hG2
      subst hV2
      unfold cutR at c
      generalize d.getD i rc0 = x at *
      obtain ⟨xa, xg, xl⟩ := x
      simp only at c a1
      rcases hB with ⟨hm0, rfl⟩ | ⟨hm0, g, u1, rfl⟩
      · have hD := hE
        repeat' first | (refine SW.seq_k fun K hK => ?_) | (refine SW.block ?_) | ((first | refine SW.region ?_ | refine SW.regionZ (id := 5) (Checked.mixed Tryz.checked) Go.Ab.zDC_1 (by kernel_rfl) ?_ | refine SW.cond ?_ | refine SW.skip ?_ | refine SW.ret ?_ | refine ⟨_, c, ?_⟩ | (refine allF_i fun b hb => ?_; replace hD := And.intro hb hD; clear hb; try simp only [fresh_cons, fresh_nil, and_true, ne_eq, neF] at hD)); try simp only [Go.Ab.zDC_1, go_sem, hD, hli, hl3, i3, ie, i0, w1, fi, a1, true_implies]) | (apply hK; clear hK K) | (refine And.intro ?_ ?_)
        all_goals
          apply ret_cell (i := 2) (n := 1); exact rfl; (simp only [go_sem, hD]; try rfl); (first | exact Nat.le_refl _ | decide); simp only [resL_tmp, resL_cellE, resC_ok, resL_nil, tupOf, getN, go_sem, hD]
      · have hD := And.intro (u0 g u1) hE
        repeat' first | (refine SW.seq_k fun K hK => ?_) | (refine SW.block ?_) | ((first | refine SW.region ?_ | refine SW.regionZ (id := 5) (Checked.mixed Tryz.checked) Go.Ab.zDC_1 (by kernel_rfl) ?_ | refine SW.cond ?_ | refine SW.skip ?_ | refine SW.ret ?_ | refine ⟨_, c, ?_⟩ | (refine allF_i fun b hb => ?_; replace hD := And.intro hb hD; clear hb; try simp only [fresh_cons, fresh_nil, and_true, ne_eq, neF] at hD)); try simp only [Go.Ab.zDC_1, go_sem, hD, hli, hl3, i3, ie, i0, w1, fi, a1, true_implies]) | (apply hK; clear hK K) | (refine And.intro ?_ ?_)
        all_goals
          apply ret_cell (i := 2) (n := 1); exact rfl; (simp only [go_sem, hD]; try rfl); (first | exact Nat.le_refl _ | decide); simp only [resL_tmp, resL_cellE, resC_ok, resL_nil, tupOf, getN, go_sem, hD]
  · obtain rfl : i = min d.length 3 := by omega
    have hgood : goodD d := fun j hj => hG j hj
    have hV2 : V = .tup [DB (ofT d), SB (decide (d.length ≤ 3))] := by rw [hV]; unfold ofV; exact if_pos hgood
    have hol : (ofT d).length = min d.length 3 := outD_len d _
    have hoD : outD d (min d.length 3) = ofT d := rfl
    rw [hoD] at hB
    clear hV hG hgood hoD
    subst hV2
    apply Ab.SW.le (S' := ⟨[(0, RcL d), (2, .op rb 0), (3, SB false), (4, .op ob 0), (5, I64 (min d.length 3 : Nat))], [(ob, .svs [TL (ofT d)]), (rb, .svs [SN])]⟩)
    · rcases hB with ⟨hm0, rfl⟩ | ⟨hm0, g, u1, rfl⟩
      · have e2 : ofT d = [] := List.eq_nil_of_length_eq_zero (by omega)
        rw [e2]
        have s1 := St.le_nilC (t := [(0, RcL d), (2, .op rb 0), (3, SB false), (4, .op ob 0), (5, I64 (min d.length 3 : Nat))]) (h := [(ob, .svs [SN]), (rb, .svs [SN])]) (c := ob) (j := 0) (sz := 3) (f := tF []) (by rw [find_cons, if_pos rfl]) (by show 0 < 1; omega) rfl
        rw [upd_cons, if_pos rfl] at s1
        exact s1
      · simp only [fresh_cons, fresh_nil, and_true, ne_eq] at u1
        obtain ⟨⟨v1, v2⟩, _⟩ := u1
        have s1 := St.le_freezeC (t := [(0, RcL d), (2, .op rb 0), (3, SB false), (4, .op ob 0), (5, I64 (min d.length 3 : Nat))]) (h := [(g, .svs (fC tC (ofT d))), (ob, .svs [.os g 0 (min d.length 3) 3]), (rb, .svs [SN])]) (c := ob) (j := 0) (b := g) (off := 0) (len := min d.length 3) (sz := 3) (by rw [find_cons, if_neg v2, find_cons, if_pos rfl]) v1 (by show 0 < 1; omega) rfl (by rw [find_cons, if_pos rfl]) (by show 0 + min d.length 3 * 3 ≤ (fC tC (ofT d)).length; rw [← fC_len (enc := tC) (k := 3) (fun _ => rfl)]; omega) (tF (ofT d)) (fun j hj => by
          rw [getN_take _ _ _ (by show 0 + j * 3 + 3 ≤ (fC tC (ofT d)).length; have := fC_lt (enc := tC) (k := 3) (fun _ => rfl) (show j < (ofT d).length by omega) (show 2 < 3 by omega); omega), Nat.zero_add]
          exact fC_at (enc := tC) (k := 3) (fun _ => rfl) t0 (ofT d) j (by omega))
        rw [del_cons, if_pos rfl, upd_cons, if_pos rfl] at s1
        rw [show TL (ofT d) = .fl (min d.length 3) 3 (tF (ofT d)) by unfold TL; rw [hol]]
        exact s1
    · have hD := hE
      generalize ofT d = T at *
      by_cases h3 : d.length < 3
      · have hmi : min d.length 3 = d.length := by omega
        have hli : ¬ ((d.length : Nat) : Int) < ((d.length : Nat) : Int) := by omega
        have hle : ((d.length : Nat) : Int) ≤ 3 := by omega
        have hle2 : d.length ≤ 3 := by omega
        rw [hmi]
        repeat' first | (refine SW.seq_k fun K hK => ?_) | ((first | refine SW.region ?_ | refine SW.cond ?_ | refine SW.exit ?_ | refine SW.ret ?_); try simp only [go_sem, hD, hli, hle, hle2, true_implies]) | (apply hK; clear hK K) | (clear hK K; apply hK; clear hK K)
        all_goals
          apply ret_cell (i := 2) (n := 1); exact rfl; (simp only [go_sem, hD]; try rfl); (first | exact Nat.le_refl _ | decide); simp only [resL_tmp, resL_cellE, resC_ok, resL_nil, tupOf, getN, go_sem, hD]
      · have hmi : min d.length 3 = 3 := by omega
        have hli : (3 : Int) < ((d.length : Nat) : Int) ∨ ¬ (3 : Int) < ((d.length : Nat) : Int) := by omega
        have h33 : ((3 : Nat) : Int) = 3 := rfl
        have hdi : decide (((d.length : Nat) : Int) ≤ 3) = decide (d.length ≤ 3) := by rw [Bool.eq_iff_iff, decide_eq_true_iff, decide_eq_true_iff]; omega
        rw [hmi, h33]
        rcases hli with hli | hli
        · repeat' first | (refine SW.seq_k fun K hK => ?_) | ((first | refine SW.region ?_ | refine SW.cond ?_ | refine SW.exit ?_ | refine SW.ret ?_); try simp only [go_sem, hD, hli, hdi, true_implies]) | (apply hK; clear hK K) | (clear hK K; apply hK; clear hK K)
          all_goals
            apply ret_cell (i := 2) (n := 1); exact rfl; (simp only [go_sem, hD]; try rfl); (first | exact Nat.le_refl _ | decide); simp only [resL_tmp, resL_cellE, resC_ok, resL_nil, tupOf, getN, go_sem, hD]
        · repeat' first | (refine SW.seq_k fun K hK => ?_) | ((first | refine SW.region ?_ | refine SW.cond ?_ | refine SW.exit ?_ | refine SW.ret ?_); try simp only [go_sem, hD, hli, hdi, true_implies]) | (apply hK; clear hK K) | (clear hK K; apply hK; clear hK K)
          all_goals
            apply ret_cell (i := 2) (n := 1); exact rfl; (simp only [go_sem, hD]; try rfl); (first | exact Nat.le_refl _ | decide); simp only [resL_tmp, resL_cellE, resC_ok, resL_nil, tupOf, getN, go_sem, hD]
end Go.Proofs.YtpidncgibgiidaaGreat
namespace Go.Ab.A15
open Go Go.Ab Go.Ab.A34
end Go.Ab.A15
namespace Go.Proofs.YtpidncgibgiidaaGreat
open Go Go.Ab Go.Ab.A34 Go.Ab.A15
variable [Gl] [Tabs]
end Go.Proofs.YtpidncgibgiidaaGreat
namespace Go.Ab.A15
open Go Go.Ab Go.Ab.A34
end Go.Ab.A15
namespace Go.Proofs.YtpidncgibgiidaaGreat
open Go Go.Ab Go.Ab.A34 Go.Ab.A15
variable [Gl] [Tabs]
end Go.Proofs.YtpidncgibgiidaaGreat
namespace Go.Ab.A15
open Go Go.Ab Go.Ab.A34
def cmpI (x y : Int) : Int := if x < y then -1 else if y < x then 1 else 0
def lexI : List Int → List Int → Int
  | [], [] => 0
  | [], _ :: _ => -1
  | _ :: _, [] => 1
  | x :: a, y :: b => if cmpI x y = 0 then lexI a b else cmpI x y
theorem lexI_step {a b : List Int} {i : Nat} (h : i < a.length) : lexI (a.drop i) (b.drop i) = if i < b.length then (if cmpI (a.getD i 0) (b.getD i 0) = 0 then lexI (a.drop (i + 1)) (b.drop (i + 1)) else cmpI (a.getD i 0) (b.getD i 0)) else 1 := by
  have g : a.getD i 0 = a[i] := by simp [List.getD_eq_getElem?_getD, h]
  rw [List.drop_eq_getElem_cons h, g]
  by_cases hb : i < b.length
  · have g2 : b.getD i 0 = b[i] := by simp [List.getD_eq_getElem?_getD, hb]
    rw [List.drop_eq_getElem_cons hb, g2, if_pos hb]
    rfl
  · rw [if_neg hb, List.drop_of_length_le (show b.length ≤ i by omega)]
    rfl
theorem lexI_end {a b : List Int} {i : Nat} (h : a.length ≤ i) : lexI (a.drop i) (b.drop i) = if i < b.length then -1 else 0 := by
  rw [List.drop_of_length_le h]
  by_cases hb : i < b.length
  · rw [List.drop_eq_getElem_cons hb, if_pos hb]
    rfl
  · rw [if_neg hb, List.drop_of_length_le (show b.length ≤ i by omega)]
    rfl
end Go.Ab.A15
namespace Go.Proofs.YtpidncgibgiidaaGreat
open Go Go.Ab Go.Ab.A34 Go.Ab.A15
variable [Gl] [Tabs]
end Go.Proofs.YtpidncgibgiidaaGreat
namespace Go.Ab
open Go
theorem PCall.nilA [Gl] {P : Program} {f : FuncId} {args : List SV} {r : SV} (i : Nat) {sz : Nat} {g : Nat → List SV} (hi : i < args.length) (ha : args.getD i .any = .sc (.slice none 0 0)) (hc : PCall P f (args.set i (.fl 0 sz g)) r) : PCall P f args r := by
  refine Call.le (fun c hc => hc) (fun M w vs own hr => ⟨own, by simpa using hr.1, fun j hj => ?_⟩) hc
  rw [getD_set hi]
  have h0 := hr.2 j (by simpa using hj)
  by_cases hij : i = j
  · subst hij
    rw [if_pos rfl]
    rw [ha] at h0
    exact Rep.fl_nil h0
  · rw [if_neg hij]; exact h0
end Go.Ab
namespace Go.Ab.A15
open Go Go.Ab Go.Ab.A34
end Go.Ab.A15
namespace Go.Proofs.YtpidncgibgiidaaGreat
open Go Go.Ab Go.Ab.A34 Go.Ab.A15
variable [Gl] [Tabs]
end Go.Proofs.YtpidncgibgiidaaGreat
namespace Go.Ab
open Go.RowKit
theorem St.le_slist [Gl] {t : List (Nat × SV)} {h h' : Heap} (hs : h'.Sublist h) : (St.mk t h).le ⟨t, h'⟩ := St.le_sublist (fun _ hx => hs.subset hx) (fun hn => (hs.map _).nodup hn)
end Go.Ab
namespace Go.Ab.A15
open Go Go.Ab Go.Ab.A34
theorem fl_str (l : List ByteArray) : flCells (sF l) l.length = l.map Str := by
  have e : l = (List.range l.length).map fun i => l.getD i ⟨#[]⟩ := by
    refine List.ext_getElem (by simp) fun i h1 h2 => ?_
    simp [List.getD_eq_getElem?_getD, h1]
  unfold flCells
  conv => rhs; rw [e]
  rw [List.map_map]
  unfold sF
  induction (List.range l.length) with
  | nil => rfl
  | cons x r ih => rw [List.flatMap_cons, List.map_cons, ih]; rfl
theorem str_at {l : List ByteArray} {j : Nat} (h : j < l.length) : sF l j = ((l.map Str).drop j).take 1 := by
  have hl : j < (l.map Str).length := by rw [List.length_map]; exact h
  rw [List.drop_eq_getElem_cons hl, List.take_succ_cons, List.take_zero, List.getElem_map]
  unfold sF
  simp [List.getD_eq_getElem?_getD, h]
theorem fl_vCs (l : List V3) : flCells (vF l) l.length = vCs l := by
  have e : l = (List.range l.length).map fun i => l.getD i v0 := by
    refine List.ext_getElem (by simp) fun i h1 h2 => ?_
    simp [List.getD_eq_getElem?_getD, h1]
  unfold flCells
  conv => rhs; rw [e]
  unfold vCs
  rw [List.flatMap_map]
  rfl
theorem vCs_all (l : List V3) : (vCs l).all single = true := by
  rw [List.all_eq_true]
  intro x hx
  obtain ⟨v, _, hv⟩ := List.mem_flatMap.1 hx
  simp only [encV, List.map_cons, List.map_nil, List.mem_cons, List.not_mem_nil, or_false] at hv
  rcases hv with rfl | rfl | rfl <;> rfl
end Go.Ab.A15
namespace Go.Proofs.YtpidncgibgiidaaGreat
open Go Go.Ab Go.Ab.A34 Go.Ab.A15
variable [Gl] [Tabs]
theorem clone_s (l : List ByteArray) (hl : l.length ≤ 1000) : PCall Tryz.prog 142 [SL l] (SL l) := by
  have hfm := fl_str l
  refine Call.enter' (N := 8) (rs := [.tmp 2]) Tryz.func142 rfl rfl rfl (by decide) rfl ?_; simp only [argT]; have hD : (0 : Nat) = 0 := rfl
  refine SW.seq_k fun K0 hK0 => ?_
  refine SW.region ?_
  simp only [go_sem, hD]
  refine hK0 _ ?_
  clear hK0 K0
  refine SW.seq_k fun K hK => ?_
  refine SW.seq_k fun K2 hK2 => ?_
  refine SW.region_nil (i := 0) (j := 3) (k := 4) rfl rfl rfl rfl rfl rfl Tryz.underlying69 rfl (by decide) (by decide) (fun hn => ?_) ?_
  · refine hK2 _ ?_
    clear hK2 K2
    have hl0 : l = [] := List.eq_nil_of_length_eq_zero hn
    subst hl0
    repeat' first | (with_reducible refine And.intro (by omega) ?_) | (refine SW.seq_k fun K hK => ?_) | (refine SW.block ?_) | ((first | refine SW.region ?_ | refine SW.regionD (Checked.mixed Tryz.checked) (by kernel_rfl) ?_ | refine SW.cond ?_ | refine SW.skip ?_ | refine SW.exit ?_ | refine SW.ret ?_ | (refine allF_i fun b hb => ?_; replace hD := And.intro hb hD; clear hb; try simp only [fresh_cons, fresh_nil, and_true, ne_eq, neF] at hD) | simp only [appK, appOsK]); try simp only [go_sem, hD]) | (refine And.intro (by omega) ?_) | (refine ifI (fun hc => ?_) (fun hc => ?_) <;> first | (exfalso; omega) | skip) | (apply hK; clear hK K) | (clear hK K; apply hK; clear hK K) | (clear hK K; clear hK K; apply hK; clear hK K) | (clear hK K; clear hK K; clear hK K; apply hK; clear hK K) | (clear hK K; clear hK K; clear hK K; clear hK K; apply hK; clear hK K) | (clear hK K; clear hK K; clear hK K; clear hK K; clear hK K; apply hK; clear hK K)
    refine retQ_le (St.le_nil_fl (i := 2) (sz := 1) (f := sF []) rfl) ?_
    simp only [resL_tmp, resL_nil, tupOf, go_sem, hD]
    all_goals first | exact ⟨rfl, rfl⟩ | rfl
  · refine hK2 _ ?_
    clear hK2 K2
    repeat' first | (with_reducible refine And.intro (by omega) ?_) | (refine SW.seq_k fun K hK => ?_) | (refine SW.block ?_) | ((first | refine SW.region ?_ | refine SW.regionD (Checked.mixed Tryz.checked) (by kernel_rfl) ?_ | refine SW.cond ?_ | refine SW.skip ?_ | refine SW.exit ?_ | refine SW.ret ?_ | (refine allF_i fun b hb => ?_; replace hD := And.intro hb hD; clear hb; try simp only [fresh_cons, fresh_nil, and_true, ne_eq, neF] at hD) | simp only [appK, appOsK]); try simp only [go_sem, hD]) | (refine And.intro (by omega) ?_) | (refine ifI (fun hc => ?_) (fun hc => ?_) <;> first | (exfalso; omega) | skip) | (apply hK; clear hK K) | (clear hK K; apply hK; clear hK K) | (clear hK K; clear hK K; apply hK; clear hK K) | (clear hK K; clear hK K; clear hK K; apply hK; clear hK K) | (clear hK K; clear hK K; clear hK K; clear hK K; apply hK; clear hK K) | (clear hK K; clear hK K; clear hK K; clear hK K; clear hK K; apply hK; clear hK K)
    rw [hfm]
    refine ⟨?_, by omega, by omega, allF_i fun b' hb' => ?_⟩
    · rw [List.all_eq_true]
      intro x hx
      obtain ⟨r, _, rfl⟩ := List.mem_map.1 hx
      rfl
    · apply hK
      clear hK K
      repeat' first | (with_reducible refine And.intro (by omega) ?_) | (refine SW.seq_k fun K hK => ?_) | (refine SW.block ?_) | ((first | refine SW.region ?_ | refine SW.regionD (Checked.mixed Tryz.checked) (by kernel_rfl) ?_ | refine SW.cond ?_ | refine SW.skip ?_ | refine SW.exit ?_ | refine SW.ret ?_ | (refine allF_i fun b hb => ?_; replace hD := And.intro hb hD; clear hb; try simp only [fresh_cons, fresh_nil, and_true, ne_eq, neF] at hD) | simp only [appK, appOsK]); try simp only [go_sem, hD]) | (refine And.intro (by omega) ?_) | (refine ifI (fun hc => ?_) (fun hc => ?_) <;> first | (exfalso; omega) | skip) | (apply hK; clear hK K) | (clear hK K; apply hK; clear hK K) | (clear hK K; clear hK K; apply hK; clear hK K) | (clear hK K; clear hK K; clear hK K; apply hK; clear hK K) | (clear hK K; clear hK K; clear hK K; clear hK K; apply hK; clear hK K) | (clear hK K; clear hK K; clear hK K; clear hK K; clear hK K; apply hK; clear hK K)
      refine retQ_le (St.le_freeze (i := 2) (b := b') (off := 0) (len := l.length) (sz := 1) (k := .svs (l.map Str)) rfl (by rw [find_cons, if_pos rfl]) (by rw [Blk.len_svs, List.length_map]; omega) (sF l) (fun j hj => by
        rw [getN_take _ _ _ (by rw [Blk.len_svs, List.length_map]; omega), Nat.zero_add, Nat.mul_one]
        exact str_at hj)) ?_
      rw [del_head]
      simp only [resL_tmp, resL_nil, tupOf, go_sem, hD]
      all_goals first | exact ⟨rfl, rfl⟩ | rfl
theorem clone_v (l : List V3) (hl : l.length ≤ 1000) : PCall Tryz.prog 183 [VL l] (VL l) := by
  have hfm := fl_vCs l
  have hvl := vCs_len l
  refine Call.enter' (N := 8) (rs := [.tmp 2]) Tryz.func183 rfl rfl rfl (by decide) rfl ?_; simp only [argT]; have hD : (0 : Nat) = 0 := rfl
  refine SW.seq_k fun K0 hK0 => ?_
  refine SW.region ?_
  simp only [go_sem, hD]
  refine hK0 _ ?_
  clear hK0 K0
  refine SW.seq_k fun K hK => ?_
  refine SW.seq_k fun K2 hK2 => ?_
  refine SW.region_nil (i := 0) (j := 3) (k := 4) rfl rfl rfl rfl rfl rfl Tryz.underlying76 rfl (by decide) (by decide) (fun hn => ?_) ?_
  · refine hK2 _ ?_
    clear hK2 K2
    have hl0 : l = [] := List.eq_nil_of_length_eq_zero hn
    subst hl0
    repeat' first | (with_reducible refine And.intro (by omega) ?_) | (refine SW.seq_k fun K hK => ?_) | (refine SW.block ?_) | ((first | refine SW.region ?_ | refine SW.regionD (Checked.mixed Tryz.checked) (by kernel_rfl) ?_ | refine SW.cond ?_ | refine SW.skip ?_ | refine SW.exit ?_ | refine SW.ret ?_ | (refine allF_i fun b hb => ?_; replace hD := And.intro hb hD; clear hb; try simp only [fresh_cons, fresh_nil, and_true, ne_eq, neF] at hD) | simp only [appK, appOsK]); try simp only [go_sem, hD]) | (refine And.intro (by omega) ?_) | (refine ifI (fun hc => ?_) (fun hc => ?_) <;> first | (exfalso; omega) | skip) | (apply hK; clear hK K) | (clear hK K; apply hK; clear hK K) | (clear hK K; clear hK K; apply hK; clear hK K) | (clear hK K; clear hK K; clear hK K; apply hK; clear hK K) | (clear hK K; clear hK K; clear hK K; clear hK K; apply hK; clear hK K) | (clear hK K; clear hK K; clear hK K; clear hK K; clear hK K; apply hK; clear hK K)
    refine retQ_le (St.le_nil_fl (i := 2) (sz := 3) (f := vF []) rfl) ?_
    simp only [resL_tmp, resL_nil, tupOf, go_sem, hD]
    all_goals first | exact ⟨rfl, rfl⟩ | rfl
  · refine hK2 _ ?_
    clear hK2 K2
    repeat' first | (with_reducible refine And.intro (by omega) ?_) | (refine SW.seq_k fun K hK => ?_) | (refine SW.block ?_) | ((first | refine SW.region ?_ | refine SW.regionD (Checked.mixed Tryz.checked) (by kernel_rfl) ?_ | refine SW.cond ?_ | refine SW.skip ?_ | refine SW.exit ?_ | refine SW.ret ?_ | (refine allF_i fun b hb => ?_; replace hD := And.intro hb hD; clear hb; try simp only [fresh_cons, fresh_nil, and_true, ne_eq, neF] at hD) | simp only [appK, appOsK]); try simp only [go_sem, hD]) | (refine And.intro (by omega) ?_) | (refine ifI (fun hc => ?_) (fun hc => ?_) <;> first | (exfalso; omega) | skip) | (apply hK; clear hK K) | (clear hK K; apply hK; clear hK K) | (clear hK K; clear hK K; apply hK; clear hK K) | (clear hK K; clear hK K; clear hK K; apply hK; clear hK K) | (clear hK K; clear hK K; clear hK K; clear hK K; apply hK; clear hK K) | (clear hK K; clear hK K; clear hK K; clear hK K; clear hK K; apply hK; clear hK K)
    rw [hfm]
    refine ⟨vCs_all l, by omega, by omega, allF_i fun b' hb' => ?_⟩
    apply hK
    clear hK K
    repeat' first | (with_reducible refine And.intro (by omega) ?_) | (refine SW.seq_k fun K hK => ?_) | (refine SW.block ?_) | ((first | refine SW.region ?_ | refine SW.regionD (Checked.mixed Tryz.checked) (by kernel_rfl) ?_ | refine SW.cond ?_ | refine SW.skip ?_ | refine SW.exit ?_ | refine SW.ret ?_ | (refine allF_i fun b hb => ?_; replace hD := And.intro hb hD; clear hb; try simp only [fresh_cons, fresh_nil, and_true, ne_eq, neF] at hD) | simp only [appK, appOsK]); try simp only [go_sem, hD]) | (refine And.intro (by omega) ?_) | (refine ifI (fun hc => ?_) (fun hc => ?_) <;> first | (exfalso; omega) | skip) | (apply hK; clear hK K) | (clear hK K; apply hK; clear hK K) | (clear hK K; clear hK K; apply hK; clear hK K) | (clear hK K; clear hK K; clear hK K; apply hK; clear hK K) | (clear hK K; clear hK K; clear hK K; clear hK K; apply hK; clear hK K) | (clear hK K; clear hK K; clear hK K; clear hK K; clear hK K; apply hK; clear hK K)
    refine retQ_le (St.le_freeze (i := 2) (b := b') (off := 0) (len := l.length) (sz := 3) (k := .svs (vCs l)) rfl (by rw [find_cons, if_pos rfl]) (by rw [Blk.len_svs, ← hvl]; omega) (vF l) (fun j hj => by
      rw [getN_take _ _ _ (by rw [Blk.len_svs, ← hvl]; omega), Nat.zero_add]
      exact vCs_at l j hj)) ?_
    rw [del_head]
    simp only [resL_tmp, resL_nil, tupOf, go_sem, hD]
    all_goals first | exact ⟨rfl, rfl⟩ | rfl
theorem copied_p (r : R3) (hl : r.2.length ≤ 1000) : PCall Tryz.prog 143 [.agg (rC r)] (.agg (rC r)) := by
  have cv := clone_v r.2 hl
  obtain ⟨r1, r2⟩ := r
  show PCall Tryz.prog 143 [.agg [I64 r1, VL r2]] (.agg [I64 r1, VL r2])
  refine Call.enter' (N := 9) (rs := [.cell 2 78]) Tryz.func143 rfl rfl rfl (by decide) rfl ?_; simp only [argT]; have hD : (0 : Nat) = 0 := rfl
  repeat' first | (with_reducible refine And.intro (by omega) ?_) | (refine SW.seq_k fun K hK => ?_) | (refine SW.block ?_) | ((first | refine SW.region ?_ | refine SW.regionZ (id := 1) (Checked.mixed Tryz.checked) ((.one 0 [0, 1, 5, 6] (.one 1 [1, 5, 6] (.one 2 [2, 3, 4, 5, 6] (.one 3 [3, 4, 5, 6] (.one 4 [4, 5, 6] (.one 5 [5, 6] (.alt 6 .done .nil))))))) : OZ) (by kernel_rfl) ?_ | refine SW.regionD (Checked.mixed Tryz.checked) (by kernel_rfl) ?_ | refine SW.cond ?_ | refine SW.skip ?_ | refine SW.exit ?_ | refine SW.ret ?_ | refine Call.of_pure (cv) ?_ | refine ⟨_, cv, ?_⟩ | (refine allF_i fun b hb => ?_; replace hD := And.intro hb hD; clear hb; try simp only [fresh_cons, fresh_nil, and_true, ne_eq, neF] at hD) | simp only [appK, appOsK]); try simp only [go_sem, hD, true_implies]) | (refine And.intro (by omega) ?_) | (refine ifI (fun hc => ?_) (fun hc => ?_) <;> first | (exfalso; omega) | skip) | (apply hK; clear hK K) | (clear hK K; apply hK; clear hK K) | (clear hK K; clear hK K; apply hK; clear hK K) | (clear hK K; clear hK K; clear hK K; apply hK; clear hK K) | (clear hK K; clear hK K; clear hK K; clear hK K; apply hK; clear hK K) | (clear hK K; clear hK K; clear hK K; clear hK K; clear hK K; apply hK; clear hK K) | (refine And.intro ?_ ?_)
  all_goals
    apply ret_cell (i := 2) (n := 2); exact rfl; (simp only [go_sem, hD]; try rfl); (first | exact Nat.le_refl _ | decide); simp only [resL_tmp, resL_cellE, resC_ok, resL_nil, tupOf, getN, go_sem, hD]
end Go.Proofs.YtpidncgibgiidaaGreat
namespace Go.Ab.A15
open Go Go.Ab Go.Ab.A34
theorem takeR_succ {l : List R3} {i : Nat} (h : i < l.length) : l.take (i + 1) = l.take i ++ [l.getD i r0] := by
  rw [List.take_succ_eq_append_getElem h, show l.getD i r0 = l[i] by simp [List.getD_eq_getElem?_getD, h]]
theorem takeR_len {l : List R3} {i : Nat} (h : i ≤ l.length) : (l.take i).length = i := by
  rw [List.length_take]; omega
def WB (tb rb : Nat) (tn : ByteArray) (ta : List ByteArray) (L : List R3) (h : Heap) : Prop :=
  (L = [] ∧ h = [(tb, .svs [Str tn, SL ta, SN]), (rb, .svs [Str ⟨#[]⟩, SN, SN])]) ∨
  (0 < L.length ∧ ∃ g, ¬ g = tb ∧ ¬ tb = g ∧ ¬ g = rb ∧ ¬ rb = g ∧ h = [(g, .svs (fC rC L)), (tb, .svs [Str tn, SL ta, .os g 0 L.length 2]), (rb, .svs [Str ⟨#[]⟩, SN, SN])])
theorem wB_le [Gl] {t : List (Nat × SV)} {tb rb : Nat} {tn : ByteArray} {ta : List ByteArray} {L : List R3} {h : Heap} (hB : WB tb rb tn ta L h) : (St.mk t h).le ⟨t, [(tb, .svs [Str tn, SL ta, RL L]), (rb, .svs [Str ⟨#[]⟩, SN, SN])]⟩ := by
  rcases hB with ⟨rfl, rfl⟩ | ⟨h0, g, u1, u2, u3, u4, rfl⟩
  · have := St.le_nilC (t := t) (h := [(tb, .svs [Str tn, SL ta, SN]), (rb, .svs [Str ⟨#[]⟩, SN, SN])]) (c := tb) (j := 2) (sz := 2) (f := rF []) (by rw [find_cons, if_pos rfl]) (by show 2 < 3; omega) rfl
    rw [upd_cons, if_pos rfl] at this
    exact this
  · have := St.le_accC (t := t) (sz := 2) (n := L.length) (c := tb) (j := 2) (Acc.osH (b := g) (cs := fC rC L) (h0 := [(tb, .svs [Str tn, SL ta, .os g 0 L.length 2]), (rb, .svs [Str ⟨#[]⟩, SN, SN])]) (by simp [fresh_cons, fresh_nil, u1, u2, u3, u4]) (by rw [← fC_len (k := 2) (fun _ => rfl)])) (by rw [find_cons, if_pos rfl]) (by show 2 < 3; omega) rfl (rF L) (fun j hj => fC_at (enc := rC) (k := 2) (fun _ => rfl) r0 L j hj)
    rw [upd_cons, if_pos rfl] at this
    exact this
end Go.Ab.A15
def Go.Ab.zUB_1 : Go.Ab.OZ := (.one 0 [0, 1, 5, 6, 7] (.one 1 [1, 5, 6, 7] (.one 2 [2, 3, 4, 5, 6, 7] (.one 3 [3, 4, 5, 6, 7] (.alt 4 (.alt 5 (.one 6 [6, 7] (.alt 7 .done .nil)) .nil) .nil)))))
namespace Go.Proofs.YtpidncgibgiidaaGreat
open Go Go.Ab Go.Ab.A34 Go.Ab.A15
variable [Gl] [Tabs]
theorem with_p (t : Tb) (R : List R3) (ha : t.attrs.length ≤ 1000) (hr : R.length ≤ 1000) (hv : ∀ r ∈ R, r.2.length ≤ 1000) : PCall Tryz.prog 113 [TB t, RL R] (TB ⟨t.name, t.attrs, R⟩) := by
  have cl := clone_s t.attrs ha
  have cp := fun (r : R3) (h : r ∈ R) => copied_p r (hv r h)
  obtain ⟨tn, ta, tr⟩ := t
  simp only at ha cl ⊢
  refine Call.enter' (N := 29) (rs := [.cell 4 72]) Tryz.func113 rfl rfl rfl (by decide) rfl ?_; simp only [argT]; have hD : (0 : Nat) = 0 := rfl
  repeat' first | (refine SW.seq_k fun K hK => ?_) | ((first | refine SW.region ?_ | (refine allF_i fun b hb => ?_; replace hD := And.intro hb hD; clear hb; try simp only [fresh_cons, fresh_nil, and_true, ne_eq, neF] at hD)); try simp only [go_sem, hD, true_implies]) | (apply hK; clear hK K)
  obtain ⟨rb, rfl⟩ : ∃ x, x = b := ⟨_, rfl⟩
  obtain ⟨b2, rfl⟩ : ∃ x, x = b := ⟨_, rfl⟩
  refine Ab.SW.le (S' := ⟨[(1, RL R), (2, .fp [Str tn, SL ta, RL tr]), (4, .op rb 0)], [(rb, .svs [Str ⟨#[]⟩, SN, SN])]⟩) ?_ ?_
  · refine St.le.trans (St.le_freezeP (i := 2) (b := b2) (off := 0) (n := 3) (k := .svs [Str tn, SL ta, RL tr]) rfl (by simp [find_cons, hD]) (by exact Nat.le_refl 3)) ?_
    simp only [getN, Blk.get, go_sem, hD]
    exact St.le_sub (by repeat' (first | exact rfl | exact trivial | constructor))
  clear hD
  have hD : (0 : Nat) = 0 := rfl
  have key : ∃ C Q', (∀ S, Ab.SW Tryz.prog 29 C Q' S → K S) ∧ ∀ tb, ¬ tb = rb → ¬ rb = tb → Ab.SW Tryz.prog 29 C Q' ⟨[(1, RL R), (4, .op rb 0), (5, .op tb 0)], [(tb, .svs [Str tn, SL ta, SN]), (rb, .svs [Str ⟨#[]⟩, SN, SN])]⟩ := by
    refine ⟨_, _, hK, fun tb t1 t2 => ?_⟩
    clear hK K hD cl
    have hT := And.intro (eq_false t1) (eq_false t2)
    have hD := hT
    repeat' first | (refine SW.seq_k fun K hK => ?_) | (refine SW.region ?_; try simp only [go_sem, hD, true_implies]) | (apply hK; clear hK K)
    refine SW.block ?_
    clear hD
    obtain ⟨I, hI⟩ : ∃ I : Nat → St → Prop, ∀ k S, I k S ↔ (∃ (i : Nat) (h : Heap), k = R.length - i ∧ i ≤ R.length ∧ WB tb rb tn ta (R.take i) h ∧ S = ⟨[(4, .op rb 0), (5, .op tb 0), (14, RL R), (15, I64 R.length), (16, I64 i)], h⟩) := ⟨fun k S => _, fun _ _ => Iff.rfl⟩
    refine SW.loop' I (R.length) ((hI _ _).2 ⟨0, _, rfl, Nat.zero_le _, .inl ⟨rfl, rfl⟩, rfl⟩) (by repeat' (first | exact rfl | exact trivial | constructor)) ?_
    intro k S hIn
    obtain ⟨i, h, rfl, hi, hB, rfl⟩ := (hI _ _).1 hIn
    clear hIn
    have ie : ((i : Nat) : Int).toNat = i := Int.toNat_natCast _
    have i0 : (0 : Int) ≤ ((i : Nat) : Int) := by omega
    by_cases hlt : i < R.length
    · have hli : ((i : Nat) : Int) < (((R.length) : Nat) : Int) := by omega
      have w1 : IntKind.i64.wrap ((i : Int) + 1) = ((i + 1 : Nat) : Int) := by rw [i64_wrap (by omega) (by omega)]; omega
      have fi : rF R i = rC (R.getD i r0) := rfl
      have cc := cp _ (getD_mem r0 hlt)
      have hsn := takeR_succ hlt
      have hsl := takeR_len (l := R) hi
      have hBB : ∀ h, WB tb rb tn ta (R.take i ++ [R.getD i r0]) h → WB tb rb tn ta (R.take (i + 1)) h := fun h x => by rw [hsn]; exact x
      clear hsn
      generalize R.getD i r0 = r at *
      generalize R.take i = L at *
      obtain ⟨r1, r2⟩ := r
      have fr : rC (r1, r2) = [I64 r1, VL r2] := rfl
      have ba : (L.length + 1) * 32 ≤ 140737488355328 := by omega
      have hfc : (fC rC L).length = L.length * 2 := by rw [← fC_len (k := 2) (fun _ => rfl)]
      rcases hB with ⟨hL0, rfl⟩ | ⟨hi0, g, u1, u2, u3, u4, rfl⟩
      · have hD := hT
        subst hL0
        repeat' first | (with_reducible refine And.intro (by omega) ?_) | (refine SW.seq_k fun K hK => ?_) | (refine SW.block ?_) | ((first | refine SW.region ?_ | refine SW.regionZ (id := 5) (Checked.mixed Tryz.checked) Go.Ab.zUB_1 (by kernel_rfl) ?_ | refine SW.cond ?_ | refine SW.skip ?_ | refine ⟨_, cc, ?_⟩ | (refine allF_i fun b hb => ?_; replace hD := And.intro hb hD; clear hb; try simp only [fresh_cons, fresh_nil, and_true, ne_eq, neF] at hD) | simp only [appK, appOsK]); try simp only [Go.Ab.zUB_1, go_sem, hD, hli, ie, i0, w1, fi, fr, ba, true_implies]) | (refine And.intro (by omega) ?_) | (apply hK; clear hK K)
        all_goals
          refine Rnd.le (St.le_pick [(b, .svs [I64 r1, VL r2]), (tb, .svs [Str tn, SL ta, .os b 0 1 2]), (rb, .svs [Str ⟨#[]⟩, SN, SN])] ?_ ?_) ?_
          · repeat' (first | exact (fun x hx => (List.not_mem_nil hx).elim) | refine List.forall_mem_cons.2 ⟨?_, ?_⟩ | exact List.mem_cons_self | apply List.mem_cons_of_mem)
          · simp [fresh_cons, fresh_nil, hD]
          refine Rnd.sub (R.length - (i + 1)) (by omega) ((hI _ _).2 ⟨i + 1, _, rfl, by omega, hBB _ (.inr ⟨Nat.succ_pos _, b, by simp [hD], by simp [hD], by simp [hD], by simp [hD], rfl⟩), rfl⟩) (by repeat' (first | exact rfl | exact trivial | constructor))
      · have hD := And.intro (And.intro (eq_false u1) (eq_false u2)) (And.intro (And.intro (eq_false u3) (eq_false u4)) hT)
        repeat' first | (with_reducible refine And.intro (by omega) ?_) | (refine SW.seq_k fun K hK => ?_) | (refine SW.block ?_) | ((first | refine SW.region ?_ | refine SW.regionZ (id := 5) (Checked.mixed Tryz.checked) Go.Ab.zUB_1 (by kernel_rfl) ?_ | refine SW.cond ?_ | refine SW.skip ?_ | refine ⟨_, cc, ?_⟩ | (refine allF_i fun b hb => ?_; replace hD := And.intro hb hD; clear hb; try simp only [fresh_cons, fresh_nil, and_true, ne_eq, neF] at hD) | simp only [appK, appOsK]); try simp only [Go.Ab.zUB_1, go_sem, hD, hli, ie, i0, w1, fi, fr, ba, hfc, true_implies]) | (apply hK; clear hK K)
        all_goals
          refine Rnd.le (St.le_pick [(b, .svs (fC rC L ++ [I64 r1, VL r2])), (tb, .svs [Str tn, SL ta, .os b 0 (L.length + 1) 2]), (rb, .svs [Str ⟨#[]⟩, SN, SN])] ?_ ?_) ?_
          · repeat' (first | exact (fun x hx => (List.not_mem_nil hx).elim) | refine List.forall_mem_cons.2 ⟨?_, ?_⟩ | exact List.mem_cons_self | apply List.mem_cons_of_mem)
          · simp [fresh_cons, fresh_nil, hD]
          refine Rnd.sub (R.length - (i + 1)) (by omega) ((hI _ _).2 ⟨i + 1, _, rfl, by omega, hBB _ (.inr ⟨by simp, b, by simp [hD], by simp [hD], by simp [hD], by simp [hD], by rw [List.length_append, ← fC_snoc]; rfl⟩), rfl⟩) (by repeat' (first | exact rfl | exact trivial | constructor))
    · have hli : ¬ ((i : Nat) : Int) < (((R.length) : Nat) : Int) := by omega
      obtain rfl : i = R.length := by omega
      rw [List.take_length] at hB
      have hD := hT
      refine Ab.SW.le (wB_le hB) ?_
      repeat' first | (refine SW.seq_k fun K hK => ?_) | ((first | refine SW.region ?_ | refine SW.cond ?_ | refine SW.exit ?_ | refine SW.ret ?_); try simp only [go_sem, hD, hli, true_implies]) | (apply hK; clear hK K) | (clear hK K; apply hK; clear hK K)
      apply ret_cell (i := 4) (n := 3); exact rfl; (simp only [go_sem, hD]; try rfl); (first | exact Nat.le_refl _ | decide); simp only [resL_tmp, resL_cellE, resC_ok, resL_nil, tupOf, getN, go_sem, hD]
  obtain ⟨C, Q', hK2, key⟩ := key
  clear hK
  repeat' ((first | refine SW.regionZ (id := 1) (Checked.mixed Tryz.checked) ((.one 0 [0, 1, 5, 7] (.one 1 [1, 5, 7] (.one 2 [2, 3, 4, 5, 7] (.one 3 [3, 4, 5, 7] (.one 4 [4, 5, 7] (.one 5 [5, 7] (.alt 6 (.alt 7 .done .nil) .nil))))))) : OZ) (by kernel_rfl) ?_ | refine ⟨_, cl, ?_⟩ | (refine allF_i fun b hb => ?_; replace hD := And.intro hb hD; clear hb; try simp only [fresh_cons, fresh_nil, and_true, ne_eq, neF] at hD)); try simp only [go_sem, hD, true_implies])
  all_goals
    obtain ⟨x1, rfl⟩ : ∃ x, x = b := ⟨_, rfl⟩
    refine hK2 _ (Ab.SW.le (St.le_sub ?_) (key x1 (by simp [hD]) (by simp [hD])))
    repeat' (first | exact rfl | exact trivial | constructor)
end Go.Proofs.YtpidncgibgiidaaGreat
namespace Go.Ab.A15
open Go Go.Ab Go.Ab.A34
def kpB (ids : List Int) (r : R3) : Bool := decide (0 ≤ atI r.1 0 ids)
def keepS (R : List R3) (ids : List Int) : List R3 := R.filter (kpB ids)
def kpI (ids : List Int) (R : List R3) (i : Nat) : List R3 := (R.take i).filter (kpB ids)
theorem kpI_step {ids : List Int} {R : List R3} {i : Nat} (h : i < R.length) : kpI ids R (i + 1) = kpI ids R i ++ if kpB ids (R.getD i r0) = true then [R.getD i r0] else [] := by
  have g : R.getD i r0 = R[i] := by simp [List.getD_eq_getElem?_getD, h]
  unfold kpI
  rw [List.take_succ_eq_append_getElem h, List.filter_append, g]
  congr 1
  cases hb : kpB ids R[i] <;> simp [hb]
theorem kpI_len (ids : List Int) (R : List R3) (i : Nat) : (kpI ids R i).length ≤ i := by
  unfold kpI
  refine Nat.le_trans (List.length_filter_le _ _) ?_
  rw [List.length_take]
  omega
end Go.Ab.A15
namespace Go.Proofs.YtpidncgibgiidaaGreat
open Go Go.Ab Go.Ab.A34 Go.Ab.A15
variable [Gl] [Tabs]
theorem index_64 (x : Int) (l : List Int) (n : Nat) (hl : n ≤ 9223372036854775807) (hn : l.length = n) (f : Nat → List SV) (hf : ∀ i, i < n → f i = [I64 (l.getD i 0)]) : PCall Tryz.prog 141 [.fl n 1 f, I64 x] (I64 (atI x 0 l)) := by
  subst hn
  obtain ⟨R, hR⟩ : ∃ R, R = atI x 0 l := ⟨_, rfl⟩
  rw [← hR]
  refine Call.enter' (N := 19) (rs := [.tmp 4]) Tryz.func141 rfl rfl rfl (by decide) rfl ?_; simp only [argT]; have hD : (0 : Nat) = 0 := rfl
  repeat' first | (refine SW.seq_k fun K hK => ?_) | (refine SW.block ?_) | (refine SW.region ?_; try simp only [go_sem, hD]) | (apply hK; clear hK K)
  obtain ⟨I, hI⟩ : ∃ I : Nat → St → Prop, ∀ k S, I k S ↔ (∃ (i : Nat) , k = l.length - i ∧ i ≤ l.length ∧ R = atI x i (l.drop i) ∧ S = ⟨[(0, .fl l.length 1 f), (1, I64 x), (7, I64 l.length), (8, I64 i)], []⟩) := ⟨fun k S => _, fun _ _ => Iff.rfl⟩
  refine SW.loop' I (l.length) ((hI _ _).2 ⟨0, rfl, Nat.zero_le _, by rw [List.drop_zero]; exact hR, rfl⟩) (by repeat' (first | exact rfl | exact trivial | constructor)) ?_
  intro k S hIn
  obtain ⟨i, rfl, hi, hC, rfl⟩ := (hI _ _).1 hIn
  clear hIn
  have ie : ((i : Nat) : Int).toNat = i := Int.toNat_natCast _
  have i0 : (0 : Int) ≤ ((i : Nat) : Int) := by omega
  clear hR
  by_cases hlt : i < l.length
  · have hli : ((i : Nat) : Int) < (((l.length) : Nat) : Int) := by omega
    have w1 : IntKind.i64.wrap ((i : Int) + 1) = ((i + 1 : Nat) : Int) := by rw [i64_wrap (by omega) (by omega)]; omega
    rw [atI_step hlt] at hC
    have fi := hf i hlt
    generalize l.getD i 0 = t at *
    by_cases he : t = x
    · rw [if_pos he] at hC
      subst hC
      repeat' first | (refine SW.seq_k fun K hK => ?_) | (refine SW.block ?_) | ((first | refine SW.region ?_ | refine SW.cond ?_ | refine SW.skip ?_ | refine SW.ret ?_); try simp only [go_sem, hD, hli, ie, i0, w1, fi, he]) | (apply hK; clear hK K)
      refine ret_pure ?_; simp only [resL_tmp, resL_nil, tupOf, go_sem, hD]
    · rw [if_neg he] at hC
      have he2 : ¬ x = t := fun e => he e.symm
      repeat' first | (refine SW.seq_k fun K hK => ?_) | (refine SW.block ?_) | ((first | refine SW.region ?_ | refine SW.cond ?_ | refine SW.skip ?_); try simp only [go_sem, hD, hli, ie, i0, w1, fi, he, he2]) | (apply hK; clear hK K)
      refine Rnd.sub (l.length - (i + 1)) (by omega) ((hI _ _).2 ⟨i + 1, rfl, by omega, hC, rfl⟩) (by repeat' (first | exact rfl | exact trivial | constructor))
  · have hli : ¬ ((i : Nat) : Int) < (((l.length) : Nat) : Int) := by omega
    rw [List.drop_of_length_le (by omega)] at hC
    have hC2 : R = -1 := hC
    subst hC2
    repeat' first | (refine SW.seq_k fun K hK => ?_) | ((first | refine SW.region ?_ | refine SW.cond ?_ | refine SW.exit ?_ | refine SW.ret ?_); try simp only [go_sem, hD, hli]) | (apply hK; clear hK K) | (clear hK K; apply hK; clear hK K)
    refine ret_pure ?_; simp only [resL_tmp, resL_nil, tupOf, go_sem, hD]
theorem contains_64 (x : Int) (l : List Int) (n : Nat) (hl : n ≤ 9223372036854775807) (hn : l.length = n) (f : Nat → List SV) (hf : ∀ i, i < n → f i = [I64 (l.getD i 0)]) : PCall Tryz.prog 112 [.fl n 1 f, I64 x] (SB (decide (0 ≤ atI x 0 l))) := by
  have ix := index_64 x l n hl hn f hf
  generalize atI x 0 l = R at *
  refine Call.enter' (N := 9) (rs := [.tmp 4]) Tryz.func112 rfl rfl rfl (by decide) rfl ?_; simp only [argT]; have hD : (0 : Nat) = 0 := rfl
  repeat' first | (refine SW.seq_k fun K hK => ?_) | ((first | refine SW.region ?_ | refine SW.ret ?_ | refine Call.of_pure (ix) ?_); try simp only [go_sem, hD]) | (apply hK; clear hK K)
  refine ret_pure ?_; simp only [resL_tmp, resL_nil, tupOf, go_sem, hD]
theorem keep_p (t : Tb) (ids : List Int) (hi : ids.length ≤ 1000000) (ha : t.attrs.length ≤ 1000) (hr : t.rows.length ≤ 1000) (hv : ∀ r ∈ t.rows, r.2.length ≤ 1000) : PCall Tryz.prog 71 [TB t, IL ids] (TB ⟨t.name, t.attrs, keepS t.rows ids⟩) := by
  have cc := fun (x : Int) => contains_64 x ids ids.length (by omega) rfl (iF ids) (fun i hi => rfl)
  have hkl : (keepS t.rows ids).length ≤ 1000 := Nat.le_trans (List.length_filter_le _ _) hr
  have cw := with_p t (keepS t.rows ids) ha hkl (fun r h => hv r (List.mem_filter.1 h).1)
  obtain ⟨tn, ta, tr⟩ := t
  simp only at ha hr hv cw hkl ⊢
  refine Call.enter' (N := 27) (rs := [.cell 4 72]) Tryz.func71 rfl rfl rfl (by decide) rfl ?_; simp only [argT]; have hD : (0 : Nat) = 0 := rfl
  repeat' first | (refine SW.seq_k fun K hK => ?_) | ((first | refine SW.region ?_ | (refine allF_i fun b hb => ?_; replace hD := And.intro hb hD; clear hb; try simp only [fresh_cons, fresh_nil, and_true, ne_eq, neF] at hD)); try simp only [go_sem, hD, true_implies]) | (apply hK; clear hK K)
  obtain ⟨rb, rfl⟩ : ∃ x, x = b := ⟨_, rfl⟩
  obtain ⟨b2, rfl⟩ : ∃ x, x = b := ⟨_, rfl⟩
  refine Ab.SW.le (S' := ⟨[(1, IL ids), (2, .fp [Str tn, SL ta, RL tr]), (4, .op rb 0), (5, SN), (9, RL tr), (10, I64 tr.length), (11, I64 (0 : Nat))], [(rb, .svs [Str ⟨#[]⟩, SN, SN])]⟩) ?_ ?_
  · refine St.le.trans (St.le_freezeP (i := 2) (b := b2) (off := 0) (n := 3) (k := .svs [Str tn, SL ta, RL tr]) rfl (by simp [find_cons, hD]) (by exact Nat.le_refl 3)) ?_
    simp only [getN, Blk.get, go_sem, hD]
    exact St.le_sub (by repeat' (first | exact rfl | exact trivial | constructor))
  clear hD
  have hD : (0 : Nat) = 0 := rfl
  refine SW.block ?_
  obtain ⟨I, hI⟩ : ∃ I : Nat → St → Prop, ∀ k S, I k S ↔ (∃ (i : Nat) (x : SV) (hp : Heap), k = tr.length - i ∧ i ≤ tr.length ∧ Acc 2 x hp [(rb, .svs [Str ⟨#[]⟩, SN, SN])] (kpI ids tr i).length (fC rC (kpI ids tr i)) ∧ S = ⟨[(1, IL ids), (2, .fp [Str tn, SL ta, RL tr]), (4, .op rb 0), (5, x), (9, RL tr), (10, I64 tr.length), (11, I64 i)], hp⟩) := ⟨fun k S => _, fun _ _ => Iff.rfl⟩
  refine SW.loop' I (tr.length) ((hI _ _).2 ⟨0, SN, [(rb, .svs [Str ⟨#[]⟩, SN, SN])], rfl, Nat.zero_le _, .nil 2 _, rfl⟩) (by repeat' (first | exact rfl | exact trivial | constructor)) ?_
  intro k S hIn
  obtain ⟨i, x, hp, rfl, hi, hA, rfl⟩ := (hI _ _).1 hIn
  clear hIn
  have ie : ((i : Nat) : Int).toNat = i := Int.toNat_natCast _
  have i0 : (0 : Int) ≤ ((i : Nat) : Int) := by omega
  by_cases hlt : i < tr.length
  · have hli : ((i : Nat) : Int) < (((tr.length) : Nat) : Int) := by omega
    have w1 : IntKind.i64.wrap ((i : Int) + 1) = ((i + 1 : Nat) : Int) := by rw [i64_wrap (by omega) (by omega)]; omega
    have fi : rF tr i = rC (tr.getD i r0) := rfl
    have hst := kpI_step (ids := ids) hlt
    have hml := kpI_len ids tr i
    have hcn := cc (tr.getD i r0).1
    have hsn := fC_snoc (enc := rC) (kpI ids tr i) (tr.getD i r0)
    change PCall Tryz.prog 112 [IL ids, I64 (tr.getD i r0).1] (SB (kpB ids (tr.getD i r0))) at hcn
    clear cc
    generalize kpB ids (tr.getD i r0) = z at *
    generalize tr.getD i r0 = r at *
    generalize kpI ids tr i = M at *
    generalize hM2 : kpI ids tr (i + 1) = M2 at *
    obtain ⟨r1, r2⟩ := r
    have fr : rC (r1, r2) = [I64 r1, VL r2] := rfl
    rw [fr] at hsn
    have hm1 : (M.length + 1) * 32 ≤ 140737488355328 := by omega
    have hm2 : M.length + 1 ≤ 140737488355328 := by omega
    cases z with
    | false =>
      rw [if_neg (by simp), List.append_nil] at hst
      subst hst
      repeat' first | ((refine Ab.SW.le (St.le_freezeP (i := 7) (n := 2) rfl (by rw [find_cons, if_pos rfl]) (by exact Nat.le_refl 2)) ?_); (rw [del_head]); (simp only [getN, Blk.get])) | (refine SW.seq_k fun K hK => ?_) | (refine SW.block ?_) | ((first | refine SW.region ?_ | refine SW.cond ?_ | refine SW.skip ?_ | refine Call.of_pure (hcn) ?_ | (refine allF_i fun b hb => ?_; replace hD := And.intro hb hD; clear hb; try simp only [fresh_cons, fresh_nil, and_true, ne_eq, neF] at hD)); try simp only [go_sem, hD, hli, ie, i0, w1, fi, fr, true_implies]) | (apply hK; clear hK K)
      refine Rnd.sub (tr.length - (i + 1)) (by omega) ((hI _ _).2 ⟨i + 1, x, hp, rfl, by omega, by rw [hM2]; exact hA, rfl⟩) (by repeat' (first | exact rfl | exact trivial | constructor))
    | true =>
      rw [if_pos rfl] at hst
      repeat' first | ((refine Ab.SW.le (St.le_freezeP (i := 7) (n := 2) rfl (by rw [find_cons, if_pos rfl]) (by exact Nat.le_refl 2)) ?_); (rw [del_head]); (simp only [getN, Blk.get])) | ((with_reducible refine appK_acc hA ?_ ?_ ?_ ?_ ?_ ?_ hm1 hm2 ?_); (simp [hD]); (rfl); (rfl); (rfl); (exact Nat.succ_pos _); (rfl); (intro x3 b3 blk3 f1 f2 f3 f4 f5 f6 h3 hh3); (obtain ⟨h4, hA4, hle4⟩ := Acc.after f1 f4 f5 f6 hh3); (clear f1 f2 f3 f4 f5 f6 hh3); (try simp only [go_sem, hD])) | (refine SW.seq_k fun K hK => ?_) | (refine SW.block ?_) | ((first | refine SW.region ?_ | refine SW.cond ?_ | refine SW.skip ?_ | refine Call.of_pure (hcn) ?_ | (refine allF_i fun b hb => ?_; replace hD := And.intro hb hD; clear hb; try simp only [fresh_cons, fresh_nil, and_true, ne_eq, neF] at hD)); try simp only [go_sem, hD, hli, ie, i0, w1, fi, fr, true_implies]) | (apply hK; clear hK K)
      refine Rnd.le (hle4 _) ?_
      refine Rnd.sub (tr.length - (i + 1)) (by omega) ((hI _ _).2 ⟨i + 1, x3, h4, rfl, by omega, by rw [hM2, hst, List.length_append, ← hsn]; exact hA4, rfl⟩) (by repeat' (first | exact rfl | exact trivial | constructor))
  · have hli : ¬ ((i : Nat) : Int) < (((tr.length) : Nat) : Int) := by omega
    obtain rfl : i = tr.length := by omega
    have hmm : kpI ids tr tr.length = keepS tr ids := by unfold kpI keepS; rw [List.take_length]
    rw [hmm] at hA
    generalize keepS tr ids = M at *
    refine Ab.SW.le ((St.le_acc_fl (i := 5) rfl hA (rF M) (fun j hj => fC_at (enc := rC) (k := 2) (fun _ => rfl) r0 M j hj)).trans (St.le_sub (l := [(2, .fp [Str tn, SL ta, RL tr]), (4, .op rb 0), (5, RL M), (10, I64 tr.length), (11, I64 tr.length)]) (by repeat' (first | exact rfl | exact trivial | constructor)))) ?_
    clear hA
    repeat' first | (refine SW.seq_k fun K hK => ?_) | ((first | refine SW.region ?_ | refine SW.cond ?_ | refine SW.exit ?_ | refine SW.ret ?_ | refine Call.of_pure (cw) ?_); try simp only [go_sem, hD, hli, true_implies]) | (apply hK; clear hK K) | (clear hK K; apply hK; clear hK K)
    apply ret_cell (i := 4) (n := 3); exact rfl; (simp only [go_sem, hD]; try rfl); (first | exact Nat.le_refl _ | decide); simp only [resL_tmp, resL_cellE, resC_ok, resL_nil, tupOf, getN, go_sem, hD]
end Go.Proofs.YtpidncgibgiidaaGreat
namespace Go.Ab
open Go
def cmpV (k n : Int) (s : ByteArray) (k' n' : Int) (s' : ByteArray) : Int :=
  if sgn k k' = 0 then (if sgn n n' = 0 then Lib.compareBytes s.data.toList s'.data.toList else sgn n n') else sgn k k'
theorem cb_step {a b : List UInt8} {i : Nat} (ha : i < a.length) (hb : i < b.length) :
    Lib.compareBytes (a.drop i) (b.drop i) = if a.getD i 0 = b.getD i 0 then Lib.compareBytes (a.drop (i + 1)) (b.drop (i + 1)) else sgn (a.getD i 0).toNat (b.getD i 0).toNat := by
  have g1 : a.getD i 0 = a[i] := by simp [List.getD_eq_getElem?_getD, ha]
  have g2 : b.getD i 0 = b[i] := by simp [List.getD_eq_getElem?_getD, hb]
  rw [List.drop_eq_getElem_cons ha, List.drop_eq_getElem_cons hb, g1, g2, Lib.compareBytes]
  generalize a[i] = x
  generalize b[i] = y
  by_cases h : x = y
  · subst h
    rw [if_pos rfl, if_neg (by simp), if_neg (by simp)]
  · rw [if_neg h]
    unfold sgn
    have hne : x.toNat ≠ y.toNat := fun e => h (UInt8.toNat_inj.1 e)
    by_cases h1 : x < y
    · have : x.toNat < y.toNat := h1
      rw [if_pos h1, if_pos (by omega)]
    · have h1' : ¬ x.toNat < y.toNat := h1
      have h2 : y < x := by show y.toNat < x.toNat; omega
      rw [if_neg h1, if_pos h2, if_neg (by omega), if_pos (by omega)]
theorem cb_end {a b : List UInt8} {i : Nat} (ha : i ≤ a.length) (hb : i ≤ b.length) (h : ¬ (i < a.length ∧ i < b.length)) : Lib.compareBytes (a.drop i) (b.drop i) = sgn a.length b.length := by
  unfold sgn
  by_cases h1 : i < a.length
  · rw [List.drop_eq_getElem_cons h1, List.drop_of_length_le (l := b) (by omega), Lib.compareBytes, if_neg (by omega), if_pos (by omega)]
  · rw [List.drop_of_length_le (l := a) (by omega)]
    by_cases h2 : i < b.length
    · rw [List.drop_eq_getElem_cons h2, Lib.compareBytes, if_pos (by omega)]
    · rw [List.drop_of_length_le (l := b) (by omega), Lib.compareBytes, if_neg (by omega), if_neg (by omega)]
end Go.Ab
namespace Go.Proofs.YtpidncgibgiidaaGreat
open Go Go.Ab
variable [Gl] [Tabs]
theorem strings_r (a b : ByteArray) (ha : a.size ≤ 9223372036854775807) (hb : b.size ≤ 9223372036854775807) : PCall Tryz.prog 159 [Str a, Str b] (I64 (Lib.compareBytes a.data.toList b.data.toList)) := by
  have la : a.data.toList.length = a.size := Array.length_toList
  have lb : b.data.toList.length = b.size := Array.length_toList
  obtain ⟨R, hR⟩ : ∃ R, R = Lib.compareBytes a.data.toList b.data.toList := ⟨_, rfl⟩
  rw [← hR]
  refine Call.enter' (N := 39) (rs := [.tmp 4]) Tryz.func159 rfl rfl rfl (by decide) rfl ?_; simp only [argT]; have hD : (0 : Nat) = 0 := rfl
  repeat' first | (refine SW.seq_k fun K hK => ?_) | (refine SW.region ?_; try simp only [go_sem, hD]) | (apply hK; clear hK K)
  refine SW.block ?_
  obtain ⟨I, hI⟩ : ∃ I : Nat → St → Prop, ∀ k S, I k S ↔ (∃ i : Nat, k = a.size - i ∧ i ≤ a.size ∧ i ≤ b.size ∧ R = Lib.compareBytes (a.data.toList.drop i) (b.data.toList.drop i) ∧ S = ⟨[(0, Str a), (1, Str b), (5, I64 i)], []⟩) := ⟨fun k S => _, fun _ _ => Iff.rfl⟩
  refine SW.loop' I a.size ((hI _ _).2 ⟨0, rfl, Nat.zero_le _, Nat.zero_le _, hR, rfl⟩) (by repeat' (first | exact rfl | exact trivial | constructor)) ?_
  intro k S hIn
  obtain ⟨i, rfl, hi, hi2, hC, rfl⟩ := (hI _ _).1 hIn
  clear hIn hR
  have ie : ((i : Nat) : Int).toNat = i := Int.toNat_natCast _
  have i0 : (0 : Int) ≤ ((i : Nat) : Int) := by omega
  by_cases h1 : i < a.size
  · have h1i : ((i : Nat) : Int) < ((a.size : Nat) : Int) := by omega
    by_cases h2 : i < b.size
    · have h2i : ((i : Nat) : Int) < ((b.size : Nat) : Int) := by omega
      rw [cb_step (by omega) (by omega)] at hC
      have w1 : IntKind.i64.wrap ((i : Int) + 1) = ((i + 1 : Nat) : Int) := by rw [i64_wrap (by omega) (by omega)]; omega
      by_cases he : a.data.toList.getD i 0 = b.data.toList.getD i 0
      · rw [if_pos he] at hC
        have hei : decide (((a.data.toList.getD i 0).toNat : Int) = ((b.data.toList.getD i 0).toNat : Int)) = true := decide_eq_true (by rw [he])
        repeat' first | (refine SW.seq_k fun K hK => ?_) | (refine SW.block ?_) | ((first | refine SW.region ?_ | refine SW.regionZ (id := 4) (Checked.mixed Tryz.checked) ((.one 0 [0, 2, 6] (.one 1 [1, 2, 6] (.one 2 [2, 6] (.one 3 [3, 5, 6] (.one 4 [4, 5, 6] (.one 5 [5, 6] (.one 6 [6] .done))))))) : OZ) (by kernel_rfl) ?_ | refine SW.cond ?_ | refine SW.skip ?_); try simp only [go_sem, hD, h1i, h2i, ie, i0, w1, hei]) | (apply hK; clear hK K)
        refine Rnd.sub (a.size - (i + 1)) (by omega) ((hI _ _).2 ⟨i + 1, rfl, by omega, by omega, hC, rfl⟩) (by repeat' (first | exact rfl | exact trivial | constructor))
      · rw [if_neg he] at hC
        have hei : decide (((a.data.toList.getD i 0).toNat : Int) = ((b.data.toList.getD i 0).toNat : Int)) = false := decide_eq_false (fun h => he (UInt8.toNat_inj.1 (by omega)))
        have b1 := (a.data.toList.getD i 0).toNat_lt
        have b2 := (b.data.toList.getD i 0).toNat_lt
        have w2 : IntKind.i64.wrap ((a.data.toList.getD i 0).toNat : Int) = ((a.data.toList.getD i 0).toNat : Int) := i64_wrap (by omega) (by omega)
        have w3 : IntKind.i64.wrap ((b.data.toList.getD i 0).toNat : Int) = ((b.data.toList.getD i 0).toNat : Int) := i64_wrap (by omega) (by omega)
        have sg := sign_r ((a.data.toList.getD i 0).toNat : Int) ((b.data.toList.getD i 0).toNat : Int)
        rw [← hC] at sg
        repeat' first | (refine SW.seq_k fun K hK => ?_) | (refine SW.block ?_) | ((first | refine SW.region ?_ | refine SW.regionZ (id := 4) (Checked.mixed Tryz.checked) ((.one 0 [0, 2, 6] (.one 1 [1, 2, 6] (.one 2 [2, 6] (.one 3 [3, 5, 6] (.one 4 [4, 5, 6] (.one 5 [5, 6] (.one 6 [6] .done))))))) : OZ) (by kernel_rfl) ?_ | refine SW.regionZ (id := 5) (Checked.mixed Tryz.checked) ((.one 0 [0, 2, 3, 8, 9] (.one 1 [1, 2, 3, 8, 9] (.one 2 [2, 3, 8, 9] (.one 3 [3, 8, 9] (.one 4 [4, 6, 7, 8, 9] (.one 5 [5, 6, 7, 8, 9] (.one 6 [6, 7, 8, 9] (.one 7 [7, 8, 9] (.one 8 [8, 9] (.one 9 [9] .done)))))))))) : OZ) (by kernel_rfl) ?_ | refine SW.cond ?_ | refine SW.skip ?_ | refine SW.ret ?_ | refine ⟨_, sg, ?_⟩); try simp only [go_sem, hD, h1i, h2i, ie, i0, w2, w3, hei]) | (apply hK; clear hK K)
        refine ret_pure ?_; simp only [resL_tmp, resL_nil, tupOf, go_sem, hD]
    · have h2i : ¬ ((i : Nat) : Int) < ((b.size : Nat) : Int) := by omega
      rw [cb_end (by omega) (by omega) (by omega), la, lb] at hC
      have sg := sign_r ((a.size : Nat) : Int) ((b.size : Nat) : Int)
      rw [← hC] at sg
      have w2 : IntKind.i64.wrap ((a.size : Nat) : Int) = ((a.size : Nat) : Int) := i64_wrap (by omega) (by omega)
      have w3 : IntKind.i64.wrap ((b.size : Nat) : Int) = ((b.size : Nat) : Int) := i64_wrap (by omega) (by omega)
      repeat' first | (refine SW.seq_k fun K hK => ?_) | ((first | refine SW.region ?_ | refine SW.cond ?_ | refine SW.exit ?_ | refine SW.ret ?_ | refine Call.of_pure (sg) ?_); try simp only [go_sem, hD, h1i, h2i, w2, w3]) | (apply hK; clear hK K) | (clear hK K; apply hK; clear hK K)
      refine ret_pure ?_; simp only [resL_tmp, resL_nil, tupOf, go_sem, hD]
  · have h1i : ¬ ((i : Nat) : Int) < ((a.size : Nat) : Int) := by omega
    rw [cb_end (by omega) (by omega) (by omega), la, lb] at hC
    have sg := sign_r ((a.size : Nat) : Int) ((b.size : Nat) : Int)
    rw [← hC] at sg
    repeat' first | (refine SW.seq_k fun K hK => ?_) | ((first | refine SW.region ?_ | refine SW.cond ?_ | refine SW.exit ?_ | refine SW.ret ?_ | refine Call.of_pure (sg) ?_); try simp only [go_sem, hD, h1i]) | (apply hK; clear hK K) | (clear hK K; apply hK; clear hK K)
    refine ret_pure ?_; simp only [resL_tmp, resL_nil, tupOf, go_sem, hD]
theorem compare_r (k n : Int) (s : ByteArray) (k' n' : Int) (s' : ByteArray) (hs : s.size ≤ 9223372036854775807) (hs' : s'.size ≤ 9223372036854775807) : PCall Tryz.prog 121 [VS k n s, VS k' n' s'] (I64 (cmpV k n s k' n' s')) := by
  have s1 := sign_r k k'
  have s2 := sign_r n n'
  have s3 := strings_r s s' hs hs'
  obtain ⟨R, hR⟩ : ∃ R, R = cmpV k n s k' n' s' := ⟨_, rfl⟩
  rw [← hR]
  unfold cmpV at hR
  refine Call.enter' (N := 28) (rs := [.tmp 4]) Tryz.func121 rfl rfl rfl (by decide) rfl ?_; simp only [argT]; have hD : (0 : Nat) = 0 := rfl
  by_cases h1 : sgn k k' = 0
  · rw [if_pos h1] at hR
    rw [h1] at s1
    by_cases h2 : sgn n n' = 0
    · rw [if_pos h2] at hR
      rw [h2] at s2
      repeat' first | (refine SW.seq_k fun K hK => ?_) | ((first | refine SW.region ?_ | refine SW.cond ?_ | refine SW.skip ?_ | refine SW.ret ?_ | refine Call.of_pure (s1) ?_ | refine Call.of_pure (s2) ?_ | refine Call.of_pure (s3) ?_ | (refine allF_i fun b hb => ?_; replace hD := And.intro hb hD; clear hb; try simp only [fresh_cons, fresh_nil, and_true, ne_eq, neF] at hD)); try simp only [go_sem, hD]) | (apply hK; clear hK K)
      refine ret_pure ?_; simp only [resL_tmp, resL_nil, tupOf, go_sem, hD]
      rw [hR]
    · rw [if_neg h2] at hR
      repeat' first | (refine SW.seq_k fun K hK => ?_) | ((first | refine SW.region ?_ | refine SW.cond ?_ | refine SW.skip ?_ | refine SW.ret ?_ | refine Call.of_pure (s1) ?_ | refine Call.of_pure (s2) ?_ | (refine allF_i fun b hb => ?_; replace hD := And.intro hb hD; clear hb; try simp only [fresh_cons, fresh_nil, and_true, ne_eq, neF] at hD)); try simp only [go_sem, hD, h2]) | (apply hK; clear hK K)
      refine ret_pure ?_; simp only [resL_tmp, resL_nil, tupOf, go_sem, hD]
      rw [hR]
  · rw [if_neg h1] at hR
    repeat' first | (refine SW.seq_k fun K hK => ?_) | ((first | refine SW.region ?_ | refine SW.cond ?_ | refine SW.ret ?_ | refine Call.of_pure (s1) ?_ | (refine allF_i fun b hb => ?_; replace hD := And.intro hb hD; clear hb; try simp only [fresh_cons, fresh_nil, and_true, ne_eq, neF] at hD)); try simp only [go_sem, hD, h1]) | (apply hK; clear hK K)
    refine ret_pure ?_; simp only [resL_tmp, resL_nil, tupOf, go_sem, hD]
    rw [hR]
end Go.Proofs.YtpidncgibgiidaaGreat
namespace Go.Ab.A01
open Go
def mkB (l : List UInt8) : ByteArray := ⟨l.toArray⟩
theorem mkB_size (l : List UInt8) : (mkB l).size = l.length := by
  show l.toArray.size = _
  simp
end Go.Ab.A01
namespace Go.Ab
open Go
theorem sgn_swap (a b : Int) : sgn b a = -sgn a b := by
  unfold sgn
  rcases Int.lt_trichotomy a b with h | h | h
  · rw [if_neg (by omega), if_pos h, if_pos h]; rfl
  · rw [if_neg (by omega), if_neg (by omega), if_neg (by omega), if_neg (by omega)]; rfl
  · rw [if_pos h, if_neg (by omega), if_pos h]
theorem sgn_zero {a b : Int} : sgn a b = 0 ↔ a = b := by
  unfold sgn
  constructor
  · intro h
    split at h
    · cases h
    · split at h
      · cases h
      · omega
  · rintro rfl
    rw [if_neg (by omega), if_neg (by omega)]
theorem sgn_cases (a b : Int) : (sgn a b = -1 ∧ a < b) ∨ (sgn a b = 0 ∧ a = b) ∨ (sgn a b = 1 ∧ b < a) := by
  unfold sgn
  rcases Int.lt_trichotomy a b with h | h | h
  · exact .inl ⟨by rw [if_pos h], h⟩
  · exact .inr (.inl ⟨by rw [if_neg (by omega), if_neg (by omega)], h⟩)
  · exact .inr (.inr ⟨by rw [if_neg (by omega), if_pos h], h⟩)
theorem cb_cases : ∀ (a b : List UInt8), Lib.compareBytes a b = -1 ∨ (Lib.compareBytes a b = 0 ∧ a = b) ∨ Lib.compareBytes a b = 1
  | [], [] => .inr (.inl ⟨rfl, rfl⟩)
  | [], _ :: _ => .inl rfl
  | _ :: _, [] => .inr (.inr rfl)
  | x :: a, y :: b => by
    unfold Lib.compareBytes
    split
    · exact .inl rfl
    · split
      · exact .inr (.inr rfl)
      · rcases cb_cases a b with h | ⟨h, e⟩ | h
        · exact .inl h
        · refine .inr (.inl ⟨h, ?_⟩)
          have : x = y := UInt8.toNat_inj.1 (by simp only [UInt8.lt_iff_toNat_lt] at *; omega)
          rw [e, this]
        · exact .inr (.inr h)
theorem cb_swap : ∀ (a b : List UInt8), Lib.compareBytes b a = -Lib.compareBytes a b
  | [], [] => rfl
  | [], _ :: _ => rfl
  | _ :: _, [] => rfl
  | x :: a, y :: b => by
    unfold Lib.compareBytes
    by_cases h1 : x < y
    · rw [if_pos h1, if_neg (by simp only [UInt8.lt_iff_toNat_lt] at *; omega), if_pos h1]; rfl
    · by_cases h2 : y < x
      · rw [if_pos h2, if_neg h1, if_pos h2]
      · rw [if_neg h2, if_neg h1, if_neg h1, if_neg h2, cb_swap a b]
def lex (s t : Int) : Int := if s = 0 then t else s
def Tr (m n k : Int) : Prop := (m ≤ 0 → n ≤ 0 → k ≤ 0 ∧ (k = 0 → m = 0 ∧ n = 0)) ∧ (m = 0 → n = 0 → k = 0)
theorem Tr.lex {m n k m' n' k' : Int} (h : Tr m n k) (h' : Tr m' n' k') : Tr (lex m m') (lex n n') (lex k k') := by
  unfold Tr Ab.lex at *
  obtain ⟨h1, h2⟩ := h
  obtain ⟨h3, h4⟩ := h'
  refine ⟨fun a b => ?_, fun a b => ?_⟩
  · have hm : m ≤ 0 := by split at a <;> omega
    have hn : n ≤ 0 := by split at b <;> omega
    obtain ⟨k1, k2⟩ := h1 hm hn
    by_cases hk : k = 0
    · obtain ⟨rfl, rfl⟩ := k2 hk
      rw [if_pos rfl] at a b
      obtain ⟨k3, k4⟩ := h3 a b
      rw [if_pos hk, if_pos rfl, if_pos rfl]
      exact ⟨k3, k4⟩
    · rw [if_neg hk]
      exact ⟨k1, fun x => absurd x hk⟩
  · have hm : m = 0 ∧ m' = 0 := by split at a <;> omega
    have hn : n = 0 ∧ n' = 0 := by split at b <;> omega
    rw [if_pos (h2 hm.1 hn.1)]
    exact h4 hm.2 hn.2
theorem sgn_tr (a b c : Int) : Tr (sgn a b) (sgn b c) (sgn a c) := by
  unfold Tr
  rcases sgn_cases a b with h1 | h1 | h1 <;> rcases sgn_cases b c with h2 | h2 | h2 <;> rcases sgn_cases a c with h3 | h3 | h3 <;> omega
theorem cb_lex (x y : UInt8) (a b : List UInt8) : Lib.compareBytes (x :: a) (y :: b) = lex (sgn x.toNat y.toNat) (Lib.compareBytes a b) := by
  show (if x < y then (-1 : Int) else if y < x then 1 else Lib.compareBytes a b) = _
  unfold lex
  simp only [UInt8.lt_iff_toNat_lt]
  rcases Nat.lt_trichotomy x.toNat y.toNat with h | h | h
  · rw [if_pos h, show sgn (x.toNat : Int) y.toNat = -1 by unfold sgn; rw [if_pos (by omega)], if_neg (by decide)]
  · rw [if_neg (by omega), if_neg (by omega), show sgn (x.toNat : Int) y.toNat = 0 by unfold sgn; rw [if_neg (by omega), if_neg (by omega)], if_pos rfl]
  · rw [if_neg (by omega), if_pos h, show sgn (x.toNat : Int) y.toNat = 1 by unfold sgn; rw [if_neg (by omega), if_pos (by omega)], if_neg (by decide)]
theorem cb_tr : ∀ (a b c : List UInt8), Tr (Lib.compareBytes a b) (Lib.compareBytes b c) (Lib.compareBytes a c)
  | [], [], [] => by unfold Tr; decide
  | [], [], _ :: _ => by
    have e : Lib.compareBytes [] [] = 0 := rfl
    show Tr 0 (-1) (-1)
    unfold Tr; decide
  | [], _ :: _, [] => by
    show Tr (-1) 1 0
    unfold Tr; decide
  | _ :: _, [], [] => by
    show Tr 1 0 1
    unfold Tr; decide
  | [], y :: b, z :: c => by
    show Tr (-1) (Lib.compareBytes (y :: b) (z :: c)) (-1)
    unfold Tr
    omega
  | _ :: _, [], _ :: _ => by
    show Tr 1 (-1) _
    unfold Tr
    omega
  | x :: a, y :: b, [] => by
    show Tr (Lib.compareBytes (x :: a) (y :: b)) 1 1
    unfold Tr
    omega
  | x :: a, y :: b, z :: c => by
    rw [cb_lex, cb_lex, cb_lex]
    exact (sgn_tr _ _ _).lex (cb_tr a b c)
theorem cmpV_lex (k n : Int) (s : ByteArray) (k' n' : Int) (s' : ByteArray) : cmpV k n s k' n' s' = lex (sgn k k') (lex (sgn n n') (Lib.compareBytes s.data.toList s'.data.toList)) := rfl
theorem cmp_tr (k n : Int) (s : ByteArray) (k' n' : Int) (s' : ByteArray) (k'' n'' : Int) (s'' : ByteArray) : Tr (cmpV k n s k' n' s') (cmpV k' n' s' k'' n'' s'') (cmpV k n s k'' n'' s'') := by
  rw [cmpV_lex, cmpV_lex, cmpV_lex]
  exact (sgn_tr _ _ _).lex ((sgn_tr _ _ _).lex (cb_tr _ _ _))
theorem lex_neg (a b : Int) : lex (-a) (-b) = -lex a b := by
  unfold lex
  split <;> split <;> omega
theorem cmp_swap (k n : Int) (s : ByteArray) (k' n' : Int) (s' : ByteArray) : cmpV k' n' s' k n s = -cmpV k n s k' n' s' := by
  rw [cmpV_lex, cmpV_lex, sgn_swap k k', sgn_swap n n', cb_swap, lex_neg, lex_neg]
end Go.Ab
namespace Go.Ab
open Go
theorem vok_kind {k n : Int} {s : ByteArray} (h : vok k n s = true) : k = 0 ∨ k = 1 ∨ (k = 2 ∧ s.size ≤ 200) ∨ k = 3 := by
  unfold vok at h
  split at h
  · exact .inl (by assumption)
  · split at h
    · exact .inr (.inl (by assumption))
    · split at h
      · refine .inr (.inr (.inl ⟨by assumption, ?_⟩))
        simp only [Bool.and_eq_true, decide_eq_true_eq] at h
        exact h.2
      · split at h
        · exact .inr (.inr (.inr (by assumption)))
        · cases h
end Go.Ab
namespace Go.Ab
open Go Go.Ab.A01
def beL : Nat → Nat → List UInt8
  | 0, _ => []
  | m + 1, u => UInt8.ofNat (u / 256 ^ m % 256) :: beL m (u % 256 ^ m)
def num8 (n : Int) : List UInt8 := beL 8 (n + 9223372036854775808).toNat
def escL (l : List UInt8) : List UInt8 := l.flatMap fun c => if c = 0 then [0, 255] else [c]
def keyL (k n : Int) (t : ByteArray) : List UInt8 := UInt8.ofNat k.toNat :: (if k = 1 ∨ k = 3 then num8 n else if k = 2 then escL t.data.toList ++ [0, 1] else [])
theorem beL_len : ∀ (m u : Nat), (beL m u).length = m
  | 0, _ => rfl
  | m + 1, u => by rw [beL, List.length_cons, beL_len m]
theorem escL_cons (c : UInt8) (l : List UInt8) : escL (c :: l) = (if c = 0 then [0, 255] else [c]) ++ escL l := by
  unfold escL
  rw [List.flatMap_cons]
theorem kind_byte {k : Int} (h0 : 0 ≤ k) (h : k ≤ 3) : (UInt8.ofNat k.toNat).toNat = k.toNat := by
  rw [UInt8.toNat_ofNat']
  omega
def decT : List UInt8 → Option (List UInt8)
  | c :: d :: r => if c ≠ 0 then (decT (d :: r)).map (c :: ·) else if d = 1 then some [] else if d = 255 then (decT r).map (0 :: ·) else .none
  | _ => .none
theorem decT_esc : ∀ (t r : List UInt8), decT (escL t ++ 0 :: 1 :: r) = some t
  | [], r => rfl
  | c :: t, r => by
    rw [escL_cons]
    by_cases hc : c = 0
    · rw [if_pos hc]
      show decT (0 :: 255 :: (escL t ++ 0 :: 1 :: r)) = _
      rw [decT, if_neg (by simp), if_neg (by decide), if_pos rfl, decT_esc t r, hc]
      rfl
    · rw [if_neg hc]
      show decT (c :: (escL t ++ 0 :: 1 :: r)) = _
      have ih := decT_esc t r
      cases he : escL t ++ 0 :: 1 :: r with
      | nil => exact absurd he (by simp)
      | cons d w =>
        rw [he] at ih
        rw [decT, if_pos hc, ih]
        rfl
def ofBe : List UInt8 → Nat → Nat
  | [], u => u
  | c :: l, u => ofBe l (u * 256 + c.toNat)
theorem ofBe_be : ∀ (m u v : Nat), u < 256 ^ m → ofBe (beL m u) v = v * 256 ^ m + u
  | 0, u, v, hu => by
    have : u = 0 := by simpa using hu
    subst this
    simp [ofBe, beL]
  | m + 1, u, v, hu => by
    have hp : 0 < 256 ^ m := Nat.pow_pos (by decide)
    have hq : u / 256 ^ m < 256 := (Nat.div_lt_iff_lt_mul hp).2 (by rw [Nat.pow_succ] at hu; rw [Nat.mul_comm]; exact hu)
    have t1 : (UInt8.ofNat (u / 256 ^ m % 256)).toNat = u / 256 ^ m := by rw [UInt8.toNat_ofNat', Nat.mod_eq_of_lt hq]; exact Nat.mod_eq_of_lt hq
    rw [beL, ofBe, t1, ofBe_be m _ _ (Nat.mod_lt _ hp)]
    have e1 := Nat.div_add_mod u (256 ^ m)
    rw [Nat.pow_succ, Nat.add_mul, Nat.mul_comm (256 ^ m) 256, ← Nat.mul_assoc, Nat.add_assoc, Nat.mul_comm (u / 256 ^ m), e1]
def fromL (l : List UInt8) : Option ((Int × Int × List UInt8) × Nat) := match l with
  | [] => .none
  | c :: r => if c.toNat = 1 ∨ c.toNat = 3 then (if r.length < 8 then .none else some (((c.toNat : Int), (ofBe (r.take 8) 0 : Int) - 9223372036854775808, []), 9))
    else if c.toNat = 2 then (match decT r with
      | some t => some ((2, 0, t), (escL t).length + 3)
      | .none => .none) else some (((c.toNat : Int), 0, []), 1)
def fromV (l : List UInt8) : (Int × Int × ByteArray) × Int × Int := match fromL l with
  | some ((k, n, t), m) => if vok k n ⟨t.toArray⟩ = true then ((k, n, ⟨t.toArray⟩), (m : Int), 0) else ((0, 0, ⟨#[]⟩), 0, 2)
  | .none => ((0, 0, ⟨#[]⟩), 0, 2)
theorem num8_len (n : Int) : (num8 n).length = 8 := beL_len 8 _
theorem list_ba (t : ByteArray) : (⟨t.data.toList.toArray⟩ : ByteArray) = t := by cases t; simp
theorem from_key {k n : Int} {t : ByteArray} (hv : vok k n t = true) (hn : -9223372036854775808 ≤ n ∧ n ≤ 9223372036854775807) (r : List UInt8) : fromV (keyL k n t ++ r) = ((k, n, t), ((keyL k n t).length : Int), 0) := by
  have hk := vok_kind hv
  have kb := kind_byte (k := k) (by omega) (by omega)
  have hv0 := hv
  have p : (256 : Nat) ^ 8 = 18446744073709551616 := by decide
  have h8 : ofBe (num8 n) 0 = (n + 9223372036854775808).toNat := by
    unfold num8
    rw [ofBe_be 8 _ 0 (by omega)]
    omega
  have t8 : ((num8 n ++ r).take 8) = num8 n := by
    rw [List.take_append_of_le_length (by rw [num8_len]; exact Nat.le_refl _), List.take_of_length_le (by rw [num8_len]; exact Nat.le_refl _)]
  have l8 : ¬ (num8 n ++ r).length < 8 := by rw [List.length_append, num8_len]; omega
  have em : (⟨([] : List UInt8).toArray⟩ : ByteArray) = ⟨#[]⟩ := rfl
  have num : t = ⟨#[]⟩ → (k = 1 ∨ k = 3) → fromV (keyL k n t ++ r) = ((k, n, t), ((keyL k n t).length : Int), 0) := by
    intro ht hk13
    subst ht
    have hc : (UInt8.ofNat k.toNat).toNat = 1 ∨ (UInt8.ofNat k.toNat).toNat = 3 := by omega
    unfold keyL
    rw [if_pos hk13, List.length_cons, num8_len]
    unfold fromV fromL
    simp only [List.cons_append]
    rw [if_pos hc, if_neg l8, t8, h8, kb]
    simp only
    have e1 : ((k.toNat : Nat) : Int) = k := by omega
    have e2 : (((n + 9223372036854775808).toNat : Nat) : Int) - 9223372036854775808 = n := by omega
    rw [e1, e2, em, if_pos hv0]
  unfold vok at hv
  rcases hk with rfl | rfl | ⟨rfl, _⟩ | rfl
  · rw [if_pos rfl, Bool.and_eq_true, decide_eq_true_eq] at hv
    have e1 : t = ⟨#[]⟩ := barr_eq.1 hv.2
    subst e1
    obtain rfl : n = 0 := hv.1
    have kl : keyL 0 0 ⟨#[]⟩ = [0] := rfl
    rw [kl]
    unfold fromV fromL
    simp only [List.cons_append, List.nil_append]
    rw [if_neg (by decide), if_neg (by decide)]
    simp only
    rw [em, show (((0 : UInt8).toNat : Nat) : Int) = 0 from rfl, if_pos hv0]
    rfl
  · rw [if_neg (by decide), if_pos rfl] at hv
    exact num (barr_eq.1 hv) (.inl rfl)
  · rw [if_neg (by decide), if_neg (by decide), if_pos rfl, Bool.and_eq_true, decide_eq_true_eq] at hv
    have hz := hv.1
    subst hz
    have kl : keyL 2 0 t = 2 :: (escL t.data.toList ++ [0, 1]) := rfl
    rw [kl]
    unfold fromV fromL
    simp only [List.cons_append]
    rw [if_neg (by decide), if_pos (by decide)]
    have hd := decT_esc t.data.toList r
    have ha : escL t.data.toList ++ [0, 1] ++ r = escL t.data.toList ++ 0 :: 1 :: r := by rw [List.append_assoc]; rfl
    rw [ha, hd]
    simp only
    rw [list_ba, if_pos hv0]
    simp only [List.length_cons, List.length_append, List.length_nil]
  · rw [if_neg (by decide), if_neg (by decide), if_neg (by decide), if_pos rfl, Bool.and_eq_true, decide_eq_true_eq] at hv
    exact num (barr_eq.1 hv.2) (.inr rfl)
end Go.Ab
