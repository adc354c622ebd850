/- Several texts in one: J2, DA, DB, DC, DD, DE, DF, DG, DH, P7, DI. -/
import Derived.Test.YtblfodnajpamfaaGreatDoorQ3
import Derived.Test.YtblfodnajpamfaaGreatDoorZ17
import Derived.Test.YtblfodnajpamfaaGreatDoorZ18
set_option linter.unusedSimpArgs false
set_option linter.unusedVariables false
set_option linter.unusedSectionVars false
set_option maxHeartbeats 4000000
set_option maxRecDepth 20000
def Go.Ab.zJ2_1 : Go.Ab.OZ := (.one 0 [0, 1, 5, 6, 7] (.one 1 [1, 5, 6, 7] (.one 2 [2, 3, 4, 5, 6, 7] (.one 3 [3, 4, 5, 6, 7] (.alt 4 (.alt 5 (.one 6 [6, 7] (.alt 7 .done .nil)) .nil) .nil)))))
namespace Go.Proofs.YtblfodnajpamfaaGreatDoor
open Go Go.Ab Go.Ab.A34
variable [Gl] [Tabs]
theorem wide_r (x : Rc) (hx : okRc x) (n : Nat) (hn : n ≤ 5) (hr : x.rows.length ≤ 1000) : PCall Tryz.prog 64 [RC x, I64 n] (TB (wideS x n)) := by
  obtain ⟨at', gap, rows⟩ := x
  obtain ⟨hx1, hx2, hx3⟩ := hx
  unfold wideS
  simp only at hx1 hx2 hx3 hr ⊢
  refine Call.enter' (N := 67) (rs := [.cell 4 75]) Tryz.func64 rfl rfl rfl (by decide) rfl ?_; simp only [argT]; have hD : (0 : Nat) = 0 := rfl
  refine SW.seq_k fun K hK => ?_
  (refine SW.region ?_; try simp only [go_sem, hD])
  ((refine allF_i fun b hb => ?_; replace hD := And.intro hb hD; clear hb; try simp only [fresh_cons, fresh_nil, and_true, ne_eq, neF] at hD); try simp only [go_sem, hD])
  ((refine allF_i fun b hb => ?_; replace hD := And.intro hb hD; clear hb; try simp only [fresh_cons, fresh_nil, and_true, ne_eq, neF] at hD); try simp only [go_sem, hD])
  (apply hK; clear hK K)
  obtain ⟨rb, rfl⟩ : ∃ x, x = b := ⟨_, rfl⟩
  obtain ⟨xb, rfl⟩ : ∃ x, x = b := ⟨_, rfl⟩
  have hrx : ¬ rb = xb := by simp [hD]
  have hxr : ¬ xb = rb := by simp [hD]
  clear hD
  have hD := And.intro (eq_false hrx) (eq_false hxr)
  refine SW.seq_k fun K hK => ?_
  have key : ∃ C Q', (∀ S, Ab.SW Tryz.prog 67 C Q' S → K S) ∧ ∀ tb, ¬ tb = rb → ¬ tb = xb → ¬ rb = tb → ¬ xb = tb → Ab.SW Tryz.prog 67 C Q' ⟨[(1, I64 n), (2, .op xb 0), (4, .op rb 0), (5, .op tb 0)], [(xb, .svs (RCC ⟨at', gap, rows⟩)), (tb, .svs [Str ⟨#[114]⟩, .fl n 1 (sF (nm8.take n)), .sc (.slice none 0 0)]), (rb, .svs [Str ⟨#[]⟩, .sc (.slice none 0 0), .sc (.slice none 0 0)])]⟩ := by
    refine ⟨_, _, hK, fun tb d1 d2 d3 d4 => ?_⟩
    clear hK K
    clear hD
    have hD := And.intro (eq_false d1) (And.intro (eq_false d2) (And.intro (eq_false d3) (And.intro (eq_false d4) (And.intro (eq_false hrx) (eq_false hxr)))))
    repeat' first | (refine SW.seq_k fun K hK => ?_) | (refine SW.block ?_) | (refine SW.region ?_; try simp only [go_sem, hD]) | (apply hK; clear hK K)
    obtain ⟨I, hI⟩ : ∃ I : Nat → St → Prop, ∀ k S, I k S ↔ (∃ (i : Nat) (h : Heap), k = rows.length - i ∧ i ≤ rows.length ∧ ((i = 0 ∧ h = [(xb, .svs (RCC ⟨at', gap, rows⟩)), (tb, .svs [Str ⟨#[114]⟩, .fl n 1 (sF (nm8.take n)), .sc (.slice none 0 0)]), (rb, .svs [Str ⟨#[]⟩, .sc (.slice none 0 0), .sc (.slice none 0 0)])]) ∨ (0 < i ∧ ∃ g, ¬ g = xb ∧ ¬ xb = g ∧ ¬ g = tb ∧ ¬ tb = g ∧ ¬ g = rb ∧ ¬ rb = g ∧ h = [(xb, .svs (RCC ⟨at', gap, rows⟩)), (g, .svs (fC rC ((List.range i).map fun j => rowS gap n j (rows.getD j [])))), (tb, .svs [Str ⟨#[114]⟩, .fl n 1 (sF (nm8.take n)), .os g 0 i 2]), (rb, .svs [Str ⟨#[]⟩, .sc (.slice none 0 0), .sc (.slice none 0 0)])])) ∧ S = ⟨[(1, I64 n), (2, .op xb 0), (4, .op rb 0), (5, .op tb 0), (6, I64 i)], h⟩) := ⟨fun k S => _, fun _ _ => Iff.rfl⟩
    refine SW.loop' I (rows.length) ((hI _ _).2 ⟨0, _, rfl, Nat.zero_le _, .inl ⟨rfl, rfl⟩, rfl⟩) (by repeat' (first | exact rfl | exact trivial | constructor)) ?_
    intro k S hIn
    obtain ⟨i, h, rfl, hi, hB, rfl⟩ := (hI _ _).1 hIn
    clear hIn
    have ie : ((i : Nat) : Int).toNat = i := Int.toNat_natCast _
    have i0 : (0 : Int) ≤ ((i : Nat) : Int) := by omega
    by_cases hlt : i < rows.length
    · have hli : ((i : Nat) : Int) < (((rows.length) : Nat) : Int) := by omega
      have w1 : IntKind.i64.wrap ((i : Int) + 1) = ((i + 1 : Nat) : Int) := by rw [i64_wrap (by omega) (by omega)]; omega
      have hg3 : gap.tmod 3 = gap % 3 := Int.tmod_eq_emod_of_nonneg hx2.1
      have q1 : IntKind.i64.wrap (gap % 3) = gap % 3 := by rw [i64_wrap (by omega) (by omega)]
      have q2 : IntKind.i64.wrap (1 + gap % 3) = 1 + gap % 3 := by rw [i64_wrap (by omega) (by omega)]
      have q5 : 0 ≤ (i : Int) * (1 + gap % 3) ∧ (i : Int) * (1 + gap % 3) ≤ 3000 := by
        have : gap % 3 = 0 ∨ gap % 3 = 1 ∨ gap % 3 = 2 := by omega
        rcases this with h | h | h <;> rw [h] <;> omega
      have q3 : IntKind.i64.wrap ((i : Int) * (1 + gap % 3)) = (i : Int) * (1 + gap % 3) := by rw [i64_wrap (by omega) (by omega)]
      obtain ⟨id, hid⟩ : ∃ z, 1 + (i : Int) * (1 + gap % 3) = z := ⟨_, rfl⟩
      have q4 : IntKind.i64.wrap (1 + (i : Int) * (1 + gap % 3)) = id := by rw [i64_wrap (by omega) (by omega), hid]
      obtain ⟨row, hrow⟩ : ∃ r, rows.getD i [] = r := ⟨_, rfl⟩
      have hr3 := hx3 _ (getD_mem [] hlt)
      rw [hrow] at hr3
      have hmp : ((List.range (i + 1)).map fun j => rowS gap n j (rows.getD j [])) = ((List.range i).map fun j => rowS gap n j (rows.getD j [])) ++ [rowS gap n i row] := by rw [List.range_succ, List.map_append, ← hrow]; rfl
      have hsl : ((List.range i).map fun j => rowS gap n j (rows.getD j [])).length = i := by simp
      have hrw : rowS gap n i row = (id, (List.range n).map fun k => codeV (row.getD k 0)) := by unfold rowS; rw [hid]
      generalize ((List.range i).map fun j => rowS gap n j (rows.getD j [])) = Li at *
      have ba : (i + 1) * 32 ≤ 140737488355328 := by omega
      rcases hB with ⟨hi0, rfl⟩ | ⟨hi0, g, u1, u2, u3, u4, u5, u6, rfl⟩
      · repeat' first | (refine SW.seq_k fun K hK => ?_) | (refine SW.block ?_) | ((first | refine SW.region ?_ | refine SW.cond ?_ | refine SW.skip ?_ | (refine allF_i fun b hb => ?_; replace hD := And.intro hb hD; clear hb; try simp only [fresh_cons, fresh_nil, and_true, ne_eq, neF] at hD)); try simp only [go_sem, hD, hli, ie, i0, w1, hg3, q1, q2, q3, q4]) | (apply hK; clear hK K)
        obtain ⟨vb, rfl⟩ : ∃ x, x = b := ⟨_, rfl⟩
        obtain ⟨R, hR⟩ : ∃ R : Heap, R = [(tb, .svs [Str ⟨#[114]⟩, .fl n 1 (sF (nm8.take n)), .sc (.slice none 0 0)]), (rb, .svs [Str ⟨#[]⟩, .sc (.slice none 0 0), .sc (.slice none 0 0)])] := ⟨_, rfl⟩
        rw [← hR]
        have v1 : ¬ vb = xb := by simp [hD]
        have v2 : ¬ xb = vb := by simp [hD]
        have v3 : fresh R vb := by rw [hR]; simp [fresh_cons, fresh_nil, hD]
        have v4 : fresh R xb := by rw [hR]; simp [fresh_cons, fresh_nil, d2, d4, hrx, hxr]
        clear hD
        have hD := And.intro (eq_false v1) (eq_false v2)
        obtain ⟨J, hJ⟩ : ∃ J : Nat → St → Prop, ∀ m S, J m S ↔ (∃ (k : Nat) (h : Heap), m = n - k ∧ k ≤ n ∧ ((k = 0 ∧ h = (vb, .svs [I64 id, .sc (.slice none 0 0)]) :: (xb, .svs (RCC ⟨at', gap, rows⟩)) :: R) ∨ (0 < k ∧ ∃ g2, ¬ g2 = vb ∧ ¬ vb = g2 ∧ ¬ g2 = xb ∧ ¬ xb = g2 ∧ fresh R g2 ∧ h = (g2, .svs (vCs ((List.range k).map fun k => codeV (row.getD k 0)))) :: (vb, .svs [I64 id, .os g2 0 k 3]) :: (xb, .svs (RCC ⟨at', gap, rows⟩)) :: R)) ∧ S = ⟨[(1, I64 n), (2, .op xb 0), (4, .op rb 0), (5, .op tb 0), (6, I64 i), (7, .op vb 0), (8, I64 k)], h⟩) := ⟨fun m S => _, fun _ _ => Iff.rfl⟩
        refine SW.loop' J n ((hJ _ _).2 ⟨0, _, rfl, Nat.zero_le _, .inl ⟨rfl, rfl⟩, rfl⟩) (by repeat' (first | exact rfl | exact trivial | constructor)) ?_
        intro m S hIn
        obtain ⟨k, h, rfl, hk, hV, rfl⟩ := (hJ _ _).1 hIn
        clear hIn
        have ke : ((k : Nat) : Int).toNat = k := Int.toNat_natCast _
        have k0 : (0 : Int) ≤ ((k : Nat) : Int) := by omega
        by_cases hkn : k < n
        · have hkni : ((k : Nat) : Int) < ((n : Nat) : Int) := by omega
          have wk : IntKind.i64.wrap ((k : Int) + 1) = ((k + 1 : Nat) : Int) := by rw [i64_wrap (by omega) (by omega)]; omega
          have hvp : ((List.range (k + 1)).map fun k => codeV (row.getD k 0)) = ((List.range k).map fun k => codeV (row.getD k 0)) ++ [codeV (row.getD k 0)] := by rw [List.range_succ, List.map_append]; rfl
          have hvl : ((List.range k).map fun k => codeV (row.getD k 0)).length = k := by simp
          have bk : (k + 1) * 32 ≤ 140737488355328 := by omega
          by_cases hkr : k < row.length
          · have hkri : ((k : Nat) : Int) < ((row.length : Nat) : Int) := by omega
            have hc3 := hr3 _ (getD_mem 0 hkr)
            have cr := code_r (row.getD k 0) hc3.1 hc3.2
            generalize codeV (row.getD k 0) = cv at *
            obtain ⟨ck, cn, ct⟩ := cv
            rcases hV with ⟨hk0, rfl⟩ | ⟨hk0, g2, f1, f2, f3, f4, f5, rfl⟩
            · subst hk0
              repeat' first | (with_reducible refine And.intro (by omega) ?_) | (refine SW.seq_k fun K hK => ?_) | (refine SW.block ?_) | ((first | refine SW.region ?_ | refine SW.regionZ (id := 12) (Checked.mixed Tryz.checked) Go.Ab.zJ2_1 (by kernel_rfl) ?_ | refine SW.cond ?_ | refine SW.skip ?_ | refine ⟨_, cr, ?_⟩ | (refine allF_i fun b hb => ?_; replace hD := And.intro hb hD; clear hb; try simp only [fresh_cons, fresh_nil, and_true, ne_eq, neF] at hD) | simp only [appK, appOsK]); try simp only [Go.Ab.zJ2_1, go_sem, hD, hli, ie, i0, hkni, ke, k0, wk, hrow, hkri, bk, true_implies]) | (refine And.intro (by omega) ?_) | (refine ifI (fun hc => ?_) (fun hc => ?_) <;> first | (exfalso; omega) | skip) | (apply hK; clear hK K)
              obtain ⟨nb, rfl⟩ : ∃ x, x = b := ⟨_, rfl⟩
              refine Rnd.le (St.le_del (b := b)) ?_
              simp only [go_sem, hD]
              refine Rnd.sub (n - (0 + 1)) (by omega) ((hJ _ _).2 ⟨0 + 1, _, rfl, by omega, .inr ⟨by omega, nb, by simp [hD], by simp [hD], by simp [hD], by simp [hD], by simp [hD], by rw [hvp]; rfl⟩, rfl⟩) (by repeat' (first | exact rfl | exact trivial | constructor))
            · have hD := And.intro (And.intro (eq_false f1) (eq_false f2)) (And.intro (And.intro (eq_false f3) (eq_false f4)) hD)
              have hvc : (vCs ((List.range k).map fun k => codeV (row.getD k 0))).length = k * 3 := by rw [← vCs_len, hvl]
              repeat' first | (with_reducible refine And.intro (by omega) ?_) | (refine SW.seq_k fun K hK => ?_) | (refine SW.block ?_) | ((first | refine SW.region ?_ | refine SW.regionZ (id := 12) (Checked.mixed Tryz.checked) Go.Ab.zJ2_1 (by kernel_rfl) ?_ | refine SW.cond ?_ | refine SW.skip ?_ | refine ⟨_, cr, ?_⟩ | (refine allF_i fun b hb => ?_; replace hD := And.intro hb hD; clear hb; try simp only [fresh_cons, fresh_nil, and_true, ne_eq, neF] at hD) | simp only [appK, appOsK]); try simp only [Go.Ab.zJ2_1, go_sem, hD, hli, ie, i0, hkni, ke, k0, wk, hrow, hkri, bk, hvc, true_implies]) | (apply hK; clear hK K)
              obtain ⟨nb, rfl⟩ : ∃ x, x = b := ⟨_, rfl⟩
              refine Rnd.le (St.le_del (b := b)) ?_
              simp only [go_sem, hD]
              refine Rnd.sub (n - (k + 1)) (by omega) ((hJ _ _).2 ⟨k + 1, _, rfl, by omega, .inr ⟨by omega, nb, by simp [hD], by simp [hD], by simp [hD], by simp [hD], by simp [hD], by rw [hvp, ← vCs_snoc]⟩, rfl⟩) (by repeat' (first | exact rfl | exact trivial | constructor))
          · have hkri : ¬ ((k : Nat) : Int) < ((row.length : Nat) : Int) := by omega
            have hz : row.getD k 0 = 0 := by rw [List.getD_eq_getElem?_getD, List.getElem?_eq_none (by omega)]; rfl
            have cr := code_r 0 (by omega) (by omega)
            rw [hz] at hvp
            generalize codeV 0 = cv at *
            obtain ⟨ck, cn, ct⟩ := cv
            rcases hV with ⟨hk0, rfl⟩ | ⟨hk0, g2, f1, f2, f3, f4, f5, rfl⟩
            · subst hk0
              repeat' first | (with_reducible refine And.intro (by omega) ?_) | (refine SW.seq_k fun K hK => ?_) | (refine SW.block ?_) | ((first | refine SW.region ?_ | refine SW.regionZ (id := 12) (Checked.mixed Tryz.checked) Go.Ab.zJ2_1 (by kernel_rfl) ?_ | refine SW.cond ?_ | refine SW.skip ?_ | refine ⟨_, cr, ?_⟩ | (refine allF_i fun b hb => ?_; replace hD := And.intro hb hD; clear hb; try simp only [fresh_cons, fresh_nil, and_true, ne_eq, neF] at hD) | simp only [appK, appOsK]); try simp only [Go.Ab.zJ2_1, go_sem, hD, hli, ie, i0, hkni, ke, k0, wk, hrow, hkri, bk, true_implies]) | (refine And.intro (by omega) ?_) | (refine ifI (fun hc => ?_) (fun hc => ?_) <;> first | (exfalso; omega) | skip) | (apply hK; clear hK K)
              obtain ⟨nb, rfl⟩ : ∃ x, x = b := ⟨_, rfl⟩
              refine Rnd.le (St.le_del (b := b)) ?_
              simp only [go_sem, hD]
              refine Rnd.sub (n - (0 + 1)) (by omega) ((hJ _ _).2 ⟨0 + 1, _, rfl, by omega, .inr ⟨by omega, nb, by simp [hD], by simp [hD], by simp [hD], by simp [hD], by simp [hD], by rw [hvp]; rfl⟩, rfl⟩) (by repeat' (first | exact rfl | exact trivial | constructor))
            · have hD := And.intro (And.intro (eq_false f1) (eq_false f2)) (And.intro (And.intro (eq_false f3) (eq_false f4)) hD)
              have hvc : (vCs ((List.range k).map fun k => codeV (row.getD k 0))).length = k * 3 := by rw [← vCs_len, hvl]
              repeat' first | (with_reducible refine And.intro (by omega) ?_) | (refine SW.seq_k fun K hK => ?_) | (refine SW.block ?_) | ((first | refine SW.region ?_ | refine SW.regionZ (id := 12) (Checked.mixed Tryz.checked) Go.Ab.zJ2_1 (by kernel_rfl) ?_ | refine SW.cond ?_ | refine SW.skip ?_ | refine ⟨_, cr, ?_⟩ | (refine allF_i fun b hb => ?_; replace hD := And.intro hb hD; clear hb; try simp only [fresh_cons, fresh_nil, and_true, ne_eq, neF] at hD) | simp only [appK, appOsK]); try simp only [Go.Ab.zJ2_1, go_sem, hD, hli, ie, i0, hkni, ke, k0, wk, hrow, hkri, bk, hvc, true_implies]) | (apply hK; clear hK K)
              obtain ⟨nb, rfl⟩ : ∃ x, x = b := ⟨_, rfl⟩
              refine Rnd.le (St.le_del (b := b)) ?_
              simp only [go_sem, hD]
              refine Rnd.sub (n - (k + 1)) (by omega) ((hJ _ _).2 ⟨k + 1, _, rfl, by omega, .inr ⟨by omega, nb, by simp [hD], by simp [hD], by simp [hD], by simp [hD], by simp [hD], by rw [hvp, ← vCs_snoc]⟩, rfl⟩) (by repeat' (first | exact rfl | exact trivial | constructor))
        have hkni : ¬ ((k : Nat) : Int) < ((n : Nat) : Int) := by omega
        obtain rfl : k = n := by omega
        have hVl : ((List.range k).map fun k => codeV (row.getD k 0)).length = k := by simp
        have hwl := hrw
        generalize ((List.range k).map fun k => codeV (row.getD k 0)) = V at *
        apply Ab.SW.le (S' := ⟨[(1, I64 k), (2, .op xb 0), (4, .op rb 0), (5, .op tb 0), (6, I64 i), (7, .op vb 0), (8, I64 k)], (vb, .svs [I64 id, VL V]) :: (xb, .svs (RCC ⟨at', gap, rows⟩)) :: R⟩)
        · rcases hV with ⟨hk0, rfl⟩ | ⟨hk0, g2, f1, f2, f3, f4, f5, rfl⟩
          · subst hk0
            have hVn : V = [] := List.eq_nil_of_length_eq_zero hVl
            subst hVn
            have := St.le_nilC (t := [(1, I64 (0 : Nat)), (2, .op xb 0), (4, .op rb 0), (5, .op tb 0), (6, I64 i), (7, .op vb 0), (8, I64 (0 : Nat))]) (h := (vb, .svs [I64 id, .sc (.slice none 0 0)]) :: (xb, .svs (RCC ⟨at', gap, rows⟩)) :: R) (c := vb) (j := 1) (sz := 3) (f := vF []) (by rw [find_cons, if_pos rfl]) (by show 1 < 2; omega) rfl
            rw [upd_cons, if_pos rfl] at this
            exact this
          · have := St.le_accC (t := [(1, I64 k), (2, .op xb 0), (4, .op rb 0), (5, .op tb 0), (6, I64 i), (7, .op vb 0), (8, I64 k)]) (sz := 3) (n := k) (c := vb) (j := 1) (Acc.osH (b := g2) (cs := vCs V) (h0 := (vb, .svs [I64 id, .os g2 0 k 3]) :: (xb, .svs (RCC ⟨at', gap, rows⟩)) :: R) (by simp only [fresh_cons, ne_eq]; exact ⟨⟨f2, f1⟩, ⟨f4, f3⟩, f5⟩) (by rw [← vCs_len, hVl])) (by rw [find_cons, if_pos rfl]) (by show 1 < 2; omega) rfl (vF V) (fun j hj => vCs_at V j (by omega))
            rw [upd_cons, if_pos rfl] at this
            unfold VL
            rw [hVl]
            exact this
        subst hR
        simp only [fresh_cons, fresh_nil, and_true, ne_eq, neF] at v3 v4
        have hD := And.intro v3 (And.intro v4 (And.intro (And.intro (eq_false v1) (eq_false v2)) (And.intro (And.intro (eq_false d1) (eq_false d3)) (And.intro (eq_false hrx) (eq_false hxr)))))
        subst hi0
        have hLn : Li = [] := List.eq_nil_of_length_eq_zero hsl
        subst hLn
        repeat' first | (with_reducible refine And.intro (by omega) ?_) | (refine SW.seq_k fun K hK => ?_) | ((first | refine SW.region ?_ | refine SW.cond ?_ | refine SW.exit ?_ | (refine allF_i fun b hb => ?_; replace hD := And.intro hb hD; clear hb; try simp only [fresh_cons, fresh_nil, and_true, ne_eq, neF] at hD) | simp only [appK, appOsK]); try simp only [go_sem, hD, hkni, w1, ba, true_implies]) | (refine And.intro (by omega) ?_) | (apply hK; clear hK K) | (clear hK K; apply hK; clear hK K)
        refine Rnd.le (St.le_pick _ ?_ ?_) (Rnd.sub (rows.length - (0 + 1)) (by omega) ((hI _ _).2 ⟨0 + 1, [(xb, .svs (RCC ⟨at', gap, rows⟩)), (b, .svs (rC (id, V))), (tb, .svs [Str ⟨#[114]⟩, .fl k 1 (sF (nm8.take k)), .os b 0 1 2]), (rb, .svs [Str ⟨#[]⟩, .sc (.slice none 0 0), .sc (.slice none 0 0)])], rfl, by omega, .inr ⟨by omega, b, by simp [hD], by simp [hD], by simp [hD], by simp [hD], by simp [hD], by simp [hD], by rw [hmp, hrw]; rfl⟩, rfl⟩) (by repeat' (first | exact rfl | exact trivial | constructor)))
        · repeat' (first | exact (fun x hx => (List.not_mem_nil hx).elim) | refine List.forall_mem_cons.2 ⟨?_, ?_⟩ | exact List.mem_cons_self | apply List.mem_cons_of_mem)
        · simp [fresh_cons, fresh_nil, hD]
      · have hD := And.intro (And.intro (eq_false u1) (eq_false u2)) (And.intro (And.intro (eq_false u3) (eq_false u4)) (And.intro (And.intro (eq_false u5) (eq_false u6)) hD))
        repeat' first | (refine SW.seq_k fun K hK => ?_) | (refine SW.block ?_) | ((first | refine SW.region ?_ | refine SW.cond ?_ | refine SW.skip ?_ | (refine allF_i fun b hb => ?_; replace hD := And.intro hb hD; clear hb; try simp only [fresh_cons, fresh_nil, and_true, ne_eq, neF] at hD)); try simp only [go_sem, hD, hli, ie, i0, w1, hg3, q1, q2, q3, q4]) | (apply hK; clear hK K)
        obtain ⟨vb, rfl⟩ : ∃ x, x = b := ⟨_, rfl⟩
        obtain ⟨R, hR⟩ : ∃ R : Heap, R = [(g, .svs (fC rC Li)), (tb, .svs [Str ⟨#[114]⟩, .fl n 1 (sF (nm8.take n)), .os g 0 i 2]), (rb, .svs [Str ⟨#[]⟩, .sc (.slice none 0 0), .sc (.slice none 0 0)])] := ⟨_, rfl⟩
        rw [← hR]
        have v1 : ¬ vb = xb := by simp [hD]
        have v2 : ¬ xb = vb := by simp [hD]
        have v3 : fresh R vb := by rw [hR]; simp [fresh_cons, fresh_nil, hD]
        have v4 : fresh R xb := by rw [hR]; simp [fresh_cons, fresh_nil, d2, d4, hrx, hxr, u1, u2]
        clear hD
        have hD := And.intro (eq_false v1) (eq_false v2)
        obtain ⟨J, hJ⟩ : ∃ J : Nat → St → Prop, ∀ m S, J m S ↔ (∃ (k : Nat) (h : Heap), m = n - k ∧ k ≤ n ∧ ((k = 0 ∧ h = (vb, .svs [I64 id, .sc (.slice none 0 0)]) :: (xb, .svs (RCC ⟨at', gap, rows⟩)) :: R) ∨ (0 < k ∧ ∃ g2, ¬ g2 = vb ∧ ¬ vb = g2 ∧ ¬ g2 = xb ∧ ¬ xb = g2 ∧ fresh R g2 ∧ h = (g2, .svs (vCs ((List.range k).map fun k => codeV (row.getD k 0)))) :: (vb, .svs [I64 id, .os g2 0 k 3]) :: (xb, .svs (RCC ⟨at', gap, rows⟩)) :: R)) ∧ S = ⟨[(1, I64 n), (2, .op xb 0), (4, .op rb 0), (5, .op tb 0), (6, I64 i), (7, .op vb 0), (8, I64 k)], h⟩) := ⟨fun m S => _, fun _ _ => Iff.rfl⟩
        refine SW.loop' J n ((hJ _ _).2 ⟨0, _, rfl, Nat.zero_le _, .inl ⟨rfl, rfl⟩, rfl⟩) (by repeat' (first | exact rfl | exact trivial | constructor)) ?_
        intro m S hIn
        obtain ⟨k, h, rfl, hk, hV, rfl⟩ := (hJ _ _).1 hIn
        clear hIn
        have ke : ((k : Nat) : Int).toNat = k := Int.toNat_natCast _
        have k0 : (0 : Int) ≤ ((k : Nat) : Int) := by omega
        by_cases hkn : k < n
        · have hkni : ((k : Nat) : Int) < ((n : Nat) : Int) := by omega
          have wk : IntKind.i64.wrap ((k : Int) + 1) = ((k + 1 : Nat) : Int) := by rw [i64_wrap (by omega) (by omega)]; omega
          have hvp : ((List.range (k + 1)).map fun k => codeV (row.getD k 0)) = ((List.range k).map fun k => codeV (row.getD k 0)) ++ [codeV (row.getD k 0)] := by rw [List.range_succ, List.map_append]; rfl
          have hvl : ((List.range k).map fun k => codeV (row.getD k 0)).length = k := by simp
          have bk : (k + 1) * 32 ≤ 140737488355328 := by omega
          by_cases hkr : k < row.length
          · have hkri : ((k : Nat) : Int) < ((row.length : Nat) : Int) := by omega
            have hc3 := hr3 _ (getD_mem 0 hkr)
            have cr := code_r (row.getD k 0) hc3.1 hc3.2
            generalize codeV (row.getD k 0) = cv at *
            obtain ⟨ck, cn, ct⟩ := cv
            rcases hV with ⟨hk0, rfl⟩ | ⟨hk0, g2, f1, f2, f3, f4, f5, rfl⟩
            · subst hk0
              repeat' first | (with_reducible refine And.intro (by omega) ?_) | (refine SW.seq_k fun K hK => ?_) | (refine SW.block ?_) | ((first | refine SW.region ?_ | refine SW.regionZ (id := 12) (Checked.mixed Tryz.checked) Go.Ab.zJ2_1 (by kernel_rfl) ?_ | refine SW.cond ?_ | refine SW.skip ?_ | refine ⟨_, cr, ?_⟩ | (refine allF_i fun b hb => ?_; replace hD := And.intro hb hD; clear hb; try simp only [fresh_cons, fresh_nil, and_true, ne_eq, neF] at hD) | simp only [appK, appOsK]); try simp only [Go.Ab.zJ2_1, go_sem, hD, hli, ie, i0, hkni, ke, k0, wk, hrow, hkri, bk, true_implies]) | (refine And.intro (by omega) ?_) | (refine ifI (fun hc => ?_) (fun hc => ?_) <;> first | (exfalso; omega) | skip) | (apply hK; clear hK K)
              obtain ⟨nb, rfl⟩ : ∃ x, x = b := ⟨_, rfl⟩
              refine Rnd.le (St.le_del (b := b)) ?_
              simp only [go_sem, hD]
              refine Rnd.sub (n - (0 + 1)) (by omega) ((hJ _ _).2 ⟨0 + 1, _, rfl, by omega, .inr ⟨by omega, nb, by simp [hD], by simp [hD], by simp [hD], by simp [hD], by simp [hD], by rw [hvp]; rfl⟩, rfl⟩) (by repeat' (first | exact rfl | exact trivial | constructor))
            · have hD := And.intro (And.intro (eq_false f1) (eq_false f2)) (And.intro (And.intro (eq_false f3) (eq_false f4)) hD)
              have hvc : (vCs ((List.range k).map fun k => codeV (row.getD k 0))).length = k * 3 := by rw [← vCs_len, hvl]
              repeat' first | (with_reducible refine And.intro (by omega) ?_) | (refine SW.seq_k fun K hK => ?_) | (refine SW.block ?_) | ((first | refine SW.region ?_ | refine SW.regionZ (id := 12) (Checked.mixed Tryz.checked) Go.Ab.zJ2_1 (by kernel_rfl) ?_ | refine SW.cond ?_ | refine SW.skip ?_ | refine ⟨_, cr, ?_⟩ | (refine allF_i fun b hb => ?_; replace hD := And.intro hb hD; clear hb; try simp only [fresh_cons, fresh_nil, and_true, ne_eq, neF] at hD) | simp only [appK, appOsK]); try simp only [Go.Ab.zJ2_1, go_sem, hD, hli, ie, i0, hkni, ke, k0, wk, hrow, hkri, bk, hvc, true_implies]) | (apply hK; clear hK K)
              obtain ⟨nb, rfl⟩ : ∃ x, x = b := ⟨_, rfl⟩
              refine Rnd.le (St.le_del (b := b)) ?_
              simp only [go_sem, hD]
              refine Rnd.sub (n - (k + 1)) (by omega) ((hJ _ _).2 ⟨k + 1, _, rfl, by omega, .inr ⟨by omega, nb, by simp [hD], by simp [hD], by simp [hD], by simp [hD], by simp [hD], by rw [hvp, ← vCs_snoc]⟩, rfl⟩) (by repeat' (first | exact rfl | exact trivial | constructor))
          · have hkri : ¬ ((k : Nat) : Int) < ((row.length : Nat) : Int) := by omega
            have hz : row.getD k 0 = 0 := by rw [List.getD_eq_getElem?_getD, List.getElem?_eq_none (by omega)]; rfl
            have cr := code_r 0 (by omega) (by omega)
            rw [hz] at hvp
            generalize codeV 0 = cv at *
            obtain ⟨ck, cn, ct⟩ := cv
            rcases hV with ⟨hk0, rfl⟩ | ⟨hk0, g2, f1, f2, f3, f4, f5, rfl⟩
            · subst hk0
              repeat' first | (with_reducible refine And.intro (by omega) ?_) | (refine SW.seq_k fun K hK => ?_) | (refine SW.block ?_) | ((first | refine SW.region ?_ | refine SW.regionZ (id := 12) (Checked.mixed Tryz.checked) Go.Ab.zJ2_1 (by kernel_rfl) ?_ | refine SW.cond ?_ | refine SW.skip ?_ | refine ⟨_, cr, ?_⟩ | (refine allF_i fun b hb => ?_; replace hD := And.intro hb hD; clear hb; try simp only [fresh_cons, fresh_nil, and_true, ne_eq, neF] at hD) | simp only [appK, appOsK]); try simp only [Go.Ab.zJ2_1, go_sem, hD, hli, ie, i0, hkni, ke, k0, wk, hrow, hkri, bk, true_implies]) | (refine And.intro (by omega) ?_) | (refine ifI (fun hc => ?_) (fun hc => ?_) <;> first | (exfalso; omega) | skip) | (apply hK; clear hK K)
              obtain ⟨nb, rfl⟩ : ∃ x, x = b := ⟨_, rfl⟩
              refine Rnd.le (St.le_del (b := b)) ?_
              simp only [go_sem, hD]
              refine Rnd.sub (n - (0 + 1)) (by omega) ((hJ _ _).2 ⟨0 + 1, _, rfl, by omega, .inr ⟨by omega, nb, by simp [hD], by simp [hD], by simp [hD], by simp [hD], by simp [hD], by rw [hvp]; rfl⟩, rfl⟩) (by repeat' (first | exact rfl | exact trivial | constructor))
            · have hD := And.intro (And.intro (eq_false f1) (eq_false f2)) (And.intro (And.intro (eq_false f3) (eq_false f4)) hD)
              have hvc : (vCs ((List.range k).map fun k => codeV (row.getD k 0))).length = k * 3 := by rw [← vCs_len, hvl]
              repeat' first | (with_reducible refine And.intro (by omega) ?_) | (refine SW.seq_k fun K hK => ?_) | (refine SW.block ?_) | ((first | refine SW.region ?_ | refine SW.regionZ (id := 12) (Checked.mixed Tryz.checked) Go.Ab.zJ2_1 (by kernel_rfl) ?_ | refine SW.cond ?_ | refine SW.skip ?_ | refine ⟨_, cr, ?_⟩ | (refine allF_i fun b hb => ?_; replace hD := And.intro hb hD; clear hb; try simp only [fresh_cons, fresh_nil, and_true, ne_eq, neF] at hD) | simp only [appK, appOsK]); try simp only [Go.Ab.zJ2_1, go_sem, hD, hli, ie, i0, hkni, ke, k0, wk, hrow, hkri, bk, hvc, true_implies]) | (apply hK; clear hK K)
              obtain ⟨nb, rfl⟩ : ∃ x, x = b := ⟨_, rfl⟩
              refine Rnd.le (St.le_del (b := b)) ?_
              simp only [go_sem, hD]
              refine Rnd.sub (n - (k + 1)) (by omega) ((hJ _ _).2 ⟨k + 1, _, rfl, by omega, .inr ⟨by omega, nb, by simp [hD], by simp [hD], by simp [hD], by simp [hD], by simp [hD], by rw [hvp, ← vCs_snoc]⟩, rfl⟩) (by repeat' (first | exact rfl | exact trivial | constructor))
        have hkni : ¬ ((k : Nat) : Int) < ((n : Nat) : Int) := by omega
        obtain rfl : k = n := by omega
        have hVl : ((List.range k).map fun k => codeV (row.getD k 0)).length = k := by simp
        have hwl := hrw
        generalize ((List.range k).map fun k => codeV (row.getD k 0)) = V at *
        apply Ab.SW.le (S' := ⟨[(1, I64 k), (2, .op xb 0), (4, .op rb 0), (5, .op tb 0), (6, I64 i), (7, .op vb 0), (8, I64 k)], (vb, .svs [I64 id, VL V]) :: (xb, .svs (RCC ⟨at', gap, rows⟩)) :: R⟩)
        · rcases hV with ⟨hk0, rfl⟩ | ⟨hk0, g2, f1, f2, f3, f4, f5, rfl⟩
          · subst hk0
            have hVn : V = [] := List.eq_nil_of_length_eq_zero hVl
            subst hVn
            have := St.le_nilC (t := [(1, I64 (0 : Nat)), (2, .op xb 0), (4, .op rb 0), (5, .op tb 0), (6, I64 i), (7, .op vb 0), (8, I64 (0 : Nat))]) (h := (vb, .svs [I64 id, .sc (.slice none 0 0)]) :: (xb, .svs (RCC ⟨at', gap, rows⟩)) :: R) (c := vb) (j := 1) (sz := 3) (f := vF []) (by rw [find_cons, if_pos rfl]) (by show 1 < 2; omega) rfl
            rw [upd_cons, if_pos rfl] at this
            exact this
          · have := St.le_accC (t := [(1, I64 k), (2, .op xb 0), (4, .op rb 0), (5, .op tb 0), (6, I64 i), (7, .op vb 0), (8, I64 k)]) (sz := 3) (n := k) (c := vb) (j := 1) (Acc.osH (b := g2) (cs := vCs V) (h0 := (vb, .svs [I64 id, .os g2 0 k 3]) :: (xb, .svs (RCC ⟨at', gap, rows⟩)) :: R) (by simp only [fresh_cons, ne_eq]; exact ⟨⟨f2, f1⟩, ⟨f4, f3⟩, f5⟩) (by rw [← vCs_len, hVl])) (by rw [find_cons, if_pos rfl]) (by show 1 < 2; omega) rfl (vF V) (fun j hj => vCs_at V j (by omega))
            rw [upd_cons, if_pos rfl] at this
            unfold VL
            rw [hVl]
            exact this
        subst hR
        simp only [fresh_cons, fresh_nil, and_true, ne_eq, neF] at v3 v4
        have hD := And.intro v3 (And.intro v4 (And.intro (And.intro (eq_false v1) (eq_false v2)) (And.intro (And.intro (eq_false d1) (eq_false d3)) (And.intro (eq_false hrx) (And.intro (eq_false hxr) (And.intro (And.intro (eq_false u3) (eq_false u4)) (And.intro (eq_false u5) (eq_false u6))))))))
        have hfc : (fC rC Li).length = i * 2 := by rw [← fC_len (k := 2) (fun _ => rfl), hsl]
        repeat' first | (with_reducible refine And.intro (by omega) ?_) | (refine SW.seq_k fun K hK => ?_) | ((first | refine SW.region ?_ | refine SW.cond ?_ | refine SW.exit ?_ | (refine allF_i fun b hb => ?_; replace hD := And.intro hb hD; clear hb; try simp only [fresh_cons, fresh_nil, and_true, ne_eq, neF] at hD) | simp only [appK, appOsK]); try simp only [go_sem, hD, hkni, w1, ba, hfc, true_implies]) | (apply hK; clear hK K) | (clear hK K; apply hK; clear hK K)
        refine Rnd.le (St.le_pick _ ?_ ?_) (Rnd.sub (rows.length - (i + 1)) (by omega) ((hI _ _).2 ⟨i + 1, [(xb, .svs (RCC ⟨at', gap, rows⟩)), (b, .svs (fC rC Li ++ rC (id, V))), (tb, .svs [Str ⟨#[114]⟩, .fl k 1 (sF (nm8.take k)), .os b 0 (i + 1) 2]), (rb, .svs [Str ⟨#[]⟩, .sc (.slice none 0 0), .sc (.slice none 0 0)])], rfl, by omega, .inr ⟨by omega, b, by simp [hD], by simp [hD], by simp [hD], by simp [hD], by simp [hD], by simp [hD], by rw [hmp, hrw, ← fC_snoc]⟩, rfl⟩) (by repeat' (first | exact rfl | exact trivial | constructor)))
        · repeat' (first | exact (fun x hx => (List.not_mem_nil hx).elim) | refine List.forall_mem_cons.2 ⟨?_, ?_⟩ | exact List.mem_cons_self | apply List.mem_cons_of_mem)
        · simp [fresh_cons, fresh_nil, hD]
    · have hli : ¬ ((i : Nat) : Int) < (((rows.length) : Nat) : Int) := by omega
      obtain rfl : i = rows.length := by omega
      have hsl : ((List.range rows.length).map fun j => rowS gap n j (rows.getD j [])).length = rows.length := by simp
      have hnl : (nm8.take n).length = n := by rw [List.length_take]; show min n 8 = n; omega
      generalize ((List.range rows.length).map fun j => rowS gap n j (rows.getD j [])) = Li at *
      apply Ab.SW.le (S' := ⟨[(1, I64 n), (2, .op xb 0), (4, .op rb 0), (5, .op tb 0), (6, I64 rows.length)], [(xb, .svs (RCC ⟨at', gap, rows⟩)), (tb, .svs [Str ⟨#[114]⟩, .fl n 1 (sF (nm8.take n)), RL Li]), (rb, .svs [Str ⟨#[]⟩, .sc (.slice none 0 0), .sc (.slice none 0 0)])]⟩)
      · rcases hB with ⟨hi0, rfl⟩ | ⟨hi0, g, u1, u2, u3, u4, u5, u6, rfl⟩
        · have hLn : Li = [] := List.eq_nil_of_length_eq_zero (by omega)
          subst hLn
          have := St.le_nilC (t := [(1, I64 n), (2, .op xb 0), (4, .op rb 0), (5, .op tb 0), (6, I64 rows.length)]) (h := [(xb, .svs (RCC ⟨at', gap, rows⟩)), (tb, .svs [Str ⟨#[114]⟩, .fl n 1 (sF (nm8.take n)), .sc (.slice none 0 0)]), (rb, .svs [Str ⟨#[]⟩, .sc (.slice none 0 0), .sc (.slice none 0 0)])]) (c := tb) (j := 2) (sz := 2) (f := rF []) (by rw [find_cons, if_neg d4, find_cons, if_pos rfl]) (by show 2 < 3; omega) rfl
          rw [upd_cons, if_neg d4, upd_cons, if_pos rfl] at this
          exact this
        · have h1 := St.le_perm (t := [(1, I64 n), (2, .op xb 0), (4, .op rb 0), (5, .op tb 0), (6, I64 rows.length)]) (List.Perm.swap (xb, .svs (RCC ⟨at', gap, rows⟩)) (g, Blk.svs (fC rC Li)) [(tb, .svs [Str ⟨#[114]⟩, .fl n 1 (sF (nm8.take n)), .os g 0 rows.length 2]), (rb, .svs [Str ⟨#[]⟩, .sc (.slice none 0 0), .sc (.slice none 0 0)])])
          have := St.le_accC (t := [(1, I64 n), (2, .op xb 0), (4, .op rb 0), (5, .op tb 0), (6, I64 rows.length)]) (sz := 2) (n := rows.length) (c := tb) (j := 2) (Acc.osH (b := g) (cs := fC rC Li) (h0 := [(xb, .svs (RCC ⟨at', gap, rows⟩)), (tb, .svs [Str ⟨#[114]⟩, .fl n 1 (sF (nm8.take n)), .os g 0 rows.length 2]), (rb, .svs [Str ⟨#[]⟩, .sc (.slice none 0 0), .sc (.slice none 0 0)])]) (by simp [fresh_cons, fresh_nil, u1, u2, u3, u4, u5, u6]) (by rw [← fC_len (k := 2) (fun _ => rfl), hsl])) (by rw [find_cons, if_neg d4, find_cons, if_pos rfl]) (by show 2 < 3; omega) rfl (rF Li) (fun j hj => fC_at (enc := rC) (k := 2) (fun _ => rfl) r0 Li j (by omega))
          rw [upd_cons, if_neg d4, upd_cons, if_pos rfl] at this
          unfold RL
          rw [hsl]
          exact h1.trans this
      · repeat' first | (refine SW.seq_k fun K hK => ?_) | ((first | refine SW.region ?_ | refine SW.cond ?_ | refine SW.exit ?_ | refine SW.ret ?_); try simp only [go_sem, hD, hli, true_implies]) | (apply hK; clear hK K) | (clear hK K; apply hK; clear hK K)
        apply ret_cell (i := 4) (n := 3); exact rfl; (simp only [go_sem, hD]; try rfl); (first | exact Nat.le_refl _ | decide); simp only [resL_tmp, resL_cellE, resC_ok, resL_nil, tupOf, getN, go_sem, hD]
        unfold TB SL
        simp only
        rw [hnl]
  obtain ⟨C, Q', hK2, key⟩ := key
  clear hK
  have hK := hK2
  clear hK2
  have nn : (((n : Nat) : Int) - 0).toNat = n := by omega
  have hn6 : n = 0 ∨ n = 1 ∨ n = 2 ∨ n = 3 ∨ n = 4 ∨ n = 5 := by omega
  rcases hn6 with h | h | h | h | h | h
  all_goals
    have nn2 := nn.trans h
    repeat' first | (with_reducible refine And.intro (by omega) ?_) | ((first | refine SW.region ?_ | (refine allF_i fun b hb => ?_; replace hD := And.intro hb hD; clear hb; try simp only [fresh_cons, fresh_nil, and_true, ne_eq, neF] at hD) | simp only [appK, appOsK]); try simp only [go_sem, hD, nn2, getN, List.all_cons, List.all_nil, Bool.and_self, Bool.true_and]) | (apply hK; clear hK K)
    obtain ⟨tb, rfl⟩ : ∃ x, x = b := ⟨_, rfl⟩
    obtain ⟨ab, rfl⟩ : ∃ x, x = b := ⟨_, rfl⟩
    have d1 : ¬ tb = rb := by simp [hD]
    have d2 : ¬ tb = xb := by simp [hD]
    have d3 : ¬ rb = tb := by simp [hD]
    have d4 : ¬ xb = tb := by simp [hD]
    have d5 : ¬ tb = ab := by simp [hD]
    apply Ab.SW.le
    · apply St.le_freezeC (c := tb) (j := 1) (b := ab) (off := 0) (sz := 1) (f := sF (nm8.take n))
      · rw [find_cons, if_pos rfl]
      · exact d5
      · show 1 < 3
        omega
      · rfl
      · simp [find_cons, d5, hD]; rfl
      · decide
      · intro p hp
        rw [h]
        have h5 : p = 0 ∨ p = 1 ∨ p = 2 ∨ p = 3 ∨ p = 4 := by omega
        rcases h5 with rfl | rfl | rfl | rfl | rfl
        all_goals first | (exfalso; omega) | rfl
    simp only [go_sem, hD, d5]
    subst h
    refine Ab.SW.le ((St.le_pick [(xb, .svs (RCC ⟨at', gap, rows⟩)), (tb, .svs [Str ⟨#[114]⟩, .fl _ 1 (sF (nm8.take _)), .sc (.slice none 0 0)]), (rb, .svs [Str ⟨#[]⟩, .sc (.slice none 0 0), .sc (.slice none 0 0)])] ?_ ?_).trans (St.le_sub ?_)) (key tb d1 d2 d3 d4)
    · repeat' (first | exact (fun x hx => (List.not_mem_nil hx).elim) | refine List.forall_mem_cons.2 ⟨?_, ?_⟩ | exact List.mem_cons_self | apply List.mem_cons_of_mem)
    · simp [fresh_cons, fresh_nil, hD]
    · repeat' (first | exact rfl | exact trivial | constructor)
end Go.Proofs.YtblfodnajpamfaaGreatDoor
namespace Go.Ab.A15
open Go Go.Ab Go.Ab.A34
def tabS (x : Rc) : Tb := wideS x (x.attrs % 6).toNat
abbrev TZ : SV := .agg [Str ⟨#[]⟩, SN, SN]
def pickF (n : Int) : List Int → List Int → List Int
  | pre, [] => pre
  | pre, x :: l => if atI (x % n) 0 pre < 0 then pickF n (pre ++ [x % n]) l else pickF n pre l
def pickS (l : List Int) (n : Nat) : List Int := if n = 0 then [] else pickF n [] l
def U8s (l : List Int) : Prop := ∀ c ∈ l, 0 ≤ c ∧ c < 256
theorem pickF_drop {n : Int} {pre l : List Int} {i : Nat} (h : i < l.length) : pickF n pre (l.drop i) = if atI (l.getD i 0 % n) 0 pre < 0 then pickF n (pre ++ [l.getD i 0 % n]) (l.drop (i + 1)) else pickF n pre (l.drop (i + 1)) := by
  have g : l.getD i 0 = l[i] := by simp [List.getD_eq_getElem?_getD, h]
  rw [List.drop_eq_getElem_cons h, g]
  rfl
theorem few_nums {l : List Int} {n : Nat} (h : l.Nodup) (hb : ∀ x ∈ l, 0 ≤ x ∧ x < (n : Int)) : l.length ≤ n := by
  have key := nodup_bound n (l.map Int.toNat) ?_ ?_
  · rwa [List.length_map] at key
  · have hp := List.pairwise_iff_getElem.1 h
    refine List.pairwise_iff_getElem.2 fun i j hi hj hij e => ?_
    rw [List.length_map] at hi hj
    rw [List.getElem_map, List.getElem_map] at e
    have h1 := hb _ (List.getElem_mem hi)
    have h2 := hb _ (List.getElem_mem hj)
    exact hp i j hi hj hij (by omega)
  · intro x hx
    obtain ⟨y, hy, rfl⟩ := List.mem_map.1 hx
    have := hb y hy
    omega
theorem pick_add {n : Nat} {pre : List Int} {k : Int} (h : pre.Nodup ∧ ∀ y ∈ pre, 0 ≤ y ∧ y < (n : Int)) (h0 : 0 ≤ k) (h1 : k < n) (hq : atI k 0 pre < 0) : (pre ++ [k]).Nodup ∧ ∀ y ∈ pre ++ [k], 0 ≤ y ∧ y < (n : Int) := by
  have h2 : k ∉ pre := atI_none.1 hq
  refine ⟨?_, fun y hy => ?_⟩
  · rw [List.nodup_append]
    exact ⟨h.1, by simp, fun a ha b hb e => h2 (by rw [List.mem_singleton] at hb; rw [← hb, ← e]; exact ha)⟩
  · rcases List.mem_append.1 hy with h3 | h3
    · exact h.2 y h3
    · rw [List.mem_singleton] at h3
      rw [h3]
      exact ⟨h0, h1⟩
end Go.Ab.A15
namespace Go.Proofs.YtblfodnajpamfaaGreatDoor
open Go Go.Ab Go.Ab.A34 Go.Ab.A15
variable [Gl] [Tabs]
theorem rtab_big (x : Rc) (m : Nat) (h : m < x.rows.length) : PCall Tryz.prog 34 [RC x, I64 m] (.tup [TZ, SB false]) := by
  have hi : ((m : Nat) : Int) < ((x.rows.length : Nat) : Int) := by omega
  obtain ⟨a, g, l⟩ := x
  simp only at hi
  refine Call.enter' (N := 18) (rs := [.cell 4 75, .tmp 5]) Tryz.func34 rfl rfl rfl (by decide) rfl ?_; simp only [argT]; have hD : (0 : Nat) = 0 := rfl
  repeat' first | (refine SW.seq_k fun K hK => ?_) | ((first | refine SW.region ?_ | refine SW.cond ?_ | refine SW.ret ?_ | (refine allF_i fun b hb => ?_; replace hD := And.intro hb hD; clear hb; try simp only [fresh_cons, fresh_nil, and_true, ne_eq, neF] at hD)); try simp only [go_sem, hD, hi]) | (apply hK; clear hK K)
  apply ret_cell (i := 4) (n := 3); exact rfl; (simp only [go_sem, hD]; try rfl); (first | exact Nat.le_refl _ | decide); simp only [resL_tmp, resL_cellE, resC_ok, resL_nil, tupOf, getN, go_sem, hD]
theorem rtab_r (x : Rc) (hx : okRc x) (m : Nat) (h : x.rows.length ≤ m) (hm : m ≤ 1000) : PCall Tryz.prog 34 [RC x, I64 m] (.tup [TB (tabS x), SB true]) := by
  have hi : ¬ ((m : Nat) : Int) < ((x.rows.length : Nat) : Int) := by omega
  have a1 : x.attrs.tmod 6 = x.attrs % 6 := Int.tmod_eq_emod_of_nonneg hx.1.1
  have a2 : IntKind.i64.wrap (x.attrs % 6) = (((x.attrs % 6).toNat : Nat) : Int) := by rw [i64_wrap (by omega) (by omega)]; omega
  have wr := wide_r x hx (x.attrs % 6).toNat (by omega) (by omega)
  unfold tabS
  generalize wideS x (x.attrs % 6).toNat = t at *
  obtain ⟨a, g, l⟩ := x
  simp only at hi a1 a2 wr
  refine Call.enter' (N := 18) (rs := [.cell 4 75, .tmp 5]) Tryz.func34 rfl rfl rfl (by decide) rfl ?_; simp only [argT]; have hD : (0 : Nat) = 0 := rfl
  repeat' first | (refine SW.seq_k fun K hK => ?_) | ((first | refine SW.region ?_ | refine SW.cond ?_ | refine SW.skip ?_ | refine SW.ret ?_ | refine Call.of_pure (wr) ?_ | (refine allF_i fun b hb => ?_; replace hD := And.intro hb hD; clear hb; try simp only [fresh_cons, fresh_nil, and_true, ne_eq, neF] at hD)); try simp only [go_sem, hD, hi, a1, a2]) | (apply hK; clear hK K)
  apply ret_cell (i := 4) (n := 3); exact rfl; (simp only [go_sem, hD]; try rfl); (first | exact Nat.le_refl _ | decide); simp only [resL_tmp, resL_cellE, resC_ok, resL_nil, tupOf, getN, go_sem, hD]
theorem at_o (b : Nat) (h : Heap) (l : List Int) (hl : l.length ≤ 1000000000000) (hH : h.find b = some (.ints .i64 l)) (x : Int) : Ab.Call Tryz.prog 65 [.os b 0 l.length 1, I64 x] h (fun r h' => r = I64 (atI x 0 l) ∧ h' = h) :=
  Call.lend_ints (args := [.os b 0 l.length 1, I64 x]) 0 .i64 l (by simp) rfl rfl hH rfl (at_r x l l.length (by omega) rfl (iF l) (fun j hj => rfl))
theorem pick_r (l : List Int) (hl : U8s l) (hll : l.length ≤ 9223372036854775807) (n : Nat) (hn : n ≤ 1000) : PCall Tryz.prog 37 [UL l, I64 n] (IL (pickS l n)) := by
  by_cases h0 : n = 0
  · subst h0
    have hp : pickS l 0 = [] := rfl
    rw [hp]
    refine Call.enter' (N := 34) (rs := [.tmp 4]) Tryz.func37 rfl rfl rfl (by decide) rfl ?_; simp only [argT]; have hD : (0 : Nat) = 0 := rfl
    by_cases hl0 : 0 < l.length
    · have hli : (0 : Int) < ((l.length : Nat) : Int) := by omega
      repeat' first | (refine SW.seq_k fun K hK => ?_) | (refine SW.block ?_) | (refine SW.region ?_; try simp only [go_sem, hD]) | (apply hK; clear hK K)
      obtain ⟨J, hJ⟩ : ∃ J : Nat → St → Prop, ∀ m S, J m S ↔ S = ⟨[(0, UL l), (1, I64 (0 : Nat)), (5, SN), (6, I64 0)], []⟩ := ⟨fun m S => _, fun _ _ => Iff.rfl⟩
      refine SW.loop' J 0 ((hJ _ _).2 rfl) (by repeat' (first | exact rfl | exact trivial | constructor)) ?_
      intro m S hIn
      obtain rfl := (hJ _ _).1 hIn
      clear hIn
      repeat' first | (refine SW.seq_k fun K hK => ?_) | ((first | refine SW.region ?_ | refine SW.cond ?_ | refine SW.exit ?_ | refine SW.ret ?_); try simp only [go_sem, hD, hli, true_implies]) | (apply hK; clear hK K) | (clear hK K; apply hK; clear hK K)
      refine retQ_le (St.le_say (i := 4) (v := IL []) (fun E u hr => Rep.fl_nil hr)) ?_
      simp only [resL_tmp, resL_nil, tupOf, go_sem, hD]
    · have hli : ¬ (0 : Int) < ((l.length : Nat) : Int) := by omega
      repeat' first | (refine SW.seq_k fun K hK => ?_) | (refine SW.block ?_) | (refine SW.region ?_; try simp only [go_sem, hD]) | (apply hK; clear hK K)
      obtain ⟨J, hJ⟩ : ∃ J : Nat → St → Prop, ∀ m S, J m S ↔ S = ⟨[(0, UL l), (1, I64 (0 : Nat)), (5, SN), (6, I64 0)], []⟩ := ⟨fun m S => _, fun _ _ => Iff.rfl⟩
      refine SW.loop' J 0 ((hJ _ _).2 rfl) (by repeat' (first | exact rfl | exact trivial | constructor)) ?_
      intro m S hIn
      obtain rfl := (hJ _ _).1 hIn
      clear hIn
      repeat' first | (refine SW.seq_k fun K hK => ?_) | ((first | refine SW.region ?_ | refine SW.cond ?_ | refine SW.exit ?_ | refine SW.ret ?_); try simp only [go_sem, hD, hli, true_implies]) | (apply hK; clear hK K) | (clear hK K; apply hK; clear hK K)
      refine retQ_le (St.le_say (i := 4) (v := IL []) (fun E u hr => Rep.fl_nil hr)) ?_
      simp only [resL_tmp, resL_nil, tupOf, go_sem, hD]
  obtain ⟨R, hR⟩ : ∃ R, R = pickS l n := ⟨_, rfl⟩
  rw [← hR]
  have hC0 : R = pickF n [] (l.drop 0) := by rw [hR, pickS, if_neg h0, List.drop_zero]
  clear hR
  have n0 : (0 : Int) < ((n : Nat) : Int) := by omega
  refine Call.enter' (N := 34) (rs := [.tmp 4]) Tryz.func37 rfl rfl rfl (by decide) rfl ?_; simp only [argT]; have hD : (0 : Nat) = 0 := rfl
  repeat' first | (refine SW.seq_k fun K hK => ?_) | (refine SW.block ?_) | (refine SW.region ?_; try simp only [go_sem, hD]) | (apply hK; clear hK K)
  obtain ⟨I, hI⟩ : ∃ I : Nat → St → Prop, ∀ k S, I k S ↔ (∃ (i : Nat) (pre : List Int) (x : SV) (h : Heap), k = l.length - i ∧ i ≤ l.length ∧ R = pickF n pre (l.drop i) ∧ (pre.Nodup ∧ ∀ y ∈ pre, 0 ≤ y ∧ y < (n : Int)) ∧ ((pre = [] ∧ x = SN ∧ h = []) ∨ ∃ g, x = .os g 0 pre.length 1 ∧ h = [(g, .ints .i64 pre)]) ∧ S = ⟨[(0, UL l), (1, I64 n), (5, x), (6, I64 i)], h⟩) := ⟨fun k S => _, fun _ _ => Iff.rfl⟩
  refine SW.loop' I (l.length) ((hI _ _).2 ⟨0, [], SN, [], rfl, Nat.zero_le _, hC0, ⟨List.nodup_nil, fun y hy => by cases hy⟩, .inl ⟨rfl, rfl, rfl⟩, rfl⟩) (by repeat' (first | exact rfl | exact trivial | constructor)) ?_
  intro k S hIn
  obtain ⟨i, pre, x, h, rfl, hi, hC, hpn, hB, rfl⟩ := (hI _ _).1 hIn
  clear hIn
  have ie : ((i : Nat) : Int).toNat = i := Int.toNat_natCast _
  have i0 : (0 : Int) ≤ ((i : Nat) : Int) := by omega
  have hpl := few_nums hpn.1 hpn.2
  clear hC0
  by_cases hlt : i < l.length
  · have hli : ((i : Nat) : Int) < (((l.length) : Nat) : Int) := by omega
    have w1 : IntKind.i64.wrap ((i : Int) + 1) = ((i + 1 : Nat) : Int) := by rw [i64_wrap (by omega) (by omega)]; omega
    rw [pickF_drop hlt] at hC
    have hc := hl _ (getD_mem' 0 hlt)
    have fi : (fun j => [U8 (l.getD j 0)]) i = [U8 (l.getD i 0)] := rfl
    obtain ⟨c, hcd⟩ : ∃ c, c = l.getD i 0 := ⟨_, rfl⟩
    rw [← hcd] at hC hc
    have a1 : c.tmod n = c % n := Int.tmod_eq_emod_of_nonneg hc.1
    have hm0 := Int.emod_nonneg c (show (n : Int) ≠ 0 by omega)
    have hm1 := Int.emod_lt_of_pos c n0
    have a2 : IntKind.i64.wrap (c % n) = c % n := by rw [i64_wrap (by omega) (by omega)]
    have a3 : IntKind.i64.wrap (l.getD i 0) = c := by rw [← hcd, i64_wrap (by omega) (by omega)]
    have nz : ¬ ((n : Nat) : Int) = 0 := by omega
    generalize c % (n : Int) = k at *
    have ba : (pre.length + 1) * 8 ≤ 140737488355328 := by omega
    rcases hB with ⟨rfl, rfl, rfl⟩ | ⟨g, rfl, rfl⟩
    · have ca := at_r k [] 0 (by omega) rfl (iF []) (fun j hj => rfl)
      have hat : atI k 0 [] = -1 := rfl
      rw [hat] at ca hC
      rw [if_pos (by omega)] at hC
      have hC2 : R = pickF n [k] (l.drop (i + 1)) := hC
      have hD : (0 : Nat) = 0 := rfl
      repeat' first | (((with_reducible refine Call.nil_ints 0 .i64 ?_ ?_ ?_); (simp); (rfl); (simp only [List.set_cons_zero]); (refine Call.of_pure ca ?_); (try simp only [go_sem, hD]))) | (with_reducible refine And.intro (by omega) ?_) | (refine SW.seq_k fun K hK => ?_) | (refine SW.block ?_) | ((first | refine SW.region ?_ | refine SW.cond ?_ | refine SW.skip ?_ | (refine allF_i fun b hb => ?_; replace hD := And.intro hb hD; clear hb; try simp only [fresh_cons, fresh_nil, and_true, ne_eq, neF] at hD) | simp only [appK, appOsK]); try simp only [go_sem, hD, hli, ie, i0, w1, n0, nz, a1, a2, a3, true_implies]) | (refine And.intro (by omega) ?_) | (apply hK; clear hK K)
      all_goals
        obtain ⟨c1, rfl⟩ : ∃ x, x = b := ⟨_, rfl⟩
        refine Rnd.le (St.le_only ?_) (Rnd.sub (l.length - (i + 1)) (by omega) ((hI _ _).2 ⟨i + 1, [k], .os c1 0 1 1, [(c1, .ints .i64 [k])], rfl, by omega, hC2, pick_add (pre := []) ⟨List.nodup_nil, fun y hy => by cases hy⟩ hm0 hm1 (by show (-1 : Int) < 0; omega), .inr ⟨c1, rfl, rfl⟩, rfl⟩) (by repeat' (first | exact rfl | exact trivial | constructor)))
        repeat (first | exact List.mem_cons_self | apply List.mem_cons_of_mem)
    · have ca := fun b h hH => at_o b h pre (by omega) hH k
      have hD : (0 : Nat) = 0 := rfl
      by_cases hq : atI k 0 pre < 0
      · rw [if_pos hq] at hC
        have hl2 : (pre ++ [k]).length = pre.length + 1 := by rw [List.length_append]; rfl
        have hpn2 := pick_add hpn hm0 hm1 hq
        generalize atI k 0 pre = q at *
        repeat' first | ((refine Call.mono (ca _ _ (by simp [find_cons, hD])) ?_); (intro r h' hx); (obtain ⟨rfl, rfl⟩ := hx); (try simp only [go_sem, hD, hq])) | (with_reducible refine And.intro (by omega) ?_) | (refine SW.seq_k fun K hK => ?_) | (refine SW.block ?_) | ((first | refine SW.region ?_ | refine SW.cond ?_ | refine SW.skip ?_ | (refine allF_i fun b hb => ?_; replace hD := And.intro hb hD; clear hb; try simp only [fresh_cons, fresh_nil, and_true, ne_eq, neF] at hD) | simp only [appK, appOsK]); try simp only [go_sem, hD, hli, ie, i0, w1, n0, nz, a1, a2, a3, hq, ba, true_implies]) | (apply hK; clear hK K)
        all_goals
          obtain ⟨c1, rfl⟩ : ∃ x, x = b := ⟨_, rfl⟩
          rw [← hl2]
          refine Rnd.le (St.le_only ?_) (Rnd.sub (l.length - (i + 1)) (by omega) ((hI _ _).2 ⟨i + 1, pre ++ [k], .os c1 0 (pre ++ [k]).length 1, [(c1, .ints .i64 (pre ++ [k]))], rfl, by omega, hC, hpn2, .inr ⟨c1, rfl, rfl⟩, rfl⟩) (by repeat' (first | exact rfl | exact trivial | constructor)))
          repeat (first | exact List.mem_cons_self | apply List.mem_cons_of_mem)
      · rw [if_neg hq] at hC
        generalize atI k 0 pre = q at *
        repeat' first | ((refine Call.mono (ca _ _ (by simp [find_cons, hD])) ?_); (intro r h' hx); (obtain ⟨rfl, rfl⟩ := hx); (try simp only [go_sem, hD, hq])) | (refine SW.seq_k fun K hK => ?_) | (refine SW.block ?_) | ((first | refine SW.region ?_ | refine SW.cond ?_ | refine SW.skip ?_); try simp only [go_sem, hD, hli, ie, i0, w1, n0, nz, a1, a2, a3, hq, true_implies]) | (apply hK; clear hK K)
        all_goals
          refine Rnd.le (St.le_only ?_) (Rnd.sub (l.length - (i + 1)) (by omega) ((hI _ _).2 ⟨i + 1, pre, .os g 0 pre.length 1, [(g, .ints .i64 pre)], rfl, by omega, hC, hpn, .inr ⟨g, rfl, rfl⟩, rfl⟩) (by repeat' (first | exact rfl | exact trivial | constructor)))
          repeat (first | exact List.mem_cons_self | apply List.mem_cons_of_mem)
  · have hli : ¬ ((i : Nat) : Int) < (((l.length) : Nat) : Int) := by omega
    rw [List.drop_of_length_le (by omega)] at hC
    have hC2 : R = pre := hC
    subst hC2
    have hD : (0 : Nat) = 0 := rfl
    rcases hB with ⟨rfl, rfl, rfl⟩ | ⟨g, rfl, rfl⟩
    · repeat' first | (refine SW.seq_k fun K hK => ?_) | ((first | refine SW.region ?_ | refine SW.cond ?_ | refine SW.exit ?_ | refine SW.ret ?_); try simp only [go_sem, hD, hli, true_implies]) | (apply hK; clear hK K) | (clear hK K; apply hK; clear hK K)
      refine retQ_le (St.le_say (i := 4) (v := IL []) (fun E u hr => Rep.fl_nil hr)) ?_
      simp only [resL_tmp, resL_nil, tupOf, go_sem, hD]
    · repeat' first | (refine SW.seq_k fun K hK => ?_) | ((first | refine SW.region ?_ | refine SW.cond ?_ | refine SW.exit ?_ | refine SW.ret ?_); try simp only [go_sem, hD, hli, true_implies]) | (apply hK; clear hK K) | (clear hK K; apply hK; clear hK K)
      refine retQ_le (St.le_ints (i := 4) .i64 R rfl rfl (by rw [find_cons, if_pos rfl]) rfl) ?_
      simp only [resL_tmp, resL_nil, tupOf, del_cons, go_sem, hD]
      all_goals exact rfl
end Go.Proofs.YtblfodnajpamfaaGreatDoor
namespace Go.Ab.A15
open Go Go.Ab Go.Ab.A34
def rc0 : Rc := ⟨0, 0, []⟩
def nmT (i : Nat) : ByteArray := if i = 0 then ⟨#[114]⟩ else if i = 1 then ⟨#[115]⟩ else ⟨#[116]⟩
def cutR (x : Rc) : Rc := ⟨x.attrs % 4, x.gap, x.rows⟩
def tabD (x : Rc) (i : Nat) : Tb := ⟨nmT i, (tabS (cutR x)).attrs, (tabS (cutR x)).rows⟩
def ofT (d : List Rc) : List Tb := (List.range (min d.length 3)).map fun i => tabD (d.getD i rc0) i
abbrev RF (d : List Rc) (i : Nat) : List SV := RCC (d.getD i rc0)
abbrev RcL (d : List Rc) : SV := .fl d.length 3 (RF d)
def goodD (d : List Rc) : Prop := ∀ i, i < min d.length 3 → (d.getD i rc0).rows.length ≤ 6
instance (d : List Rc) : Decidable (goodD d) := by unfold goodD; infer_instance
def ofV (d : List Rc) : SV := if goodD d then .tup [DB (ofT d), SB (decide (d.length ≤ 3))] else .tup [.agg [SN], SB false]
structure Lk where
  f : Int
  t : Int
  l : List Int
  r : List Int
def lk0 : Lk := ⟨0, 0, [], []⟩
abbrev LkC (x : Lk) : List SV := [U8 x.f, U8 x.t, UL x.l, UL x.r]
abbrev LkV (x : Lk) : SV := .agg (LkC x)
abbrev LkF (l : List Lk) (i : Nat) : List SV := LkC (l.getD i lk0)
abbrev LkL (l : List Lk) : SV := .fl l.length 4 (LkF l)
structure OkK (x : Lk) : Prop where
  f : 0 ≤ x.f ∧ x.f < 256
  t : 0 ≤ x.t ∧ x.t < 256
  l : U8s x.l
  r : U8s x.r
  nl : x.l.length ≤ 9223372036854775807
  nr : x.r.length ≤ 9223372036854775807
def indS (db : List Tb) (x : Lk) : Dp :=
  let f := db.getD (x.f % db.length).toNat t0
  let t := db.getD (x.t % db.length).toNat t0
  let l := pickS x.l f.attrs.length
  let r := pickS x.r t.attrs.length
  ⟨f.name, l.take (min l.length r.length), t.name, r.take (min l.length r.length)⟩
theorem il_take (l : List Int) (n : Nat) (h : n ≤ l.length) {E : Env} {u : Value} (hr : Rep E u (.fl n 1 (iF l))) : Rep E u (IL (l.take n)) := by
  have e : (l.take n).length = n := by rw [List.length_take]; omega
  unfold IL
  rw [e]
  exact Rep.fl_congr (fun i hi => iF_take hi) hr
end Go.Ab.A15
namespace Go.Proofs.YtblfodnajpamfaaGreatDoor
open Go Go.Ab Go.Ab.A34 Go.Ab.A15
variable [Gl] [Tabs]
theorem ind_r (db : List Tb) (x : Lk) (hx : OkK x) (h0 : 0 < db.length) (h1 : db.length ≤ 1000000) (hat : ∀ t ∈ db, t.attrs.length ≤ 1000) : PCall Tryz.prog 12 [DB db, LkV x] (DV (indS db x)) := by
  have hf := hx.f
  have ht := hx.t
  have p0 : (0 : Int) < ((db.length : Nat) : Int) := by omega
  have nz : ¬ ((db.length : Nat) : Int) = 0 := by omega
  have wf : IntKind.i64.wrap x.f = x.f := i64_wrap (by omega) (by omega)
  have wt : IntKind.i64.wrap x.t = x.t := i64_wrap (by omega) (by omega)
  have mf : x.f.tmod db.length = x.f % db.length := Int.tmod_eq_emod_of_nonneg hf.1
  have mt : x.t.tmod db.length = x.t % db.length := Int.tmod_eq_emod_of_nonneg ht.1
  have f1 := Int.emod_nonneg x.f nz
  have f2 := Int.emod_lt_of_pos x.f p0
  have t1 := Int.emod_nonneg x.t nz
  have t2 := Int.emod_lt_of_pos x.t p0
  have fw : IntKind.i64.wrap (x.f % db.length) = x.f % db.length := i64_wrap (by omega) (by omega)
  have tw : IntKind.i64.wrap (x.t % db.length) = x.t % db.length := i64_wrap (by omega) (by omega)
  unfold indS
  have ff : tF db (x.f % db.length).toNat = tC (db.getD (x.f % db.length).toNat t0) := rfl
  have ft : tF db (x.t % db.length).toNat = tC (db.getD (x.t % db.length).toNat t0) := rfl
  have af := hat _ (getD_mem' t0 (show (x.f % db.length).toNat < db.length by omega))
  have at' := hat _ (getD_mem' t0 (show (x.t % db.length).toNat < db.length by omega))
  generalize x.f % (db.length : Int) = p at *
  generalize x.t % (db.length : Int) = q at *
  generalize db.getD p.toNat t0 = tf at *
  generalize db.getD q.toNat t0 = tt at *
  obtain ⟨fn, fa, fr⟩ := tf
  obtain ⟨tn, ta, tr⟩ := tt
  simp only at af at' ⊢
  have c1 := pick_r x.l hx.l hx.nl fa.length (by omega)
  have c2 := pick_r x.r hx.r hx.nr ta.length (by omega)
  obtain ⟨xf, xt, xl, xr⟩ := x
  simp only at wf wt mf mt c1 c2 ⊢
  generalize pickS xl fa.length = L at *
  generalize pickS xr ta.length = R at *
  refine PCall.sayR (r := .agg [Str fn, .fl (min L.length R.length) 1 (iF L), Str tn, .fl (min L.length R.length) 1 (iF R)]) ?_ fun E v => Rep.agg_mono rfl fun j hj u hr => ?_
  rotate_left
  · match j, hj with
    | 0, _ => exact hr
    | 1, _ => exact il_take L _ (by omega) hr
    | 2, _ => exact hr
    | 3, _ => exact il_take R _ (by omega) hr
  have mi : (if ((R.length : Nat) : Int) < ((L.length : Nat) : Int) then ((R.length : Nat) : Int) else ((L.length : Nat) : Int)) = ((min L.length R.length : Nat) : Int) := by split <;> omega
  have m0 : (0 : Int) ≤ ((min L.length R.length : Nat) : Int) := by omega
  have m1 : ((min L.length R.length : Nat) : Int) ≤ ((L.length : Nat) : Int) := by omega
  have m2 : ((min L.length R.length : Nat) : Int) ≤ ((R.length : Nat) : Int) := by omega
  have me : (((min L.length R.length : Nat) : Int) - 0).toNat = min L.length R.length := by omega
  generalize min L.length R.length = n at *
  refine Call.enter' (N := 60) (rs := [.cell 4 39]) Tryz.func12 rfl rfl rfl (by decide) rfl ?_; simp only [argT]; have hD : (0 : Nat) = 0 := rfl
  repeat' first | (refine SW.seq_k fun K hK => ?_) | ((first | refine SW.region ?_ | (refine allF_i fun b hb => ?_; replace hD := And.intro hb hD; clear hb; try simp only [fresh_cons, fresh_nil, and_true, ne_eq, neF] at hD)); try simp only [go_sem, hD]) | (apply hK; clear hK K)
  obtain ⟨rb, rfl⟩ : ∃ x, x = b := ⟨_, rfl⟩
  obtain ⟨kb, rfl⟩ : ∃ x, x = b := ⟨_, rfl⟩
  obtain ⟨db', rfl⟩ : ∃ x, x = b := ⟨_, rfl⟩
  refine Ab.SW.le ((St.le_freezeP (i := 2) (b := db') (off := 0) (n := 1) (k := .svs [TL db]) rfl (by simp [find_cons, hD]) (by exact Nat.le_refl 1)).trans ((St.le_freezeP (i := 3) (b := kb) (off := 0) (n := 4) (k := .svs (LkC ⟨xf, xt, xl, xr⟩)) rfl (by simp [find_cons, del_cons, hD]) (by exact Nat.le_refl 4)).trans (St.le_pick [(rb, .svs [Str ⟨#[]⟩, SN, Str ⟨#[]⟩, SN])] ?_ ?_))) ?_
  · simp [del_cons, hD]
    try rfl
  · simp
  clear hD
  have hD : (0 : Nat) = 0 := rfl
  simp only [getN, Blk.get]
  repeat' first | (refine SW.seq_k fun K hK => ?_) | ((first | refine SW.region ?_ | refine SW.regionX (id := 1) (Checked.mixed Tryz.checked) ((.one 0 [0, 1, 9, 10, 24, 25] (.one 1 [1, 9, 10, 24, 25] (.one 2 [2, 3, 4, 8, 9, 10, 24, 25] (.one 3 [3, 4, 8, 9, 10, 24, 25] (.one 4 [4, 8, 9, 10, 24, 25] (.one 5 [5, 6, 7, 8, 9, 10, 24, 25] (.one 6 [6, 7, 8, 9, 10, 24, 25] (.one 7 [7, 8, 9, 10, 24, 25] (.one 8 [8, 9, 10, 24, 25] (.one 9 [9, 10, 24, 25] (.one 10 [10, 24, 25] (.fre 11 [11, 12, 20, 21, 25] (.fre 12 [12, 20, 21, 25] (.fre 13 [13, 14, 15, 19, 20, 21, 25] (.fre 14 [14, 15, 19, 20, 21, 25] (.fre 15 [15, 19, 20, 21, 25] (.fre 16 [16, 17, 18, 19, 20, 21, 25] (.fre 17 [17, 18, 19, 20, 21, 25] (.fre 18 [18, 19, 20, 21, 25] (.fre 19 [19, 20, 21, 25] (.fre 20 [20, 21, 25] (.fre 21 [21, 25] (.alt 22 (.alt 23 (.alt 24 (.alt 25 .done .nil) .nil) .nil) (.alt 23 (.alt 22 (.alt 24 (.alt 25 .done .nil) .nil) .nil) .nil)))))))))))))))))))))))) : OX) (by kernel_rfl) ?_ | refine SW.regionZ (id := 2) (Checked.mixed Tryz.checked) ((.one 0 [0, 1, 5, 11, 12, 13] (.one 1 [1, 5, 11, 12, 13] (.one 2 [2, 3, 4, 5, 11, 12, 13] (.one 3 [3, 4, 5, 11, 12, 13] (.one 4 [4, 5, 11, 12, 13] (.one 5 [5, 11, 12, 13] (.one 6 [6, 7, 11, 12, 13] (.one 7 [7, 11, 12, 13] (.one 8 [8, 9, 10, 11, 12, 13] (.one 9 [9, 10, 11, 12, 13] (.one 10 [10, 11, 12, 13] (.one 11 [11, 12, 13] (.one 12 [12, 13] (.one 13 [13] .done)))))))))))))) : OZ) (by kernel_rfl) ?_ | refine SW.regionZ (id := 4) (Checked.mixed Tryz.checked) ((.one 0 [0, 1, 10, 11] (.one 1 [1, 10, 11] (.one 2 [2, 4, 10, 11] (.one 3 [3, 4, 10, 11] (.one 4 [4, 10, 11] (.one 5 [5, 6, 10, 11] (.one 6 [6, 10, 11] (.one 7 [7, 9, 10, 11] (.one 8 [8, 9, 10, 11] (.one 9 [9, 10, 11] (.one 10 [10, 11] (.alt 11 .done .nil)))))))))))) : OZ) (by kernel_rfl) ?_ | refine SW.ret ?_ | refine ⟨_, c1, ?_⟩ | refine ⟨_, c2, ?_⟩ | (refine allF_i fun b hb => ?_; replace hD := And.intro hb hD; clear hb; try simp only [fresh_cons, fresh_nil, and_true, ne_eq, neF] at hD)); try simp only [go_sem, hD, wf, wt, mf, mt, fw, tw, f1, f2, t1, t2, ff, ft, nz, mi, m0, m1, m2, me, true_implies]) | (apply hK; clear hK K) | (refine And.intro ?_ ?_)
  all_goals
    apply ret_cell (i := 4) (n := 4); exact rfl; (simp only [go_sem, hD]; try rfl); (first | exact Nat.le_refl _ | decide); simp only [resL_tmp, resL_cellE, resC_ok, resL_nil, tupOf, getN, go_sem, hD]
end Go.Proofs.YtblfodnajpamfaaGreatDoor
namespace Go.Ab.A15
open Go Go.Ab Go.Ab.A34
def outD (d : List Rc) (i : Nat) : List Tb := (List.range i).map fun j => tabD (d.getD j rc0) j
theorem outD_succ (d : List Rc) (i : Nat) : outD d (i + 1) = outD d i ++ [tabD (d.getD i rc0) i] := by
  unfold outD
  rw [List.range_succ, List.map_append]
  rfl
theorem outD_len (d : List Rc) (i : Nat) : (outD d i).length = i := by simp [outD]
def OkRcs (d : List Rc) : Prop := ∀ x ∈ d, okRc x
end Go.Ab.A15
def Go.Ab.zDC_1 : Go.Ab.OZ := (.one 0 [0, 2, 3, 4, 5, 16, 17, 18, 19, 20, 22, 23] (.one 1 [1, 2, 3, 4, 5, 16, 17, 18, 19, 20, 22, 23] (.one 2 [2, 3, 4, 5, 16, 17, 18, 19, 20, 22, 23] (.one 3 [3, 4, 5, 16, 17, 18, 19, 20, 22, 23] (.one 4 [4, 5, 16, 17, 18, 19, 20, 22, 23] (.one 5 [5, 16, 17, 18, 19, 20, 22, 23] (.one 6 [6, 8, 9, 10, 16, 17, 18, 19, 20, 22, 23] (.one 7 [7, 8, 9, 10, 16, 17, 18, 19, 20, 22, 23] (.one 8 [8, 9, 10, 16, 17, 18, 19, 20, 22, 23] (.one 9 [9, 10, 16, 17, 18, 19, 20, 22, 23] (.one 10 [10, 16, 17, 18, 19, 20, 22, 23] (.one 11 [11, 13, 14, 15, 16, 17, 18, 19, 20, 22, 23] (.one 12 [12, 13, 14, 15, 16, 17, 18, 19, 20, 22, 23] (.one 13 [13, 14, 15, 16, 17, 18, 19, 20, 22, 23] (.one 14 [14, 15, 16, 17, 18, 19, 20, 22, 23] (.one 15 [15, 16, 17, 18, 19, 20, 22, 23] (.one 16 [16, 17, 18, 19, 20, 22, 23] (.one 17 [17, 18, 19, 20, 22, 23] (.one 18 [18, 19, 20, 22, 23] (.one 19 [19, 22, 23] (.alt 20 (.alt 21 (.alt 22 (.one 23 [23] .done) .nil) .nil) (.alt 21 (.alt 20 (.alt 22 (.one 23 [23] .done) .nil) (.alt 22 (.one 20 [20, 23] (.one 23 [23] .done)) .nil)) .nil))))))))))))))))))))))
namespace Go.Proofs.YtblfodnajpamfaaGreatDoor
open Go Go.Ab Go.Ab.A34 Go.Ab.A15
variable [Gl] [Tabs]
theorem of_r (d : List Rc) (hd : OkRcs d) (hl : d.length ≤ 9223372036854775807) : PCall Tryz.prog 9 [RcL d] (ofV d) := by
  obtain ⟨V, hV⟩ : ∃ V, V = ofV d := ⟨_, rfl⟩
  rw [← hV]
  have h6 : ((6 : Nat) : Int) = 6 := rfl
  refine Call.enter' (N := 57) (rs := [.cell 2 30, .tmp 3]) Tryz.func9 rfl rfl rfl (by decide) rfl ?_; simp only [argT]; have hD : (0 : Nat) = 0 := rfl
  repeat' first | (refine SW.seq_k fun K hK => ?_) | (refine SW.block ?_) | ((first | refine SW.region ?_ | (refine allF_i fun b hb => ?_; replace hD := And.intro hb hD; clear hb; try simp only [fresh_cons, fresh_nil, and_true, ne_eq, neF] at hD)); try simp only [go_sem, hD]) | (apply hK; clear hK K)
  obtain ⟨ob, rfl⟩ : ∃ x, x = b := ⟨_, rfl⟩
  obtain ⟨rb, rfl⟩ : ∃ x, x = b := ⟨_, rfl⟩
  have k1 : ¬ ob = rb := by simp [hD]
  have k2 : ¬ rb = ob := by simp [hD]
  clear hD
  have hE := And.intro (eq_false k1) (eq_false k2)
  obtain ⟨I, hI⟩ : ∃ I : Nat → St → Prop, ∀ k S, I k S ↔ (∃ (i : Nat) (h : Heap), k = min d.length 3 - i ∧ i ≤ min d.length 3 ∧ (∀ j, j < i → (d.getD j rc0).rows.length ≤ 6) ∧ ((i = 0 ∧ h = [(ob, .svs [SN]), (rb, .svs [SN])]) ∨ (0 < i ∧ ∃ g, fresh [(ob, .svs []), (rb, .svs [])] g ∧ h = [(g, .svs (fC tC (outD d i))), (ob, .svs [.os g 0 i 3]), (rb, .svs [SN])])) ∧ S = ⟨[(0, RcL d), (2, .op rb 0), (3, SB false), (4, .op ob 0), (5, I64 i)], h⟩) := ⟨fun k S => _, fun _ _ => Iff.rfl⟩
  refine SW.loop' I (min d.length 3) ((hI _ _).2 ⟨0, _, rfl, Nat.zero_le _, (fun j hj => absurd hj (Nat.not_lt_zero _)), .inl ⟨rfl, rfl⟩, rfl⟩) (by repeat' (first | exact rfl | exact trivial | constructor)) ?_
  intro k S hIn
  obtain ⟨i, h, rfl, hi, hG, hB, rfl⟩ := (hI _ _).1 hIn
  clear hIn
  have ie : ((i : Nat) : Int).toNat = i := Int.toNat_natCast _
  have i0 : (0 : Int) ≤ ((i : Nat) : Int) := by omega
  have u0 : ∀ g1, fresh [(ob, .svs []), (rb, .svs [])] g1 → ((ob = g1) = False ∧ (g1 = ob) = False) ∧ ((rb = g1) = False ∧ (g1 = rb) = False) := fun g1 u1 => by simpa only [fresh_cons, fresh_nil, and_true, ne_eq, neF] using u1
  by_cases hlt : i < min d.length 3
  · have hli : ((i : Nat) : Int) < ((d.length : Nat) : Int) := by omega
    have hl3 : ((i : Nat) : Int) < 3 := by omega
    have i3 : i < 3 := by omega
    have w1 : IntKind.i64.wrap ((i : Int) + 1) = ((i + 1 : Nat) : Int) := by rw [i64_wrap (by omega) (by omega)]; omega
    have hx := hd _ (getD_mem' rc0 (show i < d.length by omega))
    have hsc := outD_succ d i
    have fi : RF d i = RCC (d.getD i rc0) := rfl
    have hol := outD_len d i
    have hol2 := outD_len d (i + 1)
    have hgd : ¬ (d.getD i rc0).rows.length ≤ 6 → ¬ goodD d := fun h1 h2 => h1 (h2 i hlt)
    have hG2 : (d.getD i rc0).rows.length ≤ 6 → ∀ j, j < i + 1 → (d.getD j rc0).rows.length ≤ 6 := fun h1 j hj => by
      rcases Nat.lt_or_eq_of_le (Nat.lt_succ_iff.1 hj) with h | h
      · exact hG j h
      · rw [h]; exact h1
    have a1 : (d.getD i rc0).attrs.tmod 4 = (d.getD i rc0).attrs % 4 := Int.tmod_eq_emod_of_nonneg hx.1.1
    have hok : okRc (cutR (d.getD i rc0)) := ⟨⟨by show 0 ≤ (d.getD i rc0).attrs % 4; omega, by show (d.getD i rc0).attrs % 4 < 256; omega⟩, hx.2⟩
    by_cases h7 : (d.getD i rc0).rows.length ≤ 6
    · have c := rtab_r (cutR (d.getD i rc0)) hok 6 h7 (by omega)
      rw [h6] at c
      replace hG2 := hG2 h7
      clear hgd hG h7
      unfold tabD at hsc
      unfold cutR at c hsc
      generalize d.getD i rc0 = x at *
      obtain ⟨xa, xg, xl⟩ := x
      simp only at c hsc a1
      generalize tabS ⟨xa % 4, xg, xl⟩ = t at *
      obtain ⟨tn, ta, tr⟩ := t
      simp only at c hsc
      have gm : [Str ⟨#[114]⟩, Str ⟨#[115]⟩, Str ⟨#[116]⟩].getD i SV.any = Str (nmT i) := by
        rcases (by omega : i = 0 ∨ i = 1 ∨ i = 2) with rfl | rfl | rfl <;> rfl
      have z0 : 0 + i * 1 = i := by omega
      have hsn : fC tC (outD d (i + 1)) = fC tC (outD d i) ++ [Str (nmT i), SL ta, RL tr] := by rw [hsc, ← fC_snoc]
      have lc : i * 3 = (fC tC (outD d i)).length := by
        have := fC_len (enc := tC) (k := 3) (fun _ => rfl) (outD d i)
        rwa [hol] at this
      have ba : (i + 1) * 64 ≤ 140737488355328 := by omega
      rcases hB with ⟨hm0, rfl⟩ | ⟨hm0, g, u1, rfl⟩
      · subst hm0
        have hs0 : fC tC (outD d (0 + 1)) = [Str (nmT 0), SL ta, RL tr] := hsn
        have hD := hE
        repeat' first | (with_reducible refine And.intro (by omega) ?_) | (refine SW.seq_k fun K hK => ?_) | (refine SW.block ?_) | ((first | refine SW.region ?_ | refine SW.regionZ (id := 5) (Checked.mixed Tryz.checked) Go.Ab.zDC_1 (by kernel_rfl) ?_ | refine SW.cond ?_ | refine SW.skip ?_ | refine ⟨_, c, ?_⟩ | (refine allF_i fun b hb => ?_; replace hD := And.intro hb hD; clear hb; try simp only [fresh_cons, fresh_nil, and_true, ne_eq, neF] at hD) | simp only [appK, appOsK]); try simp only [Go.Ab.zDC_1, go_sem, hD, hli, hl3, i3, ie, i0, w1, fi, a1, gm, z0, true_implies]) | (refine And.intro (by omega) ?_) | (refine ifI (fun hc => ?_) (fun hc => ?_) <;> first | (exfalso; omega) | skip) | (apply hK; clear hK K) | (refine And.intro ?_ ?_)
        all_goals
          obtain ⟨c1, rfl⟩ : ∃ x, x = b := ⟨_, rfl⟩
          refine Rnd.le (St.le_pick _ ?_ ?_) (Rnd.sub (min d.length 3 - (0 + 1)) (by omega) ((hI _ _).2 ⟨0 + 1, [(c1, .svs [Str (nmT 0), SL ta, RL tr]), (ob, .svs [.os c1 0 1 3]), (rb, .svs [SN])], rfl, by omega, hG2, .inr ⟨by omega, c1, by simp [fresh_cons, fresh_nil, hD], by rw [hs0]⟩, rfl⟩) (by repeat' (first | exact rfl | exact trivial | constructor)))
          · repeat' (first | exact (fun x hx => (List.not_mem_nil hx).elim) | refine List.forall_mem_cons.2 ⟨?_, ?_⟩ | exact List.mem_cons_self | apply List.mem_cons_of_mem)
          · simp [fresh_cons, fresh_nil, hD]
      · have hD := And.intro (u0 g u1) hE
        repeat' first | (with_reducible refine And.intro (by omega) ?_) | (refine SW.seq_k fun K hK => ?_) | (refine SW.block ?_) | ((first | refine SW.region ?_ | refine SW.regionZ (id := 5) (Checked.mixed Tryz.checked) Go.Ab.zDC_1 (by kernel_rfl) ?_ | refine SW.cond ?_ | refine SW.skip ?_ | refine ⟨_, c, ?_⟩ | (refine allF_i fun b hb => ?_; replace hD := And.intro hb hD; clear hb; try simp only [fresh_cons, fresh_nil, and_true, ne_eq, neF] at hD) | simp only [appK, appOsK]); try simp only [Go.Ab.zDC_1, go_sem, hD, hli, hl3, i3, ie, i0, w1, fi, a1, gm, z0, ba, lc, true_implies]) | (apply hK; clear hK K) | (refine And.intro ?_ ?_)
        all_goals
          obtain ⟨c1, rfl⟩ : ∃ x, x = b := ⟨_, rfl⟩
          refine Rnd.le (St.le_pick _ ?_ ?_) (Rnd.sub (min d.length 3 - (i + 1)) (by omega) ((hI _ _).2 ⟨i + 1, [(c1, .svs (fC tC (outD d i) ++ [Str (nmT i), SL ta, RL tr])), (ob, .svs [.os c1 0 (i + 1) 3]), (rb, .svs [SN])], rfl, by omega, hG2, .inr ⟨by omega, c1, by simp [fresh_cons, fresh_nil, hD], by rw [hsn]⟩, rfl⟩) (by repeat' (first | exact rfl | exact trivial | constructor)))
          · repeat' (first | exact (fun x hx => (List.not_mem_nil hx).elim) | refine List.forall_mem_cons.2 ⟨?_, ?_⟩ | exact List.mem_cons_self | apply List.mem_cons_of_mem)
          · simp [fresh_cons, fresh_nil, hD]
    · have c := rtab_big (cutR (d.getD i rc0)) 6 (by show 6 < (d.getD i rc0).rows.length; omega)
      rw [h6] at c
      have hV2 : V = .tup [.agg [SN], SB false] := by rw [hV]; unfold ofV; exact if_neg (hgd h7)
      clear hV hgd hG hG2
      subst hV2
      unfold cutR at c
      generalize d.getD i rc0 = x at *
      obtain ⟨xa, xg, xl⟩ := x
      simp only at c a1
      rcases hB with ⟨hm0, rfl⟩ | ⟨hm0, g, u1, rfl⟩
      · have hD := hE
        repeat' first | (refine SW.seq_k fun K hK => ?_) | (refine SW.block ?_) | ((first | refine SW.region ?_ | refine SW.regionZ (id := 5) (Checked.mixed Tryz.checked) Go.Ab.zDC_1 (by kernel_rfl) ?_ | refine SW.cond ?_ | refine SW.skip ?_ | refine SW.ret ?_ | refine ⟨_, c, ?_⟩ | (refine allF_i fun b hb => ?_; replace hD := And.intro hb hD; clear hb; try simp only [fresh_cons, fresh_nil, and_true, ne_eq, neF] at hD)); try simp only [Go.Ab.zDC_1, go_sem, hD, hli, hl3, i3, ie, i0, w1, fi, a1, true_implies]) | (apply hK; clear hK K) | (refine And.intro ?_ ?_)
        all_goals
          apply ret_cell (i := 2) (n := 1); exact rfl; (simp only [go_sem, hD]; try rfl); (first | exact Nat.le_refl _ | decide); simp only [resL_tmp, resL_cellE, resC_ok, resL_nil, tupOf, getN, go_sem, hD]
      · have hD := And.intro (u0 g u1) hE
        repeat' first | (refine SW.seq_k fun K hK => ?_) | (refine SW.block ?_) | ((first | refine SW.region ?_ | refine SW.regionZ (id := 5) (Checked.mixed Tryz.checked) Go.Ab.zDC_1 (by kernel_rfl) ?_ | refine SW.cond ?_ | refine SW.skip ?_ | refine SW.ret ?_ | refine ⟨_, c, ?_⟩ | (refine allF_i fun b hb => ?_; replace hD := And.intro hb hD; clear hb; try simp only [fresh_cons, fresh_nil, and_true, ne_eq, neF] at hD)); try simp only [Go.Ab.zDC_1, go_sem, hD, hli, hl3, i3, ie, i0, w1, fi, a1, true_implies]) | (apply hK; clear hK K) | (refine And.intro ?_ ?_)
        all_goals
          apply ret_cell (i := 2) (n := 1); exact rfl; (simp only [go_sem, hD]; try rfl); (first | exact Nat.le_refl _ | decide); simp only [resL_tmp, resL_cellE, resC_ok, resL_nil, tupOf, getN, go_sem, hD]
  · obtain rfl : i = min d.length 3 := by omega
    have hgood : goodD d := fun j hj => hG j hj
    have hV2 : V = .tup [DB (ofT d), SB (decide (d.length ≤ 3))] := by rw [hV]; unfold ofV; exact if_pos hgood
    have hol : (ofT d).length = min d.length 3 := outD_len d _
    have hoD : outD d (min d.length 3) = ofT d := rfl
    rw [hoD] at hB
    clear hV hG hgood hoD
    subst hV2
    apply Ab.SW.le (S' := ⟨[(0, RcL d), (2, .op rb 0), (3, SB false), (4, .op ob 0), (5, I64 (min d.length 3 : Nat))], [(ob, .svs [TL (ofT d)]), (rb, .svs [SN])]⟩)
    · rcases hB with ⟨hm0, rfl⟩ | ⟨hm0, g, u1, rfl⟩
      · have e2 : ofT d = [] := List.eq_nil_of_length_eq_zero (by omega)
        rw [e2]
        have s1 := St.le_nilC (t := [(0, RcL d), (2, .op rb 0), (3, SB false), (4, .op ob 0), (5, I64 (min d.length 3 : Nat))]) (h := [(ob, .svs [SN]), (rb, .svs [SN])]) (c := ob) (j := 0) (sz := 3) (f := tF []) (by rw [find_cons, if_pos rfl]) (by show 0 < 1; omega) rfl
        rw [upd_cons, if_pos rfl] at s1
        exact s1
      · simp only [fresh_cons, fresh_nil, and_true, ne_eq] at u1
        obtain ⟨⟨v1, v2⟩, _⟩ := u1
        have s1 := St.le_freezeC (t := [(0, RcL d), (2, .op rb 0), (3, SB false), (4, .op ob 0), (5, I64 (min d.length 3 : Nat))]) (h := [(g, .svs (fC tC (ofT d))), (ob, .svs [.os g 0 (min d.length 3) 3]), (rb, .svs [SN])]) (c := ob) (j := 0) (b := g) (off := 0) (len := min d.length 3) (sz := 3) (by rw [find_cons, if_neg v2, find_cons, if_pos rfl]) v1 (by show 0 < 1; omega) rfl (by rw [find_cons, if_pos rfl]) (by show 0 + min d.length 3 * 3 ≤ (fC tC (ofT d)).length; rw [← fC_len (enc := tC) (k := 3) (fun _ => rfl)]; omega) (tF (ofT d)) (fun j hj => by
          rw [getN_take _ _ _ (by show 0 + j * 3 + 3 ≤ (fC tC (ofT d)).length; have := fC_lt (enc := tC) (k := 3) (fun _ => rfl) (show j < (ofT d).length by omega) (show 2 < 3 by omega); omega), Nat.zero_add]
          exact fC_at (enc := tC) (k := 3) (fun _ => rfl) t0 (ofT d) j (by omega))
        rw [del_cons, if_pos rfl, upd_cons, if_pos rfl] at s1
        rw [show TL (ofT d) = .fl (min d.length 3) 3 (tF (ofT d)) by unfold TL; rw [hol]]
        exact s1
    · have hD := hE
      generalize ofT d = T at *
      by_cases h3 : d.length < 3
      · have hmi : min d.length 3 = d.length := by omega
        have hli : ¬ ((d.length : Nat) : Int) < ((d.length : Nat) : Int) := by omega
        have hle : ((d.length : Nat) : Int) ≤ 3 := by omega
        have hle2 : d.length ≤ 3 := by omega
        rw [hmi]
        repeat' first | (refine SW.seq_k fun K hK => ?_) | ((first | refine SW.region ?_ | refine SW.cond ?_ | refine SW.exit ?_ | refine SW.ret ?_); try simp only [go_sem, hD, hli, hle, hle2, true_implies]) | (apply hK; clear hK K) | (clear hK K; apply hK; clear hK K)
        all_goals
          apply ret_cell (i := 2) (n := 1); exact rfl; (simp only [go_sem, hD]; try rfl); (first | exact Nat.le_refl _ | decide); simp only [resL_tmp, resL_cellE, resC_ok, resL_nil, tupOf, getN, go_sem, hD]
      · have hmi : min d.length 3 = 3 := by omega
        have hli : (3 : Int) < ((d.length : Nat) : Int) ∨ ¬ (3 : Int) < ((d.length : Nat) : Int) := by omega
        have h33 : ((3 : Nat) : Int) = 3 := rfl
        have hdi : decide (((d.length : Nat) : Int) ≤ 3) = decide (d.length ≤ 3) := by rw [Bool.eq_iff_iff, decide_eq_true_iff, decide_eq_true_iff]; omega
        rw [hmi, h33]
        rcases hli with hli | hli
        · repeat' first | (refine SW.seq_k fun K hK => ?_) | ((first | refine SW.region ?_ | refine SW.cond ?_ | refine SW.exit ?_ | refine SW.ret ?_); try simp only [go_sem, hD, hli, hdi, true_implies]) | (apply hK; clear hK K) | (clear hK K; apply hK; clear hK K)
          all_goals
            apply ret_cell (i := 2) (n := 1); exact rfl; (simp only [go_sem, hD]; try rfl); (first | exact Nat.le_refl _ | decide); simp only [resL_tmp, resL_cellE, resC_ok, resL_nil, tupOf, getN, go_sem, hD]
        · repeat' first | (refine SW.seq_k fun K hK => ?_) | ((first | refine SW.region ?_ | refine SW.cond ?_ | refine SW.exit ?_ | refine SW.ret ?_); try simp only [go_sem, hD, hli, hdi, true_implies]) | (apply hK; clear hK K) | (clear hK K; apply hK; clear hK K)
          all_goals
            apply ret_cell (i := 2) (n := 1); exact rfl; (simp only [go_sem, hD]; try rfl); (first | exact Nat.le_refl _ | decide); simp only [resL_tmp, resL_cellE, resC_ok, resL_nil, tupOf, getN, go_sem, hD]
end Go.Proofs.YtblfodnajpamfaaGreatDoor
namespace Go.Ab.A15
open Go Go.Ab Go.Ab.A34
def outK (db : List Tb) (l : List Lk) (i : Nat) : List Dp := (List.range i).map fun j => indS db (l.getD j lk0)
theorem outK_succ (db : List Tb) (l : List Lk) (i : Nat) : outK db l (i + 1) = outK db l i ++ [indS db (l.getD i lk0)] := by
  unfold outK
  rw [List.range_succ, List.map_append]
  rfl
theorem outK_len (db : List Tb) (l : List Lk) (i : Nat) : (outK db l i).length = i := by simp [outK]
theorem outK_all (db : List Tb) (l : List Lk) : outK db l l.length = l.map (indS db) := by
  refine List.ext_getElem (by simp [outK]) fun i h1 h2 => ?_
  simp at h2
  simp [outK, List.getD_eq_getElem?_getD, h2]
def OkKs (l : List Lk) : Prop := ∀ x ∈ l, OkK x
end Go.Ab.A15
def Go.Ab.zDD_1 : Go.Ab.OZ := (.one 0 [0, 8, 9] (.one 1 [1, 6, 7, 8, 9] (.one 2 [2, 4, 5, 6, 7, 8, 9] (.one 3 [3, 4, 5, 6, 7, 8, 9] (.one 4 [4, 5, 6, 7, 8, 9] (.one 5 [5, 6, 7, 8, 9] (.one 6 [6, 7, 8, 9] (.alt 7 (.alt 8 (.one 9 [9] .done) .nil) .nil))))))))
namespace Go.Proofs.YtblfodnajpamfaaGreatDoor
open Go Go.Ab Go.Ab.A34 Go.Ab.A15
variable [Gl] [Tabs]
theorem list_nil (l : List Lk) : PCall Tryz.prog 10 [.agg [SN], LkL l] (.tup [SN, SB false]) := by
  by_cases h : 5 < l.length
  · have hi : (5 : Int) < ((l.length : Nat) : Int) := by omega
    refine Call.enter' (N := 33) (rs := [.tmp 4, .tmp 5]) Tryz.func10 rfl rfl rfl (by decide) rfl ?_; simp only [argT]; have hD : (0 : Nat) = 0 := rfl
    repeat' first | (refine SW.seq_k fun K hK => ?_) | ((first | refine SW.region ?_ | refine SW.cond ?_ | refine SW.ret ?_ | (refine allF_i fun b hb => ?_; replace hD := And.intro hb hD; clear hb; try simp only [fresh_cons, fresh_nil, and_true, ne_eq, neF] at hD)); try simp only [go_sem, hD, hi]) | (apply hK; clear hK K)
    refine ret_pure ?_; simp only [resL_tmp, resL_nil, tupOf, go_sem, hD]
  · have hi : ¬ (5 : Int) < ((l.length : Nat) : Int) := by omega
    refine Call.enter' (N := 33) (rs := [.tmp 4, .tmp 5]) Tryz.func10 rfl rfl rfl (by decide) rfl ?_; simp only [argT]; have hD : (0 : Nat) = 0 := rfl
    repeat' first | (refine SW.seq_k fun K hK => ?_) | ((first | refine SW.region ?_ | refine SW.cond ?_ | refine SW.ret ?_ | (refine allF_i fun b hb => ?_; replace hD := And.intro hb hD; clear hb; try simp only [fresh_cons, fresh_nil, and_true, ne_eq, neF] at hD)); try simp only [go_sem, hD, hi]) | (apply hK; clear hK K)
    refine ret_pure ?_; simp only [resL_tmp, resL_nil, tupOf, go_sem, hD]
theorem list_bad (db : List Tb) (l : List Lk) (h : 5 < l.length ∨ db = []) : PCall Tryz.prog 10 [DB db, LkL l] (.tup [SN, SB false]) := by
  by_cases h5 : 5 < l.length
  · have hi : (5 : Int) < ((l.length : Nat) : Int) := by omega
    refine Call.enter' (N := 33) (rs := [.tmp 4, .tmp 5]) Tryz.func10 rfl rfl rfl (by decide) rfl ?_; simp only [argT]; have hD : (0 : Nat) = 0 := rfl
    repeat' first | (refine SW.seq_k fun K hK => ?_) | ((first | refine SW.region ?_ | refine SW.cond ?_ | refine SW.ret ?_ | (refine allF_i fun b hb => ?_; replace hD := And.intro hb hD; clear hb; try simp only [fresh_cons, fresh_nil, and_true, ne_eq, neF] at hD)); try simp only [go_sem, hD, hi]) | (apply hK; clear hK K)
    refine ret_pure ?_; simp only [resL_tmp, resL_nil, tupOf, go_sem, hD]
  · have hi : ¬ (5 : Int) < ((l.length : Nat) : Int) := by omega
    obtain rfl : db = [] := h.resolve_left h5
    refine Call.enter' (N := 33) (rs := [.tmp 4, .tmp 5]) Tryz.func10 rfl rfl rfl (by decide) rfl ?_; simp only [argT]; have hD : (0 : Nat) = 0 := rfl
    repeat' first | (refine SW.seq_k fun K hK => ?_) | ((first | refine SW.region ?_ | refine SW.cond ?_ | refine SW.ret ?_ | (refine allF_i fun b hb => ?_; replace hD := And.intro hb hD; clear hb; try simp only [fresh_cons, fresh_nil, and_true, ne_eq, neF] at hD)); try simp only [go_sem, hD, hi]) | (apply hK; clear hK K)
    refine ret_pure ?_; simp only [resL_tmp, resL_nil, tupOf, go_sem, hD]
theorem list_r (db : List Tb) (l : List Lk) (hl : OkKs l) (h5 : l.length ≤ 5) (h0 : 0 < db.length) (h1 : db.length ≤ 1000000) (hat : ∀ t ∈ db, t.attrs.length ≤ 1000) : PCall Tryz.prog 10 [DB db, LkL l] (.tup [DpL (l.map (indS db)), SB true]) := by
  have hi5 : ¬ (5 : Int) < ((l.length : Nat) : Int) := by omega
  have hz : ¬ ((db.length : Nat) : Int) = 0 := by omega
  have ci := fun x hx => ind_r db x hx h0 h1 hat
  obtain ⟨F, hF⟩ : ∃ F, F = outK db l := ⟨_, rfl⟩
  have hFs : ∀ i, F (i + 1) = F i ++ [indS db (l.getD i lk0)] := fun i => by rw [hF]; exact outK_succ db l i
  have hFl : ∀ i, (F i).length = i := fun i => by rw [hF]; exact outK_len db l i
  rw [← outK_all, ← hF]
  clear hF
  refine Call.enter' (N := 33) (rs := [.tmp 4, .tmp 5]) Tryz.func10 rfl rfl rfl (by decide) rfl ?_; simp only [argT]; have hD : (0 : Nat) = 0 := rfl
  repeat' first | (refine SW.seq_k fun K hK => ?_) | (refine SW.block ?_) | ((first | refine SW.region ?_ | refine SW.cond ?_ | refine SW.skip ?_ | (refine allF_i fun b hb => ?_; replace hD := And.intro hb hD; clear hb; try simp only [fresh_cons, fresh_nil, and_true, ne_eq, neF] at hD)); try simp only [go_sem, hD, hi5, hz, true_implies]) | (apply hK; clear hK K)
  obtain ⟨db', rfl⟩ : ∃ x, x = b := ⟨_, rfl⟩
  clear hD
  refine Ab.SW.le (St.le_freezeP (i := 2) (b := db') (off := 0) (n := 1) (k := .svs [TL db]) rfl (by rw [find_cons, if_pos rfl]) (by exact Nat.le_refl 1)) ?_
  rw [del_head]
  simp only [getN, Blk.get]
  obtain ⟨I, hI⟩ : ∃ I : Nat → St → Prop, ∀ k S, I k S ↔ (∃ (i : Nat) (x : SV) (h : Heap), k = l.length - i ∧ i ≤ l.length ∧ ((i = 0 ∧ x = SN ∧ h = []) ∨ (0 < i ∧ ∃ g, x = .os g 0 i 4 ∧ h = [(g, .svs (fC dC (F i)))])) ∧ S = ⟨[(1, LkL l), (2, .fp [TL db]), (4, SN), (5, SB false), (6, x), (7, I64 i)], h⟩) := ⟨fun k S => _, fun _ _ => Iff.rfl⟩
  refine SW.loop' I (l.length) ((hI _ _).2 ⟨0, SN, [], rfl, Nat.zero_le _, .inl ⟨rfl, rfl, rfl⟩, rfl⟩) (by repeat' (first | exact rfl | exact trivial | constructor)) ?_
  intro k S hIn
  obtain ⟨i, x, h, rfl, hi, hB, rfl⟩ := (hI _ _).1 hIn
  clear hIn
  have ie : ((i : Nat) : Int).toNat = i := Int.toNat_natCast _
  have i0 : (0 : Int) ≤ ((i : Nat) : Int) := by omega
  by_cases hlt : i < l.length
  · have hli : ((i : Nat) : Int) < (((l.length) : Nat) : Int) := by omega
    have w1 : IntKind.i64.wrap ((i : Int) + 1) = ((i + 1 : Nat) : Int) := by rw [i64_wrap (by omega) (by omega)]; omega
    have c := ci _ (hl _ (getD_mem' lk0 hlt))
    have hsn : fC dC (F (i + 1)) = fC dC (F i) ++ dC (indS db (l.getD i lk0)) := by rw [hFs, ← fC_snoc]
    have fi : LkF l i = LkC (l.getD i lk0) := rfl
    have lc : i * 4 = (fC dC (F i)).length := by
      have := fC_len (enc := dC) (k := 4) (fun _ => rfl) (F i)
      rwa [hFl] at this
    have ba : (i + 1) * 80 ≤ 140737488355328 := by omega
    generalize indS db (l.getD i lk0) = d at *
    generalize l.getD i lk0 = x0 at *
    obtain ⟨xf, xt, xl, xr⟩ := x0
    obtain ⟨df, dl, dt, dr⟩ := d
    rcases hB with ⟨hm0, rfl, rfl⟩ | ⟨hm0, g, rfl, rfl⟩
    · subst hm0
      have hf0 : F 0 = [] := List.eq_nil_of_length_eq_zero (hFl 0)
      have hs0 : fC dC (F (0 + 1)) = dC ⟨df, dl, dt, dr⟩ := by rw [hsn, hf0]; rfl
      have hD : (0 : Nat) = 0 := rfl
      repeat' first | (with_reducible refine And.intro (by omega) ?_) | (refine SW.seq_k fun K hK => ?_) | (refine SW.block ?_) | ((first | refine SW.region ?_ | refine SW.regionZ (id := 7) (Checked.mixed Tryz.checked) Go.Ab.zDD_1 (by kernel_rfl) ?_ | refine SW.cond ?_ | refine SW.skip ?_ | refine ⟨_, c, ?_⟩ | (refine allF_i fun b hb => ?_; replace hD := And.intro hb hD; clear hb; try simp only [fresh_cons, fresh_nil, and_true, ne_eq, neF] at hD) | simp only [appK, appOsK]); try simp only [Go.Ab.zDD_1, go_sem, hD, hli, ie, i0, w1, fi, true_implies]) | (refine And.intro (by omega) ?_) | (refine ifI (fun hc => ?_) (fun hc => ?_) <;> first | (exfalso; omega) | skip) | (apply hK; clear hK K)
      all_goals
        obtain ⟨c1, rfl⟩ : ∃ x, x = b := ⟨_, rfl⟩
        refine Rnd.le (St.le_pick _ ?_ ?_) (Rnd.sub (l.length - (0 + 1)) (by omega) ((hI _ _).2 ⟨0 + 1, .os c1 0 1 4, [(c1, .svs (dC ⟨df, dl, dt, dr⟩))], rfl, by omega, .inr ⟨by omega, c1, rfl, by rw [hs0]⟩, rfl⟩) (by repeat' (first | exact rfl | exact trivial | constructor)))
        · repeat' (first | exact (fun x hx => (List.not_mem_nil hx).elim) | refine List.forall_mem_cons.2 ⟨?_, ?_⟩ | exact List.mem_cons_self | apply List.mem_cons_of_mem)
        · simp [fresh_cons, fresh_nil, hD]
    · have hD : (0 : Nat) = 0 := rfl
      repeat' first | (with_reducible refine And.intro (by omega) ?_) | (refine SW.seq_k fun K hK => ?_) | (refine SW.block ?_) | ((first | refine SW.region ?_ | refine SW.regionZ (id := 7) (Checked.mixed Tryz.checked) Go.Ab.zDD_1 (by kernel_rfl) ?_ | refine SW.cond ?_ | refine SW.skip ?_ | refine ⟨_, c, ?_⟩ | (refine allF_i fun b hb => ?_; replace hD := And.intro hb hD; clear hb; try simp only [fresh_cons, fresh_nil, and_true, ne_eq, neF] at hD) | simp only [appK, appOsK]); try simp only [Go.Ab.zDD_1, go_sem, hD, hli, ie, i0, w1, fi, ba, lc, true_implies]) | (apply hK; clear hK K)
      all_goals
        obtain ⟨c1, rfl⟩ : ∃ x, x = b := ⟨_, rfl⟩
        refine Rnd.le (St.le_pick _ ?_ ?_) (Rnd.sub (l.length - (i + 1)) (by omega) ((hI _ _).2 ⟨i + 1, .os c1 0 (i + 1) 4, [(c1, .svs (fC dC (F i) ++ dC ⟨df, dl, dt, dr⟩))], rfl, by omega, .inr ⟨by omega, c1, rfl, by rw [hsn]⟩, rfl⟩) (by repeat' (first | exact rfl | exact trivial | constructor)))
        · repeat' (first | exact (fun x hx => (List.not_mem_nil hx).elim) | refine List.forall_mem_cons.2 ⟨?_, ?_⟩ | exact List.mem_cons_self | apply List.mem_cons_of_mem)
        · simp [fresh_cons, fresh_nil, hD]
  · have hli : ¬ ((i : Nat) : Int) < (((l.length) : Nat) : Int) := by omega
    obtain rfl : i = l.length := by omega
    have hol := hFl l.length
    generalize F l.length = T at *
    have hD : (0 : Nat) = 0 := rfl
    rcases hB with ⟨hm0, rfl, rfl⟩ | ⟨hm0, g, rfl, rfl⟩
    · have e2 : T = [] := List.eq_nil_of_length_eq_zero (by omega)
      subst e2
      refine Ab.SW.le (St.le_say (i := 6) (v := DpL []) (fun E u hr => Rep.fl_nil hr)) ?_
      repeat' first | (refine SW.seq_k fun K hK => ?_) | ((first | refine SW.region ?_ | refine SW.cond ?_ | refine SW.exit ?_ | refine SW.ret ?_); try simp only [go_sem, hD, hli, true_implies]) | (apply hK; clear hK K) | (clear hK K; apply hK; clear hK K)
      refine ret_pure ?_; simp only [resL_tmp, resL_nil, tupOf, go_sem, hD]
    · refine Ab.SW.le (St.le_freeze (i := 6) (b := g) (off := 0) (len := l.length) (sz := 4) (k := .svs (fC dC T)) rfl (by rw [find_cons, if_pos rfl]) (by show 0 + l.length * 4 ≤ (fC dC T).length; rw [← fC_len (enc := dC) (k := 4) (fun _ => rfl)]; omega) (dpF T) (fun j hj => ?_)) ?_
      · rw [getN_take _ _ _ (by show 0 + j * 4 + 4 ≤ (fC dC T).length; have := fC_lt (enc := dC) (k := 4) (fun _ => rfl) (show j < T.length by omega) (show 3 < 4 by omega); omega), Nat.zero_add]
        exact fC_at (enc := dC) (k := 4) (fun _ => rfl) d0 T j (by omega)
      rw [show SV.fl l.length 4 (dpF T) = DpL T by unfold DpL; rw [hol]]
      repeat' first | (refine SW.seq_k fun K hK => ?_) | ((first | refine SW.region ?_ | refine SW.cond ?_ | refine SW.exit ?_ | refine SW.ret ?_); try simp only [go_sem, hD, hli, true_implies]) | (apply hK; clear hK K) | (clear hK K; apply hK; clear hK K)
      refine ret_pure ?_; simp only [resL_tmp, resL_nil, tupOf, go_sem, hD]
end Go.Proofs.YtblfodnajpamfaaGreatDoor
namespace Go.Ab.A15
open Go Go.Ab Go.Ab.A34
end Go.Ab.A15
namespace Go.Proofs.YtblfodnajpamfaaGreatDoor
open Go Go.Ab Go.Ab.A34 Go.Ab.A15
variable [Gl] [Tabs]
end Go.Proofs.YtblfodnajpamfaaGreatDoor
namespace Go.Ab.A15
open Go Go.Ab Go.Ab.A34
def cmpI (x y : Int) : Int := if x < y then -1 else if y < x then 1 else 0
def lexI : List Int → List Int → Int
  | [], [] => 0
  | [], _ :: _ => -1
  | _ :: _, [] => 1
  | x :: a, y :: b => if cmpI x y = 0 then lexI a b else cmpI x y
theorem lexI_step {a b : List Int} {i : Nat} (h : i < a.length) : lexI (a.drop i) (b.drop i) = if i < b.length then (if cmpI (a.getD i 0) (b.getD i 0) = 0 then lexI (a.drop (i + 1)) (b.drop (i + 1)) else cmpI (a.getD i 0) (b.getD i 0)) else 1 := by
  have g : a.getD i 0 = a[i] := by simp [List.getD_eq_getElem?_getD, h]
  rw [List.drop_eq_getElem_cons h, g]
  by_cases hb : i < b.length
  · have g2 : b.getD i 0 = b[i] := by simp [List.getD_eq_getElem?_getD, hb]
    rw [List.drop_eq_getElem_cons hb, g2, if_pos hb]
    rfl
  · rw [if_neg hb, List.drop_of_length_le (show b.length ≤ i by omega)]
    rfl
theorem lexI_end {a b : List Int} {i : Nat} (h : a.length ≤ i) : lexI (a.drop i) (b.drop i) = if i < b.length then -1 else 0 := by
  rw [List.drop_of_length_le h]
  by_cases hb : i < b.length
  · rw [List.drop_eq_getElem_cons hb, if_pos hb]
    rfl
  · rw [if_neg hb, List.drop_of_length_le (show b.length ≤ i by omega)]
    rfl
def gF (l : List (List Int)) (i : Nat) : List SV := [IL (l.getD i [])]
abbrev GL (l : List (List Int)) : SV := .fl l.length 1 (gF l)
def rowI (x : List Int) : Nat → List (List Int) → Int
  | _, [] => -1
  | i, y :: l => if y = x then (i : Int) else rowI x (i + 1) l
theorem rowI_step {x : List Int} {l : List (List Int)} {i : Nat} (h : i < l.length) : rowI x i (l.drop i) = if l.getD i [] = x then (i : Int) else rowI x (i + 1) (l.drop (i + 1)) := by
  have g : l.getD i [] = l[i] := by simp [List.getD_eq_getElem?_getD, h]
  rw [List.drop_eq_getElem_cons h, g]
  rfl
theorem rowI_mem {x : List Int} : ∀ {l : List (List Int)} {i : Nat}, 0 ≤ rowI x i l ↔ x ∈ l
  | [], i => by
    show (0 : Int) ≤ -1 ↔ _
    simp
  | y :: l, i => by
    unfold rowI
    by_cases h : y = x
    · rw [if_pos h]
      exact ⟨fun _ => by rw [h]; exact List.mem_cons_self, fun _ => by omega⟩
    · rw [if_neg h, rowI_mem, List.mem_cons]
      exact ⟨.inr, fun h2 => h2.resolve_left (Ne.symm h)⟩
end Go.Ab.A15
def Go.Ab.zDF_1 : Go.Ab.OZ := (.one 0 [0, 2, 3, 8] (.one 1 [1, 2, 3, 8] (.one 2 [2, 3, 8] (.one 3 [3, 8] (.one 4 [4, 6, 7, 8] (.one 5 [5, 6, 7, 8] (.one 6 [6, 7, 8] (.one 7 [7, 8] (.one 8 [8] .done)))))))))
namespace Go.Proofs.YtblfodnajpamfaaGreatDoor
open Go Go.Ab Go.Ab.A34 Go.Ab.A15
variable [Gl] [Tabs]
theorem eq_64 (a c : List Int) (ha : a.length ≤ 1000000000) (hc : c.length ≤ 1000000000) (n : Nat) (hn : c.length = n) (f : Nat → List SV) (hf : ∀ i, i < n → f i = [I64 (c.getD i 0)]) : PCall Tryz.prog 75 [IL a, .fl n 1 f] (SB (decide (a = c))) := by
  subst hn
  obtain ⟨X, hX⟩ : ∃ X, X = decide (a = c) := ⟨_, rfl⟩
  rw [← hX]
  have h0 : ¬ a.length = c.length → X = false := fun h => by rw [hX, decide_eq_false fun e => h (by rw [e])]
  have h1 : a.length = c.length → (∀ j, j < a.length → a.getD j 0 = c.getD j 0) → X = true := fun hl h => by rw [hX, decide_eq_true (list_eq hl h)]
  have h2 : ∀ j, ¬ a.getD j 0 = c.getD j 0 → X = false := fun j h => by rw [hX, decide_eq_false fun e => h (by rw [e])]
  clear hX
  by_cases hl : a.length = c.length
  · have hlq : ((a.length : Nat) : Int) = ((c.length : Nat) : Int) := by omega
    refine Call.enter' (N := 26) (rs := [.tmp 4]) Tryz.func75 rfl rfl rfl (by decide) rfl ?_; simp only [argT]; have hD : (0 : Nat) = 0 := rfl
    repeat' first | (refine SW.seq_k fun K hK => ?_) | (refine SW.block ?_) | ((first | refine SW.region ?_ | refine SW.cond ?_ | refine SW.skip ?_); try simp only [go_sem, hD, hlq]) | (apply hK; clear hK K)
    obtain ⟨I, hI⟩ : ∃ I : Nat → St → Prop, ∀ k S, I k S ↔ (∃ (i : Nat) , k = a.length - i ∧ i ≤ a.length ∧ (∀ j, j < i → a.getD j 0 = c.getD j 0) ∧ S = ⟨[(0, IL a), (1, .fl c.length 1 f), (11, IL a), (12, I64 a.length), (13, I64 i)], []⟩) := ⟨fun k S => _, fun _ _ => Iff.rfl⟩
    refine SW.loop' I (a.length) ((hI _ _).2 ⟨0, rfl, Nat.zero_le _, (fun j hj => absurd hj (by omega)), rfl⟩) (by repeat' (first | exact rfl | exact trivial | exact int_eq (by omega) | constructor)) ?_
    intro k S hIn
    obtain ⟨i, rfl, hi, hL, rfl⟩ := (hI _ _).1 hIn
    clear hIn
    have ie : ((i : Nat) : Int).toNat = i := Int.toNat_natCast _
    have i0 : (0 : Int) ≤ ((i : Nat) : Int) := by omega
    by_cases hlt : i < a.length
    · have hli : ((i : Nat) : Int) < (((a.length) : Nat) : Int) := by omega
      have w1 : IntKind.i64.wrap ((i : Int) + 1) = ((i + 1 : Nat) : Int) := by rw [i64_wrap (by omega) (by omega)]; omega
      have hlc : ((i : Nat) : Int) < ((c.length : Nat) : Int) := by omega
      have fi : iF a i = [I64 (a.getD i 0)] := rfl
      have gi := hf i (by omega)
      have h2i := h2 i
      have hn1 : a.getD i 0 = c.getD i 0 → ∀ j, j < i + 1 → a.getD j 0 = c.getD j 0 := fun h j hj => by
        rcases Nat.lt_or_ge j i with h3 | h3
        · exact hL j h3
        · obtain rfl : j = i := by omega
          exact h
      generalize a.getD i 0 = u at *
      generalize c.getD i 0 = v at *
      by_cases huv : u = v
      · have hn2 := hn1 huv
        repeat' first | (refine SW.seq_k fun K hK => ?_) | (refine SW.block ?_) | ((first | refine SW.region ?_ | refine SW.regionZ (id := 6) (Checked.mixed Tryz.checked) Go.Ab.zDF_1 (by kernel_rfl) ?_ | refine SW.cond ?_ | refine SW.skip ?_); try simp only [Go.Ab.zDF_1, go_sem, hD, hli, hlc, ie, i0, w1, fi, gi, huv]) | (apply hK; clear hK K)
        refine Rnd.sub (a.length - (i + 1)) (by omega) ((hI _ _).2 ⟨i + 1, rfl, by omega, hn2, rfl⟩) (by repeat' (first | exact rfl | exact trivial | constructor))
      · have hx := h2i huv
        subst hx
        repeat' first | (refine SW.seq_k fun K hK => ?_) | (refine SW.block ?_) | ((first | refine SW.region ?_ | refine SW.regionZ (id := 6) (Checked.mixed Tryz.checked) Go.Ab.zDF_1 (by kernel_rfl) ?_ | refine SW.cond ?_ | refine SW.skip ?_ | refine SW.ret ?_); try simp only [Go.Ab.zDF_1, go_sem, hD, hli, hlc, ie, i0, w1, fi, gi, huv]) | (apply hK; clear hK K)
        refine ret_pure ?_; simp only [resL_tmp, resL_nil, tupOf, go_sem, hD]
    · have hli : ¬ ((i : Nat) : Int) < (((a.length) : Nat) : Int) := by omega
      have hx := h1 hl fun j hj => hL j (by omega)
      subst hx
      have nl : ¬ ((c.length : Nat) : Int) < ((c.length : Nat) : Int) := by omega
      repeat' first | (refine SW.seq_k fun K hK => ?_) | ((first | refine SW.region ?_ | refine SW.cond ?_ | refine SW.exit ?_ | refine SW.ret ?_); try simp only [go_sem, hD, hli, nl]) | (apply hK; clear hK K) | (clear hK K; apply hK; clear hK K)
      refine ret_pure ?_; simp only [resL_tmp, resL_nil, tupOf, go_sem, hD]
  · have hlq : ¬ ((a.length : Nat) : Int) = ((c.length : Nat) : Int) := by omega
    have hx := h0 hl
    subst hx
    refine Call.enter' (N := 26) (rs := [.tmp 4]) Tryz.func75 rfl rfl rfl (by decide) rfl ?_; simp only [argT]; have hD : (0 : Nat) = 0 := rfl
    repeat' first | (refine SW.seq_k fun K hK => ?_) | ((first | refine SW.region ?_ | refine SW.cond ?_ | refine SW.ret ?_); try simp only [go_sem, hD, hlq]) | (apply hK; clear hK K)
    refine ret_pure ?_; simp only [resL_tmp, resL_nil, tupOf, go_sem, hD]
theorem cmp_64 (x y : Int) : PCall Tryz.prog 100 [I64 x, I64 y] (I64 (cmpI x y)) := by
  have nan : ∀ z, PCall Tryz.prog 127 [I64 z] (SB false) := fun z => by
    refine Call.enter' (N := 6) (rs := [.tmp 2]) Tryz.func127 rfl rfl rfl (by decide) rfl ?_; simp only [argT]; have hD : (0 : Nat) = 0 := rfl
    repeat' first | (refine SW.seq_k fun K hK => ?_) | ((first | refine SW.region ?_ | refine SW.ret ?_); try simp only [go_sem, hD]) | (apply hK; clear hK K)
    refine ret_pure ?_; simp only [resL_tmp, resL_nil, tupOf, go_sem, hD]
  have cx := nan x
  have cy := nan y
  obtain ⟨R, hR⟩ : ∃ R, R = cmpI x y := ⟨_, rfl⟩
  rw [← hR]
  unfold cmpI at hR
  by_cases h1 : x < y
  · rw [if_pos h1] at hR
    subst hR
    refine Call.enter' (N := 20) (rs := [.tmp 4]) Tryz.func100 rfl rfl rfl (by decide) rfl ?_; simp only [argT]; have hD : (0 : Nat) = 0 := rfl
    repeat' first | (refine SW.seq_k fun K hK => ?_) | ((first | refine SW.region ?_ | refine SW.cond ?_ | refine SW.skip ?_ | refine SW.ret ?_ | refine Call.of_pure (cx) ?_ | refine Call.of_pure (cy) ?_); try simp only [go_sem, hD, h1]) | (apply hK; clear hK K)
    refine ret_pure ?_; simp only [resL_tmp, resL_nil, tupOf, go_sem, hD]
  · rw [if_neg h1] at hR
    by_cases h2 : y < x
    · rw [if_pos h2] at hR
      subst hR
      refine Call.enter' (N := 20) (rs := [.tmp 4]) Tryz.func100 rfl rfl rfl (by decide) rfl ?_; simp only [argT]; have hD : (0 : Nat) = 0 := rfl
      repeat' first | (refine SW.seq_k fun K hK => ?_) | ((first | refine SW.region ?_ | refine SW.cond ?_ | refine SW.skip ?_ | refine SW.ret ?_ | refine Call.of_pure (cx) ?_ | refine Call.of_pure (cy) ?_); try simp only [go_sem, hD, h1, h2]) | (apply hK; clear hK K)
      refine ret_pure ?_; simp only [resL_tmp, resL_nil, tupOf, go_sem, hD]
    · rw [if_neg h2] at hR
      subst hR
      refine Call.enter' (N := 20) (rs := [.tmp 4]) Tryz.func100 rfl rfl rfl (by decide) rfl ?_; simp only [argT]; have hD : (0 : Nat) = 0 := rfl
      repeat' first | (refine SW.seq_k fun K hK => ?_) | ((first | refine SW.region ?_ | refine SW.cond ?_ | refine SW.skip ?_ | refine SW.ret ?_ | refine Call.of_pure (cx) ?_ | refine Call.of_pure (cy) ?_); try simp only [go_sem, hD, h1, h2]) | (apply hK; clear hK K)
      refine ret_pure ?_; simp only [resL_tmp, resL_nil, tupOf, go_sem, hD]
theorem lex_64 (a b : List Int) (ha : a.length ≤ 1000000000) (hb : b.length ≤ 1000000000) : PCall Tryz.prog 78 [IL a, IL b] (I64 (lexI a b)) := by
  obtain ⟨R, hR⟩ : ∃ R, R = lexI a b := ⟨_, rfl⟩
  rw [← hR]
  have hR0 : R = lexI (a.drop 0) (b.drop 0) := by rw [List.drop_zero, List.drop_zero]; exact hR
  clear hR
  refine Call.enter' (N := 36) (rs := [.tmp 4]) Tryz.func78 rfl rfl rfl (by decide) rfl ?_; simp only [argT]; have hD : (0 : Nat) = 0 := rfl
  repeat' first | (refine SW.seq_k fun K hK => ?_) | (refine SW.block ?_) | (refine SW.region ?_; try simp only [go_sem, hD]) | (apply hK; clear hK K)
  obtain ⟨I, hI⟩ : ∃ I : Nat → St → Prop, ∀ k S, I k S ↔ (∃ (i : Nat) , k = a.length - i ∧ i ≤ a.length ∧ R = lexI (a.drop i) (b.drop i) ∧ S = ⟨[(0, IL a), (1, IL b), (9, IL a), (10, I64 a.length), (11, I64 i)], []⟩) := ⟨fun k S => _, fun _ _ => Iff.rfl⟩
  refine SW.loop' I (a.length) ((hI _ _).2 ⟨0, rfl, Nat.zero_le _, hR0, rfl⟩) (by repeat' (first | exact rfl | exact trivial | constructor)) ?_
  intro k S hIn
  obtain ⟨i, rfl, hi, hC, rfl⟩ := (hI _ _).1 hIn
  clear hIn
  have ie : ((i : Nat) : Int).toNat = i := Int.toNat_natCast _
  have i0 : (0 : Int) ≤ ((i : Nat) : Int) := by omega
  clear hR0
  by_cases hlt : i < a.length
  · have hli : ((i : Nat) : Int) < (((a.length) : Nat) : Int) := by omega
    have w1 : IntKind.i64.wrap ((i : Int) + 1) = ((i + 1 : Nat) : Int) := by rw [i64_wrap (by omega) (by omega)]; omega
    rw [lexI_step hlt] at hC
    have fi : iF a i = [I64 (a.getD i 0)] := rfl
    by_cases hlb : i < b.length
    · rw [if_pos hlb] at hC
      have gi : iF b i = [I64 (b.getD i 0)] := rfl
      have hnb : ¬ ((b.length : Nat) : Int) ≤ ((i : Nat) : Int) := by omega
      have hbi : ((i : Nat) : Int) < ((b.length : Nat) : Int) := by omega
      have c := cmp_64 (a.getD i 0) (b.getD i 0)
      generalize cmpI (a.getD i 0) (b.getD i 0) = z at *
      generalize a.getD i 0 = u at *
      generalize b.getD i 0 = v at *
      by_cases hz : z = 0
      · rw [if_pos hz] at hC
        repeat' first | (refine SW.seq_k fun K hK => ?_) | (refine SW.block ?_) | ((first | refine SW.region ?_ | refine SW.cond ?_ | refine SW.skip ?_ | refine Call.of_pure (c) ?_); try simp only [go_sem, hD, hli, ie, i0, w1, fi, gi, hnb, hbi, hz, true_implies]) | (apply hK; clear hK K)
        refine Rnd.sub (a.length - (i + 1)) (by omega) ((hI _ _).2 ⟨i + 1, rfl, by omega, hC, rfl⟩) (by repeat' (first | exact rfl | exact trivial | constructor))
      · rw [if_neg hz] at hC
        subst hC
        repeat' first | (refine SW.seq_k fun K hK => ?_) | (refine SW.block ?_) | ((first | refine SW.region ?_ | refine SW.cond ?_ | refine SW.skip ?_ | refine SW.ret ?_ | refine Call.of_pure (c) ?_); try simp only [go_sem, hD, hli, ie, i0, w1, fi, gi, hnb, hbi, hz, true_implies]) | (apply hK; clear hK K)
        refine ret_pure ?_; simp only [resL_tmp, resL_nil, tupOf, go_sem, hD]
    · rw [if_neg hlb] at hC
      subst hC
      have hnb : ((b.length : Nat) : Int) ≤ ((i : Nat) : Int) := by omega
      repeat' first | (refine SW.seq_k fun K hK => ?_) | (refine SW.block ?_) | ((first | refine SW.region ?_ | refine SW.cond ?_ | refine SW.skip ?_ | refine SW.ret ?_); try simp only [go_sem, hD, hli, ie, i0, w1, fi, hnb, true_implies]) | (apply hK; clear hK K)
      refine ret_pure ?_; simp only [resL_tmp, resL_nil, tupOf, go_sem, hD]
  · have hli : ¬ ((i : Nat) : Int) < (((a.length) : Nat) : Int) := by omega
    rw [lexI_end (by omega)] at hC
    have hia : i = a.length := by omega
    by_cases hlb : i < b.length
    · rw [if_pos hlb] at hC
      subst hC
      have hab : ((a.length : Nat) : Int) < ((b.length : Nat) : Int) := by omega
      repeat' first | (refine SW.seq_k fun K hK => ?_) | ((first | refine SW.region ?_ | refine SW.cond ?_ | refine SW.exit ?_ | refine SW.ret ?_); try simp only [go_sem, hD, hli, hab, true_implies]) | (apply hK; clear hK K) | (clear hK K; apply hK; clear hK K)
      refine ret_pure ?_; simp only [resL_tmp, resL_nil, tupOf, go_sem, hD]
    · rw [if_neg hlb] at hC
      subst hC
      have hab : ¬ ((a.length : Nat) : Int) < ((b.length : Nat) : Int) := by omega
      repeat' first | (refine SW.seq_k fun K hK => ?_) | ((first | refine SW.region ?_ | refine SW.cond ?_ | refine SW.skip ?_ | refine SW.exit ?_ | refine SW.ret ?_); try simp only [go_sem, hD, hli, hab, true_implies]) | (apply hK; clear hK K) | (clear hK K; apply hK; clear hK K)
      refine ret_pure ?_; simp only [resL_tmp, resL_nil, tupOf, go_sem, hD]
theorem has_64 (l : List (List Int)) (row : List Int) (hl : l.length ≤ 1000000000) (hr : row.length ≤ 1000000000) (hs : ∀ r ∈ l, r.length ≤ 1000000000) : PCall Tryz.prog 73 [GL l, .fn (.func 74) [] [.fp [IL row]]] (SB (decide (row ∈ l))) := by
  have c1 : ∀ r ∈ l, PCall Tryz.prog 74 [IL r, .fp [IL row]] (SB (decide (r = row))) := fun r hm => by
    have ce := eq_64 r row (hs r hm) hr row.length rfl (iF row) (fun j hj => rfl)
    generalize decide (r = row) = w at *
    refine Call.enter' (N := 7) (rs := [.tmp 3]) Tryz.func74 rfl rfl rfl (by decide) rfl ?_; simp only [argT]; have hD : (0 : Nat) = 0 := rfl
    repeat' first | (refine SW.seq_k fun K hK => ?_) | ((first | refine SW.region ?_ | refine SW.ret ?_ | refine Call.of_pure (ce) ?_); try simp only [go_sem, hD]) | (apply hK; clear hK K)
    refine ret_pure ?_; simp only [resL_tmp, resL_nil, tupOf, go_sem, hD]
  have ix : PCall Tryz.prog 97 [GL l, .fn (.func 74) [] [.fp [IL row]]] (I64 (rowI row 0 l)) := by
    obtain ⟨R, hR⟩ : ∃ R, R = rowI row 0 l := ⟨_, rfl⟩
    rw [← hR]
    refine Call.enter' (N := 19) (rs := [.tmp 4]) Tryz.func97 rfl rfl rfl (by decide) rfl ?_; simp only [argT]; have hD : (0 : Nat) = 0 := rfl
    repeat' first | (refine SW.seq_k fun K hK => ?_) | (refine SW.block ?_) | (refine SW.region ?_; try simp only [go_sem, hD]) | (apply hK; clear hK K)
    obtain ⟨I, hI⟩ : ∃ I : Nat → St → Prop, ∀ k S, I k S ↔ (∃ (i : Nat) , k = l.length - i ∧ i ≤ l.length ∧ R = rowI row i (l.drop i) ∧ S = ⟨[(0, GL l), (1, .fn (.func 74) [] [.fp [IL row]]), (7, I64 l.length), (8, I64 i)], []⟩) := ⟨fun k S => _, fun _ _ => Iff.rfl⟩
    refine SW.loop' I (l.length) ((hI _ _).2 ⟨0, rfl, Nat.zero_le _, by rw [List.drop_zero]; exact hR, rfl⟩) (by repeat' (first | exact rfl | exact trivial | constructor)) ?_
    intro k S hIn
    obtain ⟨i, rfl, hi, hC, rfl⟩ := (hI _ _).1 hIn
    clear hIn
    have ie : ((i : Nat) : Int).toNat = i := Int.toNat_natCast _
    have i0 : (0 : Int) ≤ ((i : Nat) : Int) := by omega
    clear hR
    by_cases hlt : i < l.length
    · have hli : ((i : Nat) : Int) < (((l.length) : Nat) : Int) := by omega
      have w1 : IntKind.i64.wrap ((i : Int) + 1) = ((i + 1 : Nat) : Int) := by rw [i64_wrap (by omega) (by omega)]; omega
      rw [rowI_step hlt] at hC
      have fi : gF l i = [IL (l.getD i [])] := rfl
      have c := c1 _ (getD_mem' [] hlt)
      generalize l.getD i [] = t at *
      by_cases he : t = row
      · rw [if_pos he] at hC
        rw [decide_eq_true he] at c
        subst hC
        repeat' first | (refine SW.seq_k fun K hK => ?_) | (refine SW.block ?_) | ((first | refine SW.region ?_ | refine SW.cond ?_ | refine SW.skip ?_ | refine SW.ret ?_ | refine Call.of_pure (c) ?_); try simp only [go_sem, hD, hli, ie, i0, w1, fi]) | (apply hK; clear hK K)
        refine ret_pure ?_; simp only [resL_tmp, resL_nil, tupOf, go_sem, hD]
      · rw [if_neg he] at hC
        rw [decide_eq_false he] at c
        repeat' first | (refine SW.seq_k fun K hK => ?_) | (refine SW.block ?_) | ((first | refine SW.region ?_ | refine SW.cond ?_ | refine SW.skip ?_ | refine Call.of_pure (c) ?_); try simp only [go_sem, hD, hli, ie, i0, w1, fi]) | (apply hK; clear hK K)
        refine Rnd.sub (l.length - (i + 1)) (by omega) ((hI _ _).2 ⟨i + 1, rfl, by omega, hC, rfl⟩) (by repeat' (first | exact rfl | exact trivial | constructor))
    · have hli : ¬ ((i : Nat) : Int) < (((l.length) : Nat) : Int) := by omega
      rw [List.drop_of_length_le (by omega)] at hC
      have hC2 : R = -1 := hC
      subst hC2
      repeat' first | (refine SW.seq_k fun K hK => ?_) | ((first | refine SW.region ?_ | refine SW.cond ?_ | refine SW.exit ?_ | refine SW.ret ?_); try simp only [go_sem, hD, hli]) | (apply hK; clear hK K) | (clear hK K; apply hK; clear hK K)
      refine ret_pure ?_; simp only [resL_tmp, resL_nil, tupOf, go_sem, hD]
  have e : decide (row ∈ l) = decide (0 ≤ rowI row 0 l) := by rw [Bool.eq_iff_iff, decide_eq_true_iff, decide_eq_true_iff]; exact rowI_mem.symm
  rw [e]
  generalize rowI row 0 l = R at *
  refine Call.enter' (N := 9) (rs := [.tmp 4]) Tryz.func73 rfl rfl rfl (by decide) rfl ?_; simp only [argT]; have hD : (0 : Nat) = 0 := rfl
  repeat' first | (refine SW.seq_k fun K hK => ?_) | ((first | refine SW.region ?_ | refine SW.ret ?_ | refine Call.of_pure (ix) ?_); try simp only [go_sem, hD]) | (apply hK; clear hK K)
  refine ret_pure ?_; simp only [resL_tmp, resL_nil, tupOf, go_sem, hD]
end Go.Proofs.YtblfodnajpamfaaGreatDoor
namespace Go.Ab
open Go
theorem PCall.nilA [Gl] {P : Program} {f : FuncId} {args : List SV} {r : SV} (i : Nat) {sz : Nat} {g : Nat → List SV} (hi : i < args.length) (ha : args.getD i .any = .sc (.slice none 0 0)) (hc : PCall P f (args.set i (.fl 0 sz g)) r) : PCall P f args r := by
  refine Call.le (fun c hc => hc) (fun M w vs own hr => ⟨own, by simpa using hr.1, fun j hj => ?_⟩) hc
  rw [getD_set hi]
  have h0 := hr.2 j (by simpa using hj)
  by_cases hij : i = j
  · subst hij
    rw [if_pos rfl]
    rw [ha] at h0
    exact Rep.fl_nil h0
  · rw [if_neg hij]; exact h0
end Go.Ab
namespace Go.Ab.A15
open Go Go.Ab Go.Ab.A34
abbrev gC (l : List (List Int)) : List SV := l.map fun r => IL r
theorem gC_get {l : List (List Int)} {j : Nat} (h : j < l.length) : (gC l).getD j .any = IL (l.getD j []) := by simp [gC, List.getD_eq_getElem?_getD, h]
end Go.Ab.A15
def Go.Ab.zDG_1 : Go.Ab.OX := (.one 5 [5, 6, 7, 8, 10, 11, 14, 15, 16] (.one 6 [6, 7, 8, 10, 11, 14, 15, 16] (.one 7 [7, 8, 10, 11, 14, 15, 16] (.one 8 [8, 10, 11, 14, 15, 16] (.one 9 [9, 10, 11, 14, 15, 16] (.one 10 [10, 11, 14, 15, 16] (.one 11 [11, 14, 15, 16] (.one 12 [12, 13, 14, 15, 16] (.fre 0 [0, 1, 2, 3, 15, 16] (.fre 1 [1, 2, 3, 15, 16] (.fre 2 [2, 3, 15, 16] (.fre 4 [4, 15, 16] (.alt 3 (.alt 13 (.alt 14 (.one 15 [15, 16] (.alt 16 .done .nil)) .nil) .nil) (.alt 13 (.alt 3 (.alt 14 (.one 15 [15, 16] (.alt 16 .done .nil)) .nil) (.alt 14 (.one 3 [3, 15, 16] (.one 15 [15, 16] (.alt 16 .done .nil))) .nil)) .nil))))))))))))))
namespace Go.Proofs.YtblfodnajpamfaaGreatDoor
open Go Go.Ab Go.Ab.A34 Go.Ab.A15
variable [Gl] [Tabs]
theorem has_o (b : Nat) (h : Heap) (l : List (List Int)) (row : List Int) (hl : l.length ≤ 1000000000) (hr : row.length ≤ 1000000000) (hs : ∀ r ∈ l, r.length ≤ 1000000000) (hH : h.find b = some (.svs (gC l))) : Ab.Call Tryz.prog 73 [.os b 0 l.length 1, .fn (.func 74) [] [.fp [IL row]]] h (fun r h' => r = SB (decide (row ∈ l)) ∧ h' = h) :=
  Call.lend (args := [.os b 0 l.length 1, .fn (.func 74) [] [.fp [IL row]]]) (k := .svs (gC l)) (off := 0) (sz := 1) 0 (gF l) (by simp) rfl hH (by show 0 + l.length * 1 ≤ (gC l).length; rw [List.length_map]; omega) (fun j hj => by
    rw [getN_one]
    show _ = [(gC l).getD (0 + j * 1) .any]
    rw [Nat.zero_add, Nat.mul_one, gC_get hj]
    rfl) (has_64 l row hl hr hs)
theorem has_n (row : List Int) (hr : row.length ≤ 1000000000) : PCall Tryz.prog 73 [SN, .fn (.func 74) [] [.fp [IL row]]] (SB false) :=
  PCall.nilA (args := [SN, .fn (.func 74) [] [.fp [IL row]]]) (sz := 1) (g := gF []) 0 (by simp) rfl (has_64 [] row (by simp) hr (by simp))
theorem add_nil (wb rb t n : Nat) (x : SV) (cs : List SV) (z : Int) (row : List Int) (hw : ¬ wb = rb) (hw2 : ¬ rb = wb) (ht : t < n) (hn : cs.length = n) (hc : cs.getD t .any = SN) (hz : 0 ≤ z ∧ z ≤ 1000000000) (hr : row.length ≤ 1000000000) (hnn : n ≤ 1000000000) :
    Ab.Call Tryz.prog 48 [.op wb 0, I64 t, IL row] [(wb, .svs [x, .os rb 0 n 1, I64 z]), (rb, .svs cs)] (fun r h' => r = SB true ∧ ∃ b, h' = [(b, .svs (gC [row])), (wb, .svs [x, .os rb 0 n 1, I64 (z + 1)]), (rb, .svs (cs.set t (.os b 0 1 1)))]) := by
  have c := has_n row hr
  have hD := And.intro (eq_false hw) (eq_false hw2)
  have hE := hD
  have z0 : 0 + t * 1 = t := by omega
  have te : ((t : Nat) : Int).toNat = t := Int.toNat_natCast _
  have t0q : (0 : Int) ≤ ((t : Nat) : Int) := by omega
  have tn : ((t : Nat) : Int) < ((n : Nat) : Int) := by omega
  have w1 : IntKind.i64.wrap (z + 1) = z + 1 := i64_wrap (by omega) (by omega)
  have hcs : t < cs.length := by omega
  clear hD
  refine Call.enter' (N := 39) (rs := [.tmp 6]) Tryz.func48 rfl rfl rfl (by decide) rfl ?_; simp only [argT]; have hD : (0 : Nat) = 0 := rfl
  clear hD
  have hD := hE
  refine SW.seq_k fun K0 hK0 => ?_
  refine SW.region ?_
  simp only [go_sem, hD]
  refine allF_i fun db hb => ?_
  simp only [fresh_cons, fresh_nil, and_true, ne_eq, neF] at hb
  try simp only [go_sem, hD]
  refine hK0 _ ?_
  clear hK0 K0 hb
  refine Ab.SW.le (St.le_freezeP (i := 5) (n := 1) rfl (by rw [find_cons, if_pos rfl]) (by exact Nat.le_refl 1)) ?_
  rw [del_head]
  simp only [getN, Blk.get]
  repeat' first | (with_reducible refine And.intro (by omega) ?_) | (refine SW.seq_k fun K hK => ?_) | ((first | refine SW.region ?_ | refine SW.regionX (id := 3) (Checked.mixed Tryz.checked) Go.Ab.zDG_1 (by kernel_rfl) ?_ | refine SW.cond ?_ | refine SW.skip ?_ | refine SW.ret ?_ | refine Call.of_pure (c) ?_ | (refine allF_i fun b hb => ?_; replace hD := And.intro hb hD; clear hb; try simp only [fresh_cons, fresh_nil, and_true, ne_eq, neF] at hD) | simp only [appK, appOsK]); try simp only [Go.Ab.zDG_1, go_sem, hD, z0, te, t0q, tn, w1, hc, ht, hn, true_implies]) | (refine And.intro (by omega) ?_) | (apply hK; clear hK K) | (refine And.intro ?_ ?_)
  all_goals
    obtain ⟨nb, rfl⟩ : ∃ x, x = b := ⟨_, rfl⟩
    refine retQ_le (St.le_pick [(nb, .svs [IL row]), (wb, .svs [x, .os rb 0 n 1, I64 (z + 1)]), (rb, .svs (cs.set t (.os nb 0 1 1)))] ?_ ?_) ?_
    · repeat' (first | exact (fun x hx => (List.not_mem_nil hx).elim) | refine List.forall_mem_cons.2 ⟨?_, ?_⟩ | exact List.mem_cons_self | apply List.mem_cons_of_mem)
    · simp [fresh_cons, fresh_nil, hD]
    · simp only [resL_tmp, resL_nil, tupOf, go_sem, hD]
      exact ⟨nb, rfl⟩
theorem add_row (b wb rb t n : Nat) (x : SV) (cs : List SV) (z : Int) (l : List (List Int)) (row : List Int) (h1 : ¬ wb = rb) (h2 : ¬ rb = wb) (h3 : ¬ b = wb) (h4 : ¬ wb = b) (h5 : ¬ b = rb) (h6 : ¬ rb = b) (ht : t < n) (hn : cs.length = n) (hc : cs.getD t .any = .os b 0 l.length 1) (hz : 0 ≤ z ∧ z ≤ 1000000000) (hl : l.length ≤ 1000000000) (hr : row.length ≤ 1000000000) (hs : ∀ r ∈ l, r.length ≤ 1000000000) (hnn : n ≤ 1000000000) :
    Ab.Call Tryz.prog 48 [.op wb 0, I64 t, IL row] [(b, .svs (gC l)), (wb, .svs [x, .os rb 0 n 1, I64 z]), (rb, .svs cs)] (fun r h' => (row ∈ l ∧ r = SB false ∧ h' = [(b, .svs (gC l)), (wb, .svs [x, .os rb 0 n 1, I64 z]), (rb, .svs cs)]) ∨ (row ∉ l ∧ r = SB true ∧ ∃ b, h' = [(b, .svs (gC (l ++ [row]))), (wb, .svs [x, .os rb 0 n 1, I64 (z + 1)]), (rb, .svs (cs.set t (.os b 0 (l.length + 1) 1)))])) := by
  have c := fun h hH => has_o b h l row hl hr hs hH
  have hE := And.intro (And.intro (eq_false h1) (eq_false h2)) (And.intro (And.intro (eq_false h3) (eq_false h4)) (And.intro (eq_false h5) (eq_false h6)))
  have hD := hE
  have z0 : 0 + t * 1 = t := by omega
  have te : ((t : Nat) : Int).toNat = t := Int.toNat_natCast _
  have t0q : (0 : Int) ≤ ((t : Nat) : Int) := by omega
  have tn : ((t : Nat) : Int) < ((n : Nat) : Int) := by omega
  have w1 : IntKind.i64.wrap (z + 1) = z + 1 := i64_wrap (by omega) (by omega)
  have hcs : t < cs.length := by omega
  have lc : l.length * 1 = (gC l).length := by rw [List.length_map]; omega
  have ba : (l.length + 1) * 24 ≤ 140737488355328 := by omega
  have hgs : gC (l ++ [row]) = gC l ++ [IL row] := by rw [gC, List.map_append]; rfl
  by_cases hm : row ∈ l
  · rw [decide_eq_true hm] at c
    refine Call.mono ?_ fun r h' hx => .inl ⟨hm, hx⟩
    generalize gC l = G at *
    clear hD
    refine Call.enter' (N := 39) (rs := [.tmp 6]) Tryz.func48 rfl rfl rfl (by decide) rfl ?_; simp only [argT]; have hD : (0 : Nat) = 0 := rfl
    clear hD
    have hD := hE
    refine SW.seq_k fun K0 hK0 => ?_
    refine SW.region ?_
    simp only [go_sem, hD]
    refine allF_i fun db hb => ?_
    simp only [fresh_cons, fresh_nil, and_true, ne_eq, neF] at hb
    try simp only [go_sem, hD]
    refine hK0 _ ?_
    clear hK0 K0 hb
    refine Ab.SW.le (St.le_freezeP (i := 5) (n := 1) rfl (by rw [find_cons, if_pos rfl]) (by exact Nat.le_refl 1)) ?_
    rw [del_head]
    simp only [getN, Blk.get]
    repeat' first | ((refine Call.mono (c _ (by simp [find_cons, hD])) ?_); (intro r h' hx); (obtain ⟨rfl, rfl⟩ := hx); (try simp only [go_sem, hD])) | (refine SW.seq_k fun K hK => ?_) | ((first | refine SW.region ?_ | refine SW.cond ?_ | refine SW.ret ?_); try simp only [go_sem, hD, z0, te, t0q, tn, w1, hc, ht, hn, true_implies]) | (apply hK; clear hK K)
    all_goals
      refine retQ_le (St.le_sub (l := [(6, SB false)]) (by repeat' (first | exact rfl | exact trivial | constructor))) ?_
      simp only [resL_tmp, resL_nil, tupOf, go_sem, hD]
  · rw [decide_eq_false hm] at c
    refine Call.mono (Q := fun r h' => r = SB true ∧ ∃ b, h' = [(b, .svs (gC l ++ [IL row])), (wb, .svs [x, .os rb 0 n 1, I64 (z + 1)]), (rb, .svs (cs.set t (.os b 0 (l.length + 1) 1)))]) ?_ fun r h' hx => .inr ⟨hm, hx.1, by rw [hgs]; exact hx.2⟩
    clear hgs
    generalize gC l = G at *
    clear hD
    refine Call.enter' (N := 39) (rs := [.tmp 6]) Tryz.func48 rfl rfl rfl (by decide) rfl ?_; simp only [argT]; have hD : (0 : Nat) = 0 := rfl
    clear hD
    have hD := hE
    refine SW.seq_k fun K0 hK0 => ?_
    refine SW.region ?_
    simp only [go_sem, hD]
    refine allF_i fun db hb => ?_
    simp only [fresh_cons, fresh_nil, and_true, ne_eq, neF] at hb
    try simp only [go_sem, hD]
    refine hK0 _ ?_
    clear hK0 K0 hb
    refine Ab.SW.le (St.le_freezeP (i := 5) (n := 1) rfl (by rw [find_cons, if_pos rfl]) (by exact Nat.le_refl 1)) ?_
    rw [del_head]
    simp only [getN, Blk.get]
    repeat' first | ((refine Call.mono (c _ (by simp [find_cons, hD])) ?_); (intro r h' hx); (obtain ⟨rfl, rfl⟩ := hx); (try simp only [go_sem, hD])) | (with_reducible refine And.intro (by omega) ?_) | (refine SW.seq_k fun K hK => ?_) | ((first | refine SW.region ?_ | refine SW.regionX (id := 3) (Checked.mixed Tryz.checked) Go.Ab.zDG_1 (by kernel_rfl) ?_ | refine SW.cond ?_ | refine SW.skip ?_ | refine SW.ret ?_ | (refine allF_i fun b hb => ?_; replace hD := And.intro hb hD; clear hb; try simp only [fresh_cons, fresh_nil, and_true, ne_eq, neF] at hD) | simp only [appK, appOsK]); try simp only [Go.Ab.zDG_1, go_sem, hD, z0, te, t0q, tn, w1, hc, ht, hn, lc, ba, true_implies]) | (apply hK; clear hK K) | (refine And.intro ?_ ?_)
    all_goals
      obtain ⟨nb, rfl⟩ : ∃ x, x = b := ⟨_, rfl⟩
      refine retQ_le (St.le_pick [(nb, .svs (G ++ [IL row])), (wb, .svs [x, .os rb 0 n 1, I64 (z + 1)]), (rb, .svs (cs.set t (.os nb 0 (l.length + 1) 1)))] ?_ ?_) ?_
      · repeat' (first | exact (fun x hx => (List.not_mem_nil hx).elim) | refine List.forall_mem_cons.2 ⟨?_, ?_⟩ | exact List.mem_cons_self | apply List.mem_cons_of_mem)
      · simp [fresh_cons, fresh_nil, hD]
      · simp only [resL_tmp, resL_nil, tupOf, go_sem, hD]
        exact ⟨nb, rfl⟩
end Go.Proofs.YtblfodnajpamfaaGreatDoor
namespace Go.Ab
open Go
theorem Call.nd [Gl] {P : Program} {f : FuncId} {args : List SV} {h : Heap} {Q : SV → Heap → Prop} (hc : (h.map (·.1)).Nodup → Call P f args h Q) : Call P f args h Q := ⟨fun M w vs own hr => (hc own.nodup).out M w vs own hr⟩
theorem Call.permN [Gl] {P : Program} {f : FuncId} {args : List SV} {h h' : Heap} {Q : SV → Heap → Prop} (hc : Call P f args h' Q) (hp : h'.Perm h) : Call P f args h Q := Call.perm hc (fun x => hp.mem_iff) (fun hn => (hp.map _).nodup_iff.2 hn)
end Go.Ab
namespace Go.Ab.A15
open Go Go.Ab Go.Ab.A34
abbrev Wt := Nat × List (List Int)
def wc (e : Wt) : SV := if e.2 = [] then SN else .os e.1 0 e.2.length 1
def wb1 (e : Wt) : Heap := if e.2 = [] then [] else [(e.1, .svs (gC e.2))]
def wB (ws : List Wt) : Heap := ws.flatMap wb1
def WH (wb rb : Nat) (x : SV) (z : Int) (ws : List Wt) : Heap := (wb, .svs [x, .os rb 0 ws.length 1, I64 z]) :: (rb, .svs (ws.map wc)) :: wB ws
theorem wB_mid (A C : List Wt) (e : Wt) : wB (A ++ e :: C) = wB A ++ (wb1 e ++ wB C) := by unfold wB; rw [List.flatMap_append, List.flatMap_cons]
theorem perm3 {α : Type} (w r e : α) (A C : List α) : ([e, w, r] ++ (A ++ C)).Perm (w :: r :: (A ++ (e :: C))) := by
  show (e :: w :: r :: (A ++ C)).Perm _
  exact (List.Perm.swap w e _).trans ((List.Perm.cons w (List.Perm.swap r e _)).trans (List.Perm.cons w (List.Perm.cons r List.perm_middle.symm)))
theorem wc_get (A C : List Wt) (e : Wt) : ((A ++ e :: C).map wc).getD A.length .any = wc e := by simp [List.getD_eq_getElem?_getD]
theorem wc_set (A C : List Wt) (e e' : Wt) : ((A ++ e :: C).map wc).set A.length (wc e') = (A ++ e' :: C).map wc := by simp
end Go.Ab.A15
namespace Go.Proofs.YtblfodnajpamfaaGreatDoor
open Go Go.Ab Go.Ab.A34 Go.Ab.A15
variable [Gl] [Tabs]
theorem add_w (wb rb : Nat) (x : SV) (z : Int) (A C : List Wt) (b : Nat) (l : List (List Int)) (row : List Int) (hz : 0 ≤ z ∧ z ≤ 1000000000) (hl : l.length ≤ 1000000000) (hr : row.length ≤ 1000000000) (hs : ∀ r ∈ l, r.length ≤ 1000000000) (hnn : (A ++ (b, l) :: C).length ≤ 1000000000) :
    Ab.Call Tryz.prog 48 [.op wb 0, I64 A.length, IL row] (WH wb rb x z (A ++ (b, l) :: C)) (fun r h' =>
      (row ∈ l ∧ r = SB false ∧ h'.Perm (WH wb rb x z (A ++ (b, l) :: C))) ∨ (row ∉ l ∧ r = SB true ∧ ∃ b', h'.Perm (WH wb rb x (z + 1) (A ++ (b', l ++ [row]) :: C)))) := by
  have hne : ∀ b' : Nat, ¬ (b', l ++ [row]).2 = [] := fun b' h => by simp at h
  have hlen : ∀ e, (A ++ e :: C).length = (A ++ (b, l) :: C).length := fun e => by simp
  refine Call.nd fun hnd => ?_
  have ht : A.length < (A ++ (b, l) :: C).length := by simp
  by_cases h0 : l = []
  · subst h0
    have e1 : wb1 (b, ([] : List (List Int))) = [] := rfl
    have eW : WH wb rb x z (A ++ (b, []) :: C) = [(wb, .svs [x, .os rb 0 (A ++ (b, []) :: C).length 1, I64 z]), (rb, .svs ((A ++ (b, []) :: C).map wc))] ++ (wB A ++ wB C) := by
      unfold WH
      rw [wB_mid, e1]
      rfl
    rw [eW] at hnd ⊢
    simp only [List.cons_append, List.nil_append, List.map_cons, List.nodup_cons, List.mem_cons, not_or] at hnd
    have c := add_nil wb rb A.length _ x ((A ++ (b, []) :: C).map wc) z row hnd.1.1 (fun h => hnd.1.1 h.symm) ht (by rw [List.length_map]) (by rw [wc_get]; rfl) hz hr hnn
    refine Call.mono (Call.frameN (h2 := wB A ++ wB C) c) fun r h' hx => ?_
    obtain ⟨h1, rfl, ⟨rfl, b', rfl⟩, _⟩ := hx
    refine .inr ⟨by simp, rfl, b', ?_⟩
    have e2 : wc (b', [row]) = .os b' 0 1 1 := rfl
    rw [← e2, wc_set]
    unfold WH
    rw [hlen (b', [] ++ [row]), wB_mid, show wb1 (b', [] ++ [row]) = [(b', .svs (gC [row]))] from rfl]
    exact perm3 _ _ _ _ _
  · have e1 : wb1 (b, l) = [(b, .svs (gC l))] := if_neg h0
    have eP : (([(b, .svs (gC l)), (wb, .svs [x, .os rb 0 (A ++ (b, l) :: C).length 1, I64 z]), (rb, .svs ((A ++ (b, l) :: C).map wc))] ++ (wB A ++ wB C)) : Heap).Perm (WH wb rb x z (A ++ (b, l) :: C)) := by
      unfold WH
      rw [wB_mid, e1]
      exact perm3 _ _ _ _ _
    have hnd2 := (eP.map (·.1)).nodup_iff.2 hnd
    simp only [List.cons_append, List.nil_append, List.map_cons, List.nodup_cons, List.mem_cons, not_or] at hnd2
    obtain ⟨⟨n1, n2, _⟩, ⟨n3, _⟩, _⟩ := hnd2
    have c := add_row b wb rb A.length _ x ((A ++ (b, l) :: C).map wc) z l row n3 (fun h => n3 h.symm) n1 (fun h => n1 h.symm) n2 (fun h => n2 h.symm) ht (by rw [List.length_map]) (by rw [wc_get]; exact if_neg h0) hz hl hr hs hnn
    refine Call.permN (Call.mono (Call.frameN (h2 := wB A ++ wB C) c) fun r h' hx => ?_) eP
    obtain ⟨h1, rfl, hq, _⟩ := hx
    rcases hq with ⟨hm, rfl, rfl⟩ | ⟨hm, rfl, b', rfl⟩
    · exact .inl ⟨hm, rfl, eP⟩
    · refine .inr ⟨hm, rfl, b', ?_⟩
      have e2 : wc (b', l ++ [row]) = .os b' 0 (l.length + 1) 1 := by unfold wc; rw [if_neg (hne b'), List.length_append]; rfl
      rw [← e2, wc_set]
      unfold WH
      rw [hlen (b', l ++ [row]), wB_mid, show wb1 (b', l ++ [row]) = [(b', .svs (gC (l ++ [row])))] from if_neg (hne b')]
      exact perm3 _ _ _ _ _
end Go.Proofs.YtblfodnajpamfaaGreatDoor
namespace Go.Ab.A15
open Go Go.Ab Go.Ab.A34
theorem atI_nd : ∀ {l : List Int} {i k : Nat}, l.Nodup → k < l.length → atI (l.getD k 0) i l = ((i + k : Nat) : Int)
  | [], i, k, _, h => absurd h (by simp)
  | y :: l, i, 0, _, _ => by
    unfold atI
    rw [if_pos (by simp)]
    simp
  | y :: l, i, k + 1, hn, h => by
    rw [List.nodup_cons] at hn
    have hk : k < l.length := by simpa using h
    have hm : l.getD k 0 ∈ l := getD_mem' 0 hk
    unfold atI
    rw [List.getD_cons_succ, if_neg (fun e => hn.1 (by rw [e]; exact hm)), atI_nd hn.2 hk]
    congr 1
    omega
def parV (n : Nat) (a : List Int) (v : Nat → Int) (k : Nat) : List Int := (List.range n).map fun (i : Nat) => if 0 ≤ atI (i : Int) 0 a ∧ atI (i : Int) 0 a < k then v (atI (i : Int) 0 a).toNat else 0
theorem parV_len (n : Nat) (a : List Int) (v : Nat → Int) (k : Nat) : (parV n a v k).length = n := by simp [parV]
theorem parV_zero (n : Nat) (a : List Int) (v : Nat → Int) : parV n a v 0 = List.replicate n 0 := by
  refine List.ext_getElem (by simp [parV]) fun i h1 h2 => ?_
  simp only [parV, List.getElem_map, List.getElem_range, List.getElem_replicate]
  exact if_neg fun h => by omega
theorem parV_succ {n : Nat} {a : List Int} {v : Nat → Int} {k : Nat} (hn : a.Nodup) (hk : k < a.length) (ha : 0 ≤ a.getD k 0 ∧ a.getD k 0 < n) : (parV n a v k).set (a.getD k 0).toNat (v k) = parV n a v (k + 1) := by
  have hak := atI_nd (i := 0) hn hk
  rw [Nat.zero_add] at hak
  refine List.ext_getElem (by simp [parV]) fun i h1 h2 => ?_
  have hi : i < n := by simpa [parV] using h2
  by_cases he : (a.getD k 0).toNat = i
  · subst he
    rw [List.getElem_set_self]
    simp only [parV, List.getElem_map, List.getElem_range]
    have e : (((a.getD k 0).toNat : Nat) : Int) = a.getD k 0 := by omega
    rw [e, hak, if_pos ⟨by omega, by omega⟩, Int.toNat_natCast]
  · rw [List.getElem_set_ne he]
    simp only [parV, List.getElem_map, List.getElem_range]
    have hne : atI (i : Int) 0 a ≠ k := fun h => by
      have h2 := atI_lt (x := (i : Int)) (l := a) (by omega)
      rw [h, Int.toNat_natCast] at h2
      omega
    by_cases h3 : 0 ≤ atI (i : Int) 0 a ∧ atI (i : Int) 0 a < k
    · rw [if_pos h3, if_pos ⟨h3.1, by omega⟩]
    · rw [if_neg h3, if_neg fun h4 => h3 ⟨h4.1, by omega⟩]
theorem parV_img {n : Nat} {d : Dp} {r : List Int} : parV n d.r (fun k => r.getD (d.l.getD k 0).toNat 0) d.r.length = imgR n d r := by
  refine List.map_congr_left fun i _ => ?_
  by_cases h : atI (i : Int) 0 d.r < 0
  · rw [if_pos h, if_neg fun h2 => by omega]
  · have := (atI_lt h).1
    rw [if_neg h, if_pos ⟨by omega, by omega⟩]
theorem parV_first {n : Nat} {g : Dp} : parV n g.l (fun k => (k : Int) + 1) g.l.length = firstR n g := by
  refine List.map_congr_left fun i _ => ?_
  by_cases h : atI (i : Int) 0 g.l < 0
  · rw [if_pos h, if_neg fun h2 => by omega]
  · have := (atI_lt h).1
    rw [if_neg h, if_pos ⟨by omega, by omega⟩]
    show (((atI (i : Int) 0 g.l).toNat : Nat) : Int) + 1 = _
    omega
end Go.Ab.A15
namespace Go.Ab.A15
open Go Go.Ab Go.Ab.A34
def w0 : Wt := (0, [])
def tot (ws : List Wt) : Nat := (ws.map fun e => e.2.length).sum
theorem tot_mid (A C : List Wt) (e : Wt) : tot (A ++ e :: C) = tot A + (e.2.length + tot C) := by simp [tot]
structure WI (C : Nat → List Int → Prop) (ws : List Wt) (z : Int) : Prop where
  nd : ∀ s, s < ws.length → (ws.getD s w0).2.Nodup
  c : ∀ s, s < ws.length → ∀ r ∈ (ws.getD s w0).2, C s r
  z : z = (tot ws : Int)
theorem mid_get (A C : List Wt) (e e' : Wt) (s : Nat) : (A ++ e' :: C).getD s w0 = if s = A.length then e' else (A ++ e :: C).getD s w0 := by
  by_cases h : s = A.length
  · subst h
    simp [List.getD_eq_getElem?_getD]
  · rw [if_neg h]
    rcases Nat.lt_or_ge s A.length with h1 | h1
    · simp [List.getD_eq_getElem?_getD, List.getElem?_append_left h1]
    · obtain ⟨j, rfl⟩ : ∃ j, s = A.length + (j + 1) := ⟨s - A.length - 1, by omega⟩
      simp [List.getD_eq_getElem?_getD, List.getElem?_append_right]
theorem split_at {ws : List Wt} {t : Nat} (h : t < ws.length) : ∃ A e D, ws = A ++ e :: D ∧ A.length = t :=
  ⟨ws.take t, ws[t], ws.drop (t + 1), by rw [← List.drop_eq_getElem_cons h, List.take_append_drop], by rw [List.length_take]; omega⟩
theorem len_tot {ws : List Wt} {s : Nat} (h : s < ws.length) : (ws.getD s w0).2.length ≤ tot ws := by
  obtain ⟨A, e, D, rfl, rfl⟩ := split_at h
  rw [mid_get A D e e, if_pos rfl, tot_mid]
  omega
theorem WI.add {C : Nat → List Int → Prop} {A D : List Wt} {e : Wt} {z : Int} (h : WI C (A ++ e :: D) z) {b : Nat} {row : List Int} (hr : row ∉ e.2) (hc : C A.length row) : WI C (A ++ (b, e.2 ++ [row]) :: D) (z + 1) where
  nd := fun s hs => by
    rw [mid_get A D e]
    have hg := h.nd s (by simpa using hs)
    by_cases hsA : s = A.length
    · rw [if_pos hsA]
      rw [mid_get A D e e, if_pos hsA] at hg
      show (e.2 ++ [row]).Nodup
      rw [List.nodup_append]
      exact ⟨hg, by simp, fun x hx y hy hxy => hr (by rw [List.mem_singleton] at hy; rw [← hy, ← hxy]; exact hx)⟩
    · rw [if_neg hsA]; exact hg
  c := fun s hs => by
    rw [mid_get A D e]
    have hg := h.c s (by simpa using hs)
    by_cases hsA : s = A.length
    · rw [if_pos hsA]
      rw [mid_get A D e e, if_pos hsA] at hg
      subst hsA
      intro r hr2
      rcases List.mem_append.1 hr2 with h2 | h2
      · exact hg r h2
      · rw [List.mem_singleton] at h2; rw [h2]; exact hc
    · rw [if_neg hsA]; exact hg
  z := by
    rw [h.z, tot_mid, tot_mid]
    show _ = (((tot A + ((e.2 ++ [row]).length + tot D) : Nat)) : Int)
    rw [List.length_append, List.length_singleton]
    omega
def Beg (ws ws' : List Wt) : Prop := ∀ s, (ws.getD s w0).2 <+: (ws'.getD s w0).2
theorem Beg.refl (ws : List Wt) : Beg ws ws := fun s => List.prefix_refl _
theorem Beg.trans {a b c : List Wt} (h : Beg a b) (h' : Beg b c) : Beg a c := fun s => (h s).trans (h' s)
theorem Beg.add (A D : List Wt) (e : Wt) (b : Nat) (row : List Int) : Beg (A ++ e :: D) (A ++ (b, e.2 ++ [row]) :: D) := fun s => by
  rw [mid_get A D e (b, e.2 ++ [row])]
  by_cases hsA : s = A.length
  · rw [if_pos hsA, mid_get A D e e, if_pos hsA]
    exact List.prefix_append _ _
  · rw [if_neg hsA]
    exact List.prefix_refl _
theorem find_wB : ∀ {ws : List Wt} {s : Nat}, ((wB ws).map (·.1)).Nodup → s < ws.length → ¬ (ws.getD s w0).2 = [] → (wB ws).find (ws.getD s w0).1 = some (.svs (gC (ws.getD s w0).2)) := fun {ws s} hn hs h0 => by
  have g : ws.getD s w0 = ws[s] := by simp [List.getD_eq_getElem?_getD, hs]
  rw [g] at h0 ⊢
  refine find_of_mem hn ?_
  unfold wB
  rw [List.mem_flatMap]
  exact ⟨ws[s], List.getElem_mem hs, by unfold wb1; rw [if_neg h0]; exact List.mem_singleton.2 rfl⟩
end Go.Ab.A15
