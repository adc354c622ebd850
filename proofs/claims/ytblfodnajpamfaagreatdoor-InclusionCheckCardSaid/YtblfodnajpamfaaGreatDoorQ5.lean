/- Several texts in one: DC, DD, DE, DF, DG, DH, P7, DI, DJ, DK, DL, DN, W2, W1. -/
import Derived.Test.YtblfodnajpamfaaGreatDoorQ4
import Derived.Test.YtblfodnajpamfaaGreatDoorZ18
import Derived.Test.YtblfodnajpamfaaGreatDoorZ10
import Derived.Test.YtblfodnajpamfaaGreatDoorZ19
import Derived.Test.YtblfodnajpamfaaGreatDoorS2
import Derived.Test.YtblfodnajpamfaaGreatDoorS3
import Derived.Test.YtblfodnajpamfaaGreatDoorZ15
import Derived.Test.YtblfodnajpamfaaGreatDoorQ3
set_option linter.unusedSimpArgs false
set_option linter.unusedVariables false
set_option linter.unusedSectionVars false
set_option maxHeartbeats 4000000
set_option maxRecDepth 20000
namespace Go.Ab.A15
open Go Go.Ab Go.Ab.A34
def outD (d : List Rc) (i : Nat) : List Tb := (List.range i).map fun j => tabD (d.getD j rc0) j
theorem outD_succ (d : List Rc) (i : Nat) : outD d (i + 1) = outD d i ++ [tabD (d.getD i rc0) i] := by
  unfold outD
  rw [List.range_succ, List.map_append]
  rfl
theorem outD_len (d : List Rc) (i : Nat) : (outD d i).length = i := by simp [outD]
def OkRcs (d : List Rc) : Prop := ∀ x ∈ d, okRc x
end Go.Ab.A15
def Go.Ab.zDC_1 : Go.Ab.OZ := (.one 0 [0, 2, 3, 4, 5, 16, 17, 18, 19, 20, 22, 23] (.one 1 [1, 2, 3, 4, 5, 16, 17, 18, 19, 20, 22, 23] (.one 2 [2, 3, 4, 5, 16, 17, 18, 19, 20, 22, 23] (.one 3 [3, 4, 5, 16, 17, 18, 19, 20, 22, 23] (.one 4 [4, 5, 16, 17, 18, 19, 20, 22, 23] (.one 5 [5, 16, 17, 18, 19, 20, 22, 23] (.one 6 [6, 8, 9, 10, 16, 17, 18, 19, 20, 22, 23] (.one 7 [7, 8, 9, 10, 16, 17, 18, 19, 20, 22, 23] (.one 8 [8, 9, 10, 16, 17, 18, 19, 20, 22, 23] (.one 9 [9, 10, 16, 17, 18, 19, 20, 22, 23] (.one 10 [10, 16, 17, 18, 19, 20, 22, 23] (.one 11 [11, 13, 14, 15, 16, 17, 18, 19, 20, 22, 23] (.one 12 [12, 13, 14, 15, 16, 17, 18, 19, 20, 22, 23] (.one 13 [13, 14, 15, 16, 17, 18, 19, 20, 22, 23] (.one 14 [14, 15, 16, 17, 18, 19, 20, 22, 23] (.one 15 [15, 16, 17, 18, 19, 20, 22, 23] (.one 16 [16, 17, 18, 19, 20, 22, 23] (.one 17 [17, 18, 19, 20, 22, 23] (.one 18 [18, 19, 20, 22, 23] (.one 19 [19, 22, 23] (.alt 20 (.alt 21 (.alt 22 (.one 23 [23] .done) .nil) .nil) (.alt 21 (.alt 20 (.alt 22 (.one 23 [23] .done) .nil) (.alt 22 (.one 20 [20, 23] (.one 23 [23] .done)) .nil)) .nil))))))))))))))))))))))
namespace Go.Proofs.YtblfodnajpamfaaGreatDoor
open Go Go.Ab Go.Ab.A34 Go.Ab.A15
variable [Gl] [Tabs]
theorem of_r (d : List Rc) (hd : OkRcs d) (hl : d.length ≤ 9223372036854775807) : PCall Tryz.prog 9 [RcL d] (ofV d) := by
  obtain ⟨V, hV⟩ : ∃ V, V = ofV d := ⟨_, rfl⟩
  rw [← hV]
  have h6 : ((6 : Nat) : Int) = 6 := rfl
  refine Call.enter' (N := 57) (rs := [.cell 2 30, .tmp 3]) Tryz.func9 rfl rfl rfl (by decide) rfl ?_; simp only [argT]; have hD : (0 : Nat) = 0 := rfl
  repeat' first | (refine SW.seq_k fun K hK => ?_) | (refine SW.block ?_) | ((first | refine SW.region ?_ | (refine allF_i fun b hb => ?_; replace hD := And.intro hb hD; clear hb; try simp only [fresh_cons, fresh_nil, and_true, ne_eq, neF] at hD)); try simp only [go_sem, hD]) | (apply hK; clear hK K)
  obtain ⟨ob, rfl⟩ : ∃ x, x = b := ⟨_, rfl⟩
  obtain ⟨rb, rfl⟩ : ∃ x, x = b := ⟨_, rfl⟩
  have k1 : ¬ ob = rb := by simp [hD]
  have k2 : ¬ rb = ob := by simp [hD]
  clear hD
  have hE := And.intro (eq_false k1) (eq_false k2)
  obtain ⟨I, hI⟩ : ∃ I : Nat → St → Prop, ∀ k S, I k S ↔ (∃ (i : Nat) (h : Heap), k = min d.length 3 - i ∧ i ≤ min d.length 3 ∧ (∀ j, j < i → (d.getD j rc0).rows.length ≤ 6) ∧ ((i = 0 ∧ h = [(ob, .svs [SN]), (rb, .svs [SN])]) ∨ (0 < i ∧ ∃ g, fresh [(ob, .svs []), (rb, .svs [])] g ∧ h = [(g, .svs (fC tC (outD d i))), (ob, .svs [.os g 0 i 3]), (rb, .svs [SN])])) ∧ S = ⟨[(0, RcL d), (2, .op rb 0), (3, SB false), (4, .op ob 0), (5, I64 i)], h⟩) := ⟨fun k S => _, fun _ _ => Iff.rfl⟩
  refine SW.loop' I (min d.length 3) ((hI _ _).2 ⟨0, _, rfl, Nat.zero_le _, (fun j hj => absurd hj (Nat.not_lt_zero _)), .inl ⟨rfl, rfl⟩, rfl⟩) (by repeat' (first | exact rfl | exact trivial | constructor)) ?_
  intro k S hIn
  obtain ⟨i, h, rfl, hi, hG, hB, rfl⟩ := (hI _ _).1 hIn
  clear hIn
  have ie : ((i : Nat) : Int).toNat = i := Int.toNat_natCast _
  have i0 : (0 : Int) ≤ ((i : Nat) : Int) := by omega
  have u0 : ∀ g1, fresh [(ob, .svs []), (rb, .svs [])] g1 → ((ob = g1) = False ∧ (g1 = ob) = False) ∧ ((rb = g1) = False ∧ (g1 = rb) = False) := fun g1 u1 => by simpa only [fresh_cons, fresh_nil, and_true, ne_eq, neF] using u1
  by_cases hlt : i < min d.length 3
  · have hli : ((i : Nat) : Int) < ((d.length : Nat) : Int) := by omega
    have hl3 : ((i : Nat) : Int) < 3 := by omega
    have i3 : i < 3 := by omega
    have w1 : IntKind.i64.wrap ((i : Int) + 1) = ((i + 1 : Nat) : Int) := by rw [i64_wrap (by omega) (by omega)]; omega
    have hx := hd _ (getD_mem' rc0 (show i < d.length by omega))
    have hsc := outD_succ d i
    have fi : RF d i = RCC (d.getD i rc0) := rfl
    have hol := outD_len d i
    have hol2 := outD_len d (i + 1)
    have hgd : ¬ (d.getD i rc0).rows.length ≤ 6 → ¬ goodD d := fun h1 h2 => h1 (h2 i hlt)
    have hG2 : (d.getD i rc0).rows.length ≤ 6 → ∀ j, j < i + 1 → (d.getD j rc0).rows.length ≤ 6 := fun h1 j hj => by
      rcases Nat.lt_or_eq_of_le (Nat.lt_succ_iff.1 hj) with h | h
      · exact hG j h
      · rw [h]; exact h1
    have a1 : (d.getD i rc0).attrs.tmod 4 = (d.getD i rc0).attrs % 4 := Int.tmod_eq_emod_of_nonneg hx.1.1
    have hok : okRc (cutR (d.getD i rc0)) := ⟨⟨by show 0 ≤ (d.getD i rc0).attrs % 4; omega, by show (d.getD i rc0).attrs % 4 < 256; omega⟩, hx.2⟩
    by_cases h7 : (d.getD i rc0).rows.length ≤ 6
    · have c := rtab_r (cutR (d.getD i rc0)) hok 6 h7 (by omega)
      rw [h6] at c
      replace hG2 := hG2 h7
      clear hgd hG h7
      unfold tabD at hsc
      unfold cutR at c hsc
      generalize d.getD i rc0 = x at *
      obtain ⟨xa, xg, xl⟩ := x
      simp only at c hsc a1
      generalize tabS ⟨xa % 4, xg, xl⟩ = t at *
      obtain ⟨tn, ta, tr⟩ := t
      simp only at c hsc
      have gm : [Str ⟨#[114]⟩, Str ⟨#[115]⟩, Str ⟨#[116]⟩].getD i SV.any = Str (nmT i) := by
        rcases (by omega : i = 0 ∨ i = 1 ∨ i = 2) with rfl | rfl | rfl <;> rfl
      have z0 : 0 + i * 1 = i := by omega
      have hsn : fC tC (outD d (i + 1)) = fC tC (outD d i) ++ [Str (nmT i), SL ta, RL tr] := by rw [hsc, ← fC_snoc]
      have lc : i * 3 = (fC tC (outD d i)).length := by
        have := fC_len (enc := tC) (k := 3) (fun _ => rfl) (outD d i)
        rwa [hol] at this
      have ba : (i + 1) * 64 ≤ 140737488355328 := by omega
      rcases hB with ⟨hm0, rfl⟩ | ⟨hm0, g, u1, rfl⟩
      · subst hm0
        have hs0 : fC tC (outD d (0 + 1)) = [Str (nmT 0), SL ta, RL tr] := hsn
        have hD := hE
        repeat' first | (with_reducible refine And.intro (by omega) ?_) | (refine SW.seq_k fun K hK => ?_) | (refine SW.block ?_) | ((first | refine SW.region ?_ | refine SW.regionZ (id := 5) (Checked.mixed Tryz.checked) Go.Ab.zDC_1 (by kernel_rfl) ?_ | refine SW.cond ?_ | refine SW.skip ?_ | refine ⟨_, c, ?_⟩ | (refine allF_i fun b hb => ?_; replace hD := And.intro hb hD; clear hb; try simp only [fresh_cons, fresh_nil, and_true, ne_eq, neF] at hD) | simp only [appK, appOsK]); try simp only [Go.Ab.zDC_1, go_sem, hD, hli, hl3, i3, ie, i0, w1, fi, a1, gm, z0, true_implies]) | (refine And.intro (by omega) ?_) | (refine ifI (fun hc => ?_) (fun hc => ?_) <;> first | (exfalso; omega) | skip) | (apply hK; clear hK K) | (refine And.intro ?_ ?_)
        all_goals
          obtain ⟨c1, rfl⟩ : ∃ x, x = b := ⟨_, rfl⟩
          refine Rnd.le (St.le_pick _ ?_ ?_) (Rnd.sub (min d.length 3 - (0 + 1)) (by omega) ((hI _ _).2 ⟨0 + 1, [(c1, .svs [Str (nmT 0), SL ta, RL tr]), (ob, .svs [.os c1 0 1 3]), (rb, .svs [SN])], rfl, by omega, hG2, .inr ⟨by omega, c1, by simp [fresh_cons, fresh_nil, hD], by rw [hs0]⟩, rfl⟩) (by repeat' (first | exact rfl | exact trivial | constructor)))
          · repeat' (first | exact (fun x hx => (List.not_mem_nil hx).elim) | refine List.forall_mem_cons.2 ⟨?_, ?_⟩ | exact List.mem_cons_self | apply List.mem_cons_of_mem)
          · simp [fresh_cons, fresh_nil, hD]
      · have hD := And.intro (u0 g u1) hE
        repeat' first | (with_reducible refine And.intro (by omega) ?_) | (refine SW.seq_k fun K hK => ?_) | (refine SW.block ?_) | ((first | refine SW.region ?_ | refine SW.regionZ (id := 5) (Checked.mixed Tryz.checked) Go.Ab.zDC_1 (by kernel_rfl) ?_ | refine SW.cond ?_ | refine SW.skip ?_ | refine ⟨_, c, ?_⟩ | (refine allF_i fun b hb => ?_; replace hD := And.intro hb hD; clear hb; try simp only [fresh_cons, fresh_nil, and_true, ne_eq, neF] at hD) | simp only [appK, appOsK]); try simp only [Go.Ab.zDC_1, go_sem, hD, hli, hl3, i3, ie, i0, w1, fi, a1, gm, z0, ba, lc, true_implies]) | (apply hK; clear hK K) | (refine And.intro ?_ ?_)
        all_goals
          obtain ⟨c1, rfl⟩ : ∃ x, x = b := ⟨_, rfl⟩
          refine Rnd.le (St.le_pick _ ?_ ?_) (Rnd.sub (min d.length 3 - (i + 1)) (by omega) ((hI _ _).2 ⟨i + 1, [(c1, .svs (fC tC (outD d i) ++ [Str (nmT i), SL ta, RL tr])), (ob, .svs [.os c1 0 (i + 1) 3]), (rb, .svs [SN])], rfl, by omega, hG2, .inr ⟨by omega, c1, by simp [fresh_cons, fresh_nil, hD], by rw [hsn]⟩, rfl⟩) (by repeat' (first | exact rfl | exact trivial | constructor)))
          · repeat' (first | exact (fun x hx => (List.not_mem_nil hx).elim) | refine List.forall_mem_cons.2 ⟨?_, ?_⟩ | exact List.mem_cons_self | apply List.mem_cons_of_mem)
          · simp [fresh_cons, fresh_nil, hD]
    · have c := rtab_big (cutR (d.getD i rc0)) 6 (by show 6 < (d.getD i rc0).rows.length; omega)
      rw [h6] at c
      have hV2 : V = .tup [.agg [SN], SB false] := by rw [hV]; unfold ofV; exact if_neg (hgd h7)
      clear hV hgd hG hG2
      subst hV2
      unfold cutR at c
      generalize d.getD i rc0 = x at *
      obtain ⟨xa, xg, xl⟩ := x
      simp only at c a1
      rcases hB with ⟨hm0, rfl⟩ | ⟨hm0, g, u1, rfl⟩
      · have hD := hE
        repeat' first | (refine SW.seq_k fun K hK => ?_) | (refine SW.block ?_) | ((first | refine SW.region ?_ | refine SW.regionZ (id := 5) (Checked.mixed Tryz.checked) Go.Ab.zDC_1 (by kernel_rfl) ?_ | refine SW.cond ?_ | refine SW.skip ?_ | refine SW.ret ?_ | refine ⟨_, c, ?_⟩ | (refine allF_i fun b hb => ?_; replace hD := And.intro hb hD; clear hb; try simp only [fresh_cons, fresh_nil, and_true, ne_eq, neF] at hD)); try simp only [Go.Ab.zDC_1, go_sem, hD, hli, hl3, i3, ie, i0, w1, fi, a1, true_implies]) | (apply hK; clear hK K) | (refine And.intro ?_ ?_)
        all_goals
          apply ret_cell (i := 2) (n := 1); exact rfl; (simp only [go_sem, hD]; try rfl); (first | exact Nat.le_refl _ | decide); simp only [resL_tmp, resL_cellE, resC_ok, resL_nil, tupOf, getN, go_sem, hD]
      · have hD := And.intro (u0 g u1) hE
        repeat' first | (refine SW.seq_k fun K hK => ?_) | (refine SW.block ?_) | ((first | refine SW.region ?_ | refine SW.regionZ (id := 5) (Checked.mixed Tryz.checked) Go.Ab.zDC_1 (by kernel_rfl) ?_ | refine SW.cond ?_ | refine SW.skip ?_ | refine SW.ret ?_ | refine ⟨_, c, ?_⟩ | (refine allF_i fun b hb => ?_; replace hD := And.intro hb hD; clear hb; try simp only [fresh_cons, fresh_nil, and_true, ne_eq, neF] at hD)); try simp only [Go.Ab.zDC_1, go_sem, hD, hli, hl3, i3, ie, i0, w1, fi, a1, true_implies]) | (apply hK; clear hK K) | (refine And.intro ?_ ?_)
        all_goals
          apply ret_cell (i := 2) (n := 1); exact rfl; (simp only [go_sem, hD]; try rfl); (first | exact Nat.le_refl _ | decide); simp only [resL_tmp, resL_cellE, resC_ok, resL_nil, tupOf, getN, go_sem, hD]
  · obtain rfl : i = min d.length 3 := by omega
    have hgood : goodD d := fun j hj => hG j hj
    have hV2 : V = .tup [DB (ofT d), SB (decide (d.length ≤ 3))] := by rw [hV]; unfold ofV; exact if_pos hgood
    have hol : (ofT d).length = min d.length 3 := outD_len d _
    have hoD : outD d (min d.length 3) = ofT d := rfl
    rw [hoD] at hB
    clear hV hG hgood hoD
    subst hV2
    apply Ab.SW.le (S' := ⟨[(0, RcL d), (2, .op rb 0), (3, SB false), (4, .op ob 0), (5, I64 (min d.length 3 : Nat))], [(ob, .svs [TL (ofT d)]), (rb, .svs [SN])]⟩)
    · rcases hB with ⟨hm0, rfl⟩ | ⟨hm0, g, u1, rfl⟩
      · have e2 : ofT d = [] := List.eq_nil_of_length_eq_zero (by omega)
        rw [e2]
        have s1 := St.le_nilC (t := [(0, RcL d), (2, .op rb 0), (3, SB false), (4, .op ob 0), (5, I64 (min d.length 3 : Nat))]) (h := [(ob, .svs [SN]), (rb, .svs [SN])]) (c := ob) (j := 0) (sz := 3) (f := tF []) (by rw [find_cons, if_pos rfl]) (by show 0 < 1; omega) rfl
        rw [upd_cons, if_pos rfl] at s1
        exact s1
      · simp only [fresh_cons, fresh_nil, and_true, ne_eq] at u1
        obtain ⟨⟨v1, v2⟩, _⟩ := u1
        have s1 := St.le_freezeC (t := [(0, RcL d), (2, .op rb 0), (3, SB false), (4, .op ob 0), (5, I64 (min d.length 3 : Nat))]) (h := [(g, .svs (fC tC (ofT d))), (ob, .svs [.os g 0 (min d.length 3) 3]), (rb, .svs [SN])]) (c := ob) (j := 0) (b := g) (off := 0) (len := min d.length 3) (sz := 3) (by rw [find_cons, if_neg v2, find_cons, if_pos rfl]) v1 (by show 0 < 1; omega) rfl (by rw [find_cons, if_pos rfl]) (by show 0 + min d.length 3 * 3 ≤ (fC tC (ofT d)).length; rw [← fC_len (enc := tC) (k := 3) (fun _ => rfl)]; omega) (tF (ofT d)) (fun j hj => by
          rw [getN_take _ _ _ (by show 0 + j * 3 + 3 ≤ (fC tC (ofT d)).length; have := fC_lt (enc := tC) (k := 3) (fun _ => rfl) (show j < (ofT d).length by omega) (show 2 < 3 by omega); omega), Nat.zero_add]
          exact fC_at (enc := tC) (k := 3) (fun _ => rfl) t0 (ofT d) j (by omega))
        rw [del_cons, if_pos rfl, upd_cons, if_pos rfl] at s1
        rw [show TL (ofT d) = .fl (min d.length 3) 3 (tF (ofT d)) by unfold TL; rw [hol]]
        exact s1
    · have hD := hE
      generalize ofT d = T at *
      by_cases h3 : d.length < 3
      · have hmi : min d.length 3 = d.length := by omega
        have hli : ¬ ((d.length : Nat) : Int) < ((d.length : Nat) : Int) := by omega
        have hle : ((d.length : Nat) : Int) ≤ 3 := by omega
        have hle2 : d.length ≤ 3 := by omega
        rw [hmi]
        repeat' first | (refine SW.seq_k fun K hK => ?_) | ((first | refine SW.region ?_ | refine SW.cond ?_ | refine SW.exit ?_ | refine SW.ret ?_); try simp only [go_sem, hD, hli, hle, hle2, true_implies]) | (apply hK; clear hK K) | (clear hK K; apply hK; clear hK K)
        all_goals
          apply ret_cell (i := 2) (n := 1); exact rfl; (simp only [go_sem, hD]; try rfl); (first | exact Nat.le_refl _ | decide); simp only [resL_tmp, resL_cellE, resC_ok, resL_nil, tupOf, getN, go_sem, hD]
      · have hmi : min d.length 3 = 3 := by omega
        have hli : (3 : Int) < ((d.length : Nat) : Int) ∨ ¬ (3 : Int) < ((d.length : Nat) : Int) := by omega
        have h33 : ((3 : Nat) : Int) = 3 := rfl
        have hdi : decide (((d.length : Nat) : Int) ≤ 3) = decide (d.length ≤ 3) := by rw [Bool.eq_iff_iff, decide_eq_true_iff, decide_eq_true_iff]; omega
        rw [hmi, h33]
        rcases hli with hli | hli
        · repeat' first | (refine SW.seq_k fun K hK => ?_) | ((first | refine SW.region ?_ | refine SW.cond ?_ | refine SW.exit ?_ | refine SW.ret ?_); try simp only [go_sem, hD, hli, hdi, true_implies]) | (apply hK; clear hK K) | (clear hK K; apply hK; clear hK K)
          all_goals
            apply ret_cell (i := 2) (n := 1); exact rfl; (simp only [go_sem, hD]; try rfl); (first | exact Nat.le_refl _ | decide); simp only [resL_tmp, resL_cellE, resC_ok, resL_nil, tupOf, getN, go_sem, hD]
        · repeat' first | (refine SW.seq_k fun K hK => ?_) | ((first | refine SW.region ?_ | refine SW.cond ?_ | refine SW.exit ?_ | refine SW.ret ?_); try simp only [go_sem, hD, hli, hdi, true_implies]) | (apply hK; clear hK K) | (clear hK K; apply hK; clear hK K)
          all_goals
            apply ret_cell (i := 2) (n := 1); exact rfl; (simp only [go_sem, hD]; try rfl); (first | exact Nat.le_refl _ | decide); simp only [resL_tmp, resL_cellE, resC_ok, resL_nil, tupOf, getN, go_sem, hD]
end Go.Proofs.YtblfodnajpamfaaGreatDoor
namespace Go.Ab.A15
open Go Go.Ab Go.Ab.A34
def outK (db : List Tb) (l : List Lk) (i : Nat) : List Dp := (List.range i).map fun j => indS db (l.getD j lk0)
theorem outK_succ (db : List Tb) (l : List Lk) (i : Nat) : outK db l (i + 1) = outK db l i ++ [indS db (l.getD i lk0)] := by
  unfold outK
  rw [List.range_succ, List.map_append]
  rfl
theorem outK_len (db : List Tb) (l : List Lk) (i : Nat) : (outK db l i).length = i := by simp [outK]
theorem outK_all (db : List Tb) (l : List Lk) : outK db l l.length = l.map (indS db) := by
  refine List.ext_getElem (by simp [outK]) fun i h1 h2 => ?_
  simp at h2
  simp [outK, List.getD_eq_getElem?_getD, h2]
def OkKs (l : List Lk) : Prop := ∀ x ∈ l, OkK x
end Go.Ab.A15
def Go.Ab.zDD_1 : Go.Ab.OZ := (.one 0 [0, 8, 9] (.one 1 [1, 6, 7, 8, 9] (.one 2 [2, 4, 5, 6, 7, 8, 9] (.one 3 [3, 4, 5, 6, 7, 8, 9] (.one 4 [4, 5, 6, 7, 8, 9] (.one 5 [5, 6, 7, 8, 9] (.one 6 [6, 7, 8, 9] (.alt 7 (.alt 8 (.one 9 [9] .done) .nil) .nil))))))))
namespace Go.Proofs.YtblfodnajpamfaaGreatDoor
open Go Go.Ab Go.Ab.A34 Go.Ab.A15
variable [Gl] [Tabs]
theorem list_nil (l : List Lk) : PCall Tryz.prog 10 [.agg [SN], LkL l] (.tup [SN, SB false]) := by
  by_cases h : 5 < l.length
  · have hi : (5 : Int) < ((l.length : Nat) : Int) := by omega
    refine Call.enter' (N := 33) (rs := [.tmp 4, .tmp 5]) Tryz.func10 rfl rfl rfl (by decide) rfl ?_; simp only [argT]; have hD : (0 : Nat) = 0 := rfl
    repeat' first | (refine SW.seq_k fun K hK => ?_) | ((first | refine SW.region ?_ | refine SW.cond ?_ | refine SW.ret ?_ | (refine allF_i fun b hb => ?_; replace hD := And.intro hb hD; clear hb; try simp only [fresh_cons, fresh_nil, and_true, ne_eq, neF] at hD)); try simp only [go_sem, hD, hi]) | (apply hK; clear hK K)
    refine ret_pure ?_; simp only [resL_tmp, resL_nil, tupOf, go_sem, hD]
  · have hi : ¬ (5 : Int) < ((l.length : Nat) : Int) := by omega
    refine Call.enter' (N := 33) (rs := [.tmp 4, .tmp 5]) Tryz.func10 rfl rfl rfl (by decide) rfl ?_; simp only [argT]; have hD : (0 : Nat) = 0 := rfl
    repeat' first | (refine SW.seq_k fun K hK => ?_) | ((first | refine SW.region ?_ | refine SW.cond ?_ | refine SW.ret ?_ | (refine allF_i fun b hb => ?_; replace hD := And.intro hb hD; clear hb; try simp only [fresh_cons, fresh_nil, and_true, ne_eq, neF] at hD)); try simp only [go_sem, hD, hi]) | (apply hK; clear hK K)
    refine ret_pure ?_; simp only [resL_tmp, resL_nil, tupOf, go_sem, hD]
theorem list_bad (db : List Tb) (l : List Lk) (h : 5 < l.length ∨ db = []) : PCall Tryz.prog 10 [DB db, LkL l] (.tup [SN, SB false]) := by
  by_cases h5 : 5 < l.length
  · have hi : (5 : Int) < ((l.length : Nat) : Int) := by omega
    refine Call.enter' (N := 33) (rs := [.tmp 4, .tmp 5]) Tryz.func10 rfl rfl rfl (by decide) rfl ?_; simp only [argT]; have hD : (0 : Nat) = 0 := rfl
    repeat' first | (refine SW.seq_k fun K hK => ?_) | ((first | refine SW.region ?_ | refine SW.cond ?_ | refine SW.ret ?_ | (refine allF_i fun b hb => ?_; replace hD := And.intro hb hD; clear hb; try simp only [fresh_cons, fresh_nil, and_true, ne_eq, neF] at hD)); try simp only [go_sem, hD, hi]) | (apply hK; clear hK K)
    refine ret_pure ?_; simp only [resL_tmp, resL_nil, tupOf, go_sem, hD]
  · have hi : ¬ (5 : Int) < ((l.length : Nat) : Int) := by omega
    obtain rfl : db = [] := h.resolve_left h5
    refine Call.enter' (N := 33) (rs := [.tmp 4, .tmp 5]) Tryz.func10 rfl rfl rfl (by decide) rfl ?_; simp only [argT]; have hD : (0 : Nat) = 0 := rfl
    repeat' first | (refine SW.seq_k fun K hK => ?_) | ((first | refine SW.region ?_ | refine SW.cond ?_ | refine SW.ret ?_ | (refine allF_i fun b hb => ?_; replace hD := And.intro hb hD; clear hb; try simp only [fresh_cons, fresh_nil, and_true, ne_eq, neF] at hD)); try simp only [go_sem, hD, hi]) | (apply hK; clear hK K)
    refine ret_pure ?_; simp only [resL_tmp, resL_nil, tupOf, go_sem, hD]
theorem list_r (db : List Tb) (l : List Lk) (hl : OkKs l) (h5 : l.length ≤ 5) (h0 : 0 < db.length) (h1 : db.length ≤ 1000000) (hat : ∀ t ∈ db, t.attrs.length ≤ 1000) : PCall Tryz.prog 10 [DB db, LkL l] (.tup [DpL (l.map (indS db)), SB true]) := by
  have hi5 : ¬ (5 : Int) < ((l.length : Nat) : Int) := by omega
  have hz : ¬ ((db.length : Nat) : Int) = 0 := by omega
  have ci := fun x hx => ind_r db x hx h0 h1 hat
  obtain ⟨F, hF⟩ : ∃ F, F = outK db l := ⟨_, rfl⟩
  have hFs : ∀ i, F (i + 1) = F i ++ [indS db (l.getD i lk0)] := fun i => by rw [hF]; exact outK_succ db l i
  have hFl : ∀ i, (F i).length = i := fun i => by rw [hF]; exact outK_len db l i
  rw [← outK_all, ← hF]
  clear hF
  refine Call.enter' (N := 33) (rs := [.tmp 4, .tmp 5]) Tryz.func10 rfl rfl rfl (by decide) rfl ?_; simp only [argT]; have hD : (0 : Nat) = 0 := rfl
  repeat' first | (refine SW.seq_k fun K hK => ?_) | (refine SW.block ?_) | ((first | refine SW.region ?_ | refine SW.cond ?_ | refine SW.skip ?_ | (refine allF_i fun b hb => ?_; replace hD := And.intro hb hD; clear hb; try simp only [fresh_cons, fresh_nil, and_true, ne_eq, neF] at hD)); try simp only [go_sem, hD, hi5, hz, true_implies]) | (apply hK; clear hK K)
  obtain ⟨db', rfl⟩ : ∃ x, x = b := ⟨_, rfl⟩
  clear hD
  refine Ab.SW.le (St.le_freezeP (i := 2) (b := db') (off := 0) (n := 1) (k := .svs [TL db]) rfl (by rw [find_cons, if_pos rfl]) (by exact Nat.le_refl 1)) ?_
  rw [del_head]
  simp only [getN, Blk.get]
  obtain ⟨I, hI⟩ : ∃ I : Nat → St → Prop, ∀ k S, I k S ↔ (∃ (i : Nat) (x : SV) (h : Heap), k = l.length - i ∧ i ≤ l.length ∧ ((i = 0 ∧ x = SN ∧ h = []) ∨ (0 < i ∧ ∃ g, x = .os g 0 i 4 ∧ h = [(g, .svs (fC dC (F i)))])) ∧ S = ⟨[(1, LkL l), (2, .fp [TL db]), (4, SN), (5, SB false), (6, x), (7, I64 i)], h⟩) := ⟨fun k S => _, fun _ _ => Iff.rfl⟩
  refine SW.loop' I (l.length) ((hI _ _).2 ⟨0, SN, [], rfl, Nat.zero_le _, .inl ⟨rfl, rfl, rfl⟩, rfl⟩) (by repeat' (first | exact rfl | exact trivial | constructor)) ?_
  intro k S hIn
  obtain ⟨i, x, h, rfl, hi, hB, rfl⟩ := (hI _ _).1 hIn
  clear hIn
  have ie : ((i : Nat) : Int).toNat = i := Int.toNat_natCast _
  have i0 : (0 : Int) ≤ ((i : Nat) : Int) := by omega
  by_cases hlt : i < l.length
  · have hli : ((i : Nat) : Int) < (((l.length) : Nat) : Int) := by omega
    have w1 : IntKind.i64.wrap ((i : Int) + 1) = ((i + 1 : Nat) : Int) := by rw [i64_wrap (by omega) (by omega)]; omega
    have c := ci _ (hl _ (getD_mem' lk0 hlt))
    have hsn : fC dC (F (i + 1)) = fC dC (F i) ++ dC (indS db (l.getD i lk0)) := by rw [hFs, ← fC_snoc]
    have fi : LkF l i = LkC (l.getD i lk0) := rfl
    have lc : i * 4 = (fC dC (F i)).length := by
      have := fC_len (enc := dC) (k := 4) (fun _ => rfl) (F i)
      rwa [hFl] at this
    have ba : (i + 1) * 80 ≤ 140737488355328 := by omega
    generalize indS db (l.getD i lk0) = d at *
    generalize l.getD i lk0 = x0 at *
    obtain ⟨xf, xt, xl, xr⟩ := x0
    obtain ⟨df, dl, dt, dr⟩ := d
    rcases hB with ⟨hm0, rfl, rfl⟩ | ⟨hm0, g, rfl, rfl⟩
    · subst hm0
      have hf0 : F 0 = [] := List.eq_nil_of_length_eq_zero (hFl 0)
      have hs0 : fC dC (F (0 + 1)) = dC ⟨df, dl, dt, dr⟩ := by rw [hsn, hf0]; rfl
      have hD : (0 : Nat) = 0 := rfl
      repeat' first | (with_reducible refine And.intro (by omega) ?_) | (refine SW.seq_k fun K hK => ?_) | (refine SW.block ?_) | ((first | refine SW.region ?_ | refine SW.regionZ (id := 7) (Checked.mixed Tryz.checked) Go.Ab.zDD_1 (by kernel_rfl) ?_ | refine SW.cond ?_ | refine SW.skip ?_ | refine ⟨_, c, ?_⟩ | (refine allF_i fun b hb => ?_; replace hD := And.intro hb hD; clear hb; try simp only [fresh_cons, fresh_nil, and_true, ne_eq, neF] at hD) | simp only [appK, appOsK]); try simp only [Go.Ab.zDD_1, go_sem, hD, hli, ie, i0, w1, fi, true_implies]) | (refine And.intro (by omega) ?_) | (refine ifI (fun hc => ?_) (fun hc => ?_) <;> first | (exfalso; omega) | skip) | (apply hK; clear hK K)
      all_goals
        obtain ⟨c1, rfl⟩ : ∃ x, x = b := ⟨_, rfl⟩
        refine Rnd.le (St.le_pick _ ?_ ?_) (Rnd.sub (l.length - (0 + 1)) (by omega) ((hI _ _).2 ⟨0 + 1, .os c1 0 1 4, [(c1, .svs (dC ⟨df, dl, dt, dr⟩))], rfl, by omega, .inr ⟨by omega, c1, rfl, by rw [hs0]⟩, rfl⟩) (by repeat' (first | exact rfl | exact trivial | constructor)))
        · repeat' (first | exact (fun x hx => (List.not_mem_nil hx).elim) | refine List.forall_mem_cons.2 ⟨?_, ?_⟩ | exact List.mem_cons_self | apply List.mem_cons_of_mem)
        · simp [fresh_cons, fresh_nil, hD]
    · have hD : (0 : Nat) = 0 := rfl
      repeat' first | (with_reducible refine And.intro (by omega) ?_) | (refine SW.seq_k fun K hK => ?_) | (refine SW.block ?_) | ((first | refine SW.region ?_ | refine SW.regionZ (id := 7) (Checked.mixed Tryz.checked) Go.Ab.zDD_1 (by kernel_rfl) ?_ | refine SW.cond ?_ | refine SW.skip ?_ | refine ⟨_, c, ?_⟩ | (refine allF_i fun b hb => ?_; replace hD := And.intro hb hD; clear hb; try simp only [fresh_cons, fresh_nil, and_true, ne_eq, neF] at hD) | simp only [appK, appOsK]); try simp only [Go.Ab.zDD_1, go_sem, hD, hli, ie, i0, w1, fi, ba, lc, true_implies]) | (apply hK; clear hK K)
      all_goals
        obtain ⟨c1, rfl⟩ : ∃ x, x = b := ⟨_, rfl⟩
        refine Rnd.le (St.le_pick _ ?_ ?_) (Rnd.sub (l.length - (i + 1)) (by omega) ((hI _ _).2 ⟨i + 1, .os c1 0 (i + 1) 4, [(c1, .svs (fC dC (F i) ++ dC ⟨df, dl, dt, dr⟩))], rfl, by omega, .inr ⟨by omega, c1, rfl, by rw [hsn]⟩, rfl⟩) (by repeat' (first | exact rfl | exact trivial | constructor)))
        · repeat' (first | exact (fun x hx => (List.not_mem_nil hx).elim) | refine List.forall_mem_cons.2 ⟨?_, ?_⟩ | exact List.mem_cons_self | apply List.mem_cons_of_mem)
        · simp [fresh_cons, fresh_nil, hD]
  · have hli : ¬ ((i : Nat) : Int) < (((l.length) : Nat) : Int) := by omega
    obtain rfl : i = l.length := by omega
    have hol := hFl l.length
    generalize F l.length = T at *
    have hD : (0 : Nat) = 0 := rfl
    rcases hB with ⟨hm0, rfl, rfl⟩ | ⟨hm0, g, rfl, rfl⟩
    · have e2 : T = [] := List.eq_nil_of_length_eq_zero (by omega)
      subst e2
      refine Ab.SW.le (St.le_say (i := 6) (v := DpL []) (fun E u hr => Rep.fl_nil hr)) ?_
      repeat' first | (refine SW.seq_k fun K hK => ?_) | ((first | refine SW.region ?_ | refine SW.cond ?_ | refine SW.exit ?_ | refine SW.ret ?_); try simp only [go_sem, hD, hli, true_implies]) | (apply hK; clear hK K) | (clear hK K; apply hK; clear hK K)
      refine ret_pure ?_; simp only [resL_tmp, resL_nil, tupOf, go_sem, hD]
    · refine Ab.SW.le (St.le_freeze (i := 6) (b := g) (off := 0) (len := l.length) (sz := 4) (k := .svs (fC dC T)) rfl (by rw [find_cons, if_pos rfl]) (by show 0 + l.length * 4 ≤ (fC dC T).length; rw [← fC_len (enc := dC) (k := 4) (fun _ => rfl)]; omega) (dpF T) (fun j hj => ?_)) ?_
      · rw [getN_take _ _ _ (by show 0 + j * 4 + 4 ≤ (fC dC T).length; have := fC_lt (enc := dC) (k := 4) (fun _ => rfl) (show j < T.length by omega) (show 3 < 4 by omega); omega), Nat.zero_add]
        exact fC_at (enc := dC) (k := 4) (fun _ => rfl) d0 T j (by omega)
      rw [show SV.fl l.length 4 (dpF T) = DpL T by unfold DpL; rw [hol]]
      repeat' first | (refine SW.seq_k fun K hK => ?_) | ((first | refine SW.region ?_ | refine SW.cond ?_ | refine SW.exit ?_ | refine SW.ret ?_); try simp only [go_sem, hD, hli, true_implies]) | (apply hK; clear hK K) | (clear hK K; apply hK; clear hK K)
      refine ret_pure ?_; simp only [resL_tmp, resL_nil, tupOf, go_sem, hD]
end Go.Proofs.YtblfodnajpamfaaGreatDoor
namespace Go.Ab.A15
open Go Go.Ab Go.Ab.A34
end Go.Ab.A15
namespace Go.Proofs.YtblfodnajpamfaaGreatDoor
open Go Go.Ab Go.Ab.A34 Go.Ab.A15
variable [Gl] [Tabs]
end Go.Proofs.YtblfodnajpamfaaGreatDoor
namespace Go.Ab.A15
open Go Go.Ab Go.Ab.A34
def cmpI (x y : Int) : Int := if x < y then -1 else if y < x then 1 else 0
def lexI : List Int → List Int → Int
  | [], [] => 0
  | [], _ :: _ => -1
  | _ :: _, [] => 1
  | x :: a, y :: b => if cmpI x y = 0 then lexI a b else cmpI x y
theorem lexI_step {a b : List Int} {i : Nat} (h : i < a.length) : lexI (a.drop i) (b.drop i) = if i < b.length then (if cmpI (a.getD i 0) (b.getD i 0) = 0 then lexI (a.drop (i + 1)) (b.drop (i + 1)) else cmpI (a.getD i 0) (b.getD i 0)) else 1 := by
  have g : a.getD i 0 = a[i] := by simp [List.getD_eq_getElem?_getD, h]
  rw [List.drop_eq_getElem_cons h, g]
  by_cases hb : i < b.length
  · have g2 : b.getD i 0 = b[i] := by simp [List.getD_eq_getElem?_getD, hb]
    rw [List.drop_eq_getElem_cons hb, g2, if_pos hb]
    rfl
  · rw [if_neg hb, List.drop_of_length_le (show b.length ≤ i by omega)]
    rfl
theorem lexI_end {a b : List Int} {i : Nat} (h : a.length ≤ i) : lexI (a.drop i) (b.drop i) = if i < b.length then -1 else 0 := by
  rw [List.drop_of_length_le h]
  by_cases hb : i < b.length
  · rw [List.drop_eq_getElem_cons hb, if_pos hb]
    rfl
  · rw [if_neg hb, List.drop_of_length_le (show b.length ≤ i by omega)]
    rfl
def gF (l : List (List Int)) (i : Nat) : List SV := [IL (l.getD i [])]
abbrev GL (l : List (List Int)) : SV := .fl l.length 1 (gF l)
def rowI (x : List Int) : Nat → List (List Int) → Int
  | _, [] => -1
  | i, y :: l => if y = x then (i : Int) else rowI x (i + 1) l
theorem rowI_step {x : List Int} {l : List (List Int)} {i : Nat} (h : i < l.length) : rowI x i (l.drop i) = if l.getD i [] = x then (i : Int) else rowI x (i + 1) (l.drop (i + 1)) := by
  have g : l.getD i [] = l[i] := by simp [List.getD_eq_getElem?_getD, h]
  rw [List.drop_eq_getElem_cons h, g]
  rfl
theorem rowI_mem {x : List Int} : ∀ {l : List (List Int)} {i : Nat}, 0 ≤ rowI x i l ↔ x ∈ l
  | [], i => by
    show (0 : Int) ≤ -1 ↔ _
    simp
  | y :: l, i => by
    unfold rowI
    by_cases h : y = x
    · rw [if_pos h]
      exact ⟨fun _ => by rw [h]; exact List.mem_cons_self, fun _ => by omega⟩
    · rw [if_neg h, rowI_mem, List.mem_cons]
      exact ⟨.inr, fun h2 => h2.resolve_left (Ne.symm h)⟩
end Go.Ab.A15
def Go.Ab.zDF_1 : Go.Ab.OZ := (.one 0 [0, 2, 3, 8] (.one 1 [1, 2, 3, 8] (.one 2 [2, 3, 8] (.one 3 [3, 8] (.one 4 [4, 6, 7, 8] (.one 5 [5, 6, 7, 8] (.one 6 [6, 7, 8] (.one 7 [7, 8] (.one 8 [8] .done)))))))))
namespace Go.Proofs.YtblfodnajpamfaaGreatDoor
open Go Go.Ab Go.Ab.A34 Go.Ab.A15
variable [Gl] [Tabs]
theorem eq_64 (a c : List Int) (ha : a.length ≤ 1000000000) (hc : c.length ≤ 1000000000) (n : Nat) (hn : c.length = n) (f : Nat → List SV) (hf : ∀ i, i < n → f i = [I64 (c.getD i 0)]) : PCall Tryz.prog 75 [IL a, .fl n 1 f] (SB (decide (a = c))) := by
  subst hn
  obtain ⟨X, hX⟩ : ∃ X, X = decide (a = c) := ⟨_, rfl⟩
  rw [← hX]
  have h0 : ¬ a.length = c.length → X = false := fun h => by rw [hX, decide_eq_false fun e => h (by rw [e])]
  have h1 : a.length = c.length → (∀ j, j < a.length → a.getD j 0 = c.getD j 0) → X = true := fun hl h => by rw [hX, decide_eq_true (list_eq hl h)]
  have h2 : ∀ j, ¬ a.getD j 0 = c.getD j 0 → X = false := fun j h => by rw [hX, decide_eq_false fun e => h (by rw [e])]
  clear hX
  by_cases hl : a.length = c.length
  · have hlq : ((a.length : Nat) : Int) = ((c.length : Nat) : Int) := by omega
    refine Call.enter' (N := 26) (rs := [.tmp 4]) Tryz.func75 rfl rfl rfl (by decide) rfl ?_; simp only [argT]; have hD : (0 : Nat) = 0 := rfl
    repeat' first | (refine SW.seq_k fun K hK => ?_) | (refine SW.block ?_) | ((first | refine SW.region ?_ | refine SW.cond ?_ | refine SW.skip ?_); try simp only [go_sem, hD, hlq]) | (apply hK; clear hK K)
    obtain ⟨I, hI⟩ : ∃ I : Nat → St → Prop, ∀ k S, I k S ↔ (∃ (i : Nat) , k = a.length - i ∧ i ≤ a.length ∧ (∀ j, j < i → a.getD j 0 = c.getD j 0) ∧ S = ⟨[(0, IL a), (1, .fl c.length 1 f), (11, IL a), (12, I64 a.length), (13, I64 i)], []⟩) := ⟨fun k S => _, fun _ _ => Iff.rfl⟩
    refine SW.loop' I (a.length) ((hI _ _).2 ⟨0, rfl, Nat.zero_le _, (fun j hj => absurd hj (by omega)), rfl⟩) (by repeat' (first | exact rfl | exact trivial | exact int_eq (by omega) | constructor)) ?_
    intro k S hIn
    obtain ⟨i, rfl, hi, hL, rfl⟩ := (hI _ _).1 hIn
    clear hIn
    have ie : ((i : Nat) : Int).toNat = i := Int.toNat_natCast _
    have i0 : (0 : Int) ≤ ((i : Nat) : Int) := by omega
    by_cases hlt : i < a.length
    · have hli : ((i : Nat) : Int) < (((a.length) : Nat) : Int) := by omega
      have w1 : IntKind.i64.wrap ((i : Int) + 1) = ((i + 1 : Nat) : Int) := by rw [i64_wrap (by omega) (by omega)]; omega
      have hlc : ((i : Nat) : Int) < ((c.length : Nat) : Int) := by omega
      have fi : iF a i = [I64 (a.getD i 0)] := rfl
      have gi := hf i (by omega)
      have h2i := h2 i
      have hn1 : a.getD i 0 = c.getD i 0 → ∀ j, j < i + 1 → a.getD j 0 = c.getD j 0 := fun h j hj => by
        rcases Nat.lt_or_ge j i with h3 | h3
        · exact hL j h3
        · obtain rfl : j = i := by omega
          exact h
      generalize a.getD i 0 = u at *
      generalize c.getD i 0 = v at *
      by_cases huv : u = v
      · have hn2 := hn1 huv
        repeat' first | (refine SW.seq_k fun K hK => ?_) | (refine SW.block ?_) | ((first | refine SW.region ?_ | refine SW.regionZ (id := 6) (Checked.mixed Tryz.checked) Go.Ab.zDF_1 (by kernel_rfl) ?_ | refine SW.cond ?_ | refine SW.skip ?_); try simp only [Go.Ab.zDF_1, go_sem, hD, hli, hlc, ie, i0, w1, fi, gi, huv]) | (apply hK; clear hK K)
        refine Rnd.sub (a.length - (i + 1)) (by omega) ((hI _ _).2 ⟨i + 1, rfl, by omega, hn2, rfl⟩) (by repeat' (first | exact rfl | exact trivial | constructor))
      · have hx := h2i huv
        subst hx
        repeat' first | (refine SW.seq_k fun K hK => ?_) | (refine SW.block ?_) | ((first | refine SW.region ?_ | refine SW.regionZ (id := 6) (Checked.mixed Tryz.checked) Go.Ab.zDF_1 (by kernel_rfl) ?_ | refine SW.cond ?_ | refine SW.skip ?_ | refine SW.ret ?_); try simp only [Go.Ab.zDF_1, go_sem, hD, hli, hlc, ie, i0, w1, fi, gi, huv]) | (apply hK; clear hK K)
        refine ret_pure ?_; simp only [resL_tmp, resL_nil, tupOf, go_sem, hD]
    · have hli : ¬ ((i : Nat) : Int) < (((a.length) : Nat) : Int) := by omega
      have hx := h1 hl fun j hj => hL j (by omega)
      subst hx
      have nl : ¬ ((c.length : Nat) : Int) < ((c.length : Nat) : Int) := by omega
      repeat' first | (refine SW.seq_k fun K hK => ?_) | ((first | refine SW.region ?_ | refine SW.cond ?_ | refine SW.exit ?_ | refine SW.ret ?_); try simp only [go_sem, hD, hli, nl]) | (apply hK; clear hK K) | (clear hK K; apply hK; clear hK K)
      refine ret_pure ?_; simp only [resL_tmp, resL_nil, tupOf, go_sem, hD]
  · have hlq : ¬ ((a.length : Nat) : Int) = ((c.length : Nat) : Int) := by omega
    have hx := h0 hl
    subst hx
    refine Call.enter' (N := 26) (rs := [.tmp 4]) Tryz.func75 rfl rfl rfl (by decide) rfl ?_; simp only [argT]; have hD : (0 : Nat) = 0 := rfl
    repeat' first | (refine SW.seq_k fun K hK => ?_) | ((first | refine SW.region ?_ | refine SW.cond ?_ | refine SW.ret ?_); try simp only [go_sem, hD, hlq]) | (apply hK; clear hK K)
    refine ret_pure ?_; simp only [resL_tmp, resL_nil, tupOf, go_sem, hD]
theorem cmp_64 (x y : Int) : PCall Tryz.prog 100 [I64 x, I64 y] (I64 (cmpI x y)) := by
  have nan : ∀ z, PCall Tryz.prog 127 [I64 z] (SB false) := fun z => by
    refine Call.enter' (N := 6) (rs := [.tmp 2]) Tryz.func127 rfl rfl rfl (by decide) rfl ?_; simp only [argT]; have hD : (0 : Nat) = 0 := rfl
    repeat' first | (refine SW.seq_k fun K hK => ?_) | ((first | refine SW.region ?_ | refine SW.ret ?_); try simp only [go_sem, hD]) | (apply hK; clear hK K)
    refine ret_pure ?_; simp only [resL_tmp, resL_nil, tupOf, go_sem, hD]
  have cx := nan x
  have cy := nan y
  obtain ⟨R, hR⟩ : ∃ R, R = cmpI x y := ⟨_, rfl⟩
  rw [← hR]
  unfold cmpI at hR
  by_cases h1 : x < y
  · rw [if_pos h1] at hR
    subst hR
    refine Call.enter' (N := 20) (rs := [.tmp 4]) Tryz.func100 rfl rfl rfl (by decide) rfl ?_; simp only [argT]; have hD : (0 : Nat) = 0 := rfl
    repeat' first | (refine SW.seq_k fun K hK => ?_) | ((first | refine SW.region ?_ | refine SW.cond ?_ | refine SW.skip ?_ | refine SW.ret ?_ | refine Call.of_pure (cx) ?_ | refine Call.of_pure (cy) ?_); try simp only [go_sem, hD, h1]) | (apply hK; clear hK K)
    refine ret_pure ?_; simp only [resL_tmp, resL_nil, tupOf, go_sem, hD]
  · rw [if_neg h1] at hR
    by_cases h2 : y < x
    · rw [if_pos h2] at hR
      subst hR
      refine Call.enter' (N := 20) (rs := [.tmp 4]) Tryz.func100 rfl rfl rfl (by decide) rfl ?_; simp only [argT]; have hD : (0 : Nat) = 0 := rfl
      repeat' first | (refine SW.seq_k fun K hK => ?_) | ((first | refine SW.region ?_ | refine SW.cond ?_ | refine SW.skip ?_ | refine SW.ret ?_ | refine Call.of_pure (cx) ?_ | refine Call.of_pure (cy) ?_); try simp only [go_sem, hD, h1, h2]) | (apply hK; clear hK K)
      refine ret_pure ?_; simp only [resL_tmp, resL_nil, tupOf, go_sem, hD]
    · rw [if_neg h2] at hR
      subst hR
      refine Call.enter' (N := 20) (rs := [.tmp 4]) Tryz.func100 rfl rfl rfl (by decide) rfl ?_; simp only [argT]; have hD : (0 : Nat) = 0 := rfl
      repeat' first | (refine SW.seq_k fun K hK => ?_) | ((first | refine SW.region ?_ | refine SW.cond ?_ | refine SW.skip ?_ | refine SW.ret ?_ | refine Call.of_pure (cx) ?_ | refine Call.of_pure (cy) ?_); try simp only [go_sem, hD, h1, h2]) | (apply hK; clear hK K)
      refine ret_pure ?_; simp only [resL_tmp, resL_nil, tupOf, go_sem, hD]
theorem lex_64 (a b : List Int) (ha : a.length ≤ 1000000000) (hb : b.length ≤ 1000000000) : PCall Tryz.prog 78 [IL a, IL b] (I64 (lexI a b)) := by
  obtain ⟨R, hR⟩ : ∃ R, R = lexI a b := ⟨_, rfl⟩
  rw [← hR]
  have hR0 : R = lexI (a.drop 0) (b.drop 0) := by rw [List.drop_zero, List.drop_zero]; exact hR
  clear hR
  refine Call.enter' (N := 36) (rs := [.tmp 4]) Tryz.func78 rfl rfl rfl (by decide) rfl ?_; simp only [argT]; have hD : (0 : Nat) = 0 := rfl
  repeat' first | (refine SW.seq_k fun K hK => ?_) | (refine SW.block ?_) | (refine SW.region ?_; try simp only [go_sem, hD]) | (apply hK; clear hK K)
  obtain ⟨I, hI⟩ : ∃ I : Nat → St → Prop, ∀ k S, I k S ↔ (∃ (i : Nat) , k = a.length - i ∧ i ≤ a.length ∧ R = lexI (a.drop i) (b.drop i) ∧ S = ⟨[(0, IL a), (1, IL b), (9, IL a), (10, I64 a.length), (11, I64 i)], []⟩) := ⟨fun k S => _, fun _ _ => Iff.rfl⟩
  refine SW.loop' I (a.length) ((hI _ _).2 ⟨0, rfl, Nat.zero_le _, hR0, rfl⟩) (by repeat' (first | exact rfl | exact trivial | constructor)) ?_
  intro k S hIn
  obtain ⟨i, rfl, hi, hC, rfl⟩ := (hI _ _).1 hIn
  clear hIn
  have ie : ((i : Nat) : Int).toNat = i := Int.toNat_natCast _
  have i0 : (0 : Int) ≤ ((i : Nat) : Int) := by omega
  clear hR0
  by_cases hlt : i < a.length
  · have hli : ((i : Nat) : Int) < (((a.length) : Nat) : Int) := by omega
    have w1 : IntKind.i64.wrap ((i : Int) + 1) = ((i + 1 : Nat) : Int) := by rw [i64_wrap (by omega) (by omega)]; omega
    rw [lexI_step hlt] at hC
    have fi : iF a i = [I64 (a.getD i 0)] := rfl
    by_cases hlb : i < b.length
    · rw [if_pos hlb] at hC
      have gi : iF b i = [I64 (b.getD i 0)] := rfl
      have hnb : ¬ ((b.length : Nat) : Int) ≤ ((i : Nat) : Int) := by omega
      have hbi : ((i : Nat) : Int) < ((b.length : Nat) : Int) := by omega
      have c := cmp_64 (a.getD i 0) (b.getD i 0)
      generalize cmpI (a.getD i 0) (b.getD i 0) = z at *
      generalize a.getD i 0 = u at *
      generalize b.getD i 0 = v at *
      by_cases hz : z = 0
      · rw [if_pos hz] at hC
        repeat' first | (refine SW.seq_k fun K hK => ?_) | (refine SW.block ?_) | ((first | refine SW.region ?_ | refine SW.cond ?_ | refine SW.skip ?_ | refine Call.of_pure (c) ?_); try simp only [go_sem, hD, hli, ie, i0, w1, fi, gi, hnb, hbi, hz, true_implies]) | (apply hK; clear hK K)
        refine Rnd.sub (a.length - (i + 1)) (by omega) ((hI _ _).2 ⟨i + 1, rfl, by omega, hC, rfl⟩) (by repeat' (first | exact rfl | exact trivial | constructor))
      · rw [if_neg hz] at hC
        subst hC
        repeat' first | (refine SW.seq_k fun K hK => ?_) | (refine SW.block ?_) | ((first | refine SW.region ?_ | refine SW.cond ?_ | refine SW.skip ?_ | refine SW.ret ?_ | refine Call.of_pure (c) ?_); try simp only [go_sem, hD, hli, ie, i0, w1, fi, gi, hnb, hbi, hz, true_implies]) | (apply hK; clear hK K)
        refine ret_pure ?_; simp only [resL_tmp, resL_nil, tupOf, go_sem, hD]
    · rw [if_neg hlb] at hC
      subst hC
      have hnb : ((b.length : Nat) : Int) ≤ ((i : Nat) : Int) := by omega
      repeat' first | (refine SW.seq_k fun K hK => ?_) | (refine SW.block ?_) | ((first | refine SW.region ?_ | refine SW.cond ?_ | refine SW.skip ?_ | refine SW.ret ?_); try simp only [go_sem, hD, hli, ie, i0, w1, fi, hnb, true_implies]) | (apply hK; clear hK K)
      refine ret_pure ?_; simp only [resL_tmp, resL_nil, tupOf, go_sem, hD]
  · have hli : ¬ ((i : Nat) : Int) < (((a.length) : Nat) : Int) := by omega
    rw [lexI_end (by omega)] at hC
    have hia : i = a.length := by omega
    by_cases hlb : i < b.length
    · rw [if_pos hlb] at hC
      subst hC
      have hab : ((a.length : Nat) : Int) < ((b.length : Nat) : Int) := by omega
      repeat' first | (refine SW.seq_k fun K hK => ?_) | ((first | refine SW.region ?_ | refine SW.cond ?_ | refine SW.exit ?_ | refine SW.ret ?_); try simp only [go_sem, hD, hli, hab, true_implies]) | (apply hK; clear hK K) | (clear hK K; apply hK; clear hK K)
      refine ret_pure ?_; simp only [resL_tmp, resL_nil, tupOf, go_sem, hD]
    · rw [if_neg hlb] at hC
      subst hC
      have hab : ¬ ((a.length : Nat) : Int) < ((b.length : Nat) : Int) := by omega
      repeat' first | (refine SW.seq_k fun K hK => ?_) | ((first | refine SW.region ?_ | refine SW.cond ?_ | refine SW.skip ?_ | refine SW.exit ?_ | refine SW.ret ?_); try simp only [go_sem, hD, hli, hab, true_implies]) | (apply hK; clear hK K) | (clear hK K; apply hK; clear hK K)
      refine ret_pure ?_; simp only [resL_tmp, resL_nil, tupOf, go_sem, hD]
theorem has_64 (l : List (List Int)) (row : List Int) (hl : l.length ≤ 1000000000) (hr : row.length ≤ 1000000000) (hs : ∀ r ∈ l, r.length ≤ 1000000000) : PCall Tryz.prog 73 [GL l, .fn (.func 74) [] [.fp [IL row]]] (SB (decide (row ∈ l))) := by
  have c1 : ∀ r ∈ l, PCall Tryz.prog 74 [IL r, .fp [IL row]] (SB (decide (r = row))) := fun r hm => by
    have ce := eq_64 r row (hs r hm) hr row.length rfl (iF row) (fun j hj => rfl)
    generalize decide (r = row) = w at *
    refine Call.enter' (N := 7) (rs := [.tmp 3]) Tryz.func74 rfl rfl rfl (by decide) rfl ?_; simp only [argT]; have hD : (0 : Nat) = 0 := rfl
    repeat' first | (refine SW.seq_k fun K hK => ?_) | ((first | refine SW.region ?_ | refine SW.ret ?_ | refine Call.of_pure (ce) ?_); try simp only [go_sem, hD]) | (apply hK; clear hK K)
    refine ret_pure ?_; simp only [resL_tmp, resL_nil, tupOf, go_sem, hD]
  have ix : PCall Tryz.prog 97 [GL l, .fn (.func 74) [] [.fp [IL row]]] (I64 (rowI row 0 l)) := by
    obtain ⟨R, hR⟩ : ∃ R, R = rowI row 0 l := ⟨_, rfl⟩
    rw [← hR]
    refine Call.enter' (N := 19) (rs := [.tmp 4]) Tryz.func97 rfl rfl rfl (by decide) rfl ?_; simp only [argT]; have hD : (0 : Nat) = 0 := rfl
    repeat' first | (refine SW.seq_k fun K hK => ?_) | (refine SW.block ?_) | (refine SW.region ?_; try simp only [go_sem, hD]) | (apply hK; clear hK K)
    obtain ⟨I, hI⟩ : ∃ I : Nat → St → Prop, ∀ k S, I k S ↔ (∃ (i : Nat) , k = l.length - i ∧ i ≤ l.length ∧ R = rowI row i (l.drop i) ∧ S = ⟨[(0, GL l), (1, .fn (.func 74) [] [.fp [IL row]]), (7, I64 l.length), (8, I64 i)], []⟩) := ⟨fun k S => _, fun _ _ => Iff.rfl⟩
    refine SW.loop' I (l.length) ((hI _ _).2 ⟨0, rfl, Nat.zero_le _, by rw [List.drop_zero]; exact hR, rfl⟩) (by repeat' (first | exact rfl | exact trivial | constructor)) ?_
    intro k S hIn
    obtain ⟨i, rfl, hi, hC, rfl⟩ := (hI _ _).1 hIn
    clear hIn
    have ie : ((i : Nat) : Int).toNat = i := Int.toNat_natCast _
    have i0 : (0 : Int) ≤ ((i : Nat) : Int) := by omega
    clear hR
    by_cases hlt : i < l.length
    · have hli : ((i : Nat) : Int) < (((l.length) : Nat) : Int) := by omega
      have w1 : IntKind.i64.wrap ((i : Int) + 1) = ((i + 1 : Nat) : Int) := by rw [i64_wrap (by omega) (by omega)]; omega
      rw [rowI_step hlt] at hC
      have fi : gF l i = [IL (l.getD i [])] := rfl
      have c := c1 _ (getD_mem' [] hlt)
      generalize l.getD i [] = t at *
      by_cases he : t = row
      · rw [if_pos he] at hC
        rw [decide_eq_true he] at c
        subst hC
        repeat' first | (refine SW.seq_k fun K hK => ?_) | (refine SW.block ?_) | ((first | refine SW.region ?_ | refine SW.cond ?_ | refine SW.skip ?_ | refine SW.ret ?_ | refine Call.of_pure (c) ?_); try simp only [go_sem, hD, hli, ie, i0, w1, fi]) | (apply hK; clear hK K)
        refine ret_pure ?_; simp only [resL_tmp, resL_nil, tupOf, go_sem, hD]
      · rw [if_neg he] at hC
        rw [decide_eq_false he] at c
        repeat' first | (refine SW.seq_k fun K hK => ?_) | (refine SW.block ?_) | ((first | refine SW.region ?_ | refine SW.cond ?_ | refine SW.skip ?_ | refine Call.of_pure (c) ?_); try simp only [go_sem, hD, hli, ie, i0, w1, fi]) | (apply hK; clear hK K)
        refine Rnd.sub (l.length - (i + 1)) (by omega) ((hI _ _).2 ⟨i + 1, rfl, by omega, hC, rfl⟩) (by repeat' (first | exact rfl | exact trivial | constructor))
    · have hli : ¬ ((i : Nat) : Int) < (((l.length) : Nat) : Int) := by omega
      rw [List.drop_of_length_le (by omega)] at hC
      have hC2 : R = -1 := hC
      subst hC2
      repeat' first | (refine SW.seq_k fun K hK => ?_) | ((first | refine SW.region ?_ | refine SW.cond ?_ | refine SW.exit ?_ | refine SW.ret ?_); try simp only [go_sem, hD, hli]) | (apply hK; clear hK K) | (clear hK K; apply hK; clear hK K)
      refine ret_pure ?_; simp only [resL_tmp, resL_nil, tupOf, go_sem, hD]
  have e : decide (row ∈ l) = decide (0 ≤ rowI row 0 l) := by rw [Bool.eq_iff_iff, decide_eq_true_iff, decide_eq_true_iff]; exact rowI_mem.symm
  rw [e]
  generalize rowI row 0 l = R at *
  refine Call.enter' (N := 9) (rs := [.tmp 4]) Tryz.func73 rfl rfl rfl (by decide) rfl ?_; simp only [argT]; have hD : (0 : Nat) = 0 := rfl
  repeat' first | (refine SW.seq_k fun K hK => ?_) | ((first | refine SW.region ?_ | refine SW.ret ?_ | refine Call.of_pure (ix) ?_); try simp only [go_sem, hD]) | (apply hK; clear hK K)
  refine ret_pure ?_; simp only [resL_tmp, resL_nil, tupOf, go_sem, hD]
end Go.Proofs.YtblfodnajpamfaaGreatDoor
namespace Go.Ab
open Go
theorem PCall.nilA [Gl] {P : Program} {f : FuncId} {args : List SV} {r : SV} (i : Nat) {sz : Nat} {g : Nat → List SV} (hi : i < args.length) (ha : args.getD i .any = .sc (.slice none 0 0)) (hc : PCall P f (args.set i (.fl 0 sz g)) r) : PCall P f args r := by
  refine Call.le (fun c hc => hc) (fun M w vs own hr => ⟨own, by simpa using hr.1, fun j hj => ?_⟩) hc
  rw [getD_set hi]
  have h0 := hr.2 j (by simpa using hj)
  by_cases hij : i = j
  · subst hij
    rw [if_pos rfl]
    rw [ha] at h0
    exact Rep.fl_nil h0
  · rw [if_neg hij]; exact h0
end Go.Ab
namespace Go.Ab.A15
open Go Go.Ab Go.Ab.A34
abbrev gC (l : List (List Int)) : List SV := l.map fun r => IL r
theorem gC_get {l : List (List Int)} {j : Nat} (h : j < l.length) : (gC l).getD j .any = IL (l.getD j []) := by simp [gC, List.getD_eq_getElem?_getD, h]
end Go.Ab.A15
def Go.Ab.zDG_1 : Go.Ab.OX := (.one 5 [5, 6, 7, 8, 10, 11, 14, 15, 16] (.one 6 [6, 7, 8, 10, 11, 14, 15, 16] (.one 7 [7, 8, 10, 11, 14, 15, 16] (.one 8 [8, 10, 11, 14, 15, 16] (.one 9 [9, 10, 11, 14, 15, 16] (.one 10 [10, 11, 14, 15, 16] (.one 11 [11, 14, 15, 16] (.one 12 [12, 13, 14, 15, 16] (.fre 0 [0, 1, 2, 3, 15, 16] (.fre 1 [1, 2, 3, 15, 16] (.fre 2 [2, 3, 15, 16] (.fre 4 [4, 15, 16] (.alt 3 (.alt 13 (.alt 14 (.one 15 [15, 16] (.alt 16 .done .nil)) .nil) .nil) (.alt 13 (.alt 3 (.alt 14 (.one 15 [15, 16] (.alt 16 .done .nil)) .nil) (.alt 14 (.one 3 [3, 15, 16] (.one 15 [15, 16] (.alt 16 .done .nil))) .nil)) .nil))))))))))))))
namespace Go.Proofs.YtblfodnajpamfaaGreatDoor
open Go Go.Ab Go.Ab.A34 Go.Ab.A15
variable [Gl] [Tabs]
theorem has_o (b : Nat) (h : Heap) (l : List (List Int)) (row : List Int) (hl : l.length ≤ 1000000000) (hr : row.length ≤ 1000000000) (hs : ∀ r ∈ l, r.length ≤ 1000000000) (hH : h.find b = some (.svs (gC l))) : Ab.Call Tryz.prog 73 [.os b 0 l.length 1, .fn (.func 74) [] [.fp [IL row]]] h (fun r h' => r = SB (decide (row ∈ l)) ∧ h' = h) :=
  Call.lend (args := [.os b 0 l.length 1, .fn (.func 74) [] [.fp [IL row]]]) (k := .svs (gC l)) (off := 0) (sz := 1) 0 (gF l) (by simp) rfl hH (by show 0 + l.length * 1 ≤ (gC l).length; rw [List.length_map]; omega) (fun j hj => by
    rw [getN_one]
    show _ = [(gC l).getD (0 + j * 1) .any]
    rw [Nat.zero_add, Nat.mul_one, gC_get hj]
    rfl) (has_64 l row hl hr hs)
theorem has_n (row : List Int) (hr : row.length ≤ 1000000000) : PCall Tryz.prog 73 [SN, .fn (.func 74) [] [.fp [IL row]]] (SB false) :=
  PCall.nilA (args := [SN, .fn (.func 74) [] [.fp [IL row]]]) (sz := 1) (g := gF []) 0 (by simp) rfl (has_64 [] row (by simp) hr (by simp))
theorem add_nil (wb rb t n : Nat) (x : SV) (cs : List SV) (z : Int) (row : List Int) (hw : ¬ wb = rb) (hw2 : ¬ rb = wb) (ht : t < n) (hn : cs.length = n) (hc : cs.getD t .any = SN) (hz : 0 ≤ z ∧ z ≤ 1000000000) (hr : row.length ≤ 1000000000) (hnn : n ≤ 1000000000) :
    Ab.Call Tryz.prog 48 [.op wb 0, I64 t, IL row] [(wb, .svs [x, .os rb 0 n 1, I64 z]), (rb, .svs cs)] (fun r h' => r = SB true ∧ ∃ b, h' = [(b, .svs (gC [row])), (wb, .svs [x, .os rb 0 n 1, I64 (z + 1)]), (rb, .svs (cs.set t (.os b 0 1 1)))]) := by
  have c := has_n row hr
  have hD := And.intro (eq_false hw) (eq_false hw2)
  have hE := hD
  have z0 : 0 + t * 1 = t := by omega
  have te : ((t : Nat) : Int).toNat = t := Int.toNat_natCast _
  have t0q : (0 : Int) ≤ ((t : Nat) : Int) := by omega
  have tn : ((t : Nat) : Int) < ((n : Nat) : Int) := by omega
  have w1 : IntKind.i64.wrap (z + 1) = z + 1 := i64_wrap (by omega) (by omega)
  have hcs : t < cs.length := by omega
  clear hD
  refine Call.enter' (N := 39) (rs := [.tmp 6]) Tryz.func48 rfl rfl rfl (by decide) rfl ?_; simp only [argT]; have hD : (0 : Nat) = 0 := rfl
  clear hD
  have hD := hE
  refine SW.seq_k fun K0 hK0 => ?_
  refine SW.region ?_
  simp only [go_sem, hD]
  refine allF_i fun db hb => ?_
  simp only [fresh_cons, fresh_nil, and_true, ne_eq, neF] at hb
  try simp only [go_sem, hD]
  refine hK0 _ ?_
  clear hK0 K0 hb
  refine Ab.SW.le (St.le_freezeP (i := 5) (n := 1) rfl (by rw [find_cons, if_pos rfl]) (by exact Nat.le_refl 1)) ?_
  rw [del_head]
  simp only [getN, Blk.get]
  repeat' first | (with_reducible refine And.intro (by omega) ?_) | (refine SW.seq_k fun K hK => ?_) | ((first | refine SW.region ?_ | refine SW.regionX (id := 3) (Checked.mixed Tryz.checked) Go.Ab.zDG_1 (by kernel_rfl) ?_ | refine SW.cond ?_ | refine SW.skip ?_ | refine SW.ret ?_ | refine Call.of_pure (c) ?_ | (refine allF_i fun b hb => ?_; replace hD := And.intro hb hD; clear hb; try simp only [fresh_cons, fresh_nil, and_true, ne_eq, neF] at hD) | simp only [appK, appOsK]); try simp only [Go.Ab.zDG_1, go_sem, hD, z0, te, t0q, tn, w1, hc, ht, hn, true_implies]) | (refine And.intro (by omega) ?_) | (apply hK; clear hK K) | (refine And.intro ?_ ?_)
  all_goals
    obtain ⟨nb, rfl⟩ : ∃ x, x = b := ⟨_, rfl⟩
    refine retQ_le (St.le_pick [(nb, .svs [IL row]), (wb, .svs [x, .os rb 0 n 1, I64 (z + 1)]), (rb, .svs (cs.set t (.os nb 0 1 1)))] ?_ ?_) ?_
    · repeat' (first | exact (fun x hx => (List.not_mem_nil hx).elim) | refine List.forall_mem_cons.2 ⟨?_, ?_⟩ | exact List.mem_cons_self | apply List.mem_cons_of_mem)
    · simp [fresh_cons, fresh_nil, hD]
    · simp only [resL_tmp, resL_nil, tupOf, go_sem, hD]
      exact ⟨nb, rfl⟩
theorem add_row (b wb rb t n : Nat) (x : SV) (cs : List SV) (z : Int) (l : List (List Int)) (row : List Int) (h1 : ¬ wb = rb) (h2 : ¬ rb = wb) (h3 : ¬ b = wb) (h4 : ¬ wb = b) (h5 : ¬ b = rb) (h6 : ¬ rb = b) (ht : t < n) (hn : cs.length = n) (hc : cs.getD t .any = .os b 0 l.length 1) (hz : 0 ≤ z ∧ z ≤ 1000000000) (hl : l.length ≤ 1000000000) (hr : row.length ≤ 1000000000) (hs : ∀ r ∈ l, r.length ≤ 1000000000) (hnn : n ≤ 1000000000) :
    Ab.Call Tryz.prog 48 [.op wb 0, I64 t, IL row] [(b, .svs (gC l)), (wb, .svs [x, .os rb 0 n 1, I64 z]), (rb, .svs cs)] (fun r h' => (row ∈ l ∧ r = SB false ∧ h' = [(b, .svs (gC l)), (wb, .svs [x, .os rb 0 n 1, I64 z]), (rb, .svs cs)]) ∨ (row ∉ l ∧ r = SB true ∧ ∃ b, h' = [(b, .svs (gC (l ++ [row]))), (wb, .svs [x, .os rb 0 n 1, I64 (z + 1)]), (rb, .svs (cs.set t (.os b 0 (l.length + 1) 1)))])) := by
  have c := fun h hH => has_o b h l row hl hr hs hH
  have hE := And.intro (And.intro (eq_false h1) (eq_false h2)) (And.intro (And.intro (eq_false h3) (eq_false h4)) (And.intro (eq_false h5) (eq_false h6)))
  have hD := hE
  have z0 : 0 + t * 1 = t := by omega
  have te : ((t : Nat) : Int).toNat = t := Int.toNat_natCast _
  have t0q : (0 : Int) ≤ ((t : Nat) : Int) := by omega
  have tn : ((t : Nat) : Int) < ((n : Nat) : Int) := by omega
  have w1 : IntKind.i64.wrap (z + 1) = z + 1 := i64_wrap (by omega) (by omega)
  have hcs : t < cs.length := by omega
  have lc : l.length * 1 = (gC l).length := by rw [List.length_map]; omega
  have ba : (l.length + 1) * 24 ≤ 140737488355328 := by omega
  have hgs : gC (l ++ [row]) = gC l ++ [IL row] := by rw [gC, List.map_append]; rfl
  by_cases hm : row ∈ l
  · rw [decide_eq_true hm] at c
    refine Call.mono ?_ fun r h' hx => .inl ⟨hm, hx⟩
    generalize gC l = G at *
    clear hD
    refine Call.enter' (N := 39) (rs := [.tmp 6]) Tryz.func48 rfl rfl rfl (by decide) rfl ?_; simp only [argT]; have hD : (0 : Nat) = 0 := rfl
    clear hD
    have hD := hE
    refine SW.seq_k fun K0 hK0 => ?_
    refine SW.region ?_
    simp only [go_sem, hD]
    refine allF_i fun db hb => ?_
    simp only [fresh_cons, fresh_nil, and_true, ne_eq, neF] at hb
    try simp only [go_sem, hD]
    refine hK0 _ ?_
    clear hK0 K0 hb
    refine Ab.SW.le (St.le_freezeP (i := 5) (n := 1) rfl (by rw [find_cons, if_pos rfl]) (by exact Nat.le_refl 1)) ?_
    rw [del_head]
    simp only [getN, Blk.get]
    repeat' first | ((refine Call.mono (c _ (by simp [find_cons, hD])) ?_); (intro r h' hx); (obtain ⟨rfl, rfl⟩ := hx); (try simp only [go_sem, hD])) | (refine SW.seq_k fun K hK => ?_) | ((first | refine SW.region ?_ | refine SW.cond ?_ | refine SW.ret ?_); try simp only [go_sem, hD, z0, te, t0q, tn, w1, hc, ht, hn, true_implies]) | (apply hK; clear hK K)
    all_goals
      refine retQ_le (St.le_sub (l := [(6, SB false)]) (by repeat' (first | exact rfl | exact trivial | constructor))) ?_
      simp only [resL_tmp, resL_nil, tupOf, go_sem, hD]
  · rw [decide_eq_false hm] at c
    refine Call.mono (Q := fun r h' => r = SB true ∧ ∃ b, h' = [(b, .svs (gC l ++ [IL row])), (wb, .svs [x, .os rb 0 n 1, I64 (z + 1)]), (rb, .svs (cs.set t (.os b 0 (l.length + 1) 1)))]) ?_ fun r h' hx => .inr ⟨hm, hx.1, by rw [hgs]; exact hx.2⟩
    clear hgs
    generalize gC l = G at *
    clear hD
    refine Call.enter' (N := 39) (rs := [.tmp 6]) Tryz.func48 rfl rfl rfl (by decide) rfl ?_; simp only [argT]; have hD : (0 : Nat) = 0 := rfl
    clear hD
    have hD := hE
    refine SW.seq_k fun K0 hK0 => ?_
    refine SW.region ?_
    simp only [go_sem, hD]
    refine allF_i fun db hb => ?_
    simp only [fresh_cons, fresh_nil, and_true, ne_eq, neF] at hb
    try simp only [go_sem, hD]
    refine hK0 _ ?_
    clear hK0 K0 hb
    refine Ab.SW.le (St.le_freezeP (i := 5) (n := 1) rfl (by rw [find_cons, if_pos rfl]) (by exact Nat.le_refl 1)) ?_
    rw [del_head]
    simp only [getN, Blk.get]
    repeat' first | ((refine Call.mono (c _ (by simp [find_cons, hD])) ?_); (intro r h' hx); (obtain ⟨rfl, rfl⟩ := hx); (try simp only [go_sem, hD])) | (with_reducible refine And.intro (by omega) ?_) | (refine SW.seq_k fun K hK => ?_) | ((first | refine SW.region ?_ | refine SW.regionX (id := 3) (Checked.mixed Tryz.checked) Go.Ab.zDG_1 (by kernel_rfl) ?_ | refine SW.cond ?_ | refine SW.skip ?_ | refine SW.ret ?_ | (refine allF_i fun b hb => ?_; replace hD := And.intro hb hD; clear hb; try simp only [fresh_cons, fresh_nil, and_true, ne_eq, neF] at hD) | simp only [appK, appOsK]); try simp only [Go.Ab.zDG_1, go_sem, hD, z0, te, t0q, tn, w1, hc, ht, hn, lc, ba, true_implies]) | (apply hK; clear hK K) | (refine And.intro ?_ ?_)
    all_goals
      obtain ⟨nb, rfl⟩ : ∃ x, x = b := ⟨_, rfl⟩
      refine retQ_le (St.le_pick [(nb, .svs (G ++ [IL row])), (wb, .svs [x, .os rb 0 n 1, I64 (z + 1)]), (rb, .svs (cs.set t (.os nb 0 (l.length + 1) 1)))] ?_ ?_) ?_
      · repeat' (first | exact (fun x hx => (List.not_mem_nil hx).elim) | refine List.forall_mem_cons.2 ⟨?_, ?_⟩ | exact List.mem_cons_self | apply List.mem_cons_of_mem)
      · simp [fresh_cons, fresh_nil, hD]
      · simp only [resL_tmp, resL_nil, tupOf, go_sem, hD]
        exact ⟨nb, rfl⟩
end Go.Proofs.YtblfodnajpamfaaGreatDoor
namespace Go.Ab
open Go
theorem Call.nd [Gl] {P : Program} {f : FuncId} {args : List SV} {h : Heap} {Q : SV → Heap → Prop} (hc : (h.map (·.1)).Nodup → Call P f args h Q) : Call P f args h Q := ⟨fun M w vs own hr => (hc own.nodup).out M w vs own hr⟩
theorem Call.permN [Gl] {P : Program} {f : FuncId} {args : List SV} {h h' : Heap} {Q : SV → Heap → Prop} (hc : Call P f args h' Q) (hp : h'.Perm h) : Call P f args h Q := Call.perm hc (fun x => hp.mem_iff) (fun hn => (hp.map _).nodup_iff.2 hn)
end Go.Ab
namespace Go.Ab.A15
open Go Go.Ab Go.Ab.A34
abbrev Wt := Nat × List (List Int)
def wc (e : Wt) : SV := if e.2 = [] then SN else .os e.1 0 e.2.length 1
def wb1 (e : Wt) : Heap := if e.2 = [] then [] else [(e.1, .svs (gC e.2))]
def wB (ws : List Wt) : Heap := ws.flatMap wb1
def WH (wb rb : Nat) (x : SV) (z : Int) (ws : List Wt) : Heap := (wb, .svs [x, .os rb 0 ws.length 1, I64 z]) :: (rb, .svs (ws.map wc)) :: wB ws
theorem wB_mid (A C : List Wt) (e : Wt) : wB (A ++ e :: C) = wB A ++ (wb1 e ++ wB C) := by unfold wB; rw [List.flatMap_append, List.flatMap_cons]
theorem perm3 {α : Type} (w r e : α) (A C : List α) : ([e, w, r] ++ (A ++ C)).Perm (w :: r :: (A ++ (e :: C))) := by
  show (e :: w :: r :: (A ++ C)).Perm _
  exact (List.Perm.swap w e _).trans ((List.Perm.cons w (List.Perm.swap r e _)).trans (List.Perm.cons w (List.Perm.cons r List.perm_middle.symm)))
theorem wc_get (A C : List Wt) (e : Wt) : ((A ++ e :: C).map wc).getD A.length .any = wc e := by simp [List.getD_eq_getElem?_getD]
theorem wc_set (A C : List Wt) (e e' : Wt) : ((A ++ e :: C).map wc).set A.length (wc e') = (A ++ e' :: C).map wc := by simp
end Go.Ab.A15
namespace Go.Proofs.YtblfodnajpamfaaGreatDoor
open Go Go.Ab Go.Ab.A34 Go.Ab.A15
variable [Gl] [Tabs]
theorem add_w (wb rb : Nat) (x : SV) (z : Int) (A C : List Wt) (b : Nat) (l : List (List Int)) (row : List Int) (hz : 0 ≤ z ∧ z ≤ 1000000000) (hl : l.length ≤ 1000000000) (hr : row.length ≤ 1000000000) (hs : ∀ r ∈ l, r.length ≤ 1000000000) (hnn : (A ++ (b, l) :: C).length ≤ 1000000000) :
    Ab.Call Tryz.prog 48 [.op wb 0, I64 A.length, IL row] (WH wb rb x z (A ++ (b, l) :: C)) (fun r h' =>
      (row ∈ l ∧ r = SB false ∧ h'.Perm (WH wb rb x z (A ++ (b, l) :: C))) ∨ (row ∉ l ∧ r = SB true ∧ ∃ b', h'.Perm (WH wb rb x (z + 1) (A ++ (b', l ++ [row]) :: C)))) := by
  have hne : ∀ b' : Nat, ¬ (b', l ++ [row]).2 = [] := fun b' h => by simp at h
  have hlen : ∀ e, (A ++ e :: C).length = (A ++ (b, l) :: C).length := fun e => by simp
  refine Call.nd fun hnd => ?_
  have ht : A.length < (A ++ (b, l) :: C).length := by simp
  by_cases h0 : l = []
  · subst h0
    have e1 : wb1 (b, ([] : List (List Int))) = [] := rfl
    have eW : WH wb rb x z (A ++ (b, []) :: C) = [(wb, .svs [x, .os rb 0 (A ++ (b, []) :: C).length 1, I64 z]), (rb, .svs ((A ++ (b, []) :: C).map wc))] ++ (wB A ++ wB C) := by
      unfold WH
      rw [wB_mid, e1]
      rfl
    rw [eW] at hnd ⊢
    simp only [List.cons_append, List.nil_append, List.map_cons, List.nodup_cons, List.mem_cons, not_or] at hnd
    have c := add_nil wb rb A.length _ x ((A ++ (b, []) :: C).map wc) z row hnd.1.1 (fun h => hnd.1.1 h.symm) ht (by rw [List.length_map]) (by rw [wc_get]; rfl) hz hr hnn
    refine Call.mono (Call.frameN (h2 := wB A ++ wB C) c) fun r h' hx => ?_
    obtain ⟨h1, rfl, ⟨rfl, b', rfl⟩, _⟩ := hx
    refine .inr ⟨by simp, rfl, b', ?_⟩
    have e2 : wc (b', [row]) = .os b' 0 1 1 := rfl
    rw [← e2, wc_set]
    unfold WH
    rw [hlen (b', [] ++ [row]), wB_mid, show wb1 (b', [] ++ [row]) = [(b', .svs (gC [row]))] from rfl]
    exact perm3 _ _ _ _ _
  · have e1 : wb1 (b, l) = [(b, .svs (gC l))] := if_neg h0
    have eP : (([(b, .svs (gC l)), (wb, .svs [x, .os rb 0 (A ++ (b, l) :: C).length 1, I64 z]), (rb, .svs ((A ++ (b, l) :: C).map wc))] ++ (wB A ++ wB C)) : Heap).Perm (WH wb rb x z (A ++ (b, l) :: C)) := by
      unfold WH
      rw [wB_mid, e1]
      exact perm3 _ _ _ _ _
    have hnd2 := (eP.map (·.1)).nodup_iff.2 hnd
    simp only [List.cons_append, List.nil_append, List.map_cons, List.nodup_cons, List.mem_cons, not_or] at hnd2
    obtain ⟨⟨n1, n2, _⟩, ⟨n3, _⟩, _⟩ := hnd2
    have c := add_row b wb rb A.length _ x ((A ++ (b, l) :: C).map wc) z l row n3 (fun h => n3 h.symm) n1 (fun h => n1 h.symm) n2 (fun h => n2 h.symm) ht (by rw [List.length_map]) (by rw [wc_get]; exact if_neg h0) hz hl hr hs hnn
    refine Call.permN (Call.mono (Call.frameN (h2 := wB A ++ wB C) c) fun r h' hx => ?_) eP
    obtain ⟨h1, rfl, hq, _⟩ := hx
    rcases hq with ⟨hm, rfl, rfl⟩ | ⟨hm, rfl, b', rfl⟩
    · exact .inl ⟨hm, rfl, eP⟩
    · refine .inr ⟨hm, rfl, b', ?_⟩
      have e2 : wc (b', l ++ [row]) = .os b' 0 (l.length + 1) 1 := by unfold wc; rw [if_neg (hne b'), List.length_append]; rfl
      rw [← e2, wc_set]
      unfold WH
      rw [hlen (b', l ++ [row]), wB_mid, show wb1 (b', l ++ [row]) = [(b', .svs (gC (l ++ [row])))] from if_neg (hne b')]
      exact perm3 _ _ _ _ _
end Go.Proofs.YtblfodnajpamfaaGreatDoor
namespace Go.Ab.A15
open Go Go.Ab Go.Ab.A34
theorem atI_nd : ∀ {l : List Int} {i k : Nat}, l.Nodup → k < l.length → atI (l.getD k 0) i l = ((i + k : Nat) : Int)
  | [], i, k, _, h => absurd h (by simp)
  | y :: l, i, 0, _, _ => by
    unfold atI
    rw [if_pos (by simp)]
    simp
  | y :: l, i, k + 1, hn, h => by
    rw [List.nodup_cons] at hn
    have hk : k < l.length := by simpa using h
    have hm : l.getD k 0 ∈ l := getD_mem' 0 hk
    unfold atI
    rw [List.getD_cons_succ, if_neg (fun e => hn.1 (by rw [e]; exact hm)), atI_nd hn.2 hk]
    congr 1
    omega
def parV (n : Nat) (a : List Int) (v : Nat → Int) (k : Nat) : List Int := (List.range n).map fun (i : Nat) => if 0 ≤ atI (i : Int) 0 a ∧ atI (i : Int) 0 a < k then v (atI (i : Int) 0 a).toNat else 0
theorem parV_len (n : Nat) (a : List Int) (v : Nat → Int) (k : Nat) : (parV n a v k).length = n := by simp [parV]
theorem parV_zero (n : Nat) (a : List Int) (v : Nat → Int) : parV n a v 0 = List.replicate n 0 := by
  refine List.ext_getElem (by simp [parV]) fun i h1 h2 => ?_
  simp only [parV, List.getElem_map, List.getElem_range, List.getElem_replicate]
  exact if_neg fun h => by omega
theorem parV_succ {n : Nat} {a : List Int} {v : Nat → Int} {k : Nat} (hn : a.Nodup) (hk : k < a.length) (ha : 0 ≤ a.getD k 0 ∧ a.getD k 0 < n) : (parV n a v k).set (a.getD k 0).toNat (v k) = parV n a v (k + 1) := by
  have hak := atI_nd (i := 0) hn hk
  rw [Nat.zero_add] at hak
  refine List.ext_getElem (by simp [parV]) fun i h1 h2 => ?_
  have hi : i < n := by simpa [parV] using h2
  by_cases he : (a.getD k 0).toNat = i
  · subst he
    rw [List.getElem_set_self]
    simp only [parV, List.getElem_map, List.getElem_range]
    have e : (((a.getD k 0).toNat : Nat) : Int) = a.getD k 0 := by omega
    rw [e, hak, if_pos ⟨by omega, by omega⟩, Int.toNat_natCast]
  · rw [List.getElem_set_ne he]
    simp only [parV, List.getElem_map, List.getElem_range]
    have hne : atI (i : Int) 0 a ≠ k := fun h => by
      have h2 := atI_lt (x := (i : Int)) (l := a) (by omega)
      rw [h, Int.toNat_natCast] at h2
      omega
    by_cases h3 : 0 ≤ atI (i : Int) 0 a ∧ atI (i : Int) 0 a < k
    · rw [if_pos h3, if_pos ⟨h3.1, by omega⟩]
    · rw [if_neg h3, if_neg fun h4 => h3 ⟨h4.1, by omega⟩]
theorem parV_img {n : Nat} {d : Dp} {r : List Int} : parV n d.r (fun k => r.getD (d.l.getD k 0).toNat 0) d.r.length = imgR n d r := by
  refine List.map_congr_left fun i _ => ?_
  by_cases h : atI (i : Int) 0 d.r < 0
  · rw [if_pos h, if_neg fun h2 => by omega]
  · have := (atI_lt h).1
    rw [if_neg h, if_pos ⟨by omega, by omega⟩]
theorem parV_first {n : Nat} {g : Dp} : parV n g.l (fun k => (k : Int) + 1) g.l.length = firstR n g := by
  refine List.map_congr_left fun i _ => ?_
  by_cases h : atI (i : Int) 0 g.l < 0
  · rw [if_pos h, if_neg fun h2 => by omega]
  · have := (atI_lt h).1
    rw [if_neg h, if_pos ⟨by omega, by omega⟩]
    show (((atI (i : Int) 0 g.l).toNat : Nat) : Int) + 1 = _
    omega
end Go.Ab.A15
namespace Go.Ab.A15
open Go Go.Ab Go.Ab.A34
def w0 : Wt := (0, [])
def tot (ws : List Wt) : Nat := (ws.map fun e => e.2.length).sum
theorem tot_mid (A C : List Wt) (e : Wt) : tot (A ++ e :: C) = tot A + (e.2.length + tot C) := by simp [tot]
structure WI (C : Nat → List Int → Prop) (ws : List Wt) (z : Int) : Prop where
  nd : ∀ s, s < ws.length → (ws.getD s w0).2.Nodup
  c : ∀ s, s < ws.length → ∀ r ∈ (ws.getD s w0).2, C s r
  z : z = (tot ws : Int)
theorem mid_get (A C : List Wt) (e e' : Wt) (s : Nat) : (A ++ e' :: C).getD s w0 = if s = A.length then e' else (A ++ e :: C).getD s w0 := by
  by_cases h : s = A.length
  · subst h
    simp [List.getD_eq_getElem?_getD]
  · rw [if_neg h]
    rcases Nat.lt_or_ge s A.length with h1 | h1
    · simp [List.getD_eq_getElem?_getD, List.getElem?_append_left h1]
    · obtain ⟨j, rfl⟩ : ∃ j, s = A.length + (j + 1) := ⟨s - A.length - 1, by omega⟩
      simp [List.getD_eq_getElem?_getD, List.getElem?_append_right]
theorem split_at {ws : List Wt} {t : Nat} (h : t < ws.length) : ∃ A e D, ws = A ++ e :: D ∧ A.length = t :=
  ⟨ws.take t, ws[t], ws.drop (t + 1), by rw [← List.drop_eq_getElem_cons h, List.take_append_drop], by rw [List.length_take]; omega⟩
theorem len_tot {ws : List Wt} {s : Nat} (h : s < ws.length) : (ws.getD s w0).2.length ≤ tot ws := by
  obtain ⟨A, e, D, rfl, rfl⟩ := split_at h
  rw [mid_get A D e e, if_pos rfl, tot_mid]
  omega
theorem WI.add {C : Nat → List Int → Prop} {A D : List Wt} {e : Wt} {z : Int} (h : WI C (A ++ e :: D) z) {b : Nat} {row : List Int} (hr : row ∉ e.2) (hc : C A.length row) : WI C (A ++ (b, e.2 ++ [row]) :: D) (z + 1) where
  nd := fun s hs => by
    rw [mid_get A D e]
    have hg := h.nd s (by simpa using hs)
    by_cases hsA : s = A.length
    · rw [if_pos hsA]
      rw [mid_get A D e e, if_pos hsA] at hg
      show (e.2 ++ [row]).Nodup
      rw [List.nodup_append]
      exact ⟨hg, by simp, fun x hx y hy hxy => hr (by rw [List.mem_singleton] at hy; rw [← hy, ← hxy]; exact hx)⟩
    · rw [if_neg hsA]; exact hg
  c := fun s hs => by
    rw [mid_get A D e]
    have hg := h.c s (by simpa using hs)
    by_cases hsA : s = A.length
    · rw [if_pos hsA]
      rw [mid_get A D e e, if_pos hsA] at hg
      subst hsA
      intro r hr2
      rcases List.mem_append.1 hr2 with h2 | h2
      · exact hg r h2
      · rw [List.mem_singleton] at h2; rw [h2]; exact hc
    · rw [if_neg hsA]; exact hg
  z := by
    rw [h.z, tot_mid, tot_mid]
    show _ = (((tot A + ((e.2 ++ [row]).length + tot D) : Nat)) : Int)
    rw [List.length_append, List.length_singleton]
    omega
def Beg (ws ws' : List Wt) : Prop := ∀ s, (ws.getD s w0).2 <+: (ws'.getD s w0).2
theorem Beg.refl (ws : List Wt) : Beg ws ws := fun s => List.prefix_refl _
theorem Beg.trans {a b c : List Wt} (h : Beg a b) (h' : Beg b c) : Beg a c := fun s => (h s).trans (h' s)
theorem Beg.add (A D : List Wt) (e : Wt) (b : Nat) (row : List Int) : Beg (A ++ e :: D) (A ++ (b, e.2 ++ [row]) :: D) := fun s => by
  rw [mid_get A D e (b, e.2 ++ [row])]
  by_cases hsA : s = A.length
  · rw [if_pos hsA, mid_get A D e e, if_pos hsA]
    exact List.prefix_append _ _
  · rw [if_neg hsA]
    exact List.prefix_refl _
theorem find_wB : ∀ {ws : List Wt} {s : Nat}, ((wB ws).map (·.1)).Nodup → s < ws.length → ¬ (ws.getD s w0).2 = [] → (wB ws).find (ws.getD s w0).1 = some (.svs (gC (ws.getD s w0).2)) := fun {ws s} hn hs h0 => by
  have g : ws.getD s w0 = ws[s] := by simp [List.getD_eq_getElem?_getD, hs]
  rw [g] at h0 ⊢
  refine find_of_mem hn ?_
  unfold wB
  rw [List.mem_flatMap]
  exact ⟨ws[s], List.getElem_mem hs, by unfold wb1; rw [if_neg h0]; exact List.mem_singleton.2 rfl⟩
end Go.Ab.A15
namespace Go.Ab
open Go Go.RowKit
theorem SW.nd [Gl] {P : Program} {N : Nat} {c : Code} {Q : Exit → St → Prop} {S : St} (h : (S.h.map (·.1)).Nodup → SW P N c Q S) : SW P N c Q S := ⟨fun M w0 D a w hr => (h hr.own.nodup).run M w0 D a w hr⟩
end Go.Ab
namespace Go.Ab.A15
open Go Go.Ab Go.Ab.A34
theorem him_step {f t i : Nat} {wl wl2 : List Wt} {F : List Int → List Int} (hb : Beg wl wl2) (h : ∀ j, j < i → F ((wl.getD f w0).2.getD j []) ∈ (wl.getD t w0).2) (hil : i < (wl.getD f w0).2.length) (hn : F ((wl.getD f w0).2.getD i []) ∈ (wl2.getD t w0).2) : ∀ j, j < i + 1 → F ((wl2.getD f w0).2.getD j []) ∈ (wl2.getD t w0).2 := fun j hj => by
  obtain ⟨s, hs⟩ := hb f
  have e : (wl2.getD f w0).2.getD j [] = (wl.getD f w0).2.getD j [] := by
    rw [← hs, List.getD_eq_getElem?_getD, List.getElem?_append_left (by omega), ← List.getD_eq_getElem?_getD]
  rw [e]
  rcases Nat.lt_or_eq_of_le (Nat.lt_succ_iff.1 hj) with h1 | h1
  · exact (hb t).subset (h j h1)
  · rw [h1]; exact hn
end Go.Ab.A15
namespace Go.Proofs.YtblfodnajpamfaaGreatDoor
open Go Go.Ab Go.Ab.A34 Go.Ab.A15
variable [Gl] [Tabs]
theorem grow_w (wb rb : Nat) (ts : List Tb) (z : Int) (ws : List Wt) (d : Dp) (f t : Nat) (C : Nat → List Int → Prop)
    (hI0 : WI C ws z) (hN : ts.length = ws.length) (hNN : ws.length ≤ 1000) (hz : z ≤ 100000) (hf : f < ws.length) (ht : t < ws.length) (ef : tabI d.f 0 ts = f) (et : tabI d.t 0 ts = t)
    (hlr : d.l.length = d.r.length) (hrl : d.r.length ≤ 1000) (hrn : d.r.Nodup) (hnt : (ts.getD t t0).attrs.length ≤ 1000) (hra : ∀ a ∈ d.r, 0 ≤ a ∧ a < (ts.getD t t0).attrs.length)
    (hCl : ∀ r, C f r → ∀ a ∈ d.l, 0 ≤ a ∧ a < r.length) (hCn : ∀ s r, C s r → r.length ≤ 1000) (hcl : ∀ r, C f r → C t (imgR (ts.getD t t0).attrs.length d r)) :
    Ab.Call Tryz.prog 49 [.op wb 0, DV d] (WH wb rb (TL ts) z ws) (fun r h' => ∃ ws' z' g, r = SB g ∧ h'.Perm (WH wb rb (TL ts) z' ws') ∧ WI C ws' z' ∧ ws'.length = ws.length ∧ Beg ws ws' ∧
      (g = false → z' = z ∧ ws' = ws ∧ (z ≤ 400 → ∀ r ∈ (ws.getD f w0).2, imgR (ts.getD t t0).attrs.length d r ∈ (ws.getD t w0).2)) ∧ (g = true → z < z') ∧ (z' ≤ z ∨ z' ≤ 401)) := by
  have cf := find_p d.f ts ts.length (by omega) rfl (tF ts) (fun i hi => rfl)
  have ct := find_p d.t ts ts.length (by omega) rfl (tF ts) (fun i hi => rfl)
  rw [ef] at cf
  rw [et] at ct
  have ft : tF ts t = tC (ts.getD t t0) := rfl
  have tts : ((t : Nat) : Int) < ((ts.length : Nat) : Int) := by omega
  have tw : ((t : Nat) : Int) < ((ws.length : Nat) : Int) := by omega
  have fw : ((f : Nat) : Int) < ((ws.length : Nat) : Int) := by omega
  have te : ((t : Nat) : Int).toNat = t := Int.toNat_natCast _
  have fe : ((f : Nat) : Int).toNat = f := Int.toNat_natCast _
  have t0q : (0 : Int) ≤ ((t : Nat) : Int) := by omega
  have f0q : (0 : Int) ≤ ((f : Nat) : Int) := by omega
  obtain ⟨df, dl, dt, dr⟩ := d
  generalize ts.getD t t0 = tt at *
  obtain ⟨tn, ta, tr⟩ := tt
  simp only at cf ct hlr hrl hrn hra hCl hcl hnt ⊢
  refine Call.nd fun hnd => ?_
  have hw1 : ¬ wb = rb := by
    unfold WH at hnd
    simp only [List.map_cons, List.nodup_cons, List.mem_cons, not_or] at hnd
    exact hnd.1.1
  have hw2 : ¬ rb = wb := fun h => hw1 h.symm
  clear hnd
  unfold WH
  refine Call.enter' (N := 89) (rs := [.tmp 4]) Tryz.func49 rfl rfl rfl (by decide) rfl ?_; simp only [argT]; have hD : (0 : Nat) = 0 := rfl
  clear hD
  have hD := And.intro (eq_false hw1) (eq_false hw2)
  refine SW.seq_k fun K0 hK0 => ?_
  refine SW.region ?_
  simp only [go_sem, hD]
  refine allF_i fun db hb => ?_
  simp only [fresh_cons, and_true, ne_eq, neF] at hb
  try simp only [go_sem, hD]
  refine hK0 _ ?_
  clear hK0 K0 hb
  refine Ab.SW.le (St.le_freezeP (i := 3) (n := 4) rfl (by rw [find_cons, if_pos rfl]) (by exact Nat.le_refl 4)) ?_
  rw [del_head]
  simp only [getN, Blk.get]
  repeat' first | (refine SW.seq_k fun K hK => ?_) | (refine SW.block ?_) | ((first | refine SW.region ?_ | refine SW.regionZ (id := 1) (Checked.mixed Tryz.checked) ((.one 0 [0, 1, 2, 3, 6, 13, 14, 15] (.one 1 [1, 2, 3, 6, 13, 14, 15] (.one 2 [2, 3, 6, 13, 14, 15] (.one 3 [3, 6, 13, 14, 15] (.one 4 [4, 5, 6, 13, 14, 15] (.one 5 [5, 6, 13, 14, 15] (.one 6 [6, 13, 14, 15] (.one 7 [7, 8, 9, 10, 13, 14, 15] (.one 8 [8, 9, 10, 13, 14, 15] (.one 9 [9, 10, 13, 14, 15] (.one 10 [10, 13, 14, 15] (.one 11 [11, 12, 13, 14, 15] (.one 12 [12, 13, 14, 15] (.one 13 [13, 14, 15] (.one 14 [14, 15] (.one 15 [15] .done)))))))))))))))) : OZ) (by kernel_rfl) ?_ | refine ⟨_, cf, ?_⟩ | refine ⟨_, ct, ?_⟩); try simp only [go_sem, hD, te, fe, t0q, f0q, tts, true_implies]) | (apply hK; clear hK K)
  have hb0 : ∀ (w' : List Wt) (s : Nat), s < w'.length → (w'.map wc).getD s .any = wc (w'.getD s w0) := fun w' s hs => by simp [List.getD_eq_getElem?_getD, hs]
  obtain ⟨I, hI⟩ : ∃ I : Nat → St → Prop, ∀ k S, I k S ↔ (∃ (i : Nat) (zz : Int) (wl : List Wt) (g : Bool), k = 402 - i ∧ i ≤ 402 ∧ WI C wl zz ∧ wl.length = ws.length ∧ Beg ws wl ∧ i ≤ (wl.getD f w0).2.length ∧ (∀ j, j < i → imgR ta.length ⟨df, dl, dt, dr⟩ ((wl.getD f w0).2.getD j []) ∈ (wl.getD t w0).2) ∧ (g = false → zz = z ∧ wl = ws) ∧ (g = true → z < zz) ∧ (zz ≤ z ∨ zz ≤ 401) ∧ S = ⟨[(0, .op wb 0), (3, .fp (dC ⟨df, dl, dt, dr⟩)), (4, SB false), (5, I64 f), (6, I64 t), (7, SB g), (8, I64 i)], (wb, .svs [TL ts, .os rb 0 wl.length 1, I64 zz]) :: (rb, .svs (wl.map wc)) :: wB wl⟩) := ⟨fun k S => _, fun _ _ => Iff.rfl⟩
  refine SW.loop' I (402) ((hI _ _).2 ⟨0, z, ws, false, rfl, Nat.zero_le _, hI0, rfl, Beg.refl _, Nat.zero_le _, (fun j hj => absurd hj (Nat.not_lt_zero _)), (fun _ => ⟨rfl, rfl⟩), (fun h => by cases h), .inl (Int.le_refl _), rfl⟩) (by repeat' (first | exact rfl | exact trivial | constructor)) ?_
  intro k S hIn
  obtain ⟨i, zz, wl, g, rfl, hi, hWI, hL, hBg, hil, him, hg0, hg1, hzm, rfl⟩ := (hI _ _).1 hIn
  clear hIn
  have ie : ((i : Nat) : Int).toNat = i := Int.toNat_natCast _
  have i0 : (0 : Int) ≤ ((i : Nat) : Int) := by omega
  refine SW.nd fun hnd => ?_
  simp only [List.map_cons, List.nodup_cons, List.mem_cons, not_or] at hnd
  obtain ⟨⟨_, hwb⟩, hrb, hnB⟩ := hnd
  have hcf := hb0 wl f (by omega)
  have hct := hb0 wl t (by omega)
  have hfB := find_wB (s := f) hnB (by omega)
  have hlf := len_tot (ws := wl) (s := f) (by omega)
  have hzt := hWI.z
  have zf : 0 + f * 1 = f := by omega
  have zt : 0 + t * 1 = t := by omega
  have lcs : (wl.map wc).length = wl.length := List.length_map _
  have fl : f < wl.length := by omega
  have fl1 : ((f : Nat) : Int) < ((wl.length : Nat) : Int) := by omega
  have hnf : ∀ e : Wt, e ∈ wl → ¬ e.2 = [] → ¬ e.1 = wb ∧ ¬ e.1 = rb := fun e he h0 => by
    have : e.1 ∈ (wB wl).map (·.1) := by
      unfold wB
      rw [List.map_flatMap, List.mem_flatMap]
      exact ⟨e, he, by unfold wb1; rw [if_neg h0]; simp⟩
    exact ⟨fun h => hwb (by rw [← h]; exact this), fun h => hrb (by rw [← h]; exact this)⟩
  have hfin : (¬ i < (wl.getD f w0).2.length ∨ ¬ zz ≤ 400) → (g = false → zz = z ∧ wl = ws ∧ (z ≤ 400 → ∀ r ∈ (ws.getD f w0).2, imgR ta.length ⟨df, dl, dt, dr⟩ r ∈ (ws.getD t w0).2)) := fun hx hg => by
    obtain ⟨e1, e2⟩ := hg0 hg
    refine ⟨e1, e2, fun h4 r hr => ?_⟩
    rw [← e2] at hr ⊢
    obtain ⟨j, hj, rfl⟩ := List.getElem_of_mem hr
    have := him j (by omega)
    have e5 : (wl.getD f w0).2.getD j [] = (wl.getD f w0).2[j] := by rw [List.getD_eq_getElem?_getD, List.getElem?_eq_getElem hj]; rfl
    rw [e5] at this
    exact this
  by_cases h0 : (wl.getD f w0).2 = []
  · have hw : wc (wl.getD f w0) = SN := if_pos h0
    rw [hw] at hcf
    have hi0 : i = 0 := by rw [h0] at hil; simpa using hil
    subst hi0
    have hp := hfin (.inl (by rw [h0]; simp))
    repeat' first | (refine SW.seq_k fun K hK => ?_) | ((first | refine SW.region ?_ | refine SW.cond ?_ | refine SW.exit ?_ | refine SW.ret ?_); try simp only [go_sem, hD, te, fe, t0q, f0q, hcf, zf, lcs, fl, fl1, true_implies]) | (refine ifI (fun hc => ?_) (fun hc => ?_) <;> first | (exfalso; omega) | skip) | (apply hK; clear hK K) | (clear hK K; apply hK; clear hK K)
    all_goals
      refine retQ_le (fun M w0 D N a w r => r) ?_
      simp only [resL_tmp, resL_nil, tupOf, go_sem, hD]
      exact ⟨wl, zz, g, rfl, List.Perm.refl _, hWI, hL, hBg, hp, hg1, hzm⟩
  · have hwc : wc (wl.getD f w0) = .os (wl.getD f w0).1 0 (wl.getD f w0).2.length 1 := if_neg h0
    rw [hwc] at hcf
    have hfB := hfB h0
    by_cases hlt : i < (wl.getD f w0).2.length ∧ zz ≤ 400
    · obtain ⟨hlt, hz4⟩ := hlt
      have hli : ((i : Nat) : Int) < (((wl.getD f w0).2.length : Nat) : Int) := by omega
      have w1 : IntKind.i64.wrap ((i : Int) + 1) = ((i + 1 : Nat) : Int) := by rw [i64_wrap (by omega) (by omega)]; omega
      have tan : ((ta.length : Nat) : Int).toNat = ta.length := Int.toNat_natCast _
      have ta0 : (0 : Int) ≤ ((ta.length : Nat) : Int) := by omega
      have ta8 : ((ta.length : Nat) : Int) * 8 ≤ 140737488355328 := by omega
      repeat' first | (with_reducible refine And.intro (by omega) ?_) | (refine SW.seq_k fun K hK => ?_) | (refine SW.block ?_) | ((first | refine SW.region ?_ | refine SW.cond ?_ | refine SW.skip ?_ | (refine allF_i fun b hb => ?_; replace hD := And.intro hb hD; clear hb; try simp only [fresh_cons, fresh_nil, and_true, ne_eq, neF] at hD)); try simp only [go_sem, hD, te, fe, t0q, f0q, hcf, zf, lcs, fl, fl1, hli, hz4, ft, tts, tan, ta0, ta8, true_implies]) | (apply hK; clear hK K)
      obtain ⟨nb, rfl⟩ : ∃ x, x = b := ⟨_, rfl⟩
      have hfr : fresh (wB wl) nb := hD.1.2.2
      have hem : wl.getD f w0 ∈ wl := getD_mem' w0 (by omega)
      obtain ⟨nf1, nf2⟩ := hnf _ hem h0
      have hnbf := fresh_ne_find hfr hfB
      have hrC := hWI.c f (by omega) _ (getD_mem' [] hlt)
      obtain ⟨e, he⟩ : ∃ e, e = wl.getD f w0 := ⟨_, rfl⟩
      rw [← he] at hcf hfB hlt hli h0 nf1 nf2 hnbf hrC
      have hri : (wl.getD f w0).2.getD i [] = e.2.getD i [] := by rw [← he]
      have hil2 : i < (wl.getD f w0).2.length := by rw [← he]; exact hlt
      obtain ⟨bf, L⟩ := e
      simp only at hri hcf hfB hlt hli h0 nf1 nf2 hnbf hrC
      have hrl := hCl _ hrC
      have hrn2 := hCn _ _ hrC
      have hlg : (gC L).length = L.length := List.length_map _
      have hlb : L.length ≤ tot wl := by rw [← he] at hlf; exact hlf
      have hgi := gC_get hlt
      have himg := hcl _ hrC
      have hpz := parV_zero ta.length dr (fun k => (L.getD i []).getD (dl.getD k 0).toNat 0)
      have hpi := parV_img (n := ta.length) (d := ⟨df, dl, dt, dr⟩) (r := L.getD i [])
      try simp only at hpi
      have hps := fun m (h : m < dr.length) => parV_succ (n := ta.length) (v := fun k => (L.getD i []).getD (dl.getD k 0).toNat 0) hrn h (hra _ (getD_mem' 0 h))
      have hpl := fun m => parV_len ta.length dr (fun k => (L.getD i []).getD (dl.getD k 0).toNat 0) m
      try simp only at hps
      rw [← hpz]
      have hv : ∀ m, (fun k => (L.getD i []).getD (dl.getD k 0).toNat 0) m = (L.getD i []).getD (dl.getD m 0).toNat 0 := fun m => rfl
      generalize (fun k => (L.getD i []).getD (dl.getD k 0).toNat 0) = v at *
      generalize L.getD i [] = r at *
      have zi : 0 + i * 1 = i := by omega
      have nf3 : ¬ wb = bf := Ne.symm nf1
      have nf4 : ¬ rb = bf := Ne.symm nf2
      have hnbg : ¬ bf = nb := Ne.symm hnbf
      have hD2 := And.intro hD (And.intro (And.intro (eq_false nf1) (eq_false nf3)) (And.intro (And.intro (eq_false nf2) (eq_false nf4)) (And.intro (eq_false hnbf) (eq_false hnbg))))
      clear hD
      have hD := hD2
      have hIO := hI
      have ow1 := w1
      have oi0 := i0
      have oie := ie
      have oli := hli
      clear hI hD2
      obtain ⟨I, hI⟩ : ∃ I : Nat → St → Prop, ∀ k S, I k S ↔ (∃ (m : Nat) , k = dr.length - m ∧ m ≤ dr.length ∧ S = ⟨[(0, .op wb 0), (3, .fp (dC ⟨df, dl, dt, dr⟩)), (4, SB false), (5, I64 f), (6, I64 t), (7, SB g), (8, I64 i), (9, .os nb 0 ta.length 1), (56, IL dr), (57, I64 dr.length), (58, I64 m)], (nb, .ints .i64 (parV ta.length dr v m)) :: (wb, .svs [TL ts, .os rb 0 wl.length 1, I64 zz]) :: (rb, .svs (wl.map wc)) :: wB wl⟩) := ⟨fun k S => _, fun _ _ => Iff.rfl⟩
      refine SW.loop' I (dr.length) ((hI _ _).2 ⟨0, rfl, Nat.zero_le _, rfl⟩) (by repeat' (first | exact rfl | exact trivial | constructor)) ?_
      intro k S hIn
      obtain ⟨m, rfl, hi, rfl⟩ := (hI _ _).1 hIn
      clear hIn
      have ie : ((m : Nat) : Int).toNat = m := Int.toNat_natCast _
      have i0 : (0 : Int) ≤ ((m : Nat) : Int) := by omega
      by_cases hlm : m < dr.length
      · have hli : ((m : Nat) : Int) < (((dr.length) : Nat) : Int) := by omega
        have w1 : IntKind.i64.wrap ((m : Int) + 1) = ((m + 1 : Nat) : Int) := by rw [i64_wrap (by omega) (by omega)]; omega
        have fm : iF dr m = [I64 (dr.getD m 0)] := rfl
        have mdl : ((m : Nat) : Int) < ((dl.length : Nat) : Int) := by omega
        have fdl : iF dl m = [I64 (dl.getD m 0)] := rfl
        have hx := hrl _ (getD_mem' 0 (show m < dl.length by omega))
        have ha := hra _ (getD_mem' 0 hlm)
        have hvm := hv m
        have hpm := hps m hlm
        have hplm := hpl m
        generalize dl.getD m 0 = x at *
        generalize dr.getD m 0 = a at *
        obtain ⟨x0, x1⟩ := hx
        obtain ⟨a0, a1⟩ := ha
        have fr : iF r x.toNat = [I64 (v m)] := by rw [hvm]; rfl
        have za : 0 + a.toNat * 1 = a.toNat := by omega
        have at1 : a.toNat < ta.length := by omega
        repeat' first | (with_reducible refine And.intro (by omega) ?_) | (refine SW.seq_k fun K hK => ?_) | (refine SW.block ?_) | ((first | refine SW.region ?_ | refine SW.regionZ (id := 10) (Checked.mixed Tryz.checked) ((.one 0 [0, 19, 20] (.one 1 [1, 19, 20] (.one 2 [2, 3, 4, 5, 7, 8, 10, 11, 17, 18, 19, 20] (.one 3 [3, 4, 5, 7, 8, 10, 11, 17, 18, 19, 20] (.one 4 [4, 5, 7, 8, 10, 11, 17, 18, 19, 20] (.one 5 [5, 7, 8, 10, 11, 17, 18, 19, 20] (.one 6 [6, 7, 8, 10, 11, 17, 18, 19, 20] (.one 7 [7, 8, 10, 11, 17, 18, 19, 20] (.one 8 [8, 10, 11, 17, 18, 19, 20] (.one 9 [9, 10, 11, 17, 18, 19, 20] (.one 10 [10, 11, 17, 18, 19, 20] (.one 11 [11, 17, 18, 19, 20] (.one 12 [12, 13, 15, 16, 17, 18, 19, 20] (.one 13 [13, 15, 16, 17, 18, 19, 20] (.one 14 [14, 15, 16, 17, 18, 19, 20] (.one 15 [15, 16, 17, 18, 19, 20] (.one 16 [16, 17, 18, 19, 20] (.one 17 [17, 18, 19, 20] (.one 18 [18, 19, 20] (.one 19 [19, 20] (.alt 20 .done .nil))))))))))))))))))))) : OZ) (by kernel_rfl) ?_ | refine SW.cond ?_ | refine SW.skip ?_); try simp only [go_sem, hD, hli, ie, i0, w1, te, fe, t0q, f0q, hcf, zf, lcs, fl, fl1, oli, oi0, oie, fm, mdl, fdl, x0, x1, a0, a1, fr, za, hfB, hgi, hlg, zi, hlt, hplm, at1, true_implies]) | (apply hK; clear hK K)
        all_goals
          rw [hvm, hpm]
          refine Rnd.sub (dr.length - (m + 1)) (by omega) ((hI _ _).2 ⟨m + 1, rfl, by omega, rfl⟩) (by repeat' (first | exact rfl | exact trivial | constructor))
      · have hli : ¬ ((m : Nat) : Int) < (((dr.length) : Nat) : Int) := by omega
        obtain rfl : m = dr.length := by omega
        have hpl2 := hpl dr.length
        rw [hpi] at hpl2 ⊢
        obtain ⟨R, hR⟩ : ∃ R, R = imgR ta.length ⟨df, dl, dt, dr⟩ r := ⟨_, rfl⟩
        rw [← hR] at hpl2 himg ⊢
        have hD := hD.1.2
        refine Ab.SW.le (St.le_ints (i := 9) .i64 R rfl hpl2.symm (by rw [find_cons, if_pos rfl]) rfl) ?_
        rw [del_head]
        obtain ⟨A, e2, D, hwl, hA⟩ := split_at (ws := wl) (t := t) (by omega)
        have hlt2 := len_tot (ws := wl) (s := t) (by omega)
        have hge : wl.getD t w0 = e2 := by rw [hwl, ← hA, mid_get A D e2 e2, if_pos rfl]
        have hct2 := hWI.c t (by omega)
        rw [hge] at hlt2 hct2
        obtain ⟨b2, L2⟩ := e2
        simp only at hlt2 hct2
        have ca := add_w wb rb (TL ts) zz A D b2 L2 R (by omega) (by omega) (by omega) (fun r hr => by have := hCn t r (hct2 r hr); omega) (by rw [← hwl]; omega)
        rw [hA, ← hwl] at ca
        have eWH : WH wb rb (TL ts) zz wl = (wb, .svs [TL ts, .os rb 0 wl.length 1, I64 zz]) :: (rb, .svs (wl.map wc)) :: wB wl := rfl
        rw [eWH] at ca
        repeat' first | ((refine Call.mono ca ?_); (intro r' h' hx); (refine stop_i ?_)) | (refine SW.seq_k fun K hK => ?_) | ((first | refine SW.region ?_ | refine SW.cond ?_ | refine SW.exit ?_); try simp only [go_sem, hD, hli, true_implies]) | (apply hK; clear hK K) | (clear hK K; apply hK; clear hK K)
        refine Stop.mk ?_
        have hii : i + 1 ≤ 402 := by omega
        rcases hx with ⟨hm, rfl, hp⟩ | ⟨hm, rfl, b', hp⟩
        · apply hK
          clear hK K
          refine Ab.SW.le (St.le_perm hp.symm) ?_
          have hst := him_step (F := imgR ta.length ⟨df, dl, dt, dr⟩) (Beg.refl wl) him hil2 (by rw [hri, ← hR, hge]; exact hm)
          repeat' first | ((first | refine SW.region ?_ | refine SW.cond ?_ | refine SW.skip ?_); try simp only [go_sem, hD, ow1, true_implies]) | (apply hK; clear hK K)
          all_goals
            refine Rnd.sub (402 - (i + 1)) (by omega) ((hIO _ _).2 ⟨i + 1, zz, wl, g, rfl, hii, hWI, hL, hBg, hil2, hst, hg0, hg1, hzm, rfl⟩) (by repeat' (first | exact rfl | exact trivial | constructor))
        · have hWI2 := WI.add (C := C) (A := A) (D := D) (e := (b2, L2)) (b := b') (row := R) (by rw [← hwl]; exact hWI) hm (by rw [hA]; exact himg)
          have hB2 : Beg wl (A ++ (b', L2 ++ [R]) :: D) := by rw [hwl]; exact Beg.add A D (b2, L2) b' R
          have hN2 : (A ++ (b', L2 ++ [R]) :: D).length = ws.length := by rw [← hL, hwl]; simp
          have hge2 : (A ++ (b', L2 ++ [R]) :: D).getD t w0 = (b', L2 ++ [R]) := by rw [← hA, mid_get A D (b', L2 ++ [R]) (b', L2 ++ [R]), if_pos rfl]
          have hst := him_step (F := imgR ta.length ⟨df, dl, dt, dr⟩) hB2 him hil2 (by rw [hri, ← hR, hge2]; simp)
          have hil3 : i + 1 ≤ ((A ++ (b', L2 ++ [R]) :: D).getD f w0).2.length := Nat.le_trans hil2 (hB2 f).length_le
          have hz41 : zz + 1 ≤ 401 := by omega
          have hzz : z < zz + 1 := by
            cases g with
            | false => have := (hg0 rfl).1; omega
            | true => have := hg1 rfl; omega
          apply hK
          clear hK K
          refine Ab.SW.le (St.le_perm hp.symm) ?_
          have hBg2 := hBg.trans hB2
          simp only at hWI2
          generalize A ++ (b', L2 ++ [R]) :: D = wl2 at *
          unfold WH
          repeat' first | ((first | refine SW.region ?_ | refine SW.cond ?_); try simp only [go_sem, hD, ow1, true_implies]) | (apply hK; clear hK K)
          all_goals
            refine Rnd.sub (402 - (i + 1)) (by omega) ((hIO _ _).2 ⟨i + 1, zz + 1, wl2, true, rfl, hii, hWI2, hN2, hBg2, hil3, hst, (fun h => by cases h), (fun _ => hzz), .inr hz41, rfl⟩) (by repeat' (first | exact rfl | exact trivial | constructor))
    · by_cases hlt2 : i < (wl.getD f w0).2.length
      · have hz4 : ¬ zz ≤ 400 := fun h => hlt ⟨hlt2, h⟩
        have hp := hfin (.inr hz4)
        have hli : ((i : Nat) : Int) < (((wl.getD f w0).2.length : Nat) : Int) := by omega
        repeat' first | (refine SW.seq_k fun K hK => ?_) | ((first | refine SW.region ?_ | refine SW.cond ?_ | refine SW.exit ?_ | refine SW.ret ?_); try simp only [go_sem, hD, te, fe, t0q, f0q, hcf, zf, lcs, fl, fl1, hli, hz4, true_implies]) | (apply hK; clear hK K) | (clear hK K; apply hK; clear hK K)
        all_goals
          refine retQ_le (fun M w0 D N a w r => r) ?_
          simp only [resL_tmp, resL_nil, tupOf, go_sem, hD]
          exact ⟨wl, zz, g, rfl, List.Perm.refl _, hWI, hL, hBg, hp, hg1, hzm⟩
      · have hp := hfin (.inl hlt2)
        have hli : ¬ ((i : Nat) : Int) < (((wl.getD f w0).2.length : Nat) : Int) := by omega
        repeat' first | (refine SW.seq_k fun K hK => ?_) | ((first | refine SW.region ?_ | refine SW.cond ?_ | refine SW.exit ?_ | refine SW.ret ?_); try simp only [go_sem, hD, te, fe, t0q, f0q, hcf, zf, lcs, fl, fl1, hli, true_implies]) | (apply hK; clear hK K) | (clear hK K; apply hK; clear hK K)
        all_goals
          refine retQ_le (fun M w0 D N a w r => r) ?_
          simp only [resL_tmp, resL_nil, tupOf, go_sem, hD]
          exact ⟨wl, zz, g, rfl, List.Perm.refl _, hWI, hL, hBg, hp, hg1, hzm⟩
end Go.Proofs.YtblfodnajpamfaaGreatDoor
namespace Go.Ab.A15
open Go Go.Ab Go.Ab.A34
theorem cmpI_neg (x y : Int) : cmpI y x = -cmpI x y := by unfold cmpI; split <;> split <;> omega
theorem cmpI_zero {x y : Int} (h : cmpI x y = 0) : x = y := by unfold cmpI at h; split at h <;> first | omega | (split at h <;> omega)
theorem cmpI_lt {x y : Int} : cmpI x y < 0 ↔ x < y := by unfold cmpI; split <;> first | omega | (split <;> omega)
theorem lexI_neg : ∀ x y, lexI y x = -lexI x y
  | [], [] => rfl
  | [], _ :: _ => rfl
  | _ :: _, [] => rfl
  | a :: x, b :: y => by
    unfold lexI
    have h := cmpI_neg a b
    by_cases h0 : cmpI a b = 0
    · rw [if_pos h0, if_pos (by omega), lexI_neg x y]
    · rw [if_neg h0, if_neg (by omega), h]
theorem lexI_zero : ∀ {x y}, lexI x y = 0 → x = y
  | [], [], _ => rfl
  | [], _ :: _, h => by simp [lexI] at h
  | _ :: _, [], h => by simp [lexI] at h
  | a :: x, b :: y, h => by
    unfold lexI at h
    by_cases h0 : cmpI a b = 0
    · rw [if_pos h0] at h
      rw [cmpI_zero h0, lexI_zero h]
    · rw [if_neg h0] at h
      exact absurd h h0
theorem lexI_trans : ∀ {x y z}, lexI x y < 0 → lexI y z < 0 → lexI x z < 0
  | [], [], _, h, _ => by simp [lexI] at h
  | _ :: _, [], _, h, _ => by simp [lexI] at h
  | [], _ :: _, [], _, h => by simp [lexI] at h
  | [], _ :: _, _ :: _, _, _ => by simp [lexI]
  | _ :: _, _ :: _, [], _, h => by simp [lexI] at h
  | a :: x, b :: y, c :: z, h1, h2 => by
    unfold lexI at h1 h2 ⊢
    by_cases e1 : cmpI a b = 0
    · rw [if_pos e1] at h1
      have := cmpI_zero e1
      subst this
      by_cases e2 : cmpI a c = 0
      · rw [if_pos e2] at h2 ⊢
        exact lexI_trans h1 h2
      · rw [if_neg e2] at h2 ⊢
        exact h2
    · rw [if_neg e1] at h1
      have l1 := cmpI_lt.1 h1
      by_cases e2 : cmpI b c = 0
      · have := cmpI_zero e2
        subst this
        rw [if_neg e1]
        exact h1
      · rw [if_neg e2] at h2
        have l2 := cmpI_lt.1 h2
        have l3 : cmpI a c < 0 := cmpI_lt.2 (by omega)
        rw [if_neg (by omega)]
        exact l3
theorem fl_one {E : Env} {v : Value} {n sz : Nat} {f : Nat → List SV} (hr : Rep E v (.fl n sz f)) : v.oneCell' = true := by cases hr <;> rfl
end Go.Ab.A15
namespace Go.Proofs.YtblfodnajpamfaaGreatDoor
open Go Go.Ab Go.Ab.A34 Go.Ab.A15 Go.Sort Go.Shelf Go.RowKit
variable [Gl] [Tabs]
theorem swo_lex : SWO (ltOf lexI) where
  irrefl := fun x => by
    have := lexI_neg x x
    simp only [ltOf, decide_eq_false_iff_not]
    omega
  trans := fun x y z h1 h2 => by
    simp only [ltOf, decide_eq_true_eq] at *
    exact lexI_trans h1 h2
  ntrans := fun x y z h1 h2 => by
    simp only [ltOf, decide_eq_false_iff_not] at *
    intro h3
    have n1 := lexI_neg x y
    have n2 := lexI_neg y z
    rcases Int.lt_or_eq_of_le (show lexI y x ≤ 0 by omega) with h4 | h4
    · have := lexI_trans h4 h3
      omega
    · have := lexI_zero h4
      subst this
      omega
theorem sort_rows (b : Nat) (l : List (List Int)) (hne : l ≠ []) (hnd : l.Nodup) (hl : l.length ≤ 1000000000) (hs : ∀ r ∈ l, r.length ≤ 1000000000) :
    Ab.Call Tryz.prog 77 [.os b 0 l.length 1, .fn (.func 78) [] []] [(b, .svs (gC l))] (fun r h' => r = .tup [] ∧ h' = [(b, .svs (gC (l.mergeSort fun x y => !(ltOf lexI) y x)))]) :=
  Call.sortS (P := Tryz.prog) (ρ := Tryz.sortR_ren) Tryz.sortR ⟨_, Tryz.func77, by kernel_rfl, by kernel_rfl⟩ (fun r => IL r) (fun x E v hr => fl_one hr) lexI swo_lex (fun x y h1 h2 => by
    simp only [ltOf, decide_eq_false_iff_not] at h1 h2
    have := lexI_neg x y
    exact lexI_zero (by omega)) 78 (Go.Proofs.enters_of Tryz.func78 (by kernel_rfl) rfl) b l hne hnd (by omega) (fun x hx y hy => lex_64 x y (hs x hx) (hs y hy))
theorem sort_nil : PCall Tryz.prog 77 [SN, .fn (.func 78) [] []] (.tup []) :=
  Call.sortQ0 (P := Tryz.prog) (ρ := Tryz.sortS_ren) Tryz.sortS ⟨_, Tryz.func77, by kernel_rfl, by kernel_rfl⟩ 78
end Go.Proofs.YtblfodnajpamfaaGreatDoor
namespace Go.Ab.A15
open Go Go.Ab Go.Ab.A34
def ws0 (n : Nat) : List Wt := List.replicate n w0
theorem ws0_wc (n : Nat) : (ws0 n).map wc = zfill [Value.slice none 0 0] n := by
  have h : wc w0 = SN := rfl
  unfold ws0
  rw [List.map_replicate, h]
  induction n with
  | zero => rfl
  | succ n ih => rw [List.replicate_succ, ih]; rfl
theorem ws0_wB (n : Nat) : wB (ws0 n) = [] := by
  unfold wB ws0
  rw [List.flatMap_eq_nil_iff]
  intro e he
  rw [List.eq_of_mem_replicate he]
  rfl
theorem ws0_get (n s : Nat) : (ws0 n).getD s w0 = w0 := by
  unfold ws0
  rcases Nat.lt_or_ge s n with h | h
  · simp [List.getD_eq_getElem?_getD, h]
  · simp [List.getD_eq_getElem?_getD, h]
theorem ws0_len (n : Nat) : (ws0 n).length = n := List.length_replicate
theorem ws0_WI (C : Nat → List Int → Prop) (n : Nat) : WI C (ws0 n) 0 where
  nd := fun s _ => by rw [ws0_get]; exact List.nodup_nil
  c := fun s _ r hr => by rw [ws0_get] at hr; cases hr
  z := by simp [tot, ws0, w0]
end Go.Ab.A15
namespace Go.Proofs.YtblfodnajpamfaaGreatDoor
open Go Go.Ab Go.Ab.A34 Go.Ab.A15
variable [Gl] [Tabs]
end Go.Proofs.YtblfodnajpamfaaGreatDoor
namespace Go.Ab.A15
open Go Go.Ab Go.Ab.A34 Go.Sort Go.Shelf Go.Proofs
def srtL (l : List (List Int)) : List (List Int) := l.mergeSort fun x y => !(ltOf lexI) y x
theorem srt_perm (l : List (List Int)) : (srtL l).Perm l := List.mergeSort_perm l _
theorem srt_len (l : List (List Int)) : (srtL l).length = l.length := (srt_perm l).length_eq
theorem lex_le_trans (a b c : List Int) (h1 : (!(ltOf lexI) b a) = true) (h2 : (!(ltOf lexI) c b) = true) : (!(ltOf lexI) c a) = true := by
  simp only [ltOf, Bool.not_eq_true', decide_eq_false_iff_not] at *
  intro h3
  have n1 := lexI_neg a b
  rcases Int.lt_or_eq_of_le (show lexI a b ≤ 0 by omega) with h4 | h4
  · exact h2 (lexI_trans h3 h4)
  · have := lexI_zero h4
    subst this
    exact h2 h3
theorem lex_le_total (a b : List Int) : ((!(ltOf lexI) b a) || (!(ltOf lexI) a b)) = true := by
  have n1 := lexI_neg a b
  simp only [ltOf, Bool.or_eq_true, Bool.not_eq_true', decide_eq_false_iff_not]
  omega
theorem srt_pw {l : List (List Int)} (h : l.Nodup) : (srtL l).Pairwise fun x y => lexI x y < 0 := by
  have h1 : (srtL l).Pairwise (fun a b => (!(ltOf lexI) b a) = true) := List.pairwise_mergeSort lex_le_trans lex_le_total l
  have h2 : (srtL l).Pairwise (fun a b => a ≠ b) := (srt_perm l).nodup_iff.2 h
  refine (h1.and h2).imp fun {a b} hx => ?_
  obtain ⟨hx1, hx2⟩ := hx
  simp only [ltOf, Bool.not_eq_true', decide_eq_false_iff_not] at hx1
  have n1 := lexI_neg a b
  rcases Int.lt_or_eq_of_le (show lexI a b ≤ 0 by omega) with h4 | h4
  · exact h4
  · exact absurd (lexI_zero h4) hx2
theorem lex_irr (a : List Int) : ¬ lexI a a < 0 := fun h => by have := lexI_neg a a; omega
theorem pw_eq : ∀ {L M : List (List Int)}, L.Pairwise (fun x y => lexI x y < 0) → M.Pairwise (fun x y => lexI x y < 0) → (∀ x, x ∈ L ↔ x ∈ M) → L = M
  | [], [], _, _, _ => rfl
  | [], b :: M, _, _, h => by have := (h b).2 List.mem_cons_self; cases this
  | a :: L, [], _, _, h => by have := (h a).1 List.mem_cons_self; cases this
  | a :: L, b :: M, h1, h2, h => by
    rw [List.pairwise_cons] at h1 h2
    have hab : a = b := by
      rcases List.mem_cons.1 ((h a).1 List.mem_cons_self) with e | e
      · exact e
      · rcases List.mem_cons.1 ((h b).2 List.mem_cons_self) with e2 | e2
        · exact e2.symm
        · exact absurd (lexI_trans (h1.1 b e2) (h2.1 a e)) (lex_irr a)
    subst hab
    rw [pw_eq h1.2 h2.2 fun x => ⟨fun hx => ?_, fun hx => ?_⟩]
    · rcases List.mem_cons.1 ((h x).1 (List.mem_cons_of_mem _ hx)) with e | e
      · subst e; exact absurd (h1.1 x hx) (lex_irr x)
      · exact e
    · rcases List.mem_cons.1 ((h x).2 (List.mem_cons_of_mem _ hx)) with e | e
      · subst e; exact absurd (h2.1 x hx) (lex_irr x)
      · exact e
theorem srt_eq {L M : List (List Int)} (h1 : L.Nodup) (h2 : M.Nodup) (h : ∀ x, x ∈ L ↔ x ∈ M) : srtL L = srtL M :=
  pw_eq (srt_pw h1) (srt_pw h2) fun x => by rw [(srt_perm L).mem_iff, (srt_perm M).mem_iff, h x]
theorem nodup_sub : ∀ {L M : List (List Int)}, L.Nodup → (∀ x ∈ L, x ∈ M) → L.length ≤ M.length
  | [], M, _, _ => Nat.zero_le _
  | a :: L, M, h1, h => by
    rw [List.nodup_cons] at h1
    have hm := h a List.mem_cons_self
    have hl := List.length_erase_of_mem hm
    have hp : 0 < M.length := List.length_pos_of_mem hm
    have := nodup_sub (M := M.erase a) h1.2 fun x hx => (List.mem_erase_of_ne (fun e => h1.1 (by rw [← e]; exact hx))).2 (h x (List.mem_cons_of_mem _ hx))
    rw [List.length_cons]
    omega
theorem tot_le : ∀ {ws ws' : List Wt}, ws.length = ws'.length → (∀ s, s < ws.length → (ws.getD s w0).2.length ≤ (ws'.getD s w0).2.length) → tot ws ≤ tot ws'
  | [], [], _, _ => Nat.le_refl _
  | [], _ :: _, h, _ => by simp at h
  | _ :: _, [], h, _ => by simp at h
  | a :: ws, b :: ws', h, hs => by
    have h0 := hs 0 (by simp)
    simp only [List.getD_cons_zero] at h0
    have := tot_le (ws := ws) (ws' := ws') (by simpa using h) fun s hs2 => by
      have := hs (s + 1) (by simp; exact hs2)
      simpa only [List.getD_cons_succ] using this
    unfold tot at *
    rw [List.map_cons, List.map_cons, List.sum_cons, List.sum_cons]
    omega
def nvW (n : Int) : V3 := (1, n, ⟨#[]⟩)
def rowW (k : Nat) (r : List Int) : R3 := ((k : Int) + 1, r.map nvW)
def rowsP (L : List (List Int)) (k : Nat) : List R3 := (List.range k).map fun j => rowW j (L.getD j [])
def tabW (t : Tb) (L : List (List Int)) : Tb := ⟨t.name, t.attrs, rowsP (srtL L) (srtL L).length⟩
def refP (ts : List Tb) (ws : List Wt) (i : Nat) : List Tb := (List.range i).map fun j => tabW (ts.getD j t0) (ws.getD j w0).2
def refW (ts : List Tb) (ws : List Wt) : List Tb := refP ts ws ts.length
theorem rowsP_succ (L : List (List Int)) (k : Nat) : rowsP L (k + 1) = rowsP L k ++ [rowW k (L.getD k [])] := by
  unfold rowsP
  rw [List.range_succ, List.map_append]
  rfl
theorem rowsP_len (L : List (List Int)) (k : Nat) : (rowsP L k).length = k := by simp [rowsP]
theorem refP_succ (ts : List Tb) (ws : List Wt) (k : Nat) : refP ts ws (k + 1) = refP ts ws k ++ [tabW (ts.getD k t0) (ws.getD k w0).2] := by
  unfold refP
  rw [List.range_succ, List.map_append]
  rfl
theorem refP_len (ts : List Tb) (ws : List Wt) (k : Nat) : (refP ts ws k).length = k := by simp [refP]
def valP (r : List Int) (m : Nat) : List V3 := (r.take m).map nvW
theorem valP_succ {r : List Int} {m : Nat} (h : m < r.length) : valP r (m + 1) = valP r m ++ [nvW (r.getD m 0)] := by
  unfold valP
  have g : r.getD m 0 = r[m] := by simp [List.getD_eq_getElem?_getD, h]
  rw [List.take_succ_eq_append_getElem h, List.map_append, g]
  rfl
theorem valP_len {r : List Int} {m : Nat} (h : m ≤ r.length) : (valP r m).length = m := by
  unfold valP
  rw [List.length_map, List.length_take]
  omega
theorem valP_all (r : List Int) : valP r r.length = r.map nvW := by unfold valP; rw [List.take_length]
structure GoodW (db : List Tb) (l : List Dp) (g : Dp) (ws : List Wt) (z : Int) : Prop where
  wi : WI (Cl (nmsOf db) (nsOf db) l g) ws z
  len : ws.length = db.length
  first : firstR ((nsOf db).getD (idxN g.f (nmsOf db)) 0) g ∈ (ws.getD (idxN g.f (nmsOf db)) w0).2
  cl : ∀ d ∈ l, Clo (nmsOf db) (nsOf db) (fun t => (ws.getD t w0).2) d
  z : z ≤ 400
theorem GoodW.mem {db : List Tb} {l : List Dp} {g : Dp} {ws : List Wt} {z : Int} (h : GoodW db l g ws z) (s : Nat) (r : List Int) : r ∈ (ws.getD s w0).2 ↔ Cl (nmsOf db) (nsOf db) l g s r := by
  constructor
  · intro hr
    rcases Nat.lt_or_ge s ws.length with hs | hs
    · exact h.wi.c s hs r hr
    · rw [List.getD_eq_getElem?_getD, List.getElem?_eq_none hs] at hr
      cases hr
  · intro hc
    exact hc.in_closed (W := fun t => (ws.getD t w0).2) h.first h.cl
theorem GoodW.nd {db : List Tb} {l : List Dp} {g : Dp} {ws : List Wt} {z : Int} (h : GoodW db l g ws z) (s : Nat) : (ws.getD s w0).2.Nodup := by
  rcases Nat.lt_or_ge s ws.length with hs | hs
  · exact h.wi.nd s hs
  · rw [List.getD_eq_getElem?_getD, List.getElem?_eq_none hs]
    exact List.nodup_nil
theorem GoodW.same {db : List Tb} {l : List Dp} {g : Dp} {ws ws' : List Wt} {z z' : Int} (h : GoodW db l g ws z) (h' : GoodW db l g ws' z') : refW db ws = refW db ws' := by
  refine List.map_congr_left fun i _ => ?_
  unfold tabW
  rw [srt_eq (h.nd i) (h'.nd i) fun x => by rw [h.mem, h'.mem]]
theorem GoodW.small {db : List Tb} {l : List Dp} {g : Dp} {ws ws' : List Wt} {z z' : Int} (h' : GoodW db l g ws' z') (h : WI (Cl (nmsOf db) (nsOf db) l g) ws z) (hl : ws.length = db.length) : z ≤ 400 := by
  have := tot_le (ws := ws) (ws' := ws') (by rw [hl, h'.len]) fun s hs => nodup_sub (h.nd s hs) fun x hx => (h'.mem s x).2 (h.c s hs x hx)
  have e1 := h.z
  have e2 := h'.wi.z
  have e3 := h'.z
  omega
open Classical in
noncomputable def refOut (db : List Tb) (l : List Dp) (g : Dp) : SV := if h : ∃ ws z, GoodW db l g ws z then .tup [DB (refW db (Classical.choose h)), I64 0] else .tup [.agg [SN], I64 3]
theorem refOut_yes {db : List Tb} {l : List Dp} {g : Dp} {ws : List Wt} {z : Int} (h : GoodW db l g ws z) : refOut db l g = .tup [DB (refW db ws), I64 0] := by
  have hx : ∃ ws z, GoodW db l g ws z := ⟨ws, z, h⟩
  unfold refOut
  rw [dif_pos hx]
  obtain ⟨z2, h2⟩ := Classical.choose_spec hx
  rw [h2.same h]
theorem refOut_no {db : List Tb} {l : List Dp} {g : Dp} {ws : List Wt} {z : Int} (h : WI (Cl (nmsOf db) (nsOf db) l g) ws z) (hl : ws.length = db.length) (hz : 400 < z) : refOut db l g = .tup [.agg [SN], I64 3] := by
  unfold refOut
  rw [dif_neg]
  rintro ⟨ws', z', h'⟩
  have := h'.small h hl
  omega
end Go.Ab.A15
namespace Go.Ab.A15
open Go Go.Ab Go.Ab.A34
def exT : List Tb := [⟨⟨#[114]⟩, [⟨#[97]⟩, ⟨#[98]⟩], []⟩, ⟨⟨#[115]⟩, [⟨#[99]⟩, ⟨#[100]⟩], []⟩]
def givD : List Dp := [⟨⟨#[114]⟩, [0, 1], ⟨#[115]⟩, [0, 1]⟩, ⟨⟨#[115]⟩, [1], ⟨#[114]⟩, [0]⟩]
def goalD : Dp := ⟨⟨#[114]⟩, [1], ⟨#[114]⟩, [0]⟩
def backD : Dp := ⟨⟨#[114]⟩, [0], ⟨#[114]⟩, [1]⟩
end Go.Ab.A15
namespace Go.Proofs.YtblfodnajpamfaaGreatDoor
open Go Go.Ab Go.Ab.A34 Go.Ab.A15
variable [Gl] [Tabs]
theorem ex_c : PCall Tryz.prog 35 [] (DB exT) := by
  refine Call.enter' (N := 7) (rs := [.cell 0 30]) Tryz.func35 rfl rfl rfl (by decide) rfl ?_; simp only [argT]; have hD : (0 : Nat) = 0 := rfl
  repeat' first | (refine SW.seq_k fun K hK => ?_) | ((first | refine SW.region ?_ | refine SW.ret ?_ | (refine allF_i fun b hb => ?_; replace hD := And.intro hb hD; clear hb; try simp only [fresh_cons, fresh_nil, and_true, ne_eq, neF] at hD)); try simp only [go_sem, hD]) | (apply hK; clear hK K)
  obtain ⟨T, rfl⟩ : ∃ x, x = b := ⟨_, rfl⟩
  obtain ⟨B2, rfl⟩ : ∃ x, x = b := ⟨_, rfl⟩
  obtain ⟨B1, rfl⟩ : ∃ x, x = b := ⟨_, rfl⟩
  obtain ⟨O, rfl⟩ : ∃ x, x = b := ⟨_, rfl⟩
  refine retQ_le (S' := ⟨[(0, .fp [TL exT])], []⟩) ?_ ?_
  · skip
    refine St.le.trans (St.le_nilC (c := T) (j := 2) (sz := 2) (f := rF []) (by first | (rw [find_cons, if_pos rfl]) | (simp [find_cons, hD]; done) | (simp [find_cons, hD]; rfl)) (by first | decide | simp [Blk.len_svs]) rfl) ?_
    simp only [go_sem, hD]
    refine St.le.trans (St.le_nilC (c := T) (j := 5) (sz := 2) (f := rF []) (by first | (rw [find_cons, if_pos rfl]) | (simp [find_cons, hD]; done) | (simp [find_cons, hD]; rfl)) (by first | decide | simp [Blk.len_svs]) rfl) ?_
    simp only [go_sem, hD]
    refine St.le.trans (St.le_freezeC (c := T) (j := 4) (b := B2) (off := 0) (len := 2) (sz := 1) (by first | (rw [find_cons, if_pos rfl]) | (simp [find_cons, hD]; done) | (simp [find_cons, hD]; rfl)) (by simp [hD]) (by first | decide | simp [Blk.len_svs]) rfl (by first | (rw [find_cons, if_pos rfl]) | (simp [find_cons, hD]; done) | (simp [find_cons, hD]; rfl)) (by first | decide | simp [Blk.len_svs]) (sF [⟨#[99]⟩, ⟨#[100]⟩]) (fun p hp => by
      have h9 : p = 0 ∨ p = 1 := by omega
      rcases h9 with rfl | rfl <;> rfl)) ?_
    simp only [go_sem, hD]
    refine St.le.trans (St.le_freezeC (c := T) (j := 1) (b := B1) (off := 0) (len := 2) (sz := 1) (by first | (rw [find_cons, if_pos rfl]) | (simp [find_cons, hD]; done) | (simp [find_cons, hD]; rfl)) (by simp [hD]) (by first | decide | simp [Blk.len_svs]) rfl (by first | (rw [find_cons, if_pos rfl]) | (simp [find_cons, hD]; done) | (simp [find_cons, hD]; rfl)) (by first | decide | simp [Blk.len_svs]) (sF [⟨#[97]⟩, ⟨#[98]⟩]) (fun p hp => by
      have h9 : p = 0 ∨ p = 1 := by omega
      rcases h9 with rfl | rfl <;> rfl)) ?_
    simp only [go_sem, hD]
    refine St.le.trans (St.le_freezeC (c := O) (j := 0) (b := T) (off := 0) (len := 2) (sz := 3) (by first | (rw [find_cons, if_pos rfl]) | (simp [find_cons, hD]; done) | (simp [find_cons, hD]; rfl)) (by simp [hD]) (by first | decide | simp [Blk.len_svs]) rfl (by first | (rw [find_cons, if_pos rfl]) | (simp [find_cons, hD]; done) | (simp [find_cons, hD]; rfl)) (by first | decide | simp [Blk.len_svs]) (tF exT) (fun p hp => by
      have h9 : p = 0 ∨ p = 1 := by omega
      rcases h9 with rfl | rfl <;> rfl)) ?_
    simp only [go_sem, hD]
    refine St.le.trans (St.le_freezeP (i := 0) (b := O) (off := 0) (n := 1) rfl (by rw [find_cons, if_pos rfl]) (by exact Nat.le_refl 1)) ?_
    simp only [getN, Blk.get, go_sem, hD]
    exact St.le_sub (by repeat' (first | exact rfl | exact trivial | constructor))
  simp only [resL_tmp, resL_cellE, resC_ok, resL_nil, tupOf, getN, go_sem, hD]
  try exact ⟨rfl, rfl⟩
theorem giv_c : PCall Tryz.prog 36 [] (DpL givD) := by
  refine Call.enter' (N := 8) (rs := [.tmp 0]) Tryz.func36 rfl rfl rfl (by decide) rfl ?_; simp only [argT]; have hD : (0 : Nat) = 0 := rfl
  repeat' first | (refine SW.seq_k fun K hK => ?_) | ((first | refine SW.region ?_ | refine SW.ret ?_ | (refine allF_i fun b hb => ?_; replace hD := And.intro hb hD; clear hb; try simp only [fresh_cons, fresh_nil, and_true, ne_eq, neF] at hD)); try simp only [go_sem, hD]) | (apply hK; clear hK K)
  obtain ⟨T, rfl⟩ : ∃ x, x = b := ⟨_, rfl⟩
  obtain ⟨B4, rfl⟩ : ∃ x, x = b := ⟨_, rfl⟩
  obtain ⟨B3, rfl⟩ : ∃ x, x = b := ⟨_, rfl⟩
  obtain ⟨B2, rfl⟩ : ∃ x, x = b := ⟨_, rfl⟩
  obtain ⟨B1, rfl⟩ : ∃ x, x = b := ⟨_, rfl⟩
  refine retQ_le (S' := ⟨[(0, DpL givD)], []⟩) ?_ ?_
  · skip
    refine St.le.trans (St.le_freezeC (c := T) (j := 7) (b := B4) (off := 0) (len := 1) (sz := 1) (by first | (rw [find_cons, if_pos rfl]) | (simp [find_cons, hD]; done) | (simp [find_cons, hD]; rfl)) (by simp [hD]) (by first | decide | simp [Blk.len_svs]) rfl (by first | (rw [find_cons, if_pos rfl]) | (simp [find_cons, hD]; done) | (simp [find_cons, hD]; rfl)) (by first | decide | simp [Blk.len_svs]) (iF [0]) (fun p hp => by
      have h9 : p = 0 := by omega
      rcases h9 with rfl <;> rfl)) ?_
    simp only [go_sem, hD]
    refine St.le.trans (St.le_freezeC (c := T) (j := 5) (b := B3) (off := 0) (len := 1) (sz := 1) (by first | (rw [find_cons, if_pos rfl]) | (simp [find_cons, hD]; done) | (simp [find_cons, hD]; rfl)) (by simp [hD]) (by first | decide | simp [Blk.len_svs]) rfl (by first | (rw [find_cons, if_pos rfl]) | (simp [find_cons, hD]; done) | (simp [find_cons, hD]; rfl)) (by first | decide | simp [Blk.len_svs]) (iF [1]) (fun p hp => by
      have h9 : p = 0 := by omega
      rcases h9 with rfl <;> rfl)) ?_
    simp only [go_sem, hD]
    refine St.le.trans (St.le_freezeC (c := T) (j := 3) (b := B2) (off := 0) (len := 2) (sz := 1) (by first | (rw [find_cons, if_pos rfl]) | (simp [find_cons, hD]; done) | (simp [find_cons, hD]; rfl)) (by simp [hD]) (by first | decide | simp [Blk.len_svs]) rfl (by first | (rw [find_cons, if_pos rfl]) | (simp [find_cons, hD]; done) | (simp [find_cons, hD]; rfl)) (by first | decide | simp [Blk.len_svs]) (iF [0, 1]) (fun p hp => by
      have h9 : p = 0 ∨ p = 1 := by omega
      rcases h9 with rfl | rfl <;> rfl)) ?_
    simp only [go_sem, hD]
    refine St.le.trans (St.le_freezeC (c := T) (j := 1) (b := B1) (off := 0) (len := 2) (sz := 1) (by first | (rw [find_cons, if_pos rfl]) | (simp [find_cons, hD]; done) | (simp [find_cons, hD]; rfl)) (by simp [hD]) (by first | decide | simp [Blk.len_svs]) rfl (by first | (rw [find_cons, if_pos rfl]) | (simp [find_cons, hD]; done) | (simp [find_cons, hD]; rfl)) (by first | decide | simp [Blk.len_svs]) (iF [0, 1]) (fun p hp => by
      have h9 : p = 0 ∨ p = 1 := by omega
      rcases h9 with rfl | rfl <;> rfl)) ?_
    simp only [go_sem, hD]
    refine St.le.trans (St.le_freeze (i := 0) (b := T) (off := 0) (len := 2) (sz := 4) rfl (by first | (rw [find_cons, if_pos rfl]) | (simp [find_cons, hD]; done) | (simp [find_cons, hD]; rfl)) (by first | decide | simp [Blk.len_svs]) (dpF givD) (fun p hp => by
      have h9 : p = 0 ∨ p = 1 := by omega
      rcases h9 with rfl | rfl <;> rfl)) ?_
    simp only [go_sem, hD]
    exact St.le_sub (by repeat' (first | exact rfl | exact trivial | constructor))
  simp only [resL_tmp, resL_nil, tupOf, go_sem, hD]
  try exact ⟨rfl, rfl⟩
end Go.Proofs.YtblfodnajpamfaaGreatDoor
namespace Go.Ab.A15
open Go Go.Ab Go.Ab.A34
theorem ex_all1 : allS exT givD goalD = 0 := by decide +kernel
theorem ex_all2 : allS exT givD backD = 0 := by decide +kernel
theorem ex_find1 : ¬ findS goalD.t goalD.r 0 (states givD goalD) < 0 := by decide +kernel
theorem ex_find2 : findS backD.t backD.r 0 (states givD backD) < 0 := by decide +kernel
theorem ex_len : (proofS givD goalD).length = 2 := by decide +kernel
theorem ex_chk : chkP givD goalD.t goalD.r (proofS givD goalD) goalD.f goalD.l = true := by decide +kernel
theorem ex_okp : OkP (proofS givD goalD) := by
  have h : (proofS givD goalD).all (fun p => decide (p.2.length ≤ 1000000)) = true := by decide +kernel
  exact ⟨by rw [ex_len]; omega, fun p hp => of_decide_eq_true (List.all_eq_true.1 h p hp)⟩
theorem ex_okd (d : Dp) (h : d = goalD ∨ d = backD ∨ d ∈ givD) : OkD d := by
  have : d = goalD ∨ d = backD ∨ d = ⟨⟨#[114]⟩, [0, 1], ⟨#[115]⟩, [0, 1]⟩ ∨ d = ⟨⟨#[115]⟩, [1], ⟨#[114]⟩, [0]⟩ := by
    rcases h with h | h | h
    · exact .inl h
    · exact .inr (.inl h)
    · unfold givD at h
      rcases List.mem_cons.1 h with h | h
      · exact .inr (.inr (.inl h))
      · exact .inr (.inr (.inr (List.mem_singleton.1 h)))
  rcases this with rfl | rfl | rfl | rfl <;> exact ⟨by decide, by decide⟩
theorem ex_few1 : Few exT givD goalD := ⟨by decide, by decide, fun d hd => ex_okd d (.inr (.inr hd)), ex_okd _ (.inl rfl), by decide, by decide⟩
theorem ex_few2 : Few exT givD backD := ⟨by decide, by decide, fun d hd => ex_okd d (.inr (.inr hd)), ex_okd _ (.inr (.inl rfl)), by decide, by decide⟩
def exW : List Wt := [(0, [[1, 0], [0, 0]]), (0, [[1, 0], [0, 0]])]
abbrev exC := Cl (nmsOf exT) (nsOf exT) givD backD
theorem ex_c0 : exC 0 [1, 0] := by
  have h := Cl.first (nm := nmsOf exT) (ns := nsOf exT) (l := givD) (g := backD)
  rwa [show idxN backD.f (nmsOf exT) = 0 by decide +kernel, show firstR ((nsOf exT).getD 0 0) backD = [1, 0] by decide +kernel] at h
theorem ex_c1 {r : List Int} (h : exC 0 r) (e : imgR 2 ⟨⟨#[114]⟩, [0, 1], ⟨#[115]⟩, [0, 1]⟩ r = r) : exC 1 r := by
  have k := Cl.step (nm := nmsOf exT) (ns := nsOf exT) (l := givD) (g := backD) ⟨⟨#[114]⟩, [0, 1], ⟨#[115]⟩, [0, 1]⟩ r List.mem_cons_self (by rw [show idxN (Dp.mk ⟨#[114]⟩ [0, 1] ⟨#[115]⟩ [0, 1]).f (nmsOf exT) = 0 by decide +kernel]; exact h)
  rwa [show idxN (Dp.mk ⟨#[114]⟩ [0, 1] ⟨#[115]⟩ [0, 1]).t (nmsOf exT) = 1 by decide +kernel, show (nsOf exT).getD 1 0 = 2 by decide +kernel, e] at k
theorem ex_c2 {r : List Int} (h : exC 1 r) : exC 0 (imgR 2 ⟨⟨#[115]⟩, [1], ⟨#[114]⟩, [0]⟩ r) := by
  have k := Cl.step (nm := nmsOf exT) (ns := nsOf exT) (l := givD) (g := backD) ⟨⟨#[115]⟩, [1], ⟨#[114]⟩, [0]⟩ r (List.mem_cons_of_mem _ List.mem_cons_self) (by rw [show idxN (Dp.mk ⟨#[115]⟩ [1] ⟨#[114]⟩ [0]).f (nmsOf exT) = 1 by decide +kernel]; exact h)
  rwa [show idxN (Dp.mk ⟨#[115]⟩ [1] ⟨#[114]⟩ [0]).t (nmsOf exT) = 0 by decide +kernel, show (nsOf exT).getD 0 0 = 2 by decide +kernel] at k
theorem ex_c3 : exC 0 [0, 0] := by
  have h := ex_c2 (ex_c1 ex_c0 (by decide +kernel))
  rwa [show imgR 2 ⟨⟨#[115]⟩, [1], ⟨#[114]⟩, [0]⟩ [1, 0] = [0, 0] by decide +kernel] at h
theorem ex_good : GoodW exT givD backD exW 4 where
  wi := {
    nd := fun s hs => by
      have : s = 0 ∨ s = 1 := by have h : s < 2 := hs; omega
      rcases this with rfl | rfl <;> decide +kernel
    c := fun s hs r hr => by
      have : s = 0 ∨ s = 1 := by have h : s < 2 := hs; omega
      have e : (exW.getD s w0).2 = [[1, 0], [0, 0]] := by rcases this with rfl | rfl <;> rfl
      rw [e] at hr
      have h2 : r = [1, 0] ∨ r = [0, 0] := by simpa using hr
      rcases this with rfl | rfl <;> rcases h2 with rfl | rfl
      · exact ex_c0
      · exact ex_c3
      · exact ex_c1 ex_c0 (by decide +kernel)
      · exact ex_c1 ex_c3 (by decide +kernel)
    z := by decide +kernel }
  len := rfl
  first := by decide +kernel
  cl := fun d hd r hr => by
    have h1 : d = ⟨⟨#[114]⟩, [0, 1], ⟨#[115]⟩, [0, 1]⟩ ∨ d = ⟨⟨#[115]⟩, [1], ⟨#[114]⟩, [0]⟩ := by
      unfold givD at hd
      rcases List.mem_cons.1 hd with h | h
      · exact .inl h
      · exact .inr (List.mem_singleton.1 h)
    have e : ∀ u, u = idxN d.f (nmsOf exT) → (exW.getD u w0).2 = [[1, 0], [0, 0]] := fun u hu => by
      rcases h1 with rfl | rfl <;> (rw [hu]; decide +kernel)
    replace hr : r ∈ (exW.getD (idxN d.f (nmsOf exT)) w0).2 := hr
    rw [e _ rfl] at hr
    have h2 : r = [1, 0] ∨ r = [0, 0] := by simpa using hr
    rcases h1 with rfl | rfl <;> rcases h2 with rfl | rfl <;> decide +kernel
  z := by decide
theorem ex_out : refOut exT givD backD = .tup [DB (refW exT exW), I64 0] := refOut_yes ex_good
theorem ex_two : (refW exT exW).length = 2 ∧ ((refW exT exW).getD 0 t0).rows.length = 2 ∧ ((refW exT exW).getD 1 t0).rows.length = 2 := by
  have e : refW exT exW = [tabW (exT.getD 0 t0) (exW.getD 0 w0).2, tabW (exT.getD 1 t0) (exW.getD 1 w0).2] := rfl
  rw [e]
  refine ⟨rfl, ?_, ?_⟩
  · show (rowsP _ (srtL _).length).length = 2
    rw [rowsP_len, srt_len]
    rfl
  · show (rowsP _ (srtL _).length).length = 2
    rw [rowsP_len, srt_len]
    rfl
end Go.Ab.A15
