/- Several texts in one: CC, CD, J1, J2, DA, DB, DC, DD, DE, DF. -/
import Derived.Test.YtblfodnajpamfaaDoorQ4
import Derived.Test.YtblfodnajpamfaaDoorZ10
import Derived.Test.YtblfodnajpamfaaDoorQ1
import Derived.Test.YtblfodnajpamfaaDoorZ17
import Derived.Test.YtblfodnajpamfaaDoorZ18
/- Contract: Check. -/
set_option linter.unusedSimpArgs false
set_option linter.unusedVariables false
set_option linter.unusedSectionVars false
namespace Go.Proofs.YtblfodnajpamfaaDoor
open Go Go.Ab Go.Ab.A34 Go.Ab.A15
variable [Gl] [Tabs]

set_option maxHeartbeats 8000000 in
set_option maxRecDepth 20000 in
theorem check_i (db : List Tb) (l : List Dp) (g : Dp) (pr : List P2) (hdb : db.length ≤ 1000) (hll : l.length ≤ 1000000) (hl : ∀ d ∈ l, OkD d) (hg : OkD g) (h : allS db l g = 0) (hpr : OkP pr) : PCall Tryd.prog 19 [DB db, DpL l, DV g, PL pr] (SB (chkP l g.t g.r pr g.f g.l)) := by
  have c := all_p db l g (by omega) (by omega) hl hg
  have V := allS_ok h
  rw [h] at c
  have hok := V.okL
  have hlr : ∀ d ∈ l, d.l.length = d.r.length := fun d hd => (V.l d hd).lr
  have hgl : g.l.length ≤ 16 := in16_len V.g.nl (V.g.in16l V.vd)
  have hgr : g.r.length ≤ 1000000000 := by have := in16_len V.g.nr (V.g.in16r V.vd); omega
  have cc := clone_i g.l (by omega)
  obtain ⟨R, hR⟩ : ∃ R, R = chkP l g.t g.r pr g.f g.l := ⟨_, rfl⟩
  rw [← hR]
  have hR0 : R = chkP l g.t g.r (pr.drop 0) g.f g.l := by rw [List.drop_zero]; exact hR
  clear hR V h
  have hR := hR0
  clear hR0
  have hp1 := hpr.1
  obtain ⟨gf, gl, gt, gr⟩ := g
  simp only at hR cc hgl hgr
  refine Call.enter' (N := 116) (rs := [.tmp 8]) Tryd.func19 rfl rfl rfl (by decide) rfl ?_; simp only [argT]; have hD : (0 : Nat) = 0 := rfl
  repeat' first | (with_reducible refine And.intro (by omega) ?_) | (refine SW.seq_k fun K hK => ?_) | (refine SW.block ?_) | ((first | refine SW.region ?_ | refine SW.cond ?_ | refine SW.skip ?_ | refine SW.exit ?_ | refine SW.ret ?_ | refine Call.of_pure (c) ?_ | refine ⟨_, c, ?_⟩ | (refine allF_i fun b hb => ?_; replace hD := And.intro hb hD; clear hb; try simp only [fresh_cons, fresh_nil, and_true, ne_eq, neF] at hD) | simp only [appK, appOsK]); try simp only [go_sem, hD]) | (refine And.intro (by omega) ?_) | (refine ifI (fun hc => ?_) (fun hc => ?_) <;> first | (exfalso; omega) | skip) | ((first | apply hK | ((iterate 1 (clear hK K)); apply hK) | ((iterate 2 (clear hK K)); apply hK) | ((iterate 3 (clear hK K)); apply hK) | ((iterate 4 (clear hK K)); apply hK) | ((iterate 5 (clear hK K)); apply hK)); clear hK K)
  obtain ⟨gb, rfl⟩ : ∃ x, x = b := ⟨_, rfl⟩
  refine SW.cut (fun S' => (gl = [] ∧ S'.le ⟨[(1, DpL l), (3, PL pr), (6, .op gb 0), (8, SB false), (9, Str gf), (10, SN)], [(gb, .svs (dC ⟨gf, gl, gt, gr⟩))]⟩) ∨ ∃ ab, ¬ ab = gb ∧ ¬ gb = ab ∧ S'.le ⟨[(1, DpL l), (3, PL pr), (6, .op gb 0), (8, SB false), (9, Str gf), (10, .os ab 0 gl.length 1)], [(ab, .svs (gl.map fun x => I64 x)), (gb, .svs (dC ⟨gf, gl, gt, gr⟩))]⟩) ?_ (fun S' hS' => ?_)
  · clear hK K hR
    repeat' first | ((refine Call.mono (Call.frameN (h1 := []) cc) ?_); (intro r h' hx); (obtain ⟨h1, rfl, hcl, hnd⟩ := hx); (rcases hcl with ⟨hg0, rfl, rfl⟩ | ⟨ab, rfl, rfl⟩ <;> (simp only [List.nil_append, List.cons_append] at hnd ⊢; have hf := fresh_of_nodup hnd; simp only [fresh_cons, fresh_nil, and_true, ne_eq, neF] at hf; replace hD := And.intro hf hD; clear hf hnd; try simp only [go_sem, hD]))) | (with_reducible refine And.intro (by omega) ?_) | (refine SW.seq_k fun K hK => ?_) | (refine SW.block ?_) | ((first | refine SW.region ?_ | refine SW.regionY [4] (id := 3) (Checked.mixed Tryd.checked) ((.one 2 [2, 3, 4, 5, 6] (.one 3 [3, 4, 5, 6] (.alt 0 false (.alt 1 false (.alt 4 true (.one 5 [5, 6] (.one 6 [6] .done)) .nil) (.alt 4 true (.one 1 [1, 5, 6] (.one 5 [5, 6] (.one 6 [6] .done))) .nil)) (.alt 4 true (.one 0 [0, 1, 5, 6] (.one 1 [1, 5, 6] (.one 5 [5, 6] (.one 6 [6] .done)))) .nil)))) : OY) (by kernel_rfl) ?_ | refine SW.regionZ (id := 13) (Checked.mixed Tryd.checked) ((.one 0 [0, 1, 2, 3, 4, 5, 6, 7, 8, 9, 10, 11, 12, 13, 14, 15, 16, 17, 18, 19, 20] (.one 1 [1, 2, 3, 4, 5, 6, 7, 8, 9, 10, 11, 12, 13, 14, 15, 16, 17, 18, 19, 20] (.one 2 [2, 3, 4, 5, 6, 7, 8, 9, 10, 11, 12, 13, 14, 15, 16, 17, 18, 19, 20] (.one 3 [3, 7, 8, 9, 10, 11, 12, 13, 14, 15, 16, 17, 18, 19, 20] (.one 4 [4, 5, 6, 7, 8, 9, 10, 11, 12, 13, 14, 15, 16, 17, 18, 19, 20] (.one 5 [5, 6, 7, 8, 9, 10, 11, 12, 13, 14, 15, 16, 17, 18, 19, 20] (.one 6 [6, 7, 8, 9, 10, 11, 12, 13, 14, 15, 16, 17, 18, 19, 20] (.one 7 [7, 8, 9, 10, 11, 12, 13, 14, 15, 16, 17, 18, 19, 20] (.one 8 [8, 9, 10, 11, 12, 13, 14, 15, 16, 17, 18, 19, 20] (.one 9 [9, 10, 11, 12, 13, 14, 15, 16, 17, 18, 19, 20] (.one 10 [10, 11, 13, 14, 19, 20] (.one 11 [11, 13, 14, 19, 20] (.one 12 [12, 13, 14, 19, 20] (.one 13 [13, 14, 19, 20] (.one 14 [14, 19, 20] (.one 15 [15, 17, 18, 19, 20] (.one 16 [16, 17, 18, 19, 20] (.one 17 [17, 18, 19, 20] (.one 18 [18, 19, 20] (.one 19 [19, 20] (.one 20 [20] .done))))))))))))))))))))) : OZ) (by kernel_rfl) ?_ | refine SW.regionD (Checked.mixed Tryd.checked) (by kernel_rfl) ?_ | refine SW.cond ?_ | refine SW.skip ?_ | refine SW.exit ?_ | refine SW.ret ?_ | (refine allF_i fun b hb => ?_; replace hD := And.intro hb hD; clear hb; try simp only [fresh_cons, fresh_nil, and_true, ne_eq, neF] at hD) | simp only [appK, appOsK]); try simp only [go_sem, hD, true_implies]) | (refine And.intro (by omega) ?_) | (refine ifI (fun hc => ?_) (fun hc => ?_) <;> first | (exfalso; omega) | skip) | ((first | apply hK | ((iterate 1 (clear hK K)); apply hK) | ((iterate 2 (clear hK K)); apply hK) | ((iterate 3 (clear hK K)); apply hK) | ((iterate 4 (clear hK K)); apply hK) | ((iterate 5 (clear hK K)); apply hK)); clear hK K) | (refine And.intro ?_ ?_)
    all_goals
      refine nrm_i ?_
      first
        | (refine .inl ⟨hg0, (St.le_pick [(gb, .svs (dC ⟨gf, gl, gt, gr⟩))] ?_ ?_).trans (St.le_sub (by repeat' (first | exact rfl | exact trivial | exact int_eq (by omega) | exact int_eq (by (rw [i64_wrap] <;> omega)) | constructor)))⟩)
        | (refine .inr ⟨ab, by simp [hD], by simp [hD], (St.le_pick [(ab, .svs (gl.map fun x => I64 x)), (gb, .svs (dC ⟨gf, gl, gt, gr⟩))] ?_ ?_).trans (St.le_sub (by repeat' (first | exact rfl | exact trivial | exact int_eq (by omega) | exact int_eq (by (rw [i64_wrap] <;> omega)) | constructor)))⟩)
    all_goals first
      | ((repeat' (first | exact (fun x hx => (List.not_mem_nil hx).elim) | refine List.forall_mem_cons.2 ⟨?_, ?_⟩ | exact List.mem_cons_self | apply List.mem_cons_of_mem)); done)
      | (simp [fresh_cons, fresh_nil, hD])
  have hK2 := hK S'
  clear hK hD
  rcases hS' with ⟨rfl, hle⟩ | ⟨ab, k1, k2, hle⟩
  · apply hK2
    clear hK2 K
    refine Ab.SW.le hle ?_
    clear hle
    have hD : (0 : Nat) = 0 := rfl
    repeat' first | (with_reducible refine And.intro (by omega) ?_) | (refine SW.seq_k fun K hK => ?_) | (refine SW.block ?_) | ((first | refine SW.region ?_ | refine SW.regionD (Checked.mixed Tryd.checked) (by kernel_rfl) ?_ | refine SW.cond ?_ | refine SW.skip ?_ | refine SW.exit ?_ | refine SW.ret ?_ | (refine allF_i fun b hb => ?_; replace hD := And.intro hb hD; clear hb; try simp only [fresh_cons, fresh_nil, and_true, ne_eq, neF] at hD) | simp only [appK, appOsK]); try simp only [go_sem, hD]) | (refine And.intro (by omega) ?_) | (refine ifI (fun hc => ?_) (fun hc => ?_) <;> first | (exfalso; omega) | skip) | ((first | apply hK | ((iterate 1 (clear hK K)); apply hK) | ((iterate 2 (clear hK K)); apply hK) | ((iterate 3 (clear hK K)); apply hK) | ((iterate 4 (clear hK K)); apply hK) | ((iterate 5 (clear hK K)); apply hK)); clear hK K)
    obtain ⟨I, hI⟩ : ∃ I : Nat → St → Prop, ∀ k S, I k S ↔ (∃ (i : Nat) (t : ByteArray), k = pr.length - i ∧ i ≤ pr.length ∧ R = chkP l gt gr (pr.drop i) t ([] : List Int) ∧ S = ⟨[(1, DpL l), (6, .op gb 0), (8, SB false), (9, Str t), (10, SN), (26, PL pr), (27, I64 pr.length), (28, I64 i)], [(gb, .svs (dC ⟨gf, [], gt, gr⟩))]⟩) := ⟨fun k S => _, fun _ _ => Iff.rfl⟩
    refine SW.loop' I (pr.length) ((hI _ _).2 ⟨0, gf, rfl, Nat.zero_le _, hR, rfl⟩) (by repeat' (first | exact rfl | exact trivial | exact int_eq (by omega) | exact int_eq (by (rw [i64_wrap] <;> omega)) | constructor)) ?_
    intro k S hIn
    obtain ⟨i, t, rfl, hi, hC, rfl⟩ := (hI _ _).1 hIn
    clear hIn
    have ie : ((i : Nat) : Int).toNat = i := Int.toNat_natCast _
    have i0 : (0 : Int) ≤ ((i : Nat) : Int) := by omega
    clear hR
    have hD := (rfl : (0 : Nat) = 0)
    by_cases hlt : i < pr.length
    · have hli : ((i : Nat) : Int) < (((pr.length) : Nat) : Int) := by omega
      have w1 : IntKind.i64.wrap ((i : Int) + 1) = ((i + 1 : Nat) : Int) := by rw [i64_wrap (by omega) (by omega)]; omega
      rw [chkP_drop hlt] at hC
      have fp : pF pr i = pC (pr.getD i p0) := rfl
      have hpl := hpr.2 _ (getD_mem' p0 hlt)
      generalize pr.getD i p0 = p at *
      obtain ⟨q, ps⟩ := p
      simp only at hC hpl
      by_cases c1 : q < 0
      · rw [if_neg (by omega)] at hC
        subst hC
        repeat' first | (with_reducible refine And.intro (by omega) ?_) | (refine SW.seq_k fun K hK => ?_) | (refine SW.block ?_) | ((first | refine SW.region ?_ | refine SW.regionZ (id := 3) (Checked.mixed Tryd.checked) ((.one 0 [0, 1, 5, 6] (.one 1 [1, 5, 6] (.one 2 [2, 3, 4, 5, 6] (.one 3 [3, 4, 5, 6] (.one 4 [4, 5, 6] (.one 5 [5, 6] (.one 6 [6] .done))))))) : OZ) (by kernel_rfl) ?_ | refine SW.regionZ (id := 13) (Checked.mixed Tryd.checked) ((.one 0 [0, 1, 2, 3, 4, 5, 6, 7, 8, 9, 10, 11, 12, 13, 14, 15, 16, 17, 18, 19, 20] (.one 1 [1, 2, 3, 4, 5, 6, 7, 8, 9, 10, 11, 12, 13, 14, 15, 16, 17, 18, 19, 20] (.one 2 [2, 3, 4, 5, 6, 7, 8, 9, 10, 11, 12, 13, 14, 15, 16, 17, 18, 19, 20] (.one 3 [3, 7, 8, 9, 10, 11, 12, 13, 14, 15, 16, 17, 18, 19, 20] (.one 4 [4, 5, 6, 7, 8, 9, 10, 11, 12, 13, 14, 15, 16, 17, 18, 19, 20] (.one 5 [5, 6, 7, 8, 9, 10, 11, 12, 13, 14, 15, 16, 17, 18, 19, 20] (.one 6 [6, 7, 8, 9, 10, 11, 12, 13, 14, 15, 16, 17, 18, 19, 20] (.one 7 [7, 8, 9, 10, 11, 12, 13, 14, 15, 16, 17, 18, 19, 20] (.one 8 [8, 9, 10, 11, 12, 13, 14, 15, 16, 17, 18, 19, 20] (.one 9 [9, 10, 11, 12, 13, 14, 15, 16, 17, 18, 19, 20] (.one 10 [10, 11, 13, 14, 19, 20] (.one 11 [11, 13, 14, 19, 20] (.one 12 [12, 13, 14, 19, 20] (.one 13 [13, 14, 19, 20] (.one 14 [14, 19, 20] (.one 15 [15, 17, 18, 19, 20] (.one 16 [16, 17, 18, 19, 20] (.one 17 [17, 18, 19, 20] (.one 18 [18, 19, 20] (.one 19 [19, 20] (.one 20 [20] .done))))))))))))))))))))) : OZ) (by kernel_rfl) ?_ | refine SW.regionD (Checked.mixed Tryd.checked) (by kernel_rfl) ?_ | refine SW.cond ?_ | refine SW.skip ?_ | refine SW.exit ?_ | refine SW.ret ?_ | (refine allF_i fun b hb => ?_; replace hD := And.intro hb hD; clear hb; try simp only [fresh_cons, fresh_nil, and_true, ne_eq, neF] at hD) | simp only [appK, appOsK]); try simp only [go_sem, hD, hli, ie, i0, w1, fp, c1, true_implies]) | (refine And.intro (by omega) ?_) | (refine ifI (fun hc => ?_) (fun hc => ?_) <;> first | (exfalso; omega) | skip) | ((first | apply hK | ((iterate 1 (clear hK K)); apply hK) | ((iterate 2 (clear hK K)); apply hK) | ((iterate 3 (clear hK K)); apply hK) | ((iterate 4 (clear hK K)); apply hK) | ((iterate 5 (clear hK K)); apply hK)); clear hK K) | (refine And.intro ?_ ?_)
        all_goals
          refine ret_pure ?_; simp only [resL_tmp, resL_nil, tupOf, go_sem, hD]
      by_cases c2 : ((l.length : Nat) : Int) ≤ q
      · rw [if_neg (by omega)] at hC
        subst hC
        repeat' first | (with_reducible refine And.intro (by omega) ?_) | (refine SW.seq_k fun K hK => ?_) | (refine SW.block ?_) | ((first | refine SW.region ?_ | refine SW.regionZ (id := 3) (Checked.mixed Tryd.checked) ((.one 0 [0, 1, 5, 6] (.one 1 [1, 5, 6] (.one 2 [2, 3, 4, 5, 6] (.one 3 [3, 4, 5, 6] (.one 4 [4, 5, 6] (.one 5 [5, 6] (.one 6 [6] .done))))))) : OZ) (by kernel_rfl) ?_ | refine SW.regionZ (id := 13) (Checked.mixed Tryd.checked) ((.one 0 [0, 1, 2, 3, 4, 5, 6, 7, 8, 9, 10, 11, 12, 13, 14, 15, 16, 17, 18, 19, 20] (.one 1 [1, 2, 3, 4, 5, 6, 7, 8, 9, 10, 11, 12, 13, 14, 15, 16, 17, 18, 19, 20] (.one 2 [2, 3, 4, 5, 6, 7, 8, 9, 10, 11, 12, 13, 14, 15, 16, 17, 18, 19, 20] (.one 3 [3, 7, 8, 9, 10, 11, 12, 13, 14, 15, 16, 17, 18, 19, 20] (.one 4 [4, 5, 6, 7, 8, 9, 10, 11, 12, 13, 14, 15, 16, 17, 18, 19, 20] (.one 5 [5, 6, 7, 8, 9, 10, 11, 12, 13, 14, 15, 16, 17, 18, 19, 20] (.one 6 [6, 7, 8, 9, 10, 11, 12, 13, 14, 15, 16, 17, 18, 19, 20] (.one 7 [7, 8, 9, 10, 11, 12, 13, 14, 15, 16, 17, 18, 19, 20] (.one 8 [8, 9, 10, 11, 12, 13, 14, 15, 16, 17, 18, 19, 20] (.one 9 [9, 10, 11, 12, 13, 14, 15, 16, 17, 18, 19, 20] (.one 10 [10, 11, 13, 14, 19, 20] (.one 11 [11, 13, 14, 19, 20] (.one 12 [12, 13, 14, 19, 20] (.one 13 [13, 14, 19, 20] (.one 14 [14, 19, 20] (.one 15 [15, 17, 18, 19, 20] (.one 16 [16, 17, 18, 19, 20] (.one 17 [17, 18, 19, 20] (.one 18 [18, 19, 20] (.one 19 [19, 20] (.one 20 [20] .done))))))))))))))))))))) : OZ) (by kernel_rfl) ?_ | refine SW.regionD (Checked.mixed Tryd.checked) (by kernel_rfl) ?_ | refine SW.cond ?_ | refine SW.skip ?_ | refine SW.exit ?_ | refine SW.ret ?_ | (refine allF_i fun b hb => ?_; replace hD := And.intro hb hD; clear hb; try simp only [fresh_cons, fresh_nil, and_true, ne_eq, neF] at hD) | simp only [appK, appOsK]); try simp only [go_sem, hD, hli, ie, i0, w1, fp, c1, c2, true_implies]) | (refine And.intro (by omega) ?_) | (refine ifI (fun hc => ?_) (fun hc => ?_) <;> first | (exfalso; omega) | skip) | ((first | apply hK | ((iterate 1 (clear hK K)); apply hK) | ((iterate 2 (clear hK K)); apply hK) | ((iterate 3 (clear hK K)); apply hK) | ((iterate 4 (clear hK K)); apply hK) | ((iterate 5 (clear hK K)); apply hK)); clear hK K) | (refine And.intro ?_ ?_)
        all_goals
          refine ret_pure ?_; simp only [resL_tmp, resL_nil, tupOf, go_sem, hD]
      by_cases c3 : ps.length = 0
      rotate_left
      · rw [if_neg (fun x => c3 x.2.2.1)] at hC
        subst hC
        have c3i : ¬ ((ps.length : Nat) : Int) = 0 := by omega
        repeat' first | (with_reducible refine And.intro (by omega) ?_) | (refine SW.seq_k fun K hK => ?_) | (refine SW.block ?_) | ((first | refine SW.region ?_ | refine SW.regionZ (id := 3) (Checked.mixed Tryd.checked) ((.one 0 [0, 1, 5, 6] (.one 1 [1, 5, 6] (.one 2 [2, 3, 4, 5, 6] (.one 3 [3, 4, 5, 6] (.one 4 [4, 5, 6] (.one 5 [5, 6] (.one 6 [6] .done))))))) : OZ) (by kernel_rfl) ?_ | refine SW.regionZ (id := 13) (Checked.mixed Tryd.checked) ((.one 0 [0, 1, 2, 3, 4, 5, 6, 7, 8, 9, 10, 11, 12, 13, 14, 15, 16, 17, 18, 19, 20] (.one 1 [1, 2, 3, 4, 5, 6, 7, 8, 9, 10, 11, 12, 13, 14, 15, 16, 17, 18, 19, 20] (.one 2 [2, 3, 4, 5, 6, 7, 8, 9, 10, 11, 12, 13, 14, 15, 16, 17, 18, 19, 20] (.one 3 [3, 7, 8, 9, 10, 11, 12, 13, 14, 15, 16, 17, 18, 19, 20] (.one 4 [4, 5, 6, 7, 8, 9, 10, 11, 12, 13, 14, 15, 16, 17, 18, 19, 20] (.one 5 [5, 6, 7, 8, 9, 10, 11, 12, 13, 14, 15, 16, 17, 18, 19, 20] (.one 6 [6, 7, 8, 9, 10, 11, 12, 13, 14, 15, 16, 17, 18, 19, 20] (.one 7 [7, 8, 9, 10, 11, 12, 13, 14, 15, 16, 17, 18, 19, 20] (.one 8 [8, 9, 10, 11, 12, 13, 14, 15, 16, 17, 18, 19, 20] (.one 9 [9, 10, 11, 12, 13, 14, 15, 16, 17, 18, 19, 20] (.one 10 [10, 11, 13, 14, 19, 20] (.one 11 [11, 13, 14, 19, 20] (.one 12 [12, 13, 14, 19, 20] (.one 13 [13, 14, 19, 20] (.one 14 [14, 19, 20] (.one 15 [15, 17, 18, 19, 20] (.one 16 [16, 17, 18, 19, 20] (.one 17 [17, 18, 19, 20] (.one 18 [18, 19, 20] (.one 19 [19, 20] (.one 20 [20] .done))))))))))))))))))))) : OZ) (by kernel_rfl) ?_ | refine SW.regionD (Checked.mixed Tryd.checked) (by kernel_rfl) ?_ | refine SW.cond ?_ | refine SW.skip ?_ | refine SW.exit ?_ | refine SW.ret ?_ | (refine allF_i fun b hb => ?_; replace hD := And.intro hb hD; clear hb; try simp only [fresh_cons, fresh_nil, and_true, ne_eq, neF] at hD) | simp only [appK, appOsK]); try simp only [go_sem, hD, hli, ie, i0, w1, fp, c1, c2, c3i, true_implies]) | (refine And.intro (by omega) ?_) | (refine ifI (fun hc => ?_) (fun hc => ?_) <;> first | (exfalso; omega) | skip) | ((first | apply hK | ((iterate 1 (clear hK K)); apply hK) | ((iterate 2 (clear hK K)); apply hK) | ((iterate 3 (clear hK K)); apply hK) | ((iterate 4 (clear hK K)); apply hK) | ((iterate 5 (clear hK K)); apply hK)); clear hK K) | (refine And.intro ?_ ?_)
        all_goals
          refine ret_pure ?_; simp only [resL_tmp, resL_nil, tupOf, go_sem, hD]
      have c3i : ((ps.length : Nat) : Int) = 0 := by omega
      have dm := getD_mem' d0 (show q.toNat < l.length by omega)
      have fd : dpF l q.toNat = dC (l.getD q.toNat d0) := rfl
      have q0 : 0 ≤ q := by omega
      have ql : q < ((l.length : Nat) : Int) := by omega
      have hlrd := hlr _ dm
      have hdl := hok _ dm
      generalize l.getD q.toNat d0 = d at *
      obtain ⟨df, dl, dt, dr⟩ := d
      simp only at hC
      replace hlrd : dl.length = dr.length := hlrd
      replace hdl : dl.length ≤ 1000000 := hdl
      by_cases c4 : df = t
      rotate_left
      · rw [if_neg (fun x => c4 x.2.2.2)] at hC
        subst hC
        have ee : (df.toList == t.toList) = false := by rw [Bool.eq_false_iff]; exact fun h => c4 (barr_eq.1 h)
        repeat' first | (with_reducible refine And.intro (by omega) ?_) | (refine SW.seq_k fun K hK => ?_) | (refine SW.block ?_) | ((first | refine SW.region ?_ | refine SW.regionZ (id := 3) (Checked.mixed Tryd.checked) ((.one 0 [0, 1, 5, 6] (.one 1 [1, 5, 6] (.one 2 [2, 3, 4, 5, 6] (.one 3 [3, 4, 5, 6] (.one 4 [4, 5, 6] (.one 5 [5, 6] (.one 6 [6] .done))))))) : OZ) (by kernel_rfl) ?_ | refine SW.regionZ (id := 13) (Checked.mixed Tryd.checked) ((.one 0 [0, 1, 2, 3, 4, 5, 6, 7, 8, 9, 10, 11, 12, 13, 14, 15, 16, 17, 18, 19, 20] (.one 1 [1, 2, 3, 4, 5, 6, 7, 8, 9, 10, 11, 12, 13, 14, 15, 16, 17, 18, 19, 20] (.one 2 [2, 3, 4, 5, 6, 7, 8, 9, 10, 11, 12, 13, 14, 15, 16, 17, 18, 19, 20] (.one 3 [3, 7, 8, 9, 10, 11, 12, 13, 14, 15, 16, 17, 18, 19, 20] (.one 4 [4, 5, 6, 7, 8, 9, 10, 11, 12, 13, 14, 15, 16, 17, 18, 19, 20] (.one 5 [5, 6, 7, 8, 9, 10, 11, 12, 13, 14, 15, 16, 17, 18, 19, 20] (.one 6 [6, 7, 8, 9, 10, 11, 12, 13, 14, 15, 16, 17, 18, 19, 20] (.one 7 [7, 8, 9, 10, 11, 12, 13, 14, 15, 16, 17, 18, 19, 20] (.one 8 [8, 9, 10, 11, 12, 13, 14, 15, 16, 17, 18, 19, 20] (.one 9 [9, 10, 11, 12, 13, 14, 15, 16, 17, 18, 19, 20] (.one 10 [10, 11, 13, 14, 19, 20] (.one 11 [11, 13, 14, 19, 20] (.one 12 [12, 13, 14, 19, 20] (.one 13 [13, 14, 19, 20] (.one 14 [14, 19, 20] (.one 15 [15, 17, 18, 19, 20] (.one 16 [16, 17, 18, 19, 20] (.one 17 [17, 18, 19, 20] (.one 18 [18, 19, 20] (.one 19 [19, 20] (.one 20 [20] .done))))))))))))))))))))) : OZ) (by kernel_rfl) ?_ | refine SW.regionD (Checked.mixed Tryd.checked) (by kernel_rfl) ?_ | refine SW.cond ?_ | refine SW.skip ?_ | refine SW.exit ?_ | refine SW.ret ?_ | (refine allF_i fun b hb => ?_; replace hD := And.intro hb hD; clear hb; try simp only [fresh_cons, fresh_nil, and_true, ne_eq, neF] at hD) | simp only [appK, appOsK]); try simp only [go_sem, hD, hli, ie, i0, w1, fp, c1, c2, c3i, fd, q0, ql, ee, true_implies]) | (refine And.intro (by omega) ?_) | (refine ifI (fun hc => ?_) (fun hc => ?_) <;> first | (exfalso; omega) | skip) | ((first | apply hK | ((iterate 1 (clear hK K)); apply hK) | ((iterate 2 (clear hK K)); apply hK) | ((iterate 3 (clear hK K)); apply hK) | ((iterate 4 (clear hK K)); apply hK) | ((iterate 5 (clear hK K)); apply hK)); clear hK K) | (refine And.intro ?_ ?_)
        all_goals
          refine ret_pure ?_; simp only [resL_tmp, resL_nil, tupOf, go_sem, hD]
      have ee : (df.toList == t.toList) = true := barr_eq.2 c4
      rw [if_pos ⟨q0, ql, c3, c4⟩] at hC
      repeat' first | (with_reducible refine And.intro (by omega) ?_) | (refine SW.seq_k fun K hK => ?_) | (refine SW.block ?_) | ((first | refine SW.region ?_ | refine SW.regionZ (id := 3) (Checked.mixed Tryd.checked) ((.one 0 [0, 1, 5, 6] (.one 1 [1, 5, 6] (.one 2 [2, 3, 4, 5, 6] (.one 3 [3, 4, 5, 6] (.one 4 [4, 5, 6] (.one 5 [5, 6] (.one 6 [6] .done))))))) : OZ) (by kernel_rfl) ?_ | refine SW.regionZ (id := 13) (Checked.mixed Tryd.checked) ((.one 0 [0, 1, 2, 3, 4, 5, 6, 7, 8, 9, 10, 11, 12, 13, 14, 15, 16, 17, 18, 19, 20] (.one 1 [1, 2, 3, 4, 5, 6, 7, 8, 9, 10, 11, 12, 13, 14, 15, 16, 17, 18, 19, 20] (.one 2 [2, 3, 4, 5, 6, 7, 8, 9, 10, 11, 12, 13, 14, 15, 16, 17, 18, 19, 20] (.one 3 [3, 7, 8, 9, 10, 11, 12, 13, 14, 15, 16, 17, 18, 19, 20] (.one 4 [4, 5, 6, 7, 8, 9, 10, 11, 12, 13, 14, 15, 16, 17, 18, 19, 20] (.one 5 [5, 6, 7, 8, 9, 10, 11, 12, 13, 14, 15, 16, 17, 18, 19, 20] (.one 6 [6, 7, 8, 9, 10, 11, 12, 13, 14, 15, 16, 17, 18, 19, 20] (.one 7 [7, 8, 9, 10, 11, 12, 13, 14, 15, 16, 17, 18, 19, 20] (.one 8 [8, 9, 10, 11, 12, 13, 14, 15, 16, 17, 18, 19, 20] (.one 9 [9, 10, 11, 12, 13, 14, 15, 16, 17, 18, 19, 20] (.one 10 [10, 11, 13, 14, 19, 20] (.one 11 [11, 13, 14, 19, 20] (.one 12 [12, 13, 14, 19, 20] (.one 13 [13, 14, 19, 20] (.one 14 [14, 19, 20] (.one 15 [15, 17, 18, 19, 20] (.one 16 [16, 17, 18, 19, 20] (.one 17 [17, 18, 19, 20] (.one 18 [18, 19, 20] (.one 19 [19, 20] (.one 20 [20] .done))))))))))))))))))))) : OZ) (by kernel_rfl) ?_ | refine SW.regionD (Checked.mixed Tryd.checked) (by kernel_rfl) ?_ | refine SW.cond ?_ | refine SW.skip ?_ | refine SW.exit ?_ | refine SW.ret ?_ | (refine allF_i fun b hb => ?_; replace hD := And.intro hb hD; clear hb; try simp only [fresh_cons, fresh_nil, and_true, ne_eq, neF] at hD) | simp only [appK, appOsK]); try simp only [go_sem, hD, hli, ie, i0, w1, fp, c1, c2, c3i, fd, q0, ql, ee, true_implies]) | (refine And.intro (by omega) ?_) | (refine ifI (fun hc => ?_) (fun hc => ?_) <;> first | (exfalso; omega) | skip) | ((first | apply hK | ((iterate 1 (clear hK K)); apply hK) | ((iterate 2 (clear hK K)); apply hK) | ((iterate 3 (clear hK K)); apply hK) | ((iterate 4 (clear hK K)); apply hK) | ((iterate 5 (clear hK K)); apply hK)); clear hK K) | (refine And.intro ?_ ?_)
      obtain ⟨db, rfl⟩ : ∃ x, x = b := ⟨_, rfl⟩
      obtain ⟨pb, rfl⟩ : ∃ x, x = b := ⟨_, rfl⟩
      have e1 : ¬ db = gb := by simp [hD]
      have e2 : ¬ gb = db := by simp [hD]
      have hps : ps = [] := List.eq_nil_of_length_eq_zero c3
      subst hps
      have hC2 : R = chkP l gt gr (pr.drop (i + 1)) dt [] := by rw [hC]; simp [stpC]
      clear hC
      refine Ab.SW.le (St.le_pick [(db, .svs (dC ⟨df, dl, dt, dr⟩)), (gb, .svs (dC ⟨gf, [], gt, gr⟩))] ?_ ?_) ?_
      · repeat' (first | exact (fun x hx => (List.not_mem_nil hx).elim) | refine List.forall_mem_cons.2 ⟨?_, ?_⟩ | exact List.mem_cons_self | apply List.mem_cons_of_mem)
      · simp [fresh_cons, fresh_nil, hD]
      clear hD
      have hD := And.intro (eq_false e1) (eq_false e2)
      obtain ⟨J, hJ⟩ : ∃ J : Nat → St → Prop, ∀ m S, J m S ↔ S = ⟨[(1, DpL l), (6, .op gb 0), (8, SB false), (10, SN), (13, .op db 0), (26, PL pr), (27, I64 pr.length), (28, I64 i), (66, IL []), (67, I64 0), (68, I64 0)], [(db, .svs (dC ⟨df, dl, dt, dr⟩)), (gb, .svs (dC ⟨gf, [], gt, gr⟩))]⟩ := ⟨fun m S => _, fun _ _ => Iff.rfl⟩
      refine SW.loop' J 0 ((hJ _ _).2 rfl) (by repeat' (first | exact rfl | exact trivial | exact int_eq (by omega) | exact int_eq (by (rw [i64_wrap] <;> omega)) | constructor)) ?_
      intro m S hIn
      obtain rfl := (hJ _ _).1 hIn
      clear hIn
      repeat' first | (with_reducible refine And.intro (by omega) ?_) | (refine SW.seq_k fun K hK => ?_) | (refine SW.block ?_) | ((first | refine SW.region ?_ | refine SW.regionZ (id := 3) (Checked.mixed Tryd.checked) ((.one 0 [0, 1, 5, 6] (.one 1 [1, 5, 6] (.one 2 [2, 3, 4, 5, 6] (.one 3 [3, 4, 5, 6] (.one 4 [4, 5, 6] (.one 5 [5, 6] (.one 6 [6] .done))))))) : OZ) (by kernel_rfl) ?_ | refine SW.regionZ (id := 13) (Checked.mixed Tryd.checked) ((.one 0 [0, 1, 2, 3, 4, 5, 6, 7, 8, 9, 10, 11, 12, 13, 14, 15, 16, 17, 18, 19, 20] (.one 1 [1, 2, 3, 4, 5, 6, 7, 8, 9, 10, 11, 12, 13, 14, 15, 16, 17, 18, 19, 20] (.one 2 [2, 3, 4, 5, 6, 7, 8, 9, 10, 11, 12, 13, 14, 15, 16, 17, 18, 19, 20] (.one 3 [3, 7, 8, 9, 10, 11, 12, 13, 14, 15, 16, 17, 18, 19, 20] (.one 4 [4, 5, 6, 7, 8, 9, 10, 11, 12, 13, 14, 15, 16, 17, 18, 19, 20] (.one 5 [5, 6, 7, 8, 9, 10, 11, 12, 13, 14, 15, 16, 17, 18, 19, 20] (.one 6 [6, 7, 8, 9, 10, 11, 12, 13, 14, 15, 16, 17, 18, 19, 20] (.one 7 [7, 8, 9, 10, 11, 12, 13, 14, 15, 16, 17, 18, 19, 20] (.one 8 [8, 9, 10, 11, 12, 13, 14, 15, 16, 17, 18, 19, 20] (.one 9 [9, 10, 11, 12, 13, 14, 15, 16, 17, 18, 19, 20] (.one 10 [10, 11, 13, 14, 19, 20] (.one 11 [11, 13, 14, 19, 20] (.one 12 [12, 13, 14, 19, 20] (.one 13 [13, 14, 19, 20] (.one 14 [14, 19, 20] (.one 15 [15, 17, 18, 19, 20] (.one 16 [16, 17, 18, 19, 20] (.one 17 [17, 18, 19, 20] (.one 18 [18, 19, 20] (.one 19 [19, 20] (.one 20 [20] .done))))))))))))))))))))) : OZ) (by kernel_rfl) ?_ | refine SW.regionD (Checked.mixed Tryd.checked) (by kernel_rfl) ?_ | refine SW.cond ?_ | refine SW.skip ?_ | refine SW.exit ?_ | refine SW.ret ?_ | (refine allF_i fun b hb => ?_; replace hD := And.intro hb hD; clear hb; try simp only [fresh_cons, fresh_nil, and_true, ne_eq, neF] at hD) | simp only [appK, appOsK]); try simp only [go_sem, hD, w1, true_implies]) | (refine And.intro (by omega) ?_) | (refine ifI (fun hc => ?_) (fun hc => ?_) <;> first | (exfalso; omega) | skip) | ((first | apply hK | ((iterate 1 (clear hK K)); apply hK) | ((iterate 2 (clear hK K)); apply hK) | ((iterate 3 (clear hK K)); apply hK) | ((iterate 4 (clear hK K)); apply hK) | ((iterate 5 (clear hK K)); apply hK)); clear hK K) | (refine And.intro ?_ ?_)
      all_goals
        refine Rnd.le (St.le_pick [(gb, .svs (dC ⟨gf, [], gt, gr⟩))] ?_ ?_) (Rnd.sub (pr.length - (i + 1)) (by omega) ((hI _ _).2 ⟨i + 1, dt, rfl, by omega, hC2, rfl⟩) (by repeat' (first | exact rfl | exact trivial | exact int_eq (by omega) | exact int_eq (by (rw [i64_wrap] <;> omega)) | constructor)))
        · repeat' (first | exact (fun x hx => (List.not_mem_nil hx).elim) | refine List.forall_mem_cons.2 ⟨?_, ?_⟩ | exact List.mem_cons_self | apply List.mem_cons_of_mem)
        · simp [fresh_cons, fresh_nil, hD]
    · have hli : ¬ ((i : Nat) : Int) < (((pr.length) : Nat) : Int) := by omega
      rw [List.drop_of_length_le (by omega)] at hC
      have hC2 : R = (decide (t = gt) && decide (([] : List Int) = gr)) := hC
      clear hC
      refine Ab.SW.le (St.le_say (i := 10) (v := IL []) (fun E u hr => Rep.fl_nil hr)) ?_
      have c := equal_i ([] : List Int) gr (by simp) hgr gr.length rfl (iF gr) (fun j hj => rfl)
      generalize decide (([] : List Int) = gr) = w at *
      by_cases e : t = gt
      · have ee : (t.toList == gt.toList) = true := barr_eq.2 e
        rw [decide_eq_true e, Bool.true_and] at hC2
        subst hC2
        repeat' first | (with_reducible refine And.intro (by omega) ?_) | (refine SW.seq_k fun K hK => ?_) | (refine SW.block ?_) | ((first | refine SW.region ?_ | refine SW.regionZ (id := 3) (Checked.mixed Tryd.checked) ((.one 0 [0, 1, 5, 6] (.one 1 [1, 5, 6] (.one 2 [2, 3, 4, 5, 6] (.one 3 [3, 4, 5, 6] (.one 4 [4, 5, 6] (.one 5 [5, 6] (.one 6 [6] .done))))))) : OZ) (by kernel_rfl) ?_ | refine SW.regionZ (id := 13) (Checked.mixed Tryd.checked) ((.one 0 [0, 1, 2, 3, 4, 5, 6, 7, 8, 9, 10, 11, 12, 13, 14, 15, 16, 17, 18, 19, 20] (.one 1 [1, 2, 3, 4, 5, 6, 7, 8, 9, 10, 11, 12, 13, 14, 15, 16, 17, 18, 19, 20] (.one 2 [2, 3, 4, 5, 6, 7, 8, 9, 10, 11, 12, 13, 14, 15, 16, 17, 18, 19, 20] (.one 3 [3, 7, 8, 9, 10, 11, 12, 13, 14, 15, 16, 17, 18, 19, 20] (.one 4 [4, 5, 6, 7, 8, 9, 10, 11, 12, 13, 14, 15, 16, 17, 18, 19, 20] (.one 5 [5, 6, 7, 8, 9, 10, 11, 12, 13, 14, 15, 16, 17, 18, 19, 20] (.one 6 [6, 7, 8, 9, 10, 11, 12, 13, 14, 15, 16, 17, 18, 19, 20] (.one 7 [7, 8, 9, 10, 11, 12, 13, 14, 15, 16, 17, 18, 19, 20] (.one 8 [8, 9, 10, 11, 12, 13, 14, 15, 16, 17, 18, 19, 20] (.one 9 [9, 10, 11, 12, 13, 14, 15, 16, 17, 18, 19, 20] (.one 10 [10, 11, 13, 14, 19, 20] (.one 11 [11, 13, 14, 19, 20] (.one 12 [12, 13, 14, 19, 20] (.one 13 [13, 14, 19, 20] (.one 14 [14, 19, 20] (.one 15 [15, 17, 18, 19, 20] (.one 16 [16, 17, 18, 19, 20] (.one 17 [17, 18, 19, 20] (.one 18 [18, 19, 20] (.one 19 [19, 20] (.one 20 [20] .done))))))))))))))))))))) : OZ) (by kernel_rfl) ?_ | refine SW.regionD (Checked.mixed Tryd.checked) (by kernel_rfl) ?_ | refine SW.cond ?_ | refine SW.skip ?_ | refine SW.exit ?_ | refine SW.ret ?_ | refine Call.of_pure (c) ?_ | refine ⟨_, c, ?_⟩ | (refine allF_i fun b hb => ?_; replace hD := And.intro hb hD; clear hb; try simp only [fresh_cons, fresh_nil, and_true, ne_eq, neF] at hD) | simp only [appK, appOsK]); try simp only [go_sem, hD, hli, ee, true_implies]) | (refine And.intro (by omega) ?_) | (refine ifI (fun hc => ?_) (fun hc => ?_) <;> first | (exfalso; omega) | skip) | ((first | apply hK | ((iterate 1 (clear hK K)); apply hK) | ((iterate 2 (clear hK K)); apply hK) | ((iterate 3 (clear hK K)); apply hK) | ((iterate 4 (clear hK K)); apply hK) | ((iterate 5 (clear hK K)); apply hK)); clear hK K) | (refine And.intro ?_ ?_)
        all_goals
          refine ret_pure ?_; simp only [resL_tmp, resL_nil, tupOf, go_sem, hD]
      · have ee : (t.toList == gt.toList) = false := by rw [Bool.eq_false_iff]; exact fun h => e (barr_eq.1 h)
        rw [decide_eq_false e, Bool.false_and] at hC2
        subst hC2
        repeat' first | (with_reducible refine And.intro (by omega) ?_) | (refine SW.seq_k fun K hK => ?_) | (refine SW.block ?_) | ((first | refine SW.region ?_ | refine SW.regionZ (id := 3) (Checked.mixed Tryd.checked) ((.one 0 [0, 1, 5, 6] (.one 1 [1, 5, 6] (.one 2 [2, 3, 4, 5, 6] (.one 3 [3, 4, 5, 6] (.one 4 [4, 5, 6] (.one 5 [5, 6] (.one 6 [6] .done))))))) : OZ) (by kernel_rfl) ?_ | refine SW.regionZ (id := 13) (Checked.mixed Tryd.checked) ((.one 0 [0, 1, 2, 3, 4, 5, 6, 7, 8, 9, 10, 11, 12, 13, 14, 15, 16, 17, 18, 19, 20] (.one 1 [1, 2, 3, 4, 5, 6, 7, 8, 9, 10, 11, 12, 13, 14, 15, 16, 17, 18, 19, 20] (.one 2 [2, 3, 4, 5, 6, 7, 8, 9, 10, 11, 12, 13, 14, 15, 16, 17, 18, 19, 20] (.one 3 [3, 7, 8, 9, 10, 11, 12, 13, 14, 15, 16, 17, 18, 19, 20] (.one 4 [4, 5, 6, 7, 8, 9, 10, 11, 12, 13, 14, 15, 16, 17, 18, 19, 20] (.one 5 [5, 6, 7, 8, 9, 10, 11, 12, 13, 14, 15, 16, 17, 18, 19, 20] (.one 6 [6, 7, 8, 9, 10, 11, 12, 13, 14, 15, 16, 17, 18, 19, 20] (.one 7 [7, 8, 9, 10, 11, 12, 13, 14, 15, 16, 17, 18, 19, 20] (.one 8 [8, 9, 10, 11, 12, 13, 14, 15, 16, 17, 18, 19, 20] (.one 9 [9, 10, 11, 12, 13, 14, 15, 16, 17, 18, 19, 20] (.one 10 [10, 11, 13, 14, 19, 20] (.one 11 [11, 13, 14, 19, 20] (.one 12 [12, 13, 14, 19, 20] (.one 13 [13, 14, 19, 20] (.one 14 [14, 19, 20] (.one 15 [15, 17, 18, 19, 20] (.one 16 [16, 17, 18, 19, 20] (.one 17 [17, 18, 19, 20] (.one 18 [18, 19, 20] (.one 19 [19, 20] (.one 20 [20] .done))))))))))))))))))))) : OZ) (by kernel_rfl) ?_ | refine SW.regionD (Checked.mixed Tryd.checked) (by kernel_rfl) ?_ | refine SW.cond ?_ | refine SW.skip ?_ | refine SW.exit ?_ | refine SW.ret ?_ | refine Call.of_pure (c) ?_ | refine ⟨_, c, ?_⟩ | (refine allF_i fun b hb => ?_; replace hD := And.intro hb hD; clear hb; try simp only [fresh_cons, fresh_nil, and_true, ne_eq, neF] at hD) | simp only [appK, appOsK]); try simp only [go_sem, hD, hli, ee, true_implies]) | (refine And.intro (by omega) ?_) | (refine ifI (fun hc => ?_) (fun hc => ?_) <;> first | (exfalso; omega) | skip) | ((first | apply hK | ((iterate 1 (clear hK K)); apply hK) | ((iterate 2 (clear hK K)); apply hK) | ((iterate 3 (clear hK K)); apply hK) | ((iterate 4 (clear hK K)); apply hK) | ((iterate 5 (clear hK K)); apply hK)); clear hK K) | (refine And.intro ?_ ?_)
        all_goals
          refine ret_pure ?_; simp only [resL_tmp, resL_nil, tupOf, go_sem, hD]

  · apply hK2
    clear hK2 K
    refine Ab.SW.le hle ?_
    clear hle
    have hD := And.intro (eq_false k1) (eq_false k2)
    repeat' first | (with_reducible refine And.intro (by omega) ?_) | (refine SW.seq_k fun K hK => ?_) | (refine SW.block ?_) | ((first | refine SW.region ?_ | refine SW.regionD (Checked.mixed Tryd.checked) (by kernel_rfl) ?_ | refine SW.cond ?_ | refine SW.skip ?_ | refine SW.exit ?_ | refine SW.ret ?_ | (refine allF_i fun b hb => ?_; replace hD := And.intro hb hD; clear hb; try simp only [fresh_cons, fresh_nil, and_true, ne_eq, neF] at hD) | simp only [appK, appOsK]); try simp only [go_sem, hD]) | (refine And.intro (by omega) ?_) | (refine ifI (fun hc => ?_) (fun hc => ?_) <;> first | (exfalso; omega) | skip) | ((first | apply hK | ((iterate 1 (clear hK K)); apply hK) | ((iterate 2 (clear hK K)); apply hK) | ((iterate 3 (clear hK K)); apply hK) | ((iterate 4 (clear hK K)); apply hK) | ((iterate 5 (clear hK K)); apply hK)); clear hK K)
    obtain ⟨I, hI⟩ : ∃ I : Nat → St → Prop, ∀ k S, I k S ↔ (∃ (i : Nat) (t : ByteArray) (a : List Int), k = pr.length - i ∧ i ≤ pr.length ∧ R = chkP l gt gr (pr.drop i) t a ∧ a.length = gl.length ∧ S = ⟨[(1, DpL l), (6, .op gb 0), (8, SB false), (9, Str t), (10, .os ab 0 a.length 1), (26, PL pr), (27, I64 pr.length), (28, I64 i)], [(ab, .svs (a.map fun x => I64 x)), (gb, .svs (dC ⟨gf, gl, gt, gr⟩))]⟩) := ⟨fun k S => _, fun _ _ => Iff.rfl⟩
    refine SW.loop' I (pr.length) ((hI _ _).2 ⟨0, gf, gl, rfl, Nat.zero_le _, hR, rfl, rfl⟩) (by repeat' (first | exact rfl | exact trivial | exact int_eq (by omega) | exact int_eq (by (rw [i64_wrap] <;> omega)) | constructor)) ?_
    intro k S hIn
    obtain ⟨i, t, a, rfl, hi, hC, hal, rfl⟩ := (hI _ _).1 hIn
    clear hIn
    have ie : ((i : Nat) : Int).toNat = i := Int.toNat_natCast _
    have i0 : (0 : Int) ≤ ((i : Nat) : Int) := by omega
    clear hR
    have hD := And.intro (eq_false k1) (eq_false k2)
    by_cases hlt : i < pr.length
    · have hli : ((i : Nat) : Int) < (((pr.length) : Nat) : Int) := by omega
      have w1 : IntKind.i64.wrap ((i : Int) + 1) = ((i + 1 : Nat) : Int) := by rw [i64_wrap (by omega) (by omega)]; omega
      rw [chkP_drop hlt] at hC
      have fp : pF pr i = pC (pr.getD i p0) := rfl
      have hpl := hpr.2 _ (getD_mem' p0 hlt)
      generalize pr.getD i p0 = p at *
      obtain ⟨q, ps⟩ := p
      simp only at hC hpl
      by_cases c1 : q < 0
      · rw [if_neg (by omega)] at hC
        subst hC
        repeat' first | (with_reducible refine And.intro (by omega) ?_) | (refine SW.seq_k fun K hK => ?_) | (refine SW.block ?_) | ((first | refine SW.region ?_ | refine SW.regionZ (id := 3) (Checked.mixed Tryd.checked) ((.one 0 [0, 1, 5, 6] (.one 1 [1, 5, 6] (.one 2 [2, 3, 4, 5, 6] (.one 3 [3, 4, 5, 6] (.one 4 [4, 5, 6] (.one 5 [5, 6] (.one 6 [6] .done))))))) : OZ) (by kernel_rfl) ?_ | refine SW.regionZ (id := 13) (Checked.mixed Tryd.checked) ((.one 0 [0, 1, 2, 3, 4, 5, 6, 7, 8, 9, 10, 11, 12, 13, 14, 15, 16, 17, 18, 19, 20] (.one 1 [1, 2, 3, 4, 5, 6, 7, 8, 9, 10, 11, 12, 13, 14, 15, 16, 17, 18, 19, 20] (.one 2 [2, 3, 4, 5, 6, 7, 8, 9, 10, 11, 12, 13, 14, 15, 16, 17, 18, 19, 20] (.one 3 [3, 7, 8, 9, 10, 11, 12, 13, 14, 15, 16, 17, 18, 19, 20] (.one 4 [4, 5, 6, 7, 8, 9, 10, 11, 12, 13, 14, 15, 16, 17, 18, 19, 20] (.one 5 [5, 6, 7, 8, 9, 10, 11, 12, 13, 14, 15, 16, 17, 18, 19, 20] (.one 6 [6, 7, 8, 9, 10, 11, 12, 13, 14, 15, 16, 17, 18, 19, 20] (.one 7 [7, 8, 9, 10, 11, 12, 13, 14, 15, 16, 17, 18, 19, 20] (.one 8 [8, 9, 10, 11, 12, 13, 14, 15, 16, 17, 18, 19, 20] (.one 9 [9, 10, 11, 12, 13, 14, 15, 16, 17, 18, 19, 20] (.one 10 [10, 11, 13, 14, 19, 20] (.one 11 [11, 13, 14, 19, 20] (.one 12 [12, 13, 14, 19, 20] (.one 13 [13, 14, 19, 20] (.one 14 [14, 19, 20] (.one 15 [15, 17, 18, 19, 20] (.one 16 [16, 17, 18, 19, 20] (.one 17 [17, 18, 19, 20] (.one 18 [18, 19, 20] (.one 19 [19, 20] (.one 20 [20] .done))))))))))))))))))))) : OZ) (by kernel_rfl) ?_ | refine SW.regionD (Checked.mixed Tryd.checked) (by kernel_rfl) ?_ | refine SW.cond ?_ | refine SW.skip ?_ | refine SW.exit ?_ | refine SW.ret ?_ | (refine allF_i fun b hb => ?_; replace hD := And.intro hb hD; clear hb; try simp only [fresh_cons, fresh_nil, and_true, ne_eq, neF] at hD) | simp only [appK, appOsK]); try simp only [go_sem, hD, hli, ie, i0, w1, fp, c1, true_implies]) | (refine And.intro (by omega) ?_) | (refine ifI (fun hc => ?_) (fun hc => ?_) <;> first | (exfalso; omega) | skip) | ((first | apply hK | ((iterate 1 (clear hK K)); apply hK) | ((iterate 2 (clear hK K)); apply hK) | ((iterate 3 (clear hK K)); apply hK) | ((iterate 4 (clear hK K)); apply hK) | ((iterate 5 (clear hK K)); apply hK)); clear hK K) | (refine And.intro ?_ ?_)
        all_goals
          refine ret_pure ?_; simp only [resL_tmp, resL_nil, tupOf, go_sem, hD]
      by_cases c2 : ((l.length : Nat) : Int) ≤ q
      · rw [if_neg (by omega)] at hC
        subst hC
        repeat' first | (with_reducible refine And.intro (by omega) ?_) | (refine SW.seq_k fun K hK => ?_) | (refine SW.block ?_) | ((first | refine SW.region ?_ | refine SW.regionZ (id := 3) (Checked.mixed Tryd.checked) ((.one 0 [0, 1, 5, 6] (.one 1 [1, 5, 6] (.one 2 [2, 3, 4, 5, 6] (.one 3 [3, 4, 5, 6] (.one 4 [4, 5, 6] (.one 5 [5, 6] (.one 6 [6] .done))))))) : OZ) (by kernel_rfl) ?_ | refine SW.regionZ (id := 13) (Checked.mixed Tryd.checked) ((.one 0 [0, 1, 2, 3, 4, 5, 6, 7, 8, 9, 10, 11, 12, 13, 14, 15, 16, 17, 18, 19, 20] (.one 1 [1, 2, 3, 4, 5, 6, 7, 8, 9, 10, 11, 12, 13, 14, 15, 16, 17, 18, 19, 20] (.one 2 [2, 3, 4, 5, 6, 7, 8, 9, 10, 11, 12, 13, 14, 15, 16, 17, 18, 19, 20] (.one 3 [3, 7, 8, 9, 10, 11, 12, 13, 14, 15, 16, 17, 18, 19, 20] (.one 4 [4, 5, 6, 7, 8, 9, 10, 11, 12, 13, 14, 15, 16, 17, 18, 19, 20] (.one 5 [5, 6, 7, 8, 9, 10, 11, 12, 13, 14, 15, 16, 17, 18, 19, 20] (.one 6 [6, 7, 8, 9, 10, 11, 12, 13, 14, 15, 16, 17, 18, 19, 20] (.one 7 [7, 8, 9, 10, 11, 12, 13, 14, 15, 16, 17, 18, 19, 20] (.one 8 [8, 9, 10, 11, 12, 13, 14, 15, 16, 17, 18, 19, 20] (.one 9 [9, 10, 11, 12, 13, 14, 15, 16, 17, 18, 19, 20] (.one 10 [10, 11, 13, 14, 19, 20] (.one 11 [11, 13, 14, 19, 20] (.one 12 [12, 13, 14, 19, 20] (.one 13 [13, 14, 19, 20] (.one 14 [14, 19, 20] (.one 15 [15, 17, 18, 19, 20] (.one 16 [16, 17, 18, 19, 20] (.one 17 [17, 18, 19, 20] (.one 18 [18, 19, 20] (.one 19 [19, 20] (.one 20 [20] .done))))))))))))))))))))) : OZ) (by kernel_rfl) ?_ | refine SW.regionD (Checked.mixed Tryd.checked) (by kernel_rfl) ?_ | refine SW.cond ?_ | refine SW.skip ?_ | refine SW.exit ?_ | refine SW.ret ?_ | (refine allF_i fun b hb => ?_; replace hD := And.intro hb hD; clear hb; try simp only [fresh_cons, fresh_nil, and_true, ne_eq, neF] at hD) | simp only [appK, appOsK]); try simp only [go_sem, hD, hli, ie, i0, w1, fp, c1, c2, true_implies]) | (refine And.intro (by omega) ?_) | (refine ifI (fun hc => ?_) (fun hc => ?_) <;> first | (exfalso; omega) | skip) | ((first | apply hK | ((iterate 1 (clear hK K)); apply hK) | ((iterate 2 (clear hK K)); apply hK) | ((iterate 3 (clear hK K)); apply hK) | ((iterate 4 (clear hK K)); apply hK) | ((iterate 5 (clear hK K)); apply hK)); clear hK K) | (refine And.intro ?_ ?_)
        all_goals
          refine ret_pure ?_; simp only [resL_tmp, resL_nil, tupOf, go_sem, hD]
      by_cases c3 : ps.length = a.length
      rotate_left
      · rw [if_neg (fun x => c3 x.2.2.1)] at hC
        subst hC
        have c3i : ¬ ((ps.length : Nat) : Int) = ((a.length : Nat) : Int) := by omega
        repeat' first | (with_reducible refine And.intro (by omega) ?_) | (refine SW.seq_k fun K hK => ?_) | (refine SW.block ?_) | ((first | refine SW.region ?_ | refine SW.regionZ (id := 3) (Checked.mixed Tryd.checked) ((.one 0 [0, 1, 5, 6] (.one 1 [1, 5, 6] (.one 2 [2, 3, 4, 5, 6] (.one 3 [3, 4, 5, 6] (.one 4 [4, 5, 6] (.one 5 [5, 6] (.one 6 [6] .done))))))) : OZ) (by kernel_rfl) ?_ | refine SW.regionZ (id := 13) (Checked.mixed Tryd.checked) ((.one 0 [0, 1, 2, 3, 4, 5, 6, 7, 8, 9, 10, 11, 12, 13, 14, 15, 16, 17, 18, 19, 20] (.one 1 [1, 2, 3, 4, 5, 6, 7, 8, 9, 10, 11, 12, 13, 14, 15, 16, 17, 18, 19, 20] (.one 2 [2, 3, 4, 5, 6, 7, 8, 9, 10, 11, 12, 13, 14, 15, 16, 17, 18, 19, 20] (.one 3 [3, 7, 8, 9, 10, 11, 12, 13, 14, 15, 16, 17, 18, 19, 20] (.one 4 [4, 5, 6, 7, 8, 9, 10, 11, 12, 13, 14, 15, 16, 17, 18, 19, 20] (.one 5 [5, 6, 7, 8, 9, 10, 11, 12, 13, 14, 15, 16, 17, 18, 19, 20] (.one 6 [6, 7, 8, 9, 10, 11, 12, 13, 14, 15, 16, 17, 18, 19, 20] (.one 7 [7, 8, 9, 10, 11, 12, 13, 14, 15, 16, 17, 18, 19, 20] (.one 8 [8, 9, 10, 11, 12, 13, 14, 15, 16, 17, 18, 19, 20] (.one 9 [9, 10, 11, 12, 13, 14, 15, 16, 17, 18, 19, 20] (.one 10 [10, 11, 13, 14, 19, 20] (.one 11 [11, 13, 14, 19, 20] (.one 12 [12, 13, 14, 19, 20] (.one 13 [13, 14, 19, 20] (.one 14 [14, 19, 20] (.one 15 [15, 17, 18, 19, 20] (.one 16 [16, 17, 18, 19, 20] (.one 17 [17, 18, 19, 20] (.one 18 [18, 19, 20] (.one 19 [19, 20] (.one 20 [20] .done))))))))))))))))))))) : OZ) (by kernel_rfl) ?_ | refine SW.regionD (Checked.mixed Tryd.checked) (by kernel_rfl) ?_ | refine SW.cond ?_ | refine SW.skip ?_ | refine SW.exit ?_ | refine SW.ret ?_ | (refine allF_i fun b hb => ?_; replace hD := And.intro hb hD; clear hb; try simp only [fresh_cons, fresh_nil, and_true, ne_eq, neF] at hD) | simp only [appK, appOsK]); try simp only [go_sem, hD, hli, ie, i0, w1, fp, c1, c2, c3i, true_implies]) | (refine And.intro (by omega) ?_) | (refine ifI (fun hc => ?_) (fun hc => ?_) <;> first | (exfalso; omega) | skip) | ((first | apply hK | ((iterate 1 (clear hK K)); apply hK) | ((iterate 2 (clear hK K)); apply hK) | ((iterate 3 (clear hK K)); apply hK) | ((iterate 4 (clear hK K)); apply hK) | ((iterate 5 (clear hK K)); apply hK)); clear hK K) | (refine And.intro ?_ ?_)
        all_goals
          refine ret_pure ?_; simp only [resL_tmp, resL_nil, tupOf, go_sem, hD]
      have c3i : ((ps.length : Nat) : Int) = ((a.length : Nat) : Int) := by omega
      have dm := getD_mem' d0 (show q.toNat < l.length by omega)
      have fd : dpF l q.toNat = dC (l.getD q.toNat d0) := rfl
      have q0 : 0 ≤ q := by omega
      have ql : q < ((l.length : Nat) : Int) := by omega
      have hlrd := hlr _ dm
      have hdl := hok _ dm
      generalize l.getD q.toNat d0 = d at *
      obtain ⟨df, dl, dt, dr⟩ := d
      simp only at hC
      replace hlrd : dl.length = dr.length := hlrd
      replace hdl : dl.length ≤ 1000000 := hdl
      by_cases c4 : df = t
      rotate_left
      · rw [if_neg (fun x => c4 x.2.2.2)] at hC
        subst hC
        have ee : (df.toList == t.toList) = false := by rw [Bool.eq_false_iff]; exact fun h => c4 (barr_eq.1 h)
        repeat' first | (with_reducible refine And.intro (by omega) ?_) | (refine SW.seq_k fun K hK => ?_) | (refine SW.block ?_) | ((first | refine SW.region ?_ | refine SW.regionZ (id := 3) (Checked.mixed Tryd.checked) ((.one 0 [0, 1, 5, 6] (.one 1 [1, 5, 6] (.one 2 [2, 3, 4, 5, 6] (.one 3 [3, 4, 5, 6] (.one 4 [4, 5, 6] (.one 5 [5, 6] (.one 6 [6] .done))))))) : OZ) (by kernel_rfl) ?_ | refine SW.regionZ (id := 13) (Checked.mixed Tryd.checked) ((.one 0 [0, 1, 2, 3, 4, 5, 6, 7, 8, 9, 10, 11, 12, 13, 14, 15, 16, 17, 18, 19, 20] (.one 1 [1, 2, 3, 4, 5, 6, 7, 8, 9, 10, 11, 12, 13, 14, 15, 16, 17, 18, 19, 20] (.one 2 [2, 3, 4, 5, 6, 7, 8, 9, 10, 11, 12, 13, 14, 15, 16, 17, 18, 19, 20] (.one 3 [3, 7, 8, 9, 10, 11, 12, 13, 14, 15, 16, 17, 18, 19, 20] (.one 4 [4, 5, 6, 7, 8, 9, 10, 11, 12, 13, 14, 15, 16, 17, 18, 19, 20] (.one 5 [5, 6, 7, 8, 9, 10, 11, 12, 13, 14, 15, 16, 17, 18, 19, 20] (.one 6 [6, 7, 8, 9, 10, 11, 12, 13, 14, 15, 16, 17, 18, 19, 20] (.one 7 [7, 8, 9, 10, 11, 12, 13, 14, 15, 16, 17, 18, 19, 20] (.one 8 [8, 9, 10, 11, 12, 13, 14, 15, 16, 17, 18, 19, 20] (.one 9 [9, 10, 11, 12, 13, 14, 15, 16, 17, 18, 19, 20] (.one 10 [10, 11, 13, 14, 19, 20] (.one 11 [11, 13, 14, 19, 20] (.one 12 [12, 13, 14, 19, 20] (.one 13 [13, 14, 19, 20] (.one 14 [14, 19, 20] (.one 15 [15, 17, 18, 19, 20] (.one 16 [16, 17, 18, 19, 20] (.one 17 [17, 18, 19, 20] (.one 18 [18, 19, 20] (.one 19 [19, 20] (.one 20 [20] .done))))))))))))))))))))) : OZ) (by kernel_rfl) ?_ | refine SW.regionD (Checked.mixed Tryd.checked) (by kernel_rfl) ?_ | refine SW.cond ?_ | refine SW.skip ?_ | refine SW.exit ?_ | refine SW.ret ?_ | (refine allF_i fun b hb => ?_; replace hD := And.intro hb hD; clear hb; try simp only [fresh_cons, fresh_nil, and_true, ne_eq, neF] at hD) | simp only [appK, appOsK]); try simp only [go_sem, hD, hli, ie, i0, w1, fp, c1, c2, c3i, fd, q0, ql, ee, true_implies]) | (refine And.intro (by omega) ?_) | (refine ifI (fun hc => ?_) (fun hc => ?_) <;> first | (exfalso; omega) | skip) | ((first | apply hK | ((iterate 1 (clear hK K)); apply hK) | ((iterate 2 (clear hK K)); apply hK) | ((iterate 3 (clear hK K)); apply hK) | ((iterate 4 (clear hK K)); apply hK) | ((iterate 5 (clear hK K)); apply hK)); clear hK K) | (refine And.intro ?_ ?_)
        all_goals
          refine ret_pure ?_; simp only [resL_tmp, resL_nil, tupOf, go_sem, hD]
      have ee : (df.toList == t.toList) = true := barr_eq.2 c4
      rw [if_pos ⟨q0, ql, c3, c4⟩] at hC
      repeat' first | (with_reducible refine And.intro (by omega) ?_) | (refine SW.seq_k fun K hK => ?_) | (refine SW.block ?_) | ((first | refine SW.region ?_ | refine SW.regionZ (id := 3) (Checked.mixed Tryd.checked) ((.one 0 [0, 1, 5, 6] (.one 1 [1, 5, 6] (.one 2 [2, 3, 4, 5, 6] (.one 3 [3, 4, 5, 6] (.one 4 [4, 5, 6] (.one 5 [5, 6] (.one 6 [6] .done))))))) : OZ) (by kernel_rfl) ?_ | refine SW.regionZ (id := 13) (Checked.mixed Tryd.checked) ((.one 0 [0, 1, 2, 3, 4, 5, 6, 7, 8, 9, 10, 11, 12, 13, 14, 15, 16, 17, 18, 19, 20] (.one 1 [1, 2, 3, 4, 5, 6, 7, 8, 9, 10, 11, 12, 13, 14, 15, 16, 17, 18, 19, 20] (.one 2 [2, 3, 4, 5, 6, 7, 8, 9, 10, 11, 12, 13, 14, 15, 16, 17, 18, 19, 20] (.one 3 [3, 7, 8, 9, 10, 11, 12, 13, 14, 15, 16, 17, 18, 19, 20] (.one 4 [4, 5, 6, 7, 8, 9, 10, 11, 12, 13, 14, 15, 16, 17, 18, 19, 20] (.one 5 [5, 6, 7, 8, 9, 10, 11, 12, 13, 14, 15, 16, 17, 18, 19, 20] (.one 6 [6, 7, 8, 9, 10, 11, 12, 13, 14, 15, 16, 17, 18, 19, 20] (.one 7 [7, 8, 9, 10, 11, 12, 13, 14, 15, 16, 17, 18, 19, 20] (.one 8 [8, 9, 10, 11, 12, 13, 14, 15, 16, 17, 18, 19, 20] (.one 9 [9, 10, 11, 12, 13, 14, 15, 16, 17, 18, 19, 20] (.one 10 [10, 11, 13, 14, 19, 20] (.one 11 [11, 13, 14, 19, 20] (.one 12 [12, 13, 14, 19, 20] (.one 13 [13, 14, 19, 20] (.one 14 [14, 19, 20] (.one 15 [15, 17, 18, 19, 20] (.one 16 [16, 17, 18, 19, 20] (.one 17 [17, 18, 19, 20] (.one 18 [18, 19, 20] (.one 19 [19, 20] (.one 20 [20] .done))))))))))))))))))))) : OZ) (by kernel_rfl) ?_ | refine SW.regionD (Checked.mixed Tryd.checked) (by kernel_rfl) ?_ | refine SW.cond ?_ | refine SW.skip ?_ | refine SW.exit ?_ | refine SW.ret ?_ | (refine allF_i fun b hb => ?_; replace hD := And.intro hb hD; clear hb; try simp only [fresh_cons, fresh_nil, and_true, ne_eq, neF] at hD) | simp only [appK, appOsK]); try simp only [go_sem, hD, hli, ie, i0, w1, fp, c1, c2, c3i, fd, q0, ql, ee, true_implies]) | (refine And.intro (by omega) ?_) | (refine ifI (fun hc => ?_) (fun hc => ?_) <;> first | (exfalso; omega) | skip) | ((first | apply hK | ((iterate 1 (clear hK K)); apply hK) | ((iterate 2 (clear hK K)); apply hK) | ((iterate 3 (clear hK K)); apply hK) | ((iterate 4 (clear hK K)); apply hK) | ((iterate 5 (clear hK K)); apply hK)); clear hK K) | (refine And.intro ?_ ?_)
      obtain ⟨db, rfl⟩ : ∃ x, x = b := ⟨_, rfl⟩
      obtain ⟨pb, rfl⟩ : ∃ x, x = b := ⟨_, rfl⟩
      have e1 : ¬ db = gb := by simp [hD]
      have e2 : ¬ gb = db := by simp [hD]
      have e3 : ¬ db = ab := by simp [hD]
      have e4 : ¬ ab = db := by simp [hD]
      have hIO := hI
      have ow1 := w1
      clear hI
      have hC0 : R = (match stR [] (stpC ⟨df, dl, dt, dr⟩ (ps.drop 0) (a.drop 0)) with
        | none => false
        | some a' => chkP l gt gr (pr.drop (i + 1)) dt a') := by
        rw [hC]
        simp only [List.drop_zero]
        cases stpC ⟨df, dl, dt, dr⟩ ps a <;> rfl
      clear hC
      refine Ab.SW.le (St.le_pick [(ab, .svs (a.map fun x => I64 x)), (db, .svs (dC ⟨df, dl, dt, dr⟩)), (gb, .svs (dC ⟨gf, gl, gt, gr⟩))] ?_ ?_) ?_
      · repeat' (first | exact (fun x hx => (List.not_mem_nil hx).elim) | refine List.forall_mem_cons.2 ⟨?_, ?_⟩ | exact List.mem_cons_self | apply List.mem_cons_of_mem)
      · simp [fresh_cons, fresh_nil, hD]
      clear hD
      have hD := And.intro (And.intro (eq_false e1) (eq_false e2)) (And.intro (And.intro (eq_false e3) (eq_false e4)) (And.intro (eq_false k1) (eq_false k2)))
      obtain ⟨I, hI⟩ : ∃ I : Nat → St → Prop, ∀ k S, I k S ↔ (∃ (m : Nat) (N : List Int), k = a.length - m ∧ m ≤ a.length ∧ N.length = m ∧ R = (match stR N (stpC ⟨df, dl, dt, dr⟩ (ps.drop m) (a.drop m)) with | none => false | some a' => chkP l gt gr (pr.drop (i + 1)) dt a') ∧ S = ⟨[(1, DpL l), (6, .op gb 0), (8, SB false), (10, .os ab 0 a.length 1), (13, .op db 0), (26, PL pr), (27, I64 pr.length), (28, I64 i), (66, IL ps), (67, I64 ps.length), (68, I64 m)], [(ab, .svs ((N ++ a.drop m).map fun x => I64 x)), (db, .svs (dC ⟨df, dl, dt, dr⟩)), (gb, .svs (dC ⟨gf, gl, gt, gr⟩))]⟩) := ⟨fun k S => _, fun _ _ => Iff.rfl⟩
      refine SW.loop' I (a.length) ((hI _ _).2 ⟨0, [], rfl, Nat.zero_le _, rfl, hC0, rfl⟩) (by repeat' (first | exact rfl | exact trivial | exact int_eq (by omega) | exact int_eq (by (rw [i64_wrap] <;> omega)) | constructor)) ?_
      intro k S hIn
      obtain ⟨m, N, rfl, hi, hNl, hC, rfl⟩ := (hI _ _).1 hIn
      clear hIn
      have ie : ((m : Nat) : Int).toNat = m := Int.toNat_natCast _
      have i0 : (0 : Int) ≤ ((m : Nat) : Int) := by omega
      clear hC0
      by_cases hlt : m < a.length
      · have hli : ((m : Nat) : Int) < ((ps.length : Nat) : Int) := by omega
        have w1 : IntKind.i64.wrap ((m : Int) + 1) = ((m + 1 : Nat) : Int) := by rw [i64_wrap (by omega) (by omega)]; omega
        rw [stpC_drop c3 hlt] at hC
        simp only at hC
        have mal : ((m : Nat) : Int) < ((a.length : Nat) : Int) := by omega
        have fq : iF ps m = [I64 (ps.getD m 0)] := rfl
        have cl : (N ++ a.drop m).length = a.length := by rw [List.length_append, hNl, List.length_drop]; omega
        have clm : ((N ++ a.drop m).map fun x => I64 x).length = a.length := by rw [List.length_map, cl]
        have gm : ((N ++ a.drop m).map fun x => I64 x).getD m .any = I64 (a.getD m 0) := by
          rw [map_get (by omega)]
          simp [List.getD_eq_getElem?_getD, List.getElem?_append_right, hNl, List.getElem?_drop]
        have z0 : 0 + m * 1 = m := by omega
        have mlt : m < a.length := hlt
        generalize ps.getD m 0 = k at *
        by_cases b1 : k < 0
        · rw [if_neg (by omega)] at hC
          have hC2 : R = false := hC
          subst hC2
          repeat' first | (with_reducible refine And.intro (by omega) ?_) | (refine SW.seq_k fun K hK => ?_) | (refine SW.block ?_) | ((first | refine SW.region ?_ | refine SW.regionZ (id := 3) (Checked.mixed Tryd.checked) ((.one 0 [0, 1, 5, 6] (.one 1 [1, 5, 6] (.one 2 [2, 3, 4, 5, 6] (.one 3 [3, 4, 5, 6] (.one 4 [4, 5, 6] (.one 5 [5, 6] (.one 6 [6] .done))))))) : OZ) (by kernel_rfl) ?_ | refine SW.regionZ (id := 13) (Checked.mixed Tryd.checked) ((.one 0 [0, 1, 2, 3, 4, 5, 6, 7, 8, 9, 10, 11, 12, 13, 14, 15, 16, 17, 18, 19, 20] (.one 1 [1, 2, 3, 4, 5, 6, 7, 8, 9, 10, 11, 12, 13, 14, 15, 16, 17, 18, 19, 20] (.one 2 [2, 3, 4, 5, 6, 7, 8, 9, 10, 11, 12, 13, 14, 15, 16, 17, 18, 19, 20] (.one 3 [3, 7, 8, 9, 10, 11, 12, 13, 14, 15, 16, 17, 18, 19, 20] (.one 4 [4, 5, 6, 7, 8, 9, 10, 11, 12, 13, 14, 15, 16, 17, 18, 19, 20] (.one 5 [5, 6, 7, 8, 9, 10, 11, 12, 13, 14, 15, 16, 17, 18, 19, 20] (.one 6 [6, 7, 8, 9, 10, 11, 12, 13, 14, 15, 16, 17, 18, 19, 20] (.one 7 [7, 8, 9, 10, 11, 12, 13, 14, 15, 16, 17, 18, 19, 20] (.one 8 [8, 9, 10, 11, 12, 13, 14, 15, 16, 17, 18, 19, 20] (.one 9 [9, 10, 11, 12, 13, 14, 15, 16, 17, 18, 19, 20] (.one 10 [10, 11, 13, 14, 19, 20] (.one 11 [11, 13, 14, 19, 20] (.one 12 [12, 13, 14, 19, 20] (.one 13 [13, 14, 19, 20] (.one 14 [14, 19, 20] (.one 15 [15, 17, 18, 19, 20] (.one 16 [16, 17, 18, 19, 20] (.one 17 [17, 18, 19, 20] (.one 18 [18, 19, 20] (.one 19 [19, 20] (.one 20 [20] .done))))))))))))))))))))) : OZ) (by kernel_rfl) ?_ | refine SW.regionD (Checked.mixed Tryd.checked) (by kernel_rfl) ?_ | refine SW.cond ?_ | refine SW.skip ?_ | refine SW.exit ?_ | refine SW.ret ?_ | (refine allF_i fun b hb => ?_; replace hD := And.intro hb hD; clear hb; try simp only [fresh_cons, fresh_nil, and_true, ne_eq, neF] at hD) | simp only [appK, appOsK]); try simp only [go_sem, hD, hli, ie, i0, w1, fq, b1, mal, gm, z0, clm, mlt, true_implies]) | (refine And.intro (by omega) ?_) | (refine ifI (fun hc => ?_) (fun hc => ?_) <;> first | (exfalso; omega) | skip) | ((first | apply hK | ((iterate 1 (clear hK K)); apply hK) | ((iterate 2 (clear hK K)); apply hK) | ((iterate 3 (clear hK K)); apply hK) | ((iterate 4 (clear hK K)); apply hK) | ((iterate 5 (clear hK K)); apply hK)); clear hK K) | (refine And.intro ?_ ?_)
          all_goals
            refine ret_pure ?_; simp only [resL_tmp, resL_nil, tupOf, go_sem, hD]
        by_cases b2 : ((dl.length : Nat) : Int) ≤ k
        · rw [if_neg (by omega)] at hC
          have hC2 : R = false := hC
          subst hC2
          repeat' first | (with_reducible refine And.intro (by omega) ?_) | (refine SW.seq_k fun K hK => ?_) | (refine SW.block ?_) | ((first | refine SW.region ?_ | refine SW.regionZ (id := 3) (Checked.mixed Tryd.checked) ((.one 0 [0, 1, 5, 6] (.one 1 [1, 5, 6] (.one 2 [2, 3, 4, 5, 6] (.one 3 [3, 4, 5, 6] (.one 4 [4, 5, 6] (.one 5 [5, 6] (.one 6 [6] .done))))))) : OZ) (by kernel_rfl) ?_ | refine SW.regionZ (id := 13) (Checked.mixed Tryd.checked) ((.one 0 [0, 1, 2, 3, 4, 5, 6, 7, 8, 9, 10, 11, 12, 13, 14, 15, 16, 17, 18, 19, 20] (.one 1 [1, 2, 3, 4, 5, 6, 7, 8, 9, 10, 11, 12, 13, 14, 15, 16, 17, 18, 19, 20] (.one 2 [2, 3, 4, 5, 6, 7, 8, 9, 10, 11, 12, 13, 14, 15, 16, 17, 18, 19, 20] (.one 3 [3, 7, 8, 9, 10, 11, 12, 13, 14, 15, 16, 17, 18, 19, 20] (.one 4 [4, 5, 6, 7, 8, 9, 10, 11, 12, 13, 14, 15, 16, 17, 18, 19, 20] (.one 5 [5, 6, 7, 8, 9, 10, 11, 12, 13, 14, 15, 16, 17, 18, 19, 20] (.one 6 [6, 7, 8, 9, 10, 11, 12, 13, 14, 15, 16, 17, 18, 19, 20] (.one 7 [7, 8, 9, 10, 11, 12, 13, 14, 15, 16, 17, 18, 19, 20] (.one 8 [8, 9, 10, 11, 12, 13, 14, 15, 16, 17, 18, 19, 20] (.one 9 [9, 10, 11, 12, 13, 14, 15, 16, 17, 18, 19, 20] (.one 10 [10, 11, 13, 14, 19, 20] (.one 11 [11, 13, 14, 19, 20] (.one 12 [12, 13, 14, 19, 20] (.one 13 [13, 14, 19, 20] (.one 14 [14, 19, 20] (.one 15 [15, 17, 18, 19, 20] (.one 16 [16, 17, 18, 19, 20] (.one 17 [17, 18, 19, 20] (.one 18 [18, 19, 20] (.one 19 [19, 20] (.one 20 [20] .done))))))))))))))))))))) : OZ) (by kernel_rfl) ?_ | refine SW.regionD (Checked.mixed Tryd.checked) (by kernel_rfl) ?_ | refine SW.cond ?_ | refine SW.skip ?_ | refine SW.exit ?_ | refine SW.ret ?_ | (refine allF_i fun b hb => ?_; replace hD := And.intro hb hD; clear hb; try simp only [fresh_cons, fresh_nil, and_true, ne_eq, neF] at hD) | simp only [appK, appOsK]); try simp only [go_sem, hD, hli, ie, i0, w1, fq, b1, b2, mal, gm, z0, clm, mlt, true_implies]) | (refine And.intro (by omega) ?_) | (refine ifI (fun hc => ?_) (fun hc => ?_) <;> first | (exfalso; omega) | skip) | ((first | apply hK | ((iterate 1 (clear hK K)); apply hK) | ((iterate 2 (clear hK K)); apply hK) | ((iterate 3 (clear hK K)); apply hK) | ((iterate 4 (clear hK K)); apply hK) | ((iterate 5 (clear hK K)); apply hK)); clear hK K) | (refine And.intro ?_ ?_)
          all_goals
            refine ret_pure ?_; simp only [resL_tmp, resL_nil, tupOf, go_sem, hD]
        have kk0 : 0 ≤ k := by omega
        have kl : k < ((dl.length : Nat) : Int) := by omega
        have kr : k < ((dr.length : Nat) : Int) := by omega
        have fl : iF dl k.toNat = [I64 (dl.getD k.toNat 0)] := rfl
        have fr : iF dr k.toNat = [I64 (dr.getD k.toNat 0)] := rfl
        by_cases b3 : dl.getD k.toNat 0 = a.getD m 0
        rotate_left
        · rw [if_neg (fun x => b3 x.2.2)] at hC
          have hC2 : R = false := hC
          subst hC2
          generalize dl.getD k.toNat 0 = u at *
          generalize a.getD m 0 = v at *
          repeat' first | (with_reducible refine And.intro (by omega) ?_) | (refine SW.seq_k fun K hK => ?_) | (refine SW.block ?_) | ((first | refine SW.region ?_ | refine SW.regionZ (id := 3) (Checked.mixed Tryd.checked) ((.one 0 [0, 1, 5, 6] (.one 1 [1, 5, 6] (.one 2 [2, 3, 4, 5, 6] (.one 3 [3, 4, 5, 6] (.one 4 [4, 5, 6] (.one 5 [5, 6] (.one 6 [6] .done))))))) : OZ) (by kernel_rfl) ?_ | refine SW.regionZ (id := 13) (Checked.mixed Tryd.checked) ((.one 0 [0, 1, 2, 3, 4, 5, 6, 7, 8, 9, 10, 11, 12, 13, 14, 15, 16, 17, 18, 19, 20] (.one 1 [1, 2, 3, 4, 5, 6, 7, 8, 9, 10, 11, 12, 13, 14, 15, 16, 17, 18, 19, 20] (.one 2 [2, 3, 4, 5, 6, 7, 8, 9, 10, 11, 12, 13, 14, 15, 16, 17, 18, 19, 20] (.one 3 [3, 7, 8, 9, 10, 11, 12, 13, 14, 15, 16, 17, 18, 19, 20] (.one 4 [4, 5, 6, 7, 8, 9, 10, 11, 12, 13, 14, 15, 16, 17, 18, 19, 20] (.one 5 [5, 6, 7, 8, 9, 10, 11, 12, 13, 14, 15, 16, 17, 18, 19, 20] (.one 6 [6, 7, 8, 9, 10, 11, 12, 13, 14, 15, 16, 17, 18, 19, 20] (.one 7 [7, 8, 9, 10, 11, 12, 13, 14, 15, 16, 17, 18, 19, 20] (.one 8 [8, 9, 10, 11, 12, 13, 14, 15, 16, 17, 18, 19, 20] (.one 9 [9, 10, 11, 12, 13, 14, 15, 16, 17, 18, 19, 20] (.one 10 [10, 11, 13, 14, 19, 20] (.one 11 [11, 13, 14, 19, 20] (.one 12 [12, 13, 14, 19, 20] (.one 13 [13, 14, 19, 20] (.one 14 [14, 19, 20] (.one 15 [15, 17, 18, 19, 20] (.one 16 [16, 17, 18, 19, 20] (.one 17 [17, 18, 19, 20] (.one 18 [18, 19, 20] (.one 19 [19, 20] (.one 20 [20] .done))))))))))))))))))))) : OZ) (by kernel_rfl) ?_ | refine SW.regionD (Checked.mixed Tryd.checked) (by kernel_rfl) ?_ | refine SW.cond ?_ | refine SW.skip ?_ | refine SW.exit ?_ | refine SW.ret ?_ | (refine allF_i fun b hb => ?_; replace hD := And.intro hb hD; clear hb; try simp only [fresh_cons, fresh_nil, and_true, ne_eq, neF] at hD) | simp only [appK, appOsK]); try simp only [go_sem, hD, hli, ie, i0, w1, fq, b1, b2, b3, kk0, kl, kr, fl, mal, gm, z0, clm, mlt, true_implies]) | (refine And.intro (by omega) ?_) | (refine ifI (fun hc => ?_) (fun hc => ?_) <;> first | (exfalso; omega) | skip) | ((first | apply hK | ((iterate 1 (clear hK K)); apply hK) | ((iterate 2 (clear hK K)); apply hK) | ((iterate 3 (clear hK K)); apply hK) | ((iterate 4 (clear hK K)); apply hK) | ((iterate 5 (clear hK K)); apply hK)); clear hK K) | (refine And.intro ?_ ?_)
          all_goals
            refine ret_pure ?_; simp only [resL_tmp, resL_nil, tupOf, go_sem, hD]
        rw [if_pos ⟨kk0, kl, b3⟩] at hC
        have hst : ((N ++ a.drop m).map fun x => I64 x).set m (I64 (dr.getD k.toNat 0)) = ((N ++ [dr.getD k.toNat 0]) ++ a.drop (m + 1)).map fun x => I64 x := by
          rw [← List.map_set, List.set_append_right _ _ (by omega), hNl, Nat.sub_self, List.drop_eq_getElem_cons hlt, List.set_cons_zero, List.append_assoc]
          rfl
        have hC2 : R = (match stR (N ++ [dr.getD k.toNat 0]) (stpC ⟨df, dl, dt, dr⟩ (ps.drop (m + 1)) (a.drop (m + 1))) with | none => false | some a' => chkP l gt gr (pr.drop (i + 1)) dt a') := by
          rw [hC]
          cases stpC ⟨df, dl, dt, dr⟩ (ps.drop (m + 1)) (a.drop (m + 1)) with
          | none => rfl
          | some r => simp [stR]
        clear hC
        rw [b3] at fl
        generalize dr.getD k.toNat 0 = u at *
        generalize a.getD m 0 = v at *
        repeat' first | (with_reducible refine And.intro (by omega) ?_) | (refine SW.seq_k fun K hK => ?_) | (refine SW.block ?_) | ((first | refine SW.region ?_ | refine SW.regionZ (id := 3) (Checked.mixed Tryd.checked) ((.one 0 [0, 1, 5, 6] (.one 1 [1, 5, 6] (.one 2 [2, 3, 4, 5, 6] (.one 3 [3, 4, 5, 6] (.one 4 [4, 5, 6] (.one 5 [5, 6] (.one 6 [6] .done))))))) : OZ) (by kernel_rfl) ?_ | refine SW.regionZ (id := 13) (Checked.mixed Tryd.checked) ((.one 0 [0, 1, 2, 3, 4, 5, 6, 7, 8, 9, 10, 11, 12, 13, 14, 15, 16, 17, 18, 19, 20] (.one 1 [1, 2, 3, 4, 5, 6, 7, 8, 9, 10, 11, 12, 13, 14, 15, 16, 17, 18, 19, 20] (.one 2 [2, 3, 4, 5, 6, 7, 8, 9, 10, 11, 12, 13, 14, 15, 16, 17, 18, 19, 20] (.one 3 [3, 7, 8, 9, 10, 11, 12, 13, 14, 15, 16, 17, 18, 19, 20] (.one 4 [4, 5, 6, 7, 8, 9, 10, 11, 12, 13, 14, 15, 16, 17, 18, 19, 20] (.one 5 [5, 6, 7, 8, 9, 10, 11, 12, 13, 14, 15, 16, 17, 18, 19, 20] (.one 6 [6, 7, 8, 9, 10, 11, 12, 13, 14, 15, 16, 17, 18, 19, 20] (.one 7 [7, 8, 9, 10, 11, 12, 13, 14, 15, 16, 17, 18, 19, 20] (.one 8 [8, 9, 10, 11, 12, 13, 14, 15, 16, 17, 18, 19, 20] (.one 9 [9, 10, 11, 12, 13, 14, 15, 16, 17, 18, 19, 20] (.one 10 [10, 11, 13, 14, 19, 20] (.one 11 [11, 13, 14, 19, 20] (.one 12 [12, 13, 14, 19, 20] (.one 13 [13, 14, 19, 20] (.one 14 [14, 19, 20] (.one 15 [15, 17, 18, 19, 20] (.one 16 [16, 17, 18, 19, 20] (.one 17 [17, 18, 19, 20] (.one 18 [18, 19, 20] (.one 19 [19, 20] (.one 20 [20] .done))))))))))))))))))))) : OZ) (by kernel_rfl) ?_ | refine SW.regionD (Checked.mixed Tryd.checked) (by kernel_rfl) ?_ | refine SW.cond ?_ | refine SW.skip ?_ | refine SW.exit ?_ | refine SW.ret ?_ | (refine allF_i fun b hb => ?_; replace hD := And.intro hb hD; clear hb; try simp only [fresh_cons, fresh_nil, and_true, ne_eq, neF] at hD) | simp only [appK, appOsK]); try simp only [go_sem, hD, hli, ie, i0, w1, fq, b1, b2, kk0, kl, kr, fl, fr, mal, gm, z0, clm, mlt, true_implies]) | (refine And.intro (by omega) ?_) | (refine ifI (fun hc => ?_) (fun hc => ?_) <;> first | (exfalso; omega) | skip) | ((first | apply hK | ((iterate 1 (clear hK K)); apply hK) | ((iterate 2 (clear hK K)); apply hK) | ((iterate 3 (clear hK K)); apply hK) | ((iterate 4 (clear hK K)); apply hK) | ((iterate 5 (clear hK K)); apply hK)); clear hK K) | (refine And.intro ?_ ?_)
        all_goals
          rw [hst]
          refine Rnd.sub (a.length - (m + 1)) (by omega) ((hI _ _).2 ⟨m + 1, N ++ [u], rfl, by omega, (by rw [List.length_append, hNl]; rfl), hC2, rfl⟩) (by repeat' (first | exact rfl | exact trivial | exact int_eq (by omega) | exact int_eq (by (rw [i64_wrap] <;> omega)) | constructor))
      · have hli : ¬ ((m : Nat) : Int) < ((ps.length : Nat) : Int) := by omega
        obtain rfl : m = a.length := by omega
        have hC2 : R = chkP l gt gr (pr.drop (i + 1)) dt N := by
          rw [hC, List.drop_length, ← c3, List.drop_length]
          simp [stpC, stR]
        clear hC
        rw [List.drop_length, List.append_nil]
        repeat' first | (with_reducible refine And.intro (by omega) ?_) | (refine SW.seq_k fun K hK => ?_) | (refine SW.block ?_) | ((first | refine SW.region ?_ | refine SW.regionZ (id := 3) (Checked.mixed Tryd.checked) ((.one 0 [0, 1, 5, 6] (.one 1 [1, 5, 6] (.one 2 [2, 3, 4, 5, 6] (.one 3 [3, 4, 5, 6] (.one 4 [4, 5, 6] (.one 5 [5, 6] (.one 6 [6] .done))))))) : OZ) (by kernel_rfl) ?_ | refine SW.regionZ (id := 13) (Checked.mixed Tryd.checked) ((.one 0 [0, 1, 2, 3, 4, 5, 6, 7, 8, 9, 10, 11, 12, 13, 14, 15, 16, 17, 18, 19, 20] (.one 1 [1, 2, 3, 4, 5, 6, 7, 8, 9, 10, 11, 12, 13, 14, 15, 16, 17, 18, 19, 20] (.one 2 [2, 3, 4, 5, 6, 7, 8, 9, 10, 11, 12, 13, 14, 15, 16, 17, 18, 19, 20] (.one 3 [3, 7, 8, 9, 10, 11, 12, 13, 14, 15, 16, 17, 18, 19, 20] (.one 4 [4, 5, 6, 7, 8, 9, 10, 11, 12, 13, 14, 15, 16, 17, 18, 19, 20] (.one 5 [5, 6, 7, 8, 9, 10, 11, 12, 13, 14, 15, 16, 17, 18, 19, 20] (.one 6 [6, 7, 8, 9, 10, 11, 12, 13, 14, 15, 16, 17, 18, 19, 20] (.one 7 [7, 8, 9, 10, 11, 12, 13, 14, 15, 16, 17, 18, 19, 20] (.one 8 [8, 9, 10, 11, 12, 13, 14, 15, 16, 17, 18, 19, 20] (.one 9 [9, 10, 11, 12, 13, 14, 15, 16, 17, 18, 19, 20] (.one 10 [10, 11, 13, 14, 19, 20] (.one 11 [11, 13, 14, 19, 20] (.one 12 [12, 13, 14, 19, 20] (.one 13 [13, 14, 19, 20] (.one 14 [14, 19, 20] (.one 15 [15, 17, 18, 19, 20] (.one 16 [16, 17, 18, 19, 20] (.one 17 [17, 18, 19, 20] (.one 18 [18, 19, 20] (.one 19 [19, 20] (.one 20 [20] .done))))))))))))))))))))) : OZ) (by kernel_rfl) ?_ | refine SW.regionD (Checked.mixed Tryd.checked) (by kernel_rfl) ?_ | refine SW.cond ?_ | refine SW.skip ?_ | refine SW.exit ?_ | refine SW.ret ?_ | (refine allF_i fun b hb => ?_; replace hD := And.intro hb hD; clear hb; try simp only [fresh_cons, fresh_nil, and_true, ne_eq, neF] at hD) | simp only [appK, appOsK]); try simp only [go_sem, hD, hli, ow1, true_implies]) | (refine And.intro (by omega) ?_) | (refine ifI (fun hc => ?_) (fun hc => ?_) <;> first | (exfalso; omega) | skip) | ((first | apply hK | ((iterate 1 (clear hK K)); apply hK) | ((iterate 2 (clear hK K)); apply hK) | ((iterate 3 (clear hK K)); apply hK) | ((iterate 4 (clear hK K)); apply hK) | ((iterate 5 (clear hK K)); apply hK)); clear hK K) | (refine And.intro ?_ ?_)
        all_goals
          rw [← hNl]
          refine Rnd.le (St.le_pick [(ab, .svs (N.map fun x => I64 x)), (gb, .svs (dC ⟨gf, gl, gt, gr⟩))] ?_ ?_) (Rnd.sub (pr.length - (i + 1)) (by omega) ((hIO _ _).2 ⟨i + 1, dt, N, rfl, by omega, hC2, by omega, rfl⟩) (by repeat' (first | exact rfl | exact trivial | exact int_eq (by omega) | exact int_eq (by (rw [i64_wrap] <;> omega)) | constructor)))
          · repeat' (first | exact (fun x hx => (List.not_mem_nil hx).elim) | refine List.forall_mem_cons.2 ⟨?_, ?_⟩ | exact List.mem_cons_self | apply List.mem_cons_of_mem)
          · simp [fresh_cons, fresh_nil, hD]
    · have hli : ¬ ((i : Nat) : Int) < (((pr.length) : Nat) : Int) := by omega
      rw [List.drop_of_length_le (by omega)] at hC
      have hC2 : R = (decide (t = gt) && decide (a = gr)) := hC
      clear hC
      refine Ab.SW.le (St.le_freeze (i := 10) (b := ab) (off := 0) (len := a.length) (sz := 1) (k := .svs (a.map fun x => I64 x)) rfl (by rw [find_cons, if_pos rfl]) (by show 0 + a.length * 1 ≤ (a.map fun x => I64 x).length; rw [List.length_map]; omega) (iF a) (fun j hj => ?_)) ?_
      · rw [getN_one]
        show _ = [(a.map fun x => I64 x).getD (0 + j * 1) .any]
        rw [map_get (by omega)]
        unfold iF
        rw [Nat.zero_add, Nat.mul_one]
      rw [del_cons, if_pos rfl]
      have c := equal_i a gr (by omega) hgr gr.length rfl (iF gr) (fun j hj => rfl)
      generalize decide (a = gr) = w at *
      by_cases e : t = gt
      · have ee : (t.toList == gt.toList) = true := barr_eq.2 e
        rw [decide_eq_true e, Bool.true_and] at hC2
        subst hC2
        repeat' first | (with_reducible refine And.intro (by omega) ?_) | (refine SW.seq_k fun K hK => ?_) | (refine SW.block ?_) | ((first | refine SW.region ?_ | refine SW.regionZ (id := 3) (Checked.mixed Tryd.checked) ((.one 0 [0, 1, 5, 6] (.one 1 [1, 5, 6] (.one 2 [2, 3, 4, 5, 6] (.one 3 [3, 4, 5, 6] (.one 4 [4, 5, 6] (.one 5 [5, 6] (.one 6 [6] .done))))))) : OZ) (by kernel_rfl) ?_ | refine SW.regionZ (id := 13) (Checked.mixed Tryd.checked) ((.one 0 [0, 1, 2, 3, 4, 5, 6, 7, 8, 9, 10, 11, 12, 13, 14, 15, 16, 17, 18, 19, 20] (.one 1 [1, 2, 3, 4, 5, 6, 7, 8, 9, 10, 11, 12, 13, 14, 15, 16, 17, 18, 19, 20] (.one 2 [2, 3, 4, 5, 6, 7, 8, 9, 10, 11, 12, 13, 14, 15, 16, 17, 18, 19, 20] (.one 3 [3, 7, 8, 9, 10, 11, 12, 13, 14, 15, 16, 17, 18, 19, 20] (.one 4 [4, 5, 6, 7, 8, 9, 10, 11, 12, 13, 14, 15, 16, 17, 18, 19, 20] (.one 5 [5, 6, 7, 8, 9, 10, 11, 12, 13, 14, 15, 16, 17, 18, 19, 20] (.one 6 [6, 7, 8, 9, 10, 11, 12, 13, 14, 15, 16, 17, 18, 19, 20] (.one 7 [7, 8, 9, 10, 11, 12, 13, 14, 15, 16, 17, 18, 19, 20] (.one 8 [8, 9, 10, 11, 12, 13, 14, 15, 16, 17, 18, 19, 20] (.one 9 [9, 10, 11, 12, 13, 14, 15, 16, 17, 18, 19, 20] (.one 10 [10, 11, 13, 14, 19, 20] (.one 11 [11, 13, 14, 19, 20] (.one 12 [12, 13, 14, 19, 20] (.one 13 [13, 14, 19, 20] (.one 14 [14, 19, 20] (.one 15 [15, 17, 18, 19, 20] (.one 16 [16, 17, 18, 19, 20] (.one 17 [17, 18, 19, 20] (.one 18 [18, 19, 20] (.one 19 [19, 20] (.one 20 [20] .done))))))))))))))))))))) : OZ) (by kernel_rfl) ?_ | refine SW.regionD (Checked.mixed Tryd.checked) (by kernel_rfl) ?_ | refine SW.cond ?_ | refine SW.skip ?_ | refine SW.exit ?_ | refine SW.ret ?_ | refine Call.of_pure (c) ?_ | refine ⟨_, c, ?_⟩ | (refine allF_i fun b hb => ?_; replace hD := And.intro hb hD; clear hb; try simp only [fresh_cons, fresh_nil, and_true, ne_eq, neF] at hD) | simp only [appK, appOsK]); try simp only [go_sem, hD, hli, ee, true_implies]) | (refine And.intro (by omega) ?_) | (refine ifI (fun hc => ?_) (fun hc => ?_) <;> first | (exfalso; omega) | skip) | ((first | apply hK | ((iterate 1 (clear hK K)); apply hK) | ((iterate 2 (clear hK K)); apply hK) | ((iterate 3 (clear hK K)); apply hK) | ((iterate 4 (clear hK K)); apply hK) | ((iterate 5 (clear hK K)); apply hK)); clear hK K) | (refine And.intro ?_ ?_)
        all_goals
          refine ret_pure ?_; simp only [resL_tmp, resL_nil, tupOf, go_sem, hD]
      · have ee : (t.toList == gt.toList) = false := by rw [Bool.eq_false_iff]; exact fun h => e (barr_eq.1 h)
        rw [decide_eq_false e, Bool.false_and] at hC2
        subst hC2
        repeat' first | (with_reducible refine And.intro (by omega) ?_) | (refine SW.seq_k fun K hK => ?_) | (refine SW.block ?_) | ((first | refine SW.region ?_ | refine SW.regionZ (id := 3) (Checked.mixed Tryd.checked) ((.one 0 [0, 1, 5, 6] (.one 1 [1, 5, 6] (.one 2 [2, 3, 4, 5, 6] (.one 3 [3, 4, 5, 6] (.one 4 [4, 5, 6] (.one 5 [5, 6] (.one 6 [6] .done))))))) : OZ) (by kernel_rfl) ?_ | refine SW.regionZ (id := 13) (Checked.mixed Tryd.checked) ((.one 0 [0, 1, 2, 3, 4, 5, 6, 7, 8, 9, 10, 11, 12, 13, 14, 15, 16, 17, 18, 19, 20] (.one 1 [1, 2, 3, 4, 5, 6, 7, 8, 9, 10, 11, 12, 13, 14, 15, 16, 17, 18, 19, 20] (.one 2 [2, 3, 4, 5, 6, 7, 8, 9, 10, 11, 12, 13, 14, 15, 16, 17, 18, 19, 20] (.one 3 [3, 7, 8, 9, 10, 11, 12, 13, 14, 15, 16, 17, 18, 19, 20] (.one 4 [4, 5, 6, 7, 8, 9, 10, 11, 12, 13, 14, 15, 16, 17, 18, 19, 20] (.one 5 [5, 6, 7, 8, 9, 10, 11, 12, 13, 14, 15, 16, 17, 18, 19, 20] (.one 6 [6, 7, 8, 9, 10, 11, 12, 13, 14, 15, 16, 17, 18, 19, 20] (.one 7 [7, 8, 9, 10, 11, 12, 13, 14, 15, 16, 17, 18, 19, 20] (.one 8 [8, 9, 10, 11, 12, 13, 14, 15, 16, 17, 18, 19, 20] (.one 9 [9, 10, 11, 12, 13, 14, 15, 16, 17, 18, 19, 20] (.one 10 [10, 11, 13, 14, 19, 20] (.one 11 [11, 13, 14, 19, 20] (.one 12 [12, 13, 14, 19, 20] (.one 13 [13, 14, 19, 20] (.one 14 [14, 19, 20] (.one 15 [15, 17, 18, 19, 20] (.one 16 [16, 17, 18, 19, 20] (.one 17 [17, 18, 19, 20] (.one 18 [18, 19, 20] (.one 19 [19, 20] (.one 20 [20] .done))))))))))))))))))))) : OZ) (by kernel_rfl) ?_ | refine SW.regionD (Checked.mixed Tryd.checked) (by kernel_rfl) ?_ | refine SW.cond ?_ | refine SW.skip ?_ | refine SW.exit ?_ | refine SW.ret ?_ | refine Call.of_pure (c) ?_ | refine ⟨_, c, ?_⟩ | (refine allF_i fun b hb => ?_; replace hD := And.intro hb hD; clear hb; try simp only [fresh_cons, fresh_nil, and_true, ne_eq, neF] at hD) | simp only [appK, appOsK]); try simp only [go_sem, hD, hli, ee, true_implies]) | (refine And.intro (by omega) ?_) | (refine ifI (fun hc => ?_) (fun hc => ?_) <;> first | (exfalso; omega) | skip) | ((first | apply hK | ((iterate 1 (clear hK K)); apply hK) | ((iterate 2 (clear hK K)); apply hK) | ((iterate 3 (clear hK K)); apply hK) | ((iterate 4 (clear hK K)); apply hK) | ((iterate 5 (clear hK K)); apply hK)); clear hK K) | (refine And.intro ?_ ?_)
        all_goals
          refine ret_pure ?_; simp only [resL_tmp, resL_nil, tupOf, go_sem, hD]

end Go.Proofs.YtblfodnajpamfaaDoor
/- Contract: Check of the reference. -/
set_option linter.unusedSimpArgs false
set_option linter.unusedVariables false
set_option linter.unusedSectionVars false
namespace Go.Proofs.YtblfodnajpamfaaDoor
open Go Go.Ab Go.Ab.A34 Go.Ab.A15
variable [Gl] [Tabs]

end Go.Proofs.YtblfodnajpamfaaDoor
/- Contracts: values of codes, tables of recipes. -/
set_option linter.unusedSimpArgs false
set_option linter.unusedVariables false
set_option linter.unusedSectionVars false
namespace Go.Ab.A34
open Go Go.Ab Go.Proofs
/-- A recipe: attributes, gap, rows. -/
structure Rc where
  attrs : Int
  gap : Int
  rows : List (List Int)
end Go.Ab.A34
namespace Go.Proofs.YtblfodnajpamfaaDoor
open Go Go.Ab Go.Ab.A34
variable [Gl] [Tabs]

end Go.Proofs.YtblfodnajpamfaaDoor
/- Contracts: tables of recipes, of the reference. -/
set_option linter.unusedSimpArgs false
set_option linter.unusedVariables false
set_option linter.unusedSectionVars false
namespace Go.Proofs.YtblfodnajpamfaaDoor
open Go Go.Ab Go.Ab.A34
variable [Gl] [Tabs]

end Go.Proofs.YtblfodnajpamfaaDoor
/- Contracts: tables of recipes; pick. -/
set_option linter.unusedSimpArgs false
set_option linter.unusedVariables false
set_option linter.unusedSectionVars false
namespace Go.Ab.A15
open Go Go.Ab Go.Ab.A34
def U8s (l : List Int) : Prop := ∀ c ∈ l, 0 ≤ c ∧ c < 256
end Go.Ab.A15
namespace Go.Proofs.YtblfodnajpamfaaDoor
open Go Go.Ab Go.Ab.A34 Go.Ab.A15
variable [Gl] [Tabs]

end Go.Proofs.YtblfodnajpamfaaDoor
/- Contracts: drafts: Of, IND. -/
set_option linter.unusedSimpArgs false
set_option linter.unusedVariables false
set_option linter.unusedSectionVars false
namespace Go.Ab.A15
open Go Go.Ab Go.Ab.A34
def rc0 : Rc := ⟨0, 0, []⟩
def nmT (i : Nat) : ByteArray := if i = 0 then ⟨#[114]⟩ else if i = 1 then ⟨#[115]⟩ else ⟨#[116]⟩
def goodD (d : List Rc) : Prop := ∀ i, i < min d.length 3 → (d.getD i rc0).rows.length ≤ 6
instance (d : List Rc) : Decidable (goodD d) := by unfold goodD; infer_instance
/-- A link. -/
structure Lk where
  f : Int
  t : Int
  l : List Int
  r : List Int
def lk0 : Lk := ⟨0, 0, [], []⟩
structure OkK (x : Lk) : Prop where
  f : 0 ≤ x.f ∧ x.f < 256
  t : 0 ≤ x.t ∧ x.t < 256
  l : U8s x.l
  r : U8s x.r
  nl : x.l.length ≤ 9223372036854775807
  nr : x.r.length ≤ 9223372036854775807
end Go.Ab.A15
namespace Go.Proofs.YtblfodnajpamfaaDoor
open Go Go.Ab Go.Ab.A34 Go.Ab.A15
variable [Gl] [Tabs]

end Go.Proofs.YtblfodnajpamfaaDoor
/- Contracts: drafts: Of. -/
set_option linter.unusedSimpArgs false
set_option linter.unusedVariables false
set_option linter.unusedSectionVars false
namespace Go.Ab.A15
open Go Go.Ab Go.Ab.A34
end Go.Ab.A15
namespace Go.Proofs.YtblfodnajpamfaaDoor
open Go Go.Ab Go.Ab.A34 Go.Ab.A15
variable [Gl] [Tabs]

end Go.Proofs.YtblfodnajpamfaaDoor
/- Contracts: drafts: List; few. -/
set_option linter.unusedSimpArgs false
set_option linter.unusedVariables false
set_option linter.unusedSectionVars false
namespace Go.Ab.A15
open Go Go.Ab Go.Ab.A34
end Go.Ab.A15
namespace Go.Proofs.YtblfodnajpamfaaDoor
open Go Go.Ab Go.Ab.A34 Go.Ab.A15
variable [Gl] [Tabs]

end Go.Proofs.YtblfodnajpamfaaDoor
/- Contracts: few. -/
set_option linter.unusedSimpArgs false
set_option linter.unusedVariables false
set_option linter.unusedSectionVars false
namespace Go.Ab.A15
open Go Go.Ab Go.Ab.A34
def fewT (i : Nat) (t : Tb) : Prop := t.rows.length ≤ 8 ∧ t.attrs.length ≤ 20 ∧ (3 < i → t.rows.length = 0)
def fewS (db : List Tb) : Prop := db.length ≤ 52 ∧ ∀ i, i < db.length → fewT i (db.getD i t0)
end Go.Ab.A15
namespace Go.Proofs.YtblfodnajpamfaaDoor
open Go Go.Ab Go.Ab.A34 Go.Ab.A15
variable [Gl] [Tabs]
open Classical in
set_option maxHeartbeats 1000000 in
set_option maxRecDepth 20000 in
theorem few_p (db : List Tb) (hl : db.length ≤ 9223372036854775807) : PCall Tryd.prog 11 [DB db] (SB (decide (fewS db))) := by
  obtain ⟨R, hR⟩ : ∃ R, R = decide (fewS db) := ⟨_, rfl⟩
  rw [← hR]
  by_cases h52 : db.length ≤ 52
  rotate_left
  · have hi : (52 : Int) < ((db.length : Nat) : Int) := by omega
    have hR2 : R = false := by rw [hR]; exact decide_eq_false fun h => h52 h.1
    subst hR2
    refine Call.enter' (N := 38) (rs := [.tmp 2]) Tryd.func11 rfl rfl rfl (by decide) rfl ?_; simp only [argT]; have hD : (0 : Nat) = 0 := rfl
    repeat' first | (with_reducible refine And.intro (by omega) ?_) | (refine SW.seq_k fun K hK => ?_) | (refine SW.block ?_) | ((first | refine SW.region ?_ | refine SW.regionD (Checked.mixed Tryd.checked) (by kernel_rfl) ?_ | refine SW.cond ?_ | refine SW.skip ?_ | refine SW.exit ?_ | refine SW.ret ?_ | (refine allF_i fun b hb => ?_; replace hD := And.intro hb hD; clear hb; try simp only [fresh_cons, fresh_nil, and_true, ne_eq, neF] at hD) | simp only [appK, appOsK]); try simp only [go_sem, hD, hi]) | (refine And.intro (by omega) ?_) | (refine ifI (fun hc => ?_) (fun hc => ?_) <;> first | (exfalso; omega) | skip) | ((first | apply hK | ((iterate 1 (clear hK K)); apply hK) | ((iterate 2 (clear hK K)); apply hK) | ((iterate 3 (clear hK K)); apply hK) | ((iterate 4 (clear hK K)); apply hK) | ((iterate 5 (clear hK K)); apply hK)); clear hK K)
    refine ret_pure ?_; simp only [resL_tmp, resL_nil, tupOf, go_sem, hD]
  have hi52 : ¬ (52 : Int) < ((db.length : Nat) : Int) := by omega
  have hbad : ∀ i, i < db.length → ¬ fewT i (db.getD i t0) → R = false := fun i hi hn => by
    rw [hR]; exact decide_eq_false fun h => hn (h.2 i hi)
  have hgood : (∀ i, i < db.length → fewT i (db.getD i t0)) → R = true := fun h => by
    rw [hR]; exact decide_eq_true ⟨h52, h⟩
  clear hR
  refine Call.enter' (N := 38) (rs := [.tmp 2]) Tryd.func11 rfl rfl rfl (by decide) rfl ?_; simp only [argT]; have hD : (0 : Nat) = 0 := rfl
  repeat' first | (with_reducible refine And.intro (by omega) ?_) | (refine SW.seq_k fun K hK => ?_) | (refine SW.block ?_) | ((first | refine SW.region ?_ | refine SW.regionD (Checked.mixed Tryd.checked) (by kernel_rfl) ?_ | refine SW.cond ?_ | refine SW.skip ?_ | refine SW.exit ?_ | refine SW.ret ?_ | (refine allF_i fun b hb => ?_; replace hD := And.intro hb hD; clear hb; try simp only [fresh_cons, fresh_nil, and_true, ne_eq, neF] at hD) | simp only [appK, appOsK]); try simp only [go_sem, hD, hi52]) | (refine And.intro (by omega) ?_) | (refine ifI (fun hc => ?_) (fun hc => ?_) <;> first | (exfalso; omega) | skip) | ((first | apply hK | ((iterate 1 (clear hK K)); apply hK) | ((iterate 2 (clear hK K)); apply hK) | ((iterate 3 (clear hK K)); apply hK) | ((iterate 4 (clear hK K)); apply hK) | ((iterate 5 (clear hK K)); apply hK)); clear hK K)
  refine Ab.SW.le St.le_drop ?_
  obtain ⟨I, hI⟩ : ∃ I : Nat → St → Prop, ∀ k S, I k S ↔ (∃ (i : Nat) , k = db.length - i ∧ i ≤ db.length ∧ (∀ j, j < i → fewT j (db.getD j t0)) ∧ S = ⟨[(2, SB false), (10, TL db), (11, I64 db.length), (12, I64 i)], []⟩) := ⟨fun k S => _, fun _ _ => Iff.rfl⟩
  refine SW.loop' I (db.length) ((hI _ _).2 ⟨0, rfl, Nat.zero_le _, (fun j hj => absurd hj (Nat.not_lt_zero _)), rfl⟩) (by repeat' (first | exact rfl | exact trivial | exact int_eq (by omega) | exact int_eq (by (rw [i64_wrap] <;> omega)) | constructor)) ?_
  intro k S hIn
  obtain ⟨i, rfl, hi, hG, rfl⟩ := (hI _ _).1 hIn
  clear hIn
  have ie : ((i : Nat) : Int).toNat = i := Int.toNat_natCast _
  have i0 : (0 : Int) ≤ ((i : Nat) : Int) := by omega
  by_cases hlt : i < db.length
  · have hli : ((i : Nat) : Int) < (((db.length) : Nat) : Int) := by omega
    have w1 : IntKind.i64.wrap ((i : Int) + 1) = ((i + 1 : Nat) : Int) := by rw [i64_wrap (by omega) (by omega)]; omega
    have fi : tF db i = tC (db.getD i t0) := rfl
    have hb := hbad i hlt
    have hG2 : fewT i (db.getD i t0) → ∀ j, j < i + 1 → fewT j (db.getD j t0) := fun h1 j hj => by
      rcases Nat.lt_or_eq_of_le (Nat.lt_succ_iff.1 hj) with h | h
      · exact hG j h
      · rw [h]; exact h1
    clear hbad hgood
    generalize db.getD i t0 = t at *
    obtain ⟨tn, ta, tr⟩ := t
    by_cases c1 : 8 < tr.length
    · have c1i : (8 : Int) < ((tr.length : Nat) : Int) := by omega
      have hR2 := hb fun h => by have h1 : tr.length ≤ 8 := h.1; omega
      subst hR2
      repeat' first | (with_reducible refine And.intro (by omega) ?_) | (refine SW.seq_k fun K hK => ?_) | (refine SW.block ?_) | ((first | refine SW.region ?_ | refine SW.regionD (Checked.mixed Tryd.checked) (by kernel_rfl) ?_ | refine SW.cond ?_ | refine SW.skip ?_ | refine SW.exit ?_ | refine SW.ret ?_ | (refine allF_i fun b hb => ?_; replace hD := And.intro hb hD; clear hb; try simp only [fresh_cons, fresh_nil, and_true, ne_eq, neF] at hD) | simp only [appK, appOsK]); try simp only [go_sem, hD, hli, ie, i0, w1, fi, c1i, true_implies]) | (refine And.intro (by omega) ?_) | (refine ifI (fun hc => ?_) (fun hc => ?_) <;> first | (exfalso; omega) | skip) | ((first | apply hK | ((iterate 1 (clear hK K)); apply hK) | ((iterate 2 (clear hK K)); apply hK) | ((iterate 3 (clear hK K)); apply hK) | ((iterate 4 (clear hK K)); apply hK) | ((iterate 5 (clear hK K)); apply hK)); clear hK K)
      refine ret_pure ?_; simp only [resL_tmp, resL_nil, tupOf, go_sem, hD]
    by_cases c2 : 20 < ta.length
    · have c1i : ¬ (8 : Int) < ((tr.length : Nat) : Int) := by omega
      have c2i : (20 : Int) < ((ta.length : Nat) : Int) := by omega
      have hR2 := hb fun h => by have h1 : ta.length ≤ 20 := h.2.1; omega
      subst hR2
      repeat' first | (with_reducible refine And.intro (by omega) ?_) | (refine SW.seq_k fun K hK => ?_) | (refine SW.block ?_) | ((first | refine SW.region ?_ | refine SW.regionD (Checked.mixed Tryd.checked) (by kernel_rfl) ?_ | refine SW.cond ?_ | refine SW.skip ?_ | refine SW.exit ?_ | refine SW.ret ?_ | (refine allF_i fun b hb => ?_; replace hD := And.intro hb hD; clear hb; try simp only [fresh_cons, fresh_nil, and_true, ne_eq, neF] at hD) | simp only [appK, appOsK]); try simp only [go_sem, hD, hli, ie, i0, w1, fi, c1i, c2i, true_implies]) | (refine And.intro (by omega) ?_) | (refine ifI (fun hc => ?_) (fun hc => ?_) <;> first | (exfalso; omega) | skip) | ((first | apply hK | ((iterate 1 (clear hK K)); apply hK) | ((iterate 2 (clear hK K)); apply hK) | ((iterate 3 (clear hK K)); apply hK) | ((iterate 4 (clear hK K)); apply hK) | ((iterate 5 (clear hK K)); apply hK)); clear hK K)
      refine ret_pure ?_; simp only [resL_tmp, resL_nil, tupOf, go_sem, hD]
    have c1i : ¬ (8 : Int) < ((tr.length : Nat) : Int) := by omega
    have c2i : ¬ (20 : Int) < ((ta.length : Nat) : Int) := by omega
    by_cases c3 : 3 < i
    · have c3i : (3 : Int) < ((i : Nat) : Int) := by omega
      by_cases c4 : 0 < tr.length
      · have c4i : (0 : Int) < ((tr.length : Nat) : Int) := by omega
        have hR2 := hb fun h => by have h1 : tr.length = 0 := h.2.2 c3; omega
        subst hR2
        repeat' first | (with_reducible refine And.intro (by omega) ?_) | (refine SW.seq_k fun K hK => ?_) | (refine SW.block ?_) | ((first | refine SW.region ?_ | refine SW.regionD (Checked.mixed Tryd.checked) (by kernel_rfl) ?_ | refine SW.cond ?_ | refine SW.skip ?_ | refine SW.exit ?_ | refine SW.ret ?_ | (refine allF_i fun b hb => ?_; replace hD := And.intro hb hD; clear hb; try simp only [fresh_cons, fresh_nil, and_true, ne_eq, neF] at hD) | simp only [appK, appOsK]); try simp only [go_sem, hD, hli, ie, i0, w1, fi, c1i, c2i, c3i, c4i, true_implies]) | (refine And.intro (by omega) ?_) | (refine ifI (fun hc => ?_) (fun hc => ?_) <;> first | (exfalso; omega) | skip) | ((first | apply hK | ((iterate 1 (clear hK K)); apply hK) | ((iterate 2 (clear hK K)); apply hK) | ((iterate 3 (clear hK K)); apply hK) | ((iterate 4 (clear hK K)); apply hK) | ((iterate 5 (clear hK K)); apply hK)); clear hK K)
        refine ret_pure ?_; simp only [resL_tmp, resL_nil, tupOf, go_sem, hD]
      · have c4i : ¬ (0 : Int) < ((tr.length : Nat) : Int) := by omega
        have hG3 := hG2 ⟨by show tr.length ≤ 8; omega, by show ta.length ≤ 20; omega, fun _ => by show tr.length = 0; omega⟩
        repeat' first | (with_reducible refine And.intro (by omega) ?_) | (refine SW.seq_k fun K hK => ?_) | (refine SW.block ?_) | ((first | refine SW.region ?_ | refine SW.regionD (Checked.mixed Tryd.checked) (by kernel_rfl) ?_ | refine SW.cond ?_ | refine SW.skip ?_ | refine SW.exit ?_ | refine SW.ret ?_ | (refine allF_i fun b hb => ?_; replace hD := And.intro hb hD; clear hb; try simp only [fresh_cons, fresh_nil, and_true, ne_eq, neF] at hD) | simp only [appK, appOsK]); try simp only [go_sem, hD, hli, ie, i0, w1, fi, c1i, c2i, c3i, c4i, true_implies]) | (refine And.intro (by omega) ?_) | (refine ifI (fun hc => ?_) (fun hc => ?_) <;> first | (exfalso; omega) | skip) | ((first | apply hK | ((iterate 1 (clear hK K)); apply hK) | ((iterate 2 (clear hK K)); apply hK) | ((iterate 3 (clear hK K)); apply hK) | ((iterate 4 (clear hK K)); apply hK) | ((iterate 5 (clear hK K)); apply hK)); clear hK K)
        refine Rnd.le St.le_drop (Rnd.sub (db.length - (i + 1)) (by omega) ((hI _ _).2 ⟨i + 1, rfl, by omega, hG3, rfl⟩) (by repeat' (first | exact rfl | exact trivial | exact int_eq (by omega) | exact int_eq (by (rw [i64_wrap] <;> omega)) | constructor)))
    · have c3i : ¬ (3 : Int) < ((i : Nat) : Int) := by omega
      have hG3 := hG2 ⟨by show tr.length ≤ 8; omega, by show ta.length ≤ 20; omega, fun h => absurd h c3⟩
      repeat' first | (with_reducible refine And.intro (by omega) ?_) | (refine SW.seq_k fun K hK => ?_) | (refine SW.block ?_) | ((first | refine SW.region ?_ | refine SW.regionD (Checked.mixed Tryd.checked) (by kernel_rfl) ?_ | refine SW.cond ?_ | refine SW.skip ?_ | refine SW.exit ?_ | refine SW.ret ?_ | (refine allF_i fun b hb => ?_; replace hD := And.intro hb hD; clear hb; try simp only [fresh_cons, fresh_nil, and_true, ne_eq, neF] at hD) | simp only [appK, appOsK]); try simp only [go_sem, hD, hli, ie, i0, w1, fi, c1i, c2i, c3i, true_implies]) | (refine And.intro (by omega) ?_) | (refine ifI (fun hc => ?_) (fun hc => ?_) <;> first | (exfalso; omega) | skip) | ((first | apply hK | ((iterate 1 (clear hK K)); apply hK) | ((iterate 2 (clear hK K)); apply hK) | ((iterate 3 (clear hK K)); apply hK) | ((iterate 4 (clear hK K)); apply hK) | ((iterate 5 (clear hK K)); apply hK)); clear hK K)
      refine Rnd.le St.le_drop (Rnd.sub (db.length - (i + 1)) (by omega) ((hI _ _).2 ⟨i + 1, rfl, by omega, hG3, rfl⟩) (by repeat' (first | exact rfl | exact trivial | exact int_eq (by omega) | exact int_eq (by (rw [i64_wrap] <;> omega)) | constructor)))
  · have hli : ¬ ((i : Nat) : Int) < (((db.length) : Nat) : Int) := by omega
    have hR2 := hgood fun j hj => hG j (by omega)
    subst hR2
    repeat' first | (with_reducible refine And.intro (by omega) ?_) | (refine SW.seq_k fun K hK => ?_) | (refine SW.block ?_) | ((first | refine SW.region ?_ | refine SW.regionD (Checked.mixed Tryd.checked) (by kernel_rfl) ?_ | refine SW.cond ?_ | refine SW.skip ?_ | refine SW.exit ?_ | refine SW.ret ?_ | (refine allF_i fun b hb => ?_; replace hD := And.intro hb hD; clear hb; try simp only [fresh_cons, fresh_nil, and_true, ne_eq, neF] at hD) | simp only [appK, appOsK]); try simp only [go_sem, hD, hli]) | (refine And.intro (by omega) ?_) | (refine ifI (fun hc => ?_) (fun hc => ?_) <;> first | (exfalso; omega) | skip) | ((first | apply hK | ((iterate 1 (clear hK K)); apply hK) | ((iterate 2 (clear hK K)); apply hK) | ((iterate 3 (clear hK K)); apply hK) | ((iterate 4 (clear hK K)); apply hK) | ((iterate 5 (clear hK K)); apply hK)); clear hK K)
    refine ret_pure ?_; simp only [resL_tmp, resL_nil, tupOf, go_sem, hD]
end Go.Proofs.YtblfodnajpamfaaDoor
/- Contracts: rows of numbers: Equal, Compare, Contains. -/
set_option linter.unusedSimpArgs false
set_option linter.unusedVariables false
set_option linter.unusedSectionVars false
namespace Go.Ab.A15
open Go Go.Ab Go.Ab.A34
def cmpI (x y : Int) : Int := if x < y then -1 else if y < x then 1 else 0
def lexI : List Int → List Int → Int
  | [], [] => 0
  | [], _ :: _ => -1
  | _ :: _, [] => 1
  | x :: a, y :: b => if cmpI x y = 0 then lexI a b else cmpI x y
theorem lexI_step {a b : List Int} {i : Nat} (h : i < a.length) : lexI (a.drop i) (b.drop i) = if i < b.length then (if cmpI (a.getD i 0) (b.getD i 0) = 0 then lexI (a.drop (i + 1)) (b.drop (i + 1)) else cmpI (a.getD i 0) (b.getD i 0)) else 1 := by
  have g : a.getD i 0 = a[i] := by simp [List.getD_eq_getElem?_getD, h]
  rw [List.drop_eq_getElem_cons h, g]
  by_cases hb : i < b.length
  · have g2 : b.getD i 0 = b[i] := by simp [List.getD_eq_getElem?_getD, hb]
    rw [List.drop_eq_getElem_cons hb, g2, if_pos hb]
    rfl
  · rw [if_neg hb, List.drop_of_length_le (show b.length ≤ i by omega)]
    rfl
theorem lexI_end {a b : List Int} {i : Nat} (h : a.length ≤ i) : lexI (a.drop i) (b.drop i) = if i < b.length then -1 else 0 := by
  rw [List.drop_of_length_le h]
  by_cases hb : i < b.length
  · rw [List.drop_eq_getElem_cons hb, if_pos hb]
    rfl
  · rw [if_neg hb, List.drop_of_length_le (show b.length ≤ i by omega)]
    rfl
def gF (l : List (List Int)) (i : Nat) : List SV := [IL (l.getD i [])]
abbrev GL (l : List (List Int)) : SV := .fl l.length 1 (gF l)
/-- Where a row stands. -/
def rowI (x : List Int) : Nat → List (List Int) → Int
  | _, [] => -1
  | i, y :: l => if y = x then (i : Int) else rowI x (i + 1) l
theorem rowI_step {x : List Int} {l : List (List Int)} {i : Nat} (h : i < l.length) : rowI x i (l.drop i) = if l.getD i [] = x then (i : Int) else rowI x (i + 1) (l.drop (i + 1)) := by
  have g : l.getD i [] = l[i] := by simp [List.getD_eq_getElem?_getD, h]
  rw [List.drop_eq_getElem_cons h, g]
  rfl
theorem rowI_mem {x : List Int} : ∀ {l : List (List Int)} {i : Nat}, 0 ≤ rowI x i l ↔ x ∈ l
  | [], i => by
    show (0 : Int) ≤ -1 ↔ _
    simp
  | y :: l, i => by
    unfold rowI
    by_cases h : y = x
    · rw [if_pos h]
      exact ⟨fun _ => by rw [h]; exact List.mem_cons_self, fun _ => by omega⟩
    · rw [if_neg h, rowI_mem, List.mem_cons]
      exact ⟨.inr, fun h2 => h2.resolve_left (Ne.symm h)⟩
end Go.Ab.A15
namespace Go.Proofs.YtblfodnajpamfaaDoor
open Go Go.Ab Go.Ab.A34 Go.Ab.A15
variable [Gl] [Tabs]

theorem eq_64 (a c : List Int) (ha : a.length ≤ 1000000000) (hc : c.length ≤ 1000000000) (n : Nat) (hn : c.length = n) (f : Nat → List SV) (hf : ∀ i, i < n → f i = [I64 (c.getD i 0)]) : PCall Tryd.prog 54 [IL a, .fl n 1 f] (SB (decide (a = c))) := by
  subst hn
  obtain ⟨X, hX⟩ : ∃ X, X = decide (a = c) := ⟨_, rfl⟩
  rw [← hX]
  have h0 : ¬ a.length = c.length → X = false := fun h => by rw [hX, decide_eq_false fun e => h (by rw [e])]
  have h1 : a.length = c.length → (∀ j, j < a.length → a.getD j 0 = c.getD j 0) → X = true := fun hl h => by rw [hX, decide_eq_true (list_eq hl h)]
  have h2 : ∀ j, ¬ a.getD j 0 = c.getD j 0 → X = false := fun j h => by rw [hX, decide_eq_false fun e => h (by rw [e])]
  clear hX
  by_cases hl : a.length = c.length
  · have hlq : ((a.length : Nat) : Int) = ((c.length : Nat) : Int) := by omega
    refine Call.enter' (N := 26) (rs := [.tmp 4]) Tryd.func54 rfl rfl rfl (by decide) rfl ?_; simp only [argT]; have hD : (0 : Nat) = 0 := rfl
    repeat' first | (with_reducible refine And.intro (by omega) ?_) | (refine SW.seq_k fun K hK => ?_) | (refine SW.block ?_) | ((first | refine SW.region ?_ | refine SW.regionD (Checked.mixed Tryd.checked) (by kernel_rfl) ?_ | refine SW.cond ?_ | refine SW.skip ?_ | refine SW.exit ?_ | refine SW.ret ?_ | (refine allF_i fun b hb => ?_; replace hD := And.intro hb hD; clear hb; try simp only [fresh_cons, fresh_nil, and_true, ne_eq, neF] at hD) | simp only [appK, appOsK]); try simp only [go_sem, hD, hlq]) | (refine And.intro (by omega) ?_) | (refine ifI (fun hc => ?_) (fun hc => ?_) <;> first | (exfalso; omega) | skip) | ((first | apply hK | ((iterate 1 (clear hK K)); apply hK) | ((iterate 2 (clear hK K)); apply hK) | ((iterate 3 (clear hK K)); apply hK) | ((iterate 4 (clear hK K)); apply hK) | ((iterate 5 (clear hK K)); apply hK)); clear hK K)
    obtain ⟨I, hI⟩ : ∃ I : Nat → St → Prop, ∀ k S, I k S ↔ (∃ (i : Nat) , k = a.length - i ∧ i ≤ a.length ∧ (∀ j, j < i → a.getD j 0 = c.getD j 0) ∧ S = ⟨[(0, IL a), (1, .fl c.length 1 f), (11, IL a), (12, I64 a.length), (13, I64 i)], []⟩) := ⟨fun k S => _, fun _ _ => Iff.rfl⟩
    refine SW.loop' I (a.length) ((hI _ _).2 ⟨0, rfl, Nat.zero_le _, (fun j hj => absurd hj (by omega)), rfl⟩) (by repeat' (first | exact rfl | exact trivial | exact int_eq (by omega) | exact int_eq (by (rw [i64_wrap] <;> omega)) | constructor)) ?_
    intro k S hIn
    obtain ⟨i, rfl, hi, hL, rfl⟩ := (hI _ _).1 hIn
    clear hIn
    have ie : ((i : Nat) : Int).toNat = i := Int.toNat_natCast _
    have i0 : (0 : Int) ≤ ((i : Nat) : Int) := by omega
    by_cases hlt : i < a.length
    · have hli : ((i : Nat) : Int) < (((a.length) : Nat) : Int) := by omega
      have w1 : IntKind.i64.wrap ((i : Int) + 1) = ((i + 1 : Nat) : Int) := by rw [i64_wrap (by omega) (by omega)]; omega
      have hlc : ((i : Nat) : Int) < ((c.length : Nat) : Int) := by omega
      have fi : iF a i = [I64 (a.getD i 0)] := rfl
      have gi := hf i (by omega)
      have h2i := h2 i
      have hn1 : a.getD i 0 = c.getD i 0 → ∀ j, j < i + 1 → a.getD j 0 = c.getD j 0 := fun h j hj => by
        rcases Nat.lt_or_ge j i with h3 | h3
        · exact hL j h3
        · obtain rfl : j = i := by omega
          exact h
      generalize a.getD i 0 = u at *
      generalize c.getD i 0 = v at *
      by_cases huv : u = v
      · have hn2 := hn1 huv
        repeat' first | (with_reducible refine And.intro (by omega) ?_) | (refine SW.seq_k fun K hK => ?_) | (refine SW.block ?_) | ((first | refine SW.region ?_ | refine SW.regionZ (id := 6) (Checked.mixed Tryd.checked) ((.one 0 [0, 2, 3, 8] (.one 1 [1, 2, 3, 8] (.one 2 [2, 3, 8] (.one 3 [3, 8] (.one 4 [4, 6, 7, 8] (.one 5 [5, 6, 7, 8] (.one 6 [6, 7, 8] (.one 7 [7, 8] (.one 8 [8] .done))))))))) : OZ) (by kernel_rfl) ?_ | refine SW.regionD (Checked.mixed Tryd.checked) (by kernel_rfl) ?_ | refine SW.cond ?_ | refine SW.skip ?_ | refine SW.exit ?_ | refine SW.ret ?_ | (refine allF_i fun b hb => ?_; replace hD := And.intro hb hD; clear hb; try simp only [fresh_cons, fresh_nil, and_true, ne_eq, neF] at hD) | simp only [appK, appOsK]); try simp only [go_sem, hD, hli, hlc, ie, i0, w1, fi, gi, huv]) | (refine And.intro (by omega) ?_) | (refine ifI (fun hc => ?_) (fun hc => ?_) <;> first | (exfalso; omega) | skip) | ((first | apply hK | ((iterate 1 (clear hK K)); apply hK) | ((iterate 2 (clear hK K)); apply hK) | ((iterate 3 (clear hK K)); apply hK) | ((iterate 4 (clear hK K)); apply hK) | ((iterate 5 (clear hK K)); apply hK)); clear hK K) | (refine And.intro ?_ ?_)
        refine Rnd.sub (a.length - (i + 1)) (by omega) ((hI _ _).2 ⟨i + 1, rfl, by omega, hn2, rfl⟩) (by repeat' (first | exact rfl | exact trivial | exact int_eq (by omega) | exact int_eq (by (rw [i64_wrap] <;> omega)) | constructor))
      · have hx := h2i huv
        subst hx
        repeat' first | (with_reducible refine And.intro (by omega) ?_) | (refine SW.seq_k fun K hK => ?_) | (refine SW.block ?_) | ((first | refine SW.region ?_ | refine SW.regionZ (id := 6) (Checked.mixed Tryd.checked) ((.one 0 [0, 2, 3, 8] (.one 1 [1, 2, 3, 8] (.one 2 [2, 3, 8] (.one 3 [3, 8] (.one 4 [4, 6, 7, 8] (.one 5 [5, 6, 7, 8] (.one 6 [6, 7, 8] (.one 7 [7, 8] (.one 8 [8] .done))))))))) : OZ) (by kernel_rfl) ?_ | refine SW.regionD (Checked.mixed Tryd.checked) (by kernel_rfl) ?_ | refine SW.cond ?_ | refine SW.skip ?_ | refine SW.exit ?_ | refine SW.ret ?_ | (refine allF_i fun b hb => ?_; replace hD := And.intro hb hD; clear hb; try simp only [fresh_cons, fresh_nil, and_true, ne_eq, neF] at hD) | simp only [appK, appOsK]); try simp only [go_sem, hD, hli, hlc, ie, i0, w1, fi, gi, huv]) | (refine And.intro (by omega) ?_) | (refine ifI (fun hc => ?_) (fun hc => ?_) <;> first | (exfalso; omega) | skip) | ((first | apply hK | ((iterate 1 (clear hK K)); apply hK) | ((iterate 2 (clear hK K)); apply hK) | ((iterate 3 (clear hK K)); apply hK) | ((iterate 4 (clear hK K)); apply hK) | ((iterate 5 (clear hK K)); apply hK)); clear hK K) | (refine And.intro ?_ ?_)
        refine ret_pure ?_; simp only [resL_tmp, resL_nil, tupOf, go_sem, hD]
    · have hli : ¬ ((i : Nat) : Int) < (((a.length) : Nat) : Int) := by omega
      have hx := h1 hl fun j hj => hL j (by omega)
      subst hx
      have nl : ¬ ((c.length : Nat) : Int) < ((c.length : Nat) : Int) := by omega
      repeat' first | (with_reducible refine And.intro (by omega) ?_) | (refine SW.seq_k fun K hK => ?_) | (refine SW.block ?_) | ((first | refine SW.region ?_ | refine SW.regionD (Checked.mixed Tryd.checked) (by kernel_rfl) ?_ | refine SW.cond ?_ | refine SW.skip ?_ | refine SW.exit ?_ | refine SW.ret ?_ | (refine allF_i fun b hb => ?_; replace hD := And.intro hb hD; clear hb; try simp only [fresh_cons, fresh_nil, and_true, ne_eq, neF] at hD) | simp only [appK, appOsK]); try simp only [go_sem, hD, hli, nl]) | (refine And.intro (by omega) ?_) | (refine ifI (fun hc => ?_) (fun hc => ?_) <;> first | (exfalso; omega) | skip) | ((first | apply hK | ((iterate 1 (clear hK K)); apply hK) | ((iterate 2 (clear hK K)); apply hK) | ((iterate 3 (clear hK K)); apply hK) | ((iterate 4 (clear hK K)); apply hK) | ((iterate 5 (clear hK K)); apply hK)); clear hK K)
      refine ret_pure ?_; simp only [resL_tmp, resL_nil, tupOf, go_sem, hD]
  · have hlq : ¬ ((a.length : Nat) : Int) = ((c.length : Nat) : Int) := by omega
    have hx := h0 hl
    subst hx
    refine Call.enter' (N := 26) (rs := [.tmp 4]) Tryd.func54 rfl rfl rfl (by decide) rfl ?_; simp only [argT]; have hD : (0 : Nat) = 0 := rfl
    repeat' first | (with_reducible refine And.intro (by omega) ?_) | (refine SW.seq_k fun K hK => ?_) | (refine SW.block ?_) | ((first | refine SW.region ?_ | refine SW.regionD (Checked.mixed Tryd.checked) (by kernel_rfl) ?_ | refine SW.cond ?_ | refine SW.skip ?_ | refine SW.exit ?_ | refine SW.ret ?_ | (refine allF_i fun b hb => ?_; replace hD := And.intro hb hD; clear hb; try simp only [fresh_cons, fresh_nil, and_true, ne_eq, neF] at hD) | simp only [appK, appOsK]); try simp only [go_sem, hD, hlq]) | (refine And.intro (by omega) ?_) | (refine ifI (fun hc => ?_) (fun hc => ?_) <;> first | (exfalso; omega) | skip) | ((first | apply hK | ((iterate 1 (clear hK K)); apply hK) | ((iterate 2 (clear hK K)); apply hK) | ((iterate 3 (clear hK K)); apply hK) | ((iterate 4 (clear hK K)); apply hK) | ((iterate 5 (clear hK K)); apply hK)); clear hK K)
    refine ret_pure ?_; simp only [resL_tmp, resL_nil, tupOf, go_sem, hD]


theorem cmp_64 (x y : Int) : PCall Tryd.prog 72 [I64 x, I64 y] (I64 (cmpI x y)) := by
  have nan : ∀ z, PCall Tryd.prog 92 [I64 z] (SB false) := fun z => by
    refine Call.enter' (N := 6) (rs := [.tmp 2]) Tryd.func92 rfl rfl rfl (by decide) rfl ?_; simp only [argT]; have hD : (0 : Nat) = 0 := rfl
    repeat' first | (with_reducible refine And.intro (by omega) ?_) | (refine SW.seq_k fun K hK => ?_) | (refine SW.block ?_) | ((first | refine SW.region ?_ | refine SW.regionD (Checked.mixed Tryd.checked) (by kernel_rfl) ?_ | refine SW.cond ?_ | refine SW.skip ?_ | refine SW.exit ?_ | refine SW.ret ?_ | (refine allF_i fun b hb => ?_; replace hD := And.intro hb hD; clear hb; try simp only [fresh_cons, fresh_nil, and_true, ne_eq, neF] at hD) | simp only [appK, appOsK]); try simp only [go_sem, hD]) | (refine And.intro (by omega) ?_) | (refine ifI (fun hc => ?_) (fun hc => ?_) <;> first | (exfalso; omega) | skip) | ((first | apply hK | ((iterate 1 (clear hK K)); apply hK) | ((iterate 2 (clear hK K)); apply hK) | ((iterate 3 (clear hK K)); apply hK) | ((iterate 4 (clear hK K)); apply hK) | ((iterate 5 (clear hK K)); apply hK)); clear hK K)
    refine ret_pure ?_; simp only [resL_tmp, resL_nil, tupOf, go_sem, hD]
  have cx := nan x
  have cy := nan y
  obtain ⟨R, hR⟩ : ∃ R, R = cmpI x y := ⟨_, rfl⟩
  rw [← hR]
  unfold cmpI at hR
  by_cases h1 : x < y
  · rw [if_pos h1] at hR
    subst hR
    refine Call.enter' (N := 20) (rs := [.tmp 4]) Tryd.func72 rfl rfl rfl (by decide) rfl ?_; simp only [argT]; have hD : (0 : Nat) = 0 := rfl
    repeat' first | (with_reducible refine And.intro (by omega) ?_) | (refine SW.seq_k fun K hK => ?_) | (refine SW.block ?_) | ((first | refine SW.region ?_ | refine SW.regionD (Checked.mixed Tryd.checked) (by kernel_rfl) ?_ | refine SW.cond ?_ | refine SW.skip ?_ | refine SW.exit ?_ | refine SW.ret ?_ | refine Call.of_pure (cx) ?_ | refine ⟨_, cx, ?_⟩ | refine Call.of_pure (cy) ?_ | refine ⟨_, cy, ?_⟩ | (refine allF_i fun b hb => ?_; replace hD := And.intro hb hD; clear hb; try simp only [fresh_cons, fresh_nil, and_true, ne_eq, neF] at hD) | simp only [appK, appOsK]); try simp only [go_sem, hD, h1]) | (refine And.intro (by omega) ?_) | (refine ifI (fun hc => ?_) (fun hc => ?_) <;> first | (exfalso; omega) | skip) | ((first | apply hK | ((iterate 1 (clear hK K)); apply hK) | ((iterate 2 (clear hK K)); apply hK) | ((iterate 3 (clear hK K)); apply hK) | ((iterate 4 (clear hK K)); apply hK) | ((iterate 5 (clear hK K)); apply hK)); clear hK K)
    refine ret_pure ?_; simp only [resL_tmp, resL_nil, tupOf, go_sem, hD]
  · rw [if_neg h1] at hR
    by_cases h2 : y < x
    · rw [if_pos h2] at hR
      subst hR
      refine Call.enter' (N := 20) (rs := [.tmp 4]) Tryd.func72 rfl rfl rfl (by decide) rfl ?_; simp only [argT]; have hD : (0 : Nat) = 0 := rfl
      repeat' first | (with_reducible refine And.intro (by omega) ?_) | (refine SW.seq_k fun K hK => ?_) | (refine SW.block ?_) | ((first | refine SW.region ?_ | refine SW.regionD (Checked.mixed Tryd.checked) (by kernel_rfl) ?_ | refine SW.cond ?_ | refine SW.skip ?_ | refine SW.exit ?_ | refine SW.ret ?_ | refine Call.of_pure (cx) ?_ | refine ⟨_, cx, ?_⟩ | refine Call.of_pure (cy) ?_ | refine ⟨_, cy, ?_⟩ | (refine allF_i fun b hb => ?_; replace hD := And.intro hb hD; clear hb; try simp only [fresh_cons, fresh_nil, and_true, ne_eq, neF] at hD) | simp only [appK, appOsK]); try simp only [go_sem, hD, h1, h2]) | (refine And.intro (by omega) ?_) | (refine ifI (fun hc => ?_) (fun hc => ?_) <;> first | (exfalso; omega) | skip) | ((first | apply hK | ((iterate 1 (clear hK K)); apply hK) | ((iterate 2 (clear hK K)); apply hK) | ((iterate 3 (clear hK K)); apply hK) | ((iterate 4 (clear hK K)); apply hK) | ((iterate 5 (clear hK K)); apply hK)); clear hK K)
      refine ret_pure ?_; simp only [resL_tmp, resL_nil, tupOf, go_sem, hD]
    · rw [if_neg h2] at hR
      subst hR
      refine Call.enter' (N := 20) (rs := [.tmp 4]) Tryd.func72 rfl rfl rfl (by decide) rfl ?_; simp only [argT]; have hD : (0 : Nat) = 0 := rfl
      repeat' first | (with_reducible refine And.intro (by omega) ?_) | (refine SW.seq_k fun K hK => ?_) | (refine SW.block ?_) | ((first | refine SW.region ?_ | refine SW.regionD (Checked.mixed Tryd.checked) (by kernel_rfl) ?_ | refine SW.cond ?_ | refine SW.skip ?_ | refine SW.exit ?_ | refine SW.ret ?_ | refine Call.of_pure (cx) ?_ | refine ⟨_, cx, ?_⟩ | refine Call.of_pure (cy) ?_ | refine ⟨_, cy, ?_⟩ | (refine allF_i fun b hb => ?_; replace hD := And.intro hb hD; clear hb; try simp only [fresh_cons, fresh_nil, and_true, ne_eq, neF] at hD) | simp only [appK, appOsK]); try simp only [go_sem, hD, h1, h2]) | (refine And.intro (by omega) ?_) | (refine ifI (fun hc => ?_) (fun hc => ?_) <;> first | (exfalso; omega) | skip) | ((first | apply hK | ((iterate 1 (clear hK K)); apply hK) | ((iterate 2 (clear hK K)); apply hK) | ((iterate 3 (clear hK K)); apply hK) | ((iterate 4 (clear hK K)); apply hK) | ((iterate 5 (clear hK K)); apply hK)); clear hK K)
      refine ret_pure ?_; simp only [resL_tmp, resL_nil, tupOf, go_sem, hD]
set_option maxHeartbeats 1000000 in
set_option maxRecDepth 20000 in
theorem lex_64 (a b : List Int) (ha : a.length ≤ 1000000000) (hb : b.length ≤ 1000000000) : PCall Tryd.prog 57 [IL a, IL b] (I64 (lexI a b)) := by
  obtain ⟨R, hR⟩ : ∃ R, R = lexI a b := ⟨_, rfl⟩
  rw [← hR]
  have hR0 : R = lexI (a.drop 0) (b.drop 0) := by rw [List.drop_zero, List.drop_zero]; exact hR
  clear hR
  refine Call.enter' (N := 36) (rs := [.tmp 4]) Tryd.func57 rfl rfl rfl (by decide) rfl ?_; simp only [argT]; have hD : (0 : Nat) = 0 := rfl
  repeat' first | (with_reducible refine And.intro (by omega) ?_) | (refine SW.seq_k fun K hK => ?_) | (refine SW.block ?_) | ((first | refine SW.region ?_ | refine SW.regionD (Checked.mixed Tryd.checked) (by kernel_rfl) ?_ | refine SW.cond ?_ | refine SW.skip ?_ | refine SW.exit ?_ | refine SW.ret ?_ | (refine allF_i fun b hb => ?_; replace hD := And.intro hb hD; clear hb; try simp only [fresh_cons, fresh_nil, and_true, ne_eq, neF] at hD) | simp only [appK, appOsK]); try simp only [go_sem, hD]) | (refine And.intro (by omega) ?_) | (refine ifI (fun hc => ?_) (fun hc => ?_) <;> first | (exfalso; omega) | skip) | ((first | apply hK | ((iterate 1 (clear hK K)); apply hK) | ((iterate 2 (clear hK K)); apply hK) | ((iterate 3 (clear hK K)); apply hK) | ((iterate 4 (clear hK K)); apply hK) | ((iterate 5 (clear hK K)); apply hK)); clear hK K)
  obtain ⟨I, hI⟩ : ∃ I : Nat → St → Prop, ∀ k S, I k S ↔ (∃ (i : Nat) , k = a.length - i ∧ i ≤ a.length ∧ R = lexI (a.drop i) (b.drop i) ∧ S = ⟨[(0, IL a), (1, IL b), (9, IL a), (10, I64 a.length), (11, I64 i)], []⟩) := ⟨fun k S => _, fun _ _ => Iff.rfl⟩
  refine SW.loop' I (a.length) ((hI _ _).2 ⟨0, rfl, Nat.zero_le _, hR0, rfl⟩) (by repeat' (first | exact rfl | exact trivial | exact int_eq (by omega) | exact int_eq (by (rw [i64_wrap] <;> omega)) | constructor)) ?_
  intro k S hIn
  obtain ⟨i, rfl, hi, hC, rfl⟩ := (hI _ _).1 hIn
  clear hIn
  have ie : ((i : Nat) : Int).toNat = i := Int.toNat_natCast _
  have i0 : (0 : Int) ≤ ((i : Nat) : Int) := by omega
  clear hR0
  by_cases hlt : i < a.length
  · have hli : ((i : Nat) : Int) < (((a.length) : Nat) : Int) := by omega
    have w1 : IntKind.i64.wrap ((i : Int) + 1) = ((i + 1 : Nat) : Int) := by rw [i64_wrap (by omega) (by omega)]; omega
    rw [lexI_step hlt] at hC
    have fi : iF a i = [I64 (a.getD i 0)] := rfl
    by_cases hlb : i < b.length
    · rw [if_pos hlb] at hC
      have gi : iF b i = [I64 (b.getD i 0)] := rfl
      have hnb : ¬ ((b.length : Nat) : Int) ≤ ((i : Nat) : Int) := by omega
      have hbi : ((i : Nat) : Int) < ((b.length : Nat) : Int) := by omega
      have c := cmp_64 (a.getD i 0) (b.getD i 0)
      generalize cmpI (a.getD i 0) (b.getD i 0) = z at *
      generalize a.getD i 0 = u at *
      generalize b.getD i 0 = v at *
      by_cases hz : z = 0
      · rw [if_pos hz] at hC
        repeat' first | (with_reducible refine And.intro (by omega) ?_) | (refine SW.seq_k fun K hK => ?_) | (refine SW.block ?_) | ((first | refine SW.region ?_ | refine SW.regionD (Checked.mixed Tryd.checked) (by kernel_rfl) ?_ | refine SW.cond ?_ | refine SW.skip ?_ | refine SW.exit ?_ | refine SW.ret ?_ | refine Call.of_pure (c) ?_ | refine ⟨_, c, ?_⟩ | (refine allF_i fun b hb => ?_; replace hD := And.intro hb hD; clear hb; try simp only [fresh_cons, fresh_nil, and_true, ne_eq, neF] at hD) | simp only [appK, appOsK]); try simp only [go_sem, hD, hli, ie, i0, w1, fi, gi, hnb, hbi, hz, true_implies]) | (refine And.intro (by omega) ?_) | (refine ifI (fun hc => ?_) (fun hc => ?_) <;> first | (exfalso; omega) | skip) | ((first | apply hK | ((iterate 1 (clear hK K)); apply hK) | ((iterate 2 (clear hK K)); apply hK) | ((iterate 3 (clear hK K)); apply hK) | ((iterate 4 (clear hK K)); apply hK) | ((iterate 5 (clear hK K)); apply hK)); clear hK K)
        refine Rnd.sub (a.length - (i + 1)) (by omega) ((hI _ _).2 ⟨i + 1, rfl, by omega, hC, rfl⟩) (by repeat' (first | exact rfl | exact trivial | exact int_eq (by omega) | exact int_eq (by (rw [i64_wrap] <;> omega)) | constructor))
      · rw [if_neg hz] at hC
        subst hC
        repeat' first | (with_reducible refine And.intro (by omega) ?_) | (refine SW.seq_k fun K hK => ?_) | (refine SW.block ?_) | ((first | refine SW.region ?_ | refine SW.regionD (Checked.mixed Tryd.checked) (by kernel_rfl) ?_ | refine SW.cond ?_ | refine SW.skip ?_ | refine SW.exit ?_ | refine SW.ret ?_ | refine Call.of_pure (c) ?_ | refine ⟨_, c, ?_⟩ | (refine allF_i fun b hb => ?_; replace hD := And.intro hb hD; clear hb; try simp only [fresh_cons, fresh_nil, and_true, ne_eq, neF] at hD) | simp only [appK, appOsK]); try simp only [go_sem, hD, hli, ie, i0, w1, fi, gi, hnb, hbi, hz, true_implies]) | (refine And.intro (by omega) ?_) | (refine ifI (fun hc => ?_) (fun hc => ?_) <;> first | (exfalso; omega) | skip) | ((first | apply hK | ((iterate 1 (clear hK K)); apply hK) | ((iterate 2 (clear hK K)); apply hK) | ((iterate 3 (clear hK K)); apply hK) | ((iterate 4 (clear hK K)); apply hK) | ((iterate 5 (clear hK K)); apply hK)); clear hK K)
        refine ret_pure ?_; simp only [resL_tmp, resL_nil, tupOf, go_sem, hD]
    · rw [if_neg hlb] at hC
      subst hC
      have hnb : ((b.length : Nat) : Int) ≤ ((i : Nat) : Int) := by omega
      repeat' first | (with_reducible refine And.intro (by omega) ?_) | (refine SW.seq_k fun K hK => ?_) | (refine SW.block ?_) | ((first | refine SW.region ?_ | refine SW.regionD (Checked.mixed Tryd.checked) (by kernel_rfl) ?_ | refine SW.cond ?_ | refine SW.skip ?_ | refine SW.exit ?_ | refine SW.ret ?_ | (refine allF_i fun b hb => ?_; replace hD := And.intro hb hD; clear hb; try simp only [fresh_cons, fresh_nil, and_true, ne_eq, neF] at hD) | simp only [appK, appOsK]); try simp only [go_sem, hD, hli, ie, i0, w1, fi, hnb, true_implies]) | (refine And.intro (by omega) ?_) | (refine ifI (fun hc => ?_) (fun hc => ?_) <;> first | (exfalso; omega) | skip) | ((first | apply hK | ((iterate 1 (clear hK K)); apply hK) | ((iterate 2 (clear hK K)); apply hK) | ((iterate 3 (clear hK K)); apply hK) | ((iterate 4 (clear hK K)); apply hK) | ((iterate 5 (clear hK K)); apply hK)); clear hK K)
      refine ret_pure ?_; simp only [resL_tmp, resL_nil, tupOf, go_sem, hD]
  · have hli : ¬ ((i : Nat) : Int) < (((a.length) : Nat) : Int) := by omega
    rw [lexI_end (by omega)] at hC
    have hia : i = a.length := by omega
    by_cases hlb : i < b.length
    · rw [if_pos hlb] at hC
      subst hC
      have hab : ((a.length : Nat) : Int) < ((b.length : Nat) : Int) := by omega
      repeat' first | (with_reducible refine And.intro (by omega) ?_) | (refine SW.seq_k fun K hK => ?_) | (refine SW.block ?_) | ((first | refine SW.region ?_ | refine SW.regionD (Checked.mixed Tryd.checked) (by kernel_rfl) ?_ | refine SW.cond ?_ | refine SW.skip ?_ | refine SW.exit ?_ | refine SW.ret ?_ | (refine allF_i fun b hb => ?_; replace hD := And.intro hb hD; clear hb; try simp only [fresh_cons, fresh_nil, and_true, ne_eq, neF] at hD) | simp only [appK, appOsK]); try simp only [go_sem, hD, hli, hab, true_implies]) | (refine And.intro (by omega) ?_) | (refine ifI (fun hc => ?_) (fun hc => ?_) <;> first | (exfalso; omega) | skip) | ((first | apply hK | ((iterate 1 (clear hK K)); apply hK) | ((iterate 2 (clear hK K)); apply hK) | ((iterate 3 (clear hK K)); apply hK) | ((iterate 4 (clear hK K)); apply hK) | ((iterate 5 (clear hK K)); apply hK)); clear hK K)
      refine ret_pure ?_; simp only [resL_tmp, resL_nil, tupOf, go_sem, hD]
    · rw [if_neg hlb] at hC
      subst hC
      have hab : ¬ ((a.length : Nat) : Int) < ((b.length : Nat) : Int) := by omega
      repeat' first | (with_reducible refine And.intro (by omega) ?_) | (refine SW.seq_k fun K hK => ?_) | (refine SW.block ?_) | ((first | refine SW.region ?_ | refine SW.regionD (Checked.mixed Tryd.checked) (by kernel_rfl) ?_ | refine SW.cond ?_ | refine SW.skip ?_ | refine SW.exit ?_ | refine SW.ret ?_ | (refine allF_i fun b hb => ?_; replace hD := And.intro hb hD; clear hb; try simp only [fresh_cons, fresh_nil, and_true, ne_eq, neF] at hD) | simp only [appK, appOsK]); try simp only [go_sem, hD, hli, hab, true_implies]) | (refine And.intro (by omega) ?_) | (refine ifI (fun hc => ?_) (fun hc => ?_) <;> first | (exfalso; omega) | skip) | ((first | apply hK | ((iterate 1 (clear hK K)); apply hK) | ((iterate 2 (clear hK K)); apply hK) | ((iterate 3 (clear hK K)); apply hK) | ((iterate 4 (clear hK K)); apply hK) | ((iterate 5 (clear hK K)); apply hK)); clear hK K)
      refine ret_pure ?_; simp only [resL_tmp, resL_nil, tupOf, go_sem, hD]
theorem has_64 (l : List (List Int)) (row : List Int) (hl : l.length ≤ 1000000000) (hr : row.length ≤ 1000000000) (hs : ∀ r ∈ l, r.length ≤ 1000000000) : PCall Tryd.prog 52 [GL l, .fn (.func 53) [] [.fp [IL row]]] (SB (decide (row ∈ l))) := by
  have c1 : ∀ r ∈ l, PCall Tryd.prog 53 [IL r, .fp [IL row]] (SB (decide (r = row))) := fun r hm => by
    have ce := eq_64 r row (hs r hm) hr row.length rfl (iF row) (fun j hj => rfl)
    generalize decide (r = row) = w at *
    refine Call.enter' (N := 7) (rs := [.tmp 3]) Tryd.func53 rfl rfl rfl (by decide) rfl ?_; simp only [argT]; have hD : (0 : Nat) = 0 := rfl
    repeat' first | (with_reducible refine And.intro (by omega) ?_) | (refine SW.seq_k fun K hK => ?_) | (refine SW.block ?_) | ((first | refine SW.region ?_ | refine SW.regionD (Checked.mixed Tryd.checked) (by kernel_rfl) ?_ | refine SW.cond ?_ | refine SW.skip ?_ | refine SW.exit ?_ | refine SW.ret ?_ | refine Call.of_pure (ce) ?_ | refine ⟨_, ce, ?_⟩ | (refine allF_i fun b hb => ?_; replace hD := And.intro hb hD; clear hb; try simp only [fresh_cons, fresh_nil, and_true, ne_eq, neF] at hD) | simp only [appK, appOsK]); try simp only [go_sem, hD]) | (refine And.intro (by omega) ?_) | (refine ifI (fun hc => ?_) (fun hc => ?_) <;> first | (exfalso; omega) | skip) | ((first | apply hK | ((iterate 1 (clear hK K)); apply hK) | ((iterate 2 (clear hK K)); apply hK) | ((iterate 3 (clear hK K)); apply hK) | ((iterate 4 (clear hK K)); apply hK) | ((iterate 5 (clear hK K)); apply hK)); clear hK K)
    refine ret_pure ?_; simp only [resL_tmp, resL_nil, tupOf, go_sem, hD]
  have ix : PCall Tryd.prog 69 [GL l, .fn (.func 53) [] [.fp [IL row]]] (I64 (rowI row 0 l)) := by
    obtain ⟨R, hR⟩ : ∃ R, R = rowI row 0 l := ⟨_, rfl⟩
    rw [← hR]
    refine Call.enter' (N := 19) (rs := [.tmp 4]) Tryd.func69 rfl rfl rfl (by decide) rfl ?_; simp only [argT]; have hD : (0 : Nat) = 0 := rfl
    repeat' first | (with_reducible refine And.intro (by omega) ?_) | (refine SW.seq_k fun K hK => ?_) | (refine SW.block ?_) | ((first | refine SW.region ?_ | refine SW.regionD (Checked.mixed Tryd.checked) (by kernel_rfl) ?_ | refine SW.cond ?_ | refine SW.skip ?_ | refine SW.exit ?_ | refine SW.ret ?_ | (refine allF_i fun b hb => ?_; replace hD := And.intro hb hD; clear hb; try simp only [fresh_cons, fresh_nil, and_true, ne_eq, neF] at hD) | simp only [appK, appOsK]); try simp only [go_sem, hD]) | (refine And.intro (by omega) ?_) | (refine ifI (fun hc => ?_) (fun hc => ?_) <;> first | (exfalso; omega) | skip) | ((first | apply hK | ((iterate 1 (clear hK K)); apply hK) | ((iterate 2 (clear hK K)); apply hK) | ((iterate 3 (clear hK K)); apply hK) | ((iterate 4 (clear hK K)); apply hK) | ((iterate 5 (clear hK K)); apply hK)); clear hK K)
    obtain ⟨I, hI⟩ : ∃ I : Nat → St → Prop, ∀ k S, I k S ↔ (∃ (i : Nat) , k = l.length - i ∧ i ≤ l.length ∧ R = rowI row i (l.drop i) ∧ S = ⟨[(0, GL l), (1, .fn (.func 53) [] [.fp [IL row]]), (7, I64 l.length), (8, I64 i)], []⟩) := ⟨fun k S => _, fun _ _ => Iff.rfl⟩
    refine SW.loop' I (l.length) ((hI _ _).2 ⟨0, rfl, Nat.zero_le _, by rw [List.drop_zero]; exact hR, rfl⟩) (by repeat' (first | exact rfl | exact trivial | exact int_eq (by omega) | exact int_eq (by (rw [i64_wrap] <;> omega)) | constructor)) ?_
    intro k S hIn
    obtain ⟨i, rfl, hi, hC, rfl⟩ := (hI _ _).1 hIn
    clear hIn
    have ie : ((i : Nat) : Int).toNat = i := Int.toNat_natCast _
    have i0 : (0 : Int) ≤ ((i : Nat) : Int) := by omega
    clear hR
    by_cases hlt : i < l.length
    · have hli : ((i : Nat) : Int) < (((l.length) : Nat) : Int) := by omega
      have w1 : IntKind.i64.wrap ((i : Int) + 1) = ((i + 1 : Nat) : Int) := by rw [i64_wrap (by omega) (by omega)]; omega
      rw [rowI_step hlt] at hC
      have fi : gF l i = [IL (l.getD i [])] := rfl
      have c := c1 _ (getD_mem' [] hlt)
      generalize l.getD i [] = t at *
      by_cases he : t = row
      · rw [if_pos he] at hC
        rw [decide_eq_true he] at c
        subst hC
        repeat' first | (with_reducible refine And.intro (by omega) ?_) | (refine SW.seq_k fun K hK => ?_) | (refine SW.block ?_) | ((first | refine SW.region ?_ | refine SW.regionD (Checked.mixed Tryd.checked) (by kernel_rfl) ?_ | refine SW.cond ?_ | refine SW.skip ?_ | refine SW.exit ?_ | refine SW.ret ?_ | refine Call.of_pure (c) ?_ | refine ⟨_, c, ?_⟩ | (refine allF_i fun b hb => ?_; replace hD := And.intro hb hD; clear hb; try simp only [fresh_cons, fresh_nil, and_true, ne_eq, neF] at hD) | simp only [appK, appOsK]); try simp only [go_sem, hD, hli, ie, i0, w1, fi]) | (refine And.intro (by omega) ?_) | (refine ifI (fun hc => ?_) (fun hc => ?_) <;> first | (exfalso; omega) | skip) | ((first | apply hK | ((iterate 1 (clear hK K)); apply hK) | ((iterate 2 (clear hK K)); apply hK) | ((iterate 3 (clear hK K)); apply hK) | ((iterate 4 (clear hK K)); apply hK) | ((iterate 5 (clear hK K)); apply hK)); clear hK K)
        refine ret_pure ?_; simp only [resL_tmp, resL_nil, tupOf, go_sem, hD]
      · rw [if_neg he] at hC
        rw [decide_eq_false he] at c
        repeat' first | (with_reducible refine And.intro (by omega) ?_) | (refine SW.seq_k fun K hK => ?_) | (refine SW.block ?_) | ((first | refine SW.region ?_ | refine SW.regionD (Checked.mixed Tryd.checked) (by kernel_rfl) ?_ | refine SW.cond ?_ | refine SW.skip ?_ | refine SW.exit ?_ | refine SW.ret ?_ | refine Call.of_pure (c) ?_ | refine ⟨_, c, ?_⟩ | (refine allF_i fun b hb => ?_; replace hD := And.intro hb hD; clear hb; try simp only [fresh_cons, fresh_nil, and_true, ne_eq, neF] at hD) | simp only [appK, appOsK]); try simp only [go_sem, hD, hli, ie, i0, w1, fi]) | (refine And.intro (by omega) ?_) | (refine ifI (fun hc => ?_) (fun hc => ?_) <;> first | (exfalso; omega) | skip) | ((first | apply hK | ((iterate 1 (clear hK K)); apply hK) | ((iterate 2 (clear hK K)); apply hK) | ((iterate 3 (clear hK K)); apply hK) | ((iterate 4 (clear hK K)); apply hK) | ((iterate 5 (clear hK K)); apply hK)); clear hK K)
        refine Rnd.sub (l.length - (i + 1)) (by omega) ((hI _ _).2 ⟨i + 1, rfl, by omega, hC, rfl⟩) (by repeat' (first | exact rfl | exact trivial | exact int_eq (by omega) | exact int_eq (by (rw [i64_wrap] <;> omega)) | constructor))
    · have hli : ¬ ((i : Nat) : Int) < (((l.length) : Nat) : Int) := by omega
      rw [List.drop_of_length_le (by omega)] at hC
      have hC2 : R = -1 := hC
      subst hC2
      repeat' first | (with_reducible refine And.intro (by omega) ?_) | (refine SW.seq_k fun K hK => ?_) | (refine SW.block ?_) | ((first | refine SW.region ?_ | refine SW.regionD (Checked.mixed Tryd.checked) (by kernel_rfl) ?_ | refine SW.cond ?_ | refine SW.skip ?_ | refine SW.exit ?_ | refine SW.ret ?_ | (refine allF_i fun b hb => ?_; replace hD := And.intro hb hD; clear hb; try simp only [fresh_cons, fresh_nil, and_true, ne_eq, neF] at hD) | simp only [appK, appOsK]); try simp only [go_sem, hD, hli]) | (refine And.intro (by omega) ?_) | (refine ifI (fun hc => ?_) (fun hc => ?_) <;> first | (exfalso; omega) | skip) | ((first | apply hK | ((iterate 1 (clear hK K)); apply hK) | ((iterate 2 (clear hK K)); apply hK) | ((iterate 3 (clear hK K)); apply hK) | ((iterate 4 (clear hK K)); apply hK) | ((iterate 5 (clear hK K)); apply hK)); clear hK K)
      refine ret_pure ?_; simp only [resL_tmp, resL_nil, tupOf, go_sem, hD]
  have e : decide (row ∈ l) = decide (0 ≤ rowI row 0 l) := by rw [Bool.eq_iff_iff, decide_eq_true_iff, decide_eq_true_iff]; exact rowI_mem.symm
  rw [e]
  generalize rowI row 0 l = R at *
  refine Call.enter' (N := 9) (rs := [.tmp 4]) Tryd.func52 rfl rfl rfl (by decide) rfl ?_; simp only [argT]; have hD : (0 : Nat) = 0 := rfl
  repeat' first | (with_reducible refine And.intro (by omega) ?_) | (refine SW.seq_k fun K hK => ?_) | (refine SW.block ?_) | ((first | refine SW.region ?_ | refine SW.regionD (Checked.mixed Tryd.checked) (by kernel_rfl) ?_ | refine SW.cond ?_ | refine SW.skip ?_ | refine SW.exit ?_ | refine SW.ret ?_ | refine Call.of_pure (ix) ?_ | refine ⟨_, ix, ?_⟩ | (refine allF_i fun b hb => ?_; replace hD := And.intro hb hD; clear hb; try simp only [fresh_cons, fresh_nil, and_true, ne_eq, neF] at hD) | simp only [appK, appOsK]); try simp only [go_sem, hD]) | (refine And.intro (by omega) ?_) | (refine ifI (fun hc => ?_) (fun hc => ?_) <;> first | (exfalso; omega) | skip) | ((first | apply hK | ((iterate 1 (clear hK K)); apply hK) | ((iterate 2 (clear hK K)); apply hK) | ((iterate 3 (clear hK K)); apply hK) | ((iterate 4 (clear hK K)); apply hK) | ((iterate 5 (clear hK K)); apply hK)); clear hK K)
  refine ret_pure ?_; simp only [resL_tmp, resL_nil, tupOf, go_sem, hD]
end Go.Proofs.YtblfodnajpamfaaDoor
