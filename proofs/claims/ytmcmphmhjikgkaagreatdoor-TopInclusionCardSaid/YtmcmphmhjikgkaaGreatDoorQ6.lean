/- Several texts in one: L5. -/
import Derived.Test.YtmcmphmhjikgkaaGreatDoorQ5
import Derived.Test.YtmcmphmhjikgkaaGreatDoorQ3
import Derived.Test.YtmcmphmhjikgkaaGreatDoorAw1
set_option linter.unusedSimpArgs false
set_option linter.unusedVariables false
set_option linter.unusedSectionVars false
set_option maxHeartbeats 4000000
set_option maxRecDepth 20000
namespace Go.Ab.A15
open Go Go.Ab Go.Ab.A34
theorem refOut_none {db : List Tb} {l : List Dp} {g : Dp} (h : ¬ ∃ ws z, GoodW db l g ws z) : refOut db l g = .tup [.agg [SN], I64 3] := by
  unfold refOut
  rw [dif_neg h]
end Go.Ab.A15
namespace Go.Proofs.YtmcmphmhjikgkaaGreatDoor
open Go Go.Ab Go.Ab.A34 Go.Ab.A15
variable [Gl] [Tabs] [Bru]
theorem law_incl (d : List Rc) (l : List Lk) (g : Lk) (hd : OkRcs d) (hdl : d.length ≤ 9223372036854775807) (hl : OkKs l) (hg : OkK g) :
    PCall Tryz.prog 4 [RcL d, LkL l, LkV g] (SB true) := by
  have of := of_r d hd hdl
  have aw := awake_c
  obtain ⟨gf, gt, gl, gr⟩ := g
  rcases draft_cases d l with h1 | ⟨h1, h2⟩ | ⟨h1, h5, h0, h3⟩ | ⟨h1, h5, h0, h3⟩
  · rw [ofV_bad h1] at of
    refine Call.enter' (N := 136) (rs := [.tmp 6]) Tryz.func4 rfl rfl rfl (by decide) rfl ?_; simp only [argT]; have hD : (0 : Nat) = 0 := rfl
    repeat' first | (with_reducible refine And.intro (by omega) ?_) | (refine SW.seq_k fun K hK => ?_) | (refine SW.block ?_) | ((first | refine SW.region ?_ | refine SW.regionD (Checked.mixed Tryz.checked) (by kernel_rfl) ?_ | refine SW.cond ?_ | refine SW.skip ?_ | refine SW.exit ?_ | refine SW.ret ?_ | refine Call.of_pure (of) ?_ | refine ⟨_, of, ?_⟩ | refine Call.of_pure (aw) ?_ | refine ⟨_, aw, ?_⟩ | (refine allF_i fun b hb => ?_; replace hD := And.intro hb hD; clear hb; try simp only [fresh_cons, fresh_nil, and_true, ne_eq, neF] at hD) | simp only [appK, appOsK]); try simp only [go_sem, hD, true_implies]) | (refine And.intro (by omega) ?_) | (refine ifI (fun hc => ?_) (fun hc => ?_) <;> first | (exfalso; omega) | skip) | (apply hK; clear hK K) | (clear hK K; apply hK; clear hK K) | (clear hK K; clear hK K; apply hK; clear hK K) | (clear hK K; clear hK K; clear hK K; apply hK; clear hK K) | (clear hK K; clear hK K; clear hK K; clear hK K; apply hK; clear hK K) | (clear hK K; clear hK K; clear hK K; clear hK K; clear hK K; apply hK; clear hK K)
    refine ret_pure ?_; simp only [resL_tmp, resL_nil, tupOf, go_sem, hD]
  · rw [ofV_good h1] at of
    have li := list_bad (ofT d) l h2
    generalize ofT d = db at *
    generalize decide (d.length ≤ 3) = D3 at *
    cases D3
    · refine Call.enter' (N := 136) (rs := [.tmp 6]) Tryz.func4 rfl rfl rfl (by decide) rfl ?_; simp only [argT]; have hD : (0 : Nat) = 0 := rfl
      repeat' first | (with_reducible refine And.intro (by omega) ?_) | (refine SW.seq_k fun K hK => ?_) | (refine SW.block ?_) | ((first | refine SW.region ?_ | refine SW.regionD (Checked.mixed Tryz.checked) (by kernel_rfl) ?_ | refine SW.cond ?_ | refine SW.skip ?_ | refine SW.exit ?_ | refine SW.ret ?_ | refine Call.of_pure (of) ?_ | refine ⟨_, of, ?_⟩ | refine Call.of_pure (li) ?_ | refine ⟨_, li, ?_⟩ | refine Call.of_pure (aw) ?_ | refine ⟨_, aw, ?_⟩ | (refine allF_i fun b hb => ?_; replace hD := And.intro hb hD; clear hb; try simp only [fresh_cons, fresh_nil, and_true, ne_eq, neF] at hD) | simp only [appK, appOsK]); try simp only [go_sem, hD, true_implies]) | (refine And.intro (by omega) ?_) | (refine ifI (fun hc => ?_) (fun hc => ?_) <;> first | (exfalso; omega) | skip) | (apply hK; clear hK K) | (clear hK K; apply hK; clear hK K) | (clear hK K; clear hK K; apply hK; clear hK K) | (clear hK K; clear hK K; clear hK K; apply hK; clear hK K) | (clear hK K; clear hK K; clear hK K; clear hK K; apply hK; clear hK K) | (clear hK K; clear hK K; clear hK K; clear hK K; clear hK K; apply hK; clear hK K)
      refine ret_pure ?_; simp only [resL_tmp, resL_nil, tupOf, go_sem, hD]
    · refine Call.enter' (N := 136) (rs := [.tmp 6]) Tryz.func4 rfl rfl rfl (by decide) rfl ?_; simp only [argT]; have hD : (0 : Nat) = 0 := rfl
      repeat' first | (with_reducible refine And.intro (by omega) ?_) | (refine SW.seq_k fun K hK => ?_) | (refine SW.block ?_) | ((first | refine SW.region ?_ | refine SW.regionD (Checked.mixed Tryz.checked) (by kernel_rfl) ?_ | refine SW.cond ?_ | refine SW.skip ?_ | refine SW.exit ?_ | refine SW.ret ?_ | refine Call.of_pure (of) ?_ | refine ⟨_, of, ?_⟩ | refine Call.of_pure (li) ?_ | refine ⟨_, li, ?_⟩ | refine Call.of_pure (aw) ?_ | refine ⟨_, aw, ?_⟩ | (refine allF_i fun b hb => ?_; replace hD := And.intro hb hD; clear hb; try simp only [fresh_cons, fresh_nil, and_true, ne_eq, neF] at hD) | simp only [appK, appOsK]); try simp only [go_sem, hD, true_implies]) | (refine And.intro (by omega) ?_) | (refine ifI (fun hc => ?_) (fun hc => ?_) <;> first | (exfalso; omega) | skip) | (apply hK; clear hK K) | (clear hK K; apply hK; clear hK K) | (clear hK K; clear hK K; apply hK; clear hK K) | (clear hK K; clear hK K; clear hK K; apply hK; clear hK K) | (clear hK K; clear hK K; clear hK K; clear hK K; apply hK; clear hK K) | (clear hK K; clear hK K; clear hK K; clear hK K; clear hK K; apply hK; clear hK K)
      refine ret_pure ?_; simp only [resL_tmp, resL_nil, tupOf, go_sem, hD]
  · rw [ofV_good h1, decide_eq_false h3] at of
    generalize ofT d = db at *
    refine Call.enter' (N := 136) (rs := [.tmp 6]) Tryz.func4 rfl rfl rfl (by decide) rfl ?_; simp only [argT]; have hD : (0 : Nat) = 0 := rfl
    repeat' first | (with_reducible refine And.intro (by omega) ?_) | (refine SW.seq_k fun K hK => ?_) | (refine SW.block ?_) | ((first | refine SW.region ?_ | refine SW.regionD (Checked.mixed Tryz.checked) (by kernel_rfl) ?_ | refine SW.cond ?_ | refine SW.skip ?_ | refine SW.exit ?_ | refine SW.ret ?_ | refine Call.of_pure (of) ?_ | refine ⟨_, of, ?_⟩ | refine Call.of_pure (aw) ?_ | refine ⟨_, aw, ?_⟩ | (refine allF_i fun b hb => ?_; replace hD := And.intro hb hD; clear hb; try simp only [fresh_cons, fresh_nil, and_true, ne_eq, neF] at hD) | simp only [appK, appOsK]); try simp only [go_sem, hD, true_implies]) | (refine And.intro (by omega) ?_) | (refine ifI (fun hc => ?_) (fun hc => ?_) <;> first | (exfalso; omega) | skip) | (apply hK; clear hK K) | (clear hK K; apply hK; clear hK K) | (clear hK K; clear hK K; apply hK; clear hK K) | (clear hK K; clear hK K; clear hK K; apply hK; clear hK K) | (clear hK K; clear hK K; clear hK K; clear hK K; apply hK; clear hK K) | (clear hK K; clear hK K; clear hK K; clear hK K; clear hK K; apply hK; clear hK K)
    refine ret_pure ?_; simp only [resL_tmp, resL_nil, tupOf, go_sem, hD]
  rw [ofV_good h1, decide_eq_true h3] at of
  have Dr := ofT_dra h1
  have h3' := Dr.n3
  have li := list_r (ofT d) l hl h5 h0 (by omega) (dra_at Dr)
  have ig := ind_r (ofT d) ⟨gf, gt, gl, gr⟩ hg h0 (by omega) (dra_at Dr)
  have hf := dra_few Dr h0 l ⟨gf, gt, gl, gr⟩ h5
  have V := dra_vall Dr h0 l ⟨gf, gt, gl, gr⟩
  have hL5 : (l.map (indS (ofT d))).length ≤ 5 := by rw [List.length_map]; exact h5
  clear Dr
  generalize indS (ofT d) ⟨gf, gt, gl, gr⟩ = G at *
  generalize (l.map (indS (ofT d))) = L at *
  generalize ofT d = db at *
  have hall := allS_of V (by omega)
  have hS := V.small hf.d4 hf.g3
  have im := implies_p db L G hf hall
  by_cases hn : findS G.t G.r 0 (states L G) < 0
  · rw [decide_eq_false (by omega)] at im
    have pr := prove_no db L G hf hall hn
    have rf := refute_no db L G hf hall hn
    have hneg := (dist_neg (l := L) (g := G)).2 hn
    have ck0 := check_i db L G [] (by omega) hf.ll hf.okl hf.okg hall ⟨by simp, fun p hp => absurd hp List.not_mem_nil⟩
    have hck : chkP L G.t G.r [] G.f G.l = false := by
      rw [Bool.eq_false_iff]
      intro h
      have k := chk_known (fun d hd => (V.l d hd).nl) (states_ok hS.bds).2 h (root_known (states_ok hS.bds).1)
      omega
    rw [hck] at ck0
    have ck := PCall.nilA (args := [DB db, DpL L, DV G, SN]) 3 (by simp) rfl ck0
    clear ck0 hck
    by_cases hG : ∃ ws z, GoodW db L G ws z
    · obtain ⟨ws, z, hG⟩ := hG
      rw [refOut_yes hG] at rf
      have K := ref_k V hG hf.d4 hf.g3 hneg
      have hR4 : (refW db ws).length ≤ 4 := by rw [K.len]; exact hf.d4
      generalize refW db ws = R at *
      have hh := fun x (hx : x ∈ L) => holds_p R x (by omega) (hf.okl x hx) K.okn
      have hg2 := holds_p R G (by omega) hf.okg K.okn
      rw [K.no, K.vg] at hg2
      have hh2 : ∀ x ∈ L, PCall Tryz.prog 22 [DB R, DV x] (.tup [SB true, I64 0]) := fun x hx => by
        have := hh x hx
        rwa [K.all x hx, K.vl x hx] at this
      clear hh K hG
      obtain ⟨Gf, Gl', Gt, Gr⟩ := G
      refine Call.enter' (N := 136) (rs := [.tmp 6]) Tryz.func4 rfl rfl rfl (by decide) rfl ?_; simp only [argT]; have hD : (0 : Nat) = 0 := rfl
      repeat' first | (with_reducible refine And.intro (by omega) ?_) | (refine SW.seq_k fun K hK => ?_) | (refine SW.block ?_) | ((first | refine SW.region ?_ | refine SW.regionD (Checked.mixed Tryz.checked) (by kernel_rfl) ?_ | refine SW.cond ?_ | refine SW.skip ?_ | refine SW.exit ?_ | refine SW.ret ?_ | refine Call.of_pure (of) ?_ | refine ⟨_, of, ?_⟩ | refine Call.of_pure (aw) ?_ | refine ⟨_, aw, ?_⟩ | refine Call.of_pure (li) ?_ | refine ⟨_, li, ?_⟩ | refine Call.of_pure (ig) ?_ | refine ⟨_, ig, ?_⟩ | refine Call.of_pure (im) ?_ | refine ⟨_, im, ?_⟩ | refine Call.of_pure (pr) ?_ | refine ⟨_, pr, ?_⟩ | refine Call.of_pure (rf) ?_ | refine ⟨_, rf, ?_⟩ | refine Call.of_pure (ck) ?_ | refine ⟨_, ck, ?_⟩ | (refine allF_i fun b hb => ?_; replace hD := And.intro hb hD; clear hb; try simp only [fresh_cons, fresh_nil, and_true, ne_eq, neF] at hD) | simp only [appK, appOsK]); try simp only [go_sem, hD, true_implies]) | (refine And.intro (by omega) ?_) | (refine ifI (fun hc => ?_) (fun hc => ?_) <;> first | (exfalso; omega) | skip) | (apply hK; clear hK K) | (clear hK K; apply hK; clear hK K) | (clear hK K; clear hK K; apply hK; clear hK K) | (clear hK K; clear hK K; clear hK K; apply hK; clear hK K) | (clear hK K; clear hK K; clear hK K; clear hK K; apply hK; clear hK K) | (clear hK K; clear hK K; clear hK K; clear hK K; clear hK K; apply hK; clear hK K)
      obtain ⟨rb, rfl⟩ : ∃ x, x = b := ⟨_, rfl⟩
      obtain ⟨gb, rfl⟩ : ∃ x, x = b := ⟨_, rfl⟩
      have e1 : ¬ rb = gb := by simp [hD]
      have hD0 := And.intro (eq_false e1) (eq_false (Ne.symm e1))
      have hll := hf.ll
      have hLd : ∀ i, i < L.length → PCall Tryz.prog 22 [DB R, DV (L.getD i d0)] (.tup [SB true, I64 0]) := fun i hi => hh2 _ (getD_mem' d0 hi)
      clear hh2 of aw li ig im pr rf ck
      refine Ab.SW.le (St.le_pick [(rb, .svs [TL R]), (gb, .svs (dC ⟨Gf, Gl', Gt, Gr⟩))] ?_ ?_) ?_
      · repeat' (first | exact (fun x hx => (List.not_mem_nil hx).elim) | refine List.forall_mem_cons.2 ⟨?_, ?_⟩ | exact List.mem_cons_self | apply List.mem_cons_of_mem)
      · simp [fresh_cons, fresh_nil, hD]
      obtain ⟨I, hI⟩ : ∃ I : Nat → St → Prop, ∀ k S, I k S ↔ (∃ (i : Nat) , k = L.length - i ∧ i ≤ L.length ∧ S = ⟨[(11, .op gb 0), (16, .op rb 0), (105, DpL L), (106, I64 L.length), (107, I64 i)], [(rb, .svs [TL R]), (gb, .svs (dC ⟨Gf, Gl', Gt, Gr⟩))]⟩) := ⟨fun k S => _, fun _ _ => Iff.rfl⟩
      refine SW.loop' I (L.length) ((hI _ _).2 ⟨0, rfl, Nat.zero_le _, rfl⟩) (by repeat' (first | exact rfl | exact trivial | exact int_eq (by omega) | exact int_eq (by (rw [i64_wrap] <;> omega)) | constructor)) ?_
      intro k S hIn
      obtain ⟨i, rfl, hi, rfl⟩ := (hI _ _).1 hIn
      clear hIn
      have ie : ((i : Nat) : Int).toNat = i := Int.toNat_natCast _
      have i0 : (0 : Int) ≤ ((i : Nat) : Int) := by omega
      clear hD
      have hD := hD0
      by_cases hlt : i < L.length
      · have hli : ((i : Nat) : Int) < (((L.length) : Nat) : Int) := by omega
        have w1 : IntKind.i64.wrap ((i : Int) + 1) = ((i + 1 : Nat) : Int) := by rw [i64_wrap (by omega) (by omega)]; omega
        have fd : dpF L i = dC (L.getD i d0) := rfl
        have c := hLd i hlt
        generalize L.getD i d0 = dd at *
        obtain ⟨df, dl, dt, dr⟩ := dd
        have c2 : PCall Tryz.prog 22 [.agg [TL R], .agg [Str df, IL dl, Str dt, IL dr]] (.tup [SB true, I64 0]) := c
        repeat' first | (with_reducible refine And.intro (by omega) ?_) | (refine SW.seq_k fun K hK => ?_) | (refine SW.block ?_) | ((first | refine SW.region ?_ | refine SW.regionD (Checked.mixed Tryz.checked) (by kernel_rfl) ?_ | refine SW.cond ?_ | refine SW.skip ?_ | refine SW.exit ?_ | refine SW.ret ?_ | refine Call.of_pure (c2) ?_ | refine ⟨_, c2, ?_⟩ | (refine allF_i fun b hb => ?_; replace hD := And.intro hb hD; clear hb; try simp only [fresh_cons, fresh_nil, and_true, ne_eq, neF] at hD) | simp only [appK, appOsK]); try simp only [go_sem, hD, hli, ie, i0, w1, fd, true_implies]) | (refine And.intro (by omega) ?_) | (refine ifI (fun hc => ?_) (fun hc => ?_) <;> first | (exfalso; omega) | skip) | (apply hK; clear hK K) | (clear hK K; apply hK; clear hK K) | (clear hK K; clear hK K; apply hK; clear hK K) | (clear hK K; clear hK K; clear hK K; apply hK; clear hK K) | (clear hK K; clear hK K; clear hK K; clear hK K; apply hK; clear hK K) | (clear hK K; clear hK K; clear hK K; clear hK K; clear hK K; apply hK; clear hK K)
        refine Rnd.le (St.le_pick _ ?_ ?_) (Rnd.sub (L.length - (i + 1)) (by omega) ((hI _ _).2 ⟨i + 1, rfl, by omega, rfl⟩) (by repeat' (first | exact rfl | exact trivial | exact int_eq (by omega) | exact int_eq (by (rw [i64_wrap] <;> omega)) | constructor)))
        · repeat' (first | exact (fun x hx => (List.not_mem_nil hx).elim) | refine List.forall_mem_cons.2 ⟨?_, ?_⟩ | exact List.mem_cons_self | apply List.mem_cons_of_mem)
        · simp [fresh_cons, fresh_nil, hD]
      · have hli : ¬ ((i : Nat) : Int) < (((L.length) : Nat) : Int) := by omega
        repeat' first | (with_reducible refine And.intro (by omega) ?_) | (refine SW.seq_k fun K hK => ?_) | (refine SW.block ?_) | ((first | refine SW.region ?_ | refine SW.regionD (Checked.mixed Tryz.checked) (by kernel_rfl) ?_ | refine SW.cond ?_ | refine SW.skip ?_ | refine SW.exit ?_ | refine SW.ret ?_ | refine Call.of_pure (hg2) ?_ | refine ⟨_, hg2, ?_⟩ | (refine allF_i fun b hb => ?_; replace hD := And.intro hb hD; clear hb; try simp only [fresh_cons, fresh_nil, and_true, ne_eq, neF] at hD) | simp only [appK, appOsK]); try simp only [go_sem, hD, hli, true_implies]) | (refine And.intro (by omega) ?_) | (refine ifI (fun hc => ?_) (fun hc => ?_) <;> first | (exfalso; omega) | skip) | (apply hK; clear hK K) | (clear hK K; apply hK; clear hK K) | (clear hK K; clear hK K; apply hK; clear hK K) | (clear hK K; clear hK K; clear hK K; apply hK; clear hK K) | (clear hK K; clear hK K; clear hK K; clear hK K; apply hK; clear hK K) | (clear hK K; clear hK K; clear hK K; clear hK K; clear hK K; apply hK; clear hK K)
        refine ret_pure ?_; simp only [resL_tmp, resL_nil, tupOf, go_sem, hD]
    · rw [refOut_none hG] at rf
      obtain ⟨Gf, Gl', Gt, Gr⟩ := G
      refine Call.enter' (N := 136) (rs := [.tmp 6]) Tryz.func4 rfl rfl rfl (by decide) rfl ?_; simp only [argT]; have hD : (0 : Nat) = 0 := rfl
      repeat' first | (with_reducible refine And.intro (by omega) ?_) | (refine SW.seq_k fun K hK => ?_) | (refine SW.block ?_) | ((first | refine SW.region ?_ | refine SW.regionD (Checked.mixed Tryz.checked) (by kernel_rfl) ?_ | refine SW.cond ?_ | refine SW.skip ?_ | refine SW.exit ?_ | refine SW.ret ?_ | refine Call.of_pure (of) ?_ | refine ⟨_, of, ?_⟩ | refine Call.of_pure (aw) ?_ | refine ⟨_, aw, ?_⟩ | refine Call.of_pure (li) ?_ | refine ⟨_, li, ?_⟩ | refine Call.of_pure (ig) ?_ | refine ⟨_, ig, ?_⟩ | refine Call.of_pure (im) ?_ | refine ⟨_, im, ?_⟩ | refine Call.of_pure (pr) ?_ | refine ⟨_, pr, ?_⟩ | refine Call.of_pure (rf) ?_ | refine ⟨_, rf, ?_⟩ | refine Call.of_pure (ck) ?_ | refine ⟨_, ck, ?_⟩ | (refine allF_i fun b hb => ?_; replace hD := And.intro hb hD; clear hb; try simp only [fresh_cons, fresh_nil, and_true, ne_eq, neF] at hD) | simp only [appK, appOsK]); try simp only [go_sem, hD, true_implies]) | (refine And.intro (by omega) ?_) | (refine ifI (fun hc => ?_) (fun hc => ?_) <;> first | (exfalso; omega) | skip) | (apply hK; clear hK K) | (clear hK K; apply hK; clear hK K) | (clear hK K; clear hK K; apply hK; clear hK K) | (clear hK K; clear hK K; clear hK K; apply hK; clear hK K) | (clear hK K; clear hK K; clear hK K; clear hK K; apply hK; clear hK K) | (clear hK K; clear hK K; clear hK K; clear hK K; clear hK K; apply hK; clear hK K)
      refine ret_pure ?_; simp only [resL_tmp, resL_nil, tupOf, go_sem, hD]
  · rw [decide_eq_true (by omega)] at im
    have pr := prove_p db L G hf hall hn
    have rf := refute_yes db L G hf hall (by omega)
    obtain ⟨k1, k2⟩ := proof_ok hS.bds (by omega)
    have hPl : OkP (proofS L G) := proof_okp hS hn
    have ck := check_i db L G (proofS L G) (by omega) hf.ll hf.okl hf.okg hall hPl
    rw [k1] at ck
    generalize proofS L G = P at *
    obtain ⟨Gf, Gl', Gt, Gr⟩ := G
    refine Call.enter' (N := 136) (rs := [.tmp 6]) Tryz.func4 rfl rfl rfl (by decide) rfl ?_; simp only [argT]; have hD : (0 : Nat) = 0 := rfl
    repeat' first | (with_reducible refine And.intro (by omega) ?_) | (refine SW.seq_k fun K hK => ?_) | (refine SW.block ?_) | ((first | refine SW.region ?_ | refine SW.regionD (Checked.mixed Tryz.checked) (by kernel_rfl) ?_ | refine SW.cond ?_ | refine SW.skip ?_ | refine SW.exit ?_ | refine SW.ret ?_ | refine Call.of_pure (of) ?_ | refine ⟨_, of, ?_⟩ | refine Call.of_pure (aw) ?_ | refine ⟨_, aw, ?_⟩ | refine Call.of_pure (li) ?_ | refine ⟨_, li, ?_⟩ | refine Call.of_pure (ig) ?_ | refine ⟨_, ig, ?_⟩ | refine Call.of_pure (im) ?_ | refine ⟨_, im, ?_⟩ | refine Call.of_pure (pr) ?_ | refine ⟨_, pr, ?_⟩ | refine Call.of_pure (rf) ?_ | refine ⟨_, rf, ?_⟩ | refine Call.of_pure (ck) ?_ | refine ⟨_, ck, ?_⟩ | (refine allF_i fun b hb => ?_; replace hD := And.intro hb hD; clear hb; try simp only [fresh_cons, fresh_nil, and_true, ne_eq, neF] at hD) | simp only [appK, appOsK]); try simp only [go_sem, hD, true_implies]) | (refine And.intro (by omega) ?_) | (refine ifI (fun hc => ?_) (fun hc => ?_) <;> first | (exfalso; omega) | skip) | (apply hK; clear hK K) | (clear hK K; apply hK; clear hK K) | (clear hK K; clear hK K; apply hK; clear hK K) | (clear hK K; clear hK K; clear hK K; apply hK; clear hK K) | (clear hK K; clear hK K; clear hK K; clear hK K; apply hK; clear hK K) | (clear hK K; clear hK K; clear hK K; clear hK K; clear hK K; apply hK; clear hK K)
    refine ret_pure ?_; simp only [resL_tmp, resL_nil, tupOf, go_sem, hD]
end Go.Proofs.YtmcmphmhjikgkaaGreatDoor
