/- The law of errors: the walk. -/
import Derived.Test.YtblfodnajpamfaaGreatDoorQ7
set_option linter.unusedSimpArgs false
set_option linter.unusedVariables false
set_option linter.unusedSectionVars false
namespace Go.Ab.A15
open Go Go.Ab Go.Ab.A34
theorem fl_dC (l : List Dp) : flCells (dpF l) l.length = fC dC l := by
  have e : l = (List.range l.length).map fun i => l.getD i d0 := by
    refine List.ext_getElem (by simp) fun i h1 h2 => ?_
    simp [List.getD_eq_getElem?_getD, h1]
  unfold flCells fC
  conv => rhs; rw [e]
  rw [List.flatMap_map]
  rfl
theorem refOut_cases (db : List Tb) (l : List Dp) (g : Dp) : (∃ W, refOut db l g = .tup [DB W, I64 0]) ∨ refOut db l g = .tup [.agg [SN], I64 3] := by
  unfold refOut
  split
  · exact .inl ⟨_, rfl⟩
  · exact .inr rfl
end Go.Ab.A15
namespace Go.Proofs.YtblfodnajpamfaaGreatDoor
open Go Go.Ab Go.Ab.A34 Go.Ab.A15
variable [Gl] [Tabs]
set_option maxHeartbeats 1000000 in
set_option maxRecDepth 20000 in
theorem clone_d (l : List Dp) (hl : l.length ≤ 1000) : Ab.Call Tryz.prog 26 [DpL l] [] (fun r h' => (l = [] ∧ r = SN ∧ h' = []) ∨ ∃ b, r = .os b 0 l.length 4 ∧ h' = [(b, .svs (fC dC l))]) := by
  have hfm := fl_dC l
  refine Call.enter' (N := 8) (rs := [.tmp 2]) Tryz.func26 rfl rfl rfl (by decide) rfl ?_; simp only [argT]; have hD : (0 : Nat) = 0 := rfl
  refine SW.seq_k fun K0 hK0 => ?_
  refine SW.region ?_
  simp only [go_sem, hD]
  refine hK0 _ ?_
  clear hK0 K0
  refine SW.seq_k fun K hK => ?_
  refine SW.seq_k fun K2 hK2 => ?_
  refine SW.region_nil (i := 0) (j := 3) (k := 4) rfl rfl rfl rfl rfl rfl Tryz.underlying33 rfl (by decide) (by decide) (fun hn => ?_) ?_
  · refine hK2 _ ?_
    clear hK2 K2
    have hl0 : l = [] := List.eq_nil_of_length_eq_zero hn
    subst hl0
    repeat' first | (refine SW.seq_k fun K hK => ?_) | ((first | refine SW.region ?_ | refine SW.cond ?_ | refine SW.ret ?_); try simp only [go_sem, hD]) | ((first | apply hK | (clear hK K; apply hK) | (clear hK K; clear hK K; apply hK)); clear hK K)
    refine retQ_le (fun M w0 D N a w r => r) ?_
    simp only [resL_tmp, resL_nil, tupOf, go_sem, hD]
    try exact .inl ⟨rfl, rfl, rfl⟩
  · refine hK2 _ ?_
    clear hK2 K2
    repeat' first | (refine SW.seq_k fun K hK => ?_) | ((first | refine SW.region ?_ | refine SW.cond ?_ | refine SW.skip ?_ | (refine allF_i fun b hb => ?_; replace hD := And.intro hb hD; clear hb; try simp only [fresh_cons, fresh_nil, and_true, ne_eq, neF] at hD) | simp only [appK, appOsK]); try simp only [go_sem, hD]) | ((first | apply hK | (clear hK K; apply hK) | (clear hK K; clear hK K; apply hK)); clear hK K)
    rw [hfm]
    refine ⟨?_, by omega, by omega, allF_i fun b' hb' => ?_⟩
    · rw [List.all_eq_true]
      intro x hx
      obtain ⟨r, _, hr⟩ := List.mem_flatMap.1 hx
      simp only [List.mem_cons, List.not_mem_nil, or_false] at hr
      rcases hr with rfl | rfl | rfl | rfl <;> rfl
    · apply hK
      clear hK K
      repeat' (refine SW.ret ?_; try simp only [go_sem, hD])
      refine retQ_le (fun M w0 D N a w r => r) ?_
      simp only [resL_tmp, resL_nil, tupOf, go_sem, hD]
      exact .inr ⟨_, rfl, rfl⟩
set_option maxHeartbeats 4000000 in
set_option maxRecDepth 20000 in
theorem law_errors (db : List Tb) (l : List Dp) (g : Dp) (hdb : db.length ≤ 9223372036854775807) (hok : OkDb db) (hll : l.length ≤ 9223372036854775807) (hl : ∀ d ∈ l, OkD d) (hg : OkD g) :
    PCall Tryz.prog 6 [DB db, DpL l, DV g] (SB true) := by
  have aw := awake_c
  obtain ⟨W, fw⟩ : ∃ W, PCall Tryz.prog 25 [DB db] (SB W) := ⟨_, few_p db hdb⟩
  obtain ⟨gf, gl, gt, gr⟩ := g
  cases W with
  | false =>
    refine Call.enter' (N := 132) (rs := [.tmp 6]) Tryz.func6 rfl rfl rfl (by decide) rfl ?_; simp only [argT]; have hD : (0 : Nat) = 0 := rfl
    repeat' first | (refine SW.seq_k fun K hK => ?_) | ((first | refine SW.region ?_ | refine SW.cond ?_ | refine SW.ret ?_ | refine Call.of_pure (aw) ?_ | refine Call.of_pure (fw) ?_ | (refine allF_i fun b hb => ?_; replace hD := And.intro hb hD; clear hb; try simp only [fresh_cons, fresh_nil, and_true, ne_eq, neF] at hD)); try simp only [go_sem, hD, true_implies]) | ((first | apply hK | (clear hK K; apply hK) | (clear hK K; clear hK K; apply hK)); clear hK K)
    refine ret_pure ?_; simp only [resL_tmp, resL_nil, tupOf, go_sem, hD]
  | true =>
    by_cases h4 : 4 < db.length
    · have h4i : (4 : Int) < ((db.length : Nat) : Int) := by omega
      refine Call.enter' (N := 132) (rs := [.tmp 6]) Tryz.func6 rfl rfl rfl (by decide) rfl ?_; simp only [argT]; have hD : (0 : Nat) = 0 := rfl
      repeat' first | (refine SW.seq_k fun K hK => ?_) | ((first | refine SW.region ?_ | refine SW.cond ?_ | refine SW.ret ?_ | refine Call.of_pure (aw) ?_ | refine Call.of_pure (fw) ?_ | (refine allF_i fun b hb => ?_; replace hD := And.intro hb hD; clear hb; try simp only [fresh_cons, fresh_nil, and_true, ne_eq, neF] at hD)); try simp only [go_sem, hD, h4i, true_implies]) | ((first | apply hK | (clear hK K; apply hK) | (clear hK K; clear hK K; apply hK)); clear hK K)
      refine ret_pure ?_; simp only [resL_tmp, resL_nil, tupOf, go_sem, hD]
    have h4i : ¬ (4 : Int) < ((db.length : Nat) : Int) := by omega
    by_cases l4 : 4 < l.length
    · have l4i : (4 : Int) < ((l.length : Nat) : Int) := by omega
      refine Call.enter' (N := 132) (rs := [.tmp 6]) Tryz.func6 rfl rfl rfl (by decide) rfl ?_; simp only [argT]; have hD : (0 : Nat) = 0 := rfl
      repeat' first | (refine SW.seq_k fun K hK => ?_) | ((first | refine SW.region ?_ | refine SW.cond ?_ | refine SW.ret ?_ | refine Call.of_pure (aw) ?_ | refine Call.of_pure (fw) ?_ | (refine allF_i fun b hb => ?_; replace hD := And.intro hb hD; clear hb; try simp only [fresh_cons, fresh_nil, and_true, ne_eq, neF] at hD)); try simp only [go_sem, hD, h4i, l4i, true_implies]) | ((first | apply hK | (clear hK K; apply hK) | (clear hK K; clear hK K; apply hK)); clear hK K)
      refine ret_pure ?_; simp only [resL_tmp, resL_nil, tupOf, go_sem, hD]
    have l4i : ¬ (4 : Int) < ((l.length : Nat) : Int) := by omega
    have cl := clone_d l (by omega)
    refine Call.enter' (N := 132) (rs := [.tmp 6]) Tryz.func6 rfl rfl rfl (by decide) rfl ?_; simp only [argT]; have hD : (0 : Nat) = 0 := rfl
    repeat' first | (refine SW.seq_k fun K hK => ?_) | ((first | refine SW.region ?_ | refine SW.cond ?_ | refine SW.skip ?_ | refine Call.of_pure (aw) ?_ | refine Call.of_pure (fw) ?_ | (refine allF_i fun b hb => ?_; replace hD := And.intro hb hD; clear hb; try simp only [fresh_cons, fresh_nil, and_true, ne_eq, neF] at hD)); try simp only [go_sem, hD, h4i, l4i, true_implies]) | ((first | apply hK | (clear hK K; apply hK) | (clear hK K; clear hK K; apply hK)); clear hK K)
    obtain ⟨b5, rfl⟩ : ∃ x, x = b := ⟨_, rfl⟩
    obtain ⟨b3, rfl⟩ : ∃ x, x = b := ⟨_, rfl⟩
    refine Ab.SW.le (S' := ⟨[(1, DpL l), (3, .fp [TL db]), (5, .fp [Str gf, IL gl, Str gt, IL gr]), (6, SB false)], []⟩) ?_ ?_
    · refine St.le.trans (St.le_freezeP (i := 5) (b := b5) (off := 0) (n := 4) rfl (by rw [find_cons, if_pos rfl]) (by exact Nat.le_refl 4)) ?_
      simp only [getN, Blk.get, go_sem, hD]
      refine St.le.trans (St.le_freezeP (i := 3) (b := b3) (off := 0) (n := 1) rfl (by rw [find_cons, if_pos rfl]) (by exact Nat.le_refl 1)) ?_
      simp only [getN, Blk.get, go_sem, hD]
      exact St.le_sub (by repeat' (first | exact rfl | exact trivial | exact int_eq (by omega) | exact int_eq (by (rw [i64_wrap] <;> omega)) | constructor))
    clear hD
    have hD : (0 : Nat) = 0 := rfl
    have hML : (l ++ [⟨gf, gl, gt, gr⟩] : List Dp).length = l.length + 1 := by simp
    have hMl : (l ++ [⟨gf, gl, gt, gr⟩] : List Dp).getD l.length d0 = ⟨gf, gl, gt, gr⟩ := by simp [List.getD_eq_getElem?_getD]
    have hMc : fC dC l ++ [Str gf, IL gl, Str gt, IL gr] = fC dC (l ++ [⟨gf, gl, gt, gr⟩]) := fC_snoc (enc := dC) l ⟨gf, gl, gt, gr⟩
    have hM0 : l = [] → [Str gf, IL gl, Str gt, IL gr] = fC dC (l ++ [⟨gf, gl, gt, gr⟩]) := fun h => by rw [h]; rfl
    generalize hM : (l ++ [⟨gf, gl, gt, gr⟩] : List Dp) = M at *
    have key : ∃ C Q', (∀ S, Ab.SW Tryz.prog 132 C Q' S → K S) ∧ Ab.SW Tryz.prog 132 C Q' ⟨[(1, DpL l), (3, .fp [TL db]), (5, .fp [Str gf, IL gl, Str gt, IL gr]), (6, SB false), (39, DpL M), (40, I64 M.length), (41, I64 (0 : Nat))], []⟩ := by
      refine ⟨_, _, hK, ?_⟩
      clear hK K cl hMc hM0
      repeat' (refine SW.block ?_)
      obtain ⟨I, hI⟩ : ∃ I : Nat → St → Prop, ∀ k S, I k S ↔ (∃ (i : Nat) , k = M.length - i ∧ i ≤ M.length ∧ (∀ j, j < i → (M.getD j d0).l.length ≤ 3 ∧ (M.getD j d0).r.length ≤ 3) ∧ S = ⟨[(1, DpL l), (3, .fp [TL db]), (5, .fp [Str gf, IL gl, Str gt, IL gr]), (6, SB false), (39, DpL M), (40, I64 M.length), (41, I64 i)], []⟩) := ⟨fun k S => _, fun _ _ => Iff.rfl⟩
      refine SW.loop' I (M.length) ((hI _ _).2 ⟨0, rfl, Nat.zero_le _, (fun j hj => absurd hj (Nat.not_lt_zero _)), rfl⟩) (by repeat' (first | exact rfl | exact trivial | exact int_eq (by omega) | exact int_eq (by (rw [i64_wrap] <;> omega)) | constructor)) ?_
      intro k S hIn
      obtain ⟨i, rfl, hi, hG, rfl⟩ := (hI _ _).1 hIn
      clear hIn
      have ie : ((i : Nat) : Int).toNat = i := Int.toNat_natCast _
      have i0 : (0 : Int) ≤ ((i : Nat) : Int) := by omega
      by_cases hlt : i < M.length
      · have hli : ((i : Nat) : Int) < (((M.length) : Nat) : Int) := by omega
        have w1 : IntKind.i64.wrap ((i : Int) + 1) = ((i + 1 : Nat) : Int) := by rw [i64_wrap (by omega) (by omega)]; omega
        have fd : dpF M i = dC (M.getD i d0) := rfl
        have hG2 : ((M.getD i d0).l.length ≤ 3 ∧ (M.getD i d0).r.length ≤ 3) → ∀ j, j < i + 1 → (M.getD j d0).l.length ≤ 3 ∧ (M.getD j d0).r.length ≤ 3 := fun h1 j hj => by
          rcases Nat.lt_or_eq_of_le (Nat.lt_succ_iff.1 hj) with h | h
          · exact hG j h
          · rw [h]; exact h1
        generalize M.getD i d0 = dd at *
        obtain ⟨df, dl, dt, dr⟩ := dd
        simp only at hG2
        by_cases c1 : 3 < dl.length
        · have c1i : (3 : Int) < ((dl.length : Nat) : Int) := by omega
          repeat' first | (refine SW.seq_k fun K hK => ?_) | (refine SW.block ?_) | ((first | refine SW.region ?_ | refine SW.cond ?_ | refine SW.skip ?_ | refine SW.ret ?_ | (refine allF_i fun b hb => ?_; replace hD := And.intro hb hD; clear hb; try simp only [fresh_cons, fresh_nil, and_true, ne_eq, neF] at hD)); try simp only [go_sem, hD, hli, ie, i0, fd, c1i, true_implies]) | ((first | apply hK | (clear hK K; apply hK) | (clear hK K; clear hK K; apply hK)); clear hK K)
          refine ret_pure ?_; simp only [resL_tmp, resL_nil, tupOf, go_sem, hD]
        have c1i : ¬ (3 : Int) < ((dl.length : Nat) : Int) := by omega
        by_cases c2 : 3 < dr.length
        · have c2i : (3 : Int) < ((dr.length : Nat) : Int) := by omega
          repeat' first | (refine SW.seq_k fun K hK => ?_) | (refine SW.block ?_) | ((first | refine SW.region ?_ | refine SW.cond ?_ | refine SW.skip ?_ | refine SW.ret ?_ | (refine allF_i fun b hb => ?_; replace hD := And.intro hb hD; clear hb; try simp only [fresh_cons, fresh_nil, and_true, ne_eq, neF] at hD)); try simp only [go_sem, hD, hli, ie, i0, fd, c1i, c2i, true_implies]) | ((first | apply hK | (clear hK K; apply hK) | (clear hK K; clear hK K; apply hK)); clear hK K)
          refine ret_pure ?_; simp only [resL_tmp, resL_nil, tupOf, go_sem, hD]
        have c2i : ¬ (3 : Int) < ((dr.length : Nat) : Int) := by omega
        repeat' first | (refine SW.seq_k fun K hK => ?_) | (refine SW.block ?_) | ((first | refine SW.region ?_ | refine SW.cond ?_ | refine SW.skip ?_ | (refine allF_i fun b hb => ?_; replace hD := And.intro hb hD; clear hb; try simp only [fresh_cons, fresh_nil, and_true, ne_eq, neF] at hD)); try simp only [go_sem, hD, hli, ie, i0, w1, fd, c1i, c2i, true_implies]) | ((first | apply hK | (clear hK K; apply hK) | (clear hK K; clear hK K; apply hK)); clear hK K)
        refine Rnd.le St.le_drop (Rnd.sub (M.length - (i + 1)) (by omega) ((hI _ _).2 ⟨i + 1, rfl, by omega, hG2 ⟨by omega, by omega⟩, rfl⟩) (by repeat' (first | exact rfl | exact trivial | exact int_eq (by omega) | exact int_eq (by (rw [i64_wrap] <;> omega)) | constructor)))
      · have hli : ¬ ((i : Nat) : Int) < (((M.length) : Nat) : Int) := by omega
        obtain rfl : i = M.length := by omega
        have hg3 := hG l.length (by omega)
        rw [hMl] at hg3
        clear hG
        have hf : Few db l ⟨gf, gl, gt, gr⟩ := ⟨by omega, by omega, hl, hg, hg3.1, hg3.2⟩
        have ar := all_r db l ⟨gf, gl, gt, gr⟩ hdb hok (by omega) hl hg
        have bff : (false == false) = true := rfl
        have btt : (true == true) = true := rfl
        by_cases hA : allS db l ⟨gf, gl, gt, gr⟩ = 0
        · have V := allS_ok hA
          have hS := V.small hf.d4 hf.g3
          have dr := dist_r l ⟨gf, gl, gt, gr⟩ (nmsOf db) hS V.okL hf.ll (by have := hf.r3; omega)
          have ip := implies_p db l ⟨gf, gl, gt, gr⟩ hf hA
          have hx : distS l ⟨gf, gl, gt, gr⟩ < 0 ↔ findS gt gr 0 (states l ⟨gf, gl, gt, gr⟩) < 0 := dist_neg
          rw [hA] at ar
          by_cases hn : findS gt gr 0 (states l ⟨gf, gl, gt, gr⟩) < 0
          · have pr := prove_no db l ⟨gf, gl, gt, gr⟩ hf hA hn
            have rf := refute_no db l ⟨gf, gl, gt, gr⟩ hf hA hn
            rw [decide_eq_false (by show ¬ 0 ≤ findS gt gr 0 (states l ⟨gf, gl, gt, gr⟩); omega)] at ip
            have hx1 := hx.2 hn
            generalize distS l ⟨gf, gl, gt, gr⟩ = X at *
            have hx2 : ¬ 0 ≤ X := by omega
            rcases refOut_cases db l ⟨gf, gl, gt, gr⟩ with ⟨W, hW⟩ | hW
            · rw [hW] at rf
              repeat' first | (refine SW.seq_k fun K hK => ?_) | ((first | refine SW.region ?_ | refine SW.cond ?_ | refine SW.skip ?_ | refine SW.exit ?_ | refine SW.ret ?_ | refine Call.of_pure (ar) ?_ | refine Call.of_pure (ip) ?_ | refine Call.of_pure (pr) ?_ | refine Call.of_pure (rf) ?_ | refine Call.of_pure (dr) ?_ | (refine allF_i fun b hb => ?_; replace hD := And.intro hb hD; clear hb; try simp only [fresh_cons, fresh_nil, and_true, ne_eq, neF] at hD)); try simp only [go_sem, hD, hli, hx2, bff, btt, true_implies]) | ((first | apply hK | (clear hK K; apply hK) | (clear hK K; clear hK K; apply hK)); clear hK K)
              refine ret_pure ?_; simp only [resL_tmp, resL_nil, tupOf, go_sem, hD]
              try rfl
            · rw [hW] at rf
              repeat' first | (refine SW.seq_k fun K hK => ?_) | ((first | refine SW.region ?_ | refine SW.cond ?_ | refine SW.skip ?_ | refine SW.exit ?_ | refine SW.ret ?_ | refine Call.of_pure (ar) ?_ | refine Call.of_pure (ip) ?_ | refine Call.of_pure (pr) ?_ | refine Call.of_pure (rf) ?_ | refine Call.of_pure (dr) ?_ | (refine allF_i fun b hb => ?_; replace hD := And.intro hb hD; clear hb; try simp only [fresh_cons, fresh_nil, and_true, ne_eq, neF] at hD)); try simp only [go_sem, hD, hli, hx2, bff, btt, true_implies]) | ((first | apply hK | (clear hK K; apply hK) | (clear hK K; clear hK K; apply hK)); clear hK K)
              refine ret_pure ?_; simp only [resL_tmp, resL_nil, tupOf, go_sem, hD]
              try rfl
          · have pr := prove_p db l ⟨gf, gl, gt, gr⟩ hf hA hn
            have rf := refute_yes db l ⟨gf, gl, gt, gr⟩ hf hA (by show 0 ≤ findS gt gr 0 (states l ⟨gf, gl, gt, gr⟩); omega)
            rw [decide_eq_true (by show 0 ≤ findS gt gr 0 (states l ⟨gf, gl, gt, gr⟩); omega)] at ip
            have hx2 : 0 ≤ distS l ⟨gf, gl, gt, gr⟩ := by have := fun h => hn (hx.1 h); omega
            generalize distS l ⟨gf, gl, gt, gr⟩ = X at *
            generalize proofS l ⟨gf, gl, gt, gr⟩ = P at *
            repeat' first | (refine SW.seq_k fun K hK => ?_) | ((first | refine SW.region ?_ | refine SW.cond ?_ | refine SW.skip ?_ | refine SW.exit ?_ | refine SW.ret ?_ | refine Call.of_pure (ar) ?_ | refine Call.of_pure (ip) ?_ | refine Call.of_pure (pr) ?_ | refine Call.of_pure (rf) ?_ | refine Call.of_pure (dr) ?_ | (refine allF_i fun b hb => ?_; replace hD := And.intro hb hD; clear hb; try simp only [fresh_cons, fresh_nil, and_true, ne_eq, neF] at hD)); try simp only [go_sem, hD, hli, hx2, bff, btt, true_implies]) | ((first | apply hK | (clear hK K; apply hK) | (clear hK K; clear hK K; apply hK)); clear hK K)
            refine ret_pure ?_; simp only [resL_tmp, resL_nil, tupOf, go_sem, hD]
            try rfl
        · have ib := implies_bad db l ⟨gf, gl, gt, gr⟩ hf hA
          have pb := prove_bad db l ⟨gf, gl, gt, gr⟩ hf hA
          have rb := refute_bad db l ⟨gf, gl, gt, gr⟩ hf hA
          have cb := check_bad db l ⟨gf, gl, gt, gr⟩ SN (by omega) hf.ll hl hg hA
          generalize allS db l ⟨gf, gl, gt, gr⟩ = v at *
          repeat' first | (refine SW.seq_k fun K hK => ?_) | ((first | refine SW.region ?_ | refine SW.cond ?_ | refine SW.exit ?_ | refine SW.ret ?_ | refine Call.of_pure (ar) ?_ | refine Call.of_pure (ib) ?_ | refine Call.of_pure (pb) ?_ | refine Call.of_pure (rb) ?_ | refine Call.of_pure (cb) ?_ | (refine allF_i fun b hb => ?_; replace hD := And.intro hb hD; clear hb; try simp only [fresh_cons, fresh_nil, and_true, ne_eq, neF] at hD)); try simp only [go_sem, hD, hli, hA, true_implies]) | ((first | apply hK | (clear hK K; apply hK) | (clear hK K; clear hK K; apply hK)); clear hK K)
          refine ret_pure ?_; simp only [resL_tmp, resL_nil, tupOf, go_sem, hD]
          try rfl
    obtain ⟨C, Q', hK2, key⟩ := key
    clear hK
    have hle : 0 + M.length * 4 ≤ (Blk.svs (fC dC M)).len := by
      show 0 + M.length * 4 ≤ (fC dC M).length
      rw [← fC_len (enc := dC) (k := 4) (fun _ => rfl)]
      omega
    have hfm : ∀ j, j < M.length → dpF M j = getN (.svs (fC dC M)) (0 + j * 4) 4 := fun j hj => by
      rw [getN_take _ _ _ (by show 0 + j * 4 + 4 ≤ (fC dC M).length; rw [← fC_len (enc := dC) (k := 4) (fun _ => rfl)]; omega), Nat.zero_add]
      exact fC_at (enc := dC) (k := 4) (fun _ => rfl) d0 M j hj
    have bl : (l.length + 1) * 80 ≤ 140737488355328 := by omega
    have lc : (fC dC l).length = l.length * 4 := by rw [← fC_len (k := 4) (fun _ => rfl)]
    repeat' first | (with_reducible refine Call.mono (Call.frameN (h1 := []) cl) ?_; intro r h' hx; (rcases hx with ⟨h1', rfl, ⟨hl0, rfl, rfl⟩ | ⟨g, rfl, rfl⟩, hnd⟩) <;> (simp only [List.cons_append, List.nil_append] at hnd; (first | (have hg := fresh_of_nodup hnd; simp only [fresh_cons, fresh_nil, and_true, ne_eq, neF] at hg; replace hD := And.intro hg hD; clear hg hnd) | skip); simp only [go_sem, hD, List.cons_append, List.nil_append])) | (with_reducible refine And.intro (by omega) ?_) | ((first | refine SW.regionY [1] (id := 3) (Checked.mixed Tryz.checked) ((.one 0 [0, 1, 4, 5] (.alt 1 true (.one 2 [2, 3, 4, 5] (.alt 3 false (.alt 4 false (.one 5 [5] (.one 6 [6] .done)) (.alt 6 false (.alt 4 false (.one 5 [5] .done) .nil) .nil)) (.alt 6 false (.alt 3 false (.alt 4 false (.one 5 [5] .done) .nil) .nil) .nil))) (.alt 2 false (.alt 1 true (.alt 3 false (.alt 4 false (.one 5 [5] (.one 6 [6] .done)) (.alt 6 false (.alt 4 false (.one 5 [5] .done) .nil) .nil)) (.alt 6 false (.alt 3 false (.alt 4 false (.one 5 [5] .done) .nil) .nil) .nil)) (.alt 3 false (.alt 1 true (.alt 4 false (.one 5 [5] (.one 6 [6] .done)) (.alt 6 false (.alt 4 false (.one 5 [5] .done) .nil) .nil)) (.alt 6 false (.alt 1 true (.alt 4 false (.one 5 [5] .done) .nil) .nil) .nil)) (.alt 6 false (.alt 1 true (.alt 3 false (.alt 4 false (.one 5 [5] .done) .nil) .nil) (.alt 3 false (.alt 1 true (.alt 4 false (.one 5 [5] .done) .nil) .nil) .nil)) .nil))) (.alt 6 false (.alt 1 true (.one 2 [2, 3, 4, 5] (.alt 3 false (.alt 4 false (.one 5 [5] .done) .nil) .nil)) (.alt 2 false (.alt 1 true (.alt 3 false (.alt 4 false (.one 5 [5] .done) .nil) .nil) (.alt 3 false (.alt 1 true (.alt 4 false (.one 5 [5] .done) .nil) .nil) .nil)) .nil)) .nil)))) : OY) (by kernel_rfl) ?_ | (refine allF_i fun b hb => ?_; replace hD := And.intro hb hD; clear hb; try simp only [fresh_cons, fresh_nil, and_true, ne_eq, neF] at hD) | simp only [appK, appOsK]); try simp only [go_sem, hD, true_implies, bl, lc]) | (refine And.intro (by omega) ?_) | (refine And.intro ?_ ?_)
    all_goals
      obtain ⟨c1, rfl⟩ : ∃ x, x = b := ⟨_, rfl⟩
      refine hK2 _ (Ab.SW.le ?_ key)
      clear hK2 key
      try (have hl1 := congrArg List.length hl0; simp only [List.length_nil] at hl1)
      refine St.le.trans (St.le_freeze (i := 39) (b := c1) (off := 0) (len := M.length) (sz := 4) (k := .svs (fC dC M)) (by first | (rw [hML]; rfl) | (rw [hML, hl0]; rfl)) (by first | (rw [← hMc]; simp [find_cons, hD]; done) | (rw [← hM0 hl0]; simp [find_cons, hD]; done)) hle (dpF M) hfm) ?_
      exact St.le.trans St.le_drop (St.le_sub (by repeat' (first | exact rfl | exact trivial | exact int_eq (by omega) | exact int_eq (by (rw [i64_wrap] <;> omega)) | constructor)))
end Go.Proofs.YtblfodnajpamfaaGreatDoor
