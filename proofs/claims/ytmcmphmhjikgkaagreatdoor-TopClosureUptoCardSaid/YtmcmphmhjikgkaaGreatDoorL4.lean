/- The law of closures: the walk. -/
import Derived.Test.YtmcmphmhjikgkaaGreatDoorL3
import Derived.Test.YtmcmphmhjikgkaaGreatDoorAw1
set_option linter.unusedSimpArgs false
set_option linter.unusedVariables false
set_option linter.unusedSectionVars false
namespace Go.Proofs.YtmcmphmhjikgkaaGreatDoor
open Go Go.Ab Go.Ab.A20
variable [Gl] [Bru]

set_option maxHeartbeats 4000000 in
set_option maxRecDepth 20000 in
theorem law_closure (n : Nat) (l : List D2) (s : Nat) (hn : n < 256) (h64 : l.length ≤ 1048576) (hb : ∀ d ∈ l, d.1 < 256 ∧ d.2 < 256) (hs : s < 256) :
    PCall Tryz.prog 3 [.agg [U8 n, EL l], U8 s] (SB true) := by
  have of := of_r n l hn h64 hb
  have aw := awake_c
  obtain ⟨m, hm⟩ : ∃ m, m = n % 7 := ⟨_, rfl⟩
  have hm6 : m ≤ 6 := by omega
  rw [← hm] at of
  by_cases h6 : l.length ≤ 6
  · rw [decide_eq_true h6] at of
    have hp := pow6 hm6
    have hp0 := Nat.two_pow_pos m
    have hFl : (lstS m l).length = l.length := List.length_map _
    have hF : In2 m (lstS m l) := lst_ok m l (by omega)
    generalize lstS m l = F at *
    have hF4 : Ok2 F := in2_ok (by omega) hF
    have hF64 : F.length ≤ 64 := by omega
    have hfu := full_r m (by omega)
    obtain ⟨x, hx⟩ : ∃ x, x = s &&& (2 ^ m - 1) := ⟨_, rfl⟩
    have hxn : x < 2 ^ m := by
      have : x ≤ 2 ^ m - 1 := by rw [hx]; exact Nat.and_le_right
      omega
    have e1 := and32 s (2 ^ m - 1) (by omega) (by omega)
    rw [← hx] at e1
    have ws : IntKind.u32.wrap ((s : Nat) : Int) = ((s : Nat) : Int) := u8_fin ⟨s, hs⟩
    have c1 := close_p F x hF4 (by omega) (by omega)
    have cd := closed_p m F hm6 hF hF64
    have hmt := meet_cl hm6 hF hxn
    have st := start_p m x hm6 hxn
    have rn := run_p m x F hm6 hxn hF hF64
    have hCn := cl_n hF hxn
    have hR64 : ∀ y ∈ closedL m F, y < 64 := fun y hy => by
      unfold closedL at hy
      have hsm : Sm (subL (2 ^ m)) := fun x hx => by have := subL_mem.1 hx; omega
      exact hsm y ((ordN_perm hsm).mem_iff.1 (List.mem_filter.1 hy).1)
    have hRl : (closedL m F).length ≤ 64 := by
      unfold closedL
      have hsm : Sm (subL (2 ^ m)) := fun x hx => by have := subL_mem.1 hx; omega
      refine Nat.le_trans (List.length_filter_le _ _) ?_
      rw [ordN_len hsm, subL_len]
      exact hp
    have hml := fun k => meetL_lt (x := x) (b := 64) ((closedL m F).take k) (2 ^ m - 1) (by omega)
    have hw := hasw_p m (tabL m (cl F x)) (tab_len m _)
    have htl : 0 < (tabL m (cl F x)).length ∧ rF m (tabL m (cl F x)) 0 = [NR m (2 ^ m - 1)] ∧ rF m (tabL m (cl F x)) ((tabL m (cl F x)).length - 1) = [NR m (cl F x)] := by
      unfold tabL
      split
      · rename_i h
        refine ⟨Nat.lt_succ_self 0, rfl, ?_⟩
        rw [h]; rfl
      · exact ⟨Nat.succ_pos 1, rfl, rfl⟩
    have hll := tab_len m (cl F x)
    have hfa : ∀ a, a < m → gR m (2 ^ m - 1) a = a := fun a h => full_at h
    generalize cl F x = C at *
    generalize tabL m C = L at *
    generalize closedL m F = R at *
    obtain ⟨T, hT⟩ : ∃ T, T = 2 ^ m - 1 := ⟨_, rfl⟩
    rw [← hT] at hfu e1 hmt st htl hfa hml
    clear hF
    refine Call.enter' (N := 136) (rs := [.tmp 4]) Tryz.func3 rfl rfl rfl (by decide) rfl ?_; simp only [argT]; have hD : (0 : Nat) = 0 := rfl
    repeat' first | ((refine Ab.SW.le (St.le_freezeP (i := 5) (n := 1) rfl (by rw [find_cons, if_pos rfl]) (by exact Nat.le_refl 1)) ?_); (rw [del_head]); (simp only [getN, Blk.get])) | (with_reducible refine And.intro (by omega) ?_) | (refine SW.seq_k fun K hK => ?_) | (refine SW.block ?_) | ((first | refine SW.region ?_ | refine SW.regionD (Checked.mixed Tryz.checked) (by kernel_rfl) ?_ | refine SW.cond ?_ | refine SW.skip ?_ | refine SW.exit ?_ | refine SW.ret ?_ | refine Call.of_pure (of) ?_ | refine ⟨_, of, ?_⟩ | refine Call.of_pure (aw) ?_ | refine ⟨_, aw, ?_⟩ | refine Call.of_pure (hfu) ?_ | refine ⟨_, hfu, ?_⟩ | refine Call.of_pure (c1) ?_ | refine ⟨_, c1, ?_⟩ | refine Call.of_pure (cd) ?_ | refine ⟨_, cd, ?_⟩ | (refine allF_i fun b hb => ?_; replace hD := And.intro hb hD; clear hb; try simp only [fresh_cons, fresh_nil, and_true, ne_eq, neF] at hD) | simp only [appK, appOsK]); try simp only [go_sem, hD, ws, e1]) | (refine And.intro (by omega) ?_) | (refine ifI (fun hc => ?_) (fun hc => ?_) <;> first | (exfalso; omega) | skip) | ((first | apply hK | ((iterate 1 (clear hK K)); apply hK) | ((iterate 2 (clear hK K)); apply hK) | ((iterate 3 (clear hK K)); apply hK) | ((iterate 4 (clear hK K)); apply hK) | ((iterate 5 (clear hK K)); apply hK)); clear hK K)
    refine Ab.SW.le (St.le_pick [] ?_ ?_) ?_
    · repeat' (first | exact (fun x hx => (List.not_mem_nil hx).elim) | refine List.forall_mem_cons.2 ⟨?_, ?_⟩ | exact List.mem_cons_self | apply List.mem_cons_of_mem)
    · simp [fresh_cons, fresh_nil, hD]
    clear hD
    have hD : (0 : Nat) = 0 := rfl
    clear of aw cd c1
    obtain ⟨I, hI⟩ : ∃ I : Nat → St → Prop, ∀ k S, I k S ↔ (∃ (i : Nat) , k = R.length - i ∧ i ≤ R.length ∧ S = ⟨[(5, .fp [I64 m]), (6, DL F), (8, U32 T), (9, U32 x), (10, U32 C), (12, I64 0), (13, U32 (meetL x (R.take i) T)), (51, SS R), (52, I64 R.length), (53, I64 i)], []⟩) := ⟨fun k S => _, fun _ _ => Iff.rfl⟩
    refine SW.loop' I (R.length) ((hI _ _).2 ⟨0, rfl, Nat.zero_le _, rfl⟩) (by repeat' (first | exact rfl | exact trivial | exact int_eq (by omega) | exact int_eq (by (rw [i64_wrap] <;> omega)) | constructor)) ?_
    intro k S hIn
    obtain ⟨i, rfl, hi, rfl⟩ := (hI _ _).1 hIn
    clear hIn
    have ie : ((i : Nat) : Int).toNat = i := Int.toNat_natCast _
    have i0 : (0 : Int) ≤ ((i : Nat) : Int) := by omega
    by_cases hlt : i < R.length
    · have hli : ((i : Nat) : Int) < (((R.length) : Nat) : Int) := by omega
      have w1 : IntKind.i64.wrap ((i : Int) + 1) = ((i + 1 : Nat) : Int) := by rw [i64_wrap (by omega) (by omega)]; omega
      have hy := hR64 _ (getD_mem 0 hlt)
      have tf : sF R i = [U32 (R.getD i 0)] := rfl
      have hsn := meetL_snoc x (R.take i) T (R.getD i 0)
      rw [← take_snoc 0 hlt] at hsn
      have hMl := hml i
      generalize R.getD i 0 = y at *
      generalize meetL x (R.take i) T = M at *
      have sb := rsub_p x y (by omega) (by omega)
      unfold meetS at hsn
      by_cases hxy : Sb x y
      · rw [decide_eq_true hxy] at sb
        rw [if_pos hxy] at hsn
        have ea := and32 M y (by omega) (by omega)
        repeat' first | (with_reducible refine And.intro (by omega) ?_) | (refine SW.seq_k fun K hK => ?_) | (refine SW.block ?_) | ((first | refine SW.region ?_ | refine SW.regionD (Checked.mixed Tryz.checked) (by kernel_rfl) ?_ | refine SW.cond ?_ | refine SW.skip ?_ | refine SW.exit ?_ | refine SW.ret ?_ | refine Call.of_pure (sb) ?_ | refine ⟨_, sb, ?_⟩ | (refine allF_i fun b hb => ?_; replace hD := And.intro hb hD; clear hb; try simp only [fresh_cons, fresh_nil, and_true, ne_eq, neF] at hD) | simp only [appK, appOsK]); try simp only [go_sem, hD, hli, ie, i0, w1, tf, ea]) | (refine And.intro (by omega) ?_) | (refine ifI (fun hc => ?_) (fun hc => ?_) <;> first | (exfalso; omega) | skip) | ((first | apply hK | ((iterate 1 (clear hK K)); apply hK) | ((iterate 2 (clear hK K)); apply hK) | ((iterate 3 (clear hK K)); apply hK) | ((iterate 4 (clear hK K)); apply hK) | ((iterate 5 (clear hK K)); apply hK)); clear hK K)
        rw [← hsn]
        refine Rnd.sub (R.length - (i + 1)) (by omega) ((hI _ _).2 ⟨i + 1, rfl, by omega, rfl⟩) (by repeat' (first | exact rfl | exact trivial | exact int_eq (by omega) | exact int_eq (by (rw [i64_wrap] <;> omega)) | constructor))
      · rw [decide_eq_false hxy] at sb
        rw [if_neg hxy] at hsn
        repeat' first | (with_reducible refine And.intro (by omega) ?_) | (refine SW.seq_k fun K hK => ?_) | (refine SW.block ?_) | ((first | refine SW.region ?_ | refine SW.regionD (Checked.mixed Tryz.checked) (by kernel_rfl) ?_ | refine SW.cond ?_ | refine SW.skip ?_ | refine SW.exit ?_ | refine SW.ret ?_ | refine Call.of_pure (sb) ?_ | refine ⟨_, sb, ?_⟩ | (refine allF_i fun b hb => ?_; replace hD := And.intro hb hD; clear hb; try simp only [fresh_cons, fresh_nil, and_true, ne_eq, neF] at hD) | simp only [appK, appOsK]); try simp only [go_sem, hD, hli, ie, i0, w1, tf]) | (refine And.intro (by omega) ?_) | (refine ifI (fun hc => ?_) (fun hc => ?_) <;> first | (exfalso; omega) | skip) | ((first | apply hK | ((iterate 1 (clear hK K)); apply hK) | ((iterate 2 (clear hK K)); apply hK) | ((iterate 3 (clear hK K)); apply hK) | ((iterate 4 (clear hK K)); apply hK) | ((iterate 5 (clear hK K)); apply hK)); clear hK K)
        rw [← hsn]
        refine Rnd.sub (R.length - (i + 1)) (by omega) ((hI _ _).2 ⟨i + 1, rfl, by omega, rfl⟩) (by repeat' (first | exact rfl | exact trivial | exact int_eq (by omega) | exact int_eq (by (rw [i64_wrap] <;> omega)) | constructor))
    · have hli : ¬ ((i : Nat) : Int) < (((R.length) : Nat) : Int) := by omega
      obtain rfl : i = R.length := by omega
      rw [List.take_length, hmt]
      clear hmt hml hR64
      have l0 : ¬ ((L.length : Nat) : Int) = 0 := by omega
      repeat' first | (with_reducible refine And.intro (by omega) ?_) | (refine SW.seq_k fun K hK => ?_) | (refine SW.block ?_) | ((first | refine SW.region ?_ | refine SW.regionD (Checked.mixed Tryz.checked) (by kernel_rfl) ?_ | refine SW.cond ?_ | refine SW.skip ?_ | refine SW.exit ?_ | refine SW.ret ?_ | (refine allF_i fun b hb => ?_; replace hD := And.intro hb hD; clear hb; try simp only [fresh_cons, fresh_nil, and_true, ne_eq, neF] at hD) | simp only [appK, appOsK]); try simp only [go_sem, hD, hli]) | (refine And.intro (by omega) ?_) | (refine ifI (fun hc => ?_) (fun hc => ?_) <;> first | (exfalso; omega) | skip) | ((first | apply hK | ((iterate 1 (clear hK K)); apply hK) | ((iterate 2 (clear hK K)); apply hK) | ((iterate 3 (clear hK K)); apply hK) | ((iterate 4 (clear hK K)); apply hK) | ((iterate 5 (clear hK K)); apply hK)); clear hK K)
      refine Call.freeze 1 (sF [T, x]) (by simp) rfl (by rw [find_cons, if_pos rfl]) (by exact Nat.le_refl 2) (fun j hj => by
        have : j = 0 ∨ j = 1 := by omega
        rcases this with rfl | rfl <;> rfl) ?_
      rw [del_head]
      refine Call.of_pure st ?_
      simp only [go_sem, hD]
      repeat' first | (with_reducible refine And.intro (by omega) ?_) | (refine SW.seq_k fun K hK => ?_) | (refine SW.block ?_) | ((first | refine SW.region ?_ | refine SW.regionD (Checked.mixed Tryz.checked) (by kernel_rfl) ?_ | refine SW.cond ?_ | refine SW.skip ?_ | refine SW.exit ?_ | refine SW.ret ?_ | refine Call.of_pure (rn) ?_ | refine ⟨_, rn, ?_⟩ | refine Call.of_pure (hw) ?_ | refine ⟨_, hw, ?_⟩ | (refine allF_i fun b hb => ?_; replace hD := And.intro hb hD; clear hb; try simp only [fresh_cons, fresh_nil, and_true, ne_eq, neF] at hD) | simp only [appK, appOsK]); try simp only [go_sem, hD, l0]) | (refine And.intro (by omega) ?_) | (refine ifI (fun hc => ?_) (fun hc => ?_) <;> first | (exfalso; omega) | skip) | ((first | apply hK | ((iterate 1 (clear hK K)); apply hK) | ((iterate 2 (clear hK K)); apply hK) | ((iterate 3 (clear hK K)); apply hK) | ((iterate 4 (clear hK K)); apply hK) | ((iterate 5 (clear hK K)); apply hK)); clear hK K)
      obtain ⟨eb, rfl⟩ : ∃ x, x = b := ⟨_, rfl⟩
      refine Ab.SW.le (St.le_pick [(eb, .svs [I64 m, RL m L])] ?_ ?_) ?_
      · repeat' (first | exact (fun x hx => (List.not_mem_nil hx).elim) | refine List.forall_mem_cons.2 ⟨?_, ?_⟩ | exact List.mem_cons_self | apply List.mem_cons_of_mem)
      · simp [fresh_cons, fresh_nil, hD]
      clear hD
      have hD : (0 : Nat) = 0 := rfl
      clear st rn hw hfu
      obtain ⟨I, hI⟩ : ∃ I : Nat → St → Prop, ∀ k S, I k S ↔ (∃ (a : Nat) , k = m - a ∧ a ≤ m ∧ S = ⟨[(10, U32 C), (13, U32 C), (18, .op eb 0), (20, U32 (modN C a)), (100, I64 m), (101, I64 a)], [(eb, .svs [I64 m, RL m L])]⟩) := ⟨fun k S => _, fun _ _ => Iff.rfl⟩
      refine SW.loop' I (m) ((hI _ _).2 ⟨0, rfl, Nat.zero_le _, rfl⟩) (by repeat' (first | exact rfl | exact trivial | exact int_eq (by omega) | exact int_eq (by (rw [i64_wrap] <;> omega)) | constructor)) ?_
      intro k S hIn
      obtain ⟨a, rfl, hi, rfl⟩ := (hI _ _).1 hIn
      clear hIn
      have ie : ((a : Nat) : Int).toNat = a := Int.toNat_natCast _
      have i0 : (0 : Int) ≤ ((a : Nat) : Int) := by omega
      by_cases hlt : a < m
      · have hli : ((a : Nat) : Int) < (((m) : Nat) : Int) := by omega
        have w1 : IntKind.i64.wrap ((a : Int) + 1) = ((a + 1 : Nat) : Int) := by rw [i64_wrap (by omega) (by omega)]; omega
        have al : ((a : Nat) : Int) < ((m : Nat) : Int) := by omega
        have sf2 : modN C (a + 1) = if C.testBit a = true then modN C a ||| 2 ^ a else modN C a := rfl
        have t0 := htl.2.1
        have t1 := htl.2.2
        have g0 : gF m T a = [I64 (a : Nat)] := by
          show [I64 (gR m T a : Nat)] = _
          rw [hfa a hlt]
        have g1 : gF m C a = [I64 (gR m C a : Nat)] := rfl
        have wl : IntKind.i64.wrap (((L.length : Nat) : Int) - 1) = ((L.length - 1 : Nat) : Int) := by rw [i64_wrap (by omega) (by omega)]; omega
        have k0 : (0 : Int) ≤ ((L.length - 1 : Nat) : Int) := by omega
        have kl : ((L.length - 1 : Nat) : Int) < ((L.length : Nat) : Int) := by omega
        have ke : ((L.length - 1 : Nat) : Int).toNat = L.length - 1 := Int.toNat_natCast _
        have lp : (0 : Int) < ((L.length : Nat) : Int) := by omega
        have a32 : ((a : Nat) : Int) < 32 := by omega
        have sh := shl32 a (by omega)
        have hmod : modN C a < 64 := modN_lt (by omega) (by omega)
        have hpa : 2 ^ a ≤ 2 ^ m := Nat.pow_le_pow_right (by omega) (by omega)
        have eo := or32 (modN C a) (2 ^ a) (by omega) (by omega)
        cases hbt : C.testBit a with
        | true =>
          rw [hbt, if_pos rfl] at sf2
          have e2 : gR m C a = a := by unfold gR; rw [if_pos hbt]
          rw [e2] at g1
          rw [← sf2] at eo
          repeat' first | (with_reducible refine And.intro (by omega) ?_) | (refine SW.seq_k fun K hK => ?_) | (refine SW.block ?_) | ((first | refine SW.region ?_ | refine SW.regionD (Checked.mixed Tryz.checked) (by kernel_rfl) ?_ | refine SW.cond ?_ | refine SW.skip ?_ | refine SW.exit ?_ | refine SW.ret ?_ | (refine allF_i fun b hb => ?_; replace hD := And.intro hb hD; clear hb; try simp only [fresh_cons, fresh_nil, and_true, ne_eq, neF] at hD) | simp only [appK, appOsK]); try simp only [go_sem, hD, hli, ie, i0, w1, al, t0, t1, g0, g1, wl, k0, kl, ke, lp, a32, sh, eo]) | (refine And.intro (by omega) ?_) | (refine ifI (fun hc => ?_) (fun hc => ?_) <;> first | (exfalso; omega) | skip) | ((first | apply hK | ((iterate 1 (clear hK K)); apply hK) | ((iterate 2 (clear hK K)); apply hK) | ((iterate 3 (clear hK K)); apply hK) | ((iterate 4 (clear hK K)); apply hK) | ((iterate 5 (clear hK K)); apply hK)); clear hK K)
          refine Rnd.sub (m - (a + 1)) (by omega) ((hI _ _).2 ⟨a + 1, rfl, by omega, rfl⟩) (by repeat' (first | exact rfl | exact trivial | exact int_eq (by omega) | exact int_eq (by (rw [i64_wrap] <;> omega)) | constructor))
        | false =>
          rw [hbt, if_neg (by simp)] at sf2
          have e2 : ¬ ((a : Nat) : Int) = ((gR m C a : Nat) : Int) := by
            unfold gR
            rw [if_neg (by rw [hbt]; simp)]
            omega
          generalize gR m C a = u at *
          rw [← sf2]
          repeat' first | (with_reducible refine And.intro (by omega) ?_) | (refine SW.seq_k fun K hK => ?_) | (refine SW.block ?_) | ((first | refine SW.region ?_ | refine SW.regionD (Checked.mixed Tryz.checked) (by kernel_rfl) ?_ | refine SW.cond ?_ | refine SW.skip ?_ | refine SW.exit ?_ | refine SW.ret ?_ | (refine allF_i fun b hb => ?_; replace hD := And.intro hb hD; clear hb; try simp only [fresh_cons, fresh_nil, and_true, ne_eq, neF] at hD) | simp only [appK, appOsK]); try simp only [go_sem, hD, hli, ie, i0, w1, al, t0, t1, g0, g1, wl, k0, kl, ke, lp, a32, e2]) | (refine And.intro (by omega) ?_) | (refine ifI (fun hc => ?_) (fun hc => ?_) <;> first | (exfalso; omega) | skip) | ((first | apply hK | ((iterate 1 (clear hK K)); apply hK) | ((iterate 2 (clear hK K)); apply hK) | ((iterate 3 (clear hK K)); apply hK) | ((iterate 4 (clear hK K)); apply hK) | ((iterate 5 (clear hK K)); apply hK)); clear hK K)
          refine Rnd.sub (m - (a + 1)) (by omega) ((hI _ _).2 ⟨a + 1, rfl, by omega, rfl⟩) (by repeat' (first | exact rfl | exact trivial | exact int_eq (by omega) | exact int_eq (by (rw [i64_wrap] <;> omega)) | constructor))
      · have hli : ¬ ((a : Nat) : Int) < (((m) : Nat) : Int) := by omega
        obtain rfl : a = m := by omega
        rw [modN_all hm6 hCn]
        repeat' first | (with_reducible refine And.intro (by omega) ?_) | (refine SW.seq_k fun K hK => ?_) | (refine SW.block ?_) | ((first | refine SW.region ?_ | refine SW.regionD (Checked.mixed Tryz.checked) (by kernel_rfl) ?_ | refine SW.cond ?_ | refine SW.skip ?_ | refine SW.exit ?_ | refine SW.ret ?_ | (refine allF_i fun b hb => ?_; replace hD := And.intro hb hD; clear hb; try simp only [fresh_cons, fresh_nil, and_true, ne_eq, neF] at hD) | simp only [appK, appOsK]); try simp only [go_sem, hD, hli]) | (refine And.intro (by omega) ?_) | (refine ifI (fun hc => ?_) (fun hc => ?_) <;> first | (exfalso; omega) | skip) | ((first | apply hK | ((iterate 1 (clear hK K)); apply hK) | ((iterate 2 (clear hK K)); apply hK) | ((iterate 3 (clear hK K)); apply hK) | ((iterate 4 (clear hK K)); apply hK) | ((iterate 5 (clear hK K)); apply hK)); clear hK K)
        all_goals refine ret_pure ?_; simp only [resL_tmp, resL_nil, tupOf, go_sem, hD]
  · rw [decide_eq_false h6] at of
    refine Call.enter' (N := 136) (rs := [.tmp 4]) Tryz.func3 rfl rfl rfl (by decide) rfl ?_; simp only [argT]; have hD : (0 : Nat) = 0 := rfl
    repeat' first | (with_reducible refine And.intro (by omega) ?_) | (refine SW.seq_k fun K hK => ?_) | (refine SW.block ?_) | ((first | refine SW.region ?_ | refine SW.regionD (Checked.mixed Tryz.checked) (by kernel_rfl) ?_ | refine SW.cond ?_ | refine SW.skip ?_ | refine SW.exit ?_ | refine SW.ret ?_ | refine Call.of_pure (of) ?_ | refine ⟨_, of, ?_⟩ | refine Call.of_pure (aw) ?_ | refine ⟨_, aw, ?_⟩ | (refine allF_i fun b hb => ?_; replace hD := And.intro hb hD; clear hb; try simp only [fresh_cons, fresh_nil, and_true, ne_eq, neF] at hD) | simp only [appK, appOsK]); try simp only [go_sem, hD]) | (refine And.intro (by omega) ?_) | (refine ifI (fun hc => ?_) (fun hc => ?_) <;> first | (exfalso; omega) | skip) | ((first | apply hK | ((iterate 1 (clear hK K)); apply hK) | ((iterate 2 (clear hK K)); apply hK) | ((iterate 3 (clear hK K)); apply hK) | ((iterate 4 (clear hK K)); apply hK) | ((iterate 5 (clear hK K)); apply hK)); clear hK K)
    all_goals refine ret_pure ?_; simp only [resL_tmp, resL_nil, tupOf, go_sem, hD]
end Go.Proofs.YtmcmphmhjikgkaaGreatDoor
