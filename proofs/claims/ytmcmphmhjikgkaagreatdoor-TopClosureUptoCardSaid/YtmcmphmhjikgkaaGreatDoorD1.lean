/- The next step of the chase. -/
import Derived.Test.YtmcmphmhjikgkaaGreatDoorC9
set_option linter.unusedSimpArgs false
set_option linter.unusedVariables false
set_option linter.unusedSectionVars false
namespace Go.Ab.A20
open Go Go.Ab
theorem agR_true {n s t e : Nat} : agR n s t e = true ↔ ∀ j, j < n → e.testBit j = true → gR n s j = gR n t j := by
  unfold agR
  rw [List.all_eq_true]
  constructor
  · intro h j hj hb
    have := h j (List.mem_range.2 hj)
    rw [hb] at this
    simpa using this
  · intro h j hj
    cases hb : e.testBit j with
    | false => rfl
    | true => rw [h j (List.mem_range.1 hj) hb]; simp
theorem agR_self (n s e : Nat) : agR n s s e = true := agR_true.2 fun _ _ _ => rfl
theorem agR_comm (n s t e : Nat) : agR n s t e = agR n t s e := by
  cases h : agR n t s e with
  | true => exact agR_true.2 fun j hj hb => (agR_true.1 h j hj hb).symm
  | false =>
    cases h2 : agR n s t e with
    | false => rfl
    | true => rw [agR_true.2 fun j hj hb => (agR_true.1 h2 j hj hb).symm] at h; cases h
theorem agR_sb {n z e : Nat} (he : e < 2 ^ n) : agR n (2 ^ n - 1) z e = true ↔ Sb e z := by
  rw [agR_true, sb_bit]
  have key : ∀ j, j < n → (gR n (2 ^ n - 1) j = gR n z j ↔ z.testBit j = true) := fun j hj => by
    rw [gR_eq hj, Nat.testBit_two_pow_sub_one, decide_eq_true hj]
    exact eq_comm
  constructor
  · intro h j hb
    by_cases hj : j < n
    · exact (key j hj).1 (h j hj hb)
    · have : 2 ^ n ≤ 2 ^ j := Nat.pow_le_pow_right (by omega) (by omega)
      rw [Nat.testBit_lt_two_pow (by omega)] at hb
      cases hb
  · intro h j hj hb
    exact (key j hj).2 (h j hb)
theorem tab_len (n z : Nat) : (tabL n z).length ≤ 2 := by unfold tabL; split <;> simp
/-- Where a dependency adds nothing, no two rows tell. -/
theorem no_hit {n z : Nat} {d : D2} (hd : d.1 < 2 ^ n ∧ d.2 < 2 ^ n) (h : Sb d.1 z → Sb d.2 z) : ∀ a ∈ tabL n z, ∀ b ∈ tabL n z, agR n a b d.1 = true → agR n a b d.2 = true := by
  have hm : ∀ a ∈ tabL n z, a = 2 ^ n - 1 ∨ a = z := fun a ha => by
    unfold tabL at ha
    split at ha
    · exact .inl (List.mem_singleton.1 ha)
    · simpa using ha
  intro a ha b hb h1
  rcases hm a ha with rfl | rfl <;> rcases hm b hb with rfl | rfl
  · exact agR_self _ _ _
  · exact (agR_sb hd.2).2 (h ((agR_sb hd.1).1 h1))
  · rw [agR_comm] at h1 ⊢
    exact (agR_sb hd.2).2 (h ((agR_sb hd.1).1 h1))
  · exact agR_self _ _ _
/-- The step. -/
def stepV : Option Nat → SV
  | none => .tup [.agg [SB false, I64 0, I64 0, I64 0], SB false]
  | some i => .tup [.agg [SB false, I64 i, I64 0, I64 1], SB true]
theorem next_pos {n z : Nat} {l : List D2} (h2 : In2 n l) (hz : z < 2 ^ n) : ∃ N, N ≤ l.length ∧ (∀ i, i < N → ∀ a ∈ tabL n z, ∀ b ∈ tabL n z, agR n a b (l.getD i d0).1 = true → agR n a b (l.getD i d0).2 = true) ∧
    (enlI l z = none ∧ N = l.length ∨ enlI l z = some N ∧ N < l.length ∧ tabL n z = [2 ^ n - 1, z] ∧ agR n (2 ^ n - 1) z (l.getD N d0).1 = true ∧ agR n (2 ^ n - 1) z (l.getD N d0).2 = false) := by
  cases h : enlI l z with
  | none =>
    refine ⟨l.length, Nat.le_refl _, fun i hi => ?_, .inl ⟨rfl, rfl⟩⟩
    have hm := getD_mem d0 hi
    exact no_hit (h2 _ hm) (enl_none h _ hm)
  | some N =>
    obtain ⟨hN, h3, h4⟩ := enl_some h
    have hg := getD_in d0 hN
    have hm := getD_mem d0 hN
    refine ⟨N, Nat.le_of_lt hN, fun i hi => ?_, .inr ⟨rfl, hN, ?_, ?_, ?_⟩⟩
    · have hm := getD_mem d0 (show i < l.length by omega)
      refine no_hit (h2 _ hm) fun h5 => ?_
      have h6 := (List.findIdx?_eq_some_iff_getElem.1 h).2.2 i hi
      have hgi := getD_in d0 (show i < l.length by omega)
      rw [hgi] at h5 ⊢
      apply Classical.byContradiction
      intro h7
      have : enl z l[i] = true := by
        unfold enl
        rw [decide_eq_true (show dif l[i].1 z = 0 from h5), decide_eq_false (show ¬ dif l[i].2 z = 0 from h7)]
        rfl
      rw [this] at h6
      exact absurd rfl h6
    · unfold tabL
      rw [if_neg ?_]
      intro e
      rw [e] at h4
      have := (h2 _ hm).2
      rw [hg] at this
      exact h4 (sb_full.2 this)
    · rw [hg]
      rw [← hg] at h3 ⊢
      exact (agR_sb (h2 _ hm).1).2 h3
    · cases hx : agR n (2 ^ n - 1) z (l.getD N d0).2 with
      | false => rfl
      | true =>
        have := (agR_sb (h2 _ hm).2).1 hx
        rw [hg] at this
        exact absurd this h4
end Go.Ab.A20
namespace Go.Proofs.YtmcmphmhjikgkaaGreatDoor
open Go Go.Ab Go.Ab.A20
variable [Gl] [Bru]

set_option maxHeartbeats 2000000 in
set_option maxRecDepth 20000 in
theorem next_p (n z : Nat) (l : List D2) (hn : n ≤ 6) (h2 : In2 n l) (hz : z < 2 ^ n) (h64 : l.length ≤ 1000000) : PCall Tryz.prog 66 [TB n (tabL n z), DL l, .sc (.slice none 0 0)] (stepV (enlI l z)) := by
  have hp6 := pow6 hn
  obtain ⟨N, hN, hno, hy⟩ := next_pos h2 hz
  have hLl := tab_len n z
  obtain ⟨R, hR⟩ : ∃ R, R = stepV (enlI l z) := ⟨_, rfl⟩
  rw [← hR]
  obtain ⟨L, hL⟩ : ∃ L, L = tabL n z := ⟨_, rfl⟩
  rw [← hL] at hno hy hLl ⊢
  refine Call.enter' (N := 132) (rs := [.cell 6 149, .tmp 7]) Tryz.func66 rfl rfl rfl (by decide) rfl ?_; simp only [argT]; have hD : (0 : Nat) = 0 := rfl
  repeat' first | (with_reducible refine And.intro (by omega) ?_) | (refine SW.seq_k fun K hK => ?_) | (refine SW.block ?_) | ((first | refine SW.region ?_ | refine SW.regionD (Checked.mixed Tryz.checked) (by kernel_rfl) ?_ | refine SW.cond ?_ | refine SW.skip ?_ | refine SW.exit ?_ | refine SW.ret ?_ | (refine allF_i fun b hb => ?_; replace hD := And.intro hb hD; clear hb; try simp only [fresh_cons, fresh_nil, and_true, ne_eq, neF] at hD) | simp only [appK, appOsK]); try simp only [go_sem, hD]) | (refine And.intro (by omega) ?_) | (refine ifI (fun hc => ?_) (fun hc => ?_) <;> first | (exfalso; omega) | skip) | ((first | apply hK | ((iterate 1 (clear hK K)); apply hK) | ((iterate 2 (clear hK K)); apply hK) | ((iterate 3 (clear hK K)); apply hK) | ((iterate 4 (clear hK K)); apply hK) | ((iterate 5 (clear hK K)); apply hK)); clear hK K)
  rename_i tb
  obtain ⟨rb, rfl⟩ : ∃ x, x = b := ⟨_, rfl⟩
  refine Ab.SW.le (St.le_pick [(tb, .svs [I64 n, RL n L]), (rb, .svs [SB false, I64 0, I64 0, I64 0])] ?_ ?_) ?_
  · repeat' (first | exact (fun x hx => (List.not_mem_nil hx).elim) | refine List.forall_mem_cons.2 ⟨?_, ?_⟩ | exact List.mem_cons_self | apply List.mem_cons_of_mem)
  · simp [fresh_cons, fresh_nil, hD]
  obtain ⟨I, hI⟩ : ∃ I : Nat → St → Prop, ∀ k S, I k S ↔ (∃ (i : Nat) , k = l.length - i ∧ i ≤ l.length ∧ i ≤ N ∧ S = ⟨[(2, .sc (.slice none 0 0)), (3, .op tb 0), (6, .op rb 0), (16, DL l), (17, I64 l.length), (18, I64 i)], [(tb, .svs [I64 n, RL n L]), (rb, .svs [SB false, I64 0, I64 0, I64 0])]⟩) := ⟨fun k S => _, fun _ _ => Iff.rfl⟩
  refine SW.loop' I (l.length) ((hI _ _).2 ⟨0, rfl, Nat.zero_le _, Nat.zero_le _, rfl⟩) (by repeat' (first | exact rfl | exact trivial | exact int_eq (by omega) | exact int_eq (by (rw [i64_wrap] <;> omega)) | constructor)) ?_
  intro k S hIn
  obtain ⟨i, rfl, hi, hiN, rfl⟩ := (hI _ _).1 hIn
  clear hIn
  have ie : ((i : Nat) : Int).toNat = i := Int.toNat_natCast _
  have i0 : (0 : Int) ≤ ((i : Nat) : Int) := by omega
  by_cases hlt : i < l.length
  · have hli : ((i : Nat) : Int) < (((l.length) : Nat) : Int) := by omega
    have w1 : IntKind.i64.wrap ((i : Int) + 1) = ((i + 1 : Nat) : Int) := by rw [i64_wrap (by omega) (by omega)]; omega
    have hd := h2 _ (getD_mem d0 hlt)
    have hnoi := hno i
    have hyi := hy
    obtain ⟨p, q, hpq⟩ : ∃ p q, l.getD i d0 = (p, q) := ⟨_, _, rfl⟩
    have tf : dF l i = [U32 p, U32 q] := by unfold dF; rw [hpq]; rfl
    rw [hpq] at hd hnoi
    simp only at hd hnoi
    by_cases hii : i < N
    · have hh := hnoi hii
      repeat' first | (with_reducible refine And.intro (by omega) ?_) | (refine SW.seq_k fun K hK => ?_) | (refine SW.block ?_) | ((first | refine SW.region ?_ | refine SW.regionD (Checked.mixed Tryz.checked) (by kernel_rfl) ?_ | refine SW.cond ?_ | refine SW.skip ?_ | refine SW.exit ?_ | refine SW.ret ?_ | (refine allF_i fun b hb => ?_; replace hD := And.intro hb hD; clear hb; try simp only [fresh_cons, fresh_nil, and_true, ne_eq, neF] at hD) | simp only [appK, appOsK]); try simp only [go_sem, hD, hli, ie, i0, w1, tf]) | (refine And.intro (by omega) ?_) | (refine ifI (fun hc => ?_) (fun hc => ?_) <;> first | (exfalso; omega) | skip) | ((first | apply hK | ((iterate 1 (clear hK K)); apply hK) | ((iterate 2 (clear hK K)); apply hK) | ((iterate 3 (clear hK K)); apply hK) | ((iterate 4 (clear hK K)); apply hK) | ((iterate 5 (clear hK K)); apply hK)); clear hK K)
      obtain ⟨xb, rfl⟩ : ∃ x, x = b := ⟨_, rfl⟩
      have hIO := hI
      have ow1 := w1
      clear hI hno hy hyi hnoi
      obtain ⟨I, hI⟩ : ∃ I : Nat → St → Prop, ∀ k S, I k S ↔ (∃ (a : Nat) , k = L.length - a ∧ a ≤ L.length ∧ S = ⟨[(2, .sc (.slice none 0 0)), (3, .op tb 0), (6, .op rb 0), (16, DL l), (17, I64 l.length), (18, I64 i), (8, I64 i), (9, .op xb 0), (25, I64 L.length), (26, I64 a)], [(xb, .svs [U32 p, U32 q]), (tb, .svs [I64 n, RL n L]), (rb, .svs [SB false, I64 0, I64 0, I64 0])]⟩) := ⟨fun k S => _, fun _ _ => Iff.rfl⟩
      refine SW.loop' I (L.length) ((hI _ _).2 ⟨0, rfl, Nat.zero_le _, rfl⟩) (by repeat' (first | exact rfl | exact trivial | exact int_eq (by omega) | exact int_eq (by (rw [i64_wrap] <;> omega)) | constructor)) ?_
      intro k S hIn
      obtain ⟨a, rfl, hi, rfl⟩ := (hI _ _).1 hIn
      clear hIn
      have ie : ((a : Nat) : Int).toNat = a := Int.toNat_natCast _
      have i0 : (0 : Int) ≤ ((a : Nat) : Int) := by omega
      by_cases hlt : a < L.length
      · have hli : ((a : Nat) : Int) < (((L.length) : Nat) : Int) := by omega
        have w1 : IntKind.i64.wrap ((a : Int) + 1) = ((a + 1 : Nat) : Int) := by rw [i64_wrap (by omega) (by omega)]; omega
        have aw1 := w1
        have al : ((a : Nat) : Int) < ((L.length : Nat) : Int) := by omega
        have a0 := i0
        have ae := ie
        have hua := getD_mem 0 hlt
        have ta : rF n L a = [NR n (L.getD a 0)] := rfl
        repeat' first | (with_reducible refine And.intro (by omega) ?_) | (refine SW.seq_k fun K hK => ?_) | (refine SW.block ?_) | ((first | refine SW.region ?_ | refine SW.regionD (Checked.mixed Tryz.checked) (by kernel_rfl) ?_ | refine SW.cond ?_ | refine SW.skip ?_ | refine SW.exit ?_ | refine SW.ret ?_ | (refine allF_i fun b hb => ?_; replace hD := And.intro hb hD; clear hb; try simp only [fresh_cons, fresh_nil, and_true, ne_eq, neF] at hD) | simp only [appK, appOsK]); try simp only [go_sem, hD, hli, ie, i0, w1]) | (refine And.intro (by omega) ?_) | (refine ifI (fun hc => ?_) (fun hc => ?_) <;> first | (exfalso; omega) | skip) | ((first | apply hK | ((iterate 1 (clear hK K)); apply hK) | ((iterate 2 (clear hK K)); apply hK) | ((iterate 3 (clear hK K)); apply hK) | ((iterate 4 (clear hK K)); apply hK) | ((iterate 5 (clear hK K)); apply hK)); clear hK K)
        have hIA := hI
        clear hI
        generalize L.getD a 0 = u at *
        obtain ⟨I, hI⟩ : ∃ I : Nat → St → Prop, ∀ k S, I k S ↔ (∃ (c : Nat) , k = L.length - c ∧ c ≤ L.length ∧ S = ⟨[(2, .sc (.slice none 0 0)), (3, .op tb 0), (6, .op rb 0), (16, DL l), (17, I64 l.length), (18, I64 i), (8, I64 i), (9, .op xb 0), (25, I64 L.length), (26, I64 a), (10, I64 a), (31, I64 L.length), (32, I64 c)], [(xb, .svs [U32 p, U32 q]), (tb, .svs [I64 n, RL n L]), (rb, .svs [SB false, I64 0, I64 0, I64 0])]⟩) := ⟨fun k S => _, fun _ _ => Iff.rfl⟩
        refine SW.loop' I (L.length) ((hI _ _).2 ⟨0, rfl, Nat.zero_le _, rfl⟩) (by repeat' (first | exact rfl | exact trivial | exact int_eq (by omega) | exact int_eq (by (rw [i64_wrap] <;> omega)) | constructor)) ?_
        intro k S hIn
        obtain ⟨c, rfl, hi, rfl⟩ := (hI _ _).1 hIn
        clear hIn
        have ie : ((c : Nat) : Int).toNat = c := Int.toNat_natCast _
        have i0 : (0 : Int) ≤ ((c : Nat) : Int) := by omega
        by_cases hlt : c < L.length
        · have hli : ((c : Nat) : Int) < (((L.length) : Nat) : Int) := by omega
          have w1 : IntKind.i64.wrap ((c : Int) + 1) = ((c + 1 : Nat) : Int) := by rw [i64_wrap (by omega) (by omega)]; omega
          have cl : ((c : Nat) : Int) < ((L.length : Nat) : Int) := by omega
          have tc : rF n L c = [NR n (L.getD c 0)] := rfl
          have hw := hh u hua _ (getD_mem 0 hlt)
          generalize L.getD c 0 = w at *
          have c1 := agree_r n u w p hn (by omega)
          have c2 := agree_r n u w q hn (by omega)
          cases hb : agR n u w p with
          | false =>
            rw [hb] at c1
            repeat' first | (with_reducible refine And.intro (by omega) ?_) | (refine SW.seq_k fun K hK => ?_) | (refine SW.block ?_) | ((first | refine SW.region ?_ | refine SW.regionD (Checked.mixed Tryz.checked) (by kernel_rfl) ?_ | refine SW.cond ?_ | refine SW.skip ?_ | refine SW.exit ?_ | refine SW.ret ?_ | refine Call.of_pure (c1) ?_ | refine ⟨_, c1, ?_⟩ | (refine allF_i fun b hb => ?_; replace hD := And.intro hb hD; clear hb; try simp only [fresh_cons, fresh_nil, and_true, ne_eq, neF] at hD) | simp only [appK, appOsK]); try simp only [go_sem, hD, hli, ie, i0, w1, al, a0, ae, ta, tc, cl]) | (refine And.intro (by omega) ?_) | (refine ifI (fun hc => ?_) (fun hc => ?_) <;> first | (exfalso; omega) | skip) | ((first | apply hK | ((iterate 1 (clear hK K)); apply hK) | ((iterate 2 (clear hK K)); apply hK) | ((iterate 3 (clear hK K)); apply hK) | ((iterate 4 (clear hK K)); apply hK) | ((iterate 5 (clear hK K)); apply hK)); clear hK K)
            refine Rnd.sub (L.length - (c + 1)) (by omega) ((hI _ _).2 ⟨c + 1, rfl, by omega, rfl⟩) (by repeat' (first | exact rfl | exact trivial | exact int_eq (by omega) | exact int_eq (by (rw [i64_wrap] <;> omega)) | constructor))
          | true =>
            rw [hb] at c1
            rw [hw hb] at c2
            repeat' first | (with_reducible refine And.intro (by omega) ?_) | (refine SW.seq_k fun K hK => ?_) | (refine SW.block ?_) | ((first | refine SW.region ?_ | refine SW.regionD (Checked.mixed Tryz.checked) (by kernel_rfl) ?_ | refine SW.cond ?_ | refine SW.skip ?_ | refine SW.exit ?_ | refine SW.ret ?_ | refine Call.of_pure (c1) ?_ | refine ⟨_, c1, ?_⟩ | refine Call.of_pure (c2) ?_ | refine ⟨_, c2, ?_⟩ | (refine allF_i fun b hb => ?_; replace hD := And.intro hb hD; clear hb; try simp only [fresh_cons, fresh_nil, and_true, ne_eq, neF] at hD) | simp only [appK, appOsK]); try simp only [go_sem, hD, hli, ie, i0, w1, al, a0, ae, ta, tc, cl]) | (refine And.intro (by omega) ?_) | (refine ifI (fun hc => ?_) (fun hc => ?_) <;> first | (exfalso; omega) | skip) | ((first | apply hK | ((iterate 1 (clear hK K)); apply hK) | ((iterate 2 (clear hK K)); apply hK) | ((iterate 3 (clear hK K)); apply hK) | ((iterate 4 (clear hK K)); apply hK) | ((iterate 5 (clear hK K)); apply hK)); clear hK K)
            refine Rnd.sub (L.length - (c + 1)) (by omega) ((hI _ _).2 ⟨c + 1, rfl, by omega, rfl⟩) (by repeat' (first | exact rfl | exact trivial | exact int_eq (by omega) | exact int_eq (by (rw [i64_wrap] <;> omega)) | constructor))
        · have hli : ¬ ((c : Nat) : Int) < (((L.length) : Nat) : Int) := by omega
          repeat' first | (with_reducible refine And.intro (by omega) ?_) | (refine SW.seq_k fun K hK => ?_) | (refine SW.block ?_) | ((first | refine SW.region ?_ | refine SW.regionD (Checked.mixed Tryz.checked) (by kernel_rfl) ?_ | refine SW.cond ?_ | refine SW.skip ?_ | refine SW.exit ?_ | refine SW.ret ?_ | (refine allF_i fun b hb => ?_; replace hD := And.intro hb hD; clear hb; try simp only [fresh_cons, fresh_nil, and_true, ne_eq, neF] at hD) | simp only [appK, appOsK]); try simp only [go_sem, hD, hli, aw1]) | (refine And.intro (by omega) ?_) | (refine ifI (fun hc => ?_) (fun hc => ?_) <;> first | (exfalso; omega) | skip) | ((first | apply hK | ((iterate 1 (clear hK K)); apply hK) | ((iterate 2 (clear hK K)); apply hK) | ((iterate 3 (clear hK K)); apply hK) | ((iterate 4 (clear hK K)); apply hK) | ((iterate 5 (clear hK K)); apply hK)); clear hK K)
          refine Rnd.sub (L.length - (a + 1)) (by omega) ((hIA _ _).2 ⟨a + 1, rfl, by omega, rfl⟩) (by repeat' (first | exact rfl | exact trivial | exact int_eq (by omega) | exact int_eq (by (rw [i64_wrap] <;> omega)) | constructor))
      · have hli : ¬ ((a : Nat) : Int) < (((L.length) : Nat) : Int) := by omega
        repeat' first | (with_reducible refine And.intro (by omega) ?_) | (refine SW.seq_k fun K hK => ?_) | (refine SW.block ?_) | ((first | refine SW.region ?_ | refine SW.regionD (Checked.mixed Tryz.checked) (by kernel_rfl) ?_ | refine SW.cond ?_ | refine SW.skip ?_ | refine SW.exit ?_ | refine SW.ret ?_ | (refine allF_i fun b hb => ?_; replace hD := And.intro hb hD; clear hb; try simp only [fresh_cons, fresh_nil, and_true, ne_eq, neF] at hD) | simp only [appK, appOsK]); try simp only [go_sem, hD, hli, ow1]) | (refine And.intro (by omega) ?_) | (refine ifI (fun hc => ?_) (fun hc => ?_) <;> first | (exfalso; omega) | skip) | ((first | apply hK | ((iterate 1 (clear hK K)); apply hK) | ((iterate 2 (clear hK K)); apply hK) | ((iterate 3 (clear hK K)); apply hK) | ((iterate 4 (clear hK K)); apply hK) | ((iterate 5 (clear hK K)); apply hK)); clear hK K)
        refine Rnd.le (St.le_pick [(tb, .svs [I64 n, RL n L]), (rb, .svs [SB false, I64 0, I64 0, I64 0])] ?_ ?_) (Rnd.sub (l.length - (i + 1)) (by omega) ((hIO _ _).2 ⟨i + 1, rfl, by omega, by omega, rfl⟩) (by repeat' (first | exact rfl | exact trivial | exact int_eq (by omega) | exact int_eq (by (rw [i64_wrap] <;> omega)) | constructor)))
        · repeat' (first | exact (fun x hx => (List.not_mem_nil hx).elim) | refine List.forall_mem_cons.2 ⟨?_, ?_⟩ | exact List.mem_cons_self | apply List.mem_cons_of_mem)
        · simp [fresh_cons, fresh_nil, hD]
    · obtain rfl : i = N := by omega
      rcases hyi with ⟨_, e⟩ | ⟨hen, _, hLe, y1, y2⟩
      · omega
      · rw [hpq] at y1 y2
        simp only at y1 y2
        obtain ⟨T, hT⟩ : ∃ T, T = 2 ^ n - 1 := ⟨_, rfl⟩
        rw [← hT] at hLe y1 y2
        subst hLe
        rw [hen] at hR
        subst hR
        have c1 := agree_r n T T p hn (by omega)
        have c2 := agree_r n T T q hn (by omega)
        have c3 := agree_r n T z p hn (by omega)
        have c4 := agree_r n T z q hn (by omega)
        rw [agR_self] at c1 c2
        rw [y1] at c3
        rw [y2] at c4
        repeat' first | (with_reducible refine And.intro (by omega) ?_) | (refine SW.seq_k fun K hK => ?_) | (refine SW.block ?_) | ((first | refine SW.region ?_ | refine SW.regionD (Checked.mixed Tryz.checked) (by kernel_rfl) ?_ | refine SW.cond ?_ | refine SW.skip ?_ | refine SW.exit ?_ | refine SW.ret ?_ | (refine allF_i fun b hb => ?_; replace hD := And.intro hb hD; clear hb; try simp only [fresh_cons, fresh_nil, and_true, ne_eq, neF] at hD) | simp only [appK, appOsK]); try simp only [go_sem, hD, hli, ie, i0, w1, tf]) | (refine And.intro (by omega) ?_) | (refine ifI (fun hc => ?_) (fun hc => ?_) <;> first | (exfalso; omega) | skip) | ((first | apply hK | ((iterate 1 (clear hK K)); apply hK) | ((iterate 2 (clear hK K)); apply hK) | ((iterate 3 (clear hK K)); apply hK) | ((iterate 4 (clear hK K)); apply hK) | ((iterate 5 (clear hK K)); apply hK)); clear hK K)
        obtain ⟨xb, rfl⟩ : ∃ x, x = b := ⟨_, rfl⟩
        obtain ⟨J, hJ⟩ : ∃ J : Nat → St → Prop, ∀ m S, J m S ↔ S = ⟨[(2, .sc (.slice none 0 0)), (3, .op tb 0), (6, .op rb 0), (16, DL l), (17, I64 l.length), (18, I64 i), (8, I64 i), (9, .op xb 0), (25, I64 2), (26, I64 0)], [(xb, .svs [U32 p, U32 q]), (tb, .svs [I64 n, RL n [T, z]]), (rb, .svs [SB false, I64 0, I64 0, I64 0])]⟩ := ⟨fun m S => _, fun _ _ => Iff.rfl⟩
        refine SW.loop' J 0 ((hJ _ _).2 rfl) (by repeat' (first | exact rfl | exact trivial | exact int_eq (by omega) | exact int_eq (by (rw [i64_wrap] <;> omega)) | constructor)) ?_
        intro m S hIn
        obtain rfl := (hJ _ _).1 hIn
        clear hIn
        repeat' first | (with_reducible refine And.intro (by omega) ?_) | (refine SW.seq_k fun K hK => ?_) | (refine SW.block ?_) | ((first | refine SW.region ?_ | refine SW.regionD (Checked.mixed Tryz.checked) (by kernel_rfl) ?_ | refine SW.cond ?_ | refine SW.skip ?_ | refine SW.exit ?_ | refine SW.ret ?_ | (refine allF_i fun b hb => ?_; replace hD := And.intro hb hD; clear hb; try simp only [fresh_cons, fresh_nil, and_true, ne_eq, neF] at hD) | simp only [appK, appOsK]); try simp only [go_sem, hD]) | (refine And.intro (by omega) ?_) | (refine ifI (fun hc => ?_) (fun hc => ?_) <;> first | (exfalso; omega) | skip) | ((first | apply hK | ((iterate 1 (clear hK K)); apply hK) | ((iterate 2 (clear hK K)); apply hK) | ((iterate 3 (clear hK K)); apply hK) | ((iterate 4 (clear hK K)); apply hK) | ((iterate 5 (clear hK K)); apply hK)); clear hK K)
        obtain ⟨J2, hJ2⟩ : ∃ J : Nat → St → Prop, ∀ m S, J m S ↔ (∃ c : Int, (m = 1 ∧ c = 0 ∨ m = 0 ∧ c = 1) ∧ S = ⟨[(2, .sc (.slice none 0 0)), (3, .op tb 0), (6, .op rb 0), (16, DL l), (17, I64 l.length), (18, I64 i), (8, I64 i), (9, .op xb 0), (10, I64 0), (25, I64 2), (26, I64 0), (31, I64 2), (32, I64 c)], [(xb, .svs [U32 p, U32 q]), (tb, .svs [I64 n, RL n [T, z]]), (rb, .svs [SB false, I64 0, I64 0, I64 0])]⟩) := ⟨fun m S => _, fun _ _ => Iff.rfl⟩
        refine SW.loop' J2 1 ((hJ2 _ _).2 ⟨0, .inl ⟨rfl, rfl⟩, rfl⟩) (by repeat' (first | exact rfl | exact trivial | exact int_eq (by omega) | exact int_eq (by (rw [i64_wrap] <;> omega)) | constructor)) ?_
        intro m S hIn
        obtain ⟨c, hc, rfl⟩ := (hJ2 _ _).1 hIn
        clear hIn
        have t0 : rF n [T, z] 0 = [NR n T] := rfl
        have t1 : rF n [T, z] 1 = [NR n z] := rfl
        have x1 : IntKind.i64.wrap ((0 : Int) + 1) = 1 := by decide
        rcases hc with ⟨rfl, rfl⟩ | ⟨rfl, rfl⟩
        · repeat' first | (with_reducible refine And.intro (by omega) ?_) | (refine SW.seq_k fun K hK => ?_) | (refine SW.block ?_) | ((first | refine SW.region ?_ | refine SW.regionD (Checked.mixed Tryz.checked) (by kernel_rfl) ?_ | refine SW.cond ?_ | refine SW.skip ?_ | refine SW.exit ?_ | refine SW.ret ?_ | refine Call.of_pure (c1) ?_ | refine ⟨_, c1, ?_⟩ | refine Call.of_pure (c2) ?_ | refine ⟨_, c2, ?_⟩ | (refine allF_i fun b hb => ?_; replace hD := And.intro hb hD; clear hb; try simp only [fresh_cons, fresh_nil, and_true, ne_eq, neF] at hD) | simp only [appK, appOsK]); try simp only [go_sem, hD, t0, t1, x1]) | (refine And.intro (by omega) ?_) | (refine ifI (fun hc => ?_) (fun hc => ?_) <;> first | (exfalso; omega) | skip) | ((first | apply hK | ((iterate 1 (clear hK K)); apply hK) | ((iterate 2 (clear hK K)); apply hK) | ((iterate 3 (clear hK K)); apply hK) | ((iterate 4 (clear hK K)); apply hK) | ((iterate 5 (clear hK K)); apply hK)); clear hK K)
          refine Rnd.sub 0 (by omega) ((hJ2 _ _).2 ⟨1, .inr ⟨rfl, rfl⟩, rfl⟩) (by repeat' (first | exact rfl | exact trivial | exact int_eq (by omega) | exact int_eq (by (rw [i64_wrap] <;> omega)) | constructor))
        · repeat' first | (with_reducible refine And.intro (by omega) ?_) | (refine SW.seq_k fun K hK => ?_) | (refine SW.block ?_) | ((first | refine SW.region ?_ | refine SW.regionD (Checked.mixed Tryz.checked) (by kernel_rfl) ?_ | refine SW.cond ?_ | refine SW.skip ?_ | refine SW.exit ?_ | refine SW.ret ?_ | refine Call.of_pure (c3) ?_ | refine ⟨_, c3, ?_⟩ | refine Call.of_pure (c4) ?_ | refine ⟨_, c4, ?_⟩ | (refine allF_i fun b hb => ?_; replace hD := And.intro hb hD; clear hb; try simp only [fresh_cons, fresh_nil, and_true, ne_eq, neF] at hD) | simp only [appK, appOsK]); try simp only [go_sem, hD, t0, t1, x1]) | (refine And.intro (by omega) ?_) | (refine ifI (fun hc => ?_) (fun hc => ?_) <;> first | (exfalso; omega) | skip) | ((first | apply hK | ((iterate 1 (clear hK K)); apply hK) | ((iterate 2 (clear hK K)); apply hK) | ((iterate 3 (clear hK K)); apply hK) | ((iterate 4 (clear hK K)); apply hK) | ((iterate 5 (clear hK K)); apply hK)); clear hK K)
          apply ret_cell (i := 6) (n := 4); exact rfl; (simp only [go_sem, hD]; try rfl); (first | exact Nat.le_refl _ | decide); simp only [resL_tmp, resL_cellE, resC_ok, resL_nil, tupOf, getN, go_sem, hD]
          rfl
  · have hli : ¬ ((i : Nat) : Int) < (((l.length) : Nat) : Int) := by omega
    obtain rfl : i = l.length := by omega
    rcases hy with ⟨hen, _⟩ | ⟨_, e, _⟩
    · rw [hen] at hR
      subst hR
      repeat' first | (with_reducible refine And.intro (by omega) ?_) | (refine SW.seq_k fun K hK => ?_) | (refine SW.block ?_) | ((first | refine SW.region ?_ | refine SW.regionD (Checked.mixed Tryz.checked) (by kernel_rfl) ?_ | refine SW.cond ?_ | refine SW.skip ?_ | refine SW.exit ?_ | refine SW.ret ?_ | (refine allF_i fun b hb => ?_; replace hD := And.intro hb hD; clear hb; try simp only [fresh_cons, fresh_nil, and_true, ne_eq, neF] at hD) | simp only [appK, appOsK]); try simp only [go_sem, hD, hli]) | (refine And.intro (by omega) ?_) | (refine ifI (fun hc => ?_) (fun hc => ?_) <;> first | (exfalso; omega) | skip) | ((first | apply hK | ((iterate 1 (clear hK K)); apply hK) | ((iterate 2 (clear hK K)); apply hK) | ((iterate 3 (clear hK K)); apply hK) | ((iterate 4 (clear hK K)); apply hK) | ((iterate 5 (clear hK K)); apply hK)); clear hK K)
      obtain ⟨J, hJ⟩ : ∃ J : Nat → St → Prop, ∀ m S, J m S ↔ S = ⟨[(6, .op rb 0), (71, .sc (.slice none 0 0)), (72, I64 0), (73, I64 0)], [(rb, .svs [SB false, I64 0, I64 0, I64 0])]⟩ := ⟨fun m S => _, fun _ _ => Iff.rfl⟩
      refine Ab.SW.le (St.le_pick [(rb, .svs [SB false, I64 0, I64 0, I64 0])] ?_ ?_) ?_
      · repeat' (first | exact (fun x hx => (List.not_mem_nil hx).elim) | refine List.forall_mem_cons.2 ⟨?_, ?_⟩ | exact List.mem_cons_self | apply List.mem_cons_of_mem)
      · simp [fresh_cons, fresh_nil, hD]
      refine SW.loop' J 0 ((hJ _ _).2 rfl) (by repeat' (first | exact rfl | exact trivial | exact int_eq (by omega) | exact int_eq (by (rw [i64_wrap] <;> omega)) | constructor)) ?_
      intro m S hIn
      obtain rfl := (hJ _ _).1 hIn
      clear hIn
      repeat' first | (with_reducible refine And.intro (by omega) ?_) | (refine SW.seq_k fun K hK => ?_) | (refine SW.block ?_) | ((first | refine SW.region ?_ | refine SW.regionD (Checked.mixed Tryz.checked) (by kernel_rfl) ?_ | refine SW.cond ?_ | refine SW.skip ?_ | refine SW.exit ?_ | refine SW.ret ?_ | (refine allF_i fun b hb => ?_; replace hD := And.intro hb hD; clear hb; try simp only [fresh_cons, fresh_nil, and_true, ne_eq, neF] at hD) | simp only [appK, appOsK]); try simp only [go_sem, hD]) | (refine And.intro (by omega) ?_) | (refine ifI (fun hc => ?_) (fun hc => ?_) <;> first | (exfalso; omega) | skip) | ((first | apply hK | ((iterate 1 (clear hK K)); apply hK) | ((iterate 2 (clear hK K)); apply hK) | ((iterate 3 (clear hK K)); apply hK) | ((iterate 4 (clear hK K)); apply hK) | ((iterate 5 (clear hK K)); apply hK)); clear hK K)
      apply ret_cell (i := 6) (n := 4); exact rfl; (simp only [go_sem, hD]; try rfl); (first | exact Nat.le_refl _ | decide); simp only [resL_tmp, resL_cellE, resC_ok, resL_nil, tupOf, getN, go_sem, hD]
      rfl
    · omega
end Go.Proofs.YtmcmphmhjikgkaaGreatDoor
