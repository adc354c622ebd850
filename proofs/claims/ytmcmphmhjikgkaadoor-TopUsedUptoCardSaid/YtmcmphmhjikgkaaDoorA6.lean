/- Contracts: proofs. -/
import Derived.Test.YtmcmphmhjikgkaaDoorA5
set_option linter.unusedSimpArgs false
set_option linter.unusedVariables false
set_option linter.unusedSectionVars false
namespace Go.Ab.A20
open Go Go.Ab
/-- One dependency of a trace: its three steps. -/
def stp (l : List D2) (A : Nat) (X : List Dv × Nat × Int) (i : Nat) : List Dv × Nat × Int :=
  (X.1 ++ [(1, [(i : Int)], (l.getD i d0).1, (l.getD i d0).2)] ++ [(3, [(X.1.length : Int)], X.2.1, X.2.1 ||| (l.getD i d0).2)] ++ [(4, [X.2.2, (X.1.length + 1 : Nat)], A, X.2.1 ||| (l.getD i d0).2)], X.2.1 ||| (l.getD i d0).2, (X.1.length + 2 : Nat))
def stps (l : List D2) (A : Nat) (T : List Nat) : List Dv × Nat × Int := T.foldl (stp l A) ([(2, [], A, A)], A, 0)
/-- A proof. -/
def prvS (l : List D2) (d : D2) : List Dv :=
  (stps l d.1 (tr l d.1)).1 ++ [(2, [], (stps l d.1 (tr l d.1)).2.1, d.2)] ++ [(4, [(stps l d.1 (tr l d.1)).2.2, ((stps l d.1 (tr l d.1)).1.length : Int)], d.1, d.2)]
theorem stps_snoc (l : List D2) (A : Nat) (T : List Nat) (i : Nat) : stps l A (T ++ [i]) = stp l A (stps l A T) i := by unfold stps; rw [List.foldl_append]; rfl
theorem stps_len (l : List D2) (A : Nat) (T : List Nat) : (stps l A T).1.length = 1 + 3 * T.length := by
  rcases List.eq_nil_or_concat T with rfl | ⟨R, x, e⟩
  · rfl
  · rw [List.concat_eq_append] at e
    have ih := stps_len l A R
    rw [e, stps_snoc]
    simp only [stp, List.length_append, List.length_cons, List.length_nil, ih]
    omega
termination_by T.length
decreasing_by rw [e]; simp
theorem stps_lt {l : List D2} {A : Nat} (hl : Ok2 l) (hA : A < 4294967296) (T : List Nat) : (stps l A T).2.1 < 4294967296 := by
  rcases List.eq_nil_or_concat T with rfl | ⟨R, x, e⟩
  · exact hA
  · rw [List.concat_eq_append] at e
    have ih := stps_lt hl hA R
    rw [e, stps_snoc]
    exact or_lt ih (getD_lt hl x).2
termination_by T.length
decreasing_by rw [e]; simp
end Go.Ab.A20
namespace Go.Ab
theorem St.le_sl [Gl] {t : List (Nat × SV)} {h h' : Heap} (hs : h'.Sublist h) : (St.mk t h).le ⟨t, h'⟩ := St.le_sublist (fun x hx => hs.subset hx) (fun hn => (hs.map _).nodup hn)
end Go.Ab
namespace Go.Proofs.YtmcmphmhjikgkaaDoor
open Go Go.Ab Go.Ab.A20
variable [Gl]

set_option maxRecDepth 20000 in
theorem prove_bad (n : Nat) (l : List D2) (d : D2) (hl : Ok2 l) (hd : d.1 < 4294967296 ∧ d.2 < 4294967296) (hn : n ≤ 16) (h64 : l.length ≤ 64) (hv : valE n l = 0) (hg : (d.1 ||| d.2) < 2 ^ n) (h : ¬ dif d.2 (cl l d.1) = 0) :
    PCall Tryd.prog 17 [I64 n, DL l, DV d] (.tup [.sc (.slice none 0 0), I64 11]) := by
  have va := valid_p n l hl hn h64
  rw [hv] at va
  obtain ⟨A, B⟩ := d
  simp only at hd hg h ⊢
  have hp := pow31 n (by omega)
  have un := univ_p n (by omega)
  have sb := sub_p (A ||| B) (2 ^ n - 1) (or_lt hd.1 hd.2) (by omega)
  have hs : dif (A ||| B) (2 ^ n - 1) = 0 := dif_zero.2 (by rw [Nat.and_two_pow_sub_one_eq_mod, Nat.mod_eq_of_lt hg])
  rw [decide_eq_true hs] at sb
  have im := implies_p l (A, B) hl hd (by omega)
  simp only at im
  rw [decide_eq_false h] at im
  have im' : PCall Tryd.prog 19 [DL l, .agg [U32 A, U32 B]] (SB false) := im
  have eo := or32 A B hd.1 hd.2
  show PCall Tryd.prog 17 [I64 n, DL l, .agg [U32 A, U32 B]] _
  refine Call.enter' (N := 96) (rs := [.tmp 6, .tmp 7]) Tryd.func17 rfl rfl rfl (by decide) rfl ?_; simp only [argT]; have hD : (0 : Nat) = 0 := rfl
  repeat' first | (with_reducible refine And.intro (by omega) ?_) | (refine SW.seq_k fun K hK => ?_) | (refine SW.block ?_) | ((first | refine SW.region ?_ | refine SW.regionZ (id := 4) (Checked.mixed Tryd.checked) ((.one 0 [0, 1, 4, 7, 8] (.one 1 [1, 4, 7, 8] (.one 2 [2, 3, 4, 7, 8] (.one 3 [3, 4, 7, 8] (.one 4 [4, 7, 8] (.one 5 [5, 6, 7, 8] (.one 6 [6, 7, 8] (.one 7 [7, 8] (.one 8 [8] .done))))))))) : OZ) (by kernel_rfl) ?_ | refine SW.regionD (Checked.mixed Tryd.checked) (by kernel_rfl) ?_ | refine SW.cond ?_ | refine SW.skip ?_ | refine SW.exit ?_ | refine SW.ret ?_ | refine Call.of_pure (va) ?_ | refine ⟨_, va, ?_⟩ | refine Call.of_pure (un) ?_ | refine ⟨_, un, ?_⟩ | refine Call.of_pure (sb) ?_ | refine ⟨_, sb, ?_⟩ | refine Call.of_pure (im') ?_ | refine ⟨_, im', ?_⟩ | (refine allF_i fun b hb => ?_; replace hD := And.intro hb hD; clear hb; try simp only [fresh_cons, fresh_nil, and_true, ne_eq, neF] at hD) | simp only [appK, appOsK]); try simp only [go_sem, hD, eo]) | (refine And.intro (by omega) ?_) | (refine ifI (fun hc => ?_) (fun hc => ?_) <;> first | (exfalso; omega) | skip) | ((first | apply hK | ((iterate 1 (clear hK K)); apply hK) | ((iterate 2 (clear hK K)); apply hK) | ((iterate 3 (clear hK K)); apply hK) | ((iterate 4 (clear hK K)); apply hK) | ((iterate 5 (clear hK K)); apply hK)); clear hK K) | (refine And.intro ?_ ?_)
  all_goals refine ret_pure ?_; simp only [resL_tmp, resL_nil, tupOf, go_sem, hD]

set_option maxHeartbeats 2000000 in
set_option maxRecDepth 20000 in
theorem prove_ok (n : Nat) (l : List D2) (d : D2) (hl : Ok2 l) (hd : d.1 < 4294967296 ∧ d.2 < 4294967296) (hn : n ≤ 16) (h64 : l.length ≤ 64) (hv : valE n l = 0) (hg : (d.1 ||| d.2) < 2 ^ n) (h : dif d.2 (cl l d.1) = 0) :
    PCall Tryd.prog 17 [I64 n, DL l, DV d] (.tup [VL (prvS l d), I64 0]) := by
  have va := valid_p n l hl hn h64
  rw [hv] at va
  obtain ⟨A, B⟩ := d
  simp only at hd hg h ⊢
  have hp := pow31 n (by omega)
  have un := univ_p n (by omega)
  have sb := sub_p (A ||| B) (2 ^ n - 1) (or_lt hd.1 hd.2) (by omega)
  have hs : dif (A ||| B) (2 ^ n - 1) = 0 := dif_zero.2 (by rw [Nat.and_two_pow_sub_one_eq_mod, Nat.mod_eq_of_lt hg])
  rw [decide_eq_true hs] at sb
  have im := implies_p l (A, B) hl hd (by omega)
  simp only at im
  rw [decide_eq_true h] at im
  have im' : PCall Tryd.prog 19 [DL l, .agg [U32 A, U32 B]] (SB true) := im
  have eo := or32 A B hd.1 hd.2
  have tp := trace_p l A hl hd.1 (by omega)
  have hTl := trF_len 4294967296 l A hl hd.1
  have hTi := tr_lt 4294967296 l A
  obtain ⟨T, hT⟩ : ∃ T, T = tr l A := ⟨_, rfl⟩
  have hpr : prvS l (A, B) = (stps l A T).1 ++ [(2, [], (stps l A T).2.1, B)] ++ [(4, [(stps l A T).2.2, ((stps l A T).1.length : Int)], A, B)] := by rw [hT]; rfl
  rw [hpr]
  rw [← hT] at tp
  change T = trF 4294967296 l A at hT
  rw [← hT] at hTl hTi
  clear hpr hT hv hg h
  show PCall Tryd.prog 17 [I64 n, DL l, .agg [U32 A, U32 B]] _
  refine Call.enter' (N := 96) (rs := [.tmp 6, .tmp 7]) Tryd.func17 rfl rfl rfl (by decide) rfl ?_; simp only [argT]; have hD : (0 : Nat) = 0 := rfl
  repeat' first | (with_reducible refine And.intro (by omega) ?_) | (refine SW.seq_k fun K hK => ?_) | (refine SW.block ?_) | ((first | refine SW.region ?_ | refine SW.regionZ (id := 4) (Checked.mixed Tryd.checked) ((.one 0 [0, 1, 4, 7, 8] (.one 1 [1, 4, 7, 8] (.one 2 [2, 3, 4, 7, 8] (.one 3 [3, 4, 7, 8] (.one 4 [4, 7, 8] (.one 5 [5, 6, 7, 8] (.one 6 [6, 7, 8] (.one 7 [7, 8] (.one 8 [8] .done))))))))) : OZ) (by kernel_rfl) ?_ | refine SW.regionD (Checked.mixed Tryd.checked) (by kernel_rfl) ?_ | refine SW.cond ?_ | refine SW.skip ?_ | refine SW.exit ?_ | refine SW.ret ?_ | refine Call.of_pure (va) ?_ | refine ⟨_, va, ?_⟩ | refine Call.of_pure (un) ?_ | refine ⟨_, un, ?_⟩ | refine Call.of_pure (sb) ?_ | refine ⟨_, sb, ?_⟩ | refine Call.of_pure (im') ?_ | refine ⟨_, im', ?_⟩ | (refine allF_i fun b hb => ?_; replace hD := And.intro hb hD; clear hb; try simp only [fresh_cons, fresh_nil, and_true, ne_eq, neF] at hD) | simp only [appK, appOsK]); try simp only [go_sem, hD, eo]) | (refine And.intro (by omega) ?_) | (refine ifI (fun hc => ?_) (fun hc => ?_) <;> first | (exfalso; omega) | skip) | ((first | apply hK | ((iterate 1 (clear hK K)); apply hK) | ((iterate 2 (clear hK K)); apply hK) | ((iterate 3 (clear hK K)); apply hK) | ((iterate 4 (clear hK K)); apply hK) | ((iterate 5 (clear hK K)); apply hK)); clear hK K) | (refine And.intro ?_ ?_)
  obtain ⟨wb, rfl⟩ : ∃ x, x = b := ⟨_, rfl⟩
  obtain ⟨pb, rfl⟩ : ∃ x, x = b := ⟨_, rfl⟩
  have hfw : fresh [(pb, Blk.svs [U32 A, U32 B])] wb := by simp [fresh_cons, fresh_nil, hD]
  refine Call.mono (add_0 wb _ hfw 2 A A) ?_
  intro r h' hx
  obtain ⟨rfl, g, q1, q2, q3, rfl⟩ := hx
  have hgp : ¬ g = pb := q1.1.2
  have hpg : ¬ pb = g := q1.1.1
  (first | apply hK | ((iterate 1 (clear hK K)); apply hK) | ((iterate 2 (clear hK K)); apply hK) | ((iterate 3 (clear hK K)); apply hK) | ((iterate 4 (clear hK K)); apply hK) | ((iterate 5 (clear hK K)); apply hK)); clear hK K
  have hTn := natI_len T
  have hwp : ¬ wb = pb := by simp [hD]
  have hpw : ¬ pb = wb := by simp [hD]
  clear hD
  have hD : (0 : Nat) = 0 := rfl
  repeat' first | (with_reducible refine And.intro (by omega) ?_) | (refine SW.seq_k fun K hK => ?_) | (refine SW.block ?_) | ((first | refine SW.region ?_ | refine SW.regionD (Checked.mixed Tryd.checked) (by kernel_rfl) ?_ | refine SW.cond ?_ | refine SW.skip ?_ | refine SW.exit ?_ | refine SW.ret ?_ | refine Call.of_pure (tp) ?_ | refine ⟨_, tp, ?_⟩ | (refine allF_i fun b hb => ?_; replace hD := And.intro hb hD; clear hb; try simp only [fresh_cons, fresh_nil, and_true, ne_eq, neF] at hD) | simp only [appK, appOsK]); try simp only [go_sem, hD, hgp, hpg, q2, q3, hwp, hpw]) | (refine And.intro (by omega) ?_) | (refine ifI (fun hc => ?_) (fun hc => ?_) <;> first | (exfalso; omega) | skip) | ((first | apply hK | ((iterate 1 (clear hK K)); apply hK) | ((iterate 2 (clear hK K)); apply hK) | ((iterate 3 (clear hK K)); apply hK) | ((iterate 4 (clear hK K)); apply hK) | ((iterate 5 (clear hK K)); apply hK)); clear hK K)
  have s0 : stps l A (T.take 0) = ([(2, [], A, A)], A, 0) := rfl
  obtain ⟨I, hI⟩ : ∃ I : Nat → St → Prop, ∀ k S, I k S ↔ (∃ (j : Nat) (g : Nat), k = (natI T).length - j ∧ j ≤ (natI T).length ∧ ¬ g = pb ∧ ¬ pb = g ∧ ¬ g = wb ∧ ¬ wb = g ∧ S = ⟨[(1, DL l), (5, .op pb 0), (9, .op wb 0), (10, U32 (stps l A (T.take j)).2.1), (11, I64 (stps l A (T.take j)).2.2), (45, NL (natI T)), (46, I64 (natI T).length), (47, I64 j)], WK wb g (stps l A (T.take j)).1 [(pb, .svs [U32 A, U32 B])]⟩) := ⟨fun k S => _, fun _ _ => Iff.rfl⟩
  refine SW.loop' I ((natI T).length) ((hI _ _).2 ⟨0, g, rfl, Nat.zero_le _, hgp, hpg, q2, q3, rfl⟩) (by repeat' (first | exact rfl | exact trivial | exact int_eq (by omega) | exact int_eq (by (rw [i64_wrap] <;> omega)) | constructor)) ?_
  intro k S hIn
  obtain ⟨j, g, rfl, hi, p1, p2, p3, p4, rfl⟩ := (hI _ _).1 hIn
  clear hIn
  have ie : ((j : Nat) : Int).toNat = j := Int.toNat_natCast _
  have i0 : (0 : Int) ≤ ((j : Nat) : Int) := by omega
  clear hgp hpg q2 q3 q1 s0
  by_cases hlt : j < (natI T).length
  · have hli : ((j : Nat) : Int) < (((natI T).length : Nat) : Int) := by omega
    have w1 : IntKind.i64.wrap ((j : Int) + 1) = ((j + 1 : Nat) : Int) := by rw [i64_wrap (by omega) (by omega)]; omega
    have hjT : j < T.length := by omega
    have hst := stps_snoc l A (T.take j) (T.getD j 0)
    rw [← take_snoc 0 hjT] at hst
    have hLn := stps_len l A (T.take j)
    rw [List.length_take, Nat.min_eq_left (by omega)] at hLn
    have hnw := stps_lt hl hd.1 (T.take j)
    have hil := hTi _ (getD_mem 0 hjT)
    have ti : nF (natI T) j = [I64 (T.getD j 0 : Nat)] := by unfold nF; rw [natI_at hjT]; rfl
    generalize T.getD j 0 = i at *
    generalize stps l A (T.take j) = X at *
    obtain ⟨L, now, last⟩ := X
    unfold stp at hst
    simp only at hst hLn hnw ⊢
    have hdd := getD_lt hl i
    obtain ⟨a, c, hac⟩ : ∃ a c, l.getD i d0 = (a, c) := ⟨_, _, rfl⟩
    have tf : dF l i = [U32 a, U32 c] := by unfold dF; rw [hac]; rfl
    rw [hac] at hdd hst
    simp only at hdd hst
    have eon := or32 now c hnw hdd.2
    have j0 : (0 : Int) ≤ ((i : Nat) : Int) := by omega
    have jl : ((i : Nat) : Int) < ((l.length : Nat) : Int) := by omega
    have je : ((i : Nat) : Int).toNat = i := Int.toNat_natCast _
    repeat' first | (with_reducible refine And.intro (by omega) ?_) | (refine SW.seq_k fun K hK => ?_) | (refine SW.block ?_) | ((first | refine SW.region ?_ | refine SW.regionD (Checked.mixed Tryd.checked) (by kernel_rfl) ?_ | refine SW.cond ?_ | refine SW.skip ?_ | refine SW.exit ?_ | refine SW.ret ?_ | (refine allF_i fun b hb => ?_; replace hD := And.intro hb hD; clear hb; try simp only [fresh_cons, fresh_nil, and_true, ne_eq, neF] at hD) | simp only [appK, appOsK]); try simp only [go_sem, hD, hli, ie, i0, w1, ti, j0, jl, je, tf, eon, p1, p2, p3, p4, hwp, hpw]) | (refine And.intro (by omega) ?_) | (refine ifI (fun hc => ?_) (fun hc => ?_) <;> first | (exfalso; omega) | skip) | ((first | apply hK | ((iterate 1 (clear hK K)); apply hK) | ((iterate 2 (clear hK K)); apply hK) | ((iterate 3 (clear hK K)); apply hK) | ((iterate 4 (clear hK K)); apply hK) | ((iterate 5 (clear hK K)); apply hK)); clear hK K)
    obtain ⟨nb, rfl⟩ : ∃ x, x = b := ⟨_, rfl⟩
    obtain ⟨fb, rfl⟩ : ∃ x, x = b := ⟨_, rfl⟩
    have k1 : ¬ fb = pb := fun e => by simp [e] at hD
    have k2 : ¬ pb = fb := fun e => k1 e.symm
    have k3 : ¬ fb = wb := fun e => by simp [e] at hD
    have k4 : ¬ wb = fb := fun e => k3 e.symm
    have k5 : ¬ fb = g := fun e => by simp [e] at hD
    have k6 : ¬ g = fb := fun e => k5 e.symm
    have f1 : fresh [(fb, Blk.svs [U32 a, U32 c]), (pb, Blk.svs [U32 A, U32 B])] wb := by simp [fresh_cons, fresh_nil, k4, k3, hwp, hpw]
    have f2 : fresh [(fb, Blk.svs [U32 a, U32 c]), (pb, Blk.svs [U32 A, U32 B])] g := by simp [fresh_cons, fresh_nil, k5, k6, p1, p2]
    have PP : ((nb, Blk.svs [I64 i]) :: WK wb g L [(fb, Blk.svs [U32 a, U32 c]), (pb, Blk.svs [U32 A, U32 B])]).Perm ((nb, Blk.svs [I64 i]) :: (fb, Blk.svs [U32 a, U32 c]) :: WK wb g L [(pb, Blk.svs [U32 A, U32 B])]) := List.Perm.cons _ ((List.Perm.cons _ (List.Perm.swap ..)).trans (List.Perm.swap ..))
    refine Call.perm (Call.mono (add_b wb g nb L _ (Blk.svs [I64 i]) f1 f2 p3 p4 (by omega) 1 [(i : Int)] 1 rfl rfl a c) ?_) (fun x => PP.mem_iff) (fun hn => (PP.map _).nodup_iff.2 hn)
    intro r h' hx
    obtain ⟨rfl, g2, q1, q2, q3, rfl⟩ := hx
    clear f2 PP k5 k6 p1 p2 p3 p4
    (first | apply hK | ((iterate 1 (clear hK K)); apply hK) | ((iterate 2 (clear hK K)); apply hK) | ((iterate 3 (clear hK K)); apply hK) | ((iterate 4 (clear hK K)); apply hK) | ((iterate 5 (clear hK K)); apply hK)); clear hK K
    have p1 : ¬ g2 = pb := q1.2.1.2
    have p2 : ¬ pb = g2 := q1.2.1.1
    have k5 : ¬ fb = g2 := q1.1.1
    have k6 : ¬ g2 = fb := q1.1.2
    have hD : (0 : Nat) = 0 := rfl
    repeat' first | (with_reducible refine And.intro (by omega) ?_) | (refine SW.seq_k fun K hK => ?_) | (refine SW.block ?_) | ((first | refine SW.region ?_ | refine SW.regionD (Checked.mixed Tryd.checked) (by kernel_rfl) ?_ | refine SW.cond ?_ | refine SW.skip ?_ | refine SW.exit ?_ | refine SW.ret ?_ | (refine allF_i fun b hb => ?_; replace hD := And.intro hb hD; clear hb; try simp only [fresh_cons, fresh_nil, and_true, ne_eq, neF] at hD) | simp only [appK, appOsK]); try simp only [go_sem, hD, hli, ie, i0, w1, ti, j0, jl, je, tf, eon, p1, p2, q2, q3, hwp, hpw, k1, k2, k3, k4, k5, k6]) | (refine And.intro (by omega) ?_) | (refine ifI (fun hc => ?_) (fun hc => ?_) <;> first | (exfalso; omega) | skip) | ((first | apply hK | ((iterate 1 (clear hK K)); apply hK) | ((iterate 2 (clear hK K)); apply hK) | ((iterate 3 (clear hK K)); apply hK) | ((iterate 4 (clear hK K)); apply hK) | ((iterate 5 (clear hK K)); apply hK)); clear hK K)
    obtain ⟨nb2, rfl⟩ : ∃ x, x = b := ⟨_, rfl⟩
    refine Call.mono (add_b wb g2 nb2 _ _ (Blk.svs [I64 L.length]) f1 q1 q2 q3 (by rw [List.length_append]; simp; omega) 3 [(L.length : Int)] 1 rfl rfl now (now ||| c)) ?_
    intro r h' hx
    obtain ⟨rfl, g3, r1, r2, r3, rfl⟩ := hx
    clear q1 q2 q3 p1 p2 k5 k6
    (first | apply hK | ((iterate 1 (clear hK K)); apply hK) | ((iterate 2 (clear hK K)); apply hK) | ((iterate 3 (clear hK K)); apply hK) | ((iterate 4 (clear hK K)); apply hK) | ((iterate 5 (clear hK K)); apply hK)); clear hK K
    have p1 : ¬ g3 = pb := r1.2.1.2
    have p2 : ¬ pb = g3 := r1.2.1.1
    have k5 : ¬ fb = g3 := r1.1.1
    have k6 : ¬ g3 = fb := r1.1.2
    have hD : (0 : Nat) = 0 := rfl
    repeat' first | (with_reducible refine And.intro (by omega) ?_) | (refine SW.seq_k fun K hK => ?_) | (refine SW.block ?_) | ((first | refine SW.region ?_ | refine SW.regionD (Checked.mixed Tryd.checked) (by kernel_rfl) ?_ | refine SW.cond ?_ | refine SW.skip ?_ | refine SW.exit ?_ | refine SW.ret ?_ | (refine allF_i fun b hb => ?_; replace hD := And.intro hb hD; clear hb; try simp only [fresh_cons, fresh_nil, and_true, ne_eq, neF] at hD) | simp only [appK, appOsK]); try simp only [go_sem, hD, hli, ie, i0, w1, ti, j0, jl, je, tf, eon, p1, p2, r2, r3, hwp, hpw, k1, k2, k3, k4, k5, k6]) | (refine And.intro (by omega) ?_) | (refine ifI (fun hc => ?_) (fun hc => ?_) <;> first | (exfalso; omega) | skip) | ((first | apply hK | ((iterate 1 (clear hK K)); apply hK) | ((iterate 2 (clear hK K)); apply hK) | ((iterate 3 (clear hK K)); apply hK) | ((iterate 4 (clear hK K)); apply hK) | ((iterate 5 (clear hK K)); apply hK)); clear hK K)
    obtain ⟨nb3, rfl⟩ : ∃ x, x = b := ⟨_, rfl⟩
    refine Call.mono (add_b wb g3 nb3 _ _ (Blk.svs [I64 last, I64 (L.length + 1 : Nat)]) f1 r1 r2 r3 (by rw [List.length_append, List.length_append]; simp; omega) 4 [last, (L.length + 1 : Nat)] 2 rfl rfl A (now ||| c)) ?_
    intro r h' hx
    obtain ⟨rfl, g4, s1, s2, s3, rfl⟩ := hx
    clear r1 r2 r3 p1 p2 k5 k6
    (first | apply hK | ((iterate 1 (clear hK K)); apply hK) | ((iterate 2 (clear hK K)); apply hK) | ((iterate 3 (clear hK K)); apply hK) | ((iterate 4 (clear hK K)); apply hK) | ((iterate 5 (clear hK K)); apply hK)); clear hK K
    have p1 : ¬ g4 = pb := s1.2.1.2
    have p2 : ¬ pb = g4 := s1.2.1.1
    have hD : (0 : Nat) = 0 := rfl
    repeat' first | (with_reducible refine And.intro (by omega) ?_) | (refine SW.seq_k fun K hK => ?_) | (refine SW.block ?_) | ((first | refine SW.region ?_ | refine SW.regionD (Checked.mixed Tryd.checked) (by kernel_rfl) ?_ | refine SW.cond ?_ | refine SW.skip ?_ | refine SW.exit ?_ | refine SW.ret ?_ | (refine allF_i fun b hb => ?_; replace hD := And.intro hb hD; clear hb; try simp only [fresh_cons, fresh_nil, and_true, ne_eq, neF] at hD) | simp only [appK, appOsK]); try simp only [go_sem, hD, w1]) | (refine And.intro (by omega) ?_) | (refine ifI (fun hc => ?_) (fun hc => ?_) <;> first | (exfalso; omega) | skip) | ((first | apply hK | ((iterate 1 (clear hK K)); apply hK) | ((iterate 2 (clear hK K)); apply hK) | ((iterate 3 (clear hK K)); apply hK) | ((iterate 4 (clear hK K)); apply hK) | ((iterate 5 (clear hK K)); apply hK)); clear hK K)
    refine Rnd.le (St.le_sl (h' := WK wb g4 (stps l A (T.take (j + 1))).1 [(pb, .svs [U32 A, U32 B])]) ?_) ?_
    · rw [hst]
      exact List.Sublist.cons_cons _ (List.Sublist.cons_cons _ (List.Sublist.cons _ (List.Sublist.refl _)))
    refine Rnd.sub ((natI T).length - (j + 1)) (by omega) ((hI _ _).2 ⟨j + 1, g4, rfl, by omega, p1, p2, s2, s3, rfl⟩) ?_
    rw [hst]
    simp only [List.length_append, List.length_cons, List.length_nil]
    repeat' (first | exact rfl | exact trivial | exact int_eq (by omega) | exact int_eq (by (rw [i64_wrap] <;> omega)) | constructor)
  · have hli : ¬ ((j : Nat) : Int) < (((natI T).length : Nat) : Int) := by omega
    have hjT : T.take j = T := List.take_of_length_le (by omega)
    rw [hjT]
    have hLn := stps_len l A T
    generalize stps l A T = X at *
    obtain ⟨L, now, last⟩ := X
    simp only at hLn ⊢
    have hgw : fresh [(pb, Blk.svs [U32 A, U32 B])] g := by simp [fresh_cons, fresh_nil, p1, p2]
    repeat' first | (with_reducible refine And.intro (by omega) ?_) | (refine SW.seq_k fun K hK => ?_) | (refine SW.block ?_) | ((first | refine SW.region ?_ | refine SW.regionD (Checked.mixed Tryd.checked) (by kernel_rfl) ?_ | refine SW.cond ?_ | refine SW.skip ?_ | refine SW.exit ?_ | refine SW.ret ?_ | (refine allF_i fun b hb => ?_; replace hD := And.intro hb hD; clear hb; try simp only [fresh_cons, fresh_nil, and_true, ne_eq, neF] at hD) | simp only [appK, appOsK]); try simp only [go_sem, hD, hli, p1, p2, p3, p4, hwp, hpw]) | (refine And.intro (by omega) ?_) | (refine ifI (fun hc => ?_) (fun hc => ?_) <;> first | (exfalso; omega) | skip) | ((first | apply hK | ((iterate 1 (clear hK K)); apply hK) | ((iterate 2 (clear hK K)); apply hK) | ((iterate 3 (clear hK K)); apply hK) | ((iterate 4 (clear hK K)); apply hK) | ((iterate 5 (clear hK K)); apply hK)); clear hK K)
    refine Call.mono (add_e wb g L _ hfw hgw p3 p4 (by omega) 2 now B) ?_
    intro r h' hx
    obtain ⟨rfl, g2, q1, q2, q3, rfl⟩ := hx
    clear p1 p2 p3 p4
    (first | apply hK | ((iterate 1 (clear hK K)); apply hK) | ((iterate 2 (clear hK K)); apply hK) | ((iterate 3 (clear hK K)); apply hK) | ((iterate 4 (clear hK K)); apply hK) | ((iterate 5 (clear hK K)); apply hK)); clear hK K
    have p1 : ¬ g2 = pb := q1.1.2
    have p2 : ¬ pb = g2 := q1.1.1
    have hD : (0 : Nat) = 0 := rfl
    repeat' first | (with_reducible refine And.intro (by omega) ?_) | (refine SW.seq_k fun K hK => ?_) | (refine SW.block ?_) | ((first | refine SW.region ?_ | refine SW.regionD (Checked.mixed Tryd.checked) (by kernel_rfl) ?_ | refine SW.cond ?_ | refine SW.skip ?_ | refine SW.exit ?_ | refine SW.ret ?_ | (refine allF_i fun b hb => ?_; replace hD := And.intro hb hD; clear hb; try simp only [fresh_cons, fresh_nil, and_true, ne_eq, neF] at hD) | simp only [appK, appOsK]); try simp only [go_sem, hD, p1, p2, q2, q3, hwp, hpw]) | (refine And.intro (by omega) ?_) | (refine ifI (fun hc => ?_) (fun hc => ?_) <;> first | (exfalso; omega) | skip) | ((first | apply hK | ((iterate 1 (clear hK K)); apply hK) | ((iterate 2 (clear hK K)); apply hK) | ((iterate 3 (clear hK K)); apply hK) | ((iterate 4 (clear hK K)); apply hK) | ((iterate 5 (clear hK K)); apply hK)); clear hK K)
    obtain ⟨nb2, rfl⟩ : ∃ x, x = b := ⟨_, rfl⟩
    refine Call.mono (add_b wb g2 nb2 _ _ (Blk.svs [I64 last, I64 L.length]) hfw q1 q2 q3 (by rw [List.length_append]; simp; omega) 4 [last, (L.length : Int)] 2 rfl rfl A B) ?_
    intro r h' hx
    obtain ⟨rfl, g3, r1, r2, r3, rfl⟩ := hx
    clear q1 q2 q3 p1 p2
    (first | apply hK | ((iterate 1 (clear hK K)); apply hK) | ((iterate 2 (clear hK K)); apply hK) | ((iterate 3 (clear hK K)); apply hK) | ((iterate 4 (clear hK K)); apply hK) | ((iterate 5 (clear hK K)); apply hK)); clear hK K
    have hD : (0 : Nat) = 0 := rfl
    repeat' first | (with_reducible refine And.intro (by omega) ?_) | (refine SW.seq_k fun K hK => ?_) | (refine SW.block ?_) | ((first | refine SW.region ?_ | refine SW.regionD (Checked.mixed Tryd.checked) (by kernel_rfl) ?_ | refine SW.cond ?_ | refine SW.skip ?_ | refine SW.exit ?_ | refine SW.ret ?_ | (refine allF_i fun b hb => ?_; replace hD := And.intro hb hD; clear hb; try simp only [fresh_cons, fresh_nil, and_true, ne_eq, neF] at hD) | simp only [appK, appOsK]); try simp only [go_sem, hD, r2, r3]) | (refine And.intro (by omega) ?_) | (refine ifI (fun hc => ?_) (fun hc => ?_) <;> first | (exfalso; omega) | skip) | ((first | apply hK | ((iterate 1 (clear hK K)); apply hK) | ((iterate 2 (clear hK K)); apply hK) | ((iterate 3 (clear hK K)); apply hK) | ((iterate 4 (clear hK K)); apply hK) | ((iterate 5 (clear hK K)); apply hK)); clear hK K)
    have hn2 : (L ++ [((2 : Int), ([] : List Int), now, B)] ++ [((4 : Int), [last, (L.length : Int)], A, B)]).length = L.length + 1 + 1 := by simp
    refine retQ_le (St.le_tail.trans ((St.le_acc_fl (i := 6) (n := L.length + 1 + 1) (sz := 4) (x := .os g3 0 (L.length + 1 + 1) 4) ?_ (Acc.osH r1 (by rw [← fC_len vC_len, hn2])) (vF (L ++ [(2, [], now, B)] ++ [(4, [last, (L.length : Int)], A, B)])) (fun j hj => fC_at vC_len dv0 _ j (by rw [hn2]; exact hj))).trans St.le_drop)) ?_
    · exact rfl
    · simp only [resL_tmp, resL_nil, tupOf, go_sem, hD]
      unfold VL
      rw [hn2]
end Go.Proofs.YtmcmphmhjikgkaaDoor
