/- The closed sets. -/
import Derived.Test.YtmcmphmhjikgkaaGreatDoorA4
import Derived.Test.YtmcmphmhjikgkaaGreatDoorD4
set_option linter.unusedSimpArgs false
set_option linter.unusedVariables false
set_option linter.unusedSectionVars false
namespace Go.Ab.A20
open Go Go.Ab
/-- All subsets, from the greatest. -/
def subL : Nat → List Nat
  | 0 => []
  | k + 1 => k :: subL k
theorem subL_mem {m a : Nat} : a ∈ subL m ↔ a < m := by
  induction m with
  | zero => simp [subL]
  | succ k ih => rw [subL, List.mem_cons, ih]; omega
theorem subL_nd : ∀ m, (subL m).Nodup
  | 0 => List.nodup_nil
  | k + 1 => List.nodup_cons.2 ⟨fun h => Nat.lt_irrefl k (subL_mem.1 h), subL_nd k⟩
theorem subL_len : ∀ m, (subL m).length = m
  | 0 => rfl
  | k + 1 => by rw [subL, List.length_cons, subL_len k]
theorem sub_fin : ∀ n : _root_.Fin 7, ∀ s : _root_.Fin 64, s.val < 2 ^ n.val → s.val ≠ 0 → bits .and .u32 (IntKind.u32.wrap ((s.val : Int) - 1)) ((2 ^ n.val - 1 : Nat) : Int) = ((s.val - 1 : Nat) : Int) := by decide +kernel
theorem sub_step {n s : Nat} (hn : n ≤ 6) (hs : s < 2 ^ n) (h0 : s ≠ 0) : bits .and .u32 (IntKind.u32.wrap ((s : Int) - 1)) ((2 ^ n - 1 : Nat) : Int) = ((s - 1 : Nat) : Int) :=
  sub_fin ⟨n, by omega⟩ ⟨s, Nat.lt_of_lt_of_le hs (pow6 hn)⟩ hs h0
theorem w_fin : ∀ n : _root_.Fin 7, IntKind.u32.wrap (((2 ^ n.val : Nat) : Int) - 1) = ((2 ^ n.val - 1 : Nat) : Int) := by decide +kernel
theorem pop_le : ∀ s : _root_.Fin 64, popN s.val ≤ 6 := by decide +kernel
/-- The closed sets in order. -/
def closedL (n : Nat) (l : List D2) : List Nat := (ordN (subL (2 ^ n))).filter fun s => (enlI l s).isNone
end Go.Ab.A20
namespace Go.Proofs.YtmcmphmhjikgkaaGreatDoor
open Go Go.Ab Go.Ab.A20
variable [Gl] [Bru]

set_option maxHeartbeats 2000000 in
set_option maxRecDepth 20000 in
theorem subsets_p (n : Nat) (hn : n ≤ 6) : PCall Tryz.prog 30 [U32 (2 ^ n - 1 : Nat)] (SS (ordN (subL (2 ^ n)))) := by
  have h6 := pow6 hn
  have hp := Nat.two_pow_pos n
  have hsm : Sm (subL (2 ^ n)) := fun x hx => by have := subL_mem.1 hx; omega
  have od := order_n (subL (2 ^ n)) hsm (subL_nd _) (by rw [subL_len]; omega)
  have sz := size_p (2 ^ n - 1) (by omega)
  have sl : ¬ (12 : Int) < ((popN (2 ^ n - 1) : Nat) : Int) := by
    have : popN (2 ^ n - 1) ≤ 6 := pop_le ⟨2 ^ n - 1, by omega⟩
    omega
  have hss := fun s => sub_step (n := n) (s := s) hn
  obtain ⟨R, hR⟩ : ∃ R, R = ordN (subL (2 ^ n)) := ⟨_, rfl⟩
  rw [← hR] at od ⊢
  have hlen := subL_len (2 ^ n)
  have hcons : subL (2 ^ n) = (2 ^ n - 1) :: subL (2 ^ n - 1) := by
    have : 2 ^ n = (2 ^ n - 1) + 1 := by omega
    conv => lhs; rw [this, subL]
  obtain ⟨T, hT⟩ : ∃ T, T = 2 ^ n - 1 := ⟨_, rfl⟩
  rw [← hT] at sz sl hss hcons ⊢
  obtain ⟨X, hX⟩ : ∃ X, X = subL (2 ^ n) := ⟨_, rfl⟩
  rw [← hX] at od hlen hcons
  refine Call.enter' (N := 23) (rs := [.tmp 2]) Tryz.func30 rfl rfl rfl (by decide) rfl ?_; simp only [argT]; have hD : (0 : Nat) = 0 := rfl
  repeat' first | (with_reducible refine And.intro (by omega) ?_) | (refine SW.seq_k fun K hK => ?_) | (refine SW.block ?_) | ((first | refine SW.region ?_ | refine SW.regionD (Checked.mixed Tryz.checked) (by kernel_rfl) ?_ | refine SW.cond ?_ | refine SW.skip ?_ | refine SW.exit ?_ | refine SW.ret ?_ | refine Call.of_pure (sz) ?_ | refine ⟨_, sz, ?_⟩ | (refine allF_i fun b hb => ?_; replace hD := And.intro hb hD; clear hb; try simp only [fresh_cons, fresh_nil, and_true, ne_eq, neF] at hD) | simp only [appK, appOsK]); try simp only [go_sem, hD, sl]) | (refine And.intro (by omega) ?_) | (refine ifI (fun hc => ?_) (fun hc => ?_) <;> first | (exfalso; omega) | skip) | ((first | apply hK | ((iterate 1 (clear hK K)); apply hK) | ((iterate 2 (clear hK K)); apply hK) | ((iterate 3 (clear hK K)); apply hK) | ((iterate 4 (clear hK K)); apply hK) | ((iterate 5 (clear hK K)); apply hK)); clear hK K)
  obtain ⟨I, hI⟩ : ∃ I : Nat → St → Prop, ∀ k S, I k S ↔ (∃ (s : Nat) (x : SV) (h : Heap) (acc : List Nat), k = s ∧ s < 2 ^ n ∧ X = acc ++ subL s ∧ Acc 1 x h [] acc.length (fC sC1 acc) ∧ S = ⟨[(0, U32 T), (3, x), (4, U32 s)], h⟩) := ⟨fun k S => _, fun _ _ => Iff.rfl⟩
  refine SW.loop' I T ((hI _ _).2 ⟨T, _, _, [T], rfl, by omega, hcons, .inr ⟨b, .svs [U32 T], by simp [fresh_nil], rfl, rfl, rfl, rfl, rfl⟩, rfl⟩) (by repeat' (first | exact rfl | exact trivial | exact int_eq (by omega) | exact int_eq (by (rw [i64_wrap] <;> omega)) | constructor)) ?_
  intro k S hIn
  obtain ⟨s, x, h, acc, rfl, hs, hC, hB, rfl⟩ := (hI _ _).1 hIn
  clear hIn
  by_cases h0 : k = 0
  · subst h0
    have z0 : ((0 : Nat) : Int) = 0 := rfl
    rw [show subL 0 = [] from rfl, List.append_nil] at hC
    subst hC
    refine Ab.SW.le (St.le_acc_fl (i := 3) (n := X.length) (sz := 1) (x := x) rfl hB (sF X) (fun j hj => fC_at sC1_len 0 _ j hj)) ?_
    repeat' first | (with_reducible refine And.intro (by omega) ?_) | (refine SW.seq_k fun K hK => ?_) | (refine SW.block ?_) | ((first | refine SW.region ?_ | refine SW.regionD (Checked.mixed Tryz.checked) (by kernel_rfl) ?_ | refine SW.cond ?_ | refine SW.skip ?_ | refine SW.exit ?_ | refine SW.ret ?_ | refine Call.of_pure (od) ?_ | refine ⟨_, od, ?_⟩ | (refine allF_i fun b hb => ?_; replace hD := And.intro hb hD; clear hb; try simp only [fresh_cons, fresh_nil, and_true, ne_eq, neF] at hD) | simp only [appK, appOsK]); try simp only [go_sem, hD, z0]) | (refine And.intro (by omega) ?_) | (refine ifI (fun hc => ?_) (fun hc => ?_) <;> first | (exfalso; omega) | skip) | ((first | apply hK | ((iterate 1 (clear hK K)); apply hK) | ((iterate 2 (clear hK K)); apply hK) | ((iterate 3 (clear hK K)); apply hK) | ((iterate 4 (clear hK K)); apply hK) | ((iterate 5 (clear hK K)); apply hK)); clear hK K)
    refine ret_pure ?_; simp only [resL_tmp, resL_nil, tupOf, go_sem, hD]
  · have hki : ¬ ((k : Nat) : Int) = 0 := by omega
    have e1 := hss k hs h0
    have hC2 : X = (acc ++ [k - 1]) ++ subL (k - 1) := by
      rw [hC, show subL k = (k - 1) :: subL (k - 1) from by conv => lhs; rw [show k = (k - 1) + 1 by omega, subL]]
      simp
    have hCl := congrArg List.length hC2
    rw [List.length_append, List.length_append, hlen, subL_len, List.length_singleton] at hCl
    have ba : (acc.length + 1) * 4 ≤ 140737488355328 := by omega
    rcases hB.casesH with ⟨e0, e1, rfl, rfl⟩ | ⟨g, hgf, e0, rfl, hle⟩
    · exfalso
      omega
    · refine Ab.SW.le (hle _) ?_
      repeat' first | (with_reducible refine And.intro (by omega) ?_) | (refine SW.seq_k fun K hK => ?_) | (refine SW.block ?_) | ((first | refine SW.region ?_ | refine SW.regionD (Checked.mixed Tryz.checked) (by kernel_rfl) ?_ | refine SW.cond ?_ | refine SW.skip ?_ | refine SW.exit ?_ | refine SW.ret ?_ | (refine allF_i fun b hb => ?_; replace hD := And.intro hb hD; clear hb; try simp only [fresh_cons, fresh_nil, and_true, ne_eq, neF] at hD) | simp only [appK, appOsK]); try simp only [go_sem, hD, hki, e1, ba, true_implies, e0]) | (refine And.intro (by omega) ?_) | (refine ifI (fun hc => ?_) (fun hc => ?_) <;> first | (exfalso; omega) | skip) | ((first | apply hK | ((iterate 1 (clear hK K)); apply hK) | ((iterate 2 (clear hK K)); apply hK) | ((iterate 3 (clear hK K)); apply hK) | ((iterate 4 (clear hK K)); apply hK) | ((iterate 5 (clear hK K)); apply hK)); clear hK K)
      refine Rnd.le (St.le_pick [(b, .svs (fC sC1 acc ++ sC1 (k - 1)))] ?_ ?_) (Rnd.sub (k - 1) (by omega) ((hI _ _).2 ⟨k - 1, _, _, acc ++ [k - 1], rfl, by omega, hC2, by rw [List.length_append, ← fC_snoc]; exact Acc.osH (by simp [fresh_nil]) (by rw [List.length_append, ← e0]; simp [sC1]), rfl⟩) (by repeat' (first | exact rfl | exact trivial | exact int_eq (by omega) | exact int_eq (by (rw [i64_wrap] <;> omega)) | constructor)))
      · repeat' (first | exact (fun x hx => (List.not_mem_nil hx).elim) | refine List.forall_mem_cons.2 ⟨?_, ?_⟩ | exact List.mem_cons_self | apply List.mem_cons_of_mem)
      · simp [fresh_cons, fresh_nil, hD]

set_option maxHeartbeats 2000000 in
set_option maxRecDepth 20000 in
theorem closed_p (n : Nat) (l : List D2) (hn : n ≤ 6) (h2 : In2 n l) (h64 : l.length ≤ 64) : PCall Tryz.prog 9 [I64 n, DL l] (.tup [SS (closedL n l), I64 0]) := by
  have h6 := pow6 hn
  have hp := Nat.two_pow_pos n
  have hok := in2_ok (by omega) h2
  have va := valid_p n l hok (by omega) h64
  rw [valE_ok hn h64 h2] at va
  have sp := subsets_p n hn
  have hsm : Sm (subL (2 ^ n)) := fun x hx => by have := subL_mem.1 hx; omega
  have hRm : ∀ s ∈ ordN (subL (2 ^ n)), s < 64 := fun s hs => hsm s ((ordN_perm hsm).mem_iff.1 hs)
  have hRl : (ordN (subL (2 ^ n))).length ≤ 64 := by rw [ordN_len hsm, subL_len]; exact h6
  obtain ⟨X, hX⟩ : ∃ X, X = closedL n l := ⟨_, rfl⟩
  rw [← hX]
  unfold closedL at hX
  generalize ordN (subL (2 ^ n)) = R at *
  have n0 : ¬ ((n : Nat) : Int) < 0 := by omega
  have n16 : ¬ (16 : Int) < ((n : Nat) : Int) := by omega
  have n12 : ¬ (12 : Int) < ((n : Nat) : Int) := by omega
  have nn0 : (0 : Int) ≤ ((n : Nat) : Int) := by omega
  have nne : ((n : Nat) : Int).toNat = n := Int.toNat_natCast _
  have n32 : ((n : Nat) : Int) < 32 := by omega
  have sh := shl32 n (by omega)
  have wp : IntKind.u32.wrap (((2 ^ n : Nat) : Int) - 1) = ((2 ^ n - 1 : Nat) : Int) := w_fin ⟨n, by omega⟩
  refine Call.enter' (N := 45) (rs := [.tmp 4, .tmp 5]) Tryz.func9 rfl rfl rfl (by decide) rfl ?_; simp only [argT]; have hD : (0 : Nat) = 0 := rfl
  repeat' first | (with_reducible refine And.intro (by omega) ?_) | (refine SW.seq_k fun K hK => ?_) | (refine SW.block ?_) | ((first | refine SW.region ?_ | refine SW.regionD (Checked.mixed Tryz.checked) (by kernel_rfl) ?_ | refine SW.cond ?_ | refine SW.skip ?_ | refine SW.exit ?_ | refine SW.ret ?_ | refine Call.of_pure (va) ?_ | refine ⟨_, va, ?_⟩ | refine Call.of_pure (sp) ?_ | refine ⟨_, sp, ?_⟩ | (refine allF_i fun b hb => ?_; replace hD := And.intro hb hD; clear hb; try simp only [fresh_cons, fresh_nil, and_true, ne_eq, neF] at hD) | simp only [appK, appOsK]); try simp only [go_sem, hD, n0, n16, n12, nn0, nne, n32, sh, wp]) | (refine And.intro (by omega) ?_) | (refine ifI (fun hc => ?_) (fun hc => ?_) <;> first | (exfalso; omega) | skip) | ((first | apply hK | ((iterate 1 (clear hK K)); apply hK) | ((iterate 2 (clear hK K)); apply hK) | ((iterate 3 (clear hK K)); apply hK) | ((iterate 4 (clear hK K)); apply hK) | ((iterate 5 (clear hK K)); apply hK)); clear hK K)
  obtain ⟨I, hI⟩ : ∃ I : Nat → St → Prop, ∀ k S, I k S ↔ (∃ (i : Nat) (x : SV) (h : Heap) (acc : List Nat), k = R.length - i ∧ i ≤ R.length ∧ Acc 1 x h [] acc.length (fC sC1 acc) ∧ acc = (R.take i).filter (fun s => (enlI l s).isNone) ∧ S = ⟨[(1, DL l), (7, x), (29, SS R), (30, I64 R.length), (31, I64 i)], h⟩) := ⟨fun k S => _, fun _ _ => Iff.rfl⟩
  refine SW.loop' I (R.length) ((hI _ _).2 ⟨0, _, _, [], rfl, Nat.zero_le _, .nil _ _, rfl, rfl⟩) (by repeat' (first | exact rfl | exact trivial | exact int_eq (by omega) | exact int_eq (by (rw [i64_wrap] <;> omega)) | constructor)) ?_
  intro k S hIn
  obtain ⟨i, x, h, acc, rfl, hi, hB, hC, rfl⟩ := (hI _ _).1 hIn
  clear hIn
  have ie : ((i : Nat) : Int).toNat = i := Int.toNat_natCast _
  have i0 : (0 : Int) ≤ ((i : Nat) : Int) := by omega
  by_cases hlt : i < R.length
  · have hli : ((i : Nat) : Int) < (((R.length) : Nat) : Int) := by omega
    have w1 : IntKind.i64.wrap ((i : Int) + 1) = ((i + 1 : Nat) : Int) := by rw [i64_wrap (by omega) (by omega)]; omega
    have hs := hRm _ (getD_mem 0 hlt)
    have hsn := take_snoc (l := R) 0 hlt
    have tf : sF R i = [U32 (R.getD i 0)] := rfl
    have hfl : acc.length ≤ i := by
      rw [hC]
      exact Nat.le_trans (List.length_filter_le _ _) (by rw [List.length_take]; omega)
    have ep := enl_p l (R.getD i 0) hok (by omega) (by omega)
    generalize R.getD i 0 = s at *
    cases he : enlI l s with
    | some k =>
      have hC2 : acc = (R.take (i + 1)).filter (fun s => (enlI l s).isNone) := by
        rw [hsn, List.filter_append, List.filter_cons_of_neg (by rw [he]; simp), List.filter_nil, List.append_nil]
        exact hC
      rw [he] at ep
      have ep' : PCall Tryz.prog 31 [DL l, U32 s] (I64 (k : Int)) := ep
      have k0 : ¬ ((k : Nat) : Int) < 0 := by omega
      rcases hB.casesH with ⟨e0, e1, rfl, rfl⟩ | ⟨g, hgf, e0, rfl, hle⟩
      · repeat' first | (with_reducible refine And.intro (by omega) ?_) | (refine SW.seq_k fun K hK => ?_) | (refine SW.block ?_) | ((first | refine SW.region ?_ | refine SW.regionD (Checked.mixed Tryz.checked) (by kernel_rfl) ?_ | refine SW.cond ?_ | refine SW.skip ?_ | refine SW.exit ?_ | refine SW.ret ?_ | refine Call.of_pure (ep') ?_ | refine ⟨_, ep', ?_⟩ | (refine allF_i fun b hb => ?_; replace hD := And.intro hb hD; clear hb; try simp only [fresh_cons, fresh_nil, and_true, ne_eq, neF] at hD) | simp only [appK, appOsK]); try simp only [go_sem, hD, hli, ie, i0, w1, tf, k0]) | (refine And.intro (by omega) ?_) | (refine ifI (fun hc => ?_) (fun hc => ?_) <;> first | (exfalso; omega) | skip) | ((first | apply hK | ((iterate 1 (clear hK K)); apply hK) | ((iterate 2 (clear hK K)); apply hK) | ((iterate 3 (clear hK K)); apply hK) | ((iterate 4 (clear hK K)); apply hK) | ((iterate 5 (clear hK K)); apply hK)); clear hK K)
        refine Rnd.sub (R.length - (i + 1)) (by omega) ((hI _ _).2 ⟨i + 1, _, _, acc, rfl, by omega, .inl ⟨e0, e1, rfl, rfl⟩, hC2, rfl⟩) (by repeat' (first | exact rfl | exact trivial | exact int_eq (by omega) | exact int_eq (by (rw [i64_wrap] <;> omega)) | constructor))
      · refine Ab.SW.le (hle _) ?_
        repeat' first | (with_reducible refine And.intro (by omega) ?_) | (refine SW.seq_k fun K hK => ?_) | (refine SW.block ?_) | ((first | refine SW.region ?_ | refine SW.regionD (Checked.mixed Tryz.checked) (by kernel_rfl) ?_ | refine SW.cond ?_ | refine SW.skip ?_ | refine SW.exit ?_ | refine SW.ret ?_ | refine Call.of_pure (ep') ?_ | refine ⟨_, ep', ?_⟩ | (refine allF_i fun b hb => ?_; replace hD := And.intro hb hD; clear hb; try simp only [fresh_cons, fresh_nil, and_true, ne_eq, neF] at hD) | simp only [appK, appOsK]); try simp only [go_sem, hD, hli, ie, i0, w1, tf, k0]) | (refine And.intro (by omega) ?_) | (refine ifI (fun hc => ?_) (fun hc => ?_) <;> first | (exfalso; omega) | skip) | ((first | apply hK | ((iterate 1 (clear hK K)); apply hK) | ((iterate 2 (clear hK K)); apply hK) | ((iterate 3 (clear hK K)); apply hK) | ((iterate 4 (clear hK K)); apply hK) | ((iterate 5 (clear hK K)); apply hK)); clear hK K)
        refine Rnd.sub (R.length - (i + 1)) (by omega) ((hI _ _).2 ⟨i + 1, _, _, acc, rfl, by omega, Acc.osH hgf e0, hC2, rfl⟩) (by repeat' (first | exact rfl | exact trivial | exact int_eq (by omega) | exact int_eq (by (rw [i64_wrap] <;> omega)) | constructor))
    | none =>
      have hC2 : acc ++ [s] = (R.take (i + 1)).filter (fun s => (enlI l s).isNone) := by
        rw [hsn, List.filter_append, List.filter_cons_of_pos (by rw [he]; rfl), List.filter_nil]
        rw [hC]
      rw [he] at ep
      have ep' : PCall Tryz.prog 31 [DL l, U32 s] (I64 (-1)) := ep
      have ba : (acc.length + 1) * 4 ≤ 140737488355328 := by omega
      rcases hB.casesH with ⟨e0, e1, rfl, rfl⟩ | ⟨g, hgf, e0, rfl, hle⟩
      · have hLn : acc = [] := List.eq_nil_of_length_eq_zero e0
        subst hLn
        repeat' first | (with_reducible refine And.intro (by omega) ?_) | (refine SW.seq_k fun K hK => ?_) | (refine SW.block ?_) | ((first | refine SW.region ?_ | refine SW.regionD (Checked.mixed Tryz.checked) (by kernel_rfl) ?_ | refine SW.cond ?_ | refine SW.skip ?_ | refine SW.exit ?_ | refine SW.ret ?_ | refine Call.of_pure (ep') ?_ | refine ⟨_, ep', ?_⟩ | (refine allF_i fun b hb => ?_; replace hD := And.intro hb hD; clear hb; try simp only [fresh_cons, fresh_nil, and_true, ne_eq, neF] at hD) | simp only [appK, appOsK]); try simp only [go_sem, hD, hli, ie, i0, w1, tf, ba, true_implies]) | (refine And.intro (by omega) ?_) | (refine ifI (fun hc => ?_) (fun hc => ?_) <;> first | (exfalso; omega) | skip) | ((first | apply hK | ((iterate 1 (clear hK K)); apply hK) | ((iterate 2 (clear hK K)); apply hK) | ((iterate 3 (clear hK K)); apply hK) | ((iterate 4 (clear hK K)); apply hK) | ((iterate 5 (clear hK K)); apply hK)); clear hK K)
        refine Rnd.le (St.le_pick [(b, .ints .u32 [(s : Int)])] ?_ ?_) (Rnd.sub (R.length - (i + 1)) (by omega) ((hI _ _).2 ⟨i + 1, _, _, [s], rfl, by omega, .inr ⟨b, .ints .u32 [(s : Int)], by simp [fresh_nil], rfl, rfl, rfl, rfl, rfl⟩, hC2, rfl⟩) (by repeat' (first | exact rfl | exact trivial | exact int_eq (by omega) | exact int_eq (by (rw [i64_wrap] <;> omega)) | constructor)))
        · repeat' (first | exact (fun x hx => (List.not_mem_nil hx).elim) | refine List.forall_mem_cons.2 ⟨?_, ?_⟩ | exact List.mem_cons_self | apply List.mem_cons_of_mem)
        · simp [fresh_cons, fresh_nil, hD]
      · refine Ab.SW.le (hle _) ?_
        repeat' first | (with_reducible refine And.intro (by omega) ?_) | (refine SW.seq_k fun K hK => ?_) | (refine SW.block ?_) | ((first | refine SW.region ?_ | refine SW.regionD (Checked.mixed Tryz.checked) (by kernel_rfl) ?_ | refine SW.cond ?_ | refine SW.skip ?_ | refine SW.exit ?_ | refine SW.ret ?_ | refine Call.of_pure (ep') ?_ | refine ⟨_, ep', ?_⟩ | (refine allF_i fun b hb => ?_; replace hD := And.intro hb hD; clear hb; try simp only [fresh_cons, fresh_nil, and_true, ne_eq, neF] at hD) | simp only [appK, appOsK]); try simp only [go_sem, hD, hli, ie, i0, w1, tf, ba, true_implies, e0]) | (refine And.intro (by omega) ?_) | (refine ifI (fun hc => ?_) (fun hc => ?_) <;> first | (exfalso; omega) | skip) | ((first | apply hK | ((iterate 1 (clear hK K)); apply hK) | ((iterate 2 (clear hK K)); apply hK) | ((iterate 3 (clear hK K)); apply hK) | ((iterate 4 (clear hK K)); apply hK) | ((iterate 5 (clear hK K)); apply hK)); clear hK K)
        refine Rnd.le (St.le_pick [(b, .svs (fC sC1 acc ++ sC1 s))] ?_ ?_) (Rnd.sub (R.length - (i + 1)) (by omega) ((hI _ _).2 ⟨i + 1, _, _, acc ++ [s], rfl, by omega, by rw [List.length_append, ← fC_snoc]; exact Acc.osH (by simp [fresh_nil]) (by rw [List.length_append, ← e0]; simp [sC1]), hC2, rfl⟩) (by repeat' (first | exact rfl | exact trivial | exact int_eq (by omega) | exact int_eq (by (rw [i64_wrap] <;> omega)) | constructor)))
        · repeat' (first | exact (fun x hx => (List.not_mem_nil hx).elim) | refine List.forall_mem_cons.2 ⟨?_, ?_⟩ | exact List.mem_cons_self | apply List.mem_cons_of_mem)
        · simp [fresh_cons, fresh_nil, hD]
  · have hli : ¬ ((i : Nat) : Int) < (((R.length) : Nat) : Int) := by omega
    obtain rfl : i = R.length := by omega
    rw [List.take_length, ← hX] at hC
    subst hC
    repeat' first | (with_reducible refine And.intro (by omega) ?_) | (refine SW.seq_k fun K hK => ?_) | (refine SW.block ?_) | ((first | refine SW.region ?_ | refine SW.regionD (Checked.mixed Tryz.checked) (by kernel_rfl) ?_ | refine SW.cond ?_ | refine SW.skip ?_ | refine SW.exit ?_ | refine SW.ret ?_ | (refine allF_i fun b hb => ?_; replace hD := And.intro hb hD; clear hb; try simp only [fresh_cons, fresh_nil, and_true, ne_eq, neF] at hD) | simp only [appK, appOsK]); try simp only [go_sem, hD, hli]) | (refine And.intro (by omega) ?_) | (refine ifI (fun hc => ?_) (fun hc => ?_) <;> first | (exfalso; omega) | skip) | ((first | apply hK | ((iterate 1 (clear hK K)); apply hK) | ((iterate 2 (clear hK K)); apply hK) | ((iterate 3 (clear hK K)); apply hK) | ((iterate 4 (clear hK K)); apply hK) | ((iterate 5 (clear hK K)); apply hK)); clear hK K)
    refine retQ_le ((St.le_acc_fl (i := 4) (n := acc.length) (sz := 1) (x := x) ?_ hB (sF acc) (fun j hj => fC_at sC1_len 0 _ j hj)).trans St.le_drop) ?_
    · exact rfl
    · simp only [resL_tmp, resL_nil, tupOf, go_sem, hD]
end Go.Proofs.YtmcmphmhjikgkaaGreatDoor
