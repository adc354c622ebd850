/- Contracts: traces, valid lists, the lists of the reference. -/
import Derived.Test.YtmcmphmhjikgkaaGreatDoorA2
set_option linter.unusedSimpArgs false
set_option linter.unusedVariables false
set_option linter.unusedSectionVars false
namespace Go.Ab.A20
open Go Go.Ab
/-- The error of a list. -/
def valE (n : Int) (l : List D2) : Int := if n < 0 ∨ 16 < n then 7 else if 64 < l.length then 3 else if l.all (fun d => decide ((d.1 ||| d.2) / 2 ^ n.toNat = 0)) = true then 0 else 1
theorem trF_nil {k : Nat} {l : List D2} {s : Nat} (h : enlI l s = none) : trF k l s = [] := by
  cases k
  · rfl
  · unfold trF; rw [h]
theorem trF_len : ∀ (k : Nat) (l : List D2) (s : Nat), Ok2 l → s < 4294967296 → (trF k l s).length + s ≤ 4294967295
  | 0, l, s, _, hs => by show 0 + s ≤ _; omega
  | k + 1, l, s, hl, hs => by
    unfold trF
    cases he : enlI l s with
    | none => show 0 + s ≤ _; omega
    | some i =>
      have h1 := enl_grow he
      have h2 := trF_len k l _ hl (or_lt hs (getD_lt hl i).2)
      show ((trF k l (s ||| (l.getD i d0).2)).length + 1) + s ≤ _
      omega
theorem trF_more : ∀ (k : Nat) (l : List D2) (s : Nat), Ok2 l → s < 4294967296 → 4294967296 ≤ k + s → trF (k + 1) l s = trF k l s
  | 0, l, s, _, hs, hk => by omega
  | k + 1, l, s, hl, hs, hk => by
    rw [trF]
    conv => rhs; rw [trF]
    cases he : enlI l s with
    | none => rfl
    | some i =>
      have h1 := enl_grow he
      simp only
      rw [trF_more k l _ hl (or_lt hs (getD_lt hl i).2) (by omega)]
theorem tr_next {l : List D2} {s i : Nat} (hl : Ok2 l) (hs : s < 4294967296) (h : enlI l s = some i) : tr l s = i :: tr l (s ||| (l.getD i d0).2) := by
  unfold tr
  rw [show (4294967296 : Nat) = 4294967295 + 1 from rfl]
  rw [trF, h]
  simp only
  have h1 := enl_grow h
  rw [trF_more 4294967295 l _ hl (or_lt hs (getD_lt hl i).2) (by omega)]
/-- The numbers of a trace. -/
def natI (l : List Nat) : List Int := l.map fun n => ((n : Nat) : Int)
theorem natI_len (l : List Nat) : (natI l).length = l.length := List.length_map _
theorem natI_snoc (l : List Nat) (n : Nat) : natI (l ++ [n]) = natI l ++ [(n : Int)] := by unfold natI; rw [List.map_append]; rfl
theorem natI_at {l : List Nat} {i : Nat} (h : i < l.length) : (natI l).getD i 0 = ((l.getD i 0 : Nat) : Int) := by
  unfold natI
  simp [List.getD_eq_getElem?_getD, h]
/-- The dependencies of a description. -/
def lstS (n : Nat) (l : List D2) : List D2 := l.map fun d => (d.1 &&& (2 ^ n - 1), d.2 &&& (2 ^ n - 1))
theorem lst_ok (n : Nat) (l : List D2) (hn : n ≤ 31) : ∀ d ∈ lstS n l, d.1 < 2 ^ n ∧ d.2 < 2 ^ n := fun d hd => by
  obtain ⟨x, _, rfl⟩ := List.mem_map.1 hd
  have := Nat.two_pow_pos n
  simp only [Nat.and_two_pow_sub_one_eq_mod]
  exact ⟨Nat.mod_lt _ this, Nat.mod_lt _ this⟩
def eC (d : D2) : List SV := [U8 d.1, U8 d.2]
def eF (l : List D2) (i : Nat) : List SV := eC (l.getD i d0)
/-- What comes in: pairs of small numbers. -/
abbrev EL (l : List D2) : SV := .fl l.length 2 (eF l)
end Go.Ab.A20
namespace Go.Proofs.YtmcmphmhjikgkaaGreatDoor
open Go Go.Ab Go.Ab.A20
variable [Gl]

set_option maxHeartbeats 1000000 in
set_option maxRecDepth 20000 in
theorem valid_p (n : Nat) (l : List D2) (hl : Ok2 l) (h16 : n ≤ 16) (h64 : l.length ≤ 64) : PCall Tryz.prog 29 [I64 n, DL l] (I64 (valE n l)) := by
  obtain ⟨X, hX⟩ : ∃ X, X = valE n l := ⟨_, rfl⟩
  rw [← hX]
  unfold valE at hX
  rw [if_neg (by omega), if_neg (by omega), Int.toNat_natCast] at hX
  have n0 : ¬ ((n : Nat) : Int) < 0 := by omega
  have n1 : ¬ (16 : Int) < ((n : Nat) : Int) := by omega
  have l1 : ¬ (64 : Int) < ((l.length : Nat) : Int) := by omega
  have nn0 : (0 : Int) ≤ ((n : Nat) : Int) := by omega
  have ne : ((n : Nat) : Int).toNat = n := Int.toNat_natCast _
  have nm : min n 32 = n := by omega
  refine Call.enter' (N := 31) (rs := [.tmp 4]) Tryz.func29 rfl rfl rfl (by decide) rfl ?_; simp only [argT]; have hD : (0 : Nat) = 0 := rfl
  repeat' first | (with_reducible refine And.intro (by omega) ?_) | (refine SW.seq_k fun K hK => ?_) | (refine SW.block ?_) | ((first | refine SW.region ?_ | refine SW.regionD (Checked.mixed Tryz.checked) (by kernel_rfl) ?_ | refine SW.cond ?_ | refine SW.skip ?_ | refine SW.exit ?_ | refine SW.ret ?_ | (refine allF_i fun b hb => ?_; replace hD := And.intro hb hD; clear hb; try simp only [fresh_cons, fresh_nil, and_true, ne_eq, neF] at hD) | simp only [appK, appOsK]); try simp only [go_sem, hD, n0, n1, l1]) | (refine And.intro (by omega) ?_) | (refine ifI (fun hc => ?_) (fun hc => ?_) <;> first | (exfalso; omega) | skip) | ((first | apply hK | ((iterate 1 (clear hK K)); apply hK) | ((iterate 2 (clear hK K)); apply hK) | ((iterate 3 (clear hK K)); apply hK) | ((iterate 4 (clear hK K)); apply hK) | ((iterate 5 (clear hK K)); apply hK)); clear hK K)
  obtain ⟨I, hI⟩ : ∃ I : Nat → St → Prop, ∀ k S, I k S ↔ (∃ (i : Nat) , k = l.length - i ∧ i ≤ l.length ∧ X = (if (l.drop i).all (fun d => decide ((d.1 ||| d.2) / 2 ^ n = 0)) = true then 0 else 1) ∧ S = ⟨[(0, I64 n), (16, DL l), (17, I64 l.length), (18, I64 i)], []⟩) := ⟨fun k S => _, fun _ _ => Iff.rfl⟩
  refine SW.loop' I (l.length) ((hI _ _).2 ⟨0, rfl, Nat.zero_le _, hX, rfl⟩) (by repeat' (first | exact rfl | exact trivial | exact int_eq (by omega) | exact int_eq (by (rw [i64_wrap] <;> omega)) | constructor)) ?_
  intro k S hIn
  obtain ⟨i, rfl, hi, hC, rfl⟩ := (hI _ _).1 hIn
  clear hIn
  have ie : ((i : Nat) : Int).toNat = i := Int.toNat_natCast _
  have i0 : (0 : Int) ≤ ((i : Nat) : Int) := by omega
  by_cases hlt : i < l.length
  · have hli : ((i : Nat) : Int) < (((l.length) : Nat) : Int) := by omega
    have w1 : IntKind.i64.wrap ((i : Int) + 1) = ((i + 1 : Nat) : Int) := by rw [i64_wrap (by omega) (by omega)]; omega
    have hd := hl _ (getD_mem d0 hlt)
    rw [drop_cons d0 hlt, List.all_cons] at hC
    obtain ⟨a, b, hg⟩ : ∃ a b, l.getD i d0 = (a, b) := ⟨_, _, rfl⟩
    have tf : dF l i = [U32 a, U32 b] := by unfold dF; rw [hg]; rfl
    rw [hg] at hd hC
    simp only at hd hC
    have eo := or32 a b hd.1 hd.2
    have sh := shr32 (a ||| b) n
    by_cases hz : (a ||| b) / 2 ^ n = 0
    · have hzi : (((a ||| b) / 2 ^ n : Nat) : Int) = 0 := by omega
      rw [decide_eq_true hz, Bool.true_and] at hC
      repeat' first | (with_reducible refine And.intro (by omega) ?_) | (refine SW.seq_k fun K hK => ?_) | (refine SW.block ?_) | ((first | refine SW.region ?_ | refine SW.regionD (Checked.mixed Tryz.checked) (by kernel_rfl) ?_ | refine SW.cond ?_ | refine SW.skip ?_ | refine SW.exit ?_ | refine SW.ret ?_ | (refine allF_i fun b hb => ?_; replace hD := And.intro hb hD; clear hb; try simp only [fresh_cons, fresh_nil, and_true, ne_eq, neF] at hD) | simp only [appK, appOsK]); try simp only [go_sem, hD, hli, ie, i0, w1, tf, eo, sh, hzi, nn0, ne, nm]) | (refine And.intro (by omega) ?_) | (refine ifI (fun hc => ?_) (fun hc => ?_) <;> first | (exfalso; omega) | skip) | ((first | apply hK | ((iterate 1 (clear hK K)); apply hK) | ((iterate 2 (clear hK K)); apply hK) | ((iterate 3 (clear hK K)); apply hK) | ((iterate 4 (clear hK K)); apply hK) | ((iterate 5 (clear hK K)); apply hK)); clear hK K)
      refine Rnd.le St.le_drop (Rnd.sub (l.length - (i + 1)) (by omega) ((hI _ _).2 ⟨i + 1, rfl, by omega, hC, rfl⟩) (by repeat' (first | exact rfl | exact trivial | exact int_eq (by omega) | exact int_eq (by (rw [i64_wrap] <;> omega)) | constructor)))
    · have hzi : ¬ (((a ||| b) / 2 ^ n : Nat) : Int) = 0 := by omega
      rw [decide_eq_false hz, Bool.false_and, if_neg (by simp)] at hC
      subst hC
      repeat' first | (with_reducible refine And.intro (by omega) ?_) | (refine SW.seq_k fun K hK => ?_) | (refine SW.block ?_) | ((first | refine SW.region ?_ | refine SW.regionD (Checked.mixed Tryz.checked) (by kernel_rfl) ?_ | refine SW.cond ?_ | refine SW.skip ?_ | refine SW.exit ?_ | refine SW.ret ?_ | (refine allF_i fun b hb => ?_; replace hD := And.intro hb hD; clear hb; try simp only [fresh_cons, fresh_nil, and_true, ne_eq, neF] at hD) | simp only [appK, appOsK]); try simp only [go_sem, hD, hli, ie, i0, w1, tf, eo, sh, hzi, nn0, ne, nm]) | (refine And.intro (by omega) ?_) | (refine ifI (fun hc => ?_) (fun hc => ?_) <;> first | (exfalso; omega) | skip) | ((first | apply hK | ((iterate 1 (clear hK K)); apply hK) | ((iterate 2 (clear hK K)); apply hK) | ((iterate 3 (clear hK K)); apply hK) | ((iterate 4 (clear hK K)); apply hK) | ((iterate 5 (clear hK K)); apply hK)); clear hK K)
      refine ret_pure ?_; simp only [resL_tmp, resL_nil, tupOf, go_sem, hD]
  · have hli : ¬ ((i : Nat) : Int) < (((l.length) : Nat) : Int) := by omega
    obtain rfl : i = l.length := by omega
    rw [List.drop_length, List.all_nil, if_pos rfl] at hC
    subst hC
    repeat' first | (with_reducible refine And.intro (by omega) ?_) | (refine SW.seq_k fun K hK => ?_) | (refine SW.block ?_) | ((first | refine SW.region ?_ | refine SW.regionD (Checked.mixed Tryz.checked) (by kernel_rfl) ?_ | refine SW.cond ?_ | refine SW.skip ?_ | refine SW.exit ?_ | refine SW.ret ?_ | (refine allF_i fun b hb => ?_; replace hD := And.intro hb hD; clear hb; try simp only [fresh_cons, fresh_nil, and_true, ne_eq, neF] at hD) | simp only [appK, appOsK]); try simp only [go_sem, hD, hli]) | (refine And.intro (by omega) ?_) | (refine ifI (fun hc => ?_) (fun hc => ?_) <;> first | (exfalso; omega) | skip) | ((first | apply hK | ((iterate 1 (clear hK K)); apply hK) | ((iterate 2 (clear hK K)); apply hK) | ((iterate 3 (clear hK K)); apply hK) | ((iterate 4 (clear hK K)); apply hK) | ((iterate 5 (clear hK K)); apply hK)); clear hK K)
    refine ret_pure ?_; simp only [resL_tmp, resL_nil, tupOf, go_sem, hD]

set_option maxHeartbeats 1000000 in
set_option maxRecDepth 20000 in
theorem trace_p (l : List D2) (s : Nat) (hl : Ok2 l) (hs : s < 4294967296) (h64 : l.length ≤ 1000000) : PCall Tryz.prog 51 [DL l, U32 s] (NL (natI (tr l s))) := by
  obtain ⟨X, hX⟩ : ∃ X, X = natI (tr l s) := ⟨_, rfl⟩
  rw [← hX]
  have hXl : X.length < 4294967296 := by
    rw [hX, natI_len]
    have := trF_len 4294967296 l s hl hs
    unfold tr
    omega
  have ep := fun t ht => enl_p l t hl ht h64
  have e1 := ep s hs
  refine Call.enter' (N := 27) (rs := [.tmp 4]) Tryz.func51 rfl rfl rfl (by decide) rfl ?_; simp only [argT]; have hD : (0 : Nat) = 0 := rfl
  repeat' first | (with_reducible refine And.intro (by omega) ?_) | (refine SW.seq_k fun K hK => ?_) | (refine SW.block ?_) | ((first | refine SW.region ?_ | refine SW.regionD (Checked.mixed Tryz.checked) (by kernel_rfl) ?_ | refine SW.cond ?_ | refine SW.skip ?_ | refine SW.exit ?_ | refine SW.ret ?_ | refine Call.of_pure (e1) ?_ | refine ⟨_, e1, ?_⟩ | (refine allF_i fun b hb => ?_; replace hD := And.intro hb hD; clear hb; try simp only [fresh_cons, fresh_nil, and_true, ne_eq, neF] at hD) | simp only [appK, appOsK]); try simp only [go_sem, hD]) | (refine And.intro (by omega) ?_) | (refine ifI (fun hc => ?_) (fun hc => ?_) <;> first | (exfalso; omega) | skip) | ((first | apply hK | ((iterate 1 (clear hK K)); apply hK) | ((iterate 2 (clear hK K)); apply hK) | ((iterate 3 (clear hK K)); apply hK) | ((iterate 4 (clear hK K)); apply hK) | ((iterate 5 (clear hK K)); apply hK)); clear hK K)
  obtain ⟨I, hI⟩ : ∃ I : Nat → St → Prop, ∀ k S, I k S ↔ (∃ (t : Nat) (x : SV) (h : Heap) (acc : List Int), t < 4294967296 ∧ k = 4294967296 - t ∧ Acc 1 x h [] acc.length (fC nC1 acc) ∧ X = acc ++ natI (tr l t) ∧ S = ⟨[(0, DL l), (1, U32 t), (5, x), (6, I64 (match enlI l t with | some i => (i : Int) | none => -1))], h⟩) := ⟨fun k S => _, fun _ _ => Iff.rfl⟩
  refine SW.loop' I (4294967296 - s) ((hI _ _).2 ⟨s, _, _, [], hs, rfl, .nil _ _, hX, rfl⟩) (by repeat' (first | exact rfl | exact trivial | exact int_eq (by omega) | exact int_eq (by (rw [i64_wrap] <;> omega)) | constructor)) ?_
  clear hX e1
  intro k S hIn
  obtain ⟨t, x, h, acc, ht, rfl, hB, hC, rfl⟩ := (hI _ _).1 hIn
  clear hIn
  cases he : enlI l t with
  | none =>
    have hm : tr l t = [] := trF_nil he
    rw [hm] at hC
    rw [show natI [] = ([] : List Int) from rfl, List.append_nil] at hC
    subst hC
    repeat' first | (with_reducible refine And.intro (by omega) ?_) | (refine SW.seq_k fun K hK => ?_) | (refine SW.block ?_) | ((first | refine SW.region ?_ | refine SW.regionD (Checked.mixed Tryz.checked) (by kernel_rfl) ?_ | refine SW.cond ?_ | refine SW.skip ?_ | refine SW.exit ?_ | refine SW.ret ?_ | (refine allF_i fun b hb => ?_; replace hD := And.intro hb hD; clear hb; try simp only [fresh_cons, fresh_nil, and_true, ne_eq, neF] at hD) | simp only [appK, appOsK]); try simp only [go_sem, hD]) | (refine And.intro (by omega) ?_) | (refine ifI (fun hc => ?_) (fun hc => ?_) <;> first | (exfalso; omega) | skip) | ((first | apply hK | ((iterate 1 (clear hK K)); apply hK) | ((iterate 2 (clear hK K)); apply hK) | ((iterate 3 (clear hK K)); apply hK) | ((iterate 4 (clear hK K)); apply hK) | ((iterate 5 (clear hK K)); apply hK)); clear hK K)
    refine retQ_le ((St.le_acc_fl (i := 4) (n := X.length) (sz := 1) (x := x) ?_ hB (nF X) (fun j hj => fC_at nC1_len 0 _ j hj)).trans St.le_drop) ?_
    · exact rfl
    · simp only [resL_tmp, resL_nil, tupOf, go_sem, hD]
  | some i =>
    have hn := tr_next hl ht he
    have hg := enl_grow he
    have hil := (enl_some he).1
    have hd := getD_lt hl i
    obtain ⟨a, c, hab⟩ : ∃ a c, l.getD i d0 = (a, c) := ⟨_, _, rfl⟩
    have tf : dF l i = [U32 a, U32 c] := by unfold dF; rw [hab]; rfl
    rw [hab] at hn hg hd
    simp only at hn hg hd
    have eo := or32 t c ht hd.2
    have hlt2 := or_lt ht hd.2
    have e2 := ep _ hlt2
    rw [hn] at hC
    have hC2 : X = (acc ++ [(i : Int)]) ++ natI (tr l (t ||| c)) := by rw [hC]; unfold natI; simp
    have hCl := congrArg List.length hC
    rw [List.length_append, natI_len, List.length_cons] at hCl
    have ba : (acc.length + 1) * 8 ≤ 140737488355328 := by omega
    have i0 : (0 : Int) ≤ ((i : Nat) : Int) := by omega
    have il : ((i : Nat) : Int) < ((l.length : Nat) : Int) := by omega
    have ie : ((i : Nat) : Int).toNat = i := Int.toNat_natCast _
    rcases hB.casesH with ⟨e0, e1, rfl, rfl⟩ | ⟨g, hgf, e0, rfl, hle⟩
    · have hLn : acc = [] := List.eq_nil_of_length_eq_zero e0
      subst hLn
      repeat' first | (with_reducible refine And.intro (by omega) ?_) | (refine SW.seq_k fun K hK => ?_) | (refine SW.block ?_) | ((first | refine SW.region ?_ | refine SW.regionD (Checked.mixed Tryz.checked) (by kernel_rfl) ?_ | refine SW.cond ?_ | refine SW.skip ?_ | refine SW.exit ?_ | refine SW.ret ?_ | refine Call.of_pure (e2) ?_ | refine ⟨_, e2, ?_⟩ | (refine allF_i fun b hb => ?_; replace hD := And.intro hb hD; clear hb; try simp only [fresh_cons, fresh_nil, and_true, ne_eq, neF] at hD) | simp only [appK, appOsK]); try simp only [go_sem, hD, i0, il, ie, tf, eo, ba, true_implies]) | (refine And.intro (by omega) ?_) | (refine ifI (fun hc => ?_) (fun hc => ?_) <;> first | (exfalso; omega) | skip) | ((first | apply hK | ((iterate 1 (clear hK K)); apply hK) | ((iterate 2 (clear hK K)); apply hK) | ((iterate 3 (clear hK K)); apply hK) | ((iterate 4 (clear hK K)); apply hK) | ((iterate 5 (clear hK K)); apply hK)); clear hK K)
      refine Rnd.le (St.le_pick [(b, .ints .i64 [(i : Int)])] ?_ ?_) (Rnd.sub (4294967296 - (t ||| c)) (by omega) ((hI _ _).2 ⟨_, _, _, [(i : Int)], hlt2, rfl, .inr ⟨b, .ints .i64 [(i : Int)], by simp [fresh_nil], rfl, rfl, rfl, rfl, rfl⟩, hC2, rfl⟩) (by repeat' (first | exact rfl | exact trivial | exact int_eq (by omega) | exact int_eq (by (rw [i64_wrap] <;> omega)) | constructor)))
      · repeat' (first | exact (fun x hx => (List.not_mem_nil hx).elim) | refine List.forall_mem_cons.2 ⟨?_, ?_⟩ | exact List.mem_cons_self | apply List.mem_cons_of_mem)
      · simp [fresh_cons, fresh_nil, hD]
    · refine Ab.SW.le (hle _) ?_
      repeat' first | (with_reducible refine And.intro (by omega) ?_) | (refine SW.seq_k fun K hK => ?_) | (refine SW.block ?_) | ((first | refine SW.region ?_ | refine SW.regionD (Checked.mixed Tryz.checked) (by kernel_rfl) ?_ | refine SW.cond ?_ | refine SW.skip ?_ | refine SW.exit ?_ | refine SW.ret ?_ | refine Call.of_pure (e2) ?_ | refine ⟨_, e2, ?_⟩ | (refine allF_i fun b hb => ?_; replace hD := And.intro hb hD; clear hb; try simp only [fresh_cons, fresh_nil, and_true, ne_eq, neF] at hD) | simp only [appK, appOsK]); try simp only [go_sem, hD, i0, il, ie, tf, eo, ba, true_implies, e0]) | (refine And.intro (by omega) ?_) | (refine ifI (fun hc => ?_) (fun hc => ?_) <;> first | (exfalso; omega) | skip) | ((first | apply hK | ((iterate 1 (clear hK K)); apply hK) | ((iterate 2 (clear hK K)); apply hK) | ((iterate 3 (clear hK K)); apply hK) | ((iterate 4 (clear hK K)); apply hK) | ((iterate 5 (clear hK K)); apply hK)); clear hK K)
      refine Rnd.le (St.le_pick [(b, .svs (fC nC1 acc ++ nC1 (i : Int)))] ?_ ?_) (Rnd.sub (4294967296 - (t ||| c)) (by omega) ((hI _ _).2 ⟨_, _, _, acc ++ [(i : Int)], hlt2, rfl, by rw [List.length_append, ← fC_snoc]; exact Acc.osH (by simp [fresh_nil]) (by rw [List.length_append, ← e0]; simp [nC1]), hC2, rfl⟩) (by repeat' (first | exact rfl | exact trivial | exact int_eq (by omega) | exact int_eq (by (rw [i64_wrap] <;> omega)) | constructor)))
      · repeat' (first | exact (fun x hx => (List.not_mem_nil hx).elim) | refine List.forall_mem_cons.2 ⟨?_, ?_⟩ | exact List.mem_cons_self | apply List.mem_cons_of_mem)
      · simp [fresh_cons, fresh_nil, hD]
end Go.Proofs.YtmcmphmhjikgkaaGreatDoor
