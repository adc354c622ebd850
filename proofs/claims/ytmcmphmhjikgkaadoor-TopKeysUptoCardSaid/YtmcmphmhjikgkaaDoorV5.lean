/- Contracts: all minimal transversals; a list is their list. -/
import Derived.Test.YtmcmphmhjikgkaaDoorV4
set_option linter.unusedSimpArgs false
set_option linter.unusedVariables false
set_option linter.unusedSectionVars false
namespace Go.Ab.A20
open Go Go.Ab
theorem minL_ok {l : List Nat} (h : Sm l) : RInv l [] (minL l) := redL_ok h (ordN l) (fun x => (ordN_perm h).mem_iff) (ordN_le h)
theorem minL_mem {l : List Nat} (h : Sm l) (x : Nat) : x ∈ minL l ↔ MinIn l x := mem_red (minL_ok h) x
theorem lt_nd {l : List Nat} (h : l.Pairwise fun a b => keyN a < keyN b) : l.Nodup := h.imp (fun {a b} hab e => by rw [e] at hab; omega)
theorem minL_few {l : List Nat} (h : Sm l) : (minL l).length ≤ 64 := nodup_lt 64 _ (lt_nd (minL_ok h).srt) (minL_sm h)
/-- The list behind some edges. -/
def traL (R : List Nat) : List Nat := R.foldl (fun l e => minL (stepF l e)) [0]
theorem traL_snoc (R : List Nat) (e : Nat) : traL (R ++ [e]) = minL (stepF (traL R) e) := by unfold traL; rw [List.foldl_append]; rfl
theorem traL_sm : ∀ (R : List Nat), Sm (traL R) ∧ (traL R).length ≤ 64 := fun R => by
  rcases List.eq_nil_or_concat R with rfl | ⟨r, x, e⟩
  · exact ⟨fun x hx => by rw [List.mem_singleton.1 hx]; decide, by show 1 ≤ 64; decide⟩
  · rw [List.concat_eq_append] at e
    have ih := (traL_sm r).1
    rw [e, traL_snoc]
    have h := stepF_sm (e := x) ih
    exact ⟨minL_sm h, minL_few h⟩
termination_by R => R.length
decreasing_by rw [e]; simp
/-- What was appended, in the middle of things. -/
theorem stepF_snoc (l : List Nat) (s e : Nat) : stepF (l ++ [s]) e = stepF l e ++ (if s &&& e = 0 then (bitsL e).map (fun b => s ||| b) else [s]) := by
  unfold stepF
  rw [List.flatMap_append]
  simp
theorem bitsL_len (e : Nat) : (bitsL e).length ≤ 6 := by
  unfold bitsL
  rw [List.length_map]
  have := List.length_filter_le (fun i => e.testBit i) (List.range 6)
  rwa [List.length_range] at this
theorem stepF_len : ∀ (l : List Nat) (e : Nat), (stepF l e).length ≤ 6 * l.length
  | [], e => Nat.le_refl _
  | s :: l, e => by
    have ih := stepF_len l e
    unfold stepF at *
    rw [List.flatMap_cons, List.length_append, List.length_cons]
    have : (if s &&& e = 0 then (bitsL e).map (fun b => s ||| b) else [s]).length ≤ 6 := by
      split
      · rw [List.length_map]; exact bitsL_len e
      · show 1 ≤ 6; decide
    omega
end Go.Ab.A20
namespace Go.Proofs.YtmcmphmhjikgkaaDoor
open Go Go.Ab Go.Ab.A20
variable [Gl]

set_option maxHeartbeats 1000000 in
set_option maxRecDepth 20000 in
theorem valid_t (n : Nat) (E : List Nat) (hn : n ≤ 6) (hE : ∀ e ∈ E, e < 2 ^ n) (hl : E.length ≤ 200) : PCall Tryd.prog 27 [I64 n, SS E] (I64 0) := by
  have hF : ∀ e ∈ E, PCall Tryd.prog 42 (U32 e :: [.fp [I64 n]]) (SB ((fun _ => false) e)) := fun e he => val1_p n e hn (hE e he)
  have cn := contains_p 42 [.fp [I64 n]] (fun _ => false) E hF (by omega)
  have ea : E.any (fun _ => false) = false := by simp
  rw [ea] at cn
  have n0 : ¬ ((n : Nat) : Int) < 0 := by omega
  have n1 : ¬ (16 : Int) < ((n : Nat) : Int) := by omega
  have l1 : ¬ (200 : Int) < ((E.length : Nat) : Int) := by omega
  refine Call.enter' (N := 20) (rs := [.tmp 4]) Tryd.func27 rfl rfl rfl (by decide) rfl ?_; simp only [argT]; have hD : (0 : Nat) = 0 := rfl
  repeat' first | ((refine Ab.SW.le (St.le_freezeP (i := 2) (n := 1) rfl (by rw [find_cons, if_pos rfl]) (by exact Nat.le_refl 1)) ?_); (rw [del_head]); (simp only [getN, Blk.get])) | (with_reducible refine And.intro (by omega) ?_) | (refine SW.seq_k fun K hK => ?_) | (refine SW.block ?_) | ((first | refine SW.region ?_ | refine SW.regionD (Checked.mixed Tryd.checked) (by kernel_rfl) ?_ | refine SW.cond ?_ | refine SW.skip ?_ | refine SW.exit ?_ | refine SW.ret ?_ | refine Call.of_pure (cn) ?_ | refine ⟨_, cn, ?_⟩ | (refine allF_i fun b hb => ?_; replace hD := And.intro hb hD; clear hb; try simp only [fresh_cons, fresh_nil, and_true, ne_eq, neF] at hD) | simp only [appK, appOsK]); try simp only [go_sem, hD, n0, n1, l1]) | (refine And.intro (by omega) ?_) | (refine ifI (fun hc => ?_) (fun hc => ?_) <;> first | (exfalso; omega) | skip) | ((first | apply hK | ((iterate 1 (clear hK K)); apply hK) | ((iterate 2 (clear hK K)); apply hK) | ((iterate 3 (clear hK K)); apply hK) | ((iterate 4 (clear hK K)); apply hK) | ((iterate 5 (clear hK K)); apply hK)); clear hK K)
  refine ret_pure ?_; simp only [resL_tmp, resL_nil, tupOf, go_sem, hD]

set_option maxHeartbeats 4000000 in
set_option maxRecDepth 20000 in
theorem allT_p (n : Nat) (E : List Nat) (hn : n ≤ 6) (hE : ∀ e ∈ E, e < 2 ^ n) (hl : E.length ≤ 200) : PCall Tryd.prog 11 [I64 n, SS E] (.tup [SS (traL (minL E)), I64 0]) := by
  have h6 := pow6 hn
  have va := valid_t n E hn hE hl
  have hsm : Sm E := fun e he => by have := hE e he; omega
  have re := reduce_p E hsm (by omega)
  have hRs := minL_sm hsm
  have hRl := minL_len hsm
  obtain ⟨X, hX⟩ : ∃ X, X = traL (minL E) := ⟨_, rfl⟩
  rw [← hX]
  generalize minL E = R at *
  refine Call.enter' (N := 63) (rs := [.tmp 4, .tmp 5]) Tryd.func11 rfl rfl rfl (by decide) rfl ?_; simp only [argT]; have hD : (0 : Nat) = 0 := rfl
  repeat' first | (with_reducible refine And.intro (by omega) ?_) | (refine SW.seq_k fun K hK => ?_) | (refine SW.block ?_) | ((first | refine SW.region ?_ | refine SW.regionD (Checked.mixed Tryd.checked) (by kernel_rfl) ?_ | refine SW.cond ?_ | refine SW.skip ?_ | refine SW.exit ?_ | refine SW.ret ?_ | refine Call.of_pure (va) ?_ | refine ⟨_, va, ?_⟩ | refine Call.of_pure (re) ?_ | refine ⟨_, re, ?_⟩ | (refine allF_i fun b hb => ?_; replace hD := And.intro hb hD; clear hb; try simp only [fresh_cons, fresh_nil, and_true, ne_eq, neF] at hD) | simp only [appK, appOsK]); try simp only [go_sem, hD, true_implies]) | (refine And.intro (by omega) ?_) | (refine ifI (fun hc => ?_) (fun hc => ?_) <;> first | (exfalso; omega) | skip) | ((first | apply hK | ((iterate 1 (clear hK K)); apply hK) | ((iterate 2 (clear hK K)); apply hK) | ((iterate 3 (clear hK K)); apply hK) | ((iterate 4 (clear hK K)); apply hK) | ((iterate 5 (clear hK K)); apply hK)); clear hK K)
  refine Ab.SW.le (St.le_freeze (i := 7) (b := b) (off := 0) (len := 1) (sz := 1) (k := .svs [U32 0]) rfl (by rw [find_cons, if_pos rfl]) (by exact Nat.le_refl 1) (sF [0]) (fun j hj => by obtain rfl : j = 0 := (by omega); rfl)) ?_
  rw [del_head]
  clear hD
  have hD : (0 : Nat) = 0 := rfl
  obtain ⟨I, hI⟩ : ∃ I : Nat → St → Prop, ∀ k S, I k S ↔ (∃ (i : Nat) , k = R.length - i ∧ i ≤ R.length ∧ S = ⟨[(7, SS (traL (R.take i))), (22, SS R), (23, I64 R.length), (24, I64 i)], []⟩) := ⟨fun k S => _, fun _ _ => Iff.rfl⟩
  refine SW.loop' I (R.length) ((hI _ _).2 ⟨0, rfl, Nat.zero_le _, rfl⟩) (by repeat' (first | exact rfl | exact trivial | exact int_eq (by omega) | exact int_eq (by (rw [i64_wrap] <;> omega)) | constructor)) ?_
  intro k S hIn
  obtain ⟨i, rfl, hi, rfl⟩ := (hI _ _).1 hIn
  clear hIn
  have ie : ((i : Nat) : Int).toNat = i := Int.toNat_natCast _
  have i0 : (0 : Int) ≤ ((i : Nat) : Int) := by omega
  by_cases hlt : i < R.length
  · have hli : ((i : Nat) : Int) < (((R.length) : Nat) : Int) := by omega
    have w1 : IntKind.i64.wrap ((i : Int) + 1) = ((i + 1 : Nat) : Int) := by rw [i64_wrap (by omega) (by omega)]; omega
    have hIo := hI
    have hsn := traL_snoc (R.take i) (R.getD i 0)
    rw [← take_snoc 0 hlt] at hsn
    obtain ⟨hTs, hTl⟩ := traL_sm (R.take i)
    have he := hRs _ (getD_mem 0 hlt)
    have tf : sF R i = [U32 (R.getD i 0)] := rfl
    generalize R.getD i 0 = e at *
    generalize traL (R.take i) = T at *
    have hw1 := w1
    repeat' first | (with_reducible refine And.intro (by omega) ?_) | (refine SW.seq_k fun K hK => ?_) | (refine SW.block ?_) | ((first | refine SW.region ?_ | refine SW.regionD (Checked.mixed Tryd.checked) (by kernel_rfl) ?_ | refine SW.cond ?_ | refine SW.skip ?_ | refine SW.exit ?_ | refine SW.ret ?_ | (refine allF_i fun b hb => ?_; replace hD := And.intro hb hD; clear hb; try simp only [fresh_cons, fresh_nil, and_true, ne_eq, neF] at hD) | simp only [appK, appOsK]); try simp only [go_sem, hD, hli, ie, i0, tf]) | (refine And.intro (by omega) ?_) | (refine ifI (fun hc => ?_) (fun hc => ?_) <;> first | (exfalso; omega) | skip) | ((first | apply hK | ((iterate 1 (clear hK K)); apply hK) | ((iterate 2 (clear hK K)); apply hK) | ((iterate 3 (clear hK K)); apply hK) | ((iterate 4 (clear hK K)); apply hK) | ((iterate 5 (clear hK K)); apply hK)); clear hK K)
    obtain ⟨J, hJ⟩ : ∃ J : Nat → St → Prop, ∀ k S, J k S ↔ (∃ (j : Nat) (x : SV) (h : Heap), k = T.length - j ∧ j ≤ T.length ∧ Acc 1 x h [] (stepF (T.take j) e).length (fC sC1 (stepF (T.take j) e)) ∧ S = ⟨[(9, U32 e), (10, x), (22, SS R), (23, I64 R.length), (24, I64 i), (28, SS T), (29, I64 T.length), (30, I64 j)], h⟩) := ⟨fun k S => _, fun _ _ => Iff.rfl⟩
    refine SW.loop' J T.length ((hJ _ _).2 ⟨0, _, _, rfl, Nat.zero_le _, .nil _ _, rfl⟩) (by repeat' (first | exact rfl | exact trivial | exact int_eq (by omega) | exact int_eq (by (rw [i64_wrap] <;> omega)) | constructor)) ?_
    intro k S hIn
    obtain ⟨j, x, h, rfl, hj, hB, rfl⟩ := (hJ _ _).1 hIn
    clear hIn
    have je : ((j : Nat) : Int).toNat = j := Int.toNat_natCast _
    have j0 : (0 : Int) ≤ ((j : Nat) : Int) := by omega
    by_cases hjt : j < T.length
    · have hjl : ((j : Nat) : Int) < ((T.length : Nat) : Int) := by omega
      have wj : IntKind.i64.wrap ((j : Int) + 1) = ((j + 1 : Nat) : Int) := by rw [i64_wrap (by omega) (by omega)]; omega
      have hst := stepF_snoc (T.take j) (T.getD j 0) e
      rw [← take_snoc 0 hjt] at hst
      have hs := hTs _ (getD_mem 0 hjt)
      have ts : sF T j = [U32 (T.getD j 0)] := rfl
      have hal := stepF_len (T.take j) e
      rw [List.length_take] at hal
      generalize T.getD j 0 = s at *
      have ea := and32 s e (by omega) (by omega)
      by_cases hz : s &&& e = 0
      · have hzi : ((s &&& e : Nat) : Int) = 0 := by omega
        rw [if_pos hz] at hst
        repeat' first | (with_reducible refine And.intro (by omega) ?_) | (refine SW.seq_k fun K hK => ?_) | (refine SW.block ?_) | ((first | refine SW.region ?_ | refine SW.regionD (Checked.mixed Tryd.checked) (by kernel_rfl) ?_ | refine SW.cond ?_ | refine SW.skip ?_ | refine SW.exit ?_ | refine SW.ret ?_ | (refine allF_i fun b hb => ?_; replace hD := And.intro hb hD; clear hb; try simp only [fresh_cons, fresh_nil, and_true, ne_eq, neF] at hD) | simp only [appK, appOsK]); try simp only [go_sem, hD, hjl, je, j0, ts, ea, hzi]) | (refine And.intro (by omega) ?_) | (refine ifI (fun hc => ?_) (fun hc => ?_) <;> first | (exfalso; omega) | skip) | ((first | apply hK | ((iterate 1 (clear hK K)); apply hK) | ((iterate 2 (clear hK K)); apply hK) | ((iterate 3 (clear hK K)); apply hK) | ((iterate 4 (clear hK K)); apply hK) | ((iterate 5 (clear hK K)); apply hK)); clear hK K)
        obtain ⟨Q, hQ⟩ : ∃ Q : Nat → St → Prop, ∀ k S, Q k S ↔ (∃ (r : Nat) (x : SV) (h : Heap) (A : List Nat), k = r ∧ r < 64 ∧ Acc 1 x h [] A.length (fC sC1 A) ∧ A.length ≤ 1000 + (64 - r) ∧ stepF (T.take (j + 1)) e = A ++ (bitsL r).map (fun b => s ||| b) ∧ S = ⟨[(9, U32 e), (10, x), (12, U32 s), (13, U32 r), (22, SS R), (23, I64 R.length), (24, I64 i), (28, SS T), (29, I64 T.length), (30, I64 j)], h⟩) := ⟨fun k S => _, fun _ _ => Iff.rfl⟩
        refine SW.loop' Q e ((hQ _ _).2 ⟨e, x, h, stepF (T.take j) e, rfl, he, hB, by omega, hst, rfl⟩) (by repeat' (first | exact rfl | exact trivial | exact int_eq (by omega) | exact int_eq (by (rw [i64_wrap] <;> omega)) | constructor)) ?_
        clear hB hst hal
        intro k S hIn
        obtain ⟨r, x, h, A, rfl, hr, hB, hA, hst, rfl⟩ := (hQ _ _).1 hIn
        clear hIn
        by_cases hr0 : k = 0
        · subst hr0
          have z0 : ((0 : Nat) : Int) = 0 := rfl
          rw [bitsL_0, List.map_nil, List.append_nil] at hst
          rw [← hst] at hB
          repeat' first | (with_reducible refine And.intro (by omega) ?_) | (refine SW.seq_k fun K hK => ?_) | (refine SW.block ?_) | ((first | refine SW.region ?_ | refine SW.regionD (Checked.mixed Tryd.checked) (by kernel_rfl) ?_ | refine SW.cond ?_ | refine SW.skip ?_ | refine SW.exit ?_ | refine SW.ret ?_ | (refine allF_i fun b hb => ?_; replace hD := And.intro hb hD; clear hb; try simp only [fresh_cons, fresh_nil, and_true, ne_eq, neF] at hD) | simp only [appK, appOsK]); try simp only [go_sem, hD, z0, wj]) | (refine And.intro (by omega) ?_) | (refine ifI (fun hc => ?_) (fun hc => ?_) <;> first | (exfalso; omega) | skip) | ((first | apply hK | ((iterate 1 (clear hK K)); apply hK) | ((iterate 2 (clear hK K)); apply hK) | ((iterate 3 (clear hK K)); apply hK) | ((iterate 4 (clear hK K)); apply hK) | ((iterate 5 (clear hK K)); apply hK)); clear hK K)
          refine Rnd.sub (T.length - (j + 1)) (by omega) ((hJ _ _).2 ⟨j + 1, x, h, rfl, by omega, hB, rfl⟩) (by repeat' (first | exact rfl | exact trivial | exact int_eq (by omega) | exact int_eq (by (rw [i64_wrap] <;> omega)) | constructor))
        · obtain ⟨e1, e2, e3, e4, e5, e6⟩ := low_N hr hr0
          have hri : ¬ ((k : Nat) : Int) = 0 := by omega
          rw [e3, List.map_cons] at hst
          have hst2 : stepF (T.take (j + 1)) e = (A ++ [s ||| lowN k]) ++ (bitsL (k - lowN k)).map (fun b => s ||| b) := by rw [hst]; simp
          have eo := or32 s (lowN k) (by omega) (by omega)
          have ba : (A.length + 1) * 4 ≤ 140737488355328 := by omega
          clear e3 hst
          generalize lowN k = w at *
          generalize s ||| w = v at *
          rcases hB.casesH with ⟨a0, a1, rfl, rfl⟩ | ⟨g, hgf, a0, rfl, hle⟩
          · have hLn : A = [] := List.eq_nil_of_length_eq_zero a0
            subst hLn
            repeat' first | (with_reducible refine And.intro (by omega) ?_) | (refine SW.seq_k fun K hK => ?_) | (refine SW.block ?_) | ((first | refine SW.region ?_ | refine SW.regionD (Checked.mixed Tryd.checked) (by kernel_rfl) ?_ | refine SW.cond ?_ | refine SW.skip ?_ | refine SW.exit ?_ | refine SW.ret ?_ | (refine allF_i fun b hb => ?_; replace hD := And.intro hb hD; clear hb; try simp only [fresh_cons, fresh_nil, and_true, ne_eq, neF] at hD) | simp only [appK, appOsK]); try simp only [go_sem, hD, hri, e1, e2, eo, ba, true_implies]) | (refine And.intro (by omega) ?_) | (refine ifI (fun hc => ?_) (fun hc => ?_) <;> first | (exfalso; omega) | skip) | ((first | apply hK | ((iterate 1 (clear hK K)); apply hK) | ((iterate 2 (clear hK K)); apply hK) | ((iterate 3 (clear hK K)); apply hK) | ((iterate 4 (clear hK K)); apply hK) | ((iterate 5 (clear hK K)); apply hK)); clear hK K)
            refine Rnd.le (St.le_pick [(b, .ints .u32 [(v : Int)])] ?_ ?_) (Rnd.sub (k - w) (by omega) ((hQ _ _).2 ⟨k - w, _, _, [v], rfl, by omega, .inr ⟨b, .ints .u32 [(v : Int)], by simp [fresh_nil], rfl, rfl, rfl, rfl, rfl⟩, by simp only [List.length_cons, List.length_nil]; omega, hst2, rfl⟩) (by repeat' (first | exact rfl | exact trivial | exact int_eq (by omega) | exact int_eq (by (rw [i64_wrap] <;> omega)) | constructor)))
            · repeat' (first | exact (fun x hx => (List.not_mem_nil hx).elim) | refine List.forall_mem_cons.2 ⟨?_, ?_⟩ | exact List.mem_cons_self | apply List.mem_cons_of_mem)
            · simp [fresh_cons, fresh_nil, hD]
          · refine Ab.SW.le (hle _) ?_
            repeat' first | (with_reducible refine And.intro (by omega) ?_) | (refine SW.seq_k fun K hK => ?_) | (refine SW.block ?_) | ((first | refine SW.region ?_ | refine SW.regionD (Checked.mixed Tryd.checked) (by kernel_rfl) ?_ | refine SW.cond ?_ | refine SW.skip ?_ | refine SW.exit ?_ | refine SW.ret ?_ | (refine allF_i fun b hb => ?_; replace hD := And.intro hb hD; clear hb; try simp only [fresh_cons, fresh_nil, and_true, ne_eq, neF] at hD) | simp only [appK, appOsK]); try simp only [go_sem, hD, hri, e1, e2, eo, ba, true_implies, a0]) | (refine And.intro (by omega) ?_) | (refine ifI (fun hc => ?_) (fun hc => ?_) <;> first | (exfalso; omega) | skip) | ((first | apply hK | ((iterate 1 (clear hK K)); apply hK) | ((iterate 2 (clear hK K)); apply hK) | ((iterate 3 (clear hK K)); apply hK) | ((iterate 4 (clear hK K)); apply hK) | ((iterate 5 (clear hK K)); apply hK)); clear hK K)
            refine Rnd.le (St.le_pick [(b, .svs (fC sC1 A ++ sC1 v))] ?_ ?_) (Rnd.sub (k - w) (by omega) ((hQ _ _).2 ⟨k - w, _, _, A ++ [v], rfl, by omega, (by rw [List.length_append, ← fC_snoc]; exact Acc.osH (by simp [fresh_nil]) (by rw [List.length_append, ← a0]; simp [sC1])), by rw [List.length_append]; simp only [List.length_cons, List.length_nil]; omega, hst2, rfl⟩) (by repeat' (first | exact rfl | exact trivial | exact int_eq (by omega) | exact int_eq (by (rw [i64_wrap] <;> omega)) | constructor)))
            · repeat' (first | exact (fun x hx => (List.not_mem_nil hx).elim) | refine List.forall_mem_cons.2 ⟨?_, ?_⟩ | exact List.mem_cons_self | apply List.mem_cons_of_mem)
            · simp [fresh_cons, fresh_nil, hD]
      · have hzi : ¬ ((s &&& e : Nat) : Int) = 0 := by omega
        rw [if_neg hz] at hst
        generalize stepF (T.take j) e = A at *
        have ba : (A.length + 1) * 4 ≤ 140737488355328 := by omega
        rcases hB.casesH with ⟨a0, a1, rfl, rfl⟩ | ⟨g, hgf, a0, rfl, hle⟩
        · have hLn : A = [] := List.eq_nil_of_length_eq_zero a0
          subst hLn
          repeat' first | (with_reducible refine And.intro (by omega) ?_) | (refine SW.seq_k fun K hK => ?_) | (refine SW.block ?_) | ((first | refine SW.region ?_ | refine SW.regionD (Checked.mixed Tryd.checked) (by kernel_rfl) ?_ | refine SW.cond ?_ | refine SW.skip ?_ | refine SW.exit ?_ | refine SW.ret ?_ | (refine allF_i fun b hb => ?_; replace hD := And.intro hb hD; clear hb; try simp only [fresh_cons, fresh_nil, and_true, ne_eq, neF] at hD) | simp only [appK, appOsK]); try simp only [go_sem, hD, hjl, je, j0, ts, ea, hzi, wj, ba, true_implies]) | (refine And.intro (by omega) ?_) | (refine ifI (fun hc => ?_) (fun hc => ?_) <;> first | (exfalso; omega) | skip) | ((first | apply hK | ((iterate 1 (clear hK K)); apply hK) | ((iterate 2 (clear hK K)); apply hK) | ((iterate 3 (clear hK K)); apply hK) | ((iterate 4 (clear hK K)); apply hK) | ((iterate 5 (clear hK K)); apply hK)); clear hK K)
          refine Rnd.le (St.le_pick [(b, .ints .u32 [(s : Int)])] ?_ ?_) (Rnd.sub (T.length - (j + 1)) (by omega) ((hJ _ _).2 ⟨j + 1, _, _, rfl, by omega, (by rw [hst]; exact .inr ⟨b, .ints .u32 [(s : Int)], by simp [fresh_nil], rfl, rfl, rfl, rfl, rfl⟩), rfl⟩) (by repeat' (first | exact rfl | exact trivial | exact int_eq (by omega) | exact int_eq (by (rw [i64_wrap] <;> omega)) | constructor)))
          · repeat' (first | exact (fun x hx => (List.not_mem_nil hx).elim) | refine List.forall_mem_cons.2 ⟨?_, ?_⟩ | exact List.mem_cons_self | apply List.mem_cons_of_mem)
          · simp [fresh_cons, fresh_nil, hD]
        · refine Ab.SW.le (hle _) ?_
          repeat' first | (with_reducible refine And.intro (by omega) ?_) | (refine SW.seq_k fun K hK => ?_) | (refine SW.block ?_) | ((first | refine SW.region ?_ | refine SW.regionD (Checked.mixed Tryd.checked) (by kernel_rfl) ?_ | refine SW.cond ?_ | refine SW.skip ?_ | refine SW.exit ?_ | refine SW.ret ?_ | (refine allF_i fun b hb => ?_; replace hD := And.intro hb hD; clear hb; try simp only [fresh_cons, fresh_nil, and_true, ne_eq, neF] at hD) | simp only [appK, appOsK]); try simp only [go_sem, hD, hjl, je, j0, ts, ea, hzi, wj, ba, true_implies, a0]) | (refine And.intro (by omega) ?_) | (refine ifI (fun hc => ?_) (fun hc => ?_) <;> first | (exfalso; omega) | skip) | ((first | apply hK | ((iterate 1 (clear hK K)); apply hK) | ((iterate 2 (clear hK K)); apply hK) | ((iterate 3 (clear hK K)); apply hK) | ((iterate 4 (clear hK K)); apply hK) | ((iterate 5 (clear hK K)); apply hK)); clear hK K)
          refine Rnd.le (St.le_pick [(b, .svs (fC sC1 A ++ sC1 s))] ?_ ?_) (Rnd.sub (T.length - (j + 1)) (by omega) ((hJ _ _).2 ⟨j + 1, _, _, rfl, by omega, (by rw [hst, List.length_append, ← fC_snoc]; exact Acc.osH (by simp [fresh_nil]) (by rw [List.length_append, ← a0]; simp [sC1])), rfl⟩) (by repeat' (first | exact rfl | exact trivial | exact int_eq (by omega) | exact int_eq (by (rw [i64_wrap] <;> omega)) | constructor)))
          · repeat' (first | exact (fun x hx => (List.not_mem_nil hx).elim) | refine List.forall_mem_cons.2 ⟨?_, ?_⟩ | exact List.mem_cons_self | apply List.mem_cons_of_mem)
          · simp [fresh_cons, fresh_nil, hD]
    · have hjl : ¬ ((j : Nat) : Int) < ((T.length : Nat) : Int) := by omega
      obtain rfl : j = T.length := by omega
      rw [List.take_length] at hB
      have hal := stepF_len T e
      have re2 := reduce_p (stepF T e) (stepF_sm hTs) (by omega)
      rw [← hsn] at re2
      generalize stepF T e = A at *
      rcases hB.casesH with ⟨a0, a1, rfl, rfl⟩ | ⟨g, hgf, a0, rfl, hle⟩
      · have hLn : A = [] := List.eq_nil_of_length_eq_zero a0
        subst hLn
        repeat' first | (with_reducible refine And.intro (by omega) ?_) | (refine SW.seq_k fun K hK => ?_) | (refine SW.block ?_) | ((first | refine SW.region ?_ | refine SW.regionD (Checked.mixed Tryd.checked) (by kernel_rfl) ?_ | refine SW.cond ?_ | refine SW.skip ?_ | refine SW.exit ?_ | refine SW.ret ?_ | (refine allF_i fun b hb => ?_; replace hD := And.intro hb hD; clear hb; try simp only [fresh_cons, fresh_nil, and_true, ne_eq, neF] at hD) | simp only [appK, appOsK]); try simp only [go_sem, hD, hjl]) | (refine And.intro (by omega) ?_) | (refine ifI (fun hc => ?_) (fun hc => ?_) <;> first | (exfalso; omega) | skip) | ((first | apply hK | ((iterate 1 (clear hK K)); apply hK) | ((iterate 2 (clear hK K)); apply hK) | ((iterate 3 (clear hK K)); apply hK) | ((iterate 4 (clear hK K)); apply hK) | ((iterate 5 (clear hK K)); apply hK)); clear hK K)
        refine Call.nil_fl 0 (sz := 1) (sF []) (by simp) rfl (Call.of_pure re2 ?_)
        try simp only [go_sem, hD]
        repeat' first | (with_reducible refine And.intro (by omega) ?_) | (refine SW.seq_k fun K hK => ?_) | (refine SW.block ?_) | ((first | refine SW.region ?_ | refine SW.regionD (Checked.mixed Tryd.checked) (by kernel_rfl) ?_ | refine SW.cond ?_ | refine SW.skip ?_ | refine SW.exit ?_ | refine SW.ret ?_ | (refine allF_i fun b hb => ?_; replace hD := And.intro hb hD; clear hb; try simp only [fresh_cons, fresh_nil, and_true, ne_eq, neF] at hD) | simp only [appK, appOsK]); try simp only [go_sem, hD, hw1]) | (refine And.intro (by omega) ?_) | (refine ifI (fun hc => ?_) (fun hc => ?_) <;> first | (exfalso; omega) | skip) | ((first | apply hK | ((iterate 1 (clear hK K)); apply hK) | ((iterate 2 (clear hK K)); apply hK) | ((iterate 3 (clear hK K)); apply hK) | ((iterate 4 (clear hK K)); apply hK) | ((iterate 5 (clear hK K)); apply hK)); clear hK K)
        refine Rnd.sub (R.length - (i + 1)) (by omega) ((hIo _ _).2 ⟨i + 1, rfl, by omega, rfl⟩) (by repeat' (first | exact rfl | exact trivial | exact int_eq (by omega) | exact int_eq (by (rw [i64_wrap] <;> omega)) | constructor))
      · refine Ab.SW.le (hle _) ?_
        repeat' first | (with_reducible refine And.intro (by omega) ?_) | (refine SW.seq_k fun K hK => ?_) | (refine SW.block ?_) | ((first | refine SW.region ?_ | refine SW.regionD (Checked.mixed Tryd.checked) (by kernel_rfl) ?_ | refine SW.cond ?_ | refine SW.skip ?_ | refine SW.exit ?_ | refine SW.ret ?_ | (refine allF_i fun b hb => ?_; replace hD := And.intro hb hD; clear hb; try simp only [fresh_cons, fresh_nil, and_true, ne_eq, neF] at hD) | simp only [appK, appOsK]); try simp only [go_sem, hD, hjl]) | (refine And.intro (by omega) ?_) | (refine ifI (fun hc => ?_) (fun hc => ?_) <;> first | (exfalso; omega) | skip) | ((first | apply hK | ((iterate 1 (clear hK K)); apply hK) | ((iterate 2 (clear hK K)); apply hK) | ((iterate 3 (clear hK K)); apply hK) | ((iterate 4 (clear hK K)); apply hK) | ((iterate 5 (clear hK K)); apply hK)); clear hK K)
        refine freeze_fC 0 sC1_len 0 A (by simp) rfl rfl (by rw [find_cons, if_pos rfl]) rfl ?_
        rw [del_head]
        refine Call.of_pure re2 ?_
        try simp only [go_sem, hD]
        repeat' first | (with_reducible refine And.intro (by omega) ?_) | (refine SW.seq_k fun K hK => ?_) | (refine SW.block ?_) | ((first | refine SW.region ?_ | refine SW.regionD (Checked.mixed Tryd.checked) (by kernel_rfl) ?_ | refine SW.cond ?_ | refine SW.skip ?_ | refine SW.exit ?_ | refine SW.ret ?_ | (refine allF_i fun b hb => ?_; replace hD := And.intro hb hD; clear hb; try simp only [fresh_cons, fresh_nil, and_true, ne_eq, neF] at hD) | simp only [appK, appOsK]); try simp only [go_sem, hD, hw1]) | (refine And.intro (by omega) ?_) | (refine ifI (fun hc => ?_) (fun hc => ?_) <;> first | (exfalso; omega) | skip) | ((first | apply hK | ((iterate 1 (clear hK K)); apply hK) | ((iterate 2 (clear hK K)); apply hK) | ((iterate 3 (clear hK K)); apply hK) | ((iterate 4 (clear hK K)); apply hK) | ((iterate 5 (clear hK K)); apply hK)); clear hK K)
        refine Rnd.sub (R.length - (i + 1)) (by omega) ((hIo _ _).2 ⟨i + 1, rfl, by omega, rfl⟩) (by repeat' (first | exact rfl | exact trivial | exact int_eq (by omega) | exact int_eq (by (rw [i64_wrap] <;> omega)) | constructor))
  · have hli : ¬ ((i : Nat) : Int) < (((R.length) : Nat) : Int) := by omega
    obtain rfl : i = R.length := by omega
    rw [List.take_length, ← hX]
    repeat' first | (with_reducible refine And.intro (by omega) ?_) | (refine SW.seq_k fun K hK => ?_) | (refine SW.block ?_) | ((first | refine SW.region ?_ | refine SW.regionD (Checked.mixed Tryd.checked) (by kernel_rfl) ?_ | refine SW.cond ?_ | refine SW.skip ?_ | refine SW.exit ?_ | refine SW.ret ?_ | (refine allF_i fun b hb => ?_; replace hD := And.intro hb hD; clear hb; try simp only [fresh_cons, fresh_nil, and_true, ne_eq, neF] at hD) | simp only [appK, appOsK]); try simp only [go_sem, hD, hli]) | (refine And.intro (by omega) ?_) | (refine ifI (fun hc => ?_) (fun hc => ?_) <;> first | (exfalso; omega) | skip) | ((first | apply hK | ((iterate 1 (clear hK K)); apply hK) | ((iterate 2 (clear hK K)); apply hK) | ((iterate 3 (clear hK K)); apply hK) | ((iterate 4 (clear hK K)); apply hK) | ((iterate 5 (clear hK K)); apply hK)); clear hK K)
    refine ret_pure ?_; simp only [resL_tmp, resL_nil, tupOf, go_sem, hD]
end Go.Proofs.YtmcmphmhjikgkaaDoor
