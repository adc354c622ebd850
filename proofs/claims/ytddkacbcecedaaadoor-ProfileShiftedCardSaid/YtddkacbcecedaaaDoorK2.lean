/- The law of shifted numbers. -/
import Derived.Test.YtddkacbcecedaaaDoorK1
set_option linter.unusedSimpArgs false
set_option linter.unusedVariables false
set_option linter.unusedSectionVars false
namespace Go.Proofs.YtddkacbcecedaaaDoor
open Go Go.Ab Go.Ab.A34
variable [Gl] [Tabs] [Bru]
def In32 (n : Int) : Prop := -2147483648 ≤ n ∧ n ≤ 2147483647
abbrev NL32 (l : List Int) : SV := ints .i32 l
theorem out_len' (t : Tb) (a : Nat) : (outS t a).length ≤ t.rows.length := by
  unfold outS
  split
  · exact Nat.zero_le _
  · exact outRows_le _ _ _ _
theorem two_le {t : List (Nat × SV)} {ga gb : Nat} {ka kb : Blk} (hn : ¬ gb = ga) : (St.mk t [(gb, kb), (ga, ka)]).le ⟨t, [(gb, .svs kb.cells), (ga, .svs ka.cells)]⟩ := by
  have h1 := St.le_blk (t := t) (h := [(gb, kb), (ga, ka)]) (b := gb) (k := kb) (k' := .svs kb.cells) (by rw [find_cons, if_pos rfl]) rfl
  rw [upd_cons, if_pos rfl] at h1
  have h2 := St.le_blk (t := t) (h := [(gb, .svs kb.cells), (ga, ka)]) (b := ga) (k := ka) (k' := .svs ka.cells) (by rw [find_cons, if_neg hn, find_cons, if_pos rfl]) rfl
  rw [upd_cons, if_neg hn, upd_cons, if_pos rfl] at h2
  exact h1.trans h2
theorem fC1_take (l : List Int) (i : Nat) (h : i < l.length) : fC nC1 (l.take i) ++ nC1 (l.getD i 0) = fC nC1 (l.take (i + 1)) := by
  have hg : l.getD i 0 = l[i] := by simp [List.getD_eq_getElem?_getD, h]
  rw [fC_snoc, List.take_add_one, List.getElem?_eq_getElem h, hg]
  rfl

set_option maxHeartbeats 4000000 in
set_option maxRecDepth 20000 in
theorem law_shifted (l : List Int) (hl : ∀ n ∈ l, In32 n) (d : Int) (hd : In32 d) : PCall Tryd.prog 4 [NL32 l, .sc (.int .i32 d)] (SB true) := by
  have aw := awake_c
  by_cases h20 : 20 < l.length
  · have h20i : (20 : Int) < ((l.length : Nat) : Int) := by omega
    refine Call.enter' (N := 115) (rs := [.tmp 4]) Tryd.func4 rfl rfl rfl (by decide) rfl ?_; simp only [argT]; have hD : (0 : Nat) = 0 := rfl
    repeat' first | (with_reducible refine And.intro (by omega) ?_) | (refine SW.seq_k fun K hK => ?_) | (refine SW.block ?_) | ((first | refine SW.region ?_ | refine SW.regionD (Checked.mixed Tryd.checked) (by kernel_rfl) ?_ | refine SW.cond ?_ | refine SW.skip ?_ | refine SW.exit ?_ | refine SW.ret ?_ | refine Call.of_pure (aw) ?_ | refine ⟨_, aw, ?_⟩ | (refine allF_i fun b hb => ?_; replace hD := And.intro hb hD; clear hb; try simp only [fresh_cons, fresh_nil, and_true, ne_eq, neF] at hD) | simp only [appK, appOsK]); try simp only [go_sem, hD, h20i]) | (refine And.intro (by omega) ?_) | (refine ifI (fun hc => ?_) (fun hc => ?_) <;> first | (exfalso; omega) | skip) | ((first | apply hK | ((iterate 1 (clear hK K)); apply hK) | ((iterate 2 (clear hK K)); apply hK) | ((iterate 3 (clear hK K)); apply hK) | ((iterate 4 (clear hK K)); apply hK) | ((iterate 5 (clear hK K)); apply hK)); clear hK K)
    refine ret_pure ?_; simp only [resL_tmp, resL_nil, tupOf, go_sem, hD]
  · have h20i : ¬ (20 : Int) < ((l.length : Nat) : Int) := by omega
    have l64 : ∀ n ∈ l, In64 n := fun n hn => by have := hl n hn; unfold In32 at this; unfold In64; omega
    have m64 : ∀ n ∈ l.map (· + d), In64 n := fun n hn => by
      obtain ⟨k, hk, rfl⟩ := List.mem_map.1 hn
      have := hl k hk
      unfold In32 at this hd
      unfold In64
      omega
    have ca := col_r l (by omega)
    have cb := col_r (l.map (· + d)) (by rw [List.length_map]; omega)
    have va := colT_valid l (by omega)
    have vb := colT_valid (l.map (· + d)) (by rw [List.length_map]; omega)
    have chk : ∀ L : List Int, L.length ≤ 1000 → chkS (colT L) 0 = 0 := fun L hL => by
      unfold chkS
      rw [colT_valid L hL]
      rfl
    have oa : PCall Tryd.prog 11 [TB (colT l), I64 0] (.tup [NL (outS (colT l) 0), I64 0]) := out_p (colT l) 0 (chk l (by omega)) (colT_64 l l64)
    have ob : PCall Tryd.prog 11 [TB (colT (l.map (· + d))), I64 0] (.tup [NL (outS (colT (l.map (· + d))) 0), I64 0]) := out_p (colT (l.map (· + d))) 0 (chk _ (by rw [List.length_map]; omega)) (colT_64 _ m64)
    rw [shift_out] at ob
    have hrl : (colT l).rows.length = l.length := by unfold colT; simp
    have ol : (outS (colT l) 0).length ≤ 20 := by have := out_len' (colT l) 0; omega
    have eq := eqN_self (outS (colT l) 0) (by omega)
    obtain ⟨q1, q3, ok, hq, hP⟩ := out_prop l
    have qr : PCall Tryd.prog 14 [TB (colT l), I64 0] _ := quart_r (colT l) 0 va (by show 0 < 1; decide)
    rw [hq] at qr
    have fi : ∀ id, PCall Tryd.prog 15 [TB (colT l), I64 id] (findS (findI id 0 (colT l).rows)) := fun id => find_r (colT l) id (by omega)
    generalize outS (colT l) 0 = O at *
    generalize colT l = T at *
    obtain ⟨nm, ats, rows⟩ := T
    generalize colT (l.map (· + d)) = T' at *
    obtain ⟨B, hB0⟩ : ∃ B, B = l.map (· + d) := ⟨_, rfl⟩
    have hBl : B.length = l.length := by rw [hB0, List.length_map]
    have hBg : ∀ i, i < l.length → B.getD i 0 = l.getD i 0 + d := fun i hi => by rw [hB0]; exact getD_sh d l i hi
    rw [← hB0] at cb
    clear hB0
    simp only at hrl hP fi
    have n10 : (((l.length : Nat) : Int) = 0) = (l = []) := propext ⟨fun h => List.eq_nil_of_length_eq_zero (by omega), fun h => by rw [h]; rfl⟩
    unfold In32 at hd
    have wd : IntKind.i64.wrap d = d := i64_wrap (by omega) (by omega)
    refine Call.enter' (N := 115) (rs := [.tmp 4]) Tryd.func4 rfl rfl rfl (by decide) rfl ?_; simp only [argT]; have hD : (0 : Nat) = 0 := rfl
    repeat' first | (with_reducible refine And.intro (by omega) ?_) | (refine SW.seq_k fun K hK => ?_) | (refine SW.block ?_) | ((first | refine SW.region ?_ | refine SW.regionD (Checked.mixed Tryd.checked) (by kernel_rfl) ?_ | refine SW.cond ?_ | refine SW.skip ?_ | refine SW.exit ?_ | refine SW.ret ?_ | refine Call.of_pure (aw) ?_ | refine ⟨_, aw, ?_⟩ | (refine allF_i fun b hb => ?_; replace hD := And.intro hb hD; clear hb; try simp only [fresh_cons, fresh_nil, and_true, ne_eq, neF] at hD) | simp only [appK, appOsK]); try simp only [go_sem, hD, h20i]) | (refine And.intro (by omega) ?_) | (refine ifI (fun hc => ?_) (fun hc => ?_) <;> first | (exfalso; omega) | skip) | ((first | apply hK | ((iterate 1 (clear hK K)); apply hK) | ((iterate 2 (clear hK K)); apply hK) | ((iterate 3 (clear hK K)); apply hK) | ((iterate 4 (clear hK K)); apply hK) | ((iterate 5 (clear hK K)); apply hK)); clear hK K)
    obtain ⟨I, hI⟩ : ∃ I : Nat → St → Prop, ∀ k S, I k S ↔ (∃ (i : Nat) (xa : SV) (xb : SV) (h1 : Heap) (h : Heap), k = l.length - i ∧ i ≤ l.length ∧ (i = 0 → h = []) ∧ Acc 1 xa h1 [] (l.take i).length (fC nC1 (l.take i)) ∧ Acc 1 xb h h1 (B.take i).length (fC nC1 (B.take i)) ∧ S = ⟨[(0, NL32 l), (1, .sc (.int .i32 d)), (5, xa), (6, xb), (29, NL32 l), (30, I64 l.length), (31, I64 i)], h⟩) := ⟨fun k S => _, fun _ _ => Iff.rfl⟩
    refine SW.loop' I (l.length) ((hI _ _).2 ⟨0, _, _, [], [], rfl, Nat.zero_le _, fun _ => rfl, .nil _ _, .nil _ _, rfl⟩) (by repeat' (first | exact rfl | exact trivial | exact int_eq (by omega) | exact int_eq (by (rw [i64_wrap] <;> omega)) | constructor)) ?_
    intro k S hIn
    obtain ⟨i, xa, xb, h1, h, rfl, hi, h0, hA, hB, rfl⟩ := (hI _ _).1 hIn
    clear hIn
    have ie : ((i : Nat) : Int).toNat = i := Int.toNat_natCast _
    have i0 : (0 : Int) ≤ ((i : Nat) : Int) := by omega
    by_cases hlt : i < l.length
    · have hli : ((i : Nat) : Int) < (((l.length) : Nat) : Int) := by omega
      have w1 : IntKind.i64.wrap ((i : Int) + 1) = ((i + 1 : Nat) : Int) := by rw [i64_wrap (by omega) (by omega)]; omega
      have lv := hl _ (getD_mem 0 hlt)
      unfold In32 at lv
      have bg := hBg i hlt
      have wv : IntKind.i64.wrap (l.getD i 0) = l.getD i 0 := i64_wrap (by omega) (by omega)
      have ws : IntKind.i64.wrap (l.getD i 0 + d) = B.getD i 0 := by rw [bg]; exact i64_wrap (by omega) (by omega)
      have ta := fC1_take l i hlt
      have tb := fC1_take B i (by omega)
      have la : (l.take i).length = i := by rw [List.length_take]; omega
      have lb : (B.take i).length = i := by rw [List.length_take]; omega
      have la' : (l.take (i + 1)).length = i + 1 := by rw [List.length_take]; omega
      have lb' : (B.take (i + 1)).length = i + 1 := by rw [List.length_take]; omega
      rw [la] at hA
      rw [lb] at hB
      by_cases z : i = 0
      · have hh := h0 z
        rcases hB with ⟨_, eb, rfl, rfl⟩ | ⟨_, _, _, _, _, _, e⟩
        · rcases hA with ⟨_, ea, rfl, e⟩ | ⟨_, _, _, _, _, _, e⟩
          · subst hh
            rw [ea, List.nil_append] at ta
            rw [eb, List.nil_append] at tb
            repeat' first | (with_reducible refine And.intro (by omega) ?_) | (refine SW.seq_k fun K hK => ?_) | (refine SW.block ?_) | ((first | refine SW.region ?_ | refine SW.regionD (Checked.mixed Tryd.checked) (by kernel_rfl) ?_ | refine SW.cond ?_ | refine SW.skip ?_ | refine SW.exit ?_ | refine SW.ret ?_ | (refine allF_i fun b hb => ?_; replace hD := And.intro hb hD; clear hb; try simp only [fresh_cons, fresh_nil, and_true, ne_eq, neF] at hD) | simp only [appK, appOsK]); try simp only [go_sem, hD, hli, ie, i0, w1, wd, wv, ws, true_implies]) | (refine And.intro (by omega) ?_) | (refine ifI (fun hc => ?_) (fun hc => ?_) <;> first | (exfalso; omega) | skip) | ((first | apply hK | ((iterate 1 (clear hK K)); apply hK) | ((iterate 2 (clear hK K)); apply hK) | ((iterate 3 (clear hK K)); apply hK) | ((iterate 4 (clear hK K)); apply hK) | ((iterate 5 (clear hK K)); apply hK)); clear hK K)
            obtain ⟨gb, rfl⟩ : ∃ x, x = b := ⟨_, rfl⟩
            obtain ⟨g3, rfl⟩ : ∃ x, x = b := ⟨_, rfl⟩
            obtain ⟨ga, rfl⟩ : ∃ x, x = b := ⟨_, rfl⟩
            subst z
            refine Rnd.le (St.le_pick _ ?_ ?_) (Rnd.sub (l.length - (0 + 1)) (by omega) ((hI _ _).2 ⟨0 + 1, _, _, [(ga, .ints .i64 [l.getD 0 0])], [(gb, .ints .i64 [B.getD 0 0]), (ga, .ints .i64 [l.getD 0 0])], rfl, by omega, (fun e => by omega), (by rw [la', ← ta]; exact .inr ⟨ga, _, by simp [fresh_cons, fresh_nil, hD], rfl, rfl, rfl, rfl⟩), (by rw [lb', ← tb]; exact .inr ⟨gb, _, by simp [fresh_cons, fresh_nil, hD], rfl, rfl, rfl, rfl⟩), rfl⟩) (by repeat' (first | exact rfl | exact trivial | exact int_eq (by omega) | exact int_eq (by (rw [i64_wrap] <;> omega)) | constructor)))
            · repeat' (first | exact (fun x hx => (List.not_mem_nil hx).elim) | refine List.forall_mem_cons.2 ⟨?_, ?_⟩ | exact List.mem_cons_self | apply List.mem_cons_of_mem)
            · simp [fresh_cons, fresh_nil, hD]
          · rw [hh] at e
            cases e
        · rw [hh] at e
          cases e
      · rcases hA with ⟨e, _⟩ | ⟨ga, ka, hfa, eka, ela, rfl, rfl⟩
        · exact absurd e z
        · rcases hB with ⟨e, _⟩ | ⟨gb, kb, hfb, ekb, elb, rfl, rfl⟩
          · exact absurd e z
          · have hg1 : ¬ gb = ga := fun e => hfb.1.1 e.symm
            have hg2 : ¬ ga = gb := fun e => hg1 e.symm
            refine Ab.SW.le (two_le hg1) ?_
            rw [eka, ekb]
            have ba : (i + 1) * 8 ≤ 140737488355328 := by omega
            have hD := And.intro (eq_false hg1) (And.intro (eq_false hg2) hD)
            repeat' first | (with_reducible refine And.intro (by omega) ?_) | (refine SW.seq_k fun K hK => ?_) | (refine SW.block ?_) | ((first | refine SW.region ?_ | refine SW.regionD (Checked.mixed Tryd.checked) (by kernel_rfl) ?_ | refine SW.cond ?_ | refine SW.skip ?_ | refine SW.exit ?_ | refine SW.ret ?_ | (refine allF_i fun b hb => ?_; replace hD := And.intro hb hD; clear hb; try simp only [fresh_cons, fresh_nil, and_true, ne_eq, neF] at hD) | simp only [appK, appOsK]); try simp only [go_sem, hD, hli, ie, i0, w1, wd, wv, ws, ba, ela, elb, true_implies, hg1, hg2]) | (refine And.intro (by omega) ?_) | (refine ifI (fun hc => ?_) (fun hc => ?_) <;> first | (exfalso; omega) | skip) | ((first | apply hK | ((iterate 1 (clear hK K)); apply hK) | ((iterate 2 (clear hK K)); apply hK) | ((iterate 3 (clear hK K)); apply hK) | ((iterate 4 (clear hK K)); apply hK) | ((iterate 5 (clear hK K)); apply hK)); clear hK K)
            obtain ⟨gb', rfl⟩ : ∃ x, x = b := ⟨_, rfl⟩
            obtain ⟨g3, rfl⟩ : ∃ x, x = b := ⟨_, rfl⟩
            obtain ⟨ga', rfl⟩ : ∃ x, x = b := ⟨_, rfl⟩
            refine Rnd.le (St.le_pick _ ?_ ?_) (Rnd.sub (l.length - (i + 1)) (by omega) ((hI _ _).2 ⟨i + 1, _, _, [(ga', .svs (fC nC1 (l.take i) ++ nC1 (l.getD i 0)))], [(gb', .svs (fC nC1 (B.take i) ++ nC1 (B.getD i 0))), (ga', .svs (fC nC1 (l.take i) ++ nC1 (l.getD i 0)))], rfl, by omega, (fun e => by omega), (by rw [la', ← ta]; exact .inr ⟨ga', _, by simp [fresh_cons, fresh_nil, hD], rfl, by rw [List.length_append, ← ela]; simp [nC1], rfl, rfl⟩), (by rw [lb', ← tb]; exact .inr ⟨gb', _, by simp [fresh_cons, fresh_nil, hD], rfl, by rw [List.length_append, ← elb]; simp [nC1], rfl, rfl⟩), rfl⟩) (by repeat' (first | exact rfl | exact trivial | exact int_eq (by omega) | exact int_eq (by (rw [i64_wrap] <;> omega)) | constructor)))
            · repeat' (first | exact (fun x hx => (List.not_mem_nil hx).elim) | refine List.forall_mem_cons.2 ⟨?_, ?_⟩ | exact List.mem_cons_self | apply List.mem_cons_of_mem)
            · simp [fresh_cons, fresh_nil, hD]
    · have hli : ¬ ((i : Nat) : Int) < (((l.length) : Nat) : Int) := by omega
      obtain rfl : i = l.length := by omega
      rw [List.take_length] at hA
      rw [← hBl, List.take_length] at hB
      refine Ab.SW.le ((St.le_acc_fl (i := 6) (n := B.length) (sz := 1) (x := xb) rfl hB (fun j => [I64 (B.getD j 0)]) (fun j hj => fC_at nC1_len 0 _ j hj)).trans (St.le_acc_fl (i := 5) (n := l.length) (sz := 1) (x := xa) rfl hA (fun j => [I64 (l.getD j 0)]) (fun j hj => fC_at nC1_len 0 _ j hj))) ?_
      clear h0 hA hB hD
      have hD : (0 : Nat) = 0 := rfl
      repeat' first | (with_reducible refine And.intro (by omega) ?_) | (refine SW.seq_k fun K hK => ?_) | (refine SW.block ?_) | ((first | refine SW.region ?_ | refine SW.regionD (Checked.mixed Tryd.checked) (by kernel_rfl) ?_ | refine SW.cond ?_ | refine SW.skip ?_ | refine SW.exit ?_ | refine SW.ret ?_ | refine Call.of_pure (ca) ?_ | refine ⟨_, ca, ?_⟩ | refine Call.of_pure (oa) ?_ | refine ⟨_, oa, ?_⟩ | refine Call.of_pure (cb) ?_ | refine ⟨_, cb, ?_⟩ | refine Call.of_pure (ob) ?_ | refine ⟨_, ob, ?_⟩ | refine Call.of_pure (eq) ?_ | refine ⟨_, eq, ?_⟩ | refine Call.of_pure (qr) ?_ | refine ⟨_, qr, ?_⟩ | (refine allF_i fun b hb => ?_; replace hD := And.intro hb hD; clear hb; try simp only [fresh_cons, fresh_nil, and_true, ne_eq, neF] at hD) | simp only [appK, appOsK]); try simp only [go_sem, hD, hli, true_implies]) | (refine And.intro (by omega) ?_) | (refine ifI (fun hc => ?_) (fun hc => ?_) <;> first | (exfalso; omega) | skip) | ((first | apply hK | ((iterate 1 (clear hK K)); apply hK) | ((iterate 2 (clear hK K)); apply hK) | ((iterate 3 (clear hK K)); apply hK) | ((iterate 4 (clear hK K)); apply hK) | ((iterate 5 (clear hK K)); apply hK)); clear hK K)
      obtain ⟨tb, rfl⟩ : ∃ x, x = b := ⟨_, rfl⟩
      clear hD
      have hD : (0 : Nat) = 0 := rfl
      obtain ⟨I, hI⟩ : ∃ I : Nat → St → Prop, ∀ k S, I k S ↔ (∃ (m : Nat) , k = O.length - m ∧ m ≤ O.length ∧ S = ⟨[(5, NL l), (9, .op tb 0), (14, I64 q1), (15, I64 q3), (16, SB ok), (80, NL O), (81, I64 O.length), (82, I64 m)], [(tb, .svs [Str nm, SL ats, RL rows])]⟩) := ⟨fun k S => _, fun _ _ => Iff.rfl⟩
      refine SW.loop' I (O.length) ((hI _ _).2 ⟨0, rfl, Nat.zero_le _, rfl⟩) (by repeat' (first | exact rfl | exact trivial | exact int_eq (by omega) | exact int_eq (by (rw [i64_wrap] <;> omega)) | constructor)) ?_
      intro k S hIn
      obtain ⟨m, rfl, hi, rfl⟩ := (hI _ _).1 hIn
      clear hIn
      have ie : ((m : Nat) : Int).toNat = m := Int.toNat_natCast _
      have i0 : (0 : Int) ≤ ((m : Nat) : Int) := by omega
      by_cases hlk : m < O.length
      · have hli : ((m : Nat) : Int) < (((O.length) : Nat) : Int) := by omega
        have w1 : IntKind.i64.wrap ((m : Int) + 1) = ((m + 1 : Nat) : Int) := by rw [i64_wrap (by omega) (by omega)]; omega
        obtain ⟨hok, j, hj, hf, hq⟩ := hP _ (getD_mem 0 hlk)
        have fi' := fi (O.getD m 0)
        rw [hf, show findS (some j) = .tup [I64 (j : Nat), SB true] from rfl] at fi'
        have j0 : (0 : Int) ≤ ((j : Nat) : Int) := by omega
        have je : ((j : Nat) : Int).toNat = j := Int.toNat_natCast _
        have jl : ((j : Nat) : Int) < ((l.length : Nat) : Int) := by omega
        subst hok
        by_cases p1 : q1 ≤ l.getD j 0
        · have p2 : ¬ l.getD j 0 ≤ q3 := by omega
          repeat' first | (with_reducible refine And.intro (by omega) ?_) | (refine SW.seq_k fun K hK => ?_) | (refine SW.block ?_) | ((first | refine SW.region ?_ | refine SW.regionD (Checked.mixed Tryd.checked) (by kernel_rfl) ?_ | refine SW.cond ?_ | refine SW.skip ?_ | refine SW.exit ?_ | refine SW.ret ?_ | refine Call.of_pure (fi') ?_ | refine ⟨_, fi', ?_⟩ | (refine allF_i fun b hb => ?_; replace hD := And.intro hb hD; clear hb; try simp only [fresh_cons, fresh_nil, and_true, ne_eq, neF] at hD) | simp only [appK, appOsK]); try simp only [go_sem, hD, hli, ie, i0, w1, true_implies, j0, je, jl, p1, p2]) | (refine And.intro (by omega) ?_) | (refine ifI (fun hc => ?_) (fun hc => ?_) <;> first | (exfalso; omega) | skip) | ((first | apply hK | ((iterate 1 (clear hK K)); apply hK) | ((iterate 2 (clear hK K)); apply hK) | ((iterate 3 (clear hK K)); apply hK) | ((iterate 4 (clear hK K)); apply hK) | ((iterate 5 (clear hK K)); apply hK)); clear hK K)
          refine Rnd.sub (O.length - (m + 1)) (by omega) ((hI _ _).2 ⟨m + 1, rfl, by omega, rfl⟩) (by repeat' (first | exact rfl | exact trivial | exact int_eq (by omega) | exact int_eq (by (rw [i64_wrap] <;> omega)) | constructor))
        · repeat' first | (with_reducible refine And.intro (by omega) ?_) | (refine SW.seq_k fun K hK => ?_) | (refine SW.block ?_) | ((first | refine SW.region ?_ | refine SW.regionD (Checked.mixed Tryd.checked) (by kernel_rfl) ?_ | refine SW.cond ?_ | refine SW.skip ?_ | refine SW.exit ?_ | refine SW.ret ?_ | refine Call.of_pure (fi') ?_ | refine ⟨_, fi', ?_⟩ | (refine allF_i fun b hb => ?_; replace hD := And.intro hb hD; clear hb; try simp only [fresh_cons, fresh_nil, and_true, ne_eq, neF] at hD) | simp only [appK, appOsK]); try simp only [go_sem, hD, hli, ie, i0, w1, true_implies, j0, je, jl, p1]) | (refine And.intro (by omega) ?_) | (refine ifI (fun hc => ?_) (fun hc => ?_) <;> first | (exfalso; omega) | skip) | ((first | apply hK | ((iterate 1 (clear hK K)); apply hK) | ((iterate 2 (clear hK K)); apply hK) | ((iterate 3 (clear hK K)); apply hK) | ((iterate 4 (clear hK K)); apply hK) | ((iterate 5 (clear hK K)); apply hK)); clear hK K)
          refine Rnd.sub (O.length - (m + 1)) (by omega) ((hI _ _).2 ⟨m + 1, rfl, by omega, rfl⟩) (by repeat' (first | exact rfl | exact trivial | exact int_eq (by omega) | exact int_eq (by (rw [i64_wrap] <;> omega)) | constructor))
      · have hli : ¬ ((m : Nat) : Int) < (((O.length) : Nat) : Int) := by omega
        repeat' first | (with_reducible refine And.intro (by omega) ?_) | (refine SW.seq_k fun K hK => ?_) | (refine SW.block ?_) | ((first | refine SW.region ?_ | refine SW.regionD (Checked.mixed Tryd.checked) (by kernel_rfl) ?_ | refine SW.cond ?_ | refine SW.skip ?_ | refine SW.exit ?_ | refine SW.ret ?_ | (refine allF_i fun b hb => ?_; replace hD := And.intro hb hD; clear hb; try simp only [fresh_cons, fresh_nil, and_true, ne_eq, neF] at hD) | simp only [appK, appOsK]); try simp only [go_sem, hD, hli, true_implies]) | (refine And.intro (by omega) ?_) | (refine ifI (fun hc => ?_) (fun hc => ?_) <;> first | (exfalso; omega) | skip) | ((first | apply hK | ((iterate 1 (clear hK K)); apply hK) | ((iterate 2 (clear hK K)); apply hK) | ((iterate 3 (clear hK K)); apply hK) | ((iterate 4 (clear hK K)); apply hK) | ((iterate 5 (clear hK K)); apply hK)); clear hK K)
        refine ret_pure ?_; simp only [resL_tmp, resL_nil, tupOf, go_sem, hD]
end Go.Proofs.YtddkacbcecedaaaDoor
