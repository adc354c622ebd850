/- Several texts in one: C5, C6, C7, C8, C9, P6, CA, CB. -/
import Derived.Test.YtblfodnajpamfaaGreatDoorQ2
set_option linter.unusedSimpArgs false
set_option linter.unusedVariables false
set_option linter.unusedSectionVars false
set_option maxHeartbeats 8000000
set_option maxRecDepth 20000
def Go.Ab.zC5_1 : Go.Ab.OZ := (.one 0 [0, 1, 7, 8] (.one 1 [1, 7, 8] (.one 2 [2, 3, 5, 6, 7, 8] (.one 3 [3, 5, 6, 7, 8] (.one 4 [4, 5, 6, 7, 8] (.one 5 [5, 6, 7, 8] (.one 6 [6, 7, 8] (.one 7 [7, 8] (.one 8 [8] .done)))))))))
def Go.Ab.zC5_2 : Go.Ab.OZ := (.one 0 [0, 1, 8, 9, 10] (.one 1 [1, 8, 9, 10] (.one 2 [2, 3, 5, 6, 7, 8, 9, 10] (.one 3 [3, 5, 6, 7, 8, 9, 10] (.one 4 [4, 5, 6, 7, 8, 9, 10] (.one 5 [5, 6, 7, 8, 9, 10] (.one 6 [6, 7, 8, 9, 10] (.alt 7 (.alt 8 (.one 9 [9, 10] (.alt 10 .done .nil)) .nil) .nil))))))))
namespace Go.Proofs.YtblfodnajpamfaaGreatDoor
open Go Go.Ab Go.Ab.A34 Go.Ab.A15
variable [Gl] [Tabs]
theorem next_r (st : ByteArray) (sa : List Int) (n : Nat) (hn : n ≤ 1000000) (d : Dp) (hlr : d.l.length = d.r.length) (hdl : d.l.length ≤ 1000000) (hsa : sa.length ≤ 1000000) :
    PCall Tryz.prog 70 [DV d, .agg [Str st, IL sa, I64 n]] (nexV st sa n d) := by
  have cd := fun x => at_r x d.l d.l.length (by omega) rfl (iF d.l) (fun i hi => rfl)
  obtain ⟨X, hX⟩ : ∃ X, X = nexV st sa n d := ⟨_, rfl⟩
  rw [← hX]
  unfold nexV at hX
  obtain ⟨O, hO⟩ : ∃ O, O = folI d sa := ⟨_, rfl⟩
  rw [← hO] at hX
  have hstep := fun i (h : i < sa.length) => folI_drop (d := d) h
  have hat := fun x => atI_lt (x := x) (l := d.l)
  have wn : IntKind.i64.wrap ((n : Int) + 1) = (n : Int) + 1 := by rw [i64_wrap (by omega) (by omega)]
  obtain ⟨df, dl, dt, dr⟩ := d
  simp only at hX hlr hdl hat cd
  by_cases hf : st = df
  · rw [if_pos hf] at hX
    have ee : (df.toList == st.toList) = true := barr_eq.2 hf.symm
    refine Call.enter' (N := 50) (rs := [.cell 4 96, .tmp 5]) Tryz.func70 rfl rfl rfl (by decide) rfl ?_; simp only [argT]; have hD : (0 : Nat) = 0 := rfl
    repeat' first | (refine SW.seq_k fun K hK => ?_) | (refine SW.block ?_) | ((first | refine SW.region ?_ | refine SW.cond ?_ | refine SW.skip ?_ | (refine allF_i fun b hb => ?_; replace hD := And.intro hb hD; clear hb; try simp only [fresh_cons, fresh_nil, and_true, ne_eq, neF] at hD)); try simp only [go_sem, hD, ee, wn, true_implies]) | (apply hK; clear hK K)
    obtain ⟨nb, rfl⟩ : ∃ x, x = b := ⟨_, rfl⟩
    obtain ⟨rb, rfl⟩ : ∃ x, x = b := ⟨_, rfl⟩
    obtain ⟨sb, rfl⟩ : ∃ x, x = b := ⟨_, rfl⟩
    obtain ⟨db, rfl⟩ : ∃ x, x = b := ⟨_, rfl⟩
    have d1 : ¬ nb = rb := by simp [hD]
    have d2 : ¬ rb = nb := by simp [hD]
    have d3 : ¬ nb = db := by simp [hD]
    have d4 : ¬ db = nb := by simp [hD]
    have d5 : ¬ rb = db := by simp [hD]
    have d6 : ¬ db = rb := by simp [hD]
    have d7 : ¬ nb = sb := by simp [hD]
    have d8 : ¬ sb = nb := by simp [hD]
    have d9 : ¬ rb = sb := by simp [hD]
    have da : ¬ sb = rb := by simp [hD]
    have de : ¬ db = sb := by simp [hD]
    have dg : ¬ sb = db := by simp [hD]
    have hE := And.intro (And.intro (eq_false d1) (eq_false d2)) (And.intro (And.intro (eq_false d3) (eq_false d4)) (And.intro (And.intro (eq_false d5) (eq_false d6)) (And.intro (And.intro (eq_false d7) (eq_false d8)) (And.intro (And.intro (eq_false d9) (eq_false da)) (And.intro (eq_false de) (eq_false dg))))))
    refine Ab.SW.le (St.le_pick [(nb, .svs [Str dt, SN, I64 ((n : Int) + 1)]), (rb, .svs [Str ⟨#[]⟩, SN, I64 0]), (sb, .svs [Str st, IL sa, I64 n]), (db, .svs (dC ⟨df, dl, dt, dr⟩))] ?_ ?_) ?_
    · repeat' (first | exact (fun x hx => (List.not_mem_nil hx).elim) | refine List.forall_mem_cons.2 ⟨?_, ?_⟩ | exact List.mem_cons_self | apply List.mem_cons_of_mem)
    · simp [fresh_cons, fresh_nil, hD]
    clear hD
    obtain ⟨I, hI⟩ : ∃ I : Nat → St → Prop, ∀ k S, I k S ↔ (∃ (i : Nat) (pre : List (Int × Int)) (h : Heap), k = sa.length - i ∧ i ≤ sa.length ∧ pre.length = i ∧ O = folR ⟨df, dl, dt, dr⟩ pre (folI ⟨df, dl, dt, dr⟩ (sa.drop i)) ∧ ((i = 0 ∧ h = [(nb, .svs [Str dt, SN, I64 ((n : Int) + 1)]), (rb, .svs [Str ⟨#[]⟩, SN, I64 0]), (sb, .svs [Str st, IL sa, I64 n]), (db, .svs (dC ⟨df, dl, dt, dr⟩))]) ∨ (0 < i ∧ ∃ g1, fresh [(nb, .svs []), (rb, .svs []), (sb, .svs []), (db, .svs [])] g1 ∧ h = [(g1, .ints .i64 (pre.map (·.2))), (nb, .svs [Str dt, .os g1 0 i 1, I64 ((n : Int) + 1)]), (rb, .svs [Str ⟨#[]⟩, SN, I64 0]), (sb, .svs [Str st, IL sa, I64 n]), (db, .svs (dC ⟨df, dl, dt, dr⟩))])) ∧ S = ⟨[(2, .op db 0), (3, .op sb 0), (4, .op rb 0), (5, SB false), (6, .op nb 0), (7, I64 i)], h⟩) := ⟨fun k S => _, fun _ _ => Iff.rfl⟩
    refine SW.loop' I (sa.length) ((hI _ _).2 ⟨0, [], _, rfl, Nat.zero_le _, rfl, (by rw [hO, List.drop_zero]; cases folI ⟨df, dl, dt, dr⟩ sa <;> rfl), .inl ⟨rfl, rfl⟩, rfl⟩) (by repeat' (first | exact rfl | exact trivial | constructor)) ?_
    intro k S hIn
    obtain ⟨i, pre, h, rfl, hi, hpl, hC, hB, rfl⟩ := (hI _ _).1 hIn
    clear hIn
    have ie : ((i : Nat) : Int).toNat = i := Int.toNat_natCast _
    have i0 : (0 : Int) ≤ ((i : Nat) : Int) := by omega
    clear hO
    by_cases hlt : i < sa.length
    · have hli : ((i : Nat) : Int) < (((sa.length) : Nat) : Int) := by omega
      have w1 : IntKind.i64.wrap ((i : Int) + 1) = ((i + 1 : Nat) : Int) := by rw [i64_wrap (by omega) (by omega)]; omega
      rw [hstep i hlt] at hC
      have fi : iF sa i = [I64 (sa.getD i 0)] := rfl
      have c := cd (sa.getD i 0)
      have ha := hat (sa.getD i 0)
      generalize sa.getD i 0 = x at *
      have hnn : ¬ atI x 0 dl < 0 → ∃ p : Nat, atI x 0 dl = (p : Int) ∧ p < dl.length := fun h => ⟨(atI x 0 dl).toNat, by omega, (ha h).1⟩
      generalize atI x 0 dl = q at *
      have ba : (i + 1) * 8 ≤ 140737488355328 := by omega
      by_cases hq : q < 0
      · rw [if_pos hq] at hC
        have hC2 : O = none := hC
        rw [hC2] at hX
        simp only at hX
        subst hX
        rcases hB with ⟨hi0, rfl⟩ | ⟨hi0, g1, u1, rfl⟩
        · have hD := hE
          repeat' first | (refine SW.seq_k fun K hK => ?_) | (refine SW.block ?_) | ((first | refine SW.region ?_ | refine SW.regionZ (id := 7) (Checked.mixed Tryz.checked) Go.Ab.zC5_1 (by kernel_rfl) ?_ | refine SW.cond ?_ | refine SW.skip ?_ | refine SW.ret ?_ | refine ⟨_, c, ?_⟩); try simp only [Go.Ab.zC5_1, go_sem, hD, hli, ie, i0, w1, fi, hq, true_implies]) | (apply hK; clear hK K)
          apply ret_cell (i := 4) (n := 3); exact rfl; (simp only [go_sem, hD]; try rfl); (first | exact Nat.le_refl _ | decide); simp only [resL_tmp, resL_cellE, resC_ok, resL_nil, tupOf, getN, go_sem, hD]
        · simp only [fresh_cons, fresh_nil, and_true, ne_eq, neF] at u1
          have hD := And.intro u1 hE
          repeat' first | (refine SW.seq_k fun K hK => ?_) | (refine SW.block ?_) | ((first | refine SW.region ?_ | refine SW.regionZ (id := 7) (Checked.mixed Tryz.checked) Go.Ab.zC5_1 (by kernel_rfl) ?_ | refine SW.cond ?_ | refine SW.skip ?_ | refine SW.ret ?_ | refine ⟨_, c, ?_⟩); try simp only [Go.Ab.zC5_1, go_sem, hD, hli, ie, i0, w1, fi, hq, true_implies]) | (apply hK; clear hK K)
          apply ret_cell (i := 4) (n := 3); exact rfl; (simp only [go_sem, hD]; try rfl); (first | exact Nat.le_refl _ | decide); simp only [resL_tmp, resL_cellE, resC_ok, resL_nil, tupOf, getN, go_sem, hD]
      · rw [if_neg hq] at hC
        obtain ⟨p, rfl, hp⟩ := hnn hq
        have pe : ((p : Nat) : Int).toNat = p := Int.toNat_natCast _
        have p0 : (0 : Int) ≤ ((p : Nat) : Int) := by omega
        have pl : ((p : Nat) : Int) < ((dr.length : Nat) : Int) := by omega
        have fr : iF dr p = [I64 (dr.getD p 0)] := rfl
        rw [pe] at hC
        have hC2 : O = folR ⟨df, dl, dt, dr⟩ (pre ++ [((p : Int), dr.getD p 0)]) (folI ⟨df, dl, dt, dr⟩ (sa.drop (i + 1))) := by
          rw [hC]
          cases folI ⟨df, dl, dt, dr⟩ (sa.drop (i + 1)) with
          | none => rfl
          | some q => simp [folR]
        clear hC
        generalize dr.getD p 0 = y at *
        have hm2 : (pre ++ [((p : Int), y)]).map (·.2) = pre.map (·.2) ++ [y] := by rw [List.map_append]; rfl
        have hl2 : (pre ++ [((p : Int), y)]).length = i + 1 := by rw [List.length_append, hpl]; rfl
        rcases hB with ⟨hi0, rfl⟩ | ⟨hi0, g1, u1, rfl⟩
        · subst hi0
          have hpre : pre = [] := List.eq_nil_of_length_eq_zero hpl
          subst hpre
          have hD := hE
          repeat' first | (with_reducible refine And.intro (by omega) ?_) | (refine SW.seq_k fun K hK => ?_) | (refine SW.block ?_) | ((first | refine SW.region ?_ | refine SW.regionZ (id := 7) (Checked.mixed Tryz.checked) Go.Ab.zC5_1 (by kernel_rfl) ?_ | refine SW.regionZ (id := 10) (Checked.mixed Tryz.checked) Go.Ab.zC5_2 (by kernel_rfl) ?_ | refine SW.cond ?_ | refine SW.skip ?_ | refine ⟨_, c, ?_⟩ | (refine allF_i fun b hb => ?_; replace hD := And.intro hb hD; clear hb; try simp only [fresh_cons, fresh_nil, and_true, ne_eq, neF] at hD) | simp only [appK, appOsK]); try simp only [Go.Ab.zC5_1, Go.Ab.zC5_2, go_sem, hD, hli, ie, i0, w1, fi, hq, pe, p0, pl, fr, ba, true_implies]) | (refine And.intro (by omega) ?_) | (refine ifI (fun hc => ?_) (fun hc => ?_) <;> first | (exfalso; omega) | skip) | (apply hK; clear hK K)
          all_goals
            obtain ⟨c1, rfl⟩ : ∃ x, x = b := ⟨_, rfl⟩
            refine Rnd.le (St.le_pick _ ?_ ?_) (Rnd.sub (sa.length - (0 + 1)) (by omega) ((hI _ _).2 ⟨0 + 1, [((p : Int), y)], [(c1, .ints .i64 [y]), (nb, .svs [Str dt, .os c1 0 1 1, I64 ((n : Int) + 1)]), (rb, .svs [Str ⟨#[]⟩, SN, I64 0]), (sb, .svs [Str st, IL sa, I64 n]), (db, .svs (dC ⟨df, dl, dt, dr⟩))], rfl, by omega, rfl, hC2, .inr ⟨by omega, c1, by simp [fresh_cons, fresh_nil, hD], rfl⟩, rfl⟩) (by repeat' (first | exact rfl | exact trivial | constructor)))
            · repeat' (first | exact (fun x hx => (List.not_mem_nil hx).elim) | refine List.forall_mem_cons.2 ⟨?_, ?_⟩ | exact List.mem_cons_self | apply List.mem_cons_of_mem)
            · simp [fresh_cons, fresh_nil, hD]
        · have hs1 : (pre.map (·.2)).length = i := by rw [List.length_map, hpl]
          simp only [fresh_cons, fresh_nil, and_true, ne_eq, neF] at u1
          have hD := And.intro u1 hE
          repeat' first | (with_reducible refine And.intro (by omega) ?_) | (refine SW.seq_k fun K hK => ?_) | (refine SW.block ?_) | ((first | refine SW.region ?_ | refine SW.regionZ (id := 7) (Checked.mixed Tryz.checked) Go.Ab.zC5_1 (by kernel_rfl) ?_ | refine SW.regionZ (id := 10) (Checked.mixed Tryz.checked) Go.Ab.zC5_2 (by kernel_rfl) ?_ | refine SW.cond ?_ | refine SW.skip ?_ | refine ⟨_, c, ?_⟩ | (refine allF_i fun b hb => ?_; replace hD := And.intro hb hD; clear hb; try simp only [fresh_cons, fresh_nil, and_true, ne_eq, neF] at hD) | simp only [appK, appOsK]); try simp only [Go.Ab.zC5_1, Go.Ab.zC5_2, go_sem, hD, hli, ie, i0, w1, fi, hq, pe, p0, pl, fr, ba, hs1, true_implies]) | (apply hK; clear hK K)
          all_goals
            obtain ⟨c1, rfl⟩ : ∃ x, x = b := ⟨_, rfl⟩
            refine Rnd.le (St.le_pick _ ?_ ?_) (Rnd.sub (sa.length - (i + 1)) (by omega) ((hI _ _).2 ⟨i + 1, pre ++ [((p : Int), y)], [(c1, .ints .i64 (pre.map (·.2) ++ [y])), (nb, .svs [Str dt, .os c1 0 (i + 1) 1, I64 ((n : Int) + 1)]), (rb, .svs [Str ⟨#[]⟩, SN, I64 0]), (sb, .svs [Str st, IL sa, I64 n]), (db, .svs (dC ⟨df, dl, dt, dr⟩))], rfl, by omega, hl2, hC2, .inr ⟨by omega, c1, by simp [fresh_cons, fresh_nil, hD], by rw [hm2]⟩, rfl⟩) (by repeat' (first | exact rfl | exact trivial | constructor)))
            · repeat' (first | exact (fun x hx => (List.not_mem_nil hx).elim) | refine List.forall_mem_cons.2 ⟨?_, ?_⟩ | exact List.mem_cons_self | apply List.mem_cons_of_mem)
            · simp [fresh_cons, fresh_nil, hD]
    · have hli : ¬ ((i : Nat) : Int) < (((sa.length) : Nat) : Int) := by omega
      obtain rfl : i = sa.length := by omega
      rw [List.drop_length] at hC
      have hC2 : O = some pre := by rw [hC]; simp [folR, folI]
      rw [hC2] at hX
      simp only at hX
      subst hX
      have l2 : (pre.map (·.2)).length = sa.length := by rw [List.length_map, hpl]
      generalize pre.map (·.2) = A at *
      apply Ab.SW.le (S' := ⟨[(2, .op db 0), (3, .op sb 0), (4, .op rb 0), (5, SB false), (6, .op nb 0), (7, I64 sa.length)], [(nb, .svs [Str dt, IL A, I64 ((n : Int) + 1)]), (rb, .svs [Str ⟨#[]⟩, SN, I64 0]), (sb, .svs [Str st, IL sa, I64 n]), (db, .svs (dC ⟨df, dl, dt, dr⟩))]⟩)
      · rcases hB with ⟨hi0, rfl⟩ | ⟨hi0, g1, u1, rfl⟩
        · have e2 : A = [] := List.eq_nil_of_length_eq_zero (by omega)
          subst e2
          have s1 := St.le_nilC (t := [(2, .op db 0), (3, .op sb 0), (4, .op rb 0), (5, SB false), (6, .op nb 0), (7, I64 sa.length)]) (h := [(nb, .svs [Str dt, SN, I64 ((n : Int) + 1)]), (rb, .svs [Str ⟨#[]⟩, SN, I64 0]), (sb, .svs [Str st, IL sa, I64 n]), (db, .svs (dC ⟨df, dl, dt, dr⟩))]) (c := nb) (j := 1) (sz := 1) (f := iF []) (by rw [find_cons, if_pos rfl]) (by show 1 < 3; omega) rfl
          rw [upd_cons, if_pos rfl] at s1
          exact s1
        · simp only [fresh_cons, fresh_nil, and_true, ne_eq] at u1
          obtain ⟨⟨a1, a2⟩, _⟩ := u1
          have s1 := St.le_freezeC (t := [(2, .op db 0), (3, .op sb 0), (4, .op rb 0), (5, SB false), (6, .op nb 0), (7, I64 sa.length)]) (h := [(g1, .ints .i64 A), (nb, .svs [Str dt, .os g1 0 sa.length 1, I64 ((n : Int) + 1)]), (rb, .svs [Str ⟨#[]⟩, SN, I64 0]), (sb, .svs [Str st, IL sa, I64 n]), (db, .svs (dC ⟨df, dl, dt, dr⟩))]) (c := nb) (j := 1) (b := g1) (off := 0) (len := sa.length) (sz := 1) (by rw [find_cons, if_neg a2, find_cons, if_pos rfl]) a1 (by show 1 < 3; omega) rfl (by rw [find_cons, if_pos rfl]) (by show 0 + sa.length * 1 ≤ A.length; omega) (iF A) (fun p _ => ints_get A p)
          rw [del_cons, if_pos rfl, upd_cons, if_pos rfl] at s1
          unfold IL
          rw [l2]
          exact s1
      · have hD := hE
        repeat' first | (refine SW.seq_k fun K hK => ?_) | ((first | refine SW.region ?_ | refine SW.cond ?_ | refine SW.exit ?_ | refine SW.ret ?_); try simp only [go_sem, hD, hli, true_implies]) | (apply hK; clear hK K) | (clear hK K; apply hK; clear hK K)
        apply ret_cell (i := 4) (n := 3); exact rfl; (simp only [go_sem, hD]; try rfl); (first | exact Nat.le_refl _ | decide); simp only [resL_tmp, resL_cellE, resC_ok, resL_nil, tupOf, getN, go_sem, hD]
  · rw [if_neg hf] at hX
    subst hX
    have ee : (df.toList == st.toList) = false := by rw [Bool.eq_false_iff]; exact fun h => hf (barr_eq.1 h).symm
    refine Call.enter' (N := 50) (rs := [.cell 4 96, .tmp 5]) Tryz.func70 rfl rfl rfl (by decide) rfl ?_; simp only [argT]; have hD : (0 : Nat) = 0 := rfl
    repeat' first | (refine SW.seq_k fun K hK => ?_) | ((first | refine SW.region ?_ | refine SW.cond ?_ | refine SW.ret ?_ | (refine allF_i fun b hb => ?_; replace hD := And.intro hb hD; clear hb; try simp only [fresh_cons, fresh_nil, and_true, ne_eq, neF] at hD)); try simp only [go_sem, hD, ee, true_implies]) | (apply hK; clear hK K)
    apply ret_cell (i := 4) (n := 3); exact rfl; (simp only [go_sem, hD]; try rfl); (first | exact Nat.le_refl _ | decide); simp only [resL_tmp, resL_cellE, resC_ok, resL_nil, tupOf, getN, go_sem, hD]
theorem itoa_size (n : Int) (h0 : 0 ≤ n) (h1 : n < 16) : (itoaS n).size ≤ 20 := by
  have : ∀ x : Fin 16, (itoaS (x.val : Int)).size ≤ 20 := by decide +kernel
  have h := this ⟨n.toNat, by omega⟩
  rwa [show ((n.toNat : Nat) : Int) = n by omega] at h
theorem name_p (t : ByteArray) (a : List Int) (z1 z2 : Int) (ps : SV) (hps : single ps = true) (ht : t.size ≤ 1000000) (ha : In16 a) (hl : a.length ≤ 1000) : PCall Tryz.prog 68 [.agg [Str t, IL a, I64 z1, I64 z2, ps]] (Str (nameS t a)) := by
  obtain ⟨R, hR⟩ : ∃ R, R = nameS t a := ⟨_, rfl⟩
  rw [← hR]
  have hai : ∀ i, i < a.length → 0 ≤ a.getD i 0 ∧ a.getD i 0 < 16 := fun i hi => ha _ (getD_mem' 0 hi)
  clear ha
  refine Call.enter' (N := 22) (rs := [.tmp 2]) Tryz.func68 rfl rfl rfl (by decide) rfl ?_; simp only [argT]; have hD : (0 : Nat) = 0 := rfl
  repeat' first | (refine SW.seq_k fun K hK => ?_) | (refine SW.block ?_) | ((first | refine SW.region ?_ | (refine allF_i fun b hb => ?_; replace hD := And.intro hb hD; clear hb; try simp only [fresh_cons, fresh_nil, and_true, ne_eq, neF] at hD)); try simp only [go_sem, hD, hps]) | (apply hK; clear hK K)
  refine Ab.SW.le St.le_drop ?_
  obtain ⟨I, hI⟩ : ∃ I : Nat → St → Prop, ∀ k S, I k S ↔ (∃ (i : Nat) (s : ByteArray), k = a.length - i ∧ i ≤ a.length ∧ s.size ≤ 1000000 + 21 * i ∧ R = nameS s (a.drop i) ∧ S = ⟨[(3, Str s), (9, IL a), (10, I64 a.length), (11, I64 i)], []⟩) := ⟨fun k S => _, fun _ _ => Iff.rfl⟩
  refine SW.loop' I (a.length) ((hI _ _).2 ⟨0, t, rfl, Nat.zero_le _, ht, hR, rfl⟩) (by repeat' (first | exact rfl | exact trivial | constructor)) ?_
  intro k S hIn
  obtain ⟨i, s, rfl, hi, hsz, hC, rfl⟩ := (hI _ _).1 hIn
  clear hIn
  have ie : ((i : Nat) : Int).toNat = i := Int.toNat_natCast _
  have i0 : (0 : Int) ≤ ((i : Nat) : Int) := by omega
  clear hR
  by_cases hlt : i < a.length
  · have hli : ((i : Nat) : Int) < (((a.length) : Nat) : Int) := by omega
    have w1 : IntKind.i64.wrap ((i : Int) + 1) = ((i + 1 : Nat) : Int) := by rw [i64_wrap (by omega) (by omega)]; omega
    rw [nameS_step hlt] at hC
    have fi : iF a i = [I64 (a.getD i 0)] := rfl
    obtain ⟨x0, x1⟩ := hai i hlt
    have c := itoa_c (a.getD i 0) ⟨by omega, by omega⟩
    have is := itoa_size _ x0 x1
    generalize a.getD i 0 = x at *
    have e1 : ((⟨#[32]⟩ : ByteArray).size : Int) = 1 := rfl
    generalize itoaS x = D at *
    have sz : ((⟨#[32]⟩ : ByteArray) ++ D).size = 1 + D.size := ByteArray.size_append
    have sz2 : (s ++ (⟨#[32]⟩ ++ D)).size = s.size + (1 + D.size) := by rw [ByteArray.size_append, sz]
    have b1 : ((((⟨#[32]⟩ : ByteArray).size + D.size : Nat) : Int) ≤ 9223372036854775807) := by
      have : (⟨#[32]⟩ : ByteArray).size = 1 := rfl
      omega
    have b2 : (((s.size + ((⟨#[32]⟩ : ByteArray) ++ D).size : Nat) : Int) ≤ 9223372036854775807) := by omega
    repeat' first | (with_reducible refine And.intro (by omega) ?_) | (refine SW.seq_k fun K hK => ?_) | (refine SW.block ?_) | ((first | refine SW.region ?_ | refine SW.cond ?_ | refine SW.skip ?_ | refine Call.of_pure (c) ?_); try simp only [go_sem, hD, hli, ie, i0, w1, fi, b1, b2]) | (apply hK; clear hK K)
    refine Rnd.le St.le_drop (Rnd.sub (a.length - (i + 1)) (by omega) ((hI _ _).2 ⟨i + 1, s ++ (⟨#[32]⟩ ++ D), rfl, by omega, (by omega), hC, rfl⟩) (by repeat' (first | exact rfl | exact trivial | constructor)))
  · have hli : ¬ ((i : Nat) : Int) < (((a.length) : Nat) : Int) := by omega
    rw [List.drop_of_length_le (by omega)] at hC
    have hC2 : R = s := hC
    subst hC2
    repeat' first | (refine SW.seq_k fun K hK => ?_) | ((first | refine SW.region ?_ | refine SW.cond ?_ | refine SW.exit ?_ | refine SW.ret ?_); try simp only [go_sem, hD, hli]) | (apply hK; clear hK K) | (clear hK K; apply hK; clear hK K)
    refine ret_pure ?_; simp only [resL_tmp, resL_nil, tupOf, go_sem, hD]
end Go.Proofs.YtblfodnajpamfaaGreatDoor
namespace Go.Ab
open Go
theorem St.le_del' [Gl] {t : List (Nat × SV)} {h h' : Heap} {b : Nat} (e : h.del b = h') : (St.mk t h).le ⟨t, h'⟩ := e ▸ St.le_del
theorem fresh_ne_find {H : Heap} {b c : Nat} {k : Blk} (hf : fresh H b) (hc : H.find c = some k) : ¬ b = c := by
  induction H with
  | nil => cases hc
  | cons x r ih =>
    obtain ⟨d, k'⟩ := x
    rw [fresh_cons] at hf
    rw [find_cons] at hc
    by_cases hd : d = c
    · subst hd; exact hf.1.2
    · rw [if_neg hd] at hc; exact ih hf.2 hc
end Go.Ab
namespace Go.Ab.A15
open Go Go.Ab Go.Ab.A34
theorem list_eq {a c : List Int} (hl : a.length = c.length) (h : ∀ j, j < a.length → a.getD j 0 = c.getD j 0) : a = c := by
  refine List.ext_getElem hl fun i h1 h2 => ?_
  have := h i h1
  simpa [List.getD_eq_getElem?_getD, h1, h2] using this
theorem fC_get {α : Type} {enc : α → List SV} {k : Nat} (hk : ∀ x, (enc x).length = k) (d : α) {l : List α} {i j : Nat} (hi : i < l.length) (hj : j < k) : (fC enc l).getD (i * k + j) .any = (enc (l.getD i d)).getD j .any := by
  rw [fC_at hk d l i hi]
  rw [List.getD_eq_getElem?_getD, List.getD_eq_getElem?_getD, List.getElem?_take_of_lt hj, List.getElem?_drop]
abbrev r3C (s : Sn) : List SV := [Str s.t, IL s.a, I64 s.st]
def r3F (l : List Sn) (i : Nat) : List SV := r3C (l.getD i s0)
theorem fC_lt {α : Type} {enc : α → List SV} {k : Nat} (hk : ∀ x, (enc x).length = k) {l : List α} {i j : Nat} (hi : i < l.length) (hj : j < k) : i * k + j < (fC enc l).length := by
  rw [← fC_len hk]
  have : (i + 1) * k ≤ l.length * k := Nat.mul_le_mul_right k hi
  rw [Nat.add_mul, Nat.one_mul] at this
  omega
end Go.Ab.A15
def Go.Ab.zC6_1 : Go.Ab.OZ := (.one 0 [0, 2, 3, 8] (.one 1 [1, 2, 3, 8] (.one 2 [2, 3, 8] (.one 3 [3, 8] (.one 4 [4, 6, 7, 8] (.one 5 [5, 6, 7, 8] (.one 6 [6, 7, 8] (.one 7 [7, 8] (.one 8 [8] .done)))))))))
def Go.Ab.zC6_2 : Go.Ab.OZ := (.one 0 [0, 2, 3, 4, 7, 8, 9, 10, 11, 12, 13, 14, 15, 16, 17] (.one 1 [1, 2, 3, 4, 7, 8, 9, 10, 11, 12, 13, 14, 15, 16, 17] (.one 2 [2, 3, 4, 7, 8, 9, 10, 11, 12, 13, 14, 15, 16, 17] (.one 3 [3, 4, 7, 8, 9, 10, 11, 12, 13, 14, 15, 16, 17] (.one 4 [4, 7, 8, 9, 10, 11, 12, 13, 14, 15, 16, 17] (.one 5 [5, 6, 7, 8, 9, 10, 11, 12, 13, 14, 15, 16, 17] (.one 6 [6, 7, 8, 9, 10, 11, 12, 13, 14, 15, 16, 17] (.one 7 [7, 8, 9, 10, 11, 12, 13, 14, 15, 16, 17] (.one 8 [8, 9, 10, 11, 12, 13, 14, 15, 16, 17] (.one 9 [9, 11, 12, 13, 16, 17] (.one 10 [10, 11, 12, 13, 16, 17] (.one 11 [11, 12, 13, 16, 17] (.one 12 [12, 13, 16, 17] (.one 13 [13, 16, 17] (.one 14 [14, 15, 16, 17] (.one 15 [15, 16, 17] (.one 16 [16, 17] (.one 17 [17] .done))))))))))))))))))
namespace Go.Proofs.YtblfodnajpamfaaGreatDoor
open Go Go.Ab Go.Ab.A34 Go.Ab.A15
variable [Gl] [Tabs]
theorem same_r (a c : List Int) (ha : a.length ≤ 1000000000) (hc : c.length ≤ 1000000000) (n : Nat) (hn : c.length = n) (f : Nat → List SV) (hf : ∀ i, i < n → f i = [I64 (c.getD i 0)]) : PCall Tryz.prog 43 [IL a, .fl n 1 f] (SB (decide (a = c))) := by
  subst hn
  obtain ⟨X, hX⟩ : ∃ X, X = decide (a = c) := ⟨_, rfl⟩
  rw [← hX]
  have h0 : ¬ a.length = c.length → X = false := fun h => by rw [hX, decide_eq_false fun e => h (by rw [e])]
  have h1 : a.length = c.length → (∀ j, j < a.length → a.getD j 0 = c.getD j 0) → X = true := fun hl h => by rw [hX, decide_eq_true (list_eq hl h)]
  have h2 : ∀ j, ¬ a.getD j 0 = c.getD j 0 → X = false := fun j h => by rw [hX, decide_eq_false fun e => h (by rw [e])]
  clear hX
  by_cases hl : a.length = c.length
  · have hlq : ((a.length : Nat) : Int) = ((c.length : Nat) : Int) := by omega
    refine Call.enter' (N := 26) (rs := [.tmp 4]) Tryz.func43 rfl rfl rfl (by decide) rfl ?_; simp only [argT]; have hD : (0 : Nat) = 0 := rfl
    repeat' first | (refine SW.seq_k fun K hK => ?_) | (refine SW.block ?_) | ((first | refine SW.region ?_ | refine SW.cond ?_ | refine SW.skip ?_); try simp only [go_sem, hD, hlq]) | (apply hK; clear hK K)
    obtain ⟨I, hI⟩ : ∃ I : Nat → St → Prop, ∀ k S, I k S ↔ (∃ (i : Nat) , k = a.length - i ∧ i ≤ a.length ∧ (∀ j, j < i → a.getD j 0 = c.getD j 0) ∧ S = ⟨[(0, IL a), (1, .fl c.length 1 f), (5, I64 i)], []⟩) := ⟨fun k S => _, fun _ _ => Iff.rfl⟩
    refine SW.loop' I (a.length) ((hI _ _).2 ⟨0, rfl, Nat.zero_le _, (fun j hj => absurd hj (by omega)), rfl⟩) (by repeat' (first | exact rfl | exact trivial | constructor)) ?_
    intro k S hIn
    obtain ⟨i, rfl, hi, hL, rfl⟩ := (hI _ _).1 hIn
    clear hIn
    have ie : ((i : Nat) : Int).toNat = i := Int.toNat_natCast _
    have i0 : (0 : Int) ≤ ((i : Nat) : Int) := by omega
    by_cases hlt : i < a.length
    · have hli : ((i : Nat) : Int) < (((a.length) : Nat) : Int) := by omega
      have w1 : IntKind.i64.wrap ((i : Int) + 1) = ((i + 1 : Nat) : Int) := by rw [i64_wrap (by omega) (by omega)]; omega
      have hlc : ((i : Nat) : Int) < ((c.length : Nat) : Int) := by omega
      have fi : iF a i = [I64 (a.getD i 0)] := rfl
      have gi := hf i (by omega)
      have h2i := h2 i
      have hn1 : a.getD i 0 = c.getD i 0 → ∀ j, j < i + 1 → a.getD j 0 = c.getD j 0 := fun h j hj => by
        rcases Nat.lt_or_ge j i with h3 | h3
        · exact hL j h3
        · obtain rfl : j = i := by omega
          exact h
      generalize a.getD i 0 = u at *
      generalize c.getD i 0 = v at *
      by_cases huv : u = v
      · have hn2 := hn1 huv
        repeat' first | (refine SW.seq_k fun K hK => ?_) | (refine SW.block ?_) | ((first | refine SW.region ?_ | refine SW.regionZ (id := 6) (Checked.mixed Tryz.checked) Go.Ab.zC6_1 (by kernel_rfl) ?_ | refine SW.cond ?_ | refine SW.skip ?_); try simp only [Go.Ab.zC6_1, go_sem, hD, hli, hlc, ie, i0, w1, fi, gi, huv]) | (apply hK; clear hK K)
        refine Rnd.sub (a.length - (i + 1)) (by omega) ((hI _ _).2 ⟨i + 1, rfl, by omega, hn2, rfl⟩) (by repeat' (first | exact rfl | exact trivial | constructor))
      · have hx := h2i huv
        subst hx
        repeat' first | (refine SW.seq_k fun K hK => ?_) | (refine SW.block ?_) | ((first | refine SW.region ?_ | refine SW.regionZ (id := 6) (Checked.mixed Tryz.checked) Go.Ab.zC6_1 (by kernel_rfl) ?_ | refine SW.cond ?_ | refine SW.skip ?_ | refine SW.ret ?_); try simp only [Go.Ab.zC6_1, go_sem, hD, hli, hlc, ie, i0, w1, fi, gi, huv]) | (apply hK; clear hK K)
        refine ret_pure ?_; simp only [resL_tmp, resL_nil, tupOf, go_sem, hD]
    · have hli : ¬ ((i : Nat) : Int) < (((a.length) : Nat) : Int) := by omega
      have hx := h1 hl fun j hj => hL j (by omega)
      subst hx
      have nl : ¬ ((c.length : Nat) : Int) < ((c.length : Nat) : Int) := by omega
      repeat' first | (refine SW.seq_k fun K hK => ?_) | ((first | refine SW.region ?_ | refine SW.cond ?_ | refine SW.exit ?_ | refine SW.ret ?_); try simp only [go_sem, hD, hli, nl]) | (apply hK; clear hK K) | (clear hK K; apply hK; clear hK K)
      refine ret_pure ?_; simp only [resL_tmp, resL_nil, tupOf, go_sem, hD]
  · have hlq : ¬ ((a.length : Nat) : Int) = ((c.length : Nat) : Int) := by omega
    have hx := h0 hl
    subst hx
    refine Call.enter' (N := 26) (rs := [.tmp 4]) Tryz.func43 rfl rfl rfl (by decide) rfl ?_; simp only [argT]; have hD : (0 : Nat) = 0 := rfl
    repeat' first | (refine SW.seq_k fun K hK => ?_) | ((first | refine SW.region ?_ | refine SW.cond ?_ | refine SW.ret ?_); try simp only [go_sem, hD, hlq]) | (apply hK; clear hK K)
    refine ret_pure ?_; simp only [resL_tmp, resL_nil, tupOf, go_sem, hD]
theorem equal_i (a c : List Int) (ha : a.length ≤ 1000000000) (hc : c.length ≤ 1000000000) (n : Nat) (hn : c.length = n) (f : Nat → List SV) (hf : ∀ i, i < n → f i = [I64 (c.getD i 0)]) : PCall Tryz.prog 45 [IL a, .fl n 1 f] (SB (decide (a = c))) := by
  subst hn
  obtain ⟨X, hX⟩ : ∃ X, X = decide (a = c) := ⟨_, rfl⟩
  rw [← hX]
  have h0 : ¬ a.length = c.length → X = false := fun h => by rw [hX, decide_eq_false fun e => h (by rw [e])]
  have h1 : a.length = c.length → (∀ j, j < a.length → a.getD j 0 = c.getD j 0) → X = true := fun hl h => by rw [hX, decide_eq_true (list_eq hl h)]
  have h2 : ∀ j, ¬ a.getD j 0 = c.getD j 0 → X = false := fun j h => by rw [hX, decide_eq_false fun e => h (by rw [e])]
  clear hX
  by_cases hl : a.length = c.length
  · have hlq : ((a.length : Nat) : Int) = ((c.length : Nat) : Int) := by omega
    refine Call.enter' (N := 26) (rs := [.tmp 4]) Tryz.func45 rfl rfl rfl (by decide) rfl ?_; simp only [argT]; have hD : (0 : Nat) = 0 := rfl
    repeat' first | (refine SW.seq_k fun K hK => ?_) | (refine SW.block ?_) | ((first | refine SW.region ?_ | refine SW.cond ?_ | refine SW.skip ?_); try simp only [go_sem, hD, hlq]) | (apply hK; clear hK K)
    obtain ⟨I, hI⟩ : ∃ I : Nat → St → Prop, ∀ k S, I k S ↔ (∃ (i : Nat) , k = a.length - i ∧ i ≤ a.length ∧ (∀ j, j < i → a.getD j 0 = c.getD j 0) ∧ S = ⟨[(0, IL a), (1, .fl c.length 1 f), (11, IL a), (12, I64 a.length), (13, I64 i)], []⟩) := ⟨fun k S => _, fun _ _ => Iff.rfl⟩
    refine SW.loop' I (a.length) ((hI _ _).2 ⟨0, rfl, Nat.zero_le _, (fun j hj => absurd hj (by omega)), rfl⟩) (by repeat' (first | exact rfl | exact trivial | exact int_eq (by omega) | constructor)) ?_
    intro k S hIn
    obtain ⟨i, rfl, hi, hL, rfl⟩ := (hI _ _).1 hIn
    clear hIn
    have ie : ((i : Nat) : Int).toNat = i := Int.toNat_natCast _
    have i0 : (0 : Int) ≤ ((i : Nat) : Int) := by omega
    by_cases hlt : i < a.length
    · have hli : ((i : Nat) : Int) < (((a.length) : Nat) : Int) := by omega
      have w1 : IntKind.i64.wrap ((i : Int) + 1) = ((i + 1 : Nat) : Int) := by rw [i64_wrap (by omega) (by omega)]; omega
      have hlc : ((i : Nat) : Int) < ((c.length : Nat) : Int) := by omega
      have fi : iF a i = [I64 (a.getD i 0)] := rfl
      have gi := hf i (by omega)
      have h2i := h2 i
      have hn1 : a.getD i 0 = c.getD i 0 → ∀ j, j < i + 1 → a.getD j 0 = c.getD j 0 := fun h j hj => by
        rcases Nat.lt_or_ge j i with h3 | h3
        · exact hL j h3
        · obtain rfl : j = i := by omega
          exact h
      generalize a.getD i 0 = u at *
      generalize c.getD i 0 = v at *
      by_cases huv : u = v
      · have hn2 := hn1 huv
        repeat' first | (refine SW.seq_k fun K hK => ?_) | (refine SW.block ?_) | ((first | refine SW.region ?_ | refine SW.regionZ (id := 6) (Checked.mixed Tryz.checked) Go.Ab.zC6_1 (by kernel_rfl) ?_ | refine SW.cond ?_ | refine SW.skip ?_); try simp only [Go.Ab.zC6_1, go_sem, hD, hli, hlc, ie, i0, w1, fi, gi, huv]) | (apply hK; clear hK K)
        refine Rnd.sub (a.length - (i + 1)) (by omega) ((hI _ _).2 ⟨i + 1, rfl, by omega, hn2, rfl⟩) (by repeat' (first | exact rfl | exact trivial | constructor))
      · have hx := h2i huv
        subst hx
        repeat' first | (refine SW.seq_k fun K hK => ?_) | (refine SW.block ?_) | ((first | refine SW.region ?_ | refine SW.regionZ (id := 6) (Checked.mixed Tryz.checked) Go.Ab.zC6_1 (by kernel_rfl) ?_ | refine SW.cond ?_ | refine SW.skip ?_ | refine SW.ret ?_); try simp only [Go.Ab.zC6_1, go_sem, hD, hli, hlc, ie, i0, w1, fi, gi, huv]) | (apply hK; clear hK K)
        refine ret_pure ?_; simp only [resL_tmp, resL_nil, tupOf, go_sem, hD]
    · have hli : ¬ ((i : Nat) : Int) < (((a.length) : Nat) : Int) := by omega
      have hx := h1 hl fun j hj => hL j (by omega)
      subst hx
      have nl : ¬ ((c.length : Nat) : Int) < ((c.length : Nat) : Int) := by omega
      repeat' first | (refine SW.seq_k fun K hK => ?_) | ((first | refine SW.region ?_ | refine SW.cond ?_ | refine SW.exit ?_ | refine SW.ret ?_); try simp only [go_sem, hD, hli, nl]) | (apply hK; clear hK K) | (clear hK K; apply hK; clear hK K)
      refine ret_pure ?_; simp only [resL_tmp, resL_nil, tupOf, go_sem, hD]
  · have hlq : ¬ ((a.length : Nat) : Int) = ((c.length : Nat) : Int) := by omega
    have hx := h0 hl
    subst hx
    refine Call.enter' (N := 26) (rs := [.tmp 4]) Tryz.func45 rfl rfl rfl (by decide) rfl ?_; simp only [argT]; have hD : (0 : Nat) = 0 := rfl
    repeat' first | (refine SW.seq_k fun K hK => ?_) | ((first | refine SW.region ?_ | refine SW.cond ?_ | refine SW.ret ?_); try simp only [go_sem, hD, hlq]) | (apply hK; clear hK K)
    refine ret_pure ?_; simp only [resL_tmp, resL_nil, tupOf, go_sem, hD]
theorem find_r (l : List Sn) (t : ByteArray) (a : List Int) (z : Int) (hl : l.length ≤ 1000000) (hal : a.length ≤ 1000000) (hs : ∀ s ∈ l, s.a.length ≤ 1000000) : PCall Tryz.prog 42 [.fl l.length 3 (r3F l), .agg [Str t, IL a, I64 z]] (I64 (findS t a 0 l)) := by
  obtain ⟨R, hR⟩ : ∃ R, R = findS t a 0 l := ⟨_, rfl⟩
  rw [← hR]
  refine Call.enter' (N := 31) (rs := [.tmp 4]) Tryz.func42 rfl rfl rfl (by decide) rfl ?_; simp only [argT]; have hD : (0 : Nat) = 0 := rfl
  repeat' first | (refine SW.seq_k fun K hK => ?_) | (refine SW.block ?_) | ((first | refine SW.region ?_ | (refine allF_i fun b hb => ?_; replace hD := And.intro hb hD; clear hb; try simp only [fresh_cons, fresh_nil, and_true, ne_eq, neF] at hD)); try simp only [go_sem, hD]) | (apply hK; clear hK K)
  obtain ⟨sb, rfl⟩ : ∃ x, x = b := ⟨_, rfl⟩
  obtain ⟨I, hI⟩ : ∃ I : Nat → St → Prop, ∀ k S, I k S ↔ (∃ (i : Nat) , k = l.length - i ∧ i ≤ l.length ∧ R = findS t a i (l.drop i) ∧ S = ⟨[(0, .fl l.length 3 (r3F l)), (3, .op sb 0), (5, I64 i)], [(sb, .svs [Str t, IL a, I64 z])]⟩) := ⟨fun k S => _, fun _ _ => Iff.rfl⟩
  refine SW.loop' I (l.length) ((hI _ _).2 ⟨0, rfl, Nat.zero_le _, by rw [List.drop_zero]; exact hR, rfl⟩) (by repeat' (first | exact rfl | exact trivial | constructor)) ?_
  intro k S hIn
  obtain ⟨i, rfl, hi, hC, rfl⟩ := (hI _ _).1 hIn
  clear hIn
  have ie : ((i : Nat) : Int).toNat = i := Int.toNat_natCast _
  have i0 : (0 : Int) ≤ ((i : Nat) : Int) := by omega
  clear hR
  by_cases hlt : i < l.length
  · have hli : ((i : Nat) : Int) < (((l.length) : Nat) : Int) := by omega
    have w1 : IntKind.i64.wrap ((i : Int) + 1) = ((i + 1 : Nat) : Int) := by rw [i64_wrap (by omega) (by omega)]; omega
    rw [findS_step hlt] at hC
    have fi : r3F l i = r3C (l.getD i s0) := rfl
    have hsi := hs _ (getD_mem' s0 hlt)
    generalize l.getD i s0 = s at *
    have c := same_r s.a a (by omega) (by omega) a.length rfl (iF a) (fun j hj => rfl)
    obtain ⟨st, sa, x1, x2, x3, x4⟩ := s
    simp only at hC c
    by_cases e1 : st = t
    · have ee : (st.toList == t.toList) = true := barr_eq.2 e1
      by_cases e2 : sa = a
      · rw [if_pos ⟨e1, e2⟩] at hC
        rw [decide_eq_true e2] at c
        subst hC
        repeat' first | (refine SW.seq_k fun K hK => ?_) | (refine SW.block ?_) | ((first | refine SW.region ?_ | refine SW.regionZ (id := 4) (Checked.mixed Tryz.checked) Go.Ab.zC6_2 (by kernel_rfl) ?_ | refine SW.cond ?_ | refine SW.skip ?_ | refine SW.ret ?_ | refine ⟨_, c, ?_⟩); try simp only [Go.Ab.zC6_2, go_sem, hD, hli, ie, i0, w1, fi, ee]) | (apply hK; clear hK K)
        refine ret_pure ?_; simp only [resL_tmp, resL_nil, tupOf, go_sem, hD]
      · rw [if_neg (fun x => e2 x.2)] at hC
        rw [decide_eq_false e2] at c
        repeat' first | (refine SW.seq_k fun K hK => ?_) | (refine SW.block ?_) | ((first | refine SW.region ?_ | refine SW.regionZ (id := 4) (Checked.mixed Tryz.checked) Go.Ab.zC6_2 (by kernel_rfl) ?_ | refine SW.cond ?_ | refine SW.skip ?_ | refine ⟨_, c, ?_⟩); try simp only [Go.Ab.zC6_2, go_sem, hD, hli, ie, i0, w1, fi, ee]) | (apply hK; clear hK K)
        refine Rnd.sub (l.length - (i + 1)) (by omega) ((hI _ _).2 ⟨i + 1, rfl, by omega, hC, rfl⟩) (by repeat' (first | exact rfl | exact trivial | constructor))
    · have ee : (st.toList == t.toList) = false := by rw [Bool.eq_false_iff]; exact fun h => e1 (barr_eq.1 h)
      rw [if_neg (fun x => e1 x.1)] at hC
      repeat' first | (refine SW.seq_k fun K hK => ?_) | (refine SW.block ?_) | ((first | refine SW.region ?_ | refine SW.regionZ (id := 4) (Checked.mixed Tryz.checked) Go.Ab.zC6_2 (by kernel_rfl) ?_ | refine SW.cond ?_ | refine SW.skip ?_); try simp only [Go.Ab.zC6_2, go_sem, hD, hli, ie, i0, w1, fi, ee]) | (apply hK; clear hK K)
      refine Rnd.sub (l.length - (i + 1)) (by omega) ((hI _ _).2 ⟨i + 1, rfl, by omega, hC, rfl⟩) (by repeat' (first | exact rfl | exact trivial | constructor))
  · have hli : ¬ ((i : Nat) : Int) < (((l.length) : Nat) : Int) := by omega
    rw [List.drop_of_length_le (by omega)] at hC
    have hC2 : R = -1 := hC
    subst hC2
    repeat' first | (refine SW.seq_k fun K hK => ?_) | ((first | refine SW.region ?_ | refine SW.cond ?_ | refine SW.exit ?_ | refine SW.ret ?_); try simp only [go_sem, hD, hli]) | (apply hK; clear hK K) | (clear hK K; apply hK; clear hK K)
    refine ret_pure ?_; simp only [resL_tmp, resL_nil, tupOf, go_sem, hD]
theorem find_o (ob : Nat) (H : Heap) (l : List Sn) (hH : H.find ob = some (.svs (fC r3C l))) (t : ByteArray) (a : List Int) (z : Int) (hl : l.length ≤ 1000000) (hal : a.length ≤ 1000000) (hs : ∀ s ∈ l, s.a.length ≤ 1000000) :
    Ab.Call Tryz.prog 42 [.os ob 0 l.length 3, .agg [Str t, IL a, I64 z]] H (fun r h' => r = I64 (findS t a 0 l) ∧ h' = H) := by
  obtain ⟨R, hR⟩ : ∃ R, R = findS t a 0 l := ⟨_, rfl⟩
  rw [← hR]
  refine Call.enter' (N := 31) (rs := [.tmp 4]) Tryz.func42 rfl rfl rfl (by decide) rfl ?_; simp only [argT]; have hD : (0 : Nat) = 0 := rfl
  repeat' first | (refine SW.seq_k fun K hK => ?_) | (refine SW.block ?_) | ((first | refine SW.region ?_ | (refine allF_i fun b hb => ?_; replace hD := And.intro hb hD; clear hb; try simp only [fresh_cons, fresh_nil, and_true, ne_eq, neF] at hD)); try simp only [go_sem, hD]) | (apply hK; clear hK K)
  obtain ⟨sb, rfl⟩ : ∃ x, x = b := ⟨_, rfl⟩
  have k1 : ¬ sb = ob := fresh_ne_find (by simp [hD]) hH
  obtain ⟨I, hI⟩ : ∃ I : Nat → St → Prop, ∀ k S, I k S ↔ (∃ (i : Nat) , k = l.length - i ∧ i ≤ l.length ∧ R = findS t a i (l.drop i) ∧ S = ⟨[(0, .os ob 0 l.length 3), (3, .op sb 0), (5, I64 i)], (sb, .svs [Str t, IL a, I64 z]) :: H⟩) := ⟨fun k S => _, fun _ _ => Iff.rfl⟩
  refine SW.loop' I (l.length) ((hI _ _).2 ⟨0, rfl, Nat.zero_le _, by rw [List.drop_zero]; exact hR, rfl⟩) (by repeat' (first | exact rfl | exact trivial | constructor)) ?_
  intro k S hIn
  obtain ⟨i, rfl, hi, hC, rfl⟩ := (hI _ _).1 hIn
  clear hIn
  have ie : ((i : Nat) : Int).toNat = i := Int.toNat_natCast _
  have i0 : (0 : Int) ≤ ((i : Nat) : Int) := by omega
  clear hR
  by_cases hlt : i < l.length
  · have hli : ((i : Nat) : Int) < (((l.length) : Nat) : Int) := by omega
    have w1 : IntKind.i64.wrap ((i : Int) + 1) = ((i + 1 : Nat) : Int) := by rw [i64_wrap (by omega) (by omega)]; omega
    rw [findS_step hlt] at hC
    have f0 := fC_get (enc := r3C) (k := 3) (fun _ => rfl) s0 hlt (show 0 < 3 by omega)
    have f1 := fC_get (enc := r3C) (k := 3) (fun _ => rfl) s0 hlt (show 1 < 3 by omega)
    have m0 := fC_lt (enc := r3C) (k := 3) (fun _ => rfl) hlt (show 0 < 3 by omega)
    have m1 := fC_lt (enc := r3C) (k := 3) (fun _ => rfl) hlt (show 1 < 3 by omega)
    have z0 : 0 + i * 3 = i * 3 := Nat.zero_add _
    rw [Nat.add_zero] at f0 m0
    have hsi := hs _ (getD_mem' s0 hlt)
    generalize l.getD i s0 = s at *
    have c := same_r s.a a (by omega) (by omega) a.length rfl (iF a) (fun j hj => rfl)
    obtain ⟨st, sa, x1, x2, x3, x4⟩ := s
    simp only [List.getD_cons_zero, List.getD_cons_succ] at hC c f0 f1
    by_cases e1 : st = t
    · have ee : (st.toList == t.toList) = true := barr_eq.2 e1
      by_cases e2 : sa = a
      · rw [if_pos ⟨e1, e2⟩] at hC
        rw [decide_eq_true e2] at c
        subst hC
        repeat' first | (refine SW.seq_k fun K hK => ?_) | (refine SW.block ?_) | ((first | refine SW.region ?_ | refine SW.regionZ (id := 4) (Checked.mixed Tryz.checked) Go.Ab.zC6_2 (by kernel_rfl) ?_ | refine SW.cond ?_ | refine SW.skip ?_ | refine SW.ret ?_ | refine ⟨_, c, ?_⟩); try simp only [Go.Ab.zC6_2, go_sem, hD, hli, ie, i0, w1, hH, k1, z0, f0, f1, m0, m1, ee]) | (apply hK; clear hK K)
        refine retQ_le (St.le_del' (b := sb) del_head) ?_
        simp only [resL_tmp, resL_nil, tupOf, go_sem, hD]
        try exact ⟨rfl, rfl⟩
      · rw [if_neg (fun x => e2 x.2)] at hC
        rw [decide_eq_false e2] at c
        repeat' first | (refine SW.seq_k fun K hK => ?_) | (refine SW.block ?_) | ((first | refine SW.region ?_ | refine SW.regionZ (id := 4) (Checked.mixed Tryz.checked) Go.Ab.zC6_2 (by kernel_rfl) ?_ | refine SW.cond ?_ | refine SW.skip ?_ | refine ⟨_, c, ?_⟩); try simp only [Go.Ab.zC6_2, go_sem, hD, hli, ie, i0, w1, hH, k1, z0, f0, f1, m0, m1, ee]) | (apply hK; clear hK K)
        refine Rnd.sub (l.length - (i + 1)) (by omega) ((hI _ _).2 ⟨i + 1, rfl, by omega, hC, rfl⟩) (by repeat' (first | exact rfl | exact trivial | constructor))
    · have ee : (st.toList == t.toList) = false := by rw [Bool.eq_false_iff]; exact fun h => e1 (barr_eq.1 h)
      rw [if_neg (fun x => e1 x.1)] at hC
      repeat' first | (refine SW.seq_k fun K hK => ?_) | (refine SW.block ?_) | ((first | refine SW.region ?_ | refine SW.regionZ (id := 4) (Checked.mixed Tryz.checked) Go.Ab.zC6_2 (by kernel_rfl) ?_ | refine SW.cond ?_ | refine SW.skip ?_); try simp only [Go.Ab.zC6_2, go_sem, hD, hli, ie, i0, w1, hH, k1, z0, f0, f1, m0, m1, ee]) | (apply hK; clear hK K)
      refine Rnd.sub (l.length - (i + 1)) (by omega) ((hI _ _).2 ⟨i + 1, rfl, by omega, hC, rfl⟩) (by repeat' (first | exact rfl | exact trivial | constructor))
  · have hli : ¬ ((i : Nat) : Int) < (((l.length) : Nat) : Int) := by omega
    rw [List.drop_of_length_le (by omega)] at hC
    have hC2 : R = -1 := hC
    subst hC2
    repeat' first | (refine SW.seq_k fun K hK => ?_) | ((first | refine SW.region ?_ | refine SW.cond ?_ | refine SW.exit ?_ | refine SW.ret ?_); try simp only [go_sem, hD, hli]) | (apply hK; clear hK K) | (clear hK K; apply hK; clear hK K)
    refine retQ_le (St.le_del' (b := sb) del_head) ?_
    simp only [resL_tmp, resL_nil, tupOf, go_sem, hD]
    try exact ⟨rfl, rfl⟩
end Go.Proofs.YtblfodnajpamfaaGreatDoor
namespace Go.Ab.A15
open Go Go.Ab Go.Ab.A34
theorem nexV_of (s : Sn) (i k : Nat) (d : Dp) : nexV s.t s.a s.st d = match nextS s i k d with
    | none => .tup [.agg [Str ⟨#[]⟩, SN, I64 0], SB false]
    | some s' => .tup [.agg (r3C s'), SB true] := by
  unfold nexV nextS
  by_cases h : s.t = d.f
  · rw [if_pos h, if_pos h]
    cases folI d s.a with
    | none => rfl
    | some q =>
      have e : ((s.st + 1 : Nat) : Int) = (s.st : Int) + 1 := by omega
      simp only [r3C, e]
  · rw [if_neg h, if_neg h]
def OkL (l : List Dp) : Prop := ∀ d ∈ l, d.l.length ≤ 1000000
theorem Ivs.st {l : List Dp} {g : Dp} {out : List Sn} (h : Ivs l g out) : ∀ j, j < out.length → (out.getD j s0).st ≤ j := by
  intro j
  induction j using Nat.strongRecOn with
  | ind j ih =>
    intro hj
    rcases Nat.eq_zero_or_pos j with rfl | h0
    · rw [h.rt]; exact Nat.le_refl 0
    · obtain ⟨b, k, hb, _, _, _, hn⟩ := h.nx j h0 hj
      obtain ⟨_, _, _, _, e5, _⟩ := nextS_bf hn
      have := ih b hb (by omega)
      omega
theorem addS_none {i k : Nat} {d : Dp} {out : List Sn} (h : nextS (out.getD i s0) i k d = none) : addS i k d out = out := by
  unfold addS; rw [h]
theorem addS_old {i k : Nat} {d : Dp} {out : List Sn} {s : Sn} (h : nextS (out.getD i s0) i k d = some s) (hf : 0 ≤ findS s.t s.a 0 out) : addS i k d out = out := by
  unfold addS; rw [h]; exact if_pos hf
theorem addS_new {i k : Nat} {d : Dp} {out : List Sn} {s : Sn} (h : nextS (out.getD i s0) i k d = some s) (hf : ¬ 0 ≤ findS s.t s.a 0 out) : addS i k d out = out ++ [s] := by
  unfold addS; rw [h]; exact if_neg hf
end Go.Ab.A15
def Go.Ab.zC7_1 : Go.Ab.OZ := (.one 0 [0, 2, 3, 8, 9, 10, 11, 13, 14] (.one 1 [1, 2, 3, 8, 9, 10, 11, 13, 14] (.one 2 [2, 3, 8, 9, 10, 11, 13, 14] (.one 3 [3, 8, 9, 10, 11, 13, 14] (.one 4 [4, 6, 7, 8, 9, 10, 11, 13, 14] (.one 5 [5, 6, 7, 8, 9, 10, 11, 13, 14] (.one 6 [6, 7, 8, 9, 10, 11, 13, 14] (.one 7 [7, 8, 9, 10, 11, 13, 14] (.one 8 [8, 9, 10, 11, 13, 14] (.one 9 [9, 10, 11, 13, 14] (.one 10 [10, 13, 14] (.alt 11 (.alt 12 (.alt 13 (.one 14 [14] .done) .nil) .nil) (.alt 12 (.alt 11 (.alt 13 (.one 14 [14] .done) .nil) (.alt 13 (.one 11 [11, 14] (.one 14 [14] .done)) .nil)) .nil)))))))))))))
namespace Go.Proofs.YtblfodnajpamfaaGreatDoor
open Go Go.Ab Go.Ab.A34 Go.Ab.A15
variable [Gl] [Tabs]
theorem states_r (l : List Dp) (g : Dp) (nm : List ByteArray) (hs : Small l g nm) (hok : OkL l) (hll : l.length ≤ 1000000) : PCall Tryz.prog 41 [DpL l, DV g] (.fl (states l g).length 3 (r3F (states l g))) := by
  have hB := hs.bds
  have hfin := (states_ok hB).1
  obtain ⟨F, hF⟩ : ∃ F, F = states l g := ⟨_, rfl⟩
  rw [← hF] at hfin ⊢
  have hFl := hB F hfin
  have hroot := Ivs.root l g
  have hall := fun out (h : Ivs l g out) => h.all hs
  have hst := fun out (h : Ivs l g out) => h.st
  have hadd := fun out i m (h : Ivs l g out) (hi : i < out.length) (hm : m < l.length) => (h.add hi hm).1
  have hg3 := hs.g3
  have hlr := hs.lr
  unfold states at hF
  obtain ⟨rt, hrt⟩ : ∃ rt, rt = root g := ⟨_, rfl⟩
  have hrc : fC r3C [rt] = [Str g.f, IL g.l, I64 0] := by rw [hrt]; rfl
  rw [← hrt] at hF hroot
  clear hrt
  obtain ⟨Q, hQ⟩ : ∃ Q : List Sn → Prop, ∀ o, Q o ↔ Ivs l g o := ⟨_, fun _ => Iff.rfl⟩
  have hBQ : ∀ o, Q o → o.length < 20000 := fun o h => hB o ((hQ o).1 h)
  have hallQ : ∀ o, Q o → ∀ j, j < o.length → (o.getD j s0).a.length ≤ 3 ∧ (o.getD j s0).st ≤ 20000 := fun o h j hj => by
    have h' := (hQ o).1 h
    have := hB o h'
    have h3 := hst o h' j hj
    have h4 := (hall o h' j hj).2.2
    omega
  have haddQ : ∀ o i m, Q o → i < o.length → m < l.length → Q (addS i m (l.getD m d0) o) := fun o i m h hi hm => (hQ _).2 (hadd o i m ((hQ o).1 h) hi hm)
  have hrQ : Q [rt] := (hQ _).2 hroot
  clear hB hfin hall hst hadd hroot hQ hs
  obtain ⟨gf, gl, gt, gr⟩ := g
  simp only at hrc hg3
  refine Call.enter' (N := 52) (rs := [.tmp 4]) Tryz.func41 rfl rfl rfl (by decide) rfl ?_; simp only [argT]; have hD : (0 : Nat) = 0 := rfl
  repeat' first | (refine SW.seq_k fun K hK => ?_) | (refine SW.block ?_) | ((first | refine SW.region ?_ | (refine allF_i fun b hb => ?_; replace hD := And.intro hb hD; clear hb; try simp only [fresh_cons, fresh_nil, and_true, ne_eq, neF] at hD)); try simp only [go_sem, hD, true_implies]) | (apply hK; clear hK K)
  obtain ⟨ob, rfl⟩ : ∃ x, x = b := ⟨_, rfl⟩
  refine Ab.SW.le (St.le_pick [(ob, .svs [Str gf, IL gl, I64 0])] ?_ ?_) ?_
  · repeat' (first | exact (fun x hx => (List.not_mem_nil hx).elim) | refine List.forall_mem_cons.2 ⟨?_, ?_⟩ | exact List.mem_cons_self | apply List.mem_cons_of_mem)
  · simp [fresh_cons, fresh_nil, hD]
  rw [← hrc]
  obtain ⟨I, hI⟩ : ∃ I : Nat → St → Prop, ∀ k S, I k S ↔ (∃ (i : Nat) (out : List Sn) (ob : Nat), k = 20000 - i ∧ i ≤ 20000 ∧ Q out ∧ i ≤ out.length ∧ F = bfs l (20000 - i) i out ∧ S = ⟨[(0, DpL l), (5, .os ob 0 out.length 3), (6, I64 i)], [(ob, .svs (fC r3C out))]⟩) := ⟨fun k S => _, fun _ _ => Iff.rfl⟩
  refine SW.loop' I (20000) ((hI _ _).2 ⟨0, [rt], ob, rfl, Nat.zero_le _, hrQ, (by show 0 ≤ 1; omega), hF, rfl⟩) (by repeat' (first | exact rfl | exact trivial | constructor)) ?_
  intro k S hIn
  obtain ⟨i, out, ob, rfl, hi, hO, hio, hC, rfl⟩ := (hI _ _).1 hIn
  clear hIn
  have ie : ((i : Nat) : Int).toNat = i := Int.toNat_natCast _
  have i0 : (0 : Int) ≤ ((i : Nat) : Int) := by omega
  clear hF hrc
  have hol := hBQ out hO
  by_cases hlt : i < out.length
  · have hli : ((i : Nat) : Int) < ((out.length : Nat) : Int) := by omega
    have w1 : IntKind.i64.wrap ((i : Int) + 1) = ((i + 1 : Nat) : Int) := by rw [i64_wrap (by omega) (by omega)]; omega
    have hF2 : F = bfs l (20000 - (i + 1)) (i + 1) (rndS i 0 (l.drop 0) out) := by
      rw [hC, show 20000 - i = (20000 - (i + 1)) + 1 by omega, bfs, if_pos hlt, List.drop_zero]
    clear hC
    repeat' first | (refine SW.seq_k fun K hK => ?_) | (refine SW.block ?_) | ((first | refine SW.region ?_ | refine SW.cond ?_ | refine SW.skip ?_); try simp only [go_sem, hD, hli, true_implies]) | (apply hK; clear hK K)
    have hIO := hI
    have ow1 := w1
    have oi0 := i0
    have oie := ie
    clear hI
    obtain ⟨I, hI⟩ : ∃ I : Nat → St → Prop, ∀ k S, I k S ↔ (∃ (m : Nat) (out : List Sn) (ob : Nat), k = l.length - m ∧ m ≤ l.length ∧ Q out ∧ i < out.length ∧ F = bfs l (20000 - (i + 1)) (i + 1) (rndS i m (l.drop m) out) ∧ S = ⟨[(0, DpL l), (5, .os ob 0 out.length 3), (6, I64 i), (7, I64 m)], [(ob, .svs (fC r3C out))]⟩) := ⟨fun k S => _, fun _ _ => Iff.rfl⟩
    refine SW.loop' I (l.length) ((hI _ _).2 ⟨0, out, ob, rfl, Nat.zero_le _, hO, hlt, hF2, rfl⟩) (by repeat' (first | exact rfl | exact trivial | constructor)) ?_
    intro k S hIn
    obtain ⟨m, out, ob, rfl, hi, hO, hio, hC, rfl⟩ := (hI _ _).1 hIn
    clear hIn
    have ie : ((m : Nat) : Int).toNat = m := Int.toNat_natCast _
    have i0 : (0 : Int) ≤ ((m : Nat) : Int) := by omega
    clear hF2
    by_cases hlt : m < l.length
    · have hli : ((m : Nat) : Int) < (((l.length) : Nat) : Int) := by omega
      have w1 : IntKind.i64.wrap ((m : Int) + 1) = ((m + 1 : Nat) : Int) := by rw [i64_wrap (by omega) (by omega)]; omega
      rw [rndS_step hlt] at hC
      have hol := hBQ out hO
      have hnx := haddQ out i m hO hio hlt
      have hal := hallQ out hO
      have fi : dpF l m = dC (l.getD m d0) := rfl
      have f0 := fC_get (enc := r3C) (k := 3) (fun _ => rfl) s0 hio (show 0 < 3 by omega)
      have f1 := fC_get (enc := r3C) (k := 3) (fun _ => rfl) s0 hio (show 1 < 3 by omega)
      have f2 := fC_get (enc := r3C) (k := 3) (fun _ => rfl) s0 hio (show 2 < 3 by omega)
      have m2 := fC_lt (enc := r3C) (k := 3) (fun _ => rfl) hio (show 2 < 3 by omega)
      have z0 : 0 + i * 3 = i * 3 := Nat.zero_add _
      have m3 : i * 3 + 3 ≤ (fC r3C out).length := by omega
      rw [Nat.add_zero] at f0
      have ali : ((i : Nat) : Int) < ((out.length : Nat) : Int) := by omega
      have dm := getD_mem' d0 hlt
      have hsi := hal i hio
      have c := next_r (out.getD i s0).t (out.getD i s0).a (out.getD i s0).st (by omega) (l.getD m d0) (hlr _ dm) (hok _ dm) (by omega)
      rw [nexV_of _ i m] at c
      have hsl : ∀ s ∈ out, s.a.length ≤ 1000000 := fun s hs => by
        obtain ⟨j, hj, rfl⟩ := List.getElem_of_mem hs
        have := (hal j hj).1
        rw [show out.getD j s0 = out[j] by simp [List.getD_eq_getElem?_getD, hj]] at this
        omega
      have ba : (out.length + 1) * 32 ≤ 140737488355328 := by omega
      have lc : out.length * 3 = (fC r3C out).length := fC_len (enc := r3C) (k := 3) (fun _ => rfl) out
      cases hn : nextS (out.getD i s0) i m (l.getD m d0) with
      | none =>
        rw [hn] at c
        rw [addS_none hn] at hC
        generalize out.getD i s0 = s at *
        obtain ⟨st, sa, x1, x2, x3, sn⟩ := s
        generalize l.getD m d0 = d at *
        obtain ⟨df, dl, dt, dr⟩ := d
        simp only [List.getD_cons_zero, List.getD_cons_succ] at c f0 f1 f2
        repeat' first | (refine SW.seq_k fun K hK => ?_) | (refine SW.block ?_) | ((first | refine SW.region ?_ | refine SW.regionZ (id := 8) (Checked.mixed Tryz.checked) Go.Ab.zC7_1 (by kernel_rfl) ?_ | refine SW.cond ?_ | refine SW.skip ?_ | refine ⟨_, c, ?_⟩ | (refine allF_i fun b hb => ?_; replace hD := And.intro hb hD; clear hb; try simp only [fresh_cons, fresh_nil, and_true, ne_eq, neF] at hD)); try simp only [Go.Ab.zC7_1, go_sem, hD, hli, ie, i0, w1, fi, f0, f1, f2, m2, m3, z0, ali, oi0, oie, getN, true_implies]) | (apply hK; clear hK K) | (refine And.intro ?_ ?_)
        all_goals
          refine Rnd.le (St.le_only ?_) (Rnd.sub (l.length - (m + 1)) (by omega) ((hI _ _).2 ⟨m + 1, out, ob, rfl, by omega, hO, hio, hC, rfl⟩) (by repeat' (first | exact rfl | exact trivial | constructor)))
          repeat (first | exact List.mem_cons_self | apply List.mem_cons_of_mem)
      | some s' =>
        rw [hn] at c
        have hn3 : s'.a.length ≤ 3 := by
          obtain ⟨_, _, _, _, _, q, e1, e2, _⟩ := nextS_bf hn
          rw [e2, List.length_map, folI_len e1]
          exact hsi.1
        have cf := fun z H hH => find_o ob H out hH s'.t s'.a z (by omega) (by omega) hsl
        by_cases hfd : 0 ≤ findS s'.t s'.a 0 out
        · rw [addS_old hn hfd] at hC
          have nf : ¬ findS s'.t s'.a 0 out < 0 := by omega
          clear hn
          generalize findS s'.t s'.a 0 out = fz at *
          generalize out.getD i s0 = s at *
          obtain ⟨st, sa, x1, x2, x3, sn⟩ := s
          obtain ⟨ut, ua, y1, y2, y3, un⟩ := s'
          generalize l.getD m d0 = d at *
          obtain ⟨df, dl, dt, dr⟩ := d
          simp only [List.getD_cons_zero, List.getD_cons_succ] at c f0 f1 f2 cf
          repeat' first | ((refine Call.mono (cf _ _ (by simp [find_cons, hD])) ?_); (intro r h' hx); (obtain ⟨rfl, rfl⟩ := hx); (simp only [go_sem, hD, nf])) | (refine SW.seq_k fun K hK => ?_) | (refine SW.block ?_) | ((first | refine SW.region ?_ | refine SW.regionZ (id := 8) (Checked.mixed Tryz.checked) Go.Ab.zC7_1 (by kernel_rfl) ?_ | refine SW.cond ?_ | refine SW.skip ?_ | refine ⟨_, c, ?_⟩ | (refine allF_i fun b hb => ?_; replace hD := And.intro hb hD; clear hb; try simp only [fresh_cons, fresh_nil, and_true, ne_eq, neF] at hD)); try simp only [Go.Ab.zC7_1, go_sem, hD, hli, ie, i0, w1, fi, f0, f1, f2, m2, m3, z0, ali, oi0, oie, getN, nf, true_implies]) | (apply hK; clear hK K) | (refine And.intro ?_ ?_)
          all_goals
            refine Rnd.le (St.le_only ?_) (Rnd.sub (l.length - (m + 1)) (by omega) ((hI _ _).2 ⟨m + 1, out, ob, rfl, by omega, hO, hio, hC, rfl⟩) (by repeat' (first | exact rfl | exact trivial | constructor)))
            repeat (first | exact List.mem_cons_self | apply List.mem_cons_of_mem)
        · rw [addS_new hn hfd] at hC hnx
          have nf : findS s'.t s'.a 0 out < 0 := by omega
          have hsn : fC r3C (out ++ [s']) = fC r3C out ++ r3C s' := (fC_snoc out s').symm
          have hln : (out ++ [s']).length = out.length + 1 := by rw [List.length_append]; rfl
          clear hn
          generalize findS s'.t s'.a 0 out = fz at *
          generalize out.getD i s0 = s at *
          obtain ⟨st, sa, x1, x2, x3, sn⟩ := s
          obtain ⟨ut, ua, y1, y2, y3, un⟩ := s'
          generalize l.getD m d0 = d at *
          obtain ⟨df, dl, dt, dr⟩ := d
          simp only [List.getD_cons_zero, List.getD_cons_succ] at c f0 f1 f2 cf hsn
          repeat' first | ((refine Call.mono (cf _ _ (by simp [find_cons, hD])) ?_); (intro r h' hx); (obtain ⟨rfl, rfl⟩ := hx); (simp only [go_sem, hD, nf])) | (with_reducible refine And.intro (by omega) ?_) | (refine SW.seq_k fun K hK => ?_) | (refine SW.block ?_) | ((first | refine SW.region ?_ | refine SW.regionZ (id := 8) (Checked.mixed Tryz.checked) Go.Ab.zC7_1 (by kernel_rfl) ?_ | refine SW.cond ?_ | refine SW.skip ?_ | refine ⟨_, c, ?_⟩ | (refine allF_i fun b hb => ?_; replace hD := And.intro hb hD; clear hb; try simp only [fresh_cons, fresh_nil, and_true, ne_eq, neF] at hD) | simp only [appK, appOsK]); try simp only [Go.Ab.zC7_1, go_sem, hD, hli, ie, i0, w1, fi, f0, f1, f2, m2, m3, z0, ali, oi0, oie, getN, nf, ba, lc, true_implies]) | (apply hK; clear hK K) | (refine And.intro ?_ ?_)
          all_goals
            obtain ⟨c1, rfl⟩ : ∃ x, x = b := ⟨_, rfl⟩
            rw [← hln]
            (first | rw [show fC r3C out ++ [Str ut, IL ua, I64 un] = fC r3C (out ++ [⟨ut, ua, y1, y2, y3, un⟩]) from hsn.symm] | skip)
            refine Rnd.le (St.le_only ?_) (Rnd.sub (l.length - (m + 1)) (by omega) ((hI _ _).2 ⟨m + 1, out ++ [⟨ut, ua, y1, y2, y3, un⟩], c1, rfl, by omega, hnx, (by omega), hC, rfl⟩) (by repeat' (first | exact rfl | exact trivial | constructor)))
            repeat (first | exact List.mem_cons_self | apply List.mem_cons_of_mem)
    · have hli : ¬ ((m : Nat) : Int) < (((l.length) : Nat) : Int) := by omega
      rw [List.drop_of_length_le (by omega)] at hC
      have hC2 : F = bfs l (20000 - (i + 1)) (i + 1) out := hC
      repeat' first | (refine SW.seq_k fun K hK => ?_) | ((first | refine SW.region ?_ | refine SW.cond ?_ | refine SW.exit ?_); try simp only [go_sem, hD, hli, ow1]) | (apply hK; clear hK K) | (clear hK K; apply hK; clear hK K)
      refine Rnd.sub (20000 - (i + 1)) (by omega) ((hIO _ _).2 ⟨i + 1, out, ob, rfl, by omega, hO, by omega, hC2, rfl⟩) (by repeat' (first | exact rfl | exact trivial | constructor))
  · have hli : ¬ ((i : Nat) : Int) < ((out.length : Nat) : Int) := by omega
    have hF2 : F = out := by
      rw [hC, show 20000 - i = (20000 - (i + 1)) + 1 by omega, bfs, if_neg hlt]
    subst hF2
    repeat' first | (refine SW.seq_k fun K hK => ?_) | ((first | refine SW.region ?_ | refine SW.cond ?_ | refine SW.exit ?_ | refine SW.ret ?_); try simp only [go_sem, hD, hli, true_implies]) | (apply hK; clear hK K) | (clear hK K; apply hK; clear hK K)
    refine retQ_le (St.le_freeze (i := 4) (b := ob) (off := 0) (len := F.length) (sz := 3) (k := .svs (fC r3C F)) rfl (by rw [find_cons, if_pos rfl]) (by show 0 + F.length * 3 ≤ (fC r3C F).length; rw [← fC_len (enc := r3C) (k := 3) (fun _ => rfl)]; omega) (r3F F) (fun j hj => ?_)) ?_
    · rw [getN_take _ _ _ (by show 0 + j * 3 + 3 ≤ (fC r3C F).length; have := fC_lt (enc := r3C) (k := 3) (fun _ => rfl) hj (show 2 < 3 by omega); omega), Nat.zero_add]
      exact fC_at (enc := r3C) (k := 3) (fun _ => rfl) s0 F j hj
    · simp only [resL_tmp, resL_nil, tupOf, del_cons, go_sem, hD]
theorem dist_r (l : List Dp) (g : Dp) (nm : List ByteArray) (hs : Small l g nm) (hok : OkL l) (hll : l.length ≤ 1000000) (hgr : g.r.length ≤ 1000000) : PCall Tryz.prog 14 [DpL l, DV g] (I64 (distS l g)) := by
  have cs := states_r l g nm hs hok hll
  have hB := hs.bds
  have hfin := (states_ok hB).1
  have hFl := hB _ hfin
  have hall := hfin.all hs
  have hg3 := hs.g3
  have hsl : ∀ s ∈ states l g, s.a.length ≤ 1000000 := fun s hs => by
    obtain ⟨j, hj, rfl⟩ := List.getElem_of_mem hs
    have := (hall j hj).2.2
    rw [show (states l g).getD j s0 = (states l g)[j] by simp [List.getD_eq_getElem?_getD, hj]] at this
    omega
  have cf := find_r (states l g) g.t g.r 0 (by omega) hgr hsl
  have his := @findS_is g.t g.r (states l g) 0
  unfold distS
  generalize states l g = F at *
  obtain ⟨z, hz⟩ : ∃ z, findS g.t g.r 0 F = z := ⟨_, rfl⟩
  rw [hz] at cf his ⊢
  obtain ⟨gf, gl, gt, gr⟩ := g
  simp only at cf
  by_cases hn : z < 0
  · rw [if_pos hn]
    refine Call.enter' (N := 24) (rs := [.tmp 4]) Tryz.func14 rfl rfl rfl (by decide) rfl ?_; simp only [argT]; have hD : (0 : Nat) = 0 := rfl
    repeat' first | (refine SW.seq_k fun K hK => ?_) | ((first | refine SW.region ?_ | refine SW.cond ?_ | refine SW.ret ?_ | refine Call.of_pure (cs) ?_ | refine Call.of_pure (cf) ?_ | (refine allF_i fun b hb => ?_; replace hD := And.intro hb hD; clear hb; try simp only [fresh_cons, fresh_nil, and_true, ne_eq, neF] at hD)); try simp only [go_sem, hD, hn]) | (apply hK; clear hK K)
    refine ret_pure ?_; simp only [resL_tmp, resL_nil, tupOf, go_sem, hD]
  · rw [if_neg hn]
    obtain ⟨j, e1, e2, _⟩ := his (by omega)
    have j0 : (0 : Int) ≤ z := by omega
    have jl : z < ((F.length : Nat) : Int) := by omega
    have fj : r3F F z.toNat = r3C (F.getD z.toNat s0) := rfl
    generalize F.getD z.toNat s0 = s at *
    obtain ⟨st, sa, x1, x2, x3, sn⟩ := s
    refine Call.enter' (N := 24) (rs := [.tmp 4]) Tryz.func14 rfl rfl rfl (by decide) rfl ?_; simp only [argT]; have hD : (0 : Nat) = 0 := rfl
    repeat' first | (refine SW.seq_k fun K hK => ?_) | ((first | refine SW.region ?_ | refine SW.cond ?_ | refine SW.skip ?_ | refine SW.ret ?_ | refine Call.of_pure (cs) ?_ | refine Call.of_pure (cf) ?_ | (refine allF_i fun b hb => ?_; replace hD := And.intro hb hD; clear hb; try simp only [fresh_cons, fresh_nil, and_true, ne_eq, neF] at hD)); try simp only [go_sem, hD, hn, j0, jl, fj]) | (apply hK; clear hK K)
    refine ret_pure ?_; simp only [resL_tmp, resL_nil, tupOf, go_sem, hD]
end Go.Proofs.YtblfodnajpamfaaGreatDoor
namespace Go.Ab.A15
open Go Go.Ab Go.Ab.A34
def s5F (l : List Sn) (i : Nat) : List SV := sC (l.getD i s0)
theorem folV_of (s : Sn) (i k : Nat) (d : Dp) : folV s.t s.a k d = match nextS s i k d with
    | none => .tup [.agg [Str ⟨#[]⟩, SN, I64 0, I64 0, SN], SB false]
    | some s' => .tup [.agg [Str s'.t, IL s'.a, I64 0, I64 k, IL s'.ps], SB true] := by
  unfold folV nextS
  by_cases h : s.t = d.f
  · rw [if_pos h, if_pos h]
    cases folI d s.a with
    | none => rfl
    | some q => rfl
  · rw [if_neg h, if_neg h]
theorem findS_m1 {t : ByteArray} {a : List Int} : ∀ {l : List Sn} {i : Nat}, findS t a i l < 0 → findS t a i l = -1
  | [], i, _ => rfl
  | y :: l, i, h => by
    unfold findS at h ⊢
    by_cases h1 : y.t = t ∧ y.a = a
    · rw [if_pos h1] at h; omega
    · rw [if_neg h1] at h ⊢; exact findS_m1 h
theorem name_size {l : List UInt8} (h : nameB l = true) : l.length ≤ 24 := by
  cases l with
  | nil => simp
  | cons c r =>
    unfold nameB at h
    simp only [Bool.and_eq_true, decide_eq_true_eq] at h
    exact h.1.1.1
theorem nm_size {t : ByteArray} (h : nameB t.data.toList = true) : t.size ≤ 24 := by
  have := name_size h
  rwa [Array.length_toList] at this
end Go.Ab.A15
def Go.Ab.zC8_1 : Go.Ab.OZ := (.one 0 [0, 2, 3, 6, 7, 8, 9, 11, 12] (.one 1 [1, 2, 3, 6, 7, 8, 9, 11, 12] (.one 2 [2, 3, 6, 7, 8, 9, 11, 12] (.one 3 [3, 6, 7, 8, 9, 11, 12] (.one 4 [4, 6, 7, 8, 9, 11, 12] (.one 5 [5, 6, 7, 8, 9, 11, 12] (.one 6 [6, 7, 8, 9, 11, 12] (.one 7 [7, 8, 9, 11, 12] (.one 8 [8, 11, 12] (.alt 9 (.alt 10 (.alt 11 (.one 12 [12] .done) .nil) .nil) (.alt 10 (.alt 9 (.alt 11 (.one 12 [12] .done) .nil) (.alt 11 (.one 9 [9, 12] (.one 12 [12] .done)) .nil)) .nil)))))))))))
namespace Go.Proofs.YtblfodnajpamfaaGreatDoor
open Go Go.Ab Go.Ab.A34 Go.Ab.A15
variable [Gl] [Tabs]
theorem states_p (l : List Dp) (g : Dp) (nm : List ByteArray) (hs : Small l g nm) (hnm : ∀ t ∈ nm, nameB t.data.toList = true) (hok : OkL l) (hll : l.length ≤ 1000000) (hgt : g.t ∈ nm) (hgr : In16 g.r) (hgrl : g.r.length ≤ 1000) :
    PCall Tryz.prog 39 [DpL l, DV g] (.tup [.fl (states l g).length 5 (s5F (states l g)), I64 (findS g.t g.r 0 (states l g)), I64 0]) := by
  have hB := hs.bds
  have hfin := (states_ok hB).1
  obtain ⟨F, hF⟩ : ∃ F, F = states l g := ⟨_, rfl⟩
  rw [← hF] at hfin ⊢
  have hFl := hB F hfin
  have hroot := Ivs.root l g
  have hall := fun out (h : Ivs l g out) => h.all hs
  have hadd := fun out i m (h : Ivs l g out) (hi : i < out.length) (hm : m < l.length) => (h.add hi hm).1
  have hg3 := hs.g3
  have hlr := hs.lr
  have hlt' := hs.lt
  have hr16 := hs.r16
  unfold states at hF
  have ngt := hnm _ hgt
  have cen := name_p g.t g.r 0 0 SN rfl (by have := nm_size ngt; omega) hgr hgrl
  have ngf := hnm _ hs.gf
  have cro := name_p g.f g.l (-1) 0 SN rfl (by have := nm_size ngf; omega) hs.gl (by omega)
  have ms0 : mset (.string (nameS g.f g.l)) (.int .i64 0) [] none = mapF 0 [root g] := rfl
  have mf0 : ∀ a, mfI .s a [] 0 = some none := fun _ => rfl
  obtain ⟨rt, hrt⟩ : ∃ rt, rt = root g := ⟨_, rfl⟩
  have hrc : fC sC [rt] = [Str g.f, IL g.l, I64 (-1), I64 0, IL []] := by rw [hrt]; rfl
  rw [← hrt] at hF hroot ms0
  clear hrt
  obtain ⟨Q, hQ⟩ : ∃ Q : List Sn → Prop, ∀ o, Q o ↔ Ivs l g o := ⟨_, fun _ => Iff.rfl⟩
  have hBQ : ∀ o, Q o → o.length < 20000 := fun o h => hB o ((hQ o).1 h)
  have hallQ : ∀ o, Q o → ∀ j, j < o.length → (o.getD j s0).a.length ≤ 3 ∧ In16 (o.getD j s0).a ∧ nameB (o.getD j s0).t.data.toList = true := fun o h j hj => by
    have h' := (hQ o).1 h
    have h4 := hall o h' j hj
    exact ⟨by omega, h4.2.1, hnm _ h4.1⟩
  have hmem : ∀ o, Q o → ∀ s ∈ o, nameB s.t.data.toList = true ∧ In16 s.a := fun o h s hs => by
    obtain ⟨j, hj, rfl⟩ := List.getElem_of_mem hs
    have := hallQ o h j hj
    rw [show o.getD j s0 = o[j] by simp [List.getD_eq_getElem?_getD, hj]] at this
    exact ⟨this.2.2, this.2.1⟩
  have haddQ : ∀ o i m, Q o → i < o.length → m < l.length → Q (addS i m (l.getD m d0) o) := fun o i m h hi hm => (hQ _).2 (hadd o i m ((hQ o).1 h) hi hm)
  have hrQ : Q [rt] := (hQ _).2 hroot
  have hFQ : Q F := (hQ _).2 hfin
  have mfe := mfI_find ngt hgr F 0 (hmem F hFQ)
  clear hB hfin hall hadd hroot hQ hs
  obtain ⟨gf, gl, gt, gr⟩ := g
  simp only at hrc hg3 cen cro ms0 mfe ngt hgr
  refine Call.enter' (N := 95) (rs := [.tmp 4, .tmp 5, .tmp 6]) Tryz.func39 rfl rfl rfl (by decide) rfl ?_; simp only [argT]; have hD : (0 : Nat) = 0 := rfl
  repeat' first | (with_reducible refine And.intro (by omega) ?_) | (refine SW.seq_k fun K hK => ?_) | (refine SW.block ?_) | ((first | refine SW.region ?_ | refine Call.of_pure (cen) ?_ | refine Call.of_pure (cro) ?_ | (refine allF_i fun b hb => ?_; replace hD := And.intro hb hD; clear hb; try simp only [fresh_cons, fresh_nil, and_true, ne_eq, neF] at hD)); try simp only [go_sem, hD, ms0, mf0, true_implies]) | (apply hK; clear hK K)
  obtain ⟨mb, rfl⟩ : ∃ x, x = b := ⟨_, rfl⟩
  obtain ⟨ob, rfl⟩ : ∃ x, x = b := ⟨_, rfl⟩
  have e1 : ¬ mb = ob := by simp [hD]
  have e2 : ¬ ob = mb := by simp [hD]
  refine Ab.SW.le (St.le_pick [(mb, .mp (mapF 0 [rt])), (ob, .svs [Str gf, IL gl, I64 (-1), I64 0, SN])] ?_ ?_) ?_
  · repeat' (first | exact (fun x hx => (List.not_mem_nil hx).elim) | refine List.forall_mem_cons.2 ⟨?_, ?_⟩ | exact List.mem_cons_self | apply List.mem_cons_of_mem)
  · simp [fresh_cons, fresh_nil, hD]
  refine Ab.SW.le (St.le_nilC (c := ob) (j := 4) (sz := 1) (f := iF []) (by rw [find_cons, if_neg e1, find_cons, if_pos rfl]) (by show 4 < 5; omega) rfl) ?_
  rw [upd_cons, if_neg e1, upd_cons, if_pos rfl]
  rw [show [Str gf, IL gl, I64 (-1), I64 0, SN].set 4 (.fl 0 1 (iF [])) = fC sC [rt] from hrc.symm]
  obtain ⟨I, hI⟩ : ∃ I : Nat → St → Prop, ∀ k S, I k S ↔ (∃ (i : Nat) (out : List Sn) (ob : Nat), k = 20000 - i ∧ i ≤ 20000 ∧ Q out ∧ i ≤ out.length ∧ F = bfs l (20000 - i) i out ∧ ¬ mb = ob ∧ ¬ ob = mb ∧ S = ⟨[(0, DpL l), (7, .os ob 0 out.length 5), (8, Str (nameS gt gr)), (9, .mp mb), (10, I64 i)], [(mb, .mp (mapF 0 out)), (ob, .svs (fC sC out))]⟩) := ⟨fun k S => _, fun _ _ => Iff.rfl⟩
  refine SW.loop' I (20000) ((hI _ _).2 ⟨0, [rt], ob, rfl, Nat.zero_le _, hrQ, (by show 0 ≤ 1; omega), hF, e1, e2, rfl⟩) (by repeat' (first | exact rfl | exact trivial | constructor)) ?_
  intro k S hIn
  obtain ⟨i, out, ob, rfl, hi, hO, hio, hC, e1, e2, rfl⟩ := (hI _ _).1 hIn
  clear hIn
  have ie : ((i : Nat) : Int).toNat = i := Int.toNat_natCast _
  have i0 : (0 : Int) ≤ ((i : Nat) : Int) := by omega
  clear hF hrc
  have hol := hBQ out hO
  by_cases hlt : i < out.length
  · have hli : ((i : Nat) : Int) < ((out.length : Nat) : Int) := by omega
    have w1 : IntKind.i64.wrap ((i : Int) + 1) = ((i + 1 : Nat) : Int) := by rw [i64_wrap (by omega) (by omega)]; omega
    have hF2 : F = bfs l (20000 - (i + 1)) (i + 1) (rndS i 0 (l.drop 0) out) := by
      rw [hC, show 20000 - i = (20000 - (i + 1)) + 1 by omega, bfs, if_pos hlt, List.drop_zero]
    clear hC
    have hD := And.intro (eq_false e1) (eq_false e2)
    repeat' first | (refine SW.seq_k fun K hK => ?_) | (refine SW.block ?_) | ((first | refine SW.region ?_ | refine SW.cond ?_ | refine SW.skip ?_); try simp only [go_sem, hD, hli, true_implies]) | (apply hK; clear hK K)
    have hIO := hI
    have ow1 := w1
    have oi0 := i0
    have oie := ie
    clear hI
    obtain ⟨I, hI⟩ : ∃ I : Nat → St → Prop, ∀ k S, I k S ↔ (∃ (m : Nat) (out : List Sn) (ob : Nat), k = l.length - m ∧ m ≤ l.length ∧ Q out ∧ i < out.length ∧ F = bfs l (20000 - (i + 1)) (i + 1) (rndS i m (l.drop m) out) ∧ ¬ mb = ob ∧ ¬ ob = mb ∧ S = ⟨[(0, DpL l), (7, .os ob 0 out.length 5), (8, Str (nameS gt gr)), (9, .mp mb), (10, I64 i), (43, DpL l), (44, I64 l.length), (45, I64 m)], [(mb, .mp (mapF 0 out)), (ob, .svs (fC sC out))]⟩) := ⟨fun k S => _, fun _ _ => Iff.rfl⟩
    refine SW.loop' I (l.length) ((hI _ _).2 ⟨0, out, ob, rfl, Nat.zero_le _, hO, hlt, hF2, e1, e2, rfl⟩) (by repeat' (first | exact rfl | exact trivial | constructor)) ?_
    intro k S hIn
    obtain ⟨m, out, ob, rfl, hi, hO, hio, hC, e1, e2, rfl⟩ := (hI _ _).1 hIn
    clear hIn
    have ie : ((m : Nat) : Int).toNat = m := Int.toNat_natCast _
    have i0 : (0 : Int) ≤ ((m : Nat) : Int) := by omega
    clear hF2
    have hD := And.intro (eq_false e1) (eq_false e2)
    by_cases hlt : m < l.length
    · have hli : ((m : Nat) : Int) < (((l.length) : Nat) : Int) := by omega
      have w1 : IntKind.i64.wrap ((m : Int) + 1) = ((m + 1 : Nat) : Int) := by rw [i64_wrap (by omega) (by omega)]; omega
      rw [rndS_step hlt] at hC
      have hol := hBQ out hO
      have hnx := haddQ out i m hO hio hlt
      have hal := hallQ out hO
      have fi : dpF l m = dC (l.getD m d0) := rfl
      have f0 := fC_get (enc := sC) (k := 5) (fun _ => rfl) s0 hio (show 0 < 5 by omega)
      have f1 := fC_get (enc := sC) (k := 5) (fun _ => rfl) s0 hio (show 1 < 5 by omega)
      have f2 := fC_get (enc := sC) (k := 5) (fun _ => rfl) s0 hio (show 2 < 5 by omega)
      have f3 := fC_get (enc := sC) (k := 5) (fun _ => rfl) s0 hio (show 3 < 5 by omega)
      have f4 := fC_get (enc := sC) (k := 5) (fun _ => rfl) s0 hio (show 4 < 5 by omega)
      have m2 := fC_lt (enc := sC) (k := 5) (fun _ => rfl) hio (show 4 < 5 by omega)
      have z0 : 0 + i * 5 = i * 5 := Nat.zero_add _
      have m3 : i * 5 + 5 ≤ (fC sC out).length := by omega
      rw [Nat.add_zero] at f0
      have ali : ((i : Nat) : Int) < ((out.length : Nat) : Int) := by omega
      have ne20 : ¬ ((out.length : Nat) : Int) = 20000 := by omega
      have dm := getD_mem' d0 hlt
      have hsi := hal i hio
      have c := follow_p (out.getD i s0).t (out.getD i s0).a (out.getD i s0).bf (out.getD i s0).ix (IL (out.getD i s0).ps) rfl m (l.getD m d0) (hlr _ dm) (hok _ dm) (by omega)
      rw [folV_of _ i m] at c
      have ba : (out.length + 1) * 64 ≤ 140737488355328 := by omega
      have lc : out.length * 5 = (fC sC out).length := fC_len (enc := sC) (k := 5) (fun _ => rfl) out
      have hr16m := hr16 _ dm
      have hlrm := hlr _ dm
      have hltm := hnm _ (hlt' _ dm)
      cases hn : nextS (out.getD i s0) i m (l.getD m d0) with
      | none =>
        rw [hn] at c
        rw [addS_none hn] at hC
        generalize out.getD i s0 = s at *
        obtain ⟨st, sa, x1, x2, x3, sn⟩ := s
        generalize l.getD m d0 = d at *
        obtain ⟨df, dl, dt, dr⟩ := d
        simp only [List.getD_cons_zero, List.getD_cons_succ] at c f0 f1 f2 f3 f4
        repeat' first | (refine SW.seq_k fun K hK => ?_) | (refine SW.block ?_) | ((first | refine SW.region ?_ | refine SW.regionZ (id := 10) (Checked.mixed Tryz.checked) Go.Ab.zC8_1 (by kernel_rfl) ?_ | refine SW.cond ?_ | refine SW.skip ?_ | refine SW.exit ?_ | refine ⟨_, c, ?_⟩ | (refine allF_i fun b hb => ?_; replace hD := And.intro hb hD; clear hb; try simp only [fresh_cons, fresh_nil, and_true, ne_eq, neF] at hD)); try simp only [Go.Ab.zC8_1, go_sem, hD, hli, ie, i0, w1, fi, f0, f1, f2, f3, f4, m2, m3, z0, ali, oi0, oie, getN, true_implies]) | (apply hK; clear hK K) | (clear hK K; apply hK; clear hK K) | (refine And.intro ?_ ?_)
        all_goals
          refine Rnd.le (St.le_pick _ ?_ ?_) (Rnd.sub (l.length - (m + 1)) (by omega) ((hI _ _).2 ⟨m + 1, out, ob, rfl, by omega, hO, hio, hC, e1, e2, rfl⟩) (by repeat' (first | exact rfl | exact trivial | constructor)))
          · repeat' (first | exact (fun x hx => (List.not_mem_nil hx).elim) | refine List.forall_mem_cons.2 ⟨?_, ?_⟩ | exact List.mem_cons_self | apply List.mem_cons_of_mem)
          · simp [fresh_cons, fresh_nil, hD]
      | some s' =>
        rw [hn] at c
        obtain ⟨b1, b2, b3, b4, b5, q, q1, q2, q3⟩ := nextS_bf hn
        have hn3 : s'.a.length ≤ 3 := by rw [q2, List.length_map, folI_len q1]; exact hsi.1
        have hn16 : In16 s'.a := fun x hx => by
          rw [q2] at hx
          obtain ⟨p, hp, rfl⟩ := List.mem_map.1 hx
          obtain ⟨j, _, hj, e⟩ := folI_mem q1 p hp
          rw [e]
          exact hr16m _ (getD_mem' 0 (by rw [← hlrm]; exact hj))
        have hnt : nameB s'.t.data.toList = true := by rw [b3]; exact hltm
        have cn := fun z1 z2 => name_p s'.t s'.a z1 z2 (IL s'.ps) rfl (by have := nm_size hnt; omega) hn16 (by omega)
        have mfk := mfI_find hnt hn16 out 0 (hmem out hO)
        by_cases hfd : 0 ≤ findS s'.t s'.a 0 out
        · rw [addS_old hn hfd] at hC
          unfold mres at mfk
          rw [if_neg (by omega)] at mfk
          clear hn q1 q2 q3 b3 b4 b5
          generalize nameS s'.t s'.a = nmv at *
          generalize findS s'.t s'.a 0 out = fz at *
          generalize out.getD i s0 = s at *
          obtain ⟨st, sa, x1, x2, x3, sn⟩ := s
          obtain ⟨ut, ua, y1, y2, y3, un⟩ := s'
          generalize l.getD m d0 = d at *
          obtain ⟨df, dl, dt, dr⟩ := d
          simp only [List.getD_cons_zero, List.getD_cons_succ] at c f0 f1 f2 f3 f4 cn
          repeat' first | (refine SW.seq_k fun K hK => ?_) | (refine SW.block ?_) | ((first | refine SW.region ?_ | refine SW.regionZ (id := 10) (Checked.mixed Tryz.checked) Go.Ab.zC8_1 (by kernel_rfl) ?_ | refine SW.cond ?_ | refine SW.skip ?_ | refine SW.exit ?_ | refine ⟨_, c, ?_⟩ | refine Call.of_pure (cn _ _) ?_ | (refine allF_i fun b hb => ?_; replace hD := And.intro hb hD; clear hb; try simp only [fresh_cons, fresh_nil, and_true, ne_eq, neF] at hD)); try simp only [Go.Ab.zC8_1, go_sem, hD, hli, ie, i0, w1, fi, f0, f1, f2, f3, f4, m2, m3, z0, ali, oi0, oie, getN, mfk, true_implies]) | (apply hK; clear hK K) | (clear hK K; apply hK; clear hK K) | (refine And.intro ?_ ?_)
          all_goals
            refine Rnd.le (St.le_pick _ ?_ ?_) (Rnd.sub (l.length - (m + 1)) (by omega) ((hI _ _).2 ⟨m + 1, out, ob, rfl, by omega, hO, hio, hC, e1, e2, rfl⟩) (by repeat' (first | exact rfl | exact trivial | constructor)))
            · repeat' (first | exact (fun x hx => (List.not_mem_nil hx).elim) | refine List.forall_mem_cons.2 ⟨?_, ?_⟩ | exact List.mem_cons_self | apply List.mem_cons_of_mem)
            · simp [fresh_cons, fresh_nil, hD]
        · rw [addS_new hn hfd] at hC hnx
          unfold mres at mfk
          rw [if_pos (by omega)] at mfk
          have hsn : fC sC (out ++ [s']) = fC sC out ++ sC s' := (fC_snoc out s').symm
          have hln : (out ++ [s']).length = out.length + 1 := by rw [List.length_append]; rfl
          have mst : mset (.string (nameS s'.t s'.a)) (.int .i64 (out.length : Nat)) (mapF 0 out) none = mapF 0 (out ++ [s']) := by
            rw [mapF_app, Nat.zero_add]
            rfl
          clear hn q1 q2 q3 b3 b4 b5
          generalize nameS s'.t s'.a = nmv at *
          generalize findS s'.t s'.a 0 out = fz at *
          generalize out.getD i s0 = s at *
          obtain ⟨st, sa, x1, x2, x3, sn⟩ := s
          obtain ⟨ut, ua, y1, y2, y3, un⟩ := s'
          simp only at b1 b2
          have b2' := b2.symm
          subst b1 b2'
          generalize l.getD m d0 = d at *
          obtain ⟨df, dl, dt, dr⟩ := d
          simp only [List.getD_cons_zero, List.getD_cons_succ] at c f0 f1 f2 f3 f4 cn hsn
          repeat' first | (with_reducible refine And.intro (by omega) ?_) | (refine SW.seq_k fun K hK => ?_) | (refine SW.block ?_) | ((first | refine SW.region ?_ | refine SW.regionZ (id := 10) (Checked.mixed Tryz.checked) Go.Ab.zC8_1 (by kernel_rfl) ?_ | refine SW.cond ?_ | refine SW.skip ?_ | refine ⟨_, c, ?_⟩ | refine Call.of_pure (cn _ _) ?_ | (refine allF_i fun b hb => ?_; replace hD := And.intro hb hD; clear hb; try simp only [fresh_cons, fresh_nil, and_true, ne_eq, neF] at hD) | simp only [appK, appOsK]); try simp only [Go.Ab.zC8_1, go_sem, hD, hli, ie, i0, w1, fi, f0, f1, f2, f3, f4, m2, m3, z0, ali, oi0, oie, getN, mfk, mst, ne20, ba, lc, true_implies]) | (apply hK; clear hK K) | (refine And.intro ?_ ?_)
          all_goals
            obtain ⟨c1, rfl⟩ : ∃ x, x = b := ⟨_, rfl⟩
            have e3 : ¬ mb = c1 := by simp [hD]
            have e4 : ¬ c1 = mb := by simp [hD]
            rw [← hln]
            (first | rw [show fC sC out ++ [Str ut, IL ua, I64 i, I64 m, IL y3] = fC sC (out ++ [⟨ut, ua, i, m, y3, un⟩]) from hsn.symm] | skip)
            refine Rnd.le (St.le_pick _ ?_ ?_) (Rnd.sub (l.length - (m + 1)) (by omega) ((hI _ _).2 ⟨m + 1, out ++ [⟨ut, ua, i, m, y3, un⟩], c1, rfl, by omega, hnx, (by omega), hC, e3, e4, rfl⟩) (by repeat' (first | exact rfl | exact trivial | constructor)))
            · repeat' (first | exact (fun x hx => (List.not_mem_nil hx).elim) | refine List.forall_mem_cons.2 ⟨?_, ?_⟩ | exact List.mem_cons_self | apply List.mem_cons_of_mem)
            · simp [fresh_cons, fresh_nil, hD]
    · have hli : ¬ ((m : Nat) : Int) < (((l.length) : Nat) : Int) := by omega
      rw [List.drop_of_length_le (by omega)] at hC
      have hC2 : F = bfs l (20000 - (i + 1)) (i + 1) out := hC
      repeat' first | (refine SW.seq_k fun K hK => ?_) | ((first | refine SW.region ?_ | refine SW.cond ?_ | refine SW.exit ?_); try simp only [go_sem, hD, hli, ow1]) | (apply hK; clear hK K) | (clear hK K; apply hK; clear hK K)
      refine Rnd.sub (20000 - (i + 1)) (by omega) ((hIO _ _).2 ⟨i + 1, out, ob, rfl, by omega, hO, by omega, hC2, e1, e2, rfl⟩) (by repeat' (first | exact rfl | exact trivial | constructor))
  · have hli : ¬ ((i : Nat) : Int) < ((out.length : Nat) : Int) := by omega
    have hF2 : F = out := by
      rw [hC, show 20000 - i = (20000 - (i + 1)) + 1 by omega, bfs, if_neg hlt]
    subst hF2
    have hD := And.intro (eq_false e1) (eq_false e2)
    have hz : findS gt gr 0 F < 0 → findS gt gr 0 F = -1 := findS_m1
    generalize findS gt gr 0 F = z at *
    unfold mres at mfe
    by_cases hzn : z < 0
    · rw [if_pos hzn] at mfe
      have hz1 := hz hzn
      repeat' first | (refine SW.seq_k fun K hK => ?_) | ((first | refine SW.region ?_ | refine SW.cond ?_ | refine SW.exit ?_ | refine SW.ret ?_); try simp only [go_sem, hD, hli, mfe, true_implies]) | (apply hK; clear hK K) | (clear hK K; apply hK; clear hK K)
      refine retQ_le ((St.le_freeze (i := 4) (b := ob) (off := 0) (len := F.length) (sz := 5) (k := .svs (fC sC F)) rfl (by rw [find_cons, if_neg e1, find_cons, if_pos rfl]) (by show 0 + F.length * 5 ≤ (fC sC F).length; rw [← fC_len (enc := sC) (k := 5) (fun _ => rfl)]; omega) (s5F F) (fun j hj => ?_)).trans St.le_drop) ?_
      · rw [getN_take _ _ _ (by show 0 + j * 5 + 5 ≤ (fC sC F).length; have := fC_lt (enc := sC) (k := 5) (fun _ => rfl) hj (show 4 < 5 by omega); omega), Nat.zero_add]
        exact fC_at (enc := sC) (k := 5) (fun _ => rfl) s0 F j hj
      · simp only [resL_tmp, resL_nil, tupOf, go_sem, hD]
        first | rw [hz1] | skip
    · rw [if_neg hzn] at mfe
      repeat' first | (refine SW.seq_k fun K hK => ?_) | ((first | refine SW.region ?_ | refine SW.cond ?_ | refine SW.skip ?_ | refine SW.exit ?_ | refine SW.ret ?_); try simp only [go_sem, hD, hli, mfe, true_implies]) | (apply hK; clear hK K) | (clear hK K; apply hK; clear hK K)
      refine retQ_le ((St.le_freeze (i := 4) (b := ob) (off := 0) (len := F.length) (sz := 5) (k := .svs (fC sC F)) rfl (by rw [find_cons, if_neg e1, find_cons, if_pos rfl]) (by show 0 + F.length * 5 ≤ (fC sC F).length; rw [← fC_len (enc := sC) (k := 5) (fun _ => rfl)]; omega) (s5F F) (fun j hj => ?_)).trans St.le_drop) ?_
      · rw [getN_take _ _ _ (by show 0 + j * 5 + 5 ≤ (fC sC F).length; have := fC_lt (enc := sC) (k := 5) (fun _ => rfl) hj (show 4 < 5 by omega); omega), Nat.zero_add]
        exact fC_at (enc := sC) (k := 5) (fun _ => rfl) s0 F j hj
      · simp only [resL_tmp, resL_nil, tupOf, go_sem, hD]
end Go.Proofs.YtblfodnajpamfaaGreatDoor
namespace Go.Ab.A15
open Go Go.Ab Go.Ab.A34
abbrev P2 := Int × List Int
abbrev pC (p : P2) : List SV := [I64 p.1, IL p.2]
def pF (l : List P2) (i : Nat) : List SV := pC (l.getD i p0)
abbrev PL (l : List P2) : SV := .fl l.length 2 (pF l)
theorem pC_get (L : List P2) (j : Nat) (h : j < L.length) : (fC pC L).getD (j * 2) .any = I64 (L.getD j p0).1 ∧ (fC pC L).getD (j * 2 + 1) .any = IL (L.getD j p0).2 :=
  ⟨fC_get (enc := pC) (k := 2) (fun _ => rfl) p0 h (show 0 < 2 by omega), fC_get (enc := pC) (k := 2) (fun _ => rfl) p0 h (show 1 < 2 by omega)⟩
theorem pC_set : ∀ (L : List P2) (j : Nat) (v : P2), j < L.length → ((fC pC L).set (j * 2) (I64 v.1)).set (j * 2 + 1) (IL v.2) = fC pC (L.set j v)
  | [], j, v, h => absurd h (Nat.not_lt_zero _)
  | x :: L, 0, v, h => rfl
  | x :: L, j + 1, v, h => by
    have := pC_set L j v (by simpa using h)
    unfold fC at *
    rw [List.set_cons_succ, List.flatMap_cons, List.flatMap_cons, ← this]
    rw [show (j + 1) * 2 = (pC x).length + j * 2 by show (j + 1) * 2 = 2 + j * 2; omega]
    rw [List.set_append_right _ _ (by omega), Nat.add_sub_cancel_left, Nat.add_assoc, List.set_append_right _ _ (by omega), Nat.add_sub_cancel_left]
def revG (l : List P2) (i : Nat) : List P2 := (List.range l.length).map fun k => if k < i ∨ l.length ≤ k + i then l.getD (l.length - 1 - k) p0 else l.getD k p0
theorem revG_len (l : List P2) (i : Nat) : (revG l i).length = l.length := by unfold revG; simp
theorem revG_get (l : List P2) (i k : Nat) (h : k < l.length) : (revG l i).getD k p0 = if k < i ∨ l.length ≤ k + i then l.getD (l.length - 1 - k) p0 else l.getD k p0 := by
  unfold revG
  simp [List.getD_eq_getElem?_getD, h]
theorem revG_el (l : List P2) (i k : Nat) (h : k < (revG l i).length) : (revG l i)[k] = if k < i ∨ l.length ≤ k + i then l.getD (l.length - 1 - k) p0 else l.getD k p0 := by
  unfold revG
  simp
theorem revG_zero (l : List P2) : revG l 0 = l := by
  refine List.ext_getElem (revG_len l 0) fun k h1 h2 => ?_
  rw [revG_el, if_neg (by omega)]
  simp [List.getD_eq_getElem?_getD, h2]
theorem revG_end (l : List P2) : revG l (l.length / 2) = l.reverse := by
  refine List.ext_getElem (by rw [revG_len, List.length_reverse]) fun k h1 h2 => ?_
  rw [revG_len] at h1
  rw [revG_el, List.getElem_reverse]
  have h3 : l.length - 1 - k < l.length := by omega
  by_cases c : k < l.length / 2 ∨ l.length ≤ k + l.length / 2
  · rw [if_pos c]
    simp [List.getD_eq_getElem?_getD, h3]
  · rw [if_neg c]
    have e : l.length - 1 - k = k := by omega
    simp only [e]
    simp [List.getD_eq_getElem?_getD, h1]
theorem revG_step (l : List P2) (i : Nat) (h : i < l.length / 2) : ((revG l i).set i (l.getD (l.length - 1 - i) p0)).set (l.length - 1 - i) (l.getD i p0) = revG l (i + 1) := by
  refine List.ext_getElem (by simp [revG_len]) fun k h1 h2 => ?_
  rw [revG_len] at h2
  rw [revG_el, List.getElem_set, List.getElem_set, revG_el]
  by_cases c1 : l.length - 1 - i = k
  · rw [if_pos c1, if_pos (by omega), ← c1]
    congr 1
    omega
  · rw [if_neg c1]
    by_cases c2 : i = k
    · subst c2
      rw [if_pos rfl, if_pos (by omega)]
    · rw [if_neg c2]
      by_cases c3 : k < i ∨ l.length ≤ k + i
      · rw [if_pos c3, if_pos (by omega)]
      · rw [if_neg c3, if_neg (by omega)]
theorem revG_step' (l : List P2) (i : Nat) (h : i < l.length / 2) : ((revG l i).set (l.length - 1 - i) (l.getD i p0)).set i (l.getD (l.length - 1 - i) p0) = revG l (i + 1) := by
  rw [← revG_step l i h]
  exact List.set_comm _ _ (by omega)
theorem swap2 (L : List P2) (i j : Nat) (x y : P2) (hi : i < L.length) (hj : j < L.length) : ((((fC pC L).set (i * 2) (I64 x.1)).set (i * 2 + 1) (IL x.2)).set (j * 2) (I64 y.1)).set (j * 2 + 1) (IL y.2) = fC pC ((L.set i x).set j y) := by
  rw [pC_set _ _ _ hi, pC_set _ _ _ (by rw [List.length_set]; exact hj)]
end Go.Ab.A15
namespace Go.Proofs.YtblfodnajpamfaaGreatDoor
open Go Go.Ab Go.Ab.A34 Go.Ab.A15
variable [Gl] [Tabs]
theorem rev_c (g : Nat) (l : List P2) (hl : l.length ≤ 1000000) : Ab.Call Tryz.prog 40 [.os g 0 l.length 2] [(g, .svs (fC pC l))] (fun r h' => r = .tup [] ∧ h' = [(g, .svs (fC pC l.reverse))]) := by
  have w0 : IntKind.i64.wrap (((l.length : Nat) : Int) - 1) = ((l.length : Nat) : Int) - 1 - ((0 : Nat) : Int) := by rw [i64_wrap (by omega) (by omega)]; omega
  suffices key : Ab.Call Tryz.prog 40 [.os g 0 l.length 2] [(g, .svs (fC pC (revG l 0)))] (fun r h' => r = .tup [] ∧ h' = [(g, .svs (fC pC l.reverse))]) by
    rwa [revG_zero] at key
  refine Call.enter' (N := 28) (rs := []) Tryz.func40 rfl rfl rfl (by decide) rfl ?_; simp only [argT]; have hD : (0 : Nat) = 0 := rfl
  repeat' first | (refine SW.seq_k fun K hK => ?_) | (refine SW.block ?_) | (refine SW.region ?_; try simp only [go_sem, hD, w0]) | (apply hK; clear hK K)
  obtain ⟨I, hI⟩ : ∃ I : Nat → St → Prop, ∀ k S, I k S ↔ (∃ (i : Nat) , k = l.length / 2 - i ∧ i ≤ l.length / 2 ∧ S = ⟨[(0, .os g 0 l.length 2), (2, I64 i), (3, .sc (.int .i64 (((l.length : Nat) : Int) - 1 - (i : Int))))], [(g, .svs (fC pC (revG l i)))]⟩) := ⟨fun k S => _, fun _ _ => Iff.rfl⟩
  refine SW.loop' I (l.length / 2) ((hI _ _).2 ⟨0, rfl, Nat.zero_le _, rfl⟩) (by repeat' (first | exact rfl | exact trivial | constructor)) ?_
  intro k S hIn
  obtain ⟨i, rfl, hi, rfl⟩ := (hI _ _).1 hIn
  clear hIn
  have ie : ((i : Nat) : Int).toNat = i := Int.toNat_natCast _
  have i0 : (0 : Int) ≤ ((i : Nat) : Int) := by omega
  by_cases hlt : i < l.length / 2
  · have hli : (i : Int) < ((l.length : Nat) : Int) - 1 - (i : Int) := by omega
    have w1 : IntKind.i64.wrap ((i : Int) + 1) = ((i + 1 : Nat) : Int) := by rw [i64_wrap (by omega) (by omega)]; omega
    have w2 : IntKind.i64.wrap (((l.length : Nat) : Int) - 1 - (i : Int) - 1) = ((l.length : Nat) : Int) - 1 - ((i + 1 : Nat) : Int) := by rw [i64_wrap (by omega) (by omega)]; omega
    have jn : (((l.length : Nat) : Int) - 1 - (i : Int)).toNat = l.length - 1 - i := by omega
    have j0 : (0 : Int) ≤ ((l.length : Nat) : Int) - 1 - (i : Int) := by omega
    have jl : ((l.length : Nat) : Int) - 1 - (i : Int) < ((l.length : Nat) : Int) := by omega
    have il : (i : Int) < ((l.length : Nat) : Int) := by omega
    have kl : (fC pC (revG l i)).length = l.length * 2 := by rw [← fC_len (enc := pC) (k := 2) (fun _ => rfl), revG_len]
    have b1 : i < l.length := by omega
    have b2 : l.length - 1 - i < l.length := by omega
    obtain ⟨g1, g2⟩ := pC_get (revG l i) i (by rw [revG_len]; exact b1)
    obtain ⟨g3, g4⟩ := pC_get (revG l i) (l.length - 1 - i) (by rw [revG_len]; exact b2)
    rw [revG_get _ _ _ b1, if_neg (by omega)] at g1 g2
    rw [revG_get _ _ _ b2, if_neg (by omega)] at g3 g4
    have s1 := swap2 (revG l i) i (l.length - 1 - i) (l.getD (l.length - 1 - i) p0) (l.getD i p0) (by rw [revG_len]; exact b1) (by rw [revG_len]; exact b2)
    have s2 := swap2 (revG l i) (l.length - 1 - i) i (l.getD i p0) (l.getD (l.length - 1 - i) p0) (by rw [revG_len]; exact b2) (by rw [revG_len]; exact b1)
    rw [revG_step l i hlt] at s1
    rw [revG_step' l i hlt] at s2
    have z1 : 0 + i * 2 = i * 2 := Nat.zero_add _
    have z2 : 0 + (l.length - 1 - i) * 2 = (l.length - 1 - i) * 2 := Nat.zero_add _
    have y1 : i * 2 + 2 ≤ l.length * 2 := by omega
    have y2 : (l.length - 1 - i) * 2 + 2 ≤ l.length * 2 := by omega
    repeat' first | (refine SW.seq_k fun K hK => ?_) | (refine SW.block ?_) | ((first | refine SW.region ?_ | refine SW.regionZ (id := 3) (Checked.mixed Tryz.checked) ((.one 0 [0, 12, 13, 14, 15] (.one 1 [1, 12, 13, 14, 15] (.one 4 [4, 6, 7, 12, 13, 14, 15] (.one 5 [5, 6, 7, 12, 13, 14, 15] (.one 6 [6, 7, 12, 13, 14, 15] (.one 7 [7, 12, 13, 14, 15] (.one 8 [8, 10, 11, 12, 13, 14, 15] (.one 9 [9, 10, 11, 12, 13, 14, 15] (.one 10 [10, 11, 12, 13, 14, 15] (.one 11 [11, 12, 13, 14, 15] (.one 12 [12, 13, 14, 15] (.alt 2 (.alt 3 (.alt 13 (.one 14 [14, 15] (.alt 15 .done .nil)) .nil) (.alt 13 (.one 3 [3, 14, 15] (.one 14 [14, 15] (.alt 15 .done .nil))) .nil)) (.alt 3 (.alt 2 (.alt 13 (.one 14 [14, 15] (.alt 15 .done .nil)) .nil) (.alt 13 (.one 2 [2, 14, 15] (.one 14 [14, 15] (.alt 15 .done .nil))) .nil)) (.alt 13 (.one 2 [2, 14, 15] (.one 3 [3, 14, 15] (.one 14 [14, 15] (.alt 15 .done .nil)))) .nil)))))))))))))) : OZ) (by kernel_rfl) ?_ | refine SW.cond ?_ | refine SW.skip ?_); try simp only [go_sem, hD, hli, w1, w2, jn, j0, jl, il, ie, i0, kl, g1, g2, g3, g4, z1, z2, y1, y2, getN, true_implies]) | (apply hK; clear hK K) | (refine And.intro ?_ ?_)
    all_goals
      first | rw [s1] | rw [s2]
      refine Rnd.sub (l.length / 2 - (i + 1)) (by omega) ((hI _ _).2 ⟨i + 1, rfl, by omega, rfl⟩) (by repeat' (first | exact rfl | exact trivial | constructor))
  · have hli : ¬ (i : Int) < ((l.length : Nat) : Int) - 1 - (i : Int) := by omega
    obtain rfl : i = l.length / 2 := by omega
    rw [revG_end]
    repeat' first | (refine SW.seq_k fun K hK => ?_) | ((first | refine SW.region ?_ | refine SW.cond ?_ | refine SW.exit ?_); try simp only [go_sem, hD, hli, true_implies]) | (apply hK; clear hK K)
    refine ⟨_, fun M w0 D N a w r => r, ?_⟩
    simp only [resL_nil, tupOf, go_sem, hD]
    try exact ⟨rfl, rfl⟩
theorem rev_n : PCall Tryz.prog 40 [.sc (.slice none 0 0)] (.tup []) := by
  have w0 : IntKind.i64.wrap ((0 : Int) - 1) = -1 := by decide
  refine Call.enter' (N := 28) (rs := []) Tryz.func40 rfl rfl rfl (by decide) rfl ?_; simp only [argT]; have hD : (0 : Nat) = 0 := rfl
  repeat' first | (refine SW.seq_k fun K hK => ?_) | (refine SW.block ?_) | (refine SW.region ?_; try simp only [go_sem, hD, w0]) | (apply hK; clear hK K)
  obtain ⟨I, hI⟩ : ∃ I : Nat → St → Prop, ∀ k S, I k S ↔ (∃ (i : Nat) , k = 0 - i ∧ i ≤ 0 ∧ S = ⟨[(0, .sc (.slice none 0 0)), (2, I64 0), (3, .sc (.int .i64 (-1)))], []⟩) := ⟨fun k S => _, fun _ _ => Iff.rfl⟩
  refine SW.loop' I (0) ((hI _ _).2 ⟨0, rfl, Nat.zero_le _, rfl⟩) (by repeat' (first | exact rfl | exact trivial | constructor)) ?_
  intro k S hIn
  obtain ⟨i, rfl, hi, rfl⟩ := (hI _ _).1 hIn
  clear hIn
  have ie : ((i : Nat) : Int).toNat = i := Int.toNat_natCast _
  have i0 : (0 : Int) ≤ ((i : Nat) : Int) := by omega
  repeat' first | (refine SW.seq_k fun K hK => ?_) | ((first | refine SW.region ?_ | refine SW.cond ?_ | refine SW.exit ?_); try simp only [go_sem, hD]) | (apply hK; clear hK K)
  refine ret_pure ?_; simp only [resL_tmp, resL_nil, tupOf, go_sem, hD]
end Go.Proofs.YtblfodnajpamfaaGreatDoor
namespace Go.Ab.A15
open Go Go.Ab Go.Ab.A34
def nmsOf (db : List Tb) : List ByteArray := db.map (·.name)
def nsOf (db : List Tb) : List Nat := db.map fun t => t.attrs.length
theorem tabI_idx {x : ByteArray} : ∀ {l : List Tb} {i : Nat}, x ∈ nmsOf l → tabI x i l = ((i + idxN x (nmsOf l) : Nat) : Int)
  | y :: l, i, h => by
    unfold tabI nmsOf
    rw [List.map_cons, idxN]
    by_cases h1 : y.name = x
    · rw [if_pos h1, if_pos h1]; rfl
    · rw [if_neg h1, if_neg h1, tabI_idx (i := i + 1) ((List.mem_cons.1 h).resolve_left (fun e => h1 e.symm))]
      unfold nmsOf
      congr 1
      omega
theorem tabI_mem {x : ByteArray} : ∀ {l : List Tb} {i : Nat}, 0 ≤ tabI x i l → x ∈ nmsOf l
  | [], i, h => by simp [tabI] at h
  | y :: l, i, h => by
    unfold tabI at h
    unfold nmsOf
    rw [List.map_cons]
    by_cases h1 : y.name = x
    · rw [h1]; exact List.mem_cons_self
    · rw [if_neg h1] at h
      exact List.mem_cons_of_mem _ (tabI_mem h)
theorem chkF_ok {db : List Tb} : ∀ {g i : Nat}, chkF db g i = 0 → i + g = db.length → ∀ j, i ≤ j → j < db.length → validS (db.getD j t0) = 0 ∧ tabI (db.getD j t0).name 0 (db.take j) < 0
  | 0, i, _, h, j, h1, h2 => by omega
  | g + 1, i, hc, h, j, h1, h2 => by
    unfold chkF at hc
    by_cases hv : validS (db.getD i t0) = 0
    · rw [if_neg (fun x => x hv)] at hc
      by_cases hq : 0 ≤ tabI (db.getD i t0).name 0 (db.take i)
      · rw [if_pos hq] at hc; cases hc
      · rw [if_neg hq] at hc
        rcases Nat.lt_or_ge i j with h3 | h3
        · exact chkF_ok hc (by omega) j h3 h2
        · obtain rfl : j = i := by omega
          exact ⟨hv, by omega⟩
    · rw [if_pos hv] at hc; exact absurd hc hv
structure Vdb (db : List Tb) : Prop where
  v : ∀ t ∈ db, validS t = 0
  n : (nmsOf db).Nodup
theorem chkS_ok {db : List Tb} (h : chkS db = 0) : Vdb db := by
  unfold chkS at h
  by_cases h50 : 50 < db.length
  · rw [if_pos h50] at h; cases h
  · rw [if_neg h50] at h
    have key := chkF_ok h (by omega)
    refine ⟨fun t ht => ?_, ?_⟩
    · obtain ⟨j, hj, rfl⟩ := List.getElem_of_mem ht
      have := (key j (Nat.zero_le _) hj).1
      rwa [show db.getD j t0 = db[j] by simp [List.getD_eq_getElem?_getD, hj]] at this
    · refine List.pairwise_iff_getElem.2 fun i j hi hj hij e => ?_
      unfold nmsOf at hi hj
      rw [List.length_map] at hi hj
      unfold nmsOf at e
      rw [List.getElem_map, List.getElem_map] at e
      have := (key j (Nat.zero_le _) hj).2
      rw [show db.getD j t0 = db[j] by simp [List.getD_eq_getElem?_getD, hj]] at this
      have hm : db[j].name ∈ nmsOf (db.take j) := by
        unfold nmsOf
        rw [← e]
        refine List.mem_map.2 ⟨db[i], ?_, rfl⟩
        have hl : i < (db.take j).length := by rw [List.length_take]; omega
        have : (db.take j)[i] = db[i] := List.getElem_take
        rw [← this]
        exact List.getElem_mem hl
      rw [tabI_idx hm] at this
      omega
theorem fits_ok {db : List Tb} {d : Dp} (h : fitsS db d = 0) : Fit (nmsOf db) (nsOf db) d := by
  unfold fitsS at h
  by_cases h1 : tabI d.f 0 db < 0 ∨ tabI d.t 0 db < 0
  · rw [if_pos h1] at h; cases h
  · rw [if_neg h1] at h
    have mf : d.f ∈ nmsOf db := tabI_mem (i := 0) (by omega)
    have mt : d.t ∈ nmsOf db := tabI_mem (i := 0) (by omega)
    have ef := tabI_idx (i := 0) mf
    have et := tabI_idx (i := 0) mt
    rw [ef, et] at h
    simp only [Nat.zero_add, Int.toNat_natCast] at h
    have gn : ∀ i, (nsOf db).getD i 0 = (db.getD i t0).attrs.length := fun i => by
      unfold nsOf
      simp only [List.getD_eq_getElem?_getD, List.getElem?_map]
      cases db[i]? <;> rfl
    split at h
    · cases h
    · rename_i h2
      split at h
      · rename_i h3
        have w1 : winB d.l (db.getD (idxN d.f (nmsOf db)) t0).attrs.length = true := by
          cases hw : winB d.l (db.getD (idxN d.f (nmsOf db)) t0).attrs.length with
          | true => rfl
          | false => exact absurd (.inr (.inl hw)) h2
        have w2 : winB d.r (db.getD (idxN d.t (nmsOf db)) t0).attrs.length = true := by
          cases hw : winB d.r (db.getD (idxN d.t (nmsOf db)) t0).attrs.length with
          | true => rfl
          | false => exact absurd (.inr (.inr hw)) h2
        refine ⟨mf, mt, Classical.byContradiction fun x => h2 (.inl x), ?_, ?_, h3.1, h3.2⟩
        · rw [gn]; exact winB_iff.1 w1
        · rw [gn]; exact winB_iff.1 w2
      · cases h
theorem firstE_ok {db : List Tb} {g : Dp} : ∀ {l : List Dp}, firstE db g l = 0 → (∀ d ∈ l, fitsS db d = 0) ∧ fitsS db g = 0
  | [], h => ⟨fun d hd => (by cases hd), h⟩
  | x :: l, h => by
    unfold firstE at h
    by_cases h1 : fitsS db x = 0
    · rw [if_neg (fun y => y h1)] at h
      obtain ⟨h2, h3⟩ := firstE_ok h
      refine ⟨fun d hd => ?_, h3⟩
      rcases List.mem_cons.1 hd with rfl | hd
      · exact h1
      · exact h2 d hd
    · rw [if_pos h1] at h; exact absurd h h1
structure Vall (db : List Tb) (l : List Dp) (g : Dp) : Prop where
  vd : Vdb db
  l : ∀ d ∈ l, Fit (nmsOf db) (nsOf db) d
  g : Fit (nmsOf db) (nsOf db) g
theorem allS_ok {db : List Tb} {l : List Dp} {g : Dp} (h : allS db l g = 0) : Vall db l g := by
  unfold allS at h
  by_cases h1 : chkS db = 0
  · rw [if_neg (fun y => y h1)] at h
    obtain ⟨h2, h3⟩ := firstE_ok h
    exact ⟨chkS_ok h1, fun d hd => fits_ok (h2 d hd), fits_ok h3⟩
  · rw [if_pos h1] at h; exact absurd h h1
theorem Vdb.name {db : List Tb} (h : Vdb db) : ∀ x ∈ nmsOf db, nameB x.data.toList = true := fun x hx => by
  obtain ⟨t, ht, rfl⟩ := List.mem_map.1 hx
  have := h.v t ht
  unfold validS at this
  split at this
  · assumption
  · cases this
theorem Vdb.ns {db : List Tb} (h : Vdb db) (i : Nat) : (nsOf db).getD i 0 ≤ 16 := by
  unfold nsOf
  simp only [List.getD_eq_getElem?_getD, List.getElem?_map]
  cases hi : db[i]? with
  | none => exact Nat.zero_le _
  | some t => exact (valid_rows (h.v t (List.mem_of_getElem? hi))).2.1
theorem Fit.in16l {db : List Tb} {d : Dp} (h : Vdb db) (hf : Fit (nmsOf db) (nsOf db) d) : In16 d.l := fun x hx => by
  have := hf.l x hx
  have h2 := h.ns (idxN d.f (nmsOf db))
  omega
theorem Fit.in16r {db : List Tb} {d : Dp} (h : Vdb db) (hf : Fit (nmsOf db) (nsOf db) d) : In16 d.r := fun x hx => by
  have := hf.r x hx
  have h2 := h.ns (idxN d.t (nmsOf db))
  omega
theorem in16_len {a : List Int} (hn : a.Nodup) (h : In16 a) : a.length ≤ 16 := by
  have key := nodup_bound 16 (a.map Int.toNat) ?_ ?_
  · rwa [List.length_map] at key
  · have hp := List.pairwise_iff_getElem.1 hn
    refine List.pairwise_iff_getElem.2 fun i j hi hj hij e => ?_
    rw [List.length_map] at hi hj
    rw [List.getElem_map, List.getElem_map] at e
    have h1 := h _ (List.getElem_mem hi)
    have h2 := h _ (List.getElem_mem hj)
    exact hp i j hi hj hij (by omega)
  · intro x hx
    obtain ⟨y, hy, rfl⟩ := List.mem_map.1 hx
    have := h y hy
    omega
theorem Vall.small {db : List Tb} {l : List Dp} {g : Dp} (h : Vall db l g) (h4 : db.length ≤ 4) (h3 : g.l.length ≤ 3) : Small l g (nmsOf db) where
  n4 := by unfold nmsOf; rw [List.length_map]; exact h4
  g3 := h3
  gl := h.g.in16l h.vd
  gf := h.g.f
  lr d hd := (h.l d hd).lr
  r16 d hd := (h.l d hd).in16r h.vd
  lt d hd := (h.l d hd).t
theorem Vall.okL {db : List Tb} {l : List Dp} {g : Dp} (h : Vall db l g) : OkL l := fun d hd => by
  have := in16_len (h.l d hd).nl ((h.l d hd).in16l h.vd)
  omega
theorem Fit.okD {db : List Tb} {d : Dp} (h : Vdb db) (hf : Fit (nmsOf db) (nsOf db) d) : OkD d := by
  have := in16_len hf.nl (hf.in16l h)
  have := in16_len hf.nr (hf.in16r h)
  exact ⟨by omega, by omega⟩
end Go.Ab.A15
namespace Go.Ab.A15
open Go Go.Ab Go.Ab.A34
structure Few (db : List Tb) (l : List Dp) (g : Dp) : Prop where
  d4 : db.length ≤ 4
  ll : l.length ≤ 1000000
  okl : ∀ d ∈ l, OkD d
  okg : OkD g
  g3 : g.l.length ≤ 3
  r3 : g.r.length ≤ 3
theorem back_len (F : List Sn) : ∀ (n : Nat) (z : Int), (backS F n z).length ≤ n
  | 0, z => Nat.le_refl 0
  | n + 1, z => by
    unfold backS
    split
    · rw [List.length_cons]
      have := back_len F n (F.getD z.toNat s0).bf
      omega
    · exact Nat.zero_le _
theorem back_step {l : List Dp} {g : Dp} {out : List Sn} (h : Ivs l g out) {z : Nat} (h0 : 0 < z) (hz : z < out.length) : ∃ b : Nat, b < z ∧ (out.getD z s0).bf = (b : Int) ∧ backS out z z = stp (out.getD z s0) :: backS out b b := by
  obtain ⟨b, k, hb, _, e, _⟩ := h.nx z h0 hz
  obtain ⟨n, rfl⟩ : ∃ k, z = k + 1 := ⟨z - 1, by omega⟩
  refine ⟨b, hb, e, ?_⟩
  rw [backS, if_pos (by omega), Int.toNat_natCast, e, back_more h n b b (by omega) (by omega) (by omega)]
end Go.Ab.A15
namespace Go.Proofs.YtblfodnajpamfaaGreatDoor
open Go Go.Ab Go.Ab.A34 Go.Ab.A15
variable [Gl] [Tabs]
theorem implies_p (db : List Tb) (l : List Dp) (g : Dp) (hf : Few db l g) (h : allS db l g = 0) : PCall Tryz.prog 28 [DB db, DpL l, DV g] (.tup [SB (decide (0 ≤ findS g.t g.r 0 (states l g))), I64 0]) := by
  have c := all_p db l g (by have := hf.d4; omega) (by have := hf.ll; omega) hf.okl hf.okg
  have V := allS_ok h
  have hr3 := hf.r3
  have cs := states_p l g (nmsOf db) (V.small hf.d4 hf.g3) V.vd.name V.okL hf.ll V.g.t (V.g.in16r V.vd) (by omega)
  rw [h] at c
  generalize findS g.t g.r 0 (states l g) = z at *
  generalize states l g = F at *
  obtain ⟨gf, gl, gt, gr⟩ := g
  refine Call.enter' (N := 29) (rs := [.tmp 6, .tmp 7]) Tryz.func28 rfl rfl rfl (by decide) rfl ?_; simp only [argT]; have hD : (0 : Nat) = 0 := rfl
  repeat' first | (refine SW.seq_k fun K hK => ?_) | ((first | refine SW.region ?_ | refine SW.cond ?_ | refine SW.skip ?_ | refine SW.ret ?_ | refine Call.of_pure (c) ?_ | refine Call.of_pure (cs) ?_ | (refine allF_i fun b hb => ?_; replace hD := And.intro hb hD; clear hb; try simp only [fresh_cons, fresh_nil, and_true, ne_eq, neF] at hD)); try simp only [go_sem, hD]) | (apply hK; clear hK K)
  refine ret_pure ?_; simp only [resL_tmp, resL_nil, tupOf, go_sem, hD]
theorem prove_no (db : List Tb) (l : List Dp) (g : Dp) (hf : Few db l g) (h : allS db l g = 0) (hn : findS g.t g.r 0 (states l g) < 0) : PCall Tryz.prog 13 [DB db, DpL l, DV g] (.tup [SN, I64 11]) := by
  have c := all_p db l g (by have := hf.d4; omega) (by have := hf.ll; omega) hf.okl hf.okg
  have V := allS_ok h
  have hr3 := hf.r3
  have cs := states_p l g (nmsOf db) (V.small hf.d4 hf.g3) V.vd.name V.okL hf.ll V.g.t (V.g.in16r V.vd) (by omega)
  rw [h] at c
  generalize findS g.t g.r 0 (states l g) = z at *
  generalize states l g = F at *
  obtain ⟨gf, gl, gt, gr⟩ := g
  refine Call.enter' (N := 50) (rs := [.tmp 6, .tmp 7]) Tryz.func13 rfl rfl rfl (by decide) rfl ?_; simp only [argT]; have hD : (0 : Nat) = 0 := rfl
  repeat' first | (refine SW.seq_k fun K hK => ?_) | ((first | refine SW.region ?_ | refine SW.cond ?_ | refine SW.skip ?_ | refine SW.ret ?_ | refine Call.of_pure (c) ?_ | refine Call.of_pure (cs) ?_ | (refine allF_i fun b hb => ?_; replace hD := And.intro hb hD; clear hb; try simp only [fresh_cons, fresh_nil, and_true, ne_eq, neF] at hD)); try simp only [go_sem, hD, hn]) | (apply hK; clear hK K)
  refine ret_pure ?_; simp only [resL_tmp, resL_nil, tupOf, go_sem, hD]
theorem prove_p (db : List Tb) (l : List Dp) (g : Dp) (hf : Few db l g) (h : allS db l g = 0) (hn : ¬ findS g.t g.r 0 (states l g) < 0) : PCall Tryz.prog 13 [DB db, DpL l, DV g] (.tup [PL (proofS l g), I64 0]) := by
  have c := all_p db l g (by have := hf.d4; omega) (by have := hf.ll; omega) hf.okl hf.okg
  have V := allS_ok h
  have hr3 := hf.r3
  have sm := V.small hf.d4 hf.g3
  have hB := sm.bds
  have hfin := (states_ok hB).1
  have hFl := hB _ hfin
  have cs := states_p l g (nmsOf db) sm V.vd.name V.okL hf.ll V.g.t (V.g.in16r V.vd) (by omega)
  have hstep := fun z => @back_step l g (states l g) hfin z
  have his := @findS_is g.t g.r (states l g) 0
  rw [h] at c
  unfold proofS pathS
  generalize findS g.t g.r 0 (states l g) = z at *
  generalize states l g = F at *
  obtain ⟨j, rfl, hj, _⟩ := his (by omega)
  clear his hfin hB sm V h
  rw [Nat.zero_add] at *
  rw [Int.toNat_natCast]
  obtain ⟨B, hBk⟩ : ∃ B, B = backS F j j := ⟨_, rfl⟩
  have hBl : B.length ≤ 20000 := by rw [hBk]; have := back_len F j j; omega
  rw [← hBk]
  obtain ⟨gf, gl, gt, gr⟩ := g
  refine Call.enter' (N := 50) (rs := [.tmp 6, .tmp 7]) Tryz.func13 rfl rfl rfl (by decide) rfl ?_; simp only [argT]; have hD : (0 : Nat) = 0 := rfl
  repeat' first | (refine SW.seq_k fun K hK => ?_) | (refine SW.block ?_) | ((first | refine SW.region ?_ | refine SW.cond ?_ | refine SW.skip ?_ | refine Call.of_pure (c) ?_ | refine Call.of_pure (cs) ?_ | (refine allF_i fun b hb => ?_; replace hD := And.intro hb hD; clear hb; try simp only [fresh_cons, fresh_nil, and_true, ne_eq, neF] at hD)); try simp only [go_sem, hD, hn, true_implies]) | (apply hK; clear hK K)
  refine Ab.SW.le St.le_drop ?_
  obtain ⟨I, hI⟩ : ∃ I : Nat → St → Prop, ∀ k S, I k S ↔ (∃ (z : Nat) (L : List P2) (h : Heap), k = z ∧ z ≤ j ∧ B = L ++ backS F z z ∧ ((L = [] ∧ h = [] ∧ S = ⟨[(9, .fl F.length 5 (s5F F)), (10, I64 z), (12, SN)], h⟩) ∨ (0 < L.length ∧ ∃ b, h = [(b, .svs (fC pC L))] ∧ S = ⟨[(9, .fl F.length 5 (s5F F)), (10, I64 z), (12, .os b 0 L.length 2)], h⟩))) := ⟨fun k S => _, fun _ _ => Iff.rfl⟩
  refine SW.loop' I j ((hI _ _).2 ⟨j, [], [], rfl, Nat.le_refl _, hBk, .inl ⟨rfl, rfl, rfl⟩⟩) (by repeat' (first | exact rfl | exact trivial | constructor)) ?_
  intro z S hIn
  obtain ⟨_, L, h, rfl, hzj, hL, hcase⟩ := (hI _ _).1 hIn
  clear hIn hBk
  have lL : L.length ≤ 20000 := by
    have := congrArg List.length hL
    rw [List.length_append] at this
    omega
  have ze : ((z : Nat) : Int).toNat = z := Int.toNat_natCast _
  have z0 : (0 : Int) ≤ ((z : Nat) : Int) := by omega
  have zl : ((z : Nat) : Int) < ((F.length : Nat) : Int) := by omega
  rcases Nat.eq_zero_or_pos z with hz | hz
  · subst hz
    have hL2 : B = L := by rw [hL]; simp [backS]
    subst hL2
    rcases hcase with ⟨rfl, rfl, rfl⟩ | ⟨h0, b, rfl, rfl⟩
    · repeat' first | (refine SW.seq_k fun K hK => ?_) | ((first | refine SW.region ?_ | refine SW.cond ?_ | refine SW.exit ?_ | refine SW.ret ?_ | refine Call.of_pure (rev_n) ?_); try simp only [go_sem, hD, true_implies]) | (apply hK; clear hK K) | (clear hK K; apply hK; clear hK K)
      refine retQ_le (St.le_nil_fl (i := 6) (sz := 2) (f := pF []) rfl) ?_
      simp only [resL_tmp, resL_nil, tupOf, go_sem, hD]
      rfl
    · have cr := rev_c b B (by omega)
      repeat' first | ((refine Call.mono cr ?_); (intro r h' hx); (obtain ⟨rfl, rfl⟩ := hx); (try simp only [go_sem, hD])) | (refine SW.seq_k fun K hK => ?_) | ((first | refine SW.region ?_ | refine SW.cond ?_ | refine SW.exit ?_ | refine SW.ret ?_); try simp only [go_sem, hD, true_implies]) | (apply hK; clear hK K) | (clear hK K; apply hK; clear hK K)
      refine retQ_le (St.le_freeze (i := 6) (b := b) (off := 0) (len := B.length) (sz := 2) (k := .svs (fC pC B.reverse)) rfl (by rw [find_cons, if_pos rfl]) (by show 0 + B.length * 2 ≤ (fC pC B.reverse).length; rw [← fC_len (enc := pC) (k := 2) (fun _ => rfl), List.length_reverse]; omega) (pF B.reverse) (fun p hp => ?_)) ?_
      · rw [getN_take _ _ _ (by show 0 + p * 2 + 2 ≤ (fC pC B.reverse).length; rw [← fC_len (enc := pC) (k := 2) (fun _ => rfl), List.length_reverse]; omega), Nat.zero_add]
        exact fC_at (enc := pC) (k := 2) (fun _ => rfl) p0 B.reverse p (by rw [List.length_reverse]; exact hp)
      · simp only [resL_tmp, resL_nil, tupOf, del_cons, List.length_reverse, go_sem, hD]
        unfold PL
        rw [List.length_reverse]
  · obtain ⟨zb, hb, e1, e2⟩ := hstep z hz (by omega)
    rw [e2] at hL
    have hL2 : B = (L ++ [stp (F.getD z s0)]) ++ backS F zb zb := by rw [hL, List.append_assoc]; rfl
    clear hL e2
    have fz : s5F F z = sC (F.getD z s0) := rfl
    have hz1 : (0 : Int) < ((z : Nat) : Int) := by omega
    have hsn : fC pC (L ++ [stp (F.getD z s0)]) = fC pC L ++ pC (stp (F.getD z s0)) := (fC_snoc L _).symm
    have hln : (L ++ [stp (F.getD z s0)]).length = L.length + 1 := by rw [List.length_append]; rfl
    have lc : L.length * 2 = (fC pC L).length := fC_len (enc := pC) (k := 2) (fun _ => rfl) L
    have ba : (L.length + 1) * 32 ≤ 140737488355328 := by omega
    generalize F.getD z s0 = s at *
    obtain ⟨st, sa, x1, x2, x3, sn⟩ := s
    simp only [stp] at hL2 hsn hln e1
    subst e1
    rcases hcase with ⟨rfl, rfl, rfl⟩ | ⟨h0, b2, rfl, rfl⟩
    · repeat' first | (with_reducible refine And.intro (by omega) ?_) | (refine SW.seq_k fun K hK => ?_) | (refine SW.block ?_) | ((first | refine SW.region ?_ | refine SW.cond ?_ | refine SW.skip ?_ | (refine allF_i fun b hb => ?_; replace hD := And.intro hb hD; clear hb; try simp only [fresh_cons, fresh_nil, and_true, ne_eq, neF] at hD) | simp only [appK, appOsK]); try simp only [go_sem, hD, hz1, ze, z0, zl, fz, ba, true_implies]) | (refine And.intro (by omega) ?_) | (apply hK; clear hK K)
      all_goals
        obtain ⟨c1, rfl⟩ : ∃ x, x = b := ⟨_, rfl⟩
        refine Rnd.le (St.le_only (b := c1) (k := .svs [I64 x2, IL x3]) ?_) (Rnd.sub zb hb ((hI _ _).2 ⟨zb, [((x2 : Int), x3)], _, rfl, by omega, hL2, .inr ⟨by simp, c1, rfl, rfl⟩⟩) (by repeat' (first | exact rfl | exact trivial | constructor)))
        repeat (first | exact List.mem_cons_self | apply List.mem_cons_of_mem)
    · repeat' first | (with_reducible refine And.intro (by omega) ?_) | (refine SW.seq_k fun K hK => ?_) | (refine SW.block ?_) | ((first | refine SW.region ?_ | refine SW.cond ?_ | refine SW.skip ?_ | (refine allF_i fun b hb => ?_; replace hD := And.intro hb hD; clear hb; try simp only [fresh_cons, fresh_nil, and_true, ne_eq, neF] at hD) | simp only [appK, appOsK]); try simp only [go_sem, hD, hz1, ze, z0, zl, fz, ba, lc, true_implies]) | (apply hK; clear hK K)
      all_goals
        obtain ⟨c1, rfl⟩ : ∃ x, x = b := ⟨_, rfl⟩
        rw [← hln]
        (first | rw [show fC pC L ++ [I64 x2, IL x3] = fC pC (L ++ [((x2 : Int), x3)]) from hsn.symm] | skip)
        refine Rnd.le (St.le_only (b := c1) (k := .svs (fC pC (L ++ [((x2 : Int), x3)]))) ?_) (Rnd.sub zb hb ((hI _ _).2 ⟨zb, L ++ [((x2 : Int), x3)], _, rfl, by omega, hL2, .inr ⟨by simp, c1, rfl, rfl⟩⟩) (by repeat' (first | exact rfl | exact trivial | constructor)))
        repeat (first | exact List.mem_cons_self | apply List.mem_cons_of_mem)
end Go.Proofs.YtblfodnajpamfaaGreatDoor
namespace Go.Ab.A15
open Go Go.Ab Go.Ab.A34
def stR (pre : List Int) (o : Option (List Int)) : Option (List Int) := match o with
  | none => none
  | some r => some (pre ++ r)
theorem stpC_drop {d : Dp} {ps a : List Int} {m : Nat} (hl : ps.length = a.length) (h : m < a.length) : stpC d (ps.drop m) (a.drop m) = if 0 ≤ ps.getD m 0 ∧ ps.getD m 0 < d.l.length ∧ d.l.getD (ps.getD m 0).toNat 0 = a.getD m 0 then (match stpC d (ps.drop (m + 1)) (a.drop (m + 1)) with
    | none => none
    | some r => some (d.r.getD (ps.getD m 0).toNat 0 :: r)) else none := by
  have g : a.getD m 0 = a[m] := by simp [List.getD_eq_getElem?_getD, h]
  have h2 : m < ps.length := by omega
  have g2 : ps.getD m 0 = ps[m] := by simp [List.getD_eq_getElem?_getD, h2]
  rw [List.drop_eq_getElem_cons h, List.drop_eq_getElem_cons h2, g, g2]
  rfl
theorem chkP_drop {l : List Dp} {T : ByteArray} {B : List Int} {pr : List P2} {t : ByteArray} {a : List Int} {i : Nat} (h : i < pr.length) : chkP l T B (pr.drop i) t a = if 0 ≤ (pr.getD i p0).1 ∧ (pr.getD i p0).1 < l.length ∧ (pr.getD i p0).2.length = a.length ∧ (l.getD (pr.getD i p0).1.toNat d0).f = t then (match stpC (l.getD (pr.getD i p0).1.toNat d0) (pr.getD i p0).2 a with
    | none => false
    | some a' => chkP l T B (pr.drop (i + 1)) (l.getD (pr.getD i p0).1.toNat d0).t a') else false := by
  have g : pr.getD i p0 = pr[i] := by simp [List.getD_eq_getElem?_getD, h]
  rw [List.drop_eq_getElem_cons h, g, chkP_cons]
  rfl
def OkP (pr : List P2) : Prop := pr.length ≤ 1000000 ∧ ∀ p ∈ pr, p.2.length ≤ 1000000
theorem map_get {a : List Int} {j : Nat} (h : j < a.length) : (a.map fun x => I64 x).getD j .any = I64 (a.getD j 0) := by simp [List.getD_eq_getElem?_getD, h]
theorem fl_map (l : List Int) : flCells (iF l) l.length = l.map fun x => I64 x := by
  have e : l = (List.range l.length).map fun i => l.getD i 0 := by
    refine List.ext_getElem (by simp) fun i h1 h2 => ?_
    simp [List.getD_eq_getElem?_getD, h1]
  unfold flCells
  conv => rhs; rw [e]
  rw [List.map_map]
  unfold iF
  induction (List.range l.length) with
  | nil => rfl
  | cons x r ih => rw [List.flatMap_cons, List.map_cons, ih]; rfl
end Go.Ab.A15
namespace Go.Proofs.YtblfodnajpamfaaGreatDoor
open Go Go.Ab Go.Ab.A34 Go.Ab.A15
variable [Gl] [Tabs]
theorem clone_i (l : List Int) (hl : l.length ≤ 1000000) : Ab.Call Tryz.prog 44 [IL l] [] (fun r h' => (l = [] ∧ r = SN ∧ h' = []) ∨ ∃ b, r = .os b 0 l.length 1 ∧ h' = [(b, .svs (l.map fun x => I64 x))]) := by
  have hfm := fl_map l
  refine Call.enter' (N := 8) (rs := [.tmp 2]) Tryz.func44 rfl rfl rfl (by decide) rfl ?_; simp only [argT]; have hD : (0 : Nat) = 0 := rfl
  refine SW.seq_k fun K0 hK0 => ?_
  refine SW.region ?_
  simp only [go_sem, hD]
  refine hK0 _ ?_
  clear hK0 K0
  refine SW.seq_k fun K hK => ?_
  refine SW.seq_k fun K2 hK2 => ?_
  refine SW.region_nil (i := 0) (j := 3) (k := 4) rfl rfl rfl rfl rfl rfl Tryz.underlying37 rfl (by decide) (by decide) (fun hn => ?_) ?_
  · refine hK2 _ ?_
    clear hK2 K2
    have hl0 : l = [] := List.eq_nil_of_length_eq_zero hn
    subst hl0
    repeat' first | (refine SW.seq_k fun K hK => ?_) | ((first | refine SW.region ?_ | refine SW.cond ?_ | refine SW.ret ?_); try simp only [go_sem, hD]) | (apply hK; clear hK K)
    refine retQ_le (fun M w0 D N a w r => r) ?_
    simp only [resL_tmp, resL_nil, tupOf, go_sem, hD]
    try exact .inl ⟨rfl, rfl, rfl⟩
  · refine hK2 _ ?_
    clear hK2 K2
    repeat' first | (refine SW.seq_k fun K hK => ?_) | ((first | refine SW.region ?_ | refine SW.cond ?_ | refine SW.skip ?_ | (refine allF_i fun b hb => ?_; replace hD := And.intro hb hD; clear hb; try simp only [fresh_cons, fresh_nil, and_true, ne_eq, neF] at hD) | simp only [appK, appOsK]); try simp only [go_sem, hD]) | (apply hK; clear hK K)
    rw [hfm]
    refine ⟨?_, by omega, by omega, allF_i fun b' hb' => ?_⟩
    · rw [List.all_eq_true]
      intro x hx
      obtain ⟨r, _, rfl⟩ := List.mem_map.1 hx
      rfl
    · apply hK
      clear hK K
      repeat' (refine SW.ret ?_; try simp only [go_sem, hD])
      refine retQ_le (fun M w0 D N a w r => r) ?_
      simp only [resL_tmp, resL_nil, tupOf, go_sem, hD]
      exact .inr ⟨_, rfl, rfl⟩
end Go.Proofs.YtblfodnajpamfaaGreatDoor
